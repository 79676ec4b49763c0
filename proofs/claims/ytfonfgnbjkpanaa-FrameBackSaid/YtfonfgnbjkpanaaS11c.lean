/- Contracts, printed by a program of this session's. -/
import Derived.Test.YtfonfgnbjkpanaaS11b
namespace Go.Proofs.Ytfonfgnbjkpanaa
open Go.Pv
set_option maxRecDepth 100000
set_option maxHeartbeats 4000000
set_option linter.unusedSimpArgs false
set_option linter.unusedVariables false
set_option linter.unusedSectionVars false

theorem bR_get0 {b : Bs} (h : 2 ≤ b.length) : (bR b)[(0 : Int).toNat]? = some [.int .u8 ((b[0]'(by omega)).toNat : Int)] := bR_get (i := 0) (by omega)
theorem bR_get1 {b : Bs} (h : 2 ≤ b.length) : (bR b)[(1 : Int).toNat]? = some [.int .u8 ((b[1]'(by omega)).toNat : Int)] := bR_get (i := 1) (by omega)
theorem num2_eq {b : Bs} (h : 2 ≤ b.length) : num2 b = (b[0]'(by omega)).toNat * 256 + (b[1]'(by omega)).toNat := by
  obtain ⟨x, y, r, rfl⟩ := two_of h; rfl
theorem ge2 {b : Bs} (h : decide (((bR b).length : Int) ≥ 2) = true) : 2 ≤ b.length := by rw [bR_length] at h; simp at h; omega
theorem nge2 {b : Bs} (h : decide (((bR b).length : Int) ≥ 2) = false) : b.length < 2 := by rw [bR_length] at h; simp at h; omega
theorem or8 {x y : UInt8} : bits .or .i64 (IntKind.wrap .i64 (IntKind.wrap .i64 (x.toNat : Int) * 2 ^ min (8 : Int).toNat (IntKind.bits .i64))) (IntKind.wrap .i64 (y.toNat : Int)) = ((x.toNat * 256 + y.toNat : Nat) : Int) := by
  have hx := x.toNat_lt
  have hy := y.toNat_lt
  have e : min (8 : Int).toNat (IntKind.bits .i64) = 8 := by decide
  rw [e, wrap_i64 (m := x.toNat) (by omega), wrap_i64 (m := y.toNat) (by omega)]
  have e2 : (2 : Int) ^ 8 = 256 := by decide
  rw [e2]
  have e3 : ((x.toNat : Int) * 256) = ((x.toNat * 256 : Nat) : Int) := by push_cast; rfl
  rw [e3, wrap_i64 (by omega)]
  have := bits_or_nat' (x.toNat * 256) y.toNat (by omega) (by omega)
  rw [this]
  congr 1
  have h2 : x.toNat * 256 = x.toNat <<< 8 := by rw [Nat.shiftLeft_eq]
  rw [h2, Nat.shiftLeft_add_eq_or_of_lt (by omega)]
where
  bits_or_nat' (a b : Nat) (ha : a < 9223372036854775808) (hb : b < 9223372036854775808) : bits .or .i64 (a : Int) (b : Int) = ((a ||| b : Nat) : Int) := by
    have hx : a ||| b < 2 ^ 63 := Nat.or_lt_two_pow (by omega) (by omega)
    have h1 : (BitVec.ofInt 64 (a : Int)).toNat = a := by
      rw [BitVec.ofInt_natCast, BitVec.toNat_ofNat]; exact Nat.mod_eq_of_lt (by omega)
    have h2 : (BitVec.ofInt 64 (b : Int)).toNat = b := by
      rw [BitVec.ofInt_natCast, BitVec.toNat_ofNat]; exact Nat.mod_eq_of_lt (by omega)
    show IntKind.i64.wrap ((BitVec.ofInt 64 (a : Int) ||| BitVec.ofInt 64 (b : Int)).toNat : Int) = _
    rw [BitVec.toNat_or, h1, h2]
    exact wrap_i64 (by omega)
theorem num2_or {b : Bs} (h : 2 ≤ b.length) : bits .or .i64 (IntKind.wrap .i64 (IntKind.wrap .i64 ((b[0]'(by omega)).toNat : Int) * 2 ^ min (8 : Int).toNat (IntKind.bits .i64))) (IntKind.wrap .i64 ((b[1]'(by omega)).toNat : Int)) = (num2 b : Int) := by
  rw [num2_eq h]; exact or8

section
attribute [local irreducible] awp aops DP PCall ACall Decidable.decide
/-- `plover/frame.New` -/
theorem new_c : ACall Try.prog 39 0 [] [] [] (fun r H O n => r = .ptr 0 0 ∧ H = [(0, 0, .own 1), (0, 1, .bool false)] ∧ O = [(1, .row 1 (bR []))] ∧ n = 2) := by
  refine acall_body Try.func39 rfl (by kernel_rfl) (by rfl) ?_
  refine awp_seq ?_
  refine awp_region ?_
  refine rv rfl rfl (?_)
  refine rn ?_
  refine then_normal ?_
  refine awp_seq ?_
  refine awp_region ?_
  refine rv rfl rfl (?_)
  refine rb rfl rfl (?_)
  (refine aops_conv (fun _ _ _ _ _ hi => nilS_cell false 1 0 0 rfl hi) ?_) <;> (
  refine rv rfl rfl (?_)
  refine rn ?_
  refine then_normal ?_
  refine awp_ret ?_
  repeat (first | refine then_ret ?_ | refine inBlock_ret ?_)
  refine rrA [0, 1] [(0, 0, .own 1), (0, 1, .bool false)] [(1, .row 1 (bR []))] rfl rfl rfl rfl ?_ ?_ (⟨rfl, rfl, rfl, rfl⟩)
  · refine ⟨⟨?_, rfl, rfl⟩, ?_⟩
    · first | exact ⟨_, rfl, .inl rfl⟩ | exact ⟨_, rfl, .inr rfl⟩ | (refine ⟨_, rfl, .inl ?_⟩; (first | refine ei ?_ | refine eb ?_ | refine esl ?_ | refine estr ?_ | skip); fail) | (refine ⟨_, rfl, .inr ?_⟩; (first | refine ei ?_ | refine eb ?_ | refine esl ?_ | refine estr ?_ | skip); fail)
    refine ⟨⟨?_, rfl, rfl⟩, ?_⟩
    · first | exact ⟨_, rfl, .inl rfl⟩ | exact ⟨_, rfl, .inr rfl⟩ | (refine ⟨_, rfl, .inl ?_⟩; (first | refine ei ?_ | refine eb ?_ | refine esl ?_ | refine estr ?_ | skip); fail) | (refine ⟨_, rfl, .inr ?_⟩; (first | refine ei ?_ | refine eb ?_ | refine esl ?_ | refine estr ?_ | skip); fail)
    exact trivial
  · refine ⟨orow rfl ?_ rfl, ?_⟩
    · first | rfl | (fail)
    exact trivial)
end

def feedI (x y : Bs) (p : List Bs × Bs) : Prop := parse (x ++ y) = (p.1 ++ (parse p.2).1, (parse p.2).2) ∧ p.2.length ≤ (x ++ y).length ∧ p.1.length ≤ (x ++ y).length - p.2.length
theorem feedI_step {x y : Bs} {p : List Bs × Bs} (h : feedI x y p) (h2 : 2 ≤ p.2.length) (hn : ¬ num2 p.2 > 4000) (hl : ¬ p.2.length < 2 + num2 p.2) :
    feedI x y (p.1 ++ [(p.2.take (2 + num2 p.2)).drop 2], p.2.drop (2 + num2 p.2)) := by
  obtain ⟨h1, h3, h4⟩ := h
  rw [parse_step h2 hn hl] at h1
  generalize hN : (x ++ y).length = N at h3 h4
  refine ⟨?_, ?_, ?_⟩
  · rw [h1]; simp
  · rw [hN]; simp; omega
  · rw [hN]; simp only [List.length_append, List.length_drop, List.length_cons, List.length_nil] at *; omega
theorem feedI_0 (x y : Bs) : feedI x y ([], x ++ y) := ⟨by simp, Nat.le_refl _, by simp⟩
theorem feedI_bad {x y : Bs} {p : List Bs × Bs} (h : feedI x y p) (h2 : 2 ≤ p.2.length) (hn : num2 p.2 > 4000) : parse (x ++ y) = (p.1, p.2, true) := by
  have := h.1; rw [parse_bad h2 hn] at this; simpa using this
theorem feedI_stop {x y : Bs} {p : List Bs × Bs} (h : feedI x y p) (h2 : 2 ≤ p.2.length) (hn : ¬ num2 p.2 > 4000) (hl : p.2.length < 2 + num2 p.2) : parse (x ++ y) = (p.1, p.2, false) := by
  have := h.1; rw [parse_stop h2 hn hl] at this; simpa using this
theorem feedI_short {x y : Bs} {p : List Bs × Bs} (h : feedI x y p) (h2 : p.2.length < 2) : parse (x ++ y) = (p.1, p.2, false) := by
  have := h.1; rw [parse_short h2] at this; simpa using this
theorem gt4 {n : Nat} (h : decide ((n : Int) > 4000) = true) : n > 4000 := by simp at h; omega
theorem ngt4 {n : Nat} (h : decide ((n : Int) > 4000) = false) : ¬ n > 4000 := by simp at h; omega
theorem W2 {n : Nat} (h : n < 65536) : IntKind.wrap .i64 (2 + (n : Int)) = ((2 + n : Nat) : Int) := by
  have := W_id (n := 2 + (n : Int)) (by omega); rw [W] at this; rw [this]; push_cast; rfl
theorem lt2 {b : Bs} {n : Nat} (hn : n < 65536) (h : decide (((bR b).length : Int) < IntKind.wrap .i64 (2 + (n : Int))) = true) : b.length < 2 + n := by
  rw [W2 hn, bR_length] at h; simp only [decide_eq_true_eq] at h; omega
theorem nlt2 {b : Bs} {n : Nat} (hn : n < 65536) (h : decide (((bR b).length : Int) < IntKind.wrap .i64 (2 + (n : Int))) = false) : ¬ b.length < 2 + n := by
  rw [W2 hn, bR_length] at h; simp only [decide_eq_false_iff_not] at h; omega
theorem bR_sub (b : Bs) (k : Nat) : ((bR b).take k).drop 2 = bR ((b.take k).drop 2) := by rw [bR_take, bR_drop]
theorem clone_c' {b : Bs} {k : Nat} (h : b.length ≤ 100000000000) : PCall Try.prog 66 [.sl (((bR b).take k).drop 2)] (· = .sl (bR ((b.take k).drop 2))) := by
  rw [bR_sub]; exact clone_c (by simp; omega)
theorem feedT_of {x y : Bs} {o : List Bs} {r : Bs} {b : Bool} (h : parse (x ++ y) = (o, r, b)) {b' : Bool} (hb : feedB false x y = b') :
    b' = b ∧ feedO false x y = o ∧ feedR false x y = r := by
  rw [← hb]; simp [feedB, feedO, feedR, h]

section
attribute [local irreducible] awp aops DP PCall ACall Decidable.decide
/-- `(*plover/frame.Reader).Feed` -/
theorem feed_bad {x y : Bs} : ACall Try.prog 40 2 [.ptr 0 0, .sl (bR y)] [(0, 0, .own 1), (0, 1, .bool true)] [(1, .row 1 (bR x))] (fun r H O n => r = feedT true x y true ∧ H = [(0, 0, .own 2), (0, 1, .bool true)] ∧ O = [(2, .row 1 (bR (feedR true x y)))] ∧ n = 3) := by
  refine acall_body Try.func40 rfl (by kernel_rfl) (by rfl) ?_
  refine awp_seq ?_
  refine awp_region ?_
  refine rv rfl rfl (?_)
  refine rv rfl rfl (?_)
  refine rn ?_
  refine then_normal ?_
  refine awp_seq ?_
  refine awp_seq ?_
  refine awp_region ?_
  refine rv rfl rfl (?_)
  refine rv rfl rfl (?_)
  refine rv rfl rfl (?_)
  refine rv rfl rfl (?_)
  refine rv rfl rfl (?_)
  refine rn ?_
  refine then_normal ?_
  refine cs_ rfl (fun hc => ?_) (fun hc => ?_)
  · first
    | (cases hc; done)
    | (
      exfalso
      cases hc)
  · first
    | (cases hc; done)
    | (
      refine awp_skip ?_
      refine then_normal ?_
      refine awp_seq ?_
      refine awp_region ?_
      refine rv rfl rfl (?_)
      refine rn ?_
      refine then_normal ?_
      refine awp_seq ?_
      refine awp_block ?_
      refine awp_loopR (ι := Unit) (fun i => ⟨[(0, .ptr 0 0), (6, .nilS)], [(0, 0, .own 1), (0, 1, .bool true)], [(1, .row 1 (bR x))], 2⟩) (fun i => True) (fun i => 0) (()) (trivial) ⟨[0, 1], rfl, ?_⟩ (fun i hi => ?_)
      · refine ⟨rfl, rfl, ?_, ?_, ?_⟩
        · refine ⟨⟨?_, rfl⟩, ?_⟩
          · first | exact .inl rfl | exact .inr rfl | (refine .inl ?_; (first | refine ei ?_ | refine eb ?_ | refine esl ?_ | refine estr ?_ | skip); fail) | (refine .inr ?_; (first | refine ei ?_ | refine eb ?_ | refine esl ?_ | refine estr ?_ | skip); fail)
          refine ⟨⟨?_, rfl⟩, ?_⟩
          · first | exact .inl rfl | exact .inr rfl | (refine .inl ?_; (first | refine ei ?_ | refine eb ?_ | refine esl ?_ | refine estr ?_ | skip); fail) | (refine .inr ?_; (first | refine ei ?_ | refine eb ?_ | refine esl ?_ | refine estr ?_ | skip); fail)
          exact trivial
        · refine ⟨⟨?_, rfl, rfl⟩, ?_⟩
          · first | exact ⟨_, rfl, .inl rfl⟩ | exact ⟨_, rfl, .inr rfl⟩ | (refine ⟨_, rfl, .inl ?_⟩; (first | refine ei ?_ | refine eb ?_ | refine esl ?_ | refine estr ?_ | skip); fail) | (refine ⟨_, rfl, .inr ?_⟩; (first | refine ei ?_ | refine eb ?_ | refine esl ?_ | refine estr ?_ | skip); fail)
          refine ⟨⟨?_, rfl, rfl⟩, ?_⟩
          · first | exact ⟨_, rfl, .inl rfl⟩ | exact ⟨_, rfl, .inr rfl⟩ | (refine ⟨_, rfl, .inl ?_⟩; (first | refine ei ?_ | refine eb ?_ | refine esl ?_ | refine estr ?_ | skip); fail) | (refine ⟨_, rfl, .inr ?_⟩; (first | refine ei ?_ | refine eb ?_ | refine esl ?_ | refine estr ?_ | skip); fail)
          exact trivial
        · refine ⟨orow rfl ?_ rfl, ?_⟩
          · first | rfl | (fail)
          exact trivial
      refine awp_seq ?_
      refine awp_seq ?_
      refine awp_region ?_
      refine rv rfl rfl (?_)
      refine rv rfl rfl (?_)
      refine rv rfl rfl (?_)
      refine rv rfl rfl (?_)
      refine rv rfl rfl (?_)
      refine rv rfl rfl (?_)
      (first | refine gy rfl rfl rfl (rv rfl rfl (?_)) | refine gn rfl rfl rfl rfl rfl ?_ | refine gu rfl rfl rfl rfl ?_ | refine gs rfl rfl rfl rfl rfl (fun hg => rv rfl rfl (?_)) (fun hg => ?_)) <;> (
      (first | refine gy rfl rfl rfl (rv rfl rfl (?_)) | refine gn rfl rfl rfl rfl rfl ?_ | refine gu rfl rfl rfl rfl ?_ | refine gs rfl rfl rfl rfl rfl (fun hg => rv rfl rfl (?_)) (fun hg => ?_)) <;> (
      (first | refine gy rfl rfl rfl (rv rfl rfl (?_)) | refine gn rfl rfl rfl rfl rfl ?_ | refine gu rfl rfl rfl rfl ?_ | refine gs rfl rfl rfl rfl rfl (fun hg => rv rfl rfl (?_)) (fun hg => ?_)) <;> (
      (first | refine gy rfl rfl rfl (rv rfl rfl (?_)) | refine gn rfl rfl rfl rfl rfl ?_ | refine gu rfl rfl rfl rfl ?_ | refine gs rfl rfl rfl rfl rfl (fun hg => rv rfl rfl (?_)) (fun hg => ?_)) <;> (
      (first | refine gy rfl rfl rfl (rv rfl rfl (?_)) | refine gn rfl rfl rfl rfl rfl ?_ | refine gu rfl rfl rfl rfl ?_ | refine gs rfl rfl rfl rfl rfl (fun hg => rv rfl rfl (?_)) (fun hg => ?_)) <;> (
      (first | refine gy rfl rfl rfl (rv rfl rfl (?_)) | refine gn rfl rfl rfl rfl rfl ?_ | refine gu rfl rfl rfl rfl ?_ | refine gs rfl rfl rfl rfl rfl (fun hg => rv rfl rfl (?_)) (fun hg => ?_)) <;> (
      refine rv rfl rfl (?_)
      refine rn ?_
      refine then_normal ?_
      refine cs_ rfl (fun hc => ?_) (fun hc => ?_)
      · first
        | (cases hc; done)
        | (
          refine awp_skip ?_
          refine then_normal ?_
          refine awp_block ?_
          refine awp_seq ?_
          exfalso
          cases hc)
      · first
        | (cases hc; done)
        | (
          refine awp_exit ?_
          repeat (first | refine then_exit ?_ | refine inBlock_other rfl ?_)
          refine inBlock_exit ?_
          refine then_normal ?_
          refine awp_seq ?_
          refine awp_seq ?_
          refine awp_region ?_
          refine rv rfl rfl (?_)
          refine rv rfl rfl (?_)
          refine rv rfl rfl (?_)
          refine rv rfl rfl (?_)
          refine rn ?_
          refine then_normal ?_
          refine cs_ rfl (fun hc => ?_) (fun hc => ?_)
          · first
            | (cases hc; done)
            | (
              refine awp_seq ?_
              (refine awp_conv (fun _ _ _ _ _ hi => row_again (wr := false) 0 0 1 rfl rfl hi) ?_) <;> (
              refine awp_region ?_
              refine rv rfl rfl (?_)
              refine rv rfl rfl (?_)
              refine rv rfl rfl (?_)
              refine rv rfl rfl (?_)
              refine rn ?_
              refine then_normal ?_
              refine awp_ret ?_
              repeat (first | refine then_ret ?_ | refine inBlock_ret ?_)
              refine rrA [0, 1, 2] [(0, 0, .own 2), (0, 1, .bool true)] [(2, .row 1 (bR x))] rfl rfl rfl rfl ?_ ?_ (⟨rfl, rfl, rfl, rfl⟩)
              · refine ⟨⟨?_, rfl, rfl⟩, ?_⟩
                · first | exact ⟨_, rfl, .inl rfl⟩ | exact ⟨_, rfl, .inr rfl⟩ | (refine ⟨_, rfl, .inl ?_⟩; (first | refine ei ?_ | refine eb ?_ | refine esl ?_ | refine estr ?_ | skip); fail) | (refine ⟨_, rfl, .inr ?_⟩; (first | refine ei ?_ | refine eb ?_ | refine esl ?_ | refine estr ?_ | skip); fail)
                refine ⟨⟨?_, rfl, rfl⟩, ?_⟩
                · first | exact ⟨_, rfl, .inl rfl⟩ | exact ⟨_, rfl, .inr rfl⟩ | (refine ⟨_, rfl, .inl ?_⟩; (first | refine ei ?_ | refine eb ?_ | refine esl ?_ | refine estr ?_ | skip); fail) | (refine ⟨_, rfl, .inr ?_⟩; (first | refine ei ?_ | refine eb ?_ | refine esl ?_ | refine estr ?_ | skip); fail)
                exact trivial
              · refine ⟨orow rfl ?_ rfl, ?_⟩
                · first | rfl | (fail)
                exact trivial))
          · first
            | (cases hc; done)
            | (
              refine awp_skip ?_
              refine then_normal ?_
              refine awp_seq ?_
              exfalso
              cases hc)))))))))
end

section
attribute [local irreducible] awp aops DP PCall ACall Decidable.decide
/-- `(*plover/frame.Reader).Feed` -/
theorem feed_ok {x y : Bs} {b : Bool} (hl : (x ++ y).length ≤ 1000000000) (hb : feedB false x y = b) : ACall Try.prog 40 2 [.ptr 0 0, .sl (bR y)] [(0, 0, .own 1), (0, 1, .bool false)] [(1, .row 1 (bR x))] (fun r H O n => r = feedT false x y b ∧ H = [(0, 0, .own 2), (0, 1, .bool b)] ∧ O = [(2, .row 1 (bR (feedR false x y)))] ∧ n = 3) := by
  refine acall_body Try.func40 rfl (by kernel_rfl) (by rfl) ?_
  refine awp_seq ?_
  refine awp_region ?_
  refine rv rfl rfl (?_)
  refine rv rfl rfl (?_)
  refine rn ?_
  refine then_normal ?_
  refine awp_seq ?_
  refine awp_seq ?_
  refine awp_region ?_
  refine rv rfl rfl (?_)
  refine rv rfl rfl (?_)
  refine rv rfl rfl (?_)
  refine rv rfl rfl (?_)
  refine rv rfl rfl (?_)
  refine rn ?_
  refine then_normal ?_
  refine cs_ rfl (fun hc => ?_) (fun hc => ?_)
  · first
    | (cases hc; done)
    | (
      refine awp_region ?_
      refine rv rfl rfl (?_)
      refine rv rfl rfl (?_)
      refine rv rfl rfl (?_)
      refine rv rfl rfl (?_)
      refine rv rfl rfl (?_)
      refine rv rfl rfl (?_)
      refine rap false rfl rfl rfl rfl rfl rfl rfl (.own rfl rfl) (.sl rfl rfl rfl) (bR_plain y).wide (bR_plain y).ones (by show (_ + _) * 1 ≤ _; rw [bR_length, bR_length]; simp only [List.length_append] at hl; omega) rfl (?_)
      refine rv rfl rfl (?_)
      refine rv rfl rfl (?_)
      refine rs rfl rfl rfl rfl rfl rfl rfl (?_)
      refine rn ?_
      refine then_normal ?_
      refine awp_seq ?_
      refine awp_region ?_
      refine rv rfl rfl (?_)
      refine rn ?_
      refine then_normal ?_
      refine awp_seq ?_
      refine awp_block ?_
      refine awp_conv (fun _ _ _ _ _ hi => nilS_slot false 1 6 rfl hi) ?_
      refine awp_loopR (ι := List Bs × Bs) (fun p => ⟨[(0, .ptr 0 0), (6, .own 3)], [(0, 0, .own 2), (0, 1, .bool false)], [(2, .row 1 (bR p.2)), (3, .row 1 (nR p.1))], 4⟩) (fun p => feedI x y p) (fun p => p.2.length) (([], x ++ y)) (feedI_0 x y) ⟨[0, 1, 2, 3], rfl, ?_⟩ (fun p hp => ?_)
      · refine ⟨rfl, rfl, ?_, ?_, ?_⟩
        · refine ⟨⟨?_, rfl⟩, ?_⟩
          · first | exact .inl rfl | exact .inr rfl | (refine .inl ?_; (first | refine ei ?_ | refine eb ?_ | refine esl ?_ | refine estr ?_ | skip); first | assumption | exact bR_append _ _ | exact bR_drop _ _ | (simp [nR]; done) | rfl) | (refine .inr ?_; (first | refine ei ?_ | refine eb ?_ | refine esl ?_ | refine estr ?_ | skip); first | assumption | exact bR_append _ _ | exact bR_drop _ _ | (simp [nR]; done) | rfl)
          refine ⟨⟨?_, rfl⟩, ?_⟩
          · first | exact .inl rfl | exact .inr rfl | (refine .inl ?_; (first | refine ei ?_ | refine eb ?_ | refine esl ?_ | refine estr ?_ | skip); first | assumption | exact bR_append _ _ | exact bR_drop _ _ | (simp [nR]; done) | rfl) | (refine .inr ?_; (first | refine ei ?_ | refine eb ?_ | refine esl ?_ | refine estr ?_ | skip); first | assumption | exact bR_append _ _ | exact bR_drop _ _ | (simp [nR]; done) | rfl)
          exact trivial
        · refine ⟨⟨?_, rfl, rfl⟩, ?_⟩
          · first | exact ⟨_, rfl, .inl rfl⟩ | exact ⟨_, rfl, .inr rfl⟩ | (refine ⟨_, rfl, .inl ?_⟩; (first | refine ei ?_ | refine eb ?_ | refine esl ?_ | refine estr ?_ | skip); first | assumption | exact bR_append _ _ | exact bR_drop _ _ | (simp [nR]; done) | rfl) | (refine ⟨_, rfl, .inr ?_⟩; (first | refine ei ?_ | refine eb ?_ | refine esl ?_ | refine estr ?_ | skip); first | assumption | exact bR_append _ _ | exact bR_drop _ _ | (simp [nR]; done) | rfl)
          refine ⟨⟨?_, rfl, rfl⟩, ?_⟩
          · first | exact ⟨_, rfl, .inl rfl⟩ | exact ⟨_, rfl, .inr rfl⟩ | (refine ⟨_, rfl, .inl ?_⟩; (first | refine ei ?_ | refine eb ?_ | refine esl ?_ | refine estr ?_ | skip); first | assumption | exact bR_append _ _ | exact bR_drop _ _ | (simp [nR]; done) | rfl) | (refine ⟨_, rfl, .inr ?_⟩; (first | refine ei ?_ | refine eb ?_ | refine esl ?_ | refine estr ?_ | skip); first | assumption | exact bR_append _ _ | exact bR_drop _ _ | (simp [nR]; done) | rfl)
          exact trivial
        · refine ⟨orow rfl ?_ rfl, ?_⟩
          · first | rfl | (first | assumption | exact bR_append _ _ | exact bR_drop _ _ | (simp [nR]; done) | rfl)
          refine ⟨orow rfl ?_ rfl, ?_⟩
          · first | rfl | (first | assumption | exact bR_append _ _ | exact bR_drop _ _ | (simp [nR]; done) | rfl)
          exact trivial
      refine awp_seq ?_
      refine awp_seq ?_
      refine awp_region ?_
      refine rv rfl rfl (?_)
      refine rv rfl rfl (?_)
      refine rv rfl rfl (?_)
      refine rv rfl rfl (?_)
      refine rv rfl rfl (?_)
      refine rv rfl rfl (?_)
      (first | refine gy rfl rfl rfl (rv rfl rfl (?_)) | refine gn rfl rfl rfl rfl rfl ?_ | refine gu rfl rfl rfl rfl ?_ | refine gs rfl rfl rfl rfl rfl (fun hg => rv rfl rfl (?_)) (fun hg => ?_)) <;> (
      (first | refine gy rfl rfl rfl (rv rfl rfl (?_)) | refine gn rfl rfl rfl rfl rfl ?_ | refine gu rfl rfl rfl rfl ?_ | refine gs rfl rfl rfl rfl rfl (fun hg => rv rfl rfl (?_)) (fun hg => ?_)) <;> (
      (first | refine gy rfl rfl rfl (rv rfl rfl (?_)) | refine gn rfl rfl rfl rfl rfl ?_ | refine gu rfl rfl rfl rfl ?_ | refine gs rfl rfl rfl rfl rfl (fun hg => rv rfl rfl (?_)) (fun hg => ?_)) <;> (
      (first | refine gy rfl rfl rfl (rv rfl rfl (?_)) | refine gn rfl rfl rfl rfl rfl ?_ | refine gu rfl rfl rfl rfl ?_ | refine gs rfl rfl rfl rfl rfl (fun hg => rv rfl rfl (?_)) (fun hg => ?_)) <;> (
      (first | refine gy rfl rfl rfl (rv rfl rfl (?_)) | refine gn rfl rfl rfl rfl rfl ?_ | refine gu rfl rfl rfl rfl ?_ | refine gs rfl rfl rfl rfl rfl (fun hg => rv rfl rfl (?_)) (fun hg => ?_)) <;> (
      (first | refine gy rfl rfl rfl (rv rfl rfl (?_)) | refine gn rfl rfl rfl rfl rfl ?_ | refine gu rfl rfl rfl rfl ?_ | refine gs rfl rfl rfl rfl rfl (fun hg => rv rfl rfl (?_)) (fun hg => ?_)) <;> (
      refine rv rfl rfl (?_)
      refine rn ?_
      refine then_normal ?_
      refine cs_ rfl (fun hc => ?_) (fun hc => ?_)
      · first
        | (cases hc; done)
        | (
          refine awp_skip ?_
          refine then_normal ?_
          refine awp_block ?_
          refine awp_seq ?_
          (have h2 := ge2 (by assumption)) <;> (
          refine awp_dp (m := 16) Try.mix (by kernel_rfl) (by kernel_rfl) (by kernel_rfl) (by kernel_rfl) (by kernel_rfl) (by kernel_rfl) (by kernel_rfl) ?_
          refine dv rfl rfl (fun _ => rfl) ?_
          refine dv rfl rfl (fun _ => rfl) ?_
          refine dv rfl rfl (fun _ => rfl) ?_
          refine dv rfl rfl (fun _ => rfl) ?_
          refine di rfl rfl rfl rfl rfl (fun _ => rfl) rfl (by decide) (bR_get0 h2) (bR_plain _).wide ?_
          refine dv rfl rfl (fun _ => rfl) ?_
          refine dv rfl rfl (fun _ => rfl) ?_
          refine dv rfl rfl (fun _ => rfl) ?_
          refine dv rfl rfl (fun _ => rfl) ?_
          refine dv rfl rfl (fun _ => rfl) ?_
          refine dv rfl rfl (fun _ => rfl) ?_
          refine dv rfl rfl (fun _ => rfl) ?_
          refine di rfl rfl rfl rfl rfl (fun _ => rfl) rfl (by decide) (bR_get1 h2) (bR_plain _).wide ?_
          refine dv rfl rfl (fun _ => rfl) ?_
          refine dv rfl rfl (fun _ => rfl) ?_
          refine dv (v := .int .i64 (num2 p.2 : Int)) rfl rfl (fun m => congrArg (fun z => some (AV.int .i64 z)) (num2_or h2)) ?_
          refine dn ?_
          refine rv rfl rfl (?_)
          refine rn ?_
          refine then_normal ?_
          refine awp_seq ?_
          refine awp_region ?_
          refine rv rfl rfl (?_)
          refine rv rfl rfl (?_)
          refine rv rfl rfl (?_)
          refine rv rfl rfl (?_)
          refine rv rfl rfl (?_)
          refine rs rfl rfl rfl rfl rfl rfl rfl (?_)
          refine rn ?_
          refine then_normal ?_
          refine awp_seq ?_
          refine awp_seq ?_
          refine awp_region ?_
          refine rv rfl rfl (?_)
          refine rv rfl rfl (?_)
          refine rv rfl rfl (?_)
          refine rv rfl rfl (?_)
          refine rv rfl rfl (?_)
          (first | refine gy rfl rfl rfl (rv rfl rfl (?_)) | refine gn rfl rfl rfl rfl rfl ?_ | refine gu rfl rfl rfl rfl ?_ | refine gs rfl rfl rfl rfl rfl (fun hg => rv rfl rfl (?_)) (fun hg => ?_)) <;> (
          (first | refine gy rfl rfl rfl (rv rfl rfl (?_)) | refine gn rfl rfl rfl rfl rfl ?_ | refine gu rfl rfl rfl rfl ?_ | refine gs rfl rfl rfl rfl rfl (fun hg => rv rfl rfl (?_)) (fun hg => ?_)) <;> (
          (first | refine gy rfl rfl rfl (rv rfl rfl (?_)) | refine gn rfl rfl rfl rfl rfl ?_ | refine gu rfl rfl rfl rfl ?_ | refine gs rfl rfl rfl rfl rfl (fun hg => rv rfl rfl (?_)) (fun hg => ?_)) <;> (
          (first | refine gy rfl rfl rfl (rv rfl rfl (?_)) | refine gn rfl rfl rfl rfl rfl ?_ | refine gu rfl rfl rfl rfl ?_ | refine gs rfl rfl rfl rfl rfl (fun hg => rv rfl rfl (?_)) (fun hg => ?_)) <;> (
          (first | refine gy rfl rfl rfl (rv rfl rfl (?_)) | refine gn rfl rfl rfl rfl rfl ?_ | refine gu rfl rfl rfl rfl ?_ | refine gs rfl rfl rfl rfl rfl (fun hg => rv rfl rfl (?_)) (fun hg => ?_)) <;> (
          (first | refine gy rfl rfl rfl (rv rfl rfl (?_)) | refine gn rfl rfl rfl rfl rfl ?_ | refine gu rfl rfl rfl rfl ?_ | refine gs rfl rfl rfl rfl rfl (fun hg => rv rfl rfl (?_)) (fun hg => ?_)) <;> (
          (first | refine gy rfl rfl rfl (rv rfl rfl (?_)) | refine gn rfl rfl rfl rfl rfl ?_ | refine gu rfl rfl rfl rfl ?_ | refine gs rfl rfl rfl rfl rfl (fun hg => rv rfl rfl (?_)) (fun hg => ?_)) <;> (
          (first | refine gy rfl rfl rfl (rv rfl rfl (?_)) | refine gn rfl rfl rfl rfl rfl ?_ | refine gu rfl rfl rfl rfl ?_ | refine gs rfl rfl rfl rfl rfl (fun hg => rv rfl rfl (?_)) (fun hg => ?_)) <;> (
          refine rv rfl rfl (?_)
          refine rn ?_
          refine then_normal ?_
          refine cs_ rfl (fun hc => ?_) (fun hc => ?_)
          · first
            | (cases hc; done)
            | (
              refine awp_exit ?_
              repeat (first | refine then_exit ?_ | refine inBlock_other rfl ?_)
              refine inBlock_exit ?_
              refine then_normal ?_
              refine awp_seq ?_
              refine awp_seq ?_
              refine awp_region ?_
              refine rv rfl rfl (?_)
              refine rv rfl rfl (?_)
              refine rv rfl rfl (?_)
              refine rv rfl rfl (?_)
              refine rn ?_
              refine then_normal ?_
              refine cs_ rfl (fun hc => ?_) (fun hc => ?_)
              · first
                | (cases hc; done)
                | (
                  refine awp_seq ?_
                  refine awp_region ?_
                  refine rv rfl rfl (?_)
                  refine rv rfl rfl (?_)
                  refine rv rfl rfl (?_)
                  refine rv rfl rfl (?_)
                  refine rn ?_
                  refine then_normal ?_
                  refine awp_ret ?_
                  repeat (first | refine then_ret ?_ | refine inBlock_ret ?_)
                  first | (exfalso; simp_all; done) | (have hq : parse (x ++ y) = (p.1, p.2, true) := (by first | exact feedI_bad hp h2 (gt4 (by assumption))); obtain ⟨rfl, e1, e2⟩ := feedT_of hq hb; (refine rrA (r := .tup [.sl (nR p.1), errB true 5]) [0, 1, 2] [(0, 0, .own 2), (0, 1, .bool true)] [(2, .row 1 (bR (feedR false x y)))] rfl rfl rfl rfl (by repeat' (first | exact trivial | exact ⟨_, rfl, .inl rfl⟩ | exact ⟨_, rfl, .inr rfl⟩ | (refine ⟨_, rfl, .inl ?_⟩; (first | refine ei ?_ | refine eb ?_ | refine esl ?_ | refine estr ?_ | skip); first | assumption | (rw [e2]; done)) | (refine ⟨_, rfl, .inr ?_⟩; (first | refine ei ?_ | refine eb ?_ | refine esl ?_ | refine estr ?_ | skip); first | assumption | (rw [e2]; done)) | refine ⟨⟨?_, rfl, rfl⟩, ?_⟩)) (by repeat' (first | exact trivial | refine ⟨orow rfl ?_ rfl, ?_⟩ | refine ⟨owr rfl ?_ (bR_plain y |>.lim) rfl, ?_⟩ | rfl | (first | assumption | (rw [e2]; done)))) (⟨by unfold feedT; rw [e1], rfl, rfl, rfl⟩))) | (have hq : parse (x ++ y) = (p.1, p.2, false) := (by first | exact feedI_short hp (nge2 (by assumption)) | exact feedI_stop hp h2 (ngt4 (by assumption)) (lt2 (num2_lt _) (by assumption))); obtain ⟨rfl, e1, e2⟩ := feedT_of hq hb; (refine rrA (r := .tup [.sl (nR p.1), errB false 5]) [0, 1, 2] [(0, 0, .own 2), (0, 1, .bool false)] [(2, .row 1 (bR (feedR false x y)))] rfl rfl rfl rfl (by repeat' (first | exact trivial | exact ⟨_, rfl, .inl rfl⟩ | exact ⟨_, rfl, .inr rfl⟩ | (refine ⟨_, rfl, .inl ?_⟩; (first | refine ei ?_ | refine eb ?_ | refine esl ?_ | refine estr ?_ | skip); first | assumption | (rw [e2]; done)) | (refine ⟨_, rfl, .inr ?_⟩; (first | refine ei ?_ | refine eb ?_ | refine esl ?_ | refine estr ?_ | skip); first | assumption | (rw [e2]; done)) | refine ⟨⟨?_, rfl, rfl⟩, ?_⟩)) (by repeat' (first | exact trivial | refine ⟨orow rfl ?_ rfl, ?_⟩ | refine ⟨owr rfl ?_ (bR_plain y |>.lim) rfl, ?_⟩ | rfl | (first | assumption | (rw [e2]; done)))) (⟨by unfold feedT; rw [e1], rfl, rfl, rfl⟩))))
              · first
                | (cases hc; done)
                | (
                  refine awp_skip ?_
                  refine then_normal ?_
                  refine awp_seq ?_
                  refine awp_region ?_
                  refine rv rfl rfl (?_)
                  refine rv rfl rfl (?_)
                  refine rv rfl rfl (?_)
                  refine rn ?_
                  refine then_normal ?_
                  refine awp_ret ?_
                  repeat (first | refine then_ret ?_ | refine inBlock_ret ?_)
                  first | (exfalso; simp_all; done) | (have hq : parse (x ++ y) = (p.1, p.2, true) := (by first | exact feedI_bad hp h2 (gt4 (by assumption))); obtain ⟨rfl, e1, e2⟩ := feedT_of hq hb; (refine rrA (r := .tup [.sl (nR p.1), errB true 5]) [0, 1, 2] [(0, 0, .own 2), (0, 1, .bool true)] [(2, .row 1 (bR (feedR false x y)))] rfl rfl rfl rfl (by repeat' (first | exact trivial | exact ⟨_, rfl, .inl rfl⟩ | exact ⟨_, rfl, .inr rfl⟩ | (refine ⟨_, rfl, .inl ?_⟩; (first | refine ei ?_ | refine eb ?_ | refine esl ?_ | refine estr ?_ | skip); first | assumption | (rw [e2]; done)) | (refine ⟨_, rfl, .inr ?_⟩; (first | refine ei ?_ | refine eb ?_ | refine esl ?_ | refine estr ?_ | skip); first | assumption | (rw [e2]; done)) | refine ⟨⟨?_, rfl, rfl⟩, ?_⟩)) (by repeat' (first | exact trivial | refine ⟨orow rfl ?_ rfl, ?_⟩ | refine ⟨owr rfl ?_ (bR_plain y |>.lim) rfl, ?_⟩ | rfl | (first | assumption | (rw [e2]; done)))) (⟨by unfold feedT; rw [e1], rfl, rfl, rfl⟩))) | (have hq : parse (x ++ y) = (p.1, p.2, false) := (by first | exact feedI_short hp (nge2 (by assumption)) | exact feedI_stop hp h2 (ngt4 (by assumption)) (lt2 (num2_lt _) (by assumption))); obtain ⟨rfl, e1, e2⟩ := feedT_of hq hb; (refine rrA (r := .tup [.sl (nR p.1), errB false 5]) [0, 1, 2] [(0, 0, .own 2), (0, 1, .bool false)] [(2, .row 1 (bR (feedR false x y)))] rfl rfl rfl rfl (by repeat' (first | exact trivial | exact ⟨_, rfl, .inl rfl⟩ | exact ⟨_, rfl, .inr rfl⟩ | (refine ⟨_, rfl, .inl ?_⟩; (first | refine ei ?_ | refine eb ?_ | refine esl ?_ | refine estr ?_ | skip); first | assumption | (rw [e2]; done)) | (refine ⟨_, rfl, .inr ?_⟩; (first | refine ei ?_ | refine eb ?_ | refine esl ?_ | refine estr ?_ | skip); first | assumption | (rw [e2]; done)) | refine ⟨⟨?_, rfl, rfl⟩, ?_⟩)) (by repeat' (first | exact trivial | refine ⟨orow rfl ?_ rfl, ?_⟩ | refine ⟨owr rfl ?_ (bR_plain y |>.lim) rfl, ?_⟩ | rfl | (first | assumption | (rw [e2]; done)))) (⟨by unfold feedT; rw [e1], rfl, rfl, rfl⟩)))))
          · first
            | (cases hc; done)
            | (
              refine awp_skip ?_
              refine then_normal ?_
              refine awp_seq ?_
              (have hn := ngt4 (by assumption); have hf := nlt2 (num2_lt _) (by assumption)) <;> (
              refine awp_region ?_
              refine rv rfl rfl (?_)
              refine rv rfl rfl (?_)
              refine rv rfl rfl (?_)
              refine rv rfl rfl (?_)
              refine rv rfl rfl (?_)
              refine rv rfl rfl (?_)
              refine rv rfl rfl (?_)
              refine rV rfl (va_sub (l := 2) (h := 2 + num2 p.2) rfl rfl rfl rfl ⟨_, rfl⟩ ⟨_, congrArg (AV.int .i64) (W2 (num2_lt _))⟩ (by omega) (by rw [bR_length]; omega) (bR_plain _).wide) (?_)
              refine rc1 rfl rfl rfl (clone_c' (by have := hp.2.1; omega)) (?_)
              refine rbs false rfl rfl rfl rfl rfl rfl rfl rfl rfl rfl (?_)
              refine rap false rfl rfl rfl rfl rfl rfl rfl (.own rfl rfl) (.sl rfl rfl rfl) (nR_plain [_]).wide (nR_plain [_]).ones (by show (_ + 1) * 24 ≤ _; rw [nR_length]; have := hp.2.2; omega) rfl (?_)
              refine rv rfl rfl (?_)
              refine rn ?_
              refine then_normal ?_
              refine awp_region ?_
              refine rv rfl rfl (?_)
              refine rv rfl rfl (?_)
              refine rv rfl rfl (?_)
              refine rv rfl rfl (?_)
              refine rv rfl rfl (?_)
              refine rv rfl rfl (?_)
              refine rv rfl rfl (?_)
              refine rtl rfl rfl rfl rfl rfl rfl rfl ⟨_, congrArg (AV.int .i64) (W2 (num2_lt _))⟩ (by rw [bR_length]; omega) rfl (?_)
              refine rv rfl rfl (?_)
              refine rv rfl rfl (?_)
              refine rs rfl rfl rfl rfl rfl rfl rfl (?_)
              refine rn ?_
              refine inBlock_normal ?_
              refine then_normal ?_
              refine ⟨(p.1 ++ [(p.2.take (2 + num2 p.2)).drop 2], p.2.drop (2 + num2 p.2)), feedI_step hp h2 hn hf, by simp; omega, [0, 1, 6, 5], rfl, ?_⟩
              refine ⟨rfl, rfl, ?_, ?_, ?_⟩
              · refine ⟨⟨?_, rfl⟩, ?_⟩
                · first | exact .inl rfl | exact .inr rfl | (refine .inl ?_; (first | refine ei ?_ | refine eb ?_ | refine esl ?_ | refine estr ?_ | skip); first | assumption | exact bR_append _ _ | exact bR_drop _ _ | (simp [nR]; done) | rfl) | (refine .inr ?_; (first | refine ei ?_ | refine eb ?_ | refine esl ?_ | refine estr ?_ | skip); first | assumption | exact bR_append _ _ | exact bR_drop _ _ | (simp [nR]; done) | rfl)
                refine ⟨⟨?_, rfl⟩, ?_⟩
                · first | exact .inl rfl | exact .inr rfl | (refine .inl ?_; (first | refine ei ?_ | refine eb ?_ | refine esl ?_ | refine estr ?_ | skip); first | assumption | exact bR_append _ _ | exact bR_drop _ _ | (simp [nR]; done) | rfl) | (refine .inr ?_; (first | refine ei ?_ | refine eb ?_ | refine esl ?_ | refine estr ?_ | skip); first | assumption | exact bR_append _ _ | exact bR_drop _ _ | (simp [nR]; done) | rfl)
                exact trivial
              · refine ⟨⟨?_, rfl, rfl⟩, ?_⟩
                · first | exact ⟨_, rfl, .inl rfl⟩ | exact ⟨_, rfl, .inr rfl⟩ | (refine ⟨_, rfl, .inl ?_⟩; (first | refine ei ?_ | refine eb ?_ | refine esl ?_ | refine estr ?_ | skip); first | assumption | exact bR_append _ _ | exact bR_drop _ _ | (simp [nR]; done) | rfl) | (refine ⟨_, rfl, .inr ?_⟩; (first | refine ei ?_ | refine eb ?_ | refine esl ?_ | refine estr ?_ | skip); first | assumption | exact bR_append _ _ | exact bR_drop _ _ | (simp [nR]; done) | rfl)
                refine ⟨⟨?_, rfl, rfl⟩, ?_⟩
                · first | exact ⟨_, rfl, .inl rfl⟩ | exact ⟨_, rfl, .inr rfl⟩ | (refine ⟨_, rfl, .inl ?_⟩; (first | refine ei ?_ | refine eb ?_ | refine esl ?_ | refine estr ?_ | skip); first | assumption | exact bR_append _ _ | exact bR_drop _ _ | (simp [nR]; done) | rfl) | (refine ⟨_, rfl, .inr ?_⟩; (first | refine ei ?_ | refine eb ?_ | refine esl ?_ | refine estr ?_ | skip); first | assumption | exact bR_append _ _ | exact bR_drop _ _ | (simp [nR]; done) | rfl)
                exact trivial
              · refine ⟨orow rfl ?_ rfl, ?_⟩
                · first | rfl | (first | assumption | exact bR_append _ _ | exact bR_drop _ _ | (simp [nR]; done) | rfl)
                refine ⟨orow rfl ?_ rfl, ?_⟩
                · first | rfl | (first | assumption | exact bR_append _ _ | exact bR_drop _ _ | (simp [nR]; done) | rfl)
                exact trivial))))))))))))
      · first
        | (cases hc; done)
        | (
          refine awp_exit ?_
          repeat (first | refine then_exit ?_ | refine inBlock_other rfl ?_)
          refine inBlock_exit ?_
          refine then_normal ?_
          refine awp_seq ?_
          refine awp_seq ?_
          refine awp_region ?_
          refine rv rfl rfl (?_)
          refine rv rfl rfl (?_)
          refine rv rfl rfl (?_)
          refine rv rfl rfl (?_)
          refine rn ?_
          refine then_normal ?_
          refine cs_ rfl (fun hc => ?_) (fun hc => ?_)
          · first
            | (cases hc; done)
            | (
              refine awp_seq ?_
              refine awp_region ?_
              refine rv rfl rfl (?_)
              refine rv rfl rfl (?_)
              refine rv rfl rfl (?_)
              refine rv rfl rfl (?_)
              refine rn ?_
              refine then_normal ?_
              refine awp_ret ?_
              repeat (first | refine then_ret ?_ | refine inBlock_ret ?_)
              first | (exfalso; simp_all; done) | (have hq : parse (x ++ y) = (p.1, p.2, true) := (by first | exact feedI_bad hp h2 (gt4 (by assumption))); obtain ⟨rfl, e1, e2⟩ := feedT_of hq hb; (refine rrA (r := .tup [.sl (nR p.1), errB true 5]) [0, 1, 2] [(0, 0, .own 2), (0, 1, .bool true)] [(2, .row 1 (bR (feedR false x y)))] rfl rfl rfl rfl (by repeat' (first | exact trivial | exact ⟨_, rfl, .inl rfl⟩ | exact ⟨_, rfl, .inr rfl⟩ | (refine ⟨_, rfl, .inl ?_⟩; (first | refine ei ?_ | refine eb ?_ | refine esl ?_ | refine estr ?_ | skip); first | assumption | (rw [e2]; done)) | (refine ⟨_, rfl, .inr ?_⟩; (first | refine ei ?_ | refine eb ?_ | refine esl ?_ | refine estr ?_ | skip); first | assumption | (rw [e2]; done)) | refine ⟨⟨?_, rfl, rfl⟩, ?_⟩)) (by repeat' (first | exact trivial | refine ⟨orow rfl ?_ rfl, ?_⟩ | refine ⟨owr rfl ?_ (bR_plain y |>.lim) rfl, ?_⟩ | rfl | (first | assumption | (rw [e2]; done)))) (⟨by unfold feedT; rw [e1], rfl, rfl, rfl⟩))) | (have hq : parse (x ++ y) = (p.1, p.2, false) := (by first | exact feedI_short hp (nge2 (by assumption)) | exact feedI_stop hp h2 (ngt4 (by assumption)) (lt2 (num2_lt _) (by assumption))); obtain ⟨rfl, e1, e2⟩ := feedT_of hq hb; (refine rrA (r := .tup [.sl (nR p.1), errB false 5]) [0, 1, 2] [(0, 0, .own 2), (0, 1, .bool false)] [(2, .row 1 (bR (feedR false x y)))] rfl rfl rfl rfl (by repeat' (first | exact trivial | exact ⟨_, rfl, .inl rfl⟩ | exact ⟨_, rfl, .inr rfl⟩ | (refine ⟨_, rfl, .inl ?_⟩; (first | refine ei ?_ | refine eb ?_ | refine esl ?_ | refine estr ?_ | skip); first | assumption | (rw [e2]; done)) | (refine ⟨_, rfl, .inr ?_⟩; (first | refine ei ?_ | refine eb ?_ | refine esl ?_ | refine estr ?_ | skip); first | assumption | (rw [e2]; done)) | refine ⟨⟨?_, rfl, rfl⟩, ?_⟩)) (by repeat' (first | exact trivial | refine ⟨orow rfl ?_ rfl, ?_⟩ | refine ⟨owr rfl ?_ (bR_plain y |>.lim) rfl, ?_⟩ | rfl | (first | assumption | (rw [e2]; done)))) (⟨by unfold feedT; rw [e1], rfl, rfl, rfl⟩))))
          · first
            | (cases hc; done)
            | (
              refine awp_skip ?_
              refine then_normal ?_
              refine awp_seq ?_
              refine awp_region ?_
              refine rv rfl rfl (?_)
              refine rv rfl rfl (?_)
              refine rv rfl rfl (?_)
              refine rn ?_
              refine then_normal ?_
              refine awp_ret ?_
              repeat (first | refine then_ret ?_ | refine inBlock_ret ?_)
              first | (exfalso; simp_all; done) | (have hq : parse (x ++ y) = (p.1, p.2, true) := (by first | exact feedI_bad hp h2 (gt4 (by assumption))); obtain ⟨rfl, e1, e2⟩ := feedT_of hq hb; (refine rrA (r := .tup [.sl (nR p.1), errB true 5]) [0, 1, 2] [(0, 0, .own 2), (0, 1, .bool true)] [(2, .row 1 (bR (feedR false x y)))] rfl rfl rfl rfl (by repeat' (first | exact trivial | exact ⟨_, rfl, .inl rfl⟩ | exact ⟨_, rfl, .inr rfl⟩ | (refine ⟨_, rfl, .inl ?_⟩; (first | refine ei ?_ | refine eb ?_ | refine esl ?_ | refine estr ?_ | skip); first | assumption | (rw [e2]; done)) | (refine ⟨_, rfl, .inr ?_⟩; (first | refine ei ?_ | refine eb ?_ | refine esl ?_ | refine estr ?_ | skip); first | assumption | (rw [e2]; done)) | refine ⟨⟨?_, rfl, rfl⟩, ?_⟩)) (by repeat' (first | exact trivial | refine ⟨orow rfl ?_ rfl, ?_⟩ | refine ⟨owr rfl ?_ (bR_plain y |>.lim) rfl, ?_⟩ | rfl | (first | assumption | (rw [e2]; done)))) (⟨by unfold feedT; rw [e1], rfl, rfl, rfl⟩))) | (have hq : parse (x ++ y) = (p.1, p.2, false) := (by first | exact feedI_short hp (nge2 (by assumption)) | exact feedI_stop hp h2 (ngt4 (by assumption)) (lt2 (num2_lt _) (by assumption))); obtain ⟨rfl, e1, e2⟩ := feedT_of hq hb; (refine rrA (r := .tup [.sl (nR p.1), errB false 5]) [0, 1, 2] [(0, 0, .own 2), (0, 1, .bool false)] [(2, .row 1 (bR (feedR false x y)))] rfl rfl rfl rfl (by repeat' (first | exact trivial | exact ⟨_, rfl, .inl rfl⟩ | exact ⟨_, rfl, .inr rfl⟩ | (refine ⟨_, rfl, .inl ?_⟩; (first | refine ei ?_ | refine eb ?_ | refine esl ?_ | refine estr ?_ | skip); first | assumption | (rw [e2]; done)) | (refine ⟨_, rfl, .inr ?_⟩; (first | refine ei ?_ | refine eb ?_ | refine esl ?_ | refine estr ?_ | skip); first | assumption | (rw [e2]; done)) | refine ⟨⟨?_, rfl, rfl⟩, ?_⟩)) (by repeat' (first | exact trivial | refine ⟨orow rfl ?_ rfl, ?_⟩ | refine ⟨owr rfl ?_ (bR_plain y |>.lim) rfl, ?_⟩ | rfl | (first | assumption | (rw [e2]; done)))) (⟨by unfold feedT; rw [e1], rfl, rfl, rfl⟩))))))))))))
  · first
    | (cases hc; done)
    | (
      refine awp_skip ?_
      refine then_normal ?_
      refine awp_seq ?_
      refine awp_region ?_
      refine rv rfl rfl (?_)
      refine rn ?_
      refine then_normal ?_
      refine awp_seq ?_
      refine awp_block ?_
      refine awp_conv (fun _ _ _ _ _ hi => nilS_slot false 1 6 rfl hi) ?_
      refine awp_loopR (ι := List Bs × Bs) (fun p => ⟨[(0, .ptr 0 0), (6, .own 3)], [(0, 0, .own 2), (0, 1, .bool false)], [(2, .row 1 (bR p.2)), (3, .row 1 (nR p.1))], 4⟩) (fun p => feedI x y p) (fun p => p.2.length) (([], x ++ y)) (feedI_0 x y) ⟨[0, 1, 2, 3], rfl, ?_⟩ (fun p hp => ?_)
      · refine ⟨rfl, rfl, ?_, ?_, ?_⟩
        · refine ⟨⟨?_, rfl⟩, ?_⟩
          · first | exact .inl rfl | exact .inr rfl | (refine .inl ?_; (first | refine ei ?_ | refine eb ?_ | refine esl ?_ | refine estr ?_ | skip); first | assumption | exact bR_append _ _ | exact bR_drop _ _ | (simp [nR]; done) | rfl) | (refine .inr ?_; (first | refine ei ?_ | refine eb ?_ | refine esl ?_ | refine estr ?_ | skip); first | assumption | exact bR_append _ _ | exact bR_drop _ _ | (simp [nR]; done) | rfl)
          refine ⟨⟨?_, rfl⟩, ?_⟩
          · first | exact .inl rfl | exact .inr rfl | (refine .inl ?_; (first | refine ei ?_ | refine eb ?_ | refine esl ?_ | refine estr ?_ | skip); first | assumption | exact bR_append _ _ | exact bR_drop _ _ | (simp [nR]; done) | rfl) | (refine .inr ?_; (first | refine ei ?_ | refine eb ?_ | refine esl ?_ | refine estr ?_ | skip); first | assumption | exact bR_append _ _ | exact bR_drop _ _ | (simp [nR]; done) | rfl)
          exact trivial
        · refine ⟨⟨?_, rfl, rfl⟩, ?_⟩
          · first | exact ⟨_, rfl, .inl rfl⟩ | exact ⟨_, rfl, .inr rfl⟩ | (refine ⟨_, rfl, .inl ?_⟩; (first | refine ei ?_ | refine eb ?_ | refine esl ?_ | refine estr ?_ | skip); first | assumption | exact bR_append _ _ | exact bR_drop _ _ | (simp [nR]; done) | rfl) | (refine ⟨_, rfl, .inr ?_⟩; (first | refine ei ?_ | refine eb ?_ | refine esl ?_ | refine estr ?_ | skip); first | assumption | exact bR_append _ _ | exact bR_drop _ _ | (simp [nR]; done) | rfl)
          refine ⟨⟨?_, rfl, rfl⟩, ?_⟩
          · first | exact ⟨_, rfl, .inl rfl⟩ | exact ⟨_, rfl, .inr rfl⟩ | (refine ⟨_, rfl, .inl ?_⟩; (first | refine ei ?_ | refine eb ?_ | refine esl ?_ | refine estr ?_ | skip); first | assumption | exact bR_append _ _ | exact bR_drop _ _ | (simp [nR]; done) | rfl) | (refine ⟨_, rfl, .inr ?_⟩; (first | refine ei ?_ | refine eb ?_ | refine esl ?_ | refine estr ?_ | skip); first | assumption | exact bR_append _ _ | exact bR_drop _ _ | (simp [nR]; done) | rfl)
          exact trivial
        · refine ⟨orow rfl ?_ rfl, ?_⟩
          · first | rfl | (first | assumption | exact bR_append _ _ | exact bR_drop _ _ | (simp [nR]; done) | rfl)
          refine ⟨orow rfl ?_ rfl, ?_⟩
          · first | rfl | (first | assumption | exact bR_append _ _ | exact bR_drop _ _ | (simp [nR]; done) | rfl)
          exact trivial
      refine awp_seq ?_
      refine awp_seq ?_
      refine awp_region ?_
      refine rv rfl rfl (?_)
      refine rv rfl rfl (?_)
      refine rv rfl rfl (?_)
      refine rv rfl rfl (?_)
      refine rv rfl rfl (?_)
      refine rv rfl rfl (?_)
      (first | refine gy rfl rfl rfl (rv rfl rfl (?_)) | refine gn rfl rfl rfl rfl rfl ?_ | refine gu rfl rfl rfl rfl ?_ | refine gs rfl rfl rfl rfl rfl (fun hg => rv rfl rfl (?_)) (fun hg => ?_)) <;> (
      (first | refine gy rfl rfl rfl (rv rfl rfl (?_)) | refine gn rfl rfl rfl rfl rfl ?_ | refine gu rfl rfl rfl rfl ?_ | refine gs rfl rfl rfl rfl rfl (fun hg => rv rfl rfl (?_)) (fun hg => ?_)) <;> (
      (first | refine gy rfl rfl rfl (rv rfl rfl (?_)) | refine gn rfl rfl rfl rfl rfl ?_ | refine gu rfl rfl rfl rfl ?_ | refine gs rfl rfl rfl rfl rfl (fun hg => rv rfl rfl (?_)) (fun hg => ?_)) <;> (
      (first | refine gy rfl rfl rfl (rv rfl rfl (?_)) | refine gn rfl rfl rfl rfl rfl ?_ | refine gu rfl rfl rfl rfl ?_ | refine gs rfl rfl rfl rfl rfl (fun hg => rv rfl rfl (?_)) (fun hg => ?_)) <;> (
      (first | refine gy rfl rfl rfl (rv rfl rfl (?_)) | refine gn rfl rfl rfl rfl rfl ?_ | refine gu rfl rfl rfl rfl ?_ | refine gs rfl rfl rfl rfl rfl (fun hg => rv rfl rfl (?_)) (fun hg => ?_)) <;> (
      (first | refine gy rfl rfl rfl (rv rfl rfl (?_)) | refine gn rfl rfl rfl rfl rfl ?_ | refine gu rfl rfl rfl rfl ?_ | refine gs rfl rfl rfl rfl rfl (fun hg => rv rfl rfl (?_)) (fun hg => ?_)) <;> (
      refine rv rfl rfl (?_)
      refine rn ?_
      refine then_normal ?_
      refine cs_ rfl (fun hc => ?_) (fun hc => ?_)
      · first
        | (cases hc; done)
        | (
          refine awp_skip ?_
          refine then_normal ?_
          refine awp_block ?_
          refine awp_seq ?_
          (have h2 := ge2 (by assumption)) <;> (
          refine awp_dp (m := 16) Try.mix (by kernel_rfl) (by kernel_rfl) (by kernel_rfl) (by kernel_rfl) (by kernel_rfl) (by kernel_rfl) (by kernel_rfl) ?_
          refine dv rfl rfl (fun _ => rfl) ?_
          refine dv rfl rfl (fun _ => rfl) ?_
          refine dv rfl rfl (fun _ => rfl) ?_
          refine dv rfl rfl (fun _ => rfl) ?_
          refine di rfl rfl rfl rfl rfl (fun _ => rfl) rfl (by decide) (bR_get0 h2) (bR_plain _).wide ?_
          refine dv rfl rfl (fun _ => rfl) ?_
          refine dv rfl rfl (fun _ => rfl) ?_
          refine dv rfl rfl (fun _ => rfl) ?_
          refine dv rfl rfl (fun _ => rfl) ?_
          refine dv rfl rfl (fun _ => rfl) ?_
          refine dv rfl rfl (fun _ => rfl) ?_
          refine dv rfl rfl (fun _ => rfl) ?_
          refine di rfl rfl rfl rfl rfl (fun _ => rfl) rfl (by decide) (bR_get1 h2) (bR_plain _).wide ?_
          refine dv rfl rfl (fun _ => rfl) ?_
          refine dv rfl rfl (fun _ => rfl) ?_
          refine dv (v := .int .i64 (num2 p.2 : Int)) rfl rfl (fun m => congrArg (fun z => some (AV.int .i64 z)) (num2_or h2)) ?_
          refine dn ?_
          refine rv rfl rfl (?_)
          refine rn ?_
          refine then_normal ?_
          refine awp_seq ?_
          refine awp_region ?_
          refine rv rfl rfl (?_)
          refine rv rfl rfl (?_)
          refine rv rfl rfl (?_)
          refine rv rfl rfl (?_)
          refine rv rfl rfl (?_)
          refine rs rfl rfl rfl rfl rfl rfl rfl (?_)
          refine rn ?_
          refine then_normal ?_
          refine awp_seq ?_
          refine awp_seq ?_
          refine awp_region ?_
          refine rv rfl rfl (?_)
          refine rv rfl rfl (?_)
          refine rv rfl rfl (?_)
          refine rv rfl rfl (?_)
          refine rv rfl rfl (?_)
          (first | refine gy rfl rfl rfl (rv rfl rfl (?_)) | refine gn rfl rfl rfl rfl rfl ?_ | refine gu rfl rfl rfl rfl ?_ | refine gs rfl rfl rfl rfl rfl (fun hg => rv rfl rfl (?_)) (fun hg => ?_)) <;> (
          (first | refine gy rfl rfl rfl (rv rfl rfl (?_)) | refine gn rfl rfl rfl rfl rfl ?_ | refine gu rfl rfl rfl rfl ?_ | refine gs rfl rfl rfl rfl rfl (fun hg => rv rfl rfl (?_)) (fun hg => ?_)) <;> (
          (first | refine gy rfl rfl rfl (rv rfl rfl (?_)) | refine gn rfl rfl rfl rfl rfl ?_ | refine gu rfl rfl rfl rfl ?_ | refine gs rfl rfl rfl rfl rfl (fun hg => rv rfl rfl (?_)) (fun hg => ?_)) <;> (
          (first | refine gy rfl rfl rfl (rv rfl rfl (?_)) | refine gn rfl rfl rfl rfl rfl ?_ | refine gu rfl rfl rfl rfl ?_ | refine gs rfl rfl rfl rfl rfl (fun hg => rv rfl rfl (?_)) (fun hg => ?_)) <;> (
          (first | refine gy rfl rfl rfl (rv rfl rfl (?_)) | refine gn rfl rfl rfl rfl rfl ?_ | refine gu rfl rfl rfl rfl ?_ | refine gs rfl rfl rfl rfl rfl (fun hg => rv rfl rfl (?_)) (fun hg => ?_)) <;> (
          (first | refine gy rfl rfl rfl (rv rfl rfl (?_)) | refine gn rfl rfl rfl rfl rfl ?_ | refine gu rfl rfl rfl rfl ?_ | refine gs rfl rfl rfl rfl rfl (fun hg => rv rfl rfl (?_)) (fun hg => ?_)) <;> (
          (first | refine gy rfl rfl rfl (rv rfl rfl (?_)) | refine gn rfl rfl rfl rfl rfl ?_ | refine gu rfl rfl rfl rfl ?_ | refine gs rfl rfl rfl rfl rfl (fun hg => rv rfl rfl (?_)) (fun hg => ?_)) <;> (
          (first | refine gy rfl rfl rfl (rv rfl rfl (?_)) | refine gn rfl rfl rfl rfl rfl ?_ | refine gu rfl rfl rfl rfl ?_ | refine gs rfl rfl rfl rfl rfl (fun hg => rv rfl rfl (?_)) (fun hg => ?_)) <;> (
          refine rv rfl rfl (?_)
          refine rn ?_
          refine then_normal ?_
          refine cs_ rfl (fun hc => ?_) (fun hc => ?_)
          · first
            | (cases hc; done)
            | (
              refine awp_exit ?_
              repeat (first | refine then_exit ?_ | refine inBlock_other rfl ?_)
              refine inBlock_exit ?_
              refine then_normal ?_
              refine awp_seq ?_
              refine awp_seq ?_
              refine awp_region ?_
              refine rv rfl rfl (?_)
              refine rv rfl rfl (?_)
              refine rv rfl rfl (?_)
              refine rv rfl rfl (?_)
              refine rn ?_
              refine then_normal ?_
              refine cs_ rfl (fun hc => ?_) (fun hc => ?_)
              · first
                | (cases hc; done)
                | (
                  refine awp_seq ?_
                  refine awp_region ?_
                  refine rv rfl rfl (?_)
                  refine rv rfl rfl (?_)
                  refine rv rfl rfl (?_)
                  refine rv rfl rfl (?_)
                  refine rn ?_
                  refine then_normal ?_
                  refine awp_ret ?_
                  repeat (first | refine then_ret ?_ | refine inBlock_ret ?_)
                  first | (exfalso; simp_all; done) | (have hq : parse (x ++ y) = (p.1, p.2, true) := (by first | exact feedI_bad hp h2 (gt4 (by assumption))); obtain ⟨rfl, e1, e2⟩ := feedT_of hq hb; (refine rrA (r := .tup [.sl (nR p.1), errB true 5]) [0, 1, 2] [(0, 0, .own 2), (0, 1, .bool true)] [(2, .row 1 (bR (feedR false x y)))] rfl rfl rfl rfl (by repeat' (first | exact trivial | exact ⟨_, rfl, .inl rfl⟩ | exact ⟨_, rfl, .inr rfl⟩ | (refine ⟨_, rfl, .inl ?_⟩; (first | refine ei ?_ | refine eb ?_ | refine esl ?_ | refine estr ?_ | skip); first | assumption | (rw [e2]; done)) | (refine ⟨_, rfl, .inr ?_⟩; (first | refine ei ?_ | refine eb ?_ | refine esl ?_ | refine estr ?_ | skip); first | assumption | (rw [e2]; done)) | refine ⟨⟨?_, rfl, rfl⟩, ?_⟩)) (by repeat' (first | exact trivial | refine ⟨orow rfl ?_ rfl, ?_⟩ | refine ⟨owr rfl ?_ (bR_plain y |>.lim) rfl, ?_⟩ | rfl | (first | assumption | (rw [e2]; done)))) (⟨by unfold feedT; rw [e1], rfl, rfl, rfl⟩))) | (have hq : parse (x ++ y) = (p.1, p.2, false) := (by first | exact feedI_short hp (nge2 (by assumption)) | exact feedI_stop hp h2 (ngt4 (by assumption)) (lt2 (num2_lt _) (by assumption))); obtain ⟨rfl, e1, e2⟩ := feedT_of hq hb; (refine rrA (r := .tup [.sl (nR p.1), errB false 5]) [0, 1, 2] [(0, 0, .own 2), (0, 1, .bool false)] [(2, .row 1 (bR (feedR false x y)))] rfl rfl rfl rfl (by repeat' (first | exact trivial | exact ⟨_, rfl, .inl rfl⟩ | exact ⟨_, rfl, .inr rfl⟩ | (refine ⟨_, rfl, .inl ?_⟩; (first | refine ei ?_ | refine eb ?_ | refine esl ?_ | refine estr ?_ | skip); first | assumption | (rw [e2]; done)) | (refine ⟨_, rfl, .inr ?_⟩; (first | refine ei ?_ | refine eb ?_ | refine esl ?_ | refine estr ?_ | skip); first | assumption | (rw [e2]; done)) | refine ⟨⟨?_, rfl, rfl⟩, ?_⟩)) (by repeat' (first | exact trivial | refine ⟨orow rfl ?_ rfl, ?_⟩ | refine ⟨owr rfl ?_ (bR_plain y |>.lim) rfl, ?_⟩ | rfl | (first | assumption | (rw [e2]; done)))) (⟨by unfold feedT; rw [e1], rfl, rfl, rfl⟩))))
              · first
                | (cases hc; done)
                | (
                  refine awp_skip ?_
                  refine then_normal ?_
                  refine awp_seq ?_
                  refine awp_region ?_
                  refine rv rfl rfl (?_)
                  refine rv rfl rfl (?_)
                  refine rv rfl rfl (?_)
                  refine rn ?_
                  refine then_normal ?_
                  refine awp_ret ?_
                  repeat (first | refine then_ret ?_ | refine inBlock_ret ?_)
                  first | (exfalso; simp_all; done) | (have hq : parse (x ++ y) = (p.1, p.2, true) := (by first | exact feedI_bad hp h2 (gt4 (by assumption))); obtain ⟨rfl, e1, e2⟩ := feedT_of hq hb; (refine rrA (r := .tup [.sl (nR p.1), errB true 5]) [0, 1, 2] [(0, 0, .own 2), (0, 1, .bool true)] [(2, .row 1 (bR (feedR false x y)))] rfl rfl rfl rfl (by repeat' (first | exact trivial | exact ⟨_, rfl, .inl rfl⟩ | exact ⟨_, rfl, .inr rfl⟩ | (refine ⟨_, rfl, .inl ?_⟩; (first | refine ei ?_ | refine eb ?_ | refine esl ?_ | refine estr ?_ | skip); first | assumption | (rw [e2]; done)) | (refine ⟨_, rfl, .inr ?_⟩; (first | refine ei ?_ | refine eb ?_ | refine esl ?_ | refine estr ?_ | skip); first | assumption | (rw [e2]; done)) | refine ⟨⟨?_, rfl, rfl⟩, ?_⟩)) (by repeat' (first | exact trivial | refine ⟨orow rfl ?_ rfl, ?_⟩ | refine ⟨owr rfl ?_ (bR_plain y |>.lim) rfl, ?_⟩ | rfl | (first | assumption | (rw [e2]; done)))) (⟨by unfold feedT; rw [e1], rfl, rfl, rfl⟩))) | (have hq : parse (x ++ y) = (p.1, p.2, false) := (by first | exact feedI_short hp (nge2 (by assumption)) | exact feedI_stop hp h2 (ngt4 (by assumption)) (lt2 (num2_lt _) (by assumption))); obtain ⟨rfl, e1, e2⟩ := feedT_of hq hb; (refine rrA (r := .tup [.sl (nR p.1), errB false 5]) [0, 1, 2] [(0, 0, .own 2), (0, 1, .bool false)] [(2, .row 1 (bR (feedR false x y)))] rfl rfl rfl rfl (by repeat' (first | exact trivial | exact ⟨_, rfl, .inl rfl⟩ | exact ⟨_, rfl, .inr rfl⟩ | (refine ⟨_, rfl, .inl ?_⟩; (first | refine ei ?_ | refine eb ?_ | refine esl ?_ | refine estr ?_ | skip); first | assumption | (rw [e2]; done)) | (refine ⟨_, rfl, .inr ?_⟩; (first | refine ei ?_ | refine eb ?_ | refine esl ?_ | refine estr ?_ | skip); first | assumption | (rw [e2]; done)) | refine ⟨⟨?_, rfl, rfl⟩, ?_⟩)) (by repeat' (first | exact trivial | refine ⟨orow rfl ?_ rfl, ?_⟩ | refine ⟨owr rfl ?_ (bR_plain y |>.lim) rfl, ?_⟩ | rfl | (first | assumption | (rw [e2]; done)))) (⟨by unfold feedT; rw [e1], rfl, rfl, rfl⟩)))))
          · first
            | (cases hc; done)
            | (
              refine awp_skip ?_
              refine then_normal ?_
              refine awp_seq ?_
              (have hn := ngt4 (by assumption); have hf := nlt2 (num2_lt _) (by assumption)) <;> (
              refine awp_region ?_
              refine rv rfl rfl (?_)
              refine rv rfl rfl (?_)
              refine rv rfl rfl (?_)
              refine rv rfl rfl (?_)
              refine rv rfl rfl (?_)
              refine rv rfl rfl (?_)
              refine rv rfl rfl (?_)
              refine rV rfl (va_sub (l := 2) (h := 2 + num2 p.2) rfl rfl rfl rfl ⟨_, rfl⟩ ⟨_, congrArg (AV.int .i64) (W2 (num2_lt _))⟩ (by omega) (by rw [bR_length]; omega) (bR_plain _).wide) (?_)
              refine rc1 rfl rfl rfl (clone_c' (by have := hp.2.1; omega)) (?_)
              refine rbs false rfl rfl rfl rfl rfl rfl rfl rfl rfl rfl (?_)
              refine rap false rfl rfl rfl rfl rfl rfl rfl (.own rfl rfl) (.sl rfl rfl rfl) (nR_plain [_]).wide (nR_plain [_]).ones (by show (_ + 1) * 24 ≤ _; rw [nR_length]; have := hp.2.2; omega) rfl (?_)
              refine rv rfl rfl (?_)
              refine rn ?_
              refine then_normal ?_
              refine awp_region ?_
              refine rv rfl rfl (?_)
              refine rv rfl rfl (?_)
              refine rv rfl rfl (?_)
              refine rv rfl rfl (?_)
              refine rv rfl rfl (?_)
              refine rv rfl rfl (?_)
              refine rv rfl rfl (?_)
              refine rtl rfl rfl rfl rfl rfl rfl rfl ⟨_, congrArg (AV.int .i64) (W2 (num2_lt _))⟩ (by rw [bR_length]; omega) rfl (?_)
              refine rv rfl rfl (?_)
              refine rv rfl rfl (?_)
              refine rs rfl rfl rfl rfl rfl rfl rfl (?_)
              refine rn ?_
              refine inBlock_normal ?_
              refine then_normal ?_
              refine ⟨(p.1 ++ [(p.2.take (2 + num2 p.2)).drop 2], p.2.drop (2 + num2 p.2)), feedI_step hp h2 hn hf, by simp; omega, [0, 1, 6, 5], rfl, ?_⟩
              refine ⟨rfl, rfl, ?_, ?_, ?_⟩
              · refine ⟨⟨?_, rfl⟩, ?_⟩
                · first | exact .inl rfl | exact .inr rfl | (refine .inl ?_; (first | refine ei ?_ | refine eb ?_ | refine esl ?_ | refine estr ?_ | skip); first | assumption | exact bR_append _ _ | exact bR_drop _ _ | (simp [nR]; done) | rfl) | (refine .inr ?_; (first | refine ei ?_ | refine eb ?_ | refine esl ?_ | refine estr ?_ | skip); first | assumption | exact bR_append _ _ | exact bR_drop _ _ | (simp [nR]; done) | rfl)
                refine ⟨⟨?_, rfl⟩, ?_⟩
                · first | exact .inl rfl | exact .inr rfl | (refine .inl ?_; (first | refine ei ?_ | refine eb ?_ | refine esl ?_ | refine estr ?_ | skip); first | assumption | exact bR_append _ _ | exact bR_drop _ _ | (simp [nR]; done) | rfl) | (refine .inr ?_; (first | refine ei ?_ | refine eb ?_ | refine esl ?_ | refine estr ?_ | skip); first | assumption | exact bR_append _ _ | exact bR_drop _ _ | (simp [nR]; done) | rfl)
                exact trivial
              · refine ⟨⟨?_, rfl, rfl⟩, ?_⟩
                · first | exact ⟨_, rfl, .inl rfl⟩ | exact ⟨_, rfl, .inr rfl⟩ | (refine ⟨_, rfl, .inl ?_⟩; (first | refine ei ?_ | refine eb ?_ | refine esl ?_ | refine estr ?_ | skip); first | assumption | exact bR_append _ _ | exact bR_drop _ _ | (simp [nR]; done) | rfl) | (refine ⟨_, rfl, .inr ?_⟩; (first | refine ei ?_ | refine eb ?_ | refine esl ?_ | refine estr ?_ | skip); first | assumption | exact bR_append _ _ | exact bR_drop _ _ | (simp [nR]; done) | rfl)
                refine ⟨⟨?_, rfl, rfl⟩, ?_⟩
                · first | exact ⟨_, rfl, .inl rfl⟩ | exact ⟨_, rfl, .inr rfl⟩ | (refine ⟨_, rfl, .inl ?_⟩; (first | refine ei ?_ | refine eb ?_ | refine esl ?_ | refine estr ?_ | skip); first | assumption | exact bR_append _ _ | exact bR_drop _ _ | (simp [nR]; done) | rfl) | (refine ⟨_, rfl, .inr ?_⟩; (first | refine ei ?_ | refine eb ?_ | refine esl ?_ | refine estr ?_ | skip); first | assumption | exact bR_append _ _ | exact bR_drop _ _ | (simp [nR]; done) | rfl)
                exact trivial
              · refine ⟨orow rfl ?_ rfl, ?_⟩
                · first | rfl | (first | assumption | exact bR_append _ _ | exact bR_drop _ _ | (simp [nR]; done) | rfl)
                refine ⟨orow rfl ?_ rfl, ?_⟩
                · first | rfl | (first | assumption | exact bR_append _ _ | exact bR_drop _ _ | (simp [nR]; done) | rfl)
                exact trivial))))))))))))
      · first
        | (cases hc; done)
        | (
          refine awp_exit ?_
          repeat (first | refine then_exit ?_ | refine inBlock_other rfl ?_)
          refine inBlock_exit ?_
          refine then_normal ?_
          refine awp_seq ?_
          refine awp_seq ?_
          refine awp_region ?_
          refine rv rfl rfl (?_)
          refine rv rfl rfl (?_)
          refine rv rfl rfl (?_)
          refine rv rfl rfl (?_)
          refine rn ?_
          refine then_normal ?_
          refine cs_ rfl (fun hc => ?_) (fun hc => ?_)
          · first
            | (cases hc; done)
            | (
              refine awp_seq ?_
              refine awp_region ?_
              refine rv rfl rfl (?_)
              refine rv rfl rfl (?_)
              refine rv rfl rfl (?_)
              refine rv rfl rfl (?_)
              refine rn ?_
              refine then_normal ?_
              refine awp_ret ?_
              repeat (first | refine then_ret ?_ | refine inBlock_ret ?_)
              first | (exfalso; simp_all; done) | (have hq : parse (x ++ y) = (p.1, p.2, true) := (by first | exact feedI_bad hp h2 (gt4 (by assumption))); obtain ⟨rfl, e1, e2⟩ := feedT_of hq hb; (refine rrA (r := .tup [.sl (nR p.1), errB true 5]) [0, 1, 2] [(0, 0, .own 2), (0, 1, .bool true)] [(2, .row 1 (bR (feedR false x y)))] rfl rfl rfl rfl (by repeat' (first | exact trivial | exact ⟨_, rfl, .inl rfl⟩ | exact ⟨_, rfl, .inr rfl⟩ | (refine ⟨_, rfl, .inl ?_⟩; (first | refine ei ?_ | refine eb ?_ | refine esl ?_ | refine estr ?_ | skip); first | assumption | (rw [e2]; done)) | (refine ⟨_, rfl, .inr ?_⟩; (first | refine ei ?_ | refine eb ?_ | refine esl ?_ | refine estr ?_ | skip); first | assumption | (rw [e2]; done)) | refine ⟨⟨?_, rfl, rfl⟩, ?_⟩)) (by repeat' (first | exact trivial | refine ⟨orow rfl ?_ rfl, ?_⟩ | refine ⟨owr rfl ?_ (bR_plain y |>.lim) rfl, ?_⟩ | rfl | (first | assumption | (rw [e2]; done)))) (⟨by unfold feedT; rw [e1], rfl, rfl, rfl⟩))) | (have hq : parse (x ++ y) = (p.1, p.2, false) := (by first | exact feedI_short hp (nge2 (by assumption)) | exact feedI_stop hp h2 (ngt4 (by assumption)) (lt2 (num2_lt _) (by assumption))); obtain ⟨rfl, e1, e2⟩ := feedT_of hq hb; (refine rrA (r := .tup [.sl (nR p.1), errB false 5]) [0, 1, 2] [(0, 0, .own 2), (0, 1, .bool false)] [(2, .row 1 (bR (feedR false x y)))] rfl rfl rfl rfl (by repeat' (first | exact trivial | exact ⟨_, rfl, .inl rfl⟩ | exact ⟨_, rfl, .inr rfl⟩ | (refine ⟨_, rfl, .inl ?_⟩; (first | refine ei ?_ | refine eb ?_ | refine esl ?_ | refine estr ?_ | skip); first | assumption | (rw [e2]; done)) | (refine ⟨_, rfl, .inr ?_⟩; (first | refine ei ?_ | refine eb ?_ | refine esl ?_ | refine estr ?_ | skip); first | assumption | (rw [e2]; done)) | refine ⟨⟨?_, rfl, rfl⟩, ?_⟩)) (by repeat' (first | exact trivial | refine ⟨orow rfl ?_ rfl, ?_⟩ | refine ⟨owr rfl ?_ (bR_plain y |>.lim) rfl, ?_⟩ | rfl | (first | assumption | (rw [e2]; done)))) (⟨by unfold feedT; rw [e1], rfl, rfl, rfl⟩))))
          · first
            | (cases hc; done)
            | (
              refine awp_skip ?_
              refine then_normal ?_
              refine awp_seq ?_
              refine awp_region ?_
              refine rv rfl rfl (?_)
              refine rv rfl rfl (?_)
              refine rv rfl rfl (?_)
              refine rn ?_
              refine then_normal ?_
              refine awp_ret ?_
              repeat (first | refine then_ret ?_ | refine inBlock_ret ?_)
              first | (exfalso; simp_all; done) | (have hq : parse (x ++ y) = (p.1, p.2, true) := (by first | exact feedI_bad hp h2 (gt4 (by assumption))); obtain ⟨rfl, e1, e2⟩ := feedT_of hq hb; (refine rrA (r := .tup [.sl (nR p.1), errB true 5]) [0, 1, 2] [(0, 0, .own 2), (0, 1, .bool true)] [(2, .row 1 (bR (feedR false x y)))] rfl rfl rfl rfl (by repeat' (first | exact trivial | exact ⟨_, rfl, .inl rfl⟩ | exact ⟨_, rfl, .inr rfl⟩ | (refine ⟨_, rfl, .inl ?_⟩; (first | refine ei ?_ | refine eb ?_ | refine esl ?_ | refine estr ?_ | skip); first | assumption | (rw [e2]; done)) | (refine ⟨_, rfl, .inr ?_⟩; (first | refine ei ?_ | refine eb ?_ | refine esl ?_ | refine estr ?_ | skip); first | assumption | (rw [e2]; done)) | refine ⟨⟨?_, rfl, rfl⟩, ?_⟩)) (by repeat' (first | exact trivial | refine ⟨orow rfl ?_ rfl, ?_⟩ | refine ⟨owr rfl ?_ (bR_plain y |>.lim) rfl, ?_⟩ | rfl | (first | assumption | (rw [e2]; done)))) (⟨by unfold feedT; rw [e1], rfl, rfl, rfl⟩))) | (have hq : parse (x ++ y) = (p.1, p.2, false) := (by first | exact feedI_short hp (nge2 (by assumption)) | exact feedI_stop hp h2 (ngt4 (by assumption)) (lt2 (num2_lt _) (by assumption))); obtain ⟨rfl, e1, e2⟩ := feedT_of hq hb; (refine rrA (r := .tup [.sl (nR p.1), errB false 5]) [0, 1, 2] [(0, 0, .own 2), (0, 1, .bool false)] [(2, .row 1 (bR (feedR false x y)))] rfl rfl rfl rfl (by repeat' (first | exact trivial | exact ⟨_, rfl, .inl rfl⟩ | exact ⟨_, rfl, .inr rfl⟩ | (refine ⟨_, rfl, .inl ?_⟩; (first | refine ei ?_ | refine eb ?_ | refine esl ?_ | refine estr ?_ | skip); first | assumption | (rw [e2]; done)) | (refine ⟨_, rfl, .inr ?_⟩; (first | refine ei ?_ | refine eb ?_ | refine esl ?_ | refine estr ?_ | skip); first | assumption | (rw [e2]; done)) | refine ⟨⟨?_, rfl, rfl⟩, ?_⟩)) (by repeat' (first | exact trivial | refine ⟨orow rfl ?_ rfl, ?_⟩ | refine ⟨owr rfl ?_ (bR_plain y |>.lim) rfl, ?_⟩ | rfl | (first | assumption | (rw [e2]; done)))) (⟨by unfold feedT; rw [e1], rfl, rfl, rfl⟩))))))))))))
end

section
attribute [local irreducible] awp aops DP PCall ACall Decidable.decide
/-- `(*plover/frame.Reader).Feed` -/
theorem feedw_bad {x y : Bs} : ACall Try.prog 40 3 [.ptr 0 0, .own 2] [(0, 0, .own 1), (0, 1, .bool true)] [(1, .row 1 (bR x)), (2, .wr 1 (bR y))] (fun r H O n => r = feedT true x y true ∧ H = [(0, 0, .own 3), (0, 1, .bool true)] ∧ O = [(3, .row 1 (bR (feedR true x y))), (2, .wr 1 (bR y))] ∧ n = 4) := by
  refine acall_body Try.func40 rfl (by kernel_rfl) (by rfl) ?_
  refine awp_seq ?_
  refine awp_region ?_
  refine rv rfl rfl (?_)
  refine rv rfl rfl (?_)
  refine rn ?_
  refine then_normal ?_
  refine awp_seq ?_
  refine awp_seq ?_
  refine awp_region ?_
  refine rv rfl rfl (?_)
  refine rv rfl rfl (?_)
  refine rv rfl rfl (?_)
  refine rv rfl rfl (?_)
  refine rv rfl rfl (?_)
  refine rn ?_
  refine then_normal ?_
  refine cs_ rfl (fun hc => ?_) (fun hc => ?_)
  · first
    | (cases hc; done)
    | (
      exfalso
      cases hc)
  · first
    | (cases hc; done)
    | (
      refine awp_skip ?_
      refine then_normal ?_
      refine awp_seq ?_
      refine awp_region ?_
      refine rv rfl rfl (?_)
      refine rn ?_
      refine then_normal ?_
      refine awp_seq ?_
      refine awp_block ?_
      refine awp_loopR (ι := Unit) (fun i => ⟨[(0, .ptr 0 0), (6, .nilS)], [(0, 0, .own 1), (0, 1, .bool true)], [(1, .row 1 (bR x)), (2, .wr 1 (bR y))], 3⟩) (fun i => True) (fun i => 0) (()) (trivial) ⟨[0, 1, 2], rfl, ?_⟩ (fun i hi => ?_)
      · refine ⟨rfl, rfl, ?_, ?_, ?_⟩
        · refine ⟨⟨?_, rfl⟩, ?_⟩
          · first | exact .inl rfl | exact .inr rfl | (refine .inl ?_; (first | refine ei ?_ | refine eb ?_ | refine esl ?_ | refine estr ?_ | skip); fail) | (refine .inr ?_; (first | refine ei ?_ | refine eb ?_ | refine esl ?_ | refine estr ?_ | skip); fail)
          refine ⟨⟨?_, rfl⟩, ?_⟩
          · first | exact .inl rfl | exact .inr rfl | (refine .inl ?_; (first | refine ei ?_ | refine eb ?_ | refine esl ?_ | refine estr ?_ | skip); fail) | (refine .inr ?_; (first | refine ei ?_ | refine eb ?_ | refine esl ?_ | refine estr ?_ | skip); fail)
          exact trivial
        · refine ⟨⟨?_, rfl, rfl⟩, ?_⟩
          · first | exact ⟨_, rfl, .inl rfl⟩ | exact ⟨_, rfl, .inr rfl⟩ | (refine ⟨_, rfl, .inl ?_⟩; (first | refine ei ?_ | refine eb ?_ | refine esl ?_ | refine estr ?_ | skip); fail) | (refine ⟨_, rfl, .inr ?_⟩; (first | refine ei ?_ | refine eb ?_ | refine esl ?_ | refine estr ?_ | skip); fail)
          refine ⟨⟨?_, rfl, rfl⟩, ?_⟩
          · first | exact ⟨_, rfl, .inl rfl⟩ | exact ⟨_, rfl, .inr rfl⟩ | (refine ⟨_, rfl, .inl ?_⟩; (first | refine ei ?_ | refine eb ?_ | refine esl ?_ | refine estr ?_ | skip); fail) | (refine ⟨_, rfl, .inr ?_⟩; (first | refine ei ?_ | refine eb ?_ | refine esl ?_ | refine estr ?_ | skip); fail)
          exact trivial
        · refine ⟨orow rfl ?_ rfl, ?_⟩
          · first | rfl | (fail)
          refine ⟨owr rfl ?_ ((bR_plain y).lim) rfl, ?_⟩
          · first | rfl | (fail)
          exact trivial
      refine awp_seq ?_
      refine awp_seq ?_
      refine awp_region ?_
      refine rv rfl rfl (?_)
      refine rv rfl rfl (?_)
      refine rv rfl rfl (?_)
      refine rv rfl rfl (?_)
      refine rv rfl rfl (?_)
      refine rv rfl rfl (?_)
      (first | refine gy rfl rfl rfl (rv rfl rfl (?_)) | refine gn rfl rfl rfl rfl rfl ?_ | refine gu rfl rfl rfl rfl ?_ | refine gs rfl rfl rfl rfl rfl (fun hg => rv rfl rfl (?_)) (fun hg => ?_)) <;> (
      (first | refine gy rfl rfl rfl (rv rfl rfl (?_)) | refine gn rfl rfl rfl rfl rfl ?_ | refine gu rfl rfl rfl rfl ?_ | refine gs rfl rfl rfl rfl rfl (fun hg => rv rfl rfl (?_)) (fun hg => ?_)) <;> (
      (first | refine gy rfl rfl rfl (rv rfl rfl (?_)) | refine gn rfl rfl rfl rfl rfl ?_ | refine gu rfl rfl rfl rfl ?_ | refine gs rfl rfl rfl rfl rfl (fun hg => rv rfl rfl (?_)) (fun hg => ?_)) <;> (
      (first | refine gy rfl rfl rfl (rv rfl rfl (?_)) | refine gn rfl rfl rfl rfl rfl ?_ | refine gu rfl rfl rfl rfl ?_ | refine gs rfl rfl rfl rfl rfl (fun hg => rv rfl rfl (?_)) (fun hg => ?_)) <;> (
      (first | refine gy rfl rfl rfl (rv rfl rfl (?_)) | refine gn rfl rfl rfl rfl rfl ?_ | refine gu rfl rfl rfl rfl ?_ | refine gs rfl rfl rfl rfl rfl (fun hg => rv rfl rfl (?_)) (fun hg => ?_)) <;> (
      (first | refine gy rfl rfl rfl (rv rfl rfl (?_)) | refine gn rfl rfl rfl rfl rfl ?_ | refine gu rfl rfl rfl rfl ?_ | refine gs rfl rfl rfl rfl rfl (fun hg => rv rfl rfl (?_)) (fun hg => ?_)) <;> (
      refine rv rfl rfl (?_)
      refine rn ?_
      refine then_normal ?_
      refine cs_ rfl (fun hc => ?_) (fun hc => ?_)
      · first
        | (cases hc; done)
        | (
          refine awp_skip ?_
          refine then_normal ?_
          refine awp_block ?_
          refine awp_seq ?_
          exfalso
          cases hc)
      · first
        | (cases hc; done)
        | (
          refine awp_exit ?_
          repeat (first | refine then_exit ?_ | refine inBlock_other rfl ?_)
          refine inBlock_exit ?_
          refine then_normal ?_
          refine awp_seq ?_
          refine awp_seq ?_
          refine awp_region ?_
          refine rv rfl rfl (?_)
          refine rv rfl rfl (?_)
          refine rv rfl rfl (?_)
          refine rv rfl rfl (?_)
          refine rn ?_
          refine then_normal ?_
          refine cs_ rfl (fun hc => ?_) (fun hc => ?_)
          · first
            | (cases hc; done)
            | (
              refine awp_seq ?_
              (refine awp_conv (fun _ _ _ _ _ hi => row_again (wr := false) 0 0 1 rfl rfl hi) ?_) <;> (
              refine awp_region ?_
              refine rv rfl rfl (?_)
              refine rv rfl rfl (?_)
              refine rv rfl rfl (?_)
              refine rv rfl rfl (?_)
              refine rn ?_
              refine then_normal ?_
              refine awp_ret ?_
              repeat (first | refine then_ret ?_ | refine inBlock_ret ?_)
              refine rrA [0, 1, 2, 3] [(0, 0, .own 3), (0, 1, .bool true)] [(3, .row 1 (bR x)), (2, .wr 1 (bR y))] rfl rfl rfl rfl ?_ ?_ (⟨rfl, rfl, rfl, rfl⟩)
              · refine ⟨⟨?_, rfl, rfl⟩, ?_⟩
                · first | exact ⟨_, rfl, .inl rfl⟩ | exact ⟨_, rfl, .inr rfl⟩ | (refine ⟨_, rfl, .inl ?_⟩; (first | refine ei ?_ | refine eb ?_ | refine esl ?_ | refine estr ?_ | skip); fail) | (refine ⟨_, rfl, .inr ?_⟩; (first | refine ei ?_ | refine eb ?_ | refine esl ?_ | refine estr ?_ | skip); fail)
                refine ⟨⟨?_, rfl, rfl⟩, ?_⟩
                · first | exact ⟨_, rfl, .inl rfl⟩ | exact ⟨_, rfl, .inr rfl⟩ | (refine ⟨_, rfl, .inl ?_⟩; (first | refine ei ?_ | refine eb ?_ | refine esl ?_ | refine estr ?_ | skip); fail) | (refine ⟨_, rfl, .inr ?_⟩; (first | refine ei ?_ | refine eb ?_ | refine esl ?_ | refine estr ?_ | skip); fail)
                exact trivial
              · refine ⟨orow rfl ?_ rfl, ?_⟩
                · first | rfl | (fail)
                refine ⟨owr rfl ?_ ((bR_plain y).lim) rfl, ?_⟩
                · first | rfl | (fail)
                exact trivial))
          · first
            | (cases hc; done)
            | (
              refine awp_skip ?_
              refine then_normal ?_
              refine awp_seq ?_
              exfalso
              cases hc)))))))))
end

section
attribute [local irreducible] awp aops DP PCall ACall Decidable.decide
/-- `(*plover/frame.Reader).Feed` -/
theorem feedw_ok {x y : Bs} {b : Bool} (hl : (x ++ y).length ≤ 1000000000) (hb : feedB false x y = b) : ACall Try.prog 40 3 [.ptr 0 0, .own 2] [(0, 0, .own 1), (0, 1, .bool false)] [(1, .row 1 (bR x)), (2, .wr 1 (bR y))] (fun r H O n => r = feedT false x y b ∧ H = [(0, 0, .own 3), (0, 1, .bool b)] ∧ O = [(3, .row 1 (bR (feedR false x y))), (2, .wr 1 (bR y))] ∧ n = 4) := by
  refine acall_body Try.func40 rfl (by kernel_rfl) (by rfl) ?_
  refine awp_seq ?_
  refine awp_region ?_
  refine rv rfl rfl (?_)
  refine rv rfl rfl (?_)
  refine rn ?_
  refine then_normal ?_
  refine awp_seq ?_
  refine awp_seq ?_
  refine awp_region ?_
  refine rv rfl rfl (?_)
  refine rv rfl rfl (?_)
  refine rv rfl rfl (?_)
  refine rv rfl rfl (?_)
  refine rv rfl rfl (?_)
  refine rn ?_
  refine then_normal ?_
  refine cs_ rfl (fun hc => ?_) (fun hc => ?_)
  · first
    | (cases hc; done)
    | (
      refine awp_region ?_
      refine rv rfl rfl (?_)
      refine rv rfl rfl (?_)
      refine rv rfl rfl (?_)
      refine rv rfl rfl (?_)
      refine rv rfl rfl (?_)
      refine rv rfl rfl (?_)
      refine rap false rfl rfl rfl rfl rfl rfl rfl (.own rfl rfl) (.own0 (bR_plain y).lim rfl rfl rfl rfl) (bR_plain y).wide (bR_plain y).ones (by show (_ + _) * 1 ≤ _; rw [bR_length, bR_length]; simp only [List.length_append] at hl; omega) rfl (?_)
      refine rv rfl rfl (?_)
      refine rv rfl rfl (?_)
      refine rs rfl rfl rfl rfl rfl rfl rfl (?_)
      refine rn ?_
      refine then_normal ?_
      refine awp_seq ?_
      refine awp_region ?_
      refine rv rfl rfl (?_)
      refine rn ?_
      refine then_normal ?_
      refine awp_seq ?_
      refine awp_block ?_
      refine awp_conv (fun _ _ _ _ _ hi => nilS_slot false 1 6 rfl hi) ?_
      refine awp_loopR (ι := List Bs × Bs) (fun p => ⟨[(0, .ptr 0 0), (6, .own 4)], [(0, 0, .own 3), (0, 1, .bool false)], [(3, .row 1 (bR p.2)), (4, .row 1 (nR p.1)), (2, .wr 1 (bR y))], 5⟩) (fun p => feedI x y p) (fun p => p.2.length) (([], x ++ y)) (feedI_0 x y) ⟨[0, 1, 2, 3, 4], rfl, ?_⟩ (fun p hp => ?_)
      · refine ⟨rfl, rfl, ?_, ?_, ?_⟩
        · refine ⟨⟨?_, rfl⟩, ?_⟩
          · first | exact .inl rfl | exact .inr rfl | (refine .inl ?_; (first | refine ei ?_ | refine eb ?_ | refine esl ?_ | refine estr ?_ | skip); first | assumption | exact bR_append _ _ | exact bR_drop _ _ | (simp [nR]; done) | rfl) | (refine .inr ?_; (first | refine ei ?_ | refine eb ?_ | refine esl ?_ | refine estr ?_ | skip); first | assumption | exact bR_append _ _ | exact bR_drop _ _ | (simp [nR]; done) | rfl)
          refine ⟨⟨?_, rfl⟩, ?_⟩
          · first | exact .inl rfl | exact .inr rfl | (refine .inl ?_; (first | refine ei ?_ | refine eb ?_ | refine esl ?_ | refine estr ?_ | skip); first | assumption | exact bR_append _ _ | exact bR_drop _ _ | (simp [nR]; done) | rfl) | (refine .inr ?_; (first | refine ei ?_ | refine eb ?_ | refine esl ?_ | refine estr ?_ | skip); first | assumption | exact bR_append _ _ | exact bR_drop _ _ | (simp [nR]; done) | rfl)
          exact trivial
        · refine ⟨⟨?_, rfl, rfl⟩, ?_⟩
          · first | exact ⟨_, rfl, .inl rfl⟩ | exact ⟨_, rfl, .inr rfl⟩ | (refine ⟨_, rfl, .inl ?_⟩; (first | refine ei ?_ | refine eb ?_ | refine esl ?_ | refine estr ?_ | skip); first | assumption | exact bR_append _ _ | exact bR_drop _ _ | (simp [nR]; done) | rfl) | (refine ⟨_, rfl, .inr ?_⟩; (first | refine ei ?_ | refine eb ?_ | refine esl ?_ | refine estr ?_ | skip); first | assumption | exact bR_append _ _ | exact bR_drop _ _ | (simp [nR]; done) | rfl)
          refine ⟨⟨?_, rfl, rfl⟩, ?_⟩
          · first | exact ⟨_, rfl, .inl rfl⟩ | exact ⟨_, rfl, .inr rfl⟩ | (refine ⟨_, rfl, .inl ?_⟩; (first | refine ei ?_ | refine eb ?_ | refine esl ?_ | refine estr ?_ | skip); first | assumption | exact bR_append _ _ | exact bR_drop _ _ | (simp [nR]; done) | rfl) | (refine ⟨_, rfl, .inr ?_⟩; (first | refine ei ?_ | refine eb ?_ | refine esl ?_ | refine estr ?_ | skip); first | assumption | exact bR_append _ _ | exact bR_drop _ _ | (simp [nR]; done) | rfl)
          exact trivial
        · refine ⟨orow rfl ?_ rfl, ?_⟩
          · first | rfl | (first | assumption | exact bR_append _ _ | exact bR_drop _ _ | (simp [nR]; done) | rfl)
          refine ⟨orow rfl ?_ rfl, ?_⟩
          · first | rfl | (first | assumption | exact bR_append _ _ | exact bR_drop _ _ | (simp [nR]; done) | rfl)
          refine ⟨owr rfl ?_ ((bR_plain y).lim) rfl, ?_⟩
          · first | rfl | (first | assumption | exact bR_append _ _ | exact bR_drop _ _ | (simp [nR]; done) | rfl)
          exact trivial
      refine awp_seq ?_
      refine awp_seq ?_
      refine awp_region ?_
      refine rv rfl rfl (?_)
      refine rv rfl rfl (?_)
      refine rv rfl rfl (?_)
      refine rv rfl rfl (?_)
      refine rv rfl rfl (?_)
      refine rv rfl rfl (?_)
      (first | refine gy rfl rfl rfl (rv rfl rfl (?_)) | refine gn rfl rfl rfl rfl rfl ?_ | refine gu rfl rfl rfl rfl ?_ | refine gs rfl rfl rfl rfl rfl (fun hg => rv rfl rfl (?_)) (fun hg => ?_)) <;> (
      (first | refine gy rfl rfl rfl (rv rfl rfl (?_)) | refine gn rfl rfl rfl rfl rfl ?_ | refine gu rfl rfl rfl rfl ?_ | refine gs rfl rfl rfl rfl rfl (fun hg => rv rfl rfl (?_)) (fun hg => ?_)) <;> (
      (first | refine gy rfl rfl rfl (rv rfl rfl (?_)) | refine gn rfl rfl rfl rfl rfl ?_ | refine gu rfl rfl rfl rfl ?_ | refine gs rfl rfl rfl rfl rfl (fun hg => rv rfl rfl (?_)) (fun hg => ?_)) <;> (
      (first | refine gy rfl rfl rfl (rv rfl rfl (?_)) | refine gn rfl rfl rfl rfl rfl ?_ | refine gu rfl rfl rfl rfl ?_ | refine gs rfl rfl rfl rfl rfl (fun hg => rv rfl rfl (?_)) (fun hg => ?_)) <;> (
      (first | refine gy rfl rfl rfl (rv rfl rfl (?_)) | refine gn rfl rfl rfl rfl rfl ?_ | refine gu rfl rfl rfl rfl ?_ | refine gs rfl rfl rfl rfl rfl (fun hg => rv rfl rfl (?_)) (fun hg => ?_)) <;> (
      (first | refine gy rfl rfl rfl (rv rfl rfl (?_)) | refine gn rfl rfl rfl rfl rfl ?_ | refine gu rfl rfl rfl rfl ?_ | refine gs rfl rfl rfl rfl rfl (fun hg => rv rfl rfl (?_)) (fun hg => ?_)) <;> (
      refine rv rfl rfl (?_)
      refine rn ?_
      refine then_normal ?_
      refine cs_ rfl (fun hc => ?_) (fun hc => ?_)
      · first
        | (cases hc; done)
        | (
          refine awp_skip ?_
          refine then_normal ?_
          refine awp_block ?_
          refine awp_seq ?_
          (have h2 := ge2 (by assumption)) <;> (
          refine awp_dp (m := 16) Try.mix (by kernel_rfl) (by kernel_rfl) (by kernel_rfl) (by kernel_rfl) (by kernel_rfl) (by kernel_rfl) (by kernel_rfl) ?_
          refine dv rfl rfl (fun _ => rfl) ?_
          refine dv rfl rfl (fun _ => rfl) ?_
          refine dv rfl rfl (fun _ => rfl) ?_
          refine dv rfl rfl (fun _ => rfl) ?_
          refine di rfl rfl rfl rfl rfl (fun _ => rfl) rfl (by decide) (bR_get0 h2) (bR_plain _).wide ?_
          refine dv rfl rfl (fun _ => rfl) ?_
          refine dv rfl rfl (fun _ => rfl) ?_
          refine dv rfl rfl (fun _ => rfl) ?_
          refine dv rfl rfl (fun _ => rfl) ?_
          refine dv rfl rfl (fun _ => rfl) ?_
          refine dv rfl rfl (fun _ => rfl) ?_
          refine dv rfl rfl (fun _ => rfl) ?_
          refine di rfl rfl rfl rfl rfl (fun _ => rfl) rfl (by decide) (bR_get1 h2) (bR_plain _).wide ?_
          refine dv rfl rfl (fun _ => rfl) ?_
          refine dv rfl rfl (fun _ => rfl) ?_
          refine dv (v := .int .i64 (num2 p.2 : Int)) rfl rfl (fun m => congrArg (fun z => some (AV.int .i64 z)) (num2_or h2)) ?_
          refine dn ?_
          refine rv rfl rfl (?_)
          refine rn ?_
          refine then_normal ?_
          refine awp_seq ?_
          refine awp_region ?_
          refine rv rfl rfl (?_)
          refine rv rfl rfl (?_)
          refine rv rfl rfl (?_)
          refine rv rfl rfl (?_)
          refine rv rfl rfl (?_)
          refine rs rfl rfl rfl rfl rfl rfl rfl (?_)
          refine rn ?_
          refine then_normal ?_
          refine awp_seq ?_
          refine awp_seq ?_
          refine awp_region ?_
          refine rv rfl rfl (?_)
          refine rv rfl rfl (?_)
          refine rv rfl rfl (?_)
          refine rv rfl rfl (?_)
          refine rv rfl rfl (?_)
          (first | refine gy rfl rfl rfl (rv rfl rfl (?_)) | refine gn rfl rfl rfl rfl rfl ?_ | refine gu rfl rfl rfl rfl ?_ | refine gs rfl rfl rfl rfl rfl (fun hg => rv rfl rfl (?_)) (fun hg => ?_)) <;> (
          (first | refine gy rfl rfl rfl (rv rfl rfl (?_)) | refine gn rfl rfl rfl rfl rfl ?_ | refine gu rfl rfl rfl rfl ?_ | refine gs rfl rfl rfl rfl rfl (fun hg => rv rfl rfl (?_)) (fun hg => ?_)) <;> (
          (first | refine gy rfl rfl rfl (rv rfl rfl (?_)) | refine gn rfl rfl rfl rfl rfl ?_ | refine gu rfl rfl rfl rfl ?_ | refine gs rfl rfl rfl rfl rfl (fun hg => rv rfl rfl (?_)) (fun hg => ?_)) <;> (
          (first | refine gy rfl rfl rfl (rv rfl rfl (?_)) | refine gn rfl rfl rfl rfl rfl ?_ | refine gu rfl rfl rfl rfl ?_ | refine gs rfl rfl rfl rfl rfl (fun hg => rv rfl rfl (?_)) (fun hg => ?_)) <;> (
          (first | refine gy rfl rfl rfl (rv rfl rfl (?_)) | refine gn rfl rfl rfl rfl rfl ?_ | refine gu rfl rfl rfl rfl ?_ | refine gs rfl rfl rfl rfl rfl (fun hg => rv rfl rfl (?_)) (fun hg => ?_)) <;> (
          (first | refine gy rfl rfl rfl (rv rfl rfl (?_)) | refine gn rfl rfl rfl rfl rfl ?_ | refine gu rfl rfl rfl rfl ?_ | refine gs rfl rfl rfl rfl rfl (fun hg => rv rfl rfl (?_)) (fun hg => ?_)) <;> (
          (first | refine gy rfl rfl rfl (rv rfl rfl (?_)) | refine gn rfl rfl rfl rfl rfl ?_ | refine gu rfl rfl rfl rfl ?_ | refine gs rfl rfl rfl rfl rfl (fun hg => rv rfl rfl (?_)) (fun hg => ?_)) <;> (
          (first | refine gy rfl rfl rfl (rv rfl rfl (?_)) | refine gn rfl rfl rfl rfl rfl ?_ | refine gu rfl rfl rfl rfl ?_ | refine gs rfl rfl rfl rfl rfl (fun hg => rv rfl rfl (?_)) (fun hg => ?_)) <;> (
          refine rv rfl rfl (?_)
          refine rn ?_
          refine then_normal ?_
          refine cs_ rfl (fun hc => ?_) (fun hc => ?_)
          · first
            | (cases hc; done)
            | (
              refine awp_exit ?_
              repeat (first | refine then_exit ?_ | refine inBlock_other rfl ?_)
              refine inBlock_exit ?_
              refine then_normal ?_
              refine awp_seq ?_
              refine awp_seq ?_
              refine awp_region ?_
              refine rv rfl rfl (?_)
              refine rv rfl rfl (?_)
              refine rv rfl rfl (?_)
              refine rv rfl rfl (?_)
              refine rn ?_
              refine then_normal ?_
              refine cs_ rfl (fun hc => ?_) (fun hc => ?_)
              · first
                | (cases hc; done)
                | (
                  refine awp_seq ?_
                  refine awp_region ?_
                  refine rv rfl rfl (?_)
                  refine rv rfl rfl (?_)
                  refine rv rfl rfl (?_)
                  refine rv rfl rfl (?_)
                  refine rn ?_
                  refine then_normal ?_
                  refine awp_ret ?_
                  repeat (first | refine then_ret ?_ | refine inBlock_ret ?_)
                  first | (exfalso; simp_all; done) | (have hq : parse (x ++ y) = (p.1, p.2, true) := (by first | exact feedI_bad hp h2 (gt4 (by assumption))); obtain ⟨rfl, e1, e2⟩ := feedT_of hq hb; (refine rrA (r := .tup [.sl (nR p.1), errB true 5]) [0, 1, 2, 3] [(0, 0, .own 3), (0, 1, .bool true)] [(3, .row 1 (bR (feedR false x y))), (2, .wr 1 (bR y))] rfl rfl rfl rfl (by repeat' (first | exact trivial | exact ⟨_, rfl, .inl rfl⟩ | exact ⟨_, rfl, .inr rfl⟩ | (refine ⟨_, rfl, .inl ?_⟩; (first | refine ei ?_ | refine eb ?_ | refine esl ?_ | refine estr ?_ | skip); first | assumption | (rw [e2]; done)) | (refine ⟨_, rfl, .inr ?_⟩; (first | refine ei ?_ | refine eb ?_ | refine esl ?_ | refine estr ?_ | skip); first | assumption | (rw [e2]; done)) | refine ⟨⟨?_, rfl, rfl⟩, ?_⟩)) (by repeat' (first | exact trivial | refine ⟨orow rfl ?_ rfl, ?_⟩ | refine ⟨owr rfl ?_ (bR_plain y |>.lim) rfl, ?_⟩ | rfl | (first | assumption | (rw [e2]; done)))) (⟨by unfold feedT; rw [e1], rfl, rfl, rfl⟩))) | (have hq : parse (x ++ y) = (p.1, p.2, false) := (by first | exact feedI_short hp (nge2 (by assumption)) | exact feedI_stop hp h2 (ngt4 (by assumption)) (lt2 (num2_lt _) (by assumption))); obtain ⟨rfl, e1, e2⟩ := feedT_of hq hb; (refine rrA (r := .tup [.sl (nR p.1), errB false 5]) [0, 1, 2, 3] [(0, 0, .own 3), (0, 1, .bool false)] [(3, .row 1 (bR (feedR false x y))), (2, .wr 1 (bR y))] rfl rfl rfl rfl (by repeat' (first | exact trivial | exact ⟨_, rfl, .inl rfl⟩ | exact ⟨_, rfl, .inr rfl⟩ | (refine ⟨_, rfl, .inl ?_⟩; (first | refine ei ?_ | refine eb ?_ | refine esl ?_ | refine estr ?_ | skip); first | assumption | (rw [e2]; done)) | (refine ⟨_, rfl, .inr ?_⟩; (first | refine ei ?_ | refine eb ?_ | refine esl ?_ | refine estr ?_ | skip); first | assumption | (rw [e2]; done)) | refine ⟨⟨?_, rfl, rfl⟩, ?_⟩)) (by repeat' (first | exact trivial | refine ⟨orow rfl ?_ rfl, ?_⟩ | refine ⟨owr rfl ?_ (bR_plain y |>.lim) rfl, ?_⟩ | rfl | (first | assumption | (rw [e2]; done)))) (⟨by unfold feedT; rw [e1], rfl, rfl, rfl⟩))))
              · first
                | (cases hc; done)
                | (
                  refine awp_skip ?_
                  refine then_normal ?_
                  refine awp_seq ?_
                  refine awp_region ?_
                  refine rv rfl rfl (?_)
                  refine rv rfl rfl (?_)
                  refine rv rfl rfl (?_)
                  refine rn ?_
                  refine then_normal ?_
                  refine awp_ret ?_
                  repeat (first | refine then_ret ?_ | refine inBlock_ret ?_)
                  first | (exfalso; simp_all; done) | (have hq : parse (x ++ y) = (p.1, p.2, true) := (by first | exact feedI_bad hp h2 (gt4 (by assumption))); obtain ⟨rfl, e1, e2⟩ := feedT_of hq hb; (refine rrA (r := .tup [.sl (nR p.1), errB true 5]) [0, 1, 2, 3] [(0, 0, .own 3), (0, 1, .bool true)] [(3, .row 1 (bR (feedR false x y))), (2, .wr 1 (bR y))] rfl rfl rfl rfl (by repeat' (first | exact trivial | exact ⟨_, rfl, .inl rfl⟩ | exact ⟨_, rfl, .inr rfl⟩ | (refine ⟨_, rfl, .inl ?_⟩; (first | refine ei ?_ | refine eb ?_ | refine esl ?_ | refine estr ?_ | skip); first | assumption | (rw [e2]; done)) | (refine ⟨_, rfl, .inr ?_⟩; (first | refine ei ?_ | refine eb ?_ | refine esl ?_ | refine estr ?_ | skip); first | assumption | (rw [e2]; done)) | refine ⟨⟨?_, rfl, rfl⟩, ?_⟩)) (by repeat' (first | exact trivial | refine ⟨orow rfl ?_ rfl, ?_⟩ | refine ⟨owr rfl ?_ (bR_plain y |>.lim) rfl, ?_⟩ | rfl | (first | assumption | (rw [e2]; done)))) (⟨by unfold feedT; rw [e1], rfl, rfl, rfl⟩))) | (have hq : parse (x ++ y) = (p.1, p.2, false) := (by first | exact feedI_short hp (nge2 (by assumption)) | exact feedI_stop hp h2 (ngt4 (by assumption)) (lt2 (num2_lt _) (by assumption))); obtain ⟨rfl, e1, e2⟩ := feedT_of hq hb; (refine rrA (r := .tup [.sl (nR p.1), errB false 5]) [0, 1, 2, 3] [(0, 0, .own 3), (0, 1, .bool false)] [(3, .row 1 (bR (feedR false x y))), (2, .wr 1 (bR y))] rfl rfl rfl rfl (by repeat' (first | exact trivial | exact ⟨_, rfl, .inl rfl⟩ | exact ⟨_, rfl, .inr rfl⟩ | (refine ⟨_, rfl, .inl ?_⟩; (first | refine ei ?_ | refine eb ?_ | refine esl ?_ | refine estr ?_ | skip); first | assumption | (rw [e2]; done)) | (refine ⟨_, rfl, .inr ?_⟩; (first | refine ei ?_ | refine eb ?_ | refine esl ?_ | refine estr ?_ | skip); first | assumption | (rw [e2]; done)) | refine ⟨⟨?_, rfl, rfl⟩, ?_⟩)) (by repeat' (first | exact trivial | refine ⟨orow rfl ?_ rfl, ?_⟩ | refine ⟨owr rfl ?_ (bR_plain y |>.lim) rfl, ?_⟩ | rfl | (first | assumption | (rw [e2]; done)))) (⟨by unfold feedT; rw [e1], rfl, rfl, rfl⟩)))))
          · first
            | (cases hc; done)
            | (
              refine awp_skip ?_
              refine then_normal ?_
              refine awp_seq ?_
              (have hn := ngt4 (by assumption); have hf := nlt2 (num2_lt _) (by assumption)) <;> (
              refine awp_region ?_
              refine rv rfl rfl (?_)
              refine rv rfl rfl (?_)
              refine rv rfl rfl (?_)
              refine rv rfl rfl (?_)
              refine rv rfl rfl (?_)
              refine rv rfl rfl (?_)
              refine rv rfl rfl (?_)
              refine rV rfl (va_sub (l := 2) (h := 2 + num2 p.2) rfl rfl rfl rfl ⟨_, rfl⟩ ⟨_, congrArg (AV.int .i64) (W2 (num2_lt _))⟩ (by omega) (by rw [bR_length]; omega) (bR_plain _).wide) (?_)
              refine rc1 rfl rfl rfl (clone_c' (by have := hp.2.1; omega)) (?_)
              refine rbs false rfl rfl rfl rfl rfl rfl rfl rfl rfl rfl (?_)
              refine rap false rfl rfl rfl rfl rfl rfl rfl (.own rfl rfl) (.sl rfl rfl rfl) (nR_plain [_]).wide (nR_plain [_]).ones (by show (_ + 1) * 24 ≤ _; rw [nR_length]; have := hp.2.2; omega) rfl (?_)
              refine rv rfl rfl (?_)
              refine rn ?_
              refine then_normal ?_
              refine awp_region ?_
              refine rv rfl rfl (?_)
              refine rv rfl rfl (?_)
              refine rv rfl rfl (?_)
              refine rv rfl rfl (?_)
              refine rv rfl rfl (?_)
              refine rv rfl rfl (?_)
              refine rv rfl rfl (?_)
              refine rtl rfl rfl rfl rfl rfl rfl rfl ⟨_, congrArg (AV.int .i64) (W2 (num2_lt _))⟩ (by rw [bR_length]; omega) rfl (?_)
              refine rv rfl rfl (?_)
              refine rv rfl rfl (?_)
              refine rs rfl rfl rfl rfl rfl rfl rfl (?_)
              refine rn ?_
              refine inBlock_normal ?_
              refine then_normal ?_
              refine ⟨(p.1 ++ [(p.2.take (2 + num2 p.2)).drop 2], p.2.drop (2 + num2 p.2)), feedI_step hp h2 hn hf, by simp; omega, [0, 1, 2, 7, 6], rfl, ?_⟩
              refine ⟨rfl, rfl, ?_, ?_, ?_⟩
              · refine ⟨⟨?_, rfl⟩, ?_⟩
                · first | exact .inl rfl | exact .inr rfl | (refine .inl ?_; (first | refine ei ?_ | refine eb ?_ | refine esl ?_ | refine estr ?_ | skip); first | assumption | exact bR_append _ _ | exact bR_drop _ _ | (simp [nR]; done) | rfl) | (refine .inr ?_; (first | refine ei ?_ | refine eb ?_ | refine esl ?_ | refine estr ?_ | skip); first | assumption | exact bR_append _ _ | exact bR_drop _ _ | (simp [nR]; done) | rfl)
                refine ⟨⟨?_, rfl⟩, ?_⟩
                · first | exact .inl rfl | exact .inr rfl | (refine .inl ?_; (first | refine ei ?_ | refine eb ?_ | refine esl ?_ | refine estr ?_ | skip); first | assumption | exact bR_append _ _ | exact bR_drop _ _ | (simp [nR]; done) | rfl) | (refine .inr ?_; (first | refine ei ?_ | refine eb ?_ | refine esl ?_ | refine estr ?_ | skip); first | assumption | exact bR_append _ _ | exact bR_drop _ _ | (simp [nR]; done) | rfl)
                exact trivial
              · refine ⟨⟨?_, rfl, rfl⟩, ?_⟩
                · first | exact ⟨_, rfl, .inl rfl⟩ | exact ⟨_, rfl, .inr rfl⟩ | (refine ⟨_, rfl, .inl ?_⟩; (first | refine ei ?_ | refine eb ?_ | refine esl ?_ | refine estr ?_ | skip); first | assumption | exact bR_append _ _ | exact bR_drop _ _ | (simp [nR]; done) | rfl) | (refine ⟨_, rfl, .inr ?_⟩; (first | refine ei ?_ | refine eb ?_ | refine esl ?_ | refine estr ?_ | skip); first | assumption | exact bR_append _ _ | exact bR_drop _ _ | (simp [nR]; done) | rfl)
                refine ⟨⟨?_, rfl, rfl⟩, ?_⟩
                · first | exact ⟨_, rfl, .inl rfl⟩ | exact ⟨_, rfl, .inr rfl⟩ | (refine ⟨_, rfl, .inl ?_⟩; (first | refine ei ?_ | refine eb ?_ | refine esl ?_ | refine estr ?_ | skip); first | assumption | exact bR_append _ _ | exact bR_drop _ _ | (simp [nR]; done) | rfl) | (refine ⟨_, rfl, .inr ?_⟩; (first | refine ei ?_ | refine eb ?_ | refine esl ?_ | refine estr ?_ | skip); first | assumption | exact bR_append _ _ | exact bR_drop _ _ | (simp [nR]; done) | rfl)
                exact trivial
              · refine ⟨orow rfl ?_ rfl, ?_⟩
                · first | rfl | (first | assumption | exact bR_append _ _ | exact bR_drop _ _ | (simp [nR]; done) | rfl)
                refine ⟨orow rfl ?_ rfl, ?_⟩
                · first | rfl | (first | assumption | exact bR_append _ _ | exact bR_drop _ _ | (simp [nR]; done) | rfl)
                refine ⟨owr rfl ?_ ((bR_plain y).lim) rfl, ?_⟩
                · first | rfl | (first | assumption | exact bR_append _ _ | exact bR_drop _ _ | (simp [nR]; done) | rfl)
                exact trivial))))))))))))
      · first
        | (cases hc; done)
        | (
          refine awp_exit ?_
          repeat (first | refine then_exit ?_ | refine inBlock_other rfl ?_)
          refine inBlock_exit ?_
          refine then_normal ?_
          refine awp_seq ?_
          refine awp_seq ?_
          refine awp_region ?_
          refine rv rfl rfl (?_)
          refine rv rfl rfl (?_)
          refine rv rfl rfl (?_)
          refine rv rfl rfl (?_)
          refine rn ?_
          refine then_normal ?_
          refine cs_ rfl (fun hc => ?_) (fun hc => ?_)
          · first
            | (cases hc; done)
            | (
              refine awp_seq ?_
              refine awp_region ?_
              refine rv rfl rfl (?_)
              refine rv rfl rfl (?_)
              refine rv rfl rfl (?_)
              refine rv rfl rfl (?_)
              refine rn ?_
              refine then_normal ?_
              refine awp_ret ?_
              repeat (first | refine then_ret ?_ | refine inBlock_ret ?_)
              first | (exfalso; simp_all; done) | (have hq : parse (x ++ y) = (p.1, p.2, true) := (by first | exact feedI_bad hp h2 (gt4 (by assumption))); obtain ⟨rfl, e1, e2⟩ := feedT_of hq hb; (refine rrA (r := .tup [.sl (nR p.1), errB true 5]) [0, 1, 2, 3] [(0, 0, .own 3), (0, 1, .bool true)] [(3, .row 1 (bR (feedR false x y))), (2, .wr 1 (bR y))] rfl rfl rfl rfl (by repeat' (first | exact trivial | exact ⟨_, rfl, .inl rfl⟩ | exact ⟨_, rfl, .inr rfl⟩ | (refine ⟨_, rfl, .inl ?_⟩; (first | refine ei ?_ | refine eb ?_ | refine esl ?_ | refine estr ?_ | skip); first | assumption | (rw [e2]; done)) | (refine ⟨_, rfl, .inr ?_⟩; (first | refine ei ?_ | refine eb ?_ | refine esl ?_ | refine estr ?_ | skip); first | assumption | (rw [e2]; done)) | refine ⟨⟨?_, rfl, rfl⟩, ?_⟩)) (by repeat' (first | exact trivial | refine ⟨orow rfl ?_ rfl, ?_⟩ | refine ⟨owr rfl ?_ (bR_plain y |>.lim) rfl, ?_⟩ | rfl | (first | assumption | (rw [e2]; done)))) (⟨by unfold feedT; rw [e1], rfl, rfl, rfl⟩))) | (have hq : parse (x ++ y) = (p.1, p.2, false) := (by first | exact feedI_short hp (nge2 (by assumption)) | exact feedI_stop hp h2 (ngt4 (by assumption)) (lt2 (num2_lt _) (by assumption))); obtain ⟨rfl, e1, e2⟩ := feedT_of hq hb; (refine rrA (r := .tup [.sl (nR p.1), errB false 5]) [0, 1, 2, 3] [(0, 0, .own 3), (0, 1, .bool false)] [(3, .row 1 (bR (feedR false x y))), (2, .wr 1 (bR y))] rfl rfl rfl rfl (by repeat' (first | exact trivial | exact ⟨_, rfl, .inl rfl⟩ | exact ⟨_, rfl, .inr rfl⟩ | (refine ⟨_, rfl, .inl ?_⟩; (first | refine ei ?_ | refine eb ?_ | refine esl ?_ | refine estr ?_ | skip); first | assumption | (rw [e2]; done)) | (refine ⟨_, rfl, .inr ?_⟩; (first | refine ei ?_ | refine eb ?_ | refine esl ?_ | refine estr ?_ | skip); first | assumption | (rw [e2]; done)) | refine ⟨⟨?_, rfl, rfl⟩, ?_⟩)) (by repeat' (first | exact trivial | refine ⟨orow rfl ?_ rfl, ?_⟩ | refine ⟨owr rfl ?_ (bR_plain y |>.lim) rfl, ?_⟩ | rfl | (first | assumption | (rw [e2]; done)))) (⟨by unfold feedT; rw [e1], rfl, rfl, rfl⟩))))
          · first
            | (cases hc; done)
            | (
              refine awp_skip ?_
              refine then_normal ?_
              refine awp_seq ?_
              refine awp_region ?_
              refine rv rfl rfl (?_)
              refine rv rfl rfl (?_)
              refine rv rfl rfl (?_)
              refine rn ?_
              refine then_normal ?_
              refine awp_ret ?_
              repeat (first | refine then_ret ?_ | refine inBlock_ret ?_)
              first | (exfalso; simp_all; done) | (have hq : parse (x ++ y) = (p.1, p.2, true) := (by first | exact feedI_bad hp h2 (gt4 (by assumption))); obtain ⟨rfl, e1, e2⟩ := feedT_of hq hb; (refine rrA (r := .tup [.sl (nR p.1), errB true 5]) [0, 1, 2, 3] [(0, 0, .own 3), (0, 1, .bool true)] [(3, .row 1 (bR (feedR false x y))), (2, .wr 1 (bR y))] rfl rfl rfl rfl (by repeat' (first | exact trivial | exact ⟨_, rfl, .inl rfl⟩ | exact ⟨_, rfl, .inr rfl⟩ | (refine ⟨_, rfl, .inl ?_⟩; (first | refine ei ?_ | refine eb ?_ | refine esl ?_ | refine estr ?_ | skip); first | assumption | (rw [e2]; done)) | (refine ⟨_, rfl, .inr ?_⟩; (first | refine ei ?_ | refine eb ?_ | refine esl ?_ | refine estr ?_ | skip); first | assumption | (rw [e2]; done)) | refine ⟨⟨?_, rfl, rfl⟩, ?_⟩)) (by repeat' (first | exact trivial | refine ⟨orow rfl ?_ rfl, ?_⟩ | refine ⟨owr rfl ?_ (bR_plain y |>.lim) rfl, ?_⟩ | rfl | (first | assumption | (rw [e2]; done)))) (⟨by unfold feedT; rw [e1], rfl, rfl, rfl⟩))) | (have hq : parse (x ++ y) = (p.1, p.2, false) := (by first | exact feedI_short hp (nge2 (by assumption)) | exact feedI_stop hp h2 (ngt4 (by assumption)) (lt2 (num2_lt _) (by assumption))); obtain ⟨rfl, e1, e2⟩ := feedT_of hq hb; (refine rrA (r := .tup [.sl (nR p.1), errB false 5]) [0, 1, 2, 3] [(0, 0, .own 3), (0, 1, .bool false)] [(3, .row 1 (bR (feedR false x y))), (2, .wr 1 (bR y))] rfl rfl rfl rfl (by repeat' (first | exact trivial | exact ⟨_, rfl, .inl rfl⟩ | exact ⟨_, rfl, .inr rfl⟩ | (refine ⟨_, rfl, .inl ?_⟩; (first | refine ei ?_ | refine eb ?_ | refine esl ?_ | refine estr ?_ | skip); first | assumption | (rw [e2]; done)) | (refine ⟨_, rfl, .inr ?_⟩; (first | refine ei ?_ | refine eb ?_ | refine esl ?_ | refine estr ?_ | skip); first | assumption | (rw [e2]; done)) | refine ⟨⟨?_, rfl, rfl⟩, ?_⟩)) (by repeat' (first | exact trivial | refine ⟨orow rfl ?_ rfl, ?_⟩ | refine ⟨owr rfl ?_ (bR_plain y |>.lim) rfl, ?_⟩ | rfl | (first | assumption | (rw [e2]; done)))) (⟨by unfold feedT; rw [e1], rfl, rfl, rfl⟩))))))))))))
  · first
    | (cases hc; done)
    | (
      refine awp_skip ?_
      refine then_normal ?_
      refine awp_seq ?_
      refine awp_region ?_
      refine rv rfl rfl (?_)
      refine rn ?_
      refine then_normal ?_
      refine awp_seq ?_
      refine awp_block ?_
      refine awp_conv (fun _ _ _ _ _ hi => nilS_slot false 1 6 rfl hi) ?_
      refine awp_loopR (ι := List Bs × Bs) (fun p => ⟨[(0, .ptr 0 0), (6, .own 4)], [(0, 0, .own 3), (0, 1, .bool false)], [(3, .row 1 (bR p.2)), (4, .row 1 (nR p.1)), (2, .wr 1 (bR y))], 5⟩) (fun p => feedI x y p) (fun p => p.2.length) (([], x ++ y)) (feedI_0 x y) ⟨[0, 1, 2, 3, 4], rfl, ?_⟩ (fun p hp => ?_)
      · refine ⟨rfl, rfl, ?_, ?_, ?_⟩
        · refine ⟨⟨?_, rfl⟩, ?_⟩
          · first | exact .inl rfl | exact .inr rfl | (refine .inl ?_; (first | refine ei ?_ | refine eb ?_ | refine esl ?_ | refine estr ?_ | skip); first | assumption | exact bR_append _ _ | exact bR_drop _ _ | (simp [nR]; done) | rfl) | (refine .inr ?_; (first | refine ei ?_ | refine eb ?_ | refine esl ?_ | refine estr ?_ | skip); first | assumption | exact bR_append _ _ | exact bR_drop _ _ | (simp [nR]; done) | rfl)
          refine ⟨⟨?_, rfl⟩, ?_⟩
          · first | exact .inl rfl | exact .inr rfl | (refine .inl ?_; (first | refine ei ?_ | refine eb ?_ | refine esl ?_ | refine estr ?_ | skip); first | assumption | exact bR_append _ _ | exact bR_drop _ _ | (simp [nR]; done) | rfl) | (refine .inr ?_; (first | refine ei ?_ | refine eb ?_ | refine esl ?_ | refine estr ?_ | skip); first | assumption | exact bR_append _ _ | exact bR_drop _ _ | (simp [nR]; done) | rfl)
          exact trivial
        · refine ⟨⟨?_, rfl, rfl⟩, ?_⟩
          · first | exact ⟨_, rfl, .inl rfl⟩ | exact ⟨_, rfl, .inr rfl⟩ | (refine ⟨_, rfl, .inl ?_⟩; (first | refine ei ?_ | refine eb ?_ | refine esl ?_ | refine estr ?_ | skip); first | assumption | exact bR_append _ _ | exact bR_drop _ _ | (simp [nR]; done) | rfl) | (refine ⟨_, rfl, .inr ?_⟩; (first | refine ei ?_ | refine eb ?_ | refine esl ?_ | refine estr ?_ | skip); first | assumption | exact bR_append _ _ | exact bR_drop _ _ | (simp [nR]; done) | rfl)
          refine ⟨⟨?_, rfl, rfl⟩, ?_⟩
          · first | exact ⟨_, rfl, .inl rfl⟩ | exact ⟨_, rfl, .inr rfl⟩ | (refine ⟨_, rfl, .inl ?_⟩; (first | refine ei ?_ | refine eb ?_ | refine esl ?_ | refine estr ?_ | skip); first | assumption | exact bR_append _ _ | exact bR_drop _ _ | (simp [nR]; done) | rfl) | (refine ⟨_, rfl, .inr ?_⟩; (first | refine ei ?_ | refine eb ?_ | refine esl ?_ | refine estr ?_ | skip); first | assumption | exact bR_append _ _ | exact bR_drop _ _ | (simp [nR]; done) | rfl)
          exact trivial
        · refine ⟨orow rfl ?_ rfl, ?_⟩
          · first | rfl | (first | assumption | exact bR_append _ _ | exact bR_drop _ _ | (simp [nR]; done) | rfl)
          refine ⟨orow rfl ?_ rfl, ?_⟩
          · first | rfl | (first | assumption | exact bR_append _ _ | exact bR_drop _ _ | (simp [nR]; done) | rfl)
          refine ⟨owr rfl ?_ ((bR_plain y).lim) rfl, ?_⟩
          · first | rfl | (first | assumption | exact bR_append _ _ | exact bR_drop _ _ | (simp [nR]; done) | rfl)
          exact trivial
      refine awp_seq ?_
      refine awp_seq ?_
      refine awp_region ?_
      refine rv rfl rfl (?_)
      refine rv rfl rfl (?_)
      refine rv rfl rfl (?_)
      refine rv rfl rfl (?_)
      refine rv rfl rfl (?_)
      refine rv rfl rfl (?_)
      (first | refine gy rfl rfl rfl (rv rfl rfl (?_)) | refine gn rfl rfl rfl rfl rfl ?_ | refine gu rfl rfl rfl rfl ?_ | refine gs rfl rfl rfl rfl rfl (fun hg => rv rfl rfl (?_)) (fun hg => ?_)) <;> (
      (first | refine gy rfl rfl rfl (rv rfl rfl (?_)) | refine gn rfl rfl rfl rfl rfl ?_ | refine gu rfl rfl rfl rfl ?_ | refine gs rfl rfl rfl rfl rfl (fun hg => rv rfl rfl (?_)) (fun hg => ?_)) <;> (
      (first | refine gy rfl rfl rfl (rv rfl rfl (?_)) | refine gn rfl rfl rfl rfl rfl ?_ | refine gu rfl rfl rfl rfl ?_ | refine gs rfl rfl rfl rfl rfl (fun hg => rv rfl rfl (?_)) (fun hg => ?_)) <;> (
      (first | refine gy rfl rfl rfl (rv rfl rfl (?_)) | refine gn rfl rfl rfl rfl rfl ?_ | refine gu rfl rfl rfl rfl ?_ | refine gs rfl rfl rfl rfl rfl (fun hg => rv rfl rfl (?_)) (fun hg => ?_)) <;> (
      (first | refine gy rfl rfl rfl (rv rfl rfl (?_)) | refine gn rfl rfl rfl rfl rfl ?_ | refine gu rfl rfl rfl rfl ?_ | refine gs rfl rfl rfl rfl rfl (fun hg => rv rfl rfl (?_)) (fun hg => ?_)) <;> (
      (first | refine gy rfl rfl rfl (rv rfl rfl (?_)) | refine gn rfl rfl rfl rfl rfl ?_ | refine gu rfl rfl rfl rfl ?_ | refine gs rfl rfl rfl rfl rfl (fun hg => rv rfl rfl (?_)) (fun hg => ?_)) <;> (
      refine rv rfl rfl (?_)
      refine rn ?_
      refine then_normal ?_
      refine cs_ rfl (fun hc => ?_) (fun hc => ?_)
      · first
        | (cases hc; done)
        | (
          refine awp_skip ?_
          refine then_normal ?_
          refine awp_block ?_
          refine awp_seq ?_
          (have h2 := ge2 (by assumption)) <;> (
          refine awp_dp (m := 16) Try.mix (by kernel_rfl) (by kernel_rfl) (by kernel_rfl) (by kernel_rfl) (by kernel_rfl) (by kernel_rfl) (by kernel_rfl) ?_
          refine dv rfl rfl (fun _ => rfl) ?_
          refine dv rfl rfl (fun _ => rfl) ?_
          refine dv rfl rfl (fun _ => rfl) ?_
          refine dv rfl rfl (fun _ => rfl) ?_
          refine di rfl rfl rfl rfl rfl (fun _ => rfl) rfl (by decide) (bR_get0 h2) (bR_plain _).wide ?_
          refine dv rfl rfl (fun _ => rfl) ?_
          refine dv rfl rfl (fun _ => rfl) ?_
          refine dv rfl rfl (fun _ => rfl) ?_
          refine dv rfl rfl (fun _ => rfl) ?_
          refine dv rfl rfl (fun _ => rfl) ?_
          refine dv rfl rfl (fun _ => rfl) ?_
          refine dv rfl rfl (fun _ => rfl) ?_
          refine di rfl rfl rfl rfl rfl (fun _ => rfl) rfl (by decide) (bR_get1 h2) (bR_plain _).wide ?_
          refine dv rfl rfl (fun _ => rfl) ?_
          refine dv rfl rfl (fun _ => rfl) ?_
          refine dv (v := .int .i64 (num2 p.2 : Int)) rfl rfl (fun m => congrArg (fun z => some (AV.int .i64 z)) (num2_or h2)) ?_
          refine dn ?_
          refine rv rfl rfl (?_)
          refine rn ?_
          refine then_normal ?_
          refine awp_seq ?_
          refine awp_region ?_
          refine rv rfl rfl (?_)
          refine rv rfl rfl (?_)
          refine rv rfl rfl (?_)
          refine rv rfl rfl (?_)
          refine rv rfl rfl (?_)
          refine rs rfl rfl rfl rfl rfl rfl rfl (?_)
          refine rn ?_
          refine then_normal ?_
          refine awp_seq ?_
          refine awp_seq ?_
          refine awp_region ?_
          refine rv rfl rfl (?_)
          refine rv rfl rfl (?_)
          refine rv rfl rfl (?_)
          refine rv rfl rfl (?_)
          refine rv rfl rfl (?_)
          (first | refine gy rfl rfl rfl (rv rfl rfl (?_)) | refine gn rfl rfl rfl rfl rfl ?_ | refine gu rfl rfl rfl rfl ?_ | refine gs rfl rfl rfl rfl rfl (fun hg => rv rfl rfl (?_)) (fun hg => ?_)) <;> (
          (first | refine gy rfl rfl rfl (rv rfl rfl (?_)) | refine gn rfl rfl rfl rfl rfl ?_ | refine gu rfl rfl rfl rfl ?_ | refine gs rfl rfl rfl rfl rfl (fun hg => rv rfl rfl (?_)) (fun hg => ?_)) <;> (
          (first | refine gy rfl rfl rfl (rv rfl rfl (?_)) | refine gn rfl rfl rfl rfl rfl ?_ | refine gu rfl rfl rfl rfl ?_ | refine gs rfl rfl rfl rfl rfl (fun hg => rv rfl rfl (?_)) (fun hg => ?_)) <;> (
          (first | refine gy rfl rfl rfl (rv rfl rfl (?_)) | refine gn rfl rfl rfl rfl rfl ?_ | refine gu rfl rfl rfl rfl ?_ | refine gs rfl rfl rfl rfl rfl (fun hg => rv rfl rfl (?_)) (fun hg => ?_)) <;> (
          (first | refine gy rfl rfl rfl (rv rfl rfl (?_)) | refine gn rfl rfl rfl rfl rfl ?_ | refine gu rfl rfl rfl rfl ?_ | refine gs rfl rfl rfl rfl rfl (fun hg => rv rfl rfl (?_)) (fun hg => ?_)) <;> (
          (first | refine gy rfl rfl rfl (rv rfl rfl (?_)) | refine gn rfl rfl rfl rfl rfl ?_ | refine gu rfl rfl rfl rfl ?_ | refine gs rfl rfl rfl rfl rfl (fun hg => rv rfl rfl (?_)) (fun hg => ?_)) <;> (
          (first | refine gy rfl rfl rfl (rv rfl rfl (?_)) | refine gn rfl rfl rfl rfl rfl ?_ | refine gu rfl rfl rfl rfl ?_ | refine gs rfl rfl rfl rfl rfl (fun hg => rv rfl rfl (?_)) (fun hg => ?_)) <;> (
          (first | refine gy rfl rfl rfl (rv rfl rfl (?_)) | refine gn rfl rfl rfl rfl rfl ?_ | refine gu rfl rfl rfl rfl ?_ | refine gs rfl rfl rfl rfl rfl (fun hg => rv rfl rfl (?_)) (fun hg => ?_)) <;> (
          refine rv rfl rfl (?_)
          refine rn ?_
          refine then_normal ?_
          refine cs_ rfl (fun hc => ?_) (fun hc => ?_)
          · first
            | (cases hc; done)
            | (
              refine awp_exit ?_
              repeat (first | refine then_exit ?_ | refine inBlock_other rfl ?_)
              refine inBlock_exit ?_
              refine then_normal ?_
              refine awp_seq ?_
              refine awp_seq ?_
              refine awp_region ?_
              refine rv rfl rfl (?_)
              refine rv rfl rfl (?_)
              refine rv rfl rfl (?_)
              refine rv rfl rfl (?_)
              refine rn ?_
              refine then_normal ?_
              refine cs_ rfl (fun hc => ?_) (fun hc => ?_)
              · first
                | (cases hc; done)
                | (
                  refine awp_seq ?_
                  refine awp_region ?_
                  refine rv rfl rfl (?_)
                  refine rv rfl rfl (?_)
                  refine rv rfl rfl (?_)
                  refine rv rfl rfl (?_)
                  refine rn ?_
                  refine then_normal ?_
                  refine awp_ret ?_
                  repeat (first | refine then_ret ?_ | refine inBlock_ret ?_)
                  first | (exfalso; simp_all; done) | (have hq : parse (x ++ y) = (p.1, p.2, true) := (by first | exact feedI_bad hp h2 (gt4 (by assumption))); obtain ⟨rfl, e1, e2⟩ := feedT_of hq hb; (refine rrA (r := .tup [.sl (nR p.1), errB true 5]) [0, 1, 2, 3] [(0, 0, .own 3), (0, 1, .bool true)] [(3, .row 1 (bR (feedR false x y))), (2, .wr 1 (bR y))] rfl rfl rfl rfl (by repeat' (first | exact trivial | exact ⟨_, rfl, .inl rfl⟩ | exact ⟨_, rfl, .inr rfl⟩ | (refine ⟨_, rfl, .inl ?_⟩; (first | refine ei ?_ | refine eb ?_ | refine esl ?_ | refine estr ?_ | skip); first | assumption | (rw [e2]; done)) | (refine ⟨_, rfl, .inr ?_⟩; (first | refine ei ?_ | refine eb ?_ | refine esl ?_ | refine estr ?_ | skip); first | assumption | (rw [e2]; done)) | refine ⟨⟨?_, rfl, rfl⟩, ?_⟩)) (by repeat' (first | exact trivial | refine ⟨orow rfl ?_ rfl, ?_⟩ | refine ⟨owr rfl ?_ (bR_plain y |>.lim) rfl, ?_⟩ | rfl | (first | assumption | (rw [e2]; done)))) (⟨by unfold feedT; rw [e1], rfl, rfl, rfl⟩))) | (have hq : parse (x ++ y) = (p.1, p.2, false) := (by first | exact feedI_short hp (nge2 (by assumption)) | exact feedI_stop hp h2 (ngt4 (by assumption)) (lt2 (num2_lt _) (by assumption))); obtain ⟨rfl, e1, e2⟩ := feedT_of hq hb; (refine rrA (r := .tup [.sl (nR p.1), errB false 5]) [0, 1, 2, 3] [(0, 0, .own 3), (0, 1, .bool false)] [(3, .row 1 (bR (feedR false x y))), (2, .wr 1 (bR y))] rfl rfl rfl rfl (by repeat' (first | exact trivial | exact ⟨_, rfl, .inl rfl⟩ | exact ⟨_, rfl, .inr rfl⟩ | (refine ⟨_, rfl, .inl ?_⟩; (first | refine ei ?_ | refine eb ?_ | refine esl ?_ | refine estr ?_ | skip); first | assumption | (rw [e2]; done)) | (refine ⟨_, rfl, .inr ?_⟩; (first | refine ei ?_ | refine eb ?_ | refine esl ?_ | refine estr ?_ | skip); first | assumption | (rw [e2]; done)) | refine ⟨⟨?_, rfl, rfl⟩, ?_⟩)) (by repeat' (first | exact trivial | refine ⟨orow rfl ?_ rfl, ?_⟩ | refine ⟨owr rfl ?_ (bR_plain y |>.lim) rfl, ?_⟩ | rfl | (first | assumption | (rw [e2]; done)))) (⟨by unfold feedT; rw [e1], rfl, rfl, rfl⟩))))
              · first
                | (cases hc; done)
                | (
                  refine awp_skip ?_
                  refine then_normal ?_
                  refine awp_seq ?_
                  refine awp_region ?_
                  refine rv rfl rfl (?_)
                  refine rv rfl rfl (?_)
                  refine rv rfl rfl (?_)
                  refine rn ?_
                  refine then_normal ?_
                  refine awp_ret ?_
                  repeat (first | refine then_ret ?_ | refine inBlock_ret ?_)
                  first | (exfalso; simp_all; done) | (have hq : parse (x ++ y) = (p.1, p.2, true) := (by first | exact feedI_bad hp h2 (gt4 (by assumption))); obtain ⟨rfl, e1, e2⟩ := feedT_of hq hb; (refine rrA (r := .tup [.sl (nR p.1), errB true 5]) [0, 1, 2, 3] [(0, 0, .own 3), (0, 1, .bool true)] [(3, .row 1 (bR (feedR false x y))), (2, .wr 1 (bR y))] rfl rfl rfl rfl (by repeat' (first | exact trivial | exact ⟨_, rfl, .inl rfl⟩ | exact ⟨_, rfl, .inr rfl⟩ | (refine ⟨_, rfl, .inl ?_⟩; (first | refine ei ?_ | refine eb ?_ | refine esl ?_ | refine estr ?_ | skip); first | assumption | (rw [e2]; done)) | (refine ⟨_, rfl, .inr ?_⟩; (first | refine ei ?_ | refine eb ?_ | refine esl ?_ | refine estr ?_ | skip); first | assumption | (rw [e2]; done)) | refine ⟨⟨?_, rfl, rfl⟩, ?_⟩)) (by repeat' (first | exact trivial | refine ⟨orow rfl ?_ rfl, ?_⟩ | refine ⟨owr rfl ?_ (bR_plain y |>.lim) rfl, ?_⟩ | rfl | (first | assumption | (rw [e2]; done)))) (⟨by unfold feedT; rw [e1], rfl, rfl, rfl⟩))) | (have hq : parse (x ++ y) = (p.1, p.2, false) := (by first | exact feedI_short hp (nge2 (by assumption)) | exact feedI_stop hp h2 (ngt4 (by assumption)) (lt2 (num2_lt _) (by assumption))); obtain ⟨rfl, e1, e2⟩ := feedT_of hq hb; (refine rrA (r := .tup [.sl (nR p.1), errB false 5]) [0, 1, 2, 3] [(0, 0, .own 3), (0, 1, .bool false)] [(3, .row 1 (bR (feedR false x y))), (2, .wr 1 (bR y))] rfl rfl rfl rfl (by repeat' (first | exact trivial | exact ⟨_, rfl, .inl rfl⟩ | exact ⟨_, rfl, .inr rfl⟩ | (refine ⟨_, rfl, .inl ?_⟩; (first | refine ei ?_ | refine eb ?_ | refine esl ?_ | refine estr ?_ | skip); first | assumption | (rw [e2]; done)) | (refine ⟨_, rfl, .inr ?_⟩; (first | refine ei ?_ | refine eb ?_ | refine esl ?_ | refine estr ?_ | skip); first | assumption | (rw [e2]; done)) | refine ⟨⟨?_, rfl, rfl⟩, ?_⟩)) (by repeat' (first | exact trivial | refine ⟨orow rfl ?_ rfl, ?_⟩ | refine ⟨owr rfl ?_ (bR_plain y |>.lim) rfl, ?_⟩ | rfl | (first | assumption | (rw [e2]; done)))) (⟨by unfold feedT; rw [e1], rfl, rfl, rfl⟩)))))
          · first
            | (cases hc; done)
            | (
              refine awp_skip ?_
              refine then_normal ?_
              refine awp_seq ?_
              (have hn := ngt4 (by assumption); have hf := nlt2 (num2_lt _) (by assumption)) <;> (
              refine awp_region ?_
              refine rv rfl rfl (?_)
              refine rv rfl rfl (?_)
              refine rv rfl rfl (?_)
              refine rv rfl rfl (?_)
              refine rv rfl rfl (?_)
              refine rv rfl rfl (?_)
              refine rv rfl rfl (?_)
              refine rV rfl (va_sub (l := 2) (h := 2 + num2 p.2) rfl rfl rfl rfl ⟨_, rfl⟩ ⟨_, congrArg (AV.int .i64) (W2 (num2_lt _))⟩ (by omega) (by rw [bR_length]; omega) (bR_plain _).wide) (?_)
              refine rc1 rfl rfl rfl (clone_c' (by have := hp.2.1; omega)) (?_)
              refine rbs false rfl rfl rfl rfl rfl rfl rfl rfl rfl rfl (?_)
              refine rap false rfl rfl rfl rfl rfl rfl rfl (.own rfl rfl) (.sl rfl rfl rfl) (nR_plain [_]).wide (nR_plain [_]).ones (by show (_ + 1) * 24 ≤ _; rw [nR_length]; have := hp.2.2; omega) rfl (?_)
              refine rv rfl rfl (?_)
              refine rn ?_
              refine then_normal ?_
              refine awp_region ?_
              refine rv rfl rfl (?_)
              refine rv rfl rfl (?_)
              refine rv rfl rfl (?_)
              refine rv rfl rfl (?_)
              refine rv rfl rfl (?_)
              refine rv rfl rfl (?_)
              refine rv rfl rfl (?_)
              refine rtl rfl rfl rfl rfl rfl rfl rfl ⟨_, congrArg (AV.int .i64) (W2 (num2_lt _))⟩ (by rw [bR_length]; omega) rfl (?_)
              refine rv rfl rfl (?_)
              refine rv rfl rfl (?_)
              refine rs rfl rfl rfl rfl rfl rfl rfl (?_)
              refine rn ?_
              refine inBlock_normal ?_
              refine then_normal ?_
              refine ⟨(p.1 ++ [(p.2.take (2 + num2 p.2)).drop 2], p.2.drop (2 + num2 p.2)), feedI_step hp h2 hn hf, by simp; omega, [0, 1, 2, 7, 6], rfl, ?_⟩
              refine ⟨rfl, rfl, ?_, ?_, ?_⟩
              · refine ⟨⟨?_, rfl⟩, ?_⟩
                · first | exact .inl rfl | exact .inr rfl | (refine .inl ?_; (first | refine ei ?_ | refine eb ?_ | refine esl ?_ | refine estr ?_ | skip); first | assumption | exact bR_append _ _ | exact bR_drop _ _ | (simp [nR]; done) | rfl) | (refine .inr ?_; (first | refine ei ?_ | refine eb ?_ | refine esl ?_ | refine estr ?_ | skip); first | assumption | exact bR_append _ _ | exact bR_drop _ _ | (simp [nR]; done) | rfl)
                refine ⟨⟨?_, rfl⟩, ?_⟩
                · first | exact .inl rfl | exact .inr rfl | (refine .inl ?_; (first | refine ei ?_ | refine eb ?_ | refine esl ?_ | refine estr ?_ | skip); first | assumption | exact bR_append _ _ | exact bR_drop _ _ | (simp [nR]; done) | rfl) | (refine .inr ?_; (first | refine ei ?_ | refine eb ?_ | refine esl ?_ | refine estr ?_ | skip); first | assumption | exact bR_append _ _ | exact bR_drop _ _ | (simp [nR]; done) | rfl)
                exact trivial
              · refine ⟨⟨?_, rfl, rfl⟩, ?_⟩
                · first | exact ⟨_, rfl, .inl rfl⟩ | exact ⟨_, rfl, .inr rfl⟩ | (refine ⟨_, rfl, .inl ?_⟩; (first | refine ei ?_ | refine eb ?_ | refine esl ?_ | refine estr ?_ | skip); first | assumption | exact bR_append _ _ | exact bR_drop _ _ | (simp [nR]; done) | rfl) | (refine ⟨_, rfl, .inr ?_⟩; (first | refine ei ?_ | refine eb ?_ | refine esl ?_ | refine estr ?_ | skip); first | assumption | exact bR_append _ _ | exact bR_drop _ _ | (simp [nR]; done) | rfl)
                refine ⟨⟨?_, rfl, rfl⟩, ?_⟩
                · first | exact ⟨_, rfl, .inl rfl⟩ | exact ⟨_, rfl, .inr rfl⟩ | (refine ⟨_, rfl, .inl ?_⟩; (first | refine ei ?_ | refine eb ?_ | refine esl ?_ | refine estr ?_ | skip); first | assumption | exact bR_append _ _ | exact bR_drop _ _ | (simp [nR]; done) | rfl) | (refine ⟨_, rfl, .inr ?_⟩; (first | refine ei ?_ | refine eb ?_ | refine esl ?_ | refine estr ?_ | skip); first | assumption | exact bR_append _ _ | exact bR_drop _ _ | (simp [nR]; done) | rfl)
                exact trivial
              · refine ⟨orow rfl ?_ rfl, ?_⟩
                · first | rfl | (first | assumption | exact bR_append _ _ | exact bR_drop _ _ | (simp [nR]; done) | rfl)
                refine ⟨orow rfl ?_ rfl, ?_⟩
                · first | rfl | (first | assumption | exact bR_append _ _ | exact bR_drop _ _ | (simp [nR]; done) | rfl)
                refine ⟨owr rfl ?_ ((bR_plain y).lim) rfl, ?_⟩
                · first | rfl | (first | assumption | exact bR_append _ _ | exact bR_drop _ _ | (simp [nR]; done) | rfl)
                exact trivial))))))))))))
      · first
        | (cases hc; done)
        | (
          refine awp_exit ?_
          repeat (first | refine then_exit ?_ | refine inBlock_other rfl ?_)
          refine inBlock_exit ?_
          refine then_normal ?_
          refine awp_seq ?_
          refine awp_seq ?_
          refine awp_region ?_
          refine rv rfl rfl (?_)
          refine rv rfl rfl (?_)
          refine rv rfl rfl (?_)
          refine rv rfl rfl (?_)
          refine rn ?_
          refine then_normal ?_
          refine cs_ rfl (fun hc => ?_) (fun hc => ?_)
          · first
            | (cases hc; done)
            | (
              refine awp_seq ?_
              refine awp_region ?_
              refine rv rfl rfl (?_)
              refine rv rfl rfl (?_)
              refine rv rfl rfl (?_)
              refine rv rfl rfl (?_)
              refine rn ?_
              refine then_normal ?_
              refine awp_ret ?_
              repeat (first | refine then_ret ?_ | refine inBlock_ret ?_)
              first | (exfalso; simp_all; done) | (have hq : parse (x ++ y) = (p.1, p.2, true) := (by first | exact feedI_bad hp h2 (gt4 (by assumption))); obtain ⟨rfl, e1, e2⟩ := feedT_of hq hb; (refine rrA (r := .tup [.sl (nR p.1), errB true 5]) [0, 1, 2, 3] [(0, 0, .own 3), (0, 1, .bool true)] [(3, .row 1 (bR (feedR false x y))), (2, .wr 1 (bR y))] rfl rfl rfl rfl (by repeat' (first | exact trivial | exact ⟨_, rfl, .inl rfl⟩ | exact ⟨_, rfl, .inr rfl⟩ | (refine ⟨_, rfl, .inl ?_⟩; (first | refine ei ?_ | refine eb ?_ | refine esl ?_ | refine estr ?_ | skip); first | assumption | (rw [e2]; done)) | (refine ⟨_, rfl, .inr ?_⟩; (first | refine ei ?_ | refine eb ?_ | refine esl ?_ | refine estr ?_ | skip); first | assumption | (rw [e2]; done)) | refine ⟨⟨?_, rfl, rfl⟩, ?_⟩)) (by repeat' (first | exact trivial | refine ⟨orow rfl ?_ rfl, ?_⟩ | refine ⟨owr rfl ?_ (bR_plain y |>.lim) rfl, ?_⟩ | rfl | (first | assumption | (rw [e2]; done)))) (⟨by unfold feedT; rw [e1], rfl, rfl, rfl⟩))) | (have hq : parse (x ++ y) = (p.1, p.2, false) := (by first | exact feedI_short hp (nge2 (by assumption)) | exact feedI_stop hp h2 (ngt4 (by assumption)) (lt2 (num2_lt _) (by assumption))); obtain ⟨rfl, e1, e2⟩ := feedT_of hq hb; (refine rrA (r := .tup [.sl (nR p.1), errB false 5]) [0, 1, 2, 3] [(0, 0, .own 3), (0, 1, .bool false)] [(3, .row 1 (bR (feedR false x y))), (2, .wr 1 (bR y))] rfl rfl rfl rfl (by repeat' (first | exact trivial | exact ⟨_, rfl, .inl rfl⟩ | exact ⟨_, rfl, .inr rfl⟩ | (refine ⟨_, rfl, .inl ?_⟩; (first | refine ei ?_ | refine eb ?_ | refine esl ?_ | refine estr ?_ | skip); first | assumption | (rw [e2]; done)) | (refine ⟨_, rfl, .inr ?_⟩; (first | refine ei ?_ | refine eb ?_ | refine esl ?_ | refine estr ?_ | skip); first | assumption | (rw [e2]; done)) | refine ⟨⟨?_, rfl, rfl⟩, ?_⟩)) (by repeat' (first | exact trivial | refine ⟨orow rfl ?_ rfl, ?_⟩ | refine ⟨owr rfl ?_ (bR_plain y |>.lim) rfl, ?_⟩ | rfl | (first | assumption | (rw [e2]; done)))) (⟨by unfold feedT; rw [e1], rfl, rfl, rfl⟩))))
          · first
            | (cases hc; done)
            | (
              refine awp_skip ?_
              refine then_normal ?_
              refine awp_seq ?_
              refine awp_region ?_
              refine rv rfl rfl (?_)
              refine rv rfl rfl (?_)
              refine rv rfl rfl (?_)
              refine rn ?_
              refine then_normal ?_
              refine awp_ret ?_
              repeat (first | refine then_ret ?_ | refine inBlock_ret ?_)
              first | (exfalso; simp_all; done) | (have hq : parse (x ++ y) = (p.1, p.2, true) := (by first | exact feedI_bad hp h2 (gt4 (by assumption))); obtain ⟨rfl, e1, e2⟩ := feedT_of hq hb; (refine rrA (r := .tup [.sl (nR p.1), errB true 5]) [0, 1, 2, 3] [(0, 0, .own 3), (0, 1, .bool true)] [(3, .row 1 (bR (feedR false x y))), (2, .wr 1 (bR y))] rfl rfl rfl rfl (by repeat' (first | exact trivial | exact ⟨_, rfl, .inl rfl⟩ | exact ⟨_, rfl, .inr rfl⟩ | (refine ⟨_, rfl, .inl ?_⟩; (first | refine ei ?_ | refine eb ?_ | refine esl ?_ | refine estr ?_ | skip); first | assumption | (rw [e2]; done)) | (refine ⟨_, rfl, .inr ?_⟩; (first | refine ei ?_ | refine eb ?_ | refine esl ?_ | refine estr ?_ | skip); first | assumption | (rw [e2]; done)) | refine ⟨⟨?_, rfl, rfl⟩, ?_⟩)) (by repeat' (first | exact trivial | refine ⟨orow rfl ?_ rfl, ?_⟩ | refine ⟨owr rfl ?_ (bR_plain y |>.lim) rfl, ?_⟩ | rfl | (first | assumption | (rw [e2]; done)))) (⟨by unfold feedT; rw [e1], rfl, rfl, rfl⟩))) | (have hq : parse (x ++ y) = (p.1, p.2, false) := (by first | exact feedI_short hp (nge2 (by assumption)) | exact feedI_stop hp h2 (ngt4 (by assumption)) (lt2 (num2_lt _) (by assumption))); obtain ⟨rfl, e1, e2⟩ := feedT_of hq hb; (refine rrA (r := .tup [.sl (nR p.1), errB false 5]) [0, 1, 2, 3] [(0, 0, .own 3), (0, 1, .bool false)] [(3, .row 1 (bR (feedR false x y))), (2, .wr 1 (bR y))] rfl rfl rfl rfl (by repeat' (first | exact trivial | exact ⟨_, rfl, .inl rfl⟩ | exact ⟨_, rfl, .inr rfl⟩ | (refine ⟨_, rfl, .inl ?_⟩; (first | refine ei ?_ | refine eb ?_ | refine esl ?_ | refine estr ?_ | skip); first | assumption | (rw [e2]; done)) | (refine ⟨_, rfl, .inr ?_⟩; (first | refine ei ?_ | refine eb ?_ | refine esl ?_ | refine estr ?_ | skip); first | assumption | (rw [e2]; done)) | refine ⟨⟨?_, rfl, rfl⟩, ?_⟩)) (by repeat' (first | exact trivial | refine ⟨orow rfl ?_ rfl, ?_⟩ | refine ⟨owr rfl ?_ (bR_plain y |>.lim) rfl, ?_⟩ | rfl | (first | assumption | (rw [e2]; done)))) (⟨by unfold feedT; rw [e1], rfl, rfl, rfl⟩))))))))))))
end

theorem feed_c {bad : Bool} {x y : Bs} {b : Bool} (hl : (x ++ y).length ≤ 1000000000) (hb : feedB bad x y = b) :
    ACall Try.prog 40 2 [.ptr 0 0, .sl (bR y)] [(0, 0, .own 1), (0, 1, .bool bad)] [(1, .row 1 (bR x))] (fun r H O n => r = feedT bad x y b ∧ H = [(0, 0, .own 2), (0, 1, .bool b)] ∧ O = [(2, .row 1 (bR (feedR bad x y)))] ∧ n = 3) := by
  cases bad with
  | true => subst hb; exact feed_bad
  | false => exact feed_ok hl hb
theorem feedw_c {bad : Bool} {x y : Bs} {b : Bool} (hl : (x ++ y).length ≤ 1000000000) (hb : feedB bad x y = b) :
    ACall Try.prog 40 3 [.ptr 0 0, .own 2] [(0, 0, .own 1), (0, 1, .bool bad)] [(1, .row 1 (bR x)), (2, .wr 1 (bR y))]
      (fun r H O n => r = feedT bad x y b ∧ H = [(0, 0, .own 3), (0, 1, .bool b)] ∧ O = [(3, .row 1 (bR (feedR bad x y))), (2, .wr 1 (bR y))] ∧ n = 4) := by
  cases bad with
  | true => subst hb; exact feedw_bad
  | false => exact feedw_ok hl hb
/-- What is told at the end, as a number. -/
def endC (bad : Bool) (x : Bs) : Nat := if bad then 5 else if 0 < x.length then 6 else 0
def errN : Nat → AV
  | 0 => .nilI
  | n + 1 => .iface 47 (.int .i64 ((n + 1 : Nat) : Int))
theorem pos_dec {x : Bs} (h : decide (((bR x).length : Int) > 0) = true) : 0 < x.length := by rw [bR_length] at h; simp at h; cases x <;> simp_all
theorem npos_dec {x : Bs} (h : decide (((bR x).length : Int) > 0) = false) : ¬ 0 < x.length := by rw [bR_length] at h; simp at h; simp [h]
theorem endC_bad {x : Bs} {bad : Bool} (h : bad = true) : endC bad x = 5 := by simp [endC, h]
theorem endC_six {x : Bs} {bad : Bool} (h : bad = false) (k : 0 < x.length) : endC bad x = 6 := by simp [endC, h, k]
theorem endC_0 {x : Bs} {bad : Bool} (h : bad = false) (k : ¬ 0 < x.length) : endC bad x = 0 := by simp only [endC, h]; simp at k ⊢; simp [k]

section
attribute [local irreducible] awp aops DP PCall ACall Decidable.decide
/-- `(*plover/frame.Reader).End` -/
theorem end_c {x : Bs} {bad : Bool} {k : Nat} (hk : endC bad x = k) : ACall Try.prog 44 2 [.ptr 0 0] [(0, 0, .own 1), (0, 1, .bool bad)] [(1, .row 1 (bR x))] (fun r H O n => r = errN k ∧ H = [(0, 0, .own 1), (0, 1, .bool bad)] ∧ O = [(1, .row 1 (bR x))] ∧ n = 2) := by
  refine acall_body Try.func44 rfl (by kernel_rfl) (by rfl) ?_
  refine awp_seq ?_
  refine awp_region ?_
  refine rv rfl rfl (?_)
  refine rn ?_
  refine then_normal ?_
  refine awp_seq ?_
  refine awp_block ?_
  refine awp_seq ?_
  refine awp_region ?_
  refine rv rfl rfl (?_)
  refine rv rfl rfl (?_)
  refine rv rfl rfl (?_)
  refine rv rfl rfl (?_)
  refine rv rfl rfl (?_)
  refine rn ?_
  refine then_normal ?_
  refine cs_ rfl (fun hc => ?_) (fun hc => ?_)
  · first
    | (cases hc; done)
    | (
      refine awp_seq ?_
      refine awp_region ?_
      refine rv rfl rfl (?_)
      refine rv rfl rfl (?_)
      refine rn ?_
      refine then_normal ?_
      refine awp_ret ?_
      repeat (first | refine then_ret ?_ | refine inBlock_ret ?_)
      first | (have hq := (endC_bad (x := x) (by assumption)); rw [hq] at hk; subst hk; (refine rrA [0, 1] [(0, 0, .own 1), (0, 1, .bool bad)] [(1, .row 1 (bR x))] rfl rfl rfl rfl (by repeat' (first | exact trivial | exact ⟨_, rfl, .inl rfl⟩ | exact ⟨_, rfl, .inr rfl⟩ | (refine ⟨_, rfl, .inl ?_⟩; (first | refine ei ?_ | refine eb ?_ | refine esl ?_ | refine estr ?_ | skip); first | assumption | (symm; assumption)) | (refine ⟨_, rfl, .inr ?_⟩; (first | refine ei ?_ | refine eb ?_ | refine esl ?_ | refine estr ?_ | skip); first | assumption | (symm; assumption)) | refine ⟨⟨?_, rfl, rfl⟩, ?_⟩)) (by repeat' (first | exact trivial | refine ⟨orow rfl ?_ rfl, ?_⟩ | refine ⟨owr rfl ?_ (fail) rfl, ?_⟩ | rfl | (first | assumption | (symm; assumption)))) (⟨rfl, rfl, rfl, rfl⟩))) | (have hq := (endC_six (x := x) (bad := bad) (by assumption) (pos_dec (by assumption))); rw [hq] at hk; subst hk; (refine rrA [0, 1] [(0, 0, .own 1), (0, 1, .bool bad)] [(1, .row 1 (bR x))] rfl rfl rfl rfl (by repeat' (first | exact trivial | exact ⟨_, rfl, .inl rfl⟩ | exact ⟨_, rfl, .inr rfl⟩ | (refine ⟨_, rfl, .inl ?_⟩; (first | refine ei ?_ | refine eb ?_ | refine esl ?_ | refine estr ?_ | skip); first | assumption | (symm; assumption)) | (refine ⟨_, rfl, .inr ?_⟩; (first | refine ei ?_ | refine eb ?_ | refine esl ?_ | refine estr ?_ | skip); first | assumption | (symm; assumption)) | refine ⟨⟨?_, rfl, rfl⟩, ?_⟩)) (by repeat' (first | exact trivial | refine ⟨orow rfl ?_ rfl, ?_⟩ | refine ⟨owr rfl ?_ (fail) rfl, ?_⟩ | rfl | (first | assumption | (symm; assumption)))) (⟨rfl, rfl, rfl, rfl⟩))) | (have hq := (endC_0 (x := x) (bad := bad) (by assumption) (npos_dec (by assumption))); rw [hq] at hk; subst hk; (refine rrA [0, 1] [(0, 0, .own 1), (0, 1, .bool bad)] [(1, .row 1 (bR x))] rfl rfl rfl rfl (by repeat' (first | exact trivial | exact ⟨_, rfl, .inl rfl⟩ | exact ⟨_, rfl, .inr rfl⟩ | (refine ⟨_, rfl, .inl ?_⟩; (first | refine ei ?_ | refine eb ?_ | refine esl ?_ | refine estr ?_ | skip); first | assumption | (symm; assumption)) | (refine ⟨_, rfl, .inr ?_⟩; (first | refine ei ?_ | refine eb ?_ | refine esl ?_ | refine estr ?_ | skip); first | assumption | (symm; assumption)) | refine ⟨⟨?_, rfl, rfl⟩, ?_⟩)) (by repeat' (first | exact trivial | refine ⟨orow rfl ?_ rfl, ?_⟩ | refine ⟨owr rfl ?_ (fail) rfl, ?_⟩ | rfl | (first | assumption | (symm; assumption)))) (⟨rfl, rfl, rfl, rfl⟩))))
  · first
    | (cases hc; done)
    | (
      refine awp_seq ?_
      refine awp_region ?_
      refine rv rfl rfl (?_)
      refine rv rfl rfl (?_)
      refine rv rfl rfl (?_)
      refine rv rfl rfl (?_)
      refine rv rfl rfl (?_)
      refine rv rfl rfl (?_)
      refine rv rfl rfl (?_)
      refine rn ?_
      refine then_normal ?_
      refine cs_ rfl (fun hc => ?_) (fun hc => ?_)
      · first
        | (cases hc; done)
        | (
          refine awp_seq ?_
          refine awp_region ?_
          refine rv rfl rfl (?_)
          refine rv rfl rfl (?_)
          refine rn ?_
          refine then_normal ?_
          refine awp_ret ?_
          repeat (first | refine then_ret ?_ | refine inBlock_ret ?_)
          first | (have hq := (endC_bad (x := x) (by assumption)); rw [hq] at hk; subst hk; (refine rrA [0, 1] [(0, 0, .own 1), (0, 1, .bool bad)] [(1, .row 1 (bR x))] rfl rfl rfl rfl (by repeat' (first | exact trivial | exact ⟨_, rfl, .inl rfl⟩ | exact ⟨_, rfl, .inr rfl⟩ | (refine ⟨_, rfl, .inl ?_⟩; (first | refine ei ?_ | refine eb ?_ | refine esl ?_ | refine estr ?_ | skip); first | assumption | (symm; assumption)) | (refine ⟨_, rfl, .inr ?_⟩; (first | refine ei ?_ | refine eb ?_ | refine esl ?_ | refine estr ?_ | skip); first | assumption | (symm; assumption)) | refine ⟨⟨?_, rfl, rfl⟩, ?_⟩)) (by repeat' (first | exact trivial | refine ⟨orow rfl ?_ rfl, ?_⟩ | refine ⟨owr rfl ?_ (fail) rfl, ?_⟩ | rfl | (first | assumption | (symm; assumption)))) (⟨rfl, rfl, rfl, rfl⟩))) | (have hq := (endC_six (x := x) (bad := bad) (by assumption) (pos_dec (by assumption))); rw [hq] at hk; subst hk; (refine rrA [0, 1] [(0, 0, .own 1), (0, 1, .bool bad)] [(1, .row 1 (bR x))] rfl rfl rfl rfl (by repeat' (first | exact trivial | exact ⟨_, rfl, .inl rfl⟩ | exact ⟨_, rfl, .inr rfl⟩ | (refine ⟨_, rfl, .inl ?_⟩; (first | refine ei ?_ | refine eb ?_ | refine esl ?_ | refine estr ?_ | skip); first | assumption | (symm; assumption)) | (refine ⟨_, rfl, .inr ?_⟩; (first | refine ei ?_ | refine eb ?_ | refine esl ?_ | refine estr ?_ | skip); first | assumption | (symm; assumption)) | refine ⟨⟨?_, rfl, rfl⟩, ?_⟩)) (by repeat' (first | exact trivial | refine ⟨orow rfl ?_ rfl, ?_⟩ | refine ⟨owr rfl ?_ (fail) rfl, ?_⟩ | rfl | (first | assumption | (symm; assumption)))) (⟨rfl, rfl, rfl, rfl⟩))) | (have hq := (endC_0 (x := x) (bad := bad) (by assumption) (npos_dec (by assumption))); rw [hq] at hk; subst hk; (refine rrA [0, 1] [(0, 0, .own 1), (0, 1, .bool bad)] [(1, .row 1 (bR x))] rfl rfl rfl rfl (by repeat' (first | exact trivial | exact ⟨_, rfl, .inl rfl⟩ | exact ⟨_, rfl, .inr rfl⟩ | (refine ⟨_, rfl, .inl ?_⟩; (first | refine ei ?_ | refine eb ?_ | refine esl ?_ | refine estr ?_ | skip); first | assumption | (symm; assumption)) | (refine ⟨_, rfl, .inr ?_⟩; (first | refine ei ?_ | refine eb ?_ | refine esl ?_ | refine estr ?_ | skip); first | assumption | (symm; assumption)) | refine ⟨⟨?_, rfl, rfl⟩, ?_⟩)) (by repeat' (first | exact trivial | refine ⟨orow rfl ?_ rfl, ?_⟩ | refine ⟨owr rfl ?_ (fail) rfl, ?_⟩ | rfl | (first | assumption | (symm; assumption)))) (⟨rfl, rfl, rfl, rfl⟩))))
      · first
        | (cases hc; done)
        | (
          refine awp_skip ?_
          refine inBlock_normal ?_
          refine then_normal ?_
          refine awp_seq ?_
          refine awp_region ?_
          refine rv rfl rfl (?_)
          refine rn ?_
          refine then_normal ?_
          refine awp_ret ?_
          repeat (first | refine then_ret ?_ | refine inBlock_ret ?_)
          first | (have hq := (endC_bad (x := x) (by assumption)); rw [hq] at hk; subst hk; (refine rrA [0, 1] [(0, 0, .own 1), (0, 1, .bool bad)] [(1, .row 1 (bR x))] rfl rfl rfl rfl (by repeat' (first | exact trivial | exact ⟨_, rfl, .inl rfl⟩ | exact ⟨_, rfl, .inr rfl⟩ | (refine ⟨_, rfl, .inl ?_⟩; (first | refine ei ?_ | refine eb ?_ | refine esl ?_ | refine estr ?_ | skip); first | assumption | (symm; assumption)) | (refine ⟨_, rfl, .inr ?_⟩; (first | refine ei ?_ | refine eb ?_ | refine esl ?_ | refine estr ?_ | skip); first | assumption | (symm; assumption)) | refine ⟨⟨?_, rfl, rfl⟩, ?_⟩)) (by repeat' (first | exact trivial | refine ⟨orow rfl ?_ rfl, ?_⟩ | refine ⟨owr rfl ?_ (fail) rfl, ?_⟩ | rfl | (first | assumption | (symm; assumption)))) (⟨rfl, rfl, rfl, rfl⟩))) | (have hq := (endC_six (x := x) (bad := bad) (by assumption) (pos_dec (by assumption))); rw [hq] at hk; subst hk; (refine rrA [0, 1] [(0, 0, .own 1), (0, 1, .bool bad)] [(1, .row 1 (bR x))] rfl rfl rfl rfl (by repeat' (first | exact trivial | exact ⟨_, rfl, .inl rfl⟩ | exact ⟨_, rfl, .inr rfl⟩ | (refine ⟨_, rfl, .inl ?_⟩; (first | refine ei ?_ | refine eb ?_ | refine esl ?_ | refine estr ?_ | skip); first | assumption | (symm; assumption)) | (refine ⟨_, rfl, .inr ?_⟩; (first | refine ei ?_ | refine eb ?_ | refine esl ?_ | refine estr ?_ | skip); first | assumption | (symm; assumption)) | refine ⟨⟨?_, rfl, rfl⟩, ?_⟩)) (by repeat' (first | exact trivial | refine ⟨orow rfl ?_ rfl, ?_⟩ | refine ⟨owr rfl ?_ (fail) rfl, ?_⟩ | rfl | (first | assumption | (symm; assumption)))) (⟨rfl, rfl, rfl, rfl⟩))) | (have hq := (endC_0 (x := x) (bad := bad) (by assumption) (npos_dec (by assumption))); rw [hq] at hk; subst hk; (refine rrA [0, 1] [(0, 0, .own 1), (0, 1, .bool bad)] [(1, .row 1 (bR x))] rfl rfl rfl rfl (by repeat' (first | exact trivial | exact ⟨_, rfl, .inl rfl⟩ | exact ⟨_, rfl, .inr rfl⟩ | (refine ⟨_, rfl, .inl ?_⟩; (first | refine ei ?_ | refine eb ?_ | refine esl ?_ | refine estr ?_ | skip); first | assumption | (symm; assumption)) | (refine ⟨_, rfl, .inr ?_⟩; (first | refine ei ?_ | refine eb ?_ | refine esl ?_ | refine estr ?_ | skip); first | assumption | (symm; assumption)) | refine ⟨⟨?_, rfl, rfl⟩, ?_⟩)) (by repeat' (first | exact trivial | refine ⟨orow rfl ?_ rfl, ?_⟩ | refine ⟨owr rfl ?_ (fail) rfl, ?_⟩ | rfl | (first | assumption | (symm; assumption)))) (⟨rfl, rfl, rfl, rfl⟩)))))
end

end Go.Proofs.Ytfonfgnbjkpanaa
