/- Contracts, printed by a program of this session's. -/
import Derived.Test.YtfonfgnbjkpanaaS11c
namespace Go.Proofs.Ytfonfgnbjkpanaa
open Go.Pv
set_option maxRecDepth 100000
set_option maxHeartbeats 4000000
set_option linter.unusedSimpArgs false
set_option linter.unusedVariables false
set_option linter.unusedSectionVars false

theorem plain_sl (x : List (List AV)) : Plain 1 [[AV.sl x]] := fun r hr => by
  obtain rfl : r = [AV.sl x] := by simpa using hr
  exact ⟨rfl, rfl, rfl⟩
def refC (b : Bs) : Nat := endC (parse b).2.2 (parse b).2.1
theorem mul8 {b : Bs} (h : 2 ≤ b.length) : IntKind.wrap .i64 (IntKind.wrap .i64 (256 * IntKind.wrap .i64 ((b[0]'(by omega)).toNat : Int)) + IntKind.wrap .i64 ((b[1]'(by omega)).toNat : Int)) = (num2 b : Int) := by
  rw [num2_eq h]
  have hx := (b[0]'(by omega)).toNat_lt
  have hy := (b[1]'(by omega)).toNat_lt
  rw [wrap_i64 (m := (b[0]'(by omega)).toNat) (by omega), wrap_i64 (m := (b[1]'(by omega)).toNat) (by omega)]
  have e3 : (256 * ((b[0]'(by omega)).toNat : Int)) = ((256 * (b[0]'(by omega)).toNat : Nat) : Int) := by push_cast; rfl
  rw [e3, wrap_i64 (by omega)]
  have e4 : (((256 * (b[0]'(by omega)).toNat : Nat) : Int) + ((b[1]'(by omega)).toNat : Int)) = (((b[0]'(by omega)).toNat * 256 + (b[1]'(by omega)).toNat : Nat) : Int) := by push_cast; omega
  rw [e4, wrap_i64 (by omega)]
def refI (b : Bs) (p : List Bs × Bs) : Prop := feedI b [] p
theorem refI_bad {b : Bs} {p : List Bs × Bs} (h : refI b p) (h2 : 2 ≤ p.2.length) (hn : num2 p.2 > 4000) : parse b = (p.1, p.2, true) := by have := feedI_bad h h2 hn; simpa using this
theorem refI_stop {b : Bs} {p : List Bs × Bs} (h : refI b p) (h2 : 2 ≤ p.2.length) (hn : ¬ num2 p.2 > 4000) (hl : p.2.length < 2 + num2 p.2) : parse b = (p.1, p.2, false) := by have := feedI_stop h h2 hn hl; simpa using this
theorem refI_short {b : Bs} {p : List Bs × Bs} (h : refI b p) (h2 : p.2.length < 2) : parse b = (p.1, p.2, false) := by have := feedI_short h h2; simpa using this
theorem refT_bad {b : Bs} {p : List Bs × Bs} (h : parse b = (p.1, p.2, true)) : AV.tup [.sl (nR p.1), .int .i64 5] = .tup [.sl (nR (parse b).1), .int .i64 (refC b : Int)] := by
  simp [refC, endC, h]
theorem refT_six {b : Bs} {p : List Bs × Bs} (h : parse b = (p.1, p.2, false)) (k : 0 < p.2.length) : AV.tup [.sl (nR p.1), .int .i64 6] = .tup [.sl (nR (parse b).1), .int .i64 (refC b : Int)] := by
  simp [refC, endC, h, k]
theorem refT_0 {b : Bs} {p : List Bs × Bs} (h : parse b = (p.1, p.2, false)) (k : ¬ 0 < p.2.length) : AV.tup [.sl (nR p.1), .int .i64 0] = .tup [.sl (nR (parse b).1), .int .i64 (refC b : Int)] := by
  simp only [refC, endC, h]; simp at k ⊢; simp [k]
theorem pos2 {b : Bs} (h : 2 ≤ b.length) : 0 < b.length := by omega

section
attribute [local irreducible] awp aops DP PCall ACall Decidable.decide
/-- `plover/ploverref10.Frames` -/
theorem frames_c {b : Bs} (hl : b.length ≤ 1000000000) : PCall Try.prog 41 [.sl (bR b)] (· = .tup [.sl (nR (parse b).1), .int .i64 (refC b : Int)]) := by
  refine pcall_body Try.func41 rfl (by kernel_rfl) (by rfl) ?_
  refine awp_seq ?_
  refine awp_region ?_
  refine rv rfl rfl (?_)
  refine rv rfl rfl (?_)
  refine rn ?_
  refine then_normal ?_
  refine awp_seq ?_
  refine awp_region ?_
  refine rv rfl rfl (?_)
  refine rn ?_
  refine then_normal ?_
  refine awp_seq ?_
  refine awp_block ?_
  refine awp_conv (fun _ _ _ _ _ hi => nilS_slot false 1 4 rfl hi) ?_
  refine awp_loopR (ι := List Bs × Bs) (fun p => ⟨[(0, .sl (bR p.2)), (4, .own 0)], [], [(0, .row 1 (nR p.1))], 1⟩) (fun p => refI b p) (fun p => p.2.length) (([], b)) (by have := feedI_0 b []; simpa [refI] using this) ⟨[0], rfl, ?_⟩ (fun p hp => ?_)
  · refine ⟨rfl, rfl, ?_, ?_, ?_⟩
    · refine ⟨⟨?_, rfl⟩, ?_⟩
      · first | exact .inl rfl | exact .inr rfl | (refine .inl ?_; (first | refine ei ?_ | refine eb ?_ | refine esl ?_ | refine estr ?_ | skip); first | (simp [nR, bR_sub]; done) | (rw [List.take_length, bR_drop]; done)) | (refine .inr ?_; (first | refine ei ?_ | refine eb ?_ | refine esl ?_ | refine estr ?_ | skip); first | (simp [nR, bR_sub]; done) | (rw [List.take_length, bR_drop]; done))
      refine ⟨⟨?_, rfl⟩, ?_⟩
      · first | exact .inl rfl | exact .inr rfl | (refine .inl ?_; (first | refine ei ?_ | refine eb ?_ | refine esl ?_ | refine estr ?_ | skip); first | (simp [nR, bR_sub]; done) | (rw [List.take_length, bR_drop]; done)) | (refine .inr ?_; (first | refine ei ?_ | refine eb ?_ | refine esl ?_ | refine estr ?_ | skip); first | (simp [nR, bR_sub]; done) | (rw [List.take_length, bR_drop]; done))
      exact trivial
    · exact trivial
    · refine ⟨orow rfl ?_ rfl, ?_⟩
      · first | rfl | (first | (simp [nR, bR_sub]; done) | (rw [List.take_length, bR_drop]; done))
      exact trivial
  refine awp_seq ?_
  refine awp_seq ?_
  refine awp_region ?_
  refine rv rfl rfl (?_)
  refine rv rfl rfl (?_)
  refine rv rfl rfl (?_)
  refine rn ?_
  refine then_normal ?_
  refine cs_ rfl (fun hc => ?_) (fun hc => ?_)
  · first
    | (cases hc; done)
    | (
      refine awp_skip ?_
      refine then_normal ?_
      refine awp_block ?_
      refine awp_seq ?_
      (have h2 := ge2 (by assumption)) <;> (
      refine awp_dp (m := 10) Try.mix (by kernel_rfl) (by kernel_rfl) (by kernel_rfl) (by kernel_rfl) (by kernel_rfl) (by kernel_rfl) (by kernel_rfl) ?_
      refine dv rfl rfl (fun _ => rfl) ?_
      refine di rfl rfl rfl rfl rfl (fun _ => rfl) rfl (by decide) (bR_get0 h2) (bR_plain _).wide ?_
      refine dv rfl rfl (fun _ => rfl) ?_
      refine dv rfl rfl (fun _ => rfl) ?_
      refine dv rfl rfl (fun _ => rfl) ?_
      refine dv rfl rfl (fun _ => rfl) ?_
      refine di rfl rfl rfl rfl rfl (fun _ => rfl) rfl (by decide) (bR_get1 h2) (bR_plain _).wide ?_
      refine dv rfl rfl (fun _ => rfl) ?_
      refine dv rfl rfl (fun _ => rfl) ?_
      refine dv (v := .int .i64 (num2 p.2 : Int)) rfl rfl (fun m => congrArg (fun z => some (AV.int .i64 z)) (mul8 h2)) ?_
      refine dn ?_
      refine rv rfl rfl (?_)
      refine rn ?_
      refine then_normal ?_
      refine awp_seq ?_
      refine awp_seq ?_
      refine awp_region ?_
      refine rv rfl rfl (?_)
      refine rv rfl rfl (?_)
      refine rn ?_
      refine then_normal ?_
      refine cs_ rfl (fun hc => ?_) (fun hc => ?_)
      · first
        | (cases hc; done)
        | (
          refine awp_seq ?_
          refine awp_region ?_
          refine rv rfl rfl (?_)
          refine rv rfl rfl (?_)
          refine rv rfl rfl (?_)
          refine rn ?_
          refine then_normal ?_
          refine awp_ret ?_
          repeat (first | refine then_ret ?_ | refine inBlock_ret ?_)
          refine rr rfl rfl ?_
          first | exact refT_bad (refI_bad hp h2 (gt4 (by assumption))) | (have hq : parse b = (p.1, p.2, false) := (by first | exact refI_short hp (nge2 (by assumption)) | exact refI_stop hp h2 (ngt4 (by assumption)) (lt2 (num2_lt _) (by assumption))); first | exact refT_six hq (pos_dec (by assumption)) | exact refT_six hq (pos2 h2) | exact refT_0 hq (npos_dec (by assumption))))
      · first
        | (cases hc; done)
        | (
          refine awp_skip ?_
          refine then_normal ?_
          refine awp_seq ?_
          refine awp_seq ?_
          refine awp_region ?_
          refine rv rfl rfl (?_)
          refine rv rfl rfl (?_)
          refine rv rfl rfl (?_)
          refine rv rfl rfl (?_)
          refine rv rfl rfl (?_)
          refine rn ?_
          refine then_normal ?_
          refine cs_ rfl (fun hc => ?_) (fun hc => ?_)
          · first
            | (cases hc; done)
            | (
              refine awp_seq ?_
              refine awp_region ?_
              refine rv rfl rfl (?_)
              refine rv rfl rfl (?_)
              refine rv rfl rfl (?_)
              refine rn ?_
              refine then_normal ?_
              refine awp_ret ?_
              repeat (first | refine then_ret ?_ | refine inBlock_ret ?_)
              refine rr rfl rfl ?_
              first | exact refT_bad (refI_bad hp h2 (gt4 (by assumption))) | (have hq : parse b = (p.1, p.2, false) := (by first | exact refI_short hp (nge2 (by assumption)) | exact refI_stop hp h2 (ngt4 (by assumption)) (lt2 (num2_lt _) (by assumption))); first | exact refT_six hq (pos_dec (by assumption)) | exact refT_six hq (pos2 h2) | exact refT_0 hq (npos_dec (by assumption))))
          · first
            | (cases hc; done)
            | (
              refine awp_skip ?_
              refine then_normal ?_
              refine awp_seq ?_
              (have hn := ngt4 (by assumption); have hf := nlt2 (num2_lt _) (by assumption)) <;> (
              refine awp_region ?_
              refine rv rfl rfl (?_)
              refine rv rfl rfl (?_)
              refine rv rfl rfl (?_)
              refine rv rfl rfl (?_)
              refine rV rfl (va_sub (l := 2) (h := 2 + num2 p.2) rfl rfl rfl rfl ⟨_, rfl⟩ ⟨_, congrArg (AV.int .i64) (W2 (num2_lt _))⟩ (by omega) (by rw [bR_length]; omega) (bR_plain _).wide) (?_)
              refine rbs false rfl rfl rfl rfl rfl rfl rfl rfl rfl rfl (?_)
              refine rap false rfl rfl rfl rfl rfl rfl rfl (.own rfl rfl) (.sl rfl rfl rfl) (plain_sl _).wide (plain_sl _).ones (by show (_ + 1) * 24 ≤ _; rw [nR_length]; have := hp.2.2; simp only [List.append_nil] at this; omega) rfl (?_)
              refine rv rfl rfl (?_)
              refine rn ?_
              refine then_normal ?_
              refine awp_region ?_
              refine rv rfl rfl (?_)
              refine rv rfl rfl (?_)
              refine rv rfl rfl (?_)
              refine rV rfl (va_sub (l := 2 + num2 p.2) (h := (bR p.2).length) rfl rfl rfl rfl ⟨_, congrArg (AV.int .i64) (W2 (num2_lt _))⟩ rfl (by rw [bR_length]; omega) (Nat.le_refl _) (bR_plain _).wide) (?_)
              refine rv rfl rfl (?_)
              refine rn ?_
              refine inBlock_normal ?_
              refine then_normal ?_
              refine ⟨(p.1 ++ [(p.2.take (2 + num2 p.2)).drop 2], p.2.drop (2 + num2 p.2)), feedI_step hp h2 hn hf, by simp; omega, [2], rfl, ?_⟩
              refine ⟨rfl, rfl, ?_, ?_, ?_⟩
              · refine ⟨⟨?_, rfl⟩, ?_⟩
                · first | exact .inl rfl | exact .inr rfl | (refine .inl ?_; (first | refine ei ?_ | refine eb ?_ | refine esl ?_ | refine estr ?_ | skip); first | (simp [nR, bR_sub]; done) | (rw [List.take_length, bR_drop]; done)) | (refine .inr ?_; (first | refine ei ?_ | refine eb ?_ | refine esl ?_ | refine estr ?_ | skip); first | (simp [nR, bR_sub]; done) | (rw [List.take_length, bR_drop]; done))
                refine ⟨⟨?_, rfl⟩, ?_⟩
                · first | exact .inl rfl | exact .inr rfl | (refine .inl ?_; (first | refine ei ?_ | refine eb ?_ | refine esl ?_ | refine estr ?_ | skip); first | (simp [nR, bR_sub]; done) | (rw [List.take_length, bR_drop]; done)) | (refine .inr ?_; (first | refine ei ?_ | refine eb ?_ | refine esl ?_ | refine estr ?_ | skip); first | (simp [nR, bR_sub]; done) | (rw [List.take_length, bR_drop]; done))
                exact trivial
              · exact trivial
              · refine ⟨orow rfl ?_ rfl, ?_⟩
                · first | rfl | (first | (simp [nR, bR_sub]; done) | (rw [List.take_length, bR_drop]; done))
                exact trivial)))))
  · first
    | (cases hc; done)
    | (
      refine awp_exit ?_
      repeat (first | refine then_exit ?_ | refine inBlock_other rfl ?_)
      refine inBlock_exit ?_
      refine then_normal ?_
      refine awp_seq ?_
      refine awp_seq ?_
      refine awp_region ?_
      refine rv rfl rfl (?_)
      refine rv rfl rfl (?_)
      refine rv rfl rfl (?_)
      refine rn ?_
      refine then_normal ?_
      refine cs_ rfl (fun hc => ?_) (fun hc => ?_)
      · first
        | (cases hc; done)
        | (
          refine awp_seq ?_
          refine awp_region ?_
          refine rv rfl rfl (?_)
          refine rv rfl rfl (?_)
          refine rv rfl rfl (?_)
          refine rn ?_
          refine then_normal ?_
          refine awp_ret ?_
          repeat (first | refine then_ret ?_ | refine inBlock_ret ?_)
          refine rr rfl rfl ?_
          first | exact refT_bad (refI_bad hp h2 (gt4 (by assumption))) | (have hq : parse b = (p.1, p.2, false) := (by first | exact refI_short hp (nge2 (by assumption)) | exact refI_stop hp h2 (ngt4 (by assumption)) (lt2 (num2_lt _) (by assumption))); first | exact refT_six hq (pos_dec (by assumption)) | exact refT_six hq (pos2 h2) | exact refT_0 hq (npos_dec (by assumption))))
      · first
        | (cases hc; done)
        | (
          refine awp_skip ?_
          refine then_normal ?_
          refine awp_seq ?_
          refine awp_region ?_
          refine rv rfl rfl (?_)
          refine rv rfl rfl (?_)
          refine rv rfl rfl (?_)
          refine rn ?_
          refine then_normal ?_
          refine awp_ret ?_
          repeat (first | refine then_ret ?_ | refine inBlock_ret ?_)
          refine rr rfl rfl ?_
          first | exact refT_bad (refI_bad hp h2 (gt4 (by assumption))) | (have hq : parse b = (p.1, p.2, false) := (by first | exact refI_short hp (nge2 (by assumption)) | exact refI_stop hp h2 (ngt4 (by assumption)) (lt2 (num2_lt _) (by assumption))); first | exact refT_six hq (pos_dec (by assumption)) | exact refT_six hq (pos2 h2) | exact refT_0 hq (npos_dec (by assumption)))))
end

theorem code_b {i : Nat} (h : i ≤ 12) : IntKind.wrap .i64 ((i : Int) + 1) = ((i + 1 : Nat) : Int) := by
  have := W_id (n := (i : Int) + 1) (by omega); rw [W] at this; rw [this]; rfl
theorem le12 {i : Nat} (h : decide ((i : Int) ≤ 12) = true) : i ≤ 12 := by simp at h; omega
theorem ne_step {k i : Nat} (h : i ≤ k) (hc : (((k : Nat) : Int) == ((i : Nat) : Int)) = false) : i + 1 ≤ k := by
  simp at hc; omega

section
attribute [local irreducible] awp aops DP PCall ACall Decidable.decide
/-- `plover/ploverlaw00.Code` -/
theorem code_nil : PCall Try.prog 43 [.nilI] (· = .int .i64 0) := by
  refine pcall_body Try.func43 rfl (by kernel_rfl) (by rfl) ?_
  refine awp_seq ?_
  refine awp_region ?_
  refine rv rfl rfl (?_)
  refine rn ?_
  refine then_normal ?_
  refine awp_seq ?_
  refine awp_seq ?_
  refine awp_region ?_
  refine rv rfl rfl (?_)
  refine rv rfl rfl (?_)
  refine rn ?_
  refine then_normal ?_
  refine cs_ rfl (fun hc => ?_) (fun hc => ?_)
  · first
    | (cases hc; done)
    | (
      refine awp_seq ?_
      refine awp_region ?_
      refine rv rfl rfl (?_)
      refine rn ?_
      refine then_normal ?_
      refine awp_ret ?_
      repeat (first | refine then_ret ?_ | refine inBlock_ret ?_)
      refine rr rfl rfl ?_
      first | rfl | (simp [*]; done) | (simp []; done) | (simp [*]; done) | (simp_all []; done))
  · first
    | (cases hc; done)
    | (
      refine awp_skip ?_
      refine then_normal ?_
      refine awp_seq ?_
      refine awp_seq ?_
      exfalso
      cases hc)
end

section
attribute [local irreducible] awp aops DP PCall ACall Decidable.decide
/-- `plover/ploverlaw00.Code` -/
theorem code_n {k : Nat} (h1 : 1 ≤ k) (h12 : k ≤ 12) : PCall Try.prog 43 [.iface 47 (.int .i64 (k : Int))] (· = .int .i64 ((k : Int))) := by
  refine pcall_body Try.func43 rfl (by kernel_rfl) (by rfl) ?_
  refine awp_seq ?_
  refine awp_region ?_
  refine rv rfl rfl (?_)
  refine rn ?_
  refine then_normal ?_
  refine awp_seq ?_
  refine awp_seq ?_
  refine awp_region ?_
  refine rv rfl rfl (?_)
  refine rv rfl rfl (?_)
  refine rn ?_
  refine then_normal ?_
  refine cs_ rfl (fun hc => ?_) (fun hc => ?_)
  · first
    | (cases hc; done)
    | (
      refine awp_seq ?_
      refine awp_region ?_
      refine rv rfl rfl (?_)
      refine rn ?_
      refine then_normal ?_
      refine awp_ret ?_
      repeat (first | refine then_ret ?_ | refine inBlock_ret ?_)
      refine rr rfl rfl ?_
      first | (cases hc; done) | (have : k = i := by { simp at hc; omega }; subst this; rfl) | (exfalso; simp at hc; omega))
  · first
    | (cases hc; done)
    | (
      refine awp_skip ?_
      refine then_normal ?_
      refine awp_seq ?_
      refine awp_seq ?_
      refine awp_region ?_
      refine rv rfl rfl (?_)
      refine rn ?_
      refine then_normal ?_
      refine awp_block ?_
      refine awp_loop (ι := Nat) (fun i => ⟨[(0, .iface 47 (.int .i64 (k : Int))), (3, .int .i64 (i : Int))], [], [], 0⟩) (fun i => i ≤ k) (fun i => 13 - i) (1) (h1) ?_ (fun _ => Nat.zero_le _) (fun i hi => ?_)
      · refine ⟨Nat.le_of_ble_eq_true rfl, ?_, ?_, ?_⟩
        · refine ⟨⟨?_, rfl⟩, ?_⟩
          · first | rfl | ((first | refine ei ?_ | refine eh ?_ | refine eb ?_ | refine ehb ?_ | skip); exact code_b (by omega))
          refine ⟨⟨?_, rfl⟩, ?_⟩
          · first | rfl | ((first | refine ei ?_ | refine eh ?_ | refine eb ?_ | refine ehb ?_ | skip); exact code_b (by omega))
          exact trivial
        · exact trivial
        · exact trivial
      refine awp_seq ?_
      refine awp_seq ?_
      refine awp_region ?_
      refine rv rfl rfl (?_)
      refine rv rfl rfl (?_)
      refine rn ?_
      refine then_normal ?_
      refine cs_ rfl (fun hc => ?_) (fun hc => ?_)
      · first
        | (cases hc; done)
        | (
          refine awp_skip ?_
          refine then_normal ?_
          refine awp_seq ?_
          refine awp_block ?_
          refine awp_seq ?_
          refine awp_region ?_
          refine rv rfl rfl (?_)
          refine rv rfl rfl (?_)
          refine rv rfl rfl (?_)
          refine rv rfl rfl (?_)
          refine rn ?_
          refine then_normal ?_
          refine cs_ rfl (fun hc => ?_) (fun hc => ?_)
          · first
            | (cases hc; done)
            | (
              refine awp_seq ?_
              refine awp_region ?_
              refine rv rfl rfl (?_)
              refine rv rfl rfl (?_)
              refine rn ?_
              refine then_normal ?_
              refine awp_ret ?_
              repeat (first | refine then_ret ?_ | refine inBlock_ret ?_)
              refine rr rfl rfl ?_
              first | (cases hc; done) | (have : k = i := by { simp at hc; omega }; subst this; rfl) | (exfalso; simp at hc; omega))
          · first
            | (cases hc; done)
            | (
              refine awp_skip ?_
              refine inBlock_normal ?_
              refine then_normal ?_
              refine awp_region ?_
              refine rv rfl rfl (?_)
              refine rv rfl rfl (?_)
              refine rv rfl rfl (?_)
              refine rn ?_
              refine then_normal ?_
              refine ⟨i + 1, ne_step hi (by assumption), by have := le12 (by assumption); omega, ?_⟩
              refine ⟨Nat.le_of_ble_eq_true rfl, ?_, ?_, ?_⟩
              · refine ⟨⟨?_, rfl⟩, ?_⟩
                · first | rfl | ((first | refine ei ?_ | refine eh ?_ | refine eb ?_ | refine ehb ?_ | skip); exact code_b (by omega))
                refine ⟨⟨?_, rfl⟩, ?_⟩
                · first | rfl | ((first | refine ei ?_ | refine eh ?_ | refine eb ?_ | refine ehb ?_ | skip); exact code_b (by omega))
                exact trivial
              · exact trivial
              · exact trivial))
      · first
        | (cases hc; done)
        | (
          refine awp_exit ?_
          repeat (first | refine then_exit ?_ | refine inBlock_other rfl ?_)
          refine inBlock_exit ?_
          refine then_normal ?_
          refine awp_seq ?_
          refine awp_region ?_
          refine rv rfl rfl (?_)
          refine rn ?_
          refine then_normal ?_
          refine awp_ret ?_
          repeat (first | refine then_ret ?_ | refine inBlock_ret ?_)
          refine rr rfl rfl ?_
          first | (cases hc; done) | (have : k = i := by { simp at hc; omega }; subst this; rfl) | (exfalso; simp at hc; omega)))
end

theorem code_c {c : Nat} (h : c ≤ 12) : PCall Try.prog 43 [errN c] (· = .int .i64 (c : Int)) := by
  cases c with
  | zero => exact code_nil
  | succ n => exact code_n (by omega) h

end Go.Proofs.Ytfonfgnbjkpanaa
