/- Contracts, printed by a program of this session's. -/
import Derived.Test.YtngeejjllgnpcaaS16e
import Derived.Test.YtngeejjllgnpcaaS04h
namespace Go.Proofs.Ytngeejjllgnpcaa
open Go.Pv
set_option maxRecDepth 100000
set_option maxHeartbeats 4000000
set_option linter.unusedSimpArgs false
set_option linter.unusedVariables false
set_option linter.unusedSectionVars false

theorem mayR_1 {a b c d : Int} (h : mayR a b c d = true) : mayP a b = true ∧ mayP c d = true ∧ a ≤ c ∧ b ≤ d := by
  simp only [mayR, Bool.and_eq_true, decide_eq_true_eq] at h; exact ⟨h.1.1.1, h.1.1.2, h.1.2, h.2⟩
theorem may_k {s : Int} (h : mayS s = true) : ∃ k : Nat, s = (k : Int) ∧ 24 ≤ k ∧ k ≤ 31 := by
  simp [mayS] at h; exact ⟨s.toNat, by omega, by omega, by omega⟩
theorem in_cel {s x y : Int} (h : mayS s = true) (hm : mayP x y = true) : inS s (cel s x) (cel s y) = true := by
  obtain ⟨k, rfl, hk⟩ := may_k h
  have hb := mayP_iff.1 hm
  unfold inS
  rw [(cel_in hk hb.1).1, (cel_in hk hb.2).1]; rfl
def cvV (s a b c d : Int) : Int × Int × Int × Int := (mn (lowV s (cel s a)) (lowV s (cel s c)), mn (lowV s (cel s b)) (lowV s (cel s d)), mx (highV s (cel s a)) (highV s (cel s c)), mx (highV s (cel s b)) (highV s (cel s d)))
theorem mayR_cb {a b c d : Int} {p : Bool} (h : mayR a b c d = p) : PCall Try.prog 78 [.agg [.int .i64 a, .int .i64 b, .int .i64 c, .int .i64 d]] (· = .bool p) := h ▸ mayR_c
theorem rmayR_cb {a b c d : Int} {p : Bool} (h : mayR a b c d = p) : PCall Try.prog 49 [.agg [.int .i64 a, .int .i64 b, .int .i64 c, .int .i64 d]] (· = .bool p) := h ▸ rRect_c
theorem holdsR_cb {a b c d a' b' c' d' : Int} {p : Bool} (h : holdsR a b c d a' b' c' d' = p) : PCall Try.prog 81 [.agg [.int .i64 a, .int .i64 b, .int .i64 c, .int .i64 d], .agg [.int .i64 a', .int .i64 b', .int .i64 c', .int .i64 d']] (· = .bool p) := h ▸ holdsR_c
theorem rholds_eq {a b c d a' b' c' d' : Int} (h1 : a' ≤ c') (h2 : b' ≤ d') : (inR a b c d a' b' && inR a b c d c' d') = holdsR a b c d a' b' c' d' := by
  rw [Bool.eq_iff_iff]; simp only [inR, holdsR, Bool.and_eq_true, decide_eq_true_eq]; omega
theorem shift_cb {s : Int} {p : Bool} (h : mayS s = p) : PCall Try.prog 43 [.int .i64 s] (· = .bool p) := h ▸ shift_c

section
attribute [local irreducible] awp aops DP PCall ACall Decidable.decide Nat.mod simpB mayP mayR mayG inE inR box addB holdsR inG mayS cel lowV highV cfarS inS
/-- `plover/cover.span` -/
theorem span_c {s a b c d : Int} {p q : Bool} (hp : mayR a b c d = p) (hq : mayS s = q) : PCall Try.prog 84 [.int .i64 s, .agg [.int .i64 a, .int .i64 b, .int .i64 c, .int .i64 d]] (· = boxO (p && q) (cel s a, cel s b, cel s c, cel s d)) := by
  refine pcall_body Try.func84 rfl (by kernel_rfl) (by rfl) ?_
  refine awp_seq ?_
  (rcases p with _ | _ <;> rcases q with _ | _) <;> (
  refine awp_region ?_
  refine rb rfl rfl (?_)
  refine ra rfl rfl rfl (?_)
  refine rv rfl rfl (?_)
  refine rn ?_
  refine then_normal ?_
  refine awp_seq ?_
  refine awp_seq ?_
  refine awp_region ?_
  refine rv rfl rfl (?_)
  refine rc1 rfl rfl rfl (mayR_cb hp) (?_)
  refine rv rfl rfl (?_)
  refine rn ?_
  refine then_normal ?_
  refine cs_ rfl (fun hc => ?_) (fun hc => ?_)
  · first
    | (cases hc; done)
    | (
      refine awp_seq ?_
      refine awp_region ?_
      refine rv rfl rfl (?_)
      refine rv rfl rfl (?_)
      refine rs rfl rfl rfl rfl rfl rfl rfl (?_)
      refine rv rfl rfl (?_)
      refine rn ?_
      refine then_normal ?_
      refine awp_ret ?_
      repeat (first | refine then_ret ?_ | refine inBlock_ret ?_)
      refine rr rfl rfl ?_
      first | rfl | (cases hc; done) | trace_state)
  · first
    | (cases hc; done)
    | (
      refine awp_skip ?_
      refine then_normal ?_
      refine awp_seq ?_
      refine awp_region ?_
      refine rv rfl rfl (?_)
      refine rv rfl rfl (?_)
      refine rv rfl rfl (?_)
      refine rv rfl rfl (?_)
      refine rv rfl rfl (?_)
      refine rv rfl rfl (?_)
      refine rc1 rfl rfl rfl (cell_cb hq (mayR_1 hp).1) (?_)
      refine rv rfl rfl (?_)
      refine rv rfl rfl (?_)
      refine rv rfl rfl (?_)
      refine rv rfl rfl (?_)
      refine rv rfl rfl (?_)
      refine rv rfl rfl (?_)
      refine rv rfl rfl (?_)
      refine rn ?_
      refine then_normal ?_
      refine awp_seq ?_
      refine awp_seq ?_
      refine awp_region ?_
      refine rv rfl rfl (?_)
      refine rv rfl rfl (?_)
      refine rn ?_
      refine then_normal ?_
      refine cs_ rfl (fun hc => ?_) (fun hc => ?_)
      · first
        | (cases hc; done)
        | (
          refine awp_seq ?_
          refine awp_region ?_
          refine rv rfl rfl (?_)
          refine rv rfl rfl (?_)
          refine rs rfl rfl rfl rfl rfl rfl rfl (?_)
          refine rv rfl rfl (?_)
          refine rn ?_
          refine then_normal ?_
          refine awp_ret ?_
          repeat (first | refine then_ret ?_ | refine inBlock_ret ?_)
          refine rr rfl rfl ?_
          first | rfl | (cases hc; done) | trace_state)
      · first
        | (cases hc; done)
        | (
          refine awp_skip ?_
          refine then_normal ?_
          refine awp_seq ?_
          refine awp_region ?_
          refine rv rfl rfl (?_)
          refine rv rfl rfl (?_)
          refine rv rfl rfl (?_)
          refine rv rfl rfl (?_)
          refine rv rfl rfl (?_)
          refine rv rfl rfl (?_)
          refine rc1 rfl rfl rfl (cell_cb hq (mayR_1 hp).2.1) (?_)
          refine rv rfl rfl (?_)
          refine rv rfl rfl (?_)
          refine rv rfl rfl (?_)
          refine rv rfl rfl (?_)
          refine rv rfl rfl (?_)
          refine rv rfl rfl (?_)
          refine rv rfl rfl (?_)
          refine rn ?_
          refine then_normal ?_
          refine awp_seq ?_
          refine awp_region ?_
          refine rv rfl rfl (?_)
          refine rv rfl rfl (?_)
          refine rv rfl rfl (?_)
          refine rv rfl rfl (?_)
          refine rv rfl rfl (?_)
          refine rv rfl rfl (?_)
          refine rs rfl rfl rfl rfl rfl rfl rfl (?_)
          refine rv rfl rfl (?_)
          refine rn ?_
          refine then_normal ?_
          refine awp_ret ?_
          repeat (first | refine then_ret ?_ | refine inBlock_ret ?_)
          refine rr rfl rfl ?_
          first | rfl | (cases hc; done) | trace_state)))
end

section
attribute [local irreducible] awp aops DP PCall ACall Decidable.decide Nat.mod simpB mayP mayR mayG inE inR box addB holdsR inG mayS cel lowV highV cfarS inS
/-- `plover/cover.Box` -/
theorem cbox_c {s a b c d : Int} {p q : Bool} (hp : mayR a b c d = p) (hq : mayS s = q) : PCall Try.prog 51 [.int .i64 s, .agg [.int .i64 a, .int .i64 b, .int .i64 c, .int .i64 d]] (· = boxO (p && q) (cvV s a b c d)) := by
  refine pcall_body Try.func51 rfl (by kernel_rfl) (by rfl) ?_
  refine awp_seq ?_
  (rcases p with _ | _ <;> rcases q with _ | _) <;> (
  refine awp_region ?_
  refine rb rfl rfl (?_)
  refine ra rfl rfl rfl (?_)
  refine rv rfl rfl (?_)
  refine rn ?_
  refine then_normal ?_
  refine awp_seq ?_
  refine awp_region ?_
  refine rv rfl rfl (?_)
  refine rv rfl rfl (?_)
  refine rc1 rfl rfl rfl (span_c hp hq) (?_)
  refine rv rfl rfl (?_)
  refine rv rfl rfl (?_)
  refine rv rfl rfl (?_)
  refine ra rfl rfl rfl (?_)
  refine rs rfl rfl rfl rfl rfl rfl rfl (?_)
  refine rv rfl rfl (?_)
  refine rn ?_
  refine then_normal ?_
  refine awp_seq ?_
  refine awp_seq ?_
  refine awp_region ?_
  refine rv rfl rfl (?_)
  refine rv rfl rfl (?_)
  refine rn ?_
  refine then_normal ?_
  refine cs_ rfl (fun hc => ?_) (fun hc => ?_)
  · first
    | (cases hc; done)
    | (
      refine awp_seq ?_
      refine awp_region ?_
      refine rv rfl rfl (?_)
      refine rv rfl rfl (?_)
      refine rs rfl rfl rfl rfl rfl rfl rfl (?_)
      refine rv rfl rfl (?_)
      refine rn ?_
      refine then_normal ?_
      refine awp_ret ?_
      repeat (first | refine then_ret ?_ | refine inBlock_ret ?_)
      refine rr rfl rfl ?_
      first | rfl | (cases hc; done) | trace_state)
  · first
    | (cases hc; done)
    | (
      refine awp_skip ?_
      refine then_normal ?_
      refine awp_seq ?_
      refine awp_region ?_
      refine rv rfl rfl (?_)
      refine rv rfl rfl (?_)
      refine rv rfl rfl (?_)
      refine rv rfl rfl (?_)
      refine rv rfl rfl (?_)
      refine rc1 rfl rfl rfl (box_cb (in_cel hq (mayR_1 hp).1)) (?_)
      refine rv rfl rfl (?_)
      refine rv rfl rfl (?_)
      refine rv rfl rfl (?_)
      refine ra rfl rfl rfl (?_)
      refine rs rfl rfl rfl rfl rfl rfl rfl (?_)
      refine rv rfl rfl (?_)
      refine rn ?_
      refine then_normal ?_
      refine awp_seq ?_
      refine awp_seq ?_
      refine awp_region ?_
      refine rv rfl rfl (?_)
      refine rv rfl rfl (?_)
      refine rn ?_
      refine then_normal ?_
      refine cs_ rfl (fun hc => ?_) (fun hc => ?_)
      · first
        | (cases hc; done)
        | (
          refine awp_seq ?_
          refine awp_region ?_
          refine rv rfl rfl (?_)
          refine rv rfl rfl (?_)
          refine rs rfl rfl rfl rfl rfl rfl rfl (?_)
          refine rv rfl rfl (?_)
          refine rn ?_
          refine then_normal ?_
          refine awp_ret ?_
          repeat (first | refine then_ret ?_ | refine inBlock_ret ?_)
          refine rr rfl rfl ?_
          first | rfl | (cases hc; done) | trace_state)
      · first
        | (cases hc; done)
        | (
          refine awp_skip ?_
          refine then_normal ?_
          refine awp_seq ?_
          refine awp_region ?_
          refine rv rfl rfl (?_)
          refine rv rfl rfl (?_)
          refine rv rfl rfl (?_)
          refine rv rfl rfl (?_)
          refine rv rfl rfl (?_)
          refine rc1 rfl rfl rfl (box_cb (in_cel hq (mayR_1 hp).2.1)) (?_)
          refine rv rfl rfl (?_)
          refine rv rfl rfl (?_)
          refine rv rfl rfl (?_)
          refine ra rfl rfl rfl (?_)
          refine rs rfl rfl rfl rfl rfl rfl rfl (?_)
          refine rv rfl rfl (?_)
          refine rn ?_
          refine then_normal ?_
          refine awp_seq ?_
          refine awp_region ?_
          refine rv rfl rfl (?_)
          refine rv rfl rfl (?_)
          refine rc1 rfl rfl rfl joinR_c (?_)
          refine rv rfl rfl (?_)
          refine rs rfl rfl rfl rfl rfl rfl rfl (?_)
          refine rv rfl rfl (?_)
          refine rn ?_
          refine then_normal ?_
          refine awp_ret ?_
          repeat (first | refine then_ret ?_ | refine inBlock_ret ?_)
          refine rr rfl rfl ?_
          first | rfl | (cases hc; done) | trace_state)))
end

theorem high_bd {k : Nat} {x : Int} (h : 24 ≤ k ∧ k ≤ 31) (hx : Bd x) : Bd (highV (k : Int) (cel (k : Int) x)) := by
  have h1 := (cel_in h hx).2.2
  have h2 : highV (k : Int) (cel (k : Int) x) ≤ 1073741824 := by unfold highV mn; split <;> omega
  unfold Bd at *; omega
theorem rjoin_cv {k : Nat} {a b c d : Int} {x1 y1 x2 y2 : Int} (h : 24 ≤ k ∧ k ≤ 31) (h1 : Bd x1) (h2 : Bd y1) (h3 : Bd x2) (h4 : Bd y2) : PCall Try.prog 76 [.agg [.int .i64 a, .int .i64 b, .int .i64 (highV (k : Int) (cel (k : Int) x1)), .int .i64 (highV (k : Int) (cel (k : Int) y1))], .agg [.int .i64 c, .int .i64 d, .int .i64 (highV (k : Int) (cel (k : Int) x2)), .int .i64 (highV (k : Int) (cel (k : Int) y2))]]
    (· = .agg [.int .i64 (mn a c), .int .i64 (mn b d), .int .i64 (mx (highV (k : Int) (cel (k : Int) x1)) (highV (k : Int) (cel (k : Int) x2))), .int .i64 (mx (highV (k : Int) (cel (k : Int) y1)) (highV (k : Int) (cel (k : Int) y2)))]) := by
  have := @rjoin_c a b (highV (k : Int) (cel (k : Int) x1)) (highV (k : Int) (cel (k : Int) y1)) c d (highV (k : Int) (cel (k : Int) x2)) (highV (k : Int) (cel (k : Int) y2))
  rwa [mor_eq (high_bd h h1) (high_bd h h3), mor_eq (high_bd h h2) (high_bd h h4), mn_comm c, mn_comm d] at this

section
attribute [local irreducible] awp aops DP PCall ACall Decidable.decide Nat.mod simpB mayP mayR mayG inE inR box addB holdsR inG mayS cel lowV highV cfarS inS
/-- `plover/ploverref01.Cover` -/
theorem rcover_c {k : Nat} {a b c d : Int} (hk : 24 ≤ k ∧ k ≤ 31) (hq : mayS (k : Int) = true) (hp : mayR a b c d = true) : PCall Try.prog 54 [.int .i64 ((k : Nat) : Int), .agg [.int .i64 a, .int .i64 b, .int .i64 c, .int .i64 d]] (· = rcV (cvV (k : Int) a b c d)) := by
  refine pcall_body Try.func54 rfl (by kernel_rfl) (by rfl) ?_
  refine awp_seq ?_
  refine awp_region ?_
  refine rb rfl rfl (?_)
  refine ra rfl rfl rfl (?_)
  refine rn ?_
  refine then_normal ?_
  refine awp_seq ?_
  refine awp_dp (m := 21) Try.mix (by kernel_rfl) (by kernel_rfl) (by kernel_rfl) (by kernel_rfl) (by kernel_rfl) (by kernel_rfl) (by kernel_rfl) ?_
  refine dv rfl rfl (fun _ => rfl) ?_
  refine dv rfl rfl (fun _ => rfl) ?_
  refine dv rfl rfl (fun _ => rfl) ?_
  refine dv rfl rfl (fun _ => rfl) ?_
  refine dc rfl rfl rfl rfl (fun _ => rfl) (fun _ => (rcell_c hk (mayP_iff.1 (mayR_1 hp).1).1)) ?_
  refine dv rfl rfl (fun _ => rfl) ?_
  refine dv rfl rfl (fun _ => rfl) ?_
  refine dv rfl rfl (fun _ => rfl) ?_
  refine dc rfl rfl rfl rfl (fun _ => rfl) (fun _ => (rcell_c hk (mayP_iff.1 (mayR_1 hp).1).2)) ?_
  refine dc rfl rfl rfl rfl (fun _ => rfl) (fun _ => (rbox_c' hk (in_cel hq (mayR_1 hp).1))) ?_
  refine dv rfl rfl (fun _ => rfl) ?_
  refine dv rfl rfl (fun _ => rfl) ?_
  refine dv rfl rfl (fun _ => rfl) ?_
  refine dv rfl rfl (fun _ => rfl) ?_
  refine dc rfl rfl rfl rfl (fun _ => rfl) (fun _ => (rcell_c hk (mayP_iff.1 (mayR_1 hp).2.1).1)) ?_
  refine dv rfl rfl (fun _ => rfl) ?_
  refine dv rfl rfl (fun _ => rfl) ?_
  refine dv rfl rfl (fun _ => rfl) ?_
  refine dc rfl rfl rfl rfl (fun _ => rfl) (fun _ => (rcell_c hk (mayP_iff.1 (mayR_1 hp).2.1).2)) ?_
  refine dc rfl rfl rfl rfl (fun _ => rfl) (fun _ => (rbox_c' hk (in_cel hq (mayR_1 hp).2.1))) ?_
  refine dc rfl rfl rfl rfl (fun _ => rfl) (fun _ => (rjoin_cv hk (mayP_iff.1 (mayR_1 hp).1).1 (mayP_iff.1 (mayR_1 hp).1).2 (mayP_iff.1 (mayR_1 hp).2.1).1 (mayP_iff.1 (mayR_1 hp).2.1).2)) ?_
  refine dn ?_
  refine rs rfl rfl rfl rfl rfl rfl rfl (?_)
  refine rn ?_
  refine then_normal ?_
  refine awp_ret ?_
  repeat (first | refine then_ret ?_ | refine inBlock_ret ?_)
  refine rr rfl rfl ?_
  first | rfl | trace_state
end

theorem bx_may {a b c d : Int} {l : List Pt} (hm : mayG a b c d l = true) : mayR (bxG a b c d l).1 (bxG a b c d l).2.1 (bxG a b c d l).2.2.1 (bxG a b c d l).2.2.2 = true := by
  cases l with
  | nil => exact hm
  | cons q t =>
    have hs := (mayG_simp hm).2
    have ha : allMay (q :: t) = true := List.all_eq_true.2 hs.may
    obtain ⟨b1, b2, b3, b4⟩ := (bd_box ha t.length (by simp)).1
    have key : ∀ i, 0 < i → i ≤ (q :: t).length → (box (q :: t) i).1 ≤ (box (q :: t) i).2.2.1 ∧ (box (q :: t) i).2.1 ≤ (box (q :: t) i).2.2.2 := by
      intro i
      induction i with
      | zero => intro h; omega
      | succ i ih =>
        intro _ hi
        by_cases h0 : i = 0
        · subst h0; rw [box_one (by omega) rfl]; simp
        · rw [box_succ (i := i) (by omega) (by simp; omega)]
          have := ih (by omega) (by omega)
          simp only [mn_eq, mx_eq]; omega
    have hk := key (q :: t).length (by simp) (Nat.le_refl _)
    exact mayR_iff.2 ⟨⟨b1, b2, b3, b4⟩, hk.1, hk.2⟩
def zoR (A B C D : Int) (r : Int × Int × Int × Int) : Int × Int × Int × Int := (W (A - r.1), W (B - r.2.1), W (C - r.2.2.1), W (D - r.2.2.2))
def rzO (z : Bool) (r : Int × Int × Int × Int) : AV := match z with
  | true => .tup [.agg [.int .i64 r.1, .int .i64 r.2.1, .int .i64 r.2.2.1, .int .i64 r.2.2.2], .bool true]
  | false => .tup [.agg [.int .i64 0, .int .i64 0, .int .i64 0, .int .i64 0], .bool false]
theorem rholds_cb {a b c d A B C D : Int} {l : List Pt} {q : Bool} (hm : mayG a b c d l = true) (h : holdsR A B C D (bxG a b c d l).1 (bxG a b c d l).2.1 (bxG a b c d l).2.2.1 (bxG a b c d l).2.2.2 = q) : PCall Try.prog 47 [.agg [.int .i64 A, .int .i64 B, .int .i64 C, .int .i64 D], .agg [.int .i64 (bxG a b c d l).1, .int .i64 (bxG a b c d l).2.1, .int .i64 (bxG a b c d l).2.2.1, .int .i64 (bxG a b c d l).2.2.2]] (· = .bool q) := by
  have h1 := mayR_1 (bx_may hm)
  rw [← h, ← rholds_eq h1.2.2.1 h1.2.2.2]
  exact rHolds_c

section
attribute [local irreducible] awp aops DP PCall ACall Decidable.decide Nat.mod simpB mayP mayR mayG inE inR box addB holdsR inG mayS cel lowV highV cfarS inS
/-- `plover/zone.Of` -/
theorem zof_c {a b c d A B C D : Int} {l : List Pt} {m p q : Bool} (hl : l.length ≤ maxLen) (hm : mayG a b c d l = m) (hp : mayR A B C D = p) (hq : holdsR A B C D (bxG a b c d l).1 (bxG a b c d l).2.1 (bxG a b c d l).2.2.1 (bxG a b c d l).2.2.2 = q) : PCall Try.prog 38 [.agg [.int .i64 (a), .int .i64 (b), .int .i64 (c), .int .i64 (d), .sl (rows l)], .agg [.int .i64 A, .int .i64 B, .int .i64 C, .int .i64 D]] (· = boxO (m && (p && q)) (zoR A B C D (bxG a b c d l))) := by
  refine pcall_body Try.func38 rfl (by kernel_rfl) (by rfl) ?_
  refine awp_seq ?_
  (rcases m with _ | _ <;> rcases p with _ | _ <;> rcases q with _ | _) <;> (
  refine awp_region ?_
  refine rb rfl rfl (?_)
  refine rb rfl rfl (?_)
  refine ra rfl rfl rfl (?_)
  refine rv rfl rfl (?_)
  refine rn ?_
  refine then_normal ?_
  refine awp_seq ?_
  refine awp_region ?_
  refine rv rfl rfl (?_)
  refine rc1 rfl rfl rfl (boxG_c hl hm) (?_)
  refine rv rfl rfl (?_)
  refine rv rfl rfl (?_)
  refine rv rfl rfl (?_)
  refine ra rfl rfl rfl (?_)
  refine rs rfl rfl rfl rfl rfl rfl rfl (?_)
  refine rv rfl rfl (?_)
  refine rn ?_
  refine then_normal ?_
  refine awp_seq ?_
  refine awp_seq ?_
  refine awp_region ?_
  refine rv rfl rfl (?_)
  refine rv rfl rfl (?_)
  refine rv rfl rfl (?_)
  (first | refine gy rfl rfl rfl (rv rfl rfl (?_)) | refine gn rfl rfl rfl rfl rfl ?_ | refine gu rfl rfl rfl rfl ?_ | refine gs rfl rfl rfl rfl rfl (fun hg => rv rfl rfl (?_)) (fun hg => ?_)) <;> (
  (first | refine gy rfl rfl rfl (rc1 rfl rfl rfl (mayR_cb hp) (?_)) | refine gn rfl rfl rfl rfl rfl ?_ | refine gu rfl rfl rfl rfl ?_ | refine gs rfl rfl rfl rfl rfl (fun hg => rc1 rfl rfl rfl (mayR_cb hp) (?_)) (fun hg => ?_)) <;> (
  (first | refine gy rfl rfl rfl (rv rfl rfl (?_)) | refine gn rfl rfl rfl rfl rfl ?_ | refine gu rfl rfl rfl rfl ?_ | refine gs rfl rfl rfl rfl rfl (fun hg => rv rfl rfl (?_)) (fun hg => ?_)) <;> (
  refine rv rfl rfl (?_)
  refine rv rfl rfl (?_)
  (first | refine gy rfl rfl rfl (rv rfl rfl (?_)) | refine gn rfl rfl rfl rfl rfl ?_ | refine gu rfl rfl rfl rfl ?_ | refine gs rfl rfl rfl rfl rfl (fun hg => rv rfl rfl (?_)) (fun hg => ?_)) <;> (
  (first | refine gy rfl rfl rfl (rv rfl rfl (?_)) | refine gn rfl rfl rfl rfl rfl ?_ | refine gu rfl rfl rfl rfl ?_ | refine gs rfl rfl rfl rfl rfl (fun hg => rv rfl rfl (?_)) (fun hg => ?_)) <;> (
  (first | refine gy rfl rfl rfl (rc1 rfl rfl rfl (holdsR_cb hq) (?_)) | refine gn rfl rfl rfl rfl rfl ?_ | refine gu rfl rfl rfl rfl ?_ | refine gs rfl rfl rfl rfl rfl (fun hg => rc1 rfl rfl rfl (holdsR_cb hq) (?_)) (fun hg => ?_)) <;> (
  (first | refine gy rfl rfl rfl (rv rfl rfl (?_)) | refine gn rfl rfl rfl rfl rfl ?_ | refine gu rfl rfl rfl rfl ?_ | refine gs rfl rfl rfl rfl rfl (fun hg => rv rfl rfl (?_)) (fun hg => ?_)) <;> (
  refine rv rfl rfl (?_)
  refine rn ?_
  refine then_normal ?_
  refine cs_ rfl (fun hc => ?_) (fun hc => ?_)
  · first
    | (cases hc; done)
    | (
      refine awp_seq ?_
      refine awp_region ?_
      refine rv rfl rfl (?_)
      refine rv rfl rfl (?_)
      refine rs rfl rfl rfl rfl rfl rfl rfl (?_)
      refine rv rfl rfl (?_)
      refine rn ?_
      refine then_normal ?_
      refine awp_ret ?_
      repeat (first | refine then_ret ?_ | refine inBlock_ret ?_)
      refine rr rfl rfl ?_
      first | rfl | (cases hc; done) | trace_state)
  · first
    | (cases hc; done)
    | (
      refine awp_skip ?_
      refine then_normal ?_
      refine awp_seq ?_
      refine awp_region ?_
      refine rv rfl rfl (?_)
      refine rv rfl rfl (?_)
      refine rv rfl rfl (?_)
      refine rv rfl rfl (?_)
      refine rv rfl rfl (?_)
      refine rv rfl rfl (?_)
      refine rv rfl rfl (?_)
      refine rv rfl rfl (?_)
      refine rv rfl rfl (?_)
      refine rv rfl rfl (?_)
      refine rv rfl rfl (?_)
      refine rv rfl rfl (?_)
      refine rv rfl rfl (?_)
      refine rv rfl rfl (?_)
      refine rv rfl rfl (?_)
      refine rv rfl rfl (?_)
      refine rv rfl rfl (?_)
      refine rv rfl rfl (?_)
      refine rv rfl rfl (?_)
      refine rv rfl rfl (?_)
      refine rv rfl rfl (?_)
      refine rs rfl rfl rfl rfl rfl rfl rfl (?_)
      refine rv rfl rfl (?_)
      refine rn ?_
      refine then_normal ?_
      refine awp_ret ?_
      repeat (first | refine then_ret ?_ | refine inBlock_ret ?_)
      refine rr rfl rfl ?_
      first | rfl | (cases hc; done) | trace_state)))))))))
end

section
attribute [local irreducible] awp aops DP PCall ACall Decidable.decide Nat.mod simpB mayP mayR mayG inE inR box addB holdsR inG mayS cel lowV highV cfarS inS
/-- `plover/ploverref15.Zone` -/
theorem rzone_c {a b c d A B C D : Int} {l : List Pt} {m p q : Bool} (hl : l.length ≤ maxLen) (hm : mayG a b c d l = m) (hp : mayR A B C D = p) (hq : holdsR A B C D (bxG a b c d l).1 (bxG a b c d l).2.1 (bxG a b c d l).2.2.1 (bxG a b c d l).2.2.2 = q) : PCall Try.prog 39 [.agg [.int .i64 (a), .int .i64 (b), .int .i64 (c), .int .i64 (d), .sl (rows l)], .agg [.int .i64 A, .int .i64 B, .int .i64 C, .int .i64 D]] (· = rzO (m && (p && q)) (zoR A B C D (bxG a b c d l))) := by
  refine pcall_body Try.func39 rfl (by kernel_rfl) (by rfl) ?_
  refine awp_seq ?_
  (rcases m with _ | _ <;> rcases p with _ | _ <;> rcases q with _ | _) <;> (
  refine awp_region ?_
  refine rb rfl rfl (?_)
  refine rb rfl rfl (?_)
  refine ra rfl rfl rfl (?_)
  refine rv rfl rfl (?_)
  refine rn ?_
  refine then_normal ?_
  refine awp_seq ?_
  refine awp_region ?_
  refine rv rfl rfl (?_)
  refine rc1 rfl rfl rfl (rmayG_cb hl hm) (?_)
  refine rv rfl rfl (?_)
  refine rn ?_
  refine then_normal ?_
  refine awp_seq ?_
  refine awp_region ?_
  refine rv rfl rfl (?_)
  refine rc1 rfl rfl rfl (rmayR_cb hp) (?_)
  refine rv rfl rfl (?_)
  refine rn ?_
  refine then_normal ?_
  refine awp_seq ?_
  refine awp_seq ?_
  refine awp_region ?_
  refine rv rfl rfl (?_)
  refine rv rfl rfl (?_)
  refine rv rfl rfl (?_)
  (first | refine gy rfl rfl rfl (rv rfl rfl (?_)) | refine gn rfl rfl rfl rfl rfl ?_ | refine gu rfl rfl rfl rfl ?_ | refine gs rfl rfl rfl rfl rfl (fun hg => rv rfl rfl (?_)) (fun hg => ?_)) <;> (
  (first | refine gy rfl rfl rfl (rv rfl rfl (?_)) | refine gn rfl rfl rfl rfl rfl ?_ | refine gu rfl rfl rfl rfl ?_ | refine gs rfl rfl rfl rfl rfl (fun hg => rv rfl rfl (?_)) (fun hg => ?_)) <;> (
  refine rv rfl rfl (?_)
  refine rn ?_
  refine then_normal ?_
  refine cs_ rfl (fun hc => ?_) (fun hc => ?_)
  · first
    | (cases hc; done)
    | (
      refine awp_seq ?_
      refine awp_region ?_
      refine rv rfl rfl (?_)
      refine rs rfl rfl rfl rfl rfl rfl rfl (?_)
      refine rv rfl rfl (?_)
      refine rn ?_
      refine then_normal ?_
      refine awp_ret ?_
      repeat (first | refine then_ret ?_ | refine inBlock_ret ?_)
      refine rr rfl rfl ?_
      first | rfl | (cases hc; done) | trace_state)
  · first
    | (cases hc; done)
    | (
      refine awp_skip ?_
      refine then_normal ?_
      refine awp_seq ?_
      refine awp_region ?_
      refine rv rfl rfl (?_)
      refine rc1 rfl rfl rfl (rboxG_c hl hm) (?_)
      refine ra rfl rfl rfl (?_)
      refine rs rfl rfl rfl rfl rfl rfl rfl (?_)
      refine rn ?_
      refine then_normal ?_
      refine awp_seq ?_
      refine awp_region ?_
      refine rv rfl rfl (?_)
      refine rv rfl rfl (?_)
      refine rc1 rfl rfl rfl (rholds_cb hm hq) (?_)
      refine rv rfl rfl (?_)
      refine rn ?_
      refine then_normal ?_
      refine awp_seq ?_
      refine awp_seq ?_
      refine awp_region ?_
      refine rv rfl rfl (?_)
      refine rv rfl rfl (?_)
      refine rn ?_
      refine then_normal ?_
      refine cs_ rfl (fun hc => ?_) (fun hc => ?_)
      · first
        | (cases hc; done)
        | (
          refine awp_seq ?_
          refine awp_region ?_
          refine rv rfl rfl (?_)
          refine rs rfl rfl rfl rfl rfl rfl rfl (?_)
          refine rv rfl rfl (?_)
          refine rn ?_
          refine then_normal ?_
          refine awp_ret ?_
          repeat (first | refine then_ret ?_ | refine inBlock_ret ?_)
          refine rr rfl rfl ?_
          first | rfl | (cases hc; done) | trace_state)
      · first
        | (cases hc; done)
        | (
          refine awp_skip ?_
          refine then_normal ?_
          refine awp_seq ?_
          refine awp_region ?_
          refine rv rfl rfl (?_)
          refine rv rfl rfl (?_)
          refine rv rfl rfl (?_)
          refine rv rfl rfl (?_)
          refine rv rfl rfl (?_)
          refine rv rfl rfl (?_)
          refine rv rfl rfl (?_)
          refine rv rfl rfl (?_)
          refine rv rfl rfl (?_)
          refine rv rfl rfl (?_)
          refine rv rfl rfl (?_)
          refine rv rfl rfl (?_)
          refine rv rfl rfl (?_)
          refine rv rfl rfl (?_)
          refine rv rfl rfl (?_)
          refine rv rfl rfl (?_)
          refine rv rfl rfl (?_)
          refine rv rfl rfl (?_)
          refine rv rfl rfl (?_)
          refine rv rfl rfl (?_)
          refine rv rfl rfl (?_)
          refine rs rfl rfl rfl rfl rfl rfl rfl (?_)
          refine rv rfl rfl (?_)
          refine rn ?_
          refine then_normal ?_
          refine awp_ret ?_
          repeat (first | refine then_ret ?_ | refine inBlock_ret ?_)
          refine rr rfl rfl ?_
          first | rfl | (cases hc; done) | trace_state)))))
end

def safeB (z : Bool) (r : Int × Int × Int × Int) (v : Pt) : Bool := z && inR r.1 r.2.1 r.2.2.1 r.2.2.2 v.1 v.2

section
attribute [local irreducible] awp aops DP PCall ACall Decidable.decide Nat.mod simpB mayP mayR mayG inE inR box addB holdsR inG mayS cel lowV highV cfarS inS
/-- `plover/zone.Safe` -/
theorem safe_c {a b c d A B C D : Int} {l : List Pt} {m p q : Bool} {v : Pt} (hl : l.length ≤ maxLen) (hm : mayG a b c d l = m) (hp : mayR A B C D = p) (hq : holdsR A B C D (bxG a b c d l).1 (bxG a b c d l).2.1 (bxG a b c d l).2.2.1 (bxG a b c d l).2.2.2 = q) : PCall Try.prog 40 [.agg [.int .i64 (a), .int .i64 (b), .int .i64 (c), .int .i64 (d), .sl (rows l)], .agg [.int .i64 A, .int .i64 B, .int .i64 C, .int .i64 D], .agg [.int .i64 (v).1, .int .i64 (v).2]] (· = .bool (safeB (m && (p && q)) (zoR A B C D (bxG a b c d l)) v)) := by
  refine pcall_body Try.func40 rfl (by kernel_rfl) (by rfl) ?_
  refine awp_seq ?_
  (rcases m with _ | _ <;> rcases p with _ | _ <;> rcases q with _ | _) <;> (
  refine awp_region ?_
  refine rb rfl rfl (?_)
  refine rb rfl rfl (?_)
  refine rb rfl rfl (?_)
  refine rv rfl rfl (?_)
  refine rn ?_
  refine then_normal ?_
  refine awp_seq ?_
  refine awp_region ?_
  refine rv rfl rfl (?_)
  refine rv rfl rfl (?_)
  refine rc1 rfl rfl rfl (zof_c hl hm hp hq) (?_)
  refine rv rfl rfl (?_)
  refine rv rfl rfl (?_)
  refine rv rfl rfl (?_)
  refine ra rfl rfl rfl (?_)
  refine rs rfl rfl rfl rfl rfl rfl rfl (?_)
  refine rv rfl rfl (?_)
  refine rn ?_
  refine then_normal ?_
  refine awp_seq ?_
  refine awp_region ?_
  refine rv rfl rfl (?_)
  refine rv rfl rfl (?_)
  refine rv rfl rfl (?_)
  (first | refine gy rfl rfl rfl (rv rfl rfl (?_)) | refine gn rfl rfl rfl rfl rfl ?_ | refine gu rfl rfl rfl rfl ?_ | refine gs rfl rfl rfl rfl rfl (fun hg => rv rfl rfl (?_)) (fun hg => ?_)) <;> (
  (first | refine gy rfl rfl rfl (rv rfl rfl (?_)) | refine gn rfl rfl rfl rfl rfl ?_ | refine gu rfl rfl rfl rfl ?_ | refine gs rfl rfl rfl rfl rfl (fun hg => rv rfl rfl (?_)) (fun hg => ?_)) <;> (
  (first | refine gy rfl rfl rfl (rc1 rfl rfl rfl inR_c (?_)) | refine gn rfl rfl rfl rfl rfl ?_ | refine gu rfl rfl rfl rfl ?_ | refine gs rfl rfl rfl rfl rfl (fun hg => rc1 rfl rfl rfl inR_c (?_)) (fun hg => ?_)) <;> (
  refine rv rfl rfl (?_)
  refine rv rfl rfl (?_)
  refine rn ?_
  refine then_normal ?_
  refine awp_ret ?_
  repeat (first | refine then_ret ?_ | refine inBlock_ret ?_)
  refine rr rfl rfl ?_
  first | rfl | (cases hc; done) | trace_state))))
end

section
attribute [local irreducible] awp aops DP PCall ACall Decidable.decide Nat.mod simpB mayP mayR mayG inE inR box addB holdsR inG mayS cel lowV highV cfarS inS
/-- `plover/ploverref15.Safe` -/
theorem rsafe_c {a b c d A B C D : Int} {l : List Pt} {m p q : Bool} {v : Pt} (hl : l.length ≤ maxLen) (hm : mayG a b c d l = m) (hp : mayR A B C D = p) (hq : holdsR A B C D (bxG a b c d l).1 (bxG a b c d l).2.1 (bxG a b c d l).2.2.1 (bxG a b c d l).2.2.2 = q) : PCall Try.prog 41 [.agg [.int .i64 (a), .int .i64 (b), .int .i64 (c), .int .i64 (d), .sl (rows l)], .agg [.int .i64 A, .int .i64 B, .int .i64 C, .int .i64 D], .agg [.int .i64 (v).1, .int .i64 (v).2]] (· = .bool (safeB (m && (p && q)) (zoR A B C D (bxG a b c d l)) v)) := by
  refine pcall_body Try.func41 rfl (by kernel_rfl) (by rfl) ?_
  refine awp_seq ?_
  (rcases m with _ | _ <;> rcases p with _ | _ <;> rcases q with _ | _) <;> (
  refine awp_region ?_
  refine rb rfl rfl (?_)
  refine rb rfl rfl (?_)
  refine rb rfl rfl (?_)
  refine rv rfl rfl (?_)
  refine rn ?_
  refine then_normal ?_
  refine awp_seq ?_
  refine awp_region ?_
  refine rv rfl rfl (?_)
  refine rv rfl rfl (?_)
  refine rc1 rfl rfl rfl (rzone_c hl hm hp hq) (?_)
  refine rv rfl rfl (?_)
  refine rv rfl rfl (?_)
  refine rv rfl rfl (?_)
  refine ra rfl rfl rfl (?_)
  refine rs rfl rfl rfl rfl rfl rfl rfl (?_)
  refine rv rfl rfl (?_)
  refine rn ?_
  refine then_normal ?_
  refine awp_seq ?_
  refine awp_region ?_
  refine rv rfl rfl (?_)
  refine rv rfl rfl (?_)
  (first | refine gy rfl rfl rfl (rv rfl rfl (?_)) | refine gn rfl rfl rfl rfl rfl ?_ | refine gu rfl rfl rfl rfl ?_ | refine gs rfl rfl rfl rfl rfl (fun hg => rv rfl rfl (?_)) (fun hg => ?_)) <;> (
  (first | refine gy rfl rfl rfl (rv rfl rfl (?_)) | refine gn rfl rfl rfl rfl rfl ?_ | refine gu rfl rfl rfl rfl ?_ | refine gs rfl rfl rfl rfl rfl (fun hg => rv rfl rfl (?_)) (fun hg => ?_)) <;> (
  (first | refine gy rfl rfl rfl (rc1 rfl rfl rfl rIn_c (?_)) | refine gn rfl rfl rfl rfl rfl ?_ | refine gu rfl rfl rfl rfl ?_ | refine gs rfl rfl rfl rfl rfl (fun hg => rc1 rfl rfl rfl rIn_c (?_)) (fun hg => ?_)) <;> (
  refine rv rfl rfl (?_)
  refine rv rfl rfl (?_)
  refine rn ?_
  refine then_normal ?_
  refine awp_ret ?_
  repeat (first | refine then_ret ?_ | refine inBlock_ret ?_)
  refine rr rfl rfl ?_
  first | rfl | (cases hc; done) | trace_state))))
end

def cvG (s a b c d : Int) (l : List Pt) : Int × Int × Int × Int := cvV s (bxG a b c d l).1 (bxG a b c d l).2.1 (bxG a b c d l).2.2.1 (bxG a b c d l).2.2.2

section
attribute [local irreducible] awp aops DP PCall ACall Decidable.decide Nat.mod simpB mayP mayR mayG inE inR box addB holdsR inG mayS cel lowV highV cfarS inS
/-- `plover/zone.Cover` -/
theorem zcover_c {s a b c d : Int} {l : List Pt} {m q : Bool} (hl : l.length ≤ maxLen) (hm : mayG a b c d l = m) (hq : mayS s = q) : PCall Try.prog 42 [.int .i64 s, .agg [.int .i64 (a), .int .i64 (b), .int .i64 (c), .int .i64 (d), .sl (rows l)]] (· = boxO (m && q) (cvG s a b c d l)) := by
  refine pcall_body Try.func42 rfl (by kernel_rfl) (by rfl) ?_
  refine awp_seq ?_
  (rcases m with _ | _ <;> rcases q with _ | _) <;> (
  refine awp_region ?_
  refine rb rfl rfl (?_)
  refine ra rfl rfl rfl (?_)
  refine rv rfl rfl (?_)
  refine rn ?_
  refine then_normal ?_
  refine awp_seq ?_
  refine awp_region ?_
  refine rv rfl rfl (?_)
  refine rc1 rfl rfl rfl (boxG_c hl hm) (?_)
  refine rv rfl rfl (?_)
  refine rv rfl rfl (?_)
  refine rv rfl rfl (?_)
  refine ra rfl rfl rfl (?_)
  refine rs rfl rfl rfl rfl rfl rfl rfl (?_)
  refine rv rfl rfl (?_)
  refine rn ?_
  refine then_normal ?_
  refine awp_seq ?_
  refine awp_seq ?_
  refine awp_region ?_
  refine rv rfl rfl (?_)
  refine rv rfl rfl (?_)
  refine rn ?_
  refine then_normal ?_
  refine cs_ rfl (fun hc => ?_) (fun hc => ?_)
  · first
    | (cases hc; done)
    | (
      refine awp_seq ?_
      refine awp_region ?_
      refine rv rfl rfl (?_)
      refine rv rfl rfl (?_)
      refine rs rfl rfl rfl rfl rfl rfl rfl (?_)
      refine rv rfl rfl (?_)
      refine rn ?_
      refine then_normal ?_
      refine awp_ret ?_
      repeat (first | refine then_ret ?_ | refine inBlock_ret ?_)
      refine rr rfl rfl ?_
      first | rfl | (cases hc; done) | trace_state)
  · first
    | (cases hc; done)
    | (
      refine awp_skip ?_
      refine then_normal ?_
      refine awp_seq ?_
      refine awp_region ?_
      refine rv rfl rfl (?_)
      refine rv rfl rfl (?_)
      refine rc1 rfl rfl rfl (cbox_c (bx_may hm) hq) (?_)
      refine rv rfl rfl (?_)
      refine rv rfl rfl (?_)
      refine rs rfl rfl rfl rfl rfl rfl rfl (?_)
      refine rv rfl rfl (?_)
      refine rn ?_
      refine then_normal ?_
      refine awp_ret ?_
      repeat (first | refine then_ret ?_ | refine inBlock_ret ?_)
      refine rr rfl rfl ?_
      first | rfl | (cases hc; done) | trace_state))
end

section
attribute [local irreducible] awp aops DP PCall ACall Decidable.decide Nat.mod simpB mayP mayR mayG inE inR box addB holdsR inG mayS cel lowV highV cfarS inS
/-- `plover/ploverref15.Cover` -/
theorem rzcover_c {k : Nat} {a b c d : Int} {l : List Pt} (hl : l.length ≤ maxLen) (hm : mayG a b c d l = true) (hk : 24 ≤ k ∧ k ≤ 31) (hq : mayS (k : Int) = true) : PCall Try.prog 44 [.int .i64 ((k : Nat) : Int), .agg [.int .i64 (a), .int .i64 (b), .int .i64 (c), .int .i64 (d), .sl (rows l)]] (· = rcV (cvG (k : Int) a b c d l)) := by
  refine pcall_body Try.func44 rfl (by kernel_rfl) (by rfl) ?_
  refine awp_seq ?_
  refine awp_region ?_
  refine rb rfl rfl (?_)
  refine ra rfl rfl rfl (?_)
  refine rn ?_
  refine then_normal ?_
  refine awp_seq ?_
  refine awp_region ?_
  refine rv rfl rfl (?_)
  refine rv rfl rfl (?_)
  refine rc1 rfl rfl rfl (rboxG_c hl hm) (?_)
  refine rc1 rfl rfl rfl (rcover_c hk hq (bx_may hm)) (?_)
  refine rs rfl rfl rfl rfl rfl rfl rfl (?_)
  refine rn ?_
  refine then_normal ?_
  refine awp_ret ?_
  repeat (first | refine then_ret ?_ | refine inBlock_ret ?_)
  refine rr rfl rfl ?_
  first | rfl | trace_state
end

end Go.Proofs.Ytngeejjllgnpcaa
