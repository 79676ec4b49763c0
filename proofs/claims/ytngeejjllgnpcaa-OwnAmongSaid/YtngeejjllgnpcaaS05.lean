/- Contracts, printed by a program of this session's. -/
import Derived.Test.YtngeejjllgnpcaaS04h
import Derived.Test.YtngeejjllgnpcaaS02e
namespace Go.Proofs.Ytngeejjllgnpcaa
open Go.Pv
set_option maxRecDepth 100000
set_option maxHeartbeats 4000000
set_option linter.unusedSimpArgs false
set_option linter.unusedVariables false
set_option linter.unusedSectionVars false

def boxO (m : Bool) (r : Int × Int × Int × Int) : AV := match m with
  | true => .tup [.agg [.int .i64 r.1, .int .i64 r.2.1, .int .i64 r.2.2.1, .int .i64 r.2.2.2], .nilI]
  | false => .tup [.agg [.int .i64 0, .int .i64 0, .int .i64 0, .int .i64 0], .iface 35 (.int .i64 1)]
def rcV (r : Int × Int × Int × Int) : AV := .agg [.int .i64 r.1, .int .i64 r.2.1, .int .i64 r.2.2.1, .int .i64 r.2.2.2]
theorem mayR_1 {a b c d : Int} (h : mayR a b c d = true) : mayP a b = true ∧ mayP c d = true ∧ a ≤ c ∧ b ≤ d := by
  simp only [mayR, Bool.and_eq_true, decide_eq_true_eq] at h; exact ⟨h.1.1.1, h.1.1.2, h.1.2, h.2⟩
theorem may_k {s : Int} (h : mayS s = true) : ∃ k : Nat, s = (k : Int) ∧ 24 ≤ k ∧ k ≤ 31 := by
  simp [mayS] at h; exact ⟨s.toNat, by omega, by omega, by omega⟩
theorem in_cel {s x y : Int} (h : mayS s = true) (hm : mayP x y = true) : inS s (cel s x) (cel s y) = true := by
  obtain ⟨k, rfl, hk⟩ := may_k h
  have hb := mayP_iff.1 hm
  unfold inS
  rw [(cel_in hk hb.1).1, (cel_in hk hb.2).1]; rfl
def cvV (s a b c d : Int) : Int × Int × Int × Int := (mn (lowV s (cel s a)) (lowV s (cel s c)), mn (lowV s (cel s b)) (lowV s (cel s d)), mx (highV s (cel s a)) (highV s (cel s c)), mx (highV s (cel s b)) (highV s (cel s d)))
theorem mayR_cb {a b c d : Int} {p : Bool} (h : mayR a b c d = p) : PCall Try.prog 78 [.agg [.int .i64 a, .int .i64 b, .int .i64 c, .int .i64 d]] (· = .bool p) := h ▸ mayR_c
theorem rmayR_cb {a b c d : Int} {p : Bool} (h : mayR a b c d = p) : PCall Try.prog 49 [.agg [.int .i64 a, .int .i64 b, .int .i64 c, .int .i64 d]] (· = .bool p) := h ▸ rRect_c
theorem holdsR_cb {a b c d a' b' c' d' : Int} {p : Bool} (h : holdsR a b c d a' b' c' d' = p) : PCall Try.prog 81 [.agg [.int .i64 a, .int .i64 b, .int .i64 c, .int .i64 d], .agg [.int .i64 a', .int .i64 b', .int .i64 c', .int .i64 d']] (· = .bool p) := h ▸ holdsR_c
theorem rholds_eq {a b c d a' b' c' d' : Int} (h1 : a' ≤ c') (h2 : b' ≤ d') : (inR a b c d a' b' && inR a b c d c' d') = holdsR a b c d a' b' c' d' := by
  rw [Bool.eq_iff_iff]; simp only [inR, holdsR, Bool.and_eq_true, decide_eq_true_eq]; omega
theorem shift_cb {s : Int} {p : Bool} (h : mayS s = p) : PCall Try.prog 43 [.int .i64 s] (· = .bool p) := h ▸ shift_c

section
attribute [local irreducible] awp aops DP PCall ACall Decidable.decide Nat.mod mayP mayR inR cel lowV highV cfarS inS
/-- `plover/cover.span` -/
theorem span_c {s a b c d : Int} {p q : Bool} (hp : mayR a b c d = p) (hq : mayS s = q) : PCall Try.prog 84 [.int .i64 s, .agg [.int .i64 a, .int .i64 b, .int .i64 c, .int .i64 d]] (· = boxO (p && q) (cel s a, cel s b, cel s c, cel s d)) := by
  refine pcall_body Try.func84 rfl (by kernel_rfl) (by rfl) ?_
  refine awp_seq ?_
  (rcases p with _ | _ <;> rcases q with _ | _) <;> (
  refine awp_region ?_
  refine rb rfl rfl (?_)
  refine ra rfl rfl rfl (?_)
  refine rv rfl rfl (?_)
  refine rn ?_
  refine then_normal ?_
  refine awp_seq ?_
  refine awp_seq ?_
  refine awp_region ?_
  refine rv rfl rfl (?_)
  refine rc1 rfl rfl rfl (mayR_cb hp) (?_)
  refine rv rfl rfl (?_)
  refine rn ?_
  refine then_normal ?_
  refine cs_ rfl (fun hc => ?_) (fun hc => ?_)
  · first
    | (cases hc; done)
    | (
      refine awp_seq ?_
      refine awp_region ?_
      refine rv rfl rfl (?_)
      refine rv rfl rfl (?_)
      refine rs rfl rfl rfl rfl rfl rfl rfl (?_)
      refine rv rfl rfl (?_)
      refine rn ?_
      refine then_normal ?_
      refine awp_ret ?_
      repeat (first | refine then_ret ?_ | refine inBlock_ret ?_)
      refine rr rfl rfl ?_
      first | rfl | (cases hc; done) | trace_state)
  · first
    | (cases hc; done)
    | (
      refine awp_skip ?_
      refine then_normal ?_
      refine awp_seq ?_
      refine awp_region ?_
      refine rv rfl rfl (?_)
      refine rv rfl rfl (?_)
      refine rv rfl rfl (?_)
      refine rv rfl rfl (?_)
      refine rv rfl rfl (?_)
      refine rv rfl rfl (?_)
      refine rc1 rfl rfl rfl (cell_cb hq (mayR_1 hp).1) (?_)
      refine rv rfl rfl (?_)
      refine rv rfl rfl (?_)
      refine rv rfl rfl (?_)
      refine rv rfl rfl (?_)
      refine rv rfl rfl (?_)
      refine rv rfl rfl (?_)
      refine rv rfl rfl (?_)
      refine rn ?_
      refine then_normal ?_
      refine awp_seq ?_
      refine awp_seq ?_
      refine awp_region ?_
      refine rv rfl rfl (?_)
      refine rv rfl rfl (?_)
      refine rn ?_
      refine then_normal ?_
      refine cs_ rfl (fun hc => ?_) (fun hc => ?_)
      · first
        | (cases hc; done)
        | (
          refine awp_seq ?_
          refine awp_region ?_
          refine rv rfl rfl (?_)
          refine rv rfl rfl (?_)
          refine rs rfl rfl rfl rfl rfl rfl rfl (?_)
          refine rv rfl rfl (?_)
          refine rn ?_
          refine then_normal ?_
          refine awp_ret ?_
          repeat (first | refine then_ret ?_ | refine inBlock_ret ?_)
          refine rr rfl rfl ?_
          first | rfl | (cases hc; done) | trace_state)
      · first
        | (cases hc; done)
        | (
          refine awp_skip ?_
          refine then_normal ?_
          refine awp_seq ?_
          refine awp_region ?_
          refine rv rfl rfl (?_)
          refine rv rfl rfl (?_)
          refine rv rfl rfl (?_)
          refine rv rfl rfl (?_)
          refine rv rfl rfl (?_)
          refine rv rfl rfl (?_)
          refine rc1 rfl rfl rfl (cell_cb hq (mayR_1 hp).2.1) (?_)
          refine rv rfl rfl (?_)
          refine rv rfl rfl (?_)
          refine rv rfl rfl (?_)
          refine rv rfl rfl (?_)
          refine rv rfl rfl (?_)
          refine rv rfl rfl (?_)
          refine rv rfl rfl (?_)
          refine rn ?_
          refine then_normal ?_
          refine awp_seq ?_
          refine awp_region ?_
          refine rv rfl rfl (?_)
          refine rv rfl rfl (?_)
          refine rv rfl rfl (?_)
          refine rv rfl rfl (?_)
          refine rv rfl rfl (?_)
          refine rv rfl rfl (?_)
          refine rs rfl rfl rfl rfl rfl rfl rfl (?_)
          refine rv rfl rfl (?_)
          refine rn ?_
          refine then_normal ?_
          refine awp_ret ?_
          repeat (first | refine then_ret ?_ | refine inBlock_ret ?_)
          refine rr rfl rfl ?_
          first | rfl | (cases hc; done) | trace_state)))
end

section
attribute [local irreducible] awp aops DP PCall ACall Decidable.decide Nat.mod mayP mayR inR cel lowV highV cfarS inS
/-- `plover/cover.Box` -/
theorem cbox_c {s a b c d : Int} {p q : Bool} (hp : mayR a b c d = p) (hq : mayS s = q) : PCall Try.prog 51 [.int .i64 s, .agg [.int .i64 a, .int .i64 b, .int .i64 c, .int .i64 d]] (· = boxO (p && q) (cvV s a b c d)) := by
  refine pcall_body Try.func51 rfl (by kernel_rfl) (by rfl) ?_
  refine awp_seq ?_
  (rcases p with _ | _ <;> rcases q with _ | _) <;> (
  refine awp_region ?_
  refine rb rfl rfl (?_)
  refine ra rfl rfl rfl (?_)
  refine rv rfl rfl (?_)
  refine rn ?_
  refine then_normal ?_
  refine awp_seq ?_
  refine awp_region ?_
  refine rv rfl rfl (?_)
  refine rv rfl rfl (?_)
  refine rc1 rfl rfl rfl (span_c hp hq) (?_)
  refine rv rfl rfl (?_)
  refine rv rfl rfl (?_)
  refine rv rfl rfl (?_)
  refine ra rfl rfl rfl (?_)
  refine rs rfl rfl rfl rfl rfl rfl rfl (?_)
  refine rv rfl rfl (?_)
  refine rn ?_
  refine then_normal ?_
  refine awp_seq ?_
  refine awp_seq ?_
  refine awp_region ?_
  refine rv rfl rfl (?_)
  refine rv rfl rfl (?_)
  refine rn ?_
  refine then_normal ?_
  refine cs_ rfl (fun hc => ?_) (fun hc => ?_)
  · first
    | (cases hc; done)
    | (
      refine awp_seq ?_
      refine awp_region ?_
      refine rv rfl rfl (?_)
      refine rv rfl rfl (?_)
      refine rs rfl rfl rfl rfl rfl rfl rfl (?_)
      refine rv rfl rfl (?_)
      refine rn ?_
      refine then_normal ?_
      refine awp_ret ?_
      repeat (first | refine then_ret ?_ | refine inBlock_ret ?_)
      refine rr rfl rfl ?_
      first | rfl | (cases hc; done) | trace_state)
  · first
    | (cases hc; done)
    | (
      refine awp_skip ?_
      refine then_normal ?_
      refine awp_seq ?_
      refine awp_region ?_
      refine rv rfl rfl (?_)
      refine rv rfl rfl (?_)
      refine rv rfl rfl (?_)
      refine rv rfl rfl (?_)
      refine rv rfl rfl (?_)
      refine rc1 rfl rfl rfl (box_cb (in_cel hq (mayR_1 hp).1)) (?_)
      refine rv rfl rfl (?_)
      refine rv rfl rfl (?_)
      refine rv rfl rfl (?_)
      refine ra rfl rfl rfl (?_)
      refine rs rfl rfl rfl rfl rfl rfl rfl (?_)
      refine rv rfl rfl (?_)
      refine rn ?_
      refine then_normal ?_
      refine awp_seq ?_
      refine awp_seq ?_
      refine awp_region ?_
      refine rv rfl rfl (?_)
      refine rv rfl rfl (?_)
      refine rn ?_
      refine then_normal ?_
      refine cs_ rfl (fun hc => ?_) (fun hc => ?_)
      · first
        | (cases hc; done)
        | (
          refine awp_seq ?_
          refine awp_region ?_
          refine rv rfl rfl (?_)
          refine rv rfl rfl (?_)
          refine rs rfl rfl rfl rfl rfl rfl rfl (?_)
          refine rv rfl rfl (?_)
          refine rn ?_
          refine then_normal ?_
          refine awp_ret ?_
          repeat (first | refine then_ret ?_ | refine inBlock_ret ?_)
          refine rr rfl rfl ?_
          first | rfl | (cases hc; done) | trace_state)
      · first
        | (cases hc; done)
        | (
          refine awp_skip ?_
          refine then_normal ?_
          refine awp_seq ?_
          refine awp_region ?_
          refine rv rfl rfl (?_)
          refine rv rfl rfl (?_)
          refine rv rfl rfl (?_)
          refine rv rfl rfl (?_)
          refine rv rfl rfl (?_)
          refine rc1 rfl rfl rfl (box_cb (in_cel hq (mayR_1 hp).2.1)) (?_)
          refine rv rfl rfl (?_)
          refine rv rfl rfl (?_)
          refine rv rfl rfl (?_)
          refine ra rfl rfl rfl (?_)
          refine rs rfl rfl rfl rfl rfl rfl rfl (?_)
          refine rv rfl rfl (?_)
          refine rn ?_
          refine then_normal ?_
          refine awp_seq ?_
          refine awp_region ?_
          refine rv rfl rfl (?_)
          refine rv rfl rfl (?_)
          refine rc1 rfl rfl rfl joinR_c (?_)
          refine rv rfl rfl (?_)
          refine rs rfl rfl rfl rfl rfl rfl rfl (?_)
          refine rv rfl rfl (?_)
          refine rn ?_
          refine then_normal ?_
          refine awp_ret ?_
          repeat (first | refine then_ret ?_ | refine inBlock_ret ?_)
          refine rr rfl rfl ?_
          first | rfl | (cases hc; done) | trace_state)))
end

theorem high_bd {k : Nat} {x : Int} (h : 24 ≤ k ∧ k ≤ 31) (hx : Bd x) : Bd (highV (k : Int) (cel (k : Int) x)) := by
  have h1 := (cel_in h hx).2.2
  have h2 : highV (k : Int) (cel (k : Int) x) ≤ 1073741824 := by unfold highV mn; split <;> omega
  unfold Bd at *; omega
theorem rjoin_cv {k : Nat} {a b c d : Int} {x1 y1 x2 y2 : Int} (h : 24 ≤ k ∧ k ≤ 31) (h1 : Bd x1) (h2 : Bd y1) (h3 : Bd x2) (h4 : Bd y2) : PCall Try.prog 76 [.agg [.int .i64 a, .int .i64 b, .int .i64 (highV (k : Int) (cel (k : Int) x1)), .int .i64 (highV (k : Int) (cel (k : Int) y1))], .agg [.int .i64 c, .int .i64 d, .int .i64 (highV (k : Int) (cel (k : Int) x2)), .int .i64 (highV (k : Int) (cel (k : Int) y2))]]
    (· = .agg [.int .i64 (mn a c), .int .i64 (mn b d), .int .i64 (mx (highV (k : Int) (cel (k : Int) x1)) (highV (k : Int) (cel (k : Int) x2))), .int .i64 (mx (highV (k : Int) (cel (k : Int) y1)) (highV (k : Int) (cel (k : Int) y2)))]) := by
  have := @rjoin_c a b (highV (k : Int) (cel (k : Int) x1)) (highV (k : Int) (cel (k : Int) y1)) c d (highV (k : Int) (cel (k : Int) x2)) (highV (k : Int) (cel (k : Int) y2))
  rwa [mor_eq (high_bd h h1) (high_bd h h3), mor_eq (high_bd h h2) (high_bd h h4), mn_comm c, mn_comm d] at this

section
attribute [local irreducible] awp aops DP PCall ACall Decidable.decide Nat.mod mayP mayR inR cel lowV highV cfarS inS
/-- `plover/ploverref01.Cover` -/
theorem rcover_c {k : Nat} {a b c d : Int} (hk : 24 ≤ k ∧ k ≤ 31) (hq : mayS (k : Int) = true) (hp : mayR a b c d = true) : PCall Try.prog 54 [.int .i64 ((k : Nat) : Int), .agg [.int .i64 a, .int .i64 b, .int .i64 c, .int .i64 d]] (· = rcV (cvV (k : Int) a b c d)) := by
  refine pcall_body Try.func54 rfl (by kernel_rfl) (by rfl) ?_
  refine awp_seq ?_
  refine awp_region ?_
  refine rb rfl rfl (?_)
  refine ra rfl rfl rfl (?_)
  refine rn ?_
  refine then_normal ?_
  refine awp_seq ?_
  refine awp_dp (m := 21) Try.mix (by kernel_rfl) (by kernel_rfl) (by kernel_rfl) (by kernel_rfl) (by kernel_rfl) (by kernel_rfl) (by kernel_rfl) ?_
  refine dv rfl rfl (fun _ => rfl) ?_
  refine dv rfl rfl (fun _ => rfl) ?_
  refine dv rfl rfl (fun _ => rfl) ?_
  refine dv rfl rfl (fun _ => rfl) ?_
  refine dc rfl rfl rfl rfl (fun _ => rfl) (fun _ => (rcell_c hk (mayP_iff.1 (mayR_1 hp).1).1)) ?_
  refine dv rfl rfl (fun _ => rfl) ?_
  refine dv rfl rfl (fun _ => rfl) ?_
  refine dv rfl rfl (fun _ => rfl) ?_
  refine dc rfl rfl rfl rfl (fun _ => rfl) (fun _ => (rcell_c hk (mayP_iff.1 (mayR_1 hp).1).2)) ?_
  refine dc rfl rfl rfl rfl (fun _ => rfl) (fun _ => (rbox_c' hk (in_cel hq (mayR_1 hp).1))) ?_
  refine dv rfl rfl (fun _ => rfl) ?_
  refine dv rfl rfl (fun _ => rfl) ?_
  refine dv rfl rfl (fun _ => rfl) ?_
  refine dv rfl rfl (fun _ => rfl) ?_
  refine dc rfl rfl rfl rfl (fun _ => rfl) (fun _ => (rcell_c hk (mayP_iff.1 (mayR_1 hp).2.1).1)) ?_
  refine dv rfl rfl (fun _ => rfl) ?_
  refine dv rfl rfl (fun _ => rfl) ?_
  refine dv rfl rfl (fun _ => rfl) ?_
  refine dc rfl rfl rfl rfl (fun _ => rfl) (fun _ => (rcell_c hk (mayP_iff.1 (mayR_1 hp).2.1).2)) ?_
  refine dc rfl rfl rfl rfl (fun _ => rfl) (fun _ => (rbox_c' hk (in_cel hq (mayR_1 hp).2.1))) ?_
  refine dc rfl rfl rfl rfl (fun _ => rfl) (fun _ => (rjoin_cv hk (mayP_iff.1 (mayR_1 hp).1).1 (mayP_iff.1 (mayR_1 hp).1).2 (mayP_iff.1 (mayR_1 hp).2.1).1 (mayP_iff.1 (mayR_1 hp).2.1).2)) ?_
  refine dn ?_
  refine rs rfl rfl rfl rfl rfl rfl rfl (?_)
  refine rn ?_
  refine then_normal ?_
  refine awp_ret ?_
  repeat (first | refine then_ret ?_ | refine inBlock_ret ?_)
  refine rr rfl rfl ?_
  first | rfl | trace_state
end

end Go.Proofs.Ytngeejjllgnpcaa
