/- Contracts, printed by a program of this session's. -/
import Derived.Test.YtngeejjllgnpcaaS02b
namespace Go.Proofs.Ytngeejjllgnpcaa
open Go.Pv
set_option maxRecDepth 100000
set_option maxHeartbeats 4000000
set_option linter.unusedSimpArgs false
set_option linter.unusedVariables false
set_option linter.unusedSectionVars false

theorem mn_comm (x y : Int) : mn x y = mn y x := by unfold mn; omega
theorem mx_comm (x y : Int) : mx x y = mx y x := by unfold mx; omega
section
variable {a b c d a' b' c' d' x y : Int} (h : mayR a b c d = true) (h' : mayR a' b' c' d' = true)
theorem holds_j1 : holdsR (mn a a') (mn b b') (mx c c') (mx d d') a b c d = true := by
  simp only [holdsR, mn_eq, mx_eq, Bool.and_eq_true, decide_eq_true_eq]; omega
theorem holds_j2 : holdsR (mn a a') (mn b b') (mx c c') (mx d d') a' b' c' d' = true := by
  simp only [holdsR, mn_eq, mx_eq, Bool.and_eq_true, decide_eq_true_eq]; omega
include h h'
theorem may_j : mayR (mn a a') (mn b b') (mx c c') (mx d d') = true := by
  rw [mayR_iff] at *
  simp only [BdR, Bd, mn_eq, mx_eq] at *; omega
omit h' in
theorem area_eq : areaR a b c d = (c - a) * (d - b) ∧ 0 ≤ (c - a) * (d - b) ∧ (c - a) * (d - b) ≤ 4611686018427387904 := by
  rw [mayR_iff] at h
  obtain ⟨⟨h1, h2, h3, h4⟩, h5, h6⟩ := h
  have hm := mul_dd (a := c - a) (b := d - b) (by unfold Bd at *; omega) (by unfold Bd at *; omega)
  have hp : 0 ≤ (c - a) * (d - b) := Int.mul_nonneg (by omega) (by omega)
  refine ⟨?_, hp, hm.2⟩
  unfold areaR
  rw [W_sub h3 h1, W_sub h4 h2, W_id (by omega)]
theorem grow_eq : growR a b c d a' b' c' d' = (mx c c' - mn a a') * (mx d d' - mn b b') - (c - a) * (d - b) := by
  have e1 := area_eq (may_j h h')
  have e2 := area_eq h
  unfold growR
  rw [e1.1, e2.1, W_id (by omega)]
theorem grow_nn : ¬ growR a b c d a' b' c' d' < 0 := by
  rw [grow_eq h h']
  have h1 : c - a ≤ mx c c' - mn a a' := by unfold mx mn; omega
  have h2 : d - b ≤ mx d d' - mn b b' := by unfold mx mn; omega
  rw [mayR_iff] at h
  have h3 : (c - a) * (d - b) ≤ (mx c c' - mn a a') * (mx d d' - mn b b') := Int.mul_le_mul h1 h2 (by omega) (by omega)
  omega
theorem holds_m1 (hm : meetB a b c d a' b' c' d' = true) : holdsR a b c d (mx a a') (mx b b') (mn c c') (mn d d') = true := by
  simp only [holdsR, mn_eq, mx_eq, Bool.and_eq_true, decide_eq_true_eq]; omega
theorem holds_m2 (hm : meetB a b c d a' b' c' d' = true) : holdsR a' b' c' d' (mx a a') (mx b b') (mn c c') (mn d d') = true := by
  simp only [holdsR, mn_eq, mx_eq, Bool.and_eq_true, decide_eq_true_eq]; omega
theorem may_m (hm : meetB a b c d a' b' c' d' = true) : mayR (mx a a') (mx b b') (mn c c') (mn d d') = true := by
  rw [mayR_iff] at *
  simp only [meetB, Bool.and_eq_true, decide_eq_true_eq] at hm
  simp only [BdR, Bd, mn_eq, mx_eq] at *; omega
omit h h' in
theorem in_both : (inR a b c d x y && inR a' b' c' d' x y) = (meetB a b c d a' b' c' d' && inR (mx a a') (mx b b') (mn c c') (mn d d') x y) := by
  rw [Bool.eq_iff_iff]
  simp only [inR, meetB, Bool.and_eq_true, decide_eq_true_eq, mn_eq, mx_eq]; omega
omit h h' in
theorem in_join (h1 : inR a b c d x y = true) : inR (mn a a') (mn b b') (mx c c') (mx d d') x y = true := by
  simp only [inR, Bool.and_eq_true, decide_eq_true_eq, mn_eq, mx_eq] at *; omega
end

end Go.Proofs.Ytngeejjllgnpcaa
