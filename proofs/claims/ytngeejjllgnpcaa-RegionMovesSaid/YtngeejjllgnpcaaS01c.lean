/- Contracts, printed by a program of this session's. -/
import Derived.Test.YtngeejjllgnpcaaS01b
namespace Go.Proofs.Ytngeejjllgnpcaa
open Go.Pv
set_option maxRecDepth 100000
set_option maxHeartbeats 4000000
set_option linter.unusedSimpArgs false
set_option linter.unusedVariables false
set_option linter.unusedSectionVars false

def detZ (a b c d x y : Int) : Int := (c - a) * (y - b) - (d - b) * (x - a)
def sgn (z : Int) : Int := if z < 0 then -1 else if 0 < z then 1 else 0
theorem turn_det {a b c d x y : Int} (h1 : mayP a b = true) (h2 : mayP c d = true) (h3 : mayP x y = true) : turnV a b c d x y = sgn (detZ a b c d x y) := by
  rw [mayP_iff] at h1 h2 h3
  obtain ⟨b1, b2⟩ := h1
  obtain ⟨b3, b4⟩ := h2
  obtain ⟨b5, b6⟩ := h3
  have m1 := mul_dd (a := c - a) (b := y - b) (by unfold Bd at *; omega) (by unfold Bd at *; omega)
  have m2 := mul_dd (a := d - b) (b := x - a) (by unfold Bd at *; omega) (by unfold Bd at *; omega)
  unfold turnV
  rw [W_sub b3 b1, W_sub b6 b2, W_sub b4 b2, W_sub b5 b1, W_id (by omega), W_id (by omega)]
  unfold sg sgn detZ
  split <;> split <;> first | rfl | omega | (split <;> split <;> first | rfl | omega) | (split <;> first | rfl | omega)
theorem sgn_neg (z : Int) : sgn (-z) = - sgn z := by unfold sgn; split <;> split <;> first | rfl | omega | (split <;> split <;> first | rfl | omega) | (split <;> first | rfl | omega)
theorem det_swap (a b c d x y : Int) : detZ c d a b x y = - detZ a b c d x y := by
  simp only [detZ, Int.sub_mul, Int.mul_sub, Int.mul_comm a, Int.mul_comm c, Int.mul_comm x]; omega
theorem det_rot (a b c d x y : Int) : detZ c d x y a b = detZ a b c d x y := by
  simp only [detZ, Int.sub_mul, Int.mul_sub, Int.mul_comm a, Int.mul_comm c, Int.mul_comm x]; omega
theorem det_self (a b c d : Int) : detZ a b c d a b = 0 := by
  simp only [detZ, Int.sub_self, Int.mul_zero]
theorem sgn_b (z : Int) : sgn z = -1 ∨ sgn z = 0 ∨ sgn z = 1 := by unfold sgn; split <;> first | omega | (split <;> omega)
theorem W_negT {z : Int} : W (0 - sgn z) = - sgn z := by rcases sgn_b z with h | h | h <;> rw [h] <;> decide
theorem btw_comm (x y n : Int) : btw y x n = btw x y n := by unfold btw; rw [mn_eq, mx_eq, mn_eq, mx_eq, Int.min_comm, Int.max_comm]
theorem btw_add (x y n p : Int) : btw (x + p) (y + p) (n + p) = btw x y n := by
  rw [Bool.eq_iff_iff]; simp only [btw, mn_eq, mx_eq, Bool.and_eq_true, decide_eq_true_eq]; omega
theorem btw_self (x y : Int) : btw x y x = true := by simp only [btw, mn_eq, mx_eq, Bool.and_eq_true, decide_eq_true_eq]; omega
section
variable {a b c d x y x' y' : Int}
theorem turn_swap (h1 : mayP a b = true) (h2 : mayP c d = true) (h3 : mayP x y = true) : turnV c d a b x y = - turnV a b c d x y := by
  rw [turn_det h1 h2 h3, turn_det h2 h1 h3, det_swap, sgn_neg]
theorem turn_rot (h1 : mayP a b = true) (h2 : mayP c d = true) (h3 : mayP x y = true) : turnV c d x y a b = turnV a b c d x y := by
  rw [turn_det h1 h2 h3, turn_det h2 h3 h1, det_rot]
theorem turn_self (h1 : mayP a b = true) (h2 : mayP c d = true) : turnV a b c d a b = 0 := by
  rw [turn_det h1 h2 h1, det_self]; rfl
theorem turn_negW (h1 : mayP a b = true) (h2 : mayP c d = true) (h3 : mayP x y = true) : W (0 - turnV a b c d x y) = - turnV a b c d x y := by
  rw [turn_det h1 h2 h3, W_negT]
theorem on_swap (h1 : mayP a b = true) (h2 : mayP c d = true) (h3 : mayP x y = true) : onV c d a b x y = onV a b c d x y := by
  unfold onV
  rw [turn_swap h1 h2 h3, btw_comm, btw_comm d]
  congr 2
  rw [decide_eq_decide]; omega
theorem on_self (h1 : mayP a b = true) (h2 : mayP c d = true) : onV a b c d a b = true := by
  unfold onV
  rw [turn_self h1 h2, btw_self, btw_self]; rfl
theorem cross_swap (h1 : mayP a b = true) (h2 : mayP c d = true) (h3 : mayP x y = true) (h4 : mayP x' y' = true) : crossV x y x' y' c d a b = crossV a b c d x y x' y' := by
  unfold crossV apartV
  rw [on_swap h1 h2 h3, on_swap h1 h2 h4, turn_swap h1 h2 h3, turn_swap h1 h2 h4, Int.neg_mul_neg, Int.mul_comm (turnV x y x' y' c d)]
  generalize onV x y x' y' c d = p, onV x y x' y' a b = q, onV a b c d x y = r, onV a b c d x' y' = s, decide (W (turnV a b c d x y * turnV a b c d x' y') < 0) = t, decide (W (turnV x y x' y' a b * turnV x y x' y' c d) < 0) = u
  cases p <;> cases q <;> cases r <;> cases s <;> cases t <;> cases u <;> rfl
theorem may_add (h : addB a b x y = true) : mayP a b = true ∧ mayP x y = true ∧ W (a + x) = a + x ∧ W (b + y) = b + y ∧ mayP (a + x) (b + y) = true := by
  simp only [addB, Bool.and_eq_true] at h
  obtain ⟨⟨h1, h2⟩, h3⟩ := h
  have k1 := mayP_iff.1 h1
  have k2 := mayP_iff.1 h2
  have e1 := W_add k1.1 k2.1
  have e2 := W_add k1.2 k2.2
  rw [e1, e2] at h3
  exact ⟨h1, h2, e1, e2, h3⟩
theorem turn_add {a b c d x y p q : Int} (h1 : addB a b p q = true) (h2 : addB c d p q = true) (h3 : addB x y p q = true) :
    turnV (W (a + p)) (W (b + q)) (W (c + p)) (W (d + q)) (W (x + p)) (W (y + q)) = turnV a b c d x y ∧ onV (W (a + p)) (W (b + q)) (W (c + p)) (W (d + q)) (W (x + p)) (W (y + q)) = onV a b c d x y := by
  obtain ⟨k1, _, e1, e2, m1⟩ := may_add h1
  obtain ⟨k2, _, e3, e4, m2⟩ := may_add h2
  obtain ⟨k3, _, e5, e6, m3⟩ := may_add h3
  have ht : turnV (a + p) (b + q) (c + p) (d + q) (x + p) (y + q) = turnV a b c d x y := by
    rw [turn_det k1 k2 k3, turn_det m1 m2 m3]
    congr 1
    unfold detZ
    rw [show c + p - (a + p) = c - a by omega, show y + q - (b + q) = y - b by omega, show d + q - (b + q) = d - b by omega, show x + p - (a + p) = x - a by omega]
  rw [e1, e2, e3, e4, e5, e6]
  refine ⟨ht, ?_⟩
  unfold onV
  rw [ht]
  rw [btw_add, btw_add]
theorem turns_all (h1 : (!mayP a b) = false) (h2 : (!mayP c d) = false) (h3 : (!mayP x y) = false) (h4 : (!mayP x' y') = false) :
    turnV c d a b x y = IntKind.i64.wrap (0 - turnV a b c d x y) ∧ turnV c d x y a b = turnV a b c d x y ∧ onV c d a b x y = onV a b c d x y ∧ onV a b c d a b = true ∧ crossV x y x' y' c d a b = crossV a b c d x y x' y' := by
  rw [Bool.not_eq_false'] at h1 h2 h3 h4
  exact ⟨by rw [turn_swap h1 h2 h3]; exact (turn_negW h1 h2 h3).symm, turn_rot h1 h2 h3, on_swap h1 h2 h3, on_self h1 h2, cross_swap h1 h2 h3 h4⟩
end

end Go.Proofs.Ytngeejjllgnpcaa
