/- Numbers: when a wrap does nothing. -/
import Derived.Test.YtngeejjllgnpcaaPvL
import Derived.IntWalk
namespace Go.Pv

abbrev W (n : Int) : Int := IntKind.wrap .i64 n

theorem W_id {n : Int} (h : -9223372036854775808 ≤ n ∧ n < 9223372036854775808) : W n = n := by
  have e : (2 : Int) ^ IntKind.i64.bits = 18446744073709551616 := by decide
  have e' : (2 : Int) ^ (IntKind.i64.bits - 1) = 9223372036854775808 := by decide
  simp only [W, IntKind.wrap, e, e', IntKind.signed, Bool.true_and, decide_eq_true_eq]
  split <;> omega

def Bd (n : Int) : Prop := -1073741824 ≤ n ∧ n ≤ 1073741824

theorem W_sub {a b : Int} (ha : Bd a) (hb : Bd b) : W (a - b) = a - b := W_id (by unfold Bd at *; omega)
theorem W_add {a b : Int} (ha : Bd a) (hb : Bd b) : W (a + b) = a + b := W_id (by unfold Bd at *; omega)
theorem W_neg {a : Int} (ha : Bd a) : W (0 - a) = - a := by rw [W_id] <;> unfold Bd at * <;> omega

theorem mul_bd {a b A B : Int} (ha : -A ≤ a ∧ a ≤ A) (hb : -B ≤ b ∧ b ≤ B) : -(A * B) ≤ a * b ∧ a * b ≤ A * B := by
  have h1 : a.natAbs ≤ A.toNat := by omega
  have h2 : b.natAbs ≤ B.toNat := by omega
  have h3 : (a * b).natAbs ≤ A.toNat * B.toNat := by rw [Int.natAbs_mul]; exact Nat.mul_le_mul h1 h2
  have hA : (A.toNat : Int) = A := by omega
  have hB : (B.toNat : Int) = B := by omega
  have h4 : ((a * b).natAbs : Int) ≤ A * B := by
    have : (((a * b).natAbs : Nat) : Int) ≤ ((A.toNat * B.toNat : Nat) : Int) := by exact_mod_cast h3
    rw [Int.natCast_mul, hA, hB] at this
    exact this
  omega

theorem mul_dd {a b : Int} (ha : -2147483648 ≤ a ∧ a ≤ 2147483648) (hb : -2147483648 ≤ b ∧ b ≤ 2147483648) : -4611686018427387904 ≤ a * b ∧ a * b ≤ 4611686018427387904 := by
  have := mul_bd ha hb
  omega

end Go.Pv
