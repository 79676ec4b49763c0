/- Contracts, printed by a program of this session's. -/
import Derived.Test.YtngeejjllgnpcaaS04b
namespace Go.Proofs.Ytngeejjllgnpcaa
open Go.Pv
set_option maxRecDepth 100000
set_option maxHeartbeats 4000000
set_option linter.unusedSimpArgs false
set_option linter.unusedVariables false
set_option linter.unusedSectionVars false

theorem cod31 : ((codN 3 1 : Nat) : Int) = 7 := by decide
theorem cfar_neg : (cfar (-1) || cfar 0) = true := by decide
theorem ga7 : ((gaN 7 31 : Nat) : Int) = 3 := by decide
theorem ga3 : ((gaN (7 >>> 1) 31 : Nat) : Int) = 1 := by decide
theorem ga3' : ((gaN 3 31 : Nat) : Int) = 1 := by decide
theorem side30 : sideV 30 = 3 := by decide
theorem inN_zero : ∀ k, inN k 0 0 = 0
  | 0 => rfl
  | k + 1 => by simp [inN, inN_zero k]
theorem inN_lt : ∀ k c r, inN k c r < 4 ^ k
  | 0, _, _ => by simp [inN]
  | k + 1, c, r => by
    have := inN_lt k (c / 2) (r / 2)
    rw [inN, Nat.pow_succ]; omega
theorem quo2 {c : Nat} (h : c < 9223372036854775808) : IntKind.wrap .i64 ((c : Int).tdiv 2) = ((c / 2 : Nat) : Int) := by
  have := wrap_i64 (m := c / 2) (by omega)
  rw [← this]; rfl
theorem rem2 {c : Nat} : (c : Int).tmod 2 = ((c % 2 : Nat) : Int) := rfl
theorem mulU {a b : Nat} (h : a * b < 18446744073709551616) : IntKind.wrap .u64 ((a : Int) * (b : Int)) = ((a * b : Nat) : Int) := by
  have := wrap_u64 h
  push_cast at this ⊢
  exact this
theorem addU {a b : Nat} (h : a + b < 18446744073709551616) : IntKind.wrap .u64 ((a : Int) + (b : Int)) = ((a + b : Nat) : Int) := by
  have := wrap_u64 h
  push_cast at this ⊢
  exact this
theorem in_bd {k c r : Nat} (hk : k ≤ 30) : inN k c r < 1152921504606846976 := Nat.lt_of_lt_of_le (inN_lt k c r) (Nat.le_trans (Nat.pow_le_pow_right (show 0 < 4 by omega) hk) (by decide))
theorem in_zero {k c r : Nat} (h : (((c : Nat) : Int) == 0) = true) (h' : (((r : Nat) : Int) == 0) = true) : AV.int .u64 0 = AV.int .u64 ((inN (k + 1) c r : Nat) : Int) := by
  have h1 : c = 0 := by simpa using h
  have h2 : r = 0 := by simpa using h'
  subst h1; subst h2
  rw [inN_zero]; rfl

section
attribute [local irreducible] awp aops DP PCall ACall Decidable.decide
/-- `plover/ploverref01.Code` -/
theorem rcode_zero : PCall Try.prog 89 [.int .i64 0, .int .i64 0] (· = .int .u64 0) := by
  refine pcall_body Try.func89 rfl (by kernel_rfl) (by rfl) ?_
  refine awp_seq ?_
  refine awp_region ?_
  refine rv rfl rfl (?_)
  refine rn ?_
  refine then_normal ?_
  refine awp_seq ?_
  refine awp_seq ?_
  refine awp_region ?_
  refine rv rfl rfl (?_)
  refine rv rfl rfl (?_)
  refine rv rfl rfl (?_)
  (first | refine gy rfl rfl rfl (rv rfl rfl (?_)) | refine gn rfl rfl rfl rfl rfl ?_ | refine gu rfl rfl rfl rfl ?_ | refine gs rfl rfl rfl rfl rfl (fun hg => rv rfl rfl (?_)) (fun hg => ?_)) <;> (
  (first | refine gy rfl rfl rfl (rv rfl rfl (?_)) | refine gn rfl rfl rfl rfl rfl ?_ | refine gu rfl rfl rfl rfl ?_ | refine gs rfl rfl rfl rfl rfl (fun hg => rv rfl rfl (?_)) (fun hg => ?_)) <;> (
  refine rv rfl rfl (?_)
  refine rn ?_
  refine then_normal ?_
  refine cs_ rfl (fun hc => ?_) (fun hc => ?_)
  · first
    | (cases hc; done)
    | (
      refine awp_seq ?_
      refine awp_region ?_
      refine rv rfl rfl (?_)
      refine rn ?_
      refine then_normal ?_
      refine awp_ret ?_
      repeat (first | refine then_ret ?_ | refine inBlock_ret ?_)
      refine rr rfl rfl ?_
      rfl)
  · first
    | (cases hc; done)
    | (
      refine awp_skip ?_
      refine then_normal ?_
      refine awp_seq ?_
      exfalso
      simp at *)))
end

section
attribute [local irreducible] awp aops DP PCall ACall Decidable.decide
/-- `plover/ploverref01.Code` -/
theorem rcode_step {k c r : Nat} (hk : k ≤ 30) (hc' : c < 2147483648) (hr' : r < 2147483648) (ih : PCall Try.prog 89 [.int .i64 ((c / 2 : Nat) : Int), .int .i64 ((r / 2 : Nat) : Int)] (· = .int .u64 ((inN k (c / 2) (r / 2) : Nat) : Int))) : PCall Try.prog 89 [.int .i64 ((c : Nat) : Int), .int .i64 ((r : Nat) : Int)] (· = .int .u64 ((inN (k + 1) c r : Nat) : Int)) := by
  refine pcall_body Try.func89 rfl (by kernel_rfl) (by rfl) ?_
  refine awp_seq ?_
  refine awp_region ?_
  refine rv rfl rfl (?_)
  refine rn ?_
  refine then_normal ?_
  refine awp_seq ?_
  refine awp_seq ?_
  refine awp_region ?_
  refine rv rfl rfl (?_)
  refine rv rfl rfl (?_)
  refine rv rfl rfl (?_)
  (first | refine gy rfl rfl rfl (rv rfl rfl (?_)) | refine gn rfl rfl rfl rfl rfl ?_ | refine gu rfl rfl rfl rfl ?_ | refine gs rfl rfl rfl rfl rfl (fun hg => rv rfl rfl (?_)) (fun hg => ?_)) <;> (
  (first | refine gy rfl rfl rfl (rv rfl rfl (?_)) | refine gn rfl rfl rfl rfl rfl ?_ | refine gu rfl rfl rfl rfl ?_ | refine gs rfl rfl rfl rfl rfl (fun hg => rv rfl rfl (?_)) (fun hg => ?_)) <;> (
  refine rv rfl rfl (?_)
  refine rn ?_
  refine then_normal ?_
  refine cs_ rfl (fun hc => ?_) (fun hc => ?_)
  · first
    | (cases hc; done)
    | (
      refine awp_seq ?_
      refine awp_region ?_
      refine rv rfl rfl (?_)
      refine rn ?_
      refine then_normal ?_
      refine awp_ret ?_
      repeat (first | refine then_ret ?_ | refine inBlock_ret ?_)
      refine rr rfl rfl ?_
      first | rfl | exact in_zero hg hc)
  · first
    | (cases hc; done)
    | (
      refine awp_skip ?_
      refine then_normal ?_
      refine awp_seq ?_
      (have hb := @in_bd k (c / 2) (r / 2) hk) <;> (
      refine awp_region ?_
      refine rv rfl rfl (?_)
      refine rv' rfl (opv_eq rfl (quo2 (by omega))) (?_)
      refine rv rfl rfl (?_)
      refine rv' rfl (opv_eq rfl (quo2 (by omega))) (?_)
      refine rc1 rfl rfl rfl ih (?_)
      refine rv' rfl (opv_eq rfl (mulU (a := 4) (by omega))) (?_)
      refine rv rfl rfl (?_)
      refine rv' rfl (opv_eq rfl rem2) (?_)
      refine rv' rfl (opv_eq rfl (wrap_u64 (by omega))) (?_)
      refine rv' rfl (opv_eq rfl (addU (by omega))) (?_)
      refine rv rfl rfl (?_)
      refine rv' rfl (opv_eq rfl rem2) (?_)
      refine rv' rfl (opv_eq rfl (wrap_u64 (by omega))) (?_)
      refine rv' rfl (opv_eq rfl (mulU (a := 2) (by omega))) (?_)
      refine rv' rfl (opv_eq rfl (addU (by omega))) (?_)
      refine rv rfl rfl (?_)
      refine rn ?_
      refine then_normal ?_
      refine awp_ret ?_
      repeat (first | refine then_ret ?_ | refine inBlock_ret ?_)
      refine rr rfl rfl ?_
      first | rfl | exact in_zero hg hc))))
end

theorem rcode_c : ∀ (k c r : Nat), k ≤ 31 → c < 2 ^ k → r < 2 ^ k → PCall Try.prog 89 [.int .i64 ((c : Nat) : Int), .int .i64 ((r : Nat) : Int)] (· = .int .u64 ((inN k c r : Nat) : Int))
  | 0, c, r, _, hc, hr => by
    have h1 : c = 0 := by simp at hc; omega
    have h2 : r = 0 := by simp at hr; omega
    subst h1; subst h2
    exact rcode_zero
  | k + 1, c, r, hk, hc, hr => by
    have hp : 2 ^ (k + 1) ≤ 2147483648 := Nat.pow_le_pow_right (show 0 < 2 by omega) (show k + 1 ≤ 31 by omega)
    rw [Nat.pow_succ] at hc hr hp
    exact rcode_step (by omega) (by omega) (by omega) (rcode_c k (c / 2) (r / 2) (by omega) (by omega) (by omega))
theorem codN_mod {m : Nat} : inN 31 (gaN m 31) (gaN (m >>> 1) 31) = m % 4611686018427387904 := by
  refine Nat.eq_of_testBit_eq fun j => ?_
  rw [inN_bit, gaN_bit, gaN_bit, show (4611686018427387904 : Nat) = 2 ^ 62 from rfl, Nat.testBit_mod_two_pow, Nat.testBit_shiftRight]
  rcases Nat.mod_two_eq_zero_or_one j with h | h
  · have e : 2 * (j / 2) = j := by omega
    simp only [h, if_true, e]
    by_cases hj : j < 62
    · simp [hj]; omega
    · simp [hj]
  · have e : 1 + 2 * (j / 2) = j := by omega
    simp only [h, e]
    by_cases hj : j < 62
    · simp [hj]; omega
    · simp [hj]

end Go.Proofs.Ytngeejjllgnpcaa
