/- Contracts, printed by a program of this session's. -/
import Derived.Test.YtngeejjllgnpcaaS04
namespace Go.Proofs.Ytngeejjllgnpcaa
open Go.Pv
set_option maxRecDepth 100000
set_option maxHeartbeats 4000000
set_option linter.unusedSimpArgs false
set_option linter.unusedVariables false
set_option linter.unusedSectionVars false

def cfar (n : Int) : Bool := decide (n < 0) || decide (n ≥ 2147483648)
def mayS (s : Int) : Bool := decide (s ≥ 24) && decide (s ≤ 31)
def sideV (s : Int) : Int := if mayS s then 2 ^ (31 - s).toNat + 1 else 0
theorem shifts {s : Int} (h : (!mayS s) = false) : s = 24 ∨ s = 25 ∨ s = 26 ∨ s = 27 ∨ s = 28 ∨ s = 29 ∨ s = 30 ∨ s = 31 := by
  simp [mayS] at h; omega
theorem side_lit {s : Int} (h : s = 24 ∨ s = 25 ∨ s = 26 ∨ s = 27 ∨ s = 28 ∨ s = 29 ∨ s = 30 ∨ s = 31) : AV.int .i64 (IntKind.i64.wrap (Int.fdiv 2147483648 (2 ^ min (Int.toNat s) IntKind.i64.bits) + 1)) = AV.int .i64 (sideV s) := by
  rcases h with rfl | rfl | rfl | rfl | rfl | rfl | rfl | rfl <;> exact congrArg (AV.int .i64) (by decide)
theorem side_no {s : Int} (h : (!mayS s) = true) : AV.int .i64 0 = AV.int .i64 (sideV s) := by
  have hm : mayS s = false := by simpa using h
  simp [sideV, hm]
def codN (c r : Nat) : Nat := spN c 31 ||| ((spN r 31) <<< 1)
theorem cfarN {c : Nat} (h : c < 2147483648) : cfar (c : Int) = false := by simp [cfar]; omega
theorem spB (c : Nat) : spN c 31 < 4611686018427387904 := spN_lt c 31
theorem or_cod {c r : Nat} : bits .or .u64 ((spN c 31 : Nat) : Int) (((spN r 31) <<< 1 : Nat) : Int) = ((codN c r : Nat) : Int) :=
  orN (Nat.lt_trans (spB c) (by decide)) (by have := spB r; rw [Nat.shiftLeft_eq]; omega)
theorem codN_in {c r : Nat} (hc : c < 2147483648) (hr : r < 2147483648) : codN c r = inN 31 c r := by
  refine Nat.eq_of_testBit_eq fun j => ?_
  rw [codN, Nat.testBit_or, spN_bit, Nat.testBit_shiftLeft, spN_bit, inN_bit]
  rcases Nat.mod_two_eq_zero_or_one j with h | h
  · have h1 : ¬ (j - 1) % 2 = 0 ∨ j = 0 := by omega
    rcases h1 with h1 | h1
    · simp [h, h1]
    · subst h1; simp
  · have h1 : (j - 1) % 2 = 0 := by omega
    have h2 : (j - 1) / 2 = j / 2 := by omega
    have h3 : j ≥ 1 := by omega
    have h4 : (j - 1 < 2 * 31) ↔ j < 2 * 31 := by omega
    simp [h, h1, h2, h3, h4]

section
attribute [local irreducible] awp aops DP PCall ACall Decidable.decide
/-- `plover/morton.may` -/
theorem mayS_c {s : Int} : PCall Try.prog 92 [.int .i64 s] (· = .bool (mayS s)) := by
  refine pcall_body Try.func92 rfl (by kernel_rfl) (by rfl) ?_
  refine awp_seq ?_
  refine awp_region ?_
  refine rv rfl rfl (?_)
  refine rn ?_
  refine then_normal ?_
  refine awp_seq ?_
  refine awp_region ?_
  refine rv rfl rfl (?_)
  refine rv rfl rfl (?_)
  refine rv rfl rfl (?_)
  (first | refine gy rfl rfl rfl (rv rfl rfl (?_)) | refine gn rfl rfl rfl rfl rfl ?_ | refine gu rfl rfl rfl rfl ?_ | refine gs rfl rfl rfl rfl rfl (fun hg => rv rfl rfl (?_)) (fun hg => ?_)) <;> (
  (first | refine gy rfl rfl rfl (rv rfl rfl (?_)) | refine gn rfl rfl rfl rfl rfl ?_ | refine gu rfl rfl rfl rfl ?_ | refine gs rfl rfl rfl rfl rfl (fun hg => rv rfl rfl (?_)) (fun hg => ?_)) <;> (
  refine rv rfl rfl (?_)
  refine rv rfl rfl (?_)
  refine rn ?_
  refine then_normal ?_
  refine awp_ret ?_
  repeat (first | refine then_ret ?_ | refine inBlock_ret ?_)
  refine rr rfl rfl ?_
  first | rfl | (simp [*]; done) | (simp [mayS]; done) | (simp [mayS, *]; done) | (simp_all [mayS]; done)))
end

section
attribute [local irreducible] awp aops DP PCall ACall Decidable.decide
/-- `plover/morton.Side` -/
theorem side_c {s : Int} : PCall Try.prog 109 [.int .i64 s] (· = .int .i64 (sideV s)) := by
  refine pcall_body Try.func109 rfl (by kernel_rfl) (by rfl) ?_
  refine awp_seq ?_
  refine awp_region ?_
  refine rv rfl rfl (?_)
  refine rn ?_
  refine then_normal ?_
  refine awp_seq ?_
  refine awp_seq ?_
  refine awp_region ?_
  refine rv rfl rfl (?_)
  refine rc1 rfl rfl rfl (mayS_c) (?_)
  refine rv rfl rfl (?_)
  refine rn ?_
  refine then_normal ?_
  refine cs_ rfl (fun hc => ?_) (fun hc => ?_)
  · first
    | (cases hc; done)
    | (
      refine awp_seq ?_
      refine awp_region ?_
      refine rv rfl rfl (?_)
      refine rn ?_
      refine then_normal ?_
      refine awp_ret ?_
      repeat (first | refine then_ret ?_ | refine inBlock_ret ?_)
      refine rr rfl rfl ?_
      first | exact side_no hc | exact side_lit (by simp))
  · first
    | (cases hc; done)
    | (
      refine awp_skip ?_
      refine then_normal ?_
      refine awp_seq ?_
      (rcases shifts hc with rfl | rfl | rfl | rfl | rfl | rfl | rfl | rfl) <;> (
      refine awp_region ?_
      refine rv rfl rfl (?_)
      refine rv rfl rfl (?_)
      refine rv rfl rfl (?_)
      refine rv rfl rfl (?_)
      refine rn ?_
      refine then_normal ?_
      refine awp_ret ?_
      repeat (first | refine then_ret ?_ | refine inBlock_ret ?_)
      refine rr rfl rfl ?_
      first | exact side_no hc | exact side_lit (by simp)))
end

section
attribute [local irreducible] awp aops DP PCall ACall Decidable.decide
/-- `plover/morton.Code$1` -/
theorem cfar_c {n : Int} : PCall Try.prog 93 [.int .i64 n] (· = .bool (cfar n)) := by
  refine pcall_body Try.func93 rfl (by kernel_rfl) (by rfl) ?_
  refine awp_seq ?_
  refine awp_region ?_
  refine rv rfl rfl (?_)
  refine rn ?_
  refine then_normal ?_
  refine awp_seq ?_
  refine awp_region ?_
  refine rv rfl rfl (?_)
  refine rv rfl rfl (?_)
  refine rv rfl rfl (?_)
  (first | refine gy rfl rfl rfl (rv rfl rfl (?_)) | refine gn rfl rfl rfl rfl rfl ?_ | refine gu rfl rfl rfl rfl ?_ | refine gs rfl rfl rfl rfl rfl (fun hg => rv rfl rfl (?_)) (fun hg => ?_)) <;> (
  (first | refine gy rfl rfl rfl (rv rfl rfl (?_)) | refine gn rfl rfl rfl rfl rfl ?_ | refine gu rfl rfl rfl rfl ?_ | refine gs rfl rfl rfl rfl rfl (fun hg => rv rfl rfl (?_)) (fun hg => ?_)) <;> (
  refine rv rfl rfl (?_)
  refine rv rfl rfl (?_)
  refine rn ?_
  refine then_normal ?_
  refine awp_ret ?_
  repeat (first | refine then_ret ?_ | refine inBlock_ret ?_)
  refine rr rfl rfl ?_
  first | rfl | (simp [*]; done) | (simp [cfar]; done) | (simp [cfar, *]; done) | (simp_all [cfar]; done)))
end

section
attribute [local irreducible] awp aops DP PCall ACall Decidable.decide
/-- `plover/morton.Code` -/
theorem code_no {c r : Int} (h : (cfar c || cfar r) = true) : PCall Try.prog 56 [.int .i64 c, .int .i64 r] (· = .tup [.int .u64 0, .iface 35 (.int .i64 1)]) := by
  refine pcall_body Try.func56 rfl (by kernel_rfl) (by rfl) ?_
  refine awp_seq ?_
  refine awp_region ?_
  refine rv rfl rfl (?_)
  refine rv rfl rfl (?_)
  refine rn ?_
  refine then_normal ?_
  refine awp_seq ?_
  refine awp_region ?_
  refine rv rfl rfl (?_)
  refine rn ?_
  refine then_normal ?_
  refine awp_seq ?_
  refine awp_seq ?_
  refine awp_region ?_
  refine rv rfl rfl (?_)
  refine rv rfl rfl (?_)
  refine rc1 rfl rfl rfl cfar_c (?_)
  refine rv rfl rfl (?_)
  (first | refine gy rfl rfl rfl (rv rfl rfl (?_)) | refine gn rfl rfl rfl rfl rfl ?_ | refine gu rfl rfl rfl rfl ?_ | refine gs rfl rfl rfl rfl rfl (fun hg => rv rfl rfl (?_)) (fun hg => ?_)) <;> (
  (first | refine gy rfl rfl rfl (rv rfl rfl (?_)) | refine gn rfl rfl rfl rfl rfl ?_ | refine gu rfl rfl rfl rfl ?_ | refine gs rfl rfl rfl rfl rfl (fun hg => rv rfl rfl (?_)) (fun hg => ?_)) <;> (
  (first | refine gy rfl rfl rfl (rc1 rfl rfl rfl cfar_c (?_)) | refine gn rfl rfl rfl rfl rfl ?_ | refine gu rfl rfl rfl rfl ?_ | refine gs rfl rfl rfl rfl rfl (fun hg => rc1 rfl rfl rfl cfar_c (?_)) (fun hg => ?_)) <;> (
  refine rv rfl rfl (?_)
  refine rn ?_
  refine then_normal ?_
  refine cs_ rfl (fun hc => ?_) (fun hc => ?_)
  · first
    | (cases hc; done)
    | (
      refine awp_seq ?_
      refine awp_region ?_
      refine rv rfl rfl (?_)
      refine rv rfl rfl (?_)
      refine rv rfl rfl (?_)
      refine rn ?_
      refine then_normal ?_
      refine awp_ret ?_
      repeat (first | refine then_ret ?_ | refine inBlock_ret ?_)
      refine rr rfl rfl ?_
      rfl)
  · first
    | (cases hc; done)
    | (
      refine awp_skip ?_
      refine then_normal ?_
      refine awp_seq ?_
      exfalso
      simp_all))))
end

section
attribute [local irreducible] awp aops DP PCall ACall Decidable.decide
/-- `plover/morton.Code` -/
theorem code_ok {c r : Nat} (hc' : c < 2147483648) (hr' : r < 2147483648) : PCall Try.prog 56 [.int .i64 ((c : Nat) : Int), .int .i64 ((r : Nat) : Int)] (· = .tup [.int .u64 ((codN c r : Nat) : Int), .nilI]) := by
  refine pcall_body Try.func56 rfl (by kernel_rfl) (by rfl) ?_
  refine awp_seq ?_
  refine awp_region ?_
  refine rv rfl rfl (?_)
  refine rv rfl rfl (?_)
  refine rn ?_
  refine then_normal ?_
  refine awp_seq ?_
  refine awp_region ?_
  refine rv rfl rfl (?_)
  refine rn ?_
  refine then_normal ?_
  refine awp_seq ?_
  refine awp_seq ?_
  refine awp_region ?_
  refine rv rfl rfl (?_)
  refine rv rfl rfl (?_)
  refine rc1 rfl rfl rfl cfar_c (?_)
  refine rv rfl rfl (?_)
  (first | refine gy rfl rfl rfl (rv rfl rfl (?_)) | refine gn rfl rfl rfl rfl rfl ?_ | refine gu rfl rfl rfl rfl ?_ | refine gs rfl rfl rfl rfl rfl (fun hg => rv rfl rfl (?_)) (fun hg => ?_)) <;> (
  (first | refine gy rfl rfl rfl (rv rfl rfl (?_)) | refine gn rfl rfl rfl rfl rfl ?_ | refine gu rfl rfl rfl rfl ?_ | refine gs rfl rfl rfl rfl rfl (fun hg => rv rfl rfl (?_)) (fun hg => ?_)) <;> (
  (first | refine gy rfl rfl rfl (rc1 rfl rfl rfl cfar_c (?_)) | refine gn rfl rfl rfl rfl rfl ?_ | refine gu rfl rfl rfl rfl ?_ | refine gs rfl rfl rfl rfl rfl (fun hg => rc1 rfl rfl rfl cfar_c (?_)) (fun hg => ?_)) <;> (
  refine rv rfl rfl (?_)
  refine rn ?_
  refine then_normal ?_
  refine cs_ rfl (fun hc => ?_) (fun hc => ?_)
  · first
    | (cases hc; done)
    | (
      refine awp_seq ?_
      exfalso
      first | (simp [cfarN hc'] at hg; done) | (simp [cfarN hr'] at hc; done))
  · first
    | (cases hc; done)
    | (
      refine awp_skip ?_
      refine then_normal ?_
      refine awp_seq ?_
      refine awp_region ?_
      refine rv rfl rfl (?_)
      refine rv' rfl (opv_eq rfl (wrap_u64 (by omega))) (?_)
      refine rc1 rfl rfl rfl (spread_c (by omega)) (?_)
      refine rv rfl rfl (?_)
      refine rv' rfl (opv_eq rfl (wrap_u64 (by omega))) (?_)
      refine rc1 rfl rfl rfl (spread_c (by omega)) (?_)
      refine rv' rfl (shlN (i := 1) rfl rfl (by omega) (by have := spB r; omega)) (?_)
      refine rv' rfl (opv_eq rfl or_cod) (?_)
      refine rv rfl rfl (?_)
      refine rv rfl rfl (?_)
      refine rn ?_
      refine then_normal ?_
      refine awp_ret ?_
      repeat (first | refine then_ret ?_ | refine inBlock_ret ?_)
      refine rr rfl rfl ?_
      rfl))))
end

end Go.Proofs.Ytngeejjllgnpcaa
