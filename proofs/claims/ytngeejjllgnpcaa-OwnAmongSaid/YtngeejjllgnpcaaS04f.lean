/- Contracts, printed by a program of this session's. -/
import Derived.Test.YtngeejjllgnpcaaS04e
namespace Go.Proofs.Ytngeejjllgnpcaa
open Go.Pv
set_option maxRecDepth 100000
set_option maxHeartbeats 4000000
set_option linter.unusedSimpArgs false
set_option linter.unusedVariables false
set_option linter.unusedSectionVars false

theorem opv_quo {P : Program} [Tab P] {s : St} {t t2 : TypeId} {x y : Operand} {k : IntKind} {a b : Int} (hx : evs s x = .int k a) (hy : evs s y = .int k b) (h0 : b ≠ 0) : opv P s (.binOp .quo t x y t2) = some (.int k (k.wrap (a.tdiv b))) := by
  simp only [opv, hx, hy, binv, isSh, Bool.false_eq_true, if_false, if_true, intv, if_neg h0]
theorem sub31 {k : Nat} (h : k ≤ 31) : IntKind.wrap .i64 (31 - (k : Int)) = ((31 - k : Nat) : Int) := by
  have := wrap_i64 (m := 31 - k) (by omega)
  rw [← this]; congr 1; omega
theorem k8 {k : Nat} (h : 24 ≤ k ∧ k ≤ 31) : k = 24 ∨ k = 25 ∨ k = 26 ∨ k = 27 ∨ k = 28 ∨ k = 29 ∨ k = 30 ∨ k = 31 := by omega
theorem side_two {k : Nat} (h : 24 ≤ k ∧ k ≤ 31) : IntKind.wrap .i64 (twoK (31 - k) + 1) = sideV (k : Int) := by
  rcases k8 h with rfl | rfl | rfl | rfl | rfl | rfl | rfl | rfl <;> decide
theorem two_ge (k : Nat) : 1 ≤ twoK k := by unfold twoK; have := Nat.two_pow_pos k; exact Int.ofNat_le.2 this
theorem two_pos (k : Nat) : twoK k ≠ 0 := by have := two_ge k; omega
theorem cel_two {k : Nat} {x : Int} (h : 24 ≤ k ∧ k ≤ 31) (hx : Bd x) : IntKind.wrap .i64 ((IntKind.wrap .i64 (x + 1073741824)).tdiv (twoK k)) = cel (k : Int) x := by
  have hb : Bd x := hx
  unfold Bd at hb
  have e : IntKind.wrap .i64 (x + 1073741824) = x + 1073741824 := W_id (n := x + 1073741824) (by omega)
  have hm : min ((k : Int)).toNat 64 = k := by simp; omega
  unfold cel W
  rw [e, hm]
  have ht : (2 : Int) ^ k = twoK k := by unfold twoK; push_cast; rfl
  rw [ht, Int.fdiv_eq_ediv_of_nonneg _ (by have := two_ge k; omega), Int.tdiv_eq_ediv_of_nonneg (by omega)]
  have hp := two_ge k
  have h1 : 0 ≤ (x + 1073741824) / twoK k := Int.ediv_nonneg (by omega) (by omega)
  have h2 : (x + 1073741824) / twoK k ≤ x + 1073741824 := Int.ediv_le_self _ (by omega)
  exact W_id (n := (x + 1073741824) / twoK k) (by omega)

section
attribute [local irreducible] awp aops DP PCall ACall Decidable.decide
/-- `plover/ploverref01.Shift` -/
theorem shift_c {s : Int} : PCall Try.prog 43 [.int .i64 s] (· = .bool (mayS s)) := by
  refine pcall_body Try.func43 rfl (by kernel_rfl) (by rfl) ?_
  refine awp_seq ?_
  refine awp_region ?_
  refine rv rfl rfl (?_)
  refine rn ?_
  refine then_normal ?_
  refine awp_seq ?_
  refine awp_region ?_
  refine rv rfl rfl (?_)
  refine rv rfl rfl (?_)
  refine rv rfl rfl (?_)
  (first | refine gy rfl rfl rfl (rv rfl rfl (?_)) | refine gn rfl rfl rfl rfl rfl ?_ | refine gu rfl rfl rfl rfl ?_ | refine gs rfl rfl rfl rfl rfl (fun hg => rv rfl rfl (?_)) (fun hg => ?_)) <;> (
  (first | refine gy rfl rfl rfl (rv rfl rfl (?_)) | refine gn rfl rfl rfl rfl rfl ?_ | refine gu rfl rfl rfl rfl ?_ | refine gs rfl rfl rfl rfl rfl (fun hg => rv rfl rfl (?_)) (fun hg => ?_)) <;> (
  refine rv rfl rfl (?_)
  refine rv rfl rfl (?_)
  refine rn ?_
  refine then_normal ?_
  refine awp_ret ?_
  repeat (first | refine then_ret ?_ | refine inBlock_ret ?_)
  refine rr rfl rfl ?_
  first | rfl | (simp [*]; done) | (simp [mayS]; done) | (simp [mayS, *]; done) | (simp_all [mayS]; done)))
end

section
attribute [local irreducible] awp aops DP PCall ACall Decidable.decide
/-- `plover/ploverref01.Side` -/
theorem rside_c {k : Nat} (hk : 24 ≤ k ∧ k ≤ 31) : PCall Try.prog 113 [.int .i64 ((k : Nat) : Int)] (· = .int .i64 (sideV (k : Int))) := by
  refine pcall_body Try.func113 rfl (by kernel_rfl) (by rfl) ?_
  refine awp_seq ?_
  refine awp_region ?_
  refine rv rfl rfl (?_)
  refine rn ?_
  refine then_normal ?_
  refine awp_seq ?_
  refine awp_region ?_
  refine rv rfl rfl (?_)
  refine rv' rfl (opv_eq rfl (sub31 hk.2)) (?_)
  refine rc1 rfl rfl rfl (two_c (by omega)) (?_)
  refine rv rfl rfl (?_)
  refine rv rfl rfl (?_)
  refine rn ?_
  refine then_normal ?_
  refine awp_ret ?_
  repeat (first | refine then_ret ?_ | refine inBlock_ret ?_)
  refine rr rfl rfl ?_
  exact ei (side_two hk)
end

section
attribute [local irreducible] awp aops DP PCall ACall Decidable.decide
/-- `plover/ploverref01.Cell` -/
theorem rcell_c {k : Nat} {x : Int} (hk : 24 ≤ k ∧ k ≤ 31) (hx : Bd x) : PCall Try.prog 88 [.int .i64 ((k : Nat) : Int), .int .i64 x] (· = .int .i64 (cel (k : Int) x)) := by
  refine pcall_body Try.func88 rfl (by kernel_rfl) (by rfl) ?_
  refine awp_seq ?_
  refine awp_region ?_
  refine rv rfl rfl (?_)
  refine rn ?_
  refine then_normal ?_
  refine awp_seq ?_
  refine awp_region ?_
  refine rv rfl rfl (?_)
  refine rv rfl rfl (?_)
  refine rv rfl rfl (?_)
  refine rc1 rfl rfl rfl (two_c (by omega)) (?_)
  refine rv' rfl (opv_quo rfl rfl (two_pos k)) (?_)
  refine rv rfl rfl (?_)
  refine rn ?_
  refine then_normal ?_
  refine awp_ret ?_
  repeat (first | refine then_ret ?_ | refine inBlock_ret ?_)
  refine rr rfl rfl ?_
  exact ei (cel_two hk hx)
end

theorem mnc (x y : Int) : mn x y = mn y x := by unfold mn; omega
def rlow (k : Nat) (c : Int) : Int := W (W (c * twoK k) - 1073741824)
def rhigh (k : Nat) (c : Int) : Int := mn 1073741824 (W (W (rlow k c + twoK k) - 1))
theorem low_eq {k : Nat} {c : Int} (h : 24 ≤ k ∧ k ≤ 31) : rlow k c = lowV (k : Int) c := by
  have hm : min ((k : Int)).toNat 64 = k := by simp; omega
  unfold rlow lowV
  rw [hm]
  have ht : (2 : Int) ^ k = twoK k := by unfold twoK; push_cast; rfl
  rw [ht]
theorem high_eq {k : Nat} {c : Int} (h : 24 ≤ k ∧ k ≤ 31) (hc : cfarS (k : Int) c = false) : rhigh k c = highV (k : Int) c := by
  have hs : 0 ≤ c ∧ c < sideV (k : Int) := by simp [cfarS] at hc; omega
  unfold rhigh highV
  rw [← low_eq h, mnc]
  congr 1
  unfold rlow
  have hb : sideV (k : Int) ≤ 129 := by rcases k8 h with rfl | rfl | rfl | rfl | rfl | rfl | rfl | rfl <;> decide
  have e1 : W (c + 1) = c + 1 := W_id (by omega)
  rw [e1]
  have hk : 1 ≤ twoK k ∧ twoK k ≤ 2147483648 := by rcases k8 h with rfl | rfl | rfl | rfl | rfl | rfl | rfl | rfl <;> decide
  have hp : 0 ≤ c * twoK k := Int.mul_nonneg hs.1 (by omega)
  have hq : c * twoK k ≤ 128 * 2147483648 := Int.mul_le_mul (by omega) hk.2 (by omega) (by omega)
  have e0 : (c + 1) * twoK k = c * twoK k + twoK k := by rw [Int.add_mul, Int.one_mul]
  rw [e0]
  generalize c * twoK k = z at *
  rw [W_id (n := z) (by omega), W_id (n := z + twoK k) (by omega), W_id (n := z - 1073741824) (by omega), W_id (n := z + twoK k - 1073741824) (by omega), W_id (n := z - 1073741824 + twoK k) (by omega), W_id (by omega), W_id (by omega)]
  omega

section
attribute [local irreducible] awp aops DP PCall ACall Decidable.decide
/-- `plover/ploverref01.Box` -/
theorem rbox_c {k : Nat} {c r : Int} (hk : 24 ≤ k ∧ k ≤ 31) : PCall Try.prog 91 [.int .i64 ((k : Nat) : Int), .int .i64 c, .int .i64 r] (· = .agg [.int .i64 (rlow k c), .int .i64 (rlow k r), .int .i64 (rhigh k c), .int .i64 (rhigh k r)]) := by
  refine pcall_body Try.func91 rfl (by kernel_rfl) (by rfl) ?_
  refine awp_seq ?_
  refine awp_region ?_
  refine ra rfl rfl rfl (?_)
  refine rn ?_
  refine then_normal ?_
  refine awp_seq ?_
  refine awp_region ?_
  refine rv rfl rfl (?_)
  refine rv rfl rfl (?_)
  refine rc1 rfl rfl rfl (two_c (by omega)) (?_)
  refine rv rfl rfl (?_)
  refine rv rfl rfl (?_)
  refine rv rfl rfl (?_)
  refine rn ?_
  refine then_normal ?_
  refine awp_seq ?_
  refine awp_region ?_
  refine rv rfl rfl (?_)
  refine rv rfl rfl (?_)
  refine rc1 rfl rfl rfl (two_c (by omega)) (?_)
  refine rv rfl rfl (?_)
  refine rv rfl rfl (?_)
  refine rv rfl rfl (?_)
  refine rn ?_
  refine then_normal ?_
  refine awp_seq ?_
  refine awp_region ?_
  refine rv rfl rfl (?_)
  refine rv rfl rfl (?_)
  refine rv rfl rfl (?_)
  refine rv rfl rfl (?_)
  refine rc1 rfl rfl rfl (two_c (by omega)) (?_)
  refine rv rfl rfl (?_)
  refine rv rfl rfl (?_)
  refine rc1 rfl rfl rfl rless_c (?_)
  refine rv rfl rfl (?_)
  refine rv rfl rfl (?_)
  refine rc1 rfl rfl rfl (two_c (by omega)) (?_)
  refine rv rfl rfl (?_)
  refine rv rfl rfl (?_)
  refine rc1 rfl rfl rfl rless_c (?_)
  refine rv rfl rfl (?_)
  refine rs rfl rfl rfl rfl rfl rfl rfl (?_)
  refine rn ?_
  refine then_normal ?_
  refine awp_ret ?_
  repeat (first | refine then_ret ?_ | refine inBlock_ret ?_)
  refine rr rfl rfl ?_
  rfl
end

theorem rbox_c' {k : Nat} {c r : Int} (hk : 24 ≤ k ∧ k ≤ 31) (h : inS (k : Int) c r = true) : PCall Try.prog 91 [.int .i64 ((k : Nat) : Int), .int .i64 c, .int .i64 r] (· = .agg [.int .i64 (lowV (k : Int) c), .int .i64 (lowV (k : Int) r), .int .i64 (highV (k : Int) c), .int .i64 (highV (k : Int) r)]) := by
  have h' : cfarS (k : Int) c = false ∧ cfarS (k : Int) r = false := by simpa [inS] using h
  have := @rbox_c k c r hk
  rwa [low_eq hk, low_eq hk, high_eq hk h'.1, high_eq hk h'.2] at this
theorem cell_cb {s x y : Int} {p q : Bool} (h : mayS s = p) (h' : mayP x y = q) : PCall Try.prog 55 [.int .i64 s, .agg [.int .i64 x, .int .i64 y]] (· = celT p q (cel s x) (cel s y)) := h ▸ h' ▸ cell_c
theorem box_cb {s c r : Int} {p : Bool} (h : inS s c r = p) : PCall Try.prog 86 [.int .i64 s, .int .i64 c, .int .i64 r] (· = boxT p s c r) := h ▸ box_c

end Go.Proofs.Ytngeejjllgnpcaa
