/- Contracts, printed by a program of this session's. -/
import Derived.Test.YtngeejjllgnpcaaS04f
namespace Go.Proofs.Ytngeejjllgnpcaa
open Go.Pv
set_option maxRecDepth 100000
set_option maxHeartbeats 4000000
set_option linter.unusedSimpArgs false
set_option linter.unusedVariables false
set_option linter.unusedSectionVars false

theorem cod_bit {c r : Nat} (hc : c < 2147483648) (hr : r < 2147483648) (j : Nat) : (codN c r).testBit j = (decide (j < 62) && (if j % 2 = 0 then c.testBit (j / 2) else r.testBit (j / 2))) := by
  rw [codN_in hc hr, inN_bit]
theorem bit_hi {c j : Nat} (hc : c < 2147483648) (h : 31 ≤ j) : c.testBit j = false :=
  Nat.testBit_lt_two_pow (Nat.lt_of_lt_of_le (show c < 2 ^ 31 from hc) (Nat.pow_le_pow_right (by omega) h))
theorem ga_cod {c r : Nat} (hc : c < 2147483648) (hr : r < 2147483648) : gaN (codN c r) 31 = c := by
  refine Nat.eq_of_testBit_eq fun j => ?_
  rw [gaN_bit, cod_bit hc hr]
  have e1 : 2 * j % 2 = 0 := by omega
  have e2 : 2 * j / 2 = j := by omega
  rw [e1, e2, if_pos rfl]
  by_cases h : j < 31
  · have : 2 * j < 62 := by omega
    simp [h, this]
  · rw [bit_hi hc (by omega)]; simp
theorem ga_cod1 {c r : Nat} (hc : c < 2147483648) (hr : r < 2147483648) : gaN (codN c r >>> 1) 31 = r := by
  refine Nat.eq_of_testBit_eq fun j => ?_
  rw [gaN_bit, Nat.testBit_shiftRight, cod_bit hc hr]
  have e1 : ¬ (1 + 2 * j) % 2 = 0 := by omega
  have e2 : (1 + 2 * j) / 2 = j := by omega
  rw [if_neg e1, e2]
  by_cases h : j < 31
  · have : 1 + 2 * j < 62 := by omega
    simp [h, this]
  · rw [bit_hi hr (by omega)]; simp
theorem cod_shr {a b c d i : Nat} (ha : a < 2147483648) (hb : b < 2147483648) (hc : c < 2147483648) (hd : d < 2147483648) :
    codN a b >>> (2 * i) = codN c d >>> (2 * i) ↔ a >>> i = c >>> i ∧ b >>> i = d >>> i := by
  constructor
  · intro h
    have hj : ∀ j, (codN a b).testBit (2 * i + j) = (codN c d).testBit (2 * i + j) := fun j => by
      have := congrArg (fun n => n.testBit j) h
      simpa [Nat.testBit_shiftRight] using this
    constructor
    · refine Nat.eq_of_testBit_eq fun j => ?_
      rw [Nat.testBit_shiftRight, Nat.testBit_shiftRight]
      by_cases h31 : i + j < 31
      · have := hj (2 * j)
        rw [cod_bit ha hb, cod_bit hc hd, show (2 * i + 2 * j) % 2 = 0 by omega, show (2 * i + 2 * j) / 2 = i + j by omega, if_pos rfl, if_pos rfl] at this
        simpa [show 2 * i + 2 * j < 62 by omega] using this
      · rw [bit_hi ha (by omega), bit_hi hc (by omega)]
    · refine Nat.eq_of_testBit_eq fun j => ?_
      rw [Nat.testBit_shiftRight, Nat.testBit_shiftRight]
      by_cases h31 : i + j < 31
      · have := hj (2 * j + 1)
        rw [cod_bit ha hb, cod_bit hc hd, if_neg (show ¬ (2 * i + (2 * j + 1)) % 2 = 0 by omega), if_neg (show ¬ (2 * i + (2 * j + 1)) % 2 = 0 by omega), show (2 * i + (2 * j + 1)) / 2 = i + j by omega] at this
        simpa [show 2 * i + (2 * j + 1) < 62 by omega] using this
      · rw [bit_hi hb (by omega), bit_hi hd (by omega)]
  · rintro ⟨h1, h2⟩
    refine Nat.eq_of_testBit_eq fun j => ?_
    rw [Nat.testBit_shiftRight, Nat.testBit_shiftRight, cod_bit ha hb, cod_bit hc hd]
    congr 1
    have e : (2 * i + j) / 2 = i + j / 2 := by omega
    rw [e]
    have k1 := congrArg (fun n => n.testBit (j / 2)) h1
    have k2 := congrArg (fun n => n.testBit (j / 2)) h2
    simp only [Nat.testBit_shiftRight] at k1 k2
    rw [k1, k2]
theorem cod_inj {a b c d : Nat} (ha : a < 2147483648) (hb : b < 2147483648) (hc : c < 2147483648) (hd : d < 2147483648) : codN a b = codN c d ↔ a = c ∧ b = d := by
  have := cod_shr (i := 0) ha hb hc hd
  simpa using this

theorem cel_lit {k : Nat} {x : Int} (h : 24 ≤ k ∧ k ≤ 31) (hx : Bd x) : cel (k : Int) x = (x + 1073741824) / twoK k := by
  have hb : Bd x := hx
  unfold Bd at hb
  have e : W (x + 1073741824) = x + 1073741824 := W_id (n := x + 1073741824) (by omega)
  have hm : min ((k : Int)).toNat 64 = k := by simp; omega
  unfold cel
  rw [e, hm]
  have ht : (2 : Int) ^ k = twoK k := by unfold twoK; push_cast; rfl
  rw [ht, Int.fdiv_eq_ediv_of_nonneg _ (by have := two_ge k; omega)]
theorem cel_in {k : Nat} {x : Int} (h : 24 ≤ k ∧ k ≤ 31) (hx : Bd x) : cfarS (k : Int) (cel (k : Int) x) = false ∧ lowV (k : Int) (cel (k : Int) x) ≤ x ∧ x ≤ highV (k : Int) (cel (k : Int) x) := by
  have hb : Bd x := hx
  unfold Bd at hb
  have hp := two_ge k
  rw [cel_lit h hx]
  have hq : (twoK k = 16777216 ∧ sideV (k : Int) = 129) ∨ (twoK k = 33554432 ∧ sideV (k : Int) = 65) ∨ (twoK k = 67108864 ∧ sideV (k : Int) = 33) ∨ (twoK k = 134217728 ∧ sideV (k : Int) = 17) ∨ (twoK k = 268435456 ∧ sideV (k : Int) = 9) ∨ (twoK k = 536870912 ∧ sideV (k : Int) = 5) ∨ (twoK k = 1073741824 ∧ sideV (k : Int) = 3) ∨ (twoK k = 2147483648 ∧ sideV (k : Int) = 2) := by
    rcases k8 h with rfl | rfl | rfl | rfl | rfl | rfl | rfl | rfl <;> decide
  have hz : ∃ z, (x + 1073741824) / twoK k = z ∧ 0 ≤ z ∧ z < sideV (k : Int) ∧ z * twoK k ≤ x + 1073741824 ∧ x + 1073741824 < z * twoK k + twoK k ∧ 0 ≤ z * twoK k ∧ twoK k ≤ 2147483648 := by
    rcases hq with ⟨e1, e2⟩ | ⟨e1, e2⟩ | ⟨e1, e2⟩ | ⟨e1, e2⟩ | ⟨e1, e2⟩ | ⟨e1, e2⟩ | ⟨e1, e2⟩ | ⟨e1, e2⟩ <;> rw [e1, e2] <;> exact ⟨_, rfl, by omega, by omega, by omega, by omega, by omega, by omega⟩
  obtain ⟨z, hz, h1, h2, h3, h4, h5, h6⟩ := hz
  rw [hz]
  have hf : cfarS (k : Int) z = false := by simp [cfarS]; omega
  refine ⟨hf, ?_, ?_⟩
  · rw [← low_eq h]
    unfold rlow
    rw [W_id (n := z * twoK k) (by omega), W_id (by omega)]; omega
  · rw [← high_eq h hf]
    unfold rhigh rlow
    generalize z * twoK k = u at *
    rw [W_id (n := u) (by omega), W_id (n := u - 1073741824) (by omega), W_id (n := u - 1073741824 + twoK k) (by omega), W_id (by omega)]
    unfold mn
    split <;> omega

def codeT (p : Bool) (c r : Int) : AV := match p with
  | true => .tup [.int .u64 0, .iface 35 (.int .i64 1)]
  | false => .tup [.int .u64 ((codN c.toNat r.toNat : Nat) : Int), .nilI]
theorem code_cb {c r : Int} {p : Bool} (h : (cfar c || cfar r) = p) : PCall Try.prog 56 [.int .i64 c, .int .i64 r] (· = codeT p c r) := by
  cases p with
  | true => exact code_no h
  | false =>
    simp only [Bool.or_eq_false_iff, cfar, decide_eq_false_iff_not] at h
    obtain ⟨c, rfl⟩ := Int.eq_ofNat_of_zero_le (a := c) (by omega)
    obtain ⟨r, rfl⟩ := Int.eq_ofNat_of_zero_le (a := r) (by omega)
    exact code_ok (by omega) (by omega)

theorem shrI {P : Program} [Tab P] {s : St} {t t2 : TypeId} {x y : Operand} {k' : IntKind} {m i : Nat} (hx : evs s x = .int .i64 (m : Int)) (hy : evs s y = .int k' (i : Int)) (hi : i ≤ 64) : opv P s (.binOp .shr t x y t2) = some (.int .i64 ((m >>> i : Nat) : Int)) := by
  rw [opv_shr hx hy (by omega)]
  have : min ((i : Int)).toNat (IntKind.bits .i64) = i := by simp [IntKind.bits]; omega
  rw [this, Int.fdiv_eq_ediv_of_nonneg _ (by exact_mod_cast Nat.zero_le _), Nat.shiftRight_eq_div_pow]
  push_cast
  rfl
theorem mul2 {i : Nat} (h : i ≤ 30) : IntKind.wrap .i64 (2 * (i : Int)) = ((2 * i : Nat) : Int) := two_mul (by omega)
theorem bcod (a b c d : Nat) (ha : a < 2147483648) (hb : b < 2147483648) (hc : c < 2147483648) (hd : d < 2147483648) (i : Nat) : 
    ((((codN a b : Nat) : Int) == ((codN c d : Nat) : Int)) = ((((a : Nat) : Int) == ((c : Nat) : Int)) && (((b : Nat) : Int) == ((d : Nat) : Int)))) ∧
    ((((codN a b >>> (2 * i) : Nat) : Int) == ((codN c d >>> (2 * i) : Nat) : Int)) = ((((a >>> i : Nat) : Int) == ((c >>> i : Nat) : Int)) && (((b >>> i : Nat) : Int) == ((d >>> i : Nat) : Int)))) := by
  constructor
  · rw [Bool.eq_iff_iff]
    simp only [beq_iff_eq, Bool.and_eq_true, Int.ofNat_inj, cod_inj ha hb hc hd]
  · rw [Bool.eq_iff_iff]
    simp only [beq_iff_eq, Bool.and_eq_true, Int.ofNat_inj, cod_shr ha hb hc hd]

end Go.Proofs.Ytngeejjllgnpcaa
