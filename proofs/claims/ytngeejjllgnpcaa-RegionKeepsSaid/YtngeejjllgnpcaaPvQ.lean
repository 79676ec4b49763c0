/- Operations on words of 64 bits and on whole numbers that are not negative, in plain numbers. -/
import Derived.Test.YtngeejjllgnpcaaPvO
import Derived.Laws.Bits64b
namespace Go.Pv
set_option linter.unusedSimpArgs false
set_option linter.unusedSectionVars false
set_option linter.unusedVariables false
section
variable {P : Program} [Tab P] {s : St} {t t2 : TypeId} {x y : Operand} {k k' : IntKind} {op : Op}

theorem opv_eq {v v' : Int} (h : opv P s op = some (.int k v)) (e : v = v') : opv P s op = some (.int k v') := by rw [h, e]

theorem opv_shr {a b : Int} (hx : evs s x = .int k a) (hy : evs s y = .int k' b) (h0 : ¬ b < 0) : opv P s (.binOp .shr t x y t2) = some (.int k (a.fdiv (2 ^ min b.toNat k.bits))) := by
  simp only [opv, hx, hy, binv, isSh, if_true, shv, if_neg h0]

theorem opv_shl {a b : Int} (hx : evs s x = .int k a) (hy : evs s y = .int k' b) (h0 : ¬ b < 0) : opv P s (.binOp .shl t x y t2) = some (.int k (k.wrap (a * 2 ^ min b.toNat k.bits))) := by
  simp only [opv, hx, hy, binv, isSh, if_true, shv, if_neg h0]

theorem wrap_u64 {m : Nat} (h : m < 18446744073709551616) : IntKind.wrap .u64 (m : Int) = m := by
  unfold IntKind.wrap
  simp [IntKind.signed, IntKind.bits]
  omega

theorem shrN {m i : Nat} (hx : evs s x = .int .u64 (m : Int)) (hy : evs s y = .int k' (i : Int)) (hi : i ≤ 64) : opv P s (.binOp .shr t x y t2) = some (.int .u64 ((m >>> i : Nat) : Int)) := by
  rw [opv_shr hx hy (by omega)]
  have : min ((i : Int)).toNat (IntKind.bits .u64) = i := by simp [IntKind.bits]; omega
  rw [this, Int.fdiv_eq_ediv_of_nonneg _ (by exact_mod_cast Nat.zero_le _), Nat.shiftRight_eq_div_pow]
  push_cast
  rfl

theorem shlN {m i : Nat} (hx : evs s x = .int .u64 (m : Int)) (hy : evs s y = .int k' (i : Int)) (hi : i ≤ 64) (hm : m * 2 ^ i < 18446744073709551616) : opv P s (.binOp .shl t x y t2) = some (.int .u64 ((m <<< i : Nat) : Int)) := by
  rw [opv_shl hx hy (by omega)]
  have : min ((i : Int)).toNat (IntKind.bits .u64) = i := by simp [IntKind.bits]; omega
  have e := wrap_u64 hm
  push_cast at e
  rw [this, Nat.shiftLeft_eq]
  push_cast
  rw [e]

theorem andN {m n : Nat} (hm : m < 18446744073709551616) (hn : n < 18446744073709551616) : bits .and .u64 (m : Int) (n : Int) = ((m &&& n : Nat) : Int) := bits_and_u64_nat m n hm hn
theorem orN {m n : Nat} (hm : m < 18446744073709551616) (hn : n < 18446744073709551616) : bits .or .u64 (m : Int) (n : Int) = ((m ||| n : Nat) : Int) := bits_or_u64_nat m n hm hn
theorem wrap_i64 {m : Nat} (h : m < 9223372036854775808) : IntKind.wrap .i64 (m : Int) = m := by
  have := W_id (n := (m : Int)) (by omega)
  exact this
end

/-- Bits, one apart. -/
def spN (m : Nat) : Nat → Nat
  | 0 => 0
  | i + 1 => spN m i ||| (((m >>> i) &&& 1) <<< (2 * i))
/-- Every other bit. -/
def gaN (m : Nat) : Nat → Nat
  | 0 => 0
  | i + 1 => gaN m i ||| (((m >>> (2 * i)) &&& 1) <<< i)

theorem bit_le (m : Nat) : m &&& 1 ≤ 1 := Nat.and_le_right
theorem shl_lt {b i j : Nat} (hb : b ≤ 1) (h : i < j) : b <<< i < 2 ^ j := by
  rw [Nat.shiftLeft_eq]
  calc b * 2 ^ i ≤ 1 * 2 ^ i := Nat.mul_le_mul_right _ hb
    _ < 2 ^ j := by rw [Nat.one_mul]; exact Nat.pow_lt_pow_right (by omega) h
theorem spN_lt (m : Nat) : ∀ i, spN m i < 2 ^ (2 * i)
  | 0 => by simp [spN]
  | i + 1 => Nat.or_lt_two_pow (Nat.lt_of_lt_of_le (spN_lt m i) (Nat.pow_le_pow_right (by omega) (by omega))) (shl_lt (bit_le _) (by omega))
theorem gaN_lt (m : Nat) : ∀ i, gaN m i < 2 ^ i
  | 0 => by simp [gaN]
  | i + 1 => Nat.or_lt_two_pow (Nat.lt_of_lt_of_le (gaN_lt m i) (Nat.pow_le_pow_right (by omega) (by omega))) (shl_lt (bit_le _) (by omega))

theorem one_bit (m i : Nat) : ((m >>> i) &&& 1).testBit 0 = m.testBit i := by
  simp [Nat.testBit_shiftRight]
theorem one_bit' (b j : Nat) (hj : 0 < j) : (b &&& 1).testBit j = false := by
  rw [Nat.testBit_and, show Nat.testBit 1 j = false from Nat.testBit_lt_two_pow (Nat.one_lt_two_pow (by omega)), Bool.and_false]
theorem spN_bit (m : Nat) : ∀ i j, (spN m i).testBit j = (decide (j < 2 * i) && decide (j % 2 = 0) && m.testBit (j / 2))
  | 0, j => by simp [spN]
  | i + 1, j => by
    rw [spN, Nat.testBit_or, spN_bit m i j, Nat.testBit_shiftLeft]
    by_cases h : j < 2 * i
    · have h1 : ¬ j ≥ 2 * i := by omega
      have h2 : j < 2 * (i + 1) := by omega
      simp [h, h1, h2]
    · rcases Nat.lt_trichotomy j (2 * i) with h0 | h0 | h0
      · omega
      · subst h0
        have e : 2 * i / 2 = i := by omega
        simp [one_bit, e]
      · have e1 := one_bit' (m >>> i) (j - 2 * i) (by omega)
        rw [e1]
        by_cases h3 : j < 2 * (i + 1)
        · have : j = 2 * i + 1 := by omega
          subst this
          first | (simp; done) | (simp; omega)
        · first | (simp [h3]; done) | (simp [h3]; omega)
theorem gaN_bit (m : Nat) : ∀ i j, (gaN m i).testBit j = (decide (j < i) && m.testBit (2 * j))
  | 0, j => by simp [gaN]
  | i + 1, j => by
    rw [gaN, Nat.testBit_or, gaN_bit m i j, Nat.testBit_shiftLeft]
    rcases Nat.lt_trichotomy j i with h0 | h0 | h0
    · have h1 : ¬ j ≥ i := by omega
      have h2 : j < i + 1 := by omega
      simp [h0, h1, h2]
    · subst h0
      simp [one_bit]
    · have e1 := one_bit' (m >>> (2 * i)) (j - i) (by omega)
      rw [e1]
      have h1 : ¬ j < i := by omega
      have h2 : ¬ j < i + 1 := by omega
      simp [h1, h2]

/-- A cell's number by its definition, k halvings deep. -/
def inN : Nat → Nat → Nat → Nat
  | 0, _, _ => 0
  | k + 1, c, r => 4 * inN k (c / 2) (r / 2) + c % 2 + 2 * (r % 2)
theorem inN_bit : ∀ k c r j, (inN k c r).testBit j = (decide (j < 2 * k) && (if j % 2 = 0 then c.testBit (j / 2) else r.testBit (j / 2)))
  | 0, c, r, j => by simp [inN]
  | k + 1, c, r, j => by
    have ih := inN_bit k (c / 2) (r / 2)
    match j with
    | 0 =>
      simp [inN, Nat.testBit_zero]
      rcases Nat.mod_two_eq_zero_or_one c with h | h <;> simp [h] <;> omega
    | 1 =>
      rw [Nat.testBit_succ, inN]
      rw [show (4 * inN k (c / 2) (r / 2) + c % 2 + 2 * (r % 2)) / 2 = 2 * inN k (c / 2) (r / 2) + r % 2 by omega]
      simp [Nat.testBit_zero]
      omega
    | j + 2 =>
      rw [Nat.testBit_succ, Nat.testBit_succ, inN]
      rw [show (4 * inN k (c / 2) (r / 2) + c % 2 + 2 * (r % 2)) / 2 / 2 = inN k (c / 2) (r / 2) by omega, ih]
      rw [show (j + 2) % 2 = j % 2 by omega, show (j + 2) / 2 = j / 2 + 1 by omega, Nat.testBit_succ, Nat.testBit_succ]
      congr 1
      rw [decide_eq_decide]; omega
end Go.Pv
