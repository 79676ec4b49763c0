/- Layer 18: owners. -/
import Derived.Test.YtngeejjllgnpcaaE18
namespace Go.Proofs.Ytngeejjllgnpcaa
open Go.Pv
set_option linter.unusedVariables false
set_option linter.unusedSimpArgs false
set_option maxRecDepth 10000

theorem inN_up : ∀ (k c r c' r' : Nat), c ≤ c' → r ≤ r' → c' < 2 ^ k → r' < 2 ^ k → (c < c' ∨ r < r') → inN k c r < inN k c' r'
  | 0, c, r, c', r', h1, h2, h3, h4, h5 => by simp at h3 h4; omega
  | k + 1, c, r, c', r', h1, h2, h3, h4, h5 => by
    rw [Nat.pow_succ] at h3 h4
    rw [inN, inN]
    by_cases hc : c / 2 < c' / 2 ∨ r / 2 < r' / 2
    · have := inN_up k (c / 2) (r / 2) (c' / 2) (r' / 2) (by omega) (by omega) (by omega) (by omega) hc
      omega
    · rw [show c / 2 = c' / 2 by omega, show r / 2 = r' / 2 by omega]
      omega
theorem cod_le {c r n : Nat} (hc : c ≤ n) (hr : r ≤ n) (hn : n ≤ 128) : codN c r ≤ codN n n := by
  rw [codN_in (by omega) (by omega), codN_in (by omega) (by omega)]
  by_cases h : c < n ∨ r < n
  · exact Nat.le_of_lt (inN_up 31 c r n n hc hr (by omega) (by omega) h)
  · rw [show c = n by omega, show r = n by omega]; exact Nat.le_refl _
/-- How many columns there are, less one, and the last number, of a shift that may be. -/
theorem side_n {k : Nat} (h : 24 ≤ k ∧ k ≤ 31) : ∃ n : Nat, 1 ≤ n ∧ n ≤ 128 ∧ sideV (k : Int) = ((n + 1 : Nat) : Int) ∧ codN n n ≤ 49152 ∧ ∀ x : Int, Bd x → celN k x ≤ n := by
  have key : ∀ n : Nat, (n : Int) * twoK k = 2147483648 → ∀ x : Int, Bd x → celN k x ≤ n := by
    intro n hn x hx
    have h1 := (cel_n h hx).2.2
    have hp := (show P8 (twoK k) from two_lit h)
    unfold Bd at hx
    have h2 := (Int.ediv_lt_iff_lt_mul (a := x + 1073741824) (b := (n : Int) + 1) hp.pos).2 (by have := hp.pos; rw [Int.add_mul, Int.one_mul, hn]; omega)
    omega
  rcases k8 h with rfl | rfl | rfl | rfl | rfl | rfl | rfl | rfl
  · exact ⟨128, by omega, by omega, by decide, by decide, key 128 (by decide)⟩
  · exact ⟨64, by omega, by omega, by decide, by decide, key 64 (by decide)⟩
  · exact ⟨32, by omega, by omega, by decide, by decide, key 32 (by decide)⟩
  · exact ⟨16, by omega, by omega, by decide, by decide, key 16 (by decide)⟩
  · exact ⟨8, by omega, by omega, by decide, by decide, key 8 (by decide)⟩
  · exact ⟨4, by omega, by omega, by decide, by decide, key 4 (by decide)⟩
  · exact ⟨2, by omega, by omega, by decide, by decide, key 2 (by decide)⟩
  · exact ⟨1, by omega, by omega, by decide, by decide, key 1 (by decide)⟩
/-- The owner of a number. -/
def owN (L b m : Nat) : Int := ((m * b / (L + 1) : Nat) : Int)
theorem ow_q {L b m : Nat} (hL : L ≤ 49152) (hb : b ≤ 64) (hm : m ≤ L) : ((quoV .u64 (IntKind.wrap .u64 ((m : Int) * (IntKind.wrap .u64 (b : Int)))) (IntKind.wrap .u64 ((L : Int) + 1))).bind fun q1 => some (W q1)) = some (owN L b m) := by
  have hmb : m * b ≤ 49152 * 64 := Nat.mul_le_mul (by omega) hb
  rw [show IntKind.wrap .u64 (b : Int) = (b : Int) from wrap_u64 (by omega), show ((m : Int) * (b : Int)) = ((m * b : Nat) : Int) by push_cast; rfl, show IntKind.wrap .u64 ((m * b : Nat) : Int) = ((m * b : Nat) : Int) from wrap_u64 (by omega), show ((L : Int) + 1) = ((L + 1 : Nat) : Int) by omega, show IntKind.wrap .u64 ((L + 1 : Nat) : Int) = ((L + 1 : Nat) : Int) from wrap_u64 (by omega)]
  unfold quoV
  rw [if_neg (by omega)]
  simp only [Option.bind_some]
  have h1 : (((m * b : Nat) : Int)).tdiv ((L + 1 : Nat) : Int) = ((m * b / (L + 1) : Nat) : Int) := rfl
  have hq : m * b / (L + 1) ≤ m * b := Nat.div_le_self _ _
  rw [h1, show IntKind.wrap .u64 ((m * b / (L + 1) : Nat) : Int) = ((m * b / (L + 1) : Nat) : Int) from wrap_u64 (by omega), W_nat (by omega)]
  rfl
theorem ow_lt {L b m : Nat} (hb : 1 ≤ b) (hm : m ≤ L) : 0 ≤ owN L b m ∧ owN L b m < b := by
  unfold owN
  have : m * b / (L + 1) < b := by
    rw [Nat.div_lt_iff_lt_mul (by omega)]
    have h1 : m * b ≤ L * b := Nat.mul_le_mul_right _ hm
    have h2 : b * (L + 1) = L * b + b := by rw [Nat.mul_add, Nat.mul_one, Nat.mul_comm]
    omega
  exact ⟨Int.natCast_nonneg _, by exact_mod_cast this⟩
theorem ow_mono {L b m m' : Nat} (h : m ≤ m') : owN L b m ≤ owN L b m' := by
  unfold owN
  have : m * b / (L + 1) ≤ m' * b / (L + 1) := Nat.div_le_div_right (Nat.mul_le_mul_right _ h)
  exact_mod_cast this
/-- What a shift that may be tells. -/
structure Sd (s : Int) (n L : Nat) : Prop where
  may : mayS s = true
  n1 : 1 ≤ n
  n2 : n ≤ 128
  side : sideV s = ((n + 1 : Nat) : Int)
  eL : L = codN n n
  L2 : L ≤ 49152
theorem sd_of {s : Int} (h : mayS s = true) : ∃ n L, Sd s n L ∧ ∀ x : Int, Bd x → (cel s x).toNat ≤ n := by
  obtain ⟨k, rfl, hk⟩ := may_k h
  obtain ⟨n, h1, h2, h3, h4, h5⟩ := side_n hk
  exact ⟨n, codN n n, ⟨h, h1, h2, h3, rfl, h4⟩, h5⟩
theorem of_yes {fu : Nat} {s : Int} {n L b m : Nat} (h : Sd s n L) (h1 : 1 ≤ b) (h2 : b ≤ 64) (hm : m ≤ L) : down_of fu s (b : Int) (m : Int) = some (owN L b m, none) := by
  unfold down_of dmorton_Side
  rw [h.side]
  simp only [Option.bind_some]
  have hn := h.n2
  rw [W_pre (by omega), code_code (by omega) (by omega), ← h.eL]
  simp only [Option.bind_some, Option.isSome_none, cond_false]
  rw [show decide ((b : Int) < 1) = false from decide_eq_false (by omega), show decide ((b : Int) > 64) = false from decide_eq_false (by omega)]
  simp only [cond_false, Option.bind_some]
  have := ow_q h.L2 h2 hm
  revert this
  cases quoV .u64 (IntKind.wrap .u64 ((m : Int) * (IntKind.wrap .u64 (b : Int)))) (IntKind.wrap .u64 ((L : Int) + 1)) with
  | none => intro h; cases h
  | some q => intro h; simp only [Option.bind_some] at h ⊢; rw [Option.some.inj h]
theorem of_no {fu : Nat} {s b x : Int} (h : mayS s = false ∨ b < 1 ∨ b > 64) : down_of fu s b x = some (0, some 1) := by
  unfold down_of dmorton_Side
  simp only [Option.bind_some]
  have key : ∀ e : Er, (bif e.isSome then some true else bif decide (b < 1) then some true else some (decide (b > 64)) : Option Bool) = some true ∨ (e = none ∧ mayS s = true → False) := by
    intro e
    cases e with
    | some _ => exact .inl rfl
    | none =>
      by_cases h1 : b < 1
      · left; rw [decide_eq_true h1]; rfl
      · by_cases h2 : b > 64
        · left; rw [decide_eq_false h1, decide_eq_true h2]; rfl
        · right; rintro ⟨_, hs⟩; rcases h with h | h | h
          · rw [h] at hs; cases hs
          · exact h1 h
          · exact h2 h
  cases hs : mayS s with
  | false =>
    have h0 : sideV s = 0 := by simp [sideV, hs]
    rw [h0]; rfl
  | true =>
    obtain ⟨n, L, sd, _⟩ := sd_of hs
    have hn := sd.n2
    rw [sd.side, W_pre (by omega), code_code (by omega) (by omega)]
    simp only [Option.bind_some, Option.isSome_none, cond_false]
    rcases key none with h3 | h3
    · simp only [Option.isSome_none, cond_false] at h3
      rw [h3]; rfl
    · exact absurd ⟨rfl, hs⟩ h3
theorem ref_own {fu : Nat} {s : Int} {n L b m : Nat} (h : Sd s n L) (h2 : b ≤ 64) (hm : m ≤ L) : dref15_Owner fu s (b : Int) (m : Int) = some (owN L b m) := by
  unfold dref15_Owner dref01_Side
  rw [h.may, cond_true, h.side]
  simp only [Option.bind_some]
  have hn := h.n2
  rw [W_pre (by omega), code_ref (by omega) (by omega), ← h.eL]
  simp only [Option.bind_some]
  exact ow_q h.L2 h2 hm
theorem Of_no {fu : Nat} {s b : Int} {p : tPoint} (h : mayS s = false ∨ b < 1 ∨ b > 64) : down_Of fu s b p = some (0, some 1) := by
  unfold down_Of
  rw [of_no h]; rfl
theorem Of_far {fu : Nat} {s : Int} {b : Nat} {p : tPoint} (hs : mayS s = true) (h1 : 1 ≤ b) (h2 : b ≤ 64) (hp : mayP p.X p.Y = false) : down_Of fu s (b : Int) p = some (0, some 11) := by
  obtain ⟨n, L, sd, _⟩ := sd_of hs
  unfold down_Of
  rw [show (0 : Int) = ((0 : Nat) : Int) from rfl, of_yes sd h1 h2 (Nat.zero_le _)]
  simp only [Option.bind_some, Option.isSome_none, cond_false, dmorton_Cell, hs, hp, clO, cond_true]
  rfl
theorem Of_yes {fu : Nat} {s : Int} {b : Nat} {p : tPoint} {n L : Nat} (sd : Sd s n L) (hn : ∀ x : Int, Bd x → (cel s x).toNat ≤ n) (h1 : 1 ≤ b) (h2 : b ≤ 64) (hp : mayP p.X p.Y = true) :
    down_Of fu s (b : Int) p = some (owN L b (codN (cel s p.X).toNat (cel s p.Y).toNat), none) ∧ dref15_Of fu s (b : Int) p = some (owN L b (codN (cel s p.X).toNat (cel s p.Y).toNat)) ∧ codN (cel s p.X).toNat (cel s p.Y).toNat ≤ L := by
  obtain ⟨hx, hy⟩ := mayP_iff.1 hp
  have hs := sd.may
  have hn2 := sd.n2
  have c1 := hn _ hx; have c2 := hn _ hy
  obtain ⟨k, hk, hkk⟩ := may_k hs
  have e1 : cel s p.X = (((cel s p.X).toNat : Nat) : Int) := by rw [hk]; have := (cel_n hkk hx).1; rw [this]; simp
  have e2 : cel s p.Y = (((cel s p.Y).toNat : Nat) : Int) := by rw [hk]; have := (cel_n hkk hy).1; rw [this]; simp
  have hle : codN (cel s p.X).toNat (cel s p.Y).toNat ≤ L := by rw [sd.eL]; exact cod_le c1 c2 hn2
  refine ⟨?_, ?_, hle⟩
  · unfold down_Of
    rw [show (0 : Int) = ((0 : Nat) : Int) from rfl, of_yes sd h1 h2 (Nat.zero_le _)]
    simp only [Option.bind_some, Option.isSome_none, cond_false, dmorton_Cell, hs, hp, clO, cond_true]
    rw [e1, e2, code_code (by simp; omega) (by simp; omega)]
    simp only [Option.bind_some, Option.isSome_none, cond_false, Int.toNat_natCast]
    rw [of_yes sd h1 h2 hle]; rfl
  · unfold dref15_Of
    rw [cell_ref hs hx e1, cell_ref hs hy e2]
    simp only [Option.bind_some]
    rw [code_ref (by omega) (by omega)]
    simp only [Option.bind_some]
    rw [ref_own sd h2 hle]; rfl
end Go.Proofs.Ytngeejjllgnpcaa
