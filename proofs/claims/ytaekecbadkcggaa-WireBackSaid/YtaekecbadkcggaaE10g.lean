/- Layer 10, plainly: what bytes are read as. -/
import Derived.Test.YtaekecbadkcggaaE10p
namespace Go.Proofs.Ytaekecbadkcggaa
open Go.Pv
set_option linter.unusedSimpArgs false
set_option linter.unusedVariables false
set_option linter.unusedSectionVars false

/-- A number, from its i-th byte on. -/
def rnG (most : Nat) : Nat → Nat → Str → (Nat × Str) ⊕ Int
  | _, _, [] => .inr 6
  | i, u, x :: b => if i = 9 ∧ 1 < x.toNat then .inr 7 else
    if x.toNat < 128 then (if (x.toNat = 0 ∧ 0 < i) ∨ most < u + x.toNat % 128 * 128 ^ i then .inr 7 else .inl (u + x.toNat % 128 * 128 ^ i, b))
    else rnG most (i + 1) (u + x.toNat % 128 * 128 ^ i) b
/-- How far it is read: what is left, or an error. -/
abbrev RS := Str ⊕ Int
def sNum (most : Nat) : RS → Nat × RS
  | .inl b => (match rnG most 0 0 b with | .inl (u, b') => (u, .inl b') | .inr c => (0, .inr c))
  | .inr c => (0, .inr c)
/-- The code's reader. -/
def CR (r : twirereader) : RS → Prop
  | .inl b => r = ⟨b, none⟩
  | .inr c => r.Err = some c
/-- The document's reader. -/
def QR (B : Str) (q : tref10R) : RS → Prop
  | .inl b => q.B = B ∧ q.Bad = 0 ∧ ∃ k : Nat, q.At = (k : Int) ∧ k ≤ B.length ∧ b = B.drop k
  | .inr c => q.B = B ∧ q.Bad = c ∧ c ≠ 0
theorem dfail (n : Nat) (r : twirereader) (b : Bool) (e : Er) : dwire_reader_fail n r b e = some (if b = true ∧ r.Err = none then ⟨r.B, e⟩ else r) := by
  unfold dwire_reader_fail
  cases b <;> cases h : r.Err <;> rfl
theorem p128 (i : Nat) : 128 ^ i = 2 ^ (7 * i) := by rw [Nat.pow_mul]
theorem p7 : ∀ {i : Nat}, i ≤ 9 → 128 ^ i ≤ 9223372036854775808 := fun {i} h => Nat.le_trans (Nat.pow_le_pow_right (by decide) h) (by decide)
theorem p7' : ∀ {i : Nat}, i ≤ 8 → 128 ^ i ≤ 72057594037927936 := fun {i} h => Nat.le_trans (Nat.pow_le_pow_right (by decide) h) (by decide)
theorem or_add {u q i : Nat} (hu : u < 128 ^ i) (hq : q * 128 ^ i < 18446744073709551616) (hi : i ≤ 9) : bits .or .u64 (u : Int) ((q * 128 ^ i : Nat) : Int) = ((u + q * 128 ^ i : Nat) : Int) := by
  have h9 := p7 hi
  have hu64 : u < 2 ^ 64 := by omega
  have h1 : (BitVec.ofInt 64 (u : Int)).toNat = u := by rw [BitVec.ofInt_natCast, BitVec.toNat_ofNat]; exact Nat.mod_eq_of_lt hu64
  have h2 : (BitVec.ofInt 64 ((q * 128 ^ i : Nat) : Int)).toNat = q * 128 ^ i := by rw [BitVec.ofInt_natCast, BitVec.toNat_ofNat]; exact Nat.mod_eq_of_lt (by omega)
  show IntKind.wrap .u64 ((BitVec.ofInt 64 (u : Int) ||| BitVec.ofInt 64 ((q * 128 ^ i : Nat) : Int)).toNat : Int) = _
  rw [BitVec.toNat_or, h1, h2]
  have h3 : u ||| q * 128 ^ i = u + q * 128 ^ i := by
    rw [p128, Nat.or_comm, ← Nat.shiftLeft_eq, ← Nat.shiftLeft_add_eq_or_of_lt (by rw [← p128]; exact hu)]; omega
  have h4 : u ||| q * 128 ^ i < 18446744073709551616 := Nat.or_lt_two_pow (n := 64) hu64 (by omega)
  rw [h3] at h4 ⊢
  exact wrap_u64 h4
theorem shl_mul {q i : Nat} (hq : q < 128) (hi : i ≤ 9) (h : q * 128 ^ i < 18446744073709551616) : shlO .u64 (IntKind.wrap .u64 (q : Int)) (W (7 * (i : Int))) = some ((q * 128 ^ i : Nat) : Int) := by
  have hw : W (7 * (i : Int)) = ((7 * i : Nat) : Int) := by rw [show 7 * (i : Int) = ((7 * i : Nat) : Int) by omega]; exact W_nat (by omega)
  rw [wrap_u64 (by omega), hw]
  unfold shlO shlV
  rw [if_neg (by omega)]
  have hb : min ((7 * i : Nat) : Int).toNat (IntKind.bits .u64) = 7 * i := by rw [Int.toNat_natCast]; exact Nat.min_eq_left (by show _ ≤ 64; omega)
  rw [hb]
  have : (q : Int) * 2 ^ (7 * i) = ((q * 128 ^ i : Nat) : Int) := by rw [p128]; push_cast; rfl
  rw [this, wrap_u64 h]
theorem gsl_tail {α : Type} (x : α) (t : List α) : gsl (x :: t) 1 ((x :: t).length : Int) = some t := gsl_from (x :: t) (i := 1) (by simp)
theorem rem128 (x : UInt8) : remV .u8 (x.toNat : Int) 128 = some ((x.toNat % 128 : Nat) : Int) := by unfold remV; rw [if_neg (by decide)]; rfl
theorem cn_loop {N : Nat} {most : Nat} (hm : most < 18446744073709551616) : ∀ (b : Str) (i u n : Nat), u < 128 ^ i → i ≤ 9 → b.length < n → ∃ o, loopD (ε := Int × Int × Str × Er) (τ := (Int × Str × Er) ⊕ (Int × twirereader)) (fun (((u1, i1, r2, r3)) : Int × Int × Str × Er) => (bif r3.isNone then (bif ((r2.length : Int) == 0) then some (Sum.inr (Sum.inr (0, (twirereader.mk r2 (some 6))))) else ((gi r2 0).bind fun x1 => (gsl r2 1 (r2.length : Int)).bind fun l1 => (bif (i1 == 9) then ((dwire_reader_fail N (twirereader.mk l1 r3) (decide ((x1.toNat : Int) > 1)) (some 7)).bind fun x2 => some (x2.B, x2.Err)) else ((dwire_reader_fail N (twirereader.mk l1 r3) false (some 7)).bind fun x3 => some (x3.B, x3.Err)) : Option (Str × Er)).bind fun (((r8, r9)) : Str × Er) => ((remV .u8 (x1.toNat : Int) 128).bind fun q1 => (shlO .u64 (IntKind.wrap .u64 q1) (W (7 * i1))).bind fun q2 => (some (bits .or .u64 u1 q2)).bind fun u4 => bif (decide ((x1.toNat : Int) < 128)) then ((bif ((x1.toNat : Int) == 0) then (bif (decide (i1 > 0)) then ((dwire_reader_fail N (twirereader.mk r8 r9) true (some 7)).bind fun x5 => some (x5.B, x5.Err)) else ((dwire_reader_fail N (twirereader.mk r8 r9) (decide (u4 > (most : Int))) (some 7)).bind fun x4 => some (x4.B, x4.Err))) else ((dwire_reader_fail N (twirereader.mk r8 r9) (decide (u4 > (most : Int))) (some 7)).bind fun x6 => some (x6.B, x6.Err)) : Option (Str × Er)).bind fun (((r10, r11)) : Str × Er) => some (Sum.inr (Sum.inl (u4, r10, r11)))) else some (Sum.inl (u4, W (i1 + 1), r8, r9))))) else some (Sum.inr (Sum.inl (u1, r2, r3))))) n ((u : Int), (i : Int), b, none) = some o ∧
    (match rnG most i u b with | .inl (v, b') => o = .inl ((v : Int), b', none) | .inr c => (∃ b', o = .inr (0, ⟨b', some c⟩)) ∨ ∃ v b', o = .inl (v, b', some c))
  | [], i, u, n, hu, hi, hn => by
    obtain ⟨n, rfl⟩ : ∃ j, n = j + 1 := ⟨n - 1, by omega⟩
    exact ⟨_, loopD_end (e := .inr (0, ⟨[], some 6⟩)) rfl, .inl ⟨[], rfl⟩⟩
  | x :: t, i, u, n, hu, hi, hn => by
    obtain ⟨n, rfl⟩ : ∃ j, n = j + 1 := ⟨n - 1, by omega⟩
    have hlen : (((x :: t).length : Int) == 0) = false := by simp; omega
    have hx := x.toNat_lt
    simp only [List.length_cons] at hn
    rw [rnG]
    by_cases h9 : i = 9 ∧ 1 < x.toNat
    · obtain ⟨rfl, h9⟩ := h9
      have hd : decide ((x.toNat : Int) > 1) = true := by simp; omega
      rw [if_pos ⟨rfl, h9⟩]
      obtain ⟨q2, hq2⟩ : ∃ q2, shlO .u64 (IntKind.wrap .u64 ((x.toNat % 128 : Nat) : Int)) (W (7 * ((9 : Nat) : Int))) = some q2 := ⟨_, rfl⟩
      by_cases h : x.toNat < 128
      · have hd2 : decide ((x.toNat : Int) < 128) = true := by simp; omega
        refine ⟨_, loopD_end (e := .inl (bits .or .u64 (u : Int) q2, t, some 7)) ?_, .inr ⟨_, _, rfl⟩⟩
        have hz : (((9 : Nat) : Int) == 9) = true := rfl
        have hne : ¬ (some (7 : Int) = none) := by simp
        simp only [Option.isNone_none, cond_true, hlen, cond_false, show gi (x :: t) 0 = some x from rfl, gsl_tail, Option.bind_some, hz, dfail, hd, hd2, true_and, if_true, rem128, hq2, hne, and_false, if_false]
        cases ((x.toNat : Int) == 0) <;> cases decide (((9 : Nat) : Int) > 0) <;> rfl
      · have hd2 : decide ((x.toNat : Int) < 128) = false := by simp; omega
        obtain ⟨n, rfl⟩ : ∃ j, n = j + 1 := ⟨n - 1, by omega⟩
        refine ⟨_, (loopD_go (s' := (bits .or .u64 (u : Int) q2, W (((9 : Nat) : Int) + 1), t, some 7)) ?_).trans (loopD_end (e := .inl (bits .or .u64 (u : Int) q2, t, some 7)) rfl), .inr ⟨_, _, rfl⟩⟩
        have hz : (((9 : Nat) : Int) == 9) = true := rfl
        simp only [Option.isNone_none, cond_true, hlen, cond_false, show gi (x :: t) 0 = some x from rfl, gsl_tail, Option.bind_some, hz, dfail, hd, hd2, true_and, if_true, rem128, hq2]
    · rw [if_neg h9]
      have h8 := @p7 i hi
      have hq : x.toNat % 128 * 128 ^ i < 18446744073709551616 := by
        by_cases hi9 : i = 9
        · subst hi9
          have : x.toNat % 128 ≤ 1 := by omega
          exact Nat.lt_of_le_of_lt (Nat.mul_le_mul_right _ this) (by decide)
        · have := @p7' i (by omega)
          have h127 : x.toNat % 128 ≤ 127 := by omega
          exact Nat.lt_of_le_of_lt (Nat.mul_le_mul h127 this) (by decide)
      have hf1 : (bif ((i : Int) == 9) then ((dwire_reader_fail N (twirereader.mk t none) (decide ((x.toNat : Int) > 1)) (some 7)).bind fun x2 => some (x2.B, x2.Err)) else ((dwire_reader_fail N (twirereader.mk t none) false (some 7)).bind fun x3 => some (x3.B, x3.Err)) : Option (Str × Er)) = some (t, none) := by
        by_cases hi9 : i = 9
        · have hz : ((i : Int) == 9) = true := by simp; omega
          have hd : decide ((x.toNat : Int) > 1) = false := by simp; omega
          rw [hz, hd]; rfl
        · have hz : ((i : Int) == 9) = false := by simp; omega
          rw [hz]; rfl
      have hor := or_add (q := x.toNat % 128) hu hq hi
      have hshl := shl_mul (q := x.toNat % 128) (i := i) (by omega) hi hq
      obtain ⟨v, hv⟩ : ∃ v, v = u + x.toNat % 128 * 128 ^ i := ⟨_, rfl⟩
      rw [← hv] at hor ⊢
      by_cases h : x.toNat < 128
      · have hd2 : decide ((x.toNat : Int) < 128) = true := by simp; omega
        rw [if_pos h]
        have hf2 : (bif ((x.toNat : Int) == 0) then (bif (decide ((i : Int) > 0)) then ((dwire_reader_fail N (twirereader.mk t none) true (some 7)).bind fun x5 => some (x5.B, x5.Err)) else ((dwire_reader_fail N (twirereader.mk t none) (decide ((v : Int) > (most : Int))) (some 7)).bind fun x4 => some (x4.B, x4.Err))) else ((dwire_reader_fail N (twirereader.mk t none) (decide ((v : Int) > (most : Int))) (some 7)).bind fun x6 => some (x6.B, x6.Err)) : Option (Str × Er))
            = some (t, if (x.toNat = 0 ∧ 0 < i) ∨ most < v then some 7 else none) := by
          have hcm : decide ((v : Int) > (most : Int)) = decide (most < v) := by rw [Bool.eq_iff_iff]; simp
          by_cases hx0 : x.toNat = 0
          · have hz : ((x.toNat : Int) == 0) = true := by simp [hx0]
            by_cases hi0 : 0 < i
            · have hz2 : decide ((i : Int) > 0) = true := by simp; omega
              rw [hz, hz2, if_pos (.inl ⟨hx0, hi0⟩)]; rfl
            · have hz2 : decide ((i : Int) > 0) = false := by simp; omega
              rw [hz, hz2, hcm]
              by_cases hm2 : most < v
              · rw [if_pos (.inr hm2), decide_eq_true hm2]; rfl
              · rw [if_neg (by omega), decide_eq_false hm2]; rfl
          · have hz : ((x.toNat : Int) == 0) = false := by simp; omega
            rw [hz, hcm]
            by_cases hm2 : most < v
            · rw [if_pos (.inr hm2), decide_eq_true hm2]; rfl
            · rw [if_neg (by omega), decide_eq_false hm2]; rfl
        refine ⟨_, loopD_end (e := .inl ((v : Int), t, if (x.toNat = 0 ∧ 0 < i) ∨ most < v then some 7 else none)) ?_, ?_⟩
        · simp only [Option.isNone_none, cond_true, hlen, cond_false, show gi (x :: t) 0 = some x from rfl, gsl_tail, Option.bind_some, hf1, rem128, hshl, hor, hd2, hf2]
        · split
          · rename_i heq
            split at heq
            · cases heq
            · rename_i hc
              cases heq
              rw [if_neg hc]
          · rename_i heq
            split at heq
            · rename_i hc
              cases heq
              exact .inr ⟨_, _, by rw [if_pos hc]⟩
            · cases heq
      · have hd2 : decide ((x.toNat : Int) < 128) = false := by simp; omega
        rw [if_neg h]
        have hi8 : i ≤ 8 := by omega
        have hu' : v < 128 ^ (i + 1) := by
          have h127 : x.toNat % 128 ≤ 127 := by omega
          have := Nat.mul_le_mul_right (128 ^ i) h127
          rw [hv, Nat.pow_succ]; omega
        obtain ⟨o, h1, h2⟩ := cn_loop (N := N) hm t (i + 1) v n hu' (by omega) (by omega)
        refine ⟨o, (loopD_go (s' := ((v : Int), ((i + 1 : Nat) : Int), t, none)) ?_).trans h1, h2⟩
        simp only [Option.isNone_none, cond_true, hlen, cond_false, show gi (x :: t) 0 = some x from rfl, gsl_tail, Option.bind_some, hf1, rem128, hshl, hor, hd2, W_suc (show i + 1 < 9223372036854775808 by omega)]
/-- How many bytes are left. -/
def RS.len : RS → Nat
  | .inl b => b.length
  | .inr _ => 0
theorem dNum {n : Nat} {r : twirereader} {s : RS} {most : Nat} (hr : CR r s) (hm : most < 18446744073709551616) (hn : RS.len s < n) : ∃ r', dwire_reader_number n r most = some (((sNum most s).1 : Int), r') ∧ CR r' (sNum most s).2 := by
  cases s with
  | inl b =>
    obtain rfl : r = ⟨b, none⟩ := hr
    obtain ⟨o, h1, h2⟩ := cn_loop (N := n) hm b 0 0 n (by simp) (by omega) hn
    unfold dwire_reader_number
    have h1' := fun (f : _ → Option (Int × twirereader)) => congrArg (fun o => Option.bind o f) h1
    simp only [sNum]
    cases hrn : rnG most 0 0 b with
    | inl p =>
      obtain ⟨v, b'⟩ := p
      rw [hrn] at h2
      simp only at h2
      subst h2
      exact ⟨⟨b', none⟩, (h1' _).trans rfl, rfl⟩
    | inr c =>
      rw [hrn] at h2
      simp only at h2
      rcases h2 with ⟨b', rfl⟩ | ⟨v, b', rfl⟩
      · exact ⟨⟨b', some c⟩, (h1' _).trans rfl, rfl⟩
      · exact ⟨⟨b', some c⟩, (h1' _).trans rfl, rfl⟩
  | inr c =>
    obtain ⟨b, e⟩ := r
    have he : e = some c := hr
    subst he
    obtain ⟨n, rfl⟩ : ∃ j, n = j + 1 := ⟨n - 1, by omega⟩
    unfold dwire_reader_number
    refine ⟨⟨b, some c⟩, (congrArg (fun o => Option.bind o _) (loopD_end (e := .inl (0, b, some c)) rfl)).trans rfl, rfl⟩
theorem rn_loop {B : Str} {most : Nat} (hm : most < 18446744073709551616) (hB : B.length ≤ 1000000) : ∀ (b : Str) (i u k n : Nat), b = B.drop k → k ≤ B.length → u < 128 ^ i → i ≤ 9 → b.length < n → ∃ o, loopD (ε := Int × Int × Int × Int) (τ := Int ⊕ (Int × tref10R)) (fun (((u1, p1, i1, r2)) : Int × Int × Int × Int) => (bif ((0 : Int) == 0) then (bif (r2 == (B.length : Int)) then some (Sum.inr (Sum.inr (0, (tref10R.mk B r2 6)))) else ((gi B r2).bind fun x2 => (bif (i1 == 9) then some (decide ((x2.toNat : Int) > 1)) else some false : Option Bool).bind fun (x3 : Bool) => (bif x3 then some (Sum.inr (Sum.inr (0, (tref10R.mk B (W (r2 + 1)) 7)))) else ((remV .u8 (x2.toNat : Int) 128).bind fun q1 => (some (IntKind.wrap .u64 (u1 + (IntKind.wrap .u64 (p1 * (IntKind.wrap .u64 q1)))))).bind fun u3 => (some (IntKind.wrap .u64 (p1 * 128))).bind fun p3 => bif (decide ((x2.toNat : Int) > 127)) then some (Sum.inl (u3, p3, W (i1 + 1), W (r2 + 1))) else ((bif ((x2.toNat : Int) == 0) then (bif (decide (i1 > 0)) then some true else some (decide (u3 > (most : Int)))) else some (decide (u3 > (most : Int))) : Option Bool).bind fun (x4 : Bool) => (bif x4 then some (Sum.inr (Sum.inr (0, (tref10R.mk B (W (r2 + 1)) 7)))) else some (Sum.inr (Sum.inr (u3, (tref10R.mk B (W (r2 + 1)) 0)))))))))) else some (Sum.inr (Sum.inl r2)))) n ((u : Int), ((128 ^ i : Nat) : Int), (i : Int), (k : Int)) = some o ∧
    ∃ k' : Nat, k' ≤ B.length ∧ (match rnG most i u b with | .inl (v, b') => o = .inr ((v : Int), ⟨B, (k' : Int), 0⟩) ∧ b' = B.drop k' | .inr c => o = .inr (0, ⟨B, (k' : Int), c⟩) ∧ c ≠ 0)
  | [], i, u, k, n, hb, hk, hu, hi, hn => by
    obtain ⟨n, rfl⟩ : ∃ j, n = j + 1 := ⟨n - 1, by omega⟩
    have hkB : k = B.length := by have := congrArg List.length hb; simp at this; omega
    have hd : ((k : Int) == (B.length : Int)) = true := by simp; omega
    exact ⟨_, loopD_end (e := .inr (0, ⟨B, (k : Int), 6⟩)) (by simp only [beq_self_eq_true, cond_true, hd]), k, hk, rfl, by decide⟩
  | x :: t, i, u, k, n, hb, hk, hu, hi, hn => by
    obtain ⟨n, rfl⟩ : ∃ j, n = j + 1 := ⟨n - 1, by omega⟩
    have hlb := congrArg List.length hb
    simp only [List.length_cons, List.length_drop] at hlb hn
    have hkB : k < B.length := by omega
    have hd : ((k : Int) == (B.length : Int)) = false := by simp; omega
    have hx2 : B[k] = x := by
      have := List.drop_eq_getElem_cons hkB
      rw [← hb] at this
      exact (List.cons.inj this).1.symm
    have ht : t = B.drop (k + 1) := by
      have := List.drop_eq_getElem_cons hkB
      rw [← hb] at this
      exact (List.cons.inj this).2
    have hx := x.toNat_lt
    have hWk : W ((k : Int) + 1) = ((k + 1 : Nat) : Int) := W_suc (by omega)
    rw [rnG]
    by_cases h9 : i = 9 ∧ 1 < x.toNat
    · obtain ⟨rfl, h9⟩ := h9
      have hd2 : decide ((x.toNat : Int) > 1) = true := by simp; omega
      have hz : (((9 : Nat) : Int) == 9) = true := rfl
      rw [if_pos ⟨rfl, h9⟩]
      exact ⟨_, loopD_end (e := .inr (0, ⟨B, ((k + 1 : Nat) : Int), 7⟩)) (by simp only [beq_self_eq_true, cond_true, cond_false, hd, gi_lt hkB, hx2, Option.bind_some, hz, hd2, hWk]), k + 1, hkB, rfl, by decide⟩
    · rw [if_neg h9]
      have h8 := @p7 i hi
      have hq : x.toNat % 128 * 128 ^ i < 18446744073709551616 ∧ u + x.toNat % 128 * 128 ^ i < 18446744073709551616 := by
        by_cases hi9 : i = 9
        · subst hi9
          have h1 : x.toNat % 128 ≤ 1 := by omega
          have := Nat.mul_le_mul_right (128 ^ 9) h1
          have h2 : 128 ^ 9 = 9223372036854775808 := by decide
          omega
        · have h7 := @p7' i (by omega)
          have h127 : x.toNat % 128 ≤ 127 := by omega
          have := Nat.mul_le_mul h127 h7
          omega
      have hf1 : (bif ((i : Int) == 9) then some (decide ((x.toNat : Int) > 1)) else some false : Option Bool) = some false := by
        by_cases hi9 : i = 9
        · have hz : ((i : Int) == 9) = true := by simp; omega
          have hd : decide ((x.toNat : Int) > 1) = false := by simp; omega
          rw [hz, hd]; rfl
        · have hz : ((i : Int) == 9) = false := by simp; omega
          rw [hz]; rfl
      have hu3 : IntKind.wrap .u64 ((u : Int) + (IntKind.wrap .u64 (((128 ^ i : Nat) : Int) * (IntKind.wrap .u64 ((x.toNat % 128 : Nat) : Int))))) = ((u + x.toNat % 128 * 128 ^ i : Nat) : Int) := by
        rw [wrap_u64 (show x.toNat % 128 < 18446744073709551616 by omega), show ((128 ^ i : Nat) : Int) * ((x.toNat % 128 : Nat) : Int) = ((x.toNat % 128 * 128 ^ i : Nat) : Int) by rw [Int.mul_comm]; exact (Int.natCast_mul _ _).symm,
          wrap_u64 hq.1, ← Int.natCast_add, wrap_u64 hq.2]
      obtain ⟨v, hv⟩ : ∃ v, v = u + x.toNat % 128 * 128 ^ i := ⟨_, rfl⟩
      rw [← hv] at hu3 ⊢
      obtain ⟨p3, hp3⟩ : ∃ p3, IntKind.wrap .u64 (((128 ^ i : Nat) : Int) * 128) = p3 := ⟨_, rfl⟩
      by_cases h : x.toNat < 128
      · have hd2 : decide ((x.toNat : Int) > 127) = false := by simp; omega
        rw [if_pos h]
        have hf2 : (bif ((x.toNat : Int) == 0) then (bif (decide ((i : Int) > 0)) then some true else some (decide ((v : Int) > (most : Int)))) else some (decide ((v : Int) > (most : Int))) : Option Bool) = some (decide ((x.toNat = 0 ∧ 0 < i) ∨ most < v)) := by
          have hcm : decide ((v : Int) > (most : Int)) = decide (most < v) := by rw [Bool.eq_iff_iff]; simp
          by_cases hx0 : x.toNat = 0
          · have hz : ((x.toNat : Int) == 0) = true := by simp [hx0]
            by_cases hi0 : 0 < i
            · have hz2 : decide ((i : Int) > 0) = true := by simp; omega
              rw [hz, hz2, decide_eq_true (.inl ⟨hx0, hi0⟩ : (x.toNat = 0 ∧ 0 < i) ∨ most < v)]; rfl
            · have hz2 : decide ((i : Int) > 0) = false := by simp; omega
              rw [hz, hz2, hcm]; simp only [cond_true, cond_false]; congr 1; rw [Bool.eq_iff_iff]; simp; omega
          · have hz : ((x.toNat : Int) == 0) = false := by simp; omega
            rw [hz, hcm]; simp only [cond_true, cond_false]; congr 1; rw [Bool.eq_iff_iff]; simp; omega
        by_cases hbad : (x.toNat = 0 ∧ 0 < i) ∨ most < v
        · rw [if_pos hbad]
          rw [decide_eq_true hbad] at hf2
          exact ⟨_, loopD_end (e := .inr (0, ⟨B, ((k + 1 : Nat) : Int), 7⟩)) (by simp only [beq_self_eq_true, cond_true, cond_false, hd, gi_lt hkB, hx2, Option.bind_some, hf1, rem128, hu3, hp3, hd2, hf2, hWk]), k + 1, hkB, rfl, by decide⟩
        · rw [if_neg hbad]
          rw [decide_eq_false hbad] at hf2
          exact ⟨_, loopD_end (e := .inr ((v : Int), ⟨B, ((k + 1 : Nat) : Int), 0⟩)) (by simp only [beq_self_eq_true, cond_true, cond_false, hd, gi_lt hkB, hx2, Option.bind_some, hf1, rem128, hu3, hp3, hd2, hf2, hWk]), k + 1, hkB, rfl, ht⟩
      · have hd2 : decide ((x.toNat : Int) > 127) = true := by simp; omega
        rw [if_neg h]
        have hi8 : i ≤ 8 := by omega
        have hu' : v < 128 ^ (i + 1) := by
          have h127 : x.toNat % 128 ≤ 127 := by omega
          have := Nat.mul_le_mul_right (128 ^ i) h127
          rw [hv, Nat.pow_succ]; omega
        have hp3' : p3 = ((128 ^ (i + 1) : Nat) : Int) := by
          have h8' := @p7 (i + 1) (by omega)
          rw [← hp3, show ((128 ^ i : Nat) : Int) * 128 = ((128 ^ (i + 1) : Nat) : Int) by rw [Nat.pow_succ]; exact (Int.natCast_mul _ _).symm]
          exact wrap_u64 (by omega)
        obtain ⟨o, h1, h2⟩ := rn_loop hm hB t (i + 1) v (k + 1) n ht hkB hu' (by omega) (by omega)
        refine ⟨o, (loopD_go (s' := ((v : Int), ((128 ^ (i + 1) : Nat) : Int), ((i + 1 : Nat) : Int), ((k + 1 : Nat) : Int))) ?_).trans h1, h2⟩
        simp only [beq_self_eq_true, cond_true, cond_false, hd, gi_lt hkB, hx2, Option.bind_some, hf1, rem128, hu3, hp3, hp3', hd2, hWk, W_suc (show i + 1 < 9223372036854775808 by omega)]
theorem drNum {n : Nat} {B : Str} {q : tref10R} {s : RS} {most : Nat} (hr : QR B q s) (hB : B.length ≤ 1000000) (hm : most < 18446744073709551616) (hn : RS.len s < n) : ∃ q', dref10_R_number n q most = some (((sNum most s).1 : Int), q') ∧ QR B q' (sNum most s).2 := by
  obtain ⟨qB, qA, qD⟩ := q
  cases s with
  | inl b =>
    obtain ⟨h1, h2, k, h3, hk, hb⟩ := hr
    simp only at h1 h2 h3
    subst h1 h2 h3
    obtain ⟨o, h1, k', hk', h2⟩ := rn_loop (B := qB) hm hB b 0 0 k n hb hk (by simp) (by omega) hn
    unfold dref10_R_number
    have h1' := fun (f : _ → Option (Int × tref10R)) => congrArg (fun o => Option.bind o f) h1
    simp only [sNum]
    cases hrn : rnG most 0 0 b with
    | inl p =>
      obtain ⟨v, b'⟩ := p
      rw [hrn] at h2
      obtain ⟨rfl, hb'⟩ := h2
      exact ⟨⟨qB, k', 0⟩, (h1' _).trans rfl, rfl, rfl, k', rfl, hk', hb'⟩
    | inr c =>
      rw [hrn] at h2
      obtain ⟨rfl, hc⟩ := h2
      exact ⟨⟨qB, k', c⟩, (h1' _).trans rfl, rfl, rfl, hc⟩
  | inr c =>
    obtain ⟨h1, h2, h3⟩ := hr
    simp only at h1 h2
    subst h1 h2
    obtain ⟨n, rfl⟩ : ∃ j, n = j + 1 := ⟨n - 1, by omega⟩
    have hz : (qD == 0) = false := by simpa using h3
    unfold dref10_R_number
    refine ⟨⟨qB, qA, qD⟩, (congrArg (fun o => Option.bind o _) (loopD_end (e := .inl qA) ?_)).trans rfl, rfl, rfl, h3⟩
    simp only [hz, cond_false]
/-! ### numbers that have a sign, texts -/
/-- What a number that was written stands for. -/
def unz (u : Nat) : Int := if u % 2 = 1 then -((u / 2 : Nat) : Int) - 1 else ((u / 2 : Nat) : Int)
def sSigned (s : RS) : Int × RS := (unz (sNum 18446744073709551615 s).1, (sNum 18446744073709551615 s).2)
def sText (most : Nat) (s : RS) : Str × RS := match sNum most s with
  | (u, .inl b) => if b.length < u then ([], .inr 6) else (b.take u, .inl (b.drop u))
  | (_, .inr c) => ([], .inr c)
theorem rnG_le {most : Nat} : ∀ (b : Str) (i u v : Nat) (b' : Str), rnG most i u b = .inl (v, b') → v ≤ most ∧ b'.length < b.length
  | [], _, _, _, _, h => by cases h
  | x :: t, i, u, v, b', h => by
    rw [rnG] at h
    split at h
    · cases h
    · split at h
      · split at h
        · cases h
        · rename_i hc; cases h; exact ⟨by omega, by simp⟩
      · have := rnG_le t _ _ _ _ h
        exact ⟨this.1, by simp; omega⟩
theorem sNum_le (most : Nat) (s : RS) : (sNum most s).1 ≤ most ∧ RS.len (sNum most s).2 ≤ RS.len s := by
  cases s with
  | inr c => exact ⟨Nat.zero_le _, Nat.le_refl _⟩
  | inl b =>
    simp only [sNum]
    cases h : rnG most 0 0 b with
    | inr c => exact ⟨Nat.zero_le _, Nat.zero_le _⟩
    | inl p => have := rnG_le b _ _ p.1 p.2 h; exact ⟨this.1, Nat.le_of_lt this.2⟩
theorem dInt {n : Nat} {r : twirereader} {s : RS} (hr : CR r s) (hn : RS.len s < n) : ∃ r', dwire_reader_int n r = some (((sNum 2147483647 s).1 : Int), r') ∧ CR r' (sNum 2147483647 s).2 := by
  obtain ⟨r', h1, h2⟩ := dNum (most := 2147483647) hr (by decide) hn
  refine ⟨r', ?_, h2⟩
  have h1' : dwire_reader_number n r 2147483647 = _ := h1
  have := (sNum_le 2147483647 s).1
  unfold dwire_reader_int
  rw [h1', Option.bind_some, W_nat (by omega)]
theorem drFewN {n : Nat} {B : Str} {q : tref10R} {s : RS} (hr : QR B q s) (hB : B.length ≤ 1000000) (hn : RS.len s < n) : ∃ q', dref10_R_few n q = some (((sNum 2147483647 s).1 : Int), q') ∧ QR B q' (sNum 2147483647 s).2 := by
  obtain ⟨r', h1, h2⟩ := drNum (most := 2147483647) hr hB (by decide) hn
  refine ⟨r', ?_, h2⟩
  have h1' : dref10_R_number n q 2147483647 = _ := h1
  have := (sNum_le 2147483647 s).1
  unfold dref10_R_few
  rw [h1', Option.bind_some, W_nat (by omega)]
theorem unz_code {u : Nat} (h : u < 18446744073709551616) : bits .xor .i64 (W (shrV .u64 (u : Int) 1)) (W (0 - (W (bits .and .u64 (u : Int) 1)))) = unz u := by
  have hs : shrV .u64 (u : Int) 1 = ((u / 2 : Nat) : Int) := by
    show Int.fdiv (u : Int) (2 ^ 1) = _
    rw [Int.fdiv_eq_ediv_of_nonneg _ (by decide)]; rfl
  have ha : bits .and .u64 (u : Int) 1 = ((u % 2 : Nat) : Int) := by
    have := andN (m := u) (n := 1) h (by decide)
    rw [Nat.and_one_is_mod] at this; exact this
  have hw : W ((u / 2 : Nat) : Int) = ((u / 2 : Nat) : Int) := W_nat (by omega)
  rw [hs, ha, hw, W_nat (show u % 2 < 9223372036854775808 by omega), W_id (n := 0 - ((u % 2 : Nat) : Int)) (by omega)]
  show IntKind.wrap .i64 ((BitVec.ofInt 64 _ ^^^ BitVec.ofInt 64 _).toNat : Int) = _
  unfold unz
  by_cases h1 : u % 2 = 1
  · have h3 : BitVec.ofInt 64 (0 - ((1 : Nat) : Int)) = BitVec.allOnes 64 := by decide
    rw [h1, h3, BitVec.xor_allOnes, BitVec.toNat_not, if_pos rfl, BitVec.ofInt_natCast, BitVec.toNat_ofNat]
    have hm : u / 2 % 2 ^ 64 = u / 2 := Nat.mod_eq_of_lt (by omega)
    rw [hm]
    have : ((2 ^ 64 - 1 - u / 2 : Nat) : Int) = -((u / 2 : Nat) : Int) - 1 + 18446744073709551616 := by omega
    rw [this]
    have e : IntKind.wrap .i64 (-((u / 2 : Nat) : Int) - 1 + 18446744073709551616) = W (-((u / 2 : Nat) : Int) - 1) := by
      unfold W IntKind.wrap
      have h64 : (2 : Int) ^ (IntKind.bits .i64) = 18446744073709551616 := by decide
      rw [h64, Int.add_emod_right]
    rw [e, W_id (by omega)]
  · have h0 : u % 2 = 0 := by omega
    have h3 : BitVec.ofInt 64 (0 - ((0 : Nat) : Int)) = 0#64 := by decide
    rw [h0, h3, BitVec.xor_zero, if_neg (by decide), BitVec.ofInt_natCast, BitVec.toNat_ofNat]
    have hm : u / 2 % 2 ^ 64 = u / 2 := Nat.mod_eq_of_lt (by omega)
    rw [hm]; exact wrap_i64 (by omega)
theorem dSigned {n : Nat} {r : twirereader} {s : RS} (hr : CR r s) (hn : RS.len s < n) : ∃ r', dwire_reader_signed n r = some ((sSigned s).1, r') ∧ CR r' (sSigned s).2 := by
  obtain ⟨r', h1, h2⟩ := dNum (most := 18446744073709551615) hr (by decide) hn
  refine ⟨r', ?_, h2⟩
  have h1' : dwire_reader_number n r 18446744073709551615 = _ := h1
  have := (sNum_le 18446744073709551615 s).1
  unfold dwire_reader_signed sSigned
  rw [h1', Option.bind_some]
  simp only [Option.bind_some, unz_code (u := (sNum 18446744073709551615 s).1) (by omega)]
theorem drSigned {n : Nat} {B : Str} {q : tref10R} {s : RS} (hr : QR B q s) (hB : B.length ≤ 1000000) (hn : RS.len s < n) : ∃ q', dref10_R_signed n q = some ((sSigned s).1, q') ∧ QR B q' (sSigned s).2 := by
  obtain ⟨r', h1, h2⟩ := drNum (most := 18446744073709551615) hr hB (by decide) hn
  refine ⟨r', ?_, h2⟩
  have h1' : dref10_R_number n q 18446744073709551615 = _ := h1
  have hle := (sNum_le 18446744073709551615 s).1
  unfold dref10_R_signed sSigned
  rw [h1', Option.bind_some]
  generalize (sNum 18446744073709551615 s).1 = u at *
  have hr2 : remV .u64 (u : Int) 2 = some ((u % 2 : Nat) : Int) := by unfold remV; rw [if_neg (by decide)]; rfl
  have hq2 : quoV .u64 (u : Int) 2 = some ((u / 2 : Nat) : Int) := by
    unfold quoV; rw [if_neg (by decide), show Int.tdiv (u : Int) 2 = ((u / 2 : Nat) : Int) from rfl, wrap_u64 (by omega)]
  have hw : W ((u / 2 : Nat) : Int) = ((u / 2 : Nat) : Int) := W_nat (by omega)
  unfold unz
  by_cases h : u % 2 = 1
  · have hz : (((u % 2 : Nat) : Int) == 1) = true := by simp; omega
    simp only [hr2, hq2, hz, cond_true, Option.bind_some, hw, if_pos h]
    rw [W_id (n := 0 - ((u / 2 : Nat) : Int)) (by omega), W_id (by omega)]
    simp
  · have hz : (((u % 2 : Nat) : Int) == 1) = false := by simp; omega
    simp only [hr2, hq2, hz, cond_false, Option.bind_some, hw, if_neg h]
theorem dText {n : Nat} {r : twirereader} {s : RS} {most : Nat} (hr : CR r s) (hm : most ≤ 1000) (hn : RS.len s < n) : ∃ r', dwire_reader_text n r most = some ((sText most s).1, r') ∧ CR r' (sText most s).2 := by
  obtain ⟨r1, h1, h2⟩ := dNum (most := most) hr (by omega) hn
  have hle := (sNum_le most s).1
  unfold dwire_reader_text sText
  rw [wrap_u64 (show most < 18446744073709551616 by omega), h1, Option.bind_some]
  cases hs : sNum most s with
  | mk u s1 =>
    rw [hs] at h2 hle
    simp only at h2 hle
    simp only [W_nat (show u < 9223372036854775808 by omega), dfail, Option.bind_some]
    cases s1 with
    | inr c =>
      have he : r1.Err = some c := h2
      have hne : ¬ (decide ((u : Int) > (r1.B.length : Int)) = true ∧ r1.Err = none) := by rw [he]; simp
      rw [if_neg hne]
      simp only [he, Option.isSome_some, cond_true]
      exact ⟨r1, rfl, he⟩
    | inl b =>
      obtain rfl : r1 = ⟨b, none⟩ := h2
      by_cases hb : b.length < u
      · have hd : decide ((u : Int) > (b.length : Int)) = true := by simp; omega
        simp only [hd, true_and, if_true, Option.isSome_some, cond_true, if_pos hb]
        exact ⟨⟨b, some 6⟩, rfl, rfl⟩
      · have hd : decide ((u : Int) > (b.length : Int)) = false := by simp; omega
        have g1 : gsl b 0 (u : Int) = some (b.take u) := by have := gsl_nat b (i := 0) (Nat.zero_le u) (by omega); simpa using this
        have g2 := gsl_from b (i := u) (by omega)
        simp only [hd, Bool.false_eq_true, false_and, if_false, Option.isSome_none, cond_false, g1, g2, Option.bind_some, if_neg hb]
        exact ⟨⟨b.drop u, none⟩, rfl, rfl⟩
theorem drTextN {n : Nat} {B : Str} {q : tref10R} {s : RS} {most : Nat} (hr : QR B q s) (hB : B.length ≤ 1000000) (hm : most ≤ 1000) (hn : RS.len s < n) : ∃ q', dref10_R_text n q most = some ((sText most s).1, q') ∧ QR B q' (sText most s).2 := by
  obtain ⟨r1, h1, h2⟩ := drNum (most := most) hr hB (by omega) hn
  have hle := (sNum_le most s).1
  unfold dref10_R_text sText
  rw [wrap_u64 (show most < 18446744073709551616 by omega), h1, Option.bind_some]
  obtain ⟨qB, qA, qD⟩ := r1
  cases hs : sNum most s with
  | mk u s1 =>
    rw [hs] at h2 hle
    simp only at h2 hle
    simp only [W_nat (show u < 9223372036854775808 by omega)]
    cases s1 with
    | inr c =>
      obtain ⟨e1, e2, e3⟩ := h2
      simp only at e1 e2
      subst e1 e2
      have hz : (qD == 0) = false := by simpa using e3
      have hz2 : (qD != 0) = true := by simpa using e3
      simp only [hz, hz2, cond_true, cond_false, Option.bind_some]
      exact ⟨⟨qB, qA, qD⟩, rfl, rfl, rfl, e3⟩
    | inl b =>
      obtain ⟨e1, e2, k, e3, hk, hb⟩ := h2
      simp only at e1 e2 e3
      subst e1 e2 e3
      have hw : W ((qB.length : Int) - (k : Int)) = ((qB.length - k : Nat) : Int) := by rw [show (qB.length : Int) - (k : Int) = ((qB.length - k : Nat) : Int) by omega]; exact W_nat (by omega)
      have hbl : b.length = qB.length - k := by rw [hb]; simp
      by_cases hlt : b.length < u
      · have hd : decide ((u : Int) > ((qB.length - k : Nat) : Int)) = true := by simp; omega
        have h6 : ((6 : Int) != 0) = true := rfl
        simp only [beq_self_eq_true, cond_true, hw, hd, Option.bind_some, h6, if_pos hlt]
        exact ⟨⟨qB, k, 6⟩, rfl, rfl, rfl, by decide⟩
      · have hd : decide ((u : Int) > ((qB.length - k : Nat) : Int)) = false := by simp; omega
        have h0 : ((0 : Int) != 0) = false := rfl
        have hw2 : W ((k : Int) + (u : Int)) = ((k + u : Nat) : Int) := by rw [show (k : Int) + (u : Int) = ((k + u : Nat) : Int) by omega]; exact W_nat (by omega)
        have hw3 : W (((k + u : Nat) : Int) - (u : Int)) = (k : Int) := by rw [show ((k + u : Nat) : Int) - (u : Int) = ((k : Nat) : Int) by omega]; exact W_nat (by omega)
        have g1 := gsl_nat qB (i := k) (j := k + u) (by omega) (by omega)
        simp only [beq_self_eq_true, cond_true, hw, hd, Option.bind_some, h0, cond_false, hw2, hw3, g1, if_neg hlt]
        refine ⟨⟨qB, ((k + u : Nat) : Int), 0⟩, ?_, rfl, rfl, k + u, rfl, by omega, ?_⟩
        · have : (qB.take (k + u)).drop k = b.take u := by rw [hb, List.drop_take]; congr 1; omega
          rw [this]
        · rw [hb, List.drop_drop]
theorem sText_le (most : Nat) (s : RS) : RS.len (sText most s).2 ≤ RS.len s := by
  have h := (sNum_le most s).2
  unfold sText
  cases hs : sNum most s with
  | mk u s1 =>
    rw [hs] at h
    cases s1 with
    | inr c => exact Nat.zero_le _
    | inl b =>
      simp only
      split
      · exact Nat.zero_le _
      · simp only [RS.len, List.length_drop] at *; omega
theorem sSigned_le (s : RS) : RS.len (sSigned s).2 ≤ RS.len s := (sNum_le _ s).2
/-! ### attributes, events -/
def sAttr (s : RS) : tAttr × RS :=
  if (sNum 1 (sText 200 s).2).1 = 1 then (⟨(sText 200 s).1, true, 0, (sText 200 (sNum 1 (sText 200 s).2).2).1⟩, (sText 200 (sNum 1 (sText 200 s).2).2).2)
  else (⟨(sText 200 s).1, false, (sSigned (sNum 1 (sText 200 s).2).2).1, []⟩, (sSigned (sNum 1 (sText 200 s).2).2).2)
theorem sAttr_le (s : RS) : RS.len (sAttr s).2 ≤ RS.len s := by
  have h1 := sText_le 200 s
  have h2 := (sNum_le 1 (sText 200 s).2).2
  have h3 := sText_le 200 (sNum 1 (sText 200 s).2).2
  have h4 := sSigned_le (sNum 1 (sText 200 s).2).2
  unfold sAttr; split <;> simp only <;> omega
theorem sAttr_bad (c : Int) : (sAttr (.inr c)).2 = .inr c := rfl
theorem dAttr {n : Nat} {r : twirereader} {s : RS} (hr : CR r s) (hn : RS.len s < n) : ∃ r', dwire_reader_attr n r = some ((sAttr s).1, r') ∧ CR r' (sAttr s).2 := by
  have l1 := sText_le 200 s
  have l2 := (sNum_le 1 (sText 200 s).2).2
  obtain ⟨r1, h1, c1⟩ := dText (most := 200) hr (by decide) hn
  obtain ⟨r2, h2, c2⟩ := dNum (most := 1) c1 (by decide) (by omega : RS.len _ < n)
  have h1' : dwire_reader_text n r 200 = _ := h1
  have h2' : dwire_reader_number n r1 1 = _ := h2
  unfold dwire_reader_attr sAttr
  rw [h1', Option.bind_some]
  simp only [h2', Option.bind_some]
  by_cases h : (sNum 1 (sText 200 s).2).1 = 1
  · have hz : ((((sNum 1 (sText 200 s).2).1 : Nat) : Int) == 1) = true := by simp; omega
    obtain ⟨r3, h3, c3⟩ := dText (most := 200) c2 (by decide) (by omega : RS.len _ < n)
    have h3' : dwire_reader_text n r2 200 = _ := h3
    simp only [hz, cond_true, h3', Option.bind_some, if_pos h]
    exact ⟨r3, rfl, c3⟩
  · have hz : ((((sNum 1 (sText 200 s).2).1 : Nat) : Int) == 1) = false := by simp; omega
    obtain ⟨r3, h3, c3⟩ := dSigned c2 (by omega : RS.len _ < n)
    simp only [hz, cond_false, h3, Option.bind_some, if_neg h]
    exact ⟨r3, rfl, c3⟩
def sAttrs : Nat → RS → List tAttr × RS
  | 0, s => ([], s)
  | k + 1, s => ((sAttr s).1 :: (sAttrs k (sAttr s).2).1, (sAttrs k (sAttr s).2).2)
theorem sAttrs_bad (c : Int) : ∀ k, (sAttrs k (.inr c)).2 = .inr c
  | 0 => rfl
  | k + 1 => by rw [sAttrs, sAttr_bad]; exact sAttrs_bad c k
theorem sAttrs_le : ∀ k s, RS.len (sAttrs k s).2 ≤ RS.len s
  | 0, _ => Nat.le_refl _
  | k + 1, s => by rw [sAttrs]; exact Nat.le_trans (sAttrs_le k _) (sAttr_le s)
theorem ca_loop {N c : Nat} (hc : c ≤ 1000) : ∀ (k i : Nat) (r : twirereader) (s : RS) (l : List tAttr) (n : Nat), i + k = c → CR r s → RS.len s < N → l.length = i → k < n → ∃ r', loopD (ε := Int × Str × Er × (List tAttr)) (τ := Str × Er × (List tAttr)) (fun (((x6, r2, r3, l1)) : Int × Str × Er × (List tAttr)) => (bif (decide (x6 < (c : Int))) then ((dwire_reader_attr N (twirereader.mk r2 r3)).bind fun x10 => (ap l1 [x10.1]).bind fun l4 => some (Sum.inl (IntKind.wrap .u64 (x6 + 1), x10.2.B, x10.2.Err, l4))) else some (Sum.inr (r2, r3, l1)))) n ((i : Int), r.B, r.Err, l) = some (r'.B, r'.Err, l ++ (sAttrs k s).1) ∧ CR r' (sAttrs k s).2
  | 0, i, r, s, l, n, hi, hr, hN, hl, hn => by
    obtain ⟨n, rfl⟩ : ∃ j, n = j + 1 := ⟨n - 1, by omega⟩
    have hd : decide ((i : Int) < (c : Int)) = false := by simp; omega
    exact ⟨r, loopD_end (by simp only [hd, cond_false]; simp [sAttrs]), hr⟩
  | k + 1, i, r, s, l, n, hi, hr, hN, hl, hn => by
    obtain ⟨n, rfl⟩ : ∃ j, n = j + 1 := ⟨n - 1, by omega⟩
    have hd : decide ((i : Int) < (c : Int)) = true := by simp; omega
    obtain ⟨r1, h1, c1⟩ := dAttr hr hN
    have hap : ap l [(sAttr s).1] = some (l ++ [(sAttr s).1]) := ap_ok (Nat.le_trans (show l.length + 1 ≤ 1001 by omega) (by decide))
    have hw : IntKind.wrap .u64 ((i : Int) + 1) = ((i + 1 : Nat) : Int) := by rw [show (i : Int) + 1 = ((i + 1 : Nat) : Int) by omega]; exact wrap_u64 (by omega)
    obtain ⟨r', h2, c2⟩ := ca_loop hc k (i + 1) r1 (sAttr s).2 (l ++ [(sAttr s).1]) n (by omega) c1 (Nat.lt_of_le_of_lt (sAttr_le s) hN) (by simp; omega) (by omega)
    refine ⟨r', (loopD_go (s' := (((i + 1 : Nat) : Int), r1.B, r1.Err, l ++ [(sAttr s).1])) ?_).trans (h2.trans ?_), c2⟩
    · simp only [hd, cond_true, h1, Option.bind_some, hap, hw]
    · rw [sAttrs]; simp
theorem rAttr1 {n : Nat} {B : Str} {q : tref10R} {s : RS} {γ : Type} (hr : QR B q s) (hB : B.length ≤ 1000000) (hn : RS.len s < n) (f : tAttr → tref10R → Option γ) : ∃ q', QR B q' (sAttr s).2 ∧
    ((dref10_R_text n q 200).bind fun x9 => (dref10_R_number n x9.2 1).bind fun x10 => (bif (x10.1 == 1) then ((dref10_R_text n x10.2 200).bind fun x11 => some (x11.2.B, x11.2.At, x11.2.Bad, true, 0, x11.1)) else ((dref10_R_signed n x10.2).bind fun x12 => some (x12.2.B, x12.2.At, x12.2.Bad, false, x12.1, [])) : Option (Str × Int × Int × Bool × Int × Str)).bind fun (((r8, r9, r10, a1, a2, a3)) : Str × Int × Int × Bool × Int × Str) => f (tAttr.mk x9.1 a1 a2 a3) ⟨r8, r9, r10⟩) = f (sAttr s).1 q' := by
  have l1 := sText_le 200 s
  have l2 := (sNum_le 1 (sText 200 s).2).2
  obtain ⟨r1, h1, c1⟩ := drTextN (most := 200) hr hB (by decide) hn
  obtain ⟨r2, h2, c2⟩ := drNum (most := 1) c1 hB (by decide) (by omega : RS.len _ < n)
  have h1' : dref10_R_text n q 200 = _ := h1
  have h2' : dref10_R_number n r1 1 = _ := h2
  unfold sAttr
  simp only [h1', h2', Option.bind_some]
  by_cases h : (sNum 1 (sText 200 s).2).1 = 1
  · have hz : ((((sNum 1 (sText 200 s).2).1 : Nat) : Int) == 1) = true := by simp; omega
    obtain ⟨r3, h3, c3⟩ := drTextN (most := 200) c2 hB (by decide) (by omega : RS.len _ < n)
    have h3' : dref10_R_text n r2 200 = _ := h3
    simp only [hz, cond_true, h3', Option.bind_some, if_pos h]
    exact ⟨r3, c3, rfl⟩
  · have hz : ((((sNum 1 (sText 200 s).2).1 : Nat) : Int) == 1) = false := by simp; omega
    obtain ⟨r3, h3, c3⟩ := drSigned c2 hB (by omega : RS.len _ < n)
    simp only [hz, cond_false, h3, Option.bind_some, if_neg h]
    exact ⟨r3, c3, rfl⟩
theorem ra_loop {N c : Nat} {B : Str} (hc : c ≤ 1000) (hB : B.length ≤ 1000000) : ∀ (k i : Nat) (q : tref10R) (s : RS) (l : List tAttr) (n : Nat), i + k = c → QR B q s → RS.len s < N → l.length = i → k < n → ∃ (q' : tref10R) (l' : List tAttr), loopD (ε := Int × Str × Int × Int × (List tAttr)) (τ := Str × Int × Int × (List tAttr)) (fun (((i1, r2, r3, r4, l1)) : Int × Str × Int × Int × (List tAttr)) => ((bif (decide (i1 < (c : Int))) then some (r4 == 0) else some false : Option Bool).bind fun (x8 : Bool) => (bif x8 then ((dref10_R_text N (tref10R.mk r2 r3 r4) 200).bind fun x9 => (dref10_R_number N x9.2 1).bind fun x10 => (bif (x10.1 == 1) then ((dref10_R_text N x10.2 200).bind fun x11 => some (x11.2.B, x11.2.At, x11.2.Bad, true, 0, x11.1)) else ((dref10_R_signed N x10.2).bind fun x12 => some (x12.2.B, x12.2.At, x12.2.Bad, false, x12.1, [])) : Option (Str × Int × Int × Bool × Int × Str)).bind fun (((r8, r9, r10, a1, a2, a3)) : Str × Int × Int × Bool × Int × Str) => ((ap l1 [(tAttr.mk x9.1 a1 a2 a3)]).bind fun l4 => some (Sum.inl (W (i1 + 1), r8, r9, r10, l4)))) else some (Sum.inr (r2, r3, r4, l1))))) n ((i : Int), q.B, q.At, q.Bad, l) = some (q'.B, q'.At, q'.Bad, l') ∧
    QR B q' (sAttrs k s).2 ∧ (∀ b, (sAttrs k s).2 = .inl b → l' = l ++ (sAttrs k s).1) ∧ l'.length ≤ c
  | 0, i, q, s, l, n, hi, hr, hN, hl, hn => by
    obtain ⟨n, rfl⟩ : ∃ j, n = j + 1 := ⟨n - 1, by omega⟩
    have hd : decide ((i : Int) < (c : Int)) = false := by simp; omega
    exact ⟨q, l, loopD_end (by simp only [hd, cond_false, Option.bind_some]), hr, (fun _ _ => by simp [sAttrs]), by omega⟩
  | k + 1, i, q, s, l, n, hi, hr, hN, hl, hn => by
    obtain ⟨n, rfl⟩ : ∃ j, n = j + 1 := ⟨n - 1, by omega⟩
    have hd : decide ((i : Int) < (c : Int)) = true := by simp; omega
    cases s with
    | inr e =>
      have hz : (q.Bad == 0) = false := by obtain ⟨_, e2, e3⟩ := hr; rw [e2]; simpa using e3
      refine ⟨q, l, loopD_end (by simp only [hd, cond_true, Option.bind_some, hz, cond_false]), ?_, ?_, by omega⟩
      · rw [sAttrs_bad]; exact hr
      · rw [sAttrs_bad]; exact fun _ h => nomatch h
    | inl b0 =>
      have hz : (q.Bad == 0) = true := by obtain ⟨_, e2, _⟩ := hr; rw [e2]; rfl
      obtain ⟨q1, c1, h1⟩ := rAttr1 hr hB hN (fun a q' => (ap l [a]).bind fun l4 => some (Sum.inl (W ((i : Int) + 1), q'.B, q'.At, q'.Bad, l4)) : tAttr → tref10R → Option ((Int × Str × Int × Int × List tAttr) ⊕ (Str × Int × Int × List tAttr)))
      have hap : ap l [(sAttr (.inl b0)).1] = some (l ++ [(sAttr (.inl b0)).1]) := ap_ok (Nat.le_trans (show l.length + 1 ≤ 1001 by omega) (by decide))
      obtain ⟨q', l', h2, c2, h3, h4⟩ := ra_loop hc hB k (i + 1) q1 (sAttr (.inl b0)).2 (l ++ [(sAttr (.inl b0)).1]) n (by omega) c1 (Nat.lt_of_le_of_lt (sAttr_le _) hN) (by simp; omega) (by omega)
      refine ⟨q', l', (loopD_go (s' := (((i + 1 : Nat) : Int), q1.B, q1.At, q1.Bad, l ++ [(sAttr (.inl b0)).1])) ?_).trans h2, ?_, ?_, h4⟩
      · simp only [hd, cond_true, Option.bind_some, hz]
        refine h1.trans ?_
        simp only [hap, Option.bind_some, W_suc (show i + 1 < 9223372036854775808 by omega)]
      · rw [sAttrs]; exact c2
      · intro b hb
        rw [sAttrs] at hb
        rw [h3 b hb, sAttrs]; simp
theorem wrap_u32 {m : Nat} (h : m < 4294967296) : IntKind.wrap .u32 (m : Int) = m := by
  have : IntKind.wrap .u32 (m : Int) = (m : Int) % 4294967296 := rfl
  rw [this]; omega
/-- How far an event was read, step by step. -/
def e1 (s : RS) := sNum 2147483647 s
def e2 (s : RS) := sNum 4294967295 (e1 s).2
def e3 (s : RS) := sSigned (e2 s).2
def e4 (s : RS) := sSigned (e3 s).2
def e5 (s : RS) := sNum 16 (e4 s).2
def e6 (s : RS) := sAttrs (e5 s).1 (e5 s).2
def sEvent (s : RS) : tEvent × RS := (⟨((e1 s).1 : Int), ((e2 s).1 : Int), ⟨(e3 s).1, (e4 s).1⟩, (e6 s).1⟩, (e6 s).2)
theorem e_le (s : RS) : RS.len (e1 s).2 ≤ RS.len s ∧ RS.len (e2 s).2 ≤ RS.len s ∧ RS.len (e3 s).2 ≤ RS.len s ∧ RS.len (e4 s).2 ≤ RS.len s ∧ RS.len (e5 s).2 ≤ RS.len s ∧ RS.len (e6 s).2 ≤ RS.len s := by
  have h1 := (sNum_le 2147483647 s).2
  have h2 := (sNum_le 4294967295 (e1 s).2).2
  have h3 := sSigned_le (e2 s).2
  have h4 := sSigned_le (e3 s).2
  have h5 := (sNum_le 16 (e4 s).2).2
  have h6 := sAttrs_le (e5 s).1 (e5 s).2
  refine ⟨h1, ?_, ?_, ?_, ?_, ?_⟩
  · exact Nat.le_trans h2 h1
  · exact Nat.le_trans h3 (Nat.le_trans h2 h1)
  · exact Nat.le_trans h4 (Nat.le_trans h3 (Nat.le_trans h2 h1))
  · exact Nat.le_trans h5 (Nat.le_trans h4 (Nat.le_trans h3 (Nat.le_trans h2 h1)))
  · exact Nat.le_trans h6 (Nat.le_trans h5 (Nat.le_trans h4 (Nat.le_trans h3 (Nat.le_trans h2 h1))))
theorem dEvent {n : Nat} {r : twirereader} {s : RS} (hr : CR r s) (hn : RS.len s < n) (hn2 : 100 < n) : ∃ r', dwire_reader_event n r = some ((sEvent s).1, r') ∧ CR r' (sEvent s).2 := by
  obtain ⟨b1, b2, b3, b4, b5, b6⟩ := e_le s
  obtain ⟨r1, h1, c1⟩ := dInt hr hn
  obtain ⟨r2, h2, c2⟩ := dNum (most := 4294967295) c1 (by decide) (Nat.lt_of_le_of_lt b1 hn)
  obtain ⟨r3, h3, c3⟩ := dSigned c2 (Nat.lt_of_le_of_lt b2 hn)
  obtain ⟨r4, h4, c4⟩ := dSigned c3 (Nat.lt_of_le_of_lt b3 hn)
  obtain ⟨r5, h5, c5⟩ := dNum (most := 16) c4 (by decide) (Nat.lt_of_le_of_lt b4 hn)
  have k2 : (e2 s).1 ≤ 4294967295 := (sNum_le _ _).1
  have k5 : (e5 s).1 ≤ 16 := (sNum_le _ _).1
  obtain ⟨r6, h6, c6⟩ := ca_loop (N := n) (c := (e5 s).1) (by omega) (e5 s).1 0 r5 (e5 s).2 [] n (by omega) c5 (Nat.lt_of_le_of_lt b5 hn) rfl (by omega)
  have h2' : dwire_reader_number n r1 4294967295 = _ := h2
  have h5' : dwire_reader_number n r4 16 = _ := h5
  unfold dwire_reader_event
  rw [h1, Option.bind_some]
  simp only [h2', Option.bind_some]
  simp only [h3, Option.bind_some]
  simp only [h4, Option.bind_some]
  simp only [h5', Option.bind_some]
  refine ⟨r6, (congrArg (fun o => Option.bind o _) h6).trans ?_, c6⟩
  have hw : IntKind.wrap .u32 ((sNum 4294967295 (sNum 2147483647 s).2).1 : Int) = ((sNum 4294967295 (sNum 2147483647 s).2).1 : Int) := wrap_u32 (by have : (sNum 4294967295 (sNum 2147483647 s).2).1 ≤ 4294967295 := k2; omega)
  simp only [Option.bind_some, hw, List.nil_append]
  rfl
theorem drEventR {n : Nat} {B : Str} {q : tref10R} {s : RS} (hr : QR B q s) (hB : B.length ≤ 1000000) (hn : RS.len s < n) (hn2 : 100 < n) : ∃ (v : tEvent) (q' : tref10R), dref10_R_event n q = some (v, q') ∧ QR B q' (sEvent s).2 ∧ (∀ b, (sEvent s).2 = .inl b → v = (sEvent s).1) ∧ v.Attrs.length ≤ 16 := by
  obtain ⟨b1, b2, b3, b4, b5, b6⟩ := e_le s
  obtain ⟨r1, h1, c1⟩ := drFewN hr hB hn
  obtain ⟨r2, h2, c2⟩ := drNum (most := 4294967295) c1 hB (by decide) (Nat.lt_of_le_of_lt b1 hn)
  obtain ⟨r3, h3, c3⟩ := drSigned c2 hB (Nat.lt_of_le_of_lt b2 hn)
  obtain ⟨r4, h4, c4⟩ := drSigned c3 hB (Nat.lt_of_le_of_lt b3 hn)
  obtain ⟨r5, h5, c5⟩ := drNum (most := 16) c4 hB (by decide) (Nat.lt_of_le_of_lt b4 hn)
  have k2 : (e2 s).1 ≤ 4294967295 := (sNum_le _ _).1
  have k5 : (e5 s).1 ≤ 16 := (sNum_le _ _).1
  obtain ⟨r6, l', h6, c6, hl, hl16⟩ := ra_loop (N := n) (c := (e5 s).1) (by omega) hB (e5 s).1 0 r5 (e5 s).2 [] n (by omega) c5 (Nat.lt_of_le_of_lt b5 hn) rfl (by omega)
  have h2' : dref10_R_number n r1 4294967295 = _ := h2
  have h5' : dref10_R_number n r4 16 = _ := h5
  unfold dref10_R_event
  rw [h1, Option.bind_some]
  simp only [h2', Option.bind_some]
  simp only [h3, Option.bind_some]
  simp only [h4, Option.bind_some]
  simp only [h5', Option.bind_some]
  have hW : W ((sNum 16 (sSigned (sSigned (sNum 4294967295 (sNum 2147483647 s).2).2).2).2).1 : Int) = ((e5 s).1 : Int) := W_nat (Nat.lt_of_le_of_lt k5 (by decide))
  simp only [hW]
  have hw : IntKind.wrap .u32 ((sNum 4294967295 (sNum 2147483647 s).2).1 : Int) = ((sNum 4294967295 (sNum 2147483647 s).2).1 : Int) := wrap_u32 (by have : (sNum 4294967295 (sNum 2147483647 s).2).1 ≤ 4294967295 := k2; omega)
  refine ⟨_, r6, (congrArg (fun o => Option.bind o _) h6).trans rfl, c6, fun b hb => ?_, Nat.le_trans hl16 k5⟩
  have := hl b hb
  rw [this, hw]; rfl
theorem sAttrs_length : ∀ k s, (sAttrs k s).1.length = k
  | 0, _ => rfl
  | k + 1, s => by rw [sAttrs]; simp [sAttrs_length k]
theorem sEvent_len (s : RS) : (sEvent s).1.Attrs.length ≤ 16 := by
  show (sAttrs (e5 s).1 (e5 s).2).1.length ≤ 16
  rw [sAttrs_length]; exact (sNum_le _ _).1
end Go.Proofs.Ytaekecbadkcggaa
