/- Layer 6, plainly: tokens. -/
import Derived.Test.YtaekecbadkcggaaDoorD06
import Derived.Lib.ParseIntB
namespace Go.Proofs.YtaekecbadkcggaaDoor
open Go.Pv
set_option linter.unusedSimpArgs false
set_option linter.unusedVariables false
set_option linter.unusedSectionVars false
set_option maxRecDepth 100000

def isLow (c : UInt8) : Bool := decide (97 ≤ c.toNat) && decide (c.toNat ≤ 122)
def isDig (c : UInt8) : Bool := decide (48 ≤ c.toNat) && decide (c.toNat ≤ 57)
def isAl (c : UInt8) : Bool := isLow c || isDig c
def isTx (c : UInt8) : Bool := decide (32 ≤ c.toNat) && (decide (c.toNat ≤ 126) && c != 34)
/-- How many there are in front, of a sort. -/
def front (p : UInt8 → Bool) : Str → Nat
  | [] => 0
  | c :: l => if p c then front p l + 1 else 0
theorem front_le (p : UInt8 → Bool) : ∀ l, front p l ≤ l.length
  | [] => Nat.le_refl _
  | c :: l => by rw [front]; split <;> simp; exact front_le p l
theorem front_lt (p : UInt8 → Bool) : ∀ (l : Str) (i : Nat) (h : i < l.length), i < front p l → p l[i] = true
  | c :: l, i, h, hi => by
    rw [front] at hi
    split at hi
    · rename_i hc
      cases i with
      | zero => exact hc
      | succ i => exact front_lt p l i (by simpa using h) (by omega)
    · omega
theorem front_at (p : UInt8 → Bool) : ∀ (l : Str) (h : front p l < l.length), p l[front p l] = false
  | [], h => by simp at h
  | c :: l, h => by
    by_cases hc : p c = true
    · have e : front p (c :: l) = front p l + 1 := by rw [front, if_pos hc]
      have h2 : front p l < l.length := by rw [e] at h; simpa using h
      have := front_at p l h2
      simp only [e, List.getElem_cons_succ]; exact this
    · have e : front p (c :: l) = 0 := by rw [front, if_neg hc]
      simp only [e, List.getElem_cons_zero]; simpa using hc
/-- A number's value, told digit by digit. -/
def dstep (a : Nat) (c : UInt8) : Nat := a * 10 + (c.toNat - 48)
def dv (a : Nat) (l : Str) : Nat := l.foldl dstep a
theorem dv_nil (a : Nat) : dv a [] = a := rfl
theorem dv_cons (a : Nat) (c : UInt8) (l : Str) : dv a (c :: l) = dv (a * 10 + (c.toNat - 48)) l := by unfold dv; rw [List.foldl_cons]; rfl
theorem dv_ge : ∀ (l : Str) (a : Nat), a ≤ dv a l
  | [], a => Nat.le_refl _
  | c :: l, a => by rw [dv_cons]; have := dv_ge l (a * 10 + (c.toNat - 48)); omega
theorem dv_append (l : Str) (a : Nat) (c : UInt8) : dv a (l ++ [c]) = dv a l * 10 + (c.toNat - 48) := by
  unfold dv; rw [List.foldl_append]; rfl
def numS (l : Str) : Option (Int × Nat) := match l with
  | [] => none
  | c :: t =>
    if c = 45 then
      if front isDig t = 0 ∨ (1 < front isDig t ∧ t.head? = some 48) ∨ dv 0 (t.take (front isDig t)) = 0 ∨ 9223372036854775808 < dv 0 (t.take (front isDig t)) then none
      else some (-(dv 0 (t.take (front isDig t)) : Int), front isDig t + 1)
    else
      if front isDig (c :: t) = 0 ∨ (1 < front isDig (c :: t) ∧ c = 48) ∨ 9223372036854775808 ≤ dv 0 ((c :: t).take (front isDig (c :: t))) then none
      else some ((dv 0 ((c :: t).take (front isDig (c :: t))) : Int), front isDig (c :: t))
def wordsL : List Str := [[97, 110, 100], [111, 114], [110, 111, 116], [105, 110], [116, 114, 117, 101]]
structure Tok where
  k : Int
  n : Int
  s : Str
def tok : Str → Option (Tok × Nat)
  | [] => none
  | c :: t =>
    if isLow c then
      if front isAl (c :: t) ≤ 20 then some (⟨if wordsL.contains ((c :: t).take (front isAl (c :: t))) then 2 else 1, 0, (c :: t).take (front isAl (c :: t))⟩, front isAl (c :: t)) else none
    else if isDig c ∨ c = 45 then (numS (c :: t)).map fun x => (⟨3, x.1, []⟩, x.2)
    else if c = 34 then
      if front isTx t ≤ 200 ∧ t[front isTx t]? = some 34 then some (⟨4, 0, t.take (front isTx t)⟩, front isTx t + 2) else none
    else if t.head? = some 61 ∧ (c = 60 ∨ c = 33 ∨ c = 62 ∨ c = 94) then some (⟨5, 0, [c, 61]⟩, 2)
    else if c = 40 ∨ c = 41 ∨ c = 44 ∨ c = 60 ∨ c = 61 ∨ c = 62 then some (⟨5, 0, [c]⟩, 1) else none
theorem tok_len {l : Str} {x : Tok} {j : Nat} (h : tok l = some (x, j)) : 0 < j ∧ j ≤ l.length := by
  cases l with
  | nil => cases h
  | cons c t =>
    rw [tok] at h
    split at h
    · rename_i hc
      split at h
      · cases h
        have : front isAl (c :: t) = front isAl t + 1 := by rw [front, if_pos (by simp [isAl, hc])]
        have h2 := front_le isAl t
        rw [this]; simp; omega
      · cases h
    · split at h
      · unfold numS at h
        split at h
        · cases h
        · rename_i c' t' heq
          cases heq
          split at h
          · split at h
            · cases h
            · have h2 := front_le isDig t
              simp only [Option.map_some, Option.some.injEq, Prod.mk.injEq] at h
              obtain ⟨_, rfl⟩ := h
              simp; omega
          · split at h
            · cases h
            · rename_i hn
              have h2 := front_le isDig (c :: t)
              simp only [Option.map_some, Option.some.injEq, Prod.mk.injEq] at h
              obtain ⟨_, rfl⟩ := h
              exact ⟨by omega, h2⟩
      · split at h
        · split at h
          · rename_i hh
            cases h
            have := (List.getElem?_eq_some_iff.1 hh.2).1
            simp; omega
          · cases h
        · split at h
          · rename_i hh
            cases h
            cases t with
            | nil => simp at hh
            | cons d t => simp
          · split at h
            · cases h; simp
            · cases h
/-- A text's tokens. -/
def toks (a : Nat) (l : Str) : Option (List ttokenToken) := match l with
  | [] => some []
  | c :: t => if c = 32 then toks (a + 1) t else match h : tok (c :: t) with
    | none => none
    | some (x, j) => (toks (a + j) ((c :: t).drop j)).map fun L => ⟨x.k, (a : Int), x.n, x.s⟩ :: L
termination_by l.length
decreasing_by
  · simp
  · have := tok_len h; simp only [List.length_drop, List.length_cons] at *; omega
theorem toks_nil (a : Nat) : toks a [] = some [] := by rw [toks]
theorem toks_sp (a : Nat) (t : Str) : toks a (32 :: t) = toks (a + 1) t := by rw [toks]; simp
theorem toks_none {a : Nat} {c : UInt8} {t : Str} (hc : c ≠ 32) (h : tok (c :: t) = none) : toks a (c :: t) = none := by
  rw [toks, if_neg hc]; split
  · rfl
  · rename_i x j heq; rw [h] at heq; cases heq
theorem toks_some {a : Nat} {c : UInt8} {t : Str} (hc : c ≠ 32) {x : Tok} {j : Nat} (h : tok (c :: t) = some (x, j)) : toks a (c :: t) = (toks (a + j) ((c :: t).drop j)).map fun L => ⟨x.k, (a : Int), x.n, x.s⟩ :: L := by
  rw [toks, if_neg hc]; split
  · rename_i heq; rw [h] at heq; cases heq
  · rename_i x' j' heq; rw [h] at heq; cases heq; rfl
/-! ### the code's -/
theorem nn (c : UInt8) (k : Nat) (hk : k < 256) : (((c.toNat : Nat) : Int) == (k : Int)) = decide (c = UInt8.ofNat k) := by
  rw [Bool.eq_iff_iff]; simp only [beq_iff_eq, decide_eq_true_eq]
  constructor
  · intro h
    have : c.toNat = k := by omega
    rw [← this, UInt8.ofNat_toNat]
  · rintro rfl
    rw [UInt8.toNat_ofNat']; have := Nat.mod_eq_of_lt hk; omega
theorem dge (c : UInt8) (k : Nat) : decide (((c.toNat : Nat) : Int) ≥ (k : Int)) = decide (k ≤ c.toNat) := by rw [Bool.eq_iff_iff]; simp
theorem dle (c : UInt8) (k : Nat) : decide (((c.toNat : Nat) : Int) ≤ (k : Int)) = decide (c.toNat ≤ k) := by rw [Bool.eq_iff_iff]; simp
theorem dlower (n : Nat) (c : UInt8) : dtoken_lower n (c.toNat : Int) = some (isLow c) := by
  have h1 := dge c 97; have h2 := dle c 122
  unfold dtoken_lower isLow
  rw [show (97 : Int) = ((97 : Nat) : Int) from rfl, show (122 : Int) = ((122 : Nat) : Int) from rfl, h1, h2]
  cases decide (97 ≤ c.toNat) <;> rfl
theorem ddigit (n : Nat) (c : UInt8) : dtoken_digit n (c.toNat : Int) = some (isDig c) := by
  have h1 := dge c 48; have h2 := dle c 57
  unfold dtoken_digit isDig
  rw [show (48 : Int) = ((48 : Nat) : Int) from rfl, show (57 : Int) = ((57 : Nat) : Int) from rfl, h1, h2]
  cases decide (48 ≤ c.toNat) <;> rfl
theorem drlow (n : Nat) (c : UInt8) : dref06_low n (c.toNat : Int) = some (isLow c) := dlower n c
theorem drdigit (n : Nat) (c : UInt8) : dref06_digit n (c.toNat : Int) = some (isDig c) := ddigit n c
theorem done1 (n : Nat) (c : UInt8) : dtoken_one_1 n (c.toNat : Int) = some (isAl c) := by
  unfold dtoken_one_1 isAl; rw [dlower, ddigit]; cases isLow c <;> rfl
theorem bne34 (c : UInt8) : (((c.toNat : Nat) : Int) != 34) = (c != 34) := by
  have := nn c 34 (by decide)
  show (!(((c.toNat : Nat) : Int) == 34)) = (!(c == 34))
  rw [show (34 : Int) = ((34 : Nat) : Int) from rfl, this]; rfl
theorem done2 (n : Nat) (c : UInt8) : dtoken_one_2 n (c.toNat : Int) = some (isTx c) := by
  have h1 := dge c 32; have h2 := dle c 126
  unfold dtoken_one_2 isTx
  rw [show (32 : Int) = ((32 : Nat) : Int) from rfl, show (126 : Int) = ((126 : Nat) : Int) from rfl, h1, h2, bne34]
  cases decide (32 ≤ c.toNat) <;> cases decide (c.toNat ≤ 126) <;> rfl
/-- A loop that goes on while bytes are of a sort. -/
theorem front_loop {p : UInt8 → Bool} {s : Str} {body : Int → Option (Int ⊕ Int)} (hs : s.length ≤ 1000000) (hb : ∀ i (h : i < s.length), body (i : Int) = some (if p s[i] then .inl (W ((i : Int) + 1)) else .inr (i : Int)))
    (he : body (s.length : Int) = some (.inr (s.length : Int))) : ∀ (l : Str) (a n : Nat), l = s.drop a → a ≤ s.length → l.length < n → loopD body n (a : Int) = some ((a + front p l : Nat) : Int)
  | [], a, n, hl, ha, hn => by
    obtain ⟨n, rfl⟩ : ∃ j, n = j + 1 := ⟨n - 1, by omega⟩
    have : a = s.length := by have := congrArg List.length hl; simp at this; omega
    subst this
    exact loopD_end he
  | c :: l, a, n, hl, ha, hn => by
    obtain ⟨n, rfl⟩ : ∃ j, n = j + 1 := ⟨n - 1, by omega⟩
    have hlt : a < s.length := by have := congrArg List.length hl; simp at this; omega
    have hd := List.drop_eq_getElem_cons hlt
    rw [← hl] at hd
    obtain ⟨hc, ht⟩ := List.cons.inj hd
    have h1 := hb a hlt
    rw [← hc] at h1
    rw [front]
    cases hp : p c with
    | true =>
      rw [hp] at h1
      refine (loopD_go (s' := ((a + 1 : Nat) : Int)) (by rw [h1, W_suc (by omega)]; rfl)).trans ?_
      rw [front_loop hs hb he l (a + 1) n ht hlt (by simpa using hn)]
      simp; omega
    | false =>
      rw [hp] at h1
      exact loopD_end h1
theorem dupto {p : UInt8 → Bool} {n : Nat} {s : Str} {f : Int → Option Bool} (hf : ∀ c : UInt8, f (c.toNat : Int) = some (p c)) (hs : s.length ≤ 1000000) (hn : s.length < n) : dtoken_upto n s f = some (front p s : Int) := by
  unfold dtoken_upto
  have := front_loop (p := p) (s := s) (body := fun (n1 : Int) => ((bif (decide (n1 < (s.length : Int))) then ((gi s n1).bind fun c1 => (f (c1.toNat : Int)).bind fun x2 => some x2) else some false : Option Bool).bind fun (x1 : Bool) => (bif x1 then some (Sum.inl (W (n1 + 1))) else some (Sum.inr n1)))) hs ?_ ?_ s 0 n (by simp) (Nat.zero_le _) hn
  · refine (congrArg (fun o => Option.bind o _) this).trans ?_
    simp
  · intro i h
    have hd : decide ((i : Int) < (s.length : Int)) = true := by simpa using h
    simp only [hd, cond_true, gi_lt h, Option.bind_some, hf]
    cases p s[i] <;> rfl
  · have hd : decide ((s.length : Int) < (s.length : Int)) = false := by simp
    simp only [hd, cond_false, Option.bind_some]
/-! ### numbers -/
theorem parseU {M : Nat} (hM : M ≤ 18446744073709551615) : ∀ (l : Str) (a : Nat), (∀ c ∈ l, isDig c = true) → a ≤ M → Lib.parseUintM M a l = if dv a l ≤ M then .ok (dv a l) else .range
  | [], a, _, ha => by rw [Lib.parseUintM, dv_nil, if_pos ha]
  | c :: l, a, h, ha => by
    have hc := h c (by simp)
    unfold isDig at hc
    simp only [Bool.and_eq_true, decide_eq_true_eq] at hc
    rw [Lib.parseUintM, if_pos hc, dv_cons]
    have hg := dv_ge l (a * 10 + (c.toNat - 48))
    split
    · rw [if_neg (by omega)]
    · split
      · rw [if_neg (by omega)]
      · exact parseU hM l _ (fun x hx => h x (by simp [hx])) (by omega)
theorem take_dig {l : Str} : ∀ c ∈ l.take (front isDig l), isDig c = true := by
  intro c hc
  obtain ⟨i, hi, rfl⟩ := List.mem_iff_getElem.1 hc
  simp only [List.length_take] at hi
  rw [List.getElem_take]
  exact front_lt isDig l i (by omega) (by omega)
theorem pInt_pos {c : UInt8} {t : Str} (h : ∀ x ∈ c :: t, isDig x = true) : pInt (c :: t) = if dv 0 (c :: t) < 9223372036854775808 then some (dv 0 (c :: t) : Int) else none := by
  have hc := h c (by simp)
  unfold isDig at hc
  simp only [Bool.and_eq_true, decide_eq_true_eq] at hc
  unfold pInt Lib.parseIntB
  simp only
  rw [if_neg (by omega)]
  unfold Lib.parseUintB
  rw [if_neg (by simp), parseU (M := 2 ^ 64 - 1) (by decide) _ _ h (by decide)]
  have e1 : (2 : Nat) ^ 64 - 1 = 18446744073709551615 := by decide
  have e2 : (2 : Nat) ^ (64 - 1) = 9223372036854775808 := by decide
  rw [e1, e2]
  by_cases h1 : dv 0 (c :: t) < 9223372036854775808
  · rw [if_pos (by omega), if_pos h1]
    simp only
    rw [if_neg (by omega), if_neg (by omega), if_neg (by omega)]
  · rw [if_neg h1]
    by_cases h2 : dv 0 (c :: t) ≤ 18446744073709551615
    · rw [if_pos h2]; simp only; rw [if_pos (by omega)]
    · rw [if_neg h2]
theorem pInt_neg {t : Str} (h : ∀ x ∈ t, isDig x = true) : pInt (45 :: t) = if t = [] ∨ 9223372036854775808 < dv 0 t then none else some (-(dv 0 t : Int)) := by
  unfold pInt Lib.parseIntB
  have h45 : (45 : UInt8).toNat = 45 := rfl
  simp only [h45, or_true, if_true, not_true, false_and, true_and, if_false]
  unfold Lib.parseUintB
  by_cases ht : t = []
  · rw [if_pos ht, if_pos (Or.inl ht)]
  · rw [if_neg ht, parseU (M := 2 ^ 64 - 1) (by decide) _ _ h (by decide)]
    have e1 : (2 : Nat) ^ 64 - 1 = 18446744073709551615 := by decide
    have e2 : (2 : Nat) ^ (64 - 1) = 9223372036854775808 := by decide
    rw [e1, e2]
    by_cases h1 : 9223372036854775808 < dv 0 t
    · rw [if_pos (Or.inr h1)]
      by_cases h2 : dv 0 t ≤ 18446744073709551615
      · rw [if_pos h2]; simp only; rw [if_pos h1]
      · rw [if_neg h2]
    · rw [if_neg (show ¬ (t = [] ∨ 9223372036854775808 < dv 0 t) from fun h => h.elim ht h1), if_pos (show dv 0 t ≤ 18446744073709551615 by omega)]
      simp only
      rw [if_neg h1]
theorem dPre (n : Nat) (s p : Str) : dstringslite_HasPrefix n s p = some (p.isPrefixOf s) := by
  unfold dstringslite_HasPrefix
  by_cases h : p.length ≤ s.length
  · have hd : decide ((s.length : Int) ≥ (p.length : Int)) = true := by simp; omega
    have hg : gsl s 0 (p.length : Int) = some (s.take p.length) := by have := gsl_nat s (i := 0) (Nat.zero_le p.length) h; simpa using this
    simp only [hd, cond_true, hg, Option.bind_some]
    congr 1
    rw [Bool.eq_iff_iff, List.isPrefixOf_iff_prefix, List.prefix_iff_eq_take, beq_iff_eq]
    exact eq_comm
  · have hd : decide ((s.length : Int) ≥ (p.length : Int)) = false := by simp; omega
    simp only [hd, cond_false]
    congr 1
    symm
    rw [Bool.eq_false_iff]
    intro hp
    rw [List.isPrefixOf_iff_prefix] at hp
    exact h hp.length_le
theorem dTrim (n : Nat) (c : UInt8) (t : Str) : dstrings_TrimPrefix n (c :: t) [45] = some (if c = 45 then t else c :: t) := by
  unfold dstrings_TrimPrefix dstringslite_TrimPrefix
  rw [dPre]
  have hp : ([45] : Str).isPrefixOf (c :: t) = decide (c = 45) := by
    simp only [List.isPrefixOf, Bool.and_true]
    rw [Bool.eq_iff_iff]; simp; exact eq_comm
  have hg : gsl (c :: t) (([45] : Str).length : Int) ((c :: t).length : Int) = some t := gsl_from (c :: t) (i := 1) (by simp)
  rw [hp]
  by_cases h : c = 45
  · subst h
    simp only [decide_true, Option.bind_some, cond_true, if_true, hg]
  · simp only [h, decide_false, Option.bind_some, cond_false, if_false]
theorem dnumber {n : Nat} {c : UInt8} {t : Str} (hc : isDig c = true ∨ c = 45) (hs : (c :: t).length ≤ 1000000) (hn : (c :: t).length < n) :
    dtoken_number n (c :: t) = some (match numS (c :: t) with | some (v, k) => (v, (k : Int)) | none => (0, 0)) := by
  unfold dtoken_number
  rw [dTrim, Option.bind_some]
  simp only [List.length_cons] at hs hn
  by_cases h45 : c = 45
  · subst h45
    have hf := front_le isDig t
    simp only [if_true, dupto (p := isDig) (fun c => ddigit n c) (show t.length ≤ 1000000 by omega) (show t.length < n by omega), Option.bind_some]
    have hall : W ((W (((45 :: t : Str).length : Int) - (t.length : Int))) + (front isDig t : Int)) = ((front isDig t + 1 : Nat) : Int) := by
      rw [show ((45 :: t : Str).length : Int) - (t.length : Int) = ((1 : Nat) : Int) by simp; omega, W_nat (by decide), show ((1 : Nat) : Int) + (front isDig t : Int) = ((front isDig t + 1 : Nat) : Int) by omega, W_nat (by omega)]
    have hg : gsl (45 :: t : Str) 0 ((front isDig t + 1 : Nat) : Int) = some (45 :: t.take (front isDig t)) := by
      have := gsl_nat (45 :: t : Str) (i := 0) (Nat.zero_le (front isDig t + 1)) (by simp; omega); simpa using this
    have hP : dParseInt n (45 :: t.take (front isDig t)) = some (pInt (45 :: t.take (front isDig t))) := by
      unfold dParseInt; rw [if_pos (by simp; omega)]
    simp only [hall, hg, Option.bind_some, hP, pInt_neg take_dig, numS, if_true]
    have hlen : (t.take (front isDig t)).length = front isDig t := by simp; omega
    have hnil : t.take (front isDig t) = [] ↔ front isDig t = 0 := by
      rw [← List.length_eq_zero_iff, hlen]
    have hgt : decide (((front isDig t + 1 : Nat) : Int) > (front isDig t : Int)) = true := by simp; omega
    by_cases hz : t.take (front isDig t) = [] ∨ 9223372036854775808 < dv 0 (t.take (front isDig t))
    · rw [if_pos hz]
      rw [hnil] at hz
      rw [if_pos (by omega)]
    · rw [if_neg hz]
      rw [hnil] at hz
      generalize dv 0 (t.take (front isDig t)) = V at *
      simp only
      by_cases h1 : 1 < front isDig t
      · have hd1 : decide ((front isDig t : Int) > 1) = true := by simp; omega
        cases t with
        | nil => simp [front] at h1
        | cons d t =>
          have hgi : gi (d :: t) 0 = some d := rfl
          simp only [hd1, cond_true, hgi, Option.bind_some]
          by_cases h48 : d = 48
          · subst h48
            have : (((48 : UInt8).toNat : Int) == 48) = true := rfl
            simp only [this, cond_true, Option.bind_some]
            rw [if_pos (by simp [h1])]
          · have e := nn d 48 (by decide)
            have : ((d.toNat : Int) == 48) = false := by rw [show (48 : Int) = ((48 : Nat) : Int) from rfl, e]; simpa using h48
            simp only [this, cond_false]
            by_cases hV : V = 0
            · subst hV
              simp only [hgt, Option.bind_some]
              rw [if_pos (by simp)]; rfl
            · have hv0 : (-(V : Int) == 0) = false := by simp; omega
              simp only [hv0, cond_false, Option.bind_some]
              rw [if_neg (by simp [h48]; omega)]
      · have hd1 : decide ((front isDig t : Int) > 1) = false := by simp; omega
        simp only [hd1, cond_false]
        by_cases hV : V = 0
        · subst hV
          simp only [hgt, Option.bind_some]
          rw [if_pos (by simp)]; rfl
        · have hv0 : (-(V : Int) == 0) = false := by simp; omega
          simp only [hv0, cond_false, Option.bind_some]
          rw [if_neg (by omega)]
  · have hdig : isDig c = true := hc.resolve_right h45
    have hf := front_le isDig (c :: t)
    have hpos : front isDig (c :: t) = front isDig t + 1 := by rw [front, if_pos hdig]
    simp only [if_neg h45, dupto (p := isDig) (fun c => ddigit n c) (show (c :: t).length ≤ 1000000 by simp; omega) (show (c :: t).length < n by simp; omega), Option.bind_some]
    have hall : W ((W (((c :: t).length : Int) - ((c :: t).length : Int))) + (front isDig (c :: t) : Int)) = (front isDig (c :: t) : Int) := by
      simp only [List.length_cons] at hf
      rw [Int.sub_self, show W 0 = 0 from rfl, Int.zero_add, W_nat (by omega)]
    have hg : gsl (c :: t) 0 (front isDig (c :: t) : Int) = some ((c :: t).take (front isDig (c :: t))) := by
      have := gsl_nat (c :: t) (i := 0) (Nat.zero_le (front isDig (c :: t))) hf; simpa using this
    have htk : (c :: t).take (front isDig (c :: t)) = c :: t.take (front isDig t) := by rw [hpos]; rfl
    have hP : dParseInt n ((c :: t).take (front isDig (c :: t))) = some (pInt ((c :: t).take (front isDig (c :: t)))) := by
      simp only [List.length_cons] at hf
      unfold dParseInt; rw [if_pos (by simp; omega)]
    have hpi := pInt_pos (c := c) (t := t.take (front isDig t)) (by rw [← htk]; exact take_dig)
    simp only [hall, hg, Option.bind_some, hP, numS, if_neg h45]
    rw [htk, hpi]
    generalize dv 0 (c :: t.take (front isDig t)) = V
    have hgt : decide ((front isDig (c :: t) : Int) > (front isDig (c :: t) : Int)) = false := by simp
    by_cases hz : V < 9223372036854775808
    · rw [if_pos hz]
      have hgi : gi (c :: t) 0 = some c := rfl
      simp only [hgt, hgi, Option.bind_some]
      by_cases h1 : 1 < front isDig (c :: t)
      · have hd1 : decide ((front isDig (c :: t) : Int) > 1) = true := by simp; omega
        simp only [hd1, cond_true]
        by_cases h48 : c = 48
        · subst h48
          have : (((48 : UInt8).toNat : Int) == 48) = true := rfl
          simp only [this, cond_true, Option.bind_some]
          rw [if_pos (by simp [h1])]
        · have e := nn c 48 (by decide)
          have : ((c.toNat : Int) == 48) = false := by rw [show (48 : Int) = ((48 : Nat) : Int) from rfl, e]; simpa using h48
          simp only [this, cond_false]
          rw [if_neg (by simp [h48]; omega)]
          cases ((V : Int) == 0) <;> rfl
      · have hd1 : decide ((front isDig (c :: t) : Int) > 1) = false := by simp; omega
        simp only [hd1, cond_false]
        rw [if_neg (by omega)]
        cases ((V : Int) == 0) <;> rfl
    · rw [if_neg hz, if_pos (by omega)]
/-! ### one token -/
theorem gsl_front {l : Str} {k : Nat} (h : k ≤ l.length) : gsl l 0 (k : Int) = some (l.take k) := by have := gsl_nat l (i := 0) (Nat.zero_le k) h; simpa using this
theorem dIdx {n : Nat} {l : List Str} {v : Str} (hl : l.length ≤ 1000000) (hn : l.length < n) : dslices_Contains_string n l v = some (l.contains v) := by
  unfold dslices_Contains_string dslices_Index_string
  have hany : l.contains v = l.any fun x => v == x := by rw [List.contains_eq_any_beq]
  rw [hany, any_ix]
  refine (congrArg (fun o => Option.bind (Option.bind o _) _) (ix_loop (l := l) (p := fun x => v == x) (fun i h => ?_) ?_ (Nat.le_trans hl (by decide)) hn)).trans ?_
  · have hd : decide ((i : Int) < (l.length : Int)) = true := by simpa using h
    simp only [hd, cond_true, gi_lt h, Option.bind_some]
    cases v == l[i] <;> rfl
  · simp
  · cases l.findIdx? (fun x => v == x) with
    | none => rfl
    | some i => simp only [Option.bind_some, kS]; rfl
def signsL : List Str := [[60, 61], [33, 61], [62, 61], [94, 61], [40], [41], [44], [60], [61], [62]]
/-- Which sign a text begins with. -/
def sgn (l : Str) : Option Str := signsL.find? fun x => x.isPrefixOf l
theorem sign_loop {n m : Nat} {s : Str} : ∀ (r : List Str) (i : Nat), r = signsL.drop i → i ≤ 10 → r.length < m → loopD (ε := Int) (τ := Unit ⊕ (ttokenToken × Int)) (fun (x8 : Int) => (bif (decide (x8 < (signsL.length : Int))) then ((gi signsL x8).bind fun x10 => (dstrings_HasPrefix n s x10).bind fun x11 => bif x11 then ((some ((x10.length : Int))).bind fun x12 => some (Sum.inr (Sum.inr ((ttokenToken.mk 5 0 0 x10), x12)))) else some (Sum.inl (W (x8 + 1)))) else some (Sum.inr (Sum.inl ())))) m (i : Int)
    = some (match r.find? (fun x => x.isPrefixOf s) with | some x => .inr (⟨5, 0, 0, x⟩, (x.length : Int)) | none => .inl ())
  | [], i, hr, hi, hm => by
    obtain ⟨m, rfl⟩ : ∃ j, m = j + 1 := ⟨m - 1, by omega⟩
    have : i = 10 := by
      have := congrArg List.length hr
      simp [signsL] at this; omega
    subst this
    exact loopD_end rfl
  | x :: r, i, hr, hi, hm => by
    obtain ⟨m, rfl⟩ : ∃ j, m = j + 1 := ⟨m - 1, by omega⟩
    have hlt : i < signsL.length := by have := congrArg List.length hr; simp at this; omega
    have hd := List.drop_eq_getElem_cons hlt
    rw [← hr] at hd
    obtain ⟨hx, ht⟩ := List.cons.inj hd
    have hde : decide ((i : Int) < (signsL.length : Int)) = true := by simpa using hlt
    have hh : dstrings_HasPrefix n s x = some (x.isPrefixOf s) := by unfold dstrings_HasPrefix; rw [dPre]; rfl
    rw [List.find?_cons]
    cases hp : x.isPrefixOf s with
    | true =>
      refine loopD_end ?_
      simp only [hde, cond_true, gi_lt hlt, ← hx, Option.bind_some, hh, hp]
    | false =>
      have h10 : signsL.length = 10 := rfl
      refine (loopD_go (s' := ((i + 1 : Nat) : Int)) ?_).trans (sign_loop r (i + 1) ht (by omega) (by simpa using hm))
      simp only [hde, cond_true, gi_lt hlt, ← hx, Option.bind_some, hh, hp, cond_false, W_suc (show i + 1 < 9223372036854775808 by omega)]
theorem sgn_tok {c : UInt8} {t : Str} : sgn (c :: t) = if t.head? = some 61 ∧ (c = 60 ∨ c = 33 ∨ c = 62 ∨ c = 94) then some [c, 61] else if c = 40 ∨ c = 41 ∨ c = 44 ∨ c = 60 ∨ c = 61 ∨ c = 62 then some [c] else none := by
  have h2 : ∀ a b : UInt8, ([a, b] : Str).isPrefixOf (c :: t) = (a == c && (t.head? == some b)) := by
    intro a b
    cases t with
    | nil => simp [List.isPrefixOf]
    | cons d t => simp only [List.isPrefixOf, Bool.and_true, List.head?_cons]; congr 1; rw [Bool.eq_iff_iff]; simp; exact eq_comm
  have h1 : ∀ a : UInt8, ([a] : Str).isPrefixOf (c :: t) = (a == c) := by intro a; simp [List.isPrefixOf]
  unfold sgn signsL
  simp only [List.find?_cons, List.find?_nil, h2, h1]
  by_cases h : t.head? = some 61
  · have hb : (t.head? == some 61) = true := by simp [h]
    simp only [hb, Bool.and_true, h, true_and]
    by_cases e1 : c = 60
    · subst e1; simp
    by_cases e2 : c = 33
    · subst e2; simp
    by_cases e3 : c = 62
    · subst e3; simp
    by_cases e4 : c = 94
    · subst e4; simp
    have n1 : (60 == c) = false := by simpa using fun h => e1 h.symm
    have n2 : (33 == c) = false := by simpa using fun h => e2 h.symm
    have n3 : (62 == c) = false := by simpa using fun h => e3 h.symm
    have n4 : (94 == c) = false := by simpa using fun h => e4 h.symm
    simp only [n1, n2, n3, n4]
    rw [if_neg (by simp [e1, e2, e3, e4])]
    by_cases f1 : c = 40
    · subst f1; simp
    by_cases f2 : c = 41
    · subst f2; simp
    by_cases f3 : c = 44
    · subst f3; simp
    by_cases f4 : c = 61
    · subst f4; simp
    have m1 : (40 == c) = false := by simpa using fun h => f1 h.symm
    have m2 : (41 == c) = false := by simpa using fun h => f2 h.symm
    have m3 : (44 == c) = false := by simpa using fun h => f3 h.symm
    have m4 : (61 == c) = false := by simpa using fun h => f4 h.symm
    simp only [m1, m2, m3, m4]
    rw [if_neg (by simp [e1, e3, f1, f2, f3, f4])]
    rfl
  · have hb : (t.head? == some 61) = false := by simpa using h
    simp only [hb, Bool.and_false, h, false_and, if_false]
    by_cases f1 : c = 40
    · subst f1; simp
    by_cases f2 : c = 41
    · subst f2; simp
    by_cases f3 : c = 44
    · subst f3; simp
    by_cases e1 : c = 60
    · subst e1; simp
    by_cases f4 : c = 61
    · subst f4; simp
    by_cases e3 : c = 62
    · subst e3; simp
    have m1 : (40 == c) = false := by simpa using fun h => f1 h.symm
    have m2 : (41 == c) = false := by simpa using fun h => f2 h.symm
    have m3 : (44 == c) = false := by simpa using fun h => f3 h.symm
    have m4 : (61 == c) = false := by simpa using fun h => f4 h.symm
    have n1 : (60 == c) = false := by simpa using fun h => e1 h.symm
    have n3 : (62 == c) = false := by simpa using fun h => e3 h.symm
    simp only [m1, m2, m3, m4, n1, n3]
    rw [if_neg (by simp [e1, e3, f1, f2, f3, f4])]
theorem done_ {n : Nat} {c : UInt8} {t : Str} (hs : (c :: t).length ≤ 1000000) (hn : (c :: t).length < n) (hn2 : 20 < n) :
    ∃ x, dtoken_one n (c :: t) = some (match tok (c :: t) with | some (y, k) => (⟨y.k, 0, y.n, y.s⟩, (k : Int)) | none => (x, 0)) := by
  have hgi : gi (c :: t) 0 = some c := rfl
  unfold dtoken_one
  rw [hgi, Option.bind_some, dlower, Option.bind_some, tok]
  by_cases hlow : isLow c = true
  · rw [hlow, cond_true, if_pos rfl]
    have hf := front_le isAl (c :: t)
    simp only [dupto (p := isAl) (fun c => done1 n c) hs hn, Option.bind_some, gsl_front hf, show dtoken_words n = some wordsL from rfl, dIdx (show wordsL.length ≤ 1000000 by decide) (show wordsL.length < n by show 5 < n; omega)]
    by_cases h20 : front isAl (c :: t) ≤ 20
    · have hd : decide ((front isAl (c :: t) : Int) > 20) = false := by simp; omega
      rw [if_pos h20]
      refine ⟨⟨0, 0, 0, []⟩, ?_⟩
      cases wordsL.contains ((c :: t).take (front isAl (c :: t))) <;> simp only [cond_true, cond_false, Option.bind_some, hd] <;> simp
    · have hd : decide ((front isAl (c :: t) : Int) > 20) = true := by simp; omega
      rw [if_neg h20]
      cases wordsL.contains ((c :: t).take (front isAl (c :: t))) <;> simp only [cond_true, cond_false, Option.bind_some, hd] <;> exact ⟨_, rfl⟩
  · have hlow : isLow c = false := by simpa using hlow
    rw [hlow, cond_false, if_neg (by simp), ddigit, Option.bind_some]
    have e45 : (((c.toNat : Nat) : Int) == 45) = decide (c = 45) := nn c 45 (by decide)
    have hx4 : (bif isDig c then some true else some (((c.toNat : Nat) : Int) == 45) : Option Bool) = some (isDig c || decide (c = 45)) := by rw [e45]; cases isDig c <;> rfl
    rw [hx4, Option.bind_some]
    by_cases hnum : isDig c = true ∨ c = 45
    · have hb : (isDig c || decide (c = 45)) = true := by simpa using hnum
      rw [hb, cond_true, if_pos hnum, dnumber hnum hs hn, Option.bind_some]
      refine ⟨⟨3, 0, 0, []⟩, ?_⟩
      cases numS (c :: t) <;> rfl
    · have hb : (isDig c || decide (c = 45)) = false := by simpa using hnum
      rw [hb, cond_false, if_neg hnum]
      have e34 : (((c.toNat : Nat) : Int) == 34) = decide (c = 34) := nn c 34 (by decide)
      by_cases h34 : c = 34
      · rw [e34, decide_eq_true h34, cond_true, if_pos h34]
        have hg1 : gsl (c :: t) 1 ((c :: t).length : Int) = some t := gsl_from (c :: t) (i := 1) (by simp)
        simp only [List.length_cons] at hs hn
        have hf := front_le isTx t
        rw [hg1, Option.bind_some, dupto (p := isTx) (fun c => done2 n c) (show t.length ≤ 1000000 by omega) (show t.length < n by omega), Option.bind_some]
        have hW1 : W ((front isTx t : Int) + 1) = ((front isTx t + 1 : Nat) : Int) := W_suc (by omega)
        have hW2 : W ((front isTx t : Int) + 2) = ((front isTx t + 2 : Nat) : Int) := by rw [show (front isTx t : Int) + 2 = ((front isTx t + 2 : Nat) : Int) by omega]; exact W_nat (by omega)
        simp only [hW1, hW2]
        by_cases h2 : front isTx t ≤ 200
        · have hd : decide ((front isTx t : Int) > 200) = false := by simp; omega
          simp only [hd, cond_false]
          by_cases h3 : front isTx t < t.length
          · have hd2 : decide (((front isTx t + 1 : Nat) : Int) ≥ ((c :: t).length : Int)) = false := by simp; omega
            have hgi2 : gi (c :: t) ((front isTx t + 1 : Nat) : Int) = some t[front isTx t] := by rw [gi_nat]; simp [h3]
            have e2 : ∀ d : UInt8, (((d.toNat : Nat) : Int) != 34) = !decide (d = 34) := fun d => by
              have := nn d 34 (by decide)
              show (!(((d.toNat : Nat) : Int) == 34)) = _
              rw [show (34 : Int) = ((34 : Nat) : Int) from rfl, this]; rfl
            have hq : t[front isTx t]? = some t[front isTx t] := List.getElem?_eq_getElem h3
            simp only [hd2, cond_false, hgi2, Option.bind_some, e2, hq]
            have hg2 : gsl (c :: t) 1 ((front isTx t + 1 : Nat) : Int) = some (t.take (front isTx t)) := by
              have := gsl_nat (c :: t) (i := 1) (j := front isTx t + 1) (by omega) (by simp; omega)
              simpa using this
            by_cases h4 : t[front isTx t] = 34
            · rw [decide_eq_true h4, if_pos ⟨h2, by rw [h4]⟩]
              simp only [Bool.not_true, cond_false, hg2, Option.bind_some]
              exact ⟨⟨0, 0, 0, []⟩, by first | trivial | rfl⟩
            · rw [decide_eq_false h4, if_neg (by simp [h4])]
              exact ⟨_, rfl⟩
          · have hd2 : decide (((front isTx t + 1 : Nat) : Int) ≥ ((c :: t).length : Int)) = true := by simp; omega
            have hq : t[front isTx t]? = none := List.getElem?_eq_none (by omega)
            rw [if_neg (by simp [hq])]
            simp only [hd2, cond_true, Option.bind_some]
            exact ⟨_, rfl⟩
        · have hd : decide ((front isTx t : Int) > 200) = true := by simp; omega
          rw [if_neg (by simp [h2])]
          simp only [hd, cond_true, Option.bind_some]
          exact ⟨_, rfl⟩
      · rw [e34, decide_eq_false h34, cond_false, if_neg h34]
        have hsl := sign_loop (n := n) (m := n) (s := c :: t) signsL 0 rfl (by decide) (show 10 < n by omega)
        have hfs : signsL.find? (fun x => x.isPrefixOf (c :: t)) = sgn (c :: t) := rfl
        rw [hfs, sgn_tok] at hsl
        refine ⟨⟨0, 0, 0, []⟩, (congrArg (fun o => Option.bind o _) hsl).trans ?_⟩
        by_cases h5 : t.head? = some 61 ∧ (c = 60 ∨ c = 33 ∨ c = 62 ∨ c = 94)
        · rw [if_pos h5, if_pos h5]; rfl
        · rw [if_neg h5, if_neg h5]
          by_cases h6 : c = 40 ∨ c = 41 ∨ c = 44 ∨ c = 60 ∨ c = 61 ∨ c = 62
          · rw [if_pos h6, if_pos h6]; rfl
          · rw [if_neg h6, if_neg h6]; rfl
/-! ### all of them -/
theorem drop_cons {s : Str} {a : Nat} {c : UInt8} {t : Str} (h : c :: t = s.drop a) : ∃ hlt : a < s.length, s[a] = c ∧ t = s.drop (a + 1) := by
  have hlt : a < s.length := by have := congrArg List.length h; simp at this; omega
  have hd := List.drop_eq_getElem_cons hlt
  rw [← h] at hd
  obtain ⟨hc, ht⟩ := List.cons.inj hd
  exact ⟨hlt, hc.symm, ht⟩
theorem toks_len : ∀ (m : Nat) (l : Str) (a : Nat) (L : List ttokenToken), l.length ≤ m → toks a l = some L → L.length ≤ l.length
  | _, [], a, L, _, h => by rw [toks_nil] at h; cases h; simp
  | 0, c :: t, a, L, hm, h => by simp at hm
  | m + 1, c :: t, a, L, hm, h => by
    simp only [List.length_cons] at hm
    by_cases hc : c = 32
    · subst hc; rw [toks_sp] at h
      have := toks_len m t _ _ (by omega) h
      simp; omega
    · cases ht : tok (c :: t) with
      | none => rw [toks_none hc ht] at h; cases h
      | some p =>
        obtain ⟨x, j⟩ := p
        rw [toks_some hc ht] at h
        obtain ⟨L', h1, rfl⟩ := Option.map_eq_some_iff.1 h
        have hj := tok_len ht
        have := toks_len m ((c :: t).drop j) _ _ (by simp; omega) h1
        simp only [List.length_drop, List.length_cons] at *; omega
theorem cut_loop {n : Nat} {s : Str} (hs : s.length ≤ 1000) (hn : 2000 < n) : ∀ (m : Nat) (l : Str) (a : Nat) (out : List ttokenToken) (k : Nat), l.length ≤ m → l = s.drop a → a ≤ s.length → out.length + l.length ≤ 1000 → m < k →
    loopD (ε := Int × (List ttokenToken)) (τ := (List ttokenToken) ⊕ ((List ttokenToken) × Er)) (fun (((at1, out1)) : Int × (List ttokenToken)) => (bif (decide (at1 < (s.length : Int))) then ((gi s at1).bind fun c1 => bif ((c1.toNat : Int) == 32) then some (Sum.inl (W (at1 + 1), out1)) else ((gsl s at1 (s.length : Int)).bind fun s2 => (dtoken_one n s2).bind fun n1 => bif (n1.2 == 0) then some (Sum.inr (Sum.inr ([], (some 2)))) else ((ap out1 [(ttokenToken.mk n1.1.Kind at1 n1.1.N n1.1.S)]).bind fun out4 => some (Sum.inl (W (at1 + n1.2), out4))))) else some (Sum.inr (Sum.inl out1)))) k ((a : Int), out)
    = some (match toks a l with | some L => .inl (out ++ L) | none => .inr ([], some 2))
  | m, [], a, out, k, hm, hl, ha, ho, hk => by
    obtain ⟨k, rfl⟩ : ∃ j, k = j + 1 := ⟨k - 1, by omega⟩
    have : a = s.length := by have := congrArg List.length hl; simp at this; omega
    subst this
    rw [toks_nil]
    have hd : decide ((s.length : Int) < (s.length : Int)) = false := by simp
    exact loopD_end (by simp only [hd, cond_false, List.append_nil])
  | 0, c :: t, a, out, k, hm, hl, ha, ho, hk => by simp at hm
  | m + 1, c :: t, a, out, k, hm, hl, ha, ho, hk => by
    obtain ⟨k, rfl⟩ : ∃ j, k = j + 1 := ⟨k - 1, by omega⟩
    obtain ⟨hlt, hc, ht⟩ := drop_cons hl
    have hd : decide ((a : Int) < (s.length : Int)) = true := by simpa using hlt
    have e32 : (((c.toNat : Nat) : Int) == 32) = decide (c = 32) := nn c 32 (by decide)
    simp only [List.length_cons] at hm ho
    by_cases h32 : c = 32
    · subst h32
      rw [toks_sp]
      refine (loopD_go (s' := (((a + 1 : Nat) : Int), out)) ?_).trans (cut_loop hs hn m t (a + 1) out k (by omega) ht hlt (by omega) (by omega))
      simp only [hd, cond_true, gi_lt hlt, hc, Option.bind_some, W_suc (show a + 1 < 9223372036854775808 by omega)]
      rfl
    · have hg : gsl s (a : Int) (s.length : Int) = some (c :: t) := by rw [hl]; exact gsl_from s ha
      have hlen : (c :: t).length ≤ 1000 := by rw [hl]; simp; omega
      obtain ⟨x, h1⟩ := done_ (n := n) (c := c) (t := t) (by omega) (by omega) (by omega)
      rw [decide_eq_false h32] at e32
      cases htk : tok (c :: t) with
      | none =>
        rw [htk] at h1
        rw [toks_none h32 htk]
        refine loopD_end ?_
        simp only [hd, cond_true, gi_lt hlt, hc, Option.bind_some, e32, cond_false, hg, h1]
        rfl
      | some p =>
        obtain ⟨y, j⟩ := p
        rw [htk] at h1
        rw [toks_some h32 htk]
        have hj := tok_len htk
        simp only [List.length_cons] at hj
        have hta : t.length + 1 = s.length - a := by have := congrArg List.length hl; simpa using this
        have hz : (((j : Nat) : Int) == 0) = false := beq_false_of_ne (by omega)
        have hap : ap out [(ttokenToken.mk y.k (a : Int) y.n y.s)] = some (out ++ [⟨y.k, (a : Int), y.n, y.s⟩]) := ap_ok (Nat.le_trans (show out.length + 1 ≤ 1001 by omega) (by decide))
        have hW : W ((a : Int) + (j : Int)) = ((a + j : Nat) : Int) := by rw [show (a : Int) + (j : Int) = ((a + j : Nat) : Int) by omega]; exact W_nat (by omega)
        have hdr : (c :: t).drop j = s.drop (a + j) := by rw [hl, List.drop_drop]
        refine (loopD_go (s' := (((a + j : Nat) : Int), out ++ [⟨y.k, (a : Int), y.n, y.s⟩])) ?_).trans ((cut_loop hs hn m ((c :: t).drop j) (a + j) _ k (by simp; omega) hdr (by omega) (by simp; omega) (by omega)).trans ?_)
        · simp only [hd, cond_true, gi_lt hlt, hc, Option.bind_some, e32, cond_false, hg, h1, hz, hap, hW]
        · cases toks (a + j) ((c :: t).drop j) <;> simp
def cutC (s : Str) : List ttokenToken × Er := if 500 < s.length then ([], some 5) else match toks 0 s with | some L => (L, none) | none => ([], some 2)
theorem dCut {n : Nat} {s : Str} (hn : 2000 < n) : dtoken_Cut n s = some (cutC s) := by
  unfold dtoken_Cut cutC
  by_cases h : 500 < s.length
  · have hd : decide ((s.length : Int) > 500) = true := by simp; omega
    rw [hd, if_pos h]; rfl
  · have hd : decide ((s.length : Int) > 500) = false := by simp; omega
    rw [hd, if_neg h, cond_false]
    refine (congrArg (fun o => Option.bind o _) (cut_loop (n := n) (s := s) (by omega) hn s.length s 0 [] n (Nat.le_refl _) (by simp) (Nat.zero_le _) (by simp; omega) (by omega))).trans ?_
    cases toks 0 s <;> simp [kS]
/-! ### the document's -/
theorem drnum_loop {n : Nat} {s : Str} (hs : s.length ≤ 1000) : ∀ (r : Str) (i : Nat) (b : Nat) (pre : Str) (k : Nat) (v : Int) (big : Bool), pre.length = i → r = s.drop (b + i) → b + i ≤ s.length → r.length < k →
    (big = decide (9223372036854775808 < dv 0 pre)) → (big = false → v = (dv 0 pre : Int)) →
    ∃ v' big', loopD (ε := Int × Int × Bool) (τ := Int × Int × Bool) (fun (((at3, n1, big1)) : Int × Int × Bool) => ((bif (decide (at3 < (s.length : Int))) then ((gi s at3).bind fun c2 => (dref06_digit n (c2.toNat : Int)).bind fun x2 => some x2) else some false : Option Bool).bind fun (x1 : Bool) => (bif x1 then ((bif big1 then some true else (bif (decide (n1 > 922337203685477580)) then some true else (bif (n1 == 922337203685477580) then ((gi s at3).bind fun c3 => (some (decide ((c3.toNat : Int) > 56))).bind fun big5 => some big5) else some false)) : Option Bool).bind fun (big4 : Bool) => ((gi s at3).bind fun c4 => (some (IntKind.wrap .u64 ((IntKind.wrap .u64 (10 * n1)) + (IntKind.wrap .u64 (IntKind.wrap .u8 ((c4.toNat : Int) - 48)))))).bind fun n4 => some (Sum.inl (W (at3 + 1), n4, big4)))) else some (Sum.inr (at3, n1, big1))))) k (((b + i : Nat) : Int), v, big)
      = some (((b + i + front isDig r : Nat) : Int), v', big') ∧ big' = decide (9223372036854775808 < dv 0 (pre ++ r.take (front isDig r))) ∧ (big' = false → v' = (dv 0 (pre ++ r.take (front isDig r)) : Int))
  | [], i, b, pre, k, v, big, hp, hr, hi, hk, h1, h2 => by
    obtain ⟨k, rfl⟩ : ∃ j, k = j + 1 := ⟨k - 1, by omega⟩
    have : b + i = s.length := by have := congrArg List.length hr; simp at this; omega
    have hd : decide (((b + i : Nat) : Int) < (s.length : Int)) = false := by rw [this]; simp
    refine ⟨v, big, loopD_end ?_, by simpa [front] using h1, by simpa [front] using h2⟩
    simp only [hd, cond_false, Option.bind_some, front, Nat.add_zero]
  | c :: r, i, b, pre, k, v, big, hp, hr, hi, hk, h1, h2 => by
    obtain ⟨k, rfl⟩ : ∃ j, k = j + 1 := ⟨k - 1, by omega⟩
    obtain ⟨hlt, hc, ht⟩ := drop_cons hr
    have hd : decide (((b + i : Nat) : Int) < (s.length : Int)) = true := by simp; omega
    by_cases hdig : isDig c = true
    · have hcd := hdig
      unfold isDig at hcd
      simp only [Bool.and_eq_true, decide_eq_true_eq] at hcd
      have hu8 : IntKind.wrap .u64 (IntKind.wrap .u8 ((c.toNat : Int) - 48)) = ((c.toNat - 48 : Nat) : Int) := by
        rw [show (c.toNat : Int) - 48 = ((c.toNat - 48 : Nat) : Int) by omega, wrap_u8]
        have : (((c.toNat - 48 : Nat) : Int)) % 256 = ((c.toNat - 48 : Nat) : Int) := by omega
        rw [this]; exact wrap_u64 (by omega)
      obtain ⟨big4, hb4, hb4'⟩ : ∃ big4, (bif big then some true else (bif (decide (v > 922337203685477580)) then some true else (bif (v == 922337203685477580) then ((gi s ((b + i : Nat) : Int)).bind fun c3 => (some (decide ((c3.toNat : Int) > 56))).bind fun big5 => some big5) else some false)) : Option Bool) = some big4 ∧ big4 = decide (9223372036854775808 < dv 0 (pre ++ [c])) := by
        rw [dv_append]
        cases hbig : big with
        | true =>
          rw [hbig] at h1
          have := of_decide_eq_true h1.symm
          exact ⟨true, rfl, by symm; rw [decide_eq_true_eq]; omega⟩
        | false =>
          rw [hbig] at h1
          have hlo := of_decide_eq_false h1.symm
          have hv := h2 hbig
          subst hv
          by_cases g1 : 922337203685477580 < dv 0 pre
          · have : decide ((dv 0 pre : Int) > 922337203685477580) = true := by simp; omega
            exact ⟨true, by rw [this]; rfl, by symm; rw [decide_eq_true_eq]; omega⟩
          · have : decide ((dv 0 pre : Int) > 922337203685477580) = false := by simp; omega
            by_cases g2 : dv 0 pre = 922337203685477580
            · have e : ((dv 0 pre : Int) == 922337203685477580) = true := by simp; omega
              refine ⟨decide (57 ≤ c.toNat), ?_, ?_⟩
              · simp only [this, e, cond_true, cond_false, gi_lt hlt, hc, Option.bind_some]
                congr 1; rw [Bool.eq_iff_iff]; simp; omega
              · rw [Bool.eq_iff_iff]; simp; omega
            · have e : ((dv 0 pre : Int) == 922337203685477580) = false := beq_false_of_ne (by omega)
              refine ⟨false, by simp only [this, e, cond_false], ?_⟩
              symm; rw [decide_eq_false_iff_not]; omega
      have hv4 : big4 = false → IntKind.wrap .u64 ((IntKind.wrap .u64 (10 * v)) + (IntKind.wrap .u64 (IntKind.wrap .u8 ((c.toNat : Int) - 48)))) = (dv 0 (pre ++ [c]) : Int) := by
        intro h4
        rw [h4] at hb4'
        have hlo := of_decide_eq_false hb4'.symm
        rw [dv_append] at hlo ⊢
        have hbig : big = false := by
          rw [h1, decide_eq_false_iff_not]; omega
        have hv := h2 hbig
        subst hv
        rw [hu8, show 10 * (dv 0 pre : Int) = ((dv 0 pre * 10 : Nat) : Int) by omega, wrap_u64 (by omega), ← Int.natCast_add, wrap_u64 (by omega)]
      obtain ⟨v', big', e1, e2, e3⟩ := drnum_loop (n := n) hs r (i + 1) b (pre ++ [c]) k (IntKind.wrap .u64 ((IntKind.wrap .u64 (10 * v)) + (IntKind.wrap .u64 (IntKind.wrap .u8 ((c.toNat : Int) - 48))))) big4 (by simp; omega) ht (by omega) (by simpa using hk) hb4' hv4
      have hf : front isDig (c :: r) = front isDig r + 1 := by rw [front, if_pos hdig]
      have htk : pre ++ [c] ++ r.take (front isDig r) = pre ++ (c :: r).take (front isDig (c :: r)) := by rw [hf]; simp
      rw [htk] at e2 e3
      refine ⟨v', big', (loopD_go (s' := (((b + (i + 1) : Nat) : Int), _, big4)) ?_).trans (e1.trans ?_), e2, e3⟩
      · simp only [hd, cond_true, gi_lt hlt, hc, drdigit, hdig, Option.bind_some] at hb4 ⊢
        rw [hb4]
        simp only [Option.bind_some, W_suc (show b + i + 1 < 9223372036854775808 by omega)]
        rfl
      · rw [hf]; congr 3; omega
    · have hdig : isDig c = false := by simpa using hdig
      have hf : front isDig (c :: r) = 0 := by rw [front, if_neg (by simp [hdig])]
      refine ⟨v, big, loopD_end ?_, by rw [hf]; simpa using h1, by rw [hf]; simpa using h2⟩
      simp only [hd, cond_true, gi_lt hlt, hc, drdigit, hdig, Option.bind_some, cond_false, hf, Nat.add_zero]
theorem drnumber {n : Nat} {s : Str} {a : Nat} {c : UInt8} {t : Str} (hs : s.length ≤ 1000) (hl : c :: t = s.drop a) (hc : isDig c = true ∨ c = 45) (hn : 2000 < n) :
    ∃ v b, dref06_number n s (a : Int) = some (match numS (c :: t) with | some (y, k) => (y, ((a + k : Nat) : Int), true) | none => (v, b, false)) := by
  obtain ⟨hlt, hca, ht⟩ := drop_cons hl
  have e45 : (((c.toNat : Nat) : Int) == 45) = decide (c = 45) := nn c 45 (by decide)
  have e48 : ∀ d : UInt8, (((d.toNat : Nat) : Int) == 48) = decide (d = 48) := fun d => nn d 48 (by decide)
  unfold dref06_number
  rw [gi_lt hlt, Option.bind_some, hca, e45, Option.bind_some]
  by_cases h45 : c = 45
  · subst h45
    have hWa : W ((a : Int) + 1) = ((a + 1 : Nat) : Int) := W_suc (by omega)
    simp only [decide_true, cond_true, hWa, Option.bind_some]
    have hf := front_le isDig t
    have htl : t.length = s.length - (a + 1) := by rw [ht]; simp
    obtain ⟨v', big', e1, e2, e3⟩ := drnum_loop (n := n) hs t 0 (a + 1) [] n 0 false rfl (by simpa using ht) (by omega) (by omega) (by decide) (by intro _; rfl)
    refine ⟨0, ((a + 1 + front isDig t : Nat) : Int), (congrArg (fun o => Option.bind o _) e1).trans ?_⟩
    simp only [List.nil_append] at e2 e3
    simp only [Option.bind_some, Nat.add_zero, numS, if_true, decide_true, Bool.not_true, cond_false, cond_true]
    have hWs : W (((a + 1 + front isDig t : Nat) : Int) - ((a + 1 : Nat) : Int)) = (front isDig t : Int) := by rw [show ((a + 1 + front isDig t : Nat) : Int) - ((a + 1 : Nat) : Int) = (front isDig t : Int) by omega]; exact W_nat (by omega)
    rw [hWs]
    by_cases h0 : front isDig t = 0
    · have hz : (((a + 1 + front isDig t : Nat) : Int) == ((a + 1 : Nat) : Int)) = true := by simp; omega
      rw [hz, if_pos (Or.inl h0)]; rfl
    · have hz : (((a + 1 + front isDig t : Nat) : Int) == ((a + 1 : Nat) : Int)) = false := beq_false_of_ne (by omega)
      rw [hz]; simp only [cond_false]
      have hrest : ∀ (P : Prop) [Decidable P], (P ↔ (1 < front isDig t ∧ t.head? = some 48)) → ((bif decide P then some true else (bif big' then some true else (bif (v' == 0) then some true else some false)) : Option Bool).bind fun (x3 : Bool) => (bif x3 then some ((0 : Int), ((a + 1 + front isDig t : Nat) : Int), false) else ((some (W ((W (0 - (W (IntKind.wrap .u64 (v' - 1))))) - 1))).bind fun x4 => some (x4, ((a + 1 + front isDig t : Nat) : Int), true)))) =
          some (match (if front isDig t = 0 ∨ (1 < front isDig t ∧ t.head? = some 48) ∨ dv 0 (t.take (front isDig t)) = 0 ∨ 9223372036854775808 < dv 0 (t.take (front isDig t)) then none else some (-(dv 0 (t.take (front isDig t)) : Int), front isDig t + 1) : Option (Int × Nat)) with | some (y, k) => (y, ((a + k : Nat) : Int), true) | none => (0, ((a + 1 + front isDig t : Nat) : Int), false)) := by
        intro P _ hP
        by_cases hp : P
        · rw [decide_eq_true hp, if_pos (Or.inr (Or.inl (hP.1 hp)))]; rfl
        · have hp' : ¬ (1 < front isDig t ∧ t.head? = some 48) := fun h => hp (hP.2 h)
          rw [decide_eq_false hp]
          simp only [cond_false]
          cases hbig : big' with
          | true =>
            rw [hbig] at e2
            have := of_decide_eq_true e2.symm
            rw [if_pos (Or.inr (Or.inr (Or.inr this)))]; rfl
          | false =>
            have hv := e3 hbig
            rw [hbig] at e2
            have hlo := of_decide_eq_false e2.symm
            subst hv
            clear e1 e3
            by_cases hV : dv 0 (t.take (front isDig t)) = 0
            · have hz : ((dv 0 (t.take (front isDig t)) : Int) == 0) = true := by rw [hV]; rfl
              rw [if_pos (Or.inr (Or.inr (Or.inl hV)))]
              simp only [hz, cond_true, cond_false, Option.bind_some]
            · have hz : ((dv 0 (t.take (front isDig t)) : Int) == 0) = false := beq_false_of_ne (by omega)
              rw [if_neg (fun h => h.elim h0 fun h => h.elim hp' fun h => h.elim hV hlo)]
              simp only [hz, cond_false, Option.bind_some]
              have w1 : IntKind.wrap .u64 ((dv 0 (t.take (front isDig t)) : Int) - 1) = ((dv 0 (t.take (front isDig t)) - 1 : Nat) : Int) := by rw [show (dv 0 (t.take (front isDig t)) : Int) - 1 = ((dv 0 (t.take (front isDig t)) - 1 : Nat) : Int) by omega]; exact wrap_u64 (by omega)
              rw [w1, W_nat (show dv 0 (t.take (front isDig t)) - 1 < 9223372036854775808 by omega), W_id (n := 0 - ((dv 0 (t.take (front isDig t)) - 1 : Nat) : Int)) (by omega), W_id (by omega)]
              congr 2
              · omega
              · congr 1; omega
      by_cases h1 : 1 < front isDig t
      · have hd1 : decide ((front isDig t : Int) > 1) = true := by simp; omega
        cases t with
        | nil => simp [front] at h1
        | cons d t =>
          obtain ⟨hlt2, hd2, _⟩ := drop_cons ht
          simp only [hd1, cond_true, gi_lt hlt2, hd2, Option.bind_some, e48]
          exact hrest (d = 48) ⟨fun h => ⟨h1, by rw [h]; rfl⟩, fun h => by simpa using h.2⟩
      · have hd1 : decide ((front isDig t : Int) > 1) = false := by simp; omega
        simp only [hd1, cond_false]
        exact (hrest False ⟨False.elim, fun h => h1 h.1⟩)
  · have hdig : isDig c = true := hc.resolve_right h45
    rw [decide_eq_false h45]
    simp only [cond_false, Option.bind_some]
    have hf := front_le isDig (c :: t)
    have hlen : (c :: t).length = s.length - a := by rw [hl]; simp
    have hpos : front isDig (c :: t) = front isDig t + 1 := by rw [front, if_pos hdig]
    obtain ⟨v', big', e1, e2, e3⟩ := drnum_loop (n := n) hs (c :: t) 0 a [] n 0 false rfl (by simpa using hl) (by omega) (by omega) (by decide) (by intro _; rfl)
    refine ⟨0, ((a + front isDig (c :: t) : Nat) : Int), (congrArg (fun o => Option.bind o _) e1).trans ?_⟩
    simp only [List.nil_append] at e2 e3
    simp only [Option.bind_some, Nat.add_zero, numS, if_neg h45, Bool.not_false, cond_false, cond_true]
    have hWs : W (((a + front isDig (c :: t) : Nat) : Int) - (a : Int)) = (front isDig (c :: t) : Int) := by rw [show ((a + front isDig (c :: t) : Nat) : Int) - (a : Int) = (front isDig (c :: t) : Int) by omega]; exact W_nat (by omega)
    rw [hWs]
    have hz : (((a + front isDig (c :: t) : Nat) : Int) == (a : Int)) = false := beq_false_of_ne (by omega)
    rw [hz]; simp only [cond_false, gi_lt hlt, hca, Option.bind_some, e48]
    have hrest : ∀ (P : Prop) [Decidable P], (P ↔ (1 < front isDig (c :: t) ∧ c = 48)) → ((bif decide P then some true else (bif big' then some true else some (v' == 9223372036854775808)) : Option Bool).bind fun (x3 : Bool) => (bif x3 then some ((0 : Int), ((a + front isDig (c :: t) : Nat) : Int), false) else some (W v', ((a + front isDig (c :: t) : Nat) : Int), true))) =
        some (match (if front isDig (c :: t) = 0 ∨ (1 < front isDig (c :: t) ∧ c = 48) ∨ 9223372036854775808 ≤ dv 0 ((c :: t).take (front isDig (c :: t))) then none else some ((dv 0 ((c :: t).take (front isDig (c :: t))) : Int), front isDig (c :: t)) : Option (Int × Nat)) with | some (y, k) => (y, ((a + k : Nat) : Int), true) | none => (0, ((a + front isDig (c :: t) : Nat) : Int), false)) := by
      intro P _ hP
      by_cases hp : P
      · rw [decide_eq_true hp, if_pos (Or.inr (Or.inl (hP.1 hp)))]; rfl
      · have hp' : ¬ (1 < front isDig (c :: t) ∧ c = 48) := fun h => hp (hP.2 h)
        rw [decide_eq_false hp]
        simp only [cond_false]
        cases hbig : big' with
        | true =>
          rw [hbig] at e2
          have := of_decide_eq_true e2.symm
          rw [if_pos (Or.inr (Or.inr (Nat.le_of_lt this)))]; rfl
        | false =>
          have hv := e3 hbig
          rw [hbig] at e2
          have hlo := of_decide_eq_false e2.symm
          subst hv
          clear e1 e3
          by_cases hV : dv 0 ((c :: t).take (front isDig (c :: t))) = 9223372036854775808
          · have hz : ((dv 0 ((c :: t).take (front isDig (c :: t))) : Int) == 9223372036854775808) = true := by rw [hV]; rfl
            rw [if_pos (Or.inr (Or.inr (by omega)))]
            simp only [hz, cond_true, cond_false, Option.bind_some]
          · have hz : ((dv 0 ((c :: t).take (front isDig (c :: t))) : Int) == 9223372036854775808) = false := beq_false_of_ne (by omega)
            rw [if_neg (fun h => h.elim (by omega) fun h => h.elim hp' (by omega))]
            simp only [hz, cond_false, Option.bind_some]
            rw [W_nat (show dv 0 ((c :: t).take (front isDig (c :: t))) < 9223372036854775808 by omega)]
    by_cases h1 : 1 < front isDig (c :: t)
    · have hd1 : decide ((front isDig (c :: t) : Int) > 1) = true := by simp; omega
      simp only [hd1, cond_true]
      exact hrest (c = 48) ⟨fun h => ⟨h1, h⟩, fun h => h.2⟩
    · have hd1 : decide ((front isDig (c :: t) : Int) > 1) = false := by simp; omega
      simp only [hd1, cond_false]
      exact hrest False ⟨False.elim, fun h => h1 h.1⟩
end Go.Proofs.YtaekecbadkcggaaDoor
