/- The texts of a proof, put together by a program of this session's. -/
import Derived.Lib.ParseIntB
import Derived.Test.YtbkomicjhfldmaaGreatDoorM9
namespace Go.Proofs.YtbkomicjhfldmaaGreatDoor
open Go.Pv
set_option linter.unusedSimpArgs false
set_option linter.unusedVariables false
set_option linter.unusedSectionVars false
set_option maxRecDepth 100000
def isLow (c : UInt8) : Bool := decide (97 ≤ c.toNat) && decide (c.toNat ≤ 122)
def isDig (c : UInt8) : Bool := decide (48 ≤ c.toNat) && decide (c.toNat ≤ 57)
def isAl (c : UInt8) : Bool := isLow c || isDig c
def isTx (c : UInt8) : Bool := decide (32 ≤ c.toNat) && (decide (c.toNat ≤ 126) && c != 34)
def front (p : UInt8 → Bool) : Str → Nat
  | [] => 0
  | c :: l => if p c then front p l + 1 else 0
theorem front_le (p : UInt8 → Bool) : ∀ l, front p l ≤ l.length
  | [] => Nat.le_refl _
  | c :: l => by rw [front]; split <;> simp; exact front_le p l
theorem front_lt (p : UInt8 → Bool) : ∀ (l : Str) (i : Nat) (h : i < l.length), i < front p l → p l[i] = true
  | c :: l, i, h, hi => by
    rw [front] at hi
    split at hi
    · rename_i hc
      cases i with
      | zero => exact hc
      | succ i => exact front_lt p l i (by simpa using h) (by omega)
    · omega
def dstep (a : Nat) (c : UInt8) : Nat := a * 10 + (c.toNat - 48)
def dgv (a : Nat) (l : Str) : Nat := l.foldl dstep a
theorem dv_nil (a : Nat) : dgv a [] = a := rfl
theorem dv_cons (a : Nat) (c : UInt8) (l : Str) : dgv a (c :: l) = dgv (a * 10 + (c.toNat - 48)) l := by unfold dgv; rw [List.foldl_cons]; rfl
theorem dv_ge : ∀ (l : Str) (a : Nat), a ≤ dgv a l
  | [], a => Nat.le_refl _
  | c :: l, a => by rw [dv_cons]; have := dv_ge l (a * 10 + (c.toNat - 48)); omega
def numS (l : Str) : Option (Int × Nat) := match l with
  | [] => none
  | c :: t =>
    if c = 45 then
      if front isDig t = 0 ∨ (1 < front isDig t ∧ t.head? = some 48) ∨ dgv 0 (t.take (front isDig t)) = 0 ∨ 9223372036854775808 < dgv 0 (t.take (front isDig t)) then none
      else some (-(dgv 0 (t.take (front isDig t)) : Int), front isDig t + 1)
    else
      if front isDig (c :: t) = 0 ∨ (1 < front isDig (c :: t) ∧ c = 48) ∨ 9223372036854775808 ≤ dgv 0 ((c :: t).take (front isDig (c :: t))) then none
      else some ((dgv 0 ((c :: t).take (front isDig (c :: t))) : Int), front isDig (c :: t))
def wordsL : List Str := [[97, 110, 100], [111, 114], [110, 111, 116], [105, 110], [116, 114, 117, 101]]
structure Tok where
  k : Int
  n : Int
  s : Str
def tok : Str → Option (Tok × Nat)
  | [] => none
  | c :: t =>
    if isLow c then
      if front isAl (c :: t) ≤ 20 then some (⟨if wordsL.contains ((c :: t).take (front isAl (c :: t))) then 2 else 1, 0, (c :: t).take (front isAl (c :: t))⟩, front isAl (c :: t)) else none
    else if isDig c ∨ c = 45 then (numS (c :: t)).map fun x => (⟨3, x.1, []⟩, x.2)
    else if c = 34 then
      if front isTx t ≤ 200 ∧ t[front isTx t]? = some 34 then some (⟨4, 0, t.take (front isTx t)⟩, front isTx t + 2) else none
    else if t.head? = some 61 ∧ (c = 60 ∨ c = 33 ∨ c = 62 ∨ c = 94) then some (⟨5, 0, [c, 61]⟩, 2)
    else if c = 40 ∨ c = 41 ∨ c = 44 ∨ c = 60 ∨ c = 61 ∨ c = 62 then some (⟨5, 0, [c]⟩, 1) else none
theorem tok_len {l : Str} {x : Tok} {j : Nat} (h : tok l = some (x, j)) : 0 < j ∧ j ≤ l.length := by
  cases l with
  | nil => cases h
  | cons c t =>
    rw [tok] at h
    split at h
    · rename_i hc
      split at h
      · cases h
        have : front isAl (c :: t) = front isAl t + 1 := by rw [front, if_pos (by simp [isAl, hc])]
        have h2 := front_le isAl t
        rw [this]; simp; omega
      · cases h
    · split at h
      · unfold numS at h
        split at h
        · cases h
        · rename_i c' t' heq
          cases heq
          split at h
          · split at h
            · cases h
            · have h2 := front_le isDig t
              simp only [Option.map_some, Option.some.injEq, Prod.mk.injEq] at h
              obtain ⟨_, rfl⟩ := h
              simp; omega
          · split at h
            · cases h
            · rename_i hn
              have h2 := front_le isDig (c :: t)
              simp only [Option.map_some, Option.some.injEq, Prod.mk.injEq] at h
              obtain ⟨_, rfl⟩ := h
              exact ⟨by omega, h2⟩
      · split at h
        · split at h
          · rename_i hh
            cases h
            have := (List.getElem?_eq_some_iff.1 hh.2).1
            simp; omega
          · cases h
        · split at h
          · rename_i hh
            cases h
            cases t with
            | nil => simp at hh
            | cons d t => simp
          · split at h
            · cases h; simp
            · cases h
def toks (a : Nat) (l : Str) : Option (List ttokenToken) := match l with
  | [] => some []
  | c :: t => if c = 32 then toks (a + 1) t else match h : tok (c :: t) with
    | none => none
    | some (x, j) => (toks (a + j) ((c :: t).drop j)).map fun L => ⟨x.k, (a : Int), x.n, x.s⟩ :: L
termination_by l.length
decreasing_by
  · simp
  · have := tok_len h; simp only [List.length_drop, List.length_cons] at *; omega
theorem toks_nil (a : Nat) : toks a [] = some [] := by rw [toks]
theorem toks_sp (a : Nat) (t : Str) : toks a (32 :: t) = toks (a + 1) t := by rw [toks]; simp
theorem toks_none {a : Nat} {c : UInt8} {t : Str} (hc : c ≠ 32) (h : tok (c :: t) = none) : toks a (c :: t) = none := by
  rw [toks, if_neg hc]; split
  · rfl
  · rename_i x j heq; rw [h] at heq; cases heq
theorem toks_some {a : Nat} {c : UInt8} {t : Str} (hc : c ≠ 32) {x : Tok} {j : Nat} (h : tok (c :: t) = some (x, j)) : toks a (c :: t) = (toks (a + j) ((c :: t).drop j)).map fun L => ⟨x.k, (a : Int), x.n, x.s⟩ :: L := by
  rw [toks, if_neg hc]; split
  · rename_i heq; rw [h] at heq; cases heq
  · rename_i x' j' heq; rw [h] at heq; cases heq; rfl
theorem nn (c : UInt8) (k : Nat) (hk : k < 256) : (((c.toNat : Nat) : Int) == (k : Int)) = decide (c = UInt8.ofNat k) := by
  rw [Bool.eq_iff_iff]; simp only [beq_iff_eq, decide_eq_true_eq]
  constructor
  · intro h
    have : c.toNat = k := by omega
    rw [← this, UInt8.ofNat_toNat]
  · rintro rfl
    rw [UInt8.toNat_ofNat']; have := Nat.mod_eq_of_lt hk; omega
theorem dge (c : UInt8) (k : Nat) : decide (((c.toNat : Nat) : Int) ≥ (k : Int)) = decide (k ≤ c.toNat) := by rw [Bool.eq_iff_iff]; simp
theorem dle (c : UInt8) (k : Nat) : decide (((c.toNat : Nat) : Int) ≤ (k : Int)) = decide (c.toNat ≤ k) := by rw [Bool.eq_iff_iff]; simp
theorem dlower (n : Nat) (c : UInt8) : dtoken_lower n (c.toNat : Int) = some (isLow c) := by
  have h1 := dge c 97; have h2 := dle c 122
  unfold dtoken_lower isLow
  rw [show (97 : Int) = ((97 : Nat) : Int) from rfl, show (122 : Int) = ((122 : Nat) : Int) from rfl, h1, h2]
  cases decide (97 ≤ c.toNat) <;> rfl
theorem ddigit (n : Nat) (c : UInt8) : dtoken_digit n (c.toNat : Int) = some (isDig c) := by
  have h1 := dge c 48; have h2 := dle c 57
  unfold dtoken_digit isDig
  rw [show (48 : Int) = ((48 : Nat) : Int) from rfl, show (57 : Int) = ((57 : Nat) : Int) from rfl, h1, h2]
  cases decide (48 ≤ c.toNat) <;> rfl
theorem done1 (n : Nat) (c : UInt8) : dtoken_one_1 n (c.toNat : Int) = some (isAl c) := by
  unfold dtoken_one_1 isAl; rw [dlower, ddigit]; cases isLow c <;> rfl
theorem bne34 (c : UInt8) : (((c.toNat : Nat) : Int) != 34) = (c != 34) := by
  have := nn c 34 (by decide)
  show (!(((c.toNat : Nat) : Int) == 34)) = (!(c == 34))
  rw [show (34 : Int) = ((34 : Nat) : Int) from rfl, this]; rfl
theorem done2 (n : Nat) (c : UInt8) : dtoken_one_2 n (c.toNat : Int) = some (isTx c) := by
  have h1 := dge c 32; have h2 := dle c 126
  unfold dtoken_one_2 isTx
  rw [show (32 : Int) = ((32 : Nat) : Int) from rfl, show (126 : Int) = ((126 : Nat) : Int) from rfl, h1, h2, bne34]
  cases decide (32 ≤ c.toNat) <;> cases decide (c.toNat ≤ 126) <;> rfl
theorem front_loop {p : UInt8 → Bool} {s : Str} {body : Int → Option (Int ⊕ Int)} (hs : s.length ≤ 1000000) (hb : ∀ i (h : i < s.length), body (i : Int) = some (if p s[i] then .inl (W ((i : Int) + 1)) else .inr (i : Int)))
    (he : body (s.length : Int) = some (.inr (s.length : Int))) : ∀ (l : Str) (a n : Nat), l = s.drop a → a ≤ s.length → l.length < n → loopD body n (a : Int) = some ((a + front p l : Nat) : Int)
  | [], a, n, hl, ha, hn => by
    obtain ⟨n, rfl⟩ : ∃ j, n = j + 1 := ⟨n - 1, by omega⟩
    have : a = s.length := by have := congrArg List.length hl; simp at this; omega
    subst this
    exact loopD_end he
  | c :: l, a, n, hl, ha, hn => by
    obtain ⟨n, rfl⟩ : ∃ j, n = j + 1 := ⟨n - 1, by omega⟩
    have hlt : a < s.length := by have := congrArg List.length hl; simp at this; omega
    have hd := List.drop_eq_getElem_cons hlt
    rw [← hl] at hd
    obtain ⟨hc, ht⟩ := List.cons.inj hd
    have h1 := hb a hlt
    rw [← hc] at h1
    rw [front]
    cases hp : p c with
    | true =>
      rw [hp] at h1
      refine (loopD_go (s' := ((a + 1 : Nat) : Int)) (by rw [h1, W_suc (by omega)]; rfl)).trans ?_
      rw [front_loop hs hb he l (a + 1) n ht hlt (by simpa using hn)]
      simp; omega
    | false =>
      rw [hp] at h1
      exact loopD_end h1
theorem dupto {p : UInt8 → Bool} {n : Nat} {s : Str} {f : Int → Option Bool} (hf : ∀ c : UInt8, f (c.toNat : Int) = some (p c)) (hs : s.length ≤ 1000000) (hn : s.length < n) : dtoken_upto n s f = some (front p s : Int) := by
  unfold dtoken_upto
  have := front_loop (p := p) (s := s) (body := fun (n1 : Int) => ((bif (decide (n1 < (s.length : Int))) then ((gi s n1).bind fun c1 => (f (c1.toNat : Int)).bind fun x2 => some x2) else some false : Option Bool).bind fun (x1 : Bool) => (bif x1 then some (Sum.inl (W (n1 + 1))) else some (Sum.inr n1)))) hs ?_ ?_ s 0 n (by simp) (Nat.zero_le _) hn
  · refine (congrArg (fun o => Option.bind o _) this).trans ?_
    simp
  · intro i h
    have hd : decide ((i : Int) < (s.length : Int)) = true := by simpa using h
    simp only [hd, cond_true, gi_lt h, Option.bind_some, hf]
    cases p s[i] <;> rfl
  · have hd : decide ((s.length : Int) < (s.length : Int)) = false := by simp
    simp only [hd, cond_false, Option.bind_some]
theorem parseU {M : Nat} (hM : M ≤ 18446744073709551615) : ∀ (l : Str) (a : Nat), (∀ c ∈ l, isDig c = true) → a ≤ M → Lib.parseUintM M a l = if dgv a l ≤ M then .ok (dgv a l) else .range
  | [], a, _, ha => by rw [Lib.parseUintM, dv_nil, if_pos ha]
  | c :: l, a, h, ha => by
    have hc := h c (by simp)
    unfold isDig at hc
    simp only [Bool.and_eq_true, decide_eq_true_eq] at hc
    rw [Lib.parseUintM, if_pos hc, dv_cons]
    have hg := dv_ge l (a * 10 + (c.toNat - 48))
    split
    · rw [if_neg (by omega)]
    · split
      · rw [if_neg (by omega)]
      · exact parseU hM l _ (fun x hx => h x (by simp [hx])) (by omega)
theorem take_dig {l : Str} : ∀ c ∈ l.take (front isDig l), isDig c = true := by
  intro c hc
  obtain ⟨i, hi, rfl⟩ := List.mem_iff_getElem.1 hc
  simp only [List.length_take] at hi
  rw [List.getElem_take]
  exact front_lt isDig l i (by omega) (by omega)
theorem pInt_pos {c : UInt8} {t : Str} (h : ∀ x ∈ c :: t, isDig x = true) : pInt (c :: t) = if dgv 0 (c :: t) < 9223372036854775808 then some (dgv 0 (c :: t) : Int) else none := by
  have hc := h c (by simp)
  unfold isDig at hc
  simp only [Bool.and_eq_true, decide_eq_true_eq] at hc
  unfold pInt Lib.parseIntB
  simp only
  rw [if_neg (by omega)]
  unfold Lib.parseUintB
  rw [if_neg (by simp), parseU (M := 2 ^ 64 - 1) (by decide) _ _ h (by decide)]
  have e1 : (2 : Nat) ^ 64 - 1 = 18446744073709551615 := by decide
  have e2 : (2 : Nat) ^ (64 - 1) = 9223372036854775808 := by decide
  rw [e1, e2]
  by_cases h1 : dgv 0 (c :: t) < 9223372036854775808
  · rw [if_pos (by omega), if_pos h1]
    simp only
    rw [if_neg (by omega), if_neg (by omega), if_neg (by omega)]
  · rw [if_neg h1]
    by_cases h2 : dgv 0 (c :: t) ≤ 18446744073709551615
    · rw [if_pos h2]; simp only; rw [if_pos (by omega)]
    · rw [if_neg h2]
theorem pInt_neg {t : Str} (h : ∀ x ∈ t, isDig x = true) : pInt (45 :: t) = if t = [] ∨ 9223372036854775808 < dgv 0 t then none else some (-(dgv 0 t : Int)) := by
  unfold pInt Lib.parseIntB
  have h45 : (45 : UInt8).toNat = 45 := rfl
  simp only [h45, or_true, if_true, not_true, false_and, true_and, if_false]
  unfold Lib.parseUintB
  by_cases ht : t = []
  · rw [if_pos ht, if_pos (Or.inl ht)]
  · rw [if_neg ht, parseU (M := 2 ^ 64 - 1) (by decide) _ _ h (by decide)]
    have e1 : (2 : Nat) ^ 64 - 1 = 18446744073709551615 := by decide
    have e2 : (2 : Nat) ^ (64 - 1) = 9223372036854775808 := by decide
    rw [e1, e2]
    by_cases h1 : 9223372036854775808 < dgv 0 t
    · rw [if_pos (Or.inr h1)]
      by_cases h2 : dgv 0 t ≤ 18446744073709551615
      · rw [if_pos h2]; simp only; rw [if_pos h1]
      · rw [if_neg h2]
    · rw [if_neg (show ¬ (t = [] ∨ 9223372036854775808 < dgv 0 t) from fun h => h.elim ht h1), if_pos (show dgv 0 t ≤ 18446744073709551615 by omega)]
      simp only
      rw [if_neg h1]
theorem dPre (n : Nat) (s p : Str) : dstringslite_HasPrefix n s p = some (p.isPrefixOf s) := by
  unfold dstringslite_HasPrefix
  by_cases h : p.length ≤ s.length
  · have hd : decide ((s.length : Int) ≥ (p.length : Int)) = true := by simp; omega
    have hg : gsl s 0 (p.length : Int) = some (s.take p.length) := by have := gsl_nat s (i := 0) (Nat.zero_le p.length) h; simpa using this
    simp only [hd, cond_true, hg, Option.bind_some]
    congr 1
    rw [Bool.eq_iff_iff, List.isPrefixOf_iff_prefix, List.prefix_iff_eq_take, beq_iff_eq]
    exact eq_comm
  · have hd : decide ((s.length : Int) ≥ (p.length : Int)) = false := by simp; omega
    simp only [hd, cond_false]
    congr 1
    symm
    rw [Bool.eq_false_iff]
    intro hp
    rw [List.isPrefixOf_iff_prefix] at hp
    exact h hp.length_le
theorem dTrim (n : Nat) (c : UInt8) (t : Str) : dstrings_TrimPrefix n (c :: t) [45] = some (if c = 45 then t else c :: t) := by
  unfold dstrings_TrimPrefix dstringslite_TrimPrefix
  rw [dPre]
  have hp : ([45] : Str).isPrefixOf (c :: t) = decide (c = 45) := by
    simp only [List.isPrefixOf, Bool.and_true]
    rw [Bool.eq_iff_iff]; simp; exact eq_comm
  have hg : gsl (c :: t) (([45] : Str).length : Int) ((c :: t).length : Int) = some t := gsl_from (c :: t) (i := 1) (by simp)
  rw [hp]
  by_cases h : c = 45
  · subst h
    simp only [decide_true, Option.bind_some, cond_true, if_true, hg]
  · simp only [h, decide_false, Option.bind_some, cond_false, if_false]
theorem dnumber {n : Nat} {c : UInt8} {t : Str} (hc : isDig c = true ∨ c = 45) (hs : (c :: t).length ≤ 1000000) (hn : (c :: t).length < n) :
    dtoken_number n (c :: t) = some (match numS (c :: t) with | some (v, k) => (v, (k : Int)) | none => (0, 0)) := by
  unfold dtoken_number
  rw [dTrim, Option.bind_some]
  simp only [List.length_cons] at hs hn
  by_cases h45 : c = 45
  · subst h45
    have hf := front_le isDig t
    simp only [if_true, dupto (p := isDig) (fun c => ddigit n c) (show t.length ≤ 1000000 by omega) (show t.length < n by omega), Option.bind_some]
    have hall : W ((W (((45 :: t : Str).length : Int) - (t.length : Int))) + (front isDig t : Int)) = ((front isDig t + 1 : Nat) : Int) := by
      rw [show ((45 :: t : Str).length : Int) - (t.length : Int) = ((1 : Nat) : Int) by simp; omega, W_nat (by decide), show ((1 : Nat) : Int) + (front isDig t : Int) = ((front isDig t + 1 : Nat) : Int) by omega, W_nat (by omega)]
    have hg : gsl (45 :: t : Str) 0 ((front isDig t + 1 : Nat) : Int) = some (45 :: t.take (front isDig t)) := by
      have := gsl_nat (45 :: t : Str) (i := 0) (Nat.zero_le (front isDig t + 1)) (by simp; omega); simpa using this
    have hP : dParseInt n (45 :: t.take (front isDig t)) = some (pInt (45 :: t.take (front isDig t))) := by
      unfold dParseInt; rw [if_pos (by simp; omega)]
    simp only [hall, hg, Option.bind_some, hP, pInt_neg take_dig, numS, if_true]
    have hlen : (t.take (front isDig t)).length = front isDig t := by simp; omega
    have hnil : t.take (front isDig t) = [] ↔ front isDig t = 0 := by
      rw [← List.length_eq_zero_iff, hlen]
    have hgt : decide (((front isDig t + 1 : Nat) : Int) > (front isDig t : Int)) = true := by simp; omega
    by_cases hz : t.take (front isDig t) = [] ∨ 9223372036854775808 < dgv 0 (t.take (front isDig t))
    · rw [if_pos hz]
      rw [hnil] at hz
      rw [if_pos (by omega)]
    · rw [if_neg hz]
      rw [hnil] at hz
      generalize dgv 0 (t.take (front isDig t)) = V at *
      simp only
      by_cases h1 : 1 < front isDig t
      · have hd1 : decide ((front isDig t : Int) > 1) = true := by simp; omega
        cases t with
        | nil => simp [front] at h1
        | cons d t =>
          have hgi : gi (d :: t) 0 = some d := rfl
          simp only [hd1, cond_true, hgi, Option.bind_some]
          by_cases h48 : d = 48
          · subst h48
            have : (((48 : UInt8).toNat : Int) == 48) = true := rfl
            simp only [this, cond_true, Option.bind_some]
            rw [if_pos (by simp [h1])]
          · have e := nn d 48 (by decide)
            have : ((d.toNat : Int) == 48) = false := by rw [show (48 : Int) = ((48 : Nat) : Int) from rfl, e]; simpa using h48
            simp only [this, cond_false]
            by_cases hV : V = 0
            · subst hV
              simp only [hgt, Option.bind_some]
              rw [if_pos (by simp)]; rfl
            · have hv0 : (-(V : Int) == 0) = false := by simp; omega
              simp only [hv0, cond_false, Option.bind_some]
              rw [if_neg (by simp [h48]; omega)]
      · have hd1 : decide ((front isDig t : Int) > 1) = false := by simp; omega
        simp only [hd1, cond_false]
        by_cases hV : V = 0
        · subst hV
          simp only [hgt, Option.bind_some]
          rw [if_pos (by simp)]; rfl
        · have hv0 : (-(V : Int) == 0) = false := by simp; omega
          simp only [hv0, cond_false, Option.bind_some]
          rw [if_neg (by omega)]
  · have hdig : isDig c = true := hc.resolve_right h45
    have hf := front_le isDig (c :: t)
    have hpos : front isDig (c :: t) = front isDig t + 1 := by rw [front, if_pos hdig]
    simp only [if_neg h45, dupto (p := isDig) (fun c => ddigit n c) (show (c :: t).length ≤ 1000000 by simp; omega) (show (c :: t).length < n by simp; omega), Option.bind_some]
    have hall : W ((W (((c :: t).length : Int) - ((c :: t).length : Int))) + (front isDig (c :: t) : Int)) = (front isDig (c :: t) : Int) := by
      simp only [List.length_cons] at hf
      rw [Int.sub_self, show W 0 = 0 from rfl, Int.zero_add, W_nat (by omega)]
    have hg : gsl (c :: t) 0 (front isDig (c :: t) : Int) = some ((c :: t).take (front isDig (c :: t))) := by
      have := gsl_nat (c :: t) (i := 0) (Nat.zero_le (front isDig (c :: t))) hf; simpa using this
    have htk : (c :: t).take (front isDig (c :: t)) = c :: t.take (front isDig t) := by rw [hpos]; rfl
    have hP : dParseInt n ((c :: t).take (front isDig (c :: t))) = some (pInt ((c :: t).take (front isDig (c :: t)))) := by
      simp only [List.length_cons] at hf
      unfold dParseInt; rw [if_pos (by simp; omega)]
    have hpi := pInt_pos (c := c) (t := t.take (front isDig t)) (by rw [← htk]; exact take_dig)
    simp only [hall, hg, Option.bind_some, hP, numS, if_neg h45]
    rw [htk, hpi]
    generalize dgv 0 (c :: t.take (front isDig t)) = V
    have hgt : decide ((front isDig (c :: t) : Int) > (front isDig (c :: t) : Int)) = false := by simp
    by_cases hz : V < 9223372036854775808
    · rw [if_pos hz]
      have hgi : gi (c :: t) 0 = some c := rfl
      simp only [hgt, hgi, Option.bind_some]
      by_cases h1 : 1 < front isDig (c :: t)
      · have hd1 : decide ((front isDig (c :: t) : Int) > 1) = true := by simp; omega
        simp only [hd1, cond_true]
        by_cases h48 : c = 48
        · subst h48
          have : (((48 : UInt8).toNat : Int) == 48) = true := rfl
          simp only [this, cond_true, Option.bind_some]
          rw [if_pos (by simp [h1])]
        · have e := nn c 48 (by decide)
          have : ((c.toNat : Int) == 48) = false := by rw [show (48 : Int) = ((48 : Nat) : Int) from rfl, e]; simpa using h48
          simp only [this, cond_false]
          rw [if_neg (by simp [h48]; omega)]
          cases ((V : Int) == 0) <;> rfl
      · have hd1 : decide ((front isDig (c :: t) : Int) > 1) = false := by simp; omega
        simp only [hd1, cond_false]
        rw [if_neg (by omega)]
        cases ((V : Int) == 0) <;> rfl
    · rw [if_neg hz, if_pos (by omega)]
theorem gsl_front {l : Str} {k : Nat} (h : k ≤ l.length) : gsl l 0 (k : Int) = some (l.take k) := by have := gsl_nat l (i := 0) (Nat.zero_le k) h; simpa using this
theorem dIdx {n : Nat} {l : List Str} {v : Str} (hl : l.length ≤ 1000000) (hn : l.length < n) : dslices_Contains_string n l v = some (l.contains v) := by
  unfold dslices_Contains_string dslices_Index_string
  have hany : l.contains v = l.any fun x => v == x := by rw [List.contains_eq_any_beq]
  rw [hany, any_ix]
  refine (congrArg (fun o => Option.bind (Option.bind o _) _) (ix_loop (l := l) (p := fun x => v == x) (fun i h => ?_) ?_ (Nat.le_trans hl (by decide)) hn)).trans ?_
  · have hd : decide ((i : Int) < (l.length : Int)) = true := by simpa using h
    simp only [hd, cond_true, gi_lt h, Option.bind_some]
    cases v == l[i] <;> rfl
  · simp
  · cases l.findIdx? (fun x => v == x) with
    | none => rfl
    | some i => simp only [Option.bind_some, kS]; rfl
def signsL : List Str := [[60, 61], [33, 61], [62, 61], [94, 61], [40], [41], [44], [60], [61], [62]]
def sgnS (l : Str) : Option Str := signsL.find? fun x => x.isPrefixOf l
theorem sign_loop {n m : Nat} {s : Str} : ∀ (r : List Str) (i : Nat), r = signsL.drop i → i ≤ 10 → r.length < m → loopD (ε := Int) (τ := Unit ⊕ (ttokenToken × Int)) (fun (x8 : Int) => (bif (decide (x8 < (signsL.length : Int))) then ((gi signsL x8).bind fun x10 => (dstrings_HasPrefix n s x10).bind fun x11 => bif x11 then ((some ((x10.length : Int))).bind fun x12 => some (Sum.inr (Sum.inr ((ttokenToken.mk 5 0 0 x10), x12)))) else some (Sum.inl (W (x8 + 1)))) else some (Sum.inr (Sum.inl ())))) m (i : Int)
    = some (match r.find? (fun x => x.isPrefixOf s) with | some x => .inr (⟨5, 0, 0, x⟩, (x.length : Int)) | none => .inl ())
  | [], i, hr, hi, hm => by
    obtain ⟨m, rfl⟩ : ∃ j, m = j + 1 := ⟨m - 1, by omega⟩
    have : i = 10 := by
      have := congrArg List.length hr
      simp [signsL] at this; omega
    subst this
    exact loopD_end rfl
  | x :: r, i, hr, hi, hm => by
    obtain ⟨m, rfl⟩ : ∃ j, m = j + 1 := ⟨m - 1, by omega⟩
    have hlt : i < signsL.length := by have := congrArg List.length hr; simp at this; omega
    have hd := List.drop_eq_getElem_cons hlt
    rw [← hr] at hd
    obtain ⟨hx, ht⟩ := List.cons.inj hd
    have hde : decide ((i : Int) < (signsL.length : Int)) = true := by simpa using hlt
    have hh : dstrings_HasPrefix n s x = some (x.isPrefixOf s) := by unfold dstrings_HasPrefix; rw [dPre]; rfl
    rw [List.find?_cons]
    cases hp : x.isPrefixOf s with
    | true =>
      refine loopD_end ?_
      simp only [hde, cond_true, gi_lt hlt, ← hx, Option.bind_some, hh, hp]
    | false =>
      have h10 : signsL.length = 10 := rfl
      refine (loopD_go (s' := ((i + 1 : Nat) : Int)) ?_).trans (sign_loop r (i + 1) ht (by omega) (by simpa using hm))
      simp only [hde, cond_true, gi_lt hlt, ← hx, Option.bind_some, hh, hp, cond_false, W_suc (show i + 1 < 9223372036854775808 by omega)]
theorem sgn_tok {c : UInt8} {t : Str} : sgnS (c :: t) = if t.head? = some 61 ∧ (c = 60 ∨ c = 33 ∨ c = 62 ∨ c = 94) then some [c, 61] else if c = 40 ∨ c = 41 ∨ c = 44 ∨ c = 60 ∨ c = 61 ∨ c = 62 then some [c] else none := by
  have h2 : ∀ a b : UInt8, ([a, b] : Str).isPrefixOf (c :: t) = (a == c && (t.head? == some b)) := by
    intro a b
    cases t with
    | nil => simp [List.isPrefixOf]
    | cons d t => simp only [List.isPrefixOf, Bool.and_true, List.head?_cons]; congr 1; rw [Bool.eq_iff_iff]; simp; exact eq_comm
  have h1 : ∀ a : UInt8, ([a] : Str).isPrefixOf (c :: t) = (a == c) := by intro a; simp [List.isPrefixOf]
  unfold sgnS signsL
  simp only [List.find?_cons, List.find?_nil, h2, h1]
  by_cases h : t.head? = some 61
  · have hb : (t.head? == some 61) = true := by simp [h]
    simp only [hb, Bool.and_true, h, true_and]
    by_cases e1 : c = 60
    · subst e1; simp
    by_cases e2 : c = 33
    · subst e2; simp
    by_cases e3 : c = 62
    · subst e3; simp
    by_cases e4 : c = 94
    · subst e4; simp
    have n1 : (60 == c) = false := by simpa using fun h => e1 h.symm
    have n2 : (33 == c) = false := by simpa using fun h => e2 h.symm
    have n3 : (62 == c) = false := by simpa using fun h => e3 h.symm
    have n4 : (94 == c) = false := by simpa using fun h => e4 h.symm
    simp only [n1, n2, n3, n4]
    rw [if_neg (by simp [e1, e2, e3, e4])]
    by_cases f1 : c = 40
    · subst f1; simp
    by_cases f2 : c = 41
    · subst f2; simp
    by_cases f3 : c = 44
    · subst f3; simp
    by_cases f4 : c = 61
    · subst f4; simp
    have m1 : (40 == c) = false := by simpa using fun h => f1 h.symm
    have m2 : (41 == c) = false := by simpa using fun h => f2 h.symm
    have m3 : (44 == c) = false := by simpa using fun h => f3 h.symm
    have m4 : (61 == c) = false := by simpa using fun h => f4 h.symm
    simp only [m1, m2, m3, m4]
    rw [if_neg (by simp [e1, e3, f1, f2, f3, f4])]
    rfl
  · have hb : (t.head? == some 61) = false := by simpa using h
    simp only [hb, Bool.and_false, h, false_and, if_false]
    by_cases f1 : c = 40
    · subst f1; simp
    by_cases f2 : c = 41
    · subst f2; simp
    by_cases f3 : c = 44
    · subst f3; simp
    by_cases e1 : c = 60
    · subst e1; simp
    by_cases f4 : c = 61
    · subst f4; simp
    by_cases e3 : c = 62
    · subst e3; simp
    have m1 : (40 == c) = false := by simpa using fun h => f1 h.symm
    have m2 : (41 == c) = false := by simpa using fun h => f2 h.symm
    have m3 : (44 == c) = false := by simpa using fun h => f3 h.symm
    have m4 : (61 == c) = false := by simpa using fun h => f4 h.symm
    have n1 : (60 == c) = false := by simpa using fun h => e1 h.symm
    have n3 : (62 == c) = false := by simpa using fun h => e3 h.symm
    simp only [m1, m2, m3, m4, n1, n3]
    rw [if_neg (by simp [e1, e3, f1, f2, f3, f4])]
theorem done_ {n : Nat} {c : UInt8} {t : Str} (hs : (c :: t).length ≤ 1000000) (hn : (c :: t).length < n) (hn2 : 20 < n) :
    ∃ x, dtoken_one n (c :: t) = some (match tok (c :: t) with | some (y, k) => (⟨y.k, 0, y.n, y.s⟩, (k : Int)) | none => (x, 0)) := by
  have hgi : gi (c :: t) 0 = some c := rfl
  unfold dtoken_one
  rw [hgi, Option.bind_some, dlower, Option.bind_some, tok]
  by_cases hlow : isLow c = true
  · rw [hlow, cond_true, if_pos rfl]
    have hf := front_le isAl (c :: t)
    simp only [dupto (p := isAl) (fun c => done1 n c) hs hn, Option.bind_some, gsl_front hf, show dtoken_words n = some wordsL from rfl, dIdx (show wordsL.length ≤ 1000000 by decide) (show wordsL.length < n by show 5 < n; omega)]
    by_cases h20 : front isAl (c :: t) ≤ 20
    · have hd : decide ((front isAl (c :: t) : Int) > 20) = false := by simp; omega
      rw [if_pos h20]
      refine ⟨⟨0, 0, 0, []⟩, ?_⟩
      cases wordsL.contains ((c :: t).take (front isAl (c :: t))) <;> simp only [cond_true, cond_false, Option.bind_some, hd] <;> simp
    · have hd : decide ((front isAl (c :: t) : Int) > 20) = true := by simp; omega
      rw [if_neg h20]
      cases wordsL.contains ((c :: t).take (front isAl (c :: t))) <;> simp only [cond_true, cond_false, Option.bind_some, hd] <;> exact ⟨_, rfl⟩
  · have hlow : isLow c = false := by simpa using hlow
    rw [hlow, cond_false, if_neg (by simp), ddigit, Option.bind_some]
    have e45 : (((c.toNat : Nat) : Int) == 45) = decide (c = 45) := nn c 45 (by decide)
    have hx4 : (bif isDig c then some true else some (((c.toNat : Nat) : Int) == 45) : Option Bool) = some (isDig c || decide (c = 45)) := by rw [e45]; cases isDig c <;> rfl
    rw [hx4, Option.bind_some]
    by_cases hnum : isDig c = true ∨ c = 45
    · have hb : (isDig c || decide (c = 45)) = true := by simpa using hnum
      rw [hb, cond_true, if_pos hnum, dnumber hnum hs hn, Option.bind_some]
      refine ⟨⟨3, 0, 0, []⟩, ?_⟩
      cases numS (c :: t) <;> rfl
    · have hb : (isDig c || decide (c = 45)) = false := by simpa using hnum
      rw [hb, cond_false, if_neg hnum]
      have e34 : (((c.toNat : Nat) : Int) == 34) = decide (c = 34) := nn c 34 (by decide)
      by_cases h34 : c = 34
      · rw [e34, decide_eq_true h34, cond_true, if_pos h34]
        have hg1 : gsl (c :: t) 1 ((c :: t).length : Int) = some t := gsl_from (c :: t) (i := 1) (by simp)
        simp only [List.length_cons] at hs hn
        have hf := front_le isTx t
        rw [hg1, Option.bind_some, dupto (p := isTx) (fun c => done2 n c) (show t.length ≤ 1000000 by omega) (show t.length < n by omega), Option.bind_some]
        have hW1 : W ((front isTx t : Int) + 1) = ((front isTx t + 1 : Nat) : Int) := W_suc (by omega)
        have hW2 : W ((front isTx t : Int) + 2) = ((front isTx t + 2 : Nat) : Int) := by rw [show (front isTx t : Int) + 2 = ((front isTx t + 2 : Nat) : Int) by omega]; exact W_nat (by omega)
        simp only [hW1, hW2]
        by_cases h2 : front isTx t ≤ 200
        · have hd : decide ((front isTx t : Int) > 200) = false := by simp; omega
          simp only [hd, cond_false]
          by_cases h3 : front isTx t < t.length
          · have hd2 : decide (((front isTx t + 1 : Nat) : Int) ≥ ((c :: t).length : Int)) = false := by simp; omega
            have hgi2 : gi (c :: t) ((front isTx t + 1 : Nat) : Int) = some t[front isTx t] := by rw [gi_nat]; simp [h3]
            have e2 : ∀ d : UInt8, (((d.toNat : Nat) : Int) != 34) = !decide (d = 34) := fun d => by
              have := nn d 34 (by decide)
              show (!(((d.toNat : Nat) : Int) == 34)) = _
              rw [show (34 : Int) = ((34 : Nat) : Int) from rfl, this]; rfl
            have hq : t[front isTx t]? = some t[front isTx t] := List.getElem?_eq_getElem h3
            simp only [hd2, cond_false, hgi2, Option.bind_some, e2, hq]
            have hg2 : gsl (c :: t) 1 ((front isTx t + 1 : Nat) : Int) = some (t.take (front isTx t)) := by
              have := gsl_nat (c :: t) (i := 1) (j := front isTx t + 1) (by omega) (by simp; omega)
              simpa using this
            by_cases h4 : t[front isTx t] = 34
            · rw [decide_eq_true h4, if_pos ⟨h2, by rw [h4]⟩]
              simp only [Bool.not_true, cond_false, hg2, Option.bind_some]
              exact ⟨⟨0, 0, 0, []⟩, by first | trivial | rfl⟩
            · rw [decide_eq_false h4, if_neg (by simp [h4])]
              exact ⟨_, rfl⟩
          · have hd2 : decide (((front isTx t + 1 : Nat) : Int) ≥ ((c :: t).length : Int)) = true := by simp; omega
            have hq : t[front isTx t]? = none := List.getElem?_eq_none (by omega)
            rw [if_neg (by simp [hq])]
            simp only [hd2, cond_true, Option.bind_some]
            exact ⟨_, rfl⟩
        · have hd : decide ((front isTx t : Int) > 200) = true := by simp; omega
          rw [if_neg (by simp [h2])]
          simp only [hd, cond_true, Option.bind_some]
          exact ⟨_, rfl⟩
      · rw [e34, decide_eq_false h34, cond_false, if_neg h34]
        have hsl := sign_loop (n := n) (m := n) (s := c :: t) signsL 0 rfl (by decide) (show 10 < n by omega)
        have hfs : signsL.find? (fun x => x.isPrefixOf (c :: t)) = sgnS (c :: t) := rfl
        rw [hfs, sgn_tok] at hsl
        refine ⟨⟨0, 0, 0, []⟩, (congrArg (fun o => Option.bind o _) hsl).trans ?_⟩
        by_cases h5 : t.head? = some 61 ∧ (c = 60 ∨ c = 33 ∨ c = 62 ∨ c = 94)
        · rw [if_pos h5, if_pos h5]; rfl
        · rw [if_neg h5, if_neg h5]
          by_cases h6 : c = 40 ∨ c = 41 ∨ c = 44 ∨ c = 60 ∨ c = 61 ∨ c = 62
          · rw [if_pos h6, if_pos h6]; rfl
          · rw [if_neg h6, if_neg h6]; rfl
theorem drop_cons {s : Str} {a : Nat} {c : UInt8} {t : Str} (h : c :: t = s.drop a) : ∃ hlt : a < s.length, s[a] = c ∧ t = s.drop (a + 1) := by
  have hlt : a < s.length := by have := congrArg List.length h; simp at this; omega
  have hd := List.drop_eq_getElem_cons hlt
  rw [← h] at hd
  obtain ⟨hc, ht⟩ := List.cons.inj hd
  exact ⟨hlt, hc.symm, ht⟩
theorem cut_loop {n : Nat} {s : Str} (hs : s.length ≤ 1000) (hn : 2000 < n) : ∀ (m : Nat) (l : Str) (a : Nat) (out : List ttokenToken) (k : Nat), l.length ≤ m → l = s.drop a → a ≤ s.length → out.length + l.length ≤ 1000 → m < k →
    loopD (ε := Int × (List ttokenToken)) (τ := (List ttokenToken) ⊕ ((List ttokenToken) × Er)) (fun (((at1, out1)) : Int × (List ttokenToken)) => (bif (decide (at1 < (s.length : Int))) then ((gi s at1).bind fun c1 => bif ((c1.toNat : Int) == 32) then some (Sum.inl (W (at1 + 1), out1)) else ((gsl s at1 (s.length : Int)).bind fun s2 => (dtoken_one n s2).bind fun n1 => bif (n1.2 == 0) then some (Sum.inr (Sum.inr ([], (some 2)))) else ((ap out1 [(ttokenToken.mk n1.1.Kind at1 n1.1.N n1.1.S)]).bind fun out4 => some (Sum.inl (W (at1 + n1.2), out4))))) else some (Sum.inr (Sum.inl out1)))) k ((a : Int), out)
    = some (match toks a l with | some L => .inl (out ++ L) | none => .inr ([], some 2))
  | m, [], a, out, k, hm, hl, ha, ho, hk => by
    obtain ⟨k, rfl⟩ : ∃ j, k = j + 1 := ⟨k - 1, by omega⟩
    have : a = s.length := by have := congrArg List.length hl; simp at this; omega
    subst this
    rw [toks_nil]
    have hd : decide ((s.length : Int) < (s.length : Int)) = false := by simp
    exact loopD_end (by simp only [hd, cond_false, List.append_nil])
  | 0, c :: t, a, out, k, hm, hl, ha, ho, hk => by simp at hm
  | m + 1, c :: t, a, out, k, hm, hl, ha, ho, hk => by
    obtain ⟨k, rfl⟩ : ∃ j, k = j + 1 := ⟨k - 1, by omega⟩
    obtain ⟨hlt, hc, ht⟩ := drop_cons hl
    have hd : decide ((a : Int) < (s.length : Int)) = true := by simpa using hlt
    have e32 : (((c.toNat : Nat) : Int) == 32) = decide (c = 32) := nn c 32 (by decide)
    simp only [List.length_cons] at hm ho
    by_cases h32 : c = 32
    · subst h32
      rw [toks_sp]
      refine (loopD_go (s' := (((a + 1 : Nat) : Int), out)) ?_).trans (cut_loop hs hn m t (a + 1) out k (by omega) ht hlt (by omega) (by omega))
      simp only [hd, cond_true, gi_lt hlt, hc, Option.bind_some, W_suc (show a + 1 < 9223372036854775808 by omega)]
      rfl
    · have hg : gsl s (a : Int) (s.length : Int) = some (c :: t) := by rw [hl]; exact gsl_from s ha
      have hlen : (c :: t).length ≤ 1000 := by rw [hl]; simp; omega
      obtain ⟨x, h1⟩ := done_ (n := n) (c := c) (t := t) (by omega) (by omega) (by omega)
      rw [decide_eq_false h32] at e32
      cases htk : tok (c :: t) with
      | none =>
        rw [htk] at h1
        rw [toks_none h32 htk]
        refine loopD_end ?_
        simp only [hd, cond_true, gi_lt hlt, hc, Option.bind_some, e32, cond_false, hg, h1]
        rfl
      | some p =>
        obtain ⟨y, j⟩ := p
        rw [htk] at h1
        rw [toks_some h32 htk]
        have hj := tok_len htk
        simp only [List.length_cons] at hj
        have hta : t.length + 1 = s.length - a := by have := congrArg List.length hl; simpa using this
        have hz : (((j : Nat) : Int) == 0) = false := beq_false_of_ne (by omega)
        have hap : ap out [(ttokenToken.mk y.k (a : Int) y.n y.s)] = some (out ++ [⟨y.k, (a : Int), y.n, y.s⟩]) := ap_ok (Nat.le_trans (show out.length + 1 ≤ 1001 by omega) (by decide))
        have hW : W ((a : Int) + (j : Int)) = ((a + j : Nat) : Int) := by rw [show (a : Int) + (j : Int) = ((a + j : Nat) : Int) by omega]; exact W_nat (by omega)
        have hdr : (c :: t).drop j = s.drop (a + j) := by rw [hl, List.drop_drop]
        refine (loopD_go (s' := (((a + j : Nat) : Int), out ++ [⟨y.k, (a : Int), y.n, y.s⟩])) ?_).trans ((cut_loop hs hn m ((c :: t).drop j) (a + j) _ k (by simp; omega) hdr (by omega) (by simp; omega) (by omega)).trans ?_)
        · simp only [hd, cond_true, gi_lt hlt, hc, Option.bind_some, e32, cond_false, hg, h1, hz, hap, hW]
        · cases toks (a + j) ((c :: t).drop j) <;> simp
def cutC (s : Str) : List ttokenToken × Er := if 500 < s.length then ([], some 5) else match toks 0 s with | some L => (L, none) | none => ([], some 2)
theorem dCut {n : Nat} {s : Str} (hn : 2000 < n) : dtoken_Cut n s = some (cutC s) := by
  unfold dtoken_Cut cutC
  by_cases h : 500 < s.length
  · have hd : decide ((s.length : Int) > 500) = true := by simp; omega
    rw [hd, if_pos h]; rfl
  · have hd : decide ((s.length : Int) > 500) = false := by simp; omega
    rw [hd, if_neg h, cond_false]
    refine (congrArg (fun o => Option.bind o _) (cut_loop (n := n) (s := s) (by omega) hn s.length s 0 [] n (Nat.le_refl _) (by simp) (Nat.zero_le _) (by simp; omega) (by omega))).trans ?_
    cases toks 0 s <;> simp [kS]
end Go.Proofs.YtbkomicjhfldmaaGreatDoor
namespace Go.Proofs.YtbkomicjhfldmaaGreatDoor
open Go.Pv
set_option linter.unusedSimpArgs false
set_option linter.unusedVariables false
set_option linter.unusedSectionVars false
set_option maxRecDepth 100000
theorem dIxF (l : List tFilter) (f : tFilter → Option Bool) (p : tFilter → Bool) (hf : ∀ x ∈ l, f x = some (p x)) (hl : l.length ≤ maxLen) {n : Nat} (hn : l.length < n) : dslices_IndexFunc_Filter n l f = some (ixI p l) := by
  unfold dslices_IndexFunc_Filter
  refine (congrArg (fun o => Option.bind o _) (ix_loop (p := p) (l := l) (fun i h => ?_) ?_ hl hn)).trans ?_
  rotate_left 2
  · unfold ixI; cases l.findIdx? p <;> rfl
  · have h1 : decide ((i : Int) < (l.length : Int)) = true := by simpa using h
    rw [h1, gi_lt h]
    have h2 := hf _ (List.getElem_mem h)
    cases hx : l[i] with
    | mk a b c d e =>
      rw [hx] at h2
      simp only [cond_true, Option.bind_some, h2]
      cases p (.mk a b c d e) <;> rfl
  · simp
theorem dIxA (l : List tAttr) (f : tAttr → Option Bool) (p : tAttr → Bool) (hf : ∀ x ∈ l, f x = some (p x)) (hl : l.length ≤ maxLen) {n : Nat} (hn : l.length < n) : dslices_IndexFunc_Attr n l f = some (ixI p l) := by
  unfold dslices_IndexFunc_Attr
  refine (congrArg (fun o => Option.bind o _) (ix_loop (p := p) (l := l) (fun i h => ?_) ?_ hl hn)).trans ?_
  rotate_left 2
  · unfold ixI; cases l.findIdx? p <;> rfl
  · have h1 : decide ((i : Int) < (l.length : Int)) = true := by simpa using h
    rw [h1, gi_lt h]
    simp only [cond_true, Option.bind_some, hf _ (List.getElem_mem h)]
    cases p l[i] <;> rfl
  · simp
theorem dCfF (l : List tFilter) (f : tFilter → Option Bool) (p : tFilter → Bool) (hf : ∀ x ∈ l, f x = some (p x)) (hl : l.length ≤ maxLen) {n : Nat} (hn : l.length < n) : dslices_ContainsFunc_Filter n l f = some (l.any p) := by
  unfold dslices_ContainsFunc_Filter; rw [dIxF l f p hf hl hn, Option.bind_some, ixI_ge]
theorem dCfA (l : List tAttr) (f : tAttr → Option Bool) (p : tAttr → Bool) (hf : ∀ x ∈ l, f x = some (p x)) (hl : l.length ≤ maxLen) {n : Nat} (hn : l.length < n) : dslices_ContainsFunc_Attr n l f = some (l.any p) := by
  unfold dslices_ContainsFunc_Attr; rw [dIxA l f p hf hl hn, Option.bind_some, ixI_ge]
theorem okF_mk {k : Int} {a b : Str} {v : List tAttr} {l : List tFilter} (h : ok_tFilter (.mk k a b v l)) : v.length ≤ maxLen ∧ l.length ≤ maxLen ∧ oks_tFilter l := by
  simp only [ok_tFilter] at h
  exact ⟨h.2.2.2.1.1, h.2.2.2.2.1, h.2.2.2.2.2⟩
theorem oks_mem : ∀ {l : List tFilter}, oks_tFilter l → ∀ x ∈ l, ok_tFilter x
  | [], _, _, h => by cases h
  | y :: l, h, x, hx => by
    simp only [oks_tFilter] at h
    rcases List.mem_cons.1 hx with rfl | hx
    · exact h.1
    · exact oks_mem h.2 x hx
mutual
def nodesF : tFilter → Nat
  | .mk _ _ _ _ l => nodesL l + 1
def nodesL : List tFilter → Nat
  | [] => 0
  | x :: l => nodesF x + nodesL l
end
mutual
def deepF : tFilter → Nat
  | .mk _ _ _ _ l => deepL l + 1
def deepL : List tFilter → Nat
  | [] => 0
  | x :: l => max (deepF x) (deepL l)
end
mutual
theorem deep_nodes : ∀ f : tFilter, deepF f ≤ nodesF f
  | .mk _ _ _ _ l => by have := deepL_nodes l; simp only [deepF, nodesF]; omega
theorem deepL_nodes : ∀ l : List tFilter, deepL l ≤ nodesL l
  | [] => Nat.le_refl _
  | x :: l => by have := deep_nodes x; have := deepL_nodes l; simp only [deepL, nodesL]; omega
end
theorem nodes_mem : ∀ {l : List tFilter} {x : tFilter}, x ∈ l → nodesF x ≤ nodesL l
  | y :: l, x, h => by
    rcases List.mem_cons.1 h with rfl | h
    · simp only [nodesL]; omega
    · have := nodes_mem h; simp only [nodesL]; omega
theorem nodesL_take : ∀ (l : List tFilter) (k : Nat), nodesL (l.take k) ≤ nodesL l
  | [], k => by simp
  | x :: l, 0 => by simp [nodesL]
  | x :: l, k + 1 => by have := nodesL_take l k; simp only [List.take_succ_cons, nodesL]; omega
theorem nodesL_snoc : ∀ (l : List tFilter) (x : tFilter), nodesL (l ++ [x]) = nodesL l + nodesF x
  | [], x => by simp [nodesL]
  | y :: l, x => by rw [List.cons_append, nodesL, nodesL, nodesL_snoc l x]; omega
theorem len_nodes : ∀ l : List tFilter, l.length ≤ nodesL l
  | [] => Nat.le_refl _
  | x :: l => by have := len_nodes l; cases x; simp only [nodesL, nodesF, List.length_cons]; omega
theorem deepL_snoc : ∀ (l : List tFilter) (x : tFilter), deepL (l ++ [x]) = max (deepL l) (deepF x)
  | [], x => by simp [deepL]
  | y :: l, x => by rw [List.cons_append, deepL, deepL, deepL_snoc l x]; omega
theorem take_snoc {α : Type} {l : List α} {k : Nat} (h : k < l.length) : l.take (k + 1) = l.take k ++ [l[k]] := by
  rw [List.take_add_one, List.getElem?_eq_getElem h]; rfl
def nameB (s : Str) : Bool := decide (s.length ≤ 20) && (match tok s with | some (x, j) => x.k == 1 && j == s.length | none => false)
def plainB (s : Str) : Bool := s.all isTx && decide (s.length ≤ 200)
def valB (t0 : Bool) (a : tAttr) : Bool := a.Name == [] && (a.Text == t0 && (bif a.Text then a.N == 0 && plainB a.S else a.S == []))
def opsL : List Str := [[60], [60, 61], [61], [33, 61], [62, 61], [62]]
def leafB (k : Int) (nm op : Str) (vals : List tAttr) (l : List tFilter) : Bool := nameB nm && (l.isEmpty && (match vals with
  | [] => false
  | v :: r => (v :: r).all (valB v.Text) && (bif k == 4 then r.isEmpty && opsL.contains op else bif k == 5 then r.isEmpty && (v.Text && op == []) else decide (r.length ≤ 19) && op == [])))
def headB (k : Int) (n : Nat) : Bool := bif k == 1 || k == 2 then decide (2 ≤ n) else bif k == 3 then n == 1 else bif k == 7 then n == 0 else false
def kindF : tFilter → Int
  | .mk k _ _ _ _ => k
mutual
def fineF : tFilter → Bool
  | .mk k nm op vals l => bif k == 4 || (k == 5 || k == 6) then leafB k nm op vals l else headB k l.length && (nm == [] && (op == [] && (vals.isEmpty && fineL k l)))
def fineL (k : Int) : List tFilter → Bool
  | [] => true
  | x :: l => (fineF x && (bif k == 3 then true else !(kindF x == k))) && fineL k l
end
theorem fineL_eq (k : Int) : ∀ l, fineL k l = l.all fun x => fineF x && (bif k == 3 then true else !(kindF x == k))
  | [] => rfl
  | x :: l => by rw [fineL, fineL_eq k l]; rfl
def mayF (f : tFilter) : Bool := decide (deepF f ≤ 10) && (decide (nodesF f ≤ 60) && fineF f)
theorem tok_name {l : Str} {x : Tok} {j : Nat} (h : tok l = some (x, j)) (hk : x.k = 1) : x.s = l.take j ∧ ∃ c t, l = c :: t ∧ isLow c = true := by
  cases l with
  | nil => cases h
  | cons c t =>
    rw [tok] at h
    split at h
    · rename_i hc
      split at h
      · simp only [Option.some.injEq, Prod.mk.injEq] at h
        obtain ⟨rfl, rfl⟩ := h
        exact ⟨rfl, c, t, rfl, hc⟩
      · cases h
    · split at h
      · cases hn : numS (c :: t) with
        | none => rw [hn] at h; cases h
        | some p => rw [hn] at h; simp only [Option.map_some, Option.some.injEq, Prod.mk.injEq] at h; rw [← h.1] at hk; cases hk
      · split at h
        · split at h
          · simp only [Option.some.injEq, Prod.mk.injEq] at h; rw [← h.1] at hk; cases hk
          · cases h
        · split at h
          · simp only [Option.some.injEq, Prod.mk.injEq] at h; rw [← h.1] at hk; cases hk
          · split at h
            · simp only [Option.some.injEq, Prod.mk.injEq] at h; rw [← h.1] at hk; cases hk
            · cases h
theorem toks_name : ∀ (m : Nat) (l : Str) (a : Nat) (L : List ttokenToken), l.length ≤ m → toks a l = some L → ∀ y ∈ L, y.Kind = 1 → ∃ c t, y.S = c :: t ∧ isLow c = true
  | _, [], a, L, _, h, y, hy, _ => by rw [toks_nil] at h; cases h; cases hy
  | 0, c :: t, a, L, hm, h, y, hy, _ => by simp at hm
  | m + 1, c :: t, a, L, hm, h, y, hy, hk => by
    simp only [List.length_cons] at hm
    by_cases hc : c = 32
    · subst hc; rw [toks_sp] at h
      exact toks_name m t _ _ (by omega) h y hy hk
    · cases ht : tok (c :: t) with
      | none => rw [toks_none hc ht] at h; cases h
      | some p =>
        obtain ⟨x, j⟩ := p
        rw [toks_some hc ht] at h
        obtain ⟨L', h1, rfl⟩ := Option.map_eq_some_iff.1 h
        have hj := tok_len ht
        rcases List.mem_cons.1 hy with rfl | hy
        · obtain ⟨h2, c', t', h3, h4⟩ := tok_name ht hk
          cases h3
          obtain ⟨k, rfl⟩ : ∃ k, j = k + 1 := ⟨j - 1, by omega⟩
          exact ⟨c, t.take k, h2, h4⟩
        · exact toks_name m ((c :: t).drop j) _ _ (by simp; omega) h1 y hy hk
theorem dname {n : Nat} (s : Str) (hn : 2000 < n) : dfilter_name n s = some (nameB s) := by
  unfold dfilter_name nameB
  by_cases h20 : s.length ≤ 20
  · have hd : decide ((s.length : Int) > 20) = false := by simp; omega
    rw [hd, cond_false, dCut hn, Option.bind_some, decide_eq_true h20, Bool.true_and]
    unfold cutC
    rw [if_neg (by omega)]
    cases s with
    | nil => rw [toks_nil]; rfl
    | cons c t =>
      by_cases hc : c = 32
      · subst hc
        have htk : tok (32 :: t) = none := by rw [tok, if_neg (by decide), if_neg (by decide), if_neg (by decide), if_neg (by simp), if_neg (by decide)]
        rw [htk]
        cases ht : toks 0 (32 :: t) with
        | none => rfl
        | some L =>
          cases L with
          | nil => rfl
          | cons y r =>
            cases r with
            | cons z r =>
              have : ((((y :: z :: r).length : Nat) : Int) == 1) = false := beq_false_of_ne (by simp; omega)
              simp only [Option.isNone_none, cond_true, this, cond_false]
            | nil =>
              have h1 : (((([y] : List ttokenToken).length : Nat) : Int) == 1) = true := rfl
              have hg : gi [y] 0 = some y := rfl
              simp only [Option.isNone_none, cond_true, h1, hg, Option.bind_some]
              by_cases hk : y.Kind = 1
              · obtain ⟨c, t', e1, e2⟩ := toks_name _ _ _ _ (Nat.le_refl _) ht y (by simp) hk
                have : (y.S == (32 :: t : Str)) = false := by
                  rw [e1]
                  apply beq_false_of_ne
                  intro h; cases h; exact absurd e2 (by decide)
                rw [this]; cases y.Kind == 1 <;> rfl
              · have : (y.Kind == 1) = false := by simpa using hk
                rw [this]; rfl
      · cases htk : tok (c :: t) with
        | none => rw [toks_none hc htk]; rfl
        | some p =>
          obtain ⟨x, j⟩ := p
          rw [toks_some hc htk]
          have hj := tok_len htk
          simp only
          cases ht : toks (0 + j) ((c :: t).drop j) with
          | none =>
            have : j ≠ (c :: t).length := by
              rintro rfl
              rw [List.drop_length] at ht; rw [toks_nil] at ht; cases ht
            have hb : (j == (c :: t).length) = false := by simpa using this
            rw [hb]; cases x.k == 1 <;> rfl
          | some L =>
            cases L with
            | cons z r =>
              have hne : j ≠ (c :: t).length := by
                rintro rfl
                rw [List.drop_length] at ht; rw [toks_nil] at ht; cases ht
              have hb : (j == (c :: t).length) = false := by simpa using hne
              have : (((((⟨x.k, ((0 : Nat) : Int), x.n, x.s⟩ : ttokenToken) :: z :: r).length : Nat) : Int) == 1) = false := beq_false_of_ne (by simp; omega)
              simp only [Option.map_some, Option.isNone_none, cond_true, this, cond_false, hb, Bool.and_false]
            | nil =>
              have h1 : ((((([⟨x.k, ((0 : Nat) : Int), x.n, x.s⟩] : List ttokenToken).length : Nat) : Int)) == 1) = true := rfl
              have hg : gi ([⟨x.k, ((0 : Nat) : Int), x.n, x.s⟩] : List ttokenToken) 0 = some ⟨x.k, ((0 : Nat) : Int), x.n, x.s⟩ := rfl
              simp only [Option.map_some, Option.isNone_none, cond_true, h1, hg, Option.bind_some]
              by_cases hk : x.k = 1
              · obtain ⟨e1, _⟩ := tok_name htk hk
                have hk' : (x.k == 1) = true := by simpa using hk
                rw [hk', e1]
                simp only [cond_true, Bool.true_and]
                congr 1
                rw [Bool.eq_iff_iff]
                simp only [beq_iff_eq]
                constructor
                · intro h; have := congrArg List.length h; rw [List.length_take] at this; omega
                · rintro rfl; exact List.take_length
              · have hk' : (x.k == 1) = false := by simpa using hk
                rw [hk']; rfl
  · have hd : decide ((s.length : Int) > 20) = true := by simp; omega
    rw [hd, decide_eq_false h20]; rfl
theorem dtext1 (n : Nat) (c : UInt8) : dfilter_text_1 n (c.toNat : Int) = some (!isTx c) := by
  have h1 : decide (((c.toNat : Nat) : Int) < 32) = !decide (32 ≤ c.toNat) := by rw [Bool.eq_iff_iff]; simp; omega
  have h2 : decide (((c.toNat : Nat) : Int) > 126) = !decide (c.toNat ≤ 126) := by rw [Bool.eq_iff_iff]; simp; omega
  have h3 := bne34 c
  have h4 : (((c.toNat : Nat) : Int) == 34) = !(c != 34) := by rw [← h3]; show _ = !(!_); rw [Bool.not_not]
  unfold dfilter_text_1 isTx
  rw [h1, h2, h4]
  cases decide (32 ≤ c.toNat) <;> cases decide (c.toNat ≤ 126) <;> rfl
theorem dtext {n : Nat} (s : Str) (hn : 300 < n) : dfilter_text n s = some (plainB s) := by
  unfold dfilter_text plainB
  by_cases h : s.length ≤ 200
  · have hd : decide ((s.length : Int) ≤ 200) = true := by simp; omega
    have hI : dslices_IndexFunc_byte n s (fun x0 => dfilter_text_1 n x0) = some (ixI (fun c => !isTx c) s) := by
      unfold dslices_IndexFunc_byte
      refine (congrArg (fun o => Option.bind o _) (ix_loop (p := fun c => !isTx c) (l := s) (fun i h => ?_) ?_ (Nat.le_trans h (by decide)) (by omega))).trans ?_
      rotate_left 2
      · unfold ixI; cases s.findIdx? (fun c => !isTx c) <;> rfl
      · have h1 : decide ((i : Int) < (s.length : Int)) = true := by simpa using h
        rw [h1, gi_lt h]
        simp only [cond_true, Option.bind_some, dtext1]
        cases isTx s[i] <;> rfl
      · simp
    unfold dslices_ContainsFunc_byte
    rw [hd, cond_true, hI, Option.bind_some, ixI_ge, Option.bind_some, decide_eq_true h, Bool.and_true, List.all_eq_not_any_not]
  · have hd : decide ((s.length : Int) ≤ 200) = false := by simp; omega
    rw [hd, decide_eq_false h, Bool.and_false]; rfl
theorem dvalue {n : Nat} (a : tAttr) (hn : 300 < n) : dfilter_value n a = some (valB a.Text a) := by
  unfold dfilter_value valB
  rw [dtext _ hn]
  cases a.Text <;> cases a.Name == [] <;> cases a.N == 0 <;> simp
theorem valB_same (t0 : Bool) (a : tAttr) : valB t0 a = (valB a.Text a && a.Text == t0) := by
  unfold valB
  cases a.Name == [] <;> cases a.Text <;> cases t0 <;> simp
theorem dops (n : Nat) : dfilter_ops n = some opsL := rfl
theorem dleaf {n : Nat} {k : Int} {nm op : Str} {vals : List tAttr} {l : List tFilter} (hv : vals.length ≤ maxLen) (hn2 : vals.length + 2000 < n) :
    dfilter_leaf n (.mk k nm op vals l) = some (leafB k nm op vals l) := by
  unfold dfilter_leaf leafB
  simp only [dname nm (show 2000 < n by omega), Option.bind_some]
  cases nameB nm with
  | false => rfl
  | true =>
    cases l with
    | cons x l =>
      have : decide ((((x :: l).length : Nat) : Int) > 0) = true := by simp
      rw [this]; rfl
    | nil =>
      cases vals with
      | nil => rfl
      | cons v r =>
        have h0 : decide (((([] : List tFilter).length : Nat) : Int) > 0) = false := rfl
        have h1 : ((((v :: r).length : Nat) : Int) == 0) = false := beq_false_of_ne (by simp; omega)
        have hg : gi (v :: r) 0 = some v := rfl
        have hc := dCfA (v :: r) (fun x0 => dfilter_leaf_1 n x0 (tFilter.mk k nm op (v :: r) [])) (fun a => !valB v.Text a) (fun a _ => by
          unfold dfilter_leaf_1
          rw [dvalue a (show 300 < n by omega), valB_same v.Text a]
          simp only [Option.bind_some, hg]
          cases valB a.Text a <;> cases a.Text <;> cases v.Text <;> rfl) hv (show (v :: r).length < n by omega)
        have hall : ((v :: r).any fun a => !valB v.Text a) = !(v :: r).all (valB v.Text) := by rw [List.all_eq_not_any_not, Bool.not_not]
        simp only [h0, h1, cond_false, hc, hall, Option.bind_some, Bool.not_true, Bool.true_and, List.isEmpty_nil]
        cases (v :: r).all (valB v.Text) with
        | false => rfl
        | true =>
          have e1 : ((((v :: r).length : Nat) : Int) == 1) = r.isEmpty := by cases r with
            | nil => rfl
            | cons w r => exact beq_false_of_ne (by simp; omega)
          have e20 : decide ((((v :: r).length : Nat) : Int) ≤ 20) = decide (r.length ≤ 19) := by rw [Bool.eq_iff_iff]; simp; omega
          simp only [e1, e20, hg, Option.bind_some, dops, dIdx (show opsL.length ≤ 1000000 by decide) (show opsL.length < n by show 6 < n; omega), Bool.not_true, cond_false, Bool.true_and]
          cases k == 4 <;> cases k == 5 <;> cases r.isEmpty <;> cases v.Text <;> cases decide (r.length ≤ 19) <;> rfl
theorem isEmpty_len {α : Type} (l : List α) : (((l.length : Nat) : Int) == 0) = l.isEmpty := by
  cases l with
  | nil => rfl
  | cons x l => exact beq_false_of_ne (by simp; omega)
theorem headB_1 {l : Nat} : decide ((l : Int) ≥ 2) = decide (2 ≤ l) := by rw [Bool.eq_iff_iff]; simp; omega
theorem nbeq (a b : Nat) : (((a : Nat) : Int) == (b : Int)) = (a == b) := by rw [Bool.eq_iff_iff]; simp; omega
theorem down {n : Nat} {k : Int} {nm op : Str} {vals : List tAttr} {l : List tFilter} (hv : vals.length ≤ maxLen) (hl : l.length ≤ maxLen) (hn2 : vals.length + l.length + 2000 < n) :
    dfilter_own n (.mk k nm op vals l) = some (bif k == 4 || (k == 5 || k == 6) then leafB k nm op vals l else headB k l.length && (nm == [] && (op == [] && (vals.isEmpty && (bif k == 3 then true else !(l.any fun x => kindF x == k)))))) := by
  unfold dfilter_own headB
  have hc := dCfF l (fun x0 => dfilter_own_1 n x0 (tFilter.mk k nm op vals l)) (fun x => kindF x == k) (fun x _ => by cases x; rfl) hl (show l.length < n by omega)
  have e1 : (((l.length : Nat) : Int) == 1) = (l.length == 1) := nbeq _ 1
  have e0 : (((l.length : Nat) : Int) == 0) = (l.length == 0) := nbeq _ 0
  simp only [hc, dleaf hv (show vals.length + 2000 < n by omega), Option.bind_some, isEmpty_len vals, headB_1, e1, e0]
  by_cases h1 : k = 1
  · subst h1; cases nm == [] <;> cases op == [] <;> cases vals.isEmpty <;> cases decide (2 ≤ l.length) <;> simp
  by_cases h2 : k = 2
  · subst h2; cases nm == [] <;> cases op == [] <;> cases vals.isEmpty <;> cases decide (2 ≤ l.length) <;> simp
  by_cases h3 : k = 3
  · subst h3; cases nm == [] <;> cases op == [] <;> cases vals.isEmpty <;> cases l.length == 1 <;> simp
  by_cases h7 : k = 7
  · subst h7
    cases nm == [] <;> cases op == [] <;> cases vals.isEmpty <;> cases hz : l.length == 0 <;> simp
    have : l = [] := List.length_eq_zero_iff.1 (by simpa using hz)
    rw [this]; simp
  have b1 : (k == 1) = false := by simpa using h1
  have b2 : (k == 2) = false := by simpa using h2
  have b3 : (k == 3) = false := by simpa using h3
  have b7 : (k == 7) = false := by simpa using h7
  rw [b1, b2, b3, b7]
  cases k == 4 <;> cases k == 5 <;> cases k == 6 <;> cases nm == [] <;> cases op == [] <;> cases vals.isEmpty <;> rfl
theorem dfine : ∀ f : tFilter, ok_tFilter f → Ev fun n => dfilter_fine n f = some (fineF f)
  | .mk k nm op vals l, hf => by
    obtain ⟨h1, h2, h3⟩ := okF_mk hf
    have ih : Ev fun n => ∀ x ∈ l, dfilter_fine n x = some (fineF x) := Ev.all fun x hx => dfine x (oks_mem h3 x hx)
    refine Ev.succ (Ev.succ ((ih.big (vals.length + l.length + 2001)).mono fun n hh => ?_))
    obtain ⟨hn, ih⟩ := hh
    have e1 : ∀ x ∈ l, dfilter_fine_1 (n + 1) x = some (!fineF x) := fun x hx => by
      have := ih x hx
      cases x; rw [dfilter_fine_1]; simp only [this, Option.bind_some]
    rw [dfilter_fine, fineF]
    simp only [down h1 h2 (show vals.length + l.length + 2000 < n + 1 by omega), Option.bind_some, dCfF l _ (fun x => !fineF x) e1 h2 (show l.length < n + 1 by omega)]
    have hall : (!l.any fun x => !fineF x) = l.all fineF := by rw [List.all_eq_not_any_not]
    rw [hall]
    cases hk : (k == 4 || (k == 5 || k == 6)) with
    | true =>
      simp only [cond_true]
      cases hL : leafB k nm op vals l with
      | false => rfl
      | true =>
        have : l = [] := by
          unfold leafB at hL
          cases l with
          | nil => rfl
          | cons x l => simp at hL
        rw [this]; rfl
    | false =>
      simp only [cond_false]
      rw [fineL_eq]
      have hsplit : (l.all fun x => fineF x && (bif k == 3 then true else !(kindF x == k))) = ((bif k == 3 then true else !(l.any fun x => kindF x == k)) && l.all fineF) := by
        cases k == 3 with
        | true => simp
        | false =>
          simp only [cond_false]
          rw [Bool.eq_iff_iff]
          simp only [List.all_eq_true, Bool.and_eq_true, Bool.not_eq_true', List.any_eq_false]
          exact ⟨fun h => ⟨fun x hx => by have := (h x hx).2; simpa using this, fun x hx => (h x hx).1⟩, fun h x hx => ⟨h.2 x hx, by have := h.1 x hx; simpa using this⟩⟩
      rw [hsplit]
      cases headB k l.length <;> cases nm == [] <;> cases op == [] <;> cases vals.isEmpty <;> cases (bif k == 3 then true else !(l.any fun x => kindF x == k)) <;> rfl
theorem dsize : ∀ f : tFilter, ok_tFilter f → nodesF f ≤ 4611686018427387904 → Ev fun n => dfilter_size n f = some ((deepF f : Int), (nodesF f : Int))
  | .mk k nm op vals l, hf, hN => by
    obtain ⟨h1, h2, h3⟩ := okF_mk hf
    have hNl : nodesL l + 1 ≤ 4611686018427387904 := by simpa only [nodesF] using hN
    have ih : Ev fun n => ∀ x ∈ l, dfilter_size n x = some ((deepF x : Int), (nodesF x : Int)) := Ev.all fun x hx => dsize x (oks_mem h3 x hx) (by have := nodes_mem hx; omega)
    refine Ev.succ ((ih.big (l.length + 1)).mono fun n hh => ?_)
    obtain ⟨hn, ih⟩ := hh
    rw [dfilter_size, deepF, nodesF]
    have hd := deepL_nodes l
    refine (congrArg (fun o => Option.bind o _) (loopD_traj (fun i => (((deepL (l.take i) : Nat) : Int), ((nodesL (l.take i) + 1 : Nat) : Int), (i : Int))) l.length (e := ((deepL l : Int), ((nodesL l + 1 : Nat) : Int))) (fun i hi => ?_) ?_ n (by omega))).trans ?_
    · have hde : decide ((i : Int) < (l.length : Int)) = true := by simpa using hi
      have h5 := ih _ (List.getElem_mem hi)
      have hsn := take_snoc hi
      have hnt := nodesL_take l (i + 1)
      rw [hsn, nodesL_snoc] at hnt
      simp only [hde, cond_true, gi_lt hi, Option.bind_some]
      rw [hsn, deepL_snoc, nodesL_snoc]
      cases hx : l[i] with
      | mk a b c d e =>
        rw [hx] at h5 hnt
        have hmax : (if ((deepF (.mk a b c d e) : Nat) : Int) > ((deepL (l.take i) : Nat) : Int) then ((deepF (.mk a b c d e) : Nat) : Int) else ((deepL (l.take i) : Nat) : Int)) = ((max (deepL (l.take i)) (deepF (.mk a b c d e)) : Nat) : Int) := by
          split <;> omega
        have hW : W (((nodesL (l.take i) + 1 : Nat) : Int) + ((nodesF (.mk a b c d e) : Nat) : Int)) = ((nodesL (l.take i) + nodesF (.mk a b c d e) + 1 : Nat) : Int) := by
          rw [show ((nodesL (l.take i) + 1 : Nat) : Int) + ((nodesF (.mk a b c d e) : Nat) : Int) = ((nodesL (l.take i) + nodesF (.mk a b c d e) + 1 : Nat) : Int) by omega]; exact W_nat (by omega)
        simp only [h5, Option.bind_some, hmax, hW, W_suc (show i + 1 < 9223372036854775808 by have := lt_max h2; omega)]
    · have hde : decide ((l.length : Int) < (l.length : Int)) = false := by simp
      simp only [hde, cond_false, List.take_length]
    · simp only [Option.bind_some]
      rw [W_suc (by omega)]
theorem dMay {f : tFilter} (hf : ok_tFilter f) (hN : nodesF f ≤ 4611686018427387904) : Ev fun n => dfilter_May n f = some (mayF f) := by
  refine (dfine f hf).mono2 (dsize f hf hN) fun n e1 e2 => ?_
  unfold dfilter_May mayF
  have d1 : decide (((deepF f : Nat) : Int) ≤ 10) = decide (deepF f ≤ 10) := by rw [Bool.eq_iff_iff]; simp; omega
  have d2 : decide (((nodesF f : Nat) : Int) ≤ 60) = decide (nodesF f ≤ 60) := by rw [Bool.eq_iff_iff]; simp; omega
  cases f
  simp only [e1, e2, Option.bind_some, d1, d2]
  cases decide (deepF _ ≤ 10) <;> cases decide (nodesF _ ≤ 60) <;> rfl
def eqA (a b : tAttr) : Bool := (a.Name == b.Name) && ((a.Text == b.Text) && ((a.N == b.N) && ((a.S == b.S) && true)))
def eqAs : List tAttr → List tAttr → Bool
  | [], [] => true
  | a :: l, b :: m => eqA a b && eqAs l m
  | _, _ => false
mutual
def eqF : tFilter → tFilter → Bool
  | .mk k a b v l, .mk k2 a2 b2 v2 l2 => k == k2 && (a == a2 && (b == b2 && (eqAs v v2 && eqFs l l2)))
def eqFs : List tFilter → List tFilter → Bool
  | [], [] => true
  | x :: l, y :: m => eqF x y && eqFs l m
  | [], _ :: _ => false
  | _ :: _, [] => false
end
end Go.Proofs.YtbkomicjhfldmaaGreatDoor
namespace Go.Proofs.YtbkomicjhfldmaaGreatDoor
open Go.Pv
set_option linter.unusedSimpArgs false
set_option linter.unusedVariables false
set_option linter.unusedSectionVars false
set_option maxRecDepth 100000
abbrev TL := List ttokenToken
def isW (s : Str) (t : ttokenToken) : Bool := t.S == s && (t.Kind == 2 || t.Kind == 5)
def tk (s : Str) : TL → Option TL
  | [] => none
  | t :: r => if isW s t then some r else none
def tkK (ks : List Int) : TL → Option (ttokenToken × TL)
  | [] => none
  | t :: r => if ks.contains t.Kind then some (t, r) else none
def valT (t : ttokenToken) : tAttr := bif t.Kind == 4 then ⟨[], true, 0, t.S⟩ else ⟨[], false, t.N, []⟩
def hT : List tAttr → Bool
  | [] => false
  | a :: _ => a.Text
def pV : Nat → List tAttr → TL → Option (List tAttr × TL)
  | 0, _, _ => none
  | m + 1, l, L => match tk [44] L with
    | none => some (l, L)
    | some r => match tkK [3, 4] r with
      | none => none
      | some (t, r2) => if (valT t).Text == hT l then pV m (l ++ [valT t]) r2 else none
def pLeaf (L : TL) : Option (tFilter × TL) := match tkK [1] L with
  | none => none
  | some (t, r) => match tk [105, 110] r with
    | some r1 => match tk [40] r1 with
      | none => none
      | some r2 => match tkK [3, 4] r2 with
        | none => none
        | some (v, r3) => match pV (r3.length + 1) [valT v] r3 with
          | none => none
          | some (vs, r4) => match tk [41] r4 with
            | none => none
            | some r5 => some (.mk 6 t.S [] vs [], r5)
    | none => match tk [94, 61] r with
      | some r1 => match tkK [4] r1 with
        | none => none
        | some (v, r2) => some (.mk 5 t.S [] [valT v] [], r2)
      | none => match tkK [5] r with
        | none => none
        | some (o, r1) => if opsL.contains o.S then match tkK [3, 4] r1 with
            | none => none
            | some (v, r2) => some (.mk 4 t.S o.S [valT v] [], r2)
          else none
def pMore (p : TL → Option (tFilter × TL)) (w : Str) : Nat → TL → Option (List tFilter × TL)
  | 0, _ => none
  | m + 1, L => match tk w L with
    | none => some ([], L)
    | some r => match p r with
      | none => none
      | some (f, r1) => match pMore p w m r1 with
        | none => none
        | some (l, r2) => some (f :: l, r2)
def subF : tFilter → List tFilter
  | .mk _ _ _ _ l => l
def flatF (k : Int) (l : List tFilter) : List tFilter := l.flatMap fun x => bif kindF x == k then subF x else [x]
def comb (k : Int) (f : tFilter) (l : List tFilter) : tFilter := if l = [] then f else .mk k [] [] [] (flatF k (f :: l))
def pRow (p : TL → Option (tFilter × TL)) (k : Int) (w : Str) (m : Nat) (L : TL) : Option (tFilter × TL) := match p L with
  | none => none
  | some (f, r) => match pMore p w m r with
    | none => none
    | some (l, r1) => some (comb k f l, r1)
def pNot : Nat → TL → Option (tFilter × TL)
  | 0, _ => none
  | k + 1, L => match tk [110, 111, 116] L with
    | some r => match pNot k r with
      | none => none
      | some (f, r1) => some (.mk 3 [] [] [] [f], r1)
    | none => match tk [40] L with
      | some r => match pRow (pRow (pNot k) 1 [97, 110, 100] k) 2 [111, 114] k r with
        | none => none
        | some (f, r1) => match tk [41] r1 with
          | none => none
          | some r2 => some (f, r2)
      | none => match tk [116, 114, 117, 101] L with
        | some r => some (.mk 7 [] [] [] [], r)
        | none => pLeaf L
theorem dIdxI {n : Nat} {l : List Int} {v : Int} (hl : l.length ≤ 1000000) (hn : l.length < n) : dslices_Contains_int n l v = some (l.contains v) := by
  unfold dslices_Contains_int dslices_Index_int
  have hany : l.contains v = l.any fun x => v == x := by rw [List.contains_eq_any_beq]
  rw [hany, any_ix]
  refine (congrArg (fun o => Option.bind (Option.bind o _) _) (ix_loop (l := l) (p := fun x => v == x) (fun i h => ?_) ?_ (Nat.le_trans hl (by decide)) hn)).trans ?_
  · have hd : decide ((i : Int) < (l.length : Int)) = true := by simpa using h
    simp only [hd, cond_true, gi_lt h, Option.bind_some]
    cases v == l[i] <;> rfl
  · simp
  · cases l.findIdx? (fun x => v == x) with
    | none => rfl
    | some i => simp only [Option.bind_some, kS]; rfl
theorem dnextC (n : Nat) (t : ttokenToken) (r : TL) : dfilter_parser_next n ⟨t :: r, false⟩ = some (t, ⟨t :: r, false⟩) := by
  unfold dfilter_parser_next
  have : (((t :: r).length : Int) == 0) = false := beq_false_of_ne (by simp; omega)
  simp only [cond_false, this, Option.bind_some]
  rfl
theorem dnextN (n : Nat) : dfilter_parser_next n ⟨[], false⟩ = some (⟨0, 0, 0, []⟩, ⟨[], false⟩) := rfl
theorem dnextB (n : Nat) (L : TL) : dfilter_parser_next n ⟨L, true⟩ = some (⟨0, 0, 0, []⟩, ⟨L, true⟩) := rfl
theorem gsl1 {α : Type} (t : α) (r : List α) : gsl (t :: r) 1 ((t :: r).length : Int) = some r := by
  have := gsl_from (t :: r) (i := 1) (by simp)
  simpa using this
theorem dtakes (n : Nat) (L : TL) (s : Str) : dfilter_parser_takes n ⟨L, false⟩ s = some (match tk s L with | some r => (true, ⟨r, false⟩) | none => (false, ⟨L, false⟩)) := by
  unfold dfilter_parser_takes
  cases L with
  | nil =>
    rw [dnextN, Option.bind_some, tk]
    cases ([] : Str) == s <;> rfl
  | cons t r =>
    rw [dnextC, Option.bind_some, tk]
    have : (bif (!(t.S == s)) then some true else (bif (t.Kind != 2) then some (t.Kind != 5) else some false) : Option Bool) = some (!isW s t) := by
      unfold isW
      have e2 : (t.Kind != 2) = !(t.Kind == 2) := rfl
      have e5 : (t.Kind != 5) = !(t.Kind == 5) := rfl
      rw [e2, e5]
      cases t.S == s <;> cases t.Kind == 2 <;> cases t.Kind == 5 <;> rfl
    simp only [this, Option.bind_some]
    cases isW s t with
    | true => simp only [Bool.not_true, cond_false, gsl1, Option.bind_some, if_true]
    | false => rfl
theorem dtakesB (n : Nat) (L : TL) (s : Str) : dfilter_parser_takes n ⟨L, true⟩ s = some (false, ⟨L, true⟩) := by
  unfold dfilter_parser_takes
  rw [dnextB, Option.bind_some]
  cases ([] : Str) == s <;> rfl
theorem dtake (n : Nat) (L : TL) (ks : List Int) (h0 : ks.contains 0 = false) (hk : ks.length ≤ 100) (hn : 100 < n) : dfilter_parser_take n ⟨L, false⟩ ks = some (match tkK ks L with | some (t, r) => (t, ⟨r, false⟩) | none => (⟨0, 0, 0, []⟩, ⟨L, true⟩)) := by
  unfold dfilter_parser_take
  cases L with
  | nil => rw [dnextN, Option.bind_some, dIdxI (by omega) (by omega), Option.bind_some, h0, tkK]; rfl
  | cons t r =>
    rw [dnextC, Option.bind_some, dIdxI (by omega) (by omega), Option.bind_some, tkK]
    cases ks.contains t.Kind with
    | true => simp only [Bool.not_true, cond_false, gsl1, Option.bind_some, if_true]
    | false => rfl
theorem dtakeB (n : Nat) (L : TL) (ks : List Int) (h0 : ks.contains 0 = false) (hk : ks.length ≤ 100) (hn : 100 < n) : dfilter_parser_take n ⟨L, true⟩ ks = some (⟨0, 0, 0, []⟩, ⟨L, true⟩) := by
  unfold dfilter_parser_take
  rw [dnextB, Option.bind_some, dIdxI (by omega) (by omega), Option.bind_some, h0]; rfl
theorem dvalC (n : Nat) (L : TL) (ks : List Int) (h0 : ks.contains 0 = false) (hk : ks.length ≤ 100) (hn : 100 < n) : dfilter_parser_value n ⟨L, false⟩ ks = some (match tkK ks L with | some (t, r) => (valT t, ⟨r, false⟩) | none => (⟨[], false, 0, []⟩, ⟨L, true⟩)) := by
  unfold dfilter_parser_value
  rw [dtake n L ks h0 hk hn, Option.bind_some]
  cases tkK ks L with
  | none => rfl
  | some p => obtain ⟨t, r⟩ := p; unfold valT; cases h : t.Kind == 4 <;> simp [h]
theorem dvalB (n : Nat) (L : TL) (ks : List Int) (h0 : ks.contains 0 = false) (hk : ks.length ≤ 100) (hn : 100 < n) : dfilter_parser_value n ⟨L, true⟩ ks = some (⟨[], false, 0, []⟩, ⟨L, true⟩) := by
  unfold dfilter_parser_value
  rw [dtakeB n L ks h0 hk hn, Option.bind_some]; rfl
theorem dmust (n : Nat) (L : TL) (b : Bool) : dfilter_parser_must n ⟨L, false⟩ b = some ⟨L, !b⟩ := rfl
theorem dmustB (n : Nat) (L : TL) (b : Bool) : dfilter_parser_must n ⟨L, true⟩ b = some ⟨L, true⟩ := rfl
theorem tk_lenS {s : Str} {L r : TL} (h : tk s L = some r) : L.length = r.length + 1 := by
  cases L with
  | nil => cases h
  | cons t l => rw [tk] at h; split at h <;> cases h; rfl
theorem tkK_len {ks : List Int} {L r : TL} {t : ttokenToken} (h : tkK ks L = some (t, r)) : L.length = r.length + 1 := by
  cases L with
  | nil => cases h
  | cons t l => rw [tkK] at h; split at h <;> cases h; rfl
def RC (L : TL) (o : Option (tFilter × TL)) (res : tFilter × tfilterparser) : Prop :=
  nodesF res.1 + 2 * res.2.L.length ≤ 2 * L.length + 1 ∧ match o with | some (g, r) => res = (g, ⟨r, false⟩) | none => res.2.Bad = true
def vloop (n : Nat) (p : Bool × TL × Bool × List tAttr) : Option ((Bool × TL × Bool × List tAttr) ⊕ (TL × Bool × List tAttr)) :=
  match p with
  | (more1, p2, p3, l1) => bif more1 then ((dfilter_parser_value n (tfilterparser.mk p2 p3) [3, 4]).bind fun x5 => (ap l1 [x5.1]).bind fun l4 => (gi l4 0).bind fun x7 => (dfilter_parser_must n x5.2 (x5.1.Text == x7.Text)).bind fun x8 => (dfilter_parser_takes n x8 [44]).bind fun more3 => some (Sum.inl (more3.1, more3.2.L, more3.2.Bad, l4))) else some (Sum.inr (p2, p3, l1))
def pVc (m : Nat) (l : List tAttr) (L : TL) : Option (List tAttr × TL) := match tkK [3, 4] L with
  | none => none
  | some (t, r) => if (valT t).Text == hT (l ++ [valT t]) then pV m (l ++ [valT t]) r else none
theorem hT_gi {l : List tAttr} (h : l ≠ []) : ∃ a, gi l 0 = some a ∧ a.Text = hT l := by
  cases l with
  | nil => exact absurd rfl h
  | cons a l => exact ⟨a, rfl, rfl⟩
theorem hT_app {l : List tAttr} (h : l ≠ []) (m : List tAttr) : hT (l ++ m) = hT l := by
  cases l with
  | nil => exact absurd rfl h
  | cons a l => rfl
theorem vloop_end (n k : Nat) (L : TL) (b : Bool) (l : List tAttr) : loopD (vloop n) (k + 1) (false, L, b, l) = some (L, b, l) := loopD_end rfl
theorem vloopB {n k : Nat} (L : TL) (l : List tAttr) (hn : 100 < n) (hl : l.length ≤ 2000) : ∃ l', loopD (vloop n) (k + 2) (true, L, true, l) = some (L, true, l') := by
  obtain ⟨a, ha, -⟩ := hT_gi (l := l ++ [⟨[], false, 0, []⟩]) (by simp)
  refine ⟨l ++ [⟨[], false, 0, []⟩], (loopD_go (s' := (false, L, true, l ++ [⟨[], false, 0, []⟩])) ?_).trans (vloop_end n k L true _)⟩
  simp only [vloop, cond_true, dvalB n L [3, 4] rfl (by decide) hn, Option.bind_some, ap_ok (show l.length + [(⟨[], false, 0, []⟩ : tAttr)].length ≤ capN from Nat.le_trans (show l.length + 1 ≤ 2001 by omega) (by decide)), ha, dmustB, dtakesB]
theorem vloop_ok {n : Nat} (hn : 100 < n) : ∀ (m : Nat) (L : TL) (l : List tAttr) (k : Nat), L.length < m → l.length + L.length ≤ 1000 → m + 3 < k →
    ∃ (l' : List tAttr) (p' : tfilterparser), loopD (vloop n) k (true, L, false, l) = some (p'.L, p'.Bad, l') ∧ p'.L.length ≤ L.length ∧ match pVc m l L with | some (vs, r) => l' = vs ∧ p' = ⟨r, false⟩ | none => p'.Bad = true
  | 0, L, l, k, h, _, _ => by omega
  | m + 1, L, l, k, h, hc, hk => by
    obtain ⟨k, rfl⟩ : ∃ j, k = j + 2 := ⟨k - 2, by omega⟩
    have hap : ∀ v : tAttr, ap l [v] = some (l ++ [v]) := fun v => ap_ok (Nat.le_trans (show l.length + 1 ≤ 2001 by omega) (by decide))
    unfold pVc
    cases ht : tkK [3, 4] L with
    | none =>
      obtain ⟨a, ha, -⟩ := hT_gi (l := l ++ [⟨[], false, 0, []⟩]) (by simp)
      refine ⟨l ++ [⟨[], false, 0, []⟩], ⟨L, true⟩, (loopD_go (s' := (false, L, true, l ++ [⟨[], false, 0, []⟩])) ?_).trans (vloop_end n k L true _), Nat.le_refl _, rfl⟩
      simp only [vloop, cond_true, dvalC n L [3, 4] rfl (by decide) hn, ht, Option.bind_some, hap, ha, dmustB, dtakesB]
    | some q =>
      obtain ⟨t, r⟩ := q
      have hr := tkK_len ht
      obtain ⟨a, ha, ha2⟩ := hT_gi (l := l ++ [valT t]) (by simp)
      cases he : (valT t).Text == hT (l ++ [valT t]) with
      | false =>
        refine ⟨l ++ [valT t], ⟨r, true⟩, (loopD_go (s' := (false, r, true, l ++ [valT t])) ?_).trans (vloop_end n k r true _), by show r.length ≤ _; omega, by simp [he]⟩
        simp only [vloop, cond_true, dvalC n L [3, 4] rfl (by decide) hn, ht, Option.bind_some, hap, ha, ha2, he, dmust, Bool.not_false, dtakesB]
      | true =>
        have hstep : vloop n (true, L, false, l) = some (.inl (match tk [44] r with | some r2 => (true, r2, false, l ++ [valT t]) | none => (false, r, false, l ++ [valT t]))) := by
          simp only [vloop, cond_true, dvalC n L [3, 4] rfl (by decide) hn, ht, Option.bind_some, hap, ha, ha2, he, dmust, Bool.not_true, dtakes]
          cases tk [44] r <;> rfl
        simp only [he, if_true, pV]
        cases hc2 : tk [44] r with
        | none =>
          rw [hc2] at hstep
          exact ⟨l ++ [valT t], ⟨r, false⟩, (loopD_go hstep).trans (vloop_end n k r false _), by show r.length ≤ _; omega, by simp⟩
        | some r2 =>
          rw [hc2] at hstep
          have hr2 := tk_lenS hc2
          obtain ⟨l', p', e1, e2, e3⟩ := vloop_ok hn m r2 (l ++ [valT t]) (k + 1) (by omega) (by simp; omega) (by omega)
          refine ⟨l', p', (loopD_go hstep).trans e1, by omega, ?_⟩
          simp only
          unfold pVc at e3
          cases h5 : tkK [3, 4] r2 with
          | none => rw [h5] at e3; exact e3
          | some q =>
            obtain ⟨t2, r3⟩ := q
            rw [h5] at e3
            simp only [hT_app (show l ++ [valT t] ≠ [] by simp)] at e3
            exact e3
theorem pV_mono : ∀ (m : Nat) (l : List tAttr) (L : TL) (j : Nat), L.length < m → m ≤ j → pV j l L = pV m l L
  | 0, l, L, j, h, _ => by omega
  | m + 1, l, L, j, h, hj => by
    obtain ⟨j, rfl⟩ : ∃ i, j = i + 1 := ⟨j - 1, by omega⟩
    rw [pV, pV]
    cases h1 : tk [44] L with
    | none => rfl
    | some r =>
      have := tk_lenS h1
      simp only
      cases h2 : tkK [3, 4] r with
      | none => rfl
      | some q =>
        obtain ⟨t, r2⟩ := q
        have := tkK_len h2
        simp only [pV_mono m (l ++ [valT t]) r2 j (by omega) (by omega)]
def leafG (fu : Nat) (p1 : tfilterparser) : Option (tFilter × tfilterparser) :=
  (dfilter_parser_take fu p1 [1]).bind fun x1 => (dfilter_parser_takes fu x1.2 [105, 110]).bind fun x2 => bif x2.1 then ((dfilter_parser_takes fu x2.2 [40]).bind fun x3 => (dfilter_parser_must fu x3.2 x3.1).bind fun x4 => (loopD (vloop fu) fu (true, x4.L, x4.Bad, [])).bind fun (((p6, p7, l3)) : (List ttokenToken) × Bool × (List tAttr)) => ((dfilter_parser_takes fu (tfilterparser.mk p6 p7) [41]).bind fun x9 => (dfilter_parser_must fu x9.2 x9.1).bind fun x10 => some ((tFilter.mk 6 x1.1.S [] l3 []), x10))) else ((dfilter_parser_takes fu x2.2 [94, 61]).bind fun x11 => bif x11.1 then ((dfilter_parser_value fu x11.2 [4]).bind fun x12 => some ((tFilter.mk 5 x1.1.S [] [x12.1] []), x12.2)) else ((dfilter_parser_take fu x11.2 [5]).bind fun x13 => (dfilter_ops fu ).bind fun x16 => (dslices_Contains_string fu x16 x13.1.S).bind fun x17 => (dfilter_parser_must fu x13.2 x17).bind fun x18 => (dfilter_parser_value fu x18 [3, 4]).bind fun x19 => some ((tFilter.mk 4 x1.1.S x13.1.S [x19.1] []), x19.2)))
theorem leafG_eq (n : Nat) (p : tfilterparser) : dfilter_parser_leaf n p = leafG n p := rfl
theorem RC_leaf {L : TL} {k : Int} {a b : Str} {v : List tAttr} {p : tfilterparser} (h : p.L.length ≤ L.length) (hb : p.Bad = true) : RC L none (.mk k a b v [], p) := ⟨by simp only [nodesF, nodesL]; omega, hb⟩
theorem RC_leaf' {L r : TL} {k : Int} {a b : Str} {v : List tAttr} (h : r.length ≤ L.length) : RC L (some (.mk k a b v [], r)) (.mk k a b v [], ⟨r, false⟩) := ⟨by simp only [nodesF, nodesL]; omega, rfl⟩
theorem dleafC {n : Nat} {L : TL} (hn : 3000 < n) (hL : L.length ≤ 900) : ∃ res, dfilter_parser_leaf n ⟨L, false⟩ = some res ∧ RC L (pLeaf L) res := by
  rw [leafG_eq]
  unfold leafG pLeaf
  have hops : ∀ s, dslices_Contains_string n opsL s = some (opsL.contains s) := fun s => dIdx (by decide) (show 6 < n by omega)
  rw [dtake n L [1] rfl (by decide) (by omega), Option.bind_some]
  cases h1 : tkK [1] L with
  | none =>
    simp only [dtakesB, Option.bind_some, cond_false, dtakeB n L [5] rfl (by decide) (show 100 < n by omega), dops, hops, dmustB, dvalB n L [3, 4] rfl (by decide) (show 100 < n by omega)]
    exact ⟨_, rfl, RC_leaf (Nat.le_refl _) rfl⟩
  | some q =>
    obtain ⟨t, r⟩ := q
    have hr := tkK_len h1
    simp only [dtakes, Option.bind_some]
    cases h2 : tk [105, 110] r with
    | some r1 =>
      have hr1 := tk_lenS h2
      simp only [cond_true, dtakes, Option.bind_some]
      cases h3 : tk [40] r1 with
      | none =>
        obtain ⟨l', e⟩ := vloopB (n := n) (k := n - 2) r1 [] (by omega) (by simp)
        rw [show n - 2 + 2 = n by omega] at e
        simp only [dmust, Bool.not_false, Option.bind_some, e, dtakesB, dmustB]
        exact ⟨_, rfl, RC_leaf (by show r1.length ≤ _; omega) rfl⟩
      | some r2 =>
        have hr2 := tk_lenS h3
        obtain ⟨l', p', e1, e2, e3⟩ := vloop_ok (n := n) (by omega) (r2.length + 1) r2 [] n (by omega) (by simp; omega) (by omega)
        simp only [dmust, Bool.not_true, Option.bind_some, e1]
        unfold pVc at e3
        cases h4 : tkK [3, 4] r2 with
        | none =>
          rw [h4] at e3
          obtain ⟨pl, pb⟩ := p'
          obtain rfl : pb = true := e3
          simp only [dtakesB, dmustB, Option.bind_some]
          exact ⟨_, rfl, RC_leaf (by show pl.length ≤ _; have : pl.length ≤ _ := e2; omega) rfl⟩
        | some q =>
          obtain ⟨v, r3⟩ := q
          have hr3 := tkK_len h4
          rw [h4] at e3
          have hh : ((valT v).Text == hT [valT v]) = true := by simp [hT]
          simp only [List.nil_append, hh, if_true] at e3
          rw [pV_mono (r3.length + 1) [valT v] r3 (r2.length + 1) (by omega) (by omega)] at e3
          cases h5 : pV (r3.length + 1) [valT v] r3 with
          | none =>
            rw [h5] at e3
            obtain ⟨pl, pb⟩ := p'
            obtain rfl : pb = true := e3
            simp only [dtakesB, dmustB, Option.bind_some, h5]
            exact ⟨_, rfl, RC_leaf (by show pl.length ≤ _; have : pl.length ≤ _ := e2; omega) rfl⟩
          | some q =>
            obtain ⟨vs, r4⟩ := q
            rw [h5] at e3
            obtain ⟨rfl, rfl⟩ := e3
            have e2 : r4.length ≤ r2.length := e2
            simp only [dtakes, Option.bind_some, h5]
            cases h6 : tk [41] r4 with
            | none =>
              simp only [dmust, Option.bind_some]
              exact ⟨_, rfl, RC_leaf (by show r4.length ≤ _; omega) rfl⟩
            | some r5 =>
              have := tk_lenS h6
              simp only [dmust, Option.bind_some]
              exact ⟨_, rfl, RC_leaf' (by omega)⟩
    | none =>
      simp only [cond_false, dtakes, Option.bind_some]
      cases h3 : tk [94, 61] r with
      | some r1 =>
        have hr1 := tk_lenS h3
        simp only [cond_true, dvalC n r1 [4] rfl (by decide) (show 100 < n by omega), Option.bind_some]
        cases h4 : tkK [4] r1 with
        | none => exact ⟨_, rfl, RC_leaf (by show r1.length ≤ _; omega) rfl⟩
        | some q =>
          obtain ⟨v, r2⟩ := q
          have := tkK_len h4
          exact ⟨_, rfl, RC_leaf' (by omega)⟩
      | none =>
        simp only [cond_false, dtake n r [5] rfl (by decide) (show 100 < n by omega), Option.bind_some, dops, hops]
        cases h4 : tkK [5] r with
        | none =>
          simp only [dmustB, dvalB n r [3, 4] rfl (by decide) (show 100 < n by omega), Option.bind_some]
          exact ⟨_, rfl, RC_leaf (by show r.length ≤ _; omega) rfl⟩
        | some q =>
          obtain ⟨o, r1⟩ := q
          have hr1 := tkK_len h4
          simp only [dmust, Option.bind_some]
          cases h5 : opsL.contains o.S with
          | false =>
            simp only [Bool.not_false, dvalB n r1 [3, 4] rfl (by decide) (show 100 < n by omega), Option.bind_some]
            exact ⟨_, rfl, RC_leaf (by show r1.length ≤ _; omega) rfl⟩
          | true =>
            simp only [Bool.not_true, dvalC n r1 [3, 4] rfl (by decide) (show 100 < n by omega), Option.bind_some, if_true]
            cases h6 : tkK [3, 4] r1 with
            | none => exact ⟨_, rfl, RC_leaf (by show r1.length ≤ _; omega) rfl⟩
            | some q =>
              obtain ⟨v, r2⟩ := q
              have := tkK_len h6
              exact ⟨_, rfl, RC_leaf' (by omega)⟩
theorem flatF_snoc (k : Int) (l : List tFilter) (x : tFilter) : flatF k (l ++ [x]) = flatF k l ++ (bif kindF x == k then subF x else [x]) := by simp [flatF]
theorem nodesL_app : ∀ a b : List tFilter, nodesL (a ++ b) = nodesL a + nodesL b
  | [], b => by simp [nodesL]
  | x :: a, b => by rw [List.cons_append, nodesL, nodesL, nodesL_app a b]; omega
theorem flatF_nodes (k : Int) : ∀ l, nodesL (flatF k l) ≤ nodesL l
  | [] => Nat.le_refl _
  | x :: l => by
    have h := flatF_nodes k l
    have : flatF k (x :: l) = (bif kindF x == k then subF x else [x]) ++ flatF k l := by simp [flatF]
    rw [this, nodesL_app, nodesL]
    cases kindF x == k with
    | true => cases x; simp only [cond_true, subF, nodesF]; omega
    | false => simp only [cond_false, nodesL]; omega
def rloop (n : Nat) (part : tfilterparser → Option (tFilter × tfilterparser)) (word1 : Str) (s : TL × Bool × List tFilter) : Option ((TL × Bool × List tFilter) ⊕ (TL × Bool × List tFilter)) := match s with
  | (p2, p3, l2) => (dfilter_parser_takes n (tfilterparser.mk p2 p3) word1).bind fun x5 => bif x5.1 then ((part x5.2).bind fun l5 => match l5 with | (.mk kind3 name2 op2 vals2 l6, l7) => (ap l2 [(tFilter.mk kind3 name2 op2 vals2 l6)]).bind fun l8 => some (Sum.inl (l7.L, l7.Bad, l8))) else some (Sum.inr (x5.2.L, x5.2.Bad, l2))
def floop (l4 : List tFilter) (kind1 : Int) (s : Int × List tFilter) : Option ((Int × List tFilter) ⊕ List tFilter) := match s with
  | (x6, l9) => (bif (decide (x6 < (l4.length : Int))) then (((gi l4 x6).bind fun x8 => match x8 with | .mk kind4 name3 op3 vals3 l13 => bif (kind4 == kind1) then ((ap l9 l13).bind fun l14 => some l14) else ((ap l9 [(tFilter.mk kind4 name3 op3 vals3 l13)]).bind fun l15 => some l15) : Option (List tFilter)).bind fun (l12 : List tFilter) => some (Sum.inl (W (x6 + 1), l12))) else some (Sum.inr l9))
def rowG (fu : Nat) (part : tfilterparser → Option (tFilter × tfilterparser)) (p1 : tfilterparser) (kind1 : Int) (word1 : Str) : Option (tFilter × tfilterparser) :=
  (part p1).bind fun x1 => match x1 with | (.mk kind2 name1 op1 vals1 l1, x2) => (loopD (rloop fu part word1) fu (x2.L, x2.Bad, [(tFilter.mk kind2 name1 op1 vals1 l1)])).bind fun (((x3, x4, l4)) : (List ttokenToken) × Bool × (List tFilter)) => (bif ((l4.length : Int) == 1) then some ((tFilter.mk kind2 name1 op1 vals1 l1), (tfilterparser.mk x3 x4)) else ((loopD (floop l4 kind1) fu (0, [])).bind fun (l11 : List tFilter) => some ((tFilter.mk kind1 [] [] [] l11), (tfilterparser.mk x3 x4))))
theorem row_not_eq (n : Nat) (p : tfilterparser) (k : Int) (w : Str) : dfilter_parser_row_not (n + 1) p k w = rowG n (dfilter_parser_not n) p k w := by rw [dfilter_parser_row_not]; rfl
theorem row_and_eq (n : Nat) (p : tfilterparser) (k : Int) (w : Str) : dfilter_parser_row_and (n + 1) p k w = rowG n (dfilter_parser_and n) p k w := by rw [dfilter_parser_row_and]; rfl
theorem floop_ok {n : Nat} {k : Int} {l : List tFilter} (hl : nodesL l ≤ 4000) (hn : 5000 < n) : loopD (floop l k) n (0, []) = some (flatF k l) := by
  have hlen := len_nodes l
  have h0 : (((0 : Int), []) : Int × List tFilter) = (((0 : Nat) : Int), flatF k (l.take 0)) := by simp [flatF]
  rw [h0]
  refine loopD_traj (fun i => ((i : Int), flatF k (l.take i))) l.length (fun i hi => ?_) ?_ n (by omega)
  · have hde : decide ((i : Int) < (l.length : Int)) = true := by simpa using hi
    have ht := take_snoc hi
    have h1 : nodesL (flatF k (l.take i ++ [l[i]])) ≤ 4000 := Nat.le_trans (flatF_nodes k _) (by rw [← ht]; exact Nat.le_trans (nodesL_take l _) hl)
    have h2 := Nat.le_trans (len_nodes _) h1
    rw [flatF_snoc, List.length_append] at h2
    simp only [floop, hde, cond_true, gi_lt hi, Option.bind_some, W_suc (show i + 1 < 9223372036854775808 by omega), ht, flatF_snoc]
    cases hx : l[i] with
    | mk a b c d e =>
      rw [hx] at h2
      simp only [kindF, subF] at h2 ⊢
      cases hk : a == k with
      | true =>
        rw [hk] at h2
        simp only [cond_true] at h2 ⊢
        rw [ap_ok (Nat.le_trans h2 (by decide))]; rfl
      | false =>
        rw [hk] at h2
        simp only [cond_false] at h2 ⊢
        rw [ap_ok (Nat.le_trans h2 (by decide))]; rfl
  · have hde : decide ((l.length : Int) < (l.length : Int)) = false := by simp
    simp only [floop, hde, cond_false, List.take_length]
section
variable {n k : Nat} {part : tfilterparser → Option (tFilter × tfilterparser)} {p : TL → Option (tFilter × TL)}
theorem rloop_ok (hp : ∀ L : TL, L.length < k → L.length ≤ 500 → ∃ res, part ⟨L, false⟩ = some res ∧ RC L (p L) res) (w : Str) : ∀ (m : Nat) (L : TL) (l : List tFilter) (j : Nat), L.length < m → L.length < k → L.length ≤ 500 → l.length + L.length ≤ 2000 → m + 1 < j →
    ∃ (p' : tfilterparser) (l2 : List tFilter), loopD (rloop n part w) j (L, false, l) = some (p'.L, p'.Bad, l ++ l2) ∧ nodesL l2 + 2 * p'.L.length + l2.length ≤ 2 * L.length ∧ match pMore p w m L with | some (x, r) => l2 = x ∧ p' = ⟨r, false⟩ | none => p'.Bad = true
  | 0, L, l, j, h, _, _, _, _ => by omega
  | m + 1, L, l, j, h, hk, h5, hc, hj => by
    obtain ⟨j, rfl⟩ : ∃ i, j = i + 2 := ⟨j - 2, by omega⟩
    rw [pMore]
    cases h1 : tk w L with
    | none =>
      refine ⟨⟨L, false⟩, [], loopD_end ?_, by simp [nodesL], by simp⟩
      simp only [rloop, dtakes, h1, Option.bind_some, cond_false, List.append_nil]
    | some r =>
      have hr := tk_lenS h1
      obtain ⟨⟨f, p2⟩, e1, e2, e3⟩ := hp r (by omega) (by omega)
      have e2 : nodesF f + 2 * p2.L.length ≤ 2 * r.length + 1 := e2
      have hap : ap l [f] = some (l ++ [f]) := ap_ok (Nat.le_trans (show l.length + 1 ≤ 2001 by omega) (by decide))
      have hstep : rloop n part w (L, false, l) = some (.inl (p2.L, p2.Bad, l ++ [f])) := by
        cases f with
        | mk a b c d e => simp only [rloop, dtakes, h1, Option.bind_some, cond_true, e1, hap]
      simp only
      cases h2 : p r with
      | none =>
        rw [h2] at e3
        have e3 : p2.Bad = true := e3
        refine ⟨p2, [f], (loopD_go hstep).trans (loopD_end ?_), by simp only [nodesL, List.length_cons, List.length_nil]; omega, e3⟩
        rw [e3]
        simp only [rloop, dtakesB, Option.bind_some, cond_false]
      | some q =>
        obtain ⟨g, r1⟩ := q
        rw [h2] at e3
        have e3 : (f, p2) = (g, ⟨r1, false⟩) := e3
        obtain ⟨rfl, rfl⟩ := Prod.mk.inj e3
        have e2 : nodesF f + 2 * r1.length ≤ 2 * r.length + 1 := e2
        have hn1 : 0 < nodesF f := by cases f; simp only [nodesF]; omega
        obtain ⟨p', l2, i1, i2, i3⟩ := rloop_ok hp w m r1 (l ++ [f]) (j + 1) (by omega) (by omega) (by omega) (by simp; omega) (by omega)
        refine ⟨p', f :: l2, (loopD_go hstep).trans (by rw [i1]; simp), by simp only [nodesL, List.length_cons]; omega, ?_⟩
        simp only
        cases h3 : pMore p w m r1 with
        | none => rw [h3] at i3; exact i3
        | some q => obtain ⟨x, r2⟩ := q; rw [h3] at i3; exact ⟨by rw [i3.1], i3.2⟩
theorem rowG_ok (hp : ∀ L : TL, L.length < k → L.length ≤ 500 → ∃ res, part ⟨L, false⟩ = some res ∧ RC L (p L) res) (kd : Int) (w : Str) {L : TL} (hk : L.length < k) (h5 : L.length ≤ 500) (hn : 5000 < n) (hkn : k + 1 < n) :
    ∃ res, rowG n part ⟨L, false⟩ kd w = some res ∧ RC L (pRow p kd w k L) res := by
  obtain ⟨⟨f, p2⟩, e1, e2, e3⟩ := hp L hk h5
  have e2 : nodesF f + 2 * p2.L.length ≤ 2 * L.length + 1 := e2
  have hn1 : 0 < nodesF f := by cases f; simp only [nodesF]; omega
  unfold rowG pRow
  rw [e1, Option.bind_some]
  have hm : ∀ (G : tFilter → tfilterparser → Option (tFilter × tfilterparser)), (match ((f, p2) : tFilter × tfilterparser) with | (.mk a b c d e, x2) => G (.mk a b c d e) x2) = G f p2 := fun G => by cases f; rfl
  refine (show _ ∧ _ → _ from fun ⟨a, b⟩ => ?_) (show True ∧ True from ⟨trivial, trivial⟩)
  have hgoal : ∃ res, ((loopD (rloop n part w) n (p2.L, p2.Bad, [f])).bind fun (((x3, x4, l4)) : (List ttokenToken) × Bool × (List tFilter)) => (bif ((l4.length : Int) == 1) then some (f, (tfilterparser.mk x3 x4)) else ((loopD (floop l4 kd) n (0, [])).bind fun (l11 : List tFilter) => some ((tFilter.mk kd [] [] [] l11), (tfilterparser.mk x3 x4))))) = some res ∧ RC L (match p L with | none => none | some (f, r) => match pMore p w k r with | none => none | some (l, r1) => some (comb kd f l, r1)) res := by
    cases h2 : p L with
    | none =>
      rw [h2] at e3
      have e3 : p2.Bad = true := e3
      obtain ⟨n', rfl⟩ : ∃ i, n = i + 1 := ⟨n - 1, by omega⟩
      have hl : loopD (rloop (n' + 1) part w) (n' + 1) (p2.L, p2.Bad, [f]) = some (p2.L, p2.Bad, [f]) := loopD_end (by rw [e3]; simp only [rloop, dtakesB, Option.bind_some, cond_false])
      rw [hl, Option.bind_some]
      exact ⟨_, rfl, e2, e3⟩
    | some q =>
      obtain ⟨g, r1⟩ := q
      rw [h2] at e3
      have e3 : (f, p2) = (g, ⟨r1, false⟩) := e3
      obtain ⟨rfl, rfl⟩ := Prod.mk.inj e3
      have e2 : nodesF f + 2 * r1.length ≤ 2 * L.length + 1 := e2
      obtain ⟨p', l2, i1, i2, i3⟩ := rloop_ok hp w (n := n) k r1 [f] n (by omega) (by omega) (by omega) (by simp; omega) (by omega)
      rw [i1, Option.bind_some]
      simp only
      cases l2 with
      | nil =>
        refine ⟨(f, ⟨p'.L, p'.Bad⟩), rfl, by show nodesF f + 2 * p'.L.length ≤ _; simp only [nodesL, List.length_nil] at i2; omega, ?_⟩
        cases h3 : pMore p w k r1 with
        | none => rw [h3] at i3; exact i3
        | some q => obtain ⟨x, r2⟩ := q; rw [h3] at i3; obtain ⟨rfl, rfl⟩ := i3; rfl
      | cons y l2 =>
        have hlen : ((([f] ++ y :: l2).length : Int) == 1) = false := beq_false_of_ne (by simp; omega)
        have hnod : nodesL ([f] ++ y :: l2) ≤ 4000 := by rw [nodesL_app]; simp only [nodesL, List.length_cons] at i2 ⊢; omega
        rw [hlen, cond_false, floop_ok hnod hn, Option.bind_some]
        have hfl := flatF_nodes kd ([f] ++ y :: l2)
        refine ⟨_, rfl, ?_, ?_⟩
        · show nodesF (.mk kd [] [] [] (flatF kd ([f] ++ y :: l2))) + 2 * p'.L.length ≤ _
          rw [nodesL_app] at hfl
          simp only [nodesF, nodesL, List.length_cons] at i2 hfl ⊢
          omega
        · cases h3 : pMore p w k r1 with
          | none => rw [h3] at i3; exact i3
          | some q =>
            obtain ⟨x, r2⟩ := q; rw [h3] at i3; obtain ⟨rfl, rfl⟩ := i3
            simp [comb]
  cases f
  exact hgoal
end
def pAnd (k : Nat) (L : TL) := pRow (pNot k) 1 [97, 110, 100] k L
def pOr (k : Nat) (L : TL) := pRow (pAnd k) 2 [111, 114] k L
theorem dandC {k : Nat} (hnot : ∀ (n : Nat) (L : TL), 5 * k + 6000 ≤ n → L.length < k → L.length ≤ 500 → ∃ res, dfilter_parser_not n ⟨L, false⟩ = some res ∧ RC L (pNot k L) res) {n : Nat} {L : TL} (hn : 5 * k + 6002 ≤ n) (hk : L.length < k) (h5 : L.length ≤ 500) :
    ∃ res, dfilter_parser_and n ⟨L, false⟩ = some res ∧ RC L (pAnd k L) res := by
  obtain ⟨n, rfl⟩ : ∃ i, n = i + 2 := ⟨n - 2, by omega⟩
  obtain ⟨res, e, h⟩ := rowG_ok (n := n) (fun L h1 h2 => hnot n L (by omega) h1 h2) 1 [97, 110, 100] hk h5 (by omega) (by omega)
  rw [dfilter_parser_and, row_not_eq, e, Option.bind_some]
  obtain ⟨f, q⟩ := res
  cases f
  exact ⟨_, rfl, h⟩
theorem dorC {k : Nat} (hnot : ∀ (n : Nat) (L : TL), 5 * k + 6000 ≤ n → L.length < k → L.length ≤ 500 → ∃ res, dfilter_parser_not n ⟨L, false⟩ = some res ∧ RC L (pNot k L) res) {n : Nat} {L : TL} (hn : 5 * k + 6004 ≤ n) (hk : L.length < k) (h5 : L.length ≤ 500) :
    ∃ res, dfilter_parser_or n ⟨L, false⟩ = some res ∧ RC L (pOr k L) res := by
  obtain ⟨n, rfl⟩ : ∃ i, n = i + 2 := ⟨n - 2, by omega⟩
  obtain ⟨res, e, h⟩ := rowG_ok (n := n) (fun L h1 h2 => dandC hnot (n := n) (by omega) h1 h2) 2 [111, 114] hk h5 (by omega) (by omega)
  rw [dfilter_parser_or, row_and_eq, e, Option.bind_some]
  obtain ⟨f, q⟩ := res
  cases f
  exact ⟨_, rfl, h⟩
theorem dnotC : ∀ (k n : Nat) (L : TL), 5 * k + 6000 ≤ n → L.length < k → L.length ≤ 500 → ∃ res, dfilter_parser_not n ⟨L, false⟩ = some res ∧ RC L (pNot k L) res
  | 0, n, L, _, h, _ => by omega
  | k + 1, n, L, hn, hk, h5 => by
    obtain ⟨n, rfl⟩ : ∃ i, n = i + 1 := ⟨n - 1, by omega⟩
    have ih := dnotC k
    rw [dfilter_parser_not, dtakes, Option.bind_some, pNot]
    cases h1 : tk [110, 111, 116] L with
    | some r =>
      have hr := tk_lenS h1
      obtain ⟨⟨f, p2⟩, e1, e2, e3⟩ := ih n r (by omega) (by omega) (by omega)
      have e2 : nodesF f + 2 * p2.L.length ≤ 2 * r.length + 1 := e2
      simp only [cond_true, e1, Option.bind_some]
      refine ⟨(.mk 3 [] [] [] [f], p2), by cases f; rfl, by simp only [nodesF, nodesL]; omega, ?_⟩
      cases h2 : pNot k r with
      | none => rw [h2] at e3; exact e3
      | some q =>
        obtain ⟨g, r1⟩ := q
        rw [h2] at e3
        have e3 : (f, p2) = (g, ⟨r1, false⟩) := e3
        obtain ⟨rfl, rfl⟩ := Prod.mk.inj e3
        rfl
    | none =>
      simp only [cond_false, dtakes, Option.bind_some]
      cases h2 : tk [40] L with
      | some r =>
        have hr := tk_lenS h2
        obtain ⟨⟨f, p2⟩, e1, e2, e3⟩ := dorC ih (n := n) (L := r) (by omega) (by omega) (by omega)
        have e2 : nodesF f + 2 * p2.L.length ≤ 2 * r.length + 1 := e2
        simp only [cond_true, e1, Option.bind_some]
        have hpo : pRow (pRow (pNot k) 1 [97, 110, 100] k) 2 [111, 114] k r = pOr k r := rfl
        rw [hpo]
        obtain ⟨pl, pb⟩ := p2
        have e2 : nodesF f + 2 * pl.length ≤ 2 * r.length + 1 := e2
        cases h4 : pOr k r with
        | none =>
          rw [h4] at e3
          obtain rfl : pb = true := e3
          refine ⟨(f, ⟨pl, true⟩), ?_, by show nodesF f + 2 * pl.length ≤ _; omega, rfl⟩
          cases f; simp only [dtakesB, dmustB, Option.bind_some]
        | some q =>
          obtain ⟨g, r1⟩ := q
          rw [h4] at e3
          have e3 : (f, (⟨pl, pb⟩ : tfilterparser)) = (g, ⟨r1, false⟩) := e3
          simp only [Prod.mk.injEq, tfilterparser.mk.injEq] at e3
          obtain ⟨rfl, rfl, rfl⟩ := e3
          cases h5 : tk [41] pl with
          | none =>
            refine ⟨(f, ⟨pl, true⟩), ?_, by show nodesF f + 2 * pl.length ≤ _; omega, by simp [h5]⟩
            cases f; simp only [dtakes, h5, dmust, Option.bind_some, Bool.not_false]
          | some r2 =>
            have := tk_lenS h5
            refine ⟨(f, ⟨r2, false⟩), ?_, by show nodesF f + 2 * r2.length ≤ _; omega, by simp [h5]⟩
            cases f; simp only [dtakes, h5, dmust, Option.bind_some, Bool.not_true]
      | none =>
        simp only [cond_false, dtakes, Option.bind_some]
        cases h3 : tk [116, 114, 117, 101] L with
        | some r =>
          have hr := tk_lenS h3
          simp only [cond_true]
          exact ⟨_, rfl, RC_leaf' (by omega)⟩
        | none =>
          simp only [cond_false]
          obtain ⟨res, e, h⟩ := dleafC (n := n) (L := L) (by omega) (by omega)
          rw [e, Option.bind_some]
          obtain ⟨f, q⟩ := res
          cases f
          exact ⟨_, rfl, h⟩
end Go.Proofs.YtbkomicjhfldmaaGreatDoor
namespace Go.Proofs.YtbkomicjhfldmaaGreatDoor
open Go.Pv
set_option linter.unusedSimpArgs false
set_option linter.unusedVariables false
set_option linter.unusedSectionVars false
set_option maxRecDepth 100000
def okT (t : ttokenToken) : Prop := okI .i64 t.N ∧ t.S.length ≤ 1000
theorem okI_of {c : Int} (h1 : -9223372036854775808 ≤ c) (h2 : c ≤ 9223372036854775807) : okI .i64 c := by
  unfold okI
  simp only [Lit.wf, Bool.and_eq_true, decide_eq_true_eq]
  exact ⟨h1, by first | exact h2 | exact Int.lt_add_one_of_le h2⟩
theorem numS_ok {l : Str} {n : Int} {j : Nat} (h : numS l = some (n, j)) : okI .i64 n := by
  cases l with
  | nil => cases h
  | cons c t =>
    rw [numS] at h
    split at h
    · split at h
      · cases h
      · rename_i hn
        simp only [Option.some.injEq, Prod.mk.injEq] at h
        obtain ⟨rfl, -⟩ := h
        exact okI_of (by omega) (by omega)
    · split at h
      · cases h
      · rename_i hn
        simp only [Option.some.injEq, Prod.mk.injEq] at h
        obtain ⟨rfl, -⟩ := h
        exact okI_of (by omega) (by omega)
theorem tok_ok {l : Str} {x : Tok} {j : Nat} (hl : l.length ≤ 1000) (h : tok l = some (x, j)) : okI .i64 x.n ∧ x.s.length ≤ 1000 := by
  have z : okI .i64 0 := okI_of (by decide) (by decide)
  cases l with
  | nil => cases h
  | cons c t =>
    have hl2 : t.length ≤ 999 := by simp at hl; omega
    rw [tok] at h
    split at h
    · split at h
      · simp only [Option.some.injEq, Prod.mk.injEq] at h
        obtain ⟨rfl, -⟩ := h
        exact ⟨z, by simp only [List.length_take]; omega⟩
      · cases h
    · split at h
      · cases hn : numS (c :: t) with
        | none => rw [hn] at h; cases h
        | some p =>
          rw [hn] at h; simp only [Option.map_some, Option.some.injEq, Prod.mk.injEq] at h
          obtain ⟨rfl, -⟩ := h
          exact ⟨numS_ok (n := p.1) (j := p.2) hn, by simp⟩
      · split at h
        · split at h
          · simp only [Option.some.injEq, Prod.mk.injEq] at h
            obtain ⟨rfl, -⟩ := h
            exact ⟨z, by simp only [List.length_take]; omega⟩
          · cases h
        · split at h
          · simp only [Option.some.injEq, Prod.mk.injEq] at h
            obtain ⟨rfl, -⟩ := h
            exact ⟨z, by simp⟩
          · split at h
            · simp only [Option.some.injEq, Prod.mk.injEq] at h
              obtain ⟨rfl, -⟩ := h
              exact ⟨z, by simp⟩
            · cases h
theorem toks_ok : ∀ (m : Nat) (l : Str) (a : Nat) (L : List ttokenToken), l.length ≤ m → m ≤ 1000 → toks a l = some L → L.length ≤ l.length ∧ ∀ y ∈ L, okT y
  | _, [], a, L, _, _, h => by rw [toks_nil] at h; cases h; exact ⟨Nat.le_refl _, fun y hy => by cases hy⟩
  | 0, c :: t, a, L, hm, _, h => by simp at hm
  | m + 1, c :: t, a, L, hm, hm2, h => by
    have hm' := hm
    simp only [List.length_cons] at hm
    by_cases hc : c = 32
    · subst hc; rw [toks_sp] at h
      obtain ⟨h1, h2⟩ := toks_ok m t _ _ (by omega) (by omega) h
      exact ⟨by simp; omega, h2⟩
    · cases ht : tok (c :: t) with
      | none => rw [toks_none hc ht] at h; cases h
      | some p =>
        obtain ⟨x, j⟩ := p
        rw [toks_some hc ht] at h
        obtain ⟨L', h1, rfl⟩ := Option.map_eq_some_iff.1 h
        have hj := tok_len ht
        have hk := tok_ok (l := c :: t) (by omega) ht
        obtain ⟨h2, h3⟩ := toks_ok m ((c :: t).drop j) _ _ (by simp; omega) (by omega) h1
        refine ⟨by simp at h2 ⊢; omega, fun y hy => ?_⟩
        rcases List.mem_cons.1 hy with rfl | hy
        · exact hk
        · exact h3 y hy
mutual
def preF : tFilter → Prop
  | .mk k a b v l => okI .i64 k ∧ okS a ∧ okS b ∧ okLs ok_tAttr v ∧ preL l
def preL : List tFilter → Prop
  | [] => True
  | x :: l => preF x ∧ preL l
end
mutual
theorem pre_ok : ∀ f : tFilter, preF f → nodesF f ≤ 5000 → ok_tFilter f
  | .mk k a b v l, h, hN => by
    simp only [preF] at h
    simp only [nodesF] at hN
    have := len_nodes l
    simp only [ok_tFilter]
    exact ⟨h.1, h.2.1, h.2.2.1, h.2.2.2.1, Nat.le_trans (show l.length ≤ 5000 by omega) (by decide), pre_oks l h.2.2.2.2 (by omega)⟩
theorem pre_oks : ∀ l : List tFilter, preL l → nodesL l ≤ 5000 → oks_tFilter l
  | [], _, _ => by simp [oks_tFilter]
  | x :: l, h, hN => by
    simp only [preL] at h
    simp only [nodesL] at hN
    simp only [oks_tFilter]
    exact ⟨pre_ok x h.1 (by omega), pre_oks l h.2 (by omega)⟩
end
theorem preL_app : ∀ {a b : List tFilter}, preL a → preL b → preL (a ++ b)
  | [], b, _, h => h
  | x :: a, b, h, k => by simp only [preL, List.cons_append] at h ⊢; exact ⟨h.1, preL_app h.2 k⟩
theorem preL_flat (k : Int) : ∀ {l : List tFilter}, preL l → preL (flatF k l)
  | [], _ => by simp [flatF, preL]
  | x :: l, h => by
    simp only [preL] at h
    have e : flatF k (x :: l) = (bif kindF x == k then subF x else [x]) ++ flatF k l := by simp [flatF]
    rw [e]
    refine preL_app ?_ (preL_flat k h.2)
    cases kindF x == k with
    | true => cases x; simp only [preF] at h; exact h.1.2.2.2.2
    | false => simp only [cond_false, preL]; exact ⟨h.1, trivial⟩
def okTL (L : TL) : Prop := L.length ≤ 500 ∧ ∀ t ∈ L, okT t
theorem tk_ok {s : Str} {L r : TL} (h : tk s L = some r) (k : okTL L) : okTL r := by
  cases L with
  | nil => cases h
  | cons t l =>
    rw [tk] at h; split at h <;> cases h
    have := k.1
    exact ⟨by simp at this; omega, fun x hx => k.2 x (List.mem_cons_of_mem _ hx)⟩
theorem tkK_ok {ks : List Int} {L r : TL} {t : ttokenToken} (h : tkK ks L = some (t, r)) (k : okTL L) : okTL r ∧ okT t := by
  cases L with
  | nil => cases h
  | cons t l =>
    rw [tkK] at h; split at h <;> cases h
    have := k.1
    exact ⟨⟨by simp at this; omega, fun x hx => k.2 x (List.mem_cons_of_mem _ hx)⟩, k.2 _ (List.mem_cons_self ..)⟩
theorem s1000 {s : Str} (h : s.length ≤ 1000) : okS s := Nat.le_trans h (by decide)
theorem valT_ok {t : ttokenToken} (h : okT t) : ok_tAttr (valT t) := by
  unfold valT
  cases t.Kind == 4 with
  | true => exact ⟨s1000 (by simp), trivial, (okI_of (by decide) (by decide) : okI .i64 0), s1000 h.2⟩
  | false => exact ⟨s1000 (by simp), trivial, h.1, s1000 (by simp)⟩
theorem pV_ok : ∀ (m : Nat) (l : List tAttr) (L : TL) {vs : List tAttr} {r : TL}, (∀ a ∈ l, ok_tAttr a) → okTL L → pV m l L = some (vs, r) → (∀ a ∈ vs, ok_tAttr a) ∧ vs.length ≤ l.length + L.length ∧ okTL r
  | 0, l, L, vs, r, _, _, h => by cases h
  | m + 1, l, L, vs, r, hl, hL, h => by
    rw [pV] at h
    cases h1 : tk [44] L with
    | none => rw [h1] at h; cases h; exact ⟨hl, by omega, hL⟩
    | some r1 =>
      rw [h1] at h
      have k1 := tk_ok h1 hL
      have n1 := tk_lenS h1
      simp only at h
      cases h2 : tkK [3, 4] r1 with
      | none => rw [h2] at h; cases h
      | some q =>
        obtain ⟨t, r2⟩ := q
        rw [h2] at h
        obtain ⟨k2, k3⟩ := tkK_ok h2 k1
        have n2 := tkK_len h2
        simp only at h
        split at h
        · obtain ⟨a1, a2, a3⟩ := pV_ok m (l ++ [valT t]) r2 (fun a ha => by
            rcases List.mem_append.1 ha with ha | ha
            · exact hl a ha
            · obtain rfl := List.mem_singleton.1 ha; exact valT_ok k3) k2 h
          exact ⟨a1, by simp at a2; omega, a3⟩
        · cases h
theorem preLeaf {k : Int} {a b : Str} {v : List tAttr} (hk : okI .i64 k) (ha : a.length ≤ 1000) (hb : b.length ≤ 1000) (hv : ∀ x ∈ v, ok_tAttr x) (hl : v.length ≤ 1000) : preF (.mk k a b v []) := by
  simp only [preF, preL]; exact ⟨hk, s1000 ha, s1000 hb, ⟨Nat.le_trans hl (by decide), hv⟩, trivial⟩
theorem pLeaf_ok {L r : TL} {f : tFilter} (hL : okTL L) (h : pLeaf L = some (f, r)) : preF f ∧ okTL r := by
  unfold pLeaf at h
  cases h1 : tkK [1] L with
  | none => rw [h1] at h; cases h
  | some q =>
    obtain ⟨t, r0⟩ := q
    rw [h1] at h
    obtain ⟨k1, kt⟩ := tkK_ok h1 hL
    simp only at h
    cases h2 : tk [105, 110] r0 with
    | some r1 =>
      rw [h2] at h
      have k2 := tk_ok h2 k1
      simp only at h
      cases h3 : tk [40] r1 with
      | none => rw [h3] at h; cases h
      | some r2 =>
        rw [h3] at h
        have k3 := tk_ok h3 k2
        simp only at h
        cases h4 : tkK [3, 4] r2 with
        | none => rw [h4] at h; cases h
        | some q =>
          obtain ⟨v, r3⟩ := q
          rw [h4] at h
          obtain ⟨k4, kv⟩ := tkK_ok h4 k3
          simp only at h
          cases h5 : pV (r3.length + 1) [valT v] r3 with
          | none => rw [h5] at h; cases h
          | some q =>
            obtain ⟨vs, r4⟩ := q
            rw [h5] at h
            obtain ⟨a1, a2, a3⟩ := pV_ok _ _ _ (fun a ha => by obtain rfl := List.mem_singleton.1 ha; exact valT_ok kv) k4 h5
            simp only at h
            cases h6 : tk [41] r4 with
            | none => rw [h6] at h; cases h
            | some r5 =>
              rw [h6] at h
              cases h
              have := k4.1
              exact ⟨preLeaf (okI_of (by decide) (by decide)) kt.2 (by simp) a1 (by simp at a2; omega), tk_ok h6 a3⟩
    | none =>
      rw [h2] at h
      simp only at h
      cases h3 : tk [94, 61] r0 with
      | some r1 =>
        rw [h3] at h
        have k2 := tk_ok h3 k1
        simp only at h
        cases h4 : tkK [4] r1 with
        | none => rw [h4] at h; cases h
        | some q =>
          obtain ⟨v, r2⟩ := q
          rw [h4] at h
          obtain ⟨k3, kv⟩ := tkK_ok h4 k2
          cases h
          exact ⟨preLeaf (okI_of (by decide) (by decide)) kt.2 (by simp) (fun a ha => by obtain rfl := List.mem_singleton.1 ha; exact valT_ok kv) (by simp), k3⟩
      | none =>
        rw [h3] at h
        simp only at h
        cases h4 : tkK [5] r0 with
        | none => rw [h4] at h; cases h
        | some q =>
          obtain ⟨o, r1⟩ := q
          rw [h4] at h
          obtain ⟨k2, ko⟩ := tkK_ok h4 k1
          simp only at h
          split at h
          · cases h5 : tkK [3, 4] r1 with
            | none => rw [h5] at h; cases h
            | some q =>
              obtain ⟨v, r2⟩ := q
              rw [h5] at h
              obtain ⟨k3, kv⟩ := tkK_ok h5 k2
              cases h
              exact ⟨preLeaf (okI_of (by decide) (by decide)) kt.2 ko.2 (fun a ha => by obtain rfl := List.mem_singleton.1 ha; exact valT_ok kv) (by simp), k3⟩
          · cases h
section
variable {p : TL → Option (tFilter × TL)} (hp : ∀ {L r : TL} {f : tFilter}, okTL L → p L = some (f, r) → preF f ∧ okTL r)
include hp
theorem pMore_ok (w : Str) : ∀ (m : Nat) {L r : TL} {l : List tFilter}, okTL L → pMore p w m L = some (l, r) → preL l ∧ okTL r
  | 0, L, r, l, _, h => by cases h
  | m + 1, L, r, l, hL, h => by
    rw [pMore] at h
    cases h1 : tk w L with
    | none => rw [h1] at h; cases h; exact ⟨trivial, hL⟩
    | some r1 =>
      rw [h1] at h
      simp only at h
      cases h2 : p r1 with
      | none => rw [h2] at h; cases h
      | some q =>
        obtain ⟨f, r2⟩ := q
        rw [h2] at h
        obtain ⟨a1, a2⟩ := hp (tk_ok h1 hL) h2
        simp only at h
        cases h3 : pMore p w m r2 with
        | none => rw [h3] at h; cases h
        | some q =>
          obtain ⟨x, r3⟩ := q
          rw [h3] at h
          obtain ⟨b1, b2⟩ := pMore_ok w m a2 h3
          cases h
          exact ⟨⟨a1, b1⟩, b2⟩
theorem pRow_ok (k : Int) (hk : okI .i64 k) (w : Str) (m : Nat) {L r : TL} {f : tFilter} (hL : okTL L) (h : pRow p k w m L = some (f, r)) : preF f ∧ okTL r := by
  unfold pRow at h
  cases h2 : p L with
  | none => rw [h2] at h; cases h
  | some q =>
    obtain ⟨g, r2⟩ := q
    rw [h2] at h
    obtain ⟨a1, a2⟩ := hp hL h2
    simp only at h
    cases h3 : pMore p w m r2 with
    | none => rw [h3] at h; cases h
    | some q =>
      obtain ⟨x, r3⟩ := q
      rw [h3] at h
      obtain ⟨b1, b2⟩ := pMore_ok hp w m a2 h3
      cases h
      refine ⟨?_, b2⟩
      unfold comb
      split
      · exact a1
      · simp only [preF]
        exact ⟨hk, s1000 (by simp), s1000 (by simp), ⟨Nat.zero_le _, fun x hx => by cases hx⟩, preL_flat k (show preL (g :: x) from ⟨a1, b1⟩)⟩
end
theorem pNot_ok : ∀ (k : Nat) {L r : TL} {f : tFilter}, okTL L → pNot k L = some (f, r) → preF f ∧ okTL r
  | 0, L, r, f, _, h => by cases h
  | k + 1, L, r, f, hL, h => by
    have ih : ∀ {L r : TL} {f : tFilter}, okTL L → pNot k L = some (f, r) → preF f ∧ okTL r := fun a b => pNot_ok k a b
    rw [pNot] at h
    cases h1 : tk [110, 111, 116] L with
    | some r1 =>
      rw [h1] at h
      simp only at h
      cases h2 : pNot k r1 with
      | none => rw [h2] at h; cases h
      | some q =>
        obtain ⟨g, r2⟩ := q
        rw [h2] at h
        obtain ⟨a1, a2⟩ := ih (tk_ok h1 hL) h2
        cases h
        refine ⟨?_, a2⟩
        simp only [preF, preL]
        exact ⟨okI_of (by decide) (by decide), s1000 (by simp), s1000 (by simp), ⟨Nat.zero_le _, fun x hx => by cases hx⟩, a1, trivial⟩
    | none =>
      rw [h1] at h
      simp only at h
      cases h2 : tk [40] L with
      | some r1 =>
        rw [h2] at h
        simp only at h
        cases h3 : pRow (pRow (pNot k) 1 [97, 110, 100] k) 2 [111, 114] k r1 with
        | none => rw [h3] at h; cases h
        | some q =>
          obtain ⟨g, r2⟩ := q
          rw [h3] at h
          obtain ⟨a1, a2⟩ := pRow_ok (fun a b => pRow_ok ih 1 (okI_of (by decide) (by decide)) _ _ a b) 2 (okI_of (by decide) (by decide)) _ _ (tk_ok h2 hL) h3
          simp only at h
          cases h4 : tk [41] r2 with
          | none => rw [h4] at h; cases h
          | some r3 => rw [h4] at h; cases h; exact ⟨a1, tk_ok h4 a2⟩
      | none =>
        rw [h2] at h
        simp only at h
        cases h3 : tk [116, 114, 117, 101] L with
        | some r1 =>
          rw [h3] at h
          cases h
          refine ⟨?_, tk_ok h3 hL⟩
          simp only [preF, preL]
          exact ⟨okI_of (by decide) (by decide), s1000 (by simp), s1000 (by simp), ⟨Nat.zero_le _, fun x hx => by cases hx⟩, trivial⟩
        | none => rw [h3] at h; exact pLeaf_ok hL h
theorem pOr_ok (k : Nat) {L r : TL} {f : tFilter} (hL : okTL L) (h : pOr k L = some (f, r)) : preF f ∧ okTL r :=
  pRow_ok (fun a b => pRow_ok (fun a b => pNot_ok k a b) 1 (okI_of (by decide) (by decide)) _ _ a b) 2 (okI_of (by decide) (by decide)) _ _ hL h
def readF (s : Str) : tFilter × Er := if 500 < s.length then (.mk 0 [] [] [] [], some 5) else match toks 0 s with
  | none => (.mk 0 [] [] [] [], some 2)
  | some L => match pOr (L.length + 1) L with
    | none => (.mk 0 [] [] [] [], some 3)
    | some (f, r) => if r = [] then (if mayF f then (f, none) else (.mk 0 [] [] [] [], some 5)) else (.mk 0 [] [] [] [], some 3)
theorem readF_ok {s : Str} {L r : TL} {f : tFilter} (hs : s.length ≤ 500) (h1 : toks 0 s = some L) (h2 : pOr (L.length + 1) L = some (f, r)) : ok_tFilter f ∧ nodesF f ≤ 1001 := by
  obtain ⟨a1, a2⟩ := toks_ok 500 s 0 L hs (by decide) h1
  obtain ⟨⟨g, q⟩, -, e2, e3⟩ := dorC (dnotC (L.length + 1)) (n := 5 * (L.length + 1) + 6004) (L := L) (Nat.le_refl _) (by omega) (by omega)
  rw [h2] at e3
  have e3 : (g, q) = (f, ⟨r, false⟩) := e3
  obtain ⟨rfl, rfl⟩ := Prod.mk.inj e3
  have e2 : nodesF g + 2 * r.length ≤ 2 * L.length + 1 := e2
  exact ⟨pre_ok g (pOr_ok _ ⟨by omega, a2⟩ h2).1 (by omega), by omega⟩
theorem dRead (s : Str) : Ev fun n => dfilter_Read n s = some (readF s) := by
  unfold readF
  by_cases hs : 500 < s.length
  · refine Ev.ge 2001 fun n hn => ?_
    unfold dfilter_Read
    rw [dCut (by omega), Option.bind_some, cutC, if_pos hs, if_pos hs]; rfl
  · rw [if_neg hs]
    cases h1 : toks 0 s with
    | none =>
      refine Ev.ge 2001 fun n hn => ?_
      unfold dfilter_Read
      rw [dCut (by omega), Option.bind_some, cutC, if_neg hs, h1]; rfl
    | some L =>
      obtain ⟨a1, a2⟩ := toks_ok 500 s 0 L (by omega) (by decide) h1
      have hor := fun n hn => dorC (dnotC (L.length + 1)) (n := n) (L := L) hn (by omega) (by omega)
      simp only
      cases h2 : pOr (L.length + 1) L with
      | none =>
        refine Ev.ge (5 * (L.length + 1) + 6004) fun n hn => ?_
        unfold dfilter_Read
        rw [dCut (by omega), Option.bind_some, cutC, if_neg hs, h1]
        obtain ⟨⟨f, q⟩, e1, e2, e3⟩ := hor n hn
        rw [h2] at e3
        obtain ⟨ql, qb⟩ := q
        obtain rfl : qb = true := e3
        simp only [Option.isSome_none, cond_false, e1, Option.bind_some]
        cases f
        rfl
      | some w =>
        obtain ⟨f, r⟩ := w
        obtain ⟨ok, hN⟩ := readF_ok (by omega) h1 h2
        refine ((dMay ok (by omega)).and (Ev.ge (5 * (L.length + 1) + 6004) (p := fun n => 5 * (L.length + 1) + 6004 ≤ n) fun n hn => hn)).mono fun n hh => ?_
        obtain ⟨em, hn⟩ := hh
        unfold dfilter_Read
        rw [dCut (by omega), Option.bind_some, cutC, if_neg hs, h1]
        obtain ⟨⟨g, q⟩, e1, e2, e3⟩ := hor n hn
        rw [h2] at e3
        have e3 : (g, q) = (f, ⟨r, false⟩) := e3
        obtain ⟨rfl, rfl⟩ := Prod.mk.inj e3
        simp only [Option.isSome_none, cond_false, e1, Option.bind_some]
        cases g
        simp only [em, Option.bind_some]
        cases r with
        | nil =>
          simp only [List.length_nil, if_true]
          rw [show decide (((0 : Nat) : Int) > 0) = false from rfl, cond_false]
          cases mayF _ <;> rfl
        | cons t r =>
          have : decide (((t :: r).length : Int) > 0) = true := by simp
          rw [this, if_neg (by simp)]; rfl
end Go.Proofs.YtbkomicjhfldmaaGreatDoor
namespace Go.Proofs.YtbkomicjhfldmaaGreatDoor
open Go.Pv
set_option maxRecDepth 100000
set_option maxHeartbeats 4000000
set_option linter.unusedSimpArgs false
set_option linter.unusedVariables false
set_option linter.unusedSectionVars false
theorem ok_r {a b c d : Int} {v : Pt} (ho : okG a b c d [] v = true) : (mayP a b = true ∧ mayP v.1 v.2 = true ∧ W (a + v.1) = a + v.1 ∧ W (b + v.2) = b + v.2 ∧ mayP (a + v.1) (b + v.2) = true) ∧ (mayP c d = true ∧ mayP v.1 v.2 = true ∧ W (c + v.1) = c + v.1 ∧ W (d + v.2) = d + v.2 ∧ mayP (c + v.1) (d + v.2) = true) := by
  simp only [okG, Bool.and_eq_true] at ho
  exact ⟨may_add ho.1, may_add ho.2⟩
theorem may_m0 {a b c d : Int} {v : Pt} (hm : mayG a b c d [] = true) (ho : okG a b c d [] v = true) : mayG (W (a + v.1)) (W (b + v.2)) (W (c + v.1)) (W (d + v.2)) [] = true := by
  obtain ⟨⟨_, _, e1, e2, m1⟩, ⟨_, _, e3, e4, m2⟩⟩ := ok_r ho
  rw [e1, e2, e3, e4]
  have h := hm
  simp only [mayG, mayR, Bool.and_eq_true, decide_eq_true_eq] at h ⊢
  exact ⟨⟨⟨m1, m2⟩, by omega⟩, by omega⟩
theorem may_m1 {a b c d : Int} {q : Pt} {t : List Pt} {v : Pt} (hm : mayG a b c d (q :: t) = true) (ho : okG a b c d (q :: t) v = true) : mayG 0 0 0 0 ((q :: t).map (mv v)) = true := by
  have h := (simpB_iff _).2 ((mayG_simp hm).2.mv ho)
  show (zero4 0 0 0 0 && simpB ((q :: t).map (mv v))) = true
  rw [h]; rfl
theorem box_mvI (l : List Pt) (v : Pt) : ∀ i, 0 < i → i ≤ l.length → box (l.map (mv v)) i = ((box l i).1 + v.1, (box l i).2.1 + v.2, (box l i).2.2.1 + v.1, (box l i).2.2.2 + v.2)
  | 1, _, h => by
    rw [box_one (i := 0) (by rw [List.length_map]; omega) rfl, box_one (i := 0) (by omega) rfl]
    simp [mv]
  | i + 2, _, h => by
    have ih := box_mvI l v (i + 1) (by omega) (by omega)
    rw [box_succ (i := i + 1) (by rw [List.length_map]; omega) (by simp), box_succ (i := i + 1) (by omega) (by simp), ih]
    simp only [List.getElem_map, mv, mn_eq, mx_eq]
    refine Prod.ext ?_ (Prod.ext ?_ (Prod.ext ?_ ?_)) <;> simp only <;> omega
theorem bx_m1 {a b c d : Int} {q : Pt} {t : List Pt} {v : Pt} (hm : mayG a b c d (q :: t) = true) (ho : okG a b c d (q :: t) v = true) : box ((q :: t).map (mv v)) ((q :: t).map (mv v)).length = (W ((box (q :: t) (q :: t).length).1 + v.1), W ((box (q :: t) (q :: t).length).2.1 + v.2), W ((box (q :: t) (q :: t).length).2.2.1 + v.1), W ((box (q :: t) (q :: t).length).2.2.2 + v.2)) := by
  have hs := (mayG_simp hm).2
  have hd : my v = true := by
    have := List.all_eq_true.1 (show (q :: t).all (addA v) = true from ho) q (by simp)
    unfold addA addB at this; simp only [Bool.and_eq_true] at this; exact this.1.2
  have h2 := mayP_iff.1 hd
  have hb := (bd_box (ps := q :: t) (List.all_eq_true.2 hs.may) t.length (by simp)).1
  obtain ⟨b1, b2, b3, b4⟩ := hb
  rw [List.length_map, box_mvI _ _ _ (by simp) (Nat.le_refl _), List.length_cons, W_add b1 h2.1, W_add b2 h2.2, W_add b3 h2.1, W_add b4 h2.2]
end Go.Proofs.YtbkomicjhfldmaaGreatDoor
namespace Go.Proofs.YtbkomicjhfldmaaGreatDoor
open Go.Pv
set_option maxRecDepth 100000
set_option maxHeartbeats 4000000
set_option linter.unusedSimpArgs false
set_option linter.unusedVariables false
set_option linter.unusedSectionVars false
theorem two8 {k : Nat} (h : 24 ≤ k ∧ k ≤ 31) : twoK k = 16777216 ∨ twoK k = 33554432 ∨ twoK k = 67108864 ∨ twoK k = 134217728 ∨ twoK k = 268435456 ∨ twoK k = 536870912 ∨ twoK k = 1073741824 ∨ twoK k = 2147483648 := by
  rcases k8 h with rfl | rfl | rfl | rfl | rfl | rfl | rfl | rfl <;> decide
theorem low_high {k : Nat} {x : Int} (h : 24 ≤ k ∧ k ≤ 31) (hx : Bd x) : lowV (k : Int) (cel (k : Int) x) = (x + 1073741824) / twoK k * twoK k - 1073741824 ∧ highV (k : Int) (cel (k : Int) x) = min ((x + 1073741824) / twoK k * twoK k + twoK k - 1073741825) 1073741824 := by
  have hb : Bd x := hx
  unfold Bd at hb
  have hf := (cel_in h hx).1
  have hlit := cel_lit h hx
  have hz : ∃ z, (x + 1073741824) / twoK k = z ∧ 0 ≤ z * twoK k ∧ z * twoK k ≤ 2147483648 ∧ 0 < twoK k ∧ twoK k ≤ 2147483648 := by
    rcases two8 h with e | e | e | e | e | e | e | e <;> rw [e] <;> exact ⟨_, rfl, by omega, by omega, by omega, by omega⟩
  obtain ⟨z, hz, h1, h2, h3, h4⟩ := hz
  rw [hlit] at hf ⊢
  rw [hz] at hf ⊢
  constructor
  · rw [← low_eq h]; unfold rlow
    rw [W_id (n := z * twoK k) (by omega), W_id (by omega)]
  · rw [← high_eq h hf]; unfold rhigh rlow
    generalize z * twoK k = u at *
    rw [W_id (n := u) (by omega), W_id (n := u - 1073741824) (by omega), W_id (n := u - 1073741824 + twoK k) (by omega), W_id (by omega), mn_eq]
    omega
theorem cov1 {k : Nat} {x y : Int} (h : 24 ≤ k ∧ k ≤ 31) (hx : Bd x) (hy : Bd y) (hxy : x ≤ y) :
    mn (lowV (k : Int) (cel (k : Int) x)) (lowV (k : Int) (cel (k : Int) y)) ≤ x ∧ y ≤ mx (highV (k : Int) (cel (k : Int) x)) (highV (k : Int) (cel (k : Int) y)) ∧ Bd (mn (lowV (k : Int) (cel (k : Int) x)) (lowV (k : Int) (cel (k : Int) y))) ∧ Bd (mx (highV (k : Int) (cel (k : Int) x)) (highV (k : Int) (cel (k : Int) y))) := by
  rw [(low_high h hx).1, (low_high h hx).2, (low_high h hy).1, (low_high h hy).2, mn_eq, mx_eq]
  unfold Bd at *
  rcases two8 h with e | e | e | e | e | e | e | e <;> rw [e] <;> omega
theorem cv_may {k : Nat} {a b c d : Int} (h : 24 ≤ k ∧ k ≤ 31) (hr : mayR a b c d = true) : mayR (cvV (k : Int) a b c d).1 (cvV (k : Int) a b c d).2.1 (cvV (k : Int) a b c d).2.2.1 (cvV (k : Int) a b c d).2.2.2 = true ∧ holdsR (cvV (k : Int) a b c d).1 (cvV (k : Int) a b c d).2.1 (cvV (k : Int) a b c d).2.2.1 (cvV (k : Int) a b c d).2.2.2 a b c d = true := by
  obtain ⟨⟨h1, h2, h3, h4⟩, h5, h6⟩ := mayR_iff.1 hr
  have x := cov1 h h1 h3 h5; have y := cov1 h h2 h4 h6
  unfold cvV
  refine ⟨mayR_iff.2 ⟨⟨x.2.2.1, y.2.2.1, x.2.2.2, y.2.2.2⟩, ?_, ?_⟩, ?_⟩
  · simp only; omega
  · simp only; omega
  · simp only [holdsR, Bool.and_eq_true, decide_eq_true_eq]; omega
theorem ok_v {a b c d : Int} {l : List Pt} {v : Pt} (ho : okG a b c d l v = true) : mayP v.1 v.2 = true := by
  cases l with
  | nil => exact (ok_r ho).1.2.1
  | cons q t =>
    have := List.all_eq_true.1 (show (q :: t).all (addA v) = true from ho) q (by simp)
    unfold addA addB at this; simp only [Bool.and_eq_true] at this; exact this.1.2
theorem hb_of {a b c d : Int} {l : List Pt} {v : Pt} (hm : mayG a b c d l = true) (ho : okG a b c d l v = true) : mayR (W ((bxG a b c d l).1 + v.1)) (W ((bxG a b c d l).2.1 + v.2)) (W ((bxG a b c d l).2.2.1 + v.1)) (W ((bxG a b c d l).2.2.2 + v.2)) = true := by
  cases l with
  | nil => exact may_m0 hm ho
  | cons q t =>
    have h := bx_may (may_m1 hm ho)
    have e : bxG 0 0 0 0 ((q :: t).map (mv v)) = box ((q :: t).map (mv v)) ((q :: t).map (mv v)).length := rfl
    rw [e, bx_m1 hm ho] at h
    exact h
end Go.Proofs.YtbkomicjhfldmaaGreatDoor
namespace Go.Proofs.YtbkomicjhfldmaaGreatDoor
open Go.Pv
set_option maxRecDepth 100000
set_option linter.unusedSimpArgs false
set_option linter.unusedVariables false
theorem ptL_mv (l : List tPoint) (v : Pt) : ptL (l.map fun p => ⟨(mv v (p.X, p.Y)).1, (mv v (p.X, p.Y)).2⟩) = (ptL l).map (mv v) := by
  unfold ptL; rw [List.map_map, List.map_map]; rfl
theorem mayT_mv {g : tRegion} {v : tPoint} (hm : mayT g = true) (ho : okT' g v = true) : mayT (mvR g v) = true := by
  obtain ⟨r, l⟩ := g
  cases l with
  | nil => exact may_m0 (v := (v.X, v.Y)) hm ho
  | cons q t =>
    show mayG 0 0 0 0 (ptL ((q :: t).map fun p => ⟨(mv (v.X, v.Y) (p.X, p.Y)).1, (mv (v.X, v.Y) (p.X, p.Y)).2⟩)) = true
    rw [ptL_mv]; exact may_m1 hm ho
theorem bxT_mv {g : tRegion} {v : tPoint} (hm : mayT g = true) (ho : okT' g v = true) : bxT (mvR g v) = ⟨W ((bxT g).X1 + v.X), W ((bxT g).Y1 + v.Y), W ((bxT g).X2 + v.X), W ((bxT g).Y2 + v.Y)⟩ := by
  obtain ⟨r, l⟩ := g
  cases l with
  | nil => rfl
  | cons q t =>
    show rc4 (bxG 0 0 0 0 (ptL ((q :: t).map fun p => ⟨(mv (v.X, v.Y) (p.X, p.Y)).1, (mv (v.X, v.Y) (p.X, p.Y)).2⟩))) = _
    rw [ptL_mv]
    have := bx_m1 (v := (v.X, v.Y)) hm ho
    exact congrArg rc4 this
theorem len_mv (g : tRegion) (v : tPoint) : (mvR g v).Poly.length = g.Poly.length := by
  obtain ⟨r, l⟩ := g
  cases l with
  | nil => rfl
  | cons q t => simp [mvR]
theorem cv_hold {s : Int} {g : tRegion} (hs : mayS s = true) (hm : mayT g = true) : mayX (cvT s g) = true ∧ hdR (cvT s g) (bxT g) = true := by
  obtain ⟨k, rfl, hk⟩ := may_k hs
  exact cv_may hk (bx_may hm)
theorem saf_hold {g : tRegion} {b : tRect} {v : tPoint} (h : safT g b v = true) (ho : okT' g v = true) (hm : mayT g = true) : hdR b (bxT (mvR g v)) = true := by
  rw [bxT_mv hm ho]
  have hb := hb_of hm ho
  have hv := mayP_iff.1 (ok_v ho)
  have k1 := mayR_iff.1 (bx_may hm)
  have hw := mayR_iff.1 hb
  simp only [safT, safeB, Bool.and_eq_true] at h
  obtain ⟨⟨h1, h2, h3⟩, h4⟩ := h
  have k2 := mayR_iff.1 h2
  unfold hdR bxT rc4 at *
  revert hw k1 h3 h4
  generalize bxG g.Rect.X1 g.Rect.Y1 g.Rect.X2 g.Rect.Y2 (ptL g.Poly) = R
  obtain ⟨r1, r2, r3, r4⟩ := R
  intro k1 hw h3 h4
  simp only [zoR, inR, holdsR, Bool.and_eq_true, decide_eq_true_eq] at h3 h4 hw k1 k2 hv ⊢
  obtain ⟨⟨⟨z1, z2⟩, z3⟩, z4⟩ := h3
  replace z1 := of_decide_eq_true z1
  replace z2 := of_decide_eq_true z2
  replace z3 := of_decide_eq_true z3
  replace z4 := of_decide_eq_true z4
  unfold BdR Bd at *
  rw [W_id (by omega)] at z1 z2 z3 z4
  rw [W_id (by omega), W_id (by omega), W_id (by omega), W_id (by omega)]
  omega
end Go.Proofs.YtbkomicjhfldmaaGreatDoor
namespace Go.Proofs.YtbkomicjhfldmaaGreatDoor
open Go.Pv
set_option maxRecDepth 100000
set_option maxHeartbeats 4000000
set_option linter.unusedSimpArgs false
set_option linter.unusedVariables false
def noSub : tSub := tSub.mk 0 0 (tRegion.mk (tRect.mk 0 0 0 0) []) [] (tRect.mk 0 0 0 0)
theorem copied_e (n : Nat) (s : tSub) (h : s.Region.Poly.length ≤ 1000) : dtable_copied n s = some s := by
  unfold dtable_copied dslices_Clone_Point
  rw [show ap [] s.Region.Poly = some s.Region.Poly from ap_ok (by unfold capN; simp; omega)]; rfl
theorem maxl {n : Nat} (h : n ≤ 1000) : n ≤ maxLen := by unfold maxLen; omega
def tNew (s m : Int) : Option ttableTable × Er := bif mayS s && (decide (1 ≤ m) && decide (m ≤ 1000)) then (some ⟨s, m, [], []⟩, none) else (none, some 1)
theorem side_e (n : Nat) (s : Int) : ∃ x, dmorton_Side n s = some x ∧ (x == 0) = !mayS s := by
  unfold dmorton_Side dmorton_may
  by_cases h1 : s ≥ 24
  · by_cases h2 : s ≤ 31
    · have hs : mayS s = true := by simp [mayS, h1, h2]
      obtain ⟨k, rfl, hk⟩ := may_k hs
      rw [hs, decide_eq_true h1, decide_eq_true h2]
      have : k = 24 ∨ k = 25 ∨ k = 26 ∨ k = 27 ∨ k = 28 ∨ k = 29 ∨ k = 30 ∨ k = 31 := by omega
      rcases this with rfl | rfl | rfl | rfl | rfl | rfl | rfl | rfl <;> exact ⟨_, rfl, by decide⟩
    · refine ⟨0, ?_, ?_⟩
      · rw [decide_eq_true h1, decide_eq_false h2]; rfl
      · simp [mayS, h2]
  · refine ⟨0, ?_, ?_⟩
    · rw [decide_eq_false h1]; rfl
    · simp [mayS, h1]
theorem new_e (n : Nat) (s m : Int) : dtable_New n s m = some (tNew s m) := by
  obtain ⟨x, h1, h2⟩ := side_e n s
  unfold dtable_New tNew
  rw [h1, Option.bind_some, h2]
  cases mayS s with
  | false => rfl
  | true =>
    by_cases h3 : m < 1
    · rw [decide_eq_true h3, decide_eq_false (show ¬ 1 ≤ m by omega)]; rfl
    · rw [decide_eq_false h3, decide_eq_true (show 1 ≤ m by omega)]
      by_cases h4 : m > 1000
      · rw [decide_eq_true h4, decide_eq_false (show ¬ m ≤ 1000 by omega)]; rfl
      · rw [decide_eq_false h4, decide_eq_true (show m ≤ 1000 by omega)]; rfl
def tAdd (t : ttableTable) (id : Int) (g : tRegion) (f : Str) : tSub × Er × ttableTable :=
  bif decide (id < 0) || (decide (id > 2147483647) || !mayT g) then (noSub, some 1, t) else
  match readF f with
  | (_, some c) => (noSub, some c, t)
  | (x, none) => bif (mg t.L id).isSome then (noSub, some 10, t) else
    bif decide ((t.L.length : Int) ≥ t.Most) || decide ((mg t.Last id).getD 0 > 2147483645) then (noSub, some 8, t) else
    bif mayS t.Shift then
      (⟨id, W ((mg t.Last id).getD 0 + 1), g, f, cvT t.Shift g⟩, none, ⟨t.Shift, t.Most, mput t.L id ⟨⟨id, W ((mg t.Last id).getD 0 + 1), g, f, cvT t.Shift g⟩, x⟩, mput t.Last id (W ((mg t.Last id).getD 0 + 1))⟩)
    else (noSub, some 1, t)
theorem add_e {n : Nat} {t : ttableTable} {id : Int} {g : tRegion} {f : Str} (hr : dfilter_Read n f = some (readF f)) (hl : g.Poly.length ≤ 1000) : dtable_Table_Add n t id g f = some (tAdd t id g f) := by
  have hm : dregion_May n g = some (mayT g) := if_pos (maxl hl)
  have hc : dzone_Cover n t.Shift g = some (cvO t.Shift g) := if_pos (maxl hl)
  unfold dtable_Table_Add tAdd
  rw [hm, hr]
  cases h1 : decide (id < 0) with
  | true => rfl
  | false =>
    cases h2 : decide (id > 2147483647) with
    | true => rfl
    | false =>
      cases h3 : mayT g with
      | false => rfl
      | true =>
        simp only [cond_false, Option.bind_some, Bool.not_true, Bool.or_false]
        rcases readF f with ⟨⟨k, nm, op, vs, l⟩, e⟩
        cases e with
        | some c => rfl
        | none =>
          simp only [Option.isSome_none, cond_false, mgo, Option.bind_some]
          cases h4 : (mg t.L id).isSome with
          | true => rfl
          | false =>
            simp only [cond_false]
            cases h5 : decide ((t.L.length : Int) ≥ t.Most) with
            | true => rfl
            | false =>
              simp only [cond_false, Bool.false_or, Option.bind_some]
              cases h6 : decide ((mg t.Last id).getD 0 > 2147483645) with
              | true => rfl
              | false =>
                simp only [cond_false, hc, cvO, h3, Bool.true_and, Option.bind_some]
                cases h7 : mayS t.Shift with
                | false => rfl
                | true =>
                  simp only [cond_true, Option.isSome_none, cond_false, mpo, Option.bind_some, mput_mg, if_true, Option.getD_some]
                  rw [copied_e _ _ (by exact hl), Option.bind_some, copied_e _ _ (by exact hl), Option.bind_some]
def tMove (t : ttableTable) (id : Int) (d : tPoint) : tSub × Bool × Er × ttableTable :=
  match mg t.L id with
  | none => (noSub, false, some 9, t)
  | some s => match mvO s.Sub.Region d with
    | (_, some c) => (noSub, false, some c, t)
    | (g, none) => bif safT s.Sub.Region s.Sub.Cover d then
        (⟨s.Sub.Id, s.Sub.Version, g, s.Sub.Filter, s.Sub.Cover⟩, true, none, ⟨t.Shift, t.Most, mput t.L id ⟨⟨s.Sub.Id, s.Sub.Version, g, s.Sub.Filter, s.Sub.Cover⟩, s.F⟩, t.Last⟩)
      else bif decide (s.Sub.Version > 2147483645) then (noSub, false, some 8, t) else
        bif mayT g && mayS t.Shift then
          (⟨s.Sub.Id, W (s.Sub.Version + 1), g, s.Sub.Filter, cvT t.Shift g⟩, false, none, ⟨t.Shift, t.Most, mput t.L id ⟨⟨s.Sub.Id, W (s.Sub.Version + 1), g, s.Sub.Filter, cvT t.Shift g⟩, s.F⟩, mput t.Last id (W (s.Sub.Version + 1))⟩)
        else (noSub, false, some 1, t)
theorem mvO_len {g : tRegion} {d : tPoint} (h : g.Poly.length ≤ 1000) : (mvO g d).1.Poly.length ≤ 1000 := by
  unfold mvO
  cases mayT g <;> cases okT' g d <;> simp only [cond_true, cond_false] <;> first | (rw [len_mv]; exact h) | simp
theorem move_e {n : Nat} {t : ttableTable} {id : Int} {d : tPoint} (hl : ∀ s, mg t.L id = some s → s.Sub.Region.Poly.length ≤ 1000) : dtable_Table_Move n t id d = some (tMove t id d) := by
  unfold dtable_Table_Move tMove
  simp only [mgo, Option.bind_some]
  cases h0 : mg t.L id with
  | none => rfl
  | some s =>
    obtain ⟨⟨i, v, g, f, c⟩, ⟨k, nm, op, vs, l⟩⟩ := s
    have hg : g.Poly.length ≤ 1000 := hl _ h0
    have h1 : dregion_Move n g d = some (mvO g d) := if_pos (maxl hg)
    have h2 : dzone_Safe n g c d = some (safT g c d) := if_pos (maxl hg)
    have h3 := mvO_len (d := d) hg
    simp only [Option.getD_some, Option.isSome_some, Bool.not_true, cond_false, h1, Option.bind_some]
    revert h3
    rcases mvO g d with ⟨g', e⟩
    intro h3
    cases e with
    | some c => rfl
    | none =>
      simp only [Option.isSome_none, cond_false, h2, Option.bind_some]
      have h4 : dzone_Cover n t.Shift g' = some (cvO t.Shift g') := if_pos (maxl h3)
      cases safT g c d with
      | true =>
        simp only [Bool.not_true, cond_false, cond_true, Option.bind_some, kS, mpo]
        rw [copied_e _ _ (by exact h3)]; rfl
      | false =>
        simp only [Bool.not_false, cond_true, cond_false, Option.bind_some]
        cases h5 : decide (v > 2147483645) with
        | true => rfl
        | false =>
          simp only [cond_false, h4, Option.bind_some, cvO]
          cases mayT g' && mayS t.Shift with
          | false => rfl
          | true =>
            simp only [cond_true, Option.isSome_none, cond_false, mpo, Option.bind_some, kS]
            rw [copied_e _ _ (by exact h3)]; rfl
def tDrop (t : ttableTable) (id : Int) : tSub × Er × ttableTable :=
  match mg t.L id with
  | none => (noSub, some 9, t)
  | some s => (⟨s.Sub.Id, W (s.Sub.Version + 1), s.Sub.Region, s.Sub.Filter, s.Sub.Cover⟩, none, ⟨t.Shift, t.Most, mdel t.L id, mput t.Last id (W (s.Sub.Version + 1))⟩)
theorem drop_e (n : Nat) (t : ttableTable) (id : Int) : dtable_Table_Drop n t id = some (tDrop t id) := by
  unfold dtable_Table_Drop tDrop
  simp only [mgo, mdo, mpo, Option.bind_some]
  cases mg t.L id <;> rfl
end Go.Proofs.YtbkomicjhfldmaaGreatDoor
namespace Go.Proofs.YtbkomicjhfldmaaGreatDoor
open Go.Pv
set_option maxRecDepth 100000
set_option maxHeartbeats 4000000
set_option linter.unusedSimpArgs false
set_option linter.unusedVariables false
set_option linter.unusedSectionVars false
section
attribute [local irreducible] awp aops DP PCall ACall Decidable.decide
def dref01_In (fu : Nat) (r1 : tRect) (p1 : tPoint) : Option Bool :=
  bif (decide (p1.X ≥ r1.X1)) then (bif (decide (p1.X ≤ r1.X2)) then (bif (decide (p1.Y ≥ r1.Y1)) then ((some (decide (p1.Y ≤ r1.Y2))).bind fun x1 => some x1) else some false) else some false) else some false
theorem dref01_In_l {fu : Nat} {r1 : tRect} {p1 : tPoint} {r : Bool} (h : dref01_In fu r1 p1 = some r) : PCall Tryz.prog 51 [.agg [.int .i64 r1.X1, .int .i64 r1.Y1, .int .i64 r1.X2, .int .i64 r1.Y2], .agg [.int .i64 p1.X, .int .i64 p1.Y]] (· = .bool r) := by
 rw [dref01_In] at h
 refine pB_ Tryz.func51 ?_
 refine aSR (rb rfl rfl (rb rfl rfl (rv rfl rfl (rn (aSR (rg 6 rfl (gT2 rfl rfl rfl rfl rfl h (fun h_1 => ?_) fun h_1 => ?_)))))))
 ·clear h
  refine rg 7 rfl (gT2 rfl rfl rfl rfl rfl h_1 (fun h_2 => ?_) fun h_2 => ?_)
  ·clear h_1
   refine rg 7 rfl (gT2 rfl rfl rfl rfl rfl h_2 (fun h_3 => ?_) fun h_3 => ?_)
   ·clear h_2
    refine rg 7 rfl ?_
    obtain ⟨x1, hx1, h_4⟩ := bs h_3
    exact rt (eb' hx1) (rn (aT (si h_4 ▸ rF)))
   clear h_2
   exact rg 6 rfl (rn (aT (si h_3 ▸ rF)))
  clear h_1
  exact rg 13 rfl (rn (aT (si h_2 ▸ rF)))
 clear h
 exact rg 20 rfl (rn (aT (si h_1 ▸ rF)))
def dref01_Holds (fu : Nat) (a1 : tRect) (b1 : tRect) : Option Bool :=
  (dref01_In fu a1 (tPoint.mk b1.X1 b1.Y1)).bind fun p1 => (dref01_In fu a1 (tPoint.mk b1.X2 b1.Y2)).bind fun q1 => bif p1 then some q1 else some false
theorem dref01_Holds_l {fu : Nat} {a1 : tRect} {b1 : tRect} {r : Bool} (h : dref01_Holds fu a1 b1 = some r) : PCall Tryz.prog 13 [.agg [.int .i64 a1.X1, .int .i64 a1.Y1, .int .i64 a1.X2, .int .i64 a1.Y2], .agg [.int .i64 b1.X1, .int .i64 b1.Y1, .int .i64 b1.X2, .int .i64 b1.Y2]] (· = .bool r) := by
 rw [dref01_Holds] at h
 refine pB_ Tryz.func13 ?_
 refine aSR (rb rfl rfl (rb rfl rfl (rv rfl rfl (rn (aSR (rg 6 rfl (bx h fun p1 hx1 h_1 => rc1 rfl rfl rfl (dref01_In_l hx1) (rv rfl rfl (rn (aSR (rg 6 rfl (bx h_1 fun q1 hx2 h_2 => rc1 rfl rfl rfl (dref01_In_l hx2) (rv rfl rfl (rn (aSR (rg 2 rfl (gT2 rfl rfl rfl rfl rfl h_2 (fun h_3 => ?_) fun h_3 => ?_)))))))))))))))))
 ·clear h h_1 h_2
  exact rg 3 rfl (rn (aT (si h_3 ▸ rF)))
 clear h h_1 h_2
 exact rg 2 rfl (rn (aT (si h_3 ▸ rF)))
def dref15_Few (fu : Nat) (g1 : tRegion) : Option Bool :=
  (some (decide ((g1.Poly.length : Int) ≤ 70))).bind fun x1 => some x1
theorem dref15_Few_l {fu : Nat} {g1 : tRegion} {r : Bool} (h : dref15_Few fu g1 = some r) : PCall Tryz.prog 8 [.agg [.int .i64 g1.Rect.X1, .int .i64 g1.Rect.Y1, .int .i64 g1.Rect.X2, .int .i64 g1.Rect.Y2, .sl (g1.Poly.map c_tPoint)]] (· = .bool r) := by
 rw [dref15_Few] at h
 refine pB_ Tryz.func8 ?_
 refine aSR (rb rfl rfl (rv rfl rfl (rn (aSR (rg 3 rfl (rt ((lM c_tPoint g1.Poly)) (rg 2 rfl ?_)))))))
 obtain ⟨x1, hx1, h_1⟩ := bs h
 exact rt (eb' hx1) (rn (aT (si h_1 ▸ rF)))
def dlaw19_up (fu : Nat)  : Option Bool :=
  (dtable_New fu 30 2).bind fun t1 => match t1 with | (none, t3) => ((dtable_New fu 23 2).bind fun x1 => match x1 with | (none, x3) => some false | (some x2, x3) => some false) | (some t2, t3) => ((dtable_New fu 23 2).bind fun x4 => match x4 with | (none, x6) => (bif t3.isSome then some false else ((dtable_Table_Add fu t2 5 (tRegion.mk (tRect.mk 0 0 2 2) []) [116, 114, 117, 101]).bind fun g1 => (dtable_Table_Move fu g1.2.2 5 (tPoint.mk 0 0)).bind fun safe1 => bif (x6 == some 1) then (bif g1.2.1.isNone then (bif (g1.1.Version == 1) then (bif safe1.2.2.1.isNone then (bif safe1.2.1 then (bif (safe1.1.Version == 1) then ((dtable_Table_Wants fu safe1.2.2.2 5 (tEvent.mk 0 0 (tPoint.mk 1 0) [])).bind fun x7 => some x7.1) else some false) else some false) else some false) else some false) else some false) else some false)) | (some x5, x6) => (bif t3.isSome then some false else ((dtable_Table_Add fu t2 5 (tRegion.mk (tRect.mk 0 0 2 2) []) [116, 114, 117, 101]).bind fun g2 => (dtable_Table_Move fu g2.2.2 5 (tPoint.mk 0 0)).bind fun safe2 => bif (x6 == some 1) then (bif g2.2.1.isNone then (bif (g2.1.Version == 1) then (bif safe2.2.2.1.isNone then (bif safe2.2.1 then (bif (safe2.1.Version == 1) then ((dtable_Table_Wants fu safe2.2.2.2 5 (tEvent.mk 0 0 (tPoint.mk 1 0) [])).bind fun x8 => some x8.1) else some false) else some false) else some false) else some false) else some false) else some false)))
theorem dlaw19_up_l {fu : Nat}  {r : Bool} (h : dlaw19_up fu  = some r) : PCall Tryz.prog 7 [] (· = .bool r) := by
 rw [dlaw19_up] at h
 refine pB_ Tryz.func7 ?_
 refine aSR (rv rfl rfl (rn (aSR (bx h fun t1 hx1 h_1 => ?_))))
 obtain ⟨_ | t2, t3⟩ := t1
 ·clear h
  refine rh [] rfl rfl (dtable_New_l hx1) rfl rfl rfl zH zO (eA rfl rfl rfl rfl ?_)
  refine rg 5 rfl (rn (aSR (bx h_1 fun x1 hx2 h_2 => ?_)))
  obtain ⟨_ | x2, x3⟩ := x1
  ·clear h_1
   refine rh [] rfl rfl (dtable_New_l hx2) rfl rfl rfl zH zO (eA rfl rfl rfl rfl ?_)
   exact rg 5 rfl (rn (aS (aSR (rg 6 rfl (rn (ct rfl (aSR (rv rfl rfl (rn (aT (si h_2 ▸ rF)))))))))))
  clear h_1
  refine rh [] rfl rfl (dtable_New_l hx2) rfl rfl rfl zH zO (eA rfl rfl rfl rfl ?_)
  exact rkO (wMap (κ := (kInt .i64)) (c := (fun x : ttablesub => .agg (c_ttablesub x))) (fun _ => rfl) (wMap (κ := (kInt .i64)) (c := (fun x : Int => .int .i64 x)) (fun _ => rfl) (rfl))) (rg 5 rfl (rn (aS (aSR (rg 6 rfl (rn (ct rfl (aSR (rv rfl rfl (rn (aT (si h_2 ▸ rF))))))))))))
 clear h
 refine rh [] rfl rfl (dtable_New_l hx1) rfl rfl rfl zH zO (eA rfl rfl rfl rfl ?_)
 refine rkO (wMap (κ := (kInt .i64)) (c := (fun x : ttablesub => .agg (c_ttablesub x))) (fun _ => rfl) (wMap (κ := (kInt .i64)) (c := (fun x : Int => .int .i64 x)) (fun _ => rfl) (rfl))) (rg 5 rfl (rn (aSR (bx h_1 fun x4 hx3 h_2 => ?_))))
 obtain ⟨_ | x5, x6⟩ := x4
 ·clear h_1
  refine rh [] rfl rfl (dtable_New_l hx3) rfl rfl rfl zH zO (eA rfl rfl rfl rfl ?_)
  refine rg 5 rfl (rn (aS (aSR (rg 4 rfl (gy rfl rfl rfl (rV rfl (va_ennil rfl rfl rfl) (rv rfl rfl (rn (cS2 rfl h_2 (fun h_3 => ?_) fun h_3 => ?_)))))))))
  ·clear h_2
   exact aSR (rv rfl rfl (rn (aT (si h_3 ▸ rF))))
  clear h_2
  refine aK (aSR (rg 3 rfl (bx h_3 fun g1 hx4 h_4 => rh [0,1,2] rfl rfl (dtable_Table_Add_l hx4) rfl rfl rfl zH zO (eA rfl rfl rfl rfl ?_))))
  refine rkO (wMap (κ := (kInt .i64)) (c := (fun x : ttablesub => .agg (c_ttablesub x))) (fun _ => rfl) (wMap (κ := (kInt .i64)) (c := (fun x : Int => .int .i64 x)) (fun _ => rfl) (rfl))) (rg 3 rfl (ra rfl rfl rfl (rs rfl rfl rfl rfl rfl rfl rfl (rv rfl rfl (rn (aSR (rg 2 rfl (bx h_4 fun safe1 hx5 h_5 => rh [0,3,4] rfl rfl (dtable_Table_Move_l hx5) rfl rfl rfl zH zO (eA rfl rfl rfl rfl ?_)))))))))
  refine rkO (wMap (κ := (kInt .i64)) (c := (fun x : ttablesub => .agg (c_ttablesub x))) (fun _ => rfl) (wMap (κ := (kInt .i64)) (c := (fun x : Int => .int .i64 x)) (fun _ => rfl) (rfl))) (rg 4 rfl (ra rfl rfl rfl (rs rfl rfl rfl rfl rfl rfl rfl (rg 2 rfl (rn (aSR (rg 2 rfl (rV rfl (va_eeq rfl rfl rfl rfl rfl rfl (fun _ => rfl)) (rv rfl rfl (gT2 rfl rfl rfl rfl rfl h_5 (fun h_6 => ?_) fun h_6 => ?_))))))))))
  ·clear h_3 h_4 h_5
   refine rv rfl rfl (gy rfl rfl rfl (rV rfl (va_enil rfl rfl rfl) (rg 2 rfl (gT2 rfl rfl rfl rfl rfl h_6 (fun h_7 => ?_) fun h_7 => ?_))))
   ·clear h_6
    refine rg 5 rfl (gT2 rfl rfl rfl rfl rfl h_7 (fun h_8 => ?_) fun h_8 => ?_)
    ·clear h_7
     refine rv rfl rfl (gy rfl rfl rfl (rV rfl (va_enil rfl rfl rfl) (rg 2 rfl (gT2 rfl rfl rfl rfl rfl h_8 (fun h_9 => ?_) fun h_9 => ?_))))
     ·clear h_8
      refine rg 3 rfl (gT2 rfl rfl rfl rfl rfl h_9 (fun h_10 => ?_) fun h_10 => ?_)
      ·clear h_9
       refine rg 5 rfl (gT2 rfl rfl rfl rfl rfl h_10 (fun h_11 => ?_) fun h_11 => ?_)
       ·clear h_10
        refine rg 3 rfl (gy rfl rfl rfl (bx h_11 fun x7 hx6 h_12 => rh [0,6,7] rfl rfl (dtable_Table_Wants_l hx6) rfl rfl rfl zH zO (eA rfl rfl rfl rfl ?_)))
        exact rkO (wMap (κ := (kInt .i64)) (c := (fun x : ttablesub => .agg (c_ttablesub x))) (fun _ => rfl) (wMap (κ := (kInt .i64)) (c := (fun x : Int => .int .i64 x)) (fun _ => rfl) (rfl))) (rg 2 rfl (rn (aT (si h_12 ▸ rF))))
       clear h_10
       exact rg 5 rfl (rn (aT (si h_11 ▸ rF)))
      clear h_9
      exact rg 10 rfl (rn (aT (si h_10 ▸ rF)))
     clear h_8
     exact rg 13 rfl (rn (aT (si h_9 ▸ rF)))
    clear h_7
    exact rg 17 rfl (rn (aT (si h_8 ▸ rF)))
   clear h_6
   exact rg 22 rfl (rn (aT (si h_7 ▸ rF)))
  clear h_3 h_4 h_5
  exact rg 26 rfl (rn (aT (si h_6 ▸ rF)))
 clear h_1
 refine rh [] rfl rfl (dtable_New_l hx3) rfl rfl rfl zH zO (eA rfl rfl rfl rfl ?_)
 refine rkO (wMap (κ := (kInt .i64)) (c := (fun x : ttablesub => .agg (c_ttablesub x))) (fun _ => rfl) (wMap (κ := (kInt .i64)) (c := (fun x : Int => .int .i64 x)) (fun _ => rfl) (rfl))) (rg 5 rfl (rn (aS (aSR (rg 4 rfl (gy rfl rfl rfl (rV rfl (va_ennil rfl rfl rfl) (rv rfl rfl (rn (cS2 rfl h_2 (fun h_3 => ?_) fun h_3 => ?_))))))))))
 ·clear h_2
  exact aSR (rv rfl rfl (rn (aT (si h_3 ▸ rF))))
 clear h_2
 refine aK (aSR (rg 3 rfl (bx h_3 fun g2 hx7 h_4 => rh [0,1,2] rfl rfl (dtable_Table_Add_l hx7) rfl rfl rfl zH zO (eA rfl rfl rfl rfl ?_))))
 refine rkO (wMap (κ := (kInt .i64)) (c := (fun x : ttablesub => .agg (c_ttablesub x))) (fun _ => rfl) (wMap (κ := (kInt .i64)) (c := (fun x : Int => .int .i64 x)) (fun _ => rfl) (rfl))) (rg 3 rfl (ra rfl rfl rfl (rs rfl rfl rfl rfl rfl rfl rfl (rv rfl rfl (rn (aSR (rg 2 rfl (bx h_4 fun safe2 hx8 h_5 => rh [0,6,7] rfl rfl (dtable_Table_Move_l hx8) rfl rfl rfl zH zO (eA rfl rfl rfl rfl ?_)))))))))
 refine rkO (wMap (κ := (kInt .i64)) (c := (fun x : ttablesub => .agg (c_ttablesub x))) (fun _ => rfl) (wMap (κ := (kInt .i64)) (c := (fun x : Int => .int .i64 x)) (fun _ => rfl) (rfl))) (rg 4 rfl (ra rfl rfl rfl (rs rfl rfl rfl rfl rfl rfl rfl (rg 2 rfl (rn (aSR (rg 2 rfl (rV rfl (va_eeq rfl rfl rfl rfl rfl rfl (fun _ => rfl)) (rv rfl rfl (gT2 rfl rfl rfl rfl rfl h_5 (fun h_6 => ?_) fun h_6 => ?_))))))))))
 ·clear h_3 h_4 h_5
  refine rv rfl rfl (gy rfl rfl rfl (rV rfl (va_enil rfl rfl rfl) (rg 2 rfl (gT2 rfl rfl rfl rfl rfl h_6 (fun h_7 => ?_) fun h_7 => ?_))))
  ·clear h_6
   refine rg 5 rfl (gT2 rfl rfl rfl rfl rfl h_7 (fun h_8 => ?_) fun h_8 => ?_)
   ·clear h_7
    refine rv rfl rfl (gy rfl rfl rfl (rV rfl (va_enil rfl rfl rfl) (rg 2 rfl (gT2 rfl rfl rfl rfl rfl h_8 (fun h_9 => ?_) fun h_9 => ?_))))
    ·clear h_8
     refine rg 3 rfl (gT2 rfl rfl rfl rfl rfl h_9 (fun h_10 => ?_) fun h_10 => ?_)
     ·clear h_9
      refine rg 5 rfl (gT2 rfl rfl rfl rfl rfl h_10 (fun h_11 => ?_) fun h_11 => ?_)
      ·clear h_10
       refine rg 3 rfl (gy rfl rfl rfl (bx h_11 fun x8 hx9 h_12 => rh [0,9,10] rfl rfl (dtable_Table_Wants_l hx9) rfl rfl rfl zH zO (eA rfl rfl rfl rfl ?_)))
       exact rkO (wMap (κ := (kInt .i64)) (c := (fun x : ttablesub => .agg (c_ttablesub x))) (fun _ => rfl) (wMap (κ := (kInt .i64)) (c := (fun x : Int => .int .i64 x)) (fun _ => rfl) (rfl))) (rg 2 rfl (rn (aT (si h_12 ▸ rF))))
      clear h_10
      exact rg 5 rfl (rn (aT (si h_11 ▸ rF)))
     clear h_9
     exact rg 10 rfl (rn (aT (si h_10 ▸ rF)))
    clear h_8
    exact rg 13 rfl (rn (aT (si h_9 ▸ rF)))
   clear h_7
   exact rg 17 rfl (rn (aT (si h_8 ▸ rF)))
  clear h_6
  exact rg 22 rfl (rn (aT (si h_7 ▸ rF)))
 clear h_3 h_4 h_5
 exact rg 26 rfl (rn (aT (si h_6 ▸ rF)))
def dlaw19_TableCovers (fu : Nat) (shift1 : Int) (g1 : tRegion) (f1 : Str) (d1 : List tPoint) : Option Bool :=
  (dlaw19_up fu ).bind fun head1 => (dref15_Few fu g1).bind fun few1 => (dtable_New fu shift1 3).bind fun t1 => match t1 with | (none, t3) => ((bif (!few1) then some () else some () : Option Unit).bind fun (_ : Unit) => some head1) | (some t2, t3) => ((bif (!few1) then some true else (bif t3.isSome then some true else (bif (decide ((d1.length : Int) > 100)) then some true else some (decide ((f1.length : Int) > 600)))) : Option Bool).bind fun (x1 : Bool) => (bif x1 then some head1 else ((dtable_Table_Add fu t2 7 g1 f1).bind fun h1 => bif h1.2.1.isSome then ((bif head1 then ((dtable_Table_Subs fu h1.2.2).bind fun x3 => (some ((x3.1.length : Int) == 0)).bind fun x4 => some x4) else some false : Option Bool).bind fun (x2 : Bool) => some x2) else ((loopD (ε := Int × Int × Int × Int × Int × Int × Int × Int × Int × (List tPoint) × Str × Int × Int × Int × Int × (List (Int × ttablesub)) × (List (Int × Int))) (τ := (Int × Int × Int × Int × Int × Int × Int × Int × (List tPoint) × Str × Int × Int × Int × Int × (List (Int × ttablesub)) × (List (Int × Int))) ⊕ Bool) (fun (((i1, t4, t5, s1, s2, s3, s4, s5, s6, s7, s8, s9, s10, s11, s12, l1, l2)) : Int × Int × Int × Int × Int × Int × Int × Int × Int × (List tPoint) × Str × Int × Int × Int × Int × (List (Int × ttablesub)) × (List (Int × Int))) => (bif (decide (i1 < (d1.length : Int))) then (((gi d1 i1).bind fun safe1 => (dtable_Table_Move fu (ttableTable.mk t4 t5 l1 l2) 7 safe1).bind fun safe2 => bif safe2.2.2.1.isSome then some (Sum.inl (safe2.2.2.2.Shift, safe2.2.2.2.Most, s1, s2, s3, s4, s5, s6, s7, s8, s9, s10, s11, s12, safe2.2.2.2.L, safe2.2.2.2.Last)) else ((dref15_Box fu safe2.1.Region).bind fun holds1 => (dref01_Holds fu safe2.1.Cover holds1).bind fun holds2 => (bif (!holds2) then some true else (bif safe2.2.1 then (bif (safe2.1.Version != s2) then some true else (bif (!((safe2.1.Cover.X1 == s9) && ((safe2.1.Cover.Y1 == s10) && ((safe2.1.Cover.X2 == s11) && ((safe2.1.Cover.Y2 == s12) && true))))) then some true else (bif (!safe2.2.1) then some (safe2.1.Version != (W (s2 + 1))) else some false))) else (bif (!safe2.2.1) then some (safe2.1.Version != (W (s2 + 1))) else some false)) : Option Bool).bind fun (x5 : Bool) => (bif x5 then some (Sum.inr (Sum.inr (Sum.inr false))) else some (Sum.inl (safe2.2.2.2.Shift, safe2.2.2.2.Most, safe2.1.Id, safe2.1.Version, safe2.1.Region.Rect.X1, safe2.1.Region.Rect.Y1, safe2.1.Region.Rect.X2, safe2.1.Region.Rect.Y2, safe2.1.Region.Poly, safe2.1.Filter, safe2.1.Cover.X1, safe2.1.Cover.Y1, safe2.1.Cover.X2, safe2.1.Cover.Y2, safe2.2.2.2.L, safe2.2.2.2.Last)))) : Option ((Int × Int × Int × Int × Int × Int × Int × Int × (List tPoint) × Str × Int × Int × Int × Int × (List (Int × ttablesub)) × (List (Int × Int))) ⊕ ((Int × Int × Int × Int × Int × Int × Int × Int × Int × (List tPoint) × Str × Int × Int × Int × Int × (List (Int × ttablesub)) × (List (Int × Int))) ⊕ ((Int × Int × Int × Int × Int × Int × Int × Int × (List tPoint) × Str × Int × Int × Int × Int × (List (Int × ttablesub)) × (List (Int × Int))) ⊕ Bool)))).bind fun o => kS o fun (((t10, t11, s37, s38, s39, s40, s41, s42, s43, s44, s45, s46, s47, s48, l7, l8)) : Int × Int × Int × Int × Int × Int × Int × Int × (List tPoint) × Str × Int × Int × Int × Int × (List (Int × ttablesub)) × (List (Int × Int))) => some (Sum.inl (W (i1 + 1), t10, t11, s37, s38, s39, s40, s41, s42, s43, s44, s45, s46, s47, s48, l7, l8))) else some (Sum.inr (Sum.inl (t4, t5, s1, s2, s3, s4, s5, s6, s7, s8, s9, s10, s11, s12, l1, l2))))) fu (0, h1.2.2.Shift, h1.2.2.Most, h1.1.Id, h1.1.Version, h1.1.Region.Rect.X1, h1.1.Region.Rect.Y1, h1.1.Region.Rect.X2, h1.1.Region.Rect.Y2, h1.1.Region.Poly, h1.1.Filter, h1.1.Cover.X1, h1.1.Cover.Y1, h1.1.Cover.X2, h1.1.Cover.Y2, h1.2.2.L, h1.2.2.Last)).bind fun o => kS o fun (((t8, t9, s25, s26, s27, s28, s29, s30, s31, s32, s33, s34, s35, s36, l5, l6)) : Int × Int × Int × Int × Int × Int × Int × Int × (List tPoint) × Str × Int × Int × Int × Int × (List (Int × ttablesub)) × (List (Int × Int))) => ((dtable_Table_Drop fu (ttableTable.mk t8 t9 l5 l6) 7).bind fun k1 => (dtable_Table_Add fu k1.2.2 7 g1 f1).bind fun n1 => bif head1 then (bif k1.2.1.isNone then (bif n1.2.1.isNone then (bif (decide (k1.1.Version > s26)) then ((some (decide (n1.1.Version > k1.1.Version))).bind fun x6 => some x6) else some false) else some false) else some false) else some false)))))
theorem dlaw19_TableCovers_l {fu : Nat} {shift1 : Int} {g1 : tRegion} {f1 : Str} {d1 : List tPoint} {r : Bool} (h : dlaw19_TableCovers fu shift1 g1 f1 d1 = some r) : PCall Tryz.prog 3 [.int .i64 shift1, .agg [.int .i64 g1.Rect.X1, .int .i64 g1.Rect.Y1, .int .i64 g1.Rect.X2, .int .i64 g1.Rect.Y2, .sl (g1.Poly.map c_tPoint)], .str (sB f1), .sl (d1.map c_tPoint)] (· = .bool r) := by
 rw [dlaw19_TableCovers] at h
 refine pB_ Tryz.func3 ?_
 refine aSR (rb rfl rfl (rv rfl rfl (rn (aSR (bx h fun head1 hx1 h_1 => rc1 rfl rfl rfl (dlaw19_up_l hx1) (rv rfl rfl (rn (aSR (rv rfl rfl (bx h_1 fun few1 hx2 h_2 => rc1 rfl rfl rfl (dref15_Few_l hx2) (rv rfl rfl (rn (aSR (rv rfl rfl (bx h_2 fun t1 hx3 h_3 => ?_)))))))))))))))
 obtain ⟨_ | t2, t3⟩ := t1
 ·clear h h_1 h_2
  refine rh [] rfl rfl (dtable_New_l hx3) rfl rfl rfl zH zO (eA rfl rfl rfl rfl ?_)
  refine rg 5 rfl (rn (aS (aS (bx h_3 fun o4 ho5 h_4 => awp_cut1 (fun x => x = o4) (fun (_ : Unit) => ⟨[(2, .str (sB f1)), (3, .sl (d1.map c_tPoint)), (5, .ptr 0 0), (9, .bool head1), (11, .nilp), (51, .bool true)], [(0, 0, .int .i64 g1.Rect.X1), (0, 1, .int .i64 g1.Rect.Y1), (0, 2, .int .i64 g1.Rect.X2), (0, 3, .int .i64 g1.Rect.Y2), (0, 4, .sl (g1.Poly.map c_tPoint))], [], 1⟩) ?_ ?_))))
  ·clear h_3
   refine aR (rg 3 rfl (gF2 rfl rfl rfl rfl rfl ho5 (fun ho5_1 => ?_) fun ho5_1 => ?_))
   ·clear ho5
    exact rg 17 rfl (rn (si ho5_1 ▸ cN [0]))
   clear ho5
   exact rg 16 rfl (rn (si ho5_1 ▸ cN [0]))
  clear h_3
  rintro _ rfl
  exact ch (ct rfl (aSR (rg 2 rfl (rn (aT (si h_4 ▸ rF))))))
 clear h h_1 h_2
 refine rh [] rfl rfl (dtable_New_l hx3) rfl rfl rfl zH zO (eA rfl rfl rfl rfl ?_)
 refine rkO (wMap (κ := (kInt .i64)) (c := (fun x : ttablesub => .agg (c_ttablesub x))) (fun _ => rfl) (wMap (κ := (kInt .i64)) (c := (fun x : Int => .int .i64 x)) (fun _ => rfl) (rfl))) (rg 5 rfl (rn (aS (aS (bx h_3 fun o6 ho7 h_4 => awp_cut1 (fun x => x = o6) (fun (x1 : Bool) => ⟨[(2, .str (sB f1)), (3, .sl (d1.map c_tPoint)), (5, .ptr 0 0), (9, .bool head1), (11, .ptr 1 0), (51, .bool x1)], [(0, 0, .int .i64 g1.Rect.X1), (0, 1, .int .i64 g1.Rect.Y1), (0, 2, .int .i64 g1.Rect.X2), (0, 3, .int .i64 g1.Rect.Y2), (0, 4, .sl (g1.Poly.map c_tPoint)), (1, 0, .int .i64 t2.Shift), (1, 1, .int .i64 t2.Most), (1, 2, .own 2), (1, 3, .own 3)], [(2, mapK (kInt .i64) (fun x : ttablesub => .agg (c_ttablesub x)) t2.L), (3, mapK (kInt .i64) (fun x : Int => .int .i64 x) t2.Last)], 4⟩) ?_ ?_)))))
 ·clear h_3
  refine aR (rg 3 rfl (gF2 rfl rfl rfl rfl rfl ho7 (fun ho7_1 => ?_) fun ho7_1 => ?_))
  ·clear ho7
   refine rg 5 rfl (gy rfl rfl rfl (rV rfl (va_ennil rfl rfl rfl) (rg 2 rfl (gF2 rfl rfl rfl rfl rfl ho7_1 (fun ho7_2 => ?_) fun ho7_2 => ?_))))
   ·clear ho7_1
    refine rg 2 rfl (rt ((lM c_tPoint d1)) (rg 3 rfl (gF2 rfl rfl rfl rfl rfl ho7_2 (fun ho7_3 => ?_) fun ho7_3 => ?_)))
    ·clear ho7_2
     exact rg 4 rfl (rn (si ho7_3 ▸ cN [0,1,2,3]))
    clear ho7_2
    exact rg 3 rfl (rn (si ho7_3 ▸ cN [0,1,2,3]))
   clear ho7_1
   exact rg 8 rfl (rn (si ho7_2 ▸ cN [0,1,2,3]))
  clear ho7
  exact rg 16 rfl (rn (si ho7_1 ▸ cN [0,1,2,3]))
 clear h_3
 rintro x1 rfl
 refine ch (cS2 rfl h_4 (fun h_5 => ?_) fun h_5 => ?_)
 ·clear h_4
  exact aSR (rg 2 rfl (rn (aT (si h_5 ▸ rF))))
 clear h_4
 refine aK (aSR (rg 3 rfl (bx h_5 fun h1 hx8 h_6 => rh [1,2,3] rfl rfl (dtable_Table_Add_l hx8) rfl rfl rfl zH zO (eA rfl rfl rfl rfl ?_))))
 refine rkO (wMap (κ := (kInt .i64)) (c := (fun x : ttablesub => .agg (c_ttablesub x))) (fun _ => rfl) (wMap (κ := (kInt .i64)) (c := (fun x : Int => .int .i64 x)) (fun _ => rfl) (rfl))) (rg 3 rfl (ra rfl rfl rfl (rs rfl rfl rfl rfl rfl rfl rfl (rv rfl rfl (rn (aS (aSR (rv rfl rfl (rV rfl (va_ennil rfl rfl rfl) (rn (cS2 rfl h_6 (fun h_7 => ?_) fun h_7 => ?_)))))))))))
 ·clear h_5 h_6
  refine aS (bx h_7 fun o9 ho10 h_8 => awp_cut1 (fun x => x = o9) (fun (x2 : Bool) => ⟨[(8, .bool x2)], [], [], 0⟩) ?_ ?_)
  ·clear h_7
   refine aR (rg 2 rfl (gT2 rfl rfl rfl rfl rfl ho10 (fun ho10_1 => ?_) fun ho10_1 => ?_))
   ·clear ho10
    refine rv rfl rfl (gy rfl rfl rfl (bx ho10_1 fun x3 hx11 ho10_2 => rh [1,4,5] rfl rfl (dtable_Table_Subs_l hx11) rfl rfl rfl zH zO (eA rfl rfl rfl rfl ?_)))
    refine rkO (wMap (κ := (kInt .i64)) (c := (fun x : ttablesub => .agg (c_ttablesub x))) (fun _ => rfl) (wMap (κ := (kInt .i64)) (c := (fun x : Int => .int .i64 x)) (fun _ => rfl) (rfl))) (rg 1 rfl (rt ((lM c_tSub x3.1)) (rg 3 rfl ?_)))
    obtain ⟨x4, hx12, ho10_3⟩ := bs ho10_2
    exact rt (eb' hx12) (rn (si ho10_3 ▸ cN []))
   clear ho10
   exact rg 5 rfl (rn (si ho10_1 ▸ cN []))
  clear h_7
  rintro x2 rfl
  exact ch (aT (si h_8 ▸ rF))
 clear h_5 h_6
 refine aK (aS (aSR (rv rfl rfl (rn (bx h_7 fun e13 hl14 h_8 => awp_cut1 (fun x => Sum.inl x = e13) (fun (((t8, t9, s25, s26, s27, s28, s29, s30, s31, s32, s33, s34, s35, s36, l5, l6)) : Int × Int × Int × Int × Int × Int × Int × Int × (List tPoint) × Str × Int × Int × Int × Int × (List (Int × ttablesub)) × (List (Int × Int))) => ⟨[(2, .str (sB f1)), (5, .ptr 0 0), (9, .bool head1), (11, .ptr 1 0), (13, .ptr 2 0)], [(0, 0, .int .i64 g1.Rect.X1), (0, 1, .int .i64 g1.Rect.Y1), (0, 2, .int .i64 g1.Rect.X2), (0, 3, .int .i64 g1.Rect.Y2), (0, 4, .sl (g1.Poly.map c_tPoint)), (1, 0, .int .i64 t8), (1, 1, .int .i64 t9), (1, 2, .own 3), (1, 3, .own 4), (2, 0, .int .i64 s25), (2, 1, .int .i64 s26), (2, 2, .int .i64 s27), (2, 3, .int .i64 s28), (2, 4, .int .i64 s29), (2, 5, .int .i64 s30), (2, 6, .sl (s31.map c_tPoint)), (2, 7, .str (sB s32)), (2, 8, .int .i64 s33), (2, 9, .int .i64 s34), (2, 10, .int .i64 s35), (2, 11, .int .i64 s36)], [(3, mapK (kInt .i64) (fun x : ttablesub => .agg (c_ttablesub x)) l5), (4, mapK (kInt .i64) (fun x : Int => .int .i64 x) l6)], 5⟩) ?_ ?_)))))
 ·clear h_7
  refine aB (awp_loopD hl14 (fun (((i1, t4, t5, s1, s2, s3, s4, s5, s6, s7, s8, s9, s10, s11, s12, l1, l2)) : Int × Int × Int × Int × Int × Int × Int × Int × Int × (List tPoint) × Str × Int × Int × Int × Int × (List (Int × ttablesub)) × (List (Int × Int))) => ⟨[(2, .str (sB f1)), (3, .sl (d1.map c_tPoint)), (5, .ptr 0 0), (9, .bool head1), (11, .ptr 1 0), (13, .ptr 2 0), (15, .int .i64 i1)], [(0, 0, .int .i64 g1.Rect.X1), (0, 1, .int .i64 g1.Rect.Y1), (0, 2, .int .i64 g1.Rect.X2), (0, 3, .int .i64 g1.Rect.Y2), (0, 4, .sl (g1.Poly.map c_tPoint)), (1, 0, .int .i64 t4), (1, 1, .int .i64 t5), (1, 2, .own 3), (1, 3, .own 4), (2, 0, .int .i64 s1), (2, 1, .int .i64 s2), (2, 2, .int .i64 s3), (2, 3, .int .i64 s4), (2, 4, .int .i64 s5), (2, 5, .int .i64 s6), (2, 6, .sl (s7.map c_tPoint)), (2, 7, .str (sB s8)), (2, 8, .int .i64 s9), (2, 9, .int .i64 s10), (2, 10, .int .i64 s11), (2, 11, .int .i64 s12)], [(3, mapK (kInt .i64) (fun x : ttablesub => .agg (c_ttablesub x)) l1), (4, mapK (kInt .i64) (fun x : Int => .int .i64 x) l2)], 5⟩) [0,1,6,4,5] rfl zs ?_)
  intro v o17 ho15 hE16
  obtain ⟨i1, t4, t5, s1, s2, s3, s4, s5, s6, s7, s8, s9, s10, s11, s12, l1, l2⟩ := v
  refine ch (aS (aSR (rg 3 rfl (rt ((lM c_tPoint d1)) (rv rfl rfl (rn (cS2 rfl ho15 (fun ho15_1 => ?_) fun ho15_1 => ?_)))))))
  ·clear ho15
   refine aK (aS (bx ho15_1 fun o18 ho19 ho15_2 => awp_cut1 (fun x => Sum.inl x = o18) (fun (((t10, t11, s37, s38, s39, s40, s41, s42, s43, s44, s45, s46, s47, s48, l7, l8)) : Int × Int × Int × Int × Int × Int × Int × Int × (List tPoint) × Str × Int × Int × Int × Int × (List (Int × ttablesub)) × (List (Int × Int))) => ⟨[(2, .str (sB f1)), (3, .sl (d1.map c_tPoint)), (5, .ptr 0 0), (9, .bool head1), (11, .ptr 1 0), (13, .ptr 2 0), (15, .int .i64 i1)], [(0, 0, .int .i64 g1.Rect.X1), (0, 1, .int .i64 g1.Rect.Y1), (0, 2, .int .i64 g1.Rect.X2), (0, 3, .int .i64 g1.Rect.Y2), (0, 4, .sl (g1.Poly.map c_tPoint)), (1, 0, .int .i64 t10), (1, 1, .int .i64 t11), (1, 2, .own 3), (1, 3, .own 4), (2, 0, .int .i64 s37), (2, 1, .int .i64 s38), (2, 2, .int .i64 s39), (2, 3, .int .i64 s40), (2, 4, .int .i64 s41), (2, 5, .int .i64 s42), (2, 6, .sl (s43.map c_tPoint)), (2, 7, .str (sB s44)), (2, 8, .int .i64 s45), (2, 9, .int .i64 s46), (2, 10, .int .i64 s47), (2, 11, .int .i64 s48)], [(3, mapK (kInt .i64) (fun x : ttablesub => .agg (c_ttablesub x)) l7), (4, mapK (kInt .i64) (fun x : Int => .int .i64 x) l8)], 5⟩) ?_ ?_))
   ·clear ho15_1
    refine aB (aSR (rg 3 rfl (bx ho19 fun safe1 hx20 ho19_1 => ri rfl rfl rfl rfl rfl rfl (gi0 hx20) (giM c_tPoint hx20) (wM (fun _ => by rfl) _) ?_)))
    refine rv rfl rfl (bx ho19_1 fun safe2 hx21 ho19_2 => rh [1,3,4] rfl rfl (dtable_Table_Move_l hx21) rfl rfl rfl zH zO (eA rfl rfl rfl rfl ?_))
    refine rkO (wMap (κ := (kInt .i64)) (c := (fun x : ttablesub => .agg (c_ttablesub x))) (fun _ => rfl) (wMap (κ := (kInt .i64)) (c := (fun x : Int => .int .i64 x)) (fun _ => rfl) (rfl))) (rg 4 rfl (ra rfl rfl rfl (rs rfl rfl rfl rfl rfl rfl rfl (rg 2 rfl (rn (aS (aSR (rv rfl rfl (rV rfl (va_ennil rfl rfl rfl) (rn (cS2 rfl ho19_2 (fun ho19_3 => ?_) fun ho19_3 => ?_)))))))))))
    ·clear ho19 ho19_1 ho19_2
     refine awp_exit (xX ?_)
     exact si ho19_3 ▸ cN [0,1,2,5,6]
    clear ho19 ho19_1 ho19_2
    refine aK (aS (dP_ 6 Tryz.mix (dv rfl rfl (fun _ => rfl) (dv rfl rfl (fun _ => rfl) (dv rfl rfl (fun _ => rfl) (dv rfl rfl (fun _ => rfl) (bx ho19_3 fun holds1 hx22 ho19_4 => dc rfl rfl rfl rfl (fun _ => rfl) (fun _ => (dref15_Box_l hx22)) (bx ho19_4 fun holds2 hx23 ho19_5 => dc rfl rfl rfl rfl (fun _ => rfl) (fun _ => (dref01_Holds_l hx23)) (dn (rv rfl rfl (rn (aS (aS (bx ho19_5 fun o24 ho25 ho19_6 => awp_cut1 (fun x => x = o24) (fun (x5 : Bool) => ⟨[(2, .str (sB f1)), (3, .sl (d1.map c_tPoint)), (5, .ptr 0 0), (9, .bool head1), (11, .ptr 1 0), (13, .ptr 2 0), (15, .int .i64 i1), (16, .ptr 3 0), (123, .bool x5)], [(0, 0, .int .i64 g1.Rect.X1), (0, 1, .int .i64 g1.Rect.Y1), (0, 2, .int .i64 g1.Rect.X2), (0, 3, .int .i64 g1.Rect.Y2), (0, 4, .sl (g1.Poly.map c_tPoint)), (1, 0, .int .i64 safe2.2.2.2.Shift), (1, 1, .int .i64 safe2.2.2.2.Most), (1, 2, .own 4), (1, 3, .own 5), (2, 0, .int .i64 s1), (2, 1, .int .i64 s2), (2, 2, .int .i64 s3), (2, 3, .int .i64 s4), (2, 4, .int .i64 s5), (2, 5, .int .i64 s6), (2, 6, .sl (s7.map c_tPoint)), (2, 7, .str (sB s8)), (2, 8, .int .i64 s9), (2, 9, .int .i64 s10), (2, 10, .int .i64 s11), (2, 11, .int .i64 s12), (3, 0, .int .i64 safe2.1.Id), (3, 1, .int .i64 safe2.1.Version), (3, 2, .int .i64 safe2.1.Region.Rect.X1), (3, 3, .int .i64 safe2.1.Region.Rect.Y1), (3, 4, .int .i64 safe2.1.Region.Rect.X2), (3, 5, .int .i64 safe2.1.Region.Rect.Y2), (3, 6, .sl (safe2.1.Region.Poly.map c_tPoint)), (3, 7, .str (sB safe2.1.Filter)), (3, 8, .int .i64 safe2.1.Cover.X1), (3, 9, .int .i64 safe2.1.Cover.Y1), (3, 10, .int .i64 safe2.1.Cover.X2), (3, 11, .int .i64 safe2.1.Cover.Y2)], [(4, mapK (kInt .i64) (fun x : ttablesub => .agg (c_ttablesub x)) safe2.2.2.2.L), (5, mapK (kInt .i64) (fun x : Int => .int .i64 x) safe2.2.2.2.Last)], 6⟩) ?_ ?_))))))))))))))
    ·clear ho19_3 ho19_4 ho19_5
     refine aR (rg 3 rfl (gF2 rfl rfl rfl rfl rfl ho25 (fun ho25_1 => ?_) fun ho25_1 => ?_))
     ·clear ho25
      refine rg 2 rfl (gT2 rfl rfl rfl rfl rfl ho25_1 (fun ho25_2 => ?_) fun ho25_2 => ?_)
      ·clear ho25_1
       refine rg 6 rfl (gF2 rfl rfl rfl rfl rfl ho25_2 (fun ho25_3 => ?_) fun ho25_3 => ?_)
       ·clear ho25_2
        refine rg 9 rfl (gF2 rfl rfl rfl rfl rfl ho25_3 (fun ho25_4 => ?_) fun ho25_4 => ?_)
        ·clear ho25_3
         refine rg 3 rfl (gT2 rfl rfl rfl rfl rfl ho25_4 (fun ho25_5 => ?_) fun ho25_5 => ?_)
         ·clear ho25_4
          exact rg 8 rfl (rn (si ho25_5 ▸ cN [0,1,2,7,5,6]))
         clear ho25_4
         exact rg 7 rfl (rn (si ho25_5 ▸ cN [0,1,2,7,5,6]))
        clear ho25_3
        exact rg 2 rfl (gu rfl rfl rfl rfl (gu rfl rfl rfl rfl (gu rfl rfl rfl rfl (gu rfl rfl rfl rfl (gu rfl rfl rfl rfl (gu rfl rfl rfl rfl (rg 2 rfl (rn (si ho25_4 ▸ cN [0,1,2,7,5,6])))))))))
       clear ho25_2
       exact rg 11 rfl (gu rfl rfl rfl rfl (gu rfl rfl rfl rfl (gu rfl rfl rfl rfl (gu rfl rfl rfl rfl (gu rfl rfl rfl rfl (gu rfl rfl rfl rfl (rg 2 rfl (rn (si ho25_3 ▸ cN [0,1,2,7,5,6])))))))))
      clear ho25_1
      refine rg 5 rfl (gu rfl rfl rfl rfl (gu rfl rfl rfl rfl (gu rfl rfl rfl rfl (gu rfl rfl rfl rfl (gu rfl rfl rfl rfl (rg 7 rfl (gT2 rfl rfl rfl rfl rfl ho25_2 (fun ho25_3 => ?_) fun ho25_3 => ?_)))))))
      ·clear ho25_2
       exact rg 8 rfl (rn (si ho25_3 ▸ cN [0,1,2,7,5,6]))
      clear ho25_2
      exact rg 7 rfl (rn (si ho25_3 ▸ cN [0,1,2,7,5,6]))
     clear ho25
     exact rg 1 rfl (gu rfl rfl rfl rfl (gu rfl rfl rfl rfl (gu rfl rfl rfl rfl (gu rfl rfl rfl rfl (gu rfl rfl rfl rfl (gu rfl rfl rfl rfl (gu rfl rfl rfl rfl (gu rfl rfl rfl rfl (gu rfl rfl rfl rfl (gu rfl rfl rfl rfl (gu rfl rfl rfl rfl (gu rfl rfl rfl rfl (rg 6 rfl (gu rfl rfl rfl rfl (gu rfl rfl rfl rfl (gu rfl rfl rfl rfl (gu rfl rfl rfl rfl (gu rfl rfl rfl rfl (gu rfl rfl rfl rfl (rg 2 rfl (rn (si ho25_1 ▸ cN [0,1,2,7,5,6]))))))))))))))))))))))
    clear ho19_3 ho19_4 ho19_5
    rintro x5 rfl
    refine ch (cS2 rfl ho19_6 (fun ho19_7 => ?_) fun ho19_7 => ?_)
    ·clear ho19_6
     refine aSR (rv rfl rfl (rn (aT ?_)))
     cases ho19_7
     have ho15_3 := ksr ho15_2
     subst ho15_3
     have hq := hE16 _ rfl
     subst hq
     have h_9 := ksr h_8
     subst h_9
     exact rF
    clear ho19_6
    exact aK (aR (rv rfl rfl (rs rfl rfl rfl rfl rfl rfl rfl (rn (inBlock_normal (si ho19_7 ▸ cN [0,1,2,4,5]))))))
   clear ho15_1
   rintro ⟨t10, t11, s37, s38, s39, s40, s41, s42, s43, s44, s45, s46, s47, s48, l7, l8⟩ rfl
   have ho15_3 := ksl ho15_2
   exact ch (aR (rg 3 rfl (rn (si ho15_3 ▸ lN [0,1,2,3,4]))))
  clear ho15
  refine awp_exit (xX ?_)
  cases ho15_1
  have hq := hE16 _ rfl
  subst hq
  exact cN [0,1,2,3,4]
 clear h_7
 rintro ⟨t8, t9, s25, s26, s27, s28, s29, s30, s31, s32, s33, s34, s35, s36, l5, l6⟩ rfl
 have h_9 := ksl h_8
 refine ch (aSR (rv rfl rfl (bx h_9 fun k1 hx26 h_10 => rh [1,3,4] rfl rfl (dtable_Table_Drop_l hx26) rfl rfl rfl zH zO (eA rfl rfl rfl rfl ?_))))
 refine rkO (wMap (κ := (kInt .i64)) (c := (fun x : ttablesub => .agg (c_ttablesub x))) (fun _ => rfl) (wMap (κ := (kInt .i64)) (c := (fun x : Int => .int .i64 x)) (fun _ => rfl) (rfl))) (rg 3 rfl (ra rfl rfl rfl (rs rfl rfl rfl rfl rfl rfl rfl (rv rfl rfl (rn (aSR (rg 3 rfl (bx h_10 fun n1 hx27 h_11 => rh [1,5,6] rfl rfl (dtable_Table_Add_l hx27) rfl rfl rfl zH zO (eA rfl rfl rfl rfl ?_)))))))))
 refine rkO (wMap (κ := (kInt .i64)) (c := (fun x : ttablesub => .agg (c_ttablesub x))) (fun _ => rfl) (wMap (κ := (kInt .i64)) (c := (fun x : Int => .int .i64 x)) (fun _ => rfl) (rfl))) (rg 3 rfl (ra rfl rfl rfl (rs rfl rfl rfl rfl rfl rfl rfl (rv rfl rfl (rn (aSR (rg 2 rfl (gT2 rfl rfl rfl rfl rfl h_11 (fun h_12 => ?_) fun h_12 => ?_))))))))
 ·clear h_8 h_9 h_10 h_11
  refine rv rfl rfl (gy rfl rfl rfl (rV rfl (va_enil rfl rfl rfl) (rg 2 rfl (gT2 rfl rfl rfl rfl rfl h_12 (fun h_13 => ?_) fun h_13 => ?_))))
  ·clear h_12
   refine rv rfl rfl (gy rfl rfl rfl (rV rfl (va_enil rfl rfl rfl) (rg 2 rfl (gT2 rfl rfl rfl rfl rfl h_13 (fun h_14 => ?_) fun h_14 => ?_))))
   ·clear h_13
    refine rg 7 rfl (gT2 rfl rfl rfl rfl rfl h_14 (fun h_15 => ?_) fun h_15 => ?_)
    ·clear h_14
     refine rg 7 rfl ?_
     obtain ⟨x6, hx28, h_16⟩ := bs h_15
     exact rt (eb' hx28) (rn (aT (si h_16 ▸ rF)))
    clear h_14
    exact rg 6 rfl (rn (aT (si h_15 ▸ rF)))
   clear h_13
   exact rg 13 rfl (rn (aT (si h_14 ▸ rF)))
  clear h_12
  exact rg 17 rfl (rn (aT (si h_13 ▸ rF)))
 clear h_8 h_9 h_10 h_11
 exact rg 21 rfl (rn (aT (si h_12 ▸ rF)))
end
end Go.Proofs.YtbkomicjhfldmaaGreatDoor
namespace Go.Proofs.YtbkomicjhfldmaaGreatDoor
open Go.Pv
set_option maxRecDepth 100000
set_option maxHeartbeats 4000000
set_option linter.unusedSimpArgs false
set_option linter.unusedVariables false
theorem up19 : Ev (fun n => dlaw19_up n = some true) := ⟨400, fun n h => by
  obtain ⟨m, rfl⟩ := Nat.exists_eq_add_of_le' h
  kernel_rfl⟩
theorem add7 {shift : Int} {g : tRegion} {f : Str} {ls : List (Int × Int)} {v : Int} (hv : (mg ls 7).getD 0 = v) (hb : 0 ≤ v ∧ v ≤ 1000) (h1 : mayT g = true) (h2 : (readF f).2 = none) (h3 : mayS shift = true) :
    tAdd ⟨shift, 3, [], ls⟩ 7 g f = (⟨7, v + 1, g, f, cvT shift g⟩, none, ⟨shift, 3, [(7, ⟨⟨7, v + 1, g, f, cvT shift g⟩, (readF f).1⟩)], mput ls 7 (v + 1)⟩) := by
  unfold tAdd
  rcases hx : readF f with ⟨x, e⟩
  rw [hx] at h2
  obtain rfl : e = none := h2
  have hW : W (v + 1) = v + 1 := W_id (by omega)
  simp only [hv, h1, h3, hW, decide_eq_false (show ¬ v > 2147483645 by omega)]
  rfl
theorem add7e {shift : Int} {g : tRegion} {f : Str} {ls : List (Int × Int)} (h : ¬ (mayT g = true ∧ (readF f).2 = none ∧ mayS shift = true)) (hv : (mg ls 7).getD 0 ≤ 1000) : ∃ c, tAdd ⟨shift, 3, [], ls⟩ 7 g f = (noSub, some c, ⟨shift, 3, [], ls⟩) := by
  unfold tAdd
  rcases hx : readF f with ⟨x, e⟩
  rw [hx] at h
  simp only [decide_eq_false (show ¬ (mg ls 7).getD 0 > 2147483645 by omega)]
  cases h1 : mayT g with
  | false => exact ⟨_, rfl⟩
  | true =>
    cases e with
    | some c => exact ⟨_, rfl⟩
    | none =>
      cases h3 : mayS shift with
      | false => exact ⟨_, rfl⟩
      | true => exact (h ⟨h1, rfl, h3⟩).elim
def tOK (s : tSub) : Prop := mayT s.Region = true ∧ hdR s.Cover (bxT s.Region) = true ∧ s.Region.Poly.length ≤ 1000 ∧ 0 ≤ s.Version ∧ s.Version ≤ 1000
theorem move7 {shift : Int} {s : tSub} {F : tFilter} {d : tPoint} (hs : mayS shift = true) (h : tOK s) :
    (∃ c, tMove ⟨shift, 3, [(7, ⟨s, F⟩)], [(7, s.Version)]⟩ 7 d = (noSub, false, some c, ⟨shift, 3, [(7, ⟨s, F⟩)], [(7, s.Version)]⟩)) ∨
    ∃ u safe, tMove ⟨shift, 3, [(7, ⟨s, F⟩)], [(7, s.Version)]⟩ 7 d = (u, safe, none, ⟨shift, 3, [(7, ⟨u, F⟩)], [(7, u.Version)]⟩) ∧ mayT u.Region = true ∧ hdR u.Cover (bxT u.Region) = true ∧ u.Region.Poly.length ≤ 1000 ∧
      ((safe = true ∧ u.Version = s.Version ∧ u.Cover = s.Cover) ∨ (safe = false ∧ u.Version = s.Version + 1)) := by
  obtain ⟨k1, k2, k3, k4, k5⟩ := h
  obtain ⟨i, v, g, f, c⟩ := s
  simp only at k1 k2 k3 k4 k5
  have hW : W (v + 1) = v + 1 := W_id (by omega)
  have hm : mg [((7 : Int), ttablesub.mk ⟨i, v, g, f, c⟩ F)] 7 = some ⟨⟨i, v, g, f, c⟩, F⟩ := rfl
  unfold tMove
  simp only [hm, mvO, k1, cond_true]
  cases ho : okT' g d with
  | false => exact .inl ⟨_, rfl⟩
  | true =>
    simp only [cond_true]
    have m1 := mayT_mv k1 ho
    have m2 : (mvR g d).Poly.length ≤ 1000 := by rw [len_mv]; exact k3
    cases hsf : safT g c d with
    | true => exact .inr ⟨_, _, rfl, m1, saf_hold hsf ho k1, m2, .inl ⟨rfl, rfl, rfl⟩⟩
    | false =>
      simp only [cond_false, decide_eq_false (show ¬ v > 2147483645 by omega), m1, hs, hW]
      exact .inr ⟨⟨i, v + 1, mvR g d, f, cvT shift (mvR g d)⟩, false, rfl, m1, (cv_hold hs m1).2, m2, .inr ⟨rfl, rfl⟩⟩
theorem holds_e (n : Nat) {a b : tRect} (hm : mayX b = true) (h : hdR a b = true) : dref01_Holds n a b = some true := by
  obtain ⟨_, h1, h2⟩ := mayR_iff.1 hm
  simp only [hdR, holdsR, Bool.and_eq_true, decide_eq_true_eq] at h
  obtain ⟨⟨⟨q1, q2⟩, q3⟩, q4⟩ := h
  unfold dref01_Holds dref01_In
  simp only [decide_eq_true (show b.X1 ≥ a.X1 from q1), decide_eq_true (show b.X1 ≤ a.X2 by omega), decide_eq_true (show b.Y1 ≥ a.Y1 from q3), decide_eq_true (show b.Y1 ≤ a.Y2 by omega),
    decide_eq_true (show b.X2 ≥ a.X1 by omega), decide_eq_true (show b.X2 ≤ a.X2 from q2), decide_eq_true (show b.Y2 ≥ a.Y1 by omega), decide_eq_true (show b.Y2 ≤ a.Y2 from q4), cond_true, Option.bind_some]
theorem subs0 {n : Nat} (hn : 0 < n) (s m : Int) (l : List (Int × Int)) : dtable_Table_Subs n ⟨s, m, [], l⟩ = some ([], ⟨s, m, [], l⟩) := by
  obtain ⟨k, rfl⟩ : ∃ k, n = k + 1 := ⟨n - 1, by omega⟩
  unfold dtable_Table_Subs
  rw [show ksd ([] : List (Int × ttablesub)) = some [] by simp [ksd], Option.bind_some]
  rfl
abbrev T17 := Int × Int × Int × Int × Int × Int × Int × Int × Int × (List tPoint) × Str × Int × Int × Int × Int × (List (Int × ttablesub)) × (List (Int × Int))
abbrev T16 := Int × Int × Int × Int × Int × Int × Int × Int × (List tPoint) × Str × Int × Int × Int × Int × (List (Int × ttablesub)) × (List (Int × Int))
def mk16 (shift : Int) (s : tSub) (F : tFilter) : T16 := (shift, 3, s.Id, s.Version, s.Region.Rect.X1, s.Region.Rect.Y1, s.Region.Rect.X2, s.Region.Rect.Y2, s.Region.Poly, s.Filter, s.Cover.X1, s.Cover.Y1, s.Cover.X2, s.Cover.Y2, [(7, ⟨s, F⟩)], [(7, s.Version)])
theorem loopD_is {ε τ β : Type} {body : ε → Option (ε ⊕ τ)} {f : τ → Option β} {n : Nat} {s : ε} {r : β} (I : ε → Prop) (μ : ε → Nat) (J : τ → Prop) (hs : I s) (hn : μ s < n)
    (h : ∀ s, I s → ∃ o, body s = some o ∧ (∀ s', o = .inl s' → I s' ∧ μ s' < μ s) ∧ ∀ e, o = .inr e → J e) (k : ∀ e, J e → f e = some r) : (loopD body n s).bind f = some r := by
  obtain ⟨e, he, hJ⟩ := loopD_tot I μ J h n s hs hn
  rw [he]; exact k e hJ
theorem TableCovers_e (shift : Int) (g : tRegion) (f : Str) (d : List tPoint) : Ev fun n => dlaw19_TableCovers n shift g f d = some true := by
  refine ((up19.and (dRead f)).and (Ev.ge 2000 (p := fun n => 2000 ≤ n) fun n hn => hn)).mono fun n hh => ?_
  obtain ⟨⟨hu, hr⟩, hn⟩ := hh
  unfold dlaw19_TableCovers
  rw [hu, Option.bind_some, show dref15_Few n g = some (decide ((g.Poly.length : Int) ≤ 70)) from rfl, Option.bind_some, new_e, Option.bind_some]
  unfold tNew
  cases hs : mayS shift with
  | false => cases decide ((g.Poly.length : Int) ≤ 70) <;> rfl
  | true =>
    by_cases hg : (g.Poly.length : Int) ≤ 70
    · by_cases hd : (d.length : Int) > 100
      · rw [decide_eq_true hg, decide_eq_true hd]; rfl
      · rw [decide_eq_true hg, decide_eq_false hd]
        by_cases hf : (f.length : Int) > 600
        · rw [decide_eq_true hf]; rfl
        · rw [decide_eq_false hf]
          show ((dtable_Table_Add n ⟨shift, 3, [], []⟩ 7 g f).bind _) = some true
          rw [add_e hr (by omega), Option.bind_some]
          by_cases hall : mayT g = true ∧ (readF f).2 = none ∧ mayS shift = true
          · obtain ⟨h1, h2, _⟩ := hall
            rw [add7 (v := 0) rfl (by omega) h1 h2 hs]
            have hcv := cv_hold hs h1
            have hok : tOK ⟨7, 0 + 1, g, f, cvT shift g⟩ := ⟨h1, hcv.2, by show g.Poly.length ≤ 1000; omega, by show (0 : Int) ≤ 0 + 1; decide, by show (0 : Int) + 1 ≤ 1000; decide⟩
            refine loopD_is (fun st : T17 => ∃ (k : Nat) (s : tSub) (F : tFilter), st = ((k : Int), mk16 shift s F) ∧ k ≤ d.length ∧ tOK s ∧ s.Version ≤ k + 1) (fun st => ((d.length : Int) - st.1).toNat)
              (fun e : T16 ⊕ Bool => ∃ (s : tSub) (F : tFilter), e = Sum.inl (mk16 shift s F) ∧ tOK s ∧ s.Version ≤ 101) ⟨0, ⟨7, 0 + 1, g, f, cvT shift g⟩, (readF f).1, rfl, Nat.zero_le _, hok, by show (0 : Int) + 1 ≤ 0 + 1; decide⟩ (by show ((d.length : Int) - 0).toNat < n; omega) ?_ ?_
            · rintro _ ⟨k, s, F, rfl, hk, hs1, hv⟩
              by_cases hlt : k < d.length
              · have hlt' : decide (((k : Nat) : Int) < (d.length : Int)) = true := by simp; omega
                have hstep : ∀ (u : tSub) (G : tFilter), tOK u → u.Version ≤ k + 1 + 1 → ∃ o : T17 ⊕ (T16 ⊕ Bool), (some (Sum.inl (W ((k : Int) + 1), mk16 shift u G)) : Option (T17 ⊕ (T16 ⊕ Bool))) = some o ∧ (∀ s', o = .inl s' → (∃ (k : Nat) (s : tSub) (F : tFilter), s' = ((k : Int), mk16 shift s F) ∧ k ≤ d.length ∧ tOK s ∧ s.Version ≤ k + 1) ∧ ((d.length : Int) - s'.1).toNat < ((d.length : Int) - (k : Int)).toNat) ∧ ∀ e, o = .inr e → ∃ (s : tSub) (F : tFilter), e = Sum.inl (mk16 shift s F) ∧ tOK s ∧ s.Version ≤ 101 := by
                  intro u G hu' hvu
                  refine ⟨_, rfl, ?_, fun e he => by cases he⟩
                  intro s' he
                  obtain rfl := Sum.inl.inj he
                  rw [W_suc (by omega)]
                  exact ⟨⟨k + 1, u, G, rfl, hlt, hu', by omega⟩, by simp only; omega⟩
                show ∃ o, (bif decide (((k : Nat) : Int) < (d.length : Int)) then _ else _) = some o ∧ _
                rw [hlt', cond_true, gi_lt hlt, Option.bind_some]
                simp only [mk16]
                have hmv := move7 (F := F) (d := d[k]) hs hs1
                rw [move_e (by intro s0 h0; rw [show mg [((7 : Int), ttablesub.mk s F)] 7 = some ⟨s, F⟩ from rfl] at h0; obtain rfl := Option.some.inj h0; exact hs1.2.2.1), Option.bind_some]
                rcases hmv with ⟨c, hc⟩ | ⟨u, safe, hc, m1, m2, m3, hor⟩
                · rw [hc]
                  exact hstep s F hs1 (by omega)
                · rw [hc]
                  have hb : dref15_Box n u.Region = some (bxT u.Region) := if_pos ⟨maxl m3, m1⟩
                  have hh : dref01_Holds n u.Cover (bxT u.Region) = some true := holds_e n (bx_may m1) m2
                  have hW : W (s.Version + 1) = s.Version + 1 := W_id (by have := hs1.2.2.2; omega)
                  simp only [Option.isSome_none, cond_false, hb, hh, Option.bind_some, Bool.not_true]
                  have hfin := hstep u F ⟨m1, m2, m3, by rcases hor with ⟨_, e, _⟩ | ⟨_, e⟩ <;> rw [e] <;> have := hs1.2.2.2.1 <;> omega, by rcases hor with ⟨_, e, _⟩ | ⟨_, e⟩ <;> rw [e] <;> omega⟩ (by rcases hor with ⟨_, e, _⟩ | ⟨_, e⟩ <;> rw [e] <;> omega)
                  rcases hor with ⟨rfl, e1, e2⟩ | ⟨rfl, e1⟩
                  · simp only [e1, e2, bne_self_eq_false, beq_self_eq_true, Bool.and_self, Bool.not_true, cond_true, cond_false, Option.bind_some, kS]
                    rw [← e1, ← e2]
                    exact hfin
                  · simp only [e1, hW, bne_self_eq_false, Bool.not_false, cond_true, cond_false, Option.bind_some, kS]
                    rw [← e1]
                    exact hfin
              · have hlt' : decide (((k : Nat) : Int) < (d.length : Int)) = false := by simp; omega
                show ∃ o, (bif decide (((k : Nat) : Int) < (d.length : Int)) then _ else _) = some o ∧ _
                rw [hlt', cond_false]
                refine ⟨_, rfl, fun s' he => (by cases he), fun e he => ?_⟩
                obtain rfl := Sum.inr.inj he
                exact ⟨s, F, rfl, hs1, by omega⟩
            · rintro _ ⟨s, F, rfl, hs1, hv⟩
              have hW : W (s.Version + 1) = s.Version + 1 := W_id (by have := hs1.2.2.2; omega)
              simp only [kS, mk16]
              rw [drop_e, Option.bind_some]
              have hdr : tDrop ⟨shift, 3, [(7, ⟨s, F⟩)], [(7, s.Version)]⟩ 7 = (⟨s.Id, s.Version + 1, s.Region, s.Filter, s.Cover⟩, none, ⟨shift, 3, [], [(7, s.Version + 1)]⟩) := by
                unfold tDrop
                simp only [show mg [((7 : Int), ttablesub.mk s F)] 7 = some ⟨s, F⟩ from rfl, hW]; rfl
              rw [hdr, add_e hr (by omega), Option.bind_some]
              have hv0 := hs1.2.2.2.1
              rw [add7 (v := s.Version + 1) rfl (by omega) h1 h2 hs]
              simp only [Option.isNone_none, cond_true, decide_eq_true (show s.Version + 1 > s.Version by omega), decide_eq_true (show s.Version + 1 + 1 > s.Version + 1 by omega), Option.bind_some]
              change (bif decide (s.Version < s.Version + 1) then some true else some false) = some true
              rw [decide_eq_true (show s.Version < s.Version + 1 by omega)]; rfl
          · obtain ⟨c, hc⟩ := add7e (ls := []) hall (by decide)
            rw [hc]
            simp only [Option.isSome_some, cond_true]
            rw [subs0 (by omega)]; rfl
    · rw [decide_eq_false hg]; rfl
theorem TableCovers_c {s : Int} {g : tRegion} {f : Str} {d : List tPoint} (h0 : Go.Pv.okI .i64 s) (h1 : ok_tRegion g) (h2 : okS f) (h3 : okLs ok_tPoint d) : PCall Tryz.prog 3 [.int .i64 s, .agg (c_tRegion g), .str (sB f), .sl (d.map c_tPoint)] (· = .bool true) := by
  obtain ⟨n, h⟩ := (TableCovers_e s g f d).get
  exact dlaw19_TableCovers_l h
end Go.Proofs.YtbkomicjhfldmaaGreatDoor
