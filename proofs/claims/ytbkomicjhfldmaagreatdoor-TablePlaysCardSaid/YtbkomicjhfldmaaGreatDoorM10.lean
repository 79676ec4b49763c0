/- The texts of a proof, put together by a program of this session's; names are short for the size's sake. -/
import Derived.Lib.ParseIntB
import Derived.Test.YtbkomicjhfldmaaGreatDoorM9
namespace Go.Proofs.YtbkomicjhfldmaaGreatDoor
open Go.Pv
set_option linter.unusedSimpArgs false
set_option linter.unusedVariables false
set_option linter.unusedSectionVars false
set_option maxRecDepth 100000
def kX (c : UInt8) : Bool := decide (97 ≤ c.toNat) && decide (c.toNat ≤ 122)
def aL (c : UInt8) : Bool := decide (48 ≤ c.toNat) && decide (c.toNat ≤ 57)
def gl (c : UInt8) : Bool := kX c || aL c
def ca (c : UInt8) : Bool := decide (32 ≤ c.toNat) && (decide (c.toNat ≤ 126) && c != 34)
def ay (p : UInt8 → Bool) : aY → Nat
 | [] => 0
 | c :: l => if p c then ay p l + 1 else 0
theorem fk (p : UInt8 → Bool) : ∀ l, ay p l ≤ l.length
 | [] => Nat.le_refl _
 | c :: l => by rw [ay]; split <;> simp; exact fk p l
theorem xC (p : UInt8 → Bool) : ∀ (l : aY) (i : Nat) (h : i < l.length), i < ay p l → p l[i] = true
 | c :: l, i, h, hi => by
  rw [ay] at hi
  split at hi
  ·
   rename_i hc
   cases i with
   | zero => exact hc
   | succ i => exact xC p l i (by simpa using h) (by omega)
  · omega
def Ix (a : Nat) (c : UInt8) : Nat := a * 10 + (c.toNat - 48)
def ia (a : Nat) (l : aY) : Nat := l.foldl Ix a
theorem G4 (a : Nat) : ia a [] = a := rfl
theorem AS (a : Nat) (c : UInt8) (l : aY) : ia a (c :: l) = ia (a * 10 + (c.toNat - 48)) l := by unfold ia; rw [List.foldl_cons]; rfl
theorem FP : ∀ (l : aY) (a : Nat), a ≤ ia a l
 | [], a => Nat.le_refl _
 | c :: l, a => by rw [AS]; have := FP l (a * 10 + (c.toNat - 48)); omega
theorem vr (l : aY) (a : Nat) (c : UInt8) : ia a (l ++ [c]) = ia a l * 10 + (c.toNat - 48) := by
 unfold ia; rw [List.foldl_append]; rfl
def pn (l : aY) : Option (Int × Nat) := match l with
 | [] => none
 | c :: t =>
  if c = 45 then
   if ay aL t = 0 ∨ (1 < ay aL t ∧ t.head? = some 48) ∨ ia 0 (t.take (ay aL t)) = 0 ∨ 9223372036854775808 < ia 0 (t.take (ay aL t)) then none
   else some (-(ia 0 (t.take (ay aL t)) : Int), ay aL t + 1)
  else
   if ay aL (c :: t) = 0 ∨ (1 < ay aL (c :: t) ∧ c = 48) ∨ 9223372036854775808 ≤ ia 0 ((c :: t).take (ay aL (c :: t))) then none
   else some ((ia 0 ((c :: t).take (ay aL (c :: t))) : Int), ay aL (c :: t))
def kj : List aY := [[97, 110, 100], [111, 114], [110, 111, 116], [105, 110], [116, 114, 117, 101]]
structure Ip where
 k : Int
 n : Int
 s : aY
def uh : aY → Option (Ip × Nat)
 | [] => none
 | c :: t =>
  if kX c then
   if ay gl (c :: t) ≤ 20 then some (⟨if kj.contains ((c :: t).take (ay gl (c :: t))) then 2 else 1, 0, (c :: t).take (ay gl (c :: t))⟩, ay gl (c :: t)) else none
  else if aL c ∨ c = 45 then (pn (c :: t)).map fun x => (⟨3, x.1, []⟩, x.2)
  else if c = 34 then
   if ay ca t ≤ 200 ∧ t[ay ca t]? = some 34 then some (⟨4, 0, t.take (ay ca t)⟩, ay ca t + 2) else none
  else if t.head? = some 61 ∧ (c = 60 ∨ c = 33 ∨ c = 62 ∨ c = 94) then some (⟨5, 0, [c, 61]⟩, 2)
  else if c = 40 ∨ c = 41 ∨ c = 44 ∨ c = 60 ∨ c = 61 ∨ c = 62 then some (⟨5, 0, [c]⟩, 1) else none
theorem nE {l : aY} {x : Ip} {j : Nat} (h : uh l = some (x, j)) : 0 < j ∧ j ≤ l.length := by
 cases l with
 | nil => cases h
 | cons c t =>
  rw [uh] at h
  split at h
  ·
   rename_i hc
   split at h
   ·
    cases h
    have : ay gl (c :: t) = ay gl t + 1 := by rw [ay, if_pos (by simp [gl, hc])]
    have h2 := fk gl t
    rw [this]; simp; omega
   · cases h
  ·
   split at h
   ·
    unfold pn at h
    split at h
    · cases h
    ·
     rename_i c' t' heq
     cases heq
     split at h
     ·
      split at h
      · cases h
      ·
       have h2 := fk aL t
       simp only [Option.map_some, Option.some.injEq, Prod.mk.injEq] at h
       obtain ⟨_, rfl⟩ := h
       simp; omega
     ·
      split at h
      · cases h
      ·
       rename_i hn
       have h2 := fk aL (c :: t)
       simp only [Option.map_some, Option.some.injEq, Prod.mk.injEq] at h
       obtain ⟨_, rfl⟩ := h
       exact ⟨by omega, h2⟩
   ·
    split at h
    ·
     split at h
     ·
      rename_i hh
      cases h
      have := (List.getElem?_eq_some_iff.1 hh.2).1
      simp; omega
     · cases h
    ·
     split at h
     ·
      rename_i hh
      cases h
      cases t with
      | nil => simp at hh
      | cons d t => simp
     ·
      split at h
      · cases h; simp
      · cases h
def iC (a : Nat) (l : aY) : Option (List ax) := match l with
 | [] => some []
 | c :: t => if c = 32 then iC (a + 1) t else match h : uh (c :: t) with
  | none => none
  | some (x, j) => (iC (a + j) ((c :: t).drop j)).map fun L => ⟨x.k, (a : Int), x.n, x.s⟩ :: L
termination_by l.length
decreasing_by
 · simp
 · have := nE h; simp only [List.length_drop, List.length_cons] at *; omega
theorem j9 (a : Nat) : iC a [] = some [] := by rw [iC]
theorem rP (a : Nat) (t : aY) : iC a (32 :: t) = iC (a + 1) t := by rw [iC]; simp
theorem lB {a : Nat} {c : UInt8} {t : aY} (hc : c ≠ 32) (h : uh (c :: t) = none) : iC a (c :: t) = none := by
 rw [iC, if_neg hc]; split
 · rfl
 · rename_i x j heq; rw [h] at heq; cases heq
theorem lG {a : Nat} {c : UInt8} {t : aY} (hc : c ≠ 32) {x : Ip} {j : Nat} (h : uh (c :: t) = some (x, j)) : iC a (c :: t) = (iC (a + j) ((c :: t).drop j)).map fun L => ⟨x.k, (a : Int), x.n, x.s⟩ :: L := by
 rw [iC, if_neg hc]; split
 · rename_i heq; rw [h] at heq; cases heq
 · rename_i x' j' heq; rw [h] at heq; cases heq; rfl
theorem nn (c : UInt8) (k : Nat) (hk : k < 256) : (((c.toNat : Nat) : Int) == (k : Int)) = decide (c = UInt8.ofNat k) := by
 rw [Bool.eq_iff_iff]; simp only [beq_iff_eq, decide_eq_true_eq]
 constructor
 ·
  intro h
  have : c.toNat = k := by omega
  rw [← this, UInt8.ofNat_toNat]
 ·
  rintro rfl
  rw [UInt8.toNat_ofNat']; have := Nat.mod_eq_of_lt hk; omega
theorem I4 (c : UInt8) (k : Nat) : decide (((c.toNat : Nat) : Int) ≥ (k : Int)) = decide (k ≤ c.toNat) := by rw [Bool.eq_iff_iff]; simp
theorem I6 (c : UInt8) (k : Nat) : decide (((c.toNat : Nat) : Int) ≤ (k : Int)) = decide (c.toNat ≤ k) := by rw [Bool.eq_iff_iff]; simp
theorem zU (n : Nat) (c : UInt8) : gw n (c.toNat : Int) = some (kX c) := by
 have h1 := I4 c 97; have h2 := I6 c 122
 unfold gw kX
 rw [show (97 : Int) = ((97 : Nat) : Int) from rfl, show (122 : Int) = ((122 : Nat) : Int) from rfl, h1, h2]
 cases decide (97 ≤ c.toNat) <;> rfl
theorem tI (n : Nat) (c : UInt8) : fe n (c.toNat : Int) = some (aL c) := by
 have h1 := I4 c 48; have h2 := I6 c 57
 unfold fe aL
 rw [show (48 : Int) = ((48 : Nat) : Int) from rfl, show (57 : Int) = ((57 : Nat) : Int) from rfl, h1, h2]
 cases decide (48 ≤ c.toNat) <;> rfl
theorem FV (n : Nat) (c : UInt8) : iL n (c.toNat : Int) = some (kX c) := zU n c
theorem rK (n : Nat) (c : UInt8) : eu n (c.toNat : Int) = some (aL c) := tI n c
theorem Ic (n : Nat) (c : UInt8) : io n (c.toNat : Int) = some (gl c) := by
 unfold io gl; rw [zU, tI]; cases kX c <;> rfl
theorem AK (c : UInt8) : (((c.toNat : Nat) : Int) != 34) = (c != 34) := by
 have := nn c 34 (by decide)
 show (!(((c.toNat : Nat) : Int) == 34)) = (!(c == 34))
 rw [show (34 : Int) = ((34 : Nat) : Int) from rfl, this]; rfl
theorem Ij (n : Nat) (c : UInt8) : iA n (c.toNat : Int) = some (ca c) := by
 have h1 := I4 c 32; have h2 := I6 c 126
 unfold iA ca
 rw [show (32 : Int) = ((32 : Nat) : Int) from rfl, show (126 : Int) = ((126 : Nat) : Int) from rfl, h1, h2, AK]
 cases decide (32 ≤ c.toNat) <;> cases decide (c.toNat ≤ 126) <;> rfl
theorem ml {p : UInt8 → Bool} {s : aY} {body : Int → Option (Int ⊕ Int)} (hs : s.length ≤ 1000000) (hb : ∀ i (h : i < s.length), body (i : Int) = some (if p s[i] then .inl (W ((i : Int) + 1)) else .inr (i : Int)))
  (he : body (s.length : Int) = some (.inr (s.length : Int))) : ∀ (l : aY) (a n : Nat), l = s.drop a → a ≤ s.length → l.length < n → bm body n (a : Int) = some ((a + ay p l : Nat) : Int)
 | [], a, n, hl, ha, hn => by
  obtain ⟨n, rfl⟩ : ∃ j, n = j + 1 := ⟨n - 1, by omega⟩
  have : a = s.length := by have := congrArg List.length hl; simp at this; omega
  subst this
  exact bM he
 | c :: l, a, n, hl, ha, hn => by
  obtain ⟨n, rfl⟩ : ∃ j, n = j + 1 := ⟨n - 1, by omega⟩
  have hlt : a < s.length := by have := congrArg List.length hl; simp at this; omega
  have hd := List.drop_eq_getElem_cons hlt
  rw [← hl] at hd
  obtain ⟨hc, ht⟩ := List.cons.inj hd
  have h1 := hb a hlt
  rw [← hc] at h1
  rw [ay]
  cases hp : p c with
  | true =>
   rw [hp] at h1
   refine (cG (s' := ((a + 1 : Nat) : Int)) (by rw [h1, dr (by omega)]; rfl)).trans ?_
   rw [ml hs hb he l (a + 1) n ht hlt (by simpa using hn)]
   simp; omega
  | false =>
   rw [hp] at h1
   exact bM h1
theorem AQ {p : UInt8 → Bool} {n : Nat} {s : aY} {f : Int → Option Bool} (hf : ∀ c : UInt8, f (c.toNat : Int) = some (p c)) (hs : s.length ≤ 1000000) (hn : s.length < n) : fP n s f = some (ay p s : Int) := by
 unfold fP
 have := ml (p := p) (s := s) (body := fun (n1 : Int) => ((bif (decide (n1 < (s.length : Int))) then ((gi s n1).bind fun c1 => (f (c1.toNat : Int)).bind fun x2 => some x2) else some false : Option Bool).bind fun (x1 : Bool) => (bif x1 then some (Sum.inl (W (n1 + 1))) else some (Sum.inr n1)))) hs ?_ ?_ s 0 n (by simp) (Nat.zero_le _) hn
 ·
  refine (congrArg (fun o => Option.bind o _) this).trans ?_
  simp
 ·
  intro i h
  have hd : decide ((i : Int) < (s.length : Int)) = true := by simpa using h
  simp only [hd, cond_true, bR h, Kd, hf]
  cases p s[i] <;> rfl
 ·
  have hd : decide ((s.length : Int) < (s.length : Int)) = false := by simp
  simp only [hd, cond_false, Kd]
theorem Ab {M : Nat} (hM : M ≤ 18446744073709551615) : ∀ (l : aY) (a : Nat), (∀ c ∈ l, aL c = true) → a ≤ M → Lib.parseUintM M a l = if ia a l ≤ M then .ok (ia a l) else .range
 | [], a, _, ha => by rw [Lib.parseUintM, G4, if_pos ha]
 | c :: l, a, h, ha => by
  have hc := h c (by simp)
  unfold aL at hc
  simp only [Bool.and_eq_true, decide_eq_true_eq] at hc
  rw [Lib.parseUintM, if_pos hc, AS]
  have hg := FP l (a * 10 + (c.toNat - 48))
  split
  · rw [if_neg (by omega)]
  ·
   split
   · rw [if_neg (by omega)]
   · exact Ab hM l _ (fun x hx => h x (by simp [hx])) (by omega)
theorem xG {l : aY} : ∀ c ∈ l.take (ay aL l), aL c = true := by
 intro c hc
 obtain ⟨i, hi, rfl⟩ := List.mem_iff_getElem.1 hc
 simp only [List.length_take] at hi
 rw [List.getElem_take]
 exact xC aL l i (by omega) (by omega)
theorem D6 {c : UInt8} {t : aY} (h : ∀ x ∈ c :: t, aL x = true) : yw (c :: t) = if ia 0 (c :: t) < 9223372036854775808 then some (ia 0 (c :: t) : Int) else none := by
 have hc := h c (by simp)
 unfold aL at hc
 simp only [Bool.and_eq_true, decide_eq_true_eq] at hc
 unfold yw Lib.parseIntB
 simp only
 rw [if_neg (by omega)]
 unfold Lib.parseUintB
 rw [if_neg (by simp), Ab (M := 2 ^ 64 - 1) (by decide) _ _ h (by decide)]
 have e1 : (2 : Nat) ^ 64 - 1 = 18446744073709551615 := by decide
 have e2 : (2 : Nat) ^ (64 - 1) = 9223372036854775808 := by decide
 rw [e1, e2]
 by_cases h1 : ia 0 (c :: t) < 9223372036854775808
 ·
  rw [if_pos (by omega), if_pos h1]
  simp only
  rw [if_neg (by omega), if_neg (by omega), if_neg (by omega)]
 ·
  rw [if_neg h1]
  by_cases h2 : ia 0 (c :: t) ≤ 18446744073709551615
  · rw [if_pos h2]; simp only; rw [if_pos (by omega)]
  · rw [if_neg h2]
theorem CT {t : aY} (h : ∀ x ∈ t, aL x = true) : yw (45 :: t) = if t = [] ∨ 9223372036854775808 < ia 0 t then none else some (-(ia 0 t : Int)) := by
 unfold yw Lib.parseIntB
 have h45 : (45 : UInt8).toNat = 45 := rfl
 simp only [h45, or_true, if_true, not_true, false_and, true_and, if_false]
 unfold Lib.parseUintB
 by_cases ht : t = []
 · rw [if_pos ht, if_pos (Or.inl ht)]
 ·
  rw [if_neg ht, Ab (M := 2 ^ 64 - 1) (by decide) _ _ h (by decide)]
  have e1 : (2 : Nat) ^ 64 - 1 = 18446744073709551615 := by decide
  have e2 : (2 : Nat) ^ (64 - 1) = 9223372036854775808 := by decide
  rw [e1, e2]
  by_cases h1 : 9223372036854775808 < ia 0 t
  ·
   rw [if_pos (Or.inr h1)]
   by_cases h2 : ia 0 t ≤ 18446744073709551615
   · rw [if_pos h2]; simp only; rw [if_pos h1]
   · rw [if_neg h2]
  ·
   rw [if_neg (show ¬ (t = [] ∨ 9223372036854775808 < ia 0 t) from fun h => h.elim ht h1), if_pos (show ia 0 t ≤ 18446744073709551615 by omega)]
   simp only
   rw [if_neg h1]
theorem Ir (n : Nat) (s p : aY) : bX n s p = some (p.isPrefixOf s) := by
 unfold bX
 by_cases h : p.length ≤ s.length
 ·
  have hd : decide ((s.length : Int) ≥ (p.length : Int)) = true := by simp; omega
  have hg : kC s 0 (p.length : Int) = some (s.take p.length) := by have := fM s (i := 0) (Nat.zero_le p.length) h; simpa using this
  simp only [hd, cond_true, hg, Kd]
  congr 1
  rw [Bool.eq_iff_iff, List.isPrefixOf_iff_prefix, List.prefix_iff_eq_take, beq_iff_eq]
  exact eq_comm
 ·
  have hd : decide ((s.length : Int) ≥ (p.length : Int)) = false := by simp; omega
  simp only [hd, cond_false]
  congr 1
  symm
  rw [Bool.eq_false_iff]
  intro hp
  rw [List.isPrefixOf_iff_prefix] at hp
  exact h hp.length_le
theorem IF (n : Nat) (c : UInt8) (t : aY) : dO n (c :: t) [45] = some (if c = 45 then t else c :: t) := by
 unfold dO dK
 rw [Ir]
 have hp : ([45] : aY).isPrefixOf (c :: t) = decide (c = 45) := by
  simp only [List.isPrefixOf, Bool.and_true]
  rw [Bool.eq_iff_iff]; simp; exact eq_comm
 have hg : kC (c :: t) (([45] : aY).length : Int) ((c :: t).length : Int) = some t := lI (c :: t) (i := 1) (by simp)
 rw [hp]
 by_cases h : c = 45
 ·
  subst h
  simp only [decide_true, Kd, cond_true, if_true, hg]
 · simp only [h, decide_false, Kd, cond_false, if_false]
theorem EB {n : Nat} {c : UInt8} {t : aY} (hc : aL c = true ∨ c = 45) (hs : (c :: t).length ≤ 1000000) (hn : (c :: t).length < n) :
  gI n (c :: t) = some (match pn (c :: t) with | some (v, k) => (v, (k : Int)) | none => (0, 0)) := by
 unfold gI
 rw [IF, Kd]
 simp only [List.length_cons] at hs hn
 by_cases h45 : c = 45
 ·
  subst h45
  have hf := fk aL t
  simp only [if_true, AQ (p := aL) (fun c => tI n c) (show t.length ≤ 1000000 by omega) (show t.length < n by omega), Kd]
  have hall : W ((W (((45 :: t : aY).length : Int) - (t.length : Int))) + (ay aL t : Int)) = ((ay aL t + 1 : Nat) : Int) := by
   rw [show ((45 :: t : aY).length : Int) - (t.length : Int) = ((1 : Nat) : Int) by simp; omega, iD (by decide), show ((1 : Nat) : Int) + (ay aL t : Int) = ((ay aL t + 1 : Nat) : Int) by omega, iD (by omega)]
  have hg : kC (45 :: t : aY) 0 ((ay aL t + 1 : Nat) : Int) = some (45 :: t.take (ay aL t)) := by
   have := fM (45 :: t : aY) (i := 0) (Nat.zero_le (ay aL t + 1)) (by simp; omega); simpa using this
  have hP : iR n (45 :: t.take (ay aL t)) = some (yw (45 :: t.take (ay aL t))) := by
   unfold iR; rw [if_pos (by simp; omega)]
  simp only [hall, hg, Kd, hP, CT xG, pn, if_true]
  have hlen : (t.take (ay aL t)).length = ay aL t := by simp; omega
  have hnil : t.take (ay aL t) = [] ↔ ay aL t = 0 := by
   rw [← List.length_eq_zero_iff, hlen]
  have hgt : decide (((ay aL t + 1 : Nat) : Int) > (ay aL t : Int)) = true := by simp; omega
  by_cases hz : t.take (ay aL t) = [] ∨ 9223372036854775808 < ia 0 (t.take (ay aL t))
  ·
   rw [if_pos hz]
   rw [hnil] at hz
   rw [if_pos (by omega)]
  ·
   rw [if_neg hz]
   rw [hnil] at hz
   generalize ia 0 (t.take (ay aL t)) = V at *
   simp only
   by_cases h1 : 1 < ay aL t
   ·
    have hd1 : decide ((ay aL t : Int) > 1) = true := by simp; omega
    cases t with
    | nil => simp [ay] at h1
    | cons d t =>
     have hgi : gi (d :: t) 0 = some d := rfl
     simp only [hd1, cond_true, hgi, Kd]
     by_cases h48 : d = 48
     ·
      subst h48
      have : (((48 : UInt8).toNat : Int) == 48) = true := rfl
      simp only [this, cond_true, Kd]
      rw [if_pos (by simp [h1])]
     ·
      have e := nn d 48 (by decide)
      have : ((d.toNat : Int) == 48) = false := by rw [show (48 : Int) = ((48 : Nat) : Int) from rfl, e]; simpa using h48
      simp only [this, cond_false]
      by_cases hV : V = 0
      ·
       subst hV
       simp only [hgt, Kd]
       rw [if_pos (by simp)]; rfl
      ·
       have hv0 : (-(V : Int) == 0) = false := by simp; omega
       simp only [hv0, cond_false, Kd]
       rw [if_neg (by simp [h48]; omega)]
   ·
    have hd1 : decide ((ay aL t : Int) > 1) = false := by simp; omega
    simp only [hd1, cond_false]
    by_cases hV : V = 0
    ·
     subst hV
     simp only [hgt, Kd]
     rw [if_pos (by simp)]; rfl
    ·
     have hv0 : (-(V : Int) == 0) = false := by simp; omega
     simp only [hv0, cond_false, Kd]
     rw [if_neg (by omega)]
 ·
  have hdig : aL c = true := hc.resolve_right h45
  have hf := fk aL (c :: t)
  have hpos : ay aL (c :: t) = ay aL t + 1 := by rw [ay, if_pos hdig]
  simp only [if_neg h45, AQ (p := aL) (fun c => tI n c) (show (c :: t).length ≤ 1000000 by simp; omega) (show (c :: t).length < n by simp; omega), Kd]
  have hall : W ((W (((c :: t).length : Int) - ((c :: t).length : Int))) + (ay aL (c :: t) : Int)) = (ay aL (c :: t) : Int) := by
   simp only [List.length_cons] at hf
   rw [Int.sub_self, show W 0 = 0 from rfl, Int.zero_add, iD (by omega)]
  have hg : kC (c :: t) 0 (ay aL (c :: t) : Int) = some ((c :: t).take (ay aL (c :: t))) := by
   have := fM (c :: t) (i := 0) (Nat.zero_le (ay aL (c :: t))) hf; simpa using this
  have htk : (c :: t).take (ay aL (c :: t)) = c :: t.take (ay aL t) := by rw [hpos]; rfl
  have hP : iR n ((c :: t).take (ay aL (c :: t))) = some (yw ((c :: t).take (ay aL (c :: t)))) := by
   simp only [List.length_cons] at hf
   unfold iR; rw [if_pos (by simp; omega)]
  have hpi := D6 (c := c) (t := t.take (ay aL t)) (by rw [← htk]; exact xG)
  simp only [hall, hg, Kd, hP, pn, if_neg h45]
  rw [htk, hpi]
  generalize ia 0 (c :: t.take (ay aL t)) = V
  have hgt : decide ((ay aL (c :: t) : Int) > (ay aL (c :: t) : Int)) = false := by simp
  by_cases hz : V < 9223372036854775808
  ·
   rw [if_pos hz]
   have hgi : gi (c :: t) 0 = some c := rfl
   simp only [hgt, hgi, Kd]
   by_cases h1 : 1 < ay aL (c :: t)
   ·
    have hd1 : decide ((ay aL (c :: t) : Int) > 1) = true := by simp; omega
    simp only [hd1, cond_true]
    by_cases h48 : c = 48
    ·
     subst h48
     have : (((48 : UInt8).toNat : Int) == 48) = true := rfl
     simp only [this, cond_true, Kd]
     rw [if_pos (by simp [h1])]
    ·
     have e := nn c 48 (by decide)
     have : ((c.toNat : Int) == 48) = false := by rw [show (48 : Int) = ((48 : Nat) : Int) from rfl, e]; simpa using h48
     simp only [this, cond_false]
     rw [if_neg (by simp [h48]; omega)]
     cases ((V : Int) == 0) <;> rfl
   ·
    have hd1 : decide ((ay aL (c :: t) : Int) > 1) = false := by simp; omega
    simp only [hd1, cond_false]
    rw [if_neg (by omega)]
    cases ((V : Int) == 0) <;> rfl
  · rw [if_neg hz, if_pos (by omega)]
theorem BY {l : aY} {k : Nat} (h : k ≤ l.length) : kC l 0 (k : Int) = some (l.take k) := by have := fM l (i := 0) (Nat.zero_le k) h; simpa using this
theorem Ho {n : Nat} {l : List aY} {v : aY} (hl : l.length ≤ 1000000) (hn : l.length < n) : bC n l v = some (l.contains v) := by
 unfold bC eC
 have hany : l.contains v = l.any fun x => v == x := by rw [List.contains_eq_any_beq]
 rw [hany, tm]
 refine (congrArg (fun o => Option.bind (Option.bind o _) _) (pT (l := l) (p := fun x => v == x) (fun i h => ?_) ?_ (Nat.le_trans hl (by decide)) hn)).trans ?_
 ·
  have hd : decide ((i : Int) < (l.length : Int)) = true := by simpa using h
  simp only [hd, cond_true, bR h, Kd]
  cases v == l[i] <;> rfl
 · simp
 ·
  cases l.findIdx? (fun x => v == x) with
  | none => rfl
  | some i => simp only [Kd, kS]; rfl
def kp : List aY := [[60, 61], [33, 61], [62, 61], [94, 61], [40], [41], [44], [60], [61], [62]]
def Hx (l : aY) : Option aY := kp.find? fun x => x.isPrefixOf l
theorem vf {n m : Nat} {s : aY} : ∀ (r : List aY) (i : Nat), r = kp.drop i → i ≤ 10 → r.length < m → bm (ε := Int) (τ := Unit ⊕ (ax × Int)) (fun (x8 : Int) => (bif (decide (x8 < (kp.length : Int))) then ((gi kp x8).bind fun x10 => (bW n s x10).bind fun x11 => bif x11 then ((some ((x10.length : Int))).bind fun x12 => some (Sum.inr (Sum.inr ((ax.mk 5 0 0 x10), x12)))) else some (Sum.inl (W (x8 + 1)))) else some (Sum.inr (Sum.inl ())))) m (i : Int)
  = some (match r.find? (fun x => x.isPrefixOf s) with | some x => .inr (⟨5, 0, 0, x⟩, (x.length : Int)) | none => .inl ())
 | [], i, hr, hi, hm => by
  obtain ⟨m, rfl⟩ : ∃ j, m = j + 1 := ⟨m - 1, by omega⟩
  have : i = 10 := by
   have := congrArg List.length hr
   simp [kp] at this; omega
  subst this
  exact bM rfl
 | x :: r, i, hr, hi, hm => by
  obtain ⟨m, rfl⟩ : ∃ j, m = j + 1 := ⟨m - 1, by omega⟩
  have hlt : i < kp.length := by have := congrArg List.length hr; simp at this; omega
  have hd := List.drop_eq_getElem_cons hlt
  rw [← hr] at hd
  obtain ⟨hx, ht⟩ := List.cons.inj hd
  have hde : decide ((i : Int) < (kp.length : Int)) = true := by simpa using hlt
  have hh : bW n s x = some (x.isPrefixOf s) := by unfold bW; rw [Ir]; rfl
  rw [List.find?_cons]
  cases hp : x.isPrefixOf s with
  | true =>
   refine bM ?_
   simp only [hde, cond_true, bR hlt, ← hx, Kd, hh, hp]
  | false =>
   have h10 : kp.length = 10 := rfl
   refine (cG (s' := ((i + 1 : Nat) : Int)) ?_).trans (vf r (i + 1) ht (by omega) (by simpa using hm))
   simp only [hde, cond_true, bR hlt, ← hx, Kd, hh, hp, cond_false, dr (show i + 1 < 9223372036854775808 by omega)]
theorem EW {c : UInt8} {t : aY} : Hx (c :: t) = if t.head? = some 61 ∧ (c = 60 ∨ c = 33 ∨ c = 62 ∨ c = 94) then some [c, 61] else if c = 40 ∨ c = 41 ∨ c = 44 ∨ c = 60 ∨ c = 61 ∨ c = 62 then some [c] else none := by
 have h2 : ∀ a b : UInt8, ([a, b] : aY).isPrefixOf (c :: t) = (a == c && (t.head? == some b)) := by
  intro a b
  cases t with
  | nil => simp [List.isPrefixOf]
  | cons d t => simp only [List.isPrefixOf, Bool.and_true, List.head?_cons]; congr 1; rw [Bool.eq_iff_iff]; simp; exact eq_comm
 have h1 : ∀ a : UInt8, ([a] : aY).isPrefixOf (c :: t) = (a == c) := by intro a; simp [List.isPrefixOf]
 unfold Hx kp
 simp only [List.find?_cons, List.find?_nil, h2, h1]
 by_cases h : t.head? = some 61
 ·
  have hb : (t.head? == some 61) = true := by simp [h]
  simp only [hb, Bool.and_true, h, true_and]
  by_cases e1 : c = 60
  · subst e1; simp
  by_cases e2 : c = 33
  · subst e2; simp
  by_cases e3 : c = 62
  · subst e3; simp
  by_cases e4 : c = 94
  · subst e4; simp
  have n1 : (60 == c) = false := by simpa using fun h => e1 h.symm
  have n2 : (33 == c) = false := by simpa using fun h => e2 h.symm
  have n3 : (62 == c) = false := by simpa using fun h => e3 h.symm
  have n4 : (94 == c) = false := by simpa using fun h => e4 h.symm
  simp only [n1, n2, n3, n4]
  rw [if_neg (by simp [e1, e2, e3, e4])]
  by_cases f1 : c = 40
  · subst f1; simp
  by_cases f2 : c = 41
  · subst f2; simp
  by_cases f3 : c = 44
  · subst f3; simp
  by_cases f4 : c = 61
  · subst f4; simp
  have m1 : (40 == c) = false := by simpa using fun h => f1 h.symm
  have m2 : (41 == c) = false := by simpa using fun h => f2 h.symm
  have m3 : (44 == c) = false := by simpa using fun h => f3 h.symm
  have m4 : (61 == c) = false := by simpa using fun h => f4 h.symm
  simp only [m1, m2, m3, m4]
  rw [if_neg (by simp [e1, e3, f1, f2, f3, f4])]
  rfl
 ·
  have hb : (t.head? == some 61) = false := by simpa using h
  simp only [hb, Bool.and_false, h, false_and, if_false]
  by_cases f1 : c = 40
  · subst f1; simp
  by_cases f2 : c = 41
  · subst f2; simp
  by_cases f3 : c = 44
  · subst f3; simp
  by_cases e1 : c = 60
  · subst e1; simp
  by_cases f4 : c = 61
  · subst f4; simp
  by_cases e3 : c = 62
  · subst e3; simp
  have m1 : (40 == c) = false := by simpa using fun h => f1 h.symm
  have m2 : (41 == c) = false := by simpa using fun h => f2 h.symm
  have m3 : (44 == c) = false := by simpa using fun h => f3 h.symm
  have m4 : (61 == c) = false := by simpa using fun h => f4 h.symm
  have n1 : (60 == c) = false := by simpa using fun h => e1 h.symm
  have n3 : (62 == c) = false := by simpa using fun h => e3 h.symm
  simp only [m1, m2, m3, m4, n1, n3]
  rw [if_neg (by simp [e1, e3, f1, f2, f3, f4])]
theorem Iy {n : Nat} {c : UInt8} {t : aY} (hs : (c :: t).length ≤ 1000000) (hn : (c :: t).length < n) (hn2 : 20 < n) :
  ∃ x, iI n (c :: t) = some (match uh (c :: t) with | some (y, k) => (⟨y.k, 0, y.n, y.s⟩, (k : Int)) | none => (x, 0)) := by
 have hgi : gi (c :: t) 0 = some c := rfl
 unfold iI
 rw [hgi, Kd, zU, Kd, uh]
 by_cases hlow : kX c = true
 ·
  rw [hlow, cond_true, if_pos rfl]
  have hf := fk gl (c :: t)
  simp only [AQ (p := gl) (fun c => Ic n c) hs hn, Kd, BY hf, show jP n = some kj from rfl, Ho (show kj.length ≤ 1000000 by decide) (show kj.length < n by show 5 < n; omega)]
  by_cases h20 : ay gl (c :: t) ≤ 20
  ·
   have hd : decide ((ay gl (c :: t) : Int) > 20) = false := by simp; omega
   rw [if_pos h20]
   refine ⟨⟨0, 0, 0, []⟩, ?_⟩
   cases kj.contains ((c :: t).take (ay gl (c :: t))) <;> simp only [cond_true, cond_false, Kd, hd] <;> simp
  ·
   have hd : decide ((ay gl (c :: t) : Int) > 20) = true := by simp; omega
   rw [if_neg h20]
   cases kj.contains ((c :: t).take (ay gl (c :: t))) <;> simp only [cond_true, cond_false, Kd, hd] <;> exact ⟨_, rfl⟩
 ·
  have hlow : kX c = false := by simpa using hlow
  rw [hlow, cond_false, if_neg (by simp), tI, Kd]
  have e45 : (((c.toNat : Nat) : Int) == 45) = decide (c = 45) := nn c 45 (by decide)
  have hx4 : (bif aL c then some true else some (((c.toNat : Nat) : Int) == 45) : Option Bool) = some (aL c || decide (c = 45)) := by rw [e45]; cases aL c <;> rfl
  rw [hx4, Kd]
  by_cases hnum : aL c = true ∨ c = 45
  ·
   have hb : (aL c || decide (c = 45)) = true := by simpa using hnum
   rw [hb, cond_true, if_pos hnum, EB hnum hs hn, Kd]
   refine ⟨⟨3, 0, 0, []⟩, ?_⟩
   cases pn (c :: t) <;> rfl
  ·
   have hb : (aL c || decide (c = 45)) = false := by simpa using hnum
   rw [hb, cond_false, if_neg hnum]
   have e34 : (((c.toNat : Nat) : Int) == 34) = decide (c = 34) := nn c 34 (by decide)
   by_cases h34 : c = 34
   ·
    rw [e34, decide_eq_true h34, cond_true, if_pos h34]
    have hg1 : kC (c :: t) 1 ((c :: t).length : Int) = some t := lI (c :: t) (i := 1) (by simp)
    simp only [List.length_cons] at hs hn
    have hf := fk ca t
    rw [hg1, Kd, AQ (p := ca) (fun c => Ij n c) (show t.length ≤ 1000000 by omega) (show t.length < n by omega), Kd]
    have hW1 : W ((ay ca t : Int) + 1) = ((ay ca t + 1 : Nat) : Int) := dr (by omega)
    have hW2 : W ((ay ca t : Int) + 2) = ((ay ca t + 2 : Nat) : Int) := by rw [show (ay ca t : Int) + 2 = ((ay ca t + 2 : Nat) : Int) by omega]; exact iD (by omega)
    simp only [hW1, hW2]
    by_cases h2 : ay ca t ≤ 200
    ·
     have hd : decide ((ay ca t : Int) > 200) = false := by simp; omega
     simp only [hd, cond_false]
     by_cases h3 : ay ca t < t.length
     ·
      have hd2 : decide (((ay ca t + 1 : Nat) : Int) ≥ ((c :: t).length : Int)) = false := by simp; omega
      have hgi2 : gi (c :: t) ((ay ca t + 1 : Nat) : Int) = some t[ay ca t] := by rw [sW]; simp [h3]
      have e2 : ∀ d : UInt8, (((d.toNat : Nat) : Int) != 34) = !decide (d = 34) := fun d => by
       have := nn d 34 (by decide)
       show (!(((d.toNat : Nat) : Int) == 34)) = _
       rw [show (34 : Int) = ((34 : Nat) : Int) from rfl, this]; rfl
      have hq : t[ay ca t]? = some t[ay ca t] := List.getElem?_eq_getElem h3
      simp only [hd2, cond_false, hgi2, Kd, e2, hq]
      have hg2 : kC (c :: t) 1 ((ay ca t + 1 : Nat) : Int) = some (t.take (ay ca t)) := by
       have := fM (c :: t) (i := 1) (j := ay ca t + 1) (by omega) (by simp; omega)
       simpa using this
      by_cases h4 : t[ay ca t] = 34
      ·
       rw [decide_eq_true h4, if_pos ⟨h2, by rw [h4]⟩]
       simp only [Bool.not_true, cond_false, hg2, Kd]
       exact ⟨⟨0, 0, 0, []⟩, by first | trivial | rfl⟩
      ·
       rw [decide_eq_false h4, if_neg (by simp [h4])]
       exact ⟨_, rfl⟩
     ·
      have hd2 : decide (((ay ca t + 1 : Nat) : Int) ≥ ((c :: t).length : Int)) = true := by simp; omega
      have hq : t[ay ca t]? = none := List.getElem?_eq_none (by omega)
      rw [if_neg (by simp [hq])]
      simp only [hd2, cond_true, Kd]
      exact ⟨_, rfl⟩
    ·
     have hd : decide ((ay ca t : Int) > 200) = true := by simp; omega
     rw [if_neg (by simp [h2])]
     simp only [hd, cond_true, Kd]
     exact ⟨_, rfl⟩
   ·
    rw [e34, decide_eq_false h34, cond_false, if_neg h34]
    have hsl := vf (n := n) (m := n) (s := c :: t) kp 0 rfl (by decide) (show 10 < n by omega)
    have hfs : kp.find? (fun x => x.isPrefixOf (c :: t)) = Hx (c :: t) := rfl
    rw [hfs, EW] at hsl
    refine ⟨⟨0, 0, 0, []⟩, (congrArg (fun o => Option.bind o _) hsl).trans ?_⟩
    by_cases h5 : t.head? = some 61 ∧ (c = 60 ∨ c = 33 ∨ c = 62 ∨ c = 94)
    · rw [if_pos h5, if_pos h5]; rfl
    ·
     rw [if_neg h5, if_neg h5]
     by_cases h6 : c = 40 ∨ c = 41 ∨ c = 44 ∨ c = 60 ∨ c = 61 ∨ c = 62
     · rw [if_pos h6, if_pos h6]; rfl
     · rw [if_neg h6, if_neg h6]; rfl
theorem jW {s : aY} {a : Nat} {c : UInt8} {t : aY} (h : c :: t = s.drop a) : ∃ hlt : a < s.length, s[a] = c ∧ t = s.drop (a + 1) := by
 have hlt : a < s.length := by have := congrArg List.length h; simp at this; omega
 have hd := List.drop_eq_getElem_cons hlt
 rw [← h] at hd
 obtain ⟨hc, ht⟩ := List.cons.inj hd
 exact ⟨hlt, hc.symm, ht⟩
theorem sR {n : Nat} {s : aY} (hs : s.length ≤ 1000) (hn : 2000 < n) : ∀ (m : Nat) (l : aY) (a : Nat) (out : List ax) (k : Nat), l.length ≤ m → l = s.drop a → a ≤ s.length → out.length + l.length ≤ 1000 → m < k →
  bm (ε := Int × (List ax)) (τ := (List ax) ⊕ ((List ax) × Er)) (fun (((at1, out1)) : Int × (List ax)) => (bif (decide (at1 < (s.length : Int))) then ((gi s at1).bind fun c1 => bif ((c1.toNat : Int) == 32) then some (Sum.inl (W (at1 + 1), out1)) else ((kC s at1 (s.length : Int)).bind fun s2 => (iI n s2).bind fun n1 => bif (n1.2 == 0) then some (Sum.inr (Sum.inr ([], (some 2)))) else ((ap out1 [(ax.mk n1.1.Kind at1 n1.1.N n1.1.S)]).bind fun out4 => some (Sum.inl (W (at1 + n1.2), out4))))) else some (Sum.inr (Sum.inl out1)))) k ((a : Int), out)
  = some (match iC a l with | some L => .inl (out ++ L) | none => .inr ([], some 2))
 | m, [], a, out, k, hm, hl, ha, ho, hk => by
  obtain ⟨k, rfl⟩ : ∃ j, k = j + 1 := ⟨k - 1, by omega⟩
  have : a = s.length := by have := congrArg List.length hl; simp at this; omega
  subst this
  rw [j9]
  have hd : decide ((s.length : Int) < (s.length : Int)) = false := by simp
  exact bM (by simp only [hd, cond_false, List.append_nil])
 | 0, c :: t, a, out, k, hm, hl, ha, ho, hk => by simp at hm
 | m + 1, c :: t, a, out, k, hm, hl, ha, ho, hk => by
  obtain ⟨k, rfl⟩ : ∃ j, k = j + 1 := ⟨k - 1, by omega⟩
  obtain ⟨hlt, hc, ht⟩ := jW hl
  have hd : decide ((a : Int) < (s.length : Int)) = true := by simpa using hlt
  have e32 : (((c.toNat : Nat) : Int) == 32) = decide (c = 32) := nn c 32 (by decide)
  simp only [List.length_cons] at hm ho
  by_cases h32 : c = 32
  ·
   subst h32
   rw [rP]
   refine (cG (s' := (((a + 1 : Nat) : Int), out)) ?_).trans (sR hs hn m t (a + 1) out k (by omega) ht hlt (by omega) (by omega))
   simp only [hd, cond_true, bR hlt, hc, Kd, dr (show a + 1 < 9223372036854775808 by omega)]
   rfl
  ·
   have hg : kC s (a : Int) (s.length : Int) = some (c :: t) := by rw [hl]; exact lI s ha
   have hlen : (c :: t).length ≤ 1000 := by rw [hl]; simp; omega
   obtain ⟨x, h1⟩ := Iy (n := n) (c := c) (t := t) (by omega) (by omega) (by omega)
   rw [decide_eq_false h32] at e32
   cases htk : uh (c :: t) with
   | none =>
    rw [htk] at h1
    rw [lB h32 htk]
    refine bM ?_
    simp only [hd, cond_true, bR hlt, hc, Kd, e32, cond_false, hg, h1]
    rfl
   | some p =>
    obtain ⟨y, j⟩ := p
    rw [htk] at h1
    rw [lG h32 htk]
    have hj := nE htk
    simp only [List.length_cons] at hj
    have hta : t.length + 1 = s.length - a := by have := congrArg List.length hl; simpa using this
    have hz : (((j : Nat) : Int) == 0) = false := beq_false_of_ne (by omega)
    have hap : ap out [(ax.mk y.k (a : Int) y.n y.s)] = some (out ++ [⟨y.k, (a : Int), y.n, y.s⟩]) := fX (Nat.le_trans (show out.length + 1 ≤ 1001 by omega) (by decide))
    have hW : W ((a : Int) + (j : Int)) = ((a + j : Nat) : Int) := by rw [show (a : Int) + (j : Int) = ((a + j : Nat) : Int) by omega]; exact iD (by omega)
    have hdr : (c :: t).drop j = s.drop (a + j) := by rw [hl, List.drop_drop]
    refine (cG (s' := (((a + j : Nat) : Int), out ++ [⟨y.k, (a : Int), y.n, y.s⟩])) ?_).trans ((sR hs hn m ((c :: t).drop j) (a + j) _ k (by simp; omega) hdr (by omega) (by simp; omega) (by omega)).trans ?_)
    · simp only [hd, cond_true, bR hlt, hc, Kd, e32, cond_false, hg, h1, hz, hap, hW]
    · cases iC (a + j) ((c :: t).drop j) <;> simp
def zL (s : aY) : List ax × Er := if 500 < s.length then ([], some 5) else match iC 0 s with | some L => (L, none) | none => ([], some 2)
theorem DJ {n : Nat} {s : aY} (hn : 2000 < n) : iU n s = some (zL s) := by
 unfold iU zL
 by_cases h : 500 < s.length
 ·
  have hd : decide ((s.length : Int) > 500) = true := by simp; omega
  rw [hd, if_pos h]; rfl
 ·
  have hd : decide ((s.length : Int) > 500) = false := by simp; omega
  rw [hd, if_neg h, cond_false]
  refine (congrArg (fun o => Option.bind o _) (sR (n := n) (s := s) (by omega) hn s.length s 0 [] n (Nat.le_refl _) (by simp) (Nat.zero_le _) (by simp; omega) (by omega))).trans ?_
  cases iC 0 s <;> simp [kS]
theorem oJ {n : Nat} {s : aY} (hs : s.length ≤ 1000) : ∀ (r : aY) (i : Nat) (b : Nat) (pre : aY) (k : Nat) (v : Int) (big : Bool), pre.length = i → r = s.drop (b + i) → b + i ≤ s.length → r.length < k →
  (big = decide (9223372036854775808 < ia 0 pre)) → (big = false → v = (ia 0 pre : Int)) →
  ∃ v' big', bm (ε := Int × Int × Bool) (τ := Int × Int × Bool) (fun (((at3, n1, big1)) : Int × Int × Bool) => ((bif (decide (at3 < (s.length : Int))) then ((gi s at3).bind fun c2 => (eu n (c2.toNat : Int)).bind fun x2 => some x2) else some false : Option Bool).bind fun (x1 : Bool) => (bif x1 then ((bif big1 then some true else (bif (decide (n1 > 922337203685477580)) then some true else (bif (n1 == 922337203685477580) then ((gi s at3).bind fun c3 => (some (decide ((c3.toNat : Int) > 56))).bind fun big5 => some big5) else some false)) : Option Bool).bind fun (big4 : Bool) => ((gi s at3).bind fun c4 => (some (IntKind.wrap .u64 ((IntKind.wrap .u64 (10 * n1)) + (IntKind.wrap .u64 (IntKind.wrap .u8 ((c4.toNat : Int) - 48)))))).bind fun n4 => some (Sum.inl (W (at3 + 1), n4, big4)))) else some (Sum.inr (at3, n1, big1))))) k (((b + i : Nat) : Int), v, big)
   = some (((b + i + ay aL r : Nat) : Int), v', big') ∧ big' = decide (9223372036854775808 < ia 0 (pre ++ r.take (ay aL r))) ∧ (big' = false → v' = (ia 0 (pre ++ r.take (ay aL r)) : Int))
 | [], i, b, pre, k, v, big, hp, hr, hi, hk, h1, h2 => by
  obtain ⟨k, rfl⟩ : ∃ j, k = j + 1 := ⟨k - 1, by omega⟩
  have : b + i = s.length := by have := congrArg List.length hr; simp at this; omega
  have hd : decide (((b + i : Nat) : Int) < (s.length : Int)) = false := by rw [this]; simp
  refine ⟨v, big, bM ?_, by simpa [ay] using h1, by simpa [ay] using h2⟩
  simp only [hd, cond_false, Kd, ay, Nat.add_zero]
 | c :: r, i, b, pre, k, v, big, hp, hr, hi, hk, h1, h2 => by
  obtain ⟨k, rfl⟩ : ∃ j, k = j + 1 := ⟨k - 1, by omega⟩
  obtain ⟨hlt, hc, ht⟩ := jW hr
  have hd : decide (((b + i : Nat) : Int) < (s.length : Int)) = true := by simp; omega
  by_cases hdig : aL c = true
  ·
   have hcd := hdig
   unfold aL at hcd
   simp only [Bool.and_eq_true, decide_eq_true_eq] at hcd
   have hu8 : IntKind.wrap .u64 (IntKind.wrap .u8 ((c.toNat : Int) - 48)) = ((c.toNat - 48 : Nat) : Int) := by
    rw [show (c.toNat : Int) - 48 = ((c.toNat - 48 : Nat) : Int) by omega, Fs]
    have : (((c.toNat - 48 : Nat) : Int)) % 256 = ((c.toNat - 48 : Nat) : Int) := by omega
    rw [this]; exact pU (by omega)
   obtain ⟨big4, hb4, hb4'⟩ : ∃ big4, (bif big then some true else (bif (decide (v > 922337203685477580)) then some true else (bif (v == 922337203685477580) then ((gi s ((b + i : Nat) : Int)).bind fun c3 => (some (decide ((c3.toNat : Int) > 56))).bind fun big5 => some big5) else some false)) : Option Bool) = some big4 ∧ big4 = decide (9223372036854775808 < ia 0 (pre ++ [c])) := by
    rw [vr]
    cases hbig : big with
    | true =>
     rw [hbig] at h1
     have := of_decide_eq_true h1.symm
     exact ⟨true, rfl, by symm; rw [decide_eq_true_eq]; omega⟩
    | false =>
     rw [hbig] at h1
     have hlo := of_decide_eq_false h1.symm
     have hv := h2 hbig
     subst hv
     by_cases g1 : 922337203685477580 < ia 0 pre
     ·
      have : decide ((ia 0 pre : Int) > 922337203685477580) = true := by simp; omega
      exact ⟨true, by rw [this]; rfl, by symm; rw [decide_eq_true_eq]; omega⟩
     ·
      have : decide ((ia 0 pre : Int) > 922337203685477580) = false := by simp; omega
      by_cases g2 : ia 0 pre = 922337203685477580
      ·
       have e : ((ia 0 pre : Int) == 922337203685477580) = true := by simp; omega
       refine ⟨decide (57 ≤ c.toNat), ?_, ?_⟩
       ·
        simp only [this, e, cond_true, cond_false, bR hlt, hc, Kd]
        congr 1; rw [Bool.eq_iff_iff]; simp; omega
       · rw [Bool.eq_iff_iff]; simp; omega
      ·
       have e : ((ia 0 pre : Int) == 922337203685477580) = false := beq_false_of_ne (by omega)
       refine ⟨false, by simp only [this, e, cond_false], ?_⟩
       symm; rw [decide_eq_false_iff_not]; omega
   have hv4 : big4 = false → IntKind.wrap .u64 ((IntKind.wrap .u64 (10 * v)) + (IntKind.wrap .u64 (IntKind.wrap .u8 ((c.toNat : Int) - 48)))) = (ia 0 (pre ++ [c]) : Int) := by
    intro h4
    rw [h4] at hb4'
    have hlo := of_decide_eq_false hb4'.symm
    rw [vr] at hlo ⊢
    have hbig : big = false := by
     rw [h1, decide_eq_false_iff_not]; omega
    have hv := h2 hbig
    subst hv
    rw [hu8, show 10 * (ia 0 pre : Int) = ((ia 0 pre * 10 : Nat) : Int) by omega, pU (by omega), ← Int.natCast_add, pU (by omega)]
   obtain ⟨v', big', e1, e2, e3⟩ := oJ (n := n) hs r (i + 1) b (pre ++ [c]) k (IntKind.wrap .u64 ((IntKind.wrap .u64 (10 * v)) + (IntKind.wrap .u64 (IntKind.wrap .u8 ((c.toNat : Int) - 48))))) big4 (by simp; omega) ht (by omega) (by simpa using hk) hb4' hv4
   have hf : ay aL (c :: r) = ay aL r + 1 := by rw [ay, if_pos hdig]
   have htk : pre ++ [c] ++ r.take (ay aL r) = pre ++ (c :: r).take (ay aL (c :: r)) := by rw [hf]; simp
   rw [htk] at e2 e3
   refine ⟨v', big', (cG (s' := (((b + (i + 1) : Nat) : Int), _, big4)) ?_).trans (e1.trans ?_), e2, e3⟩
   ·
    simp only [hd, cond_true, bR hlt, hc, rK, hdig, Kd] at hb4 ⊢
    rw [hb4]
    simp only [Kd, dr (show b + i + 1 < 9223372036854775808 by omega)]
    rfl
   · rw [hf]; congr 3; omega
  ·
   have hdig : aL c = false := by simpa using hdig
   have hf : ay aL (c :: r) = 0 := by rw [ay, if_neg (by simp [hdig])]
   refine ⟨v, big, bM ?_, by rw [hf]; simpa using h1, by rw [hf]; simpa using h2⟩
   simp only [hd, cond_true, bR hlt, hc, rK, hdig, Kd, cond_false, hf, Nat.add_zero]
theorem Co {n : Nat} {s : aY} {a : Nat} {c : UInt8} {t : aY} (hs : s.length ≤ 1000) (hl : c :: t = s.drop a) (hc : aL c = true ∨ c = 45) (hn : 2000 < n) :
  ∃ v b, gP n s (a : Int) = some (match pn (c :: t) with | some (y, k) => (y, ((a + k : Nat) : Int), true) | none => (v, b, false)) := by
 obtain ⟨hlt, hca, ht⟩ := jW hl
 have e45 : (((c.toNat : Nat) : Int) == 45) = decide (c = 45) := nn c 45 (by decide)
 have e48 : ∀ d : UInt8, (((d.toNat : Nat) : Int) == 48) = decide (d = 48) := fun d => nn d 48 (by decide)
 unfold gP
 rw [bR hlt, Kd, hca, e45, Kd]
 by_cases h45 : c = 45
 ·
  subst h45
  have hWa : W ((a : Int) + 1) = ((a + 1 : Nat) : Int) := dr (by omega)
  simp only [decide_true, cond_true, hWa, Kd]
  have hf := fk aL t
  have htl : t.length = s.length - (a + 1) := by rw [ht]; simp
  obtain ⟨v', big', e1, e2, e3⟩ := oJ (n := n) hs t 0 (a + 1) [] n 0 false rfl (by simpa using ht) (by omega) (by omega) (by decide) (by intro _; rfl)
  refine ⟨0, ((a + 1 + ay aL t : Nat) : Int), (congrArg (fun o => Option.bind o _) e1).trans ?_⟩
  simp only [List.nil_append] at e2 e3
  simp only [Kd, Nat.add_zero, pn, if_true, decide_true, Bool.not_true, cond_false, cond_true]
  have hWs : W (((a + 1 + ay aL t : Nat) : Int) - ((a + 1 : Nat) : Int)) = (ay aL t : Int) := by rw [show ((a + 1 + ay aL t : Nat) : Int) - ((a + 1 : Nat) : Int) = (ay aL t : Int) by omega]; exact iD (by omega)
  rw [hWs]
  by_cases h0 : ay aL t = 0
  ·
   have hz : (((a + 1 + ay aL t : Nat) : Int) == ((a + 1 : Nat) : Int)) = true := by simp; omega
   rw [hz, if_pos (Or.inl h0)]; rfl
  ·
   have hz : (((a + 1 + ay aL t : Nat) : Int) == ((a + 1 : Nat) : Int)) = false := beq_false_of_ne (by omega)
   rw [hz]; simp only [cond_false]
   have hrest : ∀ (P : Prop) [Decidable P], (P ↔ (1 < ay aL t ∧ t.head? = some 48)) → ((bif decide P then some true else (bif big' then some true else (bif (v' == 0) then some true else some false)) : Option Bool).bind fun (x3 : Bool) => (bif x3 then some ((0 : Int), ((a + 1 + ay aL t : Nat) : Int), false) else ((some (W ((W (0 - (W (IntKind.wrap .u64 (v' - 1))))) - 1))).bind fun x4 => some (x4, ((a + 1 + ay aL t : Nat) : Int), true)))) =
     some (match (if ay aL t = 0 ∨ (1 < ay aL t ∧ t.head? = some 48) ∨ ia 0 (t.take (ay aL t)) = 0 ∨ 9223372036854775808 < ia 0 (t.take (ay aL t)) then none else some (-(ia 0 (t.take (ay aL t)) : Int), ay aL t + 1) : Option (Int × Nat)) with | some (y, k) => (y, ((a + k : Nat) : Int), true) | none => (0, ((a + 1 + ay aL t : Nat) : Int), false)) := by
    intro P _ hP
    by_cases hp : P
    · rw [decide_eq_true hp, if_pos (Or.inr (Or.inl (hP.1 hp)))]; rfl
    ·
     have hp' : ¬ (1 < ay aL t ∧ t.head? = some 48) := fun h => hp (hP.2 h)
     rw [decide_eq_false hp]
     simp only [cond_false]
     cases hbig : big' with
     | true =>
      rw [hbig] at e2
      have := of_decide_eq_true e2.symm
      rw [if_pos (Or.inr (Or.inr (Or.inr this)))]; rfl
     | false =>
      have hv := e3 hbig
      rw [hbig] at e2
      have hlo := of_decide_eq_false e2.symm
      subst hv
      clear e1 e3
      by_cases hV : ia 0 (t.take (ay aL t)) = 0
      ·
       have hz : ((ia 0 (t.take (ay aL t)) : Int) == 0) = true := by rw [hV]; rfl
       rw [if_pos (Or.inr (Or.inr (Or.inl hV)))]
       simp only [hz, cond_true, cond_false, Kd]
      ·
       have hz : ((ia 0 (t.take (ay aL t)) : Int) == 0) = false := beq_false_of_ne (by omega)
       rw [if_neg (fun h => h.elim h0 fun h => h.elim hp' fun h => h.elim hV hlo)]
       simp only [hz, cond_false, Kd]
       have w1 : IntKind.wrap .u64 ((ia 0 (t.take (ay aL t)) : Int) - 1) = ((ia 0 (t.take (ay aL t)) - 1 : Nat) : Int) := by rw [show (ia 0 (t.take (ay aL t)) : Int) - 1 = ((ia 0 (t.take (ay aL t)) - 1 : Nat) : Int) by omega]; exact pU (by omega)
       rw [w1, iD (show ia 0 (t.take (ay aL t)) - 1 < 9223372036854775808 by omega), gZ (n := 0 - ((ia 0 (t.take (ay aL t)) - 1 : Nat) : Int)) (by omega), gZ (by omega)]
       congr 2
       · omega
       · congr 1; omega
   by_cases h1 : 1 < ay aL t
   ·
    have hd1 : decide ((ay aL t : Int) > 1) = true := by simp; omega
    cases t with
    | nil => simp [ay] at h1
    | cons d t =>
     obtain ⟨hlt2, hd2, _⟩ := jW ht
     simp only [hd1, cond_true, bR hlt2, hd2, Kd, e48]
     exact hrest (d = 48) ⟨fun h => ⟨h1, by rw [h]; rfl⟩, fun h => by simpa using h.2⟩
   ·
    have hd1 : decide ((ay aL t : Int) > 1) = false := by simp; omega
    simp only [hd1, cond_false]
    exact (hrest False ⟨False.elim, fun h => h1 h.1⟩)
 ·
  have hdig : aL c = true := hc.resolve_right h45
  rw [decide_eq_false h45]
  simp only [cond_false, Kd]
  have hf := fk aL (c :: t)
  have hlen : (c :: t).length = s.length - a := by rw [hl]; simp
  have hpos : ay aL (c :: t) = ay aL t + 1 := by rw [ay, if_pos hdig]
  obtain ⟨v', big', e1, e2, e3⟩ := oJ (n := n) hs (c :: t) 0 a [] n 0 false rfl (by simpa using hl) (by omega) (by omega) (by decide) (by intro _; rfl)
  refine ⟨0, ((a + ay aL (c :: t) : Nat) : Int), (congrArg (fun o => Option.bind o _) e1).trans ?_⟩
  simp only [List.nil_append] at e2 e3
  simp only [Kd, Nat.add_zero, pn, if_neg h45, Bool.not_false, cond_false, cond_true]
  have hWs : W (((a + ay aL (c :: t) : Nat) : Int) - (a : Int)) = (ay aL (c :: t) : Int) := by rw [show ((a + ay aL (c :: t) : Nat) : Int) - (a : Int) = (ay aL (c :: t) : Int) by omega]; exact iD (by omega)
  rw [hWs]
  have hz : (((a + ay aL (c :: t) : Nat) : Int) == (a : Int)) = false := beq_false_of_ne (by omega)
  rw [hz]; simp only [cond_false, bR hlt, hca, Kd, e48]
  have hrest : ∀ (P : Prop) [Decidable P], (P ↔ (1 < ay aL (c :: t) ∧ c = 48)) → ((bif decide P then some true else (bif big' then some true else some (v' == 9223372036854775808)) : Option Bool).bind fun (x3 : Bool) => (bif x3 then some ((0 : Int), ((a + ay aL (c :: t) : Nat) : Int), false) else some (W v', ((a + ay aL (c :: t) : Nat) : Int), true))) =
    some (match (if ay aL (c :: t) = 0 ∨ (1 < ay aL (c :: t) ∧ c = 48) ∨ 9223372036854775808 ≤ ia 0 ((c :: t).take (ay aL (c :: t))) then none else some ((ia 0 ((c :: t).take (ay aL (c :: t))) : Int), ay aL (c :: t)) : Option (Int × Nat)) with | some (y, k) => (y, ((a + k : Nat) : Int), true) | none => (0, ((a + ay aL (c :: t) : Nat) : Int), false)) := by
   intro P _ hP
   by_cases hp : P
   · rw [decide_eq_true hp, if_pos (Or.inr (Or.inl (hP.1 hp)))]; rfl
   ·
    have hp' : ¬ (1 < ay aL (c :: t) ∧ c = 48) := fun h => hp (hP.2 h)
    rw [decide_eq_false hp]
    simp only [cond_false]
    cases hbig : big' with
    | true =>
     rw [hbig] at e2
     have := of_decide_eq_true e2.symm
     rw [if_pos (Or.inr (Or.inr (Nat.le_of_lt this)))]; rfl
    | false =>
     have hv := e3 hbig
     rw [hbig] at e2
     have hlo := of_decide_eq_false e2.symm
     subst hv
     clear e1 e3
     by_cases hV : ia 0 ((c :: t).take (ay aL (c :: t))) = 9223372036854775808
     ·
      have hz : ((ia 0 ((c :: t).take (ay aL (c :: t))) : Int) == 9223372036854775808) = true := by rw [hV]; rfl
      rw [if_pos (Or.inr (Or.inr (by omega)))]
      simp only [hz, cond_true, cond_false, Kd]
     ·
      have hz : ((ia 0 ((c :: t).take (ay aL (c :: t))) : Int) == 9223372036854775808) = false := beq_false_of_ne (by omega)
      rw [if_neg (fun h => h.elim (by omega) fun h => h.elim hp' (by omega))]
      simp only [hz, cond_false, Kd]
      rw [iD (show ia 0 ((c :: t).take (ay aL (c :: t))) < 9223372036854775808 by omega)]
  by_cases h1 : 1 < ay aL (c :: t)
  ·
   have hd1 : decide ((ay aL (c :: t) : Int) > 1) = true := by simp; omega
   simp only [hd1, cond_true]
   exact hrest (c = 48) ⟨fun h => ⟨h1, h⟩, fun h => h.2⟩
  ·
   have hd1 : decide ((ay aL (c :: t) : Int) > 1) = false := by simp; omega
   simp only [hd1, cond_false]
   exact hrest False ⟨False.elim, fun h => h1 h.1⟩
theorem Ci (v : aY) : (bif (v == [97, 110, 100]) then some true else (bif (v == [111, 114]) then some true else (bif (v == [110, 111, 116]) then some true else (bif (v == [105, 110]) then some true else some (v == [116, 114, 117, 101])))) : Option Bool) = some (kj.contains v) := by
 unfold kj
 rw [List.contains_eq_any_beq]
 simp only [List.any_cons, List.any_nil, Bool.or_false]
 cases v == [97, 110, 100] <;> cases v == [111, 114] <;> cases v == [110, 111, 116] <;> cases v == [105, 110] <;> rfl
def qZ (c : UInt8) : aY → aY
 | [] => []
 | d :: _ => [c, d]
theorem FS {n : Nat} {s : aY} {a : Nat} {c : UInt8} {t : aY} (hs : s.length ≤ 1000) (hl : c :: t = s.drop a) (hn : 2000 < n) :
  ∃ x b, gh n s (a : Int) = some (match uh (c :: t) with | some (y, k) => (⟨y.k, (a : Int), y.n, y.s⟩, ((a + k : Nat) : Int), true) | none => (x, b, false)) := by
 obtain ⟨hlt, hca, ht⟩ := jW hl
 have hlen : (c :: t).length = s.length - a := by rw [hl]; simp
 have htl : t.length = s.length - (a + 1) := by rw [ht]; simp
 unfold gh
 rw [bR hlt, Kd, hca, FV, Kd, rK, Kd, uh]
 by_cases hlow : kX c = true
 ·
  rw [hlow, cond_true, if_pos rfl]
  have hf := fk gl (c :: t)
  have hloop := ml (p := gl) (s := s) (body := fun (to1 : Int) => ((bif (decide (to1 < (s.length : Int))) then ((gi s to1).bind fun c2 => (iL n (c2.toNat : Int)).bind fun x2 => bif x2 then some true else ((gi s to1).bind fun c3 => (eu n (c3.toNat : Int)).bind fun x3 => some x3)) else some false : Option Bool).bind fun (x1 : Bool) => (bif x1 then some (Sum.inl (W (to1 + 1))) else some (Sum.inr to1)))) (by omega) ?_ ?_ (c :: t) a n hl (by omega) (by omega)
  ·
   refine ⟨⟨if kj.contains ((c :: t).take (ay gl (c :: t))) then 2 else 1, (a : Int), 0, (c :: t).take (ay gl (c :: t))⟩, ((a + ay gl (c :: t) : Nat) : Int), (congrArg (fun o => Option.bind o _) hloop).trans ?_⟩
   have hg : kC s (a : Int) ((a + ay gl (c :: t) : Nat) : Int) = some ((c :: t).take (ay gl (c :: t))) := by
    rw [fM s (by omega) (by omega), hl, List.drop_take]; congr 2; omega
   have hW : W (((a + ay gl (c :: t) : Nat) : Int) - (a : Int)) = (ay gl (c :: t) : Int) := by rw [show ((a + ay gl (c :: t) : Nat) : Int) - (a : Int) = (ay gl (c :: t) : Int) by omega]; exact iD (by omega)
   simp only [Kd, hg, Ci, hW]
   by_cases h20 : ay gl (c :: t) ≤ 20
   ·
    have hd : decide ((ay gl (c :: t) : Int) ≤ 20) = true := by simp; omega
    rw [if_pos h20, hd]
    cases kj.contains ((c :: t).take (ay gl (c :: t))) <;> rfl
   ·
    have hd : decide ((ay gl (c :: t) : Int) ≤ 20) = false := by simp; omega
    rw [if_neg h20, hd]
    cases kj.contains ((c :: t).take (ay gl (c :: t))) <;> rfl
  ·
   intro i h
   have hd : decide ((i : Int) < (s.length : Int)) = true := by simpa using h
   rw [show gl s[i] = (kX s[i] || aL s[i]) from rfl]
   simp only [hd, cond_true, bR h, Kd, FV, rK]
   cases kX s[i] <;> cases aL s[i] <;> rfl
  ·
   have hd : decide ((s.length : Int) < (s.length : Int)) = false := by simp
   simp only [hd, cond_false, Kd]
 ·
  have hlow : kX c = false := by simpa using hlow
  rw [hlow, cond_false, if_neg (by simp)]
  have e45 : (((c.toNat : Nat) : Int) == 45) = decide (c = 45) := nn c 45 (by decide)
  have hx4 : (bif aL c then some true else some (((c.toNat : Nat) : Int) == 45) : Option Bool) = some (aL c || decide (c = 45)) := by rw [e45]; cases aL c <;> rfl
  rw [hx4, Kd]
  by_cases hnum : aL c = true ∨ c = 45
  ·
   have hb : (aL c || decide (c = 45)) = true := by simpa using hnum
   obtain ⟨v, b, h1⟩ := Co hs hl hnum hn
   rw [hb, cond_true, if_pos hnum, h1, Kd]
   refine ⟨⟨3, (a : Int), v, []⟩, b, ?_⟩
   cases pn (c :: t) <;> rfl
  ·
   have hb : (aL c || decide (c = 45)) = false := by simpa using hnum
   rw [hb, cond_false, if_neg hnum]
   have e34 : (((c.toNat : Nat) : Int) == 34) = decide (c = 34) := nn c 34 (by decide)
   by_cases h34 : c = 34
   ·
    rw [e34, decide_eq_true h34, cond_true, if_pos h34]
    have hf := fk ca t
    have hW1 : W ((a : Int) + 1) = ((a + 1 : Nat) : Int) := dr (by omega)
    rw [hW1]
    have hloop := ml (p := ca) (s := s) (body := fun (to4 : Int) => ((bif (decide (to4 < (s.length : Int))) then ((gi s to4).bind fun c4 => bif (decide ((c4.toNat : Int) ≥ 32)) then ((gi s to4).bind fun c5 => bif (decide ((c5.toNat : Int) ≤ 126)) then ((gi s to4).bind fun c6 => some ((c6.toNat : Int) != 34)) else some false) else some false) else some false : Option Bool).bind fun (x7 : Bool) => (bif x7 then some (Sum.inl (W (to4 + 1))) else some (Sum.inr to4)))) (by omega) ?_ ?_ t (a + 1) n ht (by omega) (by omega)
    ·
     have hW2 : W (W (((a + 1 + ay ca t : Nat) : Int) - (a : Int)) - 1) = (ay ca t : Int) := by
      rw [show ((a + 1 + ay ca t : Nat) : Int) - (a : Int) = ((1 + ay ca t : Nat) : Int) by omega, iD (by omega), show ((1 + ay ca t : Nat) : Int) - 1 = (ay ca t : Int) by omega, iD (by omega)]
     by_cases h3 : ay ca t < t.length
     ·
      have hz : (((a + 1 + ay ca t : Nat) : Int) == (s.length : Int)) = false := beq_false_of_ne (by omega)
      have hi : a + 1 + ay ca t < s.length := by omega
      have hq : t[ay ca t]? = some s[a + 1 + ay ca t] := by
       have h7 : (s.drop (a + 1))[ay ca t]? = some s[a + 1 + ay ca t] := by rw [List.getElem?_drop, List.getElem?_eq_getElem hi]
       rw [← ht] at h7; exact h7
      by_cases h2 : ay ca t ≤ 200
      ·
       have hd : decide ((ay ca t : Int) > 200) = false := by simp; omega
       have hg : kC s ((a + 1 : Nat) : Int) ((a + 1 + ay ca t : Nat) : Int) = some (t.take (ay ca t)) := by
        rw [fM s (by omega) (by omega)]
        congr 1
        have : (s.take (a + 1 + ay ca t)).drop (a + 1) = (s.drop (a + 1)).take (ay ca t) := by rw [List.drop_take]; congr 1; omega
        rw [this, ← ht]
       have hW3 : W (((a + 1 + ay ca t : Nat) : Int) + 1) = ((a + (ay ca t + 2) : Nat) : Int) := by rw [show ((a + 1 + ay ca t : Nat) : Int) + 1 = ((a + (ay ca t + 2) : Nat) : Int) by omega]; exact iD (by omega)
       have e2 : (((s[a + 1 + ay ca t].toNat : Nat) : Int) == 34) = decide (s[a + 1 + ay ca t] = 34) := nn _ 34 (by decide)
       refine ⟨⟨4, (a : Int), 0, t.take (ay ca t)⟩, ((a + (ay ca t + 2) : Nat) : Int), (congrArg (fun o => Option.bind o _) hloop).trans ?_⟩
       simp only [Kd, hz, cond_false, hW2, hd, hg, bR hi, e2, hW3, hq]
       by_cases h4 : s[a + 1 + ay ca t] = 34
       · rw [decide_eq_true h4, if_pos ⟨h2, by rw [h4]⟩]
       · rw [decide_eq_false h4, if_neg (by simp [h4])]
      ·
       have hd : decide ((ay ca t : Int) > 200) = true := by simp; omega
       refine ⟨⟨0, 0, 0, []⟩, ((a + 1 + ay ca t : Nat) : Int), (congrArg (fun o => Option.bind o _) hloop).trans ?_⟩
       rw [if_neg (by simp [h2])]
       simp only [Kd, hz, cond_false, hW2, hd, cond_true]
     ·
      have hz : (((a + 1 + ay ca t : Nat) : Int) == (s.length : Int)) = true := by simp; omega
      have hq : t[ay ca t]? = none := List.getElem?_eq_none (by omega)
      refine ⟨⟨0, 0, 0, []⟩, ((a + 1 + ay ca t : Nat) : Int), (congrArg (fun o => Option.bind o _) hloop).trans ?_⟩
      rw [if_neg (by simp [hq])]
      simp only [Kd, hz, cond_true]
    ·
     intro i h
     have hd : decide ((i : Int) < (s.length : Int)) = true := by simpa using h
     have h1 := I4 s[i] 32; have h2 := I6 s[i] 126
     simp only [hd, cond_true, bR h, Kd, show (32 : Int) = ((32 : Nat) : Int) from rfl, show (126 : Int) = ((126 : Nat) : Int) from rfl, h1, h2, AK]
     rw [show ca s[i] = (decide (32 ≤ s[i].toNat) && (decide (s[i].toNat ≤ 126) && s[i] != 34)) from rfl]
     cases decide (32 ≤ s[i].toNat) <;> cases decide (s[i].toNat ≤ 126) <;> cases (s[i] != 34) <;> rfl
    ·
     have hd : decide ((s.length : Int) < (s.length : Int)) = false := by simp
     simp only [hd, cond_false, Kd]
   ·
    rw [e34, decide_eq_false h34, cond_false, if_neg h34]
    have hW1 : W ((a : Int) + 1) = ((a + 1 : Nat) : Int) := dr (by omega)
    have hW2 : W ((a : Int) + 2) = ((a + 2 : Nat) : Int) := by rw [show (a : Int) + 2 = ((a + 2 : Nat) : Int) by omega]; exact iD (by omega)
    have hg1 : kC s (a : Int) ((a + 1 : Nat) : Int) = some [c] := by
     rw [fM s (by omega) (by omega)]
     congr 1
     have : (s.take (a + 1)).drop a = (s.drop a).take 1 := by rw [List.drop_take]; congr 1; omega
     rw [this, ← hl]; rfl
    have htwo : (bif (decide ((W ((a : Int) + 1)) < (s.length : Int))) then ((kC s (a : Int) (W ((a : Int) + 2))).bind fun s5 => some s5) else some [] : Option aY) = some (qZ c t) := by
     rw [hW1, hW2]
     cases t with
     | nil =>
      simp only [List.length_nil] at htl
      have hd : decide (((a + 1 : Nat) : Int) < (s.length : Int)) = false := by simp; omega
      rw [hd]; rfl
     | cons d t' =>
      simp only [List.length_cons] at htl
      have hd : decide (((a + 1 : Nat) : Int) < (s.length : Int)) = true := by simp; omega
      have hg : kC s (a : Int) ((a + 2 : Nat) : Int) = some [c, d] := by
       rw [fM s (by omega) (by omega)]
       congr 1
       have : (s.take (a + 2)).drop a = (s.drop a).take 2 := by rw [List.drop_take]; congr 1; omega
       rw [this, ← hl]; rfl
      simp only [hd, cond_true, hg, Kd]
      rfl
    rw [htwo, Kd]
    have hb2 : ∀ d e : UInt8, ((qZ c t) == [d, e]) = decide (c = d ∧ t.head? = some e) := by
     intro d e
     cases t with
     | nil => simp [qZ]
     | cons f t' => rw [Bool.eq_iff_iff]; simp [qZ]
    have hx10 : (bif ((qZ c t) == [60, 61]) then some true else (bif ((qZ c t) == [33, 61]) then some true else (bif ((qZ c t) == [62, 61]) then some true else some ((qZ c t) == [94, 61]))) : Option Bool) = some (decide (t.head? = some 61 ∧ (c = 60 ∨ c = 33 ∨ c = 62 ∨ c = 94))) := by
     rw [hb2, hb2, hb2, hb2]
     by_cases h : t.head? = some 61
     ·
      by_cases e1 : c = 60
      · simp [h, e1]
      by_cases e2 : c = 33
      · simp [h, e2]
      by_cases e3 : c = 62
      · simp [h, e3]
      simp [h, e1, e2, e3]
     · simp [h]
    rw [hx10, Kd]
    by_cases h5 : t.head? = some 61 ∧ (c = 60 ∨ c = 33 ∨ c = 62 ∨ c = 94)
    ·
     rw [decide_eq_true h5, if_pos h5, cond_true, hW2]
     refine ⟨⟨0, 0, 0, []⟩, 0, ?_⟩
     cases t with
     | nil => simp at h5
     | cons d t' =>
      have : d = 61 := by simpa using h5.1
      subst this; rfl
    ·
     rw [decide_eq_false h5, if_neg h5, cond_false, hW1, hg1, Kd]
     have hb1 : ∀ d : UInt8, (([c] : aY) == [d]) = decide (c = d) := by intro d; rw [Bool.eq_iff_iff]; simp
     simp only [hb1]
     refine ⟨⟨5, (a : Int), 0, [c]⟩, ((a + 1 : Nat) : Int), ?_⟩
     by_cases h6 : c = 40 ∨ c = 41 ∨ c = 44 ∨ c = 60 ∨ c = 61 ∨ c = 62
     ·
      rw [if_pos h6]
      rcases h6 with rfl | rfl | rfl | rfl | rfl | rfl <;> rfl
     ·
      rw [if_neg h6]
      have f1 : c ≠ 40 := fun h => h6 (by simp [h])
      have f2 : c ≠ 41 := fun h => h6 (by simp [h])
      have f3 : c ≠ 44 := fun h => h6 (by simp [h])
      have f4 : c ≠ 60 := fun h => h6 (by simp [h])
      have f5 : c ≠ 61 := fun h => h6 (by simp [h])
      have f6 : c ≠ 62 := fun h => h6 (by simp [h])
      simp only [decide_eq_false f1, decide_eq_false f2, decide_eq_false f3, decide_eq_false f4, decide_eq_false f5, decide_eq_false f6, cond_false]
def lA (x : ax) : aE := ⟨x.Kind, x.At, x.N, x.S⟩
theorem qm {n : Nat} {s : aY} (hs : s.length ≤ 1000) (hn : 2000 < n) : ∀ (m : Nat) (l : aY) (a : Nat) (out : List aE) (k : Nat), l.length ≤ m → l = s.drop a → a ≤ s.length → out.length + l.length ≤ 1000 → m < k →
  bm (ε := Int × (List aE)) (τ := (List aE) ⊕ ((List aE) × Int)) (fun (((at1, out1)) : Int × (List aE)) => (bif (decide (at1 < (s.length : Int))) then ((gi s at1).bind fun c1 => bif ((c1.toNat : Int) == 32) then some (Sum.inl (W (at1 + 1), out1)) else ((gh n s at1).bind fun to1 => bif (!to1.2.2) then some (Sum.inr (Sum.inr ([], 2))) else ((ap out1 [to1.1]).bind fun out4 => some (Sum.inl (to1.2.1, out4))))) else some (Sum.inr (Sum.inl out1)))) k ((a : Int), out)
  = some (match iC a l with | some L => .inl (out ++ L.map lA) | none => .inr ([], 2))
 | m, [], a, out, k, hm, hl, ha, ho, hk => by
  obtain ⟨k, rfl⟩ : ∃ j, k = j + 1 := ⟨k - 1, by omega⟩
  have : a = s.length := by have := congrArg List.length hl; simp at this; omega
  subst this
  rw [j9]
  have hd : decide ((s.length : Int) < (s.length : Int)) = false := by simp
  exact bM (by simp only [hd, cond_false, List.map_nil, List.append_nil])
 | 0, c :: t, a, out, k, hm, hl, ha, ho, hk => by simp at hm
 | m + 1, c :: t, a, out, k, hm, hl, ha, ho, hk => by
  obtain ⟨k, rfl⟩ : ∃ j, k = j + 1 := ⟨k - 1, by omega⟩
  obtain ⟨hlt, hc, ht⟩ := jW hl
  have hd : decide ((a : Int) < (s.length : Int)) = true := by simpa using hlt
  have e32 : (((c.toNat : Nat) : Int) == 32) = decide (c = 32) := nn c 32 (by decide)
  simp only [List.length_cons] at hm ho
  by_cases h32 : c = 32
  ·
   subst h32
   rw [rP]
   refine (cG (s' := (((a + 1 : Nat) : Int), out)) ?_).trans (qm hs hn m t (a + 1) out k (by omega) ht hlt (by omega) (by omega))
   simp only [hd, cond_true, bR hlt, hc, Kd, dr (show a + 1 < 9223372036854775808 by omega)]
   rfl
  ·
   obtain ⟨x, b, h1⟩ := FS (n := n) hs hl hn
   rw [decide_eq_false h32] at e32
   cases htk : uh (c :: t) with
   | none =>
    rw [htk] at h1
    rw [lB h32 htk]
    refine bM ?_
    simp only [hd, cond_true, bR hlt, hc, Kd, e32, cond_false, h1]
    rfl
   | some p =>
    obtain ⟨y, j⟩ := p
    rw [htk] at h1
    rw [lG h32 htk]
    have hj := nE htk
    simp only [List.length_cons] at hj
    have hta : t.length + 1 = s.length - a := by have := congrArg List.length hl; simpa using this
    have hap : ap out [(aE.mk y.k (a : Int) y.n y.s)] = some (out ++ [⟨y.k, (a : Int), y.n, y.s⟩]) := fX (Nat.le_trans (show out.length + 1 ≤ 1001 by omega) (by decide))
    have hdr : (c :: t).drop j = s.drop (a + j) := by rw [hl, List.drop_drop]
    refine (cG (s' := (((a + j : Nat) : Int), out ++ [⟨y.k, (a : Int), y.n, y.s⟩])) ?_).trans ((qm hs hn m ((c :: t).drop j) (a + j) _ k (by simp; omega) hdr (by omega) (by simp; omega) (by omega)).trans ?_)
    · simp only [hd, cond_true, bR hlt, hc, Kd, e32, cond_false, h1, Bool.not_true, hap]
    · cases iC (a + j) ((c :: t).drop j) <;> simp [lA]
def BG (s : aY) : List aE × Int := if 500 < s.length then ([], 5) else match iC 0 s with | some L => (L.map lA, 0) | none => ([], 2)
theorem AT {n : Nat} {s : aY} (hn : 2000 < n) : kh n s = some (BG s) := by
 unfold kh BG
 by_cases h : 500 < s.length
 ·
  have hd : decide ((s.length : Int) > 500) = true := by simp; omega
  rw [hd, if_pos h]; rfl
 ·
  have hd : decide ((s.length : Int) > 500) = false := by simp; omega
  rw [hd, if_neg h, cond_false]
  refine (congrArg (fun o => Option.bind o _) (qm (n := n) (s := s) (by omega) hn s.length s 0 [] n (Nat.le_refl _) (by simp) (Nat.zero_le _) (by simp; omega) (by omega))).trans ?_
  cases iC 0 s <;> simp [kS]
theorem JC (l : List aa) (f : aa → Option Bool) (p : aa → Bool) (hf : ∀ x ∈ l, f x = some (p x)) (hl : l.length ≤ maxLen) {n : Nat} (hn : l.length < n) : cH n l f = some (xg p l) := by
 unfold cH
 refine (congrArg (fun o => Option.bind o _) (pT (p := p) (l := l) (fun i h => ?_) ?_ hl hn)).trans ?_
 rotate_left 2
 · unfold xg; cases l.findIdx? p <;> rfl
 ·
  have h1 : decide ((i : Int) < (l.length : Int)) = true := by simpa using h
  rw [h1, bR h]
  have h2 := hf _ (List.getElem_mem h)
  cases hx : l[i] with
  | mk a b c d e =>
   rw [hx] at h2
   simp only [cond_true, Kd, h2]
   cases p (.mk a b c d e) <;> rfl
 · simp
theorem H3 (l : List aI) (f : aI → Option Bool) (p : aI → Bool) (hf : ∀ x ∈ l, f x = some (p x)) (hl : l.length ≤ maxLen) {n : Nat} (hn : l.length < n) : cz n l f = some (xg p l) := by
 unfold cz
 refine (congrArg (fun o => Option.bind o _) (pT (p := p) (l := l) (fun i h => ?_) ?_ hl hn)).trans ?_
 rotate_left 2
 · unfold xg; cases l.findIdx? p <;> rfl
 ·
  have h1 : decide ((i : Int) < (l.length : Int)) = true := by simpa using h
  rw [h1, bR h]
  simp only [cond_true, Kd, hf _ (List.getElem_mem h)]
  cases p l[i] <;> rfl
 · simp
theorem Fo (l : List aa) (f : aa → Option Bool) (p : aa → Bool) (hf : ∀ x ∈ l, f x = some (p x)) (hl : l.length ≤ maxLen) {n : Nat} (hn : l.length < n) : bv n l f = some (l.any p) := by
 unfold bv; rw [JC l f p hf hl hn, Kd, zb]
theorem IT (l : List aI) (f : aI → Option Bool) (p : aI → Bool) (hf : ∀ x ∈ l, f x = some (p x)) (hl : l.length ≤ maxLen) {n : Nat} (hn : l.length < n) : bV n l f = some (l.any p) := by
 unfold bV; rw [H3 l f p hf hl hn, Kd, zb]
theorem oZ {k : Int} {a b : aY} {v : List aI} {l : List aa} (h : bQ (.mk k a b v l)) : v.length ≤ maxLen ∧ l.length ≤ maxLen ∧ fd l := by
 simp only [bQ] at h
 exact ⟨h.2.2.2.1.1, h.2.2.2.2.1, h.2.2.2.2.2⟩
theorem kH : ∀ {l : List aa}, fd l → ∀ x ∈ l, bQ x
 | [], _, _, h => by cases h
 | y :: l, h, x, hx => by
  simp only [fd] at h
  rcases List.mem_cons.1 hx with rfl | hx
  · exact h.1
  · exact kH h.2 x hx
mutual
def aX : aa → Nat
 | .mk _ _ _ _ l => bc l + 1
def bc : List aa → Nat
 | [] => 0
 | x :: l => aX x + bc l
end
mutual
def fT : aa → Nat
 | .mk _ _ _ _ l => iw l + 1
def iw : List aa → Nat
 | [] => 0
 | x :: l => max (fT x) (iw l)
end
mutual
theorem zZ : ∀ f : aa, fT f ≤ aX f
 | .mk _ _ _ _ l => by have := kM l; simp only [fT, aX]; omega
theorem kM : ∀ l : List aa, iw l ≤ bc l
 | [] => Nat.le_refl _
 | x :: l => by have := zZ x; have := kM l; simp only [iw, bc]; omega
end
theorem nD : ∀ {l : List aa} {x : aa}, x ∈ l → aX x ≤ bc l
 | y :: l, x, h => by
  rcases List.mem_cons.1 h with rfl | h
  · simp only [bc]; omega
  · have := nD h; simp only [bc]; omega
theorem kF : ∀ (l : List aa) (k : Nat), bc (l.take k) ≤ bc l
 | [], k => by simp
 | x :: l, 0 => by simp [bc]
 | x :: l, k + 1 => by have := kF l k; simp only [List.take_succ_cons, bc]; omega
theorem jr : ∀ (l : List aa) (x : aa), bc (l ++ [x]) = bc l + aX x
 | [], x => by simp [bc]
 | y :: l, x => by rw [List.cons_append, bc, bc, jr l x]; omega
theorem jU : ∀ l : List aa, l.length ≤ bc l
 | [] => Nat.le_refl _
 | x :: l => by have := jU l; cases x; simp only [bc, aX, List.length_cons]; omega
theorem oT : ∀ (l : List aa) (x : aa), iw (l ++ [x]) = max (iw l) (fT x)
 | [], x => by simp [iw]
 | y :: l, x => by rw [List.cons_append, iw, iw, oT l x]; omega
theorem lO {α : Type} {l : List α} {k : Nat} (h : k < l.length) : l.take (k + 1) = l.take k ++ [l[k]] := by
 rw [List.take_add_one, List.getElem?_eq_getElem h]; rfl
def tz (s : aY) : Bool := decide (s.length ≤ 20) && (match uh s with | some (x, j) => x.k == 1 && j == s.length | none => false)
def oK (s : aY) : Bool := s.all ca && decide (s.length ≤ 200)
def mJ (t0 : Bool) (a : aI) : Bool := a.Name == [] && (a.Text == t0 && (bif a.Text then a.N == 0 && oK a.S else a.S == []))
def sE : List aY := [[60], [60, 61], [61], [33, 61], [62, 61], [62]]
def qO (k : Int) (nm op : aY) (vals : List aI) (l : List aa) : Bool := tz nm && (l.isEmpty && (match vals with
 | [] => false
 | v :: r => (v :: r).all (mJ v.Text) && (bif k == 4 then r.isEmpty && sE.contains op else bif k == 5 then r.isEmpty && (v.Text && op == []) else decide (r.length ≤ 19) && op == [])))
def sN (k : Int) (n : Nat) : Bool := bif k == 1 || k == 2 then decide (2 ≤ n) else bif k == 3 then n == 1 else bif k == 7 then n == 0 else false
def gL : aa → Int
 | .mk k _ _ _ _ => k
mutual
def hQ : aa → Bool
 | .mk k nm op vals l => bif k == 4 || (k == 5 || k == 6) then qO k nm op vals l else sN k l.length && (nm == [] && (op == [] && (vals.isEmpty && Bh k l)))
def Bh (k : Int) : List aa → Bool
 | [] => true
 | x :: l => (hQ x && (bif k == 3 then true else !(gL x == k))) && Bh k l
end
theorem sm (k : Int) : ∀ l, Bh k l = l.all fun x => hQ x && (bif k == 3 then true else !(gL x == k))
 | [] => rfl
 | x :: l => by rw [Bh, sm k l]; rfl
def y6 (f : aa) : Bool := decide (fT f ≤ 10) && (decide (aX f ≤ 60) && hQ f)
theorem xq {l : aY} {x : Ip} {j : Nat} (h : uh l = some (x, j)) (hk : x.k = 1) : x.s = l.take j ∧ ∃ c t, l = c :: t ∧ kX c = true := by
 cases l with
 | nil => cases h
 | cons c t =>
  rw [uh] at h
  split at h
  ·
   rename_i hc
   split at h
   ·
    simp only [Option.some.injEq, Prod.mk.injEq] at h
    obtain ⟨rfl, rfl⟩ := h
    exact ⟨rfl, c, t, rfl, hc⟩
   · cases h
  ·
   split at h
   ·
    cases hn : pn (c :: t) with
    | none => rw [hn] at h; cases h
    | some p => rw [hn] at h; simp only [Option.map_some, Option.some.injEq, Prod.mk.injEq] at h; rw [← h.1] at hk; cases hk
   ·
    split at h
    ·
     split at h
     · simp only [Option.some.injEq, Prod.mk.injEq] at h; rw [← h.1] at hk; cases hk
     · cases h
    ·
     split at h
     · simp only [Option.some.injEq, Prod.mk.injEq] at h; rw [← h.1] at hk; cases hk
     ·
      split at h
      · simp only [Option.some.injEq, Prod.mk.injEq] at h; rw [← h.1] at hk; cases hk
      · cases h
theorem qt : ∀ (m : Nat) (l : aY) (a : Nat) (L : List ax), l.length ≤ m → iC a l = some L → ∀ y ∈ L, y.Kind = 1 → ∃ c t, y.S = c :: t ∧ kX c = true
 | _, [], a, L, _, h, y, hy, _ => by rw [j9] at h; cases h; cases hy
 | 0, c :: t, a, L, hm, h, y, hy, _ => by simp at hm
 | m + 1, c :: t, a, L, hm, h, y, hy, hk => by
  simp only [List.length_cons] at hm
  by_cases hc : c = 32
  ·
   subst hc; rw [rP] at h
   exact qt m t _ _ (by omega) h y hy hk
  ·
   cases ht : uh (c :: t) with
   | none => rw [lB hc ht] at h; cases h
   | some p =>
    obtain ⟨x, j⟩ := p
    rw [lG hc ht] at h
    obtain ⟨L', h1, rfl⟩ := Option.map_eq_some_iff.1 h
    have hj := nE ht
    rcases List.mem_cons.1 hy with rfl | hy
    ·
     obtain ⟨h2, c', t', h3, h4⟩ := xq ht hk
     cases h3
     obtain ⟨k, rfl⟩ : ∃ k, j = k + 1 := ⟨j - 1, by omega⟩
     exact ⟨c, t.take k, h2, h4⟩
    · exact qt m ((c :: t).drop j) _ _ (by simp; omega) h1 y hy hk
theorem Ia {n : Nat} (s : aY) (hn : 2000 < n) : ic n s = some (tz s) := by
 unfold ic tz
 by_cases h20 : s.length ≤ 20
 ·
  have hd : decide ((s.length : Int) > 20) = false := by simp; omega
  rw [hd, cond_false, DJ hn, Kd, decide_eq_true h20, Bool.true_and]
  unfold zL
  rw [if_neg (by omega)]
  cases s with
  | nil => rw [j9]; rfl
  | cons c t =>
   by_cases hc : c = 32
   ·
    subst hc
    have htk : uh (32 :: t) = none := by rw [uh, if_neg (by decide), if_neg (by decide), if_neg (by decide), if_neg (by simp), if_neg (by decide)]
    rw [htk]
    cases ht : iC 0 (32 :: t) with
    | none => rfl
    | some L =>
     cases L with
     | nil => rfl
     | cons y r =>
      cases r with
      | cons z r =>
       have : ((((y :: z :: r).length : Nat) : Int) == 1) = false := beq_false_of_ne (by simp; omega)
       simp only [Option.isNone_none, cond_true, this, cond_false]
      | nil =>
       have h1 : (((([y] : List ax).length : Nat) : Int) == 1) = true := rfl
       have hg : gi [y] 0 = some y := rfl
       simp only [Option.isNone_none, cond_true, h1, hg, Kd]
       by_cases hk : y.Kind = 1
       ·
        obtain ⟨c, t', e1, e2⟩ := qt _ _ _ _ (Nat.le_refl _) ht y (by simp) hk
        have : (y.S == (32 :: t : aY)) = false := by
         rw [e1]
         apply beq_false_of_ne
         intro h; cases h; exact absurd e2 (by decide)
        rw [this]; cases y.Kind == 1 <;> rfl
       ·
        have : (y.Kind == 1) = false := by simpa using hk
        rw [this]; rfl
   ·
    cases htk : uh (c :: t) with
    | none => rw [lB hc htk]; rfl
    | some p =>
     obtain ⟨x, j⟩ := p
     rw [lG hc htk]
     have hj := nE htk
     simp only
     cases ht : iC (0 + j) ((c :: t).drop j) with
     | none =>
      have : j ≠ (c :: t).length := by
       rintro rfl
       rw [List.drop_length] at ht; rw [j9] at ht; cases ht
      have hb : (j == (c :: t).length) = false := by simpa using this
      rw [hb]; cases x.k == 1 <;> rfl
     | some L =>
      cases L with
      | cons z r =>
       have hne : j ≠ (c :: t).length := by
        rintro rfl
        rw [List.drop_length] at ht; rw [j9] at ht; cases ht
       have hb : (j == (c :: t).length) = false := by simpa using hne
       have : (((((⟨x.k, ((0 : Nat) : Int), x.n, x.s⟩ : ax) :: z :: r).length : Nat) : Int) == 1) = false := beq_false_of_ne (by simp; omega)
       simp only [Option.map_some, Option.isNone_none, cond_true, this, cond_false, hb, Bool.and_false]
      | nil =>
       have h1 : ((((([⟨x.k, ((0 : Nat) : Int), x.n, x.s⟩] : List ax).length : Nat) : Int)) == 1) = true := rfl
       have hg : gi ([⟨x.k, ((0 : Nat) : Int), x.n, x.s⟩] : List ax) 0 = some ⟨x.k, ((0 : Nat) : Int), x.n, x.s⟩ := rfl
       simp only [Option.map_some, Option.isNone_none, cond_true, h1, hg, Kd]
       by_cases hk : x.k = 1
       ·
        obtain ⟨e1, _⟩ := xq htk hk
        have hk' : (x.k == 1) = true := by simpa using hk
        rw [hk', e1]
        simp only [cond_true, Bool.true_and]
        congr 1
        rw [Bool.eq_iff_iff]
        simp only [beq_iff_eq]
        constructor
        · intro h; have := congrArg List.length h; rw [List.length_take] at this; omega
        · rintro rfl; exact List.take_length
       ·
        have hk' : (x.k == 1) = false := by simpa using hk
        rw [hk']; rfl
 ·
  have hd : decide ((s.length : Int) > 20) = true := by simp; omega
  rw [hd, decide_eq_false h20]; rfl
theorem Hi (n : Nat) (c : UInt8) : eU n (c.toNat : Int) = some (!ca c) := by
 have h1 : decide (((c.toNat : Nat) : Int) < 32) = !decide (32 ≤ c.toNat) := by rw [Bool.eq_iff_iff]; simp; omega
 have h2 : decide (((c.toNat : Nat) : Int) > 126) = !decide (c.toNat ≤ 126) := by rw [Bool.eq_iff_iff]; simp; omega
 have h3 := AK c
 have h4 : (((c.toNat : Nat) : Int) == 34) = !(c != 34) := by rw [← h3]; show _ = !(!_); rw [Bool.not_not]
 unfold eU ca
 rw [h1, h2, h4]
 cases decide (32 ≤ c.toNat) <;> cases decide (c.toNat ≤ 126) <;> rfl
theorem IP {n : Nat} (s : aY) (hn : 300 < n) : ir n s = some (oK s) := by
 unfold ir oK
 by_cases h : s.length ≤ 200
 ·
  have hd : decide ((s.length : Int) ≤ 200) = true := by simp; omega
  have hI : cV n s (fun x0 => eU n x0) = some (xg (fun c => !ca c) s) := by
   unfold cV
   refine (congrArg (fun o => Option.bind o _) (pT (p := fun c => !ca c) (l := s) (fun i h => ?_) ?_ (Nat.le_trans h (by decide)) (by omega))).trans ?_
   rotate_left 2
   · unfold xg; cases s.findIdx? (fun c => !ca c) <;> rfl
   ·
    have h1 : decide ((i : Int) < (s.length : Int)) = true := by simpa using h
    rw [h1, bR h]
    simp only [cond_true, Kd, Hi]
    cases ca s[i] <;> rfl
   · simp
  unfold dj
  rw [hd, cond_true, hI, Kd, zb, Kd, decide_eq_true h, Bool.and_true, List.all_eq_not_any_not]
 ·
  have hd : decide ((s.length : Int) ≤ 200) = false := by simp; omega
  rw [hd, decide_eq_false h, Bool.and_false]; rfl
theorem GT {n : Nat} (a : aI) (hn : 300 < n) : gN n a = some (mJ a.Text a) := by
 unfold gN mJ
 rw [IP _ hn]
 cases a.Text <;> cases a.Name == [] <;> cases a.N == 0 <;> simp
theorem BW (t0 : Bool) (a : aI) : mJ t0 a = (mJ a.Text a && a.Text == t0) := by
 unfold mJ
 cases a.Name == [] <;> cases a.Text <;> cases t0 <;> simp
theorem GW (n : Nat) : hY n = some sE := rfl
theorem HT {n : Nat} {k : Int} {nm op : aY} {vals : List aI} {l : List aa} (hv : vals.length ≤ maxLen) (hn2 : vals.length + 2000 < n) :
  ik n (.mk k nm op vals l) = some (qO k nm op vals l) := by
 unfold ik qO
 simp only [Ia nm (show 2000 < n by omega), Kd]
 cases tz nm with
 | false => rfl
 | true =>
  cases l with
  | cons x l =>
   have : decide ((((x :: l).length : Nat) : Int) > 0) = true := by simp
   rw [this]; rfl
  | nil =>
   cases vals with
   | nil => rfl
   | cons v r =>
    have h0 : decide (((([] : List aa).length : Nat) : Int) > 0) = false := rfl
    have h1 : ((((v :: r).length : Nat) : Int) == 0) = false := beq_false_of_ne (by simp; omega)
    have hg : gi (v :: r) 0 = some v := rfl
    have hc := IT (v :: r) (fun x0 => eW n x0 (aa.mk k nm op (v :: r) [])) (fun a => !mJ v.Text a) (fun a _ => by
     unfold eW
     rw [GT a (show 300 < n by omega), BW v.Text a]
     simp only [Kd, hg]
     cases mJ a.Text a <;> cases a.Text <;> cases v.Text <;> rfl) hv (show (v :: r).length < n by omega)
    have hall : ((v :: r).any fun a => !mJ v.Text a) = !(v :: r).all (mJ v.Text) := by rw [List.all_eq_not_any_not, Bool.not_not]
    simp only [h0, h1, cond_false, hc, hall, Kd, Bool.not_true, Bool.true_and, List.isEmpty_nil]
    cases (v :: r).all (mJ v.Text) with
    | false => rfl
    | true =>
     have e1 : ((((v :: r).length : Nat) : Int) == 1) = r.isEmpty := by cases r with
      | nil => rfl
      | cons w r => exact beq_false_of_ne (by simp; omega)
     have e20 : decide ((((v :: r).length : Nat) : Int) ≤ 20) = decide (r.length ≤ 19) := by rw [Bool.eq_iff_iff]; simp; omega
     simp only [e1, e20, hg, Kd, GW, Ho (show sE.length ≤ 1000000 by decide) (show sE.length < n by show 6 < n; omega), Bool.not_true, cond_false, Bool.true_and]
     cases k == 4 <;> cases k == 5 <;> cases r.isEmpty <;> cases v.Text <;> cases decide (r.length ≤ 19) <;> rfl
theorem xN {α : Type} (l : List α) : (((l.length : Nat) : Int) == 0) = l.isEmpty := by
 cases l with
 | nil => rfl
 | cons x l => exact beq_false_of_ne (by simp; omega)
theorem As {l : Nat} : decide ((l : Int) ≥ 2) = decide (2 ≤ l) := by rw [Bool.eq_iff_iff]; simp; omega
theorem CH (a b : Nat) : (((a : Nat) : Int) == (b : Int)) = (a == b) := by rw [Bool.eq_iff_iff]; simp; omega
theorem Jh {n : Nat} {k : Int} {nm op : aY} {vals : List aI} {l : List aa} (hv : vals.length ≤ maxLen) (hl : l.length ≤ maxLen) (hn2 : vals.length + l.length + 2000 < n) :
  jf n (.mk k nm op vals l) = some (bif k == 4 || (k == 5 || k == 6) then qO k nm op vals l else sN k l.length && (nm == [] && (op == [] && (vals.isEmpty && (bif k == 3 then true else !(l.any fun x => gL x == k)))))) := by
 unfold jf sN
 have hc := Fo l (fun x0 => gF n x0 (aa.mk k nm op vals l)) (fun x => gL x == k) (fun x _ => by cases x; rfl) hl (show l.length < n by omega)
 have e1 : (((l.length : Nat) : Int) == 1) = (l.length == 1) := CH _ 1
 have e0 : (((l.length : Nat) : Int) == 0) = (l.length == 0) := CH _ 0
 simp only [hc, HT hv (show vals.length + 2000 < n by omega), Kd, xN vals, As, e1, e0]
 by_cases h1 : k = 1
 · subst h1; cases nm == [] <;> cases op == [] <;> cases vals.isEmpty <;> cases decide (2 ≤ l.length) <;> simp
 by_cases h2 : k = 2
 · subst h2; cases nm == [] <;> cases op == [] <;> cases vals.isEmpty <;> cases decide (2 ≤ l.length) <;> simp
 by_cases h3 : k = 3
 · subst h3; cases nm == [] <;> cases op == [] <;> cases vals.isEmpty <;> cases l.length == 1 <;> simp
 by_cases h7 : k = 7
 ·
  subst h7
  cases nm == [] <;> cases op == [] <;> cases vals.isEmpty <;> cases hz : l.length == 0 <;> simp
  have : l = [] := List.length_eq_zero_iff.1 (by simpa using hz)
  rw [this]; simp
 have b1 : (k == 1) = false := by simpa using h1
 have b2 : (k == 2) = false := by simpa using h2
 have b3 : (k == 3) = false := by simpa using h3
 have b7 : (k == 7) = false := by simpa using h7
 rw [b1, b2, b3, b7]
 cases k == 4 <;> cases k == 5 <;> cases k == 6 <;> cases nm == [] <;> cases op == [] <;> cases vals.isEmpty <;> rfl
theorem F0 : ∀ f : aa, bQ f → Ev fun n => ey n f = some (hQ f)
 | .mk k nm op vals l, hf => by
  obtain ⟨h1, h2, h3⟩ := oZ hf
  have ih : Ev fun n => ∀ x ∈ l, ey n x = some (hQ x) := Ev.all fun x hx => F0 x (kH h3 x hx)
  refine Ev.succ (Ev.succ ((ih.big (vals.length + l.length + 2001)).mono fun n hh => ?_))
  obtain ⟨hn, ih⟩ := hh
  have e1 : ∀ x ∈ l, eX (n + 1) x = some (!hQ x) := fun x hx => by
   have := ih x hx
   cases x; rw [eX]; simp only [this, Kd]
  rw [ey, hQ]
  simp only [Jh h1 h2 (show vals.length + l.length + 2000 < n + 1 by omega), Kd, Fo l _ (fun x => !hQ x) e1 h2 (show l.length < n + 1 by omega)]
  have hall : (!l.any fun x => !hQ x) = l.all hQ := by rw [List.all_eq_not_any_not]
  rw [hall]
  cases hk : (k == 4 || (k == 5 || k == 6)) with
  | true =>
   simp only [cond_true]
   cases hL : qO k nm op vals l with
   | false => rfl
   | true =>
    have : l = [] := by
     unfold qO at hL
     cases l with
     | nil => rfl
     | cons x l => simp at hL
    rw [this]; rfl
  | false =>
   simp only [cond_false]
   rw [sm]
   have hsplit : (l.all fun x => hQ x && (bif k == 3 then true else !(gL x == k))) = ((bif k == 3 then true else !(l.any fun x => gL x == k)) && l.all hQ) := by
    cases k == 3 with
    | true => simp
    | false =>
     simp only [cond_false]
     rw [Bool.eq_iff_iff]
     simp only [List.all_eq_true, Bool.and_eq_true, Bool.not_eq_true', List.any_eq_false]
     exact ⟨fun h => ⟨fun x hx => by have := (h x hx).2; simpa using this, fun x hx => (h x hx).1⟩, fun h x hx => ⟨h.2 x hx, by have := h.1 x hx; simpa using this⟩⟩
   rw [hsplit]
   cases sN k l.length <;> cases nm == [] <;> cases op == [] <;> cases vals.isEmpty <;> cases (bif k == 3 then true else !(l.any fun x => gL x == k)) <;> rfl
theorem FX : ∀ f : aa, bQ f → aX f ≤ 4611686018427387904 → Ev fun n => eo n f = some ((fT f : Int), (aX f : Int))
 | .mk k nm op vals l, hf, hN => by
  obtain ⟨h1, h2, h3⟩ := oZ hf
  have hNl : bc l + 1 ≤ 4611686018427387904 := by simpa only [aX] using hN
  have ih : Ev fun n => ∀ x ∈ l, eo n x = some ((fT x : Int), (aX x : Int)) := Ev.all fun x hx => FX x (kH h3 x hx) (by have := nD hx; omega)
  refine Ev.succ ((ih.big (l.length + 1)).mono fun n hh => ?_)
  obtain ⟨hn, ih⟩ := hh
  rw [eo, fT, aX]
  have hd := kM l
  refine (congrArg (fun o => Option.bind o _) (db (fun i => (((iw (l.take i) : Nat) : Int), ((bc (l.take i) + 1 : Nat) : Int), (i : Int))) l.length (e := ((iw l : Int), ((bc l + 1 : Nat) : Int))) (fun i hi => ?_) ?_ n (by omega))).trans ?_
  ·
   have hde : decide ((i : Int) < (l.length : Int)) = true := by simpa using hi
   have h5 := ih _ (List.getElem_mem hi)
   have hsn := lO hi
   have hnt := kF l (i + 1)
   rw [hsn, jr] at hnt
   simp only [hde, cond_true, bR hi, Kd]
   rw [hsn, oT, jr]
   cases hx : l[i] with
   | mk a b c d e =>
    rw [hx] at h5 hnt
    have hmax : (if ((fT (.mk a b c d e) : Nat) : Int) > ((iw (l.take i) : Nat) : Int) then ((fT (.mk a b c d e) : Nat) : Int) else ((iw (l.take i) : Nat) : Int)) = ((max (iw (l.take i)) (fT (.mk a b c d e)) : Nat) : Int) := by
     split <;> omega
    have hW : W (((bc (l.take i) + 1 : Nat) : Int) + ((aX (.mk a b c d e) : Nat) : Int)) = ((bc (l.take i) + aX (.mk a b c d e) + 1 : Nat) : Int) := by
     rw [show ((bc (l.take i) + 1 : Nat) : Int) + ((aX (.mk a b c d e) : Nat) : Int) = ((bc (l.take i) + aX (.mk a b c d e) + 1 : Nat) : Int) by omega]; exact iD (by omega)
    simp only [h5, Kd, hmax, hW, dr (show i + 1 < 9223372036854775808 by have := li h2; omega)]
  ·
   have hde : decide ((l.length : Int) < (l.length : Int)) = false := by simp
   simp only [hde, cond_false, List.take_length]
  ·
   simp only [Kd]
   rw [dr (by omega)]
theorem Jq {f : aa} (hf : bQ f) (hN : aX f ≤ 4611686018427387904) : Ev fun n => jw n f = some (y6 f) := by
 refine (F0 f hf).mono2 (FX f hf hN) fun n e1 e2 => ?_
 unfold jw y6
 have d1 : decide (((fT f : Nat) : Int) ≤ 10) = decide (fT f ≤ 10) := by rw [Bool.eq_iff_iff]; simp; omega
 have d2 : decide (((aX f : Nat) : Int) ≤ 60) = decide (aX f ≤ 60) := by rw [Bool.eq_iff_iff]; simp; omega
 cases f
 simp only [e1, e2, Kd, d1, d2]
 cases decide (fT _ ≤ 10) <;> cases decide (aX _ ≤ 60) <;> rfl
def J1 (a b : aI) : Bool := (a.Name == b.Name) && ((a.Text == b.Text) && ((a.N == b.N) && ((a.S == b.S) && true)))
def IA : List aI → List aI → Bool
 | [], [] => true
 | a :: l, b :: m => J1 a b && IA l m
 | _, _ => false
mutual
def Kb : aa → aa → Bool
 | .mk k a b v l, .mk k2 a2 b2 v2 l2 => k == k2 && (a == a2 && (b == b2 && (IA v v2 && w4 l l2)))
def w4 : List aa → List aa → Bool
 | [], [] => true
 | x :: l, y :: m => Kb x y && w4 l m
 | [], _ :: _ => false
 | _ :: _, [] => false
end
abbrev TL := List ax
def IB (s : aY) (t : ax) : Bool := t.S == s && (t.Kind == 2 || t.Kind == 5)
def tk (s : aY) : TL → Option TL
 | [] => none
 | t :: r => if IB s t then some r else none
def kA (ks : List Int) : TL → Option (ax × TL)
 | [] => none
 | t :: r => if ks.contains t.Kind then some (t, r) else none
def eM (t : ax) : aI := bif t.Kind == 4 then ⟨[], true, 0, t.S⟩ else ⟨[], false, t.N, []⟩
def hT : List aI → Bool
 | [] => false
 | a :: _ => a.Text
def pV : Nat → List aI → TL → Option (List aI × TL)
 | 0, _, _ => none
 | m + 1, l, L => match tk [44] L with
  | none => some (l, L)
  | some r => match kA [3, 4] r with
   | none => none
   | some (t, r2) => if (eM t).Text == hT l then pV m (l ++ [eM t]) r2 else none
def tY (L : TL) : Option (aa × TL) := match kA [1] L with
 | none => none
 | some (t, r) => match tk [105, 110] r with
  | some r1 => match tk [40] r1 with
   | none => none
   | some r2 => match kA [3, 4] r2 with
    | none => none
    | some (v, r3) => match pV (r3.length + 1) [eM v] r3 with
     | none => none
     | some (vs, r4) => match tk [41] r4 with
      | none => none
      | some r5 => some (.mk 6 t.S [] vs [], r5)
  | none => match tk [94, 61] r with
   | some r1 => match kA [4] r1 with
    | none => none
    | some (v, r2) => some (.mk 5 t.S [] [eM v] [], r2)
   | none => match kA [5] r with
    | none => none
    | some (o, r1) => if sE.contains o.S then match kA [3, 4] r1 with
      | none => none
      | some (v, r2) => some (.mk 4 t.S o.S [eM v] [], r2)
     else none
def jn (p : TL → Option (aa × TL)) (w : aY) : Nat → TL → Option (List aa × TL)
 | 0, _ => none
 | m + 1, L => match tk w L with
  | none => some ([], L)
  | some r => match p r with
   | none => none
   | some (f, r1) => match jn p w m r1 with
    | none => none
    | some (l, r2) => some (f :: l, r2)
def v8 : aa → List aa
 | .mk _ _ _ _ l => l
def dD (k : Int) (l : List aa) : List aa := l.flatMap fun x => bif gL x == k then v8 x else [x]
def DN (k : Int) (f : aa) (l : List aa) : aa := if l = [] then f else .mk k [] [] [] (dD k (f :: l))
def nl (p : TL → Option (aa × TL)) (k : Int) (w : aY) (m : Nat) (L : TL) : Option (aa × TL) := match p L with
 | none => none
 | some (f, r) => match jn p w m r with
  | none => none
  | some (l, r1) => some (DN k f l, r1)
def lF : Nat → TL → Option (aa × TL)
 | 0, _ => none
 | k + 1, L => match tk [110, 111, 116] L with
  | some r => match lF k r with
   | none => none
   | some (f, r1) => some (.mk 3 [] [] [] [f], r1)
  | none => match tk [40] L with
   | some r => match nl (nl (lF k) 1 [97, 110, 100] k) 2 [111, 114] k r with
    | none => none
    | some (f, r1) => match tk [41] r1 with
     | none => none
     | some r2 => some (f, r2)
   | none => match tk [116, 114, 117, 101] L with
    | some r => some (.mk 7 [] [] [] [], r)
    | none => tY L
theorem D8 {n : Nat} {l : List Int} {v : Int} (hl : l.length ≤ 1000000) (hn : l.length < n) : dA n l v = some (l.contains v) := by
 unfold dA fN
 have hany : l.contains v = l.any fun x => v == x := by rw [List.contains_eq_any_beq]
 rw [hany, tm]
 refine (congrArg (fun o => Option.bind (Option.bind o _) _) (pT (l := l) (p := fun x => v == x) (fun i h => ?_) ?_ (Nat.le_trans hl (by decide)) hn)).trans ?_
 ·
  have hd : decide ((i : Int) < (l.length : Int)) = true := by simpa using h
  simp only [hd, cond_true, bR h, Kd]
  cases v == l[i] <;> rfl
 · simp
 ·
  cases l.findIdx? (fun x => v == x) with
  | none => rfl
  | some i => simp only [Kd, kS]; rfl
theorem Em (n : Nat) (t : ax) (r : TL) : cb n ⟨t :: r, false⟩ = some (t, ⟨t :: r, false⟩) := by
 unfold cb
 have : (((t :: r).length : Int) == 0) = false := beq_false_of_ne (by simp; omega)
 simp only [cond_false, this, Kd]
 rfl
theorem Cg (n : Nat) : cb n ⟨[], false⟩ = some (⟨0, 0, 0, []⟩, ⟨[], false⟩) := rfl
theorem Db (n : Nat) (L : TL) : cb n ⟨L, true⟩ = some (⟨0, 0, 0, []⟩, ⟨L, true⟩) := rfl
theorem ID {α : Type} (t : α) (r : List α) : kC (t :: r) 1 ((t :: r).length : Int) = some r := by
 have := lI (t :: r) (i := 1) (by simp)
 simpa using this
theorem jF (n : Nat) (L : TL) (s : aY) : aN n ⟨L, false⟩ s = some (match tk s L with | some r => (true, ⟨r, false⟩) | none => (false, ⟨L, false⟩)) := by
 unfold aN
 cases L with
 | nil =>
  rw [Cg, Kd, tk]
  cases ([] : aY) == s <;> rfl
 | cons t r =>
  rw [Em, Kd, tk]
  have : (bif (!(t.S == s)) then some true else (bif (t.Kind != 2) then some (t.Kind != 5) else some false) : Option Bool) = some (!IB s t) := by
   unfold IB
   have e2 : (t.Kind != 2) = !(t.Kind == 2) := rfl
   have e5 : (t.Kind != 5) = !(t.Kind == 5) := rfl
   rw [e2, e5]
   cases t.S == s <;> cases t.Kind == 2 <;> cases t.Kind == 5 <;> rfl
  simp only [this, Kd]
  cases IB s t with
  | true => simp only [Bool.not_true, cond_false, ID, Kd, if_true]
  | false => rfl
theorem ja (n : Nat) (L : TL) (s : aY) : aN n ⟨L, true⟩ s = some (false, ⟨L, true⟩) := by
 unfold aN
 rw [Db, Kd]
 cases ([] : aY) == s <;> rfl
theorem DG (n : Nat) (L : TL) (ks : List Int) (h0 : ks.contains 0 = false) (hk : ks.length ≤ 100) (hn : 100 < n) : bD n ⟨L, false⟩ ks = some (match kA ks L with | some (t, r) => (t, ⟨r, false⟩) | none => (⟨0, 0, 0, []⟩, ⟨L, true⟩)) := by
 unfold bD
 cases L with
 | nil => rw [Cg, Kd, D8 (by omega) (by omega), Kd, h0, kA]; rfl
 | cons t r =>
  rw [Em, Kd, D8 (by omega) (by omega), Kd, kA]
  cases ks.contains t.Kind with
  | true => simp only [Bool.not_true, cond_false, ID, Kd, if_true]
  | false => rfl
theorem Dg (n : Nat) (L : TL) (ks : List Int) (h0 : ks.contains 0 = false) (hk : ks.length ≤ 100) (hn : 100 < n) : bD n ⟨L, true⟩ ks = some (⟨0, 0, 0, []⟩, ⟨L, true⟩) := by
 unfold bD
 rw [Db, Kd, D8 (by omega) (by omega), Kd, h0]; rfl
theorem xJ (n : Nat) (L : TL) (ks : List Int) (h0 : ks.contains 0 = false) (hk : ks.length ≤ 100) (hn : 100 < n) : br n ⟨L, false⟩ ks = some (match kA ks L with | some (t, r) => (eM t, ⟨r, false⟩) | none => (⟨[], false, 0, []⟩, ⟨L, true⟩)) := by
 unfold br
 rw [DG n L ks h0 hk hn, Kd]
 cases kA ks L with
 | none => rfl
 | some p => obtain ⟨t, r⟩ := p; unfold eM; cases h : t.Kind == 4 <;> simp [h]
theorem Bp (n : Nat) (L : TL) (ks : List Int) (h0 : ks.contains 0 = false) (hk : ks.length ≤ 100) (hn : 100 < n) : br n ⟨L, true⟩ ks = some (⟨[], false, 0, []⟩, ⟨L, true⟩) := by
 unfold br
 rw [Dg n L ks h0 hk hn, Kd]; rfl
theorem pE (n : Nat) (L : TL) (b : Bool) : bp n ⟨L, false⟩ b = some ⟨L, !b⟩ := rfl
theorem nx (n : Nat) (L : TL) (b : Bool) : bp n ⟨L, true⟩ b = some ⟨L, true⟩ := rfl
theorem gT {s : aY} {L r : TL} (h : tk s L = some r) : L.length = r.length + 1 := by
 cases L with
 | nil => cases h
 | cons t l => rw [tk] at h; split at h <;> cases h; rfl
theorem kP {ks : List Int} {L r : TL} {t : ax} (h : kA ks L = some (t, r)) : L.length = r.length + 1 := by
 cases L with
 | nil => cases h
 | cons t l => rw [kA] at h; split at h <;> cases h; rfl
def RC (L : TL) (o : Option (aa × TL)) (res : aa × aj) : Prop :=
 aX res.1 + 2 * res.2.L.length ≤ 2 * L.length + 1 ∧ match o with | some (g, r) => res = (g, ⟨r, false⟩) | none => res.2.Bad = true
def pM (n : Nat) (p : Bool × TL × Bool × List aI) : Option ((Bool × TL × Bool × List aI) ⊕ (TL × Bool × List aI)) :=
 match p with
 | (more1, p2, p3, l1) => bif more1 then ((br n (aj.mk p2 p3) [3, 4]).bind fun x5 => (ap l1 [x5.1]).bind fun l4 => (gi l4 0).bind fun x7 => (bp n x5.2 (x5.1.Text == x7.Text)).bind fun x8 => (aN n x8 [44]).bind fun more3 => some (Sum.inl (more3.1, more3.2.L, more3.2.Bad, l4))) else some (Sum.inr (p2, p3, l1))
def I0 (m : Nat) (l : List aI) (L : TL) : Option (List aI × TL) := match kA [3, 4] L with
 | none => none
 | some (t, r) => if (eM t).Text == hT (l ++ [eM t]) then pV m (l ++ [eM t]) r else none
theorem CY {l : List aI} (h : l ≠ []) : ∃ a, gi l 0 = some a ∧ a.Text = hT l := by
 cases l with
 | nil => exact absurd rfl h
 | cons a l => exact ⟨a, rfl, rfl⟩
theorem Ek {l : List aI} (h : l ≠ []) (m : List aI) : hT (l ++ m) = hT l := by
 cases l with
 | nil => exact absurd rfl h
 | cons a l => rfl
theorem nK (n k : Nat) (L : TL) (b : Bool) (l : List aI) : bm (pM n) (k + 1) (false, L, b, l) = some (L, b, l) := bM rfl
theorem Hm {n k : Nat} (L : TL) (l : List aI) (hn : 100 < n) (hl : l.length ≤ 2000) : ∃ l', bm (pM n) (k + 2) (true, L, true, l) = some (L, true, l') := by
 obtain ⟨a, ha, -⟩ := CY (l := l ++ [⟨[], false, 0, []⟩]) (by simp)
 refine ⟨l ++ [⟨[], false, 0, []⟩], (cG (s' := (false, L, true, l ++ [⟨[], false, 0, []⟩])) ?_).trans (nK n k L true _)⟩
 simp only [pM, cond_true, Bp n L [3, 4] rfl (by decide) hn, Kd, fX (show l.length + [(⟨[], false, 0, []⟩ : aI)].length ≤ vW from Nat.le_trans (show l.length + 1 ≤ 2001 by omega) (by decide)), ha, nx, ja]
theorem yB {n : Nat} (hn : 100 < n) : ∀ (m : Nat) (L : TL) (l : List aI) (k : Nat), L.length < m → l.length + L.length ≤ 1000 → m + 3 < k →
  ∃ (l' : List aI) (p' : aj), bm (pM n) k (true, L, false, l) = some (p'.L, p'.Bad, l') ∧ p'.L.length ≤ L.length ∧ match I0 m l L with | some (vs, r) => l' = vs ∧ p' = ⟨r, false⟩ | none => p'.Bad = true
 | 0, L, l, k, h, _, _ => by omega
 | m + 1, L, l, k, h, hc, hk => by
  obtain ⟨k, rfl⟩ : ∃ j, k = j + 2 := ⟨k - 2, by omega⟩
  have hap : ∀ v : aI, ap l [v] = some (l ++ [v]) := fun v => fX (Nat.le_trans (show l.length + 1 ≤ 2001 by omega) (by decide))
  unfold I0
  cases ht : kA [3, 4] L with
  | none =>
   obtain ⟨a, ha, -⟩ := CY (l := l ++ [⟨[], false, 0, []⟩]) (by simp)
   refine ⟨l ++ [⟨[], false, 0, []⟩], ⟨L, true⟩, (cG (s' := (false, L, true, l ++ [⟨[], false, 0, []⟩])) ?_).trans (nK n k L true _), Nat.le_refl _, rfl⟩
   simp only [pM, cond_true, xJ n L [3, 4] rfl (by decide) hn, ht, Kd, hap, ha, nx, ja]
  | some q =>
   obtain ⟨t, r⟩ := q
   have hr := kP ht
   obtain ⟨a, ha, ha2⟩ := CY (l := l ++ [eM t]) (by simp)
   cases he : (eM t).Text == hT (l ++ [eM t]) with
   | false =>
    refine ⟨l ++ [eM t], ⟨r, true⟩, (cG (s' := (false, r, true, l ++ [eM t])) ?_).trans (nK n k r true _), by show r.length ≤ _; omega, by simp [he]⟩
    simp only [pM, cond_true, xJ n L [3, 4] rfl (by decide) hn, ht, Kd, hap, ha, ha2, he, pE, Bool.not_false, ja]
   | true =>
    have hstep : pM n (true, L, false, l) = some (.inl (match tk [44] r with | some r2 => (true, r2, false, l ++ [eM t]) | none => (false, r, false, l ++ [eM t]))) := by
     simp only [pM, cond_true, xJ n L [3, 4] rfl (by decide) hn, ht, Kd, hap, ha, ha2, he, pE, Bool.not_true, jF]
     cases tk [44] r <;> rfl
    simp only [he, if_true, pV]
    cases hc2 : tk [44] r with
    | none =>
     rw [hc2] at hstep
     exact ⟨l ++ [eM t], ⟨r, false⟩, (cG hstep).trans (nK n k r false _), by show r.length ≤ _; omega, by simp⟩
    | some r2 =>
     rw [hc2] at hstep
     have hr2 := gT hc2
     obtain ⟨l', p', e1, e2, e3⟩ := yB hn m r2 (l ++ [eM t]) (k + 1) (by omega) (by simp; omega) (by omega)
     refine ⟨l', p', (cG hstep).trans e1, by omega, ?_⟩
     simp only
     unfold I0 at e3
     cases h5 : kA [3, 4] r2 with
     | none => rw [h5] at e3; exact e3
     | some q =>
      obtain ⟨t2, r3⟩ := q
      rw [h5] at e3
      simp only [Ek (show l ++ [eM t] ≠ [] by simp)] at e3
      exact e3
theorem AZ : ∀ (m : Nat) (l : List aI) (L : TL) (j : Nat), L.length < m → m ≤ j → pV j l L = pV m l L
 | 0, l, L, j, h, _ => by omega
 | m + 1, l, L, j, h, hj => by
  obtain ⟨j, rfl⟩ : ∃ i, j = i + 1 := ⟨j - 1, by omega⟩
  rw [pV, pV]
  cases h1 : tk [44] L with
  | none => rfl
  | some r =>
   have := gT h1
   simp only
   cases h2 : kA [3, 4] r with
   | none => rfl
   | some q =>
    obtain ⟨t, r2⟩ := q
    have := kP h2
    simp only [AZ m (l ++ [eM t]) r2 j (by omega) (by omega)]
def Gc (fu : Nat) (p1 : aj) : Option (aa × aj) :=
 (bD fu p1 [1]).bind fun x1 => (aN fu x1.2 [105, 110]).bind fun x2 => bif x2.1 then ((aN fu x2.2 [40]).bind fun x3 => (bp fu x3.2 x3.1).bind fun x4 => (bm (pM fu) fu (true, x4.L, x4.Bad, [])).bind fun (((p6, p7, l3)) : (List ax) × Bool × (List aI)) => ((aN fu (aj.mk p6 p7) [41]).bind fun x9 => (bp fu x9.2 x9.1).bind fun x10 => some ((aa.mk 6 x1.1.S [] l3 []), x10))) else ((aN fu x2.2 [94, 61]).bind fun x11 => bif x11.1 then ((br fu x11.2 [4]).bind fun x12 => some ((aa.mk 5 x1.1.S [] [x12.1] []), x12.2)) else ((bD fu x11.2 [5]).bind fun x13 => (hY fu ).bind fun x16 => (bC fu x16 x13.1.S).bind fun x17 => (bp fu x13.2 x17).bind fun x18 => (br fu x18 [3, 4]).bind fun x19 => some ((aa.mk 4 x1.1.S x13.1.S [x19.1] []), x19.2)))
theorem CO (n : Nat) (p : aj) : dP n p = Gc n p := rfl
theorem jL {L : TL} {k : Int} {a b : aY} {v : List aI} {p : aj} (h : p.L.length ≤ L.length) (hb : p.Bad = true) : RC L none (.mk k a b v [], p) := ⟨by simp only [aX, bc]; omega, hb⟩
theorem pI {L r : TL} {k : Int} {a b : aY} {v : List aI} (h : r.length ≤ L.length) : RC L (some (.mk k a b v [], r)) (.mk k a b v [], ⟨r, false⟩) := ⟨by simp only [aX, bc]; omega, rfl⟩
theorem Hg {n : Nat} {L : TL} (hn : 3000 < n) (hL : L.length ≤ 900) : ∃ res, dP n ⟨L, false⟩ = some res ∧ RC L (tY L) res := by
 rw [CO]
 unfold Gc tY
 have hops : ∀ s, bC n sE s = some (sE.contains s) := fun s => Ho (by decide) (show 6 < n by omega)
 rw [DG n L [1] rfl (by decide) (by omega), Kd]
 cases h1 : kA [1] L with
 | none =>
  simp only [ja, Kd, cond_false, Dg n L [5] rfl (by decide) (show 100 < n by omega), GW, hops, nx, Bp n L [3, 4] rfl (by decide) (show 100 < n by omega)]
  exact ⟨_, rfl, jL (Nat.le_refl _) rfl⟩
 | some q =>
  obtain ⟨t, r⟩ := q
  have hr := kP h1
  simp only [jF, Kd]
  cases h2 : tk [105, 110] r with
  | some r1 =>
   have hr1 := gT h2
   simp only [cond_true, jF, Kd]
   cases h3 : tk [40] r1 with
   | none =>
    obtain ⟨l', e⟩ := Hm (n := n) (k := n - 2) r1 [] (by omega) (by simp)
    rw [show n - 2 + 2 = n by omega] at e
    simp only [pE, Bool.not_false, Kd, e, ja, nx]
    exact ⟨_, rfl, jL (by show r1.length ≤ _; omega) rfl⟩
   | some r2 =>
    have hr2 := gT h3
    obtain ⟨l', p', e1, e2, e3⟩ := yB (n := n) (by omega) (r2.length + 1) r2 [] n (by omega) (by simp; omega) (by omega)
    simp only [pE, Bool.not_true, Kd, e1]
    unfold I0 at e3
    cases h4 : kA [3, 4] r2 with
    | none =>
     rw [h4] at e3
     obtain ⟨pl, pb⟩ := p'
     obtain rfl : pb = true := e3
     simp only [ja, nx, Kd]
     exact ⟨_, rfl, jL (by show pl.length ≤ _; have : pl.length ≤ _ := e2; omega) rfl⟩
    | some q =>
     obtain ⟨v, r3⟩ := q
     have hr3 := kP h4
     rw [h4] at e3
     have hh : ((eM v).Text == hT [eM v]) = true := by simp [hT]
     simp only [List.nil_append, hh, if_true] at e3
     rw [AZ (r3.length + 1) [eM v] r3 (r2.length + 1) (by omega) (by omega)] at e3
     cases h5 : pV (r3.length + 1) [eM v] r3 with
     | none =>
      rw [h5] at e3
      obtain ⟨pl, pb⟩ := p'
      obtain rfl : pb = true := e3
      simp only [ja, nx, Kd, h5]
      exact ⟨_, rfl, jL (by show pl.length ≤ _; have : pl.length ≤ _ := e2; omega) rfl⟩
     | some q =>
      obtain ⟨vs, r4⟩ := q
      rw [h5] at e3
      obtain ⟨rfl, rfl⟩ := e3
      have e2 : r4.length ≤ r2.length := e2
      simp only [jF, Kd, h5]
      cases h6 : tk [41] r4 with
      | none =>
       simp only [pE, Kd]
       exact ⟨_, rfl, jL (by show r4.length ≤ _; omega) rfl⟩
      | some r5 =>
       have := gT h6
       simp only [pE, Kd]
       exact ⟨_, rfl, pI (by omega)⟩
  | none =>
   simp only [cond_false, jF, Kd]
   cases h3 : tk [94, 61] r with
   | some r1 =>
    have hr1 := gT h3
    simp only [cond_true, xJ n r1 [4] rfl (by decide) (show 100 < n by omega), Kd]
    cases h4 : kA [4] r1 with
    | none => exact ⟨_, rfl, jL (by show r1.length ≤ _; omega) rfl⟩
    | some q =>
     obtain ⟨v, r2⟩ := q
     have := kP h4
     exact ⟨_, rfl, pI (by omega)⟩
   | none =>
    simp only [cond_false, DG n r [5] rfl (by decide) (show 100 < n by omega), Kd, GW, hops]
    cases h4 : kA [5] r with
    | none =>
     simp only [nx, Bp n r [3, 4] rfl (by decide) (show 100 < n by omega), Kd]
     exact ⟨_, rfl, jL (by show r.length ≤ _; omega) rfl⟩
    | some q =>
     obtain ⟨o, r1⟩ := q
     have hr1 := kP h4
     simp only [pE, Kd]
     cases h5 : sE.contains o.S with
     | false =>
      simp only [Bool.not_false, Bp n r1 [3, 4] rfl (by decide) (show 100 < n by omega), Kd]
      exact ⟨_, rfl, jL (by show r1.length ≤ _; omega) rfl⟩
     | true =>
      simp only [Bool.not_true, xJ n r1 [3, 4] rfl (by decide) (show 100 < n by omega), Kd, if_true]
      cases h6 : kA [3, 4] r1 with
      | none => exact ⟨_, rfl, jL (by show r1.length ≤ _; omega) rfl⟩
      | some q =>
       obtain ⟨v, r2⟩ := q
       have := kP h6
       exact ⟨_, rfl, pI (by omega)⟩
theorem tv (k : Int) (l : List aa) (x : aa) : dD k (l ++ [x]) = dD k l ++ (bif gL x == k then v8 x else [x]) := by simp [dD]
theorem iZ : ∀ a b : List aa, bc (a ++ b) = bc a + bc b
 | [], b => by simp [bc]
 | x :: a, b => by rw [List.cons_append, bc, bc, iZ a b]; omega
theorem jp (k : Int) : ∀ l, bc (dD k l) ≤ bc l
 | [] => Nat.le_refl _
 | x :: l => by
  have h := jp k l
  have : dD k (x :: l) = (bif gL x == k then v8 x else [x]) ++ dD k l := by simp [dD]
  rw [this, iZ, bc]
  cases gL x == k with
  | true => cases x; simp only [cond_true, v8, aX]; omega
  | false => simp only [cond_false, bc]; omega
def pK (n : Nat) (part : aj → Option (aa × aj)) (word1 : aY) (s : TL × Bool × List aa) : Option ((TL × Bool × List aa) ⊕ (TL × Bool × List aa)) := match s with
 | (p2, p3, l2) => (aN n (aj.mk p2 p3) word1).bind fun x5 => bif x5.1 then ((part x5.2).bind fun l5 => match l5 with | (.mk kind3 name2 op2 vals2 l6, l7) => (ap l2 [(aa.mk kind3 name2 op2 vals2 l6)]).bind fun l8 => some (Sum.inl (l7.L, l7.Bad, l8))) else some (Sum.inr (x5.2.L, x5.2.Bad, l2))
def ye (l4 : List aa) (kind1 : Int) (s : Int × List aa) : Option ((Int × List aa) ⊕ List aa) := match s with
 | (x6, l9) => (bif (decide (x6 < (l4.length : Int))) then (((gi l4 x6).bind fun x8 => match x8 with | .mk kind4 name3 op3 vals3 l13 => bif (kind4 == kind1) then ((ap l9 l13).bind fun l14 => some l14) else ((ap l9 [(aa.mk kind4 name3 op3 vals3 l13)]).bind fun l15 => some l15) : Option (List aa)).bind fun (l12 : List aa) => some (Sum.inl (W (x6 + 1), l12))) else some (Sum.inr l9))
def EH (fu : Nat) (part : aj → Option (aa × aj)) (p1 : aj) (kind1 : Int) (word1 : aY) : Option (aa × aj) :=
 (part p1).bind fun x1 => match x1 with | (.mk kind2 name1 op1 vals1 l1, x2) => (bm (pK fu part word1) fu (x2.L, x2.Bad, [(aa.mk kind2 name1 op1 vals1 l1)])).bind fun (((x3, x4, l4)) : (List ax) × Bool × (List aa)) => (bif ((l4.length : Int) == 1) then some ((aa.mk kind2 name1 op1 vals1 l1), (aj.mk x3 x4)) else ((bm (ye l4 kind1) fu (0, [])).bind fun (l11 : List aa) => some ((aa.mk kind1 [] [] [] l11), (aj.mk x3 x4))))
theorem y0 (n : Nat) (p : aj) (k : Int) (w : aY) : cy (n + 1) p k w = EH n (bF n) p k w := by rw [cy]; rfl
theorem Aa (n : Nat) (p : aj) (k : Int) (w : aY) : cu (n + 1) p k w = EH n (cj n) p k w := by rw [cu]; rfl
theorem DA {n : Nat} {k : Int} {l : List aa} (hl : bc l ≤ 4000) (hn : 5000 < n) : bm (ye l k) n (0, []) = some (dD k l) := by
 have hlen := jU l
 have h0 : (((0 : Int), []) : Int × List aa) = (((0 : Nat) : Int), dD k (l.take 0)) := by simp [dD]
 rw [h0]
 refine db (fun i => ((i : Int), dD k (l.take i))) l.length (fun i hi => ?_) ?_ n (by omega)
 ·
  have hde : decide ((i : Int) < (l.length : Int)) = true := by simpa using hi
  have ht := lO hi
  have h1 : bc (dD k (l.take i ++ [l[i]])) ≤ 4000 := Nat.le_trans (jp k _) (by rw [← ht]; exact Nat.le_trans (kF l _) hl)
  have h2 := Nat.le_trans (jU _) h1
  rw [tv, List.length_append] at h2
  simp only [ye, hde, cond_true, bR hi, Kd, dr (show i + 1 < 9223372036854775808 by omega), ht, tv]
  cases hx : l[i] with
  | mk a b c d e =>
   rw [hx] at h2
   simp only [gL, v8] at h2 ⊢
   cases hk : a == k with
   | true =>
    rw [hk] at h2
    simp only [cond_true] at h2 ⊢
    rw [fX (Nat.le_trans h2 (by decide))]; rfl
   | false =>
    rw [hk] at h2
    simp only [cond_false] at h2 ⊢
    rw [fX (Nat.le_trans h2 (by decide))]; rfl
 ·
  have hde : decide ((l.length : Int) < (l.length : Int)) = false := by simp
  simp only [ye, hde, cond_false, List.take_length]
section
variable {n k : Nat} {part : aj → Option (aa × aj)} {p : TL → Option (aa × TL)}
theorem xQ (hp : ∀ L : TL, L.length < k → L.length ≤ 500 → ∃ res, part ⟨L, false⟩ = some res ∧ RC L (p L) res) (w : aY) : ∀ (m : Nat) (L : TL) (l : List aa) (j : Nat), L.length < m → L.length < k → L.length ≤ 500 → l.length + L.length ≤ 2000 → m + 1 < j →
  ∃ (p' : aj) (l2 : List aa), bm (pK n part w) j (L, false, l) = some (p'.L, p'.Bad, l ++ l2) ∧ bc l2 + 2 * p'.L.length + l2.length ≤ 2 * L.length ∧ match jn p w m L with | some (x, r) => l2 = x ∧ p' = ⟨r, false⟩ | none => p'.Bad = true
 | 0, L, l, j, h, _, _, _, _ => by omega
 | m + 1, L, l, j, h, hk, h5, hc, hj => by
  obtain ⟨j, rfl⟩ : ∃ i, j = i + 2 := ⟨j - 2, by omega⟩
  rw [jn]
  cases h1 : tk w L with
  | none =>
   refine ⟨⟨L, false⟩, [], bM ?_, by simp [bc], by simp⟩
   simp only [pK, jF, h1, Kd, cond_false, List.append_nil]
  | some r =>
   have hr := gT h1
   obtain ⟨⟨f, p2⟩, e1, e2, e3⟩ := hp r (by omega) (by omega)
   have e2 : aX f + 2 * p2.L.length ≤ 2 * r.length + 1 := e2
   have hap : ap l [f] = some (l ++ [f]) := fX (Nat.le_trans (show l.length + 1 ≤ 2001 by omega) (by decide))
   have hstep : pK n part w (L, false, l) = some (.inl (p2.L, p2.Bad, l ++ [f])) := by
    cases f with
    | mk a b c d e => simp only [pK, jF, h1, Kd, cond_true, e1, hap]
   simp only
   cases h2 : p r with
   | none =>
    rw [h2] at e3
    have e3 : p2.Bad = true := e3
    refine ⟨p2, [f], (cG hstep).trans (bM ?_), by simp only [bc, List.length_cons, List.length_nil]; omega, e3⟩
    rw [e3]
    simp only [pK, ja, Kd, cond_false]
   | some q =>
    obtain ⟨g, r1⟩ := q
    rw [h2] at e3
    have e3 : (f, p2) = (g, ⟨r1, false⟩) := e3
    obtain ⟨rfl, rfl⟩ := Prod.mk.inj e3
    have e2 : aX f + 2 * r1.length ≤ 2 * r.length + 1 := e2
    have hn1 : 0 < aX f := by cases f; simp only [aX]; omega
    obtain ⟨p', l2, i1, i2, i3⟩ := xQ hp w m r1 (l ++ [f]) (j + 1) (by omega) (by omega) (by omega) (by simp; omega) (by omega)
    refine ⟨p', f :: l2, (cG hstep).trans (by rw [i1]; simp), by simp only [bc, List.length_cons]; omega, ?_⟩
    simp only
    cases h3 : jn p w m r1 with
    | none => rw [h3] at i3; exact i3
    | some q => obtain ⟨x, r2⟩ := q; rw [h3] at i3; exact ⟨by rw [i3.1], i3.2⟩
theorem AO (hp : ∀ L : TL, L.length < k → L.length ≤ 500 → ∃ res, part ⟨L, false⟩ = some res ∧ RC L (p L) res) (kd : Int) (w : aY) {L : TL} (hk : L.length < k) (h5 : L.length ≤ 500) (hn : 5000 < n) (hkn : k + 1 < n) :
  ∃ res, EH n part ⟨L, false⟩ kd w = some res ∧ RC L (nl p kd w k L) res := by
 obtain ⟨⟨f, p2⟩, e1, e2, e3⟩ := hp L hk h5
 have e2 : aX f + 2 * p2.L.length ≤ 2 * L.length + 1 := e2
 have hn1 : 0 < aX f := by cases f; simp only [aX]; omega
 unfold EH nl
 rw [e1, Kd]
 have hm : ∀ (G : aa → aj → Option (aa × aj)), (match ((f, p2) : aa × aj) with | (.mk a b c d e, x2) => G (.mk a b c d e) x2) = G f p2 := fun G => by cases f; rfl
 refine (show _ ∧ _ → _ from fun ⟨a, b⟩ => ?_) (show True ∧ True from ⟨trivial, trivial⟩)
 have hgoal : ∃ res, ((bm (pK n part w) n (p2.L, p2.Bad, [f])).bind fun (((x3, x4, l4)) : (List ax) × Bool × (List aa)) => (bif ((l4.length : Int) == 1) then some (f, (aj.mk x3 x4)) else ((bm (ye l4 kd) n (0, [])).bind fun (l11 : List aa) => some ((aa.mk kd [] [] [] l11), (aj.mk x3 x4))))) = some res ∧ RC L (match p L with | none => none | some (f, r) => match jn p w k r with | none => none | some (l, r1) => some (DN kd f l, r1)) res := by
  cases h2 : p L with
  | none =>
   rw [h2] at e3
   have e3 : p2.Bad = true := e3
   obtain ⟨n', rfl⟩ : ∃ i, n = i + 1 := ⟨n - 1, by omega⟩
   have hl : bm (pK (n' + 1) part w) (n' + 1) (p2.L, p2.Bad, [f]) = some (p2.L, p2.Bad, [f]) := bM (by rw [e3]; simp only [pK, ja, Kd, cond_false])
   rw [hl, Kd]
   exact ⟨_, rfl, e2, e3⟩
  | some q =>
   obtain ⟨g, r1⟩ := q
   rw [h2] at e3
   have e3 : (f, p2) = (g, ⟨r1, false⟩) := e3
   obtain ⟨rfl, rfl⟩ := Prod.mk.inj e3
   have e2 : aX f + 2 * r1.length ≤ 2 * L.length + 1 := e2
   obtain ⟨p', l2, i1, i2, i3⟩ := xQ hp w (n := n) k r1 [f] n (by omega) (by omega) (by omega) (by simp; omega) (by omega)
   rw [i1, Kd]
   simp only
   cases l2 with
   | nil =>
    refine ⟨(f, ⟨p'.L, p'.Bad⟩), rfl, by show aX f + 2 * p'.L.length ≤ _; simp only [bc, List.length_nil] at i2; omega, ?_⟩
    cases h3 : jn p w k r1 with
    | none => rw [h3] at i3; exact i3
    | some q => obtain ⟨x, r2⟩ := q; rw [h3] at i3; obtain ⟨rfl, rfl⟩ := i3; rfl
   | cons y l2 =>
    have hlen : ((([f] ++ y :: l2).length : Int) == 1) = false := beq_false_of_ne (by simp; omega)
    have hnod : bc ([f] ++ y :: l2) ≤ 4000 := by rw [iZ]; simp only [bc, List.length_cons] at i2 ⊢; omega
    rw [hlen, cond_false, DA hnod hn, Kd]
    have hfl := jp kd ([f] ++ y :: l2)
    refine ⟨_, rfl, ?_, ?_⟩
    ·
     show aX (.mk kd [] [] [] (dD kd ([f] ++ y :: l2))) + 2 * p'.L.length ≤ _
     rw [iZ] at hfl
     simp only [aX, bc, List.length_cons] at i2 hfl ⊢
     omega
    ·
     cases h3 : jn p w k r1 with
     | none => rw [h3] at i3; exact i3
     | some q =>
      obtain ⟨x, r2⟩ := q; rw [h3] at i3; obtain ⟨rfl, rfl⟩ := i3
      simp [DN]
 cases f
 exact hgoal
end
def GM (k : Nat) (L : TL) := nl (lF k) 1 [97, 110, 100] k L
def DY (k : Nat) (L : TL) := nl (GM k) 2 [111, 114] k L
theorem Iz {k : Nat} (hnot : ∀ (n : Nat) (L : TL), 5 * k + 6000 ≤ n → L.length < k → L.length ≤ 500 → ∃ res, bF n ⟨L, false⟩ = some res ∧ RC L (lF k L) res) {n : Nat} {L : TL} (hn : 5 * k + 6002 ≤ n) (hk : L.length < k) (h5 : L.length ≤ 500) :
  ∃ res, cj n ⟨L, false⟩ = some res ∧ RC L (GM k L) res := by
 obtain ⟨n, rfl⟩ : ∃ i, n = i + 2 := ⟨n - 2, by omega⟩
 obtain ⟨res, e, h⟩ := AO (n := n) (fun L h1 h2 => hnot n L (by omega) h1 h2) 1 [97, 110, 100] hk h5 (by omega) (by omega)
 rw [cj, y0, e, Kd]
 obtain ⟨f, q⟩ := res
 cases f
 exact ⟨_, rfl, h⟩
theorem G9 {k : Nat} (hnot : ∀ (n : Nat) (L : TL), 5 * k + 6000 ≤ n → L.length < k → L.length ≤ 500 → ∃ res, bF n ⟨L, false⟩ = some res ∧ RC L (lF k L) res) {n : Nat} {L : TL} (hn : 5 * k + 6004 ≤ n) (hk : L.length < k) (h5 : L.length ≤ 500) :
  ∃ res, cZ n ⟨L, false⟩ = some res ∧ RC L (DY k L) res := by
 obtain ⟨n, rfl⟩ : ∃ i, n = i + 2 := ⟨n - 2, by omega⟩
 obtain ⟨res, e, h⟩ := AO (n := n) (fun L h1 h2 => Iz hnot (n := n) (by omega) h1 h2) 2 [111, 114] hk h5 (by omega) (by omega)
 rw [cZ, Aa, e, Kd]
 obtain ⟨f, q⟩ := res
 cases f
 exact ⟨_, rfl, h⟩
theorem CJ : ∀ (k n : Nat) (L : TL), 5 * k + 6000 ≤ n → L.length < k → L.length ≤ 500 → ∃ res, bF n ⟨L, false⟩ = some res ∧ RC L (lF k L) res
 | 0, n, L, _, h, _ => by omega
 | k + 1, n, L, hn, hk, h5 => by
  obtain ⟨n, rfl⟩ : ∃ i, n = i + 1 := ⟨n - 1, by omega⟩
  have ih := CJ k
  rw [bF, jF, Kd, lF]
  cases h1 : tk [110, 111, 116] L with
  | some r =>
   have hr := gT h1
   obtain ⟨⟨f, p2⟩, e1, e2, e3⟩ := ih n r (by omega) (by omega) (by omega)
   have e2 : aX f + 2 * p2.L.length ≤ 2 * r.length + 1 := e2
   simp only [cond_true, e1, Kd]
   refine ⟨(.mk 3 [] [] [] [f], p2), by cases f; rfl, by simp only [aX, bc]; omega, ?_⟩
   cases h2 : lF k r with
   | none => rw [h2] at e3; exact e3
   | some q =>
    obtain ⟨g, r1⟩ := q
    rw [h2] at e3
    have e3 : (f, p2) = (g, ⟨r1, false⟩) := e3
    obtain ⟨rfl, rfl⟩ := Prod.mk.inj e3
    rfl
  | none =>
   simp only [cond_false, jF, Kd]
   cases h2 : tk [40] L with
   | some r =>
    have hr := gT h2
    obtain ⟨⟨f, p2⟩, e1, e2, e3⟩ := G9 ih (n := n) (L := r) (by omega) (by omega) (by omega)
    have e2 : aX f + 2 * p2.L.length ≤ 2 * r.length + 1 := e2
    simp only [cond_true, e1, Kd]
    have hpo : nl (nl (lF k) 1 [97, 110, 100] k) 2 [111, 114] k r = DY k r := rfl
    rw [hpo]
    obtain ⟨pl, pb⟩ := p2
    have e2 : aX f + 2 * pl.length ≤ 2 * r.length + 1 := e2
    cases h4 : DY k r with
    | none =>
     rw [h4] at e3
     obtain rfl : pb = true := e3
     refine ⟨(f, ⟨pl, true⟩), ?_, by show aX f + 2 * pl.length ≤ _; omega, rfl⟩
     cases f; simp only [ja, nx, Kd]
    | some q =>
     obtain ⟨g, r1⟩ := q
     rw [h4] at e3
     have e3 : (f, (⟨pl, pb⟩ : aj)) = (g, ⟨r1, false⟩) := e3
     simp only [Prod.mk.injEq, aj.mk.injEq] at e3
     obtain ⟨rfl, rfl, rfl⟩ := e3
     cases h5 : tk [41] pl with
     | none =>
      refine ⟨(f, ⟨pl, true⟩), ?_, by show aX f + 2 * pl.length ≤ _; omega, by simp [h5]⟩
      cases f; simp only [jF, h5, pE, Kd, Bool.not_false]
     | some r2 =>
      have := gT h5
      refine ⟨(f, ⟨r2, false⟩), ?_, by show aX f + 2 * r2.length ≤ _; omega, by simp [h5]⟩
      cases f; simp only [jF, h5, pE, Kd, Bool.not_true]
   | none =>
    simp only [cond_false, jF, Kd]
    cases h3 : tk [116, 114, 117, 101] L with
    | some r =>
     have hr := gT h3
     simp only [cond_true]
     exact ⟨_, rfl, pI (by omega)⟩
    | none =>
     simp only [cond_false]
     obtain ⟨res, e, h⟩ := Hg (n := n) (L := L) (by omega) (by omega)
     rw [e, Kd]
     obtain ⟨f, q⟩ := res
     cases f
     exact ⟨_, rfl, h⟩
def Ja (t : ax) : Prop := okI .i64 t.N ∧ t.S.length ≤ 1000
theorem g7 {c : Int} (h1 : -9223372036854775808 ≤ c) (h2 : c ≤ 9223372036854775807) : okI .i64 c := by
 unfold okI
 simp only [Lit.wf, Bool.and_eq_true, decide_eq_true_eq]
 exact ⟨h1, by first | exact h2 | exact Int.lt_add_one_of_le h2⟩
theorem Fy {l : aY} {n : Int} {j : Nat} (h : pn l = some (n, j)) : okI .i64 n := by
 cases l with
 | nil => cases h
 | cons c t =>
  rw [pn] at h
  split at h
  ·
   split at h
   · cases h
   ·
    rename_i hn
    simp only [Option.some.injEq, Prod.mk.injEq] at h
    obtain ⟨rfl, -⟩ := h
    exact g7 (by omega) (by omega)
  ·
   split at h
   · cases h
   ·
    rename_i hn
    simp only [Option.some.injEq, Prod.mk.injEq] at h
    obtain ⟨rfl, -⟩ := h
    exact g7 (by omega) (by omega)
theorem Gl {l : aY} {x : Ip} {j : Nat} (hl : l.length ≤ 1000) (h : uh l = some (x, j)) : okI .i64 x.n ∧ x.s.length ≤ 1000 := by
 have z : okI .i64 0 := g7 (by decide) (by decide)
 cases l with
 | nil => cases h
 | cons c t =>
  have hl2 : t.length ≤ 999 := by simp at hl; omega
  rw [uh] at h
  split at h
  ·
   split at h
   ·
    simp only [Option.some.injEq, Prod.mk.injEq] at h
    obtain ⟨rfl, -⟩ := h
    exact ⟨z, by simp only [List.length_take]; omega⟩
   · cases h
  ·
   split at h
   ·
    cases hn : pn (c :: t) with
    | none => rw [hn] at h; cases h
    | some p =>
     rw [hn] at h; simp only [Option.map_some, Option.some.injEq, Prod.mk.injEq] at h
     obtain ⟨rfl, -⟩ := h
     exact ⟨Fy (n := p.1) (j := p.2) hn, by simp⟩
   ·
    split at h
    ·
     split at h
     ·
      simp only [Option.some.injEq, Prod.mk.injEq] at h
      obtain ⟨rfl, -⟩ := h
      exact ⟨z, by simp only [List.length_take]; omega⟩
     · cases h
    ·
     split at h
     ·
      simp only [Option.some.injEq, Prod.mk.injEq] at h
      obtain ⟨rfl, -⟩ := h
      exact ⟨z, by simp⟩
     ·
      split at h
      ·
       simp only [Option.some.injEq, Prod.mk.injEq] at h
       obtain ⟨rfl, -⟩ := h
       exact ⟨z, by simp⟩
      · cases h
theorem pi : ∀ (m : Nat) (l : aY) (a : Nat) (L : List ax), l.length ≤ m → m ≤ 1000 → iC a l = some L → L.length ≤ l.length ∧ ∀ y ∈ L, Ja y
 | _, [], a, L, _, _, h => by rw [j9] at h; cases h; exact ⟨Nat.le_refl _, fun y hy => by cases hy⟩
 | 0, c :: t, a, L, hm, _, h => by simp at hm
 | m + 1, c :: t, a, L, hm, hm2, h => by
  have hm' := hm
  simp only [List.length_cons] at hm
  by_cases hc : c = 32
  ·
   subst hc; rw [rP] at h
   obtain ⟨h1, h2⟩ := pi m t _ _ (by omega) (by omega) h
   exact ⟨by simp; omega, h2⟩
  ·
   cases ht : uh (c :: t) with
   | none => rw [lB hc ht] at h; cases h
   | some p =>
    obtain ⟨x, j⟩ := p
    rw [lG hc ht] at h
    obtain ⟨L', h1, rfl⟩ := Option.map_eq_some_iff.1 h
    have hj := nE ht
    have hk := Gl (l := c :: t) (by omega) ht
    obtain ⟨h2, h3⟩ := pi m ((c :: t).drop j) _ _ (by simp; omega) (by omega) h1
    refine ⟨by simp at h2 ⊢; omega, fun y hy => ?_⟩
    rcases List.mem_cons.1 hy with rfl | hy
    · exact hk
    · exact h3 y hy
mutual
def oI : aa → Prop
 | .mk k a b v l => okI .i64 k ∧ Fc a ∧ Fc b ∧ BQ ig v ∧ mG l
def mG : List aa → Prop
 | [] => True
 | x :: l => oI x ∧ mG l
end
mutual
theorem zk : ∀ f : aa, oI f → aX f ≤ 5000 → bQ f
 | .mk k a b v l, h, hN => by
  simp only [oI] at h
  simp only [aX] at hN
  have := jU l
  simp only [bQ]
  exact ⟨h.1, h.2.1, h.2.2.1, h.2.2.2.1, Nat.le_trans (show l.length ≤ 5000 by omega) (by decide), Az l h.2.2.2.2 (by omega)⟩
theorem Az : ∀ l : List aa, mG l → bc l ≤ 5000 → fd l
 | [], _, _ => by simp [fd]
 | x :: l, h, hN => by
  simp only [mG] at h
  simp only [bc] at hN
  simp only [fd]
  exact ⟨zk x h.1 (by omega), Az l h.2 (by omega)⟩
end
theorem yo : ∀ {a b : List aa}, mG a → mG b → mG (a ++ b)
 | [], b, _, h => h
 | x :: a, b, h, k => by simp only [mG, List.cons_append] at h ⊢; exact ⟨h.1, yo h.2 k⟩
theorem vb (k : Int) : ∀ {l : List aa}, mG l → mG (dD k l)
 | [], _ => by simp [dD, mG]
 | x :: l, h => by
  simp only [mG] at h
  have e : dD k (x :: l) = (bif gL x == k then v8 x else [x]) ++ dD k l := by simp [dD]
  rw [e]
  refine yo ?_ (vb k h.2)
  cases gL x == k with
  | true => cases x; simp only [oI] at h; exact h.1.2.2.2.2
  | false => simp only [cond_false, mG]; exact ⟨h.1, trivial⟩
def lv (L : TL) : Prop := L.length ≤ 500 ∧ ∀ t ∈ L, Ja t
theorem ou {s : aY} {L r : TL} (h : tk s L = some r) (k : lv L) : lv r := by
 cases L with
 | nil => cases h
 | cons t l =>
  rw [tk] at h; split at h <;> cases h
  have := k.1
  exact ⟨by simp at this; omega, fun x hx => k.2 x (List.mem_cons_of_mem _ hx)⟩
theorem qv {ks : List Int} {L r : TL} {t : ax} (h : kA ks L = some (t, r)) (k : lv L) : lv r ∧ Ja t := by
 cases L with
 | nil => cases h
 | cons t l =>
  rw [kA] at h; split at h <;> cases h
  have := k.1
  exact ⟨⟨by simp at this; omega, fun x hx => k.2 x (List.mem_cons_of_mem _ hx)⟩, k.2 _ (List.mem_cons_self ..)⟩
theorem mF {s : aY} (h : s.length ≤ 1000) : Fc s := Nat.le_trans h (by decide)
theorem rQ {t : ax} (h : Ja t) : ig (eM t) := by
 unfold eM
 cases t.Kind == 4 with
 | true => exact ⟨mF (by simp), trivial, (g7 (by decide) (by decide) : okI .i64 0), mF h.2⟩
 | false => exact ⟨mF (by simp), trivial, h.1, mF (by simp)⟩
theorem F8 : ∀ (m : Nat) (l : List aI) (L : TL) {vs : List aI} {r : TL}, (∀ a ∈ l, ig a) → lv L → pV m l L = some (vs, r) → (∀ a ∈ vs, ig a) ∧ vs.length ≤ l.length + L.length ∧ lv r
 | 0, l, L, vs, r, _, _, h => by cases h
 | m + 1, l, L, vs, r, hl, hL, h => by
  rw [pV] at h
  cases h1 : tk [44] L with
  | none => rw [h1] at h; cases h; exact ⟨hl, by omega, hL⟩
  | some r1 =>
   rw [h1] at h
   have k1 := ou h1 hL
   have n1 := gT h1
   simp only at h
   cases h2 : kA [3, 4] r1 with
   | none => rw [h2] at h; cases h
   | some q =>
    obtain ⟨t, r2⟩ := q
    rw [h2] at h
    obtain ⟨k2, k3⟩ := qv h2 k1
    have n2 := kP h2
    simp only at h
    split at h
    ·
     obtain ⟨a1, a2, a3⟩ := F8 m (l ++ [eM t]) r2 (fun a ha => by
      rcases List.mem_append.1 ha with ha | ha
      · exact hl a ha
      · obtain rfl := List.mem_singleton.1 ha; exact rQ k3) k2 h
     exact ⟨a1, by simp at a2; omega, a3⟩
    · cases h
theorem r9 {k : Int} {a b : aY} {v : List aI} (hk : okI .i64 k) (ha : a.length ≤ 1000) (hb : b.length ≤ 1000) (hv : ∀ x ∈ v, ig x) (hl : v.length ≤ 1000) : oI (.mk k a b v []) := by
 simp only [oI, mG]; exact ⟨hk, mF ha, mF hb, ⟨Nat.le_trans hl (by decide), hv⟩, trivial⟩
theorem Ch {L r : TL} {f : aa} (hL : lv L) (h : tY L = some (f, r)) : oI f ∧ lv r := by
 unfold tY at h
 cases h1 : kA [1] L with
 | none => rw [h1] at h; cases h
 | some q =>
  obtain ⟨t, r0⟩ := q
  rw [h1] at h
  obtain ⟨k1, kt⟩ := qv h1 hL
  simp only at h
  cases h2 : tk [105, 110] r0 with
  | some r1 =>
   rw [h2] at h
   have k2 := ou h2 k1
   simp only at h
   cases h3 : tk [40] r1 with
   | none => rw [h3] at h; cases h
   | some r2 =>
    rw [h3] at h
    have k3 := ou h3 k2
    simp only at h
    cases h4 : kA [3, 4] r2 with
    | none => rw [h4] at h; cases h
    | some q =>
     obtain ⟨v, r3⟩ := q
     rw [h4] at h
     obtain ⟨k4, kv⟩ := qv h4 k3
     simp only at h
     cases h5 : pV (r3.length + 1) [eM v] r3 with
     | none => rw [h5] at h; cases h
     | some q =>
      obtain ⟨vs, r4⟩ := q
      rw [h5] at h
      obtain ⟨a1, a2, a3⟩ := F8 _ _ _ (fun a ha => by obtain rfl := List.mem_singleton.1 ha; exact rQ kv) k4 h5
      simp only at h
      cases h6 : tk [41] r4 with
      | none => rw [h6] at h; cases h
      | some r5 =>
       rw [h6] at h
       cases h
       have := k4.1
       exact ⟨r9 (g7 (by decide) (by decide)) kt.2 (by simp) a1 (by simp at a2; omega), ou h6 a3⟩
  | none =>
   rw [h2] at h
   simp only at h
   cases h3 : tk [94, 61] r0 with
   | some r1 =>
    rw [h3] at h
    have k2 := ou h3 k1
    simp only at h
    cases h4 : kA [4] r1 with
    | none => rw [h4] at h; cases h
    | some q =>
     obtain ⟨v, r2⟩ := q
     rw [h4] at h
     obtain ⟨k3, kv⟩ := qv h4 k2
     cases h
     exact ⟨r9 (g7 (by decide) (by decide)) kt.2 (by simp) (fun a ha => by obtain rfl := List.mem_singleton.1 ha; exact rQ kv) (by simp), k3⟩
   | none =>
    rw [h3] at h
    simp only at h
    cases h4 : kA [5] r0 with
    | none => rw [h4] at h; cases h
    | some q =>
     obtain ⟨o, r1⟩ := q
     rw [h4] at h
     obtain ⟨k2, ko⟩ := qv h4 k1
     simp only at h
     split at h
     ·
      cases h5 : kA [3, 4] r1 with
      | none => rw [h5] at h; cases h
      | some q =>
       obtain ⟨v, r2⟩ := q
       rw [h5] at h
       obtain ⟨k3, kv⟩ := qv h5 k2
       cases h
       exact ⟨r9 (g7 (by decide) (by decide)) kt.2 ko.2 (fun a ha => by obtain rfl := List.mem_singleton.1 ha; exact rQ kv) (by simp), k3⟩
     · cases h
section
variable {p : TL → Option (aa × TL)} (hp : ∀ {L r : TL} {f : aa}, lv L → p L = some (f, r) → oI f ∧ lv r)
include hp
theorem xm (w : aY) : ∀ (m : Nat) {L r : TL} {l : List aa}, lv L → jn p w m L = some (l, r) → mG l ∧ lv r
 | 0, L, r, l, _, h => by cases h
 | m + 1, L, r, l, hL, h => by
  rw [jn] at h
  cases h1 : tk w L with
  | none => rw [h1] at h; cases h; exact ⟨trivial, hL⟩
  | some r1 =>
   rw [h1] at h
   simp only at h
   cases h2 : p r1 with
   | none => rw [h2] at h; cases h
   | some q =>
    obtain ⟨f, r2⟩ := q
    rw [h2] at h
    obtain ⟨a1, a2⟩ := hp (ou h1 hL) h2
    simp only at h
    cases h3 : jn p w m r2 with
    | none => rw [h3] at h; cases h
    | some q =>
     obtain ⟨x, r3⟩ := q
     rw [h3] at h
     obtain ⟨b1, b2⟩ := xm w m a2 h3
     cases h
     exact ⟨⟨a1, b1⟩, b2⟩
theorem rZ (k : Int) (hk : okI .i64 k) (w : aY) (m : Nat) {L r : TL} {f : aa} (hL : lv L) (h : nl p k w m L = some (f, r)) : oI f ∧ lv r := by
 unfold nl at h
 cases h2 : p L with
 | none => rw [h2] at h; cases h
 | some q =>
  obtain ⟨g, r2⟩ := q
  rw [h2] at h
  obtain ⟨a1, a2⟩ := hp hL h2
  simp only at h
  cases h3 : jn p w m r2 with
  | none => rw [h3] at h; cases h
  | some q =>
   obtain ⟨x, r3⟩ := q
   rw [h3] at h
   obtain ⟨b1, b2⟩ := xm hp w m a2 h3
   cases h
   refine ⟨?_, b2⟩
   unfold DN
   split
   · exact a1
   ·
    simp only [oI]
    exact ⟨hk, mF (by simp), mF (by simp), ⟨Nat.zero_le _, fun x hx => by cases hx⟩, vb k (show mG (g :: x) from ⟨a1, b1⟩)⟩
end
theorem Bn : ∀ (k : Nat) {L r : TL} {f : aa}, lv L → lF k L = some (f, r) → oI f ∧ lv r
 | 0, L, r, f, _, h => by cases h
 | k + 1, L, r, f, hL, h => by
  have ih : ∀ {L r : TL} {f : aa}, lv L → lF k L = some (f, r) → oI f ∧ lv r := fun a b => Bn k a b
  rw [lF] at h
  cases h1 : tk [110, 111, 116] L with
  | some r1 =>
   rw [h1] at h
   simp only at h
   cases h2 : lF k r1 with
   | none => rw [h2] at h; cases h
   | some q =>
    obtain ⟨g, r2⟩ := q
    rw [h2] at h
    obtain ⟨a1, a2⟩ := ih (ou h1 hL) h2
    cases h
    refine ⟨?_, a2⟩
    simp only [oI, mG]
    exact ⟨g7 (by decide) (by decide), mF (by simp), mF (by simp), ⟨Nat.zero_le _, fun x hx => by cases hx⟩, a1, trivial⟩
  | none =>
   rw [h1] at h
   simp only at h
   cases h2 : tk [40] L with
   | some r1 =>
    rw [h2] at h
    simp only at h
    cases h3 : nl (nl (lF k) 1 [97, 110, 100] k) 2 [111, 114] k r1 with
    | none => rw [h3] at h; cases h
    | some q =>
     obtain ⟨g, r2⟩ := q
     rw [h3] at h
     obtain ⟨a1, a2⟩ := rZ (fun a b => rZ ih 1 (g7 (by decide) (by decide)) _ _ a b) 2 (g7 (by decide) (by decide)) _ _ (ou h2 hL) h3
     simp only at h
     cases h4 : tk [41] r2 with
     | none => rw [h4] at h; cases h
     | some r3 => rw [h4] at h; cases h; exact ⟨a1, ou h4 a2⟩
   | none =>
    rw [h2] at h
    simp only at h
    cases h3 : tk [116, 114, 117, 101] L with
    | some r1 =>
     rw [h3] at h
     cases h
     refine ⟨?_, ou h3 hL⟩
     simp only [oI, mG]
     exact ⟨g7 (by decide) (by decide), mF (by simp), mF (by simp), ⟨Nat.zero_le _, fun x hx => by cases hx⟩, trivial⟩
    | none => rw [h3] at h; exact Ch hL h
theorem Ht (k : Nat) {L r : TL} {f : aa} (hL : lv L) (h : DY k L = some (f, r)) : oI f ∧ lv r :=
 rZ (fun a b => rZ (fun a b => Bn k a b) 1 (g7 (by decide) (by decide)) _ _ a b) 2 (g7 (by decide) (by decide)) _ _ hL h
def dR (s : aY) : aa × Er := if 500 < s.length then (.mk 0 [] [] [] [], some 5) else match iC 0 s with
 | none => (.mk 0 [] [] [] [], some 2)
 | some L => match DY (L.length + 1) L with
  | none => (.mk 0 [] [] [] [], some 3)
  | some (f, r) => if r = [] then (if y6 f then (f, none) else (.mk 0 [] [] [] [], some 5)) else (.mk 0 [] [] [] [], some 3)
theorem tB {s : aY} {L r : TL} {f : aa} (hs : s.length ≤ 500) (h1 : iC 0 s = some L) (h2 : DY (L.length + 1) L = some (f, r)) : bQ f ∧ aX f ≤ 1001 := by
 obtain ⟨a1, a2⟩ := pi 500 s 0 L hs (by decide) h1
 obtain ⟨⟨g, q⟩, -, e2, e3⟩ := G9 (CJ (L.length + 1)) (n := 5 * (L.length + 1) + 6004) (L := L) (Nat.le_refl _) (by omega) (by omega)
 rw [h2] at e3
 have e3 : (g, q) = (f, ⟨r, false⟩) := e3
 obtain ⟨rfl, rfl⟩ := Prod.mk.inj e3
 have e2 : aX g + 2 * r.length ≤ 2 * L.length + 1 := e2
 exact ⟨zk g (Ht _ ⟨by omega, a2⟩ h2).1 (by omega), by omega⟩
theorem HV (s : aY) : Ev fun n => cY n s = some (dR s) := by
 unfold dR
 by_cases hs : 500 < s.length
 ·
  refine Ev.ge 2001 fun n hn => ?_
  unfold cY
  rw [DJ (by omega), Kd, zL, if_pos hs, if_pos hs]; rfl
 ·
  rw [if_neg hs]
  cases h1 : iC 0 s with
  | none =>
   refine Ev.ge 2001 fun n hn => ?_
   unfold cY
   rw [DJ (by omega), Kd, zL, if_neg hs, h1]; rfl
  | some L =>
   obtain ⟨a1, a2⟩ := pi 500 s 0 L (by omega) (by decide) h1
   have hor := fun n hn => G9 (CJ (L.length + 1)) (n := n) (L := L) hn (by omega) (by omega)
   simp only
   cases h2 : DY (L.length + 1) L with
   | none =>
    refine Ev.ge (5 * (L.length + 1) + 6004) fun n hn => ?_
    unfold cY
    rw [DJ (by omega), Kd, zL, if_neg hs, h1]
    obtain ⟨⟨f, q⟩, e1, e2, e3⟩ := hor n hn
    rw [h2] at e3
    obtain ⟨ql, qb⟩ := q
    obtain rfl : qb = true := e3
    simp only [Option.isSome_none, cond_false, e1, Kd]
    cases f
    rfl
   | some w =>
    obtain ⟨f, r⟩ := w
    obtain ⟨ok, hN⟩ := tB (by omega) h1 h2
    refine ((Jq ok (by omega)).and (Ev.ge (5 * (L.length + 1) + 6004) (p := fun n => 5 * (L.length + 1) + 6004 ≤ n) fun n hn => hn)).mono fun n hh => ?_
    obtain ⟨em, hn⟩ := hh
    unfold cY
    rw [DJ (by omega), Kd, zL, if_neg hs, h1]
    obtain ⟨⟨g, q⟩, e1, e2, e3⟩ := hor n hn
    rw [h2] at e3
    have e3 : (g, q) = (f, ⟨r, false⟩) := e3
    obtain ⟨rfl, rfl⟩ := Prod.mk.inj e3
    simp only [Option.isSome_none, cond_false, e1, Kd]
    cases g
    simp only [em, Kd]
    cases r with
    | nil =>
     simp only [List.length_nil, if_true]
     rw [show decide (((0 : Nat) : Int) > 0) = false from rfl, cond_false]
     cases y6 _ <;> rfl
    | cons t r =>
     have : decide (((t :: r).length : Int) > 0) = true := by simp
     rw [this, if_neg (by simp)]; rfl
theorem Cx (s : aY) : (dR s).2 = none ∨ (dR s).2 = some 2 ∨ (dR s).2 = some 3 ∨ (dR s).2 = some 5 := by
 unfold dR
 split
 · simp
 ·
  split
  · simp
  ·
   split
   · simp
   ·
    split
    · split <;> simp
    · simp
theorem vx (s : aY) : bQ (dR s).1 := by
 have z : bQ (.mk 0 [] [] [] []) := zk _ (r9 (g7 (by decide) (by decide)) (by simp) (by simp) (fun x hx => by cases hx) (by simp)) (by simp [aX, bc])
 unfold dR
 split
 · exact z
 ·
  rename_i hs
  split
  · exact z
  ·
   rename_i L h1
   split
   · exact z
   ·
    rename_i f r h2
    split
    ·
     split
     · exact (tB (by omega) h1 h2).1
     · exact z
    · exact z
end Go.Proofs.YtbkomicjhfldmaaGreatDoor
namespace Go.Proofs.YtbkomicjhfldmaaGreatDoor
open Go.Pv
set_option maxRecDepth 100000
set_option maxHeartbeats 4000000
set_option linter.unusedSimpArgs false
set_option linter.unusedVariables false
set_option linter.unusedSectionVars false
theorem Ju {a b c d : Int} {v : Pt} (ho : F6 a b c d [] v = true) : (cA a b = true ∧ cA v.1 v.2 = true ∧ W (a + v.1) = a + v.1 ∧ W (b + v.2) = b + v.2 ∧ cA (a + v.1) (b + v.2) = true) ∧ (cA c d = true ∧ cA v.1 v.2 = true ∧ W (c + v.1) = c + v.1 ∧ W (d + v.2) = d + v.2 ∧ cA (c + v.1) (d + v.2) = true) := by
 simp only [F6, Bool.and_eq_true] at ho
 exact ⟨sa ho.1, sa ho.2⟩
theorem Hz {a b c d : Int} {v : Pt} (hm : dm a b c d [] = true) (ho : F6 a b c d [] v = true) : dm (W (a + v.1)) (W (b + v.2)) (W (c + v.1)) (W (d + v.2)) [] = true := by
 obtain ⟨⟨_, _, e1, e2, m1⟩, ⟨_, _, e3, e4, m2⟩⟩ := Ju ho
 rw [e1, e2, e3, e4]
 have h := hm
 simp only [dm, eL, Bool.and_eq_true, decide_eq_true_eq] at h ⊢
 exact ⟨⟨⟨m1, m2⟩, by omega⟩, by omega⟩
theorem GQ {a b c d : Int} {q : Pt} {t : List Pt} {v : Pt} (hm : dm a b c d (q :: t) = true) (ho : F6 a b c d (q :: t) v = true) : dm 0 0 0 0 ((q :: t).map (mv v)) = true := by
 have h := (iN _).2 ((jV hm).2.mv ho)
 show (ki 0 0 0 0 && bT ((q :: t).map (mv v))) = true
 rw [h]; rfl
end Go.Proofs.YtbkomicjhfldmaaGreatDoor
namespace Go.Proofs.YtbkomicjhfldmaaGreatDoor
open Go.Pv
set_option maxRecDepth 100000
set_option linter.unusedSimpArgs false
set_option linter.unusedVariables false
theorem G2 (l : List aZ) (v : Pt) : pZ (l.map fun p => ⟨(mv v (p.X, p.Y)).1, (mv v (p.X, p.Y)).2⟩) = (pZ l).map (mv v) := by
 unfold pZ; rw [List.map_map, List.map_map]; rfl
theorem EI {g : aF} {v : aZ} (hm : iB g = true) (ho : um g v = true) : iB (Cv g v) = true := by
 obtain ⟨r, l⟩ := g
 cases l with
 | nil => exact Hz (v := (v.X, v.Y)) hm ho
 | cons q t =>
  show dm 0 0 0 0 (pZ ((q :: t).map fun p => ⟨(mv (v.X, v.Y) (p.X, p.Y)).1, (mv (v.X, v.Y) (p.X, p.Y)).2⟩)) = true
  rw [G2]; exact GQ hm ho
theorem Cm (g : aF) (v : aZ) : (Cv g v).Poly.length = g.Poly.length := by
 obtain ⟨r, l⟩ := g
 cases l with
 | nil => rfl
 | cons q t => simp [Cv]
end Go.Proofs.YtbkomicjhfldmaaGreatDoor
namespace Go.Proofs.YtbkomicjhfldmaaGreatDoor
open Go.Pv
set_option maxRecDepth 100000
set_option maxHeartbeats 4000000
set_option linter.unusedSimpArgs false
set_option linter.unusedVariables false
def gG : bf := bf.mk 0 0 (aF.mk (ba.mk 0 0 0 0) []) [] (ba.mk 0 0 0 0)
theorem kg (n : Nat) (s : bf) (h : s.Region.Poly.length ≤ 1000) : dy n s = some s := by
 unfold dy eP
 rw [show ap [] s.Region.Poly = some s.Region.Poly from fX (by unfold vW; simp; omega)]; rfl
theorem tg {n : Nat} (h : n ≤ 1000) : n ≤ maxLen := by unfold maxLen; omega
def Gh (s m : Int) : Option aC × Er := bif cD s && (decide (1 ≤ m) && decide (m ≤ 1000)) then (some ⟨s, m, [], []⟩, none) else (none, some 1)
theorem GA (n : Nat) (s : Int) : ∃ x, ip n s = some x ∧ (x == 0) = !cD s := by
 unfold ip kN
 by_cases h1 : s ≥ 24
 ·
  by_cases h2 : s ≤ 31
  ·
   have hs : cD s = true := by simp [cD, h1, h2]
   obtain ⟨k, rfl, hk⟩ := C2 hs
   rw [hs, decide_eq_true h1, decide_eq_true h2]
   have : k = 24 ∨ k = 25 ∨ k = 26 ∨ k = 27 ∨ k = 28 ∨ k = 29 ∨ k = 30 ∨ k = 31 := by omega
   rcases this with rfl | rfl | rfl | rfl | rfl | rfl | rfl | rfl <;> exact ⟨_, rfl, by decide⟩
  ·
   refine ⟨0, ?_, ?_⟩
   · rw [decide_eq_true h1, decide_eq_false h2]; rfl
   · simp [cD, h2]
 ·
  refine ⟨0, ?_, ?_⟩
  · rw [decide_eq_false h1]; rfl
  · simp [cD, h1]
theorem Ig (n : Nat) (s m : Int) : fZ n s m = some (Gh s m) := by
 obtain ⟨x, h1, h2⟩ := GA n s
 unfold fZ Gh
 rw [h1, Kd, h2]
 cases cD s with
 | false => rfl
 | true =>
  by_cases h3 : m < 1
  · rw [decide_eq_true h3, decide_eq_false (show ¬ 1 ≤ m by omega)]; rfl
  ·
   rw [decide_eq_false h3, decide_eq_true (show 1 ≤ m by omega)]
   by_cases h4 : m > 1000
   · rw [decide_eq_true h4, decide_eq_false (show ¬ m ≤ 1000 by omega)]; rfl
   · rw [decide_eq_false h4, decide_eq_true (show m ≤ 1000 by omega)]; rfl
def Cs (t : aC) (id : Int) (g : aF) (f : aY) : bf × Er × aC :=
 bif decide (id < 0) || (decide (id > 2147483647) || !iB g) then (gG, some 1, t) else
 match dR f with
 | (_, some c) => (gG, some c, t)
 | (x, none) => bif (mg t.L id).isSome then (gG, some 10, t) else
  bif decide ((t.L.length : Int) ≥ t.Most) || decide ((mg t.Last id).getD 0 > 2147483645) then (gG, some 8, t) else
  bif cD t.Shift then
   (⟨id, W ((mg t.Last id).getD 0 + 1), g, f, Cc t.Shift g⟩, none, ⟨t.Shift, t.Most, iO t.L id ⟨⟨id, W ((mg t.Last id).getD 0 + 1), g, f, Cc t.Shift g⟩, x⟩, iO t.Last id (W ((mg t.Last id).getD 0 + 1))⟩)
  else (gG, some 1, t)
theorem FO {n : Nat} {t : aC} {id : Int} {g : aF} {f : aY} (hr : cY n f = some (dR f)) (hl : g.Poly.length ≤ 1000) : cM n t id g f = some (Cs t id g f) := by
 have hm : kQ n g = some (iB g) := if_pos (tg hl)
 have hc : g9 n t.Shift g = some (FK t.Shift g) := if_pos (tg hl)
 unfold cM Cs
 rw [hm, hr]
 cases h1 : decide (id < 0) with
 | true => rfl
 | false =>
  cases h2 : decide (id > 2147483647) with
  | true => rfl
  | false =>
   cases h3 : iB g with
   | false => rfl
   | true =>
    simp only [cond_false, Kd, Bool.not_true, Bool.or_false]
    rcases dR f with ⟨⟨k, nm, op, vs, l⟩, e⟩
    cases e with
    | some c => rfl
    | none =>
     simp only [Option.isSome_none, cond_false, yb, Kd]
     cases h4 : (mg t.L id).isSome with
     | true => rfl
     | false =>
      simp only [cond_false]
      cases h5 : decide ((t.L.length : Int) ≥ t.Most) with
      | true => rfl
      | false =>
       simp only [cond_false, Bool.false_or, Kd]
       cases h6 : decide ((mg t.Last id).getD 0 > 2147483645) with
       | true => rfl
       | false =>
        simp only [cond_false, hc, FK, h3, Bool.true_and, Kd]
        cases h7 : cD t.Shift with
        | false => rfl
        | true =>
         simp only [cond_true, Option.isSome_none, cond_false, Et, Kd, Fb, if_true, Option.getD_some]
         rw [kg _ _ (by exact hl), Kd, kg _ _ (by exact hl), Kd]
def yR (t : aC) (id : Int) (d : aZ) : bf × Bool × Er × aC :=
 match mg t.L id with
 | none => (gG, false, some 9, t)
 | some s => match A7 s.Sub.Region d with
  | (_, some c) => (gG, false, some c, t)
  | (g, none) => bif yu s.Sub.Region s.Sub.Cover d then
    (⟨s.Sub.Id, s.Sub.Version, g, s.Sub.Filter, s.Sub.Cover⟩, true, none, ⟨t.Shift, t.Most, iO t.L id ⟨⟨s.Sub.Id, s.Sub.Version, g, s.Sub.Filter, s.Sub.Cover⟩, s.F⟩, t.Last⟩)
   else bif decide (s.Sub.Version > 2147483645) then (gG, false, some 8, t) else
    bif iB g && cD t.Shift then
     (⟨s.Sub.Id, W (s.Sub.Version + 1), g, s.Sub.Filter, Cc t.Shift g⟩, false, none, ⟨t.Shift, t.Most, iO t.L id ⟨⟨s.Sub.Id, W (s.Sub.Version + 1), g, s.Sub.Filter, Cc t.Shift g⟩, s.F⟩, iO t.Last id (W (s.Sub.Version + 1))⟩)
    else (gG, false, some 1, t)
theorem Ao {g : aF} {d : aZ} (h : g.Poly.length ≤ 1000) : (A7 g d).1.Poly.length ≤ 1000 := by
 unfold A7
 cases iB g <;> cases um g d <;> simp only [cond_true, cond_false] <;> first | (rw [Cm]; exact h) | simp
theorem DT {n : Nat} {t : aC} {id : Int} {d : aZ} (hl : ∀ s, mg t.L id = some s → s.Sub.Region.Poly.length ≤ 1000) : cB n t id d = some (yR t id d) := by
 unfold cB yR
 simp only [yb, Kd]
 cases h0 : mg t.L id with
 | none => rfl
 | some s =>
  obtain ⟨⟨i, v, g, f, c⟩, ⟨k, nm, op, vs, l⟩⟩ := s
  have hg : g.Poly.length ≤ 1000 := hl _ h0
  have h1 : jQ n g d = some (A7 g d) := if_pos (tg hg)
  have h2 : me n g c d = some (yu g c d) := if_pos (tg hg)
  have h3 := Ao (d := d) hg
  simp only [Option.getD_some, Option.isSome_some, Bool.not_true, cond_false, h1, Kd]
  revert h3
  rcases A7 g d with ⟨g', e⟩
  intro h3
  cases e with
  | some c => rfl
  | none =>
   simp only [Option.isSome_none, cond_false, h2, Kd]
   have h4 : g9 n t.Shift g' = some (FK t.Shift g') := if_pos (tg h3)
   cases yu g c d with
   | true =>
    simp only [Bool.not_true, cond_false, cond_true, Kd, kS, Et]
    rw [kg _ _ (by exact h3)]; rfl
   | false =>
    simp only [Bool.not_false, cond_true, cond_false, Kd]
    cases h5 : decide (v > 2147483645) with
    | true => rfl
    | false =>
     simp only [cond_false, h4, Kd, FK]
     cases iB g' && cD t.Shift with
     | false => rfl
     | true =>
      simp only [cond_true, Option.isSome_none, cond_false, Et, Kd, kS]
      rw [kg _ _ (by exact h3)]; rfl
def xp (t : aC) (id : Int) : bf × Er × aC :=
 match mg t.L id with
 | none => (gG, some 9, t)
 | some s => (⟨s.Sub.Id, W (s.Sub.Version + 1), s.Sub.Region, s.Sub.Filter, s.Sub.Cover⟩, none, ⟨t.Shift, t.Most, qw t.L id, iO t.Last id (W (s.Sub.Version + 1))⟩)
theorem Dt (n : Nat) (t : aC) (id : Int) : dL n t id = some (xp t id) := by
 unfold dL xp
 simp only [yb, Ji, Et, Kd]
 cases mg t.L id <;> rfl
end Go.Proofs.YtbkomicjhfldmaaGreatDoor
namespace Go.Proofs.YtbkomicjhfldmaaGreatDoor
open Go.Pv
set_option maxRecDepth 100000
set_option maxHeartbeats 4000000
set_option linter.unusedSimpArgs false
set_option linter.unusedVariables false
set_option linter.unusedSectionVars false
def d4 (fu : Nat) (s1 : aY) (less1 : Bool) (more1 : Bool) : Option Bool :=
 bif (s1 == [60]) then some less1 else (bif (s1 == [60, 61]) then some (!more1) else (bif (s1 == [61]) then (bif (!less1) then some (!more1) else some false) else (bif (s1 == [33, 61]) then (bif less1 then some true else some more1) else (bif (s1 == [62, 61]) then some (!less1) else (bif (s1 == [62]) then some more1 else some false)))))
section
attribute [local irreducible] cg aM DP ai aP Decidable.decide
theorem mD {fu : Nat} {s1 : aY} {less1 : Bool} {more1 : Bool} {r : Bool} (h : d4 fu s1 less1 more1 = some r) : ai Tryz.prog 115 [.str (sB s1), .bool less1, .bool more1] (· = .bool r) := by
 rw [d4] at h
 refine cf Tryz.func115 ?_
 refine ag (rv Z Z (rn (aS (ag (rv Z Z (rn (aB (ag (rv Z Z (rt (jH s1 [60]) (rv Z Z (rn (bw rfl h (fun h_1 => ?_) fun h_1 => ?_)))))))))))))
 ·clear h
  exact ag (rg 2 rfl (rn (aT (si h_1 ▸ rF))))
 clear h
 refine ag (rv Z Z (rt (jH s1 [60, 61]) (rv Z Z (rn (bw rfl h_1 (fun h_2 => ?_) fun h_2 => ?_)))))
 ·clear h_1
  exact ag (rg 3 rfl (rn (aT (si h_2 ▸ rF))))
 clear h_1
 refine ag (rv Z Z (rt (jH s1 [61]) (rv Z Z (rn (bw rfl h_2 (fun h_3 => ?_) fun h_3 => ?_)))))
 ·clear h_2
  refine ag (rg 3 rfl (dN Z Z Z Z Z h_3 (fun h_4 => ?_) fun h_4 => ?_))
  ·clear h_3
   exact rg 4 rfl (rn (aT (si h_4 ▸ rF)))
  clear h_3
  exact rg 3 rfl (rn (aT (si h_4 ▸ rF)))
 clear h_2
 refine ag (rv Z Z (rt (jH s1 [33, 61]) (rv Z Z (rn (bw rfl h_3 (fun h_4 => ?_) fun h_4 => ?_)))))
 ·clear h_3
  refine ag (rg 2 rfl (eN Z Z Z Z Z h_4 (fun h_5 => ?_) fun h_5 => ?_))
  ·clear h_4
   exact rg 3 rfl (rn (aT (si h_5 ▸ rF)))
  clear h_4
  exact rg 2 rfl (rn (aT (si h_5 ▸ rF)))
 clear h_3
 refine ag (rv Z Z (rt (jH s1 [62, 61]) (rv Z Z (rn (bw rfl h_4 (fun h_5 => ?_) fun h_5 => ?_)))))
 ·clear h_4
  exact ag (rg 3 rfl (rn (aT (si h_5 ▸ rF))))
 clear h_4
 refine ag (rv Z Z (rt (jH s1 [62]) (rv Z Z (rn (bw rfl h_5 (fun h_6 => ?_) fun h_6 => ?_)))))
 ·clear h_5
  exact ag (rg 2 rfl (rn (aT (si h_6 ▸ rF))))
 clear h_5
 exact aK (ah (ag (rv Z Z (rn (aT (si h_6 ▸ rF))))))
def gO (fu : Nat) (s1 : aY) (with1 : aY) : Option Bool :=
 bif (decide ((with1.length : Int) > (s1.length : Int))) then some false else ((kC s1 0 (with1.length : Int)).bind fun s2 => some (s2 == with1))
theorem rD {fu : Nat} {s1 : aY} {with1 : aY} {r : Bool} (h : gO fu s1 with1 = some r) : ai Tryz.prog 116 [.str (sB s1), .str (sB with1)] (· = .bool r) := by
 rw [gO] at h
 refine cf Tryz.func116 ?_
 refine ag (rv Z Z (rn (aS (ag (rg 5 rfl (rn (bw rfl h (fun h_1 => ?_) fun h_1 => ?_)))))))
 ·clear h
  exact ag (rv Z Z (rn (aT (si h_1 ▸ rF))))
 clear h
 exact aK (ag (rg 3 rfl (bx h_1 fun s2 hx1 h_2 => rV rfl (gR Z Z Z Z ⟨_, rfl⟩ hx1) (rg 2 rfl (rt (jH s2 with1) (rv Z Z (rn (aT (si h_2 ▸ rF)))))))))
mutual
def dx : Nat → aa → (List aI) → Option Bool
 | 0, _, _ => none
 | fu + 1, f1, l2 => match f1 with | .mk kind1 name1 op1 vals1 l1 => bif (kind1 == 7) then some true else (bif (kind1 == 3) then (bif ((l1.length : Int) == 0) then some false else ((gi l1 0).bind fun x1 => match x1 with | .mk kind2 name2 op2 vals2 l3 => (dx fu (aa.mk kind2 name2 op2 vals2 l3) l2).bind fun x2 => some (!x2))) else ((bif (kind1 == 1) then some (kind1 == 1) else some (kind1 == 2) : Option Bool).bind fun (x3 : Bool) => (bif x3 then ((bm (ε := Int) (τ := Unit ⊕ Bool) (fun (i1 : Int) => (bif (decide (i1 < (l1.length : Int))) then ((gi l1 i1).bind fun x4 => match x4 with | .mk kind3 name3 op3 vals3 l4 => (dx fu (aa.mk kind3 name3 op3 vals3 l4) l2).bind fun x5 => bif (x5 == (kind1 == 2)) then some (Sum.inr (Sum.inr x5)) else some (Sum.inl (W (i1 + 1)))) else some (Sum.inr (Sum.inl ())))) fu 0).bind fun o => kS o fun (_ : Unit) => some (kind1 == 1)) else ((some (W ((l2.length : Int) - 1))).bind fun i3 => (bm (ε := Int × Int) (τ := Int) (fun (((at1, i4)) : Int × Int) => (bif (decide (i4 ≥ 0)) then (((gi l2 i4).bind fun x6 => bif (x6.Name == name1) then some i4 else some at1 : Option Int).bind fun (at4 : Int) => some (Sum.inl (at4, W (i4 - 1)))) else some (Sum.inr at1))) fu ((-1), i3)).bind fun (at3 : Int) => ((bif (decide (at3 < 0)) then some true else some ((vals1.length : Int) == 0) : Option Bool).bind fun (x7 : Bool) => (bif x7 then some false else ((gi l2 at3).bind fun x8 => (gi vals1 0).bind fun x9 => (bif (kind1 == 4) then some (x8.Text == x9.Text) else some false : Option Bool).bind fun (x10 : Bool) => (bif x10 then (bif x8.Text then ((d4 fu op1 (Op.bytesLess x8.S x9.S) (!(Op.bytesLess x8.S x9.S || x8.S == x9.S))).bind fun x11 => some x11) else ((d4 fu op1 (decide (x8.N < x9.N)) (decide (x8.N > x9.N))).bind fun x12 => some x12)) else ((bif (kind1 == 5) then (bif x8.Text then some x9.Text else some false) else some false : Option Bool).bind fun (x13 : Bool) => (bif x13 then ((gO fu x8.S x9.S).bind fun x14 => some x14) else ((bm (ε := Int × aY × Bool × Int × aY) (τ := Unit ⊕ Bool) (fun (((i6, v1, v2, v3, v4)) : Int × aY × Bool × Int × aY) => ((bif (decide (i6 < (vals1.length : Int))) then some (kind1 == 6) else some false : Option Bool).bind fun (x15 : Bool) => (bif x15 then ((gi vals1 i6).bind fun x16 => (bif (x8.Text == x16.Text) then (bif x8.Text then (bif (x8.S == x16.S) then some true else (bif (!x8.Text) then some (x8.N == x16.N) else some false)) else (bif (!x8.Text) then some (x8.N == x16.N) else some false)) else some false : Option Bool).bind fun (x17 : Bool) => (bif x17 then some (Sum.inr (Sum.inr true)) else some (Sum.inl (W (i6 + 1), x16.Name, x16.Text, x16.N, x16.S)))) else some (Sum.inr (Sum.inl ()))))) fu (0, x9.Name, x9.Text, x9.N, x9.S)).bind fun o => kS o fun (_ : Unit) => some false)))))))))))
end
abbrev kw (fu : Nat) : Prop := ∀ {f1 l2} {r : Bool}, dx fu f1 l2 = some r → ai Tryz.prog 73 [.agg (bd f1), .sl (l2.map au)] (· = .bool r)
theorem tD {fu : Nat} (ih_dref06_Holds : kw fu) : kw (fu + 1) := by
 intro f1 l2 r h
 obtain ⟨kind1, name1, op1, vals1, l1⟩ := f1
 rw [dx] at h
 refine cf Tryz.func73 ?_
 refine ag (rb Z Z (rv Z Z (rn (aS (ag (rg 2 rfl (rn (aB (ag (rg 2 rfl (rn (bw rfl h (fun h_1 => ?_) fun h_1 => ?_))))))))))))
 ·clear h
  exact ag (rv Z Z (rn (aT (si h_1 ▸ rF))))
 clear h
 refine ag (rg 2 rfl (rn (bw rfl h_1 (fun h_2 => ?_) fun h_2 => ?_)))
 ·clear h_1
  refine aS (ag (rg 3 rfl (rt ((cp l1)) (rv Z Z (rn (bw rfl h_2 (fun h_3 => ?_) fun h_3 => ?_))))))
  ·clear h_2
   exact ag (rv Z Z (rn (aT (si h_3 ▸ rF))))
  clear h_2
  refine aK (ag (rg 2 rfl (bx h_3 fun x1 hx1 h_4 => ri Z Z Z Z Z Z (iF hx1) (dB hx1) (bK _) ?_)))
  obtain ⟨kind2, name2, op2, vals2, l3⟩ := x1
  exact rg 2 rfl (bx h_4 fun x2 hx2 h_5 => bt Z Z Z (ih_dref06_Holds hx2) (rv Z Z (rn (ag (rg 3 rfl (rn (aT (si h_5 ▸ rF))))))))
 clear h_1
 refine aS (ag (rg 2 rfl (rn (bx h_2 fun o3 ho4 h_3 => aq (fun x => x = o3) (fun (x3 : Bool) => ⟨[(1, .sl (l2.map au)), (2, .ptr 0 0), (31, .bool x3)], [(0, 0, .int .i64 kind1), (0, 1, .str (sB name1)), (0, 2, .str (sB op1)), (0, 3, .sl (vals1.map au)), (0, 4, .sl (am l1))], [], 1⟩) ?_ ?_))))
 ·clear h_2
  refine bw rfl ho4 (fun ho4_1 => ?_) fun ho4_1 => ?_
  ·clear ho4
   exact aK (si ho4_1 ▸ cN [0])
  clear ho4
  exact aR (rg 2 rfl (rn (si ho4_1 ▸ cN [0])))
 clear h_2
 rintro x3 rfl
 refine ch (bw rfl h_3 (fun h_4 => ?_) fun h_4 => ?_)
 ·clear h_3
  refine aS (ag (rv Z Z (rn (bx h_4 fun e5 hl6 h_5 => aq (fun x => Sum.inl x = e5) (fun (_ : Unit) => ⟨[(2, .ptr 0 0)], [(0, 0, .int .i64 kind1), (0, 1, .str (sB name1)), (0, 2, .str (sB op1)), (0, 3, .sl (vals1.map au)), (0, 4, .sl (am l1))], [], 1⟩) ?_ ?_))))
  ·clear h_4
   refine aB (be hl6 (fun (i1 : Int) => ⟨[(1, .sl (l2.map au)), (2, .ptr 0 0), (6, .int .i64 i1)], [(0, 0, .int .i64 kind1), (0, 1, .str (sB name1)), (0, 2, .str (sB op1)), (0, 3, .sl (vals1.map au)), (0, 4, .sl (am l1))], [], 1⟩) [0] rfl zs ?_)
   intro i1 o9 ho7 hE8
   refine ch (aS (ag (rg 4 rfl (rt ((cp l1)) (rv Z Z (rn (bw rfl ho7 (fun ho7_1 => ?_) fun ho7_1 => ?_)))))))
   ·clear ho7
    refine aK (aS (aB (ag (rg 3 rfl (bx ho7_1 fun x4 hx10 ho7_2 => ri Z Z Z Z Z Z (iF hx10) (dB hx10) (bK _) ?_)))))
    obtain ⟨kind3, name3, op3, vals3, l4⟩ := x4
    refine rg 2 rfl (bx ho7_2 fun x5 hx11 ho7_3 => bt Z Z Z (ih_dref06_Holds hx11) (rv Z Z (rn (ag (rg 5 rfl (rn (bw rfl ho7_3 (fun ho7_4 => ?_) fun ho7_4 => ?_)))))))
    ·clear ho7_1 ho7_2 ho7_3
     refine ag (rg 2 rfl (rn (aT ?_)))
     cases ho7_4
     have hq := hE8 _ rfl
     subst hq
     have h_6 := n8 h_5
     subst h_6
     exact rF
    clear ho7_1 ho7_2 ho7_3
    exact aK (ah (aR (rg 3 rfl (rn (si ho7_4 ▸ lN [0])))))
   clear ho7
   refine aW (xX ?_)
   cases ho7_1
   have hq := hE8 _ rfl
   subst hq
   exact cN [0]
  clear h_4
  rintro _ rfl
  have h_6 := ry h_5
  exact ch (ag (rg 4 rfl (rn (aT (si h_6 ▸ rF)))))
 clear h_3
 refine aK (ah (ag (rv Z Z (rn (aS (ag (rg 2 rfl (rt ((lM au l2)) (rg 2 rfl ?_)))))))))
 obtain ⟨i3, hx12, h_5⟩ := bs h_4
 refine rt (Ew hx12) (rn (bx h_5 fun e13 hl14 h_6 => aq (fun x => x = e13) (fun (at3 : Int) => ⟨[(1, .sl (l2.map au)), (2, .ptr 0 0), (8, .int .i64 at3)], [(0, 0, .int .i64 kind1), (0, 1, .str (sB name1)), (0, 2, .str (sB op1)), (0, 3, .sl (vals1.map au)), (0, 4, .sl (am l1))], [], 1⟩) ?_ ?_))
 ·clear h_4 h_5
  refine aB (be hl14 (fun (((at1, i4)) : Int × Int) => ⟨[(1, .sl (l2.map au)), (2, .ptr 0 0), (8, .int .i64 at1), (9, .int .i64 i4)], [(0, 0, .int .i64 kind1), (0, 1, .str (sB name1)), (0, 2, .str (sB op1)), (0, 3, .sl (vals1.map au)), (0, 4, .sl (am l1))], [], 1⟩) [0] rfl zs ?_)
  intro v o17 ho15 hE16
  obtain ⟨at1, i4⟩ := v
  refine ch (aS (ag (rg 2 rfl (rn (bw rfl ho15 (fun ho15_1 => ?_) fun ho15_1 => ?_)))))
  ·clear ho15
   refine aK (aS (bx ho15_1 fun o18 ho19 ho15_2 => aq (fun x => x = o18) (fun (at4 : Int) => ⟨[(1, .sl (l2.map au)), (2, .ptr 0 0), (8, .int .i64 at4), (9, .int .i64 i4)], [(0, 0, .int .i64 kind1), (0, 1, .str (sB name1)), (0, 2, .str (sB op1)), (0, 3, .sl (vals1.map au)), (0, 4, .sl (am l1))], [], 1⟩) ?_ ?_))
   ·clear ho15_1
    refine aB (aS (mw 8 Tryz.mix (dv Z Z (fun _ => rfl) (dv Z Z (fun _ => rfl) (bx ho19 fun x6 hx20 ho19_1 => di Z Z Z Z Z (fun _ => rfl) rfl (iF hx20) (kG au hx20) (wM (fun _ => by rfl) _) ?_)))))
    refine dv Z Z (fun _ => rfl) (dv Z Z (fun _ => rfl) (dv Z Z (fun _ => rfl) (dv Z Z (fun _ => rfl) (dv Z Z (fun _ => rfl) (dt (jH x6.Name name1) (dn (rn (bw rfl ho19_1 (fun ho19_2 => ?_) fun ho19_2 => ?_))))))))
    ·clear ho19 ho19_1
     exact aR (rg 2 rfl (rn (ah (si ho19_2 ▸ cN [0]))))
    clear ho19 ho19_1
    exact aK (ah (si ho19_2 ▸ cN [0]))
   clear ho15_1
   rintro at4 rfl
   exact ch (aR (rg 3 rfl (rn (si ho15_2 ▸ lN [0]))))
  clear ho15
  refine aW (xX ?_)
  cases ho15_1
  have hq := hE16 _ rfl
  subst hq
  exact cN [0]
 clear h_4 h_5
 rintro at3 rfl
 refine ch (aS (aS (bx h_6 fun o21 ho22 h_7 => aq (fun x => x = o21) (fun (x7 : Bool) => ⟨[(1, .sl (l2.map au)), (2, .ptr 0 0), (8, .int .i64 at3), (80, .bool x7)], [(0, 0, .int .i64 kind1), (0, 1, .str (sB name1)), (0, 2, .str (sB op1)), (0, 3, .sl (vals1.map au)), (0, 4, .sl (am l1))], [], 1⟩) ?_ ?_)))
 ·clear h_6
  refine aR (rg 3 rfl (eN Z Z Z Z Z ho22 (fun ho22_1 => ?_) fun ho22_1 => ?_))
  ·clear ho22
   exact rg 3 rfl (rt ((lM au vals1)) (rg 2 rfl (rn (si ho22_1 ▸ cN [0]))))
  clear ho22
  exact rg 4 rfl (rn (si ho22_1 ▸ cN [0]))
 clear h_6
 rintro x7 rfl
 refine ch (bw rfl h_7 (fun h_8 => ?_) fun h_8 => ?_)
 ·clear h_7
  exact ag (rv Z Z (rn (aT (si h_8 ▸ rF))))
 clear h_7
 refine aK (ag (rg 2 rfl (bx h_8 fun x8 hx23 h_9 => ri Z Z Z Z Z Z (iF hx23) (kG au hx23) (wM (fun _ => by rfl) _) ?_)))
 refine rv Z Z (ra Z Z Z (rs Z Z Z Z Z Z Z (rn (ag (rg 2 rfl (bx h_9 fun x9 hx24 h_10 => ri Z Z Z Z Z Z (iF hx24) (kG au hx24) (wM (fun _ => by rfl) _) ?_))))))
 refine rv Z Z (ra Z Z Z (rs Z Z Z Z Z Z Z (rn (aS (aS (bx h_10 fun o25 ho26 h_11 => aq (fun x => x = o25) (fun (x10 : Bool) => ⟨[(2, .ptr 0 0), (10, .ptr 1 0), (11, .ptr 2 0), (98, .bool x10)], [(0, 0, .int .i64 kind1), (0, 1, .str (sB name1)), (0, 2, .str (sB op1)), (0, 3, .sl (vals1.map au)), (0, 4, .sl (am l1)), (1, 0, .str (sB x8.Name)), (1, 1, .bool x8.Text), (1, 2, .int .i64 x8.N), (1, 3, .str (sB x8.S)), (2, 0, .str (sB x9.Name)), (2, 1, .bool x9.Text), (2, 2, .int .i64 x9.N), (2, 3, .str (sB x9.S))], [], 3⟩) ?_ ?_))))))
 ·clear h_8 h_9 h_10
  refine aR (rg 4 rfl (dN Z Z Z Z Z ho26 (fun ho26_1 => ?_) fun ho26_1 => ?_))
  ·clear ho26
   exact rg 6 rfl (rn (si ho26_1 ▸ cN [0,1,2]))
  clear ho26
  exact rg 5 rfl (rn (si ho26_1 ▸ cN [0,1,2]))
 clear h_8 h_9 h_10
 rintro x10 rfl
 refine ch (bw rfl h_11 (fun h_12 => ?_) fun h_12 => ?_)
 ·clear h_11
  refine aS (ag (rg 2 rfl (rn (bw rfl h_12 (fun h_13 => ?_) fun h_13 => ?_))))
  ·clear h_12
   exact ag (rg 7 rfl (rt (JR x8.S x9.S) (rg 5 rfl (rt (J3 x8.S x9.S) (bx h_13 fun x11 hx27 h_14 => bt Z Z Z (mD hx27) (rv Z Z (rn (aT (si h_14 ▸ rF)))))))))
  clear h_12
  exact aK (ag (rg 12 rfl (bx h_13 fun x12 hx28 h_14 => bt Z Z Z (mD hx28) (rv Z Z (rn (aT (si h_14 ▸ rF)))))))
 clear h_11
 refine aK (aS (aS (bx h_12 fun o29 ho30 h_13 => aq (fun x => x = o29) (fun (x13 : Bool) => ⟨[(2, .ptr 0 0), (10, .ptr 1 0), (11, .ptr 2 0), (137, .bool x13)], [(0, 0, .int .i64 kind1), (0, 1, .str (sB name1)), (0, 2, .str (sB op1)), (0, 3, .sl (vals1.map au)), (0, 4, .sl (am l1)), (1, 0, .str (sB x8.Name)), (1, 1, .bool x8.Text), (1, 2, .int .i64 x8.N), (1, 3, .str (sB x8.S)), (2, 0, .str (sB x9.Name)), (2, 1, .bool x9.Text), (2, 2, .int .i64 x9.N), (2, 3, .str (sB x9.S))], [], 3⟩) ?_ ?_)))
 ·clear h_12
  refine aR (rg 4 rfl (dN Z Z Z Z Z ho30 (fun ho30_1 => ?_) fun ho30_1 => ?_))
  ·clear ho30
   refine rg 4 rfl (dN Z Z Z Z Z ho30_1 (fun ho30_2 => ?_) fun ho30_2 => ?_)
   ·clear ho30_1
    exact rg 3 rfl (rn (si ho30_2 ▸ cN [0,1,2]))
   clear ho30_1
   exact rg 2 rfl (rn (si ho30_2 ▸ cN [0,1,2]))
  clear ho30
  exact rg 6 rfl (rn (si ho30_1 ▸ cN [0,1,2]))
 clear h_12
 rintro x13 rfl
 refine ch (bw rfl h_13 (fun h_14 => ?_) fun h_14 => ?_)
 ·clear h_13
  exact ag (rg 4 rfl (bx h_14 fun x14 hx31 h_15 => bt Z Z Z (rD hx31) (rv Z Z (rn (aT (si h_15 ▸ rF))))))
 clear h_13
 refine aK (aS (ag (rv Z Z (rn (bx h_14 fun e32 hl33 h_15 => aq (fun x => Sum.inl x = e32) (fun (_ : Unit) => ⟨[], [], [], 0⟩) ?_ ?_)))))
 ·clear h_14
  refine aB (be hl33 (fun (((i6, v1, v2, v3, v4)) : Int × aY × Bool × Int × aY) => ⟨[(2, .ptr 0 0), (10, .ptr 1 0), (11, .ptr 2 0), (12, .int .i64 i6)], [(0, 0, .int .i64 kind1), (0, 1, .str (sB name1)), (0, 2, .str (sB op1)), (0, 3, .sl (vals1.map au)), (0, 4, .sl (am l1)), (1, 0, .str (sB x8.Name)), (1, 1, .bool x8.Text), (1, 2, .int .i64 x8.N), (1, 3, .str (sB x8.S)), (2, 0, .str (sB v1)), (2, 1, .bool v2), (2, 2, .int .i64 v3), (2, 3, .str (sB v4))], [], 3⟩) [0,1,2] rfl zs ?_)
  intro v o36 ho34 hE35
  obtain ⟨i6, v1, v2, v3, v4⟩ := v
  refine ch (aS (aS (bx ho34 fun o37 ho38 ho34_1 => aq (fun x => x = o37) (fun (x15 : Bool) => ⟨[(2, .ptr 0 0), (10, .ptr 1 0), (11, .ptr 2 0), (12, .int .i64 i6), (152, .bool x15)], [(0, 0, .int .i64 kind1), (0, 1, .str (sB name1)), (0, 2, .str (sB op1)), (0, 3, .sl (vals1.map au)), (0, 4, .sl (am l1)), (1, 0, .str (sB x8.Name)), (1, 1, .bool x8.Text), (1, 2, .int .i64 x8.N), (1, 3, .str (sB x8.S)), (2, 0, .str (sB v1)), (2, 1, .bool v2), (2, 2, .int .i64 v3), (2, 3, .str (sB v4))], [], 3⟩) ?_ ?_)))
  ·clear ho34
   refine aR (rg 4 rfl (rt ((lM au vals1)) (rg 2 rfl (dN Z Z Z Z Z ho38 (fun ho38_1 => ?_) fun ho38_1 => ?_))))
   ·clear ho38
    exact rg 4 rfl (rn (si ho38_1 ▸ cN [0,1,2]))
   clear ho38
   exact rg 3 rfl (rn (si ho38_1 ▸ cN [0,1,2]))
  clear ho34
  rintro x15 rfl
  refine ch (bw rfl ho34_1 (fun ho34_2 => ?_) fun ho34_2 => ?_)
  ·clear ho34_1
   refine aK (aS (aB (ag (rg 3 rfl (bx ho34_2 fun x16 hx39 ho34_3 => ri Z Z Z Z Z Z (iF hx39) (kG au hx39) (wM (fun _ => by rfl) _) ?_)))))
   refine rv Z Z (rs Z Z Z Z Z Z Z (rn (aS (bx ho34_3 fun o40 ho41 ho34_4 => aq (fun x => x = o40) (fun (x17 : Bool) => ⟨[(2, .ptr 0 0), (10, .ptr 1 0), (11, .ptr 2 0), (12, .int .i64 i6), (187, .bool x17)], [(0, 0, .int .i64 kind1), (0, 1, .str (sB name1)), (0, 2, .str (sB op1)), (0, 3, .sl (vals1.map au)), (0, 4, .sl (am l1)), (1, 0, .str (sB x8.Name)), (1, 1, .bool x8.Text), (1, 2, .int .i64 x8.N), (1, 3, .str (sB x8.S)), (2, 0, .str (sB x16.Name)), (2, 1, .bool x16.Text), (2, 2, .int .i64 x16.N), (2, 3, .str (sB x16.S))], [], 3⟩) ?_ ?_))))
   ·clear ho34_2 ho34_3
    refine aR (rg 6 rfl (dN Z Z Z Z Z ho41 (fun ho41_1 => ?_) fun ho41_1 => ?_))
    ·clear ho41
     refine rg 3 rfl (dN Z Z Z Z Z ho41_1 (fun ho41_2 => ?_) fun ho41_2 => ?_)
     ·clear ho41_1
      refine rg 5 rfl (rt (jH x8.S x16.S) (rg 2 rfl (eN Z Z Z Z Z ho41_2 (fun ho41_3 => ?_) fun ho41_3 => ?_)))
      ·clear ho41_2
       refine rg 4 rfl (dN Z Z Z Z Z ho41_3 (fun ho41_4 => ?_) fun ho41_4 => ?_)
       ·clear ho41_3
        exact rg 8 rfl (rn (si ho41_4 ▸ cN [0,1,2]))
       clear ho41_3
       exact rg 7 rfl (rn (si ho41_4 ▸ cN [0,1,2]))
      clear ho41_2
      exact rg 3 rfl (gu Z Z Z Z (gu Z Z Z Z (gu Z Z Z Z (gu Z Z Z Z (gu Z Z Z Z (rg 3 rfl (rn (si ho41_3 ▸ cN [0,1,2]))))))))
     clear ho41_1
     refine rg 10 rfl (dN Z Z Z Z Z ho41_2 (fun ho41_3 => ?_) fun ho41_3 => ?_)
     ·clear ho41_2
      exact rg 8 rfl (rn (si ho41_3 ▸ cN [0,1,2]))
     clear ho41_2
     exact rg 7 rfl (rn (si ho41_3 ▸ cN [0,1,2]))
    clear ho41
    exact rg 2 rfl (gu Z Z Z Z (gu Z Z Z Z (gu Z Z Z Z (gu Z Z Z Z (gu Z Z Z Z (rg 2 rfl (gu Z Z Z Z (gu Z Z Z Z (gu Z Z Z Z (gu Z Z Z Z (gu Z Z Z Z (gu Z Z Z Z (gu Z Z Z Z (gu Z Z Z Z (gu Z Z Z Z (gu Z Z Z Z (rg 2 rfl (rn (si ho41_1 ▸ cN [0,1,2])))))))))))))))))))
   clear ho34_2 ho34_3
   rintro x17 rfl
   refine ch (bw rfl ho34_4 (fun ho34_5 => ?_) fun ho34_5 => ?_)
   ·clear ho34_4
    refine ag (rv Z Z (rn (aT ?_)))
    cases ho34_5
    have hq := hE35 _ rfl
    subst hq
    have h_16 := n8 h_15
    subst h_16
    exact rF
   clear ho34_4
   exact aK (ah (aR (rg 3 rfl (rn (si ho34_5 ▸ lN [0,1,2])))))
  clear ho34_1
  refine aW (xX ?_)
  cases ho34_2
  have hq := hE35 _ rfl
  subst hq
  exact cN []
 clear h_14
 rintro _ rfl
 have h_16 := ry h_15
 exact ag (rv Z Z (rn (aT (si h_16 ▸ rF))))
end
theorem nt : ∀ {fu : Nat}, kw fu
 | 0 => fun h => by simp [dx] at h
 | fu + 1 => tD (fu := fu) (nt (fu := fu))
def ii (fu : Nat) (l1 : List aI) : Option Bool :=
 (bm (ε := Int) (τ := Unit ⊕ Bool) (fun (i1 : Int) => (bif (decide (i1 < (l1.length : Int))) then (((gi l1 i1).bind fun x2 => bif (decide ((x2.Name.length : Int) > 300)) then some true else ((gi l1 i1).bind fun x3 => some (decide ((x3.S.length : Int) > 300))) : Option Bool).bind fun (x1 : Bool) => (bif x1 then some (Sum.inr (Sum.inr false)) else some (Sum.inl (W (i1 + 1))))) else some (Sum.inr (Sum.inl ())))) fu 0).bind fun o => kS o fun (_ : Unit) => ((some (decide ((l1.length : Int) ≤ 40))).bind fun x4 => some x4)
section
attribute [local irreducible] cg aM DP ai aP Decidable.decide
theorem sj {fu : Nat} {l1 : List aI} {r : Bool} (h : ii fu l1 = some r) : ai Tryz.prog 16 [.sl (l1.map au)] (· = .bool r) := by
 rw [ii] at h
 refine cf Tryz.func16 ?_
 refine ag (rv Z Z (rn (aS (ag (rv Z Z (rn (bx h fun e1 hl2 h_1 => aq (fun x => Sum.inl x = e1) (fun (_ : Unit) => ⟨[(0, .sl (l1.map au))], [], [], 0⟩) ?_ ?_)))))))
 ·clear h
  refine aB (be hl2 (fun (i1 : Int) => ⟨[(0, .sl (l1.map au)), (3, .int .i64 i1)], [], [], 0⟩) [] rfl zs ?_)
  intro i1 o5 ho3 hE4
  refine ch (aS (ag (rg 3 rfl (rt ((lM au l1)) (rv Z Z (rn (bw rfl ho3 (fun ho3_1 => ?_) fun ho3_1 => ?_)))))))
  ·clear ho3
   refine aK (aS (aB (aS (bx ho3_1 fun o6 ho7 ho3_2 => aq (fun x => x = o6) (fun (x1 : Bool) => ⟨[(0, .sl (l1.map au)), (3, .int .i64 i1), (25, .bool x1)], [], [], 0⟩) ?_ ?_))))
   ·clear ho3_1
    refine aR (rg 2 rfl (bx ho7 fun x2 hx8 ho7_1 => ri Z Z Z Z Z Z (iF hx8) (kG au hx8) (wM (fun _ => by rfl) _) ?_))
    refine rg 5 rfl (eN Z Z Z Z Z ho7_1 (fun ho7_2 => ?_) fun ho7_2 => ?_)
    ·clear ho7 ho7_1
     refine rg 2 rfl (gy Z Z Z (bx ho7_2 fun x3 hx9 ho7_3 => ri Z Z Z Z Z Z (iF hx9) (kG au hx9) (wM (fun _ => by rfl) _) ?_))
     exact rg 5 rfl (rn (si ho7_3 ▸ cN []))
    clear ho7 ho7_1
    exact rg 7 rfl (rn (si ho7_2 ▸ cN []))
   clear ho3_1
   rintro x1 rfl
   refine ch (bw rfl ho3_2 (fun ho3_3 => ?_) fun ho3_3 => ?_)
   ·clear ho3_2
    refine ag (rv Z Z (rn (aT ?_)))
    cases ho3_3
    have hq := hE4 _ rfl
    subst hq
    have h_2 := n8 h_1
    subst h_2
    exact rF
   clear ho3_2
   exact aK (ah (aR (rg 3 rfl (rn (si ho3_3 ▸ lN [])))))
  clear ho3
  refine aW (xX ?_)
  cases ho3_1
  have hq := hE4 _ rfl
  subst hq
  exact cN []
 clear h
 rintro _ rfl
 have h_2 := ry h_1
 refine ch (ag (rg 2 rfl (rt ((lM au l1)) (rg 2 rfl ?_))))
 obtain ⟨x4, hx10, h_3⟩ := bs h_2
 exact rt (xh hx10) (rn (aT (si h_3 ▸ rF)))
end
structure aO where
 L : List aE
 At : Int
 Bad : Bool
def jx (fu : Nat) (s1 : aY) : Option Bool :=
 (bif ((s1.length : Int) == 0) then some true else some (decide ((s1.length : Int) > 20)) : Option Bool).bind fun (x1 : Bool) => (bif x1 then some false else ((gh fu s1 0).bind fun to1 => bif to1.2.2 then (bif (to1.2.1 == (s1.length : Int)) then some (to1.1.Kind == 1) else some false) else some false))
section
attribute [local irreducible] cg aM DP ai aP Decidable.decide
theorem ui {fu : Nat} {s1 : aY} {r : Bool} (h : jx fu s1 = some r) : ai Tryz.prog 236 [.str (sB s1)] (· = .bool r) := by
 rw [jx] at h
 refine cf Tryz.func236 ?_
 refine ag (rv Z Z (rn (aS (aS (bx h fun o1 ho2 h_1 => aq (fun x => x = o1) (fun (x1 : Bool) => ⟨[(0, .str (sB s1)), (13, .bool x1)], [], [], 0⟩) ?_ ?_)))))
 ·clear h
  refine aR (rg 4 rfl (eN Z Z Z Z Z ho2 (fun ho2_1 => ?_) fun ho2_1 => ?_))
  ·clear ho2
   exact rg 4 rfl (rn (si ho2_1 ▸ cN []))
  clear ho2
  exact rg 3 rfl (rn (si ho2_1 ▸ cN []))
 clear h
 rintro x1 rfl
 refine ch (bw rfl h_1 (fun h_2 => ?_) fun h_2 => ?_)
 ·clear h_1
  exact ag (rv Z Z (rn (aT (si h_2 ▸ rF))))
 clear h_1
 refine aK (ag (rv Z Z (bx h_2 fun to1 hx3 h_3 => bt Z Z Z (pY hx3) (rg 4 rfl (ra Z Z Z (rs Z Z Z Z Z Z Z (rg 2 rfl (rn (ag (rg 2 rfl (dN Z Z Z Z Z h_3 (fun h_4 => ?_) fun h_4 => ?_)))))))))))
 ·clear h_2 h_3
  refine rg 6 rfl (dN Z Z Z Z Z h_4 (fun h_5 => ?_) fun h_5 => ?_)
  ·clear h_4
   exact rg 5 rfl (rn (aT (si h_5 ▸ rF)))
  clear h_4
  exact rg 4 rfl (rn (aT (si h_5 ▸ rF)))
 clear h_2 h_3
 exact rg 10 rfl (rn (aT (si h_4 ▸ rF)))
def gr (fu : Nat) (s1 : aY) : Option Bool :=
 (bm (ε := Int) (τ := Unit ⊕ Bool) (fun (i1 : Int) => (bif (decide (i1 < (s1.length : Int))) then (((gi s1 i1).bind fun c1 => bif (decide ((c1.toNat : Int) < 32)) then some true else ((gi s1 i1).bind fun c2 => bif (decide ((c2.toNat : Int) > 126)) then some true else ((gi s1 i1).bind fun c3 => some ((c3.toNat : Int) == 34))) : Option Bool).bind fun (x1 : Bool) => (bif x1 then some (Sum.inr (Sum.inr false)) else some (Sum.inl (W (i1 + 1))))) else some (Sum.inr (Sum.inl ())))) fu 0).bind fun o => kS o fun (_ : Unit) => ((some (decide ((s1.length : Int) ≤ 200))).bind fun x2 => some x2)
theorem sn {fu : Nat} {s1 : aY} {r : Bool} (h : gr fu s1 = some r) : ai Tryz.prog 237 [.str (sB s1)] (· = .bool r) := by
 rw [gr] at h
 refine cf Tryz.func237 ?_
 refine ag (rv Z Z (rn (aS (ag (rv Z Z (rn (bx h fun e1 hl2 h_1 => aq (fun x => Sum.inl x = e1) (fun (_ : Unit) => ⟨[(0, .str (sB s1))], [], [], 0⟩) ?_ ?_)))))))
 ·clear h
  refine aB (be hl2 (fun (i1 : Int) => ⟨[(0, .str (sB s1)), (3, .int .i64 i1)], [], [], 0⟩) [] rfl zs ?_)
  intro i1 o5 ho3 hE4
  refine ch (aS (ag (rg 4 rfl (rn (bw rfl ho3 (fun ho3_1 => ?_) fun ho3_1 => ?_)))))
  ·clear ho3
   refine aK (aS (aB (aS (bx ho3_1 fun o6 ho7 ho3_2 => aq (fun x => x = o6) (fun (x1 : Bool) => ⟨[(0, .str (sB s1)), (3, .int .i64 i1), (25, .bool x1)], [], [], 0⟩) ?_ ?_))))
   ·clear ho3_1
    refine aR (rg 2 rfl (bx ho7 fun c1 hx8 ho7_1 => rV rfl (dw Z Z Z Z hx8) (rg 2 rfl (eN Z Z Z Z Z ho7_1 (fun ho7_2 => ?_) fun ho7_2 => ?_))))
    ·clear ho7 ho7_1
     refine rg 2 rfl (gy Z Z Z (bx ho7_2 fun c2 hx9 ho7_3 => rV rfl (dw Z Z Z Z hx9) (rg 3 rfl (eN Z Z Z Z Z ho7_3 (fun ho7_4 => ?_) fun ho7_4 => ?_))))
     ·clear ho7_2 ho7_3
      exact rg 2 rfl (gy Z Z Z (bx ho7_4 fun c3 hx10 ho7_5 => rV rfl (dw Z Z Z Z hx10) (rg 2 rfl (rn (si ho7_5 ▸ cN [])))))
     clear ho7_2 ho7_3
     exact rg 4 rfl (rn (si ho7_4 ▸ cN []))
    clear ho7 ho7_1
    exact rg 10 rfl (rn (si ho7_2 ▸ cN []))
   clear ho3_1
   rintro x1 rfl
   refine ch (bw rfl ho3_2 (fun ho3_3 => ?_) fun ho3_3 => ?_)
   ·clear ho3_2
    refine ag (rv Z Z (rn (aT ?_)))
    cases ho3_3
    have hq := hE4 _ rfl
    subst hq
    have h_2 := n8 h_1
    subst h_2
    exact rF
   clear ho3_2
   exact aK (ah (aR (rg 3 rfl (rn (si ho3_3 ▸ lN [])))))
  clear ho3
  refine aW (xX ?_)
  cases ho3_1
  have hq := hE4 _ rfl
  subst hq
  exact cN []
 clear h
 rintro _ rfl
 have h_2 := ry h_1
 refine ch (ag (rg 4 rfl ?_))
 obtain ⟨x2, hx11, h_3⟩ := bs h_2
 exact rt (xh hx11) (rn (aT (si h_3 ▸ rF)))
def iQ (fu : Nat) (s1 : aY) : Option Bool :=
 bif (s1 == [60]) then some true else (bif (s1 == [60, 61]) then some true else (bif (s1 == [61]) then some true else (bif (s1 == [33, 61]) then some true else (bif (s1 == [62, 61]) then some true else some (s1 == [62])))))
theorem qY {fu : Nat} {s1 : aY} {r : Bool} (h : iQ fu s1 = some r) : ai Tryz.prog 238 [.str (sB s1)] (· = .bool r) := by
 rw [iQ] at h
 refine cf Tryz.func238 ?_
 refine ag (rv Z Z (rn (ag (rg 2 rfl (rt (jH s1 [60]) (rv Z Z (eN Z Z Z Z Z h (fun h_1 => ?_) fun h_1 => ?_)))))))
 ·clear h
  refine rg 2 rfl (rt (jH s1 [60, 61]) (rg 2 rfl (eN Z Z Z Z Z h_1 (fun h_2 => ?_) fun h_2 => ?_)))
  ·clear h_1
   refine rg 2 rfl (rt (jH s1 [61]) (rg 2 rfl (eN Z Z Z Z Z h_2 (fun h_3 => ?_) fun h_3 => ?_)))
   ·clear h_2
    refine rg 2 rfl (rt (jH s1 [33, 61]) (rg 2 rfl (eN Z Z Z Z Z h_3 (fun h_4 => ?_) fun h_4 => ?_)))
    ·clear h_3
     refine rg 2 rfl (rt (jH s1 [62, 61]) (rg 2 rfl (eN Z Z Z Z Z h_4 (fun h_5 => ?_) fun h_5 => ?_)))
     ·clear h_4
      exact rg 2 rfl (rt (jH s1 [62]) (rg 2 rfl (rn (aT (si h_5 ▸ rF)))))
     clear h_4
     exact rg 3 rfl (rn (aT (si h_5 ▸ rF)))
    clear h_3
    exact rg 7 rfl (rn (aT (si h_4 ▸ rF)))
   clear h_2
   exact rg 11 rfl (rn (aT (si h_3 ▸ rF)))
  clear h_1
  exact rg 15 rfl (rn (aT (si h_2 ▸ rF)))
 clear h
 exact rg 19 rfl (rn (aT (si h_1 ▸ rF)))
def jg (fu : Nat) (f1 : aa) : Option Bool :=
 match f1 with | .mk kind1 name1 op1 vals1 l1 => (jx fu name1).bind fun name2 => (bif (!name2) then some true else (bif (decide ((l1.length : Int) > 0)) then some true else (bif ((vals1.length : Int) == 0) then some true else some (decide ((vals1.length : Int) > 20)))) : Option Bool).bind fun (x1 : Bool) => (bif x1 then some false else ((bm (ε := Int) (τ := Unit ⊕ Bool) (fun (i1 : Int) => (bif (decide (i1 < (vals1.length : Int))) then ((gi vals1 i1).bind fun x2 => (gr fu x2.S).bind fun plain1 => (bif (!(x2.Name == [])) then some true else ((gi vals1 0).bind fun x4 => bif (!(x2.Text == x4.Text)) then some true else (bif x2.Text then (bif (x2.N != 0) then some true else (bif (!plain1) then some true else (bif (!x2.Text) then some (!(x2.S == [])) else some false))) else (bif (!x2.Text) then some (!(x2.S == [])) else some false))) : Option Bool).bind fun (x3 : Bool) => (bif x3 then some (Sum.inr (Sum.inr false)) else some (Sum.inl (W (i1 + 1))))) else some (Sum.inr (Sum.inl ())))) fu 0).bind fun o => kS o fun (_ : Unit) => (bif (kind1 == 6) then some (op1 == []) else (bif (kind1 == 5) then ((bif ((vals1.length : Int) == 1) then ((gi vals1 0).bind fun x6 => bif x6.Text then some (op1 == []) else some false) else some false : Option Bool).bind fun (x5 : Bool) => some x5) else (bif ((vals1.length : Int) == 1) then ((iQ fu op1).bind fun x7 => some x7) else some false)))))
theorem uK {fu : Nat} {f1 : aa} {r : Bool} (h : jg fu f1 = some r) : ai Tryz.prog 206 [.agg (bd f1)] (· = .bool r) := by
 obtain ⟨kind1, name1, op1, vals1, l1⟩ := f1
 rw [jg] at h
 refine cf Tryz.func206 ?_
 refine ag (rb Z Z (rv Z Z (rn (ag (rg 2 rfl (bx h fun name2 hx1 h_1 => bt Z Z Z (ui hx1) (rv Z Z (rn (aS (aS (bx h_1 fun o2 ho3 h_2 => aq (fun x => x = o2) (fun (x1 : Bool) => ⟨[(1, .ptr 0 0), (29, .bool x1)], [(0, 0, .int .i64 kind1), (0, 1, .str (sB name1)), (0, 2, .str (sB op1)), (0, 3, .sl (vals1.map au)), (0, 4, .sl (am l1))], [], 1⟩) ?_ ?_)))))))))))
 ·clear h h_1
  refine aR (rg 3 rfl (eN Z Z Z Z Z ho3 (fun ho3_1 => ?_) fun ho3_1 => ?_))
  ·clear ho3
   refine rg 3 rfl (rt ((cp l1)) (rg 3 rfl (eN Z Z Z Z Z ho3_1 (fun ho3_2 => ?_) fun ho3_2 => ?_)))
   ·clear ho3_1
    refine rg 3 rfl (rt ((lM au vals1)) (rg 3 rfl (eN Z Z Z Z Z ho3_2 (fun ho3_3 => ?_) fun ho3_3 => ?_)))
    ·clear ho3_2
     exact rg 3 rfl (rt ((lM au vals1)) (rg 2 rfl (rn (si ho3_3 ▸ cN [0]))))
    clear ho3_2
    exact rg 4 rfl (rn (si ho3_3 ▸ cN [0]))
   clear ho3_1
   exact rg 10 rfl (rn (si ho3_2 ▸ cN [0]))
  clear ho3
  exact rg 16 rfl (rn (si ho3_1 ▸ cN [0]))
 clear h h_1
 rintro x1 rfl
 refine ch (bw rfl h_2 (fun h_3 => ?_) fun h_3 => ?_)
 ·clear h_2
  exact ag (rv Z Z (rn (aT (si h_3 ▸ rF))))
 clear h_2
 refine aK (aS (ag (rv Z Z (rn (bx h_3 fun e4 hl5 h_4 => aq (fun x => Sum.inl x = e4) (fun (_ : Unit) => ⟨[(1, .ptr 0 0)], [(0, 0, .int .i64 kind1), (0, 1, .str (sB name1)), (0, 2, .str (sB op1)), (0, 3, .sl (vals1.map au)), (0, 4, .sl (am l1))], [], 1⟩) ?_ ?_)))))
 ·clear h_3
  refine aB (be hl5 (fun (i1 : Int) => ⟨[(1, .ptr 0 0), (4, .int .i64 i1)], [(0, 0, .int .i64 kind1), (0, 1, .str (sB name1)), (0, 2, .str (sB op1)), (0, 3, .sl (vals1.map au)), (0, 4, .sl (am l1))], [], 1⟩) [0] rfl zs ?_)
  intro i1 o8 ho6 hE7
  refine ch (aS (ag (rg 4 rfl (rt ((lM au vals1)) (rv Z Z (rn (bw rfl ho6 (fun ho6_1 => ?_) fun ho6_1 => ?_)))))))
  ·clear ho6
   refine aK (aS (aB (ag (rg 3 rfl (bx ho6_1 fun x2 hx9 ho6_2 => ri Z Z Z Z Z Z (iF hx9) (kG au hx9) (wM (fun _ => by rfl) _) ?_)))))
   refine rv Z Z (ra Z Z Z (rs Z Z Z Z Z Z Z (rn (ag (rg 2 rfl (bx ho6_2 fun plain1 hx10 ho6_3 => bt Z Z Z (sn hx10) (rv Z Z (rn (aS (bx ho6_3 fun o11 ho12 ho6_4 => aq (fun x => x = o11) (fun (x3 : Bool) => ⟨[(1, .ptr 0 0), (4, .int .i64 i1), (80, .bool x3)], [(0, 0, .int .i64 kind1), (0, 1, .str (sB name1)), (0, 2, .str (sB op1)), (0, 3, .sl (vals1.map au)), (0, 4, .sl (am l1))], [], 1⟩) ?_ ?_))))))))))
   ·clear ho6_1 ho6_2 ho6_3
    refine mw 36 Tryz.mix (dv Z Z (fun _ => rfl) (dv Z Z (fun _ => rfl) (dv Z Z (fun _ => rfl) (dt (G7 x2.Name []) (dv Z Z (fun _ => rfl) (Ai Z Z ho12 (fun ho12_1 => ?_) fun ho12_1 => ?_))))))
    ·clear ho12
     exact bB Z Z (bB Z Z (bB Z Z (bB Z Z (bB Z Z (bB Z Z (bB Z Z (bB Z Z (dv Z Z (fun _ => rfl) (dv Z Z (fun _ => rfl) (bB Z Z (bB Z Z (bB Z Z (bB Z Z (bB Z Z (bB Z Z (bB Z Z (bB Z Z (bB Z Z (bB Z Z (bB Z Z (dv Z Z (fun _ => rfl) (dv Z Z (fun _ => rfl) (bB Z Z (bB Z Z (bB Z Z (bB Z Z (bB Z Z (bB Z Z (bB Z Z (bB Z Z (dv Z Z (fun _ => rfl) (dn (rn (si ho12_1 ▸ cN [0]))))))))))))))))))))))))))))))))))
    clear ho12
    refine dv Z Z (fun _ => rfl) (dv Z Z (fun _ => rfl) (dv Z Z (fun _ => rfl) (dv Z Z (fun _ => rfl) (bx ho12_1 fun x4 hx13 ho12_2 => di Z Z Z Z Z (fun _ => rfl) rfl (iF hx13) (kG au hx13) (wM (fun _ => by rfl) _) ?_))))
    refine dv Z Z (fun _ => rfl) (dv Z Z (fun _ => rfl) (dv Z Z (fun _ => rfl) (dv Z Z (fun _ => rfl) (dv Z Z (fun _ => rfl) (Ai Z Z ho12_2 (fun ho12_3 => ?_) fun ho12_3 => ?_)))))
    ·clear ho12_1 ho12_2
     exact bB Z Z (bB Z Z (bB Z Z (bB Z Z (bB Z Z (bB Z Z (bB Z Z (bB Z Z (bB Z Z (bB Z Z (bB Z Z (dv Z Z (fun _ => rfl) (dv Z Z (fun _ => rfl) (bB Z Z (bB Z Z (bB Z Z (bB Z Z (bB Z Z (bB Z Z (bB Z Z (bB Z Z (dv Z Z (fun _ => rfl) (dn (rn (si ho12_3 ▸ cN [0]))))))))))))))))))))))))
    clear ho12_1 ho12_2
    refine dv Z Z (fun _ => rfl) (dv Z Z (fun _ => rfl) (dv Z Z (fun _ => rfl) (Ai Z Z ho12_3 (fun ho12_4 => ?_) fun ho12_4 => ?_)))
    ·clear ho12_3
     refine dv Z Z (fun _ => rfl) (dv Z Z (fun _ => rfl) (dv Z Z (fun _ => rfl) (dv Z Z (fun _ => rfl) (Ai Z Z ho12_4 (fun ho12_5 => ?_) fun ho12_5 => ?_))))
     ·clear ho12_4
      exact bB Z Z (bB Z Z (dv Z Z (fun _ => rfl) (dv Z Z (fun _ => rfl) (dv Z Z (fun _ => rfl) (dv Z Z (fun _ => rfl) (bB Z Z (bB Z Z (bB Z Z (bB Z Z (bB Z Z (bB Z Z (bB Z Z (bB Z Z (dv Z Z (fun _ => rfl) (dn (rn (si ho12_5 ▸ cN [0])))))))))))))))))
     clear ho12_4
     refine dv Z Z (fun _ => rfl) (dv Z Z (fun _ => rfl) (dv Z Z (fun _ => rfl) (dv Z Z (fun _ => rfl) (dv Z Z (fun _ => rfl) (dv Z Z (fun _ => rfl) (Ai Z Z ho12_5 (fun ho12_6 => ?_) fun ho12_6 => ?_))))))
     ·clear ho12_5
      exact bB Z Z (bB Z Z (bB Z Z (bB Z Z (bB Z Z (bB Z Z (bB Z Z (bB Z Z (dv Z Z (fun _ => rfl) (dn (rn (si ho12_6 ▸ cN [0])))))))))))
     clear ho12_5
     refine dv Z Z (fun _ => rfl) (dv Z Z (fun _ => rfl) (dv Z Z (fun _ => rfl) (dv Z Z (fun _ => rfl) (Ai Z Z ho12_6 (fun ho12_7 => ?_) fun ho12_7 => ?_))))
     ·clear ho12_6
      exact dv Z Z (fun _ => rfl) (dv Z Z (fun _ => rfl) (dv Z Z (fun _ => rfl) (dt (G7 x2.S []) (dv Z Z (fun _ => rfl) (dv Z Z (fun _ => rfl) (dn (rn (si ho12_7 ▸ cN [0]))))))))
     clear ho12_6
     exact bB Z Z (bB Z Z (bB Z Z (dv Z Z (fun _ => rfl) (dv Z Z (fun _ => rfl) (dn (rn (si ho12_7 ▸ cN [0])))))))
    clear ho12_3
    refine bB Z Z (bB Z Z (bB Z Z (bB Z Z (bB Z Z (bB Z Z (bB Z Z (dv Z Z (fun _ => rfl) (dv Z Z (fun _ => rfl) (dv Z Z (fun _ => rfl) (dv Z Z (fun _ => rfl) (dv Z Z (fun _ => rfl) (dv Z Z (fun _ => rfl) (dv Z Z (fun _ => rfl) (Ai Z Z ho12_4 (fun ho12_5 => ?_) fun ho12_5 => ?_))))))))))))))
    ·clear ho12_4
     exact dv Z Z (fun _ => rfl) (dv Z Z (fun _ => rfl) (dv Z Z (fun _ => rfl) (dt (G7 x2.S []) (dv Z Z (fun _ => rfl) (dv Z Z (fun _ => rfl) (dn (rn (si ho12_5 ▸ cN [0]))))))))
    clear ho12_4
    exact bB Z Z (bB Z Z (bB Z Z (dv Z Z (fun _ => rfl) (dv Z Z (fun _ => rfl) (dn (rn (si ho12_5 ▸ cN [0])))))))
   clear ho6_1 ho6_2 ho6_3
   rintro x3 rfl
   refine ch (bw rfl ho6_4 (fun ho6_5 => ?_) fun ho6_5 => ?_)
   ·clear ho6_4
    refine ag (rv Z Z (rn (aT ?_)))
    cases ho6_5
    have hq := hE7 _ rfl
    subst hq
    have h_5 := n8 h_4
    subst h_5
    exact rF
   clear ho6_4
   exact aK (ah (aR (rg 3 rfl (rn (si ho6_5 ▸ lN [0])))))
  clear ho6
  refine aW (xX ?_)
  cases ho6_1
  have hq := hE7 _ rfl
  subst hq
  exact cN [0]
 clear h_3
 rintro _ rfl
 have h_5 := ry h_4
 refine ch (aS (ag (rg 3 rfl (rn (bw rfl h_5 (fun h_6 => ?_) fun h_6 => ?_)))))
 ·clear h_4 h_5
  exact ag (rg 3 rfl (rt (jH op1 []) (rv Z Z (rn (aT (si h_6 ▸ rF))))))
 clear h_4 h_5
 refine aK (aS (ag (rg 3 rfl (rn (bw rfl h_6 (fun h_7 => ?_) fun h_7 => ?_)))))
 ·clear h_6
  refine aS (bx h_7 fun o14 ho15 h_8 => aq (fun x => x = o14) (fun (x5 : Bool) => ⟨[(2, .bool x5)], [], [], 0⟩) ?_ ?_)
  ·clear h_7
   refine aR (rg 3 rfl (rt ((lM au vals1)) (rg 2 rfl (dN Z Z Z Z Z ho15 (fun ho15_1 => ?_) fun ho15_1 => ?_))))
   ·clear ho15
    refine rg 2 rfl (gy Z Z Z (bx ho15_1 fun x6 hx16 ho15_2 => ri Z Z Z Z Z Z (iF hx16) (kG au hx16) (wM (fun _ => by rfl) _) ?_))
    refine rg 4 rfl (dN Z Z Z Z Z ho15_2 (fun ho15_3 => ?_) fun ho15_3 => ?_)
    ·clear ho15_1 ho15_2
     exact rg 3 rfl (rt (jH op1 []) (rg 2 rfl (rn (si ho15_3 ▸ cN []))))
    clear ho15_1 ho15_2
    exact rg 4 rfl (rn (si ho15_3 ▸ cN []))
   clear ho15
   exact rg 11 rfl (rn (si ho15_1 ▸ cN []))
  clear h_7
  rintro x5 rfl
  exact ch (aT (si h_8 ▸ rF))
 clear h_6
 refine aK (ag (rg 3 rfl (rt ((lM au vals1)) (rg 2 rfl (dN Z Z Z Z Z h_7 (fun h_8 => ?_) fun h_8 => ?_)))))
 ·clear h_7
  exact rg 2 rfl (gy Z Z Z (bx h_8 fun x7 hx17 h_9 => bt Z Z Z (qY hx17) (rg 2 rfl (rn (aT (si h_9 ▸ rF))))))
 clear h_7
 exact rg 4 rfl (rn (aT (si h_8 ▸ rF)))
mutual
def fb : Nat → aa → Option Bool
 | 0, _ => none
 | fu + 1, f1 => match f1 with | .mk kind1 name1 op1 vals1 l1 => (bif (kind1 == 4) then some true else (bif (kind1 == 5) then some true else some (kind1 == 6)) : Option Bool).bind fun (x1 : Bool) => (bif x1 then ((jg fu (aa.mk kind1 name1 op1 vals1 l1)).bind fun x2 => some x2) else ((some ((l1.length : Int))).bind fun n1 => (bif (kind1 == 1) then (bif (decide (n1 ≥ 2)) then some true else (bif (kind1 == 3) then (bif (n1 == 1) then some true else (bif (kind1 == 7) then some (n1 == 0) else some false)) else (bif (kind1 == 7) then some (n1 == 0) else some false))) else (bif (kind1 == 2) then (bif (decide (n1 ≥ 2)) then some true else (bif (kind1 == 3) then (bif (n1 == 1) then some true else (bif (kind1 == 7) then some (n1 == 0) else some false)) else (bif (kind1 == 7) then some (n1 == 0) else some false))) else (bif (kind1 == 3) then (bif (n1 == 1) then some true else (bif (kind1 == 7) then some (n1 == 0) else some false)) else (bif (kind1 == 7) then some (n1 == 0) else some false))) : Option Bool).bind fun (many1 : Bool) => ((bif (!many1) then some true else (bif (!(name1 == [])) then some true else (bif (!(op1 == [])) then some true else some (decide ((vals1.length : Int) > 0)))) : Option Bool).bind fun (x3 : Bool) => (bif x3 then some false else ((bm (ε := Int) (τ := Unit ⊕ Bool) (fun (i1 : Int) => (bif (decide (i1 < n1)) then ((gi l1 i1).bind fun ok1 => match ok1 with | .mk kind2 name2 op2 vals2 l2 => (fb fu (aa.mk kind2 name2 op2 vals2 l2)).bind fun ok2 => (bif (!ok2) then some true else (bif (kind1 != 3) then ((gi l1 i1).bind fun x5 => match x5 with | .mk kind3 name3 op3 vals3 l3 => some (kind3 == kind1)) else some false) : Option Bool).bind fun (x4 : Bool) => (bif x4 then some (Sum.inr (Sum.inr false)) else some (Sum.inl (W (i1 + 1))))) else some (Sum.inr (Sum.inl ())))) fu 0).bind fun o => kS o fun (_ : Unit) => some true)))))
end
abbrev lf (fu : Nat) : Prop := ∀ {f1} {r : Bool}, fb fu f1 = some r → ai Tryz.prog 145 [.agg (bd f1)] (· = .bool r)
theorem uB {fu : Nat} (ih_dref06_fine : lf fu) : lf (fu + 1) := by
 intro f1 r h
 obtain ⟨kind1, name1, op1, vals1, l1⟩ := f1
 rw [fb] at h
 refine cf Tryz.func145 ?_
 refine ag (rb Z Z (rv Z Z (rn (aS (aS (bx h fun o1 ho2 h_1 => aq (fun x => x = o1) (fun (x1 : Bool) => ⟨[(1, .ptr 0 0), (19, .bool x1)], [(0, 0, .int .i64 kind1), (0, 1, .str (sB name1)), (0, 2, .str (sB op1)), (0, 3, .sl (vals1.map au)), (0, 4, .sl (am l1))], [], 1⟩) ?_ ?_))))))
 ·clear h
  refine aR (rg 4 rfl (eN Z Z Z Z Z ho2 (fun ho2_1 => ?_) fun ho2_1 => ?_))
  ·clear ho2
   refine rg 5 rfl (eN Z Z Z Z Z ho2_1 (fun ho2_2 => ?_) fun ho2_2 => ?_)
   ·clear ho2_1
    exact rg 4 rfl (rn (si ho2_2 ▸ cN [0]))
   clear ho2_1
   exact rg 3 rfl (rn (si ho2_2 ▸ cN [0]))
  clear ho2
  exact rg 8 rfl (rn (si ho2_1 ▸ cN [0]))
 clear h
 rintro x1 rfl
 refine ch (bw rfl h_1 (fun h_2 => ?_) fun h_2 => ?_)
 ·clear h_1
  exact ag (rv Z Z (bx h_2 fun x2 hx3 h_3 => bt Z Z Z (uK hx3) (rv Z Z (rn (aT (si h_3 ▸ rF))))))
 clear h_1
 refine aK (ag (rg 3 rfl (rt ((cp l1)) (rv Z Z ?_))))
 obtain ⟨n1, hx4, h_3⟩ := bs h_2
 refine rt (Ew hx4) (rn (aS (bx h_3 fun o5 ho6 h_4 => aq (fun x => x = o5) (fun (many1 : Bool) => ⟨[(1, .ptr 0 0), (3, .int .i64 n1), (4, .bool many1)], [(0, 0, .int .i64 kind1), (0, 1, .str (sB name1)), (0, 2, .str (sB op1)), (0, 3, .sl (vals1.map au)), (0, 4, .sl (am l1))], [], 1⟩) ?_ ?_)))
 ·clear h_2 h_3
  refine aR (rg 4 rfl (eN Z Z Z Z Z ho6 (fun ho6_1 => ?_) fun ho6_1 => ?_))
  ·clear ho6
   refine rg 5 rfl (dN Z Z Z Z Z ho6_1 (fun ho6_2 => ?_) fun ho6_2 => ?_)
   ·clear ho6_1
    refine rg 4 rfl (eN Z Z Z Z Z ho6_2 (fun ho6_3 => ?_) fun ho6_3 => ?_)
    ·clear ho6_2
     refine rg 4 rfl (dN Z Z Z Z Z ho6_3 (fun ho6_4 => ?_) fun ho6_4 => ?_)
     ·clear ho6_3
      refine rg 5 rfl (eN Z Z Z Z Z ho6_4 (fun ho6_5 => ?_) fun ho6_5 => ?_)
      ·clear ho6_4
       refine rg 4 rfl (dN Z Z Z Z Z ho6_5 (fun ho6_6 => ?_) fun ho6_6 => ?_)
       ·clear ho6_5
        exact rg 5 rfl (rn (si ho6_6 ▸ cN [0]))
       clear ho6_5
       exact rg 4 rfl (rn (si ho6_6 ▸ cN [0]))
      clear ho6_4
      exact rg 3 rfl (gu Z Z Z Z (gu Z Z Z Z (rg 3 rfl (rn (si ho6_5 ▸ cN [0])))))
     clear ho6_3
     refine rg 8 rfl (dN Z Z Z Z Z ho6_4 (fun ho6_5 => ?_) fun ho6_5 => ?_)
     ·clear ho6_4
      exact rg 5 rfl (rn (si ho6_5 ▸ cN [0]))
     clear ho6_4
     exact rg 4 rfl (rn (si ho6_5 ▸ cN [0]))
    clear ho6_2
    exact rg 3 rfl (gu Z Z Z Z (gu Z Z Z Z (rg 7 rfl (gu Z Z Z Z (gu Z Z Z Z (rg 3 rfl (rn (si ho6_3 ▸ cN [0]))))))))
   clear ho6_1
   refine rg 7 rfl (dN Z Z Z Z Z ho6_2 (fun ho6_3 => ?_) fun ho6_3 => ?_)
   ·clear ho6_2
    refine rg 5 rfl (eN Z Z Z Z Z ho6_3 (fun ho6_4 => ?_) fun ho6_4 => ?_)
    ·clear ho6_3
     refine rg 4 rfl (dN Z Z Z Z Z ho6_4 (fun ho6_5 => ?_) fun ho6_5 => ?_)
     ·clear ho6_4
      exact rg 5 rfl (rn (si ho6_5 ▸ cN [0]))
     clear ho6_4
     exact rg 4 rfl (rn (si ho6_5 ▸ cN [0]))
    clear ho6_3
    exact rg 3 rfl (gu Z Z Z Z (gu Z Z Z Z (rg 3 rfl (rn (si ho6_4 ▸ cN [0])))))
   clear ho6_2
   refine rg 8 rfl (dN Z Z Z Z Z ho6_3 (fun ho6_4 => ?_) fun ho6_4 => ?_)
   ·clear ho6_3
    exact rg 5 rfl (rn (si ho6_4 ▸ cN [0]))
   clear ho6_3
   exact rg 4 rfl (rn (si ho6_4 ▸ cN [0]))
  clear ho6
  refine rg 8 rfl (eN Z Z Z Z Z ho6_1 (fun ho6_2 => ?_) fun ho6_2 => ?_)
  ·clear ho6_1
   refine rg 4 rfl (dN Z Z Z Z Z ho6_2 (fun ho6_3 => ?_) fun ho6_3 => ?_)
   ·clear ho6_2
    refine rg 5 rfl (eN Z Z Z Z Z ho6_3 (fun ho6_4 => ?_) fun ho6_4 => ?_)
    ·clear ho6_3
     refine rg 4 rfl (dN Z Z Z Z Z ho6_4 (fun ho6_5 => ?_) fun ho6_5 => ?_)
     ·clear ho6_4
      exact rg 5 rfl (rn (si ho6_5 ▸ cN [0]))
     clear ho6_4
     exact rg 4 rfl (rn (si ho6_5 ▸ cN [0]))
    clear ho6_3
    exact rg 3 rfl (gu Z Z Z Z (gu Z Z Z Z (rg 3 rfl (rn (si ho6_4 ▸ cN [0])))))
   clear ho6_2
   refine rg 8 rfl (dN Z Z Z Z Z ho6_3 (fun ho6_4 => ?_) fun ho6_4 => ?_)
   ·clear ho6_3
    exact rg 5 rfl (rn (si ho6_4 ▸ cN [0]))
   clear ho6_3
   exact rg 4 rfl (rn (si ho6_4 ▸ cN [0]))
  clear ho6_1
  exact rg 3 rfl (gu Z Z Z Z (gu Z Z Z Z (rg 7 rfl (gu Z Z Z Z (gu Z Z Z Z (rg 3 rfl (rn (si ho6_2 ▸ cN [0]))))))))
 clear h_2 h_3
 rintro many1 rfl
 refine ch (aS (aS (bx h_4 fun o7 ho8 h_5 => aq (fun x => x = o7) (fun (x3 : Bool) => ⟨[(1, .ptr 0 0), (3, .int .i64 n1), (72, .bool x3)], [(0, 0, .int .i64 kind1), (0, 1, .str (sB name1)), (0, 2, .str (sB op1)), (0, 3, .sl (vals1.map au)), (0, 4, .sl (am l1))], [], 1⟩) ?_ ?_)))
 ·clear h_4
  refine aR (rg 3 rfl (eN Z Z Z Z Z ho8 (fun ho8_1 => ?_) fun ho8_1 => ?_))
  ·clear ho8
   refine rg 3 rfl (rt (G7 name1 []) (rg 2 rfl (eN Z Z Z Z Z ho8_1 (fun ho8_2 => ?_) fun ho8_2 => ?_)))
   ·clear ho8_1
    refine rg 3 rfl (rt (G7 op1 []) (rg 2 rfl (eN Z Z Z Z Z ho8_2 (fun ho8_3 => ?_) fun ho8_3 => ?_)))
    ·clear ho8_2
     exact rg 3 rfl (rt ((lM au vals1)) (rg 2 rfl (rn (si ho8_3 ▸ cN [0]))))
    clear ho8_2
    exact rg 4 rfl (rn (si ho8_3 ▸ cN [0]))
   clear ho8_1
   exact rg 9 rfl (rn (si ho8_2 ▸ cN [0]))
  clear ho8
  exact rg 14 rfl (rn (si ho8_1 ▸ cN [0]))
 clear h_4
 rintro x3 rfl
 refine ch (bw rfl h_5 (fun h_6 => ?_) fun h_6 => ?_)
 ·clear h_5
  exact ag (rv Z Z (rn (aT (si h_6 ▸ rF))))
 clear h_5
 refine aK (aS (ag (rv Z Z (rn (bx h_6 fun e9 hl10 h_7 => aq (fun x => Sum.inl x = e9) (fun (_ : Unit) => ⟨[], [], [], 0⟩) ?_ ?_)))))
 ·clear h_6
  refine aB (be hl10 (fun (i1 : Int) => ⟨[(1, .ptr 0 0), (3, .int .i64 n1), (5, .int .i64 i1)], [(0, 0, .int .i64 kind1), (0, 1, .str (sB name1)), (0, 2, .str (sB op1)), (0, 3, .sl (vals1.map au)), (0, 4, .sl (am l1))], [], 1⟩) [0] rfl zs ?_)
  intro i1 o13 ho11 hE12
  refine ch (aS (ag (rg 3 rfl (rn (bw rfl ho11 (fun ho11_1 => ?_) fun ho11_1 => ?_)))))
  ·clear ho11
   refine aK (aS (aB (ag (rg 3 rfl (bx ho11_1 fun ok1 hx14 ho11_2 => ri Z Z Z Z Z Z (iF hx14) (dB hx14) (bK _) ?_)))))
   obtain ⟨kind2, name2, op2, vals2, l2⟩ := ok1
   refine rv Z Z (bx ho11_2 fun ok2 hx15 ho11_3 => bt Z Z Z (ih_dref06_fine hx15) (rv Z Z (rn (aS (bx ho11_3 fun o16 ho17 ho11_4 => aq (fun x => x = o16) (fun (x4 : Bool) => ⟨[(1, .ptr 0 0), (3, .int .i64 n1), (5, .int .i64 i1), (101, .bool x4)], [(0, 0, .int .i64 kind1), (0, 1, .str (sB name1)), (0, 2, .str (sB op1)), (0, 3, .sl (vals1.map au)), (0, 4, .sl (am l1))], [], 1⟩) ?_ ?_)))))
   ·clear ho11_1 ho11_2 ho11_3
    refine mw 18 Tryz.mix (dv Z Z (fun _ => rfl) (dv Z Z (fun _ => rfl) (dv Z Z (fun _ => rfl) (Ai Z Z ho17 (fun ho17_1 => ?_) fun ho17_1 => ?_))))
    ·clear ho17
     exact bB Z Z (bB Z Z (bB Z Z (bB Z Z (bB Z Z (bB Z Z (bB Z Z (bB Z Z (bB Z Z (bB Z Z (bB Z Z (bB Z Z (bB Z Z (bB Z Z (dv Z Z (fun _ => rfl) (dn (rn (si ho17_1 ▸ cN [0])))))))))))))))))
    clear ho17
    refine dv Z Z (fun _ => rfl) (dv Z Z (fun _ => rfl) (dv Z Z (fun _ => rfl) (dv Z Z (fun _ => rfl) (Ai Z Z ho17_1 (fun ho17_2 => ?_) fun ho17_2 => ?_))))
    ·clear ho17_1
     refine dv Z Z (fun _ => rfl) (dv Z Z (fun _ => rfl) (dv Z Z (fun _ => rfl) (bx ho17_2 fun x5 hx18 ho17_3 => di Z Z Z Z Z (fun _ => rfl) rfl (iF hx18) (dB hx18) (bK _) ?_)))
     obtain ⟨kind3, name3, op3, vals3, l3⟩ := x5
     exact dv Z Z (fun _ => rfl) (dv Z Z (fun _ => rfl) (dv Z Z (fun _ => rfl) (dv Z Z (fun _ => rfl) (dv Z Z (fun _ => rfl) (dv Z Z (fun _ => rfl) (dv Z Z (fun _ => rfl) (dn (rn (si ho17_3 ▸ cN [0])))))))))
    clear ho17_1
    exact bB Z Z (bB Z Z (bB Z Z (bB Z Z (bB Z Z (bB Z Z (bB Z Z (bB Z Z (bB Z Z (dv Z Z (fun _ => rfl) (dv Z Z (fun _ => rfl) (dn (rn (si ho17_2 ▸ cN [0])))))))))))))
   clear ho11_1 ho11_2 ho11_3
   rintro x4 rfl
   refine ch (bw rfl ho11_4 (fun ho11_5 => ?_) fun ho11_5 => ?_)
   ·clear ho11_4
    refine ag (rv Z Z (rn (aT ?_)))
    cases ho11_5
    have hq := hE12 _ rfl
    subst hq
    have h_8 := n8 h_7
    subst h_8
    exact rF
   clear ho11_4
   exact aK (ah (aR (rg 3 rfl (rn (si ho11_5 ▸ lN [0])))))
  clear ho11
  refine aW (xX ?_)
  cases ho11_1
  have hq := hE12 _ rfl
  subst hq
  exact cN []
 clear h_6
 rintro _ rfl
 have h_8 := ry h_7
 exact ag (rv Z Z (rn (aT (si h_8 ▸ rF))))
end
theorem oi : ∀ {fu : Nat}, lf fu
 | 0 => fun h => by simp [fb] at h
 | fu + 1 => uB (fu := fu) (oi (fu := fu))
mutual
def e8 : Nat → aa → Option Int
 | 0, _ => none
 | fu + 1, f1 => match f1 with | .mk kind1 name1 op1 vals1 l1 => (bm (ε := Int × Int) (τ := Int) (fun (((n1, i1)) : Int × Int) => (bif (decide (i1 < (l1.length : Int))) then (((gi l1 i1).bind fun d1 => match d1 with | .mk kind2 name2 op2 vals2 l2 => (e8 fu (aa.mk kind2 name2 op2 vals2 l2)).bind fun d2 => bif (decide (d2 > n1)) then some d2 else some n1 : Option Int).bind fun (n4 : Int) => some (Sum.inl (n4, W (i1 + 1)))) else some (Sum.inr n1))) fu (0, 0)).bind fun (n3 : Int) => some (W (n3 + 1))
end
abbrev lh (fu : Nat) : Prop := ∀ {f1} {r : Int}, e8 fu f1 = some r → ai Tryz.prog 146 [.agg (bd f1)] (· = .int .i64 r)
section
attribute [local irreducible] cg aM DP ai aP Decidable.decide
theorem uN {fu : Nat} (ih_dref06_Deep : lh fu) : lh (fu + 1) := by
 intro f1 r h
 obtain ⟨kind1, name1, op1, vals1, l1⟩ := f1
 rw [e8] at h
 refine cf Tryz.func146 ?_
 refine ag (rb Z Z (rv Z Z (rn (ag (rv Z Z (rn (aS (ag (rv Z Z (rn (bx h fun e1 hl2 h_1 => aq (fun x => x = e1) (fun (n3 : Int) => ⟨[(3, .int .i64 n3)], [], [], 0⟩) ?_ ?_)))))))))))
 ·clear h
  refine aB (be hl2 (fun (((n1, i1)) : Int × Int) => ⟨[(1, .ptr 0 0), (3, .int .i64 n1), (4, .int .i64 i1)], [(0, 0, .int .i64 kind1), (0, 1, .str (sB name1)), (0, 2, .str (sB op1)), (0, 3, .sl (vals1.map au)), (0, 4, .sl (am l1))], [], 1⟩) [0] rfl zs ?_)
  intro v o5 ho3 hE4
  obtain ⟨n1, i1⟩ := v
  refine ch (aS (ag (rg 4 rfl (rt ((cp l1)) (rv Z Z (rn (bw rfl ho3 (fun ho3_1 => ?_) fun ho3_1 => ?_)))))))
  ·clear ho3
   refine aK (aS (bx ho3_1 fun o6 ho7 ho3_2 => aq (fun x => x = o6) (fun (n4 : Int) => ⟨[(1, .ptr 0 0), (3, .int .i64 n4), (4, .int .i64 i1)], [(0, 0, .int .i64 kind1), (0, 1, .str (sB name1)), (0, 2, .str (sB op1)), (0, 3, .sl (vals1.map au)), (0, 4, .sl (am l1))], [], 1⟩) ?_ ?_))
   ·clear ho3_1
    refine aB (ag (rg 3 rfl (bx ho7 fun d1 hx8 ho7_1 => ri Z Z Z Z Z Z (iF hx8) (dB hx8) (bK _) ?_)))
    obtain ⟨kind2, name2, op2, vals2, l2⟩ := d1
    refine rv Z Z (bx ho7_1 fun d2 hx9 ho7_2 => bt Z Z Z (ih_dref06_Deep hx9) (rv Z Z (rn (ag (rg 3 rfl (rn (bw rfl ho7_2 (fun ho7_3 => ?_) fun ho7_3 => ?_)))))))
    ·clear ho7 ho7_1 ho7_2
     exact aR (rg 2 rfl (rn (ah (si ho7_3 ▸ cN [0]))))
    clear ho7 ho7_1 ho7_2
    exact aK (ah (si ho7_3 ▸ cN [0]))
   clear ho3_1
   rintro n4 rfl
   exact ch (aR (rg 3 rfl (rn (si ho3_2 ▸ lN [0]))))
  clear ho3
  refine aW (xX ?_)
  cases ho3_1
  have hq := hE4 _ rfl
  subst hq
  exact cN []
 clear h
 rintro n3 rfl
 exact ag (rg 3 rfl (rn (aT (si h_1 ▸ rF))))
end
theorem oA : ∀ {fu : Nat}, lh fu
 | 0 => fun h => by simp [e8] at h
 | fu + 1 => uN (fu := fu) (oA (fu := fu))
mutual
def ew : Nat → aa → Option Int
 | 0, _ => none
 | fu + 1, f1 => match f1 with | .mk kind1 name1 op1 vals1 l1 => (bm (ε := Int × Int) (τ := Int) (fun (((n1, i1)) : Int × Int) => (bif (decide (i1 < (l1.length : Int))) then ((gi l1 i1).bind fun n4 => match n4 with | .mk kind2 name2 op2 vals2 l2 => (ew fu (aa.mk kind2 name2 op2 vals2 l2)).bind fun n5 => some (Sum.inl (W (n1 + n5), W (i1 + 1)))) else some (Sum.inr n1))) fu (1, 0)).bind fun (n3 : Int) => some n3
end
abbrev kf (fu : Nat) : Prop := ∀ {f1} {r : Int}, ew fu f1 = some r → ai Tryz.prog 147 [.agg (bd f1)] (· = .int .i64 r)
section
attribute [local irreducible] cg aM DP ai aP Decidable.decide
theorem tZ {fu : Nat} (ih_dref06_Nodes : kf fu) : kf (fu + 1) := by
 intro f1 r h
 obtain ⟨kind1, name1, op1, vals1, l1⟩ := f1
 rw [ew] at h
 refine cf Tryz.func147 ?_
 refine ag (rb Z Z (rv Z Z (rn (ag (rv Z Z (rn (aS (ag (rv Z Z (rn (bx h fun e1 hl2 h_1 => aq (fun x => x = e1) (fun (n3 : Int) => ⟨[(3, .int .i64 n3)], [], [], 0⟩) ?_ ?_)))))))))))
 ·clear h
  refine aB (be hl2 (fun (((n1, i1)) : Int × Int) => ⟨[(1, .ptr 0 0), (3, .int .i64 n1), (4, .int .i64 i1)], [(0, 0, .int .i64 kind1), (0, 1, .str (sB name1)), (0, 2, .str (sB op1)), (0, 3, .sl (vals1.map au)), (0, 4, .sl (am l1))], [], 1⟩) [0] rfl zs ?_)
  intro v o5 ho3 hE4
  obtain ⟨n1, i1⟩ := v
  refine ch (aS (ag (rg 4 rfl (rt ((cp l1)) (rv Z Z (rn (bw rfl ho3 (fun ho3_1 => ?_) fun ho3_1 => ?_)))))))
  ·clear ho3
   refine aK (aS (aB (aR (rg 4 rfl (bx ho3_1 fun n4 hx6 ho3_2 => ri Z Z Z Z Z Z (iF hx6) (dB hx6) (bK _) ?_)))))
   obtain ⟨kind2, name2, op2, vals2, l2⟩ := n4
   exact rv Z Z (bx ho3_2 fun n5 hx7 ho3_3 => bt Z Z Z (ih_dref06_Nodes hx7) (rg 2 rfl (rn (ah (aR (rg 3 rfl (rn (si ho3_3 ▸ lN [0]))))))))
  clear ho3
  refine aW (xX ?_)
  cases ho3_1
  have hq := hE4 _ rfl
  subst hq
  exact cN []
 clear h
 rintro n3 rfl
 exact ag (rg 2 rfl (rn (aT (si h_1 ▸ rF))))
end
theorem nj : ∀ {fu : Nat}, kf fu
 | 0 => fun h => by simp [ew] at h
 | fu + 1 => tZ (fu := fu) (nj (fu := fu))
def kn (fu : Nat) (f1 : aa) : Option Bool :=
 match f1 with | .mk kind1 name1 op1 vals1 l1 => (fb fu (aa.mk kind1 name1 op1 vals1 l1)).bind fun ok1 => bif ok1 then ((e8 fu (aa.mk kind1 name1 op1 vals1 l1)).bind fun x1 => bif (decide (x1 ≤ 10)) then ((ew fu (aa.mk kind1 name1 op1 vals1 l1)).bind fun x2 => some (decide (x2 ≤ 60))) else some false) else some false
section
attribute [local irreducible] cg aM DP ai aP Decidable.decide
theorem wI {fu : Nat} {f1 : aa} {r : Bool} (h : kn fu f1 = some r) : ai Tryz.prog 95 [.agg (bd f1)] (· = .bool r) := by
 obtain ⟨kind1, name1, op1, vals1, l1⟩ := f1
 rw [kn] at h
 refine cf Tryz.func95 ?_
 refine ag (rb Z Z (rv Z Z (rn (ag (rv Z Z (bx h fun ok1 hx1 h_1 => bt Z Z Z (oi hx1) (rv Z Z (rn (ag (rg 2 rfl (dN Z Z Z Z Z h_1 (fun h_2 => ?_) fun h_2 => ?_)))))))))))
 ·clear h h_1
  refine rv Z Z (gy Z Z Z (bx h_2 fun x1 hx2 h_3 => bt Z Z Z (oA hx2) (rg 3 rfl (dN Z Z Z Z Z h_3 (fun h_4 => ?_) fun h_4 => ?_))))
  ·clear h_2 h_3
   exact rv Z Z (gy Z Z Z (bx h_4 fun x2 hx3 h_5 => bt Z Z Z (nj hx3) (rg 3 rfl (rn (aT (si h_5 ▸ rF))))))
  clear h_2 h_3
  exact rg 4 rfl (rn (aT (si h_4 ▸ rF)))
 clear h h_1
 exact rg 9 rfl (rn (aT (si h_2 ▸ rF)))
def fD (fu : Nat) (p1 : aO) : Option (Int × aO) :=
 (bif p1.Bad then some true else some (decide (p1.At ≥ (p1.L.length : Int))) : Option Bool).bind fun (x1 : Bool) => (bif x1 then some (0, p1) else ((gi p1.L p1.At).bind fun x2 => some (x2.Kind, p1)))
theorem mA {fu : Nat} {p1 : aO} {r : Int × aO} (h : fD fu p1 = some r) : aP Tryz.prog 205 1 [.ptr 0 0] [(0, 0, .sl (p1.L.map aJ)), (0, 1, .int .i64 p1.At), (0, 2, .bool p1.Bad)] [] (fun r_ H_ O_ n_ => r_ = .int .i64 r.1 ∧ H_ = [(0, 0, .sl (r.2.L.map aJ)), (0, 1, .int .i64 r.2.At), (0, 2, .bool r.2.Bad)] ∧ O_ = [] ∧ n_ = 1) := by
 rw [fD] at h
 refine nO Tryz.func205 ?_
 refine ag (rv Z Z (rn (aS (aS (bx h fun o1 ho2 h_1 => aq (fun x => x = o1) (fun (x1 : Bool) => ⟨[(0, .ptr 0 0), (18, .bool x1)], [(0, 0, .sl (p1.L.map aJ)), (0, 1, .int .i64 p1.At), (0, 2, .bool p1.Bad)], [], 1⟩) ?_ ?_)))))
 ·clear h
  refine mw 16 Tryz.mix (dv Z Z (fun _ => rfl) (dv Z Z (fun _ => rfl) (dv Z Z (fun _ => rfl) (dv Z Z (fun _ => rfl) (dv Z Z (fun _ => rfl) (Ai Z Z ho2 (fun ho2_1 => ?_) fun ho2_1 => ?_))))))
  ·clear ho2
   exact bB Z Z (bB Z Z (bB Z Z (bB Z Z (bB Z Z (bB Z Z (bB Z Z (bB Z Z (bB Z Z (bB Z Z (dv Z Z (fun _ => rfl) (dn (rn (si ho2_1 ▸ cN [0])))))))))))))
  clear ho2
  exact dv Z Z (fun _ => rfl) (dv Z Z (fun _ => rfl) (dv Z Z (fun _ => rfl) (dv Z Z (fun _ => rfl) (dv Z Z (fun _ => rfl) (dv Z Z (fun _ => rfl) (dv Z Z (fun _ => rfl) (dv Z Z (fun _ => rfl) (dv Z Z (fun _ => rfl) (dt ((lM aJ p1.L)) (dv Z Z (fun _ => rfl) (dv Z Z (fun _ => rfl) (dn (rn (si ho2_1 ▸ cN [0]))))))))))))))
 clear h
 rintro x1 rfl
 refine ch (bw rfl h_1 (fun h_2 => ?_) fun h_2 => ?_)
 ·clear h_1
  refine ag (rv Z Z (rn (aT ?_)))
  obtain rfl := si h_2
  refine rW ?_
  exact rA [0]
 clear h_1
 refine aK (aS (mw 11 Tryz.mix (dv Z Z (fun _ => rfl) (dv Z Z (fun _ => rfl) (dv Z Z (fun _ => rfl) (dv Z Z (fun _ => rfl) (dv Z Z (fun _ => rfl) (dv Z Z (fun _ => rfl) (dv Z Z (fun _ => rfl) (dv Z Z (fun _ => rfl) (bx h_2 fun x2 hx3 h_3 => di Z Z Z Z Z (fun _ => rfl) rfl (iF hx3) (kG aJ hx3) (wM (fun _ => by rfl) _) ?_)))))))))))
 refine dv Z Z (fun _ => rfl) (dv Z Z (fun _ => rfl) (dn (rv Z Z (rn (aT ?_)))))
 obtain rfl := si h_3
 refine rW ?_
 exact rA [0]
def bu (fu : Nat) (p1 : aO) (s1 : aY) : Option (Bool × aO) :=
 (fD fu p1).bind fun k1 => (bif (k1.1 != 2) then some (k1.1 != 5) else some false : Option Bool).bind fun (x1 : Bool) => (bif x1 then some (false, k1.2) else ((gi k1.2.L k1.2.At).bind fun x2 => bif (!(x2.S == s1)) then some (false, k1.2) else some (true, (aO.mk k1.2.L (W (k1.2.At + 1)) k1.2.Bad))))
theorem cv {fu : Nat} {p1 : aO} {s1 : aY} {r : Bool × aO} (h : bu fu p1 s1 = some r) : aP Tryz.prog 144 1 [.ptr 0 0, .str (sB s1)] [(0, 0, .sl (p1.L.map aJ)), (0, 1, .int .i64 p1.At), (0, 2, .bool p1.Bad)] [] (fun r_ H_ O_ n_ => r_ = .bool r.1 ∧ H_ = [(0, 0, .sl (r.2.L.map aJ)), (0, 1, .int .i64 r.2.At), (0, 2, .bool r.2.Bad)] ∧ O_ = [] ∧ n_ = 1) := by
 rw [bu] at h
 refine nO Tryz.func144 ?_
 refine ag (rv Z Z (rn (ag (rv Z Z (bx h fun k1 hx1 h_1 => rh [0] Z Z (mA hx1) Z Z Z zH zO (eA Z Z Z Z ?_))))))
 refine rv Z Z (rn (aS (aS (bx h_1 fun o2 ho3 h_2 => aq (fun x => x = o2) (fun (x1 : Bool) => ⟨[(0, .ptr 0 0), (1, .str (sB s1)), (13, .bool x1)], [(0, 0, .sl (k1.2.L.map aJ)), (0, 1, .int .i64 k1.2.At), (0, 2, .bool k1.2.Bad)], [], 1⟩) ?_ ?_))))
 ·clear h h_1
  refine aR (rg 3 rfl (dN Z Z Z Z Z ho3 (fun ho3_1 => ?_) fun ho3_1 => ?_))
  ·clear ho3
   exact rg 3 rfl (rn (si ho3_1 ▸ cN [0]))
  clear ho3
  exact rg 2 rfl (rn (si ho3_1 ▸ cN [0]))
 clear h h_1
 rintro x1 rfl
 refine ch (bw rfl h_2 (fun h_3 => ?_) fun h_3 => ?_)
 ·clear h_2
  refine ag (rv Z Z (rn (aT ?_)))
  obtain rfl := si h_3
  refine rW ?_
  exact rA [0]
 clear h_2
 refine aK (aS (aS (mw 13 Tryz.mix (dv Z Z (fun _ => rfl) (dv Z Z (fun _ => rfl) (dv Z Z (fun _ => rfl) (dv Z Z (fun _ => rfl) (dv Z Z (fun _ => rfl) (dv Z Z (fun _ => rfl) (dv Z Z (fun _ => rfl) (dv Z Z (fun _ => rfl) (bx h_3 fun x2 hx4 h_4 => di Z Z Z Z Z (fun _ => rfl) rfl (iF hx4) (kG aJ hx4) (wM (fun _ => by rfl) _) ?_))))))))))))
 refine dv Z Z (fun _ => rfl) (dv Z Z (fun _ => rfl) (dv Z Z (fun _ => rfl) (dv Z Z (fun _ => rfl) (dt (G7 x2.S s1) (dn (rn (bw rfl h_4 (fun h_5 => ?_) fun h_5 => ?_)))))))
 ·clear h_3 h_4
  refine ag (rv Z Z (rn (aT ?_)))
  obtain rfl := si h_5
  refine rW ?_
  exact rA [0]
 clear h_3 h_4
 refine aK (ag (rg 8 rfl (rs Z Z Z Z Z Z Z (rn (ag (rv Z Z (rn (aT ?_))))))))
 obtain rfl := si h_5
 refine rW ?_
 exact rA [0]
def cU (fu : Nat) (p1 : aO) (s1 : aY) : Option aO :=
 (bu fu p1 s1).bind fun is1 => bif is1.2.Bad then some (aO.mk is1.2.L is1.2.At true) else some (aO.mk is1.2.L is1.2.At (!is1.1))
theorem jG {fu : Nat} {p1 : aO} {s1 : aY} {r : aO} (h : cU fu p1 s1 = some r) : aP Tryz.prog 234 1 [.ptr 0 0, .str (sB s1)] [(0, 0, .sl (p1.L.map aJ)), (0, 1, .int .i64 p1.At), (0, 2, .bool p1.Bad)] [] (fun r_ H_ O_ n_ => r_ = .tup [] ∧ H_ = [(0, 0, .sl (r.L.map aJ)), (0, 1, .int .i64 r.At), (0, 2, .bool r.Bad)] ∧ O_ = [] ∧ n_ = 1) := by
 rw [cU] at h
 refine nO Tryz.func234 ?_
 refine ag (rg 2 rfl (bx h fun is1 hx1 h_1 => rh [0] Z Z (cv hx1) Z Z Z zH zO (eA Z Z Z Z ?_)))
 refine rv Z Z (rn (aR (rg 6 rfl (eN Z Z Z Z Z h_1 (fun h_2 => ?_) fun h_2 => ?_))))
 ·clear h h_1
  refine rg 5 rfl (rs Z Z Z Z Z Z Z (rn ?_))
  obtain rfl := si h_2
  exact Il [0]
 clear h h_1
 refine rg 4 rfl (rs Z Z Z Z Z Z Z (rn ?_))
 obtain rfl := si h_2
 exact Il [0]
def cJ (fu : Nat) (p1 : aO) (a1 : Int) (b1 : Int) : Option (aE × aO) :=
 (fD fu p1).bind fun k1 => (bif (k1.1 == 0) then some true else (bif (k1.1 != a1) then some (k1.1 != b1) else some false) : Option Bool).bind fun (x1 : Bool) => (bif x1 then some ((aE.mk 0 0 0 []), (aO.mk k1.2.L k1.2.At true)) else ((gi k1.2.L (W ((W (k1.2.At + 1)) - 1))).bind fun x2 => some (x2, (aO.mk k1.2.L (W (k1.2.At + 1)) k1.2.Bad))))
theorem iJ {fu : Nat} {p1 : aO} {a1 : Int} {b1 : Int} {r : aE × aO} (h : cJ fu p1 a1 b1 = some r) : aP Tryz.prog 257 1 [.ptr 0 0, .int .i64 a1, .int .i64 b1] [(0, 0, .sl (p1.L.map aJ)), (0, 1, .int .i64 p1.At), (0, 2, .bool p1.Bad)] [] (fun r_ H_ O_ n_ => r_ = .agg [.int .i64 r.1.Kind, .int .i64 r.1.At, .int .i64 r.1.N, .str (sB r.1.S)] ∧ H_ = [(0, 0, .sl (r.2.L.map aJ)), (0, 1, .int .i64 r.2.At), (0, 2, .bool r.2.Bad)] ∧ O_ = [] ∧ n_ = 1) := by
 rw [cJ] at h
 refine nO Tryz.func257 ?_
 refine ag (ra Z Z Z (rn (ag (rv Z Z (bx h fun k1 hx1 h_1 => rh [0] Z Z (mA hx1) Z Z Z zH zO (eA Z Z Z Z ?_))))))
 refine rv Z Z (rn (aS (aS (bx h_1 fun o2 ho3 h_2 => aq (fun x => x = o2) (fun (x1 : Bool) => ⟨[(0, .ptr 0 0), (6, .ptr 1 0), (21, .bool x1)], [(0, 0, .sl (k1.2.L.map aJ)), (0, 1, .int .i64 k1.2.At), (0, 2, .bool k1.2.Bad), (1, 0, .int .i64 0), (1, 1, .int .i64 0), (1, 2, .int .i64 0), (1, 3, .str (sB []))], [], 2⟩) ?_ ?_))))
 ·clear h h_1
  refine aR (rg 3 rfl (eN Z Z Z Z Z ho3 (fun ho3_1 => ?_) fun ho3_1 => ?_))
  ·clear ho3
   refine rg 4 rfl (dN Z Z Z Z Z ho3_1 (fun ho3_2 => ?_) fun ho3_2 => ?_)
   ·clear ho3_1
    exact rg 5 rfl (rn (si ho3_2 ▸ cN [0,1]))
   clear ho3_1
   exact rg 4 rfl (rn (si ho3_2 ▸ cN [0,1]))
  clear ho3
  exact rg 3 rfl (gu Z Z Z Z (gu Z Z Z Z (gu Z Z Z Z (rg 2 rfl (rn (si ho3_1 ▸ cN [0,1]))))))
 clear h h_1
 rintro x1 rfl
 refine ch (bw rfl h_2 (fun h_3 => ?_) fun h_3 => ?_)
 ·clear h_2
  refine ag (rg 3 rfl (rs Z Z Z Z Z Z Z (rn (ag (rv Z Z (rs Z Z Z Z Z Z Z (rn (aT ?_))))))))
  obtain rfl := si h_3
  refine rW ?_
  exact rA [0]
 clear h_2
 refine aK (ag (rg 8 rfl (rs Z Z Z Z Z Z Z (rn (aS (mw 11 Tryz.mix (dv Z Z (fun _ => rfl) (dv Z Z (fun _ => rfl) (dv Z Z (fun _ => rfl) (dv Z Z (fun _ => rfl) (dv Z Z (fun _ => rfl) (dv Z Z (fun _ => rfl) (dv Z Z (fun _ => rfl) (dv Z Z (fun _ => rfl) (dv Z Z (fun _ => rfl) (bx h_3 fun x2 hx4 h_4 => di Z Z Z Z Z (fun _ => rfl) rfl (iF hx4) (kG aJ hx4) (wM (fun _ => by rfl) _) ?_))))))))))))))))
 refine dv Z Z (fun _ => rfl) (dn (rs Z Z Z Z Z Z Z (rn (aT ?_))))
 obtain rfl := si h_4
 refine rW ?_
 exact rA [0]
def cw (fu : Nat) (p1 : aO) : Option (aI × aO) :=
 (cJ fu p1 3 4).bind fun x1 => bif (x1.1.Kind == 4) then some ((aI.mk [] true 0 x1.1.S), x1.2) else some ((aI.mk [] false x1.1.N []), x1.2)
theorem im {fu : Nat} {p1 : aO} {r : aI × aO} (h : cw fu p1 = some r) : aP Tryz.prog 258 1 [.ptr 0 0] [(0, 0, .sl (p1.L.map aJ)), (0, 1, .int .i64 p1.At), (0, 2, .bool p1.Bad)] [] (fun r_ H_ O_ n_ => r_ = .agg [.str (sB r.1.Name), .bool r.1.Text, .int .i64 r.1.N, .str (sB r.1.S)] ∧ H_ = [(0, 0, .sl (r.2.L.map aJ)), (0, 1, .int .i64 r.2.At), (0, 2, .bool r.2.Bad)] ∧ O_ = [] ∧ n_ = 1) := by
 rw [cw] at h
 refine nO Tryz.func258 ?_
 refine ag (ra Z Z Z (rn (ag (rv Z Z (bx h fun x1 hx1 h_1 => rh [0] Z Z (iJ hx1) Z Z Z zH zO (eA Z Z Z Z ?_))))))
 refine ra Z Z Z (rs Z Z Z Z Z Z Z (rn (aS (ag (rg 3 rfl (rn (bw rfl h_1 (fun h_2 => ?_) fun h_2 => ?_)))))))
 ·clear h h_1
  refine ag (rg 3 rfl (rs Z Z Z Z Z Z Z (rn (aT ?_))))
  obtain rfl := si h_2
  refine rW ?_
  exact rA [0]
 clear h h_1
 refine aK (ag (rg 3 rfl (rs Z Z Z Z Z Z Z (rn (aT ?_)))))
 obtain rfl := si h_2
 refine rW ?_
 exact rA [0]
def ga (fu : Nat) (p1 : aO) : Option (aa × aO) :=
 (cJ fu p1 1 1).bind fun x1 => (bu fu x1.2 [105, 110]).bind fun x2 => bif x2.1 then ((cU fu x2.2 [40]).bind fun x3 => (cw fu x3).bind fun x4 => (ap [] [x4.1]).bind fun l1 => (bm (ε := (List aE) × Int × Bool × (List aI)) (τ := (List aE) × Int × Bool × (List aI)) (fun (((p2, p3, p4, l2)) : (List aE) × Int × Bool × (List aI)) => ((bu fu (aO.mk p2 p3 p4) [44]).bind fun x5 => bif x5.1 then ((cw fu x5.2).bind fun x6 => (bif x6.2.Bad then some true else some (!(x6.1.Text == x4.1.Text)) : Option Bool).bind fun (p11 : Bool) => ((ap l2 [x6.1]).bind fun l5 => some (Sum.inl (x6.2.L, x6.2.At, p11, l5)))) else some (Sum.inr (x5.2.L, x5.2.At, x5.2.Bad, l2)))) fu (x4.2.L, x4.2.At, x4.2.Bad, l1)).bind fun (((p8, p9, p10, l4)) : (List aE) × Int × Bool × (List aI)) => ((cU fu (aO.mk p8 p9 p10) [41]).bind fun x7 => some ((aa.mk 6 x1.1.S [] l4 []), x7))) else ((bu fu x2.2 [94, 61]).bind fun x8 => bif x8.1 then ((cw fu x8.2).bind fun x9 => (bif x9.2.Bad then some true else some (!x9.1.Text) : Option Bool).bind fun (x10 : Bool) => ((ap [] [x9.1]).bind fun l6 => some ((aa.mk 5 x1.1.S [] l6 []), (aO.mk x9.2.L x9.2.At x10)))) else ((cJ fu x8.2 5 5).bind fun x11 => (bif x11.2.Bad then some true else ((iQ fu x11.1.S).bind fun x12 => some (!x12)) : Option Bool).bind fun (p12 : Bool) => ((cw fu (aO.mk x11.2.L x11.2.At p12)).bind fun x13 => (ap [] [x13.1]).bind fun l7 => some ((aa.mk 4 x1.1.S x11.1.S l7 []), x13.2))))
theorem qC {fu : Nat} {p1 : aO} {r : aa × aO} (h : ga fu p1 = some r) : aP Tryz.prog 235 1 [.ptr 0 0] [(0, 0, .sl (p1.L.map aJ)), (0, 1, .int .i64 p1.At), (0, 2, .bool p1.Bad)] [] (fun r_ H_ O_ n_ => r_ = .agg (bd r.1) ∧ H_ = [(0, 0, .sl (r.2.L.map aJ)), (0, 1, .int .i64 r.2.At), (0, 2, .bool r.2.Bad)] ∧ O_ = [] ∧ n_ = 1) := by
 rw [ga] at h
 refine nO Tryz.func235 ?_
 refine ag (ra Z Z Z (rn (ag (rv Z Z (bx h fun x1 hx1 h_1 => rh [0] Z Z (iJ hx1) Z Z Z zH zO (eA Z Z Z Z ?_))))))
 refine ra Z Z Z (rs Z Z Z Z Z Z Z (rn (ag (rg 3 rfl (ra Z Z Z (rs Z Z Z Z Z Z Z (rn (aS (ag (rv Z Z (bx h_1 fun x2 hx2 h_2 => rh [0] Z Z (cv hx2) Z Z Z zH zO (eA Z Z Z Z ?_))))))))))))
 refine rn (bw rfl h_2 (fun h_3 => ?_) fun h_3 => ?_)
 ·clear h h_1 h_2
  refine ag (rv Z Z (rs Z Z Z Z Z Z Z (rn (ag (rv Z Z (bx h_3 fun x3 hx3 h_4 => rh [0] Z Z (jG hx3) Z Z Z zH zO (eA Z Z Z Z ?_)))))))
  refine rn (ag (rv Z Z (bx h_4 fun x4 hx4 h_5 => rh [0] Z Z (im hx4) Z Z Z zH zO (eA Z Z Z Z ?_))))
  refine ra Z Z Z (rs Z Z Z Z Z Z Z (rn (ag (rg 3 rfl (mz false Z Z Z Z Z Z Z Z Z Z (bx h_5 fun l1 hx5 h_6 => pu false (z := 4) (xs := [].map au) (ys := [x4.1].map au) Z Z Z Z Z Z Z (.nil rfl) (.sl Z Z Z) (wM (fun _ => by rfl) _) (oM (fun _ => by rfl) _) (wA au rfl hx5) rfl ?_))))))
  refine rk (congrArg (Kind.row _) (wR au hx5)) (rv Z Z (rs Z Z Z Z Z Z Z (rn (aS (bx h_6 fun e6 hl7 h_7 => aq (fun x => x = e6) (fun (((p8, p9, p10, l4)) : (List aE) × Int × Bool × (List aI)) => ⟨[(0, .ptr 0 0), (2, .ptr 1 0), (4, .ptr 2 0)], [(0, 0, .sl (p8.map aJ)), (0, 1, .int .i64 p9), (0, 2, .bool p10), (1, 0, .int .i64 0), (1, 1, .str (sB [])), (1, 2, .str (sB [])), (1, 3, .nilS), (1, 4, .nilS), (2, 0, .int .i64 6), (2, 1, .str (sB x1.1.S)), (2, 2, .str (sB [])), (2, 3, .own 3), (2, 4, .nilS)], [(3, .row 4 (l4.map au))], 4⟩) ?_ ?_)))))
  ·clear h_3 h_4 h_5 h_6
   refine aB (be hl7 (fun (((p2, p3, p4, l2)) : (List aE) × Int × Bool × (List aI)) => ⟨[(0, .ptr 0 0), (2, .ptr 1 0), (4, .ptr 2 0), (5, .ptr 3 0)], [(0, 0, .sl (p2.map aJ)), (0, 1, .int .i64 p3), (0, 2, .bool p4), (1, 0, .int .i64 0), (1, 1, .str (sB [])), (1, 2, .str (sB [])), (1, 3, .nilS), (1, 4, .nilS), (2, 0, .int .i64 6), (2, 1, .str (sB x1.1.S)), (2, 2, .str (sB [])), (2, 3, .own 4), (2, 4, .nilS), (3, 0, .str (sB x4.1.Name)), (3, 1, .bool x4.1.Text), (3, 2, .int .i64 x4.1.N), (3, 3, .str (sB x4.1.S))], [(4, .row 4 (l2.map au))], 5⟩) [0,1,3,4,6] rfl zs ?_)
   intro v o10 ho8 hE9
   obtain ⟨p2, p3, p4, l2⟩ := v
   refine ch (aS (ag (rv Z Z (bx ho8 fun x5 hx11 ho8_1 => rh [0] Z Z (cv hx11) Z Z Z zH zO (eA Z Z Z Z ?_)))))
   refine rn (bw rfl ho8_1 (fun ho8_2 => ?_) fun ho8_2 => ?_)
   ·clear ho8 ho8_1
    refine aK (aB (ag (rv Z Z (bx ho8_2 fun x6 hx12 ho8_3 => rh [0] Z Z (im hx12) Z Z Z zH zO (eA Z Z Z Z ?_)))))
    refine ra Z Z Z (rs Z Z Z Z Z Z Z (rn (aS (bx ho8_3 fun o13 ho14 ho8_4 => aq (fun x => x = o13) (fun (p11 : Bool) => ⟨[(0, .ptr 0 0), (2, .ptr 1 0), (4, .ptr 2 0), (5, .ptr 3 0), (6, .ptr 4 0)], [(0, 0, .sl (x6.2.L.map aJ)), (0, 1, .int .i64 x6.2.At), (0, 2, .bool p11), (1, 0, .int .i64 0), (1, 1, .str (sB [])), (1, 2, .str (sB [])), (1, 3, .nilS), (1, 4, .nilS), (2, 0, .int .i64 6), (2, 1, .str (sB x1.1.S)), (2, 2, .str (sB [])), (2, 3, .own 5), (2, 4, .nilS), (3, 0, .str (sB x4.1.Name)), (3, 1, .bool x4.1.Text), (3, 2, .int .i64 x4.1.N), (3, 3, .str (sB x4.1.S)), (4, 0, .str (sB x6.1.Name)), (4, 1, .bool x6.1.Text), (4, 2, .int .i64 x6.1.N), (4, 3, .str (sB x6.1.S))], [(5, .row 4 (l2.map au))], 6⟩) ?_ ?_))))
    ·clear ho8_2 ho8_3
     refine aR (rg 6 rfl (eN Z Z Z Z Z ho14 (fun ho14_1 => ?_) fun ho14_1 => ?_))
     ·clear ho14
      exact rg 8 rfl (rs Z Z Z Z Z Z Z (rn (si ho14_1 ▸ cN [0,1,2,3,5,4])))
     clear ho14
     exact rg 7 rfl (rs Z Z Z Z Z Z Z (rn (si ho14_1 ▸ cN [0,1,2,3,5,4])))
    clear ho8_2 ho8_3
    rintro p11 rfl
    refine ch (aR (rg 3 rfl (mz false Z Z Z Z Z Z Z Z Z Z (bx ho8_4 fun l5 hx15 ho8_5 => pu false (z := 4) (xs := l2.map au) (ys := [x6.1].map au) Z Z Z Z Z Z Z (.own Z Z) (.sl Z Z Z) (wM (fun _ => by rfl) _) (oM (fun _ => by rfl) _) (wA au rfl hx15) rfl ?_))))
    exact rk (congrArg (Kind.row _) (wR au hx15)) (rv Z Z (rs Z Z Z Z Z Z Z (rn (ah (si ho8_5 ▸ lN [0,1,2,3,7])))))
   clear ho8 ho8_1
   refine aW (xX ?_)
   cases ho8_2
   have hq := hE9 _ rfl
   subst hq
   exact cN [0,1,2,4]
  clear h_3 h_4 h_5 h_6
  rintro ⟨p8, p9, p10, l4⟩ rfl
  refine ch (ag (rv Z Z (bx h_7 fun x7 hx16 h_8 => rh [0] Z Z (jG hx16) Z Z Z zH zO (eA Z Z Z Z ?_))))
  refine rn (ag (rv Z Z (rs Z Z Z Z Z Z Z (rn (aT ?_)))))
  obtain rfl := si h_8
  refine rW ?_
  exact rA [0]
 clear h h_1 h_2
 refine aK (aS (ag (rv Z Z (bx h_3 fun x8 hx17 h_4 => rh [0] Z Z (cv hx17) Z Z Z zH zO (eA Z Z Z Z ?_)))))
 refine rn (bw rfl h_4 (fun h_5 => ?_) fun h_5 => ?_)
 ·clear h_3 h_4
  refine ag (rv Z Z (rs Z Z Z Z Z Z Z (rn (ag (rv Z Z (bx h_5 fun x9 hx18 h_6 => rh [0] Z Z (im hx18) Z Z Z zH zO (eA Z Z Z Z ?_)))))))
  refine ra Z Z Z (rs Z Z Z Z Z Z Z (rn (aS (bx h_6 fun o19 ho20 h_7 => aq (fun x => x = o19) (fun (x10 : Bool) => ⟨[(2, .ptr 1 0), (4, .ptr 2 0), (7, .ptr 3 0)], [(0, 0, .sl (x9.2.L.map aJ)), (0, 1, .int .i64 x9.2.At), (0, 2, .bool x10), (1, 0, .int .i64 0), (1, 1, .str (sB [])), (1, 2, .str (sB [])), (1, 3, .nilS), (1, 4, .nilS), (2, 0, .int .i64 5), (2, 1, .str (sB x1.1.S)), (2, 2, .str (sB [])), (2, 3, .nilS), (2, 4, .nilS), (3, 0, .str (sB x9.1.Name)), (3, 1, .bool x9.1.Text), (3, 2, .int .i64 x9.1.N), (3, 3, .str (sB x9.1.S))], [], 4⟩) ?_ ?_))))
  ·clear h_5 h_6
   refine aR (rg 6 rfl (eN Z Z Z Z Z ho20 (fun ho20_1 => ?_) fun ho20_1 => ?_))
   ·clear ho20
    exact rg 6 rfl (rs Z Z Z Z Z Z Z (rn (si ho20_1 ▸ cN [0,1,3,4])))
   clear ho20
   exact rg 5 rfl (rs Z Z Z Z Z Z Z (rn (si ho20_1 ▸ cN [0,1,3,4])))
  clear h_5 h_6
  rintro x10 rfl
  refine ch (ag (rg 3 rfl (mz false Z Z Z Z Z Z Z Z Z Z (bx h_7 fun l6 hx21 h_8 => pu false (z := 4) (xs := [].map au) (ys := [x9.1].map au) Z Z Z Z Z Z Z (.nil rfl) (.sl Z Z Z) (wM (fun _ => by rfl) _) (oM (fun _ => by rfl) _) (wA au rfl hx21) rfl ?_))))
  refine rk (congrArg (Kind.row _) (wR au hx21)) (rv Z Z (rs Z Z Z Z Z Z Z (rn (ag (rv Z Z (rs Z Z Z Z Z Z Z (rn (aT ?_))))))))
  obtain rfl := si h_8
  refine rW ?_
  exact rA [0]
 clear h_3 h_4
 refine aK (ag (rv Z Z (rs Z Z Z Z Z Z Z (rn (ag (rv Z Z (bx h_5 fun x11 hx22 h_6 => rh [0] Z Z (iJ hx22) Z Z Z zH zO (eA Z Z Z Z ?_))))))))
 refine ra Z Z Z (rs Z Z Z Z Z Z Z (rn (aS (bx h_6 fun o23 ho24 h_7 => aq (fun x => x = o23) (fun (p12 : Bool) => ⟨[(0, .ptr 0 0), (2, .ptr 1 0), (4, .ptr 2 0), (8, .ptr 3 0)], [(0, 0, .sl (x11.2.L.map aJ)), (0, 1, .int .i64 x11.2.At), (0, 2, .bool p12), (1, 0, .int .i64 0), (1, 1, .str (sB [])), (1, 2, .str (sB [])), (1, 3, .nilS), (1, 4, .nilS), (2, 0, .int .i64 4), (2, 1, .str (sB x1.1.S)), (2, 2, .str (sB [])), (2, 3, .nilS), (2, 4, .nilS), (3, 0, .int .i64 x11.1.Kind), (3, 1, .int .i64 x11.1.At), (3, 2, .int .i64 x11.1.N), (3, 3, .str (sB x11.1.S))], [], 4⟩) ?_ ?_))))
 ·clear h_5 h_6
  refine aR (rg 6 rfl (eN Z Z Z Z Z ho24 (fun ho24_1 => ?_) fun ho24_1 => ?_))
  ·clear ho24
   exact rg 2 rfl (gy Z Z Z (bx ho24_1 fun x12 hx25 ho24_2 => bt Z Z Z (qY hx25) (rg 4 rfl (rs Z Z Z Z Z Z Z (rn (si ho24_2 ▸ cN [0,1,3,4]))))))
  clear ho24
  exact rg 6 rfl (rs Z Z Z Z Z Z Z (rn (si ho24_1 ▸ cN [0,1,3,4])))
 clear h_5 h_6
 rintro p12 rfl
 refine ch (ag (rg 3 rfl (rs Z Z Z Z Z Z Z (rn (ag (rv Z Z (bx h_7 fun x13 hx26 h_8 => rh [0] Z Z (im hx26) Z Z Z zH zO (eA Z Z Z Z ?_))))))))
 refine ra Z Z Z (rs Z Z Z Z Z Z Z (rn (ag (rg 3 rfl (mz false Z Z Z Z Z Z Z Z Z Z (bx h_8 fun l7 hx27 h_9 => pu false (z := 4) (xs := [].map au) (ys := [x13.1].map au) Z Z Z Z Z Z Z (.nil rfl) (.sl Z Z Z) (wM (fun _ => by rfl) _) (oM (fun _ => by rfl) _) (wA au rfl hx27) rfl ?_))))))
 refine rk (congrArg (Kind.row _) (wR au hx27)) (rv Z Z (rs Z Z Z Z Z Z Z (rn (ag (rv Z Z (rs Z Z Z Z Z Z Z (rn (aT ?_))))))))
 obtain rfl := si h_9
 refine rW ?_
 exact rA [0]
def dM (fu : Nat) (f1 : aa) (x1 : aa) : Option aa :=
 match f1 with | .mk kind1 name1 op1 vals1 l1 => match x1 with | .mk kind2 name2 op2 vals2 l2 => bif (kind2 == kind1) then ((ap [] l1).bind fun l3 => (ap l3 l2).bind fun l4 => some (aa.mk kind1 name1 op1 vals1 l4)) else ((ap [] l1).bind fun l5 => (ap l5 [(aa.mk kind2 name2 op2 vals2 l2)]).bind fun l6 => some (aa.mk kind1 name1 op1 vals1 l6))
theorem jT {fu : Nat} {f1 : aa} {x1 : aa} {r : aa} (h : dM fu f1 x1 = some r) : ai Tryz.prog 143 [.agg (bd f1), .agg (bd x1)] (· = .agg (bd r)) := by
 obtain ⟨kind1, name1, op1, vals1, l1⟩ := f1
 obtain ⟨kind2, name2, op2, vals2, l2⟩ := x1
 rw [dM] at h
 refine cf Tryz.func143 ?_
 refine ag (rb Z Z (rb Z Z (ra Z Z Z (rn (aS (ag (rg 5 rfl (rn (bw rfl h (fun h_1 => ?_) fun h_1 => ?_)))))))))
 ·clear h
  refine aS (Eu 8 [] Tryz.mix ?_)
  refine xE [] (.own 3) 4 _ _ Z Z (by
    refine mz false Z Z Z Z Z Z Z Z Z Z ?_
    exact rn ⟨rfl, rfl⟩) (by rfl) (by rfl) (by rfl) ?_
  refine xv [] Z Z (fun _ => rfl) (xv [0] Z Z (fun _ => rfl) (bx h_1 fun l3 hx1 h_2 => ?_))
  refine xE [3] (.own 4) 5 _ _ Z Z (by
    refine pu false (z := 5) (xs := am []) (ys := am l1) Z Z Z Z Z Z Z (.own Z Z) (.sl Z Z Z) (bK _) (eF _) (dX rfl hx1) rfl ?_
    refine rk (congrArg (Kind.row _) (dY hx1)) ?_
    exact rn ⟨rfl, rfl⟩) (by rfl) (by rfl) (by rfl) ?_
  refine xv [] Z Z (fun _ => rfl) (xv [1] Z Z (fun _ => rfl) (bx h_2 fun l4 hx2 h_3 => ?_))
  refine xE [4] (.own 5) 6 _ _ Z Z (by
    refine pu false (z := 5) (xs := am l3) (ys := am l2) Z Z Z Z Z Z Z (.own Z Z) (.sl Z Z Z) (bK _) (eF _) (dX rfl hx2) rfl ?_
    refine rk (congrArg (Kind.row _) (dY hx2)) ?_
    exact rn ⟨rfl, rfl⟩) (by rfl) (by rfl) (by rfl) ?_
  exact xv [] Z Z (fun _ => rfl) (xn (by kernel_rfl) (rs Z Z Z Z Z Z Z (rn (ag (rv Z Z (rs Z Z Z Z Z Z Z (rn (aT (si h_3 ▸ rF)))))))))
 clear h
 refine aK (aS (Eu 8 [] Tryz.mix ?_))
 refine xE [] (.own 3) 4 _ _ Z Z (by
   refine mz false Z Z Z Z Z Z Z Z Z Z ?_
   exact rn ⟨rfl, rfl⟩) (by rfl) (by rfl) (by rfl) ?_
 refine xv [] Z Z (fun _ => rfl) (xv [0] Z Z (fun _ => rfl) (bx h_1 fun l5 hx3 h_2 => ?_))
 refine xE [3] (.own 4) 5 _ _ Z Z (by
   refine pu false (z := 5) (xs := am []) (ys := am l1) Z Z Z Z Z Z Z (.own Z Z) (.sl Z Z Z) (bK _) (eF _) (dX rfl hx3) rfl ?_
   refine rk (congrArg (Kind.row _) (dY hx3)) ?_
   exact rn ⟨rfl, rfl⟩) (by rfl) (by rfl) (by rfl) ?_
 refine xv [1] Z Z (fun _ => rfl) ?_
 refine xE [] (.own 5) 6 _ _ Z Z (by
   refine mz false Z Z Z Z Z Z Z Z Z Z ?_
   exact rn ⟨rfl, rfl⟩) (by rfl) (by rfl) (by rfl) ?_
 refine bx h_2 fun l6 hx4 h_3 => ?_
 refine xE [4, 5] (.own 6) 7 _ _ Z Z (by
   refine pu false (z := 5) (xs := am l5) (ys := am [(aa.mk kind2 name2 op2 vals2 l2)]) Z Z Z Z Z Z Z (.own Z Z) (.sl Z Z Z) (bK _) (eF _) (dX rfl hx4) rfl ?_
   refine rk (congrArg (Kind.row _) (dY hx4)) ?_
   exact rn ⟨rfl, rfl⟩) (by rfl) (by rfl) (by rfl) ?_
 exact xv [] Z Z (fun _ => rfl) (xn (by kernel_rfl) (rs Z Z Z Z Z Z Z (rn (ag (rv Z Z (rs Z Z Z Z Z Z Z (rn (aT (si h_3 ▸ rF)))))))))
mutual
def cW : Nat → aO → Option (aa × aO)
 | 0, _ => none
 | fu + 1, p1 => (bu fu p1 [110, 111, 116]).bind fun x1 => bif x1.1 then ((cW fu x1.2).bind fun x2 => match x2 with | (.mk kind1 name1 op1 vals1 l1, x3) => some ((aa.mk 3 [] [] [] [(aa.mk kind1 name1 op1 vals1 l1)]), x3)) else ((bu fu x1.2 [40]).bind fun x4 => bif x4.1 then ((fa fu x4.2).bind fun x5 => match x5 with | (.mk kind2 name2 op2 vals2 l2, x6) => (cU fu x6 [41]).bind fun x7 => some ((aa.mk kind2 name2 op2 vals2 l2), x7)) else ((bu fu x4.2 [116, 114, 117, 101]).bind fun x8 => bif x8.1 then some ((aa.mk 7 [] [] [] []), x8.2) else ((ga fu x8.2).bind fun x9 => match x9 with | (.mk kind3 name3 op3 vals3 l3, x10) => some ((aa.mk kind3 name3 op3 vals3 l3), x10))))
def dU : Nat → aO → Option (aa × aO)
 | 0, _ => none
 | fu + 1, p1 => (cW fu p1).bind fun x1 => match x1 with | (.mk kind1 name1 op1 vals1 l1, x2) => (dM fu (aa.mk 1 [] [] [] []) (aa.mk kind1 name1 op1 vals1 l1)).bind fun x3 => match x3 with | .mk kind2 name2 op2 vals2 l2 => (bm (ε := Int × (List aE) × Int × Bool × Int × aY × aY × (List aI) × (List aa)) (τ := Int × (List aE) × Int × Bool × Int × aY × aY × (List aI) × (List aa)) (fun (((n1, p2, p3, p4, f1, f2, f3, f4, f5)) : Int × (List aE) × Int × Bool × Int × aY × aY × (List aI) × (List aa)) => ((bu fu (aO.mk p2 p3 p4) [97, 110, 100]).bind fun x7 => bif x7.1 then ((cW fu x7.2).bind fun x8 => match x8 with | (.mk kind3 name3 op3 vals3 l3, x9) => (dM fu (aa.mk f1 f2 f3 f4 f5) (aa.mk kind3 name3 op3 vals3 l3)).bind fun x10 => match x10 with | .mk kind4 name4 op4 vals4 l4 => some (Sum.inl (W (n1 + 1), x9.L, x9.At, x9.Bad, kind4, name4, op4, vals4, l4))) else some (Sum.inr (n1, x7.2.L, x7.2.At, x7.2.Bad, f1, f2, f3, f4, f5)))) fu (0, x2.L, x2.At, x2.Bad, kind2, name2, op2, vals2, l2)).bind fun (((n3, x4, x5, x6, f11, f12, f13, f14, f15)) : Int × (List aE) × Int × Bool × Int × aY × aY × (List aI) × (List aa)) => (bif (n3 == 0) then some ((aa.mk kind1 name1 op1 vals1 l1), (aO.mk x4 x5 x6)) else some ((aa.mk f11 f12 f13 f14 f15), (aO.mk x4 x5 x6)))
def fa : Nat → aO → Option (aa × aO)
 | 0, _ => none
 | fu + 1, p1 => (dU fu p1).bind fun x1 => match x1 with | (.mk kind1 name1 op1 vals1 l1, x2) => (dM fu (aa.mk 2 [] [] [] []) (aa.mk kind1 name1 op1 vals1 l1)).bind fun x3 => match x3 with | .mk kind2 name2 op2 vals2 l2 => (bm (ε := Int × (List aE) × Int × Bool × Int × aY × aY × (List aI) × (List aa)) (τ := Int × (List aE) × Int × Bool × Int × aY × aY × (List aI) × (List aa)) (fun (((n1, p2, p3, p4, f1, f2, f3, f4, f5)) : Int × (List aE) × Int × Bool × Int × aY × aY × (List aI) × (List aa)) => ((bu fu (aO.mk p2 p3 p4) [111, 114]).bind fun x7 => bif x7.1 then ((dU fu x7.2).bind fun x8 => match x8 with | (.mk kind3 name3 op3 vals3 l3, x9) => (dM fu (aa.mk f1 f2 f3 f4 f5) (aa.mk kind3 name3 op3 vals3 l3)).bind fun x10 => match x10 with | .mk kind4 name4 op4 vals4 l4 => some (Sum.inl (W (n1 + 1), x9.L, x9.At, x9.Bad, kind4, name4, op4, vals4, l4))) else some (Sum.inr (n1, x7.2.L, x7.2.At, x7.2.Bad, f1, f2, f3, f4, f5)))) fu (0, x2.L, x2.At, x2.Bad, kind2, name2, op2, vals2, l2)).bind fun (((n3, x4, x5, x6, f11, f12, f13, f14, f15)) : Int × (List aE) × Int × Bool × Int × aY × aY × (List aI) × (List aa)) => (bif (n3 == 0) then some ((aa.mk kind1 name1 op1 vals1 l1), (aO.mk x4 x5 x6)) else some ((aa.mk f11 f12 f13 f14 f15), (aO.mk x4 x5 x6)))
end
abbrev gg (fu : Nat) : Prop := ∀ {p1} {r : aa × aO}, cW fu p1 = some r → aP Tryz.prog 204 1 [.ptr 0 0] [(0, 0, .sl (p1.L.map aJ)), (0, 1, .int .i64 p1.At), (0, 2, .bool p1.Bad)] [] (fun r_ H_ O_ n_ => r_ = .agg (bd r.1) ∧ H_ = [(0, 0, .sl (r.2.L.map aJ)), (0, 1, .int .i64 r.2.At), (0, 2, .bool r.2.Bad)] ∧ O_ = [] ∧ n_ = 1)
abbrev f0 (fu : Nat) : Prop := ∀ {p1} {r : aa × aO}, dU fu p1 = some r → aP Tryz.prog 142 1 [.ptr 0 0] [(0, 0, .sl (p1.L.map aJ)), (0, 1, .int .i64 p1.At), (0, 2, .bool p1.Bad)] [] (fun r_ H_ O_ n_ => r_ = .agg (bd r.1) ∧ H_ = [(0, 0, .sl (r.2.L.map aJ)), (0, 1, .int .i64 r.2.At), (0, 2, .bool r.2.Bad)] ∧ O_ = [] ∧ n_ = 1)
abbrev fz (fu : Nat) : Prop := ∀ {p1} {r : aa × aO}, fa fu p1 = some r → aP Tryz.prog 94 1 [.ptr 0 0] [(0, 0, .sl (p1.L.map aJ)), (0, 1, .int .i64 p1.At), (0, 2, .bool p1.Bad)] [] (fun r_ H_ O_ n_ => r_ = .agg (bd r.1) ∧ H_ = [(0, 0, .sl (r.2.L.map aJ)), (0, 1, .int .i64 r.2.At), (0, 2, .bool r.2.Bad)] ∧ O_ = [] ∧ n_ = 1)
theorem tM {fu : Nat} (ih_dref06_P_not : gg fu) (ih_dref06_P_and : f0 fu) (ih_dref06_P_or : fz fu) : gg (fu + 1) := by
 intro p1 r h
 rw [cW] at h
 refine nO Tryz.func204 ?_
 refine ag (ra Z Z Z (rn (aS (ag (rv Z Z (bx h fun x1 hx1 h_1 => rh [0] Z Z (cv hx1) Z Z Z zH zO (eA Z Z Z Z ?_)))))))
 refine rn (bw rfl h_1 (fun h_2 => ?_) fun h_2 => ?_)
 ·clear h h_1
  refine ag (rv Z Z (bx h_2 fun x2 hx2 h_3 => ?_))
  obtain ⟨⟨kind1, name1, op1, vals1, l1⟩, x3⟩ := x2
  refine rh [0] Z Z (ih_dref06_P_not hx2) Z Z Z zH zO (eA Z Z Z Z ?_)
  refine ra Z Z Z (rs Z Z Z Z Z Z Z (rn (ag (rv Z Z (mz false Z Z Z Z Z Z Z Z Z Z (rv Z Z (rs Z Z Z Z Z Z Z (rn (aT ?_)))))))))
  obtain rfl := si h_3
  refine rW ?_
  exact rA [0]
 clear h h_1
 refine aK (aS (ag (rv Z Z (bx h_2 fun x4 hx3 h_3 => rh [0] Z Z (cv hx3) Z Z Z zH zO (eA Z Z Z Z ?_)))))
 refine rn (bw rfl h_3 (fun h_4 => ?_) fun h_4 => ?_)
 ·clear h_2 h_3
  refine ag (rv Z Z (bx h_4 fun x5 hx4 h_5 => ?_))
  obtain ⟨⟨kind2, name2, op2, vals2, l2⟩, x6⟩ := x5
  refine rh [0] Z Z (ih_dref06_P_or hx4) Z Z Z zH zO (eA Z Z Z Z ?_)
  refine ra Z Z Z (rs Z Z Z Z Z Z Z (rn (ag (rv Z Z (bx h_5 fun x7 hx5 h_6 => rh [0] Z Z (jG hx5) Z Z Z zH zO (eA Z Z Z Z ?_))))))
  refine rn (ag (rv Z Z (rs Z Z Z Z Z Z Z (rn (aT ?_)))))
  obtain rfl := si h_6
  refine rW ?_
  exact rA [0]
 clear h_2 h_3
 refine aK (aS (ag (rv Z Z (bx h_4 fun x8 hx6 h_5 => rh [0] Z Z (cv hx6) Z Z Z zH zO (eA Z Z Z Z ?_)))))
 refine rn (bw rfl h_5 (fun h_6 => ?_) fun h_6 => ?_)
 ·clear h_4 h_5
  refine ag (rv Z Z (rs Z Z Z Z Z Z Z (rn (aT ?_))))
  obtain rfl := si h_6
  refine rW ?_
  exact rA [0]
 clear h_4 h_5
 refine aK (ag (rv Z Z (bx h_6 fun x9 hx7 h_7 => ?_)))
 obtain ⟨⟨kind3, name3, op3, vals3, l3⟩, x10⟩ := x9
 refine rh [0] Z Z (qC hx7) Z Z Z zH zO (eA Z Z Z Z ?_)
 refine rs Z Z Z Z Z Z Z (rn (aT ?_))
 obtain rfl := si h_7
 refine rW ?_
 exact rA [0]
theorem sZ {fu : Nat} (ih_dref06_P_not : gg fu) (ih_dref06_P_and : f0 fu) (ih_dref06_P_or : fz fu) : f0 (fu + 1) := by
 intro p1 r h
 rw [dU] at h
 refine nO Tryz.func142 ?_
 refine ag (ra Z Z Z (rn (ag (rv Z Z (bx h fun x1 hx1 h_1 => ?_)))))
 obtain ⟨⟨kind1, name1, op1, vals1, l1⟩, x2⟩ := x1
 refine rh [0] Z Z (ih_dref06_P_not hx1) Z Z Z zH zO (eA Z Z Z Z ?_)
 refine ra Z Z Z (rs Z Z Z Z Z Z Z (rn (ag (rg 2 rfl (bx h_1 fun x3 hx2 h_2 => bt Z Z Z (jT hx2) ?_)))))
 obtain ⟨kind2, name2, op2, vals2, l2⟩ := x3
 refine ra Z Z Z (rs Z Z Z Z Z Z Z (rn (ag (rv Z Z (rn (aS (bx h_2 fun e3 hl4 h_3 => aq (fun x => x = e3) (fun (((n3, x4, x5, x6, f11, f12, f13, f14, f15)) : Int × (List aE) × Int × Bool × Int × aY × aY × (List aI) × (List aa)) => ⟨[(2, .ptr 1 0), (3, .ptr 2 0), (4, .ptr 3 0), (5, .int .i64 n3)], [(0, 0, .sl (x4.map aJ)), (0, 1, .int .i64 x5), (0, 2, .bool x6), (1, 0, .int .i64 0), (1, 1, .str (sB [])), (1, 2, .str (sB [])), (1, 3, .nilS), (1, 4, .nilS), (2, 0, .int .i64 kind1), (2, 1, .str (sB name1)), (2, 2, .str (sB op1)), (2, 3, .sl (vals1.map au)), (2, 4, .sl (am l1)), (3, 0, .int .i64 f11), (3, 1, .str (sB f12)), (3, 2, .str (sB f13)), (3, 3, .sl (f14.map au)), (3, 4, .sl (am f15))], [], 4⟩) ?_ ?_)))))))
 ·clear h h_1 h_2
  refine aB (be hl4 (fun (((n1, p2, p3, p4, f1, f2, f3, f4, f5)) : Int × (List aE) × Int × Bool × Int × aY × aY × (List aI) × (List aa)) => ⟨[(0, .ptr 0 0), (2, .ptr 1 0), (3, .ptr 2 0), (4, .ptr 3 0), (5, .int .i64 n1)], [(0, 0, .sl (p2.map aJ)), (0, 1, .int .i64 p3), (0, 2, .bool p4), (1, 0, .int .i64 0), (1, 1, .str (sB [])), (1, 2, .str (sB [])), (1, 3, .nilS), (1, 4, .nilS), (2, 0, .int .i64 kind1), (2, 1, .str (sB name1)), (2, 2, .str (sB op1)), (2, 3, .sl (vals1.map au)), (2, 4, .sl (am l1)), (3, 0, .int .i64 f1), (3, 1, .str (sB f2)), (3, 2, .str (sB f3)), (3, 3, .sl (f4.map au)), (3, 4, .sl (am f5))], [], 4⟩) [0,1,2,3] rfl zs ?_)
  intro v o7 ho5 hE6
  obtain ⟨n1, p2, p3, p4, f1, f2, f3, f4, f5⟩ := v
  refine ch (aS (ag (rv Z Z (bx ho5 fun x7 hx8 ho5_1 => rh [0] Z Z (cv hx8) Z Z Z zH zO (eA Z Z Z Z ?_)))))
  refine rn (bw rfl ho5_1 (fun ho5_2 => ?_) fun ho5_2 => ?_)
  ·clear ho5 ho5_1
   refine aK (aB (ag (rv Z Z (bx ho5_2 fun x8 hx9 ho5_3 => ?_))))
   obtain ⟨⟨kind3, name3, op3, vals3, l3⟩, x9⟩ := x8
   refine rh [0] Z Z (ih_dref06_P_not hx9) Z Z Z zH zO (eA Z Z Z Z ?_)
   refine ra Z Z Z (rs Z Z Z Z Z Z Z (rn (ag (rg 2 rfl (bx ho5_3 fun x10 hx10 ho5_4 => bt Z Z Z (jT hx10) ?_)))))
   obtain ⟨kind4, name4, op4, vals4, l4⟩ := x10
   exact rs Z Z Z Z Z Z Z (rn (aR (rg 3 rfl (rn (ah (si ho5_4 ▸ lN [0,1,2,3]))))))
  clear ho5 ho5_1
  refine aW (xX ?_)
  cases ho5_2
  have hq := hE6 _ rfl
  subst hq
  exact cN [0,1,2,3]
 clear h h_1 h_2
 rintro ⟨n3, x4, x5, x6, f11, f12, f13, f14, f15⟩ rfl
 refine ch (aS (ag (rg 2 rfl (rn (bw rfl h_3 (fun h_4 => ?_) fun h_4 => ?_)))))
 ·clear h_3
  refine ag (rv Z Z (rs Z Z Z Z Z Z Z (rn (aT ?_))))
  obtain rfl := si h_4
  refine rW ?_
  exact rA [0]
 clear h_3
 refine aK (ag (rv Z Z (rs Z Z Z Z Z Z Z (rn (aT ?_)))))
 obtain rfl := si h_4
 refine rW ?_
 exact rA [0]
theorem uu {fu : Nat} (ih_dref06_P_not : gg fu) (ih_dref06_P_and : f0 fu) (ih_dref06_P_or : fz fu) : fz (fu + 1) := by
 intro p1 r h
 rw [fa] at h
 refine nO Tryz.func94 ?_
 refine ag (ra Z Z Z (rn (ag (rv Z Z (bx h fun x1 hx1 h_1 => ?_)))))
 obtain ⟨⟨kind1, name1, op1, vals1, l1⟩, x2⟩ := x1
 refine rh [0] Z Z (ih_dref06_P_and hx1) Z Z Z zH zO (eA Z Z Z Z ?_)
 refine ra Z Z Z (rs Z Z Z Z Z Z Z (rn (ag (rg 2 rfl (bx h_1 fun x3 hx2 h_2 => bt Z Z Z (jT hx2) ?_)))))
 obtain ⟨kind2, name2, op2, vals2, l2⟩ := x3
 refine ra Z Z Z (rs Z Z Z Z Z Z Z (rn (ag (rv Z Z (rn (aS (bx h_2 fun e3 hl4 h_3 => aq (fun x => x = e3) (fun (((n3, x4, x5, x6, f11, f12, f13, f14, f15)) : Int × (List aE) × Int × Bool × Int × aY × aY × (List aI) × (List aa)) => ⟨[(2, .ptr 1 0), (3, .ptr 2 0), (4, .ptr 3 0), (5, .int .i64 n3)], [(0, 0, .sl (x4.map aJ)), (0, 1, .int .i64 x5), (0, 2, .bool x6), (1, 0, .int .i64 0), (1, 1, .str (sB [])), (1, 2, .str (sB [])), (1, 3, .nilS), (1, 4, .nilS), (2, 0, .int .i64 kind1), (2, 1, .str (sB name1)), (2, 2, .str (sB op1)), (2, 3, .sl (vals1.map au)), (2, 4, .sl (am l1)), (3, 0, .int .i64 f11), (3, 1, .str (sB f12)), (3, 2, .str (sB f13)), (3, 3, .sl (f14.map au)), (3, 4, .sl (am f15))], [], 4⟩) ?_ ?_)))))))
 ·clear h h_1 h_2
  refine aB (be hl4 (fun (((n1, p2, p3, p4, f1, f2, f3, f4, f5)) : Int × (List aE) × Int × Bool × Int × aY × aY × (List aI) × (List aa)) => ⟨[(0, .ptr 0 0), (2, .ptr 1 0), (3, .ptr 2 0), (4, .ptr 3 0), (5, .int .i64 n1)], [(0, 0, .sl (p2.map aJ)), (0, 1, .int .i64 p3), (0, 2, .bool p4), (1, 0, .int .i64 0), (1, 1, .str (sB [])), (1, 2, .str (sB [])), (1, 3, .nilS), (1, 4, .nilS), (2, 0, .int .i64 kind1), (2, 1, .str (sB name1)), (2, 2, .str (sB op1)), (2, 3, .sl (vals1.map au)), (2, 4, .sl (am l1)), (3, 0, .int .i64 f1), (3, 1, .str (sB f2)), (3, 2, .str (sB f3)), (3, 3, .sl (f4.map au)), (3, 4, .sl (am f5))], [], 4⟩) [0,1,2,3] rfl zs ?_)
  intro v o7 ho5 hE6
  obtain ⟨n1, p2, p3, p4, f1, f2, f3, f4, f5⟩ := v
  refine ch (aS (ag (rv Z Z (bx ho5 fun x7 hx8 ho5_1 => rh [0] Z Z (cv hx8) Z Z Z zH zO (eA Z Z Z Z ?_)))))
  refine rn (bw rfl ho5_1 (fun ho5_2 => ?_) fun ho5_2 => ?_)
  ·clear ho5 ho5_1
   refine aK (aB (ag (rv Z Z (bx ho5_2 fun x8 hx9 ho5_3 => ?_))))
   obtain ⟨⟨kind3, name3, op3, vals3, l3⟩, x9⟩ := x8
   refine rh [0] Z Z (ih_dref06_P_and hx9) Z Z Z zH zO (eA Z Z Z Z ?_)
   refine ra Z Z Z (rs Z Z Z Z Z Z Z (rn (ag (rg 2 rfl (bx ho5_3 fun x10 hx10 ho5_4 => bt Z Z Z (jT hx10) ?_)))))
   obtain ⟨kind4, name4, op4, vals4, l4⟩ := x10
   exact rs Z Z Z Z Z Z Z (rn (aR (rg 3 rfl (rn (ah (si ho5_4 ▸ lN [0,1,2,3]))))))
  clear ho5 ho5_1
  refine aW (xX ?_)
  cases ho5_2
  have hq := hE6 _ rfl
  subst hq
  exact cN [0,1,2,3]
 clear h h_1 h_2
 rintro ⟨n3, x4, x5, x6, f11, f12, f13, f14, f15⟩ rfl
 refine ch (aS (ag (rg 2 rfl (rn (bw rfl h_3 (fun h_4 => ?_) fun h_4 => ?_)))))
 ·clear h_3
  refine ag (rv Z Z (rs Z Z Z Z Z Z Z (rn (aT ?_))))
  obtain rfl := si h_4
  refine rW ?_
  exact rA [0]
 clear h_3
 refine aK (ag (rv Z Z (rs Z Z Z Z Z Z Z (rn (aT ?_)))))
 obtain rfl := si h_4
 refine rW ?_
 exact rA [0]
end
theorem ly : ∀ fu : Nat, gg fu ∧ f0 fu ∧ fz fu
 | 0 => ⟨fun h => by simp [cW] at h, fun h => by simp [dU] at h, fun h => by simp [fa] at h⟩
 | fu + 1 => by
  obtain ⟨i0, i1, i2⟩ := ly fu
  exact ⟨tM i0 i1 i2, sZ i0 i1 i2, uu i0 i1 i2⟩
theorem uv {fu : Nat} : fz fu := (ly fu).2.2
def dG (fu : Nat) (s1 : aY) : Option (aa × Int) :=
 (kh fu s1).bind fun l1 => bif (l1.2 != 0) then some ((aa.mk 0 [] [] [] []), l1.2) else ((fa fu (aO.mk l1.1 0 false)).bind fun x1 => match x1 with | (.mk kind1 name1 op1 vals1 l2, x2) => (bif x2.Bad then some true else some (decide (x2.At < (l1.1.length : Int))) : Option Bool).bind fun (x3 : Bool) => (bif x3 then some ((aa.mk 0 [] [] [] []), 3) else ((kn fu (aa.mk kind1 name1 op1 vals1 l2)).bind fun pF => bif (!pF) then some ((aa.mk 0 [] [] [] []), 5) else some ((aa.mk kind1 name1 op1 vals1 l2), 0))))
section
attribute [local irreducible] cg aM DP ai aP Decidable.decide
theorem ot {fu : Nat} {s1 : aY} {r : aa × Int} (h : dG fu s1 = some r) : ai Tryz.prog 54 [.str (sB s1)] (· = .tup [.agg (bd r.1), .int .i64 r.2]) := by
 rw [dG] at h
 refine cf Tryz.func54 ?_
 refine ag (ra Z Z Z (rv Z Z (rn (ag (rv Z Z (bx h fun l1 hx1 h_1 => bt Z Z Z (w5 hx1) (rg 5 rfl (rn (aS (ag (rg 2 rfl (rn (bw rfl h_1 (fun h_2 => ?_) fun h_2 => ?_)))))))))))))
 ·clear h h_1
  exact ag (rg 2 rfl (rs Z Z Z Z Z Z Z (rv Z Z (rn (aT (si h_2 ▸ rF))))))
 clear h h_1
 refine aK (ag (rg 2 rfl (rb Z Z (rv Z Z (rn (ag (rv Z Z (bx h_2 fun x1 hx2 h_3 => ?_))))))))
 obtain ⟨⟨kind1, name1, op1, vals1, l2⟩, x2⟩ := x1
 refine rh [1] Z Z (uv hx2) Z Z Z zH zO (eA Z Z Z Z ?_)
 refine ra Z Z Z (rs Z Z Z Z Z Z Z (rn (aS (aS (bx h_3 fun o3 ho4 h_4 => aq (fun x => x = o3) (fun (x3 : Bool) => ⟨[(2, .ptr 0 0), (7, .ptr 1 0), (35, .bool x3)], [(0, 0, .int .i64 0), (0, 1, .str (sB [])), (0, 2, .str (sB [])), (0, 3, .nilS), (0, 4, .nilS), (1, 0, .int .i64 kind1), (1, 1, .str (sB name1)), (1, 2, .str (sB op1)), (1, 3, .sl (vals1.map au)), (1, 4, .sl (am l2))], [], 2⟩) ?_ ?_)))))
 ·clear h_2 h_3
  refine aR (rg 5 rfl (eN Z Z Z Z Z ho4 (fun ho4_1 => ?_) fun ho4_1 => ?_))
  ·clear ho4
   exact rg 6 rfl (rt ((lM aJ l1.1)) (rg 2 rfl (rn (si ho4_1 ▸ cN [0,2]))))
  clear ho4
  exact rg 7 rfl (rn (si ho4_1 ▸ cN [0,2]))
 clear h_2 h_3
 rintro x3 rfl
 refine ch (bw rfl h_4 (fun h_5 => ?_) fun h_5 => ?_)
 ·clear h_4
  exact ag (rv Z Z (rs Z Z Z Z Z Z Z (rv Z Z (rn (aT (si h_5 ▸ rF))))))
 clear h_4
 refine aK (ag (rv Z Z (bx h_5 fun pF hx5 h_6 => bt Z Z Z (wI hx5) (rv Z Z (rn (aS (ag (rg 2 rfl (rn (bw rfl h_6 (fun h_7 => ?_) fun h_7 => ?_))))))))))
 ·clear h_5 h_6
  exact ag (rv Z Z (rs Z Z Z Z Z Z Z (rv Z Z (rn (aT (si h_7 ▸ rF))))))
 clear h_5 h_6
 exact aK (ag (rv Z Z (rs Z Z Z Z Z Z Z (rv Z Z (rn (aT (si h_7 ▸ rF)))))))
end
end Go.Proofs.YtbkomicjhfldmaaGreatDoor
