/- Layer 7, plainly: the tokens of a filter's text. -/
import Derived.Test.YtaekecbadkcggaaDoorE07
namespace Go.Proofs.YtaekecbadkcggaaDoor
open Go.Pv
set_option linter.unusedSimpArgs false
set_option linter.unusedVariables false
set_option linter.unusedSectionVars false
set_option maxRecDepth 100000

def strip (t : ttokenToken) : ttokenToken := ⟨t.Kind, 0, t.N, t.S⟩
def Sep (rest : Str) : Prop := ∀ c t, rest = c :: t → c = 32 ∨ c = 41 ∨ c = 44
/-- A text cuts into tokens (places aside), whatever follows (b: anything; otherwise a space, a bracket or a comma, or nothing). -/
def LX (b : Bool) (s : Str) (l : List ttokenToken) : Prop := ∀ (rest : Str) (a : Nat), (b = true ∨ Sep rest) → ∃ a' L1, L1.map strip = l ∧ toks a (s ++ rest) = (toks a' rest).map fun L => L1 ++ L
theorem sep_cons {c : UInt8} {t : Str} (h : c = 32 ∨ c = 41 ∨ c = 44) : Sep (c :: t) := fun c' t' e => by cases e; exact h
theorem LX.weak {b : Bool} {s : Str} {l : List ttokenToken} (h : LX b s l) : LX false s l := fun rest a k => h rest a (.inr (by rcases k with k | k; cases k; exact k))
theorem LX.nil : LX true [] [] := fun rest a _ => ⟨a, [], rfl, by cases h : toks a rest <;> simp [h]⟩
theorem LX.app {b1 b2 : Bool} {s1 s2 : Str} {l1 l2 : List ttokenToken} (h1 : LX b1 s1 l1) (h2 : LX b2 s2 l2) (hs : b1 = true ∨ ∀ rest, (b2 = true ∨ Sep rest) → Sep (s2 ++ rest)) : LX b2 (s1 ++ s2) (l1 ++ l2) := fun rest a k => by
  obtain ⟨a1, L1, e1, e2⟩ := h1 (s2 ++ rest) a (by rcases hs with hs | hs; exact .inl hs; exact .inr (hs rest k))
  obtain ⟨a2, L2, e3, e4⟩ := h2 rest a1 k
  refine ⟨a2, L1 ++ L2, by rw [List.map_append, e1, e3], ?_⟩
  rw [List.append_assoc, e2, e4]
  cases toks a2 rest <;> simp
theorem LX.app_w {b1 b2 : Bool} {s1 t : Str} {c : UInt8} {l1 l2 : List ttokenToken} (h1 : LX b1 s1 l1) (h2 : LX b2 (c :: t) l2) (hc : c = 32 ∨ c = 41 ∨ c = 44) : LX b2 (s1 ++ c :: t) (l1 ++ l2) :=
  h1.app h2 (.inr fun rest _ => sep_cons hc)
theorem lx_sp : LX true [32] [] := fun rest a _ => ⟨a + 1, [], rfl, by
  rw [show ([32] : Str) ++ rest = 32 :: rest from rfl, toks_sp]; cases h : toks (a + 1) rest <;> simp [h]⟩
theorem lx_tok {b : Bool} {c : UInt8} {t : Str} {x : Tok} (hc : c ≠ 32) (h : ∀ rest, (b = true ∨ Sep rest) → tok (c :: (t ++ rest)) = some (x, t.length + 1)) : LX b (c :: t) [⟨x.k, 0, x.n, x.s⟩] := fun rest a k => by
  refine ⟨a + (t.length + 1), [⟨x.k, (a : Int), x.n, x.s⟩], rfl, ?_⟩
  rw [List.cons_append, toks_some hc (h rest k)]
  have : (c :: (t ++ rest)).drop (t.length + 1) = rest := by simp
  rw [this]; rfl
theorem front_all {p : UInt8 → Bool} : ∀ (l r : Str), (∀ c ∈ l, p c = true) → (∀ c t, r = c :: t → p c = false) → front p (l ++ r) = l.length
  | [], [], _, _ => rfl
  | [], c :: r, _, h => by rw [List.nil_append, front, if_neg (by rw [h c r rfl]; decide)]; rfl
  | c :: l, r, h, k => by
    rw [List.cons_append, front, if_pos (h c (by simp)), front_all l r (fun x hx => h x (List.mem_cons_of_mem _ hx)) k]; rfl
theorem front_mem {p : UInt8 → Bool} : ∀ (l : Str), front p l = l.length → ∀ c ∈ l, p c = true
  | [], _, c, h => by cases h
  | d :: l, h, c, hc => by
    rw [front] at h
    split at h
    · rename_i hd
      rcases List.mem_cons.1 hc with rfl | hc
      · exact hd
      · exact front_mem l (by simpa using h) c hc
    · simp at h
theorem sep_al {r : Str} (h : Sep r) : ∀ c t, r = c :: t → isAl c = false := fun c t e => by rcases h c t e with rfl | rfl | rfl <;> rfl
theorem sep_dig {r : Str} (h : Sep r) : ∀ c t, r = c :: t → isDig c = false := fun c t e => by rcases h c t e with rfl | rfl | rfl <;> rfl
theorem lx_word {c : UInt8} {t : Str} (hc : isLow c = true) (ha : ∀ x ∈ c :: t, isAl x = true) (hl : (c :: t).length ≤ 20) : LX false (c :: t) [⟨if wordsL.contains (c :: t) then 2 else 1, 0, 0, c :: t⟩] := by
  refine lx_tok (x := ⟨if wordsL.contains (c :: t) then 2 else 1, 0, c :: t⟩) (fun e => by subst e; cases hc) fun rest k => ?_
  have k : Sep rest := by rcases k with k | k; cases k; exact k
  have hf := front_all (p := isAl) (c :: t) rest ha (sep_al k)
  rw [List.cons_append] at hf
  have ht : (c :: (t ++ rest)).take (c :: t).length = c :: t := by rw [← List.cons_append, List.take_left]
  rw [tok, if_pos hc, hf, if_pos hl, ht]; rfl
theorem lx_name {s : Str} (h : nameB s = true) : LX false s [⟨1, 0, 0, s⟩] := by
  unfold nameB at h
  simp only [Bool.and_eq_true, decide_eq_true_eq] at h
  obtain ⟨h20, h⟩ := h
  cases s with
  | nil => cases h
  | cons c t =>
    cases ht : tok (c :: t) with
    | none => rw [ht] at h; cases h
    | some p =>
      obtain ⟨x, j⟩ := p
      rw [ht] at h
      simp only [Bool.and_eq_true, beq_iff_eq] at h
      obtain ⟨hk, hj⟩ := h
      obtain ⟨hs, c', t', he, hlow⟩ := tok_name ht hk
      cases he
      rw [tok, if_pos hlow] at ht
      split at ht
      · simp only [Option.some.injEq, Prod.mk.injEq] at ht
        obtain ⟨rfl, rfl⟩ := ht
        have hw : (if wordsL.contains ((c :: t).take (front isAl (c :: t))) then (2 : Int) else 1) = 1 := hk
        rw [hj, List.take_length] at hw
        have := lx_word hlow (front_mem _ hj) h20
        rw [hw] at this
        exact this
      · cases ht
/-! ### numbers -/
theorem dec_dig (u : Nat) : ∀ c ∈ Lib.decDigits u, isDig c = true := by
  induction u using Nat.strongRecOn with
  | ind u ih =>
    intro c hc
    have h1 : ∀ d : Nat, d < 10 → isDig (UInt8.ofNat (48 + d)) = true := by decide
    rw [Lib.decDigits] at hc
    split at hc
    · obtain rfl := List.mem_singleton.1 hc; exact h1 u (by assumption)
    · rcases List.mem_append.1 hc with hc | hc
      · exact ih (u / 10) (by omega) c hc
      · obtain rfl := List.mem_singleton.1 hc; exact h1 (u % 10) (by omega)
theorem dec_dv (u : Nat) : dv 0 (Lib.decDigits u) = u := by
  induction u using Nat.strongRecOn with
  | ind u ih =>
    have h1 : ∀ d : Nat, d < 10 → (UInt8.ofNat (48 + d)).toNat - 48 = d := by decide
    rw [Lib.decDigits]
    split
    · rw [dv_cons, dv_nil, h1 u (by assumption)]; omega
    · rw [dv_append, ih (u / 10) (by omega), h1 (u % 10) (by omega)]; omega
theorem dec_head (u : Nat) : ∃ c t, Lib.decDigits u = c :: t ∧ (1 ≤ u → c ≠ 48) := by
  induction u using Nat.strongRecOn with
  | ind u ih =>
    have h1 : ∀ d : Nat, d < 10 → 1 ≤ d → UInt8.ofNat (48 + d) ≠ 48 := by decide
    rw [Lib.decDigits]
    split
    · exact ⟨_, [], rfl, fun h => h1 u (by assumption) h⟩
    · obtain ⟨c, t, e, h⟩ := ih (u / 10) (by omega)
      exact ⟨c, t ++ [UInt8.ofNat (48 + u % 10)], by rw [e]; rfl, fun _ => h (by omega)⟩
theorem dec_zero : Lib.decDigits 0 = [48] := by rw [Lib.decDigits]; rfl
theorem dec_lead (u : Nat) : ¬ (1 < (Lib.decDigits u).length ∧ (Lib.decDigits u).head? = some 48) := by
  rintro ⟨h1, h2⟩
  cases u with
  | zero => rw [dec_zero] at h1; simp at h1
  | succ u =>
    obtain ⟨c, t, e, h⟩ := dec_head (u + 1)
    rw [e] at h2
    exact h (by omega) (by simpa using h2)
theorem lx_num {n : Int} (h1 : -9223372036854775808 ≤ n) (h2 : n ≤ 9223372036854775807) : LX false (Lib.itoa n) [⟨3, 0, n, []⟩] := by
  by_cases hn : n < 0
  · have e : Lib.itoa n = 45 :: Lib.decDigits n.natAbs := by unfold Lib.itoa; rw [if_pos hn]
    rw [e]
    refine lx_tok (x := ⟨3, n, []⟩) (by decide) fun rest k => ?_
    have k : Sep rest := by rcases k with k | k; cases k; exact k
    have hf := front_all (p := isDig) (Lib.decDigits n.natAbs) rest (dec_dig _) (sep_dig k)
    obtain ⟨c, t, ed, hd⟩ := dec_head n.natAbs
    have hhead : (Lib.decDigits n.natAbs ++ rest).head? = (Lib.decDigits n.natAbs).head? := by rw [ed]; rfl
    have hlen : 0 < (Lib.decDigits n.natAbs).length := by rw [ed]; simp
    rw [tok, if_neg (by decide), if_pos (.inr rfl), numS, if_pos rfl, hf, List.take_left, dec_dv, hhead, if_neg]
    · have e : -((n.natAbs : Nat) : Int) = n := by omega
      rw [e]; rfl
    · rintro (h | h | h | h)
      · omega
      · exact dec_lead _ h
      · omega
      · omega
  · have e : Lib.itoa n = Lib.decDigits n.toNat := by unfold Lib.itoa; rw [if_neg hn]
    rw [e]
    obtain ⟨c, t, ed, hd⟩ := dec_head n.toNat
    have hdig : isDig c = true := dec_dig n.toNat c (by rw [ed]; simp)
    have hlow : isLow c = false := by
      unfold isDig at hdig; unfold isLow
      simp only [Bool.and_eq_true, decide_eq_true_eq] at hdig
      simp; omega
    rw [ed]
    refine lx_tok (x := ⟨3, n, []⟩) (fun e => by subst e; cases hdig) fun rest k => ?_
    have k : Sep rest := by rcases k with k | k; cases k; exact k
    have hf := front_all (p := isDig) (Lib.decDigits n.toNat) rest (dec_dig _) (sep_dig k)
    have hcons : c :: (t ++ rest) = Lib.decDigits n.toNat ++ rest := by rw [ed]; rfl
    have hlen : (Lib.decDigits n.toNat).length = t.length + 1 := by rw [ed]; simp
    have hl := dec_lead n.toNat
    rw [tok, if_neg (by rw [hlow]; decide), if_pos (.inl hdig), numS, if_neg (fun e => by subst e; cases hdig), hcons, hf, List.take_left, dec_dv, if_neg]
    · have e : ((n.toNat : Nat) : Int) = n := by omega
      rw [e, hlen]; rfl
    · rintro (h | h | h)
      · omega
      · exact hl ⟨h.1, by rw [ed, h.2]; rfl⟩
      · omega
/-! ### signs, texts -/
theorem lx_open : LX true [40] [⟨5, 0, 0, [40]⟩] := lx_tok (x := ⟨5, 0, [40]⟩) (by decide) fun rest _ => by
  rw [tok, if_neg (by decide), if_neg (by decide), if_neg (by decide), if_neg (by rintro ⟨-, h⟩; revert h; decide), if_pos (by decide)]; rfl
theorem lx_close : LX true [41] [⟨5, 0, 0, [41]⟩] := lx_tok (x := ⟨5, 0, [41]⟩) (by decide) fun rest _ => by
  rw [tok, if_neg (by decide), if_neg (by decide), if_neg (by decide), if_neg (by rintro ⟨-, h⟩; revert h; decide), if_pos (by decide)]; rfl
theorem lx_comma : LX true [44] [⟨5, 0, 0, [44]⟩] := lx_tok (x := ⟨5, 0, [44]⟩) (by decide) fun rest _ => by
  rw [tok, if_neg (by decide), if_neg (by decide), if_neg (by decide), if_neg (by rintro ⟨-, h⟩; revert h; decide), if_pos (by decide)]; rfl
theorem lx_op1 {c : UInt8} (h : c = 60 ∨ c = 61 ∨ c = 62) : LX false [c] [⟨5, 0, 0, [c]⟩] := by
  refine lx_tok (x := ⟨5, 0, [c]⟩) (by rcases h with rfl | rfl | rfl <;> decide) fun rest k => ?_
  have k : Sep rest := by rcases k with k | k; cases k; exact k
  have hh : ¬ (([] ++ rest : Str).head? = some 61 ∧ (c = 60 ∨ c = 33 ∨ c = 62 ∨ c = 94)) := by
    rintro ⟨e, -⟩
    cases rest with
    | nil => cases e
    | cons d r =>
      simp only [List.nil_append, List.head?_cons, Option.some.injEq] at e
      subst e
      rcases k 61 r rfl with e | e | e <;> exact absurd e (by decide)
  rw [tok, if_neg (by rcases h with rfl | rfl | rfl <;> decide), if_neg (by rcases h with rfl | rfl | rfl <;> decide), if_neg (by rcases h with rfl | rfl | rfl <;> decide), if_neg hh, if_pos (by rcases h with rfl | rfl | rfl <;> decide)]; rfl
theorem lx_op2 {c : UInt8} (h : c = 60 ∨ c = 33 ∨ c = 62 ∨ c = 94) : LX true [c, 61] [⟨5, 0, 0, [c, 61]⟩] := by
  refine lx_tok (x := ⟨5, 0, [c, 61]⟩) (by rcases h with rfl | rfl | rfl | rfl <;> decide) fun rest _ => ?_
  rw [tok, if_neg (by rcases h with rfl | rfl | rfl | rfl <;> decide), if_neg (by rcases h with rfl | rfl | rfl | rfl <;> decide), if_neg (by rcases h with rfl | rfl | rfl | rfl <;> decide), if_pos ⟨rfl, h⟩]; rfl
theorem lx_op {op : Str} (h : opsL.contains op = true) : LX false op [⟨5, 0, 0, op⟩] := by
  have hm : op ∈ opsL := by simpa using h
  simp only [opsL, List.mem_cons, List.not_mem_nil, or_false] at hm
  rcases hm with rfl | rfl | rfl | rfl | rfl | rfl
  · exact lx_op1 (by decide)
  · exact (lx_op2 (by decide)).weak
  · exact lx_op1 (by decide)
  · exact (lx_op2 (by decide)).weak
  · exact (lx_op2 (by decide)).weak
  · exact lx_op1 (by decide)
theorem lx_text {S : Str} (h : plainB S = true) : LX true (34 :: (S ++ [34])) [⟨4, 0, 0, S⟩] := by
  unfold plainB at h
  simp only [Bool.and_eq_true, List.all_eq_true, decide_eq_true_eq] at h
  refine lx_tok (x := ⟨4, 0, S⟩) (by decide) fun rest _ => ?_
  have hf := front_all (p := isTx) S (34 :: rest) h.1 (fun c t e => by cases e; rfl)
  have e : S ++ [34] ++ rest = S ++ 34 :: rest := by simp
  rw [tok, if_neg (by decide), if_neg (by decide), if_pos rfl, e, hf, if_pos ⟨h.2, by simp⟩]
  simp
def vT (a : tAttr) : ttokenToken := bif a.Text then ⟨4, 0, 0, a.S⟩ else ⟨3, 0, a.N, []⟩
theorem lx_val {t0 : Bool} {a : tAttr} (h : valB t0 a = true) (h1 : -9223372036854775808 ≤ a.N) (h2 : a.N ≤ 9223372036854775807) : LX false (valS a) [vT a] := by
  unfold valB at h
  unfold valS vT
  cases hT : a.Text with
  | true =>
    rw [hT] at h
    simp only [Bool.and_eq_true, cond_true] at h
    rw [if_pos rfl]
    exact (lx_text h.2.2.2).weak
  | false => rw [if_neg (by decide)]; exact lx_num h1 h2
end Go.Proofs.YtaekecbadkcggaaDoor
