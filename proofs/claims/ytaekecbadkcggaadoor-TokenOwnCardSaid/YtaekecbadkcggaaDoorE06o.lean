/- Layer 6, plainly: cut out, each token is itself. -/
import Derived.Test.YtaekecbadkcggaaDoorE06b
namespace Go.Proofs.YtaekecbadkcggaaDoor
open Go.Pv
set_option linter.unusedSimpArgs false
set_option linter.unusedVariables false
set_option linter.unusedSectionVars false
set_option maxRecDepth 100000

/-- What may stand behind a token. -/
def Beh (r : Str) : Prop := ∀ c t, r = c :: t → c = 32
theorem front_cut {p : UInt8 → Bool} : ∀ (l r : Str), (∀ c t, r = c :: t → p c = false) → front p (l.take (front p l) ++ r) = front p l
  | [], r, h => by
    simp only [front, List.take_nil, List.nil_append]
    cases r with
    | nil => rfl
    | cons c t => rw [front, if_neg (by rw [h c t rfl]; simp)]
  | c :: l, r, h => by
    by_cases hc : p c = true
    · have e : front p (c :: l) = front p l + 1 := by rw [front, if_pos hc]
      rw [e, List.take_succ_cons, List.cons_append, front, if_pos hc, front_cut l r h]
    · have e : front p (c :: l) = 0 := by rw [front, if_neg hc]
      rw [e, List.take_zero, List.nil_append]
      cases r with
      | nil => rfl
      | cons d t => rw [front, if_neg (by rw [h d t rfl]; simp)]
theorem take_cut (l r : Str) {k : Nat} (h : k ≤ l.length) : (l.take k ++ r).take k = l.take k := by
  rw [List.take_append_of_le_length (by simp; omega), List.take_take, Nat.min_self]
theorem num_local {l r : Str} {v : Int} {j : Nat} (h : numS l = some (v, j)) (hr : Beh r) : numS (l.take j ++ r) = some (v, j) := by
  have hdig : ∀ c t, r = c :: t → isDig c = false := fun c t e => by rw [hr c t e]; rfl
  cases l with
  | nil => cases h
  | cons c t =>
    unfold numS at h
    simp only at h
    by_cases hc : c = 45
    · rw [if_pos hc] at h
      split at h
      · cases h
      · rename_i hn
        cases h
        have hf := front_le isDig t
        rw [List.take_succ_cons, List.cons_append]
        unfold numS
        simp only
        rw [if_pos hc, front_cut t r hdig, take_cut t r hf]
        have hh : 1 < front isDig t → (t.take (front isDig t) ++ r).head? = t.head? := by
          intro h1
          cases t with
          | nil => simp [front] at h1
          | cons d t => obtain ⟨k, hk⟩ : ∃ k, front isDig (d :: t) = k + 1 := ⟨front isDig (d :: t) - 1, by omega⟩; rw [hk]; rfl
        rw [if_neg]
        rintro (h | ⟨h1, h2⟩ | h | h)
        · exact hn (Or.inl h)
        · rw [hh h1] at h2; exact hn (Or.inr (Or.inl ⟨h1, h2⟩))
        · exact hn (Or.inr (Or.inr (Or.inl h)))
        · exact hn (Or.inr (Or.inr (Or.inr h)))
    · rw [if_neg hc] at h
      split at h
      · cases h
      · rename_i hn
        cases h
        have hf := front_le isDig (c :: t)
        obtain ⟨k, hk⟩ : ∃ k, front isDig (c :: t) = k + 1 := ⟨front isDig (c :: t) - 1, by omega⟩
        have e : (c :: t).take (front isDig (c :: t)) ++ r = c :: (t.take k ++ r) := by rw [hk]; rfl
        have e2 := front_cut (p := isDig) (c :: t) r hdig
        have e3 := take_cut (c :: t) r hf
        rw [e] at e2 e3 ⊢
        unfold numS
        simp only
        rw [if_neg hc, e2, e3, if_neg hn]
theorem tok_local {l r : Str} {x : Tok} {j : Nat} (h : tok l = some (x, j)) (hr : Beh r) : tok (l.take j ++ r) = some (x, j) := by
  have hal : ∀ c t, r = c :: t → isAl c = false := fun c t e => by rw [hr c t e]; rfl
  have hj := tok_len h
  cases l with
  | nil => cases h
  | cons c t =>
    obtain ⟨k, rfl⟩ : ∃ k, j = k + 1 := ⟨j - 1, by omega⟩
    have e : (c :: t).take (k + 1) ++ r = c :: (t.take k ++ r) := rfl
    rw [e]
    rw [tok] at h ⊢
    by_cases h1 : isLow c = true
    · rw [if_pos h1] at h ⊢
      split at h
      · rename_i h20
        simp only [Option.some.injEq, Prod.mk.injEq] at h
        obtain ⟨hx, hk⟩ := h
        have hf := front_le isAl (c :: t)
        have e2 := front_cut (p := isAl) (c :: t) r hal
        have e3 := take_cut (c :: t) r hf
        rw [hk, e] at e2 e3
        rw [hk] at hx h20
        rw [e2, e3, if_pos h20, ← hx]
      · cases h
    · rw [if_neg h1] at h ⊢
      by_cases h2 : isDig c = true ∨ c = 45
      · rw [if_pos h2] at h ⊢
        cases hn : numS (c :: t) with
        | none => rw [hn] at h; cases h
        | some p =>
          obtain ⟨v, j⟩ := p
          rw [hn] at h
          simp only [Option.map_some, Option.some.injEq, Prod.mk.injEq] at h
          obtain ⟨hx, rfl⟩ := h
          have := num_local hn hr
          rw [e] at this
          rw [this, ← hx]; rfl
      · rw [if_neg h2] at h ⊢
        by_cases h3 : c = 34
        · rw [if_pos h3] at h ⊢
          split at h
          · rename_i hh
            simp only [Option.some.injEq, Prod.mk.injEq] at h
            obtain ⟨hx, hk⟩ := h
            obtain rfl : k = front isTx t + 1 := by omega
            obtain ⟨hlt, hq⟩ := List.getElem?_eq_some_iff.1 hh.2
            have htk : t.take (front isTx t + 1) ++ r = t.take (front isTx t) ++ (34 :: r) := by
              rw [List.take_add_one, hh.2]; simp
            have hf := front_le isTx t
            have e2 := front_cut (p := isTx) t (34 :: r) (fun c' t' e' => by cases e'; rfl)
            have e3 := take_cut t (34 :: r) hf
            have hq2 : (t.take (front isTx t) ++ (34 :: r))[front isTx t]? = some 34 := by
              have hl : (t.take (front isTx t)).length = front isTx t := by rw [List.length_take]; omega
              rw [List.getElem?_append_right (by omega), hl, Nat.sub_self]; rfl
            rw [htk, e2, e3, if_pos ⟨hh.1, hq2⟩, hx]
          · cases h
        · rw [if_neg h3] at h ⊢
          by_cases h4 : t.head? = some 61 ∧ (c = 60 ∨ c = 33 ∨ c = 62 ∨ c = 94)
          · rw [if_pos h4] at h
            simp only [Option.some.injEq, Prod.mk.injEq] at h
            obtain ⟨hx, hk⟩ := h
            obtain rfl : k = 1 := by omega
            cases t with
            | nil => simp at h4
            | cons d t =>
              rw [if_pos ⟨h4.1, h4.2⟩, hx]
          · rw [if_neg h4] at h
            split at h
            · rename_i h5
              simp only [Option.some.injEq, Prod.mk.injEq] at h
              obtain ⟨hx, hk⟩ := h
              obtain rfl : k = 0 := by omega
              rw [if_neg, if_pos h5, hx]
              rintro ⟨h6, _⟩
              cases r with
              | nil => simp at h6
              | cons d t' =>
                have := hr d t' rfl
                subst this
                simp at h6
            · cases h
theorem toks_spaces : ∀ (r : Str) (a : Nat), (∀ c ∈ r, c = 32) → toks a r = some []
  | [], a, _ => toks_nil a
  | c :: r, a, h => by
    have := h c (by simp)
    subst this
    rw [toks_sp]; exact toks_spaces r (a + 1) fun x hx => h x (by simp [hx])
/-- What stands ahead of the first token. -/
theorem lead : ∀ (n : Nat) (m : Str) (b : Nat) (L : List ttokenToken), m.length ≤ n → toks b m = some L →
    ∃ q, q ≤ m.length ∧ (∀ c ∈ m.take q, c = 32) ∧ (match L with | [] => q = m.length | y :: _ => y.At = ((b + q : Nat) : Int))
  | _, [], b, L, _, h => by
    rw [toks_nil] at h; cases h
    exact ⟨0, Nat.le_refl _, by simp, rfl⟩
  | 0, c :: t, b, L, hn, h => by simp at hn
  | n + 1, c :: t, b, L, hn, h => by
    by_cases hc : c = 32
    · subst hc
      rw [toks_sp] at h
      obtain ⟨q, h1, h2, h3⟩ := lead n t (b + 1) L (by simpa using hn) h
      refine ⟨q + 1, by simpa using h1, ?_, ?_⟩
      · intro x hx
        simp only [List.take_succ_cons, List.mem_cons] at hx
        exact hx.elim id (h2 x)
      · cases L with
        | nil => simpa using h3
        | cons y L => simp only at h3 ⊢; rw [h3]; congr 1; omega
    · refine ⟨0, Nat.zero_le _, by simp, ?_⟩
      cases ht : tok (c :: t) with
      | none => rw [toks_none hc ht] at h; cases h
      | some p =>
        obtain ⟨x, j⟩ := p
        rw [toks_some hc ht] at h
        obtain ⟨L', _, rfl⟩ := Option.map_eq_some_iff.1 h
        rfl
/-- Where a token ends: where the next one begins, or the text ends. -/
def ends (e : Nat) (L : List ttokenToken) (i : Nat) : Int := match L[i + 1]? with | some y => y.At | none => (e : Int)
theorem own : ∀ (n : Nat) (l : Str) (a : Nat) (L : List ttokenToken), l.length ≤ n → toks a l = some L → ∀ (i : Nat) (hi : i < L.length),
    ∃ p q : Nat, L[i].At = ((a + p : Nat) : Int) ∧ ends (a + l.length) L i = ((a + q : Nat) : Int) ∧ p < q ∧ q ≤ l.length ∧ toks 0 ((l.drop p).take (q - p)) = some [⟨L[i].Kind, 0, L[i].N, L[i].S⟩]
  | _, [], a, L, _, h, i, hi => by rw [toks_nil] at h; cases h; simp at hi
  | 0, c :: t, a, L, hn, h, i, hi => by simp at hn
  | n + 1, c :: t, a, L, hn, h, i, hi => by
    by_cases hc : c = 32
    · subst hc
      rw [toks_sp] at h
      obtain ⟨p, q, h1, h2, h3, h4, h5⟩ := own n t (a + 1) L (by simpa using hn) h i hi
      refine ⟨p + 1, q + 1, by rw [h1]; congr 1; omega, ?_, by omega, by simpa using h4, ?_⟩
      · rw [show a + (32 :: t : Str).length = a + 1 + t.length by simp; omega, h2]; congr 1; omega
      · rw [show q + 1 - (p + 1) = q - p by omega]; exact h5
    · cases ht : tok (c :: t) with
      | none => rw [toks_none hc ht] at h; cases h
      | some pp =>
        obtain ⟨x, j⟩ := pp
        rw [toks_some hc ht] at h
        obtain ⟨L', h', rfl⟩ := Option.map_eq_some_iff.1 h
        have hj := tok_len ht
        cases i with
        | succ i =>
          have hlen : ((c :: t).drop j).length ≤ n := by simp only [List.length_drop, List.length_cons] at *; omega
          obtain ⟨p, q, h1, h2, h3, h4, h5⟩ := own n ((c :: t).drop j) (a + j) L' hlen h' i (by simpa using hi)
          refine ⟨p + j, q + j, ?_, ?_, by omega, by simp only [List.length_drop] at h4; omega, ?_⟩
          · simp only [List.getElem_cons_succ]; rw [h1]; congr 1; omega
          · have e : ends (a + (c :: t).length) (⟨x.k, (a : Int), x.n, x.s⟩ :: L') (i + 1) = ends (a + j + ((c :: t).drop j).length) L' i := by
              unfold ends
              rw [List.getElem?_cons_succ]
              cases L'[i + 1]? with
              | some y => rfl
              | none => simp only [List.length_drop]; congr 1; omega
            rw [e, h2]; congr 1; omega
          · simp only [List.getElem_cons_succ]
            rw [List.drop_drop] at h5
            rw [show q + j - (p + j) = q - p by omega, show p + j = j + p by omega]; exact h5
        | zero =>
          obtain ⟨q, h1, h2, h3⟩ := lead _ _ _ _ (Nat.le_refl _) h'
          simp only [List.length_drop] at h1
          refine ⟨0, j + q, by simp, ?_, by omega, by omega, ?_⟩
          · unfold ends
            rw [List.getElem?_cons_succ]
            cases L' with
            | nil => simp only [List.getElem?_nil]; simp only [List.length_drop] at h3; congr 1; omega
            | cons y L' => simp only [List.getElem?_cons_zero]; rw [h3]; congr 1; omega
          · have hcut : ((c :: t).drop 0).take (j + q - 0) = (c :: t).take j ++ ((c :: t).drop j).take q := by
              rw [List.drop_zero, Nat.sub_zero, List.take_add]
            have hbeh : Beh (((c :: t).drop j).take q) := fun d r e => h2 d (by rw [e]; simp)
            have htl := tok_local ht hbeh
            rw [hcut]
            obtain ⟨k, rfl⟩ : ∃ k, j = k + 1 := ⟨j - 1, by omega⟩
            rw [List.take_succ_cons, List.cons_append] at htl ⊢
            rw [toks_some hc htl]
            have hdr : (c :: (t.take k ++ ((c :: t).drop (k + 1)).take q)).drop (k + 1) = ((c :: t).drop (k + 1)).take q := by
              simp only [List.drop_succ_cons]
              rw [List.drop_append_of_le_length (by simp only [List.length_take, List.length_cons] at *; omega), List.drop_take, Nat.sub_self, List.take_zero, List.nil_append]
            rw [hdr, toks_spaces _ _ h2]
            rfl
theorem cutC_ok {s : Str} {L : List ttokenToken} (hs : s.length ≤ 500) (h : toks 0 s = some L) : cutC s = (L, none) := by unfold cutC; rw [if_neg (by omega), h]
theorem TokenOwn_e (s : Str) : Ev fun n => dlaw06_TokenOwn n s = some true := by
  refine (up06.big 3000).mono fun n hh => ?_
  obtain ⟨hn, hup⟩ := hh
  unfold dlaw06_TokenOwn
  rw [hup, Option.bind_some]
  by_cases h : 2000 < s.length
  · have hd : decide ((s.length : Int) > 2000) = true := by simp; omega
    rw [hd]; rfl
  · have hd : decide ((s.length : Int) > 2000) = false := by simp; omega
    rw [hd, cond_false, dCut (by omega)]
    unfold cutC
    by_cases h5 : 500 < s.length
    · rw [if_pos h5]; rfl
    · rw [if_neg h5]
      cases ht : toks 0 s with
      | none => rfl
      | some L =>
        have hL := toks_len s.length s 0 L (Nat.le_refl _) ht
        simp only [Option.bind_some, Option.isSome_none, cond_false]
        refine (congrArg (fun o => Option.bind o _) (?_ : _ = some (Sum.inl ()))).trans rfl
        have key : ∀ (m i k : Nat), i + m = L.length → m < k → loopD (ε := Int) (τ := Unit ⊕ Bool) (fun (i1 : Int) => (bif (decide (i1 < (L.length : Int))) then ((some ((s.length : Int))).bind fun to1 => (bif (decide ((W (i1 + 1)) < (L.length : Int))) then ((gi L (W (i1 + 1))).bind fun to3 => some to3.At) else some to1 : Option Int).bind fun (to2 : Int) => (((gi L i1).bind fun x4 => bif (decide (x4.At < 0)) then some true else ((gi L i1).bind fun x5 => some (decide (x5.At ≥ to2))) : Option Bool).bind fun (x3 : Bool) => (bif x3 then some (Sum.inr (Sum.inr false)) else ((gi L i1).bind fun x6 => (gsl s x6.At to2).bind fun s2 => (dtoken_Cut n s2).bind fun x7 => (bif x7.2.isSome then some true else some ((x7.1.length : Int) != 1) : Option Bool).bind fun (x8 : Bool) => (bif x8 then some (Sum.inr (Sum.inr false)) else (((gi x7.1 0).bind fun x10 => (gi L i1).bind fun x11 => bif (x10.Kind != x11.Kind) then some true else ((gi x7.1 0).bind fun x12 => (gi L i1).bind fun x13 => bif (!(x12.S == x13.S)) then some true else ((gi x7.1 0).bind fun x14 => (gi L i1).bind fun x15 => bif (x14.N != x15.N) then some true else ((gi x7.1 0).bind fun x16 => some (x16.At != 0)))) : Option Bool).bind fun (x9 : Bool) => (bif x9 then some (Sum.inr (Sum.inr false)) else some (Sum.inl (W (i1 + 1)))))))))) else some (Sum.inr (Sum.inl ())))) k (i : Int) = some (.inl ()) := by
          intro m
          induction m with
          | zero =>
            intro i k hi hk
            obtain ⟨k, rfl⟩ : ∃ j, k = j + 1 := ⟨k - 1, by omega⟩
            have hd : decide ((i : Int) < (L.length : Int)) = false := by simp; omega
            exact loopD_end (by simp only [hd, cond_false])
          | succ m ih =>
            intro i k hi hk
            obtain ⟨k, rfl⟩ : ∃ j, k = j + 1 := ⟨k - 1, by omega⟩
            have hlt : i < L.length := by omega
            have hd : decide ((i : Int) < (L.length : Int)) = true := by simpa using hlt
            have hW : W ((i : Int) + 1) = ((i + 1 : Nat) : Int) := W_suc (by omega)
            obtain ⟨p, q, o1, o2, o3, o4, o5⟩ := own s.length s 0 L (Nat.le_refl _) ht i hlt
            simp only [Nat.zero_add] at o1 o2
            have hto : (bif (decide ((((i + 1 : Nat) : Int)) < (L.length : Int))) then ((gi L ((i + 1 : Nat) : Int)).bind fun to3 => some to3.At) else some ((s.length : Int)) : Option Int) = some (q : Int) := by
              rw [← o2]
              unfold ends
              by_cases h2 : i + 1 < L.length
              · have hd2 : decide (((i + 1 : Nat) : Int) < (L.length : Int)) = true := by simp; omega
                rw [hd2, cond_true, gi_lt h2, List.getElem?_eq_getElem h2]; rfl
              · have hd2 : decide (((i + 1 : Nat) : Int) < (L.length : Int)) = false := by simp; omega
                rw [hd2, cond_false, List.getElem?_eq_none (by omega)]
            have d1 : decide (L[i].At < 0) = false := by rw [o1]; simp
            have d2 : decide (L[i].At ≥ (q : Int)) = false := by rw [o1]; simp; omega
            have hg : gsl s L[i].At (q : Int) = some ((s.drop p).take (q - p)) := by rw [o1, gsl_nat s (by omega) o4, List.drop_take]
            have hc : cutC ((s.drop p).take (q - p)) = ([⟨L[i].Kind, 0, L[i].N, L[i].S⟩], none) := cutC_ok (by simp; omega) o5
            have hg0 : gi ([⟨L[i].Kind, 0, L[i].N, L[i].S⟩] : List ttokenToken) 0 = some ⟨L[i].Kind, 0, L[i].N, L[i].S⟩ := rfl
            have b1 : (((([⟨L[i].Kind, 0, L[i].N, L[i].S⟩] : List ttokenToken).length : Nat) : Int) != 1) = false := rfl
            refine (loopD_go (s' := ((i + 1 : Nat) : Int)) ?_).trans (ih (i + 1) k (by omega) (by omega))
            simp only [hd, cond_true, Option.bind_some, hW, hto, gi_lt hlt, d1, d2, cond_false, hg, dCut (show 2000 < n by omega), hc, Option.isSome_none, b1, hg0, bne_self_eq_false, beq_self_eq_true, Bool.not_true]
        exact key L.length 0 n (by omega) (by omega)
theorem TokenOwn_c {s : Str} (h1 : okS s) : PCall Tryd.prog 4 [.str (sB s)] (· = .bool true) := by
  obtain ⟨n, h⟩ := (TokenOwn_e s).get
  exact dlaw06_TokenOwn_l h
end Go.Proofs.YtaekecbadkcggaaDoor
