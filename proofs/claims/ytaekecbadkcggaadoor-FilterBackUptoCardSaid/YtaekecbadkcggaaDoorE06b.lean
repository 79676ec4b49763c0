/- Layer 6, plainly: the document's tokens; TokenCuts, TokenOwn. -/
import Derived.Test.YtaekecbadkcggaaDoorE06
namespace Go.Proofs.YtaekecbadkcggaaDoor
open Go.Pv
set_option linter.unusedSimpArgs false
set_option linter.unusedVariables false
set_option linter.unusedSectionVars false
set_option maxRecDepth 100000

theorem words_eq (v : Str) : (bif (v == [97, 110, 100]) then some true else (bif (v == [111, 114]) then some true else (bif (v == [110, 111, 116]) then some true else (bif (v == [105, 110]) then some true else some (v == [116, 114, 117, 101])))) : Option Bool) = some (wordsL.contains v) := by
  unfold wordsL
  rw [List.contains_eq_any_beq]
  simp only [List.any_cons, List.any_nil, Bool.or_false]
  cases v == [97, 110, 100] <;> cases v == [111, 114] <;> cases v == [110, 111, 116] <;> cases v == [105, 110] <;> rfl
def twoOf (c : UInt8) : Str → Str
  | [] => []
  | d :: _ => [c, d]
theorem drone {n : Nat} {s : Str} {a : Nat} {c : UInt8} {t : Str} (hs : s.length ≤ 1000) (hl : c :: t = s.drop a) (hn : 2000 < n) :
    ∃ x b, dref06_one n s (a : Int) = some (match tok (c :: t) with | some (y, k) => (⟨y.k, (a : Int), y.n, y.s⟩, ((a + k : Nat) : Int), true) | none => (x, b, false)) := by
  obtain ⟨hlt, hca, ht⟩ := drop_cons hl
  have hlen : (c :: t).length = s.length - a := by rw [hl]; simp
  have htl : t.length = s.length - (a + 1) := by rw [ht]; simp
  unfold dref06_one
  rw [gi_lt hlt, Option.bind_some, hca, drlow, Option.bind_some, drdigit, Option.bind_some, tok]
  by_cases hlow : isLow c = true
  · rw [hlow, cond_true, if_pos rfl]
    have hf := front_le isAl (c :: t)
    have hloop := front_loop (p := isAl) (s := s) (body := fun (to1 : Int) => ((bif (decide (to1 < (s.length : Int))) then ((gi s to1).bind fun c2 => (dref06_low n (c2.toNat : Int)).bind fun x2 => bif x2 then some true else ((gi s to1).bind fun c3 => (dref06_digit n (c3.toNat : Int)).bind fun x3 => some x3)) else some false : Option Bool).bind fun (x1 : Bool) => (bif x1 then some (Sum.inl (W (to1 + 1))) else some (Sum.inr to1)))) (by omega) ?_ ?_ (c :: t) a n hl (by omega) (by omega)
    · refine ⟨⟨if wordsL.contains ((c :: t).take (front isAl (c :: t))) then 2 else 1, (a : Int), 0, (c :: t).take (front isAl (c :: t))⟩, ((a + front isAl (c :: t) : Nat) : Int), (congrArg (fun o => Option.bind o _) hloop).trans ?_⟩
      have hg : gsl s (a : Int) ((a + front isAl (c :: t) : Nat) : Int) = some ((c :: t).take (front isAl (c :: t))) := by
        rw [gsl_nat s (by omega) (by omega), hl, List.drop_take]; congr 2; omega
      have hW : W (((a + front isAl (c :: t) : Nat) : Int) - (a : Int)) = (front isAl (c :: t) : Int) := by rw [show ((a + front isAl (c :: t) : Nat) : Int) - (a : Int) = (front isAl (c :: t) : Int) by omega]; exact W_nat (by omega)
      simp only [Option.bind_some, hg, words_eq, hW]
      by_cases h20 : front isAl (c :: t) ≤ 20
      · have hd : decide ((front isAl (c :: t) : Int) ≤ 20) = true := by simp; omega
        rw [if_pos h20, hd]
        cases wordsL.contains ((c :: t).take (front isAl (c :: t))) <;> rfl
      · have hd : decide ((front isAl (c :: t) : Int) ≤ 20) = false := by simp; omega
        rw [if_neg h20, hd]
        cases wordsL.contains ((c :: t).take (front isAl (c :: t))) <;> rfl
    · intro i h
      have hd : decide ((i : Int) < (s.length : Int)) = true := by simpa using h
      rw [show isAl s[i] = (isLow s[i] || isDig s[i]) from rfl]
      simp only [hd, cond_true, gi_lt h, Option.bind_some, drlow, drdigit]
      cases isLow s[i] <;> cases isDig s[i] <;> rfl
    · have hd : decide ((s.length : Int) < (s.length : Int)) = false := by simp
      simp only [hd, cond_false, Option.bind_some]
  · have hlow : isLow c = false := by simpa using hlow
    rw [hlow, cond_false, if_neg (by simp)]
    have e45 : (((c.toNat : Nat) : Int) == 45) = decide (c = 45) := nn c 45 (by decide)
    have hx4 : (bif isDig c then some true else some (((c.toNat : Nat) : Int) == 45) : Option Bool) = some (isDig c || decide (c = 45)) := by rw [e45]; cases isDig c <;> rfl
    rw [hx4, Option.bind_some]
    by_cases hnum : isDig c = true ∨ c = 45
    · have hb : (isDig c || decide (c = 45)) = true := by simpa using hnum
      obtain ⟨v, b, h1⟩ := drnumber hs hl hnum hn
      rw [hb, cond_true, if_pos hnum, h1, Option.bind_some]
      refine ⟨⟨3, (a : Int), v, []⟩, b, ?_⟩
      cases numS (c :: t) <;> rfl
    · have hb : (isDig c || decide (c = 45)) = false := by simpa using hnum
      rw [hb, cond_false, if_neg hnum]
      have e34 : (((c.toNat : Nat) : Int) == 34) = decide (c = 34) := nn c 34 (by decide)
      by_cases h34 : c = 34
      · rw [e34, decide_eq_true h34, cond_true, if_pos h34]
        have hf := front_le isTx t
        have hW1 : W ((a : Int) + 1) = ((a + 1 : Nat) : Int) := W_suc (by omega)
        rw [hW1]
        have hloop := front_loop (p := isTx) (s := s) (body := fun (to4 : Int) => ((bif (decide (to4 < (s.length : Int))) then ((gi s to4).bind fun c4 => bif (decide ((c4.toNat : Int) ≥ 32)) then ((gi s to4).bind fun c5 => bif (decide ((c5.toNat : Int) ≤ 126)) then ((gi s to4).bind fun c6 => some ((c6.toNat : Int) != 34)) else some false) else some false) else some false : Option Bool).bind fun (x7 : Bool) => (bif x7 then some (Sum.inl (W (to4 + 1))) else some (Sum.inr to4)))) (by omega) ?_ ?_ t (a + 1) n ht (by omega) (by omega)
        · have hW2 : W (W (((a + 1 + front isTx t : Nat) : Int) - (a : Int)) - 1) = (front isTx t : Int) := by
            rw [show ((a + 1 + front isTx t : Nat) : Int) - (a : Int) = ((1 + front isTx t : Nat) : Int) by omega, W_nat (by omega), show ((1 + front isTx t : Nat) : Int) - 1 = (front isTx t : Int) by omega, W_nat (by omega)]
          by_cases h3 : front isTx t < t.length
          · have hz : (((a + 1 + front isTx t : Nat) : Int) == (s.length : Int)) = false := beq_false_of_ne (by omega)
            have hi : a + 1 + front isTx t < s.length := by omega
            have hq : t[front isTx t]? = some s[a + 1 + front isTx t] := by
              have h7 : (s.drop (a + 1))[front isTx t]? = some s[a + 1 + front isTx t] := by rw [List.getElem?_drop, List.getElem?_eq_getElem hi]
              rw [← ht] at h7; exact h7
            by_cases h2 : front isTx t ≤ 200
            · have hd : decide ((front isTx t : Int) > 200) = false := by simp; omega
              have hg : gsl s ((a + 1 : Nat) : Int) ((a + 1 + front isTx t : Nat) : Int) = some (t.take (front isTx t)) := by
                rw [gsl_nat s (by omega) (by omega)]
                congr 1
                have : (s.take (a + 1 + front isTx t)).drop (a + 1) = (s.drop (a + 1)).take (front isTx t) := by rw [List.drop_take]; congr 1; omega
                rw [this, ← ht]
              have hW3 : W (((a + 1 + front isTx t : Nat) : Int) + 1) = ((a + (front isTx t + 2) : Nat) : Int) := by rw [show ((a + 1 + front isTx t : Nat) : Int) + 1 = ((a + (front isTx t + 2) : Nat) : Int) by omega]; exact W_nat (by omega)
              have e2 : (((s[a + 1 + front isTx t].toNat : Nat) : Int) == 34) = decide (s[a + 1 + front isTx t] = 34) := nn _ 34 (by decide)
              refine ⟨⟨4, (a : Int), 0, t.take (front isTx t)⟩, ((a + (front isTx t + 2) : Nat) : Int), (congrArg (fun o => Option.bind o _) hloop).trans ?_⟩
              simp only [Option.bind_some, hz, cond_false, hW2, hd, hg, gi_lt hi, e2, hW3, hq]
              by_cases h4 : s[a + 1 + front isTx t] = 34
              · rw [decide_eq_true h4, if_pos ⟨h2, by rw [h4]⟩]
              · rw [decide_eq_false h4, if_neg (by simp [h4])]
            · have hd : decide ((front isTx t : Int) > 200) = true := by simp; omega
              refine ⟨⟨0, 0, 0, []⟩, ((a + 1 + front isTx t : Nat) : Int), (congrArg (fun o => Option.bind o _) hloop).trans ?_⟩
              rw [if_neg (by simp [h2])]
              simp only [Option.bind_some, hz, cond_false, hW2, hd, cond_true]
          · have hz : (((a + 1 + front isTx t : Nat) : Int) == (s.length : Int)) = true := by simp; omega
            have hq : t[front isTx t]? = none := List.getElem?_eq_none (by omega)
            refine ⟨⟨0, 0, 0, []⟩, ((a + 1 + front isTx t : Nat) : Int), (congrArg (fun o => Option.bind o _) hloop).trans ?_⟩
            rw [if_neg (by simp [hq])]
            simp only [Option.bind_some, hz, cond_true]
        · intro i h
          have hd : decide ((i : Int) < (s.length : Int)) = true := by simpa using h
          have h1 := dge s[i] 32; have h2 := dle s[i] 126
          simp only [hd, cond_true, gi_lt h, Option.bind_some, show (32 : Int) = ((32 : Nat) : Int) from rfl, show (126 : Int) = ((126 : Nat) : Int) from rfl, h1, h2, bne34]
          rw [show isTx s[i] = (decide (32 ≤ s[i].toNat) && (decide (s[i].toNat ≤ 126) && s[i] != 34)) from rfl]
          cases decide (32 ≤ s[i].toNat) <;> cases decide (s[i].toNat ≤ 126) <;> cases (s[i] != 34) <;> rfl
        · have hd : decide ((s.length : Int) < (s.length : Int)) = false := by simp
          simp only [hd, cond_false, Option.bind_some]
      · rw [e34, decide_eq_false h34, cond_false, if_neg h34]
        have hW1 : W ((a : Int) + 1) = ((a + 1 : Nat) : Int) := W_suc (by omega)
        have hW2 : W ((a : Int) + 2) = ((a + 2 : Nat) : Int) := by rw [show (a : Int) + 2 = ((a + 2 : Nat) : Int) by omega]; exact W_nat (by omega)
        have hg1 : gsl s (a : Int) ((a + 1 : Nat) : Int) = some [c] := by
          rw [gsl_nat s (by omega) (by omega)]
          congr 1
          have : (s.take (a + 1)).drop a = (s.drop a).take 1 := by rw [List.drop_take]; congr 1; omega
          rw [this, ← hl]; rfl
        have htwo : (bif (decide ((W ((a : Int) + 1)) < (s.length : Int))) then ((gsl s (a : Int) (W ((a : Int) + 2))).bind fun s5 => some s5) else some [] : Option Str) = some (twoOf c t) := by
          rw [hW1, hW2]
          cases t with
          | nil =>
            simp only [List.length_nil] at htl
            have hd : decide (((a + 1 : Nat) : Int) < (s.length : Int)) = false := by simp; omega
            rw [hd]; rfl
          | cons d t' =>
            simp only [List.length_cons] at htl
            have hd : decide (((a + 1 : Nat) : Int) < (s.length : Int)) = true := by simp; omega
            have hg : gsl s (a : Int) ((a + 2 : Nat) : Int) = some [c, d] := by
              rw [gsl_nat s (by omega) (by omega)]
              congr 1
              have : (s.take (a + 2)).drop a = (s.drop a).take 2 := by rw [List.drop_take]; congr 1; omega
              rw [this, ← hl]; rfl
            simp only [hd, cond_true, hg, Option.bind_some]
            rfl
        rw [htwo, Option.bind_some]
        have hb2 : ∀ d e : UInt8, ((twoOf c t) == [d, e]) = decide (c = d ∧ t.head? = some e) := by
          intro d e
          cases t with
          | nil => simp [twoOf]
          | cons f t' => rw [Bool.eq_iff_iff]; simp [twoOf]
        have hx10 : (bif ((twoOf c t) == [60, 61]) then some true else (bif ((twoOf c t) == [33, 61]) then some true else (bif ((twoOf c t) == [62, 61]) then some true else some ((twoOf c t) == [94, 61]))) : Option Bool) = some (decide (t.head? = some 61 ∧ (c = 60 ∨ c = 33 ∨ c = 62 ∨ c = 94))) := by
          rw [hb2, hb2, hb2, hb2]
          by_cases h : t.head? = some 61
          · by_cases e1 : c = 60
            · simp [h, e1]
            by_cases e2 : c = 33
            · simp [h, e2]
            by_cases e3 : c = 62
            · simp [h, e3]
            simp [h, e1, e2, e3]
          · simp [h]
        rw [hx10, Option.bind_some]
        by_cases h5 : t.head? = some 61 ∧ (c = 60 ∨ c = 33 ∨ c = 62 ∨ c = 94)
        · rw [decide_eq_true h5, if_pos h5, cond_true, hW2]
          refine ⟨⟨0, 0, 0, []⟩, 0, ?_⟩
          cases t with
          | nil => simp at h5
          | cons d t' =>
            have : d = 61 := by simpa using h5.1
            subst this; rfl
        · rw [decide_eq_false h5, if_neg h5, cond_false, hW1, hg1, Option.bind_some]
          have hb1 : ∀ d : UInt8, (([c] : Str) == [d]) = decide (c = d) := by intro d; rw [Bool.eq_iff_iff]; simp
          simp only [hb1]
          refine ⟨⟨5, (a : Int), 0, [c]⟩, ((a + 1 : Nat) : Int), ?_⟩
          by_cases h6 : c = 40 ∨ c = 41 ∨ c = 44 ∨ c = 60 ∨ c = 61 ∨ c = 62
          · rw [if_pos h6]
            rcases h6 with rfl | rfl | rfl | rfl | rfl | rfl <;> rfl
          · rw [if_neg h6]
            have f1 : c ≠ 40 := fun h => h6 (by simp [h])
            have f2 : c ≠ 41 := fun h => h6 (by simp [h])
            have f3 : c ≠ 44 := fun h => h6 (by simp [h])
            have f4 : c ≠ 60 := fun h => h6 (by simp [h])
            have f5 : c ≠ 61 := fun h => h6 (by simp [h])
            have f6 : c ≠ 62 := fun h => h6 (by simp [h])
            simp only [decide_eq_false f1, decide_eq_false f2, decide_eq_false f3, decide_eq_false f4, decide_eq_false f5, decide_eq_false f6, cond_false]
def toR (x : ttokenToken) : tref06Token := ⟨x.Kind, x.At, x.N, x.S⟩
theorem rcut_loop {n : Nat} {s : Str} (hs : s.length ≤ 1000) (hn : 2000 < n) : ∀ (m : Nat) (l : Str) (a : Nat) (out : List tref06Token) (k : Nat), l.length ≤ m → l = s.drop a → a ≤ s.length → out.length + l.length ≤ 1000 → m < k →
    loopD (ε := Int × (List tref06Token)) (τ := (List tref06Token) ⊕ ((List tref06Token) × Int)) (fun (((at1, out1)) : Int × (List tref06Token)) => (bif (decide (at1 < (s.length : Int))) then ((gi s at1).bind fun c1 => bif ((c1.toNat : Int) == 32) then some (Sum.inl (W (at1 + 1), out1)) else ((dref06_one n s at1).bind fun to1 => bif (!to1.2.2) then some (Sum.inr (Sum.inr ([], 2))) else ((ap out1 [to1.1]).bind fun out4 => some (Sum.inl (to1.2.1, out4))))) else some (Sum.inr (Sum.inl out1)))) k ((a : Int), out)
    = some (match toks a l with | some L => .inl (out ++ L.map toR) | none => .inr ([], 2))
  | m, [], a, out, k, hm, hl, ha, ho, hk => by
    obtain ⟨k, rfl⟩ : ∃ j, k = j + 1 := ⟨k - 1, by omega⟩
    have : a = s.length := by have := congrArg List.length hl; simp at this; omega
    subst this
    rw [toks_nil]
    have hd : decide ((s.length : Int) < (s.length : Int)) = false := by simp
    exact loopD_end (by simp only [hd, cond_false, List.map_nil, List.append_nil])
  | 0, c :: t, a, out, k, hm, hl, ha, ho, hk => by simp at hm
  | m + 1, c :: t, a, out, k, hm, hl, ha, ho, hk => by
    obtain ⟨k, rfl⟩ : ∃ j, k = j + 1 := ⟨k - 1, by omega⟩
    obtain ⟨hlt, hc, ht⟩ := drop_cons hl
    have hd : decide ((a : Int) < (s.length : Int)) = true := by simpa using hlt
    have e32 : (((c.toNat : Nat) : Int) == 32) = decide (c = 32) := nn c 32 (by decide)
    simp only [List.length_cons] at hm ho
    by_cases h32 : c = 32
    · subst h32
      rw [toks_sp]
      refine (loopD_go (s' := (((a + 1 : Nat) : Int), out)) ?_).trans (rcut_loop hs hn m t (a + 1) out k (by omega) ht hlt (by omega) (by omega))
      simp only [hd, cond_true, gi_lt hlt, hc, Option.bind_some, W_suc (show a + 1 < 9223372036854775808 by omega)]
      rfl
    · obtain ⟨x, b, h1⟩ := drone (n := n) hs hl hn
      rw [decide_eq_false h32] at e32
      cases htk : tok (c :: t) with
      | none =>
        rw [htk] at h1
        rw [toks_none h32 htk]
        refine loopD_end ?_
        simp only [hd, cond_true, gi_lt hlt, hc, Option.bind_some, e32, cond_false, h1]
        rfl
      | some p =>
        obtain ⟨y, j⟩ := p
        rw [htk] at h1
        rw [toks_some h32 htk]
        have hj := tok_len htk
        simp only [List.length_cons] at hj
        have hta : t.length + 1 = s.length - a := by have := congrArg List.length hl; simpa using this
        have hap : ap out [(tref06Token.mk y.k (a : Int) y.n y.s)] = some (out ++ [⟨y.k, (a : Int), y.n, y.s⟩]) := ap_ok (Nat.le_trans (show out.length + 1 ≤ 1001 by omega) (by decide))
        have hdr : (c :: t).drop j = s.drop (a + j) := by rw [hl, List.drop_drop]
        refine (loopD_go (s' := (((a + j : Nat) : Int), out ++ [⟨y.k, (a : Int), y.n, y.s⟩])) ?_).trans ((rcut_loop hs hn m ((c :: t).drop j) (a + j) _ k (by simp; omega) hdr (by omega) (by simp; omega) (by omega)).trans ?_)
        · simp only [hd, cond_true, gi_lt hlt, hc, Option.bind_some, e32, cond_false, h1, Bool.not_true, hap]
        · cases toks (a + j) ((c :: t).drop j) <;> simp [toR]
def cutR (s : Str) : List tref06Token × Int := if 500 < s.length then ([], 5) else match toks 0 s with | some L => (L.map toR, 0) | none => ([], 2)
theorem drCut {n : Nat} {s : Str} (hn : 2000 < n) : dref06_Cut n s = some (cutR s) := by
  unfold dref06_Cut cutR
  by_cases h : 500 < s.length
  · have hd : decide ((s.length : Int) > 500) = true := by simp; omega
    rw [hd, if_pos h]; rfl
  · have hd : decide ((s.length : Int) > 500) = false := by simp; omega
    rw [hd, if_neg h, cond_false]
    refine (congrArg (fun o => Option.bind o _) (rcut_loop (n := n) (s := s) (by omega) hn s.length s 0 [] n (Nat.le_refl _) (by simp) (Nat.zero_le _) (by simp; omega) (by omega))).trans ?_
    cases toks 0 s <;> simp [kS]
/-! ### the laws -/
theorem dAs {n : Nat} {l : List ttokenToken} (hl : l.length ≤ 1000) (hn : 2000 < n) : dlaw06_As n l = some (l.map toR) := by
  unfold dlaw06_As
  have key : ∀ (m i k : Nat), i + m = l.length → m < k → loopD (ε := Int × (List tref06Token)) (τ := List tref06Token) (fun (((i1, out1)) : Int × (List tref06Token)) => (bif (decide (i1 < (l.length : Int))) then ((gi l i1).bind fun out8 => (gi l i1).bind fun out9 => (gi l i1).bind fun out10 => (gi l i1).bind fun out11 => (ap out1 [(tref06Token.mk out8.Kind out9.At out10.N out11.S)]).bind fun out12 => some (Sum.inl (W (i1 + 1), out12))) else some (Sum.inr out1))) k ((i : Int), (l.take i).map toR) = some (l.map toR) := by
    intro m
    induction m with
    | zero =>
      intro i k hi hk
      obtain ⟨k, rfl⟩ : ∃ j, k = j + 1 := ⟨k - 1, by omega⟩
      have hd : decide ((i : Int) < (l.length : Int)) = false := by simp; omega
      refine loopD_end ?_
      simp only [hd, cond_false]
      rw [List.take_of_length_le (by omega)]
    | succ m ih =>
      intro i k hi hk
      obtain ⟨k, rfl⟩ : ∃ j, k = j + 1 := ⟨k - 1, by omega⟩
      have hlt : i < l.length := by omega
      have hd : decide ((i : Int) < (l.length : Int)) = true := by simpa using hlt
      have hap : ap ((l.take i).map toR) [toR l[i]] = some ((l.take i).map toR ++ [toR l[i]]) := ap_ok (Nat.le_trans (show _ + 1 ≤ 1001 by rw [List.length_map, List.length_take]; omega) (by decide))
      refine (loopD_go (s' := (((i + 1 : Nat) : Int), (l.take (i + 1)).map toR)) ?_).trans (ih (i + 1) k (by omega) (by omega))
      have hap' : ap ((l.take i).map toR) [(tref06Token.mk l[i].Kind l[i].At l[i].N l[i].S)] = _ := hap
      simp only [hd, cond_true, gi_lt hlt, Option.bind_some, hap', W_suc (show i + 1 < 9223372036854775808 by omega)]
      rw [List.take_add_one, List.getElem?_eq_getElem hlt, List.map_append]; rfl
  exact (congrArg (fun o => Option.bind o _) (key l.length 0 n (by omega) (by omega))).trans rfl
theorem drTokens {n : Nat} {l : List tref06Token} (hl : l.length ≤ 1000) (hn : 2000 < n) : dref06_Tokens n l l = some true := by
  unfold dref06_Tokens
  have h0 : ((l.length : Int) != (l.length : Int)) = false := by simp
  rw [h0, cond_false]
  have key : ∀ (m i k : Nat), i + m = l.length → m < k → loopD (ε := Int) (τ := Unit ⊕ Bool) (fun (i1 : Int) => (bif (decide (i1 < (l.length : Int))) then ((gi l i1).bind fun x1 => (gi l i1).bind fun x2 => bif (!((x1.Kind == x2.Kind) && ((x1.At == x2.At) && ((x1.N == x2.N) && ((x1.S == x2.S) && true))))) then some (Sum.inr (Sum.inr false)) else some (Sum.inl (W (i1 + 1)))) else some (Sum.inr (Sum.inl ())))) k (i : Int) = some (.inl ()) := by
    intro m
    induction m with
    | zero =>
      intro i k hi hk
      obtain ⟨k, rfl⟩ : ∃ j, k = j + 1 := ⟨k - 1, by omega⟩
      have hd : decide ((i : Int) < (l.length : Int)) = false := by simp; omega
      exact loopD_end (by simp only [hd, cond_false])
    | succ m ih =>
      intro i k hi hk
      obtain ⟨k, rfl⟩ : ∃ j, k = j + 1 := ⟨k - 1, by omega⟩
      have hlt : i < l.length := by omega
      have hd : decide ((i : Int) < (l.length : Int)) = true := by simpa using hlt
      refine (loopD_go (s' := ((i + 1 : Nat) : Int)) ?_).trans (ih (i + 1) k (by omega) (by omega))
      simp only [hd, cond_true, gi_lt hlt, Option.bind_some, beq_self_eq_true, Bool.and_self, Bool.not_true, cond_false, W_suc (show i + 1 < 9223372036854775808 by omega)]
  exact (congrArg (fun o => Option.bind o _) (key l.length 0 n (by omega) (by omega))).trans rfl
theorem codeE (n : Nat) : ∀ c ∈ ([1, 2, 3, 4, 5, 6, 7, 8, 9, 10, 11, 12] : List Int), dlaw00_Code (n + 13) (some c) = some c := by
  intro c hc
  simp only [List.mem_cons, List.not_mem_nil, or_false] at hc
  rcases hc with rfl | rfl | rfl | rfl | rfl | rfl | rfl | rfl | rfl | rfl | rfl | rfl <;> kernel_rfl
theorem up06 : Ev fun n => dlaw06_up n = some true := by
  refine Ev.ge 3000 fun n hn => ?_
  unfold dlaw06_up
  rw [dCut (by omega), dCut (by omega)]
  have e1 : cutC [97, 62, 61, 45, 53] = ([⟨1, 0, 0, [97]⟩, ⟨5, 1, 0, [62, 61]⟩, ⟨3, 3, -5, []⟩], none) := by
    have h : toks 0 [97, 62, 61, 45, 53] = some [⟨1, 0, 0, [97]⟩, ⟨5, 1, 0, [62, 61]⟩, ⟨3, 3, -5, []⟩] := by
      rw [toks_some (by decide) (x := ⟨1, 0, [97]⟩) (j := 1) (by kernel_rfl)]
      show (toks 1 [62, 61, 45, 53]).map _ = _
      rw [toks_some (by decide) (x := ⟨5, 0, [62, 61]⟩) (j := 2) (by kernel_rfl)]
      show ((toks 3 [45, 53]).map _).map _ = _
      rw [toks_some (by decide) (x := ⟨3, -5, []⟩) (j := 2) (by kernel_rfl)]
      show (((toks 5 []).map _).map _).map _ = _
      rw [toks_nil]; rfl
    unfold cutC; rw [if_neg (by decide), h]
  have e2 : cutC [36] = ([], some 2) := by
    unfold cutC; rw [if_neg (by decide), toks_none (by decide) (by kernel_rfl)]
  rw [e1, e2]; rfl
theorem TokenCuts_e (s : Str) : Ev fun n => dlaw06_TokenCuts n s = some true := by
  refine (up06.big 3000).mono fun n hh => ?_
  obtain ⟨hn, hup⟩ := hh
  unfold dlaw06_TokenCuts
  rw [hup, Option.bind_some]
  by_cases h : 2000 < s.length
  · have hd : decide ((s.length : Int) > 2000) = true := by simp; omega
    rw [hd]; rfl
  · have hd : decide ((s.length : Int) > 2000) = false := by simp; omega
    rw [hd, cond_false, dCut (by omega), drCut (by omega)]
    obtain ⟨k, rfl⟩ : ∃ k, n = k + 13 := ⟨n - 13, by omega⟩
    unfold cutC cutR
    by_cases h5 : 500 < s.length
    · rw [if_pos h5, if_pos h5]
      simp only [Option.bind_some, cond_true, codeE k 5 (by decide), beq_self_eq_true, dAs (l := []) (by simp) (show 2000 < k + 13 by omega), List.map_nil, drTokens (l := []) (by simp) (show 2000 < k + 13 by omega)]
    · rw [if_neg h5, if_neg h5]
      cases ht : toks 0 s with
      | none => simp only [Option.bind_some, cond_true, codeE k 2 (by decide), beq_self_eq_true, dAs (l := []) (by simp) (show 2000 < k + 13 by omega), List.map_nil, drTokens (l := []) (by simp) (show 2000 < k + 13 by omega)]
      | some L =>
        have hL := toks_len s.length s 0 L (Nat.le_refl _) ht
        have h0 : dlaw00_Code (k + 13) none = some 0 := rfl
        simp only [Option.bind_some, cond_true, h0, beq_self_eq_true, dAs (l := L) (by omega) (show 2000 < k + 13 by omega), drTokens (l := L.map toR) (by simp; omega) (show 2000 < k + 13 by omega)]
theorem TokenCuts_c {s : Str} (h1 : okS s) : PCall Tryd.prog 3 [.str (sB s)] (· = .bool true) := by
  obtain ⟨n, h⟩ := (TokenCuts_e s).get
  exact dlaw06_TokenCuts_l h
end Go.Proofs.YtaekecbadkcggaaDoor
