/- Layer 18: owners: what stands there once. -/
import Derived.Test.YtngeejjllgnpcaaE05h
import Derived.Test.YtngeejjllgnpcaaD18
namespace Go.Proofs.Ytngeejjllgnpcaa
open Go.Pv
set_option linter.unusedVariables false
set_option linter.unusedSimpArgs false
set_option maxRecDepth 10000

/-! ### slices.Compact -/
/-- What is left, if of neighbours that are the same one stays. -/
def cpt : List Int → List Int
  | [] => []
  | [x] => [x]
  | x :: y :: t => if x = y then cpt (y :: t) else x :: cpt (y :: t)
/-- The rest of the work, behind an element x that stays: what is put. -/
def cptR : Int → List Int → List Int
  | _, [] => []
  | x, y :: t => if y = x then cptR x t else y :: cptR y t
theorem cpt_cons (x : Int) (t : List Int) : cpt (x :: t) = x :: cptR x t := by
  induction t generalizing x with
  | nil => rfl
  | cons y t ih =>
    rw [cpt, cptR]
    by_cases h : x = y
    · rw [if_pos h, if_pos h.symm, ih, h]
    · rw [if_neg h, if_neg (fun e => h e.symm), ih]
theorem cptR_snoc (x a e : Int) (l : List Int) : cptR x (l ++ [a] ++ [e]) = cptR x (l ++ [a]) ++ (if e = a then [] else [e]) := by
  induction l generalizing x with
  | nil =>
    simp only [List.nil_append, List.cons_append, cptR]
    by_cases h : a = x
    · subst h; rw [if_pos rfl, if_pos rfl]; simp
    · rw [if_neg h, if_neg h]; simp
  | cons y l ih =>
    simp only [List.cons_append, cptR] at ih ⊢
    by_cases h : y = x
    · rw [if_pos h, if_pos h, ih]
    · rw [if_neg h, if_neg h, ih]; rfl
theorem cpt_snoc (a e : Int) (l : List Int) : cpt (l ++ [a] ++ [e]) = cpt (l ++ [a]) ++ (if e = a then [] else [e]) := by
  cases l with
  | nil =>
    show cpt [a, e] = cpt [a] ++ _
    rw [cpt_cons, cpt_cons, cptR, cptR, cptR]
    by_cases h : e = a
    · rw [if_pos h, if_pos h]; rfl
    · rw [if_neg h, if_neg h]; rfl
  | cons x l =>
    simp only [List.cons_append]
    rw [cpt_cons, cpt_cons, cptR_snoc]; rfl
theorem cpt_take {s : List Int} {j : Nat} (h1 : 1 ≤ j) (hj : j < s.length) : cpt (s.take (j + 1)) = if s[j] = s[j - 1] then cpt (s.take j) else cpt (s.take j) ++ [s[j]] := by
  obtain ⟨i, rfl⟩ : ∃ i, j = i + 1 := ⟨j - 1, by omega⟩
  rw [List.take_succ_eq_append_getElem hj, List.take_succ_eq_append_getElem (show i < s.length by omega), cpt_snoc]
  simp only [Nat.add_sub_cancel]
  split <;> simp
theorem cpt_len_take {s : List Int} {j : Nat} : (cpt (s.take j)).length ≤ j := by
  have h : ∀ l : List Int, (cpt l).length ≤ l.length := by
    intro l
    cases l with
    | nil => exact Nat.le_refl _
    | cons x t =>
      rw [cpt_cons]
      have : ∀ (t : List Int) (x : Int), (cptR x t).length ≤ t.length := by
        intro t
        induction t with
        | nil => intro x; exact Nat.le_refl _
        | cons y t ih =>
          intro x
          rw [cptR]
          split
          · have := ih x; simp; omega
          · have := ih y; simp; omega
      have := this t x
      simp; omega
  have := h (s.take j)
  rw [List.length_take] at this
  omega
theorem cpt_one {s : List Int} (h : 0 < s.length) : cpt (s.take 1) = s.take 1 := by
  cases s with
  | nil => simp at h
  | cons x t => rfl
/-- Behind the first two that are the same. -/
theorem cpt_in {s : List Int} {k fu : Nat} (hs : s.length ≤ capN) (hfu : s.length + 5 ≤ fu) (h1 : 1 ≤ k) (hk : k < s.length) (hC : cpt (s.take k) = s.take k) (he : s[k] = s[k - 1]) :
    ∃ (k5 : Nat) (d : List Int), loopD (ε := Int × Int × (List Int)) (τ := Int × (List Int)) (fun (((k3, k21, s2)) : Int × Int × (List Int)) => (bif (decide (k21 < ((s.length : Int) - (k : Int)))) then (((gvi ((s.length : Int) - (k : Int)) k21).bind fun _ => (gi s2 ((k : Int) + k21)).bind fun x3 => (gvi ((s.length : Int) - (k : Int)) (W (k21 - 1))).bind fun _ => (gi s2 ((k : Int) + (W (k21 - 1)))).bind fun x4 => bif (x3 != x4) then ((gvi ((s.length : Int) - (k : Int)) k21).bind fun _ => (gi s2 ((k : Int) + k21)).bind fun x5 => (gi s2 k3).bind fun x6 => (sti s2 k3 x5).bind fun s6 => some (W (k3 + 1), s6)) else some (k3, s2) : Option (Int × (List Int))).bind fun (((k6, s5)) : Int × (List Int)) => some (Sum.inl (k6, W (k21 + 1), s5))) else some (Sum.inr (k3, s2)))) fu ((k : Int), 1, s) = some ((k5 : Int), d) ∧ k5 ≤ s.length ∧ d.length = s.length ∧ d.take k5 = cpt s := by
  unfold capN at hs
  have key := loopD_tot (ε := Int × Int × (List Int)) (τ := Int × (List Int)) (body := fun (((k3, k21, s2)) : Int × Int × (List Int)) => (bif (decide (k21 < ((s.length : Int) - (k : Int)))) then (((gvi ((s.length : Int) - (k : Int)) k21).bind fun _ => (gi s2 ((k : Int) + k21)).bind fun x3 => (gvi ((s.length : Int) - (k : Int)) (W (k21 - 1))).bind fun _ => (gi s2 ((k : Int) + (W (k21 - 1)))).bind fun x4 => bif (x3 != x4) then ((gvi ((s.length : Int) - (k : Int)) k21).bind fun _ => (gi s2 ((k : Int) + k21)).bind fun x5 => (gi s2 k3).bind fun x6 => (sti s2 k3 x5).bind fun s6 => some (W (k3 + 1), s6)) else some (k3, s2) : Option (Int × (List Int))).bind fun (((k6, s5)) : Int × (List Int)) => some (Sum.inl (k6, W (k21 + 1), s5))) else some (Sum.inr (k3, s2))))
    (fun st => ∃ (m j : Nat) (d : List Int), st = ((m : Int), (j : Int), d) ∧ 1 ≤ j ∧ k + j ≤ s.length ∧ d.length = s.length ∧ m ≤ k + j - 1 ∧ d.take m = cpt (s.take (k + j)) ∧ ∀ i, k + j - 1 ≤ i → d[i]? = s[i]?)
    (fun st => s.length - k - st.2.1.toNat) (fun e => ∃ (k5 : Nat) (d : List Int), e = ((k5 : Int), d) ∧ k5 ≤ s.length ∧ d.length = s.length ∧ d.take k5 = cpt s) ?_ fu ((k : Int), 1, s)
    ⟨k, 1, s, rfl, Nat.le_refl _, hk, rfl, by omega, by rw [cpt_take h1 hk, if_pos he, hC], fun _ _ => rfl⟩ (by simp only [show ((1 : Int)).toNat = 1 from rfl]; omega)
  · obtain ⟨e, h, k5, d, rfl, h2⟩ := key
    exact ⟨k5, d, h, h2⟩
  · rintro _ ⟨m, j, d, rfl, g1, g2, g3, g4, g5, g6⟩
    dsimp only
    by_cases hc : k + j < s.length
    · have e1 : W ((j : Int) - 1) = ((j - 1 : Nat) : Int) := nW_sub1 (by omega) g1
      rw [show decide ((j : Int) < (s.length : Int) - (k : Int)) = true from decide_eq_true (by omega), cond_true, e1]
      have v1 : gvi ((s.length : Int) - (k : Int)) (j : Int) = some () := by unfold gvi; rw [if_pos (by omega)]
      have v2 : gvi ((s.length : Int) - (k : Int)) ((j - 1 : Nat) : Int) = some () := by unfold gvi; rw [if_pos (by omega)]
      have r1 : gi d ((k : Int) + (j : Int)) = some s[k + j] := by
        rw [show ((k : Int) + (j : Int)) = ((k + j : Nat) : Int) by omega, gi_nat, g6 _ (by omega), List.getElem?_eq_getElem hc]
      have r2 : gi d ((k : Int) + ((j - 1 : Nat) : Int)) = some s[k + j - 1] := by
        rw [show ((k : Int) + ((j - 1 : Nat) : Int)) = ((k + j - 1 : Nat) : Int) by omega, gi_nat, g6 _ (Nat.le_refl _), List.getElem?_eq_getElem (by omega)]
      rw [v1, v2, r1, r2]
      simp only [Option.bind_some]
      have hct := cpt_take (s := s) (j := k + j) (by omega) hc
      by_cases hd : s[k + j] = s[k + j - 1]
      · rw [show (s[k + j] != s[k + j - 1]) = false by rw [hd]; simp, cond_false]
        refine ⟨_, rfl, fun s' hs' => ?_, fun e h => (by cases h)⟩
        cases hs'
        refine ⟨⟨m, j + 1, d, by rw [nW_add1 (by omega)], by omega, by omega, g3, by omega, ?_, fun i hi => g6 i (by omega)⟩, ?_⟩
        · rw [g5, show k + (j + 1) = k + j + 1 by omega, hct, if_pos hd]
        · simp only [nW_add1 (show j + 1 < 9223372036854775808 by omega), Int.toNat_natCast]; omega
      · rw [show (s[k + j] != s[k + j - 1]) = true by simpa using hd, cond_true, gi_lt (show m < d.length by omega)]
        simp only [Option.bind_some]
        rw [sti_lt _ (show m < d.length by omega)]
        simp only [Option.bind_some]
        refine ⟨_, rfl, fun s' hs' => ?_, fun e h => (by cases h)⟩
        cases hs'
        refine ⟨⟨m + 1, j + 1, d.set m s[k + j], by rw [nW_add1 (by omega), nW_add1 (by omega)], by omega, by omega, by rw [List.length_set]; exact g3, by omega, ?_, fun i hi => ?_⟩, ?_⟩
        · rw [show k + (j + 1) = k + j + 1 by omega, hct, if_neg hd, ← g5]
          rw [List.take_succ_eq_append_getElem (by rw [List.length_set]; omega), List.take_set_of_le (Nat.le_refl _)]
          simp
        · rw [List.getElem?_set_ne (by omega)]; exact g6 i (by omega)
        · simp only [nW_add1 (show j + 1 < 9223372036854775808 by omega), Int.toNat_natCast]; omega
    · rw [show decide ((j : Int) < (s.length : Int) - (k : Int)) = false from decide_eq_false (by omega), cond_false]
      refine ⟨_, rfl, fun s' hs' => (by cases hs'), fun e h => ?_⟩
      cases h
      refine ⟨m, d, rfl, by omega, g3, ?_⟩
      rw [g5, List.take_of_length_le (by omega)]
theorem cpt_l {fu : Nat} {s : List Int} (hs : s.length ≤ capN) (hfu : s.length + 5 ≤ fu) : dslices_Compact_int fu s = some (cpt s) := by
  have hs' := hs
  unfold capN at hs
  unfold dslices_Compact_int
  by_cases h2 : s.length < 2
  · rw [show decide ((s.length : Int) < 2) = true from decide_eq_true (by omega), cond_true]
    match s, h2 with
    | [], _ => rfl
    | [x], _ => rfl
  · rw [show decide ((s.length : Int) < 2) = false from decide_eq_false (by omega), cond_false]
    have key : ∀ (m k n : Nat), k + m = s.length → 1 ≤ k → cpt (s.take k) = s.take k → m < n → ∃ o : Unit ⊕ List Int, loopD (ε := Int) (τ := Unit ⊕ (List Int)) (fun (k1 : Int) => (bif (decide (k1 < (s.length : Int))) then ((gi s k1).bind fun x1 => (gi s (W (k1 - 1))).bind fun x2 => bif (x1 == x2) then ((vw (s.length : Int) k1 (s.length : Int)).bind fun _ => (loopD (ε := Int × Int × (List Int)) (τ := Int × (List Int)) (fun (((k3, k21, s2)) : Int × Int × (List Int)) => (bif (decide (k21 < ((s.length : Int) - k1))) then (((gvi ((s.length : Int) - k1) k21).bind fun _ => (gi s2 (k1 + k21)).bind fun x3 => (gvi ((s.length : Int) - k1) (W (k21 - 1))).bind fun _ => (gi s2 (k1 + (W (k21 - 1)))).bind fun x4 => bif (x3 != x4) then ((gvi ((s.length : Int) - k1) k21).bind fun _ => (gi s2 (k1 + k21)).bind fun x5 => (gi s2 k3).bind fun x6 => (sti s2 k3 x5).bind fun s6 => some (W (k3 + 1), s6)) else some (k3, s2) : Option (Int × (List Int))).bind fun (((k6, s5)) : Int × (List Int)) => some (Sum.inl (k6, W (k21 + 1), s5))) else some (Sum.inr (k3, s2)))) fu (k1, 1, s)).bind fun (((k5, s4)) : Int × (List Int)) => ((vw (s4.length : Int) k5 (s4.length : Int)).bind fun _ => (clr s4 k5 (s4.length : Int) 0).bind fun s7 => (vw (s7.length : Int) 0 k5).bind fun _ => (gsl s7 0 k5).bind fun y1 => some (Sum.inr (Sum.inr y1)))) else some (Sum.inl (W (k1 + 1)))) else some (Sum.inr (Sum.inl ())))) n (k : Int) = some o ∧ (o = .inl () ∧ cpt s = s ∨ o = .inr (cpt s)) := by
      intro m
      induction m with
      | zero =>
        intro k n hk h1 hC hn
        obtain ⟨n, rfl⟩ : ∃ j, n = j + 1 := ⟨n - 1, by omega⟩
        refine ⟨.inl (), loopD_end (by rw [show decide ((k : Int) < (s.length : Int)) = false from decide_eq_false (by omega)]; rfl), .inl ⟨rfl, ?_⟩⟩
        rw [List.take_of_length_le (by omega)] at hC; exact hC
      | succ m ih =>
        intro k n hk h1 hC hn
        obtain ⟨n, rfl⟩ : ∃ j, n = j + 1 := ⟨n - 1, by omega⟩
        have hlt : k < s.length := by omega
        by_cases hd : s[k] = s[k - 1]
        · obtain ⟨k5, d, e1, e2, e3, e4⟩ := cpt_in hs' hfu h1 hlt hC hd
          refine ⟨.inr (cpt s), loopD_end ?_, .inr rfl⟩
          rw [show decide ((k : Int) < (s.length : Int)) = true from decide_eq_true (by omega), cond_true, gi_lt hlt, nW_sub1 (by omega) h1, gi_lt (show k - 1 < s.length by omega)]
          simp only [Option.bind_some]
          rw [show (s[k] == s[k - 1]) = true by rw [hd]; simp, cond_true]
          have v1 : vw (s.length : Int) (k : Int) (s.length : Int) = some () := by unfold vw; rw [if_pos (by omega)]
          rw [v1]
          simp only [Option.bind_some]
          rw [e1]
          simp only [Option.bind_some]
          have v2 : vw (d.length : Int) (k5 : Int) (d.length : Int) = some () := by unfold vw; rw [if_pos (by omega)]
          rw [v2]
          simp only [Option.bind_some]
          have hcl : clr d (k5 : Int) (d.length : Int) 0 = some (d.take k5 ++ List.replicate (d.length - k5) 0) := by
            unfold clr
            rw [if_pos (by omega)]
            congr 1
            rw [show ((k5 : Int)).toNat = k5 by omega, show ((d.length : Int) - (k5 : Int)).toNat = d.length - k5 by omega, show ((d.length : Int)).toNat = d.length by omega, List.drop_length, List.append_nil]
          rw [hcl]
          simp only [Option.bind_some]
          have v3 : vw ((d.take k5 ++ List.replicate (d.length - k5) (0 : Int)).length : Int) 0 (k5 : Int) = some () := by unfold vw; rw [if_pos (by simp; omega)]
          rw [v3]
          simp only [Option.bind_some]
          rw [show (0 : Int) = ((0 : Nat) : Int) from rfl, gsl_nat _ (Nat.zero_le _) (by simp; omega)]
          simp only [Option.bind_some, List.drop_zero]
          rw [List.take_append_of_le_length (by simp; omega), List.take_take, Nat.min_self, e4]
        · have hstep : cpt (s.take (k + 1)) = s.take (k + 1) := by
            rw [cpt_take h1 hlt, if_neg hd, hC, ← List.take_succ_eq_append_getElem hlt]
          obtain ⟨o, ho, h⟩ := ih (k + 1) n (by omega) (by omega) hstep (by omega)
          refine ⟨o, ?_, h⟩
          rw [loopD_go (s' := ((k + 1 : Nat) : Int)) ?_]
          · exact ho
          · rw [show decide ((k : Int) < (s.length : Int)) = true from decide_eq_true (by omega), cond_true, gi_lt hlt, nW_sub1 (by omega) h1, gi_lt (show k - 1 < s.length by omega)]
            simp only [Option.bind_some]
            rw [show (s[k] == s[k - 1]) = false by simpa using hd, cond_false, nW_add1 (by omega)]
    obtain ⟨o, ho, h⟩ := key (s.length - 1) 1 fu (by omega) (Nat.le_refl _) (cpt_one (by omega)) (by omega)
    have ho' := ho
    rw [show ((1 : Nat) : Int) = 1 from rfl] at ho'
    rw [ho']
    rcases h with ⟨rfl, h⟩ | rfl
    · simp only [Option.bind_some, kS, h]
    · rfl
end Go.Proofs.Ytngeejjllgnpcaa
