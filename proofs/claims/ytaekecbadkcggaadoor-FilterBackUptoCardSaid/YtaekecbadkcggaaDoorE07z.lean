/- Layer 7: FilterBack. -/
import Derived.Test.YtaekecbadkcggaaDoorE07m
import Derived.Test.YtaekecbadkcggaaDoorE07f
import Derived.Test.YtaekecbadkcggaaDoorE07u
namespace Go.Proofs.YtaekecbadkcggaaDoor
open Go.Pv
set_option linter.unusedSimpArgs false
set_option linter.unusedVariables false
set_option maxRecDepth 100000

theorem drcount : ∀ f : tFilter, ok_tFilter f → Ev fun n => ∀ m, ∃ r, dref06_count n f m = some r
  | .mk kind nm op vals fs, hf => by
    obtain ⟨h1, h2, h3⟩ := okF_mk hf
    have ih : Ev fun n => ∀ x ∈ fs, ∀ m, ∃ r, dref06_count n x m = some r := Ev.all fun x hx => drcount x (oks_mem h3 x hx)
    refine Ev.succ ((ih.big (vals.length + fs.length + 1)).mono fun n hh m => ?_)
    obtain ⟨hn, ih⟩ := hh
    rw [dref06_count]
    simp only [Option.bind_some]
    refine loopD_ex (fun s => ∃ i : Nat, s.2 = (i : Int) ∧ i ≤ vals.length) (fun s => vals.length - s.2.toNat) (fun _ => True) ⟨0, rfl, Nat.zero_le _⟩ (by simp; omega) ?_ fun e _ => ?_
    · rintro ⟨m1, i1⟩ ⟨i, hi, hle⟩
      simp only at hi; subst hi
      by_cases h : i < vals.length
      · have hd : decide ((i : Int) < (vals.length : Int)) = true := by simpa using h
        simp only [hd, cond_true, gi_lt h, Option.bind_some, W_suc (show i + 1 < 9223372036854775808 by have := lt_max h1; omega)]
        exact ⟨_, rfl, fun s' e => by cases e; exact ⟨⟨i + 1, rfl, h⟩, by simp only [Int.toNat_natCast]; omega⟩, fun e he => by cases he⟩
      · have hd : decide ((i : Int) < (vals.length : Int)) = false := by simp; omega
        simp only [hd, cond_false]
        exact ⟨_, rfl, (fun s' e => nomatch e), fun _ _ => trivial⟩
    · refine loopD_ex (fun s => ∃ i : Nat, s.2 = (i : Int) ∧ i ≤ fs.length) (fun s => fs.length - s.2.toNat) (fun _ => True) ⟨0, rfl, Nat.zero_le _⟩ (by simp; omega) ?_ fun e _ => ⟨e, rfl⟩
      rintro ⟨m1, i1⟩ ⟨i, hi, hle⟩
      simp only at hi; subst hi
      by_cases h : i < fs.length
      · have hd : decide ((i : Int) < (fs.length : Int)) = true := by simpa using h
        simp only [hd, cond_true, Option.bind_some]
        cases hm : decide (m1 ≥ 0) with
        | false => exact ⟨_, rfl, (fun s' e => nomatch e), fun _ _ => trivial⟩
        | true =>
          obtain ⟨r, hr⟩ := ih _ (List.getElem_mem h) m1
          simp only [cond_true, gi_lt h, Option.bind_some, W_suc (show i + 1 < 9223372036854775808 by have := lt_max h2; omega)]
          cases hx : fs[i] with
          | mk a b c d e =>
            rw [hx] at hr
            simp only [hr, Option.bind_some]
            exact ⟨_, rfl, fun s' e => by cases e; exact ⟨⟨i + 1, rfl, h⟩, by simp only [Int.toNat_natCast]; omega⟩, fun e he => by cases he⟩
      · have hd : decide ((i : Int) < (fs.length : Int)) = false := by simp; omega
        simp only [hd, cond_false, Option.bind_some]
        exact ⟨_, rfl, (fun s' e => nomatch e), fun _ _ => trivial⟩
theorem drFew (f : tFilter) (hf : ok_tFilter f) : Ev fun n => ∃ b, dref06_Few n f = some b := (drcount f hf).mono fun n h => by
  cases f
  rw [dref06_Few]
  exact bind_ex (h 5000) fun v _ => ⟨_, rfl⟩
mutual
theorem nodes_bk : ∀ f : tFilter, nodesF f ≤ bkL (c_tFilter f)
  | .mk a b c d l => by have := nodesL_bk l; simp only [nodesF, c_tFilter, bkL, AV.bk]; omega
theorem nodesL_bk : ∀ l : List tFilter, nodesL l ≤ bkLL (cs_tFilter l)
  | [] => Nat.zero_le _
  | x :: l => by have := nodes_bk x; have := nodesL_bk l; simp only [nodesL, cs_tFilter, bkLL]; omega
end
theorem mayF_parts {f : tFilter} (h : mayF f = true) : deepF f ≤ 10 ∧ nodesF f ≤ 60 ∧ fineF f = true := by
  unfold mayF at h; simpa only [Bool.and_eq_true, decide_eq_true_eq] using h
theorem dText {f : tFilter} (hf : ok_tFilter f) (hN : nodesF f ≤ 4611686018427387904) : Ev fun n => dfilter_Text n f = some (if mayF f then (showF f, none) else ([], some 1)) := by
  cases hm : mayF f with
  | false =>
    refine (dMay hf hN).mono fun n e => ?_
    cases f; rw [dfilter_Text]; simp only [e, hm, Option.bind_some]; rfl
  | true =>
    obtain ⟨_, h2, h3⟩ := mayF_parts hm
    refine ((dMay hf hN).and (dshow f hf h3 (by omega))).mono fun n e => ?_
    obtain ⟨e1, e2⟩ := e
    cases f; rw [dfilter_Text]; simp only [e1, e2, hm, Option.bind_some]; rfl
theorem readF_back {f : tFilter} (hf : ok_tFilter f) (hm : mayF f = true) (hl : (showF f).length ≤ 500) : readF (showF f) = (f, none) := by
  obtain ⟨L, h1, h2⟩ := parse_show hf (mayF_parts hm).2.2
  unfold readF
  rw [if_neg (by omega), h1]
  simp only
  rw [h2]
  simp only [if_true, hm]
theorem readF_long {s : Str} (h : 500 < s.length) : readF s = (.mk 0 [] [] [] [], some 5) := by unfold readF; rw [if_pos h]
theorem readF_may {s : Str} (h : (readF s).2 = none) : mayF (readF s).1 = true := by
  by_cases hs : 500 < s.length
  · rw [readF_long hs] at h; cases h
  · cases h1 : toks 0 s with
    | none =>
      have e : readF s = (.mk 0 [] [] [] [], some 2) := by unfold readF; rw [if_neg hs, h1]
      rw [e] at h; cases h
    | some L =>
      cases h2 : pOr (L.length + 1) L with
      | none =>
        have e : readF s = (.mk 0 [] [] [] [], some 3) := by unfold readF; rw [if_neg hs, h1]; simp only; rw [h2]
        rw [e] at h; cases h
      | some q =>
        obtain ⟨f, r⟩ := q
        have e : readF s = if r = [] then (if mayF f then (f, none) else (.mk 0 [] [] [] [], some 5)) else (.mk 0 [] [] [] [], some 3) := by unfold readF; rw [if_neg hs, h1]; simp only; rw [h2]
        rw [e] at h ⊢
        by_cases hr : r = []
        · rw [if_pos hr] at h ⊢
          by_cases hm : mayF f = true
          · rw [if_pos hm]; exact hm
          · rw [if_neg hm] at h; cases h
        · rw [if_neg hr] at h; cases h
theorem FilterBack_e (f : tFilter) (s : Str) (hf : ok_tFilter f) (hN : nodesF f ≤ 1048576) : Ev fun n => dlaw07_FilterBack n f s = some true := by
  have hg := readF_fit s
  have hNg : nodesF (readF s).1 ≤ 4611686018427387904 ∨ (readF s).2 ≠ none := by
    by_cases h : (readF s).2 = none
    · have := (mayF_parts (readF_may h)).2.1; exact .inl (by omega)
    · exact .inr h
  have hT : Ev fun n => (readF s).2 = none → dfilter_Text n (readF s).1 = some (showF (readF s).1, none) := by
    by_cases h : (readF s).2 = none
    · have hm := readF_may h
      refine (dText hg (by have := (mayF_parts hm).2.1; omega)).mono fun n e _ => ?_
      rw [e, if_pos hm]
    · exact Ev.of fun n h' => absurd h' h
  refine ((((((((up07.and (drFew f hf)).and (dText hf (by omega))).and (dRead (showF f))).and (dSame f f hf)).and (dRead s)).and hT).and (dRead (showF (readF s).1))).and (dSame (readF s).1 (readF s).1 hg)).mono fun n h => ?_
  obtain ⟨⟨⟨⟨⟨⟨⟨⟨h1, ⟨b, h2⟩⟩, h3⟩, h4⟩, h5⟩, h6⟩, h7⟩, h8⟩, h9⟩ := h
  rw [eqF_refl] at h5 h9
  have hback := fun hm hl => readF_back hf hm hl
  cases hef : f with
  | mk k1 k2 k3 k4 k5 =>
  rw [dlaw07_FilterBack]
  rw [hef] at h2 h3 h4 h5 hback
  simp only [h1, h2, Option.bind_some]
  have hx : (bif (!b) then some true else some (decide ((s.length : Int) > 1000)) : Option Bool) = some (!b || decide ((s.length : Int) > 1000)) := by cases b <;> rfl
  rw [hx, Option.bind_some]
  cases !b || decide ((s.length : Int) > 1000) with
  | true => rfl
  | false =>
    simp only [cond_false, h3, Option.bind_some]
    refine (congrArg (fun o => Option.bind o _) (a₂ := some (Sum.inl ())) ?_).trans ?_
    · cases hm : mayF (.mk k1 k2 k3 k4 k5) with
      | false => rfl
      | true =>
        simp only [if_true, Option.isNone_none, cond_true, h4, Option.bind_some]
        by_cases hl : (showF (.mk k1 k2 k3 k4 k5)).length ≤ 500
        · have d1 : decide (((showF (.mk k1 k2 k3 k4 k5)).length : Int) ≤ 500) = true := by simp; omega
          have d2 : decide (((showF (.mk k1 k2 k3 k4 k5)).length : Int) > 500) = false := by simp; omega
          rw [hback hm hl]
          simp only [d1, d2, h5, Option.isSome_none, cond_true, cond_false, Option.bind_some, Bool.not_true]
        · have d1 : decide (((showF (.mk k1 k2 k3 k4 k5)).length : Int) ≤ 500) = false := by simp; omega
          have d2 : decide (((showF (.mk k1 k2 k3 k4 k5)).length : Int) > 500) = true := by simp; omega
          rw [readF_long (by omega)]
          simp only [d1, d2, cond_true, cond_false, Option.bind_some, beq_self_eq_true, Bool.not_true]
    · simp only [Option.bind_some, kS, h6]
      have hbg := fun hm hl => readF_back hg hm hl
      have hmg := fun h => readF_may (s := s) h
      obtain ⟨⟨g, e⟩, hge⟩ : ∃ p, readF s = p := ⟨_, rfl⟩
      rw [hge] at h7 h8 h9 hbg hmg ⊢
      simp only at h7 h8 h9 hbg hmg ⊢
      cases e with
      | some c => cases g; rfl
      | none =>
        have h7 : dfilter_Text n g = some (showF g, none) := by simpa using h7
        have hmg : mayF g = true := by simpa using hmg
        by_cases hl : (showF g).length ≤ 500
        · have d2 : decide (((showF g).length : Int) > 500) = false := by simp; omega
          rw [hbg hmg hl] at h8
          cases g
          simp only [Option.isSome_none, cond_false, cond_true, h7, h8, h9, d2, Option.bind_some, Option.isNone_none]
        · have d2 : decide (((showF g).length : Int) > 500) = true := by simp; omega
          rw [readF_long (by omega)] at h8
          cases g
          simp only [Option.isSome_none, cond_false, cond_true, h7, h8, h9, d2, Option.bind_some, beq_self_eq_true]
theorem FilterBack_c {f : tFilter} {s : Str} (hf : ok_tFilter f) (hs : okS s) (hb : bkL [.agg (c_tFilter f), .str (sB s)] ≤ 1048576) : PCall Tryd.prog 5 [.agg (c_tFilter f), .str (sB s)] (· = .bool true) := by
  have h1 := nodes_bk f
  simp only [bkL, AV.bk] at hb
  obtain ⟨n, h⟩ := (FilterBack_e f s hf (by omega)).get
  exact dlaw07_FilterBack_l h
end Go.Proofs.YtaekecbadkcggaaDoor
