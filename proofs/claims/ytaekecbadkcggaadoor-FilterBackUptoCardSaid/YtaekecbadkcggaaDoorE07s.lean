/- Layer 7, plainly: a filter's text. -/
import Derived.Test.YtaekecbadkcggaaDoorE07
namespace Go.Proofs.YtaekecbadkcggaaDoor
open Go.Pv
set_option linter.unusedSimpArgs false
set_option linter.unusedVariables false
set_option linter.unusedSectionVars false
set_option maxRecDepth 100000

theorem showL_snoc : ∀ (l : List tFilter) (x : tFilter), showL (l ++ [x]) = showL l ++ [par (kindF x == 1 || kindF x == 2) (showF x)]
  | [], x => by rw [List.nil_append, showL, showL]; rfl
  | y :: l, x => by rw [List.cons_append, showL, showL, showL_snoc l x]; rfl
theorem showL_len : ∀ l : List tFilter, (showL l).length = l.length
  | [] => by rw [showL]; rfl
  | x :: l => by rw [showL]; simp [showL_len l]
theorem joinS_snoc (sep : Str) : ∀ (l : List Str) (x : Str), l ≠ [] → joinS sep (l ++ [x]) = joinS sep l ++ (sep ++ x)
  | [], x, h => absurd rfl h
  | [y], x, _ => rfl
  | y :: z :: l, x, _ => by
    have := joinS_snoc sep (z :: l) x (by simp)
    rw [List.cons_append, List.cons_append, joinS, joinS]
    rw [List.cons_append] at this
    rw [this]; simp
theorem joinS_len (sep : Str) (c : Nat) : ∀ l : List Str, (joinS sep l).length ≤ (l.map fun s => s.length + sep.length).sum
  | [] => Nat.le_refl _
  | [x] => by simp [joinS]
  | x :: y :: l => by
    have := joinS_len sep c (y :: l)
    rw [joinS, List.map_cons, List.sum_cons]
    simp only [List.length_append] at *; omega
theorem nameB_len {s : Str} (h : nameB s = true) : s.length ≤ 20 := by
  unfold nameB at h; simp only [Bool.and_eq_true, decide_eq_true_eq] at h; exact h.1
theorem okI64 {c : Int} (h : okI .i64 c) : -9223372036854775808 ≤ c ∧ c ≤ 9223372036854775807 := by
  unfold okI at h
  simp only [Lit.wf, Bool.and_eq_true, decide_eq_true_eq] at h
  have h1 : IntKind.min .i64 = -9223372036854775808 := by decide
  have h2 : IntKind.max .i64 = 9223372036854775807 := by decide
  omega
theorem valB_len {t0 : Bool} {a : tAttr} (h : valB t0 a = true) (hN : okI .i64 a.N) : (valS a).length ≤ 210 := by
  unfold valB at h
  unfold valS
  cases ht : a.Text with
  | true =>
    rw [ht] at h
    simp only [cond_true, Bool.and_eq_true] at h
    have := h.2.2.2
    unfold plainB at this
    simp only [Bool.and_eq_true, decide_eq_true_eq] at this
    simp; omega
  | false =>
    have hb := okI64 hN
    have := Lib.itoa_length_le (n := a.N) hb.1 hb.2
    simp; omega
theorem par_len (b : Bool) (s : Str) : (par b s).length ≤ s.length + 2 := by unfold par; split <;> simp
theorem leafB_vals {k : Int} {nm op : Str} {vals : List tAttr} {l : List tFilter} (h : leafB k nm op vals l = true) : nm.length ≤ 20 ∧ l = [] ∧ vals ≠ [] ∧ (∀ a ∈ vals, ∃ t0, valB t0 a = true) ∧ vals.length ≤ 20 ∧ op.length ≤ 2 := by
  unfold leafB at h
  simp only [Bool.and_eq_true] at h
  obtain ⟨h1, h2, h3⟩ := h
  refine ⟨nameB_len h1, by simpa using h2, ?_⟩
  cases vals with
  | nil => simp at h3
  | cons v r =>
    simp only [Bool.and_eq_true] at h3
    obtain ⟨h4, h5⟩ := h3
    refine ⟨by simp, fun a ha => ⟨v.Text, List.all_eq_true.1 h4 a ha⟩, ?_⟩
    have hops : ∀ o : Str, opsL.contains o = true → o.length ≤ 2 := by
      intro o ho
      have : o ∈ opsL := by simpa using ho
      unfold opsL at this
      simp only [List.mem_cons, List.not_mem_nil, or_false] at this
      rcases this with rfl | rfl | rfl | rfl | rfl | rfl <;> decide
    by_cases h4 : k = 4
    · subst h4
      simp only [beq_self_eq_true, cond_true, Bool.and_eq_true] at h5
      have hr : r = [] := by simpa using h5.1
      subst hr
      exact ⟨by simp, hops op h5.2⟩
    · have b4 : (k == 4) = false := by simpa using h4
      rw [b4, cond_false] at h5
      by_cases h6 : k = 5
      · subst h6
        simp only [beq_self_eq_true, cond_true, Bool.and_eq_true, beq_iff_eq] at h5
        have hr : r = [] := by simpa using h5.1
        subst hr
        rw [h5.2.2]; exact ⟨by simp, by simp⟩
      · have b6 : (k == 5) = false := by simpa using h6
        rw [b6, cond_false] at h5
        simp only [Bool.and_eq_true, decide_eq_true_eq, beq_iff_eq] at h5
        rw [h5.2]; exact ⟨by simp; omega, by simp⟩
theorem fineL_mem {k : Int} {l : List tFilter} (h : fineL k l = true) : ∀ x ∈ l, fineF x = true := by
  rw [fineL_eq] at h
  intro x hx
  have := List.all_eq_true.1 h x hx
  simp only [Bool.and_eq_true] at this
  exact this.1
theorem fine_parts {k : Int} {nm op : Str} {v : List tAttr} {l : List tFilter} (h : fineF (.mk k nm op v l) = true) :
    ((k = 4 ∨ k = 5 ∨ k = 6) ∧ leafB k nm op v l = true) ∨ (¬ (k = 4 ∨ k = 5 ∨ k = 6) ∧ nm = [] ∧ op = [] ∧ v = [] ∧ fineL k l = true ∧ ((k = 1 ∨ k = 2) ∧ 2 ≤ l.length ∨ k = 3 ∧ l.length = 1 ∨ k = 7 ∧ l = [])) := by
  rw [fineF] at h
  by_cases hk : k = 4 ∨ k = 5 ∨ k = 6
  · have hb : (k == 4 || (k == 5 || k == 6)) = true := by simpa using hk
    rw [hb, cond_true] at h
    exact .inl ⟨hk, h⟩
  · have hb : (k == 4 || (k == 5 || k == 6)) = false := by simpa using hk
    rw [hb, cond_false] at h
    simp only [Bool.and_eq_true, beq_iff_eq] at h
    obtain ⟨h1, h2, h3, h4, h5⟩ := h
    refine .inr ⟨hk, h2, h3, by simpa using h4, h5, ?_⟩
    unfold headB at h1
    by_cases h12 : k = 1 ∨ k = 2
    · have : (k == 1 || k == 2) = true := by simpa using h12
      rw [this, cond_true] at h1
      exact .inl ⟨h12, by simpa using h1⟩
    · have : (k == 1 || k == 2) = false := by simpa using h12
      rw [this, cond_false] at h1
      by_cases h3 : k = 3
      · subst h3
        simp only [beq_self_eq_true, cond_true, beq_iff_eq] at h1
        exact .inr (.inl ⟨rfl, h1⟩)
      · have b3 : (k == 3) = false := by simpa using h3
        rw [b3, cond_false] at h1
        by_cases h7 : k = 7
        · subst h7
          simp only [beq_self_eq_true, cond_true, beq_iff_eq] at h1
          exact .inr (.inr ⟨rfl, List.length_eq_zero_iff.1 h1⟩)
        · have b7 : (k == 7) = false := by simpa using h7
          rw [b7, cond_false] at h1; cases h1
theorem sum_val : ∀ (v : List tAttr), (∀ a ∈ v, ∃ t0, valB t0 a = true) → (∀ a ∈ v, okI .i64 a.N) → ((v.map valS).map fun s => s.length + 2).sum ≤ 212 * v.length
  | [], _, _ => by simp
  | a :: v, h, k => by
    have h1 := sum_val v (fun x hx => h x (by simp [hx])) fun x hx => k x (by simp [hx])
    obtain ⟨t0, h2⟩ := h a (by simp)
    have := valB_len h2 (k a (by simp))
    simp only [List.map_cons, List.sum_cons, List.length_cons] at *; omega
theorem okA_mem {l : List tAttr} {a b : Str} {k : Int} {fs : List tFilter} (h : ok_tFilter (.mk k a b l fs)) : ∀ x ∈ l, okI .i64 x.N := by
  simp only [ok_tFilter] at h
  exact fun x hx => (h.2.2.2.1.2 x hx).2.2.1
mutual
theorem show_len : ∀ f : tFilter, ok_tFilter f → fineF f = true → (showF f).length + 10 ≤ 6000 * nodesF f
  | .mk k nm op v l, hf, h => by
    have hOA := okA_mem hf
    have hok := oks_mem (okF_mk hf).2.2
    rw [nodesF, showF]
    rcases fine_parts h with ⟨hk, hL⟩ | ⟨hk, rfl, rfl, rfl, hl, hs⟩
    · obtain ⟨h1, rfl, h3, h4, h5, h6⟩ := leafB_vals hL
      rw [if_neg (by omega), if_neg (by omega), if_neg (by omega)]
      have hv : (showV v).length ≤ 210 := by
        cases v with
        | nil => exact absurd rfl h3
        | cons a v => obtain ⟨t0, h⟩ := h4 a (by simp); exact valB_len h (hOA a (by simp))
      split
      · simp [nodesL]; omega
      · split
        · simp [nodesL]; omega
        · split
          · have hj := joinS_len [44, 32] 0 (showL [] ++ v.map valS)
            have := sum_val v h4 hOA
            have e : showL [] = [] := by rw [showL]
            rw [e, List.nil_append] at hj ⊢
            simp [nodesL] at *; omega
          · simp [nodesL]
    · have hsum := showL_sum l hok (fineL_mem hl)
      rcases hs with ⟨h12, h2⟩ | ⟨rfl, h1⟩ | ⟨rfl, rfl⟩
      · have hj1 := joinS_len [32, 97, 110, 100, 32] 0 (showL l)
        have hj2 := joinS_len [32, 111, 114, 32] 0 (showL l)
        have hle : ((showL l).map fun s => s.length + ([32, 111, 114, 32] : Str).length).sum ≤ ((showL l).map fun s => s.length + 5).sum := by
          generalize showL l = L
          induction L with
          | nil => simp
          | cons x L ih => simp only [List.map_cons, List.sum_cons, List.length_cons, List.length_nil] at *; omega
        rcases h12 with rfl | rfl
        · have e5 : ([32, 97, 110, 100, 32] : Str).length = 5 := rfl
          rw [e5] at hj1
          rw [if_pos rfl]; omega
        · rw [if_neg (by decide), if_pos rfl]; omega
      · rw [if_neg (by decide), if_neg (by decide), if_pos rfl]
        match l, h1, hl with
        | [x], _, hl =>
          have h6 := show_len x (hok x (by simp)) (fineL_mem hl x (by simp))
          have h7 := par_len (kindF x != 7 && kindF x != 3) (showF x)
          rw [showN]; simp only [nodesL, List.length_append, List.length_cons, List.length_nil]; omega
      · rw [if_neg (by decide), if_neg (by decide), if_neg (by decide), if_neg (by decide), if_neg (by decide), if_neg (by decide)]
        simp [nodesL]
theorem showL_sum : ∀ (l : List tFilter), (∀ x ∈ l, ok_tFilter x) → (∀ x ∈ l, fineF x = true) → ((showL l).map fun s => s.length + 5).sum ≤ 6000 * nodesL l
  | [], _, _ => by rw [showL]; simp
  | x :: l, k, h => by
    have h1 := show_len x (k x (by simp)) (h x (by simp))
    have h2 := showL_sum l (fun y hy => k y (by simp [hy])) fun y hy => h y (by simp [hy])
    have h3 := par_len (kindF x == 1 || kindF x == 2) (showF x)
    rw [showL, nodesL]
    simp only [List.map_cons, List.sum_cons]; omega
end
theorem cat_ok' {a b : Str} (h : a.length + b.length ≤ 100000000) : cat a b = some (a ++ b) := cat_ok (Nat.le_trans h (by decide))
theorem dshown {n : Nat} {a : tAttr} {t0 : Bool} (h : valB t0 a = true) (hN : okI .i64 a.N) : dfilter_shown n a = some (valS a) := by
  have hl := valB_len h hN
  unfold dfilter_shown
  unfold valS at hl ⊢
  cases ht : a.Text with
  | true =>
    rw [ht] at hl
    simp only [if_true, List.length_cons, List.length_append, List.length_nil] at hl
    rw [cond_true, cat_ok' (by simp; omega), Option.bind_some, cat_ok' (by simp; omega)]; simp
  | false => rw [cond_false]; unfold dFormatInt; rw [if_pos (okI64 hN)]; simp
theorem sum_ge {f : Str → Nat} : ∀ {l : List Str} {s : Str}, s ∈ l → f s ≤ (l.map f).sum
  | x :: l, s, h => by
    rcases List.mem_cons.1 h with rfl | h
    · simp
    · have := sum_ge (f := f) h; simp; omega
theorem dshow : ∀ f : tFilter, ok_tFilter f → fineF f = true → nodesF f ≤ 1000 → Ev fun n => dfilter_show n f = some (showF f)
  | .mk k nm op v l, hf, hfi, hN => by
    obtain ⟨h1, h2, h3⟩ := okF_mk hf
    have hNl : nodesL l + 1 ≤ 1000 := by simpa only [nodesF] using hN
    have hOA := okA_mem hf
    have hall : ∀ x ∈ l, fineF x = true := by
      rcases fine_parts hfi with ⟨_, hL⟩ | ⟨_, _, _, _, hl, _⟩
      · obtain ⟨_, rfl, _⟩ := leafB_vals hL; exact fun x hx => nomatch hx
      · exact fineL_mem hl
    have hlen := show_len _ hf hfi
    rw [nodesF] at hlen
    have ih : Ev fun n => ∀ x ∈ l, dfilter_show n x = some (showF x) := Ev.all fun x hx => dshow x (oks_mem h3 x hx) (hall x hx) (by have := nodes_mem hx; omega)
    have hlx : ∀ x ∈ l, (showF x).length ≤ 6000000 := fun x hx => by
      have h6 := show_len x (oks_mem h3 x hx) (hall x hx)
      have := nodes_mem hx; omega
    refine Ev.succ (Ev.succ ((ih.big (v.length + l.length + 2001)).mono fun n hh => ?_))
    obtain ⟨hn, ih⟩ := hh
    have hw : ∀ x ∈ l, ∀ b, dfilter_within (n + 1) x b = some (par b (showF x)) := fun x hx b => by
      have h5 := ih x hx
      have h6 := hlx x hx
      cases x
      rw [dfilter_within]
      cases b with
      | false => simp only [cond_false, h5, Option.bind_some, par]; rfl
      | true =>
        simp only [cond_true, h5, Option.bind_some]
        rw [cat_ok' (by simp only [List.length_cons, List.length_nil]; omega), Option.bind_some, cat_ok' (by simp only [List.length_cons, List.length_append, List.length_nil]; omega), Option.bind_some]
        simp [par]
    rw [dfilter_show]
    have hloop : loopD (ε := Int × (List Str)) (τ := List Str) (fun (((x1, l2)) : Int × (List Str)) => (bif (decide (x1 < (l.length : Int))) then (((gi l x1).bind fun x3 => match x3 with | .mk kind2 name2 op2 vals2 l6 => bif (kind2 == 1) then ((dfilter_within (n + 1) (tFilter.mk kind2 name2 op2 vals2 l6) true).bind fun l9 => (ap l2 [l9]).bind fun l10 => some l10) else ((dfilter_within (n + 1) (tFilter.mk kind2 name2 op2 vals2 l6) (kind2 == 2)).bind fun l7 => (ap l2 [l7]).bind fun l8 => some l8) : Option (List Str)).bind fun (l5 : List Str) => some (Sum.inl (W (x1 + 1), l5))) else some (Sum.inr l2))) (n + 1) (0, []) = some (showL l) := by
      have h0 : ((0 : Int), ([] : List Str)) = (((0 : Nat) : Int), showL (l.take 0)) := by rw [List.take_zero, showL]; rfl
      rw [h0]
      refine loopD_traj (fun i => ((i : Int), showL (l.take i))) l.length (fun i hi => ?_) ?_ (n + 1) (by omega)
      · have hde : decide ((i : Int) < (l.length : Int)) = true := by simpa using hi
        have h5 := hw _ (List.getElem_mem hi)
        have hap : ∀ s : Str, ap (showL (l.take i)) [s] = some (showL (l.take i) ++ [s]) := fun s => ap_ok (Nat.le_trans (show _ + 1 ≤ 2000 by rw [showL_len, List.length_take]; have := len_nodes l; omega) (by decide))
        simp only [hde, cond_true, gi_lt hi, Option.bind_some]
        rw [take_snoc hi, showL_snoc]
        cases hx : l[i] with
        | mk a b c d e =>
          rw [hx] at h5
          simp only [kindF]
          cases ha : a == 1 with
          | true => simp only [cond_true, h5, Option.bind_some, hap, W_suc (show i + 1 < 9223372036854775808 by have := lt_max h2; omega), Bool.true_or]
          | false => simp only [cond_false, h5, Option.bind_some, hap, W_suc (show i + 1 < 9223372036854775808 by have := lt_max h2; omega), Bool.false_or]
      · have hde : decide ((l.length : Int) < (l.length : Int)) = false := by simp
        simp only [hde, cond_false, List.take_length]
    refine (congrArg (fun o => Option.bind o _) hloop).trans ?_
    rw [Option.bind_some, showF]
    rcases fine_parts hfi with ⟨hk, hL⟩ | ⟨hk, rfl, rfl, rfl, hl, hs⟩
    · obtain ⟨q1, rfl, q3, q4, q5, q6⟩ := leafB_vals hL
      have e0 : showL [] = [] := by rw [showL]
      rw [e0]
      rcases hk with rfl | rfl | rfl
      · cases v with
        | nil => exact absurd rfl q3
        | cons a v =>
          obtain ⟨t0, hv0⟩ := q4 a (by simp)
          have hvl := valB_len hv0 (hOA a (by simp))
          have hg : gi (a :: v) 0 = some a := rfl
          simp only [show ((4 : Int) == 1) = false from rfl, show ((4 : Int) == 2) = false from rfl, show ((4 : Int) == 3) = false from rfl, show ((4 : Int) == 4) = true from rfl, cond_true, cond_false]
          rw [cat_ok' (by simp; omega), Option.bind_some, cat_ok' (by simp; omega), Option.bind_some, cat_ok' (by simp; omega), Option.bind_some, hg, Option.bind_some, dshown hv0 (hOA a (by simp)), Option.bind_some, cat_ok' (by simp; omega), Option.bind_some]
          rw [if_neg (by decide), if_neg (by decide), if_neg (by decide), if_pos (by first | trivial | rfl), showV]
          simp
      · cases v with
        | nil => exact absurd rfl q3
        | cons a v =>
          obtain ⟨t0, hv0⟩ := q4 a (by simp)
          have hvl := valB_len hv0 (hOA a (by simp))
          have hg : gi (a :: v) 0 = some a := rfl
          simp only [show ((5 : Int) == 1) = false from rfl, show ((5 : Int) == 2) = false from rfl, show ((5 : Int) == 3) = false from rfl, show ((5 : Int) == 4) = false from rfl, show ((5 : Int) == 5) = true from rfl, cond_true, cond_false]
          rw [cat_ok' (by simp; omega), Option.bind_some, hg, Option.bind_some, dshown hv0 (hOA a (by simp)), Option.bind_some, cat_ok' (by simp; omega), Option.bind_some]
          rw [if_neg (by decide), if_neg (by decide), if_neg (by decide), if_neg (by decide), if_pos (by first | trivial | rfl), showV]
          simp
      · simp only [show ((6 : Int) == 1) = false from rfl, show ((6 : Int) == 2) = false from rfl, show ((6 : Int) == 3) = false from rfl, show ((6 : Int) == 4) = false from rfl, show ((6 : Int) == 5) = false from rfl, show ((6 : Int) == 6) = true from rfl, cond_true, cond_false]
        have hvl : loopD (ε := Int × (List Str)) (τ := List Str) (fun (((x13, l12)) : Int × (List Str)) => (bif (decide (x13 < (v.length : Int))) then ((gi v x13).bind fun x15 => (dfilter_shown (n + 1) x15).bind fun l15 => (ap l12 [l15]).bind fun l16 => some (Sum.inl (W (x13 + 1), l16))) else some (Sum.inr l12))) (n + 1) (0, []) = some (v.map valS) := by
          have h0 : ((0 : Int), ([] : List Str)) = (((0 : Nat) : Int), (v.take 0).map valS) := rfl
          rw [h0]
          refine loopD_traj (fun i => ((i : Int), (v.take i).map valS)) v.length (fun i hi => ?_) ?_ (n + 1) (by omega)
          · have hde : decide ((i : Int) < (v.length : Int)) = true := by simpa using hi
            obtain ⟨t0, hv0⟩ := q4 _ (List.getElem_mem hi)
            have hap : ap ((v.take i).map valS) [valS v[i]] = some ((v.take i).map valS ++ [valS v[i]]) := ap_ok (Nat.le_trans (show _ + 1 ≤ 2000 by rw [List.length_map, List.length_take]; omega) (by decide))
            simp only [hde, cond_true, gi_lt hi, Option.bind_some, dshown hv0 (hOA _ (List.getElem_mem hi)), hap, W_suc (show i + 1 < 9223372036854775808 by omega)]
            rw [take_snoc hi, List.map_append]; rfl
          · have hde : decide ((v.length : Int) < (v.length : Int)) = false := by simp
            simp only [hde, cond_false, List.take_length]
        refine (congrArg (fun o => Option.bind o _) hvl).trans ?_
        have hj := joinS_len [44, 32] 0 (v.map valS)
        have hsv := sum_val v q4 hOA
        have e2 : ([44, 32] : Str).length = 2 := rfl
        rw [e2] at hj
        have hJ : dJoin (n + 1) (v.map valS) [44, 32] = some (joinS [44, 32] (v.map valS)) := by
          unfold dJoin; rw [join_eq, if_pos ⟨by rw [List.length_map]; omega, by omega⟩]
        rw [Option.bind_some, cat_ok' (by simp; omega), Option.bind_some, hJ, Option.bind_some, cat_ok' (by simp; omega), Option.bind_some, cat_ok' (by simp; omega), Option.bind_some]
        rw [if_neg (by decide), if_neg (by decide), if_neg (by decide), if_neg (by decide), if_neg (by decide), if_pos (by first | trivial | rfl)]
        simp
    · have hjl : ∀ sep : Str, sep.length ≤ 5 → dJoin (n + 1) (showL l) sep = some (joinS sep (showL l)) := fun sep hsep => by
        have hj := joinS_len sep 0 (showL l)
        have hsum := showL_sum l (oks_mem h3) hall
        have hle : ((showL l).map fun s => s.length + sep.length).sum ≤ ((showL l).map fun s => s.length + 5).sum := by
          generalize showL l = L
          clear hj hsum
          induction L with
          | nil => simp
          | cons x L ih => simp only [List.map_cons, List.sum_cons] at *; omega
        have := len_nodes l
        unfold dJoin; rw [join_eq, if_pos ⟨by rw [showL_len]; omega, by omega⟩]
      rcases hs with ⟨h12, hge⟩ | ⟨rfl, hl1⟩ | ⟨rfl, rfl⟩
      · rcases h12 with rfl | rfl
        · simp only [show ((1 : Int) == 1) = true from rfl, cond_true, hjl [32, 97, 110, 100, 32] (by decide), Option.bind_some]
          rw [if_pos (by first | trivial | rfl)]
        · simp only [show ((2 : Int) == 1) = false from rfl, show ((2 : Int) == 2) = true from rfl, cond_false, cond_true, hjl [32, 111, 114, 32] (by decide), Option.bind_some]
          rw [if_neg (by decide), if_pos (by first | trivial | rfl)]
      · simp only [show ((3 : Int) == 1) = false from rfl, show ((3 : Int) == 2) = false from rfl, show ((3 : Int) == 3) = true from rfl, cond_true, cond_false]
        rw [if_neg (by decide), if_neg (by decide), if_pos (by first | trivial | rfl)]
        match l, hl1, hw, hlx with
        | [x], _, hw, hlx =>
          have hg : gi [x] 0 = some x := rfl
          have h5 := hw x (by simp)
          have h6 := hlx x (by simp)
          have h7 := fun b => par_len b (showF x)
          rw [hg, Option.bind_some, showN]
          cases x with
          | mk a b c d e =>
            simp only [kindF]
            cases ha : (a != 7) with
            | true =>
              have := h7 (a != 3)
              simp only [cond_true, h5, Option.bind_some, Bool.true_and]
              rw [cat_ok' (by simp only [List.length_cons, List.length_nil]; omega)]; rfl
            | false =>
              have := h7 false
              simp only [cond_false, h5, Option.bind_some, Bool.false_and]
              rw [cat_ok' (by simp only [List.length_cons, List.length_nil]; omega)]; rfl
      · simp only [show ((7 : Int) == 1) = false from rfl, show ((7 : Int) == 2) = false from rfl, show ((7 : Int) == 3) = false from rfl, show ((7 : Int) == 4) = false from rfl, show ((7 : Int) == 5) = false from rfl, show ((7 : Int) == 6) = false from rfl, cond_true, cond_false, Option.bind_some]
        rw [if_neg (by decide), if_neg (by decide), if_neg (by decide), if_neg (by decide), if_neg (by decide), if_neg (by decide)]
end Go.Proofs.YtaekecbadkcggaaDoor
