/- Layer 7, plainly: the tokens of a filter's text parse back. -/
import Derived.Test.YtaekecbadkcggaaDoorE07l
namespace Go.Proofs.YtaekecbadkcggaaDoor
open Go.Pv
set_option linter.unusedSimpArgs false
set_option linter.unusedVariables false
set_option linter.unusedSectionVars false
set_option maxRecDepth 100000

theorem map_cons_inv {x : ttokenToken} {l : TL} {L : TL} (h : L.map strip = x :: l) : ∃ t L2, L = t :: L2 ∧ strip t = x ∧ L2.map strip = l := by
  cases L with
  | nil => cases h
  | cons t L2 => simp only [List.map_cons, List.cons.injEq] at h; exact ⟨t, L2, rfl, h.1, h.2⟩
theorem map_app_inv {a b : TL} {L : TL} (h : L.map strip = a ++ b) : ∃ A B, L = A ++ B ∧ A.map strip = a ∧ B.map strip = b := by
  obtain ⟨A, B, rfl, h1, h2⟩ := List.map_eq_append_iff.1 h
  exact ⟨A, B, rfl, h1, h2⟩
theorem isW_strip (s : Str) (t : ttokenToken) : isW s t = isW s (strip t) := rfl
theorem valT_strip (t : ttokenToken) : valT t = valT (strip t) := rfl
theorem tk_yes {s : Str} {t x : ttokenToken} {L : TL} (h : strip t = x) (hx : isW s x = true) : tk s (t :: L) = some L := by
  rw [tk, isW_strip, h, hx]; rfl
theorem tk_no {s : Str} {t x : ttokenToken} {L : TL} (h : strip t = x) (hx : isW s x = false) : tk s (t :: L) = none := by
  rw [tk, isW_strip, h, hx]; rfl
theorem tkK_yes {ks : List Int} {t x : ttokenToken} {L : TL} (h : strip t = x) (hx : ks.contains x.Kind = true) : tkK ks (t :: L) = some (t, L) := by
  subst h
  rw [tkK, show t.Kind = (strip t).Kind from rfl, if_pos hx]
theorem valT_vT {t0 : Bool} {a : tAttr} {t : ttokenToken} (h : strip t = vT a) (hv : valB t0 a = true) : valT t = a := by
  rw [valT_strip, h]
  unfold valB at hv
  unfold valT vT
  cases a with
  | mk nm tx n s =>
    simp only [Bool.and_eq_true] at hv
    obtain ⟨h1, h2, h3⟩ := hv
    obtain rfl : nm = [] := by simpa using h1
    cases tx with
    | true =>
      simp only [cond_true, Bool.and_eq_true] at h3
      obtain rfl : n = 0 := by simpa using h3.1
      rfl
    | false =>
      obtain rfl : s = [] := by simpa using h3
      rfl
theorem vT_kind (a : tAttr) : ([3, 4] : List Int).contains (vT a).Kind = true := by unfold vT; cases a.Text <;> rfl
def tailT (w : ttokenToken) : List TL → TL
  | [] => []
  | x :: l => w :: (x ++ tailT w l)
theorem joinT_tail (w : ttokenToken) : ∀ (x : TL) (l : List TL), joinT w (x :: l) = x ++ tailT w l
  | x, [] => by simp [joinT, tailT]
  | x, y :: l => by rw [joinT, joinT_tail w y l, tailT]; simp
theorem pV_all {r : TL} (hr : tk [44] r = none) : ∀ (vs acc : List tAttr) (m : Nat) (L : TL), acc ≠ [] → (∀ x ∈ vs, valB (hT acc) x = true) → L.map strip = tailT (sT [44]) (vs.map fun a => [vT a]) → (L ++ r).length < m → pV m acc (L ++ r) = some (acc ++ vs, r)
  | [], acc, m, L, ha, hv, hL, hm => by
    have : L = [] := by simpa [tailT] using hL
    subst this
    obtain ⟨m, rfl⟩ : ∃ j, m = j + 1 := ⟨m - 1, by omega⟩
    rw [pV, List.nil_append, hr]; simp
  | a :: vs, acc, m, L, ha, hv, hL, hm => by
    obtain ⟨m, rfl⟩ : ∃ j, m = j + 1 := ⟨m - 1, by omega⟩
    simp only [List.map_cons, tailT, List.singleton_append] at hL
    obtain ⟨t, L2, rfl, ht, hL⟩ := map_cons_inv hL
    obtain ⟨t2, L3, rfl, ht2, hL⟩ := map_cons_inv hL
    have hva := hv a (by simp)
    rw [pV, List.cons_append, List.cons_append, tk_yes ht rfl]
    simp only
    rw [tkK_yes ht2 (vT_kind a)]
    have hval := valT_vT ht2 hva
    have hT2 : (a.Text == hT acc) = true := by
      rw [valB_same] at hva
      simp only [Bool.and_eq_true] at hva
      exact hva.2
    simp only [hval, hT2, if_true]
    rw [pV_all hr vs (acc ++ [a]) m L3 (by simp) (fun x hx => by rw [hT_app ha]; exact hv x (List.mem_cons_of_mem _ hx)) hL (by simp at hm ⊢; omega)]
    simp
theorem leaf_no {nm : Str} {t : ttokenToken} {L : TL} (h : strip t = nT nm) (s : Str) : tk s (t :: L) = none := tk_no h (by simp [isW, nT])
theorem pLeaf_back {k : Int} {nm op : Str} {v : List tAttr} {l : List tFilter} (hk : k = 4 ∨ k = 5 ∨ k = 6) (h : leafB k nm op v l = true) {L r : TL} (hL : L.map strip = tokF (.mk k nm op v l)) : pLeaf (L ++ r) = some (.mk k nm op v l, r) := by
  obtain ⟨hn, rfl, a, q, rfl, hv, h4, h5, h6⟩ := leafB_kind h
  rw [tokF] at hL
  have hva := hv a (by simp)
  rcases hk with rfl | rfl | rfl
  · obtain ⟨rfl, ho⟩ := h4 rfl
    rw [if_neg (by decide), if_neg (by decide), if_neg (by decide), if_pos rfl] at hL
    simp only [tokV, List.singleton_append] at hL
    obtain ⟨t1, L, rfl, e1, hL⟩ := map_cons_inv hL
    obtain ⟨t2, L, rfl, e2, hL⟩ := map_cons_inv hL
    obtain ⟨t3, L, rfl, e3, hL⟩ := map_cons_inv hL
    have : L = [] := by simpa using hL
    subst this
    have hm : op ∈ opsL := by simpa using ho
    have hw : isW [105, 110] (sT op) = false ∧ isW [94, 61] (sT op) = false := by
      simp only [opsL, List.mem_cons, List.not_mem_nil, or_false] at hm
      rcases hm with rfl | rfl | rfl | rfl | rfl | rfl <;> exact ⟨rfl, rfl⟩
    have hs2 : t2.S = op := congrArg ttokenToken.S e2
    have hs1 : t1.S = nm := congrArg ttokenToken.S e1
    unfold pLeaf
    simp only [List.cons_append, List.nil_append]
    rw [tkK_yes e1 rfl]
    simp only
    rw [tk_no e2 hw.1]
    simp only
    rw [tk_no e2 hw.2]
    simp only
    rw [tkK_yes e2 rfl]
    simp only
    rw [hs2, if_pos ho, tkK_yes e3 (vT_kind a)]
    simp only [valT_vT e3 hva, hs1]
  · obtain ⟨rfl, hT, rfl⟩ := h5 rfl
    rw [if_neg (by decide), if_neg (by decide), if_neg (by decide), if_neg (by decide), if_pos rfl] at hL
    simp only [tokV, List.singleton_append] at hL
    obtain ⟨t1, L, rfl, e1, hL⟩ := map_cons_inv hL
    obtain ⟨t2, L, rfl, e2, hL⟩ := map_cons_inv hL
    obtain ⟨t3, L, rfl, e3, hL⟩ := map_cons_inv hL
    have : L = [] := by simpa using hL
    subst this
    have hs1 : t1.S = nm := congrArg ttokenToken.S e1
    have hk4 : ([4] : List Int).contains (vT a).Kind = true := by unfold vT; rw [hT]; rfl
    unfold pLeaf
    simp only [List.cons_append, List.nil_append]
    rw [tkK_yes e1 rfl]
    simp only
    rw [tk_no e2 rfl]
    simp only
    rw [tk_yes e2 rfl]
    simp only
    rw [tkK_yes e3 hk4]
    simp only [valT_vT e3 hva, hs1]
  · obtain rfl := h6 rfl
    rw [if_neg (by decide), if_neg (by decide), if_neg (by decide), if_neg (by decide), if_neg (by decide), if_pos rfl] at hL
    simp only [List.map_cons, List.singleton_append, List.cons_append, List.nil_append] at hL
    rw [joinT_tail] at hL
    simp only [List.singleton_append, List.cons_append, List.nil_append] at hL
    obtain ⟨t1, L, rfl, e1, hL⟩ := map_cons_inv hL
    obtain ⟨t2, L, rfl, e2, hL⟩ := map_cons_inv hL
    obtain ⟨t3, L, rfl, e3, hL⟩ := map_cons_inv hL
    obtain ⟨t4, L, rfl, e4, hL⟩ := map_cons_inv hL
    obtain ⟨A, B, rfl, hA, hB⟩ := map_app_inv hL
    obtain ⟨t5, L, rfl, e5, hL⟩ := map_cons_inv hB
    have : L = [] := by simpa using hL
    subst this
    have hs1 : t1.S = nm := congrArg ttokenToken.S e1
    unfold pLeaf
    simp only [List.cons_append, List.nil_append, List.append_assoc]
    rw [tkK_yes e1 rfl]
    simp only
    rw [tk_yes e2 rfl]
    simp only
    rw [tk_yes e3 rfl]
    simp only
    rw [tkK_yes e4 (vT_kind a)]
    simp only [valT_vT e4 hva]
    rw [pV_all (r := t5 :: r) (tk_no e5 rfl) q [a] _ A (by simp) (fun x hx => hv x (List.mem_cons_of_mem _ hx)) hA (Nat.lt_succ_self _)]
    simp only
    rw [tk_yes e5 rfl]
    simp only [hs1, List.singleton_append]
/-! ### rows -/
def Item (k : Nat) (p : TL → Option (tFilter × TL)) (cond : TL → Prop) (x : tFilter) (t : TL) : Prop := ∀ L r : TL, L.map strip = t → cond r → (L ++ r).length < k → p (L ++ r) = some (x, r)
inductive Items (k : Nat) (p : TL → Option (tFilter × TL)) (cond : TL → Prop) : List tFilter → List TL → Prop
  | nil : Items k p cond [] []
  | cons {x : tFilter} {t : TL} {xs : List tFilter} {ts : List TL} : Item k p cond x t → Items k p cond xs ts → Items k p cond (x :: xs) (t :: ts)
section
variable {k : Nat} {p : TL → Option (tFilter × TL)} {cond : TL → Prop} {w : Str} {tw : ttokenToken}
theorem pMore_all (htw : isW w tw = true) (hcw : ∀ (t : ttokenToken) (R : TL), strip t = tw → cond (t :: R)) {r : TL} (hc : cond r) (hr : tk w r = none) : ∀ {xs : List tFilter} {ts : List TL}, Items k p cond xs ts → ∀ (m : Nat) (L : TL), L.map strip = tailT tw ts → (L ++ r).length < m → (L ++ r).length < k → pMore p w m (L ++ r) = some (xs, r)
  | _, _, .nil, m, L, hL, hm, hk => by
    have : L = [] := by simpa [tailT] using hL
    subst this
    obtain ⟨m, rfl⟩ : ∃ j, m = j + 1 := ⟨m - 1, by omega⟩
    rw [pMore, List.nil_append, hr]
  | _, _, .cons (xs := xs) (ts := ts) h1 h2, m, L, hL, hm, hk => by
    obtain ⟨m, rfl⟩ : ∃ j, m = j + 1 := ⟨m - 1, by omega⟩
    rw [tailT] at hL
    obtain ⟨t, L2, rfl, e1, hL⟩ := map_cons_inv hL
    obtain ⟨A, B, rfl, hA, hB⟩ := map_app_inv hL
    have hcond : cond (B ++ r) := by
      cases h2 with
      | nil =>
        have : B = [] := by simpa [tailT] using hB
        subst this; exact hc
      | cons _ _ =>
        rw [tailT] at hB
        obtain ⟨t2, B2, rfl, e2, -⟩ := map_cons_inv hB
        exact hcw t2 _ e2
    rw [pMore, List.cons_append, tk_yes e1 htw]
    simp only [List.append_assoc]
    have hlen : (A ++ (B ++ r)).length < k := by simp at hk ⊢; omega
    rw [h1 A (B ++ r) hA hcond hlen]
    simp only
    rw [pMore_all htw hcw hc hr h2 m B hB (by simp at hm ⊢; omega) (by simp at hk ⊢; omega)]
theorem pRow_all (htw : isW w tw = true) (hcw : ∀ (t : ttokenToken) (R : TL), strip t = tw → cond (t :: R)) {r : TL} (hc : cond r) (hr : tk w r = none) {x : tFilter} {xs : List tFilter} {t : TL} {ts : List TL} (h : Items k p cond (x :: xs) (t :: ts)) (kd : Int) {L : TL} (hL : L.map strip = joinT tw (t :: ts)) (hk : (L ++ r).length < k) :
    pRow p kd w k (L ++ r) = some (comb kd x xs, r) := by
  cases h with
  | cons h1 h2 =>
    rw [joinT_tail] at hL
    obtain ⟨A, B, rfl, hA, hB⟩ := map_app_inv hL
    have hcond : cond (B ++ r) := by
      cases h2 with
      | nil =>
        have : B = [] := by simpa [tailT] using hB
        subst this; exact hc
      | cons _ _ =>
        rw [tailT] at hB
        obtain ⟨t2, B2, rfl, e2, -⟩ := map_cons_inv hB
        exact hcw t2 _ e2
    unfold pRow
    rw [List.append_assoc] at hk ⊢
    rw [h1 A (B ++ r) hA hcond hk]
    simp only
    rw [pMore_all htw hcw hc hr h2 k B hB (by simp at hk ⊢; omega) (by simp at hk ⊢; omega)]
end
theorem flatF_id {k : Int} : ∀ {l : List tFilter}, (∀ x ∈ l, kindF x ≠ k) → flatF k l = l
  | [], _ => rfl
  | x :: l, h => by
    have e : flatF k (x :: l) = (bif kindF x == k then subF x else [x]) ++ flatF k l := by simp [flatF]
    rw [e, flatF_id fun y hy => h y (List.mem_cons_of_mem _ hy), beq_false_of_ne (h x (by simp))]; rfl
/-! ### filters -/
def PD (f : tFilter) : Prop := kindF f ≠ 1 → kindF f ≠ 2 → ∀ (k : Nat) (L r : TL), L.map strip = tokF f → (L ++ r).length < k → pNot k (L ++ r) = some (f, r)
def PO (f : tFilter) : Prop := ∀ (k : Nat) (L r : TL), L.map strip = tokF f → tk [97, 110, 100] r = none → tk [111, 114] r = none → (L ++ r).length < k → pOr k (L ++ r) = some (f, r)
theorem pAnd_one {k : Nat} {L r : TL} {f : tFilter} (h : pNot k L = some (f, r)) (hr : tk [97, 110, 100] r = none) (hk : 0 < k) : pAnd k L = some (f, r) := by
  obtain ⟨k, rfl⟩ : ∃ j, k = j + 1 := ⟨k - 1, by omega⟩
  unfold pAnd pRow
  rw [h]
  simp only
  rw [pMore, hr]; rfl
theorem pOr_one {k : Nat} {L r : TL} {f : tFilter} (h : pAnd k L = some (f, r)) (hr : tk [111, 114] r = none) (hk : 0 < k) : pOr k L = some (f, r) := by
  obtain ⟨k, rfl⟩ : ∃ j, k = j + 1 := ⟨k - 1, by omega⟩
  unfold pOr pRow
  rw [h]
  simp only
  rw [pMore, hr]; rfl
theorem paren {f : tFilter} (h : PO f) {k : Nat} {L r : TL} (hL : L.map strip = parT true (tokF f)) (hk : (L ++ r).length < k) : pNot k (L ++ r) = some (f, r) := by
  obtain ⟨k, rfl⟩ : ∃ j, k = j + 1 := ⟨k - 1, by omega⟩
  rw [parT, if_pos rfl, List.singleton_append] at hL
  obtain ⟨t, L, rfl, e1, hL⟩ := map_cons_inv hL
  obtain ⟨A, B, rfl, hA, hB⟩ := map_app_inv hL
  obtain ⟨t2, L, rfl, e2, hL⟩ := map_cons_inv hB
  have : L = [] := by simpa using hL
  subst this
  rw [pNot, List.cons_append, tk_no e1 rfl]
  simp only
  rw [tk_yes e1 rfl]
  simp only [List.append_assoc, List.singleton_append]
  rw [show pRow (pRow (pNot k) 1 [97, 110, 100] k) 2 [111, 114] k (A ++ t2 :: r) = pOr k (A ++ t2 :: r) from rfl]
  rw [h k A _ hA (tk_no e2 rfl) (tk_no e2 rfl) (by simp at hk ⊢; omega)]
  simp only
  rw [tk_yes e2 rfl]
/-- What is par'd as a member of a row. -/
theorem unit {f : tFilter} (h1 : PD f) (h2 : PO f) {k : Nat} {L r : TL} (hL : L.map strip = parT (kindF f == 1 || kindF f == 2) (tokF f)) (hk : (L ++ r).length < k) : pNot k (L ++ r) = some (f, r) := by
  cases hb : (kindF f == 1 || kindF f == 2) with
  | true => rw [hb] at hL; exact paren h2 hL hk
  | false =>
    rw [hb] at hL
    simp only [Bool.or_eq_false_iff, beq_eq_false_iff_ne] at hb
    exact h1 hb.1 hb.2 k L r hL hk
theorem PO_of {f : tFilter} (h : PD f) (k1 : kindF f ≠ 1) (k2 : kindF f ≠ 2) : PO f := fun k L r hL ha ho hk =>
  pOr_one (pAnd_one (h k1 k2 k L r hL hk) ha (by omega)) ho (by omega)
theorem items_and {k : Nat} : ∀ {l : List tFilter}, (∀ x ∈ l, PD x ∧ PO x) → Items k (pNot k) (fun _ => True) l (tokL l)
  | [], _ => by rw [tokL]; exact .nil
  | x :: l, h => by
    rw [tokL]
    exact .cons (fun L r hL _ hk => unit (h x (by simp)).1 (h x (by simp)).2 hL hk) (items_and fun y hy => h y (List.mem_cons_of_mem _ hy))
theorem items_or {k : Nat} : ∀ {l : List tFilter}, (∀ x ∈ l, PD x ∧ PO x) → Items k (pAnd k) (fun r => tk [97, 110, 100] r = none) l (tokL l)
  | [], _ => by rw [tokL]; exact .nil
  | x :: l, h => by
    rw [tokL]
    exact .cons (fun L r hL hc hk => pAnd_one (unit (h x (by simp)).1 (h x (by simp)).2 hL hk) hc (by omega)) (items_or fun y hy => h y (List.mem_cons_of_mem _ hy))
theorem fineL_kind {k : Int} {l : List tFilter} (h : fineL k l = true) (hk : k ≠ 3) : ∀ x ∈ l, kindF x ≠ k := by
  rw [fineL_eq] at h
  intro x hx
  have := List.all_eq_true.1 h x hx
  rw [beq_false_of_ne hk, cond_false, Bool.and_eq_true] at this
  simpa using this.2
mutual
theorem back : ∀ f : tFilter, fineF f = true → PD f ∧ PO f
  | .mk k nm op v l, h => by
    rcases fine_parts h with ⟨hk, hl⟩ | ⟨hk, rfl, rfl, rfl, hl, hk2⟩
    · have hD : PD (.mk k nm op v l) := fun _ _ k0 L r hL hlen => by
        obtain ⟨k0, rfl⟩ : ∃ j, k0 = j + 1 := ⟨k0 - 1, by omega⟩
        have hp := pLeaf_back (r := r) hk hl hL
        have hc : ∃ t L2, L = t :: L2 ∧ strip t = nT nm := by
          rw [tokF] at hL
          rcases hk with rfl | rfl | rfl
          · rw [if_neg (by decide), if_neg (by decide), if_neg (by decide), if_pos rfl] at hL
            obtain ⟨t, L2, e, e1, -⟩ := map_cons_inv hL; exact ⟨t, L2, e, e1⟩
          · rw [if_neg (by decide), if_neg (by decide), if_neg (by decide), if_neg (by decide), if_pos rfl] at hL
            obtain ⟨t, L2, e, e1, -⟩ := map_cons_inv hL; exact ⟨t, L2, e, e1⟩
          · rw [if_neg (by decide), if_neg (by decide), if_neg (by decide), if_neg (by decide), if_neg (by decide), if_pos rfl] at hL
            obtain ⟨t, L2, e, e1, -⟩ := map_cons_inv hL; exact ⟨t, L2, e, e1⟩
        obtain ⟨t, L2, rfl, e1⟩ := hc
        rw [List.cons_append] at hp ⊢
        rw [pNot, leaf_no e1]
        simp only
        rw [leaf_no e1]
        simp only
        rw [leaf_no e1]
        exact hp
      exact ⟨hD, PO_of hD (by simp only [kindF]; rcases hk with rfl | rfl | rfl <;> decide) (by simp only [kindF]; rcases hk with rfl | rfl | rfl <;> decide)⟩
    · have ih := backL l (fineL_mem hl)
      rcases hk2 with ⟨rfl | rfl, h2⟩ | ⟨rfl, h2⟩ | ⟨rfl, rfl⟩
      · refine ⟨fun h => absurd rfl h, fun k L r hL ha ho hlen => ?_⟩
        rw [tokF, if_pos rfl] at hL
        cases l with
        | nil => simp at h2
        | cons x xs =>
          have hI := items_and (k := k) ih
          have hfl := flatF_id (fineL_kind hl (by decide))
          rw [tokL] at hL hI
          have := pRow_all (cond := fun _ => True) (w := [97, 110, 100]) (tw := wT [97, 110, 100]) rfl (fun _ _ _ => trivial) trivial ha hI 1 hL hlen
          cases xs with
          | nil => simp at h2
          | cons y ys =>
            rw [comb, if_neg (by simp), hfl] at this
            exact pOr_one this ho (by omega)
      · refine ⟨fun _ h => absurd rfl h, fun k L r hL ha ho hlen => ?_⟩
        rw [tokF, if_neg (by decide), if_pos rfl] at hL
        cases l with
        | nil => simp at h2
        | cons x xs =>
          have hI := items_or (k := k) ih
          have hfl := flatF_id (fineL_kind hl (by decide))
          rw [tokL] at hL hI
          have := pRow_all (cond := fun r => tk [97, 110, 100] r = none) (w := [111, 114]) (tw := wT [111, 114]) rfl (fun _ _ e => tk_no e rfl) ha ho hI 2 hL hlen
          cases xs with
          | nil => simp at h2
          | cons y ys =>
            rw [comb, if_neg (by simp), hfl] at this
            exact this
      · have hD : PD (.mk 3 [] [] [] l) := fun _ _ k0 L r hL hlen => by
          obtain ⟨k0, rfl⟩ : ∃ j, k0 = j + 1 := ⟨k0 - 1, by omega⟩
          rw [tokF, if_neg (by decide), if_neg (by decide), if_pos rfl] at hL
          match l, h2, ih, hL with
          | [x], _, ih, hL =>
            obtain ⟨i1, i2⟩ := ih x (by simp)
            rw [tokN, List.singleton_append] at hL
            obtain ⟨t, L2, rfl, e1, hL⟩ := map_cons_inv hL
            rw [pNot, List.cons_append, tk_yes e1 rfl]
            simp only
            have hlen2 : (L2 ++ r).length < k0 := by simp at hlen ⊢; omega
            have hx : pNot k0 (L2 ++ r) = some (x, r) := by
              cases hb : (kindF x != 7 && kindF x != 3) with
              | true => rw [hb] at hL; exact paren i2 hL hlen2
              | false =>
                rw [hb] at hL
                have hb : kindF x = 7 ∨ kindF x = 3 := by
                  by_cases h7 : kindF x = 7
                  · exact .inl h7
                  · by_cases h3 : kindF x = 3
                    · exact .inr h3
                    · simp [h7, h3] at hb
                exact i1 (by omega) (by omega) k0 L2 r hL hlen2
            rw [hx]
        exact ⟨hD, PO_of hD (by simp only [kindF]; decide) (by simp only [kindF]; decide)⟩
      · have hD : PD (.mk 7 [] [] [] []) := fun _ _ k0 L r hL hlen => by
          obtain ⟨k0, rfl⟩ : ∃ j, k0 = j + 1 := ⟨k0 - 1, by omega⟩
          rw [tokF, if_neg (by decide), if_neg (by decide), if_neg (by decide), if_neg (by decide), if_neg (by decide), if_neg (by decide)] at hL
          obtain ⟨t, L2, rfl, e1, hL⟩ := map_cons_inv hL
          have : L2 = [] := by simpa using hL
          subst this
          rw [pNot, List.cons_append, tk_no e1 rfl]
          simp only
          rw [tk_no e1 rfl]
          simp only
          rw [tk_yes e1 rfl]; rfl
        exact ⟨hD, PO_of hD (by simp only [kindF]; decide) (by simp only [kindF]; decide)⟩
theorem backL : ∀ l : List tFilter, (∀ x ∈ l, fineF x = true) → ∀ x ∈ l, PD x ∧ PO x
  | [], _, x, hx => by cases hx
  | y :: l, h, x, hx => by
    by_cases e : x = y
    · rw [e]; exact back y (h y (by simp))
    · exact backL l (fun z hz => h z (List.mem_cons_of_mem _ hz)) x (by rcases List.mem_cons.1 hx with hx | hx; exact absurd hx e; exact hx)
end
theorem parse_show {f : tFilter} (hf : ok_tFilter f) (h : fineF f = true) : ∃ L, toks 0 (showF f) = some L ∧ pOr (L.length + 1) L = some (f, []) := by
  obtain ⟨L, h1, h2⟩ := show_toks hf h
  refine ⟨L, h1, ?_⟩
  have := (back f h).2 (L.length + 1) L [] h2 rfl rfl (by simp)
  rwa [List.append_nil] at this
end Go.Proofs.YtaekecbadkcggaaDoor
