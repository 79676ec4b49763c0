/- Layer 7, plainly: what a text is read as. -/
import Derived.Test.YtaekecbadkcggaaDoorE07p
namespace Go.Proofs.YtaekecbadkcggaaDoor
open Go.Pv
set_option linter.unusedSimpArgs false
set_option linter.unusedVariables false
set_option linter.unusedSectionVars false
set_option maxRecDepth 100000

def okT (t : ttokenToken) : Prop := okI .i64 t.N ∧ t.S.length ≤ 1000
theorem okI_of {c : Int} (h1 : -9223372036854775808 ≤ c) (h2 : c ≤ 9223372036854775807) : okI .i64 c := by
  unfold okI
  simp only [Lit.wf, Bool.and_eq_true, decide_eq_true_eq]
  exact ⟨h1, by first | exact h2 | exact Int.lt_add_one_of_le h2⟩
theorem numS_ok {l : Str} {n : Int} {j : Nat} (h : numS l = some (n, j)) : okI .i64 n := by
  cases l with
  | nil => cases h
  | cons c t =>
    rw [numS] at h
    split at h
    · split at h
      · cases h
      · rename_i hn
        simp only [Option.some.injEq, Prod.mk.injEq] at h
        obtain ⟨rfl, -⟩ := h
        exact okI_of (by omega) (by omega)
    · split at h
      · cases h
      · rename_i hn
        simp only [Option.some.injEq, Prod.mk.injEq] at h
        obtain ⟨rfl, -⟩ := h
        exact okI_of (by omega) (by omega)
theorem tok_ok {l : Str} {x : Tok} {j : Nat} (hl : l.length ≤ 1000) (h : tok l = some (x, j)) : okI .i64 x.n ∧ x.s.length ≤ 1000 := by
  have z : okI .i64 0 := okI_of (by decide) (by decide)
  cases l with
  | nil => cases h
  | cons c t =>
    have hl2 : t.length ≤ 999 := by simp at hl; omega
    rw [tok] at h
    split at h
    · split at h
      · simp only [Option.some.injEq, Prod.mk.injEq] at h
        obtain ⟨rfl, -⟩ := h
        exact ⟨z, by simp only [List.length_take]; omega⟩
      · cases h
    · split at h
      · cases hn : numS (c :: t) with
        | none => rw [hn] at h; cases h
        | some p =>
          rw [hn] at h; simp only [Option.map_some, Option.some.injEq, Prod.mk.injEq] at h
          obtain ⟨rfl, -⟩ := h
          exact ⟨numS_ok (n := p.1) (j := p.2) hn, by simp⟩
      · split at h
        · split at h
          · simp only [Option.some.injEq, Prod.mk.injEq] at h
            obtain ⟨rfl, -⟩ := h
            exact ⟨z, by simp only [List.length_take]; omega⟩
          · cases h
        · split at h
          · simp only [Option.some.injEq, Prod.mk.injEq] at h
            obtain ⟨rfl, -⟩ := h
            exact ⟨z, by simp⟩
          · split at h
            · simp only [Option.some.injEq, Prod.mk.injEq] at h
              obtain ⟨rfl, -⟩ := h
              exact ⟨z, by simp⟩
            · cases h
theorem toks_ok : ∀ (m : Nat) (l : Str) (a : Nat) (L : List ttokenToken), l.length ≤ m → m ≤ 1000 → toks a l = some L → L.length ≤ l.length ∧ ∀ y ∈ L, okT y
  | _, [], a, L, _, _, h => by rw [toks_nil] at h; cases h; exact ⟨Nat.le_refl _, fun y hy => by cases hy⟩
  | 0, c :: t, a, L, hm, _, h => by simp at hm
  | m + 1, c :: t, a, L, hm, hm2, h => by
    have hm' := hm
    simp only [List.length_cons] at hm
    by_cases hc : c = 32
    · subst hc; rw [toks_sp] at h
      obtain ⟨h1, h2⟩ := toks_ok m t _ _ (by omega) (by omega) h
      exact ⟨by simp; omega, h2⟩
    · cases ht : tok (c :: t) with
      | none => rw [toks_none hc ht] at h; cases h
      | some p =>
        obtain ⟨x, j⟩ := p
        rw [toks_some hc ht] at h
        obtain ⟨L', h1, rfl⟩ := Option.map_eq_some_iff.1 h
        have hj := tok_len ht
        have hk := tok_ok (l := c :: t) (by omega) ht
        obtain ⟨h2, h3⟩ := toks_ok m ((c :: t).drop j) _ _ (by simp; omega) (by omega) h1
        refine ⟨by simp at h2 ⊢; omega, fun y hy => ?_⟩
        rcases List.mem_cons.1 hy with rfl | hy
        · exact hk
        · exact h3 y hy
/-! ### what is parsed is fit -/
mutual
def preF : tFilter → Prop
  | .mk k a b v l => okI .i64 k ∧ okS a ∧ okS b ∧ okLs ok_tAttr v ∧ preL l
def preL : List tFilter → Prop
  | [] => True
  | x :: l => preF x ∧ preL l
end
mutual
theorem pre_ok : ∀ f : tFilter, preF f → nodesF f ≤ 5000 → ok_tFilter f
  | .mk k a b v l, h, hN => by
    simp only [preF] at h
    simp only [nodesF] at hN
    have := len_nodes l
    simp only [ok_tFilter]
    exact ⟨h.1, h.2.1, h.2.2.1, h.2.2.2.1, Nat.le_trans (show l.length ≤ 5000 by omega) (by decide), pre_oks l h.2.2.2.2 (by omega)⟩
theorem pre_oks : ∀ l : List tFilter, preL l → nodesL l ≤ 5000 → oks_tFilter l
  | [], _, _ => by simp [oks_tFilter]
  | x :: l, h, hN => by
    simp only [preL] at h
    simp only [nodesL] at hN
    simp only [oks_tFilter]
    exact ⟨pre_ok x h.1 (by omega), pre_oks l h.2 (by omega)⟩
end
theorem preL_app : ∀ {a b : List tFilter}, preL a → preL b → preL (a ++ b)
  | [], b, _, h => h
  | x :: a, b, h, k => by simp only [preL, List.cons_append] at h ⊢; exact ⟨h.1, preL_app h.2 k⟩
theorem preL_flat (k : Int) : ∀ {l : List tFilter}, preL l → preL (flatF k l)
  | [], _ => by simp [flatF, preL]
  | x :: l, h => by
    simp only [preL] at h
    have e : flatF k (x :: l) = (bif kindF x == k then subF x else [x]) ++ flatF k l := by simp [flatF]
    rw [e]
    refine preL_app ?_ (preL_flat k h.2)
    cases kindF x == k with
    | true => cases x; simp only [preF] at h; exact h.1.2.2.2.2
    | false => simp only [cond_false, preL]; exact ⟨h.1, trivial⟩
def okTL (L : TL) : Prop := L.length ≤ 500 ∧ ∀ t ∈ L, okT t
theorem tk_ok {s : Str} {L r : TL} (h : tk s L = some r) (k : okTL L) : okTL r := by
  cases L with
  | nil => cases h
  | cons t l =>
    rw [tk] at h; split at h <;> cases h
    have := k.1
    exact ⟨by simp at this; omega, fun x hx => k.2 x (List.mem_cons_of_mem _ hx)⟩
theorem tkK_ok {ks : List Int} {L r : TL} {t : ttokenToken} (h : tkK ks L = some (t, r)) (k : okTL L) : okTL r ∧ okT t := by
  cases L with
  | nil => cases h
  | cons t l =>
    rw [tkK] at h; split at h <;> cases h
    have := k.1
    exact ⟨⟨by simp at this; omega, fun x hx => k.2 x (List.mem_cons_of_mem _ hx)⟩, k.2 _ (List.mem_cons_self ..)⟩
theorem s1000 {s : Str} (h : s.length ≤ 1000) : okS s := Nat.le_trans h (by decide)
theorem valT_ok {t : ttokenToken} (h : okT t) : ok_tAttr (valT t) := by
  unfold valT
  cases t.Kind == 4 with
  | true => exact ⟨s1000 (by simp), trivial, (okI_of (by decide) (by decide) : okI .i64 0), s1000 h.2⟩
  | false => exact ⟨s1000 (by simp), trivial, h.1, s1000 (by simp)⟩
theorem pV_ok : ∀ (m : Nat) (l : List tAttr) (L : TL) {vs : List tAttr} {r : TL}, (∀ a ∈ l, ok_tAttr a) → okTL L → pV m l L = some (vs, r) → (∀ a ∈ vs, ok_tAttr a) ∧ vs.length ≤ l.length + L.length ∧ okTL r
  | 0, l, L, vs, r, _, _, h => by cases h
  | m + 1, l, L, vs, r, hl, hL, h => by
    rw [pV] at h
    cases h1 : tk [44] L with
    | none => rw [h1] at h; cases h; exact ⟨hl, by omega, hL⟩
    | some r1 =>
      rw [h1] at h
      have k1 := tk_ok h1 hL
      have n1 := tk_len h1
      simp only at h
      cases h2 : tkK [3, 4] r1 with
      | none => rw [h2] at h; cases h
      | some q =>
        obtain ⟨t, r2⟩ := q
        rw [h2] at h
        obtain ⟨k2, k3⟩ := tkK_ok h2 k1
        have n2 := tkK_len h2
        simp only at h
        split at h
        · obtain ⟨a1, a2, a3⟩ := pV_ok m (l ++ [valT t]) r2 (fun a ha => by
            rcases List.mem_append.1 ha with ha | ha
            · exact hl a ha
            · obtain rfl := List.mem_singleton.1 ha; exact valT_ok k3) k2 h
          exact ⟨a1, by simp at a2; omega, a3⟩
        · cases h
theorem preLeaf {k : Int} {a b : Str} {v : List tAttr} (hk : okI .i64 k) (ha : a.length ≤ 1000) (hb : b.length ≤ 1000) (hv : ∀ x ∈ v, ok_tAttr x) (hl : v.length ≤ 1000) : preF (.mk k a b v []) := by
  simp only [preF, preL]; exact ⟨hk, s1000 ha, s1000 hb, ⟨Nat.le_trans hl (by decide), hv⟩, trivial⟩
theorem pLeaf_ok {L r : TL} {f : tFilter} (hL : okTL L) (h : pLeaf L = some (f, r)) : preF f ∧ okTL r := by
  unfold pLeaf at h
  cases h1 : tkK [1] L with
  | none => rw [h1] at h; cases h
  | some q =>
    obtain ⟨t, r0⟩ := q
    rw [h1] at h
    obtain ⟨k1, kt⟩ := tkK_ok h1 hL
    simp only at h
    cases h2 : tk [105, 110] r0 with
    | some r1 =>
      rw [h2] at h
      have k2 := tk_ok h2 k1
      simp only at h
      cases h3 : tk [40] r1 with
      | none => rw [h3] at h; cases h
      | some r2 =>
        rw [h3] at h
        have k3 := tk_ok h3 k2
        simp only at h
        cases h4 : tkK [3, 4] r2 with
        | none => rw [h4] at h; cases h
        | some q =>
          obtain ⟨v, r3⟩ := q
          rw [h4] at h
          obtain ⟨k4, kv⟩ := tkK_ok h4 k3
          simp only at h
          cases h5 : pV (r3.length + 1) [valT v] r3 with
          | none => rw [h5] at h; cases h
          | some q =>
            obtain ⟨vs, r4⟩ := q
            rw [h5] at h
            obtain ⟨a1, a2, a3⟩ := pV_ok _ _ _ (fun a ha => by obtain rfl := List.mem_singleton.1 ha; exact valT_ok kv) k4 h5
            simp only at h
            cases h6 : tk [41] r4 with
            | none => rw [h6] at h; cases h
            | some r5 =>
              rw [h6] at h
              cases h
              have := k4.1
              exact ⟨preLeaf (okI_of (by decide) (by decide)) kt.2 (by simp) a1 (by simp at a2; omega), tk_ok h6 a3⟩
    | none =>
      rw [h2] at h
      simp only at h
      cases h3 : tk [94, 61] r0 with
      | some r1 =>
        rw [h3] at h
        have k2 := tk_ok h3 k1
        simp only at h
        cases h4 : tkK [4] r1 with
        | none => rw [h4] at h; cases h
        | some q =>
          obtain ⟨v, r2⟩ := q
          rw [h4] at h
          obtain ⟨k3, kv⟩ := tkK_ok h4 k2
          cases h
          exact ⟨preLeaf (okI_of (by decide) (by decide)) kt.2 (by simp) (fun a ha => by obtain rfl := List.mem_singleton.1 ha; exact valT_ok kv) (by simp), k3⟩
      | none =>
        rw [h3] at h
        simp only at h
        cases h4 : tkK [5] r0 with
        | none => rw [h4] at h; cases h
        | some q =>
          obtain ⟨o, r1⟩ := q
          rw [h4] at h
          obtain ⟨k2, ko⟩ := tkK_ok h4 k1
          simp only at h
          split at h
          · cases h5 : tkK [3, 4] r1 with
            | none => rw [h5] at h; cases h
            | some q =>
              obtain ⟨v, r2⟩ := q
              rw [h5] at h
              obtain ⟨k3, kv⟩ := tkK_ok h5 k2
              cases h
              exact ⟨preLeaf (okI_of (by decide) (by decide)) kt.2 ko.2 (fun a ha => by obtain rfl := List.mem_singleton.1 ha; exact valT_ok kv) (by simp), k3⟩
          · cases h
section
variable {p : TL → Option (tFilter × TL)} (hp : ∀ {L r : TL} {f : tFilter}, okTL L → p L = some (f, r) → preF f ∧ okTL r)
include hp
theorem pMore_ok (w : Str) : ∀ (m : Nat) {L r : TL} {l : List tFilter}, okTL L → pMore p w m L = some (l, r) → preL l ∧ okTL r
  | 0, L, r, l, _, h => by cases h
  | m + 1, L, r, l, hL, h => by
    rw [pMore] at h
    cases h1 : tk w L with
    | none => rw [h1] at h; cases h; exact ⟨trivial, hL⟩
    | some r1 =>
      rw [h1] at h
      simp only at h
      cases h2 : p r1 with
      | none => rw [h2] at h; cases h
      | some q =>
        obtain ⟨f, r2⟩ := q
        rw [h2] at h
        obtain ⟨a1, a2⟩ := hp (tk_ok h1 hL) h2
        simp only at h
        cases h3 : pMore p w m r2 with
        | none => rw [h3] at h; cases h
        | some q =>
          obtain ⟨x, r3⟩ := q
          rw [h3] at h
          obtain ⟨b1, b2⟩ := pMore_ok w m a2 h3
          cases h
          exact ⟨⟨a1, b1⟩, b2⟩
theorem pRow_ok (k : Int) (hk : okI .i64 k) (w : Str) (m : Nat) {L r : TL} {f : tFilter} (hL : okTL L) (h : pRow p k w m L = some (f, r)) : preF f ∧ okTL r := by
  unfold pRow at h
  cases h2 : p L with
  | none => rw [h2] at h; cases h
  | some q =>
    obtain ⟨g, r2⟩ := q
    rw [h2] at h
    obtain ⟨a1, a2⟩ := hp hL h2
    simp only at h
    cases h3 : pMore p w m r2 with
    | none => rw [h3] at h; cases h
    | some q =>
      obtain ⟨x, r3⟩ := q
      rw [h3] at h
      obtain ⟨b1, b2⟩ := pMore_ok hp w m a2 h3
      cases h
      refine ⟨?_, b2⟩
      unfold comb
      split
      · exact a1
      · simp only [preF]
        exact ⟨hk, s1000 (by simp), s1000 (by simp), ⟨Nat.zero_le _, fun x hx => by cases hx⟩, preL_flat k (show preL (g :: x) from ⟨a1, b1⟩)⟩
end
theorem pNot_ok : ∀ (k : Nat) {L r : TL} {f : tFilter}, okTL L → pNot k L = some (f, r) → preF f ∧ okTL r
  | 0, L, r, f, _, h => by cases h
  | k + 1, L, r, f, hL, h => by
    have ih : ∀ {L r : TL} {f : tFilter}, okTL L → pNot k L = some (f, r) → preF f ∧ okTL r := fun a b => pNot_ok k a b
    rw [pNot] at h
    cases h1 : tk [110, 111, 116] L with
    | some r1 =>
      rw [h1] at h
      simp only at h
      cases h2 : pNot k r1 with
      | none => rw [h2] at h; cases h
      | some q =>
        obtain ⟨g, r2⟩ := q
        rw [h2] at h
        obtain ⟨a1, a2⟩ := ih (tk_ok h1 hL) h2
        cases h
        refine ⟨?_, a2⟩
        simp only [preF, preL]
        exact ⟨okI_of (by decide) (by decide), s1000 (by simp), s1000 (by simp), ⟨Nat.zero_le _, fun x hx => by cases hx⟩, a1, trivial⟩
    | none =>
      rw [h1] at h
      simp only at h
      cases h2 : tk [40] L with
      | some r1 =>
        rw [h2] at h
        simp only at h
        cases h3 : pRow (pRow (pNot k) 1 [97, 110, 100] k) 2 [111, 114] k r1 with
        | none => rw [h3] at h; cases h
        | some q =>
          obtain ⟨g, r2⟩ := q
          rw [h3] at h
          obtain ⟨a1, a2⟩ := pRow_ok (fun a b => pRow_ok ih 1 (okI_of (by decide) (by decide)) _ _ a b) 2 (okI_of (by decide) (by decide)) _ _ (tk_ok h2 hL) h3
          simp only at h
          cases h4 : tk [41] r2 with
          | none => rw [h4] at h; cases h
          | some r3 => rw [h4] at h; cases h; exact ⟨a1, tk_ok h4 a2⟩
      | none =>
        rw [h2] at h
        simp only at h
        cases h3 : tk [116, 114, 117, 101] L with
        | some r1 =>
          rw [h3] at h
          cases h
          refine ⟨?_, tk_ok h3 hL⟩
          simp only [preF, preL]
          exact ⟨okI_of (by decide) (by decide), s1000 (by simp), s1000 (by simp), ⟨Nat.zero_le _, fun x hx => by cases hx⟩, trivial⟩
        | none => rw [h3] at h; exact pLeaf_ok hL h
theorem pOr_ok (k : Nat) {L r : TL} {f : tFilter} (hL : okTL L) (h : pOr k L = some (f, r)) : preF f ∧ okTL r :=
  pRow_ok (fun a b => pRow_ok (fun a b => pNot_ok k a b) 1 (okI_of (by decide) (by decide)) _ _ a b) 2 (okI_of (by decide) (by decide)) _ _ hL h
/-- What a text is read as. -/
def readF (s : Str) : tFilter × Er := if 500 < s.length then (.mk 0 [] [] [] [], some 5) else match toks 0 s with
  | none => (.mk 0 [] [] [] [], some 2)
  | some L => match pOr (L.length + 1) L with
    | none => (.mk 0 [] [] [] [], some 3)
    | some (f, r) => if r = [] then (if mayF f then (f, none) else (.mk 0 [] [] [] [], some 5)) else (.mk 0 [] [] [] [], some 3)
theorem readF_ok {s : Str} {L r : TL} {f : tFilter} (hs : s.length ≤ 500) (h1 : toks 0 s = some L) (h2 : pOr (L.length + 1) L = some (f, r)) : ok_tFilter f ∧ nodesF f ≤ 1001 := by
  obtain ⟨a1, a2⟩ := toks_ok 500 s 0 L hs (by decide) h1
  obtain ⟨⟨g, q⟩, -, e2, e3⟩ := dorC (dnotC (L.length + 1)) (n := 5 * (L.length + 1) + 6004) (L := L) (Nat.le_refl _) (by omega) (by omega)
  rw [h2] at e3
  have e3 : (g, q) = (f, ⟨r, false⟩) := e3
  obtain ⟨rfl, rfl⟩ := Prod.mk.inj e3
  have e2 : nodesF g + 2 * r.length ≤ 2 * L.length + 1 := e2
  exact ⟨pre_ok g (pOr_ok _ ⟨by omega, a2⟩ h2).1 (by omega), by omega⟩
theorem dRead (s : Str) : Ev fun n => dfilter_Read n s = some (readF s) := by
  unfold readF
  by_cases hs : 500 < s.length
  · refine Ev.ge 2001 fun n hn => ?_
    unfold dfilter_Read
    rw [dCut (by omega), Option.bind_some, cutC, if_pos hs, if_pos hs]; rfl
  · rw [if_neg hs]
    cases h1 : toks 0 s with
    | none =>
      refine Ev.ge 2001 fun n hn => ?_
      unfold dfilter_Read
      rw [dCut (by omega), Option.bind_some, cutC, if_neg hs, h1]; rfl
    | some L =>
      obtain ⟨a1, a2⟩ := toks_ok 500 s 0 L (by omega) (by decide) h1
      have hor := fun n hn => dorC (dnotC (L.length + 1)) (n := n) (L := L) hn (by omega) (by omega)
      simp only
      cases h2 : pOr (L.length + 1) L with
      | none =>
        refine Ev.ge (5 * (L.length + 1) + 6004) fun n hn => ?_
        unfold dfilter_Read
        rw [dCut (by omega), Option.bind_some, cutC, if_neg hs, h1]
        obtain ⟨⟨f, q⟩, e1, e2, e3⟩ := hor n hn
        rw [h2] at e3
        obtain ⟨ql, qb⟩ := q
        obtain rfl : qb = true := e3
        simp only [Option.isSome_none, cond_false, e1, Option.bind_some]
        cases f
        rfl
      | some w =>
        obtain ⟨f, r⟩ := w
        obtain ⟨ok, hN⟩ := readF_ok (by omega) h1 h2
        refine ((dMay ok (by omega)).and (Ev.ge (5 * (L.length + 1) + 6004) (p := fun n => 5 * (L.length + 1) + 6004 ≤ n) fun n hn => hn)).mono fun n hh => ?_
        obtain ⟨em, hn⟩ := hh
        unfold dfilter_Read
        rw [dCut (by omega), Option.bind_some, cutC, if_neg hs, h1]
        obtain ⟨⟨g, q⟩, e1, e2, e3⟩ := hor n hn
        rw [h2] at e3
        have e3 : (g, q) = (f, ⟨r, false⟩) := e3
        obtain ⟨rfl, rfl⟩ := Prod.mk.inj e3
        simp only [Option.isSome_none, cond_false, e1, Option.bind_some]
        cases g
        simp only [em, Option.bind_some]
        cases r with
        | nil =>
          simp only [List.length_nil, if_true]
          rw [show decide (((0 : Nat) : Int) > 0) = false from rfl, cond_false]
          cases mayF _ <;> rfl
        | cons t r =>
          have : decide (((t :: r).length : Int) > 0) = true := by simp
          rw [this, if_neg (by simp)]; rfl
theorem readF_er (s : Str) : (readF s).2 = none ∨ (readF s).2 = some 2 ∨ (readF s).2 = some 3 ∨ (readF s).2 = some 5 := by
  unfold readF
  split
  · simp
  · split
    · simp
    · split
      · simp
      · split
        · split <;> simp
        · simp
theorem readF_fit (s : Str) : ok_tFilter (readF s).1 := by
  have z : ok_tFilter (.mk 0 [] [] [] []) := pre_ok _ (preLeaf (okI_of (by decide) (by decide)) (by simp) (by simp) (fun x hx => by cases hx) (by simp)) (by simp [nodesF, nodesL])
  unfold readF
  split
  · exact z
  · rename_i hs
    split
    · exact z
    · rename_i L h1
      split
      · exact z
      · rename_i f r h2
        split
        · split
          · exact (readF_ok (by omega) h1 h2).1
          · exact z
        · exact z
end Go.Proofs.YtaekecbadkcggaaDoor
