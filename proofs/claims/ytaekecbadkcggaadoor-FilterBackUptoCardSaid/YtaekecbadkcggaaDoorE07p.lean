/- Layer 7, plainly: the parser. -/
import Derived.Test.YtaekecbadkcggaaDoorE07
namespace Go.Proofs.YtaekecbadkcggaaDoor
open Go.Pv
set_option linter.unusedSimpArgs false
set_option linter.unusedVariables false
set_option linter.unusedSectionVars false
set_option maxRecDepth 100000

abbrev TL := List ttokenToken
def isW (s : Str) (t : ttokenToken) : Bool := t.S == s && (t.Kind == 2 || t.Kind == 5)
def tk (s : Str) : TL → Option TL
  | [] => none
  | t :: r => if isW s t then some r else none
def tkK (ks : List Int) : TL → Option (ttokenToken × TL)
  | [] => none
  | t :: r => if ks.contains t.Kind then some (t, r) else none
def valT (t : ttokenToken) : tAttr := bif t.Kind == 4 then ⟨[], true, 0, t.S⟩ else ⟨[], false, t.N, []⟩
def hT : List tAttr → Bool
  | [] => false
  | a :: _ => a.Text
def pV : Nat → List tAttr → TL → Option (List tAttr × TL)
  | 0, _, _ => none
  | m + 1, l, L => match tk [44] L with
    | none => some (l, L)
    | some r => match tkK [3, 4] r with
      | none => none
      | some (t, r2) => if (valT t).Text == hT l then pV m (l ++ [valT t]) r2 else none
def pLeaf (L : TL) : Option (tFilter × TL) := match tkK [1] L with
  | none => none
  | some (t, r) => match tk [105, 110] r with
    | some r1 => match tk [40] r1 with
      | none => none
      | some r2 => match tkK [3, 4] r2 with
        | none => none
        | some (v, r3) => match pV (r3.length + 1) [valT v] r3 with
          | none => none
          | some (vs, r4) => match tk [41] r4 with
            | none => none
            | some r5 => some (.mk 6 t.S [] vs [], r5)
    | none => match tk [94, 61] r with
      | some r1 => match tkK [4] r1 with
        | none => none
        | some (v, r2) => some (.mk 5 t.S [] [valT v] [], r2)
      | none => match tkK [5] r with
        | none => none
        | some (o, r1) => if opsL.contains o.S then match tkK [3, 4] r1 with
            | none => none
            | some (v, r2) => some (.mk 4 t.S o.S [valT v] [], r2)
          else none
def pMore (p : TL → Option (tFilter × TL)) (w : Str) : Nat → TL → Option (List tFilter × TL)
  | 0, _ => none
  | m + 1, L => match tk w L with
    | none => some ([], L)
    | some r => match p r with
      | none => none
      | some (f, r1) => match pMore p w m r1 with
        | none => none
        | some (l, r2) => some (f :: l, r2)
def subF : tFilter → List tFilter
  | .mk _ _ _ _ l => l
def flatF (k : Int) (l : List tFilter) : List tFilter := l.flatMap fun x => bif kindF x == k then subF x else [x]
def comb (k : Int) (f : tFilter) (l : List tFilter) : tFilter := if l = [] then f else .mk k [] [] [] (flatF k (f :: l))
def pRow (p : TL → Option (tFilter × TL)) (k : Int) (w : Str) (m : Nat) (L : TL) : Option (tFilter × TL) := match p L with
  | none => none
  | some (f, r) => match pMore p w m r with
    | none => none
    | some (l, r1) => some (comb k f l, r1)
def pNot : Nat → TL → Option (tFilter × TL)
  | 0, _ => none
  | k + 1, L => match tk [110, 111, 116] L with
    | some r => match pNot k r with
      | none => none
      | some (f, r1) => some (.mk 3 [] [] [] [f], r1)
    | none => match tk [40] L with
      | some r => match pRow (pRow (pNot k) 1 [97, 110, 100] k) 2 [111, 114] k r with
        | none => none
        | some (f, r1) => match tk [41] r1 with
          | none => none
          | some r2 => some (f, r2)
      | none => match tk [116, 114, 117, 101] L with
        | some r => some (.mk 7 [] [] [] [], r)
        | none => pLeaf L
/-! ### the code's -/
theorem dIdxI {n : Nat} {l : List Int} {v : Int} (hl : l.length ≤ 1000000) (hn : l.length < n) : dslices_Contains_int n l v = some (l.contains v) := by
  unfold dslices_Contains_int dslices_Index_int
  have hany : l.contains v = l.any fun x => v == x := by rw [List.contains_eq_any_beq]
  rw [hany, any_ix]
  refine (congrArg (fun o => Option.bind (Option.bind o _) _) (ix_loop (l := l) (p := fun x => v == x) (fun i h => ?_) ?_ (Nat.le_trans hl (by decide)) hn)).trans ?_
  · have hd : decide ((i : Int) < (l.length : Int)) = true := by simpa using h
    simp only [hd, cond_true, gi_lt h, Option.bind_some]
    cases v == l[i] <;> rfl
  · simp
  · cases l.findIdx? (fun x => v == x) with
    | none => rfl
    | some i => simp only [Option.bind_some, kS]; rfl
theorem dnextC (n : Nat) (t : ttokenToken) (r : TL) : dfilter_parser_next n ⟨t :: r, false⟩ = some (t, ⟨t :: r, false⟩) := by
  unfold dfilter_parser_next
  have : (((t :: r).length : Int) == 0) = false := beq_false_of_ne (by simp; omega)
  simp only [cond_false, this, Option.bind_some]
  rfl
theorem dnextN (n : Nat) : dfilter_parser_next n ⟨[], false⟩ = some (⟨0, 0, 0, []⟩, ⟨[], false⟩) := rfl
theorem dnextB (n : Nat) (L : TL) : dfilter_parser_next n ⟨L, true⟩ = some (⟨0, 0, 0, []⟩, ⟨L, true⟩) := rfl
theorem gsl1 {α : Type} (t : α) (r : List α) : gsl (t :: r) 1 ((t :: r).length : Int) = some r := by
  have := gsl_from (t :: r) (i := 1) (by simp)
  simpa using this
theorem dtakes (n : Nat) (L : TL) (s : Str) : dfilter_parser_takes n ⟨L, false⟩ s = some (match tk s L with | some r => (true, ⟨r, false⟩) | none => (false, ⟨L, false⟩)) := by
  unfold dfilter_parser_takes
  cases L with
  | nil =>
    rw [dnextN, Option.bind_some, tk]
    cases ([] : Str) == s <;> rfl
  | cons t r =>
    rw [dnextC, Option.bind_some, tk]
    have : (bif (!(t.S == s)) then some true else (bif (t.Kind != 2) then some (t.Kind != 5) else some false) : Option Bool) = some (!isW s t) := by
      unfold isW
      have e2 : (t.Kind != 2) = !(t.Kind == 2) := rfl
      have e5 : (t.Kind != 5) = !(t.Kind == 5) := rfl
      rw [e2, e5]
      cases t.S == s <;> cases t.Kind == 2 <;> cases t.Kind == 5 <;> rfl
    simp only [this, Option.bind_some]
    cases isW s t with
    | true => simp only [Bool.not_true, cond_false, gsl1, Option.bind_some, if_true]
    | false => rfl
theorem dtakesB (n : Nat) (L : TL) (s : Str) : dfilter_parser_takes n ⟨L, true⟩ s = some (false, ⟨L, true⟩) := by
  unfold dfilter_parser_takes
  rw [dnextB, Option.bind_some]
  cases ([] : Str) == s <;> rfl
theorem dtake (n : Nat) (L : TL) (ks : List Int) (h0 : ks.contains 0 = false) (hk : ks.length ≤ 100) (hn : 100 < n) : dfilter_parser_take n ⟨L, false⟩ ks = some (match tkK ks L with | some (t, r) => (t, ⟨r, false⟩) | none => (⟨0, 0, 0, []⟩, ⟨L, true⟩)) := by
  unfold dfilter_parser_take
  cases L with
  | nil => rw [dnextN, Option.bind_some, dIdxI (by omega) (by omega), Option.bind_some, h0, tkK]; rfl
  | cons t r =>
    rw [dnextC, Option.bind_some, dIdxI (by omega) (by omega), Option.bind_some, tkK]
    cases ks.contains t.Kind with
    | true => simp only [Bool.not_true, cond_false, gsl1, Option.bind_some, if_true]
    | false => rfl
theorem dtakeB (n : Nat) (L : TL) (ks : List Int) (h0 : ks.contains 0 = false) (hk : ks.length ≤ 100) (hn : 100 < n) : dfilter_parser_take n ⟨L, true⟩ ks = some (⟨0, 0, 0, []⟩, ⟨L, true⟩) := by
  unfold dfilter_parser_take
  rw [dnextB, Option.bind_some, dIdxI (by omega) (by omega), Option.bind_some, h0]; rfl
theorem dvalC (n : Nat) (L : TL) (ks : List Int) (h0 : ks.contains 0 = false) (hk : ks.length ≤ 100) (hn : 100 < n) : dfilter_parser_value n ⟨L, false⟩ ks = some (match tkK ks L with | some (t, r) => (valT t, ⟨r, false⟩) | none => (⟨[], false, 0, []⟩, ⟨L, true⟩)) := by
  unfold dfilter_parser_value
  rw [dtake n L ks h0 hk hn, Option.bind_some]
  cases tkK ks L with
  | none => rfl
  | some p => obtain ⟨t, r⟩ := p; unfold valT; cases h : t.Kind == 4 <;> simp [h]
theorem dvalB (n : Nat) (L : TL) (ks : List Int) (h0 : ks.contains 0 = false) (hk : ks.length ≤ 100) (hn : 100 < n) : dfilter_parser_value n ⟨L, true⟩ ks = some (⟨[], false, 0, []⟩, ⟨L, true⟩) := by
  unfold dfilter_parser_value
  rw [dtakeB n L ks h0 hk hn, Option.bind_some]; rfl
theorem dmust (n : Nat) (L : TL) (b : Bool) : dfilter_parser_must n ⟨L, false⟩ b = some ⟨L, !b⟩ := rfl
theorem dmustB (n : Nat) (L : TL) (b : Bool) : dfilter_parser_must n ⟨L, true⟩ b = some ⟨L, true⟩ := rfl
theorem tk_len {s : Str} {L r : TL} (h : tk s L = some r) : L.length = r.length + 1 := by
  cases L with
  | nil => cases h
  | cons t l => rw [tk] at h; split at h <;> cases h; rfl
theorem tkK_len {ks : List Int} {L r : TL} {t : ttokenToken} (h : tkK ks L = some (t, r)) : L.length = r.length + 1 := by
  cases L with
  | nil => cases h
  | cons t l => rw [tkK] at h; split at h <;> cases h; rfl
/-- What a parser answers, beside what it is to. -/
def RC (L : TL) (o : Option (tFilter × TL)) (res : tFilter × tfilterparser) : Prop :=
  nodesF res.1 + 2 * res.2.L.length ≤ 2 * L.length + 1 ∧ match o with | some (g, r) => res = (g, ⟨r, false⟩) | none => res.2.Bad = true
def vloop (n : Nat) (p : Bool × TL × Bool × List tAttr) : Option ((Bool × TL × Bool × List tAttr) ⊕ (TL × Bool × List tAttr)) :=
  match p with
  | (more1, p2, p3, l1) => bif more1 then ((dfilter_parser_value n (tfilterparser.mk p2 p3) [3, 4]).bind fun x5 => (ap l1 [x5.1]).bind fun l4 => (gi l4 0).bind fun x7 => (dfilter_parser_must n x5.2 (x5.1.Text == x7.Text)).bind fun x8 => (dfilter_parser_takes n x8 [44]).bind fun more3 => some (Sum.inl (more3.1, more3.2.L, more3.2.Bad, l4))) else some (Sum.inr (p2, p3, l1))
def pVc (m : Nat) (l : List tAttr) (L : TL) : Option (List tAttr × TL) := match tkK [3, 4] L with
  | none => none
  | some (t, r) => if (valT t).Text == hT (l ++ [valT t]) then pV m (l ++ [valT t]) r else none
theorem hT_gi {l : List tAttr} (h : l ≠ []) : ∃ a, gi l 0 = some a ∧ a.Text = hT l := by
  cases l with
  | nil => exact absurd rfl h
  | cons a l => exact ⟨a, rfl, rfl⟩
theorem hT_app {l : List tAttr} (h : l ≠ []) (m : List tAttr) : hT (l ++ m) = hT l := by
  cases l with
  | nil => exact absurd rfl h
  | cons a l => rfl
theorem vloop_end (n k : Nat) (L : TL) (b : Bool) (l : List tAttr) : loopD (vloop n) (k + 1) (false, L, b, l) = some (L, b, l) := loopD_end rfl
theorem vloopB {n k : Nat} (L : TL) (l : List tAttr) (hn : 100 < n) (hl : l.length ≤ 2000) : ∃ l', loopD (vloop n) (k + 2) (true, L, true, l) = some (L, true, l') := by
  obtain ⟨a, ha, -⟩ := hT_gi (l := l ++ [⟨[], false, 0, []⟩]) (by simp)
  refine ⟨l ++ [⟨[], false, 0, []⟩], (loopD_go (s' := (false, L, true, l ++ [⟨[], false, 0, []⟩])) ?_).trans (vloop_end n k L true _)⟩
  simp only [vloop, cond_true, dvalB n L [3, 4] rfl (by decide) hn, Option.bind_some, ap_ok (show l.length + [(⟨[], false, 0, []⟩ : tAttr)].length ≤ capN from Nat.le_trans (show l.length + 1 ≤ 2001 by omega) (by decide)), ha, dmustB, dtakesB]
theorem vloop_ok {n : Nat} (hn : 100 < n) : ∀ (m : Nat) (L : TL) (l : List tAttr) (k : Nat), L.length < m → l.length + L.length ≤ 1000 → m + 3 < k →
    ∃ (l' : List tAttr) (p' : tfilterparser), loopD (vloop n) k (true, L, false, l) = some (p'.L, p'.Bad, l') ∧ p'.L.length ≤ L.length ∧ match pVc m l L with | some (vs, r) => l' = vs ∧ p' = ⟨r, false⟩ | none => p'.Bad = true
  | 0, L, l, k, h, _, _ => by omega
  | m + 1, L, l, k, h, hc, hk => by
    obtain ⟨k, rfl⟩ : ∃ j, k = j + 2 := ⟨k - 2, by omega⟩
    have hap : ∀ v : tAttr, ap l [v] = some (l ++ [v]) := fun v => ap_ok (Nat.le_trans (show l.length + 1 ≤ 2001 by omega) (by decide))
    unfold pVc
    cases ht : tkK [3, 4] L with
    | none =>
      obtain ⟨a, ha, -⟩ := hT_gi (l := l ++ [⟨[], false, 0, []⟩]) (by simp)
      refine ⟨l ++ [⟨[], false, 0, []⟩], ⟨L, true⟩, (loopD_go (s' := (false, L, true, l ++ [⟨[], false, 0, []⟩])) ?_).trans (vloop_end n k L true _), Nat.le_refl _, rfl⟩
      simp only [vloop, cond_true, dvalC n L [3, 4] rfl (by decide) hn, ht, Option.bind_some, hap, ha, dmustB, dtakesB]
    | some q =>
      obtain ⟨t, r⟩ := q
      have hr := tkK_len ht
      obtain ⟨a, ha, ha2⟩ := hT_gi (l := l ++ [valT t]) (by simp)
      cases he : (valT t).Text == hT (l ++ [valT t]) with
      | false =>
        refine ⟨l ++ [valT t], ⟨r, true⟩, (loopD_go (s' := (false, r, true, l ++ [valT t])) ?_).trans (vloop_end n k r true _), by show r.length ≤ _; omega, by simp [he]⟩
        simp only [vloop, cond_true, dvalC n L [3, 4] rfl (by decide) hn, ht, Option.bind_some, hap, ha, ha2, he, dmust, Bool.not_false, dtakesB]
      | true =>
        have hstep : vloop n (true, L, false, l) = some (.inl (match tk [44] r with | some r2 => (true, r2, false, l ++ [valT t]) | none => (false, r, false, l ++ [valT t]))) := by
          simp only [vloop, cond_true, dvalC n L [3, 4] rfl (by decide) hn, ht, Option.bind_some, hap, ha, ha2, he, dmust, Bool.not_true, dtakes]
          cases tk [44] r <;> rfl
        simp only [he, if_true, pV]
        cases hc2 : tk [44] r with
        | none =>
          rw [hc2] at hstep
          exact ⟨l ++ [valT t], ⟨r, false⟩, (loopD_go hstep).trans (vloop_end n k r false _), by show r.length ≤ _; omega, by simp⟩
        | some r2 =>
          rw [hc2] at hstep
          have hr2 := tk_len hc2
          obtain ⟨l', p', e1, e2, e3⟩ := vloop_ok hn m r2 (l ++ [valT t]) (k + 1) (by omega) (by simp; omega) (by omega)
          refine ⟨l', p', (loopD_go hstep).trans e1, by omega, ?_⟩
          simp only
          unfold pVc at e3
          cases h5 : tkK [3, 4] r2 with
          | none => rw [h5] at e3; exact e3
          | some q =>
            obtain ⟨t2, r3⟩ := q
            rw [h5] at e3
            simp only [hT_app (show l ++ [valT t] ≠ [] by simp)] at e3
            exact e3
theorem pV_mono : ∀ (m : Nat) (l : List tAttr) (L : TL) (j : Nat), L.length < m → m ≤ j → pV j l L = pV m l L
  | 0, l, L, j, h, _ => by omega
  | m + 1, l, L, j, h, hj => by
    obtain ⟨j, rfl⟩ : ∃ i, j = i + 1 := ⟨j - 1, by omega⟩
    rw [pV, pV]
    cases h1 : tk [44] L with
    | none => rfl
    | some r =>
      have := tk_len h1
      simp only
      cases h2 : tkK [3, 4] r with
      | none => rfl
      | some q =>
        obtain ⟨t, r2⟩ := q
        have := tkK_len h2
        simp only [pV_mono m (l ++ [valT t]) r2 j (by omega) (by omega)]
def leafG (fu : Nat) (p1 : tfilterparser) : Option (tFilter × tfilterparser) :=
  (dfilter_parser_take fu p1 [1]).bind fun x1 => (dfilter_parser_takes fu x1.2 [105, 110]).bind fun x2 => bif x2.1 then ((dfilter_parser_takes fu x2.2 [40]).bind fun x3 => (dfilter_parser_must fu x3.2 x3.1).bind fun x4 => (loopD (vloop fu) fu (true, x4.L, x4.Bad, [])).bind fun (((p6, p7, l3)) : (List ttokenToken) × Bool × (List tAttr)) => ((dfilter_parser_takes fu (tfilterparser.mk p6 p7) [41]).bind fun x9 => (dfilter_parser_must fu x9.2 x9.1).bind fun x10 => some ((tFilter.mk 6 x1.1.S [] l3 []), x10))) else ((dfilter_parser_takes fu x2.2 [94, 61]).bind fun x11 => bif x11.1 then ((dfilter_parser_value fu x11.2 [4]).bind fun x12 => some ((tFilter.mk 5 x1.1.S [] [x12.1] []), x12.2)) else ((dfilter_parser_take fu x11.2 [5]).bind fun x13 => (dfilter_ops fu ).bind fun x16 => (dslices_Contains_string fu x16 x13.1.S).bind fun x17 => (dfilter_parser_must fu x13.2 x17).bind fun x18 => (dfilter_parser_value fu x18 [3, 4]).bind fun x19 => some ((tFilter.mk 4 x1.1.S x13.1.S [x19.1] []), x19.2)))
theorem leafG_eq (n : Nat) (p : tfilterparser) : dfilter_parser_leaf n p = leafG n p := rfl
theorem RC_leaf {L : TL} {k : Int} {a b : Str} {v : List tAttr} {p : tfilterparser} (h : p.L.length ≤ L.length) (hb : p.Bad = true) : RC L none (.mk k a b v [], p) := ⟨by simp only [nodesF, nodesL]; omega, hb⟩
theorem RC_leaf' {L r : TL} {k : Int} {a b : Str} {v : List tAttr} (h : r.length ≤ L.length) : RC L (some (.mk k a b v [], r)) (.mk k a b v [], ⟨r, false⟩) := ⟨by simp only [nodesF, nodesL]; omega, rfl⟩
theorem dleafC {n : Nat} {L : TL} (hn : 3000 < n) (hL : L.length ≤ 900) : ∃ res, dfilter_parser_leaf n ⟨L, false⟩ = some res ∧ RC L (pLeaf L) res := by
  rw [leafG_eq]
  unfold leafG pLeaf
  have hops : ∀ s, dslices_Contains_string n opsL s = some (opsL.contains s) := fun s => dIdx (by decide) (show 6 < n by omega)
  rw [dtake n L [1] rfl (by decide) (by omega), Option.bind_some]
  cases h1 : tkK [1] L with
  | none =>
    simp only [dtakesB, Option.bind_some, cond_false, dtakeB n L [5] rfl (by decide) (show 100 < n by omega), dops, hops, dmustB, dvalB n L [3, 4] rfl (by decide) (show 100 < n by omega)]
    exact ⟨_, rfl, RC_leaf (Nat.le_refl _) rfl⟩
  | some q =>
    obtain ⟨t, r⟩ := q
    have hr := tkK_len h1
    simp only [dtakes, Option.bind_some]
    cases h2 : tk [105, 110] r with
    | some r1 =>
      have hr1 := tk_len h2
      simp only [cond_true, dtakes, Option.bind_some]
      cases h3 : tk [40] r1 with
      | none =>
        obtain ⟨l', e⟩ := vloopB (n := n) (k := n - 2) r1 [] (by omega) (by simp)
        rw [show n - 2 + 2 = n by omega] at e
        simp only [dmust, Bool.not_false, Option.bind_some, e, dtakesB, dmustB]
        exact ⟨_, rfl, RC_leaf (by show r1.length ≤ _; omega) rfl⟩
      | some r2 =>
        have hr2 := tk_len h3
        obtain ⟨l', p', e1, e2, e3⟩ := vloop_ok (n := n) (by omega) (r2.length + 1) r2 [] n (by omega) (by simp; omega) (by omega)
        simp only [dmust, Bool.not_true, Option.bind_some, e1]
        unfold pVc at e3
        cases h4 : tkK [3, 4] r2 with
        | none =>
          rw [h4] at e3
          obtain ⟨pl, pb⟩ := p'
          obtain rfl : pb = true := e3
          simp only [dtakesB, dmustB, Option.bind_some]
          exact ⟨_, rfl, RC_leaf (by show pl.length ≤ _; have : pl.length ≤ _ := e2; omega) rfl⟩
        | some q =>
          obtain ⟨v, r3⟩ := q
          have hr3 := tkK_len h4
          rw [h4] at e3
          have hh : ((valT v).Text == hT [valT v]) = true := by simp [hT]
          simp only [List.nil_append, hh, if_true] at e3
          rw [pV_mono (r3.length + 1) [valT v] r3 (r2.length + 1) (by omega) (by omega)] at e3
          cases h5 : pV (r3.length + 1) [valT v] r3 with
          | none =>
            rw [h5] at e3
            obtain ⟨pl, pb⟩ := p'
            obtain rfl : pb = true := e3
            simp only [dtakesB, dmustB, Option.bind_some, h5]
            exact ⟨_, rfl, RC_leaf (by show pl.length ≤ _; have : pl.length ≤ _ := e2; omega) rfl⟩
          | some q =>
            obtain ⟨vs, r4⟩ := q
            rw [h5] at e3
            obtain ⟨rfl, rfl⟩ := e3
            have e2 : r4.length ≤ r2.length := e2
            simp only [dtakes, Option.bind_some, h5]
            cases h6 : tk [41] r4 with
            | none =>
              simp only [dmust, Option.bind_some]
              exact ⟨_, rfl, RC_leaf (by show r4.length ≤ _; omega) rfl⟩
            | some r5 =>
              have := tk_len h6
              simp only [dmust, Option.bind_some]
              exact ⟨_, rfl, RC_leaf' (by omega)⟩
    | none =>
      simp only [cond_false, dtakes, Option.bind_some]
      cases h3 : tk [94, 61] r with
      | some r1 =>
        have hr1 := tk_len h3
        simp only [cond_true, dvalC n r1 [4] rfl (by decide) (show 100 < n by omega), Option.bind_some]
        cases h4 : tkK [4] r1 with
        | none => exact ⟨_, rfl, RC_leaf (by show r1.length ≤ _; omega) rfl⟩
        | some q =>
          obtain ⟨v, r2⟩ := q
          have := tkK_len h4
          exact ⟨_, rfl, RC_leaf' (by omega)⟩
      | none =>
        simp only [cond_false, dtake n r [5] rfl (by decide) (show 100 < n by omega), Option.bind_some, dops, hops]
        cases h4 : tkK [5] r with
        | none =>
          simp only [dmustB, dvalB n r [3, 4] rfl (by decide) (show 100 < n by omega), Option.bind_some]
          exact ⟨_, rfl, RC_leaf (by show r.length ≤ _; omega) rfl⟩
        | some q =>
          obtain ⟨o, r1⟩ := q
          have hr1 := tkK_len h4
          simp only [dmust, Option.bind_some]
          cases h5 : opsL.contains o.S with
          | false =>
            simp only [Bool.not_false, dvalB n r1 [3, 4] rfl (by decide) (show 100 < n by omega), Option.bind_some]
            exact ⟨_, rfl, RC_leaf (by show r1.length ≤ _; omega) rfl⟩
          | true =>
            simp only [Bool.not_true, dvalC n r1 [3, 4] rfl (by decide) (show 100 < n by omega), Option.bind_some, if_true]
            cases h6 : tkK [3, 4] r1 with
            | none => exact ⟨_, rfl, RC_leaf (by show r1.length ≤ _; omega) rfl⟩
            | some q =>
              obtain ⟨v, r2⟩ := q
              have := tkK_len h6
              exact ⟨_, rfl, RC_leaf' (by omega)⟩
/-! ### rows -/
theorem flatF_snoc (k : Int) (l : List tFilter) (x : tFilter) : flatF k (l ++ [x]) = flatF k l ++ (bif kindF x == k then subF x else [x]) := by simp [flatF]
theorem nodesL_app : ∀ a b : List tFilter, nodesL (a ++ b) = nodesL a + nodesL b
  | [], b => by simp [nodesL]
  | x :: a, b => by rw [List.cons_append, nodesL, nodesL, nodesL_app a b]; omega
theorem flatF_nodes (k : Int) : ∀ l, nodesL (flatF k l) ≤ nodesL l
  | [] => Nat.le_refl _
  | x :: l => by
    have h := flatF_nodes k l
    have : flatF k (x :: l) = (bif kindF x == k then subF x else [x]) ++ flatF k l := by simp [flatF]
    rw [this, nodesL_app, nodesL]
    cases kindF x == k with
    | true => cases x; simp only [cond_true, subF, nodesF]; omega
    | false => simp only [cond_false, nodesL]; omega
def rloop (n : Nat) (part : tfilterparser → Option (tFilter × tfilterparser)) (word1 : Str) (s : TL × Bool × List tFilter) : Option ((TL × Bool × List tFilter) ⊕ (TL × Bool × List tFilter)) := match s with
  | (p2, p3, l2) => (dfilter_parser_takes n (tfilterparser.mk p2 p3) word1).bind fun x5 => bif x5.1 then ((part x5.2).bind fun l5 => match l5 with | (.mk kind3 name2 op2 vals2 l6, l7) => (ap l2 [(tFilter.mk kind3 name2 op2 vals2 l6)]).bind fun l8 => some (Sum.inl (l7.L, l7.Bad, l8))) else some (Sum.inr (x5.2.L, x5.2.Bad, l2))
def floop (l4 : List tFilter) (kind1 : Int) (s : Int × List tFilter) : Option ((Int × List tFilter) ⊕ List tFilter) := match s with
  | (x6, l9) => (bif (decide (x6 < (l4.length : Int))) then (((gi l4 x6).bind fun x8 => match x8 with | .mk kind4 name3 op3 vals3 l13 => bif (kind4 == kind1) then ((ap l9 l13).bind fun l14 => some l14) else ((ap l9 [(tFilter.mk kind4 name3 op3 vals3 l13)]).bind fun l15 => some l15) : Option (List tFilter)).bind fun (l12 : List tFilter) => some (Sum.inl (W (x6 + 1), l12))) else some (Sum.inr l9))
def rowG (fu : Nat) (part : tfilterparser → Option (tFilter × tfilterparser)) (p1 : tfilterparser) (kind1 : Int) (word1 : Str) : Option (tFilter × tfilterparser) :=
  (part p1).bind fun x1 => match x1 with | (.mk kind2 name1 op1 vals1 l1, x2) => (loopD (rloop fu part word1) fu (x2.L, x2.Bad, [(tFilter.mk kind2 name1 op1 vals1 l1)])).bind fun (((x3, x4, l4)) : (List ttokenToken) × Bool × (List tFilter)) => (bif ((l4.length : Int) == 1) then some ((tFilter.mk kind2 name1 op1 vals1 l1), (tfilterparser.mk x3 x4)) else ((loopD (floop l4 kind1) fu (0, [])).bind fun (l11 : List tFilter) => some ((tFilter.mk kind1 [] [] [] l11), (tfilterparser.mk x3 x4))))
theorem row_not_eq (n : Nat) (p : tfilterparser) (k : Int) (w : Str) : dfilter_parser_row_not (n + 1) p k w = rowG n (dfilter_parser_not n) p k w := by rw [dfilter_parser_row_not]; rfl
theorem row_and_eq (n : Nat) (p : tfilterparser) (k : Int) (w : Str) : dfilter_parser_row_and (n + 1) p k w = rowG n (dfilter_parser_and n) p k w := by rw [dfilter_parser_row_and]; rfl
theorem floop_ok {n : Nat} {k : Int} {l : List tFilter} (hl : nodesL l ≤ 4000) (hn : 5000 < n) : loopD (floop l k) n (0, []) = some (flatF k l) := by
  have hlen := len_nodes l
  have h0 : (((0 : Int), []) : Int × List tFilter) = (((0 : Nat) : Int), flatF k (l.take 0)) := by simp [flatF]
  rw [h0]
  refine loopD_traj (fun i => ((i : Int), flatF k (l.take i))) l.length (fun i hi => ?_) ?_ n (by omega)
  · have hde : decide ((i : Int) < (l.length : Int)) = true := by simpa using hi
    have ht := take_snoc hi
    have h1 : nodesL (flatF k (l.take i ++ [l[i]])) ≤ 4000 := Nat.le_trans (flatF_nodes k _) (by rw [← ht]; exact Nat.le_trans (nodesL_take l _) hl)
    have h2 := Nat.le_trans (len_nodes _) h1
    rw [flatF_snoc, List.length_append] at h2
    simp only [floop, hde, cond_true, gi_lt hi, Option.bind_some, W_suc (show i + 1 < 9223372036854775808 by omega), ht, flatF_snoc]
    cases hx : l[i] with
    | mk a b c d e =>
      rw [hx] at h2
      simp only [kindF, subF] at h2 ⊢
      cases hk : a == k with
      | true =>
        rw [hk] at h2
        simp only [cond_true] at h2 ⊢
        rw [ap_ok (Nat.le_trans h2 (by decide))]; rfl
      | false =>
        rw [hk] at h2
        simp only [cond_false] at h2 ⊢
        rw [ap_ok (Nat.le_trans h2 (by decide))]; rfl
  · have hde : decide ((l.length : Int) < (l.length : Int)) = false := by simp
    simp only [floop, hde, cond_false, List.take_length]
section
variable {n k : Nat} {part : tfilterparser → Option (tFilter × tfilterparser)} {p : TL → Option (tFilter × TL)}
theorem rloop_ok (hp : ∀ L : TL, L.length < k → L.length ≤ 500 → ∃ res, part ⟨L, false⟩ = some res ∧ RC L (p L) res) (w : Str) : ∀ (m : Nat) (L : TL) (l : List tFilter) (j : Nat), L.length < m → L.length < k → L.length ≤ 500 → l.length + L.length ≤ 2000 → m + 1 < j →
    ∃ (p' : tfilterparser) (l2 : List tFilter), loopD (rloop n part w) j (L, false, l) = some (p'.L, p'.Bad, l ++ l2) ∧ nodesL l2 + 2 * p'.L.length + l2.length ≤ 2 * L.length ∧ match pMore p w m L with | some (x, r) => l2 = x ∧ p' = ⟨r, false⟩ | none => p'.Bad = true
  | 0, L, l, j, h, _, _, _, _ => by omega
  | m + 1, L, l, j, h, hk, h5, hc, hj => by
    obtain ⟨j, rfl⟩ : ∃ i, j = i + 2 := ⟨j - 2, by omega⟩
    rw [pMore]
    cases h1 : tk w L with
    | none =>
      refine ⟨⟨L, false⟩, [], loopD_end ?_, by simp [nodesL], by simp⟩
      simp only [rloop, dtakes, h1, Option.bind_some, cond_false, List.append_nil]
    | some r =>
      have hr := tk_len h1
      obtain ⟨⟨f, p2⟩, e1, e2, e3⟩ := hp r (by omega) (by omega)
      have e2 : nodesF f + 2 * p2.L.length ≤ 2 * r.length + 1 := e2
      have hap : ap l [f] = some (l ++ [f]) := ap_ok (Nat.le_trans (show l.length + 1 ≤ 2001 by omega) (by decide))
      have hstep : rloop n part w (L, false, l) = some (.inl (p2.L, p2.Bad, l ++ [f])) := by
        cases f with
        | mk a b c d e => simp only [rloop, dtakes, h1, Option.bind_some, cond_true, e1, hap]
      simp only
      cases h2 : p r with
      | none =>
        rw [h2] at e3
        have e3 : p2.Bad = true := e3
        refine ⟨p2, [f], (loopD_go hstep).trans (loopD_end ?_), by simp only [nodesL, List.length_cons, List.length_nil]; omega, e3⟩
        rw [e3]
        simp only [rloop, dtakesB, Option.bind_some, cond_false]
      | some q =>
        obtain ⟨g, r1⟩ := q
        rw [h2] at e3
        have e3 : (f, p2) = (g, ⟨r1, false⟩) := e3
        obtain ⟨rfl, rfl⟩ := Prod.mk.inj e3
        have e2 : nodesF f + 2 * r1.length ≤ 2 * r.length + 1 := e2
        have hn1 : 0 < nodesF f := by cases f; simp only [nodesF]; omega
        obtain ⟨p', l2, i1, i2, i3⟩ := rloop_ok hp w m r1 (l ++ [f]) (j + 1) (by omega) (by omega) (by omega) (by simp; omega) (by omega)
        refine ⟨p', f :: l2, (loopD_go hstep).trans (by rw [i1]; simp), by simp only [nodesL, List.length_cons]; omega, ?_⟩
        simp only
        cases h3 : pMore p w m r1 with
        | none => rw [h3] at i3; exact i3
        | some q => obtain ⟨x, r2⟩ := q; rw [h3] at i3; exact ⟨by rw [i3.1], i3.2⟩
theorem rowG_ok (hp : ∀ L : TL, L.length < k → L.length ≤ 500 → ∃ res, part ⟨L, false⟩ = some res ∧ RC L (p L) res) (kd : Int) (w : Str) {L : TL} (hk : L.length < k) (h5 : L.length ≤ 500) (hn : 5000 < n) (hkn : k + 1 < n) :
    ∃ res, rowG n part ⟨L, false⟩ kd w = some res ∧ RC L (pRow p kd w k L) res := by
  obtain ⟨⟨f, p2⟩, e1, e2, e3⟩ := hp L hk h5
  have e2 : nodesF f + 2 * p2.L.length ≤ 2 * L.length + 1 := e2
  have hn1 : 0 < nodesF f := by cases f; simp only [nodesF]; omega
  unfold rowG pRow
  rw [e1, Option.bind_some]
  have hm : ∀ (G : tFilter → tfilterparser → Option (tFilter × tfilterparser)), (match ((f, p2) : tFilter × tfilterparser) with | (.mk a b c d e, x2) => G (.mk a b c d e) x2) = G f p2 := fun G => by cases f; rfl
  refine (show _ ∧ _ → _ from fun ⟨a, b⟩ => ?_) (show True ∧ True from ⟨trivial, trivial⟩)
  have hgoal : ∃ res, ((loopD (rloop n part w) n (p2.L, p2.Bad, [f])).bind fun (((x3, x4, l4)) : (List ttokenToken) × Bool × (List tFilter)) => (bif ((l4.length : Int) == 1) then some (f, (tfilterparser.mk x3 x4)) else ((loopD (floop l4 kd) n (0, [])).bind fun (l11 : List tFilter) => some ((tFilter.mk kd [] [] [] l11), (tfilterparser.mk x3 x4))))) = some res ∧ RC L (match p L with | none => none | some (f, r) => match pMore p w k r with | none => none | some (l, r1) => some (comb kd f l, r1)) res := by
    cases h2 : p L with
    | none =>
      rw [h2] at e3
      have e3 : p2.Bad = true := e3
      obtain ⟨n', rfl⟩ : ∃ i, n = i + 1 := ⟨n - 1, by omega⟩
      have hl : loopD (rloop (n' + 1) part w) (n' + 1) (p2.L, p2.Bad, [f]) = some (p2.L, p2.Bad, [f]) := loopD_end (by rw [e3]; simp only [rloop, dtakesB, Option.bind_some, cond_false])
      rw [hl, Option.bind_some]
      exact ⟨_, rfl, e2, e3⟩
    | some q =>
      obtain ⟨g, r1⟩ := q
      rw [h2] at e3
      have e3 : (f, p2) = (g, ⟨r1, false⟩) := e3
      obtain ⟨rfl, rfl⟩ := Prod.mk.inj e3
      have e2 : nodesF f + 2 * r1.length ≤ 2 * L.length + 1 := e2
      obtain ⟨p', l2, i1, i2, i3⟩ := rloop_ok hp w (n := n) k r1 [f] n (by omega) (by omega) (by omega) (by simp; omega) (by omega)
      rw [i1, Option.bind_some]
      simp only
      cases l2 with
      | nil =>
        refine ⟨(f, ⟨p'.L, p'.Bad⟩), rfl, by show nodesF f + 2 * p'.L.length ≤ _; simp only [nodesL, List.length_nil] at i2; omega, ?_⟩
        cases h3 : pMore p w k r1 with
        | none => rw [h3] at i3; exact i3
        | some q => obtain ⟨x, r2⟩ := q; rw [h3] at i3; obtain ⟨rfl, rfl⟩ := i3; rfl
      | cons y l2 =>
        have hlen : ((([f] ++ y :: l2).length : Int) == 1) = false := beq_false_of_ne (by simp; omega)
        have hnod : nodesL ([f] ++ y :: l2) ≤ 4000 := by rw [nodesL_app]; simp only [nodesL, List.length_cons] at i2 ⊢; omega
        rw [hlen, cond_false, floop_ok hnod hn, Option.bind_some]
        have hfl := flatF_nodes kd ([f] ++ y :: l2)
        refine ⟨_, rfl, ?_, ?_⟩
        · show nodesF (.mk kd [] [] [] (flatF kd ([f] ++ y :: l2))) + 2 * p'.L.length ≤ _
          rw [nodesL_app] at hfl
          simp only [nodesF, nodesL, List.length_cons] at i2 hfl ⊢
          omega
        · cases h3 : pMore p w k r1 with
          | none => rw [h3] at i3; exact i3
          | some q =>
            obtain ⟨x, r2⟩ := q; rw [h3] at i3; obtain ⟨rfl, rfl⟩ := i3
            simp [comb]
  cases f
  exact hgoal
end
def pAnd (k : Nat) (L : TL) := pRow (pNot k) 1 [97, 110, 100] k L
def pOr (k : Nat) (L : TL) := pRow (pAnd k) 2 [111, 114] k L
theorem dandC {k : Nat} (hnot : ∀ (n : Nat) (L : TL), 5 * k + 6000 ≤ n → L.length < k → L.length ≤ 500 → ∃ res, dfilter_parser_not n ⟨L, false⟩ = some res ∧ RC L (pNot k L) res) {n : Nat} {L : TL} (hn : 5 * k + 6002 ≤ n) (hk : L.length < k) (h5 : L.length ≤ 500) :
    ∃ res, dfilter_parser_and n ⟨L, false⟩ = some res ∧ RC L (pAnd k L) res := by
  obtain ⟨n, rfl⟩ : ∃ i, n = i + 2 := ⟨n - 2, by omega⟩
  obtain ⟨res, e, h⟩ := rowG_ok (n := n) (fun L h1 h2 => hnot n L (by omega) h1 h2) 1 [97, 110, 100] hk h5 (by omega) (by omega)
  rw [dfilter_parser_and, row_not_eq, e, Option.bind_some]
  obtain ⟨f, q⟩ := res
  cases f
  exact ⟨_, rfl, h⟩
theorem dorC {k : Nat} (hnot : ∀ (n : Nat) (L : TL), 5 * k + 6000 ≤ n → L.length < k → L.length ≤ 500 → ∃ res, dfilter_parser_not n ⟨L, false⟩ = some res ∧ RC L (pNot k L) res) {n : Nat} {L : TL} (hn : 5 * k + 6004 ≤ n) (hk : L.length < k) (h5 : L.length ≤ 500) :
    ∃ res, dfilter_parser_or n ⟨L, false⟩ = some res ∧ RC L (pOr k L) res := by
  obtain ⟨n, rfl⟩ : ∃ i, n = i + 2 := ⟨n - 2, by omega⟩
  obtain ⟨res, e, h⟩ := rowG_ok (n := n) (fun L h1 h2 => dandC hnot (n := n) (by omega) h1 h2) 2 [111, 114] hk h5 (by omega) (by omega)
  rw [dfilter_parser_or, row_and_eq, e, Option.bind_some]
  obtain ⟨f, q⟩ := res
  cases f
  exact ⟨_, rfl, h⟩
theorem dnotC : ∀ (k n : Nat) (L : TL), 5 * k + 6000 ≤ n → L.length < k → L.length ≤ 500 → ∃ res, dfilter_parser_not n ⟨L, false⟩ = some res ∧ RC L (pNot k L) res
  | 0, n, L, _, h, _ => by omega
  | k + 1, n, L, hn, hk, h5 => by
    obtain ⟨n, rfl⟩ : ∃ i, n = i + 1 := ⟨n - 1, by omega⟩
    have ih := dnotC k
    rw [dfilter_parser_not, dtakes, Option.bind_some, pNot]
    cases h1 : tk [110, 111, 116] L with
    | some r =>
      have hr := tk_len h1
      obtain ⟨⟨f, p2⟩, e1, e2, e3⟩ := ih n r (by omega) (by omega) (by omega)
      have e2 : nodesF f + 2 * p2.L.length ≤ 2 * r.length + 1 := e2
      simp only [cond_true, e1, Option.bind_some]
      refine ⟨(.mk 3 [] [] [] [f], p2), by cases f; rfl, by simp only [nodesF, nodesL]; omega, ?_⟩
      cases h2 : pNot k r with
      | none => rw [h2] at e3; exact e3
      | some q =>
        obtain ⟨g, r1⟩ := q
        rw [h2] at e3
        have e3 : (f, p2) = (g, ⟨r1, false⟩) := e3
        obtain ⟨rfl, rfl⟩ := Prod.mk.inj e3
        rfl
    | none =>
      simp only [cond_false, dtakes, Option.bind_some]
      cases h2 : tk [40] L with
      | some r =>
        have hr := tk_len h2
        obtain ⟨⟨f, p2⟩, e1, e2, e3⟩ := dorC ih (n := n) (L := r) (by omega) (by omega) (by omega)
        have e2 : nodesF f + 2 * p2.L.length ≤ 2 * r.length + 1 := e2
        simp only [cond_true, e1, Option.bind_some]
        have hpo : pRow (pRow (pNot k) 1 [97, 110, 100] k) 2 [111, 114] k r = pOr k r := rfl
        rw [hpo]
        obtain ⟨pl, pb⟩ := p2
        have e2 : nodesF f + 2 * pl.length ≤ 2 * r.length + 1 := e2
        cases h4 : pOr k r with
        | none =>
          rw [h4] at e3
          obtain rfl : pb = true := e3
          refine ⟨(f, ⟨pl, true⟩), ?_, by show nodesF f + 2 * pl.length ≤ _; omega, rfl⟩
          cases f; simp only [dtakesB, dmustB, Option.bind_some]
        | some q =>
          obtain ⟨g, r1⟩ := q
          rw [h4] at e3
          have e3 : (f, (⟨pl, pb⟩ : tfilterparser)) = (g, ⟨r1, false⟩) := e3
          simp only [Prod.mk.injEq, tfilterparser.mk.injEq] at e3
          obtain ⟨rfl, rfl, rfl⟩ := e3
          cases h5 : tk [41] pl with
          | none =>
            refine ⟨(f, ⟨pl, true⟩), ?_, by show nodesF f + 2 * pl.length ≤ _; omega, by simp [h5]⟩
            cases f; simp only [dtakes, h5, dmust, Option.bind_some, Bool.not_false]
          | some r2 =>
            have := tk_len h5
            refine ⟨(f, ⟨r2, false⟩), ?_, by show nodesF f + 2 * r2.length ≤ _; omega, by simp [h5]⟩
            cases f; simp only [dtakes, h5, dmust, Option.bind_some, Bool.not_true]
      | none =>
        simp only [cond_false, dtakes, Option.bind_some]
        cases h3 : tk [116, 114, 117, 101] L with
        | some r =>
          have hr := tk_len h3
          simp only [cond_true]
          exact ⟨_, rfl, RC_leaf' (by omega)⟩
        | none =>
          simp only [cond_false]
          obtain ⟨res, e, h⟩ := dleafC (n := n) (L := L) (by omega) (by omega)
          rw [e, Option.bind_some]
          obtain ⟨f, q⟩ := res
          cases f
          exact ⟨_, rfl, h⟩
end Go.Proofs.YtaekecbadkcggaaDoor
