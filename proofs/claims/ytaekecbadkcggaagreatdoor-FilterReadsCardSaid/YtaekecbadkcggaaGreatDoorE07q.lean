/- Layer 7, plainly: the document's parser. -/
import Derived.Test.YtaekecbadkcggaaGreatDoorE07p
import Derived.Test.YtaekecbadkcggaaGreatDoorE07r
namespace Go.Proofs.YtaekecbadkcggaaGreatDoor
open Go.Pv
set_option linter.unusedSimpArgs false
set_option linter.unusedVariables false
set_option linter.unusedSectionVars false
set_option maxRecDepth 100000

def mkP (all : TL) (i : Nat) (b : Bool) : tref06P := ⟨all.map toR, (i : Int), b⟩
theorem dropC {all : TL} {i : Nat} {t : ttokenToken} {r : TL} (h : all.drop i = t :: r) : i < all.length ∧ all[i]? = some t ∧ all.drop (i + 1) = r := by
  have h1 : i < all.length := by
    have := congrArg List.length h; simp at this; omega
  refine ⟨h1, ?_, ?_⟩
  · have := congrArg (fun l => l[0]?) h; simpa using this
  · have := congrArg (fun l => List.drop 1 l) h; simpa [List.drop_drop] using this
theorem dropN {all : TL} {i : Nat} (h : all.drop i = []) : all.length ≤ i := by
  have := congrArg List.length h; simp at this; omega
theorem dkind (n : Nat) (all : TL) (i : Nat) : dref06_P_kind n (mkP all i false) = some ((match all.drop i with | [] => 0 | t :: _ => t.Kind), mkP all i false) := by
  unfold dref06_P_kind mkP
  cases h : all.drop i with
  | nil =>
    have := dropN h
    have hd : decide ((i : Int) ≥ ((all.map toR).length : Int)) = true := by simp; omega
    simp only [cond_false, hd, Option.bind_some, cond_true]
  | cons t r =>
    obtain ⟨h1, h2, -⟩ := dropC h
    have hd : decide ((i : Int) ≥ ((all.map toR).length : Int)) = false := by simp; omega
    have hg : gi (all.map toR) (i : Int) = some (toR t) := by rw [gi_nat, List.getElem?_map, h2]; rfl
    simp only [cond_false, hd, Option.bind_some, hg]
    rfl
theorem dkindB (n : Nat) (all : TL) (i : Nat) : dref06_P_kind n (mkP all i true) = some (0, mkP all i true) := rfl
theorem rtakes (n : Nat) {all : TL} {i : Nat} (hi : i ≤ 1000) (s : Str) : dref06_P_takes n (mkP all i false) s = some (match tk s (all.drop i) with | some _ => (true, mkP all (i + 1) false) | none => (false, mkP all i false)) := by
  unfold dref06_P_takes
  rw [dkind, Option.bind_some]
  cases h : all.drop i with
  | nil => simp [tk]
  | cons t r =>
    obtain ⟨h1, h2, -⟩ := dropC h
    have hg : gi (mkP all i false).L (mkP all i false).At = some (toR t) := by show gi (all.map toR) (i : Int) = _; rw [gi_nat, List.getElem?_map, h2]; rfl
    have hw : W ((mkP all i false).At + 1) = ((i + 1 : Nat) : Int) := W_suc (by omega)
    have e2 : (bif (t.Kind != 2) then some (t.Kind != 5) else some false : Option Bool) = some (!(t.Kind == 2 || t.Kind == 5)) := by
      show (bif !(t.Kind == 2) then some !(t.Kind == 5) else some false : Option Bool) = _
      cases t.Kind == 2 <;> cases t.Kind == 5 <;> rfl
    simp only [e2, Option.bind_some, tk, isW]
    obtain ⟨x, hb⟩ : ∃ x, (t.Kind == 2 || t.Kind == 5) = x := ⟨_, rfl⟩
    obtain ⟨y, hy⟩ : ∃ y, (t.S == s) = y := ⟨_, rfl⟩
    cases x with
    | false => simp [hb]
    | true =>
      simp only [hb, Bool.not_true, cond_false, hg, Option.bind_some, hw, Bool.and_true]
      rw [show (toR t).S = t.S from rfl]
      cases y <;> simp only [hy] <;> rfl
theorem rtakesB (n : Nat) (all : TL) (i : Nat) (s : Str) : dref06_P_takes n (mkP all i true) s = some (false, mkP all i true) := rfl
theorem rmust (n : Nat) {all : TL} {i : Nat} (hi : i ≤ 1000) (s : Str) : dref06_P_must n (mkP all i false) s = some (match tk s (all.drop i) with | some _ => mkP all (i + 1) false | none => mkP all i true) := by
  unfold dref06_P_must
  rw [rtakes n hi, Option.bind_some]
  cases tk s (all.drop i) <;> rfl
theorem rmustB (n : Nat) (all : TL) (i : Nat) (s : Str) : dref06_P_must n (mkP all i true) s = some (mkP all i true) := rfl
theorem rtoken (n : Nat) {all : TL} {i : Nat} (hi : i ≤ 1000) (a b : Int) (ks : List Int) (hks : ∀ k : Int, ks.contains k = ((k == a) || (k == b))) (ha : a ≠ 0) (hb : b ≠ 0) :
    dref06_P_token n (mkP all i false) a b = some (match tkK ks (all.drop i) with | some (t, _) => (toR t, mkP all (i + 1) false) | none => (⟨0, 0, 0, []⟩, mkP all i true)) := by
  unfold dref06_P_token
  rw [dkind, Option.bind_some]
  cases h : all.drop i with
  | nil => simp only [tkK]; rfl
  | cons t r =>
    obtain ⟨h1, h2, -⟩ := dropC h
    have hw : W ((mkP all i false).At + 1) = ((i + 1 : Nat) : Int) := W_suc (by omega)
    have hw2 : W (((i + 1 : Nat) : Int) - 1) = (i : Int) := by rw [show ((i + 1 : Nat) : Int) - 1 = (i : Int) by omega]; exact W_nat (by omega)
    have hg : gi (mkP all i false).L (i : Int) = some (toR t) := by show gi (all.map toR) (i : Int) = _; rw [gi_nat, List.getElem?_map, h2]; rfl
    have e2 : (bif (t.Kind == 0) then some true else (bif (t.Kind != a) then some (t.Kind != b) else some false) : Option Bool) = some (!ks.contains t.Kind) := by
      rw [hks]
      show (bif (t.Kind == 0) then some true else (bif !(t.Kind == a) then some !(t.Kind == b) else some false) : Option Bool) = _
      cases h0 : t.Kind == 0 with
      | true =>
        have h0 : t.Kind = 0 := by simpa using h0
        have h3 : (t.Kind == a) = false := beq_false_of_ne (by omega)
        have h4 : (t.Kind == b) = false := beq_false_of_ne (by omega)
        rw [h3, h4]; rfl
      | false => cases t.Kind == a <;> cases t.Kind == b <;> rfl
    simp only [e2, Option.bind_some, tkK]
    obtain ⟨x, hb⟩ : ∃ x, ks.contains t.Kind = x := ⟨_, rfl⟩
    cases x with
    | false => simp only [hb]; rfl
    | true =>
      simp only [hb, Bool.not_true, cond_false, hw, hw2, hg, Option.bind_some]
      rfl
theorem rtokenB (n : Nat) (all : TL) (i : Nat) (a b : Int) : dref06_P_token n (mkP all i true) a b = some (⟨0, 0, 0, []⟩, mkP all i true) := rfl
theorem c34 : ∀ k : Int, ([3, 4] : List Int).contains k = ((k == 3) || (k == 4)) := fun k => by simp only [List.contains, List.elem]; cases k == 3 <;> cases k == 4 <;> rfl
theorem c11 : ∀ k : Int, ([1] : List Int).contains k = ((k == 1) || (k == 1)) := fun k => by simp only [List.contains, List.elem]; cases k == 1 <;> rfl
theorem c55 : ∀ k : Int, ([5] : List Int).contains k = ((k == 5) || (k == 5)) := fun k => by simp only [List.contains, List.elem]; cases k == 5 <;> rfl
theorem rval (n : Nat) {all : TL} {i : Nat} (hi : i ≤ 1000) : dref06_P_val n (mkP all i false) = some (match tkK [3, 4] (all.drop i) with | some (t, _) => (valT t, mkP all (i + 1) false) | none => (⟨[], false, 0, []⟩, mkP all i true)) := by
  unfold dref06_P_val
  rw [rtoken n hi 3 4 [3, 4] c34 (by decide) (by decide), Option.bind_some]
  cases tkK [3, 4] (all.drop i) with
  | none => rfl
  | some p =>
    obtain ⟨t, r⟩ := p
    unfold valT
    simp only
    rw [show (toR t).Kind = t.Kind from rfl]
    cases t.Kind == 4 <;> rfl
theorem rvalB (n : Nat) (all : TL) (i : Nat) : dref06_P_val n (mkP all i true) = some (⟨[], false, 0, []⟩, mkP all i true) := rfl
theorem tk_drop {s : Str} {all r : TL} {i : Nat} (h : tk s (all.drop i) = some r) : i < all.length ∧ r = all.drop (i + 1) := by
  cases hd : all.drop i with
  | nil => rw [hd] at h; cases h
  | cons t l =>
    obtain ⟨h1, -, h2⟩ := dropC hd
    rw [hd, tk] at h; split at h <;> cases h
    exact ⟨h1, h2.symm⟩
theorem tkK_drop {ks : List Int} {all r : TL} {t : ttokenToken} {i : Nat} (h : tkK ks (all.drop i) = some (t, r)) : i < all.length ∧ r = all.drop (i + 1) := by
  cases hd : all.drop i with
  | nil => rw [hd] at h; cases h
  | cons t l =>
    obtain ⟨h1, -, h2⟩ := dropC hd
    rw [hd, tkK] at h; split at h <;> cases h
    exact ⟨h1, h2.symm⟩
/-- What a parser of the document's answers. -/
def RD (all : TL) (i : Nat) (o : Option (tFilter × TL)) (res : tFilter × tref06P) : Prop :=
  ∃ i' b, res.2 = mkP all i' b ∧ i ≤ i' ∧ i' ≤ all.length ∧ nodesF res.1 + 2 * (all.length - i') ≤ 2 * (all.length - i) + 1 ∧ match o with | some (g, r) => res.1 = g ∧ b = false ∧ r = all.drop i' | none => b = true
def vdloop (n : Nat) (t0 : Bool) (s : List tref06Token × Int × Bool × List tAttr) : Option ((List tref06Token × Int × Bool × List tAttr) ⊕ (List tref06Token × Int × Bool × List tAttr)) := match s with
  | (p2, p3, p4, l2) => (dref06_P_takes n (tref06P.mk p2 p3 p4) [44]).bind fun x5 => bif x5.1 then ((dref06_P_val n x5.2).bind fun x6 => (bif x6.2.Bad then some true else some (!(x6.1.Text == t0)) : Option Bool).bind fun (p11 : Bool) => ((ap l2 [x6.1]).bind fun l5 => some (Sum.inl (x6.2.L, x6.2.At, p11, l5)))) else some (Sum.inr (x5.2.L, x5.2.At, x5.2.Bad, l2))
theorem vd_endB (n k : Nat) (t0 : Bool) (all : TL) (i : Nat) (l : List tAttr) : loopD (vdloop n t0) (k + 1) (all.map toR, (i : Int), true, l) = some (all.map toR, (i : Int), true, l) :=
  loopD_end (by
    have h := rtakesB n all i [44]
    unfold mkP at h
    simp only [vdloop, h, Option.bind_some, cond_false])
theorem vdloop_ok {n : Nat} {all : TL} (hall : all.length ≤ 900) : ∀ (m i : Nat) (l : List tAttr) (k : Nat), all.length < i + m → i ≤ all.length → l ≠ [] → l.length + (all.length - i) ≤ 1900 → m + 1 < k →
    ∃ (l' : List tAttr) (i' : Nat) (b : Bool), loopD (vdloop n (hT l)) k (all.map toR, (i : Int), false, l) = some (all.map toR, (i' : Int), b, l') ∧ i ≤ i' ∧ i' ≤ all.length ∧ match pV m l (all.drop i) with | some (vs, r) => l' = vs ∧ b = false ∧ r = all.drop i' | none => b = true
  | 0, i, l, k, h, h2, _, _, _ => by omega
  | m + 1, i, l, k, h, hi, hl, hc, hk => by
    obtain ⟨k, rfl⟩ : ∃ j, k = j + 2 := ⟨k - 2, by omega⟩
    have ht := rtakes n (all := all) (i := i) (by omega) [44]
    have hap : ∀ v : tAttr, ap l [v] = some (l ++ [v]) := fun v => ap_ok (Nat.le_trans (show l.length + 1 ≤ 2001 by omega) (by decide))
    rw [pV]
    cases h1 : tk [44] (all.drop i) with
    | none =>
      rw [h1] at ht
      refine ⟨l, i, false, loopD_end ?_, Nat.le_refl _, hi, by simp⟩
      unfold mkP at ht
      simp only [vdloop, ht, Option.bind_some, cond_false]
    | some r =>
      rw [h1] at ht
      obtain ⟨hlt, rfl⟩ := tk_drop h1
      have hv := rval n (all := all) (i := i + 1) (by omega)
      simp only
      cases h2 : tkK [3, 4] (all.drop (i + 1)) with
      | none =>
        rw [h2] at hv
        refine ⟨l ++ [⟨[], false, 0, []⟩], i + 1, true, (loopD_go (s' := (all.map toR, ((i + 1 : Nat) : Int), true, l ++ [⟨[], false, 0, []⟩])) ?_).trans (vd_endB n k _ all (i + 1) _), by omega, by omega, rfl⟩
        unfold mkP at ht hv
        simp only [vdloop, ht, hv, Option.bind_some, cond_true, hap]
      | some q =>
        obtain ⟨t, r2⟩ := q
        rw [h2] at hv
        obtain ⟨hlt2, rfl⟩ := tkK_drop h2
        have hstep : vdloop n (hT l) (all.map toR, (i : Int), false, l) = some (.inl (all.map toR, ((i + 1 + 1 : Nat) : Int), !((valT t).Text == hT l), l ++ [valT t])) := by
          unfold mkP at ht hv
          simp only [vdloop, ht, hv, Option.bind_some, cond_true, cond_false, hap]
        simp only
        cases he : (valT t).Text == hT l with
        | false =>
          rw [he] at hstep
          exact ⟨_, i + 1 + 1, true, (loopD_go hstep).trans (vd_endB n k _ all (i + 1 + 1) _), by omega, by omega, rfl⟩
        | true =>
          rw [he] at hstep
          obtain ⟨l', i', b, e1, e2, e3, e4⟩ := vdloop_ok (n := n) hall m (i + 1 + 1) (l ++ [valT t]) (k + 1) (by omega) (by omega) (by simp) (by simp; omega) (by omega)
          rw [hT_app hl] at e1
          exact ⟨l', i', b, (loopD_go hstep).trans e1, by omega, e3, e4⟩
def leafD (fu : Nat) (p1 : tref06P) : Option (tFilter × tref06P) :=
  (dref06_P_token fu p1 1 1).bind fun x1 => (dref06_P_takes fu x1.2 [105, 110]).bind fun x2 => bif x2.1 then ((dref06_P_must fu x2.2 [40]).bind fun x3 => (dref06_P_val fu x3).bind fun x4 => (ap [] [x4.1]).bind fun l1 => (loopD (vdloop fu x4.1.Text) fu (x4.2.L, x4.2.At, x4.2.Bad, l1)).bind fun (((p8, p9, p10, l4)) : (List tref06Token) × Int × Bool × (List tAttr)) => ((dref06_P_must fu (tref06P.mk p8 p9 p10) [41]).bind fun x7 => some ((tFilter.mk 6 x1.1.S [] l4 []), x7))) else ((dref06_P_takes fu x2.2 [94, 61]).bind fun x8 => bif x8.1 then ((dref06_P_val fu x8.2).bind fun x9 => (bif x9.2.Bad then some true else some (!x9.1.Text) : Option Bool).bind fun (x10 : Bool) => ((ap [] [x9.1]).bind fun l6 => some ((tFilter.mk 5 x1.1.S [] l6 []), (tref06P.mk x9.2.L x9.2.At x10)))) else ((dref06_P_token fu x8.2 5 5).bind fun x11 => (bif x11.2.Bad then some true else ((dref06_op fu x11.1.S).bind fun x12 => some (!x12)) : Option Bool).bind fun (p12 : Bool) => ((dref06_P_val fu (tref06P.mk x11.2.L x11.2.At p12)).bind fun x13 => (ap [] [x13.1]).bind fun l7 => some ((tFilter.mk 4 x1.1.S x11.1.S l7 []), x13.2))))
theorem leafD_eq (n : Nat) (p : tref06P) : dref06_P_leafy n p = leafD n p := rfl
theorem RD_leaf {all : TL} {i i' : Nat} {k : Int} {a b : Str} {v : List tAttr} (h : i ≤ i') (h2 : i' ≤ all.length) : RD all i none (.mk k a b v [], mkP all i' true) := ⟨i', true, rfl, h, h2, by simp only [nodesF, nodesL]; omega, rfl⟩
theorem RD_leaf' {all r : TL} {i i' : Nat} {k : Int} {a b : Str} {v : List tAttr} (h : i ≤ i') (h2 : i' ≤ all.length) (hr : r = all.drop i') : RD all i (some (.mk k a b v [], r)) (.mk k a b v [], mkP all i' false) := ⟨i', false, rfl, h, h2, by simp only [nodesF, nodesL]; omega, rfl, rfl, hr⟩
theorem ap1 {α : Type} (x : α) : ap [] [x] = some [x] := ap_ok (show 0 + 1 ≤ capN from by decide)
theorem dleafD {n : Nat} {all : TL} {i : Nat} (hn : 3000 < n) (hall : all.length ≤ 900) (hi : i ≤ all.length) : ∃ res, dref06_P_leafy n (mkP all i false) = some res ∧ RD all i (pLeaf (all.drop i)) res := by
  rw [leafD_eq]
  unfold leafD pLeaf
  rw [rtoken n (by omega) 1 1 [1] c11 (by decide) (by decide), Option.bind_some]
  cases h1 : tkK [1] (all.drop i) with
  | none =>
    simp only [rtakesB, Option.bind_some, cond_false, rtokenB]
    rw [show (mkP all i true).Bad = true from rfl, cond_true, Option.bind_some, show tref06P.mk (mkP all i true).L (mkP all i true).At true = mkP all i true from rfl, rvalB, Option.bind_some, ap1, Option.bind_some]
    exact ⟨_, rfl, RD_leaf (Nat.le_refl _) hi⟩
  | some q =>
    obtain ⟨t, r⟩ := q
    obtain ⟨hlt, rfl⟩ := tkK_drop h1
    simp only [rtakes n (show i + 1 ≤ 1000 by omega), Option.bind_some]
    cases h2 : tk [105, 110] (all.drop (i + 1)) with
    | some r1 =>
      obtain ⟨hlt1, rfl⟩ := tk_drop h2
      simp only [cond_true, rmust n (show i + 1 + 1 ≤ 1000 by omega), Option.bind_some]
      obtain ⟨n', hn'⟩ : ∃ j, n = j + 1 := ⟨n - 1, by omega⟩
      cases h3 : tk [40] (all.drop (i + 1 + 1)) with
      | none =>
        simp only [rvalB, Option.bind_some, ap1]
        have e := vd_endB n n' false all (i + 1 + 1) [⟨[], false, 0, []⟩]
        rw [← hn'] at e
        rw [show (mkP all (i + 1 + 1) true).L = all.map toR from rfl, show (mkP all (i + 1 + 1) true).At = ((i + 1 + 1 : Nat) : Int) from rfl, show (mkP all (i + 1 + 1) true).Bad = true from rfl, e, Option.bind_some]
        rw [show tref06P.mk (all.map toR) ((i + 1 + 1 : Nat) : Int) true = mkP all (i + 1 + 1) true from rfl, rmustB, Option.bind_some]
        exact ⟨_, rfl, RD_leaf (by omega) (by omega)⟩
      | some r2 =>
        obtain ⟨hlt2, rfl⟩ := tk_drop h3
        simp only [rval n (show i + 1 + 1 + 1 ≤ 1000 by omega), Option.bind_some]
        cases h4 : tkK [3, 4] (all.drop (i + 1 + 1 + 1)) with
        | none =>
          simp only [Option.bind_some, ap1]
          have e := vd_endB n n' false all (i + 1 + 1 + 1) [⟨[], false, 0, []⟩]
          rw [← hn'] at e
          rw [show (mkP all (i + 1 + 1 + 1) true).L = all.map toR from rfl, show (mkP all (i + 1 + 1 + 1) true).At = ((i + 1 + 1 + 1 : Nat) : Int) from rfl, show (mkP all (i + 1 + 1 + 1) true).Bad = true from rfl, e, Option.bind_some]
          rw [show tref06P.mk (all.map toR) ((i + 1 + 1 + 1 : Nat) : Int) true = mkP all (i + 1 + 1 + 1) true from rfl, rmustB, Option.bind_some]
          exact ⟨_, rfl, RD_leaf (by omega) (by omega)⟩
        | some q =>
          obtain ⟨v, r3⟩ := q
          obtain ⟨hlt3, rfl⟩ := tkK_drop h4
          simp only [Option.bind_some, ap1]
          obtain ⟨l', i', b, e1, e2, e3, e4⟩ := vdloop_ok (n := n) hall ((all.drop (i + 1 + 1 + 1 + 1)).length + 1) (i + 1 + 1 + 1 + 1) [valT v] n (by simp; omega) (by omega) (by simp) (by simp; omega) (by simp; omega)
          rw [show (mkP all (i + 1 + 1 + 1 + 1) false).L = all.map toR from rfl, show (mkP all (i + 1 + 1 + 1 + 1) false).At = ((i + 1 + 1 + 1 + 1 : Nat) : Int) from rfl, show (mkP all (i + 1 + 1 + 1 + 1) false).Bad = false from rfl]
          rw [show hT [valT v] = (valT v).Text from rfl] at e1
          rw [e1, Option.bind_some]
          rw [show tref06P.mk (all.map toR) (i' : Int) b = mkP all i' b from rfl]
          cases h5 : pV ((all.drop (i + 1 + 1 + 1 + 1)).length + 1) [valT v] (all.drop (i + 1 + 1 + 1 + 1)) with
          | none =>
            rw [h5] at e4
            obtain rfl : b = true := e4
            simp only [rmustB, Option.bind_some]
            exact ⟨_, rfl, RD_leaf (by omega) (by omega)⟩
          | some q =>
            obtain ⟨vs, r4⟩ := q
            rw [h5] at e4
            obtain ⟨rfl, rfl, rfl⟩ := e4
            simp only [rmust n (show i' ≤ 1000 by omega), Option.bind_some]
            cases h6 : tk [41] (all.drop i') with
            | none => exact ⟨_, rfl, RD_leaf (by omega) (by omega)⟩
            | some r5 =>
              obtain ⟨hlt5, rfl⟩ := tk_drop h6
              exact ⟨_, rfl, RD_leaf' (by omega) (by omega) rfl⟩
    | none =>
      simp only [cond_false, rtakes n (show i + 1 ≤ 1000 by omega), Option.bind_some]
      cases h3 : tk [94, 61] (all.drop (i + 1)) with
      | some r1 =>
        obtain ⟨hlt1, rfl⟩ := tk_drop h3
        simp only [cond_true, rval n (show i + 1 + 1 ≤ 1000 by omega), Option.bind_some]
        have h34 : tkK [4] (all.drop (i + 1 + 1)) = (match tkK [3, 4] (all.drop (i + 1 + 1)) with | some (v, r) => if (valT v).Text then some (v, r) else none | none => none) := by
          cases all.drop (i + 1 + 1) with
          | nil => rfl
          | cons v l =>
            simp only [tkK, valT]
            have ha : ([4] : List Int).contains v.Kind = (v.Kind == 4) := by simp only [List.contains, List.elem]; cases v.Kind == 4 <;> rfl
            have hb := c34 v.Kind
            rw [ha, hb]
            cases h4 : v.Kind == 4 with
            | true => simp [h4]
            | false => cases v.Kind == 3 <;> simp [h4]
        rw [h34]
        cases h4 : tkK [3, 4] (all.drop (i + 1 + 1)) with
        | none =>
          simp only [Option.bind_some, ap1]
          rw [show (mkP all (i + 1 + 1) true).Bad = true from rfl, cond_true, Option.bind_some]
          exact ⟨_, rfl, RD_leaf (i' := i + 1 + 1) (by omega) (by omega)⟩
        | some q =>
          obtain ⟨v, r2⟩ := q
          obtain ⟨hlt2, rfl⟩ := tkK_drop h4
          simp only [Option.bind_some, ap1]
          rw [show (mkP all (i + 1 + 1 + 1) false).Bad = false from rfl, cond_false, Option.bind_some]
          cases (valT v).Text with
          | true => exact ⟨_, rfl, RD_leaf' (i' := i + 1 + 1 + 1) (by omega) (by omega) rfl⟩
          | false => exact ⟨_, rfl, RD_leaf (i' := i + 1 + 1 + 1) (by omega) (by omega)⟩
      | none =>
        simp only [cond_false, rtoken n (show i + 1 ≤ 1000 by omega) 5 5 [5] c55 (by decide) (by decide), Option.bind_some]
        cases h4 : tkK [5] (all.drop (i + 1)) with
        | none =>
          simp only [Option.bind_some]
          rw [show (mkP all (i + 1) true).Bad = true from rfl, cond_true, Option.bind_some, show tref06P.mk (mkP all (i + 1) true).L (mkP all (i + 1) true).At true = mkP all (i + 1) true from rfl, rvalB, Option.bind_some, ap1, Option.bind_some]
          exact ⟨_, rfl, RD_leaf (by omega) (by omega)⟩
        | some q =>
          obtain ⟨o, r1⟩ := q
          obtain ⟨hlt1, rfl⟩ := tkK_drop h4
          simp only [Option.bind_some, drop_]
          rw [show (mkP all (i + 1 + 1) false).Bad = false from rfl, cond_false, Option.bind_some, show (toR o).S = o.S from rfl]
          cases h5 : opsL.contains o.S with
          | false =>
            rw [show tref06P.mk (mkP all (i + 1 + 1) false).L (mkP all (i + 1 + 1) false).At (!false) = mkP all (i + 1 + 1) true from rfl, rvalB, Option.bind_some, ap1, Option.bind_some]
            exact ⟨_, rfl, RD_leaf (by omega) (by omega)⟩
          | true =>
            rw [show tref06P.mk (mkP all (i + 1 + 1) false).L (mkP all (i + 1 + 1) false).At (!true) = mkP all (i + 1 + 1) false from rfl, rval n (by omega), Option.bind_some]
            simp only [if_true]
            cases h6 : tkK [3, 4] (all.drop (i + 1 + 1)) with
            | none =>
              simp only [ap1, Option.bind_some]
              exact ⟨_, rfl, RD_leaf (by omega) (by omega)⟩
            | some q =>
              obtain ⟨v, r2⟩ := q
              obtain ⟨hlt2, rfl⟩ := tkK_drop h6
              simp only [ap1, Option.bind_some]
              exact ⟨_, rfl, RD_leaf' (by omega) (by omega) rfl⟩
end Go.Proofs.YtaekecbadkcggaaGreatDoor
