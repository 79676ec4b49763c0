/- The texts of a proof, put together by a program of this session's; names are short for the size's sake. -/
import Derived.Test.YtbkomicjhfldmaaGreatDoorM10
namespace Go.Proofs.YtbkomicjhfldmaaGreatDoor
open Go.Pv
set_option maxRecDepth 100000
set_option maxHeartbeats 4000000
set_option linter.unusedSimpArgs false
set_option linter.unusedVariables false
set_option linter.unusedSectionVars false
def fh (fu : Nat) (p v : aZ) : Option (aZ × Bool) := some (⟨W (p.X + v.X), W (p.Y + v.Y)⟩, du p.X p.Y v.X v.Y)
theorem lW {fu : Nat} {p v : aZ} {r : aZ × Bool} (h : fh fu p v = some r) : ai Tryz.prog 97 [.agg (aH p), .agg (aH v)] (· = .tup [.agg (aH r.1), .bool r.2]) := by
 unfold fh at h
 cases h
 exact GI (p := (p.X, p.Y)) (v := (v.X, v.Y))
def jv (fu : Nat) (g1 : aF) (d1 : aZ) : Option (aF × Int) :=
 (fy fu g1).bind fun pF => bif (!pF) then some ((aF.mk (ba.mk 0 0 0 0) []), 1) else (bif ((g1.Poly.length : Int) == 0) then ((fh fu (aZ.mk g1.Rect.X1 g1.Rect.Y1) d1).bind fun ok1 => (fh fu (aZ.mk g1.Rect.X2 g1.Rect.Y2) d1).bind fun fine1 => (bif (!ok1.2) then some true else some (!fine1.2) : Option Bool).bind fun (x1 : Bool) => (bif x1 then some ((aF.mk (ba.mk 0 0 0 0) []), 11) else some ((aF.mk (ba.mk ok1.1.X ok1.1.Y fine1.1.X fine1.1.Y) []), 0))) else ((bm (ε := Int × (List aZ)) (τ := (List aZ) ⊕ (aF × Int)) (fun (((i1, l1)) : Int × (List aZ)) => (bif (decide (i1 < (g1.Poly.length : Int))) then ((gi g1.Poly i1).bind fun ok4 => (fh fu ok4 d1).bind fun ok5 => bif (!ok5.2) then some (Sum.inr (Sum.inr ((aF.mk (ba.mk 0 0 0 0) []), 11))) else ((ap l1 [ok5.1]).bind fun l4 => some (Sum.inl (W (i1 + 1), l4)))) else some (Sum.inr (Sum.inl l1)))) fu (0, [])).bind fun o => kS o fun (l3 : List aZ) => some ((aF.mk (ba.mk 0 0 0 0) l3), 0)))
section
attribute [local irreducible] cg aM DP ai aP Decidable.decide
theorem uF {fu : Nat} {g1 : aF} {d1 : aZ} {r : aF × Int} (h : jv fu g1 d1 = some r) : ai Tryz.prog 58 [.agg [.int .i64 g1.Rect.X1, .int .i64 g1.Rect.Y1, .int .i64 g1.Rect.X2, .int .i64 g1.Rect.Y2, .sl (g1.Poly.map aH)], .agg [.int .i64 d1.X, .int .i64 d1.Y]] (· = .tup [.agg [.int .i64 r.1.Rect.X1, .int .i64 r.1.Rect.Y1, .int .i64 r.1.Rect.X2, .int .i64 r.1.Rect.Y2, .sl (r.1.Poly.map aH)], .int .i64 r.2]) := by
 rw [jv] at h
 refine cf Tryz.func58 ?_
 refine ag (rb Z Z (rb Z Z (ra Z Z Z (rv Z Z (rn (ag (rv Z Z (bx h fun pF hx1 h_1 => bt Z Z Z (mE hx1) (rv Z Z (rn (aS (ag (rg 2 rfl (rn (bw rfl h_1 (fun h_2 => ?_) fun h_2 => ?_)))))))))))))))
 ·clear h h_1
  exact ag (rv Z Z (rs Z Z Z Z Z Z Z (rv Z Z (rn (aT (si h_2 ▸ rF))))))
 clear h h_1
 refine aK (aS (ag (rg 3 rfl (rt ((lM aH g1.Poly)) (rv Z Z (rn (bw rfl h_2 (fun h_3 => ?_) fun h_3 => ?_)))))))
 ·clear h_2
  refine ag (rg 8 rfl (bx h_3 fun ok1 hx2 h_4 => bt Z Z Z (lW hx2) (rg 3 rfl (ra Z Z Z (rs Z Z Z Z Z Z Z (rv Z Z (rn (ag (rg 8 rfl (bx h_4 fun fine1 hx3 h_5 => bt Z Z Z (lW hx3) (rg 3 rfl (ra Z Z Z (rs Z Z Z Z Z Z Z (rv Z Z (rn (aS (aS (bx h_5 fun o4 ho5 h_6 => aq (fun x => x = o4) (fun (x1 : Bool) => ⟨[(4, .ptr 0 0), (7, .ptr 1 0), (9, .ptr 2 0), (53, .bool x1)], [(0, 0, .int .i64 0), (0, 1, .int .i64 0), (0, 2, .int .i64 0), (0, 3, .int .i64 0), (0, 4, .nilS), (1, 0, .int .i64 ok1.1.X), (1, 1, .int .i64 ok1.1.Y), (2, 0, .int .i64 fine1.1.X), (2, 1, .int .i64 fine1.1.Y)], [], 3⟩) ?_ ?_))))))))))))))))))
  ·clear h_3 h_4 h_5
   refine aR (rg 3 rfl (eN Z Z Z Z Z ho5 (fun ho5_1 => ?_) fun ho5_1 => ?_))
   ·clear ho5
    exact rg 3 rfl (rn (si ho5_1 ▸ cN [2,3,4]))
   clear ho5
   exact rg 2 rfl (rn (si ho5_1 ▸ cN [2,3,4]))
  clear h_3 h_4 h_5
  rintro x1 rfl
  refine ch (bw rfl h_6 (fun h_7 => ?_) fun h_7 => ?_)
  ·clear h_6
   exact ag (rv Z Z (rs Z Z Z Z Z Z Z (rv Z Z (rn (aT (si h_7 ▸ rF))))))
  clear h_6
  exact aK (ag (rg 10 rfl (rs Z Z Z Z Z Z Z (rv Z Z (rn (aT (si h_7 ▸ rF)))))))
 clear h_2
 refine aK (ag (ra Z Z Z (rn (aS (ag (rv Z Z (rn (aQ (fun _ _ _ _ _ hi => iX false 2 3 4 rfl hi) (bx h_3 fun e6 hl7 h_4 => aq (fun x => Sum.inl x = e6) (fun (l3 : List aZ) => ⟨[(4, .ptr 0 0), (11, .ptr 1 0)], [(0, 0, .int .i64 0), (0, 1, .int .i64 0), (0, 2, .int .i64 0), (0, 3, .int .i64 0), (0, 4, .nilS), (1, 0, .int .i64 0), (1, 1, .int .i64 0), (1, 2, .int .i64 0), (1, 3, .int .i64 0), (1, 4, .own 2)], [(2, .row 2 (l3.map aH))], 3⟩) ?_ ?_)))))))))
 ·clear h_3
  refine aB (be hl7 (fun (((i1, l1)) : Int × (List aZ)) => ⟨[(2, .ptr 0 0), (3, .ptr 1 0), (4, .ptr 2 0), (11, .ptr 3 0), (12, .int .i64 i1)], [(0, 0, .int .i64 g1.Rect.X1), (0, 1, .int .i64 g1.Rect.Y1), (0, 2, .int .i64 g1.Rect.X2), (0, 3, .int .i64 g1.Rect.Y2), (0, 4, .sl (g1.Poly.map aH)), (1, 0, .int .i64 d1.X), (1, 1, .int .i64 d1.Y), (2, 0, .int .i64 0), (2, 1, .int .i64 0), (2, 2, .int .i64 0), (2, 3, .int .i64 0), (2, 4, .nilS), (3, 0, .int .i64 0), (3, 1, .int .i64 0), (3, 2, .int .i64 0), (3, 3, .int .i64 0), (3, 4, .own 4)], [(4, .row 2 (l1.map aH))], 5⟩) [0,1,2,3,4] rfl zs ?_)
  intro v o10 ho8 hE9
  obtain ⟨i1, l1⟩ := v
  refine ch (aS (ag (rg 4 rfl (rt ((lM aH g1.Poly)) (rv Z Z (rn (bw rfl ho8 (fun ho8_1 => ?_) fun ho8_1 => ?_)))))))
  ·clear ho8
   refine aK (aS (aB (aS (Eu 12 [] Tryz.mix (xv [] Z Z (fun _ => rfl) (xv [0] Z Z (fun _ => rfl) (xv [] Z Z (fun _ => rfl) (bx ho8_1 fun ok4 hx13 ho8_2 => xV [] Z Z (fun _ => Dl Z Z Z Z Z (iF hx13) (kG aH hx13) (wM (fun _ => by rfl) _)) ?_))))))))
   refine xv [] Z Z (fun _ => rfl) (xv [1] Z Z (fun _ => rfl) (bx ho8_2 fun ok5 hx14 ho8_3 => xc [] Z Z Z (fun _ => rfl) (fun _ => (lW hx14)) (xv [] Z Z (fun _ => rfl) (xv [] Z Z (fun _ => rfl) (xv [] Z Z (fun _ => rfl) ?_)))))
   refine xE [] (.ptr 5 0) 6 _ _ Z Z (by
     refine ra Z Z Z ?_
     exact rn ⟨rfl, rfl⟩) (by rfl) (by rfl) (by rfl) ?_
   refine xE [5] .any 6 _ _ Z Z (by
     refine rs Z Z Z Z Z Z Z ?_
     exact rn ⟨rfl, rfl⟩) (by rfl) (by rfl) (by rfl) ?_
   refine xn (by kernel_rfl) (rv Z Z (rn (aS (ag (rg 2 rfl (rn (bw rfl ho8_3 (fun ho8_4 => ?_) fun ho8_4 => ?_)))))))
   ·clear ho8_1 ho8_2 ho8_3
    refine ag (rv Z Z (rs Z Z Z Z Z Z Z (rv Z Z (rn (aT ?_)))))
    cases ho8_4
    have hq := hE9 _ rfl
    subst hq
    have h_5 := n8 h_4
    subst h_5
    exact rF
   clear ho8_1 ho8_2 ho8_3
   refine aK (aR (rg 3 rfl (mz false Z Z Z Z Z Z Z Z Z Z (bx ho8_4 fun l4 hx15 ho8_5 => pu false (z := 2) (xs := l1.map aH) (ys := [ok5.1].map aH) Z Z Z Z Z Z Z (.own Z Z) (.sl Z Z Z) (wM (fun _ => by rfl) _) (oM (fun _ => by rfl) _) (wA aH rfl hx15) rfl ?_))))
   exact rk (congrArg (Kind.row _) (wR aH hx15)) (rv Z Z (rs Z Z Z Z Z Z Z (rn (ah (aR (rg 3 rfl (rn (si ho8_5 ▸ lN [0,1,2,3,7]))))))))
  clear ho8
  refine aW (xX ?_)
  cases ho8_1
  have hq := hE9 _ rfl
  subst hq
  exact cN [2,3,4]
 clear h_3
 rintro l3 rfl
 have h_5 := ry h_4
 exact ag (rv Z Z (rs Z Z Z Z Z Z Z (rv Z Z (rn (aT (si h_5 ▸ rF))))))
end
structure aD where
 Shift : Int
 Most : Int
 L : List bf
 Ids : List Int
 Last : List Int
def er (fu : Nat) (t1 : aD) (id1 : Int) : Option (Int × aD) :=
 (bm (ε := Int) (τ := Unit ⊕ (Int × aD)) (fun (i1 : Int) => (bif (decide (i1 < (t1.Ids.length : Int))) then ((gi t1.Ids i1).bind fun x1 => bif (x1 == id1) then ((gi t1.Last i1).bind fun x2 => some (Sum.inr (Sum.inr (x2, t1)))) else some (Sum.inl (W (i1 + 1)))) else some (Sum.inr (Sum.inl ())))) fu 0).bind fun o => kS o fun (_ : Unit) => some (0, t1)
section
attribute [local irreducible] cg aM DP ai aP Decidable.decide
theorem n9 {fu : Nat} {t1 : aD} {id1 : Int} {r : Int × aD} (h : er fu t1 id1 = some r) : aP Tryz.prog 55 4 [.ptr 0 0, .int .i64 id1] [(0, 0, .int .i64 t1.Shift), (0, 1, .int .i64 t1.Most), (0, 2, .own 1), (0, 3, .own 2), (0, 4, .own 3)] [(1, .row 12 (t1.L.map aU)), (2, .row 1 (t1.Ids.map (cI .i64))), (3, .wr 1 (t1.Last.map (cI .i64)))] (fun r_ H_ O_ n_ => r_ = .int .i64 r.1 ∧ H_ = [(0, 0, .int .i64 r.2.Shift), (0, 1, .int .i64 r.2.Most), (0, 2, .own 4), (0, 3, .own 5), (0, 4, .own 6)] ∧ O_ = [(4, .row 12 (r.2.L.map aU)), (5, .row 1 (r.2.Ids.map (cI .i64))), (6, .wr 1 (r.2.Last.map (cI .i64)))] ∧ n_ = 7) := by
 rw [er] at h
 refine nO Tryz.func55 ?_
 refine aQ (fun _ _ _ _ _ hi => bZ (wr := false) 0 2 1 Z Z hi) (aQ (fun _ _ _ _ _ hi => bZ (wr := false) 0 3 2 Z Z hi) (aQ (fun _ _ _ _ _ hi => bZ (wr := true) 0 4 3 Z Z hi) (ag (rv Z Z (rn (aS (ag (rv Z Z (rn (bx h fun e1 hl2 h_1 => aq (fun x => Sum.inl x = e1) (fun (_ : Unit) => ⟨[], [(0, 0, .int .i64 t1.Shift), (0, 1, .int .i64 t1.Most), (0, 2, .own 4), (0, 3, .own 5), (0, 4, .own 6)], [(4, .row 12 (t1.L.map aU)), (5, .row 1 (t1.Ids.map (cI .i64))), (6, .wr 1 (t1.Last.map (cI .i64)))], 7⟩) ?_ ?_))))))))))
 ·clear h
  refine aB (be hl2 (fun (i1 : Int) => ⟨[(0, .ptr 0 0), (1, .int .i64 id1), (5, .int .i64 i1)], [(0, 0, .int .i64 t1.Shift), (0, 1, .int .i64 t1.Most), (0, 2, .own 4), (0, 3, .own 5), (0, 4, .own 6)], [(4, .row 12 (t1.L.map aU)), (5, .row 1 (t1.Ids.map (cI .i64))), (6, .wr 1 (t1.Last.map (cI .i64)))], 7⟩) [0,1,2,3,4,5,6] rfl zs ?_)
  intro i1 o5 ho3 hE4
  refine ch (aS (ag (rg 6 rfl (rt ((lM (cI .i64) t1.Ids)) (rv Z Z (rn (bw rfl ho3 (fun ho3_1 => ?_) fun ho3_1 => ?_)))))))
  ·clear ho3
   refine aK (aS (aB (ag (rg 5 rfl (bx ho3_1 fun x1 hx6 ho3_2 => ri Z Z Z Z Z Z (iF hx6) (kG (cI .i64) hx6) (wM (fun _ => by rfl) _) ?_)))))
   refine rg 3 rfl (rn (bw rfl ho3_2 (fun ho3_3 => ?_) fun ho3_3 => ?_))
   ·clear ho3_1 ho3_2
    refine ag (rg 5 rfl (bx ho3_3 fun x2 hx7 ho3_4 => rV rfl (s8 Z Z Z Z Z Z Z (iF hx7) (Gu (cI .i64) hx7)) (rV rfl (Da Z Z Z (kG (cI .i64) hx7) Z Z) (rv Z Z (rn (aT ?_))))))
    cases ho3_4
    have hq := hE4 _ rfl
    subst hq
    have h_2 := n8 h_1
    subst h_2
    refine rW ?_
    exact rA [0,1,2,3,4,5,6]
   clear ho3_1 ho3_2
   exact aK (ah (aR (rg 3 rfl (rn (si ho3_3 ▸ lN [0,1,2,3,4,5,6])))))
  clear ho3
  refine aW (xX ?_)
  cases ho3_1
  have hq := hE4 _ rfl
  subst hq
  exact cN [0,1,2,3,4,5,6]
 clear h
 rintro _ rfl
 have h_2 := ry h_1
 refine ag (rv Z Z (rn (aT ?_)))
 obtain rfl := si h_2
 refine rW ?_
 exact rA [0,1,2,3,4,5,6]
def cX (fu : Nat) (t1 : aD) (id1 : Int) (version1 : Int) : Option aD :=
 (bm (ε := Int) (τ := Unit ⊕ aD) (fun (i1 : Int) => (bif (decide (i1 < (t1.Ids.length : Int))) then ((gi t1.Ids i1).bind fun x1 => bif (x1 == id1) then ((gi t1.Last i1).bind fun x2 => (C9 t1.Last i1 version1).bind fun l1 => some (Sum.inr (Sum.inr (aD.mk t1.Shift t1.Most t1.L t1.Ids l1)))) else some (Sum.inl (W (i1 + 1)))) else some (Sum.inr (Sum.inl ())))) fu 0).bind fun o => kS o fun (_ : Unit) => ((ap t1.Ids [id1]).bind fun l2 => (ap t1.Last [version1]).bind fun l3 => some (aD.mk t1.Shift t1.Most t1.L l2 l3))
theorem gD {fu : Nat} {t1 : aD} {id1 : Int} {version1 : Int} {r : aD} (h : cX fu t1 id1 version1 = some r) : aP Tryz.prog 56 4 [.ptr 0 0, .int .i64 id1, .int .i64 version1] [(0, 0, .int .i64 t1.Shift), (0, 1, .int .i64 t1.Most), (0, 2, .own 1), (0, 3, .own 2), (0, 4, .own 3)] [(1, .row 12 (t1.L.map aU)), (2, .row 1 (t1.Ids.map (cI .i64))), (3, .wr 1 (t1.Last.map (cI .i64)))] (fun r_ H_ O_ n_ => r_ = .tup [] ∧ H_ = [(0, 0, .int .i64 r.Shift), (0, 1, .int .i64 r.Most), (0, 2, .own 4), (0, 3, .own 5), (0, 4, .own 6)] ∧ O_ = [(4, .row 12 (r.L.map aU)), (5, .row 1 (r.Ids.map (cI .i64))), (6, .wr 1 (r.Last.map (cI .i64)))] ∧ n_ = 7) := by
 rw [cX] at h
 refine nO Tryz.func56 ?_
 refine aQ (fun _ _ _ _ _ hi => bZ (wr := false) 0 2 1 Z Z hi) (aQ (fun _ _ _ _ _ hi => bZ (wr := false) 0 3 2 Z Z hi) (aQ (fun _ _ _ _ _ hi => bZ (wr := true) 0 4 3 Z Z hi) (aS (ag (rv Z Z (rn (bx h fun e1 hl2 h_1 => aq (fun x => Sum.inl x = e1) (fun (_ : Unit) => ⟨[(0, .ptr 0 0), (1, .int .i64 id1), (2, .int .i64 version1)], [(0, 0, .int .i64 t1.Shift), (0, 1, .int .i64 t1.Most), (0, 2, .own 4), (0, 3, .own 5), (0, 4, .own 6)], [(4, .row 12 (t1.L.map aU)), (5, .row 1 (t1.Ids.map (cI .i64))), (6, .wr 1 (t1.Last.map (cI .i64)))], 7⟩) ?_ ?_)))))))
 ·clear h
  refine aB (be hl2 (fun (i1 : Int) => ⟨[(0, .ptr 0 0), (1, .int .i64 id1), (2, .int .i64 version1), (6, .int .i64 i1)], [(0, 0, .int .i64 t1.Shift), (0, 1, .int .i64 t1.Most), (0, 2, .own 4), (0, 3, .own 5), (0, 4, .own 6)], [(4, .row 12 (t1.L.map aU)), (5, .row 1 (t1.Ids.map (cI .i64))), (6, .wr 1 (t1.Last.map (cI .i64)))], 7⟩) [0,1,2,3,4,5,6] rfl zs ?_)
  intro i1 o5 ho3 hE4
  refine ch (aS (ag (rg 6 rfl (rt ((lM (cI .i64) t1.Ids)) (rv Z Z (rn (bw rfl ho3 (fun ho3_1 => ?_) fun ho3_1 => ?_)))))))
  ·clear ho3
   refine aK (aS (aB (ag (rg 5 rfl (bx ho3_1 fun x1 hx6 ho3_2 => ri Z Z Z Z Z Z (iF hx6) (kG (cI .i64) hx6) (wM (fun _ => by rfl) _) ?_)))))
   refine rg 3 rfl (rn (bw rfl ho3_2 (fun ho3_3 => ?_) fun ho3_3 => ?_))
   ·clear ho3_1 ho3_2
    refine ag (rg 6 rfl (bx ho3_3 fun x2 hx7 ho3_4 => rV rfl (s8 Z Z Z Z Z Z Z (iF hx7) (Gu (cI .i64) hx7)) (bx ho3_4 fun l1 hx8 ho3_5 => ?_)))
    obtain ⟨o1, ho9⟩ := JE hx8
    refine JI Z Z Z (kG (cI .i64) ho9) Z Z Z Z Z (rk (congrArg (Kind.wr _) (JH (cI .i64) hx8)) (rn (aT ?_)))
    cases ho3_5
    have hq := hE4 _ rfl
    subst hq
    have h_2 := n8 h_1
    subst h_2
    refine rW ?_
    exact rA [0,1,2,3,4,5,6]
   clear ho3_1 ho3_2
   exact aK (ah (aR (rg 3 rfl (rn (si ho3_3 ▸ lN [0,1,2,3,4,5,6])))))
  clear ho3
  refine aW (xX ?_)
  cases ho3_1
  have hq := hE4 _ rfl
  subst hq
  exact cN [0,1,2,3,4,5,6]
 clear h
 rintro _ rfl
 have h_2 := ry h_1
 refine ch (ag (rg 6 rfl (mz false Z Z Z Z Z Z Z Z Z Z (bx h_2 fun l2 hx10 h_3 => pu false (z := 1) (xs := t1.Ids.map (cI .i64)) (ys := [id1].map (cI .i64)) Z Z Z Z Z Z Z (.own Z Z) (.sl Z Z Z) (wM (fun _ => by rfl) _) (oM (fun _ => by rfl) _) (wA (cI .i64) rfl hx10) rfl ?_))))
 refine rk (congrArg (Kind.row _) (wR (cI .i64) hx10)) (rg 2 rfl (rs Z Z Z Z Z Z Z (rn (aR (rg 6 rfl (mz false Z Z Z Z Z Z Z Z Z Z (bx h_3 fun l3 hx11 h_4 => pu true (z := 1) (xs := t1.Last.map (cI .i64)) (ys := [version1].map (cI .i64)) Z Z Z Z Z Z Z (.own Z Z) (.sl Z Z Z) (wM (fun _ => by rfl) _) (oM (fun _ => by rfl) _) (wA (cI .i64) rfl hx11) rfl ?_)))))))
 refine rk (congrArg (Kind.wr _) (wR (cI .i64) hx11)) (rg 2 rfl (rs Z Z Z Z Z Z Z (rn ?_)))
 obtain rfl := si h_4
 exact Il [0,1,2,3,4,8,10]
def bS (fu : Nat) (t1 : aD) (id1 : Int) : Option (Int × aD) :=
 (bm (ε := Int) (τ := Unit ⊕ (Int × aD)) (fun (i1 : Int) => (bif (decide (i1 < (t1.L.length : Int))) then ((gi t1.L i1).bind fun x1 => bif (x1.Id == id1) then some (Sum.inr (Sum.inr (i1, t1))) else some (Sum.inl (W (i1 + 1)))) else some (Sum.inr (Sum.inl ())))) fu 0).bind fun o => kS o fun (_ : Unit) => some ((-1), t1)
theorem dS {fu : Nat} {t1 : aD} {id1 : Int} {r : Int × aD} (h : bS fu t1 id1 = some r) : aP Tryz.prog 28 4 [.ptr 0 0, .int .i64 id1] [(0, 0, .int .i64 t1.Shift), (0, 1, .int .i64 t1.Most), (0, 2, .own 1), (0, 3, .own 2), (0, 4, .own 3)] [(1, .row 12 (t1.L.map aU)), (2, .row 1 (t1.Ids.map (cI .i64))), (3, .wr 1 (t1.Last.map (cI .i64)))] (fun r_ H_ O_ n_ => r_ = .int .i64 r.1 ∧ H_ = [(0, 0, .int .i64 r.2.Shift), (0, 1, .int .i64 r.2.Most), (0, 2, .own 4), (0, 3, .own 5), (0, 4, .own 6)] ∧ O_ = [(4, .row 12 (r.2.L.map aU)), (5, .row 1 (r.2.Ids.map (cI .i64))), (6, .wr 1 (r.2.Last.map (cI .i64)))] ∧ n_ = 7) := by
 rw [bS] at h
 refine nO Tryz.func28 ?_
 refine aQ (fun _ _ _ _ _ hi => bZ (wr := false) 0 2 1 Z Z hi) (aQ (fun _ _ _ _ _ hi => bZ (wr := false) 0 3 2 Z Z hi) (aQ (fun _ _ _ _ _ hi => bZ (wr := true) 0 4 3 Z Z hi) (ag (rv Z Z (rn (aS (ag (rv Z Z (rn (bx h fun e1 hl2 h_1 => aq (fun x => Sum.inl x = e1) (fun (_ : Unit) => ⟨[], [(0, 0, .int .i64 t1.Shift), (0, 1, .int .i64 t1.Most), (0, 2, .own 4), (0, 3, .own 5), (0, 4, .own 6)], [(4, .row 12 (t1.L.map aU)), (5, .row 1 (t1.Ids.map (cI .i64))), (6, .wr 1 (t1.Last.map (cI .i64)))], 7⟩) ?_ ?_))))))))))
 ·clear h
  refine aB (be hl2 (fun (i1 : Int) => ⟨[(0, .ptr 0 0), (1, .int .i64 id1), (5, .int .i64 i1)], [(0, 0, .int .i64 t1.Shift), (0, 1, .int .i64 t1.Most), (0, 2, .own 4), (0, 3, .own 5), (0, 4, .own 6)], [(4, .row 12 (t1.L.map aU)), (5, .row 1 (t1.Ids.map (cI .i64))), (6, .wr 1 (t1.Last.map (cI .i64)))], 7⟩) [0,1,2,3,4,5,6] rfl zs ?_)
  intro i1 o5 ho3 hE4
  refine ch (aS (ag (rg 6 rfl (rt ((lM aU t1.L)) (rv Z Z (rn (bw rfl ho3 (fun ho3_1 => ?_) fun ho3_1 => ?_)))))))
  ·clear ho3
   refine aK (aS (aB (ag (rg 5 rfl (bx ho3_1 fun x1 hx6 ho3_2 => ri Z Z Z Z Z Z (iF hx6) (kG aU hx6) (wM (fun _ => by rfl) _) ?_)))))
   refine rg 4 rfl (rn (bw rfl ho3_2 (fun ho3_3 => ?_) fun ho3_3 => ?_))
   ·clear ho3_1 ho3_2
    refine ag (rg 2 rfl (rn (aT ?_)))
    cases ho3_3
    have hq := hE4 _ rfl
    subst hq
    have h_2 := n8 h_1
    subst h_2
    refine rW ?_
    exact rA [0,1,2,3,4,5,6]
   clear ho3_1 ho3_2
   exact aK (ah (aR (rg 3 rfl (rn (si ho3_3 ▸ lN [0,1,2,3,4,5,6])))))
  clear ho3
  refine aW (xX ?_)
  cases ho3_1
  have hq := hE4 _ rfl
  subst hq
  exact cN [0,1,2,3,4,5,6]
 clear h
 rintro _ rfl
 have h_2 := ry h_1
 refine ag (rv Z Z (rn (aT ?_)))
 obtain rfl := si h_2
 refine rW ?_
 exact rA [0,1,2,3,4,5,6]
def eZ (fu : Nat) (t1 : aD) (id1 : Int) (g1 : aF) (f1 : aY) : Option (bf × Int × aD) :=
 (fy fu g1).bind fun pF => (bif (decide (id1 < 0)) then some true else (bif (decide (id1 > 2147483647)) then some true else some (!pF)) : Option Bool).bind fun (x1 : Bool) => (bif x1 then some ((bf.mk 0 0 (aF.mk (ba.mk 0 0 0 0) []) [] (ba.mk 0 0 0 0)), 1, t1) else ((dG fu f1).bind fun bad1 => match bad1 with | (.mk kind1 name1 op1 vals1 l1, bad2) => bif (bad2 != 0) then some ((bf.mk 0 0 (aF.mk (ba.mk 0 0 0 0) []) [] (ba.mk 0 0 0 0)), bad2, t1) else ((bS fu t1 id1).bind fun x2 => bif (decide (x2.1 ≥ 0)) then some ((bf.mk 0 0 (aF.mk (ba.mk 0 0 0 0) []) [] (ba.mk 0 0 0 0)), 10, x2.2) else ((er fu x2.2 id1).bind fun v1 => (bif (decide ((v1.2.L.length : Int) ≥ v1.2.Most)) then some true else some (decide (v1.1 > 2147483645)) : Option Bool).bind fun (x3 : Bool) => (bif x3 then some ((bf.mk 0 0 (aF.mk (ba.mk 0 0 0 0) []) [] (ba.mk 0 0 0 0)), 8, v1.2) else ((cX fu v1.2 id1 (W (v1.1 + 1))).bind fun x4 => (gk fu x4.Shift g1).bind fun x5 => (bm (ε := Int) (τ := Int) (fun (at1 : Int) => ((bif (decide (at1 < (x4.L.length : Int))) then ((gi x4.L at1).bind fun x7 => some (decide (x7.Id < id1))) else some false : Option Bool).bind fun (x6 : Bool) => (bif x6 then some (Sum.inl (W (at1 + 1))) else some (Sum.inr at1)))) fu 0).bind fun (at3 : Int) => ((kC x4.L 0 at3).bind fun l2 => (ap [] l2).bind fun next1 => (ap next1 [(bf.mk id1 (W (v1.1 + 1)) g1 f1 x5)]).bind fun next2 => (kC x4.L at3 (x4.L.length : Int)).bind fun l3 => (ap next2 l3).bind fun l4 => some ((bf.mk id1 (W (v1.1 + 1)) g1 f1 x5), 0, (aD.mk x4.Shift x4.Most l4 x4.Ids x4.Last)))))))))
theorem oU {fu : Nat} {t1 : aD} {id1 : Int} {g1 : aF} {f1 : aY} {r : bf × Int × aD} (h : eZ fu t1 id1 g1 f1 = some r) : aP Tryz.prog 19 4 [.ptr 0 0, .int .i64 id1, .agg [.int .i64 g1.Rect.X1, .int .i64 g1.Rect.Y1, .int .i64 g1.Rect.X2, .int .i64 g1.Rect.Y2, .sl (g1.Poly.map aH)], .str (sB f1)] [(0, 0, .int .i64 t1.Shift), (0, 1, .int .i64 t1.Most), (0, 2, .own 1), (0, 3, .own 2), (0, 4, .own 3)] [(1, .row 12 (t1.L.map aU)), (2, .row 1 (t1.Ids.map (cI .i64))), (3, .wr 1 (t1.Last.map (cI .i64)))] (fun r_ H_ O_ n_ => r_ = .tup [.agg [.int .i64 r.1.Id, .int .i64 r.1.Version, .int .i64 r.1.Region.Rect.X1, .int .i64 r.1.Region.Rect.Y1, .int .i64 r.1.Region.Rect.X2, .int .i64 r.1.Region.Rect.Y2, .sl (r.1.Region.Poly.map aH), .str (sB r.1.Filter), .int .i64 r.1.Cover.X1, .int .i64 r.1.Cover.Y1, .int .i64 r.1.Cover.X2, .int .i64 r.1.Cover.Y2], .int .i64 r.2.1] ∧ H_ = [(0, 0, .int .i64 r.2.2.Shift), (0, 1, .int .i64 r.2.2.Most), (0, 2, .own 4), (0, 3, .own 5), (0, 4, .own 6)] ∧ O_ = [(4, .row 12 (r.2.2.L.map aU)), (5, .row 1 (r.2.2.Ids.map (cI .i64))), (6, .wr 1 (r.2.2.Last.map (cI .i64)))] ∧ n_ = 7) := by
 rw [eZ] at h
 refine nO Tryz.func19 ?_
 refine aQ (fun _ _ _ _ _ hi => bZ (wr := false) 0 2 1 Z Z hi) (aQ (fun _ _ _ _ _ hi => bZ (wr := false) 0 3 2 Z Z hi) (aQ (fun _ _ _ _ _ hi => bZ (wr := true) 0 4 3 Z Z hi) (ag (rb Z Z (ra Z Z Z (rv Z Z (rn (ag (rv Z Z (bx h fun pF hx1 h_1 => bt Z Z Z (mE hx1) (rv Z Z (rn (aS (aS (bx h_1 fun o2 ho3 h_2 => aq (fun x => x = o2) (fun (x1 : Bool) => ⟨[(0, .ptr 0 0), (1, .int .i64 id1), (3, .str (sB f1)), (6, .ptr 4 0), (8, .ptr 5 0), (28, .bool x1)], [(0, 0, .int .i64 t1.Shift), (0, 1, .int .i64 t1.Most), (0, 2, .own 6), (0, 3, .own 7), (0, 4, .own 8), (4, 0, .int .i64 g1.Rect.X1), (4, 1, .int .i64 g1.Rect.Y1), (4, 2, .int .i64 g1.Rect.X2), (4, 3, .int .i64 g1.Rect.Y2), (4, 4, .sl (g1.Poly.map aH)), (5, 0, .int .i64 0), (5, 1, .int .i64 0), (5, 2, .int .i64 0), (5, 3, .int .i64 0), (5, 4, .int .i64 0), (5, 5, .int .i64 0), (5, 6, .nilS), (5, 7, .str (sB [])), (5, 8, .int .i64 0), (5, 9, .int .i64 0), (5, 10, .int .i64 0), (5, 11, .int .i64 0)], [(6, .row 12 (t1.L.map aU)), (7, .row 1 (t1.Ids.map (cI .i64))), (8, .wr 1 (t1.Last.map (cI .i64)))], 9⟩) ?_ ?_)))))))))))))))
 ·clear h h_1
  refine aR (rg 3 rfl (eN Z Z Z Z Z ho3 (fun ho3_1 => ?_) fun ho3_1 => ?_))
  ·clear ho3
   refine rg 4 rfl (eN Z Z Z Z Z ho3_1 (fun ho3_2 => ?_) fun ho3_2 => ?_)
   ·clear ho3_1
    exact rg 3 rfl (rn (si ho3_2 ▸ cN [0,1,2,3,7,8,4,5,6]))
   clear ho3_1
   exact rg 2 rfl (rn (si ho3_2 ▸ cN [0,1,2,3,7,8,4,5,6]))
  clear ho3
  exact rg 6 rfl (rn (si ho3_1 ▸ cN [0,1,2,3,7,8,4,5,6]))
 clear h h_1
 rintro x1 rfl
 refine ch (bw rfl h_2 (fun h_3 => ?_) fun h_3 => ?_)
 ·clear h_2
  refine ag (rv Z Z (rs Z Z Z Z Z Z Z (rv Z Z (rn (aT ?_)))))
  obtain rfl := si h_3
  refine rW ?_
  exact rA [0,1,2,3,6,7,8]
 clear h_2
 refine aK (ag (rv Z Z (bx h_3 fun bad1 hx4 h_4 => ?_)))
 obtain ⟨⟨kind1, name1, op1, vals1, l1⟩, bad2⟩ := bad1
 refine bt Z Z Z (ot hx4) (rg 3 rfl (ra Z Z Z (rs Z Z Z Z Z Z Z (rv Z Z (rn (aS (ag (rg 2 rfl (rn (bw rfl h_4 (fun h_5 => ?_) fun h_5 => ?_))))))))))
 ·clear h_3 h_4
  refine ag (rg 2 rfl (rs Z Z Z Z Z Z Z (rv Z Z (rn (aT ?_)))))
  obtain rfl := si h_5
  refine rW ?_
  exact rA [0,1,2,3,6,7,8]
 clear h_3 h_4
 refine aK (aS (ag (rg 2 rfl (bx h_5 fun x2 hx5 h_6 => rh [0,6,7,8] Z Z (dS hx5) Z Z Z zH zO (eA Z Z Z Z ?_)))))
 refine py (sO (sO (wO (fun _ => rfl) (rfl)))) (rv Z Z (rn (bw rfl h_6 (fun h_7 => ?_) fun h_7 => ?_)))
 ·clear h_5 h_6
  refine ag (rv Z Z (rs Z Z Z Z Z Z Z (rv Z Z (rn (aT ?_)))))
  obtain rfl := si h_7
  refine rW ?_
  exact rA [0,1,2,3,10,11,12]
 clear h_5 h_6
 refine aK (ag (rg 2 rfl (bx h_7 fun v1 hx6 h_8 => rh [0,10,11,12] Z Z (n9 hx6) Z Z Z zH zO (eA Z Z Z Z ?_))))
 refine py (sO (sO (wO (fun _ => rfl) (rfl)))) (rv Z Z (rn (aS (aS (bx h_8 fun o7 ho8 h_9 => aq (fun x => x = o7) (fun (x3 : Bool) => ⟨[(0, .ptr 0 0), (1, .int .i64 id1), (3, .str (sB f1)), (6, .ptr 4 0), (8, .ptr 5 0), (13, .int .i64 v1.1), (60, .bool x3)], [(0, 0, .int .i64 v1.2.Shift), (0, 1, .int .i64 v1.2.Most), (0, 2, .own 6), (0, 3, .own 7), (0, 4, .own 8), (4, 0, .int .i64 g1.Rect.X1), (4, 1, .int .i64 g1.Rect.Y1), (4, 2, .int .i64 g1.Rect.X2), (4, 3, .int .i64 g1.Rect.Y2), (4, 4, .sl (g1.Poly.map aH)), (5, 0, .int .i64 0), (5, 1, .int .i64 0), (5, 2, .int .i64 0), (5, 3, .int .i64 0), (5, 4, .int .i64 0), (5, 5, .int .i64 0), (5, 6, .nilS), (5, 7, .str (sB [])), (5, 8, .int .i64 0), (5, 9, .int .i64 0), (5, 10, .int .i64 0), (5, 11, .int .i64 0)], [(6, .row 12 (v1.2.L.map aU)), (7, .row 1 (v1.2.Ids.map (cI .i64))), (8, .wr 1 (v1.2.Last.map (cI .i64)))], 9⟩) ?_ ?_)))))
 ·clear h_7 h_8
  refine mw 14 Tryz.mix (dv Z Z (fun _ => rfl) (dv Z Z (fun _ => rfl) (dv Z Z (fun _ => rfl) (dv Z Z (fun _ => rfl) (dv Z Z (fun _ => rfl) (dt ((lM aU v1.2.L)) (dv Z Z (fun _ => rfl) (dv Z Z (fun _ => rfl) (dv Z Z (fun _ => rfl) (dv Z Z (fun _ => rfl) (dv Z Z (fun _ => rfl) (dv Z Z (fun _ => rfl) (Ai Z Z ho8 (fun ho8_1 => ?_) fun ho8_1 => ?_)))))))))))))
  ·clear ho8
   exact bB Z Z (bB Z Z (dv Z Z (fun _ => rfl) (dn (rn (si ho8_1 ▸ cN [0,1,2,3,4,5,13,14,15])))))
  clear ho8
  exact dv Z Z (fun _ => rfl) (dv Z Z (fun _ => rfl) (dv Z Z (fun _ => rfl) (dn (rn (si ho8_1 ▸ cN [0,1,2,3,4,5,13,14,15])))))
 clear h_7 h_8
 rintro x3 rfl
 refine ch (bw rfl h_9 (fun h_10 => ?_) fun h_10 => ?_)
 ·clear h_9
  refine ag (rv Z Z (rs Z Z Z Z Z Z Z (rv Z Z (rn (aT ?_)))))
  obtain rfl := si h_10
  refine rW ?_
  exact rA [0,1,2,3,6,7,8]
 clear h_9
 refine aK (ag (rg 4 rfl (bx h_10 fun x4 hx9 h_11 => rh [0,6,7,8] Z Z (gD hx9) Z Z Z zH zO (eA Z Z Z Z ?_))))
 refine py (sO (sO (wO (fun _ => rfl) (rfl)))) (rn (aS (mw 13 Tryz.mix (dv Z Z (fun _ => rfl) (dv Z Z (fun _ => rfl) (dv Z Z (fun _ => rfl) (dv Z Z (fun _ => rfl) (dv Z Z (fun _ => rfl) (dv Z Z (fun _ => rfl) (dv Z Z (fun _ => rfl) (dv Z Z (fun _ => rfl) (dv Z Z (fun _ => rfl) (dv Z Z (fun _ => rfl) (bx h_11 fun x5 hx10 h_12 => dc Z Z Z Z (fun _ => rfl) (fun _ => (nh hx10)) (dv Z Z (fun _ => rfl) (da Z Z Z (dn (rs Z Z Z Z Z Z Z (rn (ag (rv Z Z (rn (aS (bx h_12 fun e11 hl12 h_13 => aq (fun x => x = e11) (fun (at3 : Int) => ⟨[(0, .ptr 0 0), (8, .ptr 4 0), (14, .ptr 5 0), (15, .int .i64 at3)], [(0, 0, .int .i64 x4.Shift), (0, 1, .int .i64 x4.Most), (0, 2, .own 6), (0, 3, .own 7), (0, 4, .own 8), (4, 0, .int .i64 0), (4, 1, .int .i64 0), (4, 2, .int .i64 0), (4, 3, .int .i64 0), (4, 4, .int .i64 0), (4, 5, .int .i64 0), (4, 6, .nilS), (4, 7, .str (sB [])), (4, 8, .int .i64 0), (4, 9, .int .i64 0), (4, 10, .int .i64 0), (4, 11, .int .i64 0), (5, 0, .int .i64 id1), (5, 1, .int .i64 (W (v1.1 + 1))), (5, 2, .int .i64 g1.Rect.X1), (5, 3, .int .i64 g1.Rect.Y1), (5, 4, .int .i64 g1.Rect.X2), (5, 5, .int .i64 g1.Rect.Y2), (5, 6, .sl (g1.Poly.map aH)), (5, 7, .str (sB f1)), (5, 8, .int .i64 x5.X1), (5, 9, .int .i64 x5.Y1), (5, 10, .int .i64 x5.X2), (5, 11, .int .i64 x5.Y2)], [(6, .row 12 (x4.L.map aU)), (7, .row 1 (x4.Ids.map (cI .i64))), (8, .wr 1 (x4.Last.map (cI .i64)))], 9⟩) ?_ ?_))))))))))))))))))))))))
 ·clear h_10 h_11 h_12
  refine aB (be hl12 (fun (at1 : Int) => ⟨[(0, .ptr 0 0), (1, .int .i64 id1), (8, .ptr 4 0), (14, .ptr 5 0), (15, .int .i64 at1)], [(0, 0, .int .i64 x4.Shift), (0, 1, .int .i64 x4.Most), (0, 2, .own 6), (0, 3, .own 7), (0, 4, .own 8), (4, 0, .int .i64 0), (4, 1, .int .i64 0), (4, 2, .int .i64 0), (4, 3, .int .i64 0), (4, 4, .int .i64 0), (4, 5, .int .i64 0), (4, 6, .nilS), (4, 7, .str (sB [])), (4, 8, .int .i64 0), (4, 9, .int .i64 0), (4, 10, .int .i64 0), (4, 11, .int .i64 0), (5, 0, .int .i64 id1), (5, 1, .int .i64 (W (v1.1 + 1))), (5, 2, .int .i64 g1.Rect.X1), (5, 3, .int .i64 g1.Rect.Y1), (5, 4, .int .i64 g1.Rect.X2), (5, 5, .int .i64 g1.Rect.Y2), (5, 6, .sl (g1.Poly.map aH)), (5, 7, .str (sB f1)), (5, 8, .int .i64 x5.X1), (5, 9, .int .i64 x5.Y1), (5, 10, .int .i64 x5.X2), (5, 11, .int .i64 x5.Y2)], [(6, .row 12 (x4.L.map aU)), (7, .row 1 (x4.Ids.map (cI .i64))), (8, .wr 1 (x4.Last.map (cI .i64)))], 9⟩) [0,1,2,3,5,12,9,10,11] rfl zs ?_)
  intro at1 o15 ho13 hE14
  refine ch (aS (aS (bx ho13 fun o16 ho17 ho13_1 => aq (fun x => x = o16) (fun (x6 : Bool) => ⟨[(0, .ptr 0 0), (1, .int .i64 id1), (8, .ptr 4 0), (14, .ptr 5 0), (15, .int .i64 at1), (97, .bool x6)], [(0, 0, .int .i64 x4.Shift), (0, 1, .int .i64 x4.Most), (0, 2, .own 6), (0, 3, .own 7), (0, 4, .own 8), (4, 0, .int .i64 0), (4, 1, .int .i64 0), (4, 2, .int .i64 0), (4, 3, .int .i64 0), (4, 4, .int .i64 0), (4, 5, .int .i64 0), (4, 6, .nilS), (4, 7, .str (sB [])), (4, 8, .int .i64 0), (4, 9, .int .i64 0), (4, 10, .int .i64 0), (4, 11, .int .i64 0), (5, 0, .int .i64 id1), (5, 1, .int .i64 (W (v1.1 + 1))), (5, 2, .int .i64 g1.Rect.X1), (5, 3, .int .i64 g1.Rect.Y1), (5, 4, .int .i64 g1.Rect.X2), (5, 5, .int .i64 g1.Rect.Y2), (5, 6, .sl (g1.Poly.map aH)), (5, 7, .str (sB f1)), (5, 8, .int .i64 x5.X1), (5, 9, .int .i64 x5.Y1), (5, 10, .int .i64 x5.X2), (5, 11, .int .i64 x5.Y2)], [(6, .row 12 (x4.L.map aU)), (7, .row 1 (x4.Ids.map (cI .i64))), (8, .wr 1 (x4.Last.map (cI .i64)))], 9⟩) ?_ ?_)))
  ·clear ho13
   refine aR (rg 6 rfl (rt ((lM aU x4.L)) (rg 2 rfl (dN Z Z Z Z Z ho17 (fun ho17_1 => ?_) fun ho17_1 => ?_))))
   ·clear ho17
    refine rg 5 rfl (gy Z Z Z (bx ho17_1 fun x7 hx18 ho17_2 => ri Z Z Z Z Z Z (iF hx18) (kG aU hx18) (wM (fun _ => by rfl) _) ?_))
    exact rg 5 rfl (rn (si ho17_2 ▸ cN [0,1,2,3,4,5,6,7,8]))
   clear ho17
   exact rg 10 rfl (rn (si ho17_1 ▸ cN [0,1,2,3,4,5,6,7,8]))
  clear ho13
  rintro x6 rfl
  refine ch (bw rfl ho13_1 (fun ho13_2 => ?_) fun ho13_2 => ?_)
  ·clear ho13_1
   exact aK (aB (aR (rg 3 rfl (rn (ah (si ho13_2 ▸ lN [0,1,2,3,4,5,6,7,8]))))))
  clear ho13_1
  refine aW (xX ?_)
  cases ho13_2
  have hq := hE14 _ rfl
  subst hq
  exact cN [0,1,2,3,4,5,6,7,8]
 clear h_10 h_11 h_12
 rintro at3 rfl
 refine ch (ag (mz false Z Z Z Z Z Z Z Z Z Z (rg 5 rfl (bx h_13 fun l2 hx19 h_14 => rV rfl (nc (c := aU) Z Z Z Z Z ⟨_, rfl⟩ hx19 (fun _ => rfl)) (bx h_14 fun next1 hx20 h_15 => pu false (z := 12) (xs := [].map aU) (ys := l2.map aU) Z Z Z Z Z Z Z (.own Z Z) (.sl Z Z Z) (wM (fun _ => by rfl) _) (oM (fun _ => by rfl) _) (wA aU rfl hx20) rfl ?_)))))
 refine rk (congrArg (Kind.row _) (wR aU hx20)) (rv Z Z (rn (ag (rg 2 rfl (mz false Z Z Z Z Z Z Z Z Z Z (bx h_15 fun next2 hx21 h_16 => pu false (z := 12) (xs := next1.map aU) (ys := [(bf.mk id1 (W (v1.1 + 1)) g1 f1 x5)].map aU) Z Z Z Z Z Z Z (.own Z Z) (.sl Z Z Z) (wM (fun _ => by rfl) _) (oM (fun _ => by rfl) _) (wA aU rfl hx21) rfl ?_))))))
 refine rk (congrArg (Kind.row _) (wR aU hx21)) (rv Z Z (rn (ag (rg 7 rfl (bx h_16 fun l3 hx22 h_17 => J4 Z Z Z Z Z Z Z (ns (d := 0) ⟨_, rfl⟩ (HR hx22).1) (J7 aU hx22) rfl (rk (congrArg (Kind.row _) (Ka aU hx22)) (bx h_17 fun l4 hx23 h_18 => pu false (z := 12) (xs := next2.map aU) (ys := l3.map aU) Z Z Z Z Z Z Z (.own Z Z) (.sl Z Z Z) (wM (fun _ => by rfl) _) (oM (fun _ => by rfl) _) (wA aU rfl hx23) rfl ?_)))))))
 refine rk (congrArg (Kind.row _) (wR aU hx23)) (rg 2 rfl (rs Z Z Z Z Z Z Z (rn (ag (rv Z Z (rs Z Z Z Z Z Z Z (rv Z Z (rn (aT ?_)))))))))
 obtain rfl := si h_18
 refine rW ?_
 exact rA [0,1,2,3,14,7,8]
def ez (fu : Nat) (t1 : aD) (id1 : Int) (d1 : aZ) : Option (bf × Bool × Int × aD) :=
 (bS fu t1 id1).bind fun at1 => bif (decide (at1.1 < 0)) then some ((bf.mk 0 0 (aF.mk (ba.mk 0 0 0 0) []) [] (ba.mk 0 0 0 0)), false, 9, at1.2) else ((gi at1.2.L at1.1).bind fun x1 => (jv fu x1.Region d1).bind fun bad1 => bif (bad1.2 != 0) then some ((bf.mk 0 0 (aF.mk (ba.mk 0 0 0 0) []) [] (ba.mk 0 0 0 0)), false, bad1.2, at1.2) else ((kO fu x1.Region x1.Cover d1).bind fun safe1 => (bif (!safe1) then some (decide (x1.Version > 2147483645)) else some false : Option Bool).bind fun (x2 : Bool) => (bif x2 then some ((bf.mk 0 0 (aF.mk (ba.mk 0 0 0 0) []) [] (ba.mk 0 0 0 0)), false, 8, at1.2) else ((bif (!safe1) then ((gk fu at1.2.Shift bad1.1).bind fun x3 => (cX fu at1.2 id1 (W (x1.Version + 1))).bind fun x4 => some (x4.Shift, x4.Most, W (x1.Version + 1), x3.X1, x3.Y1, x3.X2, x3.Y2, x4.L, x4.Ids, x4.Last)) else some (at1.2.Shift, at1.2.Most, x1.Version, x1.Cover.X1, x1.Cover.Y1, x1.Cover.X2, x1.Cover.Y2, at1.2.L, at1.2.Ids, at1.2.Last) : Option (Int × Int × Int × Int × Int × Int × Int × (List bf) × (List Int) × (List Int))).bind fun (((t2, t3, s1, s2, s3, s4, s5, l1, l2, l3)) : Int × Int × Int × Int × Int × Int × Int × (List bf) × (List Int) × (List Int)) => ((ap [] l1).bind fun l4 => (gi l4 at1.1).bind fun x5 => (C9 l4 at1.1 (bf.mk x1.Id s1 bad1.1 x1.Filter (ba.mk s2 s3 s4 s5))).bind fun l5 => some ((bf.mk x1.Id s1 bad1.1 x1.Filter (ba.mk s2 s3 s4 s5)), safe1, 0, (aD.mk t2 t3 l5 l2 l3)))))))
theorem nZ {fu : Nat} {t1 : aD} {id1 : Int} {d1 : aZ} {r : bf × Bool × Int × aD} (h : ez fu t1 id1 d1 = some r) : aP Tryz.prog 20 4 [.ptr 0 0, .int .i64 id1, .agg [.int .i64 d1.X, .int .i64 d1.Y]] [(0, 0, .int .i64 t1.Shift), (0, 1, .int .i64 t1.Most), (0, 2, .own 1), (0, 3, .own 2), (0, 4, .own 3)] [(1, .row 12 (t1.L.map aU)), (2, .row 1 (t1.Ids.map (cI .i64))), (3, .wr 1 (t1.Last.map (cI .i64)))] (fun r_ H_ O_ n_ => r_ = .tup [.agg [.int .i64 r.1.Id, .int .i64 r.1.Version, .int .i64 r.1.Region.Rect.X1, .int .i64 r.1.Region.Rect.Y1, .int .i64 r.1.Region.Rect.X2, .int .i64 r.1.Region.Rect.Y2, .sl (r.1.Region.Poly.map aH), .str (sB r.1.Filter), .int .i64 r.1.Cover.X1, .int .i64 r.1.Cover.Y1, .int .i64 r.1.Cover.X2, .int .i64 r.1.Cover.Y2], .bool r.2.1, .int .i64 r.2.2.1] ∧ H_ = [(0, 0, .int .i64 r.2.2.2.Shift), (0, 1, .int .i64 r.2.2.2.Most), (0, 2, .own 4), (0, 3, .own 5), (0, 4, .own 6)] ∧ O_ = [(4, .row 12 (r.2.2.2.L.map aU)), (5, .row 1 (r.2.2.2.Ids.map (cI .i64))), (6, .wr 1 (r.2.2.2.Last.map (cI .i64)))] ∧ n_ = 7) := by
 rw [ez] at h
 refine nO Tryz.func20 ?_
 refine aQ (fun _ _ _ _ _ hi => bZ (wr := false) 0 2 1 Z Z hi) (aQ (fun _ _ _ _ _ hi => bZ (wr := false) 0 3 2 Z Z hi) (aQ (fun _ _ _ _ _ hi => bZ (wr := true) 0 4 3 Z Z hi) (ag (rb Z Z (ra Z Z Z (rg 2 rfl (rn (ag (rg 2 rfl (bx h fun at1 hx1 h_1 => rh [0,4,5,6] Z Z (dS hx1) Z Z Z zH zO (eA Z Z Z Z ?_)))))))))))
 refine py (sO (sO (wO (fun _ => rfl) (rfl)))) (rv Z Z (rn (aS (ag (rg 2 rfl (rn (bw rfl h_1 (fun h_2 => ?_) fun h_2 => ?_)))))))
 ·clear h h_1
  refine ag (rv Z Z (rs Z Z Z Z Z Z Z (rg 2 rfl (rn (aT ?_)))))
  obtain rfl := si h_2
  refine rW ?_
  exact rA [0,1,2,3,9,10,11]
 clear h h_1
 refine aK (ag (rg 5 rfl (bx h_2 fun x1 hx2 h_3 => ri Z Z Z Z Z Z (iF hx2) (kG aU hx2) (wM (fun _ => by rfl) _) ?_)))
 refine rv Z Z (ra Z Z Z (rs Z Z Z Z Z Z Z (rn (ag (rg 3 rfl (bx h_3 fun bad1 hx3 h_4 => bt Z Z Z (uF hx3) (rg 3 rfl (ra Z Z Z (rs Z Z Z Z Z Z Z (rv Z Z (rn (aS (ag (rg 2 rfl (rn (bw rfl h_4 (fun h_5 => ?_) fun h_5 => ?_))))))))))))))))
 ·clear h_2 h_3 h_4
  refine ag (rg 2 rfl (rs Z Z Z Z Z Z Z (rg 2 rfl (rn (aT ?_)))))
  obtain rfl := si h_5
  refine rW ?_
  exact rA [0,1,2,3,9,10,11]
 clear h_2 h_3 h_4
 refine aK (ag (rg 5 rfl (bx h_5 fun safe1 hx4 h_6 => bt Z Z Z (uy hx4) (rv Z Z (rn (aS (aS (bx h_6 fun o5 ho6 h_7 => aq (fun x => x = o5) (fun (x2 : Bool) => ⟨[(0, .ptr 0 0), (1, .int .i64 id1), (6, .ptr 4 0), (9, .int .i64 at1.1), (10, .ptr 5 0), (11, .ptr 6 0), (13, .bool safe1), (50, .bool x2)], [(0, 0, .int .i64 at1.2.Shift), (0, 1, .int .i64 at1.2.Most), (0, 2, .own 7), (0, 3, .own 8), (0, 4, .own 9), (4, 0, .int .i64 0), (4, 1, .int .i64 0), (4, 2, .int .i64 0), (4, 3, .int .i64 0), (4, 4, .int .i64 0), (4, 5, .int .i64 0), (4, 6, .nilS), (4, 7, .str (sB [])), (4, 8, .int .i64 0), (4, 9, .int .i64 0), (4, 10, .int .i64 0), (4, 11, .int .i64 0), (5, 0, .int .i64 x1.Id), (5, 1, .int .i64 x1.Version), (5, 2, .int .i64 x1.Region.Rect.X1), (5, 3, .int .i64 x1.Region.Rect.Y1), (5, 4, .int .i64 x1.Region.Rect.X2), (5, 5, .int .i64 x1.Region.Rect.Y2), (5, 6, .sl (x1.Region.Poly.map aH)), (5, 7, .str (sB x1.Filter)), (5, 8, .int .i64 x1.Cover.X1), (5, 9, .int .i64 x1.Cover.Y1), (5, 10, .int .i64 x1.Cover.X2), (5, 11, .int .i64 x1.Cover.Y2), (6, 0, .int .i64 bad1.1.Rect.X1), (6, 1, .int .i64 bad1.1.Rect.Y1), (6, 2, .int .i64 bad1.1.Rect.X2), (6, 3, .int .i64 bad1.1.Rect.Y2), (6, 4, .sl (bad1.1.Poly.map aH))], [(7, .row 12 (at1.2.L.map aU)), (8, .row 1 (at1.2.Ids.map (cI .i64))), (9, .wr 1 (at1.2.Last.map (cI .i64)))], 10⟩) ?_ ?_))))))))
 ·clear h_5 h_6
  refine aR (rg 3 rfl (dN Z Z Z Z Z ho6 (fun ho6_1 => ?_) fun ho6_1 => ?_))
  ·clear ho6
   exact rg 4 rfl (rn (si ho6_1 ▸ cN [0,1,2,3,8,12,13,9,10,11]))
  clear ho6
  exact rg 3 rfl (rn (si ho6_1 ▸ cN [0,1,2,3,8,12,13,9,10,11]))
 clear h_5 h_6
 rintro x2 rfl
 refine ch (bw rfl h_7 (fun h_8 => ?_) fun h_8 => ?_)
 ·clear h_7
  refine ag (rv Z Z (rs Z Z Z Z Z Z Z (rg 2 rfl (rn (aT ?_)))))
  obtain rfl := si h_8
  refine rW ?_
  exact rA [0,1,2,3,7,8,9]
 clear h_7
 refine aK (ag (rg 2 rfl (rs Z Z Z Z Z Z Z (rn (aS (ag (rg 2 rfl (rn (bx h_8 fun o7 ho8 h_9 => aq (fun x => x = o7) (fun (((t2, t3, s1, s2, s3, s4, s5, l1, l2, l3)) : Int × Int × Int × Int × Int × Int × Int × (List bf) × (List Int) × (List Int)) => ⟨[(0, .ptr 0 0), (6, .ptr 4 0), (9, .int .i64 at1.1), (10, .ptr 5 0), (13, .bool safe1)], [(0, 0, .int .i64 t2), (0, 1, .int .i64 t3), (0, 2, .own 6), (0, 3, .own 7), (0, 4, .own 8), (4, 0, .int .i64 0), (4, 1, .int .i64 0), (4, 2, .int .i64 0), (4, 3, .int .i64 0), (4, 4, .int .i64 0), (4, 5, .int .i64 0), (4, 6, .nilS), (4, 7, .str (sB [])), (4, 8, .int .i64 0), (4, 9, .int .i64 0), (4, 10, .int .i64 0), (4, 11, .int .i64 0), (5, 0, .int .i64 x1.Id), (5, 1, .int .i64 s1), (5, 2, .int .i64 bad1.1.Rect.X1), (5, 3, .int .i64 bad1.1.Rect.Y1), (5, 4, .int .i64 bad1.1.Rect.X2), (5, 5, .int .i64 bad1.1.Rect.Y2), (5, 6, .sl (bad1.1.Poly.map aH)), (5, 7, .str (sB x1.Filter)), (5, 8, .int .i64 s2), (5, 9, .int .i64 s3), (5, 10, .int .i64 s4), (5, 11, .int .i64 s5)], [(6, .row 12 (l1.map aU)), (7, .row 1 (l2.map (cI .i64))), (8, .wr 1 (l3.map (cI .i64)))], 9⟩) ?_ ?_)))))))))
 ·clear h_8
  refine bw rfl ho8 (fun ho8_1 => ?_) fun ho8_1 => ?_
  ·clear ho8
   refine ag (rg 4 rfl (rs Z Z Z Z Z Z Z (rn (aS (mw 7 Tryz.mix (dv Z Z (fun _ => rfl) (dv Z Z (fun _ => rfl) (dv Z Z (fun _ => rfl) (dv Z Z (fun _ => rfl) (dv Z Z (fun _ => rfl) (bx ho8_1 fun x3 hx9 ho8_2 => dc Z Z Z Z (fun _ => rfl) (fun _ => (nh hx9)) (dv Z Z (fun _ => rfl) (dn (rs Z Z Z Z Z Z Z (rn (aR (rg 4 rfl (bx ho8_2 fun x4 hx10 ho8_3 => rh [0,7,8,9] Z Z (gD hx10) Z Z Z zH zO (eA Z Z Z Z ?_)))))))))))))))))))
   exact py (sO (sO (wO (fun _ => rfl) (rfl)))) (rn (si ho8_3 ▸ cN [0,1,2,3,4,5,10,11,12]))
  clear ho8
  exact aK (si ho8_1 ▸ cN [0,1,2,3,4,5,7,8,9])
 clear h_8
 rintro ⟨t2, t3, s1, s2, s3, s4, s5, l1, l2, l3⟩ rfl
 refine ch (ag (rv Z Z (mz true Z Z Z Z Z Z Z Z Z Z (rg 4 rfl (bx h_9 fun l4 hx11 h_10 => pu true (z := 12) (xs := [].map aU) (ys := l1.map aU) Z Z Z Z Z Z Z (.own Z Z) (.sl Z Z Z) (wM (fun _ => by rfl) _) (oM (fun _ => by rfl) _) (wA aU rfl hx11) rfl ?_)))))
 refine rk (congrArg (Kind.wr _) (wR aU hx11)) (rg 2 rfl (rs Z Z Z Z Z Z Z (rn (aS (mw 7 Tryz.mix (dv Z Z (fun _ => rfl) (dv Z Z (fun _ => rfl) (dv Z Z (fun _ => rfl) (dv Z Z (fun _ => rfl) (dv Z Z (fun _ => rfl) (dv Z Z (fun _ => rfl) (bx h_10 fun x5 hx12 h_11 => dV Z Z (fun _ => s8 Z Z Z Z Z Z Z (iF hx12) (Gu aU hx12)) (dn (bx h_11 fun l5 hx13 h_12 => ?_))))))))))))))
 obtain ⟨o1, ho14⟩ := JE hx13
 refine JI Z Z Z (kG aU ho14) Z Z Z Z Z (rk (congrArg (Kind.wr _) (JH aU hx13)) (rn (ag (rg 2 rfl (rs Z Z Z Z Z Z Z (rg 2 rfl (rn (aQ (fun _ _ _ _ _ hi => C5 10 rfl (Fz (fun _ => rfl) _) rfl hi) (aT ?_)))))))))
 obtain rfl := si h_12
 refine rW ?_
 exact rA [0,1,2,3,10,7,8]
def eD (fu : Nat) (t1 : aD) (id1 : Int) : Option (bf × Int × aD) :=
 (bS fu t1 id1).bind fun at1 => bif (decide (at1.1 < 0)) then some ((bf.mk 0 0 (aF.mk (ba.mk 0 0 0 0) []) [] (ba.mk 0 0 0 0)), 9, at1.2) else ((gi at1.2.L at1.1).bind fun x1 => (cX fu at1.2 id1 (W (x1.Version + 1))).bind fun x2 => (kC x2.L 0 at1.1).bind fun l1 => (ap [] l1).bind fun l2 => (kC x2.L (W (at1.1 + 1)) (x2.L.length : Int)).bind fun l3 => (ap l2 l3).bind fun l4 => some ((bf.mk x1.Id (W (x1.Version + 1)) x1.Region x1.Filter x1.Cover), 0, (aD.mk x2.Shift x2.Most l4 x2.Ids x2.Last)))
theorem nR {fu : Nat} {t1 : aD} {id1 : Int} {r : bf × Int × aD} (h : eD fu t1 id1 = some r) : aP Tryz.prog 21 4 [.ptr 0 0, .int .i64 id1] [(0, 0, .int .i64 t1.Shift), (0, 1, .int .i64 t1.Most), (0, 2, .own 1), (0, 3, .own 2), (0, 4, .own 3)] [(1, .row 12 (t1.L.map aU)), (2, .row 1 (t1.Ids.map (cI .i64))), (3, .wr 1 (t1.Last.map (cI .i64)))] (fun r_ H_ O_ n_ => r_ = .tup [.agg [.int .i64 r.1.Id, .int .i64 r.1.Version, .int .i64 r.1.Region.Rect.X1, .int .i64 r.1.Region.Rect.Y1, .int .i64 r.1.Region.Rect.X2, .int .i64 r.1.Region.Rect.Y2, .sl (r.1.Region.Poly.map aH), .str (sB r.1.Filter), .int .i64 r.1.Cover.X1, .int .i64 r.1.Cover.Y1, .int .i64 r.1.Cover.X2, .int .i64 r.1.Cover.Y2], .int .i64 r.2.1] ∧ H_ = [(0, 0, .int .i64 r.2.2.Shift), (0, 1, .int .i64 r.2.2.Most), (0, 2, .own 4), (0, 3, .own 5), (0, 4, .own 6)] ∧ O_ = [(4, .row 12 (r.2.2.L.map aU)), (5, .row 1 (r.2.2.Ids.map (cI .i64))), (6, .wr 1 (r.2.2.Last.map (cI .i64)))] ∧ n_ = 7) := by
 rw [eD] at h
 refine nO Tryz.func21 ?_
 refine aQ (fun _ _ _ _ _ hi => bZ (wr := false) 0 2 1 Z Z hi) (aQ (fun _ _ _ _ _ hi => bZ (wr := false) 0 3 2 Z Z hi) (aQ (fun _ _ _ _ _ hi => bZ (wr := true) 0 4 3 Z Z hi) (ag (ra Z Z Z (rv Z Z (rn (ag (rg 2 rfl (bx h fun at1 hx1 h_1 => rh [0,4,5,6] Z Z (dS hx1) Z Z Z zH zO (eA Z Z Z Z ?_))))))))))
 refine py (sO (sO (wO (fun _ => rfl) (rfl)))) (rv Z Z (rn (aS (ag (rg 2 rfl (rn (bw rfl h_1 (fun h_2 => ?_) fun h_2 => ?_)))))))
 ·clear h h_1
  refine ag (rv Z Z (rs Z Z Z Z Z Z Z (rv Z Z (rn (aT ?_)))))
  obtain rfl := si h_2
  refine rW ?_
  exact rA [0,1,2,3,8,9,10]
 clear h h_1
 refine aK (ag (rg 5 rfl (bx h_2 fun x1 hx2 h_3 => ri Z Z Z Z Z Z (iF hx2) (kG aU hx2) (wM (fun _ => by rfl) _) ?_)))
 refine rv Z Z (ra Z Z Z (rs Z Z Z Z Z Z Z (rn (ag (rg 4 rfl (rs Z Z Z Z Z Z Z (rn (ag (rg 4 rfl (bx h_3 fun x2 hx3 h_4 => rh [0,8,9,10] Z Z (gD hx3) Z Z Z zH zO (eA Z Z Z Z ?_)))))))))))
 refine py (sO (sO (wO (fun _ => rfl) (rfl)))) (rn (aS (Bg (L := [0,1,2,3,7,11,12,13,14]) (s' := ⟨[(0, .ptr 0 0), (4, .ptr 4 0), (6, .int .i64 at1.1), (7, .ptr 5 0)], [(0, 0, .int .i64 x2.Shift), (0, 1, .int .i64 x2.Most), (0, 2, .own 6), (0, 3, .own 7), (0, 4, .own 8), (4, 0, .int .i64 0), (4, 1, .int .i64 0), (4, 2, .int .i64 0), (4, 3, .int .i64 0), (4, 4, .int .i64 0), (4, 5, .int .i64 0), (4, 6, .nilS), (4, 7, .str (sB [])), (4, 8, .int .i64 0), (4, 9, .int .i64 0), (4, 10, .int .i64 0), (4, 11, .int .i64 0), (5, 0, .int .i64 x1.Id), (5, 1, .int .i64 (W (x1.Version + 1))), (5, 2, .int .i64 x1.Region.Rect.X1), (5, 3, .int .i64 x1.Region.Rect.Y1), (5, 4, .int .i64 x1.Region.Rect.X2), (5, 5, .int .i64 x1.Region.Rect.Y2), (5, 6, .sl (x1.Region.Poly.map aH)), (5, 7, .str (sB x1.Filter)), (5, 8, .int .i64 x1.Cover.X1), (5, 9, .int .i64 x1.Cover.Y1), (5, 10, .int .i64 x1.Cover.X2), (5, 11, .int .i64 x1.Cover.Y2)], [(6, .row 12 (x2.L.map aU)), (7, .row 1 (x2.Ids.map (cI .i64))), (8, .wr 1 (x2.Last.map (cI .i64)))], 9⟩) zs rfl (Eu 20 [] Tryz.mix (xv [] Z Z (fun _ => rfl) ?_)))))
 refine xE [] (.own 9) 10 _ _ Z Z (by
   refine mz false Z Z Z Z Z Z Z Z Z Z ?_
   exact rn ⟨rfl, rfl⟩) (by rfl) (by rfl) (by rfl) ?_
 refine xv [] Z Z (fun _ => rfl) (xv [] Z Z (fun _ => rfl) (xv [] Z Z (fun _ => rfl) (xv [0] Z Z (fun _ => rfl) (xv [] Z Z (fun _ => rfl) (bx h_4 fun l1 hx4 h_5 => xV [6] Z Z (fun _ => nc (c := aU) Z Z Z Z Z ⟨_, rfl⟩ hx4 (fun _ => rfl)) (bx h_5 fun l2 hx5 h_6 => ?_))))))
 refine xE [9] (.own 10) 11 _ _ Z Z (by
   refine pu false (z := 12) (xs := [].map aU) (ys := l1.map aU) Z Z Z Z Z Z Z (.own Z Z) (.sl Z Z Z) (wM (fun _ => by rfl) _) (oM (fun _ => by rfl) _) (wA aU rfl hx5) rfl ?_
   refine rk (congrArg (Kind.row _) (wR aU hx5)) ?_
   exact rn ⟨rfl, rfl⟩) (by rfl) (by rfl) (by rfl) ?_
 refine xv [] Z Z (fun _ => rfl) (xv [] Z Z (fun _ => rfl) (xv [] Z Z (fun _ => rfl) (xv [0] Z Z (fun _ => rfl) (xv [] Z Z (fun _ => rfl) (xv [] Z Z (fun _ => rfl) (bx h_6 fun l3 hx6 h_7 => xV [6] Z Z (fun _ => nc (c := aU) Z Z Z Z ⟨_, rfl⟩ rfl hx6 (fun _ => rfl)) (bx h_7 fun l4 hx7 h_8 => ?_)))))))
 refine xE [10] (.own 11) 12 _ _ Z Z (by
   refine pu false (z := 12) (xs := l2.map aU) (ys := l3.map aU) Z Z Z Z Z Z Z (.own Z Z) (.sl Z Z Z) (wM (fun _ => by rfl) _) (oM (fun _ => by rfl) _) (wA aU rfl hx7) rfl ?_
   refine rk (congrArg (Kind.row _) (wR aU hx7)) ?_
   exact rn ⟨rfl, rfl⟩) (by rfl) (by rfl) (by rfl) ?_
 refine xv [] Z Z (fun _ => rfl) (xv [] Z Z (fun _ => rfl) ?_)
 refine xW [0, 6, 7, 8, 11] .any 12 _ _ Z Z (by
   refine rs Z Z Z Z Z Z Z ?_
   exact rn ⟨rfl, rfl⟩) (by rfl) (by rfl) (by repeat (first | exact I3 | refine IZ (by first | exact trivial | exact AY (Fz (fun _ => rfl) _)) ?_)) (by rfl) (by rfl) ?_
 refine xn (by kernel_rfl) (rn (ag (rv Z Z (rs Z Z Z Z Z Z Z (rv Z Z (rn (aT ?_)))))))
 obtain rfl := si h_8
 refine rW ?_
 exact rA [0,1,2,3,11,7,8]
def kL (fu : Nat) (s1 : bf) (e1 : eI) : Option Bool :=
 (dG fu s1.Filter).bind fun x1 => match x1 with | (.mk kind1 name1 op1 vals1 l1, x2) => (nJ fu s1.Region e1.At).bind fun in1 => (dx fu (aa.mk kind1 name1 op1 vals1 l1) e1.Attrs).bind fun holds1 => bif in1 then some holds1 else some false
theorem uG {fu : Nat} {s1 : bf} {e1 : eI} {r : Bool} (h : kL fu s1 e1 = some r) : ai Tryz.prog 63 [.agg [.int .i64 s1.Id, .int .i64 s1.Version, .int .i64 s1.Region.Rect.X1, .int .i64 s1.Region.Rect.Y1, .int .i64 s1.Region.Rect.X2, .int .i64 s1.Region.Rect.Y2, .sl (s1.Region.Poly.map aH), .str (sB s1.Filter), .int .i64 s1.Cover.X1, .int .i64 s1.Cover.Y1, .int .i64 s1.Cover.X2, .int .i64 s1.Cover.Y2], .agg [.int .i64 e1.Pub, .int .u32 e1.Seq, .int .i64 e1.At.X, .int .i64 e1.At.Y, .sl (e1.Attrs.map au)]] (· = .bool r) := by
 rw [kL] at h
 refine cf Tryz.func63 ?_
 refine ag (rb Z Z (rb Z Z (rv Z Z (rn (ag (rg 2 rfl (bx h fun x1 hx1 h_1 => ?_)))))))
 obtain ⟨⟨kind1, name1, op1, vals1, l1⟩, x2⟩ := x1
 refine bt Z Z Z (ot hx1) (rg 3 rfl (ra Z Z Z (rs Z Z Z Z Z Z Z (rv Z Z (rn (ag (rg 4 rfl (bx h_1 fun in1 hx2 h_2 => bt Z Z Z (xA hx2) (rv Z Z (rn (ag (rg 3 rfl (bx h_2 fun holds1 hx3 h_3 => bt Z Z Z (nt hx3) (rv Z Z (rn (ag (rg 2 rfl (dN Z Z Z Z Z h_3 (fun h_4 => ?_) fun h_4 => ?_))))))))))))))))))
 ·clear h h_1 h_2 h_3
  exact rg 3 rfl (rn (aT (si h_4 ▸ rF)))
 clear h h_1 h_2 h_3
 exact rg 2 rfl (rn (aT (si h_4 ▸ rF)))
def dp (fu : Nat) (t1 : aD) (id1 : Int) (e1 : eI) : Option (Bool × aD) :=
 (bS fu t1 id1).bind fun at1 => bif (decide (at1.1 < 0)) then some (false, at1.2) else ((gi at1.2.L at1.1).bind fun x1 => (kL fu x1 e1).bind fun x2 => some (x2, at1.2))
theorem mZ {fu : Nat} {t1 : aD} {id1 : Int} {e1 : eI} {r : Bool × aD} (h : dp fu t1 id1 e1 = some r) : aP Tryz.prog 26 4 [.ptr 0 0, .int .i64 id1, .agg [.int .i64 e1.Pub, .int .u32 e1.Seq, .int .i64 e1.At.X, .int .i64 e1.At.Y, .sl (e1.Attrs.map au)]] [(0, 0, .int .i64 t1.Shift), (0, 1, .int .i64 t1.Most), (0, 2, .own 1), (0, 3, .own 2), (0, 4, .own 3)] [(1, .row 12 (t1.L.map aU)), (2, .row 1 (t1.Ids.map (cI .i64))), (3, .wr 1 (t1.Last.map (cI .i64)))] (fun r_ H_ O_ n_ => r_ = .bool r.1 ∧ H_ = [(0, 0, .int .i64 r.2.Shift), (0, 1, .int .i64 r.2.Most), (0, 2, .own 4), (0, 3, .own 5), (0, 4, .own 6)] ∧ O_ = [(4, .row 12 (r.2.L.map aU)), (5, .row 1 (r.2.Ids.map (cI .i64))), (6, .wr 1 (r.2.Last.map (cI .i64)))] ∧ n_ = 7) := by
 rw [dp] at h
 refine nO Tryz.func26 ?_
 refine aQ (fun _ _ _ _ _ hi => bZ (wr := false) 0 2 1 Z Z hi) (aQ (fun _ _ _ _ _ hi => bZ (wr := false) 0 3 2 Z Z hi) (aQ (fun _ _ _ _ _ hi => bZ (wr := true) 0 4 3 Z Z hi) (ag (rb Z Z (rv Z Z (rn (ag (rg 2 rfl (bx h fun at1 hx1 h_1 => rh [0,4,5,6] Z Z (dS hx1) Z Z Z zH zO (eA Z Z Z Z ?_))))))))))
 refine py (sO (sO (wO (fun _ => rfl) (rfl)))) (rv Z Z (rn (aS (ag (rg 2 rfl (rn (bw rfl h_1 (fun h_2 => ?_) fun h_2 => ?_)))))))
 ·clear h h_1
  refine ag (rv Z Z (rn (aT ?_)))
  obtain rfl := si h_2
  refine rW ?_
  exact rA [0,1,2,3,8,9,10]
 clear h h_1
 refine aK (aS (mw 9 Tryz.mix (dv Z Z (fun _ => rfl) (dv Z Z (fun _ => rfl) (dv Z Z (fun _ => rfl) (dv Z Z (fun _ => rfl) (dv Z Z (fun _ => rfl) (bx h_2 fun x1 hx2 h_3 => di Z Z Z Z Z (fun _ => rfl) rfl (iF hx2) (kG aU hx2) (wM (fun _ => by rfl) _) ?_))))))))
 refine dv Z Z (fun _ => rfl) (dv Z Z (fun _ => rfl) (bx h_3 fun x2 hx3 h_4 => dc Z Z Z Z (fun _ => rfl) (fun _ => (uG hx3)) (dn (rv Z Z (rn (aT ?_))))))
 obtain rfl := si h_4
 refine rW ?_
 exact rA [0,1,2,3,8,9,10]
def fQ (fu : Nat) (a1 : aF) (b1 : aF) : Option Bool :=
 (bif (!((a1.Rect.X1 == b1.Rect.X1) && ((a1.Rect.Y1 == b1.Rect.Y1) && ((a1.Rect.X2 == b1.Rect.X2) && ((a1.Rect.Y2 == b1.Rect.Y2) && true))))) then some true else some ((a1.Poly.length : Int) != (b1.Poly.length : Int)) : Option Bool).bind fun (x1 : Bool) => (bif x1 then some false else ((bm (ε := Int) (τ := Unit ⊕ Bool) (fun (i1 : Int) => (bif (decide (i1 < (a1.Poly.length : Int))) then ((gi a1.Poly i1).bind fun x2 => (gi b1.Poly i1).bind fun x3 => bif (!((x2.X == x3.X) && ((x2.Y == x3.Y) && true))) then some (Sum.inr (Sum.inr false)) else some (Sum.inl (W (i1 + 1)))) else some (Sum.inr (Sum.inl ())))) fu 0).bind fun o => kS o fun (_ : Unit) => some true))
theorem qG {fu : Nat} {a1 : aF} {b1 : aF} {r : Bool} (h : fQ fu a1 b1 = some r) : ai Tryz.prog 60 [.agg [.int .i64 a1.Rect.X1, .int .i64 a1.Rect.Y1, .int .i64 a1.Rect.X2, .int .i64 a1.Rect.Y2, .sl (a1.Poly.map aH)], .agg [.int .i64 b1.Rect.X1, .int .i64 b1.Rect.Y1, .int .i64 b1.Rect.X2, .int .i64 b1.Rect.Y2, .sl (b1.Poly.map aH)]] (· = .bool r) := by
 rw [fQ] at h
 refine cf Tryz.func60 ?_
 refine ag (rb Z Z (rb Z Z (rv Z Z (rn (aS (aS (bx h fun o1 ho2 h_1 => aq (fun x => x = o1) (fun (x1 : Bool) => ⟨[(2, .ptr 0 0), (3, .ptr 1 0), (19, .bool x1)], [(0, 0, .int .i64 a1.Rect.X1), (0, 1, .int .i64 a1.Rect.Y1), (0, 2, .int .i64 a1.Rect.X2), (0, 3, .int .i64 a1.Rect.Y2), (0, 4, .sl (a1.Poly.map aH)), (1, 0, .int .i64 b1.Rect.X1), (1, 1, .int .i64 b1.Rect.Y1), (1, 2, .int .i64 b1.Rect.X2), (1, 3, .int .i64 b1.Rect.Y2), (1, 4, .sl (b1.Poly.map aH))], [], 2⟩) ?_ ?_)))))))
 ·clear h
  refine aR (rg 6 rfl (eN Z Z Z Z Z ho2 (fun ho2_1 => ?_) fun ho2_1 => ?_))
  ·clear ho2
   exact rg 3 rfl (rt ((lM aH a1.Poly)) (rg 3 rfl (rt ((lM aH b1.Poly)) (rg 2 rfl (rn (si ho2_1 ▸ cN [0,1]))))))
  clear ho2
  exact rg 7 rfl (rn (si ho2_1 ▸ cN [0,1]))
 clear h
 rintro x1 rfl
 refine ch (bw rfl h_1 (fun h_2 => ?_) fun h_2 => ?_)
 ·clear h_1
  exact ag (rv Z Z (rn (aT (si h_2 ▸ rF))))
 clear h_1
 refine aK (aS (ag (rv Z Z (rn (bx h_2 fun e3 hl4 h_3 => aq (fun x => Sum.inl x = e3) (fun (_ : Unit) => ⟨[], [], [], 0⟩) ?_ ?_)))))
 ·clear h_2
  refine aB (be hl4 (fun (i1 : Int) => ⟨[(2, .ptr 0 0), (3, .ptr 1 0), (5, .int .i64 i1)], [(0, 0, .int .i64 a1.Rect.X1), (0, 1, .int .i64 a1.Rect.Y1), (0, 2, .int .i64 a1.Rect.X2), (0, 3, .int .i64 a1.Rect.Y2), (0, 4, .sl (a1.Poly.map aH)), (1, 0, .int .i64 b1.Rect.X1), (1, 1, .int .i64 b1.Rect.Y1), (1, 2, .int .i64 b1.Rect.X2), (1, 3, .int .i64 b1.Rect.Y2), (1, 4, .sl (b1.Poly.map aH))], [], 2⟩) [0,1] rfl zs ?_)
  intro i1 o7 ho5 hE6
  refine ch (aS (ag (rg 4 rfl (rt ((lM aH a1.Poly)) (rv Z Z (rn (bw rfl ho5 (fun ho5_1 => ?_) fun ho5_1 => ?_)))))))
  ·clear ho5
   refine aK (aS (aB (aS (mw 11 Tryz.mix (dv Z Z (fun _ => rfl) (dv Z Z (fun _ => rfl) (dv Z Z (fun _ => rfl) (bx ho5_1 fun x2 hx8 ho5_2 => di Z Z Z Z Z (fun _ => rfl) rfl (iF hx8) (kG aH hx8) (wM (fun _ => by rfl) _) ?_))))))))
   refine dv Z Z (fun _ => rfl) (dv Z Z (fun _ => rfl) (dv Z Z (fun _ => rfl) (dv Z Z (fun _ => rfl) (bx ho5_2 fun x3 hx9 ho5_3 => di Z Z Z Z Z (fun _ => rfl) rfl (iF hx9) (kG aH hx9) (wM (fun _ => by rfl) _) ?_))))
   refine dv Z Z (fun _ => rfl) (dv Z Z (fun _ => rfl) (dn (rn (bw rfl ho5_3 (fun ho5_4 => ?_) fun ho5_4 => ?_))))
   ·clear ho5_1 ho5_2 ho5_3
    refine ag (rv Z Z (rn (aT ?_)))
    cases ho5_4
    have hq := hE6 _ rfl
    subst hq
    have h_4 := n8 h_3
    subst h_4
    exact rF
   clear ho5_1 ho5_2 ho5_3
   exact aK (ah (aR (rg 3 rfl (rn (si ho5_4 ▸ lN [0,1])))))
  clear ho5
  refine aW (xX ?_)
  cases ho5_1
  have hq := hE6 _ rfl
  subst hq
  exact cN []
 clear h_2
 rintro _ rfl
 have h_4 := ry h_3
 exact ag (rv Z Z (rn (aT (si h_4 ▸ rF))))
def fW (fu : Nat) (a1 : bf) (b1 : bf) : Option Bool :=
 (fQ fu a1.Region b1.Region).bind fun region1 => bif (a1.Id == b1.Id) then (bif (a1.Version == b1.Version) then (bif (a1.Filter == b1.Filter) then (bif ((a1.Cover.X1 == b1.Cover.X1) && ((a1.Cover.Y1 == b1.Cover.Y1) && ((a1.Cover.X2 == b1.Cover.X2) && ((a1.Cover.Y2 == b1.Cover.Y2) && true)))) then some region1 else some false) else some false) else some false) else some false
theorem mr {fu : Nat} {a1 : bf} {b1 : bf} {r : Bool} (h : fW fu a1 b1 = some r) : ai Tryz.prog 23 [.agg [.int .i64 a1.Id, .int .i64 a1.Version, .int .i64 a1.Region.Rect.X1, .int .i64 a1.Region.Rect.Y1, .int .i64 a1.Region.Rect.X2, .int .i64 a1.Region.Rect.Y2, .sl (a1.Region.Poly.map aH), .str (sB a1.Filter), .int .i64 a1.Cover.X1, .int .i64 a1.Cover.Y1, .int .i64 a1.Cover.X2, .int .i64 a1.Cover.Y2], .agg [.int .i64 b1.Id, .int .i64 b1.Version, .int .i64 b1.Region.Rect.X1, .int .i64 b1.Region.Rect.Y1, .int .i64 b1.Region.Rect.X2, .int .i64 b1.Region.Rect.Y2, .sl (b1.Region.Poly.map aH), .str (sB b1.Filter), .int .i64 b1.Cover.X1, .int .i64 b1.Cover.Y1, .int .i64 b1.Cover.X2, .int .i64 b1.Cover.Y2]] (· = .bool r) := by
 rw [fW] at h
 refine cf Tryz.func23 ?_
 refine ag (rb Z Z (rb Z Z (rv Z Z (rn (ag (rg 4 rfl (bx h fun region1 hx1 h_1 => bt Z Z Z (qG hx1) (rv Z Z (rn (ag (rg 6 rfl (dN Z Z Z Z Z h_1 (fun h_2 => ?_) fun h_2 => ?_))))))))))))
 ·clear h h_1
  refine rg 7 rfl (dN Z Z Z Z Z h_2 (fun h_3 => ?_) fun h_3 => ?_)
  ·clear h_2
   refine rg 5 rfl (rt (jH a1.Filter b1.Filter) (rg 2 rfl (dN Z Z Z Z Z h_3 (fun h_4 => ?_) fun h_4 => ?_)))
   ·clear h_3
    refine rg 7 rfl (dN Z Z Z Z Z h_4 (fun h_5 => ?_) fun h_5 => ?_)
    ·clear h_4
     exact rg 3 rfl (rn (aT (si h_5 ▸ rF)))
    clear h_4
    exact rg 2 rfl (rn (aT (si h_5 ▸ rF)))
   clear h_3
   exact rg 9 rfl (rn (aT (si h_4 ▸ rF)))
  clear h_2
  exact rg 16 rfl (rn (aT (si h_3 ▸ rF)))
 clear h h_1
 exact rg 23 rfl (rn (aT (si h_2 ▸ rF)))
def hX (fu : Nat) (a1 : List bf) (b1 : List bf) : Option Bool :=
 bif ((a1.length : Int) != (b1.length : Int)) then some false else ((bm (ε := Int) (τ := Unit ⊕ Bool) (fun (i1 : Int) => (bif (decide (i1 < (a1.length : Int))) then ((gi a1 i1).bind fun same1 => (gi b1 i1).bind fun same2 => (fW fu same1 same2).bind fun same3 => bif (!same3) then some (Sum.inr (Sum.inr false)) else some (Sum.inl (W (i1 + 1)))) else some (Sum.inr (Sum.inl ())))) fu 0).bind fun o => kS o fun (_ : Unit) => some true)
theorem uM {fu : Nat} {a1 : List bf} {b1 : List bf} {r : Bool} (h : hX fu a1 b1 = some r) : ai Tryz.prog 24 [.sl (a1.map aU), .sl (b1.map aU)] (· = .bool r) := by
 rw [hX] at h
 refine cf Tryz.func24 ?_
 refine ag (rv Z Z (rn (aS (ag (rg 2 rfl (rt ((lM aU a1)) (rg 2 rfl (rt ((lM aU b1)) (rv Z Z (rn (bw rfl h (fun h_1 => ?_) fun h_1 => ?_)))))))))))
 ·clear h
  exact ag (rv Z Z (rn (aT (si h_1 ▸ rF))))
 clear h
 refine aK (aS (ag (rv Z Z (rn (bx h_1 fun e1 hl2 h_2 => aq (fun x => Sum.inl x = e1) (fun (_ : Unit) => ⟨[], [], [], 0⟩) ?_ ?_)))))
 ·clear h_1
  refine aB (be hl2 (fun (i1 : Int) => ⟨[(0, .sl (a1.map aU)), (1, .sl (b1.map aU)), (5, .int .i64 i1)], [], [], 0⟩) [] rfl zs ?_)
  intro i1 o5 ho3 hE4
  refine ch (aS (ag (rg 3 rfl (rt ((lM aU a1)) (rv Z Z (rn (bw rfl ho3 (fun ho3_1 => ?_) fun ho3_1 => ?_)))))))
  ·clear ho3
   refine aK (aS (aB (aS (mw 9 Tryz.mix (dv Z Z (fun _ => rfl) (dv Z Z (fun _ => rfl) (bx ho3_1 fun same1 hx6 ho3_2 => di Z Z Z Z Z (fun _ => rfl) rfl (iF hx6) (kG aU hx6) (wM (fun _ => by rfl) _) ?_)))))))
   refine dv Z Z (fun _ => rfl) (dv Z Z (fun _ => rfl) (dv Z Z (fun _ => rfl) (bx ho3_2 fun same2 hx7 ho3_3 => di Z Z Z Z Z (fun _ => rfl) rfl (iF hx7) (kG aU hx7) (wM (fun _ => by rfl) _) ?_)))
   refine dv Z Z (fun _ => rfl) (bx ho3_3 fun same3 hx8 ho3_4 => dc Z Z Z Z (fun _ => rfl) (fun _ => (mr hx8)) (dn (rv Z Z (rn (ag (rg 2 rfl (rn (bw rfl ho3_4 (fun ho3_5 => ?_) fun ho3_5 => ?_))))))))
   ·clear ho3_1 ho3_2 ho3_3 ho3_4
    refine ag (rv Z Z (rn (aT ?_)))
    cases ho3_5
    have hq := hE4 _ rfl
    subst hq
    have h_3 := n8 h_2
    subst h_3
    exact rF
   clear ho3_1 ho3_2 ho3_3 ho3_4
   exact aK (ah (aR (rg 3 rfl (rn (si ho3_5 ▸ lN [])))))
  clear ho3
  refine aW (xX ?_)
  cases ho3_1
  have hq := hE4 _ rfl
  subst hq
  exact cN []
 clear h_1
 rintro _ rfl
 have h_3 := ry h_2
 exact ag (rv Z Z (rn (aT (si h_3 ▸ rF))))
end
end Go.Proofs.YtbkomicjhfldmaaGreatDoor
namespace Go.Proofs.YtbkomicjhfldmaaGreatDoor
open Go.Pv
set_option linter.unusedSimpArgs false
set_option linter.unusedVariables false
set_option linter.unusedSectionVars false
set_option maxRecDepth 100000
def GJ (g : aF) (v : aZ) : aF × Int := ((A7 g v).1, match (A7 g v).2 with | none => 0 | some c => c)
theorem CN {n : Nat} {v : aZ} : ∀ (r l done : List aZ) (k : Nat), l = done ++ r → l.length ≤ 1000 → r.length < k →
  bm (ε := Int × (List aZ)) (τ := (List aZ) ⊕ (aF × Int)) (fun (((i1, l1)) : Int × (List aZ)) => (bif (decide (i1 < (l.length : Int))) then ((gi l i1).bind fun ok4 => (fh n ok4 v).bind fun ok5 => bif (!ok5.2) then some (Sum.inr (Sum.inr ((aF.mk (ba.mk 0 0 0 0) []), 11))) else ((ap l1 [ok5.1]).bind fun l4 => some (Sum.inl (W (i1 + 1), l4)))) else some (Sum.inr (Sum.inl l1)))) k ((done.length : Int), done.map fun p => ⟨W (p.X + v.X), W (p.Y + v.Y)⟩)
   = some (if (r.all fun p => du p.X p.Y v.X v.Y) then .inl (l.map fun p => ⟨W (p.X + v.X), W (p.Y + v.Y)⟩) else .inr (⟨⟨0, 0, 0, 0⟩, []⟩, 11))
 | [], l, done, k, hl, hn, hk => by
  obtain ⟨k, rfl⟩ : ∃ j, k = j + 1 := ⟨k - 1, by omega⟩
  have e : l = done := by simpa using hl
  subst e
  refine bM ?_
  have hd : decide ((l.length : Int) < (l.length : Int)) = false := by simp
  simp only [hd, cond_false, List.all_nil, if_true]
 | p :: r, l, done, k, hl, hn, hk => by
  obtain ⟨k, rfl⟩ : ∃ j, k = j + 1 := ⟨k - 1, by omega⟩
  have hlt : done.length < l.length := by rw [hl]; simp
  have hd : decide ((done.length : Int) < (l.length : Int)) = true := by simpa using hlt
  have hg : gi l (done.length : Int) = some p := by rw [bR hlt]; simp [hl]
  have hap : ∀ x : aZ, ap (done.map fun p => (⟨W (p.X + v.X), W (p.Y + v.Y)⟩ : aZ)) [x] = some ((done.map fun p => (⟨W (p.X + v.X), W (p.Y + v.Y)⟩ : aZ)) ++ [x]) := fun x => fX (Nat.le_trans (show _ ≤ 1001 by simp; omega) (by decide))
  cases ha : du p.X p.Y v.X v.Y with
  | false =>
   refine bM ?_
   simp only [hd, cond_true, hg, Kd, fh, ha, Bool.not_false, List.all_cons, Bool.false_and]
   rfl
  | true =>
   have ih := CN (n := n) (v := v) r l (done ++ [p]) k (by rw [hl]; simp) hn (by simp at hk; omega)
   have hw : W ((done.length : Int) + 1) = ((done.length + 1 : Nat) : Int) := dr (by omega)
   refine (cG (s' := (((done ++ [p]).length : Int), (done ++ [p]).map fun p => (⟨W (p.X + v.X), W (p.Y + v.Y)⟩ : aZ))) ?_).trans (ih.trans ?_)
   · simp only [hd, cond_true, cond_false, hg, Kd, fh, ha, Bool.not_true, hap, hw, List.map_append, List.map_cons, List.map_nil, List.length_append, List.length_cons, List.length_nil]
   · simp only [List.all_cons, ha, Bool.true_and]
theorem uk {g : aF} {v : aZ} (hl : g.Poly.length ≤ 70) {n : Nat} (hn : 1000 < n) : jv n g v = some (GJ g v) := by
 unfold jv GJ
 have hl2 : g.Poly.length ≤ maxLen := Nat.le_trans hl (by decide)
 have hR : fy n g = some (iB g) := if_pos hl2
 rw [hR, Kd]
 unfold A7
 cases iB g with
 | false => rfl
 | true =>
  simp only [Bool.not_true, cond_false, cond_true]
  cases g with
  | mk rc l =>
   cases l with
   | nil =>
    have h0 : ((([] : List aZ).length : Int) == 0) = true := rfl
    simp only [h0, cond_true, fh, Kd]
    have ho : um ⟨rc, []⟩ v = (du rc.X1 rc.Y1 v.X v.Y && du rc.X2 rc.Y2 v.X v.Y) := rfl
    rw [ho]
    cases du rc.X1 rc.Y1 v.X v.Y <;> cases du rc.X2 rc.Y2 v.X v.Y <;> rfl
   | cons q t =>
    have h0 : (((q :: t).length : Int) == 0) = false := beq_false_of_ne (by simp; omega)
    have hm := CN (n := n) (v := v) (q :: t) (q :: t) [] n rfl (Nat.le_trans hl (by decide)) (by simp at hl ⊢; omega)
    simp only [h0, cond_false]
    refine (congrArg (fun o => Option.bind o _) hm).trans ?_
    have ho : um ⟨rc, q :: t⟩ v = (q :: t).all fun p => du p.X p.Y v.X v.Y := by
     show (pZ (q :: t)).all (sq (v.X, v.Y)) = _
     unfold pZ; rw [List.all_map]; rfl
    rw [ho]
    cases hA : ((q :: t).all fun p => du p.X p.Y v.X v.Y) with
    | false => simp only [Kd, kS]; rfl
    | true =>
     have hmm : (q :: t).map (fun p => (⟨W (p.X + v.X), W (p.Y + v.Y)⟩ : aZ)) = (q :: t).map fun p => ⟨(mv (v.X, v.Y) (p.X, p.Y)).1, (mv (v.X, v.Y) (p.X, p.Y)).2⟩ := by
      refine List.map_congr_left fun p hp => ?_
      have := List.all_eq_true.1 hA p hp
      obtain ⟨_, _, e1, e2, _⟩ := sa this
      simp only [mv, e1, e2]
     simp only [Kd, kS, cond_true, if_true, hmm, Cv]
theorem Hq {n : Nat} (s : aY) (hn : 2000 < n) : jx n s = some (tz s) := by
 unfold jx tz
 cases s with
 | nil => rfl
 | cons c t =>
  have h0 : ((((c :: t).length : Nat) : Int) == 0) = false := beq_false_of_ne (by simp; omega)
  simp only [h0, cond_false, Kd]
  by_cases h20 : (c :: t).length ≤ 20
  ·
   have hd : decide ((((c :: t).length : Nat) : Int) > 20) = false := by simp at *; omega
   obtain ⟨x, b, h1⟩ := FS (n := n) (s := c :: t) (a := 0) (c := c) (t := t) (by omega) rfl hn
   have h1' : gh n (c :: t) 0 = _ := h1
   rw [hd, cond_false, decide_eq_true h20, Bool.true_and, h1', Kd]
   cases uh (c :: t) with
   | none => rfl
   | some p =>
    obtain ⟨y, j⟩ := p
    have : ((((0 + j : Nat)) : Int) == (((c :: t).length : Nat) : Int)) = (j == (c :: t).length) := by rw [Nat.zero_add]; exact CH _ _
    simp only [cond_true, this]
    cases j == (c :: t).length <;> cases y.k == 1 <;> rfl
  ·
   have hd : decide ((((c :: t).length : Nat) : Int) > 20) = true := by simp at *; omega
   rw [hd, decide_eq_false h20]; rfl
theorem wy {α : Type} (p : α → Bool) (l : List α) : (match l.findIdx? fun a => !p a with | some _ => false | none => true) = l.all p := by
 have h := tm (p := fun a => !p a) (l := l)
 rw [List.all_eq_not_any_not, h]
 cases l.findIdx? (fun a => !p a) <;> rfl
theorem EZ {n : Nat} (s : aY) (hl : s.length ≤ maxLen) (hn : s.length < n) : gr n s = some (oK s) := by
 unfold gr oK
 refine (congrArg (fun o => Option.bind o _) (ju (l := s) (p := fun c => !ca c) (r := fun _ => false) (q := ()) (fun i => (i : Int)) (fun i h => ?_) ?_ hn)).trans ?_
 ·
  have hd : decide ((i : Int) < (s.length : Int)) = true := by simpa using h
  have h1 : decide (((s[i].toNat : Nat) : Int) < 32) = !decide (32 ≤ s[i].toNat) := by rw [Bool.eq_iff_iff]; simp; omega
  have h2 : decide (((s[i].toNat : Nat) : Int) > 126) = !decide (s[i].toNat ≤ 126) := by rw [Bool.eq_iff_iff]; simp; omega
  have h3 := AK s[i]
  have h4 : (((s[i].toNat : Nat) : Int) == 34) = !(s[i] != 34) := by rw [← h3]; show _ = !(!_); rw [Bool.not_not]
  simp only [hd, cond_true, bR h, Kd, h1, h2, h4, dr (show i + 1 < 9223372036854775808 by have := li hl; omega)]
  rw [show ca s[i] = (decide (32 ≤ s[i].toNat) && (decide (s[i].toNat ≤ 126) && s[i] != 34)) from rfl]
  cases decide (32 ≤ s[i].toNat) <;> cases decide (s[i].toNat ≤ 126) <;> cases (s[i] != 34) <;> rfl
 · simp
 ·
  have e := wy ca s
  have h2 : decide ((s.length : Int) ≤ 200) = decide (s.length ≤ 200) := by rw [Bool.eq_iff_iff]; simp; omega
  rw [← e, h2]
  cases s.findIdx? (fun c => !ca c) <;> rfl
theorem FR (n : Nat) (s : aY) : iQ n s = some (sE.contains s) := by
 unfold iQ sE
 rw [List.contains_eq_any_beq]
 simp only [List.any_cons, List.any_nil, Bool.or_false]
 cases s == [60] <;> cases s == [60, 61] <;> cases s == [61] <;> cases s == [33, 61] <;> cases s == [62, 61] <;> rfl
theorem GY (x4 : Bool) (x2 : aI) : (bif (!(x2.Name == [])) then some true else (bif (!(x2.Text == x4)) then some true else (bif x2.Text then (bif (x2.N != 0) then some true else (bif (!(oK x2.S)) then some true else (bif (!x2.Text) then some (!(x2.S == [])) else some false))) else (bif (!x2.Text) then some (!(x2.S == [])) else some false))) : Option Bool) = some (!mJ x4 x2) := by
 unfold mJ
 have : (x2.N != 0) = !(x2.N == 0) := rfl
 rw [this]
 cases x2.Name == [] <;> cases x2.Text <;> cases x4 <;> cases x2.N == 0 <;> cases oK x2.S <;> cases x2.S == [] <;> rfl
theorem G8 {n : Nat} {k : Int} {nm op : aY} {vals : List aI} {l : List aa} (hv : vals.length ≤ maxLen) (hs : ∀ a ∈ vals, a.S.length ≤ maxLen ∧ a.S.length < n) (hn2 : vals.length + 2000 < n) (hk : k = 4 ∨ k = 5 ∨ k = 6) :
  jg n (.mk k nm op vals l) = some (qO k nm op vals l) := by
 unfold jg qO
 simp only [Hq nm (show 2000 < n by omega), Kd]
 cases tz nm with
 | false => rfl
 | true =>
  cases l with
  | cons x l =>
   have : decide ((((x :: l).length : Nat) : Int) > 0) = true := by simp
   rw [this]; rfl
  | nil =>
   cases vals with
   | nil => rfl
   | cons v r =>
    have h0 : decide (((([] : List aa).length : Nat) : Int) > 0) = false := rfl
    have h1 : ((((v :: r).length : Nat) : Int) == 0) = false := beq_false_of_ne (by simp; omega)
    have hg : gi (v :: r) 0 = some v := rfl
    have e1 : ((((v :: r).length : Nat) : Int) == 1) = r.isEmpty := by cases r with
     | nil => rfl
     | cons w r => exact beq_false_of_ne (by simp; omega)
    have e20 : decide ((((v :: r).length : Nat) : Int) > 20) = !decide (r.length ≤ 19) := by rw [Bool.eq_iff_iff]; simp; omega
    have hloop := ju (l := v :: r) (ε := Bool) (τ := Unit) (p := fun a => !mJ v.Text a) (r := fun _ => false) (q := ()) (fun i => (i : Int)) (body := fun (i1 : Int) => (bif (decide (i1 < (((v :: r).length : Nat) : Int))) then ((gi (v :: r) i1).bind fun x2 => (gr n x2.S).bind fun plain1 => (bif (!(x2.Name == [])) then some true else ((gi (v :: r) 0).bind fun x4 => bif (!(x2.Text == x4.Text)) then some true else (bif x2.Text then (bif (x2.N != 0) then some true else (bif (!plain1) then some true else (bif (!x2.Text) then some (!(x2.S == [])) else some false))) else (bif (!x2.Text) then some (!(x2.S == [])) else some false))) : Option Bool).bind fun (x3 : Bool) => (bif x3 then some (Sum.inr (Sum.inr false)) else some (Sum.inl (W (i1 + 1))))) else some (Sum.inr (Sum.inl ())))) (fun i h => ?_) ?_ (show (v :: r).length < n by omega)
    ·
     simp only [h0, h1, cond_false, e20, Kd, Bool.not_true, Bool.true_and, List.isEmpty_nil, hg]
     cases h19 : decide (r.length ≤ 19) with
     | false =>
      simp only [Bool.not_false, cond_true]
      have hne : r.isEmpty = false := by
       cases r with
       | nil => simp at h19
       | cons _ _ => rfl
      rw [hne]
      rcases hk with rfl | rfl | rfl <;> cases (v :: r).all (mJ v.Text) <;> rfl
     | true =>
      simp only [Bool.not_true, cond_false]
      simp only [hg, Kd] at hloop
      refine (congrArg (fun o => Option.bind o _) hloop).trans ?_
      have e := wy (mJ v.Text) (v :: r)
      rw [← e]
      cases (v :: r).findIdx? (fun a => !mJ v.Text a) with
      | some i => rfl
      | none =>
       simp only [kS, Kd, e1, FR, Bool.true_and]
       rcases hk with rfl | rfl | rfl
       · cases r.isEmpty <;> rfl
       · cases r.isEmpty <;> cases v.Text <;> rfl
       · cases op == [] <;> rfl
    ·
     have hd : decide ((i : Int) < (((v :: r).length : Nat) : Int)) = true := by simp at h ⊢; omega
     have hm := hs _ (List.getElem_mem h)
     have hlm := li hv
     simp only [hd, cond_true, bR h, Kd, EZ _ hm.1 hm.2, hg, GY, dr (show i + 1 < 9223372036854775808 by omega)]
     cases mJ v.Text (v :: r)[i] <;> rfl
    · simp
theorem FB {l : List aI} {a b : aY} {k : Int} {fs : List aa} (h : bQ (.mk k a b l fs)) : ∀ x ∈ l, x.S.length ≤ maxLen := by
 simp only [bQ] at h
 exact fun x hx => (h.2.2.2.1.2 x hx).2.2.2
def Dr : List aI → Nat
 | [] => 0
 | a :: l => max a.S.length (Dr l)
theorem xZ : ∀ {l : List aI} {a : aI}, a ∈ l → a.S.length ≤ Dr l
 | x :: l, a, h => by
  rcases List.mem_cons.1 h with rfl | h
  · simp only [Dr]; omega
  · have := xZ h; simp only [Dr]; omega
theorem Cj : ∀ f : aa, bQ f → Ev fun n => fb n f = some (hQ f)
 | .mk k nm op vals l, hf => by
  obtain ⟨h1, h2, h3⟩ := oZ hf
  have hS := FB hf
  have ih : Ev fun n => ∀ x ∈ l, fb n x = some (hQ x) := Ev.all fun x hx => Cj x (kH h3 x hx)
  refine Ev.succ ((ih.big (vals.length + l.length + Dr vals + 2001)).mono fun n hh => ?_)
  obtain ⟨hn, ih⟩ := hh
  rw [fb, hQ]
  have hx1 : (bif (k == 4) then some true else (bif (k == 5) then some true else some (k == 6)) : Option Bool) = some (k == 4 || (k == 5 || k == 6)) := by cases k == 4 <;> cases k == 5 <;> rfl
  simp only [hx1, Kd]
  cases hk : (k == 4 || (k == 5 || k == 6)) with
  | true =>
   have hk' : k = 4 ∨ k = 5 ∨ k = 6 := by simpa using hk
   simp only [cond_true, G8 h1 (fun a ha => ⟨hS a ha, by have := xZ ha; omega⟩) (show vals.length + 2000 < n by omega) hk', Kd]
  | false =>
   simp only [cond_false]
   have e1 : (((l.length : Nat) : Int) == 1) = (l.length == 1) := CH _ 1
   have e0 : (((l.length : Nat) : Int) == 0) = (l.length == 0) := CH _ 0
   have hmany : (bif (k == 1) then (bif (decide (((l.length : Nat) : Int) ≥ 2)) then some true else (bif (k == 3) then (bif (((l.length : Nat) : Int) == 1) then some true else (bif (k == 7) then some (((l.length : Nat) : Int) == 0) else some false)) else (bif (k == 7) then some (((l.length : Nat) : Int) == 0) else some false))) else (bif (k == 2) then (bif (decide (((l.length : Nat) : Int) ≥ 2)) then some true else (bif (k == 3) then (bif (((l.length : Nat) : Int) == 1) then some true else (bif (k == 7) then some (((l.length : Nat) : Int) == 0) else some false)) else (bif (k == 7) then some (((l.length : Nat) : Int) == 0) else some false))) else (bif (k == 3) then (bif (((l.length : Nat) : Int) == 1) then some true else (bif (k == 7) then some (((l.length : Nat) : Int) == 0) else some false)) else (bif (k == 7) then some (((l.length : Nat) : Int) == 0) else some false))) : Option Bool) = some (sN k l.length) := by
    rw [As, e1, e0]
    unfold sN
    by_cases q1 : k = 1
    · subst q1; cases decide (2 ≤ l.length) <;> rfl
    by_cases q2 : k = 2
    · subst q2; cases decide (2 ≤ l.length) <;> rfl
    by_cases q3 : k = 3
    · subst q3; cases l.length == 1 <;> rfl
    have b1 : (k == 1) = false := by simpa using q1
    have b2 : (k == 2) = false := by simpa using q2
    have b3 : (k == 3) = false := by simpa using q3
    rw [b1, b2, b3]
    cases k == 7 <;> rfl
   have e3 : decide (((vals.length : Nat) : Int) > 0) = !vals.isEmpty := by cases vals <;> simp
   simp only [hmany, Kd, e3]
   cases sN k l.length with
   | false => rfl
   | true =>
    cases nm == [] with
    | false => rfl
    | true =>
     cases op == [] with
     | false => rfl
     | true =>
      cases vals.isEmpty with
      | false => rfl
      | true =>
       simp only [Bool.not_true, cond_false, Kd, Bool.true_and]
       refine (congrArg (fun o => Option.bind o _) (ju (l := l) (p := fun x => !(hQ x && (bif k == 3 then true else !(gL x == k)))) (r := fun _ => false) (q := ()) (fun i => (i : Int)) (fun i h => ?_) ?_ (show l.length < n by omega))).trans ?_
       ·
        have hd : decide ((i : Int) < (l.length : Int)) = true := by simpa using h
        have h5 := ih _ (List.getElem_mem h)
        have hlm := li h2
        simp only [hd, cond_true, bR h, Kd, dr (show i + 1 < 9223372036854775808 by omega)]
        have hne : (k != 3) = !(k == 3) := rfl
        cases hx : l[i] with
        | mk a b c d e =>
         rw [hx] at h5
         simp only [h5, Kd, hne]
         rw [show gL (.mk a b c d e) = a from rfl]
         cases hQ (.mk a b c d e) <;> cases k == 3 <;> cases a == k <;> rfl
       · simp
       ·
        have e := wy (fun x => hQ x && (bif k == 3 then true else !(gL x == k))) l
        rw [sm, ← e]
        cases l.findIdx? (fun x => !(hQ x && (bif k == 3 then true else !(gL x == k)))) <;> rfl
theorem CP : ∀ f : aa, bQ f → aX f ≤ 4611686018427387904 → Ev fun n => e8 n f = some (fT f : Int)
 | .mk k nm op vals l, hf, hN => by
  obtain ⟨h1, h2, h3⟩ := oZ hf
  have hNl : bc l + 1 ≤ 4611686018427387904 := by simpa only [aX] using hN
  have ih : Ev fun n => ∀ x ∈ l, e8 n x = some (fT x : Int) := Ev.all fun x hx => CP x (kH h3 x hx) (by have := nD hx; omega)
  refine Ev.succ ((ih.big (l.length + 1)).mono fun n hh => ?_)
  obtain ⟨hn, ih⟩ := hh
  rw [e8, fT]
  have hd := kM l
  refine (congrArg (fun o => Option.bind o _) (db (fun i => (((iw (l.take i) : Nat) : Int), (i : Int))) l.length (e := (iw l : Int)) (fun i hi => ?_) ?_ n (by omega))).trans ?_
  ·
   have hde : decide ((i : Int) < (l.length : Int)) = true := by simpa using hi
   have h5 := ih _ (List.getElem_mem hi)
   simp only [hde, cond_true, bR hi, Kd]
   rw [lO hi, oT]
   cases hx : l[i] with
   | mk a b c d e =>
    rw [hx] at h5
    simp only [h5, Kd, dr (show i + 1 < 9223372036854775808 by have := li h2; omega)]
    by_cases hgt : iw (l.take i) < fT (.mk a b c d e)
    ·
     have : decide (((fT (.mk a b c d e) : Nat) : Int) > ((iw (l.take i) : Nat) : Int)) = true := by simp; omega
     rw [this, Nat.max_eq_right (by omega)]; rfl
    ·
     have : decide (((fT (.mk a b c d e) : Nat) : Int) > ((iw (l.take i) : Nat) : Int)) = false := by simp; omega
     rw [this, Nat.max_eq_left (by omega)]; rfl
  ·
   have hde : decide ((l.length : Int) < (l.length : Int)) = false := by simp
   simp only [hde, cond_false, List.take_length]
  ·
   simp only [Kd]
   rw [dr (by omega)]
theorem Au : ∀ f : aa, bQ f → aX f ≤ 4611686018427387904 → Ev fun n => ew n f = some (aX f : Int)
 | .mk k nm op vals l, hf, hN => by
  obtain ⟨h1, h2, h3⟩ := oZ hf
  have hNl : bc l + 1 ≤ 4611686018427387904 := by simpa only [aX] using hN
  have ih : Ev fun n => ∀ x ∈ l, ew n x = some (aX x : Int) := Ev.all fun x hx => Au x (kH h3 x hx) (by have := nD hx; omega)
  refine Ev.succ ((ih.big (l.length + 1)).mono fun n hh => ?_)
  obtain ⟨hn, ih⟩ := hh
  rw [ew, aX]
  refine (congrArg (fun o => Option.bind o _) (db (fun i => (((bc (l.take i) + 1 : Nat) : Int), (i : Int))) l.length (e := ((bc l + 1 : Nat) : Int)) (fun i hi => ?_) ?_ n (by omega))).trans ?_
  ·
   have hde : decide ((i : Int) < (l.length : Int)) = true := by simpa using hi
   have h5 := ih _ (List.getElem_mem hi)
   have hnt := kF l (i + 1)
   rw [lO hi, jr] at hnt
   simp only [hde, cond_true, bR hi, Kd]
   rw [lO hi, jr]
   cases hx : l[i] with
   | mk a b c d e =>
    rw [hx] at h5 hnt
    have hW : W (((bc (l.take i) + 1 : Nat) : Int) + ((aX (.mk a b c d e) : Nat) : Int)) = ((bc (l.take i) + aX (.mk a b c d e) + 1 : Nat) : Int) := by
     rw [show ((bc (l.take i) + 1 : Nat) : Int) + ((aX (.mk a b c d e) : Nat) : Int) = ((bc (l.take i) + aX (.mk a b c d e) + 1 : Nat) : Int) by omega]; exact iD (by omega)
    simp only [h5, Kd, hW, dr (show i + 1 < 9223372036854775808 by have := li h2; omega)]
  ·
   have hde : decide ((l.length : Int) < (l.length : Int)) = false := by simp
   simp only [hde, cond_false, List.take_length]
  · rfl
theorem HU {f : aa} (hf : bQ f) (hN : aX f ≤ 4611686018427387904) : Ev fun n => kn n f = some (y6 f) := by
 refine ((Cj f hf).and ((CP f hf hN).and (Au f hf hN))).mono fun n h => ?_
 obtain ⟨e1, e2, e3⟩ := h
 unfold kn y6
 have d1 : decide (((fT f : Nat) : Int) ≤ 10) = decide (fT f ≤ 10) := by rw [Bool.eq_iff_iff]; simp; omega
 have d2 : decide (((aX f : Nat) : Int) ≤ 60) = decide (aX f ≤ 60) := by rw [Bool.eq_iff_iff]; simp; omega
 cases f
 simp only [e1, e2, e3, Kd, d1, d2]
 cases hQ _ <;> cases decide (fT _ ≤ 10) <;> cases decide (aX _ ≤ 60) <;> rfl
def ee (all : TL) (i : Nat) (b : Bool) : aO := ⟨all.map lA, (i : Int), b⟩
theorem yn {all : TL} {i : Nat} {t : ax} {r : TL} (h : all.drop i = t :: r) : i < all.length ∧ all[i]? = some t ∧ all.drop (i + 1) = r := by
 have h1 : i < all.length := by
  have := congrArg List.length h; simp at this; omega
 refine ⟨h1, ?_, ?_⟩
 · have := congrArg (fun l => l[0]?) h; simpa using this
 · have := congrArg (fun l => List.drop 1 l) h; simpa [List.drop_drop] using this
theorem Is {all : TL} {i : Nat} (h : all.drop i = []) : all.length ≤ i := by
 have := congrArg List.length h; simp at this; omega
theorem Gd (n : Nat) (all : TL) (i : Nat) : fD n (ee all i false) = some ((match all.drop i with | [] => 0 | t :: _ => t.Kind), ee all i false) := by
 unfold fD ee
 cases h : all.drop i with
 | nil =>
  have := Is h
  have hd : decide ((i : Int) ≥ ((all.map lA).length : Int)) = true := by simp; omega
  simp only [cond_false, hd, Kd, cond_true]
 | cons t r =>
  obtain ⟨h1, h2, -⟩ := yn h
  have hd : decide ((i : Int) ≥ ((all.map lA).length : Int)) = false := by simp; omega
  have hg : gi (all.map lA) (i : Int) = some (lA t) := by rw [sW, List.getElem?_map, h2]; rfl
  simp only [cond_false, hd, Kd, hg]
  rfl
theorem ng (n : Nat) {all : TL} {i : Nat} (hi : i ≤ 1000) (s : aY) : bu n (ee all i false) s = some (match tk s (all.drop i) with | some _ => (true, ee all (i + 1) false) | none => (false, ee all i false)) := by
 unfold bu
 rw [Gd, Kd]
 cases h : all.drop i with
 | nil => simp [tk]
 | cons t r =>
  obtain ⟨h1, h2, -⟩ := yn h
  have hg : gi (ee all i false).L (ee all i false).At = some (lA t) := by show gi (all.map lA) (i : Int) = _; rw [sW, List.getElem?_map, h2]; rfl
  have hw : W ((ee all i false).At + 1) = ((i + 1 : Nat) : Int) := dr (by omega)
  have e2 : (bif (t.Kind != 2) then some (t.Kind != 5) else some false : Option Bool) = some (!(t.Kind == 2 || t.Kind == 5)) := by
   show (bif !(t.Kind == 2) then some !(t.Kind == 5) else some false : Option Bool) = _
   cases t.Kind == 2 <;> cases t.Kind == 5 <;> rfl
  simp only [e2, Kd, tk, IB]
  obtain ⟨x, hb⟩ : ∃ x, (t.Kind == 2 || t.Kind == 5) = x := ⟨_, rfl⟩
  obtain ⟨y, hy⟩ : ∃ y, (t.S == s) = y := ⟨_, rfl⟩
  cases x with
  | false => simp [hb]
  | true =>
   simp only [hb, Bool.not_true, cond_false, hg, Kd, hw, Bool.and_true]
   rw [show (lA t).S = t.S from rfl]
   cases y <;> simp only [hy] <;> rfl
theorem wQ (n : Nat) (all : TL) (i : Nat) (s : aY) : bu n (ee all i true) s = some (false, ee all i true) := rfl
theorem Dw (n : Nat) {all : TL} {i : Nat} (hi : i ≤ 1000) (s : aY) : cU n (ee all i false) s = some (match tk s (all.drop i) with | some _ => ee all (i + 1) false | none => ee all i true) := by
 unfold cU
 rw [ng n hi, Kd]
 cases tk s (all.drop i) <;> rfl
theorem vH (n : Nat) (all : TL) (i : Nat) (s : aY) : cU n (ee all i true) s = some (ee all i true) := rfl
theorem zg (n : Nat) {all : TL} {i : Nat} (hi : i ≤ 1000) (a b : Int) (ks : List Int) (hks : ∀ k : Int, ks.contains k = ((k == a) || (k == b))) (ha : a ≠ 0) (hb : b ≠ 0) :
  cJ n (ee all i false) a b = some (match kA ks (all.drop i) with | some (t, _) => (lA t, ee all (i + 1) false) | none => (⟨0, 0, 0, []⟩, ee all i true)) := by
 unfold cJ
 rw [Gd, Kd]
 cases h : all.drop i with
 | nil => simp only [kA]; rfl
 | cons t r =>
  obtain ⟨h1, h2, -⟩ := yn h
  have hw : W ((ee all i false).At + 1) = ((i + 1 : Nat) : Int) := dr (by omega)
  have hw2 : W (((i + 1 : Nat) : Int) - 1) = (i : Int) := by rw [show ((i + 1 : Nat) : Int) - 1 = (i : Int) by omega]; exact iD (by omega)
  have hg : gi (ee all i false).L (i : Int) = some (lA t) := by show gi (all.map lA) (i : Int) = _; rw [sW, List.getElem?_map, h2]; rfl
  have e2 : (bif (t.Kind == 0) then some true else (bif (t.Kind != a) then some (t.Kind != b) else some false) : Option Bool) = some (!ks.contains t.Kind) := by
   rw [hks]
   show (bif (t.Kind == 0) then some true else (bif !(t.Kind == a) then some !(t.Kind == b) else some false) : Option Bool) = _
   cases h0 : t.Kind == 0 with
   | true =>
    have h0 : t.Kind = 0 := by simpa using h0
    have h3 : (t.Kind == a) = false := beq_false_of_ne (by omega)
    have h4 : (t.Kind == b) = false := beq_false_of_ne (by omega)
    rw [h3, h4]; rfl
   | false => cases t.Kind == a <;> cases t.Kind == b <;> rfl
  simp only [e2, Kd, kA]
  obtain ⟨x, hb⟩ : ∃ x, ks.contains t.Kind = x := ⟨_, rfl⟩
  cases x with
  | false => simp only [hb]; rfl
  | true =>
   simp only [hb, Bool.not_true, cond_false, hw, hw2, hg, Kd]
   rfl
theorem FI (n : Nat) (all : TL) (i : Nat) (a b : Int) : cJ n (ee all i true) a b = some (⟨0, 0, 0, []⟩, ee all i true) := rfl
theorem JF : ∀ k : Int, ([3, 4] : List Int).contains k = ((k == 3) || (k == 4)) := fun k => by simp only [List.contains, List.elem]; cases k == 3 <;> cases k == 4 <;> rfl
theorem J6 : ∀ k : Int, ([1] : List Int).contains k = ((k == 1) || (k == 1)) := fun k => by simp only [List.contains, List.elem]; cases k == 1 <;> rfl
theorem J8 : ∀ k : Int, ([5] : List Int).contains k = ((k == 5) || (k == 5)) := fun k => by simp only [List.contains, List.elem]; cases k == 5 <;> rfl
theorem ET (n : Nat) {all : TL} {i : Nat} (hi : i ≤ 1000) : cw n (ee all i false) = some (match kA [3, 4] (all.drop i) with | some (t, _) => (eM t, ee all (i + 1) false) | none => (⟨[], false, 0, []⟩, ee all i true)) := by
 unfold cw
 rw [zg n hi 3 4 [3, 4] JF (by decide) (by decide), Kd]
 cases kA [3, 4] (all.drop i) with
 | none => rfl
 | some p =>
  obtain ⟨t, r⟩ := p
  unfold eM
  simp only
  rw [show (lA t).Kind = t.Kind from rfl]
  cases t.Kind == 4 <;> rfl
theorem A5 (n : Nat) (all : TL) (i : Nat) : cw n (ee all i true) = some (⟨[], false, 0, []⟩, ee all i true) := rfl
theorem jb {s : aY} {all r : TL} {i : Nat} (h : tk s (all.drop i) = some r) : i < all.length ∧ r = all.drop (i + 1) := by
 cases hd : all.drop i with
 | nil => rw [hd] at h; cases h
 | cons t l =>
  obtain ⟨h1, -, h2⟩ := yn hd
  rw [hd, tk] at h; split at h <;> cases h
  exact ⟨h1, h2.symm⟩
theorem lL {ks : List Int} {all r : TL} {t : ax} {i : Nat} (h : kA ks (all.drop i) = some (t, r)) : i < all.length ∧ r = all.drop (i + 1) := by
 cases hd : all.drop i with
 | nil => rw [hd] at h; cases h
 | cons t l =>
  obtain ⟨h1, -, h2⟩ := yn hd
  rw [hd, kA] at h; split at h <;> cases h
  exact ⟨h1, h2.symm⟩
def RD (all : TL) (i : Nat) (o : Option (aa × TL)) (res : aa × aO) : Prop :=
 ∃ i' b, res.2 = ee all i' b ∧ i ≤ i' ∧ i' ≤ all.length ∧ aX res.1 + 2 * (all.length - i') ≤ 2 * (all.length - i) + 1 ∧ match o with | some (g, r) => res.1 = g ∧ b = false ∧ r = all.drop i' | none => b = true
def nr (n : Nat) (t0 : Bool) (s : List aE × Int × Bool × List aI) : Option ((List aE × Int × Bool × List aI) ⊕ (List aE × Int × Bool × List aI)) := match s with
 | (p2, p3, p4, l2) => (bu n (aO.mk p2 p3 p4) [44]).bind fun x5 => bif x5.1 then ((cw n x5.2).bind fun x6 => (bif x6.2.Bad then some true else some (!(x6.1.Text == t0)) : Option Bool).bind fun (p11 : Bool) => ((ap l2 [x6.1]).bind fun l5 => some (Sum.inl (x6.2.L, x6.2.At, p11, l5)))) else some (Sum.inr (x5.2.L, x5.2.At, x5.2.Bad, l2))
theorem rM (n k : Nat) (t0 : Bool) (all : TL) (i : Nat) (l : List aI) : bm (nr n t0) (k + 1) (all.map lA, (i : Int), true, l) = some (all.map lA, (i : Int), true, l) :=
 bM (by
  have h := wQ n all i [44]
  unfold ee at h
  simp only [nr, h, Kd, cond_false])
theorem uO {n : Nat} {all : TL} (hall : all.length ≤ 900) : ∀ (m i : Nat) (l : List aI) (k : Nat), all.length < i + m → i ≤ all.length → l ≠ [] → l.length + (all.length - i) ≤ 1900 → m + 1 < k →
  ∃ (l' : List aI) (i' : Nat) (b : Bool), bm (nr n (hT l)) k (all.map lA, (i : Int), false, l) = some (all.map lA, (i' : Int), b, l') ∧ i ≤ i' ∧ i' ≤ all.length ∧ match pV m l (all.drop i) with | some (vs, r) => l' = vs ∧ b = false ∧ r = all.drop i' | none => b = true
 | 0, i, l, k, h, h2, _, _, _ => by omega
 | m + 1, i, l, k, h, hi, hl, hc, hk => by
  obtain ⟨k, rfl⟩ : ∃ j, k = j + 2 := ⟨k - 2, by omega⟩
  have ht := ng n (all := all) (i := i) (by omega) [44]
  have hap : ∀ v : aI, ap l [v] = some (l ++ [v]) := fun v => fX (Nat.le_trans (show l.length + 1 ≤ 2001 by omega) (by decide))
  rw [pV]
  cases h1 : tk [44] (all.drop i) with
  | none =>
   rw [h1] at ht
   refine ⟨l, i, false, bM ?_, Nat.le_refl _, hi, by simp⟩
   unfold ee at ht
   simp only [nr, ht, Kd, cond_false]
  | some r =>
   rw [h1] at ht
   obtain ⟨hlt, rfl⟩ := jb h1
   have hv := ET n (all := all) (i := i + 1) (by omega)
   simp only
   cases h2 : kA [3, 4] (all.drop (i + 1)) with
   | none =>
    rw [h2] at hv
    refine ⟨l ++ [⟨[], false, 0, []⟩], i + 1, true, (cG (s' := (all.map lA, ((i + 1 : Nat) : Int), true, l ++ [⟨[], false, 0, []⟩])) ?_).trans (rM n k _ all (i + 1) _), by omega, by omega, rfl⟩
    unfold ee at ht hv
    simp only [nr, ht, hv, Kd, cond_true, hap]
   | some q =>
    obtain ⟨t, r2⟩ := q
    rw [h2] at hv
    obtain ⟨hlt2, rfl⟩ := lL h2
    have hstep : nr n (hT l) (all.map lA, (i : Int), false, l) = some (.inl (all.map lA, ((i + 1 + 1 : Nat) : Int), !((eM t).Text == hT l), l ++ [eM t])) := by
     unfold ee at ht hv
     simp only [nr, ht, hv, Kd, cond_true, cond_false, hap]
    simp only
    cases he : (eM t).Text == hT l with
    | false =>
     rw [he] at hstep
     exact ⟨_, i + 1 + 1, true, (cG hstep).trans (rM n k _ all (i + 1 + 1) _), by omega, by omega, rfl⟩
    | true =>
     rw [he] at hstep
     obtain ⟨l', i', b, e1, e2, e3, e4⟩ := uO (n := n) hall m (i + 1 + 1) (l ++ [eM t]) (k + 1) (by omega) (by omega) (by simp) (by simp; omega) (by omega)
     rw [Ek hl] at e1
     exact ⟨l', i', b, (cG hstep).trans e1, by omega, e3, e4⟩
def FQ (fu : Nat) (p1 : aO) : Option (aa × aO) :=
 (cJ fu p1 1 1).bind fun x1 => (bu fu x1.2 [105, 110]).bind fun x2 => bif x2.1 then ((cU fu x2.2 [40]).bind fun x3 => (cw fu x3).bind fun x4 => (ap [] [x4.1]).bind fun l1 => (bm (nr fu x4.1.Text) fu (x4.2.L, x4.2.At, x4.2.Bad, l1)).bind fun (((p8, p9, p10, l4)) : (List aE) × Int × Bool × (List aI)) => ((cU fu (aO.mk p8 p9 p10) [41]).bind fun x7 => some ((aa.mk 6 x1.1.S [] l4 []), x7))) else ((bu fu x2.2 [94, 61]).bind fun x8 => bif x8.1 then ((cw fu x8.2).bind fun x9 => (bif x9.2.Bad then some true else some (!x9.1.Text) : Option Bool).bind fun (x10 : Bool) => ((ap [] [x9.1]).bind fun l6 => some ((aa.mk 5 x1.1.S [] l6 []), (aO.mk x9.2.L x9.2.At x10)))) else ((cJ fu x8.2 5 5).bind fun x11 => (bif x11.2.Bad then some true else ((iQ fu x11.1.S).bind fun x12 => some (!x12)) : Option Bool).bind fun (p12 : Bool) => ((cw fu (aO.mk x11.2.L x11.2.At p12)).bind fun x13 => (ap [] [x13.1]).bind fun l7 => some ((aa.mk 4 x1.1.S x11.1.S l7 []), x13.2))))
theorem CX (n : Nat) (p : aO) : ga n p = FQ n p := rfl
theorem i7 {all : TL} {i i' : Nat} {k : Int} {a b : aY} {v : List aI} (h : i ≤ i') (h2 : i' ≤ all.length) : RD all i none (.mk k a b v [], ee all i' true) := ⟨i', true, rfl, h, h2, by simp only [aX, bc]; omega, rfl⟩
theorem pw {all r : TL} {i i' : Nat} {k : Int} {a b : aY} {v : List aI} (h : i ≤ i') (h2 : i' ≤ all.length) (hr : r = all.drop i') : RD all i (some (.mk k a b v [], r)) (.mk k a b v [], ee all i' false) := ⟨i', false, rfl, h, h2, by simp only [aX, bc]; omega, rfl, rfl, hr⟩
theorem Ex {α : Type} (x : α) : ap [] [x] = some [x] := fX (show 0 + 1 ≤ vW from by decide)
theorem Hu {n : Nat} {all : TL} {i : Nat} (hn : 3000 < n) (hall : all.length ≤ 900) (hi : i ≤ all.length) : ∃ res, ga n (ee all i false) = some res ∧ RD all i (tY (all.drop i)) res := by
 rw [CX]
 unfold FQ tY
 rw [zg n (by omega) 1 1 [1] J6 (by decide) (by decide), Kd]
 cases h1 : kA [1] (all.drop i) with
 | none =>
  simp only [wQ, Kd, cond_false, FI]
  rw [show (ee all i true).Bad = true from rfl, cond_true, Kd, show aO.mk (ee all i true).L (ee all i true).At true = ee all i true from rfl, A5, Kd, Ex, Kd]
  exact ⟨_, rfl, i7 (Nat.le_refl _) hi⟩
 | some q =>
  obtain ⟨t, r⟩ := q
  obtain ⟨hlt, rfl⟩ := lL h1
  simp only [ng n (show i + 1 ≤ 1000 by omega), Kd]
  cases h2 : tk [105, 110] (all.drop (i + 1)) with
  | some r1 =>
   obtain ⟨hlt1, rfl⟩ := jb h2
   simp only [cond_true, Dw n (show i + 1 + 1 ≤ 1000 by omega), Kd]
   obtain ⟨n', hn'⟩ : ∃ j, n = j + 1 := ⟨n - 1, by omega⟩
   cases h3 : tk [40] (all.drop (i + 1 + 1)) with
   | none =>
    simp only [A5, Kd, Ex]
    have e := rM n n' false all (i + 1 + 1) [⟨[], false, 0, []⟩]
    rw [← hn'] at e
    rw [show (ee all (i + 1 + 1) true).L = all.map lA from rfl, show (ee all (i + 1 + 1) true).At = ((i + 1 + 1 : Nat) : Int) from rfl, show (ee all (i + 1 + 1) true).Bad = true from rfl, e, Kd]
    rw [show aO.mk (all.map lA) ((i + 1 + 1 : Nat) : Int) true = ee all (i + 1 + 1) true from rfl, vH, Kd]
    exact ⟨_, rfl, i7 (by omega) (by omega)⟩
   | some r2 =>
    obtain ⟨hlt2, rfl⟩ := jb h3
    simp only [ET n (show i + 1 + 1 + 1 ≤ 1000 by omega), Kd]
    cases h4 : kA [3, 4] (all.drop (i + 1 + 1 + 1)) with
    | none =>
     simp only [Kd, Ex]
     have e := rM n n' false all (i + 1 + 1 + 1) [⟨[], false, 0, []⟩]
     rw [← hn'] at e
     rw [show (ee all (i + 1 + 1 + 1) true).L = all.map lA from rfl, show (ee all (i + 1 + 1 + 1) true).At = ((i + 1 + 1 + 1 : Nat) : Int) from rfl, show (ee all (i + 1 + 1 + 1) true).Bad = true from rfl, e, Kd]
     rw [show aO.mk (all.map lA) ((i + 1 + 1 + 1 : Nat) : Int) true = ee all (i + 1 + 1 + 1) true from rfl, vH, Kd]
     exact ⟨_, rfl, i7 (by omega) (by omega)⟩
    | some q =>
     obtain ⟨v, r3⟩ := q
     obtain ⟨hlt3, rfl⟩ := lL h4
     simp only [Kd, Ex]
     obtain ⟨l', i', b, e1, e2, e3, e4⟩ := uO (n := n) hall ((all.drop (i + 1 + 1 + 1 + 1)).length + 1) (i + 1 + 1 + 1 + 1) [eM v] n (by simp; omega) (by omega) (by simp) (by simp; omega) (by simp; omega)
     rw [show (ee all (i + 1 + 1 + 1 + 1) false).L = all.map lA from rfl, show (ee all (i + 1 + 1 + 1 + 1) false).At = ((i + 1 + 1 + 1 + 1 : Nat) : Int) from rfl, show (ee all (i + 1 + 1 + 1 + 1) false).Bad = false from rfl]
     rw [show hT [eM v] = (eM v).Text from rfl] at e1
     rw [e1, Kd]
     rw [show aO.mk (all.map lA) (i' : Int) b = ee all i' b from rfl]
     cases h5 : pV ((all.drop (i + 1 + 1 + 1 + 1)).length + 1) [eM v] (all.drop (i + 1 + 1 + 1 + 1)) with
     | none =>
      rw [h5] at e4
      obtain rfl : b = true := e4
      simp only [vH, Kd]
      exact ⟨_, rfl, i7 (by omega) (by omega)⟩
     | some q =>
      obtain ⟨vs, r4⟩ := q
      rw [h5] at e4
      obtain ⟨rfl, rfl, rfl⟩ := e4
      simp only [Dw n (show i' ≤ 1000 by omega), Kd]
      cases h6 : tk [41] (all.drop i') with
      | none => exact ⟨_, rfl, i7 (by omega) (by omega)⟩
      | some r5 =>
       obtain ⟨hlt5, rfl⟩ := jb h6
       exact ⟨_, rfl, pw (by omega) (by omega) rfl⟩
  | none =>
   simp only [cond_false, ng n (show i + 1 ≤ 1000 by omega), Kd]
   cases h3 : tk [94, 61] (all.drop (i + 1)) with
   | some r1 =>
    obtain ⟨hlt1, rfl⟩ := jb h3
    simp only [cond_true, ET n (show i + 1 + 1 ≤ 1000 by omega), Kd]
    have h34 : kA [4] (all.drop (i + 1 + 1)) = (match kA [3, 4] (all.drop (i + 1 + 1)) with | some (v, r) => if (eM v).Text then some (v, r) else none | none => none) := by
     cases all.drop (i + 1 + 1) with
     | nil => rfl
     | cons v l =>
      simp only [kA, eM]
      have ha : ([4] : List Int).contains v.Kind = (v.Kind == 4) := by simp only [List.contains, List.elem]; cases v.Kind == 4 <;> rfl
      have hb := JF v.Kind
      rw [ha, hb]
      cases h4 : v.Kind == 4 with
      | true => simp [h4]
      | false => cases v.Kind == 3 <;> simp [h4]
    rw [h34]
    cases h4 : kA [3, 4] (all.drop (i + 1 + 1)) with
    | none =>
     simp only [Kd, Ex]
     rw [show (ee all (i + 1 + 1) true).Bad = true from rfl, cond_true, Kd]
     exact ⟨_, rfl, i7 (i' := i + 1 + 1) (by omega) (by omega)⟩
    | some q =>
     obtain ⟨v, r2⟩ := q
     obtain ⟨hlt2, rfl⟩ := lL h4
     simp only [Kd, Ex]
     rw [show (ee all (i + 1 + 1 + 1) false).Bad = false from rfl, cond_false, Kd]
     cases (eM v).Text with
     | true => exact ⟨_, rfl, pw (i' := i + 1 + 1 + 1) (by omega) (by omega) rfl⟩
     | false => exact ⟨_, rfl, i7 (i' := i + 1 + 1 + 1) (by omega) (by omega)⟩
   | none =>
    simp only [cond_false, zg n (show i + 1 ≤ 1000 by omega) 5 5 [5] J8 (by decide) (by decide), Kd]
    cases h4 : kA [5] (all.drop (i + 1)) with
    | none =>
     simp only [Kd]
     rw [show (ee all (i + 1) true).Bad = true from rfl, cond_true, Kd, show aO.mk (ee all (i + 1) true).L (ee all (i + 1) true).At true = ee all (i + 1) true from rfl, A5, Kd, Ex, Kd]
     exact ⟨_, rfl, i7 (by omega) (by omega)⟩
    | some q =>
     obtain ⟨o, r1⟩ := q
     obtain ⟨hlt1, rfl⟩ := lL h4
     simp only [Kd, FR]
     rw [show (ee all (i + 1 + 1) false).Bad = false from rfl, cond_false, Kd, show (lA o).S = o.S from rfl]
     cases h5 : sE.contains o.S with
     | false =>
      rw [show aO.mk (ee all (i + 1 + 1) false).L (ee all (i + 1 + 1) false).At (!false) = ee all (i + 1 + 1) true from rfl, A5, Kd, Ex, Kd]
      exact ⟨_, rfl, i7 (by omega) (by omega)⟩
     | true =>
      rw [show aO.mk (ee all (i + 1 + 1) false).L (ee all (i + 1 + 1) false).At (!true) = ee all (i + 1 + 1) false from rfl, ET n (by omega), Kd]
      simp only [if_true]
      cases h6 : kA [3, 4] (all.drop (i + 1 + 1)) with
      | none =>
       simp only [Ex, Kd]
       exact ⟨_, rfl, i7 (by omega) (by omega)⟩
      | some q =>
       obtain ⟨v, r2⟩ := q
       obtain ⟨hlt2, rfl⟩ := lL h6
       simp only [Ex, Kd]
       exact ⟨_, rfl, pw (by omega) (by omega) rfl⟩
abbrev DS := Int × List aE × Int × Bool × Int × aY × aY × List aI × List aa
def qU (n : Nat) (part : aO → Option (aa × aO)) (w : aY) (s : DS) : Option (DS ⊕ DS) := match s with
 | (n1, p2, p3, p4, f1, f2, f3, f4, f5) => (bu n (aO.mk p2 p3 p4) w).bind fun x7 => bif x7.1 then ((part x7.2).bind fun x8 => match x8 with | (.mk kind3 name3 op3 vals3 l3, x9) => (dM n (aa.mk f1 f2 f3 f4 f5) (aa.mk kind3 name3 op3 vals3 l3)).bind fun x10 => match x10 with | .mk kind4 name4 op4 vals4 l4 => some (Sum.inl (W (n1 + 1), x9.L, x9.At, x9.Bad, kind4, name4, op4, vals4, l4))) else some (Sum.inr (n1, x7.2.L, x7.2.At, x7.2.Bad, f1, f2, f3, f4, f5))
def E1 (fu : Nat) (part : aO → Option (aa × aO)) (kd : Int) (w : aY) (p1 : aO) : Option (aa × aO) :=
 (part p1).bind fun x1 => match x1 with | (.mk kind1 name1 op1 vals1 l1, x2) => (dM fu (aa.mk kd [] [] [] []) (aa.mk kind1 name1 op1 vals1 l1)).bind fun x3 => match x3 with | .mk kind2 name2 op2 vals2 l2 => (bm (qU fu part w) fu (0, x2.L, x2.At, x2.Bad, kind2, name2, op2, vals2, l2)).bind fun (((n3, x4, x5, x6, f11, f12, f13, f14, f15)) : Int × (List aE) × Int × Bool × Int × aY × aY × (List aI) × (List aa)) => (bif (n3 == 0) then some ((aa.mk kind1 name1 op1 vals1 l1), (aO.mk x4 x5 x6)) else some ((aa.mk f11 f12 f13 f14 f15), (aO.mk x4 x5 x6)))
theorem Gs (n : Nat) (p : aO) : dU (n + 1) p = E1 n (cW n) 1 [97, 110, 100] p := by rw [dU]; rfl
theorem Iu (n : Nat) (p : aO) : fa (n + 1) p = E1 n (dU n) 2 [111, 114] p := by rw [fa]; rfl
theorem CB (n : Nat) (kd : Int) (l : List aa) (f : aa) (h : bc l + aX f ≤ 4000) : dM n (.mk kd [] [] [] l) f = some (.mk kd [] [] [] (l ++ (bif gL f == kd then v8 f else [f]))) := by
 have hl := jU l
 cases f with
 | mk a b c d e =>
  have he := jU e
  simp only [aX] at h
  unfold dM
  simp only [gL, v8]
  have hA : ap [] l = some l := fX (Nat.le_trans (show 0 + l.length ≤ 4000 by omega) (by decide))
  cases a == kd with
  | true => simp only [cond_true, hA, Kd, fX (Nat.le_trans (show l.length + e.length ≤ 4000 by omega) (by decide : 4000 ≤ vW))]
  | false => simp only [cond_false, hA, Kd, fX (Nat.le_trans (show l.length + [(aa.mk a b c d e)].length ≤ 4000 by simp; omega) (by decide : 4000 ≤ vW))]
theorem FM (kd : Int) (f : aa) : dD kd [f] = (bif gL f == kd then v8 f else [f]) := by simp [dD]
theorem Ea (kd : Int) (a b : List aa) : dD kd (a ++ b) = dD kd a ++ dD kd b := by simp [dD]
section
variable {n k : Nat} {all : TL} {part : aO → Option (aa × aO)} {p : TL → Option (aa × TL)}
theorem sz (j : Nat) (w : aY) (i : Nat) (c : Int) (kd : Int) (l : List aa) : bm (qU n part w) (j + 1) (c, all.map lA, (i : Int), true, kd, [], [], [], l) = some (c, all.map lA, (i : Int), true, kd, [], [], [], l) :=
 bM (by
  have h := wQ n all i w
  unfold ee at h
  simp only [qU, h, Kd, cond_false])
theorem xD (hall : all.length ≤ 500) (hp : ∀ i : Nat, i ≤ all.length → all.length < i + k → ∃ res, part (ee all i false) = some res ∧ RD all i (p (all.drop i)) res) (w : aY) (kd : Int) : ∀ (m i : Nat) (acc : List aa) (c : Nat) (j : Nat), all.length < i + m → all.length < i + k → i ≤ all.length → bc acc + 2 * (all.length - i) ≤ 1001 → c + (all.length - i) ≤ 1000 → m + 1 < j →
  ∃ (i' : Nat) (b : Bool) (l2 : List aa), bm (qU n part w) j ((c : Int), all.map lA, (i : Int), false, kd, [], [], [], dD kd acc) = some (((c + l2.length : Nat) : Int), all.map lA, (i' : Int), b, kd, [], [], [], dD kd (acc ++ l2)) ∧ i ≤ i' ∧ i' ≤ all.length ∧
   bc l2 + 2 * (all.length - i') + l2.length ≤ 2 * (all.length - i) ∧ match jn p w m (all.drop i) with | some (x, r) => l2 = x ∧ b = false ∧ r = all.drop i' | none => b = true
 | 0, i, acc, c, j, h, _, _, _, _, _ => by omega
 | m + 1, i, acc, c, j, h, hk, hi, hnod, hc, hj => by
  obtain ⟨j, rfl⟩ : ∃ q, j = q + 2 := ⟨j - 2, by omega⟩
  have ht := ng n (all := all) (i := i) (by omega) w
  rw [jn]
  cases h1 : tk w (all.drop i) with
  | none =>
   rw [h1] at ht
   refine ⟨i, false, [], ?_, Nat.le_refl _, hi, by simp [bc], by simp⟩
   refine bM ?_
   unfold ee at ht
   simp only [qU, ht, Kd, cond_false, List.append_nil, List.length_nil, Nat.add_zero]
  | some r =>
   rw [h1] at ht
   obtain ⟨hlt, rfl⟩ := jb h1
   obtain ⟨⟨f, q⟩, e1, i1, b1, e2, e3, e4, e5, e6⟩ := hp (i + 1) (by omega) (by omega)
   obtain rfl : q = ee all i1 b1 := e2
   have e5 : aX f + 2 * (all.length - i1) ≤ 2 * (all.length - (i + 1)) + 1 := e5
   have hn1 : 0 < aX f := by cases f; simp only [aX]; omega
   have hadd : dM n (.mk kd [] [] [] (dD kd acc)) f = some (.mk kd [] [] [] (dD kd (acc ++ [f]))) := by
    rw [CB n kd _ f (by have := jp kd acc; omega), Ea, FM]
   have hw : W ((c : Int) + 1) = ((c + 1 : Nat) : Int) := dr (by omega)
   have hstep : qU n part w ((c : Int), all.map lA, (i : Int), false, kd, [], [], [], dD kd acc) = some (.inl (((c + 1 : Nat) : Int), all.map lA, (i1 : Int), b1, kd, [], [], [], dD kd (acc ++ [f]))) := by
    cases f with
    | mk a b c d e =>
     unfold ee at ht e1
     simp only [qU, ht, Kd, cond_true]
     rw [show aO.mk (List.map lA all) ((i + 1 : Nat) : Int) false = ee all (i + 1) false from rfl]
     unfold ee
     rw [e1, Kd]
     simp only [hadd, Kd, hw]
   simp only
   cases h2 : p (all.drop (i + 1)) with
   | none =>
    rw [h2] at e6
    obtain rfl : b1 = true := e6
    exact ⟨i1, true, [f], (cG hstep).trans (sz j w i1 _ kd _), by omega, e4, by simp only [bc, List.length_cons, List.length_nil]; omega, rfl⟩
   | some q =>
    obtain ⟨g, r1⟩ := q
    rw [h2] at e6
    obtain ⟨e7, rfl, rfl⟩ := e6
    obtain rfl : f = g := e7
    obtain ⟨i', b, l2, j1, j2, j3, j4, j5⟩ := xD hall hp w kd m i1 (acc ++ [f]) (c + 1) (j + 1) (by omega) (by omega) e4 (by rw [iZ]; simp only [bc]; omega) (by omega) (by omega)
    refine ⟨i', b, f :: l2, (cG hstep).trans ?_, by omega, j3, by simp only [bc, List.length_cons]; omega, ?_⟩
    · rw [j1]; simp only [List.append_assoc, List.singleton_append, List.length_cons, Nat.add_assoc, Nat.add_comm 1]
    ·
     simp only
     cases h3 : jn p w m (all.drop i1) with
     | none => rw [h3] at j5; exact j5
     | some q => obtain ⟨x, r2⟩ := q; rw [h3] at j5; exact ⟨by rw [j5.1], j5.2⟩
theorem Bl (hall : all.length ≤ 500) (hp : ∀ i : Nat, i ≤ all.length → all.length < i + k → ∃ res, part (ee all i false) = some res ∧ RD all i (p (all.drop i)) res) (kd : Int) (w : aY) {i : Nat} (hi : i ≤ all.length) (hk : all.length < i + k) (hn : 5000 < n) (hkn : k + 1 < n) :
  ∃ res, E1 n part kd w (ee all i false) = some res ∧ RD all i (nl p kd w k (all.drop i)) res := by
 obtain ⟨⟨f, q⟩, e1, i1, b1, e2, e3, e4, e5, e6⟩ := hp i hi hk
 obtain rfl : q = ee all i1 b1 := e2
 have e5 : aX f + 2 * (all.length - i1) ≤ 2 * (all.length - i) + 1 := e5
 have hn1 : 0 < aX f := by cases f; simp only [aX]; omega
 have hadd : dM n (.mk kd [] [] [] []) f = some (.mk kd [] [] [] (dD kd [f])) := by
  rw [CB n kd _ f (by simp only [bc]; omega), FM]; rfl
 have hgoal : ∃ res, ((bm (qU n part w) n (0, all.map lA, (i1 : Int), b1, kd, [], [], [], dD kd [f])).bind fun (((n3, x4, x5, x6, f11, f12, f13, f14, f15)) : Int × (List aE) × Int × Bool × Int × aY × aY × (List aI) × (List aa)) => (bif (n3 == 0) then some (f, (aO.mk x4 x5 x6)) else some ((aa.mk f11 f12 f13 f14 f15), (aO.mk x4 x5 x6)))) = some res ∧ RD all i (nl p kd w k (all.drop i)) res := by
  unfold nl
  cases h2 : p (all.drop i) with
  | none =>
   rw [h2] at e6
   obtain rfl : b1 = true := e6
   obtain ⟨n', hn'⟩ : ∃ q, n = q + 1 := ⟨n - 1, by omega⟩
   have hl := sz (n := n) (part := part) (all := all) n' w i1 0 kd (dD kd [f])
   rw [← hn'] at hl
   rw [hl, Kd]
   exact ⟨_, rfl, i1, true, rfl, e3, e4, e5, rfl⟩
  | some q =>
   obtain ⟨g, r1⟩ := q
   rw [h2] at e6
   obtain ⟨e7, rfl, rfl⟩ := e6
   obtain rfl : f = g := e7
   obtain ⟨i', b, l2, j1, j2, j3, j4, j5⟩ := xD (n := n) hall hp w kd k i1 [f] 0 n (by omega) (by omega) e4 (by simp only [bc]; omega) (by omega) (by omega)
   rw [show (0 : Int) = ((0 : Nat) : Int) from rfl, j1, Kd]
   simp only
   cases l2 with
   | nil =>
    refine ⟨(f, ee all i' b), rfl, i', b, rfl, by omega, j3, by show aX f + _ ≤ _; simp only [bc, List.length_nil] at j4; omega, ?_⟩
    cases h3 : jn p w k (all.drop i1) with
    | none => rw [h3] at j5; exact j5
    | some q => obtain ⟨x, r2⟩ := q; rw [h3] at j5; obtain ⟨rfl, rfl, rfl⟩ := j5; exact ⟨rfl, rfl, rfl⟩
   | cons y l2 =>
    have h0 : (((0 + (y :: l2).length : Nat) : Int) == ((0 : Nat) : Int)) = false := beq_false_of_ne (by simp; omega)
    rw [h0, cond_false]
    have hfl := jp kd ([f] ++ y :: l2)
    refine ⟨_, rfl, i', b, rfl, by omega, j3, ?_, ?_⟩
    ·
     show aX (.mk kd [] [] [] (dD kd ([f] ++ y :: l2))) + 2 * (all.length - i') ≤ _
     rw [iZ] at hfl
     simp only [aX, bc, List.length_cons] at j4 hfl ⊢
     omega
    ·
     cases h3 : jn p w k (all.drop i1) with
     | none => rw [h3] at j5; exact j5
     | some q =>
      obtain ⟨x, r2⟩ := q; rw [h3] at j5; obtain ⟨rfl, rfl, rfl⟩ := j5
      simp [DN]
 unfold E1
 rw [e1, Kd]
 cases f
 simp only
 rw [hadd, Kd]
 exact hgoal
end
theorem IU {k : Nat} {all : TL} (hall : all.length ≤ 500) (hnot : ∀ n i : Nat, 5 * k + 6000 ≤ n → i ≤ all.length → all.length < i + k → ∃ res, cW n (ee all i false) = some res ∧ RD all i (lF k (all.drop i)) res) {n i : Nat} (hn : 5 * k + 6002 ≤ n) (hi : i ≤ all.length) (hk : all.length < i + k) :
  ∃ res, dU n (ee all i false) = some res ∧ RD all i (GM k (all.drop i)) res := by
 obtain ⟨n, rfl⟩ : ∃ q, n = q + 1 := ⟨n - 1, by omega⟩
 rw [Gs]
 exact Bl hall (fun i h1 h2 => hnot n i (by omega) h1 h2) 1 [97, 110, 100] hi hk (by omega) (by omega)
theorem II {k : Nat} {all : TL} (hall : all.length ≤ 500) (hnot : ∀ n i : Nat, 5 * k + 6000 ≤ n → i ≤ all.length → all.length < i + k → ∃ res, cW n (ee all i false) = some res ∧ RD all i (lF k (all.drop i)) res) {n i : Nat} (hn : 5 * k + 6004 ≤ n) (hi : i ≤ all.length) (hk : all.length < i + k) :
  ∃ res, fa n (ee all i false) = some res ∧ RD all i (DY k (all.drop i)) res := by
 obtain ⟨n, rfl⟩ : ∃ q, n = q + 1 := ⟨n - 1, by omega⟩
 rw [Iu]
 exact Bl hall (fun i h1 h2 => IU hall hnot (n := n) (by omega) h1 h2) 2 [111, 114] hi hk (by omega) (by omega)
theorem F1 {all : TL} (hall : all.length ≤ 500) : ∀ (k n i : Nat), 5 * k + 6000 ≤ n → i ≤ all.length → all.length < i + k → ∃ res, cW n (ee all i false) = some res ∧ RD all i (lF k (all.drop i)) res
 | 0, n, i, _, _, h => by omega
 | k + 1, n, i, hn, hi, hk => by
  obtain ⟨n, rfl⟩ : ∃ q, n = q + 1 := ⟨n - 1, by omega⟩
  have ih := F1 hall k
  rw [cW, ng n (by omega), Kd, lF]
  cases h1 : tk [110, 111, 116] (all.drop i) with
  | some r =>
   obtain ⟨hlt, rfl⟩ := jb h1
   obtain ⟨⟨f, q⟩, e1, i1, b1, e2, e3, e4, e5, e6⟩ := ih n (i + 1) (by omega) (by omega) (by omega)
   obtain rfl : q = ee all i1 b1 := e2
   have e5 : aX f + 2 * (all.length - i1) ≤ 2 * (all.length - (i + 1)) + 1 := e5
   simp only [cond_true, e1, Kd]
   refine ⟨(.mk 3 [] [] [] [f], ee all i1 b1), by cases f; rfl, i1, b1, rfl, by omega, e4, by show aX (.mk 3 [] [] [] [f]) + _ ≤ _; simp only [aX, bc]; omega, ?_⟩
   cases h2 : lF k (all.drop (i + 1)) with
   | none => rw [h2] at e6; exact e6
   | some q =>
    obtain ⟨g, r1⟩ := q
    rw [h2] at e6
    obtain ⟨e7, rfl, rfl⟩ := e6
    obtain rfl : f = g := e7
    exact ⟨rfl, rfl, rfl⟩
  | none =>
   simp only [cond_false, ng n (show i ≤ 1000 by omega), Kd]
   cases h2 : tk [40] (all.drop i) with
   | some r =>
    obtain ⟨hlt, rfl⟩ := jb h2
    obtain ⟨⟨f, q⟩, e1, i1, b1, e2, e3, e4, e5, e6⟩ := II hall ih (n := n) (i := i + 1) (by omega) (by omega) (by omega)
    obtain rfl : q = ee all i1 b1 := e2
    have e5 : aX f + 2 * (all.length - i1) ≤ 2 * (all.length - (i + 1)) + 1 := e5
    simp only [cond_true, e1, Kd]
    rw [show nl (nl (lF k) 1 [97, 110, 100] k) 2 [111, 114] k (all.drop (i + 1)) = DY k (all.drop (i + 1)) from rfl]
    cases h4 : DY k (all.drop (i + 1)) with
    | none =>
     rw [h4] at e6
     obtain rfl : b1 = true := e6
     refine ⟨(f, ee all i1 true), ?_, i1, true, rfl, by omega, e4, by show aX f + _ ≤ _; omega, rfl⟩
     cases f; simp only [vH, Kd]
    | some q =>
     obtain ⟨g, r1⟩ := q
     rw [h4] at e6
     obtain ⟨e7, rfl, rfl⟩ := e6
     obtain rfl : f = g := e7
     have hm := Dw n (all := all) (i := i1) (by omega) [41]
     cases h5 : tk [41] (all.drop i1) with
     | none =>
      rw [h5] at hm
      refine ⟨(f, ee all i1 true), ?_, i1, true, rfl, by omega, e4, by show aX f + _ ≤ _; omega, by simp [h5]⟩
      cases f; simp only [hm, Kd]
     | some r2 =>
      rw [h5] at hm
      obtain ⟨hlt2, rfl⟩ := jb h5
      refine ⟨(f, ee all (i1 + 1) false), ?_, i1 + 1, false, rfl, by omega, by omega, by show aX f + _ ≤ _; omega, by simp [h5]⟩
      cases f; simp only [hm, Kd]
   | none =>
    simp only [cond_false, ng n (show i ≤ 1000 by omega), Kd]
    cases h3 : tk [116, 114, 117, 101] (all.drop i) with
    | some r =>
     obtain ⟨hlt, rfl⟩ := jb h3
     simp only [cond_true]
     exact ⟨_, rfl, pw (by omega) (by omega) rfl⟩
    | none =>
     simp only [cond_false]
     obtain ⟨res, e, h⟩ := Hu (n := n) (all := all) (i := i) (by omega) (by omega) hi
     rw [e, Kd]
     obtain ⟨f, q⟩ := res
     cases f
     exact ⟨_, rfl, h⟩
theorem G0 (s : aY) : Ev fun n => dG n s = some ((dR s).1, match (dR s).2 with | none => 0 | some c => c) := by
 unfold dR
 by_cases hs : 500 < s.length
 ·
  refine Ev.ge 2001 fun n hn => ?_
  unfold dG
  rw [AT (by omega), Kd, BG, if_pos hs, if_pos hs]; rfl
 ·
  rw [if_neg hs]
  cases h1 : iC 0 s with
  | none =>
   refine Ev.ge 2001 fun n hn => ?_
   unfold dG
   rw [AT (by omega), Kd, BG, if_neg hs, h1]; rfl
  | some L =>
   obtain ⟨a1, a2⟩ := pi 500 s 0 L (by omega) (by decide) h1
   have hor := fun n hn => II (all := L) (k := L.length + 1) (by omega) (fun n i h1 h2 h3 => F1 (by omega) (L.length + 1) n i h1 h2 h3) (n := n) (i := 0) hn (Nat.zero_le _) (by omega)
   simp only [List.drop_zero] at hor
   simp only
   cases h2 : DY (L.length + 1) L with
   | none =>
    refine Ev.ge (5 * (L.length + 1) + 6004) fun n hn => ?_
    unfold dG
    rw [AT (by omega), Kd, BG, if_neg hs, h1]
    obtain ⟨⟨f, q⟩, e1, i1, b1, e2, e3, e4, e5, e6⟩ := hor n hn
    obtain rfl : q = ee L i1 b1 := e2
    rw [h2] at e6
    obtain rfl : b1 = true := e6
    rw [show ee L 0 false = aO.mk (L.map lA) 0 false from rfl] at e1
    simp only [bne_self_eq_false, cond_false, e1, Kd]
    cases f
    rfl
   | some w =>
    obtain ⟨f, r⟩ := w
    obtain ⟨ok, hN⟩ := tB (by omega) h1 h2
    refine ((HU ok (by omega)).and (Ev.ge (5 * (L.length + 1) + 6004) (p := fun n => 5 * (L.length + 1) + 6004 ≤ n) fun n hn => hn)).mono fun n hh => ?_
    obtain ⟨em, hn⟩ := hh
    unfold dG
    rw [AT (by omega), Kd, BG, if_neg hs, h1]
    obtain ⟨⟨g, q⟩, e1, i1, b1, e2, e3, e4, e5, e6⟩ := hor n hn
    obtain rfl : q = ee L i1 b1 := e2
    rw [h2] at e6
    obtain ⟨e7, rfl, rfl⟩ := e6
    obtain rfl : g = f := e7
    rw [show ee L 0 false = aO.mk (L.map lA) 0 false from rfl] at e1
    simp only [bne_self_eq_false, cond_false, e1, Kd]
    cases g
    simp only [em, Kd]
    rw [show (ee L i1 false).Bad = false from rfl, show (ee L i1 false).At = (i1 : Int) from rfl]
    have e4 : i1 ≤ L.length := e4
    by_cases hi : i1 < L.length
    ·
     have hd : decide ((i1 : Int) < ((L.map lA).length : Int)) = true := by simp; omega
     rw [if_neg (by simp; omega)]
     simp only [cond_false, hd, Kd]
     rfl
    ·
     have hd : decide ((i1 : Int) < ((L.map lA).length : Int)) = false := by simp; omega
     rw [if_pos (by simp; omega)]
     simp only [cond_false, hd, Kd]
     cases y6 _ <;> rfl
end Go.Proofs.YtbkomicjhfldmaaGreatDoor
namespace Go.Proofs.YtbkomicjhfldmaaGreatDoor
open Go.Pv
set_option maxRecDepth 100000
set_option maxHeartbeats 4000000
set_option linter.unusedSimpArgs false
set_option linter.unusedVariables false
theorem ug {n : Nat} (t : aD) (id : Int) (hl : t.L.length ≤ 1000) (hn : 1000 < n) : bS n t id = some (xg (fun s => s.Id == id) t.L, t) := by
 unfold bS
 refine (congrArg (fun o => Option.bind o _) (ju (l := t.L) (fun i => (i : Int)) (p := fun s => s.Id == id) (r := fun i => ((i : Int), t)) (q := ()) (fun i h => ?_) ?_ (by omega))).trans ?_
 ·
  simp only [decide_eq_true (show (i : Int) < (t.L.length : Int) by omega), cond_true, bR h, Kd, dr (show i + 1 < 9223372036854775808 by omega)]
  cases t.L[i].Id == id <;> rfl
 · simp
 ·
  unfold xg
  cases t.L.findIdx? fun s => s.Id == id <;> rfl
theorem zR : ∀ (a b : List Int) (k : Int), mg (a.zip b) k = (a.findIdx? (· == k)).bind fun i => b[i]?
 | [], b, k => by simp [mg]
 | x :: a, [], k => by
  simp only [List.zip_nil_right, mg]
  cases (x :: a).findIdx? (· == k) <;> simp
 | x :: a, y :: b, k => by
  simp only [List.zip_cons_cons, mg, List.findIdx?_cons]
  by_cases h : x = k
  · simp [h]
  ·
   have h2 : (x == k) = false := by simpa using h
   simp only [if_neg h, h2, Bool.false_eq_true, if_false, zR a b k]
   cases a.findIdx? (· == k) <;> simp
theorem GG {n : Nat} (t : aD) (id : Int) (hl : t.Ids.length ≤ 1000) (he : t.Last.length = t.Ids.length) (hn : 1000 < n) : er n t id = some ((mg (t.Ids.zip t.Last) id).getD 0, t) := by
 unfold er
 refine (congrArg (fun o => Option.bind o _) (ju (l := t.Ids) (fun i => (i : Int)) (p := fun x => x == id) (r := fun i => ((t.Last[i]?).getD 0, t)) (q := ()) (fun i h => ?_) ?_ (by omega))).trans ?_
 ·
  simp only [decide_eq_true (show (i : Int) < (t.Ids.length : Int) by omega), cond_true, bR h, bR (show i < t.Last.length by omega), Kd, dr (show i + 1 < 9223372036854775808 by omega)]
  cases t.Ids[i] == id with
  | true => simp only [cond_true, if_true]; rw [List.getElem?_eq_getElem (by omega)]; rfl
  | false => rfl
 · simp
 ·
  rw [zR]
  cases h : t.Ids.findIdx? fun x => x == id with
  | none => rfl
  | some i => rfl
def kT (t : aD) (id v : Int) : aD := match t.Ids.findIdx? fun x => x == id with
 | some i => ⟨t.Shift, t.Most, t.L, t.Ids, t.Last.set i v⟩
 | none => ⟨t.Shift, t.Most, t.L, t.Ids ++ [id], t.Last ++ [v]⟩
theorem yZ {n : Nat} (t : aD) (id v : Int) (hl : t.Ids.length ≤ 1000) (he : t.Last.length = t.Ids.length) (hn : 1000 < n) : cX n t id v = some (kT t id v) := by
 unfold cX kT
 refine (congrArg (fun o => Option.bind o _) (ju (l := t.Ids) (fun i => (i : Int)) (p := fun x => x == id) (r := fun i => (⟨t.Shift, t.Most, t.L, t.Ids, t.Last.set i v⟩ : aD)) (q := ()) (fun i h => ?_) ?_ (by omega))).trans ?_
 ·
  have hs : C9 t.Last (i : Int) v = some (t.Last.set i v) := by unfold C9; simp; omega
  simp only [decide_eq_true (show (i : Int) < (t.Ids.length : Int) by omega), cond_true, bR h, bR (show i < t.Last.length by omega), Kd, hs, dr (show i + 1 < 9223372036854775808 by omega)]
  cases t.Ids[i] == id <;> rfl
 · simp
 ·
  cases h : t.Ids.findIdx? fun x => x == id with
  | some i => rfl
  | none =>
   simp only [Kd, kS]
   rw [fX (Nat.le_trans (show _ ≤ 1001 by simp; omega) (by decide)), Kd, fX (Nat.le_trans (show _ ≤ 1001 by simp; omega) (by decide)), Kd]
theorem A8 : ∀ (a b : List Int) (i : Nat) (k v : Int), a.Nodup → a[i]? = some k → b.length = a.length → a.zip (b.set i v) = (a.zip b).map fun p => if p.1 = k then (k, v) else p
 | [], b, i, k, v, _, h, _ => by simp at h
 | x :: a, [], i, k, v, _, _, h => by simp at h
 | x :: a, y :: b, 0, k, v, hn, h, hl => by
  obtain rfl : x = k := by simpa using h
  simp only [List.set_cons_zero, List.zip_cons_cons, List.map_cons, if_true, List.cons.injEq, true_and]
  have : ∀ p ∈ a.zip b, (if p.1 = x then (x, v) else p) = p := fun p hp => by
   have h1 : p.1 ∈ a := (List.of_mem_zip hp).1
   rw [if_neg]; intro e; rw [e] at h1; exact (List.nodup_cons.1 hn).1 h1
  exact ((List.map_congr_left this).trans (List.map_id _)).symm
 | x :: a, y :: b, i + 1, k, v, hn, h, hl => by
  have h2 : a[i]? = some k := by simpa using h
  have hx : x ≠ k := fun e => (List.nodup_cons.1 hn).1 (e ▸ List.mem_of_getElem? h2)
  simp only [List.set_cons_succ, List.zip_cons_cons, List.map_cons, if_neg hx]
  rw [A8 a b i k v (List.nodup_cons.1 hn).2 h2 (by simpa using hl)]
theorem s7 {t : aD} {id v : Int} (hn : t.Ids.Nodup) (he : t.Last.length = t.Ids.length) :
  (kT t id v).Ids.zip (kT t id v).Last = iO (t.Ids.zip t.Last) id v ∧ (kT t id v).Ids.Nodup ∧ (kT t id v).Last.length = (kT t id v).Ids.length ∧ (kT t id v).Ids.length ≤ t.Ids.length + 1 ∧
   (kT t id v).L = t.L ∧ (kT t id v).Shift = t.Shift ∧ (kT t id v).Most = t.Most := by
 unfold kT iO
 rw [zR]
 cases h : t.Ids.findIdx? fun x => x == id with
 | some i =>
  obtain ⟨h1, h2, _⟩ := List.findIdx?_eq_some_iff_getElem.1 h
  have h3 : t.Ids[i]? = some id := by rw [List.getElem?_eq_getElem h1]; simpa using h2
  simp only [Kd, List.getElem?_eq_getElem (show i < t.Last.length by omega), Option.isSome_some, if_true]
  exact ⟨A8 _ _ _ _ _ hn h3 he, hn, by simpa using he, by omega, by simp, by simp, by simp⟩
 | none =>
  rw [List.findIdx?_eq_none_iff] at h
  simp only [Option.bind_none, Option.isSome_none, Bool.false_eq_true, if_false]
  refine ⟨List.zip_append he.symm, ?_, by simp [he], by simp, by simp, by simp, by simp⟩
  refine List.nodup_append.2 ⟨hn, by simp, fun a ha b hb => ?_⟩
  obtain rfl : b = id := by simpa using hb
  have := h a ha
  simpa using this
theorem wS {n : Nat} (g : aF) (hl : g.Poly.length ≤ 1000) (hn : 1000 < n) : fQ n g g = some true := by
 unfold fQ
 simp only [beq_self_eq_true, Bool.and_self, Bool.not_true, cond_false, bne_self_eq_false, Kd]
 refine (congrArg (fun o => Option.bind o _) (db (fun k => (k : Int)) g.Poly.length (e := Sum.inl ()) (fun k hk => ?_) ?_ n (by omega))).trans rfl
 · simp only [decide_eq_true (show (k : Int) < (g.Poly.length : Int) by omega), cond_true, bR hk, Kd, beq_self_eq_true, Bool.and_self, Bool.not_true, cond_false, dr (show k + 1 < 9223372036854775808 by omega)]
 · simp
theorem ud {n : Nat} (s : bf) (hl : s.Region.Poly.length ≤ 1000) (hn : 1000 < n) : fW n s s = some true := by
 unfold fW
 rw [wS _ hl hn]
 simp only [beq_self_eq_true, Bool.and_self, cond_true, Kd]
theorem B4 {n : Nat} (l : List bf) (h : ∀ s ∈ l, s.Region.Poly.length ≤ 1000) (hl : l.length ≤ 1000) (hn : 1000 < n) : hX n l l = some true := by
 unfold hX
 simp only [bne_self_eq_false, cond_false]
 refine (congrArg (fun o => Option.bind o _) (db (fun k => (k : Int)) l.length (e := Sum.inl ()) (fun k hk => ?_) ?_ n (by omega))).trans rfl
 · simp only [decide_eq_true (show (k : Int) < (l.length : Int) by omega), cond_true, bR hk, Kd, ud l[k] (h _ (List.getElem_mem hk)) hn, Bool.not_true, cond_false, dr (show k + 1 < 9223372036854775808 by omega)]
 · simp
theorem E0 {n : Nat} {t : aC} {ks : List Int} {l : List bf} (hk : ksd t.L = some ks) (hl : ks.length = l.length) (hb : l.length ≤ 1000) (hn : 1000 < n)
  (hm : ∀ (i : Nat) (h : i < ks.length) (h2 : i < l.length), ∃ F, mg t.L ks[i] = some ⟨l[i], F⟩) (hp : ∀ s ∈ l, s.Region.Poly.length ≤ 1000) : c7 n t = some (l, t) := by
 unfold c7
 rw [hk, Kd]
 refine (congrArg (fun o => Option.bind o _) (db (fun k => ((k : Int), l.take k)) ks.length (e := l) (fun k hk => ?_) ?_ n (by omega))).trans rfl
 ·
  obtain ⟨F, hF⟩ := hm k hk (by omega)
  have hap : ap (l.take k) [l[k]] = some (l.take (k + 1)) := by
   rw [fX (Nat.le_trans (show _ ≤ 1001 by simp; omega) (by decide)), List.take_succ_eq_append_getElem (by omega)]
  simp only [decide_eq_true (show (k : Int) < (ks.length : Int) by omega), cond_true, bR hk, Kd, yb, hF, Option.getD_some, kg n l[k] (hp _ (List.getElem_mem (by omega))), hap, dr (show k + 1 < 9223372036854775808 by omega)]
 · simp [hl]
def fF (s : bf) : aa := (dR s.Filter).1
structure TR (P : aY → Prop) (a : aC) (b : aD) (k : Nat) : Prop where
 sh : a.Shift = b.Shift
 mo : a.Most = b.Most
 may : cD a.Shift = true
 last : a.Last = b.Ids.zip b.Last
 nd : b.Ids.Nodup
 ll : b.Last.length = b.Ids.length
 il : b.Ids.length ≤ k
 bl : b.L.length ≤ k
 perm : (a.L.map fun p => p.2.Sub).Perm b.L
 keys : ∀ p ∈ a.L, p.1 = p.2.Sub.Id ∧ p.2.F = fF p.2.Sub
 sorted : b.L.Pairwise fun s t => s.Id < t.Id
 ok : ∀ s ∈ b.L, 0 ≤ s.Id ∧ s.Id ≤ 2147483647 ∧ iB s.Region = true ∧ s.Region.Poly.length ≤ 70 ∧ 0 ≤ s.Version ∧ s.Version ≤ 2147483646
 lo : ∀ p ∈ a.Last, 0 ≤ p.2 ∧ p.2 ≤ 2147483647
 fl : ∀ s ∈ b.L, P s.Filter
variable {P : aY → Prop} {a : aC} {b : aD} {k : Nat}
theorem TR.nodup (h : TR P a b k) : (a.L.map (·.1)).Nodup := by
 have h1 : a.L.map (·.1) = (a.L.map fun p => p.2.Sub).map (·.Id) := by
  rw [List.map_map]; exact List.map_congr_left fun p hp => (h.keys p hp).1
 rw [h1, (h.perm.map _).nodup_iff]
 exact List.pairwise_map.2 (h.sorted.imp fun hlt e => by rw [e] at hlt; exact Int.lt_irrefl _ hlt)
theorem TR.mem (h : TR P a b k) {s : bf} (hs : s ∈ b.L) : mg a.L s.Id = some ⟨s, fF s⟩ := by
 obtain ⟨p, hp, e⟩ := List.mem_map.1 (h.perm.mem_iff.2 hs)
 obtain ⟨k1, k2⟩ := h.keys p hp
 have : (s.Id, (⟨s, fF s⟩ : aw)) ∈ a.L := by
  have : p = (s.Id, ⟨s, fF s⟩) := by
   obtain ⟨q, ⟨u, F⟩⟩ := p
   simp only at e k1 k2
   subst e; rw [k1, k2]
  rw [← this]; exact hp
 exact F4 h.nodup this
theorem TR.not (h : TR P a b k) {id : Int} (hn : ∀ s ∈ b.L, s.Id ≠ id) : mg a.L id = none := by
 refine wE.2 fun p hp e => ?_
 have := h.perm.mem_iff.1 (List.mem_map_of_mem (f := fun p : Int × aw => p.2.Sub) hp)
 exact hn _ this ((h.keys p hp).1.symm.trans e)
theorem TR.size (h : TR P a b k) : a.L.length = b.L.length := by have := h.perm.length_eq; simpa using this
theorem TR.found (h : TR P a b k) (id : Int) : (∃ (i : Nat) (hi : i < b.L.length), b.L[i].Id = id ∧ xg (fun s => s.Id == id) b.L = (i : Int) ∧ mg a.L id = some ⟨b.L[i], fF b.L[i]⟩) ∨ (xg (fun s => s.Id == id) b.L = -1 ∧ mg a.L id = none ∧ ∀ s ∈ b.L, s.Id ≠ id) := by
 unfold xg
 cases hf : b.L.findIdx? fun s => s.Id == id with
 | some i =>
  obtain ⟨h1, h2, _⟩ := List.findIdx?_eq_some_iff_getElem.1 hf
  have h3 : b.L[i].Id = id := by simpa using h2
  exact .inl ⟨i, h1, h3, rfl, by rw [← h3]; exact h.mem (List.getElem_mem h1)⟩
 | none =>
  rw [List.findIdx?_eq_none_iff] at hf
  have hn : ∀ s ∈ b.L, s.Id ≠ id := fun s hs => by simpa using hf s hs
  exact .inr ⟨rfl, h.not hn, hn⟩
theorem Jz {z : Int} (h : 0 ≤ z ∧ z ≤ 2147483647) : (Lit.int .i64 z).wf = true := g7 (by omega) (by omega)
theorem TR.ksd (h : TR P a b k) (hk : k ≤ 1000) : ksd a.L = some (b.L.map (·.Id)) := by
 unfold Go.Pv.ksd
 have hp : (a.L.map (·.1)).Perm (b.L.map (·.Id)) := by
  have h1 : a.L.map (·.1) = (a.L.map fun p => p.2.Sub).map (·.Id) := by
   rw [List.map_map]; exact List.map_congr_left fun p hp => (h.keys p hp).1
  rw [h1]; exact h.perm.map _
 have hw : (a.L.all fun p => (Lit.int .i64 p.1).wf) = true := List.all_eq_true.2 fun p hp' => by
  have := h.ok _ (h.perm.mem_iff.1 (List.mem_map_of_mem (f := fun p : Int × aw => p.2.Sub) hp'))
  rw [(h.keys p hp').1]; exact Jz ⟨this.1, this.2.1⟩
 have hs : ((b.L.map (·.Id)).mergeSort fun x y => decide (x ≤ y)) = b.L.map (·.Id) :=
  List.mergeSort_of_pairwise (List.pairwise_map.2 (h.sorted.imp fun hlt => by simp only [decide_eq_true_eq]; omega))
 rw [if_pos ⟨hw, by have := h.size; have := h.bl; omega⟩, vi hp, hs]
theorem TR.subs {n : Nat} (h : TR P a b k) (hk : k ≤ 1000) (hn : 1000 < n) : c7 n a = some (b.L, a) := by
 refine E0 (h.ksd hk) (by simp) (by have := h.bl; omega) hn (fun i h1 h2 => ⟨fF b.L[i], ?_⟩) (fun s hs => by have := (h.ok s hs).2.2.2.1; omega)
 rw [List.getElem_map]; exact h.mem (List.getElem_mem h2)
def k6 (id : Int) (l : List bf) : Nat := l.findIdx fun s => !decide (s.Id < id)
theorem AI (id : Int) (l : List bf) : k6 id l ≤ l.length := List.findIdx_le_length
theorem A9 {id : Int} {l : List bf} {i : Nat} (h : i < k6 id l) (hi : i < l.length) : l[i].Id < id := by
 have := List.not_of_lt_findIdx (p := fun s : bf => !decide (s.Id < id)) h
 simpa using this
theorem Bo {id : Int} {l : List bf} (h : k6 id l < l.length) : ¬ (l[k6 id l]'h).Id < id := by
 intro hc
 have h3 : (!decide ((l[k6 id l]'h).Id < id)) = true := List.findIdx_getElem (p := fun s : bf => !decide (s.Id < id)) (xs := l) (w := h)
 rw [decide_eq_true hc] at h3
 cases h3
theorem ES {n : Nat} {id : Int} {l : List bf} (hl : l.length ≤ 1000) (hn : 1000 < n) :
  bm (ε := Int) (τ := Int) (fun (at1 : Int) => ((bif (decide (at1 < (l.length : Int))) then ((gi l at1).bind fun x7 => some (decide (x7.Id < id))) else some false : Option Bool).bind fun (x6 : Bool) => (bif x6 then some (Sum.inl (W (at1 + 1))) else some (Sum.inr at1)))) n 0 = some ((k6 id l : Nat) : Int) := by
 have hle := AI id l
 refine db (fun k => (k : Int)) (k6 id l) (fun k hk => ?_) ?_ n (by omega)
 ·
  have hkl : k < l.length := by omega
  simp only [decide_eq_true (show (k : Int) < (l.length : Int) by omega), cond_true, bR hkl, Kd, decide_eq_true (A9 hk hkl), dr (show k + 1 < 9223372036854775808 by omega)]
 ·
  by_cases hm : k6 id l < l.length
  · simp only [decide_eq_true (show ((k6 id l : Nat) : Int) < (l.length : Int) by omega), cond_true, bR hm, Kd, decide_eq_false (Bo hm), cond_false]
  · simp only [decide_eq_false (show ¬ ((k6 id l : Nat) : Int) < (l.length : Int) by omega), cond_false, Kd]
def Bq (id : Int) (s : bf) (l : List bf) : List bf := l.take (k6 id l) ++ [s] ++ l.drop (k6 id l)
theorem BD (id : Int) (s : bf) (l : List bf) : (l ++ [s]).Perm (Bq id s l) := by
 unfold Bq
 refine (List.perm_append_comm (l₁ := l) (l₂ := [s])).trans ?_
 rw [List.append_assoc]
 have : ([s] ++ l).Perm ([s] ++ (l.take (k6 id l) ++ l.drop (k6 id l))) := by rw [List.take_append_drop]
 refine this.trans ?_
 rw [← List.append_assoc, ← List.append_assoc]
 exact List.Perm.append_right _ List.perm_append_comm
theorem xt {id : Int} {s : bf} {l : List bf} (hs : s.Id = id) (h : l.Pairwise fun s t => s.Id < t.Id) (hn : ∀ t ∈ l, t.Id ≠ id) : (Bq id s l).Pairwise fun s t => s.Id < t.Id := by
 have h1 : ∀ t ∈ l.take (k6 id l), t.Id < id := fun t ht => by
  obtain ⟨i, hi, rfl⟩ := List.mem_iff_getElem.1 ht
  rw [List.getElem_take]
  simp only [List.length_take] at hi
  exact A9 (by omega) (by omega)
 have h2 : ∀ t ∈ l.drop (k6 id l), id < t.Id := fun t ht => by
  obtain ⟨i, hi, rfl⟩ := List.mem_iff_getElem.1 ht
  rw [List.getElem_drop]
  simp only [List.length_drop] at hi
  have hm : k6 id l < l.length := by omega
  have k1 := Bo hm
  have k2 := hn _ (List.getElem_mem hm)
  by_cases hi0 : i = 0
  · subst hi0; simp only [Nat.add_zero]; omega
  ·
   have := List.pairwise_iff_getElem.1 h (k6 id l) (k6 id l + i) hm (by omega) (by omega)
   omega
 unfold Bq
 rw [List.append_assoc]
 refine List.pairwise_append.2 ⟨h.sublist (List.take_sublist _ _), ?_, ?_⟩
 ·
  refine List.pairwise_append.2 ⟨List.pairwise_singleton _ _, h.sublist (List.drop_sublist _ _), fun x hx y hy => ?_⟩
  obtain rfl : x = s := by simpa using hx
  rw [hs]; exact h2 y hy
 ·
  intro x hx y hy
  have hx' := h1 x hx
  rcases List.mem_append.1 hy with hy | hy
  ·
   obtain rfl : y = s := by simpa using hy
   omega
  · have := h2 y hy; omega
def EO : Er → Int
 | none => 0
 | some c => c
def cR (e : Er) : Prop := e = none ∨ ∃ c, e = some c ∧ 1 ≤ c ∧ c ≤ 11
theorem Ac {e : Er} (h : cR e := by first | exact .inl rfl | exact .inr ⟨_, rfl, by decide, by decide⟩) : cR e := h
theorem IG {l : List (Int × Int)} (h : ∀ p ∈ l, 0 ≤ p.2 ∧ p.2 ≤ 2147483647) (id : Int) : 0 ≤ (mg l id).getD 0 ∧ (mg l id).getD 0 ≤ 2147483647 := by
 cases hm : mg l id with
 | none => simp
 | some x => have := h _ (Hf hm); simpa using this
theorem vL {l : List (Int × Int)} (h : ∀ p ∈ l, 0 ≤ p.2 ∧ p.2 ≤ 2147483647) {id v : Int} (hv : 0 ≤ v ∧ v ≤ 2147483647) : ∀ p ∈ iO l id v, 0 ≤ p.2 ∧ p.2 ≤ 2147483647 := by
 unfold iO
 split
 ·
  intro p hp
  obtain ⟨q, hq, rfl⟩ := List.mem_map.1 hp
  split
  · exact hv
  · exact h q hq
 ·
  intro p hp
  rcases List.mem_append.1 hp with hp | hp
  · exact h p hp
  ·
   obtain rfl : p = (id, v) := by simpa using hp
   exact hv
theorem TR.add {P : aY → Prop} {a : aC} {b : aD} {k n : Nat} (h : TR P a b k) (hk : k ≤ 500) {id : Int} {g : aF} {f : aY} (hg : g.Poly.length ≤ 70) (hP : P f) (hn : 2000 ≤ n) (hr : cY n f = some (dR f))
  (hr2 : dG n f = some ((dR f).1, EO (dR f).2)) : ∃ s e a' b', cM n a id g f = some (s, e, a') ∧ eZ n b id g f = some (s, EO e, b') ∧ TR P a' b' (k + 1) ∧ cR e := by
 have hR : fy n g = some (iB g) := if_pos (tg (by omega))
 have up : TR P a b (k + 1) := { h with il := by have := h.il; omega, bl := by have := h.bl; omega }
 rw [FO hr (by omega)]
 unfold Cs eZ
 rw [hR, hr2]
 simp only [Kd]
 cases h1 : decide (id < 0) with
 | true => exact ⟨_, _, _, _, rfl, rfl, up, Ac⟩
 | false =>
  cases h2 : decide (id > 2147483647) with
  | true => exact ⟨_, _, _, _, rfl, rfl, up, Ac⟩
  | false =>
   cases h3 : iB g with
   | false => exact ⟨_, _, _, _, rfl, rfl, up, Ac⟩
   | true =>
    simp only [cond_false, Kd, Bool.not_true, Bool.or_false]
    have her := Cx f
    revert her
    have hfF : ∀ v c, fF ⟨id, v, g, f, c⟩ = (dR f).1 := fun _ _ => rfl
    revert hfF
    rcases dR f with ⟨⟨kd, nm, op, vs, l⟩, e⟩
    intro hfF her
    cases e with
    | some c =>
     have hc : (EO (some c) != 0) = true := by
      rcases her with h | h | h | h <;> first | (cases h; done) | (obtain rfl := Ke h; rfl)
     have hcr : cR (some c) := by
      rcases her with h | h | h | h <;> first | (cases h; done) | (obtain rfl := Ke h; exact Ac)
     simp only [hc, cond_true]
     exact ⟨_, _, _, _, rfl, rfl, up, hcr⟩
    | none =>
     simp only [EO, bne_self_eq_false, cond_false]
     rw [ug b id (by have := h.bl; omega) (by omega), Kd]
     rcases h.found id with ⟨i, hi, hid, hix, hmg⟩ | ⟨hix, hmg, hno⟩
     ·
      simp only [hmg, hix, Option.isSome_some, cond_true, decide_eq_true (show ((i : Nat) : Int) ≥ 0 by omega)]
      exact ⟨_, _, _, _, rfl, rfl, up, Ac⟩
     ·
      simp only [hmg, hix, Option.isSome_none, cond_false, decide_eq_false (show ¬ (-1 : Int) ≥ 0 by decide)]
      rw [GG b id (by have := h.il; omega) h.ll (by omega), Kd]
      simp only [← h.last, h.size, ← h.mo]
      have hv := IG h.lo id
      cases h5 : decide ((b.L.length : Int) ≥ a.Most) with
      | true => exact ⟨_, _, _, _, rfl, rfl, up, Ac⟩
      | false =>
       simp only [cond_false, Bool.false_or, Kd]
       cases h6 : decide ((mg a.Last id).getD 0 > 2147483645) with
       | true => exact ⟨_, _, _, _, rfl, rfl, up, Ac⟩
       | false =>
        have h6' := of_decide_eq_false h6
        have hW : W ((mg a.Last id).getD 0 + 1) = (mg a.Last id).getD 0 + 1 := gZ (by omega)
        obtain ⟨z1, z2, z3, z4, z5, z6, z7⟩ := s7 (id := id) (v := (mg a.Last id).getD 0 + 1) h.nd h.ll
        simp only [cond_false, h.may, cond_true, hW]
        rw [yZ b id _ (by have := h.il; omega) h.ll (by omega), Kd, z6,
         show gk n b.Shift g = some (Cc a.Shift g) from (if_pos ⟨tg (by omega), h3, by rw [← h.sh]; exact h.may⟩).trans (by rw [h.sh]), Kd, z5, ES (by have := h.bl; omega) (by omega), Kd]
        have hp := AI id b.L
        have hbl := h.bl
        rw [show kC b.L 0 ((k6 id b.L : Nat) : Int) = some (b.L.take (k6 id b.L)) by simpa using fM b.L (i := 0) (Nat.zero_le _) hp, Kd,
         fX (Nat.le_trans (show _ ≤ 1001 by simp; omega) (by decide)), Kd, List.nil_append, fX (Nat.le_trans (show _ ≤ 1001 by simp; omega) (by decide)), Kd,
         lI b.L hp, Kd, fX (Nat.le_trans (show _ ≤ 1001 by simp; omega) (by decide)), Kd]
        refine ⟨_, _, _, _, rfl, rfl, ?_, Ac⟩
        have hL : iO a.L id ⟨⟨id, (mg a.Last id).getD 0 + 1, g, f, Cc a.Shift g⟩, .mk kd nm op vs l⟩ = a.L ++ [(id, ⟨⟨id, (mg a.Last id).getD 0 + 1, g, f, Cc a.Shift g⟩, .mk kd nm op vs l⟩)] := by
         unfold iO; rw [hmg]; rfl
        have hpm := BD id ⟨id, (mg a.Last id).getD 0 + 1, g, f, Cc a.Shift g⟩ b.L
        exact {
         sh := h.sh
         mo := h.mo.trans z7.symm
         may := h.may
         last := by rw [z1, ← h.last]
         nd := z2
         ll := z3
         il := by have := h.il; show (kT b id _).Ids.length ≤ k + 1; omega
         bl := by show (Bq id _ b.L).length ≤ k + 1; rw [← hpm.length_eq]; simp; omega
         perm := by
          show ((iO a.L id _).map _).Perm (Bq id _ b.L)
          rw [hL, List.map_append]
          exact (h.perm.append_right _).trans hpm
         keys := by
          intro p hp
          rw [hL] at hp
          rcases List.mem_append.1 hp with hp | hp
          · exact h.keys p hp
          ·
           obtain rfl := List.mem_singleton.1 hp
           exact ⟨rfl, (hfF _ _).symm⟩
         sorted := xt rfl h.sorted hno
         ok := by
          intro s hs
          rcases List.mem_append.1 (hpm.mem_iff.2 hs) with hs | hs
          · exact h.ok s hs
          ·
           obtain rfl := List.mem_singleton.1 hs
           have q1 := of_decide_eq_false h1
           have q2 := of_decide_eq_false h2
           exact ⟨by simp only; omega, by simp only; omega, h3, hg, by simp only; omega, by simp only; omega⟩
         lo := vL h.lo (by omega)
         fl := by
          intro s hs
          rcases List.mem_append.1 (hpm.mem_iff.2 hs) with hs | hs
          · exact h.fl s hs
          ·
           obtain rfl := List.mem_singleton.1 hs
           exact hP }
theorem tP {l : List bf} {i : Nat} (hi : i < l.length) : l = l.take i ++ l[i] :: l.drop (i + 1) := by
 rw [← List.drop_eq_getElem_cons hi, List.take_append_drop]
theorem uP {l : List bf} {i : Nat} {id : Int} (h : l.Pairwise fun s t => s.Id < t.Id) (hi : i < l.length) (he : l[i].Id = id) : (∀ t ∈ l.take i, t.Id ≠ id) ∧ ∀ t ∈ l.drop (i + 1), t.Id ≠ id := by
 rw [tP hi] at h
 obtain ⟨_, h2, h3⟩ := List.pairwise_append.1 h
 rw [List.pairwise_cons] at h2
 exact ⟨fun t ht => by have := h3 t ht _ (List.mem_cons_self ..); omega, fun t ht => by have := h2.1 t ht; omega⟩
theorem qW {l : List bf} {i : Nat} {id : Int} (h : l.Pairwise fun s t => s.Id < t.Id) (hi : i < l.length) (he : l[i].Id = id) : (l.filter fun s => !decide (s.Id = id)) = l.take i ++ l.drop (i + 1) := by
 obtain ⟨k1, k2⟩ := uP h hi he
 have e := tP hi
 generalize hA : l.take i = A at *
 generalize hB : l.drop (i + 1) = B at *
 generalize l[i] = x at *
 subst e
 rw [List.filter_append, List.filter_cons, if_neg (by simp [he]), List.filter_eq_self.2 (fun t ht => by simpa using k1 t ht), List.filter_eq_self.2 (fun t ht => by simpa using k2 t ht)]
theorem TR.drop {P : aY → Prop} {a : aC} {b : aD} {k n : Nat} (h : TR P a b k) (hk : k ≤ 500) {id : Int} (hn : 2000 ≤ n) :
  ∃ s e a' b', dL n a id = some (s, e, a') ∧ eD n b id = some (s, EO e, b') ∧ TR P a' b' (k + 1) ∧ cR e := by
 have up : TR P a b (k + 1) := { h with il := by have := h.il; omega, bl := by have := h.bl; omega }
 have hbl := h.bl
 have hil := h.il
 rw [Dt]
 unfold xp eD
 rw [ug b id (by omega) (by omega), Kd]
 rcases h.found id with ⟨i, hi, hid, hix, hmg⟩ | ⟨hix, hmg, hno⟩
 ·
  obtain ⟨o1, o2, o3, o4, o5, o6⟩ := h.ok _ (List.getElem_mem hi)
  have hW : W (b.L[i].Version + 1) = b.L[i].Version + 1 := gZ (by omega)
  obtain ⟨z1, z2, z3, z4, z5, z6, z7⟩ := s7 (id := id) (v := b.L[i].Version + 1) h.nd h.ll
  simp only [hmg, hix, decide_eq_false (show ¬ ((i : Nat) : Int) < 0 by omega), cond_false, bR hi, Kd, hW]
  rw [yZ b id _ (by omega) h.ll (by omega), Kd, z5, z6, z7]
  rw [show kC b.L 0 ((i : Nat) : Int) = some (b.L.take i) by simpa using fM b.L (i := 0) (Nat.zero_le _) (Nat.le_of_lt hi), Kd,
   fX (Nat.le_trans (show _ ≤ 1001 by simp; omega) (by decide)), Kd, List.nil_append, dr (by omega), lI b.L hi, Kd,
   fX (Nat.le_trans (show _ ≤ 1001 by simp; omega) (by decide)), Kd]
  refine ⟨_, _, _, _, rfl, rfl, ?_, Ac⟩
  have hperm : ((qw a.L id).map fun p => p.2.Sub).Perm (b.L.take i ++ b.L.drop (i + 1)) := by
   rw [← qW h.sorted hi hid]
   have : ((qw a.L id).map fun p => p.2.Sub) = (a.L.map fun p => p.2.Sub).filter fun s => !decide (s.Id = id) := by
    unfold qw
    rw [List.filter_map]
    refine congrArg _ (List.filter_congr fun p hp => ?_)
    simp [(h.keys p hp).1]
   rw [this]; exact h.perm.filter _
  have hsub : (b.L.take i ++ b.L.drop (i + 1)).Sublist b.L := by rw [← qW h.sorted hi hid]; exact List.filter_sublist
  exact {
   sh := h.sh
   mo := h.mo
   may := h.may
   last := by show iO a.Last id _ = _; rw [z1, ← h.last]
   nd := z2
   ll := z3
   il := by show (kT b id _).Ids.length ≤ k + 1; omega
   bl := Nat.le_trans hsub.length_le (by omega)
   perm := hperm
   keys := fun p hp => h.keys p (List.mem_filter.1 hp).1
   sorted := h.sorted.sublist hsub
   ok := fun s hs => h.ok s (hsub.subset hs)
   lo := vL h.lo (by omega)
   fl := fun s hs => h.fl s (hsub.subset hs) }
 ·
  simp only [hmg, hix, decide_eq_true (show (-1 : Int) < 0 by decide), cond_true]
  exact ⟨_, _, _, _, rfl, rfl, up, Ac⟩
theorem Fu {l : List bf} {i : Nat} {id : Int} (u : bf) (h : l.Pairwise fun s t => s.Id < t.Id) (hi : i < l.length) (he : l[i].Id = id) : l.set i u = l.map fun s => if s.Id = id then u else s := by
 obtain ⟨k1, k2⟩ := uP h hi he
 have e := tP hi
 have e2 : l.set i u = l.take i ++ u :: l.drop (i + 1) := by rw [List.set_eq_take_append_cons_drop, if_pos hi]
 rw [e2]
 conv => rhs; rw [e]
 rw [List.map_append, List.map_cons, if_pos he]
 congr 1
 · exact ((List.map_congr_left fun t ht => if_neg (k1 t ht)).trans (List.map_id _)).symm
 ·
  congr 1
  exact ((List.map_congr_left fun t ht => if_neg (k2 t ht)).trans (List.map_id _)).symm
theorem TR.put {P : aY → Prop} {a : aC} {b : aD} {k : Nat} (h : TR P a b k) {id : Int} {i : Nat} (hi : i < b.L.length) (hid : b.L[i].Id = id) (hmg : mg a.L id = some ⟨b.L[i], fF b.L[i]⟩) {u : bf} (hu : u.Id = id) (hf : u.Filter = b.L[i].Filter)
  (ho : iB u.Region = true ∧ u.Region.Poly.length ≤ 70 ∧ 0 ≤ u.Version ∧ u.Version ≤ 2147483646) {la : List (Int × Int)} {ids ls : List Int} (h1 : la = ids.zip ls) (h2 : ids.Nodup) (h3 : ls.length = ids.length) (h4 : ids.length ≤ k + 1) (h5 : ∀ p ∈ la, 0 ≤ p.2 ∧ p.2 ≤ 2147483647) :
  TR P ⟨a.Shift, a.Most, iO a.L id ⟨u, fF b.L[i]⟩, la⟩ ⟨b.Shift, b.Most, b.L.set i u, ids, ls⟩ (k + 1) := by
 have hL : iO a.L id ⟨u, fF b.L[i]⟩ = a.L.map fun p => if p.1 = id then (id, ⟨u, fF b.L[i]⟩) else p := by unfold iO; rw [hmg]; rfl
 have hS := Fu u h.sorted hi hid
 have hfu : fF u = fF b.L[i] := by unfold fF; rw [hf]
 obtain ⟨o1, o2, _⟩ := h.ok _ (List.getElem_mem hi)
 exact {
  sh := h.sh
  mo := h.mo
  may := h.may
  last := h1
  nd := h2
  ll := h3
  il := h4
  bl := by show (b.L.set i u).length ≤ k + 1; have := h.bl; simp; omega
  perm := by
   show ((iO a.L id _).map _).Perm (b.L.set i u)
   rw [hL, hS, List.map_map]
   refine List.Perm.trans (List.Perm.of_eq ?_) (h.perm.map fun s => if s.Id = id then u else s)
   rw [List.map_map]
   refine List.map_congr_left fun p hp => ?_
   simp only [Function.comp_apply]
   rw [← (h.keys p hp).1]
   split <;> rfl
  keys := by
   intro p hp
   rw [hL] at hp
   obtain ⟨q, hq, rfl⟩ := List.mem_map.1 hp
   split
   · exact ⟨hu.symm, hfu.symm⟩
   · exact h.keys q hq
  sorted := by
   show (b.L.set i u).Pairwise _
   rw [hS]
   refine List.pairwise_map.2 (h.sorted.imp fun {s t} hlt => ?_)
   have e1 : (if s.Id = id then u else s).Id = s.Id := by split <;> simp_all
   have e2 : (if t.Id = id then u else t).Id = t.Id := by split <;> simp_all
   rw [e1, e2]; exact hlt
  ok := by
   intro s hs
   rcases List.mem_or_eq_of_mem_set hs with hs | rfl
   · exact h.ok s hs
   · exact ⟨by rw [hu, ← hid]; exact o1, by rw [hu, ← hid]; exact o2, ho⟩
  lo := h5
  fl := by
   intro s hs
   rcases List.mem_or_eq_of_mem_set hs with hs | rfl
   · exact h.fl s hs
   · rw [hf]; exact h.fl _ (List.getElem_mem hi) }
theorem TR.move {P : aY → Prop} {a : aC} {b : aD} {k n : Nat} (h : TR P a b k) (hk : k ≤ 500) {id : Int} {d : aZ} (hn : 2000 ≤ n) :
  ∃ s safe e a' b', cB n a id d = some (s, safe, e, a') ∧ ez n b id d = some (s, safe, EO e, b') ∧ TR P a' b' (k + 1) ∧ cR e := by
 have up : TR P a b (k + 1) := { h with il := by have := h.il; omega, bl := by have := h.bl; omega }
 have hbl := h.bl
 have hil := h.il
 rw [DT (fun s hs => by
  rcases h.found id with ⟨i, hi, hid, hix, hmg⟩ | ⟨hix, hmg, hno⟩
  ·
   rw [hmg] at hs; obtain rfl := Ke hs
   have := (h.ok _ (List.getElem_mem hi)).2.2.2.1; show b.L[i].Region.Poly.length ≤ 1000; omega
  · rw [hmg] at hs; cases hs)]
 unfold yR ez
 rw [ug b id (by omega) (by omega), Kd]
 rcases h.found id with ⟨i, hi, hid, hix, hmg⟩ | ⟨hix, hmg, hno⟩
 ·
  obtain ⟨o1, o2, o3, o4, o5, o6⟩ := h.ok _ (List.getElem_mem hi)
  simp only [hmg, hix, decide_eq_false (show ¬ ((i : Nat) : Int) < 0 by omega), cond_false, bR hi, Kd]
  rw [uk o4 (by omega), Kd]
  simp only [GJ, A7, o3, cond_true]
  cases ho : um b.L[i].Region d with
  | false => exact ⟨_, _, _, _, _, rfl, rfl, up, Ac⟩
  | true =>
   have m1 := EI o3 ho
   have m2 := Cm b.L[i].Region d
   simp only [cond_true, bne_self_eq_false, cond_false]
   rw [show kO n b.L[i].Region b.L[i].Cover d = some (yu b.L[i].Region b.L[i].Cover d) from if_pos (tg (by omega)), Kd]
   have hst : ∀ u : bf, C9 b.L (i : Int) u = some (b.L.set i u) := fun u => Hj u hi
   have hap : ap [] b.L = some b.L := fX (Nat.le_trans (show _ ≤ 1001 by simp; omega) (by decide))
   cases yu b.L[i].Region b.L[i].Cover d with
   | true =>
    simp only [Bool.not_true, cond_false, cond_true, Kd, hap, bR hi, hst]
    exact ⟨_, _, _, _, _, rfl, rfl, h.put hi hid hmg (u := ⟨b.L[i].Id, b.L[i].Version, Cv b.L[i].Region d, b.L[i].Filter, b.L[i].Cover⟩) hid rfl ⟨m1, by simp only; omega, o5, o6⟩ h.last h.nd h.ll (by omega) h.lo, Ac⟩
   | false =>
    simp only [Bool.not_false, cond_true, cond_false, Kd]
    cases h5 : decide (b.L[i].Version > 2147483645) with
    | true => exact ⟨_, _, _, _, _, rfl, rfl, up, Ac⟩
    | false =>
     have h5' := of_decide_eq_false h5
     have hW : W (b.L[i].Version + 1) = b.L[i].Version + 1 := gZ (by omega)
     obtain ⟨z1, z2, z3, z4, z5, z6, z7⟩ := s7 (id := id) (v := b.L[i].Version + 1) h.nd h.ll
     simp only [cond_false, m1, h.may, Bool.and_self, cond_true, hW]
     rw [show gk n b.Shift (Cv b.L[i].Region d) = some (Cc a.Shift (Cv b.L[i].Region d)) from (if_pos ⟨tg (by omega), m1, by rw [← h.sh]; exact h.may⟩).trans (by rw [h.sh]), Kd,
      yZ b id _ (by omega) h.ll (by omega), Kd, z5, z6, z7]
     simp only [Kd, hap, bR hi, hst]
     refine ⟨_, _, _, _, _, rfl, rfl, h.put hi hid hmg (u := ⟨b.L[i].Id, b.L[i].Version + 1, Cv b.L[i].Region d, b.L[i].Filter, Cc a.Shift (Cv b.L[i].Region d)⟩) hid rfl ⟨m1, by simp only; omega, by simp only; omega, by simp only; omega⟩ (by rw [z1, ← h.last]) z2 z3 (by omega) (vL h.lo (by omega)), Ac⟩
 ·
  simp only [hmg, hix, decide_eq_true (show (-1 : Int) < 0 by decide), cond_true]
  exact ⟨_, _, _, _, _, rfl, rfl, up, Ac⟩
end Go.Proofs.YtbkomicjhfldmaaGreatDoor
namespace Go.Proofs.YtbkomicjhfldmaaGreatDoor
open Go.Pv
set_option linter.unusedSimpArgs false
set_option linter.unusedVariables false
set_option linter.unusedSectionVars false
def zK (a v : aI) : Int := if a.Text then Lib.compareBytes a.S v.S else if a.N < v.N then -1 else if a.N > v.N then 1 else 0
def nB (op : aY) (n : Int) : Bool :=
 bif op == [60] then decide (n < 0) else bif op == [60, 61] then decide (n ≤ 0) else bif op == [61] then n == 0 else bif op == [33, 61] then n != 0 else bif op == [62, 61] then decide (n ≥ 0) else bif op == [62] then decide (n > 0) else false
def xi (nm : aY) (l : List aI) : Option aI := l.find? fun a => a.Name == nm
def sS (s p : aY) : Bool := decide (p.length ≤ s.length) && s.take p.length == p
def rj (a v : aI) : Bool := a.Text == v.Text && zK a v == 0
def Al (kind : Int) (nm op : aY) (vals : List aI) (l : List aI) : Bool :=
 match xi nm l, vals with
 | some a, v :: _ => bif kind == 4 then (bif a.Text == v.Text then nB op (zK a v) else false) else bif kind == 5 then (bif a.Text then bif v.Text then sS a.S v.S else false else false) else bif kind == 6 then vals.any (rj a) else false
 | _, _ => false
mutual
def qq (l : List aI) : aa → Bool
 | .mk kind nm op vals fs => bif kind == 7 then true else bif kind == 3 then Dh l fs else bif kind == 1 then w3 l fs else bif kind == 2 then wV l fs else Al kind nm op vals l
def w3 (l : List aI) : List aa → Bool
 | [] => true
 | x :: r => qq l x && w3 l r
def Dh (l : List aI) : List aa → Bool
 | [] => false
 | x :: _ => !qq l x
def wV (l : List aI) : List aa → Bool
 | [] => false
 | x :: r => qq l x || wV l r
end
theorem qs (l : List aI) : ∀ fs, w3 l fs = fs.all (qq l)
 | [] => rfl
 | x :: r => by rw [w3, qs l r]; rfl
theorem qH (l : List aI) : ∀ fs, wV l fs = fs.any (qq l)
 | [] => rfl
 | x :: r => by rw [wV, qH l r]; rfl
theorem zF (n : Nat) (s p : aY) : bW n s p = some (sS s p) := by
 unfold bW bX sS
 by_cases h : p.length ≤ s.length
 ·
  have := fM s (i := 0) (j := p.length) (by omega) h
  simp only [Int.natCast_zero] at this
  simp [h, this]
 · simp [h]
theorem Bs (n : Nat) (a b : aY) : gt n a b = some (Lib.compareBytes a b) := rfl
theorem BP (n : Nat) (a b : Int) : ea n a b = some (if a < b then -1 else if a > b then 1 else 0) := by
 unfold ea eT
 by_cases h : a < b <;> by_cases h2 : a > b <;> simp [h, h2]
theorem Fd (n : Nat) (op : aY) (k : Int) : iq n op k = some (nB op k) := by
 unfold iq nB
 cases op == [60] <;> cases op == [60, 61] <;> cases op == [61] <;> cases op == [33, 61] <;> cases op == [62, 61] <;> cases op == [62] <;> rfl
theorem yN (n : Nat) (a v : aI) : fC n a v = some (zK a v) := by
 unfold fC zK; rw [Bs, BP]; cases a.Text <;> simp
theorem wD {α : Type} (p : α → Bool) : ∀ l : List α, l.find? p = match l.findIdx? p with | some i => l[i]? | none => none
 | [] => rfl
 | x :: l => by
  rw [List.find?_cons, List.findIdx?_cons]
  cases hx : p x with
  | true => simp
  | false =>
   simp only [Bool.false_eq_true, if_false, wD p l]
   cases l.findIdx? p <;> simp
theorem H4 (l : List aI) (nm : aY) (hl : l.length ≤ maxLen) {n : Nat} (hn : l.length < n) : j6 n l nm = some (match xi nm l with | some a => (a, true) | none => (aI.mk [] false 0 [], false)) := by
 unfold j6
 rw [H3 l (fun x0 => jK n x0 nm) (fun a => a.Name == nm) (fun x _ => rfl) hl hn, Kd]
 unfold xi
 rw [wD]
 unfold xg
 cases h : l.findIdx? (fun a => a.Name == nm) with
 | none => rfl
 | some i =>
  obtain ⟨h3, _⟩ := List.findIdx?_eq_some_iff_getElem.1 h
  have : decide ((i : Int) < 0) = false := by simp
  simp only [this, cond_false, bR h3, Kd, List.getElem?_eq_getElem h3]
theorem HF {kind : Int} {nm op : aY} {vals l : List aI} {gs : List aa} (hv : vals.length ≤ maxLen) (hl : l.length ≤ maxLen) {n : Nat} (hn : l.length < n) (hn2 : vals.length < n) : j0 n (.mk kind nm op vals gs) l = some (Al kind nm op vals l) := by
 unfold j0 Al
 simp only [H4 l nm hl hn, Kd]
 cases hf : xi nm l with
 | none => rfl
 | some a =>
  cases vals with
  | nil => rfl
  | cons v r =>
   have h0 : gi (v :: r) 0 = some v := rfl
   have h1 : ((((v :: r).length : Nat) : Int) == 0) = false := by simp; omega
   simp only [Bool.not_true, cond_false, h1, Kd, h0, yN, Fd, zF]
   rw [IT (v :: r) _ (rj a) (fun x _ => ?_) hv hn2]
   · cases kind == 4 <;> cases kind == 5 <;> cases kind == 6 <;> cases a.Text == v.Text <;> cases a.Text <;> cases v.Text <;> rfl
   ·
    unfold jM rj
    rw [yN]
    cases a.Text == x.Text <;> rfl
theorem CL (l : List aI) (hl : l.length ≤ maxLen) : ∀ f : aa, bQ f → Ev fun n => dE n f l = some (qq l f)
 | .mk kind nm op vals fs, hf => by
  obtain ⟨h1, h2, h3⟩ := oZ hf
  have ih : Ev fun n => ∀ x ∈ fs, dE n x l = some (qq l x) := Ev.all fun x hx => CL l hl x (kH h3 x hx)
  refine Ev.succ (Ev.succ ((ih.big (l.length + vals.length + fs.length + 1)).mono fun n hh => ?_))
  obtain ⟨hn, ih⟩ := hh
  have e1 : ∀ x ∈ fs, fE (n + 1) x l = some (qq l x) := fun x hx => by
   have := ih x hx
   cases x; rw [fE]; simp only [this, Kd]
  have e2 : ∀ x ∈ fs, eJ (n + 1) x l = some (!qq l x) := fun x hx => by
   have := ih x hx
   cases x; rw [eJ]; simp only [this, Kd]
  rw [dE, qq, Fo fs _ (fun x => !qq l x) e2 h2 (by omega), Fo fs _ (qq l) e1 h2 (by omega), HF h1 hl (by omega) (by omega), qs l, qH l]
  have e4 : (!fs.any fun x => !qq l x) = fs.all (qq l) := by rw [List.all_eq_not_any_not]
  simp only [Kd, e4]
  cases kind == 7 with
  | true => rfl
  | false =>
   cases kind == 3 with
   | false => cases kind == 1 <;> cases kind == 2 <;> rfl
   | true =>
    cases fs with
    | nil => rfl
    | cons x r =>
     have h0 : gi (x :: r) 0 = some x := rfl
     have := e2 x (by simp)
     have h4 : decide ((((x :: r).length : Nat) : Int) > 0) = true := by simp
     rw [h4, h0, Dh]
     cases x; simp only [cond_true, cond_false, Kd, this]
theorem pC : ∀ a b : aY, Op.bytesLess a b = decide (Lib.compareBytes a b < 0)
 | [], [] => rfl
 | [], _ :: _ => rfl
 | _ :: _, [] => rfl
 | x :: a, y :: b => by
  have ih := pC a b
  unfold Op.bytesLess Lib.compareBytes
  by_cases h : x < y
  · simp [h]
  ·
   by_cases h2 : y < x
   ·
    have hne : x ≠ y := fun e => by subst e; exact h h2
    simp [h, h2, hne]
   ·
    have he : x = y := UInt8.le_antisymm (UInt8.not_lt.1 h2) (UInt8.not_lt.1 h)
    subst he
    simp [h, ih]
theorem wP : ∀ a b : aY, (Lib.compareBytes a b == 0) = (a == b)
 | [], [] => rfl
 | [], _ :: _ => rfl
 | _ :: _, [] => rfl
 | x :: a, y :: b => by
  have ih := wP a b
  unfold Lib.compareBytes
  by_cases h : x < y
  ·
   have hne : x ≠ y := fun e => by subst e; exact absurd h (UInt8.lt_irrefl x)
   simp [h, hne]
  ·
   by_cases h2 : y < x
   ·
    have hne : x ≠ y := fun e => by subst e; exact absurd h2 (UInt8.lt_irrefl x)
    simp [h, h2, hne]
   ·
    have he : x = y := UInt8.le_antisymm (UInt8.not_lt.1 h2) (UInt8.not_lt.1 h)
    subst he
    simp only [h, if_false, ih]
    rw [Bool.eq_iff_iff]; simp
theorem C1 (a b : aY) : (!(Op.bytesLess a b || a == b)) = decide (Lib.compareBytes a b > 0) := by
 rw [pC, ← wP, Bool.eq_iff_iff]
 simp only [Bool.not_eq_true', Bool.or_eq_false_iff, decide_eq_false_iff_not, decide_eq_true_eq, beq_eq_false_iff_ne]
 omega
theorem B6 (a b : aY) : (!(decide (Lib.compareBytes a b < 0) || a == b)) = decide (Lib.compareBytes a b > 0) := by rw [← pC]; exact C1 a b
theorem yA (n : Nat) (op : aY) (k : Int) : d4 n op (decide (k < 0)) (decide (k > 0)) = some (nB op k) := by
 unfold d4 nB
 have h1 : decide (k ≤ 0) = !decide (k > 0) := by rw [Bool.eq_iff_iff]; simp
 have h2 : (k == 0) = (!decide (k < 0) && !decide (k > 0)) := by rw [Bool.eq_iff_iff]; simp; omega
 have h3 : (k != 0) = (decide (k < 0) || decide (k > 0)) := by rw [bne, h2]; simp
 have h4 : decide (k ≥ 0) = !decide (k < 0) := by rw [Bool.eq_iff_iff]; simp
 rw [h1, h2, h3, h4]
 cases op == [60] <;> cases op == [60, 61] <;> cases op == [61] <;> cases op == [33, 61] <;> cases op == [62, 61] <;> cases op == [62] <;> cases decide (k < 0) <;> cases decide (k > 0) <;> rfl
theorem DQ (n : Nat) (s p : aY) : gO n s p = some (sS s p) := by
 unfold gO sS
 by_cases h : p.length ≤ s.length
 ·
  have := fM s (i := 0) (j := p.length) (by omega) h
  simp only [Int.natCast_zero] at this
  have h2 : decide ((p.length : Int) > s.length) = false := by simp; omega
  rw [h2]; simp [h, this]
 ·
  have h2 : decide ((p.length : Int) > s.length) = true := by simp; omega
  rw [h2]; simp [h]
def F5 (p : aI → Bool) (l : List aI) (k : Nat) : Int := match (l.drop (l.length - k)).findIdx? p with
 | some j => ((l.length - k + j : Nat) : Int)
 | none => -1
theorem DD (p : aI → Bool) (l : List aI) {k : Nat} (hk : k < l.length) : F5 p l (k + 1) = if p (l[l.length - 1 - k]'(by omega)) then ((l.length - 1 - k : Nat) : Int) else F5 p l k := by
 unfold F5
 have h1 : l.drop (l.length - (k + 1)) = l[l.length - 1 - k]'(by omega) :: l.drop (l.length - k) := by
  rw [show l.length - (k + 1) = l.length - 1 - k by omega, List.drop_eq_getElem_cons (by omega), show l.length - 1 - k + 1 = l.length - k by omega]
 rw [h1, List.findIdx?_cons]
 cases hp : p (l[l.length - 1 - k]'(by omega)) with
 | true => simp; omega
 | false =>
  simp only [Bool.false_eq_true, if_false]
  cases hf : (l.drop (l.length - k)).findIdx? p with
  | none => rfl
  | some j => simp only [Option.map_some]; congr 1; omega
theorem EL (p : aI → Bool) (l : List aI) : F5 p l l.length = xg p l := by
 unfold F5 xg; simp only [Nat.sub_self, List.drop_zero, Nat.zero_add]; rfl
theorem Dq {i : Nat} (h : i ≤ maxLen) : W ((i : Int) - 1) = (i : Int) - 1 := gZ ⟨by omega, by unfold maxLen at h; omega⟩
theorem Fp (a b : Int) : decide ((if a < b then (-1 : Int) else if a > b then 1 else 0) < 0) = decide (a < b) := by
 by_cases h : a < b
 · simp [h]
 · by_cases h2 : a > b <;> simp [h, h2]
theorem EV (a b : Int) : decide ((if a < b then (-1 : Int) else if a > b then 1 else 0) > 0) = decide (a > b) := by
 by_cases h : a < b
 ·
  have : ¬ a > b := by omega
  simp [h, this]
 · by_cases h2 : a > b <;> simp [h, h2]
theorem EK (a b : Int) : ((if a < b then (-1 : Int) else if a > b then 1 else 0) == 0) = (a == b) := by
 rw [Bool.eq_iff_iff]
 by_cases h : a < b
 ·
  have : a ≠ b := by omega
  simp [h, this]
 ·
  by_cases h2 : a > b
  ·
   have : a ≠ b := by omega
   simp [h, h2, this]
  ·
   have : a = b := by omega
   simp [this]
theorem C4 (n : Nat) (op : aY) (a v : aI) : (bif a.Text then ((d4 n op (decide (Lib.compareBytes a.S v.S < 0)) (decide (Lib.compareBytes a.S v.S > 0))).bind fun x11 => some x11) else ((d4 n op (decide (a.N < v.N)) (decide (a.N > v.N))).bind fun x12 => some x12)) = some (nB op (zK a v)) := by
 unfold zK
 cases a.Text with
 | true => simp only [cond_true, yA, Kd, if_true]
 | false =>
  simp only [cond_false, Bool.false_eq_true, if_false]
  rw [← Fp a.N v.N, ← EV a.N v.N, yA, Kd]
theorem Gk (a x : aI) : (bif a.Text == x.Text then (bif a.Text then (bif a.S == x.S then some true else (bif (!a.Text) then some (a.N == x.N) else some false)) else (bif (!a.Text) then some (a.N == x.N) else some false)) else some false : Option Bool) = some (rj a x) := by
 unfold rj zK
 cases ht : a.Text with
 | true => simp only [cond_true, Bool.not_true, cond_false, if_true, wP]; cases true == x.Text <;> cases a.S == x.S <;> rfl
 | false => simp only [cond_false, Bool.not_false, cond_true, Bool.false_eq_true, if_false, EK]; cases false == x.Text <;> rfl
theorem Be (l : List aI) (hl : l.length ≤ maxLen) : ∀ f : aa, bQ f → Ev fun n => dx n f l = some (qq l f)
 | .mk kind nm op vals fs, hf => by
  obtain ⟨h1, h2, h3⟩ := oZ hf
  have ih : Ev fun n => ∀ x ∈ fs, dx n x l = some (qq l x) := Ev.all fun x hx => Be l hl x (kH h3 x hx)
  refine Ev.succ ((ih.big (l.length + vals.length + fs.length + 1)).mono fun n hh => ?_)
  obtain ⟨hn, ih⟩ := hh
  rw [dx, qq]
  cases h7 : kind == 7 with
  | true => rfl
  | false =>
   simp only [cond_false]
   cases h30 : kind == 3 with
   | true =>
    simp only [cond_true]
    cases fs with
    | nil => rfl
    | cons x r =>
     have h0 : gi (x :: r) 0 = some x := rfl
     have := ih x (by simp)
     have h4 : ((((x :: r).length : Nat) : Int) == 0) = false := by simp; omega
     rw [h4, h0, Dh]
     cases x; simp only [cond_false, Kd, this]
   | false =>
    simp only [cond_false]
    have hx3 : (bif kind == 1 then some (kind == 1) else some (kind == 2) : Option Bool) = some (kind == 1 || kind == 2) := by cases kind == 1 <;> rfl
    rw [hx3, Kd]
    cases h12 : (kind == 1 || kind == 2) with
    | true =>
     simp only [cond_true]
     refine (congrArg (fun o => Option.bind o _) (ju (l := fs) (p := fun x => qq l x == (kind == 2)) (r := fun _ => (kind == 2)) (q := ()) (fun i => (i : Int)) (fun i h => ?_) ?_ (by omega : fs.length < n))).trans ?_
     ·
      have hd : decide ((i : Int) < (fs.length : Int)) = true := by simpa using h
      rw [hd, bR h]
      have h5 := ih _ (List.getElem_mem h)
      cases hx : fs[i] with
      | mk a b c d e =>
       rw [hx] at h5
       simp only [cond_true, Kd, h5]
       cases hq : qq l (.mk a b c d e) == (kind == 2) with
       | true => simp only [cond_true, if_true]; rw [beq_iff_eq] at hq; rw [hq]
       | false => simp only [cond_false]; rw [dr (by have := li h2; omega)]; rfl
     · simp
     ·
      have hk : (kind == 1) = !(kind == 2) := by
       rw [Bool.eq_iff_iff]; simp at h12 ⊢; omega
      have ha := tm (p := fun x => qq l x == (kind == 2)) (l := fs)
      rw [qs l, qH l, hk]
      cases hf : fs.findIdx? fun x => qq l x == (kind == 2) with
      | some i =>
       rw [hf] at ha
       simp only [kS, Kd]
       cases h20 : kind == 2 with
       | true => rw [h20] at ha; simp at ha ⊢; exact ha
       | false =>
        rw [h20] at ha; simp at ha ⊢; exact ha
      | none =>
       rw [hf] at ha
       simp only [kS, Kd]
       cases h20 : kind == 2 with
       | true => rw [h20] at ha; simp at ha ⊢; exact ha
       | false => rw [h20] at ha; simp at ha ⊢; exact ha
    | false =>
     simp only [cond_false, Bool.or_eq_false_iff] at h12 ⊢
     rw [h12.1, h12.2]
     simp only [cond_false, Kd]
     rw [Dq hl]
     have hloop := db (body := fun ((at1, i4) : Int × Int) => (bif (decide (i4 ≥ 0)) then (((gi l i4).bind fun x6 => bif (x6.Name == nm) then some i4 else some at1 : Option Int).bind fun (at4 : Int) => some (Sum.inl (at4, W (i4 - 1)))) else some (Sum.inr at1)))
      (fun k => (F5 (fun a => a.Name == nm) l k, (l.length : Int) - 1 - k)) l.length (e := xg (fun a => a.Name == nm) l) (fun k hk => ?_) ?_ n (by omega)
     rotate_left
     ·
      have hd : decide ((l.length : Int) - 1 - k ≥ 0) = true := by simp; omega
      have he : (l.length : Int) - 1 - k = ((l.length - 1 - k : Nat) : Int) := by omega
      have hw : W (((l.length - 1 - k : Nat) : Int) - 1) = (l.length : Int) - 1 - ((k + 1 : Nat) : Int) := by rw [Dq (by omega)]; omega
      simp only [hd, he, hw, cond_true, bR (show l.length - 1 - k < l.length by omega), Kd, DD _ l hk]
      cases (l[l.length - 1 - k]'(by omega)).Name == nm <;> rfl
     ·
      have hd : decide ((l.length : Int) - 1 - (l.length : Int) ≥ 0) = false := by simp; omega
      simp only [hd, cond_false, EL]
     have h00 : ((F5 (fun a => a.Name == nm) l 0, (l.length : Int) - 1 - ((0 : Nat) : Int)) : Int × Int) = (-1, (l.length : Int) - 1) := by
      unfold F5; simp
     rw [h00] at hloop
     refine (congrArg (fun o => Option.bind o _) hloop).trans ?_
     unfold Al xi
     rw [wD]
     simp only [Kd]
     unfold xg
     cases hf : l.findIdx? (fun a => a.Name == nm) with
     | none => rfl
     | some i =>
      obtain ⟨h5, _⟩ := List.findIdx?_eq_some_iff_getElem.1 hf
      have hd : decide ((i : Int) < 0) = false := by simp
      simp only [hd, cond_false, Kd, bR h5, List.getElem?_eq_getElem h5]
      generalize l[i] = a
      cases vals with
      | nil => rfl
      | cons v r =>
       have h0 : gi (v :: r) 0 = some v := rfl
       have h6 : ((((v :: r).length : Nat) : Int) == 0) = false := by simp; omega
       simp only [h0, h6, cond_false, Kd, DQ, pC, B6]
       cases h4 : kind == 4 with
       | true =>
        simp only [cond_true, Kd]
        cases a.Text == v.Text with
        | false =>
         have h40 : (kind == 5) = false := by rw [beq_iff_eq] at h4; subst h4; rfl
         have h60 : (kind == 6) = false := by rw [beq_iff_eq] at h4; subst h4; rfl
         have hlast := fun (s0 : Int × aY × Bool × Int × aY) (hs : s0.1 = 0) => (rfl : s0 = s0)
         simp only [cond_false, h40, h60, Kd]
         obtain ⟨n, rfl⟩ : ∃ m, n = m + 1 := ⟨n - 1, by omega⟩
         refine (congrArg (fun o => Option.bind o _) (bM (e := .inl ()) ?_)).trans ?_
         · simp only [Bool.cond_self, cond_false, Kd]
         · rfl
        | true =>
         simp only [cond_true]
         exact C4 n op a v
       | false =>
        simp only [cond_false, Kd]
        cases h5 : kind == 5 with
        | true =>
         have h60 : (kind == 6) = false := by rw [beq_iff_eq] at h5; subst h5; rfl
         simp only [cond_true]
         cases a.Text <;> cases v.Text <;> simp only [cond_true, cond_false, Kd, h60]
         all_goals
          obtain ⟨n, rfl⟩ : ∃ m, n = m + 1 := ⟨n - 1, by omega⟩
          refine (congrArg (fun o => Option.bind o _) (bM (e := .inl ()) ?_)).trans ?_
          · simp only [Bool.cond_self, cond_false, Kd]
          · rfl
        | false =>
         simp only [cond_false, Kd]
         cases h6 : kind == 6 with
         | false =>
          obtain ⟨n, rfl⟩ : ∃ m, n = m + 1 := ⟨n - 1, by omega⟩
          refine (congrArg (fun o => Option.bind o _) (bM (e := .inl ()) ?_)).trans ?_
          · simp only [Bool.cond_self, cond_false, Kd]
          · rfl
         | true =>
          refine (congrArg (fun o => Option.bind o _) (ju (l := v :: r) (p := rj a) (r := fun _ => true) (q := ())
           (fun k => ((k : Int), match k with | 0 => (v.Name, v.Text, v.N, v.S) | j + 1 => match (v :: r)[j]? with | some x => (x.Name, x.Text, x.N, x.S) | none => ([], false, 0, []))) (fun i h => ?_) ?_ (by omega : (v :: r).length < n))).trans ?_
          ·
           have hd : decide ((i : Int) < (((v :: r).length : Nat) : Int)) = true := by simp only [decide_eq_true_eq]; omega
           simp only [hd, cond_true, Kd, bR h, Gk]
           rw [dr (by have := li h1; omega), List.getElem?_eq_getElem h]
           cases rj a (v :: r)[i] <;> rfl
          · simp
          ·
           rw [tm]
           cases (v :: r).findIdx? (rj a) <;> rfl
theorem ER (l : List aI) (hl : l.length ≤ maxLen) {n : Nat} (hn : l.length < n) : ∃ b, ii n l = some b := by
 unfold ii
 refine C8 (fun s => ∃ i : Nat, s = (i : Int) ∧ i ≤ l.length) (fun s => l.length - s.toNat) (fun _ => True) ⟨0, rfl, Nat.zero_le _⟩ (by simp; omega) ?_ fun e _ => by cases e <;> exact ⟨_, rfl⟩
 rintro _ ⟨i, rfl, hle⟩
 by_cases h : i < l.length
 ·
  have hd : decide ((i : Int) < (l.length : Int)) = true := by simpa using h
  simp only [hd, cond_true, bR h, Kd, dr (show i + 1 < 9223372036854775808 by have := li hl; omega)]
  generalize decide ((l[i].Name.length : Int) > 300) = b1
  generalize decide ((l[i].S.length : Int) > 300) = b2
  have hg : ∀ x : Int ⊕ (Unit ⊕ Bool), x = Sum.inr (Sum.inr false) ∨ x = Sum.inl (((i + 1 : Nat) : Int)) → (∀ s', x = .inl s' → (∃ i : Nat, s' = (i : Int) ∧ i ≤ l.length) ∧ l.length - s'.toNat < l.length - ((i : Int)).toNat) ∧ ∀ e, x = .inr e → True := by
   rintro x (rfl | rfl)
   · exact ⟨(fun _ e => nomatch e), fun _ _ => trivial⟩
   · exact ⟨fun s' e => by cases e; exact ⟨⟨i + 1, rfl, h⟩, by simp only [Int.toNat_natCast]; omega⟩, fun _ _ => trivial⟩
  cases b1 <;> cases b2 <;> simp only [cond_true, cond_false, Kd] <;> exact ⟨_, rfl, hg _ (by simp)⟩
 ·
  have hd : decide ((i : Int) < (l.length : Int)) = false := by simp; omega
  simp only [hd, cond_false]
  exact ⟨_, rfl, (fun s' e => nomatch e), fun _ _ => trivial⟩
end Go.Proofs.YtbkomicjhfldmaaGreatDoor
namespace Go.Proofs.YtbkomicjhfldmaaGreatDoor
open Go.Pv
set_option maxRecDepth 100000
set_option maxHeartbeats 4000000
set_option linter.unusedSimpArgs false
set_option linter.unusedVariables false
def PW (n : Nat) (v : eI) (f : aY) : Prop := cY n f = some (dR f) ∧ dG n f = some ((dR f).1, EO (dR f).2) ∧ dE n (dR f).1 v.Attrs = some (qq v.Attrs (dR f).1) ∧ dx n (dR f).1 v.Attrs = some (qq v.Attrs (dR f).1)
theorem If (v : eI) (hv : v.Attrs.length ≤ maxLen) (f : aY) : Ev fun n => PW n v f := by
 refine (((HV f).and (G0 f)).and ((CL v.Attrs hv (dR f).1 (vx f)).and (Be v.Attrs hv (dR f).1 (vx f)))).mono fun n h => ?_
 obtain ⟨⟨h1, h2⟩, h3, h4⟩ := h
 refine ⟨h1, ?_, h3, h4⟩
 rw [h2]; cases (dR f).2 <;> rfl
theorem TR.wants {a : aC} {b : aD} {k n : Nat} {v : eI} (h : TR (PW n v) a b k) (hk : k ≤ 500) (hn : 2000 ≤ n) (id : Int) : ∃ r, cm n a id v = some (r, a) ∧ dp n b id v = some (r, b) := by
 have hbl := h.bl
 unfold cm dp
 rw [ug b id (by omega) (by omega), Kd]
 simp only [yb, Kd]
 rcases h.found id with ⟨i, hi, hid, hix, hmg⟩ | ⟨hix, hmg, hno⟩
 ·
  obtain ⟨o1, o2, o3, o4, o5, o6⟩ := h.ok _ (List.getElem_mem hi)
  obtain ⟨p1, p2, p3, p4⟩ := h.fl _ (List.getElem_mem hi)
  simp only [hmg, hix, Option.getD_some, Option.isSome_some, cond_true, decide_eq_false (show ¬ ((i : Nat) : Int) < 0 by omega), cond_false, bR hi, Kd]
  rw [show lX n b.L[i].Region v.At = some (IO b.L[i].Region v.At) from if_pos (tg (by omega)), Kd]
  unfold kL
  rw [p2, Kd, show nJ n b.L[i].Region v.At = some (IO b.L[i].Region v.At) from if_pos (tg (by omega))]
  unfold fF
  revert p3 p4
  rcases dR b.L[i].Filter with ⟨⟨kd, nm, op, vs, l⟩, e⟩
  intro p3 p4
  simp only [Kd, p4]
  rw [show dE n (aa.mk (aa.mk kd nm op vs l).Kind (aa.mk kd nm op vs l).Name (aa.mk kd nm op vs l).Op (aa.mk kd nm op vs l).Vals (aa.mk kd nm op vs l).L) v.Attrs = _ from p3]
  cases IO b.L[i].Region v.At with
  | true => exact ⟨_, rfl, rfl⟩
  | false => exact ⟨_, rfl, rfl⟩
 ·
  simp only [hmg, hix, Option.isSome_none, cond_false, decide_eq_true (show (-1 : Int) < 0 by decide), cond_true]
  exact ⟨_, rfl, rfl⟩
end Go.Proofs.YtbkomicjhfldmaaGreatDoor
namespace Go.Proofs.YtbkomicjhfldmaaGreatDoor
open Go.Pv
set_option maxRecDepth 100000
set_option maxHeartbeats 4000000
set_option linter.unusedSimpArgs false
set_option linter.unusedVariables false
set_option linter.unusedSectionVars false
def gm (fu : Nat) (s1 : Int) : Option Bool :=
 bif (decide (s1 ≥ 24)) then some (decide (s1 ≤ 31)) else some false
section
attribute [local irreducible] cg aM DP ai aP Decidable.decide
theorem np {fu : Nat} {s1 : Int} {r : Bool} (h : gm fu s1 = some r) : ai Tryz.prog 17 [.int .i64 s1] (· = .bool r) := by
 rw [gm] at h
 refine cf Tryz.func17 ?_
 refine ag (rv Z Z (rn (ag (rg 3 rfl (dN Z Z Z Z Z h (fun h_1 => ?_) fun h_1 => ?_)))))
 ·clear h
  exact rg 4 rfl (rn (aT (si h_1 ▸ rF)))
 clear h
 exact rg 3 rfl (rn (aT (si h_1 ▸ rF)))
def mm (fu : Nat) (g1 : aF) : Option Bool :=
 (some (decide ((g1.Poly.length : Int) ≤ 70))).bind fun x1 => some x1
theorem wi {fu : Nat} {g1 : aF} {r : Bool} (h : mm fu g1 = some r) : ai Tryz.prog 8 [.agg [.int .i64 g1.Rect.X1, .int .i64 g1.Rect.Y1, .int .i64 g1.Rect.X2, .int .i64 g1.Rect.Y2, .sl (g1.Poly.map aH)]] (· = .bool r) := by
 rw [mm] at h
 refine cf Tryz.func8 ?_
 refine ag (rb Z Z (rv Z Z (rn (ag (rg 3 rfl (rt ((lM aH g1.Poly)) (rg 2 rfl ?_)))))))
 obtain ⟨x1, hx1, h_1⟩ := bs h
 exact rt (xh hx1) (rn (aT (si h_1 ▸ rF)))
def nC (fu : Nat)  : Option Bool :=
 (fZ fu 30 2).bind fun t1 => match t1 with | (none, t3) => ((fZ fu 23 2).bind fun x1 => match x1 with | (none, x3) => some false | (some x2, x3) => some false) | (some t2, t3) => ((fZ fu 23 2).bind fun x4 => match x4 with | (none, x6) => (bif t3.isSome then some false else ((cM fu t2 5 (aF.mk (ba.mk 0 0 2 2) []) [116, 114, 117, 101]).bind fun g1 => (cB fu g1.2.2 5 (aZ.mk 0 0)).bind fun safe1 => bif (x6 == some 1) then (bif g1.2.1.isNone then (bif (g1.1.Version == 1) then (bif safe1.2.2.1.isNone then (bif safe1.2.1 then (bif (safe1.1.Version == 1) then ((cm fu safe1.2.2.2 5 (eI.mk 0 0 (aZ.mk 1 0) [])).bind fun x7 => some x7.1) else some false) else some false) else some false) else some false) else some false) else some false)) | (some x5, x6) => (bif t3.isSome then some false else ((cM fu t2 5 (aF.mk (ba.mk 0 0 2 2) []) [116, 114, 117, 101]).bind fun g2 => (cB fu g2.2.2 5 (aZ.mk 0 0)).bind fun safe2 => bif (x6 == some 1) then (bif g2.2.1.isNone then (bif (g2.1.Version == 1) then (bif safe2.2.2.1.isNone then (bif safe2.2.1 then (bif (safe2.1.Version == 1) then ((cm fu safe2.2.2.2 5 (eI.mk 0 0 (aZ.mk 1 0) [])).bind fun x8 => some x8.1) else some false) else some false) else some false) else some false) else some false) else some false)))
theorem yz {fu : Nat}  {r : Bool} (h : nC fu  = some r) : ai Tryz.prog 7 [] (· = .bool r) := by
 rw [nC] at h
 refine cf Tryz.func7 ?_
 refine ag (rv Z Z (rn (ag (bx h fun t1 hx1 h_1 => ?_))))
 obtain ⟨_ | t2, t3⟩ := t1
 ·clear h
  refine rh [] Z Z (eE hx1) Z Z Z zH zO (eA Z Z Z Z ?_)
  refine rg 5 rfl (rn (ag (bx h_1 fun x1 hx2 h_2 => ?_)))
  obtain ⟨_ | x2, x3⟩ := x1
  ·clear h_1
   refine rh [] Z Z (eE hx2) Z Z Z zH zO (eA Z Z Z Z ?_)
   exact rg 5 rfl (rn (aS (ag (rg 6 rfl (rn (ct rfl (ag (rv Z Z (rn (aT (si h_2 ▸ rF)))))))))))
  clear h_1
  refine rh [] Z Z (eE hx2) Z Z Z zH zO (eA Z Z Z Z ?_)
  exact py (gJ (κ := (bj .i64)) (c := (fun x : aw => .agg (az x))) (fun _ => rfl) (gJ (κ := (bj .i64)) (c := (fun x : Int => .int .i64 x)) (fun _ => rfl) (rfl))) (rg 5 rfl (rn (aS (ag (rg 6 rfl (rn (ct rfl (ag (rv Z Z (rn (aT (si h_2 ▸ rF))))))))))))
 clear h
 refine rh [] Z Z (eE hx1) Z Z Z zH zO (eA Z Z Z Z ?_)
 refine py (gJ (κ := (bj .i64)) (c := (fun x : aw => .agg (az x))) (fun _ => rfl) (gJ (κ := (bj .i64)) (c := (fun x : Int => .int .i64 x)) (fun _ => rfl) (rfl))) (rg 5 rfl (rn (ag (bx h_1 fun x4 hx3 h_2 => ?_))))
 obtain ⟨_ | x5, x6⟩ := x4
 ·clear h_1
  refine rh [] Z Z (eE hx3) Z Z Z zH zO (eA Z Z Z Z ?_)
  refine rg 5 rfl (rn (aS (ag (rg 4 rfl (gy Z Z Z (rV rfl (jo Z Z Z) (rv Z Z (rn (bw rfl h_2 (fun h_3 => ?_) fun h_3 => ?_)))))))))
  ·clear h_2
   exact ag (rv Z Z (rn (aT (si h_3 ▸ rF))))
  clear h_2
  refine aK (ag (rg 3 rfl (bx h_3 fun g1 hx4 h_4 => rh [0,1,2] Z Z (gU hx4) Z Z Z zH zO (eA Z Z Z Z ?_))))
  refine py (gJ (κ := (bj .i64)) (c := (fun x : aw => .agg (az x))) (fun _ => rfl) (gJ (κ := (bj .i64)) (c := (fun x : Int => .int .i64 x)) (fun _ => rfl) (rfl))) (rg 3 rfl (ra Z Z Z (rs Z Z Z Z Z Z Z (rv Z Z (rn (ag (rg 2 rfl (bx h_4 fun safe1 hx5 h_5 => rh [0,3,4] Z Z (gB hx5) Z Z Z zH zO (eA Z Z Z Z ?_)))))))))
  refine py (gJ (κ := (bj .i64)) (c := (fun x : aw => .agg (az x))) (fun _ => rfl) (gJ (κ := (bj .i64)) (c := (fun x : Int => .int .i64 x)) (fun _ => rfl) (rfl))) (rg 4 rfl (ra Z Z Z (rs Z Z Z Z Z Z Z (rg 2 rfl (rn (ag (rg 2 rfl (rV rfl (wH Z Z Z Z Z Z (fun _ => rfl)) (rv Z Z (dN Z Z Z Z Z h_5 (fun h_6 => ?_) fun h_6 => ?_))))))))))
  ·clear h_3 h_4 h_5
   refine rv Z Z (gy Z Z Z (rV rfl (nN Z Z Z) (rg 2 rfl (dN Z Z Z Z Z h_6 (fun h_7 => ?_) fun h_7 => ?_))))
   ·clear h_6
    refine rg 5 rfl (dN Z Z Z Z Z h_7 (fun h_8 => ?_) fun h_8 => ?_)
    ·clear h_7
     refine rv Z Z (gy Z Z Z (rV rfl (nN Z Z Z) (rg 2 rfl (dN Z Z Z Z Z h_8 (fun h_9 => ?_) fun h_9 => ?_))))
     ·clear h_8
      refine rg 3 rfl (dN Z Z Z Z Z h_9 (fun h_10 => ?_) fun h_10 => ?_)
      ·clear h_9
       refine rg 5 rfl (dN Z Z Z Z Z h_10 (fun h_11 => ?_) fun h_11 => ?_)
       ·clear h_10
        refine rg 3 rfl (gy Z Z Z (bx h_11 fun x7 hx6 h_12 => rh [0,6,7] Z Z (fR hx6) Z Z Z zH zO (eA Z Z Z Z ?_)))
        exact py (gJ (κ := (bj .i64)) (c := (fun x : aw => .agg (az x))) (fun _ => rfl) (gJ (κ := (bj .i64)) (c := (fun x : Int => .int .i64 x)) (fun _ => rfl) (rfl))) (rg 2 rfl (rn (aT (si h_12 ▸ rF))))
       clear h_10
       exact rg 5 rfl (rn (aT (si h_11 ▸ rF)))
      clear h_9
      exact rg 10 rfl (rn (aT (si h_10 ▸ rF)))
     clear h_8
     exact rg 13 rfl (rn (aT (si h_9 ▸ rF)))
    clear h_7
    exact rg 17 rfl (rn (aT (si h_8 ▸ rF)))
   clear h_6
   exact rg 22 rfl (rn (aT (si h_7 ▸ rF)))
  clear h_3 h_4 h_5
  exact rg 26 rfl (rn (aT (si h_6 ▸ rF)))
 clear h_1
 refine rh [] Z Z (eE hx3) Z Z Z zH zO (eA Z Z Z Z ?_)
 refine py (gJ (κ := (bj .i64)) (c := (fun x : aw => .agg (az x))) (fun _ => rfl) (gJ (κ := (bj .i64)) (c := (fun x : Int => .int .i64 x)) (fun _ => rfl) (rfl))) (rg 5 rfl (rn (aS (ag (rg 4 rfl (gy Z Z Z (rV rfl (jo Z Z Z) (rv Z Z (rn (bw rfl h_2 (fun h_3 => ?_) fun h_3 => ?_))))))))))
 ·clear h_2
  exact ag (rv Z Z (rn (aT (si h_3 ▸ rF))))
 clear h_2
 refine aK (ag (rg 3 rfl (bx h_3 fun g2 hx7 h_4 => rh [0,1,2] Z Z (gU hx7) Z Z Z zH zO (eA Z Z Z Z ?_))))
 refine py (gJ (κ := (bj .i64)) (c := (fun x : aw => .agg (az x))) (fun _ => rfl) (gJ (κ := (bj .i64)) (c := (fun x : Int => .int .i64 x)) (fun _ => rfl) (rfl))) (rg 3 rfl (ra Z Z Z (rs Z Z Z Z Z Z Z (rv Z Z (rn (ag (rg 2 rfl (bx h_4 fun safe2 hx8 h_5 => rh [0,6,7] Z Z (gB hx8) Z Z Z zH zO (eA Z Z Z Z ?_)))))))))
 refine py (gJ (κ := (bj .i64)) (c := (fun x : aw => .agg (az x))) (fun _ => rfl) (gJ (κ := (bj .i64)) (c := (fun x : Int => .int .i64 x)) (fun _ => rfl) (rfl))) (rg 4 rfl (ra Z Z Z (rs Z Z Z Z Z Z Z (rg 2 rfl (rn (ag (rg 2 rfl (rV rfl (wH Z Z Z Z Z Z (fun _ => rfl)) (rv Z Z (dN Z Z Z Z Z h_5 (fun h_6 => ?_) fun h_6 => ?_))))))))))
 ·clear h_3 h_4 h_5
  refine rv Z Z (gy Z Z Z (rV rfl (nN Z Z Z) (rg 2 rfl (dN Z Z Z Z Z h_6 (fun h_7 => ?_) fun h_7 => ?_))))
  ·clear h_6
   refine rg 5 rfl (dN Z Z Z Z Z h_7 (fun h_8 => ?_) fun h_8 => ?_)
   ·clear h_7
    refine rv Z Z (gy Z Z Z (rV rfl (nN Z Z Z) (rg 2 rfl (dN Z Z Z Z Z h_8 (fun h_9 => ?_) fun h_9 => ?_))))
    ·clear h_8
     refine rg 3 rfl (dN Z Z Z Z Z h_9 (fun h_10 => ?_) fun h_10 => ?_)
     ·clear h_9
      refine rg 5 rfl (dN Z Z Z Z Z h_10 (fun h_11 => ?_) fun h_11 => ?_)
      ·clear h_10
       refine rg 3 rfl (gy Z Z Z (bx h_11 fun x8 hx9 h_12 => rh [0,9,10] Z Z (fR hx9) Z Z Z zH zO (eA Z Z Z Z ?_)))
       exact py (gJ (κ := (bj .i64)) (c := (fun x : aw => .agg (az x))) (fun _ => rfl) (gJ (κ := (bj .i64)) (c := (fun x : Int => .int .i64 x)) (fun _ => rfl) (rfl))) (rg 2 rfl (rn (aT (si h_12 ▸ rF))))
      clear h_10
      exact rg 5 rfl (rn (aT (si h_11 ▸ rF)))
     clear h_9
     exact rg 10 rfl (rn (aT (si h_10 ▸ rF)))
    clear h_8
    exact rg 13 rfl (rn (aT (si h_9 ▸ rF)))
   clear h_7
   exact rg 17 rfl (rn (aT (si h_8 ▸ rF)))
  clear h_6
  exact rg 22 rfl (rn (aT (si h_7 ▸ rF)))
 clear h_3 h_4 h_5
 exact rg 26 rfl (rn (aT (si h_6 ▸ rF)))
def jm (fu : Nat) (c1 : Int) (n1 : Int) : Option Int :=
 (bif (decide (c1 < 0)) then ((some (W (0 - (W (c1 + 1))))).bind fun c3 => some c3) else some c1 : Option Int).bind fun (c2 : Int) => ((Hy .i64 c2 n1).bind fun q1 => some q1)
theorem uj {fu : Nat} {c1 : Int} {n1 : Int} {r : Int} (h : jm fu c1 n1 = some r) : ai Tryz.prog 18 [.int .i64 c1, .int .i64 n1] (· = .int .i64 r) := by
 rw [jm] at h
 refine cf Tryz.func18 ?_
 refine ag (rv Z Z (rn (aS (ag (rg 2 rfl (rn (bx h fun o1 ho2 h_1 => aq (fun x => x = o1) (fun (c2 : Int) => ⟨[(0, .int .i64 c2), (1, .int .i64 n1)], [], [], 0⟩) ?_ ?_)))))))
 ·clear h
  refine bw rfl ho2 (fun ho2_1 => ?_) fun ho2_1 => ?_
  ·clear ho2
   refine aR (rg 4 rfl ?_)
   obtain ⟨c3, hx3, ho2_2⟩ := bs ho2_1
   exact rt (Ew hx3) (rn (si ho2_2 ▸ cN []))
  clear ho2
  exact aK (si ho2_1 ▸ cN [])
 clear h
 rintro c2 rfl
 exact ch (ag (rg 2 rfl (bx h_1 fun q1 hx4 h_2 => rV rfl (HH Z Z hx4) (rv Z Z (rn (aT (si h_2 ▸ rF)))))))
end
structure gY where
 What : Int
 Id : Int
 G : aF
 F : aY
 D : aZ
def bP (x : gY) : List AV := [.int .i64 x.What, .int .i64 x.Id, .int .i64 x.G.Rect.X1, .int .i64 x.G.Rect.Y1, .int .i64 x.G.Rect.X2, .int .i64 x.G.Rect.Y2, .sl (x.G.Poly.map aH), .str (sB x.F), .int .i64 x.D.X, .int .i64 x.D.Y]
def ld (x : gY) : Prop := Go.Pv.okI .i64 x.What ∧ Go.Pv.okI .i64 x.Id ∧ th x.G ∧ Fc x.F ∧ lE x.D
theorem ub {n : Nat} {cs : List AV} (h : kB Tryz.prog n 61 cs) : ∃ a : gY, cs = bP a ∧ ld a := by
 obtain ⟨m, rfl, h⟩ := iS (i := Tryz.i61) rfl rfl h
 obtain ⟨a0, r0, rfl, _, h0, h⟩ := h
 obtain ⟨a1, r1, rfl, _, h1, h⟩ := h
 obtain ⟨a2, r2, rfl, _, h2, h⟩ := h
 obtain ⟨a3, r3, rfl, _, h3, h⟩ := h
 obtain ⟨a4, r4, rfl, _, h4, h⟩ := h
 obtain rfl : r4 = [] := h
 obtain ⟨x0, rfl, k0⟩ := gq (i := Tryz.i3) rfl rfl h0
 obtain ⟨x1, rfl, k1⟩ := gq (i := Tryz.i3) rfl rfl h1
 obtain ⟨x2, rfl, k2⟩ := yF h2
 obtain ⟨x3, rfl, k3⟩ := wn (i := Tryz.i9) rfl rfl h3
 obtain ⟨x4, rfl, k4⟩ := oW h4
 exact ⟨⟨x0, x1, x2, x3, x4⟩, rfl, k0, k1, k2, k3, k4⟩
def qn (x : eI) : Prop := Go.Pv.okI .i64 x.Pub ∧ Go.Pv.okI .u32 x.Seq ∧ lE x.At ∧ BQ (ig) x.Attrs
theorem Ae {n : Nat} {cs : List AV} (h : kB Tryz.prog n 52 cs) : ∃ a : eI, cs = sV a ∧ qn a := by
 obtain ⟨m, rfl, h⟩ := iS (i := Tryz.i52) rfl rfl h
 obtain ⟨a0, r0, rfl, _, h0, h⟩ := h
 obtain ⟨a1, r1, rfl, _, h1, h⟩ := h
 obtain ⟨a2, r2, rfl, _, h2, h⟩ := h
 obtain ⟨a3, r3, rfl, _, h3, h⟩ := h
 obtain rfl : r3 = [] := h
 obtain ⟨x0, rfl, k0⟩ := gq (i := Tryz.i3) rfl rfl h0
 obtain ⟨x1, rfl, k1⟩ := gq (i := Tryz.i49) rfl rfl h1
 obtain ⟨x2, rfl, k2⟩ := oW h2
 obtain ⟨x3, rfl, k3⟩ := uf (c := au) (Q := ig) (i := Tryz.i50) rfl rfl (fun _ _ h => BV h) h3
 exact ⟨⟨x0, x1, x2, x3⟩, rfl, k0, k1, k2, k3⟩
theorem yp {x : AV} (h : BE Tryz.prog 52 x) : ∃ a : eI, x = .agg (sV a) ∧ qn a := by
 obtain ⟨n, cs, rfl, h2⟩ := GE (i := Tryz.i52) rfl rfl h
 obtain ⟨a, rfl, k⟩ := Ae h2
 exact ⟨a, rfl, k⟩
def fJ (fu : Nat) (shift1 : Int) (most1 : Int) (l1 : List gY) (v1 : eI) : Option Bool :=
 (nC fu ).bind fun head1 => (ii fu v1.Attrs).bind fun attrs1 => (bif (!attrs1) then some true else some (decide ((l1.length : Int) > 80)) : Option Bool).bind fun (x1 : Bool) => (bif x1 then some head1 else ((fZ fu shift1 most1).bind fun t1 => match t1 with | (none, t3) => ((gm fu shift1).bind fun fine1 => (bif (!fine1) then some true else (bif (decide (most1 < 1)) then some true else some (decide (most1 > 1000))) : Option Bool).bind fun (x2 : Bool) => (bif x2 then ((bif head1 then some (t3 == some 1) else some false : Option Bool).bind fun (x3 : Bool) => some x3) else some false)) | (some t2, t3) => ((gm fu shift1).bind fun fine2 => (bif (!fine2) then some true else (bif (decide (most1 < 1)) then some true else some (decide (most1 > 1000))) : Option Bool).bind fun (x4 : Bool) => (bif x4 then ((bif head1 then some () else some () : Option Unit).bind fun (_ : Unit) => some false) else (bif t3.isSome then some false else ((bm (ε := Int × Int × Int × Int × Int × (List (Int × aw)) × (List (Int × Int)) × (List bf) × (List Int) × (List Int)) (τ := Unit ⊕ Bool) (fun (((i1, t4, t5, m1, m2, l2, l3, l4, l5, l6)) : Int × Int × Int × Int × Int × (List (Int × aw)) × (List (Int × Int)) × (List bf) × (List Int) × (List Int)) => (bif (decide (i1 < (l1.length : Int))) then (((gi l1 i1).bind fun x5 => (mm fu x5.G).bind fun few1 => (bif (!few1) then some true else some (decide ((x5.F.length : Int) > 600)) : Option Bool).bind fun (x6 : Bool) => (bif x6 then some (Sum.inr (Sum.inr (Sum.inr head1))) else ((jm fu x5.What 4).bind fun x7 => ((bif (x7 == 0) then some (x7 == 0) else some (x7 == 1) : Option Bool).bind fun (x8 : Bool) => (bif x8 then ((cM fu (aC.mk t4 t5 l2 l3) x5.Id x5.G x5.F).bind fun f2 => (eZ fu (aD.mk m1 m2 l4 l5 l6) x5.Id x5.G x5.F).bind fun code2 => some (Sum.inl (code2.2.1, f2.2.1, f2.2.2.Shift, f2.2.2.Most, code2.2.2.Shift, code2.2.2.Most, f2.1.Id, f2.1.Version, f2.1.Region.Rect.X1, f2.1.Region.Rect.Y1, f2.1.Region.Rect.X2, f2.1.Region.Rect.Y2, f2.1.Region.Poly, f2.1.Filter, f2.1.Cover.X1, f2.1.Cover.Y1, f2.1.Cover.X2, f2.1.Cover.Y2, code2.1.Id, code2.1.Version, code2.1.Region.Rect.X1, code2.1.Region.Rect.Y1, code2.1.Region.Rect.X2, code2.1.Region.Rect.Y2, code2.1.Region.Poly, code2.1.Filter, code2.1.Cover.X1, code2.1.Cover.Y1, code2.1.Cover.X2, code2.1.Cover.Y2, f2.2.2.L, f2.2.2.Last, code2.2.2.L, code2.2.2.Ids, code2.2.2.Last))) else (bif (x7 == 2) then ((cB fu (aC.mk t4 t5 l2 l3) x5.Id x5.D).bind fun safe1 => (ez fu (aD.mk m1 m2 l4 l5 l6) x5.Id x5.D).bind fun was1 => bif (!(safe1.2.1 == was1.2.1)) then some (Sum.inr (Sum.inr (Sum.inr (Sum.inr false)))) else some (Sum.inl (was1.2.2.1, safe1.2.2.1, safe1.2.2.2.Shift, safe1.2.2.2.Most, was1.2.2.2.Shift, was1.2.2.2.Most, safe1.1.Id, safe1.1.Version, safe1.1.Region.Rect.X1, safe1.1.Region.Rect.Y1, safe1.1.Region.Rect.X2, safe1.1.Region.Rect.Y2, safe1.1.Region.Poly, safe1.1.Filter, safe1.1.Cover.X1, safe1.1.Cover.Y1, safe1.1.Cover.X2, safe1.1.Cover.Y2, was1.1.Id, was1.1.Version, was1.1.Region.Rect.X1, was1.1.Region.Rect.Y1, was1.1.Region.Rect.X2, was1.1.Region.Rect.Y2, was1.1.Region.Poly, was1.1.Filter, was1.1.Cover.X1, was1.1.Cover.Y1, was1.1.Cover.X2, was1.1.Cover.Y2, safe1.2.2.2.L, safe1.2.2.2.Last, was1.2.2.2.L, was1.2.2.2.Ids, was1.2.2.2.Last))) else ((dL fu (aC.mk t4 t5 l2 l3) x5.Id).bind fun f3 => (eD fu (aD.mk m1 m2 l4 l5 l6) x5.Id).bind fun code3 => some (Sum.inl (code3.2.1, f3.2.1, f3.2.2.Shift, f3.2.2.Most, code3.2.2.Shift, code3.2.2.Most, f3.1.Id, f3.1.Version, f3.1.Region.Rect.X1, f3.1.Region.Rect.Y1, f3.1.Region.Rect.X2, f3.1.Region.Rect.Y2, f3.1.Region.Poly, f3.1.Filter, f3.1.Cover.X1, f3.1.Cover.Y1, f3.1.Cover.X2, f3.1.Cover.Y2, code3.1.Id, code3.1.Version, code3.1.Region.Rect.X1, code3.1.Region.Rect.Y1, code3.1.Region.Rect.X2, code3.1.Region.Rect.Y2, code3.1.Region.Poly, code3.1.Filter, code3.1.Cover.X1, code3.1.Cover.Y1, code3.1.Cover.X2, code3.1.Cover.Y2, f3.2.2.L, f3.2.2.Last, code3.2.2.L, code3.2.2.Ids, code3.2.2.Last))))) : Option ((Int × Er × Int × Int × Int × Int × Int × Int × Int × Int × Int × Int × (List aZ) × aY × Int × Int × Int × Int × Int × Int × Int × Int × Int × Int × (List aZ) × aY × Int × Int × Int × Int × (List (Int × aw)) × (List (Int × Int)) × (List bf) × (List Int) × (List Int)) ⊕ ((Int × Int × Int × Int × (List (Int × aw)) × (List (Int × Int)) × (List bf) × (List Int) × (List Int)) ⊕ ((Int × Int × Int × Int × Int × (List (Int × aw)) × (List (Int × Int)) × (List bf) × (List Int) × (List Int)) ⊕ (Unit ⊕ Bool))))).bind fun o => kS o fun (((code1, f1, t10, t11, m7, m8, a1, a2, a3, a4, a5, a6, a7, a8, a9, a10, a11, a12, b1, b2, b3, b4, b5, b6, b7, b8, b9, b10, b11, b12, l17, l18, l19, l20, l21)) : Int × Er × Int × Int × Int × Int × Int × Int × Int × Int × Int × Int × (List aZ) × aY × Int × Int × Int × Int × Int × Int × Int × Int × Int × Int × (List aZ) × aY × Int × Int × Int × Int × (List (Int × aw)) × (List (Int × Int)) × (List bf) × (List Int) × (List Int)) => (((kE fu f1).bind fun x12 => bif (x12 != code1) then some (true, t10, t11, m7, m8, l17, l18, l19, l20, l21) else ((fW fu (bf.mk a1 a2 (aF.mk (ba.mk a3 a4 a5 a6) a7) a8 (ba.mk a9 a10 a11 a12)) (bf.mk b1 b2 (aF.mk (ba.mk b3 b4 b5 b6) b7) b8 (ba.mk b9 b10 b11 b12))).bind fun x13 => bif (!x13) then some (true, t10, t11, m7, m8, l17, l18, l19, l20, l21) else ((c7 fu (aC.mk t10 t11 l17 l18)).bind fun x14 => (hX fu x14.1 l19).bind fun x15 => bif (!x15) then some (true, x14.2.Shift, x14.2.Most, m7, m8, x14.2.L, x14.2.Last, l19, l20, l21) else ((cm fu x14.2 x5.Id v1).bind fun x16 => (dp fu (aD.mk m7 m8 l19 l20 l21) x5.Id v1).bind fun x17 => some (!(x16.1 == x17.1), x16.2.Shift, x16.2.Most, x17.2.Shift, x17.2.Most, x16.2.L, x16.2.Last, x17.2.L, x17.2.Ids, x17.2.Last)))) : Option (Bool × Int × Int × Int × Int × (List (Int × aw)) × (List (Int × Int)) × (List bf) × (List Int) × (List Int))).bind fun (((x9, t12, t13, m9, m10, l22, l23, l24, l25, l26)) : Bool × Int × Int × Int × Int × (List (Int × aw)) × (List (Int × Int)) × (List bf) × (List Int) × (List Int)) => (bif x9 then some (Sum.inr (Sum.inr (Sum.inr false))) else ((eY fu (aC.mk t12 t13 l22 l23) x5.Id).bind fun is1 => (bS fu (aD.mk m9 m10 l24 l25 l26) x5.Id).bind fun at1 => bif (!(is1.2.1 == (decide (at1.1 ≥ 0)))) then some (Sum.inr (Sum.inr (Sum.inr false))) else (bif is1.2.1 then ((gi at1.2.L at1.1).bind fun x18 => (fW fu is1.1 x18).bind fun x19 => bif (!x19) then some (Sum.inr (Sum.inr (Sum.inr false))) else some (Sum.inl (is1.2.2.Shift, is1.2.2.Most, at1.2.Shift, at1.2.Most, is1.2.2.L, is1.2.2.Last, at1.2.L, at1.2.Ids, at1.2.Last))) else some (Sum.inl (is1.2.2.Shift, is1.2.2.Most, at1.2.Shift, at1.2.Most, is1.2.2.L, is1.2.2.Last, at1.2.L, at1.2.Ids, at1.2.Last)))))))) : Option ((Int × Int × Int × Int × (List (Int × aw)) × (List (Int × Int)) × (List bf) × (List Int) × (List Int)) ⊕ ((Int × Int × Int × Int × Int × (List (Int × aw)) × (List (Int × Int)) × (List bf) × (List Int) × (List Int)) ⊕ (Unit ⊕ Bool)))).bind fun o => kS o fun (((t8, t9, m5, m6, l12, l13, l14, l15, l16)) : Int × Int × Int × Int × (List (Int × aw)) × (List (Int × Int)) × (List bf) × (List Int) × (List Int)) => some (Sum.inl (W (i1 + 1), t8, t9, m5, m6, l12, l13, l14, l15, l16))) else some (Sum.inr (Sum.inl ())))) fu (0, t2.Shift, t2.Most, shift1, most1, t2.L, t2.Last, [], [], [])).bind fun o => kS o fun (_ : Unit) => some head1))))))
section
attribute [local irreducible] cg aM DP ai aP Decidable.decide
theorem nY {fu : Nat} {shift1 : Int} {most1 : Int} {l1 : List gY} {v1 : eI} {r : Bool} (h : fJ fu shift1 most1 l1 v1 = some r) : ai Tryz.prog 4 [.int .i64 shift1, .int .i64 most1, .sl (l1.map bP), .agg [.int .i64 v1.Pub, .int .u32 v1.Seq, .int .i64 v1.At.X, .int .i64 v1.At.Y, .sl (v1.Attrs.map au)]] (· = .bool r) := by
 rw [fJ] at h
 refine cf Tryz.func4 ?_
 refine ag (rb Z Z (rv Z Z (rn (ag (bx h fun head1 hx1 h_1 => bt Z Z Z (yz hx1) (rv Z Z (rn (ag (rg 2 rfl (bx h_1 fun attrs1 hx2 h_2 => bt Z Z Z (sj hx2) (rv Z Z (rn (aS (aS (bx h_2 fun o3 ho4 h_3 => aq (fun x => x = o3) (fun (x1 : Bool) => ⟨[(0, .int .i64 shift1), (1, .int .i64 most1), (2, .sl (l1.map bP)), (7, .ptr 0 0), (9, .bool head1), (37, .bool x1)], [(0, 0, .int .i64 v1.Pub), (0, 1, .int .u32 v1.Seq), (0, 2, .int .i64 v1.At.X), (0, 3, .int .i64 v1.At.Y), (0, 4, .sl (v1.Attrs.map au))], [], 1⟩) ?_ ?_)))))))))))))))
 ·clear h h_1 h_2
  refine aR (rg 3 rfl (eN Z Z Z Z Z ho4 (fun ho4_1 => ?_) fun ho4_1 => ?_))
  ·clear ho4
   exact rg 2 rfl (rt ((lM bP l1)) (rg 2 rfl (rn (si ho4_1 ▸ cN [0]))))
  clear ho4
  exact rg 3 rfl (rn (si ho4_1 ▸ cN [0]))
 clear h h_1 h_2
 rintro x1 rfl
 refine ch (bw rfl h_3 (fun h_4 => ?_) fun h_4 => ?_)
 ·clear h_3
  exact ag (rg 2 rfl (rn (aT (si h_4 ▸ rF))))
 clear h_3
 refine aK (ag (rg 2 rfl (bx h_4 fun t1 hx5 h_5 => ?_)))
 obtain ⟨_ | t2, t3⟩ := t1
 ·clear h_4
  refine rh [] Z Z (eE hx5) Z Z Z zH zO (eA Z Z Z Z ?_)
  refine rg 5 rfl (rn (ag (rv Z Z (bx h_5 fun fine1 hx6 h_6 => bt Z Z Z (np hx6) (rv Z Z (rn (aS (aS (bx h_6 fun o7 ho8 h_7 => aq (fun x => x = o7) (fun (x2 : Bool) => ⟨[(0, .int .i64 shift1), (1, .int .i64 most1), (2, .sl (l1.map bP)), (7, .ptr 0 0), (9, .bool head1), (11, .nilp), (12, .err 55 t3), (56, .bool x2)], [(0, 0, .int .i64 v1.Pub), (0, 1, .int .u32 v1.Seq), (0, 2, .int .i64 v1.At.X), (0, 3, .int .i64 v1.At.Y), (0, 4, .sl (v1.Attrs.map au))], [], 1⟩) ?_ ?_)))))))))
  ·clear h_5 h_6
   refine aR (rg 3 rfl (eN Z Z Z Z Z ho8 (fun ho8_1 => ?_) fun ho8_1 => ?_))
   ·clear ho8
    refine rg 4 rfl (eN Z Z Z Z Z ho8_1 (fun ho8_2 => ?_) fun ho8_2 => ?_)
    ·clear ho8_1
     exact rg 3 rfl (rn (si ho8_2 ▸ cN [0]))
    clear ho8_1
    exact rg 2 rfl (rn (si ho8_2 ▸ cN [0]))
   clear ho8
   exact rg 6 rfl (rn (si ho8_1 ▸ cN [0]))
  clear h_5 h_6
  rintro x2 rfl
  refine ch (bw rfl h_7 (fun h_8 => ?_) fun h_8 => ?_)
  ·clear h_7
   refine aS (bx h_8 fun o9 ho10 h_9 => aq (fun x => x = o9) (fun (x3 : Bool) => ⟨[(8, .bool x3)], [], [], 0⟩) ?_ ?_)
   ·clear h_8
    refine aR (rg 2 rfl (dN Z Z Z Z Z ho10 (fun ho10_1 => ?_) fun ho10_1 => ?_))
    ·clear ho10
     exact rg 6 rfl (gy Z Z Z (rV rfl (wH Z Z Z Z Z Z (fun _ => rfl)) (rg 2 rfl (rn (si ho10_1 ▸ cN [])))))
    clear ho10
    exact rg 8 rfl (rn (si ho10_1 ▸ cN []))
   clear h_8
   rintro x3 rfl
   exact ch (aT (si h_9 ▸ rF))
  clear h_7
  exact aK (aS (ag (rg 6 rfl (rn (ct rfl (ag (rv Z Z (rn (aT (si h_8 ▸ rF))))))))))
 clear h_4
 refine rh [] Z Z (eE hx5) Z Z Z zH zO (eA Z Z Z Z ?_)
 refine py (gJ (κ := (bj .i64)) (c := (fun x : aw => .agg (az x))) (fun _ => rfl) (gJ (κ := (bj .i64)) (c := (fun x : Int => .int .i64 x)) (fun _ => rfl) (rfl))) (rg 5 rfl (rn (ag (rv Z Z (bx h_5 fun fine2 hx11 h_6 => bt Z Z Z (np hx11) (rv Z Z (rn (aS (aS (bx h_6 fun o12 ho13 h_7 => aq (fun x => x = o12) (fun (x4 : Bool) => ⟨[(0, .int .i64 shift1), (1, .int .i64 most1), (2, .sl (l1.map bP)), (7, .ptr 0 0), (9, .bool head1), (11, .ptr 1 0), (12, .err 55 t3), (56, .bool x4)], [(0, 0, .int .i64 v1.Pub), (0, 1, .int .u32 v1.Seq), (0, 2, .int .i64 v1.At.X), (0, 3, .int .i64 v1.At.Y), (0, 4, .sl (v1.Attrs.map au)), (1, 0, .int .i64 t2.Shift), (1, 1, .int .i64 t2.Most), (1, 2, .own 2), (1, 3, .own 3)], [(2, bO (bj .i64) (fun x : aw => .agg (az x)) t2.L), (3, bO (bj .i64) (fun x : Int => .int .i64 x) t2.Last)], 4⟩) ?_ ?_))))))))))
 ·clear h_5 h_6
  refine aR (rg 3 rfl (eN Z Z Z Z Z ho13 (fun ho13_1 => ?_) fun ho13_1 => ?_))
  ·clear ho13
   refine rg 4 rfl (eN Z Z Z Z Z ho13_1 (fun ho13_2 => ?_) fun ho13_2 => ?_)
   ·clear ho13_1
    exact rg 3 rfl (rn (si ho13_2 ▸ cN [0,1,2,3]))
   clear ho13_1
   exact rg 2 rfl (rn (si ho13_2 ▸ cN [0,1,2,3]))
  clear ho13
  exact rg 6 rfl (rn (si ho13_1 ▸ cN [0,1,2,3]))
 clear h_5 h_6
 rintro x4 rfl
 refine ch (bw rfl h_7 (fun h_8 => ?_) fun h_8 => ?_)
 ·clear h_7
  refine aS (bx h_8 fun o14 ho15 h_9 => aq (fun x => x = o14) (fun (_ : Unit) => ⟨[(8, .bool false)], [], [], 0⟩) ?_ ?_)
  ·clear h_8
   refine aR (rg 2 rfl (dN Z Z Z Z Z ho15 (fun ho15_1 => ?_) fun ho15_1 => ?_))
   ·clear ho15
    exact rg 9 rfl (rn (si ho15_1 ▸ cN []))
   clear ho15
   exact rg 8 rfl (rn (si ho15_1 ▸ cN []))
  clear h_8
  rintro _ rfl
  exact ch (aT (si h_9 ▸ rF))
 clear h_7
 refine aK (aS (ag (rg 4 rfl (gy Z Z Z (rV rfl (jo Z Z Z) (rv Z Z (rn (bw rfl h_8 (fun h_9 => ?_) fun h_9 => ?_))))))))
 ·clear h_8
  exact ag (rv Z Z (rn (aT (si h_9 ▸ rF))))
 clear h_8
 refine aK (ag (rg 3 rfl (rb Z Z (rv Z Z (rn (aS (ag (rv Z Z (rn (aQ (fun _ _ _ _ _ hi => iX false 12 4 2 rfl hi) (aQ (fun _ _ _ _ _ hi => iX false 1 4 3 rfl hi) (aQ (fun _ _ _ _ _ hi => iX true 1 4 4 rfl hi) (bx h_9 fun e16 hl17 h_10 => aq (fun x => Sum.inl x = e16) (fun (_ : Unit) => ⟨[(9, .bool head1)], [], [], 0⟩) ?_ ?_)))))))))))))
 ·clear h_9
  refine aB (be hl17 (fun (((i1, t4, t5, m1, m2, l2, l3, l4, l5, l6)) : Int × Int × Int × Int × Int × (List (Int × aw)) × (List (Int × Int)) × (List bf) × (List Int) × (List Int)) => ⟨[(2, .sl (l1.map bP)), (7, .ptr 0 0), (9, .bool head1), (11, .ptr 1 0), (14, .ptr 2 0), (15, .int .i64 i1)], [(0, 0, .int .i64 v1.Pub), (0, 1, .int .u32 v1.Seq), (0, 2, .int .i64 v1.At.X), (0, 3, .int .i64 v1.At.Y), (0, 4, .sl (v1.Attrs.map au)), (1, 0, .int .i64 t4), (1, 1, .int .i64 t5), (1, 2, .own 3), (1, 3, .own 4), (2, 0, .int .i64 m1), (2, 1, .int .i64 m2), (2, 2, .own 5), (2, 3, .own 6), (2, 4, .own 7)], [(3, bO (bj .i64) (fun x : aw => .agg (az x)) l2), (4, bO (bj .i64) (fun x : Int => .int .i64 x) l3), (5, .row 12 (l4.map aU)), (6, .row 1 (l5.map (cI .i64))), (7, .wr 1 (l6.map (cI .i64)))], 8⟩) [0,1,4,2,3,5,6,7] rfl zs ?_)
  intro v o20 ho18 hE19
  obtain ⟨i1, t4, t5, m1, m2, l2, l3, l4, l5, l6⟩ := v
  refine ch (aS (ag (rg 3 rfl (rt ((lM bP l1)) (rv Z Z (rn (bw rfl ho18 (fun ho18_1 => ?_) fun ho18_1 => ?_)))))))
  ·clear ho18
   refine aK (aS (bx ho18_1 fun o21 ho22 ho18_2 => aq (fun x => Sum.inl x = o21) (fun (((t8, t9, m5, m6, l12, l13, l14, l15, l16)) : Int × Int × Int × Int × (List (Int × aw)) × (List (Int × Int)) × (List bf) × (List Int) × (List Int)) => ⟨[(2, .sl (l1.map bP)), (7, .ptr 0 0), (9, .bool head1), (11, .ptr 1 0), (14, .ptr 2 0), (15, .int .i64 i1)], [(0, 0, .int .i64 v1.Pub), (0, 1, .int .u32 v1.Seq), (0, 2, .int .i64 v1.At.X), (0, 3, .int .i64 v1.At.Y), (0, 4, .sl (v1.Attrs.map au)), (1, 0, .int .i64 t8), (1, 1, .int .i64 t9), (1, 2, .own 3), (1, 3, .own 4), (2, 0, .int .i64 m5), (2, 1, .int .i64 m6), (2, 2, .own 5), (2, 3, .own 6), (2, 4, .own 7)], [(3, bO (bj .i64) (fun x : aw => .agg (az x)) l12), (4, bO (bj .i64) (fun x : Int => .int .i64 x) l13), (5, .row 12 (l14.map aU)), (6, .row 1 (l15.map (cI .i64))), (7, .wr 1 (l16.map (cI .i64)))], 8⟩) ?_ ?_))
   ·clear ho18_1
    refine aB (ag (rg 2 rfl (bx ho22 fun x5 hx23 ho22_1 => ri Z Z Z Z Z Z (iF hx23) (kG bP hx23) (wM (fun _ => by rfl) _) ?_)))
    refine rv Z Z (ra Z Z Z (rs Z Z Z Z Z Z Z (rn (ag (rg 2 rfl (bx ho22_1 fun few1 hx24 ho22_2 => bt Z Z Z (wi hx24) (rv Z Z (rn (aS (aS (bx ho22_2 fun o25 ho26 ho22_3 => aq (fun x => x = o25) (fun (x6 : Bool) => ⟨[(2, .sl (l1.map bP)), (7, .ptr 0 0), (9, .bool head1), (11, .ptr 1 0), (14, .ptr 2 0), (15, .int .i64 i1), (16, .ptr 3 0), (97, .bool x6)], [(0, 0, .int .i64 v1.Pub), (0, 1, .int .u32 v1.Seq), (0, 2, .int .i64 v1.At.X), (0, 3, .int .i64 v1.At.Y), (0, 4, .sl (v1.Attrs.map au)), (1, 0, .int .i64 t4), (1, 1, .int .i64 t5), (1, 2, .own 4), (1, 3, .own 5), (2, 0, .int .i64 m1), (2, 1, .int .i64 m2), (2, 2, .own 6), (2, 3, .own 7), (2, 4, .own 8), (3, 0, .int .i64 x5.What), (3, 1, .int .i64 x5.Id), (3, 2, .int .i64 x5.G.Rect.X1), (3, 3, .int .i64 x5.G.Rect.Y1), (3, 4, .int .i64 x5.G.Rect.X2), (3, 5, .int .i64 x5.G.Rect.Y2), (3, 6, .sl (x5.G.Poly.map aH)), (3, 7, .str (sB x5.F)), (3, 8, .int .i64 x5.D.X), (3, 9, .int .i64 x5.D.Y)], [(4, bO (bj .i64) (fun x : aw => .agg (az x)) l2), (5, bO (bj .i64) (fun x : Int => .int .i64 x) l3), (6, .row 12 (l4.map aU)), (7, .row 1 (l5.map (cI .i64))), (8, .wr 1 (l6.map (cI .i64)))], 9⟩) ?_ ?_)))))))))))
    ·clear ho22 ho22_1 ho22_2
     refine aR (rg 3 rfl (eN Z Z Z Z Z ho26 (fun ho26_1 => ?_) fun ho26_1 => ?_))
     ·clear ho26
      exact rg 5 rfl (rn (si ho26_1 ▸ cN [0,1,2,8,3,4,5,6,7]))
     clear ho26
     exact rg 4 rfl (rn (si ho26_1 ▸ cN [0,1,2,8,3,4,5,6,7]))
    clear ho22 ho22_1 ho22_2
    rintro x6 rfl
    refine ch (bw rfl ho22_3 (fun ho22_4 => ?_) fun ho22_4 => ?_)
    ·clear ho22_3
     refine ag (rg 2 rfl (rn (aT ?_)))
     cases ho22_4
     have ho18_3 := n8 ho18_2
     subst ho18_3
     have hq := hE19 _ rfl
     subst hq
     have h_11 := n8 h_10
     subst h_11
     exact rF
    clear ho22_3
    refine aK (ag (rv Z Z (rn (ag (rv Z Z (rn (ag (ra Z Z Z (rn (ag (ra Z Z Z (rn (aS (ag (rg 2 rfl (bx ho22_4 fun x7 hx27 ho22_5 => bt Z Z Z (uj hx27) (rn (bx ho22_5 fun o28 ho29 ho22_6 => aq (fun x => Sum.inl x = o28) (fun (((code1, f1, t10, t11, m7, m8, a1, a2, a3, a4, a5, a6, a7, a8, a9, a10, a11, a12, b1, b2, b3, b4, b5, b6, b7, b8, b9, b10, b11, b12, l17, l18, l19, l20, l21)) : Int × Er × Int × Int × Int × Int × Int × Int × Int × Int × Int × Int × (List aZ) × aY × Int × Int × Int × Int × Int × Int × Int × Int × Int × Int × (List aZ) × aY × Int × Int × Int × Int × (List (Int × aw)) × (List (Int × Int)) × (List bf) × (List Int) × (List Int)) => ⟨[(2, .sl (l1.map bP)), (7, .ptr 0 0), (9, .bool head1), (11, .ptr 1 0), (14, .ptr 2 0), (15, .int .i64 i1), (16, .ptr 3 0), (18, .int .i64 code1), (19, .err 55 f1), (20, .ptr 4 0), (21, .ptr 5 0)], [(0, 0, .int .i64 v1.Pub), (0, 1, .int .u32 v1.Seq), (0, 2, .int .i64 v1.At.X), (0, 3, .int .i64 v1.At.Y), (0, 4, .sl (v1.Attrs.map au)), (1, 0, .int .i64 t10), (1, 1, .int .i64 t11), (1, 2, .own 6), (1, 3, .own 7), (2, 0, .int .i64 m7), (2, 1, .int .i64 m8), (2, 2, .own 8), (2, 3, .own 9), (2, 4, .own 10), (3, 0, .int .i64 x5.What), (3, 1, .int .i64 x5.Id), (3, 2, .int .i64 x5.G.Rect.X1), (3, 3, .int .i64 x5.G.Rect.Y1), (3, 4, .int .i64 x5.G.Rect.X2), (3, 5, .int .i64 x5.G.Rect.Y2), (3, 6, .sl (x5.G.Poly.map aH)), (3, 7, .str (sB x5.F)), (3, 8, .int .i64 x5.D.X), (3, 9, .int .i64 x5.D.Y), (4, 0, .int .i64 a1), (4, 1, .int .i64 a2), (4, 2, .int .i64 a3), (4, 3, .int .i64 a4), (4, 4, .int .i64 a5), (4, 5, .int .i64 a6), (4, 6, .sl (a7.map aH)), (4, 7, .str (sB a8)), (4, 8, .int .i64 a9), (4, 9, .int .i64 a10), (4, 10, .int .i64 a11), (4, 11, .int .i64 a12), (5, 0, .int .i64 b1), (5, 1, .int .i64 b2), (5, 2, .int .i64 b3), (5, 3, .int .i64 b4), (5, 4, .int .i64 b5), (5, 5, .int .i64 b6), (5, 6, .sl (b7.map aH)), (5, 7, .str (sB b8)), (5, 8, .int .i64 b9), (5, 9, .int .i64 b10), (5, 10, .int .i64 b11), (5, 11, .int .i64 b12)], [(6, bO (bj .i64) (fun x : aw => .agg (az x)) l17), (7, bO (bj .i64) (fun x : Int => .int .i64 x) l18), (8, .row 12 (l19.map aU)), (9, .row 1 (l20.map (cI .i64))), (10, .wr 1 (l21.map (cI .i64)))], 11⟩) ?_ ?_))))))))))))))))))
    ·clear ho22_4 ho22_5
     refine aB (aS (ag (rg 2 rfl (rn (bx ho29 fun o30 ho31 ho29_1 => aq (fun x => x = o30) (fun (x8 : Bool) => ⟨[(2, .sl (l1.map bP)), (7, .ptr 0 0), (9, .bool head1), (11, .ptr 1 0), (14, .ptr 2 0), (15, .int .i64 i1), (16, .ptr 3 0), (20, .ptr 4 0), (21, .ptr 5 0), (101, .int .i64 x7), (116, .bool x8)], [(0, 0, .int .i64 v1.Pub), (0, 1, .int .u32 v1.Seq), (0, 2, .int .i64 v1.At.X), (0, 3, .int .i64 v1.At.Y), (0, 4, .sl (v1.Attrs.map au)), (1, 0, .int .i64 t4), (1, 1, .int .i64 t5), (1, 2, .own 6), (1, 3, .own 7), (2, 0, .int .i64 m1), (2, 1, .int .i64 m2), (2, 2, .own 8), (2, 3, .own 9), (2, 4, .own 10), (3, 0, .int .i64 x5.What), (3, 1, .int .i64 x5.Id), (3, 2, .int .i64 x5.G.Rect.X1), (3, 3, .int .i64 x5.G.Rect.Y1), (3, 4, .int .i64 x5.G.Rect.X2), (3, 5, .int .i64 x5.G.Rect.Y2), (3, 6, .sl (x5.G.Poly.map aH)), (3, 7, .str (sB x5.F)), (3, 8, .int .i64 x5.D.X), (3, 9, .int .i64 x5.D.Y), (4, 0, .int .i64 0), (4, 1, .int .i64 0), (4, 2, .int .i64 0), (4, 3, .int .i64 0), (4, 4, .int .i64 0), (4, 5, .int .i64 0), (4, 6, .nilS), (4, 7, .str (sB [])), (4, 8, .int .i64 0), (4, 9, .int .i64 0), (4, 10, .int .i64 0), (4, 11, .int .i64 0), (5, 0, .int .i64 0), (5, 1, .int .i64 0), (5, 2, .int .i64 0), (5, 3, .int .i64 0), (5, 4, .int .i64 0), (5, 5, .int .i64 0), (5, 6, .nilS), (5, 7, .str (sB [])), (5, 8, .int .i64 0), (5, 9, .int .i64 0), (5, 10, .int .i64 0), (5, 11, .int .i64 0)], [(6, bO (bj .i64) (fun x : aw => .agg (az x)) l2), (7, bO (bj .i64) (fun x : Int => .int .i64 x) l3), (8, .row 12 (l4.map aU)), (9, .row 1 (l5.map (cI .i64))), (10, .wr 1 (l6.map (cI .i64)))], 11⟩) ?_ ?_)))))
     ·clear ho29
      refine bw rfl ho31 (fun ho31_1 => ?_) fun ho31_1 => ?_
      ·clear ho31
       exact aK (si ho31_1 ▸ cN [0,1,2,3,9,10,4,5,6,7,8])
      clear ho31
      exact aR (rg 2 rfl (rn (si ho31_1 ▸ cN [0,1,2,3,9,10,4,5,6,7,8])))
     clear ho29
     rintro x8 rfl
     refine ch (bw rfl ho29_1 (fun ho29_2 => ?_) fun ho29_2 => ?_)
     ·clear ho29_1
      refine ag (rg 7 rfl (bx ho29_2 fun f2 hx32 ho29_3 => rh [1,6,7] Z Z (gU hx32) Z Z Z zH zO (eA Z Z Z Z ?_)))
      refine py (gJ (κ := (bj .i64)) (c := (fun x : aw => .agg (az x))) (fun _ => rfl) (gJ (κ := (bj .i64)) (c := (fun x : Int => .int .i64 x)) (fun _ => rfl) (rfl))) (rg 3 rfl (rs Z Z Z Z Z Z Z (rv Z Z (rn (aR (rg 7 rfl (bx ho29_3 fun code2 hx33 ho29_4 => rh [2,8,9,10] Z Z (oU hx33) Z Z Z zH zO (eA Z Z Z Z ?_))))))))
      exact py (sO (sO (wO (fun _ => rfl) (rfl)))) (rg 3 rfl (rs Z Z Z Z Z Z Z (rv Z Z (rn (ah (si ho29_4 ▸ cN [0,1,2,3,4,5,11,12,13,14,15]))))))
     clear ho29_1
     refine ag (rg 2 rfl (rn (bw rfl ho29_2 (fun ho29_3 => ?_) fun ho29_3 => ?_)))
     ·clear ho29_2
      refine ag (rv Z Z (rn (ag (rv Z Z (rn (ag (rg 5 rfl (bx ho29_3 fun safe1 hx34 ho29_4 => rh [1,6,7] Z Z (gB hx34) Z Z Z zH zO (eA Z Z Z Z ?_)))))))))
      refine py (gJ (κ := (bj .i64)) (c := (fun x : aw => .agg (az x))) (fun _ => rfl) (gJ (κ := (bj .i64)) (c := (fun x : Int => .int .i64 x)) (fun _ => rfl) (rfl))) (rg 4 rfl (rs Z Z Z Z Z Z Z (rg 2 rfl (rn (ag (rg 5 rfl (bx ho29_4 fun was1 hx35 ho29_5 => rh [2,8,9,10] Z Z (nZ hx35) Z Z Z zH zO (eA Z Z Z Z ?_))))))))
      refine py (sO (sO (wO (fun _ => rfl) (rfl)))) (rg 4 rfl (rs Z Z Z Z Z Z Z (rg 2 rfl (rn (ag (rg 3 rfl (rn (bw rfl ho29_5 (fun ho29_6 => ?_) fun ho29_6 => ?_))))))))
      ·clear ho29_3 ho29_4 ho29_5
       refine ag (rv Z Z (rn (aT ?_)))
       cases ho29_6
       have ho22_7 := n8 ho22_6
       subst ho22_7
       have ho18_3 := n8 ho18_2
       subst ho18_3
       have hq := hE19 _ rfl
       subst hq
       have h_11 := n8 h_10
       subst h_11
       exact rF
      clear ho29_3 ho29_4 ho29_5
      exact aK (ah (si ho29_6 ▸ cN [0,1,2,3,4,5,11,12,13,14,15]))
     clear ho29_2
     refine ag (rg 3 rfl (bx ho29_3 fun f3 hx36 ho29_4 => rh [1,6,7] Z Z (nV hx36) Z Z Z zH zO (eA Z Z Z Z ?_)))
     refine py (gJ (κ := (bj .i64)) (c := (fun x : aw => .agg (az x))) (fun _ => rfl) (gJ (κ := (bj .i64)) (c := (fun x : Int => .int .i64 x)) (fun _ => rfl) (rfl))) (rg 3 rfl (rs Z Z Z Z Z Z Z (rv Z Z (rn (aR (rg 3 rfl (bx ho29_4 fun code3 hx37 ho29_5 => rh [2,8,9,10] Z Z (nR hx37) Z Z Z zH zO (eA Z Z Z Z ?_))))))))
     exact py (sO (sO (wO (fun _ => rfl) (rfl)))) (rg 3 rfl (rs Z Z Z Z Z Z Z (rv Z Z (rn (ah (si ho29_5 ▸ cN [0,1,2,3,4,5,11,12,13,14,15]))))))
    clear ho22_4 ho22_5
    rintro ⟨code1, f1, t10, t11, m7, m8, a1, a2, a3, a4, a5, a6, a7, a8, a9, a10, a11, a12, b1, b2, b3, b4, b5, b6, b7, b8, b9, b10, b11, b12, l17, l18, l19, l20, l21⟩ rfl
    have ho22_7 := ry ho22_6
    refine ch (aS (aS (bx ho22_7 fun o38 ho39 ho22_8 => aq (fun x => x = o38) (fun (((x9, t12, t13, m9, m10, l22, l23, l24, l25, l26)) : Bool × Int × Int × Int × Int × (List (Int × aw)) × (List (Int × Int)) × (List bf) × (List Int) × (List Int)) => ⟨[(2, .sl (l1.map bP)), (7, .ptr 0 0), (9, .bool head1), (11, .ptr 1 0), (14, .ptr 2 0), (15, .int .i64 i1), (16, .ptr 3 0), (198, .bool x9)], [(0, 0, .int .i64 v1.Pub), (0, 1, .int .u32 v1.Seq), (0, 2, .int .i64 v1.At.X), (0, 3, .int .i64 v1.At.Y), (0, 4, .sl (v1.Attrs.map au)), (1, 0, .int .i64 t12), (1, 1, .int .i64 t13), (1, 2, .own 4), (1, 3, .own 5), (2, 0, .int .i64 m9), (2, 1, .int .i64 m10), (2, 2, .own 6), (2, 3, .own 7), (2, 4, .own 8), (3, 0, .int .i64 x5.What), (3, 1, .int .i64 x5.Id), (3, 2, .int .i64 x5.G.Rect.X1), (3, 3, .int .i64 x5.G.Rect.Y1), (3, 4, .int .i64 x5.G.Rect.X2), (3, 5, .int .i64 x5.G.Rect.Y2), (3, 6, .sl (x5.G.Poly.map aH)), (3, 7, .str (sB x5.F)), (3, 8, .int .i64 x5.D.X), (3, 9, .int .i64 x5.D.Y)], [(4, bO (bj .i64) (fun x : aw => .agg (az x)) l22), (5, bO (bj .i64) (fun x : Int => .int .i64 x) l23), (6, .row 12 (l24.map aU)), (7, .row 1 (l25.map (cI .i64))), (8, .wr 1 (l26.map (cI .i64)))], 9⟩) ?_ ?_)))
    ·clear ho22_6 ho22_7
     refine Eu 33 [[12,17,20,25],[16,17,20,30],[17,20,30]] Tryz.mix (xv [] Z Z (fun _ => rfl) (bx ho39 fun x12 hx42 ho39_1 => xc [] Z Z Z (fun _ => rfl) (fun _ => (ut hx42)) (xv [] Z Z (fun _ => rfl) (xv [] Z Z (fun _ => rfl) (xv [] Z Z (fun _ => rfl) (Jw Z Z (fun hg => ?_) (fun hg => ?_)))))))
     ·have ho39_2 := cT hg ho39_1
      clear ho39 ho39_1
      exact jq Z Z (jq Z Z (jq Z Z (jq Z Z (xv [] Z Z (fun _ => rfl) (xv [] Z Z (fun _ => rfl) (jq Z Z (jq Z Z (jq Z Z (jq Z Z (jq Z Z (jq Z Z (jq Z Z (jq Z Z (xv [] Z Z (fun _ => rfl) (xv [] Z Z (fun _ => rfl) (jq Z Z (jq Z Z (jq Z Z (jq Z Z (jq Z Z (jq Z Z (jq Z Z (jq Z Z (jq Z Z (jq Z Z (jq Z Z (xv [] Z Z (fun _ => rfl) (xn (by kernel_rfl) (rn (si ho39_2 ▸ cN [0,1,2,3,6,7,8,9,10]))))))))))))))))))))))))))))))
     have ho39_2 := cF hg ho39_1
     clear ho39 ho39_1
     refine xv [4] Z Z (fun _ => rfl) (xv [5] Z Z (fun _ => rfl) (bx ho39_2 fun x13 hx43 ho39_3 => xc [] Z Z Z (fun _ => rfl) (fun _ => (mr hx43)) (xv [] Z Z (fun _ => rfl) (xv [] Z Z (fun _ => rfl) (xv [] Z Z (fun _ => rfl) (Jw Z Z (fun hg => ?_) (fun hg => ?_)))))))
     ·have ho39_4 := cT hg ho39_3
      clear ho39_2 ho39_3
      exact jq Z Z (jq Z Z (jq Z Z (jq Z Z (jq Z Z (jq Z Z (jq Z Z (jq Z Z (xv [] Z Z (fun _ => rfl) (xv [] Z Z (fun _ => rfl) (jq Z Z (jq Z Z (jq Z Z (jq Z Z (jq Z Z (jq Z Z (jq Z Z (jq Z Z (jq Z Z (jq Z Z (jq Z Z (xv [] Z Z (fun _ => rfl) (xn (by kernel_rfl) (rn (si ho39_4 ▸ cN [0,1,2,3,6,7,8,9,10]))))))))))))))))))))))))
     have ho39_4 := cF hg ho39_3
     clear ho39_2 ho39_3
     refine xv [] Z Z (fun _ => rfl) (bx ho39_4 fun x14 hx44 ho39_5 => ?_)
     refine xW [1, 6, 7] (.sl (x14.1.map aU)) 13 _ _ Z Z (by
        refine rh [1, 6, 7] Z Z (oa hx44) Z Z Z (zC Z Z Z Z (zC Z Z Z Z (zC Z Z Z Z (zC Z Z Z Z (trivial))))) (zE rfl (yL (fun _ => rfl)) rfl (zE rfl (yL (fun _ => rfl)) rfl (trivial))) ?_
        refine ek ?_
        refine HK rfl ?_
        refine ae Z Z Z ?_
        refine py (gJ (κ := (bj .i64)) (c := (fun x : aw => .agg (az x))) (fun _ => rfl) (gJ (κ := (bj .i64)) (c := (fun x : Int => .int .i64 x)) (fun _ => rfl) (rfl))) ?_
        exact rn ⟨rfl, rfl⟩) (by rfl) (by rfl) (by repeat (first | exact I3 | refine IZ (by first | exact trivial | exact AY (Fz (fun _ => rfl) _) | exact wB (κ := (bj .i64)) (c := (fun x : Int => .int .i64 x)) (fun _ => rfl) | exact wB (κ := (bj .i64)) (c := (fun x : aw => .agg (az x))) (fun _ => rfl)) ?_)) (by rfl) (by rfl) ?_
     refine xv [] Z Z (fun _ => rfl) (xv [] Z Z (fun _ => rfl) (xv [] Z Z (fun _ => rfl) (xv [2] Z Z (fun _ => rfl) (bx ho39_5 fun x15 hx45 ho39_6 => xc [8] Z Z Z (fun _ => rfl) (fun _ => (uM hx45)) (xv [] Z Z (fun _ => rfl) (xv [] Z Z (fun _ => rfl) (xv [] Z Z (fun _ => rfl) (Jw Z Z (fun hg => ?_) (fun hg => ?_)))))))))
     ·have ho39_7 := cT hg ho39_6
      clear ho39_4 ho39_5 ho39_6
      exact jq Z Z (jq Z Z (jq Z Z (jq Z Z (jq Z Z (jq Z Z (jq Z Z (jq Z Z (jq Z Z (jq Z Z (jq Z Z (xv [] Z Z (fun _ => rfl) (xn (by kernel_rfl) (rn (si ho39_7 ▸ cN [0,1,2,3,11,12,8,9,10]))))))))))))))
     have ho39_7 := cF hg ho39_6
     clear ho39_4 ho39_5 ho39_6
     refine xv [] Z Z (fun _ => rfl) (xv [] Z Z (fun _ => rfl) (xv [3] Z Z (fun _ => rfl) (xv [0] Z Z (fun _ => rfl) (bx ho39_7 fun x16 hx46 ho39_8 => ?_))))
     refine xW [1, 11, 12] (.bool x16.1) 15 _ _ Z Z (by
        refine rh [1, 11, 12] Z Z (fR hx46) Z Z Z (zC Z Z Z Z (zC Z Z Z Z (zC Z Z Z Z (zC Z Z Z Z (trivial))))) (zE rfl (yL (fun _ => rfl)) rfl (zE rfl (yL (fun _ => rfl)) rfl (trivial))) ?_
        refine ek ?_
        refine HK rfl ?_
        refine ae Z Z Z ?_
        refine py (gJ (κ := (bj .i64)) (c := (fun x : aw => .agg (az x))) (fun _ => rfl) (gJ (κ := (bj .i64)) (c := (fun x : Int => .int .i64 x)) (fun _ => rfl) (rfl))) ?_
        exact rn ⟨rfl, rfl⟩) (by rfl) (by rfl) (by repeat (first | exact I3 | refine IZ (by first | exact trivial | exact AY (Fz (fun _ => rfl) _) | exact wB (κ := (bj .i64)) (c := (fun x : Int => .int .i64 x)) (fun _ => rfl) | exact wB (κ := (bj .i64)) (c := (fun x : aw => .agg (az x))) (fun _ => rfl)) ?_)) (by rfl) (by rfl) ?_
     refine xv [] Z Z (fun _ => rfl) (xv [] Z Z (fun _ => rfl) (xv [3] Z Z (fun _ => rfl) (xv [0] Z Z (fun _ => rfl) (bx ho39_8 fun x17 hx47 ho39_9 => ?_))))
     refine xW [2, 8, 9, 10] (.bool x17.1) 18 _ _ Z Z (by
        refine rh [2, 8, 9, 10] Z Z (mZ hx47) Z Z Z (zC Z Z Z Z (zC Z Z Z Z (zC Z Z Z Z (zC Z Z Z Z (zC Z Z Z Z (trivial)))))) (zE rfl .row rfl (zE rfl .row rfl (zE rfl (.wr (Fz (fun _ => rfl) _)) rfl (trivial)))) ?_
        refine ek ?_
        refine HK rfl ?_
        refine ae Z Z Z ?_
        refine py (sO (sO (wO (fun _ => rfl) (rfl)))) ?_
        exact rn ⟨rfl, rfl⟩) (by rfl) (by rfl) (by repeat (first | exact I3 | refine IZ (by first | exact trivial | exact AY (Fz (fun _ => rfl) _)) ?_)) (by rfl) (by rfl) ?_
     exact xv [] Z Z (fun _ => rfl) (xv [] Z Z (fun _ => rfl) (xn (by kernel_rfl) (rn (si ho39_9 ▸ cN [0,1,2,3,13,14,15,16,17]))))
    clear ho22_6 ho22_7
    rintro ⟨x9, t12, t13, m9, m10, l22, l23, l24, l25, l26⟩ rfl
    refine ch (bw rfl ho22_8 (fun ho22_9 => ?_) fun ho22_9 => ?_)
    ·clear ho22_8
     refine ag (rv Z Z (rn (aT ?_)))
     cases ho22_9
     have ho18_3 := n8 ho18_2
     subst ho18_3
     have hq := hE19 _ rfl
     subst hq
     have h_11 := n8 h_10
     subst h_11
     exact rF
    clear ho22_8
    refine aK (ag (rg 3 rfl (bx ho22_9 fun is1 hx48 ho22_10 => rh [1,4,5] Z Z (oR hx48) Z Z Z zH zO (eA Z Z Z Z ?_))))
    refine py (gJ (κ := (bj .i64)) (c := (fun x : aw => .agg (az x))) (fun _ => rfl) (gJ (κ := (bj .i64)) (c := (fun x : Int => .int .i64 x)) (fun _ => rfl) (rfl))) (rg 3 rfl (ra Z Z Z (rs Z Z Z Z Z Z Z (rv Z Z (rn (ag (rg 3 rfl (bx ho22_10 fun at1 hx49 ho22_11 => rh [2,6,7,8] Z Z (dS hx49) Z Z Z zH zO (eA Z Z Z Z ?_)))))))))
    refine py (sO (sO (wO (fun _ => rfl) (rfl)))) (rv Z Z (rn (aS (ag (rg 4 rfl (rn (bw rfl ho22_11 (fun ho22_12 => ?_) fun ho22_12 => ?_)))))))
    ·clear ho22_9 ho22_10 ho22_11
     refine ag (rv Z Z (rn (aT ?_)))
     cases ho22_12
     have ho18_3 := n8 ho18_2
     subst ho18_3
     have hq := hE19 _ rfl
     subst hq
     have h_11 := n8 h_10
     subst h_11
     exact rF
    clear ho22_9 ho22_10 ho22_11
    refine aK (ag (rv Z Z (rn (bw rfl ho22_12 (fun ho22_13 => ?_) fun ho22_13 => ?_))))
    ·clear ho22_12
     refine aS (mw 10 Tryz.mix (dv Z Z (fun _ => rfl) (dv Z Z (fun _ => rfl) (dv Z Z (fun _ => rfl) (dv Z Z (fun _ => rfl) (dv Z Z (fun _ => rfl) (dv Z Z (fun _ => rfl) (bx ho22_13 fun x18 hx50 ho22_14 => di Z Z Z Z Z (fun _ => rfl) rfl (iF hx50) (kG aU hx50) (wM (fun _ => by rfl) _) ?_))))))))
     refine dv Z Z (fun _ => rfl) (bx ho22_14 fun x19 hx51 ho22_15 => dc Z Z Z Z (fun _ => rfl) (fun _ => (mr hx51)) (dv Z Z (fun _ => rfl) (dn (rn (bw rfl ho22_15 (fun ho22_16 => ?_) fun ho22_16 => ?_)))))
     ·clear ho22_13 ho22_14 ho22_15
      refine ag (rv Z Z (rn (aT ?_)))
      cases ho22_16
      have ho18_3 := n8 ho18_2
      subst ho18_3
      have hq := hE19 _ rfl
      subst hq
      have h_11 := n8 h_10
      subst h_11
      exact rF
     clear ho22_13 ho22_14 ho22_15
     exact aK (ah (si ho22_16 ▸ cN [0,1,2,9,10,12,13,14]))
    clear ho22_12
    exact aK (ah (si ho22_13 ▸ cN [0,1,2,9,10,12,13,14]))
   clear ho18_1
   rintro ⟨t8, t9, m5, m6, l12, l13, l14, l15, l16⟩ rfl
   have ho18_3 := ry ho18_2
   exact ch (aR (rg 3 rfl (rn (si ho18_3 ▸ lN [0,1,2,3,4,5,6,7]))))
  clear ho18
  refine aW (xX ?_)
  cases ho18_1
  have hq := hE19 _ rfl
  subst hq
  exact cN []
 clear h_9
 rintro _ rfl
 have h_11 := ry h_10
 exact ag (rg 2 rfl (rn (aT (si h_11 ▸ rF))))
end
end Go.Proofs.YtbkomicjhfldmaaGreatDoor
namespace Go.Proofs.YtbkomicjhfldmaaGreatDoor
open Go.Pv
set_option maxRecDepth 100000
set_option maxHeartbeats 4000000
set_option linter.unusedSimpArgs false
set_option linter.unusedVariables false
theorem HX : Ev (fun n => nC n = some true) := ⟨400, fun n h => by
 obtain ⟨m, rfl⟩ := Nat.exists_eq_add_of_le' h
 kernel_rfl⟩
theorem BR {ε τ β : Type} {body : ε → Option (ε ⊕ τ)} {f : τ → Option β} {n : Nat} {s : ε} {r : β} (I : ε → Prop) (μ : ε → Nat) (J : τ → Prop) (hs : I s) (hn : μ s < n)
  (h : ∀ s, I s → ∃ o, body s = some o ∧ (∀ s', o = .inl s' → I s' ∧ μ s' < μ s) ∧ ∀ e, o = .inr e → J e) (k : ∀ e, J e → f e = some r) : (bm body n s).bind f = some r := by
 obtain ⟨e, he, hJ⟩ := qi I μ J h n s hs hn
 rw [he]; exact k e hJ
theorem A6 {α β : Type} {x : Option α} {f : α → Option β} {R : β → Prop} (I : α → Prop) (h : ∃ y, x = some y ∧ I y) (k : ∀ y, I y → ∃ o, f y = some o ∧ R o) : ∃ o, x.bind f = some o ∧ R o := by
 obtain ⟨y, rfl, hy⟩ := h
 exact k y hy
theorem He (n : Nat) (c : Int) : ∃ r, jm n c 4 = some r := by
 unfold jm
 cases decide (c < 0) <;> exact ⟨_, rfl⟩
theorem HD {n : Nat} {e : Er} (h : cR e) (hn : 100 ≤ n) : kE n e = some (EO e) := by
 obtain ⟨m, rfl⟩ : ∃ m, n = m + 13 := ⟨n - 13, by omega⟩
 rcases h with rfl | ⟨c, rfl, h1, h2⟩
 · rfl
 ·
  have : c = 1 ∨ c = 2 ∨ c = 3 ∨ c = 4 ∨ c = 5 ∨ c = 6 ∨ c = 7 ∨ c = 8 ∨ c = 9 ∨ c = 10 ∨ c = 11 := by omega
  rcases this with rfl | rfl | rfl | rfl | rfl | rfl | rfl | rfl | rfl | rfl | rfl <;> rfl
theorem Gm {a : aC} {b : aD} {k n : Nat} {v : eI} (h : TR (PW n v) a b k) (hk : k ≤ 500) (hn : 2000 ≤ n) (id : Int) :
  c7 n a = some (b.L, a) ∧ hX n b.L b.L = some true ∧ (∃ r, cm n a id v = some (r, a) ∧ dp n b id v = some (r, b)) ∧
  ∃ (s : bf) (is : Bool) (at1 : Int), eY n a id = some (s, is, a) ∧ bS n b id = some (at1, b) ∧ is = decide (at1 ≥ 0) ∧ (is = true → gi b.L at1 = some s ∧ fW n s s = some true) := by
 have hbl := h.bl
 have hp : ∀ s ∈ b.L, s.Region.Poly.length ≤ 1000 := fun s hs => by have := (h.ok s hs).2.2.2.1; omega
 refine ⟨h.subs (by omega) (by omega), B4 _ hp (by omega) (by omega), h.wants hk hn id, ?_⟩
 unfold eY
 rw [ug b id (by omega) (by omega)]
 simp only [yb, Kd]
 rcases h.found id with ⟨i, hi, hid, hix, hmg⟩ | ⟨hix, hmg, hno⟩
 ·
  refine ⟨b.L[i], true, (i : Int), ?_, by rw [hix], by simp, fun _ => ⟨bR hi, ud _ (hp _ (List.getElem_mem hi)) (by omega)⟩⟩
  simp only [hmg, Option.getD_some, Option.isSome_some]
  rw [kg n b.L[i] (hp _ (List.getElem_mem hi))]; rfl
 ·
  refine ⟨gG, false, -1, ?_, by rw [hix], by decide, fun h => by cases h⟩
  simp only [hmg, Option.getD_none, Option.isSome_none]
  rw [kg n _ (by simp)]; rfl
theorem FE (n : Nat) (s : Int) : gm n s = some (cD s) := by
 unfold gm cD
 cases decide (s ≥ 24) <;> rfl
theorem TR.start {n : Nat} {v : eI} {s m : Int} (h : cD s = true) : TR (PW n v) ⟨s, m, [], []⟩ ⟨s, m, [], [], []⟩ 0 :=
 { sh := rfl, mo := rfl, may := h, last := rfl, nd := List.nodup_nil, ll := rfl, il := Nat.le_refl _, bl := Nat.le_refl _, perm := List.Perm.refl _, keys := fun p hp => (by cases hp), sorted := List.Pairwise.nil, ok := fun s hs => (by cases hs), lo := fun p hp => (by cases hp), fl := fun s hs => (by cases hs) }
abbrev JP := Int × Int × Int × Int × Int × (List (Int × aw)) × (List (Int × Int)) × (List bf) × (List Int) × (List Int)
def IM (k : Nat) (a : aC) (b : aD) : JP := ((k : Int), a.Shift, a.Most, b.Shift, b.Most, a.L, a.Last, b.L, b.Ids, b.Last)
theorem D3 {t : aC} {id : Int} {g : aF} {f : aY} (h : g.Poly.length ≤ 1000) : (Cs t id g f).1.Region.Poly.length ≤ 1000 := by
 unfold Cs
 cases decide (id < 0) || (decide (id > 2147483647) || !iB g) with
 | true => simp [gG]
 | false =>
  simp only [cond_false]
  rcases dR f with ⟨x, e⟩
  cases e with
  | some c => simp [gG]
  | none =>
   simp only
   cases (mg t.L id).isSome with
   | true => simp [gG]
   | false =>
    simp only [cond_false]
    cases decide ((t.L.length : Int) ≥ t.Most) || decide ((mg t.Last id).getD 0 > 2147483645) with
    | true => simp [gG]
    | false =>
     simp only [cond_false]
     cases cD t.Shift with
     | true => exact h
     | false => simp [gG]
theorem BT {t : aC} {id : Int} {d : aZ} (h : ∀ s, mg t.L id = some s → s.Sub.Region.Poly.length ≤ 1000) : (yR t id d).1.Region.Poly.length ≤ 1000 := by
 unfold yR
 cases h0 : mg t.L id with
 | none => simp [gG]
 | some s =>
  simp only
  have h3 := Ao (d := d) (h s h0)
  revert h3
  rcases A7 s.Sub.Region d with ⟨g', e⟩
  intro h3
  cases e with
  | some c => simp [gG]
  | none =>
   simp only
   cases yu s.Sub.Region s.Sub.Cover d with
   | true => exact h3
   | false =>
    simp only [cond_false]
    cases decide (s.Sub.Version > 2147483645) with
    | true => simp [gG]
    | false =>
     simp only [cond_false]
     cases iB g' && cD t.Shift with
     | true => exact h3
     | false => simp [gG]
theorem BS {t : aC} {id : Int} (h : ∀ s, mg t.L id = some s → s.Sub.Region.Poly.length ≤ 1000) : (xp t id).1.Region.Poly.length ≤ 1000 := by
 unfold xp
 cases h0 : mg t.L id with
 | none => simp [gG]
 | some s => exact h s h0
theorem TR.len {P : aY → Prop} {a : aC} {b : aD} {k : Nat} (h : TR P a b k) (id : Int) : ∀ s, mg a.L id = some s → s.Sub.Region.Poly.length ≤ 1000 := fun s hs => by
 rcases h.found id with ⟨i, hi, hid, hix, hmg⟩ | ⟨hix, hmg, hno⟩
 ·
  rw [hmg] at hs
  obtain rfl := Ke hs
  have := (h.ok _ (List.getElem_mem hi)).2.2.2.1
  show b.L[i].Region.Poly.length ≤ 1000
  omega
 · rw [hmg] at hs; cases hs
theorem wa (shift most : Int) (l : List gY) (v : eI) (hv : v.Attrs.length ≤ maxLen) : Ev fun n => fJ n shift most l v = some true := by
 refine (((HX.and (Ev.all (l := l) (p := fun x n => PW n v x.F) fun x _ => If v hv x.F)).and (Ev.ge 2000 (p := fun n => 2000 ≤ n) fun n hn => hn)).and (Ev.ge (v.Attrs.length + 1) (p := fun n => v.Attrs.length < n) fun n hn => hn)).mono fun n hh => ?_
 obtain ⟨⟨⟨hu, hpw⟩, hn⟩, hva⟩ := hh
 unfold fJ
 obtain ⟨ab, hab⟩ := ER v.Attrs hv hva
 rw [hu, Kd, hab, Kd]
 cases ab with
 | false => rfl
 | true =>
  simp only [Bool.not_true, cond_false, Kd]
  by_cases hl : (l.length : Int) > 80
  · rw [decide_eq_true hl]; rfl
  ·
   rw [decide_eq_false hl]
   simp only [cond_false, Ig, Kd, FE]
   unfold Gh
   cases hs : cD shift with
   | false => rfl
   | true =>
    by_cases h3 : most < 1
    · rw [decide_eq_true h3, decide_eq_false (show ¬ 1 ≤ most by omega)]; rfl
    ·
     rw [decide_eq_false h3, decide_eq_true (show 1 ≤ most by omega)]
     by_cases h4 : most > 1000
     · rw [decide_eq_true h4, decide_eq_false (show ¬ most ≤ 1000 by omega)]; rfl
     ·
      rw [decide_eq_false h4, decide_eq_true (show most ≤ 1000 by omega)]
      simp only [Bool.and_self, cond_true, cond_false, Bool.not_true, Kd, Option.isSome_none]
      refine BR (fun st : JP => ∃ (k : Nat) (a : aC) (b : aD), st = IM k a b ∧ k ≤ l.length ∧ TR (PW n v) a b k) (fun st => ((l.length : Int) - st.1).toNat)
       (fun e : Unit ⊕ Bool => e = Sum.inl () ∨ e = Sum.inr true) ⟨0, ⟨shift, most, [], []⟩, ⟨shift, most, [], [], []⟩, rfl, Nat.zero_le _, TR.start hs⟩ (by show ((l.length : Int) - 0).toNat < n; omega) ?_ ?_
      ·
       rintro _ ⟨k, a, b, rfl, hk, hTR⟩
       by_cases hlt : k < l.length
       ·
        have hlt' : decide (((k : Nat) : Int) < (l.length : Int)) = true := by simp; omega
        obtain ⟨a1, a2, a3, a4⟩ := a
        obtain ⟨b1, b2, b3, b4, b5⟩ := b
        simp only [IM]
        have hk5 : k ≤ 500 := by omega
        obtain ⟨hr, hr2, _, _⟩ := hpw l[k] (List.getElem_mem hlt)
        show ∃ o, (bif decide (((k : Nat) : Int) < (l.length : Int)) then _ else _) = some o ∧ _
        rw [hlt', cond_true, bR hlt, Kd, show mm n l[k].G = some (decide ((l[k].G.Poly.length : Int) ≤ 70)) from rfl, Kd]
        by_cases hg : (l[k].G.Poly.length : Int) ≤ 70
        ·
         rw [decide_eq_true hg]
         by_cases hf : (l[k].F.length : Int) > 600
         ·
          rw [decide_eq_true hf]
          exact ⟨_, rfl, fun s' e => by (cases e), fun e he => by obtain rfl := Sum.inr.inj he; exact .inr rfl⟩
         ·
          rw [decide_eq_false hf]
          obtain ⟨pk, hpk⟩ := He n l[k].What
          simp only [Bool.not_true, cond_false, Kd, hpk]
          have hadd := hTR.add hk5 (id := l[k].Id) (g := l[k].G) (f := l[k].F) (by omega) (hpw l[k] (List.getElem_mem hlt)) hn hr hr2
          have hmv := hTR.move hk5 (id := l[k].Id) (d := l[k].D) hn
          have hdr := hTR.drop hk5 (id := l[k].Id) hn
          obtain ⟨s1, e1, a1', b1', hA1, hB1, hT1, hc1⟩ := hadd
          obtain ⟨s2, safe, e2, a2', b2', hA2, hB2, hT2, hc2⟩ := hmv
          obtain ⟨s3, e3, a3', b3', hA3, hB3, hT3, hc3⟩ := hdr
          have hl1 : s1.Region.Poly.length ≤ 1000 := by
           rw [FO hr (by omega)] at hA1
           have := D3 (t := ⟨a1, a2, a3, a4⟩) (id := l[k].Id) (g := l[k].G) (f := l[k].F) (by omega)
           rw [Ke hA1] at this; exact this
          have hl2 : s2.Region.Poly.length ≤ 1000 := by
           rw [DT (hTR.len _)] at hA2
           have := BT (d := l[k].D) (hTR.len l[k].Id)
           rw [Ke hA2] at this; exact this
          have hl3 : s3.Region.Poly.length ≤ 1000 := by
           rw [Dt] at hA3
           have := BS (hTR.len l[k].Id)
           rw [Ke hA3] at this; exact this
          rw [Option.bind_assoc]
          refine A6 (fun y => ∃ (s : bf) (e : Er) (a : aC) (b : aD), y = Sum.inl (EO e, e, a.Shift, a.Most, b.Shift, b.Most, s.Id, s.Version, s.Region.Rect.X1, s.Region.Rect.Y1, s.Region.Rect.X2, s.Region.Rect.Y2, s.Region.Poly, s.Filter, s.Cover.X1, s.Cover.Y1, s.Cover.X2, s.Cover.Y2, s.Id, s.Version, s.Region.Rect.X1, s.Region.Rect.Y1, s.Region.Rect.X2, s.Region.Rect.Y2, s.Region.Poly, s.Filter, s.Cover.X1, s.Cover.Y1, s.Cover.X2, s.Cover.Y2, a.L, a.Last, b.L, b.Ids, b.Last) ∧ TR (PW n v) a b (k + 1) ∧ cR e ∧ s.Region.Poly.length ≤ 1000) ?_ ?_
          ·
           cases h0 : pk == 0 with
           | true =>
            simp only [cond_true, Kd, hA1, hB1]
            exact ⟨_, rfl, s1, e1, a1', b1', rfl, hT1, hc1, hl1⟩
           | false =>
            cases h1 : pk == 1 with
            | true =>
             simp only [cond_false, cond_true, Kd, hA1, hB1]
             exact ⟨_, rfl, s1, e1, a1', b1', rfl, hT1, hc1, hl1⟩
            | false =>
             cases h2 : pk == 2 with
             | true =>
              simp only [cond_false, cond_true, Kd, hA2, hB2, beq_self_eq_true, Bool.not_true]
              exact ⟨_, rfl, s2, e2, a2', b2', rfl, hT2, hc2, hl2⟩
             | false =>
              simp only [cond_false, Kd, hA3, hB3]
              exact ⟨_, rfl, s3, e3, a3', b3', rfl, hT3, hc3, hl3⟩
          ·
           rintro _ ⟨⟨i, ver, ⟨⟨x1, y1, x2, y2⟩, po⟩, fi, ⟨c1, c2, c3, c4⟩⟩, e, ⟨p1, p2, p3, p4⟩, ⟨q1, q2, q3, q4, q5⟩, rfl, hT, hc, hl'⟩
           obtain ⟨t1, t2, ⟨r, t3, t4⟩, s, is, at1, t5, t6, t7, t8⟩ := Gm hT (by omega) hn l[k].Id
           simp only [kS]
           rw [HD hc (by omega), Kd, bne_self_eq_false, cond_false, ud _ hl' (by omega), Kd, Bool.not_true, cond_false, t1, Kd, t2, Kd, Bool.not_true, cond_false, t3, Kd, t4]
           simp only [Kd, beq_self_eq_true, Bool.not_true, cond_false, t5, t6, ← t7]
           cases is with
           | false =>
            refine ⟨_, rfl, fun s' he => ?_, fun e he => by cases he⟩
            obtain rfl := Sum.inl.inj he
            rw [dr (by omega)]
            exact ⟨⟨k + 1, ⟨p1, p2, p3, p4⟩, ⟨q1, q2, q3, q4, q5⟩, rfl, hlt, hT⟩, by simp only; omega⟩
           | true =>
            obtain ⟨u1, u2⟩ := t8 rfl
            simp only [cond_true, u1, Kd, u2, Bool.not_true, cond_false]
            refine ⟨_, rfl, fun s' he => ?_, fun e he => by cases he⟩
            obtain rfl := Sum.inl.inj he
            rw [dr (by omega)]
            exact ⟨⟨k + 1, ⟨p1, p2, p3, p4⟩, ⟨q1, q2, q3, q4, q5⟩, rfl, hlt, hT⟩, by simp only; omega⟩
        ·
         rw [decide_eq_false hg]
         exact ⟨_, rfl, fun s' e => by (cases e), fun e he => by obtain rfl := Sum.inr.inj he; exact .inr rfl⟩
       ·
        have hlt' : decide (((k : Nat) : Int) < (l.length : Int)) = false := by simp; omega
        show ∃ o, (bif decide (((k : Nat) : Int) < (l.length : Int)) then _ else _) = some o ∧ _
        rw [hlt', cond_false]
        exact ⟨_, rfl, fun s' e => by (cases e), fun e he => by obtain rfl := Sum.inr.inj he; exact .inl rfl⟩
      · rintro _ (rfl | rfl) <;> rfl
theorem vQ {s m : Int} {l : List gY} {v : eI} (h0 : Go.Pv.okI .i64 s) (h1 : Go.Pv.okI .i64 m) (h2 : BQ ld l) (h3 : qn v) : ai Tryz.prog 4 [.int .i64 s, .int .i64 m, .sl (l.map bP), .agg (sV v)] (· = .bool true) := by
 obtain ⟨n, h⟩ := (wa s m l v h3.2.2.2.1).get
 exact nY h
end Go.Proofs.YtbkomicjhfldmaaGreatDoor
