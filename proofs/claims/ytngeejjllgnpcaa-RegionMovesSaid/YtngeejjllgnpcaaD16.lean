/- Plain functions, and walks, printed by a program of this session's. -/
import Derived.Test.YtngeejjllgnpcaaPwE
import Derived.Test.YtngeejjllgnpcaaPvT
import Derived.Test.YtngeejjllgnpcaaS16c
namespace Go.Proofs.Ytngeejjllgnpcaa
open Go.Pv
set_option maxRecDepth 100000
set_option maxHeartbeats 4000000
set_option linter.unusedSimpArgs false
set_option linter.unusedVariables false
set_option linter.unusedSectionVars false

structure tRect where
  X1 : Int
  Y1 : Int
  X2 : Int
  Y2 : Int
def c_tRect (x : tRect) : List AV := [.int .i64 x.X1, .int .i64 x.Y1, .int .i64 x.X2, .int .i64 x.Y2]
structure tPoint where
  X : Int
  Y : Int
def c_tPoint (x : tPoint) : List AV := [.int .i64 x.X, .int .i64 x.Y]
structure tRegion where
  Rect : tRect
  Poly : List tPoint
def c_tRegion (x : tRegion) : List AV := [.int .i64 x.Rect.X1, .int .i64 x.Rect.Y1, .int .i64 x.Rect.X2, .int .i64 x.Rect.Y2, .sl (x.Poly.map c_tPoint)]
def ok_tRect (x : tRect) : Prop := Go.Pv.okI .i64 x.X1 ∧ Go.Pv.okI .i64 x.Y1 ∧ Go.Pv.okI .i64 x.X2 ∧ Go.Pv.okI .i64 x.Y2
theorem dat_tRect {n : Nat} {cs : List AV} (h : Dat Try.prog n 38 cs) : ∃ a : tRect, cs = c_tRect a ∧ ok_tRect a := by
  obtain ⟨m, rfl, h⟩ := dat_struct (i := Try.i38) rfl rfl h
  obtain ⟨a0, r0, rfl, _, h0, h⟩ := h
  obtain ⟨a1, r1, rfl, _, h1, h⟩ := h
  obtain ⟨a2, r2, rfl, _, h2, h⟩ := h
  obtain ⟨a3, r3, rfl, _, h3, h⟩ := h
  obtain rfl : r3 = [] := h
  obtain ⟨x0, rfl, k0⟩ := dat_Int (i := Try.i2) rfl rfl h0
  obtain ⟨x1, rfl, k1⟩ := dat_Int (i := Try.i2) rfl rfl h1
  obtain ⟨x2, rfl, k2⟩ := dat_Int (i := Try.i2) rfl rfl h2
  obtain ⟨x3, rfl, k3⟩ := dat_Int (i := Try.i2) rfl rfl h3
  exact ⟨⟨x0, x1, x2, x3⟩, rfl, k0, k1, k2, k3⟩
theorem datV_tRect {x : AV} (h : DatV Try.prog 38 x) : ∃ a : tRect, x = .agg (c_tRect a) ∧ ok_tRect a := by
  obtain ⟨n, cs, rfl, h2⟩ := datV_s (i := Try.i38) rfl rfl h
  obtain ⟨a, rfl, k⟩ := dat_tRect h2
  exact ⟨a, rfl, k⟩
def ok_tPoint (x : tPoint) : Prop := Go.Pv.okI .i64 x.X ∧ Go.Pv.okI .i64 x.Y
theorem dat_tPoint {n : Nat} {cs : List AV} (h : Dat Try.prog n 24 cs) : ∃ a : tPoint, cs = c_tPoint a ∧ ok_tPoint a := by
  obtain ⟨m, rfl, h⟩ := dat_struct (i := Try.i24) rfl rfl h
  obtain ⟨a0, r0, rfl, _, h0, h⟩ := h
  obtain ⟨a1, r1, rfl, _, h1, h⟩ := h
  obtain rfl : r1 = [] := h
  obtain ⟨x0, rfl, k0⟩ := dat_Int (i := Try.i2) rfl rfl h0
  obtain ⟨x1, rfl, k1⟩ := dat_Int (i := Try.i2) rfl rfl h1
  exact ⟨⟨x0, x1⟩, rfl, k0, k1⟩
theorem datV_tPoint {x : AV} (h : DatV Try.prog 24 x) : ∃ a : tPoint, x = .agg (c_tPoint a) ∧ ok_tPoint a := by
  obtain ⟨n, cs, rfl, h2⟩ := datV_s (i := Try.i24) rfl rfl h
  obtain ⟨a, rfl, k⟩ := dat_tPoint h2
  exact ⟨a, rfl, k⟩
def ok_tRegion (x : tRegion) : Prop := ok_tRect x.Rect ∧ okLs (ok_tPoint) x.Poly
theorem dat_tRegion {n : Nat} {cs : List AV} (h : Dat Try.prog n 44 cs) : ∃ a : tRegion, cs = c_tRegion a ∧ ok_tRegion a := by
  obtain ⟨m, rfl, h⟩ := dat_struct (i := Try.i44) rfl rfl h
  obtain ⟨a0, r0, rfl, _, h0, h⟩ := h
  obtain ⟨a1, r1, rfl, _, h1, h⟩ := h
  obtain rfl : r1 = [] := h
  obtain ⟨x0, rfl, k0⟩ := dat_tRect h0
  obtain ⟨x1, rfl, k1⟩ := dat_List (c := c_tPoint) (Q := ok_tPoint) (i := Try.i22) rfl rfl (fun _ _ h => dat_tPoint h) h1
  exact ⟨⟨x0, x1⟩, rfl, k0, k1⟩
theorem datV_tRegion {x : AV} (h : DatV Try.prog 44 x) : ∃ a : tRegion, x = .agg (c_tRegion a) ∧ ok_tRegion a := by
  obtain ⟨n, cs, rfl, h2⟩ := datV_s (i := Try.i44) rfl rfl h
  obtain ⟨a, rfl, k⟩ := dat_tRegion h2
  exact ⟨a, rfl, k⟩
def ptL (l : List tPoint) : List Pt := l.map fun p => (p.X, p.Y)
theorem rows_ptL (l : List tPoint) : rows (ptL l) = l.map c_tPoint := by
  unfold rows ptL; rw [List.map_map]; rfl
def dref15_Region (fu : Nat) (g : tRegion) : Option Bool := if g.Poly.length ≤ maxLen then some (mayG g.Rect.X1 g.Rect.Y1 g.Rect.X2 g.Rect.Y2 (ptL g.Poly)) else none
theorem dref15_Region_l {fu : Nat} {g : tRegion} {r : Bool} (h : dref15_Region fu g = some r) : PCall Try.prog 29 [.agg (c_tRegion g)] (· = .bool r) := by
  unfold dref15_Region at h
  split at h
  · rename_i hl
    cases h
    have := rmayG_c (a := g.Rect.X1) (b := g.Rect.Y1) (c := g.Rect.X2) (d := g.Rect.Y2) (l := ptL g.Poly) (by unfold ptL; rw [List.length_map]; exact hl)
    rw [rows_ptL] at this
    exact this
  · cases h
def dref15_add (fu : Nat) (p v : tPoint) : Option (tPoint × Bool) := some (⟨W (p.X + v.X), W (p.Y + v.Y)⟩, addB p.X p.Y v.X v.Y)
theorem dref15_add_l {fu : Nat} {p v : tPoint} {r : tPoint × Bool} (h : dref15_add fu p v = some r) : PCall Try.prog 83 [.agg (c_tPoint p), .agg (c_tPoint v)] (· = .tup [.agg (c_tPoint r.1), .bool r.2]) := by
  unfold dref15_add at h
  cases h
  exact radd_c (p := (p.X, p.Y)) (v := (v.X, v.Y))

/-- `plover/ploverref15.Move` -/
def dref15_Move (fu : Nat) (g1 : tRegion) (d1 : tPoint) : Option (tRegion × Int) :=
  (dref15_Region fu g1).bind fun may1 => bif (!may1) then some ((tRegion.mk (tRect.mk 0 0 0 0) []), 1) else (bif ((g1.Poly.length : Int) == 0) then ((dref15_add fu (tPoint.mk g1.Rect.X1 g1.Rect.Y1) d1).bind fun ok1 => (dref15_add fu (tPoint.mk g1.Rect.X2 g1.Rect.Y2) d1).bind fun fine1 => (bif (!ok1.2) then some true else some (!fine1.2) : Option Bool).bind fun (x1 : Bool) => (bif x1 then some ((tRegion.mk (tRect.mk 0 0 0 0) []), 11) else some ((tRegion.mk (tRect.mk ok1.1.X ok1.1.Y fine1.1.X fine1.1.Y) []), 0))) else ((loopD (ε := Int × (List tPoint)) (τ := (List tPoint) ⊕ (tRegion × Int)) (fun (((i1, l1)) : Int × (List tPoint)) => (bif (decide (i1 < (g1.Poly.length : Int))) then ((gi g1.Poly i1).bind fun ok4 => (dref15_add fu ok4 d1).bind fun ok5 => bif (!ok5.2) then some (Sum.inr (Sum.inr ((tRegion.mk (tRect.mk 0 0 0 0) []), 11))) else ((ap l1 [ok5.1]).bind fun l4 => some (Sum.inl (W (i1 + 1), l4)))) else some (Sum.inr (Sum.inl l1)))) fu (0, [])).bind fun o => kS o fun (l3 : List tPoint) => some ((tRegion.mk (tRect.mk 0 0 0 0) l3), 0)))
section
attribute [local irreducible] awp aops DP PCall ACall Decidable.decide
theorem dref15_Move_l {fu : Nat} {g1 : tRegion} {d1 : tPoint} {r : tRegion × Int} (h : dref15_Move fu g1 d1 = some r) : PCall Try.prog 46 [.agg [.int .i64 g1.Rect.X1, .int .i64 g1.Rect.Y1, .int .i64 g1.Rect.X2, .int .i64 g1.Rect.Y2, .sl (g1.Poly.map c_tPoint)], .agg [.int .i64 d1.X, .int .i64 d1.Y]] (· = .tup [.agg [.int .i64 r.1.Rect.X1, .int .i64 r.1.Rect.Y1, .int .i64 r.1.Rect.X2, .int .i64 r.1.Rect.Y2, .sl (r.1.Poly.map c_tPoint)], .int .i64 r.2]) := by
  rw [dref15_Move] at h
  refine pcall_body Try.func46 rfl (by kernel_rfl) (by rfl) ?_
  refine awp_seq ?_
  refine awp_region ?_
  refine rb rfl rfl ?_
  refine rb rfl rfl ?_
  refine ra rfl rfl rfl ?_
  refine rv rfl rfl ?_
  refine rn ?_
  refine awp_seq ?_
  refine awp_region ?_
  refine rv rfl rfl ?_
  obtain ⟨may1, hx1, h⟩ := bi h
  refine rc1 rfl rfl rfl (dref15_Region_l hx1) ?_
  refine rv rfl rfl ?_
  refine rn ?_
  refine awp_seq ?_
  refine awp_seq ?_
  refine awp_region ?_
  refine rvs 2 rfl ?_
  refine rn ?_
  refine cs_ rfl (fun hc => ?_) (fun hc => ?_)
  · have h := cT hc h
    refine awp_seq ?_
    refine awp_region ?_
    refine rv rfl rfl ?_
    refine rs rfl rfl rfl rfl rfl rfl rfl ?_
    refine rv rfl rfl ?_
    refine rn ?_
    refine awp_ret ?_
    cases h
    repeat (first | refine then_ret ?_ | refine inBlock_ret ?_ | refine cut_r ?_)
    exact rr rfl rfl rfl
  · have h := cF hc h
    refine awp_skip ?_
    refine awp_seq ?_
    refine awp_seq ?_
    refine awp_region ?_
    refine rvs 2 rfl ?_
    refine rv rfl rfl ?_
    refine rt ((lM c_tPoint g1.Poly)) ?_
    refine rv rfl rfl ?_
    refine rn ?_
    refine cs_ rfl (fun hc => ?_) (fun hc => ?_)
    · have h := cT hc h
      refine awp_seq ?_
      refine awp_region ?_
      refine rvs 8 rfl ?_
      obtain ⟨ok1, hx2, h⟩ := bi h
      refine rc1 rfl rfl rfl (dref15_add_l hx2) ?_
      refine rvs 3 rfl ?_
      refine ra rfl rfl rfl ?_
      refine rs rfl rfl rfl rfl rfl rfl rfl ?_
      refine rv rfl rfl ?_
      refine rn ?_
      refine awp_seq ?_
      refine awp_region ?_
      refine rvs 8 rfl ?_
      obtain ⟨fine1, hx3, h⟩ := bi h
      refine rc1 rfl rfl rfl (dref15_add_l hx3) ?_
      refine rvs 3 rfl ?_
      refine ra rfl rfl rfl ?_
      refine rs rfl rfl rfl rfl rfl rfl rfl ?_
      refine rv rfl rfl ?_
      refine rn ?_
      refine awp_seq ?_
      refine awp_seq ?_
      obtain ⟨o4, ho5, h⟩ := bi h
      refine awp_cut1 (fun x => x = o4) (fun (x1 : Bool) => ⟨[(4, .ptr 0 0), (7, .ptr 1 0), (9, .ptr 2 0), (53, .bool x1)], [(0, 0, .int .i64 0), (0, 1, .int .i64 0), (0, 2, .int .i64 0), (0, 3, .int .i64 0), (0, 4, .nilS), (1, 0, .int .i64 ok1.1.X), (1, 1, .int .i64 ok1.1.Y), (2, 0, .int .i64 fine1.1.X), (2, 1, .int .i64 fine1.1.Y)], [], 3⟩) ?_ ?_
      · refine awp_region ?_
        refine rvs 3 rfl ?_
        refine gs rfl rfl rfl rfl rfl (fun hg => ?_) (fun hg => ?_)
        · have ho5 := cF hg ho5
          refine rv rfl rfl ?_
          refine gy rfl rfl rfl ?_
          refine rv rfl rfl ?_
          refine rv rfl rfl ?_
          refine rn ?_
          cases ho5
          exact cut_n [2, 3, 4] rfl rfl ⟨rfl, rfl, zA rfl rfl rfl (zA rfl rfl rfl (zA rfl rfl rfl (zA rfl rfl rfl (trivial)))), zC rfl rfl rfl rfl (zC rfl rfl rfl rfl (zC rfl rfl rfl rfl (zC rfl rfl rfl rfl (zC rfl rfl rfl rfl (zC rfl rfl rfl rfl (zC rfl rfl rfl rfl (zC rfl rfl rfl rfl (zC rfl rfl rfl rfl (trivial))))))))), trivial⟩
        · have ho5 := cT hg ho5
          refine gn rfl rfl rfl rfl rfl ?_
          refine rv rfl rfl ?_
          refine rn ?_
          cases ho5
          exact cut_n [2, 3, 4] rfl rfl ⟨rfl, rfl, zA rfl rfl rfl (zA rfl rfl rfl (zA rfl rfl rfl (zA rfl rfl rfl (trivial)))), zC rfl rfl rfl rfl (zC rfl rfl rfl rfl (zC rfl rfl rfl rfl (zC rfl rfl rfl rfl (zC rfl rfl rfl rfl (zC rfl rfl rfl rfl (zC rfl rfl rfl rfl (zC rfl rfl rfl rfl (zC rfl rfl rfl rfl (trivial))))))))), trivial⟩
      · rintro x1 rfl
        change awp _ _ _ _ _ ⟨_, _, _, _⟩
        refine cs_ rfl (fun hc => ?_) (fun hc => ?_)
        · have h := cT hc h
          refine awp_seq ?_
          refine awp_region ?_
          refine rv rfl rfl ?_
          refine rs rfl rfl rfl rfl rfl rfl rfl ?_
          refine rv rfl rfl ?_
          refine rn ?_
          refine awp_ret ?_
          cases h
          repeat (first | refine then_ret ?_ | refine inBlock_ret ?_ | refine cut_r ?_)
          exact rr rfl rfl rfl
        · have h := cF hc h
          refine awp_skip ?_
          refine awp_seq ?_
          refine awp_region ?_
          refine rvs 10 rfl ?_
          refine rs rfl rfl rfl rfl rfl rfl rfl ?_
          refine rv rfl rfl ?_
          refine rn ?_
          refine awp_ret ?_
          cases h
          repeat (first | refine then_ret ?_ | refine inBlock_ret ?_ | refine cut_r ?_)
          exact rr rfl rfl rfl
    · have h := cF hc h
      refine awp_skip ?_
      refine awp_seq ?_
      refine awp_region ?_
      refine ra rfl rfl rfl ?_
      refine rn ?_
      refine awp_seq ?_
      refine awp_seq ?_
      refine awp_region ?_
      refine rv rfl rfl ?_
      refine rn ?_
      refine awp_conv (fun _ _ _ _ _ hi => nilS_cell false 2 3 4 rfl hi) ?_
      obtain ⟨e6, hl7, h⟩ := bi h
      refine awp_cut1 (fun x => Sum.inl x = e6) (fun (l3 : List tPoint) => ⟨[(4, .ptr 0 0), (11, .ptr 1 0)], [(0, 0, .int .i64 0), (0, 1, .int .i64 0), (0, 2, .int .i64 0), (0, 3, .int .i64 0), (0, 4, .nilS), (1, 0, .int .i64 0), (1, 1, .int .i64 0), (1, 2, .int .i64 0), (1, 3, .int .i64 0), (1, 4, .own 2)], [(2, .row 2 (l3.map c_tPoint))], 3⟩) ?_ ?_
      · refine awp_block ?_
        refine awp_loopD hl7 (fun (((i1, l1)) : Int × (List tPoint)) => ⟨[(2, .ptr 0 0), (3, .ptr 1 0), (4, .ptr 2 0), (11, .ptr 3 0), (12, .int .i64 i1)], [(0, 0, .int .i64 g1.Rect.X1), (0, 1, .int .i64 g1.Rect.Y1), (0, 2, .int .i64 g1.Rect.X2), (0, 3, .int .i64 g1.Rect.Y2), (0, 4, .sl (g1.Poly.map c_tPoint)), (1, 0, .int .i64 d1.X), (1, 1, .int .i64 d1.Y), (2, 0, .int .i64 0), (2, 1, .int .i64 0), (2, 2, .int .i64 0), (2, 3, .int .i64 0), (2, 4, .nilS), (3, 0, .int .i64 0), (3, 1, .int .i64 0), (3, 2, .int .i64 0), (3, 3, .int .i64 0), (3, 4, .own 4)], [(4, .row 2 (l1.map c_tPoint))], 5⟩) [0, 1, 2, 3, 4] rfl ⟨rfl, rfl, zA rfl rfl rfl (zA rfl rfl rfl (zA rfl rfl rfl (zA rfl rfl rfl (zA rfl rfl rfl (trivial))))), zC rfl rfl rfl rfl (zC rfl rfl rfl rfl (zC rfl rfl rfl rfl (zC rfl rfl rfl rfl (zC rfl rfl rfl rfl (zC rfl rfl rfl rfl (zC rfl rfl rfl rfl (zC rfl rfl rfl rfl (zC rfl rfl rfl rfl (zC rfl rfl rfl rfl (zC rfl rfl rfl rfl (zC rfl rfl rfl rfl (zC rfl rfl rfl rfl (zC rfl rfl rfl rfl (zC rfl rfl rfl rfl (zC rfl rfl rfl rfl (zC rfl rfl rfl rfl (trivial))))))))))))))))), zE rfl .row rfl (trivial)⟩ ?_
        intro v o10 ho8 hE9
        obtain ⟨i1, l1⟩ := v
        change awp _ _ _ _ _ ⟨_, _, _, _⟩
        refine awp_seq ?_
        refine awp_seq ?_
        refine awp_region ?_
        refine rvs 3 rfl ?_
        refine rv rfl rfl ?_
        refine rt ((lM c_tPoint g1.Poly)) ?_
        refine rv rfl rfl ?_
        refine rn ?_
        refine cs_ rfl (fun hc => ?_) (fun hc => ?_)
        · have ho8 := cT hc ho8
          refine awp_skip ?_
          refine awp_seq ?_
          refine awp_block ?_
          refine awp_seq ?_
          refine awp_dx (m := 12) [] Try.mix (by kernel_rfl) (by kernel_rfl) (by kernel_rfl) (by kernel_rfl) (by kernel_rfl) (by kernel_rfl) ?_
          refine xv [] rfl rfl (fun _ => rfl) ?_
          refine xv [0] rfl rfl (fun _ => rfl) ?_
          refine xv [] rfl rfl (fun _ => rfl) ?_
          obtain ⟨ok4, hx13, ho8⟩ := bi ho8
          refine xV [] rfl rfl (fun _ => va_idx rfl rfl rfl rfl rfl (gi0 hx13) (giM c_tPoint hx13) (wM (fun _ => by rfl) _)) ?_
          refine xv [] rfl rfl (fun _ => rfl) ?_
          refine xv [1] rfl rfl (fun _ => rfl) ?_
          obtain ⟨ok5, hx14, ho8⟩ := bi ho8
          refine xc [] rfl rfl rfl (fun _ => rfl) (fun _ => (dref15_add_l hx14)) ?_
          refine xv [] rfl rfl (fun _ => rfl) ?_
          refine xv [] rfl rfl (fun _ => rfl) ?_
          refine xv [] rfl rfl (fun _ => rfl) ?_
          refine xE [] (.ptr 5 0) 6 _ _ rfl rfl (by
              refine ra rfl rfl rfl ?_
              exact rn ⟨rfl, rfl⟩) (by rfl) (by rfl) (by rfl) ?_
          refine xE [5] .any 6 _ _ rfl rfl (by
              refine rs rfl rfl rfl rfl rfl rfl rfl ?_
              exact rn ⟨rfl, rfl⟩) (by rfl) (by rfl) (by rfl) ?_
          refine xn (by kernel_rfl) ?_
          refine rv rfl rfl ?_
          refine rn ?_
          refine awp_seq ?_
          refine awp_seq ?_
          refine awp_region ?_
          refine rvs 2 rfl ?_
          refine rn ?_
          refine cs_ rfl (fun hc => ?_) (fun hc => ?_)
          · have ho8 := cT hc ho8
            refine awp_seq ?_
            refine awp_region ?_
            refine rv rfl rfl ?_
            refine rs rfl rfl rfl rfl rfl rfl rfl ?_
            refine rv rfl rfl ?_
            refine rn ?_
            refine awp_ret ?_
            cases ho8
            have hq := hE9 _ rfl
            subst hq
            have h := ksr h
            subst h
            repeat (first | refine then_ret ?_ | refine inBlock_ret ?_ | refine cut_r ?_)
            exact rr rfl rfl rfl
          · have ho8 := cF hc ho8
            refine awp_skip ?_
            refine awp_region ?_
            refine rvs 3 rfl ?_
            refine rbs false rfl rfl rfl rfl rfl rfl rfl rfl rfl rfl ?_
            obtain ⟨l4, hx15, ho8⟩ := bi ho8
            refine rap false (z := 2) (xs := l1.map c_tPoint) (ys := [ok5.1].map c_tPoint) rfl rfl rfl rfl rfl rfl rfl (.own rfl rfl) (.sl rfl rfl rfl) (wM (fun _ => by rfl) _) (oM (fun _ => by rfl) _) (apB c_tPoint rfl hx15) rfl ?_
            refine rk (congrArg (Kind.row _) (apM c_tPoint hx15)) ?_
            refine rv rfl rfl ?_
            refine rs rfl rfl rfl rfl rfl rfl rfl ?_
            refine rn ?_
            refine inBlock_normal ?_
            refine awp_region ?_
            refine rvs 3 rfl ?_
            refine rn ?_
            cases ho8
            exact lp_n [0, 1, 2, 3, 7] rfl rfl ⟨rfl, rfl, zA rfl rfl rfl (zA rfl rfl rfl (zA rfl rfl rfl (zA rfl rfl rfl (zA rfl rfl rfl (trivial))))), zC rfl rfl rfl rfl (zC rfl rfl rfl rfl (zC rfl rfl rfl rfl (zC rfl rfl rfl rfl (zC rfl rfl rfl rfl (zC rfl rfl rfl rfl (zC rfl rfl rfl rfl (zC rfl rfl rfl rfl (zC rfl rfl rfl rfl (zC rfl rfl rfl rfl (zC rfl rfl rfl rfl (zC rfl rfl rfl rfl (zC rfl rfl rfl rfl (zC rfl rfl rfl rfl (zC rfl rfl rfl rfl (zC rfl rfl rfl rfl (zC rfl rfl rfl rfl (trivial))))))))))))))))), zE rfl .row rfl (trivial)⟩
        · have ho8 := cF hc ho8
          refine awp_exit ?_
          repeat (first | refine then_exit ?_ | refine cut_x ?_ | refine inBlock_other rfl ?_)
          refine inBlock_exit ?_
          cases ho8
          have hq := hE9 _ rfl
          subst hq
          exact cut_n [2, 3, 4] rfl rfl ⟨rfl, rfl, zA rfl rfl rfl (zA rfl rfl rfl (trivial)), zC rfl rfl rfl rfl (zC rfl rfl rfl rfl (zC rfl rfl rfl rfl (zC rfl rfl rfl rfl (zC rfl rfl rfl rfl (zC rfl rfl rfl rfl (zC rfl rfl rfl rfl (zC rfl rfl rfl rfl (zC rfl rfl rfl rfl (zC rfl rfl rfl rfl (trivial)))))))))), zE rfl .row rfl (trivial)⟩
      · rintro l3 rfl
        have h := ksl h
        refine awp_seq ?_
        refine awp_region ?_
        refine rv rfl rfl ?_
        refine rs rfl rfl rfl rfl rfl rfl rfl ?_
        refine rv rfl rfl ?_
        refine rn ?_
        refine awp_ret ?_
        cases h
        repeat (first | refine then_ret ?_ | refine inBlock_ret ?_ | refine cut_r ?_)
        exact rr rfl rfl rfl
end

end Go.Proofs.Ytngeejjllgnpcaa
