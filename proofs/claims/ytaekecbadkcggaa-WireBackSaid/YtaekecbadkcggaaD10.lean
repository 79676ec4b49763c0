/- Plain functions, and walks, printed by a program of this session's. -/
import Derived.Test.YtaekecbadkcggaaD09
import Derived.Test.YtaekecbadkcggaaPwE
namespace Go.Proofs.Ytaekecbadkcggaa
open Go.Pv
set_option maxRecDepth 100000
set_option maxHeartbeats 4000000
set_option linter.unusedSimpArgs false
set_option linter.unusedVariables false
set_option linter.unusedSectionVars false

structure tRect where
  X1 : Int
  Y1 : Int
  X2 : Int
  Y2 : Int
def c_tRect (x : tRect) : List AV := [.int .i64 x.X1, .int .i64 x.Y1, .int .i64 x.X2, .int .i64 x.Y2]
structure tPoint where
  X : Int
  Y : Int
def c_tPoint (x : tPoint) : List AV := [.int .i64 x.X, .int .i64 x.Y]
structure tEvent where
  Pub : Int
  Seq : Int
  At : tPoint
  Attrs : List tAttr
def c_tEvent (x : tEvent) : List AV := [.int .i64 x.Pub, .int .u32 x.Seq, .int .i64 x.At.X, .int .i64 x.At.Y, .sl (x.Attrs.map c_tAttr)]
structure tMsg where
  Kind : Int
  Sub : Int
  Version : Int
  Home : Int
  Rect : tRect
  Filter : Str
  Event : tEvent
def c_tMsg (x : tMsg) : List AV := [.int .i64 x.Kind, .int .i64 x.Sub, .int .i64 x.Version, .int .i64 x.Home, .int .i64 x.Rect.X1, .int .i64 x.Rect.Y1, .int .i64 x.Rect.X2, .int .i64 x.Rect.Y2, .str (sB x.Filter), .int .i64 x.Event.Pub, .int .u32 x.Event.Seq, .int .i64 x.Event.At.X, .int .i64 x.Event.At.Y, .sl (x.Event.Attrs.map c_tAttr)]
def ok_tRect (x : tRect) : Prop := okI .i64 x.X1 ∧ okI .i64 x.Y1 ∧ okI .i64 x.X2 ∧ okI .i64 x.Y2
theorem dat_tRect {n : Nat} {cs : List AV} (h : Dat Try.prog n 70 cs) : ∃ a : tRect, cs = c_tRect a ∧ ok_tRect a := by
  obtain ⟨m, rfl, h⟩ := dat_struct (i := Try.i70) rfl rfl h
  obtain ⟨a0, r0, rfl, _, h0, h⟩ := h
  obtain ⟨a1, r1, rfl, _, h1, h⟩ := h
  obtain ⟨a2, r2, rfl, _, h2, h⟩ := h
  obtain ⟨a3, r3, rfl, _, h3, h⟩ := h
  obtain rfl : r3 = [] := h
  obtain ⟨x0, rfl, k0⟩ := dat_Int (i := Try.i2) rfl rfl h0
  obtain ⟨x1, rfl, k1⟩ := dat_Int (i := Try.i2) rfl rfl h1
  obtain ⟨x2, rfl, k2⟩ := dat_Int (i := Try.i2) rfl rfl h2
  obtain ⟨x3, rfl, k3⟩ := dat_Int (i := Try.i2) rfl rfl h3
  exact ⟨⟨x0, x1, x2, x3⟩, rfl, k0, k1, k2, k3⟩
theorem datV_tRect {x : AV} (h : DatV Try.prog 70 x) : ∃ a : tRect, x = .agg (c_tRect a) ∧ ok_tRect a := by
  obtain ⟨n, cs, rfl, h2⟩ := datV_s (i := Try.i70) rfl rfl h
  obtain ⟨a, rfl, k⟩ := dat_tRect h2
  exact ⟨a, rfl, k⟩
def ok_tPoint (x : tPoint) : Prop := okI .i64 x.X ∧ okI .i64 x.Y
theorem dat_tPoint {n : Nat} {cs : List AV} (h : Dat Try.prog n 73 cs) : ∃ a : tPoint, cs = c_tPoint a ∧ ok_tPoint a := by
  obtain ⟨m, rfl, h⟩ := dat_struct (i := Try.i73) rfl rfl h
  obtain ⟨a0, r0, rfl, _, h0, h⟩ := h
  obtain ⟨a1, r1, rfl, _, h1, h⟩ := h
  obtain rfl : r1 = [] := h
  obtain ⟨x0, rfl, k0⟩ := dat_Int (i := Try.i2) rfl rfl h0
  obtain ⟨x1, rfl, k1⟩ := dat_Int (i := Try.i2) rfl rfl h1
  exact ⟨⟨x0, x1⟩, rfl, k0, k1⟩
theorem datV_tPoint {x : AV} (h : DatV Try.prog 73 x) : ∃ a : tPoint, x = .agg (c_tPoint a) ∧ ok_tPoint a := by
  obtain ⟨n, cs, rfl, h2⟩ := datV_s (i := Try.i73) rfl rfl h
  obtain ⟨a, rfl, k⟩ := dat_tPoint h2
  exact ⟨a, rfl, k⟩
def ok_tEvent (x : tEvent) : Prop := okI .i64 x.Pub ∧ okI .u32 x.Seq ∧ ok_tPoint x.At ∧ okLs (ok_tAttr) x.Attrs
theorem dat_tEvent {n : Nat} {cs : List AV} (h : Dat Try.prog n 75 cs) : ∃ a : tEvent, cs = c_tEvent a ∧ ok_tEvent a := by
  obtain ⟨m, rfl, h⟩ := dat_struct (i := Try.i75) rfl rfl h
  obtain ⟨a0, r0, rfl, _, h0, h⟩ := h
  obtain ⟨a1, r1, rfl, _, h1, h⟩ := h
  obtain ⟨a2, r2, rfl, _, h2, h⟩ := h
  obtain ⟨a3, r3, rfl, _, h3, h⟩ := h
  obtain rfl : r3 = [] := h
  obtain ⟨x0, rfl, k0⟩ := dat_Int (i := Try.i3) rfl rfl h0
  obtain ⟨x1, rfl, k1⟩ := dat_Int (i := Try.i71) rfl rfl h1
  obtain ⟨x2, rfl, k2⟩ := dat_tPoint h2
  obtain ⟨x3, rfl, k3⟩ := dat_List (c := c_tAttr) (Q := ok_tAttr) (i := Try.i56) rfl rfl (fun _ _ h => dat_tAttr h) h3
  exact ⟨⟨x0, x1, x2, x3⟩, rfl, k0, k1, k2, k3⟩
theorem datV_tEvent {x : AV} (h : DatV Try.prog 75 x) : ∃ a : tEvent, x = .agg (c_tEvent a) ∧ ok_tEvent a := by
  obtain ⟨n, cs, rfl, h2⟩ := datV_s (i := Try.i75) rfl rfl h
  obtain ⟨a, rfl, k⟩ := dat_tEvent h2
  exact ⟨a, rfl, k⟩
def ok_tMsg (x : tMsg) : Prop := okI .i64 x.Kind ∧ okI .i64 x.Sub ∧ okI .i64 x.Version ∧ okI .i64 x.Home ∧ ok_tRect x.Rect ∧ okS x.Filter ∧ ok_tEvent x.Event
theorem dat_tMsg {n : Nat} {cs : List AV} (h : Dat Try.prog n 77 cs) : ∃ a : tMsg, cs = c_tMsg a ∧ ok_tMsg a := by
  obtain ⟨m, rfl, h⟩ := dat_struct (i := Try.i77) rfl rfl h
  obtain ⟨a0, r0, rfl, _, h0, h⟩ := h
  obtain ⟨a1, r1, rfl, _, h1, h⟩ := h
  obtain ⟨a2, r2, rfl, _, h2, h⟩ := h
  obtain ⟨a3, r3, rfl, _, h3, h⟩ := h
  obtain ⟨a4, r4, rfl, _, h4, h⟩ := h
  obtain ⟨a5, r5, rfl, _, h5, h⟩ := h
  obtain ⟨a6, r6, rfl, _, h6, h⟩ := h
  obtain rfl : r6 = [] := h
  obtain ⟨x0, rfl, k0⟩ := dat_Int (i := Try.i3) rfl rfl h0
  obtain ⟨x1, rfl, k1⟩ := dat_Int (i := Try.i3) rfl rfl h1
  obtain ⟨x2, rfl, k2⟩ := dat_Int (i := Try.i3) rfl rfl h2
  obtain ⟨x3, rfl, k3⟩ := dat_Int (i := Try.i3) rfl rfl h3
  obtain ⟨x4, rfl, k4⟩ := dat_tRect h4
  obtain ⟨x5, rfl, k5⟩ := dat_Str (i := Try.i9) rfl rfl h5
  obtain ⟨x6, rfl, k6⟩ := dat_tEvent h6
  exact ⟨⟨x0, x1, x2, x3, x4, x5, x6⟩, rfl, k0, k1, k2, k3, k4, k5, k6⟩
theorem datV_tMsg {x : AV} (h : DatV Try.prog 77 x) : ∃ a : tMsg, x = .agg (c_tMsg a) ∧ ok_tMsg a := by
  obtain ⟨n, cs, rfl, h2⟩ := datV_s (i := Try.i77) rfl rfl h
  obtain ⟨a, rfl, k⟩ := dat_tMsg h2
  exact ⟨a, rfl, k⟩
structure twirewriter where
  Out : Str
structure twirereader where
  B : Str
  Err : Er
structure tref10R where
  B : Str
  At : Int
  Bad : Int
/-- `plover/point.far` -/
def dpoint_far (fu : Nat) (n1 : Int) : Option Bool :=
  bif (decide (n1 < (-1073741824))) then some true else ((some (decide (n1 > 1073741824))).bind fun x1 => some x1)
section
attribute [local irreducible] awp aops DP PCall ACall Decidable.decide
theorem dpoint_far_l {fu : Nat} {n1 : Int} {r : Bool} (h : dpoint_far fu n1 = some r) : PCall Try.prog 100 [.int .i64 n1] (· = .bool r) := by
  rw [dpoint_far] at h
  refine pcall_body Try.func100 rfl (by kernel_rfl) (by rfl) ?_
  refine awp_seq ?_
  refine awp_region ?_
  refine rv rfl rfl ?_
  refine rn ?_
  refine awp_seq ?_
  refine awp_region ?_
  refine rvs 3 rfl ?_
  refine gs rfl rfl rfl rfl rfl (fun hg => ?_) (fun hg => ?_)
  · have h := cF hg h
    refine rv rfl rfl ?_
    refine gy rfl rfl rfl ?_
    refine rv rfl rfl ?_
    refine rvs 2 rfl ?_
    obtain ⟨x1, hx1, h⟩ := bs h
    refine rt (eb' hx1) ?_
    refine rn ?_
    refine awp_ret ?_
    cases h
    repeat (first | refine then_ret ?_ | refine inBlock_ret ?_ | refine cut_r ?_)
    exact rr rfl rfl rfl
  · have h := cT hg h
    refine gn rfl rfl rfl rfl rfl ?_
    refine rvs 2 rfl ?_
    refine rn ?_
    refine awp_ret ?_
    cases h
    repeat (first | refine then_ret ?_ | refine inBlock_ret ?_ | refine cut_r ?_)
    exact rr rfl rfl rfl
end

/-- `plover/point.May` -/
def dpoint_May (fu : Nat) (p1 : tPoint) : Option Bool :=
  (dpoint_far fu p1.X).bind fun x1 => bif (!x1) then ((dpoint_far fu p1.Y).bind fun x2 => some (!x2)) else some false
section
attribute [local irreducible] awp aops DP PCall ACall Decidable.decide
theorem dpoint_May_l {fu : Nat} {p1 : tPoint} {r : Bool} (h : dpoint_May fu p1 = some r) : PCall Try.prog 90 [.agg [.int .i64 p1.X, .int .i64 p1.Y]] (· = .bool r) := by
  rw [dpoint_May] at h
  refine pcall_body Try.func90 rfl (by kernel_rfl) (by rfl) ?_
  refine awp_seq ?_
  refine awp_region ?_
  refine rb rfl rfl ?_
  refine rv rfl rfl ?_
  refine rn ?_
  refine awp_seq ?_
  refine awp_region ?_
  refine rvs 2 rfl ?_
  obtain ⟨x1, hx1, h⟩ := bi h
  refine rc1 rfl rfl rfl (dpoint_far_l hx1) ?_
  refine rvs 2 rfl ?_
  refine gs rfl rfl rfl rfl rfl (fun hg => ?_) (fun hg => ?_)
  · have h := cT hg h
    refine rv rfl rfl ?_
    refine gy rfl rfl rfl ?_
    refine rv rfl rfl ?_
    refine gy rfl rfl rfl ?_
    obtain ⟨x2, hx2, h⟩ := bi h
    refine rc1 rfl rfl rfl (dpoint_far_l hx2) ?_
    refine gy rfl rfl rfl ?_
    refine rv rfl rfl ?_
    refine rvs 2 rfl ?_
    refine rn ?_
    refine awp_ret ?_
    cases h
    repeat (first | refine then_ret ?_ | refine inBlock_ret ?_ | refine cut_r ?_)
    exact rr rfl rfl rfl
  · have h := cF hg h
    refine gn rfl rfl rfl rfl rfl ?_
    refine gn rfl rfl rfl rfl rfl ?_
    refine gn rfl rfl rfl rfl rfl ?_
    refine rvs 2 rfl ?_
    refine rn ?_
    refine awp_ret ?_
    cases h
    repeat (first | refine then_ret ?_ | refine inBlock_ret ?_ | refine cut_r ?_)
    exact rr rfl rfl rfl
end

/-- `plover/rect.May` -/
def drect_May (fu : Nat) (r1 : tRect) : Option Bool :=
  (dpoint_May fu (tPoint.mk r1.X1 r1.Y1)).bind fun x1 => bif x1 then ((dpoint_May fu (tPoint.mk r1.X2 r1.Y2)).bind fun x2 => bif x2 then (bif (decide (r1.X1 ≤ r1.X2)) then ((some (decide (r1.Y1 ≤ r1.Y2))).bind fun x3 => some x3) else some false) else some false) else some false
section
attribute [local irreducible] awp aops DP PCall ACall Decidable.decide
theorem drect_May_l {fu : Nat} {r1 : tRect} {r : Bool} (h : drect_May fu r1 = some r) : PCall Try.prog 73 [.agg [.int .i64 r1.X1, .int .i64 r1.Y1, .int .i64 r1.X2, .int .i64 r1.Y2]] (· = .bool r) := by
  rw [drect_May] at h
  refine pcall_body Try.func73 rfl (by kernel_rfl) (by rfl) ?_
  refine awp_seq ?_
  refine awp_region ?_
  refine rb rfl rfl ?_
  refine rv rfl rfl ?_
  refine rn ?_
  refine awp_seq ?_
  refine awp_region ?_
  refine rvs 5 rfl ?_
  obtain ⟨x1, hx1, h⟩ := bi h
  refine rc1 rfl rfl rfl (dpoint_May_l hx1) ?_
  refine rv rfl rfl ?_
  refine gs rfl rfl rfl rfl rfl (fun hg => ?_) (fun hg => ?_)
  · have h := cT hg h
    refine rv rfl rfl ?_
    refine gy rfl rfl rfl ?_
    refine rv rfl rfl ?_
    refine gy rfl rfl rfl ?_
    refine rv rfl rfl ?_
    refine gy rfl rfl rfl ?_
    refine rv rfl rfl ?_
    refine gy rfl rfl rfl ?_
    refine rv rfl rfl ?_
    refine gy rfl rfl rfl ?_
    obtain ⟨x2, hx2, h⟩ := bi h
    refine rc1 rfl rfl rfl (dpoint_May_l hx2) ?_
    refine rvs 2 rfl ?_
    refine gs rfl rfl rfl rfl rfl (fun hg => ?_) (fun hg => ?_)
    · have h := cT hg h
      refine rv rfl rfl ?_
      refine gy rfl rfl rfl ?_
      refine rv rfl rfl ?_
      refine gy rfl rfl rfl ?_
      refine rv rfl rfl ?_
      refine gy rfl rfl rfl ?_
      refine rv rfl rfl ?_
      refine gy rfl rfl rfl ?_
      refine rv rfl rfl ?_
      refine rvs 2 rfl ?_
      refine gs rfl rfl rfl rfl rfl (fun hg => ?_) (fun hg => ?_)
      · have h := cT hg h
        refine rv rfl rfl ?_
        refine gy rfl rfl rfl ?_
        refine rv rfl rfl ?_
        refine gy rfl rfl rfl ?_
        refine rv rfl rfl ?_
        refine gy rfl rfl rfl ?_
        refine rv rfl rfl ?_
        refine gy rfl rfl rfl ?_
        refine rv rfl rfl ?_
        refine rvs 2 rfl ?_
        obtain ⟨x3, hx3, h⟩ := bs h
        refine rt (eb' hx3) ?_
        refine rn ?_
        refine awp_ret ?_
        cases h
        repeat (first | refine then_ret ?_ | refine inBlock_ret ?_ | refine cut_r ?_)
        exact rr rfl rfl rfl
      · have h := cF hg h
        refine gn rfl rfl rfl rfl rfl ?_
        refine gn rfl rfl rfl rfl rfl ?_
        refine gn rfl rfl rfl rfl rfl ?_
        refine gn rfl rfl rfl rfl rfl ?_
        refine rvs 2 rfl ?_
        refine rn ?_
        refine awp_ret ?_
        cases h
        repeat (first | refine then_ret ?_ | refine inBlock_ret ?_ | refine cut_r ?_)
        exact rr rfl rfl rfl
    · have h := cF hg h
      refine gn rfl rfl rfl rfl rfl ?_
      refine gn rfl rfl rfl rfl rfl ?_
      refine gn rfl rfl rfl rfl rfl ?_
      refine gn rfl rfl rfl rfl rfl ?_
      refine rvs 2 rfl ?_
      refine gn rfl rfl rfl rfl rfl ?_
      refine gn rfl rfl rfl rfl rfl ?_
      refine gn rfl rfl rfl rfl rfl ?_
      refine gn rfl rfl rfl rfl rfl ?_
      refine gn rfl rfl rfl rfl rfl ?_
      refine rvs 2 rfl ?_
      refine rn ?_
      refine awp_ret ?_
      cases h
      repeat (first | refine then_ret ?_ | refine inBlock_ret ?_ | refine cut_r ?_)
      exact rr rfl rfl rfl
  · have h := cF hg h
    refine gn rfl rfl rfl rfl rfl ?_
    refine gn rfl rfl rfl rfl rfl ?_
    refine gn rfl rfl rfl rfl rfl ?_
    refine gn rfl rfl rfl rfl rfl ?_
    refine gn rfl rfl rfl rfl rfl ?_
    refine rvs 2 rfl ?_
    refine gn rfl rfl rfl rfl rfl ?_
    refine gn rfl rfl rfl rfl rfl ?_
    refine gn rfl rfl rfl rfl rfl ?_
    refine gn rfl rfl rfl rfl rfl ?_
    refine gn rfl rfl rfl rfl rfl ?_
    refine rvs 2 rfl ?_
    refine gn rfl rfl rfl rfl rfl ?_
    refine gn rfl rfl rfl rfl rfl ?_
    refine gn rfl rfl rfl rfl rfl ?_
    refine gn rfl rfl rfl rfl rfl ?_
    refine gn rfl rfl rfl rfl rfl ?_
    refine rvs 2 rfl ?_
    refine rn ?_
    refine awp_ret ?_
    cases h
    repeat (first | refine then_ret ?_ | refine inBlock_ret ?_ | refine cut_r ?_)
    exact rr rfl rfl rfl
end

/-- `plover/ploverref01.far` -/
def dref01_far (fu : Nat) (n1 : Int) : Option Bool :=
  bif (decide (n1 < (-1073741824))) then some true else ((some (decide (n1 > 1073741824))).bind fun x1 => some x1)
section
attribute [local irreducible] awp aops DP PCall ACall Decidable.decide
theorem dref01_far_l {fu : Nat} {n1 : Int} {r : Bool} (h : dref01_far fu n1 = some r) : PCall Try.prog 99 [.int .i64 n1] (· = .bool r) := by
  rw [dref01_far] at h
  refine pcall_body Try.func99 rfl (by kernel_rfl) (by rfl) ?_
  refine awp_seq ?_
  refine awp_region ?_
  refine rv rfl rfl ?_
  refine rn ?_
  refine awp_seq ?_
  refine awp_region ?_
  refine rvs 3 rfl ?_
  refine gs rfl rfl rfl rfl rfl (fun hg => ?_) (fun hg => ?_)
  · have h := cF hg h
    refine rv rfl rfl ?_
    refine gy rfl rfl rfl ?_
    refine rv rfl rfl ?_
    refine rvs 2 rfl ?_
    obtain ⟨x1, hx1, h⟩ := bs h
    refine rt (eb' hx1) ?_
    refine rn ?_
    refine awp_ret ?_
    cases h
    repeat (first | refine then_ret ?_ | refine inBlock_ret ?_ | refine cut_r ?_)
    exact rr rfl rfl rfl
  · have h := cT hg h
    refine gn rfl rfl rfl rfl rfl ?_
    refine rvs 2 rfl ?_
    refine rn ?_
    refine awp_ret ?_
    cases h
    repeat (first | refine then_ret ?_ | refine inBlock_ret ?_ | refine cut_r ?_)
    exact rr rfl rfl rfl
end

/-- `plover/ploverref01.May` -/
def dref01_May (fu : Nat) (p1 : tPoint) : Option Bool :=
  (dref01_far fu p1.X).bind fun x1 => (dref01_far fu p1.Y).bind fun y1 => bif (!x1) then some (!y1) else some false
section
attribute [local irreducible] awp aops DP PCall ACall Decidable.decide
theorem dref01_May_l {fu : Nat} {p1 : tPoint} {r : Bool} (h : dref01_May fu p1 = some r) : PCall Try.prog 89 [.agg [.int .i64 p1.X, .int .i64 p1.Y]] (· = .bool r) := by
  rw [dref01_May] at h
  refine pcall_body Try.func89 rfl (by kernel_rfl) (by rfl) ?_
  refine awp_seq ?_
  refine awp_region ?_
  refine rb rfl rfl ?_
  refine rv rfl rfl ?_
  refine rn ?_
  refine awp_seq ?_
  refine awp_region ?_
  refine rvs 2 rfl ?_
  obtain ⟨x1, hx1, h⟩ := bi h
  refine rc1 rfl rfl rfl (dref01_far_l hx1) ?_
  refine rv rfl rfl ?_
  refine rn ?_
  refine awp_seq ?_
  refine awp_region ?_
  refine rvs 2 rfl ?_
  obtain ⟨y1, hx2, h⟩ := bi h
  refine rc1 rfl rfl rfl (dref01_far_l hx2) ?_
  refine rv rfl rfl ?_
  refine rn ?_
  refine awp_seq ?_
  refine awp_region ?_
  refine rvs 3 rfl ?_
  refine gs rfl rfl rfl rfl rfl (fun hg => ?_) (fun hg => ?_)
  · have h := cT hg h
    refine rv rfl rfl ?_
    refine gy rfl rfl rfl ?_
    refine rv rfl rfl ?_
    refine rvs 2 rfl ?_
    refine rn ?_
    refine awp_ret ?_
    cases h
    repeat (first | refine then_ret ?_ | refine inBlock_ret ?_ | refine cut_r ?_)
    exact rr rfl rfl rfl
  · have h := cF hg h
    refine gn rfl rfl rfl rfl rfl ?_
    refine rvs 2 rfl ?_
    refine rn ?_
    refine awp_ret ?_
    cases h
    repeat (first | refine then_ret ?_ | refine inBlock_ret ?_ | refine cut_r ?_)
    exact rr rfl rfl rfl
end

/-- `plover/ploverref01.Rect` -/
def dref01_Rect (fu : Nat) (r1 : tRect) : Option Bool :=
  (dref01_May fu (tPoint.mk r1.X1 r1.Y1)).bind fun a1 => (dref01_May fu (tPoint.mk r1.X2 r1.Y2)).bind fun b1 => bif a1 then (bif b1 then (bif (decide (r1.X1 ≤ r1.X2)) then ((some (decide (r1.Y1 ≤ r1.Y2))).bind fun x1 => some x1) else some false) else some false) else some false
section
attribute [local irreducible] awp aops DP PCall ACall Decidable.decide
theorem dref01_Rect_l {fu : Nat} {r1 : tRect} {r : Bool} (h : dref01_Rect fu r1 = some r) : PCall Try.prog 65 [.agg [.int .i64 r1.X1, .int .i64 r1.Y1, .int .i64 r1.X2, .int .i64 r1.Y2]] (· = .bool r) := by
  rw [dref01_Rect] at h
  refine pcall_body Try.func65 rfl (by kernel_rfl) (by rfl) ?_
  refine awp_seq ?_
  refine awp_region ?_
  refine rb rfl rfl ?_
  refine rv rfl rfl ?_
  refine rn ?_
  refine awp_seq ?_
  refine awp_region ?_
  refine rvs 5 rfl ?_
  obtain ⟨a1, hx1, h⟩ := bi h
  refine rc1 rfl rfl rfl (dref01_May_l hx1) ?_
  refine rv rfl rfl ?_
  refine rn ?_
  refine awp_seq ?_
  refine awp_region ?_
  refine rvs 5 rfl ?_
  obtain ⟨b1, hx2, h⟩ := bi h
  refine rc1 rfl rfl rfl (dref01_May_l hx2) ?_
  refine rv rfl rfl ?_
  refine rn ?_
  refine awp_seq ?_
  refine awp_region ?_
  refine rvs 2 rfl ?_
  refine gs rfl rfl rfl rfl rfl (fun hg => ?_) (fun hg => ?_)
  · have h := cT hg h
    refine rv rfl rfl ?_
    refine rvs 2 rfl ?_
    refine gs rfl rfl rfl rfl rfl (fun hg => ?_) (fun hg => ?_)
    · have h := cT hg h
      refine rv rfl rfl ?_
      refine gy rfl rfl rfl ?_
      refine rv rfl rfl ?_
      refine gy rfl rfl rfl ?_
      refine rv rfl rfl ?_
      refine gy rfl rfl rfl ?_
      refine rv rfl rfl ?_
      refine gy rfl rfl rfl ?_
      refine rv rfl rfl ?_
      refine rvs 2 rfl ?_
      refine gs rfl rfl rfl rfl rfl (fun hg => ?_) (fun hg => ?_)
      · have h := cT hg h
        refine rv rfl rfl ?_
        refine gy rfl rfl rfl ?_
        refine rv rfl rfl ?_
        refine gy rfl rfl rfl ?_
        refine rv rfl rfl ?_
        refine gy rfl rfl rfl ?_
        refine rv rfl rfl ?_
        refine gy rfl rfl rfl ?_
        refine rv rfl rfl ?_
        refine rvs 2 rfl ?_
        obtain ⟨x1, hx3, h⟩ := bs h
        refine rt (eb' hx3) ?_
        refine rn ?_
        refine awp_ret ?_
        cases h
        repeat (first | refine then_ret ?_ | refine inBlock_ret ?_ | refine cut_r ?_)
        exact rr rfl rfl rfl
      · have h := cF hg h
        refine gn rfl rfl rfl rfl rfl ?_
        refine gn rfl rfl rfl rfl rfl ?_
        refine gn rfl rfl rfl rfl rfl ?_
        refine gn rfl rfl rfl rfl rfl ?_
        refine rvs 2 rfl ?_
        refine rn ?_
        refine awp_ret ?_
        cases h
        repeat (first | refine then_ret ?_ | refine inBlock_ret ?_ | refine cut_r ?_)
        exact rr rfl rfl rfl
    · have h := cF hg h
      refine gn rfl rfl rfl rfl rfl ?_
      refine gn rfl rfl rfl rfl rfl ?_
      refine gn rfl rfl rfl rfl rfl ?_
      refine gn rfl rfl rfl rfl rfl ?_
      refine rvs 2 rfl ?_
      refine gn rfl rfl rfl rfl rfl ?_
      refine gn rfl rfl rfl rfl rfl ?_
      refine gn rfl rfl rfl rfl rfl ?_
      refine gn rfl rfl rfl rfl rfl ?_
      refine gn rfl rfl rfl rfl rfl ?_
      refine rvs 2 rfl ?_
      refine rn ?_
      refine awp_ret ?_
      cases h
      repeat (first | refine then_ret ?_ | refine inBlock_ret ?_ | refine cut_r ?_)
      exact rr rfl rfl rfl
  · have h := cF hg h
    refine rvs 2 rfl ?_
    refine gn rfl rfl rfl rfl rfl ?_
    refine gn rfl rfl rfl rfl rfl ?_
    refine gn rfl rfl rfl rfl rfl ?_
    refine gn rfl rfl rfl rfl rfl ?_
    refine gn rfl rfl rfl rfl rfl ?_
    refine rvs 2 rfl ?_
    refine gn rfl rfl rfl rfl rfl ?_
    refine gn rfl rfl rfl rfl rfl ?_
    refine gn rfl rfl rfl rfl rfl ?_
    refine gn rfl rfl rfl rfl rfl ?_
    refine gn rfl rfl rfl rfl rfl ?_
    refine rvs 2 rfl ?_
    refine rn ?_
    refine awp_ret ?_
    cases h
    repeat (first | refine then_ret ?_ | refine inBlock_ret ?_ | refine cut_r ?_)
    exact rr rfl rfl rfl
end

/-- `plover/wire.attr` -/
def dwire_attr (fu : Nat) (a1 : tAttr) : Option Bool :=
  bif (decide ((a1.Name.length : Int) ≤ 200)) then (bif (decide ((a1.S.length : Int) ≤ 200)) then (bif a1.Text then (bif (a1.N == 0) then some true else (bif (!a1.Text) then some (a1.S == []) else some false)) else (bif (!a1.Text) then some (a1.S == []) else some false)) else some false) else some false
section
attribute [local irreducible] awp aops DP PCall ACall Decidable.decide
theorem dwire_attr_l {fu : Nat} {a1 : tAttr} {r : Bool} (h : dwire_attr fu a1 = some r) : PCall Try.prog 92 [.agg [.str (sB a1.Name), .bool a1.Text, .int .i64 a1.N, .str (sB a1.S)]] (· = .bool r) := by
  rw [dwire_attr] at h
  refine pcall_body Try.func92 rfl (by kernel_rfl) (by rfl) ?_
  refine awp_seq ?_
  refine awp_region ?_
  refine rb rfl rfl ?_
  refine rv rfl rfl ?_
  refine rn ?_
  refine awp_seq ?_
  refine awp_region ?_
  refine rvs 5 rfl ?_
  refine gs rfl rfl rfl rfl rfl (fun hg => ?_) (fun hg => ?_)
  · have h := cT hg h
    refine rv rfl rfl ?_
    refine gy rfl rfl rfl ?_
    refine rv rfl rfl ?_
    refine gy rfl rfl rfl ?_
    refine rv rfl rfl ?_
    refine gy rfl rfl rfl ?_
    refine rv rfl rfl ?_
    refine rvs 2 rfl ?_
    refine gs rfl rfl rfl rfl rfl (fun hg => ?_) (fun hg => ?_)
    · have h := cT hg h
      refine rv rfl rfl ?_
      refine gy rfl rfl rfl ?_
      refine rv rfl rfl ?_
      refine gy rfl rfl rfl ?_
      refine rv rfl rfl ?_
      refine gs rfl rfl rfl rfl rfl (fun hg => ?_) (fun hg => ?_)
      · have h := cT hg h
        refine rv rfl rfl ?_
        refine gy rfl rfl rfl ?_
        refine rv rfl rfl ?_
        refine gy rfl rfl rfl ?_
        refine rv rfl rfl ?_
        refine gy rfl rfl rfl ?_
        refine rv rfl rfl ?_
        refine gy rfl rfl rfl ?_
        refine rv rfl rfl ?_
        refine gs rfl rfl rfl rfl rfl (fun hg => ?_) (fun hg => ?_)
        · have h := cF hg h
          refine rv rfl rfl ?_
          refine gy rfl rfl rfl ?_
          refine rv rfl rfl ?_
          refine gy rfl rfl rfl ?_
          refine rv rfl rfl ?_
          refine gy rfl rfl rfl ?_
          refine rv rfl rfl ?_
          refine gs rfl rfl rfl rfl rfl (fun hg => ?_) (fun hg => ?_)
          · have h := cT hg h
            refine rv rfl rfl ?_
            refine gy rfl rfl rfl ?_
            refine rv rfl rfl ?_
            refine gy rfl rfl rfl ?_
            refine rv rfl rfl ?_
            refine rt (sEq a1.S []) ?_
            refine gy rfl rfl rfl ?_
            refine rv rfl rfl ?_
            refine gy rfl rfl rfl ?_
            refine rv rfl rfl ?_
            refine rvs 2 rfl ?_
            refine rn ?_
            refine awp_ret ?_
            cases h
            repeat (first | refine then_ret ?_ | refine inBlock_ret ?_ | refine cut_r ?_)
            exact rr rfl rfl rfl
          · have h := cF hg h
            refine gn rfl rfl rfl rfl rfl ?_
            refine gn rfl rfl rfl rfl rfl ?_
            refine gy rfl rfl rfl ?_
            refine rv rfl rfl ?_
            refine gy rfl rfl rfl ?_
            refine rv rfl rfl ?_
            refine rvs 2 rfl ?_
            refine rn ?_
            refine awp_ret ?_
            cases h
            repeat (first | refine then_ret ?_ | refine inBlock_ret ?_ | refine cut_r ?_)
            exact rr rfl rfl rfl
        · have h := cT hg h
          refine gn rfl rfl rfl rfl rfl ?_
          refine gn rfl rfl rfl rfl rfl ?_
          refine gn rfl rfl rfl rfl rfl ?_
          refine gu rfl rfl rfl rfl ?_
          refine gu rfl rfl rfl rfl ?_
          refine gu rfl rfl rfl rfl ?_
          refine gn rfl rfl rfl rfl rfl ?_
          refine gy rfl rfl rfl ?_
          refine rv rfl rfl ?_
          refine rvs 2 rfl ?_
          refine rn ?_
          refine awp_ret ?_
          cases h
          repeat (first | refine then_ret ?_ | refine inBlock_ret ?_ | refine cut_r ?_)
          exact rr rfl rfl rfl
      · have h := cF hg h
        refine gn rfl rfl rfl rfl rfl ?_
        refine gn rfl rfl rfl rfl rfl ?_
        refine gy rfl rfl rfl ?_
        refine rv rfl rfl ?_
        refine gy rfl rfl rfl ?_
        refine rv rfl rfl ?_
        refine gy rfl rfl rfl ?_
        refine rv rfl rfl ?_
        refine gy rfl rfl rfl ?_
        refine rv rfl rfl ?_
        refine gy rfl rfl rfl ?_
        refine rv rfl rfl ?_
        refine gy rfl rfl rfl ?_
        refine rv rfl rfl ?_
        refine gs rfl rfl rfl rfl rfl (fun hg => ?_) (fun hg => ?_)
        · have h := cT hg h
          refine rv rfl rfl ?_
          refine gy rfl rfl rfl ?_
          refine rv rfl rfl ?_
          refine gy rfl rfl rfl ?_
          refine rv rfl rfl ?_
          refine rt (sEq a1.S []) ?_
          refine gy rfl rfl rfl ?_
          refine rv rfl rfl ?_
          refine gy rfl rfl rfl ?_
          refine rv rfl rfl ?_
          refine rvs 2 rfl ?_
          refine rn ?_
          refine awp_ret ?_
          cases h
          repeat (first | refine then_ret ?_ | refine inBlock_ret ?_ | refine cut_r ?_)
          exact rr rfl rfl rfl
        · have h := cF hg h
          refine gn rfl rfl rfl rfl rfl ?_
          refine gn rfl rfl rfl rfl rfl ?_
          refine gy rfl rfl rfl ?_
          refine rv rfl rfl ?_
          refine gy rfl rfl rfl ?_
          refine rv rfl rfl ?_
          refine rvs 2 rfl ?_
          refine rn ?_
          refine awp_ret ?_
          cases h
          repeat (first | refine then_ret ?_ | refine inBlock_ret ?_ | refine cut_r ?_)
          exact rr rfl rfl rfl
    · have h := cF hg h
      refine gn rfl rfl rfl rfl rfl ?_
      refine gn rfl rfl rfl rfl rfl ?_
      refine gu rfl rfl rfl rfl ?_
      refine gu rfl rfl rfl rfl ?_
      refine gu rfl rfl rfl rfl ?_
      refine gn rfl rfl rfl rfl rfl ?_
      refine gn rfl rfl rfl rfl rfl ?_
      refine gu rfl rfl rfl rfl ?_
      refine gu rfl rfl rfl rfl ?_
      refine gu rfl rfl rfl rfl ?_
      refine gu rfl rfl rfl rfl ?_
      refine gu rfl rfl rfl rfl ?_
      refine gu rfl rfl rfl rfl ?_
      refine gu rfl rfl rfl rfl ?_
      refine gu rfl rfl rfl rfl ?_
      refine gn rfl rfl rfl rfl rfl ?_
      refine rvs 2 rfl ?_
      refine rn ?_
      refine awp_ret ?_
      cases h
      repeat (first | refine then_ret ?_ | refine inBlock_ret ?_ | refine cut_r ?_)
      exact rr rfl rfl rfl
  · have h := cF hg h
    refine gn rfl rfl rfl rfl rfl ?_
    refine gn rfl rfl rfl rfl rfl ?_
    refine gn rfl rfl rfl rfl rfl ?_
    refine rvs 2 rfl ?_
    refine gn rfl rfl rfl rfl rfl ?_
    refine gn rfl rfl rfl rfl rfl ?_
    refine gn rfl rfl rfl rfl rfl ?_
    refine gu rfl rfl rfl rfl ?_
    refine gu rfl rfl rfl rfl ?_
    refine gu rfl rfl rfl rfl ?_
    refine gn rfl rfl rfl rfl rfl ?_
    refine gn rfl rfl rfl rfl rfl ?_
    refine gu rfl rfl rfl rfl ?_
    refine gu rfl rfl rfl rfl ?_
    refine gu rfl rfl rfl rfl ?_
    refine gu rfl rfl rfl rfl ?_
    refine gu rfl rfl rfl rfl ?_
    refine gu rfl rfl rfl rfl ?_
    refine gu rfl rfl rfl rfl ?_
    refine gu rfl rfl rfl rfl ?_
    refine gn rfl rfl rfl rfl rfl ?_
    refine rvs 2 rfl ?_
    refine rn ?_
    refine awp_ret ?_
    cases h
    repeat (first | refine then_ret ?_ | refine inBlock_ret ?_ | refine cut_r ?_)
    exact rr rfl rfl rfl
end

/-- `plover/wire.few` -/
def dwire_few (fu : Nat) (n1 : Int) : Option Bool :=
  bif (decide (n1 ≥ 0)) then ((some (decide (n1 ≤ 2147483647))).bind fun x1 => some x1) else some false
section
attribute [local irreducible] awp aops DP PCall ACall Decidable.decide
theorem dwire_few_l {fu : Nat} {n1 : Int} {r : Bool} (h : dwire_few fu n1 = some r) : PCall Try.prog 72 [.int .i64 n1] (· = .bool r) := by
  rw [dwire_few] at h
  refine pcall_body Try.func72 rfl (by kernel_rfl) (by rfl) ?_
  refine awp_seq ?_
  refine awp_region ?_
  refine rv rfl rfl ?_
  refine rn ?_
  refine awp_seq ?_
  refine awp_region ?_
  refine rvs 3 rfl ?_
  refine gs rfl rfl rfl rfl rfl (fun hg => ?_) (fun hg => ?_)
  · have h := cT hg h
    refine rv rfl rfl ?_
    refine gy rfl rfl rfl ?_
    refine rv rfl rfl ?_
    refine rvs 2 rfl ?_
    obtain ⟨x1, hx1, h⟩ := bs h
    refine rt (eb' hx1) ?_
    refine rn ?_
    refine awp_ret ?_
    cases h
    repeat (first | refine then_ret ?_ | refine inBlock_ret ?_ | refine cut_r ?_)
    exact rr rfl rfl rfl
  · have h := cF hg h
    refine gn rfl rfl rfl rfl rfl ?_
    refine rvs 2 rfl ?_
    refine rn ?_
    refine awp_ret ?_
    cases h
    repeat (first | refine then_ret ?_ | refine inBlock_ret ?_ | refine cut_r ?_)
    exact rr rfl rfl rfl
end

/-- `plover/wire.event$1` -/
def dwire_event_1 (fu : Nat) (a1 : tAttr) : Option Bool :=
  (dwire_attr fu a1).bind fun x1 => some (!x1)
section
attribute [local irreducible] awp aops DP PCall ACall Decidable.decide
theorem dwire_event_1_l {fu : Nat} {a1 : tAttr} {r : Bool} (h : dwire_event_1 fu a1 = some r) : PCall Try.prog 91 [.agg [.str (sB a1.Name), .bool a1.Text, .int .i64 a1.N, .str (sB a1.S)]] (· = .bool r) := by
  rw [dwire_event_1] at h
  refine pcall_body Try.func91 rfl (by kernel_rfl) (by rfl) ?_
  refine awp_seq ?_
  refine awp_region ?_
  refine rb rfl rfl ?_
  refine rv rfl rfl ?_
  refine rn ?_
  refine awp_seq ?_
  refine awp_region ?_
  refine rv rfl rfl ?_
  obtain ⟨x1, hx1, h⟩ := bi h
  refine rc1 rfl rfl rfl (dwire_attr_l hx1) ?_
  refine rvs 2 rfl ?_
  refine rn ?_
  refine awp_ret ?_
  cases h
  repeat (first | refine then_ret ?_ | refine inBlock_ret ?_ | refine cut_r ?_)
  exact rr rfl rfl rfl
end

/-- `plover/wire.event` -/
def dwire_event (fu : Nat) (e1 : tEvent) : Option Bool :=
  (dwire_few fu e1.Pub).bind fun x1 => bif x1 then ((dpoint_May fu e1.At).bind fun x2 => bif x2 then (bif (decide ((e1.Attrs.length : Int) ≤ 16)) then ((dslices_ContainsFunc_Attr fu e1.Attrs (fun x0 => dwire_event_1 fu x0)).bind fun x3 => some (!x3)) else some false) else some false) else some false
section
attribute [local irreducible] awp aops DP PCall ACall Decidable.decide
theorem dwire_event_l {fu : Nat} {e1 : tEvent} {r : Bool} (h : dwire_event fu e1 = some r) : PCall Try.prog 75 [.agg [.int .i64 e1.Pub, .int .u32 e1.Seq, .int .i64 e1.At.X, .int .i64 e1.At.Y, .sl (e1.Attrs.map c_tAttr)]] (· = .bool r) := by
  rw [dwire_event] at h
  refine pcall_body Try.func75 rfl (by kernel_rfl) (by rfl) ?_
  refine awp_seq ?_
  refine awp_region ?_
  refine rb rfl rfl ?_
  refine rv rfl rfl ?_
  refine rn ?_
  refine awp_seq ?_
  refine awp_region ?_
  refine rv rfl rfl ?_
  refine rn ?_
  refine awp_seq ?_
  refine awp_region ?_
  refine rvs 2 rfl ?_
  obtain ⟨x1, hx1, h⟩ := bi h
  refine rc1 rfl rfl rfl (dwire_few_l hx1) ?_
  refine rv rfl rfl ?_
  refine gs rfl rfl rfl rfl rfl (fun hg => ?_) (fun hg => ?_)
  · have h := cT hg h
    refine rv rfl rfl ?_
    refine gy rfl rfl rfl ?_
    refine rv rfl rfl ?_
    refine gy rfl rfl rfl ?_
    obtain ⟨x2, hx2, h⟩ := bi h
    refine rc1 rfl rfl rfl (dpoint_May_l hx2) ?_
    refine rvs 2 rfl ?_
    refine gs rfl rfl rfl rfl rfl (fun hg => ?_) (fun hg => ?_)
    · have h := cT hg h
      refine rv rfl rfl ?_
      refine gy rfl rfl rfl ?_
      refine rv rfl rfl ?_
      refine gy rfl rfl rfl ?_
      refine rv rfl rfl ?_
      refine rt ((lM c_tAttr e1.Attrs)) ?_
      refine gy rfl rfl rfl ?_
      refine rv rfl rfl ?_
      refine rvs 2 rfl ?_
      refine gs rfl rfl rfl rfl rfl (fun hg => ?_) (fun hg => ?_)
      · have h := cT hg h
        refine rv rfl rfl ?_
        refine gy rfl rfl rfl ?_
        refine rv rfl rfl ?_
        refine gy rfl rfl rfl ?_
        refine rv rfl rfl ?_
        refine gy rfl rfl rfl ?_
        obtain ⟨x3, hx3, h⟩ := bi h
        refine rc1 rfl rfl rfl (dslices_ContainsFunc_Attr_l ⟨rfl, fun _ => rfl⟩ (fun hq => dwire_event_1_l hq) hx3) ?_
        refine gy rfl rfl rfl ?_
        refine rv rfl rfl ?_
        refine rvs 2 rfl ?_
        refine rn ?_
        refine awp_ret ?_
        cases h
        repeat (first | refine then_ret ?_ | refine inBlock_ret ?_ | refine cut_r ?_)
        exact rr rfl rfl rfl
      · have h := cF hg h
        refine gn rfl rfl rfl rfl rfl ?_
        refine gn rfl rfl rfl rfl rfl ?_
        refine gn rfl rfl rfl rfl rfl ?_
        refine gn rfl rfl rfl rfl rfl ?_
        refine rvs 2 rfl ?_
        refine rn ?_
        refine awp_ret ?_
        cases h
        repeat (first | refine then_ret ?_ | refine inBlock_ret ?_ | refine cut_r ?_)
        exact rr rfl rfl rfl
    · have h := cF hg h
      refine gn rfl rfl rfl rfl rfl ?_
      refine gn rfl rfl rfl rfl rfl ?_
      refine gn rfl rfl rfl rfl rfl ?_
      refine rvs 2 rfl ?_
      refine gn rfl rfl rfl rfl rfl ?_
      refine gn rfl rfl rfl rfl rfl ?_
      refine gn rfl rfl rfl rfl rfl ?_
      refine gn rfl rfl rfl rfl rfl ?_
      refine gn rfl rfl rfl rfl rfl ?_
      refine rvs 2 rfl ?_
      refine rn ?_
      refine awp_ret ?_
      cases h
      repeat (first | refine then_ret ?_ | refine inBlock_ret ?_ | refine cut_r ?_)
      exact rr rfl rfl rfl
  · have h := cF hg h
    refine gn rfl rfl rfl rfl rfl ?_
    refine gn rfl rfl rfl rfl rfl ?_
    refine rvs 2 rfl ?_
    refine gn rfl rfl rfl rfl rfl ?_
    refine gn rfl rfl rfl rfl rfl ?_
    refine gn rfl rfl rfl rfl rfl ?_
    refine gn rfl rfl rfl rfl rfl ?_
    refine rvs 2 rfl ?_
    refine gn rfl rfl rfl rfl rfl ?_
    refine gn rfl rfl rfl rfl rfl ?_
    refine gn rfl rfl rfl rfl rfl ?_
    refine gn rfl rfl rfl rfl rfl ?_
    refine gn rfl rfl rfl rfl rfl ?_
    refine rvs 2 rfl ?_
    refine rn ?_
    refine awp_ret ?_
    cases h
    repeat (first | refine then_ret ?_ | refine inBlock_ret ?_ | refine cut_r ?_)
    exact rr rfl rfl rfl
end

/-- `plover/wire.none` -/
def dwire_none (fu : Nat) (e1 : tEvent) : Option Bool :=
  bif (e1.Pub == 0) then (bif (e1.Seq == 0) then (bif ((e1.At.X == 0) && ((e1.At.Y == 0) && true)) then ((some ((e1.Attrs.length : Int) == 0)).bind fun x1 => some x1) else some false) else some false) else some false
section
attribute [local irreducible] awp aops DP PCall ACall Decidable.decide
theorem dwire_none_l {fu : Nat} {e1 : tEvent} {r : Bool} (h : dwire_none fu e1 = some r) : PCall Try.prog 74 [.agg [.int .i64 e1.Pub, .int .u32 e1.Seq, .int .i64 e1.At.X, .int .i64 e1.At.Y, .sl (e1.Attrs.map c_tAttr)]] (· = .bool r) := by
  rw [dwire_none] at h
  refine pcall_body Try.func74 rfl (by kernel_rfl) (by rfl) ?_
  refine awp_seq ?_
  refine awp_region ?_
  refine rb rfl rfl ?_
  refine rv rfl rfl ?_
  refine rn ?_
  refine awp_seq ?_
  refine awp_region ?_
  refine rvs 4 rfl ?_
  refine gs rfl rfl rfl rfl rfl (fun hg => ?_) (fun hg => ?_)
  · have h := cT hg h
    refine rv rfl rfl ?_
    refine gy rfl rfl rfl ?_
    refine rv rfl rfl ?_
    refine gy rfl rfl rfl ?_
    refine rv rfl rfl ?_
    refine rvs 2 rfl ?_
    refine gs rfl rfl rfl rfl rfl (fun hg => ?_) (fun hg => ?_)
    · have h := cT hg h
      refine rv rfl rfl ?_
      refine gy rfl rfl rfl ?_
      refine rv rfl rfl ?_
      refine gy rfl rfl rfl ?_
      refine rv rfl rfl ?_
      refine gy rfl rfl rfl ?_
      refine rv rfl rfl ?_
      refine rvs 2 rfl ?_
      refine gs rfl rfl rfl rfl rfl (fun hg => ?_) (fun hg => ?_)
      · have h := cT hg h
        refine rv rfl rfl ?_
        refine gy rfl rfl rfl ?_
        refine rv rfl rfl ?_
        refine gy rfl rfl rfl ?_
        refine rv rfl rfl ?_
        refine rt ((lM c_tAttr e1.Attrs)) ?_
        refine gy rfl rfl rfl ?_
        refine rv rfl rfl ?_
        refine rvs 2 rfl ?_
        obtain ⟨x1, hx1, h⟩ := bs h
        refine rt (eb' hx1) ?_
        refine rn ?_
        refine awp_ret ?_
        cases h
        repeat (first | refine then_ret ?_ | refine inBlock_ret ?_ | refine cut_r ?_)
        exact rr rfl rfl rfl
      · have h := cF hg h
        refine gn rfl rfl rfl rfl rfl ?_
        refine gn rfl rfl rfl rfl rfl ?_
        refine gn rfl rfl rfl rfl rfl ?_
        refine rvs 2 rfl ?_
        refine rn ?_
        refine awp_ret ?_
        cases h
        repeat (first | refine then_ret ?_ | refine inBlock_ret ?_ | refine cut_r ?_)
        exact rr rfl rfl rfl
    · have h := cF hg h
      refine gn rfl rfl rfl rfl rfl ?_
      refine gn rfl rfl rfl rfl rfl ?_
      refine gn rfl rfl rfl rfl rfl ?_
      refine rvs 2 rfl ?_
      refine gn rfl rfl rfl rfl rfl ?_
      refine gn rfl rfl rfl rfl rfl ?_
      refine gn rfl rfl rfl rfl rfl ?_
      refine gn rfl rfl rfl rfl rfl ?_
      refine rvs 2 rfl ?_
      refine rn ?_
      refine awp_ret ?_
      cases h
      repeat (first | refine then_ret ?_ | refine inBlock_ret ?_ | refine cut_r ?_)
      exact rr rfl rfl rfl
  · have h := cF hg h
    refine gn rfl rfl rfl rfl rfl ?_
    refine gn rfl rfl rfl rfl rfl ?_
    refine rvs 2 rfl ?_
    refine gn rfl rfl rfl rfl rfl ?_
    refine gn rfl rfl rfl rfl rfl ?_
    refine gn rfl rfl rfl rfl rfl ?_
    refine gn rfl rfl rfl rfl rfl ?_
    refine rvs 2 rfl ?_
    refine gn rfl rfl rfl rfl rfl ?_
    refine gn rfl rfl rfl rfl rfl ?_
    refine gn rfl rfl rfl rfl rfl ?_
    refine gn rfl rfl rfl rfl rfl ?_
    refine rvs 2 rfl ?_
    refine rn ?_
    refine awp_ret ?_
    cases h
    repeat (first | refine then_ret ?_ | refine inBlock_ret ?_ | refine cut_r ?_)
    exact rr rfl rfl rfl
end

/-- `plover/wire.May` -/
def dwire_May (fu : Nat) (m1 : tMsg) : Option Bool :=
  ((dwire_few fu m1.Sub).bind fun x2 => bif (!x2) then some true else ((dwire_few fu m1.Version).bind fun x3 => bif (!x3) then some true else ((dwire_few fu m1.Home).bind fun x4 => bif (!x4) then some true else some (decide ((m1.Filter.length : Int) > 500)))) : Option Bool).bind fun (x1 : Bool) => (bif x1 then some false else ((bif (m1.Home == 0) then (bif ((m1.Rect.X1 == 0) && ((m1.Rect.Y1 == 0) && ((m1.Rect.X2 == 0) && ((m1.Rect.Y2 == 0) && true)))) then some (m1.Filter == []) else some false) else some false : Option Bool).bind fun (bare1 : Bool) => (bif (m1.Kind == 1) then ((drect_May fu m1.Rect).bind fun x5 => bif x5 then ((dwire_none fu m1.Event).bind fun x6 => some x6) else some false) else (bif (m1.Kind == 2) then (bif bare1 then ((dwire_none fu m1.Event).bind fun x7 => some x7) else some false) else (bif (m1.Kind == 3) then (bif bare1 then (bif (m1.Sub == 0) then (bif (m1.Version == 0) then ((dwire_event fu m1.Event).bind fun x8 => some x8) else some false) else some false) else some false) else (bif (m1.Kind == 4) then (bif bare1 then (bif (m1.Version == 0) then ((dwire_event fu m1.Event).bind fun x9 => some x9) else some false) else some false) else some false))))))
section
attribute [local irreducible] awp aops DP PCall ACall Decidable.decide
theorem dwire_May_l {fu : Nat} {m1 : tMsg} {r : Bool} (h : dwire_May fu m1 = some r) : PCall Try.prog 40 [.agg [.int .i64 m1.Kind, .int .i64 m1.Sub, .int .i64 m1.Version, .int .i64 m1.Home, .int .i64 m1.Rect.X1, .int .i64 m1.Rect.Y1, .int .i64 m1.Rect.X2, .int .i64 m1.Rect.Y2, .str (sB m1.Filter), .int .i64 m1.Event.Pub, .int .u32 m1.Event.Seq, .int .i64 m1.Event.At.X, .int .i64 m1.Event.At.Y, .sl (m1.Event.Attrs.map c_tAttr)]] (· = .bool r) := by
  rw [dwire_May] at h
  refine pcall_body Try.func40 rfl (by kernel_rfl) (by rfl) ?_
  refine awp_seq ?_
  refine awp_region ?_
  refine rb rfl rfl ?_
  refine rv rfl rfl ?_
  refine rn ?_
  refine awp_seq ?_
  refine awp_seq ?_
  obtain ⟨o1, ho2, h⟩ := bi h
  refine awp_cut1 (fun x => x = o1) (fun (x1 : Bool) => ⟨[(1, .ptr 0 0), (25, .bool x1)], [(0, 0, .int .i64 m1.Kind), (0, 1, .int .i64 m1.Sub), (0, 2, .int .i64 m1.Version), (0, 3, .int .i64 m1.Home), (0, 4, .int .i64 m1.Rect.X1), (0, 5, .int .i64 m1.Rect.Y1), (0, 6, .int .i64 m1.Rect.X2), (0, 7, .int .i64 m1.Rect.Y2), (0, 8, .str (sB m1.Filter)), (0, 9, .int .i64 m1.Event.Pub), (0, 10, .int .u32 m1.Event.Seq), (0, 11, .int .i64 m1.Event.At.X), (0, 12, .int .i64 m1.Event.At.Y), (0, 13, .sl (m1.Event.Attrs.map c_tAttr))], [], 1⟩) ?_ ?_
  · refine awp_region ?_
    refine rvs 2 rfl ?_
    obtain ⟨x2, hx3, ho2⟩ := bi ho2
    refine rc1 rfl rfl rfl (dwire_few_l hx3) ?_
    refine rvs 2 rfl ?_
    refine gs rfl rfl rfl rfl rfl (fun hg => ?_) (fun hg => ?_)
    · have ho2 := cF hg ho2
      refine rv rfl rfl ?_
      refine gy rfl rfl rfl ?_
      refine rv rfl rfl ?_
      refine gy rfl rfl rfl ?_
      obtain ⟨x3, hx4, ho2⟩ := bi ho2
      refine rc1 rfl rfl rfl (dwire_few_l hx4) ?_
      refine gy rfl rfl rfl ?_
      refine rv rfl rfl ?_
      refine rvs 2 rfl ?_
      refine gs rfl rfl rfl rfl rfl (fun hg => ?_) (fun hg => ?_)
      · have ho2 := cF hg ho2
        refine rv rfl rfl ?_
        refine gy rfl rfl rfl ?_
        refine rv rfl rfl ?_
        refine gy rfl rfl rfl ?_
        obtain ⟨x4, hx5, ho2⟩ := bi ho2
        refine rc1 rfl rfl rfl (dwire_few_l hx5) ?_
        refine gy rfl rfl rfl ?_
        refine rv rfl rfl ?_
        refine rvs 2 rfl ?_
        refine gs rfl rfl rfl rfl rfl (fun hg => ?_) (fun hg => ?_)
        · have ho2 := cF hg ho2
          refine rv rfl rfl ?_
          refine gy rfl rfl rfl ?_
          refine rv rfl rfl ?_
          refine gy rfl rfl rfl ?_
          refine rv rfl rfl ?_
          refine gy rfl rfl rfl ?_
          refine rv rfl rfl ?_
          refine rv rfl rfl ?_
          refine rn ?_
          cases ho2
          exact cut_n [0] rfl rfl ⟨rfl, rfl, zA rfl rfl rfl (zA rfl rfl rfl (trivial)), zC rfl rfl rfl rfl (zC rfl rfl rfl rfl (zC rfl rfl rfl rfl (zC rfl rfl rfl rfl (zC rfl rfl rfl rfl (zC rfl rfl rfl rfl (zC rfl rfl rfl rfl (zC rfl rfl rfl rfl (zC rfl rfl rfl rfl (zC rfl rfl rfl rfl (zC rfl rfl rfl rfl (zC rfl rfl rfl rfl (zC rfl rfl rfl rfl (zC rfl rfl rfl rfl (trivial)))))))))))))), trivial⟩
        · have ho2 := cT hg ho2
          refine gn rfl rfl rfl rfl rfl ?_
          refine gn rfl rfl rfl rfl rfl ?_
          refine gn rfl rfl rfl rfl rfl ?_
          refine rv rfl rfl ?_
          refine rn ?_
          cases ho2
          exact cut_n [0] rfl rfl ⟨rfl, rfl, zA rfl rfl rfl (zA rfl rfl rfl (trivial)), zC rfl rfl rfl rfl (zC rfl rfl rfl rfl (zC rfl rfl rfl rfl (zC rfl rfl rfl rfl (zC rfl rfl rfl rfl (zC rfl rfl rfl rfl (zC rfl rfl rfl rfl (zC rfl rfl rfl rfl (zC rfl rfl rfl rfl (zC rfl rfl rfl rfl (zC rfl rfl rfl rfl (zC rfl rfl rfl rfl (zC rfl rfl rfl rfl (zC rfl rfl rfl rfl (trivial)))))))))))))), trivial⟩
      · have ho2 := cT hg ho2
        refine gn rfl rfl rfl rfl rfl ?_
        refine gn rfl rfl rfl rfl rfl ?_
        refine gn rfl rfl rfl rfl rfl ?_
        refine rvs 2 rfl ?_
        refine gn rfl rfl rfl rfl rfl ?_
        refine gn rfl rfl rfl rfl rfl ?_
        refine gn rfl rfl rfl rfl rfl ?_
        refine gn rfl rfl rfl rfl rfl ?_
        refine rv rfl rfl ?_
        refine rn ?_
        cases ho2
        exact cut_n [0] rfl rfl ⟨rfl, rfl, zA rfl rfl rfl (zA rfl rfl rfl (trivial)), zC rfl rfl rfl rfl (zC rfl rfl rfl rfl (zC rfl rfl rfl rfl (zC rfl rfl rfl rfl (zC rfl rfl rfl rfl (zC rfl rfl rfl rfl (zC rfl rfl rfl rfl (zC rfl rfl rfl rfl (zC rfl rfl rfl rfl (zC rfl rfl rfl rfl (zC rfl rfl rfl rfl (zC rfl rfl rfl rfl (zC rfl rfl rfl rfl (zC rfl rfl rfl rfl (trivial)))))))))))))), trivial⟩
    · have ho2 := cT hg ho2
      refine gn rfl rfl rfl rfl rfl ?_
      refine gn rfl rfl rfl rfl rfl ?_
      refine gn rfl rfl rfl rfl rfl ?_
      refine rvs 2 rfl ?_
      refine gn rfl rfl rfl rfl rfl ?_
      refine gn rfl rfl rfl rfl rfl ?_
      refine gn rfl rfl rfl rfl rfl ?_
      refine gn rfl rfl rfl rfl rfl ?_
      refine rvs 2 rfl ?_
      refine gn rfl rfl rfl rfl rfl ?_
      refine gn rfl rfl rfl rfl rfl ?_
      refine gn rfl rfl rfl rfl rfl ?_
      refine gn rfl rfl rfl rfl rfl ?_
      refine rv rfl rfl ?_
      refine rn ?_
      cases ho2
      exact cut_n [0] rfl rfl ⟨rfl, rfl, zA rfl rfl rfl (zA rfl rfl rfl (trivial)), zC rfl rfl rfl rfl (zC rfl rfl rfl rfl (zC rfl rfl rfl rfl (zC rfl rfl rfl rfl (zC rfl rfl rfl rfl (zC rfl rfl rfl rfl (zC rfl rfl rfl rfl (zC rfl rfl rfl rfl (zC rfl rfl rfl rfl (zC rfl rfl rfl rfl (zC rfl rfl rfl rfl (zC rfl rfl rfl rfl (zC rfl rfl rfl rfl (zC rfl rfl rfl rfl (trivial)))))))))))))), trivial⟩
  · rintro x1 rfl
    change awp _ _ _ _ _ ⟨_, _, _, _⟩
    refine cs_ rfl (fun hc => ?_) (fun hc => ?_)
    · have h := cT hc h
      refine awp_seq ?_
      refine awp_region ?_
      refine rv rfl rfl ?_
      refine rn ?_
      refine awp_ret ?_
      cases h
      repeat (first | refine then_ret ?_ | refine inBlock_ret ?_ | refine cut_r ?_)
      exact rr rfl rfl rfl
    · have h := cF hc h
      refine awp_skip ?_
      refine awp_seq ?_
      obtain ⟨o6, ho7, h⟩ := bi h
      refine awp_cut1 (fun x => x = o6) (fun (bare1 : Bool) => ⟨[(1, .ptr 0 0), (3, .bool bare1)], [(0, 0, .int .i64 m1.Kind), (0, 1, .int .i64 m1.Sub), (0, 2, .int .i64 m1.Version), (0, 3, .int .i64 m1.Home), (0, 4, .int .i64 m1.Rect.X1), (0, 5, .int .i64 m1.Rect.Y1), (0, 6, .int .i64 m1.Rect.X2), (0, 7, .int .i64 m1.Rect.Y2), (0, 8, .str (sB m1.Filter)), (0, 9, .int .i64 m1.Event.Pub), (0, 10, .int .u32 m1.Event.Seq), (0, 11, .int .i64 m1.Event.At.X), (0, 12, .int .i64 m1.Event.At.Y), (0, 13, .sl (m1.Event.Attrs.map c_tAttr))], [], 1⟩) ?_ ?_
      · refine awp_region ?_
        refine rvs 4 rfl ?_
        refine gs rfl rfl rfl rfl rfl (fun hg => ?_) (fun hg => ?_)
        · have ho7 := cT hg ho7
          refine rv rfl rfl ?_
          refine gy rfl rfl rfl ?_
          refine rv rfl rfl ?_
          refine gy rfl rfl rfl ?_
          refine rv rfl rfl ?_
          refine gy rfl rfl rfl ?_
          refine rv rfl rfl ?_
          refine rvs 2 rfl ?_
          refine gs rfl rfl rfl rfl rfl (fun hg => ?_) (fun hg => ?_)
          · have ho7 := cT hg ho7
            refine rv rfl rfl ?_
            refine gy rfl rfl rfl ?_
            refine rv rfl rfl ?_
            refine gy rfl rfl rfl ?_
            refine rv rfl rfl ?_
            refine rt (sEq m1.Filter []) ?_
            refine rvs 2 rfl ?_
            refine rn ?_
            cases ho7
            exact cut_n [0] rfl rfl ⟨rfl, rfl, zA rfl rfl rfl (zA rfl rfl rfl (trivial)), zC rfl rfl rfl rfl (zC rfl rfl rfl rfl (zC rfl rfl rfl rfl (zC rfl rfl rfl rfl (zC rfl rfl rfl rfl (zC rfl rfl rfl rfl (zC rfl rfl rfl rfl (zC rfl rfl rfl rfl (zC rfl rfl rfl rfl (zC rfl rfl rfl rfl (zC rfl rfl rfl rfl (zC rfl rfl rfl rfl (zC rfl rfl rfl rfl (zC rfl rfl rfl rfl (trivial)))))))))))))), trivial⟩
          · have ho7 := cF hg ho7
            refine gn rfl rfl rfl rfl rfl ?_
            refine gn rfl rfl rfl rfl rfl ?_
            refine rvs 2 rfl ?_
            refine rn ?_
            cases ho7
            exact cut_n [0] rfl rfl ⟨rfl, rfl, zA rfl rfl rfl (zA rfl rfl rfl (trivial)), zC rfl rfl rfl rfl (zC rfl rfl rfl rfl (zC rfl rfl rfl rfl (zC rfl rfl rfl rfl (zC rfl rfl rfl rfl (zC rfl rfl rfl rfl (zC rfl rfl rfl rfl (zC rfl rfl rfl rfl (zC rfl rfl rfl rfl (zC rfl rfl rfl rfl (zC rfl rfl rfl rfl (zC rfl rfl rfl rfl (zC rfl rfl rfl rfl (zC rfl rfl rfl rfl (trivial)))))))))))))), trivial⟩
        · have ho7 := cF hg ho7
          refine gn rfl rfl rfl rfl rfl ?_
          refine gn rfl rfl rfl rfl rfl ?_
          refine gn rfl rfl rfl rfl rfl ?_
          refine rvs 2 rfl ?_
          refine gn rfl rfl rfl rfl rfl ?_
          refine gn rfl rfl rfl rfl rfl ?_
          refine gn rfl rfl rfl rfl rfl ?_
          refine rvs 2 rfl ?_
          refine rn ?_
          cases ho7
          exact cut_n [0] rfl rfl ⟨rfl, rfl, zA rfl rfl rfl (zA rfl rfl rfl (trivial)), zC rfl rfl rfl rfl (zC rfl rfl rfl rfl (zC rfl rfl rfl rfl (zC rfl rfl rfl rfl (zC rfl rfl rfl rfl (zC rfl rfl rfl rfl (zC rfl rfl rfl rfl (zC rfl rfl rfl rfl (zC rfl rfl rfl rfl (zC rfl rfl rfl rfl (zC rfl rfl rfl rfl (zC rfl rfl rfl rfl (zC rfl rfl rfl rfl (zC rfl rfl rfl rfl (trivial)))))))))))))), trivial⟩
      · rintro bare1 rfl
        change awp _ _ _ _ _ ⟨_, _, _, _⟩
        refine awp_seq ?_
        refine awp_seq ?_
        refine awp_region ?_
        refine rvs 2 rfl ?_
        refine rn ?_
        refine awp_block ?_
        refine awp_seq ?_
        refine awp_region ?_
        refine rvs 2 rfl ?_
        refine rn ?_
        refine cs_ rfl (fun hc => ?_) (fun hc => ?_)
        · have h := cT hc h
          refine awp_seq ?_
          refine awp_region ?_
          refine rvs 2 rfl ?_
          obtain ⟨x5, hx8, h⟩ := bi h
          refine rc1 rfl rfl rfl (drect_May_l hx8) ?_
          refine rv rfl rfl ?_
          refine gs rfl rfl rfl rfl rfl (fun hg => ?_) (fun hg => ?_)
          · have h := cT hg h
            refine rv rfl rfl ?_
            refine gy rfl rfl rfl ?_
            refine rv rfl rfl ?_
            refine gy rfl rfl rfl ?_
            obtain ⟨x6, hx9, h⟩ := bi h
            refine rc1 rfl rfl rfl (dwire_none_l hx9) ?_
            refine rvs 2 rfl ?_
            refine rn ?_
            refine awp_ret ?_
            cases h
            repeat (first | refine then_ret ?_ | refine inBlock_ret ?_ | refine cut_r ?_)
            exact rr rfl rfl rfl
          · have h := cF hg h
            refine gn rfl rfl rfl rfl rfl ?_
            refine gn rfl rfl rfl rfl rfl ?_
            refine rvs 2 rfl ?_
            refine rn ?_
            refine awp_ret ?_
            cases h
            repeat (first | refine then_ret ?_ | refine inBlock_ret ?_ | refine cut_r ?_)
            exact rr rfl rfl rfl
        · have h := cF hc h
          refine awp_seq ?_
          refine awp_region ?_
          refine rvs 2 rfl ?_
          refine rn ?_
          refine cs_ rfl (fun hc => ?_) (fun hc => ?_)
          · have h := cT hc h
            refine awp_seq ?_
            refine awp_region ?_
            refine rvs 2 rfl ?_
            refine gs rfl rfl rfl rfl rfl (fun hg => ?_) (fun hg => ?_)
            · have h := cT hg h
              refine rv rfl rfl ?_
              refine gy rfl rfl rfl ?_
              refine rv rfl rfl ?_
              refine gy rfl rfl rfl ?_
              obtain ⟨x7, hx10, h⟩ := bi h
              refine rc1 rfl rfl rfl (dwire_none_l hx10) ?_
              refine rvs 2 rfl ?_
              refine rn ?_
              refine awp_ret ?_
              cases h
              repeat (first | refine then_ret ?_ | refine inBlock_ret ?_ | refine cut_r ?_)
              exact rr rfl rfl rfl
            · have h := cF hg h
              refine gn rfl rfl rfl rfl rfl ?_
              refine gn rfl rfl rfl rfl rfl ?_
              refine rvs 2 rfl ?_
              refine rn ?_
              refine awp_ret ?_
              cases h
              repeat (first | refine then_ret ?_ | refine inBlock_ret ?_ | refine cut_r ?_)
              exact rr rfl rfl rfl
          · have h := cF hc h
            refine awp_seq ?_
            refine awp_region ?_
            refine rvs 2 rfl ?_
            refine rn ?_
            refine cs_ rfl (fun hc => ?_) (fun hc => ?_)
            · have h := cT hc h
              refine awp_seq ?_
              refine awp_region ?_
              refine rvs 2 rfl ?_
              refine gs rfl rfl rfl rfl rfl (fun hg => ?_) (fun hg => ?_)
              · have h := cT hg h
                refine rv rfl rfl ?_
                refine gy rfl rfl rfl ?_
                refine rv rfl rfl ?_
                refine gy rfl rfl rfl ?_
                refine rv rfl rfl ?_
                refine rvs 2 rfl ?_
                refine gs rfl rfl rfl rfl rfl (fun hg => ?_) (fun hg => ?_)
                · have h := cT hg h
                  refine rv rfl rfl ?_
                  refine gy rfl rfl rfl ?_
                  refine rv rfl rfl ?_
                  refine gy rfl rfl rfl ?_
                  refine rv rfl rfl ?_
                  refine rvs 2 rfl ?_
                  refine gs rfl rfl rfl rfl rfl (fun hg => ?_) (fun hg => ?_)
                  · have h := cT hg h
                    refine rv rfl rfl ?_
                    refine gy rfl rfl rfl ?_
                    refine rv rfl rfl ?_
                    refine gy rfl rfl rfl ?_
                    obtain ⟨x8, hx11, h⟩ := bi h
                    refine rc1 rfl rfl rfl (dwire_event_l hx11) ?_
                    refine rvs 2 rfl ?_
                    refine rn ?_
                    refine awp_ret ?_
                    cases h
                    repeat (first | refine then_ret ?_ | refine inBlock_ret ?_ | refine cut_r ?_)
                    exact rr rfl rfl rfl
                  · have h := cF hg h
                    refine gn rfl rfl rfl rfl rfl ?_
                    refine gn rfl rfl rfl rfl rfl ?_
                    refine rvs 2 rfl ?_
                    refine rn ?_
                    refine awp_ret ?_
                    cases h
                    repeat (first | refine then_ret ?_ | refine inBlock_ret ?_ | refine cut_r ?_)
                    exact rr rfl rfl rfl
                · have h := cF hg h
                  refine gn rfl rfl rfl rfl rfl ?_
                  refine gn rfl rfl rfl rfl rfl ?_
                  refine rvs 2 rfl ?_
                  refine gn rfl rfl rfl rfl rfl ?_
                  refine gn rfl rfl rfl rfl rfl ?_
                  refine gn rfl rfl rfl rfl rfl ?_
                  refine rvs 2 rfl ?_
                  refine rn ?_
                  refine awp_ret ?_
                  cases h
                  repeat (first | refine then_ret ?_ | refine inBlock_ret ?_ | refine cut_r ?_)
                  exact rr rfl rfl rfl
              · have h := cF hg h
                refine gn rfl rfl rfl rfl rfl ?_
                refine gn rfl rfl rfl rfl rfl ?_
                refine rvs 2 rfl ?_
                refine gn rfl rfl rfl rfl rfl ?_
                refine gn rfl rfl rfl rfl rfl ?_
                refine gn rfl rfl rfl rfl rfl ?_
                refine rvs 2 rfl ?_
                refine gn rfl rfl rfl rfl rfl ?_
                refine gn rfl rfl rfl rfl rfl ?_
                refine gn rfl rfl rfl rfl rfl ?_
                refine rvs 2 rfl ?_
                refine rn ?_
                refine awp_ret ?_
                cases h
                repeat (first | refine then_ret ?_ | refine inBlock_ret ?_ | refine cut_r ?_)
                exact rr rfl rfl rfl
            · have h := cF hc h
              refine awp_seq ?_
              refine awp_region ?_
              refine rvs 2 rfl ?_
              refine rn ?_
              refine cs_ rfl (fun hc => ?_) (fun hc => ?_)
              · have h := cT hc h
                refine awp_seq ?_
                refine awp_region ?_
                refine rvs 2 rfl ?_
                refine gs rfl rfl rfl rfl rfl (fun hg => ?_) (fun hg => ?_)
                · have h := cT hg h
                  refine rv rfl rfl ?_
                  refine gy rfl rfl rfl ?_
                  refine rv rfl rfl ?_
                  refine gy rfl rfl rfl ?_
                  refine rv rfl rfl ?_
                  refine rvs 2 rfl ?_
                  refine gs rfl rfl rfl rfl rfl (fun hg => ?_) (fun hg => ?_)
                  · have h := cT hg h
                    refine rv rfl rfl ?_
                    refine gy rfl rfl rfl ?_
                    refine rv rfl rfl ?_
                    refine gy rfl rfl rfl ?_
                    obtain ⟨x9, hx12, h⟩ := bi h
                    refine rc1 rfl rfl rfl (dwire_event_l hx12) ?_
                    refine rvs 2 rfl ?_
                    refine rn ?_
                    refine awp_ret ?_
                    cases h
                    repeat (first | refine then_ret ?_ | refine inBlock_ret ?_ | refine cut_r ?_)
                    exact rr rfl rfl rfl
                  · have h := cF hg h
                    refine gn rfl rfl rfl rfl rfl ?_
                    refine gn rfl rfl rfl rfl rfl ?_
                    refine rvs 2 rfl ?_
                    refine rn ?_
                    refine awp_ret ?_
                    cases h
                    repeat (first | refine then_ret ?_ | refine inBlock_ret ?_ | refine cut_r ?_)
                    exact rr rfl rfl rfl
                · have h := cF hg h
                  refine gn rfl rfl rfl rfl rfl ?_
                  refine gn rfl rfl rfl rfl rfl ?_
                  refine rvs 2 rfl ?_
                  refine gn rfl rfl rfl rfl rfl ?_
                  refine gn rfl rfl rfl rfl rfl ?_
                  refine gn rfl rfl rfl rfl rfl ?_
                  refine rvs 2 rfl ?_
                  refine rn ?_
                  refine awp_ret ?_
                  cases h
                  repeat (first | refine then_ret ?_ | refine inBlock_ret ?_ | refine cut_r ?_)
                  exact rr rfl rfl rfl
              · have h := cF hc h
                refine awp_skip ?_
                refine inBlock_normal ?_
                refine awp_seq ?_
                refine awp_region ?_
                refine rv rfl rfl ?_
                refine rn ?_
                refine awp_ret ?_
                cases h
                repeat (first | refine then_ret ?_ | refine inBlock_ret ?_ | refine cut_r ?_)
                exact rr rfl rfl rfl
end

/-- `slices.Equal[[]plover/api.Attr,plover/api.Attr]` -/
def dslices_Equal_Attr (fu : Nat) (s11 : List tAttr) (s21 : List tAttr) : Option Bool :=
  bif ((s11.length : Int) != (s21.length : Int)) then some false else ((loopD (ε := Int) (τ := Unit ⊕ Bool) (fun (x1 : Int) => (bif (decide (x1 < (s11.length : Int))) then ((gi s11 x1).bind fun x3 => (gi s21 x1).bind fun x4 => bif (!((x3.Name == x4.Name) && ((x3.Text == x4.Text) && ((x3.N == x4.N) && ((x3.S == x4.S) && true))))) then some (Sum.inr (Sum.inr false)) else some (Sum.inl (W (x1 + 1)))) else some (Sum.inr (Sum.inl ())))) fu 0).bind fun o => kS o fun (_ : Unit) => some true)
section
attribute [local irreducible] awp aops DP PCall ACall Decidable.decide
theorem dslices_Equal_Attr_l {fu : Nat} {s11 : List tAttr} {s21 : List tAttr} {r : Bool} (h : dslices_Equal_Attr fu s11 s21 = some r) : PCall Try.prog 93 [.sl (s11.map c_tAttr), .sl (s21.map c_tAttr)] (· = .bool r) := by
  rw [dslices_Equal_Attr] at h
  refine pcall_body Try.func93 rfl (by kernel_rfl) (by rfl) ?_
  refine awp_seq ?_
  refine awp_region ?_
  refine rv rfl rfl ?_
  refine rn ?_
  refine awp_seq ?_
  refine awp_seq ?_
  refine awp_region ?_
  refine rv rfl rfl ?_
  refine rv rfl rfl ?_
  refine rt ((lM c_tAttr s11)) ?_
  refine rv rfl rfl ?_
  refine rv rfl rfl ?_
  refine rt ((lM c_tAttr s21)) ?_
  refine rv rfl rfl ?_
  refine rn ?_
  refine cs_ rfl (fun hc => ?_) (fun hc => ?_)
  · have h := cT hc h
    refine awp_seq ?_
    refine awp_region ?_
    refine rv rfl rfl ?_
    refine rn ?_
    refine awp_ret ?_
    cases h
    repeat (first | refine then_ret ?_ | refine inBlock_ret ?_ | refine cut_r ?_)
    exact rr rfl rfl rfl
  · have h := cF hc h
    refine awp_skip ?_
    refine awp_seq ?_
    refine awp_seq ?_
    refine awp_region ?_
    refine rv rfl rfl ?_
    refine rv rfl rfl ?_
    refine rt ((lM c_tAttr s11)) ?_
    refine rv rfl rfl ?_
    refine rn ?_
    obtain ⟨e1, hl2, h⟩ := bi h
    refine awp_cut1 (fun x => Sum.inl x = e1) (fun (_ : Unit) => ⟨[], [], [], 0⟩) ?_ ?_
    · refine awp_block ?_
      refine awp_loopD hl2 (fun (x1 : Int) => ⟨[(0, .sl (s11.map c_tAttr)), (1, .sl (s21.map c_tAttr)), (12, .int .i64 (s11.length : Int)), (13, .int .i64 x1)], [], [], 0⟩) [] rfl ⟨rfl, rfl, zA rfl rfl rfl (zA rfl rfl rfl (zA rfl rfl rfl (zA rfl rfl rfl (trivial)))), trivial, trivial⟩ ?_
      intro x1 o5 ho3 hE4
      change awp _ _ _ _ _ ⟨_, _, _, _⟩
      refine awp_seq ?_
      refine awp_region ?_
      refine rv rfl rfl ?_
      refine rn ?_
      refine awp_seq ?_
      refine cs_ rfl (fun hc => ?_) (fun hc => ?_)
      · have ho3 := cT hc ho3
        refine awp_skip ?_
        refine awp_seq ?_
        refine awp_block ?_
        refine awp_seq ?_
        refine awp_region ?_
        refine rvs 2 rfl ?_
        refine rn ?_
        refine awp_seq ?_
        refine awp_dp (m := 9) Try.mix (by kernel_rfl) (by kernel_rfl) (by kernel_rfl) (by kernel_rfl) (by kernel_rfl) (by kernel_rfl) (by kernel_rfl) ?_
        refine dv rfl rfl (fun _ => rfl) ?_
        refine dv rfl rfl (fun _ => rfl) ?_
        obtain ⟨x3, hx6, ho3⟩ := bi ho3
        refine di rfl rfl rfl rfl rfl (fun _ => rfl) rfl (gi0 hx6) (giM c_tAttr hx6) (wM (fun _ => by rfl) _) ?_
        refine dv rfl rfl (fun _ => rfl) ?_
        refine dv rfl rfl (fun _ => rfl) ?_
        refine dv rfl rfl (fun _ => rfl) ?_
        obtain ⟨x4, hx7, ho3⟩ := bi ho3
        refine di rfl rfl rfl rfl rfl (fun _ => rfl) rfl (gi0 hx7) (giM c_tAttr hx7) (wM (fun _ => by rfl) _) ?_
        refine dv rfl rfl (fun _ => rfl) ?_
        refine dv rfl rfl (fun _ => rfl) ?_
        refine dt (by first | (simp only [toList_sB]; done) | (simp only [toList_sB]; rfl)) ?_
        refine dn ?_
        refine rn ?_
        refine cs_ rfl (fun hc => ?_) (fun hc => ?_)
        · have ho3 := cT hc ho3
          refine awp_seq ?_
          refine awp_region ?_
          refine rv rfl rfl ?_
          refine rn ?_
          refine awp_ret ?_
          cases ho3
          have hq := hE4 _ rfl
          subst hq
          have h := ksr h
          subst h
          repeat (first | refine then_ret ?_ | refine inBlock_ret ?_ | refine cut_r ?_)
          exact rr rfl rfl rfl
        · have ho3 := cF hc ho3
          refine awp_skip ?_
          refine inBlock_normal ?_
          refine awp_region ?_
          refine rvs 2 rfl ?_
          refine rn ?_
          cases ho3
          exact lp_n [] rfl rfl ⟨rfl, rfl, zA rfl rfl rfl (zA rfl rfl rfl (zA rfl rfl rfl (zA rfl rfl rfl (trivial)))), trivial, trivial⟩
      · have ho3 := cF hc ho3
        refine awp_exit ?_
        repeat (first | refine then_exit ?_ | refine cut_x ?_ | refine inBlock_other rfl ?_)
        refine inBlock_exit ?_
        cases ho3
        have hq := hE4 _ rfl
        subst hq
        exact cut_n [] rfl rfl ⟨rfl, rfl, trivial, trivial, trivial⟩
    · rintro _ rfl
      have h := ksl h
      refine awp_seq ?_
      refine awp_region ?_
      refine rv rfl rfl ?_
      refine rn ?_
      refine awp_ret ?_
      cases h
      repeat (first | refine then_ret ?_ | refine inBlock_ret ?_ | refine cut_r ?_)
      exact rr rfl rfl rfl
end

/-- `plover/wire.sameEvent` -/
def dwire_sameEvent (fu : Nat) (a1 : tEvent) (b1 : tEvent) : Option Bool :=
  bif (a1.Pub == b1.Pub) then (bif (a1.Seq == b1.Seq) then (bif ((a1.At.X == b1.At.X) && ((a1.At.Y == b1.At.Y) && true)) then ((dslices_Equal_Attr fu a1.Attrs b1.Attrs).bind fun x1 => some x1) else some false) else some false) else some false
section
attribute [local irreducible] awp aops DP PCall ACall Decidable.decide
theorem dwire_sameEvent_l {fu : Nat} {a1 : tEvent} {b1 : tEvent} {r : Bool} (h : dwire_sameEvent fu a1 b1 = some r) : PCall Try.prog 76 [.agg [.int .i64 a1.Pub, .int .u32 a1.Seq, .int .i64 a1.At.X, .int .i64 a1.At.Y, .sl (a1.Attrs.map c_tAttr)], .agg [.int .i64 b1.Pub, .int .u32 b1.Seq, .int .i64 b1.At.X, .int .i64 b1.At.Y, .sl (b1.Attrs.map c_tAttr)]] (· = .bool r) := by
  rw [dwire_sameEvent] at h
  refine pcall_body Try.func76 rfl (by kernel_rfl) (by rfl) ?_
  refine awp_seq ?_
  refine awp_region ?_
  refine rb rfl rfl ?_
  refine rb rfl rfl ?_
  refine rv rfl rfl ?_
  refine rn ?_
  refine awp_seq ?_
  refine awp_region ?_
  refine rvs 6 rfl ?_
  refine gs rfl rfl rfl rfl rfl (fun hg => ?_) (fun hg => ?_)
  · have h := cT hg h
    refine rv rfl rfl ?_
    refine gy rfl rfl rfl ?_
    refine rv rfl rfl ?_
    refine gy rfl rfl rfl ?_
    refine rv rfl rfl ?_
    refine gy rfl rfl rfl ?_
    refine rv rfl rfl ?_
    refine gy rfl rfl rfl ?_
    refine rv rfl rfl ?_
    refine rvs 2 rfl ?_
    refine gs rfl rfl rfl rfl rfl (fun hg => ?_) (fun hg => ?_)
    · have h := cT hg h
      refine rv rfl rfl ?_
      refine gy rfl rfl rfl ?_
      refine rv rfl rfl ?_
      refine gy rfl rfl rfl ?_
      refine rv rfl rfl ?_
      refine gy rfl rfl rfl ?_
      refine rv rfl rfl ?_
      refine gy rfl rfl rfl ?_
      refine rv rfl rfl ?_
      refine rvs 2 rfl ?_
      refine gs rfl rfl rfl rfl rfl (fun hg => ?_) (fun hg => ?_)
      · have h := cT hg h
        refine rv rfl rfl ?_
        refine gy rfl rfl rfl ?_
        refine rv rfl rfl ?_
        refine gy rfl rfl rfl ?_
        refine rv rfl rfl ?_
        refine gy rfl rfl rfl ?_
        refine rv rfl rfl ?_
        refine gy rfl rfl rfl ?_
        obtain ⟨x1, hx1, h⟩ := bi h
        refine rc1 rfl rfl rfl (dslices_Equal_Attr_l hx1) ?_
        refine rvs 2 rfl ?_
        refine rn ?_
        refine awp_ret ?_
        cases h
        repeat (first | refine then_ret ?_ | refine inBlock_ret ?_ | refine cut_r ?_)
        exact rr rfl rfl rfl
      · have h := cF hg h
        refine gn rfl rfl rfl rfl rfl ?_
        refine gn rfl rfl rfl rfl rfl ?_
        refine gn rfl rfl rfl rfl rfl ?_
        refine gn rfl rfl rfl rfl rfl ?_
        refine rvs 2 rfl ?_
        refine rn ?_
        refine awp_ret ?_
        cases h
        repeat (first | refine then_ret ?_ | refine inBlock_ret ?_ | refine cut_r ?_)
        exact rr rfl rfl rfl
    · have h := cF hg h
      refine gn rfl rfl rfl rfl rfl ?_
      refine gn rfl rfl rfl rfl rfl ?_
      refine gn rfl rfl rfl rfl rfl ?_
      refine gn rfl rfl rfl rfl rfl ?_
      refine rvs 2 rfl ?_
      refine gn rfl rfl rfl rfl rfl ?_
      refine gn rfl rfl rfl rfl rfl ?_
      refine gn rfl rfl rfl rfl rfl ?_
      refine gn rfl rfl rfl rfl rfl ?_
      refine gn rfl rfl rfl rfl rfl ?_
      refine rvs 2 rfl ?_
      refine rn ?_
      refine awp_ret ?_
      cases h
      repeat (first | refine then_ret ?_ | refine inBlock_ret ?_ | refine cut_r ?_)
      exact rr rfl rfl rfl
  · have h := cF hg h
    refine gn rfl rfl rfl rfl rfl ?_
    refine gn rfl rfl rfl rfl rfl ?_
    refine gn rfl rfl rfl rfl rfl ?_
    refine gn rfl rfl rfl rfl rfl ?_
    refine rvs 2 rfl ?_
    refine gn rfl rfl rfl rfl rfl ?_
    refine gn rfl rfl rfl rfl rfl ?_
    refine gn rfl rfl rfl rfl rfl ?_
    refine gn rfl rfl rfl rfl rfl ?_
    refine gn rfl rfl rfl rfl rfl ?_
    refine rvs 2 rfl ?_
    refine gn rfl rfl rfl rfl rfl ?_
    refine gn rfl rfl rfl rfl rfl ?_
    refine gn rfl rfl rfl rfl rfl ?_
    refine gn rfl rfl rfl rfl rfl ?_
    refine gn rfl rfl rfl rfl rfl ?_
    refine rvs 2 rfl ?_
    refine rn ?_
    refine awp_ret ?_
    cases h
    repeat (first | refine then_ret ?_ | refine inBlock_ret ?_ | refine cut_r ?_)
    exact rr rfl rfl rfl
end

/-- `plover/wire.Same` -/
def dwire_Same (fu : Nat) (a1 : tMsg) (b1 : tMsg) : Option Bool :=
  bif (a1.Kind == b1.Kind) then (bif (a1.Sub == b1.Sub) then (bif (a1.Version == b1.Version) then (bif (a1.Home == b1.Home) then (bif ((a1.Rect.X1 == b1.Rect.X1) && ((a1.Rect.Y1 == b1.Rect.Y1) && ((a1.Rect.X2 == b1.Rect.X2) && ((a1.Rect.Y2 == b1.Rect.Y2) && true)))) then (bif (a1.Filter == b1.Filter) then ((dwire_sameEvent fu a1.Event b1.Event).bind fun x1 => some x1) else some false) else some false) else some false) else some false) else some false) else some false
section
attribute [local irreducible] awp aops DP PCall ACall Decidable.decide
theorem dwire_Same_l {fu : Nat} {a1 : tMsg} {b1 : tMsg} {r : Bool} (h : dwire_Same fu a1 b1 = some r) : PCall Try.prog 41 [.agg [.int .i64 a1.Kind, .int .i64 a1.Sub, .int .i64 a1.Version, .int .i64 a1.Home, .int .i64 a1.Rect.X1, .int .i64 a1.Rect.Y1, .int .i64 a1.Rect.X2, .int .i64 a1.Rect.Y2, .str (sB a1.Filter), .int .i64 a1.Event.Pub, .int .u32 a1.Event.Seq, .int .i64 a1.Event.At.X, .int .i64 a1.Event.At.Y, .sl (a1.Event.Attrs.map c_tAttr)], .agg [.int .i64 b1.Kind, .int .i64 b1.Sub, .int .i64 b1.Version, .int .i64 b1.Home, .int .i64 b1.Rect.X1, .int .i64 b1.Rect.Y1, .int .i64 b1.Rect.X2, .int .i64 b1.Rect.Y2, .str (sB b1.Filter), .int .i64 b1.Event.Pub, .int .u32 b1.Event.Seq, .int .i64 b1.Event.At.X, .int .i64 b1.Event.At.Y, .sl (b1.Event.Attrs.map c_tAttr)]] (· = .bool r) := by
  rw [dwire_Same] at h
  refine pcall_body Try.func41 rfl (by kernel_rfl) (by rfl) ?_
  refine awp_seq ?_
  refine awp_region ?_
  refine rb rfl rfl ?_
  refine rb rfl rfl ?_
  refine rv rfl rfl ?_
  refine rn ?_
  refine awp_seq ?_
  refine awp_region ?_
  refine rvs 6 rfl ?_
  refine gs rfl rfl rfl rfl rfl (fun hg => ?_) (fun hg => ?_)
  · have h := cT hg h
    refine rv rfl rfl ?_
    refine gy rfl rfl rfl ?_
    refine rv rfl rfl ?_
    refine gy rfl rfl rfl ?_
    refine rv rfl rfl ?_
    refine gy rfl rfl rfl ?_
    refine rv rfl rfl ?_
    refine gy rfl rfl rfl ?_
    refine rv rfl rfl ?_
    refine rvs 2 rfl ?_
    refine gs rfl rfl rfl rfl rfl (fun hg => ?_) (fun hg => ?_)
    · have h := cT hg h
      refine rv rfl rfl ?_
      refine gy rfl rfl rfl ?_
      refine rv rfl rfl ?_
      refine gy rfl rfl rfl ?_
      refine rv rfl rfl ?_
      refine gy rfl rfl rfl ?_
      refine rv rfl rfl ?_
      refine gy rfl rfl rfl ?_
      refine rv rfl rfl ?_
      refine rvs 2 rfl ?_
      refine gs rfl rfl rfl rfl rfl (fun hg => ?_) (fun hg => ?_)
      · have h := cT hg h
        refine rv rfl rfl ?_
        refine gy rfl rfl rfl ?_
        refine rv rfl rfl ?_
        refine gy rfl rfl rfl ?_
        refine rv rfl rfl ?_
        refine gy rfl rfl rfl ?_
        refine rv rfl rfl ?_
        refine gy rfl rfl rfl ?_
        refine rv rfl rfl ?_
        refine rvs 2 rfl ?_
        refine gs rfl rfl rfl rfl rfl (fun hg => ?_) (fun hg => ?_)
        · have h := cT hg h
          refine rv rfl rfl ?_
          refine gy rfl rfl rfl ?_
          refine rv rfl rfl ?_
          refine gy rfl rfl rfl ?_
          refine rv rfl rfl ?_
          refine gy rfl rfl rfl ?_
          refine rv rfl rfl ?_
          refine gy rfl rfl rfl ?_
          refine rv rfl rfl ?_
          refine rvs 2 rfl ?_
          refine gs rfl rfl rfl rfl rfl (fun hg => ?_) (fun hg => ?_)
          · have h := cT hg h
            refine rv rfl rfl ?_
            refine gy rfl rfl rfl ?_
            refine rv rfl rfl ?_
            refine gy rfl rfl rfl ?_
            refine rv rfl rfl ?_
            refine gy rfl rfl rfl ?_
            refine rv rfl rfl ?_
            refine gy rfl rfl rfl ?_
            refine rv rfl rfl ?_
            refine rt (sEq a1.Filter b1.Filter) ?_
            refine rvs 2 rfl ?_
            refine gs rfl rfl rfl rfl rfl (fun hg => ?_) (fun hg => ?_)
            · have h := cT hg h
              refine rv rfl rfl ?_
              refine gy rfl rfl rfl ?_
              refine rv rfl rfl ?_
              refine gy rfl rfl rfl ?_
              refine rv rfl rfl ?_
              refine gy rfl rfl rfl ?_
              refine rv rfl rfl ?_
              refine gy rfl rfl rfl ?_
              obtain ⟨x1, hx1, h⟩ := bi h
              refine rc1 rfl rfl rfl (dwire_sameEvent_l hx1) ?_
              refine rvs 2 rfl ?_
              refine rn ?_
              refine awp_ret ?_
              cases h
              repeat (first | refine then_ret ?_ | refine inBlock_ret ?_ | refine cut_r ?_)
              exact rr rfl rfl rfl
            · have h := cF hg h
              refine gn rfl rfl rfl rfl rfl ?_
              refine gn rfl rfl rfl rfl rfl ?_
              refine gn rfl rfl rfl rfl rfl ?_
              refine gn rfl rfl rfl rfl rfl ?_
              refine rvs 2 rfl ?_
              refine rn ?_
              refine awp_ret ?_
              cases h
              repeat (first | refine then_ret ?_ | refine inBlock_ret ?_ | refine cut_r ?_)
              exact rr rfl rfl rfl
          · have h := cF hg h
            refine gn rfl rfl rfl rfl rfl ?_
            refine gn rfl rfl rfl rfl rfl ?_
            refine gn rfl rfl rfl rfl rfl ?_
            refine gn rfl rfl rfl rfl rfl ?_
            refine rvs 2 rfl ?_
            refine gn rfl rfl rfl rfl rfl ?_
            refine gn rfl rfl rfl rfl rfl ?_
            refine gn rfl rfl rfl rfl rfl ?_
            refine gn rfl rfl rfl rfl rfl ?_
            refine gn rfl rfl rfl rfl rfl ?_
            refine rvs 2 rfl ?_
            refine rn ?_
            refine awp_ret ?_
            cases h
            repeat (first | refine then_ret ?_ | refine inBlock_ret ?_ | refine cut_r ?_)
            exact rr rfl rfl rfl
        · have h := cF hg h
          refine gn rfl rfl rfl rfl rfl ?_
          refine gn rfl rfl rfl rfl rfl ?_
          refine gn rfl rfl rfl rfl rfl ?_
          refine gn rfl rfl rfl rfl rfl ?_
          refine rvs 2 rfl ?_
          refine gn rfl rfl rfl rfl rfl ?_
          refine gn rfl rfl rfl rfl rfl ?_
          refine gn rfl rfl rfl rfl rfl ?_
          refine gn rfl rfl rfl rfl rfl ?_
          refine gn rfl rfl rfl rfl rfl ?_
          refine rvs 2 rfl ?_
          refine gn rfl rfl rfl rfl rfl ?_
          refine gn rfl rfl rfl rfl rfl ?_
          refine gn rfl rfl rfl rfl rfl ?_
          refine gn rfl rfl rfl rfl rfl ?_
          refine gn rfl rfl rfl rfl rfl ?_
          refine rvs 2 rfl ?_
          refine rn ?_
          refine awp_ret ?_
          cases h
          repeat (first | refine then_ret ?_ | refine inBlock_ret ?_ | refine cut_r ?_)
          exact rr rfl rfl rfl
      · have h := cF hg h
        refine gn rfl rfl rfl rfl rfl ?_
        refine gn rfl rfl rfl rfl rfl ?_
        refine gn rfl rfl rfl rfl rfl ?_
        refine gn rfl rfl rfl rfl rfl ?_
        refine rvs 2 rfl ?_
        refine gn rfl rfl rfl rfl rfl ?_
        refine gn rfl rfl rfl rfl rfl ?_
        refine gn rfl rfl rfl rfl rfl ?_
        refine gn rfl rfl rfl rfl rfl ?_
        refine gn rfl rfl rfl rfl rfl ?_
        refine rvs 2 rfl ?_
        refine gn rfl rfl rfl rfl rfl ?_
        refine gn rfl rfl rfl rfl rfl ?_
        refine gn rfl rfl rfl rfl rfl ?_
        refine gn rfl rfl rfl rfl rfl ?_
        refine gn rfl rfl rfl rfl rfl ?_
        refine rvs 2 rfl ?_
        refine gn rfl rfl rfl rfl rfl ?_
        refine gn rfl rfl rfl rfl rfl ?_
        refine gn rfl rfl rfl rfl rfl ?_
        refine gn rfl rfl rfl rfl rfl ?_
        refine gn rfl rfl rfl rfl rfl ?_
        refine rvs 2 rfl ?_
        refine rn ?_
        refine awp_ret ?_
        cases h
        repeat (first | refine then_ret ?_ | refine inBlock_ret ?_ | refine cut_r ?_)
        exact rr rfl rfl rfl
    · have h := cF hg h
      refine gn rfl rfl rfl rfl rfl ?_
      refine gn rfl rfl rfl rfl rfl ?_
      refine gn rfl rfl rfl rfl rfl ?_
      refine gn rfl rfl rfl rfl rfl ?_
      refine rvs 2 rfl ?_
      refine gn rfl rfl rfl rfl rfl ?_
      refine gn rfl rfl rfl rfl rfl ?_
      refine gn rfl rfl rfl rfl rfl ?_
      refine gn rfl rfl rfl rfl rfl ?_
      refine gn rfl rfl rfl rfl rfl ?_
      refine rvs 2 rfl ?_
      refine gn rfl rfl rfl rfl rfl ?_
      refine gn rfl rfl rfl rfl rfl ?_
      refine gn rfl rfl rfl rfl rfl ?_
      refine gn rfl rfl rfl rfl rfl ?_
      refine gn rfl rfl rfl rfl rfl ?_
      refine rvs 2 rfl ?_
      refine gn rfl rfl rfl rfl rfl ?_
      refine gn rfl rfl rfl rfl rfl ?_
      refine gn rfl rfl rfl rfl rfl ?_
      refine gn rfl rfl rfl rfl rfl ?_
      refine gn rfl rfl rfl rfl rfl ?_
      refine rvs 2 rfl ?_
      refine gn rfl rfl rfl rfl rfl ?_
      refine gn rfl rfl rfl rfl rfl ?_
      refine gn rfl rfl rfl rfl rfl ?_
      refine gn rfl rfl rfl rfl rfl ?_
      refine gn rfl rfl rfl rfl rfl ?_
      refine rvs 2 rfl ?_
      refine rn ?_
      refine awp_ret ?_
      cases h
      repeat (first | refine then_ret ?_ | refine inBlock_ret ?_ | refine cut_r ?_)
      exact rr rfl rfl rfl
  · have h := cF hg h
    refine gn rfl rfl rfl rfl rfl ?_
    refine gn rfl rfl rfl rfl rfl ?_
    refine gn rfl rfl rfl rfl rfl ?_
    refine gn rfl rfl rfl rfl rfl ?_
    refine rvs 2 rfl ?_
    refine gn rfl rfl rfl rfl rfl ?_
    refine gn rfl rfl rfl rfl rfl ?_
    refine gn rfl rfl rfl rfl rfl ?_
    refine gn rfl rfl rfl rfl rfl ?_
    refine gn rfl rfl rfl rfl rfl ?_
    refine rvs 2 rfl ?_
    refine gn rfl rfl rfl rfl rfl ?_
    refine gn rfl rfl rfl rfl rfl ?_
    refine gn rfl rfl rfl rfl rfl ?_
    refine gn rfl rfl rfl rfl rfl ?_
    refine gn rfl rfl rfl rfl rfl ?_
    refine rvs 2 rfl ?_
    refine gn rfl rfl rfl rfl rfl ?_
    refine gn rfl rfl rfl rfl rfl ?_
    refine gn rfl rfl rfl rfl rfl ?_
    refine gn rfl rfl rfl rfl rfl ?_
    refine gn rfl rfl rfl rfl rfl ?_
    refine rvs 2 rfl ?_
    refine gn rfl rfl rfl rfl rfl ?_
    refine gn rfl rfl rfl rfl rfl ?_
    refine gn rfl rfl rfl rfl rfl ?_
    refine gn rfl rfl rfl rfl rfl ?_
    refine gn rfl rfl rfl rfl rfl ?_
    refine rvs 2 rfl ?_
    refine gn rfl rfl rfl rfl rfl ?_
    refine gn rfl rfl rfl rfl rfl ?_
    refine gn rfl rfl rfl rfl rfl ?_
    refine gn rfl rfl rfl rfl rfl ?_
    refine gn rfl rfl rfl rfl rfl ?_
    refine rvs 2 rfl ?_
    refine rn ?_
    refine awp_ret ?_
    cases h
    repeat (first | refine then_ret ?_ | refine inBlock_ret ?_ | refine cut_r ?_)
    exact rr rfl rfl rfl
end

/-- `(*plover/wire.writer).number` -/
def dwire_writer_number (fu : Nat) (w1 : twirewriter) (u1 : Int) : Option twirewriter :=
  (loopD (ε := Int × Str) (τ := Int × Str) (fun (((u2, l1)) : Int × Str) => (bif (decide (u2 ≥ 128)) then ((ap l1 [u8 (bits .or .u8 (IntKind.wrap .u8 u2) 128)]).bind fun l4 => some (Sum.inl (shrV .u64 u2 7, l4))) else some (Sum.inr (u2, l1)))) fu (u1, w1.Out)).bind fun (((u4, l3)) : Int × Str) => ((ap l3 [u8 (IntKind.wrap .u8 u4)]).bind fun l5 => some (twirewriter.mk l5))
section
attribute [local irreducible] awp aops DP PCall ACall Decidable.decide
theorem dwire_writer_number_l {fu : Nat} {w1 : twirewriter} {u1 : Int} {r : twirewriter} (h : dwire_writer_number fu w1 u1 = some r) : ACall Try.prog 68 2 [.ptr 0 0, .int .u64 u1] [(0, 0, .own 1)] [(1, .row 1 (w1.Out.map cU8))] (fun r_ H_ O_ n_ => r_ = .tup [] ∧ H_ = [(0, 0, .own 2)] ∧ O_ = [(2, .row 1 (r.Out.map cU8))] ∧ n_ = 3) := by
  rw [dwire_writer_number] at h
  refine acall_body Try.func68 rfl (by kernel_rfl) (by rfl) ?_
  refine awp_conv (fun _ _ _ _ _ hi => row_again (wr := false) 0 0 1 rfl rfl hi) ?_
  refine awp_seq ?_
  obtain ⟨e1, hl2, h⟩ := bi h
  refine awp_cut1 (fun x => x = e1) (fun (((u4, l3)) : Int × Str) => ⟨[(0, .ptr 0 0), (1, .int .u64 u4)], [(0, 0, .own 2)], [(2, .row 1 (l3.map cU8))], 3⟩) ?_ ?_
  · refine awp_block ?_
    refine awp_loopD hl2 (fun (((u2, l1)) : Int × Str) => ⟨[(0, .ptr 0 0), (1, .int .u64 u2)], [(0, 0, .own 2)], [(2, .row 1 (l1.map cU8))], 3⟩) [0, 1, 2] rfl ⟨rfl, rfl, zA rfl rfl rfl (zA rfl rfl rfl (trivial)), zC rfl rfl rfl rfl (trivial), zE rfl .row rfl (trivial)⟩ ?_
    intro v o5 ho3 hE4
    obtain ⟨u2, l1⟩ := v
    change awp _ _ _ _ _ ⟨_, _, _, _⟩
    refine awp_seq ?_
    refine awp_seq ?_
    refine awp_region ?_
    refine rvs 2 rfl ?_
    refine rn ?_
    refine cs_ rfl (fun hc => ?_) (fun hc => ?_)
    · have ho3 := cT hc ho3
      refine awp_skip ?_
      refine awp_seq ?_
      refine awp_block ?_
      refine awp_region ?_
      refine rvs 8 rfl ?_
      refine rbs false rfl rfl rfl rfl rfl rfl rfl rfl rfl rfl ?_
      refine rk (congrArg (Kind.row _) (show ([[.int .u8 (bits .or .u8 (IntKind.wrap .u8 u2) 128)]] : List (List AV)) = ([u8 (bits .or .u8 (IntKind.wrap .u8 u2) 128)] : Str).map cU8 from by simp only [List.map_cons, List.map_nil, cU8, u8_wrap, u8_bits])) ?_
      obtain ⟨l4, hx6, ho3⟩ := bi ho3
      refine rap false (xs := l1.map cU8) (ys := [u8 (bits .or .u8 (IntKind.wrap .u8 u2) 128)].map cU8) rfl rfl rfl rfl rfl rfl rfl (.own rfl rfl) (.sl rfl rfl rfl) (wM (fun _ => by rfl) _) (oM (fun _ => by rfl) _) (apB cU8 rfl hx6) rfl ?_
      refine rk (congrArg (Kind.row _) (apM cU8 hx6)) ?_
      refine rvs 2 rfl ?_
      refine rs rfl rfl rfl rfl rfl rfl rfl ?_
      refine rn ?_
      refine inBlock_normal ?_
      refine awp_region ?_
      refine rvs 3 rfl ?_
      refine rn ?_
      cases ho3
      exact lp_n [0, 1, 4] rfl rfl ⟨rfl, rfl, zA rfl rfl rfl (zA rfl rfl rfl (trivial)), zC rfl rfl rfl rfl (trivial), zE rfl .row rfl (trivial)⟩
    · have ho3 := cF hc ho3
      refine awp_exit ?_
      repeat (first | refine then_exit ?_ | refine cut_x ?_ | refine inBlock_other rfl ?_)
      refine inBlock_exit ?_
      cases ho3
      have hq := hE4 _ rfl
      subst hq
      exact cut_n [0, 1, 2] rfl rfl ⟨rfl, rfl, zA rfl rfl rfl (zA rfl rfl rfl (trivial)), zC rfl rfl rfl rfl (trivial), zE rfl .row rfl (trivial)⟩
  · rintro ⟨u4, l3⟩ rfl
    change awp _ _ _ _ _ ⟨_, _, _, _⟩
    refine awp_region ?_
    refine rvs 7 rfl ?_
    refine rbs false rfl rfl rfl rfl rfl rfl rfl rfl rfl rfl ?_
    refine rk (congrArg (Kind.row _) (show ([[.int .u8 (IntKind.wrap .u8 u4)]] : List (List AV)) = ([u8 (IntKind.wrap .u8 u4)] : Str).map cU8 from by simp only [List.map_cons, List.map_nil, cU8, u8_wrap, u8_bits])) ?_
    obtain ⟨l5, hx7, h⟩ := bi h
    refine rap false (xs := l3.map cU8) (ys := [u8 (IntKind.wrap .u8 u4)].map cU8) rfl rfl rfl rfl rfl rfl rfl (.own rfl rfl) (.sl rfl rfl rfl) (wM (fun _ => by rfl) _) (oM (fun _ => by rfl) _) (apB cU8 rfl hx7) rfl ?_
    refine rk (congrArg (Kind.row _) (apM cU8 hx7)) ?_
    refine rvs 2 rfl ?_
    refine rs rfl rfl rfl rfl rfl rfl rfl ?_
    refine rn ?_
    have h := Option.some.inj h
    subst h
    exact rrA' (r := .tup []) [0, 1, 4] [(0, 0, .own 2)] [(2, .row 1 (l5.map cU8))] rfl rfl rfl rfl (zC rfl rfl rfl rfl (trivial)) (zE rfl .row rfl (trivial)) ⟨rfl, rfl, rfl, rfl⟩
end

/-- `(*plover/wire.writer).signed` -/
def dwire_writer_signed (fu : Nat) (w1 : twirewriter) (n1 : Int) : Option twirewriter :=
  (dwire_writer_number fu w1 (bits .xor .u64 (shlV .u64 (IntKind.wrap .u64 n1) 1) (IntKind.wrap .u64 (shrV .i64 n1 63)))).bind fun x1 => some x1
section
attribute [local irreducible] awp aops DP PCall ACall Decidable.decide
theorem dwire_writer_signed_l {fu : Nat} {w1 : twirewriter} {n1 : Int} {r : twirewriter} (h : dwire_writer_signed fu w1 n1 = some r) : ACall Try.prog 69 2 [.ptr 0 0, .int .i64 n1] [(0, 0, .own 1)] [(1, .row 1 (w1.Out.map cU8))] (fun r_ H_ O_ n_ => r_ = .tup [] ∧ H_ = [(0, 0, .own 2)] ∧ O_ = [(2, .row 1 (r.Out.map cU8))] ∧ n_ = 3) := by
  rw [dwire_writer_signed] at h
  refine acall_body Try.func69 rfl (by kernel_rfl) (by rfl) ?_
  refine awp_conv (fun _ _ _ _ _ hi => row_again (wr := false) 0 0 1 rfl rfl hi) ?_
  refine awp_region ?_
  refine rvs 8 rfl ?_
  obtain ⟨x1, hx1, h⟩ := bi h
  refine rh [0, 2] rfl rfl (dwire_writer_number_l hx1) rfl rfl rfl (zC rfl rfl rfl rfl (trivial)) (zE rfl .row rfl (trivial)) ?_
  refine ek ?_
  refine as1 rfl ?_
  refine ae rfl rfl rfl ?_
  refine rn ?_
  have h := Option.some.inj h
  subst h
  exact rrA' (r := .tup []) [0, 1, 3] [(0, 0, .own 2)] [(2, .row 1 (x1.Out.map cU8))] rfl rfl rfl rfl (zC rfl rfl rfl rfl (trivial)) (zE rfl .row rfl (trivial)) ⟨rfl, rfl, rfl, rfl⟩
end

/-- `(*plover/wire.writer).text` -/
def dwire_writer_text (fu : Nat) (w1 : twirewriter) (s1 : Str) : Option twirewriter :=
  (dwire_writer_number fu w1 (IntKind.wrap .u64 (s1.length : Int))).bind fun x1 => (ap x1.Out s1).bind fun l1 => some (twirewriter.mk l1)
section
attribute [local irreducible] awp aops DP PCall ACall Decidable.decide
theorem dwire_writer_text_l {fu : Nat} {w1 : twirewriter} {s1 : Str} {r : twirewriter} (h : dwire_writer_text fu w1 s1 = some r) : ACall Try.prog 70 2 [.ptr 0 0, .str (sB s1)] [(0, 0, .own 1)] [(1, .row 1 (w1.Out.map cU8))] (fun r_ H_ O_ n_ => r_ = .tup [] ∧ H_ = [(0, 0, .own 2)] ∧ O_ = [(2, .row 1 (r.Out.map cU8))] ∧ n_ = 3) := by
  rw [dwire_writer_text] at h
  refine acall_body Try.func70 rfl (by kernel_rfl) (by rfl) ?_
  refine awp_conv (fun _ _ _ _ _ hi => row_again (wr := false) 0 0 1 rfl rfl hi) ?_
  refine awp_seq ?_
  refine awp_region ?_
  refine rvs 4 rfl ?_
  obtain ⟨x1, hx1, h⟩ := bi h
  refine rh [0, 2] rfl rfl (dwire_writer_number_l hx1) rfl rfl rfl (zC rfl rfl rfl rfl (trivial)) (zE rfl .row rfl (trivial)) ?_
  refine ek ?_
  refine as1 rfl ?_
  refine ae rfl rfl rfl ?_
  refine rn ?_
  refine awp_region ?_
  refine rvs 6 rfl ?_
  obtain ⟨l1, hx2, h⟩ := bi h
  refine rap false (xs := x1.Out.map cU8) (ys := s1.map cU8) rfl rfl rfl rfl rfl rfl rfl (.own rfl rfl) (SrcV.str (b := sB s1) rfl rfl rfl rfl) (wM (fun _ => by rfl) _) (oM (fun _ => by rfl) _) (apB cU8 rfl hx2) rfl ?_
  refine rk (congrArg (Kind.row _) (apM cU8 hx2)) ?_
  refine rvs 2 rfl ?_
  refine rs rfl rfl rfl rfl rfl rfl rfl ?_
  refine rn ?_
  have h := Option.some.inj h
  subst h
  exact rrA' (r := .tup []) [0, 1, 4] [(0, 0, .own 2)] [(2, .row 1 (l1.map cU8))] rfl rfl rfl rfl (zC rfl rfl rfl rfl (trivial)) (zE rfl .row rfl (trivial)) ⟨rfl, rfl, rfl, rfl⟩
end

/-- `(*plover/wire.writer).event` -/
def dwire_writer_event (fu : Nat) (w1 : twirewriter) (e1 : tEvent) : Option twirewriter :=
  (dwire_writer_number fu w1 (IntKind.wrap .u64 e1.Pub)).bind fun x1 => (dwire_writer_number fu x1 (IntKind.wrap .u64 e1.Seq)).bind fun x2 => (dwire_writer_signed fu x2 e1.At.X).bind fun x3 => (dwire_writer_signed fu x3 e1.At.Y).bind fun x4 => (dwire_writer_number fu x4 (IntKind.wrap .u64 (e1.Attrs.length : Int))).bind fun x5 => (loopD (ε := Int × Str) (τ := Str) (fun (((x6, l1)) : Int × Str) => (bif (decide (x6 < (e1.Attrs.length : Int))) then (((gi e1.Attrs x6).bind fun x8 => (dwire_writer_text fu (twirewriter.mk l1) x8.Name).bind fun x9 => bif x8.Text then ((dwire_writer_number fu x9 1).bind fun x10 => (dwire_writer_text fu x10 x8.S).bind fun x11 => some x11.Out) else ((dwire_writer_number fu x9 0).bind fun x12 => (dwire_writer_signed fu x12 x8.N).bind fun x13 => some x13.Out) : Option Str).bind fun (l4 : Str) => some (Sum.inl (W (x6 + 1), l4))) else some (Sum.inr l1))) fu (0, x5.Out)).bind fun (l3 : Str) => some (twirewriter.mk l3)
section
attribute [local irreducible] awp aops DP PCall ACall Decidable.decide
theorem dwire_writer_event_l {fu : Nat} {w1 : twirewriter} {e1 : tEvent} {r : twirewriter} (h : dwire_writer_event fu w1 e1 = some r) : ACall Try.prog 71 2 [.ptr 0 0, .agg [.int .i64 e1.Pub, .int .u32 e1.Seq, .int .i64 e1.At.X, .int .i64 e1.At.Y, .sl (e1.Attrs.map c_tAttr)]] [(0, 0, .own 1)] [(1, .row 1 (w1.Out.map cU8))] (fun r_ H_ O_ n_ => r_ = .tup [] ∧ H_ = [(0, 0, .own 2)] ∧ O_ = [(2, .row 1 (r.Out.map cU8))] ∧ n_ = 3) := by
  rw [dwire_writer_event] at h
  refine acall_body Try.func71 rfl (by kernel_rfl) (by rfl) ?_
  refine awp_conv (fun _ _ _ _ _ hi => row_again (wr := false) 0 0 1 rfl rfl hi) ?_
  refine awp_seq ?_
  refine awp_region ?_
  refine rb rfl rfl ?_
  refine rn ?_
  refine awp_seq ?_
  refine awp_region ?_
  refine rvs 4 rfl ?_
  obtain ⟨x1, hx1, h⟩ := bi h
  refine rh [0, 2] rfl rfl (dwire_writer_number_l hx1) rfl rfl rfl (zC rfl rfl rfl rfl (trivial)) (zE rfl .row rfl (trivial)) ?_
  refine ek ?_
  refine as1 rfl ?_
  refine ae rfl rfl rfl ?_
  refine rn ?_
  refine awp_seq ?_
  refine awp_region ?_
  refine rvs 4 rfl ?_
  obtain ⟨x2, hx2, h⟩ := bi h
  refine rh [0, 4] rfl rfl (dwire_writer_number_l hx2) rfl rfl rfl (zC rfl rfl rfl rfl (trivial)) (zE rfl .row rfl (trivial)) ?_
  refine ek ?_
  refine as1 rfl ?_
  refine ae rfl rfl rfl ?_
  refine rn ?_
  refine awp_seq ?_
  refine awp_region ?_
  refine rvs 4 rfl ?_
  obtain ⟨x3, hx3, h⟩ := bi h
  refine rh [0, 5] rfl rfl (dwire_writer_signed_l hx3) rfl rfl rfl (zC rfl rfl rfl rfl (trivial)) (zE rfl .row rfl (trivial)) ?_
  refine ek ?_
  refine as1 rfl ?_
  refine ae rfl rfl rfl ?_
  refine rn ?_
  refine awp_seq ?_
  refine awp_region ?_
  refine rvs 4 rfl ?_
  obtain ⟨x4, hx4, h⟩ := bi h
  refine rh [0, 6] rfl rfl (dwire_writer_signed_l hx4) rfl rfl rfl (zC rfl rfl rfl rfl (trivial)) (zE rfl .row rfl (trivial)) ?_
  refine ek ?_
  refine as1 rfl ?_
  refine ae rfl rfl rfl ?_
  refine rn ?_
  refine awp_seq ?_
  refine awp_region ?_
  refine rvs 3 rfl ?_
  refine rv rfl rfl ?_
  refine rt ((lM c_tAttr e1.Attrs)) ?_
  refine rv rfl rfl ?_
  obtain ⟨x5, hx5, h⟩ := bi h
  refine rh [0, 7] rfl rfl (dwire_writer_number_l hx5) rfl rfl rfl (zC rfl rfl rfl rfl (trivial)) (zE rfl .row rfl (trivial)) ?_
  refine ek ?_
  refine as1 rfl ?_
  refine ae rfl rfl rfl ?_
  refine rn ?_
  refine awp_seq ?_
  refine awp_region ?_
  refine rvs 2 rfl ?_
  refine rv rfl rfl ?_
  refine rt ((lM c_tAttr e1.Attrs)) ?_
  refine rv rfl rfl ?_
  refine rn ?_
  obtain ⟨e6, hl7, h⟩ := bi h
  refine awp_cut1 (fun x => x = e6) (fun (l3 : Str) => ⟨[], [(0, 0, .own 2)], [(2, .row 1 (l3.map cU8))], 3⟩) ?_ ?_
  · refine awp_block ?_
    refine awp_loopD hl7 (fun (((x6, l1)) : Int × Str) => ⟨[(0, .ptr 0 0), (33, .sl (e1.Attrs.map c_tAttr)), (34, .int .i64 (e1.Attrs.length : Int)), (35, .int .i64 x6)], [(0, 0, .own 2)], [(2, .row 1 (l1.map cU8))], 3⟩) [0, 1, 8] rfl ⟨rfl, rfl, zA rfl rfl rfl (zA rfl rfl rfl (zA rfl rfl rfl (zA rfl rfl rfl (trivial)))), zC rfl rfl rfl rfl (trivial), zE rfl .row rfl (trivial)⟩ ?_
    intro v o10 ho8 hE9
    obtain ⟨x6, l1⟩ := v
    change awp _ _ _ _ _ ⟨_, _, _, _⟩
    refine awp_seq ?_
    refine awp_region ?_
    refine rv rfl rfl ?_
    refine rn ?_
    refine awp_seq ?_
    refine cs_ rfl (fun hc => ?_) (fun hc => ?_)
    · have ho8 := cT hc ho8
      refine awp_skip ?_
      refine awp_seq ?_
      obtain ⟨o11, ho12, ho8⟩ := bi ho8
      refine awp_cut1 (fun x => x = o11) (fun (l4 : Str) => ⟨[(0, .ptr 0 0), (33, .sl (e1.Attrs.map c_tAttr)), (34, .int .i64 (e1.Attrs.length : Int)), (35, .int .i64 x6)], [(0, 0, .own 2)], [(2, .row 1 (l4.map cU8))], 3⟩) ?_ ?_
      · refine awp_block ?_
        refine awp_seq ?_
        refine awp_region ?_
        obtain ⟨x8, hx13, ho12⟩ := bi ho12
        refine ri rfl rfl rfl rfl rfl rfl (gi0 hx13) (giM c_tAttr hx13) (wM (fun _ => by rfl) _) ?_
        refine rv rfl rfl ?_
        refine ra rfl rfl rfl ?_
        refine rs rfl rfl rfl rfl rfl rfl rfl ?_
        refine rn ?_
        refine awp_seq ?_
        refine awp_region ?_
        refine rvs 3 rfl ?_
        obtain ⟨x9, hx14, ho12⟩ := bi ho12
        refine rh [0, 2] rfl rfl (dwire_writer_text_l hx14) rfl rfl rfl (zC rfl rfl rfl rfl (trivial)) (zE rfl .row rfl (trivial)) ?_
        refine ek ?_
        refine as1 rfl ?_
        refine ae rfl rfl rfl ?_
        refine rn ?_
        refine awp_seq ?_
        refine awp_region ?_
        refine rvs 2 rfl ?_
        refine rn ?_
        refine cs_ rfl (fun hc => ?_) (fun hc => ?_)
        · have ho12 := cT hc ho12
          refine awp_seq ?_
          refine awp_region ?_
          refine rv rfl rfl ?_
          obtain ⟨x10, hx15, ho12⟩ := bi ho12
          refine rh [0, 4] rfl rfl (dwire_writer_number_l hx15) rfl rfl rfl (zC rfl rfl rfl rfl (trivial)) (zE rfl .row rfl (trivial)) ?_
          refine ek ?_
          refine as1 rfl ?_
          refine ae rfl rfl rfl ?_
          refine rn ?_
          refine awp_region ?_
          refine rvs 3 rfl ?_
          obtain ⟨x11, hx16, ho12⟩ := bi ho12
          refine rh [0, 5] rfl rfl (dwire_writer_text_l hx16) rfl rfl rfl (zC rfl rfl rfl rfl (trivial)) (zE rfl .row rfl (trivial)) ?_
          refine ek ?_
          refine as1 rfl ?_
          refine ae rfl rfl rfl ?_
          refine rn ?_
          refine inBlock_normal ?_
          cases ho12
          exact cut_n [0, 1, 6] rfl rfl ⟨rfl, rfl, zA rfl rfl rfl (zA rfl rfl rfl (zA rfl rfl rfl (zA rfl rfl rfl (trivial)))), zC rfl rfl rfl rfl (trivial), zE rfl .row rfl (trivial)⟩
        · have ho12 := cF hc ho12
          refine awp_seq ?_
          refine awp_region ?_
          refine rv rfl rfl ?_
          obtain ⟨x12, hx17, ho12⟩ := bi ho12
          refine rh [0, 4] rfl rfl (dwire_writer_number_l hx17) rfl rfl rfl (zC rfl rfl rfl rfl (trivial)) (zE rfl .row rfl (trivial)) ?_
          refine ek ?_
          refine as1 rfl ?_
          refine ae rfl rfl rfl ?_
          refine rn ?_
          refine awp_region ?_
          refine rvs 3 rfl ?_
          obtain ⟨x13, hx18, ho12⟩ := bi ho12
          refine rh [0, 5] rfl rfl (dwire_writer_signed_l hx18) rfl rfl rfl (zC rfl rfl rfl rfl (trivial)) (zE rfl .row rfl (trivial)) ?_
          refine ek ?_
          refine as1 rfl ?_
          refine ae rfl rfl rfl ?_
          refine rn ?_
          refine inBlock_normal ?_
          cases ho12
          exact cut_n [0, 1, 6] rfl rfl ⟨rfl, rfl, zA rfl rfl rfl (zA rfl rfl rfl (zA rfl rfl rfl (zA rfl rfl rfl (trivial)))), zC rfl rfl rfl rfl (trivial), zE rfl .row rfl (trivial)⟩
      · rintro l4 rfl
        change awp _ _ _ _ _ ⟨_, _, _, _⟩
        refine awp_region ?_
        refine rvs 2 rfl ?_
        refine rn ?_
        cases ho8
        exact lp_n [0, 1, 2] rfl rfl ⟨rfl, rfl, zA rfl rfl rfl (zA rfl rfl rfl (zA rfl rfl rfl (zA rfl rfl rfl (trivial)))), zC rfl rfl rfl rfl (trivial), zE rfl .row rfl (trivial)⟩
    · have ho8 := cF hc ho8
      refine awp_exit ?_
      repeat (first | refine then_exit ?_ | refine cut_x ?_ | refine inBlock_other rfl ?_)
      refine inBlock_exit ?_
      cases ho8
      have hq := hE9 _ rfl
      subst hq
      exact cut_n [0, 1, 2] rfl rfl ⟨rfl, rfl, trivial, zC rfl rfl rfl rfl (trivial), zE rfl .row rfl (trivial)⟩
  · rintro l3 rfl
    have h := Option.some.inj h
    subst h
    exact rrA' (r := .tup []) [0, 1, 2] [(0, 0, .own 2)] [(2, .row 1 (l3.map cU8))] rfl rfl rfl rfl (zC rfl rfl rfl rfl (trivial)) (zE rfl .row rfl (trivial)) ⟨rfl, rfl, rfl, rfl⟩
end

/-- `plover/wire.Put` -/
def dwire_Put (fu : Nat) (m1 : tMsg) : Option (Str × Er) :=
  (dwire_May fu m1).bind fun x1 => bif (!x1) then some ([], (some 1)) else ((dwire_writer_number fu (twirewriter.mk []) (IntKind.wrap .u64 m1.Kind)).bind fun x2 => (bif (m1.Kind == 1) then ((dwire_writer_number fu x2 (IntKind.wrap .u64 m1.Sub)).bind fun x3 => (dwire_writer_number fu x3 (IntKind.wrap .u64 m1.Version)).bind fun x4 => (dwire_writer_number fu x4 (IntKind.wrap .u64 m1.Home)).bind fun x5 => (loopD (ε := Int × Str) (τ := Str) (fun (((x6, l2)) : Int × Str) => (bif (decide (x6 < ([m1.Rect.X1, m1.Rect.Y1, m1.Rect.X2, m1.Rect.Y2].length : Int))) then ((gi [m1.Rect.X1, m1.Rect.Y1, m1.Rect.X2, m1.Rect.Y2] x6).bind fun n1 => (dwire_writer_signed fu (twirewriter.mk l2) n1).bind fun x8 => some (Sum.inl (W (x6 + 1), x8.Out))) else some (Sum.inr l2))) fu (0, x5.Out)).bind fun (l4 : Str) => ((dwire_writer_text fu (twirewriter.mk l4) m1.Filter).bind fun x9 => some x9.Out)) else (bif (m1.Kind == 2) then ((dwire_writer_number fu x2 (IntKind.wrap .u64 m1.Sub)).bind fun x10 => (dwire_writer_number fu x10 (IntKind.wrap .u64 m1.Version)).bind fun x11 => some x11.Out) else (bif (m1.Kind == 4) then ((dwire_writer_number fu x2 (IntKind.wrap .u64 m1.Sub)).bind fun x12 => (dwire_writer_event fu x12 m1.Event).bind fun x13 => some x13.Out) else ((dwire_writer_event fu x2 m1.Event).bind fun x14 => some x14.Out))) : Option Str).bind fun (l1 : Str) => some (l1, none))
section
attribute [local irreducible] awp aops DP PCall ACall Decidable.decide
theorem dwire_Put_l {fu : Nat} {m1 : tMsg} {r : Str × Er} (h : dwire_Put fu m1 = some r) : PCall Try.prog 39 [.agg [.int .i64 m1.Kind, .int .i64 m1.Sub, .int .i64 m1.Version, .int .i64 m1.Home, .int .i64 m1.Rect.X1, .int .i64 m1.Rect.Y1, .int .i64 m1.Rect.X2, .int .i64 m1.Rect.Y2, .str (sB m1.Filter), .int .i64 m1.Event.Pub, .int .u32 m1.Event.Seq, .int .i64 m1.Event.At.X, .int .i64 m1.Event.At.Y, .sl (m1.Event.Attrs.map c_tAttr)]] (· = .tup [.sl (r.1.map cU8), .err 31 r.2]) := by
  rw [dwire_Put] at h
  refine pcall_body Try.func39 rfl (by kernel_rfl) (by rfl) ?_
  refine awp_seq ?_
  refine awp_region ?_
  refine rb rfl rfl ?_
  refine rvs 2 rfl ?_
  refine rn ?_
  refine awp_seq ?_
  refine awp_seq ?_
  refine awp_region ?_
  refine rv rfl rfl ?_
  obtain ⟨x1, hx1, h⟩ := bi h
  refine rc1 rfl rfl rfl (dwire_May_l hx1) ?_
  refine rv rfl rfl ?_
  refine rn ?_
  refine cs_ rfl (fun hc => ?_) (fun hc => ?_)
  · have h := cT hc h
    refine awp_seq ?_
    refine awp_region ?_
    refine rvs 3 rfl ?_
    refine rn ?_
    refine awp_conv (fun _ _ _ _ _ hi => err_slot 31 3 (some 1) rfl hi) ?_
    refine awp_ret ?_
    cases h
    repeat (first | refine then_ret ?_ | refine inBlock_ret ?_ | refine cut_r ?_)
    exact rr rfl rfl rfl
  · have h := cF hc h
    refine awp_skip ?_
    refine awp_seq ?_
    refine awp_region ?_
    refine rv rfl rfl ?_
    refine rb rfl rfl ?_
    refine rv rfl rfl ?_
    refine rn ?_
    refine awp_seq ?_
    refine awp_region ?_
    refine rvs 4 rfl ?_
    obtain ⟨x2, hx2, h⟩ := bi h
    refine aops_conv (fun _ _ _ _ _ hi => nilS_cell false 1 1 0 rfl hi) ?_
    refine rh [1, 2] rfl rfl (dwire_writer_number_l hx2) rfl rfl rfl (zC rfl rfl rfl rfl (trivial)) (zE rfl .row rfl (trivial)) ?_
    refine ek ?_
    refine as1 rfl ?_
    refine ae rfl rfl rfl ?_
    refine rn ?_
    refine awp_seq ?_
    refine awp_seq ?_
    refine awp_region ?_
    refine rvs 2 rfl ?_
    refine rn ?_
    obtain ⟨o3, ho4, h⟩ := bi h
    refine awp_cut1 (fun x => x = o3) (fun (l1 : Str) => ⟨[(4, .ptr 0 0)], [(0, 0, .own 1)], [(1, .row 1 (l1.map cU8))], 2⟩) ?_ ?_
    · refine awp_block ?_
      refine awp_seq ?_
      refine awp_region ?_
      refine rvs 2 rfl ?_
      refine rn ?_
      refine cs_ rfl (fun hc => ?_) (fun hc => ?_)
      · have ho4 := cT hc ho4
        refine awp_seq ?_
        refine awp_region ?_
        refine rvs 4 rfl ?_
        obtain ⟨x3, hx5, ho4⟩ := bi ho4
        refine rh [1, 3] rfl rfl (dwire_writer_number_l hx5) rfl rfl rfl (zC rfl rfl rfl rfl (trivial)) (zE rfl .row rfl (trivial)) ?_
        refine ek ?_
        refine as1 rfl ?_
        refine ae rfl rfl rfl ?_
        refine rn ?_
        refine awp_seq ?_
        refine awp_region ?_
        refine rvs 4 rfl ?_
        obtain ⟨x4, hx6, ho4⟩ := bi ho4
        refine rh [1, 4] rfl rfl (dwire_writer_number_l hx6) rfl rfl rfl (zC rfl rfl rfl rfl (trivial)) (zE rfl .row rfl (trivial)) ?_
        refine ek ?_
        refine as1 rfl ?_
        refine ae rfl rfl rfl ?_
        refine rn ?_
        refine awp_seq ?_
        refine awp_region ?_
        refine rvs 4 rfl ?_
        obtain ⟨x5, hx7, ho4⟩ := bi ho4
        refine rh [1, 5] rfl rfl (dwire_writer_number_l hx7) rfl rfl rfl (zC rfl rfl rfl rfl (trivial)) (zE rfl .row rfl (trivial)) ?_
        refine ek ?_
        refine as1 rfl ?_
        refine ae rfl rfl rfl ?_
        refine rn ?_
        refine awp_seq ?_
        refine awp_seq ?_
        refine awp_region ?_
        refine rvs 12 rfl ?_
        refine rbs false rfl rfl rfl rfl rfl rfl rfl rfl rfl rfl ?_
        refine rv rfl rfl ?_
        refine rt ((lM (cI .i64) [m1.Rect.X1, m1.Rect.Y1, m1.Rect.X2, m1.Rect.Y2])) ?_
        refine rv rfl rfl ?_
        refine rn ?_
        obtain ⟨e8, hl9, ho4⟩ := bi ho4
        refine awp_cut1 (fun x => x = e8) (fun (l4 : Str) => ⟨[(1, .ptr 0 0), (4, .ptr 1 0)], [(0, 0, .int .i64 m1.Kind), (0, 1, .int .i64 m1.Sub), (0, 2, .int .i64 m1.Version), (0, 3, .int .i64 m1.Home), (0, 4, .int .i64 m1.Rect.X1), (0, 5, .int .i64 m1.Rect.Y1), (0, 6, .int .i64 m1.Rect.X2), (0, 7, .int .i64 m1.Rect.Y2), (0, 8, .str (sB m1.Filter)), (0, 9, .int .i64 m1.Event.Pub), (0, 10, .int .u32 m1.Event.Seq), (0, 11, .int .i64 m1.Event.At.X), (0, 12, .int .i64 m1.Event.At.Y), (0, 13, .sl (m1.Event.Attrs.map c_tAttr)), (1, 0, .own 2)], [(2, .row 1 (l4.map cU8))], 3⟩) ?_ ?_
        · refine awp_block ?_
          refine awp_loopD hl9 (fun (((x6, l2)) : Int × Str) => ⟨[(1, .ptr 0 0), (4, .ptr 1 0), (53, .own 2), (54, .int .i64 ([m1.Rect.X1, m1.Rect.Y1, m1.Rect.X2, m1.Rect.Y2].length : Int)), (55, .int .i64 x6)], [(0, 0, .int .i64 m1.Kind), (0, 1, .int .i64 m1.Sub), (0, 2, .int .i64 m1.Version), (0, 3, .int .i64 m1.Home), (0, 4, .int .i64 m1.Rect.X1), (0, 5, .int .i64 m1.Rect.Y1), (0, 6, .int .i64 m1.Rect.X2), (0, 7, .int .i64 m1.Rect.Y2), (0, 8, .str (sB m1.Filter)), (0, 9, .int .i64 m1.Event.Pub), (0, 10, .int .u32 m1.Event.Seq), (0, 11, .int .i64 m1.Event.At.X), (0, 12, .int .i64 m1.Event.At.Y), (0, 13, .sl (m1.Event.Attrs.map c_tAttr)), (1, 0, .own 3)], [(2, .row 1 ([m1.Rect.X1, m1.Rect.Y1, m1.Rect.X2, m1.Rect.Y2].map (cI .i64))), (3, .row 1 (l2.map cU8))], 4⟩) [0, 1, 7, 6] rfl ⟨rfl, rfl, zA rfl rfl rfl (zA rfl rfl rfl (zA rfl rfl rfl (zA rfl rfl rfl (zA rfl rfl rfl (trivial))))), zC rfl rfl rfl rfl (zC rfl rfl rfl rfl (zC rfl rfl rfl rfl (zC rfl rfl rfl rfl (zC rfl rfl rfl rfl (zC rfl rfl rfl rfl (zC rfl rfl rfl rfl (zC rfl rfl rfl rfl (zC rfl rfl rfl rfl (zC rfl rfl rfl rfl (zC rfl rfl rfl rfl (zC rfl rfl rfl rfl (zC rfl rfl rfl rfl (zC rfl rfl rfl rfl (zC rfl rfl rfl rfl (trivial))))))))))))))), zE rfl .row rfl (zE rfl .row rfl (trivial))⟩ ?_
          intro v o12 ho10 hE11
          obtain ⟨x6, l2⟩ := v
          change awp _ _ _ _ _ ⟨_, _, _, _⟩
          refine awp_seq ?_
          refine awp_region ?_
          refine rv rfl rfl ?_
          refine rn ?_
          refine awp_seq ?_
          refine cs_ rfl (fun hc => ?_) (fun hc => ?_)
          · have ho10 := cT hc ho10
            refine awp_skip ?_
            refine awp_seq ?_
            refine awp_block ?_
            refine awp_seq ?_
            refine awp_region ?_
            obtain ⟨n1, hx13, ho10⟩ := bi ho10
            refine ri rfl rfl rfl rfl rfl rfl (gi0 hx13) (giM (cI .i64) hx13) (wM (fun _ => by rfl) _) ?_
            refine rvs 2 rfl ?_
            refine rn ?_
            refine awp_region ?_
            refine rvs 2 rfl ?_
            obtain ⟨x8, hx14, ho10⟩ := bi ho10
            refine rh [1, 3] rfl rfl (dwire_writer_signed_l hx14) rfl rfl rfl (zC rfl rfl rfl rfl (trivial)) (zE rfl .row rfl (trivial)) ?_
            refine ek ?_
            refine as1 rfl ?_
            refine ae rfl rfl rfl ?_
            refine rn ?_
            refine inBlock_normal ?_
            refine awp_region ?_
            refine rvs 2 rfl ?_
            refine rn ?_
            cases ho10
            exact lp_n [0, 1, 2, 4] rfl rfl ⟨rfl, rfl, zA rfl rfl rfl (zA rfl rfl rfl (zA rfl rfl rfl (zA rfl rfl rfl (zA rfl rfl rfl (trivial))))), zC rfl rfl rfl rfl (zC rfl rfl rfl rfl (zC rfl rfl rfl rfl (zC rfl rfl rfl rfl (zC rfl rfl rfl rfl (zC rfl rfl rfl rfl (zC rfl rfl rfl rfl (zC rfl rfl rfl rfl (zC rfl rfl rfl rfl (zC rfl rfl rfl rfl (zC rfl rfl rfl rfl (zC rfl rfl rfl rfl (zC rfl rfl rfl rfl (zC rfl rfl rfl rfl (zC rfl rfl rfl rfl (trivial))))))))))))))), zE rfl .row rfl (zE rfl .row rfl (trivial))⟩
          · have ho10 := cF hc ho10
            refine awp_exit ?_
            repeat (first | refine then_exit ?_ | refine cut_x ?_ | refine inBlock_other rfl ?_)
            refine inBlock_exit ?_
            cases ho10
            have hq := hE11 _ rfl
            subst hq
            exact cut_n [0, 1, 3] rfl rfl ⟨rfl, rfl, zA rfl rfl rfl (zA rfl rfl rfl (trivial)), zC rfl rfl rfl rfl (zC rfl rfl rfl rfl (zC rfl rfl rfl rfl (zC rfl rfl rfl rfl (zC rfl rfl rfl rfl (zC rfl rfl rfl rfl (zC rfl rfl rfl rfl (zC rfl rfl rfl rfl (zC rfl rfl rfl rfl (zC rfl rfl rfl rfl (zC rfl rfl rfl rfl (zC rfl rfl rfl rfl (zC rfl rfl rfl rfl (zC rfl rfl rfl rfl (zC rfl rfl rfl rfl (trivial))))))))))))))), zE rfl .row rfl (trivial)⟩
        · rintro l4 rfl
          change awp _ _ _ _ _ ⟨_, _, _, _⟩
          refine awp_region ?_
          refine rvs 3 rfl ?_
          obtain ⟨x9, hx15, ho4⟩ := bi ho4
          refine rh [1, 2] rfl rfl (dwire_writer_text_l hx15) rfl rfl rfl (zC rfl rfl rfl rfl (trivial)) (zE rfl .row rfl (trivial)) ?_
          refine ek ?_
          refine as1 rfl ?_
          refine ae rfl rfl rfl ?_
          refine rn ?_
          refine inBlock_normal ?_
          cases ho4
          exact cut_n [1, 3] rfl rfl ⟨rfl, rfl, zA rfl rfl rfl (trivial), zC rfl rfl rfl rfl (trivial), zE rfl .row rfl (trivial)⟩
      · have ho4 := cF hc ho4
        refine awp_seq ?_
        refine awp_region ?_
        refine rvs 2 rfl ?_
        refine rn ?_
        refine cs_ rfl (fun hc => ?_) (fun hc => ?_)
        · have ho4 := cT hc ho4
          refine awp_seq ?_
          refine awp_region ?_
          refine rvs 4 rfl ?_
          obtain ⟨x10, hx16, ho4⟩ := bi ho4
          refine rh [1, 3] rfl rfl (dwire_writer_number_l hx16) rfl rfl rfl (zC rfl rfl rfl rfl (trivial)) (zE rfl .row rfl (trivial)) ?_
          refine ek ?_
          refine as1 rfl ?_
          refine ae rfl rfl rfl ?_
          refine rn ?_
          refine awp_region ?_
          refine rvs 4 rfl ?_
          obtain ⟨x11, hx17, ho4⟩ := bi ho4
          refine rh [1, 4] rfl rfl (dwire_writer_number_l hx17) rfl rfl rfl (zC rfl rfl rfl rfl (trivial)) (zE rfl .row rfl (trivial)) ?_
          refine ek ?_
          refine as1 rfl ?_
          refine ae rfl rfl rfl ?_
          refine rn ?_
          refine inBlock_normal ?_
          cases ho4
          exact cut_n [1, 5] rfl rfl ⟨rfl, rfl, zA rfl rfl rfl (trivial), zC rfl rfl rfl rfl (trivial), zE rfl .row rfl (trivial)⟩
        · have ho4 := cF hc ho4
          refine awp_seq ?_
          refine awp_region ?_
          refine rvs 2 rfl ?_
          refine rn ?_
          refine cs_ rfl (fun hc => ?_) (fun hc => ?_)
          · have ho4 := cT hc ho4
            refine awp_seq ?_
            refine awp_region ?_
            refine rvs 4 rfl ?_
            obtain ⟨x12, hx18, ho4⟩ := bi ho4
            refine rh [1, 3] rfl rfl (dwire_writer_number_l hx18) rfl rfl rfl (zC rfl rfl rfl rfl (trivial)) (zE rfl .row rfl (trivial)) ?_
            refine ek ?_
            refine as1 rfl ?_
            refine ae rfl rfl rfl ?_
            refine rn ?_
            refine awp_region ?_
            refine rvs 3 rfl ?_
            obtain ⟨x13, hx19, ho4⟩ := bi ho4
            refine rh [1, 4] rfl rfl (dwire_writer_event_l hx19) rfl rfl rfl (zC rfl rfl rfl rfl (trivial)) (zE rfl .row rfl (trivial)) ?_
            refine ek ?_
            refine as1 rfl ?_
            refine ae rfl rfl rfl ?_
            refine rn ?_
            refine inBlock_normal ?_
            cases ho4
            exact cut_n [1, 5] rfl rfl ⟨rfl, rfl, zA rfl rfl rfl (trivial), zC rfl rfl rfl rfl (trivial), zE rfl .row rfl (trivial)⟩
          · have ho4 := cF hc ho4
            refine awp_region ?_
            refine rvs 3 rfl ?_
            obtain ⟨x14, hx20, ho4⟩ := bi ho4
            refine rh [1, 3] rfl rfl (dwire_writer_event_l hx20) rfl rfl rfl (zC rfl rfl rfl rfl (trivial)) (zE rfl .row rfl (trivial)) ?_
            refine ek ?_
            refine as1 rfl ?_
            refine ae rfl rfl rfl ?_
            refine rn ?_
            refine inBlock_normal ?_
            cases ho4
            exact cut_n [1, 4] rfl rfl ⟨rfl, rfl, zA rfl rfl rfl (trivial), zC rfl rfl rfl rfl (trivial), zE rfl .row rfl (trivial)⟩
    · rintro l1 rfl
      change awp _ _ _ _ _ ⟨_, _, _, _⟩
      refine awp_seq ?_
      refine awp_region ?_
      refine rvs 6 rfl ?_
      refine rn ?_
      refine awp_conv (fun _ _ _ _ _ hi => err_slot 31 3 none rfl hi) ?_
      refine awp_ret ?_
      cases h
      repeat (first | refine then_ret ?_ | refine inBlock_ret ?_ | refine cut_r ?_)
      exact rr rfl rfl rfl
end

/-- `(*plover/wire.reader).fail` -/
def dwire_reader_fail (fu : Nat) (r1 : twirereader) (is1 : Bool) (err1 : Er) : Option twirereader :=
  (bif is1 then some r1.Err.isNone else some false : Option Bool).bind fun (x1 : Bool) => (bif x1 then some (twirereader.mk r1.B err1) else some r1)
section
attribute [local irreducible] awp aops DP PCall ACall Decidable.decide
theorem dwire_reader_fail_l {fu : Nat} {r1 : twirereader} {is1 : Bool} {err1 : Er} {r : twirereader} (h : dwire_reader_fail fu r1 is1 err1 = some r) : ACall Try.prog 54 1 [.ptr 0 0, .bool is1, .err 31 err1] [(0, 0, .sl (r1.B.map cU8)), (0, 1, .err 31 r1.Err)] [] (fun r_ H_ O_ n_ => r_ = .tup [] ∧ H_ = [(0, 0, .sl (r.B.map cU8)), (0, 1, .err 31 r.Err)] ∧ O_ = [] ∧ n_ = 1) := by
  rw [dwire_reader_fail] at h
  refine acall_body Try.func54 rfl (by kernel_rfl) (by rfl) ?_
  refine awp_seq ?_
  obtain ⟨o1, ho2, h⟩ := bi h
  refine awp_cut1 (fun x => x = o1) (fun (x1 : Bool) => ⟨[(0, .ptr 0 0), (2, .err 31 err1), (13, .bool x1)], [(0, 0, .sl (r1.B.map cU8)), (0, 1, .err 31 r1.Err)], [], 1⟩) ?_ ?_
  · refine awp_region ?_
    refine rvs 2 rfl ?_
    refine gs rfl rfl rfl rfl rfl (fun hg => ?_) (fun hg => ?_)
    · have ho2 := cT hg ho2
      refine rv rfl rfl ?_
      refine gy rfl rfl rfl ?_
      refine rv rfl rfl ?_
      refine gy rfl rfl rfl ?_
      refine rv rfl rfl ?_
      refine gy rfl rfl rfl ?_
      refine rv rfl rfl ?_
      refine gy rfl rfl rfl ?_
      refine rV rfl (va_enil rfl rfl rfl) ?_
      refine rv rfl rfl ?_
      refine rn ?_
      cases ho2
      exact cut_n [0] rfl rfl ⟨rfl, rfl, zA rfl rfl rfl (zA rfl rfl rfl (zA rfl rfl rfl (trivial))), zC rfl rfl rfl rfl (zC rfl rfl rfl rfl (trivial)), trivial⟩
    · have ho2 := cF hg ho2
      refine gn rfl rfl rfl rfl rfl ?_
      refine gn rfl rfl rfl rfl rfl ?_
      refine gn rfl rfl rfl rfl rfl ?_
      refine gn rfl rfl rfl rfl rfl ?_
      refine rv rfl rfl ?_
      refine rn ?_
      cases ho2
      exact cut_n [0] rfl rfl ⟨rfl, rfl, zA rfl rfl rfl (zA rfl rfl rfl (zA rfl rfl rfl (trivial))), zC rfl rfl rfl rfl (zC rfl rfl rfl rfl (trivial)), trivial⟩
  · rintro x1 rfl
    change awp _ _ _ _ _ ⟨_, _, _, _⟩
    refine cs_ rfl (fun hc => ?_) (fun hc => ?_)
    · have h := cT hc h
      refine awp_region ?_
      refine rvs 4 rfl ?_
      refine rs rfl rfl rfl rfl rfl rfl rfl ?_
      refine rn ?_
      have h := Option.some.inj h
      subst h
      exact rrA' (r := .tup []) [0] [(0, 0, .sl (r1.B.map cU8)), (0, 1, .err 31 err1)] [] rfl rfl rfl rfl (zC rfl rfl rfl rfl (zC rfl rfl rfl rfl (trivial))) (trivial) ⟨rfl, rfl, rfl, rfl⟩
    · have h := cF hc h
      refine awp_skip ?_
      have h := Option.some.inj h
      subst h
      exact rrA' (r := .tup []) [0] [(0, 0, .sl (r1.B.map cU8)), (0, 1, .err 31 r1.Err)] [] rfl rfl rfl rfl (zC rfl rfl rfl rfl (zC rfl rfl rfl rfl (trivial))) (trivial) ⟨rfl, rfl, rfl, rfl⟩
end

/-- `(*plover/wire.reader).number` -/
def dwire_reader_number (fu : Nat) (r1 : twirereader) (most1 : Int) : Option (Int × twirereader) :=
  (loopD (ε := Int × Int × Str × Er) (τ := (Int × Str × Er) ⊕ (Int × twirereader)) (fun (((u1, i1, r2, r3)) : Int × Int × Str × Er) => (bif r3.isNone then (bif ((r2.length : Int) == 0) then some (Sum.inr (Sum.inr (0, (twirereader.mk r2 (some 6))))) else ((gi r2 0).bind fun x1 => (gsl r2 1 (r2.length : Int)).bind fun l1 => (bif (i1 == 9) then ((dwire_reader_fail fu (twirereader.mk l1 r3) (decide ((x1.toNat : Int) > 1)) (some 7)).bind fun x2 => some (x2.B, x2.Err)) else ((dwire_reader_fail fu (twirereader.mk l1 r3) false (some 7)).bind fun x3 => some (x3.B, x3.Err)) : Option (Str × Er)).bind fun (((r8, r9)) : Str × Er) => ((remV .u8 (x1.toNat : Int) 128).bind fun q1 => (shlO .u64 (IntKind.wrap .u64 q1) (W (7 * i1))).bind fun q2 => (some (bits .or .u64 u1 q2)).bind fun u4 => bif (decide ((x1.toNat : Int) < 128)) then ((bif ((x1.toNat : Int) == 0) then (bif (decide (i1 > 0)) then ((dwire_reader_fail fu (twirereader.mk r8 r9) true (some 7)).bind fun x5 => some (x5.B, x5.Err)) else ((dwire_reader_fail fu (twirereader.mk r8 r9) (decide (u4 > most1)) (some 7)).bind fun x4 => some (x4.B, x4.Err))) else ((dwire_reader_fail fu (twirereader.mk r8 r9) (decide (u4 > most1)) (some 7)).bind fun x6 => some (x6.B, x6.Err)) : Option (Str × Er)).bind fun (((r10, r11)) : Str × Er) => some (Sum.inr (Sum.inl (u4, r10, r11)))) else some (Sum.inl (u4, W (i1 + 1), r8, r9))))) else some (Sum.inr (Sum.inl (u1, r2, r3))))) fu (0, 0, r1.B, r1.Err)).bind fun o => kS o fun (((u3, r6, r7)) : Int × Str × Er) => (bif r7.isSome then some (0, (twirereader.mk r6 r7)) else some (u3, (twirereader.mk r6 r7)))
section
attribute [local irreducible] awp aops DP PCall ACall Decidable.decide
theorem dwire_reader_number_l {fu : Nat} {r1 : twirereader} {most1 : Int} {r : Int × twirereader} (h : dwire_reader_number fu r1 most1 = some r) : ACall Try.prog 53 1 [.ptr 0 0, .int .u64 most1] [(0, 0, .sl (r1.B.map cU8)), (0, 1, .err 31 r1.Err)] [] (fun r_ H_ O_ n_ => r_ = .int .u64 r.1 ∧ H_ = [(0, 0, .sl (r.2.B.map cU8)), (0, 1, .err 31 r.2.Err)] ∧ O_ = [] ∧ n_ = 1) := by
  rw [dwire_reader_number] at h
  refine acall_body Try.func53 rfl (by kernel_rfl) (by rfl) ?_
  refine awp_seq ?_
  refine awp_region ?_
  refine rv rfl rfl ?_
  refine rn ?_
  refine awp_seq ?_
  refine awp_region ?_
  refine rv rfl rfl ?_
  refine rn ?_
  refine awp_seq ?_
  refine awp_seq ?_
  refine awp_region ?_
  refine rv rfl rfl ?_
  refine rn ?_
  obtain ⟨e1, hl2, h⟩ := bi h
  refine awp_cut1 (fun x => Sum.inl x = e1) (fun (((u3, r6, r7)) : Int × Str × Er) => ⟨[(0, .ptr 0 0), (5, .int .u64 u3)], [(0, 0, .sl (r6.map cU8)), (0, 1, .err 31 r7)], [], 1⟩) ?_ ?_
  · refine awp_block ?_
    refine awp_loopD hl2 (fun (((u1, i1, r2, r3)) : Int × Int × Str × Er) => ⟨[(0, .ptr 0 0), (1, .int .u64 most1), (5, .int .u64 u1), (6, .int .i64 i1)], [(0, 0, .sl (r2.map cU8)), (0, 1, .err 31 r3)], [], 1⟩) [0] rfl ⟨rfl, rfl, zA rfl rfl rfl (zA rfl rfl rfl (zA rfl rfl rfl (zA rfl rfl rfl (trivial)))), zC rfl rfl rfl rfl (zC rfl rfl rfl rfl (trivial)), trivial⟩ ?_
    intro v o5 ho3 hE4
    obtain ⟨u1, i1, r2, r3⟩ := v
    change awp _ _ _ _ _ ⟨_, _, _, _⟩
    refine awp_seq ?_
    refine awp_seq ?_
    refine awp_region ?_
    refine rvs 4 rfl ?_
    refine rV rfl (va_enil rfl rfl rfl) ?_
    refine rn ?_
    refine cs_ rfl (fun hc => ?_) (fun hc => ?_)
    · have ho3 := cT hc ho3
      refine awp_skip ?_
      refine awp_seq ?_
      refine awp_block ?_
      refine awp_seq ?_
      refine awp_seq ?_
      refine awp_region ?_
      refine rvs 4 rfl ?_
      refine rv rfl rfl ?_
      refine rt ((lM cU8 r2)) ?_
      refine rv rfl rfl ?_
      refine rn ?_
      refine cs_ rfl (fun hc => ?_) (fun hc => ?_)
      · have ho3 := cT hc ho3
        refine awp_seq ?_
        refine awp_region ?_
        refine rvs 4 rfl ?_
        refine rs rfl rfl rfl rfl rfl rfl rfl ?_
        refine rn ?_
        refine awp_seq ?_
        refine awp_region ?_
        refine rv rfl rfl ?_
        refine rn ?_
        refine awp_conv (fun _ _ _ _ _ hi => err_cell 31 0 1 (some 6) rfl hi) ?_
        refine awp_ret ?_
        cases ho3
        have hq := hE4 _ rfl
        subst hq
        have h := ksr h
        subst h
        repeat (first | refine then_ret ?_ | refine inBlock_ret ?_ | refine cut_r ?_)
        exact rrA (r := .int .u64 0) [0] [(0, 0, .sl (r2.map cU8)), (0, 1, .err 31 (some 6))] [] rfl rfl rfl rfl (zC rfl rfl rfl rfl (zC rfl rfl rfl rfl (trivial))) (trivial) ⟨rfl, rfl, rfl, rfl⟩
      · have ho3 := cF hc ho3
        refine awp_skip ?_
        refine awp_seq ?_
        refine awp_region ?_
        refine rvs 4 rfl ?_
        obtain ⟨x1, hx6, ho3⟩ := bi ho3
        refine ri rfl rfl rfl rfl rfl rfl (gi0 hx6) (giM cU8 hx6) (wM (fun _ => by rfl) _) ?_
        refine rvs 2 rfl ?_
        refine rn ?_
        refine awp_seq ?_
        refine awp_region ?_
        refine rvs 5 rfl ?_
        obtain ⟨l1, hx7, ho3⟩ := bi ho3
        refine rV rfl (va_slsub (c := cU8) rfl rfl rfl rfl ⟨_, rfl⟩ rfl hx7 (fun _ => rfl)) ?_
        refine rvs 2 rfl ?_
        refine rs rfl rfl rfl rfl rfl rfl rfl ?_
        refine rn ?_
        refine awp_seq ?_
        obtain ⟨o8, ho9, ho3⟩ := bi ho3
        refine awp_cut1 (fun x => x = o8) (fun (((r8, r9)) : Str × Er) => ⟨[(0, .ptr 0 0), (1, .int .u64 most1), (5, .int .u64 u1), (6, .int .i64 i1), (7, .int .u8 (x1.toNat : Int))], [(0, 0, .sl (r8.map cU8)), (0, 1, .err 31 r9)], [], 1⟩) ?_ ?_
        · refine awp_region ?_
          refine rvs 4 rfl ?_
          refine gs rfl rfl rfl rfl rfl (fun hg => ?_) (fun hg => ?_)
          · have ho9 := cT hg ho9
            refine rv rfl rfl ?_
            refine gy rfl rfl rfl ?_
            refine rv rfl rfl ?_
            refine rvs 2 rfl ?_
            obtain ⟨x2, hx10, ho9⟩ := bi ho9
            refine aops_conv (fun _ _ _ _ _ hi => err_slot 31 46 (some 7) rfl hi) ?_
            refine rh [0] rfl rfl (dwire_reader_fail_l hx10) rfl rfl rfl (zC rfl rfl rfl rfl (zC rfl rfl rfl rfl (trivial))) (trivial) ?_
            refine ek ?_
            refine as1 rfl ?_
            refine ae rfl rfl rfl ?_
            refine rn ?_
            cases ho9
            exact cut_n [0] rfl rfl ⟨rfl, rfl, zA rfl rfl rfl (zA rfl rfl rfl (zA rfl rfl rfl (zA rfl rfl rfl (zA rfl rfl rfl (trivial))))), zC rfl rfl rfl rfl (zC rfl rfl rfl rfl (trivial)), trivial⟩
          · have ho9 := cF hg ho9
            refine gn rfl rfl rfl rfl rfl ?_
            refine rvs 2 rfl ?_
            obtain ⟨x3, hx11, ho9⟩ := bi ho9
            refine aops_conv (fun _ _ _ _ _ hi => err_slot 31 46 (some 7) rfl hi) ?_
            refine rh [0] rfl rfl (dwire_reader_fail_l hx11) rfl rfl rfl (zC rfl rfl rfl rfl (zC rfl rfl rfl rfl (trivial))) (trivial) ?_
            refine ek ?_
            refine as1 rfl ?_
            refine ae rfl rfl rfl ?_
            refine rn ?_
            cases ho9
            exact cut_n [0] rfl rfl ⟨rfl, rfl, zA rfl rfl rfl (zA rfl rfl rfl (zA rfl rfl rfl (zA rfl rfl rfl (zA rfl rfl rfl (trivial))))), zC rfl rfl rfl rfl (zC rfl rfl rfl rfl (trivial)), trivial⟩
        · rintro ⟨r8, r9⟩ rfl
          change awp _ _ _ _ _ ⟨_, _, _, _⟩
          refine awp_seq ?_
          refine awp_region ?_
          refine rvs 2 rfl ?_
          obtain ⟨q1, hx12, ho3⟩ := bi ho3
          refine rV rfl (va_rem rfl rfl hx12) ?_
          refine rvs 3 rfl ?_
          obtain ⟨q2, hx13, ho3⟩ := bi ho3
          refine rV rfl (va_shl rfl rfl hx13) ?_
          refine rvs 2 rfl ?_
          obtain ⟨u4, hx14, ho3⟩ := bs ho3
          refine rt (ei' hx14) ?_
          refine rn ?_
          refine awp_seq ?_
          refine awp_region ?_
          refine rvs 2 rfl ?_
          refine rn ?_
          refine cs_ rfl (fun hc => ?_) (fun hc => ?_)
          · have ho3 := cT hc ho3
            refine awp_seq ?_
            obtain ⟨o15, ho16, ho3⟩ := bi ho3
            refine awp_cut1 (fun x => x = o15) (fun (((r10, r11)) : Str × Er) => ⟨[(0, .ptr 0 0), (5, .int .u64 u4)], [(0, 0, .sl (r10.map cU8)), (0, 1, .err 31 r11)], [], 1⟩) ?_ ?_
            · refine awp_region ?_
              refine rvs 4 rfl ?_
              refine gs rfl rfl rfl rfl rfl (fun hg => ?_) (fun hg => ?_)
              · have ho16 := cT hg ho16
                refine rv rfl rfl ?_
                refine gy rfl rfl rfl ?_
                refine rv rfl rfl ?_
                refine rvs 2 rfl ?_
                refine gs rfl rfl rfl rfl rfl (fun hg => ?_) (fun hg => ?_)
                · have ho16 := cF hg ho16
                  refine rv rfl rfl ?_
                  refine gy rfl rfl rfl ?_
                  refine rv rfl rfl ?_
                  refine gy rfl rfl rfl ?_
                  refine rv rfl rfl ?_
                  refine rvs 2 rfl ?_
                  obtain ⟨x4, hx17, ho16⟩ := bi ho16
                  refine aops_conv (fun _ _ _ _ _ hi => err_slot 31 70 (some 7) rfl hi) ?_
                  refine rh [0] rfl rfl (dwire_reader_fail_l hx17) rfl rfl rfl (zC rfl rfl rfl rfl (zC rfl rfl rfl rfl (trivial))) (trivial) ?_
                  refine ek ?_
                  refine as1 rfl ?_
                  refine ae rfl rfl rfl ?_
                  refine rn ?_
                  cases ho16
                  exact cut_n [0] rfl rfl ⟨rfl, rfl, zA rfl rfl rfl (zA rfl rfl rfl (trivial)), zC rfl rfl rfl rfl (zC rfl rfl rfl rfl (trivial)), trivial⟩
                · have ho16 := cT hg ho16
                  refine gn rfl rfl rfl rfl rfl ?_
                  refine gn rfl rfl rfl rfl rfl ?_
                  refine rvs 2 rfl ?_
                  obtain ⟨x5, hx18, ho16⟩ := bi ho16
                  refine aops_conv (fun _ _ _ _ _ hi => err_slot 31 70 (some 7) rfl hi) ?_
                  refine rh [0] rfl rfl (dwire_reader_fail_l hx18) rfl rfl rfl (zC rfl rfl rfl rfl (zC rfl rfl rfl rfl (trivial))) (trivial) ?_
                  refine ek ?_
                  refine as1 rfl ?_
                  refine ae rfl rfl rfl ?_
                  refine rn ?_
                  cases ho16
                  exact cut_n [0] rfl rfl ⟨rfl, rfl, zA rfl rfl rfl (zA rfl rfl rfl (trivial)), zC rfl rfl rfl rfl (zC rfl rfl rfl rfl (trivial)), trivial⟩
              · have ho16 := cF hg ho16
                refine gn rfl rfl rfl rfl rfl ?_
                refine rvs 2 rfl ?_
                refine gy rfl rfl rfl ?_
                refine rv rfl rfl ?_
                refine gy rfl rfl rfl ?_
                refine rv rfl rfl ?_
                refine gy rfl rfl rfl ?_
                refine rv rfl rfl ?_
                refine rvs 2 rfl ?_
                obtain ⟨x6, hx19, ho16⟩ := bi ho16
                refine aops_conv (fun _ _ _ _ _ hi => err_slot 31 70 (some 7) rfl hi) ?_
                refine rh [0] rfl rfl (dwire_reader_fail_l hx19) rfl rfl rfl (zC rfl rfl rfl rfl (zC rfl rfl rfl rfl (trivial))) (trivial) ?_
                refine ek ?_
                refine as1 rfl ?_
                refine ae rfl rfl rfl ?_
                refine rn ?_
                cases ho16
                exact cut_n [0] rfl rfl ⟨rfl, rfl, zA rfl rfl rfl (zA rfl rfl rfl (trivial)), zC rfl rfl rfl rfl (zC rfl rfl rfl rfl (trivial)), trivial⟩
            · rintro ⟨r10, r11⟩ rfl
              change awp _ _ _ _ _ ⟨_, _, _, _⟩
              refine awp_exit ?_
              repeat (first | refine then_exit ?_ | refine cut_x ?_ | refine inBlock_other rfl ?_)
              refine inBlock_exit ?_
              cases ho3
              have hq := hE4 _ rfl
              subst hq
              exact cut_n [0] rfl rfl ⟨rfl, rfl, zA rfl rfl rfl (zA rfl rfl rfl (trivial)), zC rfl rfl rfl rfl (zC rfl rfl rfl rfl (trivial)), trivial⟩
          · have ho3 := cF hc ho3
            refine awp_skip ?_
            refine inBlock_normal ?_
            refine awp_region ?_
            refine rvs 3 rfl ?_
            refine rn ?_
            cases ho3
            exact lp_n [0] rfl rfl ⟨rfl, rfl, zA rfl rfl rfl (zA rfl rfl rfl (zA rfl rfl rfl (zA rfl rfl rfl (trivial)))), zC rfl rfl rfl rfl (zC rfl rfl rfl rfl (trivial)), trivial⟩
    · have ho3 := cF hc ho3
      refine awp_exit ?_
      repeat (first | refine then_exit ?_ | refine cut_x ?_ | refine inBlock_other rfl ?_)
      refine inBlock_exit ?_
      cases ho3
      have hq := hE4 _ rfl
      subst hq
      exact cut_n [0] rfl rfl ⟨rfl, rfl, zA rfl rfl rfl (zA rfl rfl rfl (trivial)), zC rfl rfl rfl rfl (zC rfl rfl rfl rfl (trivial)), trivial⟩
  · rintro ⟨u3, r6, r7⟩ rfl
    have h := ksl h
    change awp _ _ _ _ _ ⟨_, _, _, _⟩
    refine awp_seq ?_
    refine awp_seq ?_
    refine awp_region ?_
    refine rvs 4 rfl ?_
    refine rV rfl (va_ennil rfl rfl rfl) ?_
    refine rn ?_
    refine cs_ rfl (fun hc => ?_) (fun hc => ?_)
    · have h := cT hc h
      refine awp_seq ?_
      refine awp_region ?_
      refine rv rfl rfl ?_
      refine rn ?_
      refine awp_ret ?_
      have h := Option.some.inj h
      subst h
      repeat (first | refine then_ret ?_ | refine inBlock_ret ?_ | refine cut_r ?_)
      exact rrA (r := .int .u64 0) [0] [(0, 0, .sl (r6.map cU8)), (0, 1, .err 31 r7)] [] rfl rfl rfl rfl (zC rfl rfl rfl rfl (zC rfl rfl rfl rfl (trivial))) (trivial) ⟨rfl, rfl, rfl, rfl⟩
    · have h := cF hc h
      refine awp_skip ?_
      refine awp_seq ?_
      refine awp_region ?_
      refine rvs 2 rfl ?_
      refine rn ?_
      refine awp_ret ?_
      have h := Option.some.inj h
      subst h
      repeat (first | refine then_ret ?_ | refine inBlock_ret ?_ | refine cut_r ?_)
      exact rrA (r := .int .u64 u3) [0] [(0, 0, .sl (r6.map cU8)), (0, 1, .err 31 r7)] [] rfl rfl rfl rfl (zC rfl rfl rfl rfl (zC rfl rfl rfl rfl (trivial))) (trivial) ⟨rfl, rfl, rfl, rfl⟩
end

/-- `(*plover/wire.reader).int` -/
def dwire_reader_int (fu : Nat) (r1 : twirereader) : Option (Int × twirereader) :=
  (dwire_reader_number fu r1 2147483647).bind fun x1 => some (W x1.1, x1.2)
section
attribute [local irreducible] awp aops DP PCall ACall Decidable.decide
theorem dwire_reader_int_l {fu : Nat} {r1 : twirereader} {r : Int × twirereader} (h : dwire_reader_int fu r1 = some r) : ACall Try.prog 55 1 [.ptr 0 0] [(0, 0, .sl (r1.B.map cU8)), (0, 1, .err 31 r1.Err)] [] (fun r_ H_ O_ n_ => r_ = .int .i64 r.1 ∧ H_ = [(0, 0, .sl (r.2.B.map cU8)), (0, 1, .err 31 r.2.Err)] ∧ O_ = [] ∧ n_ = 1) := by
  rw [dwire_reader_int] at h
  refine acall_body Try.func55 rfl (by kernel_rfl) (by rfl) ?_
  refine awp_seq ?_
  refine awp_region ?_
  refine rv rfl rfl ?_
  refine rn ?_
  refine awp_seq ?_
  refine awp_region ?_
  refine rv rfl rfl ?_
  obtain ⟨x1, hx1, h⟩ := bi h
  refine rh [0] rfl rfl (dwire_reader_number_l hx1) rfl rfl rfl (zC rfl rfl rfl rfl (zC rfl rfl rfl rfl (trivial))) (trivial) ?_
  refine ek ?_
  refine as1 rfl ?_
  refine ae rfl rfl rfl ?_
  refine rvs 2 rfl ?_
  refine rn ?_
  refine awp_ret ?_
  have h := Option.some.inj h
  subst h
  repeat (first | refine then_ret ?_ | refine inBlock_ret ?_ | refine cut_r ?_)
  exact rrA (r := .int .i64 (W x1.1)) [0] [(0, 0, .sl (x1.2.B.map cU8)), (0, 1, .err 31 x1.2.Err)] [] rfl rfl rfl rfl (zC rfl rfl rfl rfl (zC rfl rfl rfl rfl (trivial))) (trivial) ⟨rfl, rfl, rfl, rfl⟩
end

/-- `(*plover/wire.reader).signed` -/
def dwire_reader_signed (fu : Nat) (r1 : twirereader) : Option (Int × twirereader) :=
  (dwire_reader_number fu r1 18446744073709551615).bind fun u1 => (some (bits .xor .i64 (W (shrV .u64 u1.1 1)) (W (0 - (W (bits .and .u64 u1.1 1)))))).bind fun x1 => some (x1, u1.2)
section
attribute [local irreducible] awp aops DP PCall ACall Decidable.decide
theorem dwire_reader_signed_l {fu : Nat} {r1 : twirereader} {r : Int × twirereader} (h : dwire_reader_signed fu r1 = some r) : ACall Try.prog 56 1 [.ptr 0 0] [(0, 0, .sl (r1.B.map cU8)), (0, 1, .err 31 r1.Err)] [] (fun r_ H_ O_ n_ => r_ = .int .i64 r.1 ∧ H_ = [(0, 0, .sl (r.2.B.map cU8)), (0, 1, .err 31 r.2.Err)] ∧ O_ = [] ∧ n_ = 1) := by
  rw [dwire_reader_signed] at h
  refine acall_body Try.func56 rfl (by kernel_rfl) (by rfl) ?_
  refine awp_seq ?_
  refine awp_region ?_
  refine rv rfl rfl ?_
  refine rn ?_
  refine awp_seq ?_
  refine awp_region ?_
  refine rv rfl rfl ?_
  obtain ⟨u1, hx1, h⟩ := bi h
  refine rh [0] rfl rfl (dwire_reader_number_l hx1) rfl rfl rfl (zC rfl rfl rfl rfl (zC rfl rfl rfl rfl (trivial))) (trivial) ?_
  refine ek ?_
  refine as1 rfl ?_
  refine ae rfl rfl rfl ?_
  refine rv rfl rfl ?_
  refine rn ?_
  refine awp_seq ?_
  refine awp_region ?_
  refine rvs 9 rfl ?_
  obtain ⟨x1, hx2, h⟩ := bs h
  refine rt (ei' hx2) ?_
  refine rn ?_
  refine awp_ret ?_
  have h := Option.some.inj h
  subst h
  repeat (first | refine then_ret ?_ | refine inBlock_ret ?_ | refine cut_r ?_)
  exact rrA (r := .int .i64 x1) [0] [(0, 0, .sl (u1.2.B.map cU8)), (0, 1, .err 31 u1.2.Err)] [] rfl rfl rfl rfl (zC rfl rfl rfl rfl (zC rfl rfl rfl rfl (trivial))) (trivial) ⟨rfl, rfl, rfl, rfl⟩
end

/-- `(*plover/wire.reader).text` -/
def dwire_reader_text (fu : Nat) (r1 : twirereader) (most1 : Int) : Option (Str × twirereader) :=
  (dwire_reader_number fu r1 (IntKind.wrap .u64 most1)).bind fun n1 => (dwire_reader_fail fu n1.2 (decide ((W n1.1) > (n1.2.B.length : Int))) (some 6)).bind fun x1 => bif x1.Err.isSome then some ([], x1) else ((gsl x1.B 0 (W n1.1)).bind fun l1 => (gsl x1.B (W n1.1) (x1.B.length : Int)).bind fun l2 => some (l1, (twirereader.mk l2 x1.Err)))
section
attribute [local irreducible] awp aops DP PCall ACall Decidable.decide
theorem dwire_reader_text_l {fu : Nat} {r1 : twirereader} {most1 : Int} {r : Str × twirereader} (h : dwire_reader_text fu r1 most1 = some r) : ACall Try.prog 57 1 [.ptr 0 0, .int .i64 most1] [(0, 0, .sl (r1.B.map cU8)), (0, 1, .err 31 r1.Err)] [] (fun r_ H_ O_ n_ => r_ = .str (sB r.1) ∧ H_ = [(0, 0, .sl (r.2.B.map cU8)), (0, 1, .err 31 r.2.Err)] ∧ O_ = [] ∧ n_ = 1) := by
  rw [dwire_reader_text] at h
  refine acall_body Try.func57 rfl (by kernel_rfl) (by rfl) ?_
  refine awp_seq ?_
  refine awp_region ?_
  refine rv rfl rfl ?_
  refine rn ?_
  refine awp_seq ?_
  refine awp_region ?_
  refine rvs 3 rfl ?_
  obtain ⟨n1, hx1, h⟩ := bi h
  refine rh [0] rfl rfl (dwire_reader_number_l hx1) rfl rfl rfl (zC rfl rfl rfl rfl (zC rfl rfl rfl rfl (trivial))) (trivial) ?_
  refine ek ?_
  refine as1 rfl ?_
  refine ae rfl rfl rfl ?_
  refine rvs 2 rfl ?_
  refine rn ?_
  refine awp_seq ?_
  refine awp_region ?_
  refine rvs 6 rfl ?_
  refine rv rfl rfl ?_
  refine rt ((lM cU8 n1.2.B)) ?_
  refine rvs 2 rfl ?_
  obtain ⟨x1, hx2, h⟩ := bi h
  refine aops_conv (fun _ _ _ _ _ hi => err_slot 31 20 (some 6) rfl hi) ?_
  refine rh [0] rfl rfl (dwire_reader_fail_l hx2) rfl rfl rfl (zC rfl rfl rfl rfl (zC rfl rfl rfl rfl (trivial))) (trivial) ?_
  refine ek ?_
  refine as1 rfl ?_
  refine ae rfl rfl rfl ?_
  refine rn ?_
  refine awp_seq ?_
  refine awp_seq ?_
  refine awp_region ?_
  refine rvs 4 rfl ?_
  refine rV rfl (va_ennil rfl rfl rfl) ?_
  refine rn ?_
  refine cs_ rfl (fun hc => ?_) (fun hc => ?_)
  · have h := cT hc h
    refine awp_seq ?_
    refine awp_region ?_
    refine rv rfl rfl ?_
    refine rn ?_
    refine awp_ret ?_
    have h := Option.some.inj h
    subst h
    repeat (first | refine then_ret ?_ | refine inBlock_ret ?_ | refine cut_r ?_)
    exact rrA (r := .str (sB [])) [0] [(0, 0, .sl (x1.B.map cU8)), (0, 1, .err 31 x1.Err)] [] rfl rfl rfl rfl (zC rfl rfl rfl rfl (zC rfl rfl rfl rfl (trivial))) (trivial) ⟨rfl, rfl, rfl, rfl⟩
  · have h := cF hc h
    refine awp_skip ?_
    refine awp_seq ?_
    refine awp_region ?_
    refine rvs 5 rfl ?_
    obtain ⟨l1, hx3, h⟩ := bi h
    refine rV rfl (va_slsub (c := cU8) rfl rfl rfl rfl rfl ⟨_, rfl⟩ hx3 (fun _ => rfl)) ?_
    refine rV rfl (va_textS (l := l1) rfl rfl rfl rfl rfl rfl rfl rfl) ?_
    refine rv rfl rfl ?_
    refine rn ?_
    refine awp_seq ?_
    refine awp_region ?_
    refine rvs 6 rfl ?_
    obtain ⟨l2, hx4, h⟩ := bi h
    refine rV rfl (va_slsub (c := cU8) rfl rfl rfl rfl ⟨_, rfl⟩ rfl hx4 (fun _ => rfl)) ?_
    refine rvs 2 rfl ?_
    refine rs rfl rfl rfl rfl rfl rfl rfl ?_
    refine rn ?_
    refine awp_seq ?_
    refine awp_region ?_
    refine rvs 2 rfl ?_
    refine rn ?_
    refine awp_ret ?_
    have h := Option.some.inj h
    subst h
    repeat (first | refine then_ret ?_ | refine inBlock_ret ?_ | refine cut_r ?_)
    exact rrA (r := .str (sB l1)) [0] [(0, 0, .sl (l2.map cU8)), (0, 1, .err 31 x1.Err)] [] rfl rfl rfl rfl (zC rfl rfl rfl rfl (zC rfl rfl rfl rfl (trivial))) (trivial) ⟨rfl, rfl, rfl, rfl⟩
end

/-- `(*plover/wire.reader).attr` -/
def dwire_reader_attr (fu : Nat) (r1 : twirereader) : Option (tAttr × twirereader) :=
  (dwire_reader_text fu r1 200).bind fun x1 => (dwire_reader_number fu x1.2 1).bind fun x2 => bif (x2.1 == 1) then ((dwire_reader_text fu x2.2 200).bind fun x3 => some ((tAttr.mk x1.1 true 0 x3.1), x3.2)) else ((dwire_reader_signed fu x2.2).bind fun x4 => some ((tAttr.mk x1.1 false x4.1 []), x4.2))
section
attribute [local irreducible] awp aops DP PCall ACall Decidable.decide
theorem dwire_reader_attr_l {fu : Nat} {r1 : twirereader} {r : tAttr × twirereader} (h : dwire_reader_attr fu r1 = some r) : ACall Try.prog 88 1 [.ptr 0 0] [(0, 0, .sl (r1.B.map cU8)), (0, 1, .err 31 r1.Err)] [] (fun r_ H_ O_ n_ => r_ = .agg [.str (sB r.1.Name), .bool r.1.Text, .int .i64 r.1.N, .str (sB r.1.S)] ∧ H_ = [(0, 0, .sl (r.2.B.map cU8)), (0, 1, .err 31 r.2.Err)] ∧ O_ = [] ∧ n_ = 1) := by
  rw [dwire_reader_attr] at h
  refine acall_body Try.func88 rfl (by kernel_rfl) (by rfl) ?_
  refine awp_seq ?_
  refine awp_region ?_
  refine ra rfl rfl rfl ?_
  refine rn ?_
  refine awp_seq ?_
  refine awp_region ?_
  refine rv rfl rfl ?_
  obtain ⟨x1, hx1, h⟩ := bi h
  refine rh [0] rfl rfl (dwire_reader_text_l hx1) rfl rfl rfl (zC rfl rfl rfl rfl (zC rfl rfl rfl rfl (trivial))) (trivial) ?_
  refine ek ?_
  refine as1 rfl ?_
  refine ae rfl rfl rfl ?_
  refine rv rfl rfl ?_
  refine ra rfl rfl rfl ?_
  refine rs rfl rfl rfl rfl rfl rfl rfl ?_
  refine rn ?_
  refine awp_seq ?_
  refine awp_seq ?_
  refine awp_region ?_
  refine rv rfl rfl ?_
  obtain ⟨x2, hx2, h⟩ := bi h
  refine rh [0] rfl rfl (dwire_reader_number_l hx2) rfl rfl rfl (zC rfl rfl rfl rfl (zC rfl rfl rfl rfl (trivial))) (trivial) ?_
  refine ek ?_
  refine as1 rfl ?_
  refine ae rfl rfl rfl ?_
  refine rv rfl rfl ?_
  refine rn ?_
  refine cs_ rfl (fun hc => ?_) (fun hc => ?_)
  · have h := cT hc h
    refine awp_region ?_
    refine rv rfl rfl ?_
    obtain ⟨x3, hx3, h⟩ := bi h
    refine rh [0] rfl rfl (dwire_reader_text_l hx3) rfl rfl rfl (zC rfl rfl rfl rfl (zC rfl rfl rfl rfl (trivial))) (trivial) ?_
    refine ek ?_
    refine as1 rfl ?_
    refine ae rfl rfl rfl ?_
    refine rv rfl rfl ?_
    refine rs rfl rfl rfl rfl rfl rfl rfl ?_
    refine rv rfl rfl ?_
    refine rs rfl rfl rfl rfl rfl rfl rfl ?_
    refine rn ?_
    refine awp_seq ?_
    refine awp_region ?_
    refine rv rfl rfl ?_
    refine rs rfl rfl rfl rfl rfl rfl rfl ?_
    refine rn ?_
    refine awp_ret ?_
    have h := Option.some.inj h
    subst h
    repeat (first | refine then_ret ?_ | refine inBlock_ret ?_ | refine cut_r ?_)
    exact rrA (r := .agg [.str (sB x1.1), .bool true, .int .i64 0, .str (sB x3.1)]) [0] [(0, 0, .sl (x3.2.B.map cU8)), (0, 1, .err 31 x3.2.Err)] [] rfl rfl rfl rfl (zC rfl rfl rfl rfl (zC rfl rfl rfl rfl (trivial))) (trivial) ⟨rfl, rfl, rfl, rfl⟩
  · have h := cF hc h
    refine awp_region ?_
    refine rv rfl rfl ?_
    obtain ⟨x4, hx4, h⟩ := bi h
    refine rh [0] rfl rfl (dwire_reader_signed_l hx4) rfl rfl rfl (zC rfl rfl rfl rfl (zC rfl rfl rfl rfl (trivial))) (trivial) ?_
    refine ek ?_
    refine as1 rfl ?_
    refine ae rfl rfl rfl ?_
    refine rv rfl rfl ?_
    refine rs rfl rfl rfl rfl rfl rfl rfl ?_
    refine rn ?_
    refine awp_seq ?_
    refine awp_region ?_
    refine rv rfl rfl ?_
    refine rs rfl rfl rfl rfl rfl rfl rfl ?_
    refine rn ?_
    refine awp_ret ?_
    have h := Option.some.inj h
    subst h
    repeat (first | refine then_ret ?_ | refine inBlock_ret ?_ | refine cut_r ?_)
    exact rrA (r := .agg [.str (sB x1.1), .bool false, .int .i64 x4.1, .str (sB [])]) [0] [(0, 0, .sl (x4.2.B.map cU8)), (0, 1, .err 31 x4.2.Err)] [] rfl rfl rfl rfl (zC rfl rfl rfl rfl (zC rfl rfl rfl rfl (trivial))) (trivial) ⟨rfl, rfl, rfl, rfl⟩
end

/-- `(*plover/wire.reader).event` -/
def dwire_reader_event (fu : Nat) (r1 : twirereader) : Option (tEvent × twirereader) :=
  (dwire_reader_int fu r1).bind fun x1 => (dwire_reader_number fu x1.2 4294967295).bind fun x2 => (dwire_reader_signed fu x2.2).bind fun x3 => (dwire_reader_signed fu x3.2).bind fun x4 => (dwire_reader_number fu x4.2 16).bind fun x5 => (loopD (ε := Int × Str × Er × (List tAttr)) (τ := Str × Er × (List tAttr)) (fun (((x6, r2, r3, l1)) : Int × Str × Er × (List tAttr)) => (bif (decide (x6 < x5.1)) then ((dwire_reader_attr fu (twirereader.mk r2 r3)).bind fun x10 => (ap l1 [x10.1]).bind fun l4 => some (Sum.inl (IntKind.wrap .u64 (x6 + 1), x10.2.B, x10.2.Err, l4))) else some (Sum.inr (r2, r3, l1)))) fu (0, x5.2.B, x5.2.Err, [])).bind fun (((x8, x9, l3)) : Str × Er × (List tAttr)) => some ((tEvent.mk x1.1 (IntKind.wrap .u32 x2.1) (tPoint.mk x3.1 x4.1) l3), (twirereader.mk x8 x9))
section
attribute [local irreducible] awp aops DP PCall ACall Decidable.decide
theorem dwire_reader_event_l {fu : Nat} {r1 : twirereader} {r : tEvent × twirereader} (h : dwire_reader_event fu r1 = some r) : ACall Try.prog 58 1 [.ptr 0 0] [(0, 0, .sl (r1.B.map cU8)), (0, 1, .err 31 r1.Err)] [] (fun r_ H_ O_ n_ => r_ = .agg [.int .i64 r.1.Pub, .int .u32 r.1.Seq, .int .i64 r.1.At.X, .int .i64 r.1.At.Y, .sl (r.1.Attrs.map c_tAttr)] ∧ H_ = [(0, 0, .sl (r.2.B.map cU8)), (0, 1, .err 31 r.2.Err)] ∧ O_ = [] ∧ n_ = 1) := by
  rw [dwire_reader_event] at h
  refine acall_body Try.func58 rfl (by kernel_rfl) (by rfl) ?_
  refine awp_seq ?_
  refine awp_region ?_
  refine ra rfl rfl rfl ?_
  refine rn ?_
  refine awp_seq ?_
  refine awp_region ?_
  refine rv rfl rfl ?_
  obtain ⟨x1, hx1, h⟩ := bi h
  refine rh [0] rfl rfl (dwire_reader_int_l hx1) rfl rfl rfl (zC rfl rfl rfl rfl (zC rfl rfl rfl rfl (trivial))) (trivial) ?_
  refine ek ?_
  refine as1 rfl ?_
  refine ae rfl rfl rfl ?_
  refine rv rfl rfl ?_
  refine ra rfl rfl rfl ?_
  refine rs rfl rfl rfl rfl rfl rfl rfl ?_
  refine rn ?_
  refine awp_seq ?_
  refine awp_region ?_
  refine rv rfl rfl ?_
  obtain ⟨x2, hx2, h⟩ := bi h
  refine rh [0] rfl rfl (dwire_reader_number_l hx2) rfl rfl rfl (zC rfl rfl rfl rfl (zC rfl rfl rfl rfl (trivial))) (trivial) ?_
  refine ek ?_
  refine as1 rfl ?_
  refine ae rfl rfl rfl ?_
  refine rvs 2 rfl ?_
  refine rs rfl rfl rfl rfl rfl rfl rfl ?_
  refine rn ?_
  refine awp_seq ?_
  refine awp_region ?_
  refine rv rfl rfl ?_
  obtain ⟨x3, hx3, h⟩ := bi h
  refine rh [0] rfl rfl (dwire_reader_signed_l hx3) rfl rfl rfl (zC rfl rfl rfl rfl (zC rfl rfl rfl rfl (trivial))) (trivial) ?_
  refine ek ?_
  refine as1 rfl ?_
  refine ae rfl rfl rfl ?_
  refine rvs 2 rfl ?_
  refine rs rfl rfl rfl rfl rfl rfl rfl ?_
  refine rn ?_
  refine awp_seq ?_
  refine awp_region ?_
  refine rv rfl rfl ?_
  obtain ⟨x4, hx4, h⟩ := bi h
  refine rh [0] rfl rfl (dwire_reader_signed_l hx4) rfl rfl rfl (zC rfl rfl rfl rfl (zC rfl rfl rfl rfl (trivial))) (trivial) ?_
  refine ek ?_
  refine as1 rfl ?_
  refine ae rfl rfl rfl ?_
  refine rvs 2 rfl ?_
  refine rs rfl rfl rfl rfl rfl rfl rfl ?_
  refine rn ?_
  refine awp_seq ?_
  refine awp_seq ?_
  refine awp_region ?_
  refine rv rfl rfl ?_
  obtain ⟨x5, hx5, h⟩ := bi h
  refine rh [0] rfl rfl (dwire_reader_number_l hx5) rfl rfl rfl (zC rfl rfl rfl rfl (zC rfl rfl rfl rfl (trivial))) (trivial) ?_
  refine ek ?_
  refine as1 rfl ?_
  refine ae rfl rfl rfl ?_
  refine rv rfl rfl ?_
  refine rn ?_
  refine awp_conv (fun _ _ _ _ _ hi => nilS_cell false 4 2 4 rfl hi) ?_
  obtain ⟨e6, hl7, h⟩ := bi h
  refine awp_cut1 (fun x => x = e6) (fun (((x8, x9, l3)) : Str × Er × (List tAttr)) => ⟨[(2, .ptr 1 0), (3, .ptr 2 0)], [(0, 0, .sl (x8.map cU8)), (0, 1, .err 31 x9), (1, 0, .int .i64 0), (1, 1, .int .u32 0), (1, 2, .int .i64 0), (1, 3, .int .i64 0), (1, 4, .nilS), (2, 0, .int .i64 x1.1), (2, 1, .int .u32 (IntKind.wrap .u32 x2.1)), (2, 2, .int .i64 x3.1), (2, 3, .int .i64 x4.1), (2, 4, .own 3)], [(3, .row 4 (l3.map c_tAttr))], 4⟩) ?_ ?_
  · refine awp_block ?_
    refine awp_loopD hl7 (fun (((x6, r2, r3, l1)) : Int × Str × Er × (List tAttr)) => ⟨[(0, .ptr 0 0), (2, .ptr 1 0), (3, .ptr 2 0), (20, .int .u64 x5.1), (21, .int .u64 x6)], [(0, 0, .sl (r2.map cU8)), (0, 1, .err 31 r3), (1, 0, .int .i64 0), (1, 1, .int .u32 0), (1, 2, .int .i64 0), (1, 3, .int .i64 0), (1, 4, .nilS), (2, 0, .int .i64 x1.1), (2, 1, .int .u32 (IntKind.wrap .u32 x2.1)), (2, 2, .int .i64 x3.1), (2, 3, .int .i64 x4.1), (2, 4, .own 3)], [(3, .row 4 (l1.map c_tAttr))], 4⟩) [0, 1, 2, 3] rfl ⟨rfl, rfl, zA rfl rfl rfl (zA rfl rfl rfl (zA rfl rfl rfl (zA rfl rfl rfl (zA rfl rfl rfl (trivial))))), zC rfl rfl rfl rfl (zC rfl rfl rfl rfl (zC rfl rfl rfl rfl (zC rfl rfl rfl rfl (zC rfl rfl rfl rfl (zC rfl rfl rfl rfl (zC rfl rfl rfl rfl (zC rfl rfl rfl rfl (zC rfl rfl rfl rfl (zC rfl rfl rfl rfl (zC rfl rfl rfl rfl (zC rfl rfl rfl rfl (trivial)))))))))))), zE rfl .row rfl (trivial)⟩ ?_
    intro v o10 ho8 hE9
    obtain ⟨x6, r2, r3, l1⟩ := v
    change awp _ _ _ _ _ ⟨_, _, _, _⟩
    refine awp_seq ?_
    refine awp_region ?_
    refine rv rfl rfl ?_
    refine rn ?_
    refine awp_seq ?_
    refine cs_ rfl (fun hc => ?_) (fun hc => ?_)
    · have ho8 := cT hc ho8
      refine awp_skip ?_
      refine awp_seq ?_
      refine awp_block ?_
      refine awp_dx (m := 7) [] Try.mix (by kernel_rfl) (by kernel_rfl) (by kernel_rfl) (by kernel_rfl) (by kernel_rfl) (by kernel_rfl) ?_
      refine xv [] rfl rfl (fun _ => rfl) ?_
      refine xv [2] rfl rfl (fun _ => rfl) ?_
      refine xv [] rfl rfl (fun _ => rfl) ?_
      obtain ⟨x10, hx11, ho8⟩ := bi ho8
      refine xE [0] (.agg [.str (sB x10.1.Name), .bool x10.1.Text, .int .i64 x10.1.N, .str (sB x10.1.S)]) 4 _ _ rfl rfl (by
          refine rh [0] rfl rfl (dwire_reader_attr_l hx11) rfl rfl rfl (zC rfl rfl rfl rfl (zC rfl rfl rfl rfl (trivial))) (trivial) ?_
          refine ek ?_
          refine as1 rfl ?_
          refine ae rfl rfl rfl ?_
          exact rn ⟨rfl, rfl⟩) (by rfl) (by rfl) (by rfl) ?_
      refine xE [] (.own 4) 5 _ _ rfl rfl (by
          refine rbs false rfl rfl rfl rfl rfl rfl rfl rfl rfl rfl ?_
          exact rn ⟨rfl, rfl⟩) (by rfl) (by rfl) (by rfl) ?_
      obtain ⟨l4, hx12, ho8⟩ := bi ho8
      refine xE [3, 4] (.own 5) 6 _ _ rfl rfl (by
          refine rap false (xs := l1.map c_tAttr) (ys := [x10.1].map c_tAttr) rfl rfl rfl rfl rfl rfl rfl (.own rfl rfl) (.sl rfl rfl rfl) (wM (fun _ => by rfl) _) (oM (fun _ => by rfl) _) (apB c_tAttr rfl hx12) rfl ?_
          refine rk (congrArg (Kind.row _) (apM c_tAttr hx12)) ?_
          exact rn ⟨rfl, rfl⟩) (by rfl) (by rfl) (by rfl) ?_
      refine xv [] rfl rfl (fun _ => rfl) ?_
      refine xn (by kernel_rfl) ?_
      refine rs rfl rfl rfl rfl rfl rfl rfl ?_
      refine rn ?_
      refine inBlock_normal ?_
      refine awp_region ?_
      refine rvs 2 rfl ?_
      refine rn ?_
      cases ho8
      exact lp_n [0, 1, 2, 5] rfl rfl ⟨rfl, rfl, zA rfl rfl rfl (zA rfl rfl rfl (zA rfl rfl rfl (zA rfl rfl rfl (zA rfl rfl rfl (trivial))))), zC rfl rfl rfl rfl (zC rfl rfl rfl rfl (zC rfl rfl rfl rfl (zC rfl rfl rfl rfl (zC rfl rfl rfl rfl (zC rfl rfl rfl rfl (zC rfl rfl rfl rfl (zC rfl rfl rfl rfl (zC rfl rfl rfl rfl (zC rfl rfl rfl rfl (zC rfl rfl rfl rfl (zC rfl rfl rfl rfl (trivial)))))))))))), zE rfl .row rfl (trivial)⟩
    · have ho8 := cF hc ho8
      refine awp_exit ?_
      repeat (first | refine then_exit ?_ | refine cut_x ?_ | refine inBlock_other rfl ?_)
      refine inBlock_exit ?_
      cases ho8
      have hq := hE9 _ rfl
      subst hq
      exact cut_n [0, 1, 2, 3] rfl rfl ⟨rfl, rfl, zA rfl rfl rfl (zA rfl rfl rfl (trivial)), zC rfl rfl rfl rfl (zC rfl rfl rfl rfl (zC rfl rfl rfl rfl (zC rfl rfl rfl rfl (zC rfl rfl rfl rfl (zC rfl rfl rfl rfl (zC rfl rfl rfl rfl (zC rfl rfl rfl rfl (zC rfl rfl rfl rfl (zC rfl rfl rfl rfl (zC rfl rfl rfl rfl (zC rfl rfl rfl rfl (trivial)))))))))))), zE rfl .row rfl (trivial)⟩
  · rintro ⟨x8, x9, l3⟩ rfl
    refine awp_seq ?_
    refine awp_region ?_
    refine rv rfl rfl ?_
    refine rs rfl rfl rfl rfl rfl rfl rfl ?_
    refine rn ?_
    refine awp_ret ?_
    have h := Option.some.inj h
    subst h
    repeat (first | refine then_ret ?_ | refine inBlock_ret ?_ | refine cut_r ?_)
    exact rrA (r := .agg [.int .i64 x1.1, .int .u32 (IntKind.wrap .u32 x2.1), .int .i64 x3.1, .int .i64 x4.1, .sl (l3.map c_tAttr)]) [0] [(0, 0, .sl (x8.map cU8)), (0, 1, .err 31 x9)] [] rfl rfl rfl rfl (zC rfl rfl rfl rfl (zC rfl rfl rfl rfl (trivial))) (trivial) ⟨rfl, rfl, rfl, rfl⟩
end

/-- `plover/wire.Get` -/
def dwire_Get (fu : Nat) (b1 : Str) : Option (tMsg × Er) :=
  (dwire_reader_number fu (twirereader.mk b1 none) 4).bind fun x1 => (dwire_reader_fail fu x1.2 ((W x1.1) == 0) (some 7)).bind fun x2 => (bif ((W x1.1) != 3) then ((dwire_reader_int fu x2).bind fun x3 => some (x3.2.B, x3.2.Err, x3.1)) else some (x2.B, x2.Err, 0) : Option (Str × Er × Int)).bind fun (((r1, r2, m1)) : Str × Er × Int) => ((bif ((W x1.1) == 1) then ((dwire_reader_int fu (twirereader.mk r1 r2)).bind fun x4 => (dwire_reader_int fu x4.2).bind fun x5 => (dwire_reader_signed fu x5.2).bind fun x6 => (dwire_reader_signed fu x6.2).bind fun x7 => (dwire_reader_signed fu x7.2).bind fun x8 => (dwire_reader_signed fu x8.2).bind fun x9 => (dwire_reader_text fu x9.2 500).bind fun x10 => some (x10.2.B, x10.2.Err, x4.1, x5.1, x6.1, x7.1, x8.1, x9.1, x10.1, 0, 0, 0, 0, [])) else (bif ((W x1.1) == 2) then ((dwire_reader_int fu (twirereader.mk r1 r2)).bind fun x11 => some (x11.2.B, x11.2.Err, x11.1, 0, 0, 0, 0, 0, [], 0, 0, 0, 0, [])) else ((dwire_reader_event fu (twirereader.mk r1 r2)).bind fun x12 => some (x12.2.B, x12.2.Err, 0, 0, 0, 0, 0, 0, [], x12.1.Pub, x12.1.Seq, x12.1.At.X, x12.1.At.Y, x12.1.Attrs))) : Option (Str × Er × Int × Int × Int × Int × Int × Int × Str × Int × Int × Int × Int × (List tAttr))).bind fun (((r3, r4, m2, m3, m4, m5, m6, m7, m8, m9, m10, m11, m12, m13)) : Str × Er × Int × Int × Int × Int × Int × Int × Str × Int × Int × Int × Int × (List tAttr)) => ((bif (decide ((r3.length : Int) > 0)) then ((dwire_reader_fail fu (twirereader.mk r3 r4) true (some 7)).bind fun x15 => some (x15.B, x15.Err)) else ((dwire_May fu (tMsg.mk (W x1.1) m1 m2 m3 (tRect.mk m4 m5 m6 m7) m8 (tEvent.mk m9 m10 (tPoint.mk m11 m12) m13))).bind fun x13 => (dwire_reader_fail fu (twirereader.mk r3 r4) (!x13) (some 7)).bind fun x14 => some (x14.B, x14.Err)) : Option (Str × Er)).bind fun (((r5, r6)) : Str × Er) => (bif r6.isSome then some ((tMsg.mk 0 0 0 0 (tRect.mk 0 0 0 0) [] (tEvent.mk 0 0 (tPoint.mk 0 0) [])), r6) else some ((tMsg.mk (W x1.1) m1 m2 m3 (tRect.mk m4 m5 m6 m7) m8 (tEvent.mk m9 m10 (tPoint.mk m11 m12) m13)), none))))
section
attribute [local irreducible] awp aops DP PCall ACall Decidable.decide
theorem dwire_Get_l {fu : Nat} {b1 : Str} {r : tMsg × Er} (h : dwire_Get fu b1 = some r) : PCall Try.prog 33 [.sl (b1.map cU8)] (· = .tup [.agg [.int .i64 r.1.Kind, .int .i64 r.1.Sub, .int .i64 r.1.Version, .int .i64 r.1.Home, .int .i64 r.1.Rect.X1, .int .i64 r.1.Rect.Y1, .int .i64 r.1.Rect.X2, .int .i64 r.1.Rect.Y2, .str (sB r.1.Filter), .int .i64 r.1.Event.Pub, .int .u32 r.1.Event.Seq, .int .i64 r.1.Event.At.X, .int .i64 r.1.Event.At.Y, .sl (r.1.Event.Attrs.map c_tAttr)], .err 31 r.2]) := by
  rw [dwire_Get] at h
  refine pcall_body Try.func33 rfl (by kernel_rfl) (by rfl) ?_
  refine awp_seq ?_
  refine awp_region ?_
  refine ra rfl rfl rfl ?_
  refine rv rfl rfl ?_
  refine rn ?_
  refine awp_seq ?_
  refine awp_region ?_
  refine rvs 2 rfl ?_
  refine rb rfl rfl ?_
  refine rv rfl rfl ?_
  refine rn ?_
  refine awp_seq ?_
  refine awp_region ?_
  refine rv rfl rfl ?_
  obtain ⟨x1, hx1, h⟩ := bi h
  refine aops_conv (fun _ _ _ _ _ hi => err_cell 31 1 1 none rfl hi) ?_
  refine rh [1] rfl rfl (dwire_reader_number_l hx1) rfl rfl rfl (zC rfl rfl rfl rfl (zC rfl rfl rfl rfl (trivial))) (trivial) ?_
  refine ek ?_
  refine as1 rfl ?_
  refine ae rfl rfl rfl ?_
  refine rvs 2 rfl ?_
  refine ra rfl rfl rfl ?_
  refine rs rfl rfl rfl rfl rfl rfl rfl ?_
  refine rn ?_
  refine awp_seq ?_
  refine awp_region ?_
  refine rvs 5 rfl ?_
  obtain ⟨x2, hx2, h⟩ := bi h
  refine aops_conv (fun _ _ _ _ _ hi => err_slot 31 17 (some 7) rfl hi) ?_
  refine rh [1] rfl rfl (dwire_reader_fail_l hx2) rfl rfl rfl (zC rfl rfl rfl rfl (zC rfl rfl rfl rfl (trivial))) (trivial) ?_
  refine ek ?_
  refine as1 rfl ?_
  refine ae rfl rfl rfl ?_
  refine rn ?_
  refine awp_seq ?_
  refine awp_seq ?_
  refine awp_region ?_
  refine rvs 3 rfl ?_
  refine rn ?_
  obtain ⟨o3, ho4, h⟩ := bi h
  refine awp_cut1 (fun x => x = o3) (fun (((r1, r2, m1)) : Str × Er × Int) => ⟨[(2, .ptr 0 0), (4, .ptr 1 0), (5, .ptr 2 0)], [(0, 0, .int .i64 0), (0, 1, .int .i64 0), (0, 2, .int .i64 0), (0, 3, .int .i64 0), (0, 4, .int .i64 0), (0, 5, .int .i64 0), (0, 6, .int .i64 0), (0, 7, .int .i64 0), (0, 8, .str (sB [])), (0, 9, .int .i64 0), (0, 10, .int .u32 0), (0, 11, .int .i64 0), (0, 12, .int .i64 0), (0, 13, .nilS), (1, 0, .sl (r1.map cU8)), (1, 1, .err 31 r2), (2, 0, .int .i64 (W x1.1)), (2, 1, .int .i64 m1), (2, 2, .int .i64 0), (2, 3, .int .i64 0), (2, 4, .int .i64 0), (2, 5, .int .i64 0), (2, 6, .int .i64 0), (2, 7, .int .i64 0), (2, 8, .str (sB [])), (2, 9, .int .i64 0), (2, 10, .int .u32 0), (2, 11, .int .i64 0), (2, 12, .int .i64 0), (2, 13, .nilS)], [], 3⟩) ?_ ?_
  · refine cs_ rfl (fun hc => ?_) (fun hc => ?_)
    · have ho4 := cT hc ho4
      refine awp_region ?_
      refine rv rfl rfl ?_
      obtain ⟨x3, hx5, ho4⟩ := bi ho4
      refine rh [1] rfl rfl (dwire_reader_int_l hx5) rfl rfl rfl (zC rfl rfl rfl rfl (zC rfl rfl rfl rfl (trivial))) (trivial) ?_
      refine ek ?_
      refine as1 rfl ?_
      refine ae rfl rfl rfl ?_
      refine rv rfl rfl ?_
      refine rs rfl rfl rfl rfl rfl rfl rfl ?_
      refine rn ?_
      cases ho4
      exact cut_n [0, 1, 2] rfl rfl ⟨rfl, rfl, zA rfl rfl rfl (zA rfl rfl rfl (zA rfl rfl rfl (trivial))), zC rfl rfl rfl rfl (zC rfl rfl rfl rfl (zC rfl rfl rfl rfl (zC rfl rfl rfl rfl (zC rfl rfl rfl rfl (zC rfl rfl rfl rfl (zC rfl rfl rfl rfl (zC rfl rfl rfl rfl (zC rfl rfl rfl rfl (zC rfl rfl rfl rfl (zC rfl rfl rfl rfl (zC rfl rfl rfl rfl (zC rfl rfl rfl rfl (zC rfl rfl rfl rfl (zC rfl rfl rfl rfl (zC rfl rfl rfl rfl (zC rfl rfl rfl rfl (zC rfl rfl rfl rfl (zC rfl rfl rfl rfl (zC rfl rfl rfl rfl (zC rfl rfl rfl rfl (zC rfl rfl rfl rfl (zC rfl rfl rfl rfl (zC rfl rfl rfl rfl (zC rfl rfl rfl rfl (zC rfl rfl rfl rfl (zC rfl rfl rfl rfl (zC rfl rfl rfl rfl (zC rfl rfl rfl rfl (zC rfl rfl rfl rfl (trivial)))))))))))))))))))))))))))))), trivial⟩
    · have ho4 := cF hc ho4
      refine awp_skip ?_
      cases ho4
      exact cut_n [0, 1, 2] rfl rfl ⟨rfl, rfl, zA rfl rfl rfl (zA rfl rfl rfl (zA rfl rfl rfl (trivial))), zC rfl rfl rfl rfl (zC rfl rfl rfl rfl (zC rfl rfl rfl rfl (zC rfl rfl rfl rfl (zC rfl rfl rfl rfl (zC rfl rfl rfl rfl (zC rfl rfl rfl rfl (zC rfl rfl rfl rfl (zC rfl rfl rfl rfl (zC rfl rfl rfl rfl (zC rfl rfl rfl rfl (zC rfl rfl rfl rfl (zC rfl rfl rfl rfl (zC rfl rfl rfl rfl (zC rfl rfl rfl rfl (zC rfl rfl rfl rfl (zC rfl rfl rfl rfl (zC rfl rfl rfl rfl (zC rfl rfl rfl rfl (zC rfl rfl rfl rfl (zC rfl rfl rfl rfl (zC rfl rfl rfl rfl (zC rfl rfl rfl rfl (zC rfl rfl rfl rfl (zC rfl rfl rfl rfl (zC rfl rfl rfl rfl (zC rfl rfl rfl rfl (zC rfl rfl rfl rfl (zC rfl rfl rfl rfl (zC rfl rfl rfl rfl (trivial)))))))))))))))))))))))))))))), trivial⟩
  · rintro ⟨r1, r2, m1⟩ rfl
    change awp _ _ _ _ _ ⟨_, _, _, _⟩
    refine awp_seq ?_
    refine awp_seq ?_
    refine awp_region ?_
    refine rvs 2 rfl ?_
    refine rn ?_
    obtain ⟨o6, ho7, h⟩ := bi h
    refine awp_cut1 (fun x => x = o6) (fun (((r3, r4, m2, m3, m4, m5, m6, m7, m8, m9, m10, m11, m12, m13)) : Str × Er × Int × Int × Int × Int × Int × Int × Str × Int × Int × Int × Int × (List tAttr)) => ⟨[(2, .ptr 0 0), (4, .ptr 1 0), (5, .ptr 2 0)], [(0, 0, .int .i64 0), (0, 1, .int .i64 0), (0, 2, .int .i64 0), (0, 3, .int .i64 0), (0, 4, .int .i64 0), (0, 5, .int .i64 0), (0, 6, .int .i64 0), (0, 7, .int .i64 0), (0, 8, .str (sB [])), (0, 9, .int .i64 0), (0, 10, .int .u32 0), (0, 11, .int .i64 0), (0, 12, .int .i64 0), (0, 13, .nilS), (1, 0, .sl (r3.map cU8)), (1, 1, .err 31 r4), (2, 0, .int .i64 (W x1.1)), (2, 1, .int .i64 m1), (2, 2, .int .i64 m2), (2, 3, .int .i64 m3), (2, 4, .int .i64 m4), (2, 5, .int .i64 m5), (2, 6, .int .i64 m6), (2, 7, .int .i64 m7), (2, 8, .str (sB m8)), (2, 9, .int .i64 m9), (2, 10, .int .u32 m10), (2, 11, .int .i64 m11), (2, 12, .int .i64 m12), (2, 13, .sl (m13.map c_tAttr))], [], 3⟩) ?_ ?_
    · refine awp_block ?_
      refine awp_seq ?_
      refine awp_region ?_
      refine rvs 2 rfl ?_
      refine rn ?_
      refine cs_ rfl (fun hc => ?_) (fun hc => ?_)
      · have ho7 := cT hc ho7
        refine awp_seq ?_
        refine awp_region ?_
        refine rv rfl rfl ?_
        obtain ⟨x4, hx8, ho7⟩ := bi ho7
        refine rh [1] rfl rfl (dwire_reader_int_l hx8) rfl rfl rfl (zC rfl rfl rfl rfl (zC rfl rfl rfl rfl (trivial))) (trivial) ?_
        refine ek ?_
        refine as1 rfl ?_
        refine ae rfl rfl rfl ?_
        refine rv rfl rfl ?_
        refine rs rfl rfl rfl rfl rfl rfl rfl ?_
        refine rn ?_
        refine awp_seq ?_
        refine awp_region ?_
        refine rv rfl rfl ?_
        obtain ⟨x5, hx9, ho7⟩ := bi ho7
        refine rh [1] rfl rfl (dwire_reader_int_l hx9) rfl rfl rfl (zC rfl rfl rfl rfl (zC rfl rfl rfl rfl (trivial))) (trivial) ?_
        refine ek ?_
        refine as1 rfl ?_
        refine ae rfl rfl rfl ?_
        refine rv rfl rfl ?_
        refine rs rfl rfl rfl rfl rfl rfl rfl ?_
        refine rn ?_
        refine awp_seq ?_
        refine awp_region ?_
        refine rv rfl rfl ?_
        obtain ⟨x6, hx10, ho7⟩ := bi ho7
        refine rh [1] rfl rfl (dwire_reader_signed_l hx10) rfl rfl rfl (zC rfl rfl rfl rfl (zC rfl rfl rfl rfl (trivial))) (trivial) ?_
        refine ek ?_
        refine as1 rfl ?_
        refine ae rfl rfl rfl ?_
        refine rvs 2 rfl ?_
        refine rs rfl rfl rfl rfl rfl rfl rfl ?_
        refine rn ?_
        refine awp_seq ?_
        refine awp_region ?_
        refine rv rfl rfl ?_
        obtain ⟨x7, hx11, ho7⟩ := bi ho7
        refine rh [1] rfl rfl (dwire_reader_signed_l hx11) rfl rfl rfl (zC rfl rfl rfl rfl (zC rfl rfl rfl rfl (trivial))) (trivial) ?_
        refine ek ?_
        refine as1 rfl ?_
        refine ae rfl rfl rfl ?_
        refine rvs 2 rfl ?_
        refine rs rfl rfl rfl rfl rfl rfl rfl ?_
        refine rn ?_
        refine awp_seq ?_
        refine awp_region ?_
        refine rv rfl rfl ?_
        obtain ⟨x8, hx12, ho7⟩ := bi ho7
        refine rh [1] rfl rfl (dwire_reader_signed_l hx12) rfl rfl rfl (zC rfl rfl rfl rfl (zC rfl rfl rfl rfl (trivial))) (trivial) ?_
        refine ek ?_
        refine as1 rfl ?_
        refine ae rfl rfl rfl ?_
        refine rvs 2 rfl ?_
        refine rs rfl rfl rfl rfl rfl rfl rfl ?_
        refine rn ?_
        refine awp_seq ?_
        refine awp_region ?_
        refine rv rfl rfl ?_
        obtain ⟨x9, hx13, ho7⟩ := bi ho7
        refine rh [1] rfl rfl (dwire_reader_signed_l hx13) rfl rfl rfl (zC rfl rfl rfl rfl (zC rfl rfl rfl rfl (trivial))) (trivial) ?_
        refine ek ?_
        refine as1 rfl ?_
        refine ae rfl rfl rfl ?_
        refine rvs 2 rfl ?_
        refine rs rfl rfl rfl rfl rfl rfl rfl ?_
        refine rn ?_
        refine awp_region ?_
        refine rv rfl rfl ?_
        obtain ⟨x10, hx14, ho7⟩ := bi ho7
        refine rh [1] rfl rfl (dwire_reader_text_l hx14) rfl rfl rfl (zC rfl rfl rfl rfl (zC rfl rfl rfl rfl (trivial))) (trivial) ?_
        refine ek ?_
        refine as1 rfl ?_
        refine ae rfl rfl rfl ?_
        refine rv rfl rfl ?_
        refine rs rfl rfl rfl rfl rfl rfl rfl ?_
        refine rn ?_
        refine inBlock_normal ?_
        cases ho7
        exact cut_n [0, 1, 2] rfl rfl ⟨rfl, rfl, zA rfl rfl rfl (zA rfl rfl rfl (zA rfl rfl rfl (trivial))), zC rfl rfl rfl rfl (zC rfl rfl rfl rfl (zC rfl rfl rfl rfl (zC rfl rfl rfl rfl (zC rfl rfl rfl rfl (zC rfl rfl rfl rfl (zC rfl rfl rfl rfl (zC rfl rfl rfl rfl (zC rfl rfl rfl rfl (zC rfl rfl rfl rfl (zC rfl rfl rfl rfl (zC rfl rfl rfl rfl (zC rfl rfl rfl rfl (zC rfl rfl rfl rfl (zC rfl rfl rfl rfl (zC rfl rfl rfl rfl (zC rfl rfl rfl rfl (zC rfl rfl rfl rfl (zC rfl rfl rfl rfl (zC rfl rfl rfl rfl (zC rfl rfl rfl rfl (zC rfl rfl rfl rfl (zC rfl rfl rfl rfl (zC rfl rfl rfl rfl (zC rfl rfl rfl rfl (zC rfl rfl rfl rfl (zC rfl rfl rfl rfl (zC rfl rfl rfl rfl (zC rfl rfl rfl rfl (zD rfl rfl rfl rfl (trivial)))))))))))))))))))))))))))))), trivial⟩
      · have ho7 := cF hc ho7
        refine awp_seq ?_
        refine awp_region ?_
        refine rvs 2 rfl ?_
        refine rn ?_
        refine cs_ rfl (fun hc => ?_) (fun hc => ?_)
        · have ho7 := cT hc ho7
          refine awp_region ?_
          refine rv rfl rfl ?_
          obtain ⟨x11, hx15, ho7⟩ := bi ho7
          refine rh [1] rfl rfl (dwire_reader_int_l hx15) rfl rfl rfl (zC rfl rfl rfl rfl (zC rfl rfl rfl rfl (trivial))) (trivial) ?_
          refine ek ?_
          refine as1 rfl ?_
          refine ae rfl rfl rfl ?_
          refine rv rfl rfl ?_
          refine rs rfl rfl rfl rfl rfl rfl rfl ?_
          refine rn ?_
          refine inBlock_normal ?_
          cases ho7
          exact cut_n [0, 1, 2] rfl rfl ⟨rfl, rfl, zA rfl rfl rfl (zA rfl rfl rfl (zA rfl rfl rfl (trivial))), zC rfl rfl rfl rfl (zC rfl rfl rfl rfl (zC rfl rfl rfl rfl (zC rfl rfl rfl rfl (zC rfl rfl rfl rfl (zC rfl rfl rfl rfl (zC rfl rfl rfl rfl (zC rfl rfl rfl rfl (zC rfl rfl rfl rfl (zC rfl rfl rfl rfl (zC rfl rfl rfl rfl (zC rfl rfl rfl rfl (zC rfl rfl rfl rfl (zC rfl rfl rfl rfl (zC rfl rfl rfl rfl (zC rfl rfl rfl rfl (zC rfl rfl rfl rfl (zC rfl rfl rfl rfl (zC rfl rfl rfl rfl (zC rfl rfl rfl rfl (zC rfl rfl rfl rfl (zC rfl rfl rfl rfl (zC rfl rfl rfl rfl (zC rfl rfl rfl rfl (zC rfl rfl rfl rfl (zC rfl rfl rfl rfl (zC rfl rfl rfl rfl (zC rfl rfl rfl rfl (zC rfl rfl rfl rfl (zD rfl rfl rfl rfl (trivial)))))))))))))))))))))))))))))), trivial⟩
        · have ho7 := cF hc ho7
          refine awp_region ?_
          refine rv rfl rfl ?_
          obtain ⟨x12, hx16, ho7⟩ := bi ho7
          refine rh [1] rfl rfl (dwire_reader_event_l hx16) rfl rfl rfl (zC rfl rfl rfl rfl (zC rfl rfl rfl rfl (trivial))) (trivial) ?_
          refine ek ?_
          refine as1 rfl ?_
          refine ae rfl rfl rfl ?_
          refine rv rfl rfl ?_
          refine rs rfl rfl rfl rfl rfl rfl rfl ?_
          refine rn ?_
          refine inBlock_normal ?_
          cases ho7
          exact cut_n [0, 1, 2] rfl rfl ⟨rfl, rfl, zA rfl rfl rfl (zA rfl rfl rfl (zA rfl rfl rfl (trivial))), zC rfl rfl rfl rfl (zC rfl rfl rfl rfl (zC rfl rfl rfl rfl (zC rfl rfl rfl rfl (zC rfl rfl rfl rfl (zC rfl rfl rfl rfl (zC rfl rfl rfl rfl (zC rfl rfl rfl rfl (zC rfl rfl rfl rfl (zC rfl rfl rfl rfl (zC rfl rfl rfl rfl (zC rfl rfl rfl rfl (zC rfl rfl rfl rfl (zC rfl rfl rfl rfl (zC rfl rfl rfl rfl (zC rfl rfl rfl rfl (zC rfl rfl rfl rfl (zC rfl rfl rfl rfl (zC rfl rfl rfl rfl (zC rfl rfl rfl rfl (zC rfl rfl rfl rfl (zC rfl rfl rfl rfl (zC rfl rfl rfl rfl (zC rfl rfl rfl rfl (zC rfl rfl rfl rfl (zC rfl rfl rfl rfl (zC rfl rfl rfl rfl (zC rfl rfl rfl rfl (zC rfl rfl rfl rfl (zC rfl rfl rfl rfl (trivial)))))))))))))))))))))))))))))), trivial⟩
    · rintro ⟨r3, r4, m2, m3, m4, m5, m6, m7, m8, m9, m10, m11, m12, m13⟩ rfl
      change awp _ _ _ _ _ ⟨_, _, _, _⟩
      refine awp_seq ?_
      obtain ⟨o17, ho18, h⟩ := bi h
      refine awp_cut1 (fun x => x = o17) (fun (((r5, r6)) : Str × Er) => ⟨[(2, .ptr 0 0), (4, .ptr 1 0), (5, .ptr 2 0)], [(0, 0, .int .i64 0), (0, 1, .int .i64 0), (0, 2, .int .i64 0), (0, 3, .int .i64 0), (0, 4, .int .i64 0), (0, 5, .int .i64 0), (0, 6, .int .i64 0), (0, 7, .int .i64 0), (0, 8, .str (sB [])), (0, 9, .int .i64 0), (0, 10, .int .u32 0), (0, 11, .int .i64 0), (0, 12, .int .i64 0), (0, 13, .nilS), (1, 0, .sl (r5.map cU8)), (1, 1, .err 31 r6), (2, 0, .int .i64 (W x1.1)), (2, 1, .int .i64 m1), (2, 2, .int .i64 m2), (2, 3, .int .i64 m3), (2, 4, .int .i64 m4), (2, 5, .int .i64 m5), (2, 6, .int .i64 m6), (2, 7, .int .i64 m7), (2, 8, .str (sB m8)), (2, 9, .int .i64 m9), (2, 10, .int .u32 m10), (2, 11, .int .i64 m11), (2, 12, .int .i64 m12), (2, 13, .sl (m13.map c_tAttr))], [], 3⟩) ?_ ?_
      · refine awp_region ?_
        refine rvs 5 rfl ?_
        refine rv rfl rfl ?_
        refine rt ((lM cU8 r3)) ?_
        refine rvs 2 rfl ?_
        refine gs rfl rfl rfl rfl rfl (fun hg => ?_) (fun hg => ?_)
        · have ho18 := cF hg ho18
          refine rv rfl rfl ?_
          refine gy rfl rfl rfl ?_
          obtain ⟨x13, hx19, ho18⟩ := bi ho18
          refine rc1 rfl rfl rfl (dwire_May_l hx19) ?_
          refine gy rfl rfl rfl ?_
          refine rv rfl rfl ?_
          refine rvs 2 rfl ?_
          obtain ⟨x14, hx20, ho18⟩ := bi ho18
          refine aops_conv (fun _ _ _ _ _ hi => err_slot 31 74 (some 7) rfl hi) ?_
          refine rh [1] rfl rfl (dwire_reader_fail_l hx20) rfl rfl rfl (zC rfl rfl rfl rfl (zC rfl rfl rfl rfl (trivial))) (trivial) ?_
          refine ek ?_
          refine as1 rfl ?_
          refine ae rfl rfl rfl ?_
          refine rn ?_
          cases ho18
          exact cut_n [0, 1, 2] rfl rfl ⟨rfl, rfl, zA rfl rfl rfl (zA rfl rfl rfl (zA rfl rfl rfl (trivial))), zC rfl rfl rfl rfl (zC rfl rfl rfl rfl (zC rfl rfl rfl rfl (zC rfl rfl rfl rfl (zC rfl rfl rfl rfl (zC rfl rfl rfl rfl (zC rfl rfl rfl rfl (zC rfl rfl rfl rfl (zC rfl rfl rfl rfl (zC rfl rfl rfl rfl (zC rfl rfl rfl rfl (zC rfl rfl rfl rfl (zC rfl rfl rfl rfl (zC rfl rfl rfl rfl (zC rfl rfl rfl rfl (zC rfl rfl rfl rfl (zC rfl rfl rfl rfl (zC rfl rfl rfl rfl (zC rfl rfl rfl rfl (zC rfl rfl rfl rfl (zC rfl rfl rfl rfl (zC rfl rfl rfl rfl (zC rfl rfl rfl rfl (zC rfl rfl rfl rfl (zC rfl rfl rfl rfl (zC rfl rfl rfl rfl (zC rfl rfl rfl rfl (zC rfl rfl rfl rfl (zC rfl rfl rfl rfl (zC rfl rfl rfl rfl (trivial)))))))))))))))))))))))))))))), trivial⟩
        · have ho18 := cT hg ho18
          refine gn rfl rfl rfl rfl rfl ?_
          refine gn rfl rfl rfl rfl rfl ?_
          refine rvs 2 rfl ?_
          obtain ⟨x15, hx21, ho18⟩ := bi ho18
          refine aops_conv (fun _ _ _ _ _ hi => err_slot 31 74 (some 7) rfl hi) ?_
          refine rh [1] rfl rfl (dwire_reader_fail_l hx21) rfl rfl rfl (zC rfl rfl rfl rfl (zC rfl rfl rfl rfl (trivial))) (trivial) ?_
          refine ek ?_
          refine as1 rfl ?_
          refine ae rfl rfl rfl ?_
          refine rn ?_
          cases ho18
          exact cut_n [0, 1, 2] rfl rfl ⟨rfl, rfl, zA rfl rfl rfl (zA rfl rfl rfl (zA rfl rfl rfl (trivial))), zC rfl rfl rfl rfl (zC rfl rfl rfl rfl (zC rfl rfl rfl rfl (zC rfl rfl rfl rfl (zC rfl rfl rfl rfl (zC rfl rfl rfl rfl (zC rfl rfl rfl rfl (zC rfl rfl rfl rfl (zC rfl rfl rfl rfl (zC rfl rfl rfl rfl (zC rfl rfl rfl rfl (zC rfl rfl rfl rfl (zC rfl rfl rfl rfl (zC rfl rfl rfl rfl (zC rfl rfl rfl rfl (zC rfl rfl rfl rfl (zC rfl rfl rfl rfl (zC rfl rfl rfl rfl (zC rfl rfl rfl rfl (zC rfl rfl rfl rfl (zC rfl rfl rfl rfl (zC rfl rfl rfl rfl (zC rfl rfl rfl rfl (zC rfl rfl rfl rfl (zC rfl rfl rfl rfl (zC rfl rfl rfl rfl (zC rfl rfl rfl rfl (zC rfl rfl rfl rfl (zC rfl rfl rfl rfl (zC rfl rfl rfl rfl (trivial)))))))))))))))))))))))))))))), trivial⟩
      · rintro ⟨r5, r6⟩ rfl
        change awp _ _ _ _ _ ⟨_, _, _, _⟩
        refine awp_seq ?_
        refine awp_seq ?_
        refine awp_region ?_
        refine rvs 4 rfl ?_
        refine rV rfl (va_ennil rfl rfl rfl) ?_
        refine rn ?_
        refine cs_ rfl (fun hc => ?_) (fun hc => ?_)
        · have h := cT hc h
          refine awp_seq ?_
          refine awp_dx (m := 6) [] Try.mix (by kernel_rfl) (by kernel_rfl) (by kernel_rfl) (by kernel_rfl) (by kernel_rfl) (by kernel_rfl) ?_
          refine xv [] rfl rfl (fun _ => rfl) ?_
          refine xv [] rfl rfl (fun _ => rfl) ?_
          refine xv [] rfl rfl (fun _ => rfl) ?_
          refine xv [] rfl rfl (fun _ => rfl) ?_
          refine xv [1] rfl rfl (fun _ => rfl) ?_
          refine xE [0] .any 3 _ _ rfl rfl (by
              refine rs rfl rfl rfl rfl rfl rfl rfl ?_
              exact rn ⟨rfl, rfl⟩) (by rfl) (by rfl) (by rfl) ?_
          refine xn (by kernel_rfl) ?_
          refine rv rfl rfl ?_
          refine rn ?_
          refine awp_ret ?_
          cases h
          repeat (first | refine then_ret ?_ | refine inBlock_ret ?_ | refine cut_r ?_)
          exact rr rfl rfl rfl
        · have h := cF hc h
          refine awp_skip ?_
          refine awp_seq ?_
          refine awp_region ?_
          refine rv rfl rfl ?_
          refine rs rfl rfl rfl rfl rfl rfl rfl ?_
          refine rv rfl rfl ?_
          refine rn ?_
          refine awp_conv (fun _ _ _ _ _ hi => err_slot 31 3 none rfl hi) ?_
          refine awp_ret ?_
          cases h
          repeat (first | refine then_ret ?_ | refine inBlock_ret ?_ | refine cut_r ?_)
          exact rr rfl rfl rfl
end

end Go.Proofs.Ytaekecbadkcggaa
