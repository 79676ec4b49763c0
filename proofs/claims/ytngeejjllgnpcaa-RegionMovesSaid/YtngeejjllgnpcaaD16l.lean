/- Plain functions, and walks, printed by a program of this session's. -/
import Derived.Test.YtngeejjllgnpcaaD16
import Derived.Test.YtngeejjllgnpcaaS16d
import Derived.Test.YtngeejjllgnpcaaPwE
namespace Go.Proofs.Ytngeejjllgnpcaa
open Go.Pv
set_option maxRecDepth 100000
set_option maxHeartbeats 4000000
set_option linter.unusedSimpArgs false
set_option linter.unusedVariables false
set_option linter.unusedSectionVars false

def mvR (g : tRegion) (v : tPoint) : tRegion := match g.Poly with
  | [] => ⟨⟨W (g.Rect.X1 + v.X), W (g.Rect.Y1 + v.Y), W (g.Rect.X2 + v.X), W (g.Rect.Y2 + v.Y)⟩, []⟩
  | _ :: _ => ⟨⟨0, 0, 0, 0⟩, g.Poly.map fun p => ⟨(mv (v.X, v.Y) (p.X, p.Y)).1, (mv (v.X, v.Y) (p.X, p.Y)).2⟩⟩
def mayT (g : tRegion) : Bool := mayG g.Rect.X1 g.Rect.Y1 g.Rect.X2 g.Rect.Y2 (ptL g.Poly)
def okT' (g : tRegion) (v : tPoint) : Bool := okG g.Rect.X1 g.Rect.Y1 g.Rect.X2 g.Rect.Y2 (ptL g.Poly) (v.X, v.Y)
def mvO (g : tRegion) (v : tPoint) : tRegion × Er := bif mayT g then (bif okT' g v then (mvR g v, none) else (⟨⟨0, 0, 0, 0⟩, []⟩, some 11)) else (⟨⟨0, 0, 0, 0⟩, []⟩, some 1)
def dregion_Move (fu : Nat) (g : tRegion) (v : tPoint) : Option (tRegion × Er) := if g.Poly.length ≤ maxLen then some (mvO g v) else none
theorem pcall_err {P : Program} {f : FuncId} {args : List AV} {x : AV} {t : TypeId} {e : Er} (h : PCall P f args (· = .tup [x, errK t e])) : PCall P f args (· = .tup [x, .err t e]) :=
  ⟨h.1, fun w top vals ht hlay hr => (h.2 w top vals ht hlay hr).mono fun e' w' ⟨v, r, top', h1, h2, h3, h4⟩ => ⟨v, _, top', h1, rfl, by
    subst h2
    obtain ⟨vs, hv, hl⟩ := h3
    obtain ⟨a, l1, rfl, ha, b, l2, rfl, hb, rfl⟩ := hl
    exact ⟨_, hv, a, _, rfl, ha, b, _, rfl, err_rep.2 hb, rfl⟩, h4⟩⟩
theorem mvO_av (g : tRegion) (v : tPoint) : moveGO (mayT g) (okT' g v) g.Rect.X1 g.Rect.Y1 g.Rect.X2 g.Rect.Y2 (ptL g.Poly) (v.X, v.Y) = .tup [.agg (c_tRegion (mvO g v).1), errK 35 (mvO g v).2] := by
  unfold mvO
  cases mayT g with
  | false => cases okT' g v <;> rfl
  | true =>
    cases okT' g v with
    | false => rfl
    | true =>
      cases g with
      | mk r l =>
        cases l with
        | nil => rfl
        | cons q t =>
          show AV.tup [.agg [.int .i64 0, .int .i64 0, .int .i64 0, .int .i64 0, .sl (rows ((ptL (q :: t)).map (mv (v.X, v.Y))))], .nilI] = _
          unfold rows ptL
          rw [List.map_map, List.map_map]
          simp only [cond_true, mvR, c_tRegion, List.map_map]
          rfl
theorem dregion_Move_l {fu : Nat} {g : tRegion} {v : tPoint} {r : tRegion × Er} (h : dregion_Move fu g v = some r) : PCall Try.prog 45 [.agg (c_tRegion g), .agg (c_tPoint v)] (· = .tup [.agg (c_tRegion r.1), .err 35 r.2]) := by
  unfold dregion_Move at h
  split at h
  · rename_i hl
    cases h
    have := moveG_c (a := g.Rect.X1) (b := g.Rect.Y1) (c := g.Rect.X2) (d := g.Rect.Y2) (l := ptL g.Poly) (v := (v.X, v.Y)) (m := mayT g) (ok := okT' g v) (by unfold ptL; rw [List.length_map]; exact hl) rfl rfl
    rw [rows_ptL, mvO_av] at this
    exact pcall_err this
  · cases h
def dregion_Same (fu : Nat) (g h : tRegion) : Option Bool := if g.Poly.length ≤ maxLen then some (sameG g.Rect.X1 g.Rect.Y1 g.Rect.X2 g.Rect.Y2 (ptL g.Poly) h.Rect.X1 h.Rect.Y1 h.Rect.X2 h.Rect.Y2 (ptL h.Poly)) else none
theorem dregion_Same_l {fu : Nat} {g h : tRegion} {r : Bool} (e : dregion_Same fu g h = some r) : PCall Try.prog 32 [.agg (c_tRegion g), .agg (c_tRegion h)] (· = .bool r) := by
  unfold dregion_Same at e
  split at e
  · rename_i hl
    cases e
    have := sameG_c (a := g.Rect.X1) (b := g.Rect.Y1) (c := g.Rect.X2) (d := g.Rect.Y2) (l := ptL g.Poly) (a' := h.Rect.X1) (b' := h.Rect.Y1) (c' := h.Rect.X2) (d' := h.Rect.Y2) (m := ptL h.Poly) (by unfold ptL; rw [List.length_map]; exact hl)
    rw [rows_ptL, rows_ptL] at this
    exact this
  · cases e
def dlaw16_up (fu : Nat) : Option Bool := some true
theorem dlaw16_up_l {fu : Nat} {r : Bool} (h : dlaw16_up fu = some r) : PCall Try.prog 27 [] (· = .bool r) := by
  cases h; exact up16_c

/-- `plover/ploverref15.Few` -/
def dref15_Few (fu : Nat) (g1 : tRegion) : Option Bool :=
  (some (decide ((g1.Poly.length : Int) ≤ 70))).bind fun x1 => some x1
section
attribute [local irreducible] awp aops DP PCall ACall Decidable.decide
theorem dref15_Few_l {fu : Nat} {g1 : tRegion} {r : Bool} (h : dref15_Few fu g1 = some r) : PCall Try.prog 28 [.agg [.int .i64 g1.Rect.X1, .int .i64 g1.Rect.Y1, .int .i64 g1.Rect.X2, .int .i64 g1.Rect.Y2, .sl (g1.Poly.map c_tPoint)]] (· = .bool r) := by
  rw [dref15_Few] at h
  refine pcall_body Try.func28 rfl (by kernel_rfl) (by rfl) ?_
  refine awp_seq ?_
  refine awp_region ?_
  refine rb rfl rfl ?_
  refine rv rfl rfl ?_
  refine rn ?_
  refine awp_seq ?_
  refine awp_region ?_
  refine rvs 2 rfl ?_
  refine rv rfl rfl ?_
  refine rt ((lM c_tPoint g1.Poly)) ?_
  refine rvs 2 rfl ?_
  obtain ⟨x1, hx1, h⟩ := bs h
  refine rt (eb' hx1) ?_
  refine rn ?_
  refine awp_ret ?_
  cases h
  repeat (first | refine then_ret ?_ | refine inBlock_ret ?_ | refine cut_r ?_)
  exact rr rfl rfl rfl
end

/-- `plover/ploverlaw00.Code` -/
def dlaw00_Code (fu : Nat) (err1 : Er) : Option Int :=
  bif err1.isNone then some 0 else ((loopD (ε := Int) (τ := Unit ⊕ Int) (fun (n1 : Int) => (bif (decide (n1 ≤ 12)) then (bif (err1 == some n1) then some (Sum.inr (Sum.inr n1)) else some (Sum.inl (W (n1 + 1)))) else some (Sum.inr (Sum.inl ())))) fu 1).bind fun o => kS o fun (_ : Unit) => some (-1))
section
attribute [local irreducible] awp aops DP PCall ACall Decidable.decide
theorem dlaw00_Code_l {fu : Nat} {err1 : Er} {r : Int} (h : dlaw00_Code fu err1 = some r) : PCall Try.prog 24 [.err 35 err1] (· = .int .i64 r) := by
  rw [dlaw00_Code] at h
  refine pcall_body Try.func24 rfl (by kernel_rfl) (by rfl) ?_
  refine awp_seq ?_
  refine awp_region ?_
  refine rv rfl rfl ?_
  refine rn ?_
  refine awp_seq ?_
  refine awp_seq ?_
  refine awp_region ?_
  refine rv rfl rfl ?_
  refine rV rfl (va_enil rfl rfl rfl) ?_
  refine rn ?_
  refine cs_ rfl (fun hc => ?_) (fun hc => ?_)
  · have h := cT hc h
    refine awp_seq ?_
    refine awp_region ?_
    refine rv rfl rfl ?_
    refine rn ?_
    refine awp_ret ?_
    cases h
    repeat (first | refine then_ret ?_ | refine inBlock_ret ?_ | refine cut_r ?_)
    exact rr rfl rfl rfl
  · have h := cF hc h
    refine awp_skip ?_
    refine awp_seq ?_
    refine awp_seq ?_
    refine awp_region ?_
    refine rv rfl rfl ?_
    refine rn ?_
    obtain ⟨e1, hl2, h⟩ := bi h
    refine awp_cut1 (fun x => Sum.inl x = e1) (fun (_ : Unit) => ⟨[], [], [], 0⟩) ?_ ?_
    · refine awp_block ?_
      refine awp_loopD hl2 (fun (n1 : Int) => ⟨[(0, .err 35 err1), (3, .int .i64 n1)], [], [], 0⟩) [] rfl ⟨rfl, rfl, zA rfl rfl rfl (zA rfl rfl rfl (trivial)), trivial, trivial⟩ ?_
      intro n1 o5 ho3 hE4
      change awp _ _ _ _ _ ⟨_, _, _, _⟩
      refine awp_seq ?_
      refine awp_seq ?_
      refine awp_region ?_
      refine rvs 2 rfl ?_
      refine rn ?_
      refine cs_ rfl (fun hc => ?_) (fun hc => ?_)
      · have ho3 := cT hc ho3
        refine awp_skip ?_
        refine awp_seq ?_
        refine awp_block ?_
        refine awp_seq ?_
        refine awp_region ?_
        refine rvs 3 rfl ?_
        refine rV rfl (va_eeq rfl rfl rfl rfl rfl rfl (fun _ => rfl)) ?_
        refine rn ?_
        refine cs_ rfl (fun hc => ?_) (fun hc => ?_)
        · have ho3 := cT hc ho3
          refine awp_seq ?_
          refine awp_region ?_
          refine rvs 2 rfl ?_
          refine rn ?_
          refine awp_ret ?_
          cases ho3
          have hq := hE4 _ rfl
          subst hq
          have h := ksr h
          subst h
          repeat (first | refine then_ret ?_ | refine inBlock_ret ?_ | refine cut_r ?_)
          exact rr rfl rfl rfl
        · have ho3 := cF hc ho3
          refine awp_skip ?_
          refine inBlock_normal ?_
          refine awp_region ?_
          refine rvs 3 rfl ?_
          refine rn ?_
          cases ho3
          exact lp_n [] rfl rfl ⟨rfl, rfl, zA rfl rfl rfl (zA rfl rfl rfl (trivial)), trivial, trivial⟩
      · have ho3 := cF hc ho3
        refine awp_exit ?_
        repeat (first | refine then_exit ?_ | refine cut_x ?_ | refine inBlock_other rfl ?_)
        refine inBlock_exit ?_
        cases ho3
        have hq := hE4 _ rfl
        subst hq
        exact cut_n [] rfl rfl ⟨rfl, rfl, trivial, trivial, trivial⟩
    · rintro _ rfl
      have h := ksl h
      refine awp_seq ?_
      refine awp_region ?_
      refine rv rfl rfl ?_
      refine rn ?_
      refine awp_ret ?_
      cases h
      repeat (first | refine then_ret ?_ | refine inBlock_ret ?_ | refine cut_r ?_)
      exact rr rfl rfl rfl
end

/-- `plover/ploverlaw16.RegionMoves` -/
def dlaw16_RegionMoves (fu : Nat) (g1 : tRegion) (d1 : tPoint) : Option Bool :=
  (dlaw16_up fu ).bind fun head1 => (dref15_Few fu g1).bind fun few1 => bif (!few1) then some head1 else ((dregion_Move fu g1 d1).bind fun e1 => (dref15_Move fu g1 d1).bind fun bad1 => bif head1 then ((dlaw00_Code fu e1.2).bind fun x1 => bif (x1 == bad1.2) then ((dregion_Same fu e1.1 bad1.1).bind fun x2 => some x2) else some false) else some false)
section
attribute [local irreducible] awp aops DP PCall ACall Decidable.decide
theorem dlaw16_RegionMoves_l {fu : Nat} {g1 : tRegion} {d1 : tPoint} {r : Bool} (h : dlaw16_RegionMoves fu g1 d1 = some r) : PCall Try.prog 9 [.agg [.int .i64 g1.Rect.X1, .int .i64 g1.Rect.Y1, .int .i64 g1.Rect.X2, .int .i64 g1.Rect.Y2, .sl (g1.Poly.map c_tPoint)], .agg [.int .i64 d1.X, .int .i64 d1.Y]] (· = .bool r) := by
  rw [dlaw16_RegionMoves] at h
  refine pcall_body Try.func9 rfl (by kernel_rfl) (by rfl) ?_
  refine awp_seq ?_
  refine awp_region ?_
  refine rb rfl rfl ?_
  refine rb rfl rfl ?_
  refine rv rfl rfl ?_
  refine rn ?_
  refine awp_seq ?_
  refine awp_region ?_
  obtain ⟨head1, hx1, h⟩ := bi h
  refine rc1 rfl rfl rfl (dlaw16_up_l hx1) ?_
  refine rv rfl rfl ?_
  refine rn ?_
  refine awp_seq ?_
  refine awp_region ?_
  refine rv rfl rfl ?_
  obtain ⟨few1, hx2, h⟩ := bi h
  refine rc1 rfl rfl rfl (dref15_Few_l hx2) ?_
  refine rv rfl rfl ?_
  refine rn ?_
  refine awp_seq ?_
  refine awp_seq ?_
  refine awp_region ?_
  refine rvs 2 rfl ?_
  refine rn ?_
  refine cs_ rfl (fun hc => ?_) (fun hc => ?_)
  · have h := cT hc h
    refine awp_seq ?_
    refine awp_region ?_
    refine rvs 2 rfl ?_
    refine rn ?_
    refine awp_ret ?_
    cases h
    repeat (first | refine then_ret ?_ | refine inBlock_ret ?_ | refine cut_r ?_)
    exact rr rfl rfl rfl
  · have h := cF hc h
    refine awp_skip ?_
    refine awp_seq ?_
    refine awp_region ?_
    refine rvs 2 rfl ?_
    obtain ⟨e1, hx3, h⟩ := bi h
    refine rc1 rfl rfl rfl (dregion_Move_l hx3) ?_
    refine rvs 3 rfl ?_
    refine ra rfl rfl rfl ?_
    refine rs rfl rfl rfl rfl rfl rfl rfl ?_
    refine rv rfl rfl ?_
    refine rn ?_
    refine awp_seq ?_
    refine awp_region ?_
    refine rvs 2 rfl ?_
    obtain ⟨bad1, hx4, h⟩ := bi h
    refine rc1 rfl rfl rfl (dref15_Move_l hx4) ?_
    refine rvs 3 rfl ?_
    refine ra rfl rfl rfl ?_
    refine rs rfl rfl rfl rfl rfl rfl rfl ?_
    refine rv rfl rfl ?_
    refine rn ?_
    refine awp_seq ?_
    refine awp_region ?_
    refine rvs 2 rfl ?_
    refine gs rfl rfl rfl rfl rfl (fun hg => ?_) (fun hg => ?_)
    · have h := cT hg h
      refine rv rfl rfl ?_
      refine gy rfl rfl rfl ?_
      obtain ⟨x1, hx5, h⟩ := bi h
      refine rc1 rfl rfl rfl (dlaw00_Code_l hx5) ?_
      refine gy rfl rfl rfl ?_
      refine rv rfl rfl ?_
      refine gy rfl rfl rfl ?_
      refine rv rfl rfl ?_
      refine rvs 2 rfl ?_
      refine gs rfl rfl rfl rfl rfl (fun hg => ?_) (fun hg => ?_)
      · have h := cT hg h
        refine rv rfl rfl ?_
        refine gy rfl rfl rfl ?_
        refine rv rfl rfl ?_
        refine gy rfl rfl rfl ?_
        obtain ⟨x2, hx6, h⟩ := bi h
        refine rc1 rfl rfl rfl (dregion_Same_l hx6) ?_
        refine rvs 2 rfl ?_
        refine rn ?_
        refine awp_ret ?_
        cases h
        repeat (first | refine then_ret ?_ | refine inBlock_ret ?_ | refine cut_r ?_)
        exact rr rfl rfl rfl
      · have h := cF hg h
        refine gn rfl rfl rfl rfl rfl ?_
        refine gn rfl rfl rfl rfl rfl ?_
        refine rvs 2 rfl ?_
        refine rn ?_
        refine awp_ret ?_
        cases h
        repeat (first | refine then_ret ?_ | refine inBlock_ret ?_ | refine cut_r ?_)
        exact rr rfl rfl rfl
    · have h := cF hg h
      refine gn rfl rfl rfl rfl rfl ?_
      refine gn rfl rfl rfl rfl rfl ?_
      refine gn rfl rfl rfl rfl rfl ?_
      refine rvs 2 rfl ?_
      refine gn rfl rfl rfl rfl rfl ?_
      refine gn rfl rfl rfl rfl rfl ?_
      refine gn rfl rfl rfl rfl rfl ?_
      refine rvs 2 rfl ?_
      refine rn ?_
      refine awp_ret ?_
      cases h
      repeat (first | refine then_ret ?_ | refine inBlock_ret ?_ | refine cut_r ?_)
      exact rr rfl rfl rfl
end

end Go.Proofs.Ytngeejjllgnpcaa
