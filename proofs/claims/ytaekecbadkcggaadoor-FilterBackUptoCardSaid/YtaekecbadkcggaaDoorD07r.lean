/- Plain functions, and walks, printed by a program of this session's. -/
import Derived.Test.YtaekecbadkcggaaDoorD07
import Derived.Test.YtaekecbadkcggaaDoorPwE
namespace Go.Proofs.YtaekecbadkcggaaDoor
open Go.Pv
set_option maxRecDepth 100000
set_option maxHeartbeats 4000000
set_option linter.unusedSimpArgs false
set_option linter.unusedVariables false
set_option linter.unusedSectionVars false

mutual
def dref06_count : Nat → tFilter → Int → Option Int
  | 0, _, _ => none
  | fu + 1, f1, most1 => match f1 with | .mk kind1 name1 op1 vals1 l1 => (some (W ((W ((W (most1 - 1)) - (name1.length : Int))) - (op1.length : Int)))).bind fun most2 => (loopD (ε := Int × Int) (τ := Int) (fun (((most3, i1)) : Int × Int) => (bif (decide (i1 < (vals1.length : Int))) then ((gi vals1 i1).bind fun most6 => (gi vals1 i1).bind fun most7 => (some (W ((W ((W (most3 - 1)) - (most6.S.length : Int))) - (most7.Name.length : Int)))).bind fun most8 => some (Sum.inl (most8, W (i1 + 1)))) else some (Sum.inr most3))) fu (most2, 0)).bind fun (most5 : Int) => ((loopD (ε := Int × Int) (τ := Int) (fun (((most9, i3)) : Int × Int) => ((bif (decide (i3 < (l1.length : Int))) then some (decide (most9 ≥ 0)) else some false : Option Bool).bind fun (x1 : Bool) => (bif x1 then ((gi l1 i3).bind fun most12 => match most12 with | .mk kind2 name2 op2 vals2 l2 => (dref06_count fu (tFilter.mk kind2 name2 op2 vals2 l2) most9).bind fun most13 => some (Sum.inl (most13, W (i3 + 1)))) else some (Sum.inr most9)))) fu (most5, 0)).bind fun (most11 : Int) => some most11)
end
section
attribute [local irreducible] awp aops DP PCall ACall Decidable.decide
/-- `plover/ploverref06.count` -/
theorem dref06_count_s {fu : Nat} (ih_dref06_count : ∀ {f1 most1} {r : Int}, dref06_count fu f1 most1 = some r → PCall Tryd.prog 20 [.agg (c_tFilter f1), .int .i64 most1] (· = .int .i64 r)) : ∀ {f1 most1} {r : Int}, dref06_count (fu + 1) f1 most1 = some r → PCall Tryd.prog 20 [.agg (c_tFilter f1), .int .i64 most1] (· = .int .i64 r) := by
  intro f1 most1 r h
  obtain ⟨kind1, name1, op1, vals1, l1⟩ := f1
  rw [dref06_count] at h
  refine pcall_body Tryd.func20 rfl (by kernel_rfl) (by rfl) ?_
  refine awp_seq ?_
  refine awp_region ?_
  refine rb rfl rfl ?_
  refine rv rfl rfl ?_
  refine rn ?_
  refine awp_seq ?_
  refine awp_region ?_
  refine rvs 11 rfl ?_
  obtain ⟨most2, hx1, h⟩ := bs h
  refine rt (ei' hx1) ?_
  refine rn ?_
  refine awp_seq ?_
  refine awp_seq ?_
  refine awp_region ?_
  refine rv rfl rfl ?_
  refine rn ?_
  obtain ⟨e2, hl3, h⟩ := bi h
  refine awp_cut1 (fun x => x = e2) (fun (most5 : Int) => ⟨[(1, .int .i64 most5), (2, .ptr 0 0)], [(0, 0, .int .i64 kind1), (0, 1, .str (sB name1)), (0, 2, .str (sB op1)), (0, 3, .sl (vals1.map c_tAttr)), (0, 4, .sl (cs_tFilter l1))], [], 1⟩) ?_ ?_
  · refine awp_block ?_
    refine awp_loopD hl3 (fun (((most3, i1)) : Int × Int) => ⟨[(1, .int .i64 most3), (2, .ptr 0 0), (5, .int .i64 i1)], [(0, 0, .int .i64 kind1), (0, 1, .str (sB name1)), (0, 2, .str (sB op1)), (0, 3, .sl (vals1.map c_tAttr)), (0, 4, .sl (cs_tFilter l1))], [], 1⟩) [0] rfl ⟨rfl, rfl, zA rfl rfl rfl (zA rfl rfl rfl (zA rfl rfl rfl (trivial))), zC rfl rfl rfl rfl (zC rfl rfl rfl rfl (zC rfl rfl rfl rfl (zC rfl rfl rfl rfl (zC rfl rfl rfl rfl (trivial))))), trivial⟩ ?_
    intro v o6 ho4 hE5
    obtain ⟨most3, i1⟩ := v
    change awp _ _ _ _ _ ⟨_, _, _, _⟩
    refine awp_seq ?_
    refine awp_seq ?_
    refine awp_region ?_
    refine rvs 3 rfl ?_
    refine rv rfl rfl ?_
    refine rt ((lM c_tAttr vals1)) ?_
    refine rv rfl rfl ?_
    refine rn ?_
    refine cs_ rfl (fun hc => ?_) (fun hc => ?_)
    · have ho4 := cT hc ho4
      refine awp_skip ?_
      refine awp_seq ?_
      refine awp_block ?_
      refine awp_dp (m := 18) Tryd.mix (by kernel_rfl) (by kernel_rfl) (by kernel_rfl) (by kernel_rfl) (by kernel_rfl) (by kernel_rfl) (by kernel_rfl) ?_
      refine dv rfl rfl (fun _ => rfl) ?_
      refine dv rfl rfl (fun _ => rfl) ?_
      refine dv rfl rfl (fun _ => rfl) ?_
      refine dv rfl rfl (fun _ => rfl) ?_
      refine dv rfl rfl (fun _ => rfl) ?_
      obtain ⟨most6, hx7, ho4⟩ := bi ho4
      refine di rfl rfl rfl rfl rfl (fun _ => rfl) rfl (gi0 hx7) (giM c_tAttr hx7) (wM (fun _ => by rfl) _) ?_
      refine dv rfl rfl (fun _ => rfl) ?_
      refine dv rfl rfl (fun _ => rfl) ?_
      refine dv rfl rfl (fun _ => rfl) ?_
      refine dv rfl rfl (fun _ => rfl) ?_
      refine dv rfl rfl (fun _ => rfl) ?_
      refine dv rfl rfl (fun _ => rfl) ?_
      refine dv rfl rfl (fun _ => rfl) ?_
      obtain ⟨most7, hx8, ho4⟩ := bi ho4
      refine di rfl rfl rfl rfl rfl (fun _ => rfl) rfl (gi0 hx8) (giM c_tAttr hx8) (wM (fun _ => by rfl) _) ?_
      refine dv rfl rfl (fun _ => rfl) ?_
      refine dv rfl rfl (fun _ => rfl) ?_
      refine dv rfl rfl (fun _ => rfl) ?_
      refine dv rfl rfl (fun _ => rfl) ?_
      refine dn ?_
      refine rv rfl rfl ?_
      obtain ⟨most8, hx9, ho4⟩ := bs ho4
      refine rt (ei' hx9) ?_
      refine rn ?_
      refine inBlock_normal ?_
      refine awp_region ?_
      refine rvs 3 rfl ?_
      refine rn ?_
      cases ho4
      exact lp_n [0] rfl rfl ⟨rfl, rfl, zA rfl rfl rfl (zA rfl rfl rfl (zA rfl rfl rfl (trivial))), zC rfl rfl rfl rfl (zC rfl rfl rfl rfl (zC rfl rfl rfl rfl (zC rfl rfl rfl rfl (zC rfl rfl rfl rfl (trivial))))), trivial⟩
    · have ho4 := cF hc ho4
      refine awp_exit ?_
      repeat (first | refine then_exit ?_ | refine cut_x ?_ | refine inBlock_other rfl ?_)
      refine inBlock_exit ?_
      cases ho4
      have hq := hE5 _ rfl
      subst hq
      exact cut_n [0] rfl rfl ⟨rfl, rfl, zA rfl rfl rfl (zA rfl rfl rfl (trivial)), zC rfl rfl rfl rfl (zC rfl rfl rfl rfl (zC rfl rfl rfl rfl (zC rfl rfl rfl rfl (zC rfl rfl rfl rfl (trivial))))), trivial⟩
  · rintro most5 rfl
    change awp _ _ _ _ _ ⟨_, _, _, _⟩
    refine awp_seq ?_
    refine awp_seq ?_
    refine awp_region ?_
    refine rv rfl rfl ?_
    refine rn ?_
    obtain ⟨e10, hl11, h⟩ := bi h
    refine awp_cut1 (fun x => x = e10) (fun (most11 : Int) => ⟨[(1, .int .i64 most11)], [], [], 0⟩) ?_ ?_
    · refine awp_block ?_
      refine awp_loopD hl11 (fun (((most9, i3)) : Int × Int) => ⟨[(1, .int .i64 most9), (2, .ptr 0 0), (6, .int .i64 i3)], [(0, 0, .int .i64 kind1), (0, 1, .str (sB name1)), (0, 2, .str (sB op1)), (0, 3, .sl (vals1.map c_tAttr)), (0, 4, .sl (cs_tFilter l1))], [], 1⟩) [0] rfl ⟨rfl, rfl, zA rfl rfl rfl (zA rfl rfl rfl (zA rfl rfl rfl (trivial))), zC rfl rfl rfl rfl (zC rfl rfl rfl rfl (zC rfl rfl rfl rfl (zC rfl rfl rfl rfl (zC rfl rfl rfl rfl (trivial))))), trivial⟩ ?_
      intro v o14 ho12 hE13
      obtain ⟨most9, i3⟩ := v
      change awp _ _ _ _ _ ⟨_, _, _, _⟩
      refine awp_seq ?_
      refine awp_seq ?_
      obtain ⟨o15, ho16, ho12⟩ := bi ho12
      refine awp_cut1 (fun x => x = o15) (fun (x1 : Bool) => ⟨[(1, .int .i64 most9), (2, .ptr 0 0), (6, .int .i64 i3), (50, .bool x1)], [(0, 0, .int .i64 kind1), (0, 1, .str (sB name1)), (0, 2, .str (sB op1)), (0, 3, .sl (vals1.map c_tAttr)), (0, 4, .sl (cs_tFilter l1))], [], 1⟩) ?_ ?_
      · refine awp_region ?_
        refine rvs 3 rfl ?_
        refine rv rfl rfl ?_
        refine rt ((lM_tFilter l1)) ?_
        refine rvs 2 rfl ?_
        refine gs rfl rfl rfl rfl rfl (fun hg => ?_) (fun hg => ?_)
        · have ho16 := cT hg ho16
          refine rv rfl rfl ?_
          refine gy rfl rfl rfl ?_
          refine rv rfl rfl ?_
          refine rv rfl rfl ?_
          refine rn ?_
          cases ho16
          exact cut_n [0] rfl rfl ⟨rfl, rfl, zA rfl rfl rfl (zA rfl rfl rfl (zA rfl rfl rfl (zA rfl rfl rfl (trivial)))), zC rfl rfl rfl rfl (zC rfl rfl rfl rfl (zC rfl rfl rfl rfl (zC rfl rfl rfl rfl (zC rfl rfl rfl rfl (trivial))))), trivial⟩
        · have ho16 := cF hg ho16
          refine gn rfl rfl rfl rfl rfl ?_
          refine rv rfl rfl ?_
          refine rn ?_
          cases ho16
          exact cut_n [0] rfl rfl ⟨rfl, rfl, zA rfl rfl rfl (zA rfl rfl rfl (zA rfl rfl rfl (zA rfl rfl rfl (trivial)))), zC rfl rfl rfl rfl (zC rfl rfl rfl rfl (zC rfl rfl rfl rfl (zC rfl rfl rfl rfl (zC rfl rfl rfl rfl (trivial))))), trivial⟩
      · rintro x1 rfl
        change awp _ _ _ _ _ ⟨_, _, _, _⟩
        refine cs_ rfl (fun hc => ?_) (fun hc => ?_)
        · have ho12 := cT hc ho12
          refine awp_skip ?_
          refine awp_seq ?_
          refine awp_block ?_
          refine awp_region ?_
          refine rvs 3 rfl ?_
          obtain ⟨most12, hx17, ho12⟩ := bi ho12
          refine ri rfl rfl rfl rfl rfl rfl (gi0 hx17) (giM_tFilter hx17) (wM_tFilter _) ?_
          obtain ⟨kind2, name2, op2, vals2, l2⟩ := most12
          refine rvs 2 rfl ?_
          obtain ⟨most13, hx18, ho12⟩ := bi ho12
          refine rc1 rfl rfl rfl (ih_dref06_count hx18) ?_
          refine rv rfl rfl ?_
          refine rn ?_
          refine inBlock_normal ?_
          refine awp_region ?_
          refine rvs 3 rfl ?_
          refine rn ?_
          cases ho12
          exact lp_n [0] rfl rfl ⟨rfl, rfl, zA rfl rfl rfl (zA rfl rfl rfl (zA rfl rfl rfl (trivial))), zC rfl rfl rfl rfl (zC rfl rfl rfl rfl (zC rfl rfl rfl rfl (zC rfl rfl rfl rfl (zC rfl rfl rfl rfl (trivial))))), trivial⟩
        · have ho12 := cF hc ho12
          refine awp_exit ?_
          repeat (first | refine then_exit ?_ | refine cut_x ?_ | refine inBlock_other rfl ?_)
          refine inBlock_exit ?_
          cases ho12
          have hq := hE13 _ rfl
          subst hq
          exact cut_n [] rfl rfl ⟨rfl, rfl, zA rfl rfl rfl (trivial), trivial, trivial⟩
    · rintro most11 rfl
      refine awp_seq ?_
      refine awp_region ?_
      refine rvs 2 rfl ?_
      refine rn ?_
      refine awp_ret ?_
      cases h
      repeat (first | refine then_ret ?_ | refine inBlock_ret ?_ | refine cut_r ?_)
      exact rr rfl rfl rfl
end

theorem dref06_count_l : ∀ {fu : Nat}, ∀ {f1 most1} {r : Int}, dref06_count fu f1 most1 = some r → PCall Tryd.prog 20 [.agg (c_tFilter f1), .int .i64 most1] (· = .int .i64 r)
  | 0 => fun h => by simp [dref06_count] at h
  | fu + 1 => dref06_count_s (fu := fu) (dref06_count_l (fu := fu))
/-- `plover/ploverref06.Few` -/
def dref06_Few (fu : Nat) (f1 : tFilter) : Option Bool :=
  match f1 with | .mk kind1 name1 op1 vals1 l1 => (dref06_count fu (tFilter.mk kind1 name1 op1 vals1 l1) 5000).bind fun x1 => some (decide (x1 ≥ 0))
section
attribute [local irreducible] awp aops DP PCall ACall Decidable.decide
theorem dref06_Few_l {fu : Nat} {f1 : tFilter} {r : Bool} (h : dref06_Few fu f1 = some r) : PCall Tryd.prog 13 [.agg (c_tFilter f1)] (· = .bool r) := by
  obtain ⟨kind1, name1, op1, vals1, l1⟩ := f1
  rw [dref06_Few] at h
  refine pcall_body Tryd.func13 rfl (by kernel_rfl) (by rfl) ?_
  refine awp_seq ?_
  refine awp_region ?_
  refine rb rfl rfl ?_
  refine rv rfl rfl ?_
  refine rn ?_
  refine awp_seq ?_
  refine awp_region ?_
  refine rv rfl rfl ?_
  obtain ⟨x1, hx1, h⟩ := bi h
  refine rc1 rfl rfl rfl (dref06_count_l hx1) ?_
  refine rvs 2 rfl ?_
  refine rn ?_
  refine awp_ret ?_
  cases h
  repeat (first | refine then_ret ?_ | refine inBlock_ret ?_ | refine cut_r ?_)
  exact rr rfl rfl rfl
end

/-- `plover/ploverlaw07.up` -/
def dlaw07_up (fu : Nat)  : Option Bool :=
  (dfilter_Read fu [97, 32, 60, 32, 53, 32, 97, 110, 100, 32, 40, 98, 32, 61, 32, 34, 120, 34, 32, 111, 114, 32, 110, 111, 116, 32, 99, 32, 105, 110, 32, 40, 49, 41, 41]).bind fun e1 => match e1 with | (.mk kind1 name1 op1 vals1 l1, e2) => (dfilter_Read fu [97]).bind fun g1 => match g1 with | (.mk kind2 name2 op2 vals2 l2, g2) => (dfilter_Text fu (tFilter.mk 7 [] [] [] [])).bind fun s1 => bif e2.isNone then (bif (kind1 == 1) then (bif ((l1.length : Int) == 2) then (bif (g2 == some 3) then (bif (s1.1 == [116, 114, 117, 101]) then (bif s1.2.isNone then ((dfilter_May fu (tFilter.mk kind1 name1 op1 vals1 l1)).bind fun x1 => bif x1 then ((dfilter_May fu (tFilter.mk 0 [] [] [] [])).bind fun x2 => some (!x2)) else some false) else some false) else some false) else some false) else some false) else some false) else some false
section
attribute [local irreducible] awp aops DP PCall ACall Decidable.decide
theorem dlaw07_up_l {fu : Nat}  {r : Bool} (h : dlaw07_up fu  = some r) : PCall Tryd.prog 12 [] (· = .bool r) := by
  rw [dlaw07_up] at h
  refine pcall_body Tryd.func12 rfl (by kernel_rfl) (by rfl) ?_
  refine awp_seq ?_
  refine awp_region ?_
  refine rv rfl rfl ?_
  refine rn ?_
  refine awp_seq ?_
  refine awp_region ?_
  obtain ⟨e1, hx1, h⟩ := bi h
  obtain ⟨⟨kind1, name1, op1, vals1, l1⟩, e2⟩ := e1
  refine rc1 rfl rfl rfl (dfilter_Read_l hx1) ?_
  refine rvs 3 rfl ?_
  refine ra rfl rfl rfl ?_
  refine rs rfl rfl rfl rfl rfl rfl rfl ?_
  refine rv rfl rfl ?_
  refine rn ?_
  refine awp_seq ?_
  refine awp_region ?_
  obtain ⟨g1, hx2, h⟩ := bi h
  obtain ⟨⟨kind2, name2, op2, vals2, l2⟩, g2⟩ := g1
  refine rc1 rfl rfl rfl (dfilter_Read_l hx2) ?_
  refine rvs 3 rfl ?_
  refine ra rfl rfl rfl ?_
  refine rs rfl rfl rfl rfl rfl rfl rfl ?_
  refine rv rfl rfl ?_
  refine rn ?_
  refine awp_seq ?_
  refine awp_region ?_
  refine rv rfl rfl ?_
  obtain ⟨s1, hx3, h⟩ := bi h
  refine rc1 rfl rfl rfl (dfilter_Text_l hx3) ?_
  refine rvs 5 rfl ?_
  refine rn ?_
  refine awp_seq ?_
  refine awp_region ?_
  refine rv rfl rfl ?_
  refine rV rfl (va_enil rfl rfl rfl) ?_
  refine rv rfl rfl ?_
  refine gs rfl rfl rfl rfl rfl (fun hg => ?_) (fun hg => ?_)
  · have h := cT hg h
    refine rv rfl rfl ?_
    refine gy rfl rfl rfl ?_
    refine rv rfl rfl ?_
    refine gy rfl rfl rfl ?_
    refine rv rfl rfl ?_
    refine rvs 2 rfl ?_
    refine gs rfl rfl rfl rfl rfl (fun hg => ?_) (fun hg => ?_)
    · have h := cT hg h
      refine rv rfl rfl ?_
      refine gy rfl rfl rfl ?_
      refine rv rfl rfl ?_
      refine gy rfl rfl rfl ?_
      refine rv rfl rfl ?_
      refine rt ((lM_tFilter l1)) ?_
      refine gy rfl rfl rfl ?_
      refine rv rfl rfl ?_
      refine rvs 2 rfl ?_
      refine gs rfl rfl rfl rfl rfl (fun hg => ?_) (fun hg => ?_)
      · have h := cT hg h
        refine rv rfl rfl ?_
        refine gy rfl rfl rfl ?_
        refine rv rfl rfl ?_
        refine gy rfl rfl rfl ?_
        refine rV rfl (va_eeq rfl rfl rfl rfl rfl rfl (fun _ => rfl)) ?_
        refine rvs 2 rfl ?_
        refine gs rfl rfl rfl rfl rfl (fun hg => ?_) (fun hg => ?_)
        · have h := cT hg h
          refine rv rfl rfl ?_
          refine gy rfl rfl rfl ?_
          refine rv rfl rfl ?_
          refine rt (sEq s1.1 [116, 114, 117, 101]) ?_
          refine rvs 2 rfl ?_
          refine gs rfl rfl rfl rfl rfl (fun hg => ?_) (fun hg => ?_)
          · have h := cT hg h
            refine rv rfl rfl ?_
            refine gy rfl rfl rfl ?_
            refine rV rfl (va_enil rfl rfl rfl) ?_
            refine rvs 2 rfl ?_
            refine gs rfl rfl rfl rfl rfl (fun hg => ?_) (fun hg => ?_)
            · have h := cT hg h
              refine rv rfl rfl ?_
              refine gy rfl rfl rfl ?_
              obtain ⟨x1, hx4, h⟩ := bi h
              refine rc1 rfl rfl rfl (dfilter_May_l hx4) ?_
              refine rvs 2 rfl ?_
              refine gs rfl rfl rfl rfl rfl (fun hg => ?_) (fun hg => ?_)
              · have h := cT hg h
                refine rv rfl rfl ?_
                refine gy rfl rfl rfl ?_
                obtain ⟨x2, hx5, h⟩ := bi h
                refine rc1 rfl rfl rfl (dfilter_May_l hx5) ?_
                refine gy rfl rfl rfl ?_
                refine rv rfl rfl ?_
                refine rvs 2 rfl ?_
                refine rn ?_
                refine awp_ret ?_
                cases h
                repeat (first | refine then_ret ?_ | refine inBlock_ret ?_ | refine cut_r ?_)
                exact rr rfl rfl rfl
              · have h := cF hg h
                refine gn rfl rfl rfl rfl rfl ?_
                refine gn rfl rfl rfl rfl rfl ?_
                refine rvs 2 rfl ?_
                refine rn ?_
                refine awp_ret ?_
                cases h
                repeat (first | refine then_ret ?_ | refine inBlock_ret ?_ | refine cut_r ?_)
                exact rr rfl rfl rfl
            · have h := cF hg h
              refine gn rfl rfl rfl rfl rfl ?_
              refine rvs 2 rfl ?_
              refine gn rfl rfl rfl rfl rfl ?_
              refine gn rfl rfl rfl rfl rfl ?_
              refine gn rfl rfl rfl rfl rfl ?_
              refine rvs 2 rfl ?_
              refine rn ?_
              refine awp_ret ?_
              cases h
              repeat (first | refine then_ret ?_ | refine inBlock_ret ?_ | refine cut_r ?_)
              exact rr rfl rfl rfl
          · have h := cF hg h
            refine gn rfl rfl rfl rfl rfl ?_
            refine rvs 2 rfl ?_
            refine gn rfl rfl rfl rfl rfl ?_
            refine gn rfl rfl rfl rfl rfl ?_
            refine rvs 2 rfl ?_
            refine gn rfl rfl rfl rfl rfl ?_
            refine gn rfl rfl rfl rfl rfl ?_
            refine gn rfl rfl rfl rfl rfl ?_
            refine rvs 2 rfl ?_
            refine rn ?_
            refine awp_ret ?_
            cases h
            repeat (first | refine then_ret ?_ | refine inBlock_ret ?_ | refine cut_r ?_)
            exact rr rfl rfl rfl
        · have h := cF hg h
          refine gn rfl rfl rfl rfl rfl ?_
          refine rvs 2 rfl ?_
          refine gn rfl rfl rfl rfl rfl ?_
          refine gn rfl rfl rfl rfl rfl ?_
          refine rvs 2 rfl ?_
          refine gn rfl rfl rfl rfl rfl ?_
          refine gn rfl rfl rfl rfl rfl ?_
          refine rvs 2 rfl ?_
          refine gn rfl rfl rfl rfl rfl ?_
          refine gn rfl rfl rfl rfl rfl ?_
          refine gn rfl rfl rfl rfl rfl ?_
          refine rvs 2 rfl ?_
          refine rn ?_
          refine awp_ret ?_
          cases h
          repeat (first | refine then_ret ?_ | refine inBlock_ret ?_ | refine cut_r ?_)
          exact rr rfl rfl rfl
      · have h := cF hg h
        refine gn rfl rfl rfl rfl rfl ?_
        refine gn rfl rfl rfl rfl rfl ?_
        refine rvs 2 rfl ?_
        refine gn rfl rfl rfl rfl rfl ?_
        refine gn rfl rfl rfl rfl rfl ?_
        refine rvs 2 rfl ?_
        refine gn rfl rfl rfl rfl rfl ?_
        refine gn rfl rfl rfl rfl rfl ?_
        refine rvs 2 rfl ?_
        refine gn rfl rfl rfl rfl rfl ?_
        refine gn rfl rfl rfl rfl rfl ?_
        refine rvs 2 rfl ?_
        refine gn rfl rfl rfl rfl rfl ?_
        refine gn rfl rfl rfl rfl rfl ?_
        refine gn rfl rfl rfl rfl rfl ?_
        refine rvs 2 rfl ?_
        refine rn ?_
        refine awp_ret ?_
        cases h
        repeat (first | refine then_ret ?_ | refine inBlock_ret ?_ | refine cut_r ?_)
        exact rr rfl rfl rfl
    · have h := cF hg h
      refine gn rfl rfl rfl rfl rfl ?_
      refine gn rfl rfl rfl rfl rfl ?_
      refine gn rfl rfl rfl rfl rfl ?_
      refine rvs 2 rfl ?_
      refine gn rfl rfl rfl rfl rfl ?_
      refine gn rfl rfl rfl rfl rfl ?_
      refine gn rfl rfl rfl rfl rfl ?_
      refine rvs 2 rfl ?_
      refine gn rfl rfl rfl rfl rfl ?_
      refine gn rfl rfl rfl rfl rfl ?_
      refine rvs 2 rfl ?_
      refine gn rfl rfl rfl rfl rfl ?_
      refine gn rfl rfl rfl rfl rfl ?_
      refine rvs 2 rfl ?_
      refine gn rfl rfl rfl rfl rfl ?_
      refine gn rfl rfl rfl rfl rfl ?_
      refine rvs 2 rfl ?_
      refine gn rfl rfl rfl rfl rfl ?_
      refine gn rfl rfl rfl rfl rfl ?_
      refine gn rfl rfl rfl rfl rfl ?_
      refine rvs 2 rfl ?_
      refine rn ?_
      refine awp_ret ?_
      cases h
      repeat (first | refine then_ret ?_ | refine inBlock_ret ?_ | refine cut_r ?_)
      exact rr rfl rfl rfl
  · have h := cF hg h
    refine gn rfl rfl rfl rfl rfl ?_
    refine gn rfl rfl rfl rfl rfl ?_
    refine rvs 2 rfl ?_
    refine gn rfl rfl rfl rfl rfl ?_
    refine gn rfl rfl rfl rfl rfl ?_
    refine gn rfl rfl rfl rfl rfl ?_
    refine gn rfl rfl rfl rfl rfl ?_
    refine rvs 2 rfl ?_
    refine gn rfl rfl rfl rfl rfl ?_
    refine gn rfl rfl rfl rfl rfl ?_
    refine gn rfl rfl rfl rfl rfl ?_
    refine rvs 2 rfl ?_
    refine gn rfl rfl rfl rfl rfl ?_
    refine gn rfl rfl rfl rfl rfl ?_
    refine rvs 2 rfl ?_
    refine gn rfl rfl rfl rfl rfl ?_
    refine gn rfl rfl rfl rfl rfl ?_
    refine rvs 2 rfl ?_
    refine gn rfl rfl rfl rfl rfl ?_
    refine gn rfl rfl rfl rfl rfl ?_
    refine rvs 2 rfl ?_
    refine gn rfl rfl rfl rfl rfl ?_
    refine gn rfl rfl rfl rfl rfl ?_
    refine gn rfl rfl rfl rfl rfl ?_
    refine rvs 2 rfl ?_
    refine rn ?_
    refine awp_ret ?_
    cases h
    repeat (first | refine then_ret ?_ | refine inBlock_ret ?_ | refine cut_r ?_)
    exact rr rfl rfl rfl
end

/-- `plover/ploverlaw07.FilterBack` -/
def dlaw07_FilterBack (fu : Nat) (f1 : tFilter) (s1 : Str) : Option Bool :=
  match f1 with | .mk kind1 name1 op1 vals1 l1 => (dlaw07_up fu ).bind fun head1 => (dref06_Few fu (tFilter.mk kind1 name1 op1 vals1 l1)).bind fun few1 => (bif (!few1) then some true else some (decide ((s1.length : Int) > 1000)) : Option Bool).bind fun (x1 : Bool) => (bif x1 then some head1 else ((dfilter_Text fu (tFilter.mk kind1 name1 op1 vals1 l1)).bind fun t1 => (bif t1.2.isNone then ((dfilter_Read fu t1.1).bind fun h1 => match h1 with | (.mk kind2 name2 op2 vals2 l2, h2) => (bif (decide ((t1.1.length : Int) ≤ 500)) then (bif h2.isSome then some true else ((dfilter_Same fu (tFilter.mk kind1 name1 op1 vals1 l1) (tFilter.mk kind2 name2 op2 vals2 l2)).bind fun x3 => bif (!x3) then some true else (bif (decide ((t1.1.length : Int) > 500)) then some (!(h2 == some 5)) else some false))) else (bif (decide ((t1.1.length : Int) > 500)) then some (!(h2 == some 5)) else some false) : Option Bool).bind fun (x2 : Bool) => (bif x2 then some (Sum.inr false) else some (Sum.inl ()))) else some (Sum.inl ()) : Option (Unit ⊕ Bool)).bind fun o => kS o fun (_ : Unit) => ((dfilter_Read fu s1).bind fun h3 => match h3 with | (.mk kind3 name3 op3 vals3 l3, h4) => bif h4.isSome then some head1 else ((dfilter_Text fu (tFilter.mk kind3 name3 op3 vals3 l3)).bind fun u1 => bif u1.2.isSome then some false else ((dfilter_Read fu u1.1).bind fun j1 => match j1 with | (.mk kind4 name4 op4 vals4 l4, j2) => bif (decide ((u1.1.length : Int) > 500)) then ((bif head1 then some (j2 == some 5) else some false : Option Bool).bind fun (x4 : Bool) => some x4) else (bif head1 then (bif j2.isNone then ((dfilter_Same fu (tFilter.mk kind3 name3 op3 vals3 l3) (tFilter.mk kind4 name4 op4 vals4 l4)).bind fun x5 => some x5) else some false) else some false))))))
section
attribute [local irreducible] awp aops DP PCall ACall Decidable.decide
theorem dlaw07_FilterBack_l {fu : Nat} {f1 : tFilter} {s1 : Str} {r : Bool} (h : dlaw07_FilterBack fu f1 s1 = some r) : PCall Tryd.prog 5 [.agg (c_tFilter f1), .str (sB s1)] (· = .bool r) := by
  obtain ⟨kind1, name1, op1, vals1, l1⟩ := f1
  rw [dlaw07_FilterBack] at h
  refine pcall_body Tryd.func5 rfl (by kernel_rfl) (by rfl) ?_
  refine awp_seq ?_
  refine awp_region ?_
  refine rb rfl rfl ?_
  refine rv rfl rfl ?_
  refine rn ?_
  refine awp_seq ?_
  refine awp_region ?_
  obtain ⟨head1, hx1, h⟩ := bi h
  refine rc1 rfl rfl rfl (dlaw07_up_l hx1) ?_
  refine rv rfl rfl ?_
  refine rn ?_
  refine awp_seq ?_
  refine awp_region ?_
  refine rv rfl rfl ?_
  obtain ⟨few1, hx2, h⟩ := bi h
  refine rc1 rfl rfl rfl (dref06_Few_l hx2) ?_
  refine rv rfl rfl ?_
  refine rn ?_
  refine awp_seq ?_
  refine awp_seq ?_
  obtain ⟨o3, ho4, h⟩ := bi h
  refine awp_cut1 (fun x => x = o3) (fun (x1 : Bool) => ⟨[(1, .str (sB s1)), (2, .ptr 0 0), (5, .bool head1), (26, .bool x1)], [(0, 0, .int .i64 kind1), (0, 1, .str (sB name1)), (0, 2, .str (sB op1)), (0, 3, .sl (vals1.map c_tAttr)), (0, 4, .sl (cs_tFilter l1))], [], 1⟩) ?_ ?_
  · refine awp_region ?_
    refine rvs 3 rfl ?_
    refine gs rfl rfl rfl rfl rfl (fun hg => ?_) (fun hg => ?_)
    · have ho4 := cF hg ho4
      refine rv rfl rfl ?_
      refine gy rfl rfl rfl ?_
      refine rv rfl rfl ?_
      refine gy rfl rfl rfl ?_
      refine rv rfl rfl ?_
      refine rv rfl rfl ?_
      refine rn ?_
      cases ho4
      exact cut_n [0] rfl rfl ⟨rfl, rfl, zA rfl rfl rfl (zA rfl rfl rfl (zA rfl rfl rfl (zA rfl rfl rfl (trivial)))), zC rfl rfl rfl rfl (zC rfl rfl rfl rfl (zC rfl rfl rfl rfl (zC rfl rfl rfl rfl (zC rfl rfl rfl rfl (trivial))))), trivial⟩
    · have ho4 := cT hg ho4
      refine gn rfl rfl rfl rfl rfl ?_
      refine gn rfl rfl rfl rfl rfl ?_
      refine rv rfl rfl ?_
      refine rn ?_
      cases ho4
      exact cut_n [0] rfl rfl ⟨rfl, rfl, zA rfl rfl rfl (zA rfl rfl rfl (zA rfl rfl rfl (zA rfl rfl rfl (trivial)))), zC rfl rfl rfl rfl (zC rfl rfl rfl rfl (zC rfl rfl rfl rfl (zC rfl rfl rfl rfl (zC rfl rfl rfl rfl (trivial))))), trivial⟩
  · rintro x1 rfl
    change awp _ _ _ _ _ ⟨_, _, _, _⟩
    refine cs_ rfl (fun hc => ?_) (fun hc => ?_)
    · have h := cT hc h
      refine awp_seq ?_
      refine awp_region ?_
      refine rvs 2 rfl ?_
      refine rn ?_
      refine awp_ret ?_
      cases h
      repeat (first | refine then_ret ?_ | refine inBlock_ret ?_ | refine cut_r ?_)
      exact rr rfl rfl rfl
    · have h := cF hc h
      refine awp_skip ?_
      refine awp_seq ?_
      refine awp_region ?_
      refine rv rfl rfl ?_
      obtain ⟨t1, hx5, h⟩ := bi h
      refine rc1 rfl rfl rfl (dfilter_Text_l hx5) ?_
      refine rvs 5 rfl ?_
      refine rn ?_
      refine awp_seq ?_
      refine awp_seq ?_
      refine awp_region ?_
      refine rv rfl rfl ?_
      refine rV rfl (va_enil rfl rfl rfl) ?_
      refine rn ?_
      obtain ⟨o6, ho7, h⟩ := bi h
      refine awp_cut1 (fun x => Sum.inl x = o6) (fun (_ : Unit) => ⟨[(1, .str (sB s1)), (5, .bool head1)], [], [], 0⟩) ?_ ?_
      · refine cs_ rfl (fun hc => ?_) (fun hc => ?_)
        · have ho7 := cT hc ho7
          refine awp_seq ?_
          refine awp_region ?_
          refine rv rfl rfl ?_
          obtain ⟨h1, hx8, ho7⟩ := bi ho7
          obtain ⟨⟨kind2, name2, op2, vals2, l2⟩, h2⟩ := h1
          refine rc1 rfl rfl rfl (dfilter_Read_l hx8) ?_
          refine rvs 3 rfl ?_
          refine ra rfl rfl rfl ?_
          refine rs rfl rfl rfl rfl rfl rfl rfl ?_
          refine rv rfl rfl ?_
          refine rn ?_
          refine awp_seq ?_
          obtain ⟨o9, ho10, ho7⟩ := bi ho7
          refine awp_cut1 (fun x => x = o9) (fun (x2 : Bool) => ⟨[(1, .str (sB s1)), (5, .bool head1), (62, .bool x2)], [], [], 0⟩) ?_ ?_
          · refine awp_region ?_
            refine rvs 4 rfl ?_
            refine gs rfl rfl rfl rfl rfl (fun hg => ?_) (fun hg => ?_)
            · have ho10 := cT hg ho10
              refine rv rfl rfl ?_
              refine gy rfl rfl rfl ?_
              refine rV rfl (va_ennil rfl rfl rfl) ?_
              refine gy rfl rfl rfl ?_
              refine rv rfl rfl ?_
              refine gs rfl rfl rfl rfl rfl (fun hg => ?_) (fun hg => ?_)
              · have ho10 := cF hg ho10
                refine rv rfl rfl ?_
                refine gy rfl rfl rfl ?_
                refine rv rfl rfl ?_
                refine gy rfl rfl rfl ?_
                obtain ⟨x3, hx11, ho10⟩ := bi ho10
                refine rc1 rfl rfl rfl (dfilter_Same_l hx11) ?_
                refine gy rfl rfl rfl ?_
                refine rv rfl rfl ?_
                refine gy rfl rfl rfl ?_
                refine rv rfl rfl ?_
                refine rvs 2 rfl ?_
                refine gs rfl rfl rfl rfl rfl (fun hg => ?_) (fun hg => ?_)
                · have ho10 := cF hg ho10
                  refine rv rfl rfl ?_
                  refine gy rfl rfl rfl ?_
                  refine rv rfl rfl ?_
                  refine gy rfl rfl rfl ?_
                  refine rv rfl rfl ?_
                  refine gy rfl rfl rfl ?_
                  refine rv rfl rfl ?_
                  refine gs rfl rfl rfl rfl rfl (fun hg => ?_) (fun hg => ?_)
                  · have ho10 := cT hg ho10
                    refine rv rfl rfl ?_
                    refine gy rfl rfl rfl ?_
                    refine rv rfl rfl ?_
                    refine gy rfl rfl rfl ?_
                    refine rV rfl (va_ene rfl rfl rfl rfl rfl rfl (fun _ => rfl)) ?_
                    refine gy rfl rfl rfl ?_
                    refine rv rfl rfl ?_
                    refine rv rfl rfl ?_
                    refine rn ?_
                    cases ho10
                    exact cut_n [] rfl rfl ⟨rfl, rfl, zA rfl rfl rfl (zA rfl rfl rfl (zA rfl rfl rfl (trivial))), trivial, trivial⟩
                  · have ho10 := cF hg ho10
                    refine gn rfl rfl rfl rfl rfl ?_
                    refine gn rfl rfl rfl rfl rfl ?_
                    refine gy rfl rfl rfl ?_
                    refine rv rfl rfl ?_
                    refine rv rfl rfl ?_
                    refine rn ?_
                    cases ho10
                    exact cut_n [] rfl rfl ⟨rfl, rfl, zA rfl rfl rfl (zA rfl rfl rfl (zA rfl rfl rfl (trivial))), trivial, trivial⟩
                · have ho10 := cT hg ho10
                  refine gn rfl rfl rfl rfl rfl ?_
                  refine gn rfl rfl rfl rfl rfl ?_
                  refine gn rfl rfl rfl rfl rfl ?_
                  refine gu rfl rfl rfl rfl ?_
                  refine gu rfl rfl rfl rfl ?_
                  refine gu rfl rfl rfl rfl ?_
                  refine gn rfl rfl rfl rfl rfl ?_
                  refine rv rfl rfl ?_
                  refine rn ?_
                  cases ho10
                  exact cut_n [] rfl rfl ⟨rfl, rfl, zA rfl rfl rfl (zA rfl rfl rfl (zA rfl rfl rfl (trivial))), trivial, trivial⟩
              · have ho10 := cT hg ho10
                refine gn rfl rfl rfl rfl rfl ?_
                refine gn rfl rfl rfl rfl rfl ?_
                refine gn rfl rfl rfl rfl rfl ?_
                refine gy rfl rfl rfl ?_
                refine rv rfl rfl ?_
                refine rvs 2 rfl ?_
                refine gn rfl rfl rfl rfl rfl ?_
                refine gn rfl rfl rfl rfl rfl ?_
                refine gn rfl rfl rfl rfl rfl ?_
                refine gn rfl rfl rfl rfl rfl ?_
                refine gu rfl rfl rfl rfl ?_
                refine gu rfl rfl rfl rfl ?_
                refine gu rfl rfl rfl rfl ?_
                refine gn rfl rfl rfl rfl rfl ?_
                refine rv rfl rfl ?_
                refine rn ?_
                cases ho10
                exact cut_n [] rfl rfl ⟨rfl, rfl, zA rfl rfl rfl (zA rfl rfl rfl (zA rfl rfl rfl (trivial))), trivial, trivial⟩
            · have ho10 := cF hg ho10
              refine gn rfl rfl rfl rfl rfl ?_
              refine gn rfl rfl rfl rfl rfl ?_
              refine gu rfl rfl rfl rfl ?_
              refine gu rfl rfl rfl rfl ?_
              refine gu rfl rfl rfl rfl ?_
              refine gu rfl rfl rfl rfl ?_
              refine gn rfl rfl rfl rfl rfl ?_
              refine rvs 2 rfl ?_
              refine gy rfl rfl rfl ?_
              refine rv rfl rfl ?_
              refine gy rfl rfl rfl ?_
              refine rv rfl rfl ?_
              refine gy rfl rfl rfl ?_
              refine rv rfl rfl ?_
              refine gy rfl rfl rfl ?_
              refine rv rfl rfl ?_
              refine gs rfl rfl rfl rfl rfl (fun hg => ?_) (fun hg => ?_)
              · have ho10 := cT hg ho10
                refine rv rfl rfl ?_
                refine gy rfl rfl rfl ?_
                refine rv rfl rfl ?_
                refine gy rfl rfl rfl ?_
                refine rV rfl (va_ene rfl rfl rfl rfl rfl rfl (fun _ => rfl)) ?_
                refine gy rfl rfl rfl ?_
                refine rv rfl rfl ?_
                refine rv rfl rfl ?_
                refine rn ?_
                cases ho10
                exact cut_n [] rfl rfl ⟨rfl, rfl, zA rfl rfl rfl (zA rfl rfl rfl (zA rfl rfl rfl (trivial))), trivial, trivial⟩
              · have ho10 := cF hg ho10
                refine gn rfl rfl rfl rfl rfl ?_
                refine gn rfl rfl rfl rfl rfl ?_
                refine gy rfl rfl rfl ?_
                refine rv rfl rfl ?_
                refine rv rfl rfl ?_
                refine rn ?_
                cases ho10
                exact cut_n [] rfl rfl ⟨rfl, rfl, zA rfl rfl rfl (zA rfl rfl rfl (zA rfl rfl rfl (trivial))), trivial, trivial⟩
          · rintro x2 rfl
            change awp _ _ _ _ _ ⟨_, _, _, _⟩
            refine cs_ rfl (fun hc => ?_) (fun hc => ?_)
            · have ho7 := cT hc ho7
              refine awp_seq ?_
              refine awp_region ?_
              refine rv rfl rfl ?_
              refine rn ?_
              refine awp_ret ?_
              cases ho7
              have h := ksr h
              subst h
              repeat (first | refine then_ret ?_ | refine inBlock_ret ?_ | refine cut_r ?_)
              exact rr rfl rfl rfl
            · have ho7 := cF hc ho7
              refine awp_skip ?_
              cases ho7
              exact cut_n [] rfl rfl ⟨rfl, rfl, zA rfl rfl rfl (zA rfl rfl rfl (trivial)), trivial, trivial⟩
        · have ho7 := cF hc ho7
          refine awp_skip ?_
          cases ho7
          exact cut_n [] rfl rfl ⟨rfl, rfl, zA rfl rfl rfl (zA rfl rfl rfl (trivial)), trivial, trivial⟩
      · rintro _ rfl
        have h := ksl h
        change awp _ _ _ _ _ ⟨_, _, _, _⟩
        refine awp_seq ?_
        refine awp_region ?_
        refine rv rfl rfl ?_
        obtain ⟨h3, hx12, h⟩ := bi h
        obtain ⟨⟨kind3, name3, op3, vals3, l3⟩, h4⟩ := h3
        refine rc1 rfl rfl rfl (dfilter_Read_l hx12) ?_
        refine rvs 3 rfl ?_
        refine ra rfl rfl rfl ?_
        refine rs rfl rfl rfl rfl rfl rfl rfl ?_
        refine rv rfl rfl ?_
        refine rn ?_
        refine awp_seq ?_
        refine awp_seq ?_
        refine awp_region ?_
        refine rv rfl rfl ?_
        refine rV rfl (va_ennil rfl rfl rfl) ?_
        refine rn ?_
        refine cs_ rfl (fun hc => ?_) (fun hc => ?_)
        · have h := cT hc h
          refine awp_seq ?_
          refine awp_region ?_
          refine rvs 2 rfl ?_
          refine rn ?_
          refine awp_ret ?_
          cases h
          repeat (first | refine then_ret ?_ | refine inBlock_ret ?_ | refine cut_r ?_)
          exact rr rfl rfl rfl
        · have h := cF hc h
          refine awp_skip ?_
          refine awp_seq ?_
          refine awp_region ?_
          refine rv rfl rfl ?_
          obtain ⟨u1, hx13, h⟩ := bi h
          refine rc1 rfl rfl rfl (dfilter_Text_l hx13) ?_
          refine rvs 5 rfl ?_
          refine rn ?_
          refine awp_seq ?_
          refine awp_seq ?_
          refine awp_region ?_
          refine rv rfl rfl ?_
          refine rV rfl (va_ennil rfl rfl rfl) ?_
          refine rn ?_
          refine cs_ rfl (fun hc => ?_) (fun hc => ?_)
          · have h := cT hc h
            refine awp_seq ?_
            refine awp_region ?_
            refine rv rfl rfl ?_
            refine rn ?_
            refine awp_ret ?_
            cases h
            repeat (first | refine then_ret ?_ | refine inBlock_ret ?_ | refine cut_r ?_)
            exact rr rfl rfl rfl
          · have h := cF hc h
            refine awp_skip ?_
            refine awp_seq ?_
            refine awp_region ?_
            refine rv rfl rfl ?_
            obtain ⟨j1, hx14, h⟩ := bi h
            obtain ⟨⟨kind4, name4, op4, vals4, l4⟩, j2⟩ := j1
            refine rc1 rfl rfl rfl (dfilter_Read_l hx14) ?_
            refine rvs 3 rfl ?_
            refine ra rfl rfl rfl ?_
            refine rs rfl rfl rfl rfl rfl rfl rfl ?_
            refine rv rfl rfl ?_
            refine rn ?_
            refine awp_seq ?_
            refine awp_seq ?_
            refine awp_region ?_
            refine rvs 3 rfl ?_
            refine rn ?_
            refine cs_ rfl (fun hc => ?_) (fun hc => ?_)
            · have h := cT hc h
              refine awp_seq ?_
              obtain ⟨o15, ho16, h⟩ := bi h
              refine awp_cut1 (fun x => x = o15) (fun (x4 : Bool) => ⟨[(4, .bool x4)], [], [], 0⟩) ?_ ?_
              · refine awp_region ?_
                refine rvs 2 rfl ?_
                refine gs rfl rfl rfl rfl rfl (fun hg => ?_) (fun hg => ?_)
                · have ho16 := cT hg ho16
                  refine rv rfl rfl ?_
                  refine gy rfl rfl rfl ?_
                  refine rv rfl rfl ?_
                  refine gy rfl rfl rfl ?_
                  refine rV rfl (va_eeq rfl rfl rfl rfl rfl rfl (fun _ => rfl)) ?_
                  refine rvs 2 rfl ?_
                  refine rn ?_
                  cases ho16
                  exact cut_n [] rfl rfl ⟨rfl, rfl, zA rfl rfl rfl (trivial), trivial, trivial⟩
                · have ho16 := cF hg ho16
                  refine gn rfl rfl rfl rfl rfl ?_
                  refine gn rfl rfl rfl rfl rfl ?_
                  refine rvs 2 rfl ?_
                  refine rn ?_
                  cases ho16
                  exact cut_n [] rfl rfl ⟨rfl, rfl, zA rfl rfl rfl (trivial), trivial, trivial⟩
              · rintro x4 rfl
                change awp _ _ _ _ _ ⟨_, _, _, _⟩
                refine awp_ret ?_
                cases h
                repeat (first | refine then_ret ?_ | refine inBlock_ret ?_ | refine cut_r ?_)
                exact rr rfl rfl rfl
            · have h := cF hc h
              refine awp_skip ?_
              refine awp_seq ?_
              refine awp_region ?_
              refine rvs 2 rfl ?_
              refine gs rfl rfl rfl rfl rfl (fun hg => ?_) (fun hg => ?_)
              · have h := cT hg h
                refine rv rfl rfl ?_
                refine gy rfl rfl rfl ?_
                refine rV rfl (va_enil rfl rfl rfl) ?_
                refine rvs 2 rfl ?_
                refine gs rfl rfl rfl rfl rfl (fun hg => ?_) (fun hg => ?_)
                · have h := cT hg h
                  refine rv rfl rfl ?_
                  refine gy rfl rfl rfl ?_
                  refine rv rfl rfl ?_
                  refine gy rfl rfl rfl ?_
                  obtain ⟨x5, hx17, h⟩ := bi h
                  refine rc1 rfl rfl rfl (dfilter_Same_l hx17) ?_
                  refine rvs 2 rfl ?_
                  refine rn ?_
                  refine awp_ret ?_
                  cases h
                  repeat (first | refine then_ret ?_ | refine inBlock_ret ?_ | refine cut_r ?_)
                  exact rr rfl rfl rfl
                · have h := cF hg h
                  refine gn rfl rfl rfl rfl rfl ?_
                  refine gn rfl rfl rfl rfl rfl ?_
                  refine rvs 2 rfl ?_
                  refine rn ?_
                  refine awp_ret ?_
                  cases h
                  repeat (first | refine then_ret ?_ | refine inBlock_ret ?_ | refine cut_r ?_)
                  exact rr rfl rfl rfl
              · have h := cF hg h
                refine gn rfl rfl rfl rfl rfl ?_
                refine rvs 2 rfl ?_
                refine gn rfl rfl rfl rfl rfl ?_
                refine gn rfl rfl rfl rfl rfl ?_
                refine gn rfl rfl rfl rfl rfl ?_
                refine rvs 2 rfl ?_
                refine rn ?_
                refine awp_ret ?_
                cases h
                repeat (first | refine then_ret ?_ | refine inBlock_ret ?_ | refine cut_r ?_)
                exact rr rfl rfl rfl
end

end Go.Proofs.YtaekecbadkcggaaDoor
