/- Plain functions, and walks, printed by a program of this session's. -/
import Derived.Test.YtaekecbadkcggaaD09
import Derived.Test.YtaekecbadkcggaaPwE
namespace Go.Proofs.Ytaekecbadkcggaa
open Go.Pv
set_option maxRecDepth 100000
set_option maxHeartbeats 4000000
set_option linter.unusedSimpArgs false
set_option linter.unusedVariables false
set_option linter.unusedSectionVars false

/-- `plover/ploverlaw09.up` -/
def dlaw09_up (fu : Nat)  : Option Bool :=
  (deval_Holds fu (tFilter.mk 4 [97] [60] ([(tAttr.mk [] false 5 [])]) []) ([(tAttr.mk [97] false 4 [])])).bind fun x1 => bif x1 then ((deval_Holds fu (tFilter.mk 4 [97] [60] ([(tAttr.mk [] false 5 [])]) []) []).bind fun x2 => bif (!x2) then ((deval_Holds fu (tFilter.mk 7 [] [] [] []) []).bind fun x3 => some x3) else some false) else some false
section
attribute [local irreducible] awp aops DP PCall ACall Decidable.decide
theorem dlaw09_up_l {fu : Nat}  {r : Bool} (h : dlaw09_up fu  = some r) : PCall Try.prog 25 [] (· = .bool r) := by
  rw [dlaw09_up] at h
  refine pcall_body Try.func25 rfl (by kernel_rfl) (by rfl) ?_
  refine awp_seq ?_
  refine awp_region ?_
  refine rv rfl rfl ?_
  refine rn ?_
  refine awp_seq ?_
  refine awp_region ?_
  refine rv rfl rfl ?_
  refine rbs false rfl rfl rfl rfl rfl rfl rfl rfl rfl rfl ?_
  refine rv rfl rfl ?_
  refine ra rfl rfl rfl ?_
  refine rs rfl rfl rfl rfl rfl rfl rfl ?_
  refine rn ?_
  refine awp_seq ?_
  refine awp_region ?_
  refine rvs 2 rfl ?_
  refine rbs false rfl rfl rfl rfl rfl rfl rfl rfl rfl rfl ?_
  obtain ⟨x1, hx1, h⟩ := bi h
  refine rc1 rfl rfl rfl (deval_Holds_l hx1) ?_
  refine rv rfl rfl ?_
  refine gs rfl rfl rfl rfl rfl (fun hg => ?_) (fun hg => ?_)
  · have h := cT hg h
    refine rv rfl rfl ?_
    refine gy rfl rfl rfl ?_
    obtain ⟨x2, hx2, h⟩ := bi h
    refine rc1 rfl rfl rfl (deval_Holds_l hx2) ?_
    refine gy rfl rfl rfl ?_
    refine rv rfl rfl ?_
    refine rvs 2 rfl ?_
    refine gs rfl rfl rfl rfl rfl (fun hg => ?_) (fun hg => ?_)
    · have h := cT hg h
      refine rv rfl rfl ?_
      refine gy rfl rfl rfl ?_
      obtain ⟨x3, hx3, h⟩ := bi h
      refine rc1 rfl rfl rfl (deval_Holds_l hx3) ?_
      refine rvs 2 rfl ?_
      refine rn ?_
      refine awp_ret ?_
      cases h
      repeat (first | refine then_ret ?_ | refine inBlock_ret ?_ | refine cut_r ?_)
      exact rr rfl rfl rfl
    · have h := cF hg h
      refine gn rfl rfl rfl rfl rfl ?_
      refine rvs 2 rfl ?_
      refine rn ?_
      refine awp_ret ?_
      cases h
      repeat (first | refine then_ret ?_ | refine inBlock_ret ?_ | refine cut_r ?_)
      exact rr rfl rfl rfl
  · have h := cF hg h
    refine gn rfl rfl rfl rfl rfl ?_
    refine gn rfl rfl rfl rfl rfl ?_
    refine rvs 2 rfl ?_
    refine gn rfl rfl rfl rfl rfl ?_
    refine gn rfl rfl rfl rfl rfl ?_
    refine rvs 2 rfl ?_
    refine rn ?_
    refine awp_ret ?_
    cases h
    repeat (first | refine then_ret ?_ | refine inBlock_ret ?_ | refine cut_r ?_)
    exact rr rfl rfl rfl
end

/-- `plover/ploverlaw09.EvalHolds` -/
def dlaw09_EvalHolds (fu : Nat) (f1 : tFilter) (l2 : List tAttr) : Option Bool :=
  match f1 with | .mk kind1 name1 op1 vals1 l1 => (dlaw09_up fu ).bind fun head1 => (dref06_Few fu (tFilter.mk kind1 name1 op1 vals1 l1)).bind fun few1 => (dref06_Attrs fu l2).bind fun small1 => (bif (!few1) then some true else some (!small1) : Option Bool).bind fun (x1 : Bool) => (bif x1 then some head1 else (bif head1 then ((deval_Holds fu (tFilter.mk kind1 name1 op1 vals1 l1) l2).bind fun x2 => (dref06_Holds fu (tFilter.mk kind1 name1 op1 vals1 l1) l2).bind fun x3 => some (x2 == x3)) else some false))
section
attribute [local irreducible] awp aops DP PCall ACall Decidable.decide
theorem dlaw09_EvalHolds_l {fu : Nat} {f1 : tFilter} {l2 : List tAttr} {r : Bool} (h : dlaw09_EvalHolds fu f1 l2 = some r) : PCall Try.prog 5 [.agg (c_tFilter f1), .sl (l2.map c_tAttr)] (· = .bool r) := by
  obtain ⟨kind1, name1, op1, vals1, l1⟩ := f1
  rw [dlaw09_EvalHolds] at h
  refine pcall_body Try.func5 rfl (by kernel_rfl) (by rfl) ?_
  refine awp_seq ?_
  refine awp_region ?_
  refine rb rfl rfl ?_
  refine rv rfl rfl ?_
  refine rn ?_
  refine awp_seq ?_
  refine awp_region ?_
  obtain ⟨head1, hx1, h⟩ := bi h
  refine rc1 rfl rfl rfl (dlaw09_up_l hx1) ?_
  refine rv rfl rfl ?_
  refine rn ?_
  refine awp_seq ?_
  refine awp_region ?_
  refine rv rfl rfl ?_
  obtain ⟨few1, hx2, h⟩ := bi h
  refine rc1 rfl rfl rfl (dref06_Few_l hx2) ?_
  refine rv rfl rfl ?_
  refine rn ?_
  refine awp_seq ?_
  refine awp_region ?_
  refine rv rfl rfl ?_
  obtain ⟨small1, hx3, h⟩ := bi h
  refine rc1 rfl rfl rfl (dref06_Attrs_l hx3) ?_
  refine rv rfl rfl ?_
  refine rn ?_
  refine awp_seq ?_
  refine awp_seq ?_
  obtain ⟨o4, ho5, h⟩ := bi h
  refine awp_cut1 (fun x => x = o4) (fun (x1 : Bool) => ⟨[(1, .sl (l2.map c_tAttr)), (2, .ptr 0 0), (5, .bool head1), (18, .bool x1)], [(0, 0, .int .i64 kind1), (0, 1, .str (sB name1)), (0, 2, .str (sB op1)), (0, 3, .sl (vals1.map c_tAttr)), (0, 4, .sl (cs_tFilter l1))], [], 1⟩) ?_ ?_
  · refine awp_region ?_
    refine rvs 3 rfl ?_
    refine gs rfl rfl rfl rfl rfl (fun hg => ?_) (fun hg => ?_)
    · have ho5 := cF hg ho5
      refine rv rfl rfl ?_
      refine gy rfl rfl rfl ?_
      refine rv rfl rfl ?_
      refine rv rfl rfl ?_
      refine rn ?_
      cases ho5
      exact cut_n [0] rfl rfl ⟨rfl, rfl, zA rfl rfl rfl (zA rfl rfl rfl (zA rfl rfl rfl (zA rfl rfl rfl (trivial)))), zC rfl rfl rfl rfl (zC rfl rfl rfl rfl (zC rfl rfl rfl rfl (zC rfl rfl rfl rfl (zC rfl rfl rfl rfl (trivial))))), trivial⟩
    · have ho5 := cT hg ho5
      refine gn rfl rfl rfl rfl rfl ?_
      refine rv rfl rfl ?_
      refine rn ?_
      cases ho5
      exact cut_n [0] rfl rfl ⟨rfl, rfl, zA rfl rfl rfl (zA rfl rfl rfl (zA rfl rfl rfl (zA rfl rfl rfl (trivial)))), zC rfl rfl rfl rfl (zC rfl rfl rfl rfl (zC rfl rfl rfl rfl (zC rfl rfl rfl rfl (zC rfl rfl rfl rfl (trivial))))), trivial⟩
  · rintro x1 rfl
    change awp _ _ _ _ _ ⟨_, _, _, _⟩
    refine cs_ rfl (fun hc => ?_) (fun hc => ?_)
    · have h := cT hc h
      refine awp_seq ?_
      refine awp_region ?_
      refine rvs 2 rfl ?_
      refine rn ?_
      refine awp_ret ?_
      cases h
      repeat (first | refine then_ret ?_ | refine inBlock_ret ?_ | refine cut_r ?_)
      exact rr rfl rfl rfl
    · have h := cF hc h
      refine awp_skip ?_
      refine awp_seq ?_
      refine awp_dp (m := 10) Try.mix (by kernel_rfl) (by kernel_rfl) (by kernel_rfl) (by kernel_rfl) (by kernel_rfl) (by kernel_rfl) (by kernel_rfl) ?_
      refine dv rfl rfl (fun _ => rfl) ?_
      refine dv rfl rfl (fun _ => rfl) ?_
      refine ds rfl rfl (fun hg => ?_) (fun hg => ?_)
      · have h := cT hg h
        refine dv rfl rfl (fun _ => rfl) ?_
        refine dv rfl rfl (fun _ => rfl) ?_
        obtain ⟨x2, hx6, h⟩ := bi h
        refine dc rfl rfl rfl rfl (fun _ => rfl) (fun _ => (deval_Holds_l hx6)) ?_
        refine dv rfl rfl (fun _ => rfl) ?_
        refine dv rfl rfl (fun _ => rfl) ?_
        obtain ⟨x3, hx7, h⟩ := bi h
        refine dc rfl rfl rfl rfl (fun _ => rfl) (fun _ => (dref06_Holds_l hx7)) ?_
        refine dv rfl rfl (fun _ => rfl) ?_
        refine dv rfl rfl (fun _ => rfl) ?_
        refine dn ?_
        refine rv rfl rfl ?_
        refine rn ?_
        refine awp_ret ?_
        cases h
        repeat (first | refine then_ret ?_ | refine inBlock_ret ?_ | refine cut_r ?_)
        exact rr rfl rfl rfl
      · have h := cF hg h
        refine dno rfl rfl ?_
        refine dno rfl rfl ?_
        refine dno rfl rfl ?_
        refine dno rfl rfl ?_
        refine dno rfl rfl ?_
        refine dno rfl rfl ?_
        refine dno rfl rfl ?_
        refine dv rfl rfl (fun _ => rfl) ?_
        refine dn ?_
        refine rv rfl rfl ?_
        refine rn ?_
        refine awp_ret ?_
        cases h
        repeat (first | refine then_ret ?_ | refine inBlock_ret ?_ | refine cut_r ?_)
        exact rr rfl rfl rfl
end

/-- `plover/ploverlaw09.EvalLaws$1` -/
def dlaw09_EvalLaws_1 (fu : Nat) (x1 : tFilter) : Option tFilter :=
  match x1 with | .mk kind1 name1 op1 vals1 l1 => some (tFilter.mk 3 [] [] [] [(tFilter.mk kind1 name1 op1 vals1 l1)])
section
attribute [local irreducible] awp aops DP PCall ACall Decidable.decide
theorem dlaw09_EvalLaws_1_l {fu : Nat} {x1 : tFilter} {r : tFilter} (h : dlaw09_EvalLaws_1 fu x1 = some r) : PCall Try.prog 30 [.agg (c_tFilter x1)] (· = .agg (c_tFilter r)) := by
  obtain ⟨kind1, name1, op1, vals1, l1⟩ := x1
  rw [dlaw09_EvalLaws_1] at h
  refine pcall_body Try.func30 rfl (by kernel_rfl) (by rfl) ?_
  refine awp_seq ?_
  refine awp_region ?_
  refine rb rfl rfl ?_
  refine ra rfl rfl rfl ?_
  refine rn ?_
  refine awp_seq ?_
  refine awp_region ?_
  refine rv rfl rfl ?_
  refine rbs false rfl rfl rfl rfl rfl rfl rfl rfl rfl rfl ?_
  refine rv rfl rfl ?_
  refine rs rfl rfl rfl rfl rfl rfl rfl ?_
  refine rn ?_
  refine awp_ret ?_
  cases h
  repeat (first | refine then_ret ?_ | refine inBlock_ret ?_ | refine cut_r ?_)
  exact rr rfl rfl rfl
end

/-- `plover/ploverlaw09.EvalLaws` -/
def dlaw09_EvalLaws (fu : Nat) (f1 : tFilter) (g1 : tFilter) (l3 : List tAttr) (more1 : tAttr) : Option Bool :=
  match f1 with | .mk kind1 name1 op1 vals1 l1 => match g1 with | .mk kind2 name2 op2 vals2 l2 => (dlaw09_up fu ).bind fun head1 => (dref06_Few fu (tFilter.mk kind1 name1 op1 vals1 l1)).bind fun few1 => (dref06_Few fu (tFilter.mk kind2 name2 op2 vals2 l2)).bind fun small1 => (dref06_Attrs fu l3).bind fun short1 => (bif (!few1) then some true else (bif (!small1) then some true else (bif (!short1) then some true else (bif (decide ((more1.S.length : Int) > 300)) then some true else some (more1.Name == [])))) : Option Bool).bind fun (x1 : Bool) => (bif x1 then some head1 else ((deval_Holds fu (tFilter.mk kind1 name1 op1 vals1 l1) l3).bind fun p1 => (deval_Holds fu (tFilter.mk kind2 name2 op2 vals2 l2) l3).bind fun q1 => ((dlaw09_EvalLaws_1 fu (tFilter.mk kind1 name1 op1 vals1 l1)).bind fun x3 => match x3 with | .mk kind3 name3 op3 vals3 l4 => (deval_Holds fu (tFilter.mk kind3 name3 op3 vals3 l4) l3).bind fun x4 => bif (x4 == p1) then some true else ((dlaw09_EvalLaws_1 fu (tFilter.mk kind1 name1 op1 vals1 l1)).bind fun x5 => match x5 with | .mk kind4 name4 op4 vals4 l5 => (dlaw09_EvalLaws_1 fu (tFilter.mk kind4 name4 op4 vals4 l5)).bind fun x6 => match x6 with | .mk kind5 name5 op5 vals5 l6 => (deval_Holds fu (tFilter.mk kind5 name5 op5 vals5 l6) l3).bind fun x7 => some (!(x7 == p1))) : Option Bool).bind fun (x2 : Bool) => (bif x2 then some false else ((dlaw09_EvalLaws_1 fu (tFilter.mk kind1 name1 op1 vals1 l1)).bind fun x10 => match x10 with | .mk kind8 name8 op8 vals8 l9 => (dlaw09_EvalLaws_1 fu (tFilter.mk kind2 name2 op2 vals2 l2)).bind fun x11 => match x11 with | .mk kind9 name9 op9 vals9 l10 => ((deval_Holds fu (tFilter.mk 1 [] [] [] [(tFilter.mk kind1 name1 op1 vals1 l1), (tFilter.mk kind2 name2 op2 vals2 l2)]) l3).bind fun x13 => bif p1 then (bif (!(x13 == q1)) then some true else ((deval_Holds fu (tFilter.mk 2 [] [] [] [(tFilter.mk kind8 name8 op8 vals8 l9), (tFilter.mk kind9 name9 op9 vals9 l10)]) l3).bind fun x14 => bif p1 then some (!(x14 == (!q1))) else some (!(x14 == true)))) else (bif (!(x13 == false)) then some true else ((deval_Holds fu (tFilter.mk 2 [] [] [] [(tFilter.mk kind8 name8 op8 vals8 l9), (tFilter.mk kind9 name9 op9 vals9 l10)]) l3).bind fun x15 => bif p1 then some (!(x15 == (!q1))) else some (!(x15 == true)))) : Option Bool).bind fun (x12 : Bool) => (bif x12 then some false else ((dref06_Names fu (tFilter.mk kind1 name1 op1 vals1 l1)).bind fun names1 => (loopD (ε := Int) (τ := Unit ⊕ Bool) (fun (i1 : Int) => (bif (decide (i1 < (names1.length : Int))) then ((gi names1 i1).bind fun x16 => bif (x16 == more1.Name) then some (Sum.inr (Sum.inr head1)) else some (Sum.inl (W (i1 + 1)))) else some (Sum.inr (Sum.inl ())))) fu 0).bind fun o => kS o fun (_ : Unit) => (bif head1 then ((ap [] [more1]).bind fun x17 => (ap x17 l3).bind fun x18 => (deval_Holds fu (tFilter.mk kind1 name1 op1 vals1 l1) x18).bind fun x19 => some (x19 == p1)) else some false)))))))
section
attribute [local irreducible] awp aops DP PCall ACall Decidable.decide
theorem dlaw09_EvalLaws_l {fu : Nat} {f1 : tFilter} {g1 : tFilter} {l3 : List tAttr} {more1 : tAttr} {r : Bool} (h : dlaw09_EvalLaws fu f1 g1 l3 more1 = some r) : PCall Try.prog 6 [.agg (c_tFilter f1), .agg (c_tFilter g1), .sl (l3.map c_tAttr), .agg [.str (sB more1.Name), .bool more1.Text, .int .i64 more1.N, .str (sB more1.S)]] (· = .bool r) := by
  obtain ⟨kind1, name1, op1, vals1, l1⟩ := f1
  obtain ⟨kind2, name2, op2, vals2, l2⟩ := g1
  rw [dlaw09_EvalLaws] at h
  refine pcall_body Try.func6 rfl (by kernel_rfl) (by rfl) ?_
  refine awp_seq ?_
  refine awp_region ?_
  refine rb rfl rfl ?_
  refine rb rfl rfl ?_
  refine rb rfl rfl ?_
  refine rv rfl rfl ?_
  refine rn ?_
  refine awp_seq ?_
  refine awp_region ?_
  obtain ⟨head1, hx1, h⟩ := bi h
  refine rc1 rfl rfl rfl (dlaw09_up_l hx1) ?_
  refine rv rfl rfl ?_
  refine rn ?_
  refine awp_seq ?_
  refine awp_region ?_
  refine rv rfl rfl ?_
  obtain ⟨few1, hx2, h⟩ := bi h
  refine rc1 rfl rfl rfl (dref06_Few_l hx2) ?_
  refine rv rfl rfl ?_
  refine rn ?_
  refine awp_seq ?_
  refine awp_region ?_
  refine rv rfl rfl ?_
  obtain ⟨small1, hx3, h⟩ := bi h
  refine rc1 rfl rfl rfl (dref06_Few_l hx3) ?_
  refine rv rfl rfl ?_
  refine rn ?_
  refine awp_seq ?_
  refine awp_region ?_
  refine rv rfl rfl ?_
  obtain ⟨short1, hx4, h⟩ := bi h
  refine rc1 rfl rfl rfl (dref06_Attrs_l hx4) ?_
  refine rv rfl rfl ?_
  refine rn ?_
  refine awp_seq ?_
  refine awp_seq ?_
  obtain ⟨o5, ho6, h⟩ := bi h
  refine awp_cut1 (fun x => x = o5) (fun (x1 : Bool) => ⟨[(2, .sl (l3.map c_tAttr)), (4, .ptr 0 0), (5, .ptr 1 0), (7, .ptr 2 0), (9, .bool head1), (48, .bool x1)], [(0, 0, .int .i64 kind1), (0, 1, .str (sB name1)), (0, 2, .str (sB op1)), (0, 3, .sl (vals1.map c_tAttr)), (0, 4, .sl (cs_tFilter l1)), (1, 0, .int .i64 kind2), (1, 1, .str (sB name2)), (1, 2, .str (sB op2)), (1, 3, .sl (vals2.map c_tAttr)), (1, 4, .sl (cs_tFilter l2)), (2, 0, .str (sB more1.Name)), (2, 1, .bool more1.Text), (2, 2, .int .i64 more1.N), (2, 3, .str (sB more1.S))], [], 3⟩) ?_ ?_
  · refine awp_region ?_
    refine rvs 3 rfl ?_
    refine gs rfl rfl rfl rfl rfl (fun hg => ?_) (fun hg => ?_)
    · have ho6 := cF hg ho6
      refine rv rfl rfl ?_
      refine gy rfl rfl rfl ?_
      refine rv rfl rfl ?_
      refine rvs 2 rfl ?_
      refine gs rfl rfl rfl rfl rfl (fun hg => ?_) (fun hg => ?_)
      · have ho6 := cF hg ho6
        refine rv rfl rfl ?_
        refine gy rfl rfl rfl ?_
        refine rv rfl rfl ?_
        refine rvs 2 rfl ?_
        refine gs rfl rfl rfl rfl rfl (fun hg => ?_) (fun hg => ?_)
        · have ho6 := cF hg ho6
          refine rv rfl rfl ?_
          refine gy rfl rfl rfl ?_
          refine rv rfl rfl ?_
          refine gy rfl rfl rfl ?_
          refine rv rfl rfl ?_
          refine gy rfl rfl rfl ?_
          refine rv rfl rfl ?_
          refine rvs 2 rfl ?_
          refine gs rfl rfl rfl rfl rfl (fun hg => ?_) (fun hg => ?_)
          · have ho6 := cF hg ho6
            refine rv rfl rfl ?_
            refine gy rfl rfl rfl ?_
            refine rv rfl rfl ?_
            refine gy rfl rfl rfl ?_
            refine rv rfl rfl ?_
            refine rt (sEq more1.Name []) ?_
            refine rv rfl rfl ?_
            refine rn ?_
            cases ho6
            exact cut_n [0, 1, 2] rfl rfl ⟨rfl, rfl, zA rfl rfl rfl (zA rfl rfl rfl (zA rfl rfl rfl (zA rfl rfl rfl (zA rfl rfl rfl (zA rfl rfl rfl (trivial)))))), zC rfl rfl rfl rfl (zC rfl rfl rfl rfl (zC rfl rfl rfl rfl (zC rfl rfl rfl rfl (zC rfl rfl rfl rfl (zC rfl rfl rfl rfl (zC rfl rfl rfl rfl (zC rfl rfl rfl rfl (zC rfl rfl rfl rfl (zC rfl rfl rfl rfl (zC rfl rfl rfl rfl (zC rfl rfl rfl rfl (zC rfl rfl rfl rfl (zC rfl rfl rfl rfl (trivial)))))))))))))), trivial⟩
          · have ho6 := cT hg ho6
            refine gn rfl rfl rfl rfl rfl ?_
            refine gn rfl rfl rfl rfl rfl ?_
            refine rv rfl rfl ?_
            refine rn ?_
            cases ho6
            exact cut_n [0, 1, 2] rfl rfl ⟨rfl, rfl, zA rfl rfl rfl (zA rfl rfl rfl (zA rfl rfl rfl (zA rfl rfl rfl (zA rfl rfl rfl (zA rfl rfl rfl (trivial)))))), zC rfl rfl rfl rfl (zC rfl rfl rfl rfl (zC rfl rfl rfl rfl (zC rfl rfl rfl rfl (zC rfl rfl rfl rfl (zC rfl rfl rfl rfl (zC rfl rfl rfl rfl (zC rfl rfl rfl rfl (zC rfl rfl rfl rfl (zC rfl rfl rfl rfl (zC rfl rfl rfl rfl (zC rfl rfl rfl rfl (zC rfl rfl rfl rfl (zC rfl rfl rfl rfl (trivial)))))))))))))), trivial⟩
        · have ho6 := cT hg ho6
          refine gn rfl rfl rfl rfl rfl ?_
          refine gn rfl rfl rfl rfl rfl ?_
          refine gn rfl rfl rfl rfl rfl ?_
          refine rvs 2 rfl ?_
          refine gn rfl rfl rfl rfl rfl ?_
          refine gn rfl rfl rfl rfl rfl ?_
          refine gn rfl rfl rfl rfl rfl ?_
          refine rv rfl rfl ?_
          refine rn ?_
          cases ho6
          exact cut_n [0, 1, 2] rfl rfl ⟨rfl, rfl, zA rfl rfl rfl (zA rfl rfl rfl (zA rfl rfl rfl (zA rfl rfl rfl (zA rfl rfl rfl (zA rfl rfl rfl (trivial)))))), zC rfl rfl rfl rfl (zC rfl rfl rfl rfl (zC rfl rfl rfl rfl (zC rfl rfl rfl rfl (zC rfl rfl rfl rfl (zC rfl rfl rfl rfl (zC rfl rfl rfl rfl (zC rfl rfl rfl rfl (zC rfl rfl rfl rfl (zC rfl rfl rfl rfl (zC rfl rfl rfl rfl (zC rfl rfl rfl rfl (zC rfl rfl rfl rfl (zC rfl rfl rfl rfl (trivial)))))))))))))), trivial⟩
      · have ho6 := cT hg ho6
        refine gn rfl rfl rfl rfl rfl ?_
        refine rvs 2 rfl ?_
        refine gn rfl rfl rfl rfl rfl ?_
        refine gn rfl rfl rfl rfl rfl ?_
        refine gn rfl rfl rfl rfl rfl ?_
        refine gn rfl rfl rfl rfl rfl ?_
        refine rvs 2 rfl ?_
        refine gn rfl rfl rfl rfl rfl ?_
        refine gn rfl rfl rfl rfl rfl ?_
        refine gn rfl rfl rfl rfl rfl ?_
        refine rv rfl rfl ?_
        refine rn ?_
        cases ho6
        exact cut_n [0, 1, 2] rfl rfl ⟨rfl, rfl, zA rfl rfl rfl (zA rfl rfl rfl (zA rfl rfl rfl (zA rfl rfl rfl (zA rfl rfl rfl (zA rfl rfl rfl (trivial)))))), zC rfl rfl rfl rfl (zC rfl rfl rfl rfl (zC rfl rfl rfl rfl (zC rfl rfl rfl rfl (zC rfl rfl rfl rfl (zC rfl rfl rfl rfl (zC rfl rfl rfl rfl (zC rfl rfl rfl rfl (zC rfl rfl rfl rfl (zC rfl rfl rfl rfl (zC rfl rfl rfl rfl (zC rfl rfl rfl rfl (zC rfl rfl rfl rfl (zC rfl rfl rfl rfl (trivial)))))))))))))), trivial⟩
    · have ho6 := cT hg ho6
      refine gn rfl rfl rfl rfl rfl ?_
      refine rvs 2 rfl ?_
      refine gn rfl rfl rfl rfl rfl ?_
      refine gn rfl rfl rfl rfl rfl ?_
      refine rvs 2 rfl ?_
      refine gn rfl rfl rfl rfl rfl ?_
      refine gn rfl rfl rfl rfl rfl ?_
      refine gn rfl rfl rfl rfl rfl ?_
      refine gn rfl rfl rfl rfl rfl ?_
      refine rvs 2 rfl ?_
      refine gn rfl rfl rfl rfl rfl ?_
      refine gn rfl rfl rfl rfl rfl ?_
      refine gn rfl rfl rfl rfl rfl ?_
      refine rv rfl rfl ?_
      refine rn ?_
      cases ho6
      exact cut_n [0, 1, 2] rfl rfl ⟨rfl, rfl, zA rfl rfl rfl (zA rfl rfl rfl (zA rfl rfl rfl (zA rfl rfl rfl (zA rfl rfl rfl (zA rfl rfl rfl (trivial)))))), zC rfl rfl rfl rfl (zC rfl rfl rfl rfl (zC rfl rfl rfl rfl (zC rfl rfl rfl rfl (zC rfl rfl rfl rfl (zC rfl rfl rfl rfl (zC rfl rfl rfl rfl (zC rfl rfl rfl rfl (zC rfl rfl rfl rfl (zC rfl rfl rfl rfl (zC rfl rfl rfl rfl (zC rfl rfl rfl rfl (zC rfl rfl rfl rfl (zC rfl rfl rfl rfl (trivial)))))))))))))), trivial⟩
  · rintro x1 rfl
    change awp _ _ _ _ _ ⟨_, _, _, _⟩
    refine cs_ rfl (fun hc => ?_) (fun hc => ?_)
    · have h := cT hc h
      refine awp_seq ?_
      refine awp_region ?_
      refine rvs 2 rfl ?_
      refine rn ?_
      refine awp_ret ?_
      cases h
      repeat (first | refine then_ret ?_ | refine inBlock_ret ?_ | refine cut_r ?_)
      exact rr rfl rfl rfl
    · have h := cF hc h
      refine awp_skip ?_
      refine awp_seq ?_
      refine awp_region ?_
      refine rv rfl rfl ?_
      refine rn ?_
      refine awp_seq ?_
      refine awp_region ?_
      refine rvs 2 rfl ?_
      obtain ⟨p1, hx7, h⟩ := bi h
      refine rc1 rfl rfl rfl (deval_Holds_l hx7) ?_
      refine rv rfl rfl ?_
      refine rn ?_
      refine awp_seq ?_
      refine awp_region ?_
      refine rvs 2 rfl ?_
      obtain ⟨q1, hx8, h⟩ := bi h
      refine rc1 rfl rfl rfl (deval_Holds_l hx8) ?_
      refine rv rfl rfl ?_
      refine rn ?_
      refine awp_seq ?_
      refine awp_seq ?_
      obtain ⟨o9, ho10, h⟩ := bi h
      refine awp_cut1 (fun x => x = o9) (fun (x2 : Bool) => ⟨[(2, .sl (l3.map c_tAttr)), (4, .ptr 0 0), (5, .ptr 1 0), (7, .ptr 2 0), (9, .bool head1), (13, .fn 30 []), (14, .bool p1), (15, .bool q1), (73, .bool x2)], [(0, 0, .int .i64 kind1), (0, 1, .str (sB name1)), (0, 2, .str (sB op1)), (0, 3, .sl (vals1.map c_tAttr)), (0, 4, .sl (cs_tFilter l1)), (1, 0, .int .i64 kind2), (1, 1, .str (sB name2)), (1, 2, .str (sB op2)), (1, 3, .sl (vals2.map c_tAttr)), (1, 4, .sl (cs_tFilter l2)), (2, 0, .str (sB more1.Name)), (2, 1, .bool more1.Text), (2, 2, .int .i64 more1.N), (2, 3, .str (sB more1.S))], [], 3⟩) ?_ ?_
      · refine awp_region ?_
        refine rvs 2 rfl ?_
        obtain ⟨x3, hx11, ho10⟩ := bi ho10
        refine rc1 rfl rfl rfl (dlaw09_EvalLaws_1_l hx11) ?_
        obtain ⟨kind3, name3, op3, vals3, l4⟩ := x3
        refine rv rfl rfl ?_
        obtain ⟨x4, hx12, ho10⟩ := bi ho10
        refine rc1 rfl rfl rfl (deval_Holds_l hx12) ?_
        refine rvs 3 rfl ?_
        refine gs rfl rfl rfl rfl rfl (fun hg => ?_) (fun hg => ?_)
        · have ho10 := cF hg ho10
          refine rv rfl rfl ?_
          refine gy rfl rfl rfl ?_
          refine rv rfl rfl ?_
          refine gy rfl rfl rfl ?_
          refine rv rfl rfl ?_
          refine gy rfl rfl rfl ?_
          obtain ⟨x5, hx13, ho10⟩ := bi ho10
          refine rc1 rfl rfl rfl (dlaw09_EvalLaws_1_l hx13) ?_
          obtain ⟨kind4, name4, op4, vals4, l5⟩ := x5
          refine gy rfl rfl rfl ?_
          obtain ⟨x6, hx14, ho10⟩ := bi ho10
          refine rc1 rfl rfl rfl (dlaw09_EvalLaws_1_l hx14) ?_
          obtain ⟨kind5, name5, op5, vals5, l6⟩ := x6
          refine gy rfl rfl rfl ?_
          refine rv rfl rfl ?_
          refine gy rfl rfl rfl ?_
          obtain ⟨x7, hx15, ho10⟩ := bi ho10
          refine rc1 rfl rfl rfl (deval_Holds_l hx15) ?_
          refine gy rfl rfl rfl ?_
          refine rv rfl rfl ?_
          refine gy rfl rfl rfl ?_
          refine rv rfl rfl ?_
          refine rv rfl rfl ?_
          refine rn ?_
          cases ho10
          exact cut_n [0, 1, 2] rfl rfl ⟨rfl, rfl, zA rfl rfl rfl (zA rfl rfl rfl (zA rfl rfl rfl (zA rfl rfl rfl (zA rfl rfl rfl (zA rfl rfl rfl (zA rfl rfl rfl (zA rfl rfl rfl (zA rfl rfl rfl (trivial))))))))), zC rfl rfl rfl rfl (zC rfl rfl rfl rfl (zC rfl rfl rfl rfl (zC rfl rfl rfl rfl (zC rfl rfl rfl rfl (zC rfl rfl rfl rfl (zC rfl rfl rfl rfl (zC rfl rfl rfl rfl (zC rfl rfl rfl rfl (zC rfl rfl rfl rfl (zC rfl rfl rfl rfl (zC rfl rfl rfl rfl (zC rfl rfl rfl rfl (zC rfl rfl rfl rfl (trivial)))))))))))))), trivial⟩
        · have ho10 := cT hg ho10
          refine gn rfl rfl rfl rfl rfl ?_
          refine gn rfl rfl rfl rfl rfl ?_
          refine gn rfl rfl rfl rfl rfl ?_
          refine gn rfl rfl rfl rfl rfl ?_
          refine gn rfl rfl rfl rfl rfl ?_
          refine gn rfl rfl rfl rfl rfl ?_
          refine gn rfl rfl rfl rfl rfl ?_
          refine gn rfl rfl rfl rfl rfl ?_
          refine rv rfl rfl ?_
          refine rn ?_
          cases ho10
          exact cut_n [0, 1, 2] rfl rfl ⟨rfl, rfl, zA rfl rfl rfl (zA rfl rfl rfl (zA rfl rfl rfl (zA rfl rfl rfl (zA rfl rfl rfl (zA rfl rfl rfl (zA rfl rfl rfl (zA rfl rfl rfl (zA rfl rfl rfl (trivial))))))))), zC rfl rfl rfl rfl (zC rfl rfl rfl rfl (zC rfl rfl rfl rfl (zC rfl rfl rfl rfl (zC rfl rfl rfl rfl (zC rfl rfl rfl rfl (zC rfl rfl rfl rfl (zC rfl rfl rfl rfl (zC rfl rfl rfl rfl (zC rfl rfl rfl rfl (zC rfl rfl rfl rfl (zC rfl rfl rfl rfl (zC rfl rfl rfl rfl (zC rfl rfl rfl rfl (trivial)))))))))))))), trivial⟩
      · rintro x2 rfl
        change awp _ _ _ _ _ ⟨_, _, _, _⟩
        refine cs_ rfl (fun hc => ?_) (fun hc => ?_)
        · have h := cT hc h
          refine awp_seq ?_
          refine awp_region ?_
          refine rv rfl rfl ?_
          refine rn ?_
          refine awp_ret ?_
          cases h
          repeat (first | refine then_ret ?_ | refine inBlock_ret ?_ | refine cut_r ?_)
          exact rr rfl rfl rfl
        · have h := cF hc h
          refine awp_skip ?_
          refine awp_seq ?_
          refine awp_region ?_
          refine rvs 2 rfl ?_
          refine rbs false rfl rfl rfl rfl rfl rfl rfl rfl rfl rfl ?_
          refine rv rfl rfl ?_
          refine rn ?_
          refine awp_seq ?_
          refine awp_region ?_
          refine rvs 2 rfl ?_
          refine ra rfl rfl rfl ?_
          refine rs rfl rfl rfl rfl rfl rfl rfl ?_
          refine rn ?_
          refine awp_seq ?_
          refine awp_dx (m := 9) [] Try.mix (by kernel_rfl) (by kernel_rfl) (by kernel_rfl) (by kernel_rfl) (by kernel_rfl) (by kernel_rfl) ?_
          refine xv [] rfl rfl (fun _ => rfl) ?_
          refine xv [0] rfl rfl (fun _ => rfl) ?_
          obtain ⟨x10, hx18, h⟩ := bi h
          refine xc [] rfl rfl rfl (fun _ => rfl) (fun _ => (dlaw09_EvalLaws_1_l hx18)) ?_
          obtain ⟨kind8, name8, op8, vals8, l9⟩ := x10
          refine xv [] rfl rfl (fun _ => rfl) ?_
          refine xv [1] rfl rfl (fun _ => rfl) ?_
          obtain ⟨x11, hx19, h⟩ := bi h
          refine xc [] rfl rfl rfl (fun _ => rfl) (fun _ => (dlaw09_EvalLaws_1_l hx19)) ?_
          obtain ⟨kind9, name9, op9, vals9, l10⟩ := x11
          refine xE [] (.own 5) 6 _ _ rfl rfl (by
              refine rbs false rfl rfl rfl rfl rfl rfl rfl rfl rfl rfl ?_
              exact rn ⟨rfl, rfl⟩) (by rfl) (by rfl) (by rfl) ?_
          refine xv [] rfl rfl (fun _ => rfl) ?_
          refine xE [] (.ptr 6 0) 7 _ _ rfl rfl (by
              refine ra rfl rfl rfl ?_
              exact rn ⟨rfl, rfl⟩) (by rfl) (by rfl) (by rfl) ?_
          refine xn (by kernel_rfl) ?_
          refine rs rfl rfl rfl rfl rfl rfl rfl ?_
          refine rn ?_
          refine awp_seq ?_
          refine awp_seq ?_
          obtain ⟨o20, ho21, h⟩ := bi h
          refine awp_cut1 (fun x => x = o20) (fun (x12 : Bool) => ⟨[(2, .sl (l3.map c_tAttr)), (4, .ptr 0 0), (7, .ptr 1 0), (9, .bool head1), (14, .bool p1), (105, .bool x12)], [(0, 0, .int .i64 kind1), (0, 1, .str (sB name1)), (0, 2, .str (sB op1)), (0, 3, .sl (vals1.map c_tAttr)), (0, 4, .sl (cs_tFilter l1)), (1, 0, .str (sB more1.Name)), (1, 1, .bool more1.Text), (1, 2, .int .i64 more1.N), (1, 3, .str (sB more1.S))], [], 2⟩) ?_ ?_
          · refine awp_region ?_
            refine rvs 2 rfl ?_
            obtain ⟨x13, hx22, ho21⟩ := bi ho21
            refine rc1 rfl rfl rfl (deval_Holds_l hx22) ?_
            refine rvs 2 rfl ?_
            refine gs rfl rfl rfl rfl rfl (fun hg => ?_) (fun hg => ?_)
            · have ho21 := cT hg ho21
              refine rv rfl rfl ?_
              refine rvs 3 rfl ?_
              refine gs rfl rfl rfl rfl rfl (fun hg => ?_) (fun hg => ?_)
              · have ho21 := cF hg ho21
                refine rv rfl rfl ?_
                refine gy rfl rfl rfl ?_
                refine rv rfl rfl ?_
                refine gy rfl rfl rfl ?_
                obtain ⟨x14, hx23, ho21⟩ := bi ho21
                refine rc1 rfl rfl rfl (deval_Holds_l hx23) ?_
                refine gy rfl rfl rfl ?_
                refine rv rfl rfl ?_
                refine gy rfl rfl rfl ?_
                refine rv rfl rfl ?_
                refine gs rfl rfl rfl rfl rfl (fun hg => ?_) (fun hg => ?_)
                · have ho21 := cT hg ho21
                  refine rv rfl rfl ?_
                  refine gy rfl rfl rfl ?_
                  refine rv rfl rfl ?_
                  refine gy rfl rfl rfl ?_
                  refine rv rfl rfl ?_
                  refine gy rfl rfl rfl ?_
                  refine rv rfl rfl ?_
                  refine rv rfl rfl ?_
                  refine rn ?_
                  cases ho21
                  exact cut_n [0, 2] rfl rfl ⟨rfl, rfl, zA rfl rfl rfl (zA rfl rfl rfl (zA rfl rfl rfl (zA rfl rfl rfl (zA rfl rfl rfl (zA rfl rfl rfl (trivial)))))), zC rfl rfl rfl rfl (zC rfl rfl rfl rfl (zC rfl rfl rfl rfl (zC rfl rfl rfl rfl (zC rfl rfl rfl rfl (zC rfl rfl rfl rfl (zC rfl rfl rfl rfl (zC rfl rfl rfl rfl (zC rfl rfl rfl rfl (trivial))))))))), trivial⟩
                · have ho21 := cF hg ho21
                  refine gy rfl rfl rfl ?_
                  refine rv rfl rfl ?_
                  refine gy rfl rfl rfl ?_
                  refine rv rfl rfl ?_
                  refine gy rfl rfl rfl ?_
                  refine rv rfl rfl ?_
                  refine rv rfl rfl ?_
                  refine rn ?_
                  cases ho21
                  exact cut_n [0, 2] rfl rfl ⟨rfl, rfl, zA rfl rfl rfl (zA rfl rfl rfl (zA rfl rfl rfl (zA rfl rfl rfl (zA rfl rfl rfl (zA rfl rfl rfl (trivial)))))), zC rfl rfl rfl rfl (zC rfl rfl rfl rfl (zC rfl rfl rfl rfl (zC rfl rfl rfl rfl (zC rfl rfl rfl rfl (zC rfl rfl rfl rfl (zC rfl rfl rfl rfl (zC rfl rfl rfl rfl (zC rfl rfl rfl rfl (trivial))))))))), trivial⟩
              · have ho21 := cT hg ho21
                refine gn rfl rfl rfl rfl rfl ?_
                refine gn rfl rfl rfl rfl rfl ?_
                refine gn rfl rfl rfl rfl rfl ?_
                refine gn rfl rfl rfl rfl rfl ?_
                refine gu rfl rfl rfl rfl ?_
                refine gn rfl rfl rfl rfl rfl ?_
                refine gn rfl rfl rfl rfl rfl ?_
                refine gn rfl rfl rfl rfl rfl ?_
                refine rv rfl rfl ?_
                refine rn ?_
                cases ho21
                exact cut_n [0, 2] rfl rfl ⟨rfl, rfl, zA rfl rfl rfl (zA rfl rfl rfl (zA rfl rfl rfl (zA rfl rfl rfl (zA rfl rfl rfl (zA rfl rfl rfl (trivial)))))), zC rfl rfl rfl rfl (zC rfl rfl rfl rfl (zC rfl rfl rfl rfl (zC rfl rfl rfl rfl (zC rfl rfl rfl rfl (zC rfl rfl rfl rfl (zC rfl rfl rfl rfl (zC rfl rfl rfl rfl (zC rfl rfl rfl rfl (trivial))))))))), trivial⟩
            · have ho21 := cF hg ho21
              refine rvs 3 rfl ?_
              refine gs rfl rfl rfl rfl rfl (fun hg => ?_) (fun hg => ?_)
              · have ho21 := cF hg ho21
                refine rv rfl rfl ?_
                refine gy rfl rfl rfl ?_
                refine rv rfl rfl ?_
                refine gy rfl rfl rfl ?_
                obtain ⟨x15, hx24, ho21⟩ := bi ho21
                refine rc1 rfl rfl rfl (deval_Holds_l hx24) ?_
                refine gy rfl rfl rfl ?_
                refine rv rfl rfl ?_
                refine gy rfl rfl rfl ?_
                refine rv rfl rfl ?_
                refine gs rfl rfl rfl rfl rfl (fun hg => ?_) (fun hg => ?_)
                · have ho21 := cT hg ho21
                  refine rv rfl rfl ?_
                  refine gy rfl rfl rfl ?_
                  refine rv rfl rfl ?_
                  refine gy rfl rfl rfl ?_
                  refine rv rfl rfl ?_
                  refine gy rfl rfl rfl ?_
                  refine rv rfl rfl ?_
                  refine rv rfl rfl ?_
                  refine rn ?_
                  cases ho21
                  exact cut_n [0, 2] rfl rfl ⟨rfl, rfl, zA rfl rfl rfl (zA rfl rfl rfl (zA rfl rfl rfl (zA rfl rfl rfl (zA rfl rfl rfl (zA rfl rfl rfl (trivial)))))), zC rfl rfl rfl rfl (zC rfl rfl rfl rfl (zC rfl rfl rfl rfl (zC rfl rfl rfl rfl (zC rfl rfl rfl rfl (zC rfl rfl rfl rfl (zC rfl rfl rfl rfl (zC rfl rfl rfl rfl (zC rfl rfl rfl rfl (trivial))))))))), trivial⟩
                · have ho21 := cF hg ho21
                  refine gy rfl rfl rfl ?_
                  refine rv rfl rfl ?_
                  refine gy rfl rfl rfl ?_
                  refine rv rfl rfl ?_
                  refine gy rfl rfl rfl ?_
                  refine rv rfl rfl ?_
                  refine rv rfl rfl ?_
                  refine rn ?_
                  cases ho21
                  exact cut_n [0, 2] rfl rfl ⟨rfl, rfl, zA rfl rfl rfl (zA rfl rfl rfl (zA rfl rfl rfl (zA rfl rfl rfl (zA rfl rfl rfl (zA rfl rfl rfl (trivial)))))), zC rfl rfl rfl rfl (zC rfl rfl rfl rfl (zC rfl rfl rfl rfl (zC rfl rfl rfl rfl (zC rfl rfl rfl rfl (zC rfl rfl rfl rfl (zC rfl rfl rfl rfl (zC rfl rfl rfl rfl (zC rfl rfl rfl rfl (trivial))))))))), trivial⟩
              · have ho21 := cT hg ho21
                refine gn rfl rfl rfl rfl rfl ?_
                refine gn rfl rfl rfl rfl rfl ?_
                refine gn rfl rfl rfl rfl rfl ?_
                refine gn rfl rfl rfl rfl rfl ?_
                refine gu rfl rfl rfl rfl ?_
                refine gn rfl rfl rfl rfl rfl ?_
                refine gn rfl rfl rfl rfl rfl ?_
                refine gn rfl rfl rfl rfl rfl ?_
                refine rv rfl rfl ?_
                refine rn ?_
                cases ho21
                exact cut_n [0, 2] rfl rfl ⟨rfl, rfl, zA rfl rfl rfl (zA rfl rfl rfl (zA rfl rfl rfl (zA rfl rfl rfl (zA rfl rfl rfl (zA rfl rfl rfl (trivial)))))), zC rfl rfl rfl rfl (zC rfl rfl rfl rfl (zC rfl rfl rfl rfl (zC rfl rfl rfl rfl (zC rfl rfl rfl rfl (zC rfl rfl rfl rfl (zC rfl rfl rfl rfl (zC rfl rfl rfl rfl (zC rfl rfl rfl rfl (trivial))))))))), trivial⟩
          · rintro x12 rfl
            change awp _ _ _ _ _ ⟨_, _, _, _⟩
            refine cs_ rfl (fun hc => ?_) (fun hc => ?_)
            · have h := cT hc h
              refine awp_seq ?_
              refine awp_region ?_
              refine rv rfl rfl ?_
              refine rn ?_
              refine awp_ret ?_
              cases h
              repeat (first | refine then_ret ?_ | refine inBlock_ret ?_ | refine cut_r ?_)
              exact rr rfl rfl rfl
            · have h := cF hc h
              refine awp_skip ?_
              refine awp_seq ?_
              refine awp_region ?_
              refine rv rfl rfl ?_
              obtain ⟨names1, hx25, h⟩ := bi h
              refine rc1 rfl rfl rfl (dref06_Names_l hx25) ?_
              refine rv rfl rfl ?_
              refine rn ?_
              refine awp_seq ?_
              refine awp_seq ?_
              refine awp_region ?_
              refine rv rfl rfl ?_
              refine rn ?_
              obtain ⟨e26, hl27, h⟩ := bi h
              refine awp_cut1 (fun x => Sum.inl x = e26) (fun (_ : Unit) => ⟨[(2, .sl (l3.map c_tAttr)), (4, .ptr 0 0), (7, .ptr 1 0), (9, .bool head1), (14, .bool p1)], [(0, 0, .int .i64 kind1), (0, 1, .str (sB name1)), (0, 2, .str (sB op1)), (0, 3, .sl (vals1.map c_tAttr)), (0, 4, .sl (cs_tFilter l1)), (1, 0, .str (sB more1.Name)), (1, 1, .bool more1.Text), (1, 2, .int .i64 more1.N), (1, 3, .str (sB more1.S))], [], 2⟩) ?_ ?_
              · refine awp_block ?_
                refine awp_loopD hl27 (fun (i1 : Int) => ⟨[(2, .sl (l3.map c_tAttr)), (4, .ptr 0 0), (7, .ptr 1 0), (9, .bool head1), (14, .bool p1), (19, .sl (names1.map cS)), (20, .int .i64 i1)], [(0, 0, .int .i64 kind1), (0, 1, .str (sB name1)), (0, 2, .str (sB op1)), (0, 3, .sl (vals1.map c_tAttr)), (0, 4, .sl (cs_tFilter l1)), (1, 0, .str (sB more1.Name)), (1, 1, .bool more1.Text), (1, 2, .int .i64 more1.N), (1, 3, .str (sB more1.S))], [], 2⟩) [0, 1] rfl ⟨rfl, rfl, zA rfl rfl rfl (zA rfl rfl rfl (zA rfl rfl rfl (zA rfl rfl rfl (zA rfl rfl rfl (zA rfl rfl rfl (zA rfl rfl rfl (trivial))))))), zC rfl rfl rfl rfl (zC rfl rfl rfl rfl (zC rfl rfl rfl rfl (zC rfl rfl rfl rfl (zC rfl rfl rfl rfl (zC rfl rfl rfl rfl (zC rfl rfl rfl rfl (zC rfl rfl rfl rfl (zC rfl rfl rfl rfl (trivial))))))))), trivial⟩ ?_
                intro i1 o30 ho28 hE29
                change awp _ _ _ _ _ ⟨_, _, _, _⟩
                refine awp_seq ?_
                refine awp_seq ?_
                refine awp_region ?_
                refine rvs 2 rfl ?_
                refine rv rfl rfl ?_
                refine rt ((lM cS names1)) ?_
                refine rv rfl rfl ?_
                refine rn ?_
                refine cs_ rfl (fun hc => ?_) (fun hc => ?_)
                · have ho28 := cT hc ho28
                  refine awp_skip ?_
                  refine awp_seq ?_
                  refine awp_block ?_
                  refine awp_seq ?_
                  refine awp_dp (m := 7) Try.mix (by kernel_rfl) (by kernel_rfl) (by kernel_rfl) (by kernel_rfl) (by kernel_rfl) (by kernel_rfl) (by kernel_rfl) ?_
                  refine dv rfl rfl (fun _ => rfl) ?_
                  refine dv rfl rfl (fun _ => rfl) ?_
                  obtain ⟨x16, hx31, ho28⟩ := bi ho28
                  refine di rfl rfl rfl rfl rfl (fun _ => rfl) rfl (gi0 hx31) (giM cS hx31) (wM (fun _ => by rfl) _) ?_
                  refine dv rfl rfl (fun _ => rfl) ?_
                  refine dv rfl rfl (fun _ => rfl) ?_
                  refine dv rfl rfl (fun _ => rfl) ?_
                  refine dv rfl rfl (fun _ => rfl) ?_
                  refine dt (sEq x16 more1.Name) ?_
                  refine dn ?_
                  refine rn ?_
                  refine cs_ rfl (fun hc => ?_) (fun hc => ?_)
                  · have ho28 := cT hc ho28
                    refine awp_seq ?_
                    refine awp_region ?_
                    refine rvs 2 rfl ?_
                    refine rn ?_
                    refine awp_ret ?_
                    cases ho28
                    have hq := hE29 _ rfl
                    subst hq
                    have h := ksr h
                    subst h
                    repeat (first | refine then_ret ?_ | refine inBlock_ret ?_ | refine cut_r ?_)
                    exact rr rfl rfl rfl
                  · have ho28 := cF hc ho28
                    refine awp_skip ?_
                    refine inBlock_normal ?_
                    refine awp_region ?_
                    refine rvs 3 rfl ?_
                    refine rn ?_
                    cases ho28
                    exact lp_n [0, 1] rfl rfl ⟨rfl, rfl, zA rfl rfl rfl (zA rfl rfl rfl (zA rfl rfl rfl (zA rfl rfl rfl (zA rfl rfl rfl (zA rfl rfl rfl (zA rfl rfl rfl (trivial))))))), zC rfl rfl rfl rfl (zC rfl rfl rfl rfl (zC rfl rfl rfl rfl (zC rfl rfl rfl rfl (zC rfl rfl rfl rfl (zC rfl rfl rfl rfl (zC rfl rfl rfl rfl (zC rfl rfl rfl rfl (zC rfl rfl rfl rfl (trivial))))))))), trivial⟩
                · have ho28 := cF hc ho28
                  refine awp_exit ?_
                  repeat (first | refine then_exit ?_ | refine cut_x ?_ | refine inBlock_other rfl ?_)
                  refine inBlock_exit ?_
                  cases ho28
                  have hq := hE29 _ rfl
                  subst hq
                  exact cut_n [0, 1] rfl rfl ⟨rfl, rfl, zA rfl rfl rfl (zA rfl rfl rfl (zA rfl rfl rfl (zA rfl rfl rfl (zA rfl rfl rfl (trivial))))), zC rfl rfl rfl rfl (zC rfl rfl rfl rfl (zC rfl rfl rfl rfl (zC rfl rfl rfl rfl (zC rfl rfl rfl rfl (zC rfl rfl rfl rfl (zC rfl rfl rfl rfl (zC rfl rfl rfl rfl (zC rfl rfl rfl rfl (trivial))))))))), trivial⟩
              · rintro _ rfl
                have h := ksl h
                change awp _ _ _ _ _ ⟨_, _, _, _⟩
                refine awp_seq ?_
                refine awp_dx (m := 13) [] Try.mix (by kernel_rfl) (by kernel_rfl) (by kernel_rfl) (by kernel_rfl) (by kernel_rfl) (by kernel_rfl) ?_
                refine xv [] rfl rfl (fun _ => rfl) ?_
                refine xv [] rfl rfl (fun _ => rfl) ?_
                refine xs_ rfl rfl (fun hg => ?_) (fun hg => ?_)
                · have h := cT hg h
                  refine xv [0] rfl rfl (fun _ => rfl) ?_
                  refine xE [] (.own 2) 3 _ _ rfl rfl (by
                      refine rbs false rfl rfl rfl rfl rfl rfl rfl rfl rfl rfl ?_
                      exact rn ⟨rfl, rfl⟩) (by rfl) (by rfl) (by rfl) ?_
                  refine xv [1] rfl rfl (fun _ => rfl) ?_
                  refine xE [] (.own 3) 4 _ _ rfl rfl (by
                      refine rbs false rfl rfl rfl rfl rfl rfl rfl rfl rfl rfl ?_
                      exact rn ⟨rfl, rfl⟩) (by rfl) (by rfl) (by rfl) ?_
                  obtain ⟨x17, hx32, h⟩ := bi h
                  refine xE [2, 3] (.own 4) 5 _ _ rfl rfl (by
                      refine rap false (xs := [].map c_tAttr) (ys := [more1].map c_tAttr) rfl rfl rfl rfl rfl rfl rfl (.own rfl rfl) (.sl rfl rfl rfl) (wM (fun _ => by rfl) _) (oM (fun _ => by rfl) _) (apB c_tAttr rfl hx32) rfl ?_
                      refine rk (congrArg (Kind.row _) (apM c_tAttr hx32)) ?_
                      exact rn ⟨rfl, rfl⟩) (by rfl) (by rfl) (by rfl) ?_
                  refine xv [] rfl rfl (fun _ => rfl) ?_
                  obtain ⟨x18, hx33, h⟩ := bi h
                  refine xE [4] (.own 5) 6 _ _ rfl rfl (by
                      refine rap false (xs := x17.map c_tAttr) (ys := l3.map c_tAttr) rfl rfl rfl rfl rfl rfl rfl (.own rfl rfl) (.sl rfl rfl rfl) (wM (fun _ => by rfl) _) (oM (fun _ => by rfl) _) (apB c_tAttr rfl hx33) rfl ?_
                      refine rk (congrArg (Kind.row _) (apM c_tAttr hx33)) ?_
                      exact rn ⟨rfl, rfl⟩) (by rfl) (by rfl) (by rfl) ?_
                  obtain ⟨x19, hx34, h⟩ := bi h
                  refine xc [5] rfl rfl rfl (fun _ => rfl) (fun _ => (deval_Holds_l hx34)) ?_
                  refine xv [] rfl rfl (fun _ => rfl) ?_
                  refine xv [] rfl rfl (fun _ => rfl) ?_
                  refine xv [] rfl rfl (fun _ => rfl) ?_
                  refine xn (by kernel_rfl) ?_
                  refine rv rfl rfl ?_
                  refine rn ?_
                  refine awp_ret ?_
                  cases h
                  repeat (first | refine then_ret ?_ | refine inBlock_ret ?_ | refine cut_r ?_)
                  exact rr rfl rfl rfl
                · have h := cF hg h
                  refine xno rfl rfl ?_
                  refine xno rfl rfl ?_
                  refine xno rfl rfl ?_
                  refine xno rfl rfl ?_
                  refine xno rfl rfl ?_
                  refine xno rfl rfl ?_
                  refine xno rfl rfl ?_
                  refine xno rfl rfl ?_
                  refine xno rfl rfl ?_
                  refine xno rfl rfl ?_
                  refine xv [] rfl rfl (fun _ => rfl) ?_
                  refine xn (by kernel_rfl) ?_
                  refine rv rfl rfl ?_
                  refine rn ?_
                  refine awp_ret ?_
                  cases h
                  repeat (first | refine then_ret ?_ | refine inBlock_ret ?_ | refine cut_r ?_)
                  exact rr rfl rfl rfl
end

end Go.Proofs.Ytaekecbadkcggaa
