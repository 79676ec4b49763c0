/- Plain functions, and walks, printed by a program of this session's. -/
import Derived.Test.YtaekecbadkcggaaD10
import Derived.Test.YtaekecbadkcggaaPwE
namespace Go.Proofs.Ytaekecbadkcggaa
open Go.Pv
set_option maxRecDepth 100000
set_option maxHeartbeats 4000000
set_option linter.unusedSimpArgs false
set_option linter.unusedVariables false
set_option linter.unusedSectionVars false

/-- `plover/ploverref10.event` -/
def dref10_event (fu : Nat) (e1 : tEvent) : Option Bool :=
  (dref01_May fu e1.At).bind fun at1 => (bif (decide (e1.Pub < 0)) then some true else (bif (decide (e1.Pub > 2147483647)) then some true else (bif (!at1) then some true else some (decide ((e1.Attrs.length : Int) > 16)))) : Option Bool).bind fun (x1 : Bool) => (bif x1 then some false else ((loopD (ε := Int) (τ := Unit ⊕ Bool) (fun (i1 : Int) => (bif (decide (i1 < (e1.Attrs.length : Int))) then ((gi e1.Attrs i1).bind fun x2 => (bif (decide ((x2.Name.length : Int) > 200)) then some true else (bif (decide ((x2.S.length : Int) > 200)) then some true else (bif x2.Text then (bif (x2.N != 0) then some true else (bif (!x2.Text) then some (!(x2.S == [])) else some false)) else (bif (!x2.Text) then some (!(x2.S == [])) else some false))) : Option Bool).bind fun (x3 : Bool) => (bif x3 then some (Sum.inr (Sum.inr false)) else some (Sum.inl (W (i1 + 1))))) else some (Sum.inr (Sum.inl ())))) fu 0).bind fun o => kS o fun (_ : Unit) => some true))
section
attribute [local irreducible] awp aops DP PCall ACall Decidable.decide
theorem dref10_event_l {fu : Nat} {e1 : tEvent} {r : Bool} (h : dref10_event fu e1 = some r) : PCall Try.prog 67 [.agg [.int .i64 e1.Pub, .int .u32 e1.Seq, .int .i64 e1.At.X, .int .i64 e1.At.Y, .sl (e1.Attrs.map c_tAttr)]] (· = .bool r) := by
  rw [dref10_event] at h
  refine pcall_body Try.func67 rfl (by kernel_rfl) (by rfl) ?_
  refine awp_seq ?_
  refine awp_region ?_
  refine rb rfl rfl ?_
  refine rv rfl rfl ?_
  refine rn ?_
  refine awp_seq ?_
  refine awp_region ?_
  refine rvs 2 rfl ?_
  obtain ⟨at1, hx1, h⟩ := bi h
  refine rc1 rfl rfl rfl (dref01_May_l hx1) ?_
  refine rv rfl rfl ?_
  refine rn ?_
  refine awp_seq ?_
  refine awp_seq ?_
  obtain ⟨o2, ho3, h⟩ := bi h
  refine awp_cut1 (fun x => x = o2) (fun (x1 : Bool) => ⟨[(1, .ptr 0 0), (26, .bool x1)], [(0, 0, .int .i64 e1.Pub), (0, 1, .int .u32 e1.Seq), (0, 2, .int .i64 e1.At.X), (0, 3, .int .i64 e1.At.Y), (0, 4, .sl (e1.Attrs.map c_tAttr))], [], 1⟩) ?_ ?_
  · refine awp_region ?_
    refine rvs 4 rfl ?_
    refine gs rfl rfl rfl rfl rfl (fun hg => ?_) (fun hg => ?_)
    · have ho3 := cF hg ho3
      refine rv rfl rfl ?_
      refine gy rfl rfl rfl ?_
      refine rv rfl rfl ?_
      refine gy rfl rfl rfl ?_
      refine rv rfl rfl ?_
      refine rvs 2 rfl ?_
      refine gs rfl rfl rfl rfl rfl (fun hg => ?_) (fun hg => ?_)
      · have ho3 := cF hg ho3
        refine rv rfl rfl ?_
        refine gy rfl rfl rfl ?_
        refine rv rfl rfl ?_
        refine rvs 2 rfl ?_
        refine gs rfl rfl rfl rfl rfl (fun hg => ?_) (fun hg => ?_)
        · have ho3 := cF hg ho3
          refine rv rfl rfl ?_
          refine gy rfl rfl rfl ?_
          refine rv rfl rfl ?_
          refine gy rfl rfl rfl ?_
          refine rv rfl rfl ?_
          refine rt ((lM c_tAttr e1.Attrs)) ?_
          refine gy rfl rfl rfl ?_
          refine rv rfl rfl ?_
          refine rv rfl rfl ?_
          refine rn ?_
          cases ho3
          exact cut_n [0] rfl rfl ⟨rfl, rfl, zA rfl rfl rfl (zA rfl rfl rfl (trivial)), zC rfl rfl rfl rfl (zC rfl rfl rfl rfl (zC rfl rfl rfl rfl (zC rfl rfl rfl rfl (zC rfl rfl rfl rfl (trivial))))), trivial⟩
        · have ho3 := cT hg ho3
          refine gn rfl rfl rfl rfl rfl ?_
          refine gn rfl rfl rfl rfl rfl ?_
          refine gn rfl rfl rfl rfl rfl ?_
          refine rv rfl rfl ?_
          refine rn ?_
          cases ho3
          exact cut_n [0] rfl rfl ⟨rfl, rfl, zA rfl rfl rfl (zA rfl rfl rfl (trivial)), zC rfl rfl rfl rfl (zC rfl rfl rfl rfl (zC rfl rfl rfl rfl (zC rfl rfl rfl rfl (zC rfl rfl rfl rfl (trivial))))), trivial⟩
      · have ho3 := cT hg ho3
        refine gn rfl rfl rfl rfl rfl ?_
        refine rvs 2 rfl ?_
        refine gn rfl rfl rfl rfl rfl ?_
        refine gn rfl rfl rfl rfl rfl ?_
        refine gn rfl rfl rfl rfl rfl ?_
        refine gn rfl rfl rfl rfl rfl ?_
        refine rv rfl rfl ?_
        refine rn ?_
        cases ho3
        exact cut_n [0] rfl rfl ⟨rfl, rfl, zA rfl rfl rfl (zA rfl rfl rfl (trivial)), zC rfl rfl rfl rfl (zC rfl rfl rfl rfl (zC rfl rfl rfl rfl (zC rfl rfl rfl rfl (zC rfl rfl rfl rfl (trivial))))), trivial⟩
    · have ho3 := cT hg ho3
      refine gn rfl rfl rfl rfl rfl ?_
      refine gn rfl rfl rfl rfl rfl ?_
      refine rvs 2 rfl ?_
      refine gn rfl rfl rfl rfl rfl ?_
      refine gn rfl rfl rfl rfl rfl ?_
      refine rvs 2 rfl ?_
      refine gn rfl rfl rfl rfl rfl ?_
      refine gn rfl rfl rfl rfl rfl ?_
      refine gn rfl rfl rfl rfl rfl ?_
      refine gn rfl rfl rfl rfl rfl ?_
      refine rv rfl rfl ?_
      refine rn ?_
      cases ho3
      exact cut_n [0] rfl rfl ⟨rfl, rfl, zA rfl rfl rfl (zA rfl rfl rfl (trivial)), zC rfl rfl rfl rfl (zC rfl rfl rfl rfl (zC rfl rfl rfl rfl (zC rfl rfl rfl rfl (zC rfl rfl rfl rfl (trivial))))), trivial⟩
  · rintro x1 rfl
    change awp _ _ _ _ _ ⟨_, _, _, _⟩
    refine cs_ rfl (fun hc => ?_) (fun hc => ?_)
    · have h := cT hc h
      refine awp_seq ?_
      refine awp_region ?_
      refine rv rfl rfl ?_
      refine rn ?_
      refine awp_ret ?_
      cases h
      repeat (first | refine then_ret ?_ | refine inBlock_ret ?_ | refine cut_r ?_)
      exact rr rfl rfl rfl
    · have h := cF hc h
      refine awp_skip ?_
      refine awp_seq ?_
      refine awp_seq ?_
      refine awp_region ?_
      refine rv rfl rfl ?_
      refine rn ?_
      obtain ⟨e4, hl5, h⟩ := bi h
      refine awp_cut1 (fun x => Sum.inl x = e4) (fun (_ : Unit) => ⟨[], [], [], 0⟩) ?_ ?_
      · refine awp_block ?_
        refine awp_loopD hl5 (fun (i1 : Int) => ⟨[(1, .ptr 0 0), (4, .int .i64 i1)], [(0, 0, .int .i64 e1.Pub), (0, 1, .int .u32 e1.Seq), (0, 2, .int .i64 e1.At.X), (0, 3, .int .i64 e1.At.Y), (0, 4, .sl (e1.Attrs.map c_tAttr))], [], 1⟩) [0] rfl ⟨rfl, rfl, zA rfl rfl rfl (zA rfl rfl rfl (trivial)), zC rfl rfl rfl rfl (zC rfl rfl rfl rfl (zC rfl rfl rfl rfl (zC rfl rfl rfl rfl (zC rfl rfl rfl rfl (trivial))))), trivial⟩ ?_
        intro i1 o8 ho6 hE7
        change awp _ _ _ _ _ ⟨_, _, _, _⟩
        refine awp_seq ?_
        refine awp_seq ?_
        refine awp_region ?_
        refine rvs 3 rfl ?_
        refine rv rfl rfl ?_
        refine rt ((lM c_tAttr e1.Attrs)) ?_
        refine rv rfl rfl ?_
        refine rn ?_
        refine cs_ rfl (fun hc => ?_) (fun hc => ?_)
        · have ho6 := cT hc ho6
          refine awp_skip ?_
          refine awp_seq ?_
          refine awp_block ?_
          refine awp_seq ?_
          refine awp_region ?_
          refine rvs 3 rfl ?_
          obtain ⟨x2, hx9, ho6⟩ := bi ho6
          refine ri rfl rfl rfl rfl rfl rfl (gi0 hx9) (giM c_tAttr hx9) (wM (fun _ => by rfl) _) ?_
          refine rv rfl rfl ?_
          refine ra rfl rfl rfl ?_
          refine rs rfl rfl rfl rfl rfl rfl rfl ?_
          refine rn ?_
          refine awp_seq ?_
          obtain ⟨o10, ho11, ho6⟩ := bi ho6
          refine awp_cut1 (fun x => x = o10) (fun (x3 : Bool) => ⟨[(1, .ptr 0 0), (4, .int .i64 i1), (67, .bool x3)], [(0, 0, .int .i64 e1.Pub), (0, 1, .int .u32 e1.Seq), (0, 2, .int .i64 e1.At.X), (0, 3, .int .i64 e1.At.Y), (0, 4, .sl (e1.Attrs.map c_tAttr))], [], 1⟩) ?_ ?_
          · refine awp_region ?_
            refine rvs 5 rfl ?_
            refine gs rfl rfl rfl rfl rfl (fun hg => ?_) (fun hg => ?_)
            · have ho11 := cF hg ho11
              refine rv rfl rfl ?_
              refine gy rfl rfl rfl ?_
              refine rv rfl rfl ?_
              refine gy rfl rfl rfl ?_
              refine rv rfl rfl ?_
              refine gy rfl rfl rfl ?_
              refine rv rfl rfl ?_
              refine rvs 2 rfl ?_
              refine gs rfl rfl rfl rfl rfl (fun hg => ?_) (fun hg => ?_)
              · have ho11 := cF hg ho11
                refine rv rfl rfl ?_
                refine gy rfl rfl rfl ?_
                refine rv rfl rfl ?_
                refine gy rfl rfl rfl ?_
                refine rv rfl rfl ?_
                refine gs rfl rfl rfl rfl rfl (fun hg => ?_) (fun hg => ?_)
                · have ho11 := cT hg ho11
                  refine rv rfl rfl ?_
                  refine gy rfl rfl rfl ?_
                  refine rv rfl rfl ?_
                  refine gy rfl rfl rfl ?_
                  refine rv rfl rfl ?_
                  refine gy rfl rfl rfl ?_
                  refine rv rfl rfl ?_
                  refine rvs 2 rfl ?_
                  refine gs rfl rfl rfl rfl rfl (fun hg => ?_) (fun hg => ?_)
                  · have ho11 := cF hg ho11
                    refine rv rfl rfl ?_
                    refine gy rfl rfl rfl ?_
                    refine rv rfl rfl ?_
                    refine gy rfl rfl rfl ?_
                    refine rv rfl rfl ?_
                    refine gy rfl rfl rfl ?_
                    refine rv rfl rfl ?_
                    refine gs rfl rfl rfl rfl rfl (fun hg => ?_) (fun hg => ?_)
                    · have ho11 := cT hg ho11
                      refine rv rfl rfl ?_
                      refine gy rfl rfl rfl ?_
                      refine rv rfl rfl ?_
                      refine gy rfl rfl rfl ?_
                      refine rv rfl rfl ?_
                      refine rt (sNe x2.S []) ?_
                      refine gy rfl rfl rfl ?_
                      refine rv rfl rfl ?_
                      refine rv rfl rfl ?_
                      refine rn ?_
                      cases ho11
                      exact cut_n [0] rfl rfl ⟨rfl, rfl, zA rfl rfl rfl (zA rfl rfl rfl (zA rfl rfl rfl (trivial))), zC rfl rfl rfl rfl (zC rfl rfl rfl rfl (zC rfl rfl rfl rfl (zC rfl rfl rfl rfl (zC rfl rfl rfl rfl (trivial))))), trivial⟩
                    · have ho11 := cF hg ho11
                      refine gn rfl rfl rfl rfl rfl ?_
                      refine gn rfl rfl rfl rfl rfl ?_
                      refine gy rfl rfl rfl ?_
                      refine rv rfl rfl ?_
                      refine rv rfl rfl ?_
                      refine rn ?_
                      cases ho11
                      exact cut_n [0] rfl rfl ⟨rfl, rfl, zA rfl rfl rfl (zA rfl rfl rfl (zA rfl rfl rfl (trivial))), zC rfl rfl rfl rfl (zC rfl rfl rfl rfl (zC rfl rfl rfl rfl (zC rfl rfl rfl rfl (zC rfl rfl rfl rfl (trivial))))), trivial⟩
                  · have ho11 := cT hg ho11
                    refine gn rfl rfl rfl rfl rfl ?_
                    refine gn rfl rfl rfl rfl rfl ?_
                    refine gn rfl rfl rfl rfl rfl ?_
                    refine gu rfl rfl rfl rfl ?_
                    refine gu rfl rfl rfl rfl ?_
                    refine gu rfl rfl rfl rfl ?_
                    refine gn rfl rfl rfl rfl rfl ?_
                    refine rv rfl rfl ?_
                    refine rn ?_
                    cases ho11
                    exact cut_n [0] rfl rfl ⟨rfl, rfl, zA rfl rfl rfl (zA rfl rfl rfl (zA rfl rfl rfl (trivial))), zC rfl rfl rfl rfl (zC rfl rfl rfl rfl (zC rfl rfl rfl rfl (zC rfl rfl rfl rfl (zC rfl rfl rfl rfl (trivial))))), trivial⟩
                · have ho11 := cF hg ho11
                  refine gn rfl rfl rfl rfl rfl ?_
                  refine gn rfl rfl rfl rfl rfl ?_
                  refine gy rfl rfl rfl ?_
                  refine rv rfl rfl ?_
                  refine rvs 2 rfl ?_
                  refine gy rfl rfl rfl ?_
                  refine rv rfl rfl ?_
                  refine gy rfl rfl rfl ?_
                  refine rv rfl rfl ?_
                  refine gy rfl rfl rfl ?_
                  refine rv rfl rfl ?_
                  refine gy rfl rfl rfl ?_
                  refine rv rfl rfl ?_
                  refine gs rfl rfl rfl rfl rfl (fun hg => ?_) (fun hg => ?_)
                  · have ho11 := cT hg ho11
                    refine rv rfl rfl ?_
                    refine gy rfl rfl rfl ?_
                    refine rv rfl rfl ?_
                    refine gy rfl rfl rfl ?_
                    refine rv rfl rfl ?_
                    refine rt (sNe x2.S []) ?_
                    refine gy rfl rfl rfl ?_
                    refine rv rfl rfl ?_
                    refine rv rfl rfl ?_
                    refine rn ?_
                    cases ho11
                    exact cut_n [0] rfl rfl ⟨rfl, rfl, zA rfl rfl rfl (zA rfl rfl rfl (zA rfl rfl rfl (trivial))), zC rfl rfl rfl rfl (zC rfl rfl rfl rfl (zC rfl rfl rfl rfl (zC rfl rfl rfl rfl (zC rfl rfl rfl rfl (trivial))))), trivial⟩
                  · have ho11 := cF hg ho11
                    refine gn rfl rfl rfl rfl rfl ?_
                    refine gn rfl rfl rfl rfl rfl ?_
                    refine gy rfl rfl rfl ?_
                    refine rv rfl rfl ?_
                    refine rv rfl rfl ?_
                    refine rn ?_
                    cases ho11
                    exact cut_n [0] rfl rfl ⟨rfl, rfl, zA rfl rfl rfl (zA rfl rfl rfl (zA rfl rfl rfl (trivial))), zC rfl rfl rfl rfl (zC rfl rfl rfl rfl (zC rfl rfl rfl rfl (zC rfl rfl rfl rfl (zC rfl rfl rfl rfl (trivial))))), trivial⟩
              · have ho11 := cT hg ho11
                refine gn rfl rfl rfl rfl rfl ?_
                refine gn rfl rfl rfl rfl rfl ?_
                refine gu rfl rfl rfl rfl ?_
                refine gu rfl rfl rfl rfl ?_
                refine gu rfl rfl rfl rfl ?_
                refine gn rfl rfl rfl rfl rfl ?_
                refine rvs 2 rfl ?_
                refine gn rfl rfl rfl rfl rfl ?_
                refine gn rfl rfl rfl rfl rfl ?_
                refine gn rfl rfl rfl rfl rfl ?_
                refine gn rfl rfl rfl rfl rfl ?_
                refine gu rfl rfl rfl rfl ?_
                refine gu rfl rfl rfl rfl ?_
                refine gu rfl rfl rfl rfl ?_
                refine gn rfl rfl rfl rfl rfl ?_
                refine rv rfl rfl ?_
                refine rn ?_
                cases ho11
                exact cut_n [0] rfl rfl ⟨rfl, rfl, zA rfl rfl rfl (zA rfl rfl rfl (zA rfl rfl rfl (trivial))), zC rfl rfl rfl rfl (zC rfl rfl rfl rfl (zC rfl rfl rfl rfl (zC rfl rfl rfl rfl (zC rfl rfl rfl rfl (trivial))))), trivial⟩
            · have ho11 := cT hg ho11
              refine gn rfl rfl rfl rfl rfl ?_
              refine gn rfl rfl rfl rfl rfl ?_
              refine gn rfl rfl rfl rfl rfl ?_
              refine rvs 2 rfl ?_
              refine gn rfl rfl rfl rfl rfl ?_
              refine gn rfl rfl rfl rfl rfl ?_
              refine gn rfl rfl rfl rfl rfl ?_
              refine gu rfl rfl rfl rfl ?_
              refine gu rfl rfl rfl rfl ?_
              refine gu rfl rfl rfl rfl ?_
              refine gn rfl rfl rfl rfl rfl ?_
              refine rvs 2 rfl ?_
              refine gn rfl rfl rfl rfl rfl ?_
              refine gn rfl rfl rfl rfl rfl ?_
              refine gn rfl rfl rfl rfl rfl ?_
              refine gn rfl rfl rfl rfl rfl ?_
              refine gu rfl rfl rfl rfl ?_
              refine gu rfl rfl rfl rfl ?_
              refine gu rfl rfl rfl rfl ?_
              refine gn rfl rfl rfl rfl rfl ?_
              refine rv rfl rfl ?_
              refine rn ?_
              cases ho11
              exact cut_n [0] rfl rfl ⟨rfl, rfl, zA rfl rfl rfl (zA rfl rfl rfl (zA rfl rfl rfl (trivial))), zC rfl rfl rfl rfl (zC rfl rfl rfl rfl (zC rfl rfl rfl rfl (zC rfl rfl rfl rfl (zC rfl rfl rfl rfl (trivial))))), trivial⟩
          · rintro x3 rfl
            change awp _ _ _ _ _ ⟨_, _, _, _⟩
            refine cs_ rfl (fun hc => ?_) (fun hc => ?_)
            · have ho6 := cT hc ho6
              refine awp_seq ?_
              refine awp_region ?_
              refine rv rfl rfl ?_
              refine rn ?_
              refine awp_ret ?_
              cases ho6
              have hq := hE7 _ rfl
              subst hq
              have h := ksr h
              subst h
              repeat (first | refine then_ret ?_ | refine inBlock_ret ?_ | refine cut_r ?_)
              exact rr rfl rfl rfl
            · have ho6 := cF hc ho6
              refine awp_skip ?_
              refine inBlock_normal ?_
              refine awp_region ?_
              refine rvs 3 rfl ?_
              refine rn ?_
              cases ho6
              exact lp_n [0] rfl rfl ⟨rfl, rfl, zA rfl rfl rfl (zA rfl rfl rfl (trivial)), zC rfl rfl rfl rfl (zC rfl rfl rfl rfl (zC rfl rfl rfl rfl (zC rfl rfl rfl rfl (zC rfl rfl rfl rfl (trivial))))), trivial⟩
        · have ho6 := cF hc ho6
          refine awp_exit ?_
          repeat (first | refine then_exit ?_ | refine cut_x ?_ | refine inBlock_other rfl ?_)
          refine inBlock_exit ?_
          cases ho6
          have hq := hE7 _ rfl
          subst hq
          exact cut_n [] rfl rfl ⟨rfl, rfl, trivial, trivial, trivial⟩
      · rintro _ rfl
        have h := ksl h
        refine awp_seq ?_
        refine awp_region ?_
        refine rv rfl rfl ?_
        refine rn ?_
        refine awp_ret ?_
        cases h
        repeat (first | refine then_ret ?_ | refine inBlock_ret ?_ | refine cut_r ?_)
        exact rr rfl rfl rfl
end

/-- `plover/ploverref10.none` -/
def dref10_none (fu : Nat) (e1 : tEvent) : Option Bool :=
  bif (e1.Pub == 0) then (bif (e1.Seq == 0) then (bif (e1.At.X == 0) then (bif (e1.At.Y == 0) then ((some ((e1.Attrs.length : Int) == 0)).bind fun x1 => some x1) else some false) else some false) else some false) else some false
section
attribute [local irreducible] awp aops DP PCall ACall Decidable.decide
theorem dref10_none_l {fu : Nat} {e1 : tEvent} {r : Bool} (h : dref10_none fu e1 = some r) : PCall Try.prog 66 [.agg [.int .i64 e1.Pub, .int .u32 e1.Seq, .int .i64 e1.At.X, .int .i64 e1.At.Y, .sl (e1.Attrs.map c_tAttr)]] (· = .bool r) := by
  rw [dref10_none] at h
  refine pcall_body Try.func66 rfl (by kernel_rfl) (by rfl) ?_
  refine awp_seq ?_
  refine awp_region ?_
  refine rb rfl rfl ?_
  refine rv rfl rfl ?_
  refine rn ?_
  refine awp_seq ?_
  refine awp_region ?_
  refine rvs 4 rfl ?_
  refine gs rfl rfl rfl rfl rfl (fun hg => ?_) (fun hg => ?_)
  · have h := cT hg h
    refine rv rfl rfl ?_
    refine gy rfl rfl rfl ?_
    refine rv rfl rfl ?_
    refine gy rfl rfl rfl ?_
    refine rv rfl rfl ?_
    refine rvs 2 rfl ?_
    refine gs rfl rfl rfl rfl rfl (fun hg => ?_) (fun hg => ?_)
    · have h := cT hg h
      refine rv rfl rfl ?_
      refine gy rfl rfl rfl ?_
      refine rv rfl rfl ?_
      refine gy rfl rfl rfl ?_
      refine rv rfl rfl ?_
      refine gy rfl rfl rfl ?_
      refine rv rfl rfl ?_
      refine rvs 2 rfl ?_
      refine gs rfl rfl rfl rfl rfl (fun hg => ?_) (fun hg => ?_)
      · have h := cT hg h
        refine rv rfl rfl ?_
        refine gy rfl rfl rfl ?_
        refine rv rfl rfl ?_
        refine gy rfl rfl rfl ?_
        refine rv rfl rfl ?_
        refine gy rfl rfl rfl ?_
        refine rv rfl rfl ?_
        refine rvs 2 rfl ?_
        refine gs rfl rfl rfl rfl rfl (fun hg => ?_) (fun hg => ?_)
        · have h := cT hg h
          refine rv rfl rfl ?_
          refine gy rfl rfl rfl ?_
          refine rv rfl rfl ?_
          refine gy rfl rfl rfl ?_
          refine rv rfl rfl ?_
          refine rt ((lM c_tAttr e1.Attrs)) ?_
          refine gy rfl rfl rfl ?_
          refine rv rfl rfl ?_
          refine rvs 2 rfl ?_
          obtain ⟨x1, hx1, h⟩ := bs h
          refine rt (eb' hx1) ?_
          refine rn ?_
          refine awp_ret ?_
          cases h
          repeat (first | refine then_ret ?_ | refine inBlock_ret ?_ | refine cut_r ?_)
          exact rr rfl rfl rfl
        · have h := cF hg h
          refine gn rfl rfl rfl rfl rfl ?_
          refine gn rfl rfl rfl rfl rfl ?_
          refine gn rfl rfl rfl rfl rfl ?_
          refine rvs 2 rfl ?_
          refine rn ?_
          refine awp_ret ?_
          cases h
          repeat (first | refine then_ret ?_ | refine inBlock_ret ?_ | refine cut_r ?_)
          exact rr rfl rfl rfl
      · have h := cF hg h
        refine gn rfl rfl rfl rfl rfl ?_
        refine gn rfl rfl rfl rfl rfl ?_
        refine gn rfl rfl rfl rfl rfl ?_
        refine rvs 2 rfl ?_
        refine gn rfl rfl rfl rfl rfl ?_
        refine gn rfl rfl rfl rfl rfl ?_
        refine gn rfl rfl rfl rfl rfl ?_
        refine gn rfl rfl rfl rfl rfl ?_
        refine rvs 2 rfl ?_
        refine rn ?_
        refine awp_ret ?_
        cases h
        repeat (first | refine then_ret ?_ | refine inBlock_ret ?_ | refine cut_r ?_)
        exact rr rfl rfl rfl
    · have h := cF hg h
      refine gn rfl rfl rfl rfl rfl ?_
      refine gn rfl rfl rfl rfl rfl ?_
      refine gn rfl rfl rfl rfl rfl ?_
      refine rvs 2 rfl ?_
      refine gn rfl rfl rfl rfl rfl ?_
      refine gn rfl rfl rfl rfl rfl ?_
      refine gn rfl rfl rfl rfl rfl ?_
      refine gn rfl rfl rfl rfl rfl ?_
      refine rvs 2 rfl ?_
      refine gn rfl rfl rfl rfl rfl ?_
      refine gn rfl rfl rfl rfl rfl ?_
      refine gn rfl rfl rfl rfl rfl ?_
      refine gn rfl rfl rfl rfl rfl ?_
      refine rvs 2 rfl ?_
      refine rn ?_
      refine awp_ret ?_
      cases h
      repeat (first | refine then_ret ?_ | refine inBlock_ret ?_ | refine cut_r ?_)
      exact rr rfl rfl rfl
  · have h := cF hg h
    refine gn rfl rfl rfl rfl rfl ?_
    refine gn rfl rfl rfl rfl rfl ?_
    refine rvs 2 rfl ?_
    refine gn rfl rfl rfl rfl rfl ?_
    refine gn rfl rfl rfl rfl rfl ?_
    refine gn rfl rfl rfl rfl rfl ?_
    refine gn rfl rfl rfl rfl rfl ?_
    refine rvs 2 rfl ?_
    refine gn rfl rfl rfl rfl rfl ?_
    refine gn rfl rfl rfl rfl rfl ?_
    refine gn rfl rfl rfl rfl rfl ?_
    refine gn rfl rfl rfl rfl rfl ?_
    refine rvs 2 rfl ?_
    refine gn rfl rfl rfl rfl rfl ?_
    refine gn rfl rfl rfl rfl rfl ?_
    refine gn rfl rfl rfl rfl rfl ?_
    refine gn rfl rfl rfl rfl rfl ?_
    refine rvs 2 rfl ?_
    refine rn ?_
    refine awp_ret ?_
    cases h
    repeat (first | refine then_ret ?_ | refine inBlock_ret ?_ | refine cut_r ?_)
    exact rr rfl rfl rfl
end

/-- `plover/ploverref10.May` -/
def dref10_May (fu : Nat) (m1 : tMsg) : Option Bool :=
  (bif (decide (m1.Sub < 0)) then some true else (bif (decide (m1.Version < 0)) then some true else (bif (decide (m1.Home < 0)) then some true else (bif (decide (m1.Sub > 2147483647)) then some true else (bif (decide (m1.Version > 2147483647)) then some true else (bif (decide (m1.Home > 2147483647)) then some true else some (decide ((m1.Filter.length : Int) > 500))))))) : Option Bool).bind fun (x1 : Bool) => (bif x1 then some false else ((dref01_Rect fu m1.Rect).bind fun rect1 => (dref10_none fu m1.Event).bind fun empty1 => (dref10_event fu m1.Event).bind fun told1 => (bif (m1.Home == 0) then (bif ((m1.Rect.X1 == 0) && ((m1.Rect.Y1 == 0) && ((m1.Rect.X2 == 0) && ((m1.Rect.Y2 == 0) && true)))) then some (m1.Filter == []) else some false) else some false : Option Bool).bind fun (bare1 : Bool) => (bif (m1.Kind == 1) then (bif rect1 then some empty1 else some false) else (bif (m1.Kind == 2) then (bif bare1 then some empty1 else some false) else (bif (m1.Kind == 3) then (bif bare1 then (bif (m1.Sub == 0) then (bif (m1.Version == 0) then some told1 else some false) else some false) else some false) else (bif (m1.Kind == 4) then (bif bare1 then (bif (m1.Version == 0) then some told1 else some false) else some false) else some false))))))
section
attribute [local irreducible] awp aops DP PCall ACall Decidable.decide
theorem dref10_May_l {fu : Nat} {m1 : tMsg} {r : Bool} (h : dref10_May fu m1 = some r) : PCall Try.prog 38 [.agg [.int .i64 m1.Kind, .int .i64 m1.Sub, .int .i64 m1.Version, .int .i64 m1.Home, .int .i64 m1.Rect.X1, .int .i64 m1.Rect.Y1, .int .i64 m1.Rect.X2, .int .i64 m1.Rect.Y2, .str (sB m1.Filter), .int .i64 m1.Event.Pub, .int .u32 m1.Event.Seq, .int .i64 m1.Event.At.X, .int .i64 m1.Event.At.Y, .sl (m1.Event.Attrs.map c_tAttr)]] (· = .bool r) := by
  rw [dref10_May] at h
  refine pcall_body Try.func38 rfl (by kernel_rfl) (by rfl) ?_
  refine awp_seq ?_
  refine awp_region ?_
  refine rb rfl rfl ?_
  refine rv rfl rfl ?_
  refine rn ?_
  refine awp_seq ?_
  refine awp_seq ?_
  obtain ⟨o1, ho2, h⟩ := bi h
  refine awp_cut1 (fun x => x = o1) (fun (x1 : Bool) => ⟨[(1, .ptr 0 0), (40, .bool x1)], [(0, 0, .int .i64 m1.Kind), (0, 1, .int .i64 m1.Sub), (0, 2, .int .i64 m1.Version), (0, 3, .int .i64 m1.Home), (0, 4, .int .i64 m1.Rect.X1), (0, 5, .int .i64 m1.Rect.Y1), (0, 6, .int .i64 m1.Rect.X2), (0, 7, .int .i64 m1.Rect.Y2), (0, 8, .str (sB m1.Filter)), (0, 9, .int .i64 m1.Event.Pub), (0, 10, .int .u32 m1.Event.Seq), (0, 11, .int .i64 m1.Event.At.X), (0, 12, .int .i64 m1.Event.At.Y), (0, 13, .sl (m1.Event.Attrs.map c_tAttr))], [], 1⟩) ?_ ?_
  · refine awp_region ?_
    refine rvs 4 rfl ?_
    refine gs rfl rfl rfl rfl rfl (fun hg => ?_) (fun hg => ?_)
    · have ho2 := cF hg ho2
      refine rv rfl rfl ?_
      refine gy rfl rfl rfl ?_
      refine rv rfl rfl ?_
      refine gy rfl rfl rfl ?_
      refine rv rfl rfl ?_
      refine rvs 2 rfl ?_
      refine gs rfl rfl rfl rfl rfl (fun hg => ?_) (fun hg => ?_)
      · have ho2 := cF hg ho2
        refine rv rfl rfl ?_
        refine gy rfl rfl rfl ?_
        refine rv rfl rfl ?_
        refine gy rfl rfl rfl ?_
        refine rv rfl rfl ?_
        refine rvs 2 rfl ?_
        refine gs rfl rfl rfl rfl rfl (fun hg => ?_) (fun hg => ?_)
        · have ho2 := cF hg ho2
          refine rv rfl rfl ?_
          refine gy rfl rfl rfl ?_
          refine rv rfl rfl ?_
          refine gy rfl rfl rfl ?_
          refine rv rfl rfl ?_
          refine rvs 2 rfl ?_
          refine gs rfl rfl rfl rfl rfl (fun hg => ?_) (fun hg => ?_)
          · have ho2 := cF hg ho2
            refine rv rfl rfl ?_
            refine gy rfl rfl rfl ?_
            refine rv rfl rfl ?_
            refine gy rfl rfl rfl ?_
            refine rv rfl rfl ?_
            refine rvs 2 rfl ?_
            refine gs rfl rfl rfl rfl rfl (fun hg => ?_) (fun hg => ?_)
            · have ho2 := cF hg ho2
              refine rv rfl rfl ?_
              refine gy rfl rfl rfl ?_
              refine rv rfl rfl ?_
              refine gy rfl rfl rfl ?_
              refine rv rfl rfl ?_
              refine rvs 2 rfl ?_
              refine gs rfl rfl rfl rfl rfl (fun hg => ?_) (fun hg => ?_)
              · have ho2 := cF hg ho2
                refine rv rfl rfl ?_
                refine gy rfl rfl rfl ?_
                refine rv rfl rfl ?_
                refine gy rfl rfl rfl ?_
                refine rv rfl rfl ?_
                refine gy rfl rfl rfl ?_
                refine rv rfl rfl ?_
                refine rv rfl rfl ?_
                refine rn ?_
                cases ho2
                exact cut_n [0] rfl rfl ⟨rfl, rfl, zA rfl rfl rfl (zA rfl rfl rfl (trivial)), zC rfl rfl rfl rfl (zC rfl rfl rfl rfl (zC rfl rfl rfl rfl (zC rfl rfl rfl rfl (zC rfl rfl rfl rfl (zC rfl rfl rfl rfl (zC rfl rfl rfl rfl (zC rfl rfl rfl rfl (zC rfl rfl rfl rfl (zC rfl rfl rfl rfl (zC rfl rfl rfl rfl (zC rfl rfl rfl rfl (zC rfl rfl rfl rfl (zC rfl rfl rfl rfl (trivial)))))))))))))), trivial⟩
              · have ho2 := cT hg ho2
                refine gn rfl rfl rfl rfl rfl ?_
                refine gn rfl rfl rfl rfl rfl ?_
                refine gn rfl rfl rfl rfl rfl ?_
                refine rv rfl rfl ?_
                refine rn ?_
                cases ho2
                exact cut_n [0] rfl rfl ⟨rfl, rfl, zA rfl rfl rfl (zA rfl rfl rfl (trivial)), zC rfl rfl rfl rfl (zC rfl rfl rfl rfl (zC rfl rfl rfl rfl (zC rfl rfl rfl rfl (zC rfl rfl rfl rfl (zC rfl rfl rfl rfl (zC rfl rfl rfl rfl (zC rfl rfl rfl rfl (zC rfl rfl rfl rfl (zC rfl rfl rfl rfl (zC rfl rfl rfl rfl (zC rfl rfl rfl rfl (zC rfl rfl rfl rfl (zC rfl rfl rfl rfl (trivial)))))))))))))), trivial⟩
            · have ho2 := cT hg ho2
              refine gn rfl rfl rfl rfl rfl ?_
              refine gn rfl rfl rfl rfl rfl ?_
              refine rvs 2 rfl ?_
              refine gn rfl rfl rfl rfl rfl ?_
              refine gn rfl rfl rfl rfl rfl ?_
              refine gn rfl rfl rfl rfl rfl ?_
              refine gn rfl rfl rfl rfl rfl ?_
              refine rv rfl rfl ?_
              refine rn ?_
              cases ho2
              exact cut_n [0] rfl rfl ⟨rfl, rfl, zA rfl rfl rfl (zA rfl rfl rfl (trivial)), zC rfl rfl rfl rfl (zC rfl rfl rfl rfl (zC rfl rfl rfl rfl (zC rfl rfl rfl rfl (zC rfl rfl rfl rfl (zC rfl rfl rfl rfl (zC rfl rfl rfl rfl (zC rfl rfl rfl rfl (zC rfl rfl rfl rfl (zC rfl rfl rfl rfl (zC rfl rfl rfl rfl (zC rfl rfl rfl rfl (zC rfl rfl rfl rfl (zC rfl rfl rfl rfl (trivial)))))))))))))), trivial⟩
          · have ho2 := cT hg ho2
            refine gn rfl rfl rfl rfl rfl ?_
            refine gn rfl rfl rfl rfl rfl ?_
            refine rvs 2 rfl ?_
            refine gn rfl rfl rfl rfl rfl ?_
            refine gn rfl rfl rfl rfl rfl ?_
            refine gn rfl rfl rfl rfl rfl ?_
            refine rvs 2 rfl ?_
            refine gn rfl rfl rfl rfl rfl ?_
            refine gn rfl rfl rfl rfl rfl ?_
            refine gn rfl rfl rfl rfl rfl ?_
            refine gn rfl rfl rfl rfl rfl ?_
            refine rv rfl rfl ?_
            refine rn ?_
            cases ho2
            exact cut_n [0] rfl rfl ⟨rfl, rfl, zA rfl rfl rfl (zA rfl rfl rfl (trivial)), zC rfl rfl rfl rfl (zC rfl rfl rfl rfl (zC rfl rfl rfl rfl (zC rfl rfl rfl rfl (zC rfl rfl rfl rfl (zC rfl rfl rfl rfl (zC rfl rfl rfl rfl (zC rfl rfl rfl rfl (zC rfl rfl rfl rfl (zC rfl rfl rfl rfl (zC rfl rfl rfl rfl (zC rfl rfl rfl rfl (zC rfl rfl rfl rfl (zC rfl rfl rfl rfl (trivial)))))))))))))), trivial⟩
        · have ho2 := cT hg ho2
          refine gn rfl rfl rfl rfl rfl ?_
          refine gn rfl rfl rfl rfl rfl ?_
          refine rvs 2 rfl ?_
          refine gn rfl rfl rfl rfl rfl ?_
          refine gn rfl rfl rfl rfl rfl ?_
          refine gn rfl rfl rfl rfl rfl ?_
          refine rvs 2 rfl ?_
          refine gn rfl rfl rfl rfl rfl ?_
          refine gn rfl rfl rfl rfl rfl ?_
          refine gn rfl rfl rfl rfl rfl ?_
          refine rvs 2 rfl ?_
          refine gn rfl rfl rfl rfl rfl ?_
          refine gn rfl rfl rfl rfl rfl ?_
          refine gn rfl rfl rfl rfl rfl ?_
          refine gn rfl rfl rfl rfl rfl ?_
          refine rv rfl rfl ?_
          refine rn ?_
          cases ho2
          exact cut_n [0] rfl rfl ⟨rfl, rfl, zA rfl rfl rfl (zA rfl rfl rfl (trivial)), zC rfl rfl rfl rfl (zC rfl rfl rfl rfl (zC rfl rfl rfl rfl (zC rfl rfl rfl rfl (zC rfl rfl rfl rfl (zC rfl rfl rfl rfl (zC rfl rfl rfl rfl (zC rfl rfl rfl rfl (zC rfl rfl rfl rfl (zC rfl rfl rfl rfl (zC rfl rfl rfl rfl (zC rfl rfl rfl rfl (zC rfl rfl rfl rfl (zC rfl rfl rfl rfl (trivial)))))))))))))), trivial⟩
      · have ho2 := cT hg ho2
        refine gn rfl rfl rfl rfl rfl ?_
        refine gn rfl rfl rfl rfl rfl ?_
        refine rvs 2 rfl ?_
        refine gn rfl rfl rfl rfl rfl ?_
        refine gn rfl rfl rfl rfl rfl ?_
        refine gn rfl rfl rfl rfl rfl ?_
        refine rvs 2 rfl ?_
        refine gn rfl rfl rfl rfl rfl ?_
        refine gn rfl rfl rfl rfl rfl ?_
        refine gn rfl rfl rfl rfl rfl ?_
        refine rvs 2 rfl ?_
        refine gn rfl rfl rfl rfl rfl ?_
        refine gn rfl rfl rfl rfl rfl ?_
        refine gn rfl rfl rfl rfl rfl ?_
        refine rvs 2 rfl ?_
        refine gn rfl rfl rfl rfl rfl ?_
        refine gn rfl rfl rfl rfl rfl ?_
        refine gn rfl rfl rfl rfl rfl ?_
        refine gn rfl rfl rfl rfl rfl ?_
        refine rv rfl rfl ?_
        refine rn ?_
        cases ho2
        exact cut_n [0] rfl rfl ⟨rfl, rfl, zA rfl rfl rfl (zA rfl rfl rfl (trivial)), zC rfl rfl rfl rfl (zC rfl rfl rfl rfl (zC rfl rfl rfl rfl (zC rfl rfl rfl rfl (zC rfl rfl rfl rfl (zC rfl rfl rfl rfl (zC rfl rfl rfl rfl (zC rfl rfl rfl rfl (zC rfl rfl rfl rfl (zC rfl rfl rfl rfl (zC rfl rfl rfl rfl (zC rfl rfl rfl rfl (zC rfl rfl rfl rfl (zC rfl rfl rfl rfl (trivial)))))))))))))), trivial⟩
    · have ho2 := cT hg ho2
      refine gn rfl rfl rfl rfl rfl ?_
      refine gn rfl rfl rfl rfl rfl ?_
      refine rvs 2 rfl ?_
      refine gn rfl rfl rfl rfl rfl ?_
      refine gn rfl rfl rfl rfl rfl ?_
      refine gn rfl rfl rfl rfl rfl ?_
      refine rvs 2 rfl ?_
      refine gn rfl rfl rfl rfl rfl ?_
      refine gn rfl rfl rfl rfl rfl ?_
      refine gn rfl rfl rfl rfl rfl ?_
      refine rvs 2 rfl ?_
      refine gn rfl rfl rfl rfl rfl ?_
      refine gn rfl rfl rfl rfl rfl ?_
      refine gn rfl rfl rfl rfl rfl ?_
      refine rvs 2 rfl ?_
      refine gn rfl rfl rfl rfl rfl ?_
      refine gn rfl rfl rfl rfl rfl ?_
      refine gn rfl rfl rfl rfl rfl ?_
      refine rvs 2 rfl ?_
      refine gn rfl rfl rfl rfl rfl ?_
      refine gn rfl rfl rfl rfl rfl ?_
      refine gn rfl rfl rfl rfl rfl ?_
      refine gn rfl rfl rfl rfl rfl ?_
      refine rv rfl rfl ?_
      refine rn ?_
      cases ho2
      exact cut_n [0] rfl rfl ⟨rfl, rfl, zA rfl rfl rfl (zA rfl rfl rfl (trivial)), zC rfl rfl rfl rfl (zC rfl rfl rfl rfl (zC rfl rfl rfl rfl (zC rfl rfl rfl rfl (zC rfl rfl rfl rfl (zC rfl rfl rfl rfl (zC rfl rfl rfl rfl (zC rfl rfl rfl rfl (zC rfl rfl rfl rfl (zC rfl rfl rfl rfl (zC rfl rfl rfl rfl (zC rfl rfl rfl rfl (zC rfl rfl rfl rfl (zC rfl rfl rfl rfl (trivial)))))))))))))), trivial⟩
  · rintro x1 rfl
    change awp _ _ _ _ _ ⟨_, _, _, _⟩
    refine cs_ rfl (fun hc => ?_) (fun hc => ?_)
    · have h := cT hc h
      refine awp_seq ?_
      refine awp_region ?_
      refine rv rfl rfl ?_
      refine rn ?_
      refine awp_ret ?_
      cases h
      repeat (first | refine then_ret ?_ | refine inBlock_ret ?_ | refine cut_r ?_)
      exact rr rfl rfl rfl
    · have h := cF hc h
      refine awp_skip ?_
      refine awp_seq ?_
      refine awp_region ?_
      refine rvs 2 rfl ?_
      obtain ⟨rect1, hx3, h⟩ := bi h
      refine rc1 rfl rfl rfl (dref01_Rect_l hx3) ?_
      refine rv rfl rfl ?_
      refine rn ?_
      refine awp_seq ?_
      refine awp_region ?_
      refine rvs 2 rfl ?_
      obtain ⟨empty1, hx4, h⟩ := bi h
      refine rc1 rfl rfl rfl (dref10_none_l hx4) ?_
      refine rv rfl rfl ?_
      refine rn ?_
      refine awp_seq ?_
      refine awp_region ?_
      refine rvs 2 rfl ?_
      obtain ⟨told1, hx5, h⟩ := bi h
      refine rc1 rfl rfl rfl (dref10_event_l hx5) ?_
      refine rv rfl rfl ?_
      refine rn ?_
      refine awp_seq ?_
      obtain ⟨o6, ho7, h⟩ := bi h
      refine awp_cut1 (fun x => x = o6) (fun (bare1 : Bool) => ⟨[(1, .ptr 0 0), (3, .bool rect1), (4, .bool empty1), (5, .bool told1), (6, .bool bare1)], [(0, 0, .int .i64 m1.Kind), (0, 1, .int .i64 m1.Sub), (0, 2, .int .i64 m1.Version), (0, 3, .int .i64 m1.Home), (0, 4, .int .i64 m1.Rect.X1), (0, 5, .int .i64 m1.Rect.Y1), (0, 6, .int .i64 m1.Rect.X2), (0, 7, .int .i64 m1.Rect.Y2), (0, 8, .str (sB m1.Filter)), (0, 9, .int .i64 m1.Event.Pub), (0, 10, .int .u32 m1.Event.Seq), (0, 11, .int .i64 m1.Event.At.X), (0, 12, .int .i64 m1.Event.At.Y), (0, 13, .sl (m1.Event.Attrs.map c_tAttr))], [], 1⟩) ?_ ?_
      · refine awp_region ?_
        refine rvs 4 rfl ?_
        refine gs rfl rfl rfl rfl rfl (fun hg => ?_) (fun hg => ?_)
        · have ho7 := cT hg ho7
          refine rv rfl rfl ?_
          refine gy rfl rfl rfl ?_
          refine rv rfl rfl ?_
          refine gy rfl rfl rfl ?_
          refine rv rfl rfl ?_
          refine gy rfl rfl rfl ?_
          refine rv rfl rfl ?_
          refine rvs 2 rfl ?_
          refine gs rfl rfl rfl rfl rfl (fun hg => ?_) (fun hg => ?_)
          · have ho7 := cT hg ho7
            refine rv rfl rfl ?_
            refine gy rfl rfl rfl ?_
            refine rv rfl rfl ?_
            refine gy rfl rfl rfl ?_
            refine rv rfl rfl ?_
            refine rt (sEq m1.Filter []) ?_
            refine rvs 2 rfl ?_
            refine rn ?_
            cases ho7
            exact cut_n [0] rfl rfl ⟨rfl, rfl, zA rfl rfl rfl (zA rfl rfl rfl (zA rfl rfl rfl (zA rfl rfl rfl (zA rfl rfl rfl (trivial))))), zC rfl rfl rfl rfl (zC rfl rfl rfl rfl (zC rfl rfl rfl rfl (zC rfl rfl rfl rfl (zC rfl rfl rfl rfl (zC rfl rfl rfl rfl (zC rfl rfl rfl rfl (zC rfl rfl rfl rfl (zC rfl rfl rfl rfl (zC rfl rfl rfl rfl (zC rfl rfl rfl rfl (zC rfl rfl rfl rfl (zC rfl rfl rfl rfl (zC rfl rfl rfl rfl (trivial)))))))))))))), trivial⟩
          · have ho7 := cF hg ho7
            refine gn rfl rfl rfl rfl rfl ?_
            refine gn rfl rfl rfl rfl rfl ?_
            refine rvs 2 rfl ?_
            refine rn ?_
            cases ho7
            exact cut_n [0] rfl rfl ⟨rfl, rfl, zA rfl rfl rfl (zA rfl rfl rfl (zA rfl rfl rfl (zA rfl rfl rfl (zA rfl rfl rfl (trivial))))), zC rfl rfl rfl rfl (zC rfl rfl rfl rfl (zC rfl rfl rfl rfl (zC rfl rfl rfl rfl (zC rfl rfl rfl rfl (zC rfl rfl rfl rfl (zC rfl rfl rfl rfl (zC rfl rfl rfl rfl (zC rfl rfl rfl rfl (zC rfl rfl rfl rfl (zC rfl rfl rfl rfl (zC rfl rfl rfl rfl (zC rfl rfl rfl rfl (zC rfl rfl rfl rfl (trivial)))))))))))))), trivial⟩
        · have ho7 := cF hg ho7
          refine gn rfl rfl rfl rfl rfl ?_
          refine gn rfl rfl rfl rfl rfl ?_
          refine gn rfl rfl rfl rfl rfl ?_
          refine rvs 2 rfl ?_
          refine gn rfl rfl rfl rfl rfl ?_
          refine gn rfl rfl rfl rfl rfl ?_
          refine gn rfl rfl rfl rfl rfl ?_
          refine rvs 2 rfl ?_
          refine rn ?_
          cases ho7
          exact cut_n [0] rfl rfl ⟨rfl, rfl, zA rfl rfl rfl (zA rfl rfl rfl (zA rfl rfl rfl (zA rfl rfl rfl (zA rfl rfl rfl (trivial))))), zC rfl rfl rfl rfl (zC rfl rfl rfl rfl (zC rfl rfl rfl rfl (zC rfl rfl rfl rfl (zC rfl rfl rfl rfl (zC rfl rfl rfl rfl (zC rfl rfl rfl rfl (zC rfl rfl rfl rfl (zC rfl rfl rfl rfl (zC rfl rfl rfl rfl (zC rfl rfl rfl rfl (zC rfl rfl rfl rfl (zC rfl rfl rfl rfl (zC rfl rfl rfl rfl (trivial)))))))))))))), trivial⟩
      · rintro bare1 rfl
        change awp _ _ _ _ _ ⟨_, _, _, _⟩
        refine awp_seq ?_
        refine awp_seq ?_
        refine awp_region ?_
        refine rvs 2 rfl ?_
        refine rn ?_
        refine awp_block ?_
        refine awp_seq ?_
        refine awp_region ?_
        refine rvs 2 rfl ?_
        refine rn ?_
        refine cs_ rfl (fun hc => ?_) (fun hc => ?_)
        · have h := cT hc h
          refine awp_seq ?_
          refine awp_region ?_
          refine rvs 2 rfl ?_
          refine gs rfl rfl rfl rfl rfl (fun hg => ?_) (fun hg => ?_)
          · have h := cT hg h
            refine rv rfl rfl ?_
            refine rvs 2 rfl ?_
            refine rn ?_
            refine awp_ret ?_
            cases h
            repeat (first | refine then_ret ?_ | refine inBlock_ret ?_ | refine cut_r ?_)
            exact rr rfl rfl rfl
          · have h := cF hg h
            refine rvs 2 rfl ?_
            refine rn ?_
            refine awp_ret ?_
            cases h
            repeat (first | refine then_ret ?_ | refine inBlock_ret ?_ | refine cut_r ?_)
            exact rr rfl rfl rfl
        · have h := cF hc h
          refine awp_seq ?_
          refine awp_region ?_
          refine rvs 2 rfl ?_
          refine rn ?_
          refine cs_ rfl (fun hc => ?_) (fun hc => ?_)
          · have h := cT hc h
            refine awp_seq ?_
            refine awp_region ?_
            refine rvs 2 rfl ?_
            refine gs rfl rfl rfl rfl rfl (fun hg => ?_) (fun hg => ?_)
            · have h := cT hg h
              refine rv rfl rfl ?_
              refine rvs 2 rfl ?_
              refine rn ?_
              refine awp_ret ?_
              cases h
              repeat (first | refine then_ret ?_ | refine inBlock_ret ?_ | refine cut_r ?_)
              exact rr rfl rfl rfl
            · have h := cF hg h
              refine rvs 2 rfl ?_
              refine rn ?_
              refine awp_ret ?_
              cases h
              repeat (first | refine then_ret ?_ | refine inBlock_ret ?_ | refine cut_r ?_)
              exact rr rfl rfl rfl
          · have h := cF hc h
            refine awp_seq ?_
            refine awp_region ?_
            refine rvs 2 rfl ?_
            refine rn ?_
            refine cs_ rfl (fun hc => ?_) (fun hc => ?_)
            · have h := cT hc h
              refine awp_seq ?_
              refine awp_region ?_
              refine rvs 2 rfl ?_
              refine gs rfl rfl rfl rfl rfl (fun hg => ?_) (fun hg => ?_)
              · have h := cT hg h
                refine rv rfl rfl ?_
                refine gy rfl rfl rfl ?_
                refine rv rfl rfl ?_
                refine gy rfl rfl rfl ?_
                refine rv rfl rfl ?_
                refine rvs 2 rfl ?_
                refine gs rfl rfl rfl rfl rfl (fun hg => ?_) (fun hg => ?_)
                · have h := cT hg h
                  refine rv rfl rfl ?_
                  refine gy rfl rfl rfl ?_
                  refine rv rfl rfl ?_
                  refine gy rfl rfl rfl ?_
                  refine rv rfl rfl ?_
                  refine rvs 2 rfl ?_
                  refine gs rfl rfl rfl rfl rfl (fun hg => ?_) (fun hg => ?_)
                  · have h := cT hg h
                    refine rv rfl rfl ?_
                    refine rvs 2 rfl ?_
                    refine rn ?_
                    refine awp_ret ?_
                    cases h
                    repeat (first | refine then_ret ?_ | refine inBlock_ret ?_ | refine cut_r ?_)
                    exact rr rfl rfl rfl
                  · have h := cF hg h
                    refine rvs 2 rfl ?_
                    refine rn ?_
                    refine awp_ret ?_
                    cases h
                    repeat (first | refine then_ret ?_ | refine inBlock_ret ?_ | refine cut_r ?_)
                    exact rr rfl rfl rfl
                · have h := cF hg h
                  refine gn rfl rfl rfl rfl rfl ?_
                  refine gn rfl rfl rfl rfl rfl ?_
                  refine rvs 2 rfl ?_
                  refine gn rfl rfl rfl rfl rfl ?_
                  refine rvs 2 rfl ?_
                  refine rn ?_
                  refine awp_ret ?_
                  cases h
                  repeat (first | refine then_ret ?_ | refine inBlock_ret ?_ | refine cut_r ?_)
                  exact rr rfl rfl rfl
              · have h := cF hg h
                refine gn rfl rfl rfl rfl rfl ?_
                refine gn rfl rfl rfl rfl rfl ?_
                refine rvs 2 rfl ?_
                refine gn rfl rfl rfl rfl rfl ?_
                refine gn rfl rfl rfl rfl rfl ?_
                refine gn rfl rfl rfl rfl rfl ?_
                refine rvs 2 rfl ?_
                refine gn rfl rfl rfl rfl rfl ?_
                refine rvs 2 rfl ?_
                refine rn ?_
                refine awp_ret ?_
                cases h
                repeat (first | refine then_ret ?_ | refine inBlock_ret ?_ | refine cut_r ?_)
                exact rr rfl rfl rfl
            · have h := cF hc h
              refine awp_seq ?_
              refine awp_region ?_
              refine rvs 2 rfl ?_
              refine rn ?_
              refine cs_ rfl (fun hc => ?_) (fun hc => ?_)
              · have h := cT hc h
                refine awp_seq ?_
                refine awp_region ?_
                refine rvs 2 rfl ?_
                refine gs rfl rfl rfl rfl rfl (fun hg => ?_) (fun hg => ?_)
                · have h := cT hg h
                  refine rv rfl rfl ?_
                  refine gy rfl rfl rfl ?_
                  refine rv rfl rfl ?_
                  refine gy rfl rfl rfl ?_
                  refine rv rfl rfl ?_
                  refine rvs 2 rfl ?_
                  refine gs rfl rfl rfl rfl rfl (fun hg => ?_) (fun hg => ?_)
                  · have h := cT hg h
                    refine rv rfl rfl ?_
                    refine rvs 2 rfl ?_
                    refine rn ?_
                    refine awp_ret ?_
                    cases h
                    repeat (first | refine then_ret ?_ | refine inBlock_ret ?_ | refine cut_r ?_)
                    exact rr rfl rfl rfl
                  · have h := cF hg h
                    refine rvs 2 rfl ?_
                    refine rn ?_
                    refine awp_ret ?_
                    cases h
                    repeat (first | refine then_ret ?_ | refine inBlock_ret ?_ | refine cut_r ?_)
                    exact rr rfl rfl rfl
                · have h := cF hg h
                  refine gn rfl rfl rfl rfl rfl ?_
                  refine gn rfl rfl rfl rfl rfl ?_
                  refine rvs 2 rfl ?_
                  refine gn rfl rfl rfl rfl rfl ?_
                  refine rvs 2 rfl ?_
                  refine rn ?_
                  refine awp_ret ?_
                  cases h
                  repeat (first | refine then_ret ?_ | refine inBlock_ret ?_ | refine cut_r ?_)
                  exact rr rfl rfl rfl
              · have h := cF hc h
                refine awp_skip ?_
                refine inBlock_normal ?_
                refine awp_seq ?_
                refine awp_region ?_
                refine rv rfl rfl ?_
                refine rn ?_
                refine awp_ret ?_
                cases h
                repeat (first | refine then_ret ?_ | refine inBlock_ret ?_ | refine cut_r ?_)
                exact rr rfl rfl rfl
end

/-- `plover/ploverref10.Events` -/
def dref10_Events (fu : Nat) (a1 : tEvent) (b1 : tEvent) : Option Bool :=
  (bif (a1.Pub != b1.Pub) then some true else (bif (a1.Seq != b1.Seq) then some true else (bif (!((a1.At.X == b1.At.X) && ((a1.At.Y == b1.At.Y) && true))) then some true else some ((a1.Attrs.length : Int) != (b1.Attrs.length : Int)))) : Option Bool).bind fun (x1 : Bool) => (bif x1 then some false else ((loopD (ε := Int) (τ := Unit ⊕ Bool) (fun (i1 : Int) => (bif (decide (i1 < (a1.Attrs.length : Int))) then ((gi a1.Attrs i1).bind fun x2 => (gi b1.Attrs i1).bind fun x3 => bif (!((x2.Name == x3.Name) && ((x2.Text == x3.Text) && ((x2.N == x3.N) && ((x2.S == x3.S) && true))))) then some (Sum.inr (Sum.inr false)) else some (Sum.inl (W (i1 + 1)))) else some (Sum.inr (Sum.inl ())))) fu 0).bind fun o => kS o fun (_ : Unit) => some true))
section
attribute [local irreducible] awp aops DP PCall ACall Decidable.decide
theorem dref10_Events_l {fu : Nat} {a1 : tEvent} {b1 : tEvent} {r : Bool} (h : dref10_Events fu a1 b1 = some r) : PCall Try.prog 64 [.agg [.int .i64 a1.Pub, .int .u32 a1.Seq, .int .i64 a1.At.X, .int .i64 a1.At.Y, .sl (a1.Attrs.map c_tAttr)], .agg [.int .i64 b1.Pub, .int .u32 b1.Seq, .int .i64 b1.At.X, .int .i64 b1.At.Y, .sl (b1.Attrs.map c_tAttr)]] (· = .bool r) := by
  rw [dref10_Events] at h
  refine pcall_body Try.func64 rfl (by kernel_rfl) (by rfl) ?_
  refine awp_seq ?_
  refine awp_region ?_
  refine rb rfl rfl ?_
  refine rb rfl rfl ?_
  refine rv rfl rfl ?_
  refine rn ?_
  refine awp_seq ?_
  refine awp_seq ?_
  obtain ⟨o1, ho2, h⟩ := bi h
  refine awp_cut1 (fun x => x = o1) (fun (x1 : Bool) => ⟨[(2, .ptr 0 0), (3, .ptr 1 0), (33, .bool x1)], [(0, 0, .int .i64 a1.Pub), (0, 1, .int .u32 a1.Seq), (0, 2, .int .i64 a1.At.X), (0, 3, .int .i64 a1.At.Y), (0, 4, .sl (a1.Attrs.map c_tAttr)), (1, 0, .int .i64 b1.Pub), (1, 1, .int .u32 b1.Seq), (1, 2, .int .i64 b1.At.X), (1, 3, .int .i64 b1.At.Y), (1, 4, .sl (b1.Attrs.map c_tAttr))], [], 2⟩) ?_ ?_
  · refine awp_region ?_
    refine rvs 6 rfl ?_
    refine gs rfl rfl rfl rfl rfl (fun hg => ?_) (fun hg => ?_)
    · have ho2 := cF hg ho2
      refine rv rfl rfl ?_
      refine gy rfl rfl rfl ?_
      refine rv rfl rfl ?_
      refine gy rfl rfl rfl ?_
      refine rv rfl rfl ?_
      refine gy rfl rfl rfl ?_
      refine rv rfl rfl ?_
      refine gy rfl rfl rfl ?_
      refine rv rfl rfl ?_
      refine rvs 2 rfl ?_
      refine gs rfl rfl rfl rfl rfl (fun hg => ?_) (fun hg => ?_)
      · have ho2 := cF hg ho2
        refine rv rfl rfl ?_
        refine gy rfl rfl rfl ?_
        refine rv rfl rfl ?_
        refine gy rfl rfl rfl ?_
        refine rv rfl rfl ?_
        refine gy rfl rfl rfl ?_
        refine rv rfl rfl ?_
        refine gy rfl rfl rfl ?_
        refine rv rfl rfl ?_
        refine rvs 2 rfl ?_
        refine gs rfl rfl rfl rfl rfl (fun hg => ?_) (fun hg => ?_)
        · have ho2 := cF hg ho2
          refine rv rfl rfl ?_
          refine gy rfl rfl rfl ?_
          refine rv rfl rfl ?_
          refine gy rfl rfl rfl ?_
          refine rv rfl rfl ?_
          refine rt ((lM c_tAttr a1.Attrs)) ?_
          refine gy rfl rfl rfl ?_
          refine rv rfl rfl ?_
          refine gy rfl rfl rfl ?_
          refine rv rfl rfl ?_
          refine gy rfl rfl rfl ?_
          refine rv rfl rfl ?_
          refine rt ((lM c_tAttr b1.Attrs)) ?_
          refine gy rfl rfl rfl ?_
          refine rv rfl rfl ?_
          refine rv rfl rfl ?_
          refine rn ?_
          cases ho2
          exact cut_n [0, 1] rfl rfl ⟨rfl, rfl, zA rfl rfl rfl (zA rfl rfl rfl (zA rfl rfl rfl (trivial))), zC rfl rfl rfl rfl (zC rfl rfl rfl rfl (zC rfl rfl rfl rfl (zC rfl rfl rfl rfl (zC rfl rfl rfl rfl (zC rfl rfl rfl rfl (zC rfl rfl rfl rfl (zC rfl rfl rfl rfl (zC rfl rfl rfl rfl (zC rfl rfl rfl rfl (trivial)))))))))), trivial⟩
        · have ho2 := cT hg ho2
          refine gn rfl rfl rfl rfl rfl ?_
          refine gn rfl rfl rfl rfl rfl ?_
          refine gn rfl rfl rfl rfl rfl ?_
          refine gn rfl rfl rfl rfl rfl ?_
          refine gn rfl rfl rfl rfl rfl ?_
          refine gn rfl rfl rfl rfl rfl ?_
          refine rv rfl rfl ?_
          refine rn ?_
          cases ho2
          exact cut_n [0, 1] rfl rfl ⟨rfl, rfl, zA rfl rfl rfl (zA rfl rfl rfl (zA rfl rfl rfl (trivial))), zC rfl rfl rfl rfl (zC rfl rfl rfl rfl (zC rfl rfl rfl rfl (zC rfl rfl rfl rfl (zC rfl rfl rfl rfl (zC rfl rfl rfl rfl (zC rfl rfl rfl rfl (zC rfl rfl rfl rfl (zC rfl rfl rfl rfl (zC rfl rfl rfl rfl (trivial)))))))))), trivial⟩
      · have ho2 := cT hg ho2
        refine gn rfl rfl rfl rfl rfl ?_
        refine gn rfl rfl rfl rfl rfl ?_
        refine gn rfl rfl rfl rfl rfl ?_
        refine gn rfl rfl rfl rfl rfl ?_
        refine rvs 2 rfl ?_
        refine gn rfl rfl rfl rfl rfl ?_
        refine gn rfl rfl rfl rfl rfl ?_
        refine gn rfl rfl rfl rfl rfl ?_
        refine gn rfl rfl rfl rfl rfl ?_
        refine gn rfl rfl rfl rfl rfl ?_
        refine gn rfl rfl rfl rfl rfl ?_
        refine gn rfl rfl rfl rfl rfl ?_
        refine rv rfl rfl ?_
        refine rn ?_
        cases ho2
        exact cut_n [0, 1] rfl rfl ⟨rfl, rfl, zA rfl rfl rfl (zA rfl rfl rfl (zA rfl rfl rfl (trivial))), zC rfl rfl rfl rfl (zC rfl rfl rfl rfl (zC rfl rfl rfl rfl (zC rfl rfl rfl rfl (zC rfl rfl rfl rfl (zC rfl rfl rfl rfl (zC rfl rfl rfl rfl (zC rfl rfl rfl rfl (zC rfl rfl rfl rfl (zC rfl rfl rfl rfl (trivial)))))))))), trivial⟩
    · have ho2 := cT hg ho2
      refine gn rfl rfl rfl rfl rfl ?_
      refine gn rfl rfl rfl rfl rfl ?_
      refine gn rfl rfl rfl rfl rfl ?_
      refine gn rfl rfl rfl rfl rfl ?_
      refine rvs 2 rfl ?_
      refine gn rfl rfl rfl rfl rfl ?_
      refine gn rfl rfl rfl rfl rfl ?_
      refine gn rfl rfl rfl rfl rfl ?_
      refine gn rfl rfl rfl rfl rfl ?_
      refine gn rfl rfl rfl rfl rfl ?_
      refine rvs 2 rfl ?_
      refine gn rfl rfl rfl rfl rfl ?_
      refine gn rfl rfl rfl rfl rfl ?_
      refine gn rfl rfl rfl rfl rfl ?_
      refine gn rfl rfl rfl rfl rfl ?_
      refine gn rfl rfl rfl rfl rfl ?_
      refine gn rfl rfl rfl rfl rfl ?_
      refine gn rfl rfl rfl rfl rfl ?_
      refine rv rfl rfl ?_
      refine rn ?_
      cases ho2
      exact cut_n [0, 1] rfl rfl ⟨rfl, rfl, zA rfl rfl rfl (zA rfl rfl rfl (zA rfl rfl rfl (trivial))), zC rfl rfl rfl rfl (zC rfl rfl rfl rfl (zC rfl rfl rfl rfl (zC rfl rfl rfl rfl (zC rfl rfl rfl rfl (zC rfl rfl rfl rfl (zC rfl rfl rfl rfl (zC rfl rfl rfl rfl (zC rfl rfl rfl rfl (zC rfl rfl rfl rfl (trivial)))))))))), trivial⟩
  · rintro x1 rfl
    change awp _ _ _ _ _ ⟨_, _, _, _⟩
    refine cs_ rfl (fun hc => ?_) (fun hc => ?_)
    · have h := cT hc h
      refine awp_seq ?_
      refine awp_region ?_
      refine rv rfl rfl ?_
      refine rn ?_
      refine awp_ret ?_
      cases h
      repeat (first | refine then_ret ?_ | refine inBlock_ret ?_ | refine cut_r ?_)
      exact rr rfl rfl rfl
    · have h := cF hc h
      refine awp_skip ?_
      refine awp_seq ?_
      refine awp_seq ?_
      refine awp_region ?_
      refine rv rfl rfl ?_
      refine rn ?_
      obtain ⟨e3, hl4, h⟩ := bi h
      refine awp_cut1 (fun x => Sum.inl x = e3) (fun (_ : Unit) => ⟨[], [], [], 0⟩) ?_ ?_
      · refine awp_block ?_
        refine awp_loopD hl4 (fun (i1 : Int) => ⟨[(2, .ptr 0 0), (3, .ptr 1 0), (5, .int .i64 i1)], [(0, 0, .int .i64 a1.Pub), (0, 1, .int .u32 a1.Seq), (0, 2, .int .i64 a1.At.X), (0, 3, .int .i64 a1.At.Y), (0, 4, .sl (a1.Attrs.map c_tAttr)), (1, 0, .int .i64 b1.Pub), (1, 1, .int .u32 b1.Seq), (1, 2, .int .i64 b1.At.X), (1, 3, .int .i64 b1.At.Y), (1, 4, .sl (b1.Attrs.map c_tAttr))], [], 2⟩) [0, 1] rfl ⟨rfl, rfl, zA rfl rfl rfl (zA rfl rfl rfl (zA rfl rfl rfl (trivial))), zC rfl rfl rfl rfl (zC rfl rfl rfl rfl (zC rfl rfl rfl rfl (zC rfl rfl rfl rfl (zC rfl rfl rfl rfl (zC rfl rfl rfl rfl (zC rfl rfl rfl rfl (zC rfl rfl rfl rfl (zC rfl rfl rfl rfl (zC rfl rfl rfl rfl (trivial)))))))))), trivial⟩ ?_
        intro i1 o7 ho5 hE6
        change awp _ _ _ _ _ ⟨_, _, _, _⟩
        refine awp_seq ?_
        refine awp_seq ?_
        refine awp_region ?_
        refine rvs 3 rfl ?_
        refine rv rfl rfl ?_
        refine rt ((lM c_tAttr a1.Attrs)) ?_
        refine rv rfl rfl ?_
        refine rn ?_
        refine cs_ rfl (fun hc => ?_) (fun hc => ?_)
        · have ho5 := cT hc ho5
          refine awp_skip ?_
          refine awp_seq ?_
          refine awp_block ?_
          refine awp_seq ?_
          refine awp_dp (m := 11) Try.mix (by kernel_rfl) (by kernel_rfl) (by kernel_rfl) (by kernel_rfl) (by kernel_rfl) (by kernel_rfl) (by kernel_rfl) ?_
          refine dv rfl rfl (fun _ => rfl) ?_
          refine dv rfl rfl (fun _ => rfl) ?_
          refine dv rfl rfl (fun _ => rfl) ?_
          obtain ⟨x2, hx8, ho5⟩ := bi ho5
          refine di rfl rfl rfl rfl rfl (fun _ => rfl) rfl (gi0 hx8) (giM c_tAttr hx8) (wM (fun _ => by rfl) _) ?_
          refine dv rfl rfl (fun _ => rfl) ?_
          refine dv rfl rfl (fun _ => rfl) ?_
          refine dv rfl rfl (fun _ => rfl) ?_
          refine dv rfl rfl (fun _ => rfl) ?_
          obtain ⟨x3, hx9, ho5⟩ := bi ho5
          refine di rfl rfl rfl rfl rfl (fun _ => rfl) rfl (gi0 hx9) (giM c_tAttr hx9) (wM (fun _ => by rfl) _) ?_
          refine dv rfl rfl (fun _ => rfl) ?_
          refine dv rfl rfl (fun _ => rfl) ?_
          refine dt (by first | (simp only [toList_sB]; done) | (simp only [toList_sB]; rfl)) ?_
          refine dn ?_
          refine rn ?_
          refine cs_ rfl (fun hc => ?_) (fun hc => ?_)
          · have ho5 := cT hc ho5
            refine awp_seq ?_
            refine awp_region ?_
            refine rv rfl rfl ?_
            refine rn ?_
            refine awp_ret ?_
            cases ho5
            have hq := hE6 _ rfl
            subst hq
            have h := ksr h
            subst h
            repeat (first | refine then_ret ?_ | refine inBlock_ret ?_ | refine cut_r ?_)
            exact rr rfl rfl rfl
          · have ho5 := cF hc ho5
            refine awp_skip ?_
            refine inBlock_normal ?_
            refine awp_region ?_
            refine rvs 3 rfl ?_
            refine rn ?_
            cases ho5
            exact lp_n [0, 1] rfl rfl ⟨rfl, rfl, zA rfl rfl rfl (zA rfl rfl rfl (zA rfl rfl rfl (trivial))), zC rfl rfl rfl rfl (zC rfl rfl rfl rfl (zC rfl rfl rfl rfl (zC rfl rfl rfl rfl (zC rfl rfl rfl rfl (zC rfl rfl rfl rfl (zC rfl rfl rfl rfl (zC rfl rfl rfl rfl (zC rfl rfl rfl rfl (zC rfl rfl rfl rfl (trivial)))))))))), trivial⟩
        · have ho5 := cF hc ho5
          refine awp_exit ?_
          repeat (first | refine then_exit ?_ | refine cut_x ?_ | refine inBlock_other rfl ?_)
          refine inBlock_exit ?_
          cases ho5
          have hq := hE6 _ rfl
          subst hq
          exact cut_n [] rfl rfl ⟨rfl, rfl, trivial, trivial, trivial⟩
      · rintro _ rfl
        have h := ksl h
        refine awp_seq ?_
        refine awp_region ?_
        refine rv rfl rfl ?_
        refine rn ?_
        refine awp_ret ?_
        cases h
        repeat (first | refine then_ret ?_ | refine inBlock_ret ?_ | refine cut_r ?_)
        exact rr rfl rfl rfl
end

/-- `plover/ploverref10.Same` -/
def dref10_Same (fu : Nat) (a1 : tMsg) (b1 : tMsg) : Option Bool :=
  (dref10_Events fu a1.Event b1.Event).bind fun events1 => bif (a1.Kind == b1.Kind) then (bif (a1.Sub == b1.Sub) then (bif (a1.Version == b1.Version) then (bif (a1.Home == b1.Home) then (bif ((a1.Rect.X1 == b1.Rect.X1) && ((a1.Rect.Y1 == b1.Rect.Y1) && ((a1.Rect.X2 == b1.Rect.X2) && ((a1.Rect.Y2 == b1.Rect.Y2) && true)))) then (bif (a1.Filter == b1.Filter) then some events1 else some false) else some false) else some false) else some false) else some false) else some false
section
attribute [local irreducible] awp aops DP PCall ACall Decidable.decide
theorem dref10_Same_l {fu : Nat} {a1 : tMsg} {b1 : tMsg} {r : Bool} (h : dref10_Same fu a1 b1 = some r) : PCall Try.prog 36 [.agg [.int .i64 a1.Kind, .int .i64 a1.Sub, .int .i64 a1.Version, .int .i64 a1.Home, .int .i64 a1.Rect.X1, .int .i64 a1.Rect.Y1, .int .i64 a1.Rect.X2, .int .i64 a1.Rect.Y2, .str (sB a1.Filter), .int .i64 a1.Event.Pub, .int .u32 a1.Event.Seq, .int .i64 a1.Event.At.X, .int .i64 a1.Event.At.Y, .sl (a1.Event.Attrs.map c_tAttr)], .agg [.int .i64 b1.Kind, .int .i64 b1.Sub, .int .i64 b1.Version, .int .i64 b1.Home, .int .i64 b1.Rect.X1, .int .i64 b1.Rect.Y1, .int .i64 b1.Rect.X2, .int .i64 b1.Rect.Y2, .str (sB b1.Filter), .int .i64 b1.Event.Pub, .int .u32 b1.Event.Seq, .int .i64 b1.Event.At.X, .int .i64 b1.Event.At.Y, .sl (b1.Event.Attrs.map c_tAttr)]] (· = .bool r) := by
  rw [dref10_Same] at h
  refine pcall_body Try.func36 rfl (by kernel_rfl) (by rfl) ?_
  refine awp_seq ?_
  refine awp_region ?_
  refine rb rfl rfl ?_
  refine rb rfl rfl ?_
  refine rv rfl rfl ?_
  refine rn ?_
  refine awp_seq ?_
  refine awp_region ?_
  refine rvs 4 rfl ?_
  obtain ⟨events1, hx1, h⟩ := bi h
  refine rc1 rfl rfl rfl (dref10_Events_l hx1) ?_
  refine rv rfl rfl ?_
  refine rn ?_
  refine awp_seq ?_
  refine awp_region ?_
  refine rvs 6 rfl ?_
  refine gs rfl rfl rfl rfl rfl (fun hg => ?_) (fun hg => ?_)
  · have h := cT hg h
    refine rv rfl rfl ?_
    refine gy rfl rfl rfl ?_
    refine rv rfl rfl ?_
    refine gy rfl rfl rfl ?_
    refine rv rfl rfl ?_
    refine gy rfl rfl rfl ?_
    refine rv rfl rfl ?_
    refine gy rfl rfl rfl ?_
    refine rv rfl rfl ?_
    refine rvs 2 rfl ?_
    refine gs rfl rfl rfl rfl rfl (fun hg => ?_) (fun hg => ?_)
    · have h := cT hg h
      refine rv rfl rfl ?_
      refine gy rfl rfl rfl ?_
      refine rv rfl rfl ?_
      refine gy rfl rfl rfl ?_
      refine rv rfl rfl ?_
      refine gy rfl rfl rfl ?_
      refine rv rfl rfl ?_
      refine gy rfl rfl rfl ?_
      refine rv rfl rfl ?_
      refine rvs 2 rfl ?_
      refine gs rfl rfl rfl rfl rfl (fun hg => ?_) (fun hg => ?_)
      · have h := cT hg h
        refine rv rfl rfl ?_
        refine gy rfl rfl rfl ?_
        refine rv rfl rfl ?_
        refine gy rfl rfl rfl ?_
        refine rv rfl rfl ?_
        refine gy rfl rfl rfl ?_
        refine rv rfl rfl ?_
        refine gy rfl rfl rfl ?_
        refine rv rfl rfl ?_
        refine rvs 2 rfl ?_
        refine gs rfl rfl rfl rfl rfl (fun hg => ?_) (fun hg => ?_)
        · have h := cT hg h
          refine rv rfl rfl ?_
          refine gy rfl rfl rfl ?_
          refine rv rfl rfl ?_
          refine gy rfl rfl rfl ?_
          refine rv rfl rfl ?_
          refine gy rfl rfl rfl ?_
          refine rv rfl rfl ?_
          refine gy rfl rfl rfl ?_
          refine rv rfl rfl ?_
          refine rvs 2 rfl ?_
          refine gs rfl rfl rfl rfl rfl (fun hg => ?_) (fun hg => ?_)
          · have h := cT hg h
            refine rv rfl rfl ?_
            refine gy rfl rfl rfl ?_
            refine rv rfl rfl ?_
            refine gy rfl rfl rfl ?_
            refine rv rfl rfl ?_
            refine gy rfl rfl rfl ?_
            refine rv rfl rfl ?_
            refine gy rfl rfl rfl ?_
            refine rv rfl rfl ?_
            refine rt (sEq a1.Filter b1.Filter) ?_
            refine rvs 2 rfl ?_
            refine gs rfl rfl rfl rfl rfl (fun hg => ?_) (fun hg => ?_)
            · have h := cT hg h
              refine rv rfl rfl ?_
              refine rvs 2 rfl ?_
              refine rn ?_
              refine awp_ret ?_
              cases h
              repeat (first | refine then_ret ?_ | refine inBlock_ret ?_ | refine cut_r ?_)
              exact rr rfl rfl rfl
            · have h := cF hg h
              refine rvs 2 rfl ?_
              refine rn ?_
              refine awp_ret ?_
              cases h
              repeat (first | refine then_ret ?_ | refine inBlock_ret ?_ | refine cut_r ?_)
              exact rr rfl rfl rfl
          · have h := cF hg h
            refine gn rfl rfl rfl rfl rfl ?_
            refine gn rfl rfl rfl rfl rfl ?_
            refine gn rfl rfl rfl rfl rfl ?_
            refine gn rfl rfl rfl rfl rfl ?_
            refine rvs 2 rfl ?_
            refine gn rfl rfl rfl rfl rfl ?_
            refine rvs 2 rfl ?_
            refine rn ?_
            refine awp_ret ?_
            cases h
            repeat (first | refine then_ret ?_ | refine inBlock_ret ?_ | refine cut_r ?_)
            exact rr rfl rfl rfl
        · have h := cF hg h
          refine gn rfl rfl rfl rfl rfl ?_
          refine gn rfl rfl rfl rfl rfl ?_
          refine gn rfl rfl rfl rfl rfl ?_
          refine gn rfl rfl rfl rfl rfl ?_
          refine rvs 2 rfl ?_
          refine gn rfl rfl rfl rfl rfl ?_
          refine gn rfl rfl rfl rfl rfl ?_
          refine gn rfl rfl rfl rfl rfl ?_
          refine gn rfl rfl rfl rfl rfl ?_
          refine gn rfl rfl rfl rfl rfl ?_
          refine rvs 2 rfl ?_
          refine gn rfl rfl rfl rfl rfl ?_
          refine rvs 2 rfl ?_
          refine rn ?_
          refine awp_ret ?_
          cases h
          repeat (first | refine then_ret ?_ | refine inBlock_ret ?_ | refine cut_r ?_)
          exact rr rfl rfl rfl
      · have h := cF hg h
        refine gn rfl rfl rfl rfl rfl ?_
        refine gn rfl rfl rfl rfl rfl ?_
        refine gn rfl rfl rfl rfl rfl ?_
        refine gn rfl rfl rfl rfl rfl ?_
        refine rvs 2 rfl ?_
        refine gn rfl rfl rfl rfl rfl ?_
        refine gn rfl rfl rfl rfl rfl ?_
        refine gn rfl rfl rfl rfl rfl ?_
        refine gn rfl rfl rfl rfl rfl ?_
        refine gn rfl rfl rfl rfl rfl ?_
        refine rvs 2 rfl ?_
        refine gn rfl rfl rfl rfl rfl ?_
        refine gn rfl rfl rfl rfl rfl ?_
        refine gn rfl rfl rfl rfl rfl ?_
        refine gn rfl rfl rfl rfl rfl ?_
        refine gn rfl rfl rfl rfl rfl ?_
        refine rvs 2 rfl ?_
        refine gn rfl rfl rfl rfl rfl ?_
        refine rvs 2 rfl ?_
        refine rn ?_
        refine awp_ret ?_
        cases h
        repeat (first | refine then_ret ?_ | refine inBlock_ret ?_ | refine cut_r ?_)
        exact rr rfl rfl rfl
    · have h := cF hg h
      refine gn rfl rfl rfl rfl rfl ?_
      refine gn rfl rfl rfl rfl rfl ?_
      refine gn rfl rfl rfl rfl rfl ?_
      refine gn rfl rfl rfl rfl rfl ?_
      refine rvs 2 rfl ?_
      refine gn rfl rfl rfl rfl rfl ?_
      refine gn rfl rfl rfl rfl rfl ?_
      refine gn rfl rfl rfl rfl rfl ?_
      refine gn rfl rfl rfl rfl rfl ?_
      refine gn rfl rfl rfl rfl rfl ?_
      refine rvs 2 rfl ?_
      refine gn rfl rfl rfl rfl rfl ?_
      refine gn rfl rfl rfl rfl rfl ?_
      refine gn rfl rfl rfl rfl rfl ?_
      refine gn rfl rfl rfl rfl rfl ?_
      refine gn rfl rfl rfl rfl rfl ?_
      refine rvs 2 rfl ?_
      refine gn rfl rfl rfl rfl rfl ?_
      refine gn rfl rfl rfl rfl rfl ?_
      refine gn rfl rfl rfl rfl rfl ?_
      refine gn rfl rfl rfl rfl rfl ?_
      refine gn rfl rfl rfl rfl rfl ?_
      refine rvs 2 rfl ?_
      refine gn rfl rfl rfl rfl rfl ?_
      refine rvs 2 rfl ?_
      refine rn ?_
      refine awp_ret ?_
      cases h
      repeat (first | refine then_ret ?_ | refine inBlock_ret ?_ | refine cut_r ?_)
      exact rr rfl rfl rfl
  · have h := cF hg h
    refine gn rfl rfl rfl rfl rfl ?_
    refine gn rfl rfl rfl rfl rfl ?_
    refine gn rfl rfl rfl rfl rfl ?_
    refine gn rfl rfl rfl rfl rfl ?_
    refine rvs 2 rfl ?_
    refine gn rfl rfl rfl rfl rfl ?_
    refine gn rfl rfl rfl rfl rfl ?_
    refine gn rfl rfl rfl rfl rfl ?_
    refine gn rfl rfl rfl rfl rfl ?_
    refine gn rfl rfl rfl rfl rfl ?_
    refine rvs 2 rfl ?_
    refine gn rfl rfl rfl rfl rfl ?_
    refine gn rfl rfl rfl rfl rfl ?_
    refine gn rfl rfl rfl rfl rfl ?_
    refine gn rfl rfl rfl rfl rfl ?_
    refine gn rfl rfl rfl rfl rfl ?_
    refine rvs 2 rfl ?_
    refine gn rfl rfl rfl rfl rfl ?_
    refine gn rfl rfl rfl rfl rfl ?_
    refine gn rfl rfl rfl rfl rfl ?_
    refine gn rfl rfl rfl rfl rfl ?_
    refine gn rfl rfl rfl rfl rfl ?_
    refine rvs 2 rfl ?_
    refine gn rfl rfl rfl rfl rfl ?_
    refine gn rfl rfl rfl rfl rfl ?_
    refine gn rfl rfl rfl rfl rfl ?_
    refine gn rfl rfl rfl rfl rfl ?_
    refine gn rfl rfl rfl rfl rfl ?_
    refine rvs 2 rfl ?_
    refine gn rfl rfl rfl rfl rfl ?_
    refine rvs 2 rfl ?_
    refine rn ?_
    refine awp_ret ?_
    cases h
    repeat (first | refine then_ret ?_ | refine inBlock_ret ?_ | refine cut_r ?_)
    exact rr rfl rfl rfl
end

/-- `plover/ploverref10.Small` -/
def dref10_Small (fu : Nat) (m1 : tMsg) : Option Bool :=
  (loopD (ε := Int) (τ := Unit ⊕ Bool) (fun (i1 : Int) => (bif (decide (i1 < (m1.Event.Attrs.length : Int))) then (((gi m1.Event.Attrs i1).bind fun x2 => bif (decide ((x2.Name.length : Int) > 300)) then some true else ((gi m1.Event.Attrs i1).bind fun x3 => some (decide ((x3.S.length : Int) > 300))) : Option Bool).bind fun (x1 : Bool) => (bif x1 then some (Sum.inr (Sum.inr false)) else some (Sum.inl (W (i1 + 1))))) else some (Sum.inr (Sum.inl ())))) fu 0).bind fun o => kS o fun (_ : Unit) => (bif (decide ((m1.Filter.length : Int) ≤ 600)) then ((some (decide ((m1.Event.Attrs.length : Int) ≤ 20))).bind fun x4 => some x4) else some false)
section
attribute [local irreducible] awp aops DP PCall ACall Decidable.decide
theorem dref10_Small_l {fu : Nat} {m1 : tMsg} {r : Bool} (h : dref10_Small fu m1 = some r) : PCall Try.prog 37 [.agg [.int .i64 m1.Kind, .int .i64 m1.Sub, .int .i64 m1.Version, .int .i64 m1.Home, .int .i64 m1.Rect.X1, .int .i64 m1.Rect.Y1, .int .i64 m1.Rect.X2, .int .i64 m1.Rect.Y2, .str (sB m1.Filter), .int .i64 m1.Event.Pub, .int .u32 m1.Event.Seq, .int .i64 m1.Event.At.X, .int .i64 m1.Event.At.Y, .sl (m1.Event.Attrs.map c_tAttr)]] (· = .bool r) := by
  rw [dref10_Small] at h
  refine pcall_body Try.func37 rfl (by kernel_rfl) (by rfl) ?_
  refine awp_seq ?_
  refine awp_region ?_
  refine rb rfl rfl ?_
  refine rv rfl rfl ?_
  refine rn ?_
  refine awp_seq ?_
  refine awp_seq ?_
  refine awp_region ?_
  refine rv rfl rfl ?_
  refine rn ?_
  obtain ⟨e1, hl2, h⟩ := bi h
  refine awp_cut1 (fun x => Sum.inl x = e1) (fun (_ : Unit) => ⟨[(1, .ptr 0 0)], [(0, 0, .int .i64 m1.Kind), (0, 1, .int .i64 m1.Sub), (0, 2, .int .i64 m1.Version), (0, 3, .int .i64 m1.Home), (0, 4, .int .i64 m1.Rect.X1), (0, 5, .int .i64 m1.Rect.Y1), (0, 6, .int .i64 m1.Rect.X2), (0, 7, .int .i64 m1.Rect.Y2), (0, 8, .str (sB m1.Filter)), (0, 9, .int .i64 m1.Event.Pub), (0, 10, .int .u32 m1.Event.Seq), (0, 11, .int .i64 m1.Event.At.X), (0, 12, .int .i64 m1.Event.At.Y), (0, 13, .sl (m1.Event.Attrs.map c_tAttr))], [], 1⟩) ?_ ?_
  · refine awp_block ?_
    refine awp_loopD hl2 (fun (i1 : Int) => ⟨[(1, .ptr 0 0), (3, .int .i64 i1)], [(0, 0, .int .i64 m1.Kind), (0, 1, .int .i64 m1.Sub), (0, 2, .int .i64 m1.Version), (0, 3, .int .i64 m1.Home), (0, 4, .int .i64 m1.Rect.X1), (0, 5, .int .i64 m1.Rect.Y1), (0, 6, .int .i64 m1.Rect.X2), (0, 7, .int .i64 m1.Rect.Y2), (0, 8, .str (sB m1.Filter)), (0, 9, .int .i64 m1.Event.Pub), (0, 10, .int .u32 m1.Event.Seq), (0, 11, .int .i64 m1.Event.At.X), (0, 12, .int .i64 m1.Event.At.Y), (0, 13, .sl (m1.Event.Attrs.map c_tAttr))], [], 1⟩) [0] rfl ⟨rfl, rfl, zA rfl rfl rfl (zA rfl rfl rfl (trivial)), zC rfl rfl rfl rfl (zC rfl rfl rfl rfl (zC rfl rfl rfl rfl (zC rfl rfl rfl rfl (zC rfl rfl rfl rfl (zC rfl rfl rfl rfl (zC rfl rfl rfl rfl (zC rfl rfl rfl rfl (zC rfl rfl rfl rfl (zC rfl rfl rfl rfl (zC rfl rfl rfl rfl (zC rfl rfl rfl rfl (zC rfl rfl rfl rfl (zC rfl rfl rfl rfl (trivial)))))))))))))), trivial⟩ ?_
    intro i1 o5 ho3 hE4
    change awp _ _ _ _ _ ⟨_, _, _, _⟩
    refine awp_seq ?_
    refine awp_seq ?_
    refine awp_region ?_
    refine rvs 4 rfl ?_
    refine rv rfl rfl ?_
    refine rt ((lM c_tAttr m1.Event.Attrs)) ?_
    refine rv rfl rfl ?_
    refine rn ?_
    refine cs_ rfl (fun hc => ?_) (fun hc => ?_)
    · have ho3 := cT hc ho3
      refine awp_skip ?_
      refine awp_seq ?_
      refine awp_block ?_
      refine awp_seq ?_
      obtain ⟨o6, ho7, ho3⟩ := bi ho3
      refine awp_cut1 (fun x => x = o6) (fun (x1 : Bool) => ⟨[(1, .ptr 0 0), (3, .int .i64 i1), (31, .bool x1)], [(0, 0, .int .i64 m1.Kind), (0, 1, .int .i64 m1.Sub), (0, 2, .int .i64 m1.Version), (0, 3, .int .i64 m1.Home), (0, 4, .int .i64 m1.Rect.X1), (0, 5, .int .i64 m1.Rect.Y1), (0, 6, .int .i64 m1.Rect.X2), (0, 7, .int .i64 m1.Rect.Y2), (0, 8, .str (sB m1.Filter)), (0, 9, .int .i64 m1.Event.Pub), (0, 10, .int .u32 m1.Event.Seq), (0, 11, .int .i64 m1.Event.At.X), (0, 12, .int .i64 m1.Event.At.Y), (0, 13, .sl (m1.Event.Attrs.map c_tAttr))], [], 1⟩) ?_ ?_
      · refine awp_region ?_
        refine rvs 4 rfl ?_
        obtain ⟨x2, hx8, ho7⟩ := bi ho7
        refine ri rfl rfl rfl rfl rfl rfl (gi0 hx8) (giM c_tAttr hx8) (wM (fun _ => by rfl) _) ?_
        refine rvs 5 rfl ?_
        refine gs rfl rfl rfl rfl rfl (fun hg => ?_) (fun hg => ?_)
        · have ho7 := cF hg ho7
          refine rv rfl rfl ?_
          refine gy rfl rfl rfl ?_
          refine rv rfl rfl ?_
          refine gy rfl rfl rfl ?_
          refine rv rfl rfl ?_
          refine gy rfl rfl rfl ?_
          refine rv rfl rfl ?_
          refine gy rfl rfl rfl ?_
          obtain ⟨x3, hx9, ho7⟩ := bi ho7
          refine ri rfl rfl rfl rfl rfl rfl (gi0 hx9) (giM c_tAttr hx9) (wM (fun _ => by rfl) _) ?_
          refine gy rfl rfl rfl ?_
          refine rv rfl rfl ?_
          refine gy rfl rfl rfl ?_
          refine rv rfl rfl ?_
          refine gy rfl rfl rfl ?_
          refine rv rfl rfl ?_
          refine gy rfl rfl rfl ?_
          refine rv rfl rfl ?_
          refine rv rfl rfl ?_
          refine rn ?_
          cases ho7
          exact cut_n [0] rfl rfl ⟨rfl, rfl, zA rfl rfl rfl (zA rfl rfl rfl (zA rfl rfl rfl (trivial))), zC rfl rfl rfl rfl (zC rfl rfl rfl rfl (zC rfl rfl rfl rfl (zC rfl rfl rfl rfl (zC rfl rfl rfl rfl (zC rfl rfl rfl rfl (zC rfl rfl rfl rfl (zC rfl rfl rfl rfl (zC rfl rfl rfl rfl (zC rfl rfl rfl rfl (zC rfl rfl rfl rfl (zC rfl rfl rfl rfl (zC rfl rfl rfl rfl (zC rfl rfl rfl rfl (trivial)))))))))))))), trivial⟩
        · have ho7 := cT hg ho7
          refine gn rfl rfl rfl rfl rfl ?_
          refine gn rfl rfl rfl rfl rfl ?_
          refine gn rfl rfl rfl rfl rfl ?_
          refine gn rfl rfl rfl rfl rfl ?_
          refine gn rfl rfl rfl rfl rfl ?_
          refine gn rfl rfl rfl rfl rfl ?_
          refine gn rfl rfl rfl rfl rfl ?_
          refine gn rfl rfl rfl rfl rfl ?_
          refine rv rfl rfl ?_
          refine rn ?_
          cases ho7
          exact cut_n [0] rfl rfl ⟨rfl, rfl, zA rfl rfl rfl (zA rfl rfl rfl (zA rfl rfl rfl (trivial))), zC rfl rfl rfl rfl (zC rfl rfl rfl rfl (zC rfl rfl rfl rfl (zC rfl rfl rfl rfl (zC rfl rfl rfl rfl (zC rfl rfl rfl rfl (zC rfl rfl rfl rfl (zC rfl rfl rfl rfl (zC rfl rfl rfl rfl (zC rfl rfl rfl rfl (zC rfl rfl rfl rfl (zC rfl rfl rfl rfl (zC rfl rfl rfl rfl (zC rfl rfl rfl rfl (trivial)))))))))))))), trivial⟩
      · rintro x1 rfl
        change awp _ _ _ _ _ ⟨_, _, _, _⟩
        refine cs_ rfl (fun hc => ?_) (fun hc => ?_)
        · have ho3 := cT hc ho3
          refine awp_seq ?_
          refine awp_region ?_
          refine rv rfl rfl ?_
          refine rn ?_
          refine awp_ret ?_
          cases ho3
          have hq := hE4 _ rfl
          subst hq
          have h := ksr h
          subst h
          repeat (first | refine then_ret ?_ | refine inBlock_ret ?_ | refine cut_r ?_)
          exact rr rfl rfl rfl
        · have ho3 := cF hc ho3
          refine awp_skip ?_
          refine inBlock_normal ?_
          refine awp_region ?_
          refine rvs 3 rfl ?_
          refine rn ?_
          cases ho3
          exact lp_n [0] rfl rfl ⟨rfl, rfl, zA rfl rfl rfl (zA rfl rfl rfl (trivial)), zC rfl rfl rfl rfl (zC rfl rfl rfl rfl (zC rfl rfl rfl rfl (zC rfl rfl rfl rfl (zC rfl rfl rfl rfl (zC rfl rfl rfl rfl (zC rfl rfl rfl rfl (zC rfl rfl rfl rfl (zC rfl rfl rfl rfl (zC rfl rfl rfl rfl (zC rfl rfl rfl rfl (zC rfl rfl rfl rfl (zC rfl rfl rfl rfl (zC rfl rfl rfl rfl (trivial)))))))))))))), trivial⟩
    · have ho3 := cF hc ho3
      refine awp_exit ?_
      repeat (first | refine then_exit ?_ | refine cut_x ?_ | refine inBlock_other rfl ?_)
      refine inBlock_exit ?_
      cases ho3
      have hq := hE4 _ rfl
      subst hq
      exact cut_n [0] rfl rfl ⟨rfl, rfl, zA rfl rfl rfl (trivial), zC rfl rfl rfl rfl (zC rfl rfl rfl rfl (zC rfl rfl rfl rfl (zC rfl rfl rfl rfl (zC rfl rfl rfl rfl (zC rfl rfl rfl rfl (zC rfl rfl rfl rfl (zC rfl rfl rfl rfl (zC rfl rfl rfl rfl (zC rfl rfl rfl rfl (zC rfl rfl rfl rfl (zC rfl rfl rfl rfl (zC rfl rfl rfl rfl (zC rfl rfl rfl rfl (trivial)))))))))))))), trivial⟩
  · rintro _ rfl
    have h := ksl h
    change awp _ _ _ _ _ ⟨_, _, _, _⟩
    refine awp_seq ?_
    refine awp_region ?_
    refine rvs 5 rfl ?_
    refine gs rfl rfl rfl rfl rfl (fun hg => ?_) (fun hg => ?_)
    · have h := cT hg h
      refine rv rfl rfl ?_
      refine gy rfl rfl rfl ?_
      refine rv rfl rfl ?_
      refine gy rfl rfl rfl ?_
      refine rv rfl rfl ?_
      refine gy rfl rfl rfl ?_
      refine rv rfl rfl ?_
      refine rt ((lM c_tAttr m1.Event.Attrs)) ?_
      refine gy rfl rfl rfl ?_
      refine rv rfl rfl ?_
      refine rvs 2 rfl ?_
      obtain ⟨x4, hx10, h⟩ := bs h
      refine rt (eb' hx10) ?_
      refine rn ?_
      refine awp_ret ?_
      cases h
      repeat (first | refine then_ret ?_ | refine inBlock_ret ?_ | refine cut_r ?_)
      exact rr rfl rfl rfl
    · have h := cF hg h
      refine gn rfl rfl rfl rfl rfl ?_
      refine gn rfl rfl rfl rfl rfl ?_
      refine gn rfl rfl rfl rfl rfl ?_
      refine gn rfl rfl rfl rfl rfl ?_
      refine rvs 2 rfl ?_
      refine rn ?_
      refine awp_ret ?_
      cases h
      repeat (first | refine then_ret ?_ | refine inBlock_ret ?_ | refine cut_r ?_)
      exact rr rfl rfl rfl
end

theorem rrO {P : Program} [Tab P] {m : Nat} {rs : List ResultVar} {K : AV → List (Nat × Nat × AV) → List (Nat × Kind) → Nat → Prop} {s : St} (L : List Nat) (H : List (Nat × Nat × AV)) (O : List (Nat × Kind)) {r : AV}
    (h : resO P s rs = some (r.ren (rho L 0))) (hl : r.lim L.length = true) (hk : keepsTo m L 0 = true) (hg : good s.n L = true) (hH : SubHR s.H s.O L H) (hO : SubOR s.O L O) (k : K r H O L.length) : retPostA P m rs K .ret s :=
  ⟨r, L, ⟨[], H, O, L.length⟩, .inr h, hl, hk, ⟨hg, rfl, trivial, hH, hO⟩, k⟩
theorem rrO' {P : Program} [Tab P] {m : Nat} {rs : List ResultVar} {K : AV → List (Nat × Nat × AV) → List (Nat × Kind) → Nat → Prop} {s : St} (L : List Nat) (H : List (Nat × Nat × AV)) (O : List (Nat × Kind)) {r : AV}
    (h : resO P s rs = some (r.ren (rho L 0))) (hl : r.lim L.length = true) (hk : keepsTo m L 0 = true) (hg : good s.n L = true) (hH : SubHR s.H s.O L H) (hO : SubOR s.O L O) (k : K r H O L.length) : retPostA P m rs K .normal s :=
  ⟨r, L, ⟨[], H, O, L.length⟩, .inr h, hl, hk, ⟨hg, rfl, trivial, hH, hO⟩, k⟩

mutual
def dref10_number : Nat → Str → Int → Option Str
  | 0, _, _ => none
  | fu + 1, out1, u1 => bif (decide (u1 < 128)) then ((ap out1 [u8 (IntKind.wrap .u8 u1)]).bind fun x1 => some x1) else ((remV .u64 u1 128).bind fun q1 => (ap out1 [u8 (IntKind.wrap .u8 ((IntKind.wrap .u8 q1) + 128))]).bind fun x2 => (quoV .u64 u1 128).bind fun q2 => (dref10_number fu x2 q2).bind fun x3 => some x3)
end
section
attribute [local irreducible] awp aops DP PCall ACall Decidable.decide
/-- `plover/ploverref10.number` -/
theorem dref10_number_s {fu : Nat} (ih_dref10_number : ∀ {out1 u1} {r : Str}, dref10_number fu out1 u1 = some r → ACall Try.prog 77 1 [.own 0, .int .u64 u1] [] [(0, .row 1 (out1.map cU8))] (fun r_ H_ O_ n_ => r_ = .own 1 ∧ H_ = [] ∧ O_ = [(1, .row 1 (r.map cU8))] ∧ n_ = 2)) : ∀ {out1 u1} {r : Str}, dref10_number (fu + 1) out1 u1 = some r → ACall Try.prog 77 1 [.own 0, .int .u64 u1] [] [(0, .row 1 (out1.map cU8))] (fun r_ H_ O_ n_ => r_ = .own 1 ∧ H_ = [] ∧ O_ = [(1, .row 1 (r.map cU8))] ∧ n_ = 2) := by
  intro out1 u1 r h
  rw [dref10_number] at h
  refine acall_body Try.func77 rfl (by kernel_rfl) (by rfl) ?_
  refine awp_seq ?_
  refine awp_region ?_
  refine rv rfl rfl ?_
  refine rn ?_
  refine awp_seq ?_
  refine awp_seq ?_
  refine awp_region ?_
  refine rvs 2 rfl ?_
  refine rn ?_
  refine cs_ rfl (fun hc => ?_) (fun hc => ?_)
  · have h := cT hc h
    refine awp_seq ?_
    refine awp_region ?_
    refine rvs 3 rfl ?_
    refine rbs false rfl rfl rfl rfl rfl rfl rfl rfl rfl rfl ?_
    refine rk (congrArg (Kind.row _) (show ([[.int .u8 (IntKind.wrap .u8 u1)]] : List (List AV)) = ([u8 (IntKind.wrap .u8 u1)] : Str).map cU8 from by simp only [List.map_cons, List.map_nil, cU8, u8_wrap, u8_bits])) ?_
    obtain ⟨x1, hx1, h⟩ := bi h
    refine rap false (xs := out1.map cU8) (ys := [u8 (IntKind.wrap .u8 u1)].map cU8) rfl rfl rfl rfl rfl rfl rfl (.own rfl rfl) (.sl rfl rfl rfl) (wM (fun _ => by rfl) _) (oM (fun _ => by rfl) _) (apB cU8 rfl hx1) rfl ?_
    refine rk (congrArg (Kind.row _) (apM cU8 hx1)) ?_
    refine rv rfl rfl ?_
    refine rn ?_
    refine awp_ret ?_
    have h := Option.some.inj h
    subst h
    repeat (first | refine then_ret ?_ | refine inBlock_ret ?_ | refine cut_r ?_)
    exact rrO (r := .own 1) [0, 2] [] [(1, .row 1 (x1.map cU8))] rfl rfl rfl rfl (trivial) (zE rfl .row rfl (trivial)) ⟨rfl, rfl, rfl, rfl⟩
  · have h := cF hc h
    refine awp_skip ?_
    refine awp_seq ?_
    refine awp_region ?_
    refine rvs 2 rfl ?_
    obtain ⟨q1, hx2, h⟩ := bi h
    refine rV rfl (va_rem rfl rfl hx2) ?_
    refine rvs 2 rfl ?_
    refine rbs false rfl rfl rfl rfl rfl rfl rfl rfl rfl rfl ?_
    refine rk (congrArg (Kind.row _) (show ([[.int .u8 (IntKind.wrap .u8 ((IntKind.wrap .u8 q1) + 128))]] : List (List AV)) = ([u8 (IntKind.wrap .u8 ((IntKind.wrap .u8 q1) + 128))] : Str).map cU8 from by simp only [List.map_cons, List.map_nil, cU8, u8_wrap, u8_bits])) ?_
    obtain ⟨x2, hx3, h⟩ := bi h
    refine rap false (xs := out1.map cU8) (ys := [u8 (IntKind.wrap .u8 ((IntKind.wrap .u8 q1) + 128))].map cU8) rfl rfl rfl rfl rfl rfl rfl (.own rfl rfl) (.sl rfl rfl rfl) (wM (fun _ => by rfl) _) (oM (fun _ => by rfl) _) (apB cU8 rfl hx3) rfl ?_
    refine rk (congrArg (Kind.row _) (apM cU8 hx3)) ?_
    refine rv rfl rfl ?_
    obtain ⟨q2, hx4, h⟩ := bi h
    refine rV rfl (va_quo rfl rfl hx4) ?_
    obtain ⟨x3, hx5, h⟩ := bi h
    refine rh [2] rfl rfl (ih_dref10_number hx5) rfl rfl rfl (trivial) (zE rfl .row rfl (trivial)) ?_
    refine ek ?_
    refine as1 rfl ?_
    refine ae rfl rfl rfl ?_
    refine rv rfl rfl ?_
    refine rn ?_
    refine awp_ret ?_
    have h := Option.some.inj h
    subst h
    repeat (first | refine then_ret ?_ | refine inBlock_ret ?_ | refine cut_r ?_)
    exact rrO (r := .own 1) [0, 3] [] [(1, .row 1 (x3.map cU8))] rfl rfl rfl rfl (trivial) (zE rfl .row rfl (trivial)) ⟨rfl, rfl, rfl, rfl⟩
end

theorem dref10_number_l : ∀ {fu : Nat}, ∀ {out1 u1} {r : Str}, dref10_number fu out1 u1 = some r → ACall Try.prog 77 1 [.own 0, .int .u64 u1] [] [(0, .row 1 (out1.map cU8))] (fun r_ H_ O_ n_ => r_ = .own 1 ∧ H_ = [] ∧ O_ = [(1, .row 1 (r.map cU8))] ∧ n_ = 2)
  | 0 => fun h => by simp [dref10_number] at h
  | fu + 1 => dref10_number_s (fu := fu) (dref10_number_l (fu := fu))
/-- `plover/ploverref10.signed` -/
def dref10_signed (fu : Nat) (out1 : Str) (n1 : Int) : Option Str :=
  bif (decide (n1 < 0)) then ((dref10_number fu out1 (IntKind.wrap .u64 ((IntKind.wrap .u64 (2 * (IntKind.wrap .u64 (W (0 - (W (n1 + 1))))))) + 1))).bind fun x1 => some x1) else ((dref10_number fu out1 (IntKind.wrap .u64 (2 * (IntKind.wrap .u64 n1)))).bind fun x2 => some x2)
section
attribute [local irreducible] awp aops DP PCall ACall Decidable.decide
theorem dref10_signed_l {fu : Nat} {out1 : Str} {n1 : Int} {r : Str} (h : dref10_signed fu out1 n1 = some r) : ACall Try.prog 78 1 [.own 0, .int .i64 n1] [] [(0, .row 1 (out1.map cU8))] (fun r_ H_ O_ n_ => r_ = .own 1 ∧ H_ = [] ∧ O_ = [(1, .row 1 (r.map cU8))] ∧ n_ = 2) := by
  rw [dref10_signed] at h
  refine acall_body Try.func78 rfl (by kernel_rfl) (by rfl) ?_
  refine awp_seq ?_
  refine awp_region ?_
  refine rv rfl rfl ?_
  refine rn ?_
  refine awp_seq ?_
  refine awp_seq ?_
  refine awp_region ?_
  refine rvs 2 rfl ?_
  refine rn ?_
  refine cs_ rfl (fun hc => ?_) (fun hc => ?_)
  · have h := cT hc h
    refine awp_seq ?_
    refine awp_region ?_
    refine rvs 7 rfl ?_
    obtain ⟨x1, hx1, h⟩ := bi h
    refine rh [0] rfl rfl (dref10_number_l hx1) rfl rfl rfl (trivial) (zE rfl .row rfl (trivial)) ?_
    refine ek ?_
    refine as1 rfl ?_
    refine ae rfl rfl rfl ?_
    refine rv rfl rfl ?_
    refine rn ?_
    refine awp_ret ?_
    have h := Option.some.inj h
    subst h
    repeat (first | refine then_ret ?_ | refine inBlock_ret ?_ | refine cut_r ?_)
    exact rrO (r := .own 1) [0, 1] [] [(1, .row 1 (x1.map cU8))] rfl rfl rfl rfl (trivial) (zE rfl .row rfl (trivial)) ⟨rfl, rfl, rfl, rfl⟩
  · have h := cF hc h
    refine awp_skip ?_
    refine awp_seq ?_
    refine awp_region ?_
    refine rvs 4 rfl ?_
    obtain ⟨x2, hx2, h⟩ := bi h
    refine rh [0] rfl rfl (dref10_number_l hx2) rfl rfl rfl (trivial) (zE rfl .row rfl (trivial)) ?_
    refine ek ?_
    refine as1 rfl ?_
    refine ae rfl rfl rfl ?_
    refine rv rfl rfl ?_
    refine rn ?_
    refine awp_ret ?_
    have h := Option.some.inj h
    subst h
    repeat (first | refine then_ret ?_ | refine inBlock_ret ?_ | refine cut_r ?_)
    exact rrO (r := .own 1) [0, 1] [] [(1, .row 1 (x2.map cU8))] rfl rfl rfl rfl (trivial) (zE rfl .row rfl (trivial)) ⟨rfl, rfl, rfl, rfl⟩
end

/-- `plover/ploverref10.text` -/
def dref10_text (fu : Nat) (out1 : Str) (s1 : Str) : Option Str :=
  (dref10_number fu out1 (IntKind.wrap .u64 (s1.length : Int))).bind fun x1 => (ap x1 s1).bind fun x2 => some x2
section
attribute [local irreducible] awp aops DP PCall ACall Decidable.decide
theorem dref10_text_l {fu : Nat} {out1 : Str} {s1 : Str} {r : Str} (h : dref10_text fu out1 s1 = some r) : ACall Try.prog 79 1 [.own 0, .str (sB s1)] [] [(0, .row 1 (out1.map cU8))] (fun r_ H_ O_ n_ => r_ = .own 1 ∧ H_ = [] ∧ O_ = [(1, .row 1 (r.map cU8))] ∧ n_ = 2) := by
  rw [dref10_text] at h
  refine acall_body Try.func79 rfl (by kernel_rfl) (by rfl) ?_
  refine awp_seq ?_
  refine awp_region ?_
  refine rv rfl rfl ?_
  refine rn ?_
  refine awp_seq ?_
  refine awp_region ?_
  refine rvs 4 rfl ?_
  obtain ⟨x1, hx1, h⟩ := bi h
  refine rh [0] rfl rfl (dref10_number_l hx1) rfl rfl rfl (trivial) (zE rfl .row rfl (trivial)) ?_
  refine ek ?_
  refine as1 rfl ?_
  refine ae rfl rfl rfl ?_
  refine rv rfl rfl ?_
  obtain ⟨x2, hx2, h⟩ := bi h
  refine rap false (xs := x1.map cU8) (ys := s1.map cU8) rfl rfl rfl rfl rfl rfl rfl (.own rfl rfl) (SrcV.str (b := sB s1) rfl rfl rfl rfl) (wM (fun _ => by rfl) _) (oM (fun _ => by rfl) _) (apB cU8 rfl hx2) rfl ?_
  refine rk (congrArg (Kind.row _) (apM cU8 hx2)) ?_
  refine rv rfl rfl ?_
  refine rn ?_
  refine awp_ret ?_
  have h := Option.some.inj h
  subst h
  repeat (first | refine then_ret ?_ | refine inBlock_ret ?_ | refine cut_r ?_)
  exact rrO (r := .own 1) [0, 2] [] [(1, .row 1 (x2.map cU8))] rfl rfl rfl rfl (trivial) (zE rfl .row rfl (trivial)) ⟨rfl, rfl, rfl, rfl⟩
end

/-- `plover/ploverref10.bytes` -/
def dref10_bytes (fu : Nat) (out1 : Str) (e1 : tEvent) : Option Str :=
  (dref10_number fu out1 (IntKind.wrap .u64 e1.Pub)).bind fun out2 => (dref10_number fu out2 (IntKind.wrap .u64 e1.Seq)).bind fun out3 => (dref10_signed fu out3 e1.At.X).bind fun out4 => (dref10_signed fu out4 e1.At.Y).bind fun out5 => (dref10_number fu out5 (IntKind.wrap .u64 (e1.Attrs.length : Int))).bind fun out6 => (loopD (ε := Int × Str) (τ := Str) (fun (((i1, out7)) : Int × Str) => (bif (decide (i1 < (e1.Attrs.length : Int))) then (((gi e1.Attrs i1).bind fun out11 => (dref10_text fu out7 out11.Name).bind fun out12 => (gi e1.Attrs i1).bind fun x1 => bif x1.Text then ((ap out12 [1]).bind fun out13 => (gi e1.Attrs i1).bind fun out14 => (dref10_text fu out13 out14.S).bind fun out15 => some out15) else ((ap out12 [0]).bind fun out16 => (gi e1.Attrs i1).bind fun out17 => (dref10_signed fu out16 out17.N).bind fun out18 => some out18) : Option Str).bind fun (out10 : Str) => some (Sum.inl (W (i1 + 1), out10))) else some (Sum.inr out7))) fu (0, out6)).bind fun (out9 : Str) => some out9
section
attribute [local irreducible] awp aops DP PCall ACall Decidable.decide
theorem dref10_bytes_l {fu : Nat} {out1 : Str} {e1 : tEvent} {r : Str} (h : dref10_bytes fu out1 e1 = some r) : ACall Try.prog 80 1 [.own 0, .agg [.int .i64 e1.Pub, .int .u32 e1.Seq, .int .i64 e1.At.X, .int .i64 e1.At.Y, .sl (e1.Attrs.map c_tAttr)]] [] [(0, .row 1 (out1.map cU8))] (fun r_ H_ O_ n_ => r_ = .own 1 ∧ H_ = [] ∧ O_ = [(1, .row 1 (r.map cU8))] ∧ n_ = 2) := by
  rw [dref10_bytes] at h
  refine acall_body Try.func80 rfl (by kernel_rfl) (by rfl) ?_
  refine awp_seq ?_
  refine awp_region ?_
  refine rb rfl rfl ?_
  refine rv rfl rfl ?_
  refine rn ?_
  refine awp_seq ?_
  refine awp_region ?_
  refine rvs 4 rfl ?_
  obtain ⟨out2, hx1, h⟩ := bi h
  refine rh [0] rfl rfl (dref10_number_l hx1) rfl rfl rfl (trivial) (zE rfl .row rfl (trivial)) ?_
  refine ek ?_
  refine as1 rfl ?_
  refine ae rfl rfl rfl ?_
  refine rv rfl rfl ?_
  refine rn ?_
  refine awp_seq ?_
  refine awp_region ?_
  refine rvs 4 rfl ?_
  obtain ⟨out3, hx2, h⟩ := bi h
  refine rh [2] rfl rfl (dref10_number_l hx2) rfl rfl rfl (trivial) (zE rfl .row rfl (trivial)) ?_
  refine ek ?_
  refine as1 rfl ?_
  refine ae rfl rfl rfl ?_
  refine rv rfl rfl ?_
  refine rn ?_
  refine awp_seq ?_
  refine awp_region ?_
  refine rvs 4 rfl ?_
  obtain ⟨out4, hx3, h⟩ := bi h
  refine rh [3] rfl rfl (dref10_signed_l hx3) rfl rfl rfl (trivial) (zE rfl .row rfl (trivial)) ?_
  refine ek ?_
  refine as1 rfl ?_
  refine ae rfl rfl rfl ?_
  refine rv rfl rfl ?_
  refine rn ?_
  refine awp_seq ?_
  refine awp_region ?_
  refine rvs 4 rfl ?_
  obtain ⟨out5, hx4, h⟩ := bi h
  refine rh [4] rfl rfl (dref10_signed_l hx4) rfl rfl rfl (trivial) (zE rfl .row rfl (trivial)) ?_
  refine ek ?_
  refine as1 rfl ?_
  refine ae rfl rfl rfl ?_
  refine rv rfl rfl ?_
  refine rn ?_
  refine awp_seq ?_
  refine awp_region ?_
  refine rvs 3 rfl ?_
  refine rv rfl rfl ?_
  refine rt ((lM c_tAttr e1.Attrs)) ?_
  refine rv rfl rfl ?_
  obtain ⟨out6, hx5, h⟩ := bi h
  refine rh [5] rfl rfl (dref10_number_l hx5) rfl rfl rfl (trivial) (zE rfl .row rfl (trivial)) ?_
  refine ek ?_
  refine as1 rfl ?_
  refine ae rfl rfl rfl ?_
  refine rv rfl rfl ?_
  refine rn ?_
  refine awp_seq ?_
  refine awp_seq ?_
  refine awp_region ?_
  refine rv rfl rfl ?_
  refine rn ?_
  obtain ⟨e6, hl7, h⟩ := bi h
  refine awp_cut1 (fun x => x = e6) (fun (out9 : Str) => ⟨[(0, .own 1)], [], [(1, .row 1 (out9.map cU8))], 2⟩) ?_ ?_
  · refine awp_block ?_
    refine awp_loopD hl7 (fun (((i1, out7)) : Int × Str) => ⟨[(0, .own 1), (3, .ptr 2 0), (5, .int .i64 i1)], [(2, 0, .int .i64 e1.Pub), (2, 1, .int .u32 e1.Seq), (2, 2, .int .i64 e1.At.X), (2, 3, .int .i64 e1.At.Y), (2, 4, .sl (e1.Attrs.map c_tAttr))], [(1, .row 1 (out7.map cU8))], 3⟩) [0, 6, 1] rfl ⟨rfl, rfl, zA rfl rfl rfl (zA rfl rfl rfl (zA rfl rfl rfl (trivial))), zC rfl rfl rfl rfl (zC rfl rfl rfl rfl (zC rfl rfl rfl rfl (zC rfl rfl rfl rfl (zC rfl rfl rfl rfl (trivial))))), zE rfl .row rfl (trivial)⟩ ?_
    intro v o10 ho8 hE9
    obtain ⟨i1, out7⟩ := v
    change awp _ _ _ _ _ ⟨_, _, _, _⟩
    refine awp_seq ?_
    refine awp_seq ?_
    refine awp_region ?_
    refine rvs 3 rfl ?_
    refine rv rfl rfl ?_
    refine rt ((lM c_tAttr e1.Attrs)) ?_
    refine rv rfl rfl ?_
    refine rn ?_
    refine cs_ rfl (fun hc => ?_) (fun hc => ?_)
    · have ho8 := cT hc ho8
      refine awp_skip ?_
      refine awp_seq ?_
      obtain ⟨o11, ho12, ho8⟩ := bi ho8
      refine awp_cut1 (fun x => x = o11) (fun (out10 : Str) => ⟨[(0, .own 1), (3, .ptr 2 0), (5, .int .i64 i1)], [(2, 0, .int .i64 e1.Pub), (2, 1, .int .u32 e1.Seq), (2, 2, .int .i64 e1.At.X), (2, 3, .int .i64 e1.At.Y), (2, 4, .sl (e1.Attrs.map c_tAttr))], [(1, .row 1 (out10.map cU8))], 3⟩) ?_ ?_
      · refine awp_block ?_
        refine awp_seq ?_
        refine awp_region ?_
        refine rvs 4 rfl ?_
        obtain ⟨out11, hx13, ho12⟩ := bi ho12
        refine ri rfl rfl rfl rfl rfl rfl (gi0 hx13) (giM c_tAttr hx13) (wM (fun _ => by rfl) _) ?_
        refine rvs 2 rfl ?_
        obtain ⟨out12, hx14, ho12⟩ := bi ho12
        refine rh [1] rfl rfl (dref10_text_l hx14) rfl rfl rfl (trivial) (zE rfl .row rfl (trivial)) ?_
        refine ek ?_
        refine as1 rfl ?_
        refine ae rfl rfl rfl ?_
        refine rv rfl rfl ?_
        refine rn ?_
        refine awp_seq ?_
        refine awp_region ?_
        refine rvs 3 rfl ?_
        obtain ⟨x1, hx15, ho12⟩ := bi ho12
        refine ri rfl rfl rfl rfl rfl rfl (gi0 hx15) (giM c_tAttr hx15) (wM (fun _ => by rfl) _) ?_
        refine rvs 2 rfl ?_
        refine rn ?_
        refine cs_ rfl (fun hc => ?_) (fun hc => ?_)
        · have ho12 := cT hc ho12
          refine awp_dx (m := 10) [] Try.mix (by kernel_rfl) (by kernel_rfl) (by kernel_rfl) (by kernel_rfl) (by kernel_rfl) (by kernel_rfl) ?_
          refine xv [] rfl rfl (fun _ => rfl) ?_
          refine xE [] (.own 4) 5 _ _ rfl rfl (by
              refine rbs false rfl rfl rfl rfl rfl rfl rfl rfl rfl rfl ?_
              exact rn ⟨rfl, rfl⟩) (by rfl) (by rfl) (by rfl) ?_
          obtain ⟨out13, hx16, ho12⟩ := bi ho12
          refine xE [3, 4] (.own 5) 6 _ _ rfl rfl (by
              refine rap false (xs := out12.map cU8) (ys := [1].map cU8) rfl rfl rfl rfl rfl rfl rfl (.own rfl rfl) (.sl rfl rfl rfl) (wM (fun _ => by rfl) _) (oM (fun _ => by rfl) _) (apB cU8 rfl hx16) rfl ?_
              refine rk (congrArg (Kind.row _) (apM cU8 hx16)) ?_
              exact rn ⟨rfl, rfl⟩) (by rfl) (by rfl) (by rfl) ?_
          refine xv [] rfl rfl (fun _ => rfl) ?_
          refine xv [2] rfl rfl (fun _ => rfl) ?_
          refine xv [] rfl rfl (fun _ => rfl) ?_
          obtain ⟨out14, hx17, ho12⟩ := bi ho12
          refine xV [] rfl rfl (fun _ => va_idx rfl rfl rfl rfl rfl (gi0 hx17) (giM c_tAttr hx17) (wM (fun _ => by rfl) _)) ?_
          refine xv [] rfl rfl (fun _ => rfl) ?_
          refine xv [] rfl rfl (fun _ => rfl) ?_
          obtain ⟨out15, hx18, ho12⟩ := bi ho12
          refine xE [5] (.own 6) 7 _ _ rfl rfl (by
              refine rh [5] rfl rfl (dref10_text_l hx18) rfl rfl rfl (trivial) (zE rfl .row rfl (trivial)) ?_
              refine ek ?_
              refine as1 rfl ?_
              refine ae rfl rfl rfl ?_
              exact rn ⟨rfl, rfl⟩) (by rfl) (by rfl) (by rfl) ?_
          refine xn (by kernel_rfl) ?_
          refine rv rfl rfl ?_
          refine rn ?_
          refine inBlock_normal ?_
          cases ho12
          exact cut_n [0, 6, 2] rfl rfl ⟨rfl, rfl, zA rfl rfl rfl (zA rfl rfl rfl (zA rfl rfl rfl (trivial))), zC rfl rfl rfl rfl (zC rfl rfl rfl rfl (zC rfl rfl rfl rfl (zC rfl rfl rfl rfl (zC rfl rfl rfl rfl (trivial))))), zE rfl .row rfl (trivial)⟩
        · have ho12 := cF hc ho12
          refine awp_dx (m := 10) [] Try.mix (by kernel_rfl) (by kernel_rfl) (by kernel_rfl) (by kernel_rfl) (by kernel_rfl) (by kernel_rfl) ?_
          refine xv [] rfl rfl (fun _ => rfl) ?_
          refine xE [] (.own 4) 5 _ _ rfl rfl (by
              refine rbs false rfl rfl rfl rfl rfl rfl rfl rfl rfl rfl ?_
              exact rn ⟨rfl, rfl⟩) (by rfl) (by rfl) (by rfl) ?_
          obtain ⟨out16, hx19, ho12⟩ := bi ho12
          refine xE [3, 4] (.own 5) 6 _ _ rfl rfl (by
              refine rap false (xs := out12.map cU8) (ys := [0].map cU8) rfl rfl rfl rfl rfl rfl rfl (.own rfl rfl) (.sl rfl rfl rfl) (wM (fun _ => by rfl) _) (oM (fun _ => by rfl) _) (apB cU8 rfl hx19) rfl ?_
              refine rk (congrArg (Kind.row _) (apM cU8 hx19)) ?_
              exact rn ⟨rfl, rfl⟩) (by rfl) (by rfl) (by rfl) ?_
          refine xv [] rfl rfl (fun _ => rfl) ?_
          refine xv [2] rfl rfl (fun _ => rfl) ?_
          refine xv [] rfl rfl (fun _ => rfl) ?_
          obtain ⟨out17, hx20, ho12⟩ := bi ho12
          refine xV [] rfl rfl (fun _ => va_idx rfl rfl rfl rfl rfl (gi0 hx20) (giM c_tAttr hx20) (wM (fun _ => by rfl) _)) ?_
          refine xv [] rfl rfl (fun _ => rfl) ?_
          refine xv [] rfl rfl (fun _ => rfl) ?_
          obtain ⟨out18, hx21, ho12⟩ := bi ho12
          refine xE [5] (.own 6) 7 _ _ rfl rfl (by
              refine rh [5] rfl rfl (dref10_signed_l hx21) rfl rfl rfl (trivial) (zE rfl .row rfl (trivial)) ?_
              refine ek ?_
              refine as1 rfl ?_
              refine ae rfl rfl rfl ?_
              exact rn ⟨rfl, rfl⟩) (by rfl) (by rfl) (by rfl) ?_
          refine xn (by kernel_rfl) ?_
          refine rv rfl rfl ?_
          refine rn ?_
          refine inBlock_normal ?_
          cases ho12
          exact cut_n [0, 6, 2] rfl rfl ⟨rfl, rfl, zA rfl rfl rfl (zA rfl rfl rfl (zA rfl rfl rfl (trivial))), zC rfl rfl rfl rfl (zC rfl rfl rfl rfl (zC rfl rfl rfl rfl (zC rfl rfl rfl rfl (zC rfl rfl rfl rfl (trivial))))), zE rfl .row rfl (trivial)⟩
      · rintro out10 rfl
        change awp _ _ _ _ _ ⟨_, _, _, _⟩
        refine awp_region ?_
        refine rvs 3 rfl ?_
        refine rn ?_
        cases ho8
        exact lp_n [0, 1, 2] rfl rfl ⟨rfl, rfl, zA rfl rfl rfl (zA rfl rfl rfl (zA rfl rfl rfl (trivial))), zC rfl rfl rfl rfl (zC rfl rfl rfl rfl (zC rfl rfl rfl rfl (zC rfl rfl rfl rfl (zC rfl rfl rfl rfl (trivial))))), zE rfl .row rfl (trivial)⟩
    · have ho8 := cF hc ho8
      refine awp_exit ?_
      repeat (first | refine then_exit ?_ | refine cut_x ?_ | refine inBlock_other rfl ?_)
      refine inBlock_exit ?_
      cases ho8
      have hq := hE9 _ rfl
      subst hq
      exact cut_n [0, 1] rfl rfl ⟨rfl, rfl, zA rfl rfl rfl (trivial), trivial, zE rfl .row rfl (trivial)⟩
  · rintro out9 rfl
    refine awp_seq ?_
    refine awp_region ?_
    refine rvs 2 rfl ?_
    refine rn ?_
    refine awp_ret ?_
    have h := Option.some.inj h
    subst h
    repeat (first | refine then_ret ?_ | refine inBlock_ret ?_ | refine cut_r ?_)
    exact rrO (r := .own 1) [0, 1] [] [(1, .row 1 (out9.map cU8))] rfl rfl rfl rfl (trivial) (zE rfl .row rfl (trivial)) ⟨rfl, rfl, rfl, rfl⟩
end

/-- `plover/ploverref10.Put` -/
def dref10_Put (fu : Nat) (m1 : tMsg) : Option Str :=
  bif (m1.Kind == 1) then ((dref10_number fu [u8 (IntKind.wrap .u8 m1.Kind)] (IntKind.wrap .u64 m1.Sub)).bind fun out1 => (dref10_number fu out1 (IntKind.wrap .u64 m1.Version)).bind fun out2 => (dref10_number fu out2 (IntKind.wrap .u64 m1.Home)).bind fun out3 => (dref10_signed fu out3 m1.Rect.X1).bind fun out4 => (dref10_signed fu out4 m1.Rect.Y1).bind fun out5 => (dref10_signed fu out5 m1.Rect.X2).bind fun out6 => (dref10_signed fu out6 m1.Rect.Y2).bind fun out7 => (dref10_text fu out7 m1.Filter).bind fun x1 => some x1) else (bif (m1.Kind == 2) then ((dref10_number fu [u8 (IntKind.wrap .u8 m1.Kind)] (IntKind.wrap .u64 m1.Sub)).bind fun out8 => (dref10_number fu out8 (IntKind.wrap .u64 m1.Version)).bind fun x2 => some x2) else (bif (m1.Kind == 4) then ((dref10_number fu [u8 (IntKind.wrap .u8 m1.Kind)] (IntKind.wrap .u64 m1.Sub)).bind fun x3 => (dref10_bytes fu x3 m1.Event).bind fun x4 => some x4) else ((dref10_bytes fu [u8 (IntKind.wrap .u8 m1.Kind)] m1.Event).bind fun x5 => some x5)))
section
attribute [local irreducible] awp aops DP PCall ACall Decidable.decide
theorem dref10_Put_l {fu : Nat} {m1 : tMsg} {r : Str} (h : dref10_Put fu m1 = some r) : PCall Try.prog 42 [.agg [.int .i64 m1.Kind, .int .i64 m1.Sub, .int .i64 m1.Version, .int .i64 m1.Home, .int .i64 m1.Rect.X1, .int .i64 m1.Rect.Y1, .int .i64 m1.Rect.X2, .int .i64 m1.Rect.Y2, .str (sB m1.Filter), .int .i64 m1.Event.Pub, .int .u32 m1.Event.Seq, .int .i64 m1.Event.At.X, .int .i64 m1.Event.At.Y, .sl (m1.Event.Attrs.map c_tAttr)]] (· = .sl (r.map cU8)) := by
  rw [dref10_Put] at h
  refine pcall_body Try.func42 rfl (by kernel_rfl) (by rfl) ?_
  refine awp_seq ?_
  refine awp_region ?_
  refine rb rfl rfl ?_
  refine rv rfl rfl ?_
  refine rn ?_
  refine awp_seq ?_
  refine awp_region ?_
  refine rvs 3 rfl ?_
  refine rbs false rfl rfl rfl rfl rfl rfl rfl rfl rfl rfl ?_
  refine rk (congrArg (Kind.row _) (show ([[.int .u8 (IntKind.wrap .u8 m1.Kind)]] : List (List AV)) = ([u8 (IntKind.wrap .u8 m1.Kind)] : Str).map cU8 from by simp only [List.map_cons, List.map_nil, cU8, u8_wrap, u8_bits])) ?_
  refine rv rfl rfl ?_
  refine rn ?_
  refine awp_seq ?_
  refine awp_seq ?_
  refine awp_region ?_
  refine rvs 2 rfl ?_
  refine rn ?_
  refine awp_block ?_
  refine awp_seq ?_
  refine awp_region ?_
  refine rvs 2 rfl ?_
  refine rn ?_
  refine cs_ rfl (fun hc => ?_) (fun hc => ?_)
  · have h := cT hc h
    refine awp_seq ?_
    refine awp_region ?_
    refine rvs 4 rfl ?_
    obtain ⟨out1, hx1, h⟩ := bi h
    refine rh [1] rfl rfl (dref10_number_l hx1) rfl rfl rfl (trivial) (zE rfl .row rfl (trivial)) ?_
    refine ek ?_
    refine as1 rfl ?_
    refine ae rfl rfl rfl ?_
    refine rv rfl rfl ?_
    refine rn ?_
    refine awp_seq ?_
    refine awp_region ?_
    refine rvs 4 rfl ?_
    obtain ⟨out2, hx2, h⟩ := bi h
    refine rh [2] rfl rfl (dref10_number_l hx2) rfl rfl rfl (trivial) (zE rfl .row rfl (trivial)) ?_
    refine ek ?_
    refine as1 rfl ?_
    refine ae rfl rfl rfl ?_
    refine rv rfl rfl ?_
    refine rn ?_
    refine awp_seq ?_
    refine awp_region ?_
    refine rvs 4 rfl ?_
    obtain ⟨out3, hx3, h⟩ := bi h
    refine rh [3] rfl rfl (dref10_number_l hx3) rfl rfl rfl (trivial) (zE rfl .row rfl (trivial)) ?_
    refine ek ?_
    refine as1 rfl ?_
    refine ae rfl rfl rfl ?_
    refine rv rfl rfl ?_
    refine rn ?_
    refine awp_seq ?_
    refine awp_region ?_
    refine rvs 4 rfl ?_
    obtain ⟨out4, hx4, h⟩ := bi h
    refine rh [4] rfl rfl (dref10_signed_l hx4) rfl rfl rfl (trivial) (zE rfl .row rfl (trivial)) ?_
    refine ek ?_
    refine as1 rfl ?_
    refine ae rfl rfl rfl ?_
    refine rv rfl rfl ?_
    refine rn ?_
    refine awp_seq ?_
    refine awp_region ?_
    refine rvs 4 rfl ?_
    obtain ⟨out5, hx5, h⟩ := bi h
    refine rh [5] rfl rfl (dref10_signed_l hx5) rfl rfl rfl (trivial) (zE rfl .row rfl (trivial)) ?_
    refine ek ?_
    refine as1 rfl ?_
    refine ae rfl rfl rfl ?_
    refine rv rfl rfl ?_
    refine rn ?_
    refine awp_seq ?_
    refine awp_region ?_
    refine rvs 4 rfl ?_
    obtain ⟨out6, hx6, h⟩ := bi h
    refine rh [6] rfl rfl (dref10_signed_l hx6) rfl rfl rfl (trivial) (zE rfl .row rfl (trivial)) ?_
    refine ek ?_
    refine as1 rfl ?_
    refine ae rfl rfl rfl ?_
    refine rv rfl rfl ?_
    refine rn ?_
    refine awp_seq ?_
    refine awp_region ?_
    refine rvs 4 rfl ?_
    obtain ⟨out7, hx7, h⟩ := bi h
    refine rh [7] rfl rfl (dref10_signed_l hx7) rfl rfl rfl (trivial) (zE rfl .row rfl (trivial)) ?_
    refine ek ?_
    refine as1 rfl ?_
    refine ae rfl rfl rfl ?_
    refine rv rfl rfl ?_
    refine rn ?_
    refine awp_seq ?_
    refine awp_region ?_
    refine rvs 3 rfl ?_
    obtain ⟨x1, hx8, h⟩ := bi h
    refine rh [8] rfl rfl (dref10_text_l hx8) rfl rfl rfl (trivial) (zE rfl .row rfl (trivial)) ?_
    refine ek ?_
    refine as1 rfl ?_
    refine ae rfl rfl rfl ?_
    refine rv rfl rfl ?_
    refine rn ?_
    refine awp_ret ?_
    cases h
    repeat (first | refine then_ret ?_ | refine inBlock_ret ?_ | refine cut_r ?_)
    exact rr rfl rfl rfl
  · have h := cF hc h
    refine awp_seq ?_
    refine awp_region ?_
    refine rvs 2 rfl ?_
    refine rn ?_
    refine cs_ rfl (fun hc => ?_) (fun hc => ?_)
    · have h := cT hc h
      refine awp_seq ?_
      refine awp_region ?_
      refine rvs 4 rfl ?_
      obtain ⟨out8, hx9, h⟩ := bi h
      refine rh [1] rfl rfl (dref10_number_l hx9) rfl rfl rfl (trivial) (zE rfl .row rfl (trivial)) ?_
      refine ek ?_
      refine as1 rfl ?_
      refine ae rfl rfl rfl ?_
      refine rv rfl rfl ?_
      refine rn ?_
      refine awp_seq ?_
      refine awp_region ?_
      refine rvs 4 rfl ?_
      obtain ⟨x2, hx10, h⟩ := bi h
      refine rh [2] rfl rfl (dref10_number_l hx10) rfl rfl rfl (trivial) (zE rfl .row rfl (trivial)) ?_
      refine ek ?_
      refine as1 rfl ?_
      refine ae rfl rfl rfl ?_
      refine rv rfl rfl ?_
      refine rn ?_
      refine awp_ret ?_
      cases h
      repeat (first | refine then_ret ?_ | refine inBlock_ret ?_ | refine cut_r ?_)
      exact rr rfl rfl rfl
    · have h := cF hc h
      refine awp_seq ?_
      refine awp_region ?_
      refine rvs 2 rfl ?_
      refine rn ?_
      refine cs_ rfl (fun hc => ?_) (fun hc => ?_)
      · have h := cT hc h
        refine awp_seq ?_
        refine awp_dx (m := 8) [] Try.mix (by kernel_rfl) (by kernel_rfl) (by kernel_rfl) (by kernel_rfl) (by kernel_rfl) (by kernel_rfl) ?_
        refine xv [] rfl rfl (fun _ => rfl) ?_
        refine xv [] rfl rfl (fun _ => rfl) ?_
        refine xv [0] rfl rfl (fun _ => rfl) ?_
        refine xv [] rfl rfl (fun _ => rfl) ?_
        obtain ⟨x3, hx11, h⟩ := bi h
        refine xE [1] (.own 2) 3 _ _ rfl rfl (by
            refine rh [1] rfl rfl (dref10_number_l hx11) rfl rfl rfl (trivial) (zE rfl .row rfl (trivial)) ?_
            refine ek ?_
            refine as1 rfl ?_
            refine ae rfl rfl rfl ?_
            exact rn ⟨rfl, rfl⟩) (by rfl) (by rfl) (by rfl) ?_
        refine xv [] rfl rfl (fun _ => rfl) ?_
        refine xv [0] rfl rfl (fun _ => rfl) ?_
        obtain ⟨x4, hx12, h⟩ := bi h
        refine xE [2] (.own 3) 4 _ _ rfl rfl (by
            refine rh [2] rfl rfl (dref10_bytes_l hx12) rfl rfl rfl (trivial) (zE rfl .row rfl (trivial)) ?_
            refine ek ?_
            refine as1 rfl ?_
            refine ae rfl rfl rfl ?_
            exact rn ⟨rfl, rfl⟩) (by rfl) (by rfl) (by rfl) ?_
        refine xn (by kernel_rfl) ?_
        refine rv rfl rfl ?_
        refine rn ?_
        refine awp_ret ?_
        cases h
        repeat (first | refine then_ret ?_ | refine inBlock_ret ?_ | refine cut_r ?_)
        exact rr rfl rfl rfl
      · have h := cF hc h
        refine awp_skip ?_
        refine inBlock_normal ?_
        refine awp_seq ?_
        refine awp_region ?_
        refine rvs 3 rfl ?_
        obtain ⟨x5, hx13, h⟩ := bi h
        refine rh [1] rfl rfl (dref10_bytes_l hx13) rfl rfl rfl (trivial) (zE rfl .row rfl (trivial)) ?_
        refine ek ?_
        refine as1 rfl ?_
        refine ae rfl rfl rfl ?_
        refine rv rfl rfl ?_
        refine rn ?_
        refine awp_ret ?_
        cases h
        repeat (first | refine then_ret ?_ | refine inBlock_ret ?_ | refine cut_r ?_)
        exact rr rfl rfl rfl
end

/-- `(*plover/ploverref10.R).number` -/
def dref10_R_number (fu : Nat) (r1 : tref10R) (most1 : Int) : Option (Int × tref10R) :=
  (loopD (ε := Int × Int × Int × Int) (τ := Int ⊕ (Int × tref10R)) (fun (((u1, p1, i1, r2)) : Int × Int × Int × Int) => (bif (r1.Bad == 0) then (bif (r2 == (r1.B.length : Int)) then some (Sum.inr (Sum.inr (0, (tref10R.mk r1.B r2 6)))) else ((gi r1.B r2).bind fun x2 => (bif (i1 == 9) then some (decide ((x2.toNat : Int) > 1)) else some false : Option Bool).bind fun (x3 : Bool) => (bif x3 then some (Sum.inr (Sum.inr (0, (tref10R.mk r1.B (W (r2 + 1)) 7)))) else ((remV .u8 (x2.toNat : Int) 128).bind fun q1 => (some (IntKind.wrap .u64 (u1 + (IntKind.wrap .u64 (p1 * (IntKind.wrap .u64 q1)))))).bind fun u3 => (some (IntKind.wrap .u64 (p1 * 128))).bind fun p3 => bif (decide ((x2.toNat : Int) > 127)) then some (Sum.inl (u3, p3, W (i1 + 1), W (r2 + 1))) else ((bif ((x2.toNat : Int) == 0) then (bif (decide (i1 > 0)) then some true else some (decide (u3 > most1))) else some (decide (u3 > most1)) : Option Bool).bind fun (x4 : Bool) => (bif x4 then some (Sum.inr (Sum.inr (0, (tref10R.mk r1.B (W (r2 + 1)) 7)))) else some (Sum.inr (Sum.inr (u3, (tref10R.mk r1.B (W (r2 + 1)) r1.Bad)))))))))) else some (Sum.inr (Sum.inl r2)))) fu (0, 1, 0, r1.At)).bind fun o => kS o fun (x1 : Int) => some (0, (tref10R.mk r1.B x1 r1.Bad))
section
attribute [local irreducible] awp aops DP PCall ACall Decidable.decide
theorem dref10_R_number_l {fu : Nat} {r1 : tref10R} {most1 : Int} {r : Int × tref10R} (h : dref10_R_number fu r1 most1 = some r) : ACall Try.prog 59 1 [.ptr 0 0, .int .u64 most1] [(0, 0, .sl (r1.B.map cU8)), (0, 1, .int .i64 r1.At), (0, 2, .int .i64 r1.Bad)] [] (fun r_ H_ O_ n_ => r_ = .int .u64 r.1 ∧ H_ = [(0, 0, .sl (r.2.B.map cU8)), (0, 1, .int .i64 r.2.At), (0, 2, .int .i64 r.2.Bad)] ∧ O_ = [] ∧ n_ = 1) := by
  rw [dref10_R_number] at h
  refine acall_body Try.func59 rfl (by kernel_rfl) (by rfl) ?_
  refine awp_seq ?_
  refine awp_region ?_
  refine rv rfl rfl ?_
  refine rn ?_
  refine awp_seq ?_
  refine awp_region ?_
  refine rv rfl rfl ?_
  refine rn ?_
  refine awp_seq ?_
  refine awp_region ?_
  refine rv rfl rfl ?_
  refine rn ?_
  refine awp_seq ?_
  refine awp_seq ?_
  refine awp_region ?_
  refine rv rfl rfl ?_
  refine rn ?_
  obtain ⟨e1, hl2, h⟩ := bi h
  refine awp_cut1 (fun x => Sum.inl x = e1) (fun (x1 : Int) => ⟨[], [(0, 0, .sl (r1.B.map cU8)), (0, 1, .int .i64 x1), (0, 2, .int .i64 r1.Bad)], [], 1⟩) ?_ ?_
  · refine awp_block ?_
    refine awp_loopD hl2 (fun (((u1, p1, i1, r2)) : Int × Int × Int × Int) => ⟨[(0, .ptr 0 0), (1, .int .u64 most1), (5, .int .u64 u1), (6, .int .u64 p1), (7, .int .i64 i1)], [(0, 0, .sl (r1.B.map cU8)), (0, 1, .int .i64 r2), (0, 2, .int .i64 r1.Bad)], [], 1⟩) [0] rfl ⟨rfl, rfl, zA rfl rfl rfl (zA rfl rfl rfl (zA rfl rfl rfl (zA rfl rfl rfl (zA rfl rfl rfl (trivial))))), zC rfl rfl rfl rfl (zC rfl rfl rfl rfl (zC rfl rfl rfl rfl (trivial))), trivial⟩ ?_
    intro v o5 ho3 hE4
    obtain ⟨u1, p1, i1, r2⟩ := v
    change awp _ _ _ _ _ ⟨_, _, _, _⟩
    refine awp_seq ?_
    refine awp_seq ?_
    refine awp_region ?_
    refine rvs 5 rfl ?_
    refine rn ?_
    refine cs_ rfl (fun hc => ?_) (fun hc => ?_)
    · have ho3 := cT hc ho3
      refine awp_skip ?_
      refine awp_seq ?_
      refine awp_block ?_
      refine awp_seq ?_
      refine awp_seq ?_
      refine awp_dp (m := 10) Try.mix (by kernel_rfl) (by kernel_rfl) (by kernel_rfl) (by kernel_rfl) (by kernel_rfl) (by kernel_rfl) (by kernel_rfl) ?_
      refine dv rfl rfl (fun _ => rfl) ?_
      refine dv rfl rfl (fun _ => rfl) ?_
      refine dv rfl rfl (fun _ => rfl) ?_
      refine dv rfl rfl (fun _ => rfl) ?_
      refine dv rfl rfl (fun _ => rfl) ?_
      refine dv rfl rfl (fun _ => rfl) ?_
      refine dv rfl rfl (fun _ => rfl) ?_
      refine dv rfl rfl (fun _ => rfl) ?_
      refine dv rfl rfl (fun _ => rfl) ?_
      refine dt ((lM cU8 r1.B)) ?_
      refine dv rfl rfl (fun _ => rfl) ?_
      refine dn ?_
      refine rn ?_
      refine cs_ rfl (fun hc => ?_) (fun hc => ?_)
      · have ho3 := cT hc ho3
        refine awp_seq ?_
        refine awp_region ?_
        refine rvs 3 rfl ?_
        refine rs rfl rfl rfl rfl rfl rfl rfl ?_
        refine rn ?_
        refine awp_seq ?_
        refine awp_region ?_
        refine rv rfl rfl ?_
        refine rn ?_
        refine awp_ret ?_
        cases ho3
        have hq := hE4 _ rfl
        subst hq
        have h := ksr h
        subst h
        repeat (first | refine then_ret ?_ | refine inBlock_ret ?_ | refine cut_r ?_)
        exact rrA (r := .int .u64 0) [0] [(0, 0, .sl (r1.B.map cU8)), (0, 1, .int .i64 r2), (0, 2, .int .i64 6)] [] rfl rfl rfl rfl (zC rfl rfl rfl rfl (zC rfl rfl rfl rfl (zC rfl rfl rfl rfl (trivial)))) (trivial) ⟨rfl, rfl, rfl, rfl⟩
      · have ho3 := cF hc ho3
        refine awp_skip ?_
        refine awp_seq ?_
        refine awp_dp (m := 10) Try.mix (by kernel_rfl) (by kernel_rfl) (by kernel_rfl) (by kernel_rfl) (by kernel_rfl) (by kernel_rfl) (by kernel_rfl) ?_
        refine dv rfl rfl (fun _ => rfl) ?_
        refine dv rfl rfl (fun _ => rfl) ?_
        refine dv rfl rfl (fun _ => rfl) ?_
        refine dv rfl rfl (fun _ => rfl) ?_
        refine dv rfl rfl (fun _ => rfl) ?_
        refine dv rfl rfl (fun _ => rfl) ?_
        refine dv rfl rfl (fun _ => rfl) ?_
        refine dv rfl rfl (fun _ => rfl) ?_
        obtain ⟨x2, hx6, ho3⟩ := bi ho3
        refine di rfl rfl rfl rfl rfl (fun _ => rfl) rfl (gi0 hx6) (giM cU8 hx6) (wM (fun _ => by rfl) _) ?_
        refine dv rfl rfl (fun _ => rfl) ?_
        refine dn ?_
        refine rv rfl rfl ?_
        refine rn ?_
        refine awp_seq ?_
        refine awp_region ?_
        refine rvs 8 rfl ?_
        refine rs rfl rfl rfl rfl rfl rfl rfl ?_
        refine rn ?_
        refine awp_seq ?_
        refine awp_seq ?_
        obtain ⟨o7, ho8, ho3⟩ := bi ho3
        refine awp_cut1 (fun x => x = o7) (fun (x3 : Bool) => ⟨[(0, .ptr 0 0), (1, .int .u64 most1), (5, .int .u64 u1), (6, .int .u64 p1), (7, .int .i64 i1), (8, .int .u8 (x2.toNat : Int)), (52, .bool x3)], [(0, 0, .sl (r1.B.map cU8)), (0, 1, .int .i64 (W (r2 + 1))), (0, 2, .int .i64 r1.Bad)], [], 1⟩) ?_ ?_
        · refine awp_region ?_
          refine rvs 3 rfl ?_
          refine gs rfl rfl rfl rfl rfl (fun hg => ?_) (fun hg => ?_)
          · have ho8 := cT hg ho8
            refine rv rfl rfl ?_
            refine gy rfl rfl rfl ?_
            refine rv rfl rfl ?_
            refine rv rfl rfl ?_
            refine rn ?_
            cases ho8
            exact cut_n [0] rfl rfl ⟨rfl, rfl, zA rfl rfl rfl (zA rfl rfl rfl (zA rfl rfl rfl (zA rfl rfl rfl (zA rfl rfl rfl (zA rfl rfl rfl (zA rfl rfl rfl (trivial))))))), zC rfl rfl rfl rfl (zC rfl rfl rfl rfl (zC rfl rfl rfl rfl (trivial))), trivial⟩
          · have ho8 := cF hg ho8
            refine gn rfl rfl rfl rfl rfl ?_
            refine rv rfl rfl ?_
            refine rn ?_
            cases ho8
            exact cut_n [0] rfl rfl ⟨rfl, rfl, zA rfl rfl rfl (zA rfl rfl rfl (zA rfl rfl rfl (zA rfl rfl rfl (zA rfl rfl rfl (zA rfl rfl rfl (zA rfl rfl rfl (trivial))))))), zC rfl rfl rfl rfl (zC rfl rfl rfl rfl (zC rfl rfl rfl rfl (trivial))), trivial⟩
        · rintro x3 rfl
          change awp _ _ _ _ _ ⟨_, _, _, _⟩
          refine cs_ rfl (fun hc => ?_) (fun hc => ?_)
          · have ho3 := cT hc ho3
            refine awp_seq ?_
            refine awp_region ?_
            refine rvs 3 rfl ?_
            refine rs rfl rfl rfl rfl rfl rfl rfl ?_
            refine rn ?_
            refine awp_seq ?_
            refine awp_region ?_
            refine rv rfl rfl ?_
            refine rn ?_
            refine awp_ret ?_
            cases ho3
            have hq := hE4 _ rfl
            subst hq
            have h := ksr h
            subst h
            repeat (first | refine then_ret ?_ | refine inBlock_ret ?_ | refine cut_r ?_)
            exact rrA (r := .int .u64 0) [0] [(0, 0, .sl (r1.B.map cU8)), (0, 1, .int .i64 (W (r2 + 1))), (0, 2, .int .i64 7)] [] rfl rfl rfl rfl (zC rfl rfl rfl rfl (zC rfl rfl rfl rfl (zC rfl rfl rfl rfl (trivial)))) (trivial) ⟨rfl, rfl, rfl, rfl⟩
          · have ho3 := cF hc ho3
            refine awp_skip ?_
            refine awp_seq ?_
            refine awp_region ?_
            refine rvs 3 rfl ?_
            obtain ⟨q1, hx9, ho3⟩ := bi ho3
            refine rV rfl (va_rem rfl rfl hx9) ?_
            refine rvs 4 rfl ?_
            obtain ⟨u3, hx10, ho3⟩ := bs ho3
            refine rt (ei' hx10) ?_
            refine rn ?_
            refine awp_seq ?_
            refine awp_region ?_
            refine rvs 3 rfl ?_
            obtain ⟨p3, hx11, ho3⟩ := bs ho3
            refine rt (ei' hx11) ?_
            refine rn ?_
            refine awp_seq ?_
            refine awp_seq ?_
            refine awp_region ?_
            refine rvs 2 rfl ?_
            refine rn ?_
            refine cs_ rfl (fun hc => ?_) (fun hc => ?_)
            · have ho3 := cT hc ho3
              refine awp_exit ?_
              repeat (first | refine then_exit ?_ | refine cut_x ?_ | refine inBlock_other rfl ?_)
              refine inBlock_exit ?_
              refine awp_region ?_
              refine rvs 3 rfl ?_
              refine rn ?_
              cases ho3
              exact lp_n [0] rfl rfl ⟨rfl, rfl, zA rfl rfl rfl (zA rfl rfl rfl (zA rfl rfl rfl (zA rfl rfl rfl (zA rfl rfl rfl (trivial))))), zC rfl rfl rfl rfl (zC rfl rfl rfl rfl (zC rfl rfl rfl rfl (trivial))), trivial⟩
            · have ho3 := cF hc ho3
              refine awp_skip ?_
              refine awp_seq ?_
              refine awp_seq ?_
              obtain ⟨o12, ho13, ho3⟩ := bi ho3
              refine awp_cut1 (fun x => x = o12) (fun (x4 : Bool) => ⟨[(0, .ptr 0 0), (5, .int .u64 u3), (77, .bool x4)], [(0, 0, .sl (r1.B.map cU8)), (0, 1, .int .i64 (W (r2 + 1))), (0, 2, .int .i64 r1.Bad)], [], 1⟩) ?_ ?_
              · refine awp_region ?_
                refine rvs 3 rfl ?_
                refine gs rfl rfl rfl rfl rfl (fun hg => ?_) (fun hg => ?_)
                · have ho13 := cT hg ho13
                  refine rv rfl rfl ?_
                  refine gy rfl rfl rfl ?_
                  refine rv rfl rfl ?_
                  refine rvs 2 rfl ?_
                  refine gs rfl rfl rfl rfl rfl (fun hg => ?_) (fun hg => ?_)
                  · have ho13 := cF hg ho13
                    refine rv rfl rfl ?_
                    refine gy rfl rfl rfl ?_
                    refine rv rfl rfl ?_
                    refine gy rfl rfl rfl ?_
                    refine rv rfl rfl ?_
                    refine rv rfl rfl ?_
                    refine rn ?_
                    cases ho13
                    exact cut_n [0] rfl rfl ⟨rfl, rfl, zA rfl rfl rfl (zA rfl rfl rfl (zA rfl rfl rfl (trivial))), zC rfl rfl rfl rfl (zC rfl rfl rfl rfl (zC rfl rfl rfl rfl (trivial))), trivial⟩
                  · have ho13 := cT hg ho13
                    refine gn rfl rfl rfl rfl rfl ?_
                    refine gn rfl rfl rfl rfl rfl ?_
                    refine rv rfl rfl ?_
                    refine rn ?_
                    cases ho13
                    exact cut_n [0] rfl rfl ⟨rfl, rfl, zA rfl rfl rfl (zA rfl rfl rfl (zA rfl rfl rfl (trivial))), zC rfl rfl rfl rfl (zC rfl rfl rfl rfl (zC rfl rfl rfl rfl (trivial))), trivial⟩
                · have ho13 := cF hg ho13
                  refine gn rfl rfl rfl rfl rfl ?_
                  refine rvs 2 rfl ?_
                  refine gy rfl rfl rfl ?_
                  refine rv rfl rfl ?_
                  refine gy rfl rfl rfl ?_
                  refine rv rfl rfl ?_
                  refine gy rfl rfl rfl ?_
                  refine rv rfl rfl ?_
                  refine rv rfl rfl ?_
                  refine rn ?_
                  cases ho13
                  exact cut_n [0] rfl rfl ⟨rfl, rfl, zA rfl rfl rfl (zA rfl rfl rfl (zA rfl rfl rfl (trivial))), zC rfl rfl rfl rfl (zC rfl rfl rfl rfl (zC rfl rfl rfl rfl (trivial))), trivial⟩
              · rintro x4 rfl
                change awp _ _ _ _ _ ⟨_, _, _, _⟩
                refine cs_ rfl (fun hc => ?_) (fun hc => ?_)
                · have ho3 := cT hc ho3
                  refine awp_seq ?_
                  refine awp_region ?_
                  refine rvs 3 rfl ?_
                  refine rs rfl rfl rfl rfl rfl rfl rfl ?_
                  refine rn ?_
                  refine awp_seq ?_
                  refine awp_region ?_
                  refine rv rfl rfl ?_
                  refine rn ?_
                  refine awp_ret ?_
                  cases ho3
                  have hq := hE4 _ rfl
                  subst hq
                  have h := ksr h
                  subst h
                  repeat (first | refine then_ret ?_ | refine inBlock_ret ?_ | refine cut_r ?_)
                  exact rrA (r := .int .u64 0) [0] [(0, 0, .sl (r1.B.map cU8)), (0, 1, .int .i64 (W (r2 + 1))), (0, 2, .int .i64 7)] [] rfl rfl rfl rfl (zC rfl rfl rfl rfl (zC rfl rfl rfl rfl (zC rfl rfl rfl rfl (trivial)))) (trivial) ⟨rfl, rfl, rfl, rfl⟩
                · have ho3 := cF hc ho3
                  refine awp_skip ?_
                  refine awp_seq ?_
                  refine awp_region ?_
                  refine rvs 2 rfl ?_
                  refine rn ?_
                  refine awp_ret ?_
                  cases ho3
                  have hq := hE4 _ rfl
                  subst hq
                  have h := ksr h
                  subst h
                  repeat (first | refine then_ret ?_ | refine inBlock_ret ?_ | refine cut_r ?_)
                  exact rrA (r := .int .u64 u3) [0] [(0, 0, .sl (r1.B.map cU8)), (0, 1, .int .i64 (W (r2 + 1))), (0, 2, .int .i64 r1.Bad)] [] rfl rfl rfl rfl (zC rfl rfl rfl rfl (zC rfl rfl rfl rfl (zC rfl rfl rfl rfl (trivial)))) (trivial) ⟨rfl, rfl, rfl, rfl⟩
    · have ho3 := cF hc ho3
      refine awp_exit ?_
      repeat (first | refine then_exit ?_ | refine cut_x ?_ | refine inBlock_other rfl ?_)
      refine inBlock_exit ?_
      cases ho3
      have hq := hE4 _ rfl
      subst hq
      exact cut_n [0] rfl rfl ⟨rfl, rfl, trivial, zC rfl rfl rfl rfl (zC rfl rfl rfl rfl (zC rfl rfl rfl rfl (trivial))), trivial⟩
  · rintro x1 rfl
    have h := ksl h
    refine awp_seq ?_
    refine awp_region ?_
    refine rv rfl rfl ?_
    refine rn ?_
    refine awp_ret ?_
    have h := Option.some.inj h
    subst h
    repeat (first | refine then_ret ?_ | refine inBlock_ret ?_ | refine cut_r ?_)
    exact rrA (r := .int .u64 0) [0] [(0, 0, .sl (r1.B.map cU8)), (0, 1, .int .i64 x1), (0, 2, .int .i64 r1.Bad)] [] rfl rfl rfl rfl (zC rfl rfl rfl rfl (zC rfl rfl rfl rfl (zC rfl rfl rfl rfl (trivial)))) (trivial) ⟨rfl, rfl, rfl, rfl⟩
end

/-- `(*plover/ploverref10.R).few` -/
def dref10_R_few (fu : Nat) (r1 : tref10R) : Option (Int × tref10R) :=
  (dref10_R_number fu r1 2147483647).bind fun x1 => some (W x1.1, x1.2)
section
attribute [local irreducible] awp aops DP PCall ACall Decidable.decide
theorem dref10_R_few_l {fu : Nat} {r1 : tref10R} {r : Int × tref10R} (h : dref10_R_few fu r1 = some r) : ACall Try.prog 60 1 [.ptr 0 0] [(0, 0, .sl (r1.B.map cU8)), (0, 1, .int .i64 r1.At), (0, 2, .int .i64 r1.Bad)] [] (fun r_ H_ O_ n_ => r_ = .int .i64 r.1 ∧ H_ = [(0, 0, .sl (r.2.B.map cU8)), (0, 1, .int .i64 r.2.At), (0, 2, .int .i64 r.2.Bad)] ∧ O_ = [] ∧ n_ = 1) := by
  rw [dref10_R_few] at h
  refine acall_body Try.func60 rfl (by kernel_rfl) (by rfl) ?_
  refine awp_seq ?_
  refine awp_region ?_
  refine rv rfl rfl ?_
  refine rn ?_
  refine awp_seq ?_
  refine awp_region ?_
  refine rv rfl rfl ?_
  obtain ⟨x1, hx1, h⟩ := bi h
  refine rh [0] rfl rfl (dref10_R_number_l hx1) rfl rfl rfl (zC rfl rfl rfl rfl (zC rfl rfl rfl rfl (zC rfl rfl rfl rfl (trivial)))) (trivial) ?_
  refine ek ?_
  refine as1 rfl ?_
  refine ae rfl rfl rfl ?_
  refine rvs 2 rfl ?_
  refine rn ?_
  refine awp_ret ?_
  have h := Option.some.inj h
  subst h
  repeat (first | refine then_ret ?_ | refine inBlock_ret ?_ | refine cut_r ?_)
  exact rrA (r := .int .i64 (W x1.1)) [0] [(0, 0, .sl (x1.2.B.map cU8)), (0, 1, .int .i64 x1.2.At), (0, 2, .int .i64 x1.2.Bad)] [] rfl rfl rfl rfl (zC rfl rfl rfl rfl (zC rfl rfl rfl rfl (zC rfl rfl rfl rfl (trivial)))) (trivial) ⟨rfl, rfl, rfl, rfl⟩
end

/-- `(*plover/ploverref10.R).signed` -/
def dref10_R_signed (fu : Nat) (r1 : tref10R) : Option (Int × tref10R) :=
  (dref10_R_number fu r1 18446744073709551615).bind fun u1 => (remV .u64 u1.1 2).bind fun q1 => bif (q1 == 1) then ((quoV .u64 u1.1 2).bind fun q2 => (some (W ((W (0 - (W q2))) - 1))).bind fun x1 => some (x1, u1.2)) else ((quoV .u64 u1.1 2).bind fun q3 => some (W q3, u1.2))
section
attribute [local irreducible] awp aops DP PCall ACall Decidable.decide
theorem dref10_R_signed_l {fu : Nat} {r1 : tref10R} {r : Int × tref10R} (h : dref10_R_signed fu r1 = some r) : ACall Try.prog 61 1 [.ptr 0 0] [(0, 0, .sl (r1.B.map cU8)), (0, 1, .int .i64 r1.At), (0, 2, .int .i64 r1.Bad)] [] (fun r_ H_ O_ n_ => r_ = .int .i64 r.1 ∧ H_ = [(0, 0, .sl (r.2.B.map cU8)), (0, 1, .int .i64 r.2.At), (0, 2, .int .i64 r.2.Bad)] ∧ O_ = [] ∧ n_ = 1) := by
  rw [dref10_R_signed] at h
  refine acall_body Try.func61 rfl (by kernel_rfl) (by rfl) ?_
  refine awp_seq ?_
  refine awp_region ?_
  refine rv rfl rfl ?_
  refine rn ?_
  refine awp_seq ?_
  refine awp_region ?_
  refine rv rfl rfl ?_
  obtain ⟨u1, hx1, h⟩ := bi h
  refine rh [0] rfl rfl (dref10_R_number_l hx1) rfl rfl rfl (zC rfl rfl rfl rfl (zC rfl rfl rfl rfl (zC rfl rfl rfl rfl (trivial)))) (trivial) ?_
  refine ek ?_
  refine as1 rfl ?_
  refine ae rfl rfl rfl ?_
  refine rv rfl rfl ?_
  refine rn ?_
  refine awp_seq ?_
  refine awp_seq ?_
  refine awp_region ?_
  refine rv rfl rfl ?_
  obtain ⟨q1, hx2, h⟩ := bi h
  refine rV rfl (va_rem rfl rfl hx2) ?_
  refine rv rfl rfl ?_
  refine rn ?_
  refine cs_ rfl (fun hc => ?_) (fun hc => ?_)
  · have h := cT hc h
    refine awp_seq ?_
    refine awp_region ?_
    refine rv rfl rfl ?_
    obtain ⟨q2, hx3, h⟩ := bi h
    refine rV rfl (va_quo rfl rfl hx3) ?_
    refine rvs 4 rfl ?_
    obtain ⟨x1, hx4, h⟩ := bs h
    refine rt (ei' hx4) ?_
    refine rn ?_
    refine awp_ret ?_
    have h := Option.some.inj h
    subst h
    repeat (first | refine then_ret ?_ | refine inBlock_ret ?_ | refine cut_r ?_)
    exact rrA (r := .int .i64 x1) [0] [(0, 0, .sl (u1.2.B.map cU8)), (0, 1, .int .i64 u1.2.At), (0, 2, .int .i64 u1.2.Bad)] [] rfl rfl rfl rfl (zC rfl rfl rfl rfl (zC rfl rfl rfl rfl (zC rfl rfl rfl rfl (trivial)))) (trivial) ⟨rfl, rfl, rfl, rfl⟩
  · have h := cF hc h
    refine awp_skip ?_
    refine awp_seq ?_
    refine awp_region ?_
    refine rv rfl rfl ?_
    obtain ⟨q3, hx5, h⟩ := bi h
    refine rV rfl (va_quo rfl rfl hx5) ?_
    refine rvs 2 rfl ?_
    refine rn ?_
    refine awp_ret ?_
    have h := Option.some.inj h
    subst h
    repeat (first | refine then_ret ?_ | refine inBlock_ret ?_ | refine cut_r ?_)
    exact rrA (r := .int .i64 (W q3)) [0] [(0, 0, .sl (u1.2.B.map cU8)), (0, 1, .int .i64 u1.2.At), (0, 2, .int .i64 u1.2.Bad)] [] rfl rfl rfl rfl (zC rfl rfl rfl rfl (zC rfl rfl rfl rfl (zC rfl rfl rfl rfl (trivial)))) (trivial) ⟨rfl, rfl, rfl, rfl⟩
end

/-- `(*plover/ploverref10.R).text` -/
def dref10_R_text (fu : Nat) (r1 : tref10R) (most1 : Int) : Option (Str × tref10R) :=
  (dref10_R_number fu r1 (IntKind.wrap .u64 most1)).bind fun n1 => (bif (n1.2.Bad == 0) then some (decide ((W n1.1) > (W ((n1.2.B.length : Int) - n1.2.At)))) else some false : Option Bool).bind fun (x1 : Bool) => ((bif x1 then some 6 else some n1.2.Bad : Option Int).bind fun (r2 : Int) => (bif (r2 != 0) then some ([], (tref10R.mk n1.2.B n1.2.At r2)) else ((gsl n1.2.B (W ((W (n1.2.At + (W n1.1))) - (W n1.1))) (W (n1.2.At + (W n1.1)))).bind fun l1 => some (l1, (tref10R.mk n1.2.B (W (n1.2.At + (W n1.1))) r2)))))
section
attribute [local irreducible] awp aops DP PCall ACall Decidable.decide
theorem dref10_R_text_l {fu : Nat} {r1 : tref10R} {most1 : Int} {r : Str × tref10R} (h : dref10_R_text fu r1 most1 = some r) : ACall Try.prog 62 1 [.ptr 0 0, .int .i64 most1] [(0, 0, .sl (r1.B.map cU8)), (0, 1, .int .i64 r1.At), (0, 2, .int .i64 r1.Bad)] [] (fun r_ H_ O_ n_ => r_ = .str (sB r.1) ∧ H_ = [(0, 0, .sl (r.2.B.map cU8)), (0, 1, .int .i64 r.2.At), (0, 2, .int .i64 r.2.Bad)] ∧ O_ = [] ∧ n_ = 1) := by
  rw [dref10_R_text] at h
  refine acall_body Try.func62 rfl (by kernel_rfl) (by rfl) ?_
  refine awp_seq ?_
  refine awp_region ?_
  refine rv rfl rfl ?_
  refine rn ?_
  refine awp_seq ?_
  refine awp_region ?_
  refine rvs 3 rfl ?_
  obtain ⟨n1, hx1, h⟩ := bi h
  refine rh [0] rfl rfl (dref10_R_number_l hx1) rfl rfl rfl (zC rfl rfl rfl rfl (zC rfl rfl rfl rfl (zC rfl rfl rfl rfl (trivial)))) (trivial) ?_
  refine ek ?_
  refine as1 rfl ?_
  refine ae rfl rfl rfl ?_
  refine rvs 2 rfl ?_
  refine rn ?_
  refine awp_seq ?_
  refine awp_seq ?_
  obtain ⟨o2, ho3, h⟩ := bi h
  refine awp_cut1 (fun x => x = o2) (fun (x1 : Bool) => ⟨[(0, .ptr 0 0), (5, .int .i64 (W n1.1)), (29, .bool x1)], [(0, 0, .sl (n1.2.B.map cU8)), (0, 1, .int .i64 n1.2.At), (0, 2, .int .i64 n1.2.Bad)], [], 1⟩) ?_ ?_
  · refine awp_dp (m := 19) Try.mix (by kernel_rfl) (by kernel_rfl) (by kernel_rfl) (by kernel_rfl) (by kernel_rfl) (by kernel_rfl) (by kernel_rfl) ?_
    refine dv rfl rfl (fun _ => rfl) ?_
    refine dv rfl rfl (fun _ => rfl) ?_
    refine dv rfl rfl (fun _ => rfl) ?_
    refine dv rfl rfl (fun _ => rfl) ?_
    refine dv rfl rfl (fun _ => rfl) ?_
    refine dv rfl rfl (fun _ => rfl) ?_
    refine ds rfl rfl (fun hg => ?_) (fun hg => ?_)
    · have ho3 := cT hg ho3
      refine dv rfl rfl (fun _ => rfl) ?_
      refine dv rfl rfl (fun _ => rfl) ?_
      refine dv rfl rfl (fun _ => rfl) ?_
      refine dv rfl rfl (fun _ => rfl) ?_
      refine dv rfl rfl (fun _ => rfl) ?_
      refine dv rfl rfl (fun _ => rfl) ?_
      refine dt ((lM cU8 n1.2.B)) ?_
      refine dv rfl rfl (fun _ => rfl) ?_
      refine dv rfl rfl (fun _ => rfl) ?_
      refine dv rfl rfl (fun _ => rfl) ?_
      refine dv rfl rfl (fun _ => rfl) ?_
      refine dv rfl rfl (fun _ => rfl) ?_
      refine dv rfl rfl (fun _ => rfl) ?_
      refine dv rfl rfl (fun _ => rfl) ?_
      refine dn ?_
      refine rn ?_
      cases ho3
      exact cut_n [0] rfl rfl ⟨rfl, rfl, zA rfl rfl rfl (zA rfl rfl rfl (zA rfl rfl rfl (trivial))), zC rfl rfl rfl rfl (zC rfl rfl rfl rfl (zC rfl rfl rfl rfl (trivial))), trivial⟩
    · have ho3 := cF hg ho3
      refine dno rfl rfl ?_
      refine dno rfl rfl ?_
      refine dno rfl rfl ?_
      refine dno rfl rfl ?_
      refine dno rfl rfl ?_
      refine dno rfl rfl ?_
      refine dno rfl rfl ?_
      refine dno rfl rfl ?_
      refine dno rfl rfl ?_
      refine dno rfl rfl ?_
      refine dno rfl rfl ?_
      refine dno rfl rfl ?_
      refine dv rfl rfl (fun _ => rfl) ?_
      refine dn ?_
      refine rn ?_
      cases ho3
      exact cut_n [0] rfl rfl ⟨rfl, rfl, zA rfl rfl rfl (zA rfl rfl rfl (zA rfl rfl rfl (trivial))), zC rfl rfl rfl rfl (zC rfl rfl rfl rfl (zC rfl rfl rfl rfl (trivial))), trivial⟩
  · rintro x1 rfl
    change awp _ _ _ _ _ ⟨_, _, _, _⟩
    obtain ⟨o4, ho5, h⟩ := bi h
    refine awp_cut1 (fun x => x = o4) (fun (r2 : Int) => ⟨[(0, .ptr 0 0), (5, .int .i64 (W n1.1))], [(0, 0, .sl (n1.2.B.map cU8)), (0, 1, .int .i64 n1.2.At), (0, 2, .int .i64 r2)], [], 1⟩) ?_ ?_
    · refine cs_ rfl (fun hc => ?_) (fun hc => ?_)
      · have ho5 := cT hc ho5
        refine awp_region ?_
        refine rvs 3 rfl ?_
        refine rs rfl rfl rfl rfl rfl rfl rfl ?_
        refine rn ?_
        cases ho5
        exact cut_n [0] rfl rfl ⟨rfl, rfl, zA rfl rfl rfl (zA rfl rfl rfl (trivial)), zC rfl rfl rfl rfl (zC rfl rfl rfl rfl (zC rfl rfl rfl rfl (trivial))), trivial⟩
      · have ho5 := cF hc ho5
        refine awp_skip ?_
        cases ho5
        exact cut_n [0] rfl rfl ⟨rfl, rfl, zA rfl rfl rfl (zA rfl rfl rfl (trivial)), zC rfl rfl rfl rfl (zC rfl rfl rfl rfl (zC rfl rfl rfl rfl (trivial))), trivial⟩
    · rintro r2 rfl
      change awp _ _ _ _ _ ⟨_, _, _, _⟩
      refine awp_seq ?_
      refine awp_seq ?_
      refine awp_region ?_
      refine rvs 5 rfl ?_
      refine rn ?_
      refine cs_ rfl (fun hc => ?_) (fun hc => ?_)
      · have h := cT hc h
        refine awp_seq ?_
        refine awp_region ?_
        refine rv rfl rfl ?_
        refine rn ?_
        refine awp_ret ?_
        have h := Option.some.inj h
        subst h
        repeat (first | refine then_ret ?_ | refine inBlock_ret ?_ | refine cut_r ?_)
        exact rrA (r := .str (sB [])) [0] [(0, 0, .sl (n1.2.B.map cU8)), (0, 1, .int .i64 n1.2.At), (0, 2, .int .i64 r2)] [] rfl rfl rfl rfl (zC rfl rfl rfl rfl (zC rfl rfl rfl rfl (zC rfl rfl rfl rfl (trivial)))) (trivial) ⟨rfl, rfl, rfl, rfl⟩
      · have h := cF hc h
        refine awp_skip ?_
        refine awp_seq ?_
        refine awp_region ?_
        refine rvs 9 rfl ?_
        refine rs rfl rfl rfl rfl rfl rfl rfl ?_
        refine rn ?_
        refine awp_seq ?_
        refine awp_dp (m := 16) Try.mix (by kernel_rfl) (by kernel_rfl) (by kernel_rfl) (by kernel_rfl) (by kernel_rfl) (by kernel_rfl) (by kernel_rfl) ?_
        refine dv rfl rfl (fun _ => rfl) ?_
        refine dv rfl rfl (fun _ => rfl) ?_
        refine dv rfl rfl (fun _ => rfl) ?_
        refine dv rfl rfl (fun _ => rfl) ?_
        refine dv rfl rfl (fun _ => rfl) ?_
        refine dv rfl rfl (fun _ => rfl) ?_
        refine dv rfl rfl (fun _ => rfl) ?_
        refine dv rfl rfl (fun _ => rfl) ?_
        refine dv rfl rfl (fun _ => rfl) ?_
        refine dv rfl rfl (fun _ => rfl) ?_
        refine dv rfl rfl (fun _ => rfl) ?_
        refine dv rfl rfl (fun _ => rfl) ?_
        refine dv rfl rfl (fun _ => rfl) ?_
        refine dv rfl rfl (fun _ => rfl) ?_
        obtain ⟨l1, hx6, h⟩ := bi h
        refine dV rfl rfl (fun _ => va_slsub (c := cU8) rfl rfl rfl rfl ⟨_, rfl⟩ ⟨_, rfl⟩ hx6 (fun _ => rfl)) ?_
        refine dV rfl rfl (fun _ => va_textS (l := l1) rfl rfl rfl rfl rfl rfl rfl rfl) ?_
        refine dn ?_
        refine rv rfl rfl ?_
        refine rn ?_
        refine awp_ret ?_
        have h := Option.some.inj h
        subst h
        repeat (first | refine then_ret ?_ | refine inBlock_ret ?_ | refine cut_r ?_)
        exact rrA (r := .str (sB l1)) [0] [(0, 0, .sl (n1.2.B.map cU8)), (0, 1, .int .i64 (W (n1.2.At + (W n1.1)))), (0, 2, .int .i64 r2)] [] rfl rfl rfl rfl (zC rfl rfl rfl rfl (zC rfl rfl rfl rfl (zC rfl rfl rfl rfl (trivial)))) (trivial) ⟨rfl, rfl, rfl, rfl⟩
end

/-- `(*plover/ploverref10.R).event` -/
def dref10_R_event (fu : Nat) (r1 : tref10R) : Option (tEvent × tref10R) :=
  (dref10_R_few fu r1).bind fun x1 => (dref10_R_number fu x1.2 4294967295).bind fun x2 => (dref10_R_signed fu x2.2).bind fun x3 => (dref10_R_signed fu x3.2).bind fun x4 => (dref10_R_number fu x4.2 16).bind fun n1 => (loopD (ε := Int × Str × Int × Int × (List tAttr)) (τ := Str × Int × Int × (List tAttr)) (fun (((i1, r2, r3, r4, l1)) : Int × Str × Int × Int × (List tAttr)) => ((bif (decide (i1 < (W n1.1))) then some (r4 == 0) else some false : Option Bool).bind fun (x8 : Bool) => (bif x8 then ((dref10_R_text fu (tref10R.mk r2 r3 r4) 200).bind fun x9 => (dref10_R_number fu x9.2 1).bind fun x10 => (bif (x10.1 == 1) then ((dref10_R_text fu x10.2 200).bind fun x11 => some (x11.2.B, x11.2.At, x11.2.Bad, true, 0, x11.1)) else ((dref10_R_signed fu x10.2).bind fun x12 => some (x12.2.B, x12.2.At, x12.2.Bad, false, x12.1, [])) : Option (Str × Int × Int × Bool × Int × Str)).bind fun (((r8, r9, r10, a1, a2, a3)) : Str × Int × Int × Bool × Int × Str) => ((ap l1 [(tAttr.mk x9.1 a1 a2 a3)]).bind fun l4 => some (Sum.inl (W (i1 + 1), r8, r9, r10, l4)))) else some (Sum.inr (r2, r3, r4, l1))))) fu (0, n1.2.B, n1.2.At, n1.2.Bad, [])).bind fun (((x5, x6, x7, l3)) : Str × Int × Int × (List tAttr)) => some ((tEvent.mk x1.1 (IntKind.wrap .u32 x2.1) (tPoint.mk x3.1 x4.1) l3), (tref10R.mk x5 x6 x7))
section
attribute [local irreducible] awp aops DP PCall ACall Decidable.decide
theorem dref10_R_event_l {fu : Nat} {r1 : tref10R} {r : tEvent × tref10R} (h : dref10_R_event fu r1 = some r) : ACall Try.prog 63 1 [.ptr 0 0] [(0, 0, .sl (r1.B.map cU8)), (0, 1, .int .i64 r1.At), (0, 2, .int .i64 r1.Bad)] [] (fun r_ H_ O_ n_ => r_ = .agg [.int .i64 r.1.Pub, .int .u32 r.1.Seq, .int .i64 r.1.At.X, .int .i64 r.1.At.Y, .sl (r.1.Attrs.map c_tAttr)] ∧ H_ = [(0, 0, .sl (r.2.B.map cU8)), (0, 1, .int .i64 r.2.At), (0, 2, .int .i64 r.2.Bad)] ∧ O_ = [] ∧ n_ = 1) := by
  rw [dref10_R_event] at h
  refine acall_body Try.func63 rfl (by kernel_rfl) (by rfl) ?_
  refine awp_seq ?_
  refine awp_region ?_
  refine ra rfl rfl rfl ?_
  refine rn ?_
  refine awp_seq ?_
  refine awp_region ?_
  refine ra rfl rfl rfl ?_
  refine rn ?_
  refine awp_seq ?_
  refine awp_region ?_
  refine rv rfl rfl ?_
  obtain ⟨x1, hx1, h⟩ := bi h
  refine rh [0] rfl rfl (dref10_R_few_l hx1) rfl rfl rfl (zC rfl rfl rfl rfl (zC rfl rfl rfl rfl (zC rfl rfl rfl rfl (trivial)))) (trivial) ?_
  refine ek ?_
  refine as1 rfl ?_
  refine ae rfl rfl rfl ?_
  refine rv rfl rfl ?_
  refine rs rfl rfl rfl rfl rfl rfl rfl ?_
  refine rn ?_
  refine awp_seq ?_
  refine awp_region ?_
  refine rv rfl rfl ?_
  obtain ⟨x2, hx2, h⟩ := bi h
  refine rh [0] rfl rfl (dref10_R_number_l hx2) rfl rfl rfl (zC rfl rfl rfl rfl (zC rfl rfl rfl rfl (zC rfl rfl rfl rfl (trivial)))) (trivial) ?_
  refine ek ?_
  refine as1 rfl ?_
  refine ae rfl rfl rfl ?_
  refine rvs 2 rfl ?_
  refine rs rfl rfl rfl rfl rfl rfl rfl ?_
  refine rn ?_
  refine awp_seq ?_
  refine awp_region ?_
  refine rv rfl rfl ?_
  obtain ⟨x3, hx3, h⟩ := bi h
  refine rh [0] rfl rfl (dref10_R_signed_l hx3) rfl rfl rfl (zC rfl rfl rfl rfl (zC rfl rfl rfl rfl (zC rfl rfl rfl rfl (trivial)))) (trivial) ?_
  refine ek ?_
  refine as1 rfl ?_
  refine ae rfl rfl rfl ?_
  refine rvs 2 rfl ?_
  refine rs rfl rfl rfl rfl rfl rfl rfl ?_
  refine rn ?_
  refine awp_seq ?_
  refine awp_region ?_
  refine rv rfl rfl ?_
  obtain ⟨x4, hx4, h⟩ := bi h
  refine rh [0] rfl rfl (dref10_R_signed_l hx4) rfl rfl rfl (zC rfl rfl rfl rfl (zC rfl rfl rfl rfl (zC rfl rfl rfl rfl (trivial)))) (trivial) ?_
  refine ek ?_
  refine as1 rfl ?_
  refine ae rfl rfl rfl ?_
  refine rvs 2 rfl ?_
  refine rs rfl rfl rfl rfl rfl rfl rfl ?_
  refine rn ?_
  refine awp_seq ?_
  refine awp_region ?_
  refine rv rfl rfl ?_
  obtain ⟨n1, hx5, h⟩ := bi h
  refine rh [0] rfl rfl (dref10_R_number_l hx5) rfl rfl rfl (zC rfl rfl rfl rfl (zC rfl rfl rfl rfl (zC rfl rfl rfl rfl (trivial)))) (trivial) ?_
  refine ek ?_
  refine as1 rfl ?_
  refine ae rfl rfl rfl ?_
  refine rvs 2 rfl ?_
  refine rn ?_
  refine awp_seq ?_
  refine awp_seq ?_
  refine awp_region ?_
  refine rv rfl rfl ?_
  refine rn ?_
  refine awp_conv (fun _ _ _ _ _ hi => nilS_cell false 4 2 4 rfl hi) ?_
  obtain ⟨e6, hl7, h⟩ := bi h
  refine awp_cut1 (fun x => x = e6) (fun (((x5, x6, x7, l3)) : Str × Int × Int × (List tAttr)) => ⟨[(2, .ptr 1 0), (3, .ptr 2 0)], [(0, 0, .sl (x5.map cU8)), (0, 1, .int .i64 x6), (0, 2, .int .i64 x7), (1, 0, .int .i64 0), (1, 1, .int .u32 0), (1, 2, .int .i64 0), (1, 3, .int .i64 0), (1, 4, .nilS), (2, 0, .int .i64 x1.1), (2, 1, .int .u32 (IntKind.wrap .u32 x2.1)), (2, 2, .int .i64 x3.1), (2, 3, .int .i64 x4.1), (2, 4, .own 3)], [(3, .row 4 (l3.map c_tAttr))], 4⟩) ?_ ?_
  · refine awp_block ?_
    refine awp_loopD hl7 (fun (((i1, r2, r3, r4, l1)) : Int × Str × Int × Int × (List tAttr)) => ⟨[(0, .ptr 0 0), (2, .ptr 1 0), (3, .ptr 2 0), (4, .int .i64 (W n1.1)), (5, .int .i64 i1)], [(0, 0, .sl (r2.map cU8)), (0, 1, .int .i64 r3), (0, 2, .int .i64 r4), (1, 0, .int .i64 0), (1, 1, .int .u32 0), (1, 2, .int .i64 0), (1, 3, .int .i64 0), (1, 4, .nilS), (2, 0, .int .i64 x1.1), (2, 1, .int .u32 (IntKind.wrap .u32 x2.1)), (2, 2, .int .i64 x3.1), (2, 3, .int .i64 x4.1), (2, 4, .own 3)], [(3, .row 4 (l1.map c_tAttr))], 4⟩) [0, 1, 2, 3] rfl ⟨rfl, rfl, zA rfl rfl rfl (zA rfl rfl rfl (zA rfl rfl rfl (zA rfl rfl rfl (zA rfl rfl rfl (trivial))))), zC rfl rfl rfl rfl (zC rfl rfl rfl rfl (zC rfl rfl rfl rfl (zC rfl rfl rfl rfl (zC rfl rfl rfl rfl (zC rfl rfl rfl rfl (zC rfl rfl rfl rfl (zC rfl rfl rfl rfl (zC rfl rfl rfl rfl (zC rfl rfl rfl rfl (zC rfl rfl rfl rfl (zC rfl rfl rfl rfl (zC rfl rfl rfl rfl (trivial))))))))))))), zE rfl .row rfl (trivial)⟩ ?_
    intro v o10 ho8 hE9
    obtain ⟨i1, r2, r3, r4, l1⟩ := v
    change awp _ _ _ _ _ ⟨_, _, _, _⟩
    refine awp_seq ?_
    refine awp_seq ?_
    obtain ⟨o11, ho12, ho8⟩ := bi ho8
    refine awp_cut1 (fun x => x = o11) (fun (x8 : Bool) => ⟨[(0, .ptr 0 0), (2, .ptr 1 0), (3, .ptr 2 0), (4, .int .i64 (W n1.1)), (5, .int .i64 i1), (34, .bool x8)], [(0, 0, .sl (r2.map cU8)), (0, 1, .int .i64 r3), (0, 2, .int .i64 r4), (1, 0, .int .i64 0), (1, 1, .int .u32 0), (1, 2, .int .i64 0), (1, 3, .int .i64 0), (1, 4, .nilS), (2, 0, .int .i64 x1.1), (2, 1, .int .u32 (IntKind.wrap .u32 x2.1)), (2, 2, .int .i64 x3.1), (2, 3, .int .i64 x4.1), (2, 4, .own 3)], [(3, .row 4 (l1.map c_tAttr))], 4⟩) ?_ ?_
    · refine awp_region ?_
      refine rvs 4 rfl ?_
      refine gs rfl rfl rfl rfl rfl (fun hg => ?_) (fun hg => ?_)
      · have ho12 := cT hg ho12
        refine rv rfl rfl ?_
        refine gy rfl rfl rfl ?_
        refine rv rfl rfl ?_
        refine gy rfl rfl rfl ?_
        refine rv rfl rfl ?_
        refine gy rfl rfl rfl ?_
        refine rv rfl rfl ?_
        refine gy rfl rfl rfl ?_
        refine rv rfl rfl ?_
        refine rv rfl rfl ?_
        refine rn ?_
        cases ho12
        exact cut_n [0, 1, 2, 3] rfl rfl ⟨rfl, rfl, zA rfl rfl rfl (zA rfl rfl rfl (zA rfl rfl rfl (zA rfl rfl rfl (zA rfl rfl rfl (zA rfl rfl rfl (trivial)))))), zC rfl rfl rfl rfl (zC rfl rfl rfl rfl (zC rfl rfl rfl rfl (zC rfl rfl rfl rfl (zC rfl rfl rfl rfl (zC rfl rfl rfl rfl (zC rfl rfl rfl rfl (zC rfl rfl rfl rfl (zC rfl rfl rfl rfl (zC rfl rfl rfl rfl (zC rfl rfl rfl rfl (zC rfl rfl rfl rfl (zC rfl rfl rfl rfl (trivial))))))))))))), zE rfl .row rfl (trivial)⟩
      · have ho12 := cF hg ho12
        refine gn rfl rfl rfl rfl rfl ?_
        refine gn rfl rfl rfl rfl rfl ?_
        refine gn rfl rfl rfl rfl rfl ?_
        refine gn rfl rfl rfl rfl rfl ?_
        refine rv rfl rfl ?_
        refine rn ?_
        cases ho12
        exact cut_n [0, 1, 2, 3] rfl rfl ⟨rfl, rfl, zA rfl rfl rfl (zA rfl rfl rfl (zA rfl rfl rfl (zA rfl rfl rfl (zA rfl rfl rfl (zA rfl rfl rfl (trivial)))))), zC rfl rfl rfl rfl (zC rfl rfl rfl rfl (zC rfl rfl rfl rfl (zC rfl rfl rfl rfl (zC rfl rfl rfl rfl (zC rfl rfl rfl rfl (zC rfl rfl rfl rfl (zC rfl rfl rfl rfl (zC rfl rfl rfl rfl (zC rfl rfl rfl rfl (zC rfl rfl rfl rfl (zC rfl rfl rfl rfl (zC rfl rfl rfl rfl (trivial))))))))))))), zE rfl .row rfl (trivial)⟩
    · rintro x8 rfl
      change awp _ _ _ _ _ ⟨_, _, _, _⟩
      refine cs_ rfl (fun hc => ?_) (fun hc => ?_)
      · have ho8 := cT hc ho8
        refine awp_skip ?_
        refine awp_seq ?_
        refine awp_block ?_
        refine awp_seq ?_
        refine awp_region ?_
        refine ra rfl rfl rfl ?_
        refine rn ?_
        refine awp_seq ?_
        refine awp_region ?_
        refine rv rfl rfl ?_
        obtain ⟨x9, hx13, ho8⟩ := bi ho8
        refine rh [0] rfl rfl (dref10_R_text_l hx13) rfl rfl rfl (zC rfl rfl rfl rfl (zC rfl rfl rfl rfl (zC rfl rfl rfl rfl (trivial)))) (trivial) ?_
        refine ek ?_
        refine as1 rfl ?_
        refine ae rfl rfl rfl ?_
        refine rv rfl rfl ?_
        refine rs rfl rfl rfl rfl rfl rfl rfl ?_
        refine rn ?_
        refine awp_seq ?_
        refine awp_seq ?_
        refine awp_region ?_
        refine rv rfl rfl ?_
        obtain ⟨x10, hx14, ho8⟩ := bi ho8
        refine rh [0] rfl rfl (dref10_R_number_l hx14) rfl rfl rfl (zC rfl rfl rfl rfl (zC rfl rfl rfl rfl (zC rfl rfl rfl rfl (trivial)))) (trivial) ?_
        refine ek ?_
        refine as1 rfl ?_
        refine ae rfl rfl rfl ?_
        refine rv rfl rfl ?_
        refine rn ?_
        obtain ⟨o15, ho16, ho8⟩ := bi ho8
        refine awp_cut1 (fun x => x = o15) (fun (((r8, r9, r10, a1, a2, a3)) : Str × Int × Int × Bool × Int × Str) => ⟨[(0, .ptr 0 0), (2, .ptr 1 0), (3, .ptr 2 0), (4, .int .i64 (W n1.1)), (5, .int .i64 i1), (6, .ptr 3 0)], [(0, 0, .sl (r8.map cU8)), (0, 1, .int .i64 r9), (0, 2, .int .i64 r10), (1, 0, .int .i64 0), (1, 1, .int .u32 0), (1, 2, .int .i64 0), (1, 3, .int .i64 0), (1, 4, .nilS), (2, 0, .int .i64 x1.1), (2, 1, .int .u32 (IntKind.wrap .u32 x2.1)), (2, 2, .int .i64 x3.1), (2, 3, .int .i64 x4.1), (2, 4, .own 4), (3, 0, .str (sB x9.1)), (3, 1, .bool a1), (3, 2, .int .i64 a2), (3, 3, .str (sB a3))], [(4, .row 4 (l1.map c_tAttr))], 5⟩) ?_ ?_
        · refine cs_ rfl (fun hc => ?_) (fun hc => ?_)
          · have ho16 := cT hc ho16
            refine awp_seq ?_
            refine awp_region ?_
            refine rv rfl rfl ?_
            refine rs rfl rfl rfl rfl rfl rfl rfl ?_
            refine rn ?_
            refine awp_region ?_
            refine rv rfl rfl ?_
            obtain ⟨x11, hx17, ho16⟩ := bi ho16
            refine rh [0] rfl rfl (dref10_R_text_l hx17) rfl rfl rfl (zC rfl rfl rfl rfl (zC rfl rfl rfl rfl (zC rfl rfl rfl rfl (trivial)))) (trivial) ?_
            refine ek ?_
            refine as1 rfl ?_
            refine ae rfl rfl rfl ?_
            refine rv rfl rfl ?_
            refine rs rfl rfl rfl rfl rfl rfl rfl ?_
            refine rn ?_
            cases ho16
            exact cut_n [0, 1, 2, 4, 3] rfl rfl ⟨rfl, rfl, zA rfl rfl rfl (zA rfl rfl rfl (zA rfl rfl rfl (zA rfl rfl rfl (zA rfl rfl rfl (zA rfl rfl rfl (trivial)))))), zC rfl rfl rfl rfl (zC rfl rfl rfl rfl (zC rfl rfl rfl rfl (zC rfl rfl rfl rfl (zC rfl rfl rfl rfl (zC rfl rfl rfl rfl (zC rfl rfl rfl rfl (zC rfl rfl rfl rfl (zC rfl rfl rfl rfl (zC rfl rfl rfl rfl (zC rfl rfl rfl rfl (zC rfl rfl rfl rfl (zC rfl rfl rfl rfl (zC rfl rfl rfl rfl (zC rfl rfl rfl rfl (zC rfl rfl rfl rfl (zC rfl rfl rfl rfl (trivial))))))))))))))))), zE rfl .row rfl (trivial)⟩
          · have ho16 := cF hc ho16
            refine awp_region ?_
            refine rv rfl rfl ?_
            obtain ⟨x12, hx18, ho16⟩ := bi ho16
            refine rh [0] rfl rfl (dref10_R_signed_l hx18) rfl rfl rfl (zC rfl rfl rfl rfl (zC rfl rfl rfl rfl (zC rfl rfl rfl rfl (trivial)))) (trivial) ?_
            refine ek ?_
            refine as1 rfl ?_
            refine ae rfl rfl rfl ?_
            refine rv rfl rfl ?_
            refine rs rfl rfl rfl rfl rfl rfl rfl ?_
            refine rn ?_
            cases ho16
            exact cut_n [0, 1, 2, 4, 3] rfl rfl ⟨rfl, rfl, zA rfl rfl rfl (zA rfl rfl rfl (zA rfl rfl rfl (zA rfl rfl rfl (zA rfl rfl rfl (zA rfl rfl rfl (trivial)))))), zC rfl rfl rfl rfl (zC rfl rfl rfl rfl (zC rfl rfl rfl rfl (zC rfl rfl rfl rfl (zC rfl rfl rfl rfl (zC rfl rfl rfl rfl (zC rfl rfl rfl rfl (zC rfl rfl rfl rfl (zC rfl rfl rfl rfl (zC rfl rfl rfl rfl (zC rfl rfl rfl rfl (zC rfl rfl rfl rfl (zC rfl rfl rfl rfl (zC rfl rfl rfl rfl (zC rfl rfl rfl rfl (zC rfl rfl rfl rfl (zC rfl rfl rfl rfl (trivial))))))))))))))))), zE rfl .row rfl (trivial)⟩
        · rintro ⟨r8, r9, r10, a1, a2, a3⟩ rfl
          change awp _ _ _ _ _ ⟨_, _, _, _⟩
          refine awp_region ?_
          refine rvs 3 rfl ?_
          refine rbs false rfl rfl rfl rfl rfl rfl rfl rfl rfl rfl ?_
          obtain ⟨l4, hx19, ho8⟩ := bi ho8
          refine rap false (xs := l1.map c_tAttr) (ys := [(tAttr.mk x9.1 a1 a2 a3)].map c_tAttr) rfl rfl rfl rfl rfl rfl rfl (.own rfl rfl) (.sl rfl rfl rfl) (wM (fun _ => by rfl) _) (oM (fun _ => by rfl) _) (apB c_tAttr rfl hx19) rfl ?_
          refine rk (congrArg (Kind.row _) (apM c_tAttr hx19)) ?_
          refine rv rfl rfl ?_
          refine rs rfl rfl rfl rfl rfl rfl rfl ?_
          refine rn ?_
          refine inBlock_normal ?_
          refine awp_region ?_
          refine rvs 3 rfl ?_
          refine rn ?_
          cases ho8
          exact lp_n [0, 1, 2, 6] rfl rfl ⟨rfl, rfl, zA rfl rfl rfl (zA rfl rfl rfl (zA rfl rfl rfl (zA rfl rfl rfl (zA rfl rfl rfl (trivial))))), zC rfl rfl rfl rfl (zC rfl rfl rfl rfl (zC rfl rfl rfl rfl (zC rfl rfl rfl rfl (zC rfl rfl rfl rfl (zC rfl rfl rfl rfl (zC rfl rfl rfl rfl (zC rfl rfl rfl rfl (zC rfl rfl rfl rfl (zC rfl rfl rfl rfl (zC rfl rfl rfl rfl (zC rfl rfl rfl rfl (zC rfl rfl rfl rfl (trivial))))))))))))), zE rfl .row rfl (trivial)⟩
      · have ho8 := cF hc ho8
        refine awp_exit ?_
        repeat (first | refine then_exit ?_ | refine cut_x ?_ | refine inBlock_other rfl ?_)
        refine inBlock_exit ?_
        cases ho8
        have hq := hE9 _ rfl
        subst hq
        exact cut_n [0, 1, 2, 3] rfl rfl ⟨rfl, rfl, zA rfl rfl rfl (zA rfl rfl rfl (trivial)), zC rfl rfl rfl rfl (zC rfl rfl rfl rfl (zC rfl rfl rfl rfl (zC rfl rfl rfl rfl (zC rfl rfl rfl rfl (zC rfl rfl rfl rfl (zC rfl rfl rfl rfl (zC rfl rfl rfl rfl (zC rfl rfl rfl rfl (zC rfl rfl rfl rfl (zC rfl rfl rfl rfl (zC rfl rfl rfl rfl (zC rfl rfl rfl rfl (trivial))))))))))))), zE rfl .row rfl (trivial)⟩
  · rintro ⟨x5, x6, x7, l3⟩ rfl
    refine awp_seq ?_
    refine awp_region ?_
    refine rv rfl rfl ?_
    refine rs rfl rfl rfl rfl rfl rfl rfl ?_
    refine rn ?_
    refine awp_ret ?_
    have h := Option.some.inj h
    subst h
    repeat (first | refine then_ret ?_ | refine inBlock_ret ?_ | refine cut_r ?_)
    exact rrA (r := .agg [.int .i64 x1.1, .int .u32 (IntKind.wrap .u32 x2.1), .int .i64 x3.1, .int .i64 x4.1, .sl (l3.map c_tAttr)]) [0] [(0, 0, .sl (x5.map cU8)), (0, 1, .int .i64 x6), (0, 2, .int .i64 x7)] [] rfl rfl rfl rfl (zC rfl rfl rfl rfl (zC rfl rfl rfl rfl (zC rfl rfl rfl rfl (trivial)))) (trivial) ⟨rfl, rfl, rfl, rfl⟩
end

/-- `plover/ploverref10.Get` -/
def dref10_Get (fu : Nat) (b1 : Str) : Option (tMsg × Int) :=
  (dref10_R_number fu (tref10R.mk b1 0 0) 4).bind fun x1 => (bif (x1.2.Bad == 0) then some ((W x1.1) == 0) else some false : Option Bool).bind fun (x2 : Bool) => ((bif x2 then some 7 else some x1.2.Bad : Option Int).bind fun (r1 : Int) => ((bif ((W x1.1) == 1) then ((dref10_R_few fu (tref10R.mk x1.2.B x1.2.At r1)).bind fun x3 => (dref10_R_few fu x3.2).bind fun x4 => (dref10_R_few fu x4.2).bind fun x5 => (dref10_R_signed fu x5.2).bind fun x6 => (dref10_R_signed fu x6.2).bind fun x7 => (dref10_R_signed fu x7.2).bind fun x8 => (dref10_R_signed fu x8.2).bind fun x9 => (dref10_R_text fu x9.2 500).bind fun x10 => some (x10.2.B, x10.2.At, x10.2.Bad, x3.1, x4.1, x5.1, x6.1, x7.1, x8.1, x9.1, x10.1, 0, 0, 0, 0, [])) else (bif ((W x1.1) == 2) then ((dref10_R_few fu (tref10R.mk x1.2.B x1.2.At r1)).bind fun x11 => (dref10_R_few fu x11.2).bind fun x12 => some (x12.2.B, x12.2.At, x12.2.Bad, x11.1, x12.1, 0, 0, 0, 0, 0, [], 0, 0, 0, 0, [])) else (bif ((W x1.1) == 4) then ((dref10_R_few fu (tref10R.mk x1.2.B x1.2.At r1)).bind fun x13 => (dref10_R_event fu x13.2).bind fun x14 => some (x14.2.B, x14.2.At, x14.2.Bad, x13.1, 0, 0, 0, 0, 0, 0, [], x14.1.Pub, x14.1.Seq, x14.1.At.X, x14.1.At.Y, x14.1.Attrs)) else ((dref10_R_event fu (tref10R.mk x1.2.B x1.2.At r1)).bind fun x15 => some (x15.2.B, x15.2.At, x15.2.Bad, 0, 0, 0, 0, 0, 0, 0, [], x15.1.Pub, x15.1.Seq, x15.1.At.X, x15.1.At.Y, x15.1.Attrs)))) : Option (Str × Int × Int × Int × Int × Int × Int × Int × Int × Int × Str × Int × Int × Int × Int × (List tAttr))).bind fun (((r2, r3, r4, m1, m2, m3, m4, m5, m6, m7, m8, m9, m10, m11, m12, m13)) : Str × Int × Int × Int × Int × Int × Int × Int × Int × Int × Str × Int × Int × Int × Int × (List tAttr)) => ((dref10_May fu (tMsg.mk (W x1.1) m1 m2 m3 (tRect.mk m4 m5 m6 m7) m8 (tEvent.mk m9 m10 (tPoint.mk m11 m12) m13))).bind fun may1 => (bif (r4 == 0) then (bif (decide (r3 < (b1.length : Int))) then some true else some (!may1)) else some false : Option Bool).bind fun (x16 : Bool) => ((bif x16 then some 7 else some r4 : Option Int).bind fun (r5 : Int) => (bif (r5 != 0) then some ((tMsg.mk 0 0 0 0 (tRect.mk 0 0 0 0) [] (tEvent.mk 0 0 (tPoint.mk 0 0) [])), r5) else some ((tMsg.mk (W x1.1) m1 m2 m3 (tRect.mk m4 m5 m6 m7) m8 (tEvent.mk m9 m10 (tPoint.mk m11 m12) m13)), 0))))))
section
attribute [local irreducible] awp aops DP PCall ACall Decidable.decide
theorem dref10_Get_l {fu : Nat} {b1 : Str} {r : tMsg × Int} (h : dref10_Get fu b1 = some r) : PCall Try.prog 34 [.sl (b1.map cU8)] (· = .tup [.agg [.int .i64 r.1.Kind, .int .i64 r.1.Sub, .int .i64 r.1.Version, .int .i64 r.1.Home, .int .i64 r.1.Rect.X1, .int .i64 r.1.Rect.Y1, .int .i64 r.1.Rect.X2, .int .i64 r.1.Rect.Y2, .str (sB r.1.Filter), .int .i64 r.1.Event.Pub, .int .u32 r.1.Event.Seq, .int .i64 r.1.Event.At.X, .int .i64 r.1.Event.At.Y, .sl (r.1.Event.Attrs.map c_tAttr)], .int .i64 r.2]) := by
  rw [dref10_Get] at h
  refine pcall_body Try.func34 rfl (by kernel_rfl) (by rfl) ?_
  refine awp_seq ?_
  refine awp_region ?_
  refine ra rfl rfl rfl ?_
  refine rv rfl rfl ?_
  refine rn ?_
  refine awp_seq ?_
  refine awp_region ?_
  refine rvs 2 rfl ?_
  refine rb rfl rfl ?_
  refine rv rfl rfl ?_
  refine rn ?_
  refine awp_seq ?_
  refine awp_region ?_
  refine ra rfl rfl rfl ?_
  refine rn ?_
  refine awp_seq ?_
  refine awp_region ?_
  refine rv rfl rfl ?_
  obtain ⟨x1, hx1, h⟩ := bi h
  refine rh [1] rfl rfl (dref10_R_number_l hx1) rfl rfl rfl (zC rfl rfl rfl rfl (zC rfl rfl rfl rfl (zC rfl rfl rfl rfl (trivial)))) (trivial) ?_
  refine ek ?_
  refine as1 rfl ?_
  refine ae rfl rfl rfl ?_
  refine rvs 2 rfl ?_
  refine rs rfl rfl rfl rfl rfl rfl rfl ?_
  refine rn ?_
  refine awp_seq ?_
  refine awp_seq ?_
  obtain ⟨o2, ho3, h⟩ := bi h
  refine awp_cut1 (fun x => x = o2) (fun (x2 : Bool) => ⟨[(0, .sl (b1.map cU8)), (2, .ptr 0 0), (4, .ptr 1 0), (5, .ptr 2 0), (23, .bool x2)], [(0, 0, .int .i64 0), (0, 1, .int .i64 0), (0, 2, .int .i64 0), (0, 3, .int .i64 0), (0, 4, .int .i64 0), (0, 5, .int .i64 0), (0, 6, .int .i64 0), (0, 7, .int .i64 0), (0, 8, .str (sB [])), (0, 9, .int .i64 0), (0, 10, .int .u32 0), (0, 11, .int .i64 0), (0, 12, .int .i64 0), (0, 13, .nilS), (1, 0, .sl (x1.2.B.map cU8)), (1, 1, .int .i64 x1.2.At), (1, 2, .int .i64 x1.2.Bad), (2, 0, .int .i64 (W x1.1)), (2, 1, .int .i64 0), (2, 2, .int .i64 0), (2, 3, .int .i64 0), (2, 4, .int .i64 0), (2, 5, .int .i64 0), (2, 6, .int .i64 0), (2, 7, .int .i64 0), (2, 8, .str (sB [])), (2, 9, .int .i64 0), (2, 10, .int .u32 0), (2, 11, .int .i64 0), (2, 12, .int .i64 0), (2, 13, .nilS)], [], 3⟩) ?_ ?_
  · refine awp_region ?_
    refine rvs 6 rfl ?_
    refine gs rfl rfl rfl rfl rfl (fun hg => ?_) (fun hg => ?_)
    · have ho3 := cT hg ho3
      refine rv rfl rfl ?_
      refine gy rfl rfl rfl ?_
      refine rv rfl rfl ?_
      refine gy rfl rfl rfl ?_
      refine rv rfl rfl ?_
      refine rv rfl rfl ?_
      refine rn ?_
      cases ho3
      exact cut_n [0, 1, 2] rfl rfl ⟨rfl, rfl, zA rfl rfl rfl (zA rfl rfl rfl (zA rfl rfl rfl (zA rfl rfl rfl (zA rfl rfl rfl (trivial))))), zC rfl rfl rfl rfl (zC rfl rfl rfl rfl (zC rfl rfl rfl rfl (zC rfl rfl rfl rfl (zC rfl rfl rfl rfl (zC rfl rfl rfl rfl (zC rfl rfl rfl rfl (zC rfl rfl rfl rfl (zC rfl rfl rfl rfl (zC rfl rfl rfl rfl (zC rfl rfl rfl rfl (zC rfl rfl rfl rfl (zC rfl rfl rfl rfl (zC rfl rfl rfl rfl (zC rfl rfl rfl rfl (zC rfl rfl rfl rfl (zC rfl rfl rfl rfl (zC rfl rfl rfl rfl (zC rfl rfl rfl rfl (zC rfl rfl rfl rfl (zC rfl rfl rfl rfl (zC rfl rfl rfl rfl (zC rfl rfl rfl rfl (zC rfl rfl rfl rfl (zC rfl rfl rfl rfl (zC rfl rfl rfl rfl (zC rfl rfl rfl rfl (zC rfl rfl rfl rfl (zC rfl rfl rfl rfl (zC rfl rfl rfl rfl (zC rfl rfl rfl rfl (trivial))))))))))))))))))))))))))))))), trivial⟩
    · have ho3 := cF hg ho3
      refine gn rfl rfl rfl rfl rfl ?_
      refine gn rfl rfl rfl rfl rfl ?_
      refine rv rfl rfl ?_
      refine rn ?_
      cases ho3
      exact cut_n [0, 1, 2] rfl rfl ⟨rfl, rfl, zA rfl rfl rfl (zA rfl rfl rfl (zA rfl rfl rfl (zA rfl rfl rfl (zA rfl rfl rfl (trivial))))), zC rfl rfl rfl rfl (zC rfl rfl rfl rfl (zC rfl rfl rfl rfl (zC rfl rfl rfl rfl (zC rfl rfl rfl rfl (zC rfl rfl rfl rfl (zC rfl rfl rfl rfl (zC rfl rfl rfl rfl (zC rfl rfl rfl rfl (zC rfl rfl rfl rfl (zC rfl rfl rfl rfl (zC rfl rfl rfl rfl (zC rfl rfl rfl rfl (zC rfl rfl rfl rfl (zC rfl rfl rfl rfl (zC rfl rfl rfl rfl (zC rfl rfl rfl rfl (zC rfl rfl rfl rfl (zC rfl rfl rfl rfl (zC rfl rfl rfl rfl (zC rfl rfl rfl rfl (zC rfl rfl rfl rfl (zC rfl rfl rfl rfl (zC rfl rfl rfl rfl (zC rfl rfl rfl rfl (zC rfl rfl rfl rfl (zC rfl rfl rfl rfl (zC rfl rfl rfl rfl (zC rfl rfl rfl rfl (zC rfl rfl rfl rfl (zC rfl rfl rfl rfl (trivial))))))))))))))))))))))))))))))), trivial⟩
  · rintro x2 rfl
    change awp _ _ _ _ _ ⟨_, _, _, _⟩
    obtain ⟨o4, ho5, h⟩ := bi h
    refine awp_cut1 (fun x => x = o4) (fun (r1 : Int) => ⟨[(0, .sl (b1.map cU8)), (2, .ptr 0 0), (4, .ptr 1 0), (5, .ptr 2 0)], [(0, 0, .int .i64 0), (0, 1, .int .i64 0), (0, 2, .int .i64 0), (0, 3, .int .i64 0), (0, 4, .int .i64 0), (0, 5, .int .i64 0), (0, 6, .int .i64 0), (0, 7, .int .i64 0), (0, 8, .str (sB [])), (0, 9, .int .i64 0), (0, 10, .int .u32 0), (0, 11, .int .i64 0), (0, 12, .int .i64 0), (0, 13, .nilS), (1, 0, .sl (x1.2.B.map cU8)), (1, 1, .int .i64 x1.2.At), (1, 2, .int .i64 r1), (2, 0, .int .i64 (W x1.1)), (2, 1, .int .i64 0), (2, 2, .int .i64 0), (2, 3, .int .i64 0), (2, 4, .int .i64 0), (2, 5, .int .i64 0), (2, 6, .int .i64 0), (2, 7, .int .i64 0), (2, 8, .str (sB [])), (2, 9, .int .i64 0), (2, 10, .int .u32 0), (2, 11, .int .i64 0), (2, 12, .int .i64 0), (2, 13, .nilS)], [], 3⟩) ?_ ?_
    · refine cs_ rfl (fun hc => ?_) (fun hc => ?_)
      · have ho5 := cT hc ho5
        refine awp_region ?_
        refine rvs 3 rfl ?_
        refine rs rfl rfl rfl rfl rfl rfl rfl ?_
        refine rn ?_
        cases ho5
        exact cut_n [0, 1, 2] rfl rfl ⟨rfl, rfl, zA rfl rfl rfl (zA rfl rfl rfl (zA rfl rfl rfl (zA rfl rfl rfl (trivial)))), zC rfl rfl rfl rfl (zC rfl rfl rfl rfl (zC rfl rfl rfl rfl (zC rfl rfl rfl rfl (zC rfl rfl rfl rfl (zC rfl rfl rfl rfl (zC rfl rfl rfl rfl (zC rfl rfl rfl rfl (zC rfl rfl rfl rfl (zC rfl rfl rfl rfl (zC rfl rfl rfl rfl (zC rfl rfl rfl rfl (zC rfl rfl rfl rfl (zC rfl rfl rfl rfl (zC rfl rfl rfl rfl (zC rfl rfl rfl rfl (zC rfl rfl rfl rfl (zC rfl rfl rfl rfl (zC rfl rfl rfl rfl (zC rfl rfl rfl rfl (zC rfl rfl rfl rfl (zC rfl rfl rfl rfl (zC rfl rfl rfl rfl (zC rfl rfl rfl rfl (zC rfl rfl rfl rfl (zC rfl rfl rfl rfl (zC rfl rfl rfl rfl (zC rfl rfl rfl rfl (zC rfl rfl rfl rfl (zC rfl rfl rfl rfl (zC rfl rfl rfl rfl (trivial))))))))))))))))))))))))))))))), trivial⟩
      · have ho5 := cF hc ho5
        refine awp_skip ?_
        cases ho5
        exact cut_n [0, 1, 2] rfl rfl ⟨rfl, rfl, zA rfl rfl rfl (zA rfl rfl rfl (zA rfl rfl rfl (zA rfl rfl rfl (trivial)))), zC rfl rfl rfl rfl (zC rfl rfl rfl rfl (zC rfl rfl rfl rfl (zC rfl rfl rfl rfl (zC rfl rfl rfl rfl (zC rfl rfl rfl rfl (zC rfl rfl rfl rfl (zC rfl rfl rfl rfl (zC rfl rfl rfl rfl (zC rfl rfl rfl rfl (zC rfl rfl rfl rfl (zC rfl rfl rfl rfl (zC rfl rfl rfl rfl (zC rfl rfl rfl rfl (zC rfl rfl rfl rfl (zC rfl rfl rfl rfl (zC rfl rfl rfl rfl (zC rfl rfl rfl rfl (zC rfl rfl rfl rfl (zC rfl rfl rfl rfl (zC rfl rfl rfl rfl (zC rfl rfl rfl rfl (zC rfl rfl rfl rfl (zC rfl rfl rfl rfl (zC rfl rfl rfl rfl (zC rfl rfl rfl rfl (zC rfl rfl rfl rfl (zC rfl rfl rfl rfl (zC rfl rfl rfl rfl (zC rfl rfl rfl rfl (zC rfl rfl rfl rfl (trivial))))))))))))))))))))))))))))))), trivial⟩
    · rintro r1 rfl
      change awp _ _ _ _ _ ⟨_, _, _, _⟩
      refine awp_seq ?_
      refine awp_seq ?_
      refine awp_region ?_
      refine rvs 2 rfl ?_
      refine rn ?_
      obtain ⟨o6, ho7, h⟩ := bi h
      refine awp_cut1 (fun x => x = o6) (fun (((r2, r3, r4, m1, m2, m3, m4, m5, m6, m7, m8, m9, m10, m11, m12, m13)) : Str × Int × Int × Int × Int × Int × Int × Int × Int × Int × Str × Int × Int × Int × Int × (List tAttr)) => ⟨[(0, .sl (b1.map cU8)), (2, .ptr 0 0), (4, .ptr 1 0), (5, .ptr 2 0)], [(0, 0, .int .i64 0), (0, 1, .int .i64 0), (0, 2, .int .i64 0), (0, 3, .int .i64 0), (0, 4, .int .i64 0), (0, 5, .int .i64 0), (0, 6, .int .i64 0), (0, 7, .int .i64 0), (0, 8, .str (sB [])), (0, 9, .int .i64 0), (0, 10, .int .u32 0), (0, 11, .int .i64 0), (0, 12, .int .i64 0), (0, 13, .nilS), (1, 0, .sl (r2.map cU8)), (1, 1, .int .i64 r3), (1, 2, .int .i64 r4), (2, 0, .int .i64 (W x1.1)), (2, 1, .int .i64 m1), (2, 2, .int .i64 m2), (2, 3, .int .i64 m3), (2, 4, .int .i64 m4), (2, 5, .int .i64 m5), (2, 6, .int .i64 m6), (2, 7, .int .i64 m7), (2, 8, .str (sB m8)), (2, 9, .int .i64 m9), (2, 10, .int .u32 m10), (2, 11, .int .i64 m11), (2, 12, .int .i64 m12), (2, 13, .sl (m13.map c_tAttr))], [], 3⟩) ?_ ?_
      · refine awp_block ?_
        refine awp_seq ?_
        refine awp_region ?_
        refine rvs 2 rfl ?_
        refine rn ?_
        refine cs_ rfl (fun hc => ?_) (fun hc => ?_)
        · have ho7 := cT hc ho7
          refine awp_seq ?_
          refine awp_region ?_
          refine rv rfl rfl ?_
          obtain ⟨x3, hx8, ho7⟩ := bi ho7
          refine rh [1] rfl rfl (dref10_R_few_l hx8) rfl rfl rfl (zC rfl rfl rfl rfl (zC rfl rfl rfl rfl (zC rfl rfl rfl rfl (trivial)))) (trivial) ?_
          refine ek ?_
          refine as1 rfl ?_
          refine ae rfl rfl rfl ?_
          refine rv rfl rfl ?_
          refine rs rfl rfl rfl rfl rfl rfl rfl ?_
          refine rn ?_
          refine awp_seq ?_
          refine awp_region ?_
          refine rv rfl rfl ?_
          obtain ⟨x4, hx9, ho7⟩ := bi ho7
          refine rh [1] rfl rfl (dref10_R_few_l hx9) rfl rfl rfl (zC rfl rfl rfl rfl (zC rfl rfl rfl rfl (zC rfl rfl rfl rfl (trivial)))) (trivial) ?_
          refine ek ?_
          refine as1 rfl ?_
          refine ae rfl rfl rfl ?_
          refine rv rfl rfl ?_
          refine rs rfl rfl rfl rfl rfl rfl rfl ?_
          refine rn ?_
          refine awp_seq ?_
          refine awp_region ?_
          refine rv rfl rfl ?_
          obtain ⟨x5, hx10, ho7⟩ := bi ho7
          refine rh [1] rfl rfl (dref10_R_few_l hx10) rfl rfl rfl (zC rfl rfl rfl rfl (zC rfl rfl rfl rfl (zC rfl rfl rfl rfl (trivial)))) (trivial) ?_
          refine ek ?_
          refine as1 rfl ?_
          refine ae rfl rfl rfl ?_
          refine rv rfl rfl ?_
          refine rs rfl rfl rfl rfl rfl rfl rfl ?_
          refine rn ?_
          refine awp_seq ?_
          refine awp_region ?_
          refine rv rfl rfl ?_
          obtain ⟨x6, hx11, ho7⟩ := bi ho7
          refine rh [1] rfl rfl (dref10_R_signed_l hx11) rfl rfl rfl (zC rfl rfl rfl rfl (zC rfl rfl rfl rfl (zC rfl rfl rfl rfl (trivial)))) (trivial) ?_
          refine ek ?_
          refine as1 rfl ?_
          refine ae rfl rfl rfl ?_
          refine rvs 2 rfl ?_
          refine rs rfl rfl rfl rfl rfl rfl rfl ?_
          refine rn ?_
          refine awp_seq ?_
          refine awp_region ?_
          refine rv rfl rfl ?_
          obtain ⟨x7, hx12, ho7⟩ := bi ho7
          refine rh [1] rfl rfl (dref10_R_signed_l hx12) rfl rfl rfl (zC rfl rfl rfl rfl (zC rfl rfl rfl rfl (zC rfl rfl rfl rfl (trivial)))) (trivial) ?_
          refine ek ?_
          refine as1 rfl ?_
          refine ae rfl rfl rfl ?_
          refine rvs 2 rfl ?_
          refine rs rfl rfl rfl rfl rfl rfl rfl ?_
          refine rn ?_
          refine awp_seq ?_
          refine awp_region ?_
          refine rv rfl rfl ?_
          obtain ⟨x8, hx13, ho7⟩ := bi ho7
          refine rh [1] rfl rfl (dref10_R_signed_l hx13) rfl rfl rfl (zC rfl rfl rfl rfl (zC rfl rfl rfl rfl (zC rfl rfl rfl rfl (trivial)))) (trivial) ?_
          refine ek ?_
          refine as1 rfl ?_
          refine ae rfl rfl rfl ?_
          refine rvs 2 rfl ?_
          refine rs rfl rfl rfl rfl rfl rfl rfl ?_
          refine rn ?_
          refine awp_seq ?_
          refine awp_region ?_
          refine rv rfl rfl ?_
          obtain ⟨x9, hx14, ho7⟩ := bi ho7
          refine rh [1] rfl rfl (dref10_R_signed_l hx14) rfl rfl rfl (zC rfl rfl rfl rfl (zC rfl rfl rfl rfl (zC rfl rfl rfl rfl (trivial)))) (trivial) ?_
          refine ek ?_
          refine as1 rfl ?_
          refine ae rfl rfl rfl ?_
          refine rvs 2 rfl ?_
          refine rs rfl rfl rfl rfl rfl rfl rfl ?_
          refine rn ?_
          refine awp_region ?_
          refine rv rfl rfl ?_
          obtain ⟨x10, hx15, ho7⟩ := bi ho7
          refine rh [1] rfl rfl (dref10_R_text_l hx15) rfl rfl rfl (zC rfl rfl rfl rfl (zC rfl rfl rfl rfl (zC rfl rfl rfl rfl (trivial)))) (trivial) ?_
          refine ek ?_
          refine as1 rfl ?_
          refine ae rfl rfl rfl ?_
          refine rv rfl rfl ?_
          refine rs rfl rfl rfl rfl rfl rfl rfl ?_
          refine rn ?_
          refine inBlock_normal ?_
          cases ho7
          exact cut_n [0, 1, 2] rfl rfl ⟨rfl, rfl, zA rfl rfl rfl (zA rfl rfl rfl (zA rfl rfl rfl (zA rfl rfl rfl (trivial)))), zC rfl rfl rfl rfl (zC rfl rfl rfl rfl (zC rfl rfl rfl rfl (zC rfl rfl rfl rfl (zC rfl rfl rfl rfl (zC rfl rfl rfl rfl (zC rfl rfl rfl rfl (zC rfl rfl rfl rfl (zC rfl rfl rfl rfl (zC rfl rfl rfl rfl (zC rfl rfl rfl rfl (zC rfl rfl rfl rfl (zC rfl rfl rfl rfl (zC rfl rfl rfl rfl (zC rfl rfl rfl rfl (zC rfl rfl rfl rfl (zC rfl rfl rfl rfl (zC rfl rfl rfl rfl (zC rfl rfl rfl rfl (zC rfl rfl rfl rfl (zC rfl rfl rfl rfl (zC rfl rfl rfl rfl (zC rfl rfl rfl rfl (zC rfl rfl rfl rfl (zC rfl rfl rfl rfl (zC rfl rfl rfl rfl (zC rfl rfl rfl rfl (zC rfl rfl rfl rfl (zC rfl rfl rfl rfl (zC rfl rfl rfl rfl (zD rfl rfl rfl rfl (trivial))))))))))))))))))))))))))))))), trivial⟩
        · have ho7 := cF hc ho7
          refine awp_seq ?_
          refine awp_region ?_
          refine rvs 2 rfl ?_
          refine rn ?_
          refine cs_ rfl (fun hc => ?_) (fun hc => ?_)
          · have ho7 := cT hc ho7
            refine awp_seq ?_
            refine awp_region ?_
            refine rv rfl rfl ?_
            obtain ⟨x11, hx16, ho7⟩ := bi ho7
            refine rh [1] rfl rfl (dref10_R_few_l hx16) rfl rfl rfl (zC rfl rfl rfl rfl (zC rfl rfl rfl rfl (zC rfl rfl rfl rfl (trivial)))) (trivial) ?_
            refine ek ?_
            refine as1 rfl ?_
            refine ae rfl rfl rfl ?_
            refine rv rfl rfl ?_
            refine rs rfl rfl rfl rfl rfl rfl rfl ?_
            refine rn ?_
            refine awp_region ?_
            refine rv rfl rfl ?_
            obtain ⟨x12, hx17, ho7⟩ := bi ho7
            refine rh [1] rfl rfl (dref10_R_few_l hx17) rfl rfl rfl (zC rfl rfl rfl rfl (zC rfl rfl rfl rfl (zC rfl rfl rfl rfl (trivial)))) (trivial) ?_
            refine ek ?_
            refine as1 rfl ?_
            refine ae rfl rfl rfl ?_
            refine rv rfl rfl ?_
            refine rs rfl rfl rfl rfl rfl rfl rfl ?_
            refine rn ?_
            refine inBlock_normal ?_
            cases ho7
            exact cut_n [0, 1, 2] rfl rfl ⟨rfl, rfl, zA rfl rfl rfl (zA rfl rfl rfl (zA rfl rfl rfl (zA rfl rfl rfl (trivial)))), zC rfl rfl rfl rfl (zC rfl rfl rfl rfl (zC rfl rfl rfl rfl (zC rfl rfl rfl rfl (zC rfl rfl rfl rfl (zC rfl rfl rfl rfl (zC rfl rfl rfl rfl (zC rfl rfl rfl rfl (zC rfl rfl rfl rfl (zC rfl rfl rfl rfl (zC rfl rfl rfl rfl (zC rfl rfl rfl rfl (zC rfl rfl rfl rfl (zC rfl rfl rfl rfl (zC rfl rfl rfl rfl (zC rfl rfl rfl rfl (zC rfl rfl rfl rfl (zC rfl rfl rfl rfl (zC rfl rfl rfl rfl (zC rfl rfl rfl rfl (zC rfl rfl rfl rfl (zC rfl rfl rfl rfl (zC rfl rfl rfl rfl (zC rfl rfl rfl rfl (zC rfl rfl rfl rfl (zC rfl rfl rfl rfl (zC rfl rfl rfl rfl (zC rfl rfl rfl rfl (zC rfl rfl rfl rfl (zC rfl rfl rfl rfl (zD rfl rfl rfl rfl (trivial))))))))))))))))))))))))))))))), trivial⟩
          · have ho7 := cF hc ho7
            refine awp_seq ?_
            refine awp_region ?_
            refine rvs 2 rfl ?_
            refine rn ?_
            refine cs_ rfl (fun hc => ?_) (fun hc => ?_)
            · have ho7 := cT hc ho7
              refine awp_seq ?_
              refine awp_region ?_
              refine rv rfl rfl ?_
              obtain ⟨x13, hx18, ho7⟩ := bi ho7
              refine rh [1] rfl rfl (dref10_R_few_l hx18) rfl rfl rfl (zC rfl rfl rfl rfl (zC rfl rfl rfl rfl (zC rfl rfl rfl rfl (trivial)))) (trivial) ?_
              refine ek ?_
              refine as1 rfl ?_
              refine ae rfl rfl rfl ?_
              refine rv rfl rfl ?_
              refine rs rfl rfl rfl rfl rfl rfl rfl ?_
              refine rn ?_
              refine awp_region ?_
              refine rv rfl rfl ?_
              obtain ⟨x14, hx19, ho7⟩ := bi ho7
              refine rh [1] rfl rfl (dref10_R_event_l hx19) rfl rfl rfl (zC rfl rfl rfl rfl (zC rfl rfl rfl rfl (zC rfl rfl rfl rfl (trivial)))) (trivial) ?_
              refine ek ?_
              refine as1 rfl ?_
              refine ae rfl rfl rfl ?_
              refine rv rfl rfl ?_
              refine rs rfl rfl rfl rfl rfl rfl rfl ?_
              refine rn ?_
              refine inBlock_normal ?_
              cases ho7
              exact cut_n [0, 1, 2] rfl rfl ⟨rfl, rfl, zA rfl rfl rfl (zA rfl rfl rfl (zA rfl rfl rfl (zA rfl rfl rfl (trivial)))), zC rfl rfl rfl rfl (zC rfl rfl rfl rfl (zC rfl rfl rfl rfl (zC rfl rfl rfl rfl (zC rfl rfl rfl rfl (zC rfl rfl rfl rfl (zC rfl rfl rfl rfl (zC rfl rfl rfl rfl (zC rfl rfl rfl rfl (zC rfl rfl rfl rfl (zC rfl rfl rfl rfl (zC rfl rfl rfl rfl (zC rfl rfl rfl rfl (zC rfl rfl rfl rfl (zC rfl rfl rfl rfl (zC rfl rfl rfl rfl (zC rfl rfl rfl rfl (zC rfl rfl rfl rfl (zC rfl rfl rfl rfl (zC rfl rfl rfl rfl (zC rfl rfl rfl rfl (zC rfl rfl rfl rfl (zC rfl rfl rfl rfl (zC rfl rfl rfl rfl (zC rfl rfl rfl rfl (zC rfl rfl rfl rfl (zC rfl rfl rfl rfl (zC rfl rfl rfl rfl (zC rfl rfl rfl rfl (zC rfl rfl rfl rfl (zC rfl rfl rfl rfl (trivial))))))))))))))))))))))))))))))), trivial⟩
            · have ho7 := cF hc ho7
              refine awp_region ?_
              refine rv rfl rfl ?_
              obtain ⟨x15, hx20, ho7⟩ := bi ho7
              refine rh [1] rfl rfl (dref10_R_event_l hx20) rfl rfl rfl (zC rfl rfl rfl rfl (zC rfl rfl rfl rfl (zC rfl rfl rfl rfl (trivial)))) (trivial) ?_
              refine ek ?_
              refine as1 rfl ?_
              refine ae rfl rfl rfl ?_
              refine rv rfl rfl ?_
              refine rs rfl rfl rfl rfl rfl rfl rfl ?_
              refine rn ?_
              refine inBlock_normal ?_
              cases ho7
              exact cut_n [0, 1, 2] rfl rfl ⟨rfl, rfl, zA rfl rfl rfl (zA rfl rfl rfl (zA rfl rfl rfl (zA rfl rfl rfl (trivial)))), zC rfl rfl rfl rfl (zC rfl rfl rfl rfl (zC rfl rfl rfl rfl (zC rfl rfl rfl rfl (zC rfl rfl rfl rfl (zC rfl rfl rfl rfl (zC rfl rfl rfl rfl (zC rfl rfl rfl rfl (zC rfl rfl rfl rfl (zC rfl rfl rfl rfl (zC rfl rfl rfl rfl (zC rfl rfl rfl rfl (zC rfl rfl rfl rfl (zC rfl rfl rfl rfl (zC rfl rfl rfl rfl (zC rfl rfl rfl rfl (zC rfl rfl rfl rfl (zC rfl rfl rfl rfl (zC rfl rfl rfl rfl (zC rfl rfl rfl rfl (zC rfl rfl rfl rfl (zC rfl rfl rfl rfl (zC rfl rfl rfl rfl (zC rfl rfl rfl rfl (zC rfl rfl rfl rfl (zC rfl rfl rfl rfl (zC rfl rfl rfl rfl (zC rfl rfl rfl rfl (zC rfl rfl rfl rfl (zC rfl rfl rfl rfl (zC rfl rfl rfl rfl (trivial))))))))))))))))))))))))))))))), trivial⟩
      · rintro ⟨r2, r3, r4, m1, m2, m3, m4, m5, m6, m7, m8, m9, m10, m11, m12, m13⟩ rfl
        change awp _ _ _ _ _ ⟨_, _, _, _⟩
        refine awp_seq ?_
        refine awp_region ?_
        refine rv rfl rfl ?_
        obtain ⟨may1, hx21, h⟩ := bi h
        refine rc1 rfl rfl rfl (dref10_May_l hx21) ?_
        refine rv rfl rfl ?_
        refine rn ?_
        refine awp_seq ?_
        refine awp_seq ?_
        obtain ⟨o22, ho23, h⟩ := bi h
        refine awp_cut1 (fun x => x = o22) (fun (x16 : Bool) => ⟨[(2, .ptr 0 0), (4, .ptr 1 0), (5, .ptr 2 0), (97, .bool x16)], [(0, 0, .int .i64 0), (0, 1, .int .i64 0), (0, 2, .int .i64 0), (0, 3, .int .i64 0), (0, 4, .int .i64 0), (0, 5, .int .i64 0), (0, 6, .int .i64 0), (0, 7, .int .i64 0), (0, 8, .str (sB [])), (0, 9, .int .i64 0), (0, 10, .int .u32 0), (0, 11, .int .i64 0), (0, 12, .int .i64 0), (0, 13, .nilS), (1, 0, .sl (r2.map cU8)), (1, 1, .int .i64 r3), (1, 2, .int .i64 r4), (2, 0, .int .i64 (W x1.1)), (2, 1, .int .i64 m1), (2, 2, .int .i64 m2), (2, 3, .int .i64 m3), (2, 4, .int .i64 m4), (2, 5, .int .i64 m5), (2, 6, .int .i64 m6), (2, 7, .int .i64 m7), (2, 8, .str (sB m8)), (2, 9, .int .i64 m9), (2, 10, .int .u32 m10), (2, 11, .int .i64 m11), (2, 12, .int .i64 m12), (2, 13, .sl (m13.map c_tAttr))], [], 3⟩) ?_ ?_
        · refine awp_region ?_
          refine rvs 6 rfl ?_
          refine gs rfl rfl rfl rfl rfl (fun hg => ?_) (fun hg => ?_)
          · have ho23 := cT hg ho23
            refine rv rfl rfl ?_
            refine gy rfl rfl rfl ?_
            refine rv rfl rfl ?_
            refine gy rfl rfl rfl ?_
            refine rv rfl rfl ?_
            refine gy rfl rfl rfl ?_
            refine rv rfl rfl ?_
            refine gy rfl rfl rfl ?_
            refine rv rfl rfl ?_
            refine gy rfl rfl rfl ?_
            refine rv rfl rfl ?_
            refine rt ((lM cU8 b1)) ?_
            refine gy rfl rfl rfl ?_
            refine rv rfl rfl ?_
            refine gy rfl rfl rfl ?_
            refine rv rfl rfl ?_
            refine gs rfl rfl rfl rfl rfl (fun hg => ?_) (fun hg => ?_)
            · have ho23 := cF hg ho23
              refine rv rfl rfl ?_
              refine gy rfl rfl rfl ?_
              refine rv rfl rfl ?_
              refine gy rfl rfl rfl ?_
              refine rv rfl rfl ?_
              refine rv rfl rfl ?_
              refine rn ?_
              cases ho23
              exact cut_n [0, 1, 2] rfl rfl ⟨rfl, rfl, zA rfl rfl rfl (zA rfl rfl rfl (zA rfl rfl rfl (zA rfl rfl rfl (trivial)))), zC rfl rfl rfl rfl (zC rfl rfl rfl rfl (zC rfl rfl rfl rfl (zC rfl rfl rfl rfl (zC rfl rfl rfl rfl (zC rfl rfl rfl rfl (zC rfl rfl rfl rfl (zC rfl rfl rfl rfl (zC rfl rfl rfl rfl (zC rfl rfl rfl rfl (zC rfl rfl rfl rfl (zC rfl rfl rfl rfl (zC rfl rfl rfl rfl (zC rfl rfl rfl rfl (zC rfl rfl rfl rfl (zC rfl rfl rfl rfl (zC rfl rfl rfl rfl (zC rfl rfl rfl rfl (zC rfl rfl rfl rfl (zC rfl rfl rfl rfl (zC rfl rfl rfl rfl (zC rfl rfl rfl rfl (zC rfl rfl rfl rfl (zC rfl rfl rfl rfl (zC rfl rfl rfl rfl (zC rfl rfl rfl rfl (zC rfl rfl rfl rfl (zC rfl rfl rfl rfl (zC rfl rfl rfl rfl (zC rfl rfl rfl rfl (zC rfl rfl rfl rfl (trivial))))))))))))))))))))))))))))))), trivial⟩
            · have ho23 := cT hg ho23
              refine gn rfl rfl rfl rfl rfl ?_
              refine gy rfl rfl rfl ?_
              refine rv rfl rfl ?_
              refine rv rfl rfl ?_
              refine rn ?_
              cases ho23
              exact cut_n [0, 1, 2] rfl rfl ⟨rfl, rfl, zA rfl rfl rfl (zA rfl rfl rfl (zA rfl rfl rfl (zA rfl rfl rfl (trivial)))), zC rfl rfl rfl rfl (zC rfl rfl rfl rfl (zC rfl rfl rfl rfl (zC rfl rfl rfl rfl (zC rfl rfl rfl rfl (zC rfl rfl rfl rfl (zC rfl rfl rfl rfl (zC rfl rfl rfl rfl (zC rfl rfl rfl rfl (zC rfl rfl rfl rfl (zC rfl rfl rfl rfl (zC rfl rfl rfl rfl (zC rfl rfl rfl rfl (zC rfl rfl rfl rfl (zC rfl rfl rfl rfl (zC rfl rfl rfl rfl (zC rfl rfl rfl rfl (zC rfl rfl rfl rfl (zC rfl rfl rfl rfl (zC rfl rfl rfl rfl (zC rfl rfl rfl rfl (zC rfl rfl rfl rfl (zC rfl rfl rfl rfl (zC rfl rfl rfl rfl (zC rfl rfl rfl rfl (zC rfl rfl rfl rfl (zC rfl rfl rfl rfl (zC rfl rfl rfl rfl (zC rfl rfl rfl rfl (zC rfl rfl rfl rfl (zC rfl rfl rfl rfl (trivial))))))))))))))))))))))))))))))), trivial⟩
          · have ho23 := cF hg ho23
            refine gn rfl rfl rfl rfl rfl ?_
            refine gn rfl rfl rfl rfl rfl ?_
            refine gn rfl rfl rfl rfl rfl ?_
            refine gn rfl rfl rfl rfl rfl ?_
            refine gn rfl rfl rfl rfl rfl ?_
            refine gn rfl rfl rfl rfl rfl ?_
            refine gn rfl rfl rfl rfl rfl ?_
            refine gu rfl rfl rfl rfl ?_
            refine gu rfl rfl rfl rfl ?_
            refine gn rfl rfl rfl rfl rfl ?_
            refine rv rfl rfl ?_
            refine rn ?_
            cases ho23
            exact cut_n [0, 1, 2] rfl rfl ⟨rfl, rfl, zA rfl rfl rfl (zA rfl rfl rfl (zA rfl rfl rfl (zA rfl rfl rfl (trivial)))), zC rfl rfl rfl rfl (zC rfl rfl rfl rfl (zC rfl rfl rfl rfl (zC rfl rfl rfl rfl (zC rfl rfl rfl rfl (zC rfl rfl rfl rfl (zC rfl rfl rfl rfl (zC rfl rfl rfl rfl (zC rfl rfl rfl rfl (zC rfl rfl rfl rfl (zC rfl rfl rfl rfl (zC rfl rfl rfl rfl (zC rfl rfl rfl rfl (zC rfl rfl rfl rfl (zC rfl rfl rfl rfl (zC rfl rfl rfl rfl (zC rfl rfl rfl rfl (zC rfl rfl rfl rfl (zC rfl rfl rfl rfl (zC rfl rfl rfl rfl (zC rfl rfl rfl rfl (zC rfl rfl rfl rfl (zC rfl rfl rfl rfl (zC rfl rfl rfl rfl (zC rfl rfl rfl rfl (zC rfl rfl rfl rfl (zC rfl rfl rfl rfl (zC rfl rfl rfl rfl (zC rfl rfl rfl rfl (zC rfl rfl rfl rfl (zC rfl rfl rfl rfl (trivial))))))))))))))))))))))))))))))), trivial⟩
        · rintro x16 rfl
          change awp _ _ _ _ _ ⟨_, _, _, _⟩
          obtain ⟨o24, ho25, h⟩ := bi h
          refine awp_cut1 (fun x => x = o24) (fun (r5 : Int) => ⟨[(2, .ptr 0 0), (4, .ptr 1 0), (5, .ptr 2 0)], [(0, 0, .int .i64 0), (0, 1, .int .i64 0), (0, 2, .int .i64 0), (0, 3, .int .i64 0), (0, 4, .int .i64 0), (0, 5, .int .i64 0), (0, 6, .int .i64 0), (0, 7, .int .i64 0), (0, 8, .str (sB [])), (0, 9, .int .i64 0), (0, 10, .int .u32 0), (0, 11, .int .i64 0), (0, 12, .int .i64 0), (0, 13, .nilS), (1, 0, .sl (r2.map cU8)), (1, 1, .int .i64 r3), (1, 2, .int .i64 r5), (2, 0, .int .i64 (W x1.1)), (2, 1, .int .i64 m1), (2, 2, .int .i64 m2), (2, 3, .int .i64 m3), (2, 4, .int .i64 m4), (2, 5, .int .i64 m5), (2, 6, .int .i64 m6), (2, 7, .int .i64 m7), (2, 8, .str (sB m8)), (2, 9, .int .i64 m9), (2, 10, .int .u32 m10), (2, 11, .int .i64 m11), (2, 12, .int .i64 m12), (2, 13, .sl (m13.map c_tAttr))], [], 3⟩) ?_ ?_
          · refine cs_ rfl (fun hc => ?_) (fun hc => ?_)
            · have ho25 := cT hc ho25
              refine awp_region ?_
              refine rvs 3 rfl ?_
              refine rs rfl rfl rfl rfl rfl rfl rfl ?_
              refine rn ?_
              cases ho25
              exact cut_n [0, 1, 2] rfl rfl ⟨rfl, rfl, zA rfl rfl rfl (zA rfl rfl rfl (zA rfl rfl rfl (trivial))), zC rfl rfl rfl rfl (zC rfl rfl rfl rfl (zC rfl rfl rfl rfl (zC rfl rfl rfl rfl (zC rfl rfl rfl rfl (zC rfl rfl rfl rfl (zC rfl rfl rfl rfl (zC rfl rfl rfl rfl (zC rfl rfl rfl rfl (zC rfl rfl rfl rfl (zC rfl rfl rfl rfl (zC rfl rfl rfl rfl (zC rfl rfl rfl rfl (zC rfl rfl rfl rfl (zC rfl rfl rfl rfl (zC rfl rfl rfl rfl (zC rfl rfl rfl rfl (zC rfl rfl rfl rfl (zC rfl rfl rfl rfl (zC rfl rfl rfl rfl (zC rfl rfl rfl rfl (zC rfl rfl rfl rfl (zC rfl rfl rfl rfl (zC rfl rfl rfl rfl (zC rfl rfl rfl rfl (zC rfl rfl rfl rfl (zC rfl rfl rfl rfl (zC rfl rfl rfl rfl (zC rfl rfl rfl rfl (zC rfl rfl rfl rfl (zC rfl rfl rfl rfl (trivial))))))))))))))))))))))))))))))), trivial⟩
            · have ho25 := cF hc ho25
              refine awp_skip ?_
              cases ho25
              exact cut_n [0, 1, 2] rfl rfl ⟨rfl, rfl, zA rfl rfl rfl (zA rfl rfl rfl (zA rfl rfl rfl (trivial))), zC rfl rfl rfl rfl (zC rfl rfl rfl rfl (zC rfl rfl rfl rfl (zC rfl rfl rfl rfl (zC rfl rfl rfl rfl (zC rfl rfl rfl rfl (zC rfl rfl rfl rfl (zC rfl rfl rfl rfl (zC rfl rfl rfl rfl (zC rfl rfl rfl rfl (zC rfl rfl rfl rfl (zC rfl rfl rfl rfl (zC rfl rfl rfl rfl (zC rfl rfl rfl rfl (zC rfl rfl rfl rfl (zC rfl rfl rfl rfl (zC rfl rfl rfl rfl (zC rfl rfl rfl rfl (zC rfl rfl rfl rfl (zC rfl rfl rfl rfl (zC rfl rfl rfl rfl (zC rfl rfl rfl rfl (zC rfl rfl rfl rfl (zC rfl rfl rfl rfl (zC rfl rfl rfl rfl (zC rfl rfl rfl rfl (zC rfl rfl rfl rfl (zC rfl rfl rfl rfl (zC rfl rfl rfl rfl (zC rfl rfl rfl rfl (zC rfl rfl rfl rfl (trivial))))))))))))))))))))))))))))))), trivial⟩
          · rintro r5 rfl
            change awp _ _ _ _ _ ⟨_, _, _, _⟩
            refine awp_seq ?_
            refine awp_seq ?_
            refine awp_region ?_
            refine rvs 5 rfl ?_
            refine rn ?_
            refine cs_ rfl (fun hc => ?_) (fun hc => ?_)
            · have h := cT hc h
              refine awp_seq ?_
              refine awp_dx (m := 6) [] Try.mix (by kernel_rfl) (by kernel_rfl) (by kernel_rfl) (by kernel_rfl) (by kernel_rfl) (by kernel_rfl) ?_
              refine xv [] rfl rfl (fun _ => rfl) ?_
              refine xv [] rfl rfl (fun _ => rfl) ?_
              refine xv [] rfl rfl (fun _ => rfl) ?_
              refine xv [] rfl rfl (fun _ => rfl) ?_
              refine xv [1] rfl rfl (fun _ => rfl) ?_
              refine xE [0] .any 3 _ _ rfl rfl (by
                  refine rs rfl rfl rfl rfl rfl rfl rfl ?_
                  exact rn ⟨rfl, rfl⟩) (by rfl) (by rfl) (by rfl) ?_
              refine xn (by kernel_rfl) ?_
              refine rv rfl rfl ?_
              refine rn ?_
              refine awp_ret ?_
              cases h
              repeat (first | refine then_ret ?_ | refine inBlock_ret ?_ | refine cut_r ?_)
              exact rr rfl rfl rfl
            · have h := cF hc h
              refine awp_skip ?_
              refine awp_seq ?_
              refine awp_region ?_
              refine rv rfl rfl ?_
              refine rs rfl rfl rfl rfl rfl rfl rfl ?_
              refine rv rfl rfl ?_
              refine rn ?_
              refine awp_ret ?_
              cases h
              repeat (first | refine then_ret ?_ | refine inBlock_ret ?_ | refine cut_r ?_)
              exact rr rfl rfl rfl
end

/-- `plover/ploverlaw00.Code` -/
def dlaw00_Code (fu : Nat) (err1 : Er) : Option Int :=
  bif err1.isNone then some 0 else ((loopD (ε := Int) (τ := Unit ⊕ Int) (fun (n1 : Int) => (bif (decide (n1 ≤ 12)) then (bif (err1 == some n1) then some (Sum.inr (Sum.inr n1)) else some (Sum.inl (W (n1 + 1)))) else some (Sum.inr (Sum.inl ())))) fu 1).bind fun o => kS o fun (_ : Unit) => some (-1))
section
attribute [local irreducible] awp aops DP PCall ACall Decidable.decide
theorem dlaw00_Code_l {fu : Nat} {err1 : Er} {r : Int} (h : dlaw00_Code fu err1 = some r) : PCall Try.prog 35 [.err 31 err1] (· = .int .i64 r) := by
  rw [dlaw00_Code] at h
  refine pcall_body Try.func35 rfl (by kernel_rfl) (by rfl) ?_
  refine awp_seq ?_
  refine awp_region ?_
  refine rv rfl rfl ?_
  refine rn ?_
  refine awp_seq ?_
  refine awp_seq ?_
  refine awp_region ?_
  refine rv rfl rfl ?_
  refine rV rfl (va_enil rfl rfl rfl) ?_
  refine rn ?_
  refine cs_ rfl (fun hc => ?_) (fun hc => ?_)
  · have h := cT hc h
    refine awp_seq ?_
    refine awp_region ?_
    refine rv rfl rfl ?_
    refine rn ?_
    refine awp_ret ?_
    cases h
    repeat (first | refine then_ret ?_ | refine inBlock_ret ?_ | refine cut_r ?_)
    exact rr rfl rfl rfl
  · have h := cF hc h
    refine awp_skip ?_
    refine awp_seq ?_
    refine awp_seq ?_
    refine awp_region ?_
    refine rv rfl rfl ?_
    refine rn ?_
    obtain ⟨e1, hl2, h⟩ := bi h
    refine awp_cut1 (fun x => Sum.inl x = e1) (fun (_ : Unit) => ⟨[], [], [], 0⟩) ?_ ?_
    · refine awp_block ?_
      refine awp_loopD hl2 (fun (n1 : Int) => ⟨[(0, .err 31 err1), (3, .int .i64 n1)], [], [], 0⟩) [] rfl ⟨rfl, rfl, zA rfl rfl rfl (zA rfl rfl rfl (trivial)), trivial, trivial⟩ ?_
      intro n1 o5 ho3 hE4
      change awp _ _ _ _ _ ⟨_, _, _, _⟩
      refine awp_seq ?_
      refine awp_seq ?_
      refine awp_region ?_
      refine rvs 2 rfl ?_
      refine rn ?_
      refine cs_ rfl (fun hc => ?_) (fun hc => ?_)
      · have ho3 := cT hc ho3
        refine awp_skip ?_
        refine awp_seq ?_
        refine awp_block ?_
        refine awp_seq ?_
        refine awp_region ?_
        refine rvs 3 rfl ?_
        refine rV rfl (va_eeq rfl rfl rfl rfl rfl rfl (fun _ => rfl)) ?_
        refine rn ?_
        refine cs_ rfl (fun hc => ?_) (fun hc => ?_)
        · have ho3 := cT hc ho3
          refine awp_seq ?_
          refine awp_region ?_
          refine rvs 2 rfl ?_
          refine rn ?_
          refine awp_ret ?_
          cases ho3
          have hq := hE4 _ rfl
          subst hq
          have h := ksr h
          subst h
          repeat (first | refine then_ret ?_ | refine inBlock_ret ?_ | refine cut_r ?_)
          exact rr rfl rfl rfl
        · have ho3 := cF hc ho3
          refine awp_skip ?_
          refine inBlock_normal ?_
          refine awp_region ?_
          refine rvs 3 rfl ?_
          refine rn ?_
          cases ho3
          exact lp_n [] rfl rfl ⟨rfl, rfl, zA rfl rfl rfl (zA rfl rfl rfl (trivial)), trivial, trivial⟩
      · have ho3 := cF hc ho3
        refine awp_exit ?_
        repeat (first | refine then_exit ?_ | refine cut_x ?_ | refine inBlock_other rfl ?_)
        refine inBlock_exit ?_
        cases ho3
        have hq := hE4 _ rfl
        subst hq
        exact cut_n [] rfl rfl ⟨rfl, rfl, trivial, trivial, trivial⟩
    · rintro _ rfl
      have h := ksl h
      refine awp_seq ?_
      refine awp_region ?_
      refine rv rfl rfl ?_
      refine rn ?_
      refine awp_ret ?_
      cases h
      repeat (first | refine then_ret ?_ | refine inBlock_ret ?_ | refine cut_r ?_)
      exact rr rfl rfl rfl
end

/-- `plover/ploverlaw10.up` -/
def dlaw10_up (fu : Nat)  : Option Bool :=
  (dwire_Put fu (tMsg.mk 2 5 1 0 (tRect.mk 0 0 0 0) [] (tEvent.mk 0 0 (tPoint.mk 0 0) []))).bind fun b1 => (dwire_Put fu (tMsg.mk 0 0 0 0 (tRect.mk 0 0 0 0) [] (tEvent.mk 0 0 (tPoint.mk 0 0) []))).bind fun x1 => (dwire_Get fu [2, 5, 1]).bind fun g1 => bif b1.2.isNone then (bif (b1.1 == [2, 5, 1]) then (bif (x1.2 == some 1) then (bif g1.2.isNone then some (g1.1.Sub == 5) else some false) else some false) else some false) else some false
section
attribute [local irreducible] awp aops DP PCall ACall Decidable.decide
theorem dlaw10_up_l {fu : Nat}  {r : Bool} (h : dlaw10_up fu  = some r) : PCall Try.prog 32 [] (· = .bool r) := by
  rw [dlaw10_up] at h
  refine pcall_body Try.func32 rfl (by kernel_rfl) (by rfl) ?_
  refine awp_seq ?_
  refine awp_region ?_
  refine rv rfl rfl ?_
  refine rn ?_
  refine awp_seq ?_
  refine awp_region ?_
  refine rv rfl rfl ?_
  obtain ⟨b1, hx1, h⟩ := bi h
  refine rc1 rfl rfl rfl (dwire_Put_l hx1) ?_
  refine rvs 5 rfl ?_
  refine rn ?_
  refine awp_seq ?_
  refine awp_region ?_
  refine rv rfl rfl ?_
  obtain ⟨x1, hx2, h⟩ := bi h
  refine rc1 rfl rfl rfl (dwire_Put_l hx2) ?_
  refine rvs 5 rfl ?_
  refine rn ?_
  refine awp_seq ?_
  refine awp_region ?_
  refine rbs false rfl rfl rfl rfl rfl rfl rfl rfl rfl rfl ?_
  obtain ⟨g1, hx3, h⟩ := bi h
  refine rc1 rfl rfl rfl (dwire_Get_l hx3) ?_
  refine rvs 3 rfl ?_
  refine ra rfl rfl rfl ?_
  refine rs rfl rfl rfl rfl rfl rfl rfl ?_
  refine rv rfl rfl ?_
  refine rn ?_
  refine awp_seq ?_
  refine awp_region ?_
  refine rv rfl rfl ?_
  refine rV rfl (va_enil rfl rfl rfl) ?_
  refine rv rfl rfl ?_
  refine gs rfl rfl rfl rfl rfl (fun hg => ?_) (fun hg => ?_)
  · have h := cT hg h
    refine rv rfl rfl ?_
    refine gy rfl rfl rfl ?_
    refine rV rfl (va_textS (l := b1.1) rfl rfl rfl rfl rfl rfl rfl rfl) ?_
    refine gy rfl rfl rfl ?_
    refine rv rfl rfl ?_
    refine rt (sEq b1.1 [2, 5, 1]) ?_
    refine rvs 2 rfl ?_
    refine gs rfl rfl rfl rfl rfl (fun hg => ?_) (fun hg => ?_)
    · have h := cT hg h
      refine rv rfl rfl ?_
      refine gy rfl rfl rfl ?_
      refine rv rfl rfl ?_
      refine gy rfl rfl rfl ?_
      refine rV rfl (va_eeq rfl rfl rfl rfl rfl rfl (fun _ => rfl)) ?_
      refine rvs 2 rfl ?_
      refine gs rfl rfl rfl rfl rfl (fun hg => ?_) (fun hg => ?_)
      · have h := cT hg h
        refine rv rfl rfl ?_
        refine gy rfl rfl rfl ?_
        refine rV rfl (va_enil rfl rfl rfl) ?_
        refine rvs 2 rfl ?_
        refine gs rfl rfl rfl rfl rfl (fun hg => ?_) (fun hg => ?_)
        · have h := cT hg h
          refine rv rfl rfl ?_
          refine gy rfl rfl rfl ?_
          refine rv rfl rfl ?_
          refine gy rfl rfl rfl ?_
          refine rv rfl rfl ?_
          refine rvs 2 rfl ?_
          refine rn ?_
          refine awp_ret ?_
          cases h
          repeat (first | refine then_ret ?_ | refine inBlock_ret ?_ | refine cut_r ?_)
          exact rr rfl rfl rfl
        · have h := cF hg h
          refine gn rfl rfl rfl rfl rfl ?_
          refine gn rfl rfl rfl rfl rfl ?_
          refine rvs 2 rfl ?_
          refine rn ?_
          refine awp_ret ?_
          cases h
          repeat (first | refine then_ret ?_ | refine inBlock_ret ?_ | refine cut_r ?_)
          exact rr rfl rfl rfl
      · have h := cF hg h
        refine gn rfl rfl rfl rfl rfl ?_
        refine rvs 2 rfl ?_
        refine gn rfl rfl rfl rfl rfl ?_
        refine gn rfl rfl rfl rfl rfl ?_
        refine gn rfl rfl rfl rfl rfl ?_
        refine rvs 2 rfl ?_
        refine rn ?_
        refine awp_ret ?_
        cases h
        repeat (first | refine then_ret ?_ | refine inBlock_ret ?_ | refine cut_r ?_)
        exact rr rfl rfl rfl
    · have h := cF hg h
      refine gn rfl rfl rfl rfl rfl ?_
      refine gn rfl rfl rfl rfl rfl ?_
      refine rvs 2 rfl ?_
      refine gn rfl rfl rfl rfl rfl ?_
      refine gn rfl rfl rfl rfl rfl ?_
      refine rvs 2 rfl ?_
      refine gn rfl rfl rfl rfl rfl ?_
      refine gn rfl rfl rfl rfl rfl ?_
      refine gn rfl rfl rfl rfl rfl ?_
      refine rvs 2 rfl ?_
      refine rn ?_
      refine awp_ret ?_
      cases h
      repeat (first | refine then_ret ?_ | refine inBlock_ret ?_ | refine cut_r ?_)
      exact rr rfl rfl rfl
  · have h := cF hg h
    refine gn rfl rfl rfl rfl rfl ?_
    refine gn rfl rfl rfl rfl rfl ?_
    refine rvs 2 rfl ?_
    refine gn rfl rfl rfl rfl rfl ?_
    refine gn rfl rfl rfl rfl rfl ?_
    refine gn rfl rfl rfl rfl rfl ?_
    refine rvs 2 rfl ?_
    refine gn rfl rfl rfl rfl rfl ?_
    refine gn rfl rfl rfl rfl rfl ?_
    refine rvs 2 rfl ?_
    refine gn rfl rfl rfl rfl rfl ?_
    refine gn rfl rfl rfl rfl rfl ?_
    refine gn rfl rfl rfl rfl rfl ?_
    refine rvs 2 rfl ?_
    refine rn ?_
    refine awp_ret ?_
    cases h
    repeat (first | refine then_ret ?_ | refine inBlock_ret ?_ | refine cut_r ?_)
    exact rr rfl rfl rfl
end

/-- `plover/ploverlaw10.WirePuts` -/
def dlaw10_WirePuts (fu : Nat) (m1 : tMsg) (n1 : tMsg) : Option Bool :=
  (dlaw10_up fu ).bind fun head1 => (dref10_Small fu m1).bind fun few1 => (dref10_Small fu n1).bind fun small1 => (bif (!few1) then some true else some (!small1) : Option Bool).bind fun (x1 : Bool) => (bif x1 then some head1 else ((dref10_May fu m1).bind fun may1 => (dwire_Put fu m1).bind fun b1 => ((dwire_May fu m1).bind fun x3 => bif (!(x3 == may1)) then some true else ((dwire_Same fu m1 n1).bind fun x4 => (dref10_Same fu m1 n1).bind fun x5 => bif (!(x4 == x5)) then some true else ((dwire_Same fu m1 m1).bind fun x6 => some (!x6))) : Option Bool).bind fun (x2 : Bool) => (bif x2 then some false else (bif (!may1) then ((bif head1 then (bif (b1.2 == some 1) then ((some ((b1.1.length : Int) == 0)).bind fun x8 => some x8) else some false) else some false : Option Bool).bind fun (x7 : Bool) => some x7) else (bif head1 then (bif b1.2.isNone then ((dref10_Put fu m1).bind fun x9 => some (b1.1 == x9)) else some false) else some false)))))
section
attribute [local irreducible] awp aops DP PCall ACall Decidable.decide
theorem dlaw10_WirePuts_l {fu : Nat} {m1 : tMsg} {n1 : tMsg} {r : Bool} (h : dlaw10_WirePuts fu m1 n1 = some r) : PCall Try.prog 8 [.agg [.int .i64 m1.Kind, .int .i64 m1.Sub, .int .i64 m1.Version, .int .i64 m1.Home, .int .i64 m1.Rect.X1, .int .i64 m1.Rect.Y1, .int .i64 m1.Rect.X2, .int .i64 m1.Rect.Y2, .str (sB m1.Filter), .int .i64 m1.Event.Pub, .int .u32 m1.Event.Seq, .int .i64 m1.Event.At.X, .int .i64 m1.Event.At.Y, .sl (m1.Event.Attrs.map c_tAttr)], .agg [.int .i64 n1.Kind, .int .i64 n1.Sub, .int .i64 n1.Version, .int .i64 n1.Home, .int .i64 n1.Rect.X1, .int .i64 n1.Rect.Y1, .int .i64 n1.Rect.X2, .int .i64 n1.Rect.Y2, .str (sB n1.Filter), .int .i64 n1.Event.Pub, .int .u32 n1.Event.Seq, .int .i64 n1.Event.At.X, .int .i64 n1.Event.At.Y, .sl (n1.Event.Attrs.map c_tAttr)]] (· = .bool r) := by
  rw [dlaw10_WirePuts] at h
  refine pcall_body Try.func8 rfl (by kernel_rfl) (by rfl) ?_
  refine awp_seq ?_
  refine awp_region ?_
  refine rb rfl rfl ?_
  refine rb rfl rfl ?_
  refine rv rfl rfl ?_
  refine rn ?_
  refine awp_seq ?_
  refine awp_region ?_
  obtain ⟨head1, hx1, h⟩ := bi h
  refine rc1 rfl rfl rfl (dlaw10_up_l hx1) ?_
  refine rv rfl rfl ?_
  refine rn ?_
  refine awp_seq ?_
  refine awp_region ?_
  refine rv rfl rfl ?_
  obtain ⟨few1, hx2, h⟩ := bi h
  refine rc1 rfl rfl rfl (dref10_Small_l hx2) ?_
  refine rv rfl rfl ?_
  refine rn ?_
  refine awp_seq ?_
  refine awp_region ?_
  refine rv rfl rfl ?_
  obtain ⟨small1, hx3, h⟩ := bi h
  refine rc1 rfl rfl rfl (dref10_Small_l hx3) ?_
  refine rv rfl rfl ?_
  refine rn ?_
  refine awp_seq ?_
  refine awp_seq ?_
  obtain ⟨o4, ho5, h⟩ := bi h
  refine awp_cut1 (fun x => x = o4) (fun (x1 : Bool) => ⟨[(2, .ptr 0 0), (3, .ptr 1 0), (5, .bool head1), (21, .bool x1)], [(0, 0, .int .i64 m1.Kind), (0, 1, .int .i64 m1.Sub), (0, 2, .int .i64 m1.Version), (0, 3, .int .i64 m1.Home), (0, 4, .int .i64 m1.Rect.X1), (0, 5, .int .i64 m1.Rect.Y1), (0, 6, .int .i64 m1.Rect.X2), (0, 7, .int .i64 m1.Rect.Y2), (0, 8, .str (sB m1.Filter)), (0, 9, .int .i64 m1.Event.Pub), (0, 10, .int .u32 m1.Event.Seq), (0, 11, .int .i64 m1.Event.At.X), (0, 12, .int .i64 m1.Event.At.Y), (0, 13, .sl (m1.Event.Attrs.map c_tAttr)), (1, 0, .int .i64 n1.Kind), (1, 1, .int .i64 n1.Sub), (1, 2, .int .i64 n1.Version), (1, 3, .int .i64 n1.Home), (1, 4, .int .i64 n1.Rect.X1), (1, 5, .int .i64 n1.Rect.Y1), (1, 6, .int .i64 n1.Rect.X2), (1, 7, .int .i64 n1.Rect.Y2), (1, 8, .str (sB n1.Filter)), (1, 9, .int .i64 n1.Event.Pub), (1, 10, .int .u32 n1.Event.Seq), (1, 11, .int .i64 n1.Event.At.X), (1, 12, .int .i64 n1.Event.At.Y), (1, 13, .sl (n1.Event.Attrs.map c_tAttr))], [], 2⟩) ?_ ?_
  · refine awp_region ?_
    refine rvs 3 rfl ?_
    refine gs rfl rfl rfl rfl rfl (fun hg => ?_) (fun hg => ?_)
    · have ho5 := cF hg ho5
      refine rv rfl rfl ?_
      refine gy rfl rfl rfl ?_
      refine rv rfl rfl ?_
      refine rv rfl rfl ?_
      refine rn ?_
      cases ho5
      exact cut_n [0, 1] rfl rfl ⟨rfl, rfl, zA rfl rfl rfl (zA rfl rfl rfl (zA rfl rfl rfl (zA rfl rfl rfl (trivial)))), zC rfl rfl rfl rfl (zC rfl rfl rfl rfl (zC rfl rfl rfl rfl (zC rfl rfl rfl rfl (zC rfl rfl rfl rfl (zC rfl rfl rfl rfl (zC rfl rfl rfl rfl (zC rfl rfl rfl rfl (zC rfl rfl rfl rfl (zC rfl rfl rfl rfl (zC rfl rfl rfl rfl (zC rfl rfl rfl rfl (zC rfl rfl rfl rfl (zC rfl rfl rfl rfl (zC rfl rfl rfl rfl (zC rfl rfl rfl rfl (zC rfl rfl rfl rfl (zC rfl rfl rfl rfl (zC rfl rfl rfl rfl (zC rfl rfl rfl rfl (zC rfl rfl rfl rfl (zC rfl rfl rfl rfl (zC rfl rfl rfl rfl (zC rfl rfl rfl rfl (zC rfl rfl rfl rfl (zC rfl rfl rfl rfl (zC rfl rfl rfl rfl (zC rfl rfl rfl rfl (trivial)))))))))))))))))))))))))))), trivial⟩
    · have ho5 := cT hg ho5
      refine gn rfl rfl rfl rfl rfl ?_
      refine rv rfl rfl ?_
      refine rn ?_
      cases ho5
      exact cut_n [0, 1] rfl rfl ⟨rfl, rfl, zA rfl rfl rfl (zA rfl rfl rfl (zA rfl rfl rfl (zA rfl rfl rfl (trivial)))), zC rfl rfl rfl rfl (zC rfl rfl rfl rfl (zC rfl rfl rfl rfl (zC rfl rfl rfl rfl (zC rfl rfl rfl rfl (zC rfl rfl rfl rfl (zC rfl rfl rfl rfl (zC rfl rfl rfl rfl (zC rfl rfl rfl rfl (zC rfl rfl rfl rfl (zC rfl rfl rfl rfl (zC rfl rfl rfl rfl (zC rfl rfl rfl rfl (zC rfl rfl rfl rfl (zC rfl rfl rfl rfl (zC rfl rfl rfl rfl (zC rfl rfl rfl rfl (zC rfl rfl rfl rfl (zC rfl rfl rfl rfl (zC rfl rfl rfl rfl (zC rfl rfl rfl rfl (zC rfl rfl rfl rfl (zC rfl rfl rfl rfl (zC rfl rfl rfl rfl (zC rfl rfl rfl rfl (zC rfl rfl rfl rfl (zC rfl rfl rfl rfl (zC rfl rfl rfl rfl (trivial)))))))))))))))))))))))))))), trivial⟩
  · rintro x1 rfl
    change awp _ _ _ _ _ ⟨_, _, _, _⟩
    refine cs_ rfl (fun hc => ?_) (fun hc => ?_)
    · have h := cT hc h
      refine awp_seq ?_
      refine awp_region ?_
      refine rvs 2 rfl ?_
      refine rn ?_
      refine awp_ret ?_
      cases h
      repeat (first | refine then_ret ?_ | refine inBlock_ret ?_ | refine cut_r ?_)
      exact rr rfl rfl rfl
    · have h := cF hc h
      refine awp_skip ?_
      refine awp_seq ?_
      refine awp_region ?_
      refine rv rfl rfl ?_
      obtain ⟨may1, hx6, h⟩ := bi h
      refine rc1 rfl rfl rfl (dref10_May_l hx6) ?_
      refine rv rfl rfl ?_
      refine rn ?_
      refine awp_seq ?_
      refine awp_region ?_
      refine rv rfl rfl ?_
      obtain ⟨b1, hx7, h⟩ := bi h
      refine rc1 rfl rfl rfl (dwire_Put_l hx7) ?_
      refine rvs 5 rfl ?_
      refine rn ?_
      refine awp_seq ?_
      refine awp_seq ?_
      obtain ⟨o8, ho9, h⟩ := bi h
      refine awp_cut1 (fun x => x = o8) (fun (x2 : Bool) => ⟨[(2, .ptr 0 0), (5, .bool head1), (8, .bool may1), (9, .sl (b1.1.map cU8)), (10, .err 31 b1.2), (48, .bool x2)], [(0, 0, .int .i64 m1.Kind), (0, 1, .int .i64 m1.Sub), (0, 2, .int .i64 m1.Version), (0, 3, .int .i64 m1.Home), (0, 4, .int .i64 m1.Rect.X1), (0, 5, .int .i64 m1.Rect.Y1), (0, 6, .int .i64 m1.Rect.X2), (0, 7, .int .i64 m1.Rect.Y2), (0, 8, .str (sB m1.Filter)), (0, 9, .int .i64 m1.Event.Pub), (0, 10, .int .u32 m1.Event.Seq), (0, 11, .int .i64 m1.Event.At.X), (0, 12, .int .i64 m1.Event.At.Y), (0, 13, .sl (m1.Event.Attrs.map c_tAttr))], [], 1⟩) ?_ ?_
      · refine awp_dp (m := 19) Try.mix (by kernel_rfl) (by kernel_rfl) (by kernel_rfl) (by kernel_rfl) (by kernel_rfl) (by kernel_rfl) (by kernel_rfl) ?_
        refine dv rfl rfl (fun _ => rfl) ?_
        obtain ⟨x3, hx10, ho9⟩ := bi ho9
        refine dc rfl rfl rfl rfl (fun _ => rfl) (fun _ => (dwire_May_l hx10)) ?_
        refine dv rfl rfl (fun _ => rfl) ?_
        refine dv rfl rfl (fun _ => rfl) ?_
        refine dv rfl rfl (fun _ => rfl) ?_
        refine ds rfl rfl (fun hg => ?_) (fun hg => ?_)
        · have ho9 := cT hg ho9
          refine dno rfl rfl ?_
          refine dno rfl rfl ?_
          refine dno rfl rfl ?_
          refine dno rfl rfl ?_
          refine dno rfl rfl ?_
          refine dno rfl rfl ?_
          refine dno rfl rfl ?_
          refine dv rfl rfl (fun _ => rfl) ?_
          refine dv rfl rfl (fun _ => rfl) ?_
          refine dno rfl rfl ?_
          refine dno rfl rfl ?_
          refine dno rfl rfl ?_
          refine dno rfl rfl ?_
          refine dv rfl rfl (fun _ => rfl) ?_
          refine dn ?_
          refine rn ?_
          cases ho9
          exact cut_n [0] rfl rfl ⟨rfl, rfl, zA rfl rfl rfl (zA rfl rfl rfl (zA rfl rfl rfl (zA rfl rfl rfl (zA rfl rfl rfl (zA rfl rfl rfl (trivial)))))), zC rfl rfl rfl rfl (zC rfl rfl rfl rfl (zC rfl rfl rfl rfl (zC rfl rfl rfl rfl (zC rfl rfl rfl rfl (zC rfl rfl rfl rfl (zC rfl rfl rfl rfl (zC rfl rfl rfl rfl (zC rfl rfl rfl rfl (zC rfl rfl rfl rfl (zC rfl rfl rfl rfl (zC rfl rfl rfl rfl (zC rfl rfl rfl rfl (zC rfl rfl rfl rfl (trivial)))))))))))))), trivial⟩
        · have ho9 := cF hg ho9
          refine dv rfl rfl (fun _ => rfl) ?_
          refine dv rfl rfl (fun _ => rfl) ?_
          obtain ⟨x4, hx11, ho9⟩ := bi ho9
          refine dc rfl rfl rfl rfl (fun _ => rfl) (fun _ => (dwire_Same_l hx11)) ?_
          refine dv rfl rfl (fun _ => rfl) ?_
          refine dv rfl rfl (fun _ => rfl) ?_
          obtain ⟨x5, hx12, ho9⟩ := bi ho9
          refine dc rfl rfl rfl rfl (fun _ => rfl) (fun _ => (dref10_Same_l hx12)) ?_
          refine dv rfl rfl (fun _ => rfl) ?_
          refine dv rfl rfl (fun _ => rfl) ?_
          refine dv rfl rfl (fun _ => rfl) ?_
          refine ds rfl rfl (fun hg => ?_) (fun hg => ?_)
          · have ho9 := cT hg ho9
            refine dno rfl rfl ?_
            refine dno rfl rfl ?_
            refine dno rfl rfl ?_
            refine dno rfl rfl ?_
            refine dv rfl rfl (fun _ => rfl) ?_
            refine dn ?_
            refine rn ?_
            cases ho9
            exact cut_n [0] rfl rfl ⟨rfl, rfl, zA rfl rfl rfl (zA rfl rfl rfl (zA rfl rfl rfl (zA rfl rfl rfl (zA rfl rfl rfl (zA rfl rfl rfl (trivial)))))), zC rfl rfl rfl rfl (zC rfl rfl rfl rfl (zC rfl rfl rfl rfl (zC rfl rfl rfl rfl (zC rfl rfl rfl rfl (zC rfl rfl rfl rfl (zC rfl rfl rfl rfl (zC rfl rfl rfl rfl (zC rfl rfl rfl rfl (zC rfl rfl rfl rfl (zC rfl rfl rfl rfl (zC rfl rfl rfl rfl (zC rfl rfl rfl rfl (zC rfl rfl rfl rfl (trivial)))))))))))))), trivial⟩
          · have ho9 := cF hg ho9
            refine dv rfl rfl (fun _ => rfl) ?_
            refine dv rfl rfl (fun _ => rfl) ?_
            obtain ⟨x6, hx13, ho9⟩ := bi ho9
            refine dc rfl rfl rfl rfl (fun _ => rfl) (fun _ => (dwire_Same_l hx13)) ?_
            refine dv rfl rfl (fun _ => rfl) ?_
            refine dv rfl rfl (fun _ => rfl) ?_
            refine dn ?_
            refine rn ?_
            cases ho9
            exact cut_n [0] rfl rfl ⟨rfl, rfl, zA rfl rfl rfl (zA rfl rfl rfl (zA rfl rfl rfl (zA rfl rfl rfl (zA rfl rfl rfl (zA rfl rfl rfl (trivial)))))), zC rfl rfl rfl rfl (zC rfl rfl rfl rfl (zC rfl rfl rfl rfl (zC rfl rfl rfl rfl (zC rfl rfl rfl rfl (zC rfl rfl rfl rfl (zC rfl rfl rfl rfl (zC rfl rfl rfl rfl (zC rfl rfl rfl rfl (zC rfl rfl rfl rfl (zC rfl rfl rfl rfl (zC rfl rfl rfl rfl (zC rfl rfl rfl rfl (zC rfl rfl rfl rfl (trivial)))))))))))))), trivial⟩
      · rintro x2 rfl
        change awp _ _ _ _ _ ⟨_, _, _, _⟩
        refine cs_ rfl (fun hc => ?_) (fun hc => ?_)
        · have h := cT hc h
          refine awp_seq ?_
          refine awp_region ?_
          refine rv rfl rfl ?_
          refine rn ?_
          refine awp_ret ?_
          cases h
          repeat (first | refine then_ret ?_ | refine inBlock_ret ?_ | refine cut_r ?_)
          exact rr rfl rfl rfl
        · have h := cF hc h
          refine awp_skip ?_
          refine awp_seq ?_
          refine awp_seq ?_
          refine awp_region ?_
          refine rvs 2 rfl ?_
          refine rn ?_
          refine cs_ rfl (fun hc => ?_) (fun hc => ?_)
          · have h := cT hc h
            refine awp_seq ?_
            obtain ⟨o14, ho15, h⟩ := bi h
            refine awp_cut1 (fun x => x = o14) (fun (x7 : Bool) => ⟨[(4, .bool x7)], [], [], 0⟩) ?_ ?_
            · refine awp_region ?_
              refine rvs 2 rfl ?_
              refine gs rfl rfl rfl rfl rfl (fun hg => ?_) (fun hg => ?_)
              · have ho15 := cT hg ho15
                refine rv rfl rfl ?_
                refine gy rfl rfl rfl ?_
                refine rv rfl rfl ?_
                refine gy rfl rfl rfl ?_
                refine rV rfl (va_eeq rfl rfl rfl rfl rfl rfl (fun _ => rfl)) ?_
                refine rvs 2 rfl ?_
                refine gs rfl rfl rfl rfl rfl (fun hg => ?_) (fun hg => ?_)
                · have ho15 := cT hg ho15
                  refine rv rfl rfl ?_
                  refine gy rfl rfl rfl ?_
                  refine rv rfl rfl ?_
                  refine rt ((lM cU8 b1.1)) ?_
                  refine gy rfl rfl rfl ?_
                  refine rv rfl rfl ?_
                  refine rvs 2 rfl ?_
                  obtain ⟨x8, hx16, ho15⟩ := bs ho15
                  refine rt (eb' hx16) ?_
                  refine rn ?_
                  cases ho15
                  exact cut_n [] rfl rfl ⟨rfl, rfl, zA rfl rfl rfl (trivial), trivial, trivial⟩
                · have ho15 := cF hg ho15
                  refine gn rfl rfl rfl rfl rfl ?_
                  refine gn rfl rfl rfl rfl rfl ?_
                  refine rvs 2 rfl ?_
                  refine rn ?_
                  cases ho15
                  exact cut_n [] rfl rfl ⟨rfl, rfl, zA rfl rfl rfl (trivial), trivial, trivial⟩
              · have ho15 := cF hg ho15
                refine gn rfl rfl rfl rfl rfl ?_
                refine gn rfl rfl rfl rfl rfl ?_
                refine rvs 2 rfl ?_
                refine gn rfl rfl rfl rfl rfl ?_
                refine gn rfl rfl rfl rfl rfl ?_
                refine gn rfl rfl rfl rfl rfl ?_
                refine rvs 2 rfl ?_
                refine rn ?_
                cases ho15
                exact cut_n [] rfl rfl ⟨rfl, rfl, zA rfl rfl rfl (trivial), trivial, trivial⟩
            · rintro x7 rfl
              change awp _ _ _ _ _ ⟨_, _, _, _⟩
              refine awp_ret ?_
              cases h
              repeat (first | refine then_ret ?_ | refine inBlock_ret ?_ | refine cut_r ?_)
              exact rr rfl rfl rfl
          · have h := cF hc h
            refine awp_skip ?_
            refine awp_seq ?_
            refine awp_dp (m := 13) Try.mix (by kernel_rfl) (by kernel_rfl) (by kernel_rfl) (by kernel_rfl) (by kernel_rfl) (by kernel_rfl) (by kernel_rfl) ?_
            refine dv rfl rfl (fun _ => rfl) ?_
            refine dv rfl rfl (fun _ => rfl) ?_
            refine ds rfl rfl (fun hg => ?_) (fun hg => ?_)
            · have h := cT hg h
              refine dv rfl rfl (fun _ => rfl) ?_
              refine dV rfl rfl (fun _ => va_enil rfl rfl rfl) ?_
              refine dv rfl rfl (fun _ => rfl) ?_
              refine dv rfl rfl (fun _ => rfl) ?_
              refine ds rfl rfl (fun hg => ?_) (fun hg => ?_)
              · have h := cT hg h
                refine dv rfl rfl (fun _ => rfl) ?_
                refine dV rfl rfl (fun _ => va_textS (l := b1.1) rfl rfl rfl rfl rfl rfl rfl rfl) ?_
                refine dv rfl rfl (fun _ => rfl) ?_
                obtain ⟨x9, hx17, h⟩ := bi h
                refine dc rfl rfl rfl rfl (fun _ => rfl) (fun _ => (dref10_Put_l hx17)) ?_
                refine dV rfl rfl (fun _ => va_textS (l := x9) rfl rfl rfl rfl rfl rfl rfl rfl) ?_
                refine dv rfl rfl (fun _ => rfl) ?_
                refine dt (sEq b1.1 x9) ?_
                refine dv rfl rfl (fun _ => rfl) ?_
                refine dn ?_
                refine rv rfl rfl ?_
                refine rn ?_
                refine awp_ret ?_
                cases h
                repeat (first | refine then_ret ?_ | refine inBlock_ret ?_ | refine cut_r ?_)
                exact rr rfl rfl rfl
              · have h := cF hg h
                refine dno rfl rfl ?_
                refine dno rfl rfl ?_
                refine dno rfl rfl ?_
                refine dno rfl rfl ?_
                refine dno rfl rfl ?_
                refine dno rfl rfl ?_
                refine dv rfl rfl (fun _ => rfl) ?_
                refine dn ?_
                refine rv rfl rfl ?_
                refine rn ?_
                refine awp_ret ?_
                cases h
                repeat (first | refine then_ret ?_ | refine inBlock_ret ?_ | refine cut_r ?_)
                exact rr rfl rfl rfl
            · have h := cF hg h
              refine dno rfl rfl ?_
              refine dno rfl rfl ?_
              refine dv rfl rfl (fun _ => rfl) ?_
              refine dv rfl rfl (fun _ => rfl) ?_
              refine dno rfl rfl ?_
              refine dno rfl rfl ?_
              refine dno rfl rfl ?_
              refine dno rfl rfl ?_
              refine dno rfl rfl ?_
              refine dno rfl rfl ?_
              refine dv rfl rfl (fun _ => rfl) ?_
              refine dn ?_
              refine rv rfl rfl ?_
              refine rn ?_
              refine awp_ret ?_
              cases h
              repeat (first | refine then_ret ?_ | refine inBlock_ret ?_ | refine cut_r ?_)
              exact rr rfl rfl rfl
end

/-- `plover/ploverlaw10.WireGets` -/
def dlaw10_WireGets (fu : Nat) (b1 : Str) : Option Bool :=
  (dlaw10_up fu ).bind fun head1 => bif (decide ((b1.length : Int) > 5000)) then some head1 else ((dwire_Get fu b1).bind fun e1 => (dref10_Get fu b1).bind fun bad1 => bif head1 then ((dlaw00_Code fu e1.2).bind fun x1 => bif (x1 == bad1.2) then ((dref10_Same fu e1.1 bad1.1).bind fun x2 => some x2) else some false) else some false)
section
attribute [local irreducible] awp aops DP PCall ACall Decidable.decide
theorem dlaw10_WireGets_l {fu : Nat} {b1 : Str} {r : Bool} (h : dlaw10_WireGets fu b1 = some r) : PCall Try.prog 7 [.sl (b1.map cU8)] (· = .bool r) := by
  rw [dlaw10_WireGets] at h
  refine pcall_body Try.func7 rfl (by kernel_rfl) (by rfl) ?_
  refine awp_seq ?_
  refine awp_region ?_
  refine rv rfl rfl ?_
  refine rn ?_
  refine awp_seq ?_
  refine awp_region ?_
  obtain ⟨head1, hx1, h⟩ := bi h
  refine rc1 rfl rfl rfl (dlaw10_up_l hx1) ?_
  refine rv rfl rfl ?_
  refine rn ?_
  refine awp_seq ?_
  refine awp_seq ?_
  refine awp_region ?_
  refine rv rfl rfl ?_
  refine rv rfl rfl ?_
  refine rt ((lM cU8 b1)) ?_
  refine rv rfl rfl ?_
  refine rn ?_
  refine cs_ rfl (fun hc => ?_) (fun hc => ?_)
  · have h := cT hc h
    refine awp_seq ?_
    refine awp_region ?_
    refine rvs 2 rfl ?_
    refine rn ?_
    refine awp_ret ?_
    cases h
    repeat (first | refine then_ret ?_ | refine inBlock_ret ?_ | refine cut_r ?_)
    exact rr rfl rfl rfl
  · have h := cF hc h
    refine awp_skip ?_
    refine awp_seq ?_
    refine awp_region ?_
    refine rv rfl rfl ?_
    obtain ⟨e1, hx2, h⟩ := bi h
    refine rc1 rfl rfl rfl (dwire_Get_l hx2) ?_
    refine rvs 3 rfl ?_
    refine ra rfl rfl rfl ?_
    refine rs rfl rfl rfl rfl rfl rfl rfl ?_
    refine rv rfl rfl ?_
    refine rn ?_
    refine awp_seq ?_
    refine awp_region ?_
    refine rv rfl rfl ?_
    obtain ⟨bad1, hx3, h⟩ := bi h
    refine rc1 rfl rfl rfl (dref10_Get_l hx3) ?_
    refine rvs 3 rfl ?_
    refine ra rfl rfl rfl ?_
    refine rs rfl rfl rfl rfl rfl rfl rfl ?_
    refine rv rfl rfl ?_
    refine rn ?_
    refine awp_seq ?_
    refine awp_region ?_
    refine rvs 2 rfl ?_
    refine gs rfl rfl rfl rfl rfl (fun hg => ?_) (fun hg => ?_)
    · have h := cT hg h
      refine rv rfl rfl ?_
      refine gy rfl rfl rfl ?_
      obtain ⟨x1, hx4, h⟩ := bi h
      refine rc1 rfl rfl rfl (dlaw00_Code_l hx4) ?_
      refine gy rfl rfl rfl ?_
      refine rv rfl rfl ?_
      refine gy rfl rfl rfl ?_
      refine rv rfl rfl ?_
      refine rvs 2 rfl ?_
      refine gs rfl rfl rfl rfl rfl (fun hg => ?_) (fun hg => ?_)
      · have h := cT hg h
        refine rv rfl rfl ?_
        refine gy rfl rfl rfl ?_
        refine rv rfl rfl ?_
        refine gy rfl rfl rfl ?_
        obtain ⟨x2, hx5, h⟩ := bi h
        refine rc1 rfl rfl rfl (dref10_Same_l hx5) ?_
        refine rvs 2 rfl ?_
        refine rn ?_
        refine awp_ret ?_
        cases h
        repeat (first | refine then_ret ?_ | refine inBlock_ret ?_ | refine cut_r ?_)
        exact rr rfl rfl rfl
      · have h := cF hg h
        refine gn rfl rfl rfl rfl rfl ?_
        refine gn rfl rfl rfl rfl rfl ?_
        refine rvs 2 rfl ?_
        refine rn ?_
        refine awp_ret ?_
        cases h
        repeat (first | refine then_ret ?_ | refine inBlock_ret ?_ | refine cut_r ?_)
        exact rr rfl rfl rfl
    · have h := cF hg h
      refine gn rfl rfl rfl rfl rfl ?_
      refine gn rfl rfl rfl rfl rfl ?_
      refine gn rfl rfl rfl rfl rfl ?_
      refine rvs 2 rfl ?_
      refine gn rfl rfl rfl rfl rfl ?_
      refine gn rfl rfl rfl rfl rfl ?_
      refine gn rfl rfl rfl rfl rfl ?_
      refine rvs 2 rfl ?_
      refine rn ?_
      refine awp_ret ?_
      cases h
      repeat (first | refine then_ret ?_ | refine inBlock_ret ?_ | refine cut_r ?_)
      exact rr rfl rfl rfl
end

/-- `plover/ploverlaw10.WireBack` -/
def dlaw10_WireBack (fu : Nat) (m1 : tMsg) (b1 : Str) (cut1 : Int) : Option Bool :=
  (dlaw10_up fu ).bind fun head1 => (dref10_Small fu m1).bind fun few1 => (bif (!few1) then some true else (bif (decide ((b1.length : Int) > 5000)) then some true else some (decide (cut1 < 0))) : Option Bool).bind fun (x1 : Bool) => (bif x1 then some head1 else ((dwire_Put fu m1).bind fun x2 => (bif x2.2.isNone then ((dwire_Get fu x2.1).bind fun f1 => (bif f1.2.isSome then some true else ((dwire_Same fu m1 f1.1).bind fun x4 => bif (!x4) then some true else some ((x2.1.length : Int) == 0)) : Option Bool).bind fun (x3 : Bool) => (bif x3 then some (Sum.inr false) else ((remV .i64 cut1 (x2.1.length : Int)).bind fun q1 => (gsl x2.1 0 q1).bind fun l1 => (dwire_Get fu l1).bind fun g1 => (ap [] x2.1).bind fun h1 => (ap h1 [0]).bind fun h2 => (dwire_Get fu h2).bind fun h3 => (bif (!(g1.2 == some 6)) then some true else some (!(h3.2 == some 7)) : Option Bool).bind fun (x5 : Bool) => (bif x5 then some (Sum.inr false) else some (Sum.inl ()))))) else some (Sum.inl ()) : Option (Unit ⊕ Bool)).bind fun o => kS o fun (_ : Unit) => ((dwire_Get fu b1).bind fun f2 => bif f2.2.isSome then ((bif head1 then some (f2.1.Kind == 0) else some false : Option Bool).bind fun (x6 : Bool) => some x6) else ((dwire_Put fu f2.1).bind fun y1 => bif head1 then (bif y1.2.isNone then some (y1.1 == b1) else some false) else some false))))
section
attribute [local irreducible] awp aops DP PCall ACall Decidable.decide
theorem dlaw10_WireBack_l {fu : Nat} {m1 : tMsg} {b1 : Str} {cut1 : Int} {r : Bool} (h : dlaw10_WireBack fu m1 b1 cut1 = some r) : PCall Try.prog 9 [.agg [.int .i64 m1.Kind, .int .i64 m1.Sub, .int .i64 m1.Version, .int .i64 m1.Home, .int .i64 m1.Rect.X1, .int .i64 m1.Rect.Y1, .int .i64 m1.Rect.X2, .int .i64 m1.Rect.Y2, .str (sB m1.Filter), .int .i64 m1.Event.Pub, .int .u32 m1.Event.Seq, .int .i64 m1.Event.At.X, .int .i64 m1.Event.At.Y, .sl (m1.Event.Attrs.map c_tAttr)], .sl (b1.map cU8), .int .i64 cut1] (· = .bool r) := by
  rw [dlaw10_WireBack] at h
  refine pcall_body Try.func9 rfl (by kernel_rfl) (by rfl) ?_
  refine awp_seq ?_
  refine awp_region ?_
  refine rb rfl rfl ?_
  refine rv rfl rfl ?_
  refine rn ?_
  refine awp_seq ?_
  refine awp_region ?_
  obtain ⟨head1, hx1, h⟩ := bi h
  refine rc1 rfl rfl rfl (dlaw10_up_l hx1) ?_
  refine rv rfl rfl ?_
  refine rn ?_
  refine awp_seq ?_
  refine awp_region ?_
  refine rv rfl rfl ?_
  obtain ⟨few1, hx2, h⟩ := bi h
  refine rc1 rfl rfl rfl (dref10_Small_l hx2) ?_
  refine rv rfl rfl ?_
  refine rn ?_
  refine awp_seq ?_
  refine awp_seq ?_
  obtain ⟨o3, ho4, h⟩ := bi h
  refine awp_cut1 (fun x => x = o3) (fun (x1 : Bool) => ⟨[(1, .sl (b1.map cU8)), (2, .int .i64 cut1), (3, .ptr 0 0), (7, .bool head1), (34, .bool x1)], [(0, 0, .int .i64 m1.Kind), (0, 1, .int .i64 m1.Sub), (0, 2, .int .i64 m1.Version), (0, 3, .int .i64 m1.Home), (0, 4, .int .i64 m1.Rect.X1), (0, 5, .int .i64 m1.Rect.Y1), (0, 6, .int .i64 m1.Rect.X2), (0, 7, .int .i64 m1.Rect.Y2), (0, 8, .str (sB m1.Filter)), (0, 9, .int .i64 m1.Event.Pub), (0, 10, .int .u32 m1.Event.Seq), (0, 11, .int .i64 m1.Event.At.X), (0, 12, .int .i64 m1.Event.At.Y), (0, 13, .sl (m1.Event.Attrs.map c_tAttr))], [], 1⟩) ?_ ?_
  · refine awp_region ?_
    refine rvs 3 rfl ?_
    refine gs rfl rfl rfl rfl rfl (fun hg => ?_) (fun hg => ?_)
    · have ho4 := cF hg ho4
      refine rv rfl rfl ?_
      refine gy rfl rfl rfl ?_
      refine rv rfl rfl ?_
      refine rt ((lM cU8 b1)) ?_
      refine gy rfl rfl rfl ?_
      refine rv rfl rfl ?_
      refine rvs 2 rfl ?_
      refine gs rfl rfl rfl rfl rfl (fun hg => ?_) (fun hg => ?_)
      · have ho4 := cF hg ho4
        refine rv rfl rfl ?_
        refine gy rfl rfl rfl ?_
        refine rv rfl rfl ?_
        refine rv rfl rfl ?_
        refine rn ?_
        cases ho4
        exact cut_n [0] rfl rfl ⟨rfl, rfl, zA rfl rfl rfl (zA rfl rfl rfl (zA rfl rfl rfl (zA rfl rfl rfl (zA rfl rfl rfl (trivial))))), zC rfl rfl rfl rfl (zC rfl rfl rfl rfl (zC rfl rfl rfl rfl (zC rfl rfl rfl rfl (zC rfl rfl rfl rfl (zC rfl rfl rfl rfl (zC rfl rfl rfl rfl (zC rfl rfl rfl rfl (zC rfl rfl rfl rfl (zC rfl rfl rfl rfl (zC rfl rfl rfl rfl (zC rfl rfl rfl rfl (zC rfl rfl rfl rfl (zC rfl rfl rfl rfl (trivial)))))))))))))), trivial⟩
      · have ho4 := cT hg ho4
        refine gn rfl rfl rfl rfl rfl ?_
        refine rv rfl rfl ?_
        refine rn ?_
        cases ho4
        exact cut_n [0] rfl rfl ⟨rfl, rfl, zA rfl rfl rfl (zA rfl rfl rfl (zA rfl rfl rfl (zA rfl rfl rfl (zA rfl rfl rfl (trivial))))), zC rfl rfl rfl rfl (zC rfl rfl rfl rfl (zC rfl rfl rfl rfl (zC rfl rfl rfl rfl (zC rfl rfl rfl rfl (zC rfl rfl rfl rfl (zC rfl rfl rfl rfl (zC rfl rfl rfl rfl (zC rfl rfl rfl rfl (zC rfl rfl rfl rfl (zC rfl rfl rfl rfl (zC rfl rfl rfl rfl (zC rfl rfl rfl rfl (zC rfl rfl rfl rfl (trivial)))))))))))))), trivial⟩
    · have ho4 := cT hg ho4
      refine gn rfl rfl rfl rfl rfl ?_
      refine gn rfl rfl rfl rfl rfl ?_
      refine rvs 2 rfl ?_
      refine gn rfl rfl rfl rfl rfl ?_
      refine gn rfl rfl rfl rfl rfl ?_
      refine rv rfl rfl ?_
      refine rn ?_
      cases ho4
      exact cut_n [0] rfl rfl ⟨rfl, rfl, zA rfl rfl rfl (zA rfl rfl rfl (zA rfl rfl rfl (zA rfl rfl rfl (zA rfl rfl rfl (trivial))))), zC rfl rfl rfl rfl (zC rfl rfl rfl rfl (zC rfl rfl rfl rfl (zC rfl rfl rfl rfl (zC rfl rfl rfl rfl (zC rfl rfl rfl rfl (zC rfl rfl rfl rfl (zC rfl rfl rfl rfl (zC rfl rfl rfl rfl (zC rfl rfl rfl rfl (zC rfl rfl rfl rfl (zC rfl rfl rfl rfl (zC rfl rfl rfl rfl (zC rfl rfl rfl rfl (trivial)))))))))))))), trivial⟩
  · rintro x1 rfl
    change awp _ _ _ _ _ ⟨_, _, _, _⟩
    refine cs_ rfl (fun hc => ?_) (fun hc => ?_)
    · have h := cT hc h
      refine awp_seq ?_
      refine awp_region ?_
      refine rvs 2 rfl ?_
      refine rn ?_
      refine awp_ret ?_
      cases h
      repeat (first | refine then_ret ?_ | refine inBlock_ret ?_ | refine cut_r ?_)
      exact rr rfl rfl rfl
    · have h := cF hc h
      refine awp_skip ?_
      refine awp_seq ?_
      refine awp_region ?_
      refine rv rfl rfl ?_
      obtain ⟨x2, hx5, h⟩ := bi h
      refine rc1 rfl rfl rfl (dwire_Put_l hx5) ?_
      refine rvs 5 rfl ?_
      refine rn ?_
      refine awp_seq ?_
      refine awp_seq ?_
      refine awp_region ?_
      refine rv rfl rfl ?_
      refine rV rfl (va_enil rfl rfl rfl) ?_
      refine rn ?_
      obtain ⟨o6, ho7, h⟩ := bi h
      refine awp_cut1 (fun x => Sum.inl x = o6) (fun (_ : Unit) => ⟨[(1, .sl (b1.map cU8)), (7, .bool head1)], [], [], 0⟩) ?_ ?_
      · refine cs_ rfl (fun hc => ?_) (fun hc => ?_)
        · have ho7 := cT hc ho7
          refine awp_seq ?_
          refine awp_region ?_
          refine rv rfl rfl ?_
          obtain ⟨f1, hx8, ho7⟩ := bi ho7
          refine rc1 rfl rfl rfl (dwire_Get_l hx8) ?_
          refine rvs 3 rfl ?_
          refine ra rfl rfl rfl ?_
          refine rs rfl rfl rfl rfl rfl rfl rfl ?_
          refine rv rfl rfl ?_
          refine rn ?_
          refine awp_seq ?_
          refine awp_seq ?_
          obtain ⟨o9, ho10, ho7⟩ := bi ho7
          refine awp_cut1 (fun x => x = o9) (fun (x3 : Bool) => ⟨[(1, .sl (b1.map cU8)), (2, .int .i64 cut1), (7, .bool head1), (9, .sl (x2.1.map cU8)), (60, .bool x3)], [], [], 0⟩) ?_ ?_
          · refine awp_region ?_
            refine rv rfl rfl ?_
            refine rV rfl (va_ennil rfl rfl rfl) ?_
            refine rv rfl rfl ?_
            refine gs rfl rfl rfl rfl rfl (fun hg => ?_) (fun hg => ?_)
            · have ho10 := cF hg ho10
              refine rv rfl rfl ?_
              refine gy rfl rfl rfl ?_
              refine rv rfl rfl ?_
              refine gy rfl rfl rfl ?_
              obtain ⟨x4, hx11, ho10⟩ := bi ho10
              refine rc1 rfl rfl rfl (dwire_Same_l hx11) ?_
              refine gy rfl rfl rfl ?_
              refine rv rfl rfl ?_
              refine rvs 2 rfl ?_
              refine gs rfl rfl rfl rfl rfl (fun hg => ?_) (fun hg => ?_)
              · have ho10 := cF hg ho10
                refine rv rfl rfl ?_
                refine gy rfl rfl rfl ?_
                refine rv rfl rfl ?_
                refine rt ((lM cU8 x2.1)) ?_
                refine gy rfl rfl rfl ?_
                refine rv rfl rfl ?_
                refine rv rfl rfl ?_
                refine rn ?_
                cases ho10
                exact cut_n [] rfl rfl ⟨rfl, rfl, zA rfl rfl rfl (zA rfl rfl rfl (zA rfl rfl rfl (zA rfl rfl rfl (zA rfl rfl rfl (trivial))))), trivial, trivial⟩
              · have ho10 := cT hg ho10
                refine gn rfl rfl rfl rfl rfl ?_
                refine gn rfl rfl rfl rfl rfl ?_
                refine rv rfl rfl ?_
                refine rn ?_
                cases ho10
                exact cut_n [] rfl rfl ⟨rfl, rfl, zA rfl rfl rfl (zA rfl rfl rfl (zA rfl rfl rfl (zA rfl rfl rfl (zA rfl rfl rfl (trivial))))), trivial, trivial⟩
            · have ho10 := cT hg ho10
              refine gn rfl rfl rfl rfl rfl ?_
              refine gn rfl rfl rfl rfl rfl ?_
              refine gn rfl rfl rfl rfl rfl ?_
              refine rvs 2 rfl ?_
              refine gn rfl rfl rfl rfl rfl ?_
              refine gn rfl rfl rfl rfl rfl ?_
              refine gn rfl rfl rfl rfl rfl ?_
              refine rv rfl rfl ?_
              refine rn ?_
              cases ho10
              exact cut_n [] rfl rfl ⟨rfl, rfl, zA rfl rfl rfl (zA rfl rfl rfl (zA rfl rfl rfl (zA rfl rfl rfl (zA rfl rfl rfl (trivial))))), trivial, trivial⟩
          · rintro x3 rfl
            change awp _ _ _ _ _ ⟨_, _, _, _⟩
            refine cs_ rfl (fun hc => ?_) (fun hc => ?_)
            · have ho7 := cT hc ho7
              refine awp_seq ?_
              refine awp_region ?_
              refine rv rfl rfl ?_
              refine rn ?_
              refine awp_ret ?_
              cases ho7
              have h := ksr h
              subst h
              repeat (first | refine then_ret ?_ | refine inBlock_ret ?_ | refine cut_r ?_)
              exact rr rfl rfl rfl
            · have ho7 := cF hc ho7
              refine awp_skip ?_
              refine awp_seq ?_
              refine awp_region ?_
              refine rvs 3 rfl ?_
              refine rv rfl rfl ?_
              refine rt ((lM cU8 x2.1)) ?_
              obtain ⟨q1, hx12, ho7⟩ := bi ho7
              refine rV rfl (va_rem rfl rfl hx12) ?_
              obtain ⟨l1, hx13, ho7⟩ := bi ho7
              refine rV rfl (va_slsub (c := cU8) rfl rfl rfl rfl rfl ⟨_, rfl⟩ hx13 (fun _ => rfl)) ?_
              obtain ⟨g1, hx14, ho7⟩ := bi ho7
              refine rc1 rfl rfl rfl (dwire_Get_l hx14) ?_
              refine rvs 3 rfl ?_
              refine ra rfl rfl rfl ?_
              refine rs rfl rfl rfl rfl rfl rfl rfl ?_
              refine rv rfl rfl ?_
              refine rn ?_
              refine awp_seq ?_
              refine awp_region ?_
              refine rbs false rfl rfl rfl rfl rfl rfl rfl rfl rfl rfl ?_
              refine rv rfl rfl ?_
              obtain ⟨h1, hx15, ho7⟩ := bi ho7
              refine rap false (xs := [].map cU8) (ys := x2.1.map cU8) rfl rfl rfl rfl rfl rfl rfl (.own rfl rfl) (.sl rfl rfl rfl) (wM (fun _ => by rfl) _) (oM (fun _ => by rfl) _) (apB cU8 rfl hx15) rfl ?_
              refine rk (congrArg (Kind.row _) (apM cU8 hx15)) ?_
              refine rbs false rfl rfl rfl rfl rfl rfl rfl rfl rfl rfl ?_
              obtain ⟨h2, hx16, ho7⟩ := bi ho7
              refine rap false (xs := h1.map cU8) (ys := [0].map cU8) rfl rfl rfl rfl rfl rfl rfl (.own rfl rfl) (.sl rfl rfl rfl) (wM (fun _ => by rfl) _) (oM (fun _ => by rfl) _) (apB cU8 rfl hx16) rfl ?_
              refine rk (congrArg (Kind.row _) (apM cU8 hx16)) ?_
              obtain ⟨h3, hx17, ho7⟩ := bi ho7
              refine rc1 rfl rfl rfl (dwire_Get_l hx17) ?_
              refine rvs 3 rfl ?_
              refine ra rfl rfl rfl ?_
              refine rs rfl rfl rfl rfl rfl rfl rfl ?_
              refine rv rfl rfl ?_
              refine rn ?_
              refine awp_seq ?_
              obtain ⟨o18, ho19, ho7⟩ := bi ho7
              refine awp_cut1 (fun x => x = o18) (fun (x5 : Bool) => ⟨[(1, .sl (b1.map cU8)), (7, .bool head1), (87, .bool x5)], [], [], 0⟩) ?_ ?_
              · refine awp_region ?_
                refine rvs 2 rfl ?_
                refine rV rfl (va_ene rfl rfl rfl rfl rfl rfl (fun _ => rfl)) ?_
                refine rv rfl rfl ?_
                refine gs rfl rfl rfl rfl rfl (fun hg => ?_) (fun hg => ?_)
                · have ho19 := cF hg ho19
                  refine rv rfl rfl ?_
                  refine gy rfl rfl rfl ?_
                  refine rv rfl rfl ?_
                  refine gy rfl rfl rfl ?_
                  refine rV rfl (va_ene rfl rfl rfl rfl rfl rfl (fun _ => rfl)) ?_
                  refine rv rfl rfl ?_
                  refine rn ?_
                  cases ho19
                  exact cut_n [] rfl rfl ⟨rfl, rfl, zA rfl rfl rfl (zA rfl rfl rfl (zA rfl rfl rfl (trivial))), trivial, trivial⟩
                · have ho19 := cT hg ho19
                  refine gn rfl rfl rfl rfl rfl ?_
                  refine gn rfl rfl rfl rfl rfl ?_
                  refine rv rfl rfl ?_
                  refine rn ?_
                  cases ho19
                  exact cut_n [] rfl rfl ⟨rfl, rfl, zA rfl rfl rfl (zA rfl rfl rfl (zA rfl rfl rfl (trivial))), trivial, trivial⟩
              · rintro x5 rfl
                change awp _ _ _ _ _ ⟨_, _, _, _⟩
                refine cs_ rfl (fun hc => ?_) (fun hc => ?_)
                · have ho7 := cT hc ho7
                  refine awp_seq ?_
                  refine awp_region ?_
                  refine rv rfl rfl ?_
                  refine rn ?_
                  refine awp_ret ?_
                  cases ho7
                  have h := ksr h
                  subst h
                  repeat (first | refine then_ret ?_ | refine inBlock_ret ?_ | refine cut_r ?_)
                  exact rr rfl rfl rfl
                · have ho7 := cF hc ho7
                  refine awp_skip ?_
                  cases ho7
                  exact cut_n [] rfl rfl ⟨rfl, rfl, zA rfl rfl rfl (zA rfl rfl rfl (trivial)), trivial, trivial⟩
        · have ho7 := cF hc ho7
          refine awp_skip ?_
          cases ho7
          exact cut_n [] rfl rfl ⟨rfl, rfl, zA rfl rfl rfl (zA rfl rfl rfl (trivial)), trivial, trivial⟩
      · rintro _ rfl
        have h := ksl h
        change awp _ _ _ _ _ ⟨_, _, _, _⟩
        refine awp_seq ?_
        refine awp_region ?_
        refine rv rfl rfl ?_
        obtain ⟨f2, hx20, h⟩ := bi h
        refine rc1 rfl rfl rfl (dwire_Get_l hx20) ?_
        refine rvs 3 rfl ?_
        refine ra rfl rfl rfl ?_
        refine rs rfl rfl rfl rfl rfl rfl rfl ?_
        refine rv rfl rfl ?_
        refine rn ?_
        refine awp_seq ?_
        refine awp_seq ?_
        refine awp_region ?_
        refine rv rfl rfl ?_
        refine rV rfl (va_ennil rfl rfl rfl) ?_
        refine rn ?_
        refine cs_ rfl (fun hc => ?_) (fun hc => ?_)
        · have h := cT hc h
          refine awp_seq ?_
          obtain ⟨o21, ho22, h⟩ := bi h
          refine awp_cut1 (fun x => x = o21) (fun (x6 : Bool) => ⟨[(6, .bool x6)], [], [], 0⟩) ?_ ?_
          · refine awp_region ?_
            refine rvs 2 rfl ?_
            refine gs rfl rfl rfl rfl rfl (fun hg => ?_) (fun hg => ?_)
            · have ho22 := cT hg ho22
              refine rv rfl rfl ?_
              refine gy rfl rfl rfl ?_
              refine rv rfl rfl ?_
              refine gy rfl rfl rfl ?_
              refine rv rfl rfl ?_
              refine rvs 2 rfl ?_
              refine rn ?_
              cases ho22
              exact cut_n [] rfl rfl ⟨rfl, rfl, zA rfl rfl rfl (trivial), trivial, trivial⟩
            · have ho22 := cF hg ho22
              refine gn rfl rfl rfl rfl rfl ?_
              refine gn rfl rfl rfl rfl rfl ?_
              refine rvs 2 rfl ?_
              refine rn ?_
              cases ho22
              exact cut_n [] rfl rfl ⟨rfl, rfl, zA rfl rfl rfl (trivial), trivial, trivial⟩
          · rintro x6 rfl
            change awp _ _ _ _ _ ⟨_, _, _, _⟩
            refine awp_ret ?_
            cases h
            repeat (first | refine then_ret ?_ | refine inBlock_ret ?_ | refine cut_r ?_)
            exact rr rfl rfl rfl
        · have h := cF hc h
          refine awp_skip ?_
          refine awp_seq ?_
          refine awp_region ?_
          refine rv rfl rfl ?_
          obtain ⟨y1, hx23, h⟩ := bi h
          refine rc1 rfl rfl rfl (dwire_Put_l hx23) ?_
          refine rvs 5 rfl ?_
          refine rn ?_
          refine awp_seq ?_
          refine awp_region ?_
          refine rvs 2 rfl ?_
          refine gs rfl rfl rfl rfl rfl (fun hg => ?_) (fun hg => ?_)
          · have h := cT hg h
            refine rv rfl rfl ?_
            refine gy rfl rfl rfl ?_
            refine rV rfl (va_enil rfl rfl rfl) ?_
            refine rvs 2 rfl ?_
            refine gs rfl rfl rfl rfl rfl (fun hg => ?_) (fun hg => ?_)
            · have h := cT hg h
              refine rv rfl rfl ?_
              refine gy rfl rfl rfl ?_
              refine rV rfl (va_textS (l := y1.1) rfl rfl rfl rfl rfl rfl rfl rfl) ?_
              refine gy rfl rfl rfl ?_
              refine rv rfl rfl ?_
              refine gy rfl rfl rfl ?_
              refine rV rfl (va_textS (l := b1) rfl rfl rfl rfl rfl rfl rfl rfl) ?_
              refine gy rfl rfl rfl ?_
              refine rv rfl rfl ?_
              refine rt (sEq y1.1 b1) ?_
              refine rvs 2 rfl ?_
              refine rn ?_
              refine awp_ret ?_
              cases h
              repeat (first | refine then_ret ?_ | refine inBlock_ret ?_ | refine cut_r ?_)
              exact rr rfl rfl rfl
            · have h := cF hg h
              refine gn rfl rfl rfl rfl rfl ?_
              refine gn rfl rfl rfl rfl rfl ?_
              refine gn rfl rfl rfl rfl rfl ?_
              refine gn rfl rfl rfl rfl rfl ?_
              refine rvs 2 rfl ?_
              refine rn ?_
              refine awp_ret ?_
              cases h
              repeat (first | refine then_ret ?_ | refine inBlock_ret ?_ | refine cut_r ?_)
              exact rr rfl rfl rfl
          · have h := cF hg h
            refine gn rfl rfl rfl rfl rfl ?_
            refine rvs 2 rfl ?_
            refine gn rfl rfl rfl rfl rfl ?_
            refine gn rfl rfl rfl rfl rfl ?_
            refine gn rfl rfl rfl rfl rfl ?_
            refine gn rfl rfl rfl rfl rfl ?_
            refine gn rfl rfl rfl rfl rfl ?_
            refine rvs 2 rfl ?_
            refine rn ?_
            refine awp_ret ?_
            cases h
            repeat (first | refine then_ret ?_ | refine inBlock_ret ?_ | refine cut_r ?_)
            exact rr rfl rfl rfl
end

end Go.Proofs.Ytaekecbadkcggaa
