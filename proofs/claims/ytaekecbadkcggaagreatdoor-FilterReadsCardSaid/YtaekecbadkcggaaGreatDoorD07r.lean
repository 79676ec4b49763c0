/- Plain functions, and walks, printed by a program of this session's. -/
import Derived.Test.YtaekecbadkcggaaGreatDoorD07
import Derived.Test.YtaekecbadkcggaaGreatDoorPwE
namespace Go.Proofs.YtaekecbadkcggaaGreatDoor
open Go.Pv
set_option maxRecDepth 100000
set_option maxHeartbeats 4000000
set_option linter.unusedSimpArgs false
set_option linter.unusedVariables false
set_option linter.unusedSectionVars false

structure tref06P where
  L : List tref06Token
  At : Int
  Bad : Bool
/-- `plover/ploverref06.Name` -/
def dref06_Name (fu : Nat) (s1 : Str) : Option Bool :=
  (bif ((s1.length : Int) == 0) then some true else some (decide ((s1.length : Int) > 20)) : Option Bool).bind fun (x1 : Bool) => (bif x1 then some false else ((dref06_one fu s1 0).bind fun to1 => bif to1.2.2 then (bif (to1.2.1 == (s1.length : Int)) then some (to1.1.Kind == 1) else some false) else some false))
section
attribute [local irreducible] awp aops DP PCall ACall Decidable.decide
theorem dref06_Name_l {fu : Nat} {s1 : Str} {r : Bool} (h : dref06_Name fu s1 = some r) : PCall Tryz.prog 62 [.str (sB s1)] (· = .bool r) := by
  rw [dref06_Name] at h
  refine pcall_body Tryz.func62 rfl (by kernel_rfl) (by rfl) ?_
  refine awp_seq ?_
  refine awp_region ?_
  refine rv rfl rfl ?_
  refine rn ?_
  refine awp_seq ?_
  refine awp_seq ?_
  obtain ⟨o1, ho2, h⟩ := bi h
  refine awp_cut1 (fun x => x = o1) (fun (x1 : Bool) => ⟨[(0, .str (sB s1)), (13, .bool x1)], [], [], 0⟩) ?_ ?_
  · refine awp_region ?_
    refine rvs 4 rfl ?_
    refine gs rfl rfl rfl rfl rfl (fun hg => ?_) (fun hg => ?_)
    · have ho2 := cF hg ho2
      refine rv rfl rfl ?_
      refine gy rfl rfl rfl ?_
      refine rv rfl rfl ?_
      refine gy rfl rfl rfl ?_
      refine rv rfl rfl ?_
      refine rv rfl rfl ?_
      refine rn ?_
      cases ho2
      exact cut_n [] rfl rfl ⟨rfl, rfl, zA rfl rfl rfl (zA rfl rfl rfl (trivial)), trivial, trivial⟩
    · have ho2 := cT hg ho2
      refine gn rfl rfl rfl rfl rfl ?_
      refine gn rfl rfl rfl rfl rfl ?_
      refine rv rfl rfl ?_
      refine rn ?_
      cases ho2
      exact cut_n [] rfl rfl ⟨rfl, rfl, zA rfl rfl rfl (zA rfl rfl rfl (trivial)), trivial, trivial⟩
  · rintro x1 rfl
    change awp _ _ _ _ _ ⟨_, _, _, _⟩
    refine cs_ rfl (fun hc => ?_) (fun hc => ?_)
    · have h := cT hc h
      refine awp_seq ?_
      refine awp_region ?_
      refine rv rfl rfl ?_
      refine rn ?_
      refine awp_ret ?_
      cases h
      repeat (first | refine then_ret ?_ | refine inBlock_ret ?_ | refine cut_r ?_)
      exact rr rfl rfl rfl
    · have h := cF hc h
      refine awp_skip ?_
      refine awp_seq ?_
      refine awp_region ?_
      refine rv rfl rfl ?_
      obtain ⟨to1, hx3, h⟩ := bi h
      refine rc1 rfl rfl rfl (dref06_one_l hx3) ?_
      refine rvs 4 rfl ?_
      refine ra rfl rfl rfl ?_
      refine rs rfl rfl rfl rfl rfl rfl rfl ?_
      refine rvs 2 rfl ?_
      refine rn ?_
      refine awp_seq ?_
      refine awp_region ?_
      refine rvs 2 rfl ?_
      refine gs rfl rfl rfl rfl rfl (fun hg => ?_) (fun hg => ?_)
      · have h := cT hg h
        refine rv rfl rfl ?_
        refine gy rfl rfl rfl ?_
        refine rv rfl rfl ?_
        refine gy rfl rfl rfl ?_
        refine rv rfl rfl ?_
        refine gy rfl rfl rfl ?_
        refine rv rfl rfl ?_
        refine rvs 2 rfl ?_
        refine gs rfl rfl rfl rfl rfl (fun hg => ?_) (fun hg => ?_)
        · have h := cT hg h
          refine rv rfl rfl ?_
          refine gy rfl rfl rfl ?_
          refine rv rfl rfl ?_
          refine gy rfl rfl rfl ?_
          refine rv rfl rfl ?_
          refine rvs 2 rfl ?_
          refine rn ?_
          refine awp_ret ?_
          cases h
          repeat (first | refine then_ret ?_ | refine inBlock_ret ?_ | refine cut_r ?_)
          exact rr rfl rfl rfl
        · have h := cF hg h
          refine gn rfl rfl rfl rfl rfl ?_
          refine gn rfl rfl rfl rfl rfl ?_
          refine rvs 2 rfl ?_
          refine rn ?_
          refine awp_ret ?_
          cases h
          repeat (first | refine then_ret ?_ | refine inBlock_ret ?_ | refine cut_r ?_)
          exact rr rfl rfl rfl
      · have h := cF hg h
        refine gn rfl rfl rfl rfl rfl ?_
        refine gn rfl rfl rfl rfl rfl ?_
        refine gn rfl rfl rfl rfl rfl ?_
        refine rvs 2 rfl ?_
        refine gn rfl rfl rfl rfl rfl ?_
        refine gn rfl rfl rfl rfl rfl ?_
        refine gn rfl rfl rfl rfl rfl ?_
        refine rvs 2 rfl ?_
        refine rn ?_
        refine awp_ret ?_
        cases h
        repeat (first | refine then_ret ?_ | refine inBlock_ret ?_ | refine cut_r ?_)
        exact rr rfl rfl rfl
end

/-- `plover/ploverref06.Plain` -/
def dref06_Plain (fu : Nat) (s1 : Str) : Option Bool :=
  (loopD (ε := Int) (τ := Unit ⊕ Bool) (fun (i1 : Int) => (bif (decide (i1 < (s1.length : Int))) then (((gi s1 i1).bind fun c1 => bif (decide ((c1.toNat : Int) < 32)) then some true else ((gi s1 i1).bind fun c2 => bif (decide ((c2.toNat : Int) > 126)) then some true else ((gi s1 i1).bind fun c3 => some ((c3.toNat : Int) == 34))) : Option Bool).bind fun (x1 : Bool) => (bif x1 then some (Sum.inr (Sum.inr false)) else some (Sum.inl (W (i1 + 1))))) else some (Sum.inr (Sum.inl ())))) fu 0).bind fun o => kS o fun (_ : Unit) => ((some (decide ((s1.length : Int) ≤ 200))).bind fun x2 => some x2)
section
attribute [local irreducible] awp aops DP PCall ACall Decidable.decide
theorem dref06_Plain_l {fu : Nat} {s1 : Str} {r : Bool} (h : dref06_Plain fu s1 = some r) : PCall Tryz.prog 63 [.str (sB s1)] (· = .bool r) := by
  rw [dref06_Plain] at h
  refine pcall_body Tryz.func63 rfl (by kernel_rfl) (by rfl) ?_
  refine awp_seq ?_
  refine awp_region ?_
  refine rv rfl rfl ?_
  refine rn ?_
  refine awp_seq ?_
  refine awp_seq ?_
  refine awp_region ?_
  refine rv rfl rfl ?_
  refine rn ?_
  obtain ⟨e1, hl2, h⟩ := bi h
  refine awp_cut1 (fun x => Sum.inl x = e1) (fun (_ : Unit) => ⟨[(0, .str (sB s1))], [], [], 0⟩) ?_ ?_
  · refine awp_block ?_
    refine awp_loopD hl2 (fun (i1 : Int) => ⟨[(0, .str (sB s1)), (3, .int .i64 i1)], [], [], 0⟩) [] rfl ⟨rfl, rfl, zA rfl rfl rfl (zA rfl rfl rfl (trivial)), trivial, trivial⟩ ?_
    intro i1 o5 ho3 hE4
    change awp _ _ _ _ _ ⟨_, _, _, _⟩
    refine awp_seq ?_
    refine awp_seq ?_
    refine awp_region ?_
    refine rvs 4 rfl ?_
    refine rn ?_
    refine cs_ rfl (fun hc => ?_) (fun hc => ?_)
    · have ho3 := cT hc ho3
      refine awp_skip ?_
      refine awp_seq ?_
      refine awp_block ?_
      refine awp_seq ?_
      obtain ⟨o6, ho7, ho3⟩ := bi ho3
      refine awp_cut1 (fun x => x = o6) (fun (x1 : Bool) => ⟨[(0, .str (sB s1)), (3, .int .i64 i1), (25, .bool x1)], [], [], 0⟩) ?_ ?_
      · refine awp_region ?_
        refine rvs 2 rfl ?_
        obtain ⟨c1, hx8, ho7⟩ := bi ho7
        refine rV rfl (va_sidx rfl rfl rfl rfl hx8) ?_
        refine rvs 2 rfl ?_
        refine gs rfl rfl rfl rfl rfl (fun hg => ?_) (fun hg => ?_)
        · have ho7 := cF hg ho7
          refine rv rfl rfl ?_
          refine gy rfl rfl rfl ?_
          refine rv rfl rfl ?_
          refine gy rfl rfl rfl ?_
          obtain ⟨c2, hx9, ho7⟩ := bi ho7
          refine rV rfl (va_sidx rfl rfl rfl rfl hx9) ?_
          refine gy rfl rfl rfl ?_
          refine rv rfl rfl ?_
          refine rvs 2 rfl ?_
          refine gs rfl rfl rfl rfl rfl (fun hg => ?_) (fun hg => ?_)
          · have ho7 := cF hg ho7
            refine rv rfl rfl ?_
            refine gy rfl rfl rfl ?_
            refine rv rfl rfl ?_
            refine gy rfl rfl rfl ?_
            obtain ⟨c3, hx10, ho7⟩ := bi ho7
            refine rV rfl (va_sidx rfl rfl rfl rfl hx10) ?_
            refine gy rfl rfl rfl ?_
            refine rv rfl rfl ?_
            refine rv rfl rfl ?_
            refine rn ?_
            cases ho7
            exact cut_n [] rfl rfl ⟨rfl, rfl, zA rfl rfl rfl (zA rfl rfl rfl (zA rfl rfl rfl (trivial))), trivial, trivial⟩
          · have ho7 := cT hg ho7
            refine gn rfl rfl rfl rfl rfl ?_
            refine gn rfl rfl rfl rfl rfl ?_
            refine gn rfl rfl rfl rfl rfl ?_
            refine rv rfl rfl ?_
            refine rn ?_
            cases ho7
            exact cut_n [] rfl rfl ⟨rfl, rfl, zA rfl rfl rfl (zA rfl rfl rfl (zA rfl rfl rfl (trivial))), trivial, trivial⟩
        · have ho7 := cT hg ho7
          refine gn rfl rfl rfl rfl rfl ?_
          refine gn rfl rfl rfl rfl rfl ?_
          refine gn rfl rfl rfl rfl rfl ?_
          refine rvs 2 rfl ?_
          refine gn rfl rfl rfl rfl rfl ?_
          refine gn rfl rfl rfl rfl rfl ?_
          refine gn rfl rfl rfl rfl rfl ?_
          refine gn rfl rfl rfl rfl rfl ?_
          refine rv rfl rfl ?_
          refine rn ?_
          cases ho7
          exact cut_n [] rfl rfl ⟨rfl, rfl, zA rfl rfl rfl (zA rfl rfl rfl (zA rfl rfl rfl (trivial))), trivial, trivial⟩
      · rintro x1 rfl
        change awp _ _ _ _ _ ⟨_, _, _, _⟩
        refine cs_ rfl (fun hc => ?_) (fun hc => ?_)
        · have ho3 := cT hc ho3
          refine awp_seq ?_
          refine awp_region ?_
          refine rv rfl rfl ?_
          refine rn ?_
          refine awp_ret ?_
          cases ho3
          have hq := hE4 _ rfl
          subst hq
          have h := ksr h
          subst h
          repeat (first | refine then_ret ?_ | refine inBlock_ret ?_ | refine cut_r ?_)
          exact rr rfl rfl rfl
        · have ho3 := cF hc ho3
          refine awp_skip ?_
          refine inBlock_normal ?_
          refine awp_region ?_
          refine rvs 3 rfl ?_
          refine rn ?_
          cases ho3
          exact lp_n [] rfl rfl ⟨rfl, rfl, zA rfl rfl rfl (zA rfl rfl rfl (trivial)), trivial, trivial⟩
    · have ho3 := cF hc ho3
      refine awp_exit ?_
      repeat (first | refine then_exit ?_ | refine cut_x ?_ | refine inBlock_other rfl ?_)
      refine inBlock_exit ?_
      cases ho3
      have hq := hE4 _ rfl
      subst hq
      exact cut_n [] rfl rfl ⟨rfl, rfl, zA rfl rfl rfl (trivial), trivial, trivial⟩
  · rintro _ rfl
    have h := ksl h
    change awp _ _ _ _ _ ⟨_, _, _, _⟩
    refine awp_seq ?_
    refine awp_region ?_
    refine rvs 4 rfl ?_
    obtain ⟨x2, hx11, h⟩ := bs h
    refine rt (eb' hx11) ?_
    refine rn ?_
    refine awp_ret ?_
    cases h
    repeat (first | refine then_ret ?_ | refine inBlock_ret ?_ | refine cut_r ?_)
    exact rr rfl rfl rfl
end

/-- `plover/ploverref06.op` -/
def dref06_op (fu : Nat) (s1 : Str) : Option Bool :=
  bif (s1 == [60]) then some true else (bif (s1 == [60, 61]) then some true else (bif (s1 == [61]) then some true else (bif (s1 == [33, 61]) then some true else (bif (s1 == [62, 61]) then some true else some (s1 == [62])))))
section
attribute [local irreducible] awp aops DP PCall ACall Decidable.decide
theorem dref06_op_l {fu : Nat} {s1 : Str} {r : Bool} (h : dref06_op fu s1 = some r) : PCall Tryz.prog 64 [.str (sB s1)] (· = .bool r) := by
  rw [dref06_op] at h
  refine pcall_body Tryz.func64 rfl (by kernel_rfl) (by rfl) ?_
  refine awp_seq ?_
  refine awp_region ?_
  refine rv rfl rfl ?_
  refine rn ?_
  refine awp_seq ?_
  refine awp_region ?_
  refine rv rfl rfl ?_
  refine rv rfl rfl ?_
  refine rt (sEq s1 [60]) ?_
  refine rv rfl rfl ?_
  refine gs rfl rfl rfl rfl rfl (fun hg => ?_) (fun hg => ?_)
  · have h := cF hg h
    refine rv rfl rfl ?_
    refine gy rfl rfl rfl ?_
    refine rv rfl rfl ?_
    refine rt (sEq s1 [60, 61]) ?_
    refine rvs 2 rfl ?_
    refine gs rfl rfl rfl rfl rfl (fun hg => ?_) (fun hg => ?_)
    · have h := cF hg h
      refine rv rfl rfl ?_
      refine gy rfl rfl rfl ?_
      refine rv rfl rfl ?_
      refine rt (sEq s1 [61]) ?_
      refine rvs 2 rfl ?_
      refine gs rfl rfl rfl rfl rfl (fun hg => ?_) (fun hg => ?_)
      · have h := cF hg h
        refine rv rfl rfl ?_
        refine gy rfl rfl rfl ?_
        refine rv rfl rfl ?_
        refine rt (sEq s1 [33, 61]) ?_
        refine rvs 2 rfl ?_
        refine gs rfl rfl rfl rfl rfl (fun hg => ?_) (fun hg => ?_)
        · have h := cF hg h
          refine rv rfl rfl ?_
          refine gy rfl rfl rfl ?_
          refine rv rfl rfl ?_
          refine rt (sEq s1 [62, 61]) ?_
          refine rvs 2 rfl ?_
          refine gs rfl rfl rfl rfl rfl (fun hg => ?_) (fun hg => ?_)
          · have h := cF hg h
            refine rv rfl rfl ?_
            refine gy rfl rfl rfl ?_
            refine rv rfl rfl ?_
            refine rt (sEq s1 [62]) ?_
            refine rvs 2 rfl ?_
            refine rn ?_
            refine awp_ret ?_
            cases h
            repeat (first | refine then_ret ?_ | refine inBlock_ret ?_ | refine cut_r ?_)
            exact rr rfl rfl rfl
          · have h := cT hg h
            refine gn rfl rfl rfl rfl rfl ?_
            refine rvs 2 rfl ?_
            refine rn ?_
            refine awp_ret ?_
            cases h
            repeat (first | refine then_ret ?_ | refine inBlock_ret ?_ | refine cut_r ?_)
            exact rr rfl rfl rfl
        · have h := cT hg h
          refine gn rfl rfl rfl rfl rfl ?_
          refine rvs 2 rfl ?_
          refine gn rfl rfl rfl rfl rfl ?_
          refine gn rfl rfl rfl rfl rfl ?_
          refine rvs 2 rfl ?_
          refine rn ?_
          refine awp_ret ?_
          cases h
          repeat (first | refine then_ret ?_ | refine inBlock_ret ?_ | refine cut_r ?_)
          exact rr rfl rfl rfl
      · have h := cT hg h
        refine gn rfl rfl rfl rfl rfl ?_
        refine rvs 2 rfl ?_
        refine gn rfl rfl rfl rfl rfl ?_
        refine gn rfl rfl rfl rfl rfl ?_
        refine rvs 2 rfl ?_
        refine gn rfl rfl rfl rfl rfl ?_
        refine gn rfl rfl rfl rfl rfl ?_
        refine rvs 2 rfl ?_
        refine rn ?_
        refine awp_ret ?_
        cases h
        repeat (first | refine then_ret ?_ | refine inBlock_ret ?_ | refine cut_r ?_)
        exact rr rfl rfl rfl
    · have h := cT hg h
      refine gn rfl rfl rfl rfl rfl ?_
      refine rvs 2 rfl ?_
      refine gn rfl rfl rfl rfl rfl ?_
      refine gn rfl rfl rfl rfl rfl ?_
      refine rvs 2 rfl ?_
      refine gn rfl rfl rfl rfl rfl ?_
      refine gn rfl rfl rfl rfl rfl ?_
      refine rvs 2 rfl ?_
      refine gn rfl rfl rfl rfl rfl ?_
      refine gn rfl rfl rfl rfl rfl ?_
      refine rvs 2 rfl ?_
      refine rn ?_
      refine awp_ret ?_
      cases h
      repeat (first | refine then_ret ?_ | refine inBlock_ret ?_ | refine cut_r ?_)
      exact rr rfl rfl rfl
  · have h := cT hg h
    refine gn rfl rfl rfl rfl rfl ?_
    refine rvs 2 rfl ?_
    refine gn rfl rfl rfl rfl rfl ?_
    refine gn rfl rfl rfl rfl rfl ?_
    refine rvs 2 rfl ?_
    refine gn rfl rfl rfl rfl rfl ?_
    refine gn rfl rfl rfl rfl rfl ?_
    refine rvs 2 rfl ?_
    refine gn rfl rfl rfl rfl rfl ?_
    refine gn rfl rfl rfl rfl rfl ?_
    refine rvs 2 rfl ?_
    refine gn rfl rfl rfl rfl rfl ?_
    refine gn rfl rfl rfl rfl rfl ?_
    refine rvs 2 rfl ?_
    refine rn ?_
    refine awp_ret ?_
    cases h
    repeat (first | refine then_ret ?_ | refine inBlock_ret ?_ | refine cut_r ?_)
    exact rr rfl rfl rfl
end

/-- `plover/ploverref06.leaf` -/
def dref06_leaf (fu : Nat) (f1 : tFilter) : Option Bool :=
  match f1 with | .mk kind1 name1 op1 vals1 l1 => (dref06_Name fu name1).bind fun name2 => (bif (!name2) then some true else (bif (decide ((l1.length : Int) > 0)) then some true else (bif ((vals1.length : Int) == 0) then some true else some (decide ((vals1.length : Int) > 20)))) : Option Bool).bind fun (x1 : Bool) => (bif x1 then some false else ((loopD (ε := Int) (τ := Unit ⊕ Bool) (fun (i1 : Int) => (bif (decide (i1 < (vals1.length : Int))) then ((gi vals1 i1).bind fun x2 => (dref06_Plain fu x2.S).bind fun plain1 => (bif (!(x2.Name == [])) then some true else ((gi vals1 0).bind fun x4 => bif (!(x2.Text == x4.Text)) then some true else (bif x2.Text then (bif (x2.N != 0) then some true else (bif (!plain1) then some true else (bif (!x2.Text) then some (!(x2.S == [])) else some false))) else (bif (!x2.Text) then some (!(x2.S == [])) else some false))) : Option Bool).bind fun (x3 : Bool) => (bif x3 then some (Sum.inr (Sum.inr false)) else some (Sum.inl (W (i1 + 1))))) else some (Sum.inr (Sum.inl ())))) fu 0).bind fun o => kS o fun (_ : Unit) => (bif (kind1 == 6) then some (op1 == []) else (bif (kind1 == 5) then ((bif ((vals1.length : Int) == 1) then ((gi vals1 0).bind fun x6 => bif x6.Text then some (op1 == []) else some false) else some false : Option Bool).bind fun (x5 : Bool) => some x5) else (bif ((vals1.length : Int) == 1) then ((dref06_op fu op1).bind fun x7 => some x7) else some false)))))
section
attribute [local irreducible] awp aops DP PCall ACall Decidable.decide
theorem dref06_leaf_l {fu : Nat} {f1 : tFilter} {r : Bool} (h : dref06_leaf fu f1 = some r) : PCall Tryz.prog 37 [.agg (c_tFilter f1)] (· = .bool r) := by
  obtain ⟨kind1, name1, op1, vals1, l1⟩ := f1
  rw [dref06_leaf] at h
  refine pcall_body Tryz.func37 rfl (by kernel_rfl) (by rfl) ?_
  refine awp_seq ?_
  refine awp_region ?_
  refine rb rfl rfl ?_
  refine rv rfl rfl ?_
  refine rn ?_
  refine awp_seq ?_
  refine awp_region ?_
  refine rvs 2 rfl ?_
  obtain ⟨name2, hx1, h⟩ := bi h
  refine rc1 rfl rfl rfl (dref06_Name_l hx1) ?_
  refine rv rfl rfl ?_
  refine rn ?_
  refine awp_seq ?_
  refine awp_seq ?_
  obtain ⟨o2, ho3, h⟩ := bi h
  refine awp_cut1 (fun x => x = o2) (fun (x1 : Bool) => ⟨[(1, .ptr 0 0), (29, .bool x1)], [(0, 0, .int .i64 kind1), (0, 1, .str (sB name1)), (0, 2, .str (sB op1)), (0, 3, .sl (vals1.map c_tAttr)), (0, 4, .sl (cs_tFilter l1))], [], 1⟩) ?_ ?_
  · refine awp_region ?_
    refine rvs 3 rfl ?_
    refine gs rfl rfl rfl rfl rfl (fun hg => ?_) (fun hg => ?_)
    · have ho3 := cF hg ho3
      refine rv rfl rfl ?_
      refine gy rfl rfl rfl ?_
      refine rv rfl rfl ?_
      refine gy rfl rfl rfl ?_
      refine rv rfl rfl ?_
      refine rt ((lM_tFilter l1)) ?_
      refine gy rfl rfl rfl ?_
      refine rv rfl rfl ?_
      refine rvs 2 rfl ?_
      refine gs rfl rfl rfl rfl rfl (fun hg => ?_) (fun hg => ?_)
      · have ho3 := cF hg ho3
        refine rv rfl rfl ?_
        refine gy rfl rfl rfl ?_
        refine rv rfl rfl ?_
        refine gy rfl rfl rfl ?_
        refine rv rfl rfl ?_
        refine rt ((lM c_tAttr vals1)) ?_
        refine gy rfl rfl rfl ?_
        refine rv rfl rfl ?_
        refine rvs 2 rfl ?_
        refine gs rfl rfl rfl rfl rfl (fun hg => ?_) (fun hg => ?_)
        · have ho3 := cF hg ho3
          refine rv rfl rfl ?_
          refine gy rfl rfl rfl ?_
          refine rv rfl rfl ?_
          refine gy rfl rfl rfl ?_
          refine rv rfl rfl ?_
          refine rt ((lM c_tAttr vals1)) ?_
          refine gy rfl rfl rfl ?_
          refine rv rfl rfl ?_
          refine rv rfl rfl ?_
          refine rn ?_
          cases ho3
          exact cut_n [0] rfl rfl ⟨rfl, rfl, zA rfl rfl rfl (zA rfl rfl rfl (trivial)), zC rfl rfl rfl rfl (zC rfl rfl rfl rfl (zC rfl rfl rfl rfl (zC rfl rfl rfl rfl (zC rfl rfl rfl rfl (trivial))))), trivial⟩
        · have ho3 := cT hg ho3
          refine gn rfl rfl rfl rfl rfl ?_
          refine gn rfl rfl rfl rfl rfl ?_
          refine gn rfl rfl rfl rfl rfl ?_
          refine rv rfl rfl ?_
          refine rn ?_
          cases ho3
          exact cut_n [0] rfl rfl ⟨rfl, rfl, zA rfl rfl rfl (zA rfl rfl rfl (trivial)), zC rfl rfl rfl rfl (zC rfl rfl rfl rfl (zC rfl rfl rfl rfl (zC rfl rfl rfl rfl (zC rfl rfl rfl rfl (trivial))))), trivial⟩
      · have ho3 := cT hg ho3
        refine gn rfl rfl rfl rfl rfl ?_
        refine gn rfl rfl rfl rfl rfl ?_
        refine gn rfl rfl rfl rfl rfl ?_
        refine rvs 2 rfl ?_
        refine gn rfl rfl rfl rfl rfl ?_
        refine gn rfl rfl rfl rfl rfl ?_
        refine gn rfl rfl rfl rfl rfl ?_
        refine gn rfl rfl rfl rfl rfl ?_
        refine rv rfl rfl ?_
        refine rn ?_
        cases ho3
        exact cut_n [0] rfl rfl ⟨rfl, rfl, zA rfl rfl rfl (zA rfl rfl rfl (trivial)), zC rfl rfl rfl rfl (zC rfl rfl rfl rfl (zC rfl rfl rfl rfl (zC rfl rfl rfl rfl (zC rfl rfl rfl rfl (trivial))))), trivial⟩
    · have ho3 := cT hg ho3
      refine gn rfl rfl rfl rfl rfl ?_
      refine gn rfl rfl rfl rfl rfl ?_
      refine gn rfl rfl rfl rfl rfl ?_
      refine rvs 2 rfl ?_
      refine gn rfl rfl rfl rfl rfl ?_
      refine gn rfl rfl rfl rfl rfl ?_
      refine gn rfl rfl rfl rfl rfl ?_
      refine gn rfl rfl rfl rfl rfl ?_
      refine rvs 2 rfl ?_
      refine gn rfl rfl rfl rfl rfl ?_
      refine gn rfl rfl rfl rfl rfl ?_
      refine gn rfl rfl rfl rfl rfl ?_
      refine gn rfl rfl rfl rfl rfl ?_
      refine rv rfl rfl ?_
      refine rn ?_
      cases ho3
      exact cut_n [0] rfl rfl ⟨rfl, rfl, zA rfl rfl rfl (zA rfl rfl rfl (trivial)), zC rfl rfl rfl rfl (zC rfl rfl rfl rfl (zC rfl rfl rfl rfl (zC rfl rfl rfl rfl (zC rfl rfl rfl rfl (trivial))))), trivial⟩
  · rintro x1 rfl
    change awp _ _ _ _ _ ⟨_, _, _, _⟩
    refine cs_ rfl (fun hc => ?_) (fun hc => ?_)
    · have h := cT hc h
      refine awp_seq ?_
      refine awp_region ?_
      refine rv rfl rfl ?_
      refine rn ?_
      refine awp_ret ?_
      cases h
      repeat (first | refine then_ret ?_ | refine inBlock_ret ?_ | refine cut_r ?_)
      exact rr rfl rfl rfl
    · have h := cF hc h
      refine awp_skip ?_
      refine awp_seq ?_
      refine awp_seq ?_
      refine awp_region ?_
      refine rv rfl rfl ?_
      refine rn ?_
      obtain ⟨e4, hl5, h⟩ := bi h
      refine awp_cut1 (fun x => Sum.inl x = e4) (fun (_ : Unit) => ⟨[(1, .ptr 0 0)], [(0, 0, .int .i64 kind1), (0, 1, .str (sB name1)), (0, 2, .str (sB op1)), (0, 3, .sl (vals1.map c_tAttr)), (0, 4, .sl (cs_tFilter l1))], [], 1⟩) ?_ ?_
      · refine awp_block ?_
        refine awp_loopD hl5 (fun (i1 : Int) => ⟨[(1, .ptr 0 0), (4, .int .i64 i1)], [(0, 0, .int .i64 kind1), (0, 1, .str (sB name1)), (0, 2, .str (sB op1)), (0, 3, .sl (vals1.map c_tAttr)), (0, 4, .sl (cs_tFilter l1))], [], 1⟩) [0] rfl ⟨rfl, rfl, zA rfl rfl rfl (zA rfl rfl rfl (trivial)), zC rfl rfl rfl rfl (zC rfl rfl rfl rfl (zC rfl rfl rfl rfl (zC rfl rfl rfl rfl (zC rfl rfl rfl rfl (trivial))))), trivial⟩ ?_
        intro i1 o8 ho6 hE7
        change awp _ _ _ _ _ ⟨_, _, _, _⟩
        refine awp_seq ?_
        refine awp_seq ?_
        refine awp_region ?_
        refine rvs 3 rfl ?_
        refine rv rfl rfl ?_
        refine rt ((lM c_tAttr vals1)) ?_
        refine rv rfl rfl ?_
        refine rn ?_
        refine cs_ rfl (fun hc => ?_) (fun hc => ?_)
        · have ho6 := cT hc ho6
          refine awp_skip ?_
          refine awp_seq ?_
          refine awp_block ?_
          refine awp_seq ?_
          refine awp_region ?_
          refine rvs 3 rfl ?_
          obtain ⟨x2, hx9, ho6⟩ := bi ho6
          refine ri rfl rfl rfl rfl rfl rfl (gi0 hx9) (giM c_tAttr hx9) (wM (fun _ => by rfl) _) ?_
          refine rv rfl rfl ?_
          refine ra rfl rfl rfl ?_
          refine rs rfl rfl rfl rfl rfl rfl rfl ?_
          refine rn ?_
          refine awp_seq ?_
          refine awp_region ?_
          refine rvs 2 rfl ?_
          obtain ⟨plain1, hx10, ho6⟩ := bi ho6
          refine rc1 rfl rfl rfl (dref06_Plain_l hx10) ?_
          refine rv rfl rfl ?_
          refine rn ?_
          refine awp_seq ?_
          obtain ⟨o11, ho12, ho6⟩ := bi ho6
          refine awp_cut1 (fun x => x = o11) (fun (x3 : Bool) => ⟨[(1, .ptr 0 0), (4, .int .i64 i1), (80, .bool x3)], [(0, 0, .int .i64 kind1), (0, 1, .str (sB name1)), (0, 2, .str (sB op1)), (0, 3, .sl (vals1.map c_tAttr)), (0, 4, .sl (cs_tFilter l1))], [], 1⟩) ?_ ?_
          · refine awp_dp (m := 36) Tryz.mix (by kernel_rfl) (by kernel_rfl) (by kernel_rfl) (by kernel_rfl) (by kernel_rfl) (by kernel_rfl) (by kernel_rfl) ?_
            refine dv rfl rfl (fun _ => rfl) ?_
            refine dv rfl rfl (fun _ => rfl) ?_
            refine dv rfl rfl (fun _ => rfl) ?_
            refine dt (sNe x2.Name []) ?_
            refine dv rfl rfl (fun _ => rfl) ?_
            refine ds rfl rfl (fun hg => ?_) (fun hg => ?_)
            · have ho12 := cT hg ho12
              refine dno rfl rfl ?_
              refine dno rfl rfl ?_
              refine dno rfl rfl ?_
              refine dno rfl rfl ?_
              refine dno rfl rfl ?_
              refine dno rfl rfl ?_
              refine dno rfl rfl ?_
              refine dno rfl rfl ?_
              refine dv rfl rfl (fun _ => rfl) ?_
              refine dv rfl rfl (fun _ => rfl) ?_
              refine dno rfl rfl ?_
              refine dno rfl rfl ?_
              refine dno rfl rfl ?_
              refine dno rfl rfl ?_
              refine dno rfl rfl ?_
              refine dno rfl rfl ?_
              refine dno rfl rfl ?_
              refine dno rfl rfl ?_
              refine dno rfl rfl ?_
              refine dno rfl rfl ?_
              refine dno rfl rfl ?_
              refine dv rfl rfl (fun _ => rfl) ?_
              refine dv rfl rfl (fun _ => rfl) ?_
              refine dno rfl rfl ?_
              refine dno rfl rfl ?_
              refine dno rfl rfl ?_
              refine dno rfl rfl ?_
              refine dno rfl rfl ?_
              refine dno rfl rfl ?_
              refine dno rfl rfl ?_
              refine dno rfl rfl ?_
              refine dv rfl rfl (fun _ => rfl) ?_
              refine dn ?_
              refine rn ?_
              cases ho12
              exact cut_n [0] rfl rfl ⟨rfl, rfl, zA rfl rfl rfl (zA rfl rfl rfl (zA rfl rfl rfl (trivial))), zC rfl rfl rfl rfl (zC rfl rfl rfl rfl (zC rfl rfl rfl rfl (zC rfl rfl rfl rfl (zC rfl rfl rfl rfl (trivial))))), trivial⟩
            · have ho12 := cF hg ho12
              refine dv rfl rfl (fun _ => rfl) ?_
              refine dv rfl rfl (fun _ => rfl) ?_
              refine dv rfl rfl (fun _ => rfl) ?_
              refine dv rfl rfl (fun _ => rfl) ?_
              obtain ⟨x4, hx13, ho12⟩ := bi ho12
              refine di rfl rfl rfl rfl rfl (fun _ => rfl) rfl (gi0 hx13) (giM c_tAttr hx13) (wM (fun _ => by rfl) _) ?_
              refine dv rfl rfl (fun _ => rfl) ?_
              refine dv rfl rfl (fun _ => rfl) ?_
              refine dv rfl rfl (fun _ => rfl) ?_
              refine dv rfl rfl (fun _ => rfl) ?_
              refine dv rfl rfl (fun _ => rfl) ?_
              refine ds rfl rfl (fun hg => ?_) (fun hg => ?_)
              · have ho12 := cT hg ho12
                refine dno rfl rfl ?_
                refine dno rfl rfl ?_
                refine dno rfl rfl ?_
                refine dno rfl rfl ?_
                refine dno rfl rfl ?_
                refine dno rfl rfl ?_
                refine dno rfl rfl ?_
                refine dno rfl rfl ?_
                refine dno rfl rfl ?_
                refine dno rfl rfl ?_
                refine dno rfl rfl ?_
                refine dv rfl rfl (fun _ => rfl) ?_
                refine dv rfl rfl (fun _ => rfl) ?_
                refine dno rfl rfl ?_
                refine dno rfl rfl ?_
                refine dno rfl rfl ?_
                refine dno rfl rfl ?_
                refine dno rfl rfl ?_
                refine dno rfl rfl ?_
                refine dno rfl rfl ?_
                refine dno rfl rfl ?_
                refine dv rfl rfl (fun _ => rfl) ?_
                refine dn ?_
                refine rn ?_
                cases ho12
                exact cut_n [0] rfl rfl ⟨rfl, rfl, zA rfl rfl rfl (zA rfl rfl rfl (zA rfl rfl rfl (trivial))), zC rfl rfl rfl rfl (zC rfl rfl rfl rfl (zC rfl rfl rfl rfl (zC rfl rfl rfl rfl (zC rfl rfl rfl rfl (trivial))))), trivial⟩
              · have ho12 := cF hg ho12
                refine dv rfl rfl (fun _ => rfl) ?_
                refine dv rfl rfl (fun _ => rfl) ?_
                refine dv rfl rfl (fun _ => rfl) ?_
                refine ds rfl rfl (fun hg => ?_) (fun hg => ?_)
                · have ho12 := cT hg ho12
                  refine dv rfl rfl (fun _ => rfl) ?_
                  refine dv rfl rfl (fun _ => rfl) ?_
                  refine dv rfl rfl (fun _ => rfl) ?_
                  refine dv rfl rfl (fun _ => rfl) ?_
                  refine ds rfl rfl (fun hg => ?_) (fun hg => ?_)
                  · have ho12 := cT hg ho12
                    refine dno rfl rfl ?_
                    refine dno rfl rfl ?_
                    refine dv rfl rfl (fun _ => rfl) ?_
                    refine dv rfl rfl (fun _ => rfl) ?_
                    refine dv rfl rfl (fun _ => rfl) ?_
                    refine dv rfl rfl (fun _ => rfl) ?_
                    refine dno rfl rfl ?_
                    refine dno rfl rfl ?_
                    refine dno rfl rfl ?_
                    refine dno rfl rfl ?_
                    refine dno rfl rfl ?_
                    refine dno rfl rfl ?_
                    refine dno rfl rfl ?_
                    refine dno rfl rfl ?_
                    refine dv rfl rfl (fun _ => rfl) ?_
                    refine dn ?_
                    refine rn ?_
                    cases ho12
                    exact cut_n [0] rfl rfl ⟨rfl, rfl, zA rfl rfl rfl (zA rfl rfl rfl (zA rfl rfl rfl (trivial))), zC rfl rfl rfl rfl (zC rfl rfl rfl rfl (zC rfl rfl rfl rfl (zC rfl rfl rfl rfl (zC rfl rfl rfl rfl (trivial))))), trivial⟩
                  · have ho12 := cF hg ho12
                    refine dv rfl rfl (fun _ => rfl) ?_
                    refine dv rfl rfl (fun _ => rfl) ?_
                    refine dv rfl rfl (fun _ => rfl) ?_
                    refine dv rfl rfl (fun _ => rfl) ?_
                    refine dv rfl rfl (fun _ => rfl) ?_
                    refine dv rfl rfl (fun _ => rfl) ?_
                    refine ds rfl rfl (fun hg => ?_) (fun hg => ?_)
                    · have ho12 := cT hg ho12
                      refine dno rfl rfl ?_
                      refine dno rfl rfl ?_
                      refine dno rfl rfl ?_
                      refine dno rfl rfl ?_
                      refine dno rfl rfl ?_
                      refine dno rfl rfl ?_
                      refine dno rfl rfl ?_
                      refine dno rfl rfl ?_
                      refine dv rfl rfl (fun _ => rfl) ?_
                      refine dn ?_
                      refine rn ?_
                      cases ho12
                      exact cut_n [0] rfl rfl ⟨rfl, rfl, zA rfl rfl rfl (zA rfl rfl rfl (zA rfl rfl rfl (trivial))), zC rfl rfl rfl rfl (zC rfl rfl rfl rfl (zC rfl rfl rfl rfl (zC rfl rfl rfl rfl (zC rfl rfl rfl rfl (trivial))))), trivial⟩
                    · have ho12 := cF hg ho12
                      refine dv rfl rfl (fun _ => rfl) ?_
                      refine dv rfl rfl (fun _ => rfl) ?_
                      refine dv rfl rfl (fun _ => rfl) ?_
                      refine dv rfl rfl (fun _ => rfl) ?_
                      refine ds rfl rfl (fun hg => ?_) (fun hg => ?_)
                      · have ho12 := cT hg ho12
                        refine dv rfl rfl (fun _ => rfl) ?_
                        refine dv rfl rfl (fun _ => rfl) ?_
                        refine dv rfl rfl (fun _ => rfl) ?_
                        refine dt (sNe x2.S []) ?_
                        refine dv rfl rfl (fun _ => rfl) ?_
                        refine dv rfl rfl (fun _ => rfl) ?_
                        refine dn ?_
                        refine rn ?_
                        cases ho12
                        exact cut_n [0] rfl rfl ⟨rfl, rfl, zA rfl rfl rfl (zA rfl rfl rfl (zA rfl rfl rfl (trivial))), zC rfl rfl rfl rfl (zC rfl rfl rfl rfl (zC rfl rfl rfl rfl (zC rfl rfl rfl rfl (zC rfl rfl rfl rfl (trivial))))), trivial⟩
                      · have ho12 := cF hg ho12
                        refine dno rfl rfl ?_
                        refine dno rfl rfl ?_
                        refine dno rfl rfl ?_
                        refine dv rfl rfl (fun _ => rfl) ?_
                        refine dv rfl rfl (fun _ => rfl) ?_
                        refine dn ?_
                        refine rn ?_
                        cases ho12
                        exact cut_n [0] rfl rfl ⟨rfl, rfl, zA rfl rfl rfl (zA rfl rfl rfl (zA rfl rfl rfl (trivial))), zC rfl rfl rfl rfl (zC rfl rfl rfl rfl (zC rfl rfl rfl rfl (zC rfl rfl rfl rfl (zC rfl rfl rfl rfl (trivial))))), trivial⟩
                · have ho12 := cF hg ho12
                  refine dno rfl rfl ?_
                  refine dno rfl rfl ?_
                  refine dno rfl rfl ?_
                  refine dno rfl rfl ?_
                  refine dno rfl rfl ?_
                  refine dno rfl rfl ?_
                  refine dno rfl rfl ?_
                  refine dv rfl rfl (fun _ => rfl) ?_
                  refine dv rfl rfl (fun _ => rfl) ?_
                  refine dv rfl rfl (fun _ => rfl) ?_
                  refine dv rfl rfl (fun _ => rfl) ?_
                  refine dv rfl rfl (fun _ => rfl) ?_
                  refine dv rfl rfl (fun _ => rfl) ?_
                  refine dv rfl rfl (fun _ => rfl) ?_
                  refine ds rfl rfl (fun hg => ?_) (fun hg => ?_)
                  · have ho12 := cT hg ho12
                    refine dv rfl rfl (fun _ => rfl) ?_
                    refine dv rfl rfl (fun _ => rfl) ?_
                    refine dv rfl rfl (fun _ => rfl) ?_
                    refine dt (sNe x2.S []) ?_
                    refine dv rfl rfl (fun _ => rfl) ?_
                    refine dv rfl rfl (fun _ => rfl) ?_
                    refine dn ?_
                    refine rn ?_
                    cases ho12
                    exact cut_n [0] rfl rfl ⟨rfl, rfl, zA rfl rfl rfl (zA rfl rfl rfl (zA rfl rfl rfl (trivial))), zC rfl rfl rfl rfl (zC rfl rfl rfl rfl (zC rfl rfl rfl rfl (zC rfl rfl rfl rfl (zC rfl rfl rfl rfl (trivial))))), trivial⟩
                  · have ho12 := cF hg ho12
                    refine dno rfl rfl ?_
                    refine dno rfl rfl ?_
                    refine dno rfl rfl ?_
                    refine dv rfl rfl (fun _ => rfl) ?_
                    refine dv rfl rfl (fun _ => rfl) ?_
                    refine dn ?_
                    refine rn ?_
                    cases ho12
                    exact cut_n [0] rfl rfl ⟨rfl, rfl, zA rfl rfl rfl (zA rfl rfl rfl (zA rfl rfl rfl (trivial))), zC rfl rfl rfl rfl (zC rfl rfl rfl rfl (zC rfl rfl rfl rfl (zC rfl rfl rfl rfl (zC rfl rfl rfl rfl (trivial))))), trivial⟩
          · rintro x3 rfl
            change awp _ _ _ _ _ ⟨_, _, _, _⟩
            refine cs_ rfl (fun hc => ?_) (fun hc => ?_)
            · have ho6 := cT hc ho6
              refine awp_seq ?_
              refine awp_region ?_
              refine rv rfl rfl ?_
              refine rn ?_
              refine awp_ret ?_
              cases ho6
              have hq := hE7 _ rfl
              subst hq
              have h := ksr h
              subst h
              repeat (first | refine then_ret ?_ | refine inBlock_ret ?_ | refine cut_r ?_)
              exact rr rfl rfl rfl
            · have ho6 := cF hc ho6
              refine awp_skip ?_
              refine inBlock_normal ?_
              refine awp_region ?_
              refine rvs 3 rfl ?_
              refine rn ?_
              cases ho6
              exact lp_n [0] rfl rfl ⟨rfl, rfl, zA rfl rfl rfl (zA rfl rfl rfl (trivial)), zC rfl rfl rfl rfl (zC rfl rfl rfl rfl (zC rfl rfl rfl rfl (zC rfl rfl rfl rfl (zC rfl rfl rfl rfl (trivial))))), trivial⟩
        · have ho6 := cF hc ho6
          refine awp_exit ?_
          repeat (first | refine then_exit ?_ | refine cut_x ?_ | refine inBlock_other rfl ?_)
          refine inBlock_exit ?_
          cases ho6
          have hq := hE7 _ rfl
          subst hq
          exact cut_n [0] rfl rfl ⟨rfl, rfl, zA rfl rfl rfl (trivial), zC rfl rfl rfl rfl (zC rfl rfl rfl rfl (zC rfl rfl rfl rfl (zC rfl rfl rfl rfl (zC rfl rfl rfl rfl (trivial))))), trivial⟩
      · rintro _ rfl
        have h := ksl h
        change awp _ _ _ _ _ ⟨_, _, _, _⟩
        refine awp_seq ?_
        refine awp_seq ?_
        refine awp_region ?_
        refine rvs 3 rfl ?_
        refine rn ?_
        refine cs_ rfl (fun hc => ?_) (fun hc => ?_)
        · have h := cT hc h
          refine awp_seq ?_
          refine awp_region ?_
          refine rvs 2 rfl ?_
          refine rv rfl rfl ?_
          refine rt (sEq op1 []) ?_
          refine rv rfl rfl ?_
          refine rn ?_
          refine awp_ret ?_
          cases h
          repeat (first | refine then_ret ?_ | refine inBlock_ret ?_ | refine cut_r ?_)
          exact rr rfl rfl rfl
        · have h := cF hc h
          refine awp_skip ?_
          refine awp_seq ?_
          refine awp_seq ?_
          refine awp_region ?_
          refine rvs 3 rfl ?_
          refine rn ?_
          refine cs_ rfl (fun hc => ?_) (fun hc => ?_)
          · have h := cT hc h
            refine awp_seq ?_
            obtain ⟨o14, ho15, h⟩ := bi h
            refine awp_cut1 (fun x => x = o14) (fun (x5 : Bool) => ⟨[(2, .bool x5)], [], [], 0⟩) ?_ ?_
            · refine awp_region ?_
              refine rvs 2 rfl ?_
              refine rv rfl rfl ?_
              refine rt ((lM c_tAttr vals1)) ?_
              refine rvs 2 rfl ?_
              refine gs rfl rfl rfl rfl rfl (fun hg => ?_) (fun hg => ?_)
              · have ho15 := cT hg ho15
                refine rv rfl rfl ?_
                refine gy rfl rfl rfl ?_
                refine rv rfl rfl ?_
                refine gy rfl rfl rfl ?_
                obtain ⟨x6, hx16, ho15⟩ := bi ho15
                refine ri rfl rfl rfl rfl rfl rfl (gi0 hx16) (giM c_tAttr hx16) (wM (fun _ => by rfl) _) ?_
                refine gy rfl rfl rfl ?_
                refine rv rfl rfl ?_
                refine gy rfl rfl rfl ?_
                refine rv rfl rfl ?_
                refine rvs 2 rfl ?_
                refine gs rfl rfl rfl rfl rfl (fun hg => ?_) (fun hg => ?_)
                · have ho15 := cT hg ho15
                  refine rv rfl rfl ?_
                  refine gy rfl rfl rfl ?_
                  refine rv rfl rfl ?_
                  refine gy rfl rfl rfl ?_
                  refine rv rfl rfl ?_
                  refine rt (sEq op1 []) ?_
                  refine rvs 2 rfl ?_
                  refine rn ?_
                  cases ho15
                  exact cut_n [] rfl rfl ⟨rfl, rfl, zA rfl rfl rfl (trivial), trivial, trivial⟩
                · have ho15 := cF hg ho15
                  refine gn rfl rfl rfl rfl rfl ?_
                  refine gn rfl rfl rfl rfl rfl ?_
                  refine rvs 2 rfl ?_
                  refine rn ?_
                  cases ho15
                  exact cut_n [] rfl rfl ⟨rfl, rfl, zA rfl rfl rfl (trivial), trivial, trivial⟩
              · have ho15 := cF hg ho15
                refine gn rfl rfl rfl rfl rfl ?_
                refine gn rfl rfl rfl rfl rfl ?_
                refine gn rfl rfl rfl rfl rfl ?_
                refine gn rfl rfl rfl rfl rfl ?_
                refine rvs 2 rfl ?_
                refine gn rfl rfl rfl rfl rfl ?_
                refine gn rfl rfl rfl rfl rfl ?_
                refine gn rfl rfl rfl rfl rfl ?_
                refine rvs 2 rfl ?_
                refine rn ?_
                cases ho15
                exact cut_n [] rfl rfl ⟨rfl, rfl, zA rfl rfl rfl (trivial), trivial, trivial⟩
            · rintro x5 rfl
              change awp _ _ _ _ _ ⟨_, _, _, _⟩
              refine awp_ret ?_
              cases h
              repeat (first | refine then_ret ?_ | refine inBlock_ret ?_ | refine cut_r ?_)
              exact rr rfl rfl rfl
          · have h := cF hc h
            refine awp_skip ?_
            refine awp_seq ?_
            refine awp_region ?_
            refine rvs 2 rfl ?_
            refine rv rfl rfl ?_
            refine rt ((lM c_tAttr vals1)) ?_
            refine rvs 2 rfl ?_
            refine gs rfl rfl rfl rfl rfl (fun hg => ?_) (fun hg => ?_)
            · have h := cT hg h
              refine rv rfl rfl ?_
              refine gy rfl rfl rfl ?_
              refine rv rfl rfl ?_
              refine gy rfl rfl rfl ?_
              obtain ⟨x7, hx17, h⟩ := bi h
              refine rc1 rfl rfl rfl (dref06_op_l hx17) ?_
              refine rvs 2 rfl ?_
              refine rn ?_
              refine awp_ret ?_
              cases h
              repeat (first | refine then_ret ?_ | refine inBlock_ret ?_ | refine cut_r ?_)
              exact rr rfl rfl rfl
            · have h := cF hg h
              refine gn rfl rfl rfl rfl rfl ?_
              refine gn rfl rfl rfl rfl rfl ?_
              refine rvs 2 rfl ?_
              refine rn ?_
              refine awp_ret ?_
              cases h
              repeat (first | refine then_ret ?_ | refine inBlock_ret ?_ | refine cut_r ?_)
              exact rr rfl rfl rfl
end

mutual
def dref06_fine : Nat → tFilter → Option Bool
  | 0, _ => none
  | fu + 1, f1 => match f1 with | .mk kind1 name1 op1 vals1 l1 => (bif (kind1 == 4) then some true else (bif (kind1 == 5) then some true else some (kind1 == 6)) : Option Bool).bind fun (x1 : Bool) => (bif x1 then ((dref06_leaf fu (tFilter.mk kind1 name1 op1 vals1 l1)).bind fun x2 => some x2) else ((some ((l1.length : Int))).bind fun n1 => (bif (kind1 == 1) then (bif (decide (n1 ≥ 2)) then some true else (bif (kind1 == 3) then (bif (n1 == 1) then some true else (bif (kind1 == 7) then some (n1 == 0) else some false)) else (bif (kind1 == 7) then some (n1 == 0) else some false))) else (bif (kind1 == 2) then (bif (decide (n1 ≥ 2)) then some true else (bif (kind1 == 3) then (bif (n1 == 1) then some true else (bif (kind1 == 7) then some (n1 == 0) else some false)) else (bif (kind1 == 7) then some (n1 == 0) else some false))) else (bif (kind1 == 3) then (bif (n1 == 1) then some true else (bif (kind1 == 7) then some (n1 == 0) else some false)) else (bif (kind1 == 7) then some (n1 == 0) else some false))) : Option Bool).bind fun (many1 : Bool) => ((bif (!many1) then some true else (bif (!(name1 == [])) then some true else (bif (!(op1 == [])) then some true else some (decide ((vals1.length : Int) > 0)))) : Option Bool).bind fun (x3 : Bool) => (bif x3 then some false else ((loopD (ε := Int) (τ := Unit ⊕ Bool) (fun (i1 : Int) => (bif (decide (i1 < n1)) then ((gi l1 i1).bind fun ok1 => match ok1 with | .mk kind2 name2 op2 vals2 l2 => (dref06_fine fu (tFilter.mk kind2 name2 op2 vals2 l2)).bind fun ok2 => (bif (!ok2) then some true else (bif (kind1 != 3) then ((gi l1 i1).bind fun x5 => match x5 with | .mk kind3 name3 op3 vals3 l3 => some (kind3 == kind1)) else some false) : Option Bool).bind fun (x4 : Bool) => (bif x4 then some (Sum.inr (Sum.inr false)) else some (Sum.inl (W (i1 + 1))))) else some (Sum.inr (Sum.inl ())))) fu 0).bind fun o => kS o fun (_ : Unit) => some true)))))
end
section
attribute [local irreducible] awp aops DP PCall ACall Decidable.decide
/-- `plover/ploverref06.fine` -/
theorem dref06_fine_s {fu : Nat} (ih_dref06_fine : ∀ {f1} {r : Bool}, dref06_fine fu f1 = some r → PCall Tryz.prog 21 [.agg (c_tFilter f1)] (· = .bool r)) : ∀ {f1} {r : Bool}, dref06_fine (fu + 1) f1 = some r → PCall Tryz.prog 21 [.agg (c_tFilter f1)] (· = .bool r) := by
  intro f1 r h
  obtain ⟨kind1, name1, op1, vals1, l1⟩ := f1
  rw [dref06_fine] at h
  refine pcall_body Tryz.func21 rfl (by kernel_rfl) (by rfl) ?_
  refine awp_seq ?_
  refine awp_region ?_
  refine rb rfl rfl ?_
  refine rv rfl rfl ?_
  refine rn ?_
  refine awp_seq ?_
  refine awp_seq ?_
  obtain ⟨o1, ho2, h⟩ := bi h
  refine awp_cut1 (fun x => x = o1) (fun (x1 : Bool) => ⟨[(1, .ptr 0 0), (19, .bool x1)], [(0, 0, .int .i64 kind1), (0, 1, .str (sB name1)), (0, 2, .str (sB op1)), (0, 3, .sl (vals1.map c_tAttr)), (0, 4, .sl (cs_tFilter l1))], [], 1⟩) ?_ ?_
  · refine awp_region ?_
    refine rvs 4 rfl ?_
    refine gs rfl rfl rfl rfl rfl (fun hg => ?_) (fun hg => ?_)
    · have ho2 := cF hg ho2
      refine rv rfl rfl ?_
      refine gy rfl rfl rfl ?_
      refine rv rfl rfl ?_
      refine gy rfl rfl rfl ?_
      refine rv rfl rfl ?_
      refine rvs 2 rfl ?_
      refine gs rfl rfl rfl rfl rfl (fun hg => ?_) (fun hg => ?_)
      · have ho2 := cF hg ho2
        refine rv rfl rfl ?_
        refine gy rfl rfl rfl ?_
        refine rv rfl rfl ?_
        refine gy rfl rfl rfl ?_
        refine rv rfl rfl ?_
        refine rv rfl rfl ?_
        refine rn ?_
        cases ho2
        exact cut_n [0] rfl rfl ⟨rfl, rfl, zA rfl rfl rfl (zA rfl rfl rfl (trivial)), zC rfl rfl rfl rfl (zC rfl rfl rfl rfl (zC rfl rfl rfl rfl (zC rfl rfl rfl rfl (zC rfl rfl rfl rfl (trivial))))), trivial⟩
      · have ho2 := cT hg ho2
        refine gn rfl rfl rfl rfl rfl ?_
        refine gn rfl rfl rfl rfl rfl ?_
        refine rv rfl rfl ?_
        refine rn ?_
        cases ho2
        exact cut_n [0] rfl rfl ⟨rfl, rfl, zA rfl rfl rfl (zA rfl rfl rfl (trivial)), zC rfl rfl rfl rfl (zC rfl rfl rfl rfl (zC rfl rfl rfl rfl (zC rfl rfl rfl rfl (zC rfl rfl rfl rfl (trivial))))), trivial⟩
    · have ho2 := cT hg ho2
      refine gn rfl rfl rfl rfl rfl ?_
      refine gn rfl rfl rfl rfl rfl ?_
      refine rvs 2 rfl ?_
      refine gn rfl rfl rfl rfl rfl ?_
      refine gn rfl rfl rfl rfl rfl ?_
      refine gn rfl rfl rfl rfl rfl ?_
      refine rv rfl rfl ?_
      refine rn ?_
      cases ho2
      exact cut_n [0] rfl rfl ⟨rfl, rfl, zA rfl rfl rfl (zA rfl rfl rfl (trivial)), zC rfl rfl rfl rfl (zC rfl rfl rfl rfl (zC rfl rfl rfl rfl (zC rfl rfl rfl rfl (zC rfl rfl rfl rfl (trivial))))), trivial⟩
  · rintro x1 rfl
    change awp _ _ _ _ _ ⟨_, _, _, _⟩
    refine cs_ rfl (fun hc => ?_) (fun hc => ?_)
    · have h := cT hc h
      refine awp_seq ?_
      refine awp_region ?_
      refine rv rfl rfl ?_
      obtain ⟨x2, hx3, h⟩ := bi h
      refine rc1 rfl rfl rfl (dref06_leaf_l hx3) ?_
      refine rv rfl rfl ?_
      refine rn ?_
      refine awp_ret ?_
      cases h
      repeat (first | refine then_ret ?_ | refine inBlock_ret ?_ | refine cut_r ?_)
      exact rr rfl rfl rfl
    · have h := cF hc h
      refine awp_skip ?_
      refine awp_seq ?_
      refine awp_region ?_
      refine rvs 2 rfl ?_
      refine rv rfl rfl ?_
      refine rt ((lM_tFilter l1)) ?_
      refine rv rfl rfl ?_
      obtain ⟨n1, hx4, h⟩ := bs h
      refine rt (ei' hx4) ?_
      refine rn ?_
      refine awp_seq ?_
      obtain ⟨o5, ho6, h⟩ := bi h
      refine awp_cut1 (fun x => x = o5) (fun (many1 : Bool) => ⟨[(1, .ptr 0 0), (3, .int .i64 n1), (4, .bool many1)], [(0, 0, .int .i64 kind1), (0, 1, .str (sB name1)), (0, 2, .str (sB op1)), (0, 3, .sl (vals1.map c_tAttr)), (0, 4, .sl (cs_tFilter l1))], [], 1⟩) ?_ ?_
      · refine awp_region ?_
        refine rvs 4 rfl ?_
        refine gs rfl rfl rfl rfl rfl (fun hg => ?_) (fun hg => ?_)
        · have ho6 := cF hg ho6
          refine rv rfl rfl ?_
          refine gy rfl rfl rfl ?_
          refine rv rfl rfl ?_
          refine gy rfl rfl rfl ?_
          refine rv rfl rfl ?_
          refine rvs 2 rfl ?_
          refine gs rfl rfl rfl rfl rfl (fun hg => ?_) (fun hg => ?_)
          · have ho6 := cT hg ho6
            refine rv rfl rfl ?_
            refine gy rfl rfl rfl ?_
            refine rv rfl rfl ?_
            refine rvs 2 rfl ?_
            refine gs rfl rfl rfl rfl rfl (fun hg => ?_) (fun hg => ?_)
            · have ho6 := cF hg ho6
              refine rv rfl rfl ?_
              refine gy rfl rfl rfl ?_
              refine rv rfl rfl ?_
              refine gy rfl rfl rfl ?_
              refine rv rfl rfl ?_
              refine gy rfl rfl rfl ?_
              refine rv rfl rfl ?_
              refine gs rfl rfl rfl rfl rfl (fun hg => ?_) (fun hg => ?_)
              · have ho6 := cT hg ho6
                refine rv rfl rfl ?_
                refine gy rfl rfl rfl ?_
                refine rv rfl rfl ?_
                refine gy rfl rfl rfl ?_
                refine rv rfl rfl ?_
                refine rvs 2 rfl ?_
                refine gs rfl rfl rfl rfl rfl (fun hg => ?_) (fun hg => ?_)
                · have ho6 := cF hg ho6
                  refine rv rfl rfl ?_
                  refine gy rfl rfl rfl ?_
                  refine rv rfl rfl ?_
                  refine gy rfl rfl rfl ?_
                  refine rv rfl rfl ?_
                  refine gy rfl rfl rfl ?_
                  refine rv rfl rfl ?_
                  refine gs rfl rfl rfl rfl rfl (fun hg => ?_) (fun hg => ?_)
                  · have ho6 := cT hg ho6
                    refine rv rfl rfl ?_
                    refine gy rfl rfl rfl ?_
                    refine rv rfl rfl ?_
                    refine gy rfl rfl rfl ?_
                    refine rv rfl rfl ?_
                    refine rvs 2 rfl ?_
                    refine rn ?_
                    cases ho6
                    exact cut_n [0] rfl rfl ⟨rfl, rfl, zA rfl rfl rfl (zA rfl rfl rfl (zA rfl rfl rfl (trivial))), zC rfl rfl rfl rfl (zC rfl rfl rfl rfl (zC rfl rfl rfl rfl (zC rfl rfl rfl rfl (zC rfl rfl rfl rfl (trivial))))), trivial⟩
                  · have ho6 := cF hg ho6
                    refine gn rfl rfl rfl rfl rfl ?_
                    refine gy rfl rfl rfl ?_
                    refine rv rfl rfl ?_
                    refine rvs 2 rfl ?_
                    refine rn ?_
                    cases ho6
                    exact cut_n [0] rfl rfl ⟨rfl, rfl, zA rfl rfl rfl (zA rfl rfl rfl (zA rfl rfl rfl (trivial))), zC rfl rfl rfl rfl (zC rfl rfl rfl rfl (zC rfl rfl rfl rfl (zC rfl rfl rfl rfl (zC rfl rfl rfl rfl (trivial))))), trivial⟩
                · have ho6 := cT hg ho6
                  refine gn rfl rfl rfl rfl rfl ?_
                  refine gn rfl rfl rfl rfl rfl ?_
                  refine gn rfl rfl rfl rfl rfl ?_
                  refine gu rfl rfl rfl rfl ?_
                  refine gu rfl rfl rfl rfl ?_
                  refine gn rfl rfl rfl rfl rfl ?_
                  refine rvs 2 rfl ?_
                  refine rn ?_
                  cases ho6
                  exact cut_n [0] rfl rfl ⟨rfl, rfl, zA rfl rfl rfl (zA rfl rfl rfl (zA rfl rfl rfl (trivial))), zC rfl rfl rfl rfl (zC rfl rfl rfl rfl (zC rfl rfl rfl rfl (zC rfl rfl rfl rfl (zC rfl rfl rfl rfl (trivial))))), trivial⟩
              · have ho6 := cF hg ho6
                refine gn rfl rfl rfl rfl rfl ?_
                refine gy rfl rfl rfl ?_
                refine rv rfl rfl ?_
                refine rvs 2 rfl ?_
                refine gy rfl rfl rfl ?_
                refine rv rfl rfl ?_
                refine gy rfl rfl rfl ?_
                refine rv rfl rfl ?_
                refine gy rfl rfl rfl ?_
                refine rv rfl rfl ?_
                refine gy rfl rfl rfl ?_
                refine rv rfl rfl ?_
                refine gs rfl rfl rfl rfl rfl (fun hg => ?_) (fun hg => ?_)
                · have ho6 := cT hg ho6
                  refine rv rfl rfl ?_
                  refine gy rfl rfl rfl ?_
                  refine rv rfl rfl ?_
                  refine gy rfl rfl rfl ?_
                  refine rv rfl rfl ?_
                  refine rvs 2 rfl ?_
                  refine rn ?_
                  cases ho6
                  exact cut_n [0] rfl rfl ⟨rfl, rfl, zA rfl rfl rfl (zA rfl rfl rfl (zA rfl rfl rfl (trivial))), zC rfl rfl rfl rfl (zC rfl rfl rfl rfl (zC rfl rfl rfl rfl (zC rfl rfl rfl rfl (zC rfl rfl rfl rfl (trivial))))), trivial⟩
                · have ho6 := cF hg ho6
                  refine gn rfl rfl rfl rfl rfl ?_
                  refine gy rfl rfl rfl ?_
                  refine rv rfl rfl ?_
                  refine rvs 2 rfl ?_
                  refine rn ?_
                  cases ho6
                  exact cut_n [0] rfl rfl ⟨rfl, rfl, zA rfl rfl rfl (zA rfl rfl rfl (zA rfl rfl rfl (trivial))), zC rfl rfl rfl rfl (zC rfl rfl rfl rfl (zC rfl rfl rfl rfl (zC rfl rfl rfl rfl (zC rfl rfl rfl rfl (trivial))))), trivial⟩
            · have ho6 := cT hg ho6
              refine gn rfl rfl rfl rfl rfl ?_
              refine gn rfl rfl rfl rfl rfl ?_
              refine gn rfl rfl rfl rfl rfl ?_
              refine gu rfl rfl rfl rfl ?_
              refine gu rfl rfl rfl rfl ?_
              refine gn rfl rfl rfl rfl rfl ?_
              refine rvs 2 rfl ?_
              refine gn rfl rfl rfl rfl rfl ?_
              refine gn rfl rfl rfl rfl rfl ?_
              refine gn rfl rfl rfl rfl rfl ?_
              refine gn rfl rfl rfl rfl rfl ?_
              refine gu rfl rfl rfl rfl ?_
              refine gu rfl rfl rfl rfl ?_
              refine gn rfl rfl rfl rfl rfl ?_
              refine rvs 2 rfl ?_
              refine rn ?_
              cases ho6
              exact cut_n [0] rfl rfl ⟨rfl, rfl, zA rfl rfl rfl (zA rfl rfl rfl (zA rfl rfl rfl (trivial))), zC rfl rfl rfl rfl (zC rfl rfl rfl rfl (zC rfl rfl rfl rfl (zC rfl rfl rfl rfl (zC rfl rfl rfl rfl (trivial))))), trivial⟩
          · have ho6 := cF hg ho6
            refine gn rfl rfl rfl rfl rfl ?_
            refine rvs 2 rfl ?_
            refine gy rfl rfl rfl ?_
            refine rv rfl rfl ?_
            refine gy rfl rfl rfl ?_
            refine rv rfl rfl ?_
            refine gy rfl rfl rfl ?_
            refine rv rfl rfl ?_
            refine gy rfl rfl rfl ?_
            refine rv rfl rfl ?_
            refine gs rfl rfl rfl rfl rfl (fun hg => ?_) (fun hg => ?_)
            · have ho6 := cT hg ho6
              refine rv rfl rfl ?_
              refine gy rfl rfl rfl ?_
              refine rv rfl rfl ?_
              refine gy rfl rfl rfl ?_
              refine rv rfl rfl ?_
              refine rvs 2 rfl ?_
              refine gs rfl rfl rfl rfl rfl (fun hg => ?_) (fun hg => ?_)
              · have ho6 := cF hg ho6
                refine rv rfl rfl ?_
                refine gy rfl rfl rfl ?_
                refine rv rfl rfl ?_
                refine gy rfl rfl rfl ?_
                refine rv rfl rfl ?_
                refine gy rfl rfl rfl ?_
                refine rv rfl rfl ?_
                refine gs rfl rfl rfl rfl rfl (fun hg => ?_) (fun hg => ?_)
                · have ho6 := cT hg ho6
                  refine rv rfl rfl ?_
                  refine gy rfl rfl rfl ?_
                  refine rv rfl rfl ?_
                  refine gy rfl rfl rfl ?_
                  refine rv rfl rfl ?_
                  refine rvs 2 rfl ?_
                  refine rn ?_
                  cases ho6
                  exact cut_n [0] rfl rfl ⟨rfl, rfl, zA rfl rfl rfl (zA rfl rfl rfl (zA rfl rfl rfl (trivial))), zC rfl rfl rfl rfl (zC rfl rfl rfl rfl (zC rfl rfl rfl rfl (zC rfl rfl rfl rfl (zC rfl rfl rfl rfl (trivial))))), trivial⟩
                · have ho6 := cF hg ho6
                  refine gn rfl rfl rfl rfl rfl ?_
                  refine gy rfl rfl rfl ?_
                  refine rv rfl rfl ?_
                  refine rvs 2 rfl ?_
                  refine rn ?_
                  cases ho6
                  exact cut_n [0] rfl rfl ⟨rfl, rfl, zA rfl rfl rfl (zA rfl rfl rfl (zA rfl rfl rfl (trivial))), zC rfl rfl rfl rfl (zC rfl rfl rfl rfl (zC rfl rfl rfl rfl (zC rfl rfl rfl rfl (zC rfl rfl rfl rfl (trivial))))), trivial⟩
              · have ho6 := cT hg ho6
                refine gn rfl rfl rfl rfl rfl ?_
                refine gn rfl rfl rfl rfl rfl ?_
                refine gn rfl rfl rfl rfl rfl ?_
                refine gu rfl rfl rfl rfl ?_
                refine gu rfl rfl rfl rfl ?_
                refine gn rfl rfl rfl rfl rfl ?_
                refine rvs 2 rfl ?_
                refine rn ?_
                cases ho6
                exact cut_n [0] rfl rfl ⟨rfl, rfl, zA rfl rfl rfl (zA rfl rfl rfl (zA rfl rfl rfl (trivial))), zC rfl rfl rfl rfl (zC rfl rfl rfl rfl (zC rfl rfl rfl rfl (zC rfl rfl rfl rfl (zC rfl rfl rfl rfl (trivial))))), trivial⟩
            · have ho6 := cF hg ho6
              refine gn rfl rfl rfl rfl rfl ?_
              refine gy rfl rfl rfl ?_
              refine rv rfl rfl ?_
              refine rvs 2 rfl ?_
              refine gy rfl rfl rfl ?_
              refine rv rfl rfl ?_
              refine gy rfl rfl rfl ?_
              refine rv rfl rfl ?_
              refine gy rfl rfl rfl ?_
              refine rv rfl rfl ?_
              refine gy rfl rfl rfl ?_
              refine rv rfl rfl ?_
              refine gs rfl rfl rfl rfl rfl (fun hg => ?_) (fun hg => ?_)
              · have ho6 := cT hg ho6
                refine rv rfl rfl ?_
                refine gy rfl rfl rfl ?_
                refine rv rfl rfl ?_
                refine gy rfl rfl rfl ?_
                refine rv rfl rfl ?_
                refine rvs 2 rfl ?_
                refine rn ?_
                cases ho6
                exact cut_n [0] rfl rfl ⟨rfl, rfl, zA rfl rfl rfl (zA rfl rfl rfl (zA rfl rfl rfl (trivial))), zC rfl rfl rfl rfl (zC rfl rfl rfl rfl (zC rfl rfl rfl rfl (zC rfl rfl rfl rfl (zC rfl rfl rfl rfl (trivial))))), trivial⟩
              · have ho6 := cF hg ho6
                refine gn rfl rfl rfl rfl rfl ?_
                refine gy rfl rfl rfl ?_
                refine rv rfl rfl ?_
                refine rvs 2 rfl ?_
                refine rn ?_
                cases ho6
                exact cut_n [0] rfl rfl ⟨rfl, rfl, zA rfl rfl rfl (zA rfl rfl rfl (zA rfl rfl rfl (trivial))), zC rfl rfl rfl rfl (zC rfl rfl rfl rfl (zC rfl rfl rfl rfl (zC rfl rfl rfl rfl (zC rfl rfl rfl rfl (trivial))))), trivial⟩
        · have ho6 := cT hg ho6
          refine gn rfl rfl rfl rfl rfl ?_
          refine gn rfl rfl rfl rfl rfl ?_
          refine rvs 2 rfl ?_
          refine gy rfl rfl rfl ?_
          refine rv rfl rfl ?_
          refine gy rfl rfl rfl ?_
          refine rv rfl rfl ?_
          refine rvs 2 rfl ?_
          refine gs rfl rfl rfl rfl rfl (fun hg => ?_) (fun hg => ?_)
          · have ho6 := cF hg ho6
            refine rv rfl rfl ?_
            refine gy rfl rfl rfl ?_
            refine rv rfl rfl ?_
            refine gy rfl rfl rfl ?_
            refine rv rfl rfl ?_
            refine gy rfl rfl rfl ?_
            refine rv rfl rfl ?_
            refine gs rfl rfl rfl rfl rfl (fun hg => ?_) (fun hg => ?_)
            · have ho6 := cT hg ho6
              refine rv rfl rfl ?_
              refine gy rfl rfl rfl ?_
              refine rv rfl rfl ?_
              refine gy rfl rfl rfl ?_
              refine rv rfl rfl ?_
              refine rvs 2 rfl ?_
              refine gs rfl rfl rfl rfl rfl (fun hg => ?_) (fun hg => ?_)
              · have ho6 := cF hg ho6
                refine rv rfl rfl ?_
                refine gy rfl rfl rfl ?_
                refine rv rfl rfl ?_
                refine gy rfl rfl rfl ?_
                refine rv rfl rfl ?_
                refine gy rfl rfl rfl ?_
                refine rv rfl rfl ?_
                refine gs rfl rfl rfl rfl rfl (fun hg => ?_) (fun hg => ?_)
                · have ho6 := cT hg ho6
                  refine rv rfl rfl ?_
                  refine gy rfl rfl rfl ?_
                  refine rv rfl rfl ?_
                  refine gy rfl rfl rfl ?_
                  refine rv rfl rfl ?_
                  refine rvs 2 rfl ?_
                  refine rn ?_
                  cases ho6
                  exact cut_n [0] rfl rfl ⟨rfl, rfl, zA rfl rfl rfl (zA rfl rfl rfl (zA rfl rfl rfl (trivial))), zC rfl rfl rfl rfl (zC rfl rfl rfl rfl (zC rfl rfl rfl rfl (zC rfl rfl rfl rfl (zC rfl rfl rfl rfl (trivial))))), trivial⟩
                · have ho6 := cF hg ho6
                  refine gn rfl rfl rfl rfl rfl ?_
                  refine gy rfl rfl rfl ?_
                  refine rv rfl rfl ?_
                  refine rvs 2 rfl ?_
                  refine rn ?_
                  cases ho6
                  exact cut_n [0] rfl rfl ⟨rfl, rfl, zA rfl rfl rfl (zA rfl rfl rfl (zA rfl rfl rfl (trivial))), zC rfl rfl rfl rfl (zC rfl rfl rfl rfl (zC rfl rfl rfl rfl (zC rfl rfl rfl rfl (zC rfl rfl rfl rfl (trivial))))), trivial⟩
              · have ho6 := cT hg ho6
                refine gn rfl rfl rfl rfl rfl ?_
                refine gn rfl rfl rfl rfl rfl ?_
                refine gn rfl rfl rfl rfl rfl ?_
                refine gu rfl rfl rfl rfl ?_
                refine gu rfl rfl rfl rfl ?_
                refine gn rfl rfl rfl rfl rfl ?_
                refine rvs 2 rfl ?_
                refine rn ?_
                cases ho6
                exact cut_n [0] rfl rfl ⟨rfl, rfl, zA rfl rfl rfl (zA rfl rfl rfl (zA rfl rfl rfl (trivial))), zC rfl rfl rfl rfl (zC rfl rfl rfl rfl (zC rfl rfl rfl rfl (zC rfl rfl rfl rfl (zC rfl rfl rfl rfl (trivial))))), trivial⟩
            · have ho6 := cF hg ho6
              refine gn rfl rfl rfl rfl rfl ?_
              refine gy rfl rfl rfl ?_
              refine rv rfl rfl ?_
              refine rvs 2 rfl ?_
              refine gy rfl rfl rfl ?_
              refine rv rfl rfl ?_
              refine gy rfl rfl rfl ?_
              refine rv rfl rfl ?_
              refine gy rfl rfl rfl ?_
              refine rv rfl rfl ?_
              refine gy rfl rfl rfl ?_
              refine rv rfl rfl ?_
              refine gs rfl rfl rfl rfl rfl (fun hg => ?_) (fun hg => ?_)
              · have ho6 := cT hg ho6
                refine rv rfl rfl ?_
                refine gy rfl rfl rfl ?_
                refine rv rfl rfl ?_
                refine gy rfl rfl rfl ?_
                refine rv rfl rfl ?_
                refine rvs 2 rfl ?_
                refine rn ?_
                cases ho6
                exact cut_n [0] rfl rfl ⟨rfl, rfl, zA rfl rfl rfl (zA rfl rfl rfl (zA rfl rfl rfl (trivial))), zC rfl rfl rfl rfl (zC rfl rfl rfl rfl (zC rfl rfl rfl rfl (zC rfl rfl rfl rfl (zC rfl rfl rfl rfl (trivial))))), trivial⟩
              · have ho6 := cF hg ho6
                refine gn rfl rfl rfl rfl rfl ?_
                refine gy rfl rfl rfl ?_
                refine rv rfl rfl ?_
                refine rvs 2 rfl ?_
                refine rn ?_
                cases ho6
                exact cut_n [0] rfl rfl ⟨rfl, rfl, zA rfl rfl rfl (zA rfl rfl rfl (zA rfl rfl rfl (trivial))), zC rfl rfl rfl rfl (zC rfl rfl rfl rfl (zC rfl rfl rfl rfl (zC rfl rfl rfl rfl (zC rfl rfl rfl rfl (trivial))))), trivial⟩
          · have ho6 := cT hg ho6
            refine gn rfl rfl rfl rfl rfl ?_
            refine gn rfl rfl rfl rfl rfl ?_
            refine gn rfl rfl rfl rfl rfl ?_
            refine gu rfl rfl rfl rfl ?_
            refine gu rfl rfl rfl rfl ?_
            refine gn rfl rfl rfl rfl rfl ?_
            refine rvs 2 rfl ?_
            refine gn rfl rfl rfl rfl rfl ?_
            refine gn rfl rfl rfl rfl rfl ?_
            refine gn rfl rfl rfl rfl rfl ?_
            refine gn rfl rfl rfl rfl rfl ?_
            refine gu rfl rfl rfl rfl ?_
            refine gu rfl rfl rfl rfl ?_
            refine gn rfl rfl rfl rfl rfl ?_
            refine rvs 2 rfl ?_
            refine rn ?_
            cases ho6
            exact cut_n [0] rfl rfl ⟨rfl, rfl, zA rfl rfl rfl (zA rfl rfl rfl (zA rfl rfl rfl (trivial))), zC rfl rfl rfl rfl (zC rfl rfl rfl rfl (zC rfl rfl rfl rfl (zC rfl rfl rfl rfl (zC rfl rfl rfl rfl (trivial))))), trivial⟩
      · rintro many1 rfl
        change awp _ _ _ _ _ ⟨_, _, _, _⟩
        refine awp_seq ?_
        refine awp_seq ?_
        obtain ⟨o7, ho8, h⟩ := bi h
        refine awp_cut1 (fun x => x = o7) (fun (x3 : Bool) => ⟨[(1, .ptr 0 0), (3, .int .i64 n1), (72, .bool x3)], [(0, 0, .int .i64 kind1), (0, 1, .str (sB name1)), (0, 2, .str (sB op1)), (0, 3, .sl (vals1.map c_tAttr)), (0, 4, .sl (cs_tFilter l1))], [], 1⟩) ?_ ?_
        · refine awp_region ?_
          refine rvs 3 rfl ?_
          refine gs rfl rfl rfl rfl rfl (fun hg => ?_) (fun hg => ?_)
          · have ho8 := cF hg ho8
            refine rv rfl rfl ?_
            refine gy rfl rfl rfl ?_
            refine rv rfl rfl ?_
            refine gy rfl rfl rfl ?_
            refine rv rfl rfl ?_
            refine rt (sNe name1 []) ?_
            refine rvs 2 rfl ?_
            refine gs rfl rfl rfl rfl rfl (fun hg => ?_) (fun hg => ?_)
            · have ho8 := cF hg ho8
              refine rv rfl rfl ?_
              refine gy rfl rfl rfl ?_
              refine rv rfl rfl ?_
              refine gy rfl rfl rfl ?_
              refine rv rfl rfl ?_
              refine rt (sNe op1 []) ?_
              refine rvs 2 rfl ?_
              refine gs rfl rfl rfl rfl rfl (fun hg => ?_) (fun hg => ?_)
              · have ho8 := cF hg ho8
                refine rv rfl rfl ?_
                refine gy rfl rfl rfl ?_
                refine rv rfl rfl ?_
                refine gy rfl rfl rfl ?_
                refine rv rfl rfl ?_
                refine rt ((lM c_tAttr vals1)) ?_
                refine gy rfl rfl rfl ?_
                refine rv rfl rfl ?_
                refine rv rfl rfl ?_
                refine rn ?_
                cases ho8
                exact cut_n [0] rfl rfl ⟨rfl, rfl, zA rfl rfl rfl (zA rfl rfl rfl (zA rfl rfl rfl (trivial))), zC rfl rfl rfl rfl (zC rfl rfl rfl rfl (zC rfl rfl rfl rfl (zC rfl rfl rfl rfl (zC rfl rfl rfl rfl (trivial))))), trivial⟩
              · have ho8 := cT hg ho8
                refine gn rfl rfl rfl rfl rfl ?_
                refine gn rfl rfl rfl rfl rfl ?_
                refine gn rfl rfl rfl rfl rfl ?_
                refine rv rfl rfl ?_
                refine rn ?_
                cases ho8
                exact cut_n [0] rfl rfl ⟨rfl, rfl, zA rfl rfl rfl (zA rfl rfl rfl (zA rfl rfl rfl (trivial))), zC rfl rfl rfl rfl (zC rfl rfl rfl rfl (zC rfl rfl rfl rfl (zC rfl rfl rfl rfl (zC rfl rfl rfl rfl (trivial))))), trivial⟩
            · have ho8 := cT hg ho8
              refine gn rfl rfl rfl rfl rfl ?_
              refine gn rfl rfl rfl rfl rfl ?_
              refine rvs 2 rfl ?_
              refine gn rfl rfl rfl rfl rfl ?_
              refine gn rfl rfl rfl rfl rfl ?_
              refine gn rfl rfl rfl rfl rfl ?_
              refine gn rfl rfl rfl rfl rfl ?_
              refine rv rfl rfl ?_
              refine rn ?_
              cases ho8
              exact cut_n [0] rfl rfl ⟨rfl, rfl, zA rfl rfl rfl (zA rfl rfl rfl (zA rfl rfl rfl (trivial))), zC rfl rfl rfl rfl (zC rfl rfl rfl rfl (zC rfl rfl rfl rfl (zC rfl rfl rfl rfl (zC rfl rfl rfl rfl (trivial))))), trivial⟩
          · have ho8 := cT hg ho8
            refine gn rfl rfl rfl rfl rfl ?_
            refine gn rfl rfl rfl rfl rfl ?_
            refine rvs 2 rfl ?_
            refine gn rfl rfl rfl rfl rfl ?_
            refine gn rfl rfl rfl rfl rfl ?_
            refine gn rfl rfl rfl rfl rfl ?_
            refine rvs 2 rfl ?_
            refine gn rfl rfl rfl rfl rfl ?_
            refine gn rfl rfl rfl rfl rfl ?_
            refine gn rfl rfl rfl rfl rfl ?_
            refine gn rfl rfl rfl rfl rfl ?_
            refine rv rfl rfl ?_
            refine rn ?_
            cases ho8
            exact cut_n [0] rfl rfl ⟨rfl, rfl, zA rfl rfl rfl (zA rfl rfl rfl (zA rfl rfl rfl (trivial))), zC rfl rfl rfl rfl (zC rfl rfl rfl rfl (zC rfl rfl rfl rfl (zC rfl rfl rfl rfl (zC rfl rfl rfl rfl (trivial))))), trivial⟩
        · rintro x3 rfl
          change awp _ _ _ _ _ ⟨_, _, _, _⟩
          refine cs_ rfl (fun hc => ?_) (fun hc => ?_)
          · have h := cT hc h
            refine awp_seq ?_
            refine awp_region ?_
            refine rv rfl rfl ?_
            refine rn ?_
            refine awp_ret ?_
            cases h
            repeat (first | refine then_ret ?_ | refine inBlock_ret ?_ | refine cut_r ?_)
            exact rr rfl rfl rfl
          · have h := cF hc h
            refine awp_skip ?_
            refine awp_seq ?_
            refine awp_seq ?_
            refine awp_region ?_
            refine rv rfl rfl ?_
            refine rn ?_
            obtain ⟨e9, hl10, h⟩ := bi h
            refine awp_cut1 (fun x => Sum.inl x = e9) (fun (_ : Unit) => ⟨[], [], [], 0⟩) ?_ ?_
            · refine awp_block ?_
              refine awp_loopD hl10 (fun (i1 : Int) => ⟨[(1, .ptr 0 0), (3, .int .i64 n1), (5, .int .i64 i1)], [(0, 0, .int .i64 kind1), (0, 1, .str (sB name1)), (0, 2, .str (sB op1)), (0, 3, .sl (vals1.map c_tAttr)), (0, 4, .sl (cs_tFilter l1))], [], 1⟩) [0] rfl ⟨rfl, rfl, zA rfl rfl rfl (zA rfl rfl rfl (zA rfl rfl rfl (trivial))), zC rfl rfl rfl rfl (zC rfl rfl rfl rfl (zC rfl rfl rfl rfl (zC rfl rfl rfl rfl (zC rfl rfl rfl rfl (trivial))))), trivial⟩ ?_
              intro i1 o13 ho11 hE12
              change awp _ _ _ _ _ ⟨_, _, _, _⟩
              refine awp_seq ?_
              refine awp_seq ?_
              refine awp_region ?_
              refine rvs 3 rfl ?_
              refine rn ?_
              refine cs_ rfl (fun hc => ?_) (fun hc => ?_)
              · have ho11 := cT hc ho11
                refine awp_skip ?_
                refine awp_seq ?_
                refine awp_block ?_
                refine awp_seq ?_
                refine awp_region ?_
                refine rvs 3 rfl ?_
                obtain ⟨ok1, hx14, ho11⟩ := bi ho11
                refine ri rfl rfl rfl rfl rfl rfl (gi0 hx14) (giM_tFilter hx14) (wM_tFilter _) ?_
                obtain ⟨kind2, name2, op2, vals2, l2⟩ := ok1
                refine rv rfl rfl ?_
                obtain ⟨ok2, hx15, ho11⟩ := bi ho11
                refine rc1 rfl rfl rfl (ih_dref06_fine hx15) ?_
                refine rv rfl rfl ?_
                refine rn ?_
                refine awp_seq ?_
                obtain ⟨o16, ho17, ho11⟩ := bi ho11
                refine awp_cut1 (fun x => x = o16) (fun (x4 : Bool) => ⟨[(1, .ptr 0 0), (3, .int .i64 n1), (5, .int .i64 i1), (101, .bool x4)], [(0, 0, .int .i64 kind1), (0, 1, .str (sB name1)), (0, 2, .str (sB op1)), (0, 3, .sl (vals1.map c_tAttr)), (0, 4, .sl (cs_tFilter l1))], [], 1⟩) ?_ ?_
                · refine awp_dp (m := 18) Tryz.mix (by kernel_rfl) (by kernel_rfl) (by kernel_rfl) (by kernel_rfl) (by kernel_rfl) (by kernel_rfl) (by kernel_rfl) ?_
                  refine dv rfl rfl (fun _ => rfl) ?_
                  refine dv rfl rfl (fun _ => rfl) ?_
                  refine dv rfl rfl (fun _ => rfl) ?_
                  refine ds rfl rfl (fun hg => ?_) (fun hg => ?_)
                  · have ho17 := cT hg ho17
                    refine dno rfl rfl ?_
                    refine dno rfl rfl ?_
                    refine dno rfl rfl ?_
                    refine dno rfl rfl ?_
                    refine dno rfl rfl ?_
                    refine dno rfl rfl ?_
                    refine dno rfl rfl ?_
                    refine dno rfl rfl ?_
                    refine dno rfl rfl ?_
                    refine dno rfl rfl ?_
                    refine dno rfl rfl ?_
                    refine dno rfl rfl ?_
                    refine dno rfl rfl ?_
                    refine dno rfl rfl ?_
                    refine dv rfl rfl (fun _ => rfl) ?_
                    refine dn ?_
                    refine rn ?_
                    cases ho17
                    exact cut_n [0] rfl rfl ⟨rfl, rfl, zA rfl rfl rfl (zA rfl rfl rfl (zA rfl rfl rfl (zA rfl rfl rfl (trivial)))), zC rfl rfl rfl rfl (zC rfl rfl rfl rfl (zC rfl rfl rfl rfl (zC rfl rfl rfl rfl (zC rfl rfl rfl rfl (trivial))))), trivial⟩
                  · have ho17 := cF hg ho17
                    refine dv rfl rfl (fun _ => rfl) ?_
                    refine dv rfl rfl (fun _ => rfl) ?_
                    refine dv rfl rfl (fun _ => rfl) ?_
                    refine dv rfl rfl (fun _ => rfl) ?_
                    refine ds rfl rfl (fun hg => ?_) (fun hg => ?_)
                    · have ho17 := cT hg ho17
                      refine dv rfl rfl (fun _ => rfl) ?_
                      refine dv rfl rfl (fun _ => rfl) ?_
                      refine dv rfl rfl (fun _ => rfl) ?_
                      obtain ⟨x5, hx18, ho17⟩ := bi ho17
                      refine di rfl rfl rfl rfl rfl (fun _ => rfl) rfl (gi0 hx18) (giM_tFilter hx18) (wM_tFilter _) ?_
                      obtain ⟨kind3, name3, op3, vals3, l3⟩ := x5
                      refine dv rfl rfl (fun _ => rfl) ?_
                      refine dv rfl rfl (fun _ => rfl) ?_
                      refine dv rfl rfl (fun _ => rfl) ?_
                      refine dv rfl rfl (fun _ => rfl) ?_
                      refine dv rfl rfl (fun _ => rfl) ?_
                      refine dv rfl rfl (fun _ => rfl) ?_
                      refine dv rfl rfl (fun _ => rfl) ?_
                      refine dn ?_
                      refine rn ?_
                      cases ho17
                      exact cut_n [0] rfl rfl ⟨rfl, rfl, zA rfl rfl rfl (zA rfl rfl rfl (zA rfl rfl rfl (zA rfl rfl rfl (trivial)))), zC rfl rfl rfl rfl (zC rfl rfl rfl rfl (zC rfl rfl rfl rfl (zC rfl rfl rfl rfl (zC rfl rfl rfl rfl (trivial))))), trivial⟩
                    · have ho17 := cF hg ho17
                      refine dno rfl rfl ?_
                      refine dno rfl rfl ?_
                      refine dno rfl rfl ?_
                      refine dno rfl rfl ?_
                      refine dno rfl rfl ?_
                      refine dno rfl rfl ?_
                      refine dno rfl rfl ?_
                      refine dno rfl rfl ?_
                      refine dno rfl rfl ?_
                      refine dv rfl rfl (fun _ => rfl) ?_
                      refine dv rfl rfl (fun _ => rfl) ?_
                      refine dn ?_
                      refine rn ?_
                      cases ho17
                      exact cut_n [0] rfl rfl ⟨rfl, rfl, zA rfl rfl rfl (zA rfl rfl rfl (zA rfl rfl rfl (zA rfl rfl rfl (trivial)))), zC rfl rfl rfl rfl (zC rfl rfl rfl rfl (zC rfl rfl rfl rfl (zC rfl rfl rfl rfl (zC rfl rfl rfl rfl (trivial))))), trivial⟩
                · rintro x4 rfl
                  change awp _ _ _ _ _ ⟨_, _, _, _⟩
                  refine cs_ rfl (fun hc => ?_) (fun hc => ?_)
                  · have ho11 := cT hc ho11
                    refine awp_seq ?_
                    refine awp_region ?_
                    refine rv rfl rfl ?_
                    refine rn ?_
                    refine awp_ret ?_
                    cases ho11
                    have hq := hE12 _ rfl
                    subst hq
                    have h := ksr h
                    subst h
                    repeat (first | refine then_ret ?_ | refine inBlock_ret ?_ | refine cut_r ?_)
                    exact rr rfl rfl rfl
                  · have ho11 := cF hc ho11
                    refine awp_skip ?_
                    refine inBlock_normal ?_
                    refine awp_region ?_
                    refine rvs 3 rfl ?_
                    refine rn ?_
                    cases ho11
                    exact lp_n [0] rfl rfl ⟨rfl, rfl, zA rfl rfl rfl (zA rfl rfl rfl (zA rfl rfl rfl (trivial))), zC rfl rfl rfl rfl (zC rfl rfl rfl rfl (zC rfl rfl rfl rfl (zC rfl rfl rfl rfl (zC rfl rfl rfl rfl (trivial))))), trivial⟩
              · have ho11 := cF hc ho11
                refine awp_exit ?_
                repeat (first | refine then_exit ?_ | refine cut_x ?_ | refine inBlock_other rfl ?_)
                refine inBlock_exit ?_
                cases ho11
                have hq := hE12 _ rfl
                subst hq
                exact cut_n [] rfl rfl ⟨rfl, rfl, trivial, trivial, trivial⟩
            · rintro _ rfl
              have h := ksl h
              refine awp_seq ?_
              refine awp_region ?_
              refine rv rfl rfl ?_
              refine rn ?_
              refine awp_ret ?_
              cases h
              repeat (first | refine then_ret ?_ | refine inBlock_ret ?_ | refine cut_r ?_)
              exact rr rfl rfl rfl
end

theorem dref06_fine_l : ∀ {fu : Nat}, ∀ {f1} {r : Bool}, dref06_fine fu f1 = some r → PCall Tryz.prog 21 [.agg (c_tFilter f1)] (· = .bool r)
  | 0 => fun h => by simp [dref06_fine] at h
  | fu + 1 => dref06_fine_s (fu := fu) (dref06_fine_l (fu := fu))
mutual
def dref06_Deep : Nat → tFilter → Option Int
  | 0, _ => none
  | fu + 1, f1 => match f1 with | .mk kind1 name1 op1 vals1 l1 => (loopD (ε := Int × Int) (τ := Int) (fun (((n1, i1)) : Int × Int) => (bif (decide (i1 < (l1.length : Int))) then (((gi l1 i1).bind fun d1 => match d1 with | .mk kind2 name2 op2 vals2 l2 => (dref06_Deep fu (tFilter.mk kind2 name2 op2 vals2 l2)).bind fun d2 => bif (decide (d2 > n1)) then some d2 else some n1 : Option Int).bind fun (n4 : Int) => some (Sum.inl (n4, W (i1 + 1)))) else some (Sum.inr n1))) fu (0, 0)).bind fun (n3 : Int) => some (W (n3 + 1))
end
section
attribute [local irreducible] awp aops DP PCall ACall Decidable.decide
/-- `plover/ploverref06.Deep` -/
theorem dref06_Deep_s {fu : Nat} (ih_dref06_Deep : ∀ {f1} {r : Int}, dref06_Deep fu f1 = some r → PCall Tryz.prog 22 [.agg (c_tFilter f1)] (· = .int .i64 r)) : ∀ {f1} {r : Int}, dref06_Deep (fu + 1) f1 = some r → PCall Tryz.prog 22 [.agg (c_tFilter f1)] (· = .int .i64 r) := by
  intro f1 r h
  obtain ⟨kind1, name1, op1, vals1, l1⟩ := f1
  rw [dref06_Deep] at h
  refine pcall_body Tryz.func22 rfl (by kernel_rfl) (by rfl) ?_
  refine awp_seq ?_
  refine awp_region ?_
  refine rb rfl rfl ?_
  refine rv rfl rfl ?_
  refine rn ?_
  refine awp_seq ?_
  refine awp_region ?_
  refine rv rfl rfl ?_
  refine rn ?_
  refine awp_seq ?_
  refine awp_seq ?_
  refine awp_region ?_
  refine rv rfl rfl ?_
  refine rn ?_
  obtain ⟨e1, hl2, h⟩ := bi h
  refine awp_cut1 (fun x => x = e1) (fun (n3 : Int) => ⟨[(3, .int .i64 n3)], [], [], 0⟩) ?_ ?_
  · refine awp_block ?_
    refine awp_loopD hl2 (fun (((n1, i1)) : Int × Int) => ⟨[(1, .ptr 0 0), (3, .int .i64 n1), (4, .int .i64 i1)], [(0, 0, .int .i64 kind1), (0, 1, .str (sB name1)), (0, 2, .str (sB op1)), (0, 3, .sl (vals1.map c_tAttr)), (0, 4, .sl (cs_tFilter l1))], [], 1⟩) [0] rfl ⟨rfl, rfl, zA rfl rfl rfl (zA rfl rfl rfl (zA rfl rfl rfl (trivial))), zC rfl rfl rfl rfl (zC rfl rfl rfl rfl (zC rfl rfl rfl rfl (zC rfl rfl rfl rfl (zC rfl rfl rfl rfl (trivial))))), trivial⟩ ?_
    intro v o5 ho3 hE4
    obtain ⟨n1, i1⟩ := v
    change awp _ _ _ _ _ ⟨_, _, _, _⟩
    refine awp_seq ?_
    refine awp_seq ?_
    refine awp_region ?_
    refine rvs 3 rfl ?_
    refine rv rfl rfl ?_
    refine rt ((lM_tFilter l1)) ?_
    refine rv rfl rfl ?_
    refine rn ?_
    refine cs_ rfl (fun hc => ?_) (fun hc => ?_)
    · have ho3 := cT hc ho3
      refine awp_skip ?_
      refine awp_seq ?_
      obtain ⟨o6, ho7, ho3⟩ := bi ho3
      refine awp_cut1 (fun x => x = o6) (fun (n4 : Int) => ⟨[(1, .ptr 0 0), (3, .int .i64 n4), (4, .int .i64 i1)], [(0, 0, .int .i64 kind1), (0, 1, .str (sB name1)), (0, 2, .str (sB op1)), (0, 3, .sl (vals1.map c_tAttr)), (0, 4, .sl (cs_tFilter l1))], [], 1⟩) ?_ ?_
      · refine awp_block ?_
        refine awp_seq ?_
        refine awp_region ?_
        refine rvs 3 rfl ?_
        obtain ⟨d1, hx8, ho7⟩ := bi ho7
        refine ri rfl rfl rfl rfl rfl rfl (gi0 hx8) (giM_tFilter hx8) (wM_tFilter _) ?_
        obtain ⟨kind2, name2, op2, vals2, l2⟩ := d1
        refine rv rfl rfl ?_
        obtain ⟨d2, hx9, ho7⟩ := bi ho7
        refine rc1 rfl rfl rfl (ih_dref06_Deep hx9) ?_
        refine rv rfl rfl ?_
        refine rn ?_
        refine awp_seq ?_
        refine awp_region ?_
        refine rvs 3 rfl ?_
        refine rn ?_
        refine cs_ rfl (fun hc => ?_) (fun hc => ?_)
        · have ho7 := cT hc ho7
          refine awp_region ?_
          refine rvs 2 rfl ?_
          refine rn ?_
          refine inBlock_normal ?_
          cases ho7
          exact cut_n [0] rfl rfl ⟨rfl, rfl, zA rfl rfl rfl (zA rfl rfl rfl (zA rfl rfl rfl (trivial))), zC rfl rfl rfl rfl (zC rfl rfl rfl rfl (zC rfl rfl rfl rfl (zC rfl rfl rfl rfl (zC rfl rfl rfl rfl (trivial))))), trivial⟩
        · have ho7 := cF hc ho7
          refine awp_skip ?_
          refine inBlock_normal ?_
          cases ho7
          exact cut_n [0] rfl rfl ⟨rfl, rfl, zA rfl rfl rfl (zA rfl rfl rfl (zA rfl rfl rfl (trivial))), zC rfl rfl rfl rfl (zC rfl rfl rfl rfl (zC rfl rfl rfl rfl (zC rfl rfl rfl rfl (zC rfl rfl rfl rfl (trivial))))), trivial⟩
      · rintro n4 rfl
        change awp _ _ _ _ _ ⟨_, _, _, _⟩
        refine awp_region ?_
        refine rvs 3 rfl ?_
        refine rn ?_
        cases ho3
        exact lp_n [0] rfl rfl ⟨rfl, rfl, zA rfl rfl rfl (zA rfl rfl rfl (zA rfl rfl rfl (trivial))), zC rfl rfl rfl rfl (zC rfl rfl rfl rfl (zC rfl rfl rfl rfl (zC rfl rfl rfl rfl (zC rfl rfl rfl rfl (trivial))))), trivial⟩
    · have ho3 := cF hc ho3
      refine awp_exit ?_
      repeat (first | refine then_exit ?_ | refine cut_x ?_ | refine inBlock_other rfl ?_)
      refine inBlock_exit ?_
      cases ho3
      have hq := hE4 _ rfl
      subst hq
      exact cut_n [] rfl rfl ⟨rfl, rfl, zA rfl rfl rfl (trivial), trivial, trivial⟩
  · rintro n3 rfl
    refine awp_seq ?_
    refine awp_region ?_
    refine rvs 3 rfl ?_
    refine rn ?_
    refine awp_ret ?_
    cases h
    repeat (first | refine then_ret ?_ | refine inBlock_ret ?_ | refine cut_r ?_)
    exact rr rfl rfl rfl
end

theorem dref06_Deep_l : ∀ {fu : Nat}, ∀ {f1} {r : Int}, dref06_Deep fu f1 = some r → PCall Tryz.prog 22 [.agg (c_tFilter f1)] (· = .int .i64 r)
  | 0 => fun h => by simp [dref06_Deep] at h
  | fu + 1 => dref06_Deep_s (fu := fu) (dref06_Deep_l (fu := fu))
mutual
def dref06_Nodes : Nat → tFilter → Option Int
  | 0, _ => none
  | fu + 1, f1 => match f1 with | .mk kind1 name1 op1 vals1 l1 => (loopD (ε := Int × Int) (τ := Int) (fun (((n1, i1)) : Int × Int) => (bif (decide (i1 < (l1.length : Int))) then ((gi l1 i1).bind fun n4 => match n4 with | .mk kind2 name2 op2 vals2 l2 => (dref06_Nodes fu (tFilter.mk kind2 name2 op2 vals2 l2)).bind fun n5 => some (Sum.inl (W (n1 + n5), W (i1 + 1)))) else some (Sum.inr n1))) fu (1, 0)).bind fun (n3 : Int) => some n3
end
section
attribute [local irreducible] awp aops DP PCall ACall Decidable.decide
/-- `plover/ploverref06.Nodes` -/
theorem dref06_Nodes_s {fu : Nat} (ih_dref06_Nodes : ∀ {f1} {r : Int}, dref06_Nodes fu f1 = some r → PCall Tryz.prog 23 [.agg (c_tFilter f1)] (· = .int .i64 r)) : ∀ {f1} {r : Int}, dref06_Nodes (fu + 1) f1 = some r → PCall Tryz.prog 23 [.agg (c_tFilter f1)] (· = .int .i64 r) := by
  intro f1 r h
  obtain ⟨kind1, name1, op1, vals1, l1⟩ := f1
  rw [dref06_Nodes] at h
  refine pcall_body Tryz.func23 rfl (by kernel_rfl) (by rfl) ?_
  refine awp_seq ?_
  refine awp_region ?_
  refine rb rfl rfl ?_
  refine rv rfl rfl ?_
  refine rn ?_
  refine awp_seq ?_
  refine awp_region ?_
  refine rv rfl rfl ?_
  refine rn ?_
  refine awp_seq ?_
  refine awp_seq ?_
  refine awp_region ?_
  refine rv rfl rfl ?_
  refine rn ?_
  obtain ⟨e1, hl2, h⟩ := bi h
  refine awp_cut1 (fun x => x = e1) (fun (n3 : Int) => ⟨[(3, .int .i64 n3)], [], [], 0⟩) ?_ ?_
  · refine awp_block ?_
    refine awp_loopD hl2 (fun (((n1, i1)) : Int × Int) => ⟨[(1, .ptr 0 0), (3, .int .i64 n1), (4, .int .i64 i1)], [(0, 0, .int .i64 kind1), (0, 1, .str (sB name1)), (0, 2, .str (sB op1)), (0, 3, .sl (vals1.map c_tAttr)), (0, 4, .sl (cs_tFilter l1))], [], 1⟩) [0] rfl ⟨rfl, rfl, zA rfl rfl rfl (zA rfl rfl rfl (zA rfl rfl rfl (trivial))), zC rfl rfl rfl rfl (zC rfl rfl rfl rfl (zC rfl rfl rfl rfl (zC rfl rfl rfl rfl (zC rfl rfl rfl rfl (trivial))))), trivial⟩ ?_
    intro v o5 ho3 hE4
    obtain ⟨n1, i1⟩ := v
    change awp _ _ _ _ _ ⟨_, _, _, _⟩
    refine awp_seq ?_
    refine awp_seq ?_
    refine awp_region ?_
    refine rvs 3 rfl ?_
    refine rv rfl rfl ?_
    refine rt ((lM_tFilter l1)) ?_
    refine rv rfl rfl ?_
    refine rn ?_
    refine cs_ rfl (fun hc => ?_) (fun hc => ?_)
    · have ho3 := cT hc ho3
      refine awp_skip ?_
      refine awp_seq ?_
      refine awp_block ?_
      refine awp_region ?_
      refine rvs 4 rfl ?_
      obtain ⟨n4, hx6, ho3⟩ := bi ho3
      refine ri rfl rfl rfl rfl rfl rfl (gi0 hx6) (giM_tFilter hx6) (wM_tFilter _) ?_
      obtain ⟨kind2, name2, op2, vals2, l2⟩ := n4
      refine rv rfl rfl ?_
      obtain ⟨n5, hx7, ho3⟩ := bi ho3
      refine rc1 rfl rfl rfl (ih_dref06_Nodes hx7) ?_
      refine rvs 2 rfl ?_
      refine rn ?_
      refine inBlock_normal ?_
      refine awp_region ?_
      refine rvs 3 rfl ?_
      refine rn ?_
      cases ho3
      exact lp_n [0] rfl rfl ⟨rfl, rfl, zA rfl rfl rfl (zA rfl rfl rfl (zA rfl rfl rfl (trivial))), zC rfl rfl rfl rfl (zC rfl rfl rfl rfl (zC rfl rfl rfl rfl (zC rfl rfl rfl rfl (zC rfl rfl rfl rfl (trivial))))), trivial⟩
    · have ho3 := cF hc ho3
      refine awp_exit ?_
      repeat (first | refine then_exit ?_ | refine cut_x ?_ | refine inBlock_other rfl ?_)
      refine inBlock_exit ?_
      cases ho3
      have hq := hE4 _ rfl
      subst hq
      exact cut_n [] rfl rfl ⟨rfl, rfl, zA rfl rfl rfl (trivial), trivial, trivial⟩
  · rintro n3 rfl
    refine awp_seq ?_
    refine awp_region ?_
    refine rvs 2 rfl ?_
    refine rn ?_
    refine awp_ret ?_
    cases h
    repeat (first | refine then_ret ?_ | refine inBlock_ret ?_ | refine cut_r ?_)
    exact rr rfl rfl rfl
end

theorem dref06_Nodes_l : ∀ {fu : Nat}, ∀ {f1} {r : Int}, dref06_Nodes fu f1 = some r → PCall Tryz.prog 23 [.agg (c_tFilter f1)] (· = .int .i64 r)
  | 0 => fun h => by simp [dref06_Nodes] at h
  | fu + 1 => dref06_Nodes_s (fu := fu) (dref06_Nodes_l (fu := fu))
/-- `plover/ploverref06.May` -/
def dref06_May (fu : Nat) (f1 : tFilter) : Option Bool :=
  match f1 with | .mk kind1 name1 op1 vals1 l1 => (dref06_fine fu (tFilter.mk kind1 name1 op1 vals1 l1)).bind fun ok1 => bif ok1 then ((dref06_Deep fu (tFilter.mk kind1 name1 op1 vals1 l1)).bind fun x1 => bif (decide (x1 ≤ 10)) then ((dref06_Nodes fu (tFilter.mk kind1 name1 op1 vals1 l1)).bind fun x2 => some (decide (x2 ≤ 60))) else some false) else some false
section
attribute [local irreducible] awp aops DP PCall ACall Decidable.decide
theorem dref06_May_l {fu : Nat} {f1 : tFilter} {r : Bool} (h : dref06_May fu f1 = some r) : PCall Tryz.prog 11 [.agg (c_tFilter f1)] (· = .bool r) := by
  obtain ⟨kind1, name1, op1, vals1, l1⟩ := f1
  rw [dref06_May] at h
  refine pcall_body Tryz.func11 rfl (by kernel_rfl) (by rfl) ?_
  refine awp_seq ?_
  refine awp_region ?_
  refine rb rfl rfl ?_
  refine rv rfl rfl ?_
  refine rn ?_
  refine awp_seq ?_
  refine awp_region ?_
  refine rv rfl rfl ?_
  obtain ⟨ok1, hx1, h⟩ := bi h
  refine rc1 rfl rfl rfl (dref06_fine_l hx1) ?_
  refine rv rfl rfl ?_
  refine rn ?_
  refine awp_seq ?_
  refine awp_region ?_
  refine rvs 2 rfl ?_
  refine gs rfl rfl rfl rfl rfl (fun hg => ?_) (fun hg => ?_)
  · have h := cT hg h
    refine rv rfl rfl ?_
    refine gy rfl rfl rfl ?_
    obtain ⟨x1, hx2, h⟩ := bi h
    refine rc1 rfl rfl rfl (dref06_Deep_l hx2) ?_
    refine gy rfl rfl rfl ?_
    refine rv rfl rfl ?_
    refine rvs 2 rfl ?_
    refine gs rfl rfl rfl rfl rfl (fun hg => ?_) (fun hg => ?_)
    · have h := cT hg h
      refine rv rfl rfl ?_
      refine gy rfl rfl rfl ?_
      obtain ⟨x2, hx3, h⟩ := bi h
      refine rc1 rfl rfl rfl (dref06_Nodes_l hx3) ?_
      refine gy rfl rfl rfl ?_
      refine rv rfl rfl ?_
      refine rvs 2 rfl ?_
      refine rn ?_
      refine awp_ret ?_
      cases h
      repeat (first | refine then_ret ?_ | refine inBlock_ret ?_ | refine cut_r ?_)
      exact rr rfl rfl rfl
    · have h := cF hg h
      refine gn rfl rfl rfl rfl rfl ?_
      refine gn rfl rfl rfl rfl rfl ?_
      refine rvs 2 rfl ?_
      refine rn ?_
      refine awp_ret ?_
      cases h
      repeat (first | refine then_ret ?_ | refine inBlock_ret ?_ | refine cut_r ?_)
      exact rr rfl rfl rfl
  · have h := cF hg h
    refine gn rfl rfl rfl rfl rfl ?_
    refine gn rfl rfl rfl rfl rfl ?_
    refine rvs 2 rfl ?_
    refine gn rfl rfl rfl rfl rfl ?_
    refine gn rfl rfl rfl rfl rfl ?_
    refine gn rfl rfl rfl rfl rfl ?_
    refine rvs 2 rfl ?_
    refine rn ?_
    refine awp_ret ?_
    cases h
    repeat (first | refine then_ret ?_ | refine inBlock_ret ?_ | refine cut_r ?_)
    exact rr rfl rfl rfl
end

mutual
def dref06_Same : Nat → tFilter → tFilter → Option Bool
  | 0, _, _ => none
  | fu + 1, a1, b1 => match a1 with | .mk kind1 name1 op1 vals1 l1 => match b1 with | .mk kind2 name2 op2 vals2 l2 => (bif (kind1 != kind2) then some true else (bif (!(name1 == name2)) then some true else (bif (!(op1 == op2)) then some true else (bif ((vals1.length : Int) != (vals2.length : Int)) then some true else some ((l1.length : Int) != (l2.length : Int))))) : Option Bool).bind fun (x1 : Bool) => (bif x1 then some false else ((loopD (ε := Int) (τ := Unit ⊕ Bool) (fun (i1 : Int) => (bif (decide (i1 < (vals1.length : Int))) then ((gi vals1 i1).bind fun x2 => (gi vals2 i1).bind fun x3 => bif (!((x2.Name == x3.Name) && ((x2.Text == x3.Text) && ((x2.N == x3.N) && ((x2.S == x3.S) && true))))) then some (Sum.inr (Sum.inr false)) else some (Sum.inl (W (i1 + 1)))) else some (Sum.inr (Sum.inl ())))) fu 0).bind fun o => kS o fun (_ : Unit) => ((loopD (ε := Int) (τ := Unit ⊕ Bool) (fun (i3 : Int) => (bif (decide (i3 < (l1.length : Int))) then ((gi l1 i3).bind fun same1 => match same1 with | .mk kind3 name3 op3 vals3 l3 => (gi l2 i3).bind fun same2 => match same2 with | .mk kind4 name4 op4 vals4 l4 => (dref06_Same fu (tFilter.mk kind3 name3 op3 vals3 l3) (tFilter.mk kind4 name4 op4 vals4 l4)).bind fun same3 => bif (!same3) then some (Sum.inr (Sum.inr false)) else some (Sum.inl (W (i3 + 1)))) else some (Sum.inr (Sum.inl ())))) fu 0).bind fun o => kS o fun (_ : Unit) => some true)))
end
section
attribute [local irreducible] awp aops DP PCall ACall Decidable.decide
/-- `plover/ploverref06.Same` -/
theorem dref06_Same_s {fu : Nat} (ih_dref06_Same : ∀ {a1 b1} {r : Bool}, dref06_Same fu a1 b1 = some r → PCall Tryz.prog 9 [.agg (c_tFilter a1), .agg (c_tFilter b1)] (· = .bool r)) : ∀ {a1 b1} {r : Bool}, dref06_Same (fu + 1) a1 b1 = some r → PCall Tryz.prog 9 [.agg (c_tFilter a1), .agg (c_tFilter b1)] (· = .bool r) := by
  intro a1 b1 r h
  obtain ⟨kind1, name1, op1, vals1, l1⟩ := a1
  obtain ⟨kind2, name2, op2, vals2, l2⟩ := b1
  rw [dref06_Same] at h
  refine pcall_body Tryz.func9 rfl (by kernel_rfl) (by rfl) ?_
  refine awp_seq ?_
  refine awp_region ?_
  refine rb rfl rfl ?_
  refine rb rfl rfl ?_
  refine rv rfl rfl ?_
  refine rn ?_
  refine awp_seq ?_
  refine awp_seq ?_
  obtain ⟨o1, ho2, h⟩ := bi h
  refine awp_cut1 (fun x => x = o1) (fun (x1 : Bool) => ⟨[(2, .ptr 0 0), (3, .ptr 1 0), (44, .bool x1)], [(0, 0, .int .i64 kind1), (0, 1, .str (sB name1)), (0, 2, .str (sB op1)), (0, 3, .sl (vals1.map c_tAttr)), (0, 4, .sl (cs_tFilter l1)), (1, 0, .int .i64 kind2), (1, 1, .str (sB name2)), (1, 2, .str (sB op2)), (1, 3, .sl (vals2.map c_tAttr)), (1, 4, .sl (cs_tFilter l2))], [], 2⟩) ?_ ?_
  · refine awp_region ?_
    refine rvs 6 rfl ?_
    refine gs rfl rfl rfl rfl rfl (fun hg => ?_) (fun hg => ?_)
    · have ho2 := cF hg ho2
      refine rv rfl rfl ?_
      refine gy rfl rfl rfl ?_
      refine rv rfl rfl ?_
      refine gy rfl rfl rfl ?_
      refine rv rfl rfl ?_
      refine gy rfl rfl rfl ?_
      refine rv rfl rfl ?_
      refine gy rfl rfl rfl ?_
      refine rv rfl rfl ?_
      refine rt (sNe name1 name2) ?_
      refine rvs 2 rfl ?_
      refine gs rfl rfl rfl rfl rfl (fun hg => ?_) (fun hg => ?_)
      · have ho2 := cF hg ho2
        refine rv rfl rfl ?_
        refine gy rfl rfl rfl ?_
        refine rv rfl rfl ?_
        refine gy rfl rfl rfl ?_
        refine rv rfl rfl ?_
        refine gy rfl rfl rfl ?_
        refine rv rfl rfl ?_
        refine gy rfl rfl rfl ?_
        refine rv rfl rfl ?_
        refine rt (sNe op1 op2) ?_
        refine rvs 2 rfl ?_
        refine gs rfl rfl rfl rfl rfl (fun hg => ?_) (fun hg => ?_)
        · have ho2 := cF hg ho2
          refine rv rfl rfl ?_
          refine gy rfl rfl rfl ?_
          refine rv rfl rfl ?_
          refine gy rfl rfl rfl ?_
          refine rv rfl rfl ?_
          refine rt ((lM c_tAttr vals1)) ?_
          refine gy rfl rfl rfl ?_
          refine rv rfl rfl ?_
          refine gy rfl rfl rfl ?_
          refine rv rfl rfl ?_
          refine gy rfl rfl rfl ?_
          refine rv rfl rfl ?_
          refine rt ((lM c_tAttr vals2)) ?_
          refine gy rfl rfl rfl ?_
          refine rv rfl rfl ?_
          refine rvs 2 rfl ?_
          refine gs rfl rfl rfl rfl rfl (fun hg => ?_) (fun hg => ?_)
          · have ho2 := cF hg ho2
            refine rv rfl rfl ?_
            refine gy rfl rfl rfl ?_
            refine rv rfl rfl ?_
            refine gy rfl rfl rfl ?_
            refine rv rfl rfl ?_
            refine rt ((lM_tFilter l1)) ?_
            refine gy rfl rfl rfl ?_
            refine rv rfl rfl ?_
            refine gy rfl rfl rfl ?_
            refine rv rfl rfl ?_
            refine gy rfl rfl rfl ?_
            refine rv rfl rfl ?_
            refine rt ((lM_tFilter l2)) ?_
            refine gy rfl rfl rfl ?_
            refine rv rfl rfl ?_
            refine rv rfl rfl ?_
            refine rn ?_
            cases ho2
            exact cut_n [0, 1] rfl rfl ⟨rfl, rfl, zA rfl rfl rfl (zA rfl rfl rfl (zA rfl rfl rfl (trivial))), zC rfl rfl rfl rfl (zC rfl rfl rfl rfl (zC rfl rfl rfl rfl (zC rfl rfl rfl rfl (zC rfl rfl rfl rfl (zC rfl rfl rfl rfl (zC rfl rfl rfl rfl (zC rfl rfl rfl rfl (zC rfl rfl rfl rfl (zC rfl rfl rfl rfl (trivial)))))))))), trivial⟩
          · have ho2 := cT hg ho2
            refine gn rfl rfl rfl rfl rfl ?_
            refine gn rfl rfl rfl rfl rfl ?_
            refine gn rfl rfl rfl rfl rfl ?_
            refine gn rfl rfl rfl rfl rfl ?_
            refine gn rfl rfl rfl rfl rfl ?_
            refine gn rfl rfl rfl rfl rfl ?_
            refine rv rfl rfl ?_
            refine rn ?_
            cases ho2
            exact cut_n [0, 1] rfl rfl ⟨rfl, rfl, zA rfl rfl rfl (zA rfl rfl rfl (zA rfl rfl rfl (trivial))), zC rfl rfl rfl rfl (zC rfl rfl rfl rfl (zC rfl rfl rfl rfl (zC rfl rfl rfl rfl (zC rfl rfl rfl rfl (zC rfl rfl rfl rfl (zC rfl rfl rfl rfl (zC rfl rfl rfl rfl (zC rfl rfl rfl rfl (zC rfl rfl rfl rfl (trivial)))))))))), trivial⟩
        · have ho2 := cT hg ho2
          refine gn rfl rfl rfl rfl rfl ?_
          refine gn rfl rfl rfl rfl rfl ?_
          refine gn rfl rfl rfl rfl rfl ?_
          refine gn rfl rfl rfl rfl rfl ?_
          refine gn rfl rfl rfl rfl rfl ?_
          refine gn rfl rfl rfl rfl rfl ?_
          refine rvs 2 rfl ?_
          refine gn rfl rfl rfl rfl rfl ?_
          refine gn rfl rfl rfl rfl rfl ?_
          refine gn rfl rfl rfl rfl rfl ?_
          refine gn rfl rfl rfl rfl rfl ?_
          refine gn rfl rfl rfl rfl rfl ?_
          refine gn rfl rfl rfl rfl rfl ?_
          refine gn rfl rfl rfl rfl rfl ?_
          refine rv rfl rfl ?_
          refine rn ?_
          cases ho2
          exact cut_n [0, 1] rfl rfl ⟨rfl, rfl, zA rfl rfl rfl (zA rfl rfl rfl (zA rfl rfl rfl (trivial))), zC rfl rfl rfl rfl (zC rfl rfl rfl rfl (zC rfl rfl rfl rfl (zC rfl rfl rfl rfl (zC rfl rfl rfl rfl (zC rfl rfl rfl rfl (zC rfl rfl rfl rfl (zC rfl rfl rfl rfl (zC rfl rfl rfl rfl (zC rfl rfl rfl rfl (trivial)))))))))), trivial⟩
      · have ho2 := cT hg ho2
        refine gn rfl rfl rfl rfl rfl ?_
        refine gn rfl rfl rfl rfl rfl ?_
        refine gn rfl rfl rfl rfl rfl ?_
        refine gn rfl rfl rfl rfl rfl ?_
        refine rvs 2 rfl ?_
        refine gn rfl rfl rfl rfl rfl ?_
        refine gn rfl rfl rfl rfl rfl ?_
        refine gn rfl rfl rfl rfl rfl ?_
        refine gn rfl rfl rfl rfl rfl ?_
        refine gn rfl rfl rfl rfl rfl ?_
        refine gn rfl rfl rfl rfl rfl ?_
        refine gn rfl rfl rfl rfl rfl ?_
        refine rvs 2 rfl ?_
        refine gn rfl rfl rfl rfl rfl ?_
        refine gn rfl rfl rfl rfl rfl ?_
        refine gn rfl rfl rfl rfl rfl ?_
        refine gn rfl rfl rfl rfl rfl ?_
        refine gn rfl rfl rfl rfl rfl ?_
        refine gn rfl rfl rfl rfl rfl ?_
        refine gn rfl rfl rfl rfl rfl ?_
        refine rv rfl rfl ?_
        refine rn ?_
        cases ho2
        exact cut_n [0, 1] rfl rfl ⟨rfl, rfl, zA rfl rfl rfl (zA rfl rfl rfl (zA rfl rfl rfl (trivial))), zC rfl rfl rfl rfl (zC rfl rfl rfl rfl (zC rfl rfl rfl rfl (zC rfl rfl rfl rfl (zC rfl rfl rfl rfl (zC rfl rfl rfl rfl (zC rfl rfl rfl rfl (zC rfl rfl rfl rfl (zC rfl rfl rfl rfl (zC rfl rfl rfl rfl (trivial)))))))))), trivial⟩
    · have ho2 := cT hg ho2
      refine gn rfl rfl rfl rfl rfl ?_
      refine gn rfl rfl rfl rfl rfl ?_
      refine gn rfl rfl rfl rfl rfl ?_
      refine gn rfl rfl rfl rfl rfl ?_
      refine rvs 2 rfl ?_
      refine gn rfl rfl rfl rfl rfl ?_
      refine gn rfl rfl rfl rfl rfl ?_
      refine gn rfl rfl rfl rfl rfl ?_
      refine gn rfl rfl rfl rfl rfl ?_
      refine gn rfl rfl rfl rfl rfl ?_
      refine rvs 2 rfl ?_
      refine gn rfl rfl rfl rfl rfl ?_
      refine gn rfl rfl rfl rfl rfl ?_
      refine gn rfl rfl rfl rfl rfl ?_
      refine gn rfl rfl rfl rfl rfl ?_
      refine gn rfl rfl rfl rfl rfl ?_
      refine gn rfl rfl rfl rfl rfl ?_
      refine gn rfl rfl rfl rfl rfl ?_
      refine rvs 2 rfl ?_
      refine gn rfl rfl rfl rfl rfl ?_
      refine gn rfl rfl rfl rfl rfl ?_
      refine gn rfl rfl rfl rfl rfl ?_
      refine gn rfl rfl rfl rfl rfl ?_
      refine gn rfl rfl rfl rfl rfl ?_
      refine gn rfl rfl rfl rfl rfl ?_
      refine gn rfl rfl rfl rfl rfl ?_
      refine rv rfl rfl ?_
      refine rn ?_
      cases ho2
      exact cut_n [0, 1] rfl rfl ⟨rfl, rfl, zA rfl rfl rfl (zA rfl rfl rfl (zA rfl rfl rfl (trivial))), zC rfl rfl rfl rfl (zC rfl rfl rfl rfl (zC rfl rfl rfl rfl (zC rfl rfl rfl rfl (zC rfl rfl rfl rfl (zC rfl rfl rfl rfl (zC rfl rfl rfl rfl (zC rfl rfl rfl rfl (zC rfl rfl rfl rfl (zC rfl rfl rfl rfl (trivial)))))))))), trivial⟩
  · rintro x1 rfl
    change awp _ _ _ _ _ ⟨_, _, _, _⟩
    refine cs_ rfl (fun hc => ?_) (fun hc => ?_)
    · have h := cT hc h
      refine awp_seq ?_
      refine awp_region ?_
      refine rv rfl rfl ?_
      refine rn ?_
      refine awp_ret ?_
      cases h
      repeat (first | refine then_ret ?_ | refine inBlock_ret ?_ | refine cut_r ?_)
      exact rr rfl rfl rfl
    · have h := cF hc h
      refine awp_skip ?_
      refine awp_seq ?_
      refine awp_seq ?_
      refine awp_region ?_
      refine rv rfl rfl ?_
      refine rn ?_
      obtain ⟨e3, hl4, h⟩ := bi h
      refine awp_cut1 (fun x => Sum.inl x = e3) (fun (_ : Unit) => ⟨[(2, .ptr 0 0), (3, .ptr 1 0)], [(0, 0, .int .i64 kind1), (0, 1, .str (sB name1)), (0, 2, .str (sB op1)), (0, 3, .sl (vals1.map c_tAttr)), (0, 4, .sl (cs_tFilter l1)), (1, 0, .int .i64 kind2), (1, 1, .str (sB name2)), (1, 2, .str (sB op2)), (1, 3, .sl (vals2.map c_tAttr)), (1, 4, .sl (cs_tFilter l2))], [], 2⟩) ?_ ?_
      · refine awp_block ?_
        refine awp_loopD hl4 (fun (i1 : Int) => ⟨[(2, .ptr 0 0), (3, .ptr 1 0), (5, .int .i64 i1)], [(0, 0, .int .i64 kind1), (0, 1, .str (sB name1)), (0, 2, .str (sB op1)), (0, 3, .sl (vals1.map c_tAttr)), (0, 4, .sl (cs_tFilter l1)), (1, 0, .int .i64 kind2), (1, 1, .str (sB name2)), (1, 2, .str (sB op2)), (1, 3, .sl (vals2.map c_tAttr)), (1, 4, .sl (cs_tFilter l2))], [], 2⟩) [0, 1] rfl ⟨rfl, rfl, zA rfl rfl rfl (zA rfl rfl rfl (zA rfl rfl rfl (trivial))), zC rfl rfl rfl rfl (zC rfl rfl rfl rfl (zC rfl rfl rfl rfl (zC rfl rfl rfl rfl (zC rfl rfl rfl rfl (zC rfl rfl rfl rfl (zC rfl rfl rfl rfl (zC rfl rfl rfl rfl (zC rfl rfl rfl rfl (zC rfl rfl rfl rfl (trivial)))))))))), trivial⟩ ?_
        intro i1 o7 ho5 hE6
        change awp _ _ _ _ _ ⟨_, _, _, _⟩
        refine awp_seq ?_
        refine awp_seq ?_
        refine awp_region ?_
        refine rvs 3 rfl ?_
        refine rv rfl rfl ?_
        refine rt ((lM c_tAttr vals1)) ?_
        refine rv rfl rfl ?_
        refine rn ?_
        refine cs_ rfl (fun hc => ?_) (fun hc => ?_)
        · have ho5 := cT hc ho5
          refine awp_skip ?_
          refine awp_seq ?_
          refine awp_block ?_
          refine awp_seq ?_
          refine awp_dp (m := 11) Tryz.mix (by kernel_rfl) (by kernel_rfl) (by kernel_rfl) (by kernel_rfl) (by kernel_rfl) (by kernel_rfl) (by kernel_rfl) ?_
          refine dv rfl rfl (fun _ => rfl) ?_
          refine dv rfl rfl (fun _ => rfl) ?_
          refine dv rfl rfl (fun _ => rfl) ?_
          obtain ⟨x2, hx8, ho5⟩ := bi ho5
          refine di rfl rfl rfl rfl rfl (fun _ => rfl) rfl (gi0 hx8) (giM c_tAttr hx8) (wM (fun _ => by rfl) _) ?_
          refine dv rfl rfl (fun _ => rfl) ?_
          refine dv rfl rfl (fun _ => rfl) ?_
          refine dv rfl rfl (fun _ => rfl) ?_
          refine dv rfl rfl (fun _ => rfl) ?_
          obtain ⟨x3, hx9, ho5⟩ := bi ho5
          refine di rfl rfl rfl rfl rfl (fun _ => rfl) rfl (gi0 hx9) (giM c_tAttr hx9) (wM (fun _ => by rfl) _) ?_
          refine dv rfl rfl (fun _ => rfl) ?_
          refine dv rfl rfl (fun _ => rfl) ?_
          refine dt (by first | (simp only [toList_sB]; done) | (simp only [toList_sB]; rfl)) ?_
          refine dn ?_
          refine rn ?_
          refine cs_ rfl (fun hc => ?_) (fun hc => ?_)
          · have ho5 := cT hc ho5
            refine awp_seq ?_
            refine awp_region ?_
            refine rv rfl rfl ?_
            refine rn ?_
            refine awp_ret ?_
            cases ho5
            have hq := hE6 _ rfl
            subst hq
            have h := ksr h
            subst h
            repeat (first | refine then_ret ?_ | refine inBlock_ret ?_ | refine cut_r ?_)
            exact rr rfl rfl rfl
          · have ho5 := cF hc ho5
            refine awp_skip ?_
            refine inBlock_normal ?_
            refine awp_region ?_
            refine rvs 3 rfl ?_
            refine rn ?_
            cases ho5
            exact lp_n [0, 1] rfl rfl ⟨rfl, rfl, zA rfl rfl rfl (zA rfl rfl rfl (zA rfl rfl rfl (trivial))), zC rfl rfl rfl rfl (zC rfl rfl rfl rfl (zC rfl rfl rfl rfl (zC rfl rfl rfl rfl (zC rfl rfl rfl rfl (zC rfl rfl rfl rfl (zC rfl rfl rfl rfl (zC rfl rfl rfl rfl (zC rfl rfl rfl rfl (zC rfl rfl rfl rfl (trivial)))))))))), trivial⟩
        · have ho5 := cF hc ho5
          refine awp_exit ?_
          repeat (first | refine then_exit ?_ | refine cut_x ?_ | refine inBlock_other rfl ?_)
          refine inBlock_exit ?_
          cases ho5
          have hq := hE6 _ rfl
          subst hq
          exact cut_n [0, 1] rfl rfl ⟨rfl, rfl, zA rfl rfl rfl (zA rfl rfl rfl (trivial)), zC rfl rfl rfl rfl (zC rfl rfl rfl rfl (zC rfl rfl rfl rfl (zC rfl rfl rfl rfl (zC rfl rfl rfl rfl (zC rfl rfl rfl rfl (zC rfl rfl rfl rfl (zC rfl rfl rfl rfl (zC rfl rfl rfl rfl (zC rfl rfl rfl rfl (trivial)))))))))), trivial⟩
      · rintro _ rfl
        have h := ksl h
        change awp _ _ _ _ _ ⟨_, _, _, _⟩
        refine awp_seq ?_
        refine awp_seq ?_
        refine awp_region ?_
        refine rv rfl rfl ?_
        refine rn ?_
        obtain ⟨e10, hl11, h⟩ := bi h
        refine awp_cut1 (fun x => Sum.inl x = e10) (fun (_ : Unit) => ⟨[], [], [], 0⟩) ?_ ?_
        · refine awp_block ?_
          refine awp_loopD hl11 (fun (i3 : Int) => ⟨[(2, .ptr 0 0), (3, .ptr 1 0), (6, .int .i64 i3)], [(0, 0, .int .i64 kind1), (0, 1, .str (sB name1)), (0, 2, .str (sB op1)), (0, 3, .sl (vals1.map c_tAttr)), (0, 4, .sl (cs_tFilter l1)), (1, 0, .int .i64 kind2), (1, 1, .str (sB name2)), (1, 2, .str (sB op2)), (1, 3, .sl (vals2.map c_tAttr)), (1, 4, .sl (cs_tFilter l2))], [], 2⟩) [0, 1] rfl ⟨rfl, rfl, zA rfl rfl rfl (zA rfl rfl rfl (zA rfl rfl rfl (trivial))), zC rfl rfl rfl rfl (zC rfl rfl rfl rfl (zC rfl rfl rfl rfl (zC rfl rfl rfl rfl (zC rfl rfl rfl rfl (zC rfl rfl rfl rfl (zC rfl rfl rfl rfl (zC rfl rfl rfl rfl (zC rfl rfl rfl rfl (zC rfl rfl rfl rfl (trivial)))))))))), trivial⟩ ?_
          intro i3 o14 ho12 hE13
          change awp _ _ _ _ _ ⟨_, _, _, _⟩
          refine awp_seq ?_
          refine awp_seq ?_
          refine awp_region ?_
          refine rvs 3 rfl ?_
          refine rv rfl rfl ?_
          refine rt ((lM_tFilter l1)) ?_
          refine rv rfl rfl ?_
          refine rn ?_
          refine cs_ rfl (fun hc => ?_) (fun hc => ?_)
          · have ho12 := cT hc ho12
            refine awp_skip ?_
            refine awp_seq ?_
            refine awp_block ?_
            refine awp_seq ?_
            refine awp_dp (m := 11) Tryz.mix (by kernel_rfl) (by kernel_rfl) (by kernel_rfl) (by kernel_rfl) (by kernel_rfl) (by kernel_rfl) (by kernel_rfl) ?_
            refine dv rfl rfl (fun _ => rfl) ?_
            refine dv rfl rfl (fun _ => rfl) ?_
            refine dv rfl rfl (fun _ => rfl) ?_
            obtain ⟨same1, hx15, ho12⟩ := bi ho12
            refine di rfl rfl rfl rfl rfl (fun _ => rfl) rfl (gi0 hx15) (giM_tFilter hx15) (wM_tFilter _) ?_
            obtain ⟨kind3, name3, op3, vals3, l3⟩ := same1
            refine dv rfl rfl (fun _ => rfl) ?_
            refine dv rfl rfl (fun _ => rfl) ?_
            refine dv rfl rfl (fun _ => rfl) ?_
            refine dv rfl rfl (fun _ => rfl) ?_
            obtain ⟨same2, hx16, ho12⟩ := bi ho12
            refine di rfl rfl rfl rfl rfl (fun _ => rfl) rfl (gi0 hx16) (giM_tFilter hx16) (wM_tFilter _) ?_
            obtain ⟨kind4, name4, op4, vals4, l4⟩ := same2
            refine dv rfl rfl (fun _ => rfl) ?_
            obtain ⟨same3, hx17, ho12⟩ := bi ho12
            refine dc rfl rfl rfl rfl (fun _ => rfl) (fun _ => (ih_dref06_Same hx17)) ?_
            refine dn ?_
            refine rv rfl rfl ?_
            refine rn ?_
            refine awp_seq ?_
            refine awp_region ?_
            refine rvs 2 rfl ?_
            refine rn ?_
            refine cs_ rfl (fun hc => ?_) (fun hc => ?_)
            · have ho12 := cT hc ho12
              refine awp_seq ?_
              refine awp_region ?_
              refine rv rfl rfl ?_
              refine rn ?_
              refine awp_ret ?_
              cases ho12
              have hq := hE13 _ rfl
              subst hq
              have h := ksr h
              subst h
              repeat (first | refine then_ret ?_ | refine inBlock_ret ?_ | refine cut_r ?_)
              exact rr rfl rfl rfl
            · have ho12 := cF hc ho12
              refine awp_skip ?_
              refine inBlock_normal ?_
              refine awp_region ?_
              refine rvs 3 rfl ?_
              refine rn ?_
              cases ho12
              exact lp_n [0, 1] rfl rfl ⟨rfl, rfl, zA rfl rfl rfl (zA rfl rfl rfl (zA rfl rfl rfl (trivial))), zC rfl rfl rfl rfl (zC rfl rfl rfl rfl (zC rfl rfl rfl rfl (zC rfl rfl rfl rfl (zC rfl rfl rfl rfl (zC rfl rfl rfl rfl (zC rfl rfl rfl rfl (zC rfl rfl rfl rfl (zC rfl rfl rfl rfl (zC rfl rfl rfl rfl (trivial)))))))))), trivial⟩
          · have ho12 := cF hc ho12
            refine awp_exit ?_
            repeat (first | refine then_exit ?_ | refine cut_x ?_ | refine inBlock_other rfl ?_)
            refine inBlock_exit ?_
            cases ho12
            have hq := hE13 _ rfl
            subst hq
            exact cut_n [] rfl rfl ⟨rfl, rfl, trivial, trivial, trivial⟩
        · rintro _ rfl
          have h := ksl h
          refine awp_seq ?_
          refine awp_region ?_
          refine rv rfl rfl ?_
          refine rn ?_
          refine awp_ret ?_
          cases h
          repeat (first | refine then_ret ?_ | refine inBlock_ret ?_ | refine cut_r ?_)
          exact rr rfl rfl rfl
end

theorem dref06_Same_l : ∀ {fu : Nat}, ∀ {a1 b1} {r : Bool}, dref06_Same fu a1 b1 = some r → PCall Tryz.prog 9 [.agg (c_tFilter a1), .agg (c_tFilter b1)] (· = .bool r)
  | 0 => fun h => by simp [dref06_Same] at h
  | fu + 1 => dref06_Same_s (fu := fu) (dref06_Same_l (fu := fu))
/-- `(*plover/ploverref06.P).kind` -/
def dref06_P_kind (fu : Nat) (p1 : tref06P) : Option (Int × tref06P) :=
  (bif p1.Bad then some true else some (decide (p1.At ≥ (p1.L.length : Int))) : Option Bool).bind fun (x1 : Bool) => (bif x1 then some (0, p1) else ((gi p1.L p1.At).bind fun x2 => some (x2.Kind, p1)))
section
attribute [local irreducible] awp aops DP PCall ACall Decidable.decide
theorem dref06_P_kind_l {fu : Nat} {p1 : tref06P} {r : Int × tref06P} (h : dref06_P_kind fu p1 = some r) : ACall Tryz.prog 61 1 [.ptr 0 0] [(0, 0, .sl (p1.L.map c_tref06Token)), (0, 1, .int .i64 p1.At), (0, 2, .bool p1.Bad)] [] (fun r_ H_ O_ n_ => r_ = .int .i64 r.1 ∧ H_ = [(0, 0, .sl (r.2.L.map c_tref06Token)), (0, 1, .int .i64 r.2.At), (0, 2, .bool r.2.Bad)] ∧ O_ = [] ∧ n_ = 1) := by
  rw [dref06_P_kind] at h
  refine acall_body Tryz.func61 rfl (by kernel_rfl) (by rfl) ?_
  refine awp_seq ?_
  refine awp_region ?_
  refine rv rfl rfl ?_
  refine rn ?_
  refine awp_seq ?_
  refine awp_seq ?_
  obtain ⟨o1, ho2, h⟩ := bi h
  refine awp_cut1 (fun x => x = o1) (fun (x1 : Bool) => ⟨[(0, .ptr 0 0), (18, .bool x1)], [(0, 0, .sl (p1.L.map c_tref06Token)), (0, 1, .int .i64 p1.At), (0, 2, .bool p1.Bad)], [], 1⟩) ?_ ?_
  · refine awp_dp (m := 16) Tryz.mix (by kernel_rfl) (by kernel_rfl) (by kernel_rfl) (by kernel_rfl) (by kernel_rfl) (by kernel_rfl) (by kernel_rfl) ?_
    refine dv rfl rfl (fun _ => rfl) ?_
    refine dv rfl rfl (fun _ => rfl) ?_
    refine dv rfl rfl (fun _ => rfl) ?_
    refine dv rfl rfl (fun _ => rfl) ?_
    refine dv rfl rfl (fun _ => rfl) ?_
    refine ds rfl rfl (fun hg => ?_) (fun hg => ?_)
    · have ho2 := cT hg ho2
      refine dno rfl rfl ?_
      refine dno rfl rfl ?_
      refine dno rfl rfl ?_
      refine dno rfl rfl ?_
      refine dno rfl rfl ?_
      refine dno rfl rfl ?_
      refine dno rfl rfl ?_
      refine dno rfl rfl ?_
      refine dno rfl rfl ?_
      refine dno rfl rfl ?_
      refine dv rfl rfl (fun _ => rfl) ?_
      refine dn ?_
      refine rn ?_
      cases ho2
      exact cut_n [0] rfl rfl ⟨rfl, rfl, zA rfl rfl rfl (zA rfl rfl rfl (trivial)), zC rfl rfl rfl rfl (zC rfl rfl rfl rfl (zC rfl rfl rfl rfl (trivial))), trivial⟩
    · have ho2 := cF hg ho2
      refine dv rfl rfl (fun _ => rfl) ?_
      refine dv rfl rfl (fun _ => rfl) ?_
      refine dv rfl rfl (fun _ => rfl) ?_
      refine dv rfl rfl (fun _ => rfl) ?_
      refine dv rfl rfl (fun _ => rfl) ?_
      refine dv rfl rfl (fun _ => rfl) ?_
      refine dv rfl rfl (fun _ => rfl) ?_
      refine dv rfl rfl (fun _ => rfl) ?_
      refine dv rfl rfl (fun _ => rfl) ?_
      refine dt ((lM c_tref06Token p1.L)) ?_
      refine dv rfl rfl (fun _ => rfl) ?_
      refine dv rfl rfl (fun _ => rfl) ?_
      refine dn ?_
      refine rn ?_
      cases ho2
      exact cut_n [0] rfl rfl ⟨rfl, rfl, zA rfl rfl rfl (zA rfl rfl rfl (trivial)), zC rfl rfl rfl rfl (zC rfl rfl rfl rfl (zC rfl rfl rfl rfl (trivial))), trivial⟩
  · rintro x1 rfl
    change awp _ _ _ _ _ ⟨_, _, _, _⟩
    refine cs_ rfl (fun hc => ?_) (fun hc => ?_)
    · have h := cT hc h
      refine awp_seq ?_
      refine awp_region ?_
      refine rv rfl rfl ?_
      refine rn ?_
      refine awp_ret ?_
      have h := Option.some.inj h
      subst h
      repeat (first | refine then_ret ?_ | refine inBlock_ret ?_ | refine cut_r ?_)
      exact rrA (r := .int .i64 0) [0] [(0, 0, .sl (p1.L.map c_tref06Token)), (0, 1, .int .i64 p1.At), (0, 2, .bool p1.Bad)] [] rfl rfl rfl rfl (zC rfl rfl rfl rfl (zC rfl rfl rfl rfl (zC rfl rfl rfl rfl (trivial)))) (trivial) ⟨rfl, rfl, rfl, rfl⟩
    · have h := cF hc h
      refine awp_skip ?_
      refine awp_seq ?_
      refine awp_dp (m := 11) Tryz.mix (by kernel_rfl) (by kernel_rfl) (by kernel_rfl) (by kernel_rfl) (by kernel_rfl) (by kernel_rfl) (by kernel_rfl) ?_
      refine dv rfl rfl (fun _ => rfl) ?_
      refine dv rfl rfl (fun _ => rfl) ?_
      refine dv rfl rfl (fun _ => rfl) ?_
      refine dv rfl rfl (fun _ => rfl) ?_
      refine dv rfl rfl (fun _ => rfl) ?_
      refine dv rfl rfl (fun _ => rfl) ?_
      refine dv rfl rfl (fun _ => rfl) ?_
      refine dv rfl rfl (fun _ => rfl) ?_
      obtain ⟨x2, hx3, h⟩ := bi h
      refine di rfl rfl rfl rfl rfl (fun _ => rfl) rfl (gi0 hx3) (giM c_tref06Token hx3) (wM (fun _ => by rfl) _) ?_
      refine dv rfl rfl (fun _ => rfl) ?_
      refine dv rfl rfl (fun _ => rfl) ?_
      refine dn ?_
      refine rv rfl rfl ?_
      refine rn ?_
      refine awp_ret ?_
      have h := Option.some.inj h
      subst h
      repeat (first | refine then_ret ?_ | refine inBlock_ret ?_ | refine cut_r ?_)
      exact rrA (r := .int .i64 x2.Kind) [0] [(0, 0, .sl (p1.L.map c_tref06Token)), (0, 1, .int .i64 p1.At), (0, 2, .bool p1.Bad)] [] rfl rfl rfl rfl (zC rfl rfl rfl rfl (zC rfl rfl rfl rfl (zC rfl rfl rfl rfl (trivial)))) (trivial) ⟨rfl, rfl, rfl, rfl⟩
end

/-- `(*plover/ploverref06.P).takes` -/
def dref06_P_takes (fu : Nat) (p1 : tref06P) (s1 : Str) : Option (Bool × tref06P) :=
  (dref06_P_kind fu p1).bind fun k1 => (bif (k1.1 != 2) then some (k1.1 != 5) else some false : Option Bool).bind fun (x1 : Bool) => (bif x1 then some (false, k1.2) else ((gi k1.2.L k1.2.At).bind fun x2 => bif (!(x2.S == s1)) then some (false, k1.2) else some (true, (tref06P.mk k1.2.L (W (k1.2.At + 1)) k1.2.Bad))))
section
attribute [local irreducible] awp aops DP PCall ACall Decidable.decide
theorem dref06_P_takes_l {fu : Nat} {p1 : tref06P} {s1 : Str} {r : Bool × tref06P} (h : dref06_P_takes fu p1 s1 = some r) : ACall Tryz.prog 36 1 [.ptr 0 0, .str (sB s1)] [(0, 0, .sl (p1.L.map c_tref06Token)), (0, 1, .int .i64 p1.At), (0, 2, .bool p1.Bad)] [] (fun r_ H_ O_ n_ => r_ = .bool r.1 ∧ H_ = [(0, 0, .sl (r.2.L.map c_tref06Token)), (0, 1, .int .i64 r.2.At), (0, 2, .bool r.2.Bad)] ∧ O_ = [] ∧ n_ = 1) := by
  rw [dref06_P_takes] at h
  refine acall_body Tryz.func36 rfl (by kernel_rfl) (by rfl) ?_
  refine awp_seq ?_
  refine awp_region ?_
  refine rv rfl rfl ?_
  refine rn ?_
  refine awp_seq ?_
  refine awp_region ?_
  refine rv rfl rfl ?_
  obtain ⟨k1, hx1, h⟩ := bi h
  refine rh [0] rfl rfl (dref06_P_kind_l hx1) rfl rfl rfl (zC rfl rfl rfl rfl (zC rfl rfl rfl rfl (zC rfl rfl rfl rfl (trivial)))) (trivial) ?_
  refine ek ?_
  refine as1 rfl ?_
  refine ae rfl rfl rfl ?_
  refine rv rfl rfl ?_
  refine rn ?_
  refine awp_seq ?_
  refine awp_seq ?_
  obtain ⟨o2, ho3, h⟩ := bi h
  refine awp_cut1 (fun x => x = o2) (fun (x1 : Bool) => ⟨[(0, .ptr 0 0), (1, .str (sB s1)), (13, .bool x1)], [(0, 0, .sl (k1.2.L.map c_tref06Token)), (0, 1, .int .i64 k1.2.At), (0, 2, .bool k1.2.Bad)], [], 1⟩) ?_ ?_
  · refine awp_region ?_
    refine rvs 3 rfl ?_
    refine gs rfl rfl rfl rfl rfl (fun hg => ?_) (fun hg => ?_)
    · have ho3 := cT hg ho3
      refine rv rfl rfl ?_
      refine gy rfl rfl rfl ?_
      refine rv rfl rfl ?_
      refine rv rfl rfl ?_
      refine rn ?_
      cases ho3
      exact cut_n [0] rfl rfl ⟨rfl, rfl, zA rfl rfl rfl (zA rfl rfl rfl (zA rfl rfl rfl (trivial))), zC rfl rfl rfl rfl (zC rfl rfl rfl rfl (zC rfl rfl rfl rfl (trivial))), trivial⟩
    · have ho3 := cF hg ho3
      refine gn rfl rfl rfl rfl rfl ?_
      refine rv rfl rfl ?_
      refine rn ?_
      cases ho3
      exact cut_n [0] rfl rfl ⟨rfl, rfl, zA rfl rfl rfl (zA rfl rfl rfl (zA rfl rfl rfl (trivial))), zC rfl rfl rfl rfl (zC rfl rfl rfl rfl (zC rfl rfl rfl rfl (trivial))), trivial⟩
  · rintro x1 rfl
    change awp _ _ _ _ _ ⟨_, _, _, _⟩
    refine cs_ rfl (fun hc => ?_) (fun hc => ?_)
    · have h := cT hc h
      refine awp_seq ?_
      refine awp_region ?_
      refine rv rfl rfl ?_
      refine rn ?_
      refine awp_ret ?_
      have h := Option.some.inj h
      subst h
      repeat (first | refine then_ret ?_ | refine inBlock_ret ?_ | refine cut_r ?_)
      exact rrA (r := .bool false) [0] [(0, 0, .sl (k1.2.L.map c_tref06Token)), (0, 1, .int .i64 k1.2.At), (0, 2, .bool k1.2.Bad)] [] rfl rfl rfl rfl (zC rfl rfl rfl rfl (zC rfl rfl rfl rfl (zC rfl rfl rfl rfl (trivial)))) (trivial) ⟨rfl, rfl, rfl, rfl⟩
    · have h := cF hc h
      refine awp_skip ?_
      refine awp_seq ?_
      refine awp_seq ?_
      refine awp_dp (m := 13) Tryz.mix (by kernel_rfl) (by kernel_rfl) (by kernel_rfl) (by kernel_rfl) (by kernel_rfl) (by kernel_rfl) (by kernel_rfl) ?_
      refine dv rfl rfl (fun _ => rfl) ?_
      refine dv rfl rfl (fun _ => rfl) ?_
      refine dv rfl rfl (fun _ => rfl) ?_
      refine dv rfl rfl (fun _ => rfl) ?_
      refine dv rfl rfl (fun _ => rfl) ?_
      refine dv rfl rfl (fun _ => rfl) ?_
      refine dv rfl rfl (fun _ => rfl) ?_
      refine dv rfl rfl (fun _ => rfl) ?_
      obtain ⟨x2, hx4, h⟩ := bi h
      refine di rfl rfl rfl rfl rfl (fun _ => rfl) rfl (gi0 hx4) (giM c_tref06Token hx4) (wM (fun _ => by rfl) _) ?_
      refine dv rfl rfl (fun _ => rfl) ?_
      refine dv rfl rfl (fun _ => rfl) ?_
      refine dv rfl rfl (fun _ => rfl) ?_
      refine dv rfl rfl (fun _ => rfl) ?_
      refine dt (sNe x2.S s1) ?_
      refine dn ?_
      refine rn ?_
      refine cs_ rfl (fun hc => ?_) (fun hc => ?_)
      · have h := cT hc h
        refine awp_seq ?_
        refine awp_region ?_
        refine rv rfl rfl ?_
        refine rn ?_
        refine awp_ret ?_
        have h := Option.some.inj h
        subst h
        repeat (first | refine then_ret ?_ | refine inBlock_ret ?_ | refine cut_r ?_)
        exact rrA (r := .bool false) [0] [(0, 0, .sl (k1.2.L.map c_tref06Token)), (0, 1, .int .i64 k1.2.At), (0, 2, .bool k1.2.Bad)] [] rfl rfl rfl rfl (zC rfl rfl rfl rfl (zC rfl rfl rfl rfl (zC rfl rfl rfl rfl (trivial)))) (trivial) ⟨rfl, rfl, rfl, rfl⟩
      · have h := cF hc h
        refine awp_skip ?_
        refine awp_seq ?_
        refine awp_region ?_
        refine rvs 8 rfl ?_
        refine rs rfl rfl rfl rfl rfl rfl rfl ?_
        refine rn ?_
        refine awp_seq ?_
        refine awp_region ?_
        refine rv rfl rfl ?_
        refine rn ?_
        refine awp_ret ?_
        have h := Option.some.inj h
        subst h
        repeat (first | refine then_ret ?_ | refine inBlock_ret ?_ | refine cut_r ?_)
        exact rrA (r := .bool true) [0] [(0, 0, .sl (k1.2.L.map c_tref06Token)), (0, 1, .int .i64 (W (k1.2.At + 1))), (0, 2, .bool k1.2.Bad)] [] rfl rfl rfl rfl (zC rfl rfl rfl rfl (zC rfl rfl rfl rfl (zC rfl rfl rfl rfl (trivial)))) (trivial) ⟨rfl, rfl, rfl, rfl⟩
end

/-- `(*plover/ploverref06.P).must` -/
def dref06_P_must (fu : Nat) (p1 : tref06P) (s1 : Str) : Option tref06P :=
  (dref06_P_takes fu p1 s1).bind fun is1 => bif is1.2.Bad then some (tref06P.mk is1.2.L is1.2.At true) else some (tref06P.mk is1.2.L is1.2.At (!is1.1))
section
attribute [local irreducible] awp aops DP PCall ACall Decidable.decide
theorem dref06_P_must_l {fu : Nat} {p1 : tref06P} {s1 : Str} {r : tref06P} (h : dref06_P_must fu p1 s1 = some r) : ACall Tryz.prog 79 1 [.ptr 0 0, .str (sB s1)] [(0, 0, .sl (p1.L.map c_tref06Token)), (0, 1, .int .i64 p1.At), (0, 2, .bool p1.Bad)] [] (fun r_ H_ O_ n_ => r_ = .tup [] ∧ H_ = [(0, 0, .sl (r.L.map c_tref06Token)), (0, 1, .int .i64 r.At), (0, 2, .bool r.Bad)] ∧ O_ = [] ∧ n_ = 1) := by
  rw [dref06_P_must] at h
  refine acall_body Tryz.func79 rfl (by kernel_rfl) (by rfl) ?_
  refine awp_seq ?_
  refine awp_region ?_
  refine rvs 2 rfl ?_
  obtain ⟨is1, hx1, h⟩ := bi h
  refine rh [0] rfl rfl (dref06_P_takes_l hx1) rfl rfl rfl (zC rfl rfl rfl rfl (zC rfl rfl rfl rfl (zC rfl rfl rfl rfl (trivial)))) (trivial) ?_
  refine ek ?_
  refine as1 rfl ?_
  refine ae rfl rfl rfl ?_
  refine rv rfl rfl ?_
  refine rn ?_
  refine awp_region ?_
  refine rvs 6 rfl ?_
  refine gs rfl rfl rfl rfl rfl (fun hg => ?_) (fun hg => ?_)
  · have h := cF hg h
    refine rv rfl rfl ?_
    refine gy rfl rfl rfl ?_
    refine rv rfl rfl ?_
    refine rvs 3 rfl ?_
    refine rs rfl rfl rfl rfl rfl rfl rfl ?_
    refine rn ?_
    have h := Option.some.inj h
    subst h
    exact rrA' (r := .tup []) [0] [(0, 0, .sl (is1.2.L.map c_tref06Token)), (0, 1, .int .i64 is1.2.At), (0, 2, .bool (!is1.1))] [] rfl rfl rfl rfl (zC rfl rfl rfl rfl (zC rfl rfl rfl rfl (zC rfl rfl rfl rfl (trivial)))) (trivial) ⟨rfl, rfl, rfl, rfl⟩
  · have h := cT hg h
    refine gn rfl rfl rfl rfl rfl ?_
    refine rvs 3 rfl ?_
    refine rs rfl rfl rfl rfl rfl rfl rfl ?_
    refine rn ?_
    have h := Option.some.inj h
    subst h
    exact rrA' (r := .tup []) [0] [(0, 0, .sl (is1.2.L.map c_tref06Token)), (0, 1, .int .i64 is1.2.At), (0, 2, .bool true)] [] rfl rfl rfl rfl (zC rfl rfl rfl rfl (zC rfl rfl rfl rfl (zC rfl rfl rfl rfl (trivial)))) (trivial) ⟨rfl, rfl, rfl, rfl⟩
end

/-- `(*plover/ploverref06.P).token` -/
def dref06_P_token (fu : Nat) (p1 : tref06P) (a1 : Int) (b1 : Int) : Option (tref06Token × tref06P) :=
  (dref06_P_kind fu p1).bind fun k1 => (bif (k1.1 == 0) then some true else (bif (k1.1 != a1) then some (k1.1 != b1) else some false) : Option Bool).bind fun (x1 : Bool) => (bif x1 then some ((tref06Token.mk 0 0 0 []), (tref06P.mk k1.2.L k1.2.At true)) else ((gi k1.2.L (W ((W (k1.2.At + 1)) - 1))).bind fun x2 => some (x2, (tref06P.mk k1.2.L (W (k1.2.At + 1)) k1.2.Bad))))
section
attribute [local irreducible] awp aops DP PCall ACall Decidable.decide
theorem dref06_P_token_l {fu : Nat} {p1 : tref06P} {a1 : Int} {b1 : Int} {r : tref06Token × tref06P} (h : dref06_P_token fu p1 a1 b1 = some r) : ACall Tryz.prog 97 1 [.ptr 0 0, .int .i64 a1, .int .i64 b1] [(0, 0, .sl (p1.L.map c_tref06Token)), (0, 1, .int .i64 p1.At), (0, 2, .bool p1.Bad)] [] (fun r_ H_ O_ n_ => r_ = .agg [.int .i64 r.1.Kind, .int .i64 r.1.At, .int .i64 r.1.N, .str (sB r.1.S)] ∧ H_ = [(0, 0, .sl (r.2.L.map c_tref06Token)), (0, 1, .int .i64 r.2.At), (0, 2, .bool r.2.Bad)] ∧ O_ = [] ∧ n_ = 1) := by
  rw [dref06_P_token] at h
  refine acall_body Tryz.func97 rfl (by kernel_rfl) (by rfl) ?_
  refine awp_seq ?_
  refine awp_region ?_
  refine ra rfl rfl rfl ?_
  refine rn ?_
  refine awp_seq ?_
  refine awp_region ?_
  refine rv rfl rfl ?_
  obtain ⟨k1, hx1, h⟩ := bi h
  refine rh [0] rfl rfl (dref06_P_kind_l hx1) rfl rfl rfl (zC rfl rfl rfl rfl (zC rfl rfl rfl rfl (zC rfl rfl rfl rfl (trivial)))) (trivial) ?_
  refine ek ?_
  refine as1 rfl ?_
  refine ae rfl rfl rfl ?_
  refine rv rfl rfl ?_
  refine rn ?_
  refine awp_seq ?_
  refine awp_seq ?_
  obtain ⟨o2, ho3, h⟩ := bi h
  refine awp_cut1 (fun x => x = o2) (fun (x1 : Bool) => ⟨[(0, .ptr 0 0), (6, .ptr 1 0), (21, .bool x1)], [(0, 0, .sl (k1.2.L.map c_tref06Token)), (0, 1, .int .i64 k1.2.At), (0, 2, .bool k1.2.Bad), (1, 0, .int .i64 0), (1, 1, .int .i64 0), (1, 2, .int .i64 0), (1, 3, .str (sB []))], [], 2⟩) ?_ ?_
  · refine awp_region ?_
    refine rvs 3 rfl ?_
    refine gs rfl rfl rfl rfl rfl (fun hg => ?_) (fun hg => ?_)
    · have ho3 := cF hg ho3
      refine rv rfl rfl ?_
      refine gy rfl rfl rfl ?_
      refine rv rfl rfl ?_
      refine gy rfl rfl rfl ?_
      refine rv rfl rfl ?_
      refine gy rfl rfl rfl ?_
      refine rv rfl rfl ?_
      refine gs rfl rfl rfl rfl rfl (fun hg => ?_) (fun hg => ?_)
      · have ho3 := cT hg ho3
        refine rv rfl rfl ?_
        refine gy rfl rfl rfl ?_
        refine rv rfl rfl ?_
        refine gy rfl rfl rfl ?_
        refine rv rfl rfl ?_
        refine gy rfl rfl rfl ?_
        refine rv rfl rfl ?_
        refine rv rfl rfl ?_
        refine rn ?_
        cases ho3
        exact cut_n [0, 1] rfl rfl ⟨rfl, rfl, zA rfl rfl rfl (zA rfl rfl rfl (zA rfl rfl rfl (trivial))), zC rfl rfl rfl rfl (zC rfl rfl rfl rfl (zC rfl rfl rfl rfl (zC rfl rfl rfl rfl (zC rfl rfl rfl rfl (zC rfl rfl rfl rfl (zC rfl rfl rfl rfl (trivial))))))), trivial⟩
      · have ho3 := cF hg ho3
        refine gn rfl rfl rfl rfl rfl ?_
        refine gn rfl rfl rfl rfl rfl ?_
        refine gy rfl rfl rfl ?_
        refine rv rfl rfl ?_
        refine rv rfl rfl ?_
        refine rn ?_
        cases ho3
        exact cut_n [0, 1] rfl rfl ⟨rfl, rfl, zA rfl rfl rfl (zA rfl rfl rfl (zA rfl rfl rfl (trivial))), zC rfl rfl rfl rfl (zC rfl rfl rfl rfl (zC rfl rfl rfl rfl (zC rfl rfl rfl rfl (zC rfl rfl rfl rfl (zC rfl rfl rfl rfl (zC rfl rfl rfl rfl (trivial))))))), trivial⟩
    · have ho3 := cT hg ho3
      refine gn rfl rfl rfl rfl rfl ?_
      refine gn rfl rfl rfl rfl rfl ?_
      refine gn rfl rfl rfl rfl rfl ?_
      refine gu rfl rfl rfl rfl ?_
      refine gu rfl rfl rfl rfl ?_
      refine gu rfl rfl rfl rfl ?_
      refine gn rfl rfl rfl rfl rfl ?_
      refine rv rfl rfl ?_
      refine rn ?_
      cases ho3
      exact cut_n [0, 1] rfl rfl ⟨rfl, rfl, zA rfl rfl rfl (zA rfl rfl rfl (zA rfl rfl rfl (trivial))), zC rfl rfl rfl rfl (zC rfl rfl rfl rfl (zC rfl rfl rfl rfl (zC rfl rfl rfl rfl (zC rfl rfl rfl rfl (zC rfl rfl rfl rfl (zC rfl rfl rfl rfl (trivial))))))), trivial⟩
  · rintro x1 rfl
    change awp _ _ _ _ _ ⟨_, _, _, _⟩
    refine cs_ rfl (fun hc => ?_) (fun hc => ?_)
    · have h := cT hc h
      refine awp_seq ?_
      refine awp_region ?_
      refine rvs 3 rfl ?_
      refine rs rfl rfl rfl rfl rfl rfl rfl ?_
      refine rn ?_
      refine awp_seq ?_
      refine awp_region ?_
      refine rv rfl rfl ?_
      refine rs rfl rfl rfl rfl rfl rfl rfl ?_
      refine rn ?_
      refine awp_ret ?_
      have h := Option.some.inj h
      subst h
      repeat (first | refine then_ret ?_ | refine inBlock_ret ?_ | refine cut_r ?_)
      exact rrA (r := .agg [.int .i64 0, .int .i64 0, .int .i64 0, .str (sB [])]) [0] [(0, 0, .sl (k1.2.L.map c_tref06Token)), (0, 1, .int .i64 k1.2.At), (0, 2, .bool true)] [] rfl rfl rfl rfl (zC rfl rfl rfl rfl (zC rfl rfl rfl rfl (zC rfl rfl rfl rfl (trivial)))) (trivial) ⟨rfl, rfl, rfl, rfl⟩
    · have h := cF hc h
      refine awp_skip ?_
      refine awp_seq ?_
      refine awp_region ?_
      refine rvs 8 rfl ?_
      refine rs rfl rfl rfl rfl rfl rfl rfl ?_
      refine rn ?_
      refine awp_seq ?_
      refine awp_dp (m := 11) Tryz.mix (by kernel_rfl) (by kernel_rfl) (by kernel_rfl) (by kernel_rfl) (by kernel_rfl) (by kernel_rfl) (by kernel_rfl) ?_
      refine dv rfl rfl (fun _ => rfl) ?_
      refine dv rfl rfl (fun _ => rfl) ?_
      refine dv rfl rfl (fun _ => rfl) ?_
      refine dv rfl rfl (fun _ => rfl) ?_
      refine dv rfl rfl (fun _ => rfl) ?_
      refine dv rfl rfl (fun _ => rfl) ?_
      refine dv rfl rfl (fun _ => rfl) ?_
      refine dv rfl rfl (fun _ => rfl) ?_
      refine dv rfl rfl (fun _ => rfl) ?_
      obtain ⟨x2, hx4, h⟩ := bi h
      refine di rfl rfl rfl rfl rfl (fun _ => rfl) rfl (gi0 hx4) (giM c_tref06Token hx4) (wM (fun _ => by rfl) _) ?_
      refine dv rfl rfl (fun _ => rfl) ?_
      refine dn ?_
      refine rs rfl rfl rfl rfl rfl rfl rfl ?_
      refine rn ?_
      refine awp_ret ?_
      have h := Option.some.inj h
      subst h
      repeat (first | refine then_ret ?_ | refine inBlock_ret ?_ | refine cut_r ?_)
      exact rrA (r := .agg [.int .i64 x2.Kind, .int .i64 x2.At, .int .i64 x2.N, .str (sB x2.S)]) [0] [(0, 0, .sl (k1.2.L.map c_tref06Token)), (0, 1, .int .i64 (W (k1.2.At + 1))), (0, 2, .bool k1.2.Bad)] [] rfl rfl rfl rfl (zC rfl rfl rfl rfl (zC rfl rfl rfl rfl (zC rfl rfl rfl rfl (trivial)))) (trivial) ⟨rfl, rfl, rfl, rfl⟩
end

/-- `(*plover/ploverref06.P).val` -/
def dref06_P_val (fu : Nat) (p1 : tref06P) : Option (tAttr × tref06P) :=
  (dref06_P_token fu p1 3 4).bind fun x1 => bif (x1.1.Kind == 4) then some ((tAttr.mk [] true 0 x1.1.S), x1.2) else some ((tAttr.mk [] false x1.1.N []), x1.2)
section
attribute [local irreducible] awp aops DP PCall ACall Decidable.decide
theorem dref06_P_val_l {fu : Nat} {p1 : tref06P} {r : tAttr × tref06P} (h : dref06_P_val fu p1 = some r) : ACall Tryz.prog 98 1 [.ptr 0 0] [(0, 0, .sl (p1.L.map c_tref06Token)), (0, 1, .int .i64 p1.At), (0, 2, .bool p1.Bad)] [] (fun r_ H_ O_ n_ => r_ = .agg [.str (sB r.1.Name), .bool r.1.Text, .int .i64 r.1.N, .str (sB r.1.S)] ∧ H_ = [(0, 0, .sl (r.2.L.map c_tref06Token)), (0, 1, .int .i64 r.2.At), (0, 2, .bool r.2.Bad)] ∧ O_ = [] ∧ n_ = 1) := by
  rw [dref06_P_val] at h
  refine acall_body Tryz.func98 rfl (by kernel_rfl) (by rfl) ?_
  refine awp_seq ?_
  refine awp_region ?_
  refine ra rfl rfl rfl ?_
  refine rn ?_
  refine awp_seq ?_
  refine awp_region ?_
  refine rv rfl rfl ?_
  obtain ⟨x1, hx1, h⟩ := bi h
  refine rh [0] rfl rfl (dref06_P_token_l hx1) rfl rfl rfl (zC rfl rfl rfl rfl (zC rfl rfl rfl rfl (zC rfl rfl rfl rfl (trivial)))) (trivial) ?_
  refine ek ?_
  refine as1 rfl ?_
  refine ae rfl rfl rfl ?_
  refine ra rfl rfl rfl ?_
  refine rs rfl rfl rfl rfl rfl rfl rfl ?_
  refine rn ?_
  refine awp_seq ?_
  refine awp_seq ?_
  refine awp_region ?_
  refine rvs 3 rfl ?_
  refine rn ?_
  refine cs_ rfl (fun hc => ?_) (fun hc => ?_)
  · have h := cT hc h
    refine awp_seq ?_
    refine awp_region ?_
    refine rvs 3 rfl ?_
    refine rs rfl rfl rfl rfl rfl rfl rfl ?_
    refine rn ?_
    refine awp_ret ?_
    have h := Option.some.inj h
    subst h
    repeat (first | refine then_ret ?_ | refine inBlock_ret ?_ | refine cut_r ?_)
    exact rrA (r := .agg [.str (sB []), .bool true, .int .i64 0, .str (sB x1.1.S)]) [0] [(0, 0, .sl (x1.2.L.map c_tref06Token)), (0, 1, .int .i64 x1.2.At), (0, 2, .bool x1.2.Bad)] [] rfl rfl rfl rfl (zC rfl rfl rfl rfl (zC rfl rfl rfl rfl (zC rfl rfl rfl rfl (trivial)))) (trivial) ⟨rfl, rfl, rfl, rfl⟩
  · have h := cF hc h
    refine awp_skip ?_
    refine awp_seq ?_
    refine awp_region ?_
    refine rvs 3 rfl ?_
    refine rs rfl rfl rfl rfl rfl rfl rfl ?_
    refine rn ?_
    refine awp_ret ?_
    have h := Option.some.inj h
    subst h
    repeat (first | refine then_ret ?_ | refine inBlock_ret ?_ | refine cut_r ?_)
    exact rrA (r := .agg [.str (sB []), .bool false, .int .i64 x1.1.N, .str (sB [])]) [0] [(0, 0, .sl (x1.2.L.map c_tref06Token)), (0, 1, .int .i64 x1.2.At), (0, 2, .bool x1.2.Bad)] [] rfl rfl rfl rfl (zC rfl rfl rfl rfl (zC rfl rfl rfl rfl (zC rfl rfl rfl rfl (trivial)))) (trivial) ⟨rfl, rfl, rfl, rfl⟩
end

/-- `(*plover/ploverref06.P).leafy` -/
def dref06_P_leafy (fu : Nat) (p1 : tref06P) : Option (tFilter × tref06P) :=
  (dref06_P_token fu p1 1 1).bind fun x1 => (dref06_P_takes fu x1.2 [105, 110]).bind fun x2 => bif x2.1 then ((dref06_P_must fu x2.2 [40]).bind fun x3 => (dref06_P_val fu x3).bind fun x4 => (ap [] [x4.1]).bind fun l1 => (loopD (ε := (List tref06Token) × Int × Bool × (List tAttr)) (τ := (List tref06Token) × Int × Bool × (List tAttr)) (fun (((p2, p3, p4, l2)) : (List tref06Token) × Int × Bool × (List tAttr)) => ((dref06_P_takes fu (tref06P.mk p2 p3 p4) [44]).bind fun x5 => bif x5.1 then ((dref06_P_val fu x5.2).bind fun x6 => (bif x6.2.Bad then some true else some (!(x6.1.Text == x4.1.Text)) : Option Bool).bind fun (p11 : Bool) => ((ap l2 [x6.1]).bind fun l5 => some (Sum.inl (x6.2.L, x6.2.At, p11, l5)))) else some (Sum.inr (x5.2.L, x5.2.At, x5.2.Bad, l2)))) fu (x4.2.L, x4.2.At, x4.2.Bad, l1)).bind fun (((p8, p9, p10, l4)) : (List tref06Token) × Int × Bool × (List tAttr)) => ((dref06_P_must fu (tref06P.mk p8 p9 p10) [41]).bind fun x7 => some ((tFilter.mk 6 x1.1.S [] l4 []), x7))) else ((dref06_P_takes fu x2.2 [94, 61]).bind fun x8 => bif x8.1 then ((dref06_P_val fu x8.2).bind fun x9 => (bif x9.2.Bad then some true else some (!x9.1.Text) : Option Bool).bind fun (x10 : Bool) => ((ap [] [x9.1]).bind fun l6 => some ((tFilter.mk 5 x1.1.S [] l6 []), (tref06P.mk x9.2.L x9.2.At x10)))) else ((dref06_P_token fu x8.2 5 5).bind fun x11 => (bif x11.2.Bad then some true else ((dref06_op fu x11.1.S).bind fun x12 => some (!x12)) : Option Bool).bind fun (p12 : Bool) => ((dref06_P_val fu (tref06P.mk x11.2.L x11.2.At p12)).bind fun x13 => (ap [] [x13.1]).bind fun l7 => some ((tFilter.mk 4 x1.1.S x11.1.S l7 []), x13.2))))
section
attribute [local irreducible] awp aops DP PCall ACall Decidable.decide
theorem dref06_P_leafy_l {fu : Nat} {p1 : tref06P} {r : tFilter × tref06P} (h : dref06_P_leafy fu p1 = some r) : ACall Tryz.prog 80 1 [.ptr 0 0] [(0, 0, .sl (p1.L.map c_tref06Token)), (0, 1, .int .i64 p1.At), (0, 2, .bool p1.Bad)] [] (fun r_ H_ O_ n_ => r_ = .agg (c_tFilter r.1) ∧ H_ = [(0, 0, .sl (r.2.L.map c_tref06Token)), (0, 1, .int .i64 r.2.At), (0, 2, .bool r.2.Bad)] ∧ O_ = [] ∧ n_ = 1) := by
  rw [dref06_P_leafy] at h
  refine acall_body Tryz.func80 rfl (by kernel_rfl) (by rfl) ?_
  refine awp_seq ?_
  refine awp_region ?_
  refine ra rfl rfl rfl ?_
  refine rn ?_
  refine awp_seq ?_
  refine awp_region ?_
  refine rv rfl rfl ?_
  obtain ⟨x1, hx1, h⟩ := bi h
  refine rh [0] rfl rfl (dref06_P_token_l hx1) rfl rfl rfl (zC rfl rfl rfl rfl (zC rfl rfl rfl rfl (zC rfl rfl rfl rfl (trivial)))) (trivial) ?_
  refine ek ?_
  refine as1 rfl ?_
  refine ae rfl rfl rfl ?_
  refine ra rfl rfl rfl ?_
  refine rs rfl rfl rfl rfl rfl rfl rfl ?_
  refine rn ?_
  refine awp_seq ?_
  refine awp_region ?_
  refine rvs 3 rfl ?_
  refine ra rfl rfl rfl ?_
  refine rs rfl rfl rfl rfl rfl rfl rfl ?_
  refine rn ?_
  refine awp_seq ?_
  refine awp_seq ?_
  refine awp_region ?_
  refine rv rfl rfl ?_
  obtain ⟨x2, hx2, h⟩ := bi h
  refine rh [0] rfl rfl (dref06_P_takes_l hx2) rfl rfl rfl (zC rfl rfl rfl rfl (zC rfl rfl rfl rfl (zC rfl rfl rfl rfl (trivial)))) (trivial) ?_
  refine ek ?_
  refine as1 rfl ?_
  refine ae rfl rfl rfl ?_
  refine rn ?_
  refine cs_ rfl (fun hc => ?_) (fun hc => ?_)
  · have h := cT hc h
    refine awp_seq ?_
    refine awp_region ?_
    refine rv rfl rfl ?_
    refine rs rfl rfl rfl rfl rfl rfl rfl ?_
    refine rn ?_
    refine awp_seq ?_
    refine awp_region ?_
    refine rv rfl rfl ?_
    obtain ⟨x3, hx3, h⟩ := bi h
    refine rh [0] rfl rfl (dref06_P_must_l hx3) rfl rfl rfl (zC rfl rfl rfl rfl (zC rfl rfl rfl rfl (zC rfl rfl rfl rfl (trivial)))) (trivial) ?_
    refine ek ?_
    refine as1 rfl ?_
    refine ae rfl rfl rfl ?_
    refine rn ?_
    refine awp_seq ?_
    refine awp_region ?_
    refine rv rfl rfl ?_
    obtain ⟨x4, hx4, h⟩ := bi h
    refine rh [0] rfl rfl (dref06_P_val_l hx4) rfl rfl rfl (zC rfl rfl rfl rfl (zC rfl rfl rfl rfl (zC rfl rfl rfl rfl (trivial)))) (trivial) ?_
    refine ek ?_
    refine as1 rfl ?_
    refine ae rfl rfl rfl ?_
    refine ra rfl rfl rfl ?_
    refine rs rfl rfl rfl rfl rfl rfl rfl ?_
    refine rn ?_
    refine awp_seq ?_
    refine awp_region ?_
    refine rvs 3 rfl ?_
    refine rbs false rfl rfl rfl rfl rfl rfl rfl rfl rfl rfl ?_
    obtain ⟨l1, hx5, h⟩ := bi h
    refine rap false (z := 4) (xs := [].map c_tAttr) (ys := [x4.1].map c_tAttr) rfl rfl rfl rfl rfl rfl rfl (.nil rfl) (.sl rfl rfl rfl) (wM (fun _ => by rfl) _) (oM (fun _ => by rfl) _) (apB c_tAttr rfl hx5) rfl ?_
    refine rk (congrArg (Kind.row _) (apM c_tAttr hx5)) ?_
    refine rv rfl rfl ?_
    refine rs rfl rfl rfl rfl rfl rfl rfl ?_
    refine rn ?_
    refine awp_seq ?_
    obtain ⟨e6, hl7, h⟩ := bi h
    refine awp_cut1 (fun x => x = e6) (fun (((p8, p9, p10, l4)) : (List tref06Token) × Int × Bool × (List tAttr)) => ⟨[(0, .ptr 0 0), (2, .ptr 1 0), (4, .ptr 2 0)], [(0, 0, .sl (p8.map c_tref06Token)), (0, 1, .int .i64 p9), (0, 2, .bool p10), (1, 0, .int .i64 0), (1, 1, .str (sB [])), (1, 2, .str (sB [])), (1, 3, .nilS), (1, 4, .nilS), (2, 0, .int .i64 6), (2, 1, .str (sB x1.1.S)), (2, 2, .str (sB [])), (2, 3, .own 3), (2, 4, .nilS)], [(3, .row 4 (l4.map c_tAttr))], 4⟩) ?_ ?_
    · refine awp_block ?_
      refine awp_loopD hl7 (fun (((p2, p3, p4, l2)) : (List tref06Token) × Int × Bool × (List tAttr)) => ⟨[(0, .ptr 0 0), (2, .ptr 1 0), (4, .ptr 2 0), (5, .ptr 3 0)], [(0, 0, .sl (p2.map c_tref06Token)), (0, 1, .int .i64 p3), (0, 2, .bool p4), (1, 0, .int .i64 0), (1, 1, .str (sB [])), (1, 2, .str (sB [])), (1, 3, .nilS), (1, 4, .nilS), (2, 0, .int .i64 6), (2, 1, .str (sB x1.1.S)), (2, 2, .str (sB [])), (2, 3, .own 4), (2, 4, .nilS), (3, 0, .str (sB x4.1.Name)), (3, 1, .bool x4.1.Text), (3, 2, .int .i64 x4.1.N), (3, 3, .str (sB x4.1.S))], [(4, .row 4 (l2.map c_tAttr))], 5⟩) [0, 1, 3, 4, 6] rfl ⟨rfl, rfl, zA rfl rfl rfl (zA rfl rfl rfl (zA rfl rfl rfl (zA rfl rfl rfl (trivial)))), zC rfl rfl rfl rfl (zC rfl rfl rfl rfl (zC rfl rfl rfl rfl (zC rfl rfl rfl rfl (zC rfl rfl rfl rfl (zC rfl rfl rfl rfl (zC rfl rfl rfl rfl (zC rfl rfl rfl rfl (zC rfl rfl rfl rfl (zC rfl rfl rfl rfl (zC rfl rfl rfl rfl (zC rfl rfl rfl rfl (zC rfl rfl rfl rfl (zC rfl rfl rfl rfl (zC rfl rfl rfl rfl (zC rfl rfl rfl rfl (zC rfl rfl rfl rfl (trivial))))))))))))))))), zE rfl .row rfl (trivial)⟩ ?_
      intro v o10 ho8 hE9
      obtain ⟨p2, p3, p4, l2⟩ := v
      change awp _ _ _ _ _ ⟨_, _, _, _⟩
      refine awp_seq ?_
      refine awp_seq ?_
      refine awp_region ?_
      refine rv rfl rfl ?_
      obtain ⟨x5, hx11, ho8⟩ := bi ho8
      refine rh [0] rfl rfl (dref06_P_takes_l hx11) rfl rfl rfl (zC rfl rfl rfl rfl (zC rfl rfl rfl rfl (zC rfl rfl rfl rfl (trivial)))) (trivial) ?_
      refine ek ?_
      refine as1 rfl ?_
      refine ae rfl rfl rfl ?_
      refine rn ?_
      refine cs_ rfl (fun hc => ?_) (fun hc => ?_)
      · have ho8 := cT hc ho8
        refine awp_skip ?_
        refine awp_block ?_
        refine awp_seq ?_
        refine awp_region ?_
        refine rv rfl rfl ?_
        obtain ⟨x6, hx12, ho8⟩ := bi ho8
        refine rh [0] rfl rfl (dref06_P_val_l hx12) rfl rfl rfl (zC rfl rfl rfl rfl (zC rfl rfl rfl rfl (zC rfl rfl rfl rfl (trivial)))) (trivial) ?_
        refine ek ?_
        refine as1 rfl ?_
        refine ae rfl rfl rfl ?_
        refine ra rfl rfl rfl ?_
        refine rs rfl rfl rfl rfl rfl rfl rfl ?_
        refine rn ?_
        refine awp_seq ?_
        obtain ⟨o13, ho14, ho8⟩ := bi ho8
        refine awp_cut1 (fun x => x = o13) (fun (p11 : Bool) => ⟨[(0, .ptr 0 0), (2, .ptr 1 0), (4, .ptr 2 0), (5, .ptr 3 0), (6, .ptr 4 0)], [(0, 0, .sl (x6.2.L.map c_tref06Token)), (0, 1, .int .i64 x6.2.At), (0, 2, .bool p11), (1, 0, .int .i64 0), (1, 1, .str (sB [])), (1, 2, .str (sB [])), (1, 3, .nilS), (1, 4, .nilS), (2, 0, .int .i64 6), (2, 1, .str (sB x1.1.S)), (2, 2, .str (sB [])), (2, 3, .own 5), (2, 4, .nilS), (3, 0, .str (sB x4.1.Name)), (3, 1, .bool x4.1.Text), (3, 2, .int .i64 x4.1.N), (3, 3, .str (sB x4.1.S)), (4, 0, .str (sB x6.1.Name)), (4, 1, .bool x6.1.Text), (4, 2, .int .i64 x6.1.N), (4, 3, .str (sB x6.1.S))], [(5, .row 4 (l2.map c_tAttr))], 6⟩) ?_ ?_
        · refine awp_region ?_
          refine rvs 6 rfl ?_
          refine gs rfl rfl rfl rfl rfl (fun hg => ?_) (fun hg => ?_)
          · have ho14 := cF hg ho14
            refine rv rfl rfl ?_
            refine gy rfl rfl rfl ?_
            refine rv rfl rfl ?_
            refine gy rfl rfl rfl ?_
            refine rv rfl rfl ?_
            refine gy rfl rfl rfl ?_
            refine rv rfl rfl ?_
            refine gy rfl rfl rfl ?_
            refine rv rfl rfl ?_
            refine rvs 3 rfl ?_
            refine rs rfl rfl rfl rfl rfl rfl rfl ?_
            refine rn ?_
            cases ho14
            exact cut_n [0, 1, 2, 3, 5, 4] rfl rfl ⟨rfl, rfl, zA rfl rfl rfl (zA rfl rfl rfl (zA rfl rfl rfl (zA rfl rfl rfl (zA rfl rfl rfl (trivial))))), zC rfl rfl rfl rfl (zC rfl rfl rfl rfl (zC rfl rfl rfl rfl (zC rfl rfl rfl rfl (zC rfl rfl rfl rfl (zC rfl rfl rfl rfl (zC rfl rfl rfl rfl (zC rfl rfl rfl rfl (zC rfl rfl rfl rfl (zC rfl rfl rfl rfl (zC rfl rfl rfl rfl (zC rfl rfl rfl rfl (zC rfl rfl rfl rfl (zC rfl rfl rfl rfl (zC rfl rfl rfl rfl (zC rfl rfl rfl rfl (zC rfl rfl rfl rfl (zC rfl rfl rfl rfl (zC rfl rfl rfl rfl (zC rfl rfl rfl rfl (zC rfl rfl rfl rfl (trivial))))))))))))))))))))), zE rfl .row rfl (trivial)⟩
          · have ho14 := cT hg ho14
            refine gn rfl rfl rfl rfl rfl ?_
            refine gn rfl rfl rfl rfl rfl ?_
            refine gn rfl rfl rfl rfl rfl ?_
            refine gn rfl rfl rfl rfl rfl ?_
            refine rvs 3 rfl ?_
            refine rs rfl rfl rfl rfl rfl rfl rfl ?_
            refine rn ?_
            cases ho14
            exact cut_n [0, 1, 2, 3, 5, 4] rfl rfl ⟨rfl, rfl, zA rfl rfl rfl (zA rfl rfl rfl (zA rfl rfl rfl (zA rfl rfl rfl (zA rfl rfl rfl (trivial))))), zC rfl rfl rfl rfl (zC rfl rfl rfl rfl (zC rfl rfl rfl rfl (zC rfl rfl rfl rfl (zC rfl rfl rfl rfl (zC rfl rfl rfl rfl (zC rfl rfl rfl rfl (zC rfl rfl rfl rfl (zC rfl rfl rfl rfl (zC rfl rfl rfl rfl (zC rfl rfl rfl rfl (zC rfl rfl rfl rfl (zC rfl rfl rfl rfl (zC rfl rfl rfl rfl (zC rfl rfl rfl rfl (zC rfl rfl rfl rfl (zC rfl rfl rfl rfl (zC rfl rfl rfl rfl (zC rfl rfl rfl rfl (zC rfl rfl rfl rfl (zC rfl rfl rfl rfl (trivial))))))))))))))))))))), zE rfl .row rfl (trivial)⟩
        · rintro p11 rfl
          change awp _ _ _ _ _ ⟨_, _, _, _⟩
          refine awp_region ?_
          refine rvs 3 rfl ?_
          refine rbs false rfl rfl rfl rfl rfl rfl rfl rfl rfl rfl ?_
          obtain ⟨l5, hx15, ho8⟩ := bi ho8
          refine rap false (z := 4) (xs := l2.map c_tAttr) (ys := [x6.1].map c_tAttr) rfl rfl rfl rfl rfl rfl rfl (.own rfl rfl) (.sl rfl rfl rfl) (wM (fun _ => by rfl) _) (oM (fun _ => by rfl) _) (apB c_tAttr rfl hx15) rfl ?_
          refine rk (congrArg (Kind.row _) (apM c_tAttr hx15)) ?_
          refine rv rfl rfl ?_
          refine rs rfl rfl rfl rfl rfl rfl rfl ?_
          refine rn ?_
          refine inBlock_normal ?_
          cases ho8
          exact lp_n [0, 1, 2, 3, 7] rfl rfl ⟨rfl, rfl, zA rfl rfl rfl (zA rfl rfl rfl (zA rfl rfl rfl (zA rfl rfl rfl (trivial)))), zC rfl rfl rfl rfl (zC rfl rfl rfl rfl (zC rfl rfl rfl rfl (zC rfl rfl rfl rfl (zC rfl rfl rfl rfl (zC rfl rfl rfl rfl (zC rfl rfl rfl rfl (zC rfl rfl rfl rfl (zC rfl rfl rfl rfl (zC rfl rfl rfl rfl (zC rfl rfl rfl rfl (zC rfl rfl rfl rfl (zC rfl rfl rfl rfl (zC rfl rfl rfl rfl (zC rfl rfl rfl rfl (zC rfl rfl rfl rfl (zC rfl rfl rfl rfl (trivial))))))))))))))))), zE rfl .row rfl (trivial)⟩
      · have ho8 := cF hc ho8
        refine awp_exit ?_
        repeat (first | refine then_exit ?_ | refine cut_x ?_ | refine inBlock_other rfl ?_)
        refine inBlock_exit ?_
        cases ho8
        have hq := hE9 _ rfl
        subst hq
        exact cut_n [0, 1, 2, 4] rfl rfl ⟨rfl, rfl, zA rfl rfl rfl (zA rfl rfl rfl (zA rfl rfl rfl (trivial))), zC rfl rfl rfl rfl (zC rfl rfl rfl rfl (zC rfl rfl rfl rfl (zC rfl rfl rfl rfl (zC rfl rfl rfl rfl (zC rfl rfl rfl rfl (zC rfl rfl rfl rfl (zC rfl rfl rfl rfl (zC rfl rfl rfl rfl (zC rfl rfl rfl rfl (zC rfl rfl rfl rfl (zC rfl rfl rfl rfl (zC rfl rfl rfl rfl (trivial))))))))))))), zE rfl .row rfl (trivial)⟩
    · rintro ⟨p8, p9, p10, l4⟩ rfl
      change awp _ _ _ _ _ ⟨_, _, _, _⟩
      refine awp_seq ?_
      refine awp_region ?_
      refine rv rfl rfl ?_
      obtain ⟨x7, hx16, h⟩ := bi h
      refine rh [0] rfl rfl (dref06_P_must_l hx16) rfl rfl rfl (zC rfl rfl rfl rfl (zC rfl rfl rfl rfl (zC rfl rfl rfl rfl (trivial)))) (trivial) ?_
      refine ek ?_
      refine as1 rfl ?_
      refine ae rfl rfl rfl ?_
      refine rn ?_
      refine awp_seq ?_
      refine awp_region ?_
      refine rv rfl rfl ?_
      refine rs rfl rfl rfl rfl rfl rfl rfl ?_
      refine rn ?_
      refine awp_ret ?_
      have h := Option.some.inj h
      subst h
      repeat (first | refine then_ret ?_ | refine inBlock_ret ?_ | refine cut_r ?_)
      exact rrA (r := .agg [.int .i64 6, .str (sB x1.1.S), .str (sB []), .sl (l4.map c_tAttr), .sl (cs_tFilter ([] : List tFilter))]) [0] [(0, 0, .sl (x7.L.map c_tref06Token)), (0, 1, .int .i64 x7.At), (0, 2, .bool x7.Bad)] [] rfl rfl rfl rfl (zC rfl rfl rfl rfl (zC rfl rfl rfl rfl (zC rfl rfl rfl rfl (trivial)))) (trivial) ⟨rfl, rfl, rfl, rfl⟩
  · have h := cF hc h
    refine awp_skip ?_
    refine awp_seq ?_
    refine awp_seq ?_
    refine awp_region ?_
    refine rv rfl rfl ?_
    obtain ⟨x8, hx17, h⟩ := bi h
    refine rh [0] rfl rfl (dref06_P_takes_l hx17) rfl rfl rfl (zC rfl rfl rfl rfl (zC rfl rfl rfl rfl (zC rfl rfl rfl rfl (trivial)))) (trivial) ?_
    refine ek ?_
    refine as1 rfl ?_
    refine ae rfl rfl rfl ?_
    refine rn ?_
    refine cs_ rfl (fun hc => ?_) (fun hc => ?_)
    · have h := cT hc h
      refine awp_seq ?_
      refine awp_region ?_
      refine rv rfl rfl ?_
      refine rs rfl rfl rfl rfl rfl rfl rfl ?_
      refine rn ?_
      refine awp_seq ?_
      refine awp_region ?_
      refine rv rfl rfl ?_
      obtain ⟨x9, hx18, h⟩ := bi h
      refine rh [0] rfl rfl (dref06_P_val_l hx18) rfl rfl rfl (zC rfl rfl rfl rfl (zC rfl rfl rfl rfl (zC rfl rfl rfl rfl (trivial)))) (trivial) ?_
      refine ek ?_
      refine as1 rfl ?_
      refine ae rfl rfl rfl ?_
      refine ra rfl rfl rfl ?_
      refine rs rfl rfl rfl rfl rfl rfl rfl ?_
      refine rn ?_
      refine awp_seq ?_
      obtain ⟨o19, ho20, h⟩ := bi h
      refine awp_cut1 (fun x => x = o19) (fun (x10 : Bool) => ⟨[(2, .ptr 1 0), (4, .ptr 2 0), (7, .ptr 3 0)], [(0, 0, .sl (x9.2.L.map c_tref06Token)), (0, 1, .int .i64 x9.2.At), (0, 2, .bool x10), (1, 0, .int .i64 0), (1, 1, .str (sB [])), (1, 2, .str (sB [])), (1, 3, .nilS), (1, 4, .nilS), (2, 0, .int .i64 5), (2, 1, .str (sB x1.1.S)), (2, 2, .str (sB [])), (2, 3, .nilS), (2, 4, .nilS), (3, 0, .str (sB x9.1.Name)), (3, 1, .bool x9.1.Text), (3, 2, .int .i64 x9.1.N), (3, 3, .str (sB x9.1.S))], [], 4⟩) ?_ ?_
      · refine awp_region ?_
        refine rvs 6 rfl ?_
        refine gs rfl rfl rfl rfl rfl (fun hg => ?_) (fun hg => ?_)
        · have ho20 := cF hg ho20
          refine rv rfl rfl ?_
          refine gy rfl rfl rfl ?_
          refine rv rfl rfl ?_
          refine gy rfl rfl rfl ?_
          refine rv rfl rfl ?_
          refine rvs 3 rfl ?_
          refine rs rfl rfl rfl rfl rfl rfl rfl ?_
          refine rn ?_
          cases ho20
          exact cut_n [0, 1, 3, 4] rfl rfl ⟨rfl, rfl, zA rfl rfl rfl (zA rfl rfl rfl (zA rfl rfl rfl (trivial))), zC rfl rfl rfl rfl (zC rfl rfl rfl rfl (zC rfl rfl rfl rfl (zC rfl rfl rfl rfl (zC rfl rfl rfl rfl (zC rfl rfl rfl rfl (zC rfl rfl rfl rfl (zC rfl rfl rfl rfl (zC rfl rfl rfl rfl (zC rfl rfl rfl rfl (zC rfl rfl rfl rfl (zC rfl rfl rfl rfl (zC rfl rfl rfl rfl (zC rfl rfl rfl rfl (zC rfl rfl rfl rfl (zC rfl rfl rfl rfl (zC rfl rfl rfl rfl (trivial))))))))))))))))), trivial⟩
        · have ho20 := cT hg ho20
          refine gn rfl rfl rfl rfl rfl ?_
          refine gn rfl rfl rfl rfl rfl ?_
          refine rvs 3 rfl ?_
          refine rs rfl rfl rfl rfl rfl rfl rfl ?_
          refine rn ?_
          cases ho20
          exact cut_n [0, 1, 3, 4] rfl rfl ⟨rfl, rfl, zA rfl rfl rfl (zA rfl rfl rfl (zA rfl rfl rfl (trivial))), zC rfl rfl rfl rfl (zC rfl rfl rfl rfl (zC rfl rfl rfl rfl (zC rfl rfl rfl rfl (zC rfl rfl rfl rfl (zC rfl rfl rfl rfl (zC rfl rfl rfl rfl (zC rfl rfl rfl rfl (zC rfl rfl rfl rfl (zC rfl rfl rfl rfl (zC rfl rfl rfl rfl (zC rfl rfl rfl rfl (zC rfl rfl rfl rfl (zC rfl rfl rfl rfl (zC rfl rfl rfl rfl (zC rfl rfl rfl rfl (zC rfl rfl rfl rfl (trivial))))))))))))))))), trivial⟩
      · rintro x10 rfl
        change awp _ _ _ _ _ ⟨_, _, _, _⟩
        refine awp_seq ?_
        refine awp_region ?_
        refine rvs 3 rfl ?_
        refine rbs false rfl rfl rfl rfl rfl rfl rfl rfl rfl rfl ?_
        obtain ⟨l6, hx21, h⟩ := bi h
        refine rap false (z := 4) (xs := [].map c_tAttr) (ys := [x9.1].map c_tAttr) rfl rfl rfl rfl rfl rfl rfl (.nil rfl) (.sl rfl rfl rfl) (wM (fun _ => by rfl) _) (oM (fun _ => by rfl) _) (apB c_tAttr rfl hx21) rfl ?_
        refine rk (congrArg (Kind.row _) (apM c_tAttr hx21)) ?_
        refine rv rfl rfl ?_
        refine rs rfl rfl rfl rfl rfl rfl rfl ?_
        refine rn ?_
        refine awp_seq ?_
        refine awp_region ?_
        refine rv rfl rfl ?_
        refine rs rfl rfl rfl rfl rfl rfl rfl ?_
        refine rn ?_
        refine awp_ret ?_
        have h := Option.some.inj h
        subst h
        repeat (first | refine then_ret ?_ | refine inBlock_ret ?_ | refine cut_r ?_)
        exact rrA (r := .agg [.int .i64 5, .str (sB x1.1.S), .str (sB []), .sl (l6.map c_tAttr), .sl (cs_tFilter ([] : List tFilter))]) [0] [(0, 0, .sl (x9.2.L.map c_tref06Token)), (0, 1, .int .i64 x9.2.At), (0, 2, .bool x10)] [] rfl rfl rfl rfl (zC rfl rfl rfl rfl (zC rfl rfl rfl rfl (zC rfl rfl rfl rfl (trivial)))) (trivial) ⟨rfl, rfl, rfl, rfl⟩
    · have h := cF hc h
      refine awp_skip ?_
      refine awp_seq ?_
      refine awp_region ?_
      refine rv rfl rfl ?_
      refine rs rfl rfl rfl rfl rfl rfl rfl ?_
      refine rn ?_
      refine awp_seq ?_
      refine awp_region ?_
      refine rv rfl rfl ?_
      obtain ⟨x11, hx22, h⟩ := bi h
      refine rh [0] rfl rfl (dref06_P_token_l hx22) rfl rfl rfl (zC rfl rfl rfl rfl (zC rfl rfl rfl rfl (zC rfl rfl rfl rfl (trivial)))) (trivial) ?_
      refine ek ?_
      refine as1 rfl ?_
      refine ae rfl rfl rfl ?_
      refine ra rfl rfl rfl ?_
      refine rs rfl rfl rfl rfl rfl rfl rfl ?_
      refine rn ?_
      refine awp_seq ?_
      obtain ⟨o23, ho24, h⟩ := bi h
      refine awp_cut1 (fun x => x = o23) (fun (p12 : Bool) => ⟨[(0, .ptr 0 0), (2, .ptr 1 0), (4, .ptr 2 0), (8, .ptr 3 0)], [(0, 0, .sl (x11.2.L.map c_tref06Token)), (0, 1, .int .i64 x11.2.At), (0, 2, .bool p12), (1, 0, .int .i64 0), (1, 1, .str (sB [])), (1, 2, .str (sB [])), (1, 3, .nilS), (1, 4, .nilS), (2, 0, .int .i64 4), (2, 1, .str (sB x1.1.S)), (2, 2, .str (sB [])), (2, 3, .nilS), (2, 4, .nilS), (3, 0, .int .i64 x11.1.Kind), (3, 1, .int .i64 x11.1.At), (3, 2, .int .i64 x11.1.N), (3, 3, .str (sB x11.1.S))], [], 4⟩) ?_ ?_
      · refine awp_region ?_
        refine rvs 6 rfl ?_
        refine gs rfl rfl rfl rfl rfl (fun hg => ?_) (fun hg => ?_)
        · have ho24 := cF hg ho24
          refine rv rfl rfl ?_
          refine gy rfl rfl rfl ?_
          refine rv rfl rfl ?_
          refine gy rfl rfl rfl ?_
          obtain ⟨x12, hx25, ho24⟩ := bi ho24
          refine rc1 rfl rfl rfl (dref06_op_l hx25) ?_
          refine gy rfl rfl rfl ?_
          refine rv rfl rfl ?_
          refine rvs 3 rfl ?_
          refine rs rfl rfl rfl rfl rfl rfl rfl ?_
          refine rn ?_
          cases ho24
          exact cut_n [0, 1, 3, 4] rfl rfl ⟨rfl, rfl, zA rfl rfl rfl (zA rfl rfl rfl (zA rfl rfl rfl (zA rfl rfl rfl (trivial)))), zC rfl rfl rfl rfl (zC rfl rfl rfl rfl (zC rfl rfl rfl rfl (zC rfl rfl rfl rfl (zC rfl rfl rfl rfl (zC rfl rfl rfl rfl (zC rfl rfl rfl rfl (zC rfl rfl rfl rfl (zC rfl rfl rfl rfl (zC rfl rfl rfl rfl (zC rfl rfl rfl rfl (zC rfl rfl rfl rfl (zC rfl rfl rfl rfl (zC rfl rfl rfl rfl (zC rfl rfl rfl rfl (zC rfl rfl rfl rfl (zC rfl rfl rfl rfl (trivial))))))))))))))))), trivial⟩
        · have ho24 := cT hg ho24
          refine gn rfl rfl rfl rfl rfl ?_
          refine gn rfl rfl rfl rfl rfl ?_
          refine gn rfl rfl rfl rfl rfl ?_
          refine rvs 3 rfl ?_
          refine rs rfl rfl rfl rfl rfl rfl rfl ?_
          refine rn ?_
          cases ho24
          exact cut_n [0, 1, 3, 4] rfl rfl ⟨rfl, rfl, zA rfl rfl rfl (zA rfl rfl rfl (zA rfl rfl rfl (zA rfl rfl rfl (trivial)))), zC rfl rfl rfl rfl (zC rfl rfl rfl rfl (zC rfl rfl rfl rfl (zC rfl rfl rfl rfl (zC rfl rfl rfl rfl (zC rfl rfl rfl rfl (zC rfl rfl rfl rfl (zC rfl rfl rfl rfl (zC rfl rfl rfl rfl (zC rfl rfl rfl rfl (zC rfl rfl rfl rfl (zC rfl rfl rfl rfl (zC rfl rfl rfl rfl (zC rfl rfl rfl rfl (zC rfl rfl rfl rfl (zC rfl rfl rfl rfl (zC rfl rfl rfl rfl (trivial))))))))))))))))), trivial⟩
      · rintro p12 rfl
        change awp _ _ _ _ _ ⟨_, _, _, _⟩
        refine awp_seq ?_
        refine awp_region ?_
        refine rvs 3 rfl ?_
        refine rs rfl rfl rfl rfl rfl rfl rfl ?_
        refine rn ?_
        refine awp_seq ?_
        refine awp_region ?_
        refine rv rfl rfl ?_
        obtain ⟨x13, hx26, h⟩ := bi h
        refine rh [0] rfl rfl (dref06_P_val_l hx26) rfl rfl rfl (zC rfl rfl rfl rfl (zC rfl rfl rfl rfl (zC rfl rfl rfl rfl (trivial)))) (trivial) ?_
        refine ek ?_
        refine as1 rfl ?_
        refine ae rfl rfl rfl ?_
        refine ra rfl rfl rfl ?_
        refine rs rfl rfl rfl rfl rfl rfl rfl ?_
        refine rn ?_
        refine awp_seq ?_
        refine awp_region ?_
        refine rvs 3 rfl ?_
        refine rbs false rfl rfl rfl rfl rfl rfl rfl rfl rfl rfl ?_
        obtain ⟨l7, hx27, h⟩ := bi h
        refine rap false (z := 4) (xs := [].map c_tAttr) (ys := [x13.1].map c_tAttr) rfl rfl rfl rfl rfl rfl rfl (.nil rfl) (.sl rfl rfl rfl) (wM (fun _ => by rfl) _) (oM (fun _ => by rfl) _) (apB c_tAttr rfl hx27) rfl ?_
        refine rk (congrArg (Kind.row _) (apM c_tAttr hx27)) ?_
        refine rv rfl rfl ?_
        refine rs rfl rfl rfl rfl rfl rfl rfl ?_
        refine rn ?_
        refine awp_seq ?_
        refine awp_region ?_
        refine rv rfl rfl ?_
        refine rs rfl rfl rfl rfl rfl rfl rfl ?_
        refine rn ?_
        refine awp_ret ?_
        have h := Option.some.inj h
        subst h
        repeat (first | refine then_ret ?_ | refine inBlock_ret ?_ | refine cut_r ?_)
        exact rrA (r := .agg [.int .i64 4, .str (sB x1.1.S), .str (sB x11.1.S), .sl (l7.map c_tAttr), .sl (cs_tFilter ([] : List tFilter))]) [0] [(0, 0, .sl (x13.2.L.map c_tref06Token)), (0, 1, .int .i64 x13.2.At), (0, 2, .bool x13.2.Bad)] [] rfl rfl rfl rfl (zC rfl rfl rfl rfl (zC rfl rfl rfl rfl (zC rfl rfl rfl rfl (trivial)))) (trivial) ⟨rfl, rfl, rfl, rfl⟩
end

/-- `plover/ploverref06.add` -/
def dref06_add (fu : Nat) (f1 : tFilter) (x1 : tFilter) : Option tFilter :=
  match f1 with | .mk kind1 name1 op1 vals1 l1 => match x1 with | .mk kind2 name2 op2 vals2 l2 => bif (kind2 == kind1) then ((ap [] l1).bind fun l3 => (ap l3 l2).bind fun l4 => some (tFilter.mk kind1 name1 op1 vals1 l4)) else ((ap [] l1).bind fun l5 => (ap l5 [(tFilter.mk kind2 name2 op2 vals2 l2)]).bind fun l6 => some (tFilter.mk kind1 name1 op1 vals1 l6))
section
attribute [local irreducible] awp aops DP PCall ACall Decidable.decide
theorem dref06_add_l {fu : Nat} {f1 : tFilter} {x1 : tFilter} {r : tFilter} (h : dref06_add fu f1 x1 = some r) : PCall Tryz.prog 35 [.agg (c_tFilter f1), .agg (c_tFilter x1)] (· = .agg (c_tFilter r)) := by
  obtain ⟨kind1, name1, op1, vals1, l1⟩ := f1
  obtain ⟨kind2, name2, op2, vals2, l2⟩ := x1
  rw [dref06_add] at h
  refine pcall_body Tryz.func35 rfl (by kernel_rfl) (by rfl) ?_
  refine awp_seq ?_
  refine awp_region ?_
  refine rb rfl rfl ?_
  refine rb rfl rfl ?_
  refine ra rfl rfl rfl ?_
  refine rn ?_
  refine awp_seq ?_
  refine awp_seq ?_
  refine awp_region ?_
  refine rvs 5 rfl ?_
  refine rn ?_
  refine cs_ rfl (fun hc => ?_) (fun hc => ?_)
  · have h := cT hc h
    refine awp_seq ?_
    refine awp_dx (m := 8) [] Tryz.mix (by kernel_rfl) (by kernel_rfl) (by kernel_rfl) (by kernel_rfl) (by kernel_rfl) (by kernel_rfl) ?_
    refine xE [] (.own 3) 4 _ _ rfl rfl (by
        refine rbs false rfl rfl rfl rfl rfl rfl rfl rfl rfl rfl ?_
        exact rn ⟨rfl, rfl⟩) (by rfl) (by rfl) (by rfl) ?_
    refine xv [] rfl rfl (fun _ => rfl) ?_
    refine xv [0] rfl rfl (fun _ => rfl) ?_
    obtain ⟨l3, hx1, h⟩ := bi h
    refine xE [3] (.own 4) 5 _ _ rfl rfl (by
        refine rap false (z := 5) (xs := cs_tFilter []) (ys := cs_tFilter l1) rfl rfl rfl rfl rfl rfl rfl (.own rfl rfl) (.sl rfl rfl rfl) (wM_tFilter _) (oM_tFilter _) (apB_tFilter rfl hx1) rfl ?_
        refine rk (congrArg (Kind.row _) (apM_tFilter hx1)) ?_
        exact rn ⟨rfl, rfl⟩) (by rfl) (by rfl) (by rfl) ?_
    refine xv [] rfl rfl (fun _ => rfl) ?_
    refine xv [1] rfl rfl (fun _ => rfl) ?_
    obtain ⟨l4, hx2, h⟩ := bi h
    refine xE [4] (.own 5) 6 _ _ rfl rfl (by
        refine rap false (z := 5) (xs := cs_tFilter l3) (ys := cs_tFilter l2) rfl rfl rfl rfl rfl rfl rfl (.own rfl rfl) (.sl rfl rfl rfl) (wM_tFilter _) (oM_tFilter _) (apB_tFilter rfl hx2) rfl ?_
        refine rk (congrArg (Kind.row _) (apM_tFilter hx2)) ?_
        exact rn ⟨rfl, rfl⟩) (by rfl) (by rfl) (by rfl) ?_
    refine xv [] rfl rfl (fun _ => rfl) ?_
    refine xn (by kernel_rfl) ?_
    refine rs rfl rfl rfl rfl rfl rfl rfl ?_
    refine rn ?_
    refine awp_seq ?_
    refine awp_region ?_
    refine rv rfl rfl ?_
    refine rs rfl rfl rfl rfl rfl rfl rfl ?_
    refine rn ?_
    refine awp_ret ?_
    cases h
    repeat (first | refine then_ret ?_ | refine inBlock_ret ?_ | refine cut_r ?_)
    exact rr rfl rfl rfl
  · have h := cF hc h
    refine awp_skip ?_
    refine awp_seq ?_
    refine awp_dx (m := 8) [] Tryz.mix (by kernel_rfl) (by kernel_rfl) (by kernel_rfl) (by kernel_rfl) (by kernel_rfl) (by kernel_rfl) ?_
    refine xE [] (.own 3) 4 _ _ rfl rfl (by
        refine rbs false rfl rfl rfl rfl rfl rfl rfl rfl rfl rfl ?_
        exact rn ⟨rfl, rfl⟩) (by rfl) (by rfl) (by rfl) ?_
    refine xv [] rfl rfl (fun _ => rfl) ?_
    refine xv [0] rfl rfl (fun _ => rfl) ?_
    obtain ⟨l5, hx3, h⟩ := bi h
    refine xE [3] (.own 4) 5 _ _ rfl rfl (by
        refine rap false (z := 5) (xs := cs_tFilter []) (ys := cs_tFilter l1) rfl rfl rfl rfl rfl rfl rfl (.own rfl rfl) (.sl rfl rfl rfl) (wM_tFilter _) (oM_tFilter _) (apB_tFilter rfl hx3) rfl ?_
        refine rk (congrArg (Kind.row _) (apM_tFilter hx3)) ?_
        exact rn ⟨rfl, rfl⟩) (by rfl) (by rfl) (by rfl) ?_
    refine xv [1] rfl rfl (fun _ => rfl) ?_
    refine xE [] (.own 5) 6 _ _ rfl rfl (by
        refine rbs false rfl rfl rfl rfl rfl rfl rfl rfl rfl rfl ?_
        exact rn ⟨rfl, rfl⟩) (by rfl) (by rfl) (by rfl) ?_
    obtain ⟨l6, hx4, h⟩ := bi h
    refine xE [4, 5] (.own 6) 7 _ _ rfl rfl (by
        refine rap false (z := 5) (xs := cs_tFilter l5) (ys := cs_tFilter [(tFilter.mk kind2 name2 op2 vals2 l2)]) rfl rfl rfl rfl rfl rfl rfl (.own rfl rfl) (.sl rfl rfl rfl) (wM_tFilter _) (oM_tFilter _) (apB_tFilter rfl hx4) rfl ?_
        refine rk (congrArg (Kind.row _) (apM_tFilter hx4)) ?_
        exact rn ⟨rfl, rfl⟩) (by rfl) (by rfl) (by rfl) ?_
    refine xv [] rfl rfl (fun _ => rfl) ?_
    refine xn (by kernel_rfl) ?_
    refine rs rfl rfl rfl rfl rfl rfl rfl ?_
    refine rn ?_
    refine awp_seq ?_
    refine awp_region ?_
    refine rv rfl rfl ?_
    refine rs rfl rfl rfl rfl rfl rfl rfl ?_
    refine rn ?_
    refine awp_ret ?_
    cases h
    repeat (first | refine then_ret ?_ | refine inBlock_ret ?_ | refine cut_r ?_)
    exact rr rfl rfl rfl
end

mutual
def dref06_P_not : Nat → tref06P → Option (tFilter × tref06P)
  | 0, _ => none
  | fu + 1, p1 => (dref06_P_takes fu p1 [110, 111, 116]).bind fun x1 => bif x1.1 then ((dref06_P_not fu x1.2).bind fun x2 => match x2 with | (.mk kind1 name1 op1 vals1 l1, x3) => some ((tFilter.mk 3 [] [] [] [(tFilter.mk kind1 name1 op1 vals1 l1)]), x3)) else ((dref06_P_takes fu x1.2 [40]).bind fun x4 => bif x4.1 then ((dref06_P_or fu x4.2).bind fun x5 => match x5 with | (.mk kind2 name2 op2 vals2 l2, x6) => (dref06_P_must fu x6 [41]).bind fun x7 => some ((tFilter.mk kind2 name2 op2 vals2 l2), x7)) else ((dref06_P_takes fu x4.2 [116, 114, 117, 101]).bind fun x8 => bif x8.1 then some ((tFilter.mk 7 [] [] [] []), x8.2) else ((dref06_P_leafy fu x8.2).bind fun x9 => match x9 with | (.mk kind3 name3 op3 vals3 l3, x10) => some ((tFilter.mk kind3 name3 op3 vals3 l3), x10))))
def dref06_P_and : Nat → tref06P → Option (tFilter × tref06P)
  | 0, _ => none
  | fu + 1, p1 => (dref06_P_not fu p1).bind fun x1 => match x1 with | (.mk kind1 name1 op1 vals1 l1, x2) => (dref06_add fu (tFilter.mk 1 [] [] [] []) (tFilter.mk kind1 name1 op1 vals1 l1)).bind fun x3 => match x3 with | .mk kind2 name2 op2 vals2 l2 => (loopD (ε := Int × (List tref06Token) × Int × Bool × Int × Str × Str × (List tAttr) × (List tFilter)) (τ := Int × (List tref06Token) × Int × Bool × Int × Str × Str × (List tAttr) × (List tFilter)) (fun (((n1, p2, p3, p4, f1, f2, f3, f4, f5)) : Int × (List tref06Token) × Int × Bool × Int × Str × Str × (List tAttr) × (List tFilter)) => ((dref06_P_takes fu (tref06P.mk p2 p3 p4) [97, 110, 100]).bind fun x7 => bif x7.1 then ((dref06_P_not fu x7.2).bind fun x8 => match x8 with | (.mk kind3 name3 op3 vals3 l3, x9) => (dref06_add fu (tFilter.mk f1 f2 f3 f4 f5) (tFilter.mk kind3 name3 op3 vals3 l3)).bind fun x10 => match x10 with | .mk kind4 name4 op4 vals4 l4 => some (Sum.inl (W (n1 + 1), x9.L, x9.At, x9.Bad, kind4, name4, op4, vals4, l4))) else some (Sum.inr (n1, x7.2.L, x7.2.At, x7.2.Bad, f1, f2, f3, f4, f5)))) fu (0, x2.L, x2.At, x2.Bad, kind2, name2, op2, vals2, l2)).bind fun (((n3, x4, x5, x6, f11, f12, f13, f14, f15)) : Int × (List tref06Token) × Int × Bool × Int × Str × Str × (List tAttr) × (List tFilter)) => (bif (n3 == 0) then some ((tFilter.mk kind1 name1 op1 vals1 l1), (tref06P.mk x4 x5 x6)) else some ((tFilter.mk f11 f12 f13 f14 f15), (tref06P.mk x4 x5 x6)))
def dref06_P_or : Nat → tref06P → Option (tFilter × tref06P)
  | 0, _ => none
  | fu + 1, p1 => (dref06_P_and fu p1).bind fun x1 => match x1 with | (.mk kind1 name1 op1 vals1 l1, x2) => (dref06_add fu (tFilter.mk 2 [] [] [] []) (tFilter.mk kind1 name1 op1 vals1 l1)).bind fun x3 => match x3 with | .mk kind2 name2 op2 vals2 l2 => (loopD (ε := Int × (List tref06Token) × Int × Bool × Int × Str × Str × (List tAttr) × (List tFilter)) (τ := Int × (List tref06Token) × Int × Bool × Int × Str × Str × (List tAttr) × (List tFilter)) (fun (((n1, p2, p3, p4, f1, f2, f3, f4, f5)) : Int × (List tref06Token) × Int × Bool × Int × Str × Str × (List tAttr) × (List tFilter)) => ((dref06_P_takes fu (tref06P.mk p2 p3 p4) [111, 114]).bind fun x7 => bif x7.1 then ((dref06_P_and fu x7.2).bind fun x8 => match x8 with | (.mk kind3 name3 op3 vals3 l3, x9) => (dref06_add fu (tFilter.mk f1 f2 f3 f4 f5) (tFilter.mk kind3 name3 op3 vals3 l3)).bind fun x10 => match x10 with | .mk kind4 name4 op4 vals4 l4 => some (Sum.inl (W (n1 + 1), x9.L, x9.At, x9.Bad, kind4, name4, op4, vals4, l4))) else some (Sum.inr (n1, x7.2.L, x7.2.At, x7.2.Bad, f1, f2, f3, f4, f5)))) fu (0, x2.L, x2.At, x2.Bad, kind2, name2, op2, vals2, l2)).bind fun (((n3, x4, x5, x6, f11, f12, f13, f14, f15)) : Int × (List tref06Token) × Int × Bool × Int × Str × Str × (List tAttr) × (List tFilter)) => (bif (n3 == 0) then some ((tFilter.mk kind1 name1 op1 vals1 l1), (tref06P.mk x4 x5 x6)) else some ((tFilter.mk f11 f12 f13 f14 f15), (tref06P.mk x4 x5 x6)))
end
section
attribute [local irreducible] awp aops DP PCall ACall Decidable.decide
/-- `(*plover/ploverref06.P).not` -/
theorem dref06_P_not_s {fu : Nat} (ih_dref06_P_not : ∀ {p1} {r : tFilter × tref06P}, dref06_P_not fu p1 = some r → ACall Tryz.prog 60 1 [.ptr 0 0] [(0, 0, .sl (p1.L.map c_tref06Token)), (0, 1, .int .i64 p1.At), (0, 2, .bool p1.Bad)] [] (fun r_ H_ O_ n_ => r_ = .agg (c_tFilter r.1) ∧ H_ = [(0, 0, .sl (r.2.L.map c_tref06Token)), (0, 1, .int .i64 r.2.At), (0, 2, .bool r.2.Bad)] ∧ O_ = [] ∧ n_ = 1)) (ih_dref06_P_and : ∀ {p1} {r : tFilter × tref06P}, dref06_P_and fu p1 = some r → ACall Tryz.prog 34 1 [.ptr 0 0] [(0, 0, .sl (p1.L.map c_tref06Token)), (0, 1, .int .i64 p1.At), (0, 2, .bool p1.Bad)] [] (fun r_ H_ O_ n_ => r_ = .agg (c_tFilter r.1) ∧ H_ = [(0, 0, .sl (r.2.L.map c_tref06Token)), (0, 1, .int .i64 r.2.At), (0, 2, .bool r.2.Bad)] ∧ O_ = [] ∧ n_ = 1)) (ih_dref06_P_or : ∀ {p1} {r : tFilter × tref06P}, dref06_P_or fu p1 = some r → ACall Tryz.prog 19 1 [.ptr 0 0] [(0, 0, .sl (p1.L.map c_tref06Token)), (0, 1, .int .i64 p1.At), (0, 2, .bool p1.Bad)] [] (fun r_ H_ O_ n_ => r_ = .agg (c_tFilter r.1) ∧ H_ = [(0, 0, .sl (r.2.L.map c_tref06Token)), (0, 1, .int .i64 r.2.At), (0, 2, .bool r.2.Bad)] ∧ O_ = [] ∧ n_ = 1)) : ∀ {p1} {r : tFilter × tref06P}, dref06_P_not (fu + 1) p1 = some r → ACall Tryz.prog 60 1 [.ptr 0 0] [(0, 0, .sl (p1.L.map c_tref06Token)), (0, 1, .int .i64 p1.At), (0, 2, .bool p1.Bad)] [] (fun r_ H_ O_ n_ => r_ = .agg (c_tFilter r.1) ∧ H_ = [(0, 0, .sl (r.2.L.map c_tref06Token)), (0, 1, .int .i64 r.2.At), (0, 2, .bool r.2.Bad)] ∧ O_ = [] ∧ n_ = 1) := by
  intro p1 r h
  rw [dref06_P_not] at h
  refine acall_body Tryz.func60 rfl (by kernel_rfl) (by rfl) ?_
  refine awp_seq ?_
  refine awp_region ?_
  refine ra rfl rfl rfl ?_
  refine rn ?_
  refine awp_seq ?_
  refine awp_seq ?_
  refine awp_region ?_
  refine rv rfl rfl ?_
  obtain ⟨x1, hx1, h⟩ := bi h
  refine rh [0] rfl rfl (dref06_P_takes_l hx1) rfl rfl rfl (zC rfl rfl rfl rfl (zC rfl rfl rfl rfl (zC rfl rfl rfl rfl (trivial)))) (trivial) ?_
  refine ek ?_
  refine as1 rfl ?_
  refine ae rfl rfl rfl ?_
  refine rn ?_
  refine cs_ rfl (fun hc => ?_) (fun hc => ?_)
  · have h := cT hc h
    refine awp_seq ?_
    refine awp_region ?_
    refine rv rfl rfl ?_
    obtain ⟨x2, hx2, h⟩ := bi h
    obtain ⟨⟨kind1, name1, op1, vals1, l1⟩, x3⟩ := x2
    refine rh [0] rfl rfl (ih_dref06_P_not hx2) rfl rfl rfl (zC rfl rfl rfl rfl (zC rfl rfl rfl rfl (zC rfl rfl rfl rfl (trivial)))) (trivial) ?_
    refine ek ?_
    refine as1 rfl ?_
    refine ae rfl rfl rfl ?_
    refine ra rfl rfl rfl ?_
    refine rs rfl rfl rfl rfl rfl rfl rfl ?_
    refine rn ?_
    refine awp_seq ?_
    refine awp_region ?_
    refine rv rfl rfl ?_
    refine rbs false rfl rfl rfl rfl rfl rfl rfl rfl rfl rfl ?_
    refine rv rfl rfl ?_
    refine rs rfl rfl rfl rfl rfl rfl rfl ?_
    refine rn ?_
    refine awp_ret ?_
    have h := Option.some.inj h
    subst h
    repeat (first | refine then_ret ?_ | refine inBlock_ret ?_ | refine cut_r ?_)
    exact rrA (r := .agg [.int .i64 3, .str (sB []), .str (sB []), .sl (([] : List tAttr).map c_tAttr), .sl (cs_tFilter [(tFilter.mk kind1 name1 op1 vals1 l1)])]) [0] [(0, 0, .sl (x3.L.map c_tref06Token)), (0, 1, .int .i64 x3.At), (0, 2, .bool x3.Bad)] [] rfl rfl rfl rfl (zC rfl rfl rfl rfl (zC rfl rfl rfl rfl (zC rfl rfl rfl rfl (trivial)))) (trivial) ⟨rfl, rfl, rfl, rfl⟩
  · have h := cF hc h
    refine awp_skip ?_
    refine awp_seq ?_
    refine awp_seq ?_
    refine awp_region ?_
    refine rv rfl rfl ?_
    obtain ⟨x4, hx3, h⟩ := bi h
    refine rh [0] rfl rfl (dref06_P_takes_l hx3) rfl rfl rfl (zC rfl rfl rfl rfl (zC rfl rfl rfl rfl (zC rfl rfl rfl rfl (trivial)))) (trivial) ?_
    refine ek ?_
    refine as1 rfl ?_
    refine ae rfl rfl rfl ?_
    refine rn ?_
    refine cs_ rfl (fun hc => ?_) (fun hc => ?_)
    · have h := cT hc h
      refine awp_seq ?_
      refine awp_region ?_
      refine rv rfl rfl ?_
      obtain ⟨x5, hx4, h⟩ := bi h
      obtain ⟨⟨kind2, name2, op2, vals2, l2⟩, x6⟩ := x5
      refine rh [0] rfl rfl (ih_dref06_P_or hx4) rfl rfl rfl (zC rfl rfl rfl rfl (zC rfl rfl rfl rfl (zC rfl rfl rfl rfl (trivial)))) (trivial) ?_
      refine ek ?_
      refine as1 rfl ?_
      refine ae rfl rfl rfl ?_
      refine ra rfl rfl rfl ?_
      refine rs rfl rfl rfl rfl rfl rfl rfl ?_
      refine rn ?_
      refine awp_seq ?_
      refine awp_region ?_
      refine rv rfl rfl ?_
      obtain ⟨x7, hx5, h⟩ := bi h
      refine rh [0] rfl rfl (dref06_P_must_l hx5) rfl rfl rfl (zC rfl rfl rfl rfl (zC rfl rfl rfl rfl (zC rfl rfl rfl rfl (trivial)))) (trivial) ?_
      refine ek ?_
      refine as1 rfl ?_
      refine ae rfl rfl rfl ?_
      refine rn ?_
      refine awp_seq ?_
      refine awp_region ?_
      refine rv rfl rfl ?_
      refine rs rfl rfl rfl rfl rfl rfl rfl ?_
      refine rn ?_
      refine awp_ret ?_
      have h := Option.some.inj h
      subst h
      repeat (first | refine then_ret ?_ | refine inBlock_ret ?_ | refine cut_r ?_)
      exact rrA (r := .agg [.int .i64 kind2, .str (sB name2), .str (sB op2), .sl (vals2.map c_tAttr), .sl (cs_tFilter l2)]) [0] [(0, 0, .sl (x7.L.map c_tref06Token)), (0, 1, .int .i64 x7.At), (0, 2, .bool x7.Bad)] [] rfl rfl rfl rfl (zC rfl rfl rfl rfl (zC rfl rfl rfl rfl (zC rfl rfl rfl rfl (trivial)))) (trivial) ⟨rfl, rfl, rfl, rfl⟩
    · have h := cF hc h
      refine awp_skip ?_
      refine awp_seq ?_
      refine awp_seq ?_
      refine awp_region ?_
      refine rv rfl rfl ?_
      obtain ⟨x8, hx6, h⟩ := bi h
      refine rh [0] rfl rfl (dref06_P_takes_l hx6) rfl rfl rfl (zC rfl rfl rfl rfl (zC rfl rfl rfl rfl (zC rfl rfl rfl rfl (trivial)))) (trivial) ?_
      refine ek ?_
      refine as1 rfl ?_
      refine ae rfl rfl rfl ?_
      refine rn ?_
      refine cs_ rfl (fun hc => ?_) (fun hc => ?_)
      · have h := cT hc h
        refine awp_seq ?_
        refine awp_region ?_
        refine rv rfl rfl ?_
        refine rs rfl rfl rfl rfl rfl rfl rfl ?_
        refine rn ?_
        refine awp_ret ?_
        have h := Option.some.inj h
        subst h
        repeat (first | refine then_ret ?_ | refine inBlock_ret ?_ | refine cut_r ?_)
        exact rrA (r := .agg [.int .i64 7, .str (sB []), .str (sB []), .sl (([] : List tAttr).map c_tAttr), .sl (cs_tFilter ([] : List tFilter))]) [0] [(0, 0, .sl (x8.2.L.map c_tref06Token)), (0, 1, .int .i64 x8.2.At), (0, 2, .bool x8.2.Bad)] [] rfl rfl rfl rfl (zC rfl rfl rfl rfl (zC rfl rfl rfl rfl (zC rfl rfl rfl rfl (trivial)))) (trivial) ⟨rfl, rfl, rfl, rfl⟩
      · have h := cF hc h
        refine awp_skip ?_
        refine awp_seq ?_
        refine awp_region ?_
        refine rv rfl rfl ?_
        obtain ⟨x9, hx7, h⟩ := bi h
        obtain ⟨⟨kind3, name3, op3, vals3, l3⟩, x10⟩ := x9
        refine rh [0] rfl rfl (dref06_P_leafy_l hx7) rfl rfl rfl (zC rfl rfl rfl rfl (zC rfl rfl rfl rfl (zC rfl rfl rfl rfl (trivial)))) (trivial) ?_
        refine ek ?_
        refine as1 rfl ?_
        refine ae rfl rfl rfl ?_
        refine rs rfl rfl rfl rfl rfl rfl rfl ?_
        refine rn ?_
        refine awp_ret ?_
        have h := Option.some.inj h
        subst h
        repeat (first | refine then_ret ?_ | refine inBlock_ret ?_ | refine cut_r ?_)
        exact rrA (r := .agg [.int .i64 kind3, .str (sB name3), .str (sB op3), .sl (vals3.map c_tAttr), .sl (cs_tFilter l3)]) [0] [(0, 0, .sl (x10.L.map c_tref06Token)), (0, 1, .int .i64 x10.At), (0, 2, .bool x10.Bad)] [] rfl rfl rfl rfl (zC rfl rfl rfl rfl (zC rfl rfl rfl rfl (zC rfl rfl rfl rfl (trivial)))) (trivial) ⟨rfl, rfl, rfl, rfl⟩
end

section
attribute [local irreducible] awp aops DP PCall ACall Decidable.decide
/-- `(*plover/ploverref06.P).and` -/
theorem dref06_P_and_s {fu : Nat} (ih_dref06_P_not : ∀ {p1} {r : tFilter × tref06P}, dref06_P_not fu p1 = some r → ACall Tryz.prog 60 1 [.ptr 0 0] [(0, 0, .sl (p1.L.map c_tref06Token)), (0, 1, .int .i64 p1.At), (0, 2, .bool p1.Bad)] [] (fun r_ H_ O_ n_ => r_ = .agg (c_tFilter r.1) ∧ H_ = [(0, 0, .sl (r.2.L.map c_tref06Token)), (0, 1, .int .i64 r.2.At), (0, 2, .bool r.2.Bad)] ∧ O_ = [] ∧ n_ = 1)) (ih_dref06_P_and : ∀ {p1} {r : tFilter × tref06P}, dref06_P_and fu p1 = some r → ACall Tryz.prog 34 1 [.ptr 0 0] [(0, 0, .sl (p1.L.map c_tref06Token)), (0, 1, .int .i64 p1.At), (0, 2, .bool p1.Bad)] [] (fun r_ H_ O_ n_ => r_ = .agg (c_tFilter r.1) ∧ H_ = [(0, 0, .sl (r.2.L.map c_tref06Token)), (0, 1, .int .i64 r.2.At), (0, 2, .bool r.2.Bad)] ∧ O_ = [] ∧ n_ = 1)) (ih_dref06_P_or : ∀ {p1} {r : tFilter × tref06P}, dref06_P_or fu p1 = some r → ACall Tryz.prog 19 1 [.ptr 0 0] [(0, 0, .sl (p1.L.map c_tref06Token)), (0, 1, .int .i64 p1.At), (0, 2, .bool p1.Bad)] [] (fun r_ H_ O_ n_ => r_ = .agg (c_tFilter r.1) ∧ H_ = [(0, 0, .sl (r.2.L.map c_tref06Token)), (0, 1, .int .i64 r.2.At), (0, 2, .bool r.2.Bad)] ∧ O_ = [] ∧ n_ = 1)) : ∀ {p1} {r : tFilter × tref06P}, dref06_P_and (fu + 1) p1 = some r → ACall Tryz.prog 34 1 [.ptr 0 0] [(0, 0, .sl (p1.L.map c_tref06Token)), (0, 1, .int .i64 p1.At), (0, 2, .bool p1.Bad)] [] (fun r_ H_ O_ n_ => r_ = .agg (c_tFilter r.1) ∧ H_ = [(0, 0, .sl (r.2.L.map c_tref06Token)), (0, 1, .int .i64 r.2.At), (0, 2, .bool r.2.Bad)] ∧ O_ = [] ∧ n_ = 1) := by
  intro p1 r h
  rw [dref06_P_and] at h
  refine acall_body Tryz.func34 rfl (by kernel_rfl) (by rfl) ?_
  refine awp_seq ?_
  refine awp_region ?_
  refine ra rfl rfl rfl ?_
  refine rn ?_
  refine awp_seq ?_
  refine awp_region ?_
  refine rv rfl rfl ?_
  obtain ⟨x1, hx1, h⟩ := bi h
  obtain ⟨⟨kind1, name1, op1, vals1, l1⟩, x2⟩ := x1
  refine rh [0] rfl rfl (ih_dref06_P_not hx1) rfl rfl rfl (zC rfl rfl rfl rfl (zC rfl rfl rfl rfl (zC rfl rfl rfl rfl (trivial)))) (trivial) ?_
  refine ek ?_
  refine as1 rfl ?_
  refine ae rfl rfl rfl ?_
  refine ra rfl rfl rfl ?_
  refine rs rfl rfl rfl rfl rfl rfl rfl ?_
  refine rn ?_
  refine awp_seq ?_
  refine awp_region ?_
  refine rvs 2 rfl ?_
  obtain ⟨x3, hx2, h⟩ := bi h
  refine rc1 rfl rfl rfl (dref06_add_l hx2) ?_
  obtain ⟨kind2, name2, op2, vals2, l2⟩ := x3
  refine ra rfl rfl rfl ?_
  refine rs rfl rfl rfl rfl rfl rfl rfl ?_
  refine rn ?_
  refine awp_seq ?_
  refine awp_region ?_
  refine rv rfl rfl ?_
  refine rn ?_
  refine awp_seq ?_
  obtain ⟨e3, hl4, h⟩ := bi h
  refine awp_cut1 (fun x => x = e3) (fun (((n3, x4, x5, x6, f11, f12, f13, f14, f15)) : Int × (List tref06Token) × Int × Bool × Int × Str × Str × (List tAttr) × (List tFilter)) => ⟨[(2, .ptr 1 0), (3, .ptr 2 0), (4, .ptr 3 0), (5, .int .i64 n3)], [(0, 0, .sl (x4.map c_tref06Token)), (0, 1, .int .i64 x5), (0, 2, .bool x6), (1, 0, .int .i64 0), (1, 1, .str (sB [])), (1, 2, .str (sB [])), (1, 3, .nilS), (1, 4, .nilS), (2, 0, .int .i64 kind1), (2, 1, .str (sB name1)), (2, 2, .str (sB op1)), (2, 3, .sl (vals1.map c_tAttr)), (2, 4, .sl (cs_tFilter l1)), (3, 0, .int .i64 f11), (3, 1, .str (sB f12)), (3, 2, .str (sB f13)), (3, 3, .sl (f14.map c_tAttr)), (3, 4, .sl (cs_tFilter f15))], [], 4⟩) ?_ ?_
  · refine awp_block ?_
    refine awp_loopD hl4 (fun (((n1, p2, p3, p4, f1, f2, f3, f4, f5)) : Int × (List tref06Token) × Int × Bool × Int × Str × Str × (List tAttr) × (List tFilter)) => ⟨[(0, .ptr 0 0), (2, .ptr 1 0), (3, .ptr 2 0), (4, .ptr 3 0), (5, .int .i64 n1)], [(0, 0, .sl (p2.map c_tref06Token)), (0, 1, .int .i64 p3), (0, 2, .bool p4), (1, 0, .int .i64 0), (1, 1, .str (sB [])), (1, 2, .str (sB [])), (1, 3, .nilS), (1, 4, .nilS), (2, 0, .int .i64 kind1), (2, 1, .str (sB name1)), (2, 2, .str (sB op1)), (2, 3, .sl (vals1.map c_tAttr)), (2, 4, .sl (cs_tFilter l1)), (3, 0, .int .i64 f1), (3, 1, .str (sB f2)), (3, 2, .str (sB f3)), (3, 3, .sl (f4.map c_tAttr)), (3, 4, .sl (cs_tFilter f5))], [], 4⟩) [0, 1, 2, 3] rfl ⟨rfl, rfl, zA rfl rfl rfl (zA rfl rfl rfl (zA rfl rfl rfl (zA rfl rfl rfl (zA rfl rfl rfl (trivial))))), zC rfl rfl rfl rfl (zC rfl rfl rfl rfl (zC rfl rfl rfl rfl (zC rfl rfl rfl rfl (zC rfl rfl rfl rfl (zC rfl rfl rfl rfl (zC rfl rfl rfl rfl (zC rfl rfl rfl rfl (zC rfl rfl rfl rfl (zC rfl rfl rfl rfl (zC rfl rfl rfl rfl (zC rfl rfl rfl rfl (zC rfl rfl rfl rfl (zC rfl rfl rfl rfl (zC rfl rfl rfl rfl (zC rfl rfl rfl rfl (zC rfl rfl rfl rfl (zC rfl rfl rfl rfl (trivial)))))))))))))))))), trivial⟩ ?_
    intro v o7 ho5 hE6
    obtain ⟨n1, p2, p3, p4, f1, f2, f3, f4, f5⟩ := v
    change awp _ _ _ _ _ ⟨_, _, _, _⟩
    refine awp_seq ?_
    refine awp_seq ?_
    refine awp_region ?_
    refine rv rfl rfl ?_
    obtain ⟨x7, hx8, ho5⟩ := bi ho5
    refine rh [0] rfl rfl (dref06_P_takes_l hx8) rfl rfl rfl (zC rfl rfl rfl rfl (zC rfl rfl rfl rfl (zC rfl rfl rfl rfl (trivial)))) (trivial) ?_
    refine ek ?_
    refine as1 rfl ?_
    refine ae rfl rfl rfl ?_
    refine rn ?_
    refine cs_ rfl (fun hc => ?_) (fun hc => ?_)
    · have ho5 := cT hc ho5
      refine awp_skip ?_
      refine awp_block ?_
      refine awp_seq ?_
      refine awp_region ?_
      refine rv rfl rfl ?_
      obtain ⟨x8, hx9, ho5⟩ := bi ho5
      obtain ⟨⟨kind3, name3, op3, vals3, l3⟩, x9⟩ := x8
      refine rh [0] rfl rfl (ih_dref06_P_not hx9) rfl rfl rfl (zC rfl rfl rfl rfl (zC rfl rfl rfl rfl (zC rfl rfl rfl rfl (trivial)))) (trivial) ?_
      refine ek ?_
      refine as1 rfl ?_
      refine ae rfl rfl rfl ?_
      refine ra rfl rfl rfl ?_
      refine rs rfl rfl rfl rfl rfl rfl rfl ?_
      refine rn ?_
      refine awp_seq ?_
      refine awp_region ?_
      refine rvs 2 rfl ?_
      obtain ⟨x10, hx10, ho5⟩ := bi ho5
      refine rc1 rfl rfl rfl (dref06_add_l hx10) ?_
      obtain ⟨kind4, name4, op4, vals4, l4⟩ := x10
      refine rs rfl rfl rfl rfl rfl rfl rfl ?_
      refine rn ?_
      refine awp_region ?_
      refine rvs 3 rfl ?_
      refine rn ?_
      refine inBlock_normal ?_
      cases ho5
      exact lp_n [0, 1, 2, 3] rfl rfl ⟨rfl, rfl, zA rfl rfl rfl (zA rfl rfl rfl (zA rfl rfl rfl (zA rfl rfl rfl (zA rfl rfl rfl (trivial))))), zC rfl rfl rfl rfl (zC rfl rfl rfl rfl (zC rfl rfl rfl rfl (zC rfl rfl rfl rfl (zC rfl rfl rfl rfl (zC rfl rfl rfl rfl (zC rfl rfl rfl rfl (zC rfl rfl rfl rfl (zC rfl rfl rfl rfl (zC rfl rfl rfl rfl (zC rfl rfl rfl rfl (zC rfl rfl rfl rfl (zC rfl rfl rfl rfl (zC rfl rfl rfl rfl (zC rfl rfl rfl rfl (zC rfl rfl rfl rfl (zC rfl rfl rfl rfl (zC rfl rfl rfl rfl (trivial)))))))))))))))))), trivial⟩
    · have ho5 := cF hc ho5
      refine awp_exit ?_
      repeat (first | refine then_exit ?_ | refine cut_x ?_ | refine inBlock_other rfl ?_)
      refine inBlock_exit ?_
      cases ho5
      have hq := hE6 _ rfl
      subst hq
      exact cut_n [0, 1, 2, 3] rfl rfl ⟨rfl, rfl, zA rfl rfl rfl (zA rfl rfl rfl (zA rfl rfl rfl (zA rfl rfl rfl (trivial)))), zC rfl rfl rfl rfl (zC rfl rfl rfl rfl (zC rfl rfl rfl rfl (zC rfl rfl rfl rfl (zC rfl rfl rfl rfl (zC rfl rfl rfl rfl (zC rfl rfl rfl rfl (zC rfl rfl rfl rfl (zC rfl rfl rfl rfl (zC rfl rfl rfl rfl (zC rfl rfl rfl rfl (zC rfl rfl rfl rfl (zC rfl rfl rfl rfl (zC rfl rfl rfl rfl (zC rfl rfl rfl rfl (zC rfl rfl rfl rfl (zC rfl rfl rfl rfl (zC rfl rfl rfl rfl (trivial)))))))))))))))))), trivial⟩
  · rintro ⟨n3, x4, x5, x6, f11, f12, f13, f14, f15⟩ rfl
    change awp _ _ _ _ _ ⟨_, _, _, _⟩
    refine awp_seq ?_
    refine awp_seq ?_
    refine awp_region ?_
    refine rvs 2 rfl ?_
    refine rn ?_
    refine cs_ rfl (fun hc => ?_) (fun hc => ?_)
    · have h := cT hc h
      refine awp_seq ?_
      refine awp_region ?_
      refine rv rfl rfl ?_
      refine rs rfl rfl rfl rfl rfl rfl rfl ?_
      refine rn ?_
      refine awp_ret ?_
      have h := Option.some.inj h
      subst h
      repeat (first | refine then_ret ?_ | refine inBlock_ret ?_ | refine cut_r ?_)
      exact rrA (r := .agg [.int .i64 kind1, .str (sB name1), .str (sB op1), .sl (vals1.map c_tAttr), .sl (cs_tFilter l1)]) [0] [(0, 0, .sl (x4.map c_tref06Token)), (0, 1, .int .i64 x5), (0, 2, .bool x6)] [] rfl rfl rfl rfl (zC rfl rfl rfl rfl (zC rfl rfl rfl rfl (zC rfl rfl rfl rfl (trivial)))) (trivial) ⟨rfl, rfl, rfl, rfl⟩
    · have h := cF hc h
      refine awp_skip ?_
      refine awp_seq ?_
      refine awp_region ?_
      refine rv rfl rfl ?_
      refine rs rfl rfl rfl rfl rfl rfl rfl ?_
      refine rn ?_
      refine awp_ret ?_
      have h := Option.some.inj h
      subst h
      repeat (first | refine then_ret ?_ | refine inBlock_ret ?_ | refine cut_r ?_)
      exact rrA (r := .agg [.int .i64 f11, .str (sB f12), .str (sB f13), .sl (f14.map c_tAttr), .sl (cs_tFilter f15)]) [0] [(0, 0, .sl (x4.map c_tref06Token)), (0, 1, .int .i64 x5), (0, 2, .bool x6)] [] rfl rfl rfl rfl (zC rfl rfl rfl rfl (zC rfl rfl rfl rfl (zC rfl rfl rfl rfl (trivial)))) (trivial) ⟨rfl, rfl, rfl, rfl⟩
end

section
attribute [local irreducible] awp aops DP PCall ACall Decidable.decide
/-- `(*plover/ploverref06.P).or` -/
theorem dref06_P_or_s {fu : Nat} (ih_dref06_P_not : ∀ {p1} {r : tFilter × tref06P}, dref06_P_not fu p1 = some r → ACall Tryz.prog 60 1 [.ptr 0 0] [(0, 0, .sl (p1.L.map c_tref06Token)), (0, 1, .int .i64 p1.At), (0, 2, .bool p1.Bad)] [] (fun r_ H_ O_ n_ => r_ = .agg (c_tFilter r.1) ∧ H_ = [(0, 0, .sl (r.2.L.map c_tref06Token)), (0, 1, .int .i64 r.2.At), (0, 2, .bool r.2.Bad)] ∧ O_ = [] ∧ n_ = 1)) (ih_dref06_P_and : ∀ {p1} {r : tFilter × tref06P}, dref06_P_and fu p1 = some r → ACall Tryz.prog 34 1 [.ptr 0 0] [(0, 0, .sl (p1.L.map c_tref06Token)), (0, 1, .int .i64 p1.At), (0, 2, .bool p1.Bad)] [] (fun r_ H_ O_ n_ => r_ = .agg (c_tFilter r.1) ∧ H_ = [(0, 0, .sl (r.2.L.map c_tref06Token)), (0, 1, .int .i64 r.2.At), (0, 2, .bool r.2.Bad)] ∧ O_ = [] ∧ n_ = 1)) (ih_dref06_P_or : ∀ {p1} {r : tFilter × tref06P}, dref06_P_or fu p1 = some r → ACall Tryz.prog 19 1 [.ptr 0 0] [(0, 0, .sl (p1.L.map c_tref06Token)), (0, 1, .int .i64 p1.At), (0, 2, .bool p1.Bad)] [] (fun r_ H_ O_ n_ => r_ = .agg (c_tFilter r.1) ∧ H_ = [(0, 0, .sl (r.2.L.map c_tref06Token)), (0, 1, .int .i64 r.2.At), (0, 2, .bool r.2.Bad)] ∧ O_ = [] ∧ n_ = 1)) : ∀ {p1} {r : tFilter × tref06P}, dref06_P_or (fu + 1) p1 = some r → ACall Tryz.prog 19 1 [.ptr 0 0] [(0, 0, .sl (p1.L.map c_tref06Token)), (0, 1, .int .i64 p1.At), (0, 2, .bool p1.Bad)] [] (fun r_ H_ O_ n_ => r_ = .agg (c_tFilter r.1) ∧ H_ = [(0, 0, .sl (r.2.L.map c_tref06Token)), (0, 1, .int .i64 r.2.At), (0, 2, .bool r.2.Bad)] ∧ O_ = [] ∧ n_ = 1) := by
  intro p1 r h
  rw [dref06_P_or] at h
  refine acall_body Tryz.func19 rfl (by kernel_rfl) (by rfl) ?_
  refine awp_seq ?_
  refine awp_region ?_
  refine ra rfl rfl rfl ?_
  refine rn ?_
  refine awp_seq ?_
  refine awp_region ?_
  refine rv rfl rfl ?_
  obtain ⟨x1, hx1, h⟩ := bi h
  obtain ⟨⟨kind1, name1, op1, vals1, l1⟩, x2⟩ := x1
  refine rh [0] rfl rfl (ih_dref06_P_and hx1) rfl rfl rfl (zC rfl rfl rfl rfl (zC rfl rfl rfl rfl (zC rfl rfl rfl rfl (trivial)))) (trivial) ?_
  refine ek ?_
  refine as1 rfl ?_
  refine ae rfl rfl rfl ?_
  refine ra rfl rfl rfl ?_
  refine rs rfl rfl rfl rfl rfl rfl rfl ?_
  refine rn ?_
  refine awp_seq ?_
  refine awp_region ?_
  refine rvs 2 rfl ?_
  obtain ⟨x3, hx2, h⟩ := bi h
  refine rc1 rfl rfl rfl (dref06_add_l hx2) ?_
  obtain ⟨kind2, name2, op2, vals2, l2⟩ := x3
  refine ra rfl rfl rfl ?_
  refine rs rfl rfl rfl rfl rfl rfl rfl ?_
  refine rn ?_
  refine awp_seq ?_
  refine awp_region ?_
  refine rv rfl rfl ?_
  refine rn ?_
  refine awp_seq ?_
  obtain ⟨e3, hl4, h⟩ := bi h
  refine awp_cut1 (fun x => x = e3) (fun (((n3, x4, x5, x6, f11, f12, f13, f14, f15)) : Int × (List tref06Token) × Int × Bool × Int × Str × Str × (List tAttr) × (List tFilter)) => ⟨[(2, .ptr 1 0), (3, .ptr 2 0), (4, .ptr 3 0), (5, .int .i64 n3)], [(0, 0, .sl (x4.map c_tref06Token)), (0, 1, .int .i64 x5), (0, 2, .bool x6), (1, 0, .int .i64 0), (1, 1, .str (sB [])), (1, 2, .str (sB [])), (1, 3, .nilS), (1, 4, .nilS), (2, 0, .int .i64 kind1), (2, 1, .str (sB name1)), (2, 2, .str (sB op1)), (2, 3, .sl (vals1.map c_tAttr)), (2, 4, .sl (cs_tFilter l1)), (3, 0, .int .i64 f11), (3, 1, .str (sB f12)), (3, 2, .str (sB f13)), (3, 3, .sl (f14.map c_tAttr)), (3, 4, .sl (cs_tFilter f15))], [], 4⟩) ?_ ?_
  · refine awp_block ?_
    refine awp_loopD hl4 (fun (((n1, p2, p3, p4, f1, f2, f3, f4, f5)) : Int × (List tref06Token) × Int × Bool × Int × Str × Str × (List tAttr) × (List tFilter)) => ⟨[(0, .ptr 0 0), (2, .ptr 1 0), (3, .ptr 2 0), (4, .ptr 3 0), (5, .int .i64 n1)], [(0, 0, .sl (p2.map c_tref06Token)), (0, 1, .int .i64 p3), (0, 2, .bool p4), (1, 0, .int .i64 0), (1, 1, .str (sB [])), (1, 2, .str (sB [])), (1, 3, .nilS), (1, 4, .nilS), (2, 0, .int .i64 kind1), (2, 1, .str (sB name1)), (2, 2, .str (sB op1)), (2, 3, .sl (vals1.map c_tAttr)), (2, 4, .sl (cs_tFilter l1)), (3, 0, .int .i64 f1), (3, 1, .str (sB f2)), (3, 2, .str (sB f3)), (3, 3, .sl (f4.map c_tAttr)), (3, 4, .sl (cs_tFilter f5))], [], 4⟩) [0, 1, 2, 3] rfl ⟨rfl, rfl, zA rfl rfl rfl (zA rfl rfl rfl (zA rfl rfl rfl (zA rfl rfl rfl (zA rfl rfl rfl (trivial))))), zC rfl rfl rfl rfl (zC rfl rfl rfl rfl (zC rfl rfl rfl rfl (zC rfl rfl rfl rfl (zC rfl rfl rfl rfl (zC rfl rfl rfl rfl (zC rfl rfl rfl rfl (zC rfl rfl rfl rfl (zC rfl rfl rfl rfl (zC rfl rfl rfl rfl (zC rfl rfl rfl rfl (zC rfl rfl rfl rfl (zC rfl rfl rfl rfl (zC rfl rfl rfl rfl (zC rfl rfl rfl rfl (zC rfl rfl rfl rfl (zC rfl rfl rfl rfl (zC rfl rfl rfl rfl (trivial)))))))))))))))))), trivial⟩ ?_
    intro v o7 ho5 hE6
    obtain ⟨n1, p2, p3, p4, f1, f2, f3, f4, f5⟩ := v
    change awp _ _ _ _ _ ⟨_, _, _, _⟩
    refine awp_seq ?_
    refine awp_seq ?_
    refine awp_region ?_
    refine rv rfl rfl ?_
    obtain ⟨x7, hx8, ho5⟩ := bi ho5
    refine rh [0] rfl rfl (dref06_P_takes_l hx8) rfl rfl rfl (zC rfl rfl rfl rfl (zC rfl rfl rfl rfl (zC rfl rfl rfl rfl (trivial)))) (trivial) ?_
    refine ek ?_
    refine as1 rfl ?_
    refine ae rfl rfl rfl ?_
    refine rn ?_
    refine cs_ rfl (fun hc => ?_) (fun hc => ?_)
    · have ho5 := cT hc ho5
      refine awp_skip ?_
      refine awp_block ?_
      refine awp_seq ?_
      refine awp_region ?_
      refine rv rfl rfl ?_
      obtain ⟨x8, hx9, ho5⟩ := bi ho5
      obtain ⟨⟨kind3, name3, op3, vals3, l3⟩, x9⟩ := x8
      refine rh [0] rfl rfl (ih_dref06_P_and hx9) rfl rfl rfl (zC rfl rfl rfl rfl (zC rfl rfl rfl rfl (zC rfl rfl rfl rfl (trivial)))) (trivial) ?_
      refine ek ?_
      refine as1 rfl ?_
      refine ae rfl rfl rfl ?_
      refine ra rfl rfl rfl ?_
      refine rs rfl rfl rfl rfl rfl rfl rfl ?_
      refine rn ?_
      refine awp_seq ?_
      refine awp_region ?_
      refine rvs 2 rfl ?_
      obtain ⟨x10, hx10, ho5⟩ := bi ho5
      refine rc1 rfl rfl rfl (dref06_add_l hx10) ?_
      obtain ⟨kind4, name4, op4, vals4, l4⟩ := x10
      refine rs rfl rfl rfl rfl rfl rfl rfl ?_
      refine rn ?_
      refine awp_region ?_
      refine rvs 3 rfl ?_
      refine rn ?_
      refine inBlock_normal ?_
      cases ho5
      exact lp_n [0, 1, 2, 3] rfl rfl ⟨rfl, rfl, zA rfl rfl rfl (zA rfl rfl rfl (zA rfl rfl rfl (zA rfl rfl rfl (zA rfl rfl rfl (trivial))))), zC rfl rfl rfl rfl (zC rfl rfl rfl rfl (zC rfl rfl rfl rfl (zC rfl rfl rfl rfl (zC rfl rfl rfl rfl (zC rfl rfl rfl rfl (zC rfl rfl rfl rfl (zC rfl rfl rfl rfl (zC rfl rfl rfl rfl (zC rfl rfl rfl rfl (zC rfl rfl rfl rfl (zC rfl rfl rfl rfl (zC rfl rfl rfl rfl (zC rfl rfl rfl rfl (zC rfl rfl rfl rfl (zC rfl rfl rfl rfl (zC rfl rfl rfl rfl (zC rfl rfl rfl rfl (trivial)))))))))))))))))), trivial⟩
    · have ho5 := cF hc ho5
      refine awp_exit ?_
      repeat (first | refine then_exit ?_ | refine cut_x ?_ | refine inBlock_other rfl ?_)
      refine inBlock_exit ?_
      cases ho5
      have hq := hE6 _ rfl
      subst hq
      exact cut_n [0, 1, 2, 3] rfl rfl ⟨rfl, rfl, zA rfl rfl rfl (zA rfl rfl rfl (zA rfl rfl rfl (zA rfl rfl rfl (trivial)))), zC rfl rfl rfl rfl (zC rfl rfl rfl rfl (zC rfl rfl rfl rfl (zC rfl rfl rfl rfl (zC rfl rfl rfl rfl (zC rfl rfl rfl rfl (zC rfl rfl rfl rfl (zC rfl rfl rfl rfl (zC rfl rfl rfl rfl (zC rfl rfl rfl rfl (zC rfl rfl rfl rfl (zC rfl rfl rfl rfl (zC rfl rfl rfl rfl (zC rfl rfl rfl rfl (zC rfl rfl rfl rfl (zC rfl rfl rfl rfl (zC rfl rfl rfl rfl (zC rfl rfl rfl rfl (trivial)))))))))))))))))), trivial⟩
  · rintro ⟨n3, x4, x5, x6, f11, f12, f13, f14, f15⟩ rfl
    change awp _ _ _ _ _ ⟨_, _, _, _⟩
    refine awp_seq ?_
    refine awp_seq ?_
    refine awp_region ?_
    refine rvs 2 rfl ?_
    refine rn ?_
    refine cs_ rfl (fun hc => ?_) (fun hc => ?_)
    · have h := cT hc h
      refine awp_seq ?_
      refine awp_region ?_
      refine rv rfl rfl ?_
      refine rs rfl rfl rfl rfl rfl rfl rfl ?_
      refine rn ?_
      refine awp_ret ?_
      have h := Option.some.inj h
      subst h
      repeat (first | refine then_ret ?_ | refine inBlock_ret ?_ | refine cut_r ?_)
      exact rrA (r := .agg [.int .i64 kind1, .str (sB name1), .str (sB op1), .sl (vals1.map c_tAttr), .sl (cs_tFilter l1)]) [0] [(0, 0, .sl (x4.map c_tref06Token)), (0, 1, .int .i64 x5), (0, 2, .bool x6)] [] rfl rfl rfl rfl (zC rfl rfl rfl rfl (zC rfl rfl rfl rfl (zC rfl rfl rfl rfl (trivial)))) (trivial) ⟨rfl, rfl, rfl, rfl⟩
    · have h := cF hc h
      refine awp_skip ?_
      refine awp_seq ?_
      refine awp_region ?_
      refine rv rfl rfl ?_
      refine rs rfl rfl rfl rfl rfl rfl rfl ?_
      refine rn ?_
      refine awp_ret ?_
      have h := Option.some.inj h
      subst h
      repeat (first | refine then_ret ?_ | refine inBlock_ret ?_ | refine cut_r ?_)
      exact rrA (r := .agg [.int .i64 f11, .str (sB f12), .str (sB f13), .sl (f14.map c_tAttr), .sl (cs_tFilter f15)]) [0] [(0, 0, .sl (x4.map c_tref06Token)), (0, 1, .int .i64 x5), (0, 2, .bool x6)] [] rfl rfl rfl rfl (zC rfl rfl rfl rfl (zC rfl rfl rfl rfl (zC rfl rfl rfl rfl (trivial)))) (trivial) ⟨rfl, rfl, rfl, rfl⟩
end

theorem rec_dref06_P_not : ∀ fu : Nat, (∀ {p1} {r : tFilter × tref06P}, dref06_P_not fu p1 = some r → ACall Tryz.prog 60 1 [.ptr 0 0] [(0, 0, .sl (p1.L.map c_tref06Token)), (0, 1, .int .i64 p1.At), (0, 2, .bool p1.Bad)] [] (fun r_ H_ O_ n_ => r_ = .agg (c_tFilter r.1) ∧ H_ = [(0, 0, .sl (r.2.L.map c_tref06Token)), (0, 1, .int .i64 r.2.At), (0, 2, .bool r.2.Bad)] ∧ O_ = [] ∧ n_ = 1)) ∧ (∀ {p1} {r : tFilter × tref06P}, dref06_P_and fu p1 = some r → ACall Tryz.prog 34 1 [.ptr 0 0] [(0, 0, .sl (p1.L.map c_tref06Token)), (0, 1, .int .i64 p1.At), (0, 2, .bool p1.Bad)] [] (fun r_ H_ O_ n_ => r_ = .agg (c_tFilter r.1) ∧ H_ = [(0, 0, .sl (r.2.L.map c_tref06Token)), (0, 1, .int .i64 r.2.At), (0, 2, .bool r.2.Bad)] ∧ O_ = [] ∧ n_ = 1)) ∧ (∀ {p1} {r : tFilter × tref06P}, dref06_P_or fu p1 = some r → ACall Tryz.prog 19 1 [.ptr 0 0] [(0, 0, .sl (p1.L.map c_tref06Token)), (0, 1, .int .i64 p1.At), (0, 2, .bool p1.Bad)] [] (fun r_ H_ O_ n_ => r_ = .agg (c_tFilter r.1) ∧ H_ = [(0, 0, .sl (r.2.L.map c_tref06Token)), (0, 1, .int .i64 r.2.At), (0, 2, .bool r.2.Bad)] ∧ O_ = [] ∧ n_ = 1))
  | 0 => ⟨fun h => by simp [dref06_P_not] at h, fun h => by simp [dref06_P_and] at h, fun h => by simp [dref06_P_or] at h⟩
  | fu + 1 => by
    obtain ⟨i0, i1, i2⟩ := rec_dref06_P_not fu
    exact ⟨dref06_P_not_s i0 i1 i2, dref06_P_and_s i0 i1 i2, dref06_P_or_s i0 i1 i2⟩
theorem dref06_P_not_l {fu : Nat} : ∀ {p1} {r : tFilter × tref06P}, dref06_P_not fu p1 = some r → ACall Tryz.prog 60 1 [.ptr 0 0] [(0, 0, .sl (p1.L.map c_tref06Token)), (0, 1, .int .i64 p1.At), (0, 2, .bool p1.Bad)] [] (fun r_ H_ O_ n_ => r_ = .agg (c_tFilter r.1) ∧ H_ = [(0, 0, .sl (r.2.L.map c_tref06Token)), (0, 1, .int .i64 r.2.At), (0, 2, .bool r.2.Bad)] ∧ O_ = [] ∧ n_ = 1) := (rec_dref06_P_not fu).1
theorem dref06_P_and_l {fu : Nat} : ∀ {p1} {r : tFilter × tref06P}, dref06_P_and fu p1 = some r → ACall Tryz.prog 34 1 [.ptr 0 0] [(0, 0, .sl (p1.L.map c_tref06Token)), (0, 1, .int .i64 p1.At), (0, 2, .bool p1.Bad)] [] (fun r_ H_ O_ n_ => r_ = .agg (c_tFilter r.1) ∧ H_ = [(0, 0, .sl (r.2.L.map c_tref06Token)), (0, 1, .int .i64 r.2.At), (0, 2, .bool r.2.Bad)] ∧ O_ = [] ∧ n_ = 1) := (rec_dref06_P_not fu).2.1
theorem dref06_P_or_l {fu : Nat} : ∀ {p1} {r : tFilter × tref06P}, dref06_P_or fu p1 = some r → ACall Tryz.prog 19 1 [.ptr 0 0] [(0, 0, .sl (p1.L.map c_tref06Token)), (0, 1, .int .i64 p1.At), (0, 2, .bool p1.Bad)] [] (fun r_ H_ O_ n_ => r_ = .agg (c_tFilter r.1) ∧ H_ = [(0, 0, .sl (r.2.L.map c_tref06Token)), (0, 1, .int .i64 r.2.At), (0, 2, .bool r.2.Bad)] ∧ O_ = [] ∧ n_ = 1) := (rec_dref06_P_not fu).2.2
/-- `plover/ploverref06.Read` -/
def dref06_Read (fu : Nat) (s1 : Str) : Option (tFilter × Int) :=
  (dref06_Cut fu s1).bind fun l1 => bif (l1.2 != 0) then some ((tFilter.mk 0 [] [] [] []), l1.2) else ((dref06_P_or fu (tref06P.mk l1.1 0 false)).bind fun x1 => match x1 with | (.mk kind1 name1 op1 vals1 l2, x2) => (bif x2.Bad then some true else some (decide (x2.At < (l1.1.length : Int))) : Option Bool).bind fun (x3 : Bool) => (bif x3 then some ((tFilter.mk 0 [] [] [] []), 3) else ((dref06_May fu (tFilter.mk kind1 name1 op1 vals1 l2)).bind fun may1 => bif (!may1) then some ((tFilter.mk 0 [] [] [] []), 5) else some ((tFilter.mk kind1 name1 op1 vals1 l2), 0))))
section
attribute [local irreducible] awp aops DP PCall ACall Decidable.decide
theorem dref06_Read_l {fu : Nat} {s1 : Str} {r : tFilter × Int} (h : dref06_Read fu s1 = some r) : PCall Tryz.prog 7 [.str (sB s1)] (· = .tup [.agg (c_tFilter r.1), .int .i64 r.2]) := by
  rw [dref06_Read] at h
  refine pcall_body Tryz.func7 rfl (by kernel_rfl) (by rfl) ?_
  refine awp_seq ?_
  refine awp_region ?_
  refine ra rfl rfl rfl ?_
  refine rv rfl rfl ?_
  refine rn ?_
  refine awp_seq ?_
  refine awp_region ?_
  refine rv rfl rfl ?_
  obtain ⟨l1, hx1, h⟩ := bi h
  refine rc1 rfl rfl rfl (dref06_Cut_l hx1) ?_
  refine rvs 5 rfl ?_
  refine rn ?_
  refine awp_seq ?_
  refine awp_seq ?_
  refine awp_region ?_
  refine rvs 2 rfl ?_
  refine rn ?_
  refine cs_ rfl (fun hc => ?_) (fun hc => ?_)
  · have h := cT hc h
    refine awp_seq ?_
    refine awp_region ?_
    refine rvs 2 rfl ?_
    refine rs rfl rfl rfl rfl rfl rfl rfl ?_
    refine rv rfl rfl ?_
    refine rn ?_
    refine awp_ret ?_
    cases h
    repeat (first | refine then_ret ?_ | refine inBlock_ret ?_ | refine cut_r ?_)
    exact rr rfl rfl rfl
  · have h := cF hc h
    refine awp_skip ?_
    refine awp_seq ?_
    refine awp_region ?_
    refine rvs 2 rfl ?_
    refine rb rfl rfl ?_
    refine rv rfl rfl ?_
    refine rn ?_
    refine awp_seq ?_
    refine awp_region ?_
    refine rv rfl rfl ?_
    obtain ⟨x1, hx2, h⟩ := bi h
    obtain ⟨⟨kind1, name1, op1, vals1, l2⟩, x2⟩ := x1
    refine rh [1] rfl rfl (dref06_P_or_l hx2) rfl rfl rfl (zC rfl rfl rfl rfl (zC rfl rfl rfl rfl (zC rfl rfl rfl rfl (trivial)))) (trivial) ?_
    refine ek ?_
    refine as1 rfl ?_
    refine ae rfl rfl rfl ?_
    refine ra rfl rfl rfl ?_
    refine rs rfl rfl rfl rfl rfl rfl rfl ?_
    refine rn ?_
    refine awp_seq ?_
    refine awp_seq ?_
    obtain ⟨o3, ho4, h⟩ := bi h
    refine awp_cut1 (fun x => x = o3) (fun (x3 : Bool) => ⟨[(2, .ptr 0 0), (7, .ptr 1 0), (35, .bool x3)], [(0, 0, .int .i64 0), (0, 1, .str (sB [])), (0, 2, .str (sB [])), (0, 3, .nilS), (0, 4, .nilS), (1, 0, .int .i64 kind1), (1, 1, .str (sB name1)), (1, 2, .str (sB op1)), (1, 3, .sl (vals1.map c_tAttr)), (1, 4, .sl (cs_tFilter l2))], [], 2⟩) ?_ ?_
    · refine awp_region ?_
      refine rvs 5 rfl ?_
      refine gs rfl rfl rfl rfl rfl (fun hg => ?_) (fun hg => ?_)
      · have ho4 := cF hg ho4
        refine rv rfl rfl ?_
        refine gy rfl rfl rfl ?_
        refine rv rfl rfl ?_
        refine gy rfl rfl rfl ?_
        refine rv rfl rfl ?_
        refine gy rfl rfl rfl ?_
        refine rv rfl rfl ?_
        refine gy rfl rfl rfl ?_
        refine rv rfl rfl ?_
        refine gy rfl rfl rfl ?_
        refine rv rfl rfl ?_
        refine rt ((lM c_tref06Token l1.1)) ?_
        refine gy rfl rfl rfl ?_
        refine rv rfl rfl ?_
        refine rv rfl rfl ?_
        refine rn ?_
        cases ho4
        exact cut_n [0, 2] rfl rfl ⟨rfl, rfl, zA rfl rfl rfl (zA rfl rfl rfl (zA rfl rfl rfl (trivial))), zC rfl rfl rfl rfl (zC rfl rfl rfl rfl (zC rfl rfl rfl rfl (zC rfl rfl rfl rfl (zC rfl rfl rfl rfl (zC rfl rfl rfl rfl (zC rfl rfl rfl rfl (zC rfl rfl rfl rfl (zC rfl rfl rfl rfl (zC rfl rfl rfl rfl (trivial)))))))))), trivial⟩
      · have ho4 := cT hg ho4
        refine gn rfl rfl rfl rfl rfl ?_
        refine gn rfl rfl rfl rfl rfl ?_
        refine gn rfl rfl rfl rfl rfl ?_
        refine gn rfl rfl rfl rfl rfl ?_
        refine gn rfl rfl rfl rfl rfl ?_
        refine gn rfl rfl rfl rfl rfl ?_
        refine rv rfl rfl ?_
        refine rn ?_
        cases ho4
        exact cut_n [0, 2] rfl rfl ⟨rfl, rfl, zA rfl rfl rfl (zA rfl rfl rfl (zA rfl rfl rfl (trivial))), zC rfl rfl rfl rfl (zC rfl rfl rfl rfl (zC rfl rfl rfl rfl (zC rfl rfl rfl rfl (zC rfl rfl rfl rfl (zC rfl rfl rfl rfl (zC rfl rfl rfl rfl (zC rfl rfl rfl rfl (zC rfl rfl rfl rfl (zC rfl rfl rfl rfl (trivial)))))))))), trivial⟩
    · rintro x3 rfl
      change awp _ _ _ _ _ ⟨_, _, _, _⟩
      refine cs_ rfl (fun hc => ?_) (fun hc => ?_)
      · have h := cT hc h
        refine awp_seq ?_
        refine awp_region ?_
        refine rv rfl rfl ?_
        refine rs rfl rfl rfl rfl rfl rfl rfl ?_
        refine rv rfl rfl ?_
        refine rn ?_
        refine awp_ret ?_
        cases h
        repeat (first | refine then_ret ?_ | refine inBlock_ret ?_ | refine cut_r ?_)
        exact rr rfl rfl rfl
      · have h := cF hc h
        refine awp_skip ?_
        refine awp_seq ?_
        refine awp_region ?_
        refine rv rfl rfl ?_
        obtain ⟨may1, hx5, h⟩ := bi h
        refine rc1 rfl rfl rfl (dref06_May_l hx5) ?_
        refine rv rfl rfl ?_
        refine rn ?_
        refine awp_seq ?_
        refine awp_seq ?_
        refine awp_region ?_
        refine rvs 2 rfl ?_
        refine rn ?_
        refine cs_ rfl (fun hc => ?_) (fun hc => ?_)
        · have h := cT hc h
          refine awp_seq ?_
          refine awp_region ?_
          refine rv rfl rfl ?_
          refine rs rfl rfl rfl rfl rfl rfl rfl ?_
          refine rv rfl rfl ?_
          refine rn ?_
          refine awp_ret ?_
          cases h
          repeat (first | refine then_ret ?_ | refine inBlock_ret ?_ | refine cut_r ?_)
          exact rr rfl rfl rfl
        · have h := cF hc h
          refine awp_skip ?_
          refine awp_seq ?_
          refine awp_region ?_
          refine rv rfl rfl ?_
          refine rs rfl rfl rfl rfl rfl rfl rfl ?_
          refine rv rfl rfl ?_
          refine rn ?_
          refine awp_ret ?_
          cases h
          repeat (first | refine then_ret ?_ | refine inBlock_ret ?_ | refine cut_r ?_)
          exact rr rfl rfl rfl
end

/-- `plover/ploverlaw07.up` -/
def dlaw07_up (fu : Nat)  : Option Bool :=
  (dfilter_Read fu [97, 32, 60, 32, 53, 32, 97, 110, 100, 32, 40, 98, 32, 61, 32, 34, 120, 34, 32, 111, 114, 32, 110, 111, 116, 32, 99, 32, 105, 110, 32, 40, 49, 41, 41]).bind fun e1 => match e1 with | (.mk kind1 name1 op1 vals1 l1, e2) => (dfilter_Read fu [97]).bind fun g1 => match g1 with | (.mk kind2 name2 op2 vals2 l2, g2) => (dfilter_Text fu (tFilter.mk 7 [] [] [] [])).bind fun s1 => bif e2.isNone then (bif (kind1 == 1) then (bif ((l1.length : Int) == 2) then (bif (g2 == some 3) then (bif (s1.1 == [116, 114, 117, 101]) then (bif s1.2.isNone then ((dfilter_May fu (tFilter.mk kind1 name1 op1 vals1 l1)).bind fun x1 => bif x1 then ((dfilter_May fu (tFilter.mk 0 [] [] [] [])).bind fun x2 => some (!x2)) else some false) else some false) else some false) else some false) else some false) else some false) else some false
section
attribute [local irreducible] awp aops DP PCall ACall Decidable.decide
theorem dlaw07_up_l {fu : Nat}  {r : Bool} (h : dlaw07_up fu  = some r) : PCall Tryz.prog 5 [] (· = .bool r) := by
  rw [dlaw07_up] at h
  refine pcall_body Tryz.func5 rfl (by kernel_rfl) (by rfl) ?_
  refine awp_seq ?_
  refine awp_region ?_
  refine rv rfl rfl ?_
  refine rn ?_
  refine awp_seq ?_
  refine awp_region ?_
  obtain ⟨e1, hx1, h⟩ := bi h
  obtain ⟨⟨kind1, name1, op1, vals1, l1⟩, e2⟩ := e1
  refine rc1 rfl rfl rfl (dfilter_Read_l hx1) ?_
  refine rvs 3 rfl ?_
  refine ra rfl rfl rfl ?_
  refine rs rfl rfl rfl rfl rfl rfl rfl ?_
  refine rv rfl rfl ?_
  refine rn ?_
  refine awp_seq ?_
  refine awp_region ?_
  obtain ⟨g1, hx2, h⟩ := bi h
  obtain ⟨⟨kind2, name2, op2, vals2, l2⟩, g2⟩ := g1
  refine rc1 rfl rfl rfl (dfilter_Read_l hx2) ?_
  refine rvs 3 rfl ?_
  refine ra rfl rfl rfl ?_
  refine rs rfl rfl rfl rfl rfl rfl rfl ?_
  refine rv rfl rfl ?_
  refine rn ?_
  refine awp_seq ?_
  refine awp_region ?_
  refine rv rfl rfl ?_
  obtain ⟨s1, hx3, h⟩ := bi h
  refine rc1 rfl rfl rfl (dfilter_Text_l hx3) ?_
  refine rvs 5 rfl ?_
  refine rn ?_
  refine awp_seq ?_
  refine awp_region ?_
  refine rv rfl rfl ?_
  refine rV rfl (va_enil rfl rfl rfl) ?_
  refine rv rfl rfl ?_
  refine gs rfl rfl rfl rfl rfl (fun hg => ?_) (fun hg => ?_)
  · have h := cT hg h
    refine rv rfl rfl ?_
    refine gy rfl rfl rfl ?_
    refine rv rfl rfl ?_
    refine gy rfl rfl rfl ?_
    refine rv rfl rfl ?_
    refine rvs 2 rfl ?_
    refine gs rfl rfl rfl rfl rfl (fun hg => ?_) (fun hg => ?_)
    · have h := cT hg h
      refine rv rfl rfl ?_
      refine gy rfl rfl rfl ?_
      refine rv rfl rfl ?_
      refine gy rfl rfl rfl ?_
      refine rv rfl rfl ?_
      refine rt ((lM_tFilter l1)) ?_
      refine gy rfl rfl rfl ?_
      refine rv rfl rfl ?_
      refine rvs 2 rfl ?_
      refine gs rfl rfl rfl rfl rfl (fun hg => ?_) (fun hg => ?_)
      · have h := cT hg h
        refine rv rfl rfl ?_
        refine gy rfl rfl rfl ?_
        refine rv rfl rfl ?_
        refine gy rfl rfl rfl ?_
        refine rV rfl (va_eeq rfl rfl rfl rfl rfl rfl (fun _ => rfl)) ?_
        refine rvs 2 rfl ?_
        refine gs rfl rfl rfl rfl rfl (fun hg => ?_) (fun hg => ?_)
        · have h := cT hg h
          refine rv rfl rfl ?_
          refine gy rfl rfl rfl ?_
          refine rv rfl rfl ?_
          refine rt (sEq s1.1 [116, 114, 117, 101]) ?_
          refine rvs 2 rfl ?_
          refine gs rfl rfl rfl rfl rfl (fun hg => ?_) (fun hg => ?_)
          · have h := cT hg h
            refine rv rfl rfl ?_
            refine gy rfl rfl rfl ?_
            refine rV rfl (va_enil rfl rfl rfl) ?_
            refine rvs 2 rfl ?_
            refine gs rfl rfl rfl rfl rfl (fun hg => ?_) (fun hg => ?_)
            · have h := cT hg h
              refine rv rfl rfl ?_
              refine gy rfl rfl rfl ?_
              obtain ⟨x1, hx4, h⟩ := bi h
              refine rc1 rfl rfl rfl (dfilter_May_l hx4) ?_
              refine rvs 2 rfl ?_
              refine gs rfl rfl rfl rfl rfl (fun hg => ?_) (fun hg => ?_)
              · have h := cT hg h
                refine rv rfl rfl ?_
                refine gy rfl rfl rfl ?_
                obtain ⟨x2, hx5, h⟩ := bi h
                refine rc1 rfl rfl rfl (dfilter_May_l hx5) ?_
                refine gy rfl rfl rfl ?_
                refine rv rfl rfl ?_
                refine rvs 2 rfl ?_
                refine rn ?_
                refine awp_ret ?_
                cases h
                repeat (first | refine then_ret ?_ | refine inBlock_ret ?_ | refine cut_r ?_)
                exact rr rfl rfl rfl
              · have h := cF hg h
                refine gn rfl rfl rfl rfl rfl ?_
                refine gn rfl rfl rfl rfl rfl ?_
                refine rvs 2 rfl ?_
                refine rn ?_
                refine awp_ret ?_
                cases h
                repeat (first | refine then_ret ?_ | refine inBlock_ret ?_ | refine cut_r ?_)
                exact rr rfl rfl rfl
            · have h := cF hg h
              refine gn rfl rfl rfl rfl rfl ?_
              refine rvs 2 rfl ?_
              refine gn rfl rfl rfl rfl rfl ?_
              refine gn rfl rfl rfl rfl rfl ?_
              refine gn rfl rfl rfl rfl rfl ?_
              refine rvs 2 rfl ?_
              refine rn ?_
              refine awp_ret ?_
              cases h
              repeat (first | refine then_ret ?_ | refine inBlock_ret ?_ | refine cut_r ?_)
              exact rr rfl rfl rfl
          · have h := cF hg h
            refine gn rfl rfl rfl rfl rfl ?_
            refine rvs 2 rfl ?_
            refine gn rfl rfl rfl rfl rfl ?_
            refine gn rfl rfl rfl rfl rfl ?_
            refine rvs 2 rfl ?_
            refine gn rfl rfl rfl rfl rfl ?_
            refine gn rfl rfl rfl rfl rfl ?_
            refine gn rfl rfl rfl rfl rfl ?_
            refine rvs 2 rfl ?_
            refine rn ?_
            refine awp_ret ?_
            cases h
            repeat (first | refine then_ret ?_ | refine inBlock_ret ?_ | refine cut_r ?_)
            exact rr rfl rfl rfl
        · have h := cF hg h
          refine gn rfl rfl rfl rfl rfl ?_
          refine rvs 2 rfl ?_
          refine gn rfl rfl rfl rfl rfl ?_
          refine gn rfl rfl rfl rfl rfl ?_
          refine rvs 2 rfl ?_
          refine gn rfl rfl rfl rfl rfl ?_
          refine gn rfl rfl rfl rfl rfl ?_
          refine rvs 2 rfl ?_
          refine gn rfl rfl rfl rfl rfl ?_
          refine gn rfl rfl rfl rfl rfl ?_
          refine gn rfl rfl rfl rfl rfl ?_
          refine rvs 2 rfl ?_
          refine rn ?_
          refine awp_ret ?_
          cases h
          repeat (first | refine then_ret ?_ | refine inBlock_ret ?_ | refine cut_r ?_)
          exact rr rfl rfl rfl
      · have h := cF hg h
        refine gn rfl rfl rfl rfl rfl ?_
        refine gn rfl rfl rfl rfl rfl ?_
        refine rvs 2 rfl ?_
        refine gn rfl rfl rfl rfl rfl ?_
        refine gn rfl rfl rfl rfl rfl ?_
        refine rvs 2 rfl ?_
        refine gn rfl rfl rfl rfl rfl ?_
        refine gn rfl rfl rfl rfl rfl ?_
        refine rvs 2 rfl ?_
        refine gn rfl rfl rfl rfl rfl ?_
        refine gn rfl rfl rfl rfl rfl ?_
        refine rvs 2 rfl ?_
        refine gn rfl rfl rfl rfl rfl ?_
        refine gn rfl rfl rfl rfl rfl ?_
        refine gn rfl rfl rfl rfl rfl ?_
        refine rvs 2 rfl ?_
        refine rn ?_
        refine awp_ret ?_
        cases h
        repeat (first | refine then_ret ?_ | refine inBlock_ret ?_ | refine cut_r ?_)
        exact rr rfl rfl rfl
    · have h := cF hg h
      refine gn rfl rfl rfl rfl rfl ?_
      refine gn rfl rfl rfl rfl rfl ?_
      refine gn rfl rfl rfl rfl rfl ?_
      refine rvs 2 rfl ?_
      refine gn rfl rfl rfl rfl rfl ?_
      refine gn rfl rfl rfl rfl rfl ?_
      refine gn rfl rfl rfl rfl rfl ?_
      refine rvs 2 rfl ?_
      refine gn rfl rfl rfl rfl rfl ?_
      refine gn rfl rfl rfl rfl rfl ?_
      refine rvs 2 rfl ?_
      refine gn rfl rfl rfl rfl rfl ?_
      refine gn rfl rfl rfl rfl rfl ?_
      refine rvs 2 rfl ?_
      refine gn rfl rfl rfl rfl rfl ?_
      refine gn rfl rfl rfl rfl rfl ?_
      refine rvs 2 rfl ?_
      refine gn rfl rfl rfl rfl rfl ?_
      refine gn rfl rfl rfl rfl rfl ?_
      refine gn rfl rfl rfl rfl rfl ?_
      refine rvs 2 rfl ?_
      refine rn ?_
      refine awp_ret ?_
      cases h
      repeat (first | refine then_ret ?_ | refine inBlock_ret ?_ | refine cut_r ?_)
      exact rr rfl rfl rfl
  · have h := cF hg h
    refine gn rfl rfl rfl rfl rfl ?_
    refine gn rfl rfl rfl rfl rfl ?_
    refine rvs 2 rfl ?_
    refine gn rfl rfl rfl rfl rfl ?_
    refine gn rfl rfl rfl rfl rfl ?_
    refine gn rfl rfl rfl rfl rfl ?_
    refine gn rfl rfl rfl rfl rfl ?_
    refine rvs 2 rfl ?_
    refine gn rfl rfl rfl rfl rfl ?_
    refine gn rfl rfl rfl rfl rfl ?_
    refine gn rfl rfl rfl rfl rfl ?_
    refine rvs 2 rfl ?_
    refine gn rfl rfl rfl rfl rfl ?_
    refine gn rfl rfl rfl rfl rfl ?_
    refine rvs 2 rfl ?_
    refine gn rfl rfl rfl rfl rfl ?_
    refine gn rfl rfl rfl rfl rfl ?_
    refine rvs 2 rfl ?_
    refine gn rfl rfl rfl rfl rfl ?_
    refine gn rfl rfl rfl rfl rfl ?_
    refine rvs 2 rfl ?_
    refine gn rfl rfl rfl rfl rfl ?_
    refine gn rfl rfl rfl rfl rfl ?_
    refine gn rfl rfl rfl rfl rfl ?_
    refine rvs 2 rfl ?_
    refine rn ?_
    refine awp_ret ?_
    cases h
    repeat (first | refine then_ret ?_ | refine inBlock_ret ?_ | refine cut_r ?_)
    exact rr rfl rfl rfl
end

/-- `plover/ploverlaw07.FilterReads` -/
def dlaw07_FilterReads (fu : Nat) (s1 : Str) : Option Bool :=
  (dlaw07_up fu ).bind fun head1 => bif (decide ((s1.length : Int) > 1000)) then some head1 else ((dfilter_Read fu s1).bind fun e1 => match e1 with | (.mk kind1 name1 op1 vals1 l1, e2) => (dref06_Read fu s1).bind fun bad1 => match bad1 with | (.mk kind2 name2 op2 vals2 l2, bad2) => bif head1 then ((dlaw00_Code fu e2).bind fun x1 => bif (x1 == bad2) then ((dref06_Same fu (tFilter.mk kind1 name1 op1 vals1 l1) (tFilter.mk kind2 name2 op2 vals2 l2)).bind fun x2 => some x2) else some false) else some false)
section
attribute [local irreducible] awp aops DP PCall ACall Decidable.decide
theorem dlaw07_FilterReads_l {fu : Nat} {s1 : Str} {r : Bool} (h : dlaw07_FilterReads fu s1 = some r) : PCall Tryz.prog 3 [.str (sB s1)] (· = .bool r) := by
  rw [dlaw07_FilterReads] at h
  refine pcall_body Tryz.func3 rfl (by kernel_rfl) (by rfl) ?_
  refine awp_seq ?_
  refine awp_region ?_
  refine rv rfl rfl ?_
  refine rn ?_
  refine awp_seq ?_
  refine awp_region ?_
  obtain ⟨head1, hx1, h⟩ := bi h
  refine rc1 rfl rfl rfl (dlaw07_up_l hx1) ?_
  refine rv rfl rfl ?_
  refine rn ?_
  refine awp_seq ?_
  refine awp_seq ?_
  refine awp_region ?_
  refine rvs 3 rfl ?_
  refine rn ?_
  refine cs_ rfl (fun hc => ?_) (fun hc => ?_)
  · have h := cT hc h
    refine awp_seq ?_
    refine awp_region ?_
    refine rvs 2 rfl ?_
    refine rn ?_
    refine awp_ret ?_
    cases h
    repeat (first | refine then_ret ?_ | refine inBlock_ret ?_ | refine cut_r ?_)
    exact rr rfl rfl rfl
  · have h := cF hc h
    refine awp_skip ?_
    refine awp_seq ?_
    refine awp_region ?_
    refine rv rfl rfl ?_
    obtain ⟨e1, hx2, h⟩ := bi h
    obtain ⟨⟨kind1, name1, op1, vals1, l1⟩, e2⟩ := e1
    refine rc1 rfl rfl rfl (dfilter_Read_l hx2) ?_
    refine rvs 3 rfl ?_
    refine ra rfl rfl rfl ?_
    refine rs rfl rfl rfl rfl rfl rfl rfl ?_
    refine rv rfl rfl ?_
    refine rn ?_
    refine awp_seq ?_
    refine awp_region ?_
    refine rv rfl rfl ?_
    obtain ⟨bad1, hx3, h⟩ := bi h
    obtain ⟨⟨kind2, name2, op2, vals2, l2⟩, bad2⟩ := bad1
    refine rc1 rfl rfl rfl (dref06_Read_l hx3) ?_
    refine rvs 3 rfl ?_
    refine ra rfl rfl rfl ?_
    refine rs rfl rfl rfl rfl rfl rfl rfl ?_
    refine rv rfl rfl ?_
    refine rn ?_
    refine awp_seq ?_
    refine awp_region ?_
    refine rvs 2 rfl ?_
    refine gs rfl rfl rfl rfl rfl (fun hg => ?_) (fun hg => ?_)
    · have h := cT hg h
      refine rv rfl rfl ?_
      refine gy rfl rfl rfl ?_
      obtain ⟨x1, hx4, h⟩ := bi h
      refine rc1 rfl rfl rfl (dlaw00_Code_l hx4) ?_
      refine gy rfl rfl rfl ?_
      refine rv rfl rfl ?_
      refine gy rfl rfl rfl ?_
      refine rv rfl rfl ?_
      refine rvs 2 rfl ?_
      refine gs rfl rfl rfl rfl rfl (fun hg => ?_) (fun hg => ?_)
      · have h := cT hg h
        refine rv rfl rfl ?_
        refine gy rfl rfl rfl ?_
        refine rv rfl rfl ?_
        refine gy rfl rfl rfl ?_
        obtain ⟨x2, hx5, h⟩ := bi h
        refine rc1 rfl rfl rfl (dref06_Same_l hx5) ?_
        refine rvs 2 rfl ?_
        refine rn ?_
        refine awp_ret ?_
        cases h
        repeat (first | refine then_ret ?_ | refine inBlock_ret ?_ | refine cut_r ?_)
        exact rr rfl rfl rfl
      · have h := cF hg h
        refine gn rfl rfl rfl rfl rfl ?_
        refine gn rfl rfl rfl rfl rfl ?_
        refine rvs 2 rfl ?_
        refine rn ?_
        refine awp_ret ?_
        cases h
        repeat (first | refine then_ret ?_ | refine inBlock_ret ?_ | refine cut_r ?_)
        exact rr rfl rfl rfl
    · have h := cF hg h
      refine gn rfl rfl rfl rfl rfl ?_
      refine gn rfl rfl rfl rfl rfl ?_
      refine gn rfl rfl rfl rfl rfl ?_
      refine rvs 2 rfl ?_
      refine gn rfl rfl rfl rfl rfl ?_
      refine gn rfl rfl rfl rfl rfl ?_
      refine gn rfl rfl rfl rfl rfl ?_
      refine rvs 2 rfl ?_
      refine rn ?_
      refine awp_ret ?_
      cases h
      repeat (first | refine then_ret ?_ | refine inBlock_ret ?_ | refine cut_r ?_)
      exact rr rfl rfl rfl
end

end Go.Proofs.YtaekecbadkcggaaGreatDoor
