/- Plain functions, and walks, printed by a program of this session's. -/
import Derived.Test.YtaekecbadkcggaaDoorD06
import Derived.Test.YtaekecbadkcggaaDoorPwE
namespace Go.Proofs.YtaekecbadkcggaaDoor
open Go.Pv
set_option maxRecDepth 100000
set_option maxHeartbeats 4000000
set_option linter.unusedSimpArgs false
set_option linter.unusedVariables false
set_option linter.unusedSectionVars false

structure tfilterparser where
  L : List ttokenToken
  Bad : Bool
/-- `slices.IndexFunc[[]plover/api.Filter,plover/api.Filter]` -/
def dslices_IndexFunc_Filter (fu : Nat) (s1 : List tFilter) (f1 : tFilter → Option Bool) : Option Int :=
  (loopD (ε := Int) (τ := Unit ⊕ Int) (fun (x1 : Int) => (bif (decide (x1 < (s1.length : Int))) then ((gi s1 x1).bind fun x3 => match x3 with | .mk kind1 name1 op1 vals1 l1 => (f1 (tFilter.mk kind1 name1 op1 vals1 l1)).bind fun x4 => bif x4 then some (Sum.inr (Sum.inr x1)) else some (Sum.inl (W (x1 + 1)))) else some (Sum.inr (Sum.inl ())))) fu 0).bind fun o => kS o fun (_ : Unit) => some (-1)
section
attribute [local irreducible] awp aops DP PCall ACall Decidable.decide
theorem dslices_IndexFunc_Filter_l {fu : Nat} {s1 : List tFilter} {f1 : tFilter → Option Bool} {r : Int} {k_f1 : FuncId} {cs_f1 : List AV} (hl_f1 : Cl cs_f1) (hf_f1 : ∀ {a0 r}, f1 a0 = some r → PCall Tryd.prog k_f1 ([.agg (c_tFilter a0)] ++ cs_f1) (· = .bool r)) (h : dslices_IndexFunc_Filter fu s1 f1 = some r) : PCall Tryd.prog 63 [.sl (cs_tFilter s1), .fn k_f1 cs_f1] (· = .int .i64 r) := by
  rw [dslices_IndexFunc_Filter] at h
  refine pcall_body Tryd.func63 rfl (by kernel_rfl) (by rfl) ?_
  refine awp_seq ?_
  refine awp_region ?_
  refine rv rfl rfl ?_
  refine rn ?_
  refine awp_seq ?_
  refine awp_seq ?_
  refine awp_region ?_
  refine rv rfl rfl ?_
  refine rv rfl rfl ?_
  refine rt ((lM_tFilter s1)) ?_
  refine rv rfl rfl ?_
  refine rn ?_
  obtain ⟨e1, hl2, h⟩ := bi h
  refine awp_cut1 (fun x => Sum.inl x = e1) (fun (_ : Unit) => ⟨[], [], [], 0⟩) ?_ ?_
  · refine awp_block ?_
    refine awp_loopD hl2 (fun (x1 : Int) => ⟨[(0, .sl (cs_tFilter s1)), (1, .fn k_f1 cs_f1), (7, .int .i64 (s1.length : Int)), (8, .int .i64 x1)], [], [], 0⟩) [] rfl ⟨rfl, rfl, zA rfl rfl rfl (zA rfl (AV.ren_closed (.fn _ _) hl_f1.lim).symm (limL_mono (Nat.zero_le _) _ hl_f1.lim) (zA rfl rfl rfl (zA rfl rfl rfl (trivial)))), trivial, trivial⟩ ?_
    intro x1 o5 ho3 hE4
    change awp _ _ _ _ _ ⟨_, _, _, _⟩
    refine awp_seq ?_
    refine awp_region ?_
    refine rv rfl rfl ?_
    refine rn ?_
    refine awp_seq ?_
    refine cs_ rfl (fun hc => ?_) (fun hc => ?_)
    · have ho3 := cT hc ho3
      refine awp_skip ?_
      refine awp_seq ?_
      refine awp_block ?_
      refine awp_seq ?_
      refine awp_region ?_
      refine rvs 2 rfl ?_
      refine rn ?_
      refine awp_seq ?_
      refine awp_region ?_
      refine rv' rfl rfl ?_
      refine rvs 2 rfl ?_
      obtain ⟨x3, hx6, ho3⟩ := bi ho3
      refine ri rfl rfl rfl rfl rfl rfl (gi0 hx6) (giM_tFilter hx6) (wM_tFilter _) ?_
      obtain ⟨kind1, name1, op1, vals1, l1⟩ := x3
      refine rv rfl rfl ?_
      obtain ⟨x4, hx7, ho3⟩ := bi ho3
      refine rcf rfl rfl hl_f1 rfl (hf_f1 hx7) ?_
      refine rn ?_
      refine cs_ rfl (fun hc => ?_) (fun hc => ?_)
      · have ho3 := cT hc ho3
        refine awp_seq ?_
        refine awp_region ?_
        refine rvs 2 rfl ?_
        refine rn ?_
        refine awp_ret ?_
        cases ho3
        have hq := hE4 _ rfl
        subst hq
        have h := ksr h
        subst h
        repeat (first | refine then_ret ?_ | refine inBlock_ret ?_ | refine cut_r ?_)
        exact rr rfl rfl rfl
      · have ho3 := cF hc ho3
        refine awp_skip ?_
        refine inBlock_normal ?_
        refine awp_region ?_
        refine rvs 2 rfl ?_
        refine rn ?_
        cases ho3
        exact lp_n [] rfl rfl ⟨rfl, rfl, zA rfl rfl rfl (zA rfl (AV.ren_closed (.fn _ _) hl_f1.lim).symm (limL_mono (Nat.zero_le _) _ hl_f1.lim) (zA rfl rfl rfl (zA rfl rfl rfl (trivial)))), trivial, trivial⟩
    · have ho3 := cF hc ho3
      refine awp_exit ?_
      repeat (first | refine then_exit ?_ | refine cut_x ?_ | refine inBlock_other rfl ?_)
      refine inBlock_exit ?_
      cases ho3
      have hq := hE4 _ rfl
      subst hq
      exact cut_n [] rfl rfl ⟨rfl, rfl, trivial, trivial, trivial⟩
  · rintro _ rfl
    have h := ksl h
    refine awp_seq ?_
    refine awp_region ?_
    refine rv rfl rfl ?_
    refine rn ?_
    refine awp_ret ?_
    cases h
    repeat (first | refine then_ret ?_ | refine inBlock_ret ?_ | refine cut_r ?_)
    exact rr rfl rfl rfl
end

/-- `slices.ContainsFunc[[]plover/api.Filter,plover/api.Filter]` -/
def dslices_ContainsFunc_Filter (fu : Nat) (s1 : List tFilter) (f1 : tFilter → Option Bool) : Option Bool :=
  (dslices_IndexFunc_Filter fu s1 f1).bind fun x1 => some (decide (x1 ≥ 0))
section
attribute [local irreducible] awp aops DP PCall ACall Decidable.decide
theorem dslices_ContainsFunc_Filter_l {fu : Nat} {s1 : List tFilter} {f1 : tFilter → Option Bool} {r : Bool} {k_f1 : FuncId} {cs_f1 : List AV} (hl_f1 : Cl cs_f1) (hf_f1 : ∀ {a0 r}, f1 a0 = some r → PCall Tryd.prog k_f1 ([.agg (c_tFilter a0)] ++ cs_f1) (· = .bool r)) (h : dslices_ContainsFunc_Filter fu s1 f1 = some r) : PCall Tryd.prog 50 [.sl (cs_tFilter s1), .fn k_f1 cs_f1] (· = .bool r) := by
  rw [dslices_ContainsFunc_Filter] at h
  refine pcall_body Tryd.func50 rfl (by kernel_rfl) (by rfl) ?_
  refine awp_seq ?_
  refine awp_region ?_
  refine rv rfl rfl ?_
  refine rn ?_
  refine awp_seq ?_
  refine awp_region ?_
  refine rv rfl rfl ?_
  refine rv' rfl rfl ?_
  obtain ⟨x1, hx1, h⟩ := bi h
  refine rcE rfl rfl (congrArg (fun z => ([.sl (cs_tFilter s1), .fn k_f1 z] : List AV)) (hl_f1.snap _)) (by simp only [limL, AV.lim, hl_f1.lim, Bool.and_true, Bool.true_and]; try rfl) (dslices_IndexFunc_Filter_l hl_f1 hf_f1 hx1) ?_
  refine rvs 2 rfl ?_
  refine rn ?_
  refine awp_ret ?_
  cases h
  repeat (first | refine then_ret ?_ | refine inBlock_ret ?_ | refine cut_r ?_)
  exact rr rfl rfl rfl
end

/-- `slices.IndexFunc[[]plover/api.Attr,plover/api.Attr]` -/
def dslices_IndexFunc_Attr (fu : Nat) (s1 : List tAttr) (f1 : tAttr → Option Bool) : Option Int :=
  (loopD (ε := Int) (τ := Unit ⊕ Int) (fun (x1 : Int) => (bif (decide (x1 < (s1.length : Int))) then ((gi s1 x1).bind fun x3 => (f1 x3).bind fun x4 => bif x4 then some (Sum.inr (Sum.inr x1)) else some (Sum.inl (W (x1 + 1)))) else some (Sum.inr (Sum.inl ())))) fu 0).bind fun o => kS o fun (_ : Unit) => some (-1)
section
attribute [local irreducible] awp aops DP PCall ACall Decidable.decide
theorem dslices_IndexFunc_Attr_l {fu : Nat} {s1 : List tAttr} {f1 : tAttr → Option Bool} {r : Int} {k_f1 : FuncId} {cs_f1 : List AV} (hl_f1 : Cl cs_f1) (hf_f1 : ∀ {a0 r}, f1 a0 = some r → PCall Tryd.prog k_f1 ([.agg [.str (sB a0.Name), .bool a0.Text, .int .i64 a0.N, .str (sB a0.S)]] ++ cs_f1) (· = .bool r)) (h : dslices_IndexFunc_Attr fu s1 f1 = some r) : PCall Tryd.prog 94 [.sl (s1.map c_tAttr), .fn k_f1 cs_f1] (· = .int .i64 r) := by
  rw [dslices_IndexFunc_Attr] at h
  refine pcall_body Tryd.func94 rfl (by kernel_rfl) (by rfl) ?_
  refine awp_seq ?_
  refine awp_region ?_
  refine rv rfl rfl ?_
  refine rn ?_
  refine awp_seq ?_
  refine awp_seq ?_
  refine awp_region ?_
  refine rv rfl rfl ?_
  refine rv rfl rfl ?_
  refine rt ((lM c_tAttr s1)) ?_
  refine rv rfl rfl ?_
  refine rn ?_
  obtain ⟨e1, hl2, h⟩ := bi h
  refine awp_cut1 (fun x => Sum.inl x = e1) (fun (_ : Unit) => ⟨[], [], [], 0⟩) ?_ ?_
  · refine awp_block ?_
    refine awp_loopD hl2 (fun (x1 : Int) => ⟨[(0, .sl (s1.map c_tAttr)), (1, .fn k_f1 cs_f1), (7, .int .i64 (s1.length : Int)), (8, .int .i64 x1)], [], [], 0⟩) [] rfl ⟨rfl, rfl, zA rfl rfl rfl (zA rfl (AV.ren_closed (.fn _ _) hl_f1.lim).symm (limL_mono (Nat.zero_le _) _ hl_f1.lim) (zA rfl rfl rfl (zA rfl rfl rfl (trivial)))), trivial, trivial⟩ ?_
    intro x1 o5 ho3 hE4
    change awp _ _ _ _ _ ⟨_, _, _, _⟩
    refine awp_seq ?_
    refine awp_region ?_
    refine rv rfl rfl ?_
    refine rn ?_
    refine awp_seq ?_
    refine cs_ rfl (fun hc => ?_) (fun hc => ?_)
    · have ho3 := cT hc ho3
      refine awp_skip ?_
      refine awp_seq ?_
      refine awp_block ?_
      refine awp_seq ?_
      refine awp_region ?_
      refine rvs 2 rfl ?_
      refine rn ?_
      refine awp_seq ?_
      refine awp_region ?_
      refine rv' rfl rfl ?_
      refine rvs 2 rfl ?_
      obtain ⟨x3, hx6, ho3⟩ := bi ho3
      refine ri rfl rfl rfl rfl rfl rfl (gi0 hx6) (giM c_tAttr hx6) (wM (fun _ => by rfl) _) ?_
      refine rv rfl rfl ?_
      obtain ⟨x4, hx7, ho3⟩ := bi ho3
      refine rcf rfl rfl hl_f1 rfl (hf_f1 hx7) ?_
      refine rn ?_
      refine cs_ rfl (fun hc => ?_) (fun hc => ?_)
      · have ho3 := cT hc ho3
        refine awp_seq ?_
        refine awp_region ?_
        refine rvs 2 rfl ?_
        refine rn ?_
        refine awp_ret ?_
        cases ho3
        have hq := hE4 _ rfl
        subst hq
        have h := ksr h
        subst h
        repeat (first | refine then_ret ?_ | refine inBlock_ret ?_ | refine cut_r ?_)
        exact rr rfl rfl rfl
      · have ho3 := cF hc ho3
        refine awp_skip ?_
        refine inBlock_normal ?_
        refine awp_region ?_
        refine rvs 2 rfl ?_
        refine rn ?_
        cases ho3
        exact lp_n [] rfl rfl ⟨rfl, rfl, zA rfl rfl rfl (zA rfl (AV.ren_closed (.fn _ _) hl_f1.lim).symm (limL_mono (Nat.zero_le _) _ hl_f1.lim) (zA rfl rfl rfl (zA rfl rfl rfl (trivial)))), trivial, trivial⟩
    · have ho3 := cF hc ho3
      refine awp_exit ?_
      repeat (first | refine then_exit ?_ | refine cut_x ?_ | refine inBlock_other rfl ?_)
      refine inBlock_exit ?_
      cases ho3
      have hq := hE4 _ rfl
      subst hq
      exact cut_n [] rfl rfl ⟨rfl, rfl, trivial, trivial, trivial⟩
  · rintro _ rfl
    have h := ksl h
    refine awp_seq ?_
    refine awp_region ?_
    refine rv rfl rfl ?_
    refine rn ?_
    refine awp_ret ?_
    cases h
    repeat (first | refine then_ret ?_ | refine inBlock_ret ?_ | refine cut_r ?_)
    exact rr rfl rfl rfl
end

/-- `slices.ContainsFunc[[]plover/api.Attr,plover/api.Attr]` -/
def dslices_ContainsFunc_Attr (fu : Nat) (s1 : List tAttr) (f1 : tAttr → Option Bool) : Option Bool :=
  (dslices_IndexFunc_Attr fu s1 f1).bind fun x1 => some (decide (x1 ≥ 0))
section
attribute [local irreducible] awp aops DP PCall ACall Decidable.decide
theorem dslices_ContainsFunc_Attr_l {fu : Nat} {s1 : List tAttr} {f1 : tAttr → Option Bool} {r : Bool} {k_f1 : FuncId} {cs_f1 : List AV} (hl_f1 : Cl cs_f1) (hf_f1 : ∀ {a0 r}, f1 a0 = some r → PCall Tryd.prog k_f1 ([.agg [.str (sB a0.Name), .bool a0.Text, .int .i64 a0.N, .str (sB a0.S)]] ++ cs_f1) (· = .bool r)) (h : dslices_ContainsFunc_Attr fu s1 f1 = some r) : PCall Tryd.prog 78 [.sl (s1.map c_tAttr), .fn k_f1 cs_f1] (· = .bool r) := by
  rw [dslices_ContainsFunc_Attr] at h
  refine pcall_body Tryd.func78 rfl (by kernel_rfl) (by rfl) ?_
  refine awp_seq ?_
  refine awp_region ?_
  refine rv rfl rfl ?_
  refine rn ?_
  refine awp_seq ?_
  refine awp_region ?_
  refine rv rfl rfl ?_
  refine rv' rfl rfl ?_
  obtain ⟨x1, hx1, h⟩ := bi h
  refine rcE rfl rfl (congrArg (fun z => ([.sl (s1.map c_tAttr), .fn k_f1 z] : List AV)) (hl_f1.snap _)) (by simp only [limL, AV.lim, hl_f1.lim, Bool.and_true, Bool.true_and]; try rfl) (dslices_IndexFunc_Attr_l hl_f1 hf_f1 hx1) ?_
  refine rvs 2 rfl ?_
  refine rn ?_
  refine awp_ret ?_
  cases h
  repeat (first | refine then_ret ?_ | refine inBlock_ret ?_ | refine cut_r ?_)
  exact rr rfl rfl rfl
end

/-- `slices.IndexFunc[[]byte,byte]` -/
def dslices_IndexFunc_byte (fu : Nat) (s1 : Str) (f1 : Int → Option Bool) : Option Int :=
  (loopD (ε := Int) (τ := Unit ⊕ Int) (fun (x1 : Int) => (bif (decide (x1 < (s1.length : Int))) then ((gi s1 x1).bind fun x3 => (f1 (x3.toNat : Int)).bind fun x4 => bif x4 then some (Sum.inr (Sum.inr x1)) else some (Sum.inl (W (x1 + 1)))) else some (Sum.inr (Sum.inl ())))) fu 0).bind fun o => kS o fun (_ : Unit) => some (-1)
section
attribute [local irreducible] awp aops DP PCall ACall Decidable.decide
theorem dslices_IndexFunc_byte_l {fu : Nat} {s1 : Str} {f1 : Int → Option Bool} {r : Int} {k_f1 : FuncId} {cs_f1 : List AV} (hl_f1 : Cl cs_f1) (hf_f1 : ∀ {a0 r}, f1 a0 = some r → PCall Tryd.prog k_f1 ([.int .u8 a0] ++ cs_f1) (· = .bool r)) (h : dslices_IndexFunc_byte fu s1 f1 = some r) : PCall Tryd.prog 107 [.sl (s1.map cU8), .fn k_f1 cs_f1] (· = .int .i64 r) := by
  rw [dslices_IndexFunc_byte] at h
  refine pcall_body Tryd.func107 rfl (by kernel_rfl) (by rfl) ?_
  refine awp_seq ?_
  refine awp_region ?_
  refine rv rfl rfl ?_
  refine rn ?_
  refine awp_seq ?_
  refine awp_seq ?_
  refine awp_region ?_
  refine rv rfl rfl ?_
  refine rv rfl rfl ?_
  refine rt ((lM cU8 s1)) ?_
  refine rv rfl rfl ?_
  refine rn ?_
  obtain ⟨e1, hl2, h⟩ := bi h
  refine awp_cut1 (fun x => Sum.inl x = e1) (fun (_ : Unit) => ⟨[], [], [], 0⟩) ?_ ?_
  · refine awp_block ?_
    refine awp_loopD hl2 (fun (x1 : Int) => ⟨[(0, .sl (s1.map cU8)), (1, .fn k_f1 cs_f1), (7, .int .i64 (s1.length : Int)), (8, .int .i64 x1)], [], [], 0⟩) [] rfl ⟨rfl, rfl, zA rfl rfl rfl (zA rfl (AV.ren_closed (.fn _ _) hl_f1.lim).symm (limL_mono (Nat.zero_le _) _ hl_f1.lim) (zA rfl rfl rfl (zA rfl rfl rfl (trivial)))), trivial, trivial⟩ ?_
    intro x1 o5 ho3 hE4
    change awp _ _ _ _ _ ⟨_, _, _, _⟩
    refine awp_seq ?_
    refine awp_region ?_
    refine rv rfl rfl ?_
    refine rn ?_
    refine awp_seq ?_
    refine cs_ rfl (fun hc => ?_) (fun hc => ?_)
    · have ho3 := cT hc ho3
      refine awp_skip ?_
      refine awp_seq ?_
      refine awp_block ?_
      refine awp_seq ?_
      refine awp_region ?_
      refine rvs 2 rfl ?_
      refine rn ?_
      refine awp_seq ?_
      refine awp_region ?_
      refine rv' rfl rfl ?_
      refine rvs 2 rfl ?_
      obtain ⟨x3, hx6, ho3⟩ := bi ho3
      refine ri rfl rfl rfl rfl rfl rfl (gi0 hx6) (giM cU8 hx6) (wM (fun _ => by rfl) _) ?_
      refine rv rfl rfl ?_
      obtain ⟨x4, hx7, ho3⟩ := bi ho3
      refine rcf rfl rfl hl_f1 rfl (hf_f1 hx7) ?_
      refine rn ?_
      refine cs_ rfl (fun hc => ?_) (fun hc => ?_)
      · have ho3 := cT hc ho3
        refine awp_seq ?_
        refine awp_region ?_
        refine rvs 2 rfl ?_
        refine rn ?_
        refine awp_ret ?_
        cases ho3
        have hq := hE4 _ rfl
        subst hq
        have h := ksr h
        subst h
        repeat (first | refine then_ret ?_ | refine inBlock_ret ?_ | refine cut_r ?_)
        exact rr rfl rfl rfl
      · have ho3 := cF hc ho3
        refine awp_skip ?_
        refine inBlock_normal ?_
        refine awp_region ?_
        refine rvs 2 rfl ?_
        refine rn ?_
        cases ho3
        exact lp_n [] rfl rfl ⟨rfl, rfl, zA rfl rfl rfl (zA rfl (AV.ren_closed (.fn _ _) hl_f1.lim).symm (limL_mono (Nat.zero_le _) _ hl_f1.lim) (zA rfl rfl rfl (zA rfl rfl rfl (trivial)))), trivial, trivial⟩
    · have ho3 := cF hc ho3
      refine awp_exit ?_
      repeat (first | refine then_exit ?_ | refine cut_x ?_ | refine inBlock_other rfl ?_)
      refine inBlock_exit ?_
      cases ho3
      have hq := hE4 _ rfl
      subst hq
      exact cut_n [] rfl rfl ⟨rfl, rfl, trivial, trivial, trivial⟩
  · rintro _ rfl
    have h := ksl h
    refine awp_seq ?_
    refine awp_region ?_
    refine rv rfl rfl ?_
    refine rn ?_
    refine awp_ret ?_
    cases h
    repeat (first | refine then_ret ?_ | refine inBlock_ret ?_ | refine cut_r ?_)
    exact rr rfl rfl rfl
end

/-- `slices.ContainsFunc[[]byte,byte]` -/
def dslices_ContainsFunc_byte (fu : Nat) (s1 : Str) (f1 : Int → Option Bool) : Option Bool :=
  (dslices_IndexFunc_byte fu s1 f1).bind fun x1 => some (decide (x1 ≥ 0))
section
attribute [local irreducible] awp aops DP PCall ACall Decidable.decide
theorem dslices_ContainsFunc_byte_l {fu : Nat} {s1 : Str} {f1 : Int → Option Bool} {r : Bool} {k_f1 : FuncId} {cs_f1 : List AV} (hl_f1 : Cl cs_f1) (hf_f1 : ∀ {a0 r}, f1 a0 = some r → PCall Tryd.prog k_f1 ([.int .u8 a0] ++ cs_f1) (· = .bool r)) (h : dslices_ContainsFunc_byte fu s1 f1 = some r) : PCall Tryd.prog 103 [.sl (s1.map cU8), .fn k_f1 cs_f1] (· = .bool r) := by
  rw [dslices_ContainsFunc_byte] at h
  refine pcall_body Tryd.func103 rfl (by kernel_rfl) (by rfl) ?_
  refine awp_seq ?_
  refine awp_region ?_
  refine rv rfl rfl ?_
  refine rn ?_
  refine awp_seq ?_
  refine awp_region ?_
  refine rv rfl rfl ?_
  refine rv' rfl rfl ?_
  obtain ⟨x1, hx1, h⟩ := bi h
  refine rcE rfl rfl (congrArg (fun z => ([.sl (s1.map cU8), .fn k_f1 z] : List AV)) (hl_f1.snap _)) (by simp only [limL, AV.lim, hl_f1.lim, Bool.and_true, Bool.true_and]; try rfl) (dslices_IndexFunc_byte_l hl_f1 hf_f1 hx1) ?_
  refine rvs 2 rfl ?_
  refine rn ?_
  refine awp_ret ?_
  cases h
  repeat (first | refine then_ret ?_ | refine inBlock_ret ?_ | refine cut_r ?_)
  exact rr rfl rfl rfl
end

/-- `slices.Index[[]int,int]` -/
def dslices_Index_int (fu : Nat) (s1 : List Int) (v1 : Int) : Option Int :=
  (loopD (ε := Int) (τ := Unit ⊕ Int) (fun (x1 : Int) => (bif (decide (x1 < (s1.length : Int))) then ((gi s1 x1).bind fun x3 => bif (v1 == x3) then some (Sum.inr (Sum.inr x1)) else some (Sum.inl (W (x1 + 1)))) else some (Sum.inr (Sum.inl ())))) fu 0).bind fun o => kS o fun (_ : Unit) => some (-1)
section
attribute [local irreducible] awp aops DP PCall ACall Decidable.decide
theorem dslices_Index_int_l {fu : Nat} {s1 : List Int} {v1 : Int} {r : Int} (h : dslices_Index_int fu s1 v1 = some r) : PCall Tryd.prog 106 [.sl (s1.map (cI .i64)), .int .i64 v1] (· = .int .i64 r) := by
  rw [dslices_Index_int] at h
  refine pcall_body Tryd.func106 rfl (by kernel_rfl) (by rfl) ?_
  refine awp_seq ?_
  refine awp_region ?_
  refine rv rfl rfl ?_
  refine rn ?_
  refine awp_seq ?_
  refine awp_seq ?_
  refine awp_region ?_
  refine rv rfl rfl ?_
  refine rv rfl rfl ?_
  refine rt ((lM (cI .i64) s1)) ?_
  refine rv rfl rfl ?_
  refine rn ?_
  obtain ⟨e1, hl2, h⟩ := bi h
  refine awp_cut1 (fun x => Sum.inl x = e1) (fun (_ : Unit) => ⟨[], [], [], 0⟩) ?_ ?_
  · refine awp_block ?_
    refine awp_loopD hl2 (fun (x1 : Int) => ⟨[(0, .sl (s1.map (cI .i64))), (1, .int .i64 v1), (7, .int .i64 (s1.length : Int)), (8, .int .i64 x1)], [], [], 0⟩) [] rfl ⟨rfl, rfl, zA rfl rfl rfl (zA rfl rfl rfl (zA rfl rfl rfl (zA rfl rfl rfl (trivial)))), trivial, trivial⟩ ?_
    intro x1 o5 ho3 hE4
    change awp _ _ _ _ _ ⟨_, _, _, _⟩
    refine awp_seq ?_
    refine awp_region ?_
    refine rv rfl rfl ?_
    refine rn ?_
    refine awp_seq ?_
    refine cs_ rfl (fun hc => ?_) (fun hc => ?_)
    · have ho3 := cT hc ho3
      refine awp_skip ?_
      refine awp_seq ?_
      refine awp_block ?_
      refine awp_seq ?_
      refine awp_region ?_
      refine rvs 2 rfl ?_
      refine rn ?_
      refine awp_seq ?_
      refine awp_region ?_
      refine rvs 3 rfl ?_
      obtain ⟨x3, hx6, ho3⟩ := bi ho3
      refine ri rfl rfl rfl rfl rfl rfl (gi0 hx6) (giM (cI .i64) hx6) (wM (fun _ => by rfl) _) ?_
      refine rvs 2 rfl ?_
      refine rn ?_
      refine cs_ rfl (fun hc => ?_) (fun hc => ?_)
      · have ho3 := cT hc ho3
        refine awp_seq ?_
        refine awp_region ?_
        refine rvs 2 rfl ?_
        refine rn ?_
        refine awp_ret ?_
        cases ho3
        have hq := hE4 _ rfl
        subst hq
        have h := ksr h
        subst h
        repeat (first | refine then_ret ?_ | refine inBlock_ret ?_ | refine cut_r ?_)
        exact rr rfl rfl rfl
      · have ho3 := cF hc ho3
        refine awp_skip ?_
        refine inBlock_normal ?_
        refine awp_region ?_
        refine rvs 2 rfl ?_
        refine rn ?_
        cases ho3
        exact lp_n [] rfl rfl ⟨rfl, rfl, zA rfl rfl rfl (zA rfl rfl rfl (zA rfl rfl rfl (zA rfl rfl rfl (trivial)))), trivial, trivial⟩
    · have ho3 := cF hc ho3
      refine awp_exit ?_
      repeat (first | refine then_exit ?_ | refine cut_x ?_ | refine inBlock_other rfl ?_)
      refine inBlock_exit ?_
      cases ho3
      have hq := hE4 _ rfl
      subst hq
      exact cut_n [] rfl rfl ⟨rfl, rfl, trivial, trivial, trivial⟩
  · rintro _ rfl
    have h := ksl h
    refine awp_seq ?_
    refine awp_region ?_
    refine rv rfl rfl ?_
    refine rn ?_
    refine awp_ret ?_
    cases h
    repeat (first | refine then_ret ?_ | refine inBlock_ret ?_ | refine cut_r ?_)
    exact rr rfl rfl rfl
end

/-- `slices.Contains[[]int,int]` -/
def dslices_Contains_int (fu : Nat) (s1 : List Int) (v1 : Int) : Option Bool :=
  (dslices_Index_int fu s1 v1).bind fun x1 => some (decide (x1 ≥ 0))
section
attribute [local irreducible] awp aops DP PCall ACall Decidable.decide
theorem dslices_Contains_int_l {fu : Nat} {s1 : List Int} {v1 : Int} {r : Bool} (h : dslices_Contains_int fu s1 v1 = some r) : PCall Tryd.prog 100 [.sl (s1.map (cI .i64)), .int .i64 v1] (· = .bool r) := by
  rw [dslices_Contains_int] at h
  refine pcall_body Tryd.func100 rfl (by kernel_rfl) (by rfl) ?_
  refine awp_seq ?_
  refine awp_region ?_
  refine rv rfl rfl ?_
  refine rn ?_
  refine awp_seq ?_
  refine awp_region ?_
  refine rvs 2 rfl ?_
  obtain ⟨x1, hx1, h⟩ := bi h
  refine rc1 rfl rfl rfl (dslices_Index_int_l hx1) ?_
  refine rvs 2 rfl ?_
  refine rn ?_
  refine awp_ret ?_
  cases h
  repeat (first | refine then_ret ?_ | refine inBlock_ret ?_ | refine cut_r ?_)
  exact rr rfl rfl rfl
end

/-- `slices.Equal[[]plover/api.Attr,plover/api.Attr]` -/
def dslices_Equal_Attr (fu : Nat) (s11 : List tAttr) (s21 : List tAttr) : Option Bool :=
  bif ((s11.length : Int) != (s21.length : Int)) then some false else ((loopD (ε := Int) (τ := Unit ⊕ Bool) (fun (x1 : Int) => (bif (decide (x1 < (s11.length : Int))) then ((gi s11 x1).bind fun x3 => (gi s21 x1).bind fun x4 => bif (!((x3.Name == x4.Name) && ((x3.Text == x4.Text) && ((x3.N == x4.N) && ((x3.S == x4.S) && true))))) then some (Sum.inr (Sum.inr false)) else some (Sum.inl (W (x1 + 1)))) else some (Sum.inr (Sum.inl ())))) fu 0).bind fun o => kS o fun (_ : Unit) => some true)
section
attribute [local irreducible] awp aops DP PCall ACall Decidable.decide
theorem dslices_Equal_Attr_l {fu : Nat} {s11 : List tAttr} {s21 : List tAttr} {r : Bool} (h : dslices_Equal_Attr fu s11 s21 = some r) : PCall Tryd.prog 23 [.sl (s11.map c_tAttr), .sl (s21.map c_tAttr)] (· = .bool r) := by
  rw [dslices_Equal_Attr] at h
  refine pcall_body Tryd.func23 rfl (by kernel_rfl) (by rfl) ?_
  refine awp_seq ?_
  refine awp_region ?_
  refine rv rfl rfl ?_
  refine rn ?_
  refine awp_seq ?_
  refine awp_seq ?_
  refine awp_region ?_
  refine rv rfl rfl ?_
  refine rv rfl rfl ?_
  refine rt ((lM c_tAttr s11)) ?_
  refine rv rfl rfl ?_
  refine rv rfl rfl ?_
  refine rt ((lM c_tAttr s21)) ?_
  refine rv rfl rfl ?_
  refine rn ?_
  refine cs_ rfl (fun hc => ?_) (fun hc => ?_)
  · have h := cT hc h
    refine awp_seq ?_
    refine awp_region ?_
    refine rv rfl rfl ?_
    refine rn ?_
    refine awp_ret ?_
    cases h
    repeat (first | refine then_ret ?_ | refine inBlock_ret ?_ | refine cut_r ?_)
    exact rr rfl rfl rfl
  · have h := cF hc h
    refine awp_skip ?_
    refine awp_seq ?_
    refine awp_seq ?_
    refine awp_region ?_
    refine rv rfl rfl ?_
    refine rv rfl rfl ?_
    refine rt ((lM c_tAttr s11)) ?_
    refine rv rfl rfl ?_
    refine rn ?_
    obtain ⟨e1, hl2, h⟩ := bi h
    refine awp_cut1 (fun x => Sum.inl x = e1) (fun (_ : Unit) => ⟨[], [], [], 0⟩) ?_ ?_
    · refine awp_block ?_
      refine awp_loopD hl2 (fun (x1 : Int) => ⟨[(0, .sl (s11.map c_tAttr)), (1, .sl (s21.map c_tAttr)), (12, .int .i64 (s11.length : Int)), (13, .int .i64 x1)], [], [], 0⟩) [] rfl ⟨rfl, rfl, zA rfl rfl rfl (zA rfl rfl rfl (zA rfl rfl rfl (zA rfl rfl rfl (trivial)))), trivial, trivial⟩ ?_
      intro x1 o5 ho3 hE4
      change awp _ _ _ _ _ ⟨_, _, _, _⟩
      refine awp_seq ?_
      refine awp_region ?_
      refine rv rfl rfl ?_
      refine rn ?_
      refine awp_seq ?_
      refine cs_ rfl (fun hc => ?_) (fun hc => ?_)
      · have ho3 := cT hc ho3
        refine awp_skip ?_
        refine awp_seq ?_
        refine awp_block ?_
        refine awp_seq ?_
        refine awp_region ?_
        refine rvs 2 rfl ?_
        refine rn ?_
        refine awp_seq ?_
        refine awp_dp (m := 9) Tryd.mix (by kernel_rfl) (by kernel_rfl) (by kernel_rfl) (by kernel_rfl) (by kernel_rfl) (by kernel_rfl) (by kernel_rfl) ?_
        refine dv rfl rfl (fun _ => rfl) ?_
        refine dv rfl rfl (fun _ => rfl) ?_
        obtain ⟨x3, hx6, ho3⟩ := bi ho3
        refine di rfl rfl rfl rfl rfl (fun _ => rfl) rfl (gi0 hx6) (giM c_tAttr hx6) (wM (fun _ => by rfl) _) ?_
        refine dv rfl rfl (fun _ => rfl) ?_
        refine dv rfl rfl (fun _ => rfl) ?_
        refine dv rfl rfl (fun _ => rfl) ?_
        obtain ⟨x4, hx7, ho3⟩ := bi ho3
        refine di rfl rfl rfl rfl rfl (fun _ => rfl) rfl (gi0 hx7) (giM c_tAttr hx7) (wM (fun _ => by rfl) _) ?_
        refine dv rfl rfl (fun _ => rfl) ?_
        refine dv rfl rfl (fun _ => rfl) ?_
        refine dt (by first | (simp only [toList_sB]; done) | (simp only [toList_sB]; rfl)) ?_
        refine dn ?_
        refine rn ?_
        refine cs_ rfl (fun hc => ?_) (fun hc => ?_)
        · have ho3 := cT hc ho3
          refine awp_seq ?_
          refine awp_region ?_
          refine rv rfl rfl ?_
          refine rn ?_
          refine awp_ret ?_
          cases ho3
          have hq := hE4 _ rfl
          subst hq
          have h := ksr h
          subst h
          repeat (first | refine then_ret ?_ | refine inBlock_ret ?_ | refine cut_r ?_)
          exact rr rfl rfl rfl
        · have ho3 := cF hc ho3
          refine awp_skip ?_
          refine inBlock_normal ?_
          refine awp_region ?_
          refine rvs 2 rfl ?_
          refine rn ?_
          cases ho3
          exact lp_n [] rfl rfl ⟨rfl, rfl, zA rfl rfl rfl (zA rfl rfl rfl (zA rfl rfl rfl (zA rfl rfl rfl (trivial)))), trivial, trivial⟩
      · have ho3 := cF hc ho3
        refine awp_exit ?_
        repeat (first | refine then_exit ?_ | refine cut_x ?_ | refine inBlock_other rfl ?_)
        refine inBlock_exit ?_
        cases ho3
        have hq := hE4 _ rfl
        subst hq
        exact cut_n [] rfl rfl ⟨rfl, rfl, trivial, trivial, trivial⟩
    · rintro _ rfl
      have h := ksl h
      refine awp_seq ?_
      refine awp_region ?_
      refine rv rfl rfl ?_
      refine rn ?_
      refine awp_ret ?_
      cases h
      repeat (first | refine then_ret ?_ | refine inBlock_ret ?_ | refine cut_r ?_)
      exact rr rfl rfl rfl
end

/-- `plover/filter.text$1` -/
def dfilter_text_1 (fu : Nat) (c1 : Int) : Option Bool :=
  bif (decide (c1 < 32)) then some true else (bif (decide (c1 > 126)) then some true else some (c1 == 34))
section
attribute [local irreducible] awp aops DP PCall ACall Decidable.decide
theorem dfilter_text_1_l {fu : Nat} {c1 : Int} {r : Bool} (h : dfilter_text_1 fu c1 = some r) : PCall Tryd.prog 102 [.int .u8 c1] (· = .bool r) := by
  rw [dfilter_text_1] at h
  refine pcall_body Tryd.func102 rfl (by kernel_rfl) (by rfl) ?_
  refine awp_seq ?_
  refine awp_region ?_
  refine rv rfl rfl ?_
  refine rn ?_
  refine awp_seq ?_
  refine awp_region ?_
  refine rvs 3 rfl ?_
  refine gs rfl rfl rfl rfl rfl (fun hg => ?_) (fun hg => ?_)
  · have h := cF hg h
    refine rv rfl rfl ?_
    refine gy rfl rfl rfl ?_
    refine rv rfl rfl ?_
    refine rvs 2 rfl ?_
    refine gs rfl rfl rfl rfl rfl (fun hg => ?_) (fun hg => ?_)
    · have h := cF hg h
      refine rv rfl rfl ?_
      refine gy rfl rfl rfl ?_
      refine rv rfl rfl ?_
      refine rvs 2 rfl ?_
      refine rn ?_
      refine awp_ret ?_
      cases h
      repeat (first | refine then_ret ?_ | refine inBlock_ret ?_ | refine cut_r ?_)
      exact rr rfl rfl rfl
    · have h := cT hg h
      refine gn rfl rfl rfl rfl rfl ?_
      refine rvs 2 rfl ?_
      refine rn ?_
      refine awp_ret ?_
      cases h
      repeat (first | refine then_ret ?_ | refine inBlock_ret ?_ | refine cut_r ?_)
      exact rr rfl rfl rfl
  · have h := cT hg h
    refine gn rfl rfl rfl rfl rfl ?_
    refine rvs 2 rfl ?_
    refine gn rfl rfl rfl rfl rfl ?_
    refine gn rfl rfl rfl rfl rfl ?_
    refine rvs 2 rfl ?_
    refine rn ?_
    refine awp_ret ?_
    cases h
    repeat (first | refine then_ret ?_ | refine inBlock_ret ?_ | refine cut_r ?_)
    exact rr rfl rfl rfl
end

/-- `plover/filter.text` -/
def dfilter_text (fu : Nat) (s1 : Str) : Option Bool :=
  bif (decide ((s1.length : Int) ≤ 200)) then ((dslices_ContainsFunc_byte fu s1 (fun x0 => dfilter_text_1 fu x0)).bind fun x1 => some (!x1)) else some false
section
attribute [local irreducible] awp aops DP PCall ACall Decidable.decide
theorem dfilter_text_l {fu : Nat} {s1 : Str} {r : Bool} (h : dfilter_text fu s1 = some r) : PCall Tryd.prog 93 [.str (sB s1)] (· = .bool r) := by
  rw [dfilter_text] at h
  refine pcall_body Tryd.func93 rfl (by kernel_rfl) (by rfl) ?_
  refine awp_seq ?_
  refine awp_region ?_
  refine rv rfl rfl ?_
  refine rn ?_
  refine awp_seq ?_
  refine awp_region ?_
  refine rv rfl rfl ?_
  refine rn ?_
  refine awp_seq ?_
  refine awp_region ?_
  refine rvs 4 rfl ?_
  refine gs rfl rfl rfl rfl rfl (fun hg => ?_) (fun hg => ?_)
  · have h := cT hg h
    refine rv rfl rfl ?_
    refine gy rfl rfl rfl ?_
    refine rN rfl (na_bytes false rfl rfl rfl rfl rfl rfl rfl) ?_
    refine gy rfl rfl rfl ?_
    refine rv rfl rfl ?_
    refine gy rfl rfl rfl ?_
    obtain ⟨x1, hx1, h⟩ := bi h
    refine rc1 rfl rfl rfl (dslices_ContainsFunc_byte_l ⟨rfl, fun _ => rfl⟩ (fun hq => dfilter_text_1_l hq) hx1) ?_
    refine gy rfl rfl rfl ?_
    refine rv rfl rfl ?_
    refine rvs 2 rfl ?_
    refine rn ?_
    refine awp_ret ?_
    cases h
    repeat (first | refine then_ret ?_ | refine inBlock_ret ?_ | refine cut_r ?_)
    exact rr rfl rfl rfl
  · have h := cF hg h
    refine gn rfl rfl rfl rfl rfl ?_
    refine gn rfl rfl rfl rfl rfl ?_
    refine gn rfl rfl rfl rfl rfl ?_
    refine gn rfl rfl rfl rfl rfl ?_
    refine rvs 2 rfl ?_
    refine rn ?_
    refine awp_ret ?_
    cases h
    repeat (first | refine then_ret ?_ | refine inBlock_ret ?_ | refine cut_r ?_)
    exact rr rfl rfl rfl
end

/-- `plover/filter.value` -/
def dfilter_value (fu : Nat) (a1 : tAttr) : Option Bool :=
  bif a1.Text then ((bif (a1.Name == []) then (bif (a1.N == 0) then ((dfilter_text fu a1.S).bind fun x2 => some x2) else some false) else some false : Option Bool).bind fun (x1 : Bool) => some x1) else (bif (a1.Name == []) then some (a1.S == []) else some false)
section
attribute [local irreducible] awp aops DP PCall ACall Decidable.decide
theorem dfilter_value_l {fu : Nat} {a1 : tAttr} {r : Bool} (h : dfilter_value fu a1 = some r) : PCall Tryd.prog 76 [.agg [.str (sB a1.Name), .bool a1.Text, .int .i64 a1.N, .str (sB a1.S)]] (· = .bool r) := by
  rw [dfilter_value] at h
  refine pcall_body Tryd.func76 rfl (by kernel_rfl) (by rfl) ?_
  refine awp_seq ?_
  refine awp_region ?_
  refine rb rfl rfl ?_
  refine rv rfl rfl ?_
  refine rn ?_
  refine awp_seq ?_
  refine awp_seq ?_
  refine awp_region ?_
  refine rvs 2 rfl ?_
  refine rn ?_
  refine cs_ rfl (fun hc => ?_) (fun hc => ?_)
  · have h := cT hc h
    refine awp_seq ?_
    obtain ⟨o1, ho2, h⟩ := bi h
    refine awp_cut1 (fun x => x = o1) (fun (x1 : Bool) => ⟨[(2, .bool x1)], [], [], 0⟩) ?_ ?_
    · refine awp_region ?_
      refine rvs 2 rfl ?_
      refine rv rfl rfl ?_
      refine rt (sEq a1.Name []) ?_
      refine rv rfl rfl ?_
      refine gs rfl rfl rfl rfl rfl (fun hg => ?_) (fun hg => ?_)
      · have ho2 := cT hg ho2
        refine rv rfl rfl ?_
        refine gy rfl rfl rfl ?_
        refine rv rfl rfl ?_
        refine gy rfl rfl rfl ?_
        refine rv rfl rfl ?_
        refine rvs 2 rfl ?_
        refine gs rfl rfl rfl rfl rfl (fun hg => ?_) (fun hg => ?_)
        · have ho2 := cT hg ho2
          refine rv rfl rfl ?_
          refine gy rfl rfl rfl ?_
          refine rv rfl rfl ?_
          refine gy rfl rfl rfl ?_
          obtain ⟨x2, hx3, ho2⟩ := bi ho2
          refine rc1 rfl rfl rfl (dfilter_text_l hx3) ?_
          refine rvs 2 rfl ?_
          refine rn ?_
          cases ho2
          exact cut_n [] rfl rfl ⟨rfl, rfl, zA rfl rfl rfl (trivial), trivial, trivial⟩
        · have ho2 := cF hg ho2
          refine gn rfl rfl rfl rfl rfl ?_
          refine gn rfl rfl rfl rfl rfl ?_
          refine rvs 2 rfl ?_
          refine rn ?_
          cases ho2
          exact cut_n [] rfl rfl ⟨rfl, rfl, zA rfl rfl rfl (trivial), trivial, trivial⟩
      · have ho2 := cF hg ho2
        refine gn rfl rfl rfl rfl rfl ?_
        refine gn rfl rfl rfl rfl rfl ?_
        refine rvs 2 rfl ?_
        refine gn rfl rfl rfl rfl rfl ?_
        refine gn rfl rfl rfl rfl rfl ?_
        refine gn rfl rfl rfl rfl rfl ?_
        refine rvs 2 rfl ?_
        refine rn ?_
        cases ho2
        exact cut_n [] rfl rfl ⟨rfl, rfl, zA rfl rfl rfl (trivial), trivial, trivial⟩
    · rintro x1 rfl
      change awp _ _ _ _ _ ⟨_, _, _, _⟩
      refine awp_ret ?_
      cases h
      repeat (first | refine then_ret ?_ | refine inBlock_ret ?_ | refine cut_r ?_)
      exact rr rfl rfl rfl
  · have h := cF hc h
    refine awp_skip ?_
    refine awp_seq ?_
    refine awp_region ?_
    refine rvs 2 rfl ?_
    refine rv rfl rfl ?_
    refine rt (sEq a1.Name []) ?_
    refine rv rfl rfl ?_
    refine gs rfl rfl rfl rfl rfl (fun hg => ?_) (fun hg => ?_)
    · have h := cT hg h
      refine rv rfl rfl ?_
      refine gy rfl rfl rfl ?_
      refine rv rfl rfl ?_
      refine gy rfl rfl rfl ?_
      refine rv rfl rfl ?_
      refine rt (sEq a1.S []) ?_
      refine rvs 2 rfl ?_
      refine rn ?_
      refine awp_ret ?_
      cases h
      repeat (first | refine then_ret ?_ | refine inBlock_ret ?_ | refine cut_r ?_)
      exact rr rfl rfl rfl
    · have h := cF hg h
      refine gn rfl rfl rfl rfl rfl ?_
      refine gn rfl rfl rfl rfl rfl ?_
      refine rvs 2 rfl ?_
      refine rn ?_
      refine awp_ret ?_
      cases h
      repeat (first | refine then_ret ?_ | refine inBlock_ret ?_ | refine cut_r ?_)
      exact rr rfl rfl rfl
end

/-- `plover/filter.name` -/
def dfilter_name (fu : Nat) (s1 : Str) : Option Bool :=
  bif (decide ((s1.length : Int) > 20)) then some false else ((dtoken_Cut fu s1).bind fun l1 => bif l1.2.isNone then (bif ((l1.1.length : Int) == 1) then ((gi l1.1 0).bind fun x1 => bif (x1.Kind == 1) then ((gi l1.1 0).bind fun x2 => some (x2.S == s1)) else some false) else some false) else some false)
section
attribute [local irreducible] awp aops DP PCall ACall Decidable.decide
theorem dfilter_name_l {fu : Nat} {s1 : Str} {r : Bool} (h : dfilter_name fu s1 = some r) : PCall Tryd.prog 77 [.str (sB s1)] (· = .bool r) := by
  rw [dfilter_name] at h
  refine pcall_body Tryd.func77 rfl (by kernel_rfl) (by rfl) ?_
  refine awp_seq ?_
  refine awp_region ?_
  refine rv rfl rfl ?_
  refine rn ?_
  refine awp_seq ?_
  refine awp_seq ?_
  refine awp_region ?_
  refine rvs 3 rfl ?_
  refine rn ?_
  refine cs_ rfl (fun hc => ?_) (fun hc => ?_)
  · have h := cT hc h
    refine awp_seq ?_
    refine awp_region ?_
    refine rv rfl rfl ?_
    refine rn ?_
    refine awp_ret ?_
    cases h
    repeat (first | refine then_ret ?_ | refine inBlock_ret ?_ | refine cut_r ?_)
    exact rr rfl rfl rfl
  · have h := cF hc h
    refine awp_skip ?_
    refine awp_seq ?_
    refine awp_region ?_
    refine rv rfl rfl ?_
    obtain ⟨l1, hx1, h⟩ := bi h
    refine rc1 rfl rfl rfl (dtoken_Cut_l hx1) ?_
    refine rvs 5 rfl ?_
    refine rn ?_
    refine awp_seq ?_
    refine awp_region ?_
    refine rv rfl rfl ?_
    refine rV rfl (va_enil rfl rfl rfl) ?_
    refine rv rfl rfl ?_
    refine gs rfl rfl rfl rfl rfl (fun hg => ?_) (fun hg => ?_)
    · have h := cT hg h
      refine rv rfl rfl ?_
      refine gy rfl rfl rfl ?_
      refine rv rfl rfl ?_
      refine rt ((lM c_ttokenToken l1.1)) ?_
      refine gy rfl rfl rfl ?_
      refine rv rfl rfl ?_
      refine rvs 2 rfl ?_
      refine gs rfl rfl rfl rfl rfl (fun hg => ?_) (fun hg => ?_)
      · have h := cT hg h
        refine rv rfl rfl ?_
        refine gy rfl rfl rfl ?_
        obtain ⟨x1, hx2, h⟩ := bi h
        refine ri rfl rfl rfl rfl rfl rfl (gi0 hx2) (giM c_ttokenToken hx2) (wM (fun _ => by rfl) _) ?_
        refine gy rfl rfl rfl ?_
        refine rv rfl rfl ?_
        refine gy rfl rfl rfl ?_
        refine rv rfl rfl ?_
        refine gy rfl rfl rfl ?_
        refine rv rfl rfl ?_
        refine rvs 2 rfl ?_
        refine gs rfl rfl rfl rfl rfl (fun hg => ?_) (fun hg => ?_)
        · have h := cT hg h
          refine rv rfl rfl ?_
          refine gy rfl rfl rfl ?_
          obtain ⟨x2, hx3, h⟩ := bi h
          refine ri rfl rfl rfl rfl rfl rfl (gi0 hx3) (giM c_ttokenToken hx3) (wM (fun _ => by rfl) _) ?_
          refine gy rfl rfl rfl ?_
          refine rv rfl rfl ?_
          refine gy rfl rfl rfl ?_
          refine rv rfl rfl ?_
          refine gy rfl rfl rfl ?_
          refine rv rfl rfl ?_
          refine gy rfl rfl rfl ?_
          refine rv rfl rfl ?_
          refine rt (sEq x2.S s1) ?_
          refine rvs 2 rfl ?_
          refine rn ?_
          refine awp_ret ?_
          cases h
          repeat (first | refine then_ret ?_ | refine inBlock_ret ?_ | refine cut_r ?_)
          exact rr rfl rfl rfl
        · have h := cF hg h
          refine gn rfl rfl rfl rfl rfl ?_
          refine gn rfl rfl rfl rfl rfl ?_
          refine gn rfl rfl rfl rfl rfl ?_
          refine gn rfl rfl rfl rfl rfl ?_
          refine gn rfl rfl rfl rfl rfl ?_
          refine rvs 2 rfl ?_
          refine rn ?_
          refine awp_ret ?_
          cases h
          repeat (first | refine then_ret ?_ | refine inBlock_ret ?_ | refine cut_r ?_)
          exact rr rfl rfl rfl
      · have h := cF hg h
        refine gn rfl rfl rfl rfl rfl ?_
        refine gn rfl rfl rfl rfl rfl ?_
        refine gn rfl rfl rfl rfl rfl ?_
        refine gn rfl rfl rfl rfl rfl ?_
        refine rvs 2 rfl ?_
        refine gn rfl rfl rfl rfl rfl ?_
        refine gn rfl rfl rfl rfl rfl ?_
        refine gn rfl rfl rfl rfl rfl ?_
        refine gn rfl rfl rfl rfl rfl ?_
        refine gn rfl rfl rfl rfl rfl ?_
        refine gn rfl rfl rfl rfl rfl ?_
        refine rvs 2 rfl ?_
        refine rn ?_
        refine awp_ret ?_
        cases h
        repeat (first | refine then_ret ?_ | refine inBlock_ret ?_ | refine cut_r ?_)
        exact rr rfl rfl rfl
    · have h := cF hg h
      refine gn rfl rfl rfl rfl rfl ?_
      refine gn rfl rfl rfl rfl rfl ?_
      refine rvs 2 rfl ?_
      refine gn rfl rfl rfl rfl rfl ?_
      refine gn rfl rfl rfl rfl rfl ?_
      refine gn rfl rfl rfl rfl rfl ?_
      refine gn rfl rfl rfl rfl rfl ?_
      refine gn rfl rfl rfl rfl rfl ?_
      refine rvs 2 rfl ?_
      refine gn rfl rfl rfl rfl rfl ?_
      refine gn rfl rfl rfl rfl rfl ?_
      refine gn rfl rfl rfl rfl rfl ?_
      refine gn rfl rfl rfl rfl rfl ?_
      refine gn rfl rfl rfl rfl rfl ?_
      refine gn rfl rfl rfl rfl rfl ?_
      refine rvs 2 rfl ?_
      refine rn ?_
      refine awp_ret ?_
      cases h
      repeat (first | refine then_ret ?_ | refine inBlock_ret ?_ | refine cut_r ?_)
      exact rr rfl rfl rfl
end

/-- `plover/filter.ops` -/
def dfilter_ops (fu : Nat)  : Option (List Str) :=
  some ([[60], [60, 61], [61], [33, 61], [62, 61], [62]])
section
attribute [local irreducible] awp aops DP PCall ACall Decidable.decide
theorem dfilter_ops_l {fu : Nat}  {r : List Str} (h : dfilter_ops fu  = some r) : PCall Tryd.prog 79 [] (· = .sl (r.map cS)) := by
  rw [dfilter_ops] at h
  refine pcall_body Tryd.func79 rfl (by kernel_rfl) (by rfl) ?_
  refine awp_seq ?_
  refine awp_region ?_
  refine rv rfl rfl ?_
  refine rn ?_
  refine awp_seq ?_
  refine awp_region ?_
  refine rbs false rfl rfl rfl rfl rfl rfl rfl rfl rfl rfl ?_
  refine rv rfl rfl ?_
  refine rn ?_
  refine awp_ret ?_
  cases h
  repeat (first | refine then_ret ?_ | refine inBlock_ret ?_ | refine cut_r ?_)
  exact rr rfl rfl rfl
end

/-- `plover/filter.leaf$1` -/
def dfilter_leaf_1 (fu : Nat) (a1 : tAttr) (c1 : tFilter) : Option Bool :=
  match c1 with | .mk kind1 name1 op1 vals1 l1 => (dfilter_value fu a1).bind fun x1 => bif (!x1) then some true else ((gi vals1 0).bind fun x2 => (some (!(a1.Text == x2.Text))).bind fun x3 => some x3)
section
attribute [local irreducible] awp aops DP PCall ACall Decidable.decide
theorem dfilter_leaf_1_l {fu : Nat} {a1 : tAttr} {c1 : tFilter} {r : Bool} (h : dfilter_leaf_1 fu a1 c1 = some r) : PCall Tryd.prog 75 [.agg [.str (sB a1.Name), .bool a1.Text, .int .i64 a1.N, .str (sB a1.S)], .rd (c_tFilter c1)] (· = .bool r) := by
  obtain ⟨kind1, name1, op1, vals1, l1⟩ := c1
  rw [dfilter_leaf_1] at h
  refine pcall_body Tryd.func75 rfl (by kernel_rfl) (by rfl) ?_
  refine awp_seq ?_
  refine awp_region ?_
  refine rb rfl rfl ?_
  refine rv rfl rfl ?_
  refine rn ?_
  refine awp_seq ?_
  refine awp_dp (m := 13) Tryd.mix (by kernel_rfl) (by kernel_rfl) (by kernel_rfl) (by kernel_rfl) (by kernel_rfl) (by kernel_rfl) (by kernel_rfl) ?_
  refine dv rfl rfl (fun _ => rfl) ?_
  obtain ⟨x1, hx1, h⟩ := bi h
  refine dc rfl rfl rfl rfl (fun _ => rfl) (fun _ => (dfilter_value_l hx1)) ?_
  refine dv rfl rfl (fun _ => rfl) ?_
  refine dv rfl rfl (fun _ => rfl) ?_
  refine ds rfl rfl (fun hg => ?_) (fun hg => ?_)
  · have h := cT hg h
    refine dno rfl rfl ?_
    refine dno rfl rfl ?_
    refine dno rfl rfl ?_
    refine dno rfl rfl ?_
    refine dno rfl rfl ?_
    refine dno rfl rfl ?_
    refine dno rfl rfl ?_
    refine dno rfl rfl ?_
    refine dv rfl rfl (fun _ => rfl) ?_
    refine dn ?_
    refine rv rfl rfl ?_
    refine rn ?_
    refine awp_ret ?_
    cases h
    repeat (first | refine then_ret ?_ | refine inBlock_ret ?_ | refine cut_r ?_)
    exact rr rfl rfl rfl
  · have h := cF hg h
    refine dv rfl rfl (fun _ => rfl) ?_
    refine dv rfl rfl (fun _ => rfl) ?_
    refine dv rfl rfl (fun _ => rfl) ?_
    refine dv rfl rfl (fun _ => rfl) ?_
    obtain ⟨x2, hx2, h⟩ := bi h
    refine di rfl rfl rfl rfl rfl (fun _ => rfl) rfl (gi0 hx2) (giM c_tAttr hx2) (wM (fun _ => by rfl) _) ?_
    refine dv rfl rfl (fun _ => rfl) ?_
    refine dv rfl rfl (fun _ => rfl) ?_
    refine dv rfl rfl (fun _ => rfl) ?_
    refine dv rfl rfl (fun _ => rfl) ?_
    refine dn ?_
    refine rv rfl rfl ?_
    obtain ⟨x3, hx3, h⟩ := bs h
    refine rt (eb' hx3) ?_
    refine rn ?_
    refine awp_ret ?_
    cases h
    repeat (first | refine then_ret ?_ | refine inBlock_ret ?_ | refine cut_r ?_)
    exact rr rfl rfl rfl
end

/-- `plover/filter.leaf` -/
def dfilter_leaf (fu : Nat) (f1 : tFilter) : Option Bool :=
  match f1 with | .mk kind1 name1 op1 vals1 l1 => ((dfilter_name fu name1).bind fun x2 => bif (!x2) then some true else (bif (decide ((l1.length : Int) > 0)) then some true else (bif ((vals1.length : Int) == 0) then some true else ((dslices_ContainsFunc_Attr fu vals1 (fun x0 => dfilter_leaf_1 fu x0 (tFilter.mk kind1 name1 op1 vals1 l1))).bind fun x3 => some x3))) : Option Bool).bind fun (x1 : Bool) => (bif x1 then some false else (bif (kind1 == 4) then ((bif ((vals1.length : Int) == 1) then ((dfilter_ops fu ).bind fun x5 => (dslices_Contains_string fu x5 op1).bind fun x6 => some x6) else some false : Option Bool).bind fun (x4 : Bool) => some x4) else (bif (kind1 == 5) then ((bif ((vals1.length : Int) == 1) then ((gi vals1 0).bind fun x8 => bif x8.Text then some (op1 == []) else some false) else some false : Option Bool).bind fun (x7 : Bool) => some x7) else (bif (decide ((vals1.length : Int) ≤ 20)) then some (op1 == []) else some false))))
section
attribute [local irreducible] awp aops DP PCall ACall Decidable.decide
theorem dfilter_leaf_l {fu : Nat} {f1 : tFilter} {r : Bool} (h : dfilter_leaf fu f1 = some r) : PCall Tryd.prog 62 [.agg (c_tFilter f1)] (· = .bool r) := by
  obtain ⟨kind1, name1, op1, vals1, l1⟩ := f1
  rw [dfilter_leaf] at h
  refine pcall_body Tryd.func62 rfl (by kernel_rfl) (by rfl) ?_
  refine awp_seq ?_
  refine awp_region ?_
  refine rb rfl rfl ?_
  refine rv rfl rfl ?_
  refine rn ?_
  refine awp_seq ?_
  refine awp_region ?_
  refine rvs 2 rfl ?_
  refine rn ?_
  refine awp_seq ?_
  refine awp_seq ?_
  obtain ⟨o1, ho2, h⟩ := bi h
  refine awp_cut1 (fun x => x = o1) (fun (x1 : Bool) => ⟨[(1, .ptr 0 0), (26, .bool x1)], [(0, 0, .int .i64 kind1), (0, 1, .str (sB name1)), (0, 2, .str (sB op1)), (0, 3, .sl (vals1.map c_tAttr)), (0, 4, .sl (cs_tFilter l1))], [], 1⟩) ?_ ?_
  · refine awp_region ?_
    refine rvs 2 rfl ?_
    obtain ⟨x2, hx3, ho2⟩ := bi ho2
    refine rc1 rfl rfl rfl (dfilter_name_l hx3) ?_
    refine rvs 2 rfl ?_
    refine gs rfl rfl rfl rfl rfl (fun hg => ?_) (fun hg => ?_)
    · have ho2 := cF hg ho2
      refine rv rfl rfl ?_
      refine gy rfl rfl rfl ?_
      refine rv rfl rfl ?_
      refine gy rfl rfl rfl ?_
      refine rv rfl rfl ?_
      refine rt ((lM_tFilter l1)) ?_
      refine gy rfl rfl rfl ?_
      refine rv rfl rfl ?_
      refine rvs 2 rfl ?_
      refine gs rfl rfl rfl rfl rfl (fun hg => ?_) (fun hg => ?_)
      · have ho2 := cF hg ho2
        refine rv rfl rfl ?_
        refine gy rfl rfl rfl ?_
        refine rv rfl rfl ?_
        refine gy rfl rfl rfl ?_
        refine rv rfl rfl ?_
        refine rt ((lM c_tAttr vals1)) ?_
        refine gy rfl rfl rfl ?_
        refine rv rfl rfl ?_
        refine rvs 2 rfl ?_
        refine gs rfl rfl rfl rfl rfl (fun hg => ?_) (fun hg => ?_)
        · have ho2 := cF hg ho2
          refine rv rfl rfl ?_
          refine gy rfl rfl rfl ?_
          refine rv rfl rfl ?_
          refine gy rfl rfl rfl ?_
          refine rv rfl rfl ?_
          refine gy rfl rfl rfl ?_
          obtain ⟨x3, hx4, ho2⟩ := bi ho2
          refine rf rfl rfl (dslices_ContainsFunc_Attr_l ⟨rfl, fun _ => rfl⟩ (fun {x0 r} (hq : dfilter_leaf_1 fu x0 (tFilter.mk kind1 name1 op1 vals1 l1) = some r) => have hz := dfilter_leaf_1_l hq; hz) hx4) rfl ?_
          refine rv rfl rfl ?_
          refine rn ?_
          cases ho2
          exact cut_n [0] rfl rfl ⟨rfl, rfl, zA rfl rfl rfl (zA rfl rfl rfl (trivial)), zC rfl rfl rfl rfl (zC rfl rfl rfl rfl (zC rfl rfl rfl rfl (zC rfl rfl rfl rfl (zC rfl rfl rfl rfl (trivial))))), trivial⟩
        · have ho2 := cT hg ho2
          refine gn rfl rfl rfl rfl rfl ?_
          refine gn rfl rfl rfl rfl rfl ?_
          refine gn rfl rfl rfl rfl rfl ?_
          refine rv rfl rfl ?_
          refine rn ?_
          cases ho2
          exact cut_n [0] rfl rfl ⟨rfl, rfl, zA rfl rfl rfl (zA rfl rfl rfl (trivial)), zC rfl rfl rfl rfl (zC rfl rfl rfl rfl (zC rfl rfl rfl rfl (zC rfl rfl rfl rfl (zC rfl rfl rfl rfl (trivial))))), trivial⟩
      · have ho2 := cT hg ho2
        refine gn rfl rfl rfl rfl rfl ?_
        refine gn rfl rfl rfl rfl rfl ?_
        refine gn rfl rfl rfl rfl rfl ?_
        refine rvs 2 rfl ?_
        refine gn rfl rfl rfl rfl rfl ?_
        refine gn rfl rfl rfl rfl rfl ?_
        refine gn rfl rfl rfl rfl rfl ?_
        refine gn rfl rfl rfl rfl rfl ?_
        refine rv rfl rfl ?_
        refine rn ?_
        cases ho2
        exact cut_n [0] rfl rfl ⟨rfl, rfl, zA rfl rfl rfl (zA rfl rfl rfl (trivial)), zC rfl rfl rfl rfl (zC rfl rfl rfl rfl (zC rfl rfl rfl rfl (zC rfl rfl rfl rfl (zC rfl rfl rfl rfl (trivial))))), trivial⟩
    · have ho2 := cT hg ho2
      refine gn rfl rfl rfl rfl rfl ?_
      refine gn rfl rfl rfl rfl rfl ?_
      refine gn rfl rfl rfl rfl rfl ?_
      refine rvs 2 rfl ?_
      refine gn rfl rfl rfl rfl rfl ?_
      refine gn rfl rfl rfl rfl rfl ?_
      refine gn rfl rfl rfl rfl rfl ?_
      refine gn rfl rfl rfl rfl rfl ?_
      refine rvs 2 rfl ?_
      refine gn rfl rfl rfl rfl rfl ?_
      refine gn rfl rfl rfl rfl rfl ?_
      refine gn rfl rfl rfl rfl rfl ?_
      refine gn rfl rfl rfl rfl rfl ?_
      refine rv rfl rfl ?_
      refine rn ?_
      cases ho2
      exact cut_n [0] rfl rfl ⟨rfl, rfl, zA rfl rfl rfl (zA rfl rfl rfl (trivial)), zC rfl rfl rfl rfl (zC rfl rfl rfl rfl (zC rfl rfl rfl rfl (zC rfl rfl rfl rfl (zC rfl rfl rfl rfl (trivial))))), trivial⟩
  · rintro x1 rfl
    change awp _ _ _ _ _ ⟨_, _, _, _⟩
    refine cs_ rfl (fun hc => ?_) (fun hc => ?_)
    · have h := cT hc h
      refine awp_seq ?_
      refine awp_region ?_
      refine rv rfl rfl ?_
      refine rn ?_
      refine awp_ret ?_
      cases h
      repeat (first | refine then_ret ?_ | refine inBlock_ret ?_ | refine cut_r ?_)
      exact rr rfl rfl rfl
    · have h := cF hc h
      refine awp_skip ?_
      refine awp_seq ?_
      refine awp_seq ?_
      refine awp_region ?_
      refine rvs 2 rfl ?_
      refine rn ?_
      refine awp_block ?_
      refine awp_seq ?_
      refine awp_region ?_
      refine rvs 2 rfl ?_
      refine rn ?_
      refine cs_ rfl (fun hc => ?_) (fun hc => ?_)
      · have h := cT hc h
        refine awp_seq ?_
        obtain ⟨o5, ho6, h⟩ := bi h
        refine awp_cut1 (fun x => x = o5) (fun (x4 : Bool) => ⟨[(2, .bool x4)], [], [], 0⟩) ?_ ?_
        · refine awp_dp (m := 10) Tryd.mix (by kernel_rfl) (by kernel_rfl) (by kernel_rfl) (by kernel_rfl) (by kernel_rfl) (by kernel_rfl) (by kernel_rfl) ?_
          refine dv rfl rfl (fun _ => rfl) ?_
          refine dv rfl rfl (fun _ => rfl) ?_
          refine dv rfl rfl (fun _ => rfl) ?_
          refine dt ((lM c_tAttr vals1)) ?_
          refine dv rfl rfl (fun _ => rfl) ?_
          refine dv rfl rfl (fun _ => rfl) ?_
          refine ds rfl rfl (fun hg => ?_) (fun hg => ?_)
          · have ho6 := cT hg ho6
            obtain ⟨x5, hx7, ho6⟩ := bi ho6
            refine dc rfl rfl rfl rfl (fun _ => rfl) (fun _ => (dfilter_ops_l hx7)) ?_
            refine dv rfl rfl (fun _ => rfl) ?_
            refine dv rfl rfl (fun _ => rfl) ?_
            obtain ⟨x6, hx8, ho6⟩ := bi ho6
            refine dc rfl rfl rfl rfl (fun _ => rfl) (fun _ => (dslices_Contains_string_l hx8)) ?_
            refine dv rfl rfl (fun _ => rfl) ?_
            refine dn ?_
            refine rv rfl rfl ?_
            refine rn ?_
            cases ho6
            exact cut_n [] rfl rfl ⟨rfl, rfl, zA rfl rfl rfl (trivial), trivial, trivial⟩
          · have ho6 := cF hg ho6
            refine dno rfl rfl ?_
            refine dno rfl rfl ?_
            refine dno rfl rfl ?_
            refine dno rfl rfl ?_
            refine dv rfl rfl (fun _ => rfl) ?_
            refine dn ?_
            refine rv rfl rfl ?_
            refine rn ?_
            cases ho6
            exact cut_n [] rfl rfl ⟨rfl, rfl, zA rfl rfl rfl (trivial), trivial, trivial⟩
        · rintro x4 rfl
          change awp _ _ _ _ _ ⟨_, _, _, _⟩
          refine awp_ret ?_
          cases h
          repeat (first | refine then_ret ?_ | refine inBlock_ret ?_ | refine cut_r ?_)
          exact rr rfl rfl rfl
      · have h := cF hc h
        refine awp_seq ?_
        refine awp_region ?_
        refine rvs 2 rfl ?_
        refine rn ?_
        refine cs_ rfl (fun hc => ?_) (fun hc => ?_)
        · have h := cT hc h
          refine awp_seq ?_
          obtain ⟨o9, ho10, h⟩ := bi h
          refine awp_cut1 (fun x => x = o9) (fun (x7 : Bool) => ⟨[(2, .bool x7)], [], [], 0⟩) ?_ ?_
          · refine awp_region ?_
            refine rvs 2 rfl ?_
            refine rv rfl rfl ?_
            refine rt ((lM c_tAttr vals1)) ?_
            refine rvs 2 rfl ?_
            refine gs rfl rfl rfl rfl rfl (fun hg => ?_) (fun hg => ?_)
            · have ho10 := cT hg ho10
              refine rv rfl rfl ?_
              refine gy rfl rfl rfl ?_
              refine rv rfl rfl ?_
              refine gy rfl rfl rfl ?_
              obtain ⟨x8, hx11, ho10⟩ := bi ho10
              refine ri rfl rfl rfl rfl rfl rfl (gi0 hx11) (giM c_tAttr hx11) (wM (fun _ => by rfl) _) ?_
              refine gy rfl rfl rfl ?_
              refine rv rfl rfl ?_
              refine gy rfl rfl rfl ?_
              refine rv rfl rfl ?_
              refine rvs 2 rfl ?_
              refine gs rfl rfl rfl rfl rfl (fun hg => ?_) (fun hg => ?_)
              · have ho10 := cT hg ho10
                refine rv rfl rfl ?_
                refine gy rfl rfl rfl ?_
                refine rv rfl rfl ?_
                refine gy rfl rfl rfl ?_
                refine rv rfl rfl ?_
                refine rt (sEq op1 []) ?_
                refine rvs 2 rfl ?_
                refine rn ?_
                cases ho10
                exact cut_n [] rfl rfl ⟨rfl, rfl, zA rfl rfl rfl (trivial), trivial, trivial⟩
              · have ho10 := cF hg ho10
                refine gn rfl rfl rfl rfl rfl ?_
                refine gn rfl rfl rfl rfl rfl ?_
                refine rvs 2 rfl ?_
                refine rn ?_
                cases ho10
                exact cut_n [] rfl rfl ⟨rfl, rfl, zA rfl rfl rfl (trivial), trivial, trivial⟩
            · have ho10 := cF hg ho10
              refine gn rfl rfl rfl rfl rfl ?_
              refine gn rfl rfl rfl rfl rfl ?_
              refine gn rfl rfl rfl rfl rfl ?_
              refine gn rfl rfl rfl rfl rfl ?_
              refine rvs 2 rfl ?_
              refine gn rfl rfl rfl rfl rfl ?_
              refine gn rfl rfl rfl rfl rfl ?_
              refine gn rfl rfl rfl rfl rfl ?_
              refine rvs 2 rfl ?_
              refine rn ?_
              cases ho10
              exact cut_n [] rfl rfl ⟨rfl, rfl, zA rfl rfl rfl (trivial), trivial, trivial⟩
          · rintro x7 rfl
            change awp _ _ _ _ _ ⟨_, _, _, _⟩
            refine awp_ret ?_
            cases h
            repeat (first | refine then_ret ?_ | refine inBlock_ret ?_ | refine cut_r ?_)
            exact rr rfl rfl rfl
        · have h := cF hc h
          refine awp_skip ?_
          refine inBlock_normal ?_
          refine awp_seq ?_
          refine awp_region ?_
          refine rvs 2 rfl ?_
          refine rv rfl rfl ?_
          refine rt ((lM c_tAttr vals1)) ?_
          refine rvs 2 rfl ?_
          refine gs rfl rfl rfl rfl rfl (fun hg => ?_) (fun hg => ?_)
          · have h := cT hg h
            refine rv rfl rfl ?_
            refine gy rfl rfl rfl ?_
            refine rv rfl rfl ?_
            refine gy rfl rfl rfl ?_
            refine rv rfl rfl ?_
            refine rt (sEq op1 []) ?_
            refine rvs 2 rfl ?_
            refine rn ?_
            refine awp_ret ?_
            cases h
            repeat (first | refine then_ret ?_ | refine inBlock_ret ?_ | refine cut_r ?_)
            exact rr rfl rfl rfl
          · have h := cF hg h
            refine gn rfl rfl rfl rfl rfl ?_
            refine gn rfl rfl rfl rfl rfl ?_
            refine rvs 2 rfl ?_
            refine rn ?_
            refine awp_ret ?_
            cases h
            repeat (first | refine then_ret ?_ | refine inBlock_ret ?_ | refine cut_r ?_)
            exact rr rfl rfl rfl
end

/-- `plover/filter.own$1` -/
def dfilter_own_1 (fu : Nat) (x1 : tFilter) (c1 : tFilter) : Option Bool :=
  match x1 with | .mk kind1 name1 op1 vals1 l1 => match c1 with | .mk kind2 name2 op2 vals2 l2 => some (kind1 == kind2)
section
attribute [local irreducible] awp aops DP PCall ACall Decidable.decide
theorem dfilter_own_1_l {fu : Nat} {x1 : tFilter} {c1 : tFilter} {r : Bool} (h : dfilter_own_1 fu x1 c1 = some r) : PCall Tryd.prog 61 [.agg (c_tFilter x1), .rd (c_tFilter c1)] (· = .bool r) := by
  obtain ⟨kind1, name1, op1, vals1, l1⟩ := x1
  obtain ⟨kind2, name2, op2, vals2, l2⟩ := c1
  rw [dfilter_own_1] at h
  refine pcall_body Tryd.func61 rfl (by kernel_rfl) (by rfl) ?_
  refine awp_seq ?_
  refine awp_region ?_
  refine rb rfl rfl ?_
  refine rv rfl rfl ?_
  refine rn ?_
  refine awp_seq ?_
  refine awp_region ?_
  refine rvs 6 rfl ?_
  refine rn ?_
  refine awp_ret ?_
  cases h
  repeat (first | refine then_ret ?_ | refine inBlock_ret ?_ | refine cut_r ?_)
  exact rr rfl rfl rfl
end

/-- `plover/filter.own` -/
def dfilter_own (fu : Nat) (f1 : tFilter) : Option Bool :=
  match f1 with | .mk kind1 name1 op1 vals1 l1 => (bif (name1 == []) then (bif (op1 == []) then ((some ((vals1.length : Int) == 0)).bind fun bare2 => some bare2) else some false) else some false : Option Bool).bind fun (bare1 : Bool) => ((bif (kind1 == 1) then some (kind1 == 1) else some (kind1 == 2) : Option Bool).bind fun (x1 : Bool) => (bif x1 then (bif bare1 then (bif (decide ((l1.length : Int) ≥ 2)) then ((dslices_ContainsFunc_Filter fu l1 (fun x0 => dfilter_own_1 fu x0 (tFilter.mk kind1 name1 op1 vals1 l1))).bind fun x2 => some (!x2)) else some false) else some false) else (bif (kind1 == 3) then (bif bare1 then ((some ((l1.length : Int) == 1)).bind fun x3 => some x3) else some false) else (bif (kind1 == 7) then (bif bare1 then ((some ((l1.length : Int) == 0)).bind fun x4 => some x4) else some false) else ((bif (kind1 == 4) then some (kind1 == 4) else (bif (kind1 == 5) then some (kind1 == 5) else some (kind1 == 6)) : Option Bool).bind fun (x5 : Bool) => (bif x5 then ((dfilter_leaf fu (tFilter.mk kind1 name1 op1 vals1 l1)).bind fun x6 => some x6) else some false))))))
section
attribute [local irreducible] awp aops DP PCall ACall Decidable.decide
theorem dfilter_own_l {fu : Nat} {f1 : tFilter} {r : Bool} (h : dfilter_own fu f1 = some r) : PCall Tryd.prog 49 [.agg (c_tFilter f1)] (· = .bool r) := by
  obtain ⟨kind1, name1, op1, vals1, l1⟩ := f1
  rw [dfilter_own] at h
  refine pcall_body Tryd.func49 rfl (by kernel_rfl) (by rfl) ?_
  refine awp_seq ?_
  refine awp_region ?_
  refine rb rfl rfl ?_
  refine rv rfl rfl ?_
  refine rn ?_
  refine awp_seq ?_
  refine awp_region ?_
  refine rvs 2 rfl ?_
  refine rn ?_
  refine awp_seq ?_
  obtain ⟨o1, ho2, h⟩ := bi h
  refine awp_cut1 (fun x => x = o1) (fun (bare1 : Bool) => ⟨[(1, .ptr 0 0), (3, .fn 61 [.ptr 0 0]), (4, .bool bare1)], [(0, 0, .int .i64 kind1), (0, 1, .str (sB name1)), (0, 2, .str (sB op1)), (0, 3, .sl (vals1.map c_tAttr)), (0, 4, .sl (cs_tFilter l1))], [], 1⟩) ?_ ?_
  · refine awp_region ?_
    refine rvs 2 rfl ?_
    refine rv rfl rfl ?_
    refine rt (sEq name1 []) ?_
    refine rv rfl rfl ?_
    refine gs rfl rfl rfl rfl rfl (fun hg => ?_) (fun hg => ?_)
    · have ho2 := cT hg ho2
      refine rv rfl rfl ?_
      refine gy rfl rfl rfl ?_
      refine rv rfl rfl ?_
      refine gy rfl rfl rfl ?_
      refine rv rfl rfl ?_
      refine rt (sEq op1 []) ?_
      refine rvs 2 rfl ?_
      refine gs rfl rfl rfl rfl rfl (fun hg => ?_) (fun hg => ?_)
      · have ho2 := cT hg ho2
        refine rv rfl rfl ?_
        refine gy rfl rfl rfl ?_
        refine rv rfl rfl ?_
        refine gy rfl rfl rfl ?_
        refine rv rfl rfl ?_
        refine rt ((lM c_tAttr vals1)) ?_
        refine gy rfl rfl rfl ?_
        refine rv rfl rfl ?_
        refine rvs 2 rfl ?_
        obtain ⟨bare2, hx3, ho2⟩ := bs ho2
        refine rt (eb' hx3) ?_
        refine rn ?_
        cases ho2
        exact cut_n [0] rfl rfl ⟨rfl, rfl, zA rfl rfl rfl (zA rfl rfl rfl (zA rfl rfl rfl (trivial))), zC rfl rfl rfl rfl (zC rfl rfl rfl rfl (zC rfl rfl rfl rfl (zC rfl rfl rfl rfl (zC rfl rfl rfl rfl (trivial))))), trivial⟩
      · have ho2 := cF hg ho2
        refine gn rfl rfl rfl rfl rfl ?_
        refine gn rfl rfl rfl rfl rfl ?_
        refine gn rfl rfl rfl rfl rfl ?_
        refine rvs 2 rfl ?_
        refine rn ?_
        cases ho2
        exact cut_n [0] rfl rfl ⟨rfl, rfl, zA rfl rfl rfl (zA rfl rfl rfl (zA rfl rfl rfl (trivial))), zC rfl rfl rfl rfl (zC rfl rfl rfl rfl (zC rfl rfl rfl rfl (zC rfl rfl rfl rfl (zC rfl rfl rfl rfl (trivial))))), trivial⟩
    · have ho2 := cF hg ho2
      refine gn rfl rfl rfl rfl rfl ?_
      refine gn rfl rfl rfl rfl rfl ?_
      refine rvs 2 rfl ?_
      refine gn rfl rfl rfl rfl rfl ?_
      refine gn rfl rfl rfl rfl rfl ?_
      refine gn rfl rfl rfl rfl rfl ?_
      refine gn rfl rfl rfl rfl rfl ?_
      refine rvs 2 rfl ?_
      refine rn ?_
      cases ho2
      exact cut_n [0] rfl rfl ⟨rfl, rfl, zA rfl rfl rfl (zA rfl rfl rfl (zA rfl rfl rfl (trivial))), zC rfl rfl rfl rfl (zC rfl rfl rfl rfl (zC rfl rfl rfl rfl (zC rfl rfl rfl rfl (zC rfl rfl rfl rfl (trivial))))), trivial⟩
  · rintro bare1 rfl
    change awp _ _ _ _ _ ⟨_, _, _, _⟩
    refine awp_seq ?_
    refine awp_seq ?_
    refine awp_region ?_
    refine rvs 2 rfl ?_
    refine rn ?_
    refine awp_block ?_
    refine awp_seq ?_
    refine awp_seq ?_
    refine awp_region ?_
    refine rvs 2 rfl ?_
    refine rn ?_
    obtain ⟨o4, ho5, h⟩ := bi h
    refine awp_cut1 (fun x => x = o4) (fun (x1 : Bool) => ⟨[(1, .ptr 0 0), (3, .fn 61 [.ptr 0 0]), (4, .bool bare1), (21, .int .i64 kind1), (22, .bool x1)], [(0, 0, .int .i64 kind1), (0, 1, .str (sB name1)), (0, 2, .str (sB op1)), (0, 3, .sl (vals1.map c_tAttr)), (0, 4, .sl (cs_tFilter l1))], [], 1⟩) ?_ ?_
    · refine cs_ rfl (fun hc => ?_) (fun hc => ?_)
      · have ho5 := cT hc ho5
        refine awp_skip ?_
        cases ho5
        exact cut_n [0] rfl rfl ⟨rfl, rfl, zA rfl rfl rfl (zA rfl rfl rfl (zA rfl rfl rfl (zA rfl rfl rfl (zA rfl rfl rfl (trivial))))), zC rfl rfl rfl rfl (zC rfl rfl rfl rfl (zC rfl rfl rfl rfl (zC rfl rfl rfl rfl (zC rfl rfl rfl rfl (trivial))))), trivial⟩
      · have ho5 := cF hc ho5
        refine awp_region ?_
        refine rvs 2 rfl ?_
        refine rn ?_
        cases ho5
        exact cut_n [0] rfl rfl ⟨rfl, rfl, zA rfl rfl rfl (zA rfl rfl rfl (zA rfl rfl rfl (zA rfl rfl rfl (zA rfl rfl rfl (trivial))))), zC rfl rfl rfl rfl (zC rfl rfl rfl rfl (zC rfl rfl rfl rfl (zC rfl rfl rfl rfl (zC rfl rfl rfl rfl (trivial))))), trivial⟩
    · rintro x1 rfl
      change awp _ _ _ _ _ ⟨_, _, _, _⟩
      refine cs_ rfl (fun hc => ?_) (fun hc => ?_)
      · have h := cT hc h
        refine awp_seq ?_
        refine awp_region ?_
        refine rvs 2 rfl ?_
        refine gs rfl rfl rfl rfl rfl (fun hg => ?_) (fun hg => ?_)
        · have h := cT hg h
          refine rv rfl rfl ?_
          refine gy rfl rfl rfl ?_
          refine rv rfl rfl ?_
          refine gy rfl rfl rfl ?_
          refine rv rfl rfl ?_
          refine rt ((lM_tFilter l1)) ?_
          refine gy rfl rfl rfl ?_
          refine rv rfl rfl ?_
          refine rvs 2 rfl ?_
          refine gs rfl rfl rfl rfl rfl (fun hg => ?_) (fun hg => ?_)
          · have h := cT hg h
            refine rv rfl rfl ?_
            refine gy rfl rfl rfl ?_
            refine rv rfl rfl ?_
            refine gy rfl rfl rfl ?_
            refine rv rfl rfl ?_
            refine gy rfl rfl rfl ?_
            obtain ⟨x2, hx6, h⟩ := bi h
            refine rf rfl rfl (dslices_ContainsFunc_Filter_l ⟨rfl, fun _ => rfl⟩ (fun {x0 r} (hq : dfilter_own_1 fu x0 (tFilter.mk kind1 name1 op1 vals1 l1) = some r) => have hz := dfilter_own_1_l hq; hz) hx6) rfl ?_
            refine gy rfl rfl rfl ?_
            refine rv rfl rfl ?_
            refine rvs 2 rfl ?_
            refine rn ?_
            refine awp_ret ?_
            cases h
            repeat (first | refine then_ret ?_ | refine inBlock_ret ?_ | refine cut_r ?_)
            exact rr rfl rfl rfl
          · have h := cF hg h
            refine gn rfl rfl rfl rfl rfl ?_
            refine gn rfl rfl rfl rfl rfl ?_
            refine gn rfl rfl rfl rfl rfl ?_
            refine gn rfl rfl rfl rfl rfl ?_
            refine rvs 2 rfl ?_
            refine rn ?_
            refine awp_ret ?_
            cases h
            repeat (first | refine then_ret ?_ | refine inBlock_ret ?_ | refine cut_r ?_)
            exact rr rfl rfl rfl
        · have h := cF hg h
          refine gn rfl rfl rfl rfl rfl ?_
          refine gn rfl rfl rfl rfl rfl ?_
          refine gn rfl rfl rfl rfl rfl ?_
          refine rvs 2 rfl ?_
          refine gn rfl rfl rfl rfl rfl ?_
          refine gn rfl rfl rfl rfl rfl ?_
          refine gn rfl rfl rfl rfl rfl ?_
          refine gn rfl rfl rfl rfl rfl ?_
          refine gn rfl rfl rfl rfl rfl ?_
          refine rvs 2 rfl ?_
          refine rn ?_
          refine awp_ret ?_
          cases h
          repeat (first | refine then_ret ?_ | refine inBlock_ret ?_ | refine cut_r ?_)
          exact rr rfl rfl rfl
      · have h := cF hc h
        refine awp_seq ?_
        refine awp_region ?_
        refine rvs 2 rfl ?_
        refine rn ?_
        refine cs_ rfl (fun hc => ?_) (fun hc => ?_)
        · have h := cT hc h
          refine awp_seq ?_
          refine awp_region ?_
          refine rvs 2 rfl ?_
          refine gs rfl rfl rfl rfl rfl (fun hg => ?_) (fun hg => ?_)
          · have h := cT hg h
            refine rv rfl rfl ?_
            refine gy rfl rfl rfl ?_
            refine rv rfl rfl ?_
            refine gy rfl rfl rfl ?_
            refine rv rfl rfl ?_
            refine rt ((lM_tFilter l1)) ?_
            refine gy rfl rfl rfl ?_
            refine rv rfl rfl ?_
            refine rvs 2 rfl ?_
            obtain ⟨x3, hx7, h⟩ := bs h
            refine rt (eb' hx7) ?_
            refine rn ?_
            refine awp_ret ?_
            cases h
            repeat (first | refine then_ret ?_ | refine inBlock_ret ?_ | refine cut_r ?_)
            exact rr rfl rfl rfl
          · have h := cF hg h
            refine gn rfl rfl rfl rfl rfl ?_
            refine gn rfl rfl rfl rfl rfl ?_
            refine gn rfl rfl rfl rfl rfl ?_
            refine rvs 2 rfl ?_
            refine rn ?_
            refine awp_ret ?_
            cases h
            repeat (first | refine then_ret ?_ | refine inBlock_ret ?_ | refine cut_r ?_)
            exact rr rfl rfl rfl
        · have h := cF hc h
          refine awp_seq ?_
          refine awp_region ?_
          refine rvs 2 rfl ?_
          refine rn ?_
          refine cs_ rfl (fun hc => ?_) (fun hc => ?_)
          · have h := cT hc h
            refine awp_seq ?_
            refine awp_region ?_
            refine rvs 2 rfl ?_
            refine gs rfl rfl rfl rfl rfl (fun hg => ?_) (fun hg => ?_)
            · have h := cT hg h
              refine rv rfl rfl ?_
              refine gy rfl rfl rfl ?_
              refine rv rfl rfl ?_
              refine gy rfl rfl rfl ?_
              refine rv rfl rfl ?_
              refine rt ((lM_tFilter l1)) ?_
              refine gy rfl rfl rfl ?_
              refine rv rfl rfl ?_
              refine rvs 2 rfl ?_
              obtain ⟨x4, hx8, h⟩ := bs h
              refine rt (eb' hx8) ?_
              refine rn ?_
              refine awp_ret ?_
              cases h
              repeat (first | refine then_ret ?_ | refine inBlock_ret ?_ | refine cut_r ?_)
              exact rr rfl rfl rfl
            · have h := cF hg h
              refine gn rfl rfl rfl rfl rfl ?_
              refine gn rfl rfl rfl rfl rfl ?_
              refine gn rfl rfl rfl rfl rfl ?_
              refine rvs 2 rfl ?_
              refine rn ?_
              refine awp_ret ?_
              cases h
              repeat (first | refine then_ret ?_ | refine inBlock_ret ?_ | refine cut_r ?_)
              exact rr rfl rfl rfl
          · have h := cF hc h
            refine awp_seq ?_
            refine awp_seq ?_
            refine awp_region ?_
            refine rvs 2 rfl ?_
            refine rn ?_
            obtain ⟨o9, ho10, h⟩ := bi h
            refine awp_cut1 (fun x => x = o9) (fun (x5 : Bool) => ⟨[(1, .ptr 0 0), (57, .bool x5)], [(0, 0, .int .i64 kind1), (0, 1, .str (sB name1)), (0, 2, .str (sB op1)), (0, 3, .sl (vals1.map c_tAttr)), (0, 4, .sl (cs_tFilter l1))], [], 1⟩) ?_ ?_
            · refine cs_ rfl (fun hc => ?_) (fun hc => ?_)
              · have ho10 := cT hc ho10
                refine awp_skip ?_
                cases ho10
                exact cut_n [0] rfl rfl ⟨rfl, rfl, zA rfl rfl rfl (zA rfl rfl rfl (trivial)), zC rfl rfl rfl rfl (zC rfl rfl rfl rfl (zC rfl rfl rfl rfl (zC rfl rfl rfl rfl (zC rfl rfl rfl rfl (trivial))))), trivial⟩
              · have ho10 := cF hc ho10
                refine awp_seq ?_
                refine awp_region ?_
                refine rvs 2 rfl ?_
                refine rn ?_
                refine cs_ rfl (fun hc => ?_) (fun hc => ?_)
                · have ho10 := cT hc ho10
                  refine awp_skip ?_
                  cases ho10
                  exact cut_n [0] rfl rfl ⟨rfl, rfl, zA rfl rfl rfl (zA rfl rfl rfl (trivial)), zC rfl rfl rfl rfl (zC rfl rfl rfl rfl (zC rfl rfl rfl rfl (zC rfl rfl rfl rfl (zC rfl rfl rfl rfl (trivial))))), trivial⟩
                · have ho10 := cF hc ho10
                  refine awp_region ?_
                  refine rvs 2 rfl ?_
                  refine rn ?_
                  cases ho10
                  exact cut_n [0] rfl rfl ⟨rfl, rfl, zA rfl rfl rfl (zA rfl rfl rfl (trivial)), zC rfl rfl rfl rfl (zC rfl rfl rfl rfl (zC rfl rfl rfl rfl (zC rfl rfl rfl rfl (zC rfl rfl rfl rfl (trivial))))), trivial⟩
            · rintro x5 rfl
              change awp _ _ _ _ _ ⟨_, _, _, _⟩
              refine cs_ rfl (fun hc => ?_) (fun hc => ?_)
              · have h := cT hc h
                refine awp_seq ?_
                refine awp_region ?_
                refine rv rfl rfl ?_
                obtain ⟨x6, hx11, h⟩ := bi h
                refine rc1 rfl rfl rfl (dfilter_leaf_l hx11) ?_
                refine rv rfl rfl ?_
                refine rn ?_
                refine awp_ret ?_
                cases h
                repeat (first | refine then_ret ?_ | refine inBlock_ret ?_ | refine cut_r ?_)
                exact rr rfl rfl rfl
              · have h := cF hc h
                refine awp_skip ?_
                refine inBlock_normal ?_
                refine awp_seq ?_
                refine awp_region ?_
                refine rv rfl rfl ?_
                refine rn ?_
                refine awp_ret ?_
                cases h
                repeat (first | refine then_ret ?_ | refine inBlock_ret ?_ | refine cut_r ?_)
                exact rr rfl rfl rfl
end

mutual
def dfilter_size : Nat → tFilter → Option (Int × Int)
  | 0, _ => none
  | fu + 1, f1 => match f1 with | .mk kind1 name1 op1 vals1 l1 => (loopD (ε := Int × Int × Int) (τ := Int × Int) (fun (((deep1, nodes1, x1)) : Int × Int × Int) => (bif (decide (x1 < (l1.length : Int))) then ((gi l1 x1).bind fun x3 => match x3 with | .mk kind2 name2 op2 vals2 l2 => (dfilter_size fu (tFilter.mk kind2 name2 op2 vals2 l2)).bind fun d1 => (some (if d1.1 > deep1 then d1.1 else deep1)).bind fun deep4 => (some (W (nodes1 + d1.2))).bind fun nodes4 => some (Sum.inl (deep4, nodes4, W (x1 + 1)))) else some (Sum.inr (deep1, nodes1)))) fu (0, 1, 0)).bind fun (((deep3, nodes3)) : Int × Int) => some (W (deep3 + 1), nodes3)
end
section
attribute [local irreducible] awp aops DP PCall ACall Decidable.decide
/-- `plover/filter.size` -/
theorem dfilter_size_s {fu : Nat} (ih_dfilter_size : ∀ {f1} {r : Int × Int}, dfilter_size fu f1 = some r → PCall Tryd.prog 38 [.agg (c_tFilter f1)] (· = .tup [.int .i64 r.1, .int .i64 r.2])) : ∀ {f1} {r : Int × Int}, dfilter_size (fu + 1) f1 = some r → PCall Tryd.prog 38 [.agg (c_tFilter f1)] (· = .tup [.int .i64 r.1, .int .i64 r.2]) := by
  intro f1 r h
  obtain ⟨kind1, name1, op1, vals1, l1⟩ := f1
  rw [dfilter_size] at h
  refine pcall_body Tryd.func38 rfl (by kernel_rfl) (by rfl) ?_
  refine awp_seq ?_
  refine awp_region ?_
  refine rb rfl rfl ?_
  refine rvs 2 rfl ?_
  refine rn ?_
  refine awp_seq ?_
  refine awp_region ?_
  refine rvs 2 rfl ?_
  refine rn ?_
  refine awp_seq ?_
  refine awp_seq ?_
  refine awp_region ?_
  refine rvs 2 rfl ?_
  refine rv rfl rfl ?_
  refine rt ((lM_tFilter l1)) ?_
  refine rv rfl rfl ?_
  refine rn ?_
  obtain ⟨e1, hl2, h⟩ := bi h
  refine awp_cut1 (fun x => x = e1) (fun (((deep3, nodes3)) : Int × Int) => ⟨[(4, .int .i64 deep3), (5, .int .i64 nodes3)], [], [], 0⟩) ?_ ?_
  · refine awp_block ?_
    refine awp_loopD hl2 (fun (((deep1, nodes1, x1)) : Int × Int × Int) => ⟨[(4, .int .i64 deep1), (5, .int .i64 nodes1), (11, .sl (cs_tFilter l1)), (12, .int .i64 (l1.length : Int)), (13, .int .i64 x1)], [], [], 0⟩) [] rfl ⟨rfl, rfl, zA rfl rfl rfl (zA rfl rfl rfl (zA rfl rfl rfl (zA rfl rfl rfl (zA rfl rfl rfl (trivial))))), trivial, trivial⟩ ?_
    intro v o5 ho3 hE4
    obtain ⟨deep1, nodes1, x1⟩ := v
    change awp _ _ _ _ _ ⟨_, _, _, _⟩
    refine awp_seq ?_
    refine awp_region ?_
    refine rv rfl rfl ?_
    refine rn ?_
    refine awp_seq ?_
    refine cs_ rfl (fun hc => ?_) (fun hc => ?_)
    · have ho3 := cT hc ho3
      refine awp_skip ?_
      refine awp_seq ?_
      refine awp_block ?_
      refine awp_seq ?_
      refine awp_region ?_
      obtain ⟨x3, hx6, ho3⟩ := bi ho3
      refine ri rfl rfl rfl rfl rfl rfl (gi0 hx6) (giM_tFilter hx6) (wM_tFilter _) ?_
      obtain ⟨kind2, name2, op2, vals2, l2⟩ := x3
      refine rv rfl rfl ?_
      refine ra rfl rfl rfl ?_
      refine rs rfl rfl rfl rfl rfl rfl rfl ?_
      refine rn ?_
      refine awp_seq ?_
      refine awp_region ?_
      refine rv rfl rfl ?_
      obtain ⟨d1, hx7, ho3⟩ := bi ho3
      refine rc1 rfl rfl rfl (ih_dfilter_size hx7) ?_
      refine rvs 5 rfl ?_
      refine rn ?_
      refine awp_region ?_
      refine rvs 7 rfl ?_
      obtain ⟨deep4, hx8, ho3⟩ := bs ho3
      refine rt (ei' hx8) ?_
      refine rv rfl rfl ?_
      obtain ⟨nodes4, hx9, ho3⟩ := bs ho3
      refine rt (ei' hx9) ?_
      refine rn ?_
      refine inBlock_normal ?_
      refine awp_region ?_
      refine rvs 2 rfl ?_
      refine rn ?_
      cases ho3
      exact lp_n [] rfl rfl ⟨rfl, rfl, zA rfl rfl rfl (zA rfl rfl rfl (zA rfl rfl rfl (zA rfl rfl rfl (zA rfl rfl rfl (trivial))))), trivial, trivial⟩
    · have ho3 := cF hc ho3
      refine awp_exit ?_
      repeat (first | refine then_exit ?_ | refine cut_x ?_ | refine inBlock_other rfl ?_)
      refine inBlock_exit ?_
      cases ho3
      have hq := hE4 _ rfl
      subst hq
      exact cut_n [] rfl rfl ⟨rfl, rfl, zA rfl rfl rfl (zA rfl rfl rfl (trivial)), trivial, trivial⟩
  · rintro ⟨deep3, nodes3⟩ rfl
    change awp _ _ _ _ _ ⟨_, _, _, _⟩
    refine awp_seq ?_
    refine awp_region ?_
    refine rvs 5 rfl ?_
    refine rn ?_
    refine awp_ret ?_
    cases h
    repeat (first | refine then_ret ?_ | refine inBlock_ret ?_ | refine cut_r ?_)
    exact rr rfl rfl rfl
end

theorem dfilter_size_l : ∀ {fu : Nat}, ∀ {f1} {r : Int × Int}, dfilter_size fu f1 = some r → PCall Tryd.prog 38 [.agg (c_tFilter f1)] (· = .tup [.int .i64 r.1, .int .i64 r.2])
  | 0 => fun h => by simp [dfilter_size] at h
  | fu + 1 => dfilter_size_s (fu := fu) (dfilter_size_l (fu := fu))
mutual
def dfilter_fine : Nat → tFilter → Option Bool
  | 0, _ => none
  | fu + 1, f1 => match f1 with | .mk kind1 name1 op1 vals1 l1 => (dfilter_own fu (tFilter.mk kind1 name1 op1 vals1 l1)).bind fun x1 => bif x1 then ((dslices_ContainsFunc_Filter fu l1 (fun x0 => dfilter_fine_1 fu x0)).bind fun x2 => some (!x2)) else some false
def dfilter_fine_1 : Nat → tFilter → Option Bool
  | 0, _ => none
  | fu + 1, x1 => match x1 with | .mk kind1 name1 op1 vals1 l1 => (dfilter_fine fu (tFilter.mk kind1 name1 op1 vals1 l1)).bind fun x2 => some (!x2)
end
section
attribute [local irreducible] awp aops DP PCall ACall Decidable.decide
/-- `plover/filter.fine` -/
theorem dfilter_fine_s {fu : Nat} (ih_dfilter_fine : ∀ {f1} {r : Bool}, dfilter_fine fu f1 = some r → PCall Tryd.prog 39 [.agg (c_tFilter f1)] (· = .bool r)) (ih_dfilter_fine_1 : ∀ {x1} {r : Bool}, dfilter_fine_1 fu x1 = some r → PCall Tryd.prog 51 [.agg (c_tFilter x1)] (· = .bool r)) : ∀ {f1} {r : Bool}, dfilter_fine (fu + 1) f1 = some r → PCall Tryd.prog 39 [.agg (c_tFilter f1)] (· = .bool r) := by
  intro f1 r h
  obtain ⟨kind1, name1, op1, vals1, l1⟩ := f1
  rw [dfilter_fine] at h
  refine pcall_body Tryd.func39 rfl (by kernel_rfl) (by rfl) ?_
  refine awp_seq ?_
  refine awp_region ?_
  refine rb rfl rfl ?_
  refine rv rfl rfl ?_
  refine rn ?_
  refine awp_seq ?_
  refine awp_region ?_
  refine rv rfl rfl ?_
  obtain ⟨x1, hx1, h⟩ := bi h
  refine rc1 rfl rfl rfl (dfilter_own_l hx1) ?_
  refine rv rfl rfl ?_
  refine gs rfl rfl rfl rfl rfl (fun hg => ?_) (fun hg => ?_)
  · have h := cT hg h
    refine rv rfl rfl ?_
    refine gy rfl rfl rfl ?_
    refine rv rfl rfl ?_
    refine gy rfl rfl rfl ?_
    obtain ⟨x2, hx2, h⟩ := bi h
    refine rc1 rfl rfl rfl (dslices_ContainsFunc_Filter_l ⟨rfl, fun _ => rfl⟩ (fun hq => ih_dfilter_fine_1 hq) hx2) ?_
    refine gy rfl rfl rfl ?_
    refine rv rfl rfl ?_
    refine rvs 2 rfl ?_
    refine rn ?_
    refine awp_ret ?_
    cases h
    repeat (first | refine then_ret ?_ | refine inBlock_ret ?_ | refine cut_r ?_)
    exact rr rfl rfl rfl
  · have h := cF hg h
    refine gn rfl rfl rfl rfl rfl ?_
    refine gn rfl rfl rfl rfl rfl ?_
    refine gn rfl rfl rfl rfl rfl ?_
    refine rvs 2 rfl ?_
    refine rn ?_
    refine awp_ret ?_
    cases h
    repeat (first | refine then_ret ?_ | refine inBlock_ret ?_ | refine cut_r ?_)
    exact rr rfl rfl rfl
end

section
attribute [local irreducible] awp aops DP PCall ACall Decidable.decide
/-- `plover/filter.fine$1` -/
theorem dfilter_fine_1_s {fu : Nat} (ih_dfilter_fine : ∀ {f1} {r : Bool}, dfilter_fine fu f1 = some r → PCall Tryd.prog 39 [.agg (c_tFilter f1)] (· = .bool r)) (ih_dfilter_fine_1 : ∀ {x1} {r : Bool}, dfilter_fine_1 fu x1 = some r → PCall Tryd.prog 51 [.agg (c_tFilter x1)] (· = .bool r)) : ∀ {x1} {r : Bool}, dfilter_fine_1 (fu + 1) x1 = some r → PCall Tryd.prog 51 [.agg (c_tFilter x1)] (· = .bool r) := by
  intro x1 r h
  obtain ⟨kind1, name1, op1, vals1, l1⟩ := x1
  rw [dfilter_fine_1] at h
  refine pcall_body Tryd.func51 rfl (by kernel_rfl) (by rfl) ?_
  refine awp_seq ?_
  refine awp_region ?_
  refine rb rfl rfl ?_
  refine rv rfl rfl ?_
  refine rn ?_
  refine awp_seq ?_
  refine awp_region ?_
  refine rv rfl rfl ?_
  obtain ⟨x2, hx1, h⟩ := bi h
  refine rc1 rfl rfl rfl (ih_dfilter_fine hx1) ?_
  refine rvs 2 rfl ?_
  refine rn ?_
  refine awp_ret ?_
  cases h
  repeat (first | refine then_ret ?_ | refine inBlock_ret ?_ | refine cut_r ?_)
  exact rr rfl rfl rfl
end

theorem rec_dfilter_fine : ∀ fu : Nat, (∀ {f1} {r : Bool}, dfilter_fine fu f1 = some r → PCall Tryd.prog 39 [.agg (c_tFilter f1)] (· = .bool r)) ∧ (∀ {x1} {r : Bool}, dfilter_fine_1 fu x1 = some r → PCall Tryd.prog 51 [.agg (c_tFilter x1)] (· = .bool r))
  | 0 => ⟨fun h => by simp [dfilter_fine] at h, fun h => by simp [dfilter_fine_1] at h⟩
  | fu + 1 => by
    obtain ⟨i0, i1⟩ := rec_dfilter_fine fu
    exact ⟨dfilter_fine_s i0 i1, dfilter_fine_1_s i0 i1⟩
theorem dfilter_fine_l {fu : Nat} : ∀ {f1} {r : Bool}, dfilter_fine fu f1 = some r → PCall Tryd.prog 39 [.agg (c_tFilter f1)] (· = .bool r) := (rec_dfilter_fine fu).1
theorem dfilter_fine_1_l {fu : Nat} : ∀ {x1} {r : Bool}, dfilter_fine_1 fu x1 = some r → PCall Tryd.prog 51 [.agg (c_tFilter x1)] (· = .bool r) := (rec_dfilter_fine fu).2
/-- `plover/filter.May` -/
def dfilter_May (fu : Nat) (f1 : tFilter) : Option Bool :=
  match f1 with | .mk kind1 name1 op1 vals1 l1 => (dfilter_size fu (tFilter.mk kind1 name1 op1 vals1 l1)).bind fun deep1 => bif (decide (deep1.1 ≤ 10)) then (bif (decide (deep1.2 ≤ 60)) then ((dfilter_fine fu (tFilter.mk kind1 name1 op1 vals1 l1)).bind fun x1 => some x1) else some false) else some false
section
attribute [local irreducible] awp aops DP PCall ACall Decidable.decide
theorem dfilter_May_l {fu : Nat} {f1 : tFilter} {r : Bool} (h : dfilter_May fu f1 = some r) : PCall Tryd.prog 19 [.agg (c_tFilter f1)] (· = .bool r) := by
  obtain ⟨kind1, name1, op1, vals1, l1⟩ := f1
  rw [dfilter_May] at h
  refine pcall_body Tryd.func19 rfl (by kernel_rfl) (by rfl) ?_
  refine awp_seq ?_
  refine awp_region ?_
  refine rb rfl rfl ?_
  refine rv rfl rfl ?_
  refine rn ?_
  refine awp_seq ?_
  refine awp_region ?_
  refine rv rfl rfl ?_
  obtain ⟨deep1, hx1, h⟩ := bi h
  refine rc1 rfl rfl rfl (dfilter_size_l hx1) ?_
  refine rvs 5 rfl ?_
  refine rn ?_
  refine awp_seq ?_
  refine awp_region ?_
  refine rvs 3 rfl ?_
  refine gs rfl rfl rfl rfl rfl (fun hg => ?_) (fun hg => ?_)
  · have h := cT hg h
    refine rv rfl rfl ?_
    refine gy rfl rfl rfl ?_
    refine rv rfl rfl ?_
    refine rvs 2 rfl ?_
    refine gs rfl rfl rfl rfl rfl (fun hg => ?_) (fun hg => ?_)
    · have h := cT hg h
      refine rv rfl rfl ?_
      refine gy rfl rfl rfl ?_
      obtain ⟨x1, hx2, h⟩ := bi h
      refine rc1 rfl rfl rfl (dfilter_fine_l hx2) ?_
      refine rvs 2 rfl ?_
      refine rn ?_
      refine awp_ret ?_
      cases h
      repeat (first | refine then_ret ?_ | refine inBlock_ret ?_ | refine cut_r ?_)
      exact rr rfl rfl rfl
    · have h := cF hg h
      refine gn rfl rfl rfl rfl rfl ?_
      refine rvs 2 rfl ?_
      refine rn ?_
      refine awp_ret ?_
      cases h
      repeat (first | refine then_ret ?_ | refine inBlock_ret ?_ | refine cut_r ?_)
      exact rr rfl rfl rfl
  · have h := cF hg h
    refine gn rfl rfl rfl rfl rfl ?_
    refine rvs 2 rfl ?_
    refine gn rfl rfl rfl rfl rfl ?_
    refine gn rfl rfl rfl rfl rfl ?_
    refine rvs 2 rfl ?_
    refine rn ?_
    refine awp_ret ?_
    cases h
    repeat (first | refine then_ret ?_ | refine inBlock_ret ?_ | refine cut_r ?_)
    exact rr rfl rfl rfl
end

/-- `slices.EqualFunc[[]plover/api.Filter,[]plover/api.Filter,plover/api.Filter,plover/api.Filter]` -/
def dslices_EqualFunc_Filter (fu : Nat) (s11 : List tFilter) (s21 : List tFilter) (eq1 : tFilter → tFilter → Option Bool) : Option Bool :=
  bif ((s11.length : Int) != (s21.length : Int)) then some false else ((loopD (ε := Int) (τ := Unit ⊕ Bool) (fun (x1 : Int) => (bif (decide (x1 < (s11.length : Int))) then ((gi s11 x1).bind fun i1 => match i1 with | .mk kind1 name1 op1 vals1 l1 => (gi s21 x1).bind fun x3 => match x3 with | .mk kind2 name2 op2 vals2 l2 => (eq1 (tFilter.mk kind1 name1 op1 vals1 l1) (tFilter.mk kind2 name2 op2 vals2 l2)).bind fun x4 => bif (!x4) then some (Sum.inr (Sum.inr false)) else some (Sum.inl (W (x1 + 1)))) else some (Sum.inr (Sum.inl ())))) fu 0).bind fun o => kS o fun (_ : Unit) => some true)
section
attribute [local irreducible] awp aops DP PCall ACall Decidable.decide
theorem dslices_EqualFunc_Filter_l {fu : Nat} {s11 : List tFilter} {s21 : List tFilter} {eq1 : tFilter → tFilter → Option Bool} {r : Bool} {k_eq1 : FuncId} {cs_eq1 : List AV} (hl_eq1 : Cl cs_eq1) (hf_eq1 : ∀ {a0 a1 r}, eq1 a0 a1 = some r → PCall Tryd.prog k_eq1 ([.agg (c_tFilter a0), .agg (c_tFilter a1)] ++ cs_eq1) (· = .bool r)) (h : dslices_EqualFunc_Filter fu s11 s21 eq1 = some r) : PCall Tryd.prog 24 [.sl (cs_tFilter s11), .sl (cs_tFilter s21), .fn k_eq1 cs_eq1] (· = .bool r) := by
  rw [dslices_EqualFunc_Filter] at h
  refine pcall_body Tryd.func24 rfl (by kernel_rfl) (by rfl) ?_
  refine awp_seq ?_
  refine awp_region ?_
  refine rv rfl rfl ?_
  refine rn ?_
  refine awp_seq ?_
  refine awp_seq ?_
  refine awp_region ?_
  refine rv rfl rfl ?_
  refine rv rfl rfl ?_
  refine rt ((lM_tFilter s11)) ?_
  refine rv rfl rfl ?_
  refine rv rfl rfl ?_
  refine rt ((lM_tFilter s21)) ?_
  refine rv rfl rfl ?_
  refine rn ?_
  refine cs_ rfl (fun hc => ?_) (fun hc => ?_)
  · have h := cT hc h
    refine awp_seq ?_
    refine awp_region ?_
    refine rv rfl rfl ?_
    refine rn ?_
    refine awp_ret ?_
    cases h
    repeat (first | refine then_ret ?_ | refine inBlock_ret ?_ | refine cut_r ?_)
    exact rr rfl rfl rfl
  · have h := cF hc h
    refine awp_skip ?_
    refine awp_seq ?_
    refine awp_seq ?_
    refine awp_region ?_
    refine rv rfl rfl ?_
    refine rv rfl rfl ?_
    refine rt ((lM_tFilter s11)) ?_
    refine rv rfl rfl ?_
    refine rn ?_
    obtain ⟨e1, hl2, h⟩ := bi h
    refine awp_cut1 (fun x => Sum.inl x = e1) (fun (_ : Unit) => ⟨[], [], [], 0⟩) ?_ ?_
    · refine awp_block ?_
      refine awp_loopD hl2 (fun (x1 : Int) => ⟨[(1, .sl (cs_tFilter s21)), (2, .fn k_eq1 cs_eq1), (15, .sl (cs_tFilter s11)), (16, .int .i64 (s11.length : Int)), (17, .int .i64 x1)], [], [], 0⟩) [] rfl ⟨rfl, rfl, zA rfl rfl rfl (zA rfl (AV.ren_closed (.fn _ _) hl_eq1.lim).symm (limL_mono (Nat.zero_le _) _ hl_eq1.lim) (zA rfl rfl rfl (zA rfl rfl rfl (zA rfl rfl rfl (trivial))))), trivial, trivial⟩ ?_
      intro x1 o5 ho3 hE4
      change awp _ _ _ _ _ ⟨_, _, _, _⟩
      refine awp_seq ?_
      refine awp_region ?_
      refine rv rfl rfl ?_
      refine rn ?_
      refine awp_seq ?_
      refine cs_ rfl (fun hc => ?_) (fun hc => ?_)
      · have ho3 := cT hc ho3
        refine awp_skip ?_
        refine awp_seq ?_
        refine awp_block ?_
        refine awp_seq ?_
        refine awp_region ?_
        refine rv rfl rfl ?_
        obtain ⟨i1, hx6, ho3⟩ := bi ho3
        refine ri rfl rfl rfl rfl rfl rfl (gi0 hx6) (giM_tFilter hx6) (wM_tFilter _) ?_
        obtain ⟨kind1, name1, op1, vals1, l1⟩ := i1
        refine rv rfl rfl ?_
        refine ra rfl rfl rfl ?_
        refine rv rfl rfl ?_
        refine rs rfl rfl rfl rfl rfl rfl rfl ?_
        refine rn ?_
        refine awp_seq ?_
        refine awp_region ?_
        refine rvs 2 rfl ?_
        obtain ⟨x3, hx7, ho3⟩ := bi ho3
        refine ri rfl rfl rfl rfl rfl rfl (gi0 hx7) (giM_tFilter hx7) (wM_tFilter _) ?_
        obtain ⟨kind2, name2, op2, vals2, l2⟩ := x3
        refine rv rfl rfl ?_
        refine ra rfl rfl rfl ?_
        refine rs rfl rfl rfl rfl rfl rfl rfl ?_
        refine rn ?_
        refine awp_seq ?_
        refine awp_region ?_
        refine rv' rfl rfl ?_
        refine rvs 2 rfl ?_
        obtain ⟨x4, hx8, ho3⟩ := bi ho3
        refine rcf rfl rfl hl_eq1 rfl (hf_eq1 hx8) ?_
        refine rv rfl rfl ?_
        refine rn ?_
        refine cs_ rfl (fun hc => ?_) (fun hc => ?_)
        · have ho3 := cT hc ho3
          refine awp_seq ?_
          refine awp_region ?_
          refine rv rfl rfl ?_
          refine rn ?_
          refine awp_ret ?_
          cases ho3
          have hq := hE4 _ rfl
          subst hq
          have h := ksr h
          subst h
          repeat (first | refine then_ret ?_ | refine inBlock_ret ?_ | refine cut_r ?_)
          exact rr rfl rfl rfl
        · have ho3 := cF hc ho3
          refine awp_skip ?_
          refine inBlock_normal ?_
          refine awp_region ?_
          refine rvs 2 rfl ?_
          refine rn ?_
          cases ho3
          exact lp_n [] rfl rfl ⟨rfl, rfl, zA rfl rfl rfl (zA rfl (AV.ren_closed (.fn _ _) hl_eq1.lim).symm (limL_mono (Nat.zero_le _) _ hl_eq1.lim) (zA rfl rfl rfl (zA rfl rfl rfl (zA rfl rfl rfl (trivial))))), trivial, trivial⟩
      · have ho3 := cF hc ho3
        refine awp_exit ?_
        repeat (first | refine then_exit ?_ | refine cut_x ?_ | refine inBlock_other rfl ?_)
        refine inBlock_exit ?_
        cases ho3
        have hq := hE4 _ rfl
        subst hq
        exact cut_n [] rfl rfl ⟨rfl, rfl, trivial, trivial, trivial⟩
    · rintro _ rfl
      have h := ksl h
      refine awp_seq ?_
      refine awp_region ?_
      refine rv rfl rfl ?_
      refine rn ?_
      refine awp_ret ?_
      cases h
      repeat (first | refine then_ret ?_ | refine inBlock_ret ?_ | refine cut_r ?_)
      exact rr rfl rfl rfl
end

mutual
def dfilter_Same : Nat → tFilter → tFilter → Option Bool
  | 0, _, _ => none
  | fu + 1, a1, b1 => match a1 with | .mk kind1 name1 op1 vals1 l1 => match b1 with | .mk kind2 name2 op2 vals2 l2 => bif (kind1 == kind2) then (bif (name1 == name2) then (bif (op1 == op2) then ((dslices_Equal_Attr fu vals1 vals2).bind fun x1 => bif x1 then ((dslices_EqualFunc_Filter fu l1 l2 (fun x0 x1 => dfilter_Same fu x0 x1)).bind fun x2 => some x2) else some false) else some false) else some false) else some false
end
section
attribute [local irreducible] awp aops DP PCall ACall Decidable.decide
/-- `plover/filter.Same` -/
theorem dfilter_Same_s {fu : Nat} (ih_dfilter_Same : ∀ {a1 b1} {r : Bool}, dfilter_Same fu a1 b1 = some r → PCall Tryd.prog 16 [.agg (c_tFilter a1), .agg (c_tFilter b1)] (· = .bool r)) : ∀ {a1 b1} {r : Bool}, dfilter_Same (fu + 1) a1 b1 = some r → PCall Tryd.prog 16 [.agg (c_tFilter a1), .agg (c_tFilter b1)] (· = .bool r) := by
  intro a1 b1 r h
  obtain ⟨kind1, name1, op1, vals1, l1⟩ := a1
  obtain ⟨kind2, name2, op2, vals2, l2⟩ := b1
  rw [dfilter_Same] at h
  refine pcall_body Tryd.func16 rfl (by kernel_rfl) (by rfl) ?_
  refine awp_seq ?_
  refine awp_region ?_
  refine rb rfl rfl ?_
  refine rb rfl rfl ?_
  refine rv rfl rfl ?_
  refine rn ?_
  refine awp_seq ?_
  refine awp_region ?_
  refine rvs 6 rfl ?_
  refine gs rfl rfl rfl rfl rfl (fun hg => ?_) (fun hg => ?_)
  · have h := cT hg h
    refine rv rfl rfl ?_
    refine gy rfl rfl rfl ?_
    refine rv rfl rfl ?_
    refine gy rfl rfl rfl ?_
    refine rv rfl rfl ?_
    refine gy rfl rfl rfl ?_
    refine rv rfl rfl ?_
    refine gy rfl rfl rfl ?_
    refine rv rfl rfl ?_
    refine rt (sEq name1 name2) ?_
    refine rvs 2 rfl ?_
    refine gs rfl rfl rfl rfl rfl (fun hg => ?_) (fun hg => ?_)
    · have h := cT hg h
      refine rv rfl rfl ?_
      refine gy rfl rfl rfl ?_
      refine rv rfl rfl ?_
      refine gy rfl rfl rfl ?_
      refine rv rfl rfl ?_
      refine gy rfl rfl rfl ?_
      refine rv rfl rfl ?_
      refine gy rfl rfl rfl ?_
      refine rv rfl rfl ?_
      refine rt (sEq op1 op2) ?_
      refine rvs 2 rfl ?_
      refine gs rfl rfl rfl rfl rfl (fun hg => ?_) (fun hg => ?_)
      · have h := cT hg h
        refine rv rfl rfl ?_
        refine gy rfl rfl rfl ?_
        refine rv rfl rfl ?_
        refine gy rfl rfl rfl ?_
        refine rv rfl rfl ?_
        refine gy rfl rfl rfl ?_
        refine rv rfl rfl ?_
        refine gy rfl rfl rfl ?_
        obtain ⟨x1, hx1, h⟩ := bi h
        refine rc1 rfl rfl rfl (dslices_Equal_Attr_l hx1) ?_
        refine rvs 2 rfl ?_
        refine gs rfl rfl rfl rfl rfl (fun hg => ?_) (fun hg => ?_)
        · have h := cT hg h
          refine rv rfl rfl ?_
          refine gy rfl rfl rfl ?_
          refine rv rfl rfl ?_
          refine gy rfl rfl rfl ?_
          refine rv rfl rfl ?_
          refine gy rfl rfl rfl ?_
          refine rv rfl rfl ?_
          refine gy rfl rfl rfl ?_
          obtain ⟨x2, hx2, h⟩ := bi h
          refine rc1 rfl rfl rfl (dslices_EqualFunc_Filter_l ⟨rfl, fun _ => rfl⟩ (fun hq => ih_dfilter_Same hq) hx2) ?_
          refine rvs 2 rfl ?_
          refine rn ?_
          refine awp_ret ?_
          cases h
          repeat (first | refine then_ret ?_ | refine inBlock_ret ?_ | refine cut_r ?_)
          exact rr rfl rfl rfl
        · have h := cF hg h
          refine gn rfl rfl rfl rfl rfl ?_
          refine gn rfl rfl rfl rfl rfl ?_
          refine gn rfl rfl rfl rfl rfl ?_
          refine gn rfl rfl rfl rfl rfl ?_
          refine rvs 2 rfl ?_
          refine rn ?_
          refine awp_ret ?_
          cases h
          repeat (first | refine then_ret ?_ | refine inBlock_ret ?_ | refine cut_r ?_)
          exact rr rfl rfl rfl
      · have h := cF hg h
        refine gn rfl rfl rfl rfl rfl ?_
        refine gn rfl rfl rfl rfl rfl ?_
        refine gn rfl rfl rfl rfl rfl ?_
        refine gn rfl rfl rfl rfl rfl ?_
        refine rvs 2 rfl ?_
        refine gn rfl rfl rfl rfl rfl ?_
        refine gn rfl rfl rfl rfl rfl ?_
        refine gn rfl rfl rfl rfl rfl ?_
        refine gn rfl rfl rfl rfl rfl ?_
        refine gn rfl rfl rfl rfl rfl ?_
        refine rvs 2 rfl ?_
        refine rn ?_
        refine awp_ret ?_
        cases h
        repeat (first | refine then_ret ?_ | refine inBlock_ret ?_ | refine cut_r ?_)
        exact rr rfl rfl rfl
    · have h := cF hg h
      refine gn rfl rfl rfl rfl rfl ?_
      refine gn rfl rfl rfl rfl rfl ?_
      refine gn rfl rfl rfl rfl rfl ?_
      refine gn rfl rfl rfl rfl rfl ?_
      refine rvs 2 rfl ?_
      refine gn rfl rfl rfl rfl rfl ?_
      refine gn rfl rfl rfl rfl rfl ?_
      refine gn rfl rfl rfl rfl rfl ?_
      refine gn rfl rfl rfl rfl rfl ?_
      refine gn rfl rfl rfl rfl rfl ?_
      refine rvs 2 rfl ?_
      refine gn rfl rfl rfl rfl rfl ?_
      refine gn rfl rfl rfl rfl rfl ?_
      refine gn rfl rfl rfl rfl rfl ?_
      refine gn rfl rfl rfl rfl rfl ?_
      refine gn rfl rfl rfl rfl rfl ?_
      refine rvs 2 rfl ?_
      refine rn ?_
      refine awp_ret ?_
      cases h
      repeat (first | refine then_ret ?_ | refine inBlock_ret ?_ | refine cut_r ?_)
      exact rr rfl rfl rfl
  · have h := cF hg h
    refine gn rfl rfl rfl rfl rfl ?_
    refine gn rfl rfl rfl rfl rfl ?_
    refine gn rfl rfl rfl rfl rfl ?_
    refine gn rfl rfl rfl rfl rfl ?_
    refine rvs 2 rfl ?_
    refine gn rfl rfl rfl rfl rfl ?_
    refine gn rfl rfl rfl rfl rfl ?_
    refine gn rfl rfl rfl rfl rfl ?_
    refine gn rfl rfl rfl rfl rfl ?_
    refine gn rfl rfl rfl rfl rfl ?_
    refine rvs 2 rfl ?_
    refine gn rfl rfl rfl rfl rfl ?_
    refine gn rfl rfl rfl rfl rfl ?_
    refine gn rfl rfl rfl rfl rfl ?_
    refine gn rfl rfl rfl rfl rfl ?_
    refine gn rfl rfl rfl rfl rfl ?_
    refine rvs 2 rfl ?_
    refine gn rfl rfl rfl rfl rfl ?_
    refine gn rfl rfl rfl rfl rfl ?_
    refine gn rfl rfl rfl rfl rfl ?_
    refine gn rfl rfl rfl rfl rfl ?_
    refine gn rfl rfl rfl rfl rfl ?_
    refine rvs 2 rfl ?_
    refine rn ?_
    refine awp_ret ?_
    cases h
    repeat (first | refine then_ret ?_ | refine inBlock_ret ?_ | refine cut_r ?_)
    exact rr rfl rfl rfl
end

theorem dfilter_Same_l : ∀ {fu : Nat}, ∀ {a1 b1} {r : Bool}, dfilter_Same fu a1 b1 = some r → PCall Tryd.prog 16 [.agg (c_tFilter a1), .agg (c_tFilter b1)] (· = .bool r)
  | 0 => fun h => by simp [dfilter_Same] at h
  | fu + 1 => dfilter_Same_s (fu := fu) (dfilter_Same_l (fu := fu))
/-- `plover/filter.shown` -/
def dfilter_shown (fu : Nat) (a1 : tAttr) : Option Str :=
  bif a1.Text then ((cat [34] a1.S).bind fun s1 => (cat s1 [34]).bind fun s2 => some s2) else ((dFormatInt fu a1.N).bind fun x1 => some x1)
section
attribute [local irreducible] awp aops DP PCall ACall Decidable.decide
theorem dfilter_shown_l {fu : Nat} {a1 : tAttr} {r : Str} (h : dfilter_shown fu a1 = some r) : PCall Tryd.prog 42 [.agg [.str (sB a1.Name), .bool a1.Text, .int .i64 a1.N, .str (sB a1.S)]] (· = .str (sB r)) := by
  rw [dfilter_shown] at h
  refine pcall_body Tryd.func42 rfl (by kernel_rfl) (by rfl) ?_
  refine awp_seq ?_
  refine awp_region ?_
  refine rb rfl rfl ?_
  refine rv rfl rfl ?_
  refine rn ?_
  refine awp_seq ?_
  refine awp_seq ?_
  refine awp_region ?_
  refine rvs 2 rfl ?_
  refine rn ?_
  refine cs_ rfl (fun hc => ?_) (fun hc => ?_)
  · have h := cT hc h
    refine awp_seq ?_
    refine awp_region ?_
    refine rvs 2 rfl ?_
    obtain ⟨s1, hx1, h⟩ := bi h
    refine rV rfl (va_scat rfl rfl hx1) ?_
    obtain ⟨s2, hx2, h⟩ := bi h
    refine rV rfl (va_scat rfl rfl hx2) ?_
    refine rv rfl rfl ?_
    refine rn ?_
    refine awp_ret ?_
    cases h
    repeat (first | refine then_ret ?_ | refine inBlock_ret ?_ | refine cut_r ?_)
    exact rr rfl rfl rfl
  · have h := cF hc h
    refine awp_skip ?_
    refine awp_seq ?_
    refine awp_region ?_
    refine rvs 2 rfl ?_
    obtain ⟨x1, hx3, h⟩ := bi h
    refine rc1 rfl rfl rfl (dFormatInt_l hx3) ?_
    refine rv rfl rfl ?_
    refine rn ?_
    refine awp_ret ?_
    cases h
    repeat (first | refine then_ret ?_ | refine inBlock_ret ?_ | refine cut_r ?_)
    exact rr rfl rfl rfl
end

mutual
def dfilter_within : Nat → tFilter → Bool → Option Str
  | 0, _, _ => none
  | fu + 1, f1, is1 => match f1 with | .mk kind1 name1 op1 vals1 l1 => bif is1 then ((dfilter_show fu (tFilter.mk kind1 name1 op1 vals1 l1)).bind fun x1 => (cat [40] x1).bind fun s1 => (cat s1 [41]).bind fun s2 => some s2) else ((dfilter_show fu (tFilter.mk kind1 name1 op1 vals1 l1)).bind fun x2 => some x2)
def dfilter_show : Nat → tFilter → Option Str
  | 0, _ => none
  | fu + 1, f1 => match f1 with | .mk kind1 name1 op1 vals1 l1 => (loopD (ε := Int × (List Str)) (τ := List Str) (fun (((x1, l2)) : Int × (List Str)) => (bif (decide (x1 < (l1.length : Int))) then (((gi l1 x1).bind fun x3 => match x3 with | .mk kind2 name2 op2 vals2 l6 => bif (kind2 == 1) then ((dfilter_within fu (tFilter.mk kind2 name2 op2 vals2 l6) true).bind fun l9 => (ap l2 [l9]).bind fun l10 => some l10) else ((dfilter_within fu (tFilter.mk kind2 name2 op2 vals2 l6) (kind2 == 2)).bind fun l7 => (ap l2 [l7]).bind fun l8 => some l8) : Option (List Str)).bind fun (l5 : List Str) => some (Sum.inl (W (x1 + 1), l5))) else some (Sum.inr l2))) fu (0, [])).bind fun (l4 : List Str) => (bif (kind1 == 1) then ((dJoin fu l4 [32, 97, 110, 100, 32]).bind fun x4 => some x4) else (bif (kind1 == 2) then ((dJoin fu l4 [32, 111, 114, 32]).bind fun x5 => some x5) else (bif (kind1 == 3) then ((gi l1 0).bind fun x6 => match x6 with | .mk kind3 name3 op3 vals3 l11 => bif (kind3 != 7) then ((dfilter_within fu (tFilter.mk kind3 name3 op3 vals3 l11) (kind3 != 3)).bind fun x7 => (cat [110, 111, 116, 32] x7).bind fun s1 => some s1) else ((dfilter_within fu (tFilter.mk kind3 name3 op3 vals3 l11) false).bind fun x8 => (cat [110, 111, 116, 32] x8).bind fun s2 => some s2)) else (bif (kind1 == 4) then ((cat name1 [32]).bind fun s3 => (cat s3 op1).bind fun s4 => (cat s4 [32]).bind fun s5 => (gi vals1 0).bind fun x9 => (dfilter_shown fu x9).bind fun x10 => (cat s5 x10).bind fun s6 => some s6) else (bif (kind1 == 5) then ((cat name1 [32, 94, 61, 32]).bind fun s7 => (gi vals1 0).bind fun x11 => (dfilter_shown fu x11).bind fun x12 => (cat s7 x12).bind fun s8 => some s8) else (bif (kind1 == 6) then ((loopD (ε := Int × (List Str)) (τ := List Str) (fun (((x13, l12)) : Int × (List Str)) => (bif (decide (x13 < (vals1.length : Int))) then ((gi vals1 x13).bind fun x15 => (dfilter_shown fu x15).bind fun l15 => (ap l12 [l15]).bind fun l16 => some (Sum.inl (W (x13 + 1), l16))) else some (Sum.inr l12))) fu (0, l4)).bind fun (l14 : List Str) => ((cat name1 [32, 105, 110, 32, 40]).bind fun s9 => (dJoin fu l14 [44, 32]).bind fun x16 => (cat s9 x16).bind fun s10 => (cat s10 [41]).bind fun s11 => some s11)) else ((some ([116, 114, 117, 101])).bind fun x17 => some x17)))))))
end
section
attribute [local irreducible] awp aops DP PCall ACall Decidable.decide
/-- `plover/filter.within` -/
theorem dfilter_within_s {fu : Nat} (ih_dfilter_within : ∀ {f1 is1} {r : Str}, dfilter_within fu f1 is1 = some r → PCall Tryd.prog 40 [.agg (c_tFilter f1), .bool is1] (· = .str (sB r))) (ih_dfilter_show : ∀ {f1} {r : Str}, dfilter_show fu f1 = some r → PCall Tryd.prog 21 [.agg (c_tFilter f1)] (· = .str (sB r))) : ∀ {f1 is1} {r : Str}, dfilter_within (fu + 1) f1 is1 = some r → PCall Tryd.prog 40 [.agg (c_tFilter f1), .bool is1] (· = .str (sB r)) := by
  intro f1 is1 r h
  obtain ⟨kind1, name1, op1, vals1, l1⟩ := f1
  rw [dfilter_within] at h
  refine pcall_body Tryd.func40 rfl (by kernel_rfl) (by rfl) ?_
  refine awp_seq ?_
  refine awp_region ?_
  refine rb rfl rfl ?_
  refine rv rfl rfl ?_
  refine rn ?_
  refine awp_seq ?_
  refine awp_seq ?_
  refine awp_region ?_
  refine rv rfl rfl ?_
  refine rn ?_
  refine cs_ rfl (fun hc => ?_) (fun hc => ?_)
  · have h := cT hc h
    refine awp_seq ?_
    refine awp_region ?_
    refine rv rfl rfl ?_
    obtain ⟨x1, hx1, h⟩ := bi h
    refine rc1 rfl rfl rfl (ih_dfilter_show hx1) ?_
    obtain ⟨s1, hx2, h⟩ := bi h
    refine rV rfl (va_scat rfl rfl hx2) ?_
    obtain ⟨s2, hx3, h⟩ := bi h
    refine rV rfl (va_scat rfl rfl hx3) ?_
    refine rv rfl rfl ?_
    refine rn ?_
    refine awp_ret ?_
    cases h
    repeat (first | refine then_ret ?_ | refine inBlock_ret ?_ | refine cut_r ?_)
    exact rr rfl rfl rfl
  · have h := cF hc h
    refine awp_skip ?_
    refine awp_seq ?_
    refine awp_region ?_
    refine rv rfl rfl ?_
    obtain ⟨x2, hx4, h⟩ := bi h
    refine rc1 rfl rfl rfl (ih_dfilter_show hx4) ?_
    refine rv rfl rfl ?_
    refine rn ?_
    refine awp_ret ?_
    cases h
    repeat (first | refine then_ret ?_ | refine inBlock_ret ?_ | refine cut_r ?_)
    exact rr rfl rfl rfl
end

section
attribute [local irreducible] awp aops DP PCall ACall Decidable.decide
/-- `plover/filter.show` -/
theorem dfilter_show_s {fu : Nat} (ih_dfilter_within : ∀ {f1 is1} {r : Str}, dfilter_within fu f1 is1 = some r → PCall Tryd.prog 40 [.agg (c_tFilter f1), .bool is1] (· = .str (sB r))) (ih_dfilter_show : ∀ {f1} {r : Str}, dfilter_show fu f1 = some r → PCall Tryd.prog 21 [.agg (c_tFilter f1)] (· = .str (sB r))) : ∀ {f1} {r : Str}, dfilter_show (fu + 1) f1 = some r → PCall Tryd.prog 21 [.agg (c_tFilter f1)] (· = .str (sB r)) := by
  intro f1 r h
  obtain ⟨kind1, name1, op1, vals1, l1⟩ := f1
  rw [dfilter_show] at h
  refine pcall_body Tryd.func21 rfl (by kernel_rfl) (by rfl) ?_
  refine awp_seq ?_
  refine awp_region ?_
  refine rb rfl rfl ?_
  refine rv rfl rfl ?_
  refine rn ?_
  refine awp_seq ?_
  refine awp_region ?_
  refine rv rfl rfl ?_
  refine rn ?_
  refine awp_seq ?_
  refine awp_seq ?_
  refine awp_region ?_
  refine rvs 2 rfl ?_
  refine rv rfl rfl ?_
  refine rt ((lM_tFilter l1)) ?_
  refine rv rfl rfl ?_
  refine rn ?_
  refine awp_conv (fun _ _ _ _ _ hi => nilS_slot false 1 3 rfl hi) ?_
  obtain ⟨e1, hl2, h⟩ := bi h
  refine awp_cut1 (fun x => x = e1) (fun (l4 : List Str) => ⟨[(1, .ptr 0 0), (3, .own 1)], [(0, 0, .int .i64 kind1), (0, 1, .str (sB name1)), (0, 2, .str (sB op1)), (0, 3, .sl (vals1.map c_tAttr)), (0, 4, .sl (cs_tFilter l1))], [(1, .row 1 (l4.map cS))], 2⟩) ?_ ?_
  · refine awp_block ?_
    refine awp_loopD hl2 (fun (((x1, l2)) : Int × (List Str)) => ⟨[(1, .ptr 0 0), (3, .own 1), (10, .sl (cs_tFilter l1)), (11, .int .i64 (l1.length : Int)), (12, .int .i64 x1)], [(0, 0, .int .i64 kind1), (0, 1, .str (sB name1)), (0, 2, .str (sB op1)), (0, 3, .sl (vals1.map c_tAttr)), (0, 4, .sl (cs_tFilter l1))], [(1, .row 1 (l2.map cS))], 2⟩) [0, 1] rfl ⟨rfl, rfl, zA rfl rfl rfl (zA rfl rfl rfl (zA rfl rfl rfl (zA rfl rfl rfl (zA rfl rfl rfl (trivial))))), zC rfl rfl rfl rfl (zC rfl rfl rfl rfl (zC rfl rfl rfl rfl (zC rfl rfl rfl rfl (zC rfl rfl rfl rfl (trivial))))), zE rfl .row rfl (trivial)⟩ ?_
    intro v o5 ho3 hE4
    obtain ⟨x1, l2⟩ := v
    change awp _ _ _ _ _ ⟨_, _, _, _⟩
    refine awp_seq ?_
    refine awp_region ?_
    refine rv rfl rfl ?_
    refine rn ?_
    refine awp_seq ?_
    refine cs_ rfl (fun hc => ?_) (fun hc => ?_)
    · have ho3 := cT hc ho3
      refine awp_skip ?_
      refine awp_seq ?_
      obtain ⟨o6, ho7, ho3⟩ := bi ho3
      refine awp_cut1 (fun x => x = o6) (fun (l5 : List Str) => ⟨[(1, .ptr 0 0), (3, .own 1), (10, .sl (cs_tFilter l1)), (11, .int .i64 (l1.length : Int)), (12, .int .i64 x1)], [(0, 0, .int .i64 kind1), (0, 1, .str (sB name1)), (0, 2, .str (sB op1)), (0, 3, .sl (vals1.map c_tAttr)), (0, 4, .sl (cs_tFilter l1))], [(1, .row 1 (l5.map cS))], 2⟩) ?_ ?_
      · refine awp_block ?_
        refine awp_seq ?_
        refine awp_region ?_
        obtain ⟨x3, hx8, ho7⟩ := bi ho7
        refine ri rfl rfl rfl rfl rfl rfl (gi0 hx8) (giM_tFilter hx8) (wM_tFilter _) ?_
        obtain ⟨kind2, name2, op2, vals2, l6⟩ := x3
        refine rv rfl rfl ?_
        refine ra rfl rfl rfl ?_
        refine rs rfl rfl rfl rfl rfl rfl rfl ?_
        refine rn ?_
        refine awp_region ?_
        refine rvs 6 rfl ?_
        refine gs rfl rfl rfl rfl rfl (fun hg => ?_) (fun hg => ?_)
        · have ho7 := cF hg ho7
          refine rv rfl rfl ?_
          refine gy rfl rfl rfl ?_
          refine rv rfl rfl ?_
          refine gy rfl rfl rfl ?_
          refine rv rfl rfl ?_
          refine rv rfl rfl ?_
          obtain ⟨l7, hx9, ho7⟩ := bi ho7
          refine rc1 rfl rfl rfl (ih_dfilter_within hx9) ?_
          refine rbs false rfl rfl rfl rfl rfl rfl rfl rfl rfl rfl ?_
          obtain ⟨l8, hx10, ho7⟩ := bi ho7
          refine rap false (xs := l2.map cS) (ys := [l7].map cS) rfl rfl rfl rfl rfl rfl rfl (.own rfl rfl) (.sl rfl rfl rfl) (wM (fun _ => by rfl) _) (oM (fun _ => by rfl) _) (apB cS rfl hx10) rfl ?_
          refine rk (congrArg (Kind.row _) (apM cS hx10)) ?_
          refine rv rfl rfl ?_
          refine rn ?_
          refine inBlock_normal ?_
          cases ho7
          exact cut_n [0, 4] rfl rfl ⟨rfl, rfl, zA rfl rfl rfl (zA rfl rfl rfl (zA rfl rfl rfl (zA rfl rfl rfl (zA rfl rfl rfl (trivial))))), zC rfl rfl rfl rfl (zC rfl rfl rfl rfl (zC rfl rfl rfl rfl (zC rfl rfl rfl rfl (zC rfl rfl rfl rfl (trivial))))), zE rfl .row rfl (trivial)⟩
        · have ho7 := cT hg ho7
          refine gn rfl rfl rfl rfl rfl ?_
          refine gn rfl rfl rfl rfl rfl ?_
          refine rv rfl rfl ?_
          obtain ⟨l9, hx11, ho7⟩ := bi ho7
          refine rc1 rfl rfl rfl (ih_dfilter_within hx11) ?_
          refine rbs false rfl rfl rfl rfl rfl rfl rfl rfl rfl rfl ?_
          obtain ⟨l10, hx12, ho7⟩ := bi ho7
          refine rap false (xs := l2.map cS) (ys := [l9].map cS) rfl rfl rfl rfl rfl rfl rfl (.own rfl rfl) (.sl rfl rfl rfl) (wM (fun _ => by rfl) _) (oM (fun _ => by rfl) _) (apB cS rfl hx12) rfl ?_
          refine rk (congrArg (Kind.row _) (apM cS hx12)) ?_
          refine rv rfl rfl ?_
          refine rn ?_
          refine inBlock_normal ?_
          cases ho7
          exact cut_n [0, 4] rfl rfl ⟨rfl, rfl, zA rfl rfl rfl (zA rfl rfl rfl (zA rfl rfl rfl (zA rfl rfl rfl (zA rfl rfl rfl (trivial))))), zC rfl rfl rfl rfl (zC rfl rfl rfl rfl (zC rfl rfl rfl rfl (zC rfl rfl rfl rfl (zC rfl rfl rfl rfl (trivial))))), zE rfl .row rfl (trivial)⟩
      · rintro l5 rfl
        change awp _ _ _ _ _ ⟨_, _, _, _⟩
        refine awp_region ?_
        refine rvs 2 rfl ?_
        refine rn ?_
        cases ho3
        exact lp_n [0, 1] rfl rfl ⟨rfl, rfl, zA rfl rfl rfl (zA rfl rfl rfl (zA rfl rfl rfl (zA rfl rfl rfl (zA rfl rfl rfl (trivial))))), zC rfl rfl rfl rfl (zC rfl rfl rfl rfl (zC rfl rfl rfl rfl (zC rfl rfl rfl rfl (zC rfl rfl rfl rfl (trivial))))), zE rfl .row rfl (trivial)⟩
    · have ho3 := cF hc ho3
      refine awp_exit ?_
      repeat (first | refine then_exit ?_ | refine cut_x ?_ | refine inBlock_other rfl ?_)
      refine inBlock_exit ?_
      cases ho3
      have hq := hE4 _ rfl
      subst hq
      exact cut_n [0, 1] rfl rfl ⟨rfl, rfl, zA rfl rfl rfl (zA rfl rfl rfl (trivial)), zC rfl rfl rfl rfl (zC rfl rfl rfl rfl (zC rfl rfl rfl rfl (zC rfl rfl rfl rfl (zC rfl rfl rfl rfl (trivial))))), zE rfl .row rfl (trivial)⟩
  · rintro l4 rfl
    change awp _ _ _ _ _ ⟨_, _, _, _⟩
    refine awp_seq ?_
    refine awp_seq ?_
    refine awp_region ?_
    refine rvs 2 rfl ?_
    refine rn ?_
    refine awp_block ?_
    refine awp_seq ?_
    refine awp_region ?_
    refine rvs 2 rfl ?_
    refine rn ?_
    refine cs_ rfl (fun hc => ?_) (fun hc => ?_)
    · have h := cT hc h
      refine awp_seq ?_
      refine awp_region ?_
      refine rv rfl rfl ?_
      obtain ⟨x4, hx13, h⟩ := bi h
      refine rc1 rfl rfl rfl (dJoin_l hx13) ?_
      refine rv rfl rfl ?_
      refine rn ?_
      refine awp_ret ?_
      cases h
      repeat (first | refine then_ret ?_ | refine inBlock_ret ?_ | refine cut_r ?_)
      exact rr rfl rfl rfl
    · have h := cF hc h
      refine awp_seq ?_
      refine awp_region ?_
      refine rvs 2 rfl ?_
      refine rn ?_
      refine cs_ rfl (fun hc => ?_) (fun hc => ?_)
      · have h := cT hc h
        refine awp_seq ?_
        refine awp_region ?_
        refine rv rfl rfl ?_
        obtain ⟨x5, hx14, h⟩ := bi h
        refine rc1 rfl rfl rfl (dJoin_l hx14) ?_
        refine rv rfl rfl ?_
        refine rn ?_
        refine awp_ret ?_
        cases h
        repeat (first | refine then_ret ?_ | refine inBlock_ret ?_ | refine cut_r ?_)
        exact rr rfl rfl rfl
      · have h := cF hc h
        refine awp_seq ?_
        refine awp_region ?_
        refine rvs 2 rfl ?_
        refine rn ?_
        refine cs_ rfl (fun hc => ?_) (fun hc => ?_)
        · have h := cT hc h
          refine awp_seq ?_
          refine awp_region ?_
          refine rvs 2 rfl ?_
          obtain ⟨x6, hx15, h⟩ := bi h
          refine ri rfl rfl rfl rfl rfl rfl (gi0 hx15) (giM_tFilter hx15) (wM_tFilter _) ?_
          obtain ⟨kind3, name3, op3, vals3, l11⟩ := x6
          refine rv rfl rfl ?_
          refine ra rfl rfl rfl ?_
          refine rs rfl rfl rfl rfl rfl rfl rfl ?_
          refine rn ?_
          refine awp_seq ?_
          refine awp_region ?_
          refine rvs 5 rfl ?_
          refine gs rfl rfl rfl rfl rfl (fun hg => ?_) (fun hg => ?_)
          · have h := cT hg h
            refine rv rfl rfl ?_
            refine gy rfl rfl rfl ?_
            refine rv rfl rfl ?_
            refine gy rfl rfl rfl ?_
            refine rv rfl rfl ?_
            refine rv rfl rfl ?_
            obtain ⟨x7, hx16, h⟩ := bi h
            refine rc1 rfl rfl rfl (ih_dfilter_within hx16) ?_
            obtain ⟨s1, hx17, h⟩ := bi h
            refine rV rfl (va_scat rfl rfl hx17) ?_
            refine rv rfl rfl ?_
            refine rn ?_
            refine awp_ret ?_
            cases h
            repeat (first | refine then_ret ?_ | refine inBlock_ret ?_ | refine cut_r ?_)
            exact rr rfl rfl rfl
          · have h := cF hg h
            refine gn rfl rfl rfl rfl rfl ?_
            refine gn rfl rfl rfl rfl rfl ?_
            refine rv rfl rfl ?_
            obtain ⟨x8, hx18, h⟩ := bi h
            refine rc1 rfl rfl rfl (ih_dfilter_within hx18) ?_
            obtain ⟨s2, hx19, h⟩ := bi h
            refine rV rfl (va_scat rfl rfl hx19) ?_
            refine rv rfl rfl ?_
            refine rn ?_
            refine awp_ret ?_
            cases h
            repeat (first | refine then_ret ?_ | refine inBlock_ret ?_ | refine cut_r ?_)
            exact rr rfl rfl rfl
        · have h := cF hc h
          refine awp_seq ?_
          refine awp_region ?_
          refine rvs 2 rfl ?_
          refine rn ?_
          refine cs_ rfl (fun hc => ?_) (fun hc => ?_)
          · have h := cT hc h
            refine awp_seq ?_
            refine awp_dp (m := 13) Tryd.mix (by kernel_rfl) (by kernel_rfl) (by kernel_rfl) (by kernel_rfl) (by kernel_rfl) (by kernel_rfl) (by kernel_rfl) ?_
            refine dv rfl rfl (fun _ => rfl) ?_
            refine dv rfl rfl (fun _ => rfl) ?_
            obtain ⟨s3, hx20, h⟩ := bi h
            refine dV rfl rfl (fun _ => va_scat rfl rfl hx20) ?_
            refine dv rfl rfl (fun _ => rfl) ?_
            refine dv rfl rfl (fun _ => rfl) ?_
            obtain ⟨s4, hx21, h⟩ := bi h
            refine dV rfl rfl (fun _ => va_scat rfl rfl hx21) ?_
            obtain ⟨s5, hx22, h⟩ := bi h
            refine dV rfl rfl (fun _ => va_scat rfl rfl hx22) ?_
            refine dv rfl rfl (fun _ => rfl) ?_
            refine dv rfl rfl (fun _ => rfl) ?_
            obtain ⟨x9, hx23, h⟩ := bi h
            refine di rfl rfl rfl rfl rfl (fun _ => rfl) rfl (gi0 hx23) (giM c_tAttr hx23) (wM (fun _ => by rfl) _) ?_
            refine dv rfl rfl (fun _ => rfl) ?_
            obtain ⟨x10, hx24, h⟩ := bi h
            refine dc rfl rfl rfl rfl (fun _ => rfl) (fun _ => (dfilter_shown_l hx24)) ?_
            obtain ⟨s6, hx25, h⟩ := bi h
            refine dV rfl rfl (fun _ => va_scat rfl rfl hx25) ?_
            refine dn ?_
            refine rv rfl rfl ?_
            refine rn ?_
            refine awp_ret ?_
            cases h
            repeat (first | refine then_ret ?_ | refine inBlock_ret ?_ | refine cut_r ?_)
            exact rr rfl rfl rfl
          · have h := cF hc h
            refine awp_seq ?_
            refine awp_region ?_
            refine rvs 2 rfl ?_
            refine rn ?_
            refine cs_ rfl (fun hc => ?_) (fun hc => ?_)
            · have h := cT hc h
              refine awp_seq ?_
              refine awp_dp (m := 9) Tryd.mix (by kernel_rfl) (by kernel_rfl) (by kernel_rfl) (by kernel_rfl) (by kernel_rfl) (by kernel_rfl) (by kernel_rfl) ?_
              refine dv rfl rfl (fun _ => rfl) ?_
              refine dv rfl rfl (fun _ => rfl) ?_
              obtain ⟨s7, hx26, h⟩ := bi h
              refine dV rfl rfl (fun _ => va_scat rfl rfl hx26) ?_
              refine dv rfl rfl (fun _ => rfl) ?_
              refine dv rfl rfl (fun _ => rfl) ?_
              obtain ⟨x11, hx27, h⟩ := bi h
              refine di rfl rfl rfl rfl rfl (fun _ => rfl) rfl (gi0 hx27) (giM c_tAttr hx27) (wM (fun _ => by rfl) _) ?_
              refine dv rfl rfl (fun _ => rfl) ?_
              obtain ⟨x12, hx28, h⟩ := bi h
              refine dc rfl rfl rfl rfl (fun _ => rfl) (fun _ => (dfilter_shown_l hx28)) ?_
              obtain ⟨s8, hx29, h⟩ := bi h
              refine dV rfl rfl (fun _ => va_scat rfl rfl hx29) ?_
              refine dn ?_
              refine rv rfl rfl ?_
              refine rn ?_
              refine awp_ret ?_
              cases h
              repeat (first | refine then_ret ?_ | refine inBlock_ret ?_ | refine cut_r ?_)
              exact rr rfl rfl rfl
            · have h := cF hc h
              refine awp_seq ?_
              refine awp_region ?_
              refine rvs 2 rfl ?_
              refine rn ?_
              refine cs_ rfl (fun hc => ?_) (fun hc => ?_)
              · have h := cT hc h
                refine awp_seq ?_
                refine awp_seq ?_
                refine awp_region ?_
                refine rvs 2 rfl ?_
                refine rv rfl rfl ?_
                refine rt ((lM c_tAttr vals1)) ?_
                refine rv rfl rfl ?_
                refine rn ?_
                obtain ⟨e30, hl31, h⟩ := bi h
                refine awp_cut1 (fun x => x = e30) (fun (l14 : List Str) => ⟨[(1, .ptr 0 0), (3, .own 1)], [(0, 0, .int .i64 kind1), (0, 1, .str (sB name1)), (0, 2, .str (sB op1)), (0, 3, .sl (vals1.map c_tAttr)), (0, 4, .sl (cs_tFilter l1))], [(1, .row 1 (l14.map cS))], 2⟩) ?_ ?_
                · refine awp_block ?_
                  refine awp_loopD hl31 (fun (((x13, l12)) : Int × (List Str)) => ⟨[(1, .ptr 0 0), (3, .own 1), (86, .sl (vals1.map c_tAttr)), (87, .int .i64 (vals1.length : Int)), (88, .int .i64 x13)], [(0, 0, .int .i64 kind1), (0, 1, .str (sB name1)), (0, 2, .str (sB op1)), (0, 3, .sl (vals1.map c_tAttr)), (0, 4, .sl (cs_tFilter l1))], [(1, .row 1 (l12.map cS))], 2⟩) [0, 1] rfl ⟨rfl, rfl, zA rfl rfl rfl (zA rfl rfl rfl (zA rfl rfl rfl (zA rfl rfl rfl (zA rfl rfl rfl (trivial))))), zC rfl rfl rfl rfl (zC rfl rfl rfl rfl (zC rfl rfl rfl rfl (zC rfl rfl rfl rfl (zC rfl rfl rfl rfl (trivial))))), zE rfl .row rfl (trivial)⟩ ?_
                  intro v o34 ho32 hE33
                  obtain ⟨x13, l12⟩ := v
                  change awp _ _ _ _ _ ⟨_, _, _, _⟩
                  refine awp_seq ?_
                  refine awp_region ?_
                  refine rv rfl rfl ?_
                  refine rn ?_
                  refine awp_seq ?_
                  refine cs_ rfl (fun hc => ?_) (fun hc => ?_)
                  · have ho32 := cT hc ho32
                    refine awp_skip ?_
                    refine awp_seq ?_
                    refine awp_block ?_
                    refine awp_seq ?_
                    refine awp_region ?_
                    obtain ⟨x15, hx35, ho32⟩ := bi ho32
                    refine ri rfl rfl rfl rfl rfl rfl (gi0 hx35) (giM c_tAttr hx35) (wM (fun _ => by rfl) _) ?_
                    refine rv rfl rfl ?_
                    refine ra rfl rfl rfl ?_
                    refine rs rfl rfl rfl rfl rfl rfl rfl ?_
                    refine rn ?_
                    refine awp_region ?_
                    refine rvs 2 rfl ?_
                    obtain ⟨l15, hx36, ho32⟩ := bi ho32
                    refine rc1 rfl rfl rfl (dfilter_shown_l hx36) ?_
                    refine rbs false rfl rfl rfl rfl rfl rfl rfl rfl rfl rfl ?_
                    obtain ⟨l16, hx37, ho32⟩ := bi ho32
                    refine rap false (xs := l12.map cS) (ys := [l15].map cS) rfl rfl rfl rfl rfl rfl rfl (.own rfl rfl) (.sl rfl rfl rfl) (wM (fun _ => by rfl) _) (oM (fun _ => by rfl) _) (apB cS rfl hx37) rfl ?_
                    refine rk (congrArg (Kind.row _) (apM cS hx37)) ?_
                    refine rv rfl rfl ?_
                    refine rn ?_
                    refine inBlock_normal ?_
                    refine awp_region ?_
                    refine rvs 2 rfl ?_
                    refine rn ?_
                    cases ho32
                    exact lp_n [0, 4] rfl rfl ⟨rfl, rfl, zA rfl rfl rfl (zA rfl rfl rfl (zA rfl rfl rfl (zA rfl rfl rfl (zA rfl rfl rfl (trivial))))), zC rfl rfl rfl rfl (zC rfl rfl rfl rfl (zC rfl rfl rfl rfl (zC rfl rfl rfl rfl (zC rfl rfl rfl rfl (trivial))))), zE rfl .row rfl (trivial)⟩
                  · have ho32 := cF hc ho32
                    refine awp_exit ?_
                    repeat (first | refine then_exit ?_ | refine cut_x ?_ | refine inBlock_other rfl ?_)
                    refine inBlock_exit ?_
                    cases ho32
                    have hq := hE33 _ rfl
                    subst hq
                    exact cut_n [0, 1] rfl rfl ⟨rfl, rfl, zA rfl rfl rfl (zA rfl rfl rfl (trivial)), zC rfl rfl rfl rfl (zC rfl rfl rfl rfl (zC rfl rfl rfl rfl (zC rfl rfl rfl rfl (zC rfl rfl rfl rfl (trivial))))), zE rfl .row rfl (trivial)⟩
                · rintro l14 rfl
                  change awp _ _ _ _ _ ⟨_, _, _, _⟩
                  refine awp_seq ?_
                  refine awp_dp (m := 7) Tryd.mix (by kernel_rfl) (by kernel_rfl) (by kernel_rfl) (by kernel_rfl) (by kernel_rfl) (by kernel_rfl) (by kernel_rfl) ?_
                  refine dv rfl rfl (fun _ => rfl) ?_
                  refine dv rfl rfl (fun _ => rfl) ?_
                  obtain ⟨s9, hx38, h⟩ := bi h
                  refine dV rfl rfl (fun _ => va_scat rfl rfl hx38) ?_
                  refine dv rfl rfl (fun _ => rfl) ?_
                  obtain ⟨x16, hx39, h⟩ := bi h
                  refine dc rfl rfl rfl rfl (fun _ => rfl) (fun _ => (dJoin_l hx39)) ?_
                  obtain ⟨s10, hx40, h⟩ := bi h
                  refine dV rfl rfl (fun _ => va_scat rfl rfl hx40) ?_
                  obtain ⟨s11, hx41, h⟩ := bi h
                  refine dV rfl rfl (fun _ => va_scat rfl rfl hx41) ?_
                  refine dn ?_
                  refine rv rfl rfl ?_
                  refine rn ?_
                  refine awp_ret ?_
                  cases h
                  repeat (first | refine then_ret ?_ | refine inBlock_ret ?_ | refine cut_r ?_)
                  exact rr rfl rfl rfl
              · have h := cF hc h
                refine awp_skip ?_
                refine inBlock_normal ?_
                refine awp_seq ?_
                refine awp_region ?_
                refine rv rfl rfl ?_
                obtain ⟨x17, hx42, h⟩ := bs h
                refine rt (es' hx42) ?_
                refine rn ?_
                refine awp_ret ?_
                cases h
                repeat (first | refine then_ret ?_ | refine inBlock_ret ?_ | refine cut_r ?_)
                exact rr rfl rfl rfl
end

theorem rec_dfilter_within : ∀ fu : Nat, (∀ {f1 is1} {r : Str}, dfilter_within fu f1 is1 = some r → PCall Tryd.prog 40 [.agg (c_tFilter f1), .bool is1] (· = .str (sB r))) ∧ (∀ {f1} {r : Str}, dfilter_show fu f1 = some r → PCall Tryd.prog 21 [.agg (c_tFilter f1)] (· = .str (sB r)))
  | 0 => ⟨fun h => by simp [dfilter_within] at h, fun h => by simp [dfilter_show] at h⟩
  | fu + 1 => by
    obtain ⟨i0, i1⟩ := rec_dfilter_within fu
    exact ⟨dfilter_within_s i0 i1, dfilter_show_s i0 i1⟩
theorem dfilter_within_l {fu : Nat} : ∀ {f1 is1} {r : Str}, dfilter_within fu f1 is1 = some r → PCall Tryd.prog 40 [.agg (c_tFilter f1), .bool is1] (· = .str (sB r)) := (rec_dfilter_within fu).1
theorem dfilter_show_l {fu : Nat} : ∀ {f1} {r : Str}, dfilter_show fu f1 = some r → PCall Tryd.prog 21 [.agg (c_tFilter f1)] (· = .str (sB r)) := (rec_dfilter_within fu).2
/-- `plover/filter.Text` -/
def dfilter_Text (fu : Nat) (f1 : tFilter) : Option (Str × Er) :=
  match f1 with | .mk kind1 name1 op1 vals1 l1 => (dfilter_May fu (tFilter.mk kind1 name1 op1 vals1 l1)).bind fun x1 => bif (!x1) then some ([], (some 1)) else ((dfilter_show fu (tFilter.mk kind1 name1 op1 vals1 l1)).bind fun x2 => some (x2, none))
section
attribute [local irreducible] awp aops DP PCall ACall Decidable.decide
theorem dfilter_Text_l {fu : Nat} {f1 : tFilter} {r : Str × Er} (h : dfilter_Text fu f1 = some r) : PCall Tryd.prog 14 [.agg (c_tFilter f1)] (· = .tup [.str (sB r.1), .err 47 r.2]) := by
  obtain ⟨kind1, name1, op1, vals1, l1⟩ := f1
  rw [dfilter_Text] at h
  refine pcall_body Tryd.func14 rfl (by kernel_rfl) (by rfl) ?_
  refine awp_seq ?_
  refine awp_region ?_
  refine rb rfl rfl ?_
  refine rvs 2 rfl ?_
  refine rn ?_
  refine awp_seq ?_
  refine awp_seq ?_
  refine awp_region ?_
  refine rv rfl rfl ?_
  obtain ⟨x1, hx1, h⟩ := bi h
  refine rc1 rfl rfl rfl (dfilter_May_l hx1) ?_
  refine rv rfl rfl ?_
  refine rn ?_
  refine cs_ rfl (fun hc => ?_) (fun hc => ?_)
  · have h := cT hc h
    refine awp_seq ?_
    refine awp_region ?_
    refine rvs 3 rfl ?_
    refine rn ?_
    refine awp_conv (fun _ _ _ _ _ hi => err_slot 47 3 (some 1) rfl hi) ?_
    refine awp_ret ?_
    cases h
    repeat (first | refine then_ret ?_ | refine inBlock_ret ?_ | refine cut_r ?_)
    exact rr rfl rfl rfl
  · have h := cF hc h
    refine awp_skip ?_
    refine awp_seq ?_
    refine awp_region ?_
    refine rv rfl rfl ?_
    obtain ⟨x2, hx2, h⟩ := bi h
    refine rc1 rfl rfl rfl (dfilter_show_l hx2) ?_
    refine rvs 2 rfl ?_
    refine rn ?_
    refine awp_conv (fun _ _ _ _ _ hi => err_slot 47 3 none rfl hi) ?_
    refine awp_ret ?_
    cases h
    repeat (first | refine then_ret ?_ | refine inBlock_ret ?_ | refine cut_r ?_)
    exact rr rfl rfl rfl
end

/-- `(*plover/filter.parser).next` -/
def dfilter_parser_next (fu : Nat) (p1 : tfilterparser) : Option (ttokenToken × tfilterparser) :=
  (bif p1.Bad then some true else some ((p1.L.length : Int) == 0) : Option Bool).bind fun (x1 : Bool) => (bif x1 then some ((ttokenToken.mk 0 0 0 []), p1) else ((gi p1.L 0).bind fun x2 => some (x2, p1)))
section
attribute [local irreducible] awp aops DP PCall ACall Decidable.decide
theorem dfilter_parser_next_l {fu : Nat} {p1 : tfilterparser} {r : ttokenToken × tfilterparser} (h : dfilter_parser_next fu p1 = some r) : ACall Tryd.prog 67 1 [.ptr 0 0] [(0, 0, .sl (p1.L.map c_ttokenToken)), (0, 1, .bool p1.Bad)] [] (fun r_ H_ O_ n_ => r_ = .agg [.int .i64 r.1.Kind, .int .i64 r.1.At, .int .i64 r.1.N, .str (sB r.1.S)] ∧ H_ = [(0, 0, .sl (r.2.L.map c_ttokenToken)), (0, 1, .bool r.2.Bad)] ∧ O_ = [] ∧ n_ = 1) := by
  rw [dfilter_parser_next] at h
  refine acall_body Tryd.func67 rfl (by kernel_rfl) (by rfl) ?_
  refine awp_seq ?_
  refine awp_region ?_
  refine ra rfl rfl rfl ?_
  refine rn ?_
  refine awp_seq ?_
  refine awp_seq ?_
  obtain ⟨o1, ho2, h⟩ := bi h
  refine awp_cut1 (fun x => x = o1) (fun (x1 : Bool) => ⟨[(0, .ptr 0 0), (2, .ptr 1 0), (14, .bool x1)], [(0, 0, .sl (p1.L.map c_ttokenToken)), (0, 1, .bool p1.Bad), (1, 0, .int .i64 0), (1, 1, .int .i64 0), (1, 2, .int .i64 0), (1, 3, .str (sB []))], [], 2⟩) ?_ ?_
  · refine awp_region ?_
    refine rvs 5 rfl ?_
    refine gs rfl rfl rfl rfl rfl (fun hg => ?_) (fun hg => ?_)
    · have ho2 := cF hg ho2
      refine rv rfl rfl ?_
      refine gy rfl rfl rfl ?_
      refine rv rfl rfl ?_
      refine gy rfl rfl rfl ?_
      refine rv rfl rfl ?_
      refine gy rfl rfl rfl ?_
      refine rv rfl rfl ?_
      refine gy rfl rfl rfl ?_
      refine rv rfl rfl ?_
      refine rt ((lM c_ttokenToken p1.L)) ?_
      refine gy rfl rfl rfl ?_
      refine rv rfl rfl ?_
      refine rv rfl rfl ?_
      refine rn ?_
      cases ho2
      exact cut_n [0, 1] rfl rfl ⟨rfl, rfl, zA rfl rfl rfl (zA rfl rfl rfl (zA rfl rfl rfl (trivial))), zC rfl rfl rfl rfl (zC rfl rfl rfl rfl (zC rfl rfl rfl rfl (zC rfl rfl rfl rfl (zC rfl rfl rfl rfl (zC rfl rfl rfl rfl (trivial)))))), trivial⟩
    · have ho2 := cT hg ho2
      refine gn rfl rfl rfl rfl rfl ?_
      refine gn rfl rfl rfl rfl rfl ?_
      refine gn rfl rfl rfl rfl rfl ?_
      refine gn rfl rfl rfl rfl rfl ?_
      refine gn rfl rfl rfl rfl rfl ?_
      refine rv rfl rfl ?_
      refine rn ?_
      cases ho2
      exact cut_n [0, 1] rfl rfl ⟨rfl, rfl, zA rfl rfl rfl (zA rfl rfl rfl (zA rfl rfl rfl (trivial))), zC rfl rfl rfl rfl (zC rfl rfl rfl rfl (zC rfl rfl rfl rfl (zC rfl rfl rfl rfl (zC rfl rfl rfl rfl (zC rfl rfl rfl rfl (trivial)))))), trivial⟩
  · rintro x1 rfl
    change awp _ _ _ _ _ ⟨_, _, _, _⟩
    refine cs_ rfl (fun hc => ?_) (fun hc => ?_)
    · have h := cT hc h
      refine awp_seq ?_
      refine awp_region ?_
      refine rv rfl rfl ?_
      refine rs rfl rfl rfl rfl rfl rfl rfl ?_
      refine rn ?_
      refine awp_ret ?_
      have h := Option.some.inj h
      subst h
      repeat (first | refine then_ret ?_ | refine inBlock_ret ?_ | refine cut_r ?_)
      exact rrA (r := .agg [.int .i64 0, .int .i64 0, .int .i64 0, .str (sB [])]) [0] [(0, 0, .sl (p1.L.map c_ttokenToken)), (0, 1, .bool p1.Bad)] [] rfl rfl rfl rfl (zC rfl rfl rfl rfl (zC rfl rfl rfl rfl (trivial))) (trivial) ⟨rfl, rfl, rfl, rfl⟩
    · have h := cF hc h
      refine awp_skip ?_
      refine awp_seq ?_
      refine awp_region ?_
      refine rvs 4 rfl ?_
      obtain ⟨x2, hx3, h⟩ := bi h
      refine ri rfl rfl rfl rfl rfl rfl (gi0 hx3) (giM c_ttokenToken hx3) (wM (fun _ => by rfl) _) ?_
      refine rv rfl rfl ?_
      refine rs rfl rfl rfl rfl rfl rfl rfl ?_
      refine rn ?_
      refine awp_ret ?_
      have h := Option.some.inj h
      subst h
      repeat (first | refine then_ret ?_ | refine inBlock_ret ?_ | refine cut_r ?_)
      exact rrA (r := .agg [.int .i64 x2.Kind, .int .i64 x2.At, .int .i64 x2.N, .str (sB x2.S)]) [0] [(0, 0, .sl (p1.L.map c_ttokenToken)), (0, 1, .bool p1.Bad)] [] rfl rfl rfl rfl (zC rfl rfl rfl rfl (zC rfl rfl rfl rfl (trivial))) (trivial) ⟨rfl, rfl, rfl, rfl⟩
end

/-- `(*plover/filter.parser).takes` -/
def dfilter_parser_takes (fu : Nat) (p1 : tfilterparser) (s1 : Str) : Option (Bool × tfilterparser) :=
  (dfilter_parser_next fu p1).bind fun x1 => (bif (!(x1.1.S == s1)) then some true else (bif (x1.1.Kind != 2) then some (x1.1.Kind != 5) else some false) : Option Bool).bind fun (x2 : Bool) => (bif x2 then some (false, x1.2) else ((gsl x1.2.L 1 (x1.2.L.length : Int)).bind fun l1 => some (true, (tfilterparser.mk l1 x1.2.Bad))))
section
attribute [local irreducible] awp aops DP PCall ACall Decidable.decide
theorem dfilter_parser_takes_l {fu : Nat} {p1 : tfilterparser} {s1 : Str} {r : Bool × tfilterparser} (h : dfilter_parser_takes fu p1 s1 = some r) : ACall Tryd.prog 56 1 [.ptr 0 0, .str (sB s1)] [(0, 0, .sl (p1.L.map c_ttokenToken)), (0, 1, .bool p1.Bad)] [] (fun r_ H_ O_ n_ => r_ = .bool r.1 ∧ H_ = [(0, 0, .sl (r.2.L.map c_ttokenToken)), (0, 1, .bool r.2.Bad)] ∧ O_ = [] ∧ n_ = 1) := by
  rw [dfilter_parser_takes] at h
  refine acall_body Tryd.func56 rfl (by kernel_rfl) (by rfl) ?_
  refine awp_seq ?_
  refine awp_region ?_
  refine rv rfl rfl ?_
  refine rn ?_
  refine awp_seq ?_
  refine awp_region ?_
  refine rv rfl rfl ?_
  obtain ⟨x1, hx1, h⟩ := bi h
  refine rh [0] rfl rfl (dfilter_parser_next_l hx1) rfl rfl rfl (zC rfl rfl rfl rfl (zC rfl rfl rfl rfl (trivial))) (trivial) ?_
  refine ek ?_
  refine as1 rfl ?_
  refine ae rfl rfl rfl ?_
  refine ra rfl rfl rfl ?_
  refine rs rfl rfl rfl rfl rfl rfl rfl ?_
  refine rn ?_
  refine awp_seq ?_
  refine awp_seq ?_
  obtain ⟨o2, ho3, h⟩ := bi h
  refine awp_cut1 (fun x => x = o2) (fun (x2 : Bool) => ⟨[(0, .ptr 0 0), (21, .bool x2)], [(0, 0, .sl (x1.2.L.map c_ttokenToken)), (0, 1, .bool x1.2.Bad)], [], 1⟩) ?_ ?_
  · refine awp_region ?_
    refine rvs 3 rfl ?_
    refine rv rfl rfl ?_
    refine rt (sNe x1.1.S s1) ?_
    refine rv rfl rfl ?_
    refine gs rfl rfl rfl rfl rfl (fun hg => ?_) (fun hg => ?_)
    · have ho3 := cF hg ho3
      refine rv rfl rfl ?_
      refine gy rfl rfl rfl ?_
      refine rv rfl rfl ?_
      refine gy rfl rfl rfl ?_
      refine rv rfl rfl ?_
      refine gy rfl rfl rfl ?_
      refine rv rfl rfl ?_
      refine gs rfl rfl rfl rfl rfl (fun hg => ?_) (fun hg => ?_)
      · have ho3 := cT hg ho3
        refine rv rfl rfl ?_
        refine gy rfl rfl rfl ?_
        refine rv rfl rfl ?_
        refine gy rfl rfl rfl ?_
        refine rv rfl rfl ?_
        refine gy rfl rfl rfl ?_
        refine rv rfl rfl ?_
        refine rv rfl rfl ?_
        refine rn ?_
        cases ho3
        exact cut_n [0] rfl rfl ⟨rfl, rfl, zA rfl rfl rfl (zA rfl rfl rfl (trivial)), zC rfl rfl rfl rfl (zC rfl rfl rfl rfl (trivial)), trivial⟩
      · have ho3 := cF hg ho3
        refine gn rfl rfl rfl rfl rfl ?_
        refine gn rfl rfl rfl rfl rfl ?_
        refine gy rfl rfl rfl ?_
        refine rv rfl rfl ?_
        refine rv rfl rfl ?_
        refine rn ?_
        cases ho3
        exact cut_n [0] rfl rfl ⟨rfl, rfl, zA rfl rfl rfl (zA rfl rfl rfl (trivial)), zC rfl rfl rfl rfl (zC rfl rfl rfl rfl (trivial)), trivial⟩
    · have ho3 := cT hg ho3
      refine gn rfl rfl rfl rfl rfl ?_
      refine gn rfl rfl rfl rfl rfl ?_
      refine gn rfl rfl rfl rfl rfl ?_
      refine gu rfl rfl rfl rfl ?_
      refine gu rfl rfl rfl rfl ?_
      refine gu rfl rfl rfl rfl ?_
      refine gn rfl rfl rfl rfl rfl ?_
      refine rv rfl rfl ?_
      refine rn ?_
      cases ho3
      exact cut_n [0] rfl rfl ⟨rfl, rfl, zA rfl rfl rfl (zA rfl rfl rfl (trivial)), zC rfl rfl rfl rfl (zC rfl rfl rfl rfl (trivial)), trivial⟩
  · rintro x2 rfl
    change awp _ _ _ _ _ ⟨_, _, _, _⟩
    refine cs_ rfl (fun hc => ?_) (fun hc => ?_)
    · have h := cT hc h
      refine awp_seq ?_
      refine awp_region ?_
      refine rv rfl rfl ?_
      refine rn ?_
      refine awp_ret ?_
      have h := Option.some.inj h
      subst h
      repeat (first | refine then_ret ?_ | refine inBlock_ret ?_ | refine cut_r ?_)
      exact rrA (r := .bool false) [0] [(0, 0, .sl (x1.2.L.map c_ttokenToken)), (0, 1, .bool x1.2.Bad)] [] rfl rfl rfl rfl (zC rfl rfl rfl rfl (zC rfl rfl rfl rfl (trivial))) (trivial) ⟨rfl, rfl, rfl, rfl⟩
    · have h := cF hc h
      refine awp_skip ?_
      refine awp_seq ?_
      refine awp_region ?_
      refine rvs 5 rfl ?_
      obtain ⟨l1, hx4, h⟩ := bi h
      refine rV rfl (va_slsub (c := c_ttokenToken) rfl rfl rfl rfl ⟨_, rfl⟩ rfl hx4 (fun _ => rfl)) ?_
      refine rvs 2 rfl ?_
      refine rs rfl rfl rfl rfl rfl rfl rfl ?_
      refine rn ?_
      refine awp_seq ?_
      refine awp_region ?_
      refine rv rfl rfl ?_
      refine rn ?_
      refine awp_ret ?_
      have h := Option.some.inj h
      subst h
      repeat (first | refine then_ret ?_ | refine inBlock_ret ?_ | refine cut_r ?_)
      exact rrA (r := .bool true) [0] [(0, 0, .sl (l1.map c_ttokenToken)), (0, 1, .bool x1.2.Bad)] [] rfl rfl rfl rfl (zC rfl rfl rfl rfl (zC rfl rfl rfl rfl (trivial))) (trivial) ⟨rfl, rfl, rfl, rfl⟩
end

/-- `(*plover/filter.parser).must` -/
def dfilter_parser_must (fu : Nat) (p1 : tfilterparser) (is1 : Bool) : Option tfilterparser :=
  bif p1.Bad then some (tfilterparser.mk p1.L true) else some (tfilterparser.mk p1.L (!is1))
section
attribute [local irreducible] awp aops DP PCall ACall Decidable.decide
theorem dfilter_parser_must_l {fu : Nat} {p1 : tfilterparser} {is1 : Bool} {r : tfilterparser} (h : dfilter_parser_must fu p1 is1 = some r) : ACall Tryd.prog 68 1 [.ptr 0 0, .bool is1] [(0, 0, .sl (p1.L.map c_ttokenToken)), (0, 1, .bool p1.Bad)] [] (fun r_ H_ O_ n_ => r_ = .tup [] ∧ H_ = [(0, 0, .sl (r.L.map c_ttokenToken)), (0, 1, .bool r.Bad)] ∧ O_ = [] ∧ n_ = 1) := by
  rw [dfilter_parser_must] at h
  refine acall_body Tryd.func68 rfl (by kernel_rfl) (by rfl) ?_
  refine awp_region ?_
  refine rvs 6 rfl ?_
  refine gs rfl rfl rfl rfl rfl (fun hg => ?_) (fun hg => ?_)
  · have h := cF hg h
    refine rv rfl rfl ?_
    refine gy rfl rfl rfl ?_
    refine rv rfl rfl ?_
    refine rvs 3 rfl ?_
    refine rs rfl rfl rfl rfl rfl rfl rfl ?_
    refine rn ?_
    have h := Option.some.inj h
    subst h
    exact rrA' (r := .tup []) [0] [(0, 0, .sl (p1.L.map c_ttokenToken)), (0, 1, .bool (!is1))] [] rfl rfl rfl rfl (zC rfl rfl rfl rfl (zC rfl rfl rfl rfl (trivial))) (trivial) ⟨rfl, rfl, rfl, rfl⟩
  · have h := cT hg h
    refine gn rfl rfl rfl rfl rfl ?_
    refine rvs 3 rfl ?_
    refine rs rfl rfl rfl rfl rfl rfl rfl ?_
    refine rn ?_
    have h := Option.some.inj h
    subst h
    exact rrA' (r := .tup []) [0] [(0, 0, .sl (p1.L.map c_ttokenToken)), (0, 1, .bool true)] [] rfl rfl rfl rfl (zC rfl rfl rfl rfl (zC rfl rfl rfl rfl (trivial))) (trivial) ⟨rfl, rfl, rfl, rfl⟩
end

/-- `(*plover/filter.parser).take` -/
def dfilter_parser_take (fu : Nat) (p1 : tfilterparser) (kinds1 : List Int) : Option (ttokenToken × tfilterparser) :=
  (dfilter_parser_next fu p1).bind fun x1 => (dslices_Contains_int fu kinds1 x1.1.Kind).bind fun x2 => bif (!x2) then some ((ttokenToken.mk 0 0 0 []), (tfilterparser.mk x1.2.L true)) else ((gsl x1.2.L 1 (x1.2.L.length : Int)).bind fun l1 => some (x1.1, (tfilterparser.mk l1 x1.2.Bad)))
section
attribute [local irreducible] awp aops DP PCall ACall Decidable.decide
theorem dfilter_parser_take_l {fu : Nat} {p1 : tfilterparser} {kinds1 : List Int} {r : ttokenToken × tfilterparser} (h : dfilter_parser_take fu p1 kinds1 = some r) : ACall Tryd.prog 86 1 [.ptr 0 0, .sl (kinds1.map (cI .i64))] [(0, 0, .sl (p1.L.map c_ttokenToken)), (0, 1, .bool p1.Bad)] [] (fun r_ H_ O_ n_ => r_ = .agg [.int .i64 r.1.Kind, .int .i64 r.1.At, .int .i64 r.1.N, .str (sB r.1.S)] ∧ H_ = [(0, 0, .sl (r.2.L.map c_ttokenToken)), (0, 1, .bool r.2.Bad)] ∧ O_ = [] ∧ n_ = 1) := by
  rw [dfilter_parser_take] at h
  refine acall_body Tryd.func86 rfl (by kernel_rfl) (by rfl) ?_
  refine awp_seq ?_
  refine awp_region ?_
  refine ra rfl rfl rfl ?_
  refine rn ?_
  refine awp_seq ?_
  refine awp_region ?_
  refine rv rfl rfl ?_
  obtain ⟨x1, hx1, h⟩ := bi h
  refine rh [0] rfl rfl (dfilter_parser_next_l hx1) rfl rfl rfl (zC rfl rfl rfl rfl (zC rfl rfl rfl rfl (trivial))) (trivial) ?_
  refine ek ?_
  refine as1 rfl ?_
  refine ae rfl rfl rfl ?_
  refine ra rfl rfl rfl ?_
  refine rs rfl rfl rfl rfl rfl rfl rfl ?_
  refine rn ?_
  refine awp_seq ?_
  refine awp_seq ?_
  refine awp_region ?_
  refine rvs 3 rfl ?_
  obtain ⟨x2, hx2, h⟩ := bi h
  refine rc1 rfl rfl rfl (dslices_Contains_int_l hx2) ?_
  refine rv rfl rfl ?_
  refine rn ?_
  refine cs_ rfl (fun hc => ?_) (fun hc => ?_)
  · have h := cT hc h
    refine awp_seq ?_
    refine awp_region ?_
    refine rvs 3 rfl ?_
    refine rs rfl rfl rfl rfl rfl rfl rfl ?_
    refine rn ?_
    refine awp_seq ?_
    refine awp_region ?_
    refine rv rfl rfl ?_
    refine rs rfl rfl rfl rfl rfl rfl rfl ?_
    refine rn ?_
    refine awp_ret ?_
    have h := Option.some.inj h
    subst h
    repeat (first | refine then_ret ?_ | refine inBlock_ret ?_ | refine cut_r ?_)
    exact rrA (r := .agg [.int .i64 0, .int .i64 0, .int .i64 0, .str (sB [])]) [0] [(0, 0, .sl (x1.2.L.map c_ttokenToken)), (0, 1, .bool true)] [] rfl rfl rfl rfl (zC rfl rfl rfl rfl (zC rfl rfl rfl rfl (trivial))) (trivial) ⟨rfl, rfl, rfl, rfl⟩
  · have h := cF hc h
    refine awp_skip ?_
    refine awp_seq ?_
    refine awp_region ?_
    refine rvs 5 rfl ?_
    obtain ⟨l1, hx3, h⟩ := bi h
    refine rV rfl (va_slsub (c := c_ttokenToken) rfl rfl rfl rfl ⟨_, rfl⟩ rfl hx3 (fun _ => rfl)) ?_
    refine rvs 2 rfl ?_
    refine rs rfl rfl rfl rfl rfl rfl rfl ?_
    refine rn ?_
    refine awp_seq ?_
    refine awp_region ?_
    refine rv rfl rfl ?_
    refine rs rfl rfl rfl rfl rfl rfl rfl ?_
    refine rn ?_
    refine awp_ret ?_
    have h := Option.some.inj h
    subst h
    repeat (first | refine then_ret ?_ | refine inBlock_ret ?_ | refine cut_r ?_)
    exact rrA (r := .agg [.int .i64 x1.1.Kind, .int .i64 x1.1.At, .int .i64 x1.1.N, .str (sB x1.1.S)]) [0] [(0, 0, .sl (l1.map c_ttokenToken)), (0, 1, .bool x1.2.Bad)] [] rfl rfl rfl rfl (zC rfl rfl rfl rfl (zC rfl rfl rfl rfl (trivial))) (trivial) ⟨rfl, rfl, rfl, rfl⟩
end

/-- `(*plover/filter.parser).value` -/
def dfilter_parser_value (fu : Nat) (p1 : tfilterparser) (kinds1 : List Int) : Option (tAttr × tfilterparser) :=
  (dfilter_parser_take fu p1 kinds1).bind fun x1 => bif (x1.1.Kind == 4) then some ((tAttr.mk [] true 0 x1.1.S), x1.2) else some ((tAttr.mk [] false x1.1.N []), x1.2)
section
attribute [local irreducible] awp aops DP PCall ACall Decidable.decide
theorem dfilter_parser_value_l {fu : Nat} {p1 : tfilterparser} {kinds1 : List Int} {r : tAttr × tfilterparser} (h : dfilter_parser_value fu p1 kinds1 = some r) : ACall Tryd.prog 87 1 [.ptr 0 0, .sl (kinds1.map (cI .i64))] [(0, 0, .sl (p1.L.map c_ttokenToken)), (0, 1, .bool p1.Bad)] [] (fun r_ H_ O_ n_ => r_ = .agg [.str (sB r.1.Name), .bool r.1.Text, .int .i64 r.1.N, .str (sB r.1.S)] ∧ H_ = [(0, 0, .sl (r.2.L.map c_ttokenToken)), (0, 1, .bool r.2.Bad)] ∧ O_ = [] ∧ n_ = 1) := by
  rw [dfilter_parser_value] at h
  refine acall_body Tryd.func87 rfl (by kernel_rfl) (by rfl) ?_
  refine awp_seq ?_
  refine awp_region ?_
  refine ra rfl rfl rfl ?_
  refine rn ?_
  refine awp_seq ?_
  refine awp_region ?_
  refine rvs 2 rfl ?_
  obtain ⟨x1, hx1, h⟩ := bi h
  refine rh [0] rfl rfl (dfilter_parser_take_l hx1) rfl rfl rfl (zC rfl rfl rfl rfl (zC rfl rfl rfl rfl (trivial))) (trivial) ?_
  refine ek ?_
  refine as1 rfl ?_
  refine ae rfl rfl rfl ?_
  refine ra rfl rfl rfl ?_
  refine rs rfl rfl rfl rfl rfl rfl rfl ?_
  refine rn ?_
  refine awp_seq ?_
  refine awp_seq ?_
  refine awp_region ?_
  refine rvs 3 rfl ?_
  refine rn ?_
  refine cs_ rfl (fun hc => ?_) (fun hc => ?_)
  · have h := cT hc h
    refine awp_seq ?_
    refine awp_region ?_
    refine rvs 3 rfl ?_
    refine rs rfl rfl rfl rfl rfl rfl rfl ?_
    refine rn ?_
    refine awp_ret ?_
    have h := Option.some.inj h
    subst h
    repeat (first | refine then_ret ?_ | refine inBlock_ret ?_ | refine cut_r ?_)
    exact rrA (r := .agg [.str (sB []), .bool true, .int .i64 0, .str (sB x1.1.S)]) [0] [(0, 0, .sl (x1.2.L.map c_ttokenToken)), (0, 1, .bool x1.2.Bad)] [] rfl rfl rfl rfl (zC rfl rfl rfl rfl (zC rfl rfl rfl rfl (trivial))) (trivial) ⟨rfl, rfl, rfl, rfl⟩
  · have h := cF hc h
    refine awp_skip ?_
    refine awp_seq ?_
    refine awp_region ?_
    refine rvs 3 rfl ?_
    refine rs rfl rfl rfl rfl rfl rfl rfl ?_
    refine rn ?_
    refine awp_ret ?_
    have h := Option.some.inj h
    subst h
    repeat (first | refine then_ret ?_ | refine inBlock_ret ?_ | refine cut_r ?_)
    exact rrA (r := .agg [.str (sB []), .bool false, .int .i64 x1.1.N, .str (sB [])]) [0] [(0, 0, .sl (x1.2.L.map c_ttokenToken)), (0, 1, .bool x1.2.Bad)] [] rfl rfl rfl rfl (zC rfl rfl rfl rfl (zC rfl rfl rfl rfl (trivial))) (trivial) ⟨rfl, rfl, rfl, rfl⟩
end

/-- `(*plover/filter.parser).leaf` -/
def dfilter_parser_leaf (fu : Nat) (p1 : tfilterparser) : Option (tFilter × tfilterparser) :=
  (dfilter_parser_take fu p1 [1]).bind fun x1 => (dfilter_parser_takes fu x1.2 [105, 110]).bind fun x2 => bif x2.1 then ((dfilter_parser_takes fu x2.2 [40]).bind fun x3 => (dfilter_parser_must fu x3.2 x3.1).bind fun x4 => (loopD (ε := Bool × (List ttokenToken) × Bool × (List tAttr)) (τ := (List ttokenToken) × Bool × (List tAttr)) (fun (((more1, p2, p3, l1)) : Bool × (List ttokenToken) × Bool × (List tAttr)) => (bif more1 then ((dfilter_parser_value fu (tfilterparser.mk p2 p3) [3, 4]).bind fun x5 => (ap l1 [x5.1]).bind fun l4 => (gi l4 0).bind fun x7 => (dfilter_parser_must fu x5.2 (x5.1.Text == x7.Text)).bind fun x8 => (dfilter_parser_takes fu x8 [44]).bind fun more3 => some (Sum.inl (more3.1, more3.2.L, more3.2.Bad, l4))) else some (Sum.inr (p2, p3, l1)))) fu (true, x4.L, x4.Bad, [])).bind fun (((p6, p7, l3)) : (List ttokenToken) × Bool × (List tAttr)) => ((dfilter_parser_takes fu (tfilterparser.mk p6 p7) [41]).bind fun x9 => (dfilter_parser_must fu x9.2 x9.1).bind fun x10 => some ((tFilter.mk 6 x1.1.S [] l3 []), x10))) else ((dfilter_parser_takes fu x2.2 [94, 61]).bind fun x11 => bif x11.1 then ((dfilter_parser_value fu x11.2 [4]).bind fun x12 => some ((tFilter.mk 5 x1.1.S [] [x12.1] []), x12.2)) else ((dfilter_parser_take fu x11.2 [5]).bind fun x13 => (dfilter_ops fu ).bind fun x16 => (dslices_Contains_string fu x16 x13.1.S).bind fun x17 => (dfilter_parser_must fu x13.2 x17).bind fun x18 => (dfilter_parser_value fu x18 [3, 4]).bind fun x19 => some ((tFilter.mk 4 x1.1.S x13.1.S [x19.1] []), x19.2)))
section
attribute [local irreducible] awp aops DP PCall ACall Decidable.decide
theorem dfilter_parser_leaf_l {fu : Nat} {p1 : tfilterparser} {r : tFilter × tfilterparser} (h : dfilter_parser_leaf fu p1 = some r) : ACall Tryd.prog 69 1 [.ptr 0 0] [(0, 0, .sl (p1.L.map c_ttokenToken)), (0, 1, .bool p1.Bad)] [] (fun r_ H_ O_ n_ => r_ = .agg (c_tFilter r.1) ∧ H_ = [(0, 0, .sl (r.2.L.map c_ttokenToken)), (0, 1, .bool r.2.Bad)] ∧ O_ = [] ∧ n_ = 1) := by
  rw [dfilter_parser_leaf] at h
  refine acall_body Tryd.func69 rfl (by kernel_rfl) (by rfl) ?_
  refine awp_seq ?_
  refine awp_region ?_
  refine ra rfl rfl rfl ?_
  refine rn ?_
  refine awp_seq ?_
  refine awp_region ?_
  refine rv rfl rfl ?_
  refine rbs false rfl rfl rfl rfl rfl rfl rfl rfl rfl rfl ?_
  obtain ⟨x1, hx1, h⟩ := bi h
  refine rh [0] rfl rfl (dfilter_parser_take_l hx1) rfl rfl rfl (zC rfl rfl rfl rfl (zC rfl rfl rfl rfl (trivial))) (trivial) ?_
  refine ek ?_
  refine as1 rfl ?_
  refine ae rfl rfl rfl ?_
  refine rvs 2 rfl ?_
  refine ra rfl rfl rfl ?_
  refine rs rfl rfl rfl rfl rfl rfl rfl ?_
  refine rn ?_
  refine awp_seq ?_
  refine awp_block ?_
  refine awp_seq ?_
  refine awp_region ?_
  refine rv rfl rfl ?_
  obtain ⟨x2, hx2, h⟩ := bi h
  refine rh [0] rfl rfl (dfilter_parser_takes_l hx2) rfl rfl rfl (zC rfl rfl rfl rfl (zC rfl rfl rfl rfl (trivial))) (trivial) ?_
  refine ek ?_
  refine as1 rfl ?_
  refine ae rfl rfl rfl ?_
  refine rv rfl rfl ?_
  refine rn ?_
  refine cs_ rfl (fun hc => ?_) (fun hc => ?_)
  · have h := cT hc h
    refine awp_seq ?_
    refine awp_region ?_
    refine rv rfl rfl ?_
    refine rs rfl rfl rfl rfl rfl rfl rfl ?_
    refine rn ?_
    refine awp_seq ?_
    refine awp_region ?_
    refine rvs 2 rfl ?_
    obtain ⟨x3, hx3, h⟩ := bi h
    refine rh [0] rfl rfl (dfilter_parser_takes_l hx3) rfl rfl rfl (zC rfl rfl rfl rfl (zC rfl rfl rfl rfl (trivial))) (trivial) ?_
    refine ek ?_
    refine as1 rfl ?_
    refine ae rfl rfl rfl ?_
    obtain ⟨x4, hx4, h⟩ := bi h
    refine rh [0] rfl rfl (dfilter_parser_must_l hx4) rfl rfl rfl (zC rfl rfl rfl rfl (zC rfl rfl rfl rfl (trivial))) (trivial) ?_
    refine ek ?_
    refine as1 rfl ?_
    refine ae rfl rfl rfl ?_
    refine rn ?_
    refine awp_seq ?_
    refine awp_seq ?_
    refine awp_region ?_
    refine rv rfl rfl ?_
    refine rn ?_
    refine awp_conv (fun _ _ _ _ _ hi => nilS_cell false 4 3 3 rfl hi) ?_
    obtain ⟨e5, hl6, h⟩ := bi h
    refine awp_cut1 (fun x => x = e5) (fun (((p6, p7, l3)) : (List ttokenToken) × Bool × (List tAttr)) => ⟨[(0, .ptr 0 0), (2, .ptr 1 0), (3, .ptr 2 0)], [(0, 0, .sl (p6.map c_ttokenToken)), (0, 1, .bool p7), (1, 0, .int .i64 0), (1, 1, .str (sB [])), (1, 2, .str (sB [])), (1, 3, .nilS), (1, 4, .nilS), (2, 0, .int .i64 6), (2, 1, .str (sB x1.1.S)), (2, 2, .str (sB [])), (2, 3, .own 3), (2, 4, .nilS)], [(3, .row 4 (l3.map c_tAttr))], 4⟩) ?_ ?_
    · refine awp_block ?_
      refine awp_loopD hl6 (fun (((more1, p2, p3, l1)) : Bool × (List ttokenToken) × Bool × (List tAttr)) => ⟨[(0, .ptr 0 0), (2, .ptr 1 0), (3, .ptr 2 0), (4, .bool more1)], [(0, 0, .sl (p2.map c_ttokenToken)), (0, 1, .bool p3), (1, 0, .int .i64 0), (1, 1, .str (sB [])), (1, 2, .str (sB [])), (1, 3, .nilS), (1, 4, .nilS), (2, 0, .int .i64 6), (2, 1, .str (sB x1.1.S)), (2, 2, .str (sB [])), (2, 3, .own 3), (2, 4, .nilS)], [(3, .row 4 (l1.map c_tAttr))], 4⟩) [0, 1, 3, 4] rfl ⟨rfl, rfl, zA rfl rfl rfl (zA rfl rfl rfl (zA rfl rfl rfl (zA rfl rfl rfl (trivial)))), zC rfl rfl rfl rfl (zC rfl rfl rfl rfl (zC rfl rfl rfl rfl (zC rfl rfl rfl rfl (zC rfl rfl rfl rfl (zC rfl rfl rfl rfl (zC rfl rfl rfl rfl (zC rfl rfl rfl rfl (zC rfl rfl rfl rfl (zC rfl rfl rfl rfl (zC rfl rfl rfl rfl (zC rfl rfl rfl rfl (trivial)))))))))))), zE rfl .row rfl (trivial)⟩ ?_
      intro v o9 ho7 hE8
      obtain ⟨more1, p2, p3, l1⟩ := v
      change awp _ _ _ _ _ ⟨_, _, _, _⟩
      refine awp_seq ?_
      refine awp_seq ?_
      refine awp_region ?_
      refine rv rfl rfl ?_
      refine rn ?_
      refine cs_ rfl (fun hc => ?_) (fun hc => ?_)
      · have ho7 := cT hc ho7
        refine awp_skip ?_
        refine awp_seq ?_
        refine awp_block ?_
        refine awp_seq ?_
        refine awp_region ?_
        refine rv rfl rfl ?_
        refine rbs false rfl rfl rfl rfl rfl rfl rfl rfl rfl rfl ?_
        obtain ⟨x5, hx10, ho7⟩ := bi ho7
        refine rh [0] rfl rfl (dfilter_parser_value_l hx10) rfl rfl rfl (zC rfl rfl rfl rfl (zC rfl rfl rfl rfl (trivial))) (trivial) ?_
        refine ek ?_
        refine as1 rfl ?_
        refine ae rfl rfl rfl ?_
        refine ra rfl rfl rfl ?_
        refine rs rfl rfl rfl rfl rfl rfl rfl ?_
        refine rn ?_
        refine awp_seq ?_
        refine awp_region ?_
        refine rvs 3 rfl ?_
        refine rbs false rfl rfl rfl rfl rfl rfl rfl rfl rfl rfl ?_
        obtain ⟨l4, hx11, ho7⟩ := bi ho7
        refine rap false (xs := l1.map c_tAttr) (ys := [x5.1].map c_tAttr) rfl rfl rfl rfl rfl rfl rfl (.own rfl rfl) (.sl rfl rfl rfl) (wM (fun _ => by rfl) _) (oM (fun _ => by rfl) _) (apB c_tAttr rfl hx11) rfl ?_
        refine rk (congrArg (Kind.row _) (apM c_tAttr hx11)) ?_
        refine rv rfl rfl ?_
        refine rs rfl rfl rfl rfl rfl rfl rfl ?_
        refine rn ?_
        refine awp_ren (L := [0, 1, 2, 5, 7]) (s' := ⟨[(0, .ptr 0 0), (2, .ptr 1 0), (3, .ptr 2 0), (5, .ptr 3 0)], [(0, 0, .sl (x5.2.L.map c_ttokenToken)), (0, 1, .bool x5.2.Bad), (1, 0, .int .i64 0), (1, 1, .str (sB [])), (1, 2, .str (sB [])), (1, 3, .nilS), (1, 4, .nilS), (2, 0, .int .i64 6), (2, 1, .str (sB x1.1.S)), (2, 2, .str (sB [])), (2, 3, .own 4), (2, 4, .nilS), (3, 0, .str (sB x5.1.Name)), (3, 1, .bool x5.1.Text), (3, 2, .int .i64 x5.1.N), (3, 3, .str (sB x5.1.S))], [(4, .row 4 (l4.map c_tAttr))], 5⟩) ⟨rfl, rfl, zA rfl rfl rfl (zA rfl rfl rfl (zA rfl rfl rfl (zA rfl rfl rfl (trivial)))), zC rfl rfl rfl rfl (zC rfl rfl rfl rfl (zC rfl rfl rfl rfl (zC rfl rfl rfl rfl (zC rfl rfl rfl rfl (zC rfl rfl rfl rfl (zC rfl rfl rfl rfl (zC rfl rfl rfl rfl (zC rfl rfl rfl rfl (zC rfl rfl rfl rfl (zC rfl rfl rfl rfl (zC rfl rfl rfl rfl (zC rfl rfl rfl rfl (zC rfl rfl rfl rfl (zC rfl rfl rfl rfl (zC rfl rfl rfl rfl (trivial)))))))))))))))), zE rfl .row rfl (trivial)⟩ rfl ?_
        refine awp_dx (m := 10) [] Tryd.mix (by kernel_rfl) (by kernel_rfl) (by kernel_rfl) (by kernel_rfl) (by kernel_rfl) (by kernel_rfl) ?_
        refine xv [] rfl rfl (fun _ => rfl) ?_
        refine xv [] rfl rfl (fun _ => rfl) ?_
        refine xv [3] rfl rfl (fun _ => rfl) ?_
        refine xv [] rfl rfl (fun _ => rfl) ?_
        refine xv [2] rfl rfl (fun _ => rfl) ?_
        obtain ⟨x7, hx13, ho7⟩ := bi ho7
        refine xV [4] rfl rfl (fun _ => va_idx rfl rfl rfl rfl rfl (gi0 hx13) (giM c_tAttr hx13) (wM (fun _ => by rfl) _)) ?_
        refine xv [] rfl rfl (fun _ => rfl) ?_
        refine xv [] rfl rfl (fun _ => rfl) ?_
        refine xv [] rfl rfl (fun _ => rfl) ?_
        obtain ⟨x8, hx14, ho7⟩ := bi ho7
        refine xE [0] (.tup []) 5 _ _ rfl rfl (by
            refine rh [0] rfl rfl (dfilter_parser_must_l hx14) rfl rfl rfl (zC rfl rfl rfl rfl (zC rfl rfl rfl rfl (trivial))) (trivial) ?_
            refine ek ?_
            refine as1 rfl ?_
            refine ae rfl rfl rfl ?_
            exact rn ⟨rfl, rfl⟩) (by rfl) (by rfl) (by rfl) ?_
        refine xn (by kernel_rfl) ?_
        refine rn ?_
        refine inBlock_normal ?_
        refine awp_region ?_
        refine rv rfl rfl ?_
        obtain ⟨more3, hx15, ho7⟩ := bi ho7
        refine rh [0] rfl rfl (dfilter_parser_takes_l hx15) rfl rfl rfl (zC rfl rfl rfl rfl (zC rfl rfl rfl rfl (trivial))) (trivial) ?_
        refine ek ?_
        refine as1 rfl ?_
        refine ae rfl rfl rfl ?_
        refine rv rfl rfl ?_
        refine rn ?_
        cases ho7
        exact lp_n [0, 1, 2, 4] rfl rfl ⟨rfl, rfl, zA rfl rfl rfl (zA rfl rfl rfl (zA rfl rfl rfl (zA rfl rfl rfl (trivial)))), zC rfl rfl rfl rfl (zC rfl rfl rfl rfl (zC rfl rfl rfl rfl (zC rfl rfl rfl rfl (zC rfl rfl rfl rfl (zC rfl rfl rfl rfl (zC rfl rfl rfl rfl (zC rfl rfl rfl rfl (zC rfl rfl rfl rfl (zC rfl rfl rfl rfl (zC rfl rfl rfl rfl (zC rfl rfl rfl rfl (trivial)))))))))))), zE rfl .row rfl (trivial)⟩
      · have ho7 := cF hc ho7
        refine awp_exit ?_
        repeat (first | refine then_exit ?_ | refine cut_x ?_ | refine inBlock_other rfl ?_)
        refine inBlock_exit ?_
        cases ho7
        have hq := hE8 _ rfl
        subst hq
        exact cut_n [0, 1, 2, 3] rfl rfl ⟨rfl, rfl, zA rfl rfl rfl (zA rfl rfl rfl (zA rfl rfl rfl (trivial))), zC rfl rfl rfl rfl (zC rfl rfl rfl rfl (zC rfl rfl rfl rfl (zC rfl rfl rfl rfl (zC rfl rfl rfl rfl (zC rfl rfl rfl rfl (zC rfl rfl rfl rfl (zC rfl rfl rfl rfl (zC rfl rfl rfl rfl (zC rfl rfl rfl rfl (zC rfl rfl rfl rfl (zC rfl rfl rfl rfl (trivial)))))))))))), zE rfl .row rfl (trivial)⟩
    · rintro ⟨p6, p7, l3⟩ rfl
      change awp _ _ _ _ _ ⟨_, _, _, _⟩
      refine awp_seq ?_
      refine awp_region ?_
      refine rvs 2 rfl ?_
      obtain ⟨x9, hx16, h⟩ := bi h
      refine rh [0] rfl rfl (dfilter_parser_takes_l hx16) rfl rfl rfl (zC rfl rfl rfl rfl (zC rfl rfl rfl rfl (trivial))) (trivial) ?_
      refine ek ?_
      refine as1 rfl ?_
      refine ae rfl rfl rfl ?_
      obtain ⟨x10, hx17, h⟩ := bi h
      refine rh [0] rfl rfl (dfilter_parser_must_l hx17) rfl rfl rfl (zC rfl rfl rfl rfl (zC rfl rfl rfl rfl (trivial))) (trivial) ?_
      refine ek ?_
      refine as1 rfl ?_
      refine ae rfl rfl rfl ?_
      refine rn ?_
      refine awp_seq ?_
      refine awp_region ?_
      refine rv rfl rfl ?_
      refine rs rfl rfl rfl rfl rfl rfl rfl ?_
      refine rn ?_
      refine awp_ret ?_
      have h := Option.some.inj h
      subst h
      repeat (first | refine then_ret ?_ | refine inBlock_ret ?_ | refine cut_r ?_)
      exact rrA (r := .agg [.int .i64 6, .str (sB x1.1.S), .str (sB []), .sl (l3.map c_tAttr), .sl (cs_tFilter ([] : List tFilter))]) [0] [(0, 0, .sl (x10.L.map c_ttokenToken)), (0, 1, .bool x10.Bad)] [] rfl rfl rfl rfl (zC rfl rfl rfl rfl (zC rfl rfl rfl rfl (trivial))) (trivial) ⟨rfl, rfl, rfl, rfl⟩
  · have h := cF hc h
    refine awp_seq ?_
    refine awp_region ?_
    refine rv rfl rfl ?_
    obtain ⟨x11, hx18, h⟩ := bi h
    refine rh [0] rfl rfl (dfilter_parser_takes_l hx18) rfl rfl rfl (zC rfl rfl rfl rfl (zC rfl rfl rfl rfl (trivial))) (trivial) ?_
    refine ek ?_
    refine as1 rfl ?_
    refine ae rfl rfl rfl ?_
    refine rv rfl rfl ?_
    refine rn ?_
    refine cs_ rfl (fun hc => ?_) (fun hc => ?_)
    · have h := cT hc h
      refine awp_seq ?_
      refine awp_region ?_
      refine rv rfl rfl ?_
      refine rs rfl rfl rfl rfl rfl rfl rfl ?_
      refine rn ?_
      refine awp_seq ?_
      refine awp_region ?_
      refine rv rfl rfl ?_
      refine rbs false rfl rfl rfl rfl rfl rfl rfl rfl rfl rfl ?_
      obtain ⟨x12, hx19, h⟩ := bi h
      refine rh [0] rfl rfl (dfilter_parser_value_l hx19) rfl rfl rfl (zC rfl rfl rfl rfl (zC rfl rfl rfl rfl (trivial))) (trivial) ?_
      refine ek ?_
      refine as1 rfl ?_
      refine ae rfl rfl rfl ?_
      refine rbs false rfl rfl rfl rfl rfl rfl rfl rfl rfl rfl ?_
      refine rv rfl rfl ?_
      refine rs rfl rfl rfl rfl rfl rfl rfl ?_
      refine rn ?_
      refine awp_seq ?_
      refine awp_region ?_
      refine rv rfl rfl ?_
      refine rs rfl rfl rfl rfl rfl rfl rfl ?_
      refine rn ?_
      refine awp_ret ?_
      have h := Option.some.inj h
      subst h
      repeat (first | refine then_ret ?_ | refine inBlock_ret ?_ | refine cut_r ?_)
      exact rrA (r := .agg [.int .i64 5, .str (sB x1.1.S), .str (sB []), .sl ([x12.1].map c_tAttr), .sl (cs_tFilter ([] : List tFilter))]) [0] [(0, 0, .sl (x12.2.L.map c_ttokenToken)), (0, 1, .bool x12.2.Bad)] [] rfl rfl rfl rfl (zC rfl rfl rfl rfl (zC rfl rfl rfl rfl (trivial))) (trivial) ⟨rfl, rfl, rfl, rfl⟩
    · have h := cF hc h
      refine awp_skip ?_
      refine inBlock_normal ?_
      refine awp_seq ?_
      refine awp_region ?_
      refine rv rfl rfl ?_
      refine rs rfl rfl rfl rfl rfl rfl rfl ?_
      refine rn ?_
      refine awp_seq ?_
      refine awp_region ?_
      refine rv rfl rfl ?_
      refine rbs false rfl rfl rfl rfl rfl rfl rfl rfl rfl rfl ?_
      obtain ⟨x13, hx20, h⟩ := bi h
      refine rh [0] rfl rfl (dfilter_parser_take_l hx20) rfl rfl rfl (zC rfl rfl rfl rfl (zC rfl rfl rfl rfl (trivial))) (trivial) ?_
      refine ek ?_
      refine as1 rfl ?_
      refine ae rfl rfl rfl ?_
      refine rvs 2 rfl ?_
      refine rs rfl rfl rfl rfl rfl rfl rfl ?_
      refine rn ?_
      refine awp_seq ?_
      refine awp_dx (m := 6) [] Tryd.mix (by kernel_rfl) (by kernel_rfl) (by kernel_rfl) (by kernel_rfl) (by kernel_rfl) (by kernel_rfl) ?_
      refine xv [] rfl rfl (fun _ => rfl) ?_
      obtain ⟨x16, hx23, h⟩ := bi h
      refine xc [] rfl rfl rfl (fun _ => rfl) (fun _ => (dfilter_ops_l hx23)) ?_
      refine xv [] rfl rfl (fun _ => rfl) ?_
      refine xv [3] rfl rfl (fun _ => rfl) ?_
      obtain ⟨x17, hx24, h⟩ := bi h
      refine xc [] rfl rfl rfl (fun _ => rfl) (fun _ => (dslices_Contains_string_l hx24)) ?_
      obtain ⟨x18, hx25, h⟩ := bi h
      refine xE [0] (.tup []) 5 _ _ rfl rfl (by
          refine rh [0] rfl rfl (dfilter_parser_must_l hx25) rfl rfl rfl (zC rfl rfl rfl rfl (zC rfl rfl rfl rfl (trivial))) (trivial) ?_
          refine ek ?_
          refine as1 rfl ?_
          refine ae rfl rfl rfl ?_
          exact rn ⟨rfl, rfl⟩) (by rfl) (by rfl) (by rfl) ?_
      refine xn (by kernel_rfl) ?_
      refine rn ?_
      refine awp_seq ?_
      refine awp_region ?_
      refine rv rfl rfl ?_
      refine rbs false rfl rfl rfl rfl rfl rfl rfl rfl rfl rfl ?_
      obtain ⟨x19, hx26, h⟩ := bi h
      refine rh [0] rfl rfl (dfilter_parser_value_l hx26) rfl rfl rfl (zC rfl rfl rfl rfl (zC rfl rfl rfl rfl (trivial))) (trivial) ?_
      refine ek ?_
      refine as1 rfl ?_
      refine ae rfl rfl rfl ?_
      refine rbs false rfl rfl rfl rfl rfl rfl rfl rfl rfl rfl ?_
      refine rv rfl rfl ?_
      refine rs rfl rfl rfl rfl rfl rfl rfl ?_
      refine rn ?_
      refine awp_seq ?_
      refine awp_region ?_
      refine rv rfl rfl ?_
      refine rs rfl rfl rfl rfl rfl rfl rfl ?_
      refine rn ?_
      refine awp_ret ?_
      have h := Option.some.inj h
      subst h
      repeat (first | refine then_ret ?_ | refine inBlock_ret ?_ | refine cut_r ?_)
      exact rrA (r := .agg [.int .i64 4, .str (sB x1.1.S), .str (sB x13.1.S), .sl ([x19.1].map c_tAttr), .sl (cs_tFilter ([] : List tFilter))]) [0] [(0, 0, .sl (x19.2.L.map c_ttokenToken)), (0, 1, .bool x19.2.Bad)] [] rfl rfl rfl rfl (zC rfl rfl rfl rfl (zC rfl rfl rfl rfl (trivial))) (trivial) ⟨rfl, rfl, rfl, rfl⟩
end

mutual
def dfilter_parser_or : Nat → tfilterparser → Option (tFilter × tfilterparser)
  | 0, _ => none
  | fu + 1, p1 => (dfilter_parser_row_and fu p1 2 [111, 114]).bind fun x1 => match x1 with | (.mk kind1 name1 op1 vals1 l1, x2) => some ((tFilter.mk kind1 name1 op1 vals1 l1), x2)
def dfilter_parser_row_and : Nat → tfilterparser → Int → Str → Option (tFilter × tfilterparser)
  | 0, _, _, _ => none
  | fu + 1, p1, kind1, word1 => (dfilter_parser_and fu p1).bind fun x1 => match x1 with | (.mk kind2 name1 op1 vals1 l1, x2) => (loopD (ε := (List ttokenToken) × Bool × (List tFilter)) (τ := (List ttokenToken) × Bool × (List tFilter)) (fun (((p2, p3, l2)) : (List ttokenToken) × Bool × (List tFilter)) => ((dfilter_parser_takes fu (tfilterparser.mk p2 p3) word1).bind fun x5 => bif x5.1 then ((dfilter_parser_and fu x5.2).bind fun l5 => match l5 with | (.mk kind3 name2 op2 vals2 l6, l7) => (ap l2 [(tFilter.mk kind3 name2 op2 vals2 l6)]).bind fun l8 => some (Sum.inl (l7.L, l7.Bad, l8))) else some (Sum.inr (x5.2.L, x5.2.Bad, l2)))) fu (x2.L, x2.Bad, [(tFilter.mk kind2 name1 op1 vals1 l1)])).bind fun (((x3, x4, l4)) : (List ttokenToken) × Bool × (List tFilter)) => (bif ((l4.length : Int) == 1) then some ((tFilter.mk kind2 name1 op1 vals1 l1), (tfilterparser.mk x3 x4)) else ((loopD (ε := Int × (List tFilter)) (τ := List tFilter) (fun (((x6, l9)) : Int × (List tFilter)) => (bif (decide (x6 < (l4.length : Int))) then (((gi l4 x6).bind fun x8 => match x8 with | .mk kind4 name3 op3 vals3 l13 => bif (kind4 == kind1) then ((ap l9 l13).bind fun l14 => some l14) else ((ap l9 [(tFilter.mk kind4 name3 op3 vals3 l13)]).bind fun l15 => some l15) : Option (List tFilter)).bind fun (l12 : List tFilter) => some (Sum.inl (W (x6 + 1), l12))) else some (Sum.inr l9))) fu (0, [])).bind fun (l11 : List tFilter) => some ((tFilter.mk kind1 [] [] [] l11), (tfilterparser.mk x3 x4))))
def dfilter_parser_and : Nat → tfilterparser → Option (tFilter × tfilterparser)
  | 0, _ => none
  | fu + 1, p1 => (dfilter_parser_row_not fu p1 1 [97, 110, 100]).bind fun x1 => match x1 with | (.mk kind1 name1 op1 vals1 l1, x2) => some ((tFilter.mk kind1 name1 op1 vals1 l1), x2)
def dfilter_parser_row_not : Nat → tfilterparser → Int → Str → Option (tFilter × tfilterparser)
  | 0, _, _, _ => none
  | fu + 1, p1, kind1, word1 => (dfilter_parser_not fu p1).bind fun x1 => match x1 with | (.mk kind2 name1 op1 vals1 l1, x2) => (loopD (ε := (List ttokenToken) × Bool × (List tFilter)) (τ := (List ttokenToken) × Bool × (List tFilter)) (fun (((p2, p3, l2)) : (List ttokenToken) × Bool × (List tFilter)) => ((dfilter_parser_takes fu (tfilterparser.mk p2 p3) word1).bind fun x5 => bif x5.1 then ((dfilter_parser_not fu x5.2).bind fun l5 => match l5 with | (.mk kind3 name2 op2 vals2 l6, l7) => (ap l2 [(tFilter.mk kind3 name2 op2 vals2 l6)]).bind fun l8 => some (Sum.inl (l7.L, l7.Bad, l8))) else some (Sum.inr (x5.2.L, x5.2.Bad, l2)))) fu (x2.L, x2.Bad, [(tFilter.mk kind2 name1 op1 vals1 l1)])).bind fun (((x3, x4, l4)) : (List ttokenToken) × Bool × (List tFilter)) => (bif ((l4.length : Int) == 1) then some ((tFilter.mk kind2 name1 op1 vals1 l1), (tfilterparser.mk x3 x4)) else ((loopD (ε := Int × (List tFilter)) (τ := List tFilter) (fun (((x6, l9)) : Int × (List tFilter)) => (bif (decide (x6 < (l4.length : Int))) then (((gi l4 x6).bind fun x8 => match x8 with | .mk kind4 name3 op3 vals3 l13 => bif (kind4 == kind1) then ((ap l9 l13).bind fun l14 => some l14) else ((ap l9 [(tFilter.mk kind4 name3 op3 vals3 l13)]).bind fun l15 => some l15) : Option (List tFilter)).bind fun (l12 : List tFilter) => some (Sum.inl (W (x6 + 1), l12))) else some (Sum.inr l9))) fu (0, [])).bind fun (l11 : List tFilter) => some ((tFilter.mk kind1 [] [] [] l11), (tfilterparser.mk x3 x4))))
def dfilter_parser_not : Nat → tfilterparser → Option (tFilter × tfilterparser)
  | 0, _ => none
  | fu + 1, p1 => (dfilter_parser_takes fu p1 [110, 111, 116]).bind fun x1 => bif x1.1 then ((dfilter_parser_not fu x1.2).bind fun x2 => match x2 with | (.mk kind1 name1 op1 vals1 l1, x3) => some ((tFilter.mk 3 [] [] [] [(tFilter.mk kind1 name1 op1 vals1 l1)]), x3)) else ((dfilter_parser_takes fu x1.2 [40]).bind fun x4 => bif x4.1 then ((dfilter_parser_or fu x4.2).bind fun x5 => match x5 with | (.mk kind2 name2 op2 vals2 l2, x6) => (dfilter_parser_takes fu x6 [41]).bind fun x7 => (dfilter_parser_must fu x7.2 x7.1).bind fun x8 => some ((tFilter.mk kind2 name2 op2 vals2 l2), x8)) else ((dfilter_parser_takes fu x4.2 [116, 114, 117, 101]).bind fun x9 => bif x9.1 then some ((tFilter.mk 7 [] [] [] []), x9.2) else ((dfilter_parser_leaf fu x9.2).bind fun x10 => match x10 with | (.mk kind3 name3 op3 vals3 l3, x11) => some ((tFilter.mk kind3 name3 op3 vals3 l3), x11))))
end
section
attribute [local irreducible] awp aops DP PCall ACall Decidable.decide
/-- `(*plover/filter.parser).or` -/
theorem dfilter_parser_or_s {fu : Nat} (ih_dfilter_parser_or : ∀ {p1} {r : tFilter × tfilterparser}, dfilter_parser_or fu p1 = some r → ACall Tryd.prog 22 1 [.ptr 0 0] [(0, 0, .sl (p1.L.map c_ttokenToken)), (0, 1, .bool p1.Bad)] [] (fun r_ H_ O_ n_ => r_ = .agg (c_tFilter r.1) ∧ H_ = [(0, 0, .sl (r.2.L.map c_ttokenToken)), (0, 1, .bool r.2.Bad)] ∧ O_ = [] ∧ n_ = 1)) (ih_dfilter_parser_row_and : ∀ {p1 kind1 word1} {r : tFilter × tfilterparser}, dfilter_parser_row_and fu p1 kind1 word1 = some r → ACall Tryd.prog 43 1 [.ptr 0 0, .int .i64 kind1, .str (sB word1), .bfn 44 [.ptr 0 0]] [(0, 0, .sl (p1.L.map c_ttokenToken)), (0, 1, .bool p1.Bad)] [] (fun r_ H_ O_ n_ => r_ = .agg (c_tFilter r.1) ∧ H_ = [(0, 0, .sl (r.2.L.map c_ttokenToken)), (0, 1, .bool r.2.Bad)] ∧ O_ = [] ∧ n_ = 1)) (ih_dfilter_parser_and : ∀ {p1} {r : tFilter × tfilterparser}, dfilter_parser_and fu p1 = some r → ACall Tryd.prog 44 1 [.ptr 0 0] [(0, 0, .sl (p1.L.map c_ttokenToken)), (0, 1, .bool p1.Bad)] [] (fun r_ H_ O_ n_ => r_ = .agg (c_tFilter r.1) ∧ H_ = [(0, 0, .sl (r.2.L.map c_ttokenToken)), (0, 1, .bool r.2.Bad)] ∧ O_ = [] ∧ n_ = 1)) (ih_dfilter_parser_row_not : ∀ {p1 kind1 word1} {r : tFilter × tfilterparser}, dfilter_parser_row_not fu p1 kind1 word1 = some r → ACall Tryd.prog 43 1 [.ptr 0 0, .int .i64 kind1, .str (sB word1), .bfn 57 [.ptr 0 0]] [(0, 0, .sl (p1.L.map c_ttokenToken)), (0, 1, .bool p1.Bad)] [] (fun r_ H_ O_ n_ => r_ = .agg (c_tFilter r.1) ∧ H_ = [(0, 0, .sl (r.2.L.map c_ttokenToken)), (0, 1, .bool r.2.Bad)] ∧ O_ = [] ∧ n_ = 1)) (ih_dfilter_parser_not : ∀ {p1} {r : tFilter × tfilterparser}, dfilter_parser_not fu p1 = some r → ACall Tryd.prog 57 1 [.ptr 0 0] [(0, 0, .sl (p1.L.map c_ttokenToken)), (0, 1, .bool p1.Bad)] [] (fun r_ H_ O_ n_ => r_ = .agg (c_tFilter r.1) ∧ H_ = [(0, 0, .sl (r.2.L.map c_ttokenToken)), (0, 1, .bool r.2.Bad)] ∧ O_ = [] ∧ n_ = 1)) : ∀ {p1} {r : tFilter × tfilterparser}, dfilter_parser_or (fu + 1) p1 = some r → ACall Tryd.prog 22 1 [.ptr 0 0] [(0, 0, .sl (p1.L.map c_ttokenToken)), (0, 1, .bool p1.Bad)] [] (fun r_ H_ O_ n_ => r_ = .agg (c_tFilter r.1) ∧ H_ = [(0, 0, .sl (r.2.L.map c_ttokenToken)), (0, 1, .bool r.2.Bad)] ∧ O_ = [] ∧ n_ = 1) := by
  intro p1 r h
  rw [dfilter_parser_or] at h
  refine acall_body Tryd.func22 rfl (by kernel_rfl) (by rfl) ?_
  refine awp_seq ?_
  refine awp_region ?_
  refine ra rfl rfl rfl ?_
  refine rn ?_
  refine awp_seq ?_
  refine awp_region ?_
  refine rvs 3 rfl ?_
  obtain ⟨x1, hx1, h⟩ := bi h
  obtain ⟨⟨kind1, name1, op1, vals1, l1⟩, x2⟩ := x1
  refine rh [0] rfl rfl (ih_dfilter_parser_row_and hx1) rfl rfl rfl (zC rfl rfl rfl rfl (zC rfl rfl rfl rfl (trivial))) (trivial) ?_
  refine ek ?_
  refine as1 rfl ?_
  refine ae rfl rfl rfl ?_
  refine rs rfl rfl rfl rfl rfl rfl rfl ?_
  refine rn ?_
  refine awp_ret ?_
  have h := Option.some.inj h
  subst h
  repeat (first | refine then_ret ?_ | refine inBlock_ret ?_ | refine cut_r ?_)
  exact rrA (r := .agg [.int .i64 kind1, .str (sB name1), .str (sB op1), .sl (vals1.map c_tAttr), .sl (cs_tFilter l1)]) [0] [(0, 0, .sl (x2.L.map c_ttokenToken)), (0, 1, .bool x2.Bad)] [] rfl rfl rfl rfl (zC rfl rfl rfl rfl (zC rfl rfl rfl rfl (trivial))) (trivial) ⟨rfl, rfl, rfl, rfl⟩
end

section
attribute [local irreducible] awp aops DP PCall ACall Decidable.decide
/-- `(*plover/filter.parser).row` -/
theorem dfilter_parser_row_and_s {fu : Nat} (ih_dfilter_parser_or : ∀ {p1} {r : tFilter × tfilterparser}, dfilter_parser_or fu p1 = some r → ACall Tryd.prog 22 1 [.ptr 0 0] [(0, 0, .sl (p1.L.map c_ttokenToken)), (0, 1, .bool p1.Bad)] [] (fun r_ H_ O_ n_ => r_ = .agg (c_tFilter r.1) ∧ H_ = [(0, 0, .sl (r.2.L.map c_ttokenToken)), (0, 1, .bool r.2.Bad)] ∧ O_ = [] ∧ n_ = 1)) (ih_dfilter_parser_row_and : ∀ {p1 kind1 word1} {r : tFilter × tfilterparser}, dfilter_parser_row_and fu p1 kind1 word1 = some r → ACall Tryd.prog 43 1 [.ptr 0 0, .int .i64 kind1, .str (sB word1), .bfn 44 [.ptr 0 0]] [(0, 0, .sl (p1.L.map c_ttokenToken)), (0, 1, .bool p1.Bad)] [] (fun r_ H_ O_ n_ => r_ = .agg (c_tFilter r.1) ∧ H_ = [(0, 0, .sl (r.2.L.map c_ttokenToken)), (0, 1, .bool r.2.Bad)] ∧ O_ = [] ∧ n_ = 1)) (ih_dfilter_parser_and : ∀ {p1} {r : tFilter × tfilterparser}, dfilter_parser_and fu p1 = some r → ACall Tryd.prog 44 1 [.ptr 0 0] [(0, 0, .sl (p1.L.map c_ttokenToken)), (0, 1, .bool p1.Bad)] [] (fun r_ H_ O_ n_ => r_ = .agg (c_tFilter r.1) ∧ H_ = [(0, 0, .sl (r.2.L.map c_ttokenToken)), (0, 1, .bool r.2.Bad)] ∧ O_ = [] ∧ n_ = 1)) (ih_dfilter_parser_row_not : ∀ {p1 kind1 word1} {r : tFilter × tfilterparser}, dfilter_parser_row_not fu p1 kind1 word1 = some r → ACall Tryd.prog 43 1 [.ptr 0 0, .int .i64 kind1, .str (sB word1), .bfn 57 [.ptr 0 0]] [(0, 0, .sl (p1.L.map c_ttokenToken)), (0, 1, .bool p1.Bad)] [] (fun r_ H_ O_ n_ => r_ = .agg (c_tFilter r.1) ∧ H_ = [(0, 0, .sl (r.2.L.map c_ttokenToken)), (0, 1, .bool r.2.Bad)] ∧ O_ = [] ∧ n_ = 1)) (ih_dfilter_parser_not : ∀ {p1} {r : tFilter × tfilterparser}, dfilter_parser_not fu p1 = some r → ACall Tryd.prog 57 1 [.ptr 0 0] [(0, 0, .sl (p1.L.map c_ttokenToken)), (0, 1, .bool p1.Bad)] [] (fun r_ H_ O_ n_ => r_ = .agg (c_tFilter r.1) ∧ H_ = [(0, 0, .sl (r.2.L.map c_ttokenToken)), (0, 1, .bool r.2.Bad)] ∧ O_ = [] ∧ n_ = 1)) : ∀ {p1 kind1 word1} {r : tFilter × tfilterparser}, dfilter_parser_row_and (fu + 1) p1 kind1 word1 = some r → ACall Tryd.prog 43 1 [.ptr 0 0, .int .i64 kind1, .str (sB word1), .bfn 44 [.ptr 0 0]] [(0, 0, .sl (p1.L.map c_ttokenToken)), (0, 1, .bool p1.Bad)] [] (fun r_ H_ O_ n_ => r_ = .agg (c_tFilter r.1) ∧ H_ = [(0, 0, .sl (r.2.L.map c_ttokenToken)), (0, 1, .bool r.2.Bad)] ∧ O_ = [] ∧ n_ = 1) := by
  intro p1 kind1 word1 r h
  rw [dfilter_parser_row_and] at h
  refine acall_body Tryd.func43 rfl (by kernel_rfl) (by rfl) ?_
  refine awp_seq ?_
  refine awp_region ?_
  refine ra rfl rfl rfl ?_
  refine rn ?_
  refine awp_seq ?_
  refine awp_region ?_
  refine rv rfl rfl ?_
  obtain ⟨x1, hx1, h⟩ := bi h
  obtain ⟨⟨kind2, name1, op1, vals1, l1⟩, x2⟩ := x1
  refine rhB [0] rfl rfl (ih_dfilter_parser_and hx1) rfl rfl rfl (zC rfl rfl rfl rfl (zC rfl rfl rfl rfl (trivial))) (trivial) ?_
  refine ek ?_
  refine as1 rfl ?_
  refine ae rfl rfl rfl ?_
  refine ra rfl rfl rfl ?_
  refine rs rfl rfl rfl rfl rfl rfl rfl ?_
  refine rn ?_
  refine awp_seq ?_
  refine awp_region ?_
  refine rv rfl rfl ?_
  refine rbs false rfl rfl rfl rfl rfl rfl rfl rfl rfl rfl ?_
  refine rv rfl rfl ?_
  refine rn ?_
  refine awp_seq ?_
  obtain ⟨e2, hl3, h⟩ := bi h
  refine awp_cut1 (fun x => x = e2) (fun (((x3, x4, l4)) : (List ttokenToken) × Bool × (List tFilter)) => ⟨[(1, .int .i64 kind1), (8, .ptr 1 0), (9, .ptr 2 0), (10, .own 3)], [(0, 0, .sl (x3.map c_ttokenToken)), (0, 1, .bool x4), (1, 0, .int .i64 0), (1, 1, .str (sB [])), (1, 2, .str (sB [])), (1, 3, .nilS), (1, 4, .nilS), (2, 0, .int .i64 kind2), (2, 1, .str (sB name1)), (2, 2, .str (sB op1)), (2, 3, .sl (vals1.map c_tAttr)), (2, 4, .sl (cs_tFilter l1))], [(3, .row 5 (cs_tFilter l4))], 4⟩) ?_ ?_
  · refine awp_block ?_
    refine awp_loopD hl3 (fun (((p2, p3, l2)) : (List ttokenToken) × Bool × (List tFilter)) => ⟨[(0, .ptr 0 0), (1, .int .i64 kind1), (2, .str (sB word1)), (3, .bfn 44 [.ptr 0 0]), (8, .ptr 1 0), (9, .ptr 2 0), (10, .own 3)], [(0, 0, .sl (p2.map c_ttokenToken)), (0, 1, .bool p3), (1, 0, .int .i64 0), (1, 1, .str (sB [])), (1, 2, .str (sB [])), (1, 3, .nilS), (1, 4, .nilS), (2, 0, .int .i64 kind2), (2, 1, .str (sB name1)), (2, 2, .str (sB op1)), (2, 3, .sl (vals1.map c_tAttr)), (2, 4, .sl (cs_tFilter l1))], [(3, .row 5 (cs_tFilter l2))], 4⟩) [0, 1, 2, 3] rfl ⟨rfl, rfl, zA rfl rfl rfl (zA rfl rfl rfl (zA rfl rfl rfl (zA rfl rfl rfl (zA rfl rfl rfl (zA rfl rfl rfl (zA rfl rfl rfl (trivial))))))), zC rfl rfl rfl rfl (zC rfl rfl rfl rfl (zC rfl rfl rfl rfl (zC rfl rfl rfl rfl (zC rfl rfl rfl rfl (zC rfl rfl rfl rfl (zC rfl rfl rfl rfl (zC rfl rfl rfl rfl (zC rfl rfl rfl rfl (zC rfl rfl rfl rfl (zC rfl rfl rfl rfl (zC rfl rfl rfl rfl (trivial)))))))))))), zE rfl .row rfl (trivial)⟩ ?_
    intro v o6 ho4 hE5
    obtain ⟨p2, p3, l2⟩ := v
    change awp _ _ _ _ _ ⟨_, _, _, _⟩
    refine awp_seq ?_
    refine awp_seq ?_
    refine awp_region ?_
    refine rvs 2 rfl ?_
    obtain ⟨x5, hx7, ho4⟩ := bi ho4
    refine rh [0] rfl rfl (dfilter_parser_takes_l hx7) rfl rfl rfl (zC rfl rfl rfl rfl (zC rfl rfl rfl rfl (trivial))) (trivial) ?_
    refine ek ?_
    refine as1 rfl ?_
    refine ae rfl rfl rfl ?_
    refine rn ?_
    refine cs_ rfl (fun hc => ?_) (fun hc => ?_)
    · have ho4 := cT hc ho4
      refine awp_skip ?_
      refine awp_block ?_
      refine awp_region ?_
      refine rvs 2 rfl ?_
      obtain ⟨l5, hx8, ho4⟩ := bi ho4
      obtain ⟨⟨kind3, name2, op2, vals2, l6⟩, l7⟩ := l5
      refine rhB [0] rfl rfl (ih_dfilter_parser_and hx8) rfl rfl rfl (zC rfl rfl rfl rfl (zC rfl rfl rfl rfl (trivial))) (trivial) ?_
      refine ek ?_
      refine as1 rfl ?_
      refine ae rfl rfl rfl ?_
      refine rbs false rfl rfl rfl rfl rfl rfl rfl rfl rfl rfl ?_
      obtain ⟨l8, hx9, ho4⟩ := bi ho4
      refine rap false (xs := cs_tFilter l2) (ys := cs_tFilter [(tFilter.mk kind3 name2 op2 vals2 l6)]) rfl rfl rfl rfl rfl rfl rfl (.own rfl rfl) (.sl rfl rfl rfl) (wM_tFilter _) (oM_tFilter _) (apB_tFilter rfl hx9) rfl ?_
      refine rk (congrArg (Kind.row _) (apM_tFilter hx9)) ?_
      refine rv rfl rfl ?_
      refine rn ?_
      refine inBlock_normal ?_
      cases ho4
      exact lp_n [0, 1, 2, 5] rfl rfl ⟨rfl, rfl, zA rfl rfl rfl (zA rfl rfl rfl (zA rfl rfl rfl (zA rfl rfl rfl (zA rfl rfl rfl (zA rfl rfl rfl (zA rfl rfl rfl (trivial))))))), zC rfl rfl rfl rfl (zC rfl rfl rfl rfl (zC rfl rfl rfl rfl (zC rfl rfl rfl rfl (zC rfl rfl rfl rfl (zC rfl rfl rfl rfl (zC rfl rfl rfl rfl (zC rfl rfl rfl rfl (zC rfl rfl rfl rfl (zC rfl rfl rfl rfl (zC rfl rfl rfl rfl (zC rfl rfl rfl rfl (trivial)))))))))))), zE rfl .row rfl (trivial)⟩
    · have ho4 := cF hc ho4
      refine awp_exit ?_
      repeat (first | refine then_exit ?_ | refine cut_x ?_ | refine inBlock_other rfl ?_)
      refine inBlock_exit ?_
      cases ho4
      have hq := hE5 _ rfl
      subst hq
      exact cut_n [0, 1, 2, 3] rfl rfl ⟨rfl, rfl, zA rfl rfl rfl (zA rfl rfl rfl (zA rfl rfl rfl (zA rfl rfl rfl (trivial)))), zC rfl rfl rfl rfl (zC rfl rfl rfl rfl (zC rfl rfl rfl rfl (zC rfl rfl rfl rfl (zC rfl rfl rfl rfl (zC rfl rfl rfl rfl (zC rfl rfl rfl rfl (zC rfl rfl rfl rfl (zC rfl rfl rfl rfl (zC rfl rfl rfl rfl (zC rfl rfl rfl rfl (zC rfl rfl rfl rfl (trivial)))))))))))), zE rfl .row rfl (trivial)⟩
  · rintro ⟨x3, x4, l4⟩ rfl
    change awp _ _ _ _ _ ⟨_, _, _, _⟩
    refine awp_seq ?_
    refine awp_seq ?_
    refine awp_region ?_
    refine rv rfl rfl ?_
    refine rv rfl rfl ?_
    refine rt ((lM_tFilter l4)) ?_
    refine rv rfl rfl ?_
    refine rn ?_
    refine cs_ rfl (fun hc => ?_) (fun hc => ?_)
    · have h := cT hc h
      refine awp_seq ?_
      refine awp_region ?_
      refine rv rfl rfl ?_
      refine rs rfl rfl rfl rfl rfl rfl rfl ?_
      refine rn ?_
      refine awp_ret ?_
      have h := Option.some.inj h
      subst h
      repeat (first | refine then_ret ?_ | refine inBlock_ret ?_ | refine cut_r ?_)
      exact rrA (r := .agg [.int .i64 kind2, .str (sB name1), .str (sB op1), .sl (vals1.map c_tAttr), .sl (cs_tFilter l1)]) [0] [(0, 0, .sl (x3.map c_ttokenToken)), (0, 1, .bool x4)] [] rfl rfl rfl rfl (zC rfl rfl rfl rfl (zC rfl rfl rfl rfl (trivial))) (trivial) ⟨rfl, rfl, rfl, rfl⟩
    · have h := cF hc h
      refine awp_skip ?_
      refine awp_seq ?_
      refine awp_region ?_
      refine rvs 2 rfl ?_
      refine ra rfl rfl rfl ?_
      refine rs rfl rfl rfl rfl rfl rfl rfl ?_
      refine rn ?_
      refine awp_seq ?_
      refine awp_seq ?_
      refine awp_region ?_
      refine rv rfl rfl ?_
      refine rv rfl rfl ?_
      refine rt ((lM_tFilter l4)) ?_
      refine rv rfl rfl ?_
      refine rn ?_
      refine awp_conv (fun _ _ _ _ _ hi => nilS_cell false 5 4 4 rfl hi) ?_
      obtain ⟨e10, hl11, h⟩ := bi h
      refine awp_cut1 (fun x => x = e10) (fun (l11 : List tFilter) => ⟨[(8, .ptr 1 0), (11, .ptr 2 0)], [(0, 0, .sl (x3.map c_ttokenToken)), (0, 1, .bool x4), (1, 0, .int .i64 0), (1, 1, .str (sB [])), (1, 2, .str (sB [])), (1, 3, .nilS), (1, 4, .nilS), (2, 0, .int .i64 kind1), (2, 1, .str (sB [])), (2, 2, .str (sB [])), (2, 3, .nilS), (2, 4, .own 3)], [(3, .row 5 (cs_tFilter l11))], 4⟩) ?_ ?_
      · refine awp_block ?_
        refine awp_loopD hl11 (fun (((x6, l9)) : Int × (List tFilter)) => ⟨[(1, .int .i64 kind1), (8, .ptr 1 0), (11, .ptr 2 0), (32, .own 3), (33, .int .i64 (l4.length : Int)), (34, .int .i64 x6)], [(0, 0, .sl (x3.map c_ttokenToken)), (0, 1, .bool x4), (1, 0, .int .i64 0), (1, 1, .str (sB [])), (1, 2, .str (sB [])), (1, 3, .nilS), (1, 4, .nilS), (2, 0, .int .i64 kind1), (2, 1, .str (sB [])), (2, 2, .str (sB [])), (2, 3, .nilS), (2, 4, .own 4)], [(3, .row 5 (cs_tFilter l4)), (4, .row 5 (cs_tFilter l9))], 5⟩) [0, 1, 4, 3, 5] rfl ⟨rfl, rfl, zA rfl rfl rfl (zA rfl rfl rfl (zA rfl rfl rfl (zA rfl rfl rfl (zA rfl rfl rfl (zA rfl rfl rfl (trivial)))))), zC rfl rfl rfl rfl (zC rfl rfl rfl rfl (zC rfl rfl rfl rfl (zC rfl rfl rfl rfl (zC rfl rfl rfl rfl (zC rfl rfl rfl rfl (zC rfl rfl rfl rfl (zC rfl rfl rfl rfl (zC rfl rfl rfl rfl (zC rfl rfl rfl rfl (zC rfl rfl rfl rfl (zC rfl rfl rfl rfl (trivial)))))))))))), zE rfl .row rfl (zE rfl .row rfl (trivial))⟩ ?_
        intro v o14 ho12 hE13
        obtain ⟨x6, l9⟩ := v
        change awp _ _ _ _ _ ⟨_, _, _, _⟩
        refine awp_seq ?_
        refine awp_region ?_
        refine rv rfl rfl ?_
        refine rn ?_
        refine awp_seq ?_
        refine cs_ rfl (fun hc => ?_) (fun hc => ?_)
        · have ho12 := cT hc ho12
          refine awp_skip ?_
          refine awp_seq ?_
          obtain ⟨o15, ho16, ho12⟩ := bi ho12
          refine awp_cut1 (fun x => x = o15) (fun (l12 : List tFilter) => ⟨[(1, .int .i64 kind1), (8, .ptr 1 0), (11, .ptr 2 0), (32, .own 3), (33, .int .i64 (l4.length : Int)), (34, .int .i64 x6)], [(0, 0, .sl (x3.map c_ttokenToken)), (0, 1, .bool x4), (1, 0, .int .i64 0), (1, 1, .str (sB [])), (1, 2, .str (sB [])), (1, 3, .nilS), (1, 4, .nilS), (2, 0, .int .i64 kind1), (2, 1, .str (sB [])), (2, 2, .str (sB [])), (2, 3, .nilS), (2, 4, .own 4)], [(3, .row 5 (cs_tFilter l4)), (4, .row 5 (cs_tFilter l12))], 5⟩) ?_ ?_
          · refine awp_block ?_
            refine awp_seq ?_
            refine awp_region ?_
            obtain ⟨x8, hx17, ho16⟩ := bi ho16
            refine ri rfl rfl rfl rfl rfl rfl (gi0 hx17) (giM_tFilter hx17) (wM_tFilter _) ?_
            obtain ⟨kind4, name3, op3, vals3, l13⟩ := x8
            refine rv rfl rfl ?_
            refine ra rfl rfl rfl ?_
            refine rs rfl rfl rfl rfl rfl rfl rfl ?_
            refine rn ?_
            refine awp_seq ?_
            refine awp_region ?_
            refine rvs 4 rfl ?_
            refine rn ?_
            refine cs_ rfl (fun hc => ?_) (fun hc => ?_)
            · have ho16 := cT hc ho16
              refine awp_region ?_
              refine rvs 4 rfl ?_
              obtain ⟨l14, hx18, ho16⟩ := bi ho16
              refine rap false (xs := cs_tFilter l9) (ys := cs_tFilter l13) rfl rfl rfl rfl rfl rfl rfl (.own rfl rfl) (.sl rfl rfl rfl) (wM_tFilter _) (oM_tFilter _) (apB_tFilter rfl hx18) rfl ?_
              refine rk (congrArg (Kind.row _) (apM_tFilter hx18)) ?_
              refine rv rfl rfl ?_
              refine rs rfl rfl rfl rfl rfl rfl rfl ?_
              refine rn ?_
              refine inBlock_normal ?_
              cases ho16
              exact cut_n [0, 1, 2, 3, 6] rfl rfl ⟨rfl, rfl, zA rfl rfl rfl (zA rfl rfl rfl (zA rfl rfl rfl (zA rfl rfl rfl (zA rfl rfl rfl (zA rfl rfl rfl (trivial)))))), zC rfl rfl rfl rfl (zC rfl rfl rfl rfl (zC rfl rfl rfl rfl (zC rfl rfl rfl rfl (zC rfl rfl rfl rfl (zC rfl rfl rfl rfl (zC rfl rfl rfl rfl (zC rfl rfl rfl rfl (zC rfl rfl rfl rfl (zC rfl rfl rfl rfl (zC rfl rfl rfl rfl (zC rfl rfl rfl rfl (trivial)))))))))))), zE rfl .row rfl (zE rfl .row rfl (trivial))⟩
            · have ho16 := cF hc ho16
              refine awp_region ?_
              refine rvs 3 rfl ?_
              refine rbs false rfl rfl rfl rfl rfl rfl rfl rfl rfl rfl ?_
              obtain ⟨l15, hx19, ho16⟩ := bi ho16
              refine rap false (xs := cs_tFilter l9) (ys := cs_tFilter [(tFilter.mk kind4 name3 op3 vals3 l13)]) rfl rfl rfl rfl rfl rfl rfl (.own rfl rfl) (.sl rfl rfl rfl) (wM_tFilter _) (oM_tFilter _) (apB_tFilter rfl hx19) rfl ?_
              refine rk (congrArg (Kind.row _) (apM_tFilter hx19)) ?_
              refine rv rfl rfl ?_
              refine rs rfl rfl rfl rfl rfl rfl rfl ?_
              refine rn ?_
              refine inBlock_normal ?_
              cases ho16
              exact cut_n [0, 1, 2, 3, 7] rfl rfl ⟨rfl, rfl, zA rfl rfl rfl (zA rfl rfl rfl (zA rfl rfl rfl (zA rfl rfl rfl (zA rfl rfl rfl (zA rfl rfl rfl (trivial)))))), zC rfl rfl rfl rfl (zC rfl rfl rfl rfl (zC rfl rfl rfl rfl (zC rfl rfl rfl rfl (zC rfl rfl rfl rfl (zC rfl rfl rfl rfl (zC rfl rfl rfl rfl (zC rfl rfl rfl rfl (zC rfl rfl rfl rfl (zC rfl rfl rfl rfl (zC rfl rfl rfl rfl (zC rfl rfl rfl rfl (trivial)))))))))))), zE rfl .row rfl (zE rfl .row rfl (trivial))⟩
          · rintro l12 rfl
            change awp _ _ _ _ _ ⟨_, _, _, _⟩
            refine awp_region ?_
            refine rvs 2 rfl ?_
            refine rn ?_
            cases ho12
            exact lp_n [0, 1, 2, 3, 4] rfl rfl ⟨rfl, rfl, zA rfl rfl rfl (zA rfl rfl rfl (zA rfl rfl rfl (zA rfl rfl rfl (zA rfl rfl rfl (zA rfl rfl rfl (trivial)))))), zC rfl rfl rfl rfl (zC rfl rfl rfl rfl (zC rfl rfl rfl rfl (zC rfl rfl rfl rfl (zC rfl rfl rfl rfl (zC rfl rfl rfl rfl (zC rfl rfl rfl rfl (zC rfl rfl rfl rfl (zC rfl rfl rfl rfl (zC rfl rfl rfl rfl (zC rfl rfl rfl rfl (zC rfl rfl rfl rfl (trivial)))))))))))), zE rfl .row rfl (zE rfl .row rfl (trivial))⟩
        · have ho12 := cF hc ho12
          refine awp_exit ?_
          repeat (first | refine then_exit ?_ | refine cut_x ?_ | refine inBlock_other rfl ?_)
          refine inBlock_exit ?_
          cases ho12
          have hq := hE13 _ rfl
          subst hq
          exact cut_n [0, 1, 2, 4] rfl rfl ⟨rfl, rfl, zA rfl rfl rfl (zA rfl rfl rfl (trivial)), zC rfl rfl rfl rfl (zC rfl rfl rfl rfl (zC rfl rfl rfl rfl (zC rfl rfl rfl rfl (zC rfl rfl rfl rfl (zC rfl rfl rfl rfl (zC rfl rfl rfl rfl (zC rfl rfl rfl rfl (zC rfl rfl rfl rfl (zC rfl rfl rfl rfl (zC rfl rfl rfl rfl (zC rfl rfl rfl rfl (trivial)))))))))))), zE rfl .row rfl (trivial)⟩
      · rintro l11 rfl
        refine awp_seq ?_
        refine awp_region ?_
        refine rv rfl rfl ?_
        refine rs rfl rfl rfl rfl rfl rfl rfl ?_
        refine rn ?_
        refine awp_ret ?_
        have h := Option.some.inj h
        subst h
        repeat (first | refine then_ret ?_ | refine inBlock_ret ?_ | refine cut_r ?_)
        exact rrA (r := .agg [.int .i64 kind1, .str (sB []), .str (sB []), .sl (([] : List tAttr).map c_tAttr), .sl (cs_tFilter l11)]) [0] [(0, 0, .sl (x3.map c_ttokenToken)), (0, 1, .bool x4)] [] rfl rfl rfl rfl (zC rfl rfl rfl rfl (zC rfl rfl rfl rfl (trivial))) (trivial) ⟨rfl, rfl, rfl, rfl⟩
end

section
attribute [local irreducible] awp aops DP PCall ACall Decidable.decide
/-- `(*plover/filter.parser).and` -/
theorem dfilter_parser_and_s {fu : Nat} (ih_dfilter_parser_or : ∀ {p1} {r : tFilter × tfilterparser}, dfilter_parser_or fu p1 = some r → ACall Tryd.prog 22 1 [.ptr 0 0] [(0, 0, .sl (p1.L.map c_ttokenToken)), (0, 1, .bool p1.Bad)] [] (fun r_ H_ O_ n_ => r_ = .agg (c_tFilter r.1) ∧ H_ = [(0, 0, .sl (r.2.L.map c_ttokenToken)), (0, 1, .bool r.2.Bad)] ∧ O_ = [] ∧ n_ = 1)) (ih_dfilter_parser_row_and : ∀ {p1 kind1 word1} {r : tFilter × tfilterparser}, dfilter_parser_row_and fu p1 kind1 word1 = some r → ACall Tryd.prog 43 1 [.ptr 0 0, .int .i64 kind1, .str (sB word1), .bfn 44 [.ptr 0 0]] [(0, 0, .sl (p1.L.map c_ttokenToken)), (0, 1, .bool p1.Bad)] [] (fun r_ H_ O_ n_ => r_ = .agg (c_tFilter r.1) ∧ H_ = [(0, 0, .sl (r.2.L.map c_ttokenToken)), (0, 1, .bool r.2.Bad)] ∧ O_ = [] ∧ n_ = 1)) (ih_dfilter_parser_and : ∀ {p1} {r : tFilter × tfilterparser}, dfilter_parser_and fu p1 = some r → ACall Tryd.prog 44 1 [.ptr 0 0] [(0, 0, .sl (p1.L.map c_ttokenToken)), (0, 1, .bool p1.Bad)] [] (fun r_ H_ O_ n_ => r_ = .agg (c_tFilter r.1) ∧ H_ = [(0, 0, .sl (r.2.L.map c_ttokenToken)), (0, 1, .bool r.2.Bad)] ∧ O_ = [] ∧ n_ = 1)) (ih_dfilter_parser_row_not : ∀ {p1 kind1 word1} {r : tFilter × tfilterparser}, dfilter_parser_row_not fu p1 kind1 word1 = some r → ACall Tryd.prog 43 1 [.ptr 0 0, .int .i64 kind1, .str (sB word1), .bfn 57 [.ptr 0 0]] [(0, 0, .sl (p1.L.map c_ttokenToken)), (0, 1, .bool p1.Bad)] [] (fun r_ H_ O_ n_ => r_ = .agg (c_tFilter r.1) ∧ H_ = [(0, 0, .sl (r.2.L.map c_ttokenToken)), (0, 1, .bool r.2.Bad)] ∧ O_ = [] ∧ n_ = 1)) (ih_dfilter_parser_not : ∀ {p1} {r : tFilter × tfilterparser}, dfilter_parser_not fu p1 = some r → ACall Tryd.prog 57 1 [.ptr 0 0] [(0, 0, .sl (p1.L.map c_ttokenToken)), (0, 1, .bool p1.Bad)] [] (fun r_ H_ O_ n_ => r_ = .agg (c_tFilter r.1) ∧ H_ = [(0, 0, .sl (r.2.L.map c_ttokenToken)), (0, 1, .bool r.2.Bad)] ∧ O_ = [] ∧ n_ = 1)) : ∀ {p1} {r : tFilter × tfilterparser}, dfilter_parser_and (fu + 1) p1 = some r → ACall Tryd.prog 44 1 [.ptr 0 0] [(0, 0, .sl (p1.L.map c_ttokenToken)), (0, 1, .bool p1.Bad)] [] (fun r_ H_ O_ n_ => r_ = .agg (c_tFilter r.1) ∧ H_ = [(0, 0, .sl (r.2.L.map c_ttokenToken)), (0, 1, .bool r.2.Bad)] ∧ O_ = [] ∧ n_ = 1) := by
  intro p1 r h
  rw [dfilter_parser_and] at h
  refine acall_body Tryd.func44 rfl (by kernel_rfl) (by rfl) ?_
  refine awp_seq ?_
  refine awp_region ?_
  refine ra rfl rfl rfl ?_
  refine rn ?_
  refine awp_seq ?_
  refine awp_region ?_
  refine rvs 3 rfl ?_
  obtain ⟨x1, hx1, h⟩ := bi h
  obtain ⟨⟨kind1, name1, op1, vals1, l1⟩, x2⟩ := x1
  refine rh [0] rfl rfl (ih_dfilter_parser_row_not hx1) rfl rfl rfl (zC rfl rfl rfl rfl (zC rfl rfl rfl rfl (trivial))) (trivial) ?_
  refine ek ?_
  refine as1 rfl ?_
  refine ae rfl rfl rfl ?_
  refine rs rfl rfl rfl rfl rfl rfl rfl ?_
  refine rn ?_
  refine awp_ret ?_
  have h := Option.some.inj h
  subst h
  repeat (first | refine then_ret ?_ | refine inBlock_ret ?_ | refine cut_r ?_)
  exact rrA (r := .agg [.int .i64 kind1, .str (sB name1), .str (sB op1), .sl (vals1.map c_tAttr), .sl (cs_tFilter l1)]) [0] [(0, 0, .sl (x2.L.map c_ttokenToken)), (0, 1, .bool x2.Bad)] [] rfl rfl rfl rfl (zC rfl rfl rfl rfl (zC rfl rfl rfl rfl (trivial))) (trivial) ⟨rfl, rfl, rfl, rfl⟩
end

section
attribute [local irreducible] awp aops DP PCall ACall Decidable.decide
/-- `(*plover/filter.parser).row` -/
theorem dfilter_parser_row_not_s {fu : Nat} (ih_dfilter_parser_or : ∀ {p1} {r : tFilter × tfilterparser}, dfilter_parser_or fu p1 = some r → ACall Tryd.prog 22 1 [.ptr 0 0] [(0, 0, .sl (p1.L.map c_ttokenToken)), (0, 1, .bool p1.Bad)] [] (fun r_ H_ O_ n_ => r_ = .agg (c_tFilter r.1) ∧ H_ = [(0, 0, .sl (r.2.L.map c_ttokenToken)), (0, 1, .bool r.2.Bad)] ∧ O_ = [] ∧ n_ = 1)) (ih_dfilter_parser_row_and : ∀ {p1 kind1 word1} {r : tFilter × tfilterparser}, dfilter_parser_row_and fu p1 kind1 word1 = some r → ACall Tryd.prog 43 1 [.ptr 0 0, .int .i64 kind1, .str (sB word1), .bfn 44 [.ptr 0 0]] [(0, 0, .sl (p1.L.map c_ttokenToken)), (0, 1, .bool p1.Bad)] [] (fun r_ H_ O_ n_ => r_ = .agg (c_tFilter r.1) ∧ H_ = [(0, 0, .sl (r.2.L.map c_ttokenToken)), (0, 1, .bool r.2.Bad)] ∧ O_ = [] ∧ n_ = 1)) (ih_dfilter_parser_and : ∀ {p1} {r : tFilter × tfilterparser}, dfilter_parser_and fu p1 = some r → ACall Tryd.prog 44 1 [.ptr 0 0] [(0, 0, .sl (p1.L.map c_ttokenToken)), (0, 1, .bool p1.Bad)] [] (fun r_ H_ O_ n_ => r_ = .agg (c_tFilter r.1) ∧ H_ = [(0, 0, .sl (r.2.L.map c_ttokenToken)), (0, 1, .bool r.2.Bad)] ∧ O_ = [] ∧ n_ = 1)) (ih_dfilter_parser_row_not : ∀ {p1 kind1 word1} {r : tFilter × tfilterparser}, dfilter_parser_row_not fu p1 kind1 word1 = some r → ACall Tryd.prog 43 1 [.ptr 0 0, .int .i64 kind1, .str (sB word1), .bfn 57 [.ptr 0 0]] [(0, 0, .sl (p1.L.map c_ttokenToken)), (0, 1, .bool p1.Bad)] [] (fun r_ H_ O_ n_ => r_ = .agg (c_tFilter r.1) ∧ H_ = [(0, 0, .sl (r.2.L.map c_ttokenToken)), (0, 1, .bool r.2.Bad)] ∧ O_ = [] ∧ n_ = 1)) (ih_dfilter_parser_not : ∀ {p1} {r : tFilter × tfilterparser}, dfilter_parser_not fu p1 = some r → ACall Tryd.prog 57 1 [.ptr 0 0] [(0, 0, .sl (p1.L.map c_ttokenToken)), (0, 1, .bool p1.Bad)] [] (fun r_ H_ O_ n_ => r_ = .agg (c_tFilter r.1) ∧ H_ = [(0, 0, .sl (r.2.L.map c_ttokenToken)), (0, 1, .bool r.2.Bad)] ∧ O_ = [] ∧ n_ = 1)) : ∀ {p1 kind1 word1} {r : tFilter × tfilterparser}, dfilter_parser_row_not (fu + 1) p1 kind1 word1 = some r → ACall Tryd.prog 43 1 [.ptr 0 0, .int .i64 kind1, .str (sB word1), .bfn 57 [.ptr 0 0]] [(0, 0, .sl (p1.L.map c_ttokenToken)), (0, 1, .bool p1.Bad)] [] (fun r_ H_ O_ n_ => r_ = .agg (c_tFilter r.1) ∧ H_ = [(0, 0, .sl (r.2.L.map c_ttokenToken)), (0, 1, .bool r.2.Bad)] ∧ O_ = [] ∧ n_ = 1) := by
  intro p1 kind1 word1 r h
  rw [dfilter_parser_row_not] at h
  refine acall_body Tryd.func43 rfl (by kernel_rfl) (by rfl) ?_
  refine awp_seq ?_
  refine awp_region ?_
  refine ra rfl rfl rfl ?_
  refine rn ?_
  refine awp_seq ?_
  refine awp_region ?_
  refine rv rfl rfl ?_
  obtain ⟨x1, hx1, h⟩ := bi h
  obtain ⟨⟨kind2, name1, op1, vals1, l1⟩, x2⟩ := x1
  refine rhB [0] rfl rfl (ih_dfilter_parser_not hx1) rfl rfl rfl (zC rfl rfl rfl rfl (zC rfl rfl rfl rfl (trivial))) (trivial) ?_
  refine ek ?_
  refine as1 rfl ?_
  refine ae rfl rfl rfl ?_
  refine ra rfl rfl rfl ?_
  refine rs rfl rfl rfl rfl rfl rfl rfl ?_
  refine rn ?_
  refine awp_seq ?_
  refine awp_region ?_
  refine rv rfl rfl ?_
  refine rbs false rfl rfl rfl rfl rfl rfl rfl rfl rfl rfl ?_
  refine rv rfl rfl ?_
  refine rn ?_
  refine awp_seq ?_
  obtain ⟨e2, hl3, h⟩ := bi h
  refine awp_cut1 (fun x => x = e2) (fun (((x3, x4, l4)) : (List ttokenToken) × Bool × (List tFilter)) => ⟨[(1, .int .i64 kind1), (8, .ptr 1 0), (9, .ptr 2 0), (10, .own 3)], [(0, 0, .sl (x3.map c_ttokenToken)), (0, 1, .bool x4), (1, 0, .int .i64 0), (1, 1, .str (sB [])), (1, 2, .str (sB [])), (1, 3, .nilS), (1, 4, .nilS), (2, 0, .int .i64 kind2), (2, 1, .str (sB name1)), (2, 2, .str (sB op1)), (2, 3, .sl (vals1.map c_tAttr)), (2, 4, .sl (cs_tFilter l1))], [(3, .row 5 (cs_tFilter l4))], 4⟩) ?_ ?_
  · refine awp_block ?_
    refine awp_loopD hl3 (fun (((p2, p3, l2)) : (List ttokenToken) × Bool × (List tFilter)) => ⟨[(0, .ptr 0 0), (1, .int .i64 kind1), (2, .str (sB word1)), (3, .bfn 57 [.ptr 0 0]), (8, .ptr 1 0), (9, .ptr 2 0), (10, .own 3)], [(0, 0, .sl (p2.map c_ttokenToken)), (0, 1, .bool p3), (1, 0, .int .i64 0), (1, 1, .str (sB [])), (1, 2, .str (sB [])), (1, 3, .nilS), (1, 4, .nilS), (2, 0, .int .i64 kind2), (2, 1, .str (sB name1)), (2, 2, .str (sB op1)), (2, 3, .sl (vals1.map c_tAttr)), (2, 4, .sl (cs_tFilter l1))], [(3, .row 5 (cs_tFilter l2))], 4⟩) [0, 1, 2, 3] rfl ⟨rfl, rfl, zA rfl rfl rfl (zA rfl rfl rfl (zA rfl rfl rfl (zA rfl rfl rfl (zA rfl rfl rfl (zA rfl rfl rfl (zA rfl rfl rfl (trivial))))))), zC rfl rfl rfl rfl (zC rfl rfl rfl rfl (zC rfl rfl rfl rfl (zC rfl rfl rfl rfl (zC rfl rfl rfl rfl (zC rfl rfl rfl rfl (zC rfl rfl rfl rfl (zC rfl rfl rfl rfl (zC rfl rfl rfl rfl (zC rfl rfl rfl rfl (zC rfl rfl rfl rfl (zC rfl rfl rfl rfl (trivial)))))))))))), zE rfl .row rfl (trivial)⟩ ?_
    intro v o6 ho4 hE5
    obtain ⟨p2, p3, l2⟩ := v
    change awp _ _ _ _ _ ⟨_, _, _, _⟩
    refine awp_seq ?_
    refine awp_seq ?_
    refine awp_region ?_
    refine rvs 2 rfl ?_
    obtain ⟨x5, hx7, ho4⟩ := bi ho4
    refine rh [0] rfl rfl (dfilter_parser_takes_l hx7) rfl rfl rfl (zC rfl rfl rfl rfl (zC rfl rfl rfl rfl (trivial))) (trivial) ?_
    refine ek ?_
    refine as1 rfl ?_
    refine ae rfl rfl rfl ?_
    refine rn ?_
    refine cs_ rfl (fun hc => ?_) (fun hc => ?_)
    · have ho4 := cT hc ho4
      refine awp_skip ?_
      refine awp_block ?_
      refine awp_region ?_
      refine rvs 2 rfl ?_
      obtain ⟨l5, hx8, ho4⟩ := bi ho4
      obtain ⟨⟨kind3, name2, op2, vals2, l6⟩, l7⟩ := l5
      refine rhB [0] rfl rfl (ih_dfilter_parser_not hx8) rfl rfl rfl (zC rfl rfl rfl rfl (zC rfl rfl rfl rfl (trivial))) (trivial) ?_
      refine ek ?_
      refine as1 rfl ?_
      refine ae rfl rfl rfl ?_
      refine rbs false rfl rfl rfl rfl rfl rfl rfl rfl rfl rfl ?_
      obtain ⟨l8, hx9, ho4⟩ := bi ho4
      refine rap false (xs := cs_tFilter l2) (ys := cs_tFilter [(tFilter.mk kind3 name2 op2 vals2 l6)]) rfl rfl rfl rfl rfl rfl rfl (.own rfl rfl) (.sl rfl rfl rfl) (wM_tFilter _) (oM_tFilter _) (apB_tFilter rfl hx9) rfl ?_
      refine rk (congrArg (Kind.row _) (apM_tFilter hx9)) ?_
      refine rv rfl rfl ?_
      refine rn ?_
      refine inBlock_normal ?_
      cases ho4
      exact lp_n [0, 1, 2, 5] rfl rfl ⟨rfl, rfl, zA rfl rfl rfl (zA rfl rfl rfl (zA rfl rfl rfl (zA rfl rfl rfl (zA rfl rfl rfl (zA rfl rfl rfl (zA rfl rfl rfl (trivial))))))), zC rfl rfl rfl rfl (zC rfl rfl rfl rfl (zC rfl rfl rfl rfl (zC rfl rfl rfl rfl (zC rfl rfl rfl rfl (zC rfl rfl rfl rfl (zC rfl rfl rfl rfl (zC rfl rfl rfl rfl (zC rfl rfl rfl rfl (zC rfl rfl rfl rfl (zC rfl rfl rfl rfl (zC rfl rfl rfl rfl (trivial)))))))))))), zE rfl .row rfl (trivial)⟩
    · have ho4 := cF hc ho4
      refine awp_exit ?_
      repeat (first | refine then_exit ?_ | refine cut_x ?_ | refine inBlock_other rfl ?_)
      refine inBlock_exit ?_
      cases ho4
      have hq := hE5 _ rfl
      subst hq
      exact cut_n [0, 1, 2, 3] rfl rfl ⟨rfl, rfl, zA rfl rfl rfl (zA rfl rfl rfl (zA rfl rfl rfl (zA rfl rfl rfl (trivial)))), zC rfl rfl rfl rfl (zC rfl rfl rfl rfl (zC rfl rfl rfl rfl (zC rfl rfl rfl rfl (zC rfl rfl rfl rfl (zC rfl rfl rfl rfl (zC rfl rfl rfl rfl (zC rfl rfl rfl rfl (zC rfl rfl rfl rfl (zC rfl rfl rfl rfl (zC rfl rfl rfl rfl (zC rfl rfl rfl rfl (trivial)))))))))))), zE rfl .row rfl (trivial)⟩
  · rintro ⟨x3, x4, l4⟩ rfl
    change awp _ _ _ _ _ ⟨_, _, _, _⟩
    refine awp_seq ?_
    refine awp_seq ?_
    refine awp_region ?_
    refine rv rfl rfl ?_
    refine rv rfl rfl ?_
    refine rt ((lM_tFilter l4)) ?_
    refine rv rfl rfl ?_
    refine rn ?_
    refine cs_ rfl (fun hc => ?_) (fun hc => ?_)
    · have h := cT hc h
      refine awp_seq ?_
      refine awp_region ?_
      refine rv rfl rfl ?_
      refine rs rfl rfl rfl rfl rfl rfl rfl ?_
      refine rn ?_
      refine awp_ret ?_
      have h := Option.some.inj h
      subst h
      repeat (first | refine then_ret ?_ | refine inBlock_ret ?_ | refine cut_r ?_)
      exact rrA (r := .agg [.int .i64 kind2, .str (sB name1), .str (sB op1), .sl (vals1.map c_tAttr), .sl (cs_tFilter l1)]) [0] [(0, 0, .sl (x3.map c_ttokenToken)), (0, 1, .bool x4)] [] rfl rfl rfl rfl (zC rfl rfl rfl rfl (zC rfl rfl rfl rfl (trivial))) (trivial) ⟨rfl, rfl, rfl, rfl⟩
    · have h := cF hc h
      refine awp_skip ?_
      refine awp_seq ?_
      refine awp_region ?_
      refine rvs 2 rfl ?_
      refine ra rfl rfl rfl ?_
      refine rs rfl rfl rfl rfl rfl rfl rfl ?_
      refine rn ?_
      refine awp_seq ?_
      refine awp_seq ?_
      refine awp_region ?_
      refine rv rfl rfl ?_
      refine rv rfl rfl ?_
      refine rt ((lM_tFilter l4)) ?_
      refine rv rfl rfl ?_
      refine rn ?_
      refine awp_conv (fun _ _ _ _ _ hi => nilS_cell false 5 4 4 rfl hi) ?_
      obtain ⟨e10, hl11, h⟩ := bi h
      refine awp_cut1 (fun x => x = e10) (fun (l11 : List tFilter) => ⟨[(8, .ptr 1 0), (11, .ptr 2 0)], [(0, 0, .sl (x3.map c_ttokenToken)), (0, 1, .bool x4), (1, 0, .int .i64 0), (1, 1, .str (sB [])), (1, 2, .str (sB [])), (1, 3, .nilS), (1, 4, .nilS), (2, 0, .int .i64 kind1), (2, 1, .str (sB [])), (2, 2, .str (sB [])), (2, 3, .nilS), (2, 4, .own 3)], [(3, .row 5 (cs_tFilter l11))], 4⟩) ?_ ?_
      · refine awp_block ?_
        refine awp_loopD hl11 (fun (((x6, l9)) : Int × (List tFilter)) => ⟨[(1, .int .i64 kind1), (8, .ptr 1 0), (11, .ptr 2 0), (32, .own 3), (33, .int .i64 (l4.length : Int)), (34, .int .i64 x6)], [(0, 0, .sl (x3.map c_ttokenToken)), (0, 1, .bool x4), (1, 0, .int .i64 0), (1, 1, .str (sB [])), (1, 2, .str (sB [])), (1, 3, .nilS), (1, 4, .nilS), (2, 0, .int .i64 kind1), (2, 1, .str (sB [])), (2, 2, .str (sB [])), (2, 3, .nilS), (2, 4, .own 4)], [(3, .row 5 (cs_tFilter l4)), (4, .row 5 (cs_tFilter l9))], 5⟩) [0, 1, 4, 3, 5] rfl ⟨rfl, rfl, zA rfl rfl rfl (zA rfl rfl rfl (zA rfl rfl rfl (zA rfl rfl rfl (zA rfl rfl rfl (zA rfl rfl rfl (trivial)))))), zC rfl rfl rfl rfl (zC rfl rfl rfl rfl (zC rfl rfl rfl rfl (zC rfl rfl rfl rfl (zC rfl rfl rfl rfl (zC rfl rfl rfl rfl (zC rfl rfl rfl rfl (zC rfl rfl rfl rfl (zC rfl rfl rfl rfl (zC rfl rfl rfl rfl (zC rfl rfl rfl rfl (zC rfl rfl rfl rfl (trivial)))))))))))), zE rfl .row rfl (zE rfl .row rfl (trivial))⟩ ?_
        intro v o14 ho12 hE13
        obtain ⟨x6, l9⟩ := v
        change awp _ _ _ _ _ ⟨_, _, _, _⟩
        refine awp_seq ?_
        refine awp_region ?_
        refine rv rfl rfl ?_
        refine rn ?_
        refine awp_seq ?_
        refine cs_ rfl (fun hc => ?_) (fun hc => ?_)
        · have ho12 := cT hc ho12
          refine awp_skip ?_
          refine awp_seq ?_
          obtain ⟨o15, ho16, ho12⟩ := bi ho12
          refine awp_cut1 (fun x => x = o15) (fun (l12 : List tFilter) => ⟨[(1, .int .i64 kind1), (8, .ptr 1 0), (11, .ptr 2 0), (32, .own 3), (33, .int .i64 (l4.length : Int)), (34, .int .i64 x6)], [(0, 0, .sl (x3.map c_ttokenToken)), (0, 1, .bool x4), (1, 0, .int .i64 0), (1, 1, .str (sB [])), (1, 2, .str (sB [])), (1, 3, .nilS), (1, 4, .nilS), (2, 0, .int .i64 kind1), (2, 1, .str (sB [])), (2, 2, .str (sB [])), (2, 3, .nilS), (2, 4, .own 4)], [(3, .row 5 (cs_tFilter l4)), (4, .row 5 (cs_tFilter l12))], 5⟩) ?_ ?_
          · refine awp_block ?_
            refine awp_seq ?_
            refine awp_region ?_
            obtain ⟨x8, hx17, ho16⟩ := bi ho16
            refine ri rfl rfl rfl rfl rfl rfl (gi0 hx17) (giM_tFilter hx17) (wM_tFilter _) ?_
            obtain ⟨kind4, name3, op3, vals3, l13⟩ := x8
            refine rv rfl rfl ?_
            refine ra rfl rfl rfl ?_
            refine rs rfl rfl rfl rfl rfl rfl rfl ?_
            refine rn ?_
            refine awp_seq ?_
            refine awp_region ?_
            refine rvs 4 rfl ?_
            refine rn ?_
            refine cs_ rfl (fun hc => ?_) (fun hc => ?_)
            · have ho16 := cT hc ho16
              refine awp_region ?_
              refine rvs 4 rfl ?_
              obtain ⟨l14, hx18, ho16⟩ := bi ho16
              refine rap false (xs := cs_tFilter l9) (ys := cs_tFilter l13) rfl rfl rfl rfl rfl rfl rfl (.own rfl rfl) (.sl rfl rfl rfl) (wM_tFilter _) (oM_tFilter _) (apB_tFilter rfl hx18) rfl ?_
              refine rk (congrArg (Kind.row _) (apM_tFilter hx18)) ?_
              refine rv rfl rfl ?_
              refine rs rfl rfl rfl rfl rfl rfl rfl ?_
              refine rn ?_
              refine inBlock_normal ?_
              cases ho16
              exact cut_n [0, 1, 2, 3, 6] rfl rfl ⟨rfl, rfl, zA rfl rfl rfl (zA rfl rfl rfl (zA rfl rfl rfl (zA rfl rfl rfl (zA rfl rfl rfl (zA rfl rfl rfl (trivial)))))), zC rfl rfl rfl rfl (zC rfl rfl rfl rfl (zC rfl rfl rfl rfl (zC rfl rfl rfl rfl (zC rfl rfl rfl rfl (zC rfl rfl rfl rfl (zC rfl rfl rfl rfl (zC rfl rfl rfl rfl (zC rfl rfl rfl rfl (zC rfl rfl rfl rfl (zC rfl rfl rfl rfl (zC rfl rfl rfl rfl (trivial)))))))))))), zE rfl .row rfl (zE rfl .row rfl (trivial))⟩
            · have ho16 := cF hc ho16
              refine awp_region ?_
              refine rvs 3 rfl ?_
              refine rbs false rfl rfl rfl rfl rfl rfl rfl rfl rfl rfl ?_
              obtain ⟨l15, hx19, ho16⟩ := bi ho16
              refine rap false (xs := cs_tFilter l9) (ys := cs_tFilter [(tFilter.mk kind4 name3 op3 vals3 l13)]) rfl rfl rfl rfl rfl rfl rfl (.own rfl rfl) (.sl rfl rfl rfl) (wM_tFilter _) (oM_tFilter _) (apB_tFilter rfl hx19) rfl ?_
              refine rk (congrArg (Kind.row _) (apM_tFilter hx19)) ?_
              refine rv rfl rfl ?_
              refine rs rfl rfl rfl rfl rfl rfl rfl ?_
              refine rn ?_
              refine inBlock_normal ?_
              cases ho16
              exact cut_n [0, 1, 2, 3, 7] rfl rfl ⟨rfl, rfl, zA rfl rfl rfl (zA rfl rfl rfl (zA rfl rfl rfl (zA rfl rfl rfl (zA rfl rfl rfl (zA rfl rfl rfl (trivial)))))), zC rfl rfl rfl rfl (zC rfl rfl rfl rfl (zC rfl rfl rfl rfl (zC rfl rfl rfl rfl (zC rfl rfl rfl rfl (zC rfl rfl rfl rfl (zC rfl rfl rfl rfl (zC rfl rfl rfl rfl (zC rfl rfl rfl rfl (zC rfl rfl rfl rfl (zC rfl rfl rfl rfl (zC rfl rfl rfl rfl (trivial)))))))))))), zE rfl .row rfl (zE rfl .row rfl (trivial))⟩
          · rintro l12 rfl
            change awp _ _ _ _ _ ⟨_, _, _, _⟩
            refine awp_region ?_
            refine rvs 2 rfl ?_
            refine rn ?_
            cases ho12
            exact lp_n [0, 1, 2, 3, 4] rfl rfl ⟨rfl, rfl, zA rfl rfl rfl (zA rfl rfl rfl (zA rfl rfl rfl (zA rfl rfl rfl (zA rfl rfl rfl (zA rfl rfl rfl (trivial)))))), zC rfl rfl rfl rfl (zC rfl rfl rfl rfl (zC rfl rfl rfl rfl (zC rfl rfl rfl rfl (zC rfl rfl rfl rfl (zC rfl rfl rfl rfl (zC rfl rfl rfl rfl (zC rfl rfl rfl rfl (zC rfl rfl rfl rfl (zC rfl rfl rfl rfl (zC rfl rfl rfl rfl (zC rfl rfl rfl rfl (trivial)))))))))))), zE rfl .row rfl (zE rfl .row rfl (trivial))⟩
        · have ho12 := cF hc ho12
          refine awp_exit ?_
          repeat (first | refine then_exit ?_ | refine cut_x ?_ | refine inBlock_other rfl ?_)
          refine inBlock_exit ?_
          cases ho12
          have hq := hE13 _ rfl
          subst hq
          exact cut_n [0, 1, 2, 4] rfl rfl ⟨rfl, rfl, zA rfl rfl rfl (zA rfl rfl rfl (trivial)), zC rfl rfl rfl rfl (zC rfl rfl rfl rfl (zC rfl rfl rfl rfl (zC rfl rfl rfl rfl (zC rfl rfl rfl rfl (zC rfl rfl rfl rfl (zC rfl rfl rfl rfl (zC rfl rfl rfl rfl (zC rfl rfl rfl rfl (zC rfl rfl rfl rfl (zC rfl rfl rfl rfl (zC rfl rfl rfl rfl (trivial)))))))))))), zE rfl .row rfl (trivial)⟩
      · rintro l11 rfl
        refine awp_seq ?_
        refine awp_region ?_
        refine rv rfl rfl ?_
        refine rs rfl rfl rfl rfl rfl rfl rfl ?_
        refine rn ?_
        refine awp_ret ?_
        have h := Option.some.inj h
        subst h
        repeat (first | refine then_ret ?_ | refine inBlock_ret ?_ | refine cut_r ?_)
        exact rrA (r := .agg [.int .i64 kind1, .str (sB []), .str (sB []), .sl (([] : List tAttr).map c_tAttr), .sl (cs_tFilter l11)]) [0] [(0, 0, .sl (x3.map c_ttokenToken)), (0, 1, .bool x4)] [] rfl rfl rfl rfl (zC rfl rfl rfl rfl (zC rfl rfl rfl rfl (trivial))) (trivial) ⟨rfl, rfl, rfl, rfl⟩
end

section
attribute [local irreducible] awp aops DP PCall ACall Decidable.decide
/-- `(*plover/filter.parser).not` -/
theorem dfilter_parser_not_s {fu : Nat} (ih_dfilter_parser_or : ∀ {p1} {r : tFilter × tfilterparser}, dfilter_parser_or fu p1 = some r → ACall Tryd.prog 22 1 [.ptr 0 0] [(0, 0, .sl (p1.L.map c_ttokenToken)), (0, 1, .bool p1.Bad)] [] (fun r_ H_ O_ n_ => r_ = .agg (c_tFilter r.1) ∧ H_ = [(0, 0, .sl (r.2.L.map c_ttokenToken)), (0, 1, .bool r.2.Bad)] ∧ O_ = [] ∧ n_ = 1)) (ih_dfilter_parser_row_and : ∀ {p1 kind1 word1} {r : tFilter × tfilterparser}, dfilter_parser_row_and fu p1 kind1 word1 = some r → ACall Tryd.prog 43 1 [.ptr 0 0, .int .i64 kind1, .str (sB word1), .bfn 44 [.ptr 0 0]] [(0, 0, .sl (p1.L.map c_ttokenToken)), (0, 1, .bool p1.Bad)] [] (fun r_ H_ O_ n_ => r_ = .agg (c_tFilter r.1) ∧ H_ = [(0, 0, .sl (r.2.L.map c_ttokenToken)), (0, 1, .bool r.2.Bad)] ∧ O_ = [] ∧ n_ = 1)) (ih_dfilter_parser_and : ∀ {p1} {r : tFilter × tfilterparser}, dfilter_parser_and fu p1 = some r → ACall Tryd.prog 44 1 [.ptr 0 0] [(0, 0, .sl (p1.L.map c_ttokenToken)), (0, 1, .bool p1.Bad)] [] (fun r_ H_ O_ n_ => r_ = .agg (c_tFilter r.1) ∧ H_ = [(0, 0, .sl (r.2.L.map c_ttokenToken)), (0, 1, .bool r.2.Bad)] ∧ O_ = [] ∧ n_ = 1)) (ih_dfilter_parser_row_not : ∀ {p1 kind1 word1} {r : tFilter × tfilterparser}, dfilter_parser_row_not fu p1 kind1 word1 = some r → ACall Tryd.prog 43 1 [.ptr 0 0, .int .i64 kind1, .str (sB word1), .bfn 57 [.ptr 0 0]] [(0, 0, .sl (p1.L.map c_ttokenToken)), (0, 1, .bool p1.Bad)] [] (fun r_ H_ O_ n_ => r_ = .agg (c_tFilter r.1) ∧ H_ = [(0, 0, .sl (r.2.L.map c_ttokenToken)), (0, 1, .bool r.2.Bad)] ∧ O_ = [] ∧ n_ = 1)) (ih_dfilter_parser_not : ∀ {p1} {r : tFilter × tfilterparser}, dfilter_parser_not fu p1 = some r → ACall Tryd.prog 57 1 [.ptr 0 0] [(0, 0, .sl (p1.L.map c_ttokenToken)), (0, 1, .bool p1.Bad)] [] (fun r_ H_ O_ n_ => r_ = .agg (c_tFilter r.1) ∧ H_ = [(0, 0, .sl (r.2.L.map c_ttokenToken)), (0, 1, .bool r.2.Bad)] ∧ O_ = [] ∧ n_ = 1)) : ∀ {p1} {r : tFilter × tfilterparser}, dfilter_parser_not (fu + 1) p1 = some r → ACall Tryd.prog 57 1 [.ptr 0 0] [(0, 0, .sl (p1.L.map c_ttokenToken)), (0, 1, .bool p1.Bad)] [] (fun r_ H_ O_ n_ => r_ = .agg (c_tFilter r.1) ∧ H_ = [(0, 0, .sl (r.2.L.map c_ttokenToken)), (0, 1, .bool r.2.Bad)] ∧ O_ = [] ∧ n_ = 1) := by
  intro p1 r h
  rw [dfilter_parser_not] at h
  refine acall_body Tryd.func57 rfl (by kernel_rfl) (by rfl) ?_
  refine awp_seq ?_
  refine awp_region ?_
  refine ra rfl rfl rfl ?_
  refine rn ?_
  refine awp_seq ?_
  refine awp_block ?_
  refine awp_seq ?_
  refine awp_region ?_
  refine rv rfl rfl ?_
  obtain ⟨x1, hx1, h⟩ := bi h
  refine rh [0] rfl rfl (dfilter_parser_takes_l hx1) rfl rfl rfl (zC rfl rfl rfl rfl (zC rfl rfl rfl rfl (trivial))) (trivial) ?_
  refine ek ?_
  refine as1 rfl ?_
  refine ae rfl rfl rfl ?_
  refine rv rfl rfl ?_
  refine rn ?_
  refine cs_ rfl (fun hc => ?_) (fun hc => ?_)
  · have h := cT hc h
    refine awp_seq ?_
    refine awp_region ?_
    refine rv rfl rfl ?_
    obtain ⟨x2, hx2, h⟩ := bi h
    obtain ⟨⟨kind1, name1, op1, vals1, l1⟩, x3⟩ := x2
    refine rh [0] rfl rfl (ih_dfilter_parser_not hx2) rfl rfl rfl (zC rfl rfl rfl rfl (zC rfl rfl rfl rfl (trivial))) (trivial) ?_
    refine ek ?_
    refine as1 rfl ?_
    refine ae rfl rfl rfl ?_
    refine rbs false rfl rfl rfl rfl rfl rfl rfl rfl rfl rfl ?_
    refine rv rfl rfl ?_
    refine rs rfl rfl rfl rfl rfl rfl rfl ?_
    refine rn ?_
    refine awp_ret ?_
    have h := Option.some.inj h
    subst h
    repeat (first | refine then_ret ?_ | refine inBlock_ret ?_ | refine cut_r ?_)
    exact rrA (r := .agg [.int .i64 3, .str (sB []), .str (sB []), .sl (([] : List tAttr).map c_tAttr), .sl (cs_tFilter [(tFilter.mk kind1 name1 op1 vals1 l1)])]) [0] [(0, 0, .sl (x3.L.map c_ttokenToken)), (0, 1, .bool x3.Bad)] [] rfl rfl rfl rfl (zC rfl rfl rfl rfl (zC rfl rfl rfl rfl (trivial))) (trivial) ⟨rfl, rfl, rfl, rfl⟩
  · have h := cF hc h
    refine awp_seq ?_
    refine awp_region ?_
    refine rv rfl rfl ?_
    obtain ⟨x4, hx3, h⟩ := bi h
    refine rh [0] rfl rfl (dfilter_parser_takes_l hx3) rfl rfl rfl (zC rfl rfl rfl rfl (zC rfl rfl rfl rfl (trivial))) (trivial) ?_
    refine ek ?_
    refine as1 rfl ?_
    refine ae rfl rfl rfl ?_
    refine rv rfl rfl ?_
    refine rn ?_
    refine cs_ rfl (fun hc => ?_) (fun hc => ?_)
    · have h := cT hc h
      refine awp_seq ?_
      refine awp_region ?_
      refine rv rfl rfl ?_
      obtain ⟨x5, hx4, h⟩ := bi h
      obtain ⟨⟨kind2, name2, op2, vals2, l2⟩, x6⟩ := x5
      refine rh [0] rfl rfl (ih_dfilter_parser_or hx4) rfl rfl rfl (zC rfl rfl rfl rfl (zC rfl rfl rfl rfl (trivial))) (trivial) ?_
      refine ek ?_
      refine as1 rfl ?_
      refine ae rfl rfl rfl ?_
      refine ra rfl rfl rfl ?_
      refine rs rfl rfl rfl rfl rfl rfl rfl ?_
      refine rn ?_
      refine awp_seq ?_
      refine awp_region ?_
      refine rvs 2 rfl ?_
      obtain ⟨x7, hx5, h⟩ := bi h
      refine rh [0] rfl rfl (dfilter_parser_takes_l hx5) rfl rfl rfl (zC rfl rfl rfl rfl (zC rfl rfl rfl rfl (trivial))) (trivial) ?_
      refine ek ?_
      refine as1 rfl ?_
      refine ae rfl rfl rfl ?_
      obtain ⟨x8, hx6, h⟩ := bi h
      refine rh [0] rfl rfl (dfilter_parser_must_l hx6) rfl rfl rfl (zC rfl rfl rfl rfl (zC rfl rfl rfl rfl (trivial))) (trivial) ?_
      refine ek ?_
      refine as1 rfl ?_
      refine ae rfl rfl rfl ?_
      refine rn ?_
      refine awp_seq ?_
      refine awp_region ?_
      refine rv rfl rfl ?_
      refine rs rfl rfl rfl rfl rfl rfl rfl ?_
      refine rn ?_
      refine awp_ret ?_
      have h := Option.some.inj h
      subst h
      repeat (first | refine then_ret ?_ | refine inBlock_ret ?_ | refine cut_r ?_)
      exact rrA (r := .agg [.int .i64 kind2, .str (sB name2), .str (sB op2), .sl (vals2.map c_tAttr), .sl (cs_tFilter l2)]) [0] [(0, 0, .sl (x8.L.map c_ttokenToken)), (0, 1, .bool x8.Bad)] [] rfl rfl rfl rfl (zC rfl rfl rfl rfl (zC rfl rfl rfl rfl (trivial))) (trivial) ⟨rfl, rfl, rfl, rfl⟩
    · have h := cF hc h
      refine awp_seq ?_
      refine awp_region ?_
      refine rv rfl rfl ?_
      obtain ⟨x9, hx7, h⟩ := bi h
      refine rh [0] rfl rfl (dfilter_parser_takes_l hx7) rfl rfl rfl (zC rfl rfl rfl rfl (zC rfl rfl rfl rfl (trivial))) (trivial) ?_
      refine ek ?_
      refine as1 rfl ?_
      refine ae rfl rfl rfl ?_
      refine rv rfl rfl ?_
      refine rn ?_
      refine cs_ rfl (fun hc => ?_) (fun hc => ?_)
      · have h := cT hc h
        refine awp_seq ?_
        refine awp_region ?_
        refine rv rfl rfl ?_
        refine rs rfl rfl rfl rfl rfl rfl rfl ?_
        refine rn ?_
        refine awp_ret ?_
        have h := Option.some.inj h
        subst h
        repeat (first | refine then_ret ?_ | refine inBlock_ret ?_ | refine cut_r ?_)
        exact rrA (r := .agg [.int .i64 7, .str (sB []), .str (sB []), .sl (([] : List tAttr).map c_tAttr), .sl (cs_tFilter ([] : List tFilter))]) [0] [(0, 0, .sl (x9.2.L.map c_ttokenToken)), (0, 1, .bool x9.2.Bad)] [] rfl rfl rfl rfl (zC rfl rfl rfl rfl (zC rfl rfl rfl rfl (trivial))) (trivial) ⟨rfl, rfl, rfl, rfl⟩
      · have h := cF hc h
        refine awp_skip ?_
        refine inBlock_normal ?_
        refine awp_seq ?_
        refine awp_region ?_
        refine rv rfl rfl ?_
        obtain ⟨x10, hx8, h⟩ := bi h
        obtain ⟨⟨kind3, name3, op3, vals3, l3⟩, x11⟩ := x10
        refine rh [0] rfl rfl (dfilter_parser_leaf_l hx8) rfl rfl rfl (zC rfl rfl rfl rfl (zC rfl rfl rfl rfl (trivial))) (trivial) ?_
        refine ek ?_
        refine as1 rfl ?_
        refine ae rfl rfl rfl ?_
        refine rs rfl rfl rfl rfl rfl rfl rfl ?_
        refine rn ?_
        refine awp_ret ?_
        have h := Option.some.inj h
        subst h
        repeat (first | refine then_ret ?_ | refine inBlock_ret ?_ | refine cut_r ?_)
        exact rrA (r := .agg [.int .i64 kind3, .str (sB name3), .str (sB op3), .sl (vals3.map c_tAttr), .sl (cs_tFilter l3)]) [0] [(0, 0, .sl (x11.L.map c_ttokenToken)), (0, 1, .bool x11.Bad)] [] rfl rfl rfl rfl (zC rfl rfl rfl rfl (zC rfl rfl rfl rfl (trivial))) (trivial) ⟨rfl, rfl, rfl, rfl⟩
end

theorem rec_dfilter_parser_or : ∀ fu : Nat, (∀ {p1} {r : tFilter × tfilterparser}, dfilter_parser_or fu p1 = some r → ACall Tryd.prog 22 1 [.ptr 0 0] [(0, 0, .sl (p1.L.map c_ttokenToken)), (0, 1, .bool p1.Bad)] [] (fun r_ H_ O_ n_ => r_ = .agg (c_tFilter r.1) ∧ H_ = [(0, 0, .sl (r.2.L.map c_ttokenToken)), (0, 1, .bool r.2.Bad)] ∧ O_ = [] ∧ n_ = 1)) ∧ (∀ {p1 kind1 word1} {r : tFilter × tfilterparser}, dfilter_parser_row_and fu p1 kind1 word1 = some r → ACall Tryd.prog 43 1 [.ptr 0 0, .int .i64 kind1, .str (sB word1), .bfn 44 [.ptr 0 0]] [(0, 0, .sl (p1.L.map c_ttokenToken)), (0, 1, .bool p1.Bad)] [] (fun r_ H_ O_ n_ => r_ = .agg (c_tFilter r.1) ∧ H_ = [(0, 0, .sl (r.2.L.map c_ttokenToken)), (0, 1, .bool r.2.Bad)] ∧ O_ = [] ∧ n_ = 1)) ∧ (∀ {p1} {r : tFilter × tfilterparser}, dfilter_parser_and fu p1 = some r → ACall Tryd.prog 44 1 [.ptr 0 0] [(0, 0, .sl (p1.L.map c_ttokenToken)), (0, 1, .bool p1.Bad)] [] (fun r_ H_ O_ n_ => r_ = .agg (c_tFilter r.1) ∧ H_ = [(0, 0, .sl (r.2.L.map c_ttokenToken)), (0, 1, .bool r.2.Bad)] ∧ O_ = [] ∧ n_ = 1)) ∧ (∀ {p1 kind1 word1} {r : tFilter × tfilterparser}, dfilter_parser_row_not fu p1 kind1 word1 = some r → ACall Tryd.prog 43 1 [.ptr 0 0, .int .i64 kind1, .str (sB word1), .bfn 57 [.ptr 0 0]] [(0, 0, .sl (p1.L.map c_ttokenToken)), (0, 1, .bool p1.Bad)] [] (fun r_ H_ O_ n_ => r_ = .agg (c_tFilter r.1) ∧ H_ = [(0, 0, .sl (r.2.L.map c_ttokenToken)), (0, 1, .bool r.2.Bad)] ∧ O_ = [] ∧ n_ = 1)) ∧ (∀ {p1} {r : tFilter × tfilterparser}, dfilter_parser_not fu p1 = some r → ACall Tryd.prog 57 1 [.ptr 0 0] [(0, 0, .sl (p1.L.map c_ttokenToken)), (0, 1, .bool p1.Bad)] [] (fun r_ H_ O_ n_ => r_ = .agg (c_tFilter r.1) ∧ H_ = [(0, 0, .sl (r.2.L.map c_ttokenToken)), (0, 1, .bool r.2.Bad)] ∧ O_ = [] ∧ n_ = 1))
  | 0 => ⟨fun h => by simp [dfilter_parser_or] at h, fun h => by simp [dfilter_parser_row_and] at h, fun h => by simp [dfilter_parser_and] at h, fun h => by simp [dfilter_parser_row_not] at h, fun h => by simp [dfilter_parser_not] at h⟩
  | fu + 1 => by
    obtain ⟨i0, i1, i2, i3, i4⟩ := rec_dfilter_parser_or fu
    exact ⟨dfilter_parser_or_s i0 i1 i2 i3 i4, dfilter_parser_row_and_s i0 i1 i2 i3 i4, dfilter_parser_and_s i0 i1 i2 i3 i4, dfilter_parser_row_not_s i0 i1 i2 i3 i4, dfilter_parser_not_s i0 i1 i2 i3 i4⟩
theorem dfilter_parser_or_l {fu : Nat} : ∀ {p1} {r : tFilter × tfilterparser}, dfilter_parser_or fu p1 = some r → ACall Tryd.prog 22 1 [.ptr 0 0] [(0, 0, .sl (p1.L.map c_ttokenToken)), (0, 1, .bool p1.Bad)] [] (fun r_ H_ O_ n_ => r_ = .agg (c_tFilter r.1) ∧ H_ = [(0, 0, .sl (r.2.L.map c_ttokenToken)), (0, 1, .bool r.2.Bad)] ∧ O_ = [] ∧ n_ = 1) := (rec_dfilter_parser_or fu).1
theorem dfilter_parser_row_and_l {fu : Nat} : ∀ {p1 kind1 word1} {r : tFilter × tfilterparser}, dfilter_parser_row_and fu p1 kind1 word1 = some r → ACall Tryd.prog 43 1 [.ptr 0 0, .int .i64 kind1, .str (sB word1), .bfn 44 [.ptr 0 0]] [(0, 0, .sl (p1.L.map c_ttokenToken)), (0, 1, .bool p1.Bad)] [] (fun r_ H_ O_ n_ => r_ = .agg (c_tFilter r.1) ∧ H_ = [(0, 0, .sl (r.2.L.map c_ttokenToken)), (0, 1, .bool r.2.Bad)] ∧ O_ = [] ∧ n_ = 1) := (rec_dfilter_parser_or fu).2.1
theorem dfilter_parser_and_l {fu : Nat} : ∀ {p1} {r : tFilter × tfilterparser}, dfilter_parser_and fu p1 = some r → ACall Tryd.prog 44 1 [.ptr 0 0] [(0, 0, .sl (p1.L.map c_ttokenToken)), (0, 1, .bool p1.Bad)] [] (fun r_ H_ O_ n_ => r_ = .agg (c_tFilter r.1) ∧ H_ = [(0, 0, .sl (r.2.L.map c_ttokenToken)), (0, 1, .bool r.2.Bad)] ∧ O_ = [] ∧ n_ = 1) := (rec_dfilter_parser_or fu).2.2.1
theorem dfilter_parser_row_not_l {fu : Nat} : ∀ {p1 kind1 word1} {r : tFilter × tfilterparser}, dfilter_parser_row_not fu p1 kind1 word1 = some r → ACall Tryd.prog 43 1 [.ptr 0 0, .int .i64 kind1, .str (sB word1), .bfn 57 [.ptr 0 0]] [(0, 0, .sl (p1.L.map c_ttokenToken)), (0, 1, .bool p1.Bad)] [] (fun r_ H_ O_ n_ => r_ = .agg (c_tFilter r.1) ∧ H_ = [(0, 0, .sl (r.2.L.map c_ttokenToken)), (0, 1, .bool r.2.Bad)] ∧ O_ = [] ∧ n_ = 1) := (rec_dfilter_parser_or fu).2.2.2.1
theorem dfilter_parser_not_l {fu : Nat} : ∀ {p1} {r : tFilter × tfilterparser}, dfilter_parser_not fu p1 = some r → ACall Tryd.prog 57 1 [.ptr 0 0] [(0, 0, .sl (p1.L.map c_ttokenToken)), (0, 1, .bool p1.Bad)] [] (fun r_ H_ O_ n_ => r_ = .agg (c_tFilter r.1) ∧ H_ = [(0, 0, .sl (r.2.L.map c_ttokenToken)), (0, 1, .bool r.2.Bad)] ∧ O_ = [] ∧ n_ = 1) := (rec_dfilter_parser_or fu).2.2.2.2
/-- `plover/filter.Read` -/
def dfilter_Read (fu : Nat) (s1 : Str) : Option (tFilter × Er) :=
  (dtoken_Cut fu s1).bind fun l1 => bif l1.2.isSome then some ((tFilter.mk 0 [] [] [] []), l1.2) else ((dfilter_parser_or fu (tfilterparser.mk l1.1 false)).bind fun x1 => match x1 with | (.mk kind1 name1 op1 vals1 l2, x2) => (bif x2.Bad then some true else some (decide ((x2.L.length : Int) > 0)) : Option Bool).bind fun (x3 : Bool) => (bif x3 then some ((tFilter.mk 0 [] [] [] []), (some 3)) else ((dfilter_May fu (tFilter.mk kind1 name1 op1 vals1 l2)).bind fun x4 => bif (!x4) then some ((tFilter.mk 0 [] [] [] []), (some 5)) else some ((tFilter.mk kind1 name1 op1 vals1 l2), none))))
section
attribute [local irreducible] awp aops DP PCall ACall Decidable.decide
theorem dfilter_Read_l {fu : Nat} {s1 : Str} {r : tFilter × Er} (h : dfilter_Read fu s1 = some r) : PCall Tryd.prog 15 [.str (sB s1)] (· = .tup [.agg (c_tFilter r.1), .err 47 r.2]) := by
  rw [dfilter_Read] at h
  refine pcall_body Tryd.func15 rfl (by kernel_rfl) (by rfl) ?_
  refine awp_seq ?_
  refine awp_region ?_
  refine ra rfl rfl rfl ?_
  refine rv rfl rfl ?_
  refine rn ?_
  refine awp_seq ?_
  refine awp_region ?_
  refine rv rfl rfl ?_
  obtain ⟨l1, hx1, h⟩ := bi h
  refine rc1 rfl rfl rfl (dtoken_Cut_l hx1) ?_
  refine rvs 5 rfl ?_
  refine rn ?_
  refine awp_seq ?_
  refine awp_seq ?_
  refine awp_region ?_
  refine rv rfl rfl ?_
  refine rV rfl (va_ennil rfl rfl rfl) ?_
  refine rn ?_
  refine cs_ rfl (fun hc => ?_) (fun hc => ?_)
  · have h := cT hc h
    refine awp_seq ?_
    refine awp_region ?_
    refine rvs 2 rfl ?_
    refine rs rfl rfl rfl rfl rfl rfl rfl ?_
    refine rv rfl rfl ?_
    refine rn ?_
    refine awp_ret ?_
    cases h
    repeat (first | refine then_ret ?_ | refine inBlock_ret ?_ | refine cut_r ?_)
    exact rr rfl rfl rfl
  · have h := cF hc h
    refine awp_skip ?_
    refine awp_seq ?_
    refine awp_region ?_
    refine rvs 2 rfl ?_
    refine rb rfl rfl ?_
    refine rv rfl rfl ?_
    refine rn ?_
    refine awp_seq ?_
    refine awp_region ?_
    refine rv rfl rfl ?_
    obtain ⟨x1, hx2, h⟩ := bi h
    obtain ⟨⟨kind1, name1, op1, vals1, l2⟩, x2⟩ := x1
    refine rh [1] rfl rfl (dfilter_parser_or_l hx2) rfl rfl rfl (zC rfl rfl rfl rfl (zC rfl rfl rfl rfl (trivial))) (trivial) ?_
    refine ek ?_
    refine as1 rfl ?_
    refine ae rfl rfl rfl ?_
    refine ra rfl rfl rfl ?_
    refine rs rfl rfl rfl rfl rfl rfl rfl ?_
    refine rn ?_
    refine awp_seq ?_
    refine awp_block ?_
    refine awp_seq ?_
    obtain ⟨o3, ho4, h⟩ := bi h
    refine awp_cut1 (fun x => x = o3) (fun (x3 : Bool) => ⟨[(2, .ptr 0 0), (7, .ptr 1 0), (22, .bool x3)], [(0, 0, .int .i64 0), (0, 1, .str (sB [])), (0, 2, .str (sB [])), (0, 3, .nilS), (0, 4, .nilS), (1, 0, .int .i64 kind1), (1, 1, .str (sB name1)), (1, 2, .str (sB op1)), (1, 3, .sl (vals1.map c_tAttr)), (1, 4, .sl (cs_tFilter l2))], [], 2⟩) ?_ ?_
    · refine awp_region ?_
      refine rvs 5 rfl ?_
      refine gs rfl rfl rfl rfl rfl (fun hg => ?_) (fun hg => ?_)
      · have ho4 := cF hg ho4
        refine rv rfl rfl ?_
        refine gy rfl rfl rfl ?_
        refine rv rfl rfl ?_
        refine gy rfl rfl rfl ?_
        refine rv rfl rfl ?_
        refine gy rfl rfl rfl ?_
        refine rv rfl rfl ?_
        refine gy rfl rfl rfl ?_
        refine rv rfl rfl ?_
        refine rt ((lM c_ttokenToken x2.L)) ?_
        refine gy rfl rfl rfl ?_
        refine rv rfl rfl ?_
        refine rvs 2 rfl ?_
        refine rn ?_
        cases ho4
        exact cut_n [0, 2] rfl rfl ⟨rfl, rfl, zA rfl rfl rfl (zA rfl rfl rfl (zA rfl rfl rfl (trivial))), zC rfl rfl rfl rfl (zC rfl rfl rfl rfl (zC rfl rfl rfl rfl (zC rfl rfl rfl rfl (zC rfl rfl rfl rfl (zC rfl rfl rfl rfl (zC rfl rfl rfl rfl (zC rfl rfl rfl rfl (zC rfl rfl rfl rfl (zC rfl rfl rfl rfl (trivial)))))))))), trivial⟩
      · have ho4 := cT hg ho4
        refine gn rfl rfl rfl rfl rfl ?_
        refine gn rfl rfl rfl rfl rfl ?_
        refine gn rfl rfl rfl rfl rfl ?_
        refine gn rfl rfl rfl rfl rfl ?_
        refine gn rfl rfl rfl rfl rfl ?_
        refine rvs 2 rfl ?_
        refine rn ?_
        cases ho4
        exact cut_n [0, 2] rfl rfl ⟨rfl, rfl, zA rfl rfl rfl (zA rfl rfl rfl (zA rfl rfl rfl (trivial))), zC rfl rfl rfl rfl (zC rfl rfl rfl rfl (zC rfl rfl rfl rfl (zC rfl rfl rfl rfl (zC rfl rfl rfl rfl (zC rfl rfl rfl rfl (zC rfl rfl rfl rfl (zC rfl rfl rfl rfl (zC rfl rfl rfl rfl (zC rfl rfl rfl rfl (trivial)))))))))), trivial⟩
    · rintro x3 rfl
      change awp _ _ _ _ _ ⟨_, _, _, _⟩
      refine cs_ rfl (fun hc => ?_) (fun hc => ?_)
      · have h := cT hc h
        refine awp_seq ?_
        refine awp_region ?_
        refine rvs 2 rfl ?_
        refine rs rfl rfl rfl rfl rfl rfl rfl ?_
        refine rv rfl rfl ?_
        refine rn ?_
        refine awp_conv (fun _ _ _ _ _ hi => err_slot 47 3 (some 3) rfl hi) ?_
        refine awp_ret ?_
        cases h
        repeat (first | refine then_ret ?_ | refine inBlock_ret ?_ | refine cut_r ?_)
        exact rr rfl rfl rfl
      · have h := cF hc h
        refine awp_seq ?_
        refine awp_region ?_
        refine rv rfl rfl ?_
        obtain ⟨x4, hx5, h⟩ := bi h
        refine rc1 rfl rfl rfl (dfilter_May_l hx5) ?_
        refine rvs 2 rfl ?_
        refine rn ?_
        refine cs_ rfl (fun hc => ?_) (fun hc => ?_)
        · have h := cT hc h
          refine awp_seq ?_
          refine awp_region ?_
          refine rvs 2 rfl ?_
          refine rs rfl rfl rfl rfl rfl rfl rfl ?_
          refine rv rfl rfl ?_
          refine rn ?_
          refine awp_conv (fun _ _ _ _ _ hi => err_slot 47 3 (some 5) rfl hi) ?_
          refine awp_ret ?_
          cases h
          repeat (first | refine then_ret ?_ | refine inBlock_ret ?_ | refine cut_r ?_)
          exact rr rfl rfl rfl
        · have h := cF hc h
          refine awp_skip ?_
          refine inBlock_normal ?_
          refine awp_seq ?_
          refine awp_region ?_
          refine rv rfl rfl ?_
          refine rs rfl rfl rfl rfl rfl rfl rfl ?_
          refine rv rfl rfl ?_
          refine rn ?_
          refine awp_conv (fun _ _ _ _ _ hi => err_slot 47 3 none rfl hi) ?_
          refine awp_ret ?_
          cases h
          repeat (first | refine then_ret ?_ | refine inBlock_ret ?_ | refine cut_r ?_)
          exact rr rfl rfl rfl
end

end Go.Proofs.YtaekecbadkcggaaDoor
