/- Plain functions, and walks, printed by a program of this session's. -/
import Derived.Test.YtaekecbadkcggaaD00
import Derived.Test.YtaekecbadkcggaaPwE
namespace Go.Proofs.Ytaekecbadkcggaa
open Go.Pv
set_option maxRecDepth 100000
set_option maxHeartbeats 4000000
set_option linter.unusedSimpArgs false
set_option linter.unusedVariables false
set_option linter.unusedSectionVars false

/-- `internal/bytealg.CompareString` -/
def dbytealg_CompareString (fu : Nat) (a1 : Str) (b1 : Str) : Option Int :=
  (some (Lib.compareBytes a1 b1)).bind fun x1 => some x1
section
attribute [local irreducible] awp aops DP PCall ACall Decidable.decide
theorem dbytealg_CompareString_l {fu : Nat} {a1 : Str} {b1 : Str} {r : Int} (h : dbytealg_CompareString fu a1 b1 = some r) : PCall Try.prog 101 [.str (sB a1), .str (sB b1)] (· = .int .i64 r) := by
  rw [dbytealg_CompareString] at h
  refine pcall_body Try.func101 rfl (by kernel_rfl) (by rfl) ?_
  refine awp_seq ?_
  refine awp_region ?_
  refine rv rfl rfl ?_
  refine rn ?_
  refine awp_seq ?_
  refine awp_region ?_
  refine rvs 2 rfl ?_
  refine rV rfl (va_cmp Try.func103 (by kernel_rfl) (by kernel_rfl) (by kernel_rfl) (by kernel_rfl) rfl rfl) ?_
  refine rv rfl rfl ?_
  obtain ⟨x1, hx1, h⟩ := bs h
  refine rt (ei' hx1) ?_
  refine rn ?_
  refine awp_ret ?_
  cases h
  repeat (first | refine then_ret ?_ | refine inBlock_ret ?_ | refine cut_r ?_)
  exact rr rfl rfl rfl
end

/-- `strings.Compare` -/
def dstrings_Compare (fu : Nat) (a1 : Str) (b1 : Str) : Option Int :=
  (dbytealg_CompareString fu a1 b1).bind fun x1 => some x1
section
attribute [local irreducible] awp aops DP PCall ACall Decidable.decide
theorem dstrings_Compare_l {fu : Nat} {a1 : Str} {b1 : Str} {r : Int} (h : dstrings_Compare fu a1 b1 = some r) : PCall Try.prog 96 [.str (sB a1), .str (sB b1)] (· = .int .i64 r) := by
  rw [dstrings_Compare] at h
  refine pcall_body Try.func96 rfl (by kernel_rfl) (by rfl) ?_
  refine awp_seq ?_
  refine awp_region ?_
  refine rv rfl rfl ?_
  refine rn ?_
  refine awp_seq ?_
  refine awp_region ?_
  refine rvs 2 rfl ?_
  obtain ⟨x1, hx1, h⟩ := bi h
  refine rc1 rfl rfl rfl (dbytealg_CompareString_l hx1) ?_
  refine rv rfl rfl ?_
  refine rn ?_
  refine awp_ret ?_
  cases h
  repeat (first | refine then_ret ?_ | refine inBlock_ret ?_ | refine cut_r ?_)
  exact rr rfl rfl rfl
end

/-- `internal/stringslite.HasPrefix` -/
def dstringslite_HasPrefix (fu : Nat) (s1 : Str) (prefix1 : Str) : Option Bool :=
  bif (decide ((s1.length : Int) ≥ (prefix1.length : Int))) then ((gsl s1 0 (prefix1.length : Int)).bind fun s2 => some (s2 == prefix1)) else some false
section
attribute [local irreducible] awp aops DP PCall ACall Decidable.decide
theorem dstringslite_HasPrefix_l {fu : Nat} {s1 : Str} {prefix1 : Str} {r : Bool} (h : dstringslite_HasPrefix fu s1 prefix1 = some r) : PCall Try.prog 98 [.str (sB s1), .str (sB prefix1)] (· = .bool r) := by
  rw [dstringslite_HasPrefix] at h
  refine pcall_body Try.func98 rfl (by kernel_rfl) (by rfl) ?_
  refine awp_seq ?_
  refine awp_region ?_
  refine rv rfl rfl ?_
  refine rn ?_
  refine awp_seq ?_
  refine awp_region ?_
  refine rvs 6 rfl ?_
  refine gs rfl rfl rfl rfl rfl (fun hg => ?_) (fun hg => ?_)
  · have h := cT hg h
    refine rv rfl rfl ?_
    refine gy rfl rfl rfl ?_
    refine rv rfl rfl ?_
    refine gy rfl rfl rfl ?_
    refine rv rfl rfl ?_
    refine gy rfl rfl rfl ?_
    obtain ⟨s2, hx1, h⟩ := bi h
    refine rV rfl (va_ssub rfl rfl rfl rfl ⟨_, rfl⟩ hx1) ?_
    refine gy rfl rfl rfl ?_
    refine rv rfl rfl ?_
    refine gy rfl rfl rfl ?_
    refine rv rfl rfl ?_
    refine rt (sEq s2 prefix1) ?_
    refine rvs 2 rfl ?_
    refine rn ?_
    refine awp_ret ?_
    cases h
    repeat (first | refine then_ret ?_ | refine inBlock_ret ?_ | refine cut_r ?_)
    exact rr rfl rfl rfl
  · have h := cF hg h
    refine gn rfl rfl rfl rfl rfl ?_
    refine gn rfl rfl rfl rfl rfl ?_
    refine gn rfl rfl rfl rfl rfl ?_
    refine gn rfl rfl rfl rfl rfl ?_
    refine gn rfl rfl rfl rfl rfl ?_
    refine rvs 2 rfl ?_
    refine rn ?_
    refine awp_ret ?_
    cases h
    repeat (first | refine then_ret ?_ | refine inBlock_ret ?_ | refine cut_r ?_)
    exact rr rfl rfl rfl
end

/-- `strings.HasPrefix` -/
def dstrings_HasPrefix (fu : Nat) (s1 : Str) (prefix1 : Str) : Option Bool :=
  (dstringslite_HasPrefix fu s1 prefix1).bind fun x1 => some x1
section
attribute [local irreducible] awp aops DP PCall ACall Decidable.decide
theorem dstrings_HasPrefix_l {fu : Nat} {s1 : Str} {prefix1 : Str} {r : Bool} (h : dstrings_HasPrefix fu s1 prefix1 = some r) : PCall Try.prog 86 [.str (sB s1), .str (sB prefix1)] (· = .bool r) := by
  rw [dstrings_HasPrefix] at h
  refine pcall_body Try.func86 rfl (by kernel_rfl) (by rfl) ?_
  refine awp_seq ?_
  refine awp_region ?_
  refine rv rfl rfl ?_
  refine rn ?_
  refine awp_seq ?_
  refine awp_region ?_
  refine rvs 2 rfl ?_
  obtain ⟨x1, hx1, h⟩ := bi h
  refine rc1 rfl rfl rfl (dstringslite_HasPrefix_l hx1) ?_
  refine rv rfl rfl ?_
  refine rn ?_
  refine awp_ret ?_
  cases h
  repeat (first | refine then_ret ?_ | refine inBlock_ret ?_ | refine cut_r ?_)
  exact rr rfl rfl rfl
end

/-- `cmp.isNaN[int64]` -/
def dcmp_isNaN_int64 (fu : Nat) (x1 : Int) : Option Bool :=
  some (x1 != x1)
section
attribute [local irreducible] awp aops DP PCall ACall Decidable.decide
theorem dcmp_isNaN_int64_l {fu : Nat} {x1 : Int} {r : Bool} (h : dcmp_isNaN_int64 fu x1 = some r) : PCall Try.prog 102 [.int .i64 x1] (· = .bool r) := by
  rw [dcmp_isNaN_int64] at h
  refine pcall_body Try.func102 rfl (by kernel_rfl) (by rfl) ?_
  refine awp_seq ?_
  refine awp_region ?_
  refine rv rfl rfl ?_
  refine rn ?_
  refine awp_seq ?_
  refine awp_region ?_
  refine rvs 4 rfl ?_
  refine rn ?_
  refine awp_ret ?_
  cases h
  repeat (first | refine then_ret ?_ | refine inBlock_ret ?_ | refine cut_r ?_)
  exact rr rfl rfl rfl
end

/-- `cmp.Compare[int64]` -/
def dcmp_Compare_int64 (fu : Nat) (x1 : Int) (y1 : Int) : Option Int :=
  (dcmp_isNaN_int64 fu x1).bind fun xNaN1 => (dcmp_isNaN_int64 fu y1).bind fun yNaN1 => bif xNaN1 then (bif yNaN1 then some 0 else some (-1)) else (bif yNaN1 then some 1 else (bif (decide (x1 < y1)) then some (-1) else (bif (decide (x1 > y1)) then some 1 else some 0)))
section
attribute [local irreducible] awp aops DP PCall ACall Decidable.decide
theorem dcmp_Compare_int64_l {fu : Nat} {x1 : Int} {y1 : Int} {r : Int} (h : dcmp_Compare_int64 fu x1 y1 = some r) : PCall Try.prog 97 [.int .i64 x1, .int .i64 y1] (· = .int .i64 r) := by
  rw [dcmp_Compare_int64] at h
  refine pcall_body Try.func97 rfl (by kernel_rfl) (by rfl) ?_
  refine awp_seq ?_
  refine awp_region ?_
  refine rv rfl rfl ?_
  refine rn ?_
  refine awp_seq ?_
  refine awp_region ?_
  refine rv rfl rfl ?_
  obtain ⟨xNaN1, hx1, h⟩ := bi h
  refine rc1 rfl rfl rfl (dcmp_isNaN_int64_l hx1) ?_
  refine rv rfl rfl ?_
  refine rn ?_
  refine awp_seq ?_
  refine awp_region ?_
  refine rv rfl rfl ?_
  obtain ⟨yNaN1, hx2, h⟩ := bi h
  refine rc1 rfl rfl rfl (dcmp_isNaN_int64_l hx2) ?_
  refine rv rfl rfl ?_
  refine rn ?_
  refine awp_seq ?_
  refine awp_seq ?_
  refine awp_region ?_
  refine rv rfl rfl ?_
  refine rn ?_
  refine cs_ rfl (fun hc => ?_) (fun hc => ?_)
  · have h := cT hc h
    refine awp_seq ?_
    refine awp_seq ?_
    refine awp_region ?_
    refine rv rfl rfl ?_
    refine rn ?_
    refine cs_ rfl (fun hc => ?_) (fun hc => ?_)
    · have h := cT hc h
      refine awp_seq ?_
      refine awp_region ?_
      refine rv rfl rfl ?_
      refine rn ?_
      refine awp_ret ?_
      cases h
      repeat (first | refine then_ret ?_ | refine inBlock_ret ?_ | refine cut_r ?_)
      exact rr rfl rfl rfl
    · have h := cF hc h
      refine awp_skip ?_
      refine awp_seq ?_
      refine awp_region ?_
      refine rv rfl rfl ?_
      refine rn ?_
      refine awp_ret ?_
      cases h
      repeat (first | refine then_ret ?_ | refine inBlock_ret ?_ | refine cut_r ?_)
      exact rr rfl rfl rfl
  · have h := cF hc h
    refine awp_skip ?_
    refine awp_seq ?_
    refine awp_seq ?_
    refine awp_region ?_
    refine rv rfl rfl ?_
    refine rn ?_
    refine cs_ rfl (fun hc => ?_) (fun hc => ?_)
    · have h := cT hc h
      refine awp_seq ?_
      refine awp_region ?_
      refine rv rfl rfl ?_
      refine rn ?_
      refine awp_ret ?_
      cases h
      repeat (first | refine then_ret ?_ | refine inBlock_ret ?_ | refine cut_r ?_)
      exact rr rfl rfl rfl
    · have h := cF hc h
      refine awp_skip ?_
      refine awp_seq ?_
      refine awp_seq ?_
      refine awp_region ?_
      refine rvs 3 rfl ?_
      refine rn ?_
      refine cs_ rfl (fun hc => ?_) (fun hc => ?_)
      · have h := cT hc h
        refine awp_seq ?_
        refine awp_region ?_
        refine rv rfl rfl ?_
        refine rn ?_
        refine awp_ret ?_
        cases h
        repeat (first | refine then_ret ?_ | refine inBlock_ret ?_ | refine cut_r ?_)
        exact rr rfl rfl rfl
      · have h := cF hc h
        refine awp_skip ?_
        refine awp_seq ?_
        refine awp_seq ?_
        refine awp_region ?_
        refine rvs 3 rfl ?_
        refine rn ?_
        refine cs_ rfl (fun hc => ?_) (fun hc => ?_)
        · have h := cT hc h
          refine awp_seq ?_
          refine awp_region ?_
          refine rv rfl rfl ?_
          refine rn ?_
          refine awp_ret ?_
          cases h
          repeat (first | refine then_ret ?_ | refine inBlock_ret ?_ | refine cut_r ?_)
          exact rr rfl rfl rfl
        · have h := cF hc h
          refine awp_skip ?_
          refine awp_seq ?_
          refine awp_region ?_
          refine rv rfl rfl ?_
          refine rn ?_
          refine awp_ret ?_
          cases h
          repeat (first | refine then_ret ?_ | refine inBlock_ret ?_ | refine cut_r ?_)
          exact rr rfl rfl rfl
end

/-- `slices.IndexFunc[[]plover/api.Filter,plover/api.Filter]` -/
def dslices_IndexFunc_Filter (fu : Nat) (s1 : List tFilter) (f1 : tFilter → Option Bool) : Option Int :=
  (loopD (ε := Int) (τ := Unit ⊕ Int) (fun (x1 : Int) => (bif (decide (x1 < (s1.length : Int))) then ((gi s1 x1).bind fun x3 => match x3 with | .mk kind1 name1 op1 vals1 l1 => (f1 (tFilter.mk kind1 name1 op1 vals1 l1)).bind fun x4 => bif x4 then some (Sum.inr (Sum.inr x1)) else some (Sum.inl (W (x1 + 1)))) else some (Sum.inr (Sum.inl ())))) fu 0).bind fun o => kS o fun (_ : Unit) => some (-1)
section
attribute [local irreducible] awp aops DP PCall ACall Decidable.decide
theorem dslices_IndexFunc_Filter_l {fu : Nat} {s1 : List tFilter} {f1 : tFilter → Option Bool} {r : Int} {k_f1 : FuncId} {cs_f1 : List AV} (hl_f1 : Cl cs_f1) (hf_f1 : ∀ {a0 r}, f1 a0 = some r → PCall Try.prog k_f1 ([.agg (c_tFilter a0)] ++ cs_f1) (· = .bool r)) (h : dslices_IndexFunc_Filter fu s1 f1 = some r) : PCall Try.prog 81 [.sl (cs_tFilter s1), .fn k_f1 cs_f1] (· = .int .i64 r) := by
  rw [dslices_IndexFunc_Filter] at h
  refine pcall_body Try.func81 rfl (by kernel_rfl) (by rfl) ?_
  refine awp_seq ?_
  refine awp_region ?_
  refine rv rfl rfl ?_
  refine rn ?_
  refine awp_seq ?_
  refine awp_seq ?_
  refine awp_region ?_
  refine rv rfl rfl ?_
  refine rv rfl rfl ?_
  refine rt ((lM_tFilter s1)) ?_
  refine rv rfl rfl ?_
  refine rn ?_
  obtain ⟨e1, hl2, h⟩ := bi h
  refine awp_cut1 (fun x => Sum.inl x = e1) (fun (_ : Unit) => ⟨[], [], [], 0⟩) ?_ ?_
  · refine awp_block ?_
    refine awp_loopD hl2 (fun (x1 : Int) => ⟨[(0, .sl (cs_tFilter s1)), (1, .fn k_f1 cs_f1), (7, .int .i64 (s1.length : Int)), (8, .int .i64 x1)], [], [], 0⟩) [] rfl ⟨rfl, rfl, zA rfl rfl rfl (zA rfl (AV.ren_closed (.fn _ _) hl_f1.lim).symm (limL_mono (Nat.zero_le _) _ hl_f1.lim) (zA rfl rfl rfl (zA rfl rfl rfl (trivial)))), trivial, trivial⟩ ?_
    intro x1 o5 ho3 hE4
    change awp _ _ _ _ _ ⟨_, _, _, _⟩
    refine awp_seq ?_
    refine awp_region ?_
    refine rv rfl rfl ?_
    refine rn ?_
    refine awp_seq ?_
    refine cs_ rfl (fun hc => ?_) (fun hc => ?_)
    · have ho3 := cT hc ho3
      refine awp_skip ?_
      refine awp_seq ?_
      refine awp_block ?_
      refine awp_seq ?_
      refine awp_region ?_
      refine rvs 2 rfl ?_
      refine rn ?_
      refine awp_seq ?_
      refine awp_region ?_
      refine rv' rfl rfl ?_
      refine rvs 2 rfl ?_
      obtain ⟨x3, hx6, ho3⟩ := bi ho3
      refine ri rfl rfl rfl rfl rfl rfl (gi0 hx6) (giM_tFilter hx6) (wM_tFilter _) ?_
      obtain ⟨kind1, name1, op1, vals1, l1⟩ := x3
      refine rv rfl rfl ?_
      obtain ⟨x4, hx7, ho3⟩ := bi ho3
      refine rcf rfl rfl hl_f1 rfl (hf_f1 hx7) ?_
      refine rn ?_
      refine cs_ rfl (fun hc => ?_) (fun hc => ?_)
      · have ho3 := cT hc ho3
        refine awp_seq ?_
        refine awp_region ?_
        refine rvs 2 rfl ?_
        refine rn ?_
        refine awp_ret ?_
        cases ho3
        have hq := hE4 _ rfl
        subst hq
        have h := ksr h
        subst h
        repeat (first | refine then_ret ?_ | refine inBlock_ret ?_ | refine cut_r ?_)
        exact rr rfl rfl rfl
      · have ho3 := cF hc ho3
        refine awp_skip ?_
        refine inBlock_normal ?_
        refine awp_region ?_
        refine rvs 2 rfl ?_
        refine rn ?_
        cases ho3
        exact lp_n [] rfl rfl ⟨rfl, rfl, zA rfl rfl rfl (zA rfl (AV.ren_closed (.fn _ _) hl_f1.lim).symm (limL_mono (Nat.zero_le _) _ hl_f1.lim) (zA rfl rfl rfl (zA rfl rfl rfl (trivial)))), trivial, trivial⟩
    · have ho3 := cF hc ho3
      refine awp_exit ?_
      repeat (first | refine then_exit ?_ | refine cut_x ?_ | refine inBlock_other rfl ?_)
      refine inBlock_exit ?_
      cases ho3
      have hq := hE4 _ rfl
      subst hq
      exact cut_n [] rfl rfl ⟨rfl, rfl, trivial, trivial, trivial⟩
  · rintro _ rfl
    have h := ksl h
    refine awp_seq ?_
    refine awp_region ?_
    refine rv rfl rfl ?_
    refine rn ?_
    refine awp_ret ?_
    cases h
    repeat (first | refine then_ret ?_ | refine inBlock_ret ?_ | refine cut_r ?_)
    exact rr rfl rfl rfl
end

/-- `slices.ContainsFunc[[]plover/api.Filter,plover/api.Filter]` -/
def dslices_ContainsFunc_Filter (fu : Nat) (s1 : List tFilter) (f1 : tFilter → Option Bool) : Option Bool :=
  (dslices_IndexFunc_Filter fu s1 f1).bind fun x1 => some (decide (x1 ≥ 0))
section
attribute [local irreducible] awp aops DP PCall ACall Decidable.decide
theorem dslices_ContainsFunc_Filter_l {fu : Nat} {s1 : List tFilter} {f1 : tFilter → Option Bool} {r : Bool} {k_f1 : FuncId} {cs_f1 : List AV} (hl_f1 : Cl cs_f1) (hf_f1 : ∀ {a0 r}, f1 a0 = some r → PCall Try.prog k_f1 ([.agg (c_tFilter a0)] ++ cs_f1) (· = .bool r)) (h : dslices_ContainsFunc_Filter fu s1 f1 = some r) : PCall Try.prog 48 [.sl (cs_tFilter s1), .fn k_f1 cs_f1] (· = .bool r) := by
  rw [dslices_ContainsFunc_Filter] at h
  refine pcall_body Try.func48 rfl (by kernel_rfl) (by rfl) ?_
  refine awp_seq ?_
  refine awp_region ?_
  refine rv rfl rfl ?_
  refine rn ?_
  refine awp_seq ?_
  refine awp_region ?_
  refine rv rfl rfl ?_
  refine rv' rfl rfl ?_
  obtain ⟨x1, hx1, h⟩ := bi h
  refine rcE rfl rfl (congrArg (fun z => ([.sl (cs_tFilter s1), .fn k_f1 z] : List AV)) (hl_f1.snap _)) (by simp only [limL, AV.lim, hl_f1.lim, Bool.and_true, Bool.true_and]; try rfl) (dslices_IndexFunc_Filter_l hl_f1 hf_f1 hx1) ?_
  refine rvs 2 rfl ?_
  refine rn ?_
  refine awp_ret ?_
  cases h
  repeat (first | refine then_ret ?_ | refine inBlock_ret ?_ | refine cut_r ?_)
  exact rr rfl rfl rfl
end

/-- `slices.IndexFunc[[]plover/api.Attr,plover/api.Attr]` -/
def dslices_IndexFunc_Attr (fu : Nat) (s1 : List tAttr) (f1 : tAttr → Option Bool) : Option Int :=
  (loopD (ε := Int) (τ := Unit ⊕ Int) (fun (x1 : Int) => (bif (decide (x1 < (s1.length : Int))) then ((gi s1 x1).bind fun x3 => (f1 x3).bind fun x4 => bif x4 then some (Sum.inr (Sum.inr x1)) else some (Sum.inl (W (x1 + 1)))) else some (Sum.inr (Sum.inl ())))) fu 0).bind fun o => kS o fun (_ : Unit) => some (-1)
section
attribute [local irreducible] awp aops DP PCall ACall Decidable.decide
theorem dslices_IndexFunc_Attr_l {fu : Nat} {s1 : List tAttr} {f1 : tAttr → Option Bool} {r : Int} {k_f1 : FuncId} {cs_f1 : List AV} (hl_f1 : Cl cs_f1) (hf_f1 : ∀ {a0 r}, f1 a0 = some r → PCall Try.prog k_f1 ([.agg [.str (sB a0.Name), .bool a0.Text, .int .i64 a0.N, .str (sB a0.S)]] ++ cs_f1) (· = .bool r)) (h : dslices_IndexFunc_Attr fu s1 f1 = some r) : PCall Try.prog 94 [.sl (s1.map c_tAttr), .fn k_f1 cs_f1] (· = .int .i64 r) := by
  rw [dslices_IndexFunc_Attr] at h
  refine pcall_body Try.func94 rfl (by kernel_rfl) (by rfl) ?_
  refine awp_seq ?_
  refine awp_region ?_
  refine rv rfl rfl ?_
  refine rn ?_
  refine awp_seq ?_
  refine awp_seq ?_
  refine awp_region ?_
  refine rv rfl rfl ?_
  refine rv rfl rfl ?_
  refine rt ((lM c_tAttr s1)) ?_
  refine rv rfl rfl ?_
  refine rn ?_
  obtain ⟨e1, hl2, h⟩ := bi h
  refine awp_cut1 (fun x => Sum.inl x = e1) (fun (_ : Unit) => ⟨[], [], [], 0⟩) ?_ ?_
  · refine awp_block ?_
    refine awp_loopD hl2 (fun (x1 : Int) => ⟨[(0, .sl (s1.map c_tAttr)), (1, .fn k_f1 cs_f1), (7, .int .i64 (s1.length : Int)), (8, .int .i64 x1)], [], [], 0⟩) [] rfl ⟨rfl, rfl, zA rfl rfl rfl (zA rfl (AV.ren_closed (.fn _ _) hl_f1.lim).symm (limL_mono (Nat.zero_le _) _ hl_f1.lim) (zA rfl rfl rfl (zA rfl rfl rfl (trivial)))), trivial, trivial⟩ ?_
    intro x1 o5 ho3 hE4
    change awp _ _ _ _ _ ⟨_, _, _, _⟩
    refine awp_seq ?_
    refine awp_region ?_
    refine rv rfl rfl ?_
    refine rn ?_
    refine awp_seq ?_
    refine cs_ rfl (fun hc => ?_) (fun hc => ?_)
    · have ho3 := cT hc ho3
      refine awp_skip ?_
      refine awp_seq ?_
      refine awp_block ?_
      refine awp_seq ?_
      refine awp_region ?_
      refine rvs 2 rfl ?_
      refine rn ?_
      refine awp_seq ?_
      refine awp_region ?_
      refine rv' rfl rfl ?_
      refine rvs 2 rfl ?_
      obtain ⟨x3, hx6, ho3⟩ := bi ho3
      refine ri rfl rfl rfl rfl rfl rfl (gi0 hx6) (giM c_tAttr hx6) (wM (fun _ => by rfl) _) ?_
      refine rv rfl rfl ?_
      obtain ⟨x4, hx7, ho3⟩ := bi ho3
      refine rcf rfl rfl hl_f1 rfl (hf_f1 hx7) ?_
      refine rn ?_
      refine cs_ rfl (fun hc => ?_) (fun hc => ?_)
      · have ho3 := cT hc ho3
        refine awp_seq ?_
        refine awp_region ?_
        refine rvs 2 rfl ?_
        refine rn ?_
        refine awp_ret ?_
        cases ho3
        have hq := hE4 _ rfl
        subst hq
        have h := ksr h
        subst h
        repeat (first | refine then_ret ?_ | refine inBlock_ret ?_ | refine cut_r ?_)
        exact rr rfl rfl rfl
      · have ho3 := cF hc ho3
        refine awp_skip ?_
        refine inBlock_normal ?_
        refine awp_region ?_
        refine rvs 2 rfl ?_
        refine rn ?_
        cases ho3
        exact lp_n [] rfl rfl ⟨rfl, rfl, zA rfl rfl rfl (zA rfl (AV.ren_closed (.fn _ _) hl_f1.lim).symm (limL_mono (Nat.zero_le _) _ hl_f1.lim) (zA rfl rfl rfl (zA rfl rfl rfl (trivial)))), trivial, trivial⟩
    · have ho3 := cF hc ho3
      refine awp_exit ?_
      repeat (first | refine then_exit ?_ | refine cut_x ?_ | refine inBlock_other rfl ?_)
      refine inBlock_exit ?_
      cases ho3
      have hq := hE4 _ rfl
      subst hq
      exact cut_n [] rfl rfl ⟨rfl, rfl, trivial, trivial, trivial⟩
  · rintro _ rfl
    have h := ksl h
    refine awp_seq ?_
    refine awp_region ?_
    refine rv rfl rfl ?_
    refine rn ?_
    refine awp_ret ?_
    cases h
    repeat (first | refine then_ret ?_ | refine inBlock_ret ?_ | refine cut_r ?_)
    exact rr rfl rfl rfl
end

/-- `slices.ContainsFunc[[]plover/api.Attr,plover/api.Attr]` -/
def dslices_ContainsFunc_Attr (fu : Nat) (s1 : List tAttr) (f1 : tAttr → Option Bool) : Option Bool :=
  (dslices_IndexFunc_Attr fu s1 f1).bind fun x1 => some (decide (x1 ≥ 0))
section
attribute [local irreducible] awp aops DP PCall ACall Decidable.decide
theorem dslices_ContainsFunc_Attr_l {fu : Nat} {s1 : List tAttr} {f1 : tAttr → Option Bool} {r : Bool} {k_f1 : FuncId} {cs_f1 : List AV} (hl_f1 : Cl cs_f1) (hf_f1 : ∀ {a0 r}, f1 a0 = some r → PCall Try.prog k_f1 ([.agg [.str (sB a0.Name), .bool a0.Text, .int .i64 a0.N, .str (sB a0.S)]] ++ cs_f1) (· = .bool r)) (h : dslices_ContainsFunc_Attr fu s1 f1 = some r) : PCall Try.prog 87 [.sl (s1.map c_tAttr), .fn k_f1 cs_f1] (· = .bool r) := by
  rw [dslices_ContainsFunc_Attr] at h
  refine pcall_body Try.func87 rfl (by kernel_rfl) (by rfl) ?_
  refine awp_seq ?_
  refine awp_region ?_
  refine rv rfl rfl ?_
  refine rn ?_
  refine awp_seq ?_
  refine awp_region ?_
  refine rv rfl rfl ?_
  refine rv' rfl rfl ?_
  obtain ⟨x1, hx1, h⟩ := bi h
  refine rcE rfl rfl (congrArg (fun z => ([.sl (s1.map c_tAttr), .fn k_f1 z] : List AV)) (hl_f1.snap _)) (by simp only [limL, AV.lim, hl_f1.lim, Bool.and_true, Bool.true_and]; try rfl) (dslices_IndexFunc_Attr_l hl_f1 hf_f1 hx1) ?_
  refine rvs 2 rfl ?_
  refine rn ?_
  refine awp_ret ?_
  cases h
  repeat (first | refine then_ret ?_ | refine inBlock_ret ?_ | refine cut_r ?_)
  exact rr rfl rfl rfl
end

/-- `plover/eval.stands` -/
def deval_stands (fu : Nat) (op1 : Str) (n1 : Int) : Option Bool :=
  bif (op1 == [60]) then some (decide (n1 < 0)) else (bif (op1 == [60, 61]) then some (decide (n1 ≤ 0)) else (bif (op1 == [61]) then some (n1 == 0) else (bif (op1 == [33, 61]) then some (n1 != 0) else (bif (op1 == [62, 61]) then some (decide (n1 ≥ 0)) else (bif (op1 == [62]) then some (decide (n1 > 0)) else some false)))))
section
attribute [local irreducible] awp aops DP PCall ACall Decidable.decide
theorem deval_stands_l {fu : Nat} {op1 : Str} {n1 : Int} {r : Bool} (h : deval_stands fu op1 n1 = some r) : PCall Try.prog 85 [.str (sB op1), .int .i64 n1] (· = .bool r) := by
  rw [deval_stands] at h
  refine pcall_body Try.func85 rfl (by kernel_rfl) (by rfl) ?_
  refine awp_seq ?_
  refine awp_region ?_
  refine rv rfl rfl ?_
  refine rn ?_
  refine awp_seq ?_
  refine awp_seq ?_
  refine awp_region ?_
  refine rv rfl rfl ?_
  refine rn ?_
  refine awp_block ?_
  refine awp_seq ?_
  refine awp_region ?_
  refine rv rfl rfl ?_
  refine rt (sEq op1 [60]) ?_
  refine rv rfl rfl ?_
  refine rn ?_
  refine cs_ rfl (fun hc => ?_) (fun hc => ?_)
  · have h := cT hc h
    refine awp_seq ?_
    refine awp_region ?_
    refine rvs 3 rfl ?_
    refine rn ?_
    refine awp_ret ?_
    cases h
    repeat (first | refine then_ret ?_ | refine inBlock_ret ?_ | refine cut_r ?_)
    exact rr rfl rfl rfl
  · have h := cF hc h
    refine awp_seq ?_
    refine awp_region ?_
    refine rv rfl rfl ?_
    refine rt (sEq op1 [60, 61]) ?_
    refine rv rfl rfl ?_
    refine rn ?_
    refine cs_ rfl (fun hc => ?_) (fun hc => ?_)
    · have h := cT hc h
      refine awp_seq ?_
      refine awp_region ?_
      refine rvs 3 rfl ?_
      refine rn ?_
      refine awp_ret ?_
      cases h
      repeat (first | refine then_ret ?_ | refine inBlock_ret ?_ | refine cut_r ?_)
      exact rr rfl rfl rfl
    · have h := cF hc h
      refine awp_seq ?_
      refine awp_region ?_
      refine rv rfl rfl ?_
      refine rt (sEq op1 [61]) ?_
      refine rv rfl rfl ?_
      refine rn ?_
      refine cs_ rfl (fun hc => ?_) (fun hc => ?_)
      · have h := cT hc h
        refine awp_seq ?_
        refine awp_region ?_
        refine rvs 3 rfl ?_
        refine rn ?_
        refine awp_ret ?_
        cases h
        repeat (first | refine then_ret ?_ | refine inBlock_ret ?_ | refine cut_r ?_)
        exact rr rfl rfl rfl
      · have h := cF hc h
        refine awp_seq ?_
        refine awp_region ?_
        refine rv rfl rfl ?_
        refine rt (sEq op1 [33, 61]) ?_
        refine rv rfl rfl ?_
        refine rn ?_
        refine cs_ rfl (fun hc => ?_) (fun hc => ?_)
        · have h := cT hc h
          refine awp_seq ?_
          refine awp_region ?_
          refine rvs 3 rfl ?_
          refine rn ?_
          refine awp_ret ?_
          cases h
          repeat (first | refine then_ret ?_ | refine inBlock_ret ?_ | refine cut_r ?_)
          exact rr rfl rfl rfl
        · have h := cF hc h
          refine awp_seq ?_
          refine awp_region ?_
          refine rv rfl rfl ?_
          refine rt (sEq op1 [62, 61]) ?_
          refine rv rfl rfl ?_
          refine rn ?_
          refine cs_ rfl (fun hc => ?_) (fun hc => ?_)
          · have h := cT hc h
            refine awp_seq ?_
            refine awp_region ?_
            refine rvs 3 rfl ?_
            refine rn ?_
            refine awp_ret ?_
            cases h
            repeat (first | refine then_ret ?_ | refine inBlock_ret ?_ | refine cut_r ?_)
            exact rr rfl rfl rfl
          · have h := cF hc h
            refine awp_seq ?_
            refine awp_region ?_
            refine rv rfl rfl ?_
            refine rt (sEq op1 [62]) ?_
            refine rv rfl rfl ?_
            refine rn ?_
            refine cs_ rfl (fun hc => ?_) (fun hc => ?_)
            · have h := cT hc h
              refine awp_seq ?_
              refine awp_region ?_
              refine rvs 3 rfl ?_
              refine rn ?_
              refine awp_ret ?_
              cases h
              repeat (first | refine then_ret ?_ | refine inBlock_ret ?_ | refine cut_r ?_)
              exact rr rfl rfl rfl
            · have h := cF hc h
              refine awp_skip ?_
              refine inBlock_normal ?_
              refine awp_seq ?_
              refine awp_region ?_
              refine rv rfl rfl ?_
              refine rn ?_
              refine awp_ret ?_
              cases h
              repeat (first | refine then_ret ?_ | refine inBlock_ret ?_ | refine cut_r ?_)
              exact rr rfl rfl rfl
end

/-- `plover/eval.find$1` -/
def deval_find_1 (fu : Nat) (a1 : tAttr) (c1 : Str) : Option Bool :=
  some (a1.Name == c1)
section
attribute [local irreducible] awp aops DP PCall ACall Decidable.decide
theorem deval_find_1_l {fu : Nat} {a1 : tAttr} {c1 : Str} {r : Bool} (h : deval_find_1 fu a1 c1 = some r) : PCall Try.prog 95 [.agg [.str (sB a1.Name), .bool a1.Text, .int .i64 a1.N, .str (sB a1.S)], .rd [.str (sB c1)]] (· = .bool r) := by
  rw [deval_find_1] at h
  refine pcall_body Try.func95 rfl (by kernel_rfl) (by rfl) ?_
  refine awp_seq ?_
  refine awp_region ?_
  refine rb rfl rfl ?_
  refine rv rfl rfl ?_
  refine rn ?_
  refine awp_seq ?_
  refine awp_region ?_
  refine rvs 3 rfl ?_
  refine rv rfl rfl ?_
  refine rt (sEq a1.Name c1) ?_
  refine rv rfl rfl ?_
  refine rn ?_
  refine awp_ret ?_
  cases h
  repeat (first | refine then_ret ?_ | refine inBlock_ret ?_ | refine cut_r ?_)
  exact rr rfl rfl rfl
end

/-- `plover/eval.find` -/
def deval_find (fu : Nat) (l1 : List tAttr) (name1 : Str) : Option (tAttr × Bool) :=
  (dslices_IndexFunc_Attr fu l1 (fun x0 => deval_find_1 fu x0 name1)).bind fun i1 => bif (decide (i1 < 0)) then some ((tAttr.mk [] false 0 []), false) else ((gi l1 i1).bind fun x1 => some (x1, true))
section
attribute [local irreducible] awp aops DP PCall ACall Decidable.decide
theorem deval_find_l {fu : Nat} {l1 : List tAttr} {name1 : Str} {r : tAttr × Bool} (h : deval_find fu l1 name1 = some r) : PCall Try.prog 82 [.sl (l1.map c_tAttr), .str (sB name1)] (· = .tup [.agg [.str (sB r.1.Name), .bool r.1.Text, .int .i64 r.1.N, .str (sB r.1.S)], .bool r.2]) := by
  rw [deval_find] at h
  refine pcall_body Try.func82 rfl (by kernel_rfl) (by rfl) ?_
  refine awp_seq ?_
  refine awp_region ?_
  refine rb rfl rfl ?_
  refine ra rfl rfl rfl ?_
  refine rv rfl rfl ?_
  refine rn ?_
  refine awp_seq ?_
  refine awp_region ?_
  refine rvs 2 rfl ?_
  obtain ⟨i1, hx1, h⟩ := bi h
  refine rf rfl rfl (dslices_IndexFunc_Attr_l ⟨rfl, fun _ => rfl⟩ (fun hq => deval_find_1_l hq) hx1) rfl ?_
  refine rv rfl rfl ?_
  refine rn ?_
  refine awp_seq ?_
  refine awp_seq ?_
  refine awp_region ?_
  refine rvs 2 rfl ?_
  refine rn ?_
  refine cs_ rfl (fun hc => ?_) (fun hc => ?_)
  · have h := cT hc h
    refine awp_seq ?_
    refine awp_region ?_
    refine rv rfl rfl ?_
    refine rs rfl rfl rfl rfl rfl rfl rfl ?_
    refine rv rfl rfl ?_
    refine rn ?_
    refine awp_ret ?_
    cases h
    repeat (first | refine then_ret ?_ | refine inBlock_ret ?_ | refine cut_r ?_)
    exact rr rfl rfl rfl
  · have h := cF hc h
    refine awp_skip ?_
    refine awp_seq ?_
    refine awp_region ?_
    refine rvs 2 rfl ?_
    obtain ⟨x1, hx2, h⟩ := bi h
    refine ri rfl rfl rfl rfl rfl rfl (gi0 hx2) (giM c_tAttr hx2) (wM (fun _ => by rfl) _) ?_
    refine rv rfl rfl ?_
    refine rs rfl rfl rfl rfl rfl rfl rfl ?_
    refine rv rfl rfl ?_
    refine rn ?_
    refine awp_ret ?_
    cases h
    repeat (first | refine then_ret ?_ | refine inBlock_ret ?_ | refine cut_r ?_)
    exact rr rfl rfl rfl
end

/-- `plover/eval.compare` -/
def deval_compare (fu : Nat) (a1 : tAttr) (v1 : tAttr) : Option Int :=
  bif a1.Text then ((dstrings_Compare fu a1.S v1.S).bind fun x1 => some x1) else ((dcmp_Compare_int64 fu a1.N v1.N).bind fun x2 => some x2)
section
attribute [local irreducible] awp aops DP PCall ACall Decidable.decide
theorem deval_compare_l {fu : Nat} {a1 : tAttr} {v1 : tAttr} {r : Int} (h : deval_compare fu a1 v1 = some r) : PCall Try.prog 84 [.agg [.str (sB a1.Name), .bool a1.Text, .int .i64 a1.N, .str (sB a1.S)], .agg [.str (sB v1.Name), .bool v1.Text, .int .i64 v1.N, .str (sB v1.S)]] (· = .int .i64 r) := by
  rw [deval_compare] at h
  refine pcall_body Try.func84 rfl (by kernel_rfl) (by rfl) ?_
  refine awp_seq ?_
  refine awp_region ?_
  refine rb rfl rfl ?_
  refine rb rfl rfl ?_
  refine rv rfl rfl ?_
  refine rn ?_
  refine awp_seq ?_
  refine awp_seq ?_
  refine awp_region ?_
  refine rvs 2 rfl ?_
  refine rn ?_
  refine cs_ rfl (fun hc => ?_) (fun hc => ?_)
  · have h := cT hc h
    refine awp_seq ?_
    refine awp_region ?_
    refine rvs 4 rfl ?_
    obtain ⟨x1, hx1, h⟩ := bi h
    refine rc1 rfl rfl rfl (dstrings_Compare_l hx1) ?_
    refine rv rfl rfl ?_
    refine rn ?_
    refine awp_ret ?_
    cases h
    repeat (first | refine then_ret ?_ | refine inBlock_ret ?_ | refine cut_r ?_)
    exact rr rfl rfl rfl
  · have h := cF hc h
    refine awp_skip ?_
    refine awp_seq ?_
    refine awp_region ?_
    refine rvs 4 rfl ?_
    obtain ⟨x2, hx2, h⟩ := bi h
    refine rc1 rfl rfl rfl (dcmp_Compare_int64_l hx2) ?_
    refine rv rfl rfl ?_
    refine rn ?_
    refine awp_ret ?_
    cases h
    repeat (first | refine then_ret ?_ | refine inBlock_ret ?_ | refine cut_r ?_)
    exact rr rfl rfl rfl
end

/-- `plover/eval.leaf$1` -/
def deval_leaf_1 (fu : Nat) (v1 : tAttr) (c1 : tAttr) : Option Bool :=
  bif (c1.Text == v1.Text) then ((deval_compare fu c1 v1).bind fun x1 => some (x1 == 0)) else some false
section
attribute [local irreducible] awp aops DP PCall ACall Decidable.decide
theorem deval_leaf_1_l {fu : Nat} {v1 : tAttr} {c1 : tAttr} {r : Bool} (h : deval_leaf_1 fu v1 c1 = some r) : PCall Try.prog 83 [.agg [.str (sB v1.Name), .bool v1.Text, .int .i64 v1.N, .str (sB v1.S)], .rd [.str (sB c1.Name), .bool c1.Text, .int .i64 c1.N, .str (sB c1.S)]] (· = .bool r) := by
  rw [deval_leaf_1] at h
  refine pcall_body Try.func83 rfl (by kernel_rfl) (by rfl) ?_
  refine awp_seq ?_
  refine awp_region ?_
  refine rb rfl rfl ?_
  refine rv rfl rfl ?_
  refine rn ?_
  refine awp_seq ?_
  refine awp_region ?_
  refine rvs 6 rfl ?_
  refine gs rfl rfl rfl rfl rfl (fun hg => ?_) (fun hg => ?_)
  · have h := cT hg h
    refine rv rfl rfl ?_
    refine gy rfl rfl rfl ?_
    refine rv rfl rfl ?_
    refine gy rfl rfl rfl ?_
    obtain ⟨x1, hx1, h⟩ := bi h
    refine rc1 rfl rfl rfl (deval_compare_l hx1) ?_
    refine gy rfl rfl rfl ?_
    refine rv rfl rfl ?_
    refine rvs 2 rfl ?_
    refine rn ?_
    refine awp_ret ?_
    cases h
    repeat (first | refine then_ret ?_ | refine inBlock_ret ?_ | refine cut_r ?_)
    exact rr rfl rfl rfl
  · have h := cF hg h
    refine gn rfl rfl rfl rfl rfl ?_
    refine gn rfl rfl rfl rfl rfl ?_
    refine gn rfl rfl rfl rfl rfl ?_
    refine rvs 2 rfl ?_
    refine rn ?_
    refine awp_ret ?_
    cases h
    repeat (first | refine then_ret ?_ | refine inBlock_ret ?_ | refine cut_r ?_)
    exact rr rfl rfl rfl
end

/-- `plover/eval.leaf` -/
def deval_leaf (fu : Nat) (f1 : tFilter) (l2 : List tAttr) : Option Bool :=
  match f1 with | .mk kind1 name1 op1 vals1 l1 => (deval_find fu l2 name1).bind fun is1 => (bif (!is1.2) then some true else some ((vals1.length : Int) == 0) : Option Bool).bind fun (x1 : Bool) => (bif x1 then some false else ((gi vals1 0).bind fun x2 => bif (kind1 == 4) then (bif (is1.1.Text == x2.Text) then ((deval_compare fu is1.1 x2).bind fun x3 => (deval_stands fu op1 x3).bind fun x4 => some x4) else some false) else (bif (kind1 == 5) then (bif is1.1.Text then (bif x2.Text then ((dstrings_HasPrefix fu is1.1.S x2.S).bind fun x5 => some x5) else some false) else some false) else (bif (kind1 == 6) then ((dslices_ContainsFunc_Attr fu vals1 (fun x0 => deval_leaf_1 fu x0 is1.1)).bind fun x6 => some x6) else some false))))
section
attribute [local irreducible] awp aops DP PCall ACall Decidable.decide
theorem deval_leaf_l {fu : Nat} {f1 : tFilter} {l2 : List tAttr} {r : Bool} (h : deval_leaf fu f1 l2 = some r) : PCall Try.prog 49 [.agg (c_tFilter f1), .sl (l2.map c_tAttr)] (· = .bool r) := by
  obtain ⟨kind1, name1, op1, vals1, l1⟩ := f1
  rw [deval_leaf] at h
  refine pcall_body Try.func49 rfl (by kernel_rfl) (by rfl) ?_
  refine awp_seq ?_
  refine awp_region ?_
  refine rb rfl rfl ?_
  refine rv rfl rfl ?_
  refine rn ?_
  refine awp_seq ?_
  refine awp_region ?_
  refine rvs 3 rfl ?_
  obtain ⟨is1, hx1, h⟩ := bi h
  refine rc1 rfl rfl rfl (deval_find_l hx1) ?_
  refine rvs 3 rfl ?_
  refine ra rfl rfl rfl ?_
  refine rs rfl rfl rfl rfl rfl rfl rfl ?_
  refine rv rfl rfl ?_
  refine rn ?_
  refine awp_seq ?_
  refine awp_seq ?_
  obtain ⟨o2, ho3, h⟩ := bi h
  refine awp_cut1 (fun x => x = o2) (fun (x1 : Bool) => ⟨[(2, .ptr 0 0), (5, .ptr 1 0), (23, .bool x1)], [(0, 0, .int .i64 kind1), (0, 1, .str (sB name1)), (0, 2, .str (sB op1)), (0, 3, .sl (vals1.map c_tAttr)), (0, 4, .sl (cs_tFilter l1)), (1, 0, .str (sB is1.1.Name)), (1, 1, .bool is1.1.Text), (1, 2, .int .i64 is1.1.N), (1, 3, .str (sB is1.1.S))], [], 2⟩) ?_ ?_
  · refine awp_region ?_
    refine rvs 3 rfl ?_
    refine gs rfl rfl rfl rfl rfl (fun hg => ?_) (fun hg => ?_)
    · have ho3 := cF hg ho3
      refine rv rfl rfl ?_
      refine gy rfl rfl rfl ?_
      refine rv rfl rfl ?_
      refine gy rfl rfl rfl ?_
      refine rv rfl rfl ?_
      refine rt ((lM c_tAttr vals1)) ?_
      refine gy rfl rfl rfl ?_
      refine rv rfl rfl ?_
      refine rv rfl rfl ?_
      refine rn ?_
      cases ho3
      exact cut_n [0, 1] rfl rfl ⟨rfl, rfl, zA rfl rfl rfl (zA rfl rfl rfl (zA rfl rfl rfl (trivial))), zC rfl rfl rfl rfl (zC rfl rfl rfl rfl (zC rfl rfl rfl rfl (zC rfl rfl rfl rfl (zC rfl rfl rfl rfl (zC rfl rfl rfl rfl (zC rfl rfl rfl rfl (zC rfl rfl rfl rfl (zC rfl rfl rfl rfl (trivial))))))))), trivial⟩
    · have ho3 := cT hg ho3
      refine gn rfl rfl rfl rfl rfl ?_
      refine gn rfl rfl rfl rfl rfl ?_
      refine gn rfl rfl rfl rfl rfl ?_
      refine rv rfl rfl ?_
      refine rn ?_
      cases ho3
      exact cut_n [0, 1] rfl rfl ⟨rfl, rfl, zA rfl rfl rfl (zA rfl rfl rfl (zA rfl rfl rfl (trivial))), zC rfl rfl rfl rfl (zC rfl rfl rfl rfl (zC rfl rfl rfl rfl (zC rfl rfl rfl rfl (zC rfl rfl rfl rfl (zC rfl rfl rfl rfl (zC rfl rfl rfl rfl (zC rfl rfl rfl rfl (zC rfl rfl rfl rfl (trivial))))))))), trivial⟩
  · rintro x1 rfl
    change awp _ _ _ _ _ ⟨_, _, _, _⟩
    refine cs_ rfl (fun hc => ?_) (fun hc => ?_)
    · have h := cT hc h
      refine awp_seq ?_
      refine awp_region ?_
      refine rv rfl rfl ?_
      refine rn ?_
      refine awp_ret ?_
      cases h
      repeat (first | refine then_ret ?_ | refine inBlock_ret ?_ | refine cut_r ?_)
      exact rr rfl rfl rfl
    · have h := cF hc h
      refine awp_skip ?_
      refine awp_seq ?_
      refine awp_region ?_
      refine rvs 2 rfl ?_
      obtain ⟨x2, hx4, h⟩ := bi h
      refine ri rfl rfl rfl rfl rfl rfl (gi0 hx4) (giM c_tAttr hx4) (wM (fun _ => by rfl) _) ?_
      refine rv rfl rfl ?_
      refine ra rfl rfl rfl ?_
      refine rs rfl rfl rfl rfl rfl rfl rfl ?_
      refine rn ?_
      refine awp_seq ?_
      refine awp_region ?_
      refine rvs 2 rfl ?_
      refine rn ?_
      refine awp_seq ?_
      refine awp_seq ?_
      refine awp_region ?_
      refine rvs 2 rfl ?_
      refine rn ?_
      refine awp_block ?_
      refine awp_seq ?_
      refine awp_region ?_
      refine rvs 2 rfl ?_
      refine rn ?_
      refine cs_ rfl (fun hc => ?_) (fun hc => ?_)
      · have h := cT hc h
        refine awp_seq ?_
        refine awp_dp (m := 13) Try.mix (by kernel_rfl) (by kernel_rfl) (by kernel_rfl) (by kernel_rfl) (by kernel_rfl) (by kernel_rfl) (by kernel_rfl) ?_
        refine dv rfl rfl (fun _ => rfl) ?_
        refine dv rfl rfl (fun _ => rfl) ?_
        refine dv rfl rfl (fun _ => rfl) ?_
        refine dv rfl rfl (fun _ => rfl) ?_
        refine dv rfl rfl (fun _ => rfl) ?_
        refine dv rfl rfl (fun _ => rfl) ?_
        refine ds rfl rfl (fun hg => ?_) (fun hg => ?_)
        · have h := cT hg h
          refine dv rfl rfl (fun _ => rfl) ?_
          refine dv rfl rfl (fun _ => rfl) ?_
          refine dv rfl rfl (fun _ => rfl) ?_
          refine dv rfl rfl (fun _ => rfl) ?_
          obtain ⟨x3, hx5, h⟩ := bi h
          refine dc rfl rfl rfl rfl (fun _ => rfl) (fun _ => (deval_compare_l hx5)) ?_
          obtain ⟨x4, hx6, h⟩ := bi h
          refine dc rfl rfl rfl rfl (fun _ => rfl) (fun _ => (deval_stands_l hx6)) ?_
          refine dv rfl rfl (fun _ => rfl) ?_
          refine dn ?_
          refine rv rfl rfl ?_
          refine rn ?_
          refine awp_ret ?_
          cases h
          repeat (first | refine then_ret ?_ | refine inBlock_ret ?_ | refine cut_r ?_)
          exact rr rfl rfl rfl
        · have h := cF hg h
          refine dno rfl rfl ?_
          refine dno rfl rfl ?_
          refine dno rfl rfl ?_
          refine dno rfl rfl ?_
          refine dno rfl rfl ?_
          refine dno rfl rfl ?_
          refine dv rfl rfl (fun _ => rfl) ?_
          refine dn ?_
          refine rv rfl rfl ?_
          refine rn ?_
          refine awp_ret ?_
          cases h
          repeat (first | refine then_ret ?_ | refine inBlock_ret ?_ | refine cut_r ?_)
          exact rr rfl rfl rfl
      · have h := cF hc h
        refine awp_seq ?_
        refine awp_region ?_
        refine rvs 2 rfl ?_
        refine rn ?_
        refine cs_ rfl (fun hc => ?_) (fun hc => ?_)
        · have h := cT hc h
          refine awp_seq ?_
          refine awp_region ?_
          refine rvs 3 rfl ?_
          refine gs rfl rfl rfl rfl rfl (fun hg => ?_) (fun hg => ?_)
          · have h := cT hg h
            refine rv rfl rfl ?_
            refine gy rfl rfl rfl ?_
            refine rv rfl rfl ?_
            refine rvs 2 rfl ?_
            refine gs rfl rfl rfl rfl rfl (fun hg => ?_) (fun hg => ?_)
            · have h := cT hg h
              refine rv rfl rfl ?_
              refine gy rfl rfl rfl ?_
              refine rv rfl rfl ?_
              refine gy rfl rfl rfl ?_
              refine rv rfl rfl ?_
              refine gy rfl rfl rfl ?_
              refine rv rfl rfl ?_
              refine gy rfl rfl rfl ?_
              obtain ⟨x5, hx7, h⟩ := bi h
              refine rc1 rfl rfl rfl (dstrings_HasPrefix_l hx7) ?_
              refine rvs 2 rfl ?_
              refine rn ?_
              refine awp_ret ?_
              cases h
              repeat (first | refine then_ret ?_ | refine inBlock_ret ?_ | refine cut_r ?_)
              exact rr rfl rfl rfl
            · have h := cF hg h
              refine gn rfl rfl rfl rfl rfl ?_
              refine gn rfl rfl rfl rfl rfl ?_
              refine gn rfl rfl rfl rfl rfl ?_
              refine gn rfl rfl rfl rfl rfl ?_
              refine rvs 2 rfl ?_
              refine rn ?_
              refine awp_ret ?_
              cases h
              repeat (first | refine then_ret ?_ | refine inBlock_ret ?_ | refine cut_r ?_)
              exact rr rfl rfl rfl
          · have h := cF hg h
            refine gn rfl rfl rfl rfl rfl ?_
            refine rvs 2 rfl ?_
            refine gn rfl rfl rfl rfl rfl ?_
            refine gn rfl rfl rfl rfl rfl ?_
            refine gn rfl rfl rfl rfl rfl ?_
            refine gn rfl rfl rfl rfl rfl ?_
            refine gn rfl rfl rfl rfl rfl ?_
            refine rvs 2 rfl ?_
            refine rn ?_
            refine awp_ret ?_
            cases h
            repeat (first | refine then_ret ?_ | refine inBlock_ret ?_ | refine cut_r ?_)
            exact rr rfl rfl rfl
        · have h := cF hc h
          refine awp_seq ?_
          refine awp_region ?_
          refine rvs 2 rfl ?_
          refine rn ?_
          refine cs_ rfl (fun hc => ?_) (fun hc => ?_)
          · have h := cT hc h
            refine awp_seq ?_
            refine awp_region ?_
            refine rvs 3 rfl ?_
            obtain ⟨x6, hx8, h⟩ := bi h
            refine rf rfl rfl (dslices_ContainsFunc_Attr_l ⟨rfl, fun _ => rfl⟩ (fun hq => deval_leaf_1_l hq) hx8) rfl ?_
            refine rv rfl rfl ?_
            refine rn ?_
            refine awp_ret ?_
            cases h
            repeat (first | refine then_ret ?_ | refine inBlock_ret ?_ | refine cut_r ?_)
            exact rr rfl rfl rfl
          · have h := cF hc h
            refine awp_skip ?_
            refine inBlock_normal ?_
            refine awp_seq ?_
            refine awp_region ?_
            refine rv rfl rfl ?_
            refine rn ?_
            refine awp_ret ?_
            cases h
            repeat (first | refine then_ret ?_ | refine inBlock_ret ?_ | refine cut_r ?_)
            exact rr rfl rfl rfl
end

mutual
def deval_Holds : Nat → tFilter → (List tAttr) → Option Bool
  | 0, _, _ => none
  | fu + 1, f1, l2 => match f1 with | .mk kind1 name1 op1 vals1 l1 => bif (kind1 == 7) then some true else (bif (kind1 == 3) then ((bif (decide ((l1.length : Int) > 0)) then ((gi l1 0).bind fun x2 => match x2 with | .mk kind2 name2 op2 vals2 l3 => (deval_Holds_2 fu (tFilter.mk kind2 name2 op2 vals2 l3) l2).bind fun x3 => some x3) else some false : Option Bool).bind fun (x1 : Bool) => some x1) else (bif (kind1 == 1) then ((dslices_ContainsFunc_Filter fu l1 (fun x0 => deval_Holds_2 fu x0 l2)).bind fun x4 => some (!x4)) else (bif (kind1 == 2) then ((dslices_ContainsFunc_Filter fu l1 (fun x0 => deval_Holds_1 fu x0 l2)).bind fun x5 => some x5) else ((deval_leaf fu (tFilter.mk kind1 name1 op1 vals1 l1) l2).bind fun x6 => some x6))))
def deval_Holds_1 : Nat → tFilter → (List tAttr) → Option Bool
  | 0, _, _ => none
  | fu + 1, x1, c1 => match x1 with | .mk kind1 name1 op1 vals1 l1 => (deval_Holds fu (tFilter.mk kind1 name1 op1 vals1 l1) c1).bind fun x2 => some x2
def deval_Holds_2 : Nat → tFilter → (List tAttr) → Option Bool
  | 0, _, _ => none
  | fu + 1, x1, c1 => match x1 with | .mk kind1 name1 op1 vals1 l1 => (deval_Holds fu (tFilter.mk kind1 name1 op1 vals1 l1) c1).bind fun x2 => some (!x2)
end
section
attribute [local irreducible] awp aops DP PCall ACall Decidable.decide
/-- `plover/eval.Holds` -/
theorem deval_Holds_s {fu : Nat} (ih_deval_Holds : ∀ {f1 l2} {r : Bool}, deval_Holds fu f1 l2 = some r → PCall Try.prog 28 [.agg (c_tFilter f1), .sl (l2.map c_tAttr)] (· = .bool r)) (ih_deval_Holds_1 : ∀ {x1 c1} {r : Bool}, deval_Holds_1 fu x1 c1 = some r → PCall Try.prog 46 [.agg (c_tFilter x1), .rd [.sl (c1.map c_tAttr)]] (· = .bool r)) (ih_deval_Holds_2 : ∀ {x1 c1} {r : Bool}, deval_Holds_2 fu x1 c1 = some r → PCall Try.prog 47 [.agg (c_tFilter x1), .rd [.sl (c1.map c_tAttr)]] (· = .bool r)) : ∀ {f1 l2} {r : Bool}, deval_Holds (fu + 1) f1 l2 = some r → PCall Try.prog 28 [.agg (c_tFilter f1), .sl (l2.map c_tAttr)] (· = .bool r) := by
  intro f1 l2 r h
  obtain ⟨kind1, name1, op1, vals1, l1⟩ := f1
  rw [deval_Holds] at h
  refine pcall_body Try.func28 rfl (by kernel_rfl) (by rfl) ?_
  refine awp_seq ?_
  refine awp_region ?_
  refine rb rfl rfl ?_
  refine rb rfl rfl ?_
  refine rv rfl rfl ?_
  refine rn ?_
  refine awp_seq ?_
  refine awp_region ?_
  refine rvs 2 rfl ?_
  refine rn ?_
  refine awp_seq ?_
  refine awp_region ?_
  refine rvs 2 rfl ?_
  refine rn ?_
  refine awp_seq ?_
  refine awp_seq ?_
  refine awp_region ?_
  refine rvs 2 rfl ?_
  refine rn ?_
  refine awp_block ?_
  refine awp_seq ?_
  refine awp_region ?_
  refine rvs 2 rfl ?_
  refine rn ?_
  refine cs_ rfl (fun hc => ?_) (fun hc => ?_)
  · have h := cT hc h
    refine awp_seq ?_
    refine awp_region ?_
    refine rv rfl rfl ?_
    refine rn ?_
    refine awp_ret ?_
    cases h
    repeat (first | refine then_ret ?_ | refine inBlock_ret ?_ | refine cut_r ?_)
    exact rr rfl rfl rfl
  · have h := cF hc h
    refine awp_seq ?_
    refine awp_region ?_
    refine rvs 2 rfl ?_
    refine rn ?_
    refine cs_ rfl (fun hc => ?_) (fun hc => ?_)
    · have h := cT hc h
      refine awp_seq ?_
      obtain ⟨o1, ho2, h⟩ := bi h
      refine awp_cut1 (fun x => x = o1) (fun (x1 : Bool) => ⟨[(4, .bool x1)], [], [], 0⟩) ?_ ?_
      · refine awp_region ?_
        refine rvs 2 rfl ?_
        refine rv rfl rfl ?_
        refine rt ((lM_tFilter l1)) ?_
        refine rvs 2 rfl ?_
        refine gs rfl rfl rfl rfl rfl (fun hg => ?_) (fun hg => ?_)
        · have ho2 := cT hg ho2
          refine rv rfl rfl ?_
          refine gy rfl rfl rfl ?_
          refine rv rfl rfl ?_
          refine gy rfl rfl rfl ?_
          refine rv rfl rfl ?_
          refine gy rfl rfl rfl ?_
          obtain ⟨x2, hx3, ho2⟩ := bi ho2
          refine ri rfl rfl rfl rfl rfl rfl (gi0 hx3) (giM_tFilter hx3) (wM_tFilter _) ?_
          obtain ⟨kind2, name2, op2, vals2, l3⟩ := x2
          refine gy rfl rfl rfl ?_
          refine rv rfl rfl ?_
          refine gy rfl rfl rfl ?_
          obtain ⟨x3, hx4, ho2⟩ := bi ho2
          refine rf rfl rfl (ih_deval_Holds_2 hx4) rfl ?_
          refine rvs 2 rfl ?_
          refine rn ?_
          cases ho2
          exact cut_n [] rfl rfl ⟨rfl, rfl, zA rfl rfl rfl (trivial), trivial, trivial⟩
        · have ho2 := cF hg ho2
          refine gn rfl rfl rfl rfl rfl ?_
          refine gn rfl rfl rfl rfl rfl ?_
          refine gn rfl rfl rfl rfl rfl ?_
          refine gn rfl rfl rfl rfl rfl ?_
          refine gn rfl rfl rfl rfl rfl ?_
          refine rvs 2 rfl ?_
          refine rn ?_
          cases ho2
          exact cut_n [] rfl rfl ⟨rfl, rfl, zA rfl rfl rfl (trivial), trivial, trivial⟩
      · rintro x1 rfl
        change awp _ _ _ _ _ ⟨_, _, _, _⟩
        refine awp_ret ?_
        cases h
        repeat (first | refine then_ret ?_ | refine inBlock_ret ?_ | refine cut_r ?_)
        exact rr rfl rfl rfl
    · have h := cF hc h
      refine awp_seq ?_
      refine awp_region ?_
      refine rvs 2 rfl ?_
      refine rn ?_
      refine cs_ rfl (fun hc => ?_) (fun hc => ?_)
      · have h := cT hc h
        refine awp_seq ?_
        refine awp_region ?_
        refine rvs 3 rfl ?_
        obtain ⟨x4, hx5, h⟩ := bi h
        refine rf rfl rfl (dslices_ContainsFunc_Filter_l ⟨rfl, fun _ => rfl⟩ (fun hq => ih_deval_Holds_2 hq) hx5) rfl ?_
        refine rvs 2 rfl ?_
        refine rn ?_
        refine awp_ret ?_
        cases h
        repeat (first | refine then_ret ?_ | refine inBlock_ret ?_ | refine cut_r ?_)
        exact rr rfl rfl rfl
      · have h := cF hc h
        refine awp_seq ?_
        refine awp_region ?_
        refine rvs 2 rfl ?_
        refine rn ?_
        refine cs_ rfl (fun hc => ?_) (fun hc => ?_)
        · have h := cT hc h
          refine awp_seq ?_
          refine awp_region ?_
          refine rvs 3 rfl ?_
          obtain ⟨x5, hx6, h⟩ := bi h
          refine rf rfl rfl (dslices_ContainsFunc_Filter_l ⟨rfl, fun _ => rfl⟩ (fun hq => ih_deval_Holds_1 hq) hx6) rfl ?_
          refine rv rfl rfl ?_
          refine rn ?_
          refine awp_ret ?_
          cases h
          repeat (first | refine then_ret ?_ | refine inBlock_ret ?_ | refine cut_r ?_)
          exact rr rfl rfl rfl
        · have h := cF hc h
          refine awp_skip ?_
          refine inBlock_normal ?_
          refine awp_seq ?_
          refine awp_region ?_
          refine rvs 2 rfl ?_
          obtain ⟨x6, hx7, h⟩ := bi h
          refine rc1 rfl rfl rfl (deval_leaf_l hx7) ?_
          refine rv rfl rfl ?_
          refine rn ?_
          refine awp_ret ?_
          cases h
          repeat (first | refine then_ret ?_ | refine inBlock_ret ?_ | refine cut_r ?_)
          exact rr rfl rfl rfl
end

section
attribute [local irreducible] awp aops DP PCall ACall Decidable.decide
/-- `plover/eval.Holds$1` -/
theorem deval_Holds_1_s {fu : Nat} (ih_deval_Holds : ∀ {f1 l2} {r : Bool}, deval_Holds fu f1 l2 = some r → PCall Try.prog 28 [.agg (c_tFilter f1), .sl (l2.map c_tAttr)] (· = .bool r)) (ih_deval_Holds_1 : ∀ {x1 c1} {r : Bool}, deval_Holds_1 fu x1 c1 = some r → PCall Try.prog 46 [.agg (c_tFilter x1), .rd [.sl (c1.map c_tAttr)]] (· = .bool r)) (ih_deval_Holds_2 : ∀ {x1 c1} {r : Bool}, deval_Holds_2 fu x1 c1 = some r → PCall Try.prog 47 [.agg (c_tFilter x1), .rd [.sl (c1.map c_tAttr)]] (· = .bool r)) : ∀ {x1 c1} {r : Bool}, deval_Holds_1 (fu + 1) x1 c1 = some r → PCall Try.prog 46 [.agg (c_tFilter x1), .rd [.sl (c1.map c_tAttr)]] (· = .bool r) := by
  intro x1 c1 r h
  obtain ⟨kind1, name1, op1, vals1, l1⟩ := x1
  rw [deval_Holds_1] at h
  refine pcall_body Try.func46 rfl (by kernel_rfl) (by rfl) ?_
  refine awp_seq ?_
  refine awp_region ?_
  refine rb rfl rfl ?_
  refine rv rfl rfl ?_
  refine rn ?_
  refine awp_seq ?_
  refine awp_region ?_
  refine rvs 2 rfl ?_
  obtain ⟨x2, hx1, h⟩ := bi h
  refine rc1 rfl rfl rfl (ih_deval_Holds hx1) ?_
  refine rv rfl rfl ?_
  refine rn ?_
  refine awp_ret ?_
  cases h
  repeat (first | refine then_ret ?_ | refine inBlock_ret ?_ | refine cut_r ?_)
  exact rr rfl rfl rfl
end

section
attribute [local irreducible] awp aops DP PCall ACall Decidable.decide
/-- `plover/eval.Holds$2` -/
theorem deval_Holds_2_s {fu : Nat} (ih_deval_Holds : ∀ {f1 l2} {r : Bool}, deval_Holds fu f1 l2 = some r → PCall Try.prog 28 [.agg (c_tFilter f1), .sl (l2.map c_tAttr)] (· = .bool r)) (ih_deval_Holds_1 : ∀ {x1 c1} {r : Bool}, deval_Holds_1 fu x1 c1 = some r → PCall Try.prog 46 [.agg (c_tFilter x1), .rd [.sl (c1.map c_tAttr)]] (· = .bool r)) (ih_deval_Holds_2 : ∀ {x1 c1} {r : Bool}, deval_Holds_2 fu x1 c1 = some r → PCall Try.prog 47 [.agg (c_tFilter x1), .rd [.sl (c1.map c_tAttr)]] (· = .bool r)) : ∀ {x1 c1} {r : Bool}, deval_Holds_2 (fu + 1) x1 c1 = some r → PCall Try.prog 47 [.agg (c_tFilter x1), .rd [.sl (c1.map c_tAttr)]] (· = .bool r) := by
  intro x1 c1 r h
  obtain ⟨kind1, name1, op1, vals1, l1⟩ := x1
  rw [deval_Holds_2] at h
  refine pcall_body Try.func47 rfl (by kernel_rfl) (by rfl) ?_
  refine awp_seq ?_
  refine awp_region ?_
  refine rb rfl rfl ?_
  refine rv rfl rfl ?_
  refine rn ?_
  refine awp_seq ?_
  refine awp_region ?_
  refine rvs 2 rfl ?_
  obtain ⟨x2, hx1, h⟩ := bi h
  refine rc1 rfl rfl rfl (ih_deval_Holds hx1) ?_
  refine rvs 2 rfl ?_
  refine rn ?_
  refine awp_ret ?_
  cases h
  repeat (first | refine then_ret ?_ | refine inBlock_ret ?_ | refine cut_r ?_)
  exact rr rfl rfl rfl
end

theorem rec_deval_Holds : ∀ fu : Nat, (∀ {f1 l2} {r : Bool}, deval_Holds fu f1 l2 = some r → PCall Try.prog 28 [.agg (c_tFilter f1), .sl (l2.map c_tAttr)] (· = .bool r)) ∧ (∀ {x1 c1} {r : Bool}, deval_Holds_1 fu x1 c1 = some r → PCall Try.prog 46 [.agg (c_tFilter x1), .rd [.sl (c1.map c_tAttr)]] (· = .bool r)) ∧ (∀ {x1 c1} {r : Bool}, deval_Holds_2 fu x1 c1 = some r → PCall Try.prog 47 [.agg (c_tFilter x1), .rd [.sl (c1.map c_tAttr)]] (· = .bool r))
  | 0 => ⟨fun h => by simp [deval_Holds] at h, fun h => by simp [deval_Holds_1] at h, fun h => by simp [deval_Holds_2] at h⟩
  | fu + 1 => by
    obtain ⟨i0, i1, i2⟩ := rec_deval_Holds fu
    exact ⟨deval_Holds_s i0 i1 i2, deval_Holds_1_s i0 i1 i2, deval_Holds_2_s i0 i1 i2⟩
theorem deval_Holds_l {fu : Nat} : ∀ {f1 l2} {r : Bool}, deval_Holds fu f1 l2 = some r → PCall Try.prog 28 [.agg (c_tFilter f1), .sl (l2.map c_tAttr)] (· = .bool r) := (rec_deval_Holds fu).1
theorem deval_Holds_1_l {fu : Nat} : ∀ {x1 c1} {r : Bool}, deval_Holds_1 fu x1 c1 = some r → PCall Try.prog 46 [.agg (c_tFilter x1), .rd [.sl (c1.map c_tAttr)]] (· = .bool r) := (rec_deval_Holds fu).2.1
theorem deval_Holds_2_l {fu : Nat} : ∀ {x1 c1} {r : Bool}, deval_Holds_2 fu x1 c1 = some r → PCall Try.prog 47 [.agg (c_tFilter x1), .rd [.sl (c1.map c_tAttr)]] (· = .bool r) := (rec_deval_Holds fu).2.2
/-- `plover/ploverref06.stands` -/
def dref06_stands (fu : Nat) (s1 : Str) (less1 : Bool) (more1 : Bool) : Option Bool :=
  bif (s1 == [60]) then some less1 else (bif (s1 == [60, 61]) then some (!more1) else (bif (s1 == [61]) then (bif (!less1) then some (!more1) else some false) else (bif (s1 == [33, 61]) then (bif less1 then some true else some more1) else (bif (s1 == [62, 61]) then some (!less1) else (bif (s1 == [62]) then some more1 else some false)))))
section
attribute [local irreducible] awp aops DP PCall ACall Decidable.decide
theorem dref06_stands_l {fu : Nat} {s1 : Str} {less1 : Bool} {more1 : Bool} {r : Bool} (h : dref06_stands fu s1 less1 more1 = some r) : PCall Try.prog 50 [.str (sB s1), .bool less1, .bool more1] (· = .bool r) := by
  rw [dref06_stands] at h
  refine pcall_body Try.func50 rfl (by kernel_rfl) (by rfl) ?_
  refine awp_seq ?_
  refine awp_region ?_
  refine rv rfl rfl ?_
  refine rn ?_
  refine awp_seq ?_
  refine awp_seq ?_
  refine awp_region ?_
  refine rv rfl rfl ?_
  refine rn ?_
  refine awp_block ?_
  refine awp_seq ?_
  refine awp_region ?_
  refine rv rfl rfl ?_
  refine rt (sEq s1 [60]) ?_
  refine rv rfl rfl ?_
  refine rn ?_
  refine cs_ rfl (fun hc => ?_) (fun hc => ?_)
  · have h := cT hc h
    refine awp_seq ?_
    refine awp_region ?_
    refine rvs 2 rfl ?_
    refine rn ?_
    refine awp_ret ?_
    cases h
    repeat (first | refine then_ret ?_ | refine inBlock_ret ?_ | refine cut_r ?_)
    exact rr rfl rfl rfl
  · have h := cF hc h
    refine awp_seq ?_
    refine awp_region ?_
    refine rv rfl rfl ?_
    refine rt (sEq s1 [60, 61]) ?_
    refine rv rfl rfl ?_
    refine rn ?_
    refine cs_ rfl (fun hc => ?_) (fun hc => ?_)
    · have h := cT hc h
      refine awp_seq ?_
      refine awp_region ?_
      refine rvs 3 rfl ?_
      refine rn ?_
      refine awp_ret ?_
      cases h
      repeat (first | refine then_ret ?_ | refine inBlock_ret ?_ | refine cut_r ?_)
      exact rr rfl rfl rfl
    · have h := cF hc h
      refine awp_seq ?_
      refine awp_region ?_
      refine rv rfl rfl ?_
      refine rt (sEq s1 [61]) ?_
      refine rv rfl rfl ?_
      refine rn ?_
      refine cs_ rfl (fun hc => ?_) (fun hc => ?_)
      · have h := cT hc h
        refine awp_seq ?_
        refine awp_region ?_
        refine rvs 3 rfl ?_
        refine gs rfl rfl rfl rfl rfl (fun hg => ?_) (fun hg => ?_)
        · have h := cT hg h
          refine rv rfl rfl ?_
          refine gy rfl rfl rfl ?_
          refine rv rfl rfl ?_
          refine rvs 2 rfl ?_
          refine rn ?_
          refine awp_ret ?_
          cases h
          repeat (first | refine then_ret ?_ | refine inBlock_ret ?_ | refine cut_r ?_)
          exact rr rfl rfl rfl
        · have h := cF hg h
          refine gn rfl rfl rfl rfl rfl ?_
          refine rvs 2 rfl ?_
          refine rn ?_
          refine awp_ret ?_
          cases h
          repeat (first | refine then_ret ?_ | refine inBlock_ret ?_ | refine cut_r ?_)
          exact rr rfl rfl rfl
      · have h := cF hc h
        refine awp_seq ?_
        refine awp_region ?_
        refine rv rfl rfl ?_
        refine rt (sEq s1 [33, 61]) ?_
        refine rv rfl rfl ?_
        refine rn ?_
        refine cs_ rfl (fun hc => ?_) (fun hc => ?_)
        · have h := cT hc h
          refine awp_seq ?_
          refine awp_region ?_
          refine rvs 2 rfl ?_
          refine gs rfl rfl rfl rfl rfl (fun hg => ?_) (fun hg => ?_)
          · have h := cF hg h
            refine rv rfl rfl ?_
            refine rvs 2 rfl ?_
            refine rn ?_
            refine awp_ret ?_
            cases h
            repeat (first | refine then_ret ?_ | refine inBlock_ret ?_ | refine cut_r ?_)
            exact rr rfl rfl rfl
          · have h := cT hg h
            refine rvs 2 rfl ?_
            refine rn ?_
            refine awp_ret ?_
            cases h
            repeat (first | refine then_ret ?_ | refine inBlock_ret ?_ | refine cut_r ?_)
            exact rr rfl rfl rfl
        · have h := cF hc h
          refine awp_seq ?_
          refine awp_region ?_
          refine rv rfl rfl ?_
          refine rt (sEq s1 [62, 61]) ?_
          refine rv rfl rfl ?_
          refine rn ?_
          refine cs_ rfl (fun hc => ?_) (fun hc => ?_)
          · have h := cT hc h
            refine awp_seq ?_
            refine awp_region ?_
            refine rvs 3 rfl ?_
            refine rn ?_
            refine awp_ret ?_
            cases h
            repeat (first | refine then_ret ?_ | refine inBlock_ret ?_ | refine cut_r ?_)
            exact rr rfl rfl rfl
          · have h := cF hc h
            refine awp_seq ?_
            refine awp_region ?_
            refine rv rfl rfl ?_
            refine rt (sEq s1 [62]) ?_
            refine rv rfl rfl ?_
            refine rn ?_
            refine cs_ rfl (fun hc => ?_) (fun hc => ?_)
            · have h := cT hc h
              refine awp_seq ?_
              refine awp_region ?_
              refine rvs 2 rfl ?_
              refine rn ?_
              refine awp_ret ?_
              cases h
              repeat (first | refine then_ret ?_ | refine inBlock_ret ?_ | refine cut_r ?_)
              exact rr rfl rfl rfl
            · have h := cF hc h
              refine awp_skip ?_
              refine inBlock_normal ?_
              refine awp_seq ?_
              refine awp_region ?_
              refine rv rfl rfl ?_
              refine rn ?_
              refine awp_ret ?_
              cases h
              repeat (first | refine then_ret ?_ | refine inBlock_ret ?_ | refine cut_r ?_)
              exact rr rfl rfl rfl
end

/-- `plover/ploverref06.begins` -/
def dref06_begins (fu : Nat) (s1 : Str) (with1 : Str) : Option Bool :=
  bif (decide ((with1.length : Int) > (s1.length : Int))) then some false else ((gsl s1 0 (with1.length : Int)).bind fun s2 => some (s2 == with1))
section
attribute [local irreducible] awp aops DP PCall ACall Decidable.decide
theorem dref06_begins_l {fu : Nat} {s1 : Str} {with1 : Str} {r : Bool} (h : dref06_begins fu s1 with1 = some r) : PCall Try.prog 51 [.str (sB s1), .str (sB with1)] (· = .bool r) := by
  rw [dref06_begins] at h
  refine pcall_body Try.func51 rfl (by kernel_rfl) (by rfl) ?_
  refine awp_seq ?_
  refine awp_region ?_
  refine rv rfl rfl ?_
  refine rn ?_
  refine awp_seq ?_
  refine awp_seq ?_
  refine awp_region ?_
  refine rvs 5 rfl ?_
  refine rn ?_
  refine cs_ rfl (fun hc => ?_) (fun hc => ?_)
  · have h := cT hc h
    refine awp_seq ?_
    refine awp_region ?_
    refine rv rfl rfl ?_
    refine rn ?_
    refine awp_ret ?_
    cases h
    repeat (first | refine then_ret ?_ | refine inBlock_ret ?_ | refine cut_r ?_)
    exact rr rfl rfl rfl
  · have h := cF hc h
    refine awp_skip ?_
    refine awp_seq ?_
    refine awp_region ?_
    refine rvs 3 rfl ?_
    obtain ⟨s2, hx1, h⟩ := bi h
    refine rV rfl (va_ssub rfl rfl rfl rfl ⟨_, rfl⟩ hx1) ?_
    refine rv rfl rfl ?_
    refine rv rfl rfl ?_
    refine rt (sEq s2 with1) ?_
    refine rv rfl rfl ?_
    refine rn ?_
    refine awp_ret ?_
    cases h
    repeat (first | refine then_ret ?_ | refine inBlock_ret ?_ | refine cut_r ?_)
    exact rr rfl rfl rfl
end

mutual
def dref06_Holds : Nat → tFilter → (List tAttr) → Option Bool
  | 0, _, _ => none
  | fu + 1, f1, l2 => match f1 with | .mk kind1 name1 op1 vals1 l1 => bif (kind1 == 7) then some true else (bif (kind1 == 3) then (bif ((l1.length : Int) == 0) then some false else ((gi l1 0).bind fun x1 => match x1 with | .mk kind2 name2 op2 vals2 l3 => (dref06_Holds fu (tFilter.mk kind2 name2 op2 vals2 l3) l2).bind fun x2 => some (!x2))) else ((bif (kind1 == 1) then some (kind1 == 1) else some (kind1 == 2) : Option Bool).bind fun (x3 : Bool) => (bif x3 then ((loopD (ε := Int) (τ := Unit ⊕ Bool) (fun (i1 : Int) => (bif (decide (i1 < (l1.length : Int))) then ((gi l1 i1).bind fun x4 => match x4 with | .mk kind3 name3 op3 vals3 l4 => (dref06_Holds fu (tFilter.mk kind3 name3 op3 vals3 l4) l2).bind fun x5 => bif (x5 == (kind1 == 2)) then some (Sum.inr (Sum.inr x5)) else some (Sum.inl (W (i1 + 1)))) else some (Sum.inr (Sum.inl ())))) fu 0).bind fun o => kS o fun (_ : Unit) => some (kind1 == 1)) else ((some (W ((l2.length : Int) - 1))).bind fun i3 => (loopD (ε := Int × Int) (τ := Int) (fun (((at1, i4)) : Int × Int) => (bif (decide (i4 ≥ 0)) then (((gi l2 i4).bind fun x6 => bif (x6.Name == name1) then some i4 else some at1 : Option Int).bind fun (at4 : Int) => some (Sum.inl (at4, W (i4 - 1)))) else some (Sum.inr at1))) fu ((-1), i3)).bind fun (at3 : Int) => ((bif (decide (at3 < 0)) then some true else some ((vals1.length : Int) == 0) : Option Bool).bind fun (x7 : Bool) => (bif x7 then some false else ((gi l2 at3).bind fun x8 => (gi vals1 0).bind fun x9 => (bif (kind1 == 4) then some (x8.Text == x9.Text) else some false : Option Bool).bind fun (x10 : Bool) => (bif x10 then (bif x8.Text then ((dref06_stands fu op1 (Op.bytesLess x8.S x9.S) (!(Op.bytesLess x8.S x9.S || x8.S == x9.S))).bind fun x11 => some x11) else ((dref06_stands fu op1 (decide (x8.N < x9.N)) (decide (x8.N > x9.N))).bind fun x12 => some x12)) else ((bif (kind1 == 5) then (bif x8.Text then some x9.Text else some false) else some false : Option Bool).bind fun (x13 : Bool) => (bif x13 then ((dref06_begins fu x8.S x9.S).bind fun x14 => some x14) else ((loopD (ε := Int × Str × Bool × Int × Str) (τ := Unit ⊕ Bool) (fun (((i6, v1, v2, v3, v4)) : Int × Str × Bool × Int × Str) => ((bif (decide (i6 < (vals1.length : Int))) then some (kind1 == 6) else some false : Option Bool).bind fun (x15 : Bool) => (bif x15 then ((gi vals1 i6).bind fun x16 => (bif (x8.Text == x16.Text) then (bif x8.Text then (bif (x8.S == x16.S) then some true else (bif (!x8.Text) then some (x8.N == x16.N) else some false)) else (bif (!x8.Text) then some (x8.N == x16.N) else some false)) else some false : Option Bool).bind fun (x17 : Bool) => (bif x17 then some (Sum.inr (Sum.inr true)) else some (Sum.inl (W (i6 + 1), x16.Name, x16.Text, x16.N, x16.S)))) else some (Sum.inr (Sum.inl ()))))) fu (0, x9.Name, x9.Text, x9.N, x9.S)).bind fun o => kS o fun (_ : Unit) => some false)))))))))))
end
section
attribute [local irreducible] awp aops DP PCall ACall Decidable.decide
/-- `plover/ploverref06.Holds` -/
theorem dref06_Holds_s {fu : Nat} (ih_dref06_Holds : ∀ {f1 l2} {r : Bool}, dref06_Holds fu f1 l2 = some r → PCall Try.prog 29 [.agg (c_tFilter f1), .sl (l2.map c_tAttr)] (· = .bool r)) : ∀ {f1 l2} {r : Bool}, dref06_Holds (fu + 1) f1 l2 = some r → PCall Try.prog 29 [.agg (c_tFilter f1), .sl (l2.map c_tAttr)] (· = .bool r) := by
  intro f1 l2 r h
  obtain ⟨kind1, name1, op1, vals1, l1⟩ := f1
  rw [dref06_Holds] at h
  refine pcall_body Try.func29 rfl (by kernel_rfl) (by rfl) ?_
  refine awp_seq ?_
  refine awp_region ?_
  refine rb rfl rfl ?_
  refine rv rfl rfl ?_
  refine rn ?_
  refine awp_seq ?_
  refine awp_seq ?_
  refine awp_region ?_
  refine rvs 2 rfl ?_
  refine rn ?_
  refine awp_block ?_
  refine awp_seq ?_
  refine awp_region ?_
  refine rvs 2 rfl ?_
  refine rn ?_
  refine cs_ rfl (fun hc => ?_) (fun hc => ?_)
  · have h := cT hc h
    refine awp_seq ?_
    refine awp_region ?_
    refine rv rfl rfl ?_
    refine rn ?_
    refine awp_ret ?_
    cases h
    repeat (first | refine then_ret ?_ | refine inBlock_ret ?_ | refine cut_r ?_)
    exact rr rfl rfl rfl
  · have h := cF hc h
    refine awp_seq ?_
    refine awp_region ?_
    refine rvs 2 rfl ?_
    refine rn ?_
    refine cs_ rfl (fun hc => ?_) (fun hc => ?_)
    · have h := cT hc h
      refine awp_seq ?_
      refine awp_seq ?_
      refine awp_region ?_
      refine rvs 2 rfl ?_
      refine rv rfl rfl ?_
      refine rt ((lM_tFilter l1)) ?_
      refine rv rfl rfl ?_
      refine rn ?_
      refine cs_ rfl (fun hc => ?_) (fun hc => ?_)
      · have h := cT hc h
        refine awp_seq ?_
        refine awp_region ?_
        refine rv rfl rfl ?_
        refine rn ?_
        refine awp_ret ?_
        cases h
        repeat (first | refine then_ret ?_ | refine inBlock_ret ?_ | refine cut_r ?_)
        exact rr rfl rfl rfl
      · have h := cF hc h
        refine awp_skip ?_
        refine awp_seq ?_
        refine awp_region ?_
        refine rvs 2 rfl ?_
        obtain ⟨x1, hx1, h⟩ := bi h
        refine ri rfl rfl rfl rfl rfl rfl (gi0 hx1) (giM_tFilter hx1) (wM_tFilter _) ?_
        obtain ⟨kind2, name2, op2, vals2, l3⟩ := x1
        refine rvs 2 rfl ?_
        obtain ⟨x2, hx2, h⟩ := bi h
        refine rc1 rfl rfl rfl (ih_dref06_Holds hx2) ?_
        refine rv rfl rfl ?_
        refine rn ?_
        refine awp_seq ?_
        refine awp_region ?_
        refine rvs 3 rfl ?_
        refine rn ?_
        refine awp_ret ?_
        cases h
        repeat (first | refine then_ret ?_ | refine inBlock_ret ?_ | refine cut_r ?_)
        exact rr rfl rfl rfl
    · have h := cF hc h
      refine awp_seq ?_
      refine awp_seq ?_
      refine awp_region ?_
      refine rvs 2 rfl ?_
      refine rn ?_
      obtain ⟨o3, ho4, h⟩ := bi h
      refine awp_cut1 (fun x => x = o3) (fun (x3 : Bool) => ⟨[(1, .sl (l2.map c_tAttr)), (2, .ptr 0 0), (31, .bool x3)], [(0, 0, .int .i64 kind1), (0, 1, .str (sB name1)), (0, 2, .str (sB op1)), (0, 3, .sl (vals1.map c_tAttr)), (0, 4, .sl (cs_tFilter l1))], [], 1⟩) ?_ ?_
      · refine cs_ rfl (fun hc => ?_) (fun hc => ?_)
        · have ho4 := cT hc ho4
          refine awp_skip ?_
          cases ho4
          exact cut_n [0] rfl rfl ⟨rfl, rfl, zA rfl rfl rfl (zA rfl rfl rfl (zA rfl rfl rfl (trivial))), zC rfl rfl rfl rfl (zC rfl rfl rfl rfl (zC rfl rfl rfl rfl (zC rfl rfl rfl rfl (zC rfl rfl rfl rfl (trivial))))), trivial⟩
        · have ho4 := cF hc ho4
          refine awp_region ?_
          refine rvs 2 rfl ?_
          refine rn ?_
          cases ho4
          exact cut_n [0] rfl rfl ⟨rfl, rfl, zA rfl rfl rfl (zA rfl rfl rfl (zA rfl rfl rfl (trivial))), zC rfl rfl rfl rfl (zC rfl rfl rfl rfl (zC rfl rfl rfl rfl (zC rfl rfl rfl rfl (zC rfl rfl rfl rfl (trivial))))), trivial⟩
      · rintro x3 rfl
        change awp _ _ _ _ _ ⟨_, _, _, _⟩
        refine cs_ rfl (fun hc => ?_) (fun hc => ?_)
        · have h := cT hc h
          refine awp_seq ?_
          refine awp_seq ?_
          refine awp_region ?_
          refine rv rfl rfl ?_
          refine rn ?_
          obtain ⟨e5, hl6, h⟩ := bi h
          refine awp_cut1 (fun x => Sum.inl x = e5) (fun (_ : Unit) => ⟨[(2, .ptr 0 0)], [(0, 0, .int .i64 kind1), (0, 1, .str (sB name1)), (0, 2, .str (sB op1)), (0, 3, .sl (vals1.map c_tAttr)), (0, 4, .sl (cs_tFilter l1))], [], 1⟩) ?_ ?_
          · refine awp_block ?_
            refine awp_loopD hl6 (fun (i1 : Int) => ⟨[(1, .sl (l2.map c_tAttr)), (2, .ptr 0 0), (6, .int .i64 i1)], [(0, 0, .int .i64 kind1), (0, 1, .str (sB name1)), (0, 2, .str (sB op1)), (0, 3, .sl (vals1.map c_tAttr)), (0, 4, .sl (cs_tFilter l1))], [], 1⟩) [0] rfl ⟨rfl, rfl, zA rfl rfl rfl (zA rfl rfl rfl (zA rfl rfl rfl (trivial))), zC rfl rfl rfl rfl (zC rfl rfl rfl rfl (zC rfl rfl rfl rfl (zC rfl rfl rfl rfl (zC rfl rfl rfl rfl (trivial))))), trivial⟩ ?_
            intro i1 o9 ho7 hE8
            change awp _ _ _ _ _ ⟨_, _, _, _⟩
            refine awp_seq ?_
            refine awp_seq ?_
            refine awp_region ?_
            refine rvs 3 rfl ?_
            refine rv rfl rfl ?_
            refine rt ((lM_tFilter l1)) ?_
            refine rv rfl rfl ?_
            refine rn ?_
            refine cs_ rfl (fun hc => ?_) (fun hc => ?_)
            · have ho7 := cT hc ho7
              refine awp_skip ?_
              refine awp_seq ?_
              refine awp_block ?_
              refine awp_seq ?_
              refine awp_region ?_
              refine rvs 3 rfl ?_
              obtain ⟨x4, hx10, ho7⟩ := bi ho7
              refine ri rfl rfl rfl rfl rfl rfl (gi0 hx10) (giM_tFilter hx10) (wM_tFilter _) ?_
              obtain ⟨kind3, name3, op3, vals3, l4⟩ := x4
              refine rvs 2 rfl ?_
              obtain ⟨x5, hx11, ho7⟩ := bi ho7
              refine rc1 rfl rfl rfl (ih_dref06_Holds hx11) ?_
              refine rv rfl rfl ?_
              refine rn ?_
              refine awp_seq ?_
              refine awp_region ?_
              refine rvs 5 rfl ?_
              refine rn ?_
              refine cs_ rfl (fun hc => ?_) (fun hc => ?_)
              · have ho7 := cT hc ho7
                refine awp_seq ?_
                refine awp_region ?_
                refine rvs 2 rfl ?_
                refine rn ?_
                refine awp_ret ?_
                cases ho7
                have hq := hE8 _ rfl
                subst hq
                have h := ksr h
                subst h
                repeat (first | refine then_ret ?_ | refine inBlock_ret ?_ | refine cut_r ?_)
                exact rr rfl rfl rfl
              · have ho7 := cF hc ho7
                refine awp_skip ?_
                refine inBlock_normal ?_
                refine awp_region ?_
                refine rvs 3 rfl ?_
                refine rn ?_
                cases ho7
                exact lp_n [0] rfl rfl ⟨rfl, rfl, zA rfl rfl rfl (zA rfl rfl rfl (zA rfl rfl rfl (trivial))), zC rfl rfl rfl rfl (zC rfl rfl rfl rfl (zC rfl rfl rfl rfl (zC rfl rfl rfl rfl (zC rfl rfl rfl rfl (trivial))))), trivial⟩
            · have ho7 := cF hc ho7
              refine awp_exit ?_
              repeat (first | refine then_exit ?_ | refine cut_x ?_ | refine inBlock_other rfl ?_)
              refine inBlock_exit ?_
              cases ho7
              have hq := hE8 _ rfl
              subst hq
              exact cut_n [0] rfl rfl ⟨rfl, rfl, zA rfl rfl rfl (trivial), zC rfl rfl rfl rfl (zC rfl rfl rfl rfl (zC rfl rfl rfl rfl (zC rfl rfl rfl rfl (zC rfl rfl rfl rfl (trivial))))), trivial⟩
          · rintro _ rfl
            have h := ksl h
            change awp _ _ _ _ _ ⟨_, _, _, _⟩
            refine awp_seq ?_
            refine awp_region ?_
            refine rvs 4 rfl ?_
            refine rn ?_
            refine awp_ret ?_
            cases h
            repeat (first | refine then_ret ?_ | refine inBlock_ret ?_ | refine cut_r ?_)
            exact rr rfl rfl rfl
        · have h := cF hc h
          refine awp_skip ?_
          refine inBlock_normal ?_
          refine awp_seq ?_
          refine awp_region ?_
          refine rv rfl rfl ?_
          refine rn ?_
          refine awp_seq ?_
          refine awp_seq ?_
          refine awp_region ?_
          refine rv rfl rfl ?_
          refine rv rfl rfl ?_
          refine rt ((lM c_tAttr l2)) ?_
          refine rvs 2 rfl ?_
          obtain ⟨i3, hx12, h⟩ := bs h
          refine rt (ei' hx12) ?_
          refine rn ?_
          obtain ⟨e13, hl14, h⟩ := bi h
          refine awp_cut1 (fun x => x = e13) (fun (at3 : Int) => ⟨[(1, .sl (l2.map c_tAttr)), (2, .ptr 0 0), (8, .int .i64 at3)], [(0, 0, .int .i64 kind1), (0, 1, .str (sB name1)), (0, 2, .str (sB op1)), (0, 3, .sl (vals1.map c_tAttr)), (0, 4, .sl (cs_tFilter l1))], [], 1⟩) ?_ ?_
          · refine awp_block ?_
            refine awp_loopD hl14 (fun (((at1, i4)) : Int × Int) => ⟨[(1, .sl (l2.map c_tAttr)), (2, .ptr 0 0), (8, .int .i64 at1), (9, .int .i64 i4)], [(0, 0, .int .i64 kind1), (0, 1, .str (sB name1)), (0, 2, .str (sB op1)), (0, 3, .sl (vals1.map c_tAttr)), (0, 4, .sl (cs_tFilter l1))], [], 1⟩) [0] rfl ⟨rfl, rfl, zA rfl rfl rfl (zA rfl rfl rfl (zA rfl rfl rfl (zA rfl rfl rfl (trivial)))), zC rfl rfl rfl rfl (zC rfl rfl rfl rfl (zC rfl rfl rfl rfl (zC rfl rfl rfl rfl (zC rfl rfl rfl rfl (trivial))))), trivial⟩ ?_
            intro v o17 ho15 hE16
            obtain ⟨at1, i4⟩ := v
            change awp _ _ _ _ _ ⟨_, _, _, _⟩
            refine awp_seq ?_
            refine awp_seq ?_
            refine awp_region ?_
            refine rvs 2 rfl ?_
            refine rn ?_
            refine cs_ rfl (fun hc => ?_) (fun hc => ?_)
            · have ho15 := cT hc ho15
              refine awp_skip ?_
              refine awp_seq ?_
              obtain ⟨o18, ho19, ho15⟩ := bi ho15
              refine awp_cut1 (fun x => x = o18) (fun (at4 : Int) => ⟨[(1, .sl (l2.map c_tAttr)), (2, .ptr 0 0), (8, .int .i64 at4), (9, .int .i64 i4)], [(0, 0, .int .i64 kind1), (0, 1, .str (sB name1)), (0, 2, .str (sB op1)), (0, 3, .sl (vals1.map c_tAttr)), (0, 4, .sl (cs_tFilter l1))], [], 1⟩) ?_ ?_
              · refine awp_block ?_
                refine awp_seq ?_
                refine awp_dp (m := 8) Try.mix (by kernel_rfl) (by kernel_rfl) (by kernel_rfl) (by kernel_rfl) (by kernel_rfl) (by kernel_rfl) (by kernel_rfl) ?_
                refine dv rfl rfl (fun _ => rfl) ?_
                refine dv rfl rfl (fun _ => rfl) ?_
                obtain ⟨x6, hx20, ho19⟩ := bi ho19
                refine di rfl rfl rfl rfl rfl (fun _ => rfl) rfl (gi0 hx20) (giM c_tAttr hx20) (wM (fun _ => by rfl) _) ?_
                refine dv rfl rfl (fun _ => rfl) ?_
                refine dv rfl rfl (fun _ => rfl) ?_
                refine dv rfl rfl (fun _ => rfl) ?_
                refine dv rfl rfl (fun _ => rfl) ?_
                refine dv rfl rfl (fun _ => rfl) ?_
                refine dt (sEq x6.Name name1) ?_
                refine dn ?_
                refine rn ?_
                refine cs_ rfl (fun hc => ?_) (fun hc => ?_)
                · have ho19 := cT hc ho19
                  refine awp_region ?_
                  refine rvs 2 rfl ?_
                  refine rn ?_
                  refine inBlock_normal ?_
                  cases ho19
                  exact cut_n [0] rfl rfl ⟨rfl, rfl, zA rfl rfl rfl (zA rfl rfl rfl (zA rfl rfl rfl (zA rfl rfl rfl (trivial)))), zC rfl rfl rfl rfl (zC rfl rfl rfl rfl (zC rfl rfl rfl rfl (zC rfl rfl rfl rfl (zC rfl rfl rfl rfl (trivial))))), trivial⟩
                · have ho19 := cF hc ho19
                  refine awp_skip ?_
                  refine inBlock_normal ?_
                  cases ho19
                  exact cut_n [0] rfl rfl ⟨rfl, rfl, zA rfl rfl rfl (zA rfl rfl rfl (zA rfl rfl rfl (zA rfl rfl rfl (trivial)))), zC rfl rfl rfl rfl (zC rfl rfl rfl rfl (zC rfl rfl rfl rfl (zC rfl rfl rfl rfl (zC rfl rfl rfl rfl (trivial))))), trivial⟩
              · rintro at4 rfl
                change awp _ _ _ _ _ ⟨_, _, _, _⟩
                refine awp_region ?_
                refine rvs 3 rfl ?_
                refine rn ?_
                cases ho15
                exact lp_n [0] rfl rfl ⟨rfl, rfl, zA rfl rfl rfl (zA rfl rfl rfl (zA rfl rfl rfl (zA rfl rfl rfl (trivial)))), zC rfl rfl rfl rfl (zC rfl rfl rfl rfl (zC rfl rfl rfl rfl (zC rfl rfl rfl rfl (zC rfl rfl rfl rfl (trivial))))), trivial⟩
            · have ho15 := cF hc ho15
              refine awp_exit ?_
              repeat (first | refine then_exit ?_ | refine cut_x ?_ | refine inBlock_other rfl ?_)
              refine inBlock_exit ?_
              cases ho15
              have hq := hE16 _ rfl
              subst hq
              exact cut_n [0] rfl rfl ⟨rfl, rfl, zA rfl rfl rfl (zA rfl rfl rfl (zA rfl rfl rfl (trivial))), zC rfl rfl rfl rfl (zC rfl rfl rfl rfl (zC rfl rfl rfl rfl (zC rfl rfl rfl rfl (zC rfl rfl rfl rfl (trivial))))), trivial⟩
          · rintro at3 rfl
            change awp _ _ _ _ _ ⟨_, _, _, _⟩
            refine awp_seq ?_
            refine awp_seq ?_
            obtain ⟨o21, ho22, h⟩ := bi h
            refine awp_cut1 (fun x => x = o21) (fun (x7 : Bool) => ⟨[(1, .sl (l2.map c_tAttr)), (2, .ptr 0 0), (8, .int .i64 at3), (80, .bool x7)], [(0, 0, .int .i64 kind1), (0, 1, .str (sB name1)), (0, 2, .str (sB op1)), (0, 3, .sl (vals1.map c_tAttr)), (0, 4, .sl (cs_tFilter l1))], [], 1⟩) ?_ ?_
            · refine awp_region ?_
              refine rvs 3 rfl ?_
              refine gs rfl rfl rfl rfl rfl (fun hg => ?_) (fun hg => ?_)
              · have ho22 := cF hg ho22
                refine rv rfl rfl ?_
                refine gy rfl rfl rfl ?_
                refine rv rfl rfl ?_
                refine gy rfl rfl rfl ?_
                refine rv rfl rfl ?_
                refine rt ((lM c_tAttr vals1)) ?_
                refine gy rfl rfl rfl ?_
                refine rv rfl rfl ?_
                refine rv rfl rfl ?_
                refine rn ?_
                cases ho22
                exact cut_n [0] rfl rfl ⟨rfl, rfl, zA rfl rfl rfl (zA rfl rfl rfl (zA rfl rfl rfl (zA rfl rfl rfl (trivial)))), zC rfl rfl rfl rfl (zC rfl rfl rfl rfl (zC rfl rfl rfl rfl (zC rfl rfl rfl rfl (zC rfl rfl rfl rfl (trivial))))), trivial⟩
              · have ho22 := cT hg ho22
                refine gn rfl rfl rfl rfl rfl ?_
                refine gn rfl rfl rfl rfl rfl ?_
                refine gn rfl rfl rfl rfl rfl ?_
                refine rv rfl rfl ?_
                refine rn ?_
                cases ho22
                exact cut_n [0] rfl rfl ⟨rfl, rfl, zA rfl rfl rfl (zA rfl rfl rfl (zA rfl rfl rfl (zA rfl rfl rfl (trivial)))), zC rfl rfl rfl rfl (zC rfl rfl rfl rfl (zC rfl rfl rfl rfl (zC rfl rfl rfl rfl (zC rfl rfl rfl rfl (trivial))))), trivial⟩
            · rintro x7 rfl
              change awp _ _ _ _ _ ⟨_, _, _, _⟩
              refine cs_ rfl (fun hc => ?_) (fun hc => ?_)
              · have h := cT hc h
                refine awp_seq ?_
                refine awp_region ?_
                refine rv rfl rfl ?_
                refine rn ?_
                refine awp_ret ?_
                cases h
                repeat (first | refine then_ret ?_ | refine inBlock_ret ?_ | refine cut_r ?_)
                exact rr rfl rfl rfl
              · have h := cF hc h
                refine awp_skip ?_
                refine awp_seq ?_
                refine awp_region ?_
                refine rvs 2 rfl ?_
                obtain ⟨x8, hx23, h⟩ := bi h
                refine ri rfl rfl rfl rfl rfl rfl (gi0 hx23) (giM c_tAttr hx23) (wM (fun _ => by rfl) _) ?_
                refine rv rfl rfl ?_
                refine ra rfl rfl rfl ?_
                refine rs rfl rfl rfl rfl rfl rfl rfl ?_
                refine rn ?_
                refine awp_seq ?_
                refine awp_region ?_
                refine rvs 2 rfl ?_
                obtain ⟨x9, hx24, h⟩ := bi h
                refine ri rfl rfl rfl rfl rfl rfl (gi0 hx24) (giM c_tAttr hx24) (wM (fun _ => by rfl) _) ?_
                refine rv rfl rfl ?_
                refine ra rfl rfl rfl ?_
                refine rs rfl rfl rfl rfl rfl rfl rfl ?_
                refine rn ?_
                refine awp_seq ?_
                refine awp_seq ?_
                obtain ⟨o25, ho26, h⟩ := bi h
                refine awp_cut1 (fun x => x = o25) (fun (x10 : Bool) => ⟨[(2, .ptr 0 0), (10, .ptr 1 0), (11, .ptr 2 0), (98, .bool x10)], [(0, 0, .int .i64 kind1), (0, 1, .str (sB name1)), (0, 2, .str (sB op1)), (0, 3, .sl (vals1.map c_tAttr)), (0, 4, .sl (cs_tFilter l1)), (1, 0, .str (sB x8.Name)), (1, 1, .bool x8.Text), (1, 2, .int .i64 x8.N), (1, 3, .str (sB x8.S)), (2, 0, .str (sB x9.Name)), (2, 1, .bool x9.Text), (2, 2, .int .i64 x9.N), (2, 3, .str (sB x9.S))], [], 3⟩) ?_ ?_
                · refine awp_region ?_
                  refine rvs 4 rfl ?_
                  refine gs rfl rfl rfl rfl rfl (fun hg => ?_) (fun hg => ?_)
                  · have ho26 := cT hg ho26
                    refine rv rfl rfl ?_
                    refine gy rfl rfl rfl ?_
                    refine rv rfl rfl ?_
                    refine gy rfl rfl rfl ?_
                    refine rv rfl rfl ?_
                    refine gy rfl rfl rfl ?_
                    refine rv rfl rfl ?_
                    refine gy rfl rfl rfl ?_
                    refine rv rfl rfl ?_
                    refine rv rfl rfl ?_
                    refine rn ?_
                    cases ho26
                    exact cut_n [0, 1, 2] rfl rfl ⟨rfl, rfl, zA rfl rfl rfl (zA rfl rfl rfl (zA rfl rfl rfl (zA rfl rfl rfl (trivial)))), zC rfl rfl rfl rfl (zC rfl rfl rfl rfl (zC rfl rfl rfl rfl (zC rfl rfl rfl rfl (zC rfl rfl rfl rfl (zC rfl rfl rfl rfl (zC rfl rfl rfl rfl (zC rfl rfl rfl rfl (zC rfl rfl rfl rfl (zC rfl rfl rfl rfl (zC rfl rfl rfl rfl (zC rfl rfl rfl rfl (zC rfl rfl rfl rfl (trivial))))))))))))), trivial⟩
                  · have ho26 := cF hg ho26
                    refine gn rfl rfl rfl rfl rfl ?_
                    refine gn rfl rfl rfl rfl rfl ?_
                    refine gn rfl rfl rfl rfl rfl ?_
                    refine gn rfl rfl rfl rfl rfl ?_
                    refine rv rfl rfl ?_
                    refine rn ?_
                    cases ho26
                    exact cut_n [0, 1, 2] rfl rfl ⟨rfl, rfl, zA rfl rfl rfl (zA rfl rfl rfl (zA rfl rfl rfl (zA rfl rfl rfl (trivial)))), zC rfl rfl rfl rfl (zC rfl rfl rfl rfl (zC rfl rfl rfl rfl (zC rfl rfl rfl rfl (zC rfl rfl rfl rfl (zC rfl rfl rfl rfl (zC rfl rfl rfl rfl (zC rfl rfl rfl rfl (zC rfl rfl rfl rfl (zC rfl rfl rfl rfl (zC rfl rfl rfl rfl (zC rfl rfl rfl rfl (zC rfl rfl rfl rfl (trivial))))))))))))), trivial⟩
                · rintro x10 rfl
                  change awp _ _ _ _ _ ⟨_, _, _, _⟩
                  refine cs_ rfl (fun hc => ?_) (fun hc => ?_)
                  · have h := cT hc h
                    refine awp_seq ?_
                    refine awp_seq ?_
                    refine awp_region ?_
                    refine rvs 2 rfl ?_
                    refine rn ?_
                    refine cs_ rfl (fun hc => ?_) (fun hc => ?_)
                    · have h := cT hc h
                      refine awp_seq ?_
                      refine awp_region ?_
                      refine rvs 6 rfl ?_
                      refine rv rfl rfl ?_
                      refine rt (sLt x8.S x9.S) ?_
                      refine rvs 4 rfl ?_
                      refine rv rfl rfl ?_
                      refine rt (sGt x8.S x9.S) ?_
                      obtain ⟨x11, hx27, h⟩ := bi h
                      refine rc1 rfl rfl rfl (dref06_stands_l hx27) ?_
                      refine rv rfl rfl ?_
                      refine rn ?_
                      refine awp_ret ?_
                      cases h
                      repeat (first | refine then_ret ?_ | refine inBlock_ret ?_ | refine cut_r ?_)
                      exact rr rfl rfl rfl
                    · have h := cF hc h
                      refine awp_skip ?_
                      refine awp_seq ?_
                      refine awp_region ?_
                      refine rvs 12 rfl ?_
                      obtain ⟨x12, hx28, h⟩ := bi h
                      refine rc1 rfl rfl rfl (dref06_stands_l hx28) ?_
                      refine rv rfl rfl ?_
                      refine rn ?_
                      refine awp_ret ?_
                      cases h
                      repeat (first | refine then_ret ?_ | refine inBlock_ret ?_ | refine cut_r ?_)
                      exact rr rfl rfl rfl
                  · have h := cF hc h
                    refine awp_skip ?_
                    refine awp_seq ?_
                    refine awp_seq ?_
                    obtain ⟨o29, ho30, h⟩ := bi h
                    refine awp_cut1 (fun x => x = o29) (fun (x13 : Bool) => ⟨[(2, .ptr 0 0), (10, .ptr 1 0), (11, .ptr 2 0), (137, .bool x13)], [(0, 0, .int .i64 kind1), (0, 1, .str (sB name1)), (0, 2, .str (sB op1)), (0, 3, .sl (vals1.map c_tAttr)), (0, 4, .sl (cs_tFilter l1)), (1, 0, .str (sB x8.Name)), (1, 1, .bool x8.Text), (1, 2, .int .i64 x8.N), (1, 3, .str (sB x8.S)), (2, 0, .str (sB x9.Name)), (2, 1, .bool x9.Text), (2, 2, .int .i64 x9.N), (2, 3, .str (sB x9.S))], [], 3⟩) ?_ ?_
                    · refine awp_region ?_
                      refine rvs 4 rfl ?_
                      refine gs rfl rfl rfl rfl rfl (fun hg => ?_) (fun hg => ?_)
                      · have ho30 := cT hg ho30
                        refine rv rfl rfl ?_
                        refine gy rfl rfl rfl ?_
                        refine rv rfl rfl ?_
                        refine rvs 2 rfl ?_
                        refine gs rfl rfl rfl rfl rfl (fun hg => ?_) (fun hg => ?_)
                        · have ho30 := cT hg ho30
                          refine rv rfl rfl ?_
                          refine gy rfl rfl rfl ?_
                          refine rv rfl rfl ?_
                          refine rv rfl rfl ?_
                          refine rn ?_
                          cases ho30
                          exact cut_n [0, 1, 2] rfl rfl ⟨rfl, rfl, zA rfl rfl rfl (zA rfl rfl rfl (zA rfl rfl rfl (zA rfl rfl rfl (trivial)))), zC rfl rfl rfl rfl (zC rfl rfl rfl rfl (zC rfl rfl rfl rfl (zC rfl rfl rfl rfl (zC rfl rfl rfl rfl (zC rfl rfl rfl rfl (zC rfl rfl rfl rfl (zC rfl rfl rfl rfl (zC rfl rfl rfl rfl (zC rfl rfl rfl rfl (zC rfl rfl rfl rfl (zC rfl rfl rfl rfl (zC rfl rfl rfl rfl (trivial))))))))))))), trivial⟩
                        · have ho30 := cF hg ho30
                          refine gn rfl rfl rfl rfl rfl ?_
                          refine rv rfl rfl ?_
                          refine rn ?_
                          cases ho30
                          exact cut_n [0, 1, 2] rfl rfl ⟨rfl, rfl, zA rfl rfl rfl (zA rfl rfl rfl (zA rfl rfl rfl (zA rfl rfl rfl (trivial)))), zC rfl rfl rfl rfl (zC rfl rfl rfl rfl (zC rfl rfl rfl rfl (zC rfl rfl rfl rfl (zC rfl rfl rfl rfl (zC rfl rfl rfl rfl (zC rfl rfl rfl rfl (zC rfl rfl rfl rfl (zC rfl rfl rfl rfl (zC rfl rfl rfl rfl (zC rfl rfl rfl rfl (zC rfl rfl rfl rfl (zC rfl rfl rfl rfl (trivial))))))))))))), trivial⟩
                      · have ho30 := cF hg ho30
                        refine gn rfl rfl rfl rfl rfl ?_
                        refine rvs 2 rfl ?_
                        refine gn rfl rfl rfl rfl rfl ?_
                        refine gn rfl rfl rfl rfl rfl ?_
                        refine rv rfl rfl ?_
                        refine rn ?_
                        cases ho30
                        exact cut_n [0, 1, 2] rfl rfl ⟨rfl, rfl, zA rfl rfl rfl (zA rfl rfl rfl (zA rfl rfl rfl (zA rfl rfl rfl (trivial)))), zC rfl rfl rfl rfl (zC rfl rfl rfl rfl (zC rfl rfl rfl rfl (zC rfl rfl rfl rfl (zC rfl rfl rfl rfl (zC rfl rfl rfl rfl (zC rfl rfl rfl rfl (zC rfl rfl rfl rfl (zC rfl rfl rfl rfl (zC rfl rfl rfl rfl (zC rfl rfl rfl rfl (zC rfl rfl rfl rfl (zC rfl rfl rfl rfl (trivial))))))))))))), trivial⟩
                    · rintro x13 rfl
                      change awp _ _ _ _ _ ⟨_, _, _, _⟩
                      refine cs_ rfl (fun hc => ?_) (fun hc => ?_)
                      · have h := cT hc h
                        refine awp_seq ?_
                        refine awp_region ?_
                        refine rvs 4 rfl ?_
                        obtain ⟨x14, hx31, h⟩ := bi h
                        refine rc1 rfl rfl rfl (dref06_begins_l hx31) ?_
                        refine rv rfl rfl ?_
                        refine rn ?_
                        refine awp_ret ?_
                        cases h
                        repeat (first | refine then_ret ?_ | refine inBlock_ret ?_ | refine cut_r ?_)
                        exact rr rfl rfl rfl
                      · have h := cF hc h
                        refine awp_skip ?_
                        refine awp_seq ?_
                        refine awp_seq ?_
                        refine awp_region ?_
                        refine rv rfl rfl ?_
                        refine rn ?_
                        obtain ⟨e32, hl33, h⟩ := bi h
                        refine awp_cut1 (fun x => Sum.inl x = e32) (fun (_ : Unit) => ⟨[], [], [], 0⟩) ?_ ?_
                        · refine awp_block ?_
                          refine awp_loopD hl33 (fun (((i6, v1, v2, v3, v4)) : Int × Str × Bool × Int × Str) => ⟨[(2, .ptr 0 0), (10, .ptr 1 0), (11, .ptr 2 0), (12, .int .i64 i6)], [(0, 0, .int .i64 kind1), (0, 1, .str (sB name1)), (0, 2, .str (sB op1)), (0, 3, .sl (vals1.map c_tAttr)), (0, 4, .sl (cs_tFilter l1)), (1, 0, .str (sB x8.Name)), (1, 1, .bool x8.Text), (1, 2, .int .i64 x8.N), (1, 3, .str (sB x8.S)), (2, 0, .str (sB v1)), (2, 1, .bool v2), (2, 2, .int .i64 v3), (2, 3, .str (sB v4))], [], 3⟩) [0, 1, 2] rfl ⟨rfl, rfl, zA rfl rfl rfl (zA rfl rfl rfl (zA rfl rfl rfl (zA rfl rfl rfl (trivial)))), zC rfl rfl rfl rfl (zC rfl rfl rfl rfl (zC rfl rfl rfl rfl (zC rfl rfl rfl rfl (zC rfl rfl rfl rfl (zC rfl rfl rfl rfl (zC rfl rfl rfl rfl (zC rfl rfl rfl rfl (zC rfl rfl rfl rfl (zC rfl rfl rfl rfl (zC rfl rfl rfl rfl (zC rfl rfl rfl rfl (zC rfl rfl rfl rfl (trivial))))))))))))), trivial⟩ ?_
                          intro v o36 ho34 hE35
                          obtain ⟨i6, v1, v2, v3, v4⟩ := v
                          change awp _ _ _ _ _ ⟨_, _, _, _⟩
                          refine awp_seq ?_
                          refine awp_seq ?_
                          obtain ⟨o37, ho38, ho34⟩ := bi ho34
                          refine awp_cut1 (fun x => x = o37) (fun (x15 : Bool) => ⟨[(2, .ptr 0 0), (10, .ptr 1 0), (11, .ptr 2 0), (12, .int .i64 i6), (152, .bool x15)], [(0, 0, .int .i64 kind1), (0, 1, .str (sB name1)), (0, 2, .str (sB op1)), (0, 3, .sl (vals1.map c_tAttr)), (0, 4, .sl (cs_tFilter l1)), (1, 0, .str (sB x8.Name)), (1, 1, .bool x8.Text), (1, 2, .int .i64 x8.N), (1, 3, .str (sB x8.S)), (2, 0, .str (sB v1)), (2, 1, .bool v2), (2, 2, .int .i64 v3), (2, 3, .str (sB v4))], [], 3⟩) ?_ ?_
                          · refine awp_region ?_
                            refine rvs 3 rfl ?_
                            refine rv rfl rfl ?_
                            refine rt ((lM c_tAttr vals1)) ?_
                            refine rvs 2 rfl ?_
                            refine gs rfl rfl rfl rfl rfl (fun hg => ?_) (fun hg => ?_)
                            · have ho38 := cT hg ho38
                              refine rv rfl rfl ?_
                              refine gy rfl rfl rfl ?_
                              refine rv rfl rfl ?_
                              refine gy rfl rfl rfl ?_
                              refine rv rfl rfl ?_
                              refine rv rfl rfl ?_
                              refine rn ?_
                              cases ho38
                              exact cut_n [0, 1, 2] rfl rfl ⟨rfl, rfl, zA rfl rfl rfl (zA rfl rfl rfl (zA rfl rfl rfl (zA rfl rfl rfl (zA rfl rfl rfl (trivial))))), zC rfl rfl rfl rfl (zC rfl rfl rfl rfl (zC rfl rfl rfl rfl (zC rfl rfl rfl rfl (zC rfl rfl rfl rfl (zC rfl rfl rfl rfl (zC rfl rfl rfl rfl (zC rfl rfl rfl rfl (zC rfl rfl rfl rfl (zC rfl rfl rfl rfl (zC rfl rfl rfl rfl (zC rfl rfl rfl rfl (zC rfl rfl rfl rfl (trivial))))))))))))), trivial⟩
                            · have ho38 := cF hg ho38
                              refine gn rfl rfl rfl rfl rfl ?_
                              refine gn rfl rfl rfl rfl rfl ?_
                              refine rv rfl rfl ?_
                              refine rn ?_
                              cases ho38
                              exact cut_n [0, 1, 2] rfl rfl ⟨rfl, rfl, zA rfl rfl rfl (zA rfl rfl rfl (zA rfl rfl rfl (zA rfl rfl rfl (zA rfl rfl rfl (trivial))))), zC rfl rfl rfl rfl (zC rfl rfl rfl rfl (zC rfl rfl rfl rfl (zC rfl rfl rfl rfl (zC rfl rfl rfl rfl (zC rfl rfl rfl rfl (zC rfl rfl rfl rfl (zC rfl rfl rfl rfl (zC rfl rfl rfl rfl (zC rfl rfl rfl rfl (zC rfl rfl rfl rfl (zC rfl rfl rfl rfl (zC rfl rfl rfl rfl (trivial))))))))))))), trivial⟩
                          · rintro x15 rfl
                            change awp _ _ _ _ _ ⟨_, _, _, _⟩
                            refine cs_ rfl (fun hc => ?_) (fun hc => ?_)
                            · have ho34 := cT hc ho34
                              refine awp_skip ?_
                              refine awp_seq ?_
                              refine awp_block ?_
                              refine awp_seq ?_
                              refine awp_region ?_
                              refine rvs 3 rfl ?_
                              obtain ⟨x16, hx39, ho34⟩ := bi ho34
                              refine ri rfl rfl rfl rfl rfl rfl (gi0 hx39) (giM c_tAttr hx39) (wM (fun _ => by rfl) _) ?_
                              refine rv rfl rfl ?_
                              refine rs rfl rfl rfl rfl rfl rfl rfl ?_
                              refine rn ?_
                              refine awp_seq ?_
                              obtain ⟨o40, ho41, ho34⟩ := bi ho34
                              refine awp_cut1 (fun x => x = o40) (fun (x17 : Bool) => ⟨[(2, .ptr 0 0), (10, .ptr 1 0), (11, .ptr 2 0), (12, .int .i64 i6), (187, .bool x17)], [(0, 0, .int .i64 kind1), (0, 1, .str (sB name1)), (0, 2, .str (sB op1)), (0, 3, .sl (vals1.map c_tAttr)), (0, 4, .sl (cs_tFilter l1)), (1, 0, .str (sB x8.Name)), (1, 1, .bool x8.Text), (1, 2, .int .i64 x8.N), (1, 3, .str (sB x8.S)), (2, 0, .str (sB x16.Name)), (2, 1, .bool x16.Text), (2, 2, .int .i64 x16.N), (2, 3, .str (sB x16.S))], [], 3⟩) ?_ ?_
                              · refine awp_region ?_
                                refine rvs 6 rfl ?_
                                refine gs rfl rfl rfl rfl rfl (fun hg => ?_) (fun hg => ?_)
                                · have ho41 := cT hg ho41
                                  refine rv rfl rfl ?_
                                  refine gy rfl rfl rfl ?_
                                  refine rv rfl rfl ?_
                                  refine gy rfl rfl rfl ?_
                                  refine rv rfl rfl ?_
                                  refine gs rfl rfl rfl rfl rfl (fun hg => ?_) (fun hg => ?_)
                                  · have ho41 := cT hg ho41
                                    refine rv rfl rfl ?_
                                    refine gy rfl rfl rfl ?_
                                    refine rv rfl rfl ?_
                                    refine gy rfl rfl rfl ?_
                                    refine rv rfl rfl ?_
                                    refine gy rfl rfl rfl ?_
                                    refine rv rfl rfl ?_
                                    refine gy rfl rfl rfl ?_
                                    refine rv rfl rfl ?_
                                    refine rt (sEq x8.S x16.S) ?_
                                    refine gy rfl rfl rfl ?_
                                    refine rv rfl rfl ?_
                                    refine gy rfl rfl rfl ?_
                                    refine rv rfl rfl ?_
                                    refine gs rfl rfl rfl rfl rfl (fun hg => ?_) (fun hg => ?_)
                                    · have ho41 := cF hg ho41
                                      refine rv rfl rfl ?_
                                      refine gy rfl rfl rfl ?_
                                      refine rv rfl rfl ?_
                                      refine gy rfl rfl rfl ?_
                                      refine rv rfl rfl ?_
                                      refine gy rfl rfl rfl ?_
                                      refine rv rfl rfl ?_
                                      refine gs rfl rfl rfl rfl rfl (fun hg => ?_) (fun hg => ?_)
                                      · have ho41 := cT hg ho41
                                        refine rv rfl rfl ?_
                                        refine gy rfl rfl rfl ?_
                                        refine rv rfl rfl ?_
                                        refine gy rfl rfl rfl ?_
                                        refine rv rfl rfl ?_
                                        refine gy rfl rfl rfl ?_
                                        refine rv rfl rfl ?_
                                        refine gy rfl rfl rfl ?_
                                        refine rv rfl rfl ?_
                                        refine gy rfl rfl rfl ?_
                                        refine rv rfl rfl ?_
                                        refine gy rfl rfl rfl ?_
                                        refine rv rfl rfl ?_
                                        refine rv rfl rfl ?_
                                        refine rn ?_
                                        cases ho41
                                        exact cut_n [0, 1, 2] rfl rfl ⟨rfl, rfl, zA rfl rfl rfl (zA rfl rfl rfl (zA rfl rfl rfl (zA rfl rfl rfl (zA rfl rfl rfl (trivial))))), zC rfl rfl rfl rfl (zC rfl rfl rfl rfl (zC rfl rfl rfl rfl (zC rfl rfl rfl rfl (zC rfl rfl rfl rfl (zC rfl rfl rfl rfl (zC rfl rfl rfl rfl (zC rfl rfl rfl rfl (zC rfl rfl rfl rfl (zC rfl rfl rfl rfl (zC rfl rfl rfl rfl (zC rfl rfl rfl rfl (zC rfl rfl rfl rfl (trivial))))))))))))), trivial⟩
                                      · have ho41 := cF hg ho41
                                        refine gn rfl rfl rfl rfl rfl ?_
                                        refine gn rfl rfl rfl rfl rfl ?_
                                        refine gn rfl rfl rfl rfl rfl ?_
                                        refine gn rfl rfl rfl rfl rfl ?_
                                        refine gy rfl rfl rfl ?_
                                        refine rv rfl rfl ?_
                                        refine gy rfl rfl rfl ?_
                                        refine rv rfl rfl ?_
                                        refine rv rfl rfl ?_
                                        refine rn ?_
                                        cases ho41
                                        exact cut_n [0, 1, 2] rfl rfl ⟨rfl, rfl, zA rfl rfl rfl (zA rfl rfl rfl (zA rfl rfl rfl (zA rfl rfl rfl (zA rfl rfl rfl (trivial))))), zC rfl rfl rfl rfl (zC rfl rfl rfl rfl (zC rfl rfl rfl rfl (zC rfl rfl rfl rfl (zC rfl rfl rfl rfl (zC rfl rfl rfl rfl (zC rfl rfl rfl rfl (zC rfl rfl rfl rfl (zC rfl rfl rfl rfl (zC rfl rfl rfl rfl (zC rfl rfl rfl rfl (zC rfl rfl rfl rfl (zC rfl rfl rfl rfl (trivial))))))))))))), trivial⟩
                                    · have ho41 := cT hg ho41
                                      refine gn rfl rfl rfl rfl rfl ?_
                                      refine gn rfl rfl rfl rfl rfl ?_
                                      refine gn rfl rfl rfl rfl rfl ?_
                                      refine gu rfl rfl rfl rfl ?_
                                      refine gu rfl rfl rfl rfl ?_
                                      refine gu rfl rfl rfl rfl ?_
                                      refine gu rfl rfl rfl rfl ?_
                                      refine gu rfl rfl rfl rfl ?_
                                      refine gn rfl rfl rfl rfl rfl ?_
                                      refine gy rfl rfl rfl ?_
                                      refine rv rfl rfl ?_
                                      refine rv rfl rfl ?_
                                      refine rn ?_
                                      cases ho41
                                      exact cut_n [0, 1, 2] rfl rfl ⟨rfl, rfl, zA rfl rfl rfl (zA rfl rfl rfl (zA rfl rfl rfl (zA rfl rfl rfl (zA rfl rfl rfl (trivial))))), zC rfl rfl rfl rfl (zC rfl rfl rfl rfl (zC rfl rfl rfl rfl (zC rfl rfl rfl rfl (zC rfl rfl rfl rfl (zC rfl rfl rfl rfl (zC rfl rfl rfl rfl (zC rfl rfl rfl rfl (zC rfl rfl rfl rfl (zC rfl rfl rfl rfl (zC rfl rfl rfl rfl (zC rfl rfl rfl rfl (zC rfl rfl rfl rfl (trivial))))))))))))), trivial⟩
                                  · have ho41 := cF hg ho41
                                    refine gn rfl rfl rfl rfl rfl ?_
                                    refine gn rfl rfl rfl rfl rfl ?_
                                    refine gn rfl rfl rfl rfl rfl ?_
                                    refine gn rfl rfl rfl rfl rfl ?_
                                    refine gy rfl rfl rfl ?_
                                    refine rv rfl rfl ?_
                                    refine gy rfl rfl rfl ?_
                                    refine rv rfl rfl ?_
                                    refine gy rfl rfl rfl ?_
                                    refine rv rfl rfl ?_
                                    refine gy rfl rfl rfl ?_
                                    refine rv rfl rfl ?_
                                    refine gy rfl rfl rfl ?_
                                    refine rv rfl rfl ?_
                                    refine gy rfl rfl rfl ?_
                                    refine rv rfl rfl ?_
                                    refine gs rfl rfl rfl rfl rfl (fun hg => ?_) (fun hg => ?_)
                                    · have ho41 := cT hg ho41
                                      refine rv rfl rfl ?_
                                      refine gy rfl rfl rfl ?_
                                      refine rv rfl rfl ?_
                                      refine gy rfl rfl rfl ?_
                                      refine rv rfl rfl ?_
                                      refine gy rfl rfl rfl ?_
                                      refine rv rfl rfl ?_
                                      refine gy rfl rfl rfl ?_
                                      refine rv rfl rfl ?_
                                      refine gy rfl rfl rfl ?_
                                      refine rv rfl rfl ?_
                                      refine gy rfl rfl rfl ?_
                                      refine rv rfl rfl ?_
                                      refine rv rfl rfl ?_
                                      refine rn ?_
                                      cases ho41
                                      exact cut_n [0, 1, 2] rfl rfl ⟨rfl, rfl, zA rfl rfl rfl (zA rfl rfl rfl (zA rfl rfl rfl (zA rfl rfl rfl (zA rfl rfl rfl (trivial))))), zC rfl rfl rfl rfl (zC rfl rfl rfl rfl (zC rfl rfl rfl rfl (zC rfl rfl rfl rfl (zC rfl rfl rfl rfl (zC rfl rfl rfl rfl (zC rfl rfl rfl rfl (zC rfl rfl rfl rfl (zC rfl rfl rfl rfl (zC rfl rfl rfl rfl (zC rfl rfl rfl rfl (zC rfl rfl rfl rfl (zC rfl rfl rfl rfl (trivial))))))))))))), trivial⟩
                                    · have ho41 := cF hg ho41
                                      refine gn rfl rfl rfl rfl rfl ?_
                                      refine gn rfl rfl rfl rfl rfl ?_
                                      refine gn rfl rfl rfl rfl rfl ?_
                                      refine gn rfl rfl rfl rfl rfl ?_
                                      refine gy rfl rfl rfl ?_
                                      refine rv rfl rfl ?_
                                      refine gy rfl rfl rfl ?_
                                      refine rv rfl rfl ?_
                                      refine rv rfl rfl ?_
                                      refine rn ?_
                                      cases ho41
                                      exact cut_n [0, 1, 2] rfl rfl ⟨rfl, rfl, zA rfl rfl rfl (zA rfl rfl rfl (zA rfl rfl rfl (zA rfl rfl rfl (zA rfl rfl rfl (trivial))))), zC rfl rfl rfl rfl (zC rfl rfl rfl rfl (zC rfl rfl rfl rfl (zC rfl rfl rfl rfl (zC rfl rfl rfl rfl (zC rfl rfl rfl rfl (zC rfl rfl rfl rfl (zC rfl rfl rfl rfl (zC rfl rfl rfl rfl (zC rfl rfl rfl rfl (zC rfl rfl rfl rfl (zC rfl rfl rfl rfl (zC rfl rfl rfl rfl (trivial))))))))))))), trivial⟩
                                · have ho41 := cF hg ho41
                                  refine gn rfl rfl rfl rfl rfl ?_
                                  refine gn rfl rfl rfl rfl rfl ?_
                                  refine gu rfl rfl rfl rfl ?_
                                  refine gu rfl rfl rfl rfl ?_
                                  refine gu rfl rfl rfl rfl ?_
                                  refine gu rfl rfl rfl rfl ?_
                                  refine gu rfl rfl rfl rfl ?_
                                  refine gn rfl rfl rfl rfl rfl ?_
                                  refine gn rfl rfl rfl rfl rfl ?_
                                  refine gu rfl rfl rfl rfl ?_
                                  refine gu rfl rfl rfl rfl ?_
                                  refine gu rfl rfl rfl rfl ?_
                                  refine gu rfl rfl rfl rfl ?_
                                  refine gu rfl rfl rfl rfl ?_
                                  refine gu rfl rfl rfl rfl ?_
                                  refine gu rfl rfl rfl rfl ?_
                                  refine gu rfl rfl rfl rfl ?_
                                  refine gu rfl rfl rfl rfl ?_
                                  refine gu rfl rfl rfl rfl ?_
                                  refine gn rfl rfl rfl rfl rfl ?_
                                  refine rv rfl rfl ?_
                                  refine rn ?_
                                  cases ho41
                                  exact cut_n [0, 1, 2] rfl rfl ⟨rfl, rfl, zA rfl rfl rfl (zA rfl rfl rfl (zA rfl rfl rfl (zA rfl rfl rfl (zA rfl rfl rfl (trivial))))), zC rfl rfl rfl rfl (zC rfl rfl rfl rfl (zC rfl rfl rfl rfl (zC rfl rfl rfl rfl (zC rfl rfl rfl rfl (zC rfl rfl rfl rfl (zC rfl rfl rfl rfl (zC rfl rfl rfl rfl (zC rfl rfl rfl rfl (zC rfl rfl rfl rfl (zC rfl rfl rfl rfl (zC rfl rfl rfl rfl (zC rfl rfl rfl rfl (trivial))))))))))))), trivial⟩
                              · rintro x17 rfl
                                change awp _ _ _ _ _ ⟨_, _, _, _⟩
                                refine cs_ rfl (fun hc => ?_) (fun hc => ?_)
                                · have ho34 := cT hc ho34
                                  refine awp_seq ?_
                                  refine awp_region ?_
                                  refine rv rfl rfl ?_
                                  refine rn ?_
                                  refine awp_ret ?_
                                  cases ho34
                                  have hq := hE35 _ rfl
                                  subst hq
                                  have h := ksr h
                                  subst h
                                  repeat (first | refine then_ret ?_ | refine inBlock_ret ?_ | refine cut_r ?_)
                                  exact rr rfl rfl rfl
                                · have ho34 := cF hc ho34
                                  refine awp_skip ?_
                                  refine inBlock_normal ?_
                                  refine awp_region ?_
                                  refine rvs 3 rfl ?_
                                  refine rn ?_
                                  cases ho34
                                  exact lp_n [0, 1, 2] rfl rfl ⟨rfl, rfl, zA rfl rfl rfl (zA rfl rfl rfl (zA rfl rfl rfl (zA rfl rfl rfl (trivial)))), zC rfl rfl rfl rfl (zC rfl rfl rfl rfl (zC rfl rfl rfl rfl (zC rfl rfl rfl rfl (zC rfl rfl rfl rfl (zC rfl rfl rfl rfl (zC rfl rfl rfl rfl (zC rfl rfl rfl rfl (zC rfl rfl rfl rfl (zC rfl rfl rfl rfl (zC rfl rfl rfl rfl (zC rfl rfl rfl rfl (zC rfl rfl rfl rfl (trivial))))))))))))), trivial⟩
                            · have ho34 := cF hc ho34
                              refine awp_exit ?_
                              repeat (first | refine then_exit ?_ | refine cut_x ?_ | refine inBlock_other rfl ?_)
                              refine inBlock_exit ?_
                              cases ho34
                              have hq := hE35 _ rfl
                              subst hq
                              exact cut_n [] rfl rfl ⟨rfl, rfl, trivial, trivial, trivial⟩
                        · rintro _ rfl
                          have h := ksl h
                          refine awp_seq ?_
                          refine awp_region ?_
                          refine rv rfl rfl ?_
                          refine rn ?_
                          refine awp_ret ?_
                          cases h
                          repeat (first | refine then_ret ?_ | refine inBlock_ret ?_ | refine cut_r ?_)
                          exact rr rfl rfl rfl
end

theorem dref06_Holds_l : ∀ {fu : Nat}, ∀ {f1 l2} {r : Bool}, dref06_Holds fu f1 l2 = some r → PCall Try.prog 29 [.agg (c_tFilter f1), .sl (l2.map c_tAttr)] (· = .bool r)
  | 0 => fun h => by simp [dref06_Holds] at h
  | fu + 1 => dref06_Holds_s (fu := fu) (dref06_Holds_l (fu := fu))
mutual
def dref06_count : Nat → tFilter → Int → Option Int
  | 0, _, _ => none
  | fu + 1, f1, most1 => match f1 with | .mk kind1 name1 op1 vals1 l1 => (some (W ((W ((W (most1 - 1)) - (name1.length : Int))) - (op1.length : Int)))).bind fun most2 => (loopD (ε := Int × Int) (τ := Int) (fun (((most3, i1)) : Int × Int) => (bif (decide (i1 < (vals1.length : Int))) then ((gi vals1 i1).bind fun most6 => (gi vals1 i1).bind fun most7 => (some (W ((W ((W (most3 - 1)) - (most6.S.length : Int))) - (most7.Name.length : Int)))).bind fun most8 => some (Sum.inl (most8, W (i1 + 1)))) else some (Sum.inr most3))) fu (most2, 0)).bind fun (most5 : Int) => ((loopD (ε := Int × Int) (τ := Int) (fun (((most9, i3)) : Int × Int) => ((bif (decide (i3 < (l1.length : Int))) then some (decide (most9 ≥ 0)) else some false : Option Bool).bind fun (x1 : Bool) => (bif x1 then ((gi l1 i3).bind fun most12 => match most12 with | .mk kind2 name2 op2 vals2 l2 => (dref06_count fu (tFilter.mk kind2 name2 op2 vals2 l2) most9).bind fun most13 => some (Sum.inl (most13, W (i3 + 1)))) else some (Sum.inr most9)))) fu (most5, 0)).bind fun (most11 : Int) => some most11)
end
section
attribute [local irreducible] awp aops DP PCall ACall Decidable.decide
/-- `plover/ploverref06.count` -/
theorem dref06_count_s {fu : Nat} (ih_dref06_count : ∀ {f1 most1} {r : Int}, dref06_count fu f1 most1 = some r → PCall Try.prog 45 [.agg (c_tFilter f1), .int .i64 most1] (· = .int .i64 r)) : ∀ {f1 most1} {r : Int}, dref06_count (fu + 1) f1 most1 = some r → PCall Try.prog 45 [.agg (c_tFilter f1), .int .i64 most1] (· = .int .i64 r) := by
  intro f1 most1 r h
  obtain ⟨kind1, name1, op1, vals1, l1⟩ := f1
  rw [dref06_count] at h
  refine pcall_body Try.func45 rfl (by kernel_rfl) (by rfl) ?_
  refine awp_seq ?_
  refine awp_region ?_
  refine rb rfl rfl ?_
  refine rv rfl rfl ?_
  refine rn ?_
  refine awp_seq ?_
  refine awp_region ?_
  refine rvs 11 rfl ?_
  obtain ⟨most2, hx1, h⟩ := bs h
  refine rt (ei' hx1) ?_
  refine rn ?_
  refine awp_seq ?_
  refine awp_seq ?_
  refine awp_region ?_
  refine rv rfl rfl ?_
  refine rn ?_
  obtain ⟨e2, hl3, h⟩ := bi h
  refine awp_cut1 (fun x => x = e2) (fun (most5 : Int) => ⟨[(1, .int .i64 most5), (2, .ptr 0 0)], [(0, 0, .int .i64 kind1), (0, 1, .str (sB name1)), (0, 2, .str (sB op1)), (0, 3, .sl (vals1.map c_tAttr)), (0, 4, .sl (cs_tFilter l1))], [], 1⟩) ?_ ?_
  · refine awp_block ?_
    refine awp_loopD hl3 (fun (((most3, i1)) : Int × Int) => ⟨[(1, .int .i64 most3), (2, .ptr 0 0), (5, .int .i64 i1)], [(0, 0, .int .i64 kind1), (0, 1, .str (sB name1)), (0, 2, .str (sB op1)), (0, 3, .sl (vals1.map c_tAttr)), (0, 4, .sl (cs_tFilter l1))], [], 1⟩) [0] rfl ⟨rfl, rfl, zA rfl rfl rfl (zA rfl rfl rfl (zA rfl rfl rfl (trivial))), zC rfl rfl rfl rfl (zC rfl rfl rfl rfl (zC rfl rfl rfl rfl (zC rfl rfl rfl rfl (zC rfl rfl rfl rfl (trivial))))), trivial⟩ ?_
    intro v o6 ho4 hE5
    obtain ⟨most3, i1⟩ := v
    change awp _ _ _ _ _ ⟨_, _, _, _⟩
    refine awp_seq ?_
    refine awp_seq ?_
    refine awp_region ?_
    refine rvs 3 rfl ?_
    refine rv rfl rfl ?_
    refine rt ((lM c_tAttr vals1)) ?_
    refine rv rfl rfl ?_
    refine rn ?_
    refine cs_ rfl (fun hc => ?_) (fun hc => ?_)
    · have ho4 := cT hc ho4
      refine awp_skip ?_
      refine awp_seq ?_
      refine awp_block ?_
      refine awp_dp (m := 18) Try.mix (by kernel_rfl) (by kernel_rfl) (by kernel_rfl) (by kernel_rfl) (by kernel_rfl) (by kernel_rfl) (by kernel_rfl) ?_
      refine dv rfl rfl (fun _ => rfl) ?_
      refine dv rfl rfl (fun _ => rfl) ?_
      refine dv rfl rfl (fun _ => rfl) ?_
      refine dv rfl rfl (fun _ => rfl) ?_
      refine dv rfl rfl (fun _ => rfl) ?_
      obtain ⟨most6, hx7, ho4⟩ := bi ho4
      refine di rfl rfl rfl rfl rfl (fun _ => rfl) rfl (gi0 hx7) (giM c_tAttr hx7) (wM (fun _ => by rfl) _) ?_
      refine dv rfl rfl (fun _ => rfl) ?_
      refine dv rfl rfl (fun _ => rfl) ?_
      refine dv rfl rfl (fun _ => rfl) ?_
      refine dv rfl rfl (fun _ => rfl) ?_
      refine dv rfl rfl (fun _ => rfl) ?_
      refine dv rfl rfl (fun _ => rfl) ?_
      refine dv rfl rfl (fun _ => rfl) ?_
      obtain ⟨most7, hx8, ho4⟩ := bi ho4
      refine di rfl rfl rfl rfl rfl (fun _ => rfl) rfl (gi0 hx8) (giM c_tAttr hx8) (wM (fun _ => by rfl) _) ?_
      refine dv rfl rfl (fun _ => rfl) ?_
      refine dv rfl rfl (fun _ => rfl) ?_
      refine dv rfl rfl (fun _ => rfl) ?_
      refine dv rfl rfl (fun _ => rfl) ?_
      refine dn ?_
      refine rv rfl rfl ?_
      obtain ⟨most8, hx9, ho4⟩ := bs ho4
      refine rt (ei' hx9) ?_
      refine rn ?_
      refine inBlock_normal ?_
      refine awp_region ?_
      refine rvs 3 rfl ?_
      refine rn ?_
      cases ho4
      exact lp_n [0] rfl rfl ⟨rfl, rfl, zA rfl rfl rfl (zA rfl rfl rfl (zA rfl rfl rfl (trivial))), zC rfl rfl rfl rfl (zC rfl rfl rfl rfl (zC rfl rfl rfl rfl (zC rfl rfl rfl rfl (zC rfl rfl rfl rfl (trivial))))), trivial⟩
    · have ho4 := cF hc ho4
      refine awp_exit ?_
      repeat (first | refine then_exit ?_ | refine cut_x ?_ | refine inBlock_other rfl ?_)
      refine inBlock_exit ?_
      cases ho4
      have hq := hE5 _ rfl
      subst hq
      exact cut_n [0] rfl rfl ⟨rfl, rfl, zA rfl rfl rfl (zA rfl rfl rfl (trivial)), zC rfl rfl rfl rfl (zC rfl rfl rfl rfl (zC rfl rfl rfl rfl (zC rfl rfl rfl rfl (zC rfl rfl rfl rfl (trivial))))), trivial⟩
  · rintro most5 rfl
    change awp _ _ _ _ _ ⟨_, _, _, _⟩
    refine awp_seq ?_
    refine awp_seq ?_
    refine awp_region ?_
    refine rv rfl rfl ?_
    refine rn ?_
    obtain ⟨e10, hl11, h⟩ := bi h
    refine awp_cut1 (fun x => x = e10) (fun (most11 : Int) => ⟨[(1, .int .i64 most11)], [], [], 0⟩) ?_ ?_
    · refine awp_block ?_
      refine awp_loopD hl11 (fun (((most9, i3)) : Int × Int) => ⟨[(1, .int .i64 most9), (2, .ptr 0 0), (6, .int .i64 i3)], [(0, 0, .int .i64 kind1), (0, 1, .str (sB name1)), (0, 2, .str (sB op1)), (0, 3, .sl (vals1.map c_tAttr)), (0, 4, .sl (cs_tFilter l1))], [], 1⟩) [0] rfl ⟨rfl, rfl, zA rfl rfl rfl (zA rfl rfl rfl (zA rfl rfl rfl (trivial))), zC rfl rfl rfl rfl (zC rfl rfl rfl rfl (zC rfl rfl rfl rfl (zC rfl rfl rfl rfl (zC rfl rfl rfl rfl (trivial))))), trivial⟩ ?_
      intro v o14 ho12 hE13
      obtain ⟨most9, i3⟩ := v
      change awp _ _ _ _ _ ⟨_, _, _, _⟩
      refine awp_seq ?_
      refine awp_seq ?_
      obtain ⟨o15, ho16, ho12⟩ := bi ho12
      refine awp_cut1 (fun x => x = o15) (fun (x1 : Bool) => ⟨[(1, .int .i64 most9), (2, .ptr 0 0), (6, .int .i64 i3), (50, .bool x1)], [(0, 0, .int .i64 kind1), (0, 1, .str (sB name1)), (0, 2, .str (sB op1)), (0, 3, .sl (vals1.map c_tAttr)), (0, 4, .sl (cs_tFilter l1))], [], 1⟩) ?_ ?_
      · refine awp_region ?_
        refine rvs 3 rfl ?_
        refine rv rfl rfl ?_
        refine rt ((lM_tFilter l1)) ?_
        refine rvs 2 rfl ?_
        refine gs rfl rfl rfl rfl rfl (fun hg => ?_) (fun hg => ?_)
        · have ho16 := cT hg ho16
          refine rv rfl rfl ?_
          refine gy rfl rfl rfl ?_
          refine rv rfl rfl ?_
          refine rv rfl rfl ?_
          refine rn ?_
          cases ho16
          exact cut_n [0] rfl rfl ⟨rfl, rfl, zA rfl rfl rfl (zA rfl rfl rfl (zA rfl rfl rfl (zA rfl rfl rfl (trivial)))), zC rfl rfl rfl rfl (zC rfl rfl rfl rfl (zC rfl rfl rfl rfl (zC rfl rfl rfl rfl (zC rfl rfl rfl rfl (trivial))))), trivial⟩
        · have ho16 := cF hg ho16
          refine gn rfl rfl rfl rfl rfl ?_
          refine rv rfl rfl ?_
          refine rn ?_
          cases ho16
          exact cut_n [0] rfl rfl ⟨rfl, rfl, zA rfl rfl rfl (zA rfl rfl rfl (zA rfl rfl rfl (zA rfl rfl rfl (trivial)))), zC rfl rfl rfl rfl (zC rfl rfl rfl rfl (zC rfl rfl rfl rfl (zC rfl rfl rfl rfl (zC rfl rfl rfl rfl (trivial))))), trivial⟩
      · rintro x1 rfl
        change awp _ _ _ _ _ ⟨_, _, _, _⟩
        refine cs_ rfl (fun hc => ?_) (fun hc => ?_)
        · have ho12 := cT hc ho12
          refine awp_skip ?_
          refine awp_seq ?_
          refine awp_block ?_
          refine awp_region ?_
          refine rvs 3 rfl ?_
          obtain ⟨most12, hx17, ho12⟩ := bi ho12
          refine ri rfl rfl rfl rfl rfl rfl (gi0 hx17) (giM_tFilter hx17) (wM_tFilter _) ?_
          obtain ⟨kind2, name2, op2, vals2, l2⟩ := most12
          refine rvs 2 rfl ?_
          obtain ⟨most13, hx18, ho12⟩ := bi ho12
          refine rc1 rfl rfl rfl (ih_dref06_count hx18) ?_
          refine rv rfl rfl ?_
          refine rn ?_
          refine inBlock_normal ?_
          refine awp_region ?_
          refine rvs 3 rfl ?_
          refine rn ?_
          cases ho12
          exact lp_n [0] rfl rfl ⟨rfl, rfl, zA rfl rfl rfl (zA rfl rfl rfl (zA rfl rfl rfl (trivial))), zC rfl rfl rfl rfl (zC rfl rfl rfl rfl (zC rfl rfl rfl rfl (zC rfl rfl rfl rfl (zC rfl rfl rfl rfl (trivial))))), trivial⟩
        · have ho12 := cF hc ho12
          refine awp_exit ?_
          repeat (first | refine then_exit ?_ | refine cut_x ?_ | refine inBlock_other rfl ?_)
          refine inBlock_exit ?_
          cases ho12
          have hq := hE13 _ rfl
          subst hq
          exact cut_n [] rfl rfl ⟨rfl, rfl, zA rfl rfl rfl (trivial), trivial, trivial⟩
    · rintro most11 rfl
      refine awp_seq ?_
      refine awp_region ?_
      refine rvs 2 rfl ?_
      refine rn ?_
      refine awp_ret ?_
      cases h
      repeat (first | refine then_ret ?_ | refine inBlock_ret ?_ | refine cut_r ?_)
      exact rr rfl rfl rfl
end

theorem dref06_count_l : ∀ {fu : Nat}, ∀ {f1 most1} {r : Int}, dref06_count fu f1 most1 = some r → PCall Try.prog 45 [.agg (c_tFilter f1), .int .i64 most1] (· = .int .i64 r)
  | 0 => fun h => by simp [dref06_count] at h
  | fu + 1 => dref06_count_s (fu := fu) (dref06_count_l (fu := fu))
/-- `plover/ploverref06.Few` -/
def dref06_Few (fu : Nat) (f1 : tFilter) : Option Bool :=
  match f1 with | .mk kind1 name1 op1 vals1 l1 => (dref06_count fu (tFilter.mk kind1 name1 op1 vals1 l1) 5000).bind fun x1 => some (decide (x1 ≥ 0))
section
attribute [local irreducible] awp aops DP PCall ACall Decidable.decide
theorem dref06_Few_l {fu : Nat} {f1 : tFilter} {r : Bool} (h : dref06_Few fu f1 = some r) : PCall Try.prog 26 [.agg (c_tFilter f1)] (· = .bool r) := by
  obtain ⟨kind1, name1, op1, vals1, l1⟩ := f1
  rw [dref06_Few] at h
  refine pcall_body Try.func26 rfl (by kernel_rfl) (by rfl) ?_
  refine awp_seq ?_
  refine awp_region ?_
  refine rb rfl rfl ?_
  refine rv rfl rfl ?_
  refine rn ?_
  refine awp_seq ?_
  refine awp_region ?_
  refine rv rfl rfl ?_
  obtain ⟨x1, hx1, h⟩ := bi h
  refine rc1 rfl rfl rfl (dref06_count_l hx1) ?_
  refine rvs 2 rfl ?_
  refine rn ?_
  refine awp_ret ?_
  cases h
  repeat (first | refine then_ret ?_ | refine inBlock_ret ?_ | refine cut_r ?_)
  exact rr rfl rfl rfl
end

/-- `plover/ploverref06.Attrs` -/
def dref06_Attrs (fu : Nat) (l1 : List tAttr) : Option Bool :=
  (loopD (ε := Int) (τ := Unit ⊕ Bool) (fun (i1 : Int) => (bif (decide (i1 < (l1.length : Int))) then (((gi l1 i1).bind fun x2 => bif (decide ((x2.Name.length : Int) > 300)) then some true else ((gi l1 i1).bind fun x3 => some (decide ((x3.S.length : Int) > 300))) : Option Bool).bind fun (x1 : Bool) => (bif x1 then some (Sum.inr (Sum.inr false)) else some (Sum.inl (W (i1 + 1))))) else some (Sum.inr (Sum.inl ())))) fu 0).bind fun o => kS o fun (_ : Unit) => ((some (decide ((l1.length : Int) ≤ 40))).bind fun x4 => some x4)
section
attribute [local irreducible] awp aops DP PCall ACall Decidable.decide
theorem dref06_Attrs_l {fu : Nat} {l1 : List tAttr} {r : Bool} (h : dref06_Attrs fu l1 = some r) : PCall Try.prog 27 [.sl (l1.map c_tAttr)] (· = .bool r) := by
  rw [dref06_Attrs] at h
  refine pcall_body Try.func27 rfl (by kernel_rfl) (by rfl) ?_
  refine awp_seq ?_
  refine awp_region ?_
  refine rv rfl rfl ?_
  refine rn ?_
  refine awp_seq ?_
  refine awp_seq ?_
  refine awp_region ?_
  refine rv rfl rfl ?_
  refine rn ?_
  obtain ⟨e1, hl2, h⟩ := bi h
  refine awp_cut1 (fun x => Sum.inl x = e1) (fun (_ : Unit) => ⟨[(0, .sl (l1.map c_tAttr))], [], [], 0⟩) ?_ ?_
  · refine awp_block ?_
    refine awp_loopD hl2 (fun (i1 : Int) => ⟨[(0, .sl (l1.map c_tAttr)), (3, .int .i64 i1)], [], [], 0⟩) [] rfl ⟨rfl, rfl, zA rfl rfl rfl (zA rfl rfl rfl (trivial)), trivial, trivial⟩ ?_
    intro i1 o5 ho3 hE4
    change awp _ _ _ _ _ ⟨_, _, _, _⟩
    refine awp_seq ?_
    refine awp_seq ?_
    refine awp_region ?_
    refine rvs 2 rfl ?_
    refine rv rfl rfl ?_
    refine rt ((lM c_tAttr l1)) ?_
    refine rv rfl rfl ?_
    refine rn ?_
    refine cs_ rfl (fun hc => ?_) (fun hc => ?_)
    · have ho3 := cT hc ho3
      refine awp_skip ?_
      refine awp_seq ?_
      refine awp_block ?_
      refine awp_seq ?_
      obtain ⟨o6, ho7, ho3⟩ := bi ho3
      refine awp_cut1 (fun x => x = o6) (fun (x1 : Bool) => ⟨[(0, .sl (l1.map c_tAttr)), (3, .int .i64 i1), (25, .bool x1)], [], [], 0⟩) ?_ ?_
      · refine awp_region ?_
        refine rvs 2 rfl ?_
        obtain ⟨x2, hx8, ho7⟩ := bi ho7
        refine ri rfl rfl rfl rfl rfl rfl (gi0 hx8) (giM c_tAttr hx8) (wM (fun _ => by rfl) _) ?_
        refine rvs 5 rfl ?_
        refine gs rfl rfl rfl rfl rfl (fun hg => ?_) (fun hg => ?_)
        · have ho7 := cF hg ho7
          refine rv rfl rfl ?_
          refine gy rfl rfl rfl ?_
          refine rv rfl rfl ?_
          refine gy rfl rfl rfl ?_
          obtain ⟨x3, hx9, ho7⟩ := bi ho7
          refine ri rfl rfl rfl rfl rfl rfl (gi0 hx9) (giM c_tAttr hx9) (wM (fun _ => by rfl) _) ?_
          refine gy rfl rfl rfl ?_
          refine rv rfl rfl ?_
          refine gy rfl rfl rfl ?_
          refine rv rfl rfl ?_
          refine gy rfl rfl rfl ?_
          refine rv rfl rfl ?_
          refine gy rfl rfl rfl ?_
          refine rv rfl rfl ?_
          refine rv rfl rfl ?_
          refine rn ?_
          cases ho7
          exact cut_n [] rfl rfl ⟨rfl, rfl, zA rfl rfl rfl (zA rfl rfl rfl (zA rfl rfl rfl (trivial))), trivial, trivial⟩
        · have ho7 := cT hg ho7
          refine gn rfl rfl rfl rfl rfl ?_
          refine gn rfl rfl rfl rfl rfl ?_
          refine gn rfl rfl rfl rfl rfl ?_
          refine gn rfl rfl rfl rfl rfl ?_
          refine gn rfl rfl rfl rfl rfl ?_
          refine gn rfl rfl rfl rfl rfl ?_
          refine rv rfl rfl ?_
          refine rn ?_
          cases ho7
          exact cut_n [] rfl rfl ⟨rfl, rfl, zA rfl rfl rfl (zA rfl rfl rfl (zA rfl rfl rfl (trivial))), trivial, trivial⟩
      · rintro x1 rfl
        change awp _ _ _ _ _ ⟨_, _, _, _⟩
        refine cs_ rfl (fun hc => ?_) (fun hc => ?_)
        · have ho3 := cT hc ho3
          refine awp_seq ?_
          refine awp_region ?_
          refine rv rfl rfl ?_
          refine rn ?_
          refine awp_ret ?_
          cases ho3
          have hq := hE4 _ rfl
          subst hq
          have h := ksr h
          subst h
          repeat (first | refine then_ret ?_ | refine inBlock_ret ?_ | refine cut_r ?_)
          exact rr rfl rfl rfl
        · have ho3 := cF hc ho3
          refine awp_skip ?_
          refine inBlock_normal ?_
          refine awp_region ?_
          refine rvs 3 rfl ?_
          refine rn ?_
          cases ho3
          exact lp_n [] rfl rfl ⟨rfl, rfl, zA rfl rfl rfl (zA rfl rfl rfl (trivial)), trivial, trivial⟩
    · have ho3 := cF hc ho3
      refine awp_exit ?_
      repeat (first | refine then_exit ?_ | refine cut_x ?_ | refine inBlock_other rfl ?_)
      refine inBlock_exit ?_
      cases ho3
      have hq := hE4 _ rfl
      subst hq
      exact cut_n [] rfl rfl ⟨rfl, rfl, zA rfl rfl rfl (trivial), trivial, trivial⟩
  · rintro _ rfl
    have h := ksl h
    change awp _ _ _ _ _ ⟨_, _, _, _⟩
    refine awp_seq ?_
    refine awp_region ?_
    refine rv rfl rfl ?_
    refine rv rfl rfl ?_
    refine rt ((lM c_tAttr l1)) ?_
    refine rvs 2 rfl ?_
    obtain ⟨x4, hx10, h⟩ := bs h
    refine rt (eb' hx10) ?_
    refine rn ?_
    refine awp_ret ?_
    cases h
    repeat (first | refine then_ret ?_ | refine inBlock_ret ?_ | refine cut_r ?_)
    exact rr rfl rfl rfl
end

mutual
def dref06_names : Nat → tFilter → Option (List Str)
  | 0, _ => none
  | fu + 1, f1 => match f1 with | .mk kind1 name1 op1 vals1 l1 => (bif (!(name1 == [])) then ((ap [] [name1]).bind fun out2 => some out2) else some [] : Option (List Str)).bind fun (out1 : List Str) => ((loopD (ε := Int × (List Str)) (τ := List Str) (fun (((i1, out3)) : Int × (List Str)) => (bif (decide (i1 < (l1.length : Int))) then ((gi l1 i1).bind fun out6 => match out6 with | .mk kind2 name2 op2 vals2 l2 => (dref06_names fu (tFilter.mk kind2 name2 op2 vals2 l2)).bind fun out7 => (ap out3 out7).bind fun out8 => some (Sum.inl (W (i1 + 1), out8))) else some (Sum.inr out3))) fu (0, out1)).bind fun (out5 : List Str) => some out5)
end
section
attribute [local irreducible] awp aops DP PCall ACall Decidable.decide
/-- `plover/ploverref06.names` -/
theorem dref06_names_s {fu : Nat} (ih_dref06_names : ∀ {f1} {r : List Str}, dref06_names fu f1 = some r → PCall Try.prog 52 [.agg (c_tFilter f1)] (· = .sl (r.map cS))) : ∀ {f1} {r : List Str}, dref06_names (fu + 1) f1 = some r → PCall Try.prog 52 [.agg (c_tFilter f1)] (· = .sl (r.map cS)) := by
  intro f1 r h
  obtain ⟨kind1, name1, op1, vals1, l1⟩ := f1
  rw [dref06_names] at h
  refine pcall_body Try.func52 rfl (by kernel_rfl) (by rfl) ?_
  refine awp_seq ?_
  refine awp_region ?_
  refine rb rfl rfl ?_
  refine rv rfl rfl ?_
  refine rn ?_
  refine awp_seq ?_
  refine awp_region ?_
  refine rv rfl rfl ?_
  refine rn ?_
  refine awp_seq ?_
  refine awp_seq ?_
  refine awp_region ?_
  refine rvs 2 rfl ?_
  refine rv rfl rfl ?_
  refine rt (sNe name1 []) ?_
  refine rn ?_
  obtain ⟨o1, ho2, h⟩ := bi h
  refine awp_cut1 (fun x => x = o1) (fun (out1 : List Str) => ⟨[(1, .ptr 0 0), (3, .own 1)], [(0, 0, .int .i64 kind1), (0, 1, .str (sB name1)), (0, 2, .str (sB op1)), (0, 3, .sl (vals1.map c_tAttr)), (0, 4, .sl (cs_tFilter l1))], [(1, .row 1 (out1.map cS))], 2⟩) ?_ ?_
  · refine cs_ rfl (fun hc => ?_) (fun hc => ?_)
    · have ho2 := cT hc ho2
      refine awp_region ?_
      refine rvs 3 rfl ?_
      refine rbs false rfl rfl rfl rfl rfl rfl rfl rfl rfl rfl ?_
      obtain ⟨out2, hx3, ho2⟩ := bi ho2
      refine rap false (xs := [].map cS) (ys := [name1].map cS) rfl rfl rfl rfl rfl rfl rfl (.nil rfl) (.sl rfl rfl rfl) (wM (fun _ => by rfl) _) (oM (fun _ => by rfl) _) (apB cS rfl hx3) rfl ?_
      refine rk (congrArg (Kind.row _) (apM cS hx3)) ?_
      refine rv rfl rfl ?_
      refine rn ?_
      cases ho2
      exact cut_n [0, 2] rfl rfl ⟨rfl, rfl, zA rfl rfl rfl (zA rfl rfl rfl (trivial)), zC rfl rfl rfl rfl (zC rfl rfl rfl rfl (zC rfl rfl rfl rfl (zC rfl rfl rfl rfl (zC rfl rfl rfl rfl (trivial))))), zE rfl .row rfl (trivial)⟩
    · have ho2 := cF hc ho2
      refine awp_conv (fun _ _ _ _ _ hi => nilS_slot false 1 3 rfl hi) ?_
      refine awp_skip ?_
      cases ho2
      exact cut_n [0, 1] rfl rfl ⟨rfl, rfl, zA rfl rfl rfl (zA rfl rfl rfl (trivial)), zC rfl rfl rfl rfl (zC rfl rfl rfl rfl (zC rfl rfl rfl rfl (zC rfl rfl rfl rfl (zC rfl rfl rfl rfl (trivial))))), zE rfl .row rfl (trivial)⟩
  · rintro out1 rfl
    change awp _ _ _ _ _ ⟨_, _, _, _⟩
    refine awp_seq ?_
    refine awp_seq ?_
    refine awp_region ?_
    refine rv rfl rfl ?_
    refine rn ?_
    obtain ⟨e4, hl5, h⟩ := bi h
    refine awp_cut1 (fun x => x = e4) (fun (out5 : List Str) => ⟨[(3, .own 0)], [], [(0, .row 1 (out5.map cS))], 1⟩) ?_ ?_
    · refine awp_block ?_
      refine awp_loopD hl5 (fun (((i1, out3)) : Int × (List Str)) => ⟨[(1, .ptr 0 0), (3, .own 1), (4, .int .i64 i1)], [(0, 0, .int .i64 kind1), (0, 1, .str (sB name1)), (0, 2, .str (sB op1)), (0, 3, .sl (vals1.map c_tAttr)), (0, 4, .sl (cs_tFilter l1))], [(1, .row 1 (out3.map cS))], 2⟩) [0, 1] rfl ⟨rfl, rfl, zA rfl rfl rfl (zA rfl rfl rfl (zA rfl rfl rfl (trivial))), zC rfl rfl rfl rfl (zC rfl rfl rfl rfl (zC rfl rfl rfl rfl (zC rfl rfl rfl rfl (zC rfl rfl rfl rfl (trivial))))), zE rfl .row rfl (trivial)⟩ ?_
      intro v o8 ho6 hE7
      obtain ⟨i1, out3⟩ := v
      change awp _ _ _ _ _ ⟨_, _, _, _⟩
      refine awp_seq ?_
      refine awp_seq ?_
      refine awp_region ?_
      refine rvs 3 rfl ?_
      refine rv rfl rfl ?_
      refine rt ((lM_tFilter l1)) ?_
      refine rv rfl rfl ?_
      refine rn ?_
      refine cs_ rfl (fun hc => ?_) (fun hc => ?_)
      · have ho6 := cT hc ho6
        refine awp_skip ?_
        refine awp_seq ?_
        refine awp_block ?_
        refine awp_region ?_
        refine rvs 4 rfl ?_
        obtain ⟨out6, hx9, ho6⟩ := bi ho6
        refine ri rfl rfl rfl rfl rfl rfl (gi0 hx9) (giM_tFilter hx9) (wM_tFilter _) ?_
        obtain ⟨kind2, name2, op2, vals2, l2⟩ := out6
        refine rv rfl rfl ?_
        obtain ⟨out7, hx10, ho6⟩ := bi ho6
        refine rc1 rfl rfl rfl (ih_dref06_names hx10) ?_
        obtain ⟨out8, hx11, ho6⟩ := bi ho6
        refine rap false (xs := out3.map cS) (ys := out7.map cS) rfl rfl rfl rfl rfl rfl rfl (.own rfl rfl) (.sl rfl rfl rfl) (wM (fun _ => by rfl) _) (oM (fun _ => by rfl) _) (apB cS rfl hx11) rfl ?_
        refine rk (congrArg (Kind.row _) (apM cS hx11)) ?_
        refine rv rfl rfl ?_
        refine rn ?_
        refine inBlock_normal ?_
        refine awp_region ?_
        refine rvs 3 rfl ?_
        refine rn ?_
        cases ho6
        exact lp_n [0, 2] rfl rfl ⟨rfl, rfl, zA rfl rfl rfl (zA rfl rfl rfl (zA rfl rfl rfl (trivial))), zC rfl rfl rfl rfl (zC rfl rfl rfl rfl (zC rfl rfl rfl rfl (zC rfl rfl rfl rfl (zC rfl rfl rfl rfl (trivial))))), zE rfl .row rfl (trivial)⟩
      · have ho6 := cF hc ho6
        refine awp_exit ?_
        repeat (first | refine then_exit ?_ | refine cut_x ?_ | refine inBlock_other rfl ?_)
        refine inBlock_exit ?_
        cases ho6
        have hq := hE7 _ rfl
        subst hq
        exact cut_n [1] rfl rfl ⟨rfl, rfl, zA rfl rfl rfl (trivial), trivial, zE rfl .row rfl (trivial)⟩
    · rintro out5 rfl
      refine awp_seq ?_
      refine awp_region ?_
      refine rvs 2 rfl ?_
      refine rn ?_
      refine awp_ret ?_
      cases h
      repeat (first | refine then_ret ?_ | refine inBlock_ret ?_ | refine cut_r ?_)
      exact rr rfl rfl rfl
end

theorem dref06_names_l : ∀ {fu : Nat}, ∀ {f1} {r : List Str}, dref06_names fu f1 = some r → PCall Try.prog 52 [.agg (c_tFilter f1)] (· = .sl (r.map cS))
  | 0 => fun h => by simp [dref06_names] at h
  | fu + 1 => dref06_names_s (fu := fu) (dref06_names_l (fu := fu))
/-- `plover/ploverref06.Names` -/
def dref06_Names (fu : Nat) (f1 : tFilter) : Option (List Str) :=
  match f1 with | .mk kind1 name1 op1 vals1 l1 => (dref06_names fu (tFilter.mk kind1 name1 op1 vals1 l1)).bind fun l2 => (loopD (ε := Int × (List Str)) (τ := List Str) (fun (((i1, out1)) : Int × (List Str)) => (bif (decide (i1 < (l2.length : Int))) then (((loopD (ε := Int) (τ := Int) (fun (at1 : Int) => ((bif (decide (at1 < (out1.length : Int))) then ((gi out1 at1).bind fun x2 => (gi l2 i1).bind fun x3 => some (Op.bytesLess x2 x3)) else some false : Option Bool).bind fun (x1 : Bool) => (bif x1 then some (Sum.inl (W (at1 + 1))) else some (Sum.inr at1)))) fu 0).bind fun (at3 : Int) => (bif (decide (at3 < (out1.length : Int))) then ((gi out1 at3).bind fun x4 => (gi l2 i1).bind fun x5 => bif (x4 == x5) then some out1 else ((gsl out1 0 at3).bind fun l3 => (ap [] l3).bind fun next1 => (gi l2 i1).bind fun next2 => (ap next1 [next2]).bind fun next3 => (gsl out1 at3 (out1.length : Int)).bind fun l4 => (ap next3 l4).bind fun out5 => some out5)) else ((gsl out1 0 at3).bind fun l5 => (ap [] l5).bind fun next4 => (gi l2 i1).bind fun next5 => (ap next4 [next5]).bind fun next6 => (gsl out1 at3 (out1.length : Int)).bind fun l6 => (ap next6 l6).bind fun out6 => some out6)) : Option (List Str)).bind fun (out4 : List Str) => some (Sum.inl (W (i1 + 1), out4))) else some (Sum.inr out1))) fu (0, [])).bind fun (out3 : List Str) => some out3
section
attribute [local irreducible] awp aops DP PCall ACall Decidable.decide
theorem dref06_Names_l {fu : Nat} {f1 : tFilter} {r : List Str} (h : dref06_Names fu f1 = some r) : PCall Try.prog 31 [.agg (c_tFilter f1)] (· = .sl (r.map cS)) := by
  obtain ⟨kind1, name1, op1, vals1, l1⟩ := f1
  rw [dref06_Names] at h
  refine pcall_body Try.func31 rfl (by kernel_rfl) (by rfl) ?_
  refine awp_seq ?_
  refine awp_region ?_
  refine rb rfl rfl ?_
  refine rv rfl rfl ?_
  refine rn ?_
  refine awp_seq ?_
  refine awp_region ?_
  refine rv rfl rfl ?_
  refine rn ?_
  refine awp_seq ?_
  refine awp_region ?_
  refine rv rfl rfl ?_
  obtain ⟨l2, hx1, h⟩ := bi h
  refine rc1 rfl rfl rfl (dref06_names_l hx1) ?_
  refine rv rfl rfl ?_
  refine rn ?_
  refine awp_seq ?_
  refine awp_seq ?_
  refine awp_region ?_
  refine rv rfl rfl ?_
  refine rn ?_
  refine awp_conv (fun _ _ _ _ _ hi => nilS_slot false 1 3 rfl hi) ?_
  obtain ⟨e2, hl3, h⟩ := bi h
  refine awp_cut1 (fun x => x = e2) (fun (out3 : List Str) => ⟨[(3, .own 0)], [], [(0, .row 1 (out3.map cS))], 1⟩) ?_ ?_
  · refine awp_block ?_
    refine awp_loopD hl3 (fun (((i1, out1)) : Int × (List Str)) => ⟨[(3, .own 0), (4, .sl (l2.map cS)), (5, .int .i64 i1)], [], [(0, .row 1 (out1.map cS))], 1⟩) [1] rfl ⟨rfl, rfl, zA rfl rfl rfl (zA rfl rfl rfl (zA rfl rfl rfl (trivial))), trivial, zE rfl .row rfl (trivial)⟩ ?_
    intro v o6 ho4 hE5
    obtain ⟨i1, out1⟩ := v
    change awp _ _ _ _ _ ⟨_, _, _, _⟩
    refine awp_seq ?_
    refine awp_seq ?_
    refine awp_region ?_
    refine rvs 2 rfl ?_
    refine rv rfl rfl ?_
    refine rt ((lM cS l2)) ?_
    refine rv rfl rfl ?_
    refine rn ?_
    refine cs_ rfl (fun hc => ?_) (fun hc => ?_)
    · have ho4 := cT hc ho4
      refine awp_skip ?_
      refine awp_seq ?_
      obtain ⟨o7, ho8, ho4⟩ := bi ho4
      refine awp_cut1 (fun x => x = o7) (fun (out4 : List Str) => ⟨[(3, .own 0), (4, .sl (l2.map cS)), (5, .int .i64 i1)], [], [(0, .row 1 (out4.map cS))], 1⟩) ?_ ?_
      · refine awp_block ?_
        refine awp_seq ?_
        refine awp_region ?_
        refine rv rfl rfl ?_
        refine rn ?_
        refine awp_seq ?_
        obtain ⟨e9, hl10, ho8⟩ := bi ho8
        refine awp_cut1 (fun x => x = e9) (fun (at3 : Int) => ⟨[(3, .own 0), (4, .sl (l2.map cS)), (5, .int .i64 i1), (6, .int .i64 at3)], [], [(0, .row 1 (out1.map cS))], 1⟩) ?_ ?_
        · refine awp_block ?_
          refine awp_loopD hl10 (fun (at1 : Int) => ⟨[(3, .own 0), (4, .sl (l2.map cS)), (5, .int .i64 i1), (6, .int .i64 at1)], [], [(0, .row 1 (out1.map cS))], 1⟩) [0] rfl ⟨rfl, rfl, zA rfl rfl rfl (zA rfl rfl rfl (zA rfl rfl rfl (zA rfl rfl rfl (trivial)))), trivial, zE rfl .row rfl (trivial)⟩ ?_
          intro at1 o13 ho11 hE12
          change awp _ _ _ _ _ ⟨_, _, _, _⟩
          refine awp_seq ?_
          refine awp_seq ?_
          obtain ⟨o14, ho15, ho11⟩ := bi ho11
          refine awp_cut1 (fun x => x = o14) (fun (x1 : Bool) => ⟨[(3, .own 0), (4, .sl (l2.map cS)), (5, .int .i64 i1), (6, .int .i64 at1), (30, .bool x1)], [], [(0, .row 1 (out1.map cS))], 1⟩) ?_ ?_
          · refine awp_dp (m := 15) Try.mix (by kernel_rfl) (by kernel_rfl) (by kernel_rfl) (by kernel_rfl) (by kernel_rfl) (by kernel_rfl) (by kernel_rfl) ?_
            refine dv rfl rfl (fun _ => rfl) ?_
            refine dv rfl rfl (fun _ => rfl) ?_
            refine dv rfl rfl (fun _ => rfl) ?_
            refine dt ((lM cS out1)) ?_
            refine dv rfl rfl (fun _ => rfl) ?_
            refine dv rfl rfl (fun _ => rfl) ?_
            refine ds rfl rfl (fun hg => ?_) (fun hg => ?_)
            · have ho15 := cT hg ho15
              refine dv rfl rfl (fun _ => rfl) ?_
              refine dv rfl rfl (fun _ => rfl) ?_
              obtain ⟨x2, hx16, ho15⟩ := bi ho15
              refine di rfl rfl rfl rfl rfl (fun _ => rfl) rfl (gi0 hx16) (giM cS hx16) (wM (fun _ => by rfl) _) ?_
              refine dv rfl rfl (fun _ => rfl) ?_
              refine dv rfl rfl (fun _ => rfl) ?_
              refine dv rfl rfl (fun _ => rfl) ?_
              obtain ⟨x3, hx17, ho15⟩ := bi ho15
              refine di rfl rfl rfl rfl rfl (fun _ => rfl) rfl (gi0 hx17) (giM cS hx17) (wM (fun _ => by rfl) _) ?_
              refine dv rfl rfl (fun _ => rfl) ?_
              refine dv rfl rfl (fun _ => rfl) ?_
              refine dt (sLt x2 x3) ?_
              refine dv rfl rfl (fun _ => rfl) ?_
              refine dn ?_
              refine rn ?_
              cases ho15
              exact cut_n [0] rfl rfl ⟨rfl, rfl, zA rfl rfl rfl (zA rfl rfl rfl (zA rfl rfl rfl (zA rfl rfl rfl (zA rfl rfl rfl (trivial))))), trivial, zE rfl .row rfl (trivial)⟩
            · have ho15 := cF hg ho15
              refine dno rfl rfl ?_
              refine dno rfl rfl ?_
              refine dno rfl rfl ?_
              refine dno rfl rfl ?_
              refine dno rfl rfl ?_
              refine dno rfl rfl ?_
              refine dno rfl rfl ?_
              refine dno rfl rfl ?_
              refine dno rfl rfl ?_
              refine dv rfl rfl (fun _ => rfl) ?_
              refine dn ?_
              refine rn ?_
              cases ho15
              exact cut_n [0] rfl rfl ⟨rfl, rfl, zA rfl rfl rfl (zA rfl rfl rfl (zA rfl rfl rfl (zA rfl rfl rfl (zA rfl rfl rfl (trivial))))), trivial, zE rfl .row rfl (trivial)⟩
          · rintro x1 rfl
            change awp _ _ _ _ _ ⟨_, _, _, _⟩
            refine cs_ rfl (fun hc => ?_) (fun hc => ?_)
            · have ho11 := cT hc ho11
              refine awp_skip ?_
              refine awp_block ?_
              refine awp_region ?_
              refine rvs 3 rfl ?_
              refine rn ?_
              refine inBlock_normal ?_
              cases ho11
              exact lp_n [0] rfl rfl ⟨rfl, rfl, zA rfl rfl rfl (zA rfl rfl rfl (zA rfl rfl rfl (zA rfl rfl rfl (trivial)))), trivial, zE rfl .row rfl (trivial)⟩
            · have ho11 := cF hc ho11
              refine awp_exit ?_
              repeat (first | refine then_exit ?_ | refine cut_x ?_ | refine inBlock_other rfl ?_)
              refine inBlock_exit ?_
              cases ho11
              have hq := hE12 _ rfl
              subst hq
              exact cut_n [0] rfl rfl ⟨rfl, rfl, zA rfl rfl rfl (zA rfl rfl rfl (zA rfl rfl rfl (zA rfl rfl rfl (trivial)))), trivial, zE rfl .row rfl (trivial)⟩
        · rintro at3 rfl
          change awp _ _ _ _ _ ⟨_, _, _, _⟩
          refine awp_seq ?_
          refine awp_seq ?_
          refine awp_region ?_
          refine rvs 2 rfl ?_
          refine rv rfl rfl ?_
          refine rt ((lM cS out1)) ?_
          refine rv rfl rfl ?_
          refine rn ?_
          refine cs_ rfl (fun hc => ?_) (fun hc => ?_)
          · have ho8 := cT hc ho8
            refine awp_seq ?_
            refine awp_dp (m := 9) Try.mix (by kernel_rfl) (by kernel_rfl) (by kernel_rfl) (by kernel_rfl) (by kernel_rfl) (by kernel_rfl) (by kernel_rfl) ?_
            refine dv rfl rfl (fun _ => rfl) ?_
            refine dv rfl rfl (fun _ => rfl) ?_
            obtain ⟨x4, hx18, ho8⟩ := bi ho8
            refine di rfl rfl rfl rfl rfl (fun _ => rfl) rfl (gi0 hx18) (giM cS hx18) (wM (fun _ => by rfl) _) ?_
            refine dv rfl rfl (fun _ => rfl) ?_
            refine dv rfl rfl (fun _ => rfl) ?_
            refine dv rfl rfl (fun _ => rfl) ?_
            obtain ⟨x5, hx19, ho8⟩ := bi ho8
            refine di rfl rfl rfl rfl rfl (fun _ => rfl) rfl (gi0 hx19) (giM cS hx19) (wM (fun _ => by rfl) _) ?_
            refine dv rfl rfl (fun _ => rfl) ?_
            refine dv rfl rfl (fun _ => rfl) ?_
            refine dt (sEq x4 x5) ?_
            refine dn ?_
            refine rn ?_
            refine cs_ rfl (fun hc => ?_) (fun hc => ?_)
            · have ho8 := cT hc ho8
              refine awp_exit ?_
              repeat (first | refine then_exit ?_ | refine cut_x ?_ | refine inBlock_other rfl ?_)
              refine inBlock_exit ?_
              cases ho8
              exact cut_n [0] rfl rfl ⟨rfl, rfl, zA rfl rfl rfl (zA rfl rfl rfl (zA rfl rfl rfl (trivial))), trivial, zE rfl .row rfl (trivial)⟩
            · have ho8 := cF hc ho8
              refine awp_skip ?_
              refine awp_seq ?_
              refine awp_region ?_
              refine rbs false rfl rfl rfl rfl rfl rfl rfl rfl rfl rfl ?_
              refine rvs 2 rfl ?_
              obtain ⟨l3, hx20, ho8⟩ := bi ho8
              refine rV rfl (va_slsub (c := cS) rfl rfl rfl rfl rfl ⟨_, rfl⟩ hx20 (fun _ => rfl)) ?_
              obtain ⟨next1, hx21, ho8⟩ := bi ho8
              refine rap false (xs := [].map cS) (ys := l3.map cS) rfl rfl rfl rfl rfl rfl rfl (.own rfl rfl) (.sl rfl rfl rfl) (wM (fun _ => by rfl) _) (oM (fun _ => by rfl) _) (apB cS rfl hx21) rfl ?_
              refine rk (congrArg (Kind.row _) (apM cS hx21)) ?_
              refine rv rfl rfl ?_
              refine rn ?_
              refine awp_seq ?_
              refine awp_region ?_
              refine rvs 3 rfl ?_
              obtain ⟨next2, hx22, ho8⟩ := bi ho8
              refine ri rfl rfl rfl rfl rfl rfl (gi0 hx22) (giM cS hx22) (wM (fun _ => by rfl) _) ?_
              refine rv rfl rfl ?_
              refine rbs false rfl rfl rfl rfl rfl rfl rfl rfl rfl rfl ?_
              obtain ⟨next3, hx23, ho8⟩ := bi ho8
              refine rap false (xs := next1.map cS) (ys := [next2].map cS) rfl rfl rfl rfl rfl rfl rfl (.own rfl rfl) (.sl rfl rfl rfl) (wM (fun _ => by rfl) _) (oM (fun _ => by rfl) _) (apB cS rfl hx23) rfl ?_
              refine rk (congrArg (Kind.row _) (apM cS hx23)) ?_
              refine rv rfl rfl ?_
              refine rn ?_
              refine awp_region ?_
              refine rvs 3 rfl ?_
              obtain ⟨l4, hx24, ho8⟩ := bi ho8
              refine rtl rfl rfl rfl rfl rfl rfl rfl (bndI_nat (d := 0) ⟨_, rfl⟩ (gsb hx24).1) (drL cS hx24) rfl ?_
              refine rk (congrArg (Kind.row _) (drM cS hx24)) ?_
              obtain ⟨out5, hx25, ho8⟩ := bi ho8
              refine rap false (xs := next3.map cS) (ys := l4.map cS) rfl rfl rfl rfl rfl rfl rfl (.own rfl rfl) (.sl rfl rfl rfl) (wM (fun _ => by rfl) _) (oM (fun _ => by rfl) _) (apB cS rfl hx25) rfl ?_
              refine rk (congrArg (Kind.row _) (apM cS hx25)) ?_
              refine rv rfl rfl ?_
              refine rn ?_
              refine inBlock_normal ?_
              cases ho8
              exact cut_n [6] rfl rfl ⟨rfl, rfl, zA rfl rfl rfl (zA rfl rfl rfl (zA rfl rfl rfl (trivial))), trivial, zE rfl .row rfl (trivial)⟩
          · have ho8 := cF hc ho8
            refine awp_skip ?_
            refine awp_seq ?_
            refine awp_region ?_
            refine rbs false rfl rfl rfl rfl rfl rfl rfl rfl rfl rfl ?_
            refine rvs 2 rfl ?_
            obtain ⟨l5, hx26, ho8⟩ := bi ho8
            refine rV rfl (va_slsub (c := cS) rfl rfl rfl rfl rfl ⟨_, rfl⟩ hx26 (fun _ => rfl)) ?_
            obtain ⟨next4, hx27, ho8⟩ := bi ho8
            refine rap false (xs := [].map cS) (ys := l5.map cS) rfl rfl rfl rfl rfl rfl rfl (.own rfl rfl) (.sl rfl rfl rfl) (wM (fun _ => by rfl) _) (oM (fun _ => by rfl) _) (apB cS rfl hx27) rfl ?_
            refine rk (congrArg (Kind.row _) (apM cS hx27)) ?_
            refine rv rfl rfl ?_
            refine rn ?_
            refine awp_seq ?_
            refine awp_region ?_
            refine rvs 3 rfl ?_
            obtain ⟨next5, hx28, ho8⟩ := bi ho8
            refine ri rfl rfl rfl rfl rfl rfl (gi0 hx28) (giM cS hx28) (wM (fun _ => by rfl) _) ?_
            refine rv rfl rfl ?_
            refine rbs false rfl rfl rfl rfl rfl rfl rfl rfl rfl rfl ?_
            obtain ⟨next6, hx29, ho8⟩ := bi ho8
            refine rap false (xs := next4.map cS) (ys := [next5].map cS) rfl rfl rfl rfl rfl rfl rfl (.own rfl rfl) (.sl rfl rfl rfl) (wM (fun _ => by rfl) _) (oM (fun _ => by rfl) _) (apB cS rfl hx29) rfl ?_
            refine rk (congrArg (Kind.row _) (apM cS hx29)) ?_
            refine rv rfl rfl ?_
            refine rn ?_
            refine awp_region ?_
            refine rvs 3 rfl ?_
            obtain ⟨l6, hx30, ho8⟩ := bi ho8
            refine rtl rfl rfl rfl rfl rfl rfl rfl (bndI_nat (d := 0) ⟨_, rfl⟩ (gsb hx30).1) (drL cS hx30) rfl ?_
            refine rk (congrArg (Kind.row _) (drM cS hx30)) ?_
            obtain ⟨out6, hx31, ho8⟩ := bi ho8
            refine rap false (xs := next6.map cS) (ys := l6.map cS) rfl rfl rfl rfl rfl rfl rfl (.own rfl rfl) (.sl rfl rfl rfl) (wM (fun _ => by rfl) _) (oM (fun _ => by rfl) _) (apB cS rfl hx31) rfl ?_
            refine rk (congrArg (Kind.row _) (apM cS hx31)) ?_
            refine rv rfl rfl ?_
            refine rn ?_
            refine inBlock_normal ?_
            cases ho8
            exact cut_n [6] rfl rfl ⟨rfl, rfl, zA rfl rfl rfl (zA rfl rfl rfl (zA rfl rfl rfl (trivial))), trivial, zE rfl .row rfl (trivial)⟩
      · rintro out4 rfl
        change awp _ _ _ _ _ ⟨_, _, _, _⟩
        refine awp_region ?_
        refine rvs 3 rfl ?_
        refine rn ?_
        cases ho4
        exact lp_n [0] rfl rfl ⟨rfl, rfl, zA rfl rfl rfl (zA rfl rfl rfl (zA rfl rfl rfl (trivial))), trivial, zE rfl .row rfl (trivial)⟩
    · have ho4 := cF hc ho4
      refine awp_exit ?_
      repeat (first | refine then_exit ?_ | refine cut_x ?_ | refine inBlock_other rfl ?_)
      refine inBlock_exit ?_
      cases ho4
      have hq := hE5 _ rfl
      subst hq
      exact cut_n [0] rfl rfl ⟨rfl, rfl, zA rfl rfl rfl (trivial), trivial, zE rfl .row rfl (trivial)⟩
  · rintro out3 rfl
    refine awp_seq ?_
    refine awp_region ?_
    refine rvs 2 rfl ?_
    refine rn ?_
    refine awp_ret ?_
    cases h
    repeat (first | refine then_ret ?_ | refine inBlock_ret ?_ | refine cut_r ?_)
    exact rr rfl rfl rfl
end

end Go.Proofs.Ytaekecbadkcggaa
