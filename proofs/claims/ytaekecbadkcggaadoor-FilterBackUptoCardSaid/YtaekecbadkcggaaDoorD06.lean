/- Plain functions, and walks, printed by a program of this session's. -/
import Derived.Test.YtaekecbadkcggaaDoorD00
import Derived.Test.YtaekecbadkcggaaDoorF06
namespace Go.Proofs.YtaekecbadkcggaaDoor
open Go.Pv
set_option maxRecDepth 100000
set_option maxHeartbeats 4000000
set_option linter.unusedSimpArgs false
set_option linter.unusedVariables false
set_option linter.unusedSectionVars false

structure ttokenToken where
  Kind : Int
  At : Int
  N : Int
  S : Str
def c_ttokenToken (x : ttokenToken) : List AV := [.int .i64 x.Kind, .int .i64 x.At, .int .i64 x.N, .str (sB x.S)]
structure tref06Token where
  Kind : Int
  At : Int
  N : Int
  S : Str
def c_tref06Token (x : tref06Token) : List AV := [.int .i64 x.Kind, .int .i64 x.At, .int .i64 x.N, .str (sB x.S)]
/-- `internal/stringslite.HasPrefix` -/
def dstringslite_HasPrefix (fu : Nat) (s1 : Str) (prefix1 : Str) : Option Bool :=
  bif (decide ((s1.length : Int) ≥ (prefix1.length : Int))) then ((gsl s1 0 (prefix1.length : Int)).bind fun s2 => some (s2 == prefix1)) else some false
section
attribute [local irreducible] awp aops DP PCall ACall Decidable.decide
theorem dstringslite_HasPrefix_l {fu : Nat} {s1 : Str} {prefix1 : Str} {r : Bool} (h : dstringslite_HasPrefix fu s1 prefix1 = some r) : PCall Tryd.prog 48 [.str (sB s1), .str (sB prefix1)] (· = .bool r) := by
  rw [dstringslite_HasPrefix] at h
  refine pcall_body Tryd.func48 rfl (by kernel_rfl) (by rfl) ?_
  refine awp_seq ?_
  refine awp_region ?_
  refine rv rfl rfl ?_
  refine rn ?_
  refine awp_seq ?_
  refine awp_region ?_
  refine rvs 6 rfl ?_
  refine gs rfl rfl rfl rfl rfl (fun hg => ?_) (fun hg => ?_)
  · have h := cT hg h
    refine rv rfl rfl ?_
    refine gy rfl rfl rfl ?_
    refine rv rfl rfl ?_
    refine gy rfl rfl rfl ?_
    refine rv rfl rfl ?_
    refine gy rfl rfl rfl ?_
    obtain ⟨s2, hx1, h⟩ := bi h
    refine rV rfl (va_ssub rfl rfl rfl rfl ⟨_, rfl⟩ hx1) ?_
    refine gy rfl rfl rfl ?_
    refine rv rfl rfl ?_
    refine gy rfl rfl rfl ?_
    refine rv rfl rfl ?_
    refine rt (sEq s2 prefix1) ?_
    refine rvs 2 rfl ?_
    refine rn ?_
    refine awp_ret ?_
    cases h
    repeat (first | refine then_ret ?_ | refine inBlock_ret ?_ | refine cut_r ?_)
    exact rr rfl rfl rfl
  · have h := cF hg h
    refine gn rfl rfl rfl rfl rfl ?_
    refine gn rfl rfl rfl rfl rfl ?_
    refine gn rfl rfl rfl rfl rfl ?_
    refine gn rfl rfl rfl rfl rfl ?_
    refine gn rfl rfl rfl rfl rfl ?_
    refine rvs 2 rfl ?_
    refine rn ?_
    refine awp_ret ?_
    cases h
    repeat (first | refine then_ret ?_ | refine inBlock_ret ?_ | refine cut_r ?_)
    exact rr rfl rfl rfl
end

/-- `strings.HasPrefix` -/
def dstrings_HasPrefix (fu : Nat) (s1 : Str) (prefix1 : Str) : Option Bool :=
  (dstringslite_HasPrefix fu s1 prefix1).bind fun x1 => some x1
section
attribute [local irreducible] awp aops DP PCall ACall Decidable.decide
theorem dstrings_HasPrefix_l {fu : Nat} {s1 : Str} {prefix1 : Str} {r : Bool} (h : dstrings_HasPrefix fu s1 prefix1 = some r) : PCall Tryd.prog 34 [.str (sB s1), .str (sB prefix1)] (· = .bool r) := by
  rw [dstrings_HasPrefix] at h
  refine pcall_body Tryd.func34 rfl (by kernel_rfl) (by rfl) ?_
  refine awp_seq ?_
  refine awp_region ?_
  refine rv rfl rfl ?_
  refine rn ?_
  refine awp_seq ?_
  refine awp_region ?_
  refine rvs 2 rfl ?_
  obtain ⟨x1, hx1, h⟩ := bi h
  refine rc1 rfl rfl rfl (dstringslite_HasPrefix_l hx1) ?_
  refine rv rfl rfl ?_
  refine rn ?_
  refine awp_ret ?_
  cases h
  repeat (first | refine then_ret ?_ | refine inBlock_ret ?_ | refine cut_r ?_)
  exact rr rfl rfl rfl
end

/-- `internal/stringslite.TrimPrefix` -/
def dstringslite_TrimPrefix (fu : Nat) (s1 : Str) (prefix1 : Str) : Option Str :=
  (dstringslite_HasPrefix fu s1 prefix1).bind fun x1 => bif x1 then ((gsl s1 (prefix1.length : Int) (s1.length : Int)).bind fun s2 => some s2) else some s1
section
attribute [local irreducible] awp aops DP PCall ACall Decidable.decide
theorem dstringslite_TrimPrefix_l {fu : Nat} {s1 : Str} {prefix1 : Str} {r : Str} (h : dstringslite_TrimPrefix fu s1 prefix1 = some r) : PCall Tryd.prog 58 [.str (sB s1), .str (sB prefix1)] (· = .str (sB r)) := by
  rw [dstringslite_TrimPrefix] at h
  refine pcall_body Tryd.func58 rfl (by kernel_rfl) (by rfl) ?_
  refine awp_seq ?_
  refine awp_region ?_
  refine rv rfl rfl ?_
  refine rn ?_
  refine awp_seq ?_
  refine awp_seq ?_
  refine awp_region ?_
  refine rvs 2 rfl ?_
  obtain ⟨x1, hx1, h⟩ := bi h
  refine rc1 rfl rfl rfl (dstringslite_HasPrefix_l hx1) ?_
  refine rn ?_
  refine cs_ rfl (fun hc => ?_) (fun hc => ?_)
  · have h := cT hc h
    refine awp_seq ?_
    refine awp_region ?_
    refine rvs 3 rfl ?_
    obtain ⟨s2, hx2, h⟩ := bi h
    refine rV rfl (va_ssub rfl rfl rfl ⟨_, rfl⟩ rfl hx2) ?_
    refine rv rfl rfl ?_
    refine rn ?_
    refine awp_ret ?_
    cases h
    repeat (first | refine then_ret ?_ | refine inBlock_ret ?_ | refine cut_r ?_)
    exact rr rfl rfl rfl
  · have h := cF hc h
    refine awp_skip ?_
    refine awp_seq ?_
    refine awp_region ?_
    refine rvs 2 rfl ?_
    refine rn ?_
    refine awp_ret ?_
    cases h
    repeat (first | refine then_ret ?_ | refine inBlock_ret ?_ | refine cut_r ?_)
    exact rr rfl rfl rfl
end

/-- `strings.TrimPrefix` -/
def dstrings_TrimPrefix (fu : Nat) (s1 : Str) (prefix1 : Str) : Option Str :=
  (dstringslite_TrimPrefix fu s1 prefix1).bind fun x1 => some x1
section
attribute [local irreducible] awp aops DP PCall ACall Decidable.decide
theorem dstrings_TrimPrefix_l {fu : Nat} {s1 : Str} {prefix1 : Str} {r : Str} (h : dstrings_TrimPrefix fu s1 prefix1 = some r) : PCall Tryd.prog 46 [.str (sB s1), .str (sB prefix1)] (· = .str (sB r)) := by
  rw [dstrings_TrimPrefix] at h
  refine pcall_body Tryd.func46 rfl (by kernel_rfl) (by rfl) ?_
  refine awp_seq ?_
  refine awp_region ?_
  refine rv rfl rfl ?_
  refine rn ?_
  refine awp_seq ?_
  refine awp_region ?_
  refine rvs 2 rfl ?_
  obtain ⟨x1, hx1, h⟩ := bi h
  refine rc1 rfl rfl rfl (dstringslite_TrimPrefix_l hx1) ?_
  refine rv rfl rfl ?_
  refine rn ?_
  refine awp_ret ?_
  cases h
  repeat (first | refine then_ret ?_ | refine inBlock_ret ?_ | refine cut_r ?_)
  exact rr rfl rfl rfl
end

/-- `slices.Index[[]string,string]` -/
def dslices_Index_string (fu : Nat) (s1 : List Str) (v1 : Str) : Option Int :=
  (loopD (ε := Int) (τ := Unit ⊕ Int) (fun (x1 : Int) => (bif (decide (x1 < (s1.length : Int))) then ((gi s1 x1).bind fun x3 => bif (v1 == x3) then some (Sum.inr (Sum.inr x1)) else some (Sum.inl (W (x1 + 1)))) else some (Sum.inr (Sum.inl ())))) fu 0).bind fun o => kS o fun (_ : Unit) => some (-1)
section
attribute [local irreducible] awp aops DP PCall ACall Decidable.decide
theorem dslices_Index_string_l {fu : Nat} {s1 : List Str} {v1 : Str} {r : Int} (h : dslices_Index_string fu s1 v1 = some r) : PCall Tryd.prog 45 [.sl (s1.map cS), .str (sB v1)] (· = .int .i64 r) := by
  rw [dslices_Index_string] at h
  refine pcall_body Tryd.func45 rfl (by kernel_rfl) (by rfl) ?_
  refine awp_seq ?_
  refine awp_region ?_
  refine rv rfl rfl ?_
  refine rn ?_
  refine awp_seq ?_
  refine awp_seq ?_
  refine awp_region ?_
  refine rv rfl rfl ?_
  refine rv rfl rfl ?_
  refine rt ((lM cS s1)) ?_
  refine rv rfl rfl ?_
  refine rn ?_
  obtain ⟨e1, hl2, h⟩ := bi h
  refine awp_cut1 (fun x => Sum.inl x = e1) (fun (_ : Unit) => ⟨[], [], [], 0⟩) ?_ ?_
  · refine awp_block ?_
    refine awp_loopD hl2 (fun (x1 : Int) => ⟨[(0, .sl (s1.map cS)), (1, .str (sB v1)), (7, .int .i64 (s1.length : Int)), (8, .int .i64 x1)], [], [], 0⟩) [] rfl ⟨rfl, rfl, zA rfl rfl rfl (zA rfl rfl rfl (zA rfl rfl rfl (zA rfl rfl rfl (trivial)))), trivial, trivial⟩ ?_
    intro x1 o5 ho3 hE4
    change awp _ _ _ _ _ ⟨_, _, _, _⟩
    refine awp_seq ?_
    refine awp_region ?_
    refine rv rfl rfl ?_
    refine rn ?_
    refine awp_seq ?_
    refine cs_ rfl (fun hc => ?_) (fun hc => ?_)
    · have ho3 := cT hc ho3
      refine awp_skip ?_
      refine awp_seq ?_
      refine awp_block ?_
      refine awp_seq ?_
      refine awp_region ?_
      refine rvs 2 rfl ?_
      refine rn ?_
      refine awp_seq ?_
      refine awp_region ?_
      refine rvs 3 rfl ?_
      obtain ⟨x3, hx6, ho3⟩ := bi ho3
      refine ri rfl rfl rfl rfl rfl rfl (gi0 hx6) (giM cS hx6) (wM (fun _ => by rfl) _) ?_
      refine rv rfl rfl ?_
      refine rv rfl rfl ?_
      refine rt (sEq v1 x3) ?_
      refine rn ?_
      refine cs_ rfl (fun hc => ?_) (fun hc => ?_)
      · have ho3 := cT hc ho3
        refine awp_seq ?_
        refine awp_region ?_
        refine rvs 2 rfl ?_
        refine rn ?_
        refine awp_ret ?_
        cases ho3
        have hq := hE4 _ rfl
        subst hq
        have h := ksr h
        subst h
        repeat (first | refine then_ret ?_ | refine inBlock_ret ?_ | refine cut_r ?_)
        exact rr rfl rfl rfl
      · have ho3 := cF hc ho3
        refine awp_skip ?_
        refine inBlock_normal ?_
        refine awp_region ?_
        refine rvs 2 rfl ?_
        refine rn ?_
        cases ho3
        exact lp_n [] rfl rfl ⟨rfl, rfl, zA rfl rfl rfl (zA rfl rfl rfl (zA rfl rfl rfl (zA rfl rfl rfl (trivial)))), trivial, trivial⟩
    · have ho3 := cF hc ho3
      refine awp_exit ?_
      repeat (first | refine then_exit ?_ | refine cut_x ?_ | refine inBlock_other rfl ?_)
      refine inBlock_exit ?_
      cases ho3
      have hq := hE4 _ rfl
      subst hq
      exact cut_n [] rfl rfl ⟨rfl, rfl, trivial, trivial, trivial⟩
  · rintro _ rfl
    have h := ksl h
    refine awp_seq ?_
    refine awp_region ?_
    refine rv rfl rfl ?_
    refine rn ?_
    refine awp_ret ?_
    cases h
    repeat (first | refine then_ret ?_ | refine inBlock_ret ?_ | refine cut_r ?_)
    exact rr rfl rfl rfl
end

/-- `slices.Contains[[]string,string]` -/
def dslices_Contains_string (fu : Nat) (s1 : List Str) (v1 : Str) : Option Bool :=
  (dslices_Index_string fu s1 v1).bind fun x1 => some (decide (x1 ≥ 0))
section
attribute [local irreducible] awp aops DP PCall ACall Decidable.decide
theorem dslices_Contains_string_l {fu : Nat} {s1 : List Str} {v1 : Str} {r : Bool} (h : dslices_Contains_string fu s1 v1 = some r) : PCall Tryd.prog 29 [.sl (s1.map cS), .str (sB v1)] (· = .bool r) := by
  rw [dslices_Contains_string] at h
  refine pcall_body Tryd.func29 rfl (by kernel_rfl) (by rfl) ?_
  refine awp_seq ?_
  refine awp_region ?_
  refine rv rfl rfl ?_
  refine rn ?_
  refine awp_seq ?_
  refine awp_region ?_
  refine rvs 2 rfl ?_
  obtain ⟨x1, hx1, h⟩ := bi h
  refine rc1 rfl rfl rfl (dslices_Index_string_l hx1) ?_
  refine rvs 2 rfl ?_
  refine rn ?_
  refine awp_ret ?_
  cases h
  repeat (first | refine then_ret ?_ | refine inBlock_ret ?_ | refine cut_r ?_)
  exact rr rfl rfl rfl
end

/-- `plover/token.lower` -/
def dtoken_lower (fu : Nat) (c1 : Int) : Option Bool :=
  bif (decide (c1 ≥ 97)) then ((some (decide (c1 ≤ 122))).bind fun x1 => some x1) else some false
section
attribute [local irreducible] awp aops DP PCall ACall Decidable.decide
theorem dtoken_lower_l {fu : Nat} {c1 : Int} {r : Bool} (h : dtoken_lower fu c1 = some r) : PCall Tryd.prog 25 [.int .u8 c1] (· = .bool r) := by
  rw [dtoken_lower] at h
  refine pcall_body Tryd.func25 rfl (by kernel_rfl) (by rfl) ?_
  refine awp_seq ?_
  refine awp_region ?_
  refine rv rfl rfl ?_
  refine rn ?_
  refine awp_seq ?_
  refine awp_region ?_
  refine rvs 3 rfl ?_
  refine gs rfl rfl rfl rfl rfl (fun hg => ?_) (fun hg => ?_)
  · have h := cT hg h
    refine rv rfl rfl ?_
    refine gy rfl rfl rfl ?_
    refine rv rfl rfl ?_
    refine rvs 2 rfl ?_
    obtain ⟨x1, hx1, h⟩ := bs h
    refine rt (eb' hx1) ?_
    refine rn ?_
    refine awp_ret ?_
    cases h
    repeat (first | refine then_ret ?_ | refine inBlock_ret ?_ | refine cut_r ?_)
    exact rr rfl rfl rfl
  · have h := cF hg h
    refine gn rfl rfl rfl rfl rfl ?_
    refine rvs 2 rfl ?_
    refine rn ?_
    refine awp_ret ?_
    cases h
    repeat (first | refine then_ret ?_ | refine inBlock_ret ?_ | refine cut_r ?_)
    exact rr rfl rfl rfl
end

/-- `plover/token.digit` -/
def dtoken_digit (fu : Nat) (c1 : Int) : Option Bool :=
  bif (decide (c1 ≥ 48)) then some (decide (c1 ≤ 57)) else some false
section
attribute [local irreducible] awp aops DP PCall ACall Decidable.decide
theorem dtoken_digit_l {fu : Nat} {c1 : Int} {r : Bool} (h : dtoken_digit fu c1 = some r) : PCall Tryd.prog 28 [.int .u8 c1] (· = .bool r) := by
  rw [dtoken_digit] at h
  refine pcall_body Tryd.func28 rfl (by kernel_rfl) (by rfl) ?_
  refine awp_seq ?_
  refine awp_region ?_
  refine rv rfl rfl ?_
  refine rn ?_
  refine awp_seq ?_
  refine awp_region ?_
  refine rvs 3 rfl ?_
  refine gs rfl rfl rfl rfl rfl (fun hg => ?_) (fun hg => ?_)
  · have h := cT hg h
    refine rv rfl rfl ?_
    refine gy rfl rfl rfl ?_
    refine rv rfl rfl ?_
    refine rvs 2 rfl ?_
    refine rn ?_
    refine awp_ret ?_
    cases h
    repeat (first | refine then_ret ?_ | refine inBlock_ret ?_ | refine cut_r ?_)
    exact rr rfl rfl rfl
  · have h := cF hg h
    refine gn rfl rfl rfl rfl rfl ?_
    refine rvs 2 rfl ?_
    refine rn ?_
    refine awp_ret ?_
    cases h
    repeat (first | refine then_ret ?_ | refine inBlock_ret ?_ | refine cut_r ?_)
    exact rr rfl rfl rfl
end

/-- `plover/token.upto` -/
def dtoken_upto (fu : Nat) (s1 : Str) (is1 : Int → Option Bool) : Option Int :=
  (loopD (ε := Int) (τ := Int) (fun (n1 : Int) => ((bif (decide (n1 < (s1.length : Int))) then ((gi s1 n1).bind fun c1 => (is1 (c1.toNat : Int)).bind fun x2 => some x2) else some false : Option Bool).bind fun (x1 : Bool) => (bif x1 then some (Sum.inl (W (n1 + 1))) else some (Sum.inr n1)))) fu 0).bind fun (n3 : Int) => some n3
section
attribute [local irreducible] awp aops DP PCall ACall Decidable.decide
theorem dtoken_upto_l {fu : Nat} {s1 : Str} {is1 : Int → Option Bool} {r : Int} {k_is1 : FuncId} {cs_is1 : List AV} (hl_is1 : Cl cs_is1) (hf_is1 : ∀ {a0 r}, is1 a0 = some r → PCall Tryd.prog k_is1 ([.int .u8 a0] ++ cs_is1) (· = .bool r)) (h : dtoken_upto fu s1 is1 = some r) : PCall Tryd.prog 26 [.str (sB s1), .fn k_is1 cs_is1] (· = .int .i64 r) := by
  rw [dtoken_upto] at h
  refine pcall_body Tryd.func26 rfl (by kernel_rfl) (by rfl) ?_
  refine awp_seq ?_
  refine awp_region ?_
  refine rv rfl rfl ?_
  refine rn ?_
  refine awp_seq ?_
  refine awp_region ?_
  refine rv rfl rfl ?_
  refine rn ?_
  refine awp_seq ?_
  obtain ⟨e1, hl2, h⟩ := bi h
  refine awp_cut1 (fun x => x = e1) (fun (n3 : Int) => ⟨[(5, .int .i64 n3)], [], [], 0⟩) ?_ ?_
  · refine awp_block ?_
    refine awp_loopD hl2 (fun (n1 : Int) => ⟨[(0, .str (sB s1)), (1, .fn k_is1 cs_is1), (5, .int .i64 n1)], [], [], 0⟩) [] rfl ⟨rfl, rfl, zA rfl rfl rfl (zA rfl (AV.ren_closed (.fn _ _) hl_is1.lim).symm (limL_mono (Nat.zero_le _) _ hl_is1.lim) (zA rfl rfl rfl (trivial))), trivial, trivial⟩ ?_
    intro n1 o5 ho3 hE4
    change awp _ _ _ _ _ ⟨_, _, _, _⟩
    refine awp_seq ?_
    refine awp_seq ?_
    obtain ⟨o6, ho7, ho3⟩ := bi ho3
    refine awp_cut1 (fun x => x = o6) (fun (x1 : Bool) => ⟨[(0, .str (sB s1)), (1, .fn k_is1 cs_is1), (5, .int .i64 n1), (16, .bool x1)], [], [], 0⟩) ?_ ?_
    · refine awp_region ?_
      refine rvs 5 rfl ?_
      refine gs rfl rfl rfl rfl rfl (fun hg => ?_) (fun hg => ?_)
      · have ho7 := cT hg ho7
        refine rv' rfl rfl ?_
        refine gy rfl rfl rfl ?_
        refine rv rfl rfl ?_
        refine gy rfl rfl rfl ?_
        refine rv rfl rfl ?_
        refine gy rfl rfl rfl ?_
        obtain ⟨c1, hx8, ho7⟩ := bi ho7
        refine rV rfl (va_sidx rfl rfl rfl rfl hx8) ?_
        refine gy rfl rfl rfl ?_
        obtain ⟨x2, hx9, ho7⟩ := bi ho7
        refine rcf rfl rfl hl_is1 rfl (hf_is1 hx9) ?_
        refine rv rfl rfl ?_
        refine rn ?_
        cases ho7
        exact cut_n [] rfl rfl ⟨rfl, rfl, zA rfl rfl rfl (zA rfl (AV.ren_closed (.fn _ _) hl_is1.lim).symm (limL_mono (Nat.zero_le _) _ hl_is1.lim) (zA rfl rfl rfl (zA rfl rfl rfl (trivial)))), trivial, trivial⟩
      · have ho7 := cF hg ho7
        refine gn rfl rfl rfl rfl rfl ?_
        refine gn rfl rfl rfl rfl rfl ?_
        refine gn rfl rfl rfl rfl rfl ?_
        refine gn rfl rfl rfl rfl rfl ?_
        refine rv rfl rfl ?_
        refine rn ?_
        cases ho7
        exact cut_n [] rfl rfl ⟨rfl, rfl, zA rfl rfl rfl (zA rfl (AV.ren_closed (.fn _ _) hl_is1.lim).symm (limL_mono (Nat.zero_le _) _ hl_is1.lim) (zA rfl rfl rfl (zA rfl rfl rfl (trivial)))), trivial, trivial⟩
    · rintro x1 rfl
      change awp _ _ _ _ _ ⟨_, _, _, _⟩
      refine cs_ rfl (fun hc => ?_) (fun hc => ?_)
      · have ho3 := cT hc ho3
        refine awp_skip ?_
        refine awp_block ?_
        refine awp_region ?_
        refine rvs 3 rfl ?_
        refine rn ?_
        refine inBlock_normal ?_
        cases ho3
        exact lp_n [] rfl rfl ⟨rfl, rfl, zA rfl rfl rfl (zA rfl (AV.ren_closed (.fn _ _) hl_is1.lim).symm (limL_mono (Nat.zero_le _) _ hl_is1.lim) (zA rfl rfl rfl (trivial))), trivial, trivial⟩
      · have ho3 := cF hc ho3
        refine awp_exit ?_
        repeat (first | refine then_exit ?_ | refine cut_x ?_ | refine inBlock_other rfl ?_)
        refine inBlock_exit ?_
        cases ho3
        have hq := hE4 _ rfl
        subst hq
        exact cut_n [] rfl rfl ⟨rfl, rfl, zA rfl rfl rfl (trivial), trivial, trivial⟩
  · rintro n3 rfl
    refine awp_seq ?_
    refine awp_region ?_
    refine rvs 2 rfl ?_
    refine rn ?_
    refine awp_ret ?_
    cases h
    repeat (first | refine then_ret ?_ | refine inBlock_ret ?_ | refine cut_r ?_)
    exact rr rfl rfl rfl
end

/-- `plover/token.words` -/
def dtoken_words (fu : Nat)  : Option (List Str) :=
  some ([[97, 110, 100], [111, 114], [110, 111, 116], [105, 110], [116, 114, 117, 101]])
section
attribute [local irreducible] awp aops DP PCall ACall Decidable.decide
theorem dtoken_words_l {fu : Nat}  {r : List Str} (h : dtoken_words fu  = some r) : PCall Tryd.prog 30 [] (· = .sl (r.map cS)) := by
  rw [dtoken_words] at h
  refine pcall_body Tryd.func30 rfl (by kernel_rfl) (by rfl) ?_
  refine awp_seq ?_
  refine awp_region ?_
  refine rv rfl rfl ?_
  refine rn ?_
  refine awp_seq ?_
  refine awp_region ?_
  refine rbs false rfl rfl rfl rfl rfl rfl rfl rfl rfl rfl ?_
  refine rv rfl rfl ?_
  refine rn ?_
  refine awp_ret ?_
  cases h
  repeat (first | refine then_ret ?_ | refine inBlock_ret ?_ | refine cut_r ?_)
  exact rr rfl rfl rfl
end

/-- `plover/token.signs` -/
def dtoken_signs (fu : Nat)  : Option (List Str) :=
  some ([[60, 61], [33, 61], [62, 61], [94, 61], [40], [41], [44], [60], [61], [62]])
section
attribute [local irreducible] awp aops DP PCall ACall Decidable.decide
theorem dtoken_signs_l {fu : Nat}  {r : List Str} (h : dtoken_signs fu  = some r) : PCall Tryd.prog 33 [] (· = .sl (r.map cS)) := by
  rw [dtoken_signs] at h
  refine pcall_body Tryd.func33 rfl (by kernel_rfl) (by rfl) ?_
  refine awp_seq ?_
  refine awp_region ?_
  refine rv rfl rfl ?_
  refine rn ?_
  refine awp_seq ?_
  refine awp_region ?_
  refine rbs false rfl rfl rfl rfl rfl rfl rfl rfl rfl rfl ?_
  refine rv rfl rfl ?_
  refine rn ?_
  refine awp_ret ?_
  cases h
  repeat (first | refine then_ret ?_ | refine inBlock_ret ?_ | refine cut_r ?_)
  exact rr rfl rfl rfl
end

/-- `plover/token.one$1` -/
def dtoken_one_1 (fu : Nat) (c1 : Int) : Option Bool :=
  (dtoken_lower fu c1).bind fun x1 => bif x1 then some true else ((dtoken_digit fu c1).bind fun x2 => some x2)
section
attribute [local irreducible] awp aops DP PCall ACall Decidable.decide
theorem dtoken_one_1_l {fu : Nat} {c1 : Int} {r : Bool} (h : dtoken_one_1 fu c1 = some r) : PCall Tryd.prog 27 [.int .u8 c1] (· = .bool r) := by
  rw [dtoken_one_1] at h
  refine pcall_body Tryd.func27 rfl (by kernel_rfl) (by rfl) ?_
  refine awp_seq ?_
  refine awp_region ?_
  refine rv rfl rfl ?_
  refine rn ?_
  refine awp_seq ?_
  refine awp_region ?_
  refine rv rfl rfl ?_
  obtain ⟨x1, hx1, h⟩ := bi h
  refine rc1 rfl rfl rfl (dtoken_lower_l hx1) ?_
  refine rv rfl rfl ?_
  refine gs rfl rfl rfl rfl rfl (fun hg => ?_) (fun hg => ?_)
  · have h := cF hg h
    refine rv rfl rfl ?_
    refine gy rfl rfl rfl ?_
    obtain ⟨x2, hx2, h⟩ := bi h
    refine rc1 rfl rfl rfl (dtoken_digit_l hx2) ?_
    refine rvs 2 rfl ?_
    refine rn ?_
    refine awp_ret ?_
    cases h
    repeat (first | refine then_ret ?_ | refine inBlock_ret ?_ | refine cut_r ?_)
    exact rr rfl rfl rfl
  · have h := cT hg h
    refine gn rfl rfl rfl rfl rfl ?_
    refine rvs 2 rfl ?_
    refine rn ?_
    refine awp_ret ?_
    cases h
    repeat (first | refine then_ret ?_ | refine inBlock_ret ?_ | refine cut_r ?_)
    exact rr rfl rfl rfl
end

/-- `plover/token.one$2` -/
def dtoken_one_2 (fu : Nat) (c1 : Int) : Option Bool :=
  bif (decide (c1 ≥ 32)) then (bif (decide (c1 ≤ 126)) then some (c1 != 34) else some false) else some false
section
attribute [local irreducible] awp aops DP PCall ACall Decidable.decide
theorem dtoken_one_2_l {fu : Nat} {c1 : Int} {r : Bool} (h : dtoken_one_2 fu c1 = some r) : PCall Tryd.prog 32 [.int .u8 c1] (· = .bool r) := by
  rw [dtoken_one_2] at h
  refine pcall_body Tryd.func32 rfl (by kernel_rfl) (by rfl) ?_
  refine awp_seq ?_
  refine awp_region ?_
  refine rv rfl rfl ?_
  refine rn ?_
  refine awp_seq ?_
  refine awp_region ?_
  refine rvs 3 rfl ?_
  refine gs rfl rfl rfl rfl rfl (fun hg => ?_) (fun hg => ?_)
  · have h := cT hg h
    refine rv rfl rfl ?_
    refine gy rfl rfl rfl ?_
    refine rv rfl rfl ?_
    refine rvs 2 rfl ?_
    refine gs rfl rfl rfl rfl rfl (fun hg => ?_) (fun hg => ?_)
    · have h := cT hg h
      refine rv rfl rfl ?_
      refine gy rfl rfl rfl ?_
      refine rv rfl rfl ?_
      refine rvs 2 rfl ?_
      refine rn ?_
      refine awp_ret ?_
      cases h
      repeat (first | refine then_ret ?_ | refine inBlock_ret ?_ | refine cut_r ?_)
      exact rr rfl rfl rfl
    · have h := cF hg h
      refine gn rfl rfl rfl rfl rfl ?_
      refine rvs 2 rfl ?_
      refine rn ?_
      refine awp_ret ?_
      cases h
      repeat (first | refine then_ret ?_ | refine inBlock_ret ?_ | refine cut_r ?_)
      exact rr rfl rfl rfl
  · have h := cF hg h
    refine gn rfl rfl rfl rfl rfl ?_
    refine rvs 2 rfl ?_
    refine gn rfl rfl rfl rfl rfl ?_
    refine gn rfl rfl rfl rfl rfl ?_
    refine rvs 2 rfl ?_
    refine rn ?_
    refine awp_ret ?_
    cases h
    repeat (first | refine then_ret ?_ | refine inBlock_ret ?_ | refine cut_r ?_)
    exact rr rfl rfl rfl
end

/-- `plover/token.number` -/
def dtoken_number (fu : Nat) (s1 : Str) : Option (Int × Int) :=
  (dstrings_TrimPrefix fu s1 [45]).bind fun digits1 => (dtoken_upto fu digits1 (fun x0 => dtoken_digit fu x0)).bind fun n1 => (some (W ((W ((s1.length : Int) - (digits1.length : Int))) + n1))).bind fun all1 => (gsl s1 0 all1).bind fun s2 => (dParseInt fu s2).bind fun v1 => match v1 with | none => some (0, 0) | some v2 => ((bif (decide (n1 > 1)) then ((gi digits1 0).bind fun c1 => bif ((c1.toNat : Int) == 48) then some true else (bif (v2 == 0) then some (decide (all1 > n1)) else some false)) else (bif (v2 == 0) then some (decide (all1 > n1)) else some false) : Option Bool).bind fun (x1 : Bool) => (bif x1 then some (0, 0) else some (v2, all1)))
section
attribute [local irreducible] awp aops DP PCall ACall Decidable.decide
theorem dtoken_number_l {fu : Nat} {s1 : Str} {r : Int × Int} (h : dtoken_number fu s1 = some r) : PCall Tryd.prog 31 [.str (sB s1)] (· = .tup [.int .i64 r.1, .int .i64 r.2]) := by
  rw [dtoken_number] at h
  refine pcall_body Tryd.func31 rfl (by kernel_rfl) (by rfl) ?_
  refine awp_seq ?_
  refine awp_region ?_
  refine rvs 2 rfl ?_
  refine rn ?_
  refine awp_seq ?_
  refine awp_region ?_
  refine rv rfl rfl ?_
  obtain ⟨digits1, hx1, h⟩ := bi h
  refine rc1 rfl rfl rfl (dstrings_TrimPrefix_l hx1) ?_
  refine rv rfl rfl ?_
  refine rn ?_
  refine awp_seq ?_
  refine awp_region ?_
  refine rv rfl rfl ?_
  obtain ⟨n1, hx2, h⟩ := bi h
  refine rc1 rfl rfl rfl (dtoken_upto_l ⟨rfl, fun _ => rfl⟩ (fun hq => dtoken_digit_l hq) hx2) ?_
  refine rv rfl rfl ?_
  refine rn ?_
  refine awp_seq ?_
  refine awp_region ?_
  refine rvs 8 rfl ?_
  obtain ⟨all1, hx3, h⟩ := bs h
  refine rt (ei' hx3) ?_
  refine rn ?_
  refine awp_seq ?_
  refine awp_region ?_
  refine rvs 2 rfl ?_
  obtain ⟨s2, hx4, h⟩ := bi h
  refine rV rfl (va_ssub rfl rfl rfl rfl ⟨_, rfl⟩ hx4) ?_
  obtain ⟨v1, hx5, h⟩ := bi h
  obtain _ | v2 := v1
  · refine rc1 rfl rfl rfl (show PCall Tryd.prog 47 [.str (sB s2), .int .i64 10, .int .i64 64] (· = .tup [.any, .iface 104 (.any)]) from dParseInt_l hx5) ?_
    refine rvs 5 rfl ?_
    refine rn ?_
    refine awp_seq ?_
    refine awp_seq ?_
    refine awp_region ?_
    refine rvs 3 rfl ?_
    refine gn rfl rfl rfl rfl rfl ?_
    refine gn rfl rfl rfl rfl rfl ?_
    refine gn rfl rfl rfl rfl rfl ?_
    refine gu rfl rfl rfl rfl ?_
    refine gu rfl rfl rfl rfl ?_
    refine gu rfl rfl rfl rfl ?_
    refine gn rfl rfl rfl rfl rfl ?_
    refine rvs 2 rfl ?_
    refine gn rfl rfl rfl rfl rfl ?_
    refine gn rfl rfl rfl rfl rfl ?_
    refine gn rfl rfl rfl rfl rfl ?_
    refine gu rfl rfl rfl rfl ?_
    refine gu rfl rfl rfl rfl ?_
    refine gu rfl rfl rfl rfl ?_
    refine gn rfl rfl rfl rfl rfl ?_
    refine rv rfl rfl ?_
    refine rn ?_
    refine ct rfl ?_
    refine awp_seq ?_
    refine awp_region ?_
    refine rvs 2 rfl ?_
    refine rn ?_
    refine awp_ret ?_
    cases h
    repeat (first | refine then_ret ?_ | refine inBlock_ret ?_ | refine cut_r ?_)
    exact rr rfl rfl rfl
  · refine rc1 rfl rfl rfl (show PCall Tryd.prog 47 [.str (sB s2), .int .i64 10, .int .i64 64] (· = .tup [.int .i64 v2, .nilI]) from dParseInt_l hx5) ?_
    refine rvs 5 rfl ?_
    refine rn ?_
    refine awp_seq ?_
    refine awp_seq ?_
    obtain ⟨o6, ho7, h⟩ := bi h
    refine awp_cut1 (fun x => x = o6) (fun (x1 : Bool) => ⟨[(6, .int .i64 all1), (7, .int .i64 v2), (46, .bool x1)], [], [], 0⟩) ?_ ?_
    · refine awp_region ?_
      refine rvs 3 rfl ?_
      refine gy rfl rfl rfl ?_
      refine rv rfl rfl ?_
      refine gy rfl rfl rfl ?_
      refine rv rfl rfl ?_
      refine gy rfl rfl rfl ?_
      refine rv rfl rfl ?_
      refine gs rfl rfl rfl rfl rfl (fun hg => ?_) (fun hg => ?_)
      · have ho7 := cT hg ho7
        refine rv rfl rfl ?_
        refine gy rfl rfl rfl ?_
        obtain ⟨c1, hx8, ho7⟩ := bi ho7
        refine rV rfl (va_sidx rfl rfl rfl rfl hx8) ?_
        refine gy rfl rfl rfl ?_
        refine rv rfl rfl ?_
        refine gy rfl rfl rfl ?_
        refine rv rfl rfl ?_
        refine rvs 2 rfl ?_
        refine gs rfl rfl rfl rfl rfl (fun hg => ?_) (fun hg => ?_)
        · have ho7 := cF hg ho7
          refine rv rfl rfl ?_
          refine gy rfl rfl rfl ?_
          refine rv rfl rfl ?_
          refine gy rfl rfl rfl ?_
          refine rv rfl rfl ?_
          refine gs rfl rfl rfl rfl rfl (fun hg => ?_) (fun hg => ?_)
          · have ho7 := cT hg ho7
            refine rv rfl rfl ?_
            refine gy rfl rfl rfl ?_
            refine rv rfl rfl ?_
            refine gy rfl rfl rfl ?_
            refine rv rfl rfl ?_
            refine gy rfl rfl rfl ?_
            refine rv rfl rfl ?_
            refine rv rfl rfl ?_
            refine rn ?_
            cases ho7
            exact cut_n [] rfl rfl ⟨rfl, rfl, zA rfl rfl rfl (zA rfl rfl rfl (zA rfl rfl rfl (trivial))), trivial, trivial⟩
          · have ho7 := cF hg ho7
            refine gn rfl rfl rfl rfl rfl ?_
            refine gn rfl rfl rfl rfl rfl ?_
            refine gy rfl rfl rfl ?_
            refine rv rfl rfl ?_
            refine rv rfl rfl ?_
            refine rn ?_
            cases ho7
            exact cut_n [] rfl rfl ⟨rfl, rfl, zA rfl rfl rfl (zA rfl rfl rfl (zA rfl rfl rfl (trivial))), trivial, trivial⟩
        · have ho7 := cT hg ho7
          refine gn rfl rfl rfl rfl rfl ?_
          refine gn rfl rfl rfl rfl rfl ?_
          refine gu rfl rfl rfl rfl ?_
          refine gu rfl rfl rfl rfl ?_
          refine gu rfl rfl rfl rfl ?_
          refine gn rfl rfl rfl rfl rfl ?_
          refine rv rfl rfl ?_
          refine rn ?_
          cases ho7
          exact cut_n [] rfl rfl ⟨rfl, rfl, zA rfl rfl rfl (zA rfl rfl rfl (zA rfl rfl rfl (trivial))), trivial, trivial⟩
      · have ho7 := cF hg ho7
        refine gn rfl rfl rfl rfl rfl ?_
        refine gn rfl rfl rfl rfl rfl ?_
        refine gy rfl rfl rfl ?_
        refine rv rfl rfl ?_
        refine rvs 2 rfl ?_
        refine gy rfl rfl rfl ?_
        refine rv rfl rfl ?_
        refine gy rfl rfl rfl ?_
        refine rv rfl rfl ?_
        refine gy rfl rfl rfl ?_
        refine rv rfl rfl ?_
        refine gs rfl rfl rfl rfl rfl (fun hg => ?_) (fun hg => ?_)
        · have ho7 := cT hg ho7
          refine rv rfl rfl ?_
          refine gy rfl rfl rfl ?_
          refine rv rfl rfl ?_
          refine gy rfl rfl rfl ?_
          refine rv rfl rfl ?_
          refine gy rfl rfl rfl ?_
          refine rv rfl rfl ?_
          refine rv rfl rfl ?_
          refine rn ?_
          cases ho7
          exact cut_n [] rfl rfl ⟨rfl, rfl, zA rfl rfl rfl (zA rfl rfl rfl (zA rfl rfl rfl (trivial))), trivial, trivial⟩
        · have ho7 := cF hg ho7
          refine gn rfl rfl rfl rfl rfl ?_
          refine gn rfl rfl rfl rfl rfl ?_
          refine gy rfl rfl rfl ?_
          refine rv rfl rfl ?_
          refine rv rfl rfl ?_
          refine rn ?_
          cases ho7
          exact cut_n [] rfl rfl ⟨rfl, rfl, zA rfl rfl rfl (zA rfl rfl rfl (zA rfl rfl rfl (trivial))), trivial, trivial⟩
    · rintro x1 rfl
      change awp _ _ _ _ _ ⟨_, _, _, _⟩
      refine cs_ rfl (fun hc => ?_) (fun hc => ?_)
      · have h := cT hc h
        refine awp_seq ?_
        refine awp_region ?_
        refine rvs 2 rfl ?_
        refine rn ?_
        refine awp_ret ?_
        cases h
        repeat (first | refine then_ret ?_ | refine inBlock_ret ?_ | refine cut_r ?_)
        exact rr rfl rfl rfl
      · have h := cF hc h
        refine awp_skip ?_
        refine awp_seq ?_
        refine awp_region ?_
        refine rvs 4 rfl ?_
        refine rn ?_
        refine awp_ret ?_
        cases h
        repeat (first | refine then_ret ?_ | refine inBlock_ret ?_ | refine cut_r ?_)
        exact rr rfl rfl rfl
end

/-- `plover/token.one` -/
def dtoken_one (fu : Nat) (s1 : Str) : Option (ttokenToken × Int) :=
  (gi s1 0).bind fun c1 => (dtoken_lower fu (c1.toNat : Int)).bind fun x1 => bif x1 then ((dtoken_upto fu s1 (fun x0 => dtoken_one_1 fu x0)).bind fun n1 => (gsl s1 0 n1).bind fun s2 => (dtoken_words fu ).bind fun x2 => (dslices_Contains_string fu x2 s2).bind fun x3 => (bif x3 then some 2 else some 1 : Option Int).bind fun (t1 : Int) => ((bif (decide (n1 > 20)) then some 0 else some n1 : Option Int).bind fun (n2 : Int) => some ((ttokenToken.mk t1 0 0 s2), n2))) else (((dtoken_digit fu (c1.toNat : Int)).bind fun x5 => bif x5 then some true else some ((c1.toNat : Int) == 45) : Option Bool).bind fun (x4 : Bool) => (bif x4 then ((dtoken_number fu s1).bind fun v1 => some ((ttokenToken.mk 3 0 v1.1 []), v1.2)) else (bif ((c1.toNat : Int) == 34) then ((gsl s1 1 (s1.length : Int)).bind fun s3 => (dtoken_upto fu s3 (fun x0 => dtoken_one_2 fu x0)).bind fun n3 => (bif (decide (n3 > 200)) then some true else (bif (decide ((W (n3 + 1)) ≥ (s1.length : Int))) then some true else ((gi s1 (W (n3 + 1))).bind fun c2 => some ((c2.toNat : Int) != 34))) : Option Bool).bind fun (x6 : Bool) => (bif x6 then some ((ttokenToken.mk 0 0 0 []), 0) else ((gsl s1 1 (W (n3 + 1))).bind fun s4 => some ((ttokenToken.mk 4 0 0 s4), W (n3 + 2))))) else ((dtoken_signs fu ).bind fun x7 => (loopD (ε := Int) (τ := Unit ⊕ (ttokenToken × Int)) (fun (x8 : Int) => (bif (decide (x8 < (x7.length : Int))) then ((gi x7 x8).bind fun x10 => (dstrings_HasPrefix fu s1 x10).bind fun x11 => bif x11 then ((some ((x10.length : Int))).bind fun x12 => some (Sum.inr (Sum.inr ((ttokenToken.mk 5 0 0 x10), x12)))) else some (Sum.inl (W (x8 + 1)))) else some (Sum.inr (Sum.inl ())))) fu 0).bind fun o => kS o fun (_ : Unit) => some ((ttokenToken.mk 0 0 0 []), 0)))))
section
attribute [local irreducible] awp aops DP PCall ACall Decidable.decide
theorem dtoken_one_l {fu : Nat} {s1 : Str} {r : ttokenToken × Int} (h : dtoken_one fu s1 = some r) : PCall Tryd.prog 17 [.str (sB s1)] (· = .tup [.agg [.int .i64 r.1.Kind, .int .i64 r.1.At, .int .i64 r.1.N, .str (sB r.1.S)], .int .i64 r.2]) := by
  rw [dtoken_one] at h
  refine pcall_body Tryd.func17 rfl (by kernel_rfl) (by rfl) ?_
  refine awp_seq ?_
  refine awp_region ?_
  refine ra rfl rfl rfl ?_
  refine rv rfl rfl ?_
  refine rn ?_
  refine awp_seq ?_
  refine awp_seq ?_
  refine awp_region ?_
  refine rv rfl rfl ?_
  obtain ⟨c1, hx1, h⟩ := bi h
  refine rV rfl (va_sidx rfl rfl rfl rfl hx1) ?_
  refine rv rfl rfl ?_
  refine rn ?_
  refine awp_block ?_
  refine awp_seq ?_
  refine awp_region ?_
  refine rv rfl rfl ?_
  obtain ⟨x1, hx2, h⟩ := bi h
  refine rc1 rfl rfl rfl (dtoken_lower_l hx2) ?_
  refine rv rfl rfl ?_
  refine rn ?_
  refine cs_ rfl (fun hc => ?_) (fun hc => ?_)
  · have h := cT hc h
    refine awp_seq ?_
    refine awp_region ?_
    refine rv rfl rfl ?_
    obtain ⟨n1, hx3, h⟩ := bi h
    refine rc1 rfl rfl rfl (dtoken_upto_l ⟨rfl, fun _ => rfl⟩ (fun hq => dtoken_one_1_l hq) hx3) ?_
    refine rv rfl rfl ?_
    refine rn ?_
    refine awp_seq ?_
    refine awp_region ?_
    refine rvs 2 rfl ?_
    obtain ⟨s2, hx4, h⟩ := bi h
    refine rV rfl (va_ssub rfl rfl rfl rfl ⟨_, rfl⟩ hx4) ?_
    refine rv rfl rfl ?_
    refine ra rfl rfl rfl ?_
    refine rs rfl rfl rfl rfl rfl rfl rfl ?_
    refine rn ?_
    refine awp_seq ?_
    refine awp_seq ?_
    refine awp_dp (m := 4) Tryd.mix (by kernel_rfl) (by kernel_rfl) (by kernel_rfl) (by kernel_rfl) (by kernel_rfl) (by kernel_rfl) (by kernel_rfl) ?_
    obtain ⟨x2, hx5, h⟩ := bi h
    refine dc rfl rfl rfl rfl (fun _ => rfl) (fun _ => (dtoken_words_l hx5)) ?_
    refine dv rfl rfl (fun _ => rfl) ?_
    refine dv rfl rfl (fun _ => rfl) ?_
    obtain ⟨x3, hx6, h⟩ := bi h
    refine dc rfl rfl rfl rfl (fun _ => rfl) (fun _ => (dslices_Contains_string_l hx6)) ?_
    refine dn ?_
    refine rn ?_
    obtain ⟨o7, ho8, h⟩ := bi h
    refine awp_cut1 (fun x => x = o7) (fun (t1 : Int) => ⟨[(2, .ptr 0 0), (5, .int .i64 n1), (6, .ptr 1 0)], [(0, 0, .int .i64 0), (0, 1, .int .i64 0), (0, 2, .int .i64 0), (0, 3, .str (sB [])), (1, 0, .int .i64 t1), (1, 1, .int .i64 0), (1, 2, .int .i64 0), (1, 3, .str (sB s2))], [], 2⟩) ?_ ?_
    · refine cs_ rfl (fun hc => ?_) (fun hc => ?_)
      · have ho8 := cT hc ho8
        refine awp_region ?_
        refine rv rfl rfl ?_
        refine rs rfl rfl rfl rfl rfl rfl rfl ?_
        refine rn ?_
        cases ho8
        exact cut_n [0, 1] rfl rfl ⟨rfl, rfl, zA rfl rfl rfl (zA rfl rfl rfl (zA rfl rfl rfl (trivial))), zC rfl rfl rfl rfl (zC rfl rfl rfl rfl (zC rfl rfl rfl rfl (zC rfl rfl rfl rfl (zC rfl rfl rfl rfl (zC rfl rfl rfl rfl (zC rfl rfl rfl rfl (zC rfl rfl rfl rfl (trivial)))))))), trivial⟩
      · have ho8 := cF hc ho8
        refine awp_skip ?_
        cases ho8
        exact cut_n [0, 1] rfl rfl ⟨rfl, rfl, zA rfl rfl rfl (zA rfl rfl rfl (zA rfl rfl rfl (trivial))), zC rfl rfl rfl rfl (zC rfl rfl rfl rfl (zC rfl rfl rfl rfl (zC rfl rfl rfl rfl (zC rfl rfl rfl rfl (zC rfl rfl rfl rfl (zC rfl rfl rfl rfl (zC rfl rfl rfl rfl (trivial)))))))), trivial⟩
    · rintro t1 rfl
      change awp _ _ _ _ _ ⟨_, _, _, _⟩
      refine awp_seq ?_
      refine awp_seq ?_
      refine awp_region ?_
      refine rvs 2 rfl ?_
      refine rn ?_
      obtain ⟨o9, ho10, h⟩ := bi h
      refine awp_cut1 (fun x => x = o9) (fun (n2 : Int) => ⟨[(2, .ptr 0 0), (5, .int .i64 n2), (6, .ptr 1 0)], [(0, 0, .int .i64 0), (0, 1, .int .i64 0), (0, 2, .int .i64 0), (0, 3, .str (sB [])), (1, 0, .int .i64 t1), (1, 1, .int .i64 0), (1, 2, .int .i64 0), (1, 3, .str (sB s2))], [], 2⟩) ?_ ?_
      · refine cs_ rfl (fun hc => ?_) (fun hc => ?_)
        · have ho10 := cT hc ho10
          refine awp_region ?_
          refine rv rfl rfl ?_
          refine rn ?_
          cases ho10
          exact cut_n [0, 1] rfl rfl ⟨rfl, rfl, zA rfl rfl rfl (zA rfl rfl rfl (zA rfl rfl rfl (trivial))), zC rfl rfl rfl rfl (zC rfl rfl rfl rfl (zC rfl rfl rfl rfl (zC rfl rfl rfl rfl (zC rfl rfl rfl rfl (zC rfl rfl rfl rfl (zC rfl rfl rfl rfl (zC rfl rfl rfl rfl (trivial)))))))), trivial⟩
        · have ho10 := cF hc ho10
          refine awp_skip ?_
          cases ho10
          exact cut_n [0, 1] rfl rfl ⟨rfl, rfl, zA rfl rfl rfl (zA rfl rfl rfl (zA rfl rfl rfl (trivial))), zC rfl rfl rfl rfl (zC rfl rfl rfl rfl (zC rfl rfl rfl rfl (zC rfl rfl rfl rfl (zC rfl rfl rfl rfl (zC rfl rfl rfl rfl (zC rfl rfl rfl rfl (zC rfl rfl rfl rfl (trivial)))))))), trivial⟩
      · rintro n2 rfl
        change awp _ _ _ _ _ ⟨_, _, _, _⟩
        refine awp_seq ?_
        refine awp_region ?_
        refine rvs 2 rfl ?_
        refine rs rfl rfl rfl rfl rfl rfl rfl ?_
        refine rv rfl rfl ?_
        refine rn ?_
        refine awp_ret ?_
        cases h
        repeat (first | refine then_ret ?_ | refine inBlock_ret ?_ | refine cut_r ?_)
        exact rr rfl rfl rfl
  · have h := cF hc h
    refine awp_seq ?_
    obtain ⟨o11, ho12, h⟩ := bi h
    refine awp_cut1 (fun x => x = o11) (fun (x4 : Bool) => ⟨[(0, .str (sB s1)), (2, .ptr 0 0), (4, .int .u8 (c1.toNat : Int)), (32, .bool x4)], [(0, 0, .int .i64 0), (0, 1, .int .i64 0), (0, 2, .int .i64 0), (0, 3, .str (sB []))], [], 1⟩) ?_ ?_
    · refine awp_region ?_
      refine rv rfl rfl ?_
      obtain ⟨x5, hx13, ho12⟩ := bi ho12
      refine rc1 rfl rfl rfl (dtoken_digit_l hx13) ?_
      refine rv rfl rfl ?_
      refine gs rfl rfl rfl rfl rfl (fun hg => ?_) (fun hg => ?_)
      · have ho12 := cF hg ho12
        refine rv rfl rfl ?_
        refine gy rfl rfl rfl ?_
        refine rv rfl rfl ?_
        refine rvs 2 rfl ?_
        refine rn ?_
        cases ho12
        exact cut_n [0] rfl rfl ⟨rfl, rfl, zA rfl rfl rfl (zA rfl rfl rfl (zA rfl rfl rfl (zA rfl rfl rfl (trivial)))), zC rfl rfl rfl rfl (zC rfl rfl rfl rfl (zC rfl rfl rfl rfl (zC rfl rfl rfl rfl (trivial)))), trivial⟩
      · have ho12 := cT hg ho12
        refine gn rfl rfl rfl rfl rfl ?_
        refine rvs 2 rfl ?_
        refine rn ?_
        cases ho12
        exact cut_n [0] rfl rfl ⟨rfl, rfl, zA rfl rfl rfl (zA rfl rfl rfl (zA rfl rfl rfl (zA rfl rfl rfl (trivial)))), zC rfl rfl rfl rfl (zC rfl rfl rfl rfl (zC rfl rfl rfl rfl (zC rfl rfl rfl rfl (trivial)))), trivial⟩
    · rintro x4 rfl
      change awp _ _ _ _ _ ⟨_, _, _, _⟩
      refine cs_ rfl (fun hc => ?_) (fun hc => ?_)
      · have h := cT hc h
        refine awp_seq ?_
        refine awp_region ?_
        refine rv rfl rfl ?_
        obtain ⟨v1, hx14, h⟩ := bi h
        refine rc1 rfl rfl rfl (dtoken_number_l hx14) ?_
        refine rvs 5 rfl ?_
        refine rn ?_
        refine awp_seq ?_
        refine awp_region ?_
        refine rvs 3 rfl ?_
        refine rs rfl rfl rfl rfl rfl rfl rfl ?_
        refine rv rfl rfl ?_
        refine rn ?_
        refine awp_ret ?_
        cases h
        repeat (first | refine then_ret ?_ | refine inBlock_ret ?_ | refine cut_r ?_)
        exact rr rfl rfl rfl
      · have h := cF hc h
        refine awp_seq ?_
        refine awp_region ?_
        refine rvs 3 rfl ?_
        refine rn ?_
        refine cs_ rfl (fun hc => ?_) (fun hc => ?_)
        · have h := cT hc h
          refine awp_seq ?_
          refine awp_region ?_
          refine rv rfl rfl ?_
          obtain ⟨s3, hx15, h⟩ := bi h
          refine rV rfl (va_ssub rfl rfl rfl ⟨_, rfl⟩ rfl hx15) ?_
          obtain ⟨n3, hx16, h⟩ := bi h
          refine rc1 rfl rfl rfl (dtoken_upto_l ⟨rfl, fun _ => rfl⟩ (fun hq => dtoken_one_2_l hq) hx16) ?_
          refine rv rfl rfl ?_
          refine rn ?_
          refine awp_seq ?_
          refine awp_seq ?_
          obtain ⟨o17, ho18, h⟩ := bi h
          refine awp_cut1 (fun x => x = o17) (fun (x6 : Bool) => ⟨[(0, .str (sB s1)), (2, .ptr 0 0), (9, .int .i64 n3), (68, .bool x6)], [(0, 0, .int .i64 0), (0, 1, .int .i64 0), (0, 2, .int .i64 0), (0, 3, .str (sB []))], [], 1⟩) ?_ ?_
          · refine awp_region ?_
            refine rvs 3 rfl ?_
            refine gs rfl rfl rfl rfl rfl (fun hg => ?_) (fun hg => ?_)
            · have ho18 := cF hg ho18
              refine rv rfl rfl ?_
              refine gy rfl rfl rfl ?_
              refine rv rfl rfl ?_
              refine gy rfl rfl rfl ?_
              refine rv rfl rfl ?_
              refine gy rfl rfl rfl ?_
              refine rv rfl rfl ?_
              refine gy rfl rfl rfl ?_
              refine rv rfl rfl ?_
              refine rvs 2 rfl ?_
              refine gs rfl rfl rfl rfl rfl (fun hg => ?_) (fun hg => ?_)
              · have ho18 := cF hg ho18
                refine rv rfl rfl ?_
                refine gy rfl rfl rfl ?_
                refine rv rfl rfl ?_
                refine gy rfl rfl rfl ?_
                refine rv rfl rfl ?_
                refine gy rfl rfl rfl ?_
                obtain ⟨c2, hx19, ho18⟩ := bi ho18
                refine rV rfl (va_sidx rfl rfl rfl rfl hx19) ?_
                refine gy rfl rfl rfl ?_
                refine rv rfl rfl ?_
                refine rv rfl rfl ?_
                refine rn ?_
                cases ho18
                exact cut_n [0] rfl rfl ⟨rfl, rfl, zA rfl rfl rfl (zA rfl rfl rfl (zA rfl rfl rfl (zA rfl rfl rfl (trivial)))), zC rfl rfl rfl rfl (zC rfl rfl rfl rfl (zC rfl rfl rfl rfl (zC rfl rfl rfl rfl (trivial)))), trivial⟩
              · have ho18 := cT hg ho18
                refine gn rfl rfl rfl rfl rfl ?_
                refine gn rfl rfl rfl rfl rfl ?_
                refine gn rfl rfl rfl rfl rfl ?_
                refine gn rfl rfl rfl rfl rfl ?_
                refine rv rfl rfl ?_
                refine rn ?_
                cases ho18
                exact cut_n [0] rfl rfl ⟨rfl, rfl, zA rfl rfl rfl (zA rfl rfl rfl (zA rfl rfl rfl (zA rfl rfl rfl (trivial)))), zC rfl rfl rfl rfl (zC rfl rfl rfl rfl (zC rfl rfl rfl rfl (zC rfl rfl rfl rfl (trivial)))), trivial⟩
            · have ho18 := cT hg ho18
              refine gn rfl rfl rfl rfl rfl ?_
              refine gn rfl rfl rfl rfl rfl ?_
              refine gn rfl rfl rfl rfl rfl ?_
              refine gn rfl rfl rfl rfl rfl ?_
              refine rvs 2 rfl ?_
              refine gn rfl rfl rfl rfl rfl ?_
              refine gn rfl rfl rfl rfl rfl ?_
              refine gn rfl rfl rfl rfl rfl ?_
              refine gn rfl rfl rfl rfl rfl ?_
              refine gn rfl rfl rfl rfl rfl ?_
              refine rv rfl rfl ?_
              refine rn ?_
              cases ho18
              exact cut_n [0] rfl rfl ⟨rfl, rfl, zA rfl rfl rfl (zA rfl rfl rfl (zA rfl rfl rfl (zA rfl rfl rfl (trivial)))), zC rfl rfl rfl rfl (zC rfl rfl rfl rfl (zC rfl rfl rfl rfl (zC rfl rfl rfl rfl (trivial)))), trivial⟩
          · rintro x6 rfl
            change awp _ _ _ _ _ ⟨_, _, _, _⟩
            refine cs_ rfl (fun hc => ?_) (fun hc => ?_)
            · have h := cT hc h
              refine awp_seq ?_
              refine awp_region ?_
              refine rv rfl rfl ?_
              refine rs rfl rfl rfl rfl rfl rfl rfl ?_
              refine rv rfl rfl ?_
              refine rn ?_
              refine awp_ret ?_
              cases h
              repeat (first | refine then_ret ?_ | refine inBlock_ret ?_ | refine cut_r ?_)
              exact rr rfl rfl rfl
            · have h := cF hc h
              refine awp_skip ?_
              refine awp_seq ?_
              refine awp_region ?_
              refine rvs 3 rfl ?_
              obtain ⟨s4, hx20, h⟩ := bi h
              refine rV rfl (va_ssub rfl rfl rfl ⟨_, rfl⟩ ⟨_, rfl⟩ hx20) ?_
              refine rvs 3 rfl ?_
              refine rs rfl rfl rfl rfl rfl rfl rfl ?_
              refine rv rfl rfl ?_
              refine rn ?_
              refine awp_ret ?_
              cases h
              repeat (first | refine then_ret ?_ | refine inBlock_ret ?_ | refine cut_r ?_)
              exact rr rfl rfl rfl
        · have h := cF hc h
          refine awp_skip ?_
          refine inBlock_normal ?_
          refine awp_seq ?_
          refine awp_seq ?_
          refine awp_region ?_
          obtain ⟨x7, hx21, h⟩ := bi h
          refine rc1 rfl rfl rfl (dtoken_signs_l hx21) ?_
          refine rv rfl rfl ?_
          refine rt ((lM cS x7)) ?_
          refine rv rfl rfl ?_
          refine rn ?_
          obtain ⟨e22, hl23, h⟩ := bi h
          refine awp_cut1 (fun x => Sum.inl x = e22) (fun (_ : Unit) => ⟨[(2, .ptr 0 0)], [(0, 0, .int .i64 0), (0, 1, .int .i64 0), (0, 2, .int .i64 0), (0, 3, .str (sB []))], [], 1⟩) ?_ ?_
          · refine awp_block ?_
            refine awp_loopD hl23 (fun (x8 : Int) => ⟨[(0, .str (sB s1)), (2, .ptr 0 0), (77, .sl (x7.map cS)), (78, .int .i64 (x7.length : Int)), (79, .int .i64 x8)], [(0, 0, .int .i64 0), (0, 1, .int .i64 0), (0, 2, .int .i64 0), (0, 3, .str (sB []))], [], 1⟩) [0] rfl ⟨rfl, rfl, zA rfl rfl rfl (zA rfl rfl rfl (zA rfl rfl rfl (zA rfl rfl rfl (zA rfl rfl rfl (trivial))))), zC rfl rfl rfl rfl (zC rfl rfl rfl rfl (zC rfl rfl rfl rfl (zC rfl rfl rfl rfl (trivial)))), trivial⟩ ?_
            intro x8 o26 ho24 hE25
            change awp _ _ _ _ _ ⟨_, _, _, _⟩
            refine awp_seq ?_
            refine awp_region ?_
            refine rv rfl rfl ?_
            refine rn ?_
            refine awp_seq ?_
            refine cs_ rfl (fun hc => ?_) (fun hc => ?_)
            · have ho24 := cT hc ho24
              refine awp_skip ?_
              refine awp_seq ?_
              refine awp_block ?_
              refine awp_seq ?_
              refine awp_region ?_
              obtain ⟨x10, hx27, ho24⟩ := bi ho24
              refine ri rfl rfl rfl rfl rfl rfl (gi0 hx27) (giM cS hx27) (wM (fun _ => by rfl) _) ?_
              refine rvs 2 rfl ?_
              refine rn ?_
              refine awp_seq ?_
              refine awp_region ?_
              refine rvs 2 rfl ?_
              obtain ⟨x11, hx28, ho24⟩ := bi ho24
              refine rc1 rfl rfl rfl (dstrings_HasPrefix_l hx28) ?_
              refine rn ?_
              refine cs_ rfl (fun hc => ?_) (fun hc => ?_)
              · have ho24 := cT hc ho24
                refine awp_seq ?_
                refine awp_region ?_
                refine rvs 4 rfl ?_
                refine rs rfl rfl rfl rfl rfl rfl rfl ?_
                refine rv rfl rfl ?_
                obtain ⟨x12, hx29, ho24⟩ := bs ho24
                refine rt (ei' hx29) ?_
                refine rn ?_
                refine awp_ret ?_
                cases ho24
                have hq := hE25 _ rfl
                subst hq
                have h := ksr h
                subst h
                repeat (first | refine then_ret ?_ | refine inBlock_ret ?_ | refine cut_r ?_)
                exact rr rfl rfl rfl
              · have ho24 := cF hc ho24
                refine awp_skip ?_
                refine inBlock_normal ?_
                refine awp_region ?_
                refine rvs 2 rfl ?_
                refine rn ?_
                cases ho24
                exact lp_n [0] rfl rfl ⟨rfl, rfl, zA rfl rfl rfl (zA rfl rfl rfl (zA rfl rfl rfl (zA rfl rfl rfl (zA rfl rfl rfl (trivial))))), zC rfl rfl rfl rfl (zC rfl rfl rfl rfl (zC rfl rfl rfl rfl (zC rfl rfl rfl rfl (trivial)))), trivial⟩
            · have ho24 := cF hc ho24
              refine awp_exit ?_
              repeat (first | refine then_exit ?_ | refine cut_x ?_ | refine inBlock_other rfl ?_)
              refine inBlock_exit ?_
              cases ho24
              have hq := hE25 _ rfl
              subst hq
              exact cut_n [0] rfl rfl ⟨rfl, rfl, zA rfl rfl rfl (trivial), zC rfl rfl rfl rfl (zC rfl rfl rfl rfl (zC rfl rfl rfl rfl (zC rfl rfl rfl rfl (trivial)))), trivial⟩
          · rintro _ rfl
            have h := ksl h
            refine awp_seq ?_
            refine awp_region ?_
            refine rv rfl rfl ?_
            refine rs rfl rfl rfl rfl rfl rfl rfl ?_
            refine rv rfl rfl ?_
            refine rn ?_
            refine awp_ret ?_
            cases h
            repeat (first | refine then_ret ?_ | refine inBlock_ret ?_ | refine cut_r ?_)
            exact rr rfl rfl rfl
end

/-- `plover/token.Cut` -/
def dtoken_Cut (fu : Nat) (s1 : Str) : Option ((List ttokenToken) × Er) :=
  bif (decide ((s1.length : Int) > 500)) then some ([], (some 5)) else ((loopD (ε := Int × (List ttokenToken)) (τ := (List ttokenToken) ⊕ ((List ttokenToken) × Er)) (fun (((at1, out1)) : Int × (List ttokenToken)) => (bif (decide (at1 < (s1.length : Int))) then ((gi s1 at1).bind fun c1 => bif ((c1.toNat : Int) == 32) then some (Sum.inl (W (at1 + 1), out1)) else ((gsl s1 at1 (s1.length : Int)).bind fun s2 => (dtoken_one fu s2).bind fun n1 => bif (n1.2 == 0) then some (Sum.inr (Sum.inr ([], (some 2)))) else ((ap out1 [(ttokenToken.mk n1.1.Kind at1 n1.1.N n1.1.S)]).bind fun out4 => some (Sum.inl (W (at1 + n1.2), out4))))) else some (Sum.inr (Sum.inl out1)))) fu (0, [])).bind fun o => kS o fun (out3 : List ttokenToken) => some (out3, none))
section
attribute [local irreducible] awp aops DP PCall ACall Decidable.decide
theorem dtoken_Cut_l {fu : Nat} {s1 : Str} {r : (List ttokenToken) × Er} (h : dtoken_Cut fu s1 = some r) : PCall Tryd.prog 7 [.str (sB s1)] (· = .tup [.sl (r.1.map c_ttokenToken), .err 47 r.2]) := by
  rw [dtoken_Cut] at h
  refine pcall_body Tryd.func7 rfl (by kernel_rfl) (by rfl) ?_
  refine awp_seq ?_
  refine awp_region ?_
  refine rvs 2 rfl ?_
  refine rn ?_
  refine awp_seq ?_
  refine awp_seq ?_
  refine awp_region ?_
  refine rvs 3 rfl ?_
  refine rn ?_
  refine cs_ rfl (fun hc => ?_) (fun hc => ?_)
  · have h := cT hc h
    refine awp_seq ?_
    refine awp_region ?_
    refine rvs 3 rfl ?_
    refine rn ?_
    refine awp_conv (fun _ _ _ _ _ hi => err_slot 47 3 (some 5) rfl hi) ?_
    refine awp_ret ?_
    cases h
    repeat (first | refine then_ret ?_ | refine inBlock_ret ?_ | refine cut_r ?_)
    exact rr rfl rfl rfl
  · have h := cF hc h
    refine awp_skip ?_
    refine awp_seq ?_
    refine awp_region ?_
    refine rv rfl rfl ?_
    refine rn ?_
    refine awp_seq ?_
    refine awp_seq ?_
    refine awp_region ?_
    refine rv rfl rfl ?_
    refine rn ?_
    refine awp_conv (fun _ _ _ _ _ hi => nilS_slot false 4 4 rfl hi) ?_
    obtain ⟨e1, hl2, h⟩ := bi h
    refine awp_cut1 (fun x => Sum.inl x = e1) (fun (out3 : List ttokenToken) => ⟨[(4, .own 0)], [], [(0, .row 4 (out3.map c_ttokenToken))], 1⟩) ?_ ?_
    · refine awp_block ?_
      refine awp_loopD hl2 (fun (((at1, out1)) : Int × (List ttokenToken)) => ⟨[(0, .str (sB s1)), (4, .own 0), (5, .int .i64 at1)], [], [(0, .row 4 (out1.map c_ttokenToken))], 1⟩) [0] rfl ⟨rfl, rfl, zA rfl rfl rfl (zA rfl rfl rfl (zA rfl rfl rfl (trivial))), trivial, zE rfl .row rfl (trivial)⟩ ?_
      intro v o5 ho3 hE4
      obtain ⟨at1, out1⟩ := v
      change awp _ _ _ _ _ ⟨_, _, _, _⟩
      refine awp_seq ?_
      refine awp_seq ?_
      refine awp_region ?_
      refine rvs 4 rfl ?_
      refine rn ?_
      refine cs_ rfl (fun hc => ?_) (fun hc => ?_)
      · have ho3 := cT hc ho3
        refine awp_skip ?_
        refine awp_block ?_
        refine awp_seq ?_
        refine awp_seq ?_
        refine awp_region ?_
        refine rvs 2 rfl ?_
        obtain ⟨c1, hx6, ho3⟩ := bi ho3
        refine rV rfl (va_sidx rfl rfl rfl rfl hx6) ?_
        refine rv rfl rfl ?_
        refine rn ?_
        refine cs_ rfl (fun hc => ?_) (fun hc => ?_)
        · have ho3 := cT hc ho3
          refine awp_seq ?_
          refine awp_region ?_
          refine rvs 3 rfl ?_
          refine rn ?_
          refine awp_exit ?_
          repeat (first | refine then_exit ?_ | refine cut_x ?_ | refine inBlock_other rfl ?_)
          refine inBlock_exit ?_
          cases ho3
          exact lp_n [0] rfl rfl ⟨rfl, rfl, zA rfl rfl rfl (zA rfl rfl rfl (zA rfl rfl rfl (trivial))), trivial, zE rfl .row rfl (trivial)⟩
        · have ho3 := cF hc ho3
          refine awp_skip ?_
          refine awp_seq ?_
          refine awp_region ?_
          refine rvs 2 rfl ?_
          obtain ⟨s2, hx7, ho3⟩ := bi ho3
          refine rV rfl (va_ssub rfl rfl rfl ⟨_, rfl⟩ rfl hx7) ?_
          obtain ⟨n1, hx8, ho3⟩ := bi ho3
          refine rc1 rfl rfl rfl (dtoken_one_l hx8) ?_
          refine rvs 3 rfl ?_
          refine ra rfl rfl rfl ?_
          refine rs rfl rfl rfl rfl rfl rfl rfl ?_
          refine rv rfl rfl ?_
          refine rn ?_
          refine awp_seq ?_
          refine awp_seq ?_
          refine awp_region ?_
          refine rvs 2 rfl ?_
          refine rn ?_
          refine cs_ rfl (fun hc => ?_) (fun hc => ?_)
          · have ho3 := cT hc ho3
            refine awp_seq ?_
            refine awp_region ?_
            refine rvs 3 rfl ?_
            refine rn ?_
            refine awp_conv (fun _ _ _ _ _ hi => err_slot 47 3 (some 2) rfl hi) ?_
            refine awp_ret ?_
            cases ho3
            have hq := hE4 _ rfl
            subst hq
            have h := ksr h
            subst h
            repeat (first | refine then_ret ?_ | refine inBlock_ret ?_ | refine cut_r ?_)
            exact rr rfl rfl rfl
          · have ho3 := cF hc ho3
            refine awp_skip ?_
            refine awp_seq ?_
            refine awp_region ?_
            refine rvs 2 rfl ?_
            refine rs rfl rfl rfl rfl rfl rfl rfl ?_
            refine rn ?_
            refine awp_region ?_
            refine rvs 2 rfl ?_
            refine rbs false rfl rfl rfl rfl rfl rfl rfl rfl rfl rfl ?_
            obtain ⟨out4, hx9, ho3⟩ := bi ho3
            refine rap false (xs := out1.map c_ttokenToken) (ys := [(ttokenToken.mk n1.1.Kind at1 n1.1.N n1.1.S)].map c_ttokenToken) rfl rfl rfl rfl rfl rfl rfl (.own rfl rfl) (.sl rfl rfl rfl) (wM (fun _ => by rfl) _) (oM (fun _ => by rfl) _) (apB c_ttokenToken rfl hx9) rfl ?_
            refine rk (congrArg (Kind.row _) (apM c_ttokenToken hx9)) ?_
            refine rvs 5 rfl ?_
            refine rn ?_
            refine inBlock_normal ?_
            cases ho3
            exact lp_n [3] rfl rfl ⟨rfl, rfl, zA rfl rfl rfl (zA rfl rfl rfl (zA rfl rfl rfl (trivial))), trivial, zE rfl .row rfl (trivial)⟩
      · have ho3 := cF hc ho3
        refine awp_exit ?_
        repeat (first | refine then_exit ?_ | refine cut_x ?_ | refine inBlock_other rfl ?_)
        refine inBlock_exit ?_
        cases ho3
        have hq := hE4 _ rfl
        subst hq
        exact cut_n [0] rfl rfl ⟨rfl, rfl, zA rfl rfl rfl (trivial), trivial, zE rfl .row rfl (trivial)⟩
    · rintro out3 rfl
      have h := ksl h
      refine awp_seq ?_
      refine awp_region ?_
      refine rvs 3 rfl ?_
      refine rn ?_
      refine awp_conv (fun _ _ _ _ _ hi => err_slot 47 3 none rfl hi) ?_
      refine awp_ret ?_
      cases h
      repeat (first | refine then_ret ?_ | refine inBlock_ret ?_ | refine cut_r ?_)
      exact rr rfl rfl rfl
end

/-- `plover/ploverref06.low` -/
def dref06_low (fu : Nat) (c1 : Int) : Option Bool :=
  bif (decide (c1 ≥ 97)) then ((some (decide (c1 ≤ 122))).bind fun x1 => some x1) else some false
section
attribute [local irreducible] awp aops DP PCall ACall Decidable.decide
theorem dref06_low_l {fu : Nat} {c1 : Int} {r : Bool} (h : dref06_low fu c1 = some r) : PCall Tryd.prog 35 [.int .u8 c1] (· = .bool r) := by
  rw [dref06_low] at h
  refine pcall_body Tryd.func35 rfl (by kernel_rfl) (by rfl) ?_
  refine awp_seq ?_
  refine awp_region ?_
  refine rv rfl rfl ?_
  refine rn ?_
  refine awp_seq ?_
  refine awp_region ?_
  refine rvs 3 rfl ?_
  refine gs rfl rfl rfl rfl rfl (fun hg => ?_) (fun hg => ?_)
  · have h := cT hg h
    refine rv rfl rfl ?_
    refine gy rfl rfl rfl ?_
    refine rv rfl rfl ?_
    refine rvs 2 rfl ?_
    obtain ⟨x1, hx1, h⟩ := bs h
    refine rt (eb' hx1) ?_
    refine rn ?_
    refine awp_ret ?_
    cases h
    repeat (first | refine then_ret ?_ | refine inBlock_ret ?_ | refine cut_r ?_)
    exact rr rfl rfl rfl
  · have h := cF hg h
    refine gn rfl rfl rfl rfl rfl ?_
    refine rvs 2 rfl ?_
    refine rn ?_
    refine awp_ret ?_
    cases h
    repeat (first | refine then_ret ?_ | refine inBlock_ret ?_ | refine cut_r ?_)
    exact rr rfl rfl rfl
end

/-- `plover/ploverref06.digit` -/
def dref06_digit (fu : Nat) (c1 : Int) : Option Bool :=
  bif (decide (c1 ≥ 48)) then some (decide (c1 ≤ 57)) else some false
section
attribute [local irreducible] awp aops DP PCall ACall Decidable.decide
theorem dref06_digit_l {fu : Nat} {c1 : Int} {r : Bool} (h : dref06_digit fu c1 = some r) : PCall Tryd.prog 36 [.int .u8 c1] (· = .bool r) := by
  rw [dref06_digit] at h
  refine pcall_body Tryd.func36 rfl (by kernel_rfl) (by rfl) ?_
  refine awp_seq ?_
  refine awp_region ?_
  refine rv rfl rfl ?_
  refine rn ?_
  refine awp_seq ?_
  refine awp_region ?_
  refine rvs 3 rfl ?_
  refine gs rfl rfl rfl rfl rfl (fun hg => ?_) (fun hg => ?_)
  · have h := cT hg h
    refine rv rfl rfl ?_
    refine gy rfl rfl rfl ?_
    refine rv rfl rfl ?_
    refine rvs 2 rfl ?_
    refine rn ?_
    refine awp_ret ?_
    cases h
    repeat (first | refine then_ret ?_ | refine inBlock_ret ?_ | refine cut_r ?_)
    exact rr rfl rfl rfl
  · have h := cF hg h
    refine gn rfl rfl rfl rfl rfl ?_
    refine rvs 2 rfl ?_
    refine rn ?_
    refine awp_ret ?_
    cases h
    repeat (first | refine then_ret ?_ | refine inBlock_ret ?_ | refine cut_r ?_)
    exact rr rfl rfl rfl
end

/-- `plover/ploverref06.number` -/
def dref06_number (fu : Nat) (s1 : Str) (at1 : Int) : Option (Int × Int × Bool) :=
  (gi s1 at1).bind fun c1 => (some ((c1.toNat : Int) == 45)).bind fun minus1 => (bif minus1 then some (W (at1 + 1)) else some at1 : Option Int).bind fun (at2 : Int) => ((loopD (ε := Int × Int × Bool) (τ := Int × Int × Bool) (fun (((at3, n1, big1)) : Int × Int × Bool) => ((bif (decide (at3 < (s1.length : Int))) then ((gi s1 at3).bind fun c2 => (dref06_digit fu (c2.toNat : Int)).bind fun x2 => some x2) else some false : Option Bool).bind fun (x1 : Bool) => (bif x1 then ((bif big1 then some true else (bif (decide (n1 > 922337203685477580)) then some true else (bif (n1 == 922337203685477580) then ((gi s1 at3).bind fun c3 => (some (decide ((c3.toNat : Int) > 56))).bind fun big5 => some big5) else some false)) : Option Bool).bind fun (big4 : Bool) => ((gi s1 at3).bind fun c4 => (some (IntKind.wrap .u64 ((IntKind.wrap .u64 (10 * n1)) + (IntKind.wrap .u64 (IntKind.wrap .u8 ((c4.toNat : Int) - 48)))))).bind fun n4 => some (Sum.inl (W (at3 + 1), n4, big4)))) else some (Sum.inr (at3, n1, big1))))) fu (at2, 0, false)).bind fun (((at5, n3, big3)) : Int × Int × Bool) => ((bif (at5 == at2) then some true else (bif (decide ((W (at5 - at2)) > 1)) then ((gi s1 at2).bind fun c5 => bif ((c5.toNat : Int) == 48) then some true else (bif big3 then some true else (bif minus1 then (bif (n3 == 0) then some true else (bif (!minus1) then some (n3 == 9223372036854775808) else some false)) else (bif (!minus1) then some (n3 == 9223372036854775808) else some false)))) else (bif big3 then some true else (bif minus1 then (bif (n3 == 0) then some true else (bif (!minus1) then some (n3 == 9223372036854775808) else some false)) else (bif (!minus1) then some (n3 == 9223372036854775808) else some false)))) : Option Bool).bind fun (x3 : Bool) => (bif x3 then some (0, at5, false) else (bif minus1 then ((some (W ((W (0 - (W (IntKind.wrap .u64 (n3 - 1))))) - 1))).bind fun x4 => some (x4, at5, true)) else some (W n3, at5, true)))))
section
attribute [local irreducible] awp aops DP PCall ACall Decidable.decide
theorem dref06_number_l {fu : Nat} {s1 : Str} {at1 : Int} {r : Int × Int × Bool} (h : dref06_number fu s1 at1 = some r) : PCall Tryd.prog 37 [.str (sB s1), .int .i64 at1] (· = .tup [.int .i64 r.1, .int .i64 r.2.1, .bool r.2.2]) := by
  rw [dref06_number] at h
  refine pcall_body Tryd.func37 rfl (by kernel_rfl) (by rfl) ?_
  refine awp_seq ?_
  refine awp_region ?_
  refine rvs 3 rfl ?_
  refine rn ?_
  refine awp_seq ?_
  refine awp_region ?_
  refine rvs 2 rfl ?_
  obtain ⟨c1, hx1, h⟩ := bi h
  refine rV rfl (va_sidx rfl rfl rfl rfl hx1) ?_
  refine rvs 2 rfl ?_
  obtain ⟨minus1, hx2, h⟩ := bs h
  refine rt (eb' hx2) ?_
  refine rn ?_
  refine awp_seq ?_
  refine awp_seq ?_
  refine awp_region ?_
  refine rv rfl rfl ?_
  refine rn ?_
  obtain ⟨o3, ho4, h⟩ := bi h
  refine awp_cut1 (fun x => x = o3) (fun (at2 : Int) => ⟨[(0, .str (sB s1)), (1, .int .i64 at2), (7, .bool minus1)], [], [], 0⟩) ?_ ?_
  · refine cs_ rfl (fun hc => ?_) (fun hc => ?_)
    · have ho4 := cT hc ho4
      refine awp_region ?_
      refine rvs 3 rfl ?_
      refine rn ?_
      cases ho4
      exact cut_n [] rfl rfl ⟨rfl, rfl, zA rfl rfl rfl (zA rfl rfl rfl (zA rfl rfl rfl (trivial))), trivial, trivial⟩
    · have ho4 := cF hc ho4
      refine awp_skip ?_
      cases ho4
      exact cut_n [] rfl rfl ⟨rfl, rfl, zA rfl rfl rfl (zA rfl rfl rfl (zA rfl rfl rfl (trivial))), trivial, trivial⟩
  · rintro at2 rfl
    change awp _ _ _ _ _ ⟨_, _, _, _⟩
    refine awp_seq ?_
    refine awp_region ?_
    refine rvs 2 rfl ?_
    refine rn ?_
    refine awp_seq ?_
    refine awp_region ?_
    refine rv rfl rfl ?_
    refine rn ?_
    refine awp_seq ?_
    refine awp_region ?_
    refine rv rfl rfl ?_
    refine rn ?_
    refine awp_seq ?_
    obtain ⟨e5, hl6, h⟩ := bi h
    refine awp_cut1 (fun x => x = e5) (fun (((at5, n3, big3)) : Int × Int × Bool) => ⟨[(0, .str (sB s1)), (1, .int .i64 at5), (7, .bool minus1), (8, .int .i64 at2), (9, .int .u64 n3), (10, .bool big3)], [], [], 0⟩) ?_ ?_
    · refine awp_block ?_
      refine awp_loopD hl6 (fun (((at3, n1, big1)) : Int × Int × Bool) => ⟨[(0, .str (sB s1)), (1, .int .i64 at3), (7, .bool minus1), (8, .int .i64 at2), (9, .int .u64 n1), (10, .bool big1)], [], [], 0⟩) [] rfl ⟨rfl, rfl, zA rfl rfl rfl (zA rfl rfl rfl (zA rfl rfl rfl (zA rfl rfl rfl (zA rfl rfl rfl (zA rfl rfl rfl (trivial)))))), trivial, trivial⟩ ?_
      intro v o9 ho7 hE8
      obtain ⟨at3, n1, big1⟩ := v
      change awp _ _ _ _ _ ⟨_, _, _, _⟩
      refine awp_seq ?_
      refine awp_seq ?_
      obtain ⟨o10, ho11, ho7⟩ := bi ho7
      refine awp_cut1 (fun x => x = o10) (fun (x1 : Bool) => ⟨[(0, .str (sB s1)), (1, .int .i64 at3), (7, .bool minus1), (8, .int .i64 at2), (9, .int .u64 n1), (10, .bool big1), (28, .bool x1)], [], [], 0⟩) ?_ ?_
      · refine awp_region ?_
        refine rvs 5 rfl ?_
        refine gs rfl rfl rfl rfl rfl (fun hg => ?_) (fun hg => ?_)
        · have ho11 := cT hg ho11
          refine rv rfl rfl ?_
          refine gy rfl rfl rfl ?_
          refine rv rfl rfl ?_
          refine gy rfl rfl rfl ?_
          obtain ⟨c2, hx12, ho11⟩ := bi ho11
          refine rV rfl (va_sidx rfl rfl rfl rfl hx12) ?_
          refine gy rfl rfl rfl ?_
          obtain ⟨x2, hx13, ho11⟩ := bi ho11
          refine rc1 rfl rfl rfl (dref06_digit_l hx13) ?_
          refine rv rfl rfl ?_
          refine rn ?_
          cases ho11
          exact cut_n [] rfl rfl ⟨rfl, rfl, zA rfl rfl rfl (zA rfl rfl rfl (zA rfl rfl rfl (zA rfl rfl rfl (zA rfl rfl rfl (zA rfl rfl rfl (zA rfl rfl rfl (trivial))))))), trivial, trivial⟩
        · have ho11 := cF hg ho11
          refine gn rfl rfl rfl rfl rfl ?_
          refine gn rfl rfl rfl rfl rfl ?_
          refine gn rfl rfl rfl rfl rfl ?_
          refine rv rfl rfl ?_
          refine rn ?_
          cases ho11
          exact cut_n [] rfl rfl ⟨rfl, rfl, zA rfl rfl rfl (zA rfl rfl rfl (zA rfl rfl rfl (zA rfl rfl rfl (zA rfl rfl rfl (zA rfl rfl rfl (zA rfl rfl rfl (trivial))))))), trivial, trivial⟩
      · rintro x1 rfl
        change awp _ _ _ _ _ ⟨_, _, _, _⟩
        refine cs_ rfl (fun hc => ?_) (fun hc => ?_)
        · have ho7 := cT hc ho7
          refine awp_skip ?_
          refine awp_block ?_
          refine awp_seq ?_
          obtain ⟨o14, ho15, ho7⟩ := bi ho7
          refine awp_cut1 (fun x => x = o14) (fun (big4 : Bool) => ⟨[(0, .str (sB s1)), (1, .int .i64 at3), (7, .bool minus1), (8, .int .i64 at2), (9, .int .u64 n1), (10, .bool big4)], [], [], 0⟩) ?_ ?_
          · refine awp_region ?_
            refine rvs 2 rfl ?_
            refine gs rfl rfl rfl rfl rfl (fun hg => ?_) (fun hg => ?_)
            · have ho15 := cF hg ho15
              refine rv rfl rfl ?_
              refine gy rfl rfl rfl ?_
              refine rv rfl rfl ?_
              refine rvs 2 rfl ?_
              refine gs rfl rfl rfl rfl rfl (fun hg => ?_) (fun hg => ?_)
              · have ho15 := cF hg ho15
                refine rv rfl rfl ?_
                refine gy rfl rfl rfl ?_
                refine rv rfl rfl ?_
                refine gy rfl rfl rfl ?_
                refine rv rfl rfl ?_
                refine gs rfl rfl rfl rfl rfl (fun hg => ?_) (fun hg => ?_)
                · have ho15 := cT hg ho15
                  refine rv rfl rfl ?_
                  refine gy rfl rfl rfl ?_
                  refine rv rfl rfl ?_
                  refine gy rfl rfl rfl ?_
                  obtain ⟨c3, hx16, ho15⟩ := bi ho15
                  refine rV rfl (va_sidx rfl rfl rfl rfl hx16) ?_
                  refine gy rfl rfl rfl ?_
                  refine rv rfl rfl ?_
                  refine gy rfl rfl rfl ?_
                  refine rv rfl rfl ?_
                  refine rvs 2 rfl ?_
                  obtain ⟨big5, hx17, ho15⟩ := bs ho15
                  refine rt (eb' hx17) ?_
                  refine rn ?_
                  cases ho15
                  exact cut_n [] rfl rfl ⟨rfl, rfl, zA rfl rfl rfl (zA rfl rfl rfl (zA rfl rfl rfl (zA rfl rfl rfl (zA rfl rfl rfl (zA rfl rfl rfl (trivial)))))), trivial, trivial⟩
                · have ho15 := cF hg ho15
                  refine gn rfl rfl rfl rfl rfl ?_
                  refine gn rfl rfl rfl rfl rfl ?_
                  refine gn rfl rfl rfl rfl rfl ?_
                  refine gy rfl rfl rfl ?_
                  refine rv rfl rfl ?_
                  refine rvs 2 rfl ?_
                  refine rn ?_
                  cases ho15
                  exact cut_n [] rfl rfl ⟨rfl, rfl, zA rfl rfl rfl (zA rfl rfl rfl (zA rfl rfl rfl (zA rfl rfl rfl (zA rfl rfl rfl (zA rfl rfl rfl (trivial)))))), trivial, trivial⟩
              · have ho15 := cT hg ho15
                refine gn rfl rfl rfl rfl rfl ?_
                refine gn rfl rfl rfl rfl rfl ?_
                refine gu rfl rfl rfl rfl ?_
                refine gu rfl rfl rfl rfl ?_
                refine gu rfl rfl rfl rfl ?_
                refine gu rfl rfl rfl rfl ?_
                refine gn rfl rfl rfl rfl rfl ?_
                refine rvs 2 rfl ?_
                refine rn ?_
                cases ho15
                exact cut_n [] rfl rfl ⟨rfl, rfl, zA rfl rfl rfl (zA rfl rfl rfl (zA rfl rfl rfl (zA rfl rfl rfl (zA rfl rfl rfl (zA rfl rfl rfl (trivial)))))), trivial, trivial⟩
            · have ho15 := cT hg ho15
              refine gn rfl rfl rfl rfl rfl ?_
              refine rvs 2 rfl ?_
              refine gn rfl rfl rfl rfl rfl ?_
              refine gn rfl rfl rfl rfl rfl ?_
              refine gn rfl rfl rfl rfl rfl ?_
              refine gu rfl rfl rfl rfl ?_
              refine gu rfl rfl rfl rfl ?_
              refine gu rfl rfl rfl rfl ?_
              refine gu rfl rfl rfl rfl ?_
              refine gn rfl rfl rfl rfl rfl ?_
              refine rvs 2 rfl ?_
              refine rn ?_
              cases ho15
              exact cut_n [] rfl rfl ⟨rfl, rfl, zA rfl rfl rfl (zA rfl rfl rfl (zA rfl rfl rfl (zA rfl rfl rfl (zA rfl rfl rfl (zA rfl rfl rfl (trivial)))))), trivial, trivial⟩
          · rintro big4 rfl
            change awp _ _ _ _ _ ⟨_, _, _, _⟩
            refine awp_seq ?_
            refine awp_region ?_
            refine rvs 4 rfl ?_
            obtain ⟨c4, hx18, ho7⟩ := bi ho7
            refine rV rfl (va_sidx rfl rfl rfl rfl hx18) ?_
            refine rvs 4 rfl ?_
            obtain ⟨n4, hx19, ho7⟩ := bs ho7
            refine rt (ei' hx19) ?_
            refine rn ?_
            refine awp_region ?_
            refine rvs 3 rfl ?_
            refine rn ?_
            refine inBlock_normal ?_
            cases ho7
            exact lp_n [] rfl rfl ⟨rfl, rfl, zA rfl rfl rfl (zA rfl rfl rfl (zA rfl rfl rfl (zA rfl rfl rfl (zA rfl rfl rfl (zA rfl rfl rfl (trivial)))))), trivial, trivial⟩
        · have ho7 := cF hc ho7
          refine awp_exit ?_
          repeat (first | refine then_exit ?_ | refine cut_x ?_ | refine inBlock_other rfl ?_)
          refine inBlock_exit ?_
          cases ho7
          have hq := hE8 _ rfl
          subst hq
          exact cut_n [] rfl rfl ⟨rfl, rfl, zA rfl rfl rfl (zA rfl rfl rfl (zA rfl rfl rfl (zA rfl rfl rfl (zA rfl rfl rfl (zA rfl rfl rfl (trivial)))))), trivial, trivial⟩
    · rintro ⟨at5, n3, big3⟩ rfl
      change awp _ _ _ _ _ ⟨_, _, _, _⟩
      refine awp_seq ?_
      refine awp_seq ?_
      obtain ⟨o20, ho21, h⟩ := bi h
      refine awp_cut1 (fun x => x = o20) (fun (x3 : Bool) => ⟨[(1, .int .i64 at5), (7, .bool minus1), (9, .int .u64 n3), (86, .bool x3)], [], [], 0⟩) ?_ ?_
      · refine awp_region ?_
        refine rvs 4 rfl ?_
        refine gs rfl rfl rfl rfl rfl (fun hg => ?_) (fun hg => ?_)
        · have ho21 := cF hg ho21
          refine rv rfl rfl ?_
          refine gy rfl rfl rfl ?_
          refine rv rfl rfl ?_
          refine gy rfl rfl rfl ?_
          refine rv rfl rfl ?_
          refine gy rfl rfl rfl ?_
          refine rv rfl rfl ?_
          refine gy rfl rfl rfl ?_
          refine rv rfl rfl ?_
          refine gs rfl rfl rfl rfl rfl (fun hg => ?_) (fun hg => ?_)
          · have ho21 := cT hg ho21
            refine rv rfl rfl ?_
            refine gy rfl rfl rfl ?_
            refine rv rfl rfl ?_
            refine gy rfl rfl rfl ?_
            obtain ⟨c5, hx22, ho21⟩ := bi ho21
            refine rV rfl (va_sidx rfl rfl rfl rfl hx22) ?_
            refine gy rfl rfl rfl ?_
            refine rv rfl rfl ?_
            refine gy rfl rfl rfl ?_
            refine rv rfl rfl ?_
            refine rvs 2 rfl ?_
            refine gs rfl rfl rfl rfl rfl (fun hg => ?_) (fun hg => ?_)
            · have ho21 := cF hg ho21
              refine rv rfl rfl ?_
              refine rvs 2 rfl ?_
              refine gs rfl rfl rfl rfl rfl (fun hg => ?_) (fun hg => ?_)
              · have ho21 := cF hg ho21
                refine rv rfl rfl ?_
                refine gy rfl rfl rfl ?_
                refine rv rfl rfl ?_
                refine gs rfl rfl rfl rfl rfl (fun hg => ?_) (fun hg => ?_)
                · have ho21 := cT hg ho21
                  refine rv rfl rfl ?_
                  refine gy rfl rfl rfl ?_
                  refine rv rfl rfl ?_
                  refine gy rfl rfl rfl ?_
                  refine rv rfl rfl ?_
                  refine rvs 2 rfl ?_
                  refine gs rfl rfl rfl rfl rfl (fun hg => ?_) (fun hg => ?_)
                  · have ho21 := cF hg ho21
                    refine rv rfl rfl ?_
                    refine gy rfl rfl rfl ?_
                    refine rv rfl rfl ?_
                    refine gy rfl rfl rfl ?_
                    refine rv rfl rfl ?_
                    refine gs rfl rfl rfl rfl rfl (fun hg => ?_) (fun hg => ?_)
                    · have ho21 := cT hg ho21
                      refine rv rfl rfl ?_
                      refine gy rfl rfl rfl ?_
                      refine rv rfl rfl ?_
                      refine gy rfl rfl rfl ?_
                      refine rv rfl rfl ?_
                      refine rv rfl rfl ?_
                      refine rn ?_
                      cases ho21
                      exact cut_n [] rfl rfl ⟨rfl, rfl, zA rfl rfl rfl (zA rfl rfl rfl (zA rfl rfl rfl (zA rfl rfl rfl (trivial)))), trivial, trivial⟩
                    · have ho21 := cF hg ho21
                      refine gn rfl rfl rfl rfl rfl ?_
                      refine gy rfl rfl rfl ?_
                      refine rv rfl rfl ?_
                      refine rv rfl rfl ?_
                      refine rn ?_
                      cases ho21
                      exact cut_n [] rfl rfl ⟨rfl, rfl, zA rfl rfl rfl (zA rfl rfl rfl (zA rfl rfl rfl (zA rfl rfl rfl (trivial)))), trivial, trivial⟩
                  · have ho21 := cT hg ho21
                    refine gn rfl rfl rfl rfl rfl ?_
                    refine gn rfl rfl rfl rfl rfl ?_
                    refine gu rfl rfl rfl rfl ?_
                    refine gu rfl rfl rfl rfl ?_
                    refine gn rfl rfl rfl rfl rfl ?_
                    refine rv rfl rfl ?_
                    refine rn ?_
                    cases ho21
                    exact cut_n [] rfl rfl ⟨rfl, rfl, zA rfl rfl rfl (zA rfl rfl rfl (zA rfl rfl rfl (zA rfl rfl rfl (trivial)))), trivial, trivial⟩
                · have ho21 := cF hg ho21
                  refine gn rfl rfl rfl rfl rfl ?_
                  refine gy rfl rfl rfl ?_
                  refine rv rfl rfl ?_
                  refine rvs 2 rfl ?_
                  refine gy rfl rfl rfl ?_
                  refine rv rfl rfl ?_
                  refine gy rfl rfl rfl ?_
                  refine rv rfl rfl ?_
                  refine gy rfl rfl rfl ?_
                  refine rv rfl rfl ?_
                  refine gs rfl rfl rfl rfl rfl (fun hg => ?_) (fun hg => ?_)
                  · have ho21 := cT hg ho21
                    refine rv rfl rfl ?_
                    refine gy rfl rfl rfl ?_
                    refine rv rfl rfl ?_
                    refine gy rfl rfl rfl ?_
                    refine rv rfl rfl ?_
                    refine rv rfl rfl ?_
                    refine rn ?_
                    cases ho21
                    exact cut_n [] rfl rfl ⟨rfl, rfl, zA rfl rfl rfl (zA rfl rfl rfl (zA rfl rfl rfl (zA rfl rfl rfl (trivial)))), trivial, trivial⟩
                  · have ho21 := cF hg ho21
                    refine gn rfl rfl rfl rfl rfl ?_
                    refine gy rfl rfl rfl ?_
                    refine rv rfl rfl ?_
                    refine rv rfl rfl ?_
                    refine rn ?_
                    cases ho21
                    exact cut_n [] rfl rfl ⟨rfl, rfl, zA rfl rfl rfl (zA rfl rfl rfl (zA rfl rfl rfl (zA rfl rfl rfl (trivial)))), trivial, trivial⟩
              · have ho21 := cT hg ho21
                refine gn rfl rfl rfl rfl rfl ?_
                refine gu rfl rfl rfl rfl ?_
                refine gu rfl rfl rfl rfl ?_
                refine gn rfl rfl rfl rfl rfl ?_
                refine rvs 2 rfl ?_
                refine gn rfl rfl rfl rfl rfl ?_
                refine gn rfl rfl rfl rfl rfl ?_
                refine gn rfl rfl rfl rfl rfl ?_
                refine gu rfl rfl rfl rfl ?_
                refine gu rfl rfl rfl rfl ?_
                refine gn rfl rfl rfl rfl rfl ?_
                refine rv rfl rfl ?_
                refine rn ?_
                cases ho21
                exact cut_n [] rfl rfl ⟨rfl, rfl, zA rfl rfl rfl (zA rfl rfl rfl (zA rfl rfl rfl (zA rfl rfl rfl (trivial)))), trivial, trivial⟩
            · have ho21 := cT hg ho21
              refine rvs 2 rfl ?_
              refine gn rfl rfl rfl rfl rfl ?_
              refine gn rfl rfl rfl rfl rfl ?_
              refine gu rfl rfl rfl rfl ?_
              refine gu rfl rfl rfl rfl ?_
              refine gn rfl rfl rfl rfl rfl ?_
              refine rvs 2 rfl ?_
              refine gn rfl rfl rfl rfl rfl ?_
              refine gn rfl rfl rfl rfl rfl ?_
              refine gn rfl rfl rfl rfl rfl ?_
              refine gu rfl rfl rfl rfl ?_
              refine gu rfl rfl rfl rfl ?_
              refine gn rfl rfl rfl rfl rfl ?_
              refine rv rfl rfl ?_
              refine rn ?_
              cases ho21
              exact cut_n [] rfl rfl ⟨rfl, rfl, zA rfl rfl rfl (zA rfl rfl rfl (zA rfl rfl rfl (zA rfl rfl rfl (trivial)))), trivial, trivial⟩
          · have ho21 := cF hg ho21
            refine gn rfl rfl rfl rfl rfl ?_
            refine gn rfl rfl rfl rfl rfl ?_
            refine gn rfl rfl rfl rfl rfl ?_
            refine gy rfl rfl rfl ?_
            refine rv rfl rfl ?_
            refine rvs 2 rfl ?_
            refine gy rfl rfl rfl ?_
            refine rv rfl rfl ?_
            refine rvs 2 rfl ?_
            refine gs rfl rfl rfl rfl rfl (fun hg => ?_) (fun hg => ?_)
            · have ho21 := cF hg ho21
              refine rv rfl rfl ?_
              refine gy rfl rfl rfl ?_
              refine rv rfl rfl ?_
              refine gs rfl rfl rfl rfl rfl (fun hg => ?_) (fun hg => ?_)
              · have ho21 := cT hg ho21
                refine rv rfl rfl ?_
                refine gy rfl rfl rfl ?_
                refine rv rfl rfl ?_
                refine gy rfl rfl rfl ?_
                refine rv rfl rfl ?_
                refine rvs 2 rfl ?_
                refine gs rfl rfl rfl rfl rfl (fun hg => ?_) (fun hg => ?_)
                · have ho21 := cF hg ho21
                  refine rv rfl rfl ?_
                  refine gy rfl rfl rfl ?_
                  refine rv rfl rfl ?_
                  refine gy rfl rfl rfl ?_
                  refine rv rfl rfl ?_
                  refine gs rfl rfl rfl rfl rfl (fun hg => ?_) (fun hg => ?_)
                  · have ho21 := cT hg ho21
                    refine rv rfl rfl ?_
                    refine gy rfl rfl rfl ?_
                    refine rv rfl rfl ?_
                    refine gy rfl rfl rfl ?_
                    refine rv rfl rfl ?_
                    refine rv rfl rfl ?_
                    refine rn ?_
                    cases ho21
                    exact cut_n [] rfl rfl ⟨rfl, rfl, zA rfl rfl rfl (zA rfl rfl rfl (zA rfl rfl rfl (zA rfl rfl rfl (trivial)))), trivial, trivial⟩
                  · have ho21 := cF hg ho21
                    refine gn rfl rfl rfl rfl rfl ?_
                    refine gy rfl rfl rfl ?_
                    refine rv rfl rfl ?_
                    refine rv rfl rfl ?_
                    refine rn ?_
                    cases ho21
                    exact cut_n [] rfl rfl ⟨rfl, rfl, zA rfl rfl rfl (zA rfl rfl rfl (zA rfl rfl rfl (zA rfl rfl rfl (trivial)))), trivial, trivial⟩
                · have ho21 := cT hg ho21
                  refine gn rfl rfl rfl rfl rfl ?_
                  refine gn rfl rfl rfl rfl rfl ?_
                  refine gu rfl rfl rfl rfl ?_
                  refine gu rfl rfl rfl rfl ?_
                  refine gn rfl rfl rfl rfl rfl ?_
                  refine rv rfl rfl ?_
                  refine rn ?_
                  cases ho21
                  exact cut_n [] rfl rfl ⟨rfl, rfl, zA rfl rfl rfl (zA rfl rfl rfl (zA rfl rfl rfl (zA rfl rfl rfl (trivial)))), trivial, trivial⟩
              · have ho21 := cF hg ho21
                refine gn rfl rfl rfl rfl rfl ?_
                refine gy rfl rfl rfl ?_
                refine rv rfl rfl ?_
                refine rvs 2 rfl ?_
                refine gy rfl rfl rfl ?_
                refine rv rfl rfl ?_
                refine gy rfl rfl rfl ?_
                refine rv rfl rfl ?_
                refine gy rfl rfl rfl ?_
                refine rv rfl rfl ?_
                refine gs rfl rfl rfl rfl rfl (fun hg => ?_) (fun hg => ?_)
                · have ho21 := cT hg ho21
                  refine rv rfl rfl ?_
                  refine gy rfl rfl rfl ?_
                  refine rv rfl rfl ?_
                  refine gy rfl rfl rfl ?_
                  refine rv rfl rfl ?_
                  refine rv rfl rfl ?_
                  refine rn ?_
                  cases ho21
                  exact cut_n [] rfl rfl ⟨rfl, rfl, zA rfl rfl rfl (zA rfl rfl rfl (zA rfl rfl rfl (zA rfl rfl rfl (trivial)))), trivial, trivial⟩
                · have ho21 := cF hg ho21
                  refine gn rfl rfl rfl rfl rfl ?_
                  refine gy rfl rfl rfl ?_
                  refine rv rfl rfl ?_
                  refine rv rfl rfl ?_
                  refine rn ?_
                  cases ho21
                  exact cut_n [] rfl rfl ⟨rfl, rfl, zA rfl rfl rfl (zA rfl rfl rfl (zA rfl rfl rfl (zA rfl rfl rfl (trivial)))), trivial, trivial⟩
            · have ho21 := cT hg ho21
              refine gn rfl rfl rfl rfl rfl ?_
              refine gu rfl rfl rfl rfl ?_
              refine gu rfl rfl rfl rfl ?_
              refine gn rfl rfl rfl rfl rfl ?_
              refine rvs 2 rfl ?_
              refine gn rfl rfl rfl rfl rfl ?_
              refine gn rfl rfl rfl rfl rfl ?_
              refine gn rfl rfl rfl rfl rfl ?_
              refine gu rfl rfl rfl rfl ?_
              refine gu rfl rfl rfl rfl ?_
              refine gn rfl rfl rfl rfl rfl ?_
              refine rv rfl rfl ?_
              refine rn ?_
              cases ho21
              exact cut_n [] rfl rfl ⟨rfl, rfl, zA rfl rfl rfl (zA rfl rfl rfl (zA rfl rfl rfl (zA rfl rfl rfl (trivial)))), trivial, trivial⟩
        · have ho21 := cT hg ho21
          refine gn rfl rfl rfl rfl rfl ?_
          refine gn rfl rfl rfl rfl rfl ?_
          refine gn rfl rfl rfl rfl rfl ?_
          refine gn rfl rfl rfl rfl rfl ?_
          refine gu rfl rfl rfl rfl ?_
          refine gu rfl rfl rfl rfl ?_
          refine gu rfl rfl rfl rfl ?_
          refine gu rfl rfl rfl rfl ?_
          refine gn rfl rfl rfl rfl rfl ?_
          refine rvs 2 rfl ?_
          refine gn rfl rfl rfl rfl rfl ?_
          refine rvs 2 rfl ?_
          refine gn rfl rfl rfl rfl rfl ?_
          refine gn rfl rfl rfl rfl rfl ?_
          refine gu rfl rfl rfl rfl ?_
          refine gu rfl rfl rfl rfl ?_
          refine gn rfl rfl rfl rfl rfl ?_
          refine rvs 2 rfl ?_
          refine gn rfl rfl rfl rfl rfl ?_
          refine gn rfl rfl rfl rfl rfl ?_
          refine gn rfl rfl rfl rfl rfl ?_
          refine gu rfl rfl rfl rfl ?_
          refine gu rfl rfl rfl rfl ?_
          refine gn rfl rfl rfl rfl rfl ?_
          refine rv rfl rfl ?_
          refine rn ?_
          cases ho21
          exact cut_n [] rfl rfl ⟨rfl, rfl, zA rfl rfl rfl (zA rfl rfl rfl (zA rfl rfl rfl (zA rfl rfl rfl (trivial)))), trivial, trivial⟩
      · rintro x3 rfl
        change awp _ _ _ _ _ ⟨_, _, _, _⟩
        refine cs_ rfl (fun hc => ?_) (fun hc => ?_)
        · have h := cT hc h
          refine awp_seq ?_
          refine awp_region ?_
          refine rvs 4 rfl ?_
          refine rn ?_
          refine awp_ret ?_
          cases h
          repeat (first | refine then_ret ?_ | refine inBlock_ret ?_ | refine cut_r ?_)
          exact rr rfl rfl rfl
        · have h := cF hc h
          refine awp_skip ?_
          refine awp_seq ?_
          refine awp_seq ?_
          refine awp_region ?_
          refine rv rfl rfl ?_
          refine rn ?_
          refine cs_ rfl (fun hc => ?_) (fun hc => ?_)
          · have h := cT hc h
            refine awp_seq ?_
            refine awp_region ?_
            refine rvs 7 rfl ?_
            obtain ⟨x4, hx23, h⟩ := bs h
            refine rt (ei' hx23) ?_
            refine rvs 2 rfl ?_
            refine rn ?_
            refine awp_ret ?_
            cases h
            repeat (first | refine then_ret ?_ | refine inBlock_ret ?_ | refine cut_r ?_)
            exact rr rfl rfl rfl
          · have h := cF hc h
            refine awp_skip ?_
            refine awp_seq ?_
            refine awp_region ?_
            refine rvs 6 rfl ?_
            refine rn ?_
            refine awp_ret ?_
            cases h
            repeat (first | refine then_ret ?_ | refine inBlock_ret ?_ | refine cut_r ?_)
            exact rr rfl rfl rfl
end

/-- `plover/ploverref06.one` -/
def dref06_one (fu : Nat) (s1 : Str) (at1 : Int) : Option (tref06Token × Int × Bool) :=
  (gi s1 at1).bind fun c1 => (dref06_low fu (c1.toNat : Int)).bind fun a1 => (dref06_digit fu (c1.toNat : Int)).bind fun d1 => bif a1 then ((loopD (ε := Int) (τ := Int) (fun (to1 : Int) => ((bif (decide (to1 < (s1.length : Int))) then ((gi s1 to1).bind fun c2 => (dref06_low fu (c2.toNat : Int)).bind fun x2 => bif x2 then some true else ((gi s1 to1).bind fun c3 => (dref06_digit fu (c3.toNat : Int)).bind fun x3 => some x3)) else some false : Option Bool).bind fun (x1 : Bool) => (bif x1 then some (Sum.inl (W (to1 + 1))) else some (Sum.inr to1)))) fu at1).bind fun (to3 : Int) => ((gsl s1 at1 to3).bind fun s2 => (bif (s2 == [97, 110, 100]) then some true else (bif (s2 == [111, 114]) then some true else (bif (s2 == [110, 111, 116]) then some true else (bif (s2 == [105, 110]) then some true else some (s2 == [116, 114, 117, 101])))) : Option Bool).bind fun (x4 : Bool) => ((bif x4 then some 2 else some 1 : Option Int).bind fun (t1 : Int) => ((some (decide ((W (to3 - at1)) ≤ 20))).bind fun x5 => some ((tref06Token.mk t1 at1 0 s2), to3, x5))))) else ((bif d1 then some true else some ((c1.toNat : Int) == 45) : Option Bool).bind fun (x6 : Bool) => (bif x6 then ((dref06_number fu s1 at1).bind fun n1 => some ((tref06Token.mk 3 at1 n1.1 []), n1.2.1, n1.2.2)) else (bif ((c1.toNat : Int) == 34) then ((loopD (ε := Int) (τ := Int) (fun (to4 : Int) => ((bif (decide (to4 < (s1.length : Int))) then ((gi s1 to4).bind fun c4 => bif (decide ((c4.toNat : Int) ≥ 32)) then ((gi s1 to4).bind fun c5 => bif (decide ((c5.toNat : Int) ≤ 126)) then ((gi s1 to4).bind fun c6 => some ((c6.toNat : Int) != 34)) else some false) else some false) else some false : Option Bool).bind fun (x7 : Bool) => (bif x7 then some (Sum.inl (W (to4 + 1))) else some (Sum.inr to4)))) fu (W (at1 + 1))).bind fun (to6 : Int) => ((bif (to6 == (s1.length : Int)) then some true else some (decide ((W ((W (to6 - at1)) - 1)) > 200)) : Option Bool).bind fun (x8 : Bool) => (bif x8 then some ((tref06Token.mk 0 0 0 []), to6, false) else ((gsl s1 (W (at1 + 1)) to6).bind fun s4 => (gi s1 to6).bind fun c8 => (some ((c8.toNat : Int) == 34)).bind fun x9 => some ((tref06Token.mk 4 at1 0 s4), W (to6 + 1), x9))))) else ((bif (decide ((W (at1 + 1)) < (s1.length : Int))) then ((gsl s1 at1 (W (at1 + 2))).bind fun s5 => some s5) else some [] : Option Str).bind fun (two1 : Str) => ((bif (two1 == [60, 61]) then some true else (bif (two1 == [33, 61]) then some true else (bif (two1 == [62, 61]) then some true else some (two1 == [94, 61]))) : Option Bool).bind fun (x10 : Bool) => (bif x10 then some ((tref06Token.mk 5 at1 0 two1), W (at1 + 2), true) else ((gsl s1 at1 (W (at1 + 1))).bind fun s6 => bif (s6 == [40]) then some ((tref06Token.mk 5 at1 0 s6), W (at1 + 1), true) else (bif (s6 == [41]) then some ((tref06Token.mk 5 at1 0 s6), W (at1 + 1), true) else (bif (s6 == [44]) then some ((tref06Token.mk 5 at1 0 s6), W (at1 + 1), true) else (bif (s6 == [60]) then some ((tref06Token.mk 5 at1 0 s6), W (at1 + 1), true) else (bif (s6 == [61]) then some ((tref06Token.mk 5 at1 0 s6), W (at1 + 1), true) else some ((tref06Token.mk 5 at1 0 s6), W (at1 + 1), s6 == [62]))))))))))))
section
attribute [local irreducible] awp aops DP PCall ACall Decidable.decide
theorem dref06_one_l {fu : Nat} {s1 : Str} {at1 : Int} {r : tref06Token × Int × Bool} (h : dref06_one fu s1 at1 = some r) : PCall Tryd.prog 18 [.str (sB s1), .int .i64 at1] (· = .tup [.agg [.int .i64 r.1.Kind, .int .i64 r.1.At, .int .i64 r.1.N, .str (sB r.1.S)], .int .i64 r.2.1, .bool r.2.2]) := by
  rw [dref06_one] at h
  refine pcall_body Tryd.func18 rfl (by kernel_rfl) (by rfl) ?_
  refine awp_seq ?_
  refine awp_region ?_
  refine ra rfl rfl rfl ?_
  refine rvs 2 rfl ?_
  refine rn ?_
  refine awp_seq ?_
  refine awp_region ?_
  refine rvs 2 rfl ?_
  obtain ⟨c1, hx1, h⟩ := bi h
  refine rV rfl (va_sidx rfl rfl rfl rfl hx1) ?_
  refine rv rfl rfl ?_
  refine rn ?_
  refine awp_seq ?_
  refine awp_region ?_
  refine rvs 2 rfl ?_
  refine rn ?_
  refine awp_seq ?_
  refine awp_region ?_
  refine rv rfl rfl ?_
  obtain ⟨a1, hx2, h⟩ := bi h
  refine rc1 rfl rfl rfl (dref06_low_l hx2) ?_
  refine rv rfl rfl ?_
  refine rn ?_
  refine awp_seq ?_
  refine awp_region ?_
  refine rv rfl rfl ?_
  obtain ⟨d1, hx3, h⟩ := bi h
  refine rc1 rfl rfl rfl (dref06_digit_l hx3) ?_
  refine rv rfl rfl ?_
  refine rn ?_
  refine awp_seq ?_
  refine awp_seq ?_
  refine awp_region ?_
  refine rv rfl rfl ?_
  refine rn ?_
  refine cs_ rfl (fun hc => ?_) (fun hc => ?_)
  · have h := cT hc h
    refine awp_seq ?_
    obtain ⟨e4, hl5, h⟩ := bi h
    refine awp_cut1 (fun x => x = e4) (fun (to3 : Int) => ⟨[(0, .str (sB s1)), (1, .int .i64 at1), (4, .ptr 0 0), (8, .int .i64 to3)], [(0, 0, .int .i64 0), (0, 1, .int .i64 0), (0, 2, .int .i64 0), (0, 3, .str (sB []))], [], 1⟩) ?_ ?_
    · refine awp_block ?_
      refine awp_loopD hl5 (fun (to1 : Int) => ⟨[(0, .str (sB s1)), (1, .int .i64 at1), (4, .ptr 0 0), (8, .int .i64 to1)], [(0, 0, .int .i64 0), (0, 1, .int .i64 0), (0, 2, .int .i64 0), (0, 3, .str (sB []))], [], 1⟩) [0] rfl ⟨rfl, rfl, zA rfl rfl rfl (zA rfl rfl rfl (zA rfl rfl rfl (zA rfl rfl rfl (trivial)))), zC rfl rfl rfl rfl (zC rfl rfl rfl rfl (zC rfl rfl rfl rfl (zC rfl rfl rfl rfl (trivial)))), trivial⟩ ?_
      intro to1 o8 ho6 hE7
      change awp _ _ _ _ _ ⟨_, _, _, _⟩
      refine awp_seq ?_
      refine awp_seq ?_
      obtain ⟨o9, ho10, ho6⟩ := bi ho6
      refine awp_cut1 (fun x => x = o9) (fun (x1 : Bool) => ⟨[(0, .str (sB s1)), (1, .int .i64 at1), (4, .ptr 0 0), (8, .int .i64 to1), (41, .bool x1)], [(0, 0, .int .i64 0), (0, 1, .int .i64 0), (0, 2, .int .i64 0), (0, 3, .str (sB []))], [], 1⟩) ?_ ?_
      · refine awp_region ?_
        refine rvs 5 rfl ?_
        refine gs rfl rfl rfl rfl rfl (fun hg => ?_) (fun hg => ?_)
        · have ho10 := cT hg ho10
          refine rv rfl rfl ?_
          refine gy rfl rfl rfl ?_
          refine rv rfl rfl ?_
          refine gy rfl rfl rfl ?_
          obtain ⟨c2, hx11, ho10⟩ := bi ho10
          refine rV rfl (va_sidx rfl rfl rfl rfl hx11) ?_
          refine gy rfl rfl rfl ?_
          obtain ⟨x2, hx12, ho10⟩ := bi ho10
          refine rc1 rfl rfl rfl (dref06_low_l hx12) ?_
          refine gy rfl rfl rfl ?_
          refine rv rfl rfl ?_
          refine gs rfl rfl rfl rfl rfl (fun hg => ?_) (fun hg => ?_)
          · have ho10 := cF hg ho10
            refine rv rfl rfl ?_
            refine gy rfl rfl rfl ?_
            refine rv rfl rfl ?_
            refine gy rfl rfl rfl ?_
            obtain ⟨c3, hx13, ho10⟩ := bi ho10
            refine rV rfl (va_sidx rfl rfl rfl rfl hx13) ?_
            refine gy rfl rfl rfl ?_
            obtain ⟨x3, hx14, ho10⟩ := bi ho10
            refine rc1 rfl rfl rfl (dref06_digit_l hx14) ?_
            refine gy rfl rfl rfl ?_
            refine rv rfl rfl ?_
            refine rv rfl rfl ?_
            refine rn ?_
            cases ho10
            exact cut_n [0] rfl rfl ⟨rfl, rfl, zA rfl rfl rfl (zA rfl rfl rfl (zA rfl rfl rfl (zA rfl rfl rfl (zA rfl rfl rfl (trivial))))), zC rfl rfl rfl rfl (zC rfl rfl rfl rfl (zC rfl rfl rfl rfl (zC rfl rfl rfl rfl (trivial)))), trivial⟩
          · have ho10 := cT hg ho10
            refine gn rfl rfl rfl rfl rfl ?_
            refine gn rfl rfl rfl rfl rfl ?_
            refine gn rfl rfl rfl rfl rfl ?_
            refine gy rfl rfl rfl ?_
            refine rv rfl rfl ?_
            refine rv rfl rfl ?_
            refine rn ?_
            cases ho10
            exact cut_n [0] rfl rfl ⟨rfl, rfl, zA rfl rfl rfl (zA rfl rfl rfl (zA rfl rfl rfl (zA rfl rfl rfl (zA rfl rfl rfl (trivial))))), zC rfl rfl rfl rfl (zC rfl rfl rfl rfl (zC rfl rfl rfl rfl (zC rfl rfl rfl rfl (trivial)))), trivial⟩
        · have ho10 := cF hg ho10
          refine gn rfl rfl rfl rfl rfl ?_
          refine gn rfl rfl rfl rfl rfl ?_
          refine gn rfl rfl rfl rfl rfl ?_
          refine gn rfl rfl rfl rfl rfl ?_
          refine gu rfl rfl rfl rfl ?_
          refine gu rfl rfl rfl rfl ?_
          refine gu rfl rfl rfl rfl ?_
          refine gu rfl rfl rfl rfl ?_
          refine gn rfl rfl rfl rfl rfl ?_
          refine rv rfl rfl ?_
          refine rn ?_
          cases ho10
          exact cut_n [0] rfl rfl ⟨rfl, rfl, zA rfl rfl rfl (zA rfl rfl rfl (zA rfl rfl rfl (zA rfl rfl rfl (zA rfl rfl rfl (trivial))))), zC rfl rfl rfl rfl (zC rfl rfl rfl rfl (zC rfl rfl rfl rfl (zC rfl rfl rfl rfl (trivial)))), trivial⟩
      · rintro x1 rfl
        change awp _ _ _ _ _ ⟨_, _, _, _⟩
        refine cs_ rfl (fun hc => ?_) (fun hc => ?_)
        · have ho6 := cT hc ho6
          refine awp_skip ?_
          refine awp_block ?_
          refine awp_region ?_
          refine rvs 3 rfl ?_
          refine rn ?_
          refine inBlock_normal ?_
          cases ho6
          exact lp_n [0] rfl rfl ⟨rfl, rfl, zA rfl rfl rfl (zA rfl rfl rfl (zA rfl rfl rfl (zA rfl rfl rfl (trivial)))), zC rfl rfl rfl rfl (zC rfl rfl rfl rfl (zC rfl rfl rfl rfl (zC rfl rfl rfl rfl (trivial)))), trivial⟩
        · have ho6 := cF hc ho6
          refine awp_exit ?_
          repeat (first | refine then_exit ?_ | refine cut_x ?_ | refine inBlock_other rfl ?_)
          refine inBlock_exit ?_
          cases ho6
          have hq := hE7 _ rfl
          subst hq
          exact cut_n [0] rfl rfl ⟨rfl, rfl, zA rfl rfl rfl (zA rfl rfl rfl (zA rfl rfl rfl (zA rfl rfl rfl (trivial)))), zC rfl rfl rfl rfl (zC rfl rfl rfl rfl (zC rfl rfl rfl rfl (zC rfl rfl rfl rfl (trivial)))), trivial⟩
    · rintro to3 rfl
      change awp _ _ _ _ _ ⟨_, _, _, _⟩
      refine awp_seq ?_
      refine awp_region ?_
      refine rvs 4 rfl ?_
      obtain ⟨s2, hx15, h⟩ := bi h
      refine rV rfl (va_ssub rfl rfl rfl ⟨_, rfl⟩ ⟨_, rfl⟩ hx15) ?_
      refine rv rfl rfl ?_
      refine ra rfl rfl rfl ?_
      refine rs rfl rfl rfl rfl rfl rfl rfl ?_
      refine rn ?_
      refine awp_seq ?_
      refine awp_seq ?_
      obtain ⟨o16, ho17, h⟩ := bi h
      refine awp_cut1 (fun x => x = o16) (fun (x4 : Bool) => ⟨[(1, .int .i64 at1), (4, .ptr 0 0), (8, .int .i64 to3), (11, .ptr 1 0), (72, .bool x4)], [(0, 0, .int .i64 0), (0, 1, .int .i64 0), (0, 2, .int .i64 0), (0, 3, .str (sB [])), (1, 0, .int .i64 1), (1, 1, .int .i64 at1), (1, 2, .int .i64 0), (1, 3, .str (sB s2))], [], 2⟩) ?_ ?_
      · refine awp_region ?_
        refine rvs 2 rfl ?_
        refine rv rfl rfl ?_
        refine rt (sEq s2 [97, 110, 100]) ?_
        refine rv rfl rfl ?_
        refine gs rfl rfl rfl rfl rfl (fun hg => ?_) (fun hg => ?_)
        · have ho17 := cF hg ho17
          refine rv rfl rfl ?_
          refine gy rfl rfl rfl ?_
          refine rv rfl rfl ?_
          refine gy rfl rfl rfl ?_
          refine rv rfl rfl ?_
          refine rt (sEq s2 [111, 114]) ?_
          refine rvs 2 rfl ?_
          refine gs rfl rfl rfl rfl rfl (fun hg => ?_) (fun hg => ?_)
          · have ho17 := cF hg ho17
            refine rv rfl rfl ?_
            refine gy rfl rfl rfl ?_
            refine rv rfl rfl ?_
            refine gy rfl rfl rfl ?_
            refine rv rfl rfl ?_
            refine rt (sEq s2 [110, 111, 116]) ?_
            refine rvs 2 rfl ?_
            refine gs rfl rfl rfl rfl rfl (fun hg => ?_) (fun hg => ?_)
            · have ho17 := cF hg ho17
              refine rv rfl rfl ?_
              refine gy rfl rfl rfl ?_
              refine rv rfl rfl ?_
              refine gy rfl rfl rfl ?_
              refine rv rfl rfl ?_
              refine rt (sEq s2 [105, 110]) ?_
              refine rvs 2 rfl ?_
              refine gs rfl rfl rfl rfl rfl (fun hg => ?_) (fun hg => ?_)
              · have ho17 := cF hg ho17
                refine rv rfl rfl ?_
                refine gy rfl rfl rfl ?_
                refine rv rfl rfl ?_
                refine gy rfl rfl rfl ?_
                refine rv rfl rfl ?_
                refine rt (sEq s2 [116, 114, 117, 101]) ?_
                refine rv rfl rfl ?_
                refine rn ?_
                cases ho17
                exact cut_n [0, 1] rfl rfl ⟨rfl, rfl, zA rfl rfl rfl (zA rfl rfl rfl (zA rfl rfl rfl (zA rfl rfl rfl (zA rfl rfl rfl (trivial))))), zC rfl rfl rfl rfl (zC rfl rfl rfl rfl (zC rfl rfl rfl rfl (zC rfl rfl rfl rfl (zC rfl rfl rfl rfl (zC rfl rfl rfl rfl (zC rfl rfl rfl rfl (zC rfl rfl rfl rfl (trivial)))))))), trivial⟩
              · have ho17 := cT hg ho17
                refine gn rfl rfl rfl rfl rfl ?_
                refine gn rfl rfl rfl rfl rfl ?_
                refine rv rfl rfl ?_
                refine rn ?_
                cases ho17
                exact cut_n [0, 1] rfl rfl ⟨rfl, rfl, zA rfl rfl rfl (zA rfl rfl rfl (zA rfl rfl rfl (zA rfl rfl rfl (zA rfl rfl rfl (trivial))))), zC rfl rfl rfl rfl (zC rfl rfl rfl rfl (zC rfl rfl rfl rfl (zC rfl rfl rfl rfl (zC rfl rfl rfl rfl (zC rfl rfl rfl rfl (zC rfl rfl rfl rfl (zC rfl rfl rfl rfl (trivial)))))))), trivial⟩
            · have ho17 := cT hg ho17
              refine gn rfl rfl rfl rfl rfl ?_
              refine gn rfl rfl rfl rfl rfl ?_
              refine rvs 2 rfl ?_
              refine gn rfl rfl rfl rfl rfl ?_
              refine gn rfl rfl rfl rfl rfl ?_
              refine gn rfl rfl rfl rfl rfl ?_
              refine rv rfl rfl ?_
              refine rn ?_
              cases ho17
              exact cut_n [0, 1] rfl rfl ⟨rfl, rfl, zA rfl rfl rfl (zA rfl rfl rfl (zA rfl rfl rfl (zA rfl rfl rfl (zA rfl rfl rfl (trivial))))), zC rfl rfl rfl rfl (zC rfl rfl rfl rfl (zC rfl rfl rfl rfl (zC rfl rfl rfl rfl (zC rfl rfl rfl rfl (zC rfl rfl rfl rfl (zC rfl rfl rfl rfl (zC rfl rfl rfl rfl (trivial)))))))), trivial⟩
          · have ho17 := cT hg ho17
            refine gn rfl rfl rfl rfl rfl ?_
            refine gn rfl rfl rfl rfl rfl ?_
            refine rvs 2 rfl ?_
            refine gn rfl rfl rfl rfl rfl ?_
            refine gn rfl rfl rfl rfl rfl ?_
            refine gn rfl rfl rfl rfl rfl ?_
            refine rvs 2 rfl ?_
            refine gn rfl rfl rfl rfl rfl ?_
            refine gn rfl rfl rfl rfl rfl ?_
            refine gn rfl rfl rfl rfl rfl ?_
            refine rv rfl rfl ?_
            refine rn ?_
            cases ho17
            exact cut_n [0, 1] rfl rfl ⟨rfl, rfl, zA rfl rfl rfl (zA rfl rfl rfl (zA rfl rfl rfl (zA rfl rfl rfl (zA rfl rfl rfl (trivial))))), zC rfl rfl rfl rfl (zC rfl rfl rfl rfl (zC rfl rfl rfl rfl (zC rfl rfl rfl rfl (zC rfl rfl rfl rfl (zC rfl rfl rfl rfl (zC rfl rfl rfl rfl (zC rfl rfl rfl rfl (trivial)))))))), trivial⟩
        · have ho17 := cT hg ho17
          refine gn rfl rfl rfl rfl rfl ?_
          refine gn rfl rfl rfl rfl rfl ?_
          refine rvs 2 rfl ?_
          refine gn rfl rfl rfl rfl rfl ?_
          refine gn rfl rfl rfl rfl rfl ?_
          refine gn rfl rfl rfl rfl rfl ?_
          refine rvs 2 rfl ?_
          refine gn rfl rfl rfl rfl rfl ?_
          refine gn rfl rfl rfl rfl rfl ?_
          refine gn rfl rfl rfl rfl rfl ?_
          refine rvs 2 rfl ?_
          refine gn rfl rfl rfl rfl rfl ?_
          refine gn rfl rfl rfl rfl rfl ?_
          refine gn rfl rfl rfl rfl rfl ?_
          refine rv rfl rfl ?_
          refine rn ?_
          cases ho17
          exact cut_n [0, 1] rfl rfl ⟨rfl, rfl, zA rfl rfl rfl (zA rfl rfl rfl (zA rfl rfl rfl (zA rfl rfl rfl (zA rfl rfl rfl (trivial))))), zC rfl rfl rfl rfl (zC rfl rfl rfl rfl (zC rfl rfl rfl rfl (zC rfl rfl rfl rfl (zC rfl rfl rfl rfl (zC rfl rfl rfl rfl (zC rfl rfl rfl rfl (zC rfl rfl rfl rfl (trivial)))))))), trivial⟩
      · rintro x4 rfl
        change awp _ _ _ _ _ ⟨_, _, _, _⟩
        obtain ⟨o18, ho19, h⟩ := bi h
        refine awp_cut1 (fun x => x = o18) (fun (t1 : Int) => ⟨[(1, .int .i64 at1), (4, .ptr 0 0), (8, .int .i64 to3), (11, .ptr 1 0)], [(0, 0, .int .i64 0), (0, 1, .int .i64 0), (0, 2, .int .i64 0), (0, 3, .str (sB [])), (1, 0, .int .i64 t1), (1, 1, .int .i64 at1), (1, 2, .int .i64 0), (1, 3, .str (sB s2))], [], 2⟩) ?_ ?_
        · refine cs_ rfl (fun hc => ?_) (fun hc => ?_)
          · have ho19 := cT hc ho19
            refine awp_region ?_
            refine rv rfl rfl ?_
            refine rs rfl rfl rfl rfl rfl rfl rfl ?_
            refine rn ?_
            cases ho19
            exact cut_n [0, 1] rfl rfl ⟨rfl, rfl, zA rfl rfl rfl (zA rfl rfl rfl (zA rfl rfl rfl (zA rfl rfl rfl (trivial)))), zC rfl rfl rfl rfl (zC rfl rfl rfl rfl (zC rfl rfl rfl rfl (zC rfl rfl rfl rfl (zC rfl rfl rfl rfl (zC rfl rfl rfl rfl (zC rfl rfl rfl rfl (zC rfl rfl rfl rfl (trivial)))))))), trivial⟩
          · have ho19 := cF hc ho19
            refine awp_skip ?_
            cases ho19
            exact cut_n [0, 1] rfl rfl ⟨rfl, rfl, zA rfl rfl rfl (zA rfl rfl rfl (zA rfl rfl rfl (zA rfl rfl rfl (trivial)))), zC rfl rfl rfl rfl (zC rfl rfl rfl rfl (zC rfl rfl rfl rfl (zC rfl rfl rfl rfl (zC rfl rfl rfl rfl (zC rfl rfl rfl rfl (zC rfl rfl rfl rfl (zC rfl rfl rfl rfl (trivial)))))))), trivial⟩
        · rintro t1 rfl
          change awp _ _ _ _ _ ⟨_, _, _, _⟩
          refine awp_seq ?_
          refine awp_region ?_
          refine rvs 6 rfl ?_
          refine rs rfl rfl rfl rfl rfl rfl rfl ?_
          refine rvs 2 rfl ?_
          obtain ⟨x5, hx20, h⟩ := bs h
          refine rt (eb' hx20) ?_
          refine rn ?_
          refine awp_ret ?_
          cases h
          repeat (first | refine then_ret ?_ | refine inBlock_ret ?_ | refine cut_r ?_)
          exact rr rfl rfl rfl
  · have h := cF hc h
    refine awp_skip ?_
    refine awp_seq ?_
    refine awp_seq ?_
    obtain ⟨o21, ho22, h⟩ := bi h
    refine awp_cut1 (fun x => x = o21) (fun (x6 : Bool) => ⟨[(0, .str (sB s1)), (1, .int .i64 at1), (4, .ptr 0 0), (7, .int .u8 (c1.toNat : Int)), (84, .bool x6)], [(0, 0, .int .i64 0), (0, 1, .int .i64 0), (0, 2, .int .i64 0), (0, 3, .str (sB []))], [], 1⟩) ?_ ?_
    · refine awp_region ?_
      refine rvs 2 rfl ?_
      refine gs rfl rfl rfl rfl rfl (fun hg => ?_) (fun hg => ?_)
      · have ho22 := cF hg ho22
        refine rv rfl rfl ?_
        refine gy rfl rfl rfl ?_
        refine rv rfl rfl ?_
        refine rv rfl rfl ?_
        refine rn ?_
        cases ho22
        exact cut_n [0] rfl rfl ⟨rfl, rfl, zA rfl rfl rfl (zA rfl rfl rfl (zA rfl rfl rfl (zA rfl rfl rfl (zA rfl rfl rfl (trivial))))), zC rfl rfl rfl rfl (zC rfl rfl rfl rfl (zC rfl rfl rfl rfl (zC rfl rfl rfl rfl (trivial)))), trivial⟩
      · have ho22 := cT hg ho22
        refine gn rfl rfl rfl rfl rfl ?_
        refine rv rfl rfl ?_
        refine rn ?_
        cases ho22
        exact cut_n [0] rfl rfl ⟨rfl, rfl, zA rfl rfl rfl (zA rfl rfl rfl (zA rfl rfl rfl (zA rfl rfl rfl (zA rfl rfl rfl (trivial))))), zC rfl rfl rfl rfl (zC rfl rfl rfl rfl (zC rfl rfl rfl rfl (zC rfl rfl rfl rfl (trivial)))), trivial⟩
    · rintro x6 rfl
      change awp _ _ _ _ _ ⟨_, _, _, _⟩
      refine cs_ rfl (fun hc => ?_) (fun hc => ?_)
      · have h := cT hc h
        refine awp_seq ?_
        refine awp_region ?_
        refine rvs 2 rfl ?_
        obtain ⟨n1, hx23, h⟩ := bi h
        refine rc1 rfl rfl rfl (dref06_number_l hx23) ?_
        refine rvs 7 rfl ?_
        refine rn ?_
        refine awp_seq ?_
        refine awp_region ?_
        refine rvs 5 rfl ?_
        refine rs rfl rfl rfl rfl rfl rfl rfl ?_
        refine rvs 2 rfl ?_
        refine rn ?_
        refine awp_ret ?_
        cases h
        repeat (first | refine then_ret ?_ | refine inBlock_ret ?_ | refine cut_r ?_)
        exact rr rfl rfl rfl
      · have h := cF hc h
        refine awp_skip ?_
        refine awp_seq ?_
        refine awp_seq ?_
        refine awp_region ?_
        refine rvs 2 rfl ?_
        refine rn ?_
        refine cs_ rfl (fun hc => ?_) (fun hc => ?_)
        · have h := cT hc h
          refine awp_seq ?_
          refine awp_region ?_
          refine rvs 3 rfl ?_
          refine rn ?_
          refine awp_seq ?_
          obtain ⟨e24, hl25, h⟩ := bi h
          refine awp_cut1 (fun x => x = e24) (fun (to6 : Int) => ⟨[(0, .str (sB s1)), (1, .int .i64 at1), (4, .ptr 0 0), (8, .int .i64 to6)], [(0, 0, .int .i64 0), (0, 1, .int .i64 0), (0, 2, .int .i64 0), (0, 3, .str (sB []))], [], 1⟩) ?_ ?_
          · refine awp_block ?_
            refine awp_loopD hl25 (fun (to4 : Int) => ⟨[(0, .str (sB s1)), (1, .int .i64 at1), (4, .ptr 0 0), (8, .int .i64 to4)], [(0, 0, .int .i64 0), (0, 1, .int .i64 0), (0, 2, .int .i64 0), (0, 3, .str (sB []))], [], 1⟩) [0] rfl ⟨rfl, rfl, zA rfl rfl rfl (zA rfl rfl rfl (zA rfl rfl rfl (zA rfl rfl rfl (trivial)))), zC rfl rfl rfl rfl (zC rfl rfl rfl rfl (zC rfl rfl rfl rfl (zC rfl rfl rfl rfl (trivial)))), trivial⟩ ?_
            intro to4 o28 ho26 hE27
            change awp _ _ _ _ _ ⟨_, _, _, _⟩
            refine awp_seq ?_
            refine awp_seq ?_
            obtain ⟨o29, ho30, ho26⟩ := bi ho26
            refine awp_cut1 (fun x => x = o29) (fun (x7 : Bool) => ⟨[(0, .str (sB s1)), (1, .int .i64 at1), (4, .ptr 0 0), (8, .int .i64 to4), (122, .bool x7)], [(0, 0, .int .i64 0), (0, 1, .int .i64 0), (0, 2, .int .i64 0), (0, 3, .str (sB []))], [], 1⟩) ?_ ?_
            · refine awp_region ?_
              refine rvs 5 rfl ?_
              refine gs rfl rfl rfl rfl rfl (fun hg => ?_) (fun hg => ?_)
              · have ho30 := cT hg ho30
                refine rv rfl rfl ?_
                refine gy rfl rfl rfl ?_
                refine rv rfl rfl ?_
                refine gy rfl rfl rfl ?_
                obtain ⟨c4, hx31, ho30⟩ := bi ho30
                refine rV rfl (va_sidx rfl rfl rfl rfl hx31) ?_
                refine gy rfl rfl rfl ?_
                refine rv rfl rfl ?_
                refine rvs 2 rfl ?_
                refine gs rfl rfl rfl rfl rfl (fun hg => ?_) (fun hg => ?_)
                · have ho30 := cT hg ho30
                  refine rv rfl rfl ?_
                  refine gy rfl rfl rfl ?_
                  refine rv rfl rfl ?_
                  refine gy rfl rfl rfl ?_
                  obtain ⟨c5, hx32, ho30⟩ := bi ho30
                  refine rV rfl (va_sidx rfl rfl rfl rfl hx32) ?_
                  refine gy rfl rfl rfl ?_
                  refine rv rfl rfl ?_
                  refine rvs 2 rfl ?_
                  refine gs rfl rfl rfl rfl rfl (fun hg => ?_) (fun hg => ?_)
                  · have ho30 := cT hg ho30
                    refine rv rfl rfl ?_
                    refine gy rfl rfl rfl ?_
                    refine rv rfl rfl ?_
                    refine gy rfl rfl rfl ?_
                    obtain ⟨c6, hx33, ho30⟩ := bi ho30
                    refine rV rfl (va_sidx rfl rfl rfl rfl hx33) ?_
                    refine gy rfl rfl rfl ?_
                    refine rv rfl rfl ?_
                    refine rv rfl rfl ?_
                    refine rn ?_
                    cases ho30
                    exact cut_n [0] rfl rfl ⟨rfl, rfl, zA rfl rfl rfl (zA rfl rfl rfl (zA rfl rfl rfl (zA rfl rfl rfl (zA rfl rfl rfl (trivial))))), zC rfl rfl rfl rfl (zC rfl rfl rfl rfl (zC rfl rfl rfl rfl (zC rfl rfl rfl rfl (trivial)))), trivial⟩
                  · have ho30 := cF hg ho30
                    refine gn rfl rfl rfl rfl rfl ?_
                    refine gn rfl rfl rfl rfl rfl ?_
                    refine gn rfl rfl rfl rfl rfl ?_
                    refine rv rfl rfl ?_
                    refine rn ?_
                    cases ho30
                    exact cut_n [0] rfl rfl ⟨rfl, rfl, zA rfl rfl rfl (zA rfl rfl rfl (zA rfl rfl rfl (zA rfl rfl rfl (zA rfl rfl rfl (trivial))))), zC rfl rfl rfl rfl (zC rfl rfl rfl rfl (zC rfl rfl rfl rfl (zC rfl rfl rfl rfl (trivial)))), trivial⟩
                · have ho30 := cF hg ho30
                  refine gn rfl rfl rfl rfl rfl ?_
                  refine gn rfl rfl rfl rfl rfl ?_
                  refine gn rfl rfl rfl rfl rfl ?_
                  refine rvs 2 rfl ?_
                  refine gn rfl rfl rfl rfl rfl ?_
                  refine gn rfl rfl rfl rfl rfl ?_
                  refine gn rfl rfl rfl rfl rfl ?_
                  refine gn rfl rfl rfl rfl rfl ?_
                  refine rv rfl rfl ?_
                  refine rn ?_
                  cases ho30
                  exact cut_n [0] rfl rfl ⟨rfl, rfl, zA rfl rfl rfl (zA rfl rfl rfl (zA rfl rfl rfl (zA rfl rfl rfl (zA rfl rfl rfl (trivial))))), zC rfl rfl rfl rfl (zC rfl rfl rfl rfl (zC rfl rfl rfl rfl (zC rfl rfl rfl rfl (trivial)))), trivial⟩
              · have ho30 := cF hg ho30
                refine gn rfl rfl rfl rfl rfl ?_
                refine gn rfl rfl rfl rfl rfl ?_
                refine gn rfl rfl rfl rfl rfl ?_
                refine rvs 2 rfl ?_
                refine gn rfl rfl rfl rfl rfl ?_
                refine gn rfl rfl rfl rfl rfl ?_
                refine gn rfl rfl rfl rfl rfl ?_
                refine gn rfl rfl rfl rfl rfl ?_
                refine rvs 2 rfl ?_
                refine gn rfl rfl rfl rfl rfl ?_
                refine gn rfl rfl rfl rfl rfl ?_
                refine gn rfl rfl rfl rfl rfl ?_
                refine gn rfl rfl rfl rfl rfl ?_
                refine rv rfl rfl ?_
                refine rn ?_
                cases ho30
                exact cut_n [0] rfl rfl ⟨rfl, rfl, zA rfl rfl rfl (zA rfl rfl rfl (zA rfl rfl rfl (zA rfl rfl rfl (zA rfl rfl rfl (trivial))))), zC rfl rfl rfl rfl (zC rfl rfl rfl rfl (zC rfl rfl rfl rfl (zC rfl rfl rfl rfl (trivial)))), trivial⟩
            · rintro x7 rfl
              change awp _ _ _ _ _ ⟨_, _, _, _⟩
              refine cs_ rfl (fun hc => ?_) (fun hc => ?_)
              · have ho26 := cT hc ho26
                refine awp_skip ?_
                refine awp_block ?_
                refine awp_region ?_
                refine rvs 3 rfl ?_
                refine rn ?_
                refine inBlock_normal ?_
                cases ho26
                exact lp_n [0] rfl rfl ⟨rfl, rfl, zA rfl rfl rfl (zA rfl rfl rfl (zA rfl rfl rfl (zA rfl rfl rfl (trivial)))), zC rfl rfl rfl rfl (zC rfl rfl rfl rfl (zC rfl rfl rfl rfl (zC rfl rfl rfl rfl (trivial)))), trivial⟩
              · have ho26 := cF hc ho26
                refine awp_exit ?_
                repeat (first | refine then_exit ?_ | refine cut_x ?_ | refine inBlock_other rfl ?_)
                refine inBlock_exit ?_
                cases ho26
                have hq := hE27 _ rfl
                subst hq
                exact cut_n [0] rfl rfl ⟨rfl, rfl, zA rfl rfl rfl (zA rfl rfl rfl (zA rfl rfl rfl (zA rfl rfl rfl (trivial)))), zC rfl rfl rfl rfl (zC rfl rfl rfl rfl (zC rfl rfl rfl rfl (zC rfl rfl rfl rfl (trivial)))), trivial⟩
          · rintro to6 rfl
            change awp _ _ _ _ _ ⟨_, _, _, _⟩
            refine awp_seq ?_
            refine awp_seq ?_
            obtain ⟨o34, ho35, h⟩ := bi h
            refine awp_cut1 (fun x => x = o34) (fun (x8 : Bool) => ⟨[(0, .str (sB s1)), (1, .int .i64 at1), (4, .ptr 0 0), (8, .int .i64 to6), (135, .bool x8)], [(0, 0, .int .i64 0), (0, 1, .int .i64 0), (0, 2, .int .i64 0), (0, 3, .str (sB []))], [], 1⟩) ?_ ?_
            · refine awp_region ?_
              refine rvs 5 rfl ?_
              refine gs rfl rfl rfl rfl rfl (fun hg => ?_) (fun hg => ?_)
              · have ho35 := cF hg ho35
                refine rv rfl rfl ?_
                refine gy rfl rfl rfl ?_
                refine rv rfl rfl ?_
                refine gy rfl rfl rfl ?_
                refine rv rfl rfl ?_
                refine gy rfl rfl rfl ?_
                refine rv rfl rfl ?_
                refine gy rfl rfl rfl ?_
                refine rv rfl rfl ?_
                refine rv rfl rfl ?_
                refine rn ?_
                cases ho35
                exact cut_n [0] rfl rfl ⟨rfl, rfl, zA rfl rfl rfl (zA rfl rfl rfl (zA rfl rfl rfl (zA rfl rfl rfl (zA rfl rfl rfl (trivial))))), zC rfl rfl rfl rfl (zC rfl rfl rfl rfl (zC rfl rfl rfl rfl (zC rfl rfl rfl rfl (trivial)))), trivial⟩
              · have ho35 := cT hg ho35
                refine gn rfl rfl rfl rfl rfl ?_
                refine gn rfl rfl rfl rfl rfl ?_
                refine gn rfl rfl rfl rfl rfl ?_
                refine gn rfl rfl rfl rfl rfl ?_
                refine rv rfl rfl ?_
                refine rn ?_
                cases ho35
                exact cut_n [0] rfl rfl ⟨rfl, rfl, zA rfl rfl rfl (zA rfl rfl rfl (zA rfl rfl rfl (zA rfl rfl rfl (zA rfl rfl rfl (trivial))))), zC rfl rfl rfl rfl (zC rfl rfl rfl rfl (zC rfl rfl rfl rfl (zC rfl rfl rfl rfl (trivial)))), trivial⟩
            · rintro x8 rfl
              change awp _ _ _ _ _ ⟨_, _, _, _⟩
              refine cs_ rfl (fun hc => ?_) (fun hc => ?_)
              · have h := cT hc h
                refine awp_seq ?_
                refine awp_region ?_
                refine rvs 2 rfl ?_
                refine rs rfl rfl rfl rfl rfl rfl rfl ?_
                refine rvs 2 rfl ?_
                refine rn ?_
                refine awp_ret ?_
                cases h
                repeat (first | refine then_ret ?_ | refine inBlock_ret ?_ | refine cut_r ?_)
                exact rr rfl rfl rfl
              · have h := cF hc h
                refine awp_skip ?_
                refine awp_seq ?_
                refine awp_dx (m := 15) [] Tryd.mix (by kernel_rfl) (by kernel_rfl) (by kernel_rfl) (by kernel_rfl) (by kernel_rfl) (by kernel_rfl) ?_
                refine xv [] rfl rfl (fun _ => rfl) ?_
                refine xv [] rfl rfl (fun _ => rfl) ?_
                refine xv [] rfl rfl (fun _ => rfl) ?_
                refine xv [] rfl rfl (fun _ => rfl) ?_
                refine xv [] rfl rfl (fun _ => rfl) ?_
                obtain ⟨s4, hx38, h⟩ := bi h
                refine xV [] rfl rfl (fun _ => va_ssub rfl rfl rfl ⟨_, rfl⟩ ⟨_, rfl⟩ hx38) ?_
                refine xv [] rfl rfl (fun _ => rfl) ?_
                refine xv [] rfl rfl (fun _ => rfl) ?_
                refine xv [] rfl rfl (fun _ => rfl) ?_
                refine xv [] rfl rfl (fun _ => rfl) ?_
                refine xv [] rfl rfl (fun _ => rfl) ?_
                obtain ⟨c8, hx39, h⟩ := bi h
                refine xV [] rfl rfl (fun _ => va_sidx rfl rfl rfl rfl hx39) ?_
                refine xv [] rfl rfl (fun _ => rfl) ?_
                refine xE [0] .any 1 _ _ rfl rfl (by
                    refine rs rfl rfl rfl rfl rfl rfl rfl ?_
                    exact rn ⟨rfl, rfl⟩) (by rfl) (by rfl) (by rfl) ?_
                refine xv [] rfl rfl (fun _ => rfl) ?_
                refine xn (by kernel_rfl) ?_
                refine rv rfl rfl ?_
                obtain ⟨x9, hx40, h⟩ := bs h
                refine rt (eb' hx40) ?_
                refine rn ?_
                refine awp_ret ?_
                cases h
                repeat (first | refine then_ret ?_ | refine inBlock_ret ?_ | refine cut_r ?_)
                exact rr rfl rfl rfl
        · have h := cF hc h
          refine awp_skip ?_
          refine awp_seq ?_
          refine awp_region ?_
          refine rv rfl rfl ?_
          refine rn ?_
          refine awp_seq ?_
          refine awp_seq ?_
          refine awp_region ?_
          refine rvs 5 rfl ?_
          refine rn ?_
          obtain ⟨o41, ho42, h⟩ := bi h
          refine awp_cut1 (fun x => x = o41) (fun (two1 : Str) => ⟨[(0, .str (sB s1)), (1, .int .i64 at1), (4, .ptr 0 0), (15, .str (sB two1))], [(0, 0, .int .i64 0), (0, 1, .int .i64 0), (0, 2, .int .i64 0), (0, 3, .str (sB []))], [], 1⟩) ?_ ?_
          · refine cs_ rfl (fun hc => ?_) (fun hc => ?_)
            · have ho42 := cT hc ho42
              refine awp_region ?_
              refine rvs 4 rfl ?_
              obtain ⟨s5, hx43, ho42⟩ := bi ho42
              refine rV rfl (va_ssub rfl rfl rfl ⟨_, rfl⟩ ⟨_, rfl⟩ hx43) ?_
              refine rv rfl rfl ?_
              refine rn ?_
              cases ho42
              exact cut_n [0] rfl rfl ⟨rfl, rfl, zA rfl rfl rfl (zA rfl rfl rfl (zA rfl rfl rfl (zA rfl rfl rfl (trivial)))), zC rfl rfl rfl rfl (zC rfl rfl rfl rfl (zC rfl rfl rfl rfl (zC rfl rfl rfl rfl (trivial)))), trivial⟩
            · have ho42 := cF hc ho42
              refine awp_skip ?_
              cases ho42
              exact cut_n [0] rfl rfl ⟨rfl, rfl, zA rfl rfl rfl (zA rfl rfl rfl (zA rfl rfl rfl (zA rfl rfl rfl (trivial)))), zC rfl rfl rfl rfl (zC rfl rfl rfl rfl (zC rfl rfl rfl rfl (zC rfl rfl rfl rfl (trivial)))), trivial⟩
          · rintro two1 rfl
            change awp _ _ _ _ _ ⟨_, _, _, _⟩
            refine awp_seq ?_
            refine awp_seq ?_
            obtain ⟨o44, ho45, h⟩ := bi h
            refine awp_cut1 (fun x => x = o44) (fun (x10 : Bool) => ⟨[(0, .str (sB s1)), (1, .int .i64 at1), (4, .ptr 0 0), (15, .str (sB two1)), (174, .bool x10)], [(0, 0, .int .i64 0), (0, 1, .int .i64 0), (0, 2, .int .i64 0), (0, 3, .str (sB []))], [], 1⟩) ?_ ?_
            · refine awp_region ?_
              refine rv rfl rfl ?_
              refine rv rfl rfl ?_
              refine rt (sEq two1 [60, 61]) ?_
              refine rv rfl rfl ?_
              refine gs rfl rfl rfl rfl rfl (fun hg => ?_) (fun hg => ?_)
              · have ho45 := cF hg ho45
                refine rv rfl rfl ?_
                refine gy rfl rfl rfl ?_
                refine rv rfl rfl ?_
                refine rt (sEq two1 [33, 61]) ?_
                refine rvs 2 rfl ?_
                refine gs rfl rfl rfl rfl rfl (fun hg => ?_) (fun hg => ?_)
                · have ho45 := cF hg ho45
                  refine rv rfl rfl ?_
                  refine gy rfl rfl rfl ?_
                  refine rv rfl rfl ?_
                  refine rt (sEq two1 [62, 61]) ?_
                  refine rvs 2 rfl ?_
                  refine gs rfl rfl rfl rfl rfl (fun hg => ?_) (fun hg => ?_)
                  · have ho45 := cF hg ho45
                    refine rv rfl rfl ?_
                    refine gy rfl rfl rfl ?_
                    refine rv rfl rfl ?_
                    refine rt (sEq two1 [94, 61]) ?_
                    refine rv rfl rfl ?_
                    refine rn ?_
                    cases ho45
                    exact cut_n [0] rfl rfl ⟨rfl, rfl, zA rfl rfl rfl (zA rfl rfl rfl (zA rfl rfl rfl (zA rfl rfl rfl (zA rfl rfl rfl (trivial))))), zC rfl rfl rfl rfl (zC rfl rfl rfl rfl (zC rfl rfl rfl rfl (zC rfl rfl rfl rfl (trivial)))), trivial⟩
                  · have ho45 := cT hg ho45
                    refine gn rfl rfl rfl rfl rfl ?_
                    refine rv rfl rfl ?_
                    refine rn ?_
                    cases ho45
                    exact cut_n [0] rfl rfl ⟨rfl, rfl, zA rfl rfl rfl (zA rfl rfl rfl (zA rfl rfl rfl (zA rfl rfl rfl (zA rfl rfl rfl (trivial))))), zC rfl rfl rfl rfl (zC rfl rfl rfl rfl (zC rfl rfl rfl rfl (zC rfl rfl rfl rfl (trivial)))), trivial⟩
                · have ho45 := cT hg ho45
                  refine gn rfl rfl rfl rfl rfl ?_
                  refine rvs 2 rfl ?_
                  refine gn rfl rfl rfl rfl rfl ?_
                  refine gn rfl rfl rfl rfl rfl ?_
                  refine rv rfl rfl ?_
                  refine rn ?_
                  cases ho45
                  exact cut_n [0] rfl rfl ⟨rfl, rfl, zA rfl rfl rfl (zA rfl rfl rfl (zA rfl rfl rfl (zA rfl rfl rfl (zA rfl rfl rfl (trivial))))), zC rfl rfl rfl rfl (zC rfl rfl rfl rfl (zC rfl rfl rfl rfl (zC rfl rfl rfl rfl (trivial)))), trivial⟩
              · have ho45 := cT hg ho45
                refine gn rfl rfl rfl rfl rfl ?_
                refine rvs 2 rfl ?_
                refine gn rfl rfl rfl rfl rfl ?_
                refine gn rfl rfl rfl rfl rfl ?_
                refine rvs 2 rfl ?_
                refine gn rfl rfl rfl rfl rfl ?_
                refine gn rfl rfl rfl rfl rfl ?_
                refine rv rfl rfl ?_
                refine rn ?_
                cases ho45
                exact cut_n [0] rfl rfl ⟨rfl, rfl, zA rfl rfl rfl (zA rfl rfl rfl (zA rfl rfl rfl (zA rfl rfl rfl (zA rfl rfl rfl (trivial))))), zC rfl rfl rfl rfl (zC rfl rfl rfl rfl (zC rfl rfl rfl rfl (zC rfl rfl rfl rfl (trivial)))), trivial⟩
            · rintro x10 rfl
              change awp _ _ _ _ _ ⟨_, _, _, _⟩
              refine cs_ rfl (fun hc => ?_) (fun hc => ?_)
              · have h := cT hc h
                refine awp_seq ?_
                refine awp_region ?_
                refine rvs 5 rfl ?_
                refine rs rfl rfl rfl rfl rfl rfl rfl ?_
                refine rvs 2 rfl ?_
                refine rn ?_
                refine awp_ret ?_
                cases h
                repeat (first | refine then_ret ?_ | refine inBlock_ret ?_ | refine cut_r ?_)
                exact rr rfl rfl rfl
              · have h := cF hc h
                refine awp_skip ?_
                refine awp_seq ?_
                refine awp_region ?_
                refine rvs 4 rfl ?_
                obtain ⟨s6, hx46, h⟩ := bi h
                refine rV rfl (va_ssub rfl rfl rfl ⟨_, rfl⟩ ⟨_, rfl⟩ hx46) ?_
                refine rv rfl rfl ?_
                refine rn ?_
                refine awp_seq ?_
                refine awp_region ?_
                refine rvs 6 rfl ?_
                refine rv rfl rfl ?_
                refine rt (sEq s6 [40]) ?_
                refine rv rfl rfl ?_
                refine gs rfl rfl rfl rfl rfl (fun hg => ?_) (fun hg => ?_)
                · have h := cF hg h
                  refine rv rfl rfl ?_
                  refine gy rfl rfl rfl ?_
                  refine rv rfl rfl ?_
                  refine rt (sEq s6 [41]) ?_
                  refine rvs 2 rfl ?_
                  refine gs rfl rfl rfl rfl rfl (fun hg => ?_) (fun hg => ?_)
                  · have h := cF hg h
                    refine rv rfl rfl ?_
                    refine gy rfl rfl rfl ?_
                    refine rv rfl rfl ?_
                    refine rt (sEq s6 [44]) ?_
                    refine rvs 2 rfl ?_
                    refine gs rfl rfl rfl rfl rfl (fun hg => ?_) (fun hg => ?_)
                    · have h := cF hg h
                      refine rv rfl rfl ?_
                      refine gy rfl rfl rfl ?_
                      refine rv rfl rfl ?_
                      refine rt (sEq s6 [60]) ?_
                      refine rvs 2 rfl ?_
                      refine gs rfl rfl rfl rfl rfl (fun hg => ?_) (fun hg => ?_)
                      · have h := cF hg h
                        refine rv rfl rfl ?_
                        refine gy rfl rfl rfl ?_
                        refine rv rfl rfl ?_
                        refine rt (sEq s6 [61]) ?_
                        refine rvs 2 rfl ?_
                        refine gs rfl rfl rfl rfl rfl (fun hg => ?_) (fun hg => ?_)
                        · have h := cF hg h
                          refine rv rfl rfl ?_
                          refine gy rfl rfl rfl ?_
                          refine rv rfl rfl ?_
                          refine rt (sEq s6 [62]) ?_
                          refine rv rfl rfl ?_
                          refine rs rfl rfl rfl rfl rfl rfl rfl ?_
                          refine rvs 2 rfl ?_
                          refine rn ?_
                          refine awp_ret ?_
                          cases h
                          repeat (first | refine then_ret ?_ | refine inBlock_ret ?_ | refine cut_r ?_)
                          exact rr rfl rfl rfl
                        · have h := cT hg h
                          refine gn rfl rfl rfl rfl rfl ?_
                          refine rv rfl rfl ?_
                          refine rs rfl rfl rfl rfl rfl rfl rfl ?_
                          refine rvs 2 rfl ?_
                          refine rn ?_
                          refine awp_ret ?_
                          cases h
                          repeat (first | refine then_ret ?_ | refine inBlock_ret ?_ | refine cut_r ?_)
                          exact rr rfl rfl rfl
                      · have h := cT hg h
                        refine gn rfl rfl rfl rfl rfl ?_
                        refine rvs 2 rfl ?_
                        refine gn rfl rfl rfl rfl rfl ?_
                        refine gn rfl rfl rfl rfl rfl ?_
                        refine rv rfl rfl ?_
                        refine rs rfl rfl rfl rfl rfl rfl rfl ?_
                        refine rvs 2 rfl ?_
                        refine rn ?_
                        refine awp_ret ?_
                        cases h
                        repeat (first | refine then_ret ?_ | refine inBlock_ret ?_ | refine cut_r ?_)
                        exact rr rfl rfl rfl
                    · have h := cT hg h
                      refine gn rfl rfl rfl rfl rfl ?_
                      refine rvs 2 rfl ?_
                      refine gn rfl rfl rfl rfl rfl ?_
                      refine gn rfl rfl rfl rfl rfl ?_
                      refine rvs 2 rfl ?_
                      refine gn rfl rfl rfl rfl rfl ?_
                      refine gn rfl rfl rfl rfl rfl ?_
                      refine rv rfl rfl ?_
                      refine rs rfl rfl rfl rfl rfl rfl rfl ?_
                      refine rvs 2 rfl ?_
                      refine rn ?_
                      refine awp_ret ?_
                      cases h
                      repeat (first | refine then_ret ?_ | refine inBlock_ret ?_ | refine cut_r ?_)
                      exact rr rfl rfl rfl
                  · have h := cT hg h
                    refine gn rfl rfl rfl rfl rfl ?_
                    refine rvs 2 rfl ?_
                    refine gn rfl rfl rfl rfl rfl ?_
                    refine gn rfl rfl rfl rfl rfl ?_
                    refine rvs 2 rfl ?_
                    refine gn rfl rfl rfl rfl rfl ?_
                    refine gn rfl rfl rfl rfl rfl ?_
                    refine rvs 2 rfl ?_
                    refine gn rfl rfl rfl rfl rfl ?_
                    refine gn rfl rfl rfl rfl rfl ?_
                    refine rv rfl rfl ?_
                    refine rs rfl rfl rfl rfl rfl rfl rfl ?_
                    refine rvs 2 rfl ?_
                    refine rn ?_
                    refine awp_ret ?_
                    cases h
                    repeat (first | refine then_ret ?_ | refine inBlock_ret ?_ | refine cut_r ?_)
                    exact rr rfl rfl rfl
                · have h := cT hg h
                  refine gn rfl rfl rfl rfl rfl ?_
                  refine rvs 2 rfl ?_
                  refine gn rfl rfl rfl rfl rfl ?_
                  refine gn rfl rfl rfl rfl rfl ?_
                  refine rvs 2 rfl ?_
                  refine gn rfl rfl rfl rfl rfl ?_
                  refine gn rfl rfl rfl rfl rfl ?_
                  refine rvs 2 rfl ?_
                  refine gn rfl rfl rfl rfl rfl ?_
                  refine gn rfl rfl rfl rfl rfl ?_
                  refine rvs 2 rfl ?_
                  refine gn rfl rfl rfl rfl rfl ?_
                  refine gn rfl rfl rfl rfl rfl ?_
                  refine rv rfl rfl ?_
                  refine rs rfl rfl rfl rfl rfl rfl rfl ?_
                  refine rvs 2 rfl ?_
                  refine rn ?_
                  refine awp_ret ?_
                  cases h
                  repeat (first | refine then_ret ?_ | refine inBlock_ret ?_ | refine cut_r ?_)
                  exact rr rfl rfl rfl
end

/-- `plover/ploverref06.Cut` -/
def dref06_Cut (fu : Nat) (s1 : Str) : Option ((List tref06Token) × Int) :=
  bif (decide ((s1.length : Int) > 500)) then some ([], 5) else ((loopD (ε := Int × (List tref06Token)) (τ := (List tref06Token) ⊕ ((List tref06Token) × Int)) (fun (((at1, out1)) : Int × (List tref06Token)) => (bif (decide (at1 < (s1.length : Int))) then ((gi s1 at1).bind fun c1 => bif ((c1.toNat : Int) == 32) then some (Sum.inl (W (at1 + 1), out1)) else ((dref06_one fu s1 at1).bind fun to1 => bif (!to1.2.2) then some (Sum.inr (Sum.inr ([], 2))) else ((ap out1 [to1.1]).bind fun out4 => some (Sum.inl (to1.2.1, out4))))) else some (Sum.inr (Sum.inl out1)))) fu (0, [])).bind fun o => kS o fun (out3 : List tref06Token) => some (out3, 0))
section
attribute [local irreducible] awp aops DP PCall ACall Decidable.decide
theorem dref06_Cut_l {fu : Nat} {s1 : Str} {r : (List tref06Token) × Int} (h : dref06_Cut fu s1 = some r) : PCall Tryd.prog 8 [.str (sB s1)] (· = .tup [.sl (r.1.map c_tref06Token), .int .i64 r.2]) := by
  rw [dref06_Cut] at h
  refine pcall_body Tryd.func8 rfl (by kernel_rfl) (by rfl) ?_
  refine awp_seq ?_
  refine awp_region ?_
  refine rvs 2 rfl ?_
  refine rn ?_
  refine awp_seq ?_
  refine awp_seq ?_
  refine awp_region ?_
  refine rvs 3 rfl ?_
  refine rn ?_
  refine cs_ rfl (fun hc => ?_) (fun hc => ?_)
  · have h := cT hc h
    refine awp_seq ?_
    refine awp_region ?_
    refine rvs 2 rfl ?_
    refine rn ?_
    refine awp_ret ?_
    cases h
    repeat (first | refine then_ret ?_ | refine inBlock_ret ?_ | refine cut_r ?_)
    exact rr rfl rfl rfl
  · have h := cF hc h
    refine awp_skip ?_
    refine awp_seq ?_
    refine awp_region ?_
    refine rv rfl rfl ?_
    refine rn ?_
    refine awp_seq ?_
    refine awp_region ?_
    refine rv rfl rfl ?_
    refine rn ?_
    refine awp_seq ?_
    refine awp_conv (fun _ _ _ _ _ hi => nilS_slot false 4 4 rfl hi) ?_
    obtain ⟨e1, hl2, h⟩ := bi h
    refine awp_cut1 (fun x => Sum.inl x = e1) (fun (out3 : List tref06Token) => ⟨[(4, .own 0)], [], [(0, .row 4 (out3.map c_tref06Token))], 1⟩) ?_ ?_
    · refine awp_block ?_
      refine awp_loopD hl2 (fun (((at1, out1)) : Int × (List tref06Token)) => ⟨[(0, .str (sB s1)), (4, .own 0), (5, .int .i64 at1)], [], [(0, .row 4 (out1.map c_tref06Token))], 1⟩) [0] rfl ⟨rfl, rfl, zA rfl rfl rfl (zA rfl rfl rfl (zA rfl rfl rfl (trivial))), trivial, zE rfl .row rfl (trivial)⟩ ?_
      intro v o5 ho3 hE4
      obtain ⟨at1, out1⟩ := v
      change awp _ _ _ _ _ ⟨_, _, _, _⟩
      refine awp_seq ?_
      refine awp_seq ?_
      refine awp_region ?_
      refine rvs 4 rfl ?_
      refine rn ?_
      refine cs_ rfl (fun hc => ?_) (fun hc => ?_)
      · have ho3 := cT hc ho3
        refine awp_skip ?_
        refine awp_block ?_
        refine awp_seq ?_
        refine awp_seq ?_
        refine awp_region ?_
        refine rvs 2 rfl ?_
        obtain ⟨c1, hx6, ho3⟩ := bi ho3
        refine rV rfl (va_sidx rfl rfl rfl rfl hx6) ?_
        refine rv rfl rfl ?_
        refine rn ?_
        refine cs_ rfl (fun hc => ?_) (fun hc => ?_)
        · have ho3 := cT hc ho3
          refine awp_seq ?_
          refine awp_region ?_
          refine rvs 3 rfl ?_
          refine rn ?_
          refine awp_exit ?_
          repeat (first | refine then_exit ?_ | refine cut_x ?_ | refine inBlock_other rfl ?_)
          refine inBlock_exit ?_
          cases ho3
          exact lp_n [0] rfl rfl ⟨rfl, rfl, zA rfl rfl rfl (zA rfl rfl rfl (zA rfl rfl rfl (trivial))), trivial, zE rfl .row rfl (trivial)⟩
        · have ho3 := cF hc ho3
          refine awp_skip ?_
          refine awp_seq ?_
          refine awp_region ?_
          refine rvs 2 rfl ?_
          obtain ⟨to1, hx7, ho3⟩ := bi ho3
          refine rc1 rfl rfl rfl (dref06_one_l hx7) ?_
          refine rvs 4 rfl ?_
          refine ra rfl rfl rfl ?_
          refine rs rfl rfl rfl rfl rfl rfl rfl ?_
          refine rvs 2 rfl ?_
          refine rn ?_
          refine awp_seq ?_
          refine awp_seq ?_
          refine awp_region ?_
          refine rvs 2 rfl ?_
          refine rn ?_
          refine cs_ rfl (fun hc => ?_) (fun hc => ?_)
          · have ho3 := cT hc ho3
            refine awp_seq ?_
            refine awp_region ?_
            refine rvs 2 rfl ?_
            refine rn ?_
            refine awp_ret ?_
            cases ho3
            have hq := hE4 _ rfl
            subst hq
            have h := ksr h
            subst h
            repeat (first | refine then_ret ?_ | refine inBlock_ret ?_ | refine cut_r ?_)
            exact rr rfl rfl rfl
          · have ho3 := cF hc ho3
            refine awp_skip ?_
            refine awp_seq ?_
            refine awp_region ?_
            refine rvs 2 rfl ?_
            refine rbs false rfl rfl rfl rfl rfl rfl rfl rfl rfl rfl ?_
            obtain ⟨out4, hx8, ho3⟩ := bi ho3
            refine rap false (xs := out1.map c_tref06Token) (ys := [to1.1].map c_tref06Token) rfl rfl rfl rfl rfl rfl rfl (.own rfl rfl) (.sl rfl rfl rfl) (wM (fun _ => by rfl) _) (oM (fun _ => by rfl) _) (apB c_tref06Token rfl hx8) rfl ?_
            refine rk (congrArg (Kind.row _) (apM c_tref06Token hx8)) ?_
            refine rv rfl rfl ?_
            refine rn ?_
            refine awp_region ?_
            refine rvs 2 rfl ?_
            refine rn ?_
            refine inBlock_normal ?_
            cases ho3
            exact lp_n [3] rfl rfl ⟨rfl, rfl, zA rfl rfl rfl (zA rfl rfl rfl (zA rfl rfl rfl (trivial))), trivial, zE rfl .row rfl (trivial)⟩
      · have ho3 := cF hc ho3
        refine awp_exit ?_
        repeat (first | refine then_exit ?_ | refine cut_x ?_ | refine inBlock_other rfl ?_)
        refine inBlock_exit ?_
        cases ho3
        have hq := hE4 _ rfl
        subst hq
        exact cut_n [0] rfl rfl ⟨rfl, rfl, zA rfl rfl rfl (trivial), trivial, zE rfl .row rfl (trivial)⟩
    · rintro out3 rfl
      have h := ksl h
      refine awp_seq ?_
      refine awp_region ?_
      refine rvs 3 rfl ?_
      refine rn ?_
      refine awp_ret ?_
      cases h
      repeat (first | refine then_ret ?_ | refine inBlock_ret ?_ | refine cut_r ?_)
      exact rr rfl rfl rfl
end

/-- `plover/ploverref06.Tokens` -/
def dref06_Tokens (fu : Nat) (a1 : List tref06Token) (b1 : List tref06Token) : Option Bool :=
  bif ((a1.length : Int) != (b1.length : Int)) then some false else ((loopD (ε := Int) (τ := Unit ⊕ Bool) (fun (i1 : Int) => (bif (decide (i1 < (a1.length : Int))) then ((gi a1 i1).bind fun x1 => (gi b1 i1).bind fun x2 => bif (!((x1.Kind == x2.Kind) && ((x1.At == x2.At) && ((x1.N == x2.N) && ((x1.S == x2.S) && true))))) then some (Sum.inr (Sum.inr false)) else some (Sum.inl (W (i1 + 1)))) else some (Sum.inr (Sum.inl ())))) fu 0).bind fun o => kS o fun (_ : Unit) => some true)
section
attribute [local irreducible] awp aops DP PCall ACall Decidable.decide
theorem dref06_Tokens_l {fu : Nat} {a1 : List tref06Token} {b1 : List tref06Token} {r : Bool} (h : dref06_Tokens fu a1 b1 = some r) : PCall Tryd.prog 10 [.sl (a1.map c_tref06Token), .sl (b1.map c_tref06Token)] (· = .bool r) := by
  rw [dref06_Tokens] at h
  refine pcall_body Tryd.func10 rfl (by kernel_rfl) (by rfl) ?_
  refine awp_seq ?_
  refine awp_region ?_
  refine rv rfl rfl ?_
  refine rn ?_
  refine awp_seq ?_
  refine awp_seq ?_
  refine awp_region ?_
  refine rv rfl rfl ?_
  refine rv rfl rfl ?_
  refine rt ((lM c_tref06Token a1)) ?_
  refine rv rfl rfl ?_
  refine rv rfl rfl ?_
  refine rt ((lM c_tref06Token b1)) ?_
  refine rv rfl rfl ?_
  refine rn ?_
  refine cs_ rfl (fun hc => ?_) (fun hc => ?_)
  · have h := cT hc h
    refine awp_seq ?_
    refine awp_region ?_
    refine rv rfl rfl ?_
    refine rn ?_
    refine awp_ret ?_
    cases h
    repeat (first | refine then_ret ?_ | refine inBlock_ret ?_ | refine cut_r ?_)
    exact rr rfl rfl rfl
  · have h := cF hc h
    refine awp_skip ?_
    refine awp_seq ?_
    refine awp_seq ?_
    refine awp_region ?_
    refine rv rfl rfl ?_
    refine rn ?_
    obtain ⟨e1, hl2, h⟩ := bi h
    refine awp_cut1 (fun x => Sum.inl x = e1) (fun (_ : Unit) => ⟨[], [], [], 0⟩) ?_ ?_
    · refine awp_block ?_
      refine awp_loopD hl2 (fun (i1 : Int) => ⟨[(0, .sl (a1.map c_tref06Token)), (1, .sl (b1.map c_tref06Token)), (5, .int .i64 i1)], [], [], 0⟩) [] rfl ⟨rfl, rfl, zA rfl rfl rfl (zA rfl rfl rfl (zA rfl rfl rfl (trivial))), trivial, trivial⟩ ?_
      intro i1 o5 ho3 hE4
      change awp _ _ _ _ _ ⟨_, _, _, _⟩
      refine awp_seq ?_
      refine awp_seq ?_
      refine awp_region ?_
      refine rvs 2 rfl ?_
      refine rv rfl rfl ?_
      refine rt ((lM c_tref06Token a1)) ?_
      refine rv rfl rfl ?_
      refine rn ?_
      refine cs_ rfl (fun hc => ?_) (fun hc => ?_)
      · have ho3 := cT hc ho3
        refine awp_skip ?_
        refine awp_seq ?_
        refine awp_block ?_
        refine awp_seq ?_
        refine awp_dp (m := 9) Tryd.mix (by kernel_rfl) (by kernel_rfl) (by kernel_rfl) (by kernel_rfl) (by kernel_rfl) (by kernel_rfl) (by kernel_rfl) ?_
        refine dv rfl rfl (fun _ => rfl) ?_
        refine dv rfl rfl (fun _ => rfl) ?_
        obtain ⟨x1, hx6, ho3⟩ := bi ho3
        refine di rfl rfl rfl rfl rfl (fun _ => rfl) rfl (gi0 hx6) (giM c_tref06Token hx6) (wM (fun _ => by rfl) _) ?_
        refine dv rfl rfl (fun _ => rfl) ?_
        refine dv rfl rfl (fun _ => rfl) ?_
        refine dv rfl rfl (fun _ => rfl) ?_
        obtain ⟨x2, hx7, ho3⟩ := bi ho3
        refine di rfl rfl rfl rfl rfl (fun _ => rfl) rfl (gi0 hx7) (giM c_tref06Token hx7) (wM (fun _ => by rfl) _) ?_
        refine dv rfl rfl (fun _ => rfl) ?_
        refine dv rfl rfl (fun _ => rfl) ?_
        refine dt (by first | (simp only [toList_sB]; done) | (simp only [toList_sB]; rfl)) ?_
        refine dn ?_
        refine rn ?_
        refine cs_ rfl (fun hc => ?_) (fun hc => ?_)
        · have ho3 := cT hc ho3
          refine awp_seq ?_
          refine awp_region ?_
          refine rv rfl rfl ?_
          refine rn ?_
          refine awp_ret ?_
          cases ho3
          have hq := hE4 _ rfl
          subst hq
          have h := ksr h
          subst h
          repeat (first | refine then_ret ?_ | refine inBlock_ret ?_ | refine cut_r ?_)
          exact rr rfl rfl rfl
        · have ho3 := cF hc ho3
          refine awp_skip ?_
          refine inBlock_normal ?_
          refine awp_region ?_
          refine rvs 3 rfl ?_
          refine rn ?_
          cases ho3
          exact lp_n [] rfl rfl ⟨rfl, rfl, zA rfl rfl rfl (zA rfl rfl rfl (zA rfl rfl rfl (trivial))), trivial, trivial⟩
      · have ho3 := cF hc ho3
        refine awp_exit ?_
        repeat (first | refine then_exit ?_ | refine cut_x ?_ | refine inBlock_other rfl ?_)
        refine inBlock_exit ?_
        cases ho3
        have hq := hE4 _ rfl
        subst hq
        exact cut_n [] rfl rfl ⟨rfl, rfl, trivial, trivial, trivial⟩
    · rintro _ rfl
      have h := ksl h
      refine awp_seq ?_
      refine awp_region ?_
      refine rv rfl rfl ?_
      refine rn ?_
      refine awp_ret ?_
      cases h
      repeat (first | refine then_ret ?_ | refine inBlock_ret ?_ | refine cut_r ?_)
      exact rr rfl rfl rfl
end

/-- `plover/ploverlaw00.Code` -/
def dlaw00_Code (fu : Nat) (err1 : Er) : Option Int :=
  bif err1.isNone then some 0 else ((loopD (ε := Int) (τ := Unit ⊕ Int) (fun (n1 : Int) => (bif (decide (n1 ≤ 12)) then (bif (err1 == some n1) then some (Sum.inr (Sum.inr n1)) else some (Sum.inl (W (n1 + 1)))) else some (Sum.inr (Sum.inl ())))) fu 1).bind fun o => kS o fun (_ : Unit) => some (-1))
section
attribute [local irreducible] awp aops DP PCall ACall Decidable.decide
theorem dlaw00_Code_l {fu : Nat} {err1 : Er} {r : Int} (h : dlaw00_Code fu err1 = some r) : PCall Tryd.prog 9 [.err 47 err1] (· = .int .i64 r) := by
  rw [dlaw00_Code] at h
  refine pcall_body Tryd.func9 rfl (by kernel_rfl) (by rfl) ?_
  refine awp_seq ?_
  refine awp_region ?_
  refine rv rfl rfl ?_
  refine rn ?_
  refine awp_seq ?_
  refine awp_seq ?_
  refine awp_region ?_
  refine rv rfl rfl ?_
  refine rV rfl (va_enil rfl rfl rfl) ?_
  refine rn ?_
  refine cs_ rfl (fun hc => ?_) (fun hc => ?_)
  · have h := cT hc h
    refine awp_seq ?_
    refine awp_region ?_
    refine rv rfl rfl ?_
    refine rn ?_
    refine awp_ret ?_
    cases h
    repeat (first | refine then_ret ?_ | refine inBlock_ret ?_ | refine cut_r ?_)
    exact rr rfl rfl rfl
  · have h := cF hc h
    refine awp_skip ?_
    refine awp_seq ?_
    refine awp_seq ?_
    refine awp_region ?_
    refine rv rfl rfl ?_
    refine rn ?_
    obtain ⟨e1, hl2, h⟩ := bi h
    refine awp_cut1 (fun x => Sum.inl x = e1) (fun (_ : Unit) => ⟨[], [], [], 0⟩) ?_ ?_
    · refine awp_block ?_
      refine awp_loopD hl2 (fun (n1 : Int) => ⟨[(0, .err 47 err1), (3, .int .i64 n1)], [], [], 0⟩) [] rfl ⟨rfl, rfl, zA rfl rfl rfl (zA rfl rfl rfl (trivial)), trivial, trivial⟩ ?_
      intro n1 o5 ho3 hE4
      change awp _ _ _ _ _ ⟨_, _, _, _⟩
      refine awp_seq ?_
      refine awp_seq ?_
      refine awp_region ?_
      refine rvs 2 rfl ?_
      refine rn ?_
      refine cs_ rfl (fun hc => ?_) (fun hc => ?_)
      · have ho3 := cT hc ho3
        refine awp_skip ?_
        refine awp_seq ?_
        refine awp_block ?_
        refine awp_seq ?_
        refine awp_region ?_
        refine rvs 3 rfl ?_
        refine rV rfl (va_eeq rfl rfl rfl rfl rfl rfl (fun _ => rfl)) ?_
        refine rn ?_
        refine cs_ rfl (fun hc => ?_) (fun hc => ?_)
        · have ho3 := cT hc ho3
          refine awp_seq ?_
          refine awp_region ?_
          refine rvs 2 rfl ?_
          refine rn ?_
          refine awp_ret ?_
          cases ho3
          have hq := hE4 _ rfl
          subst hq
          have h := ksr h
          subst h
          repeat (first | refine then_ret ?_ | refine inBlock_ret ?_ | refine cut_r ?_)
          exact rr rfl rfl rfl
        · have ho3 := cF hc ho3
          refine awp_skip ?_
          refine inBlock_normal ?_
          refine awp_region ?_
          refine rvs 3 rfl ?_
          refine rn ?_
          cases ho3
          exact lp_n [] rfl rfl ⟨rfl, rfl, zA rfl rfl rfl (zA rfl rfl rfl (trivial)), trivial, trivial⟩
      · have ho3 := cF hc ho3
        refine awp_exit ?_
        repeat (first | refine then_exit ?_ | refine cut_x ?_ | refine inBlock_other rfl ?_)
        refine inBlock_exit ?_
        cases ho3
        have hq := hE4 _ rfl
        subst hq
        exact cut_n [] rfl rfl ⟨rfl, rfl, trivial, trivial, trivial⟩
    · rintro _ rfl
      have h := ksl h
      refine awp_seq ?_
      refine awp_region ?_
      refine rv rfl rfl ?_
      refine rn ?_
      refine awp_ret ?_
      cases h
      repeat (first | refine then_ret ?_ | refine inBlock_ret ?_ | refine cut_r ?_)
      exact rr rfl rfl rfl
end

/-- `plover/ploverlaw06.As` -/
def dlaw06_As (fu : Nat) (l1 : List ttokenToken) : Option (List tref06Token) :=
  (loopD (ε := Int × (List tref06Token)) (τ := List tref06Token) (fun (((i1, out1)) : Int × (List tref06Token)) => (bif (decide (i1 < (l1.length : Int))) then ((gi l1 i1).bind fun out8 => (gi l1 i1).bind fun out9 => (gi l1 i1).bind fun out10 => (gi l1 i1).bind fun out11 => (ap out1 [(tref06Token.mk out8.Kind out9.At out10.N out11.S)]).bind fun out12 => some (Sum.inl (W (i1 + 1), out12))) else some (Sum.inr out1))) fu (0, [])).bind fun (out3 : List tref06Token) => some out3
section
attribute [local irreducible] awp aops DP PCall ACall Decidable.decide
theorem dlaw06_As_l {fu : Nat} {l1 : List ttokenToken} {r : List tref06Token} (h : dlaw06_As fu l1 = some r) : PCall Tryd.prog 11 [.sl (l1.map c_ttokenToken)] (· = .sl (r.map c_tref06Token)) := by
  rw [dlaw06_As] at h
  refine pcall_body Tryd.func11 rfl (by kernel_rfl) (by rfl) ?_
  refine awp_seq ?_
  refine awp_region ?_
  refine rv rfl rfl ?_
  refine rn ?_
  refine awp_seq ?_
  refine awp_region ?_
  refine rv rfl rfl ?_
  refine rn ?_
  refine awp_seq ?_
  refine awp_seq ?_
  refine awp_region ?_
  refine rv rfl rfl ?_
  refine rn ?_
  refine awp_conv (fun _ _ _ _ _ hi => nilS_slot false 4 3 rfl hi) ?_
  obtain ⟨e1, hl2, h⟩ := bi h
  refine awp_cut1 (fun x => x = e1) (fun (out3 : List tref06Token) => ⟨[(3, .own 0)], [], [(0, .row 4 (out3.map c_tref06Token))], 1⟩) ?_ ?_
  · refine awp_block ?_
    refine awp_loopD hl2 (fun (((i1, out1)) : Int × (List tref06Token)) => ⟨[(0, .sl (l1.map c_ttokenToken)), (3, .own 0), (4, .int .i64 i1)], [], [(0, .row 4 (out1.map c_tref06Token))], 1⟩) [0] rfl ⟨rfl, rfl, zA rfl rfl rfl (zA rfl rfl rfl (zA rfl rfl rfl (trivial))), trivial, zE rfl .row rfl (trivial)⟩ ?_
    intro v o5 ho3 hE4
    obtain ⟨i1, out1⟩ := v
    change awp _ _ _ _ _ ⟨_, _, _, _⟩
    refine awp_seq ?_
    refine awp_seq ?_
    refine awp_region ?_
    refine rvs 2 rfl ?_
    refine rv rfl rfl ?_
    refine rt ((lM c_ttokenToken l1)) ?_
    refine rv rfl rfl ?_
    refine rn ?_
    refine cs_ rfl (fun hc => ?_) (fun hc => ?_)
    · have ho3 := cT hc ho3
      refine awp_skip ?_
      refine awp_seq ?_
      refine awp_block ?_
      refine awp_dx (m := 24) [] Tryd.mix (by kernel_rfl) (by kernel_rfl) (by kernel_rfl) (by kernel_rfl) (by kernel_rfl) (by kernel_rfl) ?_
      refine xv [] rfl rfl (fun _ => rfl) ?_
      refine xv [] rfl rfl (fun _ => rfl) ?_
      refine xv [] rfl rfl (fun _ => rfl) ?_
      obtain ⟨out8, hx10, ho3⟩ := bi ho3
      refine xV [] rfl rfl (fun _ => va_idx rfl rfl rfl rfl rfl (gi0 hx10) (giM c_ttokenToken hx10) (wM (fun _ => by rfl) _)) ?_
      refine xv [] rfl rfl (fun _ => rfl) ?_
      refine xv [] rfl rfl (fun _ => rfl) ?_
      refine xv [] rfl rfl (fun _ => rfl) ?_
      refine xv [] rfl rfl (fun _ => rfl) ?_
      obtain ⟨out9, hx11, ho3⟩ := bi ho3
      refine xV [] rfl rfl (fun _ => va_idx rfl rfl rfl rfl rfl (gi0 hx11) (giM c_ttokenToken hx11) (wM (fun _ => by rfl) _)) ?_
      refine xv [] rfl rfl (fun _ => rfl) ?_
      refine xv [] rfl rfl (fun _ => rfl) ?_
      refine xv [] rfl rfl (fun _ => rfl) ?_
      refine xv [] rfl rfl (fun _ => rfl) ?_
      obtain ⟨out10, hx12, ho3⟩ := bi ho3
      refine xV [] rfl rfl (fun _ => va_idx rfl rfl rfl rfl rfl (gi0 hx12) (giM c_ttokenToken hx12) (wM (fun _ => by rfl) _)) ?_
      refine xv [] rfl rfl (fun _ => rfl) ?_
      refine xv [] rfl rfl (fun _ => rfl) ?_
      refine xv [] rfl rfl (fun _ => rfl) ?_
      refine xv [] rfl rfl (fun _ => rfl) ?_
      obtain ⟨out11, hx13, ho3⟩ := bi ho3
      refine xV [] rfl rfl (fun _ => va_idx rfl rfl rfl rfl rfl (gi0 hx13) (giM c_ttokenToken hx13) (wM (fun _ => by rfl) _)) ?_
      refine xv [] rfl rfl (fun _ => rfl) ?_
      refine xv [] rfl rfl (fun _ => rfl) ?_
      refine xv [] rfl rfl (fun _ => rfl) ?_
      refine xE [] (.own 1) 2 _ _ rfl rfl (by
          refine rbs false rfl rfl rfl rfl rfl rfl rfl rfl rfl rfl ?_
          exact rn ⟨rfl, rfl⟩) (by rfl) (by rfl) (by rfl) ?_
      obtain ⟨out12, hx14, ho3⟩ := bi ho3
      refine xE [0, 1] (.own 2) 3 _ _ rfl rfl (by
          refine rap false (xs := out1.map c_tref06Token) (ys := [(tref06Token.mk out8.Kind out9.At out10.N out11.S)].map c_tref06Token) rfl rfl rfl rfl rfl rfl rfl (.own rfl rfl) (.sl rfl rfl rfl) (wM (fun _ => by rfl) _) (oM (fun _ => by rfl) _) (apB c_tref06Token rfl hx14) rfl ?_
          refine rk (congrArg (Kind.row _) (apM c_tref06Token hx14)) ?_
          exact rn ⟨rfl, rfl⟩) (by rfl) (by rfl) (by rfl) ?_
      refine xn (by kernel_rfl) ?_
      refine rv rfl rfl ?_
      refine rn ?_
      refine inBlock_normal ?_
      refine awp_region ?_
      refine rvs 3 rfl ?_
      refine rn ?_
      cases ho3
      exact lp_n [2] rfl rfl ⟨rfl, rfl, zA rfl rfl rfl (zA rfl rfl rfl (zA rfl rfl rfl (trivial))), trivial, zE rfl .row rfl (trivial)⟩
    · have ho3 := cF hc ho3
      refine awp_exit ?_
      repeat (first | refine then_exit ?_ | refine cut_x ?_ | refine inBlock_other rfl ?_)
      refine inBlock_exit ?_
      cases ho3
      have hq := hE4 _ rfl
      subst hq
      exact cut_n [0] rfl rfl ⟨rfl, rfl, zA rfl rfl rfl (trivial), trivial, zE rfl .row rfl (trivial)⟩
  · rintro out3 rfl
    refine awp_seq ?_
    refine awp_region ?_
    refine rvs 2 rfl ?_
    refine rn ?_
    refine awp_ret ?_
    cases h
    repeat (first | refine then_ret ?_ | refine inBlock_ret ?_ | refine cut_r ?_)
    exact rr rfl rfl rfl
end

/-- `plover/ploverlaw06.up` -/
def dlaw06_up (fu : Nat)  : Option Bool :=
  (dtoken_Cut fu [97, 62, 61, 45, 53]).bind fun l1 => (dtoken_Cut fu [36]).bind fun x1 => bif l1.2.isNone then (bif ((l1.1.length : Int) == 3) then ((gi l1.1 1).bind fun x2 => bif (x2.S == [62, 61]) then ((gi l1.1 2).bind fun x3 => bif (x3.N == (-5)) then some (x1.2 == some 2) else some false) else some false) else some false) else some false
section
attribute [local irreducible] awp aops DP PCall ACall Decidable.decide
theorem dlaw06_up_l {fu : Nat}  {r : Bool} (h : dlaw06_up fu  = some r) : PCall Tryd.prog 6 [] (· = .bool r) := by
  rw [dlaw06_up] at h
  refine pcall_body Tryd.func6 rfl (by kernel_rfl) (by rfl) ?_
  refine awp_seq ?_
  refine awp_region ?_
  refine rv rfl rfl ?_
  refine rn ?_
  refine awp_seq ?_
  refine awp_region ?_
  obtain ⟨l1, hx1, h⟩ := bi h
  refine rc1 rfl rfl rfl (dtoken_Cut_l hx1) ?_
  refine rvs 5 rfl ?_
  refine rn ?_
  refine awp_seq ?_
  refine awp_region ?_
  obtain ⟨x1, hx2, h⟩ := bi h
  refine rc1 rfl rfl rfl (dtoken_Cut_l hx2) ?_
  refine rvs 5 rfl ?_
  refine rn ?_
  refine awp_seq ?_
  refine awp_region ?_
  refine rv rfl rfl ?_
  refine rV rfl (va_enil rfl rfl rfl) ?_
  refine rv rfl rfl ?_
  refine gs rfl rfl rfl rfl rfl (fun hg => ?_) (fun hg => ?_)
  · have h := cT hg h
    refine rv rfl rfl ?_
    refine gy rfl rfl rfl ?_
    refine rv rfl rfl ?_
    refine rt ((lM c_ttokenToken l1.1)) ?_
    refine gy rfl rfl rfl ?_
    refine rv rfl rfl ?_
    refine rvs 2 rfl ?_
    refine gs rfl rfl rfl rfl rfl (fun hg => ?_) (fun hg => ?_)
    · have h := cT hg h
      refine rv rfl rfl ?_
      refine gy rfl rfl rfl ?_
      obtain ⟨x2, hx3, h⟩ := bi h
      refine ri rfl rfl rfl rfl rfl rfl (gi0 hx3) (giM c_ttokenToken hx3) (wM (fun _ => by rfl) _) ?_
      refine gy rfl rfl rfl ?_
      refine rv rfl rfl ?_
      refine gy rfl rfl rfl ?_
      refine rv rfl rfl ?_
      refine gy rfl rfl rfl ?_
      refine rv rfl rfl ?_
      refine rt (sEq x2.S [62, 61]) ?_
      refine rvs 2 rfl ?_
      refine gs rfl rfl rfl rfl rfl (fun hg => ?_) (fun hg => ?_)
      · have h := cT hg h
        refine rv rfl rfl ?_
        refine gy rfl rfl rfl ?_
        obtain ⟨x3, hx4, h⟩ := bi h
        refine ri rfl rfl rfl rfl rfl rfl (gi0 hx4) (giM c_ttokenToken hx4) (wM (fun _ => by rfl) _) ?_
        refine gy rfl rfl rfl ?_
        refine rv rfl rfl ?_
        refine gy rfl rfl rfl ?_
        refine rv rfl rfl ?_
        refine gy rfl rfl rfl ?_
        refine rv rfl rfl ?_
        refine rvs 2 rfl ?_
        refine gs rfl rfl rfl rfl rfl (fun hg => ?_) (fun hg => ?_)
        · have h := cT hg h
          refine rv rfl rfl ?_
          refine gy rfl rfl rfl ?_
          refine rv rfl rfl ?_
          refine gy rfl rfl rfl ?_
          refine rV rfl (va_eeq rfl rfl rfl rfl rfl rfl (fun _ => rfl)) ?_
          refine rvs 2 rfl ?_
          refine rn ?_
          refine awp_ret ?_
          cases h
          repeat (first | refine then_ret ?_ | refine inBlock_ret ?_ | refine cut_r ?_)
          exact rr rfl rfl rfl
        · have h := cF hg h
          refine gn rfl rfl rfl rfl rfl ?_
          refine gn rfl rfl rfl rfl rfl ?_
          refine rvs 2 rfl ?_
          refine rn ?_
          refine awp_ret ?_
          cases h
          repeat (first | refine then_ret ?_ | refine inBlock_ret ?_ | refine cut_r ?_)
          exact rr rfl rfl rfl
      · have h := cF hg h
        refine gn rfl rfl rfl rfl rfl ?_
        refine gn rfl rfl rfl rfl rfl ?_
        refine gn rfl rfl rfl rfl rfl ?_
        refine gn rfl rfl rfl rfl rfl ?_
        refine rvs 2 rfl ?_
        refine gn rfl rfl rfl rfl rfl ?_
        refine gn rfl rfl rfl rfl rfl ?_
        refine gn rfl rfl rfl rfl rfl ?_
        refine rvs 2 rfl ?_
        refine rn ?_
        refine awp_ret ?_
        cases h
        repeat (first | refine then_ret ?_ | refine inBlock_ret ?_ | refine cut_r ?_)
        exact rr rfl rfl rfl
    · have h := cF hg h
      refine gn rfl rfl rfl rfl rfl ?_
      refine gn rfl rfl rfl rfl rfl ?_
      refine gn rfl rfl rfl rfl rfl ?_
      refine gn rfl rfl rfl rfl rfl ?_
      refine rvs 2 rfl ?_
      refine gn rfl rfl rfl rfl rfl ?_
      refine gn rfl rfl rfl rfl rfl ?_
      refine gn rfl rfl rfl rfl rfl ?_
      refine gn rfl rfl rfl rfl rfl ?_
      refine gn rfl rfl rfl rfl rfl ?_
      refine rvs 2 rfl ?_
      refine gn rfl rfl rfl rfl rfl ?_
      refine gn rfl rfl rfl rfl rfl ?_
      refine gn rfl rfl rfl rfl rfl ?_
      refine rvs 2 rfl ?_
      refine rn ?_
      refine awp_ret ?_
      cases h
      repeat (first | refine then_ret ?_ | refine inBlock_ret ?_ | refine cut_r ?_)
      exact rr rfl rfl rfl
  · have h := cF hg h
    refine gn rfl rfl rfl rfl rfl ?_
    refine gn rfl rfl rfl rfl rfl ?_
    refine rvs 2 rfl ?_
    refine gn rfl rfl rfl rfl rfl ?_
    refine gn rfl rfl rfl rfl rfl ?_
    refine gn rfl rfl rfl rfl rfl ?_
    refine gn rfl rfl rfl rfl rfl ?_
    refine gn rfl rfl rfl rfl rfl ?_
    refine rvs 2 rfl ?_
    refine gn rfl rfl rfl rfl rfl ?_
    refine gn rfl rfl rfl rfl rfl ?_
    refine gn rfl rfl rfl rfl rfl ?_
    refine gn rfl rfl rfl rfl rfl ?_
    refine gn rfl rfl rfl rfl rfl ?_
    refine rvs 2 rfl ?_
    refine gn rfl rfl rfl rfl rfl ?_
    refine gn rfl rfl rfl rfl rfl ?_
    refine gn rfl rfl rfl rfl rfl ?_
    refine rvs 2 rfl ?_
    refine rn ?_
    refine awp_ret ?_
    cases h
    repeat (first | refine then_ret ?_ | refine inBlock_ret ?_ | refine cut_r ?_)
    exact rr rfl rfl rfl
end

/-- `plover/ploverlaw06.TokenCuts` -/
def dlaw06_TokenCuts (fu : Nat) (s1 : Str) : Option Bool :=
  (dlaw06_up fu ).bind fun head1 => bif (decide ((s1.length : Int) > 2000)) then some head1 else ((dtoken_Cut fu s1).bind fun l1 => (dref06_Cut fu s1).bind fun want1 => bif head1 then ((dlaw00_Code fu l1.2).bind fun x1 => bif (x1 == want1.2) then ((dlaw06_As fu l1.1).bind fun x2 => (dref06_Tokens fu x2 want1.1).bind fun x3 => some x3) else some false) else some false)
section
attribute [local irreducible] awp aops DP PCall ACall Decidable.decide
theorem dlaw06_TokenCuts_l {fu : Nat} {s1 : Str} {r : Bool} (h : dlaw06_TokenCuts fu s1 = some r) : PCall Tryd.prog 3 [.str (sB s1)] (· = .bool r) := by
  rw [dlaw06_TokenCuts] at h
  refine pcall_body Tryd.func3 rfl (by kernel_rfl) (by rfl) ?_
  refine awp_seq ?_
  refine awp_region ?_
  refine rv rfl rfl ?_
  refine rn ?_
  refine awp_seq ?_
  refine awp_region ?_
  obtain ⟨head1, hx1, h⟩ := bi h
  refine rc1 rfl rfl rfl (dlaw06_up_l hx1) ?_
  refine rv rfl rfl ?_
  refine rn ?_
  refine awp_seq ?_
  refine awp_seq ?_
  refine awp_region ?_
  refine rvs 3 rfl ?_
  refine rn ?_
  refine cs_ rfl (fun hc => ?_) (fun hc => ?_)
  · have h := cT hc h
    refine awp_seq ?_
    refine awp_region ?_
    refine rvs 2 rfl ?_
    refine rn ?_
    refine awp_ret ?_
    cases h
    repeat (first | refine then_ret ?_ | refine inBlock_ret ?_ | refine cut_r ?_)
    exact rr rfl rfl rfl
  · have h := cF hc h
    refine awp_skip ?_
    refine awp_seq ?_
    refine awp_region ?_
    refine rv rfl rfl ?_
    obtain ⟨l1, hx2, h⟩ := bi h
    refine rc1 rfl rfl rfl (dtoken_Cut_l hx2) ?_
    refine rvs 5 rfl ?_
    refine rn ?_
    refine awp_seq ?_
    refine awp_region ?_
    refine rv rfl rfl ?_
    obtain ⟨want1, hx3, h⟩ := bi h
    refine rc1 rfl rfl rfl (dref06_Cut_l hx3) ?_
    refine rvs 5 rfl ?_
    refine rn ?_
    refine awp_seq ?_
    refine awp_region ?_
    refine rvs 2 rfl ?_
    refine gs rfl rfl rfl rfl rfl (fun hg => ?_) (fun hg => ?_)
    · have h := cT hg h
      refine rv rfl rfl ?_
      refine gy rfl rfl rfl ?_
      obtain ⟨x1, hx4, h⟩ := bi h
      refine rc1 rfl rfl rfl (dlaw00_Code_l hx4) ?_
      refine gy rfl rfl rfl ?_
      refine rv rfl rfl ?_
      refine gy rfl rfl rfl ?_
      refine rv rfl rfl ?_
      refine rvs 2 rfl ?_
      refine gs rfl rfl rfl rfl rfl (fun hg => ?_) (fun hg => ?_)
      · have h := cT hg h
        refine rv rfl rfl ?_
        refine gy rfl rfl rfl ?_
        obtain ⟨x2, hx5, h⟩ := bi h
        refine rc1 rfl rfl rfl (dlaw06_As_l hx5) ?_
        refine gy rfl rfl rfl ?_
        refine rv rfl rfl ?_
        refine gy rfl rfl rfl ?_
        obtain ⟨x3, hx6, h⟩ := bi h
        refine rc1 rfl rfl rfl (dref06_Tokens_l hx6) ?_
        refine rvs 2 rfl ?_
        refine rn ?_
        refine awp_ret ?_
        cases h
        repeat (first | refine then_ret ?_ | refine inBlock_ret ?_ | refine cut_r ?_)
        exact rr rfl rfl rfl
      · have h := cF hg h
        refine gn rfl rfl rfl rfl rfl ?_
        refine gn rfl rfl rfl rfl rfl ?_
        refine gn rfl rfl rfl rfl rfl ?_
        refine rvs 2 rfl ?_
        refine rn ?_
        refine awp_ret ?_
        cases h
        repeat (first | refine then_ret ?_ | refine inBlock_ret ?_ | refine cut_r ?_)
        exact rr rfl rfl rfl
    · have h := cF hg h
      refine gn rfl rfl rfl rfl rfl ?_
      refine gn rfl rfl rfl rfl rfl ?_
      refine gn rfl rfl rfl rfl rfl ?_
      refine rvs 2 rfl ?_
      refine gn rfl rfl rfl rfl rfl ?_
      refine gn rfl rfl rfl rfl rfl ?_
      refine gn rfl rfl rfl rfl rfl ?_
      refine gn rfl rfl rfl rfl rfl ?_
      refine rvs 2 rfl ?_
      refine rn ?_
      refine awp_ret ?_
      cases h
      repeat (first | refine then_ret ?_ | refine inBlock_ret ?_ | refine cut_r ?_)
      exact rr rfl rfl rfl
end

/-- `plover/ploverlaw06.TokenOwn` -/
def dlaw06_TokenOwn (fu : Nat) (s1 : Str) : Option Bool :=
  (dlaw06_up fu ).bind fun head1 => bif (decide ((s1.length : Int) > 2000)) then some head1 else ((dtoken_Cut fu s1).bind fun l1 => bif l1.2.isSome then ((bif head1 then ((some ((l1.1.length : Int) == 0)).bind fun x2 => some x2) else some false : Option Bool).bind fun (x1 : Bool) => some x1) else ((loopD (ε := Int) (τ := Unit ⊕ Bool) (fun (i1 : Int) => (bif (decide (i1 < (l1.1.length : Int))) then ((some ((s1.length : Int))).bind fun to1 => (bif (decide ((W (i1 + 1)) < (l1.1.length : Int))) then ((gi l1.1 (W (i1 + 1))).bind fun to3 => some to3.At) else some to1 : Option Int).bind fun (to2 : Int) => (((gi l1.1 i1).bind fun x4 => bif (decide (x4.At < 0)) then some true else ((gi l1.1 i1).bind fun x5 => some (decide (x5.At ≥ to2))) : Option Bool).bind fun (x3 : Bool) => (bif x3 then some (Sum.inr (Sum.inr false)) else ((gi l1.1 i1).bind fun x6 => (gsl s1 x6.At to2).bind fun s2 => (dtoken_Cut fu s2).bind fun x7 => (bif x7.2.isSome then some true else some ((x7.1.length : Int) != 1) : Option Bool).bind fun (x8 : Bool) => (bif x8 then some (Sum.inr (Sum.inr false)) else (((gi x7.1 0).bind fun x10 => (gi l1.1 i1).bind fun x11 => bif (x10.Kind != x11.Kind) then some true else ((gi x7.1 0).bind fun x12 => (gi l1.1 i1).bind fun x13 => bif (!(x12.S == x13.S)) then some true else ((gi x7.1 0).bind fun x14 => (gi l1.1 i1).bind fun x15 => bif (x14.N != x15.N) then some true else ((gi x7.1 0).bind fun x16 => some (x16.At != 0)))) : Option Bool).bind fun (x9 : Bool) => (bif x9 then some (Sum.inr (Sum.inr false)) else some (Sum.inl (W (i1 + 1)))))))))) else some (Sum.inr (Sum.inl ())))) fu 0).bind fun o => kS o fun (_ : Unit) => some head1))
section
attribute [local irreducible] awp aops DP PCall ACall Decidable.decide
theorem dlaw06_TokenOwn_l {fu : Nat} {s1 : Str} {r : Bool} (h : dlaw06_TokenOwn fu s1 = some r) : PCall Tryd.prog 4 [.str (sB s1)] (· = .bool r) := by
  rw [dlaw06_TokenOwn] at h
  refine pcall_body Tryd.func4 rfl (by kernel_rfl) (by rfl) ?_
  refine awp_seq ?_
  refine awp_region ?_
  refine rv rfl rfl ?_
  refine rn ?_
  refine awp_seq ?_
  refine awp_region ?_
  obtain ⟨head1, hx1, h⟩ := bi h
  refine rc1 rfl rfl rfl (dlaw06_up_l hx1) ?_
  refine rv rfl rfl ?_
  refine rn ?_
  refine awp_seq ?_
  refine awp_seq ?_
  refine awp_region ?_
  refine rvs 3 rfl ?_
  refine rn ?_
  refine cs_ rfl (fun hc => ?_) (fun hc => ?_)
  · have h := cT hc h
    refine awp_seq ?_
    refine awp_region ?_
    refine rvs 2 rfl ?_
    refine rn ?_
    refine awp_ret ?_
    cases h
    repeat (first | refine then_ret ?_ | refine inBlock_ret ?_ | refine cut_r ?_)
    exact rr rfl rfl rfl
  · have h := cF hc h
    refine awp_skip ?_
    refine awp_seq ?_
    refine awp_region ?_
    refine rv rfl rfl ?_
    obtain ⟨l1, hx2, h⟩ := bi h
    refine rc1 rfl rfl rfl (dtoken_Cut_l hx2) ?_
    refine rvs 5 rfl ?_
    refine rn ?_
    refine awp_seq ?_
    refine awp_seq ?_
    refine awp_region ?_
    refine rv rfl rfl ?_
    refine rV rfl (va_ennil rfl rfl rfl) ?_
    refine rn ?_
    refine cs_ rfl (fun hc => ?_) (fun hc => ?_)
    · have h := cT hc h
      refine awp_seq ?_
      obtain ⟨o3, ho4, h⟩ := bi h
      refine awp_cut1 (fun x => x = o3) (fun (x1 : Bool) => ⟨[(2, .bool x1)], [], [], 0⟩) ?_ ?_
      · refine awp_region ?_
        refine rvs 2 rfl ?_
        refine gs rfl rfl rfl rfl rfl (fun hg => ?_) (fun hg => ?_)
        · have ho4 := cT hg ho4
          refine rv rfl rfl ?_
          refine gy rfl rfl rfl ?_
          refine rv rfl rfl ?_
          refine rt ((lM c_ttokenToken l1.1)) ?_
          refine gy rfl rfl rfl ?_
          refine rv rfl rfl ?_
          refine rvs 2 rfl ?_
          obtain ⟨x2, hx5, ho4⟩ := bs ho4
          refine rt (eb' hx5) ?_
          refine rn ?_
          cases ho4
          exact cut_n [] rfl rfl ⟨rfl, rfl, zA rfl rfl rfl (trivial), trivial, trivial⟩
        · have ho4 := cF hg ho4
          refine gn rfl rfl rfl rfl rfl ?_
          refine gn rfl rfl rfl rfl rfl ?_
          refine rvs 2 rfl ?_
          refine rn ?_
          cases ho4
          exact cut_n [] rfl rfl ⟨rfl, rfl, zA rfl rfl rfl (trivial), trivial, trivial⟩
      · rintro x1 rfl
        change awp _ _ _ _ _ ⟨_, _, _, _⟩
        refine awp_ret ?_
        cases h
        repeat (first | refine then_ret ?_ | refine inBlock_ret ?_ | refine cut_r ?_)
        exact rr rfl rfl rfl
    · have h := cF hc h
      refine awp_skip ?_
      refine awp_seq ?_
      refine awp_seq ?_
      refine awp_region ?_
      refine rv rfl rfl ?_
      refine rn ?_
      obtain ⟨e6, hl7, h⟩ := bi h
      refine awp_cut1 (fun x => Sum.inl x = e6) (fun (_ : Unit) => ⟨[(3, .bool head1)], [], [], 0⟩) ?_ ?_
      · refine awp_block ?_
        refine awp_loopD hl7 (fun (i1 : Int) => ⟨[(0, .str (sB s1)), (3, .bool head1), (4, .sl (l1.1.map c_ttokenToken)), (6, .int .i64 i1)], [], [], 0⟩) [] rfl ⟨rfl, rfl, zA rfl rfl rfl (zA rfl rfl rfl (zA rfl rfl rfl (zA rfl rfl rfl (trivial)))), trivial, trivial⟩ ?_
        intro i1 o10 ho8 hE9
        change awp _ _ _ _ _ ⟨_, _, _, _⟩
        refine awp_seq ?_
        refine awp_seq ?_
        refine awp_region ?_
        refine rvs 2 rfl ?_
        refine rv rfl rfl ?_
        refine rt ((lM c_ttokenToken l1.1)) ?_
        refine rv rfl rfl ?_
        refine rn ?_
        refine cs_ rfl (fun hc => ?_) (fun hc => ?_)
        · have ho8 := cT hc ho8
          refine awp_skip ?_
          refine awp_seq ?_
          refine awp_block ?_
          refine awp_seq ?_
          refine awp_region ?_
          refine rvs 3 rfl ?_
          obtain ⟨to1, hx11, ho8⟩ := bs ho8
          refine rt (ei' hx11) ?_
          refine rn ?_
          refine awp_seq ?_
          refine awp_seq ?_
          refine awp_region ?_
          refine rvs 3 rfl ?_
          refine rv rfl rfl ?_
          refine rt ((lM c_ttokenToken l1.1)) ?_
          refine rv rfl rfl ?_
          refine rn ?_
          obtain ⟨o12, ho13, ho8⟩ := bi ho8
          refine awp_cut1 (fun x => x = o12) (fun (to2 : Int) => ⟨[(0, .str (sB s1)), (3, .bool head1), (4, .sl (l1.1.map c_ttokenToken)), (6, .int .i64 i1), (7, .int .i64 to2)], [], [], 0⟩) ?_ ?_
          · refine cs_ rfl (fun hc => ?_) (fun hc => ?_)
            · have ho13 := cT hc ho13
              refine awp_region ?_
              refine rvs 3 rfl ?_
              obtain ⟨to3, hx14, ho13⟩ := bi ho13
              refine ri rfl rfl rfl rfl rfl rfl (gi0 hx14) (giM c_ttokenToken hx14) (wM (fun _ => by rfl) _) ?_
              refine rvs 3 rfl ?_
              refine rn ?_
              cases ho13
              exact cut_n [] rfl rfl ⟨rfl, rfl, zA rfl rfl rfl (zA rfl rfl rfl (zA rfl rfl rfl (zA rfl rfl rfl (zA rfl rfl rfl (trivial))))), trivial, trivial⟩
            · have ho13 := cF hc ho13
              refine awp_skip ?_
              cases ho13
              exact cut_n [] rfl rfl ⟨rfl, rfl, zA rfl rfl rfl (zA rfl rfl rfl (zA rfl rfl rfl (zA rfl rfl rfl (zA rfl rfl rfl (trivial))))), trivial, trivial⟩
          · rintro to2 rfl
            change awp _ _ _ _ _ ⟨_, _, _, _⟩
            refine awp_seq ?_
            refine awp_seq ?_
            obtain ⟨o15, ho16, ho8⟩ := bi ho8
            refine awp_cut1 (fun x => x = o15) (fun (x3 : Bool) => ⟨[(0, .str (sB s1)), (3, .bool head1), (4, .sl (l1.1.map c_ttokenToken)), (6, .int .i64 i1), (7, .int .i64 to2), (61, .bool x3)], [], [], 0⟩) ?_ ?_
            · refine awp_region ?_
              refine rvs 2 rfl ?_
              obtain ⟨x4, hx17, ho16⟩ := bi ho16
              refine ri rfl rfl rfl rfl rfl rfl (gi0 hx17) (giM c_ttokenToken hx17) (wM (fun _ => by rfl) _) ?_
              refine rvs 4 rfl ?_
              refine gs rfl rfl rfl rfl rfl (fun hg => ?_) (fun hg => ?_)
              · have ho16 := cF hg ho16
                refine rv rfl rfl ?_
                refine gy rfl rfl rfl ?_
                refine rv rfl rfl ?_
                refine gy rfl rfl rfl ?_
                obtain ⟨x5, hx18, ho16⟩ := bi ho16
                refine ri rfl rfl rfl rfl rfl rfl (gi0 hx18) (giM c_ttokenToken hx18) (wM (fun _ => by rfl) _) ?_
                refine gy rfl rfl rfl ?_
                refine rv rfl rfl ?_
                refine gy rfl rfl rfl ?_
                refine rv rfl rfl ?_
                refine gy rfl rfl rfl ?_
                refine rv rfl rfl ?_
                refine gy rfl rfl rfl ?_
                refine rv rfl rfl ?_
                refine rv rfl rfl ?_
                refine rn ?_
                cases ho16
                exact cut_n [] rfl rfl ⟨rfl, rfl, zA rfl rfl rfl (zA rfl rfl rfl (zA rfl rfl rfl (zA rfl rfl rfl (zA rfl rfl rfl (zA rfl rfl rfl (trivial)))))), trivial, trivial⟩
              · have ho16 := cT hg ho16
                refine gn rfl rfl rfl rfl rfl ?_
                refine gn rfl rfl rfl rfl rfl ?_
                refine gn rfl rfl rfl rfl rfl ?_
                refine gn rfl rfl rfl rfl rfl ?_
                refine gn rfl rfl rfl rfl rfl ?_
                refine gn rfl rfl rfl rfl rfl ?_
                refine rv rfl rfl ?_
                refine rn ?_
                cases ho16
                exact cut_n [] rfl rfl ⟨rfl, rfl, zA rfl rfl rfl (zA rfl rfl rfl (zA rfl rfl rfl (zA rfl rfl rfl (zA rfl rfl rfl (zA rfl rfl rfl (trivial)))))), trivial, trivial⟩
            · rintro x3 rfl
              change awp _ _ _ _ _ ⟨_, _, _, _⟩
              refine cs_ rfl (fun hc => ?_) (fun hc => ?_)
              · have ho8 := cT hc ho8
                refine awp_seq ?_
                refine awp_region ?_
                refine rv rfl rfl ?_
                refine rn ?_
                refine awp_ret ?_
                cases ho8
                have hq := hE9 _ rfl
                subst hq
                have h := ksr h
                subst h
                repeat (first | refine then_ret ?_ | refine inBlock_ret ?_ | refine cut_r ?_)
                exact rr rfl rfl rfl
              · have ho8 := cF hc ho8
                refine awp_skip ?_
                refine awp_seq ?_
                refine awp_region ?_
                refine rvs 3 rfl ?_
                obtain ⟨x6, hx19, ho8⟩ := bi ho8
                refine ri rfl rfl rfl rfl rfl rfl (gi0 hx19) (giM c_ttokenToken hx19) (wM (fun _ => by rfl) _) ?_
                refine rvs 3 rfl ?_
                obtain ⟨s2, hx20, ho8⟩ := bi ho8
                refine rV rfl (va_ssub rfl rfl rfl ⟨_, rfl⟩ ⟨_, rfl⟩ hx20) ?_
                obtain ⟨x7, hx21, ho8⟩ := bi ho8
                refine rc1 rfl rfl rfl (dtoken_Cut_l hx21) ?_
                refine rvs 5 rfl ?_
                refine rn ?_
                refine awp_seq ?_
                refine awp_seq ?_
                obtain ⟨o22, ho23, ho8⟩ := bi ho8
                refine awp_cut1 (fun x => x = o22) (fun (x8 : Bool) => ⟨[(0, .str (sB s1)), (3, .bool head1), (4, .sl (l1.1.map c_ttokenToken)), (6, .int .i64 i1), (8, .sl (x7.1.map c_ttokenToken)), (80, .bool x8)], [], [], 0⟩) ?_ ?_
                · refine awp_region ?_
                  refine rv rfl rfl ?_
                  refine rV rfl (va_ennil rfl rfl rfl) ?_
                  refine rv rfl rfl ?_
                  refine gs rfl rfl rfl rfl rfl (fun hg => ?_) (fun hg => ?_)
                  · have ho23 := cF hg ho23
                    refine rv rfl rfl ?_
                    refine gy rfl rfl rfl ?_
                    refine rv rfl rfl ?_
                    refine rt ((lM c_ttokenToken x7.1)) ?_
                    refine gy rfl rfl rfl ?_
                    refine rv rfl rfl ?_
                    refine rv rfl rfl ?_
                    refine rn ?_
                    cases ho23
                    exact cut_n [] rfl rfl ⟨rfl, rfl, zA rfl rfl rfl (zA rfl rfl rfl (zA rfl rfl rfl (zA rfl rfl rfl (zA rfl rfl rfl (zA rfl rfl rfl (trivial)))))), trivial, trivial⟩
                  · have ho23 := cT hg ho23
                    refine gn rfl rfl rfl rfl rfl ?_
                    refine gn rfl rfl rfl rfl rfl ?_
                    refine rv rfl rfl ?_
                    refine rn ?_
                    cases ho23
                    exact cut_n [] rfl rfl ⟨rfl, rfl, zA rfl rfl rfl (zA rfl rfl rfl (zA rfl rfl rfl (zA rfl rfl rfl (zA rfl rfl rfl (zA rfl rfl rfl (trivial)))))), trivial, trivial⟩
                · rintro x8 rfl
                  change awp _ _ _ _ _ ⟨_, _, _, _⟩
                  refine cs_ rfl (fun hc => ?_) (fun hc => ?_)
                  · have ho8 := cT hc ho8
                    refine awp_seq ?_
                    refine awp_region ?_
                    refine rv rfl rfl ?_
                    refine rn ?_
                    refine awp_ret ?_
                    cases ho8
                    have hq := hE9 _ rfl
                    subst hq
                    have h := ksr h
                    subst h
                    repeat (first | refine then_ret ?_ | refine inBlock_ret ?_ | refine cut_r ?_)
                    exact rr rfl rfl rfl
                  · have ho8 := cF hc ho8
                    refine awp_skip ?_
                    refine awp_seq ?_
                    obtain ⟨o24, ho25, ho8⟩ := bi ho8
                    refine awp_cut1 (fun x => x = o24) (fun (x9 : Bool) => ⟨[(0, .str (sB s1)), (3, .bool head1), (4, .sl (l1.1.map c_ttokenToken)), (6, .int .i64 i1), (121, .bool x9)], [], [], 0⟩) ?_ ?_
                    · refine awp_dp (m := 41) Tryd.mix (by kernel_rfl) (by kernel_rfl) (by kernel_rfl) (by kernel_rfl) (by kernel_rfl) (by kernel_rfl) (by kernel_rfl) ?_
                      refine dv rfl rfl (fun _ => rfl) ?_
                      obtain ⟨x10, hx26, ho25⟩ := bi ho25
                      refine di rfl rfl rfl rfl rfl (fun _ => rfl) rfl (gi0 hx26) (giM c_ttokenToken hx26) (wM (fun _ => by rfl) _) ?_
                      refine dv rfl rfl (fun _ => rfl) ?_
                      refine dv rfl rfl (fun _ => rfl) ?_
                      refine dv rfl rfl (fun _ => rfl) ?_
                      refine dv rfl rfl (fun _ => rfl) ?_
                      obtain ⟨x11, hx27, ho25⟩ := bi ho25
                      refine di rfl rfl rfl rfl rfl (fun _ => rfl) rfl (gi0 hx27) (giM c_ttokenToken hx27) (wM (fun _ => by rfl) _) ?_
                      refine dv rfl rfl (fun _ => rfl) ?_
                      refine dv rfl rfl (fun _ => rfl) ?_
                      refine dv rfl rfl (fun _ => rfl) ?_
                      refine dv rfl rfl (fun _ => rfl) ?_
                      refine ds rfl rfl (fun hg => ?_) (fun hg => ?_)
                      · have ho25 := cT hg ho25
                        refine dno rfl rfl ?_
                        refine dno rfl rfl ?_
                        refine dno rfl rfl ?_
                        refine dno rfl rfl ?_
                        refine dno rfl rfl ?_
                        refine dno rfl rfl ?_
                        refine dno rfl rfl ?_
                        refine dno rfl rfl ?_
                        refine dno rfl rfl ?_
                        refine dno rfl rfl ?_
                        refine dv rfl rfl (fun _ => rfl) ?_
                        refine dv rfl rfl (fun _ => rfl) ?_
                        refine dno rfl rfl ?_
                        refine dno rfl rfl ?_
                        refine dno rfl rfl ?_
                        refine dno rfl rfl ?_
                        refine dno rfl rfl ?_
                        refine dno rfl rfl ?_
                        refine dno rfl rfl ?_
                        refine dno rfl rfl ?_
                        refine dno rfl rfl ?_
                        refine dno rfl rfl ?_
                        refine dv rfl rfl (fun _ => rfl) ?_
                        refine dv rfl rfl (fun _ => rfl) ?_
                        refine dno rfl rfl ?_
                        refine dno rfl rfl ?_
                        refine dno rfl rfl ?_
                        refine dno rfl rfl ?_
                        refine dno rfl rfl ?_
                        refine dv rfl rfl (fun _ => rfl) ?_
                        refine dn ?_
                        refine rn ?_
                        cases ho25
                        exact cut_n [] rfl rfl ⟨rfl, rfl, zA rfl rfl rfl (zA rfl rfl rfl (zA rfl rfl rfl (zA rfl rfl rfl (zA rfl rfl rfl (trivial))))), trivial, trivial⟩
                      · have ho25 := cF hg ho25
                        refine dv rfl rfl (fun _ => rfl) ?_
                        obtain ⟨x12, hx28, ho25⟩ := bi ho25
                        refine di rfl rfl rfl rfl rfl (fun _ => rfl) rfl (gi0 hx28) (giM c_ttokenToken hx28) (wM (fun _ => by rfl) _) ?_
                        refine dv rfl rfl (fun _ => rfl) ?_
                        refine dv rfl rfl (fun _ => rfl) ?_
                        refine dv rfl rfl (fun _ => rfl) ?_
                        refine dv rfl rfl (fun _ => rfl) ?_
                        obtain ⟨x13, hx29, ho25⟩ := bi ho25
                        refine di rfl rfl rfl rfl rfl (fun _ => rfl) rfl (gi0 hx29) (giM c_ttokenToken hx29) (wM (fun _ => by rfl) _) ?_
                        refine dv rfl rfl (fun _ => rfl) ?_
                        refine dv rfl rfl (fun _ => rfl) ?_
                        refine dv rfl rfl (fun _ => rfl) ?_
                        refine dt (sNe x12.S x13.S) ?_
                        refine dv rfl rfl (fun _ => rfl) ?_
                        refine dv rfl rfl (fun _ => rfl) ?_
                        refine ds rfl rfl (fun hg => ?_) (fun hg => ?_)
                        · have ho25 := cT hg ho25
                          refine dno rfl rfl ?_
                          refine dno rfl rfl ?_
                          refine dno rfl rfl ?_
                          refine dno rfl rfl ?_
                          refine dno rfl rfl ?_
                          refine dno rfl rfl ?_
                          refine dno rfl rfl ?_
                          refine dno rfl rfl ?_
                          refine dno rfl rfl ?_
                          refine dno rfl rfl ?_
                          refine dv rfl rfl (fun _ => rfl) ?_
                          refine dv rfl rfl (fun _ => rfl) ?_
                          refine dno rfl rfl ?_
                          refine dno rfl rfl ?_
                          refine dno rfl rfl ?_
                          refine dno rfl rfl ?_
                          refine dno rfl rfl ?_
                          refine dv rfl rfl (fun _ => rfl) ?_
                          refine dn ?_
                          refine rn ?_
                          cases ho25
                          exact cut_n [] rfl rfl ⟨rfl, rfl, zA rfl rfl rfl (zA rfl rfl rfl (zA rfl rfl rfl (zA rfl rfl rfl (zA rfl rfl rfl (trivial))))), trivial, trivial⟩
                        · have ho25 := cF hg ho25
                          refine dv rfl rfl (fun _ => rfl) ?_
                          obtain ⟨x14, hx30, ho25⟩ := bi ho25
                          refine di rfl rfl rfl rfl rfl (fun _ => rfl) rfl (gi0 hx30) (giM c_ttokenToken hx30) (wM (fun _ => by rfl) _) ?_
                          refine dv rfl rfl (fun _ => rfl) ?_
                          refine dv rfl rfl (fun _ => rfl) ?_
                          refine dv rfl rfl (fun _ => rfl) ?_
                          refine dv rfl rfl (fun _ => rfl) ?_
                          obtain ⟨x15, hx31, ho25⟩ := bi ho25
                          refine di rfl rfl rfl rfl rfl (fun _ => rfl) rfl (gi0 hx31) (giM c_ttokenToken hx31) (wM (fun _ => by rfl) _) ?_
                          refine dv rfl rfl (fun _ => rfl) ?_
                          refine dv rfl rfl (fun _ => rfl) ?_
                          refine dv rfl rfl (fun _ => rfl) ?_
                          refine dv rfl rfl (fun _ => rfl) ?_
                          refine dv rfl rfl (fun _ => rfl) ?_
                          refine ds rfl rfl (fun hg => ?_) (fun hg => ?_)
                          · have ho25 := cT hg ho25
                            refine dno rfl rfl ?_
                            refine dno rfl rfl ?_
                            refine dno rfl rfl ?_
                            refine dno rfl rfl ?_
                            refine dno rfl rfl ?_
                            refine dv rfl rfl (fun _ => rfl) ?_
                            refine dn ?_
                            refine rn ?_
                            cases ho25
                            exact cut_n [] rfl rfl ⟨rfl, rfl, zA rfl rfl rfl (zA rfl rfl rfl (zA rfl rfl rfl (zA rfl rfl rfl (zA rfl rfl rfl (trivial))))), trivial, trivial⟩
                          · have ho25 := cF hg ho25
                            refine dv rfl rfl (fun _ => rfl) ?_
                            obtain ⟨x16, hx32, ho25⟩ := bi ho25
                            refine di rfl rfl rfl rfl rfl (fun _ => rfl) rfl (gi0 hx32) (giM c_ttokenToken hx32) (wM (fun _ => by rfl) _) ?_
                            refine dv rfl rfl (fun _ => rfl) ?_
                            refine dv rfl rfl (fun _ => rfl) ?_
                            refine dv rfl rfl (fun _ => rfl) ?_
                            refine dv rfl rfl (fun _ => rfl) ?_
                            refine dn ?_
                            refine rn ?_
                            cases ho25
                            exact cut_n [] rfl rfl ⟨rfl, rfl, zA rfl rfl rfl (zA rfl rfl rfl (zA rfl rfl rfl (zA rfl rfl rfl (zA rfl rfl rfl (trivial))))), trivial, trivial⟩
                    · rintro x9 rfl
                      change awp _ _ _ _ _ ⟨_, _, _, _⟩
                      refine cs_ rfl (fun hc => ?_) (fun hc => ?_)
                      · have ho8 := cT hc ho8
                        refine awp_seq ?_
                        refine awp_region ?_
                        refine rv rfl rfl ?_
                        refine rn ?_
                        refine awp_ret ?_
                        cases ho8
                        have hq := hE9 _ rfl
                        subst hq
                        have h := ksr h
                        subst h
                        repeat (first | refine then_ret ?_ | refine inBlock_ret ?_ | refine cut_r ?_)
                        exact rr rfl rfl rfl
                      · have ho8 := cF hc ho8
                        refine awp_skip ?_
                        refine inBlock_normal ?_
                        refine awp_region ?_
                        refine rvs 3 rfl ?_
                        refine rn ?_
                        cases ho8
                        exact lp_n [] rfl rfl ⟨rfl, rfl, zA rfl rfl rfl (zA rfl rfl rfl (zA rfl rfl rfl (zA rfl rfl rfl (trivial)))), trivial, trivial⟩
        · have ho8 := cF hc ho8
          refine awp_exit ?_
          repeat (first | refine then_exit ?_ | refine cut_x ?_ | refine inBlock_other rfl ?_)
          refine inBlock_exit ?_
          cases ho8
          have hq := hE9 _ rfl
          subst hq
          exact cut_n [] rfl rfl ⟨rfl, rfl, zA rfl rfl rfl (trivial), trivial, trivial⟩
      · rintro _ rfl
        have h := ksl h
        refine awp_seq ?_
        refine awp_region ?_
        refine rvs 2 rfl ?_
        refine rn ?_
        refine awp_ret ?_
        cases h
        repeat (first | refine then_ret ?_ | refine inBlock_ret ?_ | refine cut_r ?_)
        exact rr rfl rfl rfl
end

end Go.Proofs.YtaekecbadkcggaaDoor
