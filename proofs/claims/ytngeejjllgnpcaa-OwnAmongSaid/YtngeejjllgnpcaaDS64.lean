/- Plain functions, and walks, printed by a program of this session's. -/
import Derived.Test.YtngeejjllgnpcaaPwE
import Derived.Test.YtngeejjllgnpcaaPvT
namespace Go.Proofs.Ytngeejjllgnpcaa
open Go.Pv
set_option maxRecDepth 100000
set_option maxHeartbeats 4000000
set_option linter.unusedSimpArgs false
set_option linter.unusedVariables false
set_option linter.unusedSectionVars false

/-- `cmp.isNaN[uint64]` -/
def dcmp_isNaN_uint64 (fu : Nat) (x1 : Int) : Option Bool :=
  some (x1 != x1)
section
attribute [local irreducible] awp aops DP PCall ACall Decidable.decide
theorem dcmp_isNaN_uint64_l {fu : Nat} {x1 : Int} {r : Bool} (h : dcmp_isNaN_uint64 fu x1 = some r) : PCall Try.prog 131 [.int .u64 x1] (· = .bool r) := by
  rw [dcmp_isNaN_uint64] at h
  refine pcall_body Try.func131 rfl (by kernel_rfl) (by rfl) ?_
  refine awp_seq ?_
  refine awp_region ?_
  refine rv rfl rfl ?_
  refine rn ?_
  refine awp_seq ?_
  refine awp_region ?_
  refine rvs 4 rfl ?_
  refine rn ?_
  refine awp_ret ?_
  cases h
  repeat (first | refine then_ret ?_ | refine inBlock_ret ?_ | refine cut_r ?_)
  exact rr rfl rfl rfl
end

/-- `cmp.Less[uint64]` -/
def dcmp_Less_uint64 (fu : Nat) (x1 : Int) (y1 : Int) : Option Bool :=
  (dcmp_isNaN_uint64 fu x1).bind fun x2 => bif x2 then ((dcmp_isNaN_uint64 fu y1).bind fun x3 => bif (!x3) then some true else some (decide (x1 < y1))) else some (decide (x1 < y1))
section
attribute [local irreducible] awp aops DP PCall ACall Decidable.decide
theorem dcmp_Less_uint64_l {fu : Nat} {x1 : Int} {y1 : Int} {r : Bool} (h : dcmp_Less_uint64 fu x1 y1 = some r) : PCall Try.prog 121 [.int .u64 x1, .int .u64 y1] (· = .bool r) := by
  rw [dcmp_Less_uint64] at h
  refine pcall_body Try.func121 rfl (by kernel_rfl) (by rfl) ?_
  refine awp_seq ?_
  refine awp_region ?_
  refine rv rfl rfl ?_
  refine rn ?_
  refine awp_seq ?_
  refine awp_region ?_
  refine rv rfl rfl ?_
  obtain ⟨x2, hx1, h⟩ := bi h
  refine rc1 rfl rfl rfl (dcmp_isNaN_uint64_l hx1) ?_
  refine rv rfl rfl ?_
  refine gs rfl rfl rfl rfl rfl (fun hg => ?_) (fun hg => ?_)
  · have h := cT hg h
    refine rv rfl rfl ?_
    refine gy rfl rfl rfl ?_
    obtain ⟨x3, hx2, h⟩ := bi h
    refine rc1 rfl rfl rfl (dcmp_isNaN_uint64_l hx2) ?_
    refine gy rfl rfl rfl ?_
    refine rv rfl rfl ?_
    refine rvs 2 rfl ?_
    refine gs rfl rfl rfl rfl rfl (fun hg => ?_) (fun hg => ?_)
    · have h := cF hg h
      refine rv rfl rfl ?_
      refine gy rfl rfl rfl ?_
      refine rv rfl rfl ?_
      refine gy rfl rfl rfl ?_
      refine rv rfl rfl ?_
      refine rvs 2 rfl ?_
      refine rn ?_
      refine awp_ret ?_
      cases h
      repeat (first | refine then_ret ?_ | refine inBlock_ret ?_ | refine cut_r ?_)
      exact rr rfl rfl rfl
    · have h := cT hg h
      refine gn rfl rfl rfl rfl rfl ?_
      refine gn rfl rfl rfl rfl rfl ?_
      refine rvs 2 rfl ?_
      refine rn ?_
      refine awp_ret ?_
      cases h
      repeat (first | refine then_ret ?_ | refine inBlock_ret ?_ | refine cut_r ?_)
      exact rr rfl rfl rfl
  · have h := cF hg h
    refine gn rfl rfl rfl rfl rfl ?_
    refine gn rfl rfl rfl rfl rfl ?_
    refine rvs 2 rfl ?_
    refine gy rfl rfl rfl ?_
    refine rv rfl rfl ?_
    refine gy rfl rfl rfl ?_
    refine rv rfl rfl ?_
    refine gy rfl rfl rfl ?_
    refine rv rfl rfl ?_
    refine rvs 2 rfl ?_
    refine rn ?_
    refine awp_ret ?_
    cases h
    repeat (first | refine then_ret ?_ | refine inBlock_ret ?_ | refine cut_r ?_)
    exact rr rfl rfl rfl
end

/-- `slices.insertionSortOrdered[uint64]` -/
def dslices_insertionSortOrdered_uint64 (fu : Nat) (data1 : List Int) (a1 : Int) (b1 : Int) : Option (List Int) :=
  (loopD (ε := Int × (List Int)) (τ := List Int) (fun (((i1, data2)) : Int × (List Int)) => (bif (decide (i1 < b1)) then ((loopD (ε := Int × (List Int)) (τ := List Int) (fun (((j1, data4)) : Int × (List Int)) => ((bif (decide (j1 > a1)) then ((gi data4 j1).bind fun x2 => (gi data4 (W (j1 - 1))).bind fun x3 => (dcmp_Less_uint64 fu x2 x3).bind fun x4 => some x4) else some false : Option Bool).bind fun (x1 : Bool) => (bif x1 then ((gi data4 (W (j1 - 1))).bind fun x8 => (gi data4 j1).bind fun x9 => (gi data4 j1).bind fun x10 => (sti data4 j1 x8).bind fun data7 => (gi data7 (W (j1 - 1))).bind fun x11 => (sti data7 (W (j1 - 1)) x9).bind fun data8 => some (Sum.inl (W (j1 - 1), data8))) else some (Sum.inr data4)))) fu (i1, data2)).bind fun (data6 : List Int) => some (Sum.inl (W (i1 + 1), data6))) else some (Sum.inr data2))) fu (W (a1 + 1), data1)).bind fun (l1 : List Int) => some l1
section
attribute [local irreducible] awp aops DP PCall ACall Decidable.decide
theorem dslices_insertionSortOrdered_uint64_l {fu : Nat} {data1 : List Int} {a1 : Int} {b1 : Int} {r : List Int} (h : dslices_insertionSortOrdered_uint64 fu data1 a1 b1 = some r) : ACall Try.prog 115 1 [.own 0, .int .i64 a1, .int .i64 b1] [] [(0, .wr 1 (data1.map (cI .u64)))] (fun r_ H_ O_ n_ => r_ = .tup [] ∧ H_ = [] ∧ O_ = [(0, .wr 1 (r.map (cI .u64)))] ∧ n_ = 1) := by
  rw [dslices_insertionSortOrdered_uint64] at h
  refine acall_body Try.func115 rfl (by kernel_rfl) (by rfl) ?_
  refine awp_seq ?_
  refine awp_region ?_
  refine rvs 3 rfl ?_
  refine rn ?_
  obtain ⟨e1, hl2, h⟩ := bi h
  refine awp_cut1 (fun x => x = e1) (fun (l1 : List Int) => ⟨[], [], [(0, .wr 1 (l1.map (cI .u64)))], 1⟩) ?_ ?_
  · refine awp_block ?_
    refine awp_loopD hl2 (fun (((i1, data2)) : Int × (List Int)) => ⟨[(0, .own 0), (1, .int .i64 a1), (2, .int .i64 b1), (6, .int .i64 i1)], [], [(0, .wr 1 (data2.map (cI .u64)))], 1⟩) [0] rfl ⟨rfl, rfl, zA rfl rfl rfl (zA rfl rfl rfl (zA rfl rfl rfl (zA rfl rfl rfl (trivial)))), trivial, zE rfl (.wr (lmM (fun _ => rfl) _)) rfl (trivial)⟩ ?_
    intro v o5 ho3 hE4
    obtain ⟨i1, data2⟩ := v
    change awp _ _ _ _ _ ⟨_, _, _, _⟩
    refine awp_seq ?_
    refine awp_seq ?_
    refine awp_region ?_
    refine rvs 3 rfl ?_
    refine rn ?_
    refine cs_ rfl (fun hc => ?_) (fun hc => ?_)
    · have ho3 := cT hc ho3
      refine awp_skip ?_
      refine awp_seq ?_
      refine awp_block ?_
      refine awp_seq ?_
      refine awp_region ?_
      refine rvs 2 rfl ?_
      refine rn ?_
      obtain ⟨e6, hl7, ho3⟩ := bi ho3
      refine awp_cut1 (fun x => x = e6) (fun (data6 : List Int) => ⟨[(0, .own 0), (1, .int .i64 a1), (2, .int .i64 b1), (6, .int .i64 i1)], [], [(0, .wr 1 (data6.map (cI .u64)))], 1⟩) ?_ ?_
      · refine awp_block ?_
        refine awp_loopD hl7 (fun (((j1, data4)) : Int × (List Int)) => ⟨[(0, .own 0), (1, .int .i64 a1), (2, .int .i64 b1), (6, .int .i64 i1), (7, .int .i64 j1)], [], [(0, .wr 1 (data4.map (cI .u64)))], 1⟩) [0] rfl ⟨rfl, rfl, zA rfl rfl rfl (zA rfl rfl rfl (zA rfl rfl rfl (zA rfl rfl rfl (zA rfl rfl rfl (trivial))))), trivial, zE rfl (.wr (lmM (fun _ => rfl) _)) rfl (trivial)⟩ ?_
        intro v o10 ho8 hE9
        obtain ⟨j1, data4⟩ := v
        change awp _ _ _ _ _ ⟨_, _, _, _⟩
        refine awp_seq ?_
        refine awp_seq ?_
        obtain ⟨o11, ho12, ho8⟩ := bi ho8
        refine awp_cut1 (fun x => x = o11) (fun (x1 : Bool) => ⟨[(0, .own 0), (1, .int .i64 a1), (2, .int .i64 b1), (6, .int .i64 i1), (7, .int .i64 j1), (30, .bool x1)], [], [(0, .wr 1 (data4.map (cI .u64)))], 1⟩) ?_ ?_
        · refine awp_dp (m := 15) Try.mix (by kernel_rfl) (by kernel_rfl) (by kernel_rfl) (by kernel_rfl) (by kernel_rfl) (by kernel_rfl) (by kernel_rfl) ?_
          refine dv rfl rfl (fun _ => rfl) ?_
          refine dv rfl rfl (fun _ => rfl) ?_
          refine dv rfl rfl (fun _ => rfl) ?_
          refine dv rfl rfl (fun _ => rfl) ?_
          refine ds rfl rfl (fun hg => ?_) (fun hg => ?_)
          · have ho12 := cT hg ho12
            refine dv rfl rfl (fun _ => rfl) ?_
            refine dv rfl rfl (fun _ => rfl) ?_
            obtain ⟨x2, hx13, ho12⟩ := bi ho12
            refine dV rfl rfl (fun _ => va_place rfl rfl rfl rfl rfl rfl rfl (gi0 hx13) (giLM (cI .u64) hx13)) ?_
            refine dV rfl rfl (fun _ => va_loadE rfl rfl rfl (giM (cI .u64) hx13) rfl rfl) ?_
            refine dv rfl rfl (fun _ => rfl) ?_
            refine dv rfl rfl (fun _ => rfl) ?_
            refine dv rfl rfl (fun _ => rfl) ?_
            obtain ⟨x3, hx14, ho12⟩ := bi ho12
            refine dV rfl rfl (fun _ => va_place rfl rfl rfl rfl rfl rfl rfl (gi0 hx14) (giLM (cI .u64) hx14)) ?_
            refine dV rfl rfl (fun _ => va_loadE rfl rfl rfl (giM (cI .u64) hx14) rfl rfl) ?_
            obtain ⟨x4, hx15, ho12⟩ := bi ho12
            refine dc rfl rfl rfl rfl (fun _ => rfl) (fun _ => (dcmp_Less_uint64_l hx15)) ?_
            refine dv rfl rfl (fun _ => rfl) ?_
            refine dn ?_
            refine rn ?_
            cases ho12
            exact cut_n [0] rfl rfl ⟨rfl, rfl, zA rfl rfl rfl (zA rfl rfl rfl (zA rfl rfl rfl (zA rfl rfl rfl (zA rfl rfl rfl (zA rfl rfl rfl (trivial)))))), trivial, zE rfl (.wr (lmM (fun _ => rfl) _)) rfl (trivial)⟩
          · have ho12 := cF hg ho12
            refine dno rfl rfl ?_
            refine dno rfl rfl ?_
            refine dno rfl rfl ?_
            refine dno rfl rfl ?_
            refine dno rfl rfl ?_
            refine dno rfl rfl ?_
            refine dno rfl rfl ?_
            refine dno rfl rfl ?_
            refine dno rfl rfl ?_
            refine dno rfl rfl ?_
            refine dv rfl rfl (fun _ => rfl) ?_
            refine dn ?_
            refine rn ?_
            cases ho12
            exact cut_n [0] rfl rfl ⟨rfl, rfl, zA rfl rfl rfl (zA rfl rfl rfl (zA rfl rfl rfl (zA rfl rfl rfl (zA rfl rfl rfl (zA rfl rfl rfl (trivial)))))), trivial, zE rfl (.wr (lmM (fun _ => rfl) _)) rfl (trivial)⟩
        · rintro x1 rfl
          change awp _ _ _ _ _ ⟨_, _, _, _⟩
          refine cs_ rfl (fun hc => ?_) (fun hc => ?_)
          · have ho8 := cT hc ho8
            refine awp_skip ?_
            refine awp_seq ?_
            refine awp_block ?_
            refine awp_dx (m := 17) [[12, 13, 15]] Try.mix (by kernel_rfl) (by kernel_rfl) (by kernel_rfl) (by kernel_rfl) (by kernel_rfl) (by kernel_rfl) ?_
            refine xv [] rfl rfl (fun _ => rfl) ?_
            refine xv [] rfl rfl (fun _ => rfl) ?_
            refine xv [] rfl rfl (fun _ => rfl) ?_
            refine xv [] rfl rfl (fun _ => rfl) ?_
            refine xv [] rfl rfl (fun _ => rfl) ?_
            refine xv [] rfl rfl (fun _ => rfl) ?_
            refine xv [] rfl rfl (fun _ => rfl) ?_
            refine xv [] rfl rfl (fun _ => rfl) ?_
            obtain ⟨x8, hx19, ho8⟩ := bi ho8
            refine xV [0] rfl rfl (fun _ => va_place rfl rfl rfl rfl rfl rfl rfl (gi0 hx19) (giLM (cI .u64) hx19)) ?_
            refine xV [0] rfl rfl (fun _ => va_loadE rfl rfl rfl (giM (cI .u64) hx19) rfl rfl) ?_
            refine xv [] rfl rfl (fun _ => rfl) ?_
            refine xv [] rfl rfl (fun _ => rfl) ?_
            obtain ⟨x9, hx20, ho8⟩ := bi ho8
            refine xV [0] rfl rfl (fun _ => va_place rfl rfl rfl rfl rfl rfl rfl (gi0 hx20) (giLM (cI .u64) hx20)) ?_
            refine xV [0] rfl rfl (fun _ => va_loadE rfl rfl rfl (giM (cI .u64) hx20) rfl rfl) ?_
            obtain ⟨x10, hx21, ho8⟩ := bi ho8
            refine xV [0] rfl rfl (fun _ => va_place rfl rfl rfl rfl rfl rfl rfl (gi0 hx21) (giLM (cI .u64) hx21)) ?_
            obtain ⟨data7, hx22, ho8⟩ := bi ho8
            obtain ⟨o1, ho23⟩ := stG hx22
            refine xW [0] .any 1 _ _ rfl rfl (by
                refine rse rfl rfl rfl (giM (cI .u64) ho23) rfl rfl rfl rfl rfl ?_
                refine rk (congrArg (Kind.wr _) (stM (cI .u64) hx22)) ?_
                exact rn ⟨rfl, rfl⟩) (by rfl) (by rfl) (by repeat (first | exact oi0 | refine oi1 (by first | exact trivial | exact ki_wr (lmM (fun _ => rfl) _)) ?_)) (by rfl) (by rfl) ?_
            obtain ⟨x11, hx24, ho8⟩ := bi ho8
            refine xV [0] rfl rfl (fun _ => va_place rfl rfl rfl rfl rfl rfl rfl (gi0 hx24) (giLM (cI .u64) hx24)) ?_
            refine xn (by kernel_rfl) ?_
            obtain ⟨data8, hx25, ho8⟩ := bi ho8
            obtain ⟨o2, ho26⟩ := stG hx25
            refine rse rfl rfl rfl (giM (cI .u64) ho26) rfl rfl rfl rfl rfl ?_
            refine rk (congrArg (Kind.wr _) (stM (cI .u64) hx25)) ?_
            refine rn ?_
            refine inBlock_normal ?_
            refine awp_region ?_
            refine rvs 3 rfl ?_
            refine rn ?_
            cases ho8
            exact lp_n [0] rfl rfl ⟨rfl, rfl, zA rfl rfl rfl (zA rfl rfl rfl (zA rfl rfl rfl (zA rfl rfl rfl (zA rfl rfl rfl (trivial))))), trivial, zE rfl (.wr (lmM (fun _ => rfl) _)) rfl (trivial)⟩
          · have ho8 := cF hc ho8
            refine awp_exit ?_
            repeat (first | refine then_exit ?_ | refine cut_x ?_ | refine inBlock_other rfl ?_)
            refine inBlock_exit ?_
            cases ho8
            have hq := hE9 _ rfl
            subst hq
            exact cut_n [0] rfl rfl ⟨rfl, rfl, zA rfl rfl rfl (zA rfl rfl rfl (zA rfl rfl rfl (zA rfl rfl rfl (trivial)))), trivial, zE rfl (.wr (lmM (fun _ => rfl) _)) rfl (trivial)⟩
      · rintro data6 rfl
        change awp _ _ _ _ _ ⟨_, _, _, _⟩
        refine awp_region ?_
        refine rvs 3 rfl ?_
        refine rn ?_
        cases ho3
        exact lp_n [0] rfl rfl ⟨rfl, rfl, zA rfl rfl rfl (zA rfl rfl rfl (zA rfl rfl rfl (zA rfl rfl rfl (trivial)))), trivial, zE rfl (.wr (lmM (fun _ => rfl) _)) rfl (trivial)⟩
    · have ho3 := cF hc ho3
      refine awp_exit ?_
      repeat (first | refine then_exit ?_ | refine cut_x ?_ | refine inBlock_other rfl ?_)
      refine inBlock_exit ?_
      cases ho3
      have hq := hE4 _ rfl
      subst hq
      exact cut_n [0] rfl rfl ⟨rfl, rfl, trivial, trivial, zE rfl (.wr (lmM (fun _ => rfl) _)) rfl (trivial)⟩
  · rintro l1 rfl
    have h := Option.some.inj h
    subst h
    exact rrA' (r := .tup []) [0] [] [(0, .wr 1 (l1.map (cI .u64)))] rfl rfl rfl rfl (trivial) (zE rfl (.wr (lmM (fun _ => rfl) _)) rfl (trivial)) ⟨rfl, rfl, rfl, rfl⟩
end

/-- `slices.siftDownOrdered[uint64]` -/
def dslices_siftDownOrdered_uint64 (fu : Nat) (data1 : List Int) (lo1 : Int) (hi1 : Int) (first1 : Int) : Option (List Int) :=
  (loopD (ε := Int × (List Int)) (τ := (List Int) ⊕ (List Int)) (fun (((root1, data2)) : Int × (List Int)) => ((some (W ((W (2 * root1)) + 1))).bind fun child1 => bif (decide (child1 ≥ hi1)) then some (Sum.inr (Sum.inl data2)) else ((bif (decide ((W (child1 + 1)) < hi1)) then ((gi data2 (W (first1 + child1))).bind fun x2 => (gi data2 (W ((W (first1 + child1)) + 1))).bind fun x3 => (dcmp_Less_uint64 fu x2 x3).bind fun x4 => some x4) else some false : Option Bool).bind fun (x1 : Bool) => ((bif x1 then some (W (child1 + 1)) else some child1 : Option Int).bind fun (child2 : Int) => ((gi data2 (W (first1 + root1))).bind fun x5 => (gi data2 (W (first1 + child2))).bind fun x6 => (dcmp_Less_uint64 fu x5 x6).bind fun x7 => bif (!x7) then some (Sum.inr (Sum.inr data2)) else ((gi data2 (W (first1 + child2))).bind fun x11 => (gi data2 (W (first1 + root1))).bind fun x12 => (gi data2 (W (first1 + root1))).bind fun x13 => (sti data2 (W (first1 + root1)) x11).bind fun data4 => (gi data4 (W (first1 + child2))).bind fun x14 => (sti data4 (W (first1 + child2)) x12).bind fun data5 => some (Sum.inl (child2, data5)))))))) fu (lo1, data1)).bind fun o => kS o fun (l1 : List Int) => some l1
section
attribute [local irreducible] awp aops DP PCall ACall Decidable.decide
theorem dslices_siftDownOrdered_uint64_l {fu : Nat} {data1 : List Int} {lo1 : Int} {hi1 : Int} {first1 : Int} {r : List Int} (h : dslices_siftDownOrdered_uint64 fu data1 lo1 hi1 first1 = some r) : ACall Try.prog 126 1 [.own 0, .int .i64 lo1, .int .i64 hi1, .int .i64 first1] [] [(0, .wr 1 (data1.map (cI .u64)))] (fun r_ H_ O_ n_ => r_ = .tup [] ∧ H_ = [] ∧ O_ = [(0, .wr 1 (r.map (cI .u64)))] ∧ n_ = 1) := by
  rw [dslices_siftDownOrdered_uint64] at h
  refine acall_body Try.func126 rfl (by kernel_rfl) (by rfl) ?_
  refine awp_seq ?_
  refine awp_region ?_
  refine rvs 2 rfl ?_
  refine rn ?_
  obtain ⟨e1, hl2, h⟩ := bi h
  refine awp_cut1 (fun x => Sum.inl x = e1) (fun (l1 : List Int) => ⟨[], [], [(0, .wr 1 (l1.map (cI .u64)))], 1⟩) ?_ ?_
  · refine awp_block ?_
    refine awp_loopD hl2 (fun (((root1, data2)) : Int × (List Int)) => ⟨[(0, .own 0), (2, .int .i64 hi1), (3, .int .i64 first1), (8, .int .i64 root1)], [], [(0, .wr 1 (data2.map (cI .u64)))], 1⟩) [0] rfl ⟨rfl, rfl, zA rfl rfl rfl (zA rfl rfl rfl (zA rfl rfl rfl (zA rfl rfl rfl (trivial)))), trivial, zE rfl (.wr (lmM (fun _ => rfl) _)) rfl (trivial)⟩ ?_
    intro v o5 ho3 hE4
    obtain ⟨root1, data2⟩ := v
    change awp _ _ _ _ _ ⟨_, _, _, _⟩
    refine awp_block ?_
    refine awp_seq ?_
    refine awp_region ?_
    refine rvs 4 rfl ?_
    obtain ⟨child1, hx6, ho3⟩ := bs ho3
    refine rt (ei' hx6) ?_
    refine rn ?_
    refine awp_seq ?_
    refine awp_seq ?_
    refine awp_region ?_
    refine rvs 3 rfl ?_
    refine rn ?_
    refine cs_ rfl (fun hc => ?_) (fun hc => ?_)
    · have ho3 := cT hc ho3
      refine awp_exit ?_
      repeat (first | refine then_exit ?_ | refine cut_x ?_ | refine inBlock_other rfl ?_)
      refine inBlock_exit ?_
      cases ho3
      have hq := hE4 _ rfl
      subst hq
      exact cut_n [0] rfl rfl ⟨rfl, rfl, trivial, trivial, zE rfl (.wr (lmM (fun _ => rfl) _)) rfl (trivial)⟩
    · have ho3 := cF hc ho3
      refine awp_skip ?_
      refine awp_seq ?_
      refine awp_seq ?_
      obtain ⟨o7, ho8, ho3⟩ := bi ho3
      refine awp_cut1 (fun x => x = o7) (fun (x1 : Bool) => ⟨[(0, .own 0), (2, .int .i64 hi1), (3, .int .i64 first1), (8, .int .i64 root1), (9, .int .i64 child1), (36, .bool x1)], [], [(0, .wr 1 (data2.map (cI .u64)))], 1⟩) ?_ ?_
      · refine awp_dp (m := 20) Try.mix (by kernel_rfl) (by kernel_rfl) (by kernel_rfl) (by kernel_rfl) (by kernel_rfl) (by kernel_rfl) (by kernel_rfl) ?_
        refine dv rfl rfl (fun _ => rfl) ?_
        refine dv rfl rfl (fun _ => rfl) ?_
        refine dv rfl rfl (fun _ => rfl) ?_
        refine dv rfl rfl (fun _ => rfl) ?_
        refine dv rfl rfl (fun _ => rfl) ?_
        refine ds rfl rfl (fun hg => ?_) (fun hg => ?_)
        · have ho8 := cT hg ho8
          refine dv rfl rfl (fun _ => rfl) ?_
          refine dv rfl rfl (fun _ => rfl) ?_
          refine dv rfl rfl (fun _ => rfl) ?_
          refine dv rfl rfl (fun _ => rfl) ?_
          obtain ⟨x2, hx9, ho8⟩ := bi ho8
          refine dV rfl rfl (fun _ => va_place rfl rfl rfl rfl rfl rfl rfl (gi0 hx9) (giLM (cI .u64) hx9)) ?_
          refine dV rfl rfl (fun _ => va_loadE rfl rfl rfl (giM (cI .u64) hx9) rfl rfl) ?_
          refine dv rfl rfl (fun _ => rfl) ?_
          refine dv rfl rfl (fun _ => rfl) ?_
          refine dv rfl rfl (fun _ => rfl) ?_
          refine dv rfl rfl (fun _ => rfl) ?_
          refine dv rfl rfl (fun _ => rfl) ?_
          obtain ⟨x3, hx10, ho8⟩ := bi ho8
          refine dV rfl rfl (fun _ => va_place rfl rfl rfl rfl rfl rfl rfl (gi0 hx10) (giLM (cI .u64) hx10)) ?_
          refine dV rfl rfl (fun _ => va_loadE rfl rfl rfl (giM (cI .u64) hx10) rfl rfl) ?_
          obtain ⟨x4, hx11, ho8⟩ := bi ho8
          refine dc rfl rfl rfl rfl (fun _ => rfl) (fun _ => (dcmp_Less_uint64_l hx11)) ?_
          refine dv rfl rfl (fun _ => rfl) ?_
          refine dn ?_
          refine rn ?_
          cases ho8
          exact cut_n [0] rfl rfl ⟨rfl, rfl, zA rfl rfl rfl (zA rfl rfl rfl (zA rfl rfl rfl (zA rfl rfl rfl (zA rfl rfl rfl (zA rfl rfl rfl (trivial)))))), trivial, zE rfl (.wr (lmM (fun _ => rfl) _)) rfl (trivial)⟩
        · have ho8 := cF hg ho8
          refine dno rfl rfl ?_
          refine dno rfl rfl ?_
          refine dno rfl rfl ?_
          refine dno rfl rfl ?_
          refine dno rfl rfl ?_
          refine dno rfl rfl ?_
          refine dno rfl rfl ?_
          refine dno rfl rfl ?_
          refine dno rfl rfl ?_
          refine dno rfl rfl ?_
          refine dno rfl rfl ?_
          refine dno rfl rfl ?_
          refine dno rfl rfl ?_
          refine dno rfl rfl ?_
          refine dv rfl rfl (fun _ => rfl) ?_
          refine dn ?_
          refine rn ?_
          cases ho8
          exact cut_n [0] rfl rfl ⟨rfl, rfl, zA rfl rfl rfl (zA rfl rfl rfl (zA rfl rfl rfl (zA rfl rfl rfl (zA rfl rfl rfl (zA rfl rfl rfl (trivial)))))), trivial, zE rfl (.wr (lmM (fun _ => rfl) _)) rfl (trivial)⟩
      · rintro x1 rfl
        change awp _ _ _ _ _ ⟨_, _, _, _⟩
        obtain ⟨o12, ho13, ho3⟩ := bi ho3
        refine awp_cut1 (fun x => x = o12) (fun (child2 : Int) => ⟨[(0, .own 0), (2, .int .i64 hi1), (3, .int .i64 first1), (8, .int .i64 root1), (9, .int .i64 child2)], [], [(0, .wr 1 (data2.map (cI .u64)))], 1⟩) ?_ ?_
        · refine cs_ rfl (fun hc => ?_) (fun hc => ?_)
          · have ho13 := cT hc ho13
            refine awp_region ?_
            refine rvs 3 rfl ?_
            refine rn ?_
            cases ho13
            exact cut_n [0] rfl rfl ⟨rfl, rfl, zA rfl rfl rfl (zA rfl rfl rfl (zA rfl rfl rfl (zA rfl rfl rfl (zA rfl rfl rfl (trivial))))), trivial, zE rfl (.wr (lmM (fun _ => rfl) _)) rfl (trivial)⟩
          · have ho13 := cF hc ho13
            refine awp_skip ?_
            cases ho13
            exact cut_n [0] rfl rfl ⟨rfl, rfl, zA rfl rfl rfl (zA rfl rfl rfl (zA rfl rfl rfl (zA rfl rfl rfl (zA rfl rfl rfl (trivial))))), trivial, zE rfl (.wr (lmM (fun _ => rfl) _)) rfl (trivial)⟩
        · rintro child2 rfl
          change awp _ _ _ _ _ ⟨_, _, _, _⟩
          refine awp_seq ?_
          refine awp_seq ?_
          refine awp_dp (m := 14) Try.mix (by kernel_rfl) (by kernel_rfl) (by kernel_rfl) (by kernel_rfl) (by kernel_rfl) (by kernel_rfl) (by kernel_rfl) ?_
          refine dv rfl rfl (fun _ => rfl) ?_
          refine dv rfl rfl (fun _ => rfl) ?_
          refine dv rfl rfl (fun _ => rfl) ?_
          refine dv rfl rfl (fun _ => rfl) ?_
          obtain ⟨x5, hx14, ho3⟩ := bi ho3
          refine dV rfl rfl (fun _ => va_place rfl rfl rfl rfl rfl rfl rfl (gi0 hx14) (giLM (cI .u64) hx14)) ?_
          refine dV rfl rfl (fun _ => va_loadE rfl rfl rfl (giM (cI .u64) hx14) rfl rfl) ?_
          refine dv rfl rfl (fun _ => rfl) ?_
          refine dv rfl rfl (fun _ => rfl) ?_
          refine dv rfl rfl (fun _ => rfl) ?_
          refine dv rfl rfl (fun _ => rfl) ?_
          obtain ⟨x6, hx15, ho3⟩ := bi ho3
          refine dV rfl rfl (fun _ => va_place rfl rfl rfl rfl rfl rfl rfl (gi0 hx15) (giLM (cI .u64) hx15)) ?_
          refine dV rfl rfl (fun _ => va_loadE rfl rfl rfl (giM (cI .u64) hx15) rfl rfl) ?_
          obtain ⟨x7, hx16, ho3⟩ := bi ho3
          refine dc rfl rfl rfl rfl (fun _ => rfl) (fun _ => (dcmp_Less_uint64_l hx16)) ?_
          refine dv rfl rfl (fun _ => rfl) ?_
          refine dn ?_
          refine rn ?_
          refine cs_ rfl (fun hc => ?_) (fun hc => ?_)
          · have ho3 := cT hc ho3
            refine awp_ret ?_
            cases ho3
            have hq := hE4 _ rfl
            subst hq
            have h := ksr h
            subst h
            repeat (first | refine then_ret ?_ | refine inBlock_ret ?_ | refine cut_r ?_)
            exact rrA (r := .tup []) [0] [] [(0, .wr 1 (data2.map (cI .u64)))] rfl rfl rfl rfl (trivial) (zE rfl (.wr (lmM (fun _ => rfl) _)) rfl (trivial)) ⟨rfl, rfl, rfl, rfl⟩
          · have ho3 := cF hc ho3
            refine awp_skip ?_
            refine awp_seq ?_
            refine awp_dx (m := 23) [[18, 19, 21]] Try.mix (by kernel_rfl) (by kernel_rfl) (by kernel_rfl) (by kernel_rfl) (by kernel_rfl) (by kernel_rfl) ?_
            refine xv [] rfl rfl (fun _ => rfl) ?_
            refine xv [] rfl rfl (fun _ => rfl) ?_
            refine xv [] rfl rfl (fun _ => rfl) ?_
            refine xv [] rfl rfl (fun _ => rfl) ?_
            refine xv [] rfl rfl (fun _ => rfl) ?_
            refine xv [] rfl rfl (fun _ => rfl) ?_
            refine xv [] rfl rfl (fun _ => rfl) ?_
            refine xv [] rfl rfl (fun _ => rfl) ?_
            refine xv [] rfl rfl (fun _ => rfl) ?_
            refine xv [] rfl rfl (fun _ => rfl) ?_
            refine xv [] rfl rfl (fun _ => rfl) ?_
            refine xv [] rfl rfl (fun _ => rfl) ?_
            obtain ⟨x11, hx20, ho3⟩ := bi ho3
            refine xV [0] rfl rfl (fun _ => va_place rfl rfl rfl rfl rfl rfl rfl (gi0 hx20) (giLM (cI .u64) hx20)) ?_
            refine xV [0] rfl rfl (fun _ => va_loadE rfl rfl rfl (giM (cI .u64) hx20) rfl rfl) ?_
            refine xv [] rfl rfl (fun _ => rfl) ?_
            refine xv [] rfl rfl (fun _ => rfl) ?_
            refine xv [] rfl rfl (fun _ => rfl) ?_
            refine xv [] rfl rfl (fun _ => rfl) ?_
            obtain ⟨x12, hx21, ho3⟩ := bi ho3
            refine xV [0] rfl rfl (fun _ => va_place rfl rfl rfl rfl rfl rfl rfl (gi0 hx21) (giLM (cI .u64) hx21)) ?_
            refine xV [0] rfl rfl (fun _ => va_loadE rfl rfl rfl (giM (cI .u64) hx21) rfl rfl) ?_
            obtain ⟨x13, hx22, ho3⟩ := bi ho3
            refine xV [0] rfl rfl (fun _ => va_place rfl rfl rfl rfl rfl rfl rfl (gi0 hx22) (giLM (cI .u64) hx22)) ?_
            obtain ⟨data4, hx23, ho3⟩ := bi ho3
            obtain ⟨o1, ho24⟩ := stG hx23
            refine xW [0] .any 1 _ _ rfl rfl (by
                refine rse rfl rfl rfl (giM (cI .u64) ho24) rfl rfl rfl rfl rfl ?_
                refine rk (congrArg (Kind.wr _) (stM (cI .u64) hx23)) ?_
                exact rn ⟨rfl, rfl⟩) (by rfl) (by rfl) (by repeat (first | exact oi0 | refine oi1 (by first | exact trivial | exact ki_wr (lmM (fun _ => rfl) _)) ?_)) (by rfl) (by rfl) ?_
            obtain ⟨x14, hx25, ho3⟩ := bi ho3
            refine xV [0] rfl rfl (fun _ => va_place rfl rfl rfl rfl rfl rfl rfl (gi0 hx25) (giLM (cI .u64) hx25)) ?_
            refine xn (by kernel_rfl) ?_
            obtain ⟨data5, hx26, ho3⟩ := bi ho3
            obtain ⟨o2, ho27⟩ := stG hx26
            refine rse rfl rfl rfl (giM (cI .u64) ho27) rfl rfl rfl rfl rfl ?_
            refine rk (congrArg (Kind.wr _) (stM (cI .u64) hx26)) ?_
            refine rn ?_
            refine awp_region ?_
            refine rvs 2 rfl ?_
            refine rn ?_
            refine inBlock_normal ?_
            cases ho3
            exact lp_n [0] rfl rfl ⟨rfl, rfl, zA rfl rfl rfl (zA rfl rfl rfl (zA rfl rfl rfl (zA rfl rfl rfl (trivial)))), trivial, zE rfl (.wr (lmM (fun _ => rfl) _)) rfl (trivial)⟩
  · rintro l1 rfl
    have h := ksl h
    have h := Option.some.inj h
    subst h
    exact rrA' (r := .tup []) [0] [] [(0, .wr 1 (l1.map (cI .u64)))] rfl rfl rfl rfl (trivial) (zE rfl (.wr (lmM (fun _ => rfl) _)) rfl (trivial)) ⟨rfl, rfl, rfl, rfl⟩
end

/-- `slices.heapSortOrdered[uint64]` -/
def dslices_heapSortOrdered_uint64 (fu : Nat) (data1 : List Int) (a1 : Int) (b1 : Int) : Option (List Int) :=
  (quoV .i64 (W ((W (b1 - a1)) - 1)) 2).bind fun q1 => (loopD (ε := Int × (List Int)) (τ := List Int) (fun (((i1, data2)) : Int × (List Int)) => (bif (decide (i1 ≥ 0)) then ((dslices_siftDownOrdered_uint64 fu data2 i1 (W (b1 - a1)) a1).bind fun x1 => some (Sum.inl (W (i1 - 1), x1))) else some (Sum.inr data2))) fu (q1, data1)).bind fun (data4 : List Int) => ((some (W ((W (b1 - a1)) - 1))).bind fun i3 => (loopD (ε := Int × (List Int)) (τ := List Int) (fun (((i4, data5)) : Int × (List Int)) => (bif (decide (i4 ≥ 0)) then ((gi data5 (W (a1 + i4))).bind fun x5 => (gi data5 a1).bind fun x6 => (gi data5 a1).bind fun x7 => (sti data5 a1 x5).bind fun data7 => (gi data7 (W (a1 + i4))).bind fun x8 => (sti data7 (W (a1 + i4)) x6).bind fun data8 => (dslices_siftDownOrdered_uint64 fu data8 0 i4 a1).bind fun x9 => some (Sum.inl (W (i4 - 1), x9))) else some (Sum.inr data5))) fu (i3, data4)).bind fun (l1 : List Int) => some l1)
section
attribute [local irreducible] awp aops DP PCall ACall Decidable.decide
theorem dslices_heapSortOrdered_uint64_l {fu : Nat} {data1 : List Int} {a1 : Int} {b1 : Int} {r : List Int} (h : dslices_heapSortOrdered_uint64 fu data1 a1 b1 = some r) : ACall Try.prog 116 1 [.own 0, .int .i64 a1, .int .i64 b1] [] [(0, .wr 1 (data1.map (cI .u64)))] (fun r_ H_ O_ n_ => r_ = .tup [] ∧ H_ = [] ∧ O_ = [(0, .wr 1 (r.map (cI .u64)))] ∧ n_ = 1) := by
  rw [dslices_heapSortOrdered_uint64] at h
  refine acall_body Try.func116 rfl (by kernel_rfl) (by rfl) ?_
  refine awp_seq ?_
  refine awp_region ?_
  refine rvs 2 rfl ?_
  refine rn ?_
  refine awp_seq ?_
  refine awp_region ?_
  refine rv rfl rfl ?_
  refine rn ?_
  refine awp_seq ?_
  refine awp_region ?_
  refine rvs 4 rfl ?_
  refine rn ?_
  refine awp_seq ?_
  refine awp_seq ?_
  refine awp_region ?_
  refine rvs 2 rfl ?_
  obtain ⟨q1, hx1, h⟩ := bi h
  refine rV rfl (va_quo rfl rfl hx1) ?_
  refine rv rfl rfl ?_
  refine rn ?_
  obtain ⟨e2, hl3, h⟩ := bi h
  refine awp_cut1 (fun x => x = e2) (fun (data4 : List Int) => ⟨[(0, .own 0), (6, .int .i64 a1), (7, .int .i64 0), (8, .int .i64 (W (b1 - a1)))], [], [(0, .wr 1 (data4.map (cI .u64)))], 1⟩) ?_ ?_
  · refine awp_block ?_
    refine awp_loopD hl3 (fun (((i1, data2)) : Int × (List Int)) => ⟨[(0, .own 0), (6, .int .i64 a1), (7, .int .i64 0), (8, .int .i64 (W (b1 - a1))), (9, .int .i64 i1)], [], [(0, .wr 1 (data2.map (cI .u64)))], 1⟩) [0] rfl ⟨rfl, rfl, zA rfl rfl rfl (zA rfl rfl rfl (zA rfl rfl rfl (zA rfl rfl rfl (zA rfl rfl rfl (trivial))))), trivial, zE rfl (.wr (lmM (fun _ => rfl) _)) rfl (trivial)⟩ ?_
    intro v o6 ho4 hE5
    obtain ⟨i1, data2⟩ := v
    change awp _ _ _ _ _ ⟨_, _, _, _⟩
    refine awp_seq ?_
    refine awp_seq ?_
    refine awp_region ?_
    refine rvs 2 rfl ?_
    refine rn ?_
    refine cs_ rfl (fun hc => ?_) (fun hc => ?_)
    · have ho4 := cT hc ho4
      refine awp_skip ?_
      refine awp_seq ?_
      refine awp_block ?_
      refine awp_region ?_
      refine rvs 4 rfl ?_
      obtain ⟨x1, hx7, ho4⟩ := bi ho4
      refine rh [0] rfl rfl (dslices_siftDownOrdered_uint64_l hx7) rfl rfl rfl (trivial) (zE rfl (.wr (lmM (fun _ => rfl) _)) rfl (trivial)) ?_
      refine ek ?_
      refine as1 rfl ?_
      refine ae rfl rfl rfl ?_
      refine rkO (wO (fun _ => rfl) (rfl)) ?_
      refine rn ?_
      refine inBlock_normal ?_
      refine awp_region ?_
      refine rvs 3 rfl ?_
      refine rn ?_
      cases ho4
      exact lp_n [0] rfl rfl ⟨rfl, rfl, zA rfl rfl rfl (zA rfl rfl rfl (zA rfl rfl rfl (zA rfl rfl rfl (zA rfl rfl rfl (trivial))))), trivial, zE rfl (.wr (lmM (fun _ => rfl) _)) rfl (trivial)⟩
    · have ho4 := cF hc ho4
      refine awp_exit ?_
      repeat (first | refine then_exit ?_ | refine cut_x ?_ | refine inBlock_other rfl ?_)
      refine inBlock_exit ?_
      cases ho4
      have hq := hE5 _ rfl
      subst hq
      exact cut_n [0] rfl rfl ⟨rfl, rfl, zA rfl rfl rfl (zA rfl rfl rfl (zA rfl rfl rfl (zA rfl rfl rfl (trivial)))), trivial, zE rfl (.wr (lmM (fun _ => rfl) _)) rfl (trivial)⟩
  · rintro data4 rfl
    change awp _ _ _ _ _ ⟨_, _, _, _⟩
    refine awp_seq ?_
    refine awp_region ?_
    refine rvs 3 rfl ?_
    obtain ⟨i3, hx8, h⟩ := bs h
    refine rt (ei' hx8) ?_
    refine rn ?_
    obtain ⟨e9, hl10, h⟩ := bi h
    refine awp_cut1 (fun x => x = e9) (fun (l1 : List Int) => ⟨[], [], [(0, .wr 1 (l1.map (cI .u64)))], 1⟩) ?_ ?_
    · refine awp_block ?_
      refine awp_loopD hl10 (fun (((i4, data5)) : Int × (List Int)) => ⟨[(0, .own 0), (6, .int .i64 a1), (7, .int .i64 0), (10, .int .i64 i4)], [], [(0, .wr 1 (data5.map (cI .u64)))], 1⟩) [0] rfl ⟨rfl, rfl, zA rfl rfl rfl (zA rfl rfl rfl (zA rfl rfl rfl (zA rfl rfl rfl (trivial)))), trivial, zE rfl (.wr (lmM (fun _ => rfl) _)) rfl (trivial)⟩ ?_
      intro v o13 ho11 hE12
      obtain ⟨i4, data5⟩ := v
      change awp _ _ _ _ _ ⟨_, _, _, _⟩
      refine awp_seq ?_
      refine awp_seq ?_
      refine awp_region ?_
      refine rvs 2 rfl ?_
      refine rn ?_
      refine cs_ rfl (fun hc => ?_) (fun hc => ?_)
      · have ho11 := cT hc ho11
        refine awp_skip ?_
        refine awp_seq ?_
        refine awp_block ?_
        refine awp_seq ?_
        refine awp_dx (m := 19) [[14, 15, 17]] Try.mix (by kernel_rfl) (by kernel_rfl) (by kernel_rfl) (by kernel_rfl) (by kernel_rfl) (by kernel_rfl) ?_
        refine xv [] rfl rfl (fun _ => rfl) ?_
        refine xv [] rfl rfl (fun _ => rfl) ?_
        refine xv [] rfl rfl (fun _ => rfl) ?_
        refine xv [] rfl rfl (fun _ => rfl) ?_
        refine xv [] rfl rfl (fun _ => rfl) ?_
        refine xv [] rfl rfl (fun _ => rfl) ?_
        refine xv [] rfl rfl (fun _ => rfl) ?_
        refine xv [] rfl rfl (fun _ => rfl) ?_
        refine xv [] rfl rfl (fun _ => rfl) ?_
        refine xv [] rfl rfl (fun _ => rfl) ?_
        obtain ⟨x5, hx17, ho11⟩ := bi ho11
        refine xV [0] rfl rfl (fun _ => va_place rfl rfl rfl rfl rfl rfl rfl (gi0 hx17) (giLM (cI .u64) hx17)) ?_
        refine xV [0] rfl rfl (fun _ => va_loadE rfl rfl rfl (giM (cI .u64) hx17) rfl rfl) ?_
        refine xv [] rfl rfl (fun _ => rfl) ?_
        refine xv [] rfl rfl (fun _ => rfl) ?_
        obtain ⟨x6, hx18, ho11⟩ := bi ho11
        refine xV [0] rfl rfl (fun _ => va_place rfl rfl rfl rfl rfl rfl rfl (gi0 hx18) (giLM (cI .u64) hx18)) ?_
        refine xV [0] rfl rfl (fun _ => va_loadE rfl rfl rfl (giM (cI .u64) hx18) rfl rfl) ?_
        obtain ⟨x7, hx19, ho11⟩ := bi ho11
        refine xV [0] rfl rfl (fun _ => va_place rfl rfl rfl rfl rfl rfl rfl (gi0 hx19) (giLM (cI .u64) hx19)) ?_
        obtain ⟨data7, hx20, ho11⟩ := bi ho11
        obtain ⟨o1, ho21⟩ := stG hx20
        refine xW [0] .any 1 _ _ rfl rfl (by
            refine rse rfl rfl rfl (giM (cI .u64) ho21) rfl rfl rfl rfl rfl ?_
            refine rk (congrArg (Kind.wr _) (stM (cI .u64) hx20)) ?_
            exact rn ⟨rfl, rfl⟩) (by rfl) (by rfl) (by repeat (first | exact oi0 | refine oi1 (by first | exact trivial | exact ki_wr (lmM (fun _ => rfl) _)) ?_)) (by rfl) (by rfl) ?_
        obtain ⟨x8, hx22, ho11⟩ := bi ho11
        refine xV [0] rfl rfl (fun _ => va_place rfl rfl rfl rfl rfl rfl rfl (gi0 hx22) (giLM (cI .u64) hx22)) ?_
        refine xn (by kernel_rfl) ?_
        obtain ⟨data8, hx23, ho11⟩ := bi ho11
        obtain ⟨o2, ho24⟩ := stG hx23
        refine rse rfl rfl rfl (giM (cI .u64) ho24) rfl rfl rfl rfl rfl ?_
        refine rk (congrArg (Kind.wr _) (stM (cI .u64) hx23)) ?_
        refine rn ?_
        refine awp_region ?_
        refine rvs 4 rfl ?_
        obtain ⟨x9, hx25, ho11⟩ := bi ho11
        refine rh [0] rfl rfl (dslices_siftDownOrdered_uint64_l hx25) rfl rfl rfl (trivial) (zE rfl (.wr (lmM (fun _ => rfl) _)) rfl (trivial)) ?_
        refine ek ?_
        refine as1 rfl ?_
        refine ae rfl rfl rfl ?_
        refine rkO (wO (fun _ => rfl) (rfl)) ?_
        refine rn ?_
        refine inBlock_normal ?_
        refine awp_region ?_
        refine rvs 3 rfl ?_
        refine rn ?_
        cases ho11
        exact lp_n [0] rfl rfl ⟨rfl, rfl, zA rfl rfl rfl (zA rfl rfl rfl (zA rfl rfl rfl (zA rfl rfl rfl (trivial)))), trivial, zE rfl (.wr (lmM (fun _ => rfl) _)) rfl (trivial)⟩
      · have ho11 := cF hc ho11
        refine awp_exit ?_
        repeat (first | refine then_exit ?_ | refine cut_x ?_ | refine inBlock_other rfl ?_)
        refine inBlock_exit ?_
        cases ho11
        have hq := hE12 _ rfl
        subst hq
        exact cut_n [0] rfl rfl ⟨rfl, rfl, trivial, trivial, zE rfl (.wr (lmM (fun _ => rfl) _)) rfl (trivial)⟩
    · rintro l1 rfl
      have h := Option.some.inj h
      subst h
      exact rrA' (r := .tup []) [0] [] [(0, .wr 1 (l1.map (cI .u64)))] rfl rfl rfl rfl (trivial) (zE rfl (.wr (lmM (fun _ => rfl) _)) rfl (trivial)) ⟨rfl, rfl, rfl, rfl⟩
end

/-- `(*slices.xorshift).Next` -/
def dslices_xorshift_Next (fu : Nat) (r1 : Int) : Option (Int × Int) :=
  (some (bits .xor .u64 (bits .xor .u64 (bits .xor .u64 r1 (shlV .u64 r1 13)) (shrV .u64 (bits .xor .u64 r1 (shlV .u64 r1 13)) 7)) (shlV .u64 (bits .xor .u64 (bits .xor .u64 r1 (shlV .u64 r1 13)) (shrV .u64 (bits .xor .u64 r1 (shlV .u64 r1 13)) 7)) 17))).bind fun x1 => some (x1, bits .xor .u64 (bits .xor .u64 (bits .xor .u64 r1 (shlV .u64 r1 13)) (shrV .u64 (bits .xor .u64 r1 (shlV .u64 r1 13)) 7)) (shlV .u64 (bits .xor .u64 (bits .xor .u64 r1 (shlV .u64 r1 13)) (shrV .u64 (bits .xor .u64 r1 (shlV .u64 r1 13)) 7)) 17))
section
attribute [local irreducible] awp aops DP PCall ACall Decidable.decide
theorem dslices_xorshift_Next_l {fu : Nat} {r1 : Int} {r : Int × Int} (h : dslices_xorshift_Next fu r1 = some r) : ACall Try.prog 128 1 [.ptr 0 0] [(0, 0, .int .u64 r1)] [] (fun r_ H_ O_ n_ => r_ = .int .u64 r.1 ∧ H_ = [(0, 0, .int .u64 r.2)] ∧ O_ = [] ∧ n_ = 1) := by
  rw [dslices_xorshift_Next] at h
  refine acall_body Try.func128 rfl (by kernel_rfl) (by rfl) ?_
  refine awp_seq ?_
  refine awp_region ?_
  refine rv rfl rfl ?_
  refine rn ?_
  refine awp_seq ?_
  refine awp_dp (m := 9) Try.mix (by kernel_rfl) (by kernel_rfl) (by kernel_rfl) (by kernel_rfl) (by kernel_rfl) (by kernel_rfl) (by kernel_rfl) ?_
  refine dv rfl rfl (fun _ => rfl) ?_
  refine dv rfl rfl (fun _ => rfl) ?_
  refine dv rfl rfl (fun _ => rfl) ?_
  refine dv rfl rfl (fun _ => rfl) ?_
  refine dv rfl rfl (fun _ => rfl) ?_
  refine dv rfl rfl (fun _ => rfl) ?_
  refine dv rfl rfl (fun _ => rfl) ?_
  refine dv rfl rfl (fun _ => rfl) ?_
  refine dv rfl rfl (fun _ => rfl) ?_
  refine dn ?_
  refine rs rfl rfl rfl rfl rfl rfl rfl ?_
  refine rn ?_
  refine awp_seq ?_
  refine awp_dp (m := 9) Try.mix (by kernel_rfl) (by kernel_rfl) (by kernel_rfl) (by kernel_rfl) (by kernel_rfl) (by kernel_rfl) (by kernel_rfl) ?_
  refine dv rfl rfl (fun _ => rfl) ?_
  refine dv rfl rfl (fun _ => rfl) ?_
  refine dv rfl rfl (fun _ => rfl) ?_
  refine dv rfl rfl (fun _ => rfl) ?_
  refine dv rfl rfl (fun _ => rfl) ?_
  refine dv rfl rfl (fun _ => rfl) ?_
  refine dv rfl rfl (fun _ => rfl) ?_
  refine dv rfl rfl (fun _ => rfl) ?_
  refine dv rfl rfl (fun _ => rfl) ?_
  refine dn ?_
  refine rs rfl rfl rfl rfl rfl rfl rfl ?_
  refine rn ?_
  refine awp_seq ?_
  refine awp_dp (m := 9) Try.mix (by kernel_rfl) (by kernel_rfl) (by kernel_rfl) (by kernel_rfl) (by kernel_rfl) (by kernel_rfl) (by kernel_rfl) ?_
  refine dv rfl rfl (fun _ => rfl) ?_
  refine dv rfl rfl (fun _ => rfl) ?_
  refine dv rfl rfl (fun _ => rfl) ?_
  refine dv rfl rfl (fun _ => rfl) ?_
  refine dv rfl rfl (fun _ => rfl) ?_
  refine dv rfl rfl (fun _ => rfl) ?_
  refine dv rfl rfl (fun _ => rfl) ?_
  refine dv rfl rfl (fun _ => rfl) ?_
  refine dv rfl rfl (fun _ => rfl) ?_
  refine dn ?_
  refine rs rfl rfl rfl rfl rfl rfl rfl ?_
  refine rn ?_
  refine awp_seq ?_
  refine awp_region ?_
  refine rvs 4 rfl ?_
  obtain ⟨x1, hx1, h⟩ := bs h
  refine rt (ei' hx1) ?_
  refine rn ?_
  refine awp_ret ?_
  have h := Option.some.inj h
  subst h
  repeat (first | refine then_ret ?_ | refine inBlock_ret ?_ | refine cut_r ?_)
  exact rrA (r := .int .u64 x1) [0] [(0, 0, .int .u64 (bits .xor .u64 (bits .xor .u64 (bits .xor .u64 r1 (shlV .u64 r1 13)) (shrV .u64 (bits .xor .u64 r1 (shlV .u64 r1 13)) 7)) (shlV .u64 (bits .xor .u64 (bits .xor .u64 r1 (shlV .u64 r1 13)) (shrV .u64 (bits .xor .u64 r1 (shlV .u64 r1 13)) 7)) 17)))] [] rfl rfl rfl rfl (zC rfl rfl rfl rfl (trivial)) (trivial) ⟨rfl, rfl, rfl, rfl⟩
end

/-- `math/bits.Len64` -/
def dbits_Len64 (fu : Nat) (x1 : Int) : Option Int :=
  (bif (decide (x1 ≥ 4294967296)) then some (shrV .u64 x1 32, 32) else some (x1, 0) : Option (Int × Int)).bind fun (((x2, n1)) : Int × Int) => ((bif (decide (x2 ≥ 65536)) then some (shrV .u64 x2 16, W (n1 + 16)) else some (x2, n1) : Option (Int × Int)).bind fun (((x3, n2)) : Int × Int) => ((bif (decide (x3 ≥ 256)) then some (shrV .u64 x3 8, W (n2 + 8)) else some (x3, n2) : Option (Int × Int)).bind fun (((x4, n3)) : Int × Int) => ((gi ([0, 1, 2, 2, 3, 3, 3, 3, 4, 4, 4, 4, 4, 4, 4, 4, 5, 5, 5, 5, 5, 5, 5, 5, 5, 5, 5, 5, 5, 5, 5, 5, 6, 6, 6, 6, 6, 6, 6, 6, 6, 6, 6, 6, 6, 6, 6, 6, 6, 6, 6, 6, 6, 6, 6, 6, 6, 6, 6, 6, 6, 6, 6, 6, 7, 7, 7, 7, 7, 7, 7, 7, 7, 7, 7, 7, 7, 7, 7, 7, 7, 7, 7, 7, 7, 7, 7, 7, 7, 7, 7, 7, 7, 7, 7, 7, 7, 7, 7, 7, 7, 7, 7, 7, 7, 7, 7, 7, 7, 7, 7, 7, 7, 7, 7, 7, 7, 7, 7, 7, 7, 7, 7, 7, 7, 7, 7, 7, 8, 8, 8, 8, 8, 8, 8, 8, 8, 8, 8, 8, 8, 8, 8, 8, 8, 8, 8, 8, 8, 8, 8, 8, 8, 8, 8, 8, 8, 8, 8, 8, 8, 8, 8, 8, 8, 8, 8, 8, 8, 8, 8, 8, 8, 8, 8, 8, 8, 8, 8, 8, 8, 8, 8, 8, 8, 8, 8, 8, 8, 8, 8, 8, 8, 8, 8, 8, 8, 8, 8, 8, 8, 8, 8, 8, 8, 8, 8, 8, 8, 8, 8, 8, 8, 8, 8, 8, 8, 8, 8, 8, 8, 8, 8, 8, 8, 8, 8, 8, 8, 8, 8, 8, 8, 8, 8, 8, 8, 8, 8, 8, 8, 8, 8, 8, 8, 8, 8, 8, 8, 8, 8, 8, 8, 8, 8, 8] : Str) (IntKind.wrap .u8 x4)).bind fun c1 => (some (W (n3 + (W (c1.toNat : Int))))).bind fun n4 => some n4)))
section
attribute [local irreducible] awp aops DP PCall ACall Decidable.decide
theorem dbits_Len64_l {fu : Nat} {x1 : Int} {r : Int} (h : dbits_Len64 fu x1 = some r) : PCall Try.prog 125 [.int .u64 x1] (· = .int .i64 r) := by
  rw [dbits_Len64] at h
  refine pcall_body Try.func125 rfl (by kernel_rfl) (by rfl) ?_
  refine awp_seq ?_
  refine awp_region ?_
  refine rv rfl rfl ?_
  refine rn ?_
  refine awp_seq ?_
  refine awp_seq ?_
  refine awp_region ?_
  refine rvs 2 rfl ?_
  refine rn ?_
  obtain ⟨o1, ho2, h⟩ := bi h
  refine awp_cut1 (fun x => x = o1) (fun (((x2, n1)) : Int × Int) => ⟨[(0, .int .u64 x2), (2, .int .i64 n1)], [], [], 0⟩) ?_ ?_
  · refine cs_ rfl (fun hc => ?_) (fun hc => ?_)
    · have ho2 := cT hc ho2
      refine awp_seq ?_
      refine awp_region ?_
      refine rvs 3 rfl ?_
      refine rn ?_
      refine awp_region ?_
      refine rv rfl rfl ?_
      refine rn ?_
      cases ho2
      exact cut_n [] rfl rfl ⟨rfl, rfl, zA rfl rfl rfl (zA rfl rfl rfl (trivial)), trivial, trivial⟩
    · have ho2 := cF hc ho2
      refine awp_skip ?_
      cases ho2
      exact cut_n [] rfl rfl ⟨rfl, rfl, zA rfl rfl rfl (zA rfl rfl rfl (trivial)), trivial, trivial⟩
  · rintro ⟨x2, n1⟩ rfl
    change awp _ _ _ _ _ ⟨_, _, _, _⟩
    refine awp_seq ?_
    refine awp_seq ?_
    refine awp_region ?_
    refine rvs 2 rfl ?_
    refine rn ?_
    obtain ⟨o3, ho4, h⟩ := bi h
    refine awp_cut1 (fun x => x = o3) (fun (((x3, n2)) : Int × Int) => ⟨[(0, .int .u64 x3), (2, .int .i64 n2)], [], [], 0⟩) ?_ ?_
    · refine cs_ rfl (fun hc => ?_) (fun hc => ?_)
      · have ho4 := cT hc ho4
        refine awp_seq ?_
        refine awp_region ?_
        refine rvs 3 rfl ?_
        refine rn ?_
        refine awp_region ?_
        refine rvs 3 rfl ?_
        refine rn ?_
        cases ho4
        exact cut_n [] rfl rfl ⟨rfl, rfl, zA rfl rfl rfl (zA rfl rfl rfl (trivial)), trivial, trivial⟩
      · have ho4 := cF hc ho4
        refine awp_skip ?_
        cases ho4
        exact cut_n [] rfl rfl ⟨rfl, rfl, zA rfl rfl rfl (zA rfl rfl rfl (trivial)), trivial, trivial⟩
    · rintro ⟨x3, n2⟩ rfl
      change awp _ _ _ _ _ ⟨_, _, _, _⟩
      refine awp_seq ?_
      refine awp_seq ?_
      refine awp_region ?_
      refine rvs 2 rfl ?_
      refine rn ?_
      obtain ⟨o5, ho6, h⟩ := bi h
      refine awp_cut1 (fun x => x = o5) (fun (((x4, n3)) : Int × Int) => ⟨[(0, .int .u64 x4), (2, .int .i64 n3)], [], [], 0⟩) ?_ ?_
      · refine cs_ rfl (fun hc => ?_) (fun hc => ?_)
        · have ho6 := cT hc ho6
          refine awp_seq ?_
          refine awp_region ?_
          refine rvs 3 rfl ?_
          refine rn ?_
          refine awp_region ?_
          refine rvs 3 rfl ?_
          refine rn ?_
          cases ho6
          exact cut_n [] rfl rfl ⟨rfl, rfl, zA rfl rfl rfl (zA rfl rfl rfl (trivial)), trivial, trivial⟩
        · have ho6 := cF hc ho6
          refine awp_skip ?_
          cases ho6
          exact cut_n [] rfl rfl ⟨rfl, rfl, zA rfl rfl rfl (zA rfl rfl rfl (trivial)), trivial, trivial⟩
      · rintro ⟨x4, n3⟩ rfl
        change awp _ _ _ _ _ ⟨_, _, _, _⟩
        refine awp_seq ?_
        refine awp_region ?_
        refine rvs 3 rfl ?_
        obtain ⟨c1, hx7, h⟩ := bi h
        refine rV rfl (va_sidx rfl rfl rfl rfl hx7) ?_
        refine rvs 3 rfl ?_
        obtain ⟨n4, hx8, h⟩ := bs h
        refine rt (ei' hx8) ?_
        refine rn ?_
        refine awp_ret ?_
        cases h
        repeat (first | refine then_ret ?_ | refine inBlock_ret ?_ | refine cut_r ?_)
        exact rr rfl rfl rfl
end

/-- `math/bits.Len32` -/
def dbits_Len32 (fu : Nat) (x1 : Int) : Option Int :=
  (bif (decide (x1 ≥ 65536)) then some (shrV .u32 x1 16, 16) else some (x1, 0) : Option (Int × Int)).bind fun (((x2, n1)) : Int × Int) => ((bif (decide (x2 ≥ 256)) then some (shrV .u32 x2 8, W (n1 + 8)) else some (x2, n1) : Option (Int × Int)).bind fun (((x3, n2)) : Int × Int) => ((gi ([0, 1, 2, 2, 3, 3, 3, 3, 4, 4, 4, 4, 4, 4, 4, 4, 5, 5, 5, 5, 5, 5, 5, 5, 5, 5, 5, 5, 5, 5, 5, 5, 6, 6, 6, 6, 6, 6, 6, 6, 6, 6, 6, 6, 6, 6, 6, 6, 6, 6, 6, 6, 6, 6, 6, 6, 6, 6, 6, 6, 6, 6, 6, 6, 7, 7, 7, 7, 7, 7, 7, 7, 7, 7, 7, 7, 7, 7, 7, 7, 7, 7, 7, 7, 7, 7, 7, 7, 7, 7, 7, 7, 7, 7, 7, 7, 7, 7, 7, 7, 7, 7, 7, 7, 7, 7, 7, 7, 7, 7, 7, 7, 7, 7, 7, 7, 7, 7, 7, 7, 7, 7, 7, 7, 7, 7, 7, 7, 8, 8, 8, 8, 8, 8, 8, 8, 8, 8, 8, 8, 8, 8, 8, 8, 8, 8, 8, 8, 8, 8, 8, 8, 8, 8, 8, 8, 8, 8, 8, 8, 8, 8, 8, 8, 8, 8, 8, 8, 8, 8, 8, 8, 8, 8, 8, 8, 8, 8, 8, 8, 8, 8, 8, 8, 8, 8, 8, 8, 8, 8, 8, 8, 8, 8, 8, 8, 8, 8, 8, 8, 8, 8, 8, 8, 8, 8, 8, 8, 8, 8, 8, 8, 8, 8, 8, 8, 8, 8, 8, 8, 8, 8, 8, 8, 8, 8, 8, 8, 8, 8, 8, 8, 8, 8, 8, 8, 8, 8, 8, 8, 8, 8, 8, 8, 8, 8, 8, 8, 8, 8, 8, 8, 8, 8, 8, 8] : Str) (IntKind.wrap .u8 x3)).bind fun c1 => (some (W (n2 + (W (c1.toNat : Int))))).bind fun n3 => some n3))
section
attribute [local irreducible] awp aops DP PCall ACall Decidable.decide
theorem dbits_Len32_l {fu : Nat} {x1 : Int} {r : Int} (h : dbits_Len32 fu x1 = some r) : PCall Try.prog 124 [.int .u32 x1] (· = .int .i64 r) := by
  rw [dbits_Len32] at h
  refine pcall_body Try.func124 rfl (by kernel_rfl) (by rfl) ?_
  refine awp_seq ?_
  refine awp_region ?_
  refine rv rfl rfl ?_
  refine rn ?_
  refine awp_seq ?_
  refine awp_seq ?_
  refine awp_region ?_
  refine rvs 2 rfl ?_
  refine rn ?_
  obtain ⟨o1, ho2, h⟩ := bi h
  refine awp_cut1 (fun x => x = o1) (fun (((x2, n1)) : Int × Int) => ⟨[(0, .int .u32 x2), (2, .int .i64 n1)], [], [], 0⟩) ?_ ?_
  · refine cs_ rfl (fun hc => ?_) (fun hc => ?_)
    · have ho2 := cT hc ho2
      refine awp_seq ?_
      refine awp_region ?_
      refine rvs 3 rfl ?_
      refine rn ?_
      refine awp_region ?_
      refine rv rfl rfl ?_
      refine rn ?_
      cases ho2
      exact cut_n [] rfl rfl ⟨rfl, rfl, zA rfl rfl rfl (zA rfl rfl rfl (trivial)), trivial, trivial⟩
    · have ho2 := cF hc ho2
      refine awp_skip ?_
      cases ho2
      exact cut_n [] rfl rfl ⟨rfl, rfl, zA rfl rfl rfl (zA rfl rfl rfl (trivial)), trivial, trivial⟩
  · rintro ⟨x2, n1⟩ rfl
    change awp _ _ _ _ _ ⟨_, _, _, _⟩
    refine awp_seq ?_
    refine awp_seq ?_
    refine awp_region ?_
    refine rvs 2 rfl ?_
    refine rn ?_
    obtain ⟨o3, ho4, h⟩ := bi h
    refine awp_cut1 (fun x => x = o3) (fun (((x3, n2)) : Int × Int) => ⟨[(0, .int .u32 x3), (2, .int .i64 n2)], [], [], 0⟩) ?_ ?_
    · refine cs_ rfl (fun hc => ?_) (fun hc => ?_)
      · have ho4 := cT hc ho4
        refine awp_seq ?_
        refine awp_region ?_
        refine rvs 3 rfl ?_
        refine rn ?_
        refine awp_region ?_
        refine rvs 3 rfl ?_
        refine rn ?_
        cases ho4
        exact cut_n [] rfl rfl ⟨rfl, rfl, zA rfl rfl rfl (zA rfl rfl rfl (trivial)), trivial, trivial⟩
      · have ho4 := cF hc ho4
        refine awp_skip ?_
        cases ho4
        exact cut_n [] rfl rfl ⟨rfl, rfl, zA rfl rfl rfl (zA rfl rfl rfl (trivial)), trivial, trivial⟩
    · rintro ⟨x3, n2⟩ rfl
      change awp _ _ _ _ _ ⟨_, _, _, _⟩
      refine awp_seq ?_
      refine awp_region ?_
      refine rvs 3 rfl ?_
      obtain ⟨c1, hx5, h⟩ := bi h
      refine rV rfl (va_sidx rfl rfl rfl rfl hx5) ?_
      refine rvs 3 rfl ?_
      obtain ⟨n3, hx6, h⟩ := bs h
      refine rt (ei' hx6) ?_
      refine rn ?_
      refine awp_ret ?_
      cases h
      repeat (first | refine then_ret ?_ | refine inBlock_ret ?_ | refine cut_r ?_)
      exact rr rfl rfl rfl
end

/-- `math/bits.Len` -/
def dbits_Len (fu : Nat) (x1 : Int) : Option Int :=
  (dbits_Len64 fu x1).bind fun x2 => some x2
section
attribute [local irreducible] awp aops DP PCall ACall Decidable.decide
theorem dbits_Len_l {fu : Nat} {x1 : Int} {r : Int} (h : dbits_Len fu x1 = some r) : PCall Try.prog 107 [.int .u64 x1] (· = .int .i64 r) := by
  rw [dbits_Len] at h
  refine pcall_body Try.func107 rfl (by kernel_rfl) (by rfl) ?_
  refine awp_seq ?_
  refine awp_region ?_
  refine rv rfl rfl ?_
  refine rn ?_
  refine awp_seq ?_
  refine cf rfl ?_
  refine awp_skip ?_
  refine awp_seq ?_
  refine awp_region ?_
  refine rv rfl rfl ?_
  obtain ⟨x2, hx1, h⟩ := bi h
  refine rc1 rfl rfl rfl (dbits_Len64_l hx1) ?_
  refine rv rfl rfl ?_
  refine rn ?_
  refine awp_ret ?_
  cases h
  repeat (first | refine then_ret ?_ | refine inBlock_ret ?_ | refine cut_r ?_)
  exact rr rfl rfl rfl
end

/-- `slices.nextPowerOfTwo` -/
def dslices_nextPowerOfTwo (fu : Nat) (length1 : Int) : Option Int :=
  (dbits_Len fu (IntKind.wrap .u64 length1)).bind fun x1 => (shlO .u64 1 x1).bind fun q1 => some q1
section
attribute [local irreducible] awp aops DP PCall ACall Decidable.decide
theorem dslices_nextPowerOfTwo_l {fu : Nat} {length1 : Int} {r : Int} (h : dslices_nextPowerOfTwo fu length1 = some r) : PCall Try.prog 127 [.int .i64 length1] (· = .int .u64 r) := by
  rw [dslices_nextPowerOfTwo] at h
  refine pcall_body Try.func127 rfl (by kernel_rfl) (by rfl) ?_
  refine awp_seq ?_
  refine awp_region ?_
  refine rv rfl rfl ?_
  refine rn ?_
  refine awp_seq ?_
  refine awp_region ?_
  refine rvs 2 rfl ?_
  obtain ⟨x1, hx1, h⟩ := bi h
  refine rc1 rfl rfl rfl (dbits_Len_l hx1) ?_
  obtain ⟨q1, hx2, h⟩ := bi h
  refine rV rfl (va_shl rfl rfl hx2) ?_
  refine rv rfl rfl ?_
  refine rn ?_
  refine awp_ret ?_
  cases h
  repeat (first | refine then_ret ?_ | refine inBlock_ret ?_ | refine cut_r ?_)
  exact rr rfl rfl rfl
end

/-- `slices.breakPatternsOrdered[uint64]` -/
def dslices_breakPatternsOrdered_uint64 (fu : Nat) (data1 : List Int) (a1 : Int) (b1 : Int) : Option (List Int) :=
  bif (decide ((W (b1 - a1)) ≥ 8)) then ((dslices_nextPowerOfTwo fu (W (b1 - a1))).bind fun modulus1 => (quoV .i64 (W (b1 - a1)) 4).bind fun q1 => (some (W ((W (a1 + (W (q1 * 2)))) - 1))).bind fun idx1 => (loopD (ε := Int × Int × (List Int)) (τ := List Int) (fun (((idx2, random1, data2)) : Int × Int × (List Int)) => ((quoV .i64 (W (b1 - a1)) 4).bind fun q2 => bif (decide (idx2 ≤ (W ((W (a1 + (W (q2 * 2)))) + 1)))) then ((dslices_xorshift_Next fu random1).bind fun other1 => (some (W (bits .and .u64 other1.1 (IntKind.wrap .u64 (modulus1 - 1))))).bind fun other2 => (bif (decide (other2 ≥ (W (b1 - a1)))) then ((some (W (other2 - (W (b1 - a1))))).bind fun other4 => some other4) else some other2 : Option Int).bind fun (other3 : Int) => ((gi data2 (W (a1 + other3))).bind fun x4 => (gi data2 idx2).bind fun x5 => (gi data2 idx2).bind fun x6 => (sti data2 idx2 x4).bind fun data4 => (gi data4 (W (a1 + other3))).bind fun x7 => (sti data4 (W (a1 + other3)) x5).bind fun data5 => some (Sum.inl (W (idx2 + 1), other1.2, data5)))) else some (Sum.inr data2))) fu (idx1, IntKind.wrap .u64 (W (b1 - a1)), data1)).bind fun (l1 : List Int) => some l1) else some data1
section
attribute [local irreducible] awp aops DP PCall ACall Decidable.decide
theorem dslices_breakPatternsOrdered_uint64_l {fu : Nat} {data1 : List Int} {a1 : Int} {b1 : Int} {r : List Int} (h : dslices_breakPatternsOrdered_uint64 fu data1 a1 b1 = some r) : ACall Try.prog 117 1 [.own 0, .int .i64 a1, .int .i64 b1] [] [(0, .wr 1 (data1.map (cI .u64)))] (fun r_ H_ O_ n_ => r_ = .tup [] ∧ H_ = [] ∧ O_ = [(0, .wr 1 (r.map (cI .u64)))] ∧ n_ = 1) := by
  rw [dslices_breakPatternsOrdered_uint64] at h
  refine acall_body Try.func117 rfl (by kernel_rfl) (by rfl) ?_
  refine awp_seq ?_
  refine awp_region ?_
  refine rvs 4 rfl ?_
  refine rn ?_
  refine awp_seq ?_
  refine awp_region ?_
  refine rvs 2 rfl ?_
  refine rn ?_
  refine cs_ rfl (fun hc => ?_) (fun hc => ?_)
  · have h := cT hc h
    refine awp_seq ?_
    refine awp_region ?_
    refine rvs 2 rfl ?_
    refine ra rfl rfl rfl ?_
    refine rs rfl rfl rfl rfl rfl rfl rfl ?_
    refine rn ?_
    refine awp_seq ?_
    refine awp_region ?_
    refine rv rfl rfl ?_
    obtain ⟨modulus1, hx1, h⟩ := bi h
    refine rc1 rfl rfl rfl (dslices_nextPowerOfTwo_l hx1) ?_
    refine rv rfl rfl ?_
    refine rn ?_
    refine awp_seq ?_
    refine awp_region ?_
    refine rvs 2 rfl ?_
    obtain ⟨q1, hx2, h⟩ := bi h
    refine rV rfl (va_quo rfl rfl hx2) ?_
    refine rvs 4 rfl ?_
    obtain ⟨idx1, hx3, h⟩ := bs h
    refine rt (ei' hx3) ?_
    refine rn ?_
    obtain ⟨e4, hl5, h⟩ := bi h
    refine awp_cut1 (fun x => x = e4) (fun (l1 : List Int) => ⟨[], [], [(0, .wr 1 (l1.map (cI .u64)))], 1⟩) ?_ ?_
    · refine awp_block ?_
      refine awp_loopD hl5 (fun (((idx2, random1, data2)) : Int × Int × (List Int)) => ⟨[(0, .own 0), (1, .int .i64 a1), (6, .int .i64 (W (b1 - a1))), (7, .ptr 1 0), (8, .int .u64 modulus1), (9, .int .i64 idx2)], [(1, 0, .int .u64 random1)], [(0, .wr 1 (data2.map (cI .u64)))], 2⟩) [0, 1] rfl ⟨rfl, rfl, zA rfl rfl rfl (zA rfl rfl rfl (zA rfl rfl rfl (zA rfl rfl rfl (zA rfl rfl rfl (zA rfl rfl rfl (trivial)))))), zC rfl rfl rfl rfl (trivial), zE rfl (.wr (lmM (fun _ => rfl) _)) rfl (trivial)⟩ ?_
      intro v o8 ho6 hE7
      obtain ⟨idx2, random1, data2⟩ := v
      change awp _ _ _ _ _ ⟨_, _, _, _⟩
      refine awp_seq ?_
      refine awp_seq ?_
      refine awp_region ?_
      refine rvs 3 rfl ?_
      obtain ⟨q2, hx9, ho6⟩ := bi ho6
      refine rV rfl (va_quo rfl rfl hx9) ?_
      refine rvs 4 rfl ?_
      refine rn ?_
      refine cs_ rfl (fun hc => ?_) (fun hc => ?_)
      · have ho6 := cT hc ho6
        refine awp_skip ?_
        refine awp_seq ?_
        refine awp_block ?_
        refine awp_seq ?_
        refine awp_region ?_
        obtain ⟨other1, hx10, ho6⟩ := bi ho6
        refine rh [1] rfl rfl (dslices_xorshift_Next_l hx10) rfl rfl rfl (zC rfl rfl rfl rfl (trivial)) (trivial) ?_
        refine ek ?_
        refine as1 rfl ?_
        refine ae rfl rfl rfl ?_
        refine rvs 5 rfl ?_
        obtain ⟨other2, hx11, ho6⟩ := bs ho6
        refine rt (ei' hx11) ?_
        refine rn ?_
        refine awp_seq ?_
        refine awp_seq ?_
        refine awp_region ?_
        refine rvs 3 rfl ?_
        refine rn ?_
        obtain ⟨o12, ho13, ho6⟩ := bi ho6
        refine awp_cut1 (fun x => x = o12) (fun (other3 : Int) => ⟨[(0, .own 0), (1, .int .i64 a1), (6, .int .i64 (W (b1 - a1))), (7, .ptr 1 0), (8, .int .u64 modulus1), (9, .int .i64 idx2), (10, .int .i64 other3)], [(1, 0, .int .u64 other1.2)], [(0, .wr 1 (data2.map (cI .u64)))], 2⟩) ?_ ?_
        · refine cs_ rfl (fun hc => ?_) (fun hc => ?_)
          · have ho13 := cT hc ho13
            refine awp_region ?_
            refine rvs 4 rfl ?_
            obtain ⟨other4, hx14, ho13⟩ := bs ho13
            refine rt (ei' hx14) ?_
            refine rn ?_
            cases ho13
            exact cut_n [0, 1] rfl rfl ⟨rfl, rfl, zA rfl rfl rfl (zA rfl rfl rfl (zA rfl rfl rfl (zA rfl rfl rfl (zA rfl rfl rfl (zA rfl rfl rfl (zA rfl rfl rfl (trivial))))))), zC rfl rfl rfl rfl (trivial), zE rfl (.wr (lmM (fun _ => rfl) _)) rfl (trivial)⟩
          · have ho13 := cF hc ho13
            refine awp_skip ?_
            cases ho13
            exact cut_n [0, 1] rfl rfl ⟨rfl, rfl, zA rfl rfl rfl (zA rfl rfl rfl (zA rfl rfl rfl (zA rfl rfl rfl (zA rfl rfl rfl (zA rfl rfl rfl (zA rfl rfl rfl (trivial))))))), zC rfl rfl rfl rfl (trivial), zE rfl (.wr (lmM (fun _ => rfl) _)) rfl (trivial)⟩
        · rintro other3 rfl
          change awp _ _ _ _ _ ⟨_, _, _, _⟩
          refine awp_dx (m := 19) [[14, 15, 17]] Try.mix (by kernel_rfl) (by kernel_rfl) (by kernel_rfl) (by kernel_rfl) (by kernel_rfl) (by kernel_rfl) ?_
          refine xv [] rfl rfl (fun _ => rfl) ?_
          refine xv [] rfl rfl (fun _ => rfl) ?_
          refine xv [] rfl rfl (fun _ => rfl) ?_
          refine xv [] rfl rfl (fun _ => rfl) ?_
          refine xv [] rfl rfl (fun _ => rfl) ?_
          refine xv [] rfl rfl (fun _ => rfl) ?_
          refine xv [] rfl rfl (fun _ => rfl) ?_
          refine xv [] rfl rfl (fun _ => rfl) ?_
          refine xv [] rfl rfl (fun _ => rfl) ?_
          refine xv [] rfl rfl (fun _ => rfl) ?_
          obtain ⟨x4, hx18, ho6⟩ := bi ho6
          refine xV [0] rfl rfl (fun _ => va_place rfl rfl rfl rfl rfl rfl rfl (gi0 hx18) (giLM (cI .u64) hx18)) ?_
          refine xV [0] rfl rfl (fun _ => va_loadE rfl rfl rfl (giM (cI .u64) hx18) rfl rfl) ?_
          refine xv [] rfl rfl (fun _ => rfl) ?_
          refine xv [] rfl rfl (fun _ => rfl) ?_
          obtain ⟨x5, hx19, ho6⟩ := bi ho6
          refine xV [0] rfl rfl (fun _ => va_place rfl rfl rfl rfl rfl rfl rfl (gi0 hx19) (giLM (cI .u64) hx19)) ?_
          refine xV [0] rfl rfl (fun _ => va_loadE rfl rfl rfl (giM (cI .u64) hx19) rfl rfl) ?_
          obtain ⟨x6, hx20, ho6⟩ := bi ho6
          refine xV [0] rfl rfl (fun _ => va_place rfl rfl rfl rfl rfl rfl rfl (gi0 hx20) (giLM (cI .u64) hx20)) ?_
          obtain ⟨data4, hx21, ho6⟩ := bi ho6
          obtain ⟨o1, ho22⟩ := stG hx21
          refine xW [0] .any 2 _ _ rfl rfl (by
              refine rse rfl rfl rfl (giM (cI .u64) ho22) rfl rfl rfl rfl rfl ?_
              refine rk (congrArg (Kind.wr _) (stM (cI .u64) hx21)) ?_
              exact rn ⟨rfl, rfl⟩) (by rfl) (by rfl) (by repeat (first | exact oi0 | refine oi1 (by first | exact trivial | exact ki_wr (lmM (fun _ => rfl) _)) ?_)) (by rfl) (by rfl) ?_
          obtain ⟨x7, hx23, ho6⟩ := bi ho6
          refine xV [0] rfl rfl (fun _ => va_place rfl rfl rfl rfl rfl rfl rfl (gi0 hx23) (giLM (cI .u64) hx23)) ?_
          refine xn (by kernel_rfl) ?_
          obtain ⟨data5, hx24, ho6⟩ := bi ho6
          obtain ⟨o2, ho25⟩ := stG hx24
          refine rse rfl rfl rfl (giM (cI .u64) ho25) rfl rfl rfl rfl rfl ?_
          refine rk (congrArg (Kind.wr _) (stM (cI .u64) hx24)) ?_
          refine rn ?_
          refine inBlock_normal ?_
          refine awp_region ?_
          refine rvs 3 rfl ?_
          refine rn ?_
          cases ho6
          exact lp_n [0, 1] rfl rfl ⟨rfl, rfl, zA rfl rfl rfl (zA rfl rfl rfl (zA rfl rfl rfl (zA rfl rfl rfl (zA rfl rfl rfl (zA rfl rfl rfl (trivial)))))), zC rfl rfl rfl rfl (trivial), zE rfl (.wr (lmM (fun _ => rfl) _)) rfl (trivial)⟩
      · have ho6 := cF hc ho6
        refine awp_exit ?_
        repeat (first | refine then_exit ?_ | refine cut_x ?_ | refine inBlock_other rfl ?_)
        refine inBlock_exit ?_
        cases ho6
        have hq := hE7 _ rfl
        subst hq
        exact cut_n [0] rfl rfl ⟨rfl, rfl, trivial, trivial, zE rfl (.wr (lmM (fun _ => rfl) _)) rfl (trivial)⟩
    · rintro l1 rfl
      have h := Option.some.inj h
      subst h
      exact rrA' (r := .tup []) [0] [] [(0, .wr 1 (l1.map (cI .u64)))] rfl rfl rfl rfl (trivial) (zE rfl (.wr (lmM (fun _ => rfl) _)) rfl (trivial)) ⟨rfl, rfl, rfl, rfl⟩
  · have h := cF hc h
    refine awp_skip ?_
    have h := Option.some.inj h
    subst h
    exact rrA' (r := .tup []) [0] [] [(0, .wr 1 (data1.map (cI .u64)))] rfl rfl rfl rfl (trivial) (zE rfl (.wr (lmM (fun _ => rfl) _)) rfl (trivial)) ⟨rfl, rfl, rfl, rfl⟩
end

/-- `slices.order2Ordered[uint64]` -/
def dslices_order2Ordered_uint64 (fu : Nat) (data1 : List Int) (a1 : Int) (b1 : Int) (swaps1 : Int) : Option (Int × Int × Int × (List Int)) :=
  (gi data1 b1).bind fun x1 => (gi data1 a1).bind fun x2 => (dcmp_Less_uint64 fu x1 x2).bind fun x3 => bif x3 then some (b1, a1, W (swaps1 + 1), data1) else some (a1, b1, swaps1, data1)
section
attribute [local irreducible] awp aops DP PCall ACall Decidable.decide
theorem dslices_order2Ordered_uint64_l {fu : Nat} {data1 : List Int} {a1 : Int} {b1 : Int} {swaps1 : Int} {r : Int × Int × Int × (List Int)} (h : dslices_order2Ordered_uint64 fu data1 a1 b1 swaps1 = some r) : ACall Try.prog 132 2 [.own 0, .int .i64 a1, .int .i64 b1, .ptr 1 0] [(1, 0, .int .i64 swaps1)] [(0, .wr 1 (data1.map (cI .u64)))] (fun r_ H_ O_ n_ => r_ = .tup [.int .i64 r.1, .int .i64 r.2.1] ∧ H_ = [(1, 0, .int .i64 r.2.2.1)] ∧ O_ = [(0, .wr 1 (r.2.2.2.map (cI .u64)))] ∧ n_ = 2) := by
  rw [dslices_order2Ordered_uint64] at h
  refine acall_body Try.func132 rfl (by kernel_rfl) (by rfl) ?_
  refine awp_seq ?_
  refine awp_region ?_
  refine rvs 2 rfl ?_
  refine rn ?_
  refine awp_seq ?_
  refine awp_seq ?_
  refine awp_dp (m := 9) Try.mix (by kernel_rfl) (by kernel_rfl) (by kernel_rfl) (by kernel_rfl) (by kernel_rfl) (by kernel_rfl) (by kernel_rfl) ?_
  refine dv rfl rfl (fun _ => rfl) ?_
  refine dv rfl rfl (fun _ => rfl) ?_
  obtain ⟨x1, hx1, h⟩ := bi h
  refine dV rfl rfl (fun _ => va_place rfl rfl rfl rfl rfl rfl rfl (gi0 hx1) (giLM (cI .u64) hx1)) ?_
  refine dV rfl rfl (fun _ => va_loadE rfl rfl rfl (giM (cI .u64) hx1) rfl rfl) ?_
  refine dv rfl rfl (fun _ => rfl) ?_
  refine dv rfl rfl (fun _ => rfl) ?_
  obtain ⟨x2, hx2, h⟩ := bi h
  refine dV rfl rfl (fun _ => va_place rfl rfl rfl rfl rfl rfl rfl (gi0 hx2) (giLM (cI .u64) hx2)) ?_
  refine dV rfl rfl (fun _ => va_loadE rfl rfl rfl (giM (cI .u64) hx2) rfl rfl) ?_
  obtain ⟨x3, hx3, h⟩ := bi h
  refine dc rfl rfl rfl rfl (fun _ => rfl) (fun _ => (dcmp_Less_uint64_l hx3)) ?_
  refine dn ?_
  refine rn ?_
  refine cs_ rfl (fun hc => ?_) (fun hc => ?_)
  · have h := cT hc h
    refine awp_seq ?_
    refine awp_region ?_
    refine rvs 5 rfl ?_
    refine rs rfl rfl rfl rfl rfl rfl rfl ?_
    refine rn ?_
    refine awp_seq ?_
    refine awp_region ?_
    refine rvs 4 rfl ?_
    refine rn ?_
    refine awp_ret ?_
    have h := Option.some.inj h
    subst h
    repeat (first | refine then_ret ?_ | refine inBlock_ret ?_ | refine cut_r ?_)
    exact rrA (r := .tup [.int .i64 b1, .int .i64 a1]) [0, 1] [(1, 0, .int .i64 (W (swaps1 + 1)))] [(0, .wr 1 (data1.map (cI .u64)))] rfl rfl rfl rfl (zC rfl rfl rfl rfl (trivial)) (zE rfl (.wr (lmM (fun _ => rfl) _)) rfl (trivial)) ⟨rfl, rfl, rfl, rfl⟩
  · have h := cF hc h
    refine awp_skip ?_
    refine awp_seq ?_
    refine awp_region ?_
    refine rvs 4 rfl ?_
    refine rn ?_
    refine awp_ret ?_
    have h := Option.some.inj h
    subst h
    repeat (first | refine then_ret ?_ | refine inBlock_ret ?_ | refine cut_r ?_)
    exact rrA (r := .tup [.int .i64 a1, .int .i64 b1]) [0, 1] [(1, 0, .int .i64 swaps1)] [(0, .wr 1 (data1.map (cI .u64)))] rfl rfl rfl rfl (zC rfl rfl rfl rfl (trivial)) (zE rfl (.wr (lmM (fun _ => rfl) _)) rfl (trivial)) ⟨rfl, rfl, rfl, rfl⟩
end

/-- `slices.medianOrdered[uint64]` -/
def dslices_medianOrdered_uint64 (fu : Nat) (data1 : List Int) (a1 : Int) (b1 : Int) (c1 : Int) (swaps1 : Int) : Option (Int × Int × (List Int)) :=
  (dslices_order2Ordered_uint64 fu data1 a1 b1 swaps1).bind fun a2 => (dslices_order2Ordered_uint64 fu a2.2.2.2 a2.2.1 c1 a2.2.2.1).bind fun b2 => (dslices_order2Ordered_uint64 fu b2.2.2.2 a2.1 b2.1 b2.2.2.1).bind fun a3 => some (a3.2.1, a3.2.2.1, a3.2.2.2)
section
attribute [local irreducible] awp aops DP PCall ACall Decidable.decide
theorem dslices_medianOrdered_uint64_l {fu : Nat} {data1 : List Int} {a1 : Int} {b1 : Int} {c1 : Int} {swaps1 : Int} {r : Int × Int × (List Int)} (h : dslices_medianOrdered_uint64 fu data1 a1 b1 c1 swaps1 = some r) : ACall Try.prog 130 2 [.own 0, .int .i64 a1, .int .i64 b1, .int .i64 c1, .ptr 1 0] [(1, 0, .int .i64 swaps1)] [(0, .wr 1 (data1.map (cI .u64)))] (fun r_ H_ O_ n_ => r_ = .int .i64 r.1 ∧ H_ = [(1, 0, .int .i64 r.2.1)] ∧ O_ = [(0, .wr 1 (r.2.2.map (cI .u64)))] ∧ n_ = 2) := by
  rw [dslices_medianOrdered_uint64] at h
  refine acall_body Try.func130 rfl (by kernel_rfl) (by rfl) ?_
  refine awp_seq ?_
  refine awp_region ?_
  refine rv rfl rfl ?_
  refine rn ?_
  refine awp_seq ?_
  refine awp_region ?_
  refine rvs 4 rfl ?_
  obtain ⟨a2, hx1, h⟩ := bi h
  refine rh [0, 1] rfl rfl (dslices_order2Ordered_uint64_l hx1) rfl rfl rfl (zC rfl rfl rfl rfl (trivial)) (zE rfl (.wr (lmM (fun _ => rfl) _)) rfl (trivial)) ?_
  refine ek ?_
  refine as1 rfl ?_
  refine ae rfl rfl rfl ?_
  refine rkO (wO (fun _ => rfl) (rfl)) ?_
  refine rvs 5 rfl ?_
  refine rn ?_
  refine awp_seq ?_
  refine awp_region ?_
  refine rvs 4 rfl ?_
  obtain ⟨b2, hx2, h⟩ := bi h
  refine rh [0, 1] rfl rfl (dslices_order2Ordered_uint64_l hx2) rfl rfl rfl (zC rfl rfl rfl rfl (trivial)) (zE rfl (.wr (lmM (fun _ => rfl) _)) rfl (trivial)) ?_
  refine ek ?_
  refine as1 rfl ?_
  refine ae rfl rfl rfl ?_
  refine rkO (wO (fun _ => rfl) (rfl)) ?_
  refine rvs 5 rfl ?_
  refine rn ?_
  refine awp_seq ?_
  refine awp_region ?_
  refine rvs 4 rfl ?_
  obtain ⟨a3, hx3, h⟩ := bi h
  refine rh [0, 1] rfl rfl (dslices_order2Ordered_uint64_l hx3) rfl rfl rfl (zC rfl rfl rfl rfl (trivial)) (zE rfl (.wr (lmM (fun _ => rfl) _)) rfl (trivial)) ?_
  refine ek ?_
  refine as1 rfl ?_
  refine ae rfl rfl rfl ?_
  refine rkO (wO (fun _ => rfl) (rfl)) ?_
  refine rvs 5 rfl ?_
  refine rn ?_
  refine awp_seq ?_
  refine awp_region ?_
  refine rvs 2 rfl ?_
  refine rn ?_
  refine awp_ret ?_
  have h := Option.some.inj h
  subst h
  repeat (first | refine then_ret ?_ | refine inBlock_ret ?_ | refine cut_r ?_)
  exact rrA (r := .int .i64 a3.2.1) [0, 1] [(1, 0, .int .i64 a3.2.2.1)] [(0, .wr 1 (a3.2.2.2.map (cI .u64)))] rfl rfl rfl rfl (zC rfl rfl rfl rfl (trivial)) (zE rfl (.wr (lmM (fun _ => rfl) _)) rfl (trivial)) ⟨rfl, rfl, rfl, rfl⟩
end

/-- `slices.medianAdjacentOrdered[uint64]` -/
def dslices_medianAdjacentOrdered_uint64 (fu : Nat) (data1 : List Int) (a1 : Int) (swaps1 : Int) : Option (Int × Int × (List Int)) :=
  (dslices_medianOrdered_uint64 fu data1 (W (a1 - 1)) a1 (W (a1 + 1)) swaps1).bind fun x1 => some (x1.1, x1.2.1, x1.2.2)
section
attribute [local irreducible] awp aops DP PCall ACall Decidable.decide
theorem dslices_medianAdjacentOrdered_uint64_l {fu : Nat} {data1 : List Int} {a1 : Int} {swaps1 : Int} {r : Int × Int × (List Int)} (h : dslices_medianAdjacentOrdered_uint64 fu data1 a1 swaps1 = some r) : ACall Try.prog 129 2 [.own 0, .int .i64 a1, .ptr 1 0] [(1, 0, .int .i64 swaps1)] [(0, .wr 1 (data1.map (cI .u64)))] (fun r_ H_ O_ n_ => r_ = .int .i64 r.1 ∧ H_ = [(1, 0, .int .i64 r.2.1)] ∧ O_ = [(0, .wr 1 (r.2.2.map (cI .u64)))] ∧ n_ = 2) := by
  rw [dslices_medianAdjacentOrdered_uint64] at h
  refine acall_body Try.func129 rfl (by kernel_rfl) (by rfl) ?_
  refine awp_seq ?_
  refine awp_region ?_
  refine rv rfl rfl ?_
  refine rn ?_
  refine awp_seq ?_
  refine awp_region ?_
  refine rvs 7 rfl ?_
  obtain ⟨x1, hx1, h⟩ := bi h
  refine rh [0, 1] rfl rfl (dslices_medianOrdered_uint64_l hx1) rfl rfl rfl (zC rfl rfl rfl rfl (trivial)) (zE rfl (.wr (lmM (fun _ => rfl) _)) rfl (trivial)) ?_
  refine ek ?_
  refine as1 rfl ?_
  refine ae rfl rfl rfl ?_
  refine rkO (wO (fun _ => rfl) (rfl)) ?_
  refine rv rfl rfl ?_
  refine rn ?_
  refine awp_ret ?_
  have h := Option.some.inj h
  subst h
  repeat (first | refine then_ret ?_ | refine inBlock_ret ?_ | refine cut_r ?_)
  exact rrA (r := .int .i64 x1.1) [0, 1] [(1, 0, .int .i64 x1.2.1)] [(0, .wr 1 (x1.2.2.map (cI .u64)))] rfl rfl rfl rfl (zC rfl rfl rfl rfl (trivial)) (zE rfl (.wr (lmM (fun _ => rfl) _)) rfl (trivial)) ⟨rfl, rfl, rfl, rfl⟩
end

/-- `slices.choosePivotOrdered[uint64]` -/
def dslices_choosePivotOrdered_uint64 (fu : Nat) (data1 : List Int) (a1 : Int) (b1 : Int) : Option (Int × Int × (List Int)) :=
  (quoV .i64 (W (b1 - a1)) 4).bind fun q1 => (some (W (a1 + (W (q1 * 1))))).bind fun i1 => (quoV .i64 (W (b1 - a1)) 4).bind fun q2 => (some (W (a1 + (W (q2 * 2))))).bind fun j1 => (quoV .i64 (W (b1 - a1)) 4).bind fun q3 => (some (W (a1 + (W (q3 * 3))))).bind fun k1 => (bif (decide ((W (b1 - a1)) ≥ 8)) then ((bif (decide ((W (b1 - a1)) ≥ 50)) then ((dslices_medianAdjacentOrdered_uint64 fu data1 i1 0).bind fun i3 => (dslices_medianAdjacentOrdered_uint64 fu i3.2.2 j1 i3.2.1).bind fun j4 => (dslices_medianAdjacentOrdered_uint64 fu j4.2.2 k1 j4.2.1).bind fun k3 => some (i3.1, j4.1, k3.1, k3.2.1, k3.2.2)) else some (i1, j1, k1, 0, data1) : Option (Int × Int × Int × Int × (List Int))).bind fun (((i2, j3, k2, swaps2, data2)) : Int × Int × Int × Int × (List Int)) => ((dslices_medianOrdered_uint64 fu data2 i2 j3 k2 swaps2).bind fun j5 => some (j5.1, j5.2.1, j5.2.2))) else some (j1, 0, data1) : Option (Int × Int × (List Int))).bind fun (((j2, swaps1, l1)) : Int × Int × (List Int)) => (bif (swaps1 == 0) then some (j2, 1, l1) else (bif (swaps1 == 12) then some (j2, 2, l1) else some (j2, 0, l1)))
section
attribute [local irreducible] awp aops DP PCall ACall Decidable.decide
theorem dslices_choosePivotOrdered_uint64_l {fu : Nat} {data1 : List Int} {a1 : Int} {b1 : Int} {r : Int × Int × (List Int)} (h : dslices_choosePivotOrdered_uint64 fu data1 a1 b1 = some r) : ACall Try.prog 118 1 [.own 0, .int .i64 a1, .int .i64 b1] [] [(0, .wr 1 (data1.map (cI .u64)))] (fun r_ H_ O_ n_ => r_ = .tup [.int .i64 r.1, .int .i64 r.2.1] ∧ H_ = [] ∧ O_ = [(0, .wr 1 (r.2.2.map (cI .u64)))] ∧ n_ = 1) := by
  rw [dslices_choosePivotOrdered_uint64] at h
  refine acall_body Try.func118 rfl (by kernel_rfl) (by rfl) ?_
  refine awp_seq ?_
  refine awp_region ?_
  refine rvs 2 rfl ?_
  refine rn ?_
  refine awp_seq ?_
  refine awp_region ?_
  refine rvs 4 rfl ?_
  refine rn ?_
  refine awp_seq ?_
  refine awp_region ?_
  refine ra rfl rfl rfl ?_
  refine rn ?_
  refine awp_seq ?_
  refine awp_region ?_
  refine rvs 2 rfl ?_
  obtain ⟨q1, hx1, h⟩ := bi h
  refine rV rfl (va_quo rfl rfl hx1) ?_
  refine rvs 3 rfl ?_
  obtain ⟨i1, hx2, h⟩ := bs h
  refine rt (ei' hx2) ?_
  refine rn ?_
  refine awp_seq ?_
  refine awp_region ?_
  refine rvs 2 rfl ?_
  obtain ⟨q2, hx3, h⟩ := bi h
  refine rV rfl (va_quo rfl rfl hx3) ?_
  refine rvs 3 rfl ?_
  obtain ⟨j1, hx4, h⟩ := bs h
  refine rt (ei' hx4) ?_
  refine rn ?_
  refine awp_seq ?_
  refine awp_region ?_
  refine rvs 2 rfl ?_
  obtain ⟨q3, hx5, h⟩ := bi h
  refine rV rfl (va_quo rfl rfl hx5) ?_
  refine rvs 3 rfl ?_
  obtain ⟨k1, hx6, h⟩ := bs h
  refine rt (ei' hx6) ?_
  refine rn ?_
  refine awp_seq ?_
  refine awp_seq ?_
  refine awp_region ?_
  refine rvs 2 rfl ?_
  refine rn ?_
  obtain ⟨o7, ho8, h⟩ := bi h
  refine awp_cut1 (fun x => x = o7) (fun (((j2, swaps1, l1)) : Int × Int × (List Int)) => ⟨[(9, .ptr 1 0), (11, .int .i64 j2)], [(1, 0, .int .i64 swaps1)], [(0, .wr 1 (l1.map (cI .u64)))], 2⟩) ?_ ?_
  · refine cs_ rfl (fun hc => ?_) (fun hc => ?_)
    · have ho8 := cT hc ho8
      refine awp_seq ?_
      refine awp_seq ?_
      refine awp_region ?_
      refine rvs 2 rfl ?_
      refine rn ?_
      obtain ⟨o9, ho10, ho8⟩ := bi ho8
      refine awp_cut1 (fun x => x = o9) (fun (((i2, j3, k2, swaps2, data2)) : Int × Int × Int × Int × (List Int)) => ⟨[(0, .own 0), (9, .ptr 1 0), (10, .int .i64 i2), (11, .int .i64 j3), (12, .int .i64 k2)], [(1, 0, .int .i64 swaps2)], [(0, .wr 1 (data2.map (cI .u64)))], 2⟩) ?_ ?_
      · refine cs_ rfl (fun hc => ?_) (fun hc => ?_)
        · have ho10 := cT hc ho10
          refine awp_seq ?_
          refine awp_region ?_
          refine rvs 2 rfl ?_
          obtain ⟨i3, hx11, ho10⟩ := bi ho10
          refine rh [0, 1] rfl rfl (dslices_medianAdjacentOrdered_uint64_l hx11) rfl rfl rfl (zC rfl rfl rfl rfl (trivial)) (zE rfl (.wr (lmM (fun _ => rfl) _)) rfl (trivial)) ?_
          refine ek ?_
          refine as1 rfl ?_
          refine ae rfl rfl rfl ?_
          refine rkO (wO (fun _ => rfl) (rfl)) ?_
          refine rv rfl rfl ?_
          refine rn ?_
          refine awp_seq ?_
          refine awp_region ?_
          refine rvs 2 rfl ?_
          obtain ⟨j4, hx12, ho10⟩ := bi ho10
          refine rh [0, 1] rfl rfl (dslices_medianAdjacentOrdered_uint64_l hx12) rfl rfl rfl (zC rfl rfl rfl rfl (trivial)) (zE rfl (.wr (lmM (fun _ => rfl) _)) rfl (trivial)) ?_
          refine ek ?_
          refine as1 rfl ?_
          refine ae rfl rfl rfl ?_
          refine rkO (wO (fun _ => rfl) (rfl)) ?_
          refine rv rfl rfl ?_
          refine rn ?_
          refine awp_region ?_
          refine rvs 2 rfl ?_
          obtain ⟨k3, hx13, ho10⟩ := bi ho10
          refine rh [0, 1] rfl rfl (dslices_medianAdjacentOrdered_uint64_l hx13) rfl rfl rfl (zC rfl rfl rfl rfl (trivial)) (zE rfl (.wr (lmM (fun _ => rfl) _)) rfl (trivial)) ?_
          refine ek ?_
          refine as1 rfl ?_
          refine ae rfl rfl rfl ?_
          refine rkO (wO (fun _ => rfl) (rfl)) ?_
          refine rv rfl rfl ?_
          refine rn ?_
          cases ho10
          exact cut_n [0, 1] rfl rfl ⟨rfl, rfl, zA rfl rfl rfl (zA rfl rfl rfl (zA rfl rfl rfl (zA rfl rfl rfl (zA rfl rfl rfl (trivial))))), zC rfl rfl rfl rfl (trivial), zE rfl (.wr (lmM (fun _ => rfl) _)) rfl (trivial)⟩
        · have ho10 := cF hc ho10
          refine awp_skip ?_
          cases ho10
          exact cut_n [0, 1] rfl rfl ⟨rfl, rfl, zA rfl rfl rfl (zA rfl rfl rfl (zA rfl rfl rfl (zA rfl rfl rfl (zA rfl rfl rfl (trivial))))), zC rfl rfl rfl rfl (trivial), zE rfl (.wr (lmM (fun _ => rfl) _)) rfl (trivial)⟩
      · rintro ⟨i2, j3, k2, swaps2, data2⟩ rfl
        change awp _ _ _ _ _ ⟨_, _, _, _⟩
        refine awp_region ?_
        refine rvs 4 rfl ?_
        obtain ⟨j5, hx14, ho8⟩ := bi ho8
        refine rh [0, 1] rfl rfl (dslices_medianOrdered_uint64_l hx14) rfl rfl rfl (zC rfl rfl rfl rfl (trivial)) (zE rfl (.wr (lmM (fun _ => rfl) _)) rfl (trivial)) ?_
        refine ek ?_
        refine as1 rfl ?_
        refine ae rfl rfl rfl ?_
        refine rkO (wO (fun _ => rfl) (rfl)) ?_
        refine rv rfl rfl ?_
        refine rn ?_
        cases ho8
        exact cut_n [0, 1] rfl rfl ⟨rfl, rfl, zA rfl rfl rfl (zA rfl rfl rfl (trivial)), zC rfl rfl rfl rfl (trivial), zE rfl (.wr (lmM (fun _ => rfl) _)) rfl (trivial)⟩
    · have ho8 := cF hc ho8
      refine awp_skip ?_
      cases ho8
      exact cut_n [0, 1] rfl rfl ⟨rfl, rfl, zA rfl rfl rfl (zA rfl rfl rfl (trivial)), zC rfl rfl rfl rfl (trivial), zE rfl (.wr (lmM (fun _ => rfl) _)) rfl (trivial)⟩
  · rintro ⟨j2, swaps1, l1⟩ rfl
    change awp _ _ _ _ _ ⟨_, _, _, _⟩
    refine awp_seq ?_
    refine awp_region ?_
    refine rv rfl rfl ?_
    refine rn ?_
    refine awp_block ?_
    refine awp_seq ?_
    refine awp_region ?_
    refine rvs 2 rfl ?_
    refine rn ?_
    refine cs_ rfl (fun hc => ?_) (fun hc => ?_)
    · have h := cT hc h
      refine awp_seq ?_
      refine awp_region ?_
      refine rvs 3 rfl ?_
      refine rn ?_
      refine awp_ret ?_
      have h := Option.some.inj h
      subst h
      repeat (first | refine then_ret ?_ | refine inBlock_ret ?_ | refine cut_r ?_)
      exact rrA (r := .tup [.int .i64 j2, .int .i64 1]) [0] [] [(0, .wr 1 (l1.map (cI .u64)))] rfl rfl rfl rfl (trivial) (zE rfl (.wr (lmM (fun _ => rfl) _)) rfl (trivial)) ⟨rfl, rfl, rfl, rfl⟩
    · have h := cF hc h
      refine awp_seq ?_
      refine awp_region ?_
      refine rvs 2 rfl ?_
      refine rn ?_
      refine cs_ rfl (fun hc => ?_) (fun hc => ?_)
      · have h := cT hc h
        refine awp_seq ?_
        refine awp_region ?_
        refine rvs 3 rfl ?_
        refine rn ?_
        refine awp_ret ?_
        have h := Option.some.inj h
        subst h
        repeat (first | refine then_ret ?_ | refine inBlock_ret ?_ | refine cut_r ?_)
        exact rrA (r := .tup [.int .i64 j2, .int .i64 2]) [0] [] [(0, .wr 1 (l1.map (cI .u64)))] rfl rfl rfl rfl (trivial) (zE rfl (.wr (lmM (fun _ => rfl) _)) rfl (trivial)) ⟨rfl, rfl, rfl, rfl⟩
      · have h := cF hc h
        refine awp_seq ?_
        refine awp_region ?_
        refine rvs 3 rfl ?_
        refine rn ?_
        refine awp_ret ?_
        have h := Option.some.inj h
        subst h
        repeat (first | refine then_ret ?_ | refine inBlock_ret ?_ | refine cut_r ?_)
        exact rrA (r := .tup [.int .i64 j2, .int .i64 0]) [0] [] [(0, .wr 1 (l1.map (cI .u64)))] rfl rfl rfl rfl (trivial) (zE rfl (.wr (lmM (fun _ => rfl) _)) rfl (trivial)) ⟨rfl, rfl, rfl, rfl⟩
end

/-- `slices.reverseRangeOrdered[uint64]` -/
def dslices_reverseRangeOrdered_uint64 (fu : Nat) (data1 : List Int) (a1 : Int) (b1 : Int) : Option (List Int) :=
  (loopD (ε := Int × Int × (List Int)) (τ := List Int) (fun (((i1, j1, data2)) : Int × Int × (List Int)) => (bif (decide (i1 < j1)) then ((gi data2 j1).bind fun x4 => (gi data2 i1).bind fun x5 => (gi data2 i1).bind fun x6 => (sti data2 i1 x4).bind fun data4 => (gi data4 j1).bind fun x7 => (sti data4 j1 x5).bind fun data5 => some (Sum.inl (W (i1 + 1), W (j1 - 1), data5))) else some (Sum.inr data2))) fu (a1, W (b1 - 1), data1)).bind fun (l1 : List Int) => some l1
section
attribute [local irreducible] awp aops DP PCall ACall Decidable.decide
theorem dslices_reverseRangeOrdered_uint64_l {fu : Nat} {data1 : List Int} {a1 : Int} {b1 : Int} {r : List Int} (h : dslices_reverseRangeOrdered_uint64 fu data1 a1 b1 = some r) : ACall Try.prog 119 1 [.own 0, .int .i64 a1, .int .i64 b1] [] [(0, .wr 1 (data1.map (cI .u64)))] (fun r_ H_ O_ n_ => r_ = .tup [] ∧ H_ = [] ∧ O_ = [(0, .wr 1 (r.map (cI .u64)))] ∧ n_ = 1) := by
  rw [dslices_reverseRangeOrdered_uint64] at h
  refine acall_body Try.func119 rfl (by kernel_rfl) (by rfl) ?_
  refine awp_seq ?_
  refine awp_region ?_
  refine rvs 2 rfl ?_
  refine rn ?_
  refine awp_seq ?_
  refine awp_region ?_
  refine rvs 3 rfl ?_
  refine rn ?_
  obtain ⟨e1, hl2, h⟩ := bi h
  refine awp_cut1 (fun x => x = e1) (fun (l1 : List Int) => ⟨[], [], [(0, .wr 1 (l1.map (cI .u64)))], 1⟩) ?_ ?_
  · refine awp_block ?_
    refine awp_loopD hl2 (fun (((i1, j1, data2)) : Int × Int × (List Int)) => ⟨[(0, .own 0), (6, .int .i64 i1), (7, .int .i64 j1)], [], [(0, .wr 1 (data2.map (cI .u64)))], 1⟩) [0] rfl ⟨rfl, rfl, zA rfl rfl rfl (zA rfl rfl rfl (zA rfl rfl rfl (trivial))), trivial, zE rfl (.wr (lmM (fun _ => rfl) _)) rfl (trivial)⟩ ?_
    intro v o5 ho3 hE4
    obtain ⟨i1, j1, data2⟩ := v
    change awp _ _ _ _ _ ⟨_, _, _, _⟩
    refine awp_seq ?_
    refine awp_seq ?_
    refine awp_region ?_
    refine rvs 3 rfl ?_
    refine rn ?_
    refine cs_ rfl (fun hc => ?_) (fun hc => ?_)
    · have ho3 := cT hc ho3
      refine awp_skip ?_
      refine awp_block ?_
      refine awp_seq ?_
      refine awp_dx (m := 15) [[10, 11, 13]] Try.mix (by kernel_rfl) (by kernel_rfl) (by kernel_rfl) (by kernel_rfl) (by kernel_rfl) (by kernel_rfl) ?_
      refine xv [] rfl rfl (fun _ => rfl) ?_
      refine xv [] rfl rfl (fun _ => rfl) ?_
      refine xv [] rfl rfl (fun _ => rfl) ?_
      refine xv [] rfl rfl (fun _ => rfl) ?_
      refine xv [] rfl rfl (fun _ => rfl) ?_
      refine xv [] rfl rfl (fun _ => rfl) ?_
      obtain ⟨x4, hx9, ho3⟩ := bi ho3
      refine xV [0] rfl rfl (fun _ => va_place rfl rfl rfl rfl rfl rfl rfl (gi0 hx9) (giLM (cI .u64) hx9)) ?_
      refine xV [0] rfl rfl (fun _ => va_loadE rfl rfl rfl (giM (cI .u64) hx9) rfl rfl) ?_
      refine xv [] rfl rfl (fun _ => rfl) ?_
      refine xv [] rfl rfl (fun _ => rfl) ?_
      obtain ⟨x5, hx10, ho3⟩ := bi ho3
      refine xV [0] rfl rfl (fun _ => va_place rfl rfl rfl rfl rfl rfl rfl (gi0 hx10) (giLM (cI .u64) hx10)) ?_
      refine xV [0] rfl rfl (fun _ => va_loadE rfl rfl rfl (giM (cI .u64) hx10) rfl rfl) ?_
      obtain ⟨x6, hx11, ho3⟩ := bi ho3
      refine xV [0] rfl rfl (fun _ => va_place rfl rfl rfl rfl rfl rfl rfl (gi0 hx11) (giLM (cI .u64) hx11)) ?_
      obtain ⟨data4, hx12, ho3⟩ := bi ho3
      obtain ⟨o1, ho13⟩ := stG hx12
      refine xW [0] .any 1 _ _ rfl rfl (by
          refine rse rfl rfl rfl (giM (cI .u64) ho13) rfl rfl rfl rfl rfl ?_
          refine rk (congrArg (Kind.wr _) (stM (cI .u64) hx12)) ?_
          exact rn ⟨rfl, rfl⟩) (by rfl) (by rfl) (by repeat (first | exact oi0 | refine oi1 (by first | exact trivial | exact ki_wr (lmM (fun _ => rfl) _)) ?_)) (by rfl) (by rfl) ?_
      obtain ⟨x7, hx14, ho3⟩ := bi ho3
      refine xV [0] rfl rfl (fun _ => va_place rfl rfl rfl rfl rfl rfl rfl (gi0 hx14) (giLM (cI .u64) hx14)) ?_
      refine xn (by kernel_rfl) ?_
      obtain ⟨data5, hx15, ho3⟩ := bi ho3
      obtain ⟨o2, ho16⟩ := stG hx15
      refine rse rfl rfl rfl (giM (cI .u64) ho16) rfl rfl rfl rfl rfl ?_
      refine rk (congrArg (Kind.wr _) (stM (cI .u64) hx15)) ?_
      refine rn ?_
      refine awp_seq ?_
      refine awp_region ?_
      refine rvs 3 rfl ?_
      refine rn ?_
      refine awp_region ?_
      refine rvs 3 rfl ?_
      refine rn ?_
      refine inBlock_normal ?_
      cases ho3
      exact lp_n [0] rfl rfl ⟨rfl, rfl, zA rfl rfl rfl (zA rfl rfl rfl (zA rfl rfl rfl (trivial))), trivial, zE rfl (.wr (lmM (fun _ => rfl) _)) rfl (trivial)⟩
    · have ho3 := cF hc ho3
      refine awp_exit ?_
      repeat (first | refine then_exit ?_ | refine cut_x ?_ | refine inBlock_other rfl ?_)
      refine inBlock_exit ?_
      cases ho3
      have hq := hE4 _ rfl
      subst hq
      exact cut_n [0] rfl rfl ⟨rfl, rfl, trivial, trivial, zE rfl (.wr (lmM (fun _ => rfl) _)) rfl (trivial)⟩
  · rintro l1 rfl
    have h := Option.some.inj h
    subst h
    exact rrA' (r := .tup []) [0] [] [(0, .wr 1 (l1.map (cI .u64)))] rfl rfl rfl rfl (trivial) (zE rfl (.wr (lmM (fun _ => rfl) _)) rfl (trivial)) ⟨rfl, rfl, rfl, rfl⟩
end

/-- `slices.partialInsertionSortOrdered[uint64]` -/
def dslices_partialInsertionSortOrdered_uint64 (fu : Nat) (data1 : List Int) (a1 : Int) (b1 : Int) : Option (Bool × (List Int)) :=
  (loopD (ε := Int × Int × (List Int)) (τ := (List Int) ⊕ (Bool × (List Int))) (fun (((i1, j1, data2)) : Int × Int × (List Int)) => (bif (decide (j1 < 5)) then (((loopD (ε := Int) (τ := Int) (fun (i4 : Int) => ((bif (decide (i4 < b1)) then ((gi data2 i4).bind fun x2 => (gi data2 (W (i4 - 1))).bind fun x3 => (dcmp_Less_uint64 fu x2 x3).bind fun x4 => some (!x4)) else some false : Option Bool).bind fun (x1 : Bool) => (bif x1 then some (Sum.inl (W (i4 + 1))) else some (Sum.inr i4)))) fu i1).bind fun (i6 : Int) => (bif (i6 == b1) then some (Sum.inr (Sum.inr (Sum.inr (true, data2)))) else (bif (decide ((W (b1 - a1)) < 50)) then some (Sum.inr (Sum.inr (Sum.inr (false, data2)))) else ((gi data2 (W (i6 - 1))).bind fun x8 => (gi data2 i6).bind fun x9 => (gi data2 i6).bind fun x10 => (sti data2 i6 x8).bind fun data5 => (gi data5 (W (i6 - 1))).bind fun x11 => (sti data5 (W (i6 - 1)) x9).bind fun data6 => (bif (decide ((W (i6 - a1)) ≥ 2)) then ((loopD (ε := Int × (List Int)) (τ := List Int) (fun (((j3, data8)) : Int × (List Int)) => (bif (decide (j3 ≥ 1)) then ((gi data8 j3).bind fun x12 => (gi data8 (W (j3 - 1))).bind fun x13 => (dcmp_Less_uint64 fu x12 x13).bind fun x14 => bif (!x14) then some (Sum.inr data8) else ((gi data8 (W (j3 - 1))).bind fun x18 => (gi data8 j3).bind fun x19 => (gi data8 j3).bind fun x20 => (sti data8 j3 x18).bind fun data11 => (gi data11 (W (j3 - 1))).bind fun x21 => (sti data11 (W (j3 - 1)) x19).bind fun data12 => some (Sum.inl (W (j3 - 1), data12)))) else some (Sum.inr data8))) fu (W (i6 - 1), data6)).bind fun (data10 : List Int) => some data10) else some data6 : Option (List Int)).bind fun (data7 : List Int) => (bif (decide ((W (b1 - i6)) ≥ 2)) then ((loopD (ε := Int × (List Int)) (τ := List Int) (fun (((j5, data13)) : Int × (List Int)) => (bif (decide (j5 < b1)) then ((gi data13 j5).bind fun x22 => (gi data13 (W (j5 - 1))).bind fun x23 => (dcmp_Less_uint64 fu x22 x23).bind fun x24 => bif (!x24) then some (Sum.inr data13) else ((gi data13 (W (j5 - 1))).bind fun x28 => (gi data13 j5).bind fun x29 => (gi data13 j5).bind fun x30 => (sti data13 j5 x28).bind fun data16 => (gi data16 (W (j5 - 1))).bind fun x31 => (sti data16 (W (j5 - 1)) x29).bind fun data17 => some (Sum.inl (W (j5 + 1), data17)))) else some (Sum.inr data13))) fu (W (i6 + 1), data7)).bind fun (data15 : List Int) => some (Sum.inl (i6, data15))) else some (Sum.inl (i6, data7)))))) : Option ((Int × (List Int)) ⊕ ((Int × Int × (List Int)) ⊕ ((List Int) ⊕ (Bool × (List Int)))))).bind fun o => kS o fun (((i3, data4)) : Int × (List Int)) => some (Sum.inl (i3, W (j1 + 1), data4))) else some (Sum.inr (Sum.inl data2)))) fu (W (a1 + 1), 0, data1)).bind fun o => kS o fun (l1 : List Int) => some (false, l1)
section
attribute [local irreducible] awp aops DP PCall ACall Decidable.decide
theorem dslices_partialInsertionSortOrdered_uint64_l {fu : Nat} {data1 : List Int} {a1 : Int} {b1 : Int} {r : Bool × (List Int)} (h : dslices_partialInsertionSortOrdered_uint64 fu data1 a1 b1 = some r) : ACall Try.prog 120 1 [.own 0, .int .i64 a1, .int .i64 b1] [] [(0, .wr 1 (data1.map (cI .u64)))] (fun r_ H_ O_ n_ => r_ = .bool r.1 ∧ H_ = [] ∧ O_ = [(0, .wr 1 (r.2.map (cI .u64)))] ∧ n_ = 1) := by
  rw [dslices_partialInsertionSortOrdered_uint64] at h
  refine acall_body Try.func120 rfl (by kernel_rfl) (by rfl) ?_
  refine awp_seq ?_
  refine awp_region ?_
  refine rv rfl rfl ?_
  refine rn ?_
  refine awp_seq ?_
  refine awp_region ?_
  refine rvs 3 rfl ?_
  refine rn ?_
  refine awp_seq ?_
  refine awp_seq ?_
  refine awp_region ?_
  refine rv rfl rfl ?_
  refine rn ?_
  obtain ⟨e1, hl2, h⟩ := bi h
  refine awp_cut1 (fun x => Sum.inl x = e1) (fun (l1 : List Int) => ⟨[], [], [(0, .wr 1 (l1.map (cI .u64)))], 1⟩) ?_ ?_
  · refine awp_block ?_
    refine awp_loopD hl2 (fun (((i1, j1, data2)) : Int × Int × (List Int)) => ⟨[(0, .own 0), (1, .int .i64 a1), (2, .int .i64 b1), (7, .int .i64 i1), (8, .int .i64 j1)], [], [(0, .wr 1 (data2.map (cI .u64)))], 1⟩) [0] rfl ⟨rfl, rfl, zA rfl rfl rfl (zA rfl rfl rfl (zA rfl rfl rfl (zA rfl rfl rfl (zA rfl rfl rfl (trivial))))), trivial, zE rfl (.wr (lmM (fun _ => rfl) _)) rfl (trivial)⟩ ?_
    intro v o5 ho3 hE4
    obtain ⟨i1, j1, data2⟩ := v
    change awp _ _ _ _ _ ⟨_, _, _, _⟩
    refine awp_seq ?_
    refine awp_seq ?_
    refine awp_region ?_
    refine rvs 2 rfl ?_
    refine rn ?_
    refine cs_ rfl (fun hc => ?_) (fun hc => ?_)
    · have ho3 := cT hc ho3
      refine awp_skip ?_
      refine awp_seq ?_
      obtain ⟨o6, ho7, ho3⟩ := bi ho3
      refine awp_cut1 (fun x => Sum.inl x = o6) (fun (((i3, data4)) : Int × (List Int)) => ⟨[(0, .own 0), (1, .int .i64 a1), (2, .int .i64 b1), (7, .int .i64 i3), (8, .int .i64 j1)], [], [(0, .wr 1 (data4.map (cI .u64)))], 1⟩) ?_ ?_
      · refine awp_block ?_
        refine awp_seq ?_
        obtain ⟨e8, hl9, ho7⟩ := bi ho7
        refine awp_cut1 (fun x => x = e8) (fun (i6 : Int) => ⟨[(0, .own 0), (1, .int .i64 a1), (2, .int .i64 b1), (7, .int .i64 i6), (8, .int .i64 j1)], [], [(0, .wr 1 (data2.map (cI .u64)))], 1⟩) ?_ ?_
        · refine awp_block ?_
          refine awp_loopD hl9 (fun (i4 : Int) => ⟨[(0, .own 0), (1, .int .i64 a1), (2, .int .i64 b1), (7, .int .i64 i4), (8, .int .i64 j1)], [], [(0, .wr 1 (data2.map (cI .u64)))], 1⟩) [0] rfl ⟨rfl, rfl, zA rfl rfl rfl (zA rfl rfl rfl (zA rfl rfl rfl (zA rfl rfl rfl (zA rfl rfl rfl (trivial))))), trivial, zE rfl (.wr (lmM (fun _ => rfl) _)) rfl (trivial)⟩ ?_
          intro i4 o12 ho10 hE11
          change awp _ _ _ _ _ ⟨_, _, _, _⟩
          refine awp_seq ?_
          refine awp_seq ?_
          obtain ⟨o13, ho14, ho10⟩ := bi ho10
          refine awp_cut1 (fun x => x = o13) (fun (x1 : Bool) => ⟨[(0, .own 0), (1, .int .i64 a1), (2, .int .i64 b1), (7, .int .i64 i4), (8, .int .i64 j1), (32, .bool x1)], [], [(0, .wr 1 (data2.map (cI .u64)))], 1⟩) ?_ ?_
          · refine awp_dp (m := 16) Try.mix (by kernel_rfl) (by kernel_rfl) (by kernel_rfl) (by kernel_rfl) (by kernel_rfl) (by kernel_rfl) (by kernel_rfl) ?_
            refine dv rfl rfl (fun _ => rfl) ?_
            refine dv rfl rfl (fun _ => rfl) ?_
            refine dv rfl rfl (fun _ => rfl) ?_
            refine dv rfl rfl (fun _ => rfl) ?_
            refine ds rfl rfl (fun hg => ?_) (fun hg => ?_)
            · have ho14 := cT hg ho14
              refine dv rfl rfl (fun _ => rfl) ?_
              refine dv rfl rfl (fun _ => rfl) ?_
              obtain ⟨x2, hx15, ho14⟩ := bi ho14
              refine dV rfl rfl (fun _ => va_place rfl rfl rfl rfl rfl rfl rfl (gi0 hx15) (giLM (cI .u64) hx15)) ?_
              refine dV rfl rfl (fun _ => va_loadE rfl rfl rfl (giM (cI .u64) hx15) rfl rfl) ?_
              refine dv rfl rfl (fun _ => rfl) ?_
              refine dv rfl rfl (fun _ => rfl) ?_
              refine dv rfl rfl (fun _ => rfl) ?_
              obtain ⟨x3, hx16, ho14⟩ := bi ho14
              refine dV rfl rfl (fun _ => va_place rfl rfl rfl rfl rfl rfl rfl (gi0 hx16) (giLM (cI .u64) hx16)) ?_
              refine dV rfl rfl (fun _ => va_loadE rfl rfl rfl (giM (cI .u64) hx16) rfl rfl) ?_
              obtain ⟨x4, hx17, ho14⟩ := bi ho14
              refine dc rfl rfl rfl rfl (fun _ => rfl) (fun _ => (dcmp_Less_uint64_l hx17)) ?_
              refine dv rfl rfl (fun _ => rfl) ?_
              refine dv rfl rfl (fun _ => rfl) ?_
              refine dn ?_
              refine rn ?_
              cases ho14
              exact cut_n [0] rfl rfl ⟨rfl, rfl, zA rfl rfl rfl (zA rfl rfl rfl (zA rfl rfl rfl (zA rfl rfl rfl (zA rfl rfl rfl (zA rfl rfl rfl (trivial)))))), trivial, zE rfl (.wr (lmM (fun _ => rfl) _)) rfl (trivial)⟩
            · have ho14 := cF hg ho14
              refine dno rfl rfl ?_
              refine dno rfl rfl ?_
              refine dno rfl rfl ?_
              refine dno rfl rfl ?_
              refine dno rfl rfl ?_
              refine dno rfl rfl ?_
              refine dno rfl rfl ?_
              refine dno rfl rfl ?_
              refine dno rfl rfl ?_
              refine dno rfl rfl ?_
              refine dno rfl rfl ?_
              refine dv rfl rfl (fun _ => rfl) ?_
              refine dn ?_
              refine rn ?_
              cases ho14
              exact cut_n [0] rfl rfl ⟨rfl, rfl, zA rfl rfl rfl (zA rfl rfl rfl (zA rfl rfl rfl (zA rfl rfl rfl (zA rfl rfl rfl (zA rfl rfl rfl (trivial)))))), trivial, zE rfl (.wr (lmM (fun _ => rfl) _)) rfl (trivial)⟩
          · rintro x1 rfl
            change awp _ _ _ _ _ ⟨_, _, _, _⟩
            refine cs_ rfl (fun hc => ?_) (fun hc => ?_)
            · have ho10 := cT hc ho10
              refine awp_skip ?_
              refine awp_block ?_
              refine awp_region ?_
              refine rvs 3 rfl ?_
              refine rn ?_
              refine inBlock_normal ?_
              cases ho10
              exact lp_n [0] rfl rfl ⟨rfl, rfl, zA rfl rfl rfl (zA rfl rfl rfl (zA rfl rfl rfl (zA rfl rfl rfl (zA rfl rfl rfl (trivial))))), trivial, zE rfl (.wr (lmM (fun _ => rfl) _)) rfl (trivial)⟩
            · have ho10 := cF hc ho10
              refine awp_exit ?_
              repeat (first | refine then_exit ?_ | refine cut_x ?_ | refine inBlock_other rfl ?_)
              refine inBlock_exit ?_
              cases ho10
              have hq := hE11 _ rfl
              subst hq
              exact cut_n [0] rfl rfl ⟨rfl, rfl, zA rfl rfl rfl (zA rfl rfl rfl (zA rfl rfl rfl (zA rfl rfl rfl (zA rfl rfl rfl (trivial))))), trivial, zE rfl (.wr (lmM (fun _ => rfl) _)) rfl (trivial)⟩
        · rintro i6 rfl
          change awp _ _ _ _ _ ⟨_, _, _, _⟩
          refine awp_seq ?_
          refine awp_seq ?_
          refine awp_region ?_
          refine rvs 3 rfl ?_
          refine rn ?_
          refine cs_ rfl (fun hc => ?_) (fun hc => ?_)
          · have ho7 := cT hc ho7
            refine awp_seq ?_
            refine awp_region ?_
            refine rv rfl rfl ?_
            refine rn ?_
            refine awp_ret ?_
            cases ho7
            have ho3 := ksr ho3
            subst ho3
            have hq := hE4 _ rfl
            subst hq
            have h := ksr h
            subst h
            repeat (first | refine then_ret ?_ | refine inBlock_ret ?_ | refine cut_r ?_)
            exact rrA (r := .bool true) [0] [] [(0, .wr 1 (data2.map (cI .u64)))] rfl rfl rfl rfl (trivial) (zE rfl (.wr (lmM (fun _ => rfl) _)) rfl (trivial)) ⟨rfl, rfl, rfl, rfl⟩
          · have ho7 := cF hc ho7
            refine awp_skip ?_
            refine awp_seq ?_
            refine awp_seq ?_
            refine awp_region ?_
            refine rvs 4 rfl ?_
            refine rn ?_
            refine cs_ rfl (fun hc => ?_) (fun hc => ?_)
            · have ho7 := cT hc ho7
              refine awp_seq ?_
              refine awp_region ?_
              refine rv rfl rfl ?_
              refine rn ?_
              refine awp_ret ?_
              cases ho7
              have ho3 := ksr ho3
              subst ho3
              have hq := hE4 _ rfl
              subst hq
              have h := ksr h
              subst h
              repeat (first | refine then_ret ?_ | refine inBlock_ret ?_ | refine cut_r ?_)
              exact rrA (r := .bool false) [0] [] [(0, .wr 1 (data2.map (cI .u64)))] rfl rfl rfl rfl (trivial) (zE rfl (.wr (lmM (fun _ => rfl) _)) rfl (trivial)) ⟨rfl, rfl, rfl, rfl⟩
            · have ho7 := cF hc ho7
              refine awp_skip ?_
              refine awp_seq ?_
              refine awp_dx (m := 17) [[12, 13, 15]] Try.mix (by kernel_rfl) (by kernel_rfl) (by kernel_rfl) (by kernel_rfl) (by kernel_rfl) (by kernel_rfl) ?_
              refine xv [] rfl rfl (fun _ => rfl) ?_
              refine xv [] rfl rfl (fun _ => rfl) ?_
              refine xv [] rfl rfl (fun _ => rfl) ?_
              refine xv [] rfl rfl (fun _ => rfl) ?_
              refine xv [] rfl rfl (fun _ => rfl) ?_
              refine xv [] rfl rfl (fun _ => rfl) ?_
              refine xv [] rfl rfl (fun _ => rfl) ?_
              refine xv [] rfl rfl (fun _ => rfl) ?_
              obtain ⟨x8, hx21, ho7⟩ := bi ho7
              refine xV [0] rfl rfl (fun _ => va_place rfl rfl rfl rfl rfl rfl rfl (gi0 hx21) (giLM (cI .u64) hx21)) ?_
              refine xV [0] rfl rfl (fun _ => va_loadE rfl rfl rfl (giM (cI .u64) hx21) rfl rfl) ?_
              refine xv [] rfl rfl (fun _ => rfl) ?_
              refine xv [] rfl rfl (fun _ => rfl) ?_
              obtain ⟨x9, hx22, ho7⟩ := bi ho7
              refine xV [0] rfl rfl (fun _ => va_place rfl rfl rfl rfl rfl rfl rfl (gi0 hx22) (giLM (cI .u64) hx22)) ?_
              refine xV [0] rfl rfl (fun _ => va_loadE rfl rfl rfl (giM (cI .u64) hx22) rfl rfl) ?_
              obtain ⟨x10, hx23, ho7⟩ := bi ho7
              refine xV [0] rfl rfl (fun _ => va_place rfl rfl rfl rfl rfl rfl rfl (gi0 hx23) (giLM (cI .u64) hx23)) ?_
              obtain ⟨data5, hx24, ho7⟩ := bi ho7
              obtain ⟨o1, ho25⟩ := stG hx24
              refine xW [0] .any 1 _ _ rfl rfl (by
                  refine rse rfl rfl rfl (giM (cI .u64) ho25) rfl rfl rfl rfl rfl ?_
                  refine rk (congrArg (Kind.wr _) (stM (cI .u64) hx24)) ?_
                  exact rn ⟨rfl, rfl⟩) (by rfl) (by rfl) (by repeat (first | exact oi0 | refine oi1 (by first | exact trivial | exact ki_wr (lmM (fun _ => rfl) _)) ?_)) (by rfl) (by rfl) ?_
              obtain ⟨x11, hx26, ho7⟩ := bi ho7
              refine xV [0] rfl rfl (fun _ => va_place rfl rfl rfl rfl rfl rfl rfl (gi0 hx26) (giLM (cI .u64) hx26)) ?_
              refine xn (by kernel_rfl) ?_
              obtain ⟨data6, hx27, ho7⟩ := bi ho7
              obtain ⟨o2, ho28⟩ := stG hx27
              refine rse rfl rfl rfl (giM (cI .u64) ho28) rfl rfl rfl rfl rfl ?_
              refine rk (congrArg (Kind.wr _) (stM (cI .u64) hx27)) ?_
              refine rn ?_
              refine awp_seq ?_
              refine awp_seq ?_
              refine awp_region ?_
              refine rvs 4 rfl ?_
              refine rn ?_
              obtain ⟨o29, ho30, ho7⟩ := bi ho7
              refine awp_cut1 (fun x => x = o29) (fun (data7 : List Int) => ⟨[(0, .own 0), (1, .int .i64 a1), (2, .int .i64 b1), (7, .int .i64 i6), (8, .int .i64 j1)], [], [(0, .wr 1 (data7.map (cI .u64)))], 1⟩) ?_ ?_
              · refine cs_ rfl (fun hc => ?_) (fun hc => ?_)
                · have ho30 := cT hc ho30
                  refine awp_seq ?_
                  refine awp_region ?_
                  refine rvs 3 rfl ?_
                  refine rn ?_
                  obtain ⟨e31, hl32, ho30⟩ := bi ho30
                  refine awp_cut1 (fun x => x = e31) (fun (data10 : List Int) => ⟨[(0, .own 0), (1, .int .i64 a1), (2, .int .i64 b1), (7, .int .i64 i6), (8, .int .i64 j1)], [], [(0, .wr 1 (data10.map (cI .u64)))], 1⟩) ?_ ?_
                  · refine awp_block ?_
                    refine awp_loopD hl32 (fun (((j3, data8)) : Int × (List Int)) => ⟨[(0, .own 0), (1, .int .i64 a1), (2, .int .i64 b1), (7, .int .i64 i6), (8, .int .i64 j1), (9, .int .i64 j3)], [], [(0, .wr 1 (data8.map (cI .u64)))], 1⟩) [0] rfl ⟨rfl, rfl, zA rfl rfl rfl (zA rfl rfl rfl (zA rfl rfl rfl (zA rfl rfl rfl (zA rfl rfl rfl (zA rfl rfl rfl (trivial)))))), trivial, zE rfl (.wr (lmM (fun _ => rfl) _)) rfl (trivial)⟩ ?_
                    intro v o35 ho33 hE34
                    obtain ⟨j3, data8⟩ := v
                    change awp _ _ _ _ _ ⟨_, _, _, _⟩
                    refine awp_seq ?_
                    refine awp_seq ?_
                    refine awp_region ?_
                    refine rvs 2 rfl ?_
                    refine rn ?_
                    refine cs_ rfl (fun hc => ?_) (fun hc => ?_)
                    · have ho33 := cT hc ho33
                      refine awp_skip ?_
                      refine awp_seq ?_
                      refine awp_block ?_
                      refine awp_seq ?_
                      refine awp_seq ?_
                      refine awp_dp (m := 11) Try.mix (by kernel_rfl) (by kernel_rfl) (by kernel_rfl) (by kernel_rfl) (by kernel_rfl) (by kernel_rfl) (by kernel_rfl) ?_
                      refine dv rfl rfl (fun _ => rfl) ?_
                      refine dv rfl rfl (fun _ => rfl) ?_
                      obtain ⟨x12, hx36, ho33⟩ := bi ho33
                      refine dV rfl rfl (fun _ => va_place rfl rfl rfl rfl rfl rfl rfl (gi0 hx36) (giLM (cI .u64) hx36)) ?_
                      refine dV rfl rfl (fun _ => va_loadE rfl rfl rfl (giM (cI .u64) hx36) rfl rfl) ?_
                      refine dv rfl rfl (fun _ => rfl) ?_
                      refine dv rfl rfl (fun _ => rfl) ?_
                      refine dv rfl rfl (fun _ => rfl) ?_
                      obtain ⟨x13, hx37, ho33⟩ := bi ho33
                      refine dV rfl rfl (fun _ => va_place rfl rfl rfl rfl rfl rfl rfl (gi0 hx37) (giLM (cI .u64) hx37)) ?_
                      refine dV rfl rfl (fun _ => va_loadE rfl rfl rfl (giM (cI .u64) hx37) rfl rfl) ?_
                      obtain ⟨x14, hx38, ho33⟩ := bi ho33
                      refine dc rfl rfl rfl rfl (fun _ => rfl) (fun _ => (dcmp_Less_uint64_l hx38)) ?_
                      refine dv rfl rfl (fun _ => rfl) ?_
                      refine dn ?_
                      refine rn ?_
                      refine cs_ rfl (fun hc => ?_) (fun hc => ?_)
                      · have ho33 := cT hc ho33
                        refine awp_exit ?_
                        repeat (first | refine then_exit ?_ | refine cut_x ?_ | refine inBlock_other rfl ?_)
                        refine inBlock_exit ?_
                        cases ho33
                        have hq := hE34 _ rfl
                        subst hq
                        exact cut_n [0] rfl rfl ⟨rfl, rfl, zA rfl rfl rfl (zA rfl rfl rfl (zA rfl rfl rfl (zA rfl rfl rfl (zA rfl rfl rfl (trivial))))), trivial, zE rfl (.wr (lmM (fun _ => rfl) _)) rfl (trivial)⟩
                      · have ho33 := cF hc ho33
                        refine awp_skip ?_
                        refine awp_dx (m := 17) [[12, 13, 15]] Try.mix (by kernel_rfl) (by kernel_rfl) (by kernel_rfl) (by kernel_rfl) (by kernel_rfl) (by kernel_rfl) ?_
                        refine xv [] rfl rfl (fun _ => rfl) ?_
                        refine xv [] rfl rfl (fun _ => rfl) ?_
                        refine xv [] rfl rfl (fun _ => rfl) ?_
                        refine xv [] rfl rfl (fun _ => rfl) ?_
                        refine xv [] rfl rfl (fun _ => rfl) ?_
                        refine xv [] rfl rfl (fun _ => rfl) ?_
                        refine xv [] rfl rfl (fun _ => rfl) ?_
                        refine xv [] rfl rfl (fun _ => rfl) ?_
                        obtain ⟨x18, hx42, ho33⟩ := bi ho33
                        refine xV [0] rfl rfl (fun _ => va_place rfl rfl rfl rfl rfl rfl rfl (gi0 hx42) (giLM (cI .u64) hx42)) ?_
                        refine xV [0] rfl rfl (fun _ => va_loadE rfl rfl rfl (giM (cI .u64) hx42) rfl rfl) ?_
                        refine xv [] rfl rfl (fun _ => rfl) ?_
                        refine xv [] rfl rfl (fun _ => rfl) ?_
                        obtain ⟨x19, hx43, ho33⟩ := bi ho33
                        refine xV [0] rfl rfl (fun _ => va_place rfl rfl rfl rfl rfl rfl rfl (gi0 hx43) (giLM (cI .u64) hx43)) ?_
                        refine xV [0] rfl rfl (fun _ => va_loadE rfl rfl rfl (giM (cI .u64) hx43) rfl rfl) ?_
                        obtain ⟨x20, hx44, ho33⟩ := bi ho33
                        refine xV [0] rfl rfl (fun _ => va_place rfl rfl rfl rfl rfl rfl rfl (gi0 hx44) (giLM (cI .u64) hx44)) ?_
                        obtain ⟨data11, hx45, ho33⟩ := bi ho33
                        obtain ⟨o3, ho46⟩ := stG hx45
                        refine xW [0] .any 1 _ _ rfl rfl (by
                            refine rse rfl rfl rfl (giM (cI .u64) ho46) rfl rfl rfl rfl rfl ?_
                            refine rk (congrArg (Kind.wr _) (stM (cI .u64) hx45)) ?_
                            exact rn ⟨rfl, rfl⟩) (by rfl) (by rfl) (by repeat (first | exact oi0 | refine oi1 (by first | exact trivial | exact ki_wr (lmM (fun _ => rfl) _)) ?_)) (by rfl) (by rfl) ?_
                        obtain ⟨x21, hx47, ho33⟩ := bi ho33
                        refine xV [0] rfl rfl (fun _ => va_place rfl rfl rfl rfl rfl rfl rfl (gi0 hx47) (giLM (cI .u64) hx47)) ?_
                        refine xn (by kernel_rfl) ?_
                        obtain ⟨data12, hx48, ho33⟩ := bi ho33
                        obtain ⟨o4, ho49⟩ := stG hx48
                        refine rse rfl rfl rfl (giM (cI .u64) ho49) rfl rfl rfl rfl rfl ?_
                        refine rk (congrArg (Kind.wr _) (stM (cI .u64) hx48)) ?_
                        refine rn ?_
                        refine inBlock_normal ?_
                        refine awp_region ?_
                        refine rvs 3 rfl ?_
                        refine rn ?_
                        cases ho33
                        exact lp_n [0] rfl rfl ⟨rfl, rfl, zA rfl rfl rfl (zA rfl rfl rfl (zA rfl rfl rfl (zA rfl rfl rfl (zA rfl rfl rfl (zA rfl rfl rfl (trivial)))))), trivial, zE rfl (.wr (lmM (fun _ => rfl) _)) rfl (trivial)⟩
                    · have ho33 := cF hc ho33
                      refine awp_exit ?_
                      repeat (first | refine then_exit ?_ | refine cut_x ?_ | refine inBlock_other rfl ?_)
                      refine inBlock_exit ?_
                      cases ho33
                      have hq := hE34 _ rfl
                      subst hq
                      exact cut_n [0] rfl rfl ⟨rfl, rfl, zA rfl rfl rfl (zA rfl rfl rfl (zA rfl rfl rfl (zA rfl rfl rfl (zA rfl rfl rfl (trivial))))), trivial, zE rfl (.wr (lmM (fun _ => rfl) _)) rfl (trivial)⟩
                  · rintro data10 rfl
                    cases ho30
                    exact cut_n [0] rfl rfl ⟨rfl, rfl, zA rfl rfl rfl (zA rfl rfl rfl (zA rfl rfl rfl (zA rfl rfl rfl (zA rfl rfl rfl (trivial))))), trivial, zE rfl (.wr (lmM (fun _ => rfl) _)) rfl (trivial)⟩
                · have ho30 := cF hc ho30
                  refine awp_skip ?_
                  cases ho30
                  exact cut_n [0] rfl rfl ⟨rfl, rfl, zA rfl rfl rfl (zA rfl rfl rfl (zA rfl rfl rfl (zA rfl rfl rfl (zA rfl rfl rfl (trivial))))), trivial, zE rfl (.wr (lmM (fun _ => rfl) _)) rfl (trivial)⟩
              · rintro data7 rfl
                change awp _ _ _ _ _ ⟨_, _, _, _⟩
                refine awp_seq ?_
                refine awp_region ?_
                refine rvs 4 rfl ?_
                refine rn ?_
                refine cs_ rfl (fun hc => ?_) (fun hc => ?_)
                · have ho7 := cT hc ho7
                  refine awp_seq ?_
                  refine awp_region ?_
                  refine rvs 3 rfl ?_
                  refine rn ?_
                  obtain ⟨e50, hl51, ho7⟩ := bi ho7
                  refine awp_cut1 (fun x => x = e50) (fun (data15 : List Int) => ⟨[(0, .own 0), (1, .int .i64 a1), (2, .int .i64 b1), (7, .int .i64 i6), (8, .int .i64 j1)], [], [(0, .wr 1 (data15.map (cI .u64)))], 1⟩) ?_ ?_
                  · refine awp_block ?_
                    refine awp_loopD hl51 (fun (((j5, data13)) : Int × (List Int)) => ⟨[(0, .own 0), (1, .int .i64 a1), (2, .int .i64 b1), (7, .int .i64 i6), (8, .int .i64 j1), (10, .int .i64 j5)], [], [(0, .wr 1 (data13.map (cI .u64)))], 1⟩) [0] rfl ⟨rfl, rfl, zA rfl rfl rfl (zA rfl rfl rfl (zA rfl rfl rfl (zA rfl rfl rfl (zA rfl rfl rfl (zA rfl rfl rfl (trivial)))))), trivial, zE rfl (.wr (lmM (fun _ => rfl) _)) rfl (trivial)⟩ ?_
                    intro v o54 ho52 hE53
                    obtain ⟨j5, data13⟩ := v
                    change awp _ _ _ _ _ ⟨_, _, _, _⟩
                    refine awp_seq ?_
                    refine awp_seq ?_
                    refine awp_region ?_
                    refine rvs 3 rfl ?_
                    refine rn ?_
                    refine cs_ rfl (fun hc => ?_) (fun hc => ?_)
                    · have ho52 := cT hc ho52
                      refine awp_skip ?_
                      refine awp_seq ?_
                      refine awp_block ?_
                      refine awp_seq ?_
                      refine awp_seq ?_
                      refine awp_dp (m := 11) Try.mix (by kernel_rfl) (by kernel_rfl) (by kernel_rfl) (by kernel_rfl) (by kernel_rfl) (by kernel_rfl) (by kernel_rfl) ?_
                      refine dv rfl rfl (fun _ => rfl) ?_
                      refine dv rfl rfl (fun _ => rfl) ?_
                      obtain ⟨x22, hx55, ho52⟩ := bi ho52
                      refine dV rfl rfl (fun _ => va_place rfl rfl rfl rfl rfl rfl rfl (gi0 hx55) (giLM (cI .u64) hx55)) ?_
                      refine dV rfl rfl (fun _ => va_loadE rfl rfl rfl (giM (cI .u64) hx55) rfl rfl) ?_
                      refine dv rfl rfl (fun _ => rfl) ?_
                      refine dv rfl rfl (fun _ => rfl) ?_
                      refine dv rfl rfl (fun _ => rfl) ?_
                      obtain ⟨x23, hx56, ho52⟩ := bi ho52
                      refine dV rfl rfl (fun _ => va_place rfl rfl rfl rfl rfl rfl rfl (gi0 hx56) (giLM (cI .u64) hx56)) ?_
                      refine dV rfl rfl (fun _ => va_loadE rfl rfl rfl (giM (cI .u64) hx56) rfl rfl) ?_
                      obtain ⟨x24, hx57, ho52⟩ := bi ho52
                      refine dc rfl rfl rfl rfl (fun _ => rfl) (fun _ => (dcmp_Less_uint64_l hx57)) ?_
                      refine dv rfl rfl (fun _ => rfl) ?_
                      refine dn ?_
                      refine rn ?_
                      refine cs_ rfl (fun hc => ?_) (fun hc => ?_)
                      · have ho52 := cT hc ho52
                        refine awp_exit ?_
                        repeat (first | refine then_exit ?_ | refine cut_x ?_ | refine inBlock_other rfl ?_)
                        refine inBlock_exit ?_
                        cases ho52
                        have hq := hE53 _ rfl
                        subst hq
                        exact cut_n [0] rfl rfl ⟨rfl, rfl, zA rfl rfl rfl (zA rfl rfl rfl (zA rfl rfl rfl (zA rfl rfl rfl (zA rfl rfl rfl (trivial))))), trivial, zE rfl (.wr (lmM (fun _ => rfl) _)) rfl (trivial)⟩
                      · have ho52 := cF hc ho52
                        refine awp_skip ?_
                        refine awp_dx (m := 17) [[12, 13, 15]] Try.mix (by kernel_rfl) (by kernel_rfl) (by kernel_rfl) (by kernel_rfl) (by kernel_rfl) (by kernel_rfl) ?_
                        refine xv [] rfl rfl (fun _ => rfl) ?_
                        refine xv [] rfl rfl (fun _ => rfl) ?_
                        refine xv [] rfl rfl (fun _ => rfl) ?_
                        refine xv [] rfl rfl (fun _ => rfl) ?_
                        refine xv [] rfl rfl (fun _ => rfl) ?_
                        refine xv [] rfl rfl (fun _ => rfl) ?_
                        refine xv [] rfl rfl (fun _ => rfl) ?_
                        refine xv [] rfl rfl (fun _ => rfl) ?_
                        obtain ⟨x28, hx61, ho52⟩ := bi ho52
                        refine xV [0] rfl rfl (fun _ => va_place rfl rfl rfl rfl rfl rfl rfl (gi0 hx61) (giLM (cI .u64) hx61)) ?_
                        refine xV [0] rfl rfl (fun _ => va_loadE rfl rfl rfl (giM (cI .u64) hx61) rfl rfl) ?_
                        refine xv [] rfl rfl (fun _ => rfl) ?_
                        refine xv [] rfl rfl (fun _ => rfl) ?_
                        obtain ⟨x29, hx62, ho52⟩ := bi ho52
                        refine xV [0] rfl rfl (fun _ => va_place rfl rfl rfl rfl rfl rfl rfl (gi0 hx62) (giLM (cI .u64) hx62)) ?_
                        refine xV [0] rfl rfl (fun _ => va_loadE rfl rfl rfl (giM (cI .u64) hx62) rfl rfl) ?_
                        obtain ⟨x30, hx63, ho52⟩ := bi ho52
                        refine xV [0] rfl rfl (fun _ => va_place rfl rfl rfl rfl rfl rfl rfl (gi0 hx63) (giLM (cI .u64) hx63)) ?_
                        obtain ⟨data16, hx64, ho52⟩ := bi ho52
                        obtain ⟨o5, ho65⟩ := stG hx64
                        refine xW [0] .any 1 _ _ rfl rfl (by
                            refine rse rfl rfl rfl (giM (cI .u64) ho65) rfl rfl rfl rfl rfl ?_
                            refine rk (congrArg (Kind.wr _) (stM (cI .u64) hx64)) ?_
                            exact rn ⟨rfl, rfl⟩) (by rfl) (by rfl) (by repeat (first | exact oi0 | refine oi1 (by first | exact trivial | exact ki_wr (lmM (fun _ => rfl) _)) ?_)) (by rfl) (by rfl) ?_
                        obtain ⟨x31, hx66, ho52⟩ := bi ho52
                        refine xV [0] rfl rfl (fun _ => va_place rfl rfl rfl rfl rfl rfl rfl (gi0 hx66) (giLM (cI .u64) hx66)) ?_
                        refine xn (by kernel_rfl) ?_
                        obtain ⟨data17, hx67, ho52⟩ := bi ho52
                        obtain ⟨o6, ho68⟩ := stG hx67
                        refine rse rfl rfl rfl (giM (cI .u64) ho68) rfl rfl rfl rfl rfl ?_
                        refine rk (congrArg (Kind.wr _) (stM (cI .u64) hx67)) ?_
                        refine rn ?_
                        refine inBlock_normal ?_
                        refine awp_region ?_
                        refine rvs 3 rfl ?_
                        refine rn ?_
                        cases ho52
                        exact lp_n [0] rfl rfl ⟨rfl, rfl, zA rfl rfl rfl (zA rfl rfl rfl (zA rfl rfl rfl (zA rfl rfl rfl (zA rfl rfl rfl (zA rfl rfl rfl (trivial)))))), trivial, zE rfl (.wr (lmM (fun _ => rfl) _)) rfl (trivial)⟩
                    · have ho52 := cF hc ho52
                      refine awp_exit ?_
                      repeat (first | refine then_exit ?_ | refine cut_x ?_ | refine inBlock_other rfl ?_)
                      refine inBlock_exit ?_
                      cases ho52
                      have hq := hE53 _ rfl
                      subst hq
                      exact cut_n [0] rfl rfl ⟨rfl, rfl, zA rfl rfl rfl (zA rfl rfl rfl (zA rfl rfl rfl (zA rfl rfl rfl (zA rfl rfl rfl (trivial))))), trivial, zE rfl (.wr (lmM (fun _ => rfl) _)) rfl (trivial)⟩
                  · rintro data15 rfl
                    refine inBlock_normal ?_
                    cases ho7
                    exact cut_n [0] rfl rfl ⟨rfl, rfl, zA rfl rfl rfl (zA rfl rfl rfl (zA rfl rfl rfl (zA rfl rfl rfl (zA rfl rfl rfl (trivial))))), trivial, zE rfl (.wr (lmM (fun _ => rfl) _)) rfl (trivial)⟩
                · have ho7 := cF hc ho7
                  refine awp_skip ?_
                  refine inBlock_normal ?_
                  cases ho7
                  exact cut_n [0] rfl rfl ⟨rfl, rfl, zA rfl rfl rfl (zA rfl rfl rfl (zA rfl rfl rfl (zA rfl rfl rfl (zA rfl rfl rfl (trivial))))), trivial, zE rfl (.wr (lmM (fun _ => rfl) _)) rfl (trivial)⟩
      · rintro ⟨i3, data4⟩ rfl
        have ho3 := ksl ho3
        change awp _ _ _ _ _ ⟨_, _, _, _⟩
        refine awp_region ?_
        refine rvs 3 rfl ?_
        refine rn ?_
        cases ho3
        exact lp_n [0] rfl rfl ⟨rfl, rfl, zA rfl rfl rfl (zA rfl rfl rfl (zA rfl rfl rfl (zA rfl rfl rfl (zA rfl rfl rfl (trivial))))), trivial, zE rfl (.wr (lmM (fun _ => rfl) _)) rfl (trivial)⟩
    · have ho3 := cF hc ho3
      refine awp_exit ?_
      repeat (first | refine then_exit ?_ | refine cut_x ?_ | refine inBlock_other rfl ?_)
      refine inBlock_exit ?_
      cases ho3
      have hq := hE4 _ rfl
      subst hq
      exact cut_n [0] rfl rfl ⟨rfl, rfl, trivial, trivial, zE rfl (.wr (lmM (fun _ => rfl) _)) rfl (trivial)⟩
  · rintro l1 rfl
    have h := ksl h
    refine awp_seq ?_
    refine awp_region ?_
    refine rv rfl rfl ?_
    refine rn ?_
    refine awp_ret ?_
    have h := Option.some.inj h
    subst h
    repeat (first | refine then_ret ?_ | refine inBlock_ret ?_ | refine cut_r ?_)
    exact rrA (r := .bool false) [0] [] [(0, .wr 1 (l1.map (cI .u64)))] rfl rfl rfl rfl (trivial) (zE rfl (.wr (lmM (fun _ => rfl) _)) rfl (trivial)) ⟨rfl, rfl, rfl, rfl⟩
end

/-- `slices.partitionEqualOrdered[uint64]` -/
def dslices_partitionEqualOrdered_uint64 (fu : Nat) (data1 : List Int) (a1 : Int) (b1 : Int) (pivot1 : Int) : Option (Int × (List Int)) :=
  (gi data1 pivot1).bind fun x4 => (gi data1 a1).bind fun x5 => (gi data1 a1).bind fun x6 => (sti data1 a1 x4).bind fun data2 => (gi data2 pivot1).bind fun x7 => (sti data2 pivot1 x5).bind fun data3 => (loopD (ε := Int × Int × (List Int)) (τ := Int × (List Int)) (fun (((i1, j1, data4)) : Int × Int × (List Int)) => ((loopD (ε := Int) (τ := Int) (fun (i4 : Int) => ((bif (decide (i4 ≤ j1)) then ((gi data4 a1).bind fun x9 => (gi data4 i4).bind fun x10 => (dcmp_Less_uint64 fu x9 x10).bind fun x11 => some (!x11)) else some false : Option Bool).bind fun (x8 : Bool) => (bif x8 then some (Sum.inl (W (i4 + 1))) else some (Sum.inr i4)))) fu i1).bind fun (i6 : Int) => ((loopD (ε := Int) (τ := Int) (fun (j3 : Int) => ((bif (decide (i6 ≤ j3)) then ((gi data4 a1).bind fun x13 => (gi data4 j3).bind fun x14 => (dcmp_Less_uint64 fu x13 x14).bind fun x15 => some x15) else some false : Option Bool).bind fun (x12 : Bool) => (bif x12 then some (Sum.inl (W (j3 - 1))) else some (Sum.inr j3)))) fu j1).bind fun (j5 : Int) => (bif (decide (i6 > j5)) then some (Sum.inr (i6, data4)) else ((gi data4 j5).bind fun x19 => (gi data4 i6).bind fun x20 => (gi data4 i6).bind fun x21 => (sti data4 i6 x19).bind fun data6 => (gi data6 j5).bind fun x22 => (sti data6 j5 x20).bind fun data7 => some (Sum.inl (W (i6 + 1), W (j5 - 1), data7))))))) fu (W (a1 + 1), W (b1 - 1), data3)).bind fun (((i3, l1)) : Int × (List Int)) => some (i3, l1)
section
attribute [local irreducible] awp aops DP PCall ACall Decidable.decide
theorem dslices_partitionEqualOrdered_uint64_l {fu : Nat} {data1 : List Int} {a1 : Int} {b1 : Int} {pivot1 : Int} {r : Int × (List Int)} (h : dslices_partitionEqualOrdered_uint64 fu data1 a1 b1 pivot1 = some r) : ACall Try.prog 122 1 [.own 0, .int .i64 a1, .int .i64 b1, .int .i64 pivot1] [] [(0, .wr 1 (data1.map (cI .u64)))] (fun r_ H_ O_ n_ => r_ = .int .i64 r.1 ∧ H_ = [] ∧ O_ = [(0, .wr 1 (r.2.map (cI .u64)))] ∧ n_ = 1) := by
  rw [dslices_partitionEqualOrdered_uint64] at h
  refine acall_body Try.func122 rfl (by kernel_rfl) (by rfl) ?_
  refine awp_seq ?_
  refine awp_region ?_
  refine rv rfl rfl ?_
  refine rn ?_
  refine awp_seq ?_
  refine awp_dx (m := 15) [[10, 11, 13]] Try.mix (by kernel_rfl) (by kernel_rfl) (by kernel_rfl) (by kernel_rfl) (by kernel_rfl) (by kernel_rfl) ?_
  refine xv [] rfl rfl (fun _ => rfl) ?_
  refine xv [] rfl rfl (fun _ => rfl) ?_
  refine xv [] rfl rfl (fun _ => rfl) ?_
  refine xv [] rfl rfl (fun _ => rfl) ?_
  refine xv [] rfl rfl (fun _ => rfl) ?_
  refine xv [] rfl rfl (fun _ => rfl) ?_
  obtain ⟨x4, hx4, h⟩ := bi h
  refine xV [0] rfl rfl (fun _ => va_place rfl rfl rfl rfl rfl rfl rfl (gi0 hx4) (giLM (cI .u64) hx4)) ?_
  refine xV [0] rfl rfl (fun _ => va_loadE rfl rfl rfl (giM (cI .u64) hx4) rfl rfl) ?_
  refine xv [] rfl rfl (fun _ => rfl) ?_
  refine xv [] rfl rfl (fun _ => rfl) ?_
  obtain ⟨x5, hx5, h⟩ := bi h
  refine xV [0] rfl rfl (fun _ => va_place rfl rfl rfl rfl rfl rfl rfl (gi0 hx5) (giLM (cI .u64) hx5)) ?_
  refine xV [0] rfl rfl (fun _ => va_loadE rfl rfl rfl (giM (cI .u64) hx5) rfl rfl) ?_
  obtain ⟨x6, hx6, h⟩ := bi h
  refine xV [0] rfl rfl (fun _ => va_place rfl rfl rfl rfl rfl rfl rfl (gi0 hx6) (giLM (cI .u64) hx6)) ?_
  obtain ⟨data2, hx7, h⟩ := bi h
  obtain ⟨o1, ho8⟩ := stG hx7
  refine xW [0] .any 1 _ _ rfl rfl (by
      refine rse rfl rfl rfl (giM (cI .u64) ho8) rfl rfl rfl rfl rfl ?_
      refine rk (congrArg (Kind.wr _) (stM (cI .u64) hx7)) ?_
      exact rn ⟨rfl, rfl⟩) (by rfl) (by rfl) (by repeat (first | exact oi0 | refine oi1 (by first | exact trivial | exact ki_wr (lmM (fun _ => rfl) _)) ?_)) (by rfl) (by rfl) ?_
  obtain ⟨x7, hx9, h⟩ := bi h
  refine xV [0] rfl rfl (fun _ => va_place rfl rfl rfl rfl rfl rfl rfl (gi0 hx9) (giLM (cI .u64) hx9)) ?_
  refine xn (by kernel_rfl) ?_
  obtain ⟨data3, hx10, h⟩ := bi h
  obtain ⟨o2, ho11⟩ := stG hx10
  refine rse rfl rfl rfl (giM (cI .u64) ho11) rfl rfl rfl rfl rfl ?_
  refine rk (congrArg (Kind.wr _) (stM (cI .u64) hx10)) ?_
  refine rn ?_
  refine awp_seq ?_
  refine awp_region ?_
  refine rvs 6 rfl ?_
  refine rn ?_
  refine awp_seq ?_
  obtain ⟨e12, hl13, h⟩ := bi h
  refine awp_cut1 (fun x => x = e12) (fun (((i3, l1)) : Int × (List Int)) => ⟨[(9, .int .i64 i3)], [], [(0, .wr 1 (l1.map (cI .u64)))], 1⟩) ?_ ?_
  · refine awp_block ?_
    refine awp_loopD hl13 (fun (((i1, j1, data4)) : Int × Int × (List Int)) => ⟨[(0, .own 0), (1, .int .i64 a1), (9, .int .i64 i1), (10, .int .i64 j1)], [], [(0, .wr 1 (data4.map (cI .u64)))], 1⟩) [0] rfl ⟨rfl, rfl, zA rfl rfl rfl (zA rfl rfl rfl (zA rfl rfl rfl (zA rfl rfl rfl (trivial)))), trivial, zE rfl (.wr (lmM (fun _ => rfl) _)) rfl (trivial)⟩ ?_
    intro v o16 ho14 hE15
    obtain ⟨i1, j1, data4⟩ := v
    change awp _ _ _ _ _ ⟨_, _, _, _⟩
    refine awp_block ?_
    refine awp_seq ?_
    obtain ⟨e17, hl18, ho14⟩ := bi ho14
    refine awp_cut1 (fun x => x = e17) (fun (i6 : Int) => ⟨[(0, .own 0), (1, .int .i64 a1), (9, .int .i64 i6), (10, .int .i64 j1)], [], [(0, .wr 1 (data4.map (cI .u64)))], 1⟩) ?_ ?_
    · refine awp_block ?_
      refine awp_loopD hl18 (fun (i4 : Int) => ⟨[(0, .own 0), (1, .int .i64 a1), (9, .int .i64 i4), (10, .int .i64 j1)], [], [(0, .wr 1 (data4.map (cI .u64)))], 1⟩) [0] rfl ⟨rfl, rfl, zA rfl rfl rfl (zA rfl rfl rfl (zA rfl rfl rfl (zA rfl rfl rfl (trivial)))), trivial, zE rfl (.wr (lmM (fun _ => rfl) _)) rfl (trivial)⟩ ?_
      intro i4 o21 ho19 hE20
      change awp _ _ _ _ _ ⟨_, _, _, _⟩
      refine awp_seq ?_
      refine awp_seq ?_
      obtain ⟨o22, ho23, ho19⟩ := bi ho19
      refine awp_cut1 (fun x => x = o22) (fun (x8 : Bool) => ⟨[(0, .own 0), (1, .int .i64 a1), (9, .int .i64 i4), (10, .int .i64 j1), (43, .bool x8)], [], [(0, .wr 1 (data4.map (cI .u64)))], 1⟩) ?_ ?_
      · refine awp_dp (m := 15) Try.mix (by kernel_rfl) (by kernel_rfl) (by kernel_rfl) (by kernel_rfl) (by kernel_rfl) (by kernel_rfl) (by kernel_rfl) ?_
        refine dv rfl rfl (fun _ => rfl) ?_
        refine dv rfl rfl (fun _ => rfl) ?_
        refine dv rfl rfl (fun _ => rfl) ?_
        refine dv rfl rfl (fun _ => rfl) ?_
        refine ds rfl rfl (fun hg => ?_) (fun hg => ?_)
        · have ho23 := cT hg ho23
          refine dv rfl rfl (fun _ => rfl) ?_
          refine dv rfl rfl (fun _ => rfl) ?_
          obtain ⟨x9, hx24, ho23⟩ := bi ho23
          refine dV rfl rfl (fun _ => va_place rfl rfl rfl rfl rfl rfl rfl (gi0 hx24) (giLM (cI .u64) hx24)) ?_
          refine dV rfl rfl (fun _ => va_loadE rfl rfl rfl (giM (cI .u64) hx24) rfl rfl) ?_
          refine dv rfl rfl (fun _ => rfl) ?_
          refine dv rfl rfl (fun _ => rfl) ?_
          obtain ⟨x10, hx25, ho23⟩ := bi ho23
          refine dV rfl rfl (fun _ => va_place rfl rfl rfl rfl rfl rfl rfl (gi0 hx25) (giLM (cI .u64) hx25)) ?_
          refine dV rfl rfl (fun _ => va_loadE rfl rfl rfl (giM (cI .u64) hx25) rfl rfl) ?_
          obtain ⟨x11, hx26, ho23⟩ := bi ho23
          refine dc rfl rfl rfl rfl (fun _ => rfl) (fun _ => (dcmp_Less_uint64_l hx26)) ?_
          refine dv rfl rfl (fun _ => rfl) ?_
          refine dv rfl rfl (fun _ => rfl) ?_
          refine dn ?_
          refine rn ?_
          cases ho23
          exact cut_n [0] rfl rfl ⟨rfl, rfl, zA rfl rfl rfl (zA rfl rfl rfl (zA rfl rfl rfl (zA rfl rfl rfl (zA rfl rfl rfl (trivial))))), trivial, zE rfl (.wr (lmM (fun _ => rfl) _)) rfl (trivial)⟩
        · have ho23 := cF hg ho23
          refine dno rfl rfl ?_
          refine dno rfl rfl ?_
          refine dno rfl rfl ?_
          refine dno rfl rfl ?_
          refine dno rfl rfl ?_
          refine dno rfl rfl ?_
          refine dno rfl rfl ?_
          refine dno rfl rfl ?_
          refine dno rfl rfl ?_
          refine dno rfl rfl ?_
          refine dv rfl rfl (fun _ => rfl) ?_
          refine dn ?_
          refine rn ?_
          cases ho23
          exact cut_n [0] rfl rfl ⟨rfl, rfl, zA rfl rfl rfl (zA rfl rfl rfl (zA rfl rfl rfl (zA rfl rfl rfl (zA rfl rfl rfl (trivial))))), trivial, zE rfl (.wr (lmM (fun _ => rfl) _)) rfl (trivial)⟩
      · rintro x8 rfl
        change awp _ _ _ _ _ ⟨_, _, _, _⟩
        refine cs_ rfl (fun hc => ?_) (fun hc => ?_)
        · have ho19 := cT hc ho19
          refine awp_skip ?_
          refine awp_block ?_
          refine awp_region ?_
          refine rvs 3 rfl ?_
          refine rn ?_
          refine inBlock_normal ?_
          cases ho19
          exact lp_n [0] rfl rfl ⟨rfl, rfl, zA rfl rfl rfl (zA rfl rfl rfl (zA rfl rfl rfl (zA rfl rfl rfl (trivial)))), trivial, zE rfl (.wr (lmM (fun _ => rfl) _)) rfl (trivial)⟩
        · have ho19 := cF hc ho19
          refine awp_exit ?_
          repeat (first | refine then_exit ?_ | refine cut_x ?_ | refine inBlock_other rfl ?_)
          refine inBlock_exit ?_
          cases ho19
          have hq := hE20 _ rfl
          subst hq
          exact cut_n [0] rfl rfl ⟨rfl, rfl, zA rfl rfl rfl (zA rfl rfl rfl (zA rfl rfl rfl (zA rfl rfl rfl (trivial)))), trivial, zE rfl (.wr (lmM (fun _ => rfl) _)) rfl (trivial)⟩
    · rintro i6 rfl
      change awp _ _ _ _ _ ⟨_, _, _, _⟩
      refine awp_seq ?_
      obtain ⟨e27, hl28, ho14⟩ := bi ho14
      refine awp_cut1 (fun x => x = e27) (fun (j5 : Int) => ⟨[(0, .own 0), (1, .int .i64 a1), (9, .int .i64 i6), (10, .int .i64 j5)], [], [(0, .wr 1 (data4.map (cI .u64)))], 1⟩) ?_ ?_
      · refine awp_block ?_
        refine awp_loopD hl28 (fun (j3 : Int) => ⟨[(0, .own 0), (1, .int .i64 a1), (9, .int .i64 i6), (10, .int .i64 j3)], [], [(0, .wr 1 (data4.map (cI .u64)))], 1⟩) [0] rfl ⟨rfl, rfl, zA rfl rfl rfl (zA rfl rfl rfl (zA rfl rfl rfl (zA rfl rfl rfl (trivial)))), trivial, zE rfl (.wr (lmM (fun _ => rfl) _)) rfl (trivial)⟩ ?_
        intro j3 o31 ho29 hE30
        change awp _ _ _ _ _ ⟨_, _, _, _⟩
        refine awp_seq ?_
        refine awp_seq ?_
        obtain ⟨o32, ho33, ho29⟩ := bi ho29
        refine awp_cut1 (fun x => x = o32) (fun (x12 : Bool) => ⟨[(0, .own 0), (1, .int .i64 a1), (9, .int .i64 i6), (10, .int .i64 j3), (59, .bool x12)], [], [(0, .wr 1 (data4.map (cI .u64)))], 1⟩) ?_ ?_
        · refine awp_dp (m := 14) Try.mix (by kernel_rfl) (by kernel_rfl) (by kernel_rfl) (by kernel_rfl) (by kernel_rfl) (by kernel_rfl) (by kernel_rfl) ?_
          refine dv rfl rfl (fun _ => rfl) ?_
          refine dv rfl rfl (fun _ => rfl) ?_
          refine dv rfl rfl (fun _ => rfl) ?_
          refine dv rfl rfl (fun _ => rfl) ?_
          refine ds rfl rfl (fun hg => ?_) (fun hg => ?_)
          · have ho33 := cT hg ho33
            refine dv rfl rfl (fun _ => rfl) ?_
            refine dv rfl rfl (fun _ => rfl) ?_
            obtain ⟨x13, hx34, ho33⟩ := bi ho33
            refine dV rfl rfl (fun _ => va_place rfl rfl rfl rfl rfl rfl rfl (gi0 hx34) (giLM (cI .u64) hx34)) ?_
            refine dV rfl rfl (fun _ => va_loadE rfl rfl rfl (giM (cI .u64) hx34) rfl rfl) ?_
            refine dv rfl rfl (fun _ => rfl) ?_
            refine dv rfl rfl (fun _ => rfl) ?_
            obtain ⟨x14, hx35, ho33⟩ := bi ho33
            refine dV rfl rfl (fun _ => va_place rfl rfl rfl rfl rfl rfl rfl (gi0 hx35) (giLM (cI .u64) hx35)) ?_
            refine dV rfl rfl (fun _ => va_loadE rfl rfl rfl (giM (cI .u64) hx35) rfl rfl) ?_
            obtain ⟨x15, hx36, ho33⟩ := bi ho33
            refine dc rfl rfl rfl rfl (fun _ => rfl) (fun _ => (dcmp_Less_uint64_l hx36)) ?_
            refine dv rfl rfl (fun _ => rfl) ?_
            refine dn ?_
            refine rn ?_
            cases ho33
            exact cut_n [0] rfl rfl ⟨rfl, rfl, zA rfl rfl rfl (zA rfl rfl rfl (zA rfl rfl rfl (zA rfl rfl rfl (zA rfl rfl rfl (trivial))))), trivial, zE rfl (.wr (lmM (fun _ => rfl) _)) rfl (trivial)⟩
          · have ho33 := cF hg ho33
            refine dno rfl rfl ?_
            refine dno rfl rfl ?_
            refine dno rfl rfl ?_
            refine dno rfl rfl ?_
            refine dno rfl rfl ?_
            refine dno rfl rfl ?_
            refine dno rfl rfl ?_
            refine dno rfl rfl ?_
            refine dno rfl rfl ?_
            refine dv rfl rfl (fun _ => rfl) ?_
            refine dn ?_
            refine rn ?_
            cases ho33
            exact cut_n [0] rfl rfl ⟨rfl, rfl, zA rfl rfl rfl (zA rfl rfl rfl (zA rfl rfl rfl (zA rfl rfl rfl (zA rfl rfl rfl (trivial))))), trivial, zE rfl (.wr (lmM (fun _ => rfl) _)) rfl (trivial)⟩
        · rintro x12 rfl
          change awp _ _ _ _ _ ⟨_, _, _, _⟩
          refine cs_ rfl (fun hc => ?_) (fun hc => ?_)
          · have ho29 := cT hc ho29
            refine awp_skip ?_
            refine awp_block ?_
            refine awp_region ?_
            refine rvs 3 rfl ?_
            refine rn ?_
            refine inBlock_normal ?_
            cases ho29
            exact lp_n [0] rfl rfl ⟨rfl, rfl, zA rfl rfl rfl (zA rfl rfl rfl (zA rfl rfl rfl (zA rfl rfl rfl (trivial)))), trivial, zE rfl (.wr (lmM (fun _ => rfl) _)) rfl (trivial)⟩
          · have ho29 := cF hc ho29
            refine awp_exit ?_
            repeat (first | refine then_exit ?_ | refine cut_x ?_ | refine inBlock_other rfl ?_)
            refine inBlock_exit ?_
            cases ho29
            have hq := hE30 _ rfl
            subst hq
            exact cut_n [0] rfl rfl ⟨rfl, rfl, zA rfl rfl rfl (zA rfl rfl rfl (zA rfl rfl rfl (zA rfl rfl rfl (trivial)))), trivial, zE rfl (.wr (lmM (fun _ => rfl) _)) rfl (trivial)⟩
      · rintro j5 rfl
        change awp _ _ _ _ _ ⟨_, _, _, _⟩
        refine awp_seq ?_
        refine awp_seq ?_
        refine awp_region ?_
        refine rvs 3 rfl ?_
        refine rn ?_
        refine cs_ rfl (fun hc => ?_) (fun hc => ?_)
        · have ho14 := cT hc ho14
          refine awp_exit ?_
          repeat (first | refine then_exit ?_ | refine cut_x ?_ | refine inBlock_other rfl ?_)
          refine inBlock_exit ?_
          cases ho14
          have hq := hE15 _ rfl
          subst hq
          exact cut_n [0] rfl rfl ⟨rfl, rfl, zA rfl rfl rfl (trivial), trivial, zE rfl (.wr (lmM (fun _ => rfl) _)) rfl (trivial)⟩
        · have ho14 := cF hc ho14
          refine awp_skip ?_
          refine awp_seq ?_
          refine awp_dx (m := 15) [[10, 11, 13]] Try.mix (by kernel_rfl) (by kernel_rfl) (by kernel_rfl) (by kernel_rfl) (by kernel_rfl) (by kernel_rfl) ?_
          refine xv [] rfl rfl (fun _ => rfl) ?_
          refine xv [] rfl rfl (fun _ => rfl) ?_
          refine xv [] rfl rfl (fun _ => rfl) ?_
          refine xv [] rfl rfl (fun _ => rfl) ?_
          refine xv [] rfl rfl (fun _ => rfl) ?_
          refine xv [] rfl rfl (fun _ => rfl) ?_
          obtain ⟨x19, hx40, ho14⟩ := bi ho14
          refine xV [0] rfl rfl (fun _ => va_place rfl rfl rfl rfl rfl rfl rfl (gi0 hx40) (giLM (cI .u64) hx40)) ?_
          refine xV [0] rfl rfl (fun _ => va_loadE rfl rfl rfl (giM (cI .u64) hx40) rfl rfl) ?_
          refine xv [] rfl rfl (fun _ => rfl) ?_
          refine xv [] rfl rfl (fun _ => rfl) ?_
          obtain ⟨x20, hx41, ho14⟩ := bi ho14
          refine xV [0] rfl rfl (fun _ => va_place rfl rfl rfl rfl rfl rfl rfl (gi0 hx41) (giLM (cI .u64) hx41)) ?_
          refine xV [0] rfl rfl (fun _ => va_loadE rfl rfl rfl (giM (cI .u64) hx41) rfl rfl) ?_
          obtain ⟨x21, hx42, ho14⟩ := bi ho14
          refine xV [0] rfl rfl (fun _ => va_place rfl rfl rfl rfl rfl rfl rfl (gi0 hx42) (giLM (cI .u64) hx42)) ?_
          obtain ⟨data6, hx43, ho14⟩ := bi ho14
          obtain ⟨o3, ho44⟩ := stG hx43
          refine xW [0] .any 1 _ _ rfl rfl (by
              refine rse rfl rfl rfl (giM (cI .u64) ho44) rfl rfl rfl rfl rfl ?_
              refine rk (congrArg (Kind.wr _) (stM (cI .u64) hx43)) ?_
              exact rn ⟨rfl, rfl⟩) (by rfl) (by rfl) (by repeat (first | exact oi0 | refine oi1 (by first | exact trivial | exact ki_wr (lmM (fun _ => rfl) _)) ?_)) (by rfl) (by rfl) ?_
          obtain ⟨x22, hx45, ho14⟩ := bi ho14
          refine xV [0] rfl rfl (fun _ => va_place rfl rfl rfl rfl rfl rfl rfl (gi0 hx45) (giLM (cI .u64) hx45)) ?_
          refine xn (by kernel_rfl) ?_
          obtain ⟨data7, hx46, ho14⟩ := bi ho14
          obtain ⟨o4, ho47⟩ := stG hx46
          refine rse rfl rfl rfl (giM (cI .u64) ho47) rfl rfl rfl rfl rfl ?_
          refine rk (congrArg (Kind.wr _) (stM (cI .u64) hx46)) ?_
          refine rn ?_
          refine awp_seq ?_
          refine awp_region ?_
          refine rvs 3 rfl ?_
          refine rn ?_
          refine awp_region ?_
          refine rvs 3 rfl ?_
          refine rn ?_
          refine inBlock_normal ?_
          cases ho14
          exact lp_n [0] rfl rfl ⟨rfl, rfl, zA rfl rfl rfl (zA rfl rfl rfl (zA rfl rfl rfl (zA rfl rfl rfl (trivial)))), trivial, zE rfl (.wr (lmM (fun _ => rfl) _)) rfl (trivial)⟩
  · rintro ⟨i3, l1⟩ rfl
    refine awp_seq ?_
    refine awp_region ?_
    refine rvs 2 rfl ?_
    refine rn ?_
    refine awp_ret ?_
    have h := Option.some.inj h
    subst h
    repeat (first | refine then_ret ?_ | refine inBlock_ret ?_ | refine cut_r ?_)
    exact rrA (r := .int .i64 i3) [0] [] [(0, .wr 1 (l1.map (cI .u64)))] rfl rfl rfl rfl (trivial) (zE rfl (.wr (lmM (fun _ => rfl) _)) rfl (trivial)) ⟨rfl, rfl, rfl, rfl⟩
end

/-- `slices.partitionOrdered[uint64]` -/
def dslices_partitionOrdered_uint64 (fu : Nat) (data1 : List Int) (a1 : Int) (b1 : Int) (pivot1 : Int) : Option (Int × Bool × (List Int)) :=
  (gi data1 pivot1).bind fun x4 => (gi data1 a1).bind fun x5 => (gi data1 a1).bind fun x6 => (sti data1 a1 x4).bind fun data2 => (gi data2 pivot1).bind fun x7 => (sti data2 pivot1 x5).bind fun data3 => (loopD (ε := Int) (τ := Int) (fun (i1 : Int) => ((bif (decide (i1 ≤ (W (b1 - 1)))) then ((gi data3 i1).bind fun x9 => (gi data3 a1).bind fun x10 => (dcmp_Less_uint64 fu x9 x10).bind fun x11 => some x11) else some false : Option Bool).bind fun (x8 : Bool) => (bif x8 then some (Sum.inl (W (i1 + 1))) else some (Sum.inr i1)))) fu (W (a1 + 1))).bind fun (i3 : Int) => ((loopD (ε := Int) (τ := Int) (fun (j1 : Int) => ((bif (decide (i3 ≤ j1)) then ((gi data3 j1).bind fun x13 => (gi data3 a1).bind fun x14 => (dcmp_Less_uint64 fu x13 x14).bind fun x15 => some (!x15)) else some false : Option Bool).bind fun (x12 : Bool) => (bif x12 then some (Sum.inl (W (j1 - 1))) else some (Sum.inr j1)))) fu (W (b1 - 1))).bind fun (j3 : Int) => (bif (decide (i3 > j3)) then ((gi data3 a1).bind fun x19 => (gi data3 j3).bind fun x20 => (gi data3 j3).bind fun x21 => (sti data3 j3 x19).bind fun data4 => (gi data4 a1).bind fun x22 => (sti data4 a1 x20).bind fun data5 => some (j3, true, data5)) else ((gi data3 j3).bind fun x26 => (gi data3 i3).bind fun x27 => (gi data3 i3).bind fun x28 => (sti data3 i3 x26).bind fun data6 => (gi data6 j3).bind fun x29 => (sti data6 j3 x27).bind fun data7 => (loopD (ε := Int × Int × (List Int)) (τ := Int × (List Int)) (fun (((i4, j4, data8)) : Int × Int × (List Int)) => ((loopD (ε := Int) (τ := Int) (fun (i6 : Int) => ((bif (decide (i6 ≤ j4)) then ((gi data8 i6).bind fun x31 => (gi data8 a1).bind fun x32 => (dcmp_Less_uint64 fu x31 x32).bind fun x33 => some x33) else some false : Option Bool).bind fun (x30 : Bool) => (bif x30 then some (Sum.inl (W (i6 + 1))) else some (Sum.inr i6)))) fu i4).bind fun (i8 : Int) => ((loopD (ε := Int) (τ := Int) (fun (j7 : Int) => ((bif (decide (i8 ≤ j7)) then ((gi data8 j7).bind fun x35 => (gi data8 a1).bind fun x36 => (dcmp_Less_uint64 fu x35 x36).bind fun x37 => some (!x37)) else some false : Option Bool).bind fun (x34 : Bool) => (bif x34 then some (Sum.inl (W (j7 - 1))) else some (Sum.inr j7)))) fu j4).bind fun (j9 : Int) => (bif (decide (i8 > j9)) then some (Sum.inr (j9, data8)) else ((gi data8 j9).bind fun x41 => (gi data8 i8).bind fun x42 => (gi data8 i8).bind fun x43 => (sti data8 i8 x41).bind fun data11 => (gi data11 j9).bind fun x44 => (sti data11 j9 x42).bind fun data12 => some (Sum.inl (W (i8 + 1), W (j9 - 1), data12))))))) fu (W (i3 + 1), W (j3 - 1), data7)).bind fun (((j6, data10)) : Int × (List Int)) => ((gi data10 a1).bind fun x48 => (gi data10 j6).bind fun x49 => (gi data10 j6).bind fun x50 => (sti data10 j6 x48).bind fun data13 => (gi data13 a1).bind fun x51 => (sti data13 a1 x49).bind fun data14 => some (j6, false, data14)))))
section
attribute [local irreducible] awp aops DP PCall ACall Decidable.decide
theorem dslices_partitionOrdered_uint64_l {fu : Nat} {data1 : List Int} {a1 : Int} {b1 : Int} {pivot1 : Int} {r : Int × Bool × (List Int)} (h : dslices_partitionOrdered_uint64 fu data1 a1 b1 pivot1 = some r) : ACall Try.prog 123 1 [.own 0, .int .i64 a1, .int .i64 b1, .int .i64 pivot1] [] [(0, .wr 1 (data1.map (cI .u64)))] (fun r_ H_ O_ n_ => r_ = .tup [.int .i64 r.1, .bool r.2.1] ∧ H_ = [] ∧ O_ = [(0, .wr 1 (r.2.2.map (cI .u64)))] ∧ n_ = 1) := by
  rw [dslices_partitionOrdered_uint64] at h
  refine acall_body Try.func123 rfl (by kernel_rfl) (by rfl) ?_
  refine awp_seq ?_
  refine awp_region ?_
  refine rvs 2 rfl ?_
  refine rn ?_
  refine awp_seq ?_
  refine awp_dx (m := 15) [[10, 11, 13]] Try.mix (by kernel_rfl) (by kernel_rfl) (by kernel_rfl) (by kernel_rfl) (by kernel_rfl) (by kernel_rfl) ?_
  refine xv [] rfl rfl (fun _ => rfl) ?_
  refine xv [] rfl rfl (fun _ => rfl) ?_
  refine xv [] rfl rfl (fun _ => rfl) ?_
  refine xv [] rfl rfl (fun _ => rfl) ?_
  refine xv [] rfl rfl (fun _ => rfl) ?_
  refine xv [] rfl rfl (fun _ => rfl) ?_
  obtain ⟨x4, hx4, h⟩ := bi h
  refine xV [0] rfl rfl (fun _ => va_place rfl rfl rfl rfl rfl rfl rfl (gi0 hx4) (giLM (cI .u64) hx4)) ?_
  refine xV [0] rfl rfl (fun _ => va_loadE rfl rfl rfl (giM (cI .u64) hx4) rfl rfl) ?_
  refine xv [] rfl rfl (fun _ => rfl) ?_
  refine xv [] rfl rfl (fun _ => rfl) ?_
  obtain ⟨x5, hx5, h⟩ := bi h
  refine xV [0] rfl rfl (fun _ => va_place rfl rfl rfl rfl rfl rfl rfl (gi0 hx5) (giLM (cI .u64) hx5)) ?_
  refine xV [0] rfl rfl (fun _ => va_loadE rfl rfl rfl (giM (cI .u64) hx5) rfl rfl) ?_
  obtain ⟨x6, hx6, h⟩ := bi h
  refine xV [0] rfl rfl (fun _ => va_place rfl rfl rfl rfl rfl rfl rfl (gi0 hx6) (giLM (cI .u64) hx6)) ?_
  obtain ⟨data2, hx7, h⟩ := bi h
  obtain ⟨o1, ho8⟩ := stG hx7
  refine xW [0] .any 1 _ _ rfl rfl (by
      refine rse rfl rfl rfl (giM (cI .u64) ho8) rfl rfl rfl rfl rfl ?_
      refine rk (congrArg (Kind.wr _) (stM (cI .u64) hx7)) ?_
      exact rn ⟨rfl, rfl⟩) (by rfl) (by rfl) (by repeat (first | exact oi0 | refine oi1 (by first | exact trivial | exact ki_wr (lmM (fun _ => rfl) _)) ?_)) (by rfl) (by rfl) ?_
  obtain ⟨x7, hx9, h⟩ := bi h
  refine xV [0] rfl rfl (fun _ => va_place rfl rfl rfl rfl rfl rfl rfl (gi0 hx9) (giLM (cI .u64) hx9)) ?_
  refine xn (by kernel_rfl) ?_
  obtain ⟨data3, hx10, h⟩ := bi h
  obtain ⟨o2, ho11⟩ := stG hx10
  refine rse rfl rfl rfl (giM (cI .u64) ho11) rfl rfl rfl rfl rfl ?_
  refine rk (congrArg (Kind.wr _) (stM (cI .u64) hx10)) ?_
  refine rn ?_
  refine awp_seq ?_
  refine awp_region ?_
  refine rvs 6 rfl ?_
  refine rn ?_
  refine awp_seq ?_
  obtain ⟨e12, hl13, h⟩ := bi h
  refine awp_cut1 (fun x => x = e12) (fun (i3 : Int) => ⟨[(0, .own 0), (1, .int .i64 a1), (10, .int .i64 i3), (11, .int .i64 (W (b1 - 1)))], [], [(0, .wr 1 (data3.map (cI .u64)))], 1⟩) ?_ ?_
  · refine awp_block ?_
    refine awp_loopD hl13 (fun (i1 : Int) => ⟨[(0, .own 0), (1, .int .i64 a1), (10, .int .i64 i1), (11, .int .i64 (W (b1 - 1)))], [], [(0, .wr 1 (data3.map (cI .u64)))], 1⟩) [0] rfl ⟨rfl, rfl, zA rfl rfl rfl (zA rfl rfl rfl (zA rfl rfl rfl (zA rfl rfl rfl (trivial)))), trivial, zE rfl (.wr (lmM (fun _ => rfl) _)) rfl (trivial)⟩ ?_
    intro i1 o16 ho14 hE15
    change awp _ _ _ _ _ ⟨_, _, _, _⟩
    refine awp_seq ?_
    refine awp_seq ?_
    obtain ⟨o17, ho18, ho14⟩ := bi ho14
    refine awp_cut1 (fun x => x = o17) (fun (x8 : Bool) => ⟨[(0, .own 0), (1, .int .i64 a1), (10, .int .i64 i1), (11, .int .i64 (W (b1 - 1))), (43, .bool x8)], [], [(0, .wr 1 (data3.map (cI .u64)))], 1⟩) ?_ ?_
    · refine awp_dp (m := 14) Try.mix (by kernel_rfl) (by kernel_rfl) (by kernel_rfl) (by kernel_rfl) (by kernel_rfl) (by kernel_rfl) (by kernel_rfl) ?_
      refine dv rfl rfl (fun _ => rfl) ?_
      refine dv rfl rfl (fun _ => rfl) ?_
      refine dv rfl rfl (fun _ => rfl) ?_
      refine dv rfl rfl (fun _ => rfl) ?_
      refine ds rfl rfl (fun hg => ?_) (fun hg => ?_)
      · have ho18 := cT hg ho18
        refine dv rfl rfl (fun _ => rfl) ?_
        refine dv rfl rfl (fun _ => rfl) ?_
        obtain ⟨x9, hx19, ho18⟩ := bi ho18
        refine dV rfl rfl (fun _ => va_place rfl rfl rfl rfl rfl rfl rfl (gi0 hx19) (giLM (cI .u64) hx19)) ?_
        refine dV rfl rfl (fun _ => va_loadE rfl rfl rfl (giM (cI .u64) hx19) rfl rfl) ?_
        refine dv rfl rfl (fun _ => rfl) ?_
        refine dv rfl rfl (fun _ => rfl) ?_
        obtain ⟨x10, hx20, ho18⟩ := bi ho18
        refine dV rfl rfl (fun _ => va_place rfl rfl rfl rfl rfl rfl rfl (gi0 hx20) (giLM (cI .u64) hx20)) ?_
        refine dV rfl rfl (fun _ => va_loadE rfl rfl rfl (giM (cI .u64) hx20) rfl rfl) ?_
        obtain ⟨x11, hx21, ho18⟩ := bi ho18
        refine dc rfl rfl rfl rfl (fun _ => rfl) (fun _ => (dcmp_Less_uint64_l hx21)) ?_
        refine dv rfl rfl (fun _ => rfl) ?_
        refine dn ?_
        refine rn ?_
        cases ho18
        exact cut_n [0] rfl rfl ⟨rfl, rfl, zA rfl rfl rfl (zA rfl rfl rfl (zA rfl rfl rfl (zA rfl rfl rfl (zA rfl rfl rfl (trivial))))), trivial, zE rfl (.wr (lmM (fun _ => rfl) _)) rfl (trivial)⟩
      · have ho18 := cF hg ho18
        refine dno rfl rfl ?_
        refine dno rfl rfl ?_
        refine dno rfl rfl ?_
        refine dno rfl rfl ?_
        refine dno rfl rfl ?_
        refine dno rfl rfl ?_
        refine dno rfl rfl ?_
        refine dno rfl rfl ?_
        refine dno rfl rfl ?_
        refine dv rfl rfl (fun _ => rfl) ?_
        refine dn ?_
        refine rn ?_
        cases ho18
        exact cut_n [0] rfl rfl ⟨rfl, rfl, zA rfl rfl rfl (zA rfl rfl rfl (zA rfl rfl rfl (zA rfl rfl rfl (zA rfl rfl rfl (trivial))))), trivial, zE rfl (.wr (lmM (fun _ => rfl) _)) rfl (trivial)⟩
    · rintro x8 rfl
      change awp _ _ _ _ _ ⟨_, _, _, _⟩
      refine cs_ rfl (fun hc => ?_) (fun hc => ?_)
      · have ho14 := cT hc ho14
        refine awp_skip ?_
        refine awp_block ?_
        refine awp_region ?_
        refine rvs 3 rfl ?_
        refine rn ?_
        refine inBlock_normal ?_
        cases ho14
        exact lp_n [0] rfl rfl ⟨rfl, rfl, zA rfl rfl rfl (zA rfl rfl rfl (zA rfl rfl rfl (zA rfl rfl rfl (trivial)))), trivial, zE rfl (.wr (lmM (fun _ => rfl) _)) rfl (trivial)⟩
      · have ho14 := cF hc ho14
        refine awp_exit ?_
        repeat (first | refine then_exit ?_ | refine cut_x ?_ | refine inBlock_other rfl ?_)
        refine inBlock_exit ?_
        cases ho14
        have hq := hE15 _ rfl
        subst hq
        exact cut_n [0] rfl rfl ⟨rfl, rfl, zA rfl rfl rfl (zA rfl rfl rfl (zA rfl rfl rfl (zA rfl rfl rfl (trivial)))), trivial, zE rfl (.wr (lmM (fun _ => rfl) _)) rfl (trivial)⟩
  · rintro i3 rfl
    change awp _ _ _ _ _ ⟨_, _, _, _⟩
    refine awp_seq ?_
    obtain ⟨e22, hl23, h⟩ := bi h
    refine awp_cut1 (fun x => x = e22) (fun (j3 : Int) => ⟨[(0, .own 0), (1, .int .i64 a1), (10, .int .i64 i3), (11, .int .i64 j3)], [], [(0, .wr 1 (data3.map (cI .u64)))], 1⟩) ?_ ?_
    · refine awp_block ?_
      refine awp_loopD hl23 (fun (j1 : Int) => ⟨[(0, .own 0), (1, .int .i64 a1), (10, .int .i64 i3), (11, .int .i64 j1)], [], [(0, .wr 1 (data3.map (cI .u64)))], 1⟩) [0] rfl ⟨rfl, rfl, zA rfl rfl rfl (zA rfl rfl rfl (zA rfl rfl rfl (zA rfl rfl rfl (trivial)))), trivial, zE rfl (.wr (lmM (fun _ => rfl) _)) rfl (trivial)⟩ ?_
      intro j1 o26 ho24 hE25
      change awp _ _ _ _ _ ⟨_, _, _, _⟩
      refine awp_seq ?_
      refine awp_seq ?_
      obtain ⟨o27, ho28, ho24⟩ := bi ho24
      refine awp_cut1 (fun x => x = o27) (fun (x12 : Bool) => ⟨[(0, .own 0), (1, .int .i64 a1), (10, .int .i64 i3), (11, .int .i64 j1), (60, .bool x12)], [], [(0, .wr 1 (data3.map (cI .u64)))], 1⟩) ?_ ?_
      · refine awp_dp (m := 15) Try.mix (by kernel_rfl) (by kernel_rfl) (by kernel_rfl) (by kernel_rfl) (by kernel_rfl) (by kernel_rfl) (by kernel_rfl) ?_
        refine dv rfl rfl (fun _ => rfl) ?_
        refine dv rfl rfl (fun _ => rfl) ?_
        refine dv rfl rfl (fun _ => rfl) ?_
        refine dv rfl rfl (fun _ => rfl) ?_
        refine ds rfl rfl (fun hg => ?_) (fun hg => ?_)
        · have ho28 := cT hg ho28
          refine dv rfl rfl (fun _ => rfl) ?_
          refine dv rfl rfl (fun _ => rfl) ?_
          obtain ⟨x13, hx29, ho28⟩ := bi ho28
          refine dV rfl rfl (fun _ => va_place rfl rfl rfl rfl rfl rfl rfl (gi0 hx29) (giLM (cI .u64) hx29)) ?_
          refine dV rfl rfl (fun _ => va_loadE rfl rfl rfl (giM (cI .u64) hx29) rfl rfl) ?_
          refine dv rfl rfl (fun _ => rfl) ?_
          refine dv rfl rfl (fun _ => rfl) ?_
          obtain ⟨x14, hx30, ho28⟩ := bi ho28
          refine dV rfl rfl (fun _ => va_place rfl rfl rfl rfl rfl rfl rfl (gi0 hx30) (giLM (cI .u64) hx30)) ?_
          refine dV rfl rfl (fun _ => va_loadE rfl rfl rfl (giM (cI .u64) hx30) rfl rfl) ?_
          obtain ⟨x15, hx31, ho28⟩ := bi ho28
          refine dc rfl rfl rfl rfl (fun _ => rfl) (fun _ => (dcmp_Less_uint64_l hx31)) ?_
          refine dv rfl rfl (fun _ => rfl) ?_
          refine dv rfl rfl (fun _ => rfl) ?_
          refine dn ?_
          refine rn ?_
          cases ho28
          exact cut_n [0] rfl rfl ⟨rfl, rfl, zA rfl rfl rfl (zA rfl rfl rfl (zA rfl rfl rfl (zA rfl rfl rfl (zA rfl rfl rfl (trivial))))), trivial, zE rfl (.wr (lmM (fun _ => rfl) _)) rfl (trivial)⟩
        · have ho28 := cF hg ho28
          refine dno rfl rfl ?_
          refine dno rfl rfl ?_
          refine dno rfl rfl ?_
          refine dno rfl rfl ?_
          refine dno rfl rfl ?_
          refine dno rfl rfl ?_
          refine dno rfl rfl ?_
          refine dno rfl rfl ?_
          refine dno rfl rfl ?_
          refine dno rfl rfl ?_
          refine dv rfl rfl (fun _ => rfl) ?_
          refine dn ?_
          refine rn ?_
          cases ho28
          exact cut_n [0] rfl rfl ⟨rfl, rfl, zA rfl rfl rfl (zA rfl rfl rfl (zA rfl rfl rfl (zA rfl rfl rfl (zA rfl rfl rfl (trivial))))), trivial, zE rfl (.wr (lmM (fun _ => rfl) _)) rfl (trivial)⟩
      · rintro x12 rfl
        change awp _ _ _ _ _ ⟨_, _, _, _⟩
        refine cs_ rfl (fun hc => ?_) (fun hc => ?_)
        · have ho24 := cT hc ho24
          refine awp_skip ?_
          refine awp_block ?_
          refine awp_region ?_
          refine rvs 3 rfl ?_
          refine rn ?_
          refine inBlock_normal ?_
          cases ho24
          exact lp_n [0] rfl rfl ⟨rfl, rfl, zA rfl rfl rfl (zA rfl rfl rfl (zA rfl rfl rfl (zA rfl rfl rfl (trivial)))), trivial, zE rfl (.wr (lmM (fun _ => rfl) _)) rfl (trivial)⟩
        · have ho24 := cF hc ho24
          refine awp_exit ?_
          repeat (first | refine then_exit ?_ | refine cut_x ?_ | refine inBlock_other rfl ?_)
          refine inBlock_exit ?_
          cases ho24
          have hq := hE25 _ rfl
          subst hq
          exact cut_n [0] rfl rfl ⟨rfl, rfl, zA rfl rfl rfl (zA rfl rfl rfl (zA rfl rfl rfl (zA rfl rfl rfl (trivial)))), trivial, zE rfl (.wr (lmM (fun _ => rfl) _)) rfl (trivial)⟩
    · rintro j3 rfl
      change awp _ _ _ _ _ ⟨_, _, _, _⟩
      refine awp_seq ?_
      refine awp_seq ?_
      refine awp_region ?_
      refine rvs 3 rfl ?_
      refine rn ?_
      refine cs_ rfl (fun hc => ?_) (fun hc => ?_)
      · have h := cT hc h
        refine awp_seq ?_
        refine awp_dx (m := 15) [[10, 11, 13]] Try.mix (by kernel_rfl) (by kernel_rfl) (by kernel_rfl) (by kernel_rfl) (by kernel_rfl) (by kernel_rfl) ?_
        refine xv [] rfl rfl (fun _ => rfl) ?_
        refine xv [] rfl rfl (fun _ => rfl) ?_
        refine xv [] rfl rfl (fun _ => rfl) ?_
        refine xv [] rfl rfl (fun _ => rfl) ?_
        refine xv [] rfl rfl (fun _ => rfl) ?_
        refine xv [] rfl rfl (fun _ => rfl) ?_
        obtain ⟨x19, hx35, h⟩ := bi h
        refine xV [0] rfl rfl (fun _ => va_place rfl rfl rfl rfl rfl rfl rfl (gi0 hx35) (giLM (cI .u64) hx35)) ?_
        refine xV [0] rfl rfl (fun _ => va_loadE rfl rfl rfl (giM (cI .u64) hx35) rfl rfl) ?_
        refine xv [] rfl rfl (fun _ => rfl) ?_
        refine xv [] rfl rfl (fun _ => rfl) ?_
        obtain ⟨x20, hx36, h⟩ := bi h
        refine xV [0] rfl rfl (fun _ => va_place rfl rfl rfl rfl rfl rfl rfl (gi0 hx36) (giLM (cI .u64) hx36)) ?_
        refine xV [0] rfl rfl (fun _ => va_loadE rfl rfl rfl (giM (cI .u64) hx36) rfl rfl) ?_
        obtain ⟨x21, hx37, h⟩ := bi h
        refine xV [0] rfl rfl (fun _ => va_place rfl rfl rfl rfl rfl rfl rfl (gi0 hx37) (giLM (cI .u64) hx37)) ?_
        obtain ⟨data4, hx38, h⟩ := bi h
        obtain ⟨o3, ho39⟩ := stG hx38
        refine xW [0] .any 1 _ _ rfl rfl (by
            refine rse rfl rfl rfl (giM (cI .u64) ho39) rfl rfl rfl rfl rfl ?_
            refine rk (congrArg (Kind.wr _) (stM (cI .u64) hx38)) ?_
            exact rn ⟨rfl, rfl⟩) (by rfl) (by rfl) (by repeat (first | exact oi0 | refine oi1 (by first | exact trivial | exact ki_wr (lmM (fun _ => rfl) _)) ?_)) (by rfl) (by rfl) ?_
        obtain ⟨x22, hx40, h⟩ := bi h
        refine xV [0] rfl rfl (fun _ => va_place rfl rfl rfl rfl rfl rfl rfl (gi0 hx40) (giLM (cI .u64) hx40)) ?_
        refine xn (by kernel_rfl) ?_
        obtain ⟨data5, hx41, h⟩ := bi h
        obtain ⟨o4, ho42⟩ := stG hx41
        refine rse rfl rfl rfl (giM (cI .u64) ho42) rfl rfl rfl rfl rfl ?_
        refine rk (congrArg (Kind.wr _) (stM (cI .u64) hx41)) ?_
        refine rn ?_
        refine awp_seq ?_
        refine awp_region ?_
        refine rvs 3 rfl ?_
        refine rn ?_
        refine awp_ret ?_
        have h := Option.some.inj h
        subst h
        repeat (first | refine then_ret ?_ | refine inBlock_ret ?_ | refine cut_r ?_)
        exact rrA (r := .tup [.int .i64 j3, .bool true]) [0] [] [(0, .wr 1 (data5.map (cI .u64)))] rfl rfl rfl rfl (trivial) (zE rfl (.wr (lmM (fun _ => rfl) _)) rfl (trivial)) ⟨rfl, rfl, rfl, rfl⟩
      · have h := cF hc h
        refine awp_skip ?_
        refine awp_seq ?_
        refine awp_dx (m := 15) [[10, 11, 13]] Try.mix (by kernel_rfl) (by kernel_rfl) (by kernel_rfl) (by kernel_rfl) (by kernel_rfl) (by kernel_rfl) ?_
        refine xv [] rfl rfl (fun _ => rfl) ?_
        refine xv [] rfl rfl (fun _ => rfl) ?_
        refine xv [] rfl rfl (fun _ => rfl) ?_
        refine xv [] rfl rfl (fun _ => rfl) ?_
        refine xv [] rfl rfl (fun _ => rfl) ?_
        refine xv [] rfl rfl (fun _ => rfl) ?_
        obtain ⟨x26, hx46, h⟩ := bi h
        refine xV [0] rfl rfl (fun _ => va_place rfl rfl rfl rfl rfl rfl rfl (gi0 hx46) (giLM (cI .u64) hx46)) ?_
        refine xV [0] rfl rfl (fun _ => va_loadE rfl rfl rfl (giM (cI .u64) hx46) rfl rfl) ?_
        refine xv [] rfl rfl (fun _ => rfl) ?_
        refine xv [] rfl rfl (fun _ => rfl) ?_
        obtain ⟨x27, hx47, h⟩ := bi h
        refine xV [0] rfl rfl (fun _ => va_place rfl rfl rfl rfl rfl rfl rfl (gi0 hx47) (giLM (cI .u64) hx47)) ?_
        refine xV [0] rfl rfl (fun _ => va_loadE rfl rfl rfl (giM (cI .u64) hx47) rfl rfl) ?_
        obtain ⟨x28, hx48, h⟩ := bi h
        refine xV [0] rfl rfl (fun _ => va_place rfl rfl rfl rfl rfl rfl rfl (gi0 hx48) (giLM (cI .u64) hx48)) ?_
        obtain ⟨data6, hx49, h⟩ := bi h
        obtain ⟨o5, ho50⟩ := stG hx49
        refine xW [0] .any 1 _ _ rfl rfl (by
            refine rse rfl rfl rfl (giM (cI .u64) ho50) rfl rfl rfl rfl rfl ?_
            refine rk (congrArg (Kind.wr _) (stM (cI .u64) hx49)) ?_
            exact rn ⟨rfl, rfl⟩) (by rfl) (by rfl) (by repeat (first | exact oi0 | refine oi1 (by first | exact trivial | exact ki_wr (lmM (fun _ => rfl) _)) ?_)) (by rfl) (by rfl) ?_
        obtain ⟨x29, hx51, h⟩ := bi h
        refine xV [0] rfl rfl (fun _ => va_place rfl rfl rfl rfl rfl rfl rfl (gi0 hx51) (giLM (cI .u64) hx51)) ?_
        refine xn (by kernel_rfl) ?_
        obtain ⟨data7, hx52, h⟩ := bi h
        obtain ⟨o6, ho53⟩ := stG hx52
        refine rse rfl rfl rfl (giM (cI .u64) ho53) rfl rfl rfl rfl rfl ?_
        refine rk (congrArg (Kind.wr _) (stM (cI .u64) hx52)) ?_
        refine rn ?_
        refine awp_seq ?_
        refine awp_region ?_
        refine rvs 3 rfl ?_
        refine rn ?_
        refine awp_seq ?_
        refine awp_region ?_
        refine rvs 3 rfl ?_
        refine rn ?_
        refine awp_seq ?_
        obtain ⟨e54, hl55, h⟩ := bi h
        refine awp_cut1 (fun x => x = e54) (fun (((j6, data10)) : Int × (List Int)) => ⟨[(0, .own 0), (1, .int .i64 a1), (11, .int .i64 j6)], [], [(0, .wr 1 (data10.map (cI .u64)))], 1⟩) ?_ ?_
        · refine awp_block ?_
          refine awp_loopD hl55 (fun (((i4, j4, data8)) : Int × Int × (List Int)) => ⟨[(0, .own 0), (1, .int .i64 a1), (10, .int .i64 i4), (11, .int .i64 j4)], [], [(0, .wr 1 (data8.map (cI .u64)))], 1⟩) [0] rfl ⟨rfl, rfl, zA rfl rfl rfl (zA rfl rfl rfl (zA rfl rfl rfl (zA rfl rfl rfl (trivial)))), trivial, zE rfl (.wr (lmM (fun _ => rfl) _)) rfl (trivial)⟩ ?_
          intro v o58 ho56 hE57
          obtain ⟨i4, j4, data8⟩ := v
          change awp _ _ _ _ _ ⟨_, _, _, _⟩
          refine awp_block ?_
          refine awp_seq ?_
          obtain ⟨e59, hl60, ho56⟩ := bi ho56
          refine awp_cut1 (fun x => x = e59) (fun (i8 : Int) => ⟨[(0, .own 0), (1, .int .i64 a1), (10, .int .i64 i8), (11, .int .i64 j4)], [], [(0, .wr 1 (data8.map (cI .u64)))], 1⟩) ?_ ?_
          · refine awp_block ?_
            refine awp_loopD hl60 (fun (i6 : Int) => ⟨[(0, .own 0), (1, .int .i64 a1), (10, .int .i64 i6), (11, .int .i64 j4)], [], [(0, .wr 1 (data8.map (cI .u64)))], 1⟩) [0] rfl ⟨rfl, rfl, zA rfl rfl rfl (zA rfl rfl rfl (zA rfl rfl rfl (zA rfl rfl rfl (trivial)))), trivial, zE rfl (.wr (lmM (fun _ => rfl) _)) rfl (trivial)⟩ ?_
            intro i6 o63 ho61 hE62
            change awp _ _ _ _ _ ⟨_, _, _, _⟩
            refine awp_seq ?_
            refine awp_seq ?_
            obtain ⟨o64, ho65, ho61⟩ := bi ho61
            refine awp_cut1 (fun x => x = o64) (fun (x30 : Bool) => ⟨[(0, .own 0), (1, .int .i64 a1), (10, .int .i64 i6), (11, .int .i64 j4), (112, .bool x30)], [], [(0, .wr 1 (data8.map (cI .u64)))], 1⟩) ?_ ?_
            · refine awp_dp (m := 14) Try.mix (by kernel_rfl) (by kernel_rfl) (by kernel_rfl) (by kernel_rfl) (by kernel_rfl) (by kernel_rfl) (by kernel_rfl) ?_
              refine dv rfl rfl (fun _ => rfl) ?_
              refine dv rfl rfl (fun _ => rfl) ?_
              refine dv rfl rfl (fun _ => rfl) ?_
              refine dv rfl rfl (fun _ => rfl) ?_
              refine ds rfl rfl (fun hg => ?_) (fun hg => ?_)
              · have ho65 := cT hg ho65
                refine dv rfl rfl (fun _ => rfl) ?_
                refine dv rfl rfl (fun _ => rfl) ?_
                obtain ⟨x31, hx66, ho65⟩ := bi ho65
                refine dV rfl rfl (fun _ => va_place rfl rfl rfl rfl rfl rfl rfl (gi0 hx66) (giLM (cI .u64) hx66)) ?_
                refine dV rfl rfl (fun _ => va_loadE rfl rfl rfl (giM (cI .u64) hx66) rfl rfl) ?_
                refine dv rfl rfl (fun _ => rfl) ?_
                refine dv rfl rfl (fun _ => rfl) ?_
                obtain ⟨x32, hx67, ho65⟩ := bi ho65
                refine dV rfl rfl (fun _ => va_place rfl rfl rfl rfl rfl rfl rfl (gi0 hx67) (giLM (cI .u64) hx67)) ?_
                refine dV rfl rfl (fun _ => va_loadE rfl rfl rfl (giM (cI .u64) hx67) rfl rfl) ?_
                obtain ⟨x33, hx68, ho65⟩ := bi ho65
                refine dc rfl rfl rfl rfl (fun _ => rfl) (fun _ => (dcmp_Less_uint64_l hx68)) ?_
                refine dv rfl rfl (fun _ => rfl) ?_
                refine dn ?_
                refine rn ?_
                cases ho65
                exact cut_n [0] rfl rfl ⟨rfl, rfl, zA rfl rfl rfl (zA rfl rfl rfl (zA rfl rfl rfl (zA rfl rfl rfl (zA rfl rfl rfl (trivial))))), trivial, zE rfl (.wr (lmM (fun _ => rfl) _)) rfl (trivial)⟩
              · have ho65 := cF hg ho65
                refine dno rfl rfl ?_
                refine dno rfl rfl ?_
                refine dno rfl rfl ?_
                refine dno rfl rfl ?_
                refine dno rfl rfl ?_
                refine dno rfl rfl ?_
                refine dno rfl rfl ?_
                refine dno rfl rfl ?_
                refine dno rfl rfl ?_
                refine dv rfl rfl (fun _ => rfl) ?_
                refine dn ?_
                refine rn ?_
                cases ho65
                exact cut_n [0] rfl rfl ⟨rfl, rfl, zA rfl rfl rfl (zA rfl rfl rfl (zA rfl rfl rfl (zA rfl rfl rfl (zA rfl rfl rfl (trivial))))), trivial, zE rfl (.wr (lmM (fun _ => rfl) _)) rfl (trivial)⟩
            · rintro x30 rfl
              change awp _ _ _ _ _ ⟨_, _, _, _⟩
              refine cs_ rfl (fun hc => ?_) (fun hc => ?_)
              · have ho61 := cT hc ho61
                refine awp_skip ?_
                refine awp_block ?_
                refine awp_region ?_
                refine rvs 3 rfl ?_
                refine rn ?_
                refine inBlock_normal ?_
                cases ho61
                exact lp_n [0] rfl rfl ⟨rfl, rfl, zA rfl rfl rfl (zA rfl rfl rfl (zA rfl rfl rfl (zA rfl rfl rfl (trivial)))), trivial, zE rfl (.wr (lmM (fun _ => rfl) _)) rfl (trivial)⟩
              · have ho61 := cF hc ho61
                refine awp_exit ?_
                repeat (first | refine then_exit ?_ | refine cut_x ?_ | refine inBlock_other rfl ?_)
                refine inBlock_exit ?_
                cases ho61
                have hq := hE62 _ rfl
                subst hq
                exact cut_n [0] rfl rfl ⟨rfl, rfl, zA rfl rfl rfl (zA rfl rfl rfl (zA rfl rfl rfl (zA rfl rfl rfl (trivial)))), trivial, zE rfl (.wr (lmM (fun _ => rfl) _)) rfl (trivial)⟩
          · rintro i8 rfl
            change awp _ _ _ _ _ ⟨_, _, _, _⟩
            refine awp_seq ?_
            obtain ⟨e69, hl70, ho56⟩ := bi ho56
            refine awp_cut1 (fun x => x = e69) (fun (j9 : Int) => ⟨[(0, .own 0), (1, .int .i64 a1), (10, .int .i64 i8), (11, .int .i64 j9)], [], [(0, .wr 1 (data8.map (cI .u64)))], 1⟩) ?_ ?_
            · refine awp_block ?_
              refine awp_loopD hl70 (fun (j7 : Int) => ⟨[(0, .own 0), (1, .int .i64 a1), (10, .int .i64 i8), (11, .int .i64 j7)], [], [(0, .wr 1 (data8.map (cI .u64)))], 1⟩) [0] rfl ⟨rfl, rfl, zA rfl rfl rfl (zA rfl rfl rfl (zA rfl rfl rfl (zA rfl rfl rfl (trivial)))), trivial, zE rfl (.wr (lmM (fun _ => rfl) _)) rfl (trivial)⟩ ?_
              intro j7 o73 ho71 hE72
              change awp _ _ _ _ _ ⟨_, _, _, _⟩
              refine awp_seq ?_
              refine awp_seq ?_
              obtain ⟨o74, ho75, ho71⟩ := bi ho71
              refine awp_cut1 (fun x => x = o74) (fun (x34 : Bool) => ⟨[(0, .own 0), (1, .int .i64 a1), (10, .int .i64 i8), (11, .int .i64 j7), (129, .bool x34)], [], [(0, .wr 1 (data8.map (cI .u64)))], 1⟩) ?_ ?_
              · refine awp_dp (m := 15) Try.mix (by kernel_rfl) (by kernel_rfl) (by kernel_rfl) (by kernel_rfl) (by kernel_rfl) (by kernel_rfl) (by kernel_rfl) ?_
                refine dv rfl rfl (fun _ => rfl) ?_
                refine dv rfl rfl (fun _ => rfl) ?_
                refine dv rfl rfl (fun _ => rfl) ?_
                refine dv rfl rfl (fun _ => rfl) ?_
                refine ds rfl rfl (fun hg => ?_) (fun hg => ?_)
                · have ho75 := cT hg ho75
                  refine dv rfl rfl (fun _ => rfl) ?_
                  refine dv rfl rfl (fun _ => rfl) ?_
                  obtain ⟨x35, hx76, ho75⟩ := bi ho75
                  refine dV rfl rfl (fun _ => va_place rfl rfl rfl rfl rfl rfl rfl (gi0 hx76) (giLM (cI .u64) hx76)) ?_
                  refine dV rfl rfl (fun _ => va_loadE rfl rfl rfl (giM (cI .u64) hx76) rfl rfl) ?_
                  refine dv rfl rfl (fun _ => rfl) ?_
                  refine dv rfl rfl (fun _ => rfl) ?_
                  obtain ⟨x36, hx77, ho75⟩ := bi ho75
                  refine dV rfl rfl (fun _ => va_place rfl rfl rfl rfl rfl rfl rfl (gi0 hx77) (giLM (cI .u64) hx77)) ?_
                  refine dV rfl rfl (fun _ => va_loadE rfl rfl rfl (giM (cI .u64) hx77) rfl rfl) ?_
                  obtain ⟨x37, hx78, ho75⟩ := bi ho75
                  refine dc rfl rfl rfl rfl (fun _ => rfl) (fun _ => (dcmp_Less_uint64_l hx78)) ?_
                  refine dv rfl rfl (fun _ => rfl) ?_
                  refine dv rfl rfl (fun _ => rfl) ?_
                  refine dn ?_
                  refine rn ?_
                  cases ho75
                  exact cut_n [0] rfl rfl ⟨rfl, rfl, zA rfl rfl rfl (zA rfl rfl rfl (zA rfl rfl rfl (zA rfl rfl rfl (zA rfl rfl rfl (trivial))))), trivial, zE rfl (.wr (lmM (fun _ => rfl) _)) rfl (trivial)⟩
                · have ho75 := cF hg ho75
                  refine dno rfl rfl ?_
                  refine dno rfl rfl ?_
                  refine dno rfl rfl ?_
                  refine dno rfl rfl ?_
                  refine dno rfl rfl ?_
                  refine dno rfl rfl ?_
                  refine dno rfl rfl ?_
                  refine dno rfl rfl ?_
                  refine dno rfl rfl ?_
                  refine dno rfl rfl ?_
                  refine dv rfl rfl (fun _ => rfl) ?_
                  refine dn ?_
                  refine rn ?_
                  cases ho75
                  exact cut_n [0] rfl rfl ⟨rfl, rfl, zA rfl rfl rfl (zA rfl rfl rfl (zA rfl rfl rfl (zA rfl rfl rfl (zA rfl rfl rfl (trivial))))), trivial, zE rfl (.wr (lmM (fun _ => rfl) _)) rfl (trivial)⟩
              · rintro x34 rfl
                change awp _ _ _ _ _ ⟨_, _, _, _⟩
                refine cs_ rfl (fun hc => ?_) (fun hc => ?_)
                · have ho71 := cT hc ho71
                  refine awp_skip ?_
                  refine awp_block ?_
                  refine awp_region ?_
                  refine rvs 3 rfl ?_
                  refine rn ?_
                  refine inBlock_normal ?_
                  cases ho71
                  exact lp_n [0] rfl rfl ⟨rfl, rfl, zA rfl rfl rfl (zA rfl rfl rfl (zA rfl rfl rfl (zA rfl rfl rfl (trivial)))), trivial, zE rfl (.wr (lmM (fun _ => rfl) _)) rfl (trivial)⟩
                · have ho71 := cF hc ho71
                  refine awp_exit ?_
                  repeat (first | refine then_exit ?_ | refine cut_x ?_ | refine inBlock_other rfl ?_)
                  refine inBlock_exit ?_
                  cases ho71
                  have hq := hE72 _ rfl
                  subst hq
                  exact cut_n [0] rfl rfl ⟨rfl, rfl, zA rfl rfl rfl (zA rfl rfl rfl (zA rfl rfl rfl (zA rfl rfl rfl (trivial)))), trivial, zE rfl (.wr (lmM (fun _ => rfl) _)) rfl (trivial)⟩
            · rintro j9 rfl
              change awp _ _ _ _ _ ⟨_, _, _, _⟩
              refine awp_seq ?_
              refine awp_seq ?_
              refine awp_region ?_
              refine rvs 3 rfl ?_
              refine rn ?_
              refine cs_ rfl (fun hc => ?_) (fun hc => ?_)
              · have ho56 := cT hc ho56
                refine awp_exit ?_
                repeat (first | refine then_exit ?_ | refine cut_x ?_ | refine inBlock_other rfl ?_)
                refine inBlock_exit ?_
                cases ho56
                have hq := hE57 _ rfl
                subst hq
                exact cut_n [0] rfl rfl ⟨rfl, rfl, zA rfl rfl rfl (zA rfl rfl rfl (zA rfl rfl rfl (trivial))), trivial, zE rfl (.wr (lmM (fun _ => rfl) _)) rfl (trivial)⟩
              · have ho56 := cF hc ho56
                refine awp_skip ?_
                refine awp_seq ?_
                refine awp_dx (m := 15) [[10, 11, 13]] Try.mix (by kernel_rfl) (by kernel_rfl) (by kernel_rfl) (by kernel_rfl) (by kernel_rfl) (by kernel_rfl) ?_
                refine xv [] rfl rfl (fun _ => rfl) ?_
                refine xv [] rfl rfl (fun _ => rfl) ?_
                refine xv [] rfl rfl (fun _ => rfl) ?_
                refine xv [] rfl rfl (fun _ => rfl) ?_
                refine xv [] rfl rfl (fun _ => rfl) ?_
                refine xv [] rfl rfl (fun _ => rfl) ?_
                obtain ⟨x41, hx82, ho56⟩ := bi ho56
                refine xV [0] rfl rfl (fun _ => va_place rfl rfl rfl rfl rfl rfl rfl (gi0 hx82) (giLM (cI .u64) hx82)) ?_
                refine xV [0] rfl rfl (fun _ => va_loadE rfl rfl rfl (giM (cI .u64) hx82) rfl rfl) ?_
                refine xv [] rfl rfl (fun _ => rfl) ?_
                refine xv [] rfl rfl (fun _ => rfl) ?_
                obtain ⟨x42, hx83, ho56⟩ := bi ho56
                refine xV [0] rfl rfl (fun _ => va_place rfl rfl rfl rfl rfl rfl rfl (gi0 hx83) (giLM (cI .u64) hx83)) ?_
                refine xV [0] rfl rfl (fun _ => va_loadE rfl rfl rfl (giM (cI .u64) hx83) rfl rfl) ?_
                obtain ⟨x43, hx84, ho56⟩ := bi ho56
                refine xV [0] rfl rfl (fun _ => va_place rfl rfl rfl rfl rfl rfl rfl (gi0 hx84) (giLM (cI .u64) hx84)) ?_
                obtain ⟨data11, hx85, ho56⟩ := bi ho56
                obtain ⟨o7, ho86⟩ := stG hx85
                refine xW [0] .any 1 _ _ rfl rfl (by
                    refine rse rfl rfl rfl (giM (cI .u64) ho86) rfl rfl rfl rfl rfl ?_
                    refine rk (congrArg (Kind.wr _) (stM (cI .u64) hx85)) ?_
                    exact rn ⟨rfl, rfl⟩) (by rfl) (by rfl) (by repeat (first | exact oi0 | refine oi1 (by first | exact trivial | exact ki_wr (lmM (fun _ => rfl) _)) ?_)) (by rfl) (by rfl) ?_
                obtain ⟨x44, hx87, ho56⟩ := bi ho56
                refine xV [0] rfl rfl (fun _ => va_place rfl rfl rfl rfl rfl rfl rfl (gi0 hx87) (giLM (cI .u64) hx87)) ?_
                refine xn (by kernel_rfl) ?_
                obtain ⟨data12, hx88, ho56⟩ := bi ho56
                obtain ⟨o8, ho89⟩ := stG hx88
                refine rse rfl rfl rfl (giM (cI .u64) ho89) rfl rfl rfl rfl rfl ?_
                refine rk (congrArg (Kind.wr _) (stM (cI .u64) hx88)) ?_
                refine rn ?_
                refine awp_seq ?_
                refine awp_region ?_
                refine rvs 3 rfl ?_
                refine rn ?_
                refine awp_region ?_
                refine rvs 3 rfl ?_
                refine rn ?_
                refine inBlock_normal ?_
                cases ho56
                exact lp_n [0] rfl rfl ⟨rfl, rfl, zA rfl rfl rfl (zA rfl rfl rfl (zA rfl rfl rfl (zA rfl rfl rfl (trivial)))), trivial, zE rfl (.wr (lmM (fun _ => rfl) _)) rfl (trivial)⟩
        · rintro ⟨j6, data10⟩ rfl
          change awp _ _ _ _ _ ⟨_, _, _, _⟩
          refine awp_seq ?_
          refine awp_dx (m := 15) [[10, 11, 13]] Try.mix (by kernel_rfl) (by kernel_rfl) (by kernel_rfl) (by kernel_rfl) (by kernel_rfl) (by kernel_rfl) ?_
          refine xv [] rfl rfl (fun _ => rfl) ?_
          refine xv [] rfl rfl (fun _ => rfl) ?_
          refine xv [] rfl rfl (fun _ => rfl) ?_
          refine xv [] rfl rfl (fun _ => rfl) ?_
          refine xv [] rfl rfl (fun _ => rfl) ?_
          refine xv [] rfl rfl (fun _ => rfl) ?_
          obtain ⟨x48, hx93, h⟩ := bi h
          refine xV [0] rfl rfl (fun _ => va_place rfl rfl rfl rfl rfl rfl rfl (gi0 hx93) (giLM (cI .u64) hx93)) ?_
          refine xV [0] rfl rfl (fun _ => va_loadE rfl rfl rfl (giM (cI .u64) hx93) rfl rfl) ?_
          refine xv [] rfl rfl (fun _ => rfl) ?_
          refine xv [] rfl rfl (fun _ => rfl) ?_
          obtain ⟨x49, hx94, h⟩ := bi h
          refine xV [0] rfl rfl (fun _ => va_place rfl rfl rfl rfl rfl rfl rfl (gi0 hx94) (giLM (cI .u64) hx94)) ?_
          refine xV [0] rfl rfl (fun _ => va_loadE rfl rfl rfl (giM (cI .u64) hx94) rfl rfl) ?_
          obtain ⟨x50, hx95, h⟩ := bi h
          refine xV [0] rfl rfl (fun _ => va_place rfl rfl rfl rfl rfl rfl rfl (gi0 hx95) (giLM (cI .u64) hx95)) ?_
          obtain ⟨data13, hx96, h⟩ := bi h
          obtain ⟨o9, ho97⟩ := stG hx96
          refine xW [0] .any 1 _ _ rfl rfl (by
              refine rse rfl rfl rfl (giM (cI .u64) ho97) rfl rfl rfl rfl rfl ?_
              refine rk (congrArg (Kind.wr _) (stM (cI .u64) hx96)) ?_
              exact rn ⟨rfl, rfl⟩) (by rfl) (by rfl) (by repeat (first | exact oi0 | refine oi1 (by first | exact trivial | exact ki_wr (lmM (fun _ => rfl) _)) ?_)) (by rfl) (by rfl) ?_
          obtain ⟨x51, hx98, h⟩ := bi h
          refine xV [0] rfl rfl (fun _ => va_place rfl rfl rfl rfl rfl rfl rfl (gi0 hx98) (giLM (cI .u64) hx98)) ?_
          refine xn (by kernel_rfl) ?_
          obtain ⟨data14, hx99, h⟩ := bi h
          obtain ⟨o10, ho100⟩ := stG hx99
          refine rse rfl rfl rfl (giM (cI .u64) ho100) rfl rfl rfl rfl rfl ?_
          refine rk (congrArg (Kind.wr _) (stM (cI .u64) hx99)) ?_
          refine rn ?_
          refine awp_seq ?_
          refine awp_region ?_
          refine rvs 3 rfl ?_
          refine rn ?_
          refine awp_ret ?_
          have h := Option.some.inj h
          subst h
          repeat (first | refine then_ret ?_ | refine inBlock_ret ?_ | refine cut_r ?_)
          exact rrA (r := .tup [.int .i64 j6, .bool false]) [0] [] [(0, .wr 1 (data14.map (cI .u64)))] rfl rfl rfl rfl (trivial) (zE rfl (.wr (lmM (fun _ => rfl) _)) rfl (trivial)) ⟨rfl, rfl, rfl, rfl⟩
end

mutual
def dslices_pdqsortOrdered_uint64 : Nat → (List Int) → Int → Int → Int → Option (List Int)
  | 0, _, _, _, _ => none
  | fu + 1, data1, a1, b1, limit1 => loopD (ε := Int × Int × Int × Bool × Bool × (List Int)) (τ := List Int) (fun (((a3, b3, limit2, wasBalanced2, wasPartitioned2, data3)) : Int × Int × Int × Bool × Bool × (List Int)) => (bif (decide ((W (b3 - a3)) ≤ 12)) then ((dslices_insertionSortOrdered_uint64 fu data3 a3 b3).bind fun x1 => some (Sum.inr x1)) else (bif (limit2 == 0) then ((dslices_heapSortOrdered_uint64 fu data3 a3 b3).bind fun x2 => some (Sum.inr x2)) else ((bif (!wasBalanced2) then ((dslices_breakPatternsOrdered_uint64 fu data3 a3 b3).bind fun x3 => some (W (limit2 - 1), x3)) else some (limit2, data3) : Option (Int × (List Int))).bind fun (((limit4, data5)) : Int × (List Int)) => ((dslices_choosePivotOrdered_uint64 fu data5 a3 b3).bind fun pivot1 => (bif (pivot1.2.1 == 2) then ((dslices_reverseRangeOrdered_uint64 fu pivot1.2.2 a3 b3).bind fun x4 => (some (W ((W (b3 - 1)) - (W (pivot1.1 - a3))))).bind fun pivot3 => some (pivot3, 1, x4)) else some (pivot1.1, pivot1.2.1, pivot1.2.2) : Option (Int × Int × (List Int))).bind fun (((pivot2, hint1, data6)) : Int × Int × (List Int)) => ((bif wasBalanced2 then (bif wasPartitioned2 then some (hint1 == 1) else some false) else some false : Option Bool).bind fun (x5 : Bool) => ((bif x5 then ((dslices_partialInsertionSortOrdered_uint64 fu data6 a3 b3).bind fun x6 => bif x6.1 then some (Sum.inr (Sum.inr x6.2)) else some (Sum.inl x6.2)) else some (Sum.inl data6) : Option ((List Int) ⊕ ((Int × Int × Int × Bool × Bool × (List Int)) ⊕ (List Int)))).bind fun o => kS o fun (data7 : List Int) => ((bif (decide (a3 > 0)) then ((gi data7 (W (a3 - 1))).bind fun x8 => (gi data7 pivot2).bind fun x9 => (dcmp_Less_uint64 fu x8 x9).bind fun x10 => some (!x10)) else some false : Option Bool).bind fun (x7 : Bool) => (bif x7 then ((dslices_partitionEqualOrdered_uint64 fu data7 a3 b3 pivot2).bind fun mid1 => some (Sum.inl (mid1.1, b3, limit4, wasBalanced2, wasPartitioned2, mid1.2))) else ((dslices_partitionOrdered_uint64 fu data7 a3 b3 pivot2).bind fun mid2 => (quoV .i64 (W (b3 - a3)) 8).bind fun q1 => bif (decide ((W (mid2.1 - a3)) < (W (b3 - mid2.1)))) then ((some (decide ((W (mid2.1 - a3)) ≥ q1))).bind fun wasBalanced4 => (dslices_pdqsortOrdered_uint64 fu mid2.2.2 a3 mid2.1 limit4).bind fun x11 => some (Sum.inl (W (mid2.1 + 1), b3, limit4, wasBalanced4, mid2.2.1, x11))) else ((some (decide ((W (b3 - mid2.1)) ≥ q1))).bind fun wasBalanced5 => (dslices_pdqsortOrdered_uint64 fu mid2.2.2 (W (mid2.1 + 1)) b3 limit4).bind fun x12 => some (Sum.inl (a3, mid2.1, limit4, wasBalanced5, mid2.2.1, x12))))))))))))) fu (a1, b1, limit1, true, true, data1)
end
section
attribute [local irreducible] awp aops DP PCall ACall Decidable.decide
/-- `slices.pdqsortOrdered[uint64]` -/
theorem dslices_pdqsortOrdered_uint64_s {fu : Nat} (ih_dslices_pdqsortOrdered_uint64 : ∀ {data1 a1 b1 limit1} {r : List Int}, dslices_pdqsortOrdered_uint64 fu data1 a1 b1 limit1 = some r → ACall Try.prog 106 1 [.own 0, .int .i64 a1, .int .i64 b1, .int .i64 limit1] [] [(0, .wr 1 (data1.map (cI .u64)))] (fun r_ H_ O_ n_ => r_ = .tup [] ∧ H_ = [] ∧ O_ = [(0, .wr 1 (r.map (cI .u64)))] ∧ n_ = 1)) : ∀ {data1 a1 b1 limit1} {r : List Int}, dslices_pdqsortOrdered_uint64 (fu + 1) data1 a1 b1 limit1 = some r → ACall Try.prog 106 1 [.own 0, .int .i64 a1, .int .i64 b1, .int .i64 limit1] [] [(0, .wr 1 (data1.map (cI .u64)))] (fun r_ H_ O_ n_ => r_ = .tup [] ∧ H_ = [] ∧ O_ = [(0, .wr 1 (r.map (cI .u64)))] ∧ n_ = 1) := by
  intro data1 a1 b1 limit1 r h
  rw [dslices_pdqsortOrdered_uint64] at h
  refine acall_body Try.func106 rfl (by kernel_rfl) (by rfl) ?_
  refine awp_seq ?_
  refine awp_region ?_
  refine rv rfl rfl ?_
  refine rn ?_
  refine awp_seq ?_
  refine awp_region ?_
  refine rv rfl rfl ?_
  refine rn ?_
  have hl2 := h
  refine awp_block ?_
  refine awp_loopD hl2 (fun (((a3, b3, limit2, wasBalanced2, wasPartitioned2, data3)) : Int × Int × Int × Bool × Bool × (List Int)) => ⟨[(0, .own 0), (1, .int .i64 a3), (2, .int .i64 b3), (3, .int .i64 limit2), (8, .bool wasBalanced2), (9, .bool wasPartitioned2)], [], [(0, .wr 1 (data3.map (cI .u64)))], 1⟩) [0] rfl ⟨rfl, rfl, zA rfl rfl rfl (zA rfl rfl rfl (zA rfl rfl rfl (zA rfl rfl rfl (zA rfl rfl rfl (zA rfl rfl rfl (trivial)))))), trivial, zE rfl (.wr (lmM (fun _ => rfl) _)) rfl (trivial)⟩ ?_
  intro v o5 ho3 hE4
  obtain ⟨a3, b3, limit2, wasBalanced2, wasPartitioned2, data3⟩ := v
  change awp _ _ _ _ _ ⟨_, _, _, _⟩
  refine awp_block ?_
  refine awp_seq ?_
  refine awp_region ?_
  refine rvs 4 rfl ?_
  refine rn ?_
  refine awp_seq ?_
  refine awp_seq ?_
  refine awp_region ?_
  refine rvs 2 rfl ?_
  refine rn ?_
  refine cs_ rfl (fun hc => ?_) (fun hc => ?_)
  · have ho3 := cT hc ho3
    refine awp_seq ?_
    refine awp_region ?_
    refine rvs 3 rfl ?_
    obtain ⟨x1, hx6, ho3⟩ := bi ho3
    refine rh [0] rfl rfl (dslices_insertionSortOrdered_uint64_l hx6) rfl rfl rfl (trivial) (zE rfl (.wr (lmM (fun _ => rfl) _)) rfl (trivial)) ?_
    refine ek ?_
    refine as1 rfl ?_
    refine ae rfl rfl rfl ?_
    refine rkO (wO (fun _ => rfl) (rfl)) ?_
    refine rn ?_
    refine awp_ret ?_
    cases ho3
    have hq := hE4 _ rfl
    subst hq
    repeat (first | refine then_ret ?_ | refine inBlock_ret ?_ | refine cut_r ?_)
    exact rrA (r := .tup []) [0] [] [(0, .wr 1 (x1.map (cI .u64)))] rfl rfl rfl rfl (trivial) (zE rfl (.wr (lmM (fun _ => rfl) _)) rfl (trivial)) ⟨rfl, rfl, rfl, rfl⟩
  · have ho3 := cF hc ho3
    refine awp_skip ?_
    refine awp_seq ?_
    refine awp_seq ?_
    refine awp_region ?_
    refine rvs 2 rfl ?_
    refine rn ?_
    refine cs_ rfl (fun hc => ?_) (fun hc => ?_)
    · have ho3 := cT hc ho3
      refine awp_seq ?_
      refine awp_region ?_
      refine rvs 3 rfl ?_
      obtain ⟨x2, hx7, ho3⟩ := bi ho3
      refine rh [0] rfl rfl (dslices_heapSortOrdered_uint64_l hx7) rfl rfl rfl (trivial) (zE rfl (.wr (lmM (fun _ => rfl) _)) rfl (trivial)) ?_
      refine ek ?_
      refine as1 rfl ?_
      refine ae rfl rfl rfl ?_
      refine rkO (wO (fun _ => rfl) (rfl)) ?_
      refine rn ?_
      refine awp_ret ?_
      cases ho3
      have hq := hE4 _ rfl
      subst hq
      repeat (first | refine then_ret ?_ | refine inBlock_ret ?_ | refine cut_r ?_)
      exact rrA (r := .tup []) [0] [] [(0, .wr 1 (x2.map (cI .u64)))] rfl rfl rfl rfl (trivial) (zE rfl (.wr (lmM (fun _ => rfl) _)) rfl (trivial)) ⟨rfl, rfl, rfl, rfl⟩
    · have ho3 := cF hc ho3
      refine awp_skip ?_
      refine awp_seq ?_
      refine awp_seq ?_
      refine awp_region ?_
      refine rvs 2 rfl ?_
      refine rn ?_
      obtain ⟨o8, ho9, ho3⟩ := bi ho3
      refine awp_cut1 (fun x => x = o8) (fun (((limit4, data5)) : Int × (List Int)) => ⟨[(0, .own 0), (1, .int .i64 a3), (2, .int .i64 b3), (3, .int .i64 limit4), (8, .bool wasBalanced2), (9, .bool wasPartitioned2), (10, .int .i64 (W (b3 - a3)))], [], [(0, .wr 1 (data5.map (cI .u64)))], 1⟩) ?_ ?_
      · refine cs_ rfl (fun hc => ?_) (fun hc => ?_)
        · have ho9 := cT hc ho9
          refine awp_seq ?_
          refine awp_region ?_
          refine rvs 3 rfl ?_
          obtain ⟨x3, hx10, ho9⟩ := bi ho9
          refine rh [0] rfl rfl (dslices_breakPatternsOrdered_uint64_l hx10) rfl rfl rfl (trivial) (zE rfl (.wr (lmM (fun _ => rfl) _)) rfl (trivial)) ?_
          refine ek ?_
          refine as1 rfl ?_
          refine ae rfl rfl rfl ?_
          refine rkO (wO (fun _ => rfl) (rfl)) ?_
          refine rn ?_
          refine awp_region ?_
          refine rvs 3 rfl ?_
          refine rn ?_
          cases ho9
          exact cut_n [0] rfl rfl ⟨rfl, rfl, zA rfl rfl rfl (zA rfl rfl rfl (zA rfl rfl rfl (zA rfl rfl rfl (zA rfl rfl rfl (zA rfl rfl rfl (zA rfl rfl rfl (trivial))))))), trivial, zE rfl (.wr (lmM (fun _ => rfl) _)) rfl (trivial)⟩
        · have ho9 := cF hc ho9
          refine awp_skip ?_
          cases ho9
          exact cut_n [0] rfl rfl ⟨rfl, rfl, zA rfl rfl rfl (zA rfl rfl rfl (zA rfl rfl rfl (zA rfl rfl rfl (zA rfl rfl rfl (zA rfl rfl rfl (zA rfl rfl rfl (trivial))))))), trivial, zE rfl (.wr (lmM (fun _ => rfl) _)) rfl (trivial)⟩
      · rintro ⟨limit4, data5⟩ rfl
        change awp _ _ _ _ _ ⟨_, _, _, _⟩
        refine awp_seq ?_
        refine awp_region ?_
        refine rvs 3 rfl ?_
        obtain ⟨pivot1, hx11, ho3⟩ := bi ho3
        refine rh [0] rfl rfl (dslices_choosePivotOrdered_uint64_l hx11) rfl rfl rfl (trivial) (zE rfl (.wr (lmM (fun _ => rfl) _)) rfl (trivial)) ?_
        refine ek ?_
        refine as1 rfl ?_
        refine ae rfl rfl rfl ?_
        refine rkO (wO (fun _ => rfl) (rfl)) ?_
        refine rvs 5 rfl ?_
        refine rn ?_
        refine awp_seq ?_
        refine awp_seq ?_
        refine awp_region ?_
        refine rvs 2 rfl ?_
        refine rn ?_
        obtain ⟨o12, ho13, ho3⟩ := bi ho3
        refine awp_cut1 (fun x => x = o12) (fun (((pivot2, hint1, data6)) : Int × Int × (List Int)) => ⟨[(0, .own 0), (1, .int .i64 a3), (2, .int .i64 b3), (3, .int .i64 limit4), (8, .bool wasBalanced2), (9, .bool wasPartitioned2), (10, .int .i64 (W (b3 - a3))), (11, .int .i64 pivot2), (12, .int .i64 hint1)], [], [(0, .wr 1 (data6.map (cI .u64)))], 1⟩) ?_ ?_
        · refine cs_ rfl (fun hc => ?_) (fun hc => ?_)
          · have ho13 := cT hc ho13
            refine awp_seq ?_
            refine awp_region ?_
            refine rvs 3 rfl ?_
            obtain ⟨x4, hx14, ho13⟩ := bi ho13
            refine rh [0] rfl rfl (dslices_reverseRangeOrdered_uint64_l hx14) rfl rfl rfl (trivial) (zE rfl (.wr (lmM (fun _ => rfl) _)) rfl (trivial)) ?_
            refine ek ?_
            refine as1 rfl ?_
            refine ae rfl rfl rfl ?_
            refine rkO (wO (fun _ => rfl) (rfl)) ?_
            refine rn ?_
            refine awp_seq ?_
            refine awp_region ?_
            refine rvs 7 rfl ?_
            obtain ⟨pivot3, hx15, ho13⟩ := bs ho13
            refine rt (ei' hx15) ?_
            refine rn ?_
            refine awp_region ?_
            refine rv rfl rfl ?_
            refine rn ?_
            cases ho13
            exact cut_n [0] rfl rfl ⟨rfl, rfl, zA rfl rfl rfl (zA rfl rfl rfl (zA rfl rfl rfl (zA rfl rfl rfl (zA rfl rfl rfl (zA rfl rfl rfl (zA rfl rfl rfl (zA rfl rfl rfl (zA rfl rfl rfl (trivial))))))))), trivial, zE rfl (.wr (lmM (fun _ => rfl) _)) rfl (trivial)⟩
          · have ho13 := cF hc ho13
            refine awp_skip ?_
            cases ho13
            exact cut_n [0] rfl rfl ⟨rfl, rfl, zA rfl rfl rfl (zA rfl rfl rfl (zA rfl rfl rfl (zA rfl rfl rfl (zA rfl rfl rfl (zA rfl rfl rfl (zA rfl rfl rfl (zA rfl rfl rfl (zA rfl rfl rfl (trivial))))))))), trivial, zE rfl (.wr (lmM (fun _ => rfl) _)) rfl (trivial)⟩
        · rintro ⟨pivot2, hint1, data6⟩ rfl
          change awp _ _ _ _ _ ⟨_, _, _, _⟩
          refine awp_seq ?_
          refine awp_seq ?_
          obtain ⟨o16, ho17, ho3⟩ := bi ho3
          refine awp_cut1 (fun x => x = o16) (fun (x5 : Bool) => ⟨[(0, .own 0), (1, .int .i64 a3), (2, .int .i64 b3), (3, .int .i64 limit4), (8, .bool wasBalanced2), (9, .bool wasPartitioned2), (10, .int .i64 (W (b3 - a3))), (11, .int .i64 pivot2), (68, .bool x5)], [], [(0, .wr 1 (data6.map (cI .u64)))], 1⟩) ?_ ?_
          · refine awp_region ?_
            refine rvs 2 rfl ?_
            refine gs rfl rfl rfl rfl rfl (fun hg => ?_) (fun hg => ?_)
            · have ho17 := cT hg ho17
              refine rv rfl rfl ?_
              refine rvs 2 rfl ?_
              refine gs rfl rfl rfl rfl rfl (fun hg => ?_) (fun hg => ?_)
              · have ho17 := cT hg ho17
                refine rv rfl rfl ?_
                refine gy rfl rfl rfl ?_
                refine rv rfl rfl ?_
                refine rv rfl rfl ?_
                refine rn ?_
                cases ho17
                exact cut_n [0] rfl rfl ⟨rfl, rfl, zA rfl rfl rfl (zA rfl rfl rfl (zA rfl rfl rfl (zA rfl rfl rfl (zA rfl rfl rfl (zA rfl rfl rfl (zA rfl rfl rfl (zA rfl rfl rfl (zA rfl rfl rfl (trivial))))))))), trivial, zE rfl (.wr (lmM (fun _ => rfl) _)) rfl (trivial)⟩
              · have ho17 := cF hg ho17
                refine gn rfl rfl rfl rfl rfl ?_
                refine rv rfl rfl ?_
                refine rn ?_
                cases ho17
                exact cut_n [0] rfl rfl ⟨rfl, rfl, zA rfl rfl rfl (zA rfl rfl rfl (zA rfl rfl rfl (zA rfl rfl rfl (zA rfl rfl rfl (zA rfl rfl rfl (zA rfl rfl rfl (zA rfl rfl rfl (zA rfl rfl rfl (trivial))))))))), trivial, zE rfl (.wr (lmM (fun _ => rfl) _)) rfl (trivial)⟩
            · have ho17 := cF hg ho17
              refine rvs 2 rfl ?_
              refine gn rfl rfl rfl rfl rfl ?_
              refine gn rfl rfl rfl rfl rfl ?_
              refine rv rfl rfl ?_
              refine rn ?_
              cases ho17
              exact cut_n [0] rfl rfl ⟨rfl, rfl, zA rfl rfl rfl (zA rfl rfl rfl (zA rfl rfl rfl (zA rfl rfl rfl (zA rfl rfl rfl (zA rfl rfl rfl (zA rfl rfl rfl (zA rfl rfl rfl (zA rfl rfl rfl (trivial))))))))), trivial, zE rfl (.wr (lmM (fun _ => rfl) _)) rfl (trivial)⟩
          · rintro x5 rfl
            change awp _ _ _ _ _ ⟨_, _, _, _⟩
            obtain ⟨o18, ho19, ho3⟩ := bi ho3
            refine awp_cut1 (fun x => Sum.inl x = o18) (fun (data7 : List Int) => ⟨[(0, .own 0), (1, .int .i64 a3), (2, .int .i64 b3), (3, .int .i64 limit4), (8, .bool wasBalanced2), (9, .bool wasPartitioned2), (10, .int .i64 (W (b3 - a3))), (11, .int .i64 pivot2)], [], [(0, .wr 1 (data7.map (cI .u64)))], 1⟩) ?_ ?_
            · refine cs_ rfl (fun hc => ?_) (fun hc => ?_)
              · have ho19 := cT hc ho19
                refine awp_seq ?_
                refine awp_region ?_
                refine rvs 3 rfl ?_
                obtain ⟨x6, hx20, ho19⟩ := bi ho19
                refine rh [0] rfl rfl (dslices_partialInsertionSortOrdered_uint64_l hx20) rfl rfl rfl (trivial) (zE rfl (.wr (lmM (fun _ => rfl) _)) rfl (trivial)) ?_
                refine ek ?_
                refine as1 rfl ?_
                refine ae rfl rfl rfl ?_
                refine rkO (wO (fun _ => rfl) (rfl)) ?_
                refine rn ?_
                refine cs_ rfl (fun hc => ?_) (fun hc => ?_)
                · have ho19 := cT hc ho19
                  refine awp_ret ?_
                  cases ho19
                  have ho3 := ksr ho3
                  subst ho3
                  have hq := hE4 _ rfl
                  subst hq
                  repeat (first | refine then_ret ?_ | refine inBlock_ret ?_ | refine cut_r ?_)
                  exact rrA (r := .tup []) [0] [] [(0, .wr 1 (x6.2.map (cI .u64)))] rfl rfl rfl rfl (trivial) (zE rfl (.wr (lmM (fun _ => rfl) _)) rfl (trivial)) ⟨rfl, rfl, rfl, rfl⟩
                · have ho19 := cF hc ho19
                  refine awp_skip ?_
                  cases ho19
                  exact cut_n [0] rfl rfl ⟨rfl, rfl, zA rfl rfl rfl (zA rfl rfl rfl (zA rfl rfl rfl (zA rfl rfl rfl (zA rfl rfl rfl (zA rfl rfl rfl (zA rfl rfl rfl (zA rfl rfl rfl (trivial)))))))), trivial, zE rfl (.wr (lmM (fun _ => rfl) _)) rfl (trivial)⟩
              · have ho19 := cF hc ho19
                refine awp_skip ?_
                cases ho19
                exact cut_n [0] rfl rfl ⟨rfl, rfl, zA rfl rfl rfl (zA rfl rfl rfl (zA rfl rfl rfl (zA rfl rfl rfl (zA rfl rfl rfl (zA rfl rfl rfl (zA rfl rfl rfl (zA rfl rfl rfl (trivial)))))))), trivial, zE rfl (.wr (lmM (fun _ => rfl) _)) rfl (trivial)⟩
            · rintro data7 rfl
              have ho3 := ksl ho3
              change awp _ _ _ _ _ ⟨_, _, _, _⟩
              refine awp_seq ?_
              refine awp_seq ?_
              obtain ⟨o21, ho22, ho3⟩ := bi ho3
              refine awp_cut1 (fun x => x = o21) (fun (x7 : Bool) => ⟨[(0, .own 0), (1, .int .i64 a3), (2, .int .i64 b3), (3, .int .i64 limit4), (8, .bool wasBalanced2), (9, .bool wasPartitioned2), (10, .int .i64 (W (b3 - a3))), (11, .int .i64 pivot2), (87, .bool x7)], [], [(0, .wr 1 (data7.map (cI .u64)))], 1⟩) ?_ ?_
              · refine awp_dp (m := 15) Try.mix (by kernel_rfl) (by kernel_rfl) (by kernel_rfl) (by kernel_rfl) (by kernel_rfl) (by kernel_rfl) (by kernel_rfl) ?_
                refine dv rfl rfl (fun _ => rfl) ?_
                refine dv rfl rfl (fun _ => rfl) ?_
                refine dv rfl rfl (fun _ => rfl) ?_
                refine ds rfl rfl (fun hg => ?_) (fun hg => ?_)
                · have ho22 := cT hg ho22
                  refine dv rfl rfl (fun _ => rfl) ?_
                  refine dv rfl rfl (fun _ => rfl) ?_
                  refine dv rfl rfl (fun _ => rfl) ?_
                  obtain ⟨x8, hx23, ho22⟩ := bi ho22
                  refine dV rfl rfl (fun _ => va_place rfl rfl rfl rfl rfl rfl rfl (gi0 hx23) (giLM (cI .u64) hx23)) ?_
                  refine dV rfl rfl (fun _ => va_loadE rfl rfl rfl (giM (cI .u64) hx23) rfl rfl) ?_
                  refine dv rfl rfl (fun _ => rfl) ?_
                  refine dv rfl rfl (fun _ => rfl) ?_
                  obtain ⟨x9, hx24, ho22⟩ := bi ho22
                  refine dV rfl rfl (fun _ => va_place rfl rfl rfl rfl rfl rfl rfl (gi0 hx24) (giLM (cI .u64) hx24)) ?_
                  refine dV rfl rfl (fun _ => va_loadE rfl rfl rfl (giM (cI .u64) hx24) rfl rfl) ?_
                  obtain ⟨x10, hx25, ho22⟩ := bi ho22
                  refine dc rfl rfl rfl rfl (fun _ => rfl) (fun _ => (dcmp_Less_uint64_l hx25)) ?_
                  refine dv rfl rfl (fun _ => rfl) ?_
                  refine dv rfl rfl (fun _ => rfl) ?_
                  refine dn ?_
                  refine rn ?_
                  cases ho22
                  exact cut_n [0] rfl rfl ⟨rfl, rfl, zA rfl rfl rfl (zA rfl rfl rfl (zA rfl rfl rfl (zA rfl rfl rfl (zA rfl rfl rfl (zA rfl rfl rfl (zA rfl rfl rfl (zA rfl rfl rfl (zA rfl rfl rfl (trivial))))))))), trivial, zE rfl (.wr (lmM (fun _ => rfl) _)) rfl (trivial)⟩
                · have ho22 := cF hg ho22
                  refine dno rfl rfl ?_
                  refine dno rfl rfl ?_
                  refine dno rfl rfl ?_
                  refine dno rfl rfl ?_
                  refine dno rfl rfl ?_
                  refine dno rfl rfl ?_
                  refine dno rfl rfl ?_
                  refine dno rfl rfl ?_
                  refine dno rfl rfl ?_
                  refine dno rfl rfl ?_
                  refine dno rfl rfl ?_
                  refine dv rfl rfl (fun _ => rfl) ?_
                  refine dn ?_
                  refine rn ?_
                  cases ho22
                  exact cut_n [0] rfl rfl ⟨rfl, rfl, zA rfl rfl rfl (zA rfl rfl rfl (zA rfl rfl rfl (zA rfl rfl rfl (zA rfl rfl rfl (zA rfl rfl rfl (zA rfl rfl rfl (zA rfl rfl rfl (zA rfl rfl rfl (trivial))))))))), trivial, zE rfl (.wr (lmM (fun _ => rfl) _)) rfl (trivial)⟩
              · rintro x7 rfl
                change awp _ _ _ _ _ ⟨_, _, _, _⟩
                refine cs_ rfl (fun hc => ?_) (fun hc => ?_)
                · have ho3 := cT hc ho3
                  refine awp_seq ?_
                  refine awp_region ?_
                  refine rvs 4 rfl ?_
                  obtain ⟨mid1, hx26, ho3⟩ := bi ho3
                  refine rh [0] rfl rfl (dslices_partitionEqualOrdered_uint64_l hx26) rfl rfl rfl (trivial) (zE rfl (.wr (lmM (fun _ => rfl) _)) rfl (trivial)) ?_
                  refine ek ?_
                  refine as1 rfl ?_
                  refine ae rfl rfl rfl ?_
                  refine rkO (wO (fun _ => rfl) (rfl)) ?_
                  refine rv rfl rfl ?_
                  refine rn ?_
                  refine awp_seq ?_
                  refine awp_region ?_
                  refine rvs 2 rfl ?_
                  refine rn ?_
                  refine awp_exit ?_
                  repeat (first | refine then_exit ?_ | refine cut_x ?_ | refine inBlock_other rfl ?_)
                  refine inBlock_exit ?_
                  cases ho3
                  exact lp_n [0] rfl rfl ⟨rfl, rfl, zA rfl rfl rfl (zA rfl rfl rfl (zA rfl rfl rfl (zA rfl rfl rfl (zA rfl rfl rfl (zA rfl rfl rfl (trivial)))))), trivial, zE rfl (.wr (lmM (fun _ => rfl) _)) rfl (trivial)⟩
                · have ho3 := cF hc ho3
                  refine awp_skip ?_
                  refine awp_seq ?_
                  refine awp_region ?_
                  refine rvs 4 rfl ?_
                  obtain ⟨mid2, hx27, ho3⟩ := bi ho3
                  refine rh [0] rfl rfl (dslices_partitionOrdered_uint64_l hx27) rfl rfl rfl (trivial) (zE rfl (.wr (lmM (fun _ => rfl) _)) rfl (trivial)) ?_
                  refine ek ?_
                  refine as1 rfl ?_
                  refine ae rfl rfl rfl ?_
                  refine rkO (wO (fun _ => rfl) (rfl)) ?_
                  refine rvs 5 rfl ?_
                  refine rn ?_
                  refine awp_seq ?_
                  refine awp_region ?_
                  refine rvs 2 rfl ?_
                  refine rn ?_
                  refine awp_seq ?_
                  refine awp_region ?_
                  refine rvs 8 rfl ?_
                  refine rn ?_
                  refine awp_seq ?_
                  refine awp_region ?_
                  refine rv rfl rfl ?_
                  obtain ⟨q1, hx28, ho3⟩ := bi ho3
                  refine rV rfl (va_quo rfl rfl hx28) ?_
                  refine rv rfl rfl ?_
                  refine rn ?_
                  refine awp_seq ?_
                  refine awp_region ?_
                  refine rvs 3 rfl ?_
                  refine rn ?_
                  refine cs_ rfl (fun hc => ?_) (fun hc => ?_)
                  · have ho3 := cT hc ho3
                    refine awp_seq ?_
                    refine awp_region ?_
                    refine rvs 4 rfl ?_
                    obtain ⟨wasBalanced4, hx29, ho3⟩ := bs ho3
                    refine rt (eb' hx29) ?_
                    refine rn ?_
                    refine awp_seq ?_
                    refine awp_region ?_
                    refine rvs 4 rfl ?_
                    obtain ⟨x11, hx30, ho3⟩ := bi ho3
                    refine rh [0] rfl rfl (ih_dslices_pdqsortOrdered_uint64 hx30) rfl rfl rfl (trivial) (zE rfl (.wr (lmM (fun _ => rfl) _)) rfl (trivial)) ?_
                    refine ek ?_
                    refine as1 rfl ?_
                    refine ae rfl rfl rfl ?_
                    refine rkO (wO (fun _ => rfl) (rfl)) ?_
                    refine rn ?_
                    refine awp_region ?_
                    refine rvs 3 rfl ?_
                    refine rn ?_
                    refine inBlock_normal ?_
                    cases ho3
                    exact lp_n [0] rfl rfl ⟨rfl, rfl, zA rfl rfl rfl (zA rfl rfl rfl (zA rfl rfl rfl (zA rfl rfl rfl (zA rfl rfl rfl (zA rfl rfl rfl (trivial)))))), trivial, zE rfl (.wr (lmM (fun _ => rfl) _)) rfl (trivial)⟩
                  · have ho3 := cF hc ho3
                    refine awp_seq ?_
                    refine awp_region ?_
                    refine rvs 4 rfl ?_
                    obtain ⟨wasBalanced5, hx31, ho3⟩ := bs ho3
                    refine rt (eb' hx31) ?_
                    refine rn ?_
                    refine awp_seq ?_
                    refine awp_region ?_
                    refine rvs 5 rfl ?_
                    obtain ⟨x12, hx32, ho3⟩ := bi ho3
                    refine rh [0] rfl rfl (ih_dslices_pdqsortOrdered_uint64 hx32) rfl rfl rfl (trivial) (zE rfl (.wr (lmM (fun _ => rfl) _)) rfl (trivial)) ?_
                    refine ek ?_
                    refine as1 rfl ?_
                    refine ae rfl rfl rfl ?_
                    refine rkO (wO (fun _ => rfl) (rfl)) ?_
                    refine rn ?_
                    refine awp_region ?_
                    refine rvs 2 rfl ?_
                    refine rn ?_
                    refine inBlock_normal ?_
                    cases ho3
                    exact lp_n [0] rfl rfl ⟨rfl, rfl, zA rfl rfl rfl (zA rfl rfl rfl (zA rfl rfl rfl (zA rfl rfl rfl (zA rfl rfl rfl (zA rfl rfl rfl (trivial)))))), trivial, zE rfl (.wr (lmM (fun _ => rfl) _)) rfl (trivial)⟩
end

theorem dslices_pdqsortOrdered_uint64_l : ∀ {fu : Nat}, ∀ {data1 a1 b1 limit1} {r : List Int}, dslices_pdqsortOrdered_uint64 fu data1 a1 b1 limit1 = some r → ACall Try.prog 106 1 [.own 0, .int .i64 a1, .int .i64 b1, .int .i64 limit1] [] [(0, .wr 1 (data1.map (cI .u64)))] (fun r_ H_ O_ n_ => r_ = .tup [] ∧ H_ = [] ∧ O_ = [(0, .wr 1 (r.map (cI .u64)))] ∧ n_ = 1)
  | 0 => fun h => by simp [dslices_pdqsortOrdered_uint64] at h
  | fu + 1 => dslices_pdqsortOrdered_uint64_s (fu := fu) (dslices_pdqsortOrdered_uint64_l (fu := fu))
/-- `slices.Sort[[]uint64,uint64]` -/
def dslices_Sort_uint64 (fu : Nat) (x1 : List Int) : Option (List Int) :=
  (some ((x1.length : Int))).bind fun n1 => (dbits_Len fu (IntKind.wrap .u64 n1)).bind fun x2 => (dslices_pdqsortOrdered_uint64 fu x1 0 n1 x2).bind fun x3 => some x3
section
attribute [local irreducible] awp aops DP PCall ACall Decidable.decide
theorem dslices_Sort_uint64_l {fu : Nat} {x1 : List Int} {r : List Int} (h : dslices_Sort_uint64 fu x1 = some r) : ACall Try.prog 85 1 [.own 0] [] [(0, .wr 1 (x1.map (cI .u64)))] (fun r_ H_ O_ n_ => r_ = .tup [] ∧ H_ = [] ∧ O_ = [(0, .wr 1 (r.map (cI .u64)))] ∧ n_ = 1) := by
  rw [dslices_Sort_uint64] at h
  refine acall_body Try.func85 rfl (by kernel_rfl) (by rfl) ?_
  refine awp_seq ?_
  refine awp_region ?_
  refine rv rfl rfl ?_
  refine rV rfl (va_len rfl rfl rfl rfl) ?_
  refine rt ((lM (cI .u64) x1)) ?_
  refine rv rfl rfl ?_
  obtain ⟨n1, hx1, h⟩ := bs h
  refine rt (ei' hx1) ?_
  refine rn ?_
  refine awp_region ?_
  refine rvs 4 rfl ?_
  obtain ⟨x2, hx2, h⟩ := bi h
  refine rc1 rfl rfl rfl (dbits_Len_l hx2) ?_
  obtain ⟨x3, hx3, h⟩ := bi h
  refine rh [0] rfl rfl (dslices_pdqsortOrdered_uint64_l hx3) rfl rfl rfl (trivial) (zE rfl (.wr (lmM (fun _ => rfl) _)) rfl (trivial)) ?_
  refine ek ?_
  refine as1 rfl ?_
  refine ae rfl rfl rfl ?_
  refine rkO (wO (fun _ => rfl) (rfl)) ?_
  refine rn ?_
  have h := Option.some.inj h
  subst h
  exact rrA' (r := .tup []) [0] [] [(0, .wr 1 (x3.map (cI .u64)))] rfl rfl rfl rfl (trivial) (zE rfl (.wr (lmM (fun _ => rfl) _)) rfl (trivial)) ⟨rfl, rfl, rfl, rfl⟩
end

end Go.Proofs.Ytngeejjllgnpcaa
