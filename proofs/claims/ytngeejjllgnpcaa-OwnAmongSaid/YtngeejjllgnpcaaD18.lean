/- Plain functions, and walks, printed by a program of this session's. -/
import Derived.Test.YtngeejjllgnpcaaD05
namespace Go.Proofs.Ytngeejjllgnpcaa
open Go.Pv
set_option maxRecDepth 100000
set_option maxHeartbeats 4000000
set_option linter.unusedSimpArgs false
set_option linter.unusedVariables false
set_option linter.unusedSectionVars false

/-- `slices.Compact[[]int,int]` -/
def dslices_Compact_int (fu : Nat) (s1 : List Int) : Option (List Int) :=
  bif (decide ((s1.length : Int) < 2)) then some s1 else ((loopD (ε := Int) (τ := Unit ⊕ (List Int)) (fun (k1 : Int) => (bif (decide (k1 < (s1.length : Int))) then ((gi s1 k1).bind fun x1 => (gi s1 (W (k1 - 1))).bind fun x2 => bif (x1 == x2) then ((vw (s1.length : Int) k1 (s1.length : Int)).bind fun _ => (loopD (ε := Int × Int × (List Int)) (τ := Int × (List Int)) (fun (((k3, k21, s2)) : Int × Int × (List Int)) => (bif (decide (k21 < ((s1.length : Int) - k1))) then (((gvi ((s1.length : Int) - k1) k21).bind fun _ => (gi s2 (k1 + k21)).bind fun x3 => (gvi ((s1.length : Int) - k1) (W (k21 - 1))).bind fun _ => (gi s2 (k1 + (W (k21 - 1)))).bind fun x4 => bif (x3 != x4) then ((gvi ((s1.length : Int) - k1) k21).bind fun _ => (gi s2 (k1 + k21)).bind fun x5 => (gi s2 k3).bind fun x6 => (sti s2 k3 x5).bind fun s6 => some (W (k3 + 1), s6)) else some (k3, s2) : Option (Int × (List Int))).bind fun (((k6, s5)) : Int × (List Int)) => some (Sum.inl (k6, W (k21 + 1), s5))) else some (Sum.inr (k3, s2)))) fu (k1, 1, s1)).bind fun (((k5, s4)) : Int × (List Int)) => ((vw (s4.length : Int) k5 (s4.length : Int)).bind fun _ => (clr s4 k5 (s4.length : Int) 0).bind fun s7 => (vw (s7.length : Int) 0 k5).bind fun _ => (gsl s7 0 k5).bind fun y1 => some (Sum.inr (Sum.inr y1)))) else some (Sum.inl (W (k1 + 1)))) else some (Sum.inr (Sum.inl ())))) fu 1).bind fun o => kS o fun (_ : Unit) => some s1)
section
attribute [local irreducible] awp aops DP PCall ACall Decidable.decide
theorem dslices_Compact_int_l {fu : Nat} {s1 : List Int} {r : List Int} (h : dslices_Compact_int fu s1 = some r) : ACall Try.prog 96 1 [.own 0] [] [(0, .wr 1 (s1.map (cI .i64)))] (fun r_ H_ O_ n_ => r_ = .own 1 ∧ H_ = [] ∧ O_ = [(1, .wr 1 (r.map (cI .i64)))] ∧ n_ = 2) := by
  rw [dslices_Compact_int] at h
  refine acall_body Try.func96 rfl (by kernel_rfl) (by rfl) ?_
  refine awp_seq ?_
  refine awp_region ?_
  refine rv rfl rfl ?_
  refine rn ?_
  refine awp_seq ?_
  refine awp_seq ?_
  refine awp_region ?_
  refine rv rfl rfl ?_
  refine rV rfl (va_len rfl rfl rfl rfl) ?_
  refine rt ((lM (cI .i64) s1)) ?_
  refine rv rfl rfl ?_
  refine rn ?_
  refine cs_ rfl (fun hc => ?_) (fun hc => ?_)
  · have h := cT hc h
    refine awp_seq ?_
    refine awp_region ?_
    refine rvs 2 rfl ?_
    refine rn ?_
    refine awp_conv (fun _ _ _ _ _ hi => row_slot (wr := true) 2 0 rfl rfl hi) ?_
    refine awp_ret ?_
    have h := Option.some.inj h
    subst h
    repeat (first | refine then_ret ?_ | refine inBlock_ret ?_ | refine cut_r ?_)
    exact rrO (r := .own 1) [0, 1] [] [(1, .wr 1 (s1.map (cI .i64)))] rfl rfl rfl rfl (trivial) (zE rfl (.wr (lmM (fun _ => rfl) _)) rfl (trivial)) ⟨rfl, rfl, rfl, rfl⟩
  · have h := cF hc h
    refine awp_skip ?_
    refine awp_seq ?_
    refine awp_seq ?_
    refine awp_region ?_
    refine rv rfl rfl ?_
    refine rn ?_
    obtain ⟨e1, hl2, h⟩ := bi h
    refine awp_cut1 (fun x => Sum.inl x = e1) (fun (_ : Unit) => ⟨[(0, .own 0)], [], [(0, .wr 1 (s1.map (cI .i64)))], 1⟩) ?_ ?_
    · refine awp_block ?_
      refine awp_loopD hl2 (fun (k1 : Int) => ⟨[(0, .own 0), (3, .int .i64 k1)], [], [(0, .wr 1 (s1.map (cI .i64)))], 1⟩) [0] rfl ⟨rfl, rfl, zA rfl rfl rfl (zA rfl rfl rfl (trivial)), trivial, zE rfl (.wr (lmM (fun _ => rfl) _)) rfl (trivial)⟩ ?_
      intro k1 o5 ho3 hE4
      change awp _ _ _ _ _ ⟨_, _, _, _⟩
      refine awp_seq ?_
      refine awp_seq ?_
      refine awp_region ?_
      refine rvs 2 rfl ?_
      refine rV rfl (va_len rfl rfl rfl rfl) ?_
      refine rt ((lM (cI .i64) s1)) ?_
      refine rv rfl rfl ?_
      refine rn ?_
      refine cs_ rfl (fun hc => ?_) (fun hc => ?_)
      · have ho3 := cT hc ho3
        refine awp_skip ?_
        refine awp_seq ?_
        refine awp_block ?_
        refine awp_seq ?_
        refine awp_dp (m := 10) Try.mix (by kernel_rfl) (by kernel_rfl) (by kernel_rfl) (by kernel_rfl) (by kernel_rfl) (by kernel_rfl) (by kernel_rfl) ?_
        refine dv rfl rfl (fun _ => rfl) ?_
        refine dv rfl rfl (fun _ => rfl) ?_
        obtain ⟨x1, hx6, ho3⟩ := bi ho3
        refine dV rfl rfl (fun _ => va_place rfl rfl rfl rfl rfl rfl rfl (gi0 hx6) (giLM (cI .i64) hx6)) ?_
        refine dV rfl rfl (fun _ => va_loadE rfl rfl rfl (giM (cI .i64) hx6) rfl rfl) ?_
        refine dv rfl rfl (fun _ => rfl) ?_
        refine dv rfl rfl (fun _ => rfl) ?_
        refine dv rfl rfl (fun _ => rfl) ?_
        obtain ⟨x2, hx7, ho3⟩ := bi ho3
        refine dV rfl rfl (fun _ => va_place rfl rfl rfl rfl rfl rfl rfl (gi0 hx7) (giLM (cI .i64) hx7)) ?_
        refine dV rfl rfl (fun _ => va_loadE rfl rfl rfl (giM (cI .i64) hx7) rfl rfl) ?_
        refine dv rfl rfl (fun _ => rfl) ?_
        refine dn ?_
        refine rn ?_
        refine cs_ rfl (fun hc => ?_) (fun hc => ?_)
        · have ho3 := cT hc ho3
          refine awp_seq ?_
          refine awp_region ?_
          refine rvs 2 rfl ?_
          obtain ⟨_, hx8, ho3⟩ := bi ho3
          refine rV rfl (va_slW rfl rfl rfl rfl rfl rfl ⟨_, rfl⟩ rfl hx8) ?_
          refine rv rfl rfl ?_
          refine rn ?_
          refine awp_seq ?_
          refine awp_seq ?_
          refine awp_region ?_
          refine rv rfl rfl ?_
          refine rn ?_
          obtain ⟨e9, hl10, ho3⟩ := bi ho3
          refine awp_cut1 (fun x => x = e9) (fun (((k5, s4)) : Int × (List Int)) => ⟨[(0, .own 0), (3, .int .i64 k5)], [], [(0, .wr 1 (s4.map (cI .i64)))], 1⟩) ?_ ?_
          · refine awp_block ?_
            refine awp_loopD hl10 (fun (((k3, k21, s2)) : Int × Int × (List Int)) => ⟨[(0, .own 0), (3, .int .i64 k3), (4, .via 0 (.view k1.toNat ((s1.length : Int) - k1).toNat)), (5, .int .i64 k21)], [], [(0, .wr 1 (s2.map (cI .i64)))], 1⟩) [0] rfl ⟨rfl, rfl, zA rfl rfl rfl (zA rfl rfl rfl (zA rfl rfl rfl (zA rfl rfl rfl (trivial)))), trivial, zE rfl (.wr (lmM (fun _ => rfl) _)) rfl (trivial)⟩ ?_
            intro v o13 ho11 hE12
            obtain ⟨k3, k21, s2⟩ := v
            change awp _ _ _ _ _ ⟨_, _, _, _⟩
            refine awp_seq ?_
            refine awp_seq ?_
            refine awp_region ?_
            refine rvs 2 rfl ?_
            refine rV rfl (va_lenV rfl rfl rfl (by have := vwb hx8; omega)) ?_
            refine rv rfl rfl ?_
            refine rn ?_
            refine cs_ rfl (fun hc => ?_) (fun hc => ?_)
            · have ho11 := cT hc ho11
              refine awp_skip ?_
              refine awp_seq ?_
              obtain ⟨o14, ho15, ho11⟩ := bi ho11
              refine awp_cut1 (fun x => x = o14) (fun (((k6, s5)) : Int × (List Int)) => ⟨[(0, .own 0), (3, .int .i64 k6), (4, .via 0 (.view k1.toNat ((s1.length : Int) - k1).toNat)), (5, .int .i64 k21)], [], [(0, .wr 1 (s5.map (cI .i64)))], 1⟩) ?_ ?_
              · refine awp_block ?_
                refine awp_seq ?_
                refine awp_dp (m := 10) Try.mix (by kernel_rfl) (by kernel_rfl) (by kernel_rfl) (by kernel_rfl) (by kernel_rfl) (by kernel_rfl) (by kernel_rfl) ?_
                refine dv rfl rfl (fun _ => rfl) ?_
                refine dv rfl rfl (fun _ => rfl) ?_
                obtain ⟨_, hx17, ho15⟩ := bi ho15
                obtain ⟨x3, hx16, ho15⟩ := bi ho15
                refine dV rfl rfl (fun _ => va_placeV rfl rfl rfl rfl rfl rfl rfl (vwb hx8).1 hx17) ?_
                refine dV rfl rfl (fun _ => va_loadE rfl rfl rfl (giM (cI .i64) hx16) rfl rfl) ?_
                refine dv rfl rfl (fun _ => rfl) ?_
                refine dv rfl rfl (fun _ => rfl) ?_
                refine dv rfl rfl (fun _ => rfl) ?_
                obtain ⟨_, hx19, ho15⟩ := bi ho15
                obtain ⟨x4, hx18, ho15⟩ := bi ho15
                refine dV rfl rfl (fun _ => va_placeV rfl rfl rfl rfl rfl rfl rfl (vwb hx8).1 hx19) ?_
                refine dV rfl rfl (fun _ => va_loadE rfl rfl rfl (giM (cI .i64) hx18) rfl rfl) ?_
                refine dv rfl rfl (fun _ => rfl) ?_
                refine dn ?_
                refine rn ?_
                refine cs_ rfl (fun hc => ?_) (fun hc => ?_)
                · have ho15 := cT hc ho15
                  refine awp_seq ?_
                  refine awp_region ?_
                  refine rvs 4 rfl ?_
                  obtain ⟨_, hx21, ho15⟩ := bi ho15
                  obtain ⟨x5, hx20, ho15⟩ := bi ho15
                  refine rV rfl (va_placeV rfl rfl rfl rfl rfl rfl rfl (vwb hx8).1 hx21) ?_
                  refine rV rfl (va_loadE rfl rfl rfl (giM (cI .i64) hx20) rfl rfl) ?_
                  obtain ⟨x6, hx22, ho15⟩ := bi ho15
                  refine rV rfl (va_place rfl rfl rfl rfl rfl rfl rfl (gi0 hx22) (giLM (cI .i64) hx22)) ?_
                  obtain ⟨s6, hx23, ho15⟩ := bi ho15
                  obtain ⟨o1, ho24⟩ := stG hx23
                  refine rse rfl rfl rfl (giM (cI .i64) ho24) rfl rfl rfl rfl rfl ?_
                  refine rk (congrArg (Kind.wr _) (stM (cI .i64) hx23)) ?_
                  refine rn ?_
                  refine awp_region ?_
                  refine rvs 3 rfl ?_
                  refine rn ?_
                  refine inBlock_normal ?_
                  cases ho15
                  exact cut_n [0] rfl rfl ⟨rfl, rfl, zA rfl rfl rfl (zA rfl rfl rfl (zA rfl rfl rfl (zA rfl rfl rfl (trivial)))), trivial, zE rfl (.wr (lmM (fun _ => rfl) _)) rfl (trivial)⟩
                · have ho15 := cF hc ho15
                  refine awp_skip ?_
                  refine inBlock_normal ?_
                  cases ho15
                  exact cut_n [0] rfl rfl ⟨rfl, rfl, zA rfl rfl rfl (zA rfl rfl rfl (zA rfl rfl rfl (zA rfl rfl rfl (trivial)))), trivial, zE rfl (.wr (lmM (fun _ => rfl) _)) rfl (trivial)⟩
              · rintro ⟨k6, s5⟩ rfl
                change awp _ _ _ _ _ ⟨_, _, _, _⟩
                refine awp_region ?_
                refine rvs 3 rfl ?_
                refine rn ?_
                cases ho11
                exact lp_n [0] rfl rfl ⟨rfl, rfl, zA rfl rfl rfl (zA rfl rfl rfl (zA rfl rfl rfl (zA rfl rfl rfl (trivial)))), trivial, zE rfl (.wr (lmM (fun _ => rfl) _)) rfl (trivial)⟩
            · have ho11 := cF hc ho11
              refine awp_exit ?_
              repeat (first | refine then_exit ?_ | refine cut_x ?_ | refine inBlock_other rfl ?_)
              refine inBlock_exit ?_
              cases ho11
              have hq := hE12 _ rfl
              subst hq
              exact cut_n [0] rfl rfl ⟨rfl, rfl, zA rfl rfl rfl (zA rfl rfl rfl (trivial)), trivial, zE rfl (.wr (lmM (fun _ => rfl) _)) rfl (trivial)⟩
          · rintro ⟨k5, s4⟩ rfl
            change awp _ _ _ _ _ ⟨_, _, _, _⟩
            refine awp_seq ?_
            refine awp_region ?_
            refine rvs 2 rfl ?_
            obtain ⟨_, hx25, ho3⟩ := bi ho3
            refine rV rfl (va_slW rfl rfl rfl rfl rfl rfl ⟨_, rfl⟩ rfl hx25) ?_
            obtain ⟨s7, hx26, ho3⟩ := bi ho3
            refine rclr (c := (cI .i64)) (zr := 0) rfl rfl rfl rfl rfl rfl rfl rfl rfl hx26 rfl ?_
            refine rn ?_
            refine awp_seq ?_
            refine awp_region ?_
            refine rvs 2 rfl ?_
            obtain ⟨_, hx27, ho3⟩ := bi ho3
            refine rV rfl (va_slW rfl rfl rfl rfl rfl rfl rfl ⟨_, rfl⟩ hx27) ?_
            refine rv rfl rfl ?_
            refine rn ?_
            obtain ⟨y1, hx28, ho3⟩ := bi ho3
            refine awp_conv (fun _ _ _ _ _ hi => view_own 2 0 (c := (cI .i64)) rfl rfl hx28 hi) ?_
            refine awp_ret ?_
            cases ho3
            have hq := hE4 _ rfl
            subst hq
            have h := ksr h
            subst h
            repeat (first | refine then_ret ?_ | refine inBlock_ret ?_ | refine cut_r ?_)
            exact rrO (r := .own 1) [0, 1] [] [(1, .wr 1 (y1.map (cI .i64)))] rfl rfl rfl rfl (trivial) (zE rfl (.wr (lmM (fun _ => rfl) _)) rfl (trivial)) ⟨rfl, rfl, rfl, rfl⟩
        · have ho3 := cF hc ho3
          refine awp_skip ?_
          refine inBlock_normal ?_
          refine awp_region ?_
          refine rvs 3 rfl ?_
          refine rn ?_
          cases ho3
          exact lp_n [0] rfl rfl ⟨rfl, rfl, zA rfl rfl rfl (zA rfl rfl rfl (trivial)), trivial, zE rfl (.wr (lmM (fun _ => rfl) _)) rfl (trivial)⟩
      · have ho3 := cF hc ho3
        refine awp_exit ?_
        repeat (first | refine then_exit ?_ | refine cut_x ?_ | refine inBlock_other rfl ?_)
        refine inBlock_exit ?_
        cases ho3
        have hq := hE4 _ rfl
        subst hq
        exact cut_n [0] rfl rfl ⟨rfl, rfl, zA rfl rfl rfl (trivial), trivial, zE rfl (.wr (lmM (fun _ => rfl) _)) rfl (trivial)⟩
    · rintro _ rfl
      have h := ksl h
      refine awp_seq ?_
      refine awp_region ?_
      refine rvs 2 rfl ?_
      refine rn ?_
      refine awp_conv (fun _ _ _ _ _ hi => row_slot (wr := true) 2 0 rfl rfl hi) ?_
      refine awp_ret ?_
      have h := Option.some.inj h
      subst h
      repeat (first | refine then_ret ?_ | refine inBlock_ret ?_ | refine cut_r ?_)
      exact rrO (r := .own 1) [0, 1] [] [(1, .wr 1 (s1.map (cI .i64)))] rfl rfl rfl rfl (trivial) (zE rfl (.wr (lmM (fun _ => rfl) _)) rfl (trivial)) ⟨rfl, rfl, rfl, rfl⟩
end

/-- `plover/own.of` -/
def down_of (fu : Nat) (s1 : Int) (brokers1 : Int) (code1 : Int) : Option (Int × Er) :=
  (dmorton_Side fu s1).bind fun side1 => (dmorton_Code fu (W (side1 - 1)) (W (side1 - 1))).bind fun last1 => (bif last1.2.isSome then some true else (bif (decide (brokers1 < 1)) then some true else some (decide (brokers1 > 64))) : Option Bool).bind fun (x1 : Bool) => (bif x1 then some (0, (some 1)) else ((quoV .u64 (IntKind.wrap .u64 (code1 * (IntKind.wrap .u64 brokers1))) (IntKind.wrap .u64 (last1.1 + 1))).bind fun q1 => some (W q1, none)))
section
attribute [local irreducible] awp aops DP PCall ACall Decidable.decide
theorem down_of_l {fu : Nat} {s1 : Int} {brokers1 : Int} {code1 : Int} {r : Int × Er} (h : down_of fu s1 brokers1 code1 = some r) : PCall Try.prog 95 [.int .i64 s1, .int .i64 brokers1, .int .u64 code1] (· = .tup [.int .i64 r.1, .err 35 r.2]) := by
  rw [down_of] at h
  refine pcall_body Try.func95 rfl (by kernel_rfl) (by rfl) ?_
  refine awp_seq ?_
  refine awp_region ?_
  refine rvs 2 rfl ?_
  refine rn ?_
  refine awp_seq ?_
  refine awp_region ?_
  refine rv rfl rfl ?_
  obtain ⟨side1, hx1, h⟩ := bi h
  refine rc1 rfl rfl rfl (dmorton_Side_l hx1) ?_
  refine rv rfl rfl ?_
  refine rn ?_
  refine awp_seq ?_
  refine awp_region ?_
  refine rvs 4 rfl ?_
  obtain ⟨last1, hx2, h⟩ := bi h
  refine rc1 rfl rfl rfl (dmorton_Code_l hx2) ?_
  refine rvs 5 rfl ?_
  refine rn ?_
  refine awp_seq ?_
  refine awp_seq ?_
  obtain ⟨o3, ho4, h⟩ := bi h
  refine awp_cut1 (fun x => x = o3) (fun (x1 : Bool) => ⟨[(1, .int .i64 brokers1), (2, .int .u64 code1), (9, .int .u64 last1.1), (30, .bool x1)], [], [], 0⟩) ?_ ?_
  · refine awp_region ?_
    refine rv rfl rfl ?_
    refine rV rfl (va_ennil rfl rfl rfl) ?_
    refine rv rfl rfl ?_
    refine gs rfl rfl rfl rfl rfl (fun hg => ?_) (fun hg => ?_)
    · have ho4 := cF hg ho4
      refine rv rfl rfl ?_
      refine gy rfl rfl rfl ?_
      refine rv rfl rfl ?_
      refine rvs 2 rfl ?_
      refine gs rfl rfl rfl rfl rfl (fun hg => ?_) (fun hg => ?_)
      · have ho4 := cF hg ho4
        refine rv rfl rfl ?_
        refine gy rfl rfl rfl ?_
        refine rv rfl rfl ?_
        refine rv rfl rfl ?_
        refine rn ?_
        cases ho4
        exact cut_n [] rfl rfl ⟨rfl, rfl, zA rfl rfl rfl (zA rfl rfl rfl (zA rfl rfl rfl (zA rfl rfl rfl (trivial)))), trivial, trivial⟩
      · have ho4 := cT hg ho4
        refine gn rfl rfl rfl rfl rfl ?_
        refine rv rfl rfl ?_
        refine rn ?_
        cases ho4
        exact cut_n [] rfl rfl ⟨rfl, rfl, zA rfl rfl rfl (zA rfl rfl rfl (zA rfl rfl rfl (zA rfl rfl rfl (trivial)))), trivial, trivial⟩
    · have ho4 := cT hg ho4
      refine gn rfl rfl rfl rfl rfl ?_
      refine rvs 2 rfl ?_
      refine gn rfl rfl rfl rfl rfl ?_
      refine gn rfl rfl rfl rfl rfl ?_
      refine rv rfl rfl ?_
      refine rn ?_
      cases ho4
      exact cut_n [] rfl rfl ⟨rfl, rfl, zA rfl rfl rfl (zA rfl rfl rfl (zA rfl rfl rfl (zA rfl rfl rfl (trivial)))), trivial, trivial⟩
  · rintro x1 rfl
    change awp _ _ _ _ _ ⟨_, _, _, _⟩
    refine cs_ rfl (fun hc => ?_) (fun hc => ?_)
    · have h := cT hc h
      refine awp_seq ?_
      refine awp_region ?_
      refine rvs 3 rfl ?_
      refine rn ?_
      refine awp_conv (fun _ _ _ _ _ hi => err_slot 35 7 (some 1) rfl hi) ?_
      refine awp_ret ?_
      cases h
      repeat (first | refine then_ret ?_ | refine inBlock_ret ?_ | refine cut_r ?_)
      exact rr rfl rfl rfl
    · have h := cF hc h
      refine awp_skip ?_
      refine awp_seq ?_
      refine awp_region ?_
      refine rvs 6 rfl ?_
      obtain ⟨q1, hx5, h⟩ := bi h
      refine rV rfl (va_quo rfl rfl hx5) ?_
      refine rvs 3 rfl ?_
      refine rn ?_
      refine awp_conv (fun _ _ _ _ _ hi => err_slot 35 7 none rfl hi) ?_
      refine awp_ret ?_
      cases h
      repeat (first | refine then_ret ?_ | refine inBlock_ret ?_ | refine cut_r ?_)
      exact rr rfl rfl rfl
end

/-- `plover/own.Of` -/
def down_Of (fu : Nat) (s1 : Int) (brokers1 : Int) (p1 : tPoint) : Option (Int × Er) :=
  (down_of fu s1 brokers1 0).bind fun x1 => bif x1.2.isSome then some (0, x1.2) else ((dmorton_Cell fu s1 p1).bind fun column1 => bif column1.2.2.isSome then some (0, column1.2.2) else ((dmorton_Code fu column1.1 column1.2.1).bind fun code1 => bif code1.2.isSome then some (0, code1.2) else ((down_of fu s1 brokers1 code1.1).bind fun x2 => some (x2.1, x2.2))))
section
attribute [local irreducible] awp aops DP PCall ACall Decidable.decide
theorem down_Of_l {fu : Nat} {s1 : Int} {brokers1 : Int} {p1 : tPoint} {r : Int × Er} (h : down_Of fu s1 brokers1 p1 = some r) : PCall Try.prog 58 [.int .i64 s1, .int .i64 brokers1, .agg [.int .i64 p1.X, .int .i64 p1.Y]] (· = .tup [.int .i64 r.1, .err 35 r.2]) := by
  rw [down_Of] at h
  refine pcall_body Try.func58 rfl (by kernel_rfl) (by rfl) ?_
  refine awp_seq ?_
  refine awp_region ?_
  refine rb rfl rfl ?_
  refine rvs 2 rfl ?_
  refine rn ?_
  refine awp_seq ?_
  refine awp_seq ?_
  refine awp_region ?_
  refine rvs 2 rfl ?_
  obtain ⟨x1, hx1, h⟩ := bi h
  refine rc1 rfl rfl rfl (down_of_l hx1) ?_
  refine rvs 5 rfl ?_
  refine rn ?_
  refine awp_seq ?_
  refine awp_region ?_
  refine rv rfl rfl ?_
  refine rV rfl (va_ennil rfl rfl rfl) ?_
  refine rn ?_
  refine cs_ rfl (fun hc => ?_) (fun hc => ?_)
  · have h := cT hc h
    refine awp_seq ?_
    refine awp_region ?_
    refine rvs 3 rfl ?_
    refine rn ?_
    refine awp_ret ?_
    cases h
    repeat (first | refine then_ret ?_ | refine inBlock_ret ?_ | refine cut_r ?_)
    exact rr rfl rfl rfl
  · have h := cF hc h
    refine awp_skip ?_
    refine awp_seq ?_
    refine awp_region ?_
    refine rvs 2 rfl ?_
    obtain ⟨column1, hx2, h⟩ := bi h
    refine rc1 rfl rfl rfl (dmorton_Cell_l hx2) ?_
    refine rvs 7 rfl ?_
    refine rn ?_
    refine awp_seq ?_
    refine awp_seq ?_
    refine awp_region ?_
    refine rv rfl rfl ?_
    refine rV rfl (va_ennil rfl rfl rfl) ?_
    refine rn ?_
    refine cs_ rfl (fun hc => ?_) (fun hc => ?_)
    · have h := cT hc h
      refine awp_seq ?_
      refine awp_region ?_
      refine rvs 3 rfl ?_
      refine rn ?_
      refine awp_ret ?_
      cases h
      repeat (first | refine then_ret ?_ | refine inBlock_ret ?_ | refine cut_r ?_)
      exact rr rfl rfl rfl
    · have h := cF hc h
      refine awp_skip ?_
      refine awp_seq ?_
      refine awp_region ?_
      refine rvs 2 rfl ?_
      obtain ⟨code1, hx3, h⟩ := bi h
      refine rc1 rfl rfl rfl (dmorton_Code_l hx3) ?_
      refine rvs 5 rfl ?_
      refine rn ?_
      refine awp_seq ?_
      refine awp_seq ?_
      refine awp_region ?_
      refine rv rfl rfl ?_
      refine rV rfl (va_ennil rfl rfl rfl) ?_
      refine rn ?_
      refine cs_ rfl (fun hc => ?_) (fun hc => ?_)
      · have h := cT hc h
        refine awp_seq ?_
        refine awp_region ?_
        refine rvs 3 rfl ?_
        refine rn ?_
        refine awp_ret ?_
        cases h
        repeat (first | refine then_ret ?_ | refine inBlock_ret ?_ | refine cut_r ?_)
        exact rr rfl rfl rfl
      · have h := cF hc h
        refine awp_skip ?_
        refine awp_seq ?_
        refine awp_region ?_
        refine rvs 3 rfl ?_
        obtain ⟨x2, hx4, h⟩ := bi h
        refine rc1 rfl rfl rfl (down_of_l hx4) ?_
        refine rvs 4 rfl ?_
        refine rn ?_
        refine awp_ret ?_
        cases h
        repeat (first | refine then_ret ?_ | refine inBlock_ret ?_ | refine cut_r ?_)
        exact rr rfl rfl rfl
end

/-- `plover/own.All` -/
def down_All (fu : Nat) (s1 : Int) (brokers1 : Int) (r1 : tRect) : Option ((List Int) × Er) :=
  (dcover_Cells fu s1 r1).bind fun l1 => bif l1.2.isSome then some ([], l1.2) else ((loopD (ε := Int × (List Int)) (τ := (List Int) ⊕ ((List Int) × Er)) (fun (((x1, out1)) : Int × (List Int)) => (bif (decide (x1 < (l1.1.length : Int))) then ((gi l1.1 x1).bind fun code1 => (down_of fu s1 brokers1 code1).bind fun n1 => bif n1.2.isSome then some (Sum.inr (Sum.inr ([], n1.2))) else ((ap out1 [n1.1]).bind fun out4 => some (Sum.inl (W (x1 + 1), out4)))) else some (Sum.inr (Sum.inl out1)))) fu (0, [])).bind fun o => kS o fun (out3 : List Int) => ((dslices_Compact_int fu out3).bind fun x3 => some (x3, none)))
section
attribute [local irreducible] awp aops DP PCall ACall Decidable.decide
theorem down_All_l {fu : Nat} {s1 : Int} {brokers1 : Int} {r1 : tRect} {r : (List Int) × Er} (h : down_All fu s1 brokers1 r1 = some r) : PCall Try.prog 59 [.int .i64 s1, .int .i64 brokers1, .agg [.int .i64 r1.X1, .int .i64 r1.Y1, .int .i64 r1.X2, .int .i64 r1.Y2]] (· = .tup [.sl (r.1.map (cI .i64)), .err 35 r.2]) := by
  rw [down_All] at h
  refine pcall_body Try.func59 rfl (by kernel_rfl) (by rfl) ?_
  refine awp_seq ?_
  refine awp_region ?_
  refine rb rfl rfl ?_
  refine rvs 2 rfl ?_
  refine rn ?_
  refine awp_seq ?_
  refine awp_region ?_
  refine rvs 2 rfl ?_
  obtain ⟨l1, hx1, h⟩ := bi h
  refine rc1 rfl rfl rfl (dcover_Cells_l hx1) ?_
  refine rvs 5 rfl ?_
  refine rn ?_
  refine awp_seq ?_
  refine awp_seq ?_
  refine awp_region ?_
  refine rv rfl rfl ?_
  refine rV rfl (va_ennil rfl rfl rfl) ?_
  refine rn ?_
  refine cs_ rfl (fun hc => ?_) (fun hc => ?_)
  · have h := cT hc h
    refine awp_seq ?_
    refine awp_region ?_
    refine rvs 3 rfl ?_
    refine rn ?_
    refine awp_ret ?_
    cases h
    repeat (first | refine then_ret ?_ | refine inBlock_ret ?_ | refine cut_r ?_)
    exact rr rfl rfl rfl
  · have h := cF hc h
    refine awp_skip ?_
    refine awp_seq ?_
    refine awp_region ?_
    refine rv rfl rfl ?_
    refine rn ?_
    refine awp_seq ?_
    refine awp_seq ?_
    refine awp_region ?_
    refine rv rfl rfl ?_
    refine rv rfl rfl ?_
    refine rt ((lM (cI .u64) l1.1)) ?_
    refine rv rfl rfl ?_
    refine rn ?_
    refine awp_conv (fun _ _ _ _ _ hi => nilS_slot true 1 10 rfl hi) ?_
    obtain ⟨e2, hl3, h⟩ := bi h
    refine awp_cut1 (fun x => Sum.inl x = e2) (fun (out3 : List Int) => ⟨[(10, .own 0)], [], [(0, .wr 1 (out3.map (cI .i64)))], 1⟩) ?_ ?_
    · refine awp_block ?_
      refine awp_loopD hl3 (fun (((x1, out1)) : Int × (List Int)) => ⟨[(0, .int .i64 s1), (1, .int .i64 brokers1), (10, .own 0), (24, .sl (l1.1.map (cI .u64))), (25, .int .i64 (l1.1.length : Int)), (26, .int .i64 x1)], [], [(0, .wr 1 (out1.map (cI .i64)))], 1⟩) [1] rfl ⟨rfl, rfl, zA rfl rfl rfl (zA rfl rfl rfl (zA rfl rfl rfl (zA rfl rfl rfl (zA rfl rfl rfl (zA rfl rfl rfl (trivial)))))), trivial, zE rfl (.wr (lmM (fun _ => rfl) _)) rfl (trivial)⟩ ?_
      intro v o6 ho4 hE5
      obtain ⟨x1, out1⟩ := v
      change awp _ _ _ _ _ ⟨_, _, _, _⟩
      refine awp_seq ?_
      refine awp_region ?_
      refine rv rfl rfl ?_
      refine rn ?_
      refine awp_seq ?_
      refine cs_ rfl (fun hc => ?_) (fun hc => ?_)
      · have ho4 := cT hc ho4
        refine awp_skip ?_
        refine awp_seq ?_
        refine awp_block ?_
        refine awp_seq ?_
        refine awp_region ?_
        obtain ⟨code1, hx7, ho4⟩ := bi ho4
        refine ri rfl rfl rfl rfl rfl rfl (gi0 hx7) (giM (cI .u64) hx7) (wM (fun _ => by rfl) _) ?_
        refine rvs 2 rfl ?_
        refine rn ?_
        refine awp_seq ?_
        refine awp_region ?_
        refine rvs 3 rfl ?_
        obtain ⟨n1, hx8, ho4⟩ := bi ho4
        refine rc1 rfl rfl rfl (down_of_l hx8) ?_
        refine rvs 5 rfl ?_
        refine rn ?_
        refine awp_seq ?_
        refine awp_seq ?_
        refine awp_region ?_
        refine rv rfl rfl ?_
        refine rV rfl (va_ennil rfl rfl rfl) ?_
        refine rn ?_
        refine cs_ rfl (fun hc => ?_) (fun hc => ?_)
        · have ho4 := cT hc ho4
          refine awp_seq ?_
          refine awp_region ?_
          refine rvs 3 rfl ?_
          refine rn ?_
          refine awp_ret ?_
          cases ho4
          have hq := hE5 _ rfl
          subst hq
          have h := ksr h
          subst h
          repeat (first | refine then_ret ?_ | refine inBlock_ret ?_ | refine cut_r ?_)
          exact rr rfl rfl rfl
        · have ho4 := cF hc ho4
          refine awp_skip ?_
          refine awp_region ?_
          refine rvs 2 rfl ?_
          refine rbs false rfl rfl rfl rfl rfl rfl rfl rfl rfl rfl ?_
          obtain ⟨out4, hx9, ho4⟩ := bi ho4
          refine rap true (z := 1) (xs := out1.map (cI .i64)) (ys := [n1.1].map (cI .i64)) rfl rfl rfl rfl rfl rfl rfl (.own rfl rfl) (.sl rfl rfl rfl) (wM (fun _ => by rfl) _) (oM (fun _ => by rfl) _) (apB (cI .i64) rfl hx9) rfl ?_
          refine rk (congrArg (Kind.wr _) (apM (cI .i64) hx9)) ?_
          refine rv rfl rfl ?_
          refine rn ?_
          refine inBlock_normal ?_
          refine awp_region ?_
          refine rvs 2 rfl ?_
          refine rn ?_
          cases ho4
          exact lp_n [2] rfl rfl ⟨rfl, rfl, zA rfl rfl rfl (zA rfl rfl rfl (zA rfl rfl rfl (zA rfl rfl rfl (zA rfl rfl rfl (zA rfl rfl rfl (trivial)))))), trivial, zE rfl (.wr (lmM (fun _ => rfl) _)) rfl (trivial)⟩
      · have ho4 := cF hc ho4
        refine awp_exit ?_
        repeat (first | refine then_exit ?_ | refine cut_x ?_ | refine inBlock_other rfl ?_)
        refine inBlock_exit ?_
        cases ho4
        have hq := hE5 _ rfl
        subst hq
        exact cut_n [0] rfl rfl ⟨rfl, rfl, zA rfl rfl rfl (trivial), trivial, zE rfl (.wr (lmM (fun _ => rfl) _)) rfl (trivial)⟩
    · rintro out3 rfl
      have h := ksl h
      change awp _ _ _ _ _ ⟨_, _, _, _⟩
      refine awp_seq ?_
      refine awp_region ?_
      refine rv rfl rfl ?_
      obtain ⟨x3, hx10, h⟩ := bi h
      refine rh [0] rfl rfl (dslices_Compact_int_l hx10) rfl rfl rfl (trivial) (zE rfl (.wr (lmM (fun _ => rfl) _)) rfl (trivial)) ?_
      refine ek ?_
      refine as1 rfl ?_
      refine ae rfl rfl rfl ?_
      refine rkO (wO (fun _ => rfl) (rfl)) ?_
      refine rvs 2 rfl ?_
      refine rn ?_
      refine awp_conv (fun _ _ _ _ _ hi => wr_still 1 rfl (lmM (fun _ => rfl) _) rfl hi) ?_
      refine awp_conv (fun _ _ _ _ _ hi => err_slot 35 7 none rfl hi) ?_
      refine awp_ret ?_
      cases h
      repeat (first | refine then_ret ?_ | refine inBlock_ret ?_ | refine cut_r ?_)
      exact rr rfl rfl rfl
end

/-- `plover/ploverref15.Owner` -/
def dref15_Owner (fu : Nat) (s1 : Int) (brokers1 : Int) (code1 : Int) : Option Int :=
  (dref01_Side fu s1).bind fun side1 => (dref01_Code fu (W (side1 - 1)) (W (side1 - 1))).bind fun last1 => (quoV .u64 (IntKind.wrap .u64 (code1 * (IntKind.wrap .u64 brokers1))) (IntKind.wrap .u64 (last1 + 1))).bind fun q1 => some (W q1)
section
attribute [local irreducible] awp aops DP PCall ACall Decidable.decide
theorem dref15_Owner_l {fu : Nat} {s1 : Int} {brokers1 : Int} {code1 : Int} {r : Int} (h : dref15_Owner fu s1 brokers1 code1 = some r) : PCall Try.prog 97 [.int .i64 s1, .int .i64 brokers1, .int .u64 code1] (· = .int .i64 r) := by
  rw [dref15_Owner] at h
  refine pcall_body Try.func97 rfl (by kernel_rfl) (by rfl) ?_
  refine awp_seq ?_
  refine awp_region ?_
  refine rv rfl rfl ?_
  refine rn ?_
  refine awp_seq ?_
  refine awp_region ?_
  refine rv rfl rfl ?_
  obtain ⟨side1, hx1, h⟩ := bi h
  refine rc1 rfl rfl rfl (dref01_Side_l hx1) ?_
  refine rv rfl rfl ?_
  refine rn ?_
  refine awp_seq ?_
  refine awp_region ?_
  refine rvs 4 rfl ?_
  obtain ⟨last1, hx2, h⟩ := bi h
  refine rc1 rfl rfl rfl (dref01_Code_l hx2) ?_
  refine rv rfl rfl ?_
  refine rn ?_
  refine awp_seq ?_
  refine awp_region ?_
  refine rvs 6 rfl ?_
  obtain ⟨q1, hx3, h⟩ := bi h
  refine rV rfl (va_quo rfl rfl hx3) ?_
  refine rvs 2 rfl ?_
  refine rn ?_
  refine awp_ret ?_
  cases h
  repeat (first | refine then_ret ?_ | refine inBlock_ret ?_ | refine cut_r ?_)
  exact rr rfl rfl rfl
end

/-- `plover/ploverref15.Of` -/
def dref15_Of (fu : Nat) (s1 : Int) (brokers1 : Int) (p1 : tPoint) : Option Int :=
  (dref01_Cell fu s1 p1.X).bind fun x1 => (dref01_Cell fu s1 p1.Y).bind fun x2 => (dref01_Code fu x1 x2).bind fun x3 => (dref15_Owner fu s1 brokers1 x3).bind fun x4 => some x4
section
attribute [local irreducible] awp aops DP PCall ACall Decidable.decide
theorem dref15_Of_l {fu : Nat} {s1 : Int} {brokers1 : Int} {p1 : tPoint} {r : Int} (h : dref15_Of fu s1 brokers1 p1 = some r) : PCall Try.prog 60 [.int .i64 s1, .int .i64 brokers1, .agg [.int .i64 p1.X, .int .i64 p1.Y]] (· = .int .i64 r) := by
  rw [dref15_Of] at h
  refine pcall_body Try.func60 rfl (by kernel_rfl) (by rfl) ?_
  refine awp_seq ?_
  refine awp_region ?_
  refine rb rfl rfl ?_
  refine rv rfl rfl ?_
  refine rn ?_
  refine awp_seq ?_
  refine awp_dp (m := 12) Try.mix (by kernel_rfl) (by kernel_rfl) (by kernel_rfl) (by kernel_rfl) (by kernel_rfl) (by kernel_rfl) (by kernel_rfl) ?_
  refine dv rfl rfl (fun _ => rfl) ?_
  refine dv rfl rfl (fun _ => rfl) ?_
  refine dv rfl rfl (fun _ => rfl) ?_
  refine dv rfl rfl (fun _ => rfl) ?_
  refine dv rfl rfl (fun _ => rfl) ?_
  obtain ⟨x1, hx1, h⟩ := bi h
  refine dc rfl rfl rfl rfl (fun _ => rfl) (fun _ => (dref01_Cell_l hx1)) ?_
  refine dv rfl rfl (fun _ => rfl) ?_
  refine dv rfl rfl (fun _ => rfl) ?_
  refine dv rfl rfl (fun _ => rfl) ?_
  obtain ⟨x2, hx2, h⟩ := bi h
  refine dc rfl rfl rfl rfl (fun _ => rfl) (fun _ => (dref01_Cell_l hx2)) ?_
  obtain ⟨x3, hx3, h⟩ := bi h
  refine dc rfl rfl rfl rfl (fun _ => rfl) (fun _ => (dref01_Code_l hx3)) ?_
  obtain ⟨x4, hx4, h⟩ := bi h
  refine dc rfl rfl rfl rfl (fun _ => rfl) (fun _ => (dref15_Owner_l hx4)) ?_
  refine dn ?_
  refine rv rfl rfl ?_
  refine rn ?_
  refine awp_ret ?_
  cases h
  repeat (first | refine then_ret ?_ | refine inBlock_ret ?_ | refine cut_r ?_)
  exact rr rfl rfl rfl
end

/-- `plover/ploverref15.All` -/
def dref15_All (fu : Nat) (s1 : Int) (brokers1 : Int) (r1 : tRect) : Option (List Int) :=
  (mk brokers1 false).bind fun has1 => (dref01_Cells fu s1 r1).bind fun l1 => (loopD (ε := Int × (List Bool)) (τ := List Bool) (fun (((i1, has2)) : Int × (List Bool)) => (bif (decide (i1 < (l1.length : Int))) then ((gi l1 i1).bind fun n1 => (dref15_Owner fu s1 brokers1 n1).bind fun n2 => (gi has2 n2).bind fun x1 => (sti has2 n2 true).bind fun has5 => some (Sum.inl (W (i1 + 1), has5))) else some (Sum.inr has2))) fu (0, has1)).bind fun (has4 : List Bool) => ((loopD (ε := Int × (List Int)) (τ := List Int) (fun (((i3, out1)) : Int × (List Int)) => (bif (decide (i3 < brokers1)) then (((gi has4 i3).bind fun x2 => bif x2 then ((ap out1 [i3]).bind fun out5 => some out5) else some out1 : Option (List Int)).bind fun (out4 : List Int) => some (Sum.inl (W (i3 + 1), out4))) else some (Sum.inr out1))) fu (0, [])).bind fun (out3 : List Int) => some out3)
section
attribute [local irreducible] awp aops DP PCall ACall Decidable.decide
theorem dref15_All_l {fu : Nat} {s1 : Int} {brokers1 : Int} {r1 : tRect} {r : List Int} (h : dref15_All fu s1 brokers1 r1 = some r) : PCall Try.prog 61 [.int .i64 s1, .int .i64 brokers1, .agg [.int .i64 r1.X1, .int .i64 r1.Y1, .int .i64 r1.X2, .int .i64 r1.Y2]] (· = .sl (r.map (cI .i64))) := by
  rw [dref15_All] at h
  refine pcall_body Try.func61 rfl (by kernel_rfl) (by rfl) ?_
  refine awp_seq ?_
  refine awp_region ?_
  refine rb rfl rfl ?_
  refine rv rfl rfl ?_
  refine rn ?_
  refine awp_seq ?_
  refine awp_region ?_
  refine rv rfl rfl ?_
  obtain ⟨has1, hx1, h⟩ := bi h
  refine rN rfl (na_make true (len := brokers1.toNat) rfl rfl rfl rfl (.inl rfl) (mkI _ hx1) (mkI _ hx1) (mkB rfl hx1) rfl) ?_
  refine rk (congrArg (Kind.wr _) (mkM cB hx1)) ?_
  refine rv rfl rfl ?_
  refine rn ?_
  refine awp_seq ?_
  refine awp_region ?_
  refine rvs 2 rfl ?_
  obtain ⟨l1, hx2, h⟩ := bi h
  refine rc1 rfl rfl rfl (dref01_Cells_l hx2) ?_
  refine rv rfl rfl ?_
  refine rn ?_
  refine awp_seq ?_
  refine awp_seq ?_
  refine awp_region ?_
  refine rv rfl rfl ?_
  refine rn ?_
  obtain ⟨e3, hl4, h⟩ := bi h
  refine awp_cut1 (fun x => x = e3) (fun (has4 : List Bool) => ⟨[(1, .int .i64 brokers1), (7, .own 0)], [], [(0, .wr 1 (has4.map cB))], 1⟩) ?_ ?_
  · refine awp_block ?_
    refine awp_loopD hl4 (fun (((i1, has2)) : Int × (List Bool)) => ⟨[(0, .int .i64 s1), (1, .int .i64 brokers1), (7, .own 0), (8, .sl (l1.map (cI .u64))), (9, .int .i64 i1)], [], [(0, .wr 1 (has2.map cB))], 1⟩) [1] rfl ⟨rfl, rfl, zA rfl rfl rfl (zA rfl rfl rfl (zA rfl rfl rfl (zA rfl rfl rfl (zA rfl rfl rfl (trivial))))), trivial, zE rfl (.wr (lmM (fun _ => rfl) _)) rfl (trivial)⟩ ?_
    intro v o7 ho5 hE6
    obtain ⟨i1, has2⟩ := v
    change awp _ _ _ _ _ ⟨_, _, _, _⟩
    refine awp_seq ?_
    refine awp_seq ?_
    refine awp_region ?_
    refine rvs 2 rfl ?_
    refine rv rfl rfl ?_
    refine rt ((lM (cI .u64) l1)) ?_
    refine rv rfl rfl ?_
    refine rn ?_
    refine cs_ rfl (fun hc => ?_) (fun hc => ?_)
    · have ho5 := cT hc ho5
      refine awp_skip ?_
      refine awp_seq ?_
      refine awp_block ?_
      refine awp_seq ?_
      refine awp_region ?_
      refine rvs 4 rfl ?_
      obtain ⟨n1, hx8, ho5⟩ := bi ho5
      refine ri rfl rfl rfl rfl rfl rfl (gi0 hx8) (giM (cI .u64) hx8) (wM (fun _ => by rfl) _) ?_
      refine rv rfl rfl ?_
      obtain ⟨n2, hx9, ho5⟩ := bi ho5
      refine rc1 rfl rfl rfl (dref15_Owner_l hx9) ?_
      refine rv rfl rfl ?_
      refine rn ?_
      refine awp_region ?_
      refine rvs 2 rfl ?_
      obtain ⟨x1, hx10, ho5⟩ := bi ho5
      refine rV rfl (va_place rfl rfl rfl rfl rfl rfl rfl (gi0 hx10) (giLM cB hx10)) ?_
      obtain ⟨has5, hx11, ho5⟩ := bi ho5
      obtain ⟨o1, ho12⟩ := stG hx11
      refine rse rfl rfl rfl (giM cB ho12) rfl rfl rfl rfl rfl ?_
      refine rk (congrArg (Kind.wr _) (stM cB hx11)) ?_
      refine rn ?_
      refine inBlock_normal ?_
      refine awp_region ?_
      refine rvs 3 rfl ?_
      refine rn ?_
      cases ho5
      exact lp_n [0] rfl rfl ⟨rfl, rfl, zA rfl rfl rfl (zA rfl rfl rfl (zA rfl rfl rfl (zA rfl rfl rfl (zA rfl rfl rfl (trivial))))), trivial, zE rfl (.wr (lmM (fun _ => rfl) _)) rfl (trivial)⟩
    · have ho5 := cF hc ho5
      refine awp_exit ?_
      repeat (first | refine then_exit ?_ | refine cut_x ?_ | refine inBlock_other rfl ?_)
      refine inBlock_exit ?_
      cases ho5
      have hq := hE6 _ rfl
      subst hq
      exact cut_n [0] rfl rfl ⟨rfl, rfl, zA rfl rfl rfl (zA rfl rfl rfl (trivial)), trivial, zE rfl (.wr (lmM (fun _ => rfl) _)) rfl (trivial)⟩
  · rintro has4 rfl
    change awp _ _ _ _ _ ⟨_, _, _, _⟩
    refine awp_seq ?_
    refine awp_region ?_
    refine rv rfl rfl ?_
    refine rn ?_
    refine awp_seq ?_
    refine awp_seq ?_
    refine awp_region ?_
    refine rv rfl rfl ?_
    refine rn ?_
    refine awp_conv (fun _ _ _ _ _ hi => nilS_slot false 1 11 rfl hi) ?_
    obtain ⟨e13, hl14, h⟩ := bi h
    refine awp_cut1 (fun x => x = e13) (fun (out3 : List Int) => ⟨[(11, .own 0)], [], [(0, .row 1 (out3.map (cI .i64)))], 1⟩) ?_ ?_
    · refine awp_block ?_
      refine awp_loopD hl14 (fun (((i3, out1)) : Int × (List Int)) => ⟨[(1, .int .i64 brokers1), (7, .own 0), (11, .own 1), (12, .int .i64 i3)], [], [(0, .wr 1 (has4.map cB)), (1, .row 1 (out1.map (cI .i64)))], 2⟩) [0, 1] rfl ⟨rfl, rfl, zA rfl rfl rfl (zA rfl rfl rfl (zA rfl rfl rfl (zA rfl rfl rfl (trivial)))), trivial, zE rfl (.wr (lmM (fun _ => rfl) _)) rfl (zE rfl .row rfl (trivial))⟩ ?_
      intro v o17 ho15 hE16
      obtain ⟨i3, out1⟩ := v
      change awp _ _ _ _ _ ⟨_, _, _, _⟩
      refine awp_seq ?_
      refine awp_seq ?_
      refine awp_region ?_
      refine rvs 3 rfl ?_
      refine rn ?_
      refine cs_ rfl (fun hc => ?_) (fun hc => ?_)
      · have ho15 := cT hc ho15
        refine awp_skip ?_
        refine awp_seq ?_
        obtain ⟨o18, ho19, ho15⟩ := bi ho15
        refine awp_cut1 (fun x => x = o18) (fun (out4 : List Int) => ⟨[(1, .int .i64 brokers1), (7, .own 0), (11, .own 1), (12, .int .i64 i3)], [], [(0, .wr 1 (has4.map cB)), (1, .row 1 (out4.map (cI .i64)))], 2⟩) ?_ ?_
        · refine awp_block ?_
          refine awp_seq ?_
          refine awp_region ?_
          refine rvs 2 rfl ?_
          obtain ⟨x2, hx20, ho19⟩ := bi ho19
          refine rV rfl (va_place rfl rfl rfl rfl rfl rfl rfl (gi0 hx20) (giLM cB hx20)) ?_
          refine rV rfl (va_loadE rfl rfl rfl (giM cB hx20) rfl rfl) ?_
          refine rn ?_
          refine cs_ rfl (fun hc => ?_) (fun hc => ?_)
          · have ho19 := cT hc ho19
            refine awp_region ?_
            refine rvs 2 rfl ?_
            refine rbs false rfl rfl rfl rfl rfl rfl rfl rfl rfl rfl ?_
            obtain ⟨out5, hx21, ho19⟩ := bi ho19
            refine rap false (z := 1) (xs := out1.map (cI .i64)) (ys := [i3].map (cI .i64)) rfl rfl rfl rfl rfl rfl rfl (.own rfl rfl) (.sl rfl rfl rfl) (wM (fun _ => by rfl) _) (oM (fun _ => by rfl) _) (apB (cI .i64) rfl hx21) rfl ?_
            refine rk (congrArg (Kind.row _) (apM (cI .i64) hx21)) ?_
            refine rv rfl rfl ?_
            refine rn ?_
            refine inBlock_normal ?_
            cases ho19
            exact cut_n [0, 3] rfl rfl ⟨rfl, rfl, zA rfl rfl rfl (zA rfl rfl rfl (zA rfl rfl rfl (zA rfl rfl rfl (trivial)))), trivial, zE rfl (.wr (lmM (fun _ => rfl) _)) rfl (zE rfl .row rfl (trivial))⟩
          · have ho19 := cF hc ho19
            refine awp_skip ?_
            refine inBlock_normal ?_
            cases ho19
            exact cut_n [0, 1] rfl rfl ⟨rfl, rfl, zA rfl rfl rfl (zA rfl rfl rfl (zA rfl rfl rfl (zA rfl rfl rfl (trivial)))), trivial, zE rfl (.wr (lmM (fun _ => rfl) _)) rfl (zE rfl .row rfl (trivial))⟩
        · rintro out4 rfl
          change awp _ _ _ _ _ ⟨_, _, _, _⟩
          refine awp_region ?_
          refine rvs 3 rfl ?_
          refine rn ?_
          cases ho15
          exact lp_n [0, 1] rfl rfl ⟨rfl, rfl, zA rfl rfl rfl (zA rfl rfl rfl (zA rfl rfl rfl (zA rfl rfl rfl (trivial)))), trivial, zE rfl (.wr (lmM (fun _ => rfl) _)) rfl (zE rfl .row rfl (trivial))⟩
      · have ho15 := cF hc ho15
        refine awp_exit ?_
        repeat (first | refine then_exit ?_ | refine cut_x ?_ | refine inBlock_other rfl ?_)
        refine inBlock_exit ?_
        cases ho15
        have hq := hE16 _ rfl
        subst hq
        exact cut_n [1] rfl rfl ⟨rfl, rfl, zA rfl rfl rfl (trivial), trivial, zE rfl .row rfl (trivial)⟩
    · rintro out3 rfl
      refine awp_seq ?_
      refine awp_region ?_
      refine rvs 2 rfl ?_
      refine rn ?_
      refine awp_ret ?_
      cases h
      repeat (first | refine then_ret ?_ | refine inBlock_ret ?_ | refine cut_r ?_)
      exact rr rfl rfl rfl
end

/-- `plover/ploverlaw18.up` -/
def dlaw18_up (fu : Nat)  : Option Bool :=
  (down_Of fu 30 1 (tPoint.mk 0 0)).bind fun n1 => (down_Of fu 30 65 (tPoint.mk 0 0)).bind fun x1 => (down_All fu 30 3 (tRect.mk (-1073741824) (-1073741824) 1073741824 1073741824)).bind fun l1 => bif (n1.1 == 0) then (bif n1.2.isNone then (bif (x1.2 == some 1) then (bif ((l1.1.length : Int) == 3) then some l1.2.isNone else some false) else some false) else some false) else some false
section
attribute [local irreducible] awp aops DP PCall ACall Decidable.decide
theorem dlaw18_up_l {fu : Nat}  {r : Bool} (h : dlaw18_up fu  = some r) : PCall Try.prog 57 [] (· = .bool r) := by
  rw [dlaw18_up] at h
  refine pcall_body Try.func57 rfl (by kernel_rfl) (by rfl) ?_
  refine awp_seq ?_
  refine awp_region ?_
  refine rv rfl rfl ?_
  refine rn ?_
  refine awp_seq ?_
  refine awp_region ?_
  refine rv rfl rfl ?_
  obtain ⟨n1, hx1, h⟩ := bi h
  refine rc1 rfl rfl rfl (down_Of_l hx1) ?_
  refine rvs 5 rfl ?_
  refine rn ?_
  refine awp_seq ?_
  refine awp_region ?_
  refine rv rfl rfl ?_
  obtain ⟨x1, hx2, h⟩ := bi h
  refine rc1 rfl rfl rfl (down_Of_l hx2) ?_
  refine rvs 5 rfl ?_
  refine rn ?_
  refine awp_seq ?_
  refine awp_region ?_
  refine rv rfl rfl ?_
  obtain ⟨l1, hx3, h⟩ := bi h
  refine rc1 rfl rfl rfl (down_All_l hx3) ?_
  refine rvs 5 rfl ?_
  refine rn ?_
  refine awp_seq ?_
  refine awp_region ?_
  refine rvs 3 rfl ?_
  refine gs rfl rfl rfl rfl rfl (fun hg => ?_) (fun hg => ?_)
  · have h := cT hg h
    refine rv rfl rfl ?_
    refine gy rfl rfl rfl ?_
    refine rV rfl (va_enil rfl rfl rfl) ?_
    refine rvs 2 rfl ?_
    refine gs rfl rfl rfl rfl rfl (fun hg => ?_) (fun hg => ?_)
    · have h := cT hg h
      refine rv rfl rfl ?_
      refine gy rfl rfl rfl ?_
      refine rv rfl rfl ?_
      refine gy rfl rfl rfl ?_
      refine rV rfl (va_eeq rfl rfl rfl rfl rfl rfl (fun _ => rfl)) ?_
      refine rvs 2 rfl ?_
      refine gs rfl rfl rfl rfl rfl (fun hg => ?_) (fun hg => ?_)
      · have h := cT hg h
        refine rv rfl rfl ?_
        refine gy rfl rfl rfl ?_
        refine rv rfl rfl ?_
        refine rt ((lM (cI .i64) l1.1)) ?_
        refine gy rfl rfl rfl ?_
        refine rv rfl rfl ?_
        refine rvs 2 rfl ?_
        refine gs rfl rfl rfl rfl rfl (fun hg => ?_) (fun hg => ?_)
        · have h := cT hg h
          refine rv rfl rfl ?_
          refine gy rfl rfl rfl ?_
          refine rV rfl (va_enil rfl rfl rfl) ?_
          refine rvs 2 rfl ?_
          refine rn ?_
          refine awp_ret ?_
          cases h
          repeat (first | refine then_ret ?_ | refine inBlock_ret ?_ | refine cut_r ?_)
          exact rr rfl rfl rfl
        · have h := cF hg h
          refine gn rfl rfl rfl rfl rfl ?_
          refine rvs 2 rfl ?_
          refine rn ?_
          refine awp_ret ?_
          cases h
          repeat (first | refine then_ret ?_ | refine inBlock_ret ?_ | refine cut_r ?_)
          exact rr rfl rfl rfl
      · have h := cF hg h
        refine gn rfl rfl rfl rfl rfl ?_
        refine gn rfl rfl rfl rfl rfl ?_
        refine rvs 2 rfl ?_
        refine gn rfl rfl rfl rfl rfl ?_
        refine gn rfl rfl rfl rfl rfl ?_
        refine rvs 2 rfl ?_
        refine rn ?_
        refine awp_ret ?_
        cases h
        repeat (first | refine then_ret ?_ | refine inBlock_ret ?_ | refine cut_r ?_)
        exact rr rfl rfl rfl
    · have h := cF hg h
      refine gn rfl rfl rfl rfl rfl ?_
      refine gn rfl rfl rfl rfl rfl ?_
      refine rvs 2 rfl ?_
      refine gn rfl rfl rfl rfl rfl ?_
      refine gn rfl rfl rfl rfl rfl ?_
      refine gn rfl rfl rfl rfl rfl ?_
      refine rvs 2 rfl ?_
      refine gn rfl rfl rfl rfl rfl ?_
      refine gn rfl rfl rfl rfl rfl ?_
      refine rvs 2 rfl ?_
      refine rn ?_
      refine awp_ret ?_
      cases h
      repeat (first | refine then_ret ?_ | refine inBlock_ret ?_ | refine cut_r ?_)
      exact rr rfl rfl rfl
  · have h := cF hg h
    refine gn rfl rfl rfl rfl rfl ?_
    refine rvs 2 rfl ?_
    refine gn rfl rfl rfl rfl rfl ?_
    refine gn rfl rfl rfl rfl rfl ?_
    refine gn rfl rfl rfl rfl rfl ?_
    refine rvs 2 rfl ?_
    refine gn rfl rfl rfl rfl rfl ?_
    refine gn rfl rfl rfl rfl rfl ?_
    refine gn rfl rfl rfl rfl rfl ?_
    refine rvs 2 rfl ?_
    refine gn rfl rfl rfl rfl rfl ?_
    refine gn rfl rfl rfl rfl rfl ?_
    refine rvs 2 rfl ?_
    refine rn ?_
    refine awp_ret ?_
    cases h
    repeat (first | refine then_ret ?_ | refine inBlock_ret ?_ | refine cut_r ?_)
    exact rr rfl rfl rfl
end

/-- `plover/ploverlaw18.OwnTells` -/
def dlaw18_OwnTells (fu : Nat) (s1 : Int) (brokers1 : Int) (p1 : tPoint) (r1 : tRect) : Option Bool :=
  (dlaw18_up fu ).bind fun head1 => (dref01_Shift fu s1).bind fun shift1 => (dref01_May fu p1).bind fun may1 => (dref01_Rect fu r1).bind fun rect1 => (down_Of fu s1 brokers1 p1).bind fun n1 => (down_All fu s1 brokers1 r1).bind fun l1 => (bif (!shift1) then some true else (bif (decide (brokers1 < 1)) then some true else some (decide (brokers1 > 64))) : Option Bool).bind fun (x1 : Bool) => (bif x1 then ((bif head1 then (bif (n1.2 == some 1) then (bif (l1.2 == some 1) then (bif (n1.1 == 0) then ((some ((l1.1.length : Int) == 0)).bind fun x3 => some x3) else some false) else some false) else some false) else some false : Option Bool).bind fun (x2 : Bool) => some x2) else ((bif (!may1) then ((bif (!(n1.2 == some 11)) then some true else some (n1.1 != 0) : Option Bool).bind fun (x4 : Bool) => (bif x4 then some (Sum.inr false) else some (Sum.inl ()))) else ((bif n1.2.isSome then some true else ((dref15_Of fu s1 brokers1 p1).bind fun x6 => some (n1.1 != x6)) : Option Bool).bind fun (x5 : Bool) => (bif x5 then some (Sum.inr false) else some (Sum.inl ()))) : Option (Unit ⊕ Bool)).bind fun o => kS o fun (_ : Unit) => (bif (!rect1) then ((bif head1 then (bif (l1.2 == some 1) then ((some ((l1.1.length : Int) == 0)).bind fun x8 => some x8) else some false) else some false : Option Bool).bind fun (x7 : Bool) => some x7) else ((dref15_All fu s1 brokers1 r1).bind fun want1 => (bif l1.2.isSome then some true else some ((l1.1.length : Int) != (want1.length : Int)) : Option Bool).bind fun (x9 : Bool) => (bif x9 then some false else ((loopD (ε := Int) (τ := Unit ⊕ Bool) (fun (i1 : Int) => (bif (decide (i1 < (l1.1.length : Int))) then ((gi l1.1 i1).bind fun x10 => (gi want1 i1).bind fun x11 => bif (x10 != x11) then some (Sum.inr (Sum.inr false)) else some (Sum.inl (W (i1 + 1)))) else some (Sum.inr (Sum.inl ())))) fu 0).bind fun o => kS o fun (_ : Unit) => some head1))))))
section
attribute [local irreducible] awp aops DP PCall ACall Decidable.decide
theorem dlaw18_OwnTells_l {fu : Nat} {s1 : Int} {brokers1 : Int} {p1 : tPoint} {r1 : tRect} {r : Bool} (h : dlaw18_OwnTells fu s1 brokers1 p1 r1 = some r) : PCall Try.prog 13 [.int .i64 s1, .int .i64 brokers1, .agg [.int .i64 p1.X, .int .i64 p1.Y], .agg [.int .i64 r1.X1, .int .i64 r1.Y1, .int .i64 r1.X2, .int .i64 r1.Y2]] (· = .bool r) := by
  rw [dlaw18_OwnTells] at h
  refine pcall_body Try.func13 rfl (by kernel_rfl) (by rfl) ?_
  refine awp_seq ?_
  refine awp_region ?_
  refine rb rfl rfl ?_
  refine rb rfl rfl ?_
  refine rv rfl rfl ?_
  refine rn ?_
  refine awp_seq ?_
  refine awp_region ?_
  obtain ⟨head1, hx1, h⟩ := bi h
  refine rc1 rfl rfl rfl (dlaw18_up_l hx1) ?_
  refine rv rfl rfl ?_
  refine rn ?_
  refine awp_seq ?_
  refine awp_region ?_
  refine rv rfl rfl ?_
  obtain ⟨shift1, hx2, h⟩ := bi h
  refine rc1 rfl rfl rfl (dref01_Shift_l hx2) ?_
  refine rv rfl rfl ?_
  refine rn ?_
  refine awp_seq ?_
  refine awp_region ?_
  refine rv rfl rfl ?_
  obtain ⟨may1, hx3, h⟩ := bi h
  refine rc1 rfl rfl rfl (dref01_May_l hx3) ?_
  refine rv rfl rfl ?_
  refine rn ?_
  refine awp_seq ?_
  refine awp_region ?_
  refine rv rfl rfl ?_
  obtain ⟨rect1, hx4, h⟩ := bi h
  refine rc1 rfl rfl rfl (dref01_Rect_l hx4) ?_
  refine rv rfl rfl ?_
  refine rn ?_
  refine awp_seq ?_
  refine awp_region ?_
  refine rvs 3 rfl ?_
  obtain ⟨n1, hx5, h⟩ := bi h
  refine rc1 rfl rfl rfl (down_Of_l hx5) ?_
  refine rvs 5 rfl ?_
  refine rn ?_
  refine awp_seq ?_
  refine awp_region ?_
  refine rvs 3 rfl ?_
  obtain ⟨l1, hx6, h⟩ := bi h
  refine rc1 rfl rfl rfl (down_All_l hx6) ?_
  refine rvs 5 rfl ?_
  refine rn ?_
  refine awp_seq ?_
  refine awp_seq ?_
  obtain ⟨o7, ho8, h⟩ := bi h
  refine awp_cut1 (fun x => x = o7) (fun (x1 : Bool) => ⟨[(0, .int .i64 s1), (1, .int .i64 brokers1), (6, .ptr 0 0), (7, .ptr 1 0), (9, .bool head1), (11, .bool may1), (12, .bool rect1), (13, .int .i64 n1.1), (14, .err 35 n1.2), (15, .sl (l1.1.map (cI .i64))), (16, .err 35 l1.2), (49, .bool x1)], [(0, 0, .int .i64 p1.X), (0, 1, .int .i64 p1.Y), (1, 0, .int .i64 r1.X1), (1, 1, .int .i64 r1.Y1), (1, 2, .int .i64 r1.X2), (1, 3, .int .i64 r1.Y2)], [], 2⟩) ?_ ?_
  · refine awp_region ?_
    refine rvs 3 rfl ?_
    refine gs rfl rfl rfl rfl rfl (fun hg => ?_) (fun hg => ?_)
    · have ho8 := cF hg ho8
      refine rv rfl rfl ?_
      refine gy rfl rfl rfl ?_
      refine rv rfl rfl ?_
      refine rvs 2 rfl ?_
      refine gs rfl rfl rfl rfl rfl (fun hg => ?_) (fun hg => ?_)
      · have ho8 := cF hg ho8
        refine rv rfl rfl ?_
        refine gy rfl rfl rfl ?_
        refine rv rfl rfl ?_
        refine rv rfl rfl ?_
        refine rn ?_
        cases ho8
        exact cut_n [0, 1] rfl rfl ⟨rfl, rfl, zA rfl rfl rfl (zA rfl rfl rfl (zA rfl rfl rfl (zA rfl rfl rfl (zA rfl rfl rfl (zA rfl rfl rfl (zA rfl rfl rfl (zA rfl rfl rfl (zA rfl rfl rfl (zA rfl rfl rfl (zA rfl rfl rfl (zA rfl rfl rfl (trivial)))))))))))), zC rfl rfl rfl rfl (zC rfl rfl rfl rfl (zC rfl rfl rfl rfl (zC rfl rfl rfl rfl (zC rfl rfl rfl rfl (zC rfl rfl rfl rfl (trivial)))))), trivial⟩
      · have ho8 := cT hg ho8
        refine gn rfl rfl rfl rfl rfl ?_
        refine rv rfl rfl ?_
        refine rn ?_
        cases ho8
        exact cut_n [0, 1] rfl rfl ⟨rfl, rfl, zA rfl rfl rfl (zA rfl rfl rfl (zA rfl rfl rfl (zA rfl rfl rfl (zA rfl rfl rfl (zA rfl rfl rfl (zA rfl rfl rfl (zA rfl rfl rfl (zA rfl rfl rfl (zA rfl rfl rfl (zA rfl rfl rfl (zA rfl rfl rfl (trivial)))))))))))), zC rfl rfl rfl rfl (zC rfl rfl rfl rfl (zC rfl rfl rfl rfl (zC rfl rfl rfl rfl (zC rfl rfl rfl rfl (zC rfl rfl rfl rfl (trivial)))))), trivial⟩
    · have ho8 := cT hg ho8
      refine gn rfl rfl rfl rfl rfl ?_
      refine rvs 2 rfl ?_
      refine gn rfl rfl rfl rfl rfl ?_
      refine gn rfl rfl rfl rfl rfl ?_
      refine rv rfl rfl ?_
      refine rn ?_
      cases ho8
      exact cut_n [0, 1] rfl rfl ⟨rfl, rfl, zA rfl rfl rfl (zA rfl rfl rfl (zA rfl rfl rfl (zA rfl rfl rfl (zA rfl rfl rfl (zA rfl rfl rfl (zA rfl rfl rfl (zA rfl rfl rfl (zA rfl rfl rfl (zA rfl rfl rfl (zA rfl rfl rfl (zA rfl rfl rfl (trivial)))))))))))), zC rfl rfl rfl rfl (zC rfl rfl rfl rfl (zC rfl rfl rfl rfl (zC rfl rfl rfl rfl (zC rfl rfl rfl rfl (zC rfl rfl rfl rfl (trivial)))))), trivial⟩
  · rintro x1 rfl
    change awp _ _ _ _ _ ⟨_, _, _, _⟩
    refine cs_ rfl (fun hc => ?_) (fun hc => ?_)
    · have h := cT hc h
      refine awp_seq ?_
      obtain ⟨o9, ho10, h⟩ := bi h
      refine awp_cut1 (fun x => x = o9) (fun (x2 : Bool) => ⟨[(8, .bool x2)], [], [], 0⟩) ?_ ?_
      · refine awp_region ?_
        refine rvs 2 rfl ?_
        refine gs rfl rfl rfl rfl rfl (fun hg => ?_) (fun hg => ?_)
        · have ho10 := cT hg ho10
          refine rv rfl rfl ?_
          refine gy rfl rfl rfl ?_
          refine rv rfl rfl ?_
          refine gy rfl rfl rfl ?_
          refine rV rfl (va_eeq rfl rfl rfl rfl rfl rfl (fun _ => rfl)) ?_
          refine rvs 2 rfl ?_
          refine gs rfl rfl rfl rfl rfl (fun hg => ?_) (fun hg => ?_)
          · have ho10 := cT hg ho10
            refine rv rfl rfl ?_
            refine gy rfl rfl rfl ?_
            refine rv rfl rfl ?_
            refine gy rfl rfl rfl ?_
            refine rV rfl (va_eeq rfl rfl rfl rfl rfl rfl (fun _ => rfl)) ?_
            refine rvs 2 rfl ?_
            refine gs rfl rfl rfl rfl rfl (fun hg => ?_) (fun hg => ?_)
            · have ho10 := cT hg ho10
              refine rv rfl rfl ?_
              refine gy rfl rfl rfl ?_
              refine rv rfl rfl ?_
              refine rvs 2 rfl ?_
              refine gs rfl rfl rfl rfl rfl (fun hg => ?_) (fun hg => ?_)
              · have ho10 := cT hg ho10
                refine rv rfl rfl ?_
                refine gy rfl rfl rfl ?_
                refine rv rfl rfl ?_
                refine rt ((lM (cI .i64) l1.1)) ?_
                refine gy rfl rfl rfl ?_
                refine rv rfl rfl ?_
                refine rvs 2 rfl ?_
                obtain ⟨x3, hx11, ho10⟩ := bs ho10
                refine rt (eb' hx11) ?_
                refine rn ?_
                cases ho10
                exact cut_n [] rfl rfl ⟨rfl, rfl, zA rfl rfl rfl (trivial), trivial, trivial⟩
              · have ho10 := cF hg ho10
                refine gn rfl rfl rfl rfl rfl ?_
                refine gn rfl rfl rfl rfl rfl ?_
                refine rvs 2 rfl ?_
                refine rn ?_
                cases ho10
                exact cut_n [] rfl rfl ⟨rfl, rfl, zA rfl rfl rfl (trivial), trivial, trivial⟩
            · have ho10 := cF hg ho10
              refine gn rfl rfl rfl rfl rfl ?_
              refine rvs 2 rfl ?_
              refine gn rfl rfl rfl rfl rfl ?_
              refine gn rfl rfl rfl rfl rfl ?_
              refine gn rfl rfl rfl rfl rfl ?_
              refine rvs 2 rfl ?_
              refine rn ?_
              cases ho10
              exact cut_n [] rfl rfl ⟨rfl, rfl, zA rfl rfl rfl (trivial), trivial, trivial⟩
          · have ho10 := cF hg ho10
            refine gn rfl rfl rfl rfl rfl ?_
            refine gn rfl rfl rfl rfl rfl ?_
            refine rvs 2 rfl ?_
            refine gn rfl rfl rfl rfl rfl ?_
            refine gn rfl rfl rfl rfl rfl ?_
            refine rvs 2 rfl ?_
            refine gn rfl rfl rfl rfl rfl ?_
            refine gn rfl rfl rfl rfl rfl ?_
            refine gn rfl rfl rfl rfl rfl ?_
            refine rvs 2 rfl ?_
            refine rn ?_
            cases ho10
            exact cut_n [] rfl rfl ⟨rfl, rfl, zA rfl rfl rfl (trivial), trivial, trivial⟩
        · have ho10 := cF hg ho10
          refine gn rfl rfl rfl rfl rfl ?_
          refine gn rfl rfl rfl rfl rfl ?_
          refine rvs 2 rfl ?_
          refine gn rfl rfl rfl rfl rfl ?_
          refine gn rfl rfl rfl rfl rfl ?_
          refine gn rfl rfl rfl rfl rfl ?_
          refine rvs 2 rfl ?_
          refine gn rfl rfl rfl rfl rfl ?_
          refine gn rfl rfl rfl rfl rfl ?_
          refine rvs 2 rfl ?_
          refine gn rfl rfl rfl rfl rfl ?_
          refine gn rfl rfl rfl rfl rfl ?_
          refine gn rfl rfl rfl rfl rfl ?_
          refine rvs 2 rfl ?_
          refine rn ?_
          cases ho10
          exact cut_n [] rfl rfl ⟨rfl, rfl, zA rfl rfl rfl (trivial), trivial, trivial⟩
      · rintro x2 rfl
        change awp _ _ _ _ _ ⟨_, _, _, _⟩
        refine awp_ret ?_
        cases h
        repeat (first | refine then_ret ?_ | refine inBlock_ret ?_ | refine cut_r ?_)
        exact rr rfl rfl rfl
    · have h := cF hc h
      refine awp_skip ?_
      refine awp_seq ?_
      refine awp_seq ?_
      refine awp_region ?_
      refine rvs 2 rfl ?_
      refine rn ?_
      obtain ⟨o12, ho13, h⟩ := bi h
      refine awp_cut1 (fun x => Sum.inl x = o12) (fun (_ : Unit) => ⟨[(0, .int .i64 s1), (1, .int .i64 brokers1), (7, .ptr 0 0), (9, .bool head1), (12, .bool rect1), (15, .sl (l1.1.map (cI .i64))), (16, .err 35 l1.2)], [(0, 0, .int .i64 r1.X1), (0, 1, .int .i64 r1.Y1), (0, 2, .int .i64 r1.X2), (0, 3, .int .i64 r1.Y2)], [], 1⟩) ?_ ?_
      · refine cs_ rfl (fun hc => ?_) (fun hc => ?_)
        · have ho13 := cT hc ho13
          refine awp_seq ?_
          obtain ⟨o14, ho15, ho13⟩ := bi ho13
          refine awp_cut1 (fun x => x = o14) (fun (x4 : Bool) => ⟨[(0, .int .i64 s1), (1, .int .i64 brokers1), (7, .ptr 0 0), (9, .bool head1), (12, .bool rect1), (15, .sl (l1.1.map (cI .i64))), (16, .err 35 l1.2), (78, .bool x4)], [(0, 0, .int .i64 r1.X1), (0, 1, .int .i64 r1.Y1), (0, 2, .int .i64 r1.X2), (0, 3, .int .i64 r1.Y2)], [], 1⟩) ?_ ?_
          · refine awp_region ?_
            refine rvs 2 rfl ?_
            refine rV rfl (va_ene rfl rfl rfl rfl rfl rfl (fun _ => rfl)) ?_
            refine rv rfl rfl ?_
            refine gs rfl rfl rfl rfl rfl (fun hg => ?_) (fun hg => ?_)
            · have ho15 := cF hg ho15
              refine rv rfl rfl ?_
              refine gy rfl rfl rfl ?_
              refine rv rfl rfl ?_
              refine rv rfl rfl ?_
              refine rn ?_
              cases ho15
              exact cut_n [1] rfl rfl ⟨rfl, rfl, zA rfl rfl rfl (zA rfl rfl rfl (zA rfl rfl rfl (zA rfl rfl rfl (zA rfl rfl rfl (zA rfl rfl rfl (zA rfl rfl rfl (zA rfl rfl rfl (trivial)))))))), zC rfl rfl rfl rfl (zC rfl rfl rfl rfl (zC rfl rfl rfl rfl (zC rfl rfl rfl rfl (trivial)))), trivial⟩
            · have ho15 := cT hg ho15
              refine gn rfl rfl rfl rfl rfl ?_
              refine rv rfl rfl ?_
              refine rn ?_
              cases ho15
              exact cut_n [1] rfl rfl ⟨rfl, rfl, zA rfl rfl rfl (zA rfl rfl rfl (zA rfl rfl rfl (zA rfl rfl rfl (zA rfl rfl rfl (zA rfl rfl rfl (zA rfl rfl rfl (zA rfl rfl rfl (trivial)))))))), zC rfl rfl rfl rfl (zC rfl rfl rfl rfl (zC rfl rfl rfl rfl (zC rfl rfl rfl rfl (trivial)))), trivial⟩
          · rintro x4 rfl
            change awp _ _ _ _ _ ⟨_, _, _, _⟩
            refine cs_ rfl (fun hc => ?_) (fun hc => ?_)
            · have ho13 := cT hc ho13
              refine awp_seq ?_
              refine awp_region ?_
              refine rv rfl rfl ?_
              refine rn ?_
              refine awp_ret ?_
              cases ho13
              have h := ksr h
              subst h
              repeat (first | refine then_ret ?_ | refine inBlock_ret ?_ | refine cut_r ?_)
              exact rr rfl rfl rfl
            · have ho13 := cF hc ho13
              refine awp_skip ?_
              cases ho13
              exact cut_n [0] rfl rfl ⟨rfl, rfl, zA rfl rfl rfl (zA rfl rfl rfl (zA rfl rfl rfl (zA rfl rfl rfl (zA rfl rfl rfl (zA rfl rfl rfl (zA rfl rfl rfl (trivial))))))), zC rfl rfl rfl rfl (zC rfl rfl rfl rfl (zC rfl rfl rfl rfl (zC rfl rfl rfl rfl (trivial)))), trivial⟩
        · have ho13 := cF hc ho13
          refine awp_seq ?_
          obtain ⟨o16, ho17, ho13⟩ := bi ho13
          refine awp_cut1 (fun x => x = o16) (fun (x5 : Bool) => ⟨[(0, .int .i64 s1), (1, .int .i64 brokers1), (7, .ptr 0 0), (9, .bool head1), (12, .bool rect1), (15, .sl (l1.1.map (cI .i64))), (16, .err 35 l1.2), (88, .bool x5)], [(0, 0, .int .i64 r1.X1), (0, 1, .int .i64 r1.Y1), (0, 2, .int .i64 r1.X2), (0, 3, .int .i64 r1.Y2)], [], 1⟩) ?_ ?_
          · refine awp_region ?_
            refine rv rfl rfl ?_
            refine rV rfl (va_ennil rfl rfl rfl) ?_
            refine rv rfl rfl ?_
            refine gs rfl rfl rfl rfl rfl (fun hg => ?_) (fun hg => ?_)
            · have ho17 := cF hg ho17
              refine rv rfl rfl ?_
              refine gy rfl rfl rfl ?_
              refine rv rfl rfl ?_
              refine gy rfl rfl rfl ?_
              refine rv rfl rfl ?_
              refine gy rfl rfl rfl ?_
              refine rv rfl rfl ?_
              refine gy rfl rfl rfl ?_
              obtain ⟨x6, hx18, ho17⟩ := bi ho17
              refine rc1 rfl rfl rfl (dref15_Of_l hx18) ?_
              refine gy rfl rfl rfl ?_
              refine rv rfl rfl ?_
              refine rv rfl rfl ?_
              refine rn ?_
              cases ho17
              exact cut_n [1] rfl rfl ⟨rfl, rfl, zA rfl rfl rfl (zA rfl rfl rfl (zA rfl rfl rfl (zA rfl rfl rfl (zA rfl rfl rfl (zA rfl rfl rfl (zA rfl rfl rfl (zA rfl rfl rfl (trivial)))))))), zC rfl rfl rfl rfl (zC rfl rfl rfl rfl (zC rfl rfl rfl rfl (zC rfl rfl rfl rfl (trivial)))), trivial⟩
            · have ho17 := cT hg ho17
              refine gn rfl rfl rfl rfl rfl ?_
              refine gn rfl rfl rfl rfl rfl ?_
              refine gn rfl rfl rfl rfl rfl ?_
              refine gn rfl rfl rfl rfl rfl ?_
              refine gn rfl rfl rfl rfl rfl ?_
              refine rv rfl rfl ?_
              refine rn ?_
              cases ho17
              exact cut_n [1] rfl rfl ⟨rfl, rfl, zA rfl rfl rfl (zA rfl rfl rfl (zA rfl rfl rfl (zA rfl rfl rfl (zA rfl rfl rfl (zA rfl rfl rfl (zA rfl rfl rfl (zA rfl rfl rfl (trivial)))))))), zC rfl rfl rfl rfl (zC rfl rfl rfl rfl (zC rfl rfl rfl rfl (zC rfl rfl rfl rfl (trivial)))), trivial⟩
          · rintro x5 rfl
            change awp _ _ _ _ _ ⟨_, _, _, _⟩
            refine cs_ rfl (fun hc => ?_) (fun hc => ?_)
            · have ho13 := cT hc ho13
              refine awp_seq ?_
              refine awp_region ?_
              refine rv rfl rfl ?_
              refine rn ?_
              refine awp_ret ?_
              cases ho13
              have h := ksr h
              subst h
              repeat (first | refine then_ret ?_ | refine inBlock_ret ?_ | refine cut_r ?_)
              exact rr rfl rfl rfl
            · have ho13 := cF hc ho13
              refine awp_skip ?_
              cases ho13
              exact cut_n [0] rfl rfl ⟨rfl, rfl, zA rfl rfl rfl (zA rfl rfl rfl (zA rfl rfl rfl (zA rfl rfl rfl (zA rfl rfl rfl (zA rfl rfl rfl (zA rfl rfl rfl (trivial))))))), zC rfl rfl rfl rfl (zC rfl rfl rfl rfl (zC rfl rfl rfl rfl (zC rfl rfl rfl rfl (trivial)))), trivial⟩
      · rintro _ rfl
        have h := ksl h
        change awp _ _ _ _ _ ⟨_, _, _, _⟩
        refine awp_seq ?_
        refine awp_seq ?_
        refine awp_region ?_
        refine rvs 2 rfl ?_
        refine rn ?_
        refine cs_ rfl (fun hc => ?_) (fun hc => ?_)
        · have h := cT hc h
          refine awp_seq ?_
          obtain ⟨o19, ho20, h⟩ := bi h
          refine awp_cut1 (fun x => x = o19) (fun (x7 : Bool) => ⟨[(8, .bool x7)], [], [], 0⟩) ?_ ?_
          · refine awp_region ?_
            refine rvs 2 rfl ?_
            refine gs rfl rfl rfl rfl rfl (fun hg => ?_) (fun hg => ?_)
            · have ho20 := cT hg ho20
              refine rv rfl rfl ?_
              refine gy rfl rfl rfl ?_
              refine rv rfl rfl ?_
              refine gy rfl rfl rfl ?_
              refine rV rfl (va_eeq rfl rfl rfl rfl rfl rfl (fun _ => rfl)) ?_
              refine rvs 2 rfl ?_
              refine gs rfl rfl rfl rfl rfl (fun hg => ?_) (fun hg => ?_)
              · have ho20 := cT hg ho20
                refine rv rfl rfl ?_
                refine gy rfl rfl rfl ?_
                refine rv rfl rfl ?_
                refine rt ((lM (cI .i64) l1.1)) ?_
                refine gy rfl rfl rfl ?_
                refine rv rfl rfl ?_
                refine rvs 2 rfl ?_
                obtain ⟨x8, hx21, ho20⟩ := bs ho20
                refine rt (eb' hx21) ?_
                refine rn ?_
                cases ho20
                exact cut_n [] rfl rfl ⟨rfl, rfl, zA rfl rfl rfl (trivial), trivial, trivial⟩
              · have ho20 := cF hg ho20
                refine gn rfl rfl rfl rfl rfl ?_
                refine gn rfl rfl rfl rfl rfl ?_
                refine rvs 2 rfl ?_
                refine rn ?_
                cases ho20
                exact cut_n [] rfl rfl ⟨rfl, rfl, zA rfl rfl rfl (trivial), trivial, trivial⟩
            · have ho20 := cF hg ho20
              refine gn rfl rfl rfl rfl rfl ?_
              refine gn rfl rfl rfl rfl rfl ?_
              refine rvs 2 rfl ?_
              refine gn rfl rfl rfl rfl rfl ?_
              refine gn rfl rfl rfl rfl rfl ?_
              refine gn rfl rfl rfl rfl rfl ?_
              refine rvs 2 rfl ?_
              refine rn ?_
              cases ho20
              exact cut_n [] rfl rfl ⟨rfl, rfl, zA rfl rfl rfl (trivial), trivial, trivial⟩
          · rintro x7 rfl
            change awp _ _ _ _ _ ⟨_, _, _, _⟩
            refine awp_ret ?_
            cases h
            repeat (first | refine then_ret ?_ | refine inBlock_ret ?_ | refine cut_r ?_)
            exact rr rfl rfl rfl
        · have h := cF hc h
          refine awp_skip ?_
          refine awp_seq ?_
          refine awp_region ?_
          refine rvs 3 rfl ?_
          obtain ⟨want1, hx22, h⟩ := bi h
          refine rc1 rfl rfl rfl (dref15_All_l hx22) ?_
          refine rv rfl rfl ?_
          refine rn ?_
          refine awp_seq ?_
          refine awp_seq ?_
          obtain ⟨o23, ho24, h⟩ := bi h
          refine awp_cut1 (fun x => x = o23) (fun (x9 : Bool) => ⟨[(9, .bool head1), (15, .sl (l1.1.map (cI .i64))), (17, .sl (want1.map (cI .i64))), (114, .bool x9)], [], [], 0⟩) ?_ ?_
          · refine awp_region ?_
            refine rv rfl rfl ?_
            refine rV rfl (va_ennil rfl rfl rfl) ?_
            refine rv rfl rfl ?_
            refine gs rfl rfl rfl rfl rfl (fun hg => ?_) (fun hg => ?_)
            · have ho24 := cF hg ho24
              refine rv rfl rfl ?_
              refine gy rfl rfl rfl ?_
              refine rv rfl rfl ?_
              refine rt ((lM (cI .i64) l1.1)) ?_
              refine gy rfl rfl rfl ?_
              refine rv rfl rfl ?_
              refine gy rfl rfl rfl ?_
              refine rv rfl rfl ?_
              refine rt ((lM (cI .i64) want1)) ?_
              refine gy rfl rfl rfl ?_
              refine rv rfl rfl ?_
              refine rv rfl rfl ?_
              refine rn ?_
              cases ho24
              exact cut_n [] rfl rfl ⟨rfl, rfl, zA rfl rfl rfl (zA rfl rfl rfl (zA rfl rfl rfl (zA rfl rfl rfl (trivial)))), trivial, trivial⟩
            · have ho24 := cT hg ho24
              refine gn rfl rfl rfl rfl rfl ?_
              refine gn rfl rfl rfl rfl rfl ?_
              refine gn rfl rfl rfl rfl rfl ?_
              refine gn rfl rfl rfl rfl rfl ?_
              refine rv rfl rfl ?_
              refine rn ?_
              cases ho24
              exact cut_n [] rfl rfl ⟨rfl, rfl, zA rfl rfl rfl (zA rfl rfl rfl (zA rfl rfl rfl (zA rfl rfl rfl (trivial)))), trivial, trivial⟩
          · rintro x9 rfl
            change awp _ _ _ _ _ ⟨_, _, _, _⟩
            refine cs_ rfl (fun hc => ?_) (fun hc => ?_)
            · have h := cT hc h
              refine awp_seq ?_
              refine awp_region ?_
              refine rv rfl rfl ?_
              refine rn ?_
              refine awp_ret ?_
              cases h
              repeat (first | refine then_ret ?_ | refine inBlock_ret ?_ | refine cut_r ?_)
              exact rr rfl rfl rfl
            · have h := cF hc h
              refine awp_skip ?_
              refine awp_seq ?_
              refine awp_seq ?_
              refine awp_region ?_
              refine rv rfl rfl ?_
              refine rn ?_
              obtain ⟨e25, hl26, h⟩ := bi h
              refine awp_cut1 (fun x => Sum.inl x = e25) (fun (_ : Unit) => ⟨[(9, .bool head1)], [], [], 0⟩) ?_ ?_
              · refine awp_block ?_
                refine awp_loopD hl26 (fun (i1 : Int) => ⟨[(9, .bool head1), (15, .sl (l1.1.map (cI .i64))), (17, .sl (want1.map (cI .i64))), (18, .int .i64 i1)], [], [], 0⟩) [] rfl ⟨rfl, rfl, zA rfl rfl rfl (zA rfl rfl rfl (zA rfl rfl rfl (zA rfl rfl rfl (trivial)))), trivial, trivial⟩ ?_
                intro i1 o29 ho27 hE28
                change awp _ _ _ _ _ ⟨_, _, _, _⟩
                refine awp_seq ?_
                refine awp_seq ?_
                refine awp_region ?_
                refine rvs 2 rfl ?_
                refine rv rfl rfl ?_
                refine rt ((lM (cI .i64) l1.1)) ?_
                refine rv rfl rfl ?_
                refine rn ?_
                refine cs_ rfl (fun hc => ?_) (fun hc => ?_)
                · have ho27 := cT hc ho27
                  refine awp_skip ?_
                  refine awp_seq ?_
                  refine awp_block ?_
                  refine awp_seq ?_
                  refine awp_dp (m := 9) Try.mix (by kernel_rfl) (by kernel_rfl) (by kernel_rfl) (by kernel_rfl) (by kernel_rfl) (by kernel_rfl) (by kernel_rfl) ?_
                  refine dv rfl rfl (fun _ => rfl) ?_
                  refine dv rfl rfl (fun _ => rfl) ?_
                  obtain ⟨x10, hx30, ho27⟩ := bi ho27
                  refine di rfl rfl rfl rfl rfl (fun _ => rfl) rfl (gi0 hx30) (giM (cI .i64) hx30) (wM (fun _ => by rfl) _) ?_
                  refine dv rfl rfl (fun _ => rfl) ?_
                  refine dv rfl rfl (fun _ => rfl) ?_
                  refine dv rfl rfl (fun _ => rfl) ?_
                  obtain ⟨x11, hx31, ho27⟩ := bi ho27
                  refine di rfl rfl rfl rfl rfl (fun _ => rfl) rfl (gi0 hx31) (giM (cI .i64) hx31) (wM (fun _ => by rfl) _) ?_
                  refine dv rfl rfl (fun _ => rfl) ?_
                  refine dv rfl rfl (fun _ => rfl) ?_
                  refine dn ?_
                  refine rn ?_
                  refine cs_ rfl (fun hc => ?_) (fun hc => ?_)
                  · have ho27 := cT hc ho27
                    refine awp_seq ?_
                    refine awp_region ?_
                    refine rv rfl rfl ?_
                    refine rn ?_
                    refine awp_ret ?_
                    cases ho27
                    have hq := hE28 _ rfl
                    subst hq
                    have h := ksr h
                    subst h
                    repeat (first | refine then_ret ?_ | refine inBlock_ret ?_ | refine cut_r ?_)
                    exact rr rfl rfl rfl
                  · have ho27 := cF hc ho27
                    refine awp_skip ?_
                    refine inBlock_normal ?_
                    refine awp_region ?_
                    refine rvs 3 rfl ?_
                    refine rn ?_
                    cases ho27
                    exact lp_n [] rfl rfl ⟨rfl, rfl, zA rfl rfl rfl (zA rfl rfl rfl (zA rfl rfl rfl (zA rfl rfl rfl (trivial)))), trivial, trivial⟩
                · have ho27 := cF hc ho27
                  refine awp_exit ?_
                  repeat (first | refine then_exit ?_ | refine cut_x ?_ | refine inBlock_other rfl ?_)
                  refine inBlock_exit ?_
                  cases ho27
                  have hq := hE28 _ rfl
                  subst hq
                  exact cut_n [] rfl rfl ⟨rfl, rfl, zA rfl rfl rfl (trivial), trivial, trivial⟩
              · rintro _ rfl
                have h := ksl h
                refine awp_seq ?_
                refine awp_region ?_
                refine rvs 2 rfl ?_
                refine rn ?_
                refine awp_ret ?_
                cases h
                repeat (first | refine then_ret ?_ | refine inBlock_ret ?_ | refine cut_r ?_)
                exact rr rfl rfl rfl
end

/-- `plover/ploverlaw18.OwnAmong` -/
def dlaw18_OwnAmong (fu : Nat) (s1 : Int) (brokers1 : Int) (p1 : tPoint) (r1 : tRect) : Option Bool :=
  (dlaw18_up fu ).bind fun head1 => (down_Of fu s1 brokers1 p1).bind fun n1 => (down_All fu s1 brokers1 r1).bind fun l1 => (bif n1.2.isSome then some true else some l1.2.isSome : Option Bool).bind fun (x1 : Bool) => (bif x1 then some head1 else ((loopD (ε := Bool × Int) (τ := Bool ⊕ Bool) (fun (((met1, i1)) : Bool × Int) => (bif (decide (i1 < (l1.1.length : Int))) then ((bif met1 then some true else ((gi l1.1 i1).bind fun met5 => some (met5 == n1.1)) : Option Bool).bind fun (met4 : Bool) => (((gi l1.1 i1).bind fun x3 => bif (decide (x3 < 0)) then some true else ((gi l1.1 i1).bind fun x4 => bif (decide (x4 ≥ brokers1)) then some true else (bif (decide (i1 > 0)) then ((gi l1.1 i1).bind fun x5 => (gi l1.1 (W (i1 - 1))).bind fun x6 => some (decide (x5 ≤ x6))) else some false)) : Option Bool).bind fun (x2 : Bool) => (bif x2 then some (Sum.inr (Sum.inr false)) else some (Sum.inl (met4, W (i1 + 1)))))) else some (Sum.inr (Sum.inl met1)))) fu (false, 0)).bind fun o => kS o fun (met3 : Bool) => ((dref01_In fu r1 p1).bind fun in1 => bif head1 then (bif (decide (n1.1 ≥ 0)) then (bif (decide (n1.1 < brokers1)) then (bif (!in1) then some true else some met3) else some false) else some false) else some false)))
section
attribute [local irreducible] awp aops DP PCall ACall Decidable.decide
theorem dlaw18_OwnAmong_l {fu : Nat} {s1 : Int} {brokers1 : Int} {p1 : tPoint} {r1 : tRect} {r : Bool} (h : dlaw18_OwnAmong fu s1 brokers1 p1 r1 = some r) : PCall Try.prog 14 [.int .i64 s1, .int .i64 brokers1, .agg [.int .i64 p1.X, .int .i64 p1.Y], .agg [.int .i64 r1.X1, .int .i64 r1.Y1, .int .i64 r1.X2, .int .i64 r1.Y2]] (· = .bool r) := by
  rw [dlaw18_OwnAmong] at h
  refine pcall_body Try.func14 rfl (by kernel_rfl) (by rfl) ?_
  refine awp_seq ?_
  refine awp_region ?_
  refine rb rfl rfl ?_
  refine rb rfl rfl ?_
  refine rv rfl rfl ?_
  refine rn ?_
  refine awp_seq ?_
  refine awp_region ?_
  obtain ⟨head1, hx1, h⟩ := bi h
  refine rc1 rfl rfl rfl (dlaw18_up_l hx1) ?_
  refine rv rfl rfl ?_
  refine rn ?_
  refine awp_seq ?_
  refine awp_region ?_
  refine rvs 3 rfl ?_
  obtain ⟨n1, hx2, h⟩ := bi h
  refine rc1 rfl rfl rfl (down_Of_l hx2) ?_
  refine rvs 5 rfl ?_
  refine rn ?_
  refine awp_seq ?_
  refine awp_region ?_
  refine rvs 3 rfl ?_
  obtain ⟨l1, hx3, h⟩ := bi h
  refine rc1 rfl rfl rfl (down_All_l hx3) ?_
  refine rvs 5 rfl ?_
  refine rn ?_
  refine awp_seq ?_
  refine awp_seq ?_
  obtain ⟨o4, ho5, h⟩ := bi h
  refine awp_cut1 (fun x => x = o4) (fun (x1 : Bool) => ⟨[(1, .int .i64 brokers1), (6, .ptr 0 0), (7, .ptr 1 0), (9, .bool head1), (10, .int .i64 n1.1), (12, .sl (l1.1.map (cI .i64))), (37, .bool x1)], [(0, 0, .int .i64 p1.X), (0, 1, .int .i64 p1.Y), (1, 0, .int .i64 r1.X1), (1, 1, .int .i64 r1.Y1), (1, 2, .int .i64 r1.X2), (1, 3, .int .i64 r1.Y2)], [], 2⟩) ?_ ?_
  · refine awp_region ?_
    refine rv rfl rfl ?_
    refine rV rfl (va_ennil rfl rfl rfl) ?_
    refine rv rfl rfl ?_
    refine gs rfl rfl rfl rfl rfl (fun hg => ?_) (fun hg => ?_)
    · have ho5 := cF hg ho5
      refine rv rfl rfl ?_
      refine gy rfl rfl rfl ?_
      refine rV rfl (va_ennil rfl rfl rfl) ?_
      refine rv rfl rfl ?_
      refine rn ?_
      cases ho5
      exact cut_n [0, 1] rfl rfl ⟨rfl, rfl, zA rfl rfl rfl (zA rfl rfl rfl (zA rfl rfl rfl (zA rfl rfl rfl (zA rfl rfl rfl (zA rfl rfl rfl (zA rfl rfl rfl (trivial))))))), zC rfl rfl rfl rfl (zC rfl rfl rfl rfl (zC rfl rfl rfl rfl (zC rfl rfl rfl rfl (zC rfl rfl rfl rfl (zC rfl rfl rfl rfl (trivial)))))), trivial⟩
    · have ho5 := cT hg ho5
      refine gn rfl rfl rfl rfl rfl ?_
      refine rv rfl rfl ?_
      refine rn ?_
      cases ho5
      exact cut_n [0, 1] rfl rfl ⟨rfl, rfl, zA rfl rfl rfl (zA rfl rfl rfl (zA rfl rfl rfl (zA rfl rfl rfl (zA rfl rfl rfl (zA rfl rfl rfl (zA rfl rfl rfl (trivial))))))), zC rfl rfl rfl rfl (zC rfl rfl rfl rfl (zC rfl rfl rfl rfl (zC rfl rfl rfl rfl (zC rfl rfl rfl rfl (zC rfl rfl rfl rfl (trivial)))))), trivial⟩
  · rintro x1 rfl
    change awp _ _ _ _ _ ⟨_, _, _, _⟩
    refine cs_ rfl (fun hc => ?_) (fun hc => ?_)
    · have h := cT hc h
      refine awp_seq ?_
      refine awp_region ?_
      refine rvs 2 rfl ?_
      refine rn ?_
      refine awp_ret ?_
      cases h
      repeat (first | refine then_ret ?_ | refine inBlock_ret ?_ | refine cut_r ?_)
      exact rr rfl rfl rfl
    · have h := cF hc h
      refine awp_skip ?_
      refine awp_seq ?_
      refine awp_region ?_
      refine rv rfl rfl ?_
      refine rn ?_
      refine awp_seq ?_
      refine awp_seq ?_
      refine awp_region ?_
      refine rv rfl rfl ?_
      refine rn ?_
      obtain ⟨e6, hl7, h⟩ := bi h
      refine awp_cut1 (fun x => Sum.inl x = e6) (fun (met3 : Bool) => ⟨[(1, .int .i64 brokers1), (6, .ptr 0 0), (7, .ptr 1 0), (9, .bool head1), (10, .int .i64 n1.1), (14, .bool met3)], [(0, 0, .int .i64 p1.X), (0, 1, .int .i64 p1.Y), (1, 0, .int .i64 r1.X1), (1, 1, .int .i64 r1.Y1), (1, 2, .int .i64 r1.X2), (1, 3, .int .i64 r1.Y2)], [], 2⟩) ?_ ?_
      · refine awp_block ?_
        refine awp_loopD hl7 (fun (((met1, i1)) : Bool × Int) => ⟨[(1, .int .i64 brokers1), (6, .ptr 0 0), (7, .ptr 1 0), (9, .bool head1), (10, .int .i64 n1.1), (12, .sl (l1.1.map (cI .i64))), (14, .bool met1), (15, .int .i64 i1)], [(0, 0, .int .i64 p1.X), (0, 1, .int .i64 p1.Y), (1, 0, .int .i64 r1.X1), (1, 1, .int .i64 r1.Y1), (1, 2, .int .i64 r1.X2), (1, 3, .int .i64 r1.Y2)], [], 2⟩) [0, 1] rfl ⟨rfl, rfl, zA rfl rfl rfl (zA rfl rfl rfl (zA rfl rfl rfl (zA rfl rfl rfl (zA rfl rfl rfl (zA rfl rfl rfl (zA rfl rfl rfl (zA rfl rfl rfl (trivial)))))))), zC rfl rfl rfl rfl (zC rfl rfl rfl rfl (zC rfl rfl rfl rfl (zC rfl rfl rfl rfl (zC rfl rfl rfl rfl (zC rfl rfl rfl rfl (trivial)))))), trivial⟩ ?_
        intro v o10 ho8 hE9
        obtain ⟨met1, i1⟩ := v
        change awp _ _ _ _ _ ⟨_, _, _, _⟩
        refine awp_seq ?_
        refine awp_seq ?_
        refine awp_region ?_
        refine rvs 2 rfl ?_
        refine rv rfl rfl ?_
        refine rt ((lM (cI .i64) l1.1)) ?_
        refine rv rfl rfl ?_
        refine rn ?_
        refine cs_ rfl (fun hc => ?_) (fun hc => ?_)
        · have ho8 := cT hc ho8
          refine awp_skip ?_
          refine awp_seq ?_
          refine awp_block ?_
          refine awp_seq ?_
          obtain ⟨o11, ho12, ho8⟩ := bi ho8
          refine awp_cut1 (fun x => x = o11) (fun (met4 : Bool) => ⟨[(1, .int .i64 brokers1), (6, .ptr 0 0), (7, .ptr 1 0), (9, .bool head1), (10, .int .i64 n1.1), (12, .sl (l1.1.map (cI .i64))), (14, .bool met4), (15, .int .i64 i1)], [(0, 0, .int .i64 p1.X), (0, 1, .int .i64 p1.Y), (1, 0, .int .i64 r1.X1), (1, 1, .int .i64 r1.Y1), (1, 2, .int .i64 r1.X2), (1, 3, .int .i64 r1.Y2)], [], 2⟩) ?_ ?_
          · refine awp_region ?_
            refine rvs 2 rfl ?_
            refine gs rfl rfl rfl rfl rfl (fun hg => ?_) (fun hg => ?_)
            · have ho12 := cF hg ho12
              refine rv rfl rfl ?_
              refine gy rfl rfl rfl ?_
              refine rv rfl rfl ?_
              refine gy rfl rfl rfl ?_
              obtain ⟨met5, hx13, ho12⟩ := bi ho12
              refine ri rfl rfl rfl rfl rfl rfl (gi0 hx13) (giM (cI .i64) hx13) (wM (fun _ => by rfl) _) ?_
              refine gy rfl rfl rfl ?_
              refine rv rfl rfl ?_
              refine gy rfl rfl rfl ?_
              refine rv rfl rfl ?_
              refine gy rfl rfl rfl ?_
              refine rv rfl rfl ?_
              refine rvs 2 rfl ?_
              refine rn ?_
              cases ho12
              exact cut_n [0, 1] rfl rfl ⟨rfl, rfl, zA rfl rfl rfl (zA rfl rfl rfl (zA rfl rfl rfl (zA rfl rfl rfl (zA rfl rfl rfl (zA rfl rfl rfl (zA rfl rfl rfl (zA rfl rfl rfl (trivial)))))))), zC rfl rfl rfl rfl (zC rfl rfl rfl rfl (zC rfl rfl rfl rfl (zC rfl rfl rfl rfl (zC rfl rfl rfl rfl (zC rfl rfl rfl rfl (trivial)))))), trivial⟩
            · have ho12 := cT hg ho12
              refine gn rfl rfl rfl rfl rfl ?_
              refine gn rfl rfl rfl rfl rfl ?_
              refine gn rfl rfl rfl rfl rfl ?_
              refine gn rfl rfl rfl rfl rfl ?_
              refine gn rfl rfl rfl rfl rfl ?_
              refine rvs 2 rfl ?_
              refine rn ?_
              cases ho12
              exact cut_n [0, 1] rfl rfl ⟨rfl, rfl, zA rfl rfl rfl (zA rfl rfl rfl (zA rfl rfl rfl (zA rfl rfl rfl (zA rfl rfl rfl (zA rfl rfl rfl (zA rfl rfl rfl (zA rfl rfl rfl (trivial)))))))), zC rfl rfl rfl rfl (zC rfl rfl rfl rfl (zC rfl rfl rfl rfl (zC rfl rfl rfl rfl (zC rfl rfl rfl rfl (zC rfl rfl rfl rfl (trivial)))))), trivial⟩
          · rintro met4 rfl
            change awp _ _ _ _ _ ⟨_, _, _, _⟩
            refine awp_seq ?_
            obtain ⟨o14, ho15, ho8⟩ := bi ho8
            refine awp_cut1 (fun x => x = o14) (fun (x2 : Bool) => ⟨[(1, .int .i64 brokers1), (6, .ptr 0 0), (7, .ptr 1 0), (9, .bool head1), (10, .int .i64 n1.1), (12, .sl (l1.1.map (cI .i64))), (14, .bool met4), (15, .int .i64 i1), (82, .bool x2)], [(0, 0, .int .i64 p1.X), (0, 1, .int .i64 p1.Y), (1, 0, .int .i64 r1.X1), (1, 1, .int .i64 r1.Y1), (1, 2, .int .i64 r1.X2), (1, 3, .int .i64 r1.Y2)], [], 2⟩) ?_ ?_
            · refine awp_dp (m := 29) Try.mix (by kernel_rfl) (by kernel_rfl) (by kernel_rfl) (by kernel_rfl) (by kernel_rfl) (by kernel_rfl) (by kernel_rfl) ?_
              refine dv rfl rfl (fun _ => rfl) ?_
              refine dv rfl rfl (fun _ => rfl) ?_
              obtain ⟨x3, hx16, ho15⟩ := bi ho15
              refine di rfl rfl rfl rfl rfl (fun _ => rfl) rfl (gi0 hx16) (giM (cI .i64) hx16) (wM (fun _ => by rfl) _) ?_
              refine dv rfl rfl (fun _ => rfl) ?_
              refine dv rfl rfl (fun _ => rfl) ?_
              refine dv rfl rfl (fun _ => rfl) ?_
              refine ds rfl rfl (fun hg => ?_) (fun hg => ?_)
              · have ho15 := cT hg ho15
                refine dno rfl rfl ?_
                refine dno rfl rfl ?_
                refine dno rfl rfl ?_
                refine dno rfl rfl ?_
                refine dno rfl rfl ?_
                refine dno rfl rfl ?_
                refine dv rfl rfl (fun _ => rfl) ?_
                refine dv rfl rfl (fun _ => rfl) ?_
                refine dno rfl rfl ?_
                refine dno rfl rfl ?_
                refine dno rfl rfl ?_
                refine dno rfl rfl ?_
                refine dno rfl rfl ?_
                refine dno rfl rfl ?_
                refine dno rfl rfl ?_
                refine dno rfl rfl ?_
                refine dno rfl rfl ?_
                refine dno rfl rfl ?_
                refine dno rfl rfl ?_
                refine dno rfl rfl ?_
                refine dno rfl rfl ?_
                refine dno rfl rfl ?_
                refine dv rfl rfl (fun _ => rfl) ?_
                refine dn ?_
                refine rn ?_
                cases ho15
                exact cut_n [0, 1] rfl rfl ⟨rfl, rfl, zA rfl rfl rfl (zA rfl rfl rfl (zA rfl rfl rfl (zA rfl rfl rfl (zA rfl rfl rfl (zA rfl rfl rfl (zA rfl rfl rfl (zA rfl rfl rfl (zA rfl rfl rfl (trivial))))))))), zC rfl rfl rfl rfl (zC rfl rfl rfl rfl (zC rfl rfl rfl rfl (zC rfl rfl rfl rfl (zC rfl rfl rfl rfl (zC rfl rfl rfl rfl (trivial)))))), trivial⟩
              · have ho15 := cF hg ho15
                refine dv rfl rfl (fun _ => rfl) ?_
                refine dv rfl rfl (fun _ => rfl) ?_
                obtain ⟨x4, hx17, ho15⟩ := bi ho15
                refine di rfl rfl rfl rfl rfl (fun _ => rfl) rfl (gi0 hx17) (giM (cI .i64) hx17) (wM (fun _ => by rfl) _) ?_
                refine dv rfl rfl (fun _ => rfl) ?_
                refine dv rfl rfl (fun _ => rfl) ?_
                refine dv rfl rfl (fun _ => rfl) ?_
                refine dv rfl rfl (fun _ => rfl) ?_
                refine dv rfl rfl (fun _ => rfl) ?_
                refine ds rfl rfl (fun hg => ?_) (fun hg => ?_)
                · have ho15 := cT hg ho15
                  refine dno rfl rfl ?_
                  refine dno rfl rfl ?_
                  refine dno rfl rfl ?_
                  refine dno rfl rfl ?_
                  refine dno rfl rfl ?_
                  refine dno rfl rfl ?_
                  refine dno rfl rfl ?_
                  refine dno rfl rfl ?_
                  refine dno rfl rfl ?_
                  refine dno rfl rfl ?_
                  refine dno rfl rfl ?_
                  refine dno rfl rfl ?_
                  refine dno rfl rfl ?_
                  refine dno rfl rfl ?_
                  refine dv rfl rfl (fun _ => rfl) ?_
                  refine dn ?_
                  refine rn ?_
                  cases ho15
                  exact cut_n [0, 1] rfl rfl ⟨rfl, rfl, zA rfl rfl rfl (zA rfl rfl rfl (zA rfl rfl rfl (zA rfl rfl rfl (zA rfl rfl rfl (zA rfl rfl rfl (zA rfl rfl rfl (zA rfl rfl rfl (zA rfl rfl rfl (trivial))))))))), zC rfl rfl rfl rfl (zC rfl rfl rfl rfl (zC rfl rfl rfl rfl (zC rfl rfl rfl rfl (zC rfl rfl rfl rfl (zC rfl rfl rfl rfl (trivial)))))), trivial⟩
                · have ho15 := cF hg ho15
                  refine dv rfl rfl (fun _ => rfl) ?_
                  refine dv rfl rfl (fun _ => rfl) ?_
                  refine dv rfl rfl (fun _ => rfl) ?_
                  refine ds rfl rfl (fun hg => ?_) (fun hg => ?_)
                  · have ho15 := cT hg ho15
                    refine dv rfl rfl (fun _ => rfl) ?_
                    refine dv rfl rfl (fun _ => rfl) ?_
                    obtain ⟨x5, hx18, ho15⟩ := bi ho15
                    refine di rfl rfl rfl rfl rfl (fun _ => rfl) rfl (gi0 hx18) (giM (cI .i64) hx18) (wM (fun _ => by rfl) _) ?_
                    refine dv rfl rfl (fun _ => rfl) ?_
                    refine dv rfl rfl (fun _ => rfl) ?_
                    refine dv rfl rfl (fun _ => rfl) ?_
                    refine dv rfl rfl (fun _ => rfl) ?_
                    obtain ⟨x6, hx19, ho15⟩ := bi ho15
                    refine di rfl rfl rfl rfl rfl (fun _ => rfl) rfl (gi0 hx19) (giM (cI .i64) hx19) (wM (fun _ => by rfl) _) ?_
                    refine dv rfl rfl (fun _ => rfl) ?_
                    refine dv rfl rfl (fun _ => rfl) ?_
                    refine dv rfl rfl (fun _ => rfl) ?_
                    refine dv rfl rfl (fun _ => rfl) ?_
                    refine dn ?_
                    refine rn ?_
                    cases ho15
                    exact cut_n [0, 1] rfl rfl ⟨rfl, rfl, zA rfl rfl rfl (zA rfl rfl rfl (zA rfl rfl rfl (zA rfl rfl rfl (zA rfl rfl rfl (zA rfl rfl rfl (zA rfl rfl rfl (zA rfl rfl rfl (zA rfl rfl rfl (trivial))))))))), zC rfl rfl rfl rfl (zC rfl rfl rfl rfl (zC rfl rfl rfl rfl (zC rfl rfl rfl rfl (zC rfl rfl rfl rfl (zC rfl rfl rfl rfl (trivial)))))), trivial⟩
                  · have ho15 := cF hg ho15
                    refine dno rfl rfl ?_
                    refine dno rfl rfl ?_
                    refine dno rfl rfl ?_
                    refine dno rfl rfl ?_
                    refine dno rfl rfl ?_
                    refine dno rfl rfl ?_
                    refine dno rfl rfl ?_
                    refine dno rfl rfl ?_
                    refine dno rfl rfl ?_
                    refine dno rfl rfl ?_
                    refine dv rfl rfl (fun _ => rfl) ?_
                    refine dv rfl rfl (fun _ => rfl) ?_
                    refine dn ?_
                    refine rn ?_
                    cases ho15
                    exact cut_n [0, 1] rfl rfl ⟨rfl, rfl, zA rfl rfl rfl (zA rfl rfl rfl (zA rfl rfl rfl (zA rfl rfl rfl (zA rfl rfl rfl (zA rfl rfl rfl (zA rfl rfl rfl (zA rfl rfl rfl (zA rfl rfl rfl (trivial))))))))), zC rfl rfl rfl rfl (zC rfl rfl rfl rfl (zC rfl rfl rfl rfl (zC rfl rfl rfl rfl (zC rfl rfl rfl rfl (zC rfl rfl rfl rfl (trivial)))))), trivial⟩
            · rintro x2 rfl
              change awp _ _ _ _ _ ⟨_, _, _, _⟩
              refine cs_ rfl (fun hc => ?_) (fun hc => ?_)
              · have ho8 := cT hc ho8
                refine awp_seq ?_
                refine awp_region ?_
                refine rv rfl rfl ?_
                refine rn ?_
                refine awp_ret ?_
                cases ho8
                have hq := hE9 _ rfl
                subst hq
                have h := ksr h
                subst h
                repeat (first | refine then_ret ?_ | refine inBlock_ret ?_ | refine cut_r ?_)
                exact rr rfl rfl rfl
              · have ho8 := cF hc ho8
                refine awp_skip ?_
                refine inBlock_normal ?_
                refine awp_region ?_
                refine rvs 3 rfl ?_
                refine rn ?_
                cases ho8
                exact lp_n [0, 1] rfl rfl ⟨rfl, rfl, zA rfl rfl rfl (zA rfl rfl rfl (zA rfl rfl rfl (zA rfl rfl rfl (zA rfl rfl rfl (zA rfl rfl rfl (zA rfl rfl rfl (zA rfl rfl rfl (trivial)))))))), zC rfl rfl rfl rfl (zC rfl rfl rfl rfl (zC rfl rfl rfl rfl (zC rfl rfl rfl rfl (zC rfl rfl rfl rfl (zC rfl rfl rfl rfl (trivial)))))), trivial⟩
        · have ho8 := cF hc ho8
          refine awp_exit ?_
          repeat (first | refine then_exit ?_ | refine cut_x ?_ | refine inBlock_other rfl ?_)
          refine inBlock_exit ?_
          cases ho8
          have hq := hE9 _ rfl
          subst hq
          exact cut_n [0, 1] rfl rfl ⟨rfl, rfl, zA rfl rfl rfl (zA rfl rfl rfl (zA rfl rfl rfl (zA rfl rfl rfl (zA rfl rfl rfl (zA rfl rfl rfl (trivial)))))), zC rfl rfl rfl rfl (zC rfl rfl rfl rfl (zC rfl rfl rfl rfl (zC rfl rfl rfl rfl (zC rfl rfl rfl rfl (zC rfl rfl rfl rfl (trivial)))))), trivial⟩
      · rintro met3 rfl
        have h := ksl h
        change awp _ _ _ _ _ ⟨_, _, _, _⟩
        refine awp_seq ?_
        refine awp_region ?_
        refine rvs 2 rfl ?_
        obtain ⟨in1, hx20, h⟩ := bi h
        refine rc1 rfl rfl rfl (dref01_In_l hx20) ?_
        refine rv rfl rfl ?_
        refine rn ?_
        refine awp_seq ?_
        refine awp_region ?_
        refine rvs 2 rfl ?_
        refine gs rfl rfl rfl rfl rfl (fun hg => ?_) (fun hg => ?_)
        · have h := cT hg h
          refine rv rfl rfl ?_
          refine gy rfl rfl rfl ?_
          refine rv rfl rfl ?_
          refine rvs 2 rfl ?_
          refine gs rfl rfl rfl rfl rfl (fun hg => ?_) (fun hg => ?_)
          · have h := cT hg h
            refine rv rfl rfl ?_
            refine gy rfl rfl rfl ?_
            refine rv rfl rfl ?_
            refine gy rfl rfl rfl ?_
            refine rv rfl rfl ?_
            refine rvs 2 rfl ?_
            refine gs rfl rfl rfl rfl rfl (fun hg => ?_) (fun hg => ?_)
            · have h := cT hg h
              refine rv rfl rfl ?_
              refine gy rfl rfl rfl ?_
              refine rv rfl rfl ?_
              refine gy rfl rfl rfl ?_
              refine rv rfl rfl ?_
              refine gs rfl rfl rfl rfl rfl (fun hg => ?_) (fun hg => ?_)
              · have h := cF hg h
                refine rv rfl rfl ?_
                refine gy rfl rfl rfl ?_
                refine rv rfl rfl ?_
                refine rvs 2 rfl ?_
                refine rn ?_
                refine awp_ret ?_
                cases h
                repeat (first | refine then_ret ?_ | refine inBlock_ret ?_ | refine cut_r ?_)
                exact rr rfl rfl rfl
              · have h := cT hg h
                refine gy rfl rfl rfl ?_
                refine rv rfl rfl ?_
                refine rvs 2 rfl ?_
                refine rn ?_
                refine awp_ret ?_
                cases h
                repeat (first | refine then_ret ?_ | refine inBlock_ret ?_ | refine cut_r ?_)
                exact rr rfl rfl rfl
            · have h := cF hg h
              refine gn rfl rfl rfl rfl rfl ?_
              refine gn rfl rfl rfl rfl rfl ?_
              refine gu rfl rfl rfl rfl ?_
              refine gn rfl rfl rfl rfl rfl ?_
              refine rvs 2 rfl ?_
              refine rn ?_
              refine awp_ret ?_
              cases h
              repeat (first | refine then_ret ?_ | refine inBlock_ret ?_ | refine cut_r ?_)
              exact rr rfl rfl rfl
          · have h := cF hg h
            refine gn rfl rfl rfl rfl rfl ?_
            refine gn rfl rfl rfl rfl rfl ?_
            refine rvs 2 rfl ?_
            refine gn rfl rfl rfl rfl rfl ?_
            refine gn rfl rfl rfl rfl rfl ?_
            refine gn rfl rfl rfl rfl rfl ?_
            refine gu rfl rfl rfl rfl ?_
            refine gn rfl rfl rfl rfl rfl ?_
            refine rvs 2 rfl ?_
            refine rn ?_
            refine awp_ret ?_
            cases h
            repeat (first | refine then_ret ?_ | refine inBlock_ret ?_ | refine cut_r ?_)
            exact rr rfl rfl rfl
        · have h := cF hg h
          refine gn rfl rfl rfl rfl rfl ?_
          refine rvs 2 rfl ?_
          refine gn rfl rfl rfl rfl rfl ?_
          refine gn rfl rfl rfl rfl rfl ?_
          refine gn rfl rfl rfl rfl rfl ?_
          refine rvs 2 rfl ?_
          refine gn rfl rfl rfl rfl rfl ?_
          refine gn rfl rfl rfl rfl rfl ?_
          refine gn rfl rfl rfl rfl rfl ?_
          refine gu rfl rfl rfl rfl ?_
          refine gn rfl rfl rfl rfl rfl ?_
          refine rvs 2 rfl ?_
          refine rn ?_
          refine awp_ret ?_
          cases h
          repeat (first | refine then_ret ?_ | refine inBlock_ret ?_ | refine cut_r ?_)
          exact rr rfl rfl rfl
end

end Go.Proofs.Ytngeejjllgnpcaa
