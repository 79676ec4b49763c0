/- Plain functions, and walks, printed by a program of this session's. -/
import Derived.Test.YtaekecbadkcggaaD15
import Derived.Test.YtaekecbadkcggaaPwE
namespace Go.Proofs.Ytaekecbadkcggaa
open Go.Pv
set_option maxRecDepth 100000
set_option maxHeartbeats 4000000
set_option linter.unusedSimpArgs false
set_option linter.unusedVariables false
set_option linter.unusedSectionVars false

/-- `plover/ploverlaw15.LinkOnce` -/
def dlaw15_LinkOnce (fu : Nat) (window1 : Int) (data1 : List Str) (d1 : List tlaw15Deed) : Option Bool :=
  (dlaw15_up fu ).bind fun head1 => (dlink_NewSender fu window1).bind fun s1 => match s1 with | (none, s3) => ((dlink_NewReceiver fu ).bind fun r1 => (bif head1 then ((some (false == s3.isNone)).bind fun x2 => some x2) else some false : Option Bool).bind fun (x1 : Bool) => some x1) | (some s2, s3) => ((dlink_NewReceiver fu ).bind fun r2 => (bif s3.isSome then some true else (bif (decide ((data1.length : Int) > 150)) then some true else some (decide ((d1.length : Int) > 300))) : Option Bool).bind fun (x3 : Bool) => (bif x3 then ((bif head1 then ((some (true == s3.isNone)).bind fun x5 => some x5) else some false : Option Bool).bind fun (x4 : Bool) => some x4) else ((loopD (ε := Int × Int × Int × Int × Int × Int × (List Str) × (List tPacket) × (List Str)) (τ := (Int × Int × Int × Int × Int × (List Str) × (List Str)) ⊕ Bool) (fun (((sent1, i1, s4, s5, s6, r3, got1, flight1, l1)) : Int × Int × Int × Int × Int × Int × (List Str) × (List tPacket) × (List Str)) => (bif (decide (i1 < (W ((d1.length : Int) + (data1.length : Int))))) then (((bif (decide (i1 < (data1.length : Int))) then ((gi data1 i1).bind fun f1 => (dlink_Sender_Send fu (tlinkSender.mk s4 l1 s5 s6) f1).bind fun f2 => bif f2.1.isSome then some (Sum.inr (Sum.inr (Sum.inr (Sum.inr false)))) else some (Sum.inl (W (sent1 + 1), f2.2.Window, f2.2.First, f2.2.Next, f2.2.L))) else some (Sum.inl (sent1, s4, s5, s6, l1)) : Option ((Int × Int × Int × Int × (List Str)) ⊕ ((Int × Int × Int × Int × Int × (List Str) × (List tPacket) × (List Str)) ⊕ ((Int × Int × Int × Int × Int × Int × (List Str) × (List tPacket) × (List Str)) ⊕ ((Int × Int × Int × Int × Int × (List Str) × (List Str)) ⊕ Bool))))).bind fun o => kS o fun (((sent5, s16, s17, s18, l5)) : Int × Int × Int × Int × (List Str)) => ((ap [] flight1).bind fun flight4 => (dlink_Sender_Fresh fu (tlinkSender.mk s16 l5 s17 s18)).bind fun flight5 => (ap flight4 flight5.1).bind fun flight6 => (bif (decide (i1 ≥ (d1.length : Int))) then some true else some ((flight6.length : Int) == 0) : Option Bool).bind fun (x6 : Bool) => (bif x6 then some (Sum.inl (sent5, flight5.2.Window, flight5.2.First, flight5.2.Next, r3, got1, flight6, flight5.2.L)) else ((gi d1 i1).bind fun k1 => (dlaw15_pick fu k1.N (flight6.length : Int)).bind fun k2 => (gi flight6 k2).bind fun x7 => (gi d1 i1).bind fun x8 => (dlaw15_pick fu x8.What 5).bind fun x9 => (bif (x9 == 0) then some (x9 == 0) else some (x9 == 1) : Option Bool).bind fun (x10 : Bool) => (bif x10 then ((dlink_Receiver_Take fu (tlinkReceiver.mk r3) x7).bind fun b1 => (bif b1.2.1 then ((ap got1 [b1.1]).bind fun got6 => some got6) else some got1 : Option (List Str)).bind fun (got5 : List Str) => ((gsl flight6 0 k2).bind fun l6 => (ap [] l6).bind fun flight7 => (gsl flight6 (W (k2 + 1)) (flight6.length : Int)).bind fun l7 => (ap flight7 l7).bind fun flight8 => some (Sum.inl (sent5, flight5.2.Window, flight5.2.First, flight5.2.Next, b1.2.2.Want, got5, flight8, flight5.2.L)))) else (bif (x9 == 2) then ((gsl flight6 0 k2).bind fun l8 => (ap [] l8).bind fun flight9 => (gsl flight6 (W (k2 + 1)) (flight6.length : Int)).bind fun l9 => (ap flight9 l9).bind fun flight10 => some (Sum.inl (sent5, flight5.2.Window, flight5.2.First, flight5.2.Next, r3, got1, flight10, flight5.2.L))) else (bif (x9 == 3) then (bif (decide ((flight6.length : Int) < 300)) then ((ap [] flight6).bind fun flight11 => (ap flight11 [x7]).bind fun flight12 => some (Sum.inl (sent5, flight5.2.Window, flight5.2.First, flight5.2.Next, r3, got1, flight12, flight5.2.L))) else some (Sum.inl (sent5, flight5.2.Window, flight5.2.First, flight5.2.Next, r3, got1, flight6, flight5.2.L))) else ((dlink_Receiver_Want fu (tlinkReceiver.mk r3)).bind fun x11 => (dlink_Sender_Ack fu flight5.2 x11.1).bind fun x12 => some (Sum.inl (sent5, x12.Window, x12.First, x12.Next, x11.2.Want, got1, flight6, x12.L))))))))) : Option ((Int × Int × Int × Int × Int × (List Str) × (List tPacket) × (List Str)) ⊕ ((Int × Int × Int × Int × Int × Int × (List Str) × (List tPacket) × (List Str)) ⊕ ((Int × Int × Int × Int × Int × (List Str) × (List Str)) ⊕ Bool)))).bind fun o => kS o fun (((sent4, s13, s14, s15, r6, got4, flight3, l4)) : Int × Int × Int × Int × Int × (List Str) × (List tPacket) × (List Str)) => some (Sum.inl (sent4, W (i1 + 1), s13, s14, s15, r6, got4, flight3, l4))) else some (Sum.inr (Sum.inl (sent1, s4, s5, s6, r3, got1, l1))))) fu (0, 0, s2.Window, s2.First, s2.Next, r2.Want, [], [], s2.L)).bind fun o => kS o fun (((sent3, s10, s11, s12, r5, got3, l3)) : Int × Int × Int × Int × Int × (List Str) × (List Str)) => ((loopD (ε := Int × Int × Int × Int × Int × (List Str) × (List Str)) (τ := Int × Int × Int × (List Str) × (List Str)) (fun (((i3, s19, s20, s21, r7, got7, l10)) : Int × Int × Int × Int × Int × (List Str) × (List Str)) => (bif (decide (i3 < sent3)) then ((dlink_Sender_Fresh fu (tlinkSender.mk s19 l10 s20 s21)).bind fun x13 => (dlink_Sender_Again fu x13.2).bind fun l13 => (loopD (ε := Int × Int × (List Str)) (τ := Int × (List Str)) (fun (((k3, r9, got10)) : Int × Int × (List Str)) => (bif (decide (k3 < (l13.1.length : Int))) then (((gi l13.1 k3).bind fun b2 => (dlink_Receiver_Take fu (tlinkReceiver.mk r9) b2).bind fun b3 => bif b3.2.1 then ((ap got10 [b3.1]).bind fun got14 => some (b3.2.2.Want, got14)) else some (b3.2.2.Want, got10) : Option (Int × (List Str))).bind fun (((r12, got13)) : Int × (List Str)) => some (Sum.inl (W (k3 + 1), r12, got13))) else some (Sum.inr (r9, got10)))) fu (0, r7, got7)).bind fun (((r11, got12)) : Int × (List Str)) => ((dlink_Receiver_Want fu (tlinkReceiver.mk r11)).bind fun x14 => (dlink_Sender_Ack fu l13.2 x14.1).bind fun x15 => some (Sum.inl (W (i3 + 1), x15.Window, x15.First, x15.Next, x14.2.Want, got12, x15.L)))) else some (Sum.inr (s19, s20, s21, got7, l10)))) fu (0, s10, s11, s12, r5, got3, l3)).bind fun (((s25, s26, s27, got9, l12)) : Int × Int × Int × (List Str) × (List Str)) => ((bif ((got9.length : Int) != sent3) then some true else ((dlink_Sender_Len fu (tlinkSender.mk s25 l12 s26 s27)).bind fun x17 => some (x17.1 != 0)) : Option Bool).bind fun (x16 : Bool) => (bif x16 then some false else ((loopD (ε := Int) (τ := Unit ⊕ Bool) (fun (i5 : Int) => (bif (decide (i5 < sent3)) then ((gi got9 i5).bind fun x18 => (gi data1 i5).bind fun x19 => bif (!(x18 == x19)) then some (Sum.inr (Sum.inr false)) else some (Sum.inl (W (i5 + 1)))) else some (Sum.inr (Sum.inl ())))) fu 0).bind fun o => kS o fun (_ : Unit) => some head1)))))))
section
attribute [local irreducible] awp aops DP PCall ACall Decidable.decide
theorem dlaw15_LinkOnce_l {fu : Nat} {window1 : Int} {data1 : List Str} {d1 : List tlaw15Deed} {r : Bool} (h : dlaw15_LinkOnce fu window1 data1 d1 = some r) : PCall Try.prog 4 [.int .i64 window1, .sl (data1.map (cL cU8)), .sl (d1.map c_tlaw15Deed)] (· = .bool r) := by
  rw [dlaw15_LinkOnce] at h
  refine pcall_body Try.func4 rfl (by kernel_rfl) (by rfl) ?_
  refine awp_seq ?_
  refine awp_region ?_
  refine rv rfl rfl ?_
  refine rn ?_
  refine awp_seq ?_
  refine awp_region ?_
  obtain ⟨head1, hx1, h⟩ := bi h
  refine rc1 rfl rfl rfl (dlaw15_up_l hx1) ?_
  refine rv rfl rfl ?_
  refine rn ?_
  refine awp_seq ?_
  refine awp_region ?_
  refine rv rfl rfl ?_
  obtain ⟨s1, hx2, h⟩ := bi h
  obtain ⟨_ | s2, s3⟩ := s1
  · refine rh [] rfl rfl (dlink_NewSender_l hx2) rfl rfl rfl (trivial) (trivial) ?_
    refine ek ?_
    refine as1 rfl ?_
    refine ae rfl rfl rfl ?_
    refine rvs 5 rfl ?_
    refine rn ?_
    refine awp_seq ?_
    refine awp_region ?_
    obtain ⟨r1, hx3, h⟩ := bi h
    refine rh [] rfl rfl (dlink_NewReceiver_l hx3) rfl rfl rfl (trivial) (trivial) ?_
    refine ek ?_
    refine as1 rfl ?_
    refine ae rfl rfl rfl ?_
    refine rv rfl rfl ?_
    refine rn ?_
    refine awp_seq ?_
    refine awp_seq ?_
    refine awp_region ?_
    refine rvs 3 rfl ?_
    refine gn rfl rfl rfl rfl rfl ?_
    refine gn rfl rfl rfl rfl rfl ?_
    refine rvs 2 rfl ?_
    refine gn rfl rfl rfl rfl rfl ?_
    refine gn rfl rfl rfl rfl rfl ?_
    refine rvs 2 rfl ?_
    refine gn rfl rfl rfl rfl rfl ?_
    refine gn rfl rfl rfl rfl rfl ?_
    refine gn rfl rfl rfl rfl rfl ?_
    refine rvs 2 rfl ?_
    refine gn rfl rfl rfl rfl rfl ?_
    refine gn rfl rfl rfl rfl rfl ?_
    refine gn rfl rfl rfl rfl rfl ?_
    refine rv rfl rfl ?_
    refine rn ?_
    refine ct rfl ?_
    refine awp_seq ?_
    obtain ⟨o4, ho5, h⟩ := bi h
    refine awp_cut1 (fun x => x = o4) (fun (x1 : Bool) => ⟨[(6, .bool x1)], [], [], 0⟩) ?_ ?_
    · refine awp_region ?_
      refine rvs 2 rfl ?_
      refine gs rfl rfl rfl rfl rfl (fun hg => ?_) (fun hg => ?_)
      · have ho5 := cT hg ho5
        refine rv rfl rfl ?_
        refine gy rfl rfl rfl ?_
        refine rv rfl rfl ?_
        refine rvs 2 rfl ?_
        refine gy rfl rfl rfl ?_
        refine rv rfl rfl ?_
        refine gy rfl rfl rfl ?_
        refine rv rfl rfl ?_
        refine gy rfl rfl rfl ?_
        refine rv rfl rfl ?_
        refine gy rfl rfl rfl ?_
        refine rV rfl (va_enil rfl rfl rfl) ?_
        refine gy rfl rfl rfl ?_
        refine rv rfl rfl ?_
        refine rvs 2 rfl ?_
        obtain ⟨x2, hx6, ho5⟩ := bs ho5
        refine rt (eb' hx6) ?_
        refine rn ?_
        cases ho5
        exact cut_n [] rfl rfl ⟨rfl, rfl, zA rfl rfl rfl (trivial), trivial, trivial⟩
      · have ho5 := cF hg ho5
        refine gn rfl rfl rfl rfl rfl ?_
        refine rvs 2 rfl ?_
        refine gn rfl rfl rfl rfl rfl ?_
        refine gn rfl rfl rfl rfl rfl ?_
        refine gn rfl rfl rfl rfl rfl ?_
        refine gn rfl rfl rfl rfl rfl ?_
        refine gn rfl rfl rfl rfl rfl ?_
        refine rvs 2 rfl ?_
        refine rn ?_
        cases ho5
        exact cut_n [] rfl rfl ⟨rfl, rfl, zA rfl rfl rfl (trivial), trivial, trivial⟩
    · rintro x1 rfl
      change awp _ _ _ _ _ ⟨_, _, _, _⟩
      refine awp_ret ?_
      cases h
      repeat (first | refine then_ret ?_ | refine inBlock_ret ?_ | refine cut_r ?_)
      exact rr rfl rfl rfl
  · refine rh [] rfl rfl (dlink_NewSender_l hx2) rfl rfl rfl (trivial) (trivial) ?_
    refine ek ?_
    refine as1 rfl ?_
    refine ae rfl rfl rfl ?_
    refine rvs 5 rfl ?_
    refine rn ?_
    refine awp_seq ?_
    refine awp_region ?_
    obtain ⟨r2, hx7, h⟩ := bi h
    refine rh [] rfl rfl (dlink_NewReceiver_l hx7) rfl rfl rfl (trivial) (trivial) ?_
    refine ek ?_
    refine as1 rfl ?_
    refine ae rfl rfl rfl ?_
    refine rv rfl rfl ?_
    refine rn ?_
    refine awp_seq ?_
    refine awp_seq ?_
    obtain ⟨o8, ho9, h⟩ := bi h
    refine awp_cut1 (fun x => x = o8) (fun (x3 : Bool) => ⟨[(1, .sl (data1.map (cL cU8))), (2, .sl (d1.map c_tlaw15Deed)), (7, .bool head1), (8, .ptr 0 0), (9, .err 31 s3), (10, .ptr 1 0), (52, .bool x3)], [(0, 0, .int .i64 s2.Window), (0, 1, .own 2), (0, 2, .int .u64 s2.First), (0, 3, .int .u64 s2.Next), (1, 0, .int .u64 r2.Want)], [(2, .row 1 (s2.L.map (cL cU8)))], 3⟩) ?_ ?_
    · refine awp_region ?_
      refine rvs 3 rfl ?_
      refine gy rfl rfl rfl ?_
      refine rv rfl rfl ?_
      refine gy rfl rfl rfl ?_
      refine rv rfl rfl ?_
      refine rvs 2 rfl ?_
      refine gy rfl rfl rfl ?_
      refine rv rfl rfl ?_
      refine gy rfl rfl rfl ?_
      refine rV rfl (va_ennil rfl rfl rfl) ?_
      refine rvs 2 rfl ?_
      refine gs rfl rfl rfl rfl rfl (fun hg => ?_) (fun hg => ?_)
      · have ho9 := cF hg ho9
        refine rv rfl rfl ?_
        refine gy rfl rfl rfl ?_
        refine rv rfl rfl ?_
        refine rt ((lM (cL cU8) data1)) ?_
        refine gy rfl rfl rfl ?_
        refine rv rfl rfl ?_
        refine rvs 2 rfl ?_
        refine gs rfl rfl rfl rfl rfl (fun hg => ?_) (fun hg => ?_)
        · have ho9 := cF hg ho9
          refine rv rfl rfl ?_
          refine gy rfl rfl rfl ?_
          refine rv rfl rfl ?_
          refine rt ((lM c_tlaw15Deed d1)) ?_
          refine gy rfl rfl rfl ?_
          refine rv rfl rfl ?_
          refine rv rfl rfl ?_
          refine rn ?_
          cases ho9
          exact cut_n [0, 2, 1] rfl rfl ⟨rfl, rfl, zA rfl rfl rfl (zA rfl rfl rfl (zA rfl rfl rfl (zA rfl rfl rfl (zA rfl rfl rfl (zA rfl rfl rfl (zA rfl rfl rfl (trivial))))))), zC rfl rfl rfl rfl (zC rfl rfl rfl rfl (zC rfl rfl rfl rfl (zC rfl rfl rfl rfl (zC rfl rfl rfl rfl (trivial))))), zE rfl .row rfl (trivial)⟩
        · have ho9 := cT hg ho9
          refine gn rfl rfl rfl rfl rfl ?_
          refine gn rfl rfl rfl rfl rfl ?_
          refine rv rfl rfl ?_
          refine rn ?_
          cases ho9
          exact cut_n [0, 2, 1] rfl rfl ⟨rfl, rfl, zA rfl rfl rfl (zA rfl rfl rfl (zA rfl rfl rfl (zA rfl rfl rfl (zA rfl rfl rfl (zA rfl rfl rfl (zA rfl rfl rfl (trivial))))))), zC rfl rfl rfl rfl (zC rfl rfl rfl rfl (zC rfl rfl rfl rfl (zC rfl rfl rfl rfl (zC rfl rfl rfl rfl (trivial))))), zE rfl .row rfl (trivial)⟩
      · have ho9 := cT hg ho9
        refine gn rfl rfl rfl rfl rfl ?_
        refine gn rfl rfl rfl rfl rfl ?_
        refine rvs 2 rfl ?_
        refine gn rfl rfl rfl rfl rfl ?_
        refine gn rfl rfl rfl rfl rfl ?_
        refine gn rfl rfl rfl rfl rfl ?_
        refine rv rfl rfl ?_
        refine rn ?_
        cases ho9
        exact cut_n [0, 2, 1] rfl rfl ⟨rfl, rfl, zA rfl rfl rfl (zA rfl rfl rfl (zA rfl rfl rfl (zA rfl rfl rfl (zA rfl rfl rfl (zA rfl rfl rfl (zA rfl rfl rfl (trivial))))))), zC rfl rfl rfl rfl (zC rfl rfl rfl rfl (zC rfl rfl rfl rfl (zC rfl rfl rfl rfl (zC rfl rfl rfl rfl (trivial))))), zE rfl .row rfl (trivial)⟩
    · rintro x3 rfl
      change awp _ _ _ _ _ ⟨_, _, _, _⟩
      refine cs_ rfl (fun hc => ?_) (fun hc => ?_)
      · have h := cT hc h
        refine awp_seq ?_
        obtain ⟨o10, ho11, h⟩ := bi h
        refine awp_cut1 (fun x => x = o10) (fun (x4 : Bool) => ⟨[(6, .bool x4)], [], [], 0⟩) ?_ ?_
        · refine awp_region ?_
          refine rvs 2 rfl ?_
          refine gs rfl rfl rfl rfl rfl (fun hg => ?_) (fun hg => ?_)
          · have ho11 := cT hg ho11
            refine rv rfl rfl ?_
            refine gy rfl rfl rfl ?_
            refine rv rfl rfl ?_
            refine rvs 2 rfl ?_
            refine gy rfl rfl rfl ?_
            refine rv rfl rfl ?_
            refine gy rfl rfl rfl ?_
            refine rv rfl rfl ?_
            refine gy rfl rfl rfl ?_
            refine rv rfl rfl ?_
            refine gy rfl rfl rfl ?_
            refine rV rfl (va_enil rfl rfl rfl) ?_
            refine gy rfl rfl rfl ?_
            refine rv rfl rfl ?_
            refine rvs 2 rfl ?_
            obtain ⟨x5, hx12, ho11⟩ := bs ho11
            refine rt (eb' hx12) ?_
            refine rn ?_
            cases ho11
            exact cut_n [] rfl rfl ⟨rfl, rfl, zA rfl rfl rfl (trivial), trivial, trivial⟩
          · have ho11 := cF hg ho11
            refine gn rfl rfl rfl rfl rfl ?_
            refine rvs 2 rfl ?_
            refine gn rfl rfl rfl rfl rfl ?_
            refine gn rfl rfl rfl rfl rfl ?_
            refine gn rfl rfl rfl rfl rfl ?_
            refine gn rfl rfl rfl rfl rfl ?_
            refine gn rfl rfl rfl rfl rfl ?_
            refine rvs 2 rfl ?_
            refine rn ?_
            cases ho11
            exact cut_n [] rfl rfl ⟨rfl, rfl, zA rfl rfl rfl (trivial), trivial, trivial⟩
        · rintro x4 rfl
          change awp _ _ _ _ _ ⟨_, _, _, _⟩
          refine awp_ret ?_
          cases h
          repeat (first | refine then_ret ?_ | refine inBlock_ret ?_ | refine cut_r ?_)
          exact rr rfl rfl rfl
      · have h := cF hc h
        refine awp_skip ?_
        refine awp_seq ?_
        refine awp_region ?_
        refine rv rfl rfl ?_
        refine rn ?_
        refine awp_seq ?_
        refine awp_region ?_
        refine rv rfl rfl ?_
        refine rn ?_
        refine awp_seq ?_
        refine awp_region ?_
        refine rv rfl rfl ?_
        refine rn ?_
        refine awp_seq ?_
        refine awp_seq ?_
        refine awp_region ?_
        refine rv rfl rfl ?_
        refine rn ?_
        refine awp_conv (fun _ _ _ _ _ hi => nilS_slot false 1 11 rfl hi) ?_
        refine awp_conv (fun _ _ _ _ _ hi => nilS_slot false 2 12 rfl hi) ?_
        obtain ⟨e13, hl14, h⟩ := bi h
        refine awp_cut1 (fun x => Sum.inl x = e13) (fun (((sent3, s10, s11, s12, r5, got3, l3)) : Int × Int × Int × Int × Int × (List Str) × (List Str)) => ⟨[(1, .sl (data1.map (cL cU8))), (7, .bool head1), (8, .ptr 0 0), (10, .ptr 1 0), (11, .own 2), (13, .int .i64 sent3)], [(0, 0, .int .i64 s10), (0, 1, .own 3), (0, 2, .int .u64 s11), (0, 3, .int .u64 s12), (1, 0, .int .u64 r5)], [(2, .row 1 (got3.map (cL cU8))), (3, .row 1 (l3.map (cL cU8)))], 4⟩) ?_ ?_
        · refine awp_block ?_
          refine awp_loopD hl14 (fun (((sent1, i1, s4, s5, s6, r3, got1, flight1, l1)) : Int × Int × Int × Int × Int × Int × (List Str) × (List tPacket) × (List Str)) => ⟨[(1, .sl (data1.map (cL cU8))), (2, .sl (d1.map c_tlaw15Deed)), (7, .bool head1), (8, .ptr 0 0), (10, .ptr 1 0), (11, .own 2), (12, .own 3), (13, .int .i64 sent1), (14, .int .i64 i1)], [(0, 0, .int .i64 s4), (0, 1, .own 4), (0, 2, .int .u64 s5), (0, 3, .int .u64 s6), (1, 0, .int .u64 r3)], [(2, .row 1 (got1.map (cL cU8))), (3, .row 2 (flight1.map c_tPacket)), (4, .row 1 (l1.map (cL cU8)))], 5⟩) [0, 1, 3, 4, 2] rfl ⟨rfl, rfl, zA rfl rfl rfl (zA rfl rfl rfl (zA rfl rfl rfl (zA rfl rfl rfl (zA rfl rfl rfl (zA rfl rfl rfl (zA rfl rfl rfl (zA rfl rfl rfl (zA rfl rfl rfl (trivial))))))))), zC rfl rfl rfl rfl (zC rfl rfl rfl rfl (zC rfl rfl rfl rfl (zC rfl rfl rfl rfl (zC rfl rfl rfl rfl (trivial))))), zE rfl .row rfl (zE rfl .row rfl (zE rfl .row rfl (trivial)))⟩ ?_
          intro v o17 ho15 hE16
          obtain ⟨sent1, i1, s4, s5, s6, r3, got1, flight1, l1⟩ := v
          change awp _ _ _ _ _ ⟨_, _, _, _⟩
          refine awp_seq ?_
          refine awp_seq ?_
          refine awp_region ?_
          refine rvs 2 rfl ?_
          refine rv rfl rfl ?_
          refine rt ((lM c_tlaw15Deed d1)) ?_
          refine rv rfl rfl ?_
          refine rv rfl rfl ?_
          refine rt ((lM (cL cU8) data1)) ?_
          refine rvs 2 rfl ?_
          refine rn ?_
          refine cs_ rfl (fun hc => ?_) (fun hc => ?_)
          · have ho15 := cT hc ho15
            refine awp_skip ?_
            refine awp_seq ?_
            obtain ⟨o18, ho19, ho15⟩ := bi ho15
            refine awp_cut1 (fun x => Sum.inl x = o18) (fun (((sent4, s13, s14, s15, r6, got4, flight3, l4)) : Int × Int × Int × Int × Int × (List Str) × (List tPacket) × (List Str)) => ⟨[(1, .sl (data1.map (cL cU8))), (2, .sl (d1.map c_tlaw15Deed)), (7, .bool head1), (8, .ptr 0 0), (10, .ptr 1 0), (11, .own 2), (12, .own 3), (13, .int .i64 sent4), (14, .int .i64 i1)], [(0, 0, .int .i64 s13), (0, 1, .own 4), (0, 2, .int .u64 s14), (0, 3, .int .u64 s15), (1, 0, .int .u64 r6)], [(2, .row 1 (got4.map (cL cU8))), (3, .row 2 (flight3.map c_tPacket)), (4, .row 1 (l4.map (cL cU8)))], 5⟩) ?_ ?_
            · refine awp_block ?_
              refine awp_seq ?_
              refine awp_seq ?_
              refine awp_region ?_
              refine rvs 2 rfl ?_
              refine rv rfl rfl ?_
              refine rt ((lM (cL cU8) data1)) ?_
              refine rv rfl rfl ?_
              refine rn ?_
              obtain ⟨o20, ho21, ho19⟩ := bi ho19
              refine awp_cut1 (fun x => Sum.inl x = o20) (fun (((sent5, s16, s17, s18, l5)) : Int × Int × Int × Int × (List Str)) => ⟨[(1, .sl (data1.map (cL cU8))), (2, .sl (d1.map c_tlaw15Deed)), (7, .bool head1), (8, .ptr 0 0), (10, .ptr 1 0), (11, .own 2), (12, .own 3), (13, .int .i64 sent5), (14, .int .i64 i1)], [(0, 0, .int .i64 s16), (0, 1, .own 4), (0, 2, .int .u64 s17), (0, 3, .int .u64 s18), (1, 0, .int .u64 r3)], [(2, .row 1 (got1.map (cL cU8))), (3, .row 2 (flight1.map c_tPacket)), (4, .row 1 (l5.map (cL cU8)))], 5⟩) ?_ ?_
              · refine cs_ rfl (fun hc => ?_) (fun hc => ?_)
                · have ho21 := cT hc ho21
                  refine awp_seq ?_
                  refine awp_region ?_
                  refine rvs 3 rfl ?_
                  obtain ⟨f1, hx22, ho21⟩ := bi ho21
                  refine ri rfl rfl rfl rfl rfl rfl (gi0 hx22) (giM (cL cU8) hx22) (wM (fun _ => by rfl) _) ?_
                  refine rv rfl rfl ?_
                  obtain ⟨f2, hx23, ho21⟩ := bi ho21
                  refine rh [0, 4] rfl rfl (dlink_Sender_Send_l hx23) rfl rfl rfl (zC rfl rfl rfl rfl (zC rfl rfl rfl rfl (zC rfl rfl rfl rfl (zC rfl rfl rfl rfl (trivial))))) (zE rfl .row rfl (trivial)) ?_
                  refine ek ?_
                  refine as1 rfl ?_
                  refine ae rfl rfl rfl ?_
                  refine rv rfl rfl ?_
                  refine rn ?_
                  refine awp_seq ?_
                  refine awp_seq ?_
                  refine awp_region ?_
                  refine rv rfl rfl ?_
                  refine rV rfl (va_ennil rfl rfl rfl) ?_
                  refine rn ?_
                  refine cs_ rfl (fun hc => ?_) (fun hc => ?_)
                  · have ho21 := cT hc ho21
                    refine awp_seq ?_
                    refine awp_region ?_
                    refine rv rfl rfl ?_
                    refine rn ?_
                    refine awp_ret ?_
                    cases ho21
                    have ho19 := ksr ho19
                    subst ho19
                    have ho15 := ksr ho15
                    subst ho15
                    have hq := hE16 _ rfl
                    subst hq
                    have h := ksr h
                    subst h
                    repeat (first | refine then_ret ?_ | refine inBlock_ret ?_ | refine cut_r ?_)
                    exact rr rfl rfl rfl
                  · have ho21 := cF hc ho21
                    refine awp_skip ?_
                    refine awp_region ?_
                    refine rvs 3 rfl ?_
                    refine rn ?_
                    cases ho21
                    exact cut_n [0, 1, 2, 3, 5] rfl rfl ⟨rfl, rfl, zA rfl rfl rfl (zA rfl rfl rfl (zA rfl rfl rfl (zA rfl rfl rfl (zA rfl rfl rfl (zA rfl rfl rfl (zA rfl rfl rfl (zA rfl rfl rfl (zA rfl rfl rfl (trivial))))))))), zC rfl rfl rfl rfl (zC rfl rfl rfl rfl (zC rfl rfl rfl rfl (zC rfl rfl rfl rfl (zC rfl rfl rfl rfl (trivial))))), zE rfl .row rfl (zE rfl .row rfl (zE rfl .row rfl (trivial)))⟩
                · have ho21 := cF hc ho21
                  refine awp_skip ?_
                  cases ho21
                  exact cut_n [0, 1, 2, 3, 4] rfl rfl ⟨rfl, rfl, zA rfl rfl rfl (zA rfl rfl rfl (zA rfl rfl rfl (zA rfl rfl rfl (zA rfl rfl rfl (zA rfl rfl rfl (zA rfl rfl rfl (zA rfl rfl rfl (zA rfl rfl rfl (trivial))))))))), zC rfl rfl rfl rfl (zC rfl rfl rfl rfl (zC rfl rfl rfl rfl (zC rfl rfl rfl rfl (zC rfl rfl rfl rfl (trivial))))), zE rfl .row rfl (zE rfl .row rfl (zE rfl .row rfl (trivial)))⟩
              · rintro ⟨sent5, s16, s17, s18, l5⟩ rfl
                have ho19 := ksl ho19
                change awp _ _ _ _ _ ⟨_, _, _, _⟩
                refine awp_seq ?_
                refine awp_region ?_
                refine rbs false rfl rfl rfl rfl rfl rfl rfl rfl rfl rfl ?_
                refine rv rfl rfl ?_
                obtain ⟨flight4, hx24, ho19⟩ := bi ho19
                refine rap false (xs := [].map c_tPacket) (ys := flight1.map c_tPacket) rfl rfl rfl rfl rfl rfl rfl (.own rfl rfl) (.sl rfl rfl rfl) (wM (fun _ => by rfl) _) (oM (fun _ => by rfl) _) (apB c_tPacket rfl hx24) rfl ?_
                refine rk (congrArg (Kind.row _) (apM c_tPacket hx24)) ?_
                refine rv rfl rfl ?_
                obtain ⟨flight5, hx25, ho19⟩ := bi ho19
                refine rh [0, 4] rfl rfl (dlink_Sender_Fresh_l hx25) rfl rfl rfl (zC rfl rfl rfl rfl (zC rfl rfl rfl rfl (zC rfl rfl rfl rfl (zC rfl rfl rfl rfl (trivial))))) (zE rfl .row rfl (trivial)) ?_
                refine ek ?_
                refine as1 rfl ?_
                refine ae rfl rfl rfl ?_
                obtain ⟨flight6, hx26, ho19⟩ := bi ho19
                refine rap false (xs := flight4.map c_tPacket) (ys := flight5.1.map c_tPacket) rfl rfl rfl rfl rfl rfl rfl (.own rfl rfl) (.sl rfl rfl rfl) (wM (fun _ => by rfl) _) (oM (fun _ => by rfl) _) (apB c_tPacket rfl hx26) rfl ?_
                refine rk (congrArg (Kind.row _) (apM c_tPacket hx26)) ?_
                refine rv rfl rfl ?_
                refine rn ?_
                refine awp_seq ?_
                refine awp_seq ?_
                obtain ⟨o27, ho28, ho19⟩ := bi ho19
                refine awp_cut1 (fun x => x = o27) (fun (x6 : Bool) => ⟨[(1, .sl (data1.map (cL cU8))), (2, .sl (d1.map c_tlaw15Deed)), (7, .bool head1), (8, .ptr 0 0), (10, .ptr 1 0), (11, .own 2), (12, .own 3), (13, .int .i64 sent5), (14, .int .i64 i1), (102, .bool x6)], [(0, 0, .int .i64 flight5.2.Window), (0, 1, .own 4), (0, 2, .int .u64 flight5.2.First), (0, 3, .int .u64 flight5.2.Next), (1, 0, .int .u64 r3)], [(2, .row 1 (got1.map (cL cU8))), (3, .row 2 (flight6.map c_tPacket)), (4, .row 1 (flight5.2.L.map (cL cU8)))], 5⟩) ?_ ?_
                · refine awp_region ?_
                  refine rvs 2 rfl ?_
                  refine rv rfl rfl ?_
                  refine rt ((lM c_tlaw15Deed d1)) ?_
                  refine rvs 2 rfl ?_
                  refine gs rfl rfl rfl rfl rfl (fun hg => ?_) (fun hg => ?_)
                  · have ho28 := cF hg ho28
                    refine rv rfl rfl ?_
                    refine gy rfl rfl rfl ?_
                    refine rv rfl rfl ?_
                    refine rt ((lM c_tPacket flight6)) ?_
                    refine gy rfl rfl rfl ?_
                    refine rv rfl rfl ?_
                    refine rv rfl rfl ?_
                    refine rn ?_
                    cases ho28
                    exact cut_n [0, 1, 2, 8, 7] rfl rfl ⟨rfl, rfl, zA rfl rfl rfl (zA rfl rfl rfl (zA rfl rfl rfl (zA rfl rfl rfl (zA rfl rfl rfl (zA rfl rfl rfl (zA rfl rfl rfl (zA rfl rfl rfl (zA rfl rfl rfl (zA rfl rfl rfl (trivial)))))))))), zC rfl rfl rfl rfl (zC rfl rfl rfl rfl (zC rfl rfl rfl rfl (zC rfl rfl rfl rfl (zC rfl rfl rfl rfl (trivial))))), zE rfl .row rfl (zE rfl .row rfl (zE rfl .row rfl (trivial)))⟩
                  · have ho28 := cT hg ho28
                    refine gn rfl rfl rfl rfl rfl ?_
                    refine gn rfl rfl rfl rfl rfl ?_
                    refine rv rfl rfl ?_
                    refine rn ?_
                    cases ho28
                    exact cut_n [0, 1, 2, 8, 7] rfl rfl ⟨rfl, rfl, zA rfl rfl rfl (zA rfl rfl rfl (zA rfl rfl rfl (zA rfl rfl rfl (zA rfl rfl rfl (zA rfl rfl rfl (zA rfl rfl rfl (zA rfl rfl rfl (zA rfl rfl rfl (zA rfl rfl rfl (trivial)))))))))), zC rfl rfl rfl rfl (zC rfl rfl rfl rfl (zC rfl rfl rfl rfl (zC rfl rfl rfl rfl (zC rfl rfl rfl rfl (trivial))))), zE rfl .row rfl (zE rfl .row rfl (zE rfl .row rfl (trivial)))⟩
                · rintro x6 rfl
                  change awp _ _ _ _ _ ⟨_, _, _, _⟩
                  refine cs_ rfl (fun hc => ?_) (fun hc => ?_)
                  · have ho19 := cT hc ho19
                    refine awp_exit ?_
                    repeat (first | refine then_exit ?_ | refine cut_x ?_ | refine inBlock_other rfl ?_)
                    refine inBlock_exit ?_
                    cases ho19
                    exact cut_n [0, 1, 2, 3, 4] rfl rfl ⟨rfl, rfl, zA rfl rfl rfl (zA rfl rfl rfl (zA rfl rfl rfl (zA rfl rfl rfl (zA rfl rfl rfl (zA rfl rfl rfl (zA rfl rfl rfl (zA rfl rfl rfl (zA rfl rfl rfl (trivial))))))))), zC rfl rfl rfl rfl (zC rfl rfl rfl rfl (zC rfl rfl rfl rfl (zC rfl rfl rfl rfl (zC rfl rfl rfl rfl (trivial))))), zE rfl .row rfl (zE rfl .row rfl (zE rfl .row rfl (trivial)))⟩
                  · have ho19 := cF hc ho19
                    refine awp_skip ?_
                    refine awp_seq ?_
                    refine awp_region ?_
                    refine rvs 2 rfl ?_
                    obtain ⟨k1, hx29, ho19⟩ := bi ho19
                    refine ri rfl rfl rfl rfl rfl rfl (gi0 hx29) (giM c_tlaw15Deed hx29) (wM (fun _ => by rfl) _) ?_
                    refine rvs 3 rfl ?_
                    refine rv rfl rfl ?_
                    refine rt ((lM c_tPacket flight6)) ?_
                    obtain ⟨k2, hx30, ho19⟩ := bi ho19
                    refine rc1 rfl rfl rfl (dlaw15_pick_l hx30) ?_
                    refine rv rfl rfl ?_
                    refine rn ?_
                    refine awp_seq ?_
                    refine awp_region ?_
                    refine rvs 2 rfl ?_
                    obtain ⟨x7, hx31, ho19⟩ := bi ho19
                    refine ri rfl rfl rfl rfl rfl rfl (gi0 hx31) (giM c_tPacket hx31) (wM (fun _ => by rfl) _) ?_
                    refine rv rfl rfl ?_
                    refine ra rfl rfl rfl ?_
                    refine rs rfl rfl rfl rfl rfl rfl rfl ?_
                    refine rn ?_
                    refine awp_seq ?_
                    refine awp_region ?_
                    refine rvs 2 rfl ?_
                    obtain ⟨x8, hx32, ho19⟩ := bi ho19
                    refine ri rfl rfl rfl rfl rfl rfl (gi0 hx32) (giM c_tlaw15Deed hx32) (wM (fun _ => by rfl) _) ?_
                    refine rvs 2 rfl ?_
                    obtain ⟨x9, hx33, ho19⟩ := bi ho19
                    refine rc1 rfl rfl rfl (dlaw15_pick_l hx33) ?_
                    refine rn ?_
                    refine awp_block ?_
                    refine awp_seq ?_
                    refine awp_seq ?_
                    refine awp_region ?_
                    refine rvs 2 rfl ?_
                    refine rn ?_
                    obtain ⟨o34, ho35, ho19⟩ := bi ho19
                    refine awp_cut1 (fun x => x = o34) (fun (x10 : Bool) => ⟨[(1, .sl (data1.map (cL cU8))), (2, .sl (d1.map c_tlaw15Deed)), (7, .bool head1), (8, .ptr 0 0), (10, .ptr 1 0), (11, .own 2), (12, .own 3), (13, .int .i64 sent5), (14, .int .i64 i1), (16, .int .i64 k2), (17, .ptr 4 0), (120, .int .i64 x9), (125, .bool x10)], [(0, 0, .int .i64 flight5.2.Window), (0, 1, .own 5), (0, 2, .int .u64 flight5.2.First), (0, 3, .int .u64 flight5.2.Next), (1, 0, .int .u64 r3), (4, 0, .int .u64 x7.Seq), (4, 1, .sl (x7.Data.map cU8))], [(2, .row 1 (got1.map (cL cU8))), (3, .row 2 (flight6.map c_tPacket)), (5, .row 1 (flight5.2.L.map (cL cU8)))], 6⟩) ?_ ?_
                    · refine cs_ rfl (fun hc => ?_) (fun hc => ?_)
                      · have ho35 := cT hc ho35
                        refine awp_skip ?_
                        cases ho35
                        exact cut_n [0, 1, 2, 3, 5, 4] rfl rfl ⟨rfl, rfl, zA rfl rfl rfl (zA rfl rfl rfl (zA rfl rfl rfl (zA rfl rfl rfl (zA rfl rfl rfl (zA rfl rfl rfl (zA rfl rfl rfl (zA rfl rfl rfl (zA rfl rfl rfl (zA rfl rfl rfl (zA rfl rfl rfl (zA rfl rfl rfl (zA rfl rfl rfl (trivial))))))))))))), zC rfl rfl rfl rfl (zC rfl rfl rfl rfl (zC rfl rfl rfl rfl (zC rfl rfl rfl rfl (zC rfl rfl rfl rfl (zC rfl rfl rfl rfl (zC rfl rfl rfl rfl (trivial))))))), zE rfl .row rfl (zE rfl .row rfl (zE rfl .row rfl (trivial)))⟩
                      · have ho35 := cF hc ho35
                        refine awp_region ?_
                        refine rvs 2 rfl ?_
                        refine rn ?_
                        cases ho35
                        exact cut_n [0, 1, 2, 3, 5, 4] rfl rfl ⟨rfl, rfl, zA rfl rfl rfl (zA rfl rfl rfl (zA rfl rfl rfl (zA rfl rfl rfl (zA rfl rfl rfl (zA rfl rfl rfl (zA rfl rfl rfl (zA rfl rfl rfl (zA rfl rfl rfl (zA rfl rfl rfl (zA rfl rfl rfl (zA rfl rfl rfl (zA rfl rfl rfl (trivial))))))))))))), zC rfl rfl rfl rfl (zC rfl rfl rfl rfl (zC rfl rfl rfl rfl (zC rfl rfl rfl rfl (zC rfl rfl rfl rfl (zC rfl rfl rfl rfl (zC rfl rfl rfl rfl (trivial))))))), zE rfl .row rfl (zE rfl .row rfl (zE rfl .row rfl (trivial)))⟩
                    · rintro x10 rfl
                      change awp _ _ _ _ _ ⟨_, _, _, _⟩
                      refine cs_ rfl (fun hc => ?_) (fun hc => ?_)
                      · have ho19 := cT hc ho19
                        refine awp_seq ?_
                        refine awp_region ?_
                        refine rvs 2 rfl ?_
                        obtain ⟨b1, hx36, ho19⟩ := bi ho19
                        refine rh [1] rfl rfl (dlink_Receiver_Take_l hx36) rfl rfl rfl (zC rfl rfl rfl rfl (trivial)) (trivial) ?_
                        refine ek ?_
                        refine as1 rfl ?_
                        refine ae rfl rfl rfl ?_
                        refine rvs 5 rfl ?_
                        refine rn ?_
                        refine awp_seq ?_
                        refine awp_seq ?_
                        refine awp_region ?_
                        refine rv rfl rfl ?_
                        refine rn ?_
                        obtain ⟨o37, ho38, ho19⟩ := bi ho19
                        refine awp_cut1 (fun x => x = o37) (fun (got5 : List Str) => ⟨[(1, .sl (data1.map (cL cU8))), (2, .sl (d1.map c_tlaw15Deed)), (7, .bool head1), (8, .ptr 0 0), (10, .ptr 1 0), (11, .own 2), (12, .own 3), (13, .int .i64 sent5), (14, .int .i64 i1), (16, .int .i64 k2)], [(0, 0, .int .i64 flight5.2.Window), (0, 1, .own 4), (0, 2, .int .u64 flight5.2.First), (0, 3, .int .u64 flight5.2.Next), (1, 0, .int .u64 b1.2.2.Want)], [(2, .row 1 (got5.map (cL cU8))), (3, .row 2 (flight6.map c_tPacket)), (4, .row 1 (flight5.2.L.map (cL cU8)))], 5⟩) ?_ ?_
                        · refine cs_ rfl (fun hc => ?_) (fun hc => ?_)
                          · have ho38 := cT hc ho38
                            refine awp_region ?_
                            refine rvs 2 rfl ?_
                            refine rbs false rfl rfl rfl rfl rfl rfl rfl rfl rfl rfl ?_
                            obtain ⟨got6, hx39, ho38⟩ := bi ho38
                            refine rap false (xs := got1.map (cL cU8)) (ys := [b1.1].map (cL cU8)) rfl rfl rfl rfl rfl rfl rfl (.own rfl rfl) (.sl rfl rfl rfl) (wM (fun _ => by rfl) _) (oM (fun _ => by rfl) _) (apB (cL cU8) rfl hx39) rfl ?_
                            refine rk (congrArg (Kind.row _) (apM (cL cU8) hx39)) ?_
                            refine rv rfl rfl ?_
                            refine rn ?_
                            cases ho38
                            exact cut_n [0, 1, 7, 3, 5] rfl rfl ⟨rfl, rfl, zA rfl rfl rfl (zA rfl rfl rfl (zA rfl rfl rfl (zA rfl rfl rfl (zA rfl rfl rfl (zA rfl rfl rfl (zA rfl rfl rfl (zA rfl rfl rfl (zA rfl rfl rfl (zA rfl rfl rfl (trivial)))))))))), zC rfl rfl rfl rfl (zC rfl rfl rfl rfl (zC rfl rfl rfl rfl (zC rfl rfl rfl rfl (zC rfl rfl rfl rfl (trivial))))), zE rfl .row rfl (zE rfl .row rfl (zE rfl .row rfl (trivial)))⟩
                          · have ho38 := cF hc ho38
                            refine awp_skip ?_
                            cases ho38
                            exact cut_n [0, 1, 2, 3, 5] rfl rfl ⟨rfl, rfl, zA rfl rfl rfl (zA rfl rfl rfl (zA rfl rfl rfl (zA rfl rfl rfl (zA rfl rfl rfl (zA rfl rfl rfl (zA rfl rfl rfl (zA rfl rfl rfl (zA rfl rfl rfl (zA rfl rfl rfl (trivial)))))))))), zC rfl rfl rfl rfl (zC rfl rfl rfl rfl (zC rfl rfl rfl rfl (zC rfl rfl rfl rfl (zC rfl rfl rfl rfl (trivial))))), zE rfl .row rfl (zE rfl .row rfl (zE rfl .row rfl (trivial)))⟩
                        · rintro got5 rfl
                          change awp _ _ _ _ _ ⟨_, _, _, _⟩
                          refine awp_dx (m := 10) [] Try.mix (by kernel_rfl) (by kernel_rfl) (by kernel_rfl) (by kernel_rfl) (by kernel_rfl) (by kernel_rfl) ?_
                          refine xE [] (.own 5) 6 _ _ rfl rfl (by
                              refine rbs false rfl rfl rfl rfl rfl rfl rfl rfl rfl rfl ?_
                              exact rn ⟨rfl, rfl⟩) (by rfl) (by rfl) (by rfl) ?_
                          refine xv [] rfl rfl (fun _ => rfl) ?_
                          refine xv [] rfl rfl (fun _ => rfl) ?_
                          obtain ⟨l6, hx40, ho19⟩ := bi ho19
                          refine xV [3] rfl rfl (fun _ => va_slsub (c := c_tPacket) rfl rfl rfl rfl rfl ⟨_, rfl⟩ hx40 (fun _ => rfl)) ?_
                          obtain ⟨flight7, hx41, ho19⟩ := bi ho19
                          refine xE [5] (.own 6) 7 _ _ rfl rfl (by
                              refine rap false (xs := [].map c_tPacket) (ys := l6.map c_tPacket) rfl rfl rfl rfl rfl rfl rfl (.own rfl rfl) (.sl rfl rfl rfl) (wM (fun _ => by rfl) _) (oM (fun _ => by rfl) _) (apB c_tPacket rfl hx41) rfl ?_
                              refine rk (congrArg (Kind.row _) (apM c_tPacket hx41)) ?_
                              exact rn ⟨rfl, rfl⟩) (by rfl) (by rfl) (by rfl) ?_
                          refine xv [] rfl rfl (fun _ => rfl) ?_
                          refine xv [] rfl rfl (fun _ => rfl) ?_
                          refine xv [] rfl rfl (fun _ => rfl) ?_
                          obtain ⟨l7, hx42, ho19⟩ := bi ho19
                          refine xV [3] rfl rfl (fun _ => va_slsub (c := c_tPacket) rfl rfl rfl rfl ⟨_, rfl⟩ rfl hx42 (fun _ => rfl)) ?_
                          obtain ⟨flight8, hx43, ho19⟩ := bi ho19
                          refine xE [6] (.own 7) 8 _ _ rfl rfl (by
                              refine rap false (xs := flight7.map c_tPacket) (ys := l7.map c_tPacket) rfl rfl rfl rfl rfl rfl rfl (.own rfl rfl) (.sl rfl rfl rfl) (wM (fun _ => by rfl) _) (oM (fun _ => by rfl) _) (apB c_tPacket rfl hx43) rfl ?_
                              refine rk (congrArg (Kind.row _) (apM c_tPacket hx43)) ?_
                              exact rn ⟨rfl, rfl⟩) (by rfl) (by rfl) (by rfl) ?_
                          refine xn (by kernel_rfl) ?_
                          refine rv rfl rfl ?_
                          refine rn ?_
                          refine inBlock_normal ?_
                          refine inBlock_normal ?_
                          cases ho19
                          exact cut_n [0, 1, 2, 7, 4] rfl rfl ⟨rfl, rfl, zA rfl rfl rfl (zA rfl rfl rfl (zA rfl rfl rfl (zA rfl rfl rfl (zA rfl rfl rfl (zA rfl rfl rfl (zA rfl rfl rfl (zA rfl rfl rfl (zA rfl rfl rfl (trivial))))))))), zC rfl rfl rfl rfl (zC rfl rfl rfl rfl (zC rfl rfl rfl rfl (zC rfl rfl rfl rfl (zC rfl rfl rfl rfl (trivial))))), zE rfl .row rfl (zE rfl .row rfl (zE rfl .row rfl (trivial)))⟩
                      · have ho19 := cF hc ho19
                        refine awp_seq ?_
                        refine awp_region ?_
                        refine rvs 2 rfl ?_
                        refine rn ?_
                        refine cs_ rfl (fun hc => ?_) (fun hc => ?_)
                        · have ho19 := cT hc ho19
                          refine awp_dx (m := 10) [] Try.mix (by kernel_rfl) (by kernel_rfl) (by kernel_rfl) (by kernel_rfl) (by kernel_rfl) (by kernel_rfl) ?_
                          refine xE [] (.own 6) 7 _ _ rfl rfl (by
                              refine rbs false rfl rfl rfl rfl rfl rfl rfl rfl rfl rfl ?_
                              exact rn ⟨rfl, rfl⟩) (by rfl) (by rfl) (by rfl) ?_
                          refine xv [] rfl rfl (fun _ => rfl) ?_
                          refine xv [] rfl rfl (fun _ => rfl) ?_
                          obtain ⟨l8, hx44, ho19⟩ := bi ho19
                          refine xV [3] rfl rfl (fun _ => va_slsub (c := c_tPacket) rfl rfl rfl rfl rfl ⟨_, rfl⟩ hx44 (fun _ => rfl)) ?_
                          obtain ⟨flight9, hx45, ho19⟩ := bi ho19
                          refine xE [6] (.own 7) 8 _ _ rfl rfl (by
                              refine rap false (xs := [].map c_tPacket) (ys := l8.map c_tPacket) rfl rfl rfl rfl rfl rfl rfl (.own rfl rfl) (.sl rfl rfl rfl) (wM (fun _ => by rfl) _) (oM (fun _ => by rfl) _) (apB c_tPacket rfl hx45) rfl ?_
                              refine rk (congrArg (Kind.row _) (apM c_tPacket hx45)) ?_
                              exact rn ⟨rfl, rfl⟩) (by rfl) (by rfl) (by rfl) ?_
                          refine xv [] rfl rfl (fun _ => rfl) ?_
                          refine xv [] rfl rfl (fun _ => rfl) ?_
                          refine xv [] rfl rfl (fun _ => rfl) ?_
                          obtain ⟨l9, hx46, ho19⟩ := bi ho19
                          refine xV [3] rfl rfl (fun _ => va_slsub (c := c_tPacket) rfl rfl rfl rfl ⟨_, rfl⟩ rfl hx46 (fun _ => rfl)) ?_
                          obtain ⟨flight10, hx47, ho19⟩ := bi ho19
                          refine xE [7] (.own 8) 9 _ _ rfl rfl (by
                              refine rap false (xs := flight9.map c_tPacket) (ys := l9.map c_tPacket) rfl rfl rfl rfl rfl rfl rfl (.own rfl rfl) (.sl rfl rfl rfl) (wM (fun _ => by rfl) _) (oM (fun _ => by rfl) _) (apB c_tPacket rfl hx47) rfl ?_
                              refine rk (congrArg (Kind.row _) (apM c_tPacket hx47)) ?_
                              exact rn ⟨rfl, rfl⟩) (by rfl) (by rfl) (by rfl) ?_
                          refine xn (by kernel_rfl) ?_
                          refine rv rfl rfl ?_
                          refine rn ?_
                          refine inBlock_normal ?_
                          refine inBlock_normal ?_
                          cases ho19
                          exact cut_n [0, 1, 2, 8, 5] rfl rfl ⟨rfl, rfl, zA rfl rfl rfl (zA rfl rfl rfl (zA rfl rfl rfl (zA rfl rfl rfl (zA rfl rfl rfl (zA rfl rfl rfl (zA rfl rfl rfl (zA rfl rfl rfl (zA rfl rfl rfl (trivial))))))))), zC rfl rfl rfl rfl (zC rfl rfl rfl rfl (zC rfl rfl rfl rfl (zC rfl rfl rfl rfl (zC rfl rfl rfl rfl (trivial))))), zE rfl .row rfl (zE rfl .row rfl (zE rfl .row rfl (trivial)))⟩
                        · have ho19 := cF hc ho19
                          refine awp_seq ?_
                          refine awp_region ?_
                          refine rvs 2 rfl ?_
                          refine rn ?_
                          refine cs_ rfl (fun hc => ?_) (fun hc => ?_)
                          · have ho19 := cT hc ho19
                            refine awp_seq ?_
                            refine awp_region ?_
                            refine rv rfl rfl ?_
                            refine rv rfl rfl ?_
                            refine rt ((lM c_tPacket flight6)) ?_
                            refine rv rfl rfl ?_
                            refine rn ?_
                            refine cs_ rfl (fun hc => ?_) (fun hc => ?_)
                            · have ho19 := cT hc ho19
                              refine awp_dx (m := 6) [] Try.mix (by kernel_rfl) (by kernel_rfl) (by kernel_rfl) (by kernel_rfl) (by kernel_rfl) (by kernel_rfl) ?_
                              refine xE [] (.own 6) 7 _ _ rfl rfl (by
                                  refine rbs false rfl rfl rfl rfl rfl rfl rfl rfl rfl rfl ?_
                                  exact rn ⟨rfl, rfl⟩) (by rfl) (by rfl) (by rfl) ?_
                              refine xv [] rfl rfl (fun _ => rfl) ?_
                              obtain ⟨flight11, hx48, ho19⟩ := bi ho19
                              refine xE [3, 6] (.own 7) 8 _ _ rfl rfl (by
                                  refine rap false (xs := [].map c_tPacket) (ys := flight6.map c_tPacket) rfl rfl rfl rfl rfl rfl rfl (.own rfl rfl) (.sl rfl rfl rfl) (wM (fun _ => by rfl) _) (oM (fun _ => by rfl) _) (apB c_tPacket rfl hx48) rfl ?_
                                  refine rk (congrArg (Kind.row _) (apM c_tPacket hx48)) ?_
                                  exact rn ⟨rfl, rfl⟩) (by rfl) (by rfl) (by rfl) ?_
                              refine xv [4] rfl rfl (fun _ => rfl) ?_
                              refine xE [] (.own 8) 9 _ _ rfl rfl (by
                                  refine rbs false rfl rfl rfl rfl rfl rfl rfl rfl rfl rfl ?_
                                  exact rn ⟨rfl, rfl⟩) (by rfl) (by rfl) (by rfl) ?_
                              obtain ⟨flight12, hx49, ho19⟩ := bi ho19
                              refine xE [7, 8] (.own 9) 10 _ _ rfl rfl (by
                                  refine rap false (xs := flight11.map c_tPacket) (ys := [x7].map c_tPacket) rfl rfl rfl rfl rfl rfl rfl (.own rfl rfl) (.sl rfl rfl rfl) (wM (fun _ => by rfl) _) (oM (fun _ => by rfl) _) (apB c_tPacket rfl hx49) rfl ?_
                                  refine rk (congrArg (Kind.row _) (apM c_tPacket hx49)) ?_
                                  exact rn ⟨rfl, rfl⟩) (by rfl) (by rfl) (by rfl) ?_
                              refine xn (by kernel_rfl) ?_
                              refine rv rfl rfl ?_
                              refine rn ?_
                              refine inBlock_normal ?_
                              refine inBlock_normal ?_
                              cases ho19
                              exact cut_n [0, 1, 2, 9, 5] rfl rfl ⟨rfl, rfl, zA rfl rfl rfl (zA rfl rfl rfl (zA rfl rfl rfl (zA rfl rfl rfl (zA rfl rfl rfl (zA rfl rfl rfl (zA rfl rfl rfl (zA rfl rfl rfl (zA rfl rfl rfl (trivial))))))))), zC rfl rfl rfl rfl (zC rfl rfl rfl rfl (zC rfl rfl rfl rfl (zC rfl rfl rfl rfl (zC rfl rfl rfl rfl (trivial))))), zE rfl .row rfl (zE rfl .row rfl (zE rfl .row rfl (trivial)))⟩
                            · have ho19 := cF hc ho19
                              refine awp_skip ?_
                              refine inBlock_normal ?_
                              refine inBlock_normal ?_
                              cases ho19
                              exact cut_n [0, 1, 2, 3, 5] rfl rfl ⟨rfl, rfl, zA rfl rfl rfl (zA rfl rfl rfl (zA rfl rfl rfl (zA rfl rfl rfl (zA rfl rfl rfl (zA rfl rfl rfl (zA rfl rfl rfl (zA rfl rfl rfl (zA rfl rfl rfl (trivial))))))))), zC rfl rfl rfl rfl (zC rfl rfl rfl rfl (zC rfl rfl rfl rfl (zC rfl rfl rfl rfl (zC rfl rfl rfl rfl (trivial))))), zE rfl .row rfl (zE rfl .row rfl (zE rfl .row rfl (trivial)))⟩
                          · have ho19 := cF hc ho19
                            refine awp_region ?_
                            refine rvs 2 rfl ?_
                            obtain ⟨x11, hx50, ho19⟩ := bi ho19
                            refine rh [1] rfl rfl (dlink_Receiver_Want_l hx50) rfl rfl rfl (zC rfl rfl rfl rfl (trivial)) (trivial) ?_
                            refine ek ?_
                            refine as1 rfl ?_
                            refine ae rfl rfl rfl ?_
                            obtain ⟨x12, hx51, ho19⟩ := bi ho19
                            refine rh [0, 5] rfl rfl (dlink_Sender_Ack_l hx51) rfl rfl rfl (zC rfl rfl rfl rfl (zC rfl rfl rfl rfl (zC rfl rfl rfl rfl (zC rfl rfl rfl rfl (trivial))))) (zE rfl .row rfl (trivial)) ?_
                            refine ek ?_
                            refine as1 rfl ?_
                            refine ae rfl rfl rfl ?_
                            refine rn ?_
                            refine inBlock_normal ?_
                            refine inBlock_normal ?_
                            cases ho19
                            exact cut_n [0, 1, 2, 3, 6] rfl rfl ⟨rfl, rfl, zA rfl rfl rfl (zA rfl rfl rfl (zA rfl rfl rfl (zA rfl rfl rfl (zA rfl rfl rfl (zA rfl rfl rfl (zA rfl rfl rfl (zA rfl rfl rfl (zA rfl rfl rfl (trivial))))))))), zC rfl rfl rfl rfl (zC rfl rfl rfl rfl (zC rfl rfl rfl rfl (zC rfl rfl rfl rfl (zC rfl rfl rfl rfl (trivial))))), zE rfl .row rfl (zE rfl .row rfl (zE rfl .row rfl (trivial)))⟩
            · rintro ⟨sent4, s13, s14, s15, r6, got4, flight3, l4⟩ rfl
              have ho15 := ksl ho15
              change awp _ _ _ _ _ ⟨_, _, _, _⟩
              refine awp_region ?_
              refine rvs 3 rfl ?_
              refine rn ?_
              cases ho15
              exact lp_n [0, 1, 2, 3, 4] rfl rfl ⟨rfl, rfl, zA rfl rfl rfl (zA rfl rfl rfl (zA rfl rfl rfl (zA rfl rfl rfl (zA rfl rfl rfl (zA rfl rfl rfl (zA rfl rfl rfl (zA rfl rfl rfl (zA rfl rfl rfl (trivial))))))))), zC rfl rfl rfl rfl (zC rfl rfl rfl rfl (zC rfl rfl rfl rfl (zC rfl rfl rfl rfl (zC rfl rfl rfl rfl (trivial))))), zE rfl .row rfl (zE rfl .row rfl (zE rfl .row rfl (trivial)))⟩
          · have ho15 := cF hc ho15
            refine awp_exit ?_
            repeat (first | refine then_exit ?_ | refine cut_x ?_ | refine inBlock_other rfl ?_)
            refine inBlock_exit ?_
            cases ho15
            have hq := hE16 _ rfl
            subst hq
            exact cut_n [0, 1, 2, 4] rfl rfl ⟨rfl, rfl, zA rfl rfl rfl (zA rfl rfl rfl (zA rfl rfl rfl (zA rfl rfl rfl (zA rfl rfl rfl (zA rfl rfl rfl (trivial)))))), zC rfl rfl rfl rfl (zC rfl rfl rfl rfl (zC rfl rfl rfl rfl (zC rfl rfl rfl rfl (zC rfl rfl rfl rfl (trivial))))), zE rfl .row rfl (zE rfl .row rfl (trivial))⟩
        · rintro ⟨sent3, s10, s11, s12, r5, got3, l3⟩ rfl
          have h := ksl h
          change awp _ _ _ _ _ ⟨_, _, _, _⟩
          refine awp_seq ?_
          refine awp_seq ?_
          refine awp_region ?_
          refine rv rfl rfl ?_
          refine rn ?_
          obtain ⟨e52, hl53, h⟩ := bi h
          refine awp_cut1 (fun x => x = e52) (fun (((s25, s26, s27, got9, l12)) : Int × Int × Int × (List Str) × (List Str)) => ⟨[(1, .sl (data1.map (cL cU8))), (7, .bool head1), (8, .ptr 0 0), (11, .own 1), (13, .int .i64 sent3)], [(0, 0, .int .i64 s25), (0, 1, .own 2), (0, 2, .int .u64 s26), (0, 3, .int .u64 s27)], [(1, .row 1 (got9.map (cL cU8))), (2, .row 1 (l12.map (cL cU8)))], 3⟩) ?_ ?_
          · refine awp_block ?_
            refine awp_loopD hl53 (fun (((i3, s19, s20, s21, r7, got7, l10)) : Int × Int × Int × Int × Int × (List Str) × (List Str)) => ⟨[(1, .sl (data1.map (cL cU8))), (7, .bool head1), (8, .ptr 0 0), (10, .ptr 1 0), (11, .own 2), (13, .int .i64 sent3), (20, .int .i64 i3)], [(0, 0, .int .i64 s19), (0, 1, .own 3), (0, 2, .int .u64 s20), (0, 3, .int .u64 s21), (1, 0, .int .u64 r7)], [(2, .row 1 (got7.map (cL cU8))), (3, .row 1 (l10.map (cL cU8)))], 4⟩) [0, 1, 2, 3] rfl ⟨rfl, rfl, zA rfl rfl rfl (zA rfl rfl rfl (zA rfl rfl rfl (zA rfl rfl rfl (zA rfl rfl rfl (zA rfl rfl rfl (zA rfl rfl rfl (trivial))))))), zC rfl rfl rfl rfl (zC rfl rfl rfl rfl (zC rfl rfl rfl rfl (zC rfl rfl rfl rfl (zC rfl rfl rfl rfl (trivial))))), zE rfl .row rfl (zE rfl .row rfl (trivial))⟩ ?_
            intro v o56 ho54 hE55
            obtain ⟨i3, s19, s20, s21, r7, got7, l10⟩ := v
            change awp _ _ _ _ _ ⟨_, _, _, _⟩
            refine awp_seq ?_
            refine awp_seq ?_
            refine awp_region ?_
            refine rvs 3 rfl ?_
            refine rn ?_
            refine cs_ rfl (fun hc => ?_) (fun hc => ?_)
            · have ho54 := cT hc ho54
              refine awp_skip ?_
              refine awp_seq ?_
              refine awp_block ?_
              refine awp_seq ?_
              refine awp_region ?_
              refine rv rfl rfl ?_
              obtain ⟨x13, hx57, ho54⟩ := bi ho54
              refine rh [0, 3] rfl rfl (dlink_Sender_Fresh_l hx57) rfl rfl rfl (zC rfl rfl rfl rfl (zC rfl rfl rfl rfl (zC rfl rfl rfl rfl (zC rfl rfl rfl rfl (trivial))))) (zE rfl .row rfl (trivial)) ?_
              refine ek ?_
              refine as1 rfl ?_
              refine ae rfl rfl rfl ?_
              refine rn ?_
              refine awp_seq ?_
              refine awp_region ?_
              refine rv rfl rfl ?_
              obtain ⟨l13, hx58, ho54⟩ := bi ho54
              refine rh [0, 4] rfl rfl (dlink_Sender_Again_l hx58) rfl rfl rfl (zC rfl rfl rfl rfl (zC rfl rfl rfl rfl (zC rfl rfl rfl rfl (zC rfl rfl rfl rfl (trivial))))) (zE rfl .row rfl (trivial)) ?_
              refine ek ?_
              refine as1 rfl ?_
              refine ae rfl rfl rfl ?_
              refine rv rfl rfl ?_
              refine rn ?_
              refine awp_seq ?_
              refine awp_seq ?_
              refine awp_region ?_
              refine rv rfl rfl ?_
              refine rn ?_
              obtain ⟨e59, hl60, ho54⟩ := bi ho54
              refine awp_cut1 (fun x => x = e59) (fun (((r11, got12)) : Int × (List Str)) => ⟨[(1, .sl (data1.map (cL cU8))), (7, .bool head1), (8, .ptr 0 0), (10, .ptr 1 0), (11, .own 2), (13, .int .i64 sent3), (20, .int .i64 i3)], [(0, 0, .int .i64 l13.2.Window), (0, 1, .own 3), (0, 2, .int .u64 l13.2.First), (0, 3, .int .u64 l13.2.Next), (1, 0, .int .u64 r11)], [(2, .row 1 (got12.map (cL cU8))), (3, .row 1 (l13.2.L.map (cL cU8)))], 4⟩) ?_ ?_
              · refine awp_block ?_
                refine awp_loopD hl60 (fun (((k3, r9, got10)) : Int × Int × (List Str)) => ⟨[(1, .sl (data1.map (cL cU8))), (7, .bool head1), (8, .ptr 0 0), (10, .ptr 1 0), (11, .own 2), (13, .int .i64 sent3), (20, .int .i64 i3), (21, .sl (l13.1.map c_tPacket)), (22, .int .i64 k3)], [(0, 0, .int .i64 l13.2.Window), (0, 1, .own 3), (0, 2, .int .u64 l13.2.First), (0, 3, .int .u64 l13.2.Next), (1, 0, .int .u64 r9)], [(2, .row 1 (got10.map (cL cU8))), (3, .row 1 (l13.2.L.map (cL cU8)))], 4⟩) [0, 1, 2, 5] rfl ⟨rfl, rfl, zA rfl rfl rfl (zA rfl rfl rfl (zA rfl rfl rfl (zA rfl rfl rfl (zA rfl rfl rfl (zA rfl rfl rfl (zA rfl rfl rfl (zA rfl rfl rfl (zA rfl rfl rfl (trivial))))))))), zC rfl rfl rfl rfl (zC rfl rfl rfl rfl (zC rfl rfl rfl rfl (zC rfl rfl rfl rfl (zC rfl rfl rfl rfl (trivial))))), zE rfl .row rfl (zE rfl .row rfl (trivial))⟩ ?_
                intro v o63 ho61 hE62
                obtain ⟨k3, r9, got10⟩ := v
                change awp _ _ _ _ _ ⟨_, _, _, _⟩
                refine awp_seq ?_
                refine awp_seq ?_
                refine awp_region ?_
                refine rvs 2 rfl ?_
                refine rv rfl rfl ?_
                refine rt ((lM c_tPacket l13.1)) ?_
                refine rv rfl rfl ?_
                refine rn ?_
                refine cs_ rfl (fun hc => ?_) (fun hc => ?_)
                · have ho61 := cT hc ho61
                  refine awp_skip ?_
                  refine awp_seq ?_
                  obtain ⟨o64, ho65, ho61⟩ := bi ho61
                  refine awp_cut1 (fun x => x = o64) (fun (((r12, got13)) : Int × (List Str)) => ⟨[(1, .sl (data1.map (cL cU8))), (7, .bool head1), (8, .ptr 0 0), (10, .ptr 1 0), (11, .own 2), (13, .int .i64 sent3), (20, .int .i64 i3), (21, .sl (l13.1.map c_tPacket)), (22, .int .i64 k3)], [(0, 0, .int .i64 l13.2.Window), (0, 1, .own 3), (0, 2, .int .u64 l13.2.First), (0, 3, .int .u64 l13.2.Next), (1, 0, .int .u64 r12)], [(2, .row 1 (got13.map (cL cU8))), (3, .row 1 (l13.2.L.map (cL cU8)))], 4⟩) ?_ ?_
                  · refine awp_block ?_
                    refine awp_seq ?_
                    refine awp_region ?_
                    refine rvs 3 rfl ?_
                    obtain ⟨b2, hx66, ho65⟩ := bi ho65
                    refine ri rfl rfl rfl rfl rfl rfl (gi0 hx66) (giM c_tPacket hx66) (wM (fun _ => by rfl) _) ?_
                    refine rv rfl rfl ?_
                    obtain ⟨b3, hx67, ho65⟩ := bi ho65
                    refine rh [1] rfl rfl (dlink_Receiver_Take_l hx67) rfl rfl rfl (zC rfl rfl rfl rfl (trivial)) (trivial) ?_
                    refine ek ?_
                    refine as1 rfl ?_
                    refine ae rfl rfl rfl ?_
                    refine rvs 5 rfl ?_
                    refine rn ?_
                    refine awp_seq ?_
                    refine awp_region ?_
                    refine rv rfl rfl ?_
                    refine rn ?_
                    refine cs_ rfl (fun hc => ?_) (fun hc => ?_)
                    · have ho65 := cT hc ho65
                      refine awp_region ?_
                      refine rvs 2 rfl ?_
                      refine rbs false rfl rfl rfl rfl rfl rfl rfl rfl rfl rfl ?_
                      obtain ⟨got14, hx68, ho65⟩ := bi ho65
                      refine rap false (xs := got10.map (cL cU8)) (ys := [b3.1].map (cL cU8)) rfl rfl rfl rfl rfl rfl rfl (.own rfl rfl) (.sl rfl rfl rfl) (wM (fun _ => by rfl) _) (oM (fun _ => by rfl) _) (apB (cL cU8) rfl hx68) rfl ?_
                      refine rk (congrArg (Kind.row _) (apM (cL cU8) hx68)) ?_
                      refine rv rfl rfl ?_
                      refine rn ?_
                      refine inBlock_normal ?_
                      cases ho65
                      exact cut_n [0, 1, 5, 3] rfl rfl ⟨rfl, rfl, zA rfl rfl rfl (zA rfl rfl rfl (zA rfl rfl rfl (zA rfl rfl rfl (zA rfl rfl rfl (zA rfl rfl rfl (zA rfl rfl rfl (zA rfl rfl rfl (zA rfl rfl rfl (trivial))))))))), zC rfl rfl rfl rfl (zC rfl rfl rfl rfl (zC rfl rfl rfl rfl (zC rfl rfl rfl rfl (zC rfl rfl rfl rfl (trivial))))), zE rfl .row rfl (zE rfl .row rfl (trivial))⟩
                    · have ho65 := cF hc ho65
                      refine awp_skip ?_
                      refine inBlock_normal ?_
                      cases ho65
                      exact cut_n [0, 1, 2, 3] rfl rfl ⟨rfl, rfl, zA rfl rfl rfl (zA rfl rfl rfl (zA rfl rfl rfl (zA rfl rfl rfl (zA rfl rfl rfl (zA rfl rfl rfl (zA rfl rfl rfl (zA rfl rfl rfl (zA rfl rfl rfl (trivial))))))))), zC rfl rfl rfl rfl (zC rfl rfl rfl rfl (zC rfl rfl rfl rfl (zC rfl rfl rfl rfl (zC rfl rfl rfl rfl (trivial))))), zE rfl .row rfl (zE rfl .row rfl (trivial))⟩
                  · rintro ⟨r12, got13⟩ rfl
                    change awp _ _ _ _ _ ⟨_, _, _, _⟩
                    refine awp_region ?_
                    refine rvs 3 rfl ?_
                    refine rn ?_
                    cases ho61
                    exact lp_n [0, 1, 2, 3] rfl rfl ⟨rfl, rfl, zA rfl rfl rfl (zA rfl rfl rfl (zA rfl rfl rfl (zA rfl rfl rfl (zA rfl rfl rfl (zA rfl rfl rfl (zA rfl rfl rfl (zA rfl rfl rfl (zA rfl rfl rfl (trivial))))))))), zC rfl rfl rfl rfl (zC rfl rfl rfl rfl (zC rfl rfl rfl rfl (zC rfl rfl rfl rfl (zC rfl rfl rfl rfl (trivial))))), zE rfl .row rfl (zE rfl .row rfl (trivial))⟩
                · have ho61 := cF hc ho61
                  refine awp_exit ?_
                  repeat (first | refine then_exit ?_ | refine cut_x ?_ | refine inBlock_other rfl ?_)
                  refine inBlock_exit ?_
                  cases ho61
                  have hq := hE62 _ rfl
                  subst hq
                  exact cut_n [0, 1, 2, 3] rfl rfl ⟨rfl, rfl, zA rfl rfl rfl (zA rfl rfl rfl (zA rfl rfl rfl (zA rfl rfl rfl (zA rfl rfl rfl (zA rfl rfl rfl (zA rfl rfl rfl (trivial))))))), zC rfl rfl rfl rfl (zC rfl rfl rfl rfl (zC rfl rfl rfl rfl (zC rfl rfl rfl rfl (zC rfl rfl rfl rfl (trivial))))), zE rfl .row rfl (zE rfl .row rfl (trivial))⟩
              · rintro ⟨r11, got12⟩ rfl
                change awp _ _ _ _ _ ⟨_, _, _, _⟩
                refine awp_region ?_
                refine rvs 2 rfl ?_
                obtain ⟨x14, hx69, ho54⟩ := bi ho54
                refine rh [1] rfl rfl (dlink_Receiver_Want_l hx69) rfl rfl rfl (zC rfl rfl rfl rfl (trivial)) (trivial) ?_
                refine ek ?_
                refine as1 rfl ?_
                refine ae rfl rfl rfl ?_
                obtain ⟨x15, hx70, ho54⟩ := bi ho54
                refine rh [0, 3] rfl rfl (dlink_Sender_Ack_l hx70) rfl rfl rfl (zC rfl rfl rfl rfl (zC rfl rfl rfl rfl (zC rfl rfl rfl rfl (zC rfl rfl rfl rfl (trivial))))) (zE rfl .row rfl (trivial)) ?_
                refine ek ?_
                refine as1 rfl ?_
                refine ae rfl rfl rfl ?_
                refine rn ?_
                refine inBlock_normal ?_
                refine awp_region ?_
                refine rvs 3 rfl ?_
                refine rn ?_
                cases ho54
                exact lp_n [0, 1, 2, 4] rfl rfl ⟨rfl, rfl, zA rfl rfl rfl (zA rfl rfl rfl (zA rfl rfl rfl (zA rfl rfl rfl (zA rfl rfl rfl (zA rfl rfl rfl (zA rfl rfl rfl (trivial))))))), zC rfl rfl rfl rfl (zC rfl rfl rfl rfl (zC rfl rfl rfl rfl (zC rfl rfl rfl rfl (zC rfl rfl rfl rfl (trivial))))), zE rfl .row rfl (zE rfl .row rfl (trivial))⟩
            · have ho54 := cF hc ho54
              refine awp_exit ?_
              repeat (first | refine then_exit ?_ | refine cut_x ?_ | refine inBlock_other rfl ?_)
              refine inBlock_exit ?_
              cases ho54
              have hq := hE55 _ rfl
              subst hq
              exact cut_n [0, 2, 3] rfl rfl ⟨rfl, rfl, zA rfl rfl rfl (zA rfl rfl rfl (zA rfl rfl rfl (zA rfl rfl rfl (zA rfl rfl rfl (trivial))))), zC rfl rfl rfl rfl (zC rfl rfl rfl rfl (zC rfl rfl rfl rfl (zC rfl rfl rfl rfl (trivial)))), zE rfl .row rfl (zE rfl .row rfl (trivial))⟩
          · rintro ⟨s25, s26, s27, got9, l12⟩ rfl
            change awp _ _ _ _ _ ⟨_, _, _, _⟩
            refine awp_seq ?_
            refine awp_seq ?_
            obtain ⟨o71, ho72, h⟩ := bi h
            refine awp_cut1 (fun x => x = o71) (fun (x16 : Bool) => ⟨[(1, .sl (data1.map (cL cU8))), (7, .bool head1), (11, .own 0), (13, .int .i64 sent3), (213, .bool x16)], [], [(0, .row 1 (got9.map (cL cU8)))], 1⟩) ?_ ?_
            · refine awp_region ?_
              refine rv rfl rfl ?_
              refine rv rfl rfl ?_
              refine rt ((lM (cL cU8) got9)) ?_
              refine rvs 3 rfl ?_
              refine gs rfl rfl rfl rfl rfl (fun hg => ?_) (fun hg => ?_)
              · have ho72 := cF hg ho72
                refine rv rfl rfl ?_
                refine gy rfl rfl rfl ?_
                obtain ⟨x17, hx73, ho72⟩ := bi ho72
                refine rh [0, 2] rfl rfl (dlink_Sender_Len_l hx73) rfl rfl rfl (zC rfl rfl rfl rfl (zC rfl rfl rfl rfl (zC rfl rfl rfl rfl (zC rfl rfl rfl rfl (trivial))))) (zE rfl .row rfl (trivial)) ?_
                refine ek ?_
                refine as1 rfl ?_
                refine ae rfl rfl rfl ?_
                refine gy rfl rfl rfl ?_
                refine rv rfl rfl ?_
                refine rv rfl rfl ?_
                refine rn ?_
                cases ho72
                exact cut_n [1] rfl rfl ⟨rfl, rfl, zA rfl rfl rfl (zA rfl rfl rfl (zA rfl rfl rfl (zA rfl rfl rfl (zA rfl rfl rfl (trivial))))), trivial, zE rfl .row rfl (trivial)⟩
              · have ho72 := cT hg ho72
                refine gn rfl rfl rfl rfl rfl ?_
                refine gn rfl rfl rfl rfl rfl ?_
                refine rv rfl rfl ?_
                refine rn ?_
                cases ho72
                exact cut_n [1] rfl rfl ⟨rfl, rfl, zA rfl rfl rfl (zA rfl rfl rfl (zA rfl rfl rfl (zA rfl rfl rfl (zA rfl rfl rfl (trivial))))), trivial, zE rfl .row rfl (trivial)⟩
            · rintro x16 rfl
              change awp _ _ _ _ _ ⟨_, _, _, _⟩
              refine cs_ rfl (fun hc => ?_) (fun hc => ?_)
              · have h := cT hc h
                refine awp_seq ?_
                refine awp_region ?_
                refine rv rfl rfl ?_
                refine rn ?_
                refine awp_ret ?_
                cases h
                repeat (first | refine then_ret ?_ | refine inBlock_ret ?_ | refine cut_r ?_)
                exact rr rfl rfl rfl
              · have h := cF hc h
                refine awp_skip ?_
                refine awp_seq ?_
                refine awp_seq ?_
                refine awp_region ?_
                refine rv rfl rfl ?_
                refine rn ?_
                obtain ⟨e74, hl75, h⟩ := bi h
                refine awp_cut1 (fun x => Sum.inl x = e74) (fun (_ : Unit) => ⟨[(7, .bool head1)], [], [], 0⟩) ?_ ?_
                · refine awp_block ?_
                  refine awp_loopD hl75 (fun (i5 : Int) => ⟨[(1, .sl (data1.map (cL cU8))), (7, .bool head1), (11, .own 0), (13, .int .i64 sent3), (25, .int .i64 i5)], [], [(0, .row 1 (got9.map (cL cU8)))], 1⟩) [0] rfl ⟨rfl, rfl, zA rfl rfl rfl (zA rfl rfl rfl (zA rfl rfl rfl (zA rfl rfl rfl (zA rfl rfl rfl (trivial))))), trivial, zE rfl .row rfl (trivial)⟩ ?_
                  intro i5 o78 ho76 hE77
                  change awp _ _ _ _ _ ⟨_, _, _, _⟩
                  refine awp_seq ?_
                  refine awp_seq ?_
                  refine awp_region ?_
                  refine rvs 3 rfl ?_
                  refine rn ?_
                  refine cs_ rfl (fun hc => ?_) (fun hc => ?_)
                  · have ho76 := cT hc ho76
                    refine awp_skip ?_
                    refine awp_seq ?_
                    refine awp_block ?_
                    refine awp_seq ?_
                    refine awp_dp (m := 11) Try.mix (by kernel_rfl) (by kernel_rfl) (by kernel_rfl) (by kernel_rfl) (by kernel_rfl) (by kernel_rfl) (by kernel_rfl) ?_
                    refine dv rfl rfl (fun _ => rfl) ?_
                    refine dv rfl rfl (fun _ => rfl) ?_
                    obtain ⟨x18, hx79, ho76⟩ := bi ho76
                    refine di rfl rfl rfl rfl rfl (fun _ => rfl) rfl (gi0 hx79) (giM (cL cU8) hx79) (wM (fun _ => by rfl) _) ?_
                    refine dv rfl rfl (fun _ => rfl) ?_
                    refine dV rfl rfl (fun _ => va_textS (l := x18) rfl rfl rfl rfl rfl rfl rfl rfl) ?_
                    refine dv rfl rfl (fun _ => rfl) ?_
                    refine dv rfl rfl (fun _ => rfl) ?_
                    obtain ⟨x19, hx80, ho76⟩ := bi ho76
                    refine di rfl rfl rfl rfl rfl (fun _ => rfl) rfl (gi0 hx80) (giM (cL cU8) hx80) (wM (fun _ => by rfl) _) ?_
                    refine dv rfl rfl (fun _ => rfl) ?_
                    refine dV rfl rfl (fun _ => va_textS (l := x19) rfl rfl rfl rfl rfl rfl rfl rfl) ?_
                    refine dv rfl rfl (fun _ => rfl) ?_
                    refine dt (sNe x18 x19) ?_
                    refine dn ?_
                    refine rn ?_
                    refine cs_ rfl (fun hc => ?_) (fun hc => ?_)
                    · have ho76 := cT hc ho76
                      refine awp_seq ?_
                      refine awp_region ?_
                      refine rv rfl rfl ?_
                      refine rn ?_
                      refine awp_ret ?_
                      cases ho76
                      have hq := hE77 _ rfl
                      subst hq
                      have h := ksr h
                      subst h
                      repeat (first | refine then_ret ?_ | refine inBlock_ret ?_ | refine cut_r ?_)
                      exact rr rfl rfl rfl
                    · have ho76 := cF hc ho76
                      refine awp_skip ?_
                      refine inBlock_normal ?_
                      refine awp_region ?_
                      refine rvs 3 rfl ?_
                      refine rn ?_
                      cases ho76
                      exact lp_n [0] rfl rfl ⟨rfl, rfl, zA rfl rfl rfl (zA rfl rfl rfl (zA rfl rfl rfl (zA rfl rfl rfl (zA rfl rfl rfl (trivial))))), trivial, zE rfl .row rfl (trivial)⟩
                  · have ho76 := cF hc ho76
                    refine awp_exit ?_
                    repeat (first | refine then_exit ?_ | refine cut_x ?_ | refine inBlock_other rfl ?_)
                    refine inBlock_exit ?_
                    cases ho76
                    have hq := hE77 _ rfl
                    subst hq
                    exact cut_n [] rfl rfl ⟨rfl, rfl, zA rfl rfl rfl (trivial), trivial, trivial⟩
                · rintro _ rfl
                  have h := ksl h
                  refine awp_seq ?_
                  refine awp_region ?_
                  refine rvs 2 rfl ?_
                  refine rn ?_
                  refine awp_ret ?_
                  cases h
                  repeat (first | refine then_ret ?_ | refine inBlock_ret ?_ | refine cut_r ?_)
                  exact rr rfl rfl rfl
end

end Go.Proofs.Ytaekecbadkcggaa
