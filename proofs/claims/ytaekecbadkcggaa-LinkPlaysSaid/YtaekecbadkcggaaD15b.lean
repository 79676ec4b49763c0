/- Plain functions, and walks, printed by a program of this session's. -/
import Derived.Test.YtaekecbadkcggaaD15
import Derived.Test.YtaekecbadkcggaaPwE
namespace Go.Proofs.Ytaekecbadkcggaa
open Go.Pv
set_option maxRecDepth 100000
set_option maxHeartbeats 4000000
set_option linter.unusedSimpArgs false
set_option linter.unusedVariables false
set_option linter.unusedSectionVars false

/-- `plover/ploverlaw15.LinkPlays` -/
def dlaw15_LinkPlays (fu : Nat) (window1 : Int) (d1 : List tlaw15Deed) : Option Bool :=
  (dlaw15_up fu ).bind fun head1 => (dlink_NewSender fu window1).bind fun s1 => match s1 with | (none, s3) => ((dlink_NewReceiver fu ).bind fun r1 => (bif (decide (window1 < 1)) then some true else some (decide (window1 > 64)) : Option Bool).bind fun (x1 : Bool) => (bif x1 then ((bif head1 then some (s3 == some 1) else some false : Option Bool).bind fun (x2 : Bool) => some x2) else ((bif head1 then some () else some () : Option Unit).bind fun (_ : Unit) => some false))) | (some s2, s3) => ((dlink_NewReceiver fu ).bind fun r2 => (bif (decide (window1 < 1)) then some true else some (decide (window1 > 64)) : Option Bool).bind fun (x3 : Bool) => (bif x3 then ((bif head1 then some () else some () : Option Unit).bind fun (_ : Unit) => some false) else ((bif s3.isSome then some true else some (decide ((d1.length : Int) > 400)) : Option Bool).bind fun (x4 : Bool) => (bif x4 then ((bif head1 then some s3.isNone else some false : Option Bool).bind fun (x5 : Bool) => some x5) else ((loopD (ε := Int × Int × Int × Int × Int × Int × Int × Int × Int × (List tPacket) × (List Str) × (List Str)) (τ := Unit ⊕ Bool) (fun (((want1, i1, s4, s5, s6, r3, m1, m2, m3, flight1, l1, l2)) : Int × Int × Int × Int × Int × Int × Int × Int × Int × (List tPacket) × (List Str) × (List Str)) => (bif (decide (i1 < (d1.length : Int))) then (((gi d1 i1).bind fun x6 => bif (decide ((x6.B.length : Int) > 200)) then some (Sum.inr (Sum.inr (Sum.inr head1))) else ((dlaw15_pick fu x6.What 6).bind fun x7 => bif (x7 == 0) then ((dlink_Sender_Send fu (tlinkSender.mk s4 l1 s5 s6) x6.B).bind fun f1 => (dref15_Sender_Len fu (tref15Sender.mk m1 l2 m2 m3)).bind fun x8 => (bif (decide (x8.1 ≥ 200)) then (bif (!(f1.1 == some 8)) then some (Sum.inr (Sum.inr (Sum.inr (Sum.inr false)))) else some (Sum.inl x8.2.L)) else (bif f1.1.isSome then some (Sum.inr (Sum.inr (Sum.inr (Sum.inr false)))) else ((ap x8.2.L [x6.B]).bind fun l8 => some (Sum.inl l8))) : Option ((List Str) ⊕ ((Int × Int × Int × Int × Int × Int × Int × Int × (List tPacket) × (List Str) × (List Str)) ⊕ ((Int × Int × Int × Int × Int × Int × Int × Int × Int × (List tPacket) × (List Str) × (List Str)) ⊕ (Unit ⊕ Bool))))).bind fun o => kS o fun (l7 : List Str) => (((dlink_Sender_Len fu f1.2).bind fun x10 => (dref15_Sender_Len fu (tref15Sender.mk x8.2.Window l7 x8.2.Acked x8.2.Told)).bind fun x11 => bif (x10.1 != x11.1) then some (true, x10.2.Window, x10.2.First, x10.2.Next, r3, x11.2.Window, x11.2.Acked, x11.2.Told, x10.2.L, x11.2.L) else ((dlink_Receiver_Want fu (tlinkReceiver.mk r3)).bind fun x12 => some (x12.1 != want1, x10.2.Window, x10.2.First, x10.2.Next, x12.2.Want, x11.2.Window, x11.2.Acked, x11.2.Told, x10.2.L, x11.2.L)) : Option (Bool × Int × Int × Int × Int × Int × Int × Int × (List Str) × (List Str))).bind fun (((x9, s13, s14, s15, r6, m10, m11, m12, l9, l10)) : Bool × Int × Int × Int × Int × Int × Int × Int × (List Str) × (List Str)) => (bif x9 then some (Sum.inr (Sum.inr (Sum.inr false))) else some (Sum.inl (want1, s13, s14, s15, r6, m10, m11, m12, flight1, l9, l10))))) else (bif (x7 == 1) then ((dlink_Sender_Fresh fu (tlinkSender.mk s4 l1 s5 s6)).bind fun l11 => (dref15_Sender_Fresh fu (tref15Sender.mk m1 l2 m2 m3)).bind fun from1 => (dlaw15_packets fu l11.1 from1.2.2 from1.1 from1.2.1).bind fun x13 => bif (!x13.1) then some (Sum.inr (Sum.inr (Sum.inr false))) else ((ap [] flight1).bind fun flight4 => (ap flight4 l11.1).bind fun flight5 => ((dlink_Sender_Len fu l11.2).bind fun x15 => (dref15_Sender_Len fu x13.2).bind fun x16 => bif (x15.1 != x16.1) then some (true, x15.2.Window, x15.2.First, x15.2.Next, r3, x16.2.Window, x16.2.Acked, x16.2.Told, x15.2.L, x16.2.L) else ((dlink_Receiver_Want fu (tlinkReceiver.mk r3)).bind fun x17 => some (x17.1 != want1, x15.2.Window, x15.2.First, x15.2.Next, x17.2.Want, x16.2.Window, x16.2.Acked, x16.2.Told, x15.2.L, x16.2.L)) : Option (Bool × Int × Int × Int × Int × Int × Int × Int × (List Str) × (List Str))).bind fun (((x14, s16, s17, s18, r7, m13, m14, m15, l12, l13)) : Bool × Int × Int × Int × Int × Int × Int × Int × (List Str) × (List Str)) => (bif x14 then some (Sum.inr (Sum.inr (Sum.inr false))) else some (Sum.inl (want1, s16, s17, s18, r7, m13, m14, m15, flight5, l12, l13))))) else (bif (x7 == 2) then ((dlink_Sender_Again fu (tlinkSender.mk s4 l1 s5 s6)).bind fun l14 => (dlaw15_packets fu l14.1 (tref15Sender.mk m1 l2 m2 m3) m2 m3).bind fun x18 => bif (!x18.1) then some (Sum.inr (Sum.inr (Sum.inr false))) else ((bif (decide ((flight1.length : Int) < 500)) then ((ap [] flight1).bind fun flight7 => (ap flight7 l14.1).bind fun flight8 => some flight8) else some flight1 : Option (List tPacket)).bind fun (flight6 : List tPacket) => (((dlink_Sender_Len fu l14.2).bind fun x20 => (dref15_Sender_Len fu x18.2).bind fun x21 => bif (x20.1 != x21.1) then some (true, x20.2.Window, x20.2.First, x20.2.Next, r3, x21.2.Window, x21.2.Acked, x21.2.Told, x20.2.L, x21.2.L) else ((dlink_Receiver_Want fu (tlinkReceiver.mk r3)).bind fun x22 => some (x22.1 != want1, x20.2.Window, x20.2.First, x20.2.Next, x22.2.Want, x21.2.Window, x21.2.Acked, x21.2.Told, x20.2.L, x21.2.L)) : Option (Bool × Int × Int × Int × Int × Int × Int × Int × (List Str) × (List Str))).bind fun (((x19, s19, s20, s21, r8, m16, m17, m18, l15, l16)) : Bool × Int × Int × Int × Int × Int × Int × Int × (List Str) × (List Str)) => (bif x19 then some (Sum.inr (Sum.inr (Sum.inr false))) else some (Sum.inl (want1, s19, s20, s21, r8, m16, m17, m18, flight6, l15, l16)))))) else ((bif (x7 == 3) then some (x7 == 3) else some (x7 == 4) : Option Bool).bind fun (x23 : Bool) => (bif x23 then (bif ((flight1.length : Int) == 0) then some (Sum.inl (want1, s4, s5, s6, r3, m1, m2, m3, flight1, l1, l2)) else ((dlaw15_pick fu x6.N (flight1.length : Int)).bind fun k1 => (gi flight1 k1).bind fun x24 => (dlaw15_pick fu x6.What 6).bind fun x25 => (bif (x25 == 3) then ((dlink_Receiver_Take fu (tlinkReceiver.mk r3) x24).bind fun b1 => (bif (!(b1.2.1 == (x24.Seq == want1))) then some true else (bif (!b1.2.1) then some ((b1.1.length : Int) != 0) else some false) : Option Bool).bind fun (x26 : Bool) => (bif x26 then some (Sum.inr (Sum.inr (Sum.inr (Sum.inr false)))) else (bif b1.2.1 then (bif (!(b1.1 == x24.Data)) then some (Sum.inr (Sum.inr (Sum.inr (Sum.inr false)))) else ((some (IntKind.wrap .u64 (want1 + 1))).bind fun want5 => some (Sum.inl (want5, b1.2.2.Want)))) else some (Sum.inl (want1, b1.2.2.Want))))) else some (Sum.inl (want1, r3)) : Option ((Int × Int) ⊕ ((Int × Int × Int × Int × Int × Int × Int × Int × (List tPacket) × (List Str) × (List Str)) ⊕ ((Int × Int × Int × Int × Int × Int × Int × Int × Int × (List tPacket) × (List Str) × (List Str)) ⊕ (Unit ⊕ Bool))))).bind fun o => kS o fun (((want4, r9)) : Int × Int) => ((gsl flight1 0 k1).bind fun l17 => (ap [] l17).bind fun flight9 => (gsl flight1 (W (k1 + 1)) (flight1.length : Int)).bind fun l18 => (ap flight9 l18).bind fun flight10 => ((dlink_Sender_Len fu (tlinkSender.mk s4 l1 s5 s6)).bind fun x28 => (dref15_Sender_Len fu (tref15Sender.mk m1 l2 m2 m3)).bind fun x29 => bif (x28.1 != x29.1) then some (true, x28.2.Window, x28.2.First, x28.2.Next, r9, x29.2.Window, x29.2.Acked, x29.2.Told, x28.2.L, x29.2.L) else ((dlink_Receiver_Want fu (tlinkReceiver.mk r9)).bind fun x30 => some (x30.1 != want4, x28.2.Window, x28.2.First, x28.2.Next, x30.2.Want, x29.2.Window, x29.2.Acked, x29.2.Told, x28.2.L, x29.2.L)) : Option (Bool × Int × Int × Int × Int × Int × Int × Int × (List Str) × (List Str))).bind fun (((x27, s22, s23, s24, r10, m19, m20, m21, l19, l20)) : Bool × Int × Int × Int × Int × Int × Int × Int × (List Str) × (List Str)) => (bif x27 then some (Sum.inr (Sum.inr (Sum.inr false))) else some (Sum.inl (want4, s22, s23, s24, r10, m19, m20, m21, flight10, l19, l20)))))) else ((some (IntKind.wrap .u64 x6.N)).bind fun n1 => (bif x6.Own then ((dlink_Receiver_Want fu (tlinkReceiver.mk r3)).bind fun n3 => some (n3.1, n3.2.Want)) else some (n1, r3) : Option (Int × Int)).bind fun (((n2, r11)) : Int × Int) => ((dlink_Sender_Ack fu (tlinkSender.mk s4 l1 s5 s6) n2).bind fun x31 => (dref15_Sender_Ack fu (tref15Sender.mk m1 l2 m2 m3) n2).bind fun x32 => ((dlink_Sender_Len fu x31).bind fun x34 => (dref15_Sender_Len fu x32).bind fun x35 => bif (x34.1 != x35.1) then some (true, x34.2.Window, x34.2.First, x34.2.Next, r11, x35.2.Window, x35.2.Acked, x35.2.Told, x34.2.L, x35.2.L) else ((dlink_Receiver_Want fu (tlinkReceiver.mk r11)).bind fun x36 => some (x36.1 != want1, x34.2.Window, x34.2.First, x34.2.Next, x36.2.Want, x35.2.Window, x35.2.Acked, x35.2.Told, x34.2.L, x35.2.L)) : Option (Bool × Int × Int × Int × Int × Int × Int × Int × (List Str) × (List Str))).bind fun (((x33, s25, s26, s27, r12, m22, m23, m24, l21, l22)) : Bool × Int × Int × Int × Int × Int × Int × Int × (List Str) × (List Str)) => (bif x33 then some (Sum.inr (Sum.inr (Sum.inr false))) else some (Sum.inl (want1, s25, s26, s27, r12, m22, m23, m24, flight1, l21, l22)))))))))) : Option ((Int × Int × Int × Int × Int × Int × Int × Int × (List tPacket) × (List Str) × (List Str)) ⊕ ((Int × Int × Int × Int × Int × Int × Int × Int × Int × (List tPacket) × (List Str) × (List Str)) ⊕ (Unit ⊕ Bool)))).bind fun o => kS o fun (((want3, s10, s11, s12, r5, m7, m8, m9, flight3, l5, l6)) : Int × Int × Int × Int × Int × Int × Int × Int × (List tPacket) × (List Str) × (List Str)) => some (Sum.inl (want3, W (i1 + 1), s10, s11, s12, r5, m7, m8, m9, flight3, l5, l6))) else some (Sum.inr (Sum.inl ())))) fu (0, 0, s2.Window, s2.First, s2.Next, r2.Want, window1, 0, 0, [], s2.L, [])).bind fun o => kS o fun (_ : Unit) => some head1)))))
section
attribute [local irreducible] awp aops DP PCall ACall Decidable.decide
theorem dlaw15_LinkPlays_l {fu : Nat} {window1 : Int} {d1 : List tlaw15Deed} {r : Bool} (h : dlaw15_LinkPlays fu window1 d1 = some r) : PCall Try.prog 3 [.int .i64 window1, .sl (d1.map c_tlaw15Deed)] (· = .bool r) := by
  rw [dlaw15_LinkPlays] at h
  refine pcall_body Try.func3 rfl (by kernel_rfl) (by rfl) ?_
  refine awp_seq ?_
  refine awp_region ?_
  refine rv rfl rfl ?_
  refine rn ?_
  refine awp_seq ?_
  refine awp_region ?_
  obtain ⟨head1, hx1, h⟩ := bi h
  refine rc1 rfl rfl rfl (dlaw15_up_l hx1) ?_
  refine rv rfl rfl ?_
  refine rn ?_
  refine awp_seq ?_
  refine awp_region ?_
  refine rv rfl rfl ?_
  obtain ⟨s1, hx2, h⟩ := bi h
  obtain ⟨_ | s2, s3⟩ := s1
  · refine rh [] rfl rfl (dlink_NewSender_l hx2) rfl rfl rfl (trivial) (trivial) ?_
    refine ek ?_
    refine as1 rfl ?_
    refine ae rfl rfl rfl ?_
    refine rvs 5 rfl ?_
    refine rn ?_
    refine awp_seq ?_
    refine awp_region ?_
    obtain ⟨r1, hx3, h⟩ := bi h
    refine rh [] rfl rfl (dlink_NewReceiver_l hx3) rfl rfl rfl (trivial) (trivial) ?_
    refine ek ?_
    refine as1 rfl ?_
    refine ae rfl rfl rfl ?_
    refine rv rfl rfl ?_
    refine rn ?_
    refine awp_seq ?_
    refine awp_seq ?_
    obtain ⟨o4, ho5, h⟩ := bi h
    refine awp_cut1 (fun x => x = o4) (fun (x1 : Bool) => ⟨[(0, .int .i64 window1), (1, .sl (d1.map c_tlaw15Deed)), (5, .bool head1), (6, .nilp), (7, .err 31 s3), (8, .ptr 0 0), (36, .bool x1)], [(0, 0, .int .u64 r1.Want)], [], 1⟩) ?_ ?_
    · refine awp_region ?_
      refine rvs 3 rfl ?_
      refine gs rfl rfl rfl rfl rfl (fun hg => ?_) (fun hg => ?_)
      · have ho5 := cF hg ho5
        refine rv rfl rfl ?_
        refine gy rfl rfl rfl ?_
        refine rv rfl rfl ?_
        refine rv rfl rfl ?_
        refine rn ?_
        cases ho5
        exact cut_n [0] rfl rfl ⟨rfl, rfl, zA rfl rfl rfl (zA rfl rfl rfl (zA rfl rfl rfl (zA rfl rfl rfl (zA rfl rfl rfl (zA rfl rfl rfl (zA rfl rfl rfl (trivial))))))), zC rfl rfl rfl rfl (trivial), trivial⟩
      · have ho5 := cT hg ho5
        refine gn rfl rfl rfl rfl rfl ?_
        refine rv rfl rfl ?_
        refine rn ?_
        cases ho5
        exact cut_n [0] rfl rfl ⟨rfl, rfl, zA rfl rfl rfl (zA rfl rfl rfl (zA rfl rfl rfl (zA rfl rfl rfl (zA rfl rfl rfl (zA rfl rfl rfl (zA rfl rfl rfl (trivial))))))), zC rfl rfl rfl rfl (trivial), trivial⟩
    · rintro x1 rfl
      change awp _ _ _ _ _ ⟨_, _, _, _⟩
      refine cs_ rfl (fun hc => ?_) (fun hc => ?_)
      · have h := cT hc h
        refine awp_seq ?_
        obtain ⟨o6, ho7, h⟩ := bi h
        refine awp_cut1 (fun x => x = o6) (fun (x2 : Bool) => ⟨[(4, .bool x2)], [], [], 0⟩) ?_ ?_
        · refine awp_region ?_
          refine rvs 2 rfl ?_
          refine gs rfl rfl rfl rfl rfl (fun hg => ?_) (fun hg => ?_)
          · have ho7 := cT hg ho7
            refine rv rfl rfl ?_
            refine gy rfl rfl rfl ?_
            refine rv rfl rfl ?_
            refine rvs 2 rfl ?_
            refine gy rfl rfl rfl ?_
            refine rv rfl rfl ?_
            refine gy rfl rfl rfl ?_
            refine rv rfl rfl ?_
            refine gy rfl rfl rfl ?_
            refine rV rfl (va_eeq rfl rfl rfl rfl rfl rfl (fun _ => rfl)) ?_
            refine rvs 2 rfl ?_
            refine rn ?_
            cases ho7
            exact cut_n [] rfl rfl ⟨rfl, rfl, zA rfl rfl rfl (trivial), trivial, trivial⟩
          · have ho7 := cF hg ho7
            refine gn rfl rfl rfl rfl rfl ?_
            refine rvs 2 rfl ?_
            refine gn rfl rfl rfl rfl rfl ?_
            refine gn rfl rfl rfl rfl rfl ?_
            refine gn rfl rfl rfl rfl rfl ?_
            refine rvs 2 rfl ?_
            refine rn ?_
            cases ho7
            exact cut_n [] rfl rfl ⟨rfl, rfl, zA rfl rfl rfl (trivial), trivial, trivial⟩
        · rintro x2 rfl
          change awp _ _ _ _ _ ⟨_, _, _, _⟩
          refine awp_ret ?_
          cases h
          repeat (first | refine then_ret ?_ | refine inBlock_ret ?_ | refine cut_r ?_)
          exact rr rfl rfl rfl
      · have h := cF hc h
        refine awp_skip ?_
        refine awp_seq ?_
        refine awp_seq ?_
        refine awp_region ?_
        refine rvs 3 rfl ?_
        refine gn rfl rfl rfl rfl rfl ?_
        refine gn rfl rfl rfl rfl rfl ?_
        refine rvs 2 rfl ?_
        refine gn rfl rfl rfl rfl rfl ?_
        refine gn rfl rfl rfl rfl rfl ?_
        refine rvs 2 rfl ?_
        refine gn rfl rfl rfl rfl rfl ?_
        refine gn rfl rfl rfl rfl rfl ?_
        refine gn rfl rfl rfl rfl rfl ?_
        refine rv rfl rfl ?_
        refine rn ?_
        refine ct rfl ?_
        refine awp_seq ?_
        obtain ⟨o8, ho9, h⟩ := bi h
        refine awp_cut1 (fun x => x = o8) (fun (_ : Unit) => ⟨[(4, .bool false)], [], [], 0⟩) ?_ ?_
        · refine awp_region ?_
          refine rvs 2 rfl ?_
          refine gs rfl rfl rfl rfl rfl (fun hg => ?_) (fun hg => ?_)
          · have ho9 := cT hg ho9
            refine rv rfl rfl ?_
            refine gy rfl rfl rfl ?_
            refine rv rfl rfl ?_
            refine rvs 2 rfl ?_
            refine gn rfl rfl rfl rfl rfl ?_
            refine gn rfl rfl rfl rfl rfl ?_
            refine rvs 2 rfl ?_
            refine gn rfl rfl rfl rfl rfl ?_
            refine gn rfl rfl rfl rfl rfl ?_
            refine rvs 2 rfl ?_
            refine rn ?_
            cases ho9
            exact cut_n [] rfl rfl ⟨rfl, rfl, zA rfl rfl rfl (trivial), trivial, trivial⟩
          · have ho9 := cF hg ho9
            refine gn rfl rfl rfl rfl rfl ?_
            refine rvs 2 rfl ?_
            refine gn rfl rfl rfl rfl rfl ?_
            refine gn rfl rfl rfl rfl rfl ?_
            refine rvs 2 rfl ?_
            refine gn rfl rfl rfl rfl rfl ?_
            refine gn rfl rfl rfl rfl rfl ?_
            refine rvs 2 rfl ?_
            refine rn ?_
            cases ho9
            exact cut_n [] rfl rfl ⟨rfl, rfl, zA rfl rfl rfl (trivial), trivial, trivial⟩
        · rintro _ rfl
          change awp _ _ _ _ _ ⟨_, _, _, _⟩
          refine awp_ret ?_
          cases h
          repeat (first | refine then_ret ?_ | refine inBlock_ret ?_ | refine cut_r ?_)
          exact rr rfl rfl rfl
  · refine rh [] rfl rfl (dlink_NewSender_l hx2) rfl rfl rfl (trivial) (trivial) ?_
    refine ek ?_
    refine as1 rfl ?_
    refine ae rfl rfl rfl ?_
    refine rvs 5 rfl ?_
    refine rn ?_
    refine awp_seq ?_
    refine awp_region ?_
    obtain ⟨r2, hx10, h⟩ := bi h
    refine rh [] rfl rfl (dlink_NewReceiver_l hx10) rfl rfl rfl (trivial) (trivial) ?_
    refine ek ?_
    refine as1 rfl ?_
    refine ae rfl rfl rfl ?_
    refine rv rfl rfl ?_
    refine rn ?_
    refine awp_seq ?_
    refine awp_seq ?_
    obtain ⟨o11, ho12, h⟩ := bi h
    refine awp_cut1 (fun x => x = o11) (fun (x3 : Bool) => ⟨[(0, .int .i64 window1), (1, .sl (d1.map c_tlaw15Deed)), (5, .bool head1), (6, .ptr 0 0), (7, .err 31 s3), (8, .ptr 1 0), (36, .bool x3)], [(0, 0, .int .i64 s2.Window), (0, 1, .own 2), (0, 2, .int .u64 s2.First), (0, 3, .int .u64 s2.Next), (1, 0, .int .u64 r2.Want)], [(2, .row 1 (s2.L.map (cL cU8)))], 3⟩) ?_ ?_
    · refine awp_region ?_
      refine rvs 3 rfl ?_
      refine gs rfl rfl rfl rfl rfl (fun hg => ?_) (fun hg => ?_)
      · have ho12 := cF hg ho12
        refine rv rfl rfl ?_
        refine gy rfl rfl rfl ?_
        refine rv rfl rfl ?_
        refine rv rfl rfl ?_
        refine rn ?_
        cases ho12
        exact cut_n [0, 2, 1] rfl rfl ⟨rfl, rfl, zA rfl rfl rfl (zA rfl rfl rfl (zA rfl rfl rfl (zA rfl rfl rfl (zA rfl rfl rfl (zA rfl rfl rfl (zA rfl rfl rfl (trivial))))))), zC rfl rfl rfl rfl (zC rfl rfl rfl rfl (zC rfl rfl rfl rfl (zC rfl rfl rfl rfl (zC rfl rfl rfl rfl (trivial))))), zE rfl .row rfl (trivial)⟩
      · have ho12 := cT hg ho12
        refine gn rfl rfl rfl rfl rfl ?_
        refine rv rfl rfl ?_
        refine rn ?_
        cases ho12
        exact cut_n [0, 2, 1] rfl rfl ⟨rfl, rfl, zA rfl rfl rfl (zA rfl rfl rfl (zA rfl rfl rfl (zA rfl rfl rfl (zA rfl rfl rfl (zA rfl rfl rfl (zA rfl rfl rfl (trivial))))))), zC rfl rfl rfl rfl (zC rfl rfl rfl rfl (zC rfl rfl rfl rfl (zC rfl rfl rfl rfl (zC rfl rfl rfl rfl (trivial))))), zE rfl .row rfl (trivial)⟩
    · rintro x3 rfl
      change awp _ _ _ _ _ ⟨_, _, _, _⟩
      refine cs_ rfl (fun hc => ?_) (fun hc => ?_)
      · have h := cT hc h
        refine awp_seq ?_
        obtain ⟨o13, ho14, h⟩ := bi h
        refine awp_cut1 (fun x => x = o13) (fun (_ : Unit) => ⟨[(4, .bool false)], [], [], 0⟩) ?_ ?_
        · refine awp_region ?_
          refine rvs 2 rfl ?_
          refine gs rfl rfl rfl rfl rfl (fun hg => ?_) (fun hg => ?_)
          · have ho14 := cT hg ho14
            refine rv rfl rfl ?_
            refine gy rfl rfl rfl ?_
            refine rv rfl rfl ?_
            refine rvs 2 rfl ?_
            refine gn rfl rfl rfl rfl rfl ?_
            refine gn rfl rfl rfl rfl rfl ?_
            refine gn rfl rfl rfl rfl rfl ?_
            refine rvs 2 rfl ?_
            refine rn ?_
            cases ho14
            exact cut_n [] rfl rfl ⟨rfl, rfl, zA rfl rfl rfl (trivial), trivial, trivial⟩
          · have ho14 := cF hg ho14
            refine gn rfl rfl rfl rfl rfl ?_
            refine rvs 2 rfl ?_
            refine gn rfl rfl rfl rfl rfl ?_
            refine gn rfl rfl rfl rfl rfl ?_
            refine gn rfl rfl rfl rfl rfl ?_
            refine rvs 2 rfl ?_
            refine rn ?_
            cases ho14
            exact cut_n [] rfl rfl ⟨rfl, rfl, zA rfl rfl rfl (trivial), trivial, trivial⟩
        · rintro _ rfl
          change awp _ _ _ _ _ ⟨_, _, _, _⟩
          refine awp_ret ?_
          cases h
          repeat (first | refine then_ret ?_ | refine inBlock_ret ?_ | refine cut_r ?_)
          exact rr rfl rfl rfl
      · have h := cF hc h
        refine awp_skip ?_
        refine awp_seq ?_
        refine awp_seq ?_
        obtain ⟨o15, ho16, h⟩ := bi h
        refine awp_cut1 (fun x => x = o15) (fun (x4 : Bool) => ⟨[(0, .int .i64 window1), (1, .sl (d1.map c_tlaw15Deed)), (5, .bool head1), (6, .ptr 0 0), (7, .err 31 s3), (8, .ptr 1 0), (61, .bool x4)], [(0, 0, .int .i64 s2.Window), (0, 1, .own 2), (0, 2, .int .u64 s2.First), (0, 3, .int .u64 s2.Next), (1, 0, .int .u64 r2.Want)], [(2, .row 1 (s2.L.map (cL cU8)))], 3⟩) ?_ ?_
        · refine awp_region ?_
          refine rvs 3 rfl ?_
          refine gy rfl rfl rfl ?_
          refine rv rfl rfl ?_
          refine gy rfl rfl rfl ?_
          refine rv rfl rfl ?_
          refine rvs 2 rfl ?_
          refine gy rfl rfl rfl ?_
          refine rv rfl rfl ?_
          refine gy rfl rfl rfl ?_
          refine rV rfl (va_ennil rfl rfl rfl) ?_
          refine rvs 2 rfl ?_
          refine gs rfl rfl rfl rfl rfl (fun hg => ?_) (fun hg => ?_)
          · have ho16 := cF hg ho16
            refine rv rfl rfl ?_
            refine gy rfl rfl rfl ?_
            refine rv rfl rfl ?_
            refine rt ((lM c_tlaw15Deed d1)) ?_
            refine gy rfl rfl rfl ?_
            refine rv rfl rfl ?_
            refine rv rfl rfl ?_
            refine rn ?_
            cases ho16
            exact cut_n [0, 1, 2] rfl rfl ⟨rfl, rfl, zA rfl rfl rfl (zA rfl rfl rfl (zA rfl rfl rfl (zA rfl rfl rfl (zA rfl rfl rfl (zA rfl rfl rfl (zA rfl rfl rfl (trivial))))))), zC rfl rfl rfl rfl (zC rfl rfl rfl rfl (zC rfl rfl rfl rfl (zC rfl rfl rfl rfl (zC rfl rfl rfl rfl (trivial))))), zE rfl .row rfl (trivial)⟩
          · have ho16 := cT hg ho16
            refine gn rfl rfl rfl rfl rfl ?_
            refine gn rfl rfl rfl rfl rfl ?_
            refine rv rfl rfl ?_
            refine rn ?_
            cases ho16
            exact cut_n [0, 1, 2] rfl rfl ⟨rfl, rfl, zA rfl rfl rfl (zA rfl rfl rfl (zA rfl rfl rfl (zA rfl rfl rfl (zA rfl rfl rfl (zA rfl rfl rfl (zA rfl rfl rfl (trivial))))))), zC rfl rfl rfl rfl (zC rfl rfl rfl rfl (zC rfl rfl rfl rfl (zC rfl rfl rfl rfl (zC rfl rfl rfl rfl (trivial))))), zE rfl .row rfl (trivial)⟩
        · rintro x4 rfl
          change awp _ _ _ _ _ ⟨_, _, _, _⟩
          refine cs_ rfl (fun hc => ?_) (fun hc => ?_)
          · have h := cT hc h
            refine awp_seq ?_
            obtain ⟨o17, ho18, h⟩ := bi h
            refine awp_cut1 (fun x => x = o17) (fun (x5 : Bool) => ⟨[(4, .bool x5)], [], [], 0⟩) ?_ ?_
            · refine awp_region ?_
              refine rvs 2 rfl ?_
              refine gs rfl rfl rfl rfl rfl (fun hg => ?_) (fun hg => ?_)
              · have ho18 := cT hg ho18
                refine rv rfl rfl ?_
                refine gy rfl rfl rfl ?_
                refine rv rfl rfl ?_
                refine rvs 2 rfl ?_
                refine gy rfl rfl rfl ?_
                refine rv rfl rfl ?_
                refine gy rfl rfl rfl ?_
                refine rv rfl rfl ?_
                refine rvs 2 rfl ?_
                refine gy rfl rfl rfl ?_
                refine rv rfl rfl ?_
                refine gy rfl rfl rfl ?_
                refine rV rfl (va_enil rfl rfl rfl) ?_
                refine rvs 2 rfl ?_
                refine rn ?_
                cases ho18
                exact cut_n [] rfl rfl ⟨rfl, rfl, zA rfl rfl rfl (trivial), trivial, trivial⟩
              · have ho18 := cF hg ho18
                refine gn rfl rfl rfl rfl rfl ?_
                refine rvs 2 rfl ?_
                refine gn rfl rfl rfl rfl rfl ?_
                refine gn rfl rfl rfl rfl rfl ?_
                refine rvs 2 rfl ?_
                refine gn rfl rfl rfl rfl rfl ?_
                refine gn rfl rfl rfl rfl rfl ?_
                refine rvs 2 rfl ?_
                refine rn ?_
                cases ho18
                exact cut_n [] rfl rfl ⟨rfl, rfl, zA rfl rfl rfl (trivial), trivial, trivial⟩
            · rintro x5 rfl
              change awp _ _ _ _ _ ⟨_, _, _, _⟩
              refine awp_ret ?_
              cases h
              repeat (first | refine then_ret ?_ | refine inBlock_ret ?_ | refine cut_r ?_)
              exact rr rfl rfl rfl
          · have h := cF hc h
            refine awp_skip ?_
            refine awp_seq ?_
            refine awp_region ?_
            refine rvs 2 rfl ?_
            refine rb rfl rfl ?_
            refine rv rfl rfl ?_
            refine rn ?_
            refine awp_seq ?_
            refine awp_region ?_
            refine rv rfl rfl ?_
            refine rn ?_
            refine awp_seq ?_
            refine awp_region ?_
            refine rv rfl rfl ?_
            refine rn ?_
            refine awp_seq ?_
            refine awp_seq ?_
            refine awp_region ?_
            refine rv rfl rfl ?_
            refine rn ?_
            refine awp_conv (fun _ _ _ _ _ hi => nilS_cell false 1 3 1 rfl hi) ?_
            refine awp_conv (fun _ _ _ _ _ hi => nilS_slot false 2 11 rfl hi) ?_
            obtain ⟨e19, hl20, h⟩ := bi h
            refine awp_cut1 (fun x => Sum.inl x = e19) (fun (_ : Unit) => ⟨[(5, .bool head1)], [], [], 0⟩) ?_ ?_
            · refine awp_block ?_
              refine awp_loopD hl20 (fun (((want1, i1, s4, s5, s6, r3, m1, m2, m3, flight1, l1, l2)) : Int × Int × Int × Int × Int × Int × Int × Int × Int × (List tPacket) × (List Str) × (List Str)) => ⟨[(1, .sl (d1.map c_tlaw15Deed)), (5, .bool head1), (6, .ptr 0 0), (8, .ptr 1 0), (9, .ptr 2 0), (10, .int .u64 want1), (11, .own 3), (12, .int .i64 i1)], [(0, 0, .int .i64 s4), (0, 1, .own 4), (0, 2, .int .u64 s5), (0, 3, .int .u64 s6), (1, 0, .int .u64 r3), (2, 0, .int .i64 m1), (2, 1, .own 5), (2, 2, .int .i64 m2), (2, 3, .int .i64 m3)], [(3, .row 2 (flight1.map c_tPacket)), (4, .row 1 (l1.map (cL cU8))), (5, .row 1 (l2.map (cL cU8)))], 6⟩) [0, 1, 3, 5, 2, 4] rfl ⟨rfl, rfl, zA rfl rfl rfl (zA rfl rfl rfl (zA rfl rfl rfl (zA rfl rfl rfl (zA rfl rfl rfl (zA rfl rfl rfl (zA rfl rfl rfl (zA rfl rfl rfl (trivial)))))))), zC rfl rfl rfl rfl (zC rfl rfl rfl rfl (zC rfl rfl rfl rfl (zC rfl rfl rfl rfl (zC rfl rfl rfl rfl (zC rfl rfl rfl rfl (zC rfl rfl rfl rfl (zC rfl rfl rfl rfl (zC rfl rfl rfl rfl (trivial))))))))), zE rfl .row rfl (zE rfl .row rfl (zE rfl .row rfl (trivial)))⟩ ?_
              intro v o23 ho21 hE22
              obtain ⟨want1, i1, s4, s5, s6, r3, m1, m2, m3, flight1, l1, l2⟩ := v
              change awp _ _ _ _ _ ⟨_, _, _, _⟩
              refine awp_seq ?_
              refine awp_seq ?_
              refine awp_region ?_
              refine rvs 2 rfl ?_
              refine rv rfl rfl ?_
              refine rt ((lM c_tlaw15Deed d1)) ?_
              refine rv rfl rfl ?_
              refine rn ?_
              refine cs_ rfl (fun hc => ?_) (fun hc => ?_)
              · have ho21 := cT hc ho21
                refine awp_skip ?_
                refine awp_seq ?_
                obtain ⟨o24, ho25, ho21⟩ := bi ho21
                refine awp_cut1 (fun x => Sum.inl x = o24) (fun (((want3, s10, s11, s12, r5, m7, m8, m9, flight3, l5, l6)) : Int × Int × Int × Int × Int × Int × Int × Int × (List tPacket) × (List Str) × (List Str)) => ⟨[(1, .sl (d1.map c_tlaw15Deed)), (5, .bool head1), (6, .ptr 0 0), (8, .ptr 1 0), (9, .ptr 2 0), (10, .int .u64 want3), (11, .own 3), (12, .int .i64 i1)], [(0, 0, .int .i64 s10), (0, 1, .own 4), (0, 2, .int .u64 s11), (0, 3, .int .u64 s12), (1, 0, .int .u64 r5), (2, 0, .int .i64 m7), (2, 1, .own 5), (2, 2, .int .i64 m8), (2, 3, .int .i64 m9)], [(3, .row 2 (flight3.map c_tPacket)), (4, .row 1 (l5.map (cL cU8))), (5, .row 1 (l6.map (cL cU8)))], 6⟩) ?_ ?_
                · refine awp_block ?_
                  refine awp_seq ?_
                  refine awp_region ?_
                  refine rvs 2 rfl ?_
                  obtain ⟨x6, hx26, ho25⟩ := bi ho25
                  refine ri rfl rfl rfl rfl rfl rfl (gi0 hx26) (giM c_tlaw15Deed hx26) (wM (fun _ => by rfl) _) ?_
                  refine rv rfl rfl ?_
                  refine ra rfl rfl rfl ?_
                  refine rs rfl rfl rfl rfl rfl rfl rfl ?_
                  refine rn ?_
                  refine awp_seq ?_
                  refine awp_seq ?_
                  refine awp_region ?_
                  refine rvs 2 rfl ?_
                  refine rv rfl rfl ?_
                  refine rt ((lM cU8 x6.B)) ?_
                  refine rv rfl rfl ?_
                  refine rn ?_
                  refine cs_ rfl (fun hc => ?_) (fun hc => ?_)
                  · have ho25 := cT hc ho25
                    refine awp_seq ?_
                    refine awp_region ?_
                    refine rvs 2 rfl ?_
                    refine rn ?_
                    refine awp_ret ?_
                    cases ho25
                    have ho21 := ksr ho21
                    subst ho21
                    have hq := hE22 _ rfl
                    subst hq
                    have h := ksr h
                    subst h
                    repeat (first | refine then_ret ?_ | refine inBlock_ret ?_ | refine cut_r ?_)
                    exact rr rfl rfl rfl
                  · have ho25 := cF hc ho25
                    refine awp_skip ?_
                    refine awp_seq ?_
                    refine awp_seq ?_
                    refine awp_region ?_
                    refine rvs 2 rfl ?_
                    obtain ⟨x7, hx27, ho25⟩ := bi ho25
                    refine rc1 rfl rfl rfl (dlaw15_pick_l hx27) ?_
                    refine rn ?_
                    refine awp_block ?_
                    refine awp_seq ?_
                    refine awp_region ?_
                    refine rvs 2 rfl ?_
                    refine rn ?_
                    refine cs_ rfl (fun hc => ?_) (fun hc => ?_)
                    · have ho25 := cT hc ho25
                      refine awp_seq ?_
                      refine awp_region ?_
                      refine rvs 3 rfl ?_
                      obtain ⟨f1, hx28, ho25⟩ := bi ho25
                      refine rh [0, 4] rfl rfl (dlink_Sender_Send_l hx28) rfl rfl rfl (zC rfl rfl rfl rfl (zC rfl rfl rfl rfl (zC rfl rfl rfl rfl (zC rfl rfl rfl rfl (trivial))))) (zE rfl .row rfl (trivial)) ?_
                      refine ek ?_
                      refine as1 rfl ?_
                      refine ae rfl rfl rfl ?_
                      refine rv rfl rfl ?_
                      refine rn ?_
                      refine awp_seq ?_
                      refine awp_region ?_
                      refine rv rfl rfl ?_
                      obtain ⟨x8, hx29, ho25⟩ := bi ho25
                      refine rh [2, 5] rfl rfl (dref15_Sender_Len_l hx29) rfl rfl rfl (zC rfl rfl rfl rfl (zC rfl rfl rfl rfl (zC rfl rfl rfl rfl (zC rfl rfl rfl rfl (trivial))))) (zE rfl .row rfl (trivial)) ?_
                      refine ek ?_
                      refine as1 rfl ?_
                      refine ae rfl rfl rfl ?_
                      refine rv rfl rfl ?_
                      refine rn ?_
                      obtain ⟨o30, ho31, ho25⟩ := bi ho25
                      refine awp_cut1 (fun x => Sum.inl x = o30) (fun (l7 : List Str) => ⟨[(1, .sl (d1.map c_tlaw15Deed)), (5, .bool head1), (6, .ptr 0 0), (8, .ptr 1 0), (9, .ptr 2 0), (10, .int .u64 want1), (11, .own 3), (12, .int .i64 i1)], [(0, 0, .int .i64 f1.2.Window), (0, 1, .own 4), (0, 2, .int .u64 f1.2.First), (0, 3, .int .u64 f1.2.Next), (1, 0, .int .u64 r3), (2, 0, .int .i64 x8.2.Window), (2, 1, .own 5), (2, 2, .int .i64 x8.2.Acked), (2, 3, .int .i64 x8.2.Told)], [(3, .row 2 (flight1.map c_tPacket)), (4, .row 1 (f1.2.L.map (cL cU8))), (5, .row 1 (l7.map (cL cU8)))], 6⟩) ?_ ?_
                      · refine cs_ rfl (fun hc => ?_) (fun hc => ?_)
                        · have ho31 := cT hc ho31
                          refine awp_seq ?_
                          refine awp_region ?_
                          refine rvs 2 rfl ?_
                          refine rV rfl (va_ene rfl rfl rfl rfl rfl rfl (fun _ => rfl)) ?_
                          refine rn ?_
                          refine cs_ rfl (fun hc => ?_) (fun hc => ?_)
                          · have ho31 := cT hc ho31
                            refine awp_seq ?_
                            refine awp_region ?_
                            refine rv rfl rfl ?_
                            refine rn ?_
                            refine awp_ret ?_
                            cases ho31
                            have ho25 := ksr ho25
                            subst ho25
                            have ho21 := ksr ho21
                            subst ho21
                            have hq := hE22 _ rfl
                            subst hq
                            have h := ksr h
                            subst h
                            repeat (first | refine then_ret ?_ | refine inBlock_ret ?_ | refine cut_r ?_)
                            exact rr rfl rfl rfl
                          · have ho31 := cF hc ho31
                            refine awp_skip ?_
                            cases ho31
                            exact cut_n [0, 1, 2, 3, 7, 8] rfl rfl ⟨rfl, rfl, zA rfl rfl rfl (zA rfl rfl rfl (zA rfl rfl rfl (zA rfl rfl rfl (zA rfl rfl rfl (zA rfl rfl rfl (zA rfl rfl rfl (zA rfl rfl rfl (trivial)))))))), zC rfl rfl rfl rfl (zC rfl rfl rfl rfl (zC rfl rfl rfl rfl (zC rfl rfl rfl rfl (zC rfl rfl rfl rfl (zC rfl rfl rfl rfl (zC rfl rfl rfl rfl (zC rfl rfl rfl rfl (zC rfl rfl rfl rfl (trivial))))))))), zE rfl .row rfl (zE rfl .row rfl (zE rfl .row rfl (trivial)))⟩
                        · have ho31 := cF hc ho31
                          refine awp_seq ?_
                          refine awp_seq ?_
                          refine awp_region ?_
                          refine rv rfl rfl ?_
                          refine rV rfl (va_ennil rfl rfl rfl) ?_
                          refine rn ?_
                          refine cs_ rfl (fun hc => ?_) (fun hc => ?_)
                          · have ho31 := cT hc ho31
                            refine awp_seq ?_
                            refine awp_region ?_
                            refine rv rfl rfl ?_
                            refine rn ?_
                            refine awp_ret ?_
                            cases ho31
                            have ho25 := ksr ho25
                            subst ho25
                            have ho21 := ksr ho21
                            subst ho21
                            have hq := hE22 _ rfl
                            subst hq
                            have h := ksr h
                            subst h
                            repeat (first | refine then_ret ?_ | refine inBlock_ret ?_ | refine cut_r ?_)
                            exact rr rfl rfl rfl
                          · have ho31 := cF hc ho31
                            refine awp_skip ?_
                            refine awp_dx (m := 12) [] Try.mix (by kernel_rfl) (by kernel_rfl) (by kernel_rfl) (by kernel_rfl) (by kernel_rfl) (by kernel_rfl) ?_
                            refine xv [] rfl rfl (fun _ => rfl) ?_
                            refine xv [] rfl rfl (fun _ => rfl) ?_
                            refine xv [] rfl rfl (fun _ => rfl) ?_
                            refine xv [] rfl rfl (fun _ => rfl) ?_
                            refine xv [2] rfl rfl (fun _ => rfl) ?_
                            refine xv [] rfl rfl (fun _ => rfl) ?_
                            refine xv [6] rfl rfl (fun _ => rfl) ?_
                            refine xE [] (.own 9) 10 _ _ rfl rfl (by
                                refine rbs false rfl rfl rfl rfl rfl rfl rfl rfl rfl rfl ?_
                                exact rn ⟨rfl, rfl⟩) (by rfl) (by rfl) (by rfl) ?_
                            obtain ⟨l8, hx32, ho31⟩ := bi ho31
                            refine xE [8, 9] (.own 10) 11 _ _ rfl rfl (by
                                refine rap false (xs := x8.2.L.map (cL cU8)) (ys := [x6.B].map (cL cU8)) rfl rfl rfl rfl rfl rfl rfl (.own rfl rfl) (.sl rfl rfl rfl) (wM (fun _ => by rfl) _) (oM (fun _ => by rfl) _) (apB (cL cU8) rfl hx32) rfl ?_
                                refine rk (congrArg (Kind.row _) (apM (cL cU8) hx32)) ?_
                                exact rn ⟨rfl, rfl⟩) (by rfl) (by rfl) (by rfl) ?_
                            refine xv [] rfl rfl (fun _ => rfl) ?_
                            refine xv [] rfl rfl (fun _ => rfl) ?_
                            refine xE [2, 8, 10] .any 11 _ _ rfl rfl (by
                                refine rs rfl rfl rfl rfl rfl rfl rfl ?_
                                exact rn ⟨rfl, rfl⟩) (by rfl) (by rfl) (by rfl) ?_
                            refine xn (by kernel_rfl) ?_
                            refine rn ?_
                            cases ho31
                            exact cut_n [0, 1, 2, 3, 7, 10] rfl rfl ⟨rfl, rfl, zA rfl rfl rfl (zA rfl rfl rfl (zA rfl rfl rfl (zA rfl rfl rfl (zA rfl rfl rfl (zA rfl rfl rfl (zA rfl rfl rfl (zA rfl rfl rfl (trivial)))))))), zC rfl rfl rfl rfl (zC rfl rfl rfl rfl (zC rfl rfl rfl rfl (zC rfl rfl rfl rfl (zC rfl rfl rfl rfl (zC rfl rfl rfl rfl (zC rfl rfl rfl rfl (zC rfl rfl rfl rfl (zC rfl rfl rfl rfl (trivial))))))))), zE rfl .row rfl (zE rfl .row rfl (zE rfl .row rfl (trivial)))⟩
                      · rintro l7 rfl
                        have ho25 := ksl ho25
                        change awp _ _ _ _ _ ⟨_, _, _, _⟩
                        refine awp_seq ?_
                        obtain ⟨o33, ho34, ho25⟩ := bi ho25
                        refine awp_cut1 (fun x => x = o33) (fun (((x9, s13, s14, s15, r6, m10, m11, m12, l9, l10)) : Bool × Int × Int × Int × Int × Int × Int × Int × (List Str) × (List Str)) => ⟨[(1, .sl (d1.map c_tlaw15Deed)), (5, .bool head1), (6, .ptr 0 0), (8, .ptr 1 0), (9, .ptr 2 0), (10, .int .u64 want1), (11, .own 3), (12, .int .i64 i1), (247, .bool x9)], [(0, 0, .int .i64 s13), (0, 1, .own 4), (0, 2, .int .u64 s14), (0, 3, .int .u64 s15), (1, 0, .int .u64 r6), (2, 0, .int .i64 m10), (2, 1, .own 5), (2, 2, .int .i64 m11), (2, 3, .int .i64 m12)], [(3, .row 2 (flight1.map c_tPacket)), (4, .row 1 (l9.map (cL cU8))), (5, .row 1 (l10.map (cL cU8)))], 6⟩) ?_ ?_
                        · refine awp_region ?_
                          refine rv rfl rfl ?_
                          obtain ⟨x10, hx35, ho34⟩ := bi ho34
                          refine rh [0, 4] rfl rfl (dlink_Sender_Len_l hx35) rfl rfl rfl (zC rfl rfl rfl rfl (zC rfl rfl rfl rfl (zC rfl rfl rfl rfl (zC rfl rfl rfl rfl (trivial))))) (zE rfl .row rfl (trivial)) ?_
                          refine ek ?_
                          refine as1 rfl ?_
                          refine ae rfl rfl rfl ?_
                          refine rv rfl rfl ?_
                          obtain ⟨x11, hx36, ho34⟩ := bi ho34
                          refine rh [2, 5] rfl rfl (dref15_Sender_Len_l hx36) rfl rfl rfl (zC rfl rfl rfl rfl (zC rfl rfl rfl rfl (zC rfl rfl rfl rfl (zC rfl rfl rfl rfl (trivial))))) (zE rfl .row rfl (trivial)) ?_
                          refine ek ?_
                          refine as1 rfl ?_
                          refine ae rfl rfl rfl ?_
                          refine rvs 2 rfl ?_
                          refine gs rfl rfl rfl rfl rfl (fun hg => ?_) (fun hg => ?_)
                          · have ho34 := cF hg ho34
                            refine rv rfl rfl ?_
                            refine gy rfl rfl rfl ?_
                            obtain ⟨x12, hx37, ho34⟩ := bi ho34
                            refine rh [1] rfl rfl (dlink_Receiver_Want_l hx37) rfl rfl rfl (zC rfl rfl rfl rfl (trivial)) (trivial) ?_
                            refine ek ?_
                            refine as1 rfl ?_
                            refine ae rfl rfl rfl ?_
                            refine gy rfl rfl rfl ?_
                            refine rv rfl rfl ?_
                            refine gy rfl rfl rfl ?_
                            refine rv rfl rfl ?_
                            refine rv rfl rfl ?_
                            refine rn ?_
                            cases ho34
                            exact cut_n [0, 1, 2, 3, 6, 7] rfl rfl ⟨rfl, rfl, zA rfl rfl rfl (zA rfl rfl rfl (zA rfl rfl rfl (zA rfl rfl rfl (zA rfl rfl rfl (zA rfl rfl rfl (zA rfl rfl rfl (zA rfl rfl rfl (zA rfl rfl rfl (trivial))))))))), zC rfl rfl rfl rfl (zC rfl rfl rfl rfl (zC rfl rfl rfl rfl (zC rfl rfl rfl rfl (zC rfl rfl rfl rfl (zC rfl rfl rfl rfl (zC rfl rfl rfl rfl (zC rfl rfl rfl rfl (zC rfl rfl rfl rfl (trivial))))))))), zE rfl .row rfl (zE rfl .row rfl (zE rfl .row rfl (trivial)))⟩
                          · have ho34 := cT hg ho34
                            refine gn rfl rfl rfl rfl rfl ?_
                            refine gn rfl rfl rfl rfl rfl ?_
                            refine gn rfl rfl rfl rfl rfl ?_
                            refine rv rfl rfl ?_
                            refine rn ?_
                            cases ho34
                            exact cut_n [0, 1, 2, 3, 6, 7] rfl rfl ⟨rfl, rfl, zA rfl rfl rfl (zA rfl rfl rfl (zA rfl rfl rfl (zA rfl rfl rfl (zA rfl rfl rfl (zA rfl rfl rfl (zA rfl rfl rfl (zA rfl rfl rfl (zA rfl rfl rfl (trivial))))))))), zC rfl rfl rfl rfl (zC rfl rfl rfl rfl (zC rfl rfl rfl rfl (zC rfl rfl rfl rfl (zC rfl rfl rfl rfl (zC rfl rfl rfl rfl (zC rfl rfl rfl rfl (zC rfl rfl rfl rfl (zC rfl rfl rfl rfl (trivial))))))))), zE rfl .row rfl (zE rfl .row rfl (zE rfl .row rfl (trivial)))⟩
                        · rintro ⟨x9, s13, s14, s15, r6, m10, m11, m12, l9, l10⟩ rfl
                          change awp _ _ _ _ _ ⟨_, _, _, _⟩
                          refine cs_ rfl (fun hc => ?_) (fun hc => ?_)
                          · have ho25 := cT hc ho25
                            refine awp_seq ?_
                            refine awp_region ?_
                            refine rv rfl rfl ?_
                            refine rn ?_
                            refine awp_ret ?_
                            cases ho25
                            have ho21 := ksr ho21
                            subst ho21
                            have hq := hE22 _ rfl
                            subst hq
                            have h := ksr h
                            subst h
                            repeat (first | refine then_ret ?_ | refine inBlock_ret ?_ | refine cut_r ?_)
                            exact rr rfl rfl rfl
                          · have ho25 := cF hc ho25
                            refine awp_skip ?_
                            refine inBlock_normal ?_
                            cases ho25
                            exact cut_n [0, 1, 2, 3, 4, 5] rfl rfl ⟨rfl, rfl, zA rfl rfl rfl (zA rfl rfl rfl (zA rfl rfl rfl (zA rfl rfl rfl (zA rfl rfl rfl (zA rfl rfl rfl (zA rfl rfl rfl (zA rfl rfl rfl (trivial)))))))), zC rfl rfl rfl rfl (zC rfl rfl rfl rfl (zC rfl rfl rfl rfl (zC rfl rfl rfl rfl (zC rfl rfl rfl rfl (zC rfl rfl rfl rfl (zC rfl rfl rfl rfl (zC rfl rfl rfl rfl (zC rfl rfl rfl rfl (trivial))))))))), zE rfl .row rfl (zE rfl .row rfl (zE rfl .row rfl (trivial)))⟩
                    · have ho25 := cF hc ho25
                      refine awp_seq ?_
                      refine awp_region ?_
                      refine rvs 2 rfl ?_
                      refine rn ?_
                      refine cs_ rfl (fun hc => ?_) (fun hc => ?_)
                      · have ho25 := cT hc ho25
                        refine awp_seq ?_
                        refine awp_region ?_
                        refine rv rfl rfl ?_
                        obtain ⟨l11, hx38, ho25⟩ := bi ho25
                        refine rh [0, 4] rfl rfl (dlink_Sender_Fresh_l hx38) rfl rfl rfl (zC rfl rfl rfl rfl (zC rfl rfl rfl rfl (zC rfl rfl rfl rfl (zC rfl rfl rfl rfl (trivial))))) (zE rfl .row rfl (trivial)) ?_
                        refine ek ?_
                        refine as1 rfl ?_
                        refine ae rfl rfl rfl ?_
                        refine rv rfl rfl ?_
                        refine rn ?_
                        refine awp_seq ?_
                        refine awp_region ?_
                        refine rv rfl rfl ?_
                        obtain ⟨from1, hx39, ho25⟩ := bi ho25
                        refine rh [2, 5] rfl rfl (dref15_Sender_Fresh_l hx39) rfl rfl rfl (zC rfl rfl rfl rfl (zC rfl rfl rfl rfl (zC rfl rfl rfl rfl (zC rfl rfl rfl rfl (trivial))))) (zE rfl .row rfl (trivial)) ?_
                        refine ek ?_
                        refine as1 rfl ?_
                        refine ae rfl rfl rfl ?_
                        refine rvs 5 rfl ?_
                        refine rn ?_
                        refine awp_seq ?_
                        refine awp_seq ?_
                        refine awp_region ?_
                        refine rvs 4 rfl ?_
                        obtain ⟨x13, hx40, ho25⟩ := bi ho25
                        refine rh [2, 8] rfl rfl (dlaw15_packets_l hx40) rfl rfl rfl (zC rfl rfl rfl rfl (zC rfl rfl rfl rfl (zC rfl rfl rfl rfl (zC rfl rfl rfl rfl (trivial))))) (zE rfl .row rfl (trivial)) ?_
                        refine ek ?_
                        refine as1 rfl ?_
                        refine ae rfl rfl rfl ?_
                        refine rv rfl rfl ?_
                        refine rn ?_
                        refine cs_ rfl (fun hc => ?_) (fun hc => ?_)
                        · have ho25 := cT hc ho25
                          refine awp_seq ?_
                          refine awp_region ?_
                          refine rv rfl rfl ?_
                          refine rn ?_
                          refine awp_ret ?_
                          cases ho25
                          have ho21 := ksr ho21
                          subst ho21
                          have hq := hE22 _ rfl
                          subst hq
                          have h := ksr h
                          subst h
                          repeat (first | refine then_ret ?_ | refine inBlock_ret ?_ | refine cut_r ?_)
                          exact rr rfl rfl rfl
                        · have ho25 := cF hc ho25
                          refine awp_skip ?_
                          refine awp_region ?_
                          refine rbs false rfl rfl rfl rfl rfl rfl rfl rfl rfl rfl ?_
                          refine rv rfl rfl ?_
                          obtain ⟨flight4, hx41, ho25⟩ := bi ho25
                          refine rap false (xs := [].map c_tPacket) (ys := flight1.map c_tPacket) rfl rfl rfl rfl rfl rfl rfl (.own rfl rfl) (.sl rfl rfl rfl) (wM (fun _ => by rfl) _) (oM (fun _ => by rfl) _) (apB c_tPacket rfl hx41) rfl ?_
                          refine rk (congrArg (Kind.row _) (apM c_tPacket hx41)) ?_
                          refine rv rfl rfl ?_
                          obtain ⟨flight5, hx42, ho25⟩ := bi ho25
                          refine rap false (xs := flight4.map c_tPacket) (ys := l11.1.map c_tPacket) rfl rfl rfl rfl rfl rfl rfl (.own rfl rfl) (.sl rfl rfl rfl) (wM (fun _ => by rfl) _) (oM (fun _ => by rfl) _) (apB c_tPacket rfl hx42) rfl ?_
                          refine rk (congrArg (Kind.row _) (apM c_tPacket hx42)) ?_
                          refine rv rfl rfl ?_
                          refine rn ?_
                          refine inBlock_normal ?_
                          refine awp_seq ?_
                          obtain ⟨o43, ho44, ho25⟩ := bi ho25
                          refine awp_cut1 (fun x => x = o43) (fun (((x14, s16, s17, s18, r7, m13, m14, m15, l12, l13)) : Bool × Int × Int × Int × Int × Int × Int × Int × (List Str) × (List Str)) => ⟨[(1, .sl (d1.map c_tlaw15Deed)), (5, .bool head1), (6, .ptr 0 0), (8, .ptr 1 0), (9, .ptr 2 0), (10, .int .u64 want1), (11, .own 3), (12, .int .i64 i1), (247, .bool x14)], [(0, 0, .int .i64 s16), (0, 1, .own 4), (0, 2, .int .u64 s17), (0, 3, .int .u64 s18), (1, 0, .int .u64 r7), (2, 0, .int .i64 m13), (2, 1, .own 5), (2, 2, .int .i64 m14), (2, 3, .int .i64 m15)], [(3, .row 2 (flight5.map c_tPacket)), (4, .row 1 (l12.map (cL cU8))), (5, .row 1 (l13.map (cL cU8)))], 6⟩) ?_ ?_
                          · refine awp_region ?_
                            refine rv rfl rfl ?_
                            obtain ⟨x15, hx45, ho44⟩ := bi ho44
                            refine rh [0, 7] rfl rfl (dlink_Sender_Len_l hx45) rfl rfl rfl (zC rfl rfl rfl rfl (zC rfl rfl rfl rfl (zC rfl rfl rfl rfl (zC rfl rfl rfl rfl (trivial))))) (zE rfl .row rfl (trivial)) ?_
                            refine ek ?_
                            refine as1 rfl ?_
                            refine ae rfl rfl rfl ?_
                            refine rv rfl rfl ?_
                            obtain ⟨x16, hx46, ho44⟩ := bi ho44
                            refine rh [2, 9] rfl rfl (dref15_Sender_Len_l hx46) rfl rfl rfl (zC rfl rfl rfl rfl (zC rfl rfl rfl rfl (zC rfl rfl rfl rfl (zC rfl rfl rfl rfl (trivial))))) (zE rfl .row rfl (trivial)) ?_
                            refine ek ?_
                            refine as1 rfl ?_
                            refine ae rfl rfl rfl ?_
                            refine rvs 2 rfl ?_
                            refine gs rfl rfl rfl rfl rfl (fun hg => ?_) (fun hg => ?_)
                            · have ho44 := cF hg ho44
                              refine rv rfl rfl ?_
                              refine gy rfl rfl rfl ?_
                              obtain ⟨x17, hx47, ho44⟩ := bi ho44
                              refine rh [1] rfl rfl (dlink_Receiver_Want_l hx47) rfl rfl rfl (zC rfl rfl rfl rfl (trivial)) (trivial) ?_
                              refine ek ?_
                              refine as1 rfl ?_
                              refine ae rfl rfl rfl ?_
                              refine gy rfl rfl rfl ?_
                              refine rv rfl rfl ?_
                              refine gy rfl rfl rfl ?_
                              refine rv rfl rfl ?_
                              refine rv rfl rfl ?_
                              refine rn ?_
                              cases ho44
                              exact cut_n [0, 1, 2, 12, 13, 14] rfl rfl ⟨rfl, rfl, zA rfl rfl rfl (zA rfl rfl rfl (zA rfl rfl rfl (zA rfl rfl rfl (zA rfl rfl rfl (zA rfl rfl rfl (zA rfl rfl rfl (zA rfl rfl rfl (zA rfl rfl rfl (trivial))))))))), zC rfl rfl rfl rfl (zC rfl rfl rfl rfl (zC rfl rfl rfl rfl (zC rfl rfl rfl rfl (zC rfl rfl rfl rfl (zC rfl rfl rfl rfl (zC rfl rfl rfl rfl (zC rfl rfl rfl rfl (zC rfl rfl rfl rfl (trivial))))))))), zE rfl .row rfl (zE rfl .row rfl (zE rfl .row rfl (trivial)))⟩
                            · have ho44 := cT hg ho44
                              refine gn rfl rfl rfl rfl rfl ?_
                              refine gn rfl rfl rfl rfl rfl ?_
                              refine gn rfl rfl rfl rfl rfl ?_
                              refine rv rfl rfl ?_
                              refine rn ?_
                              cases ho44
                              exact cut_n [0, 1, 2, 12, 13, 14] rfl rfl ⟨rfl, rfl, zA rfl rfl rfl (zA rfl rfl rfl (zA rfl rfl rfl (zA rfl rfl rfl (zA rfl rfl rfl (zA rfl rfl rfl (zA rfl rfl rfl (zA rfl rfl rfl (zA rfl rfl rfl (trivial))))))))), zC rfl rfl rfl rfl (zC rfl rfl rfl rfl (zC rfl rfl rfl rfl (zC rfl rfl rfl rfl (zC rfl rfl rfl rfl (zC rfl rfl rfl rfl (zC rfl rfl rfl rfl (zC rfl rfl rfl rfl (zC rfl rfl rfl rfl (trivial))))))))), zE rfl .row rfl (zE rfl .row rfl (zE rfl .row rfl (trivial)))⟩
                          · rintro ⟨x14, s16, s17, s18, r7, m13, m14, m15, l12, l13⟩ rfl
                            change awp _ _ _ _ _ ⟨_, _, _, _⟩
                            refine cs_ rfl (fun hc => ?_) (fun hc => ?_)
                            · have ho25 := cT hc ho25
                              refine awp_seq ?_
                              refine awp_region ?_
                              refine rv rfl rfl ?_
                              refine rn ?_
                              refine awp_ret ?_
                              cases ho25
                              have ho21 := ksr ho21
                              subst ho21
                              have hq := hE22 _ rfl
                              subst hq
                              have h := ksr h
                              subst h
                              repeat (first | refine then_ret ?_ | refine inBlock_ret ?_ | refine cut_r ?_)
                              exact rr rfl rfl rfl
                            · have ho25 := cF hc ho25
                              refine awp_skip ?_
                              refine inBlock_normal ?_
                              cases ho25
                              exact cut_n [0, 1, 2, 3, 4, 5] rfl rfl ⟨rfl, rfl, zA rfl rfl rfl (zA rfl rfl rfl (zA rfl rfl rfl (zA rfl rfl rfl (zA rfl rfl rfl (zA rfl rfl rfl (zA rfl rfl rfl (zA rfl rfl rfl (trivial)))))))), zC rfl rfl rfl rfl (zC rfl rfl rfl rfl (zC rfl rfl rfl rfl (zC rfl rfl rfl rfl (zC rfl rfl rfl rfl (zC rfl rfl rfl rfl (zC rfl rfl rfl rfl (zC rfl rfl rfl rfl (zC rfl rfl rfl rfl (trivial))))))))), zE rfl .row rfl (zE rfl .row rfl (zE rfl .row rfl (trivial)))⟩
                      · have ho25 := cF hc ho25
                        refine awp_seq ?_
                        refine awp_region ?_
                        refine rvs 2 rfl ?_
                        refine rn ?_
                        refine cs_ rfl (fun hc => ?_) (fun hc => ?_)
                        · have ho25 := cT hc ho25
                          refine awp_seq ?_
                          refine awp_region ?_
                          refine rv rfl rfl ?_
                          obtain ⟨l14, hx48, ho25⟩ := bi ho25
                          refine rh [0, 4] rfl rfl (dlink_Sender_Again_l hx48) rfl rfl rfl (zC rfl rfl rfl rfl (zC rfl rfl rfl rfl (zC rfl rfl rfl rfl (zC rfl rfl rfl rfl (trivial))))) (zE rfl .row rfl (trivial)) ?_
                          refine ek ?_
                          refine as1 rfl ?_
                          refine ae rfl rfl rfl ?_
                          refine rv rfl rfl ?_
                          refine rn ?_
                          refine awp_seq ?_
                          refine awp_seq ?_
                          refine awp_dx (m := 12) [] Try.mix (by kernel_rfl) (by kernel_rfl) (by kernel_rfl) (by kernel_rfl) (by kernel_rfl) (by kernel_rfl) ?_
                          refine xv [] rfl rfl (fun _ => rfl) ?_
                          refine xv [] rfl rfl (fun _ => rfl) ?_
                          refine xv [] rfl rfl (fun _ => rfl) ?_
                          refine xv [] rfl rfl (fun _ => rfl) ?_
                          refine xv [] rfl rfl (fun _ => rfl) ?_
                          refine xv [2] rfl rfl (fun _ => rfl) ?_
                          refine xv [] rfl rfl (fun _ => rfl) ?_
                          refine xv [] rfl rfl (fun _ => rfl) ?_
                          refine xv [] rfl rfl (fun _ => rfl) ?_
                          refine xv [2] rfl rfl (fun _ => rfl) ?_
                          obtain ⟨x18, hx49, ho25⟩ := bi ho25
                          refine xE [2, 5] (.bool x18.1) 9 _ _ rfl rfl (by
                              refine rh [2, 5] rfl rfl (dlaw15_packets_l hx49) rfl rfl rfl (zC rfl rfl rfl rfl (zC rfl rfl rfl rfl (zC rfl rfl rfl rfl (zC rfl rfl rfl rfl (trivial))))) (zE rfl .row rfl (trivial)) ?_
                              refine ek ?_
                              refine as1 rfl ?_
                              refine ae rfl rfl rfl ?_
                              exact rn ⟨rfl, rfl⟩) (by rfl) (by rfl) (by rfl) ?_
                          refine xv [] rfl rfl (fun _ => rfl) ?_
                          refine xn (by kernel_rfl) ?_
                          refine rn ?_
                          refine cs_ rfl (fun hc => ?_) (fun hc => ?_)
                          · have ho25 := cT hc ho25
                            refine awp_seq ?_
                            refine awp_region ?_
                            refine rv rfl rfl ?_
                            refine rn ?_
                            refine awp_ret ?_
                            cases ho25
                            have ho21 := ksr ho21
                            subst ho21
                            have hq := hE22 _ rfl
                            subst hq
                            have h := ksr h
                            subst h
                            repeat (first | refine then_ret ?_ | refine inBlock_ret ?_ | refine cut_r ?_)
                            exact rr rfl rfl rfl
                          · have ho25 := cF hc ho25
                            refine awp_skip ?_
                            refine awp_seq ?_
                            refine awp_region ?_
                            refine rv rfl rfl ?_
                            refine rv rfl rfl ?_
                            refine rt ((lM c_tPacket flight1)) ?_
                            refine rv rfl rfl ?_
                            refine rn ?_
                            obtain ⟨o50, ho51, ho25⟩ := bi ho25
                            refine awp_cut1 (fun x => x = o50) (fun (flight6 : List tPacket) => ⟨[(1, .sl (d1.map c_tlaw15Deed)), (5, .bool head1), (6, .ptr 0 0), (8, .ptr 1 0), (9, .ptr 2 0), (10, .int .u64 want1), (11, .own 3), (12, .int .i64 i1)], [(0, 0, .int .i64 l14.2.Window), (0, 1, .own 4), (0, 2, .int .u64 l14.2.First), (0, 3, .int .u64 l14.2.Next), (1, 0, .int .u64 r3), (2, 0, .int .i64 x18.2.Window), (2, 1, .own 5), (2, 2, .int .i64 x18.2.Acked), (2, 3, .int .i64 x18.2.Told)], [(3, .row 2 (flight6.map c_tPacket)), (4, .row 1 (l14.2.L.map (cL cU8))), (5, .row 1 (x18.2.L.map (cL cU8)))], 6⟩) ?_ ?_
                            · refine cs_ rfl (fun hc => ?_) (fun hc => ?_)
                              · have ho51 := cT hc ho51
                                refine awp_region ?_
                                refine rbs false rfl rfl rfl rfl rfl rfl rfl rfl rfl rfl ?_
                                refine rv rfl rfl ?_
                                obtain ⟨flight7, hx52, ho51⟩ := bi ho51
                                refine rap false (xs := [].map c_tPacket) (ys := flight1.map c_tPacket) rfl rfl rfl rfl rfl rfl rfl (.own rfl rfl) (.sl rfl rfl rfl) (wM (fun _ => by rfl) _) (oM (fun _ => by rfl) _) (apB c_tPacket rfl hx52) rfl ?_
                                refine rk (congrArg (Kind.row _) (apM c_tPacket hx52)) ?_
                                refine rv rfl rfl ?_
                                obtain ⟨flight8, hx53, ho51⟩ := bi ho51
                                refine rap false (xs := flight7.map c_tPacket) (ys := l14.1.map c_tPacket) rfl rfl rfl rfl rfl rfl rfl (.own rfl rfl) (.sl rfl rfl rfl) (wM (fun _ => by rfl) _) (oM (fun _ => by rfl) _) (apB c_tPacket rfl hx53) rfl ?_
                                refine rk (congrArg (Kind.row _) (apM c_tPacket hx53)) ?_
                                refine rv rfl rfl ?_
                                refine rn ?_
                                cases ho51
                                exact cut_n [0, 1, 2, 11, 7, 8] rfl rfl ⟨rfl, rfl, zA rfl rfl rfl (zA rfl rfl rfl (zA rfl rfl rfl (zA rfl rfl rfl (zA rfl rfl rfl (zA rfl rfl rfl (zA rfl rfl rfl (zA rfl rfl rfl (trivial)))))))), zC rfl rfl rfl rfl (zC rfl rfl rfl rfl (zC rfl rfl rfl rfl (zC rfl rfl rfl rfl (zC rfl rfl rfl rfl (zC rfl rfl rfl rfl (zC rfl rfl rfl rfl (zC rfl rfl rfl rfl (zC rfl rfl rfl rfl (trivial))))))))), zE rfl .row rfl (zE rfl .row rfl (zE rfl .row rfl (trivial)))⟩
                              · have ho51 := cF hc ho51
                                refine awp_skip ?_
                                cases ho51
                                exact cut_n [0, 1, 2, 3, 7, 8] rfl rfl ⟨rfl, rfl, zA rfl rfl rfl (zA rfl rfl rfl (zA rfl rfl rfl (zA rfl rfl rfl (zA rfl rfl rfl (zA rfl rfl rfl (zA rfl rfl rfl (zA rfl rfl rfl (trivial)))))))), zC rfl rfl rfl rfl (zC rfl rfl rfl rfl (zC rfl rfl rfl rfl (zC rfl rfl rfl rfl (zC rfl rfl rfl rfl (zC rfl rfl rfl rfl (zC rfl rfl rfl rfl (zC rfl rfl rfl rfl (zC rfl rfl rfl rfl (trivial))))))))), zE rfl .row rfl (zE rfl .row rfl (zE rfl .row rfl (trivial)))⟩
                            · rintro flight6 rfl
                              change awp _ _ _ _ _ ⟨_, _, _, _⟩
                              refine awp_seq ?_
                              obtain ⟨o54, ho55, ho25⟩ := bi ho25
                              refine awp_cut1 (fun x => x = o54) (fun (((x19, s19, s20, s21, r8, m16, m17, m18, l15, l16)) : Bool × Int × Int × Int × Int × Int × Int × Int × (List Str) × (List Str)) => ⟨[(1, .sl (d1.map c_tlaw15Deed)), (5, .bool head1), (6, .ptr 0 0), (8, .ptr 1 0), (9, .ptr 2 0), (10, .int .u64 want1), (11, .own 3), (12, .int .i64 i1), (247, .bool x19)], [(0, 0, .int .i64 s19), (0, 1, .own 4), (0, 2, .int .u64 s20), (0, 3, .int .u64 s21), (1, 0, .int .u64 r8), (2, 0, .int .i64 m16), (2, 1, .own 5), (2, 2, .int .i64 m17), (2, 3, .int .i64 m18)], [(3, .row 2 (flight6.map c_tPacket)), (4, .row 1 (l15.map (cL cU8))), (5, .row 1 (l16.map (cL cU8)))], 6⟩) ?_ ?_
                              · refine awp_region ?_
                                refine rv rfl rfl ?_
                                obtain ⟨x20, hx56, ho55⟩ := bi ho55
                                refine rh [0, 4] rfl rfl (dlink_Sender_Len_l hx56) rfl rfl rfl (zC rfl rfl rfl rfl (zC rfl rfl rfl rfl (zC rfl rfl rfl rfl (zC rfl rfl rfl rfl (trivial))))) (zE rfl .row rfl (trivial)) ?_
                                refine ek ?_
                                refine as1 rfl ?_
                                refine ae rfl rfl rfl ?_
                                refine rv rfl rfl ?_
                                obtain ⟨x21, hx57, ho55⟩ := bi ho55
                                refine rh [2, 5] rfl rfl (dref15_Sender_Len_l hx57) rfl rfl rfl (zC rfl rfl rfl rfl (zC rfl rfl rfl rfl (zC rfl rfl rfl rfl (zC rfl rfl rfl rfl (trivial))))) (zE rfl .row rfl (trivial)) ?_
                                refine ek ?_
                                refine as1 rfl ?_
                                refine ae rfl rfl rfl ?_
                                refine rvs 2 rfl ?_
                                refine gs rfl rfl rfl rfl rfl (fun hg => ?_) (fun hg => ?_)
                                · have ho55 := cF hg ho55
                                  refine rv rfl rfl ?_
                                  refine gy rfl rfl rfl ?_
                                  obtain ⟨x22, hx58, ho55⟩ := bi ho55
                                  refine rh [1] rfl rfl (dlink_Receiver_Want_l hx58) rfl rfl rfl (zC rfl rfl rfl rfl (trivial)) (trivial) ?_
                                  refine ek ?_
                                  refine as1 rfl ?_
                                  refine ae rfl rfl rfl ?_
                                  refine gy rfl rfl rfl ?_
                                  refine rv rfl rfl ?_
                                  refine gy rfl rfl rfl ?_
                                  refine rv rfl rfl ?_
                                  refine rv rfl rfl ?_
                                  refine rn ?_
                                  cases ho55
                                  exact cut_n [0, 1, 2, 3, 6, 7] rfl rfl ⟨rfl, rfl, zA rfl rfl rfl (zA rfl rfl rfl (zA rfl rfl rfl (zA rfl rfl rfl (zA rfl rfl rfl (zA rfl rfl rfl (zA rfl rfl rfl (zA rfl rfl rfl (zA rfl rfl rfl (trivial))))))))), zC rfl rfl rfl rfl (zC rfl rfl rfl rfl (zC rfl rfl rfl rfl (zC rfl rfl rfl rfl (zC rfl rfl rfl rfl (zC rfl rfl rfl rfl (zC rfl rfl rfl rfl (zC rfl rfl rfl rfl (zC rfl rfl rfl rfl (trivial))))))))), zE rfl .row rfl (zE rfl .row rfl (zE rfl .row rfl (trivial)))⟩
                                · have ho55 := cT hg ho55
                                  refine gn rfl rfl rfl rfl rfl ?_
                                  refine gn rfl rfl rfl rfl rfl ?_
                                  refine gn rfl rfl rfl rfl rfl ?_
                                  refine rv rfl rfl ?_
                                  refine rn ?_
                                  cases ho55
                                  exact cut_n [0, 1, 2, 3, 6, 7] rfl rfl ⟨rfl, rfl, zA rfl rfl rfl (zA rfl rfl rfl (zA rfl rfl rfl (zA rfl rfl rfl (zA rfl rfl rfl (zA rfl rfl rfl (zA rfl rfl rfl (zA rfl rfl rfl (zA rfl rfl rfl (trivial))))))))), zC rfl rfl rfl rfl (zC rfl rfl rfl rfl (zC rfl rfl rfl rfl (zC rfl rfl rfl rfl (zC rfl rfl rfl rfl (zC rfl rfl rfl rfl (zC rfl rfl rfl rfl (zC rfl rfl rfl rfl (zC rfl rfl rfl rfl (trivial))))))))), zE rfl .row rfl (zE rfl .row rfl (zE rfl .row rfl (trivial)))⟩
                              · rintro ⟨x19, s19, s20, s21, r8, m16, m17, m18, l15, l16⟩ rfl
                                change awp _ _ _ _ _ ⟨_, _, _, _⟩
                                refine cs_ rfl (fun hc => ?_) (fun hc => ?_)
                                · have ho25 := cT hc ho25
                                  refine awp_seq ?_
                                  refine awp_region ?_
                                  refine rv rfl rfl ?_
                                  refine rn ?_
                                  refine awp_ret ?_
                                  cases ho25
                                  have ho21 := ksr ho21
                                  subst ho21
                                  have hq := hE22 _ rfl
                                  subst hq
                                  have h := ksr h
                                  subst h
                                  repeat (first | refine then_ret ?_ | refine inBlock_ret ?_ | refine cut_r ?_)
                                  exact rr rfl rfl rfl
                                · have ho25 := cF hc ho25
                                  refine awp_skip ?_
                                  refine inBlock_normal ?_
                                  cases ho25
                                  exact cut_n [0, 1, 2, 3, 4, 5] rfl rfl ⟨rfl, rfl, zA rfl rfl rfl (zA rfl rfl rfl (zA rfl rfl rfl (zA rfl rfl rfl (zA rfl rfl rfl (zA rfl rfl rfl (zA rfl rfl rfl (zA rfl rfl rfl (trivial)))))))), zC rfl rfl rfl rfl (zC rfl rfl rfl rfl (zC rfl rfl rfl rfl (zC rfl rfl rfl rfl (zC rfl rfl rfl rfl (zC rfl rfl rfl rfl (zC rfl rfl rfl rfl (zC rfl rfl rfl rfl (zC rfl rfl rfl rfl (trivial))))))))), zE rfl .row rfl (zE rfl .row rfl (zE rfl .row rfl (trivial)))⟩
                        · have ho25 := cF hc ho25
                          refine awp_seq ?_
                          refine awp_seq ?_
                          refine awp_region ?_
                          refine rvs 2 rfl ?_
                          refine rn ?_
                          obtain ⟨o59, ho60, ho25⟩ := bi ho25
                          refine awp_cut1 (fun x => x = o59) (fun (x23 : Bool) => ⟨[(1, .sl (d1.map c_tlaw15Deed)), (5, .bool head1), (6, .ptr 0 0), (8, .ptr 1 0), (9, .ptr 2 0), (10, .int .u64 want1), (11, .own 3), (12, .int .i64 i1), (13, .ptr 4 0), (178, .bool x23)], [(0, 0, .int .i64 s4), (0, 1, .own 5), (0, 2, .int .u64 s5), (0, 3, .int .u64 s6), (1, 0, .int .u64 r3), (2, 0, .int .i64 m1), (2, 1, .own 6), (2, 2, .int .i64 m2), (2, 3, .int .i64 m3), (4, 0, .int .i64 x6.What), (4, 1, .int .i64 x6.N), (4, 2, .bool x6.Own), (4, 3, .sl (x6.B.map cU8))], [(3, .row 2 (flight1.map c_tPacket)), (5, .row 1 (l1.map (cL cU8))), (6, .row 1 (l2.map (cL cU8)))], 7⟩) ?_ ?_
                          · refine cs_ rfl (fun hc => ?_) (fun hc => ?_)
                            · have ho60 := cT hc ho60
                              refine awp_skip ?_
                              cases ho60
                              exact cut_n [0, 1, 2, 3, 6, 4, 5] rfl rfl ⟨rfl, rfl, zA rfl rfl rfl (zA rfl rfl rfl (zA rfl rfl rfl (zA rfl rfl rfl (zA rfl rfl rfl (zA rfl rfl rfl (zA rfl rfl rfl (zA rfl rfl rfl (zA rfl rfl rfl (zA rfl rfl rfl (trivial)))))))))), zC rfl rfl rfl rfl (zC rfl rfl rfl rfl (zC rfl rfl rfl rfl (zC rfl rfl rfl rfl (zC rfl rfl rfl rfl (zC rfl rfl rfl rfl (zC rfl rfl rfl rfl (zC rfl rfl rfl rfl (zC rfl rfl rfl rfl (zC rfl rfl rfl rfl (zC rfl rfl rfl rfl (zC rfl rfl rfl rfl (zC rfl rfl rfl rfl (trivial))))))))))))), zE rfl .row rfl (zE rfl .row rfl (zE rfl .row rfl (trivial)))⟩
                            · have ho60 := cF hc ho60
                              refine awp_region ?_
                              refine rvs 2 rfl ?_
                              refine rn ?_
                              cases ho60
                              exact cut_n [0, 1, 2, 3, 6, 4, 5] rfl rfl ⟨rfl, rfl, zA rfl rfl rfl (zA rfl rfl rfl (zA rfl rfl rfl (zA rfl rfl rfl (zA rfl rfl rfl (zA rfl rfl rfl (zA rfl rfl rfl (zA rfl rfl rfl (zA rfl rfl rfl (zA rfl rfl rfl (trivial)))))))))), zC rfl rfl rfl rfl (zC rfl rfl rfl rfl (zC rfl rfl rfl rfl (zC rfl rfl rfl rfl (zC rfl rfl rfl rfl (zC rfl rfl rfl rfl (zC rfl rfl rfl rfl (zC rfl rfl rfl rfl (zC rfl rfl rfl rfl (zC rfl rfl rfl rfl (zC rfl rfl rfl rfl (zC rfl rfl rfl rfl (zC rfl rfl rfl rfl (trivial))))))))))))), zE rfl .row rfl (zE rfl .row rfl (zE rfl .row rfl (trivial)))⟩
                          · rintro x23 rfl
                            change awp _ _ _ _ _ ⟨_, _, _, _⟩
                            refine cs_ rfl (fun hc => ?_) (fun hc => ?_)
                            · have ho25 := cT hc ho25
                              refine awp_seq ?_
                              refine awp_seq ?_
                              refine awp_region ?_
                              refine rv rfl rfl ?_
                              refine rv rfl rfl ?_
                              refine rt ((lM c_tPacket flight1)) ?_
                              refine rv rfl rfl ?_
                              refine rn ?_
                              refine cs_ rfl (fun hc => ?_) (fun hc => ?_)
                              · have ho25 := cT hc ho25
                                refine awp_exit ?_
                                repeat (first | refine then_exit ?_ | refine cut_x ?_ | refine inBlock_other rfl ?_)
                                refine inBlock_exit ?_
                                cases ho25
                                exact cut_n [0, 1, 2, 3, 5, 6] rfl rfl ⟨rfl, rfl, zA rfl rfl rfl (zA rfl rfl rfl (zA rfl rfl rfl (zA rfl rfl rfl (zA rfl rfl rfl (zA rfl rfl rfl (zA rfl rfl rfl (zA rfl rfl rfl (trivial)))))))), zC rfl rfl rfl rfl (zC rfl rfl rfl rfl (zC rfl rfl rfl rfl (zC rfl rfl rfl rfl (zC rfl rfl rfl rfl (zC rfl rfl rfl rfl (zC rfl rfl rfl rfl (zC rfl rfl rfl rfl (zC rfl rfl rfl rfl (trivial))))))))), zE rfl .row rfl (zE rfl .row rfl (zE rfl .row rfl (trivial)))⟩
                              · have ho25 := cF hc ho25
                                refine awp_skip ?_
                                refine awp_seq ?_
                                refine awp_region ?_
                                refine rvs 3 rfl ?_
                                refine rv rfl rfl ?_
                                refine rt ((lM c_tPacket flight1)) ?_
                                obtain ⟨k1, hx61, ho25⟩ := bi ho25
                                refine rc1 rfl rfl rfl (dlaw15_pick_l hx61) ?_
                                refine rv rfl rfl ?_
                                refine rn ?_
                                refine awp_seq ?_
                                refine awp_region ?_
                                refine rvs 2 rfl ?_
                                obtain ⟨x24, hx62, ho25⟩ := bi ho25
                                refine ri rfl rfl rfl rfl rfl rfl (gi0 hx62) (giM c_tPacket hx62) (wM (fun _ => by rfl) _) ?_
                                refine rv rfl rfl ?_
                                refine ra rfl rfl rfl ?_
                                refine rs rfl rfl rfl rfl rfl rfl rfl ?_
                                refine rn ?_
                                refine awp_seq ?_
                                refine awp_seq ?_
                                refine awp_region ?_
                                refine rvs 2 rfl ?_
                                obtain ⟨x25, hx63, ho25⟩ := bi ho25
                                refine rc1 rfl rfl rfl (dlaw15_pick_l hx63) ?_
                                refine rv rfl rfl ?_
                                refine rn ?_
                                obtain ⟨o64, ho65, ho25⟩ := bi ho25
                                refine awp_cut1 (fun x => Sum.inl x = o64) (fun (((want4, r9)) : Int × Int) => ⟨[(1, .sl (d1.map c_tlaw15Deed)), (5, .bool head1), (6, .ptr 0 0), (8, .ptr 1 0), (9, .ptr 2 0), (10, .int .u64 want4), (11, .own 3), (12, .int .i64 i1), (19, .int .i64 k1)], [(0, 0, .int .i64 s4), (0, 1, .own 4), (0, 2, .int .u64 s5), (0, 3, .int .u64 s6), (1, 0, .int .u64 r9), (2, 0, .int .i64 m1), (2, 1, .own 5), (2, 2, .int .i64 m2), (2, 3, .int .i64 m3)], [(3, .row 2 (flight1.map c_tPacket)), (4, .row 1 (l1.map (cL cU8))), (5, .row 1 (l2.map (cL cU8)))], 6⟩) ?_ ?_
                                · refine cs_ rfl (fun hc => ?_) (fun hc => ?_)
                                  · have ho65 := cT hc ho65
                                    refine awp_seq ?_
                                    refine awp_region ?_
                                    refine rvs 2 rfl ?_
                                    obtain ⟨b1, hx66, ho65⟩ := bi ho65
                                    refine rh [1] rfl rfl (dlink_Receiver_Take_l hx66) rfl rfl rfl (zC rfl rfl rfl rfl (trivial)) (trivial) ?_
                                    refine ek ?_
                                    refine as1 rfl ?_
                                    refine ae rfl rfl rfl ?_
                                    refine rvs 5 rfl ?_
                                    refine rn ?_
                                    refine awp_seq ?_
                                    refine awp_seq ?_
                                    obtain ⟨o67, ho68, ho65⟩ := bi ho65
                                    refine awp_cut1 (fun x => x = o67) (fun (x26 : Bool) => ⟨[(1, .sl (d1.map c_tlaw15Deed)), (5, .bool head1), (6, .ptr 0 0), (8, .ptr 1 0), (9, .ptr 2 0), (10, .int .u64 want1), (11, .own 3), (12, .int .i64 i1), (19, .int .i64 k1), (20, .ptr 4 0), (21, .sl (b1.1.map cU8)), (22, .bool b1.2.1), (217, .bool x26)], [(0, 0, .int .i64 s4), (0, 1, .own 5), (0, 2, .int .u64 s5), (0, 3, .int .u64 s6), (1, 0, .int .u64 b1.2.2.Want), (2, 0, .int .i64 m1), (2, 1, .own 6), (2, 2, .int .i64 m2), (2, 3, .int .i64 m3), (4, 0, .int .u64 x24.Seq), (4, 1, .sl (x24.Data.map cU8))], [(3, .row 2 (flight1.map c_tPacket)), (5, .row 1 (l1.map (cL cU8))), (6, .row 1 (l2.map (cL cU8)))], 7⟩) ?_ ?_
                                    · refine awp_region ?_
                                      refine rvs 7 rfl ?_
                                      refine gs rfl rfl rfl rfl rfl (fun hg => ?_) (fun hg => ?_)
                                      · have ho68 := cF hg ho68
                                        refine rv rfl rfl ?_
                                        refine gy rfl rfl rfl ?_
                                        refine rv rfl rfl ?_
                                        refine gy rfl rfl rfl ?_
                                        refine rv rfl rfl ?_
                                        refine gs rfl rfl rfl rfl rfl (fun hg => ?_) (fun hg => ?_)
                                        · have ho68 := cT hg ho68
                                          refine rv rfl rfl ?_
                                          refine gy rfl rfl rfl ?_
                                          refine rv rfl rfl ?_
                                          refine rt ((lM cU8 b1.1)) ?_
                                          refine gy rfl rfl rfl ?_
                                          refine rv rfl rfl ?_
                                          refine gy rfl rfl rfl ?_
                                          refine rv rfl rfl ?_
                                          refine rv rfl rfl ?_
                                          refine rn ?_
                                          cases ho68
                                          exact cut_n [0, 1, 2, 3, 7, 5, 6] rfl rfl ⟨rfl, rfl, zA rfl rfl rfl (zA rfl rfl rfl (zA rfl rfl rfl (zA rfl rfl rfl (zA rfl rfl rfl (zA rfl rfl rfl (zA rfl rfl rfl (zA rfl rfl rfl (zA rfl rfl rfl (zA rfl rfl rfl (zA rfl rfl rfl (zA rfl rfl rfl (zA rfl rfl rfl (trivial))))))))))))), zC rfl rfl rfl rfl (zC rfl rfl rfl rfl (zC rfl rfl rfl rfl (zC rfl rfl rfl rfl (zC rfl rfl rfl rfl (zC rfl rfl rfl rfl (zC rfl rfl rfl rfl (zC rfl rfl rfl rfl (zC rfl rfl rfl rfl (zC rfl rfl rfl rfl (zC rfl rfl rfl rfl (trivial))))))))))), zE rfl .row rfl (zE rfl .row rfl (zE rfl .row rfl (trivial)))⟩
                                        · have ho68 := cF hg ho68
                                          refine gn rfl rfl rfl rfl rfl ?_
                                          refine gn rfl rfl rfl rfl rfl ?_
                                          refine gy rfl rfl rfl ?_
                                          refine rv rfl rfl ?_
                                          refine rv rfl rfl ?_
                                          refine rn ?_
                                          cases ho68
                                          exact cut_n [0, 1, 2, 3, 7, 5, 6] rfl rfl ⟨rfl, rfl, zA rfl rfl rfl (zA rfl rfl rfl (zA rfl rfl rfl (zA rfl rfl rfl (zA rfl rfl rfl (zA rfl rfl rfl (zA rfl rfl rfl (zA rfl rfl rfl (zA rfl rfl rfl (zA rfl rfl rfl (zA rfl rfl rfl (zA rfl rfl rfl (zA rfl rfl rfl (trivial))))))))))))), zC rfl rfl rfl rfl (zC rfl rfl rfl rfl (zC rfl rfl rfl rfl (zC rfl rfl rfl rfl (zC rfl rfl rfl rfl (zC rfl rfl rfl rfl (zC rfl rfl rfl rfl (zC rfl rfl rfl rfl (zC rfl rfl rfl rfl (zC rfl rfl rfl rfl (zC rfl rfl rfl rfl (trivial))))))))))), zE rfl .row rfl (zE rfl .row rfl (zE rfl .row rfl (trivial)))⟩
                                      · have ho68 := cT hg ho68
                                        refine gn rfl rfl rfl rfl rfl ?_
                                        refine gn rfl rfl rfl rfl rfl ?_
                                        refine gu rfl rfl rfl rfl ?_
                                        refine gu rfl rfl rfl rfl ?_
                                        refine gu rfl rfl rfl rfl ?_
                                        refine gn rfl rfl rfl rfl rfl ?_
                                        refine rv rfl rfl ?_
                                        refine rn ?_
                                        cases ho68
                                        exact cut_n [0, 1, 2, 3, 7, 5, 6] rfl rfl ⟨rfl, rfl, zA rfl rfl rfl (zA rfl rfl rfl (zA rfl rfl rfl (zA rfl rfl rfl (zA rfl rfl rfl (zA rfl rfl rfl (zA rfl rfl rfl (zA rfl rfl rfl (zA rfl rfl rfl (zA rfl rfl rfl (zA rfl rfl rfl (zA rfl rfl rfl (zA rfl rfl rfl (trivial))))))))))))), zC rfl rfl rfl rfl (zC rfl rfl rfl rfl (zC rfl rfl rfl rfl (zC rfl rfl rfl rfl (zC rfl rfl rfl rfl (zC rfl rfl rfl rfl (zC rfl rfl rfl rfl (zC rfl rfl rfl rfl (zC rfl rfl rfl rfl (zC rfl rfl rfl rfl (zC rfl rfl rfl rfl (trivial))))))))))), zE rfl .row rfl (zE rfl .row rfl (zE rfl .row rfl (trivial)))⟩
                                    · rintro x26 rfl
                                      change awp _ _ _ _ _ ⟨_, _, _, _⟩
                                      refine cs_ rfl (fun hc => ?_) (fun hc => ?_)
                                      · have ho65 := cT hc ho65
                                        refine awp_seq ?_
                                        refine awp_region ?_
                                        refine rv rfl rfl ?_
                                        refine rn ?_
                                        refine awp_ret ?_
                                        cases ho65
                                        have ho25 := ksr ho25
                                        subst ho25
                                        have ho21 := ksr ho21
                                        subst ho21
                                        have hq := hE22 _ rfl
                                        subst hq
                                        have h := ksr h
                                        subst h
                                        repeat (first | refine then_ret ?_ | refine inBlock_ret ?_ | refine cut_r ?_)
                                        exact rr rfl rfl rfl
                                      · have ho65 := cF hc ho65
                                        refine awp_skip ?_
                                        refine awp_seq ?_
                                        refine awp_region ?_
                                        refine rv rfl rfl ?_
                                        refine rn ?_
                                        refine cs_ rfl (fun hc => ?_) (fun hc => ?_)
                                        · have ho65 := cT hc ho65
                                          refine awp_seq ?_
                                          refine awp_seq ?_
                                          refine awp_region ?_
                                          refine rv rfl rfl ?_
                                          refine rV rfl (va_textS (l := b1.1) rfl rfl rfl rfl rfl rfl rfl rfl) ?_
                                          refine rvs 2 rfl ?_
                                          refine rV rfl (va_textS (l := x24.Data) rfl rfl rfl rfl rfl rfl rfl rfl) ?_
                                          refine rv rfl rfl ?_
                                          refine rt (sNe b1.1 x24.Data) ?_
                                          refine rn ?_
                                          refine cs_ rfl (fun hc => ?_) (fun hc => ?_)
                                          · have ho65 := cT hc ho65
                                            refine awp_seq ?_
                                            refine awp_region ?_
                                            refine rv rfl rfl ?_
                                            refine rn ?_
                                            refine awp_ret ?_
                                            cases ho65
                                            have ho25 := ksr ho25
                                            subst ho25
                                            have ho21 := ksr ho21
                                            subst ho21
                                            have hq := hE22 _ rfl
                                            subst hq
                                            have h := ksr h
                                            subst h
                                            repeat (first | refine then_ret ?_ | refine inBlock_ret ?_ | refine cut_r ?_)
                                            exact rr rfl rfl rfl
                                          · have ho65 := cF hc ho65
                                            refine awp_skip ?_
                                            refine awp_region ?_
                                            refine rvs 3 rfl ?_
                                            obtain ⟨want5, hx69, ho65⟩ := bs ho65
                                            refine rt (ei' hx69) ?_
                                            refine rn ?_
                                            cases ho65
                                            exact cut_n [0, 1, 2, 3, 5, 6] rfl rfl ⟨rfl, rfl, zA rfl rfl rfl (zA rfl rfl rfl (zA rfl rfl rfl (zA rfl rfl rfl (zA rfl rfl rfl (zA rfl rfl rfl (zA rfl rfl rfl (zA rfl rfl rfl (zA rfl rfl rfl (trivial))))))))), zC rfl rfl rfl rfl (zC rfl rfl rfl rfl (zC rfl rfl rfl rfl (zC rfl rfl rfl rfl (zC rfl rfl rfl rfl (zC rfl rfl rfl rfl (zC rfl rfl rfl rfl (zC rfl rfl rfl rfl (zC rfl rfl rfl rfl (trivial))))))))), zE rfl .row rfl (zE rfl .row rfl (zE rfl .row rfl (trivial)))⟩
                                        · have ho65 := cF hc ho65
                                          refine awp_skip ?_
                                          cases ho65
                                          exact cut_n [0, 1, 2, 3, 5, 6] rfl rfl ⟨rfl, rfl, zA rfl rfl rfl (zA rfl rfl rfl (zA rfl rfl rfl (zA rfl rfl rfl (zA rfl rfl rfl (zA rfl rfl rfl (zA rfl rfl rfl (zA rfl rfl rfl (zA rfl rfl rfl (trivial))))))))), zC rfl rfl rfl rfl (zC rfl rfl rfl rfl (zC rfl rfl rfl rfl (zC rfl rfl rfl rfl (zC rfl rfl rfl rfl (zC rfl rfl rfl rfl (zC rfl rfl rfl rfl (zC rfl rfl rfl rfl (zC rfl rfl rfl rfl (trivial))))))))), zE rfl .row rfl (zE rfl .row rfl (zE rfl .row rfl (trivial)))⟩
                                  · have ho65 := cF hc ho65
                                    refine awp_skip ?_
                                    cases ho65
                                    exact cut_n [0, 1, 2, 3, 5, 6] rfl rfl ⟨rfl, rfl, zA rfl rfl rfl (zA rfl rfl rfl (zA rfl rfl rfl (zA rfl rfl rfl (zA rfl rfl rfl (zA rfl rfl rfl (zA rfl rfl rfl (zA rfl rfl rfl (zA rfl rfl rfl (trivial))))))))), zC rfl rfl rfl rfl (zC rfl rfl rfl rfl (zC rfl rfl rfl rfl (zC rfl rfl rfl rfl (zC rfl rfl rfl rfl (zC rfl rfl rfl rfl (zC rfl rfl rfl rfl (zC rfl rfl rfl rfl (zC rfl rfl rfl rfl (trivial))))))))), zE rfl .row rfl (zE rfl .row rfl (zE rfl .row rfl (trivial)))⟩
                                · rintro ⟨want4, r9⟩ rfl
                                  have ho25 := ksl ho25
                                  change awp _ _ _ _ _ ⟨_, _, _, _⟩
                                  refine awp_dx (m := 10) [] Try.mix (by kernel_rfl) (by kernel_rfl) (by kernel_rfl) (by kernel_rfl) (by kernel_rfl) (by kernel_rfl) ?_
                                  refine xE [] (.own 6) 7 _ _ rfl rfl (by
                                      refine rbs false rfl rfl rfl rfl rfl rfl rfl rfl rfl rfl ?_
                                      exact rn ⟨rfl, rfl⟩) (by rfl) (by rfl) (by rfl) ?_
                                  refine xv [] rfl rfl (fun _ => rfl) ?_
                                  refine xv [] rfl rfl (fun _ => rfl) ?_
                                  obtain ⟨l17, hx70, ho25⟩ := bi ho25
                                  refine xV [3] rfl rfl (fun _ => va_slsub (c := c_tPacket) rfl rfl rfl rfl rfl ⟨_, rfl⟩ hx70 (fun _ => rfl)) ?_
                                  obtain ⟨flight9, hx71, ho25⟩ := bi ho25
                                  refine xE [6] (.own 7) 8 _ _ rfl rfl (by
                                      refine rap false (xs := [].map c_tPacket) (ys := l17.map c_tPacket) rfl rfl rfl rfl rfl rfl rfl (.own rfl rfl) (.sl rfl rfl rfl) (wM (fun _ => by rfl) _) (oM (fun _ => by rfl) _) (apB c_tPacket rfl hx71) rfl ?_
                                      refine rk (congrArg (Kind.row _) (apM c_tPacket hx71)) ?_
                                      exact rn ⟨rfl, rfl⟩) (by rfl) (by rfl) (by rfl) ?_
                                  refine xv [] rfl rfl (fun _ => rfl) ?_
                                  refine xv [] rfl rfl (fun _ => rfl) ?_
                                  refine xv [] rfl rfl (fun _ => rfl) ?_
                                  obtain ⟨l18, hx72, ho25⟩ := bi ho25
                                  refine xV [3] rfl rfl (fun _ => va_slsub (c := c_tPacket) rfl rfl rfl rfl ⟨_, rfl⟩ rfl hx72 (fun _ => rfl)) ?_
                                  obtain ⟨flight10, hx73, ho25⟩ := bi ho25
                                  refine xE [7] (.own 8) 9 _ _ rfl rfl (by
                                      refine rap false (xs := flight9.map c_tPacket) (ys := l18.map c_tPacket) rfl rfl rfl rfl rfl rfl rfl (.own rfl rfl) (.sl rfl rfl rfl) (wM (fun _ => by rfl) _) (oM (fun _ => by rfl) _) (apB c_tPacket rfl hx73) rfl ?_
                                      refine rk (congrArg (Kind.row _) (apM c_tPacket hx73)) ?_
                                      exact rn ⟨rfl, rfl⟩) (by rfl) (by rfl) (by rfl) ?_
                                  refine xn (by kernel_rfl) ?_
                                  refine rv rfl rfl ?_
                                  refine rn ?_
                                  refine inBlock_normal ?_
                                  refine awp_seq ?_
                                  obtain ⟨o74, ho75, ho25⟩ := bi ho25
                                  refine awp_cut1 (fun x => x = o74) (fun (((x27, s22, s23, s24, r10, m19, m20, m21, l19, l20)) : Bool × Int × Int × Int × Int × Int × Int × Int × (List Str) × (List Str)) => ⟨[(1, .sl (d1.map c_tlaw15Deed)), (5, .bool head1), (6, .ptr 0 0), (8, .ptr 1 0), (9, .ptr 2 0), (10, .int .u64 want4), (11, .own 3), (12, .int .i64 i1), (247, .bool x27)], [(0, 0, .int .i64 s22), (0, 1, .own 4), (0, 2, .int .u64 s23), (0, 3, .int .u64 s24), (1, 0, .int .u64 r10), (2, 0, .int .i64 m19), (2, 1, .own 5), (2, 2, .int .i64 m20), (2, 3, .int .i64 m21)], [(3, .row 2 (flight10.map c_tPacket)), (4, .row 1 (l19.map (cL cU8))), (5, .row 1 (l20.map (cL cU8)))], 6⟩) ?_ ?_
                                  · refine awp_region ?_
                                    refine rv rfl rfl ?_
                                    obtain ⟨x28, hx76, ho75⟩ := bi ho75
                                    refine rh [0, 4] rfl rfl (dlink_Sender_Len_l hx76) rfl rfl rfl (zC rfl rfl rfl rfl (zC rfl rfl rfl rfl (zC rfl rfl rfl rfl (zC rfl rfl rfl rfl (trivial))))) (zE rfl .row rfl (trivial)) ?_
                                    refine ek ?_
                                    refine as1 rfl ?_
                                    refine ae rfl rfl rfl ?_
                                    refine rv rfl rfl ?_
                                    obtain ⟨x29, hx77, ho75⟩ := bi ho75
                                    refine rh [2, 5] rfl rfl (dref15_Sender_Len_l hx77) rfl rfl rfl (zC rfl rfl rfl rfl (zC rfl rfl rfl rfl (zC rfl rfl rfl rfl (zC rfl rfl rfl rfl (trivial))))) (zE rfl .row rfl (trivial)) ?_
                                    refine ek ?_
                                    refine as1 rfl ?_
                                    refine ae rfl rfl rfl ?_
                                    refine rvs 2 rfl ?_
                                    refine gs rfl rfl rfl rfl rfl (fun hg => ?_) (fun hg => ?_)
                                    · have ho75 := cF hg ho75
                                      refine rv rfl rfl ?_
                                      refine gy rfl rfl rfl ?_
                                      obtain ⟨x30, hx78, ho75⟩ := bi ho75
                                      refine rh [1] rfl rfl (dlink_Receiver_Want_l hx78) rfl rfl rfl (zC rfl rfl rfl rfl (trivial)) (trivial) ?_
                                      refine ek ?_
                                      refine as1 rfl ?_
                                      refine ae rfl rfl rfl ?_
                                      refine gy rfl rfl rfl ?_
                                      refine rv rfl rfl ?_
                                      refine gy rfl rfl rfl ?_
                                      refine rv rfl rfl ?_
                                      refine rv rfl rfl ?_
                                      refine rn ?_
                                      cases ho75
                                      exact cut_n [0, 1, 2, 8, 9, 10] rfl rfl ⟨rfl, rfl, zA rfl rfl rfl (zA rfl rfl rfl (zA rfl rfl rfl (zA rfl rfl rfl (zA rfl rfl rfl (zA rfl rfl rfl (zA rfl rfl rfl (zA rfl rfl rfl (zA rfl rfl rfl (trivial))))))))), zC rfl rfl rfl rfl (zC rfl rfl rfl rfl (zC rfl rfl rfl rfl (zC rfl rfl rfl rfl (zC rfl rfl rfl rfl (zC rfl rfl rfl rfl (zC rfl rfl rfl rfl (zC rfl rfl rfl rfl (zC rfl rfl rfl rfl (trivial))))))))), zE rfl .row rfl (zE rfl .row rfl (zE rfl .row rfl (trivial)))⟩
                                    · have ho75 := cT hg ho75
                                      refine gn rfl rfl rfl rfl rfl ?_
                                      refine gn rfl rfl rfl rfl rfl ?_
                                      refine gn rfl rfl rfl rfl rfl ?_
                                      refine rv rfl rfl ?_
                                      refine rn ?_
                                      cases ho75
                                      exact cut_n [0, 1, 2, 8, 9, 10] rfl rfl ⟨rfl, rfl, zA rfl rfl rfl (zA rfl rfl rfl (zA rfl rfl rfl (zA rfl rfl rfl (zA rfl rfl rfl (zA rfl rfl rfl (zA rfl rfl rfl (zA rfl rfl rfl (zA rfl rfl rfl (trivial))))))))), zC rfl rfl rfl rfl (zC rfl rfl rfl rfl (zC rfl rfl rfl rfl (zC rfl rfl rfl rfl (zC rfl rfl rfl rfl (zC rfl rfl rfl rfl (zC rfl rfl rfl rfl (zC rfl rfl rfl rfl (zC rfl rfl rfl rfl (trivial))))))))), zE rfl .row rfl (zE rfl .row rfl (zE rfl .row rfl (trivial)))⟩
                                  · rintro ⟨x27, s22, s23, s24, r10, m19, m20, m21, l19, l20⟩ rfl
                                    change awp _ _ _ _ _ ⟨_, _, _, _⟩
                                    refine cs_ rfl (fun hc => ?_) (fun hc => ?_)
                                    · have ho25 := cT hc ho25
                                      refine awp_seq ?_
                                      refine awp_region ?_
                                      refine rv rfl rfl ?_
                                      refine rn ?_
                                      refine awp_ret ?_
                                      cases ho25
                                      have ho21 := ksr ho21
                                      subst ho21
                                      have hq := hE22 _ rfl
                                      subst hq
                                      have h := ksr h
                                      subst h
                                      repeat (first | refine then_ret ?_ | refine inBlock_ret ?_ | refine cut_r ?_)
                                      exact rr rfl rfl rfl
                                    · have ho25 := cF hc ho25
                                      refine awp_skip ?_
                                      refine inBlock_normal ?_
                                      cases ho25
                                      exact cut_n [0, 1, 2, 3, 4, 5] rfl rfl ⟨rfl, rfl, zA rfl rfl rfl (zA rfl rfl rfl (zA rfl rfl rfl (zA rfl rfl rfl (zA rfl rfl rfl (zA rfl rfl rfl (zA rfl rfl rfl (zA rfl rfl rfl (trivial)))))))), zC rfl rfl rfl rfl (zC rfl rfl rfl rfl (zC rfl rfl rfl rfl (zC rfl rfl rfl rfl (zC rfl rfl rfl rfl (zC rfl rfl rfl rfl (zC rfl rfl rfl rfl (zC rfl rfl rfl rfl (zC rfl rfl rfl rfl (trivial))))))))), zE rfl .row rfl (zE rfl .row rfl (zE rfl .row rfl (trivial)))⟩
                            · have ho25 := cF hc ho25
                              refine awp_seq ?_
                              refine awp_region ?_
                              refine rvs 4 rfl ?_
                              obtain ⟨n1, hx79, ho25⟩ := bs ho25
                              refine rt (ei' hx79) ?_
                              refine rn ?_
                              refine awp_seq ?_
                              refine awp_seq ?_
                              refine awp_region ?_
                              refine rvs 2 rfl ?_
                              refine rn ?_
                              obtain ⟨o80, ho81, ho25⟩ := bi ho25
                              refine awp_cut1 (fun x => x = o80) (fun (((n2, r11)) : Int × Int) => ⟨[(1, .sl (d1.map c_tlaw15Deed)), (5, .bool head1), (6, .ptr 0 0), (8, .ptr 1 0), (9, .ptr 2 0), (10, .int .u64 want1), (11, .own 3), (12, .int .i64 i1), (23, .int .u64 n2)], [(0, 0, .int .i64 s4), (0, 1, .own 4), (0, 2, .int .u64 s5), (0, 3, .int .u64 s6), (1, 0, .int .u64 r11), (2, 0, .int .i64 m1), (2, 1, .own 5), (2, 2, .int .i64 m2), (2, 3, .int .i64 m3)], [(3, .row 2 (flight1.map c_tPacket)), (4, .row 1 (l1.map (cL cU8))), (5, .row 1 (l2.map (cL cU8)))], 6⟩) ?_ ?_
                              · refine cs_ rfl (fun hc => ?_) (fun hc => ?_)
                                · have ho81 := cT hc ho81
                                  refine awp_region ?_
                                  refine rv rfl rfl ?_
                                  obtain ⟨n3, hx82, ho81⟩ := bi ho81
                                  refine rh [1] rfl rfl (dlink_Receiver_Want_l hx82) rfl rfl rfl (zC rfl rfl rfl rfl (trivial)) (trivial) ?_
                                  refine ek ?_
                                  refine as1 rfl ?_
                                  refine ae rfl rfl rfl ?_
                                  refine rv rfl rfl ?_
                                  refine rn ?_
                                  cases ho81
                                  exact cut_n [0, 1, 2, 3, 5, 6] rfl rfl ⟨rfl, rfl, zA rfl rfl rfl (zA rfl rfl rfl (zA rfl rfl rfl (zA rfl rfl rfl (zA rfl rfl rfl (zA rfl rfl rfl (zA rfl rfl rfl (zA rfl rfl rfl (zA rfl rfl rfl (trivial))))))))), zC rfl rfl rfl rfl (zC rfl rfl rfl rfl (zC rfl rfl rfl rfl (zC rfl rfl rfl rfl (zC rfl rfl rfl rfl (zC rfl rfl rfl rfl (zC rfl rfl rfl rfl (zC rfl rfl rfl rfl (zC rfl rfl rfl rfl (trivial))))))))), zE rfl .row rfl (zE rfl .row rfl (zE rfl .row rfl (trivial)))⟩
                                · have ho81 := cF hc ho81
                                  refine awp_skip ?_
                                  cases ho81
                                  exact cut_n [0, 1, 2, 3, 5, 6] rfl rfl ⟨rfl, rfl, zA rfl rfl rfl (zA rfl rfl rfl (zA rfl rfl rfl (zA rfl rfl rfl (zA rfl rfl rfl (zA rfl rfl rfl (zA rfl rfl rfl (zA rfl rfl rfl (zA rfl rfl rfl (trivial))))))))), zC rfl rfl rfl rfl (zC rfl rfl rfl rfl (zC rfl rfl rfl rfl (zC rfl rfl rfl rfl (zC rfl rfl rfl rfl (zC rfl rfl rfl rfl (zC rfl rfl rfl rfl (zC rfl rfl rfl rfl (zC rfl rfl rfl rfl (trivial))))))))), zE rfl .row rfl (zE rfl .row rfl (zE rfl .row rfl (trivial)))⟩
                              · rintro ⟨n2, r11⟩ rfl
                                change awp _ _ _ _ _ ⟨_, _, _, _⟩
                                refine awp_seq ?_
                                refine awp_region ?_
                                refine rvs 2 rfl ?_
                                obtain ⟨x31, hx83, ho25⟩ := bi ho25
                                refine rh [0, 4] rfl rfl (dlink_Sender_Ack_l hx83) rfl rfl rfl (zC rfl rfl rfl rfl (zC rfl rfl rfl rfl (zC rfl rfl rfl rfl (zC rfl rfl rfl rfl (trivial))))) (zE rfl .row rfl (trivial)) ?_
                                refine ek ?_
                                refine as1 rfl ?_
                                refine ae rfl rfl rfl ?_
                                refine rn ?_
                                refine awp_region ?_
                                refine rvs 2 rfl ?_
                                obtain ⟨x32, hx84, ho25⟩ := bi ho25
                                refine rh [2, 5] rfl rfl (dref15_Sender_Ack_l hx84) rfl rfl rfl (zC rfl rfl rfl rfl (zC rfl rfl rfl rfl (zC rfl rfl rfl rfl (zC rfl rfl rfl rfl (trivial))))) (zE rfl .row rfl (trivial)) ?_
                                refine ek ?_
                                refine as1 rfl ?_
                                refine ae rfl rfl rfl ?_
                                refine rn ?_
                                refine inBlock_normal ?_
                                refine awp_seq ?_
                                obtain ⟨o85, ho86, ho25⟩ := bi ho25
                                refine awp_cut1 (fun x => x = o85) (fun (((x33, s25, s26, s27, r12, m22, m23, m24, l21, l22)) : Bool × Int × Int × Int × Int × Int × Int × Int × (List Str) × (List Str)) => ⟨[(1, .sl (d1.map c_tlaw15Deed)), (5, .bool head1), (6, .ptr 0 0), (8, .ptr 1 0), (9, .ptr 2 0), (10, .int .u64 want1), (11, .own 3), (12, .int .i64 i1), (247, .bool x33)], [(0, 0, .int .i64 s25), (0, 1, .own 4), (0, 2, .int .u64 s26), (0, 3, .int .u64 s27), (1, 0, .int .u64 r12), (2, 0, .int .i64 m22), (2, 1, .own 5), (2, 2, .int .i64 m23), (2, 3, .int .i64 m24)], [(3, .row 2 (flight1.map c_tPacket)), (4, .row 1 (l21.map (cL cU8))), (5, .row 1 (l22.map (cL cU8)))], 6⟩) ?_ ?_
                                · refine awp_region ?_
                                  refine rv rfl rfl ?_
                                  obtain ⟨x34, hx87, ho86⟩ := bi ho86
                                  refine rh [0, 6] rfl rfl (dlink_Sender_Len_l hx87) rfl rfl rfl (zC rfl rfl rfl rfl (zC rfl rfl rfl rfl (zC rfl rfl rfl rfl (zC rfl rfl rfl rfl (trivial))))) (zE rfl .row rfl (trivial)) ?_
                                  refine ek ?_
                                  refine as1 rfl ?_
                                  refine ae rfl rfl rfl ?_
                                  refine rv rfl rfl ?_
                                  obtain ⟨x35, hx88, ho86⟩ := bi ho86
                                  refine rh [2, 7] rfl rfl (dref15_Sender_Len_l hx88) rfl rfl rfl (zC rfl rfl rfl rfl (zC rfl rfl rfl rfl (zC rfl rfl rfl rfl (zC rfl rfl rfl rfl (trivial))))) (zE rfl .row rfl (trivial)) ?_
                                  refine ek ?_
                                  refine as1 rfl ?_
                                  refine ae rfl rfl rfl ?_
                                  refine rvs 2 rfl ?_
                                  refine gs rfl rfl rfl rfl rfl (fun hg => ?_) (fun hg => ?_)
                                  · have ho86 := cF hg ho86
                                    refine rv rfl rfl ?_
                                    refine gy rfl rfl rfl ?_
                                    obtain ⟨x36, hx89, ho86⟩ := bi ho86
                                    refine rh [1] rfl rfl (dlink_Receiver_Want_l hx89) rfl rfl rfl (zC rfl rfl rfl rfl (trivial)) (trivial) ?_
                                    refine ek ?_
                                    refine as1 rfl ?_
                                    refine ae rfl rfl rfl ?_
                                    refine gy rfl rfl rfl ?_
                                    refine rv rfl rfl ?_
                                    refine gy rfl rfl rfl ?_
                                    refine rv rfl rfl ?_
                                    refine rv rfl rfl ?_
                                    refine rn ?_
                                    cases ho86
                                    exact cut_n [0, 1, 2, 3, 8, 9] rfl rfl ⟨rfl, rfl, zA rfl rfl rfl (zA rfl rfl rfl (zA rfl rfl rfl (zA rfl rfl rfl (zA rfl rfl rfl (zA rfl rfl rfl (zA rfl rfl rfl (zA rfl rfl rfl (zA rfl rfl rfl (trivial))))))))), zC rfl rfl rfl rfl (zC rfl rfl rfl rfl (zC rfl rfl rfl rfl (zC rfl rfl rfl rfl (zC rfl rfl rfl rfl (zC rfl rfl rfl rfl (zC rfl rfl rfl rfl (zC rfl rfl rfl rfl (zC rfl rfl rfl rfl (trivial))))))))), zE rfl .row rfl (zE rfl .row rfl (zE rfl .row rfl (trivial)))⟩
                                  · have ho86 := cT hg ho86
                                    refine gn rfl rfl rfl rfl rfl ?_
                                    refine gn rfl rfl rfl rfl rfl ?_
                                    refine gn rfl rfl rfl rfl rfl ?_
                                    refine rv rfl rfl ?_
                                    refine rn ?_
                                    cases ho86
                                    exact cut_n [0, 1, 2, 3, 8, 9] rfl rfl ⟨rfl, rfl, zA rfl rfl rfl (zA rfl rfl rfl (zA rfl rfl rfl (zA rfl rfl rfl (zA rfl rfl rfl (zA rfl rfl rfl (zA rfl rfl rfl (zA rfl rfl rfl (zA rfl rfl rfl (trivial))))))))), zC rfl rfl rfl rfl (zC rfl rfl rfl rfl (zC rfl rfl rfl rfl (zC rfl rfl rfl rfl (zC rfl rfl rfl rfl (zC rfl rfl rfl rfl (zC rfl rfl rfl rfl (zC rfl rfl rfl rfl (zC rfl rfl rfl rfl (trivial))))))))), zE rfl .row rfl (zE rfl .row rfl (zE rfl .row rfl (trivial)))⟩
                                · rintro ⟨x33, s25, s26, s27, r12, m22, m23, m24, l21, l22⟩ rfl
                                  change awp _ _ _ _ _ ⟨_, _, _, _⟩
                                  refine cs_ rfl (fun hc => ?_) (fun hc => ?_)
                                  · have ho25 := cT hc ho25
                                    refine awp_seq ?_
                                    refine awp_region ?_
                                    refine rv rfl rfl ?_
                                    refine rn ?_
                                    refine awp_ret ?_
                                    cases ho25
                                    have ho21 := ksr ho21
                                    subst ho21
                                    have hq := hE22 _ rfl
                                    subst hq
                                    have h := ksr h
                                    subst h
                                    repeat (first | refine then_ret ?_ | refine inBlock_ret ?_ | refine cut_r ?_)
                                    exact rr rfl rfl rfl
                                  · have ho25 := cF hc ho25
                                    refine awp_skip ?_
                                    refine inBlock_normal ?_
                                    cases ho25
                                    exact cut_n [0, 1, 2, 3, 4, 5] rfl rfl ⟨rfl, rfl, zA rfl rfl rfl (zA rfl rfl rfl (zA rfl rfl rfl (zA rfl rfl rfl (zA rfl rfl rfl (zA rfl rfl rfl (zA rfl rfl rfl (zA rfl rfl rfl (trivial)))))))), zC rfl rfl rfl rfl (zC rfl rfl rfl rfl (zC rfl rfl rfl rfl (zC rfl rfl rfl rfl (zC rfl rfl rfl rfl (zC rfl rfl rfl rfl (zC rfl rfl rfl rfl (zC rfl rfl rfl rfl (zC rfl rfl rfl rfl (trivial))))))))), zE rfl .row rfl (zE rfl .row rfl (zE rfl .row rfl (trivial)))⟩
                · rintro ⟨want3, s10, s11, s12, r5, m7, m8, m9, flight3, l5, l6⟩ rfl
                  have ho21 := ksl ho21
                  change awp _ _ _ _ _ ⟨_, _, _, _⟩
                  refine awp_region ?_
                  refine rvs 3 rfl ?_
                  refine rn ?_
                  cases ho21
                  exact lp_n [0, 1, 2, 3, 4, 5] rfl rfl ⟨rfl, rfl, zA rfl rfl rfl (zA rfl rfl rfl (zA rfl rfl rfl (zA rfl rfl rfl (zA rfl rfl rfl (zA rfl rfl rfl (zA rfl rfl rfl (zA rfl rfl rfl (trivial)))))))), zC rfl rfl rfl rfl (zC rfl rfl rfl rfl (zC rfl rfl rfl rfl (zC rfl rfl rfl rfl (zC rfl rfl rfl rfl (zC rfl rfl rfl rfl (zC rfl rfl rfl rfl (zC rfl rfl rfl rfl (zC rfl rfl rfl rfl (trivial))))))))), zE rfl .row rfl (zE rfl .row rfl (zE rfl .row rfl (trivial)))⟩
              · have ho21 := cF hc ho21
                refine awp_exit ?_
                repeat (first | refine then_exit ?_ | refine cut_x ?_ | refine inBlock_other rfl ?_)
                refine inBlock_exit ?_
                cases ho21
                have hq := hE22 _ rfl
                subst hq
                exact cut_n [] rfl rfl ⟨rfl, rfl, zA rfl rfl rfl (trivial), trivial, trivial⟩
            · rintro _ rfl
              have h := ksl h
              refine awp_seq ?_
              refine awp_region ?_
              refine rvs 2 rfl ?_
              refine rn ?_
              refine awp_ret ?_
              cases h
              repeat (first | refine then_ret ?_ | refine inBlock_ret ?_ | refine cut_r ?_)
              exact rr rfl rfl rfl
end

end Go.Proofs.Ytaekecbadkcggaa
