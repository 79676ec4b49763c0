/- Plain functions, and walks, printed by a program of this session's. -/
import Derived.Test.YtaekecbadkcggaaPwE
import Derived.Test.YtaekecbadkcggaaPvT
namespace Go.Proofs.Ytaekecbadkcggaa
open Go.Pv
set_option maxRecDepth 100000
set_option maxHeartbeats 4000000
set_option linter.unusedSimpArgs false
set_option linter.unusedVariables false
set_option linter.unusedSectionVars false

structure tPacket where
  Seq : Int
  Data : Str
def c_tPacket (x : tPacket) : List AV := [.int .u64 x.Seq, .sl (x.Data.map cU8)]
structure tlaw15Deed where
  What : Int
  N : Int
  Own : Bool
  B : Str
def c_tlaw15Deed (x : tlaw15Deed) : List AV := [.int .i64 x.What, .int .i64 x.N, .bool x.Own, .sl (x.B.map cU8)]
def ok_tPacket (x : tPacket) : Prop := okI .u64 x.Seq ∧ okS x.Data
theorem dat_tPacket {n : Nat} {cs : List AV} (h : Dat Try.prog n 49 cs) : ∃ a : tPacket, cs = c_tPacket a ∧ ok_tPacket a := by
  obtain ⟨m, rfl, h⟩ := dat_struct (i := Try.i49) rfl rfl h
  obtain ⟨a0, r0, rfl, _, h0, h⟩ := h
  obtain ⟨a1, r1, rfl, _, h1, h⟩ := h
  obtain rfl : r1 = [] := h
  obtain ⟨x0, rfl, k0⟩ := dat_Int (i := Try.i36) rfl rfl h0
  obtain ⟨x1, rfl, k1⟩ := dat_Bytes (i := Try.i38) (j := Try.i5) rfl rfl rfl rfl h1
  exact ⟨⟨x0, x1⟩, rfl, k0, k1⟩
theorem datV_tPacket {x : AV} (h : DatV Try.prog 49 x) : ∃ a : tPacket, x = .agg (c_tPacket a) ∧ ok_tPacket a := by
  obtain ⟨n, cs, rfl, h2⟩ := datV_s (i := Try.i49) rfl rfl h
  obtain ⟨a, rfl, k⟩ := dat_tPacket h2
  exact ⟨a, rfl, k⟩
def ok_tlaw15Deed (x : tlaw15Deed) : Prop := okI .i64 x.What ∧ okI .i64 x.N ∧ (fun _ => True) x.Own ∧ okS x.B
theorem dat_tlaw15Deed {n : Nat} {cs : List AV} (h : Dat Try.prog n 40 cs) : ∃ a : tlaw15Deed, cs = c_tlaw15Deed a ∧ ok_tlaw15Deed a := by
  obtain ⟨m, rfl, h⟩ := dat_struct (i := Try.i40) rfl rfl h
  obtain ⟨a0, r0, rfl, _, h0, h⟩ := h
  obtain ⟨a1, r1, rfl, _, h1, h⟩ := h
  obtain ⟨a2, r2, rfl, _, h2, h⟩ := h
  obtain ⟨a3, r3, rfl, _, h3, h⟩ := h
  obtain rfl : r3 = [] := h
  obtain ⟨x0, rfl, k0⟩ := dat_Int (i := Try.i3) rfl rfl h0
  obtain ⟨x1, rfl, k1⟩ := dat_Int (i := Try.i3) rfl rfl h1
  obtain ⟨x2, rfl, k2⟩ := dat_Bool (i := Try.i4) rfl rfl h2
  obtain ⟨x3, rfl, k3⟩ := dat_Bytes (i := Try.i38) (j := Try.i5) rfl rfl rfl rfl h3
  exact ⟨⟨x0, x1, x2, x3⟩, rfl, k0, k1, k2, k3⟩
theorem datV_tlaw15Deed {x : AV} (h : DatV Try.prog 40 x) : ∃ a : tlaw15Deed, x = .agg (c_tlaw15Deed a) ∧ ok_tlaw15Deed a := by
  obtain ⟨n, cs, rfl, h2⟩ := datV_s (i := Try.i40) rfl rfl h
  obtain ⟨a, rfl, k⟩ := dat_tlaw15Deed h2
  exact ⟨a, rfl, k⟩
structure tlinkSender where
  Window : Int
  L : List Str
  First : Int
  Next : Int
structure tlinkReceiver where
  Want : Int
structure tref15Sender where
  Window : Int
  L : List Str
  Acked : Int
  Told : Int
/-- `bytes.Clone` -/
def dbytes_Clone (fu : Nat) (b : Str) : Option Str := ap [] b
section
attribute [local irreducible] awp aops DP PCall ACall Decidable.decide
theorem dbytes_Clone_l {fu : Nat} {b r : Str} (h : dbytes_Clone fu b = some r) : PCall Try.prog 43 [.sl (b.map cU8)] (· = .sl (r.map cU8)) := by
  rw [dbytes_Clone] at h
  have hx1 := h
  have hr : b = r := ap_is h
  refine pcall_body Try.func43 rfl (by kernel_rfl) (by rfl) ?_
  refine awp_seq ?_
  refine awp_region ?_
  refine rv rfl rfl ?_
  refine rn ?_
  refine then_normal ?_
  refine awp_seq ?_
  refine awp_seq ?_
  refine awp_region ?_
  refine rv rfl rfl ?_
  refine rnil rfl rfl rfl rfl (fun q hb => ?_)
  refine rn ?_
  refine then_normal ?_
  refine cs_ rfl (fun hc => ?_) (fun hc => ?_)
  · refine awp_seq ?_
    refine awp_region ?_
    refine rv rfl rfl ?_
    refine rn ?_
    refine then_normal ?_
    refine awp_ret ?_
    repeat (first | refine then_ret ?_ | refine inBlock_ret ?_)
    refine rr rfl rfl ?_
    have h0 := hb hc
    rw [← hr]; exact congrArg AV.sl h0.symm
  · refine awp_skip ?_
    refine then_normal ?_
    refine awp_seq ?_
    refine awp_region ?_
    refine rbs false rfl rfl rfl rfl rfl rfl rfl rfl rfl rfl ?_
    refine rv rfl rfl ?_
    refine rap false (xs := ([] : Str).map cU8) (ys := b.map cU8) rfl rfl rfl rfl rfl rfl rfl (.own rfl rfl) (.sl rfl rfl rfl) (wM (fun _ => by rfl) _) (oM (fun _ => by rfl) _) (apB cU8 rfl hx1) rfl ?_
    refine rk (congrArg (Kind.row _) (apM cU8 hx1)) ?_
    refine rv rfl rfl ?_
    refine rn ?_
    refine then_normal ?_
    refine awp_ret ?_
    repeat (first | refine then_ret ?_ | refine inBlock_ret ?_)
    exact rr rfl rfl rfl
end

/-- `plover/link.NewSender` -/
def dlink_NewSender (fu : Nat) (window1 : Int) : Option ((Option tlinkSender) × Er) :=
  (bif (decide (window1 < 1)) then some true else some (decide (window1 > 64)) : Option Bool).bind fun (x1 : Bool) => (bif x1 then some (none, (some 1)) else some ((some (tlinkSender.mk window1 [] 0 0)), none))
section
attribute [local irreducible] awp aops DP PCall ACall Decidable.decide
theorem dlink_NewSender_l {fu : Nat} {window1 : Int} {r : (Option tlinkSender) × Er} (h : dlink_NewSender fu window1 = some r) : ACall Try.prog 11 0 [.int .i64 window1] [] [] (fun r_ H_ O_ n_ => r_ = .tup [oP r.1 0, .err 31 r.2] ∧ H_ = oL r.1 (fun q => [(0, 0, .int .i64 q.Window), (0, 1, .own 1), (0, 2, .int .u64 q.First), (0, 3, .int .u64 q.Next)]) ∧ O_ = oL r.1 (fun q => [(1, .row 1 (q.L.map (cL cU8)))]) ∧ n_ = oN r.1 0 2) := by
  rw [dlink_NewSender] at h
  refine acall_body Try.func11 rfl (by kernel_rfl) (by rfl) ?_
  refine awp_seq ?_
  refine awp_region ?_
  refine rvs 2 rfl ?_
  refine rn ?_
  refine awp_seq ?_
  refine awp_seq ?_
  obtain ⟨o1, ho2, h⟩ := bi h
  refine awp_cut1 (fun x => x = o1) (fun (x1 : Bool) => ⟨[(0, .int .i64 window1), (9, .bool x1)], [], [], 0⟩) ?_ ?_
  · refine awp_region ?_
    refine rvs 3 rfl ?_
    refine gs rfl rfl rfl rfl rfl (fun hg => ?_) (fun hg => ?_)
    · have ho2 := cF hg ho2
      refine rv rfl rfl ?_
      refine gy rfl rfl rfl ?_
      refine rv rfl rfl ?_
      refine rv rfl rfl ?_
      refine rn ?_
      cases ho2
      exact cut_n [] rfl rfl ⟨rfl, rfl, zA rfl rfl rfl (zA rfl rfl rfl (trivial)), trivial, trivial⟩
    · have ho2 := cT hg ho2
      refine gn rfl rfl rfl rfl rfl ?_
      refine rv rfl rfl ?_
      refine rn ?_
      cases ho2
      exact cut_n [] rfl rfl ⟨rfl, rfl, zA rfl rfl rfl (zA rfl rfl rfl (trivial)), trivial, trivial⟩
  · rintro x1 rfl
    change awp _ _ _ _ _ ⟨_, _, _, _⟩
    refine cs_ rfl (fun hc => ?_) (fun hc => ?_)
    · have h := cT hc h
      refine awp_seq ?_
      refine awp_region ?_
      refine rvs 3 rfl ?_
      refine rn ?_
      refine awp_conv (fun _ _ _ _ _ hi => err_slot 31 3 (some 1) rfl hi) ?_
      refine awp_ret ?_
      cases h
      repeat (first | refine then_ret ?_ | refine inBlock_ret ?_ | refine cut_r ?_)
      exact rrA (r := .tup [.nilp, .err 31 (some 1)]) [] [] [] rfl rfl rfl rfl (trivial) (trivial) ⟨rfl, rfl, rfl, rfl⟩
    · have h := cF hc h
      refine awp_skip ?_
      refine awp_seq ?_
      refine awp_region ?_
      refine rvs 2 rfl ?_
      refine rb rfl rfl ?_
      refine rvs 2 rfl ?_
      refine rn ?_
      refine awp_conv (fun _ _ _ _ _ hi => err_slot 31 3 none rfl hi) ?_
      refine awp_conv (fun _ _ _ _ _ hi => nilS_cell false 1 0 1 rfl hi) ?_
      refine awp_ret ?_
      cases h
      repeat (first | refine then_ret ?_ | refine inBlock_ret ?_ | refine cut_r ?_)
      exact rrA (r := .tup [.ptr 0 0, .err 31 none]) [0, 1] [(0, 0, .int .i64 window1), (0, 1, .own 1), (0, 2, .int .u64 0), (0, 3, .int .u64 0)] [(1, .row 1 ([].map (cL cU8)))] rfl rfl rfl rfl (zC rfl rfl rfl rfl (zC rfl rfl rfl rfl (zC rfl rfl rfl rfl (zC rfl rfl rfl rfl (trivial))))) (zE rfl .row rfl (trivial)) ⟨rfl, rfl, rfl, rfl⟩
end

/-- `plover/link.NewReceiver` -/
def dlink_NewReceiver (fu : Nat)  : Option tlinkReceiver :=
  some (tlinkReceiver.mk 0)
section
attribute [local irreducible] awp aops DP PCall ACall Decidable.decide
theorem dlink_NewReceiver_l {fu : Nat}  {r : tlinkReceiver} (h : dlink_NewReceiver fu  = some r) : ACall Try.prog 12 0 [] [] [] (fun r_ H_ O_ n_ => r_ = .ptr 0 0 ∧ H_ = [(0, 0, .int .u64 r.Want)] ∧ O_ = [] ∧ n_ = 1) := by
  rw [dlink_NewReceiver] at h
  refine acall_body Try.func12 rfl (by kernel_rfl) (by rfl) ?_
  refine awp_seq ?_
  refine awp_region ?_
  refine rv rfl rfl ?_
  refine rn ?_
  refine awp_seq ?_
  refine awp_region ?_
  refine rv rfl rfl ?_
  refine rb rfl rfl ?_
  refine rv rfl rfl ?_
  refine rn ?_
  refine awp_ret ?_
  cases h
  repeat (first | refine then_ret ?_ | refine inBlock_ret ?_ | refine cut_r ?_)
  exact rrA (r := .ptr 0 0) [0] [(0, 0, .int .u64 0)] [] rfl rfl rfl rfl (zC rfl rfl rfl rfl (trivial)) (trivial) ⟨rfl, rfl, rfl, rfl⟩
end

/-- `(*plover/link.Sender).Send` -/
def dlink_Sender_Send (fu : Nat) (s1 : tlinkSender) (b1 : Str) : Option (Er × tlinkSender) :=
  bif (decide ((s1.L.length : Int) ≥ 200)) then some ((some 8), s1) else ((dbytes_Clone fu b1).bind fun x2 => (ap s1.L [x2]).bind fun l1 => some (none, (tlinkSender.mk s1.Window l1 s1.First s1.Next)))
section
attribute [local irreducible] awp aops DP PCall ACall Decidable.decide
theorem dlink_Sender_Send_l {fu : Nat} {s1 : tlinkSender} {b1 : Str} {r : Er × tlinkSender} (h : dlink_Sender_Send fu s1 b1 = some r) : ACall Try.prog 14 2 [.ptr 0 0, .sl (b1.map cU8)] [(0, 0, .int .i64 s1.Window), (0, 1, .own 1), (0, 2, .int .u64 s1.First), (0, 3, .int .u64 s1.Next)] [(1, .row 1 (s1.L.map (cL cU8)))] (fun r_ H_ O_ n_ => r_ = .err 31 r.1 ∧ H_ = [(0, 0, .int .i64 r.2.Window), (0, 1, .own 2), (0, 2, .int .u64 r.2.First), (0, 3, .int .u64 r.2.Next)] ∧ O_ = [(2, .row 1 (r.2.L.map (cL cU8)))] ∧ n_ = 3) := by
  rw [dlink_Sender_Send] at h
  refine acall_body Try.func14 rfl (by kernel_rfl) (by rfl) ?_
  refine awp_conv (fun _ _ _ _ _ hi => row_again (wr := false) 0 1 1 rfl rfl hi) ?_
  refine awp_seq ?_
  refine awp_region ?_
  refine rv rfl rfl ?_
  refine rn ?_
  refine awp_seq ?_
  refine awp_seq ?_
  refine awp_region ?_
  refine rvs 4 rfl ?_
  refine rv rfl rfl ?_
  refine rt ((lM (cL cU8) s1.L)) ?_
  refine rv rfl rfl ?_
  refine rn ?_
  refine cs_ rfl (fun hc => ?_) (fun hc => ?_)
  · have h := cT hc h
    refine awp_seq ?_
    refine awp_region ?_
    refine rvs 2 rfl ?_
    refine rn ?_
    refine awp_conv (fun _ _ _ _ _ hi => err_slot 31 4 (some 8) rfl hi) ?_
    refine awp_ret ?_
    cases h
    repeat (first | refine then_ret ?_ | refine inBlock_ret ?_ | refine cut_r ?_)
    exact rrA (r := .err 31 (some 8)) [0, 1, 2] [(0, 0, .int .i64 s1.Window), (0, 1, .own 2), (0, 2, .int .u64 s1.First), (0, 3, .int .u64 s1.Next)] [(2, .row 1 (s1.L.map (cL cU8)))] rfl rfl rfl rfl (zC rfl rfl rfl rfl (zC rfl rfl rfl rfl (zC rfl rfl rfl rfl (zC rfl rfl rfl rfl (trivial))))) (zE rfl .row rfl (trivial)) ⟨rfl, rfl, rfl, rfl⟩
  · have h := cF hc h
    refine awp_skip ?_
    refine awp_seq ?_
    refine awp_ren (L := [0, 1, 2]) (s' := ⟨[(0, .ptr 0 0), (1, .sl (b1.map cU8))], [(0, 0, .int .i64 s1.Window), (0, 1, .own 2), (0, 2, .int .u64 s1.First), (0, 3, .int .u64 s1.Next)], [(2, .row 1 (s1.L.map (cL cU8)))], 3⟩) ⟨rfl, rfl, zA rfl rfl rfl (zA rfl rfl rfl (trivial)), zC rfl rfl rfl rfl (zC rfl rfl rfl rfl (zC rfl rfl rfl rfl (zC rfl rfl rfl rfl (trivial)))), zE rfl .row rfl (trivial)⟩ rfl ?_
    refine awp_dx (m := 12) [] Try.mix (by kernel_rfl) (by kernel_rfl) (by kernel_rfl) (by kernel_rfl) (by kernel_rfl) (by kernel_rfl) ?_
    refine xv [] rfl rfl (fun _ => rfl) ?_
    refine xv [] rfl rfl (fun _ => rfl) ?_
    refine xv [] rfl rfl (fun _ => rfl) ?_
    refine xv [] rfl rfl (fun _ => rfl) ?_
    refine xv [0] rfl rfl (fun _ => rfl) ?_
    refine xv [] rfl rfl (fun _ => rfl) ?_
    obtain ⟨x2, hx2, h⟩ := bi h
    refine xc [] rfl rfl rfl (fun _ => rfl) (fun _ => (dbytes_Clone_l hx2)) ?_
    refine xE [] (.own 3) 4 _ _ rfl rfl (by
        refine rbs false rfl rfl rfl rfl rfl rfl rfl rfl rfl rfl ?_
        exact rn ⟨rfl, rfl⟩) (by rfl) (by rfl) (by rfl) ?_
    obtain ⟨l1, hx3, h⟩ := bi h
    refine xE [2, 3] (.own 4) 5 _ _ rfl rfl (by
        refine rap false (xs := s1.L.map (cL cU8)) (ys := [x2].map (cL cU8)) rfl rfl rfl rfl rfl rfl rfl (.own rfl rfl) (.sl rfl rfl rfl) (wM (fun _ => by rfl) _) (oM (fun _ => by rfl) _) (apB (cL cU8) rfl hx3) rfl ?_
        refine rk (congrArg (Kind.row _) (apM (cL cU8) hx3)) ?_
        exact rn ⟨rfl, rfl⟩) (by rfl) (by rfl) (by rfl) ?_
    refine xv [] rfl rfl (fun _ => rfl) ?_
    refine xv [] rfl rfl (fun _ => rfl) ?_
    refine xE [0, 2, 4] .any 5 _ _ rfl rfl (by
        refine rs rfl rfl rfl rfl rfl rfl rfl ?_
        exact rn ⟨rfl, rfl⟩) (by rfl) (by rfl) (by rfl) ?_
    refine xn (by kernel_rfl) ?_
    refine rn ?_
    refine awp_seq ?_
    refine awp_region ?_
    refine rv rfl rfl ?_
    refine rn ?_
    refine awp_conv (fun _ _ _ _ _ hi => err_slot 31 4 none rfl hi) ?_
    refine awp_ret ?_
    cases h
    repeat (first | refine then_ret ?_ | refine inBlock_ret ?_ | refine cut_r ?_)
    exact rrA (r := .err 31 none) [0, 1, 4] [(0, 0, .int .i64 s1.Window), (0, 1, .own 2), (0, 2, .int .u64 s1.First), (0, 3, .int .u64 s1.Next)] [(2, .row 1 (l1.map (cL cU8)))] rfl rfl rfl rfl (zC rfl rfl rfl rfl (zC rfl rfl rfl rfl (zC rfl rfl rfl rfl (zC rfl rfl rfl rfl (trivial))))) (zE rfl .row rfl (trivial)) ⟨rfl, rfl, rfl, rfl⟩
end

/-- `(*plover/link.Sender).packets` -/
def dlink_Sender_packets (fu : Nat) (s1 : tlinkSender) (from1 : Int) (to1 : Int) : Option ((List tPacket) × tlinkSender) :=
  (loopD (ε := Int × (List tPacket)) (τ := List tPacket) (fun (((n1, out1)) : Int × (List tPacket)) => (bif (decide (n1 < to1)) then ((gi s1.L (IntKind.wrap .u64 (n1 - s1.First))).bind fun out6 => (dbytes_Clone fu out6).bind fun out7 => (ap out1 [(tPacket.mk n1 out7)]).bind fun out8 => (some (IntKind.wrap .u64 (n1 + 1))).bind fun n3 => some (Sum.inl (n3, out8))) else some (Sum.inr out1))) fu (from1, [])).bind fun (out3 : List tPacket) => some (out3, s1)
section
attribute [local irreducible] awp aops DP PCall ACall Decidable.decide
theorem dlink_Sender_packets_l {fu : Nat} {s1 : tlinkSender} {from1 : Int} {to1 : Int} {r : (List tPacket) × tlinkSender} (h : dlink_Sender_packets fu s1 from1 to1 = some r) : ACall Try.prog 44 2 [.ptr 0 0, .int .u64 from1, .int .u64 to1] [(0, 0, .int .i64 s1.Window), (0, 1, .own 1), (0, 2, .int .u64 s1.First), (0, 3, .int .u64 s1.Next)] [(1, .row 1 (s1.L.map (cL cU8)))] (fun r_ H_ O_ n_ => r_ = .sl (r.1.map c_tPacket) ∧ H_ = [(0, 0, .int .i64 r.2.Window), (0, 1, .own 2), (0, 2, .int .u64 r.2.First), (0, 3, .int .u64 r.2.Next)] ∧ O_ = [(2, .row 1 (r.2.L.map (cL cU8)))] ∧ n_ = 3) := by
  rw [dlink_Sender_packets] at h
  refine acall_body Try.func44 rfl (by kernel_rfl) (by rfl) ?_
  refine awp_conv (fun _ _ _ _ _ hi => row_again (wr := false) 0 1 1 rfl rfl hi) ?_
  refine awp_seq ?_
  refine awp_region ?_
  refine rv rfl rfl ?_
  refine rn ?_
  refine awp_seq ?_
  refine awp_region ?_
  refine rv rfl rfl ?_
  refine rn ?_
  refine awp_seq ?_
  refine awp_seq ?_
  refine awp_region ?_
  refine rvs 2 rfl ?_
  refine rn ?_
  refine awp_conv (fun _ _ _ _ _ hi => nilS_slot false 2 7 rfl hi) ?_
  obtain ⟨e1, hl2, h⟩ := bi h
  refine awp_cut1 (fun x => x = e1) (fun (out3 : List tPacket) => ⟨[(7, .own 2)], [(0, 0, .int .i64 s1.Window), (0, 1, .own 3), (0, 2, .int .u64 s1.First), (0, 3, .int .u64 s1.Next)], [(2, .row 2 (out3.map c_tPacket)), (3, .row 1 (s1.L.map (cL cU8)))], 4⟩) ?_ ?_
  · refine awp_block ?_
    refine awp_loopD hl2 (fun (((n1, out1)) : Int × (List tPacket)) => ⟨[(0, .ptr 0 0), (2, .int .u64 to1), (7, .own 2), (8, .int .u64 n1)], [(0, 0, .int .i64 s1.Window), (0, 1, .own 3), (0, 2, .int .u64 s1.First), (0, 3, .int .u64 s1.Next)], [(2, .row 2 (out1.map c_tPacket)), (3, .row 1 (s1.L.map (cL cU8)))], 4⟩) [0, 1, 3, 2] rfl ⟨rfl, rfl, zA rfl rfl rfl (zA rfl rfl rfl (zA rfl rfl rfl (zA rfl rfl rfl (trivial)))), zC rfl rfl rfl rfl (zC rfl rfl rfl rfl (zC rfl rfl rfl rfl (zC rfl rfl rfl rfl (trivial)))), zE rfl .row rfl (zE rfl .row rfl (trivial))⟩ ?_
    intro v o5 ho3 hE4
    obtain ⟨n1, out1⟩ := v
    change awp _ _ _ _ _ ⟨_, _, _, _⟩
    refine awp_seq ?_
    refine awp_seq ?_
    refine awp_region ?_
    refine rvs 3 rfl ?_
    refine rn ?_
    refine cs_ rfl (fun hc => ?_) (fun hc => ?_)
    · have ho3 := cT hc ho3
      refine awp_skip ?_
      refine awp_seq ?_
      refine awp_block ?_
      refine awp_dx (m := 18) [] Try.mix (by kernel_rfl) (by kernel_rfl) (by kernel_rfl) (by kernel_rfl) (by kernel_rfl) (by kernel_rfl) ?_
      refine xv [] rfl rfl (fun _ => rfl) ?_
      refine xv [] rfl rfl (fun _ => rfl) ?_
      refine xv [] rfl rfl (fun _ => rfl) ?_
      refine xv [] rfl rfl (fun _ => rfl) ?_
      refine xv [] rfl rfl (fun _ => rfl) ?_
      refine xv [0] rfl rfl (fun _ => rfl) ?_
      refine xv [] rfl rfl (fun _ => rfl) ?_
      refine xv [] rfl rfl (fun _ => rfl) ?_
      refine xv [] rfl rfl (fun _ => rfl) ?_
      refine xv [] rfl rfl (fun _ => rfl) ?_
      refine xv [0] rfl rfl (fun _ => rfl) ?_
      refine xv [] rfl rfl (fun _ => rfl) ?_
      obtain ⟨out6, hx8, ho3⟩ := bi ho3
      refine xV [3] rfl rfl (fun _ => va_idx rfl rfl rfl rfl rfl (gi0 hx8) (giM (cL cU8) hx8) (wM (fun _ => by rfl) _)) ?_
      refine xv [] rfl rfl (fun _ => rfl) ?_
      obtain ⟨out7, hx9, ho3⟩ := bi ho3
      refine xc [] rfl rfl rfl (fun _ => rfl) (fun _ => (dbytes_Clone_l hx9)) ?_
      refine xv [] rfl rfl (fun _ => rfl) ?_
      refine xE [] (.own 4) 5 _ _ rfl rfl (by
          refine rbs false rfl rfl rfl rfl rfl rfl rfl rfl rfl rfl ?_
          exact rn ⟨rfl, rfl⟩) (by rfl) (by rfl) (by rfl) ?_
      obtain ⟨out8, hx10, ho3⟩ := bi ho3
      refine xE [2, 4] (.own 5) 6 _ _ rfl rfl (by
          refine rap false (xs := out1.map c_tPacket) (ys := [(tPacket.mk n1 out7)].map c_tPacket) rfl rfl rfl rfl rfl rfl rfl (.own rfl rfl) (.sl rfl rfl rfl) (wM (fun _ => by rfl) _) (oM (fun _ => by rfl) _) (apB c_tPacket rfl hx10) rfl ?_
          refine rk (congrArg (Kind.row _) (apM c_tPacket hx10)) ?_
          exact rn ⟨rfl, rfl⟩) (by rfl) (by rfl) (by rfl) ?_
      refine xn (by kernel_rfl) ?_
      refine rv rfl rfl ?_
      refine rn ?_
      refine inBlock_normal ?_
      refine awp_region ?_
      refine rvs 3 rfl ?_
      obtain ⟨n3, hx11, ho3⟩ := bs ho3
      refine rt (ei' hx11) ?_
      refine rn ?_
      cases ho3
      exact lp_n [0, 1, 5, 3] rfl rfl ⟨rfl, rfl, zA rfl rfl rfl (zA rfl rfl rfl (zA rfl rfl rfl (zA rfl rfl rfl (trivial)))), zC rfl rfl rfl rfl (zC rfl rfl rfl rfl (zC rfl rfl rfl rfl (zC rfl rfl rfl rfl (trivial)))), zE rfl .row rfl (zE rfl .row rfl (trivial))⟩
    · have ho3 := cF hc ho3
      refine awp_exit ?_
      repeat (first | refine then_exit ?_ | refine cut_x ?_ | refine inBlock_other rfl ?_)
      refine inBlock_exit ?_
      cases ho3
      have hq := hE4 _ rfl
      subst hq
      exact cut_n [0, 1, 2, 3] rfl rfl ⟨rfl, rfl, zA rfl rfl rfl (trivial), zC rfl rfl rfl rfl (zC rfl rfl rfl rfl (zC rfl rfl rfl rfl (zC rfl rfl rfl rfl (trivial)))), zE rfl .row rfl (zE rfl .row rfl (trivial))⟩
  · rintro out3 rfl
    refine awp_seq ?_
    refine awp_region ?_
    refine rvs 2 rfl ?_
    refine rn ?_
    refine awp_ret ?_
    cases h
    repeat (first | refine then_ret ?_ | refine inBlock_ret ?_ | refine cut_r ?_)
    exact rrA (r := .sl (out3.map c_tPacket)) [0, 1, 3] [(0, 0, .int .i64 s1.Window), (0, 1, .own 2), (0, 2, .int .u64 s1.First), (0, 3, .int .u64 s1.Next)] [(2, .row 1 (s1.L.map (cL cU8)))] rfl rfl rfl rfl (zC rfl rfl rfl rfl (zC rfl rfl rfl rfl (zC rfl rfl rfl rfl (zC rfl rfl rfl rfl (trivial))))) (zE rfl .row rfl (trivial)) ⟨rfl, rfl, rfl, rfl⟩
end

/-- `(*plover/link.Sender).Fresh` -/
def dlink_Sender_Fresh (fu : Nat) (s1 : tlinkSender) : Option ((List tPacket) × tlinkSender) :=
  (some (IntKind.wrap .u64 (s1.First + (IntKind.wrap .u64 (if (s1.L.length : Int) < s1.Window then (s1.L.length : Int) else s1.Window))))).bind fun to1 => (dlink_Sender_packets fu s1 s1.Next to1).bind fun out1 => some (out1.1, (tlinkSender.mk out1.2.Window out1.2.L out1.2.First (if to1 > out1.2.Next then to1 else out1.2.Next)))
section
attribute [local irreducible] awp aops DP PCall ACall Decidable.decide
theorem dlink_Sender_Fresh_l {fu : Nat} {s1 : tlinkSender} {r : (List tPacket) × tlinkSender} (h : dlink_Sender_Fresh fu s1 = some r) : ACall Try.prog 16 2 [.ptr 0 0] [(0, 0, .int .i64 s1.Window), (0, 1, .own 1), (0, 2, .int .u64 s1.First), (0, 3, .int .u64 s1.Next)] [(1, .row 1 (s1.L.map (cL cU8)))] (fun r_ H_ O_ n_ => r_ = .sl (r.1.map c_tPacket) ∧ H_ = [(0, 0, .int .i64 r.2.Window), (0, 1, .own 2), (0, 2, .int .u64 r.2.First), (0, 3, .int .u64 r.2.Next)] ∧ O_ = [(2, .row 1 (r.2.L.map (cL cU8)))] ∧ n_ = 3) := by
  rw [dlink_Sender_Fresh] at h
  refine acall_body Try.func16 rfl (by kernel_rfl) (by rfl) ?_
  refine awp_conv (fun _ _ _ _ _ hi => row_again (wr := false) 0 1 1 rfl rfl hi) ?_
  refine awp_seq ?_
  refine awp_region ?_
  refine rv rfl rfl ?_
  refine rn ?_
  refine awp_seq ?_
  refine awp_dp (m := 16) Try.mix (by kernel_rfl) (by kernel_rfl) (by kernel_rfl) (by kernel_rfl) (by kernel_rfl) (by kernel_rfl) (by kernel_rfl) ?_
  refine dv rfl rfl (fun _ => rfl) ?_
  refine dv rfl rfl (fun _ => rfl) ?_
  refine dv rfl rfl (fun _ => rfl) ?_
  refine dv rfl rfl (fun _ => rfl) ?_
  refine dv rfl rfl (fun _ => rfl) ?_
  refine dv rfl rfl (fun _ => rfl) ?_
  refine dv rfl rfl (fun _ => rfl) ?_
  refine dv rfl rfl (fun _ => rfl) ?_
  refine dv rfl rfl (fun _ => rfl) ?_
  refine dv rfl rfl (fun _ => rfl) ?_
  refine dv rfl rfl (fun _ => rfl) ?_
  refine dv rfl rfl (fun _ => rfl) ?_
  refine dv rfl rfl (fun _ => rfl) ?_
  refine dt ((lM (cL cU8) s1.L)) ?_
  refine dv rfl rfl (fun _ => rfl) ?_
  refine dv rfl rfl (fun _ => rfl) ?_
  refine dv rfl rfl (fun _ => rfl) ?_
  refine dn ?_
  refine rv rfl rfl ?_
  obtain ⟨to1, hx1, h⟩ := bs h
  refine rt (ei' hx1) ?_
  refine rn ?_
  refine awp_seq ?_
  refine awp_region ?_
  refine rvs 6 rfl ?_
  obtain ⟨out1, hx2, h⟩ := bi h
  refine rh [0, 2] rfl rfl (dlink_Sender_packets_l hx2) rfl rfl rfl (zC rfl rfl rfl rfl (zC rfl rfl rfl rfl (zC rfl rfl rfl rfl (zC rfl rfl rfl rfl (trivial))))) (zE rfl .row rfl (trivial)) ?_
  refine ek ?_
  refine as1 rfl ?_
  refine ae rfl rfl rfl ?_
  refine rv rfl rfl ?_
  refine rn ?_
  refine awp_seq ?_
  refine awp_region ?_
  refine rvs 9 rfl ?_
  refine rs rfl rfl rfl rfl rfl rfl rfl ?_
  refine rn ?_
  refine awp_seq ?_
  refine awp_region ?_
  refine rvs 2 rfl ?_
  refine rn ?_
  refine awp_ret ?_
  cases h
  repeat (first | refine then_ret ?_ | refine inBlock_ret ?_ | refine cut_r ?_)
  exact rrA (r := .sl (out1.1.map c_tPacket)) [0, 1, 3] [(0, 0, .int .i64 out1.2.Window), (0, 1, .own 2), (0, 2, .int .u64 out1.2.First), (0, 3, .int .u64 (if to1 > out1.2.Next then to1 else out1.2.Next))] [(2, .row 1 (out1.2.L.map (cL cU8)))] rfl rfl rfl rfl (zC rfl rfl rfl rfl (zC rfl rfl rfl rfl (zC rfl rfl rfl rfl (zC rfl rfl rfl rfl (trivial))))) (zE rfl .row rfl (trivial)) ⟨rfl, rfl, rfl, rfl⟩
end

/-- `(*plover/link.Sender).Again` -/
def dlink_Sender_Again (fu : Nat) (s1 : tlinkSender) : Option ((List tPacket) × tlinkSender) :=
  (dlink_Sender_packets fu s1 s1.First s1.Next).bind fun x1 => some (x1.1, x1.2)
section
attribute [local irreducible] awp aops DP PCall ACall Decidable.decide
theorem dlink_Sender_Again_l {fu : Nat} {s1 : tlinkSender} {r : (List tPacket) × tlinkSender} (h : dlink_Sender_Again fu s1 = some r) : ACall Try.prog 19 2 [.ptr 0 0] [(0, 0, .int .i64 s1.Window), (0, 1, .own 1), (0, 2, .int .u64 s1.First), (0, 3, .int .u64 s1.Next)] [(1, .row 1 (s1.L.map (cL cU8)))] (fun r_ H_ O_ n_ => r_ = .sl (r.1.map c_tPacket) ∧ H_ = [(0, 0, .int .i64 r.2.Window), (0, 1, .own 2), (0, 2, .int .u64 r.2.First), (0, 3, .int .u64 r.2.Next)] ∧ O_ = [(2, .row 1 (r.2.L.map (cL cU8)))] ∧ n_ = 3) := by
  rw [dlink_Sender_Again] at h
  refine acall_body Try.func19 rfl (by kernel_rfl) (by rfl) ?_
  refine awp_conv (fun _ _ _ _ _ hi => row_again (wr := false) 0 1 1 rfl rfl hi) ?_
  refine awp_seq ?_
  refine awp_region ?_
  refine rv rfl rfl ?_
  refine rn ?_
  refine awp_seq ?_
  refine awp_ren (L := [0, 1, 2]) (s' := ⟨[(0, .ptr 0 0)], [(0, 0, .int .i64 s1.Window), (0, 1, .own 2), (0, 2, .int .u64 s1.First), (0, 3, .int .u64 s1.Next)], [(2, .row 1 (s1.L.map (cL cU8)))], 3⟩) ⟨rfl, rfl, zA rfl rfl rfl (trivial), zC rfl rfl rfl rfl (zC rfl rfl rfl rfl (zC rfl rfl rfl rfl (zC rfl rfl rfl rfl (trivial)))), zE rfl .row rfl (trivial)⟩ rfl ?_
  refine awp_dx (m := 10) [] Try.mix (by kernel_rfl) (by kernel_rfl) (by kernel_rfl) (by kernel_rfl) (by kernel_rfl) (by kernel_rfl) ?_
  refine xv [] rfl rfl (fun _ => rfl) ?_
  refine xv [] rfl rfl (fun _ => rfl) ?_
  refine xv [] rfl rfl (fun _ => rfl) ?_
  refine xv [] rfl rfl (fun _ => rfl) ?_
  refine xv [0] rfl rfl (fun _ => rfl) ?_
  refine xv [] rfl rfl (fun _ => rfl) ?_
  refine xv [] rfl rfl (fun _ => rfl) ?_
  refine xv [] rfl rfl (fun _ => rfl) ?_
  refine xv [0] rfl rfl (fun _ => rfl) ?_
  obtain ⟨x1, hx1, h⟩ := bi h
  refine xE [0, 2] (.sl (x1.1.map c_tPacket)) 4 _ _ rfl rfl (by
      refine rh [0, 2] rfl rfl (dlink_Sender_packets_l hx1) rfl rfl rfl (zC rfl rfl rfl rfl (zC rfl rfl rfl rfl (zC rfl rfl rfl rfl (zC rfl rfl rfl rfl (trivial))))) (zE rfl .row rfl (trivial)) ?_
      refine ek ?_
      refine as1 rfl ?_
      refine ae rfl rfl rfl ?_
      exact rn ⟨rfl, rfl⟩) (by rfl) (by rfl) (by rfl) ?_
  refine xn (by kernel_rfl) ?_
  refine rv rfl rfl ?_
  refine rn ?_
  refine awp_ret ?_
  cases h
  repeat (first | refine then_ret ?_ | refine inBlock_ret ?_ | refine cut_r ?_)
  exact rrA (r := .sl (x1.1.map c_tPacket)) [0, 1, 3] [(0, 0, .int .i64 x1.2.Window), (0, 1, .own 2), (0, 2, .int .u64 x1.2.First), (0, 3, .int .u64 x1.2.Next)] [(2, .row 1 (x1.2.L.map (cL cU8)))] rfl rfl rfl rfl (zC rfl rfl rfl rfl (zC rfl rfl rfl rfl (zC rfl rfl rfl rfl (zC rfl rfl rfl rfl (trivial))))) (zE rfl .row rfl (trivial)) ⟨rfl, rfl, rfl, rfl⟩
end

/-- `(*plover/link.Sender).Ack` -/
def dlink_Sender_Ack (fu : Nat) (s1 : tlinkSender) (n1 : Int) : Option tlinkSender :=
  (bif (decide (n1 > s1.Next)) then some true else some (decide (n1 < s1.First)) : Option Bool).bind fun (x1 : Bool) => (bif x1 then some s1 else ((gsl s1.L (IntKind.wrap .u64 (n1 - s1.First)) (s1.L.length : Int)).bind fun l2 => some (tlinkSender.mk s1.Window l2 n1 s1.Next)))
section
attribute [local irreducible] awp aops DP PCall ACall Decidable.decide
theorem dlink_Sender_Ack_l {fu : Nat} {s1 : tlinkSender} {n1 : Int} {r : tlinkSender} (h : dlink_Sender_Ack fu s1 n1 = some r) : ACall Try.prog 22 2 [.ptr 0 0, .int .u64 n1] [(0, 0, .int .i64 s1.Window), (0, 1, .own 1), (0, 2, .int .u64 s1.First), (0, 3, .int .u64 s1.Next)] [(1, .row 1 (s1.L.map (cL cU8)))] (fun r_ H_ O_ n_ => r_ = .tup [] ∧ H_ = [(0, 0, .int .i64 r.Window), (0, 1, .own 2), (0, 2, .int .u64 r.First), (0, 3, .int .u64 r.Next)] ∧ O_ = [(2, .row 1 (r.L.map (cL cU8)))] ∧ n_ = 3) := by
  rw [dlink_Sender_Ack] at h
  refine acall_body Try.func22 rfl (by kernel_rfl) (by rfl) ?_
  refine awp_conv (fun _ _ _ _ _ hi => row_again (wr := false) 0 1 1 rfl rfl hi) ?_
  refine awp_seq ?_
  refine awp_seq ?_
  obtain ⟨o1, ho2, h⟩ := bi h
  refine awp_cut1 (fun x => x = o1) (fun (x1 : Bool) => ⟨[(0, .ptr 0 0), (1, .int .u64 n1), (17, .bool x1)], [(0, 0, .int .i64 s1.Window), (0, 1, .own 2), (0, 2, .int .u64 s1.First), (0, 3, .int .u64 s1.Next)], [(2, .row 1 (s1.L.map (cL cU8)))], 3⟩) ?_ ?_
  · refine awp_region ?_
    refine rvs 7 rfl ?_
    refine gs rfl rfl rfl rfl rfl (fun hg => ?_) (fun hg => ?_)
    · have ho2 := cF hg ho2
      refine rv rfl rfl ?_
      refine gy rfl rfl rfl ?_
      refine rv rfl rfl ?_
      refine gy rfl rfl rfl ?_
      refine rv rfl rfl ?_
      refine gy rfl rfl rfl ?_
      refine rv rfl rfl ?_
      refine gy rfl rfl rfl ?_
      refine rv rfl rfl ?_
      refine gy rfl rfl rfl ?_
      refine rv rfl rfl ?_
      refine rv rfl rfl ?_
      refine rn ?_
      cases ho2
      exact cut_n [0, 1, 2] rfl rfl ⟨rfl, rfl, zA rfl rfl rfl (zA rfl rfl rfl (zA rfl rfl rfl (trivial))), zC rfl rfl rfl rfl (zC rfl rfl rfl rfl (zC rfl rfl rfl rfl (zC rfl rfl rfl rfl (trivial)))), zE rfl .row rfl (trivial)⟩
    · have ho2 := cT hg ho2
      refine gn rfl rfl rfl rfl rfl ?_
      refine gn rfl rfl rfl rfl rfl ?_
      refine gn rfl rfl rfl rfl rfl ?_
      refine gn rfl rfl rfl rfl rfl ?_
      refine gn rfl rfl rfl rfl rfl ?_
      refine rv rfl rfl ?_
      refine rn ?_
      cases ho2
      exact cut_n [0, 1, 2] rfl rfl ⟨rfl, rfl, zA rfl rfl rfl (zA rfl rfl rfl (zA rfl rfl rfl (trivial))), zC rfl rfl rfl rfl (zC rfl rfl rfl rfl (zC rfl rfl rfl rfl (zC rfl rfl rfl rfl (trivial)))), zE rfl .row rfl (trivial)⟩
  · rintro x1 rfl
    change awp _ _ _ _ _ ⟨_, _, _, _⟩
    refine cs_ rfl (fun hc => ?_) (fun hc => ?_)
    · have h := cT hc h
      refine awp_ret ?_
      cases h
      repeat (first | refine then_ret ?_ | refine inBlock_ret ?_ | refine cut_r ?_)
      exact rrA (r := .tup []) [0, 1, 2] [(0, 0, .int .i64 s1.Window), (0, 1, .own 2), (0, 2, .int .u64 s1.First), (0, 3, .int .u64 s1.Next)] [(2, .row 1 (s1.L.map (cL cU8)))] rfl rfl rfl rfl (zC rfl rfl rfl rfl (zC rfl rfl rfl rfl (zC rfl rfl rfl rfl (zC rfl rfl rfl rfl (trivial))))) (zE rfl .row rfl (trivial)) ⟨rfl, rfl, rfl, rfl⟩
    · have h := cF hc h
      refine awp_skip ?_
      refine awp_seq ?_
      refine awp_dx (m := 15) [] Try.mix (by kernel_rfl) (by kernel_rfl) (by kernel_rfl) (by kernel_rfl) (by kernel_rfl) (by kernel_rfl) ?_
      refine xv [] rfl rfl (fun _ => rfl) ?_
      refine xv [] rfl rfl (fun _ => rfl) ?_
      refine xv [] rfl rfl (fun _ => rfl) ?_
      refine xv [] rfl rfl (fun _ => rfl) ?_
      refine xv [0] rfl rfl (fun _ => rfl) ?_
      refine xv [] rfl rfl (fun _ => rfl) ?_
      refine xv [] rfl rfl (fun _ => rfl) ?_
      refine xv [] rfl rfl (fun _ => rfl) ?_
      refine xv [] rfl rfl (fun _ => rfl) ?_
      refine xv [0] rfl rfl (fun _ => rfl) ?_
      refine xv [] rfl rfl (fun _ => rfl) ?_
      obtain ⟨l2, hx4, h⟩ := bi h
      refine xE [2] (.own 3) 4 _ _ rfl rfl (by
          refine rtl rfl rfl rfl rfl rfl rfl rfl (bndI_nat (d := 0) ⟨_, rfl⟩ (gsb hx4).1) (drL (cL cU8) hx4) rfl ?_
          refine rk (congrArg (Kind.row _) (drM (cL cU8) hx4)) ?_
          exact rn ⟨rfl, rfl⟩) (by rfl) (by rfl) (by rfl) ?_
      refine xv [] rfl rfl (fun _ => rfl) ?_
      refine xv [] rfl rfl (fun _ => rfl) ?_
      refine xE [0, 2, 3] .any 4 _ _ rfl rfl (by
          refine rs rfl rfl rfl rfl rfl rfl rfl ?_
          exact rn ⟨rfl, rfl⟩) (by rfl) (by rfl) (by rfl) ?_
      refine xn (by kernel_rfl) ?_
      refine rn ?_
      refine awp_region ?_
      refine rvs 4 rfl ?_
      refine rs rfl rfl rfl rfl rfl rfl rfl ?_
      refine rn ?_
      cases h
      exact rrA' (r := .tup []) [0, 1, 3] [(0, 0, .int .i64 s1.Window), (0, 1, .own 2), (0, 2, .int .u64 n1), (0, 3, .int .u64 s1.Next)] [(2, .row 1 (l2.map (cL cU8)))] rfl rfl rfl rfl (zC rfl rfl rfl rfl (zC rfl rfl rfl rfl (zC rfl rfl rfl rfl (zC rfl rfl rfl rfl (trivial))))) (zE rfl .row rfl (trivial)) ⟨rfl, rfl, rfl, rfl⟩
end

/-- `(*plover/link.Sender).Len` -/
def dlink_Sender_Len (fu : Nat) (s1 : tlinkSender) : Option (Int × tlinkSender) :=
  (some ((s1.L.length : Int))).bind fun x1 => some (x1, s1)
section
attribute [local irreducible] awp aops DP PCall ACall Decidable.decide
theorem dlink_Sender_Len_l {fu : Nat} {s1 : tlinkSender} {r : Int × tlinkSender} (h : dlink_Sender_Len fu s1 = some r) : ACall Try.prog 24 2 [.ptr 0 0] [(0, 0, .int .i64 s1.Window), (0, 1, .own 1), (0, 2, .int .u64 s1.First), (0, 3, .int .u64 s1.Next)] [(1, .row 1 (s1.L.map (cL cU8)))] (fun r_ H_ O_ n_ => r_ = .int .i64 r.1 ∧ H_ = [(0, 0, .int .i64 r.2.Window), (0, 1, .own 2), (0, 2, .int .u64 r.2.First), (0, 3, .int .u64 r.2.Next)] ∧ O_ = [(2, .row 1 (r.2.L.map (cL cU8)))] ∧ n_ = 3) := by
  rw [dlink_Sender_Len] at h
  refine acall_body Try.func24 rfl (by kernel_rfl) (by rfl) ?_
  refine awp_conv (fun _ _ _ _ _ hi => row_again (wr := false) 0 1 1 rfl rfl hi) ?_
  refine awp_seq ?_
  refine awp_region ?_
  refine rv rfl rfl ?_
  refine rn ?_
  refine awp_seq ?_
  refine awp_region ?_
  refine rvs 4 rfl ?_
  refine rv rfl rfl ?_
  refine rt ((lM (cL cU8) s1.L)) ?_
  refine rv rfl rfl ?_
  obtain ⟨x1, hx1, h⟩ := bs h
  refine rt (ei' hx1) ?_
  refine rn ?_
  refine awp_ret ?_
  cases h
  repeat (first | refine then_ret ?_ | refine inBlock_ret ?_ | refine cut_r ?_)
  exact rrA (r := .int .i64 x1) [0, 1, 2] [(0, 0, .int .i64 s1.Window), (0, 1, .own 2), (0, 2, .int .u64 s1.First), (0, 3, .int .u64 s1.Next)] [(2, .row 1 (s1.L.map (cL cU8)))] rfl rfl rfl rfl (zC rfl rfl rfl rfl (zC rfl rfl rfl rfl (zC rfl rfl rfl rfl (zC rfl rfl rfl rfl (trivial))))) (zE rfl .row rfl (trivial)) ⟨rfl, rfl, rfl, rfl⟩
end

/-- `(*plover/link.Receiver).Take` -/
def dlink_Receiver_Take (fu : Nat) (r1 : tlinkReceiver) (p1 : tPacket) : Option (Str × Bool × tlinkReceiver) :=
  bif (p1.Seq != r1.Want) then some ([], false, r1) else ((dbytes_Clone fu p1.Data).bind fun x1 => some (x1, true, (tlinkReceiver.mk (IntKind.wrap .u64 (r1.Want + 1)))))
section
attribute [local irreducible] awp aops DP PCall ACall Decidable.decide
theorem dlink_Receiver_Take_l {fu : Nat} {r1 : tlinkReceiver} {p1 : tPacket} {r : Str × Bool × tlinkReceiver} (h : dlink_Receiver_Take fu r1 p1 = some r) : ACall Try.prog 20 1 [.ptr 0 0, .agg [.int .u64 p1.Seq, .sl (p1.Data.map cU8)]] [(0, 0, .int .u64 r1.Want)] [] (fun r_ H_ O_ n_ => r_ = .tup [.sl (r.1.map cU8), .bool r.2.1] ∧ H_ = [(0, 0, .int .u64 r.2.2.Want)] ∧ O_ = [] ∧ n_ = 1) := by
  rw [dlink_Receiver_Take] at h
  refine acall_body Try.func20 rfl (by kernel_rfl) (by rfl) ?_
  refine awp_seq ?_
  refine awp_region ?_
  refine rb rfl rfl ?_
  refine rvs 2 rfl ?_
  refine rn ?_
  refine awp_seq ?_
  refine awp_seq ?_
  refine awp_dp (m := 7) Try.mix (by kernel_rfl) (by kernel_rfl) (by kernel_rfl) (by kernel_rfl) (by kernel_rfl) (by kernel_rfl) (by kernel_rfl) ?_
  refine dv rfl rfl (fun _ => rfl) ?_
  refine dv rfl rfl (fun _ => rfl) ?_
  refine dv rfl rfl (fun _ => rfl) ?_
  refine dv rfl rfl (fun _ => rfl) ?_
  refine dv rfl rfl (fun _ => rfl) ?_
  refine dv rfl rfl (fun _ => rfl) ?_
  refine dv rfl rfl (fun _ => rfl) ?_
  refine dn ?_
  refine rn ?_
  refine cs_ rfl (fun hc => ?_) (fun hc => ?_)
  · have h := cT hc h
    refine awp_seq ?_
    refine awp_region ?_
    refine rvs 2 rfl ?_
    refine rn ?_
    refine awp_ret ?_
    cases h
    repeat (first | refine then_ret ?_ | refine inBlock_ret ?_ | refine cut_r ?_)
    exact rrA (r := .tup [.sl (([] : Str).map cU8), .bool false]) [0] [(0, 0, .int .u64 r1.Want)] [] rfl rfl rfl rfl (zC rfl rfl rfl rfl (trivial)) (trivial) ⟨rfl, rfl, rfl, rfl⟩
  · have h := cF hc h
    refine awp_skip ?_
    refine awp_seq ?_
    refine awp_region ?_
    refine rvs 7 rfl ?_
    refine rs rfl rfl rfl rfl rfl rfl rfl ?_
    refine rn ?_
    refine awp_seq ?_
    refine awp_region ?_
    refine rvs 2 rfl ?_
    obtain ⟨x1, hx1, h⟩ := bi h
    refine rc1 rfl rfl rfl (dbytes_Clone_l hx1) ?_
    refine rvs 2 rfl ?_
    refine rn ?_
    refine awp_ret ?_
    cases h
    repeat (first | refine then_ret ?_ | refine inBlock_ret ?_ | refine cut_r ?_)
    exact rrA (r := .tup [.sl (x1.map cU8), .bool true]) [0] [(0, 0, .int .u64 (IntKind.wrap .u64 (r1.Want + 1)))] [] rfl rfl rfl rfl (zC rfl rfl rfl rfl (trivial)) (trivial) ⟨rfl, rfl, rfl, rfl⟩
end

/-- `(*plover/link.Receiver).Want` -/
def dlink_Receiver_Want (fu : Nat) (r1 : tlinkReceiver) : Option (Int × tlinkReceiver) :=
  some (r1.Want, r1)
section
attribute [local irreducible] awp aops DP PCall ACall Decidable.decide
theorem dlink_Receiver_Want_l {fu : Nat} {r1 : tlinkReceiver} {r : Int × tlinkReceiver} (h : dlink_Receiver_Want fu r1 = some r) : ACall Try.prog 21 1 [.ptr 0 0] [(0, 0, .int .u64 r1.Want)] [] (fun r_ H_ O_ n_ => r_ = .int .u64 r.1 ∧ H_ = [(0, 0, .int .u64 r.2.Want)] ∧ O_ = [] ∧ n_ = 1) := by
  rw [dlink_Receiver_Want] at h
  refine acall_body Try.func21 rfl (by kernel_rfl) (by rfl) ?_
  refine awp_seq ?_
  refine awp_region ?_
  refine rv rfl rfl ?_
  refine rn ?_
  refine awp_seq ?_
  refine awp_region ?_
  refine rvs 5 rfl ?_
  refine rn ?_
  refine awp_ret ?_
  cases h
  repeat (first | refine then_ret ?_ | refine inBlock_ret ?_ | refine cut_r ?_)
  exact rrA (r := .int .u64 r1.Want) [0] [(0, 0, .int .u64 r1.Want)] [] rfl rfl rfl rfl (zC rfl rfl rfl rfl (trivial)) (trivial) ⟨rfl, rfl, rfl, rfl⟩
end

/-- `(*plover/ploverref15.Sender).Len` -/
def dref15_Sender_Len (fu : Nat) (s1 : tref15Sender) : Option (Int × tref15Sender) :=
  (some (W ((s1.L.length : Int) - s1.Acked))).bind fun x1 => some (x1, s1)
section
attribute [local irreducible] awp aops DP PCall ACall Decidable.decide
theorem dref15_Sender_Len_l {fu : Nat} {s1 : tref15Sender} {r : Int × tref15Sender} (h : dref15_Sender_Len fu s1 = some r) : ACall Try.prog 15 2 [.ptr 0 0] [(0, 0, .int .i64 s1.Window), (0, 1, .own 1), (0, 2, .int .i64 s1.Acked), (0, 3, .int .i64 s1.Told)] [(1, .row 1 (s1.L.map (cL cU8)))] (fun r_ H_ O_ n_ => r_ = .int .i64 r.1 ∧ H_ = [(0, 0, .int .i64 r.2.Window), (0, 1, .own 2), (0, 2, .int .i64 r.2.Acked), (0, 3, .int .i64 r.2.Told)] ∧ O_ = [(2, .row 1 (r.2.L.map (cL cU8)))] ∧ n_ = 3) := by
  rw [dref15_Sender_Len] at h
  refine acall_body Try.func15 rfl (by kernel_rfl) (by rfl) ?_
  refine awp_conv (fun _ _ _ _ _ hi => row_again (wr := false) 0 1 1 rfl rfl hi) ?_
  refine awp_seq ?_
  refine awp_region ?_
  refine rv rfl rfl ?_
  refine rn ?_
  refine awp_seq ?_
  refine awp_dp (m := 10) Try.mix (by kernel_rfl) (by kernel_rfl) (by kernel_rfl) (by kernel_rfl) (by kernel_rfl) (by kernel_rfl) (by kernel_rfl) ?_
  refine dv rfl rfl (fun _ => rfl) ?_
  refine dv rfl rfl (fun _ => rfl) ?_
  refine dv rfl rfl (fun _ => rfl) ?_
  refine dv rfl rfl (fun _ => rfl) ?_
  refine dv rfl rfl (fun _ => rfl) ?_
  refine dt ((lM (cL cU8) s1.L)) ?_
  refine dv rfl rfl (fun _ => rfl) ?_
  refine dv rfl rfl (fun _ => rfl) ?_
  refine dv rfl rfl (fun _ => rfl) ?_
  refine dv rfl rfl (fun _ => rfl) ?_
  refine dv rfl rfl (fun _ => rfl) ?_
  refine dn ?_
  refine rv rfl rfl ?_
  obtain ⟨x1, hx1, h⟩ := bs h
  refine rt (ei' hx1) ?_
  refine rn ?_
  refine awp_ret ?_
  cases h
  repeat (first | refine then_ret ?_ | refine inBlock_ret ?_ | refine cut_r ?_)
  exact rrA (r := .int .i64 x1) [0, 1, 2] [(0, 0, .int .i64 s1.Window), (0, 1, .own 2), (0, 2, .int .i64 s1.Acked), (0, 3, .int .i64 s1.Told)] [(2, .row 1 (s1.L.map (cL cU8)))] rfl rfl rfl rfl (zC rfl rfl rfl rfl (zC rfl rfl rfl rfl (zC rfl rfl rfl rfl (zC rfl rfl rfl rfl (trivial))))) (zE rfl .row rfl (trivial)) ⟨rfl, rfl, rfl, rfl⟩
end

/-- `(*plover/ploverref15.Sender).Fresh` -/
def dref15_Sender_Fresh (fu : Nat) (s1 : tref15Sender) : Option (Int × Int × tref15Sender) :=
  (some (W (s1.Acked + s1.Window))).bind fun to1 => (bif (decide (to1 > (s1.L.length : Int))) then ((some ((s1.L.length : Int))).bind fun to3 => some to3) else some to1 : Option Int).bind fun (to2 : Int) => ((bif (decide (to2 > s1.Told)) then some to2 else some s1.Told : Option Int).bind fun (s2 : Int) => some (s1.Told, s2, (tref15Sender.mk s1.Window s1.L s1.Acked s2)))
section
attribute [local irreducible] awp aops DP PCall ACall Decidable.decide
theorem dref15_Sender_Fresh_l {fu : Nat} {s1 : tref15Sender} {r : Int × Int × tref15Sender} (h : dref15_Sender_Fresh fu s1 = some r) : ACall Try.prog 17 2 [.ptr 0 0] [(0, 0, .int .i64 s1.Window), (0, 1, .own 1), (0, 2, .int .i64 s1.Acked), (0, 3, .int .i64 s1.Told)] [(1, .row 1 (s1.L.map (cL cU8)))] (fun r_ H_ O_ n_ => r_ = .tup [.int .i64 r.1, .int .i64 r.2.1] ∧ H_ = [(0, 0, .int .i64 r.2.2.Window), (0, 1, .own 2), (0, 2, .int .i64 r.2.2.Acked), (0, 3, .int .i64 r.2.2.Told)] ∧ O_ = [(2, .row 1 (r.2.2.L.map (cL cU8)))] ∧ n_ = 3) := by
  rw [dref15_Sender_Fresh] at h
  refine acall_body Try.func17 rfl (by kernel_rfl) (by rfl) ?_
  refine awp_conv (fun _ _ _ _ _ hi => row_again (wr := false) 0 1 1 rfl rfl hi) ?_
  refine awp_seq ?_
  refine awp_region ?_
  refine rvs 2 rfl ?_
  refine rn ?_
  refine awp_seq ?_
  refine awp_region ?_
  refine rvs 5 rfl ?_
  refine rn ?_
  refine awp_seq ?_
  refine awp_dp (m := 9) Try.mix (by kernel_rfl) (by kernel_rfl) (by kernel_rfl) (by kernel_rfl) (by kernel_rfl) (by kernel_rfl) (by kernel_rfl) ?_
  refine dv rfl rfl (fun _ => rfl) ?_
  refine dv rfl rfl (fun _ => rfl) ?_
  refine dv rfl rfl (fun _ => rfl) ?_
  refine dv rfl rfl (fun _ => rfl) ?_
  refine dv rfl rfl (fun _ => rfl) ?_
  refine dv rfl rfl (fun _ => rfl) ?_
  refine dv rfl rfl (fun _ => rfl) ?_
  refine dv rfl rfl (fun _ => rfl) ?_
  refine dv rfl rfl (fun _ => rfl) ?_
  refine dn ?_
  refine rv rfl rfl ?_
  obtain ⟨to1, hx1, h⟩ := bs h
  refine rt (ei' hx1) ?_
  refine rn ?_
  refine awp_seq ?_
  refine awp_seq ?_
  refine awp_region ?_
  refine rvs 5 rfl ?_
  refine rv rfl rfl ?_
  refine rt ((lM (cL cU8) s1.L)) ?_
  refine rv rfl rfl ?_
  refine rn ?_
  obtain ⟨o2, ho3, h⟩ := bi h
  refine awp_cut1 (fun x => x = o2) (fun (to2 : Int) => ⟨[(0, .ptr 0 0), (4, .int .i64 s1.Told), (5, .int .i64 to2)], [(0, 0, .int .i64 s1.Window), (0, 1, .own 2), (0, 2, .int .i64 s1.Acked), (0, 3, .int .i64 s1.Told)], [(2, .row 1 (s1.L.map (cL cU8)))], 3⟩) ?_ ?_
  · refine cs_ rfl (fun hc => ?_) (fun hc => ?_)
    · have ho3 := cT hc ho3
      refine awp_region ?_
      refine rvs 4 rfl ?_
      refine rv rfl rfl ?_
      refine rt ((lM (cL cU8) s1.L)) ?_
      refine rv rfl rfl ?_
      obtain ⟨to3, hx4, ho3⟩ := bs ho3
      refine rt (ei' hx4) ?_
      refine rn ?_
      cases ho3
      exact cut_n [0, 1, 2] rfl rfl ⟨rfl, rfl, zA rfl rfl rfl (zA rfl rfl rfl (zA rfl rfl rfl (trivial))), zC rfl rfl rfl rfl (zC rfl rfl rfl rfl (zC rfl rfl rfl rfl (zC rfl rfl rfl rfl (trivial)))), zE rfl .row rfl (trivial)⟩
    · have ho3 := cF hc ho3
      refine awp_skip ?_
      cases ho3
      exact cut_n [0, 1, 2] rfl rfl ⟨rfl, rfl, zA rfl rfl rfl (zA rfl rfl rfl (zA rfl rfl rfl (trivial))), zC rfl rfl rfl rfl (zC rfl rfl rfl rfl (zC rfl rfl rfl rfl (zC rfl rfl rfl rfl (trivial)))), zE rfl .row rfl (trivial)⟩
  · rintro to2 rfl
    change awp _ _ _ _ _ ⟨_, _, _, _⟩
    refine awp_seq ?_
    refine awp_seq ?_
    refine awp_region ?_
    refine rvs 6 rfl ?_
    refine rn ?_
    obtain ⟨o5, ho6, h⟩ := bi h
    refine awp_cut1 (fun x => x = o5) (fun (s2 : Int) => ⟨[(0, .ptr 0 0), (4, .int .i64 s1.Told)], [(0, 0, .int .i64 s1.Window), (0, 1, .own 2), (0, 2, .int .i64 s1.Acked), (0, 3, .int .i64 s2)], [(2, .row 1 (s1.L.map (cL cU8)))], 3⟩) ?_ ?_
    · refine cs_ rfl (fun hc => ?_) (fun hc => ?_)
      · have ho6 := cT hc ho6
        refine awp_region ?_
        refine rvs 4 rfl ?_
        refine rs rfl rfl rfl rfl rfl rfl rfl ?_
        refine rn ?_
        cases ho6
        exact cut_n [0, 1, 2] rfl rfl ⟨rfl, rfl, zA rfl rfl rfl (zA rfl rfl rfl (trivial)), zC rfl rfl rfl rfl (zC rfl rfl rfl rfl (zC rfl rfl rfl rfl (zC rfl rfl rfl rfl (trivial)))), zE rfl .row rfl (trivial)⟩
      · have ho6 := cF hc ho6
        refine awp_skip ?_
        cases ho6
        exact cut_n [0, 1, 2] rfl rfl ⟨rfl, rfl, zA rfl rfl rfl (zA rfl rfl rfl (trivial)), zC rfl rfl rfl rfl (zC rfl rfl rfl rfl (zC rfl rfl rfl rfl (zC rfl rfl rfl rfl (trivial)))), zE rfl .row rfl (trivial)⟩
    · rintro s2 rfl
      change awp _ _ _ _ _ ⟨_, _, _, _⟩
      refine awp_seq ?_
      refine awp_dp (m := 6) Try.mix (by kernel_rfl) (by kernel_rfl) (by kernel_rfl) (by kernel_rfl) (by kernel_rfl) (by kernel_rfl) (by kernel_rfl) ?_
      refine dv rfl rfl (fun _ => rfl) ?_
      refine dv rfl rfl (fun _ => rfl) ?_
      refine dv rfl rfl (fun _ => rfl) ?_
      refine dv rfl rfl (fun _ => rfl) ?_
      refine dv rfl rfl (fun _ => rfl) ?_
      refine dv rfl rfl (fun _ => rfl) ?_
      refine dn ?_
      refine rv rfl rfl ?_
      refine rn ?_
      refine awp_ret ?_
      cases h
      repeat (first | refine then_ret ?_ | refine inBlock_ret ?_ | refine cut_r ?_)
      exact rrA (r := .tup [.int .i64 s1.Told, .int .i64 s2]) [0, 1, 2] [(0, 0, .int .i64 s1.Window), (0, 1, .own 2), (0, 2, .int .i64 s1.Acked), (0, 3, .int .i64 s2)] [(2, .row 1 (s1.L.map (cL cU8)))] rfl rfl rfl rfl (zC rfl rfl rfl rfl (zC rfl rfl rfl rfl (zC rfl rfl rfl rfl (zC rfl rfl rfl rfl (trivial))))) (zE rfl .row rfl (trivial)) ⟨rfl, rfl, rfl, rfl⟩
end

/-- `(*plover/ploverref15.Sender).Ack` -/
def dref15_Sender_Ack (fu : Nat) (s1 : tref15Sender) (n1 : Int) : Option tref15Sender :=
  (bif (decide (n1 ≤ (IntKind.wrap .u64 s1.Told))) then some (decide (n1 ≥ (IntKind.wrap .u64 s1.Acked))) else some false : Option Bool).bind fun (x1 : Bool) => (bif x1 then some (tref15Sender.mk s1.Window s1.L (W n1) s1.Told) else some s1)
section
attribute [local irreducible] awp aops DP PCall ACall Decidable.decide
theorem dref15_Sender_Ack_l {fu : Nat} {s1 : tref15Sender} {n1 : Int} {r : tref15Sender} (h : dref15_Sender_Ack fu s1 n1 = some r) : ACall Try.prog 23 2 [.ptr 0 0, .int .u64 n1] [(0, 0, .int .i64 s1.Window), (0, 1, .own 1), (0, 2, .int .i64 s1.Acked), (0, 3, .int .i64 s1.Told)] [(1, .row 1 (s1.L.map (cL cU8)))] (fun r_ H_ O_ n_ => r_ = .tup [] ∧ H_ = [(0, 0, .int .i64 r.Window), (0, 1, .own 2), (0, 2, .int .i64 r.Acked), (0, 3, .int .i64 r.Told)] ∧ O_ = [(2, .row 1 (r.L.map (cL cU8)))] ∧ n_ = 3) := by
  rw [dref15_Sender_Ack] at h
  refine acall_body Try.func23 rfl (by kernel_rfl) (by rfl) ?_
  refine awp_conv (fun _ _ _ _ _ hi => row_again (wr := false) 0 1 1 rfl rfl hi) ?_
  refine awp_seq ?_
  obtain ⟨o1, ho2, h⟩ := bi h
  refine awp_cut1 (fun x => x = o1) (fun (x1 : Bool) => ⟨[(0, .ptr 0 0), (1, .int .u64 n1), (19, .bool x1)], [(0, 0, .int .i64 s1.Window), (0, 1, .own 2), (0, 2, .int .i64 s1.Acked), (0, 3, .int .i64 s1.Told)], [(2, .row 1 (s1.L.map (cL cU8)))], 3⟩) ?_ ?_
  · refine awp_region ?_
    refine rvs 8 rfl ?_
    refine gs rfl rfl rfl rfl rfl (fun hg => ?_) (fun hg => ?_)
    · have ho2 := cT hg ho2
      refine rv rfl rfl ?_
      refine gy rfl rfl rfl ?_
      refine rv rfl rfl ?_
      refine gy rfl rfl rfl ?_
      refine rv rfl rfl ?_
      refine gy rfl rfl rfl ?_
      refine rv rfl rfl ?_
      refine gy rfl rfl rfl ?_
      refine rv rfl rfl ?_
      refine gy rfl rfl rfl ?_
      refine rv rfl rfl ?_
      refine gy rfl rfl rfl ?_
      refine rv rfl rfl ?_
      refine rv rfl rfl ?_
      refine rn ?_
      cases ho2
      exact cut_n [0, 1, 2] rfl rfl ⟨rfl, rfl, zA rfl rfl rfl (zA rfl rfl rfl (zA rfl rfl rfl (trivial))), zC rfl rfl rfl rfl (zC rfl rfl rfl rfl (zC rfl rfl rfl rfl (zC rfl rfl rfl rfl (trivial)))), zE rfl .row rfl (trivial)⟩
    · have ho2 := cF hg ho2
      refine gn rfl rfl rfl rfl rfl ?_
      refine gn rfl rfl rfl rfl rfl ?_
      refine gn rfl rfl rfl rfl rfl ?_
      refine gn rfl rfl rfl rfl rfl ?_
      refine gn rfl rfl rfl rfl rfl ?_
      refine gn rfl rfl rfl rfl rfl ?_
      refine rv rfl rfl ?_
      refine rn ?_
      cases ho2
      exact cut_n [0, 1, 2] rfl rfl ⟨rfl, rfl, zA rfl rfl rfl (zA rfl rfl rfl (zA rfl rfl rfl (trivial))), zC rfl rfl rfl rfl (zC rfl rfl rfl rfl (zC rfl rfl rfl rfl (zC rfl rfl rfl rfl (trivial)))), zE rfl .row rfl (trivial)⟩
  · rintro x1 rfl
    change awp _ _ _ _ _ ⟨_, _, _, _⟩
    refine cs_ rfl (fun hc => ?_) (fun hc => ?_)
    · have h := cT hc h
      refine awp_region ?_
      refine rvs 5 rfl ?_
      refine rs rfl rfl rfl rfl rfl rfl rfl ?_
      refine rn ?_
      cases h
      exact rrA' (r := .tup []) [0, 1, 2] [(0, 0, .int .i64 s1.Window), (0, 1, .own 2), (0, 2, .int .i64 (W n1)), (0, 3, .int .i64 s1.Told)] [(2, .row 1 (s1.L.map (cL cU8)))] rfl rfl rfl rfl (zC rfl rfl rfl rfl (zC rfl rfl rfl rfl (zC rfl rfl rfl rfl (zC rfl rfl rfl rfl (trivial))))) (zE rfl .row rfl (trivial)) ⟨rfl, rfl, rfl, rfl⟩
    · have h := cF hc h
      refine awp_skip ?_
      cases h
      exact rrA' (r := .tup []) [0, 1, 2] [(0, 0, .int .i64 s1.Window), (0, 1, .own 2), (0, 2, .int .i64 s1.Acked), (0, 3, .int .i64 s1.Told)] [(2, .row 1 (s1.L.map (cL cU8)))] rfl rfl rfl rfl (zC rfl rfl rfl rfl (zC rfl rfl rfl rfl (zC rfl rfl rfl rfl (zC rfl rfl rfl rfl (trivial))))) (zE rfl .row rfl (trivial)) ⟨rfl, rfl, rfl, rfl⟩
end

/-- `plover/ploverlaw15.up` -/
def dlaw15_up (fu : Nat)  : Option Bool :=
  (dlink_NewSender fu 1).bind fun s1 => match s1 with | (none, s3) => ((dlink_NewSender fu 65).bind fun x1 => match x1 with | (none, x3) => ((dlink_NewReceiver fu ).bind fun r1 => some false) | (some x2, x3) => ((dlink_NewReceiver fu ).bind fun r2 => some false)) | (some s2, s3) => ((dlink_NewSender fu 65).bind fun x4 => match x4 with | (none, x6) => ((dlink_NewReceiver fu ).bind fun r3 => bif s3.isSome then some false else ((dlink_Sender_Send fu s2 [97]).bind fun x7 => (dlink_Sender_Send fu x7.2 [98]).bind fun x8 => (dlink_Sender_Fresh fu x8.2).bind fun l1 => bif ((l1.1.length : Int) != 1) then some false else ((gi l1.1 0).bind fun b1 => (dlink_Receiver_Take fu r3 b1).bind fun b2 => (dlink_Receiver_Want fu b2.2.2).bind fun x9 => (dlink_Sender_Ack fu l1.2 x9.1).bind fun x10 => bif (x6 == some 1) then (bif b2.2.1 then (bif (b2.1 == [97]) then ((dlink_Sender_Len fu x10).bind fun x11 => bif (x11.1 == 1) then ((dlink_Receiver_Want fu x9.2).bind fun x12 => some (x12.1 == 1)) else some false) else some false) else some false) else some false))) | (some x5, x6) => ((dlink_NewReceiver fu ).bind fun r4 => bif s3.isSome then some false else ((dlink_Sender_Send fu s2 [97]).bind fun x13 => (dlink_Sender_Send fu x13.2 [98]).bind fun x14 => (dlink_Sender_Fresh fu x14.2).bind fun l2 => bif ((l2.1.length : Int) != 1) then some false else ((gi l2.1 0).bind fun b3 => (dlink_Receiver_Take fu r4 b3).bind fun b4 => (dlink_Receiver_Want fu b4.2.2).bind fun x15 => (dlink_Sender_Ack fu l2.2 x15.1).bind fun x16 => bif (x6 == some 1) then (bif b4.2.1 then (bif (b4.1 == [97]) then ((dlink_Sender_Len fu x16).bind fun x17 => bif (x17.1 == 1) then ((dlink_Receiver_Want fu x15.2).bind fun x18 => some (x18.1 == 1)) else some false) else some false) else some false) else some false))))
section
attribute [local irreducible] awp aops DP PCall ACall Decidable.decide
theorem dlaw15_up_l {fu : Nat}  {r : Bool} (h : dlaw15_up fu  = some r) : PCall Try.prog 10 [] (· = .bool r) := by
  rw [dlaw15_up] at h
  refine pcall_body Try.func10 rfl (by kernel_rfl) (by rfl) ?_
  refine awp_seq ?_
  refine awp_region ?_
  refine rv rfl rfl ?_
  refine rn ?_
  refine awp_seq ?_
  refine awp_region ?_
  obtain ⟨s1, hx1, h⟩ := bi h
  obtain ⟨_ | s2, s3⟩ := s1
  · refine rh [] rfl rfl (dlink_NewSender_l hx1) rfl rfl rfl (trivial) (trivial) ?_
    refine ek ?_
    refine as1 rfl ?_
    refine ae rfl rfl rfl ?_
    refine rvs 5 rfl ?_
    refine rn ?_
    refine awp_seq ?_
    refine awp_region ?_
    obtain ⟨x1, hx2, h⟩ := bi h
    obtain ⟨_ | x2, x3⟩ := x1
    · refine rh [] rfl rfl (dlink_NewSender_l hx2) rfl rfl rfl (trivial) (trivial) ?_
      refine ek ?_
      refine as1 rfl ?_
      refine ae rfl rfl rfl ?_
      refine rvs 5 rfl ?_
      refine rn ?_
      refine awp_seq ?_
      refine awp_region ?_
      obtain ⟨r1, hx3, h⟩ := bi h
      refine rh [] rfl rfl (dlink_NewReceiver_l hx3) rfl rfl rfl (trivial) (trivial) ?_
      refine ek ?_
      refine as1 rfl ?_
      refine ae rfl rfl rfl ?_
      refine rv rfl rfl ?_
      refine rn ?_
      refine awp_seq ?_
      refine awp_seq ?_
      refine awp_region ?_
      refine rvs 3 rfl ?_
      refine gn rfl rfl rfl rfl rfl ?_
      refine gn rfl rfl rfl rfl rfl ?_
      refine rvs 2 rfl ?_
      refine gn rfl rfl rfl rfl rfl ?_
      refine gn rfl rfl rfl rfl rfl ?_
      refine rv rfl rfl ?_
      refine rn ?_
      refine ct rfl ?_
      refine awp_seq ?_
      refine awp_region ?_
      refine rv rfl rfl ?_
      refine rn ?_
      refine awp_ret ?_
      cases h
      repeat (first | refine then_ret ?_ | refine inBlock_ret ?_ | refine cut_r ?_)
      exact rr rfl rfl rfl
    · refine rh [] rfl rfl (dlink_NewSender_l hx2) rfl rfl rfl (trivial) (trivial) ?_
      refine ek ?_
      refine as1 rfl ?_
      refine ae rfl rfl rfl ?_
      refine rvs 5 rfl ?_
      refine rn ?_
      refine awp_seq ?_
      refine awp_region ?_
      obtain ⟨r2, hx4, h⟩ := bi h
      refine rh [] rfl rfl (dlink_NewReceiver_l hx4) rfl rfl rfl (trivial) (trivial) ?_
      refine ek ?_
      refine as1 rfl ?_
      refine ae rfl rfl rfl ?_
      refine rv rfl rfl ?_
      refine rn ?_
      refine awp_seq ?_
      refine awp_seq ?_
      refine awp_region ?_
      refine rvs 3 rfl ?_
      refine gn rfl rfl rfl rfl rfl ?_
      refine gn rfl rfl rfl rfl rfl ?_
      refine rvs 2 rfl ?_
      refine gn rfl rfl rfl rfl rfl ?_
      refine gn rfl rfl rfl rfl rfl ?_
      refine rv rfl rfl ?_
      refine rn ?_
      refine ct rfl ?_
      refine awp_seq ?_
      refine awp_region ?_
      refine rv rfl rfl ?_
      refine rn ?_
      refine awp_ret ?_
      cases h
      repeat (first | refine then_ret ?_ | refine inBlock_ret ?_ | refine cut_r ?_)
      exact rr rfl rfl rfl
  · refine rh [] rfl rfl (dlink_NewSender_l hx1) rfl rfl rfl (trivial) (trivial) ?_
    refine ek ?_
    refine as1 rfl ?_
    refine ae rfl rfl rfl ?_
    refine rvs 5 rfl ?_
    refine rn ?_
    refine awp_seq ?_
    refine awp_region ?_
    obtain ⟨x4, hx5, h⟩ := bi h
    obtain ⟨_ | x5, x6⟩ := x4
    · refine rh [] rfl rfl (dlink_NewSender_l hx5) rfl rfl rfl (trivial) (trivial) ?_
      refine ek ?_
      refine as1 rfl ?_
      refine ae rfl rfl rfl ?_
      refine rvs 5 rfl ?_
      refine rn ?_
      refine awp_seq ?_
      refine awp_region ?_
      obtain ⟨r3, hx6, h⟩ := bi h
      refine rh [] rfl rfl (dlink_NewReceiver_l hx6) rfl rfl rfl (trivial) (trivial) ?_
      refine ek ?_
      refine as1 rfl ?_
      refine ae rfl rfl rfl ?_
      refine rv rfl rfl ?_
      refine rn ?_
      refine awp_seq ?_
      refine awp_seq ?_
      refine awp_region ?_
      refine rvs 3 rfl ?_
      refine gy rfl rfl rfl ?_
      refine rv rfl rfl ?_
      refine gy rfl rfl rfl ?_
      refine rv rfl rfl ?_
      refine rvs 2 rfl ?_
      refine gy rfl rfl rfl ?_
      refine rv rfl rfl ?_
      refine gy rfl rfl rfl ?_
      refine rV rfl (va_ennil rfl rfl rfl) ?_
      refine rv rfl rfl ?_
      refine rn ?_
      refine cs_ rfl (fun hc => ?_) (fun hc => ?_)
      · have h := cT hc h
        refine awp_seq ?_
        refine awp_region ?_
        refine rv rfl rfl ?_
        refine rn ?_
        refine awp_ret ?_
        cases h
        repeat (first | refine then_ret ?_ | refine inBlock_ret ?_ | refine cut_r ?_)
        exact rr rfl rfl rfl
      · have h := cF hc h
        refine awp_skip ?_
        refine awp_seq ?_
        refine awp_region ?_
        refine rv rfl rfl ?_
        refine rbs true rfl rfl rfl rfl rfl rfl rfl rfl rfl rfl ?_
        refine rN rfl (na_same rfl rfl rfl rfl rfl rfl) ?_
        refine aops_conv (fun _ _ _ _ _ hi => wr_still 4 rfl rfl rfl hi) ?_
        obtain ⟨x7, hx7, h⟩ := bi h
        refine rh [0, 1] rfl rfl (dlink_Sender_Send_l hx7) rfl rfl rfl (zC rfl rfl rfl rfl (zC rfl rfl rfl rfl (zC rfl rfl rfl rfl (zC rfl rfl rfl rfl (trivial))))) (zE rfl .row rfl (trivial)) ?_
        refine ek ?_
        refine as1 rfl ?_
        refine ae rfl rfl rfl ?_
        refine rn ?_
        refine awp_seq ?_
        refine awp_region ?_
        refine rv rfl rfl ?_
        refine rbs true rfl rfl rfl rfl rfl rfl rfl rfl rfl rfl ?_
        refine rN rfl (na_same rfl rfl rfl rfl rfl rfl) ?_
        refine aops_conv (fun _ _ _ _ _ hi => wr_still 7 rfl rfl rfl hi) ?_
        obtain ⟨x8, hx8, h⟩ := bi h
        refine rh [0, 5] rfl rfl (dlink_Sender_Send_l hx8) rfl rfl rfl (zC rfl rfl rfl rfl (zC rfl rfl rfl rfl (zC rfl rfl rfl rfl (zC rfl rfl rfl rfl (trivial))))) (zE rfl .row rfl (trivial)) ?_
        refine ek ?_
        refine as1 rfl ?_
        refine ae rfl rfl rfl ?_
        refine rn ?_
        refine awp_seq ?_
        refine awp_region ?_
        refine rv rfl rfl ?_
        obtain ⟨l1, hx9, h⟩ := bi h
        refine rh [0, 8] rfl rfl (dlink_Sender_Fresh_l hx9) rfl rfl rfl (zC rfl rfl rfl rfl (zC rfl rfl rfl rfl (zC rfl rfl rfl rfl (zC rfl rfl rfl rfl (trivial))))) (zE rfl .row rfl (trivial)) ?_
        refine ek ?_
        refine as1 rfl ?_
        refine ae rfl rfl rfl ?_
        refine rv rfl rfl ?_
        refine rn ?_
        refine awp_seq ?_
        refine awp_seq ?_
        refine awp_region ?_
        refine rv rfl rfl ?_
        refine rv rfl rfl ?_
        refine rt ((lM c_tPacket l1.1)) ?_
        refine rv rfl rfl ?_
        refine rn ?_
        refine cs_ rfl (fun hc => ?_) (fun hc => ?_)
        · have h := cT hc h
          refine awp_seq ?_
          refine awp_region ?_
          refine rv rfl rfl ?_
          refine rn ?_
          refine awp_ret ?_
          cases h
          repeat (first | refine then_ret ?_ | refine inBlock_ret ?_ | refine cut_r ?_)
          exact rr rfl rfl rfl
        · have h := cF hc h
          refine awp_skip ?_
          refine awp_seq ?_
          refine awp_region ?_
          refine rvs 2 rfl ?_
          obtain ⟨b1, hx10, h⟩ := bi h
          refine ri rfl rfl rfl rfl rfl rfl (gi0 hx10) (giM c_tPacket hx10) (wM (fun _ => by rfl) _) ?_
          refine rv rfl rfl ?_
          obtain ⟨b2, hx11, h⟩ := bi h
          refine rh [2] rfl rfl (dlink_Receiver_Take_l hx11) rfl rfl rfl (zC rfl rfl rfl rfl (trivial)) (trivial) ?_
          refine ek ?_
          refine as1 rfl ?_
          refine ae rfl rfl rfl ?_
          refine rvs 5 rfl ?_
          refine rn ?_
          refine awp_seq ?_
          refine awp_region ?_
          refine rvs 2 rfl ?_
          obtain ⟨x9, hx12, h⟩ := bi h
          refine rh [2] rfl rfl (dlink_Receiver_Want_l hx12) rfl rfl rfl (zC rfl rfl rfl rfl (trivial)) (trivial) ?_
          refine ek ?_
          refine as1 rfl ?_
          refine ae rfl rfl rfl ?_
          obtain ⟨x10, hx13, h⟩ := bi h
          refine rh [0, 9] rfl rfl (dlink_Sender_Ack_l hx13) rfl rfl rfl (zC rfl rfl rfl rfl (zC rfl rfl rfl rfl (zC rfl rfl rfl rfl (zC rfl rfl rfl rfl (trivial))))) (zE rfl .row rfl (trivial)) ?_
          refine ek ?_
          refine as1 rfl ?_
          refine ae rfl rfl rfl ?_
          refine rn ?_
          refine awp_seq ?_
          refine awp_region ?_
          refine rvs 2 rfl ?_
          refine rV rfl (va_eeq rfl rfl rfl rfl rfl rfl (fun _ => rfl)) ?_
          refine rv rfl rfl ?_
          refine gs rfl rfl rfl rfl rfl (fun hg => ?_) (fun hg => ?_)
          · have h := cT hg h
            refine rv rfl rfl ?_
            refine rvs 2 rfl ?_
            refine gs rfl rfl rfl rfl rfl (fun hg => ?_) (fun hg => ?_)
            · have h := cT hg h
              refine rv rfl rfl ?_
              refine gy rfl rfl rfl ?_
              refine rV rfl (va_textS (l := b2.1) rfl rfl rfl rfl rfl rfl rfl rfl) ?_
              refine gy rfl rfl rfl ?_
              refine rv rfl rfl ?_
              refine rt (sEq b2.1 [97]) ?_
              refine rvs 2 rfl ?_
              refine gs rfl rfl rfl rfl rfl (fun hg => ?_) (fun hg => ?_)
              · have h := cT hg h
                refine rv rfl rfl ?_
                refine gy rfl rfl rfl ?_
                obtain ⟨x11, hx14, h⟩ := bi h
                refine rh [0, 10] rfl rfl (dlink_Sender_Len_l hx14) rfl rfl rfl (zC rfl rfl rfl rfl (zC rfl rfl rfl rfl (zC rfl rfl rfl rfl (zC rfl rfl rfl rfl (trivial))))) (zE rfl .row rfl (trivial)) ?_
                refine ek ?_
                refine as1 rfl ?_
                refine ae rfl rfl rfl ?_
                refine gy rfl rfl rfl ?_
                refine rv rfl rfl ?_
                refine rvs 2 rfl ?_
                refine gs rfl rfl rfl rfl rfl (fun hg => ?_) (fun hg => ?_)
                · have h := cT hg h
                  refine rv rfl rfl ?_
                  refine gy rfl rfl rfl ?_
                  obtain ⟨x12, hx15, h⟩ := bi h
                  refine rh [2] rfl rfl (dlink_Receiver_Want_l hx15) rfl rfl rfl (zC rfl rfl rfl rfl (trivial)) (trivial) ?_
                  refine ek ?_
                  refine as1 rfl ?_
                  refine ae rfl rfl rfl ?_
                  refine gy rfl rfl rfl ?_
                  refine rv rfl rfl ?_
                  refine rvs 2 rfl ?_
                  refine rn ?_
                  refine awp_ret ?_
                  cases h
                  repeat (first | refine then_ret ?_ | refine inBlock_ret ?_ | refine cut_r ?_)
                  exact rr rfl rfl rfl
                · have h := cF hg h
                  refine gn rfl rfl rfl rfl rfl ?_
                  refine gn rfl rfl rfl rfl rfl ?_
                  refine rvs 2 rfl ?_
                  refine rn ?_
                  refine awp_ret ?_
                  cases h
                  repeat (first | refine then_ret ?_ | refine inBlock_ret ?_ | refine cut_r ?_)
                  exact rr rfl rfl rfl
              · have h := cF hg h
                refine gn rfl rfl rfl rfl rfl ?_
                refine gn rfl rfl rfl rfl rfl ?_
                refine rvs 2 rfl ?_
                refine gn rfl rfl rfl rfl rfl ?_
                refine gn rfl rfl rfl rfl rfl ?_
                refine gn rfl rfl rfl rfl rfl ?_
                refine rvs 2 rfl ?_
                refine rn ?_
                refine awp_ret ?_
                cases h
                repeat (first | refine then_ret ?_ | refine inBlock_ret ?_ | refine cut_r ?_)
                exact rr rfl rfl rfl
            · have h := cF hg h
              refine gn rfl rfl rfl rfl rfl ?_
              refine gn rfl rfl rfl rfl rfl ?_
              refine rvs 2 rfl ?_
              refine gn rfl rfl rfl rfl rfl ?_
              refine gn rfl rfl rfl rfl rfl ?_
              refine gn rfl rfl rfl rfl rfl ?_
              refine rvs 2 rfl ?_
              refine gn rfl rfl rfl rfl rfl ?_
              refine gn rfl rfl rfl rfl rfl ?_
              refine gn rfl rfl rfl rfl rfl ?_
              refine rvs 2 rfl ?_
              refine rn ?_
              refine awp_ret ?_
              cases h
              repeat (first | refine then_ret ?_ | refine inBlock_ret ?_ | refine cut_r ?_)
              exact rr rfl rfl rfl
          · have h := cF hg h
            refine rvs 2 rfl ?_
            refine gn rfl rfl rfl rfl rfl ?_
            refine gn rfl rfl rfl rfl rfl ?_
            refine gn rfl rfl rfl rfl rfl ?_
            refine rvs 2 rfl ?_
            refine gn rfl rfl rfl rfl rfl ?_
            refine gn rfl rfl rfl rfl rfl ?_
            refine gn rfl rfl rfl rfl rfl ?_
            refine rvs 2 rfl ?_
            refine gn rfl rfl rfl rfl rfl ?_
            refine gn rfl rfl rfl rfl rfl ?_
            refine gn rfl rfl rfl rfl rfl ?_
            refine rvs 2 rfl ?_
            refine rn ?_
            refine awp_ret ?_
            cases h
            repeat (first | refine then_ret ?_ | refine inBlock_ret ?_ | refine cut_r ?_)
            exact rr rfl rfl rfl
    · refine rh [] rfl rfl (dlink_NewSender_l hx5) rfl rfl rfl (trivial) (trivial) ?_
      refine ek ?_
      refine as1 rfl ?_
      refine ae rfl rfl rfl ?_
      refine rvs 5 rfl ?_
      refine rn ?_
      refine awp_seq ?_
      refine awp_region ?_
      obtain ⟨r4, hx16, h⟩ := bi h
      refine rh [] rfl rfl (dlink_NewReceiver_l hx16) rfl rfl rfl (trivial) (trivial) ?_
      refine ek ?_
      refine as1 rfl ?_
      refine ae rfl rfl rfl ?_
      refine rv rfl rfl ?_
      refine rn ?_
      refine awp_seq ?_
      refine awp_seq ?_
      refine awp_region ?_
      refine rvs 3 rfl ?_
      refine gy rfl rfl rfl ?_
      refine rv rfl rfl ?_
      refine gy rfl rfl rfl ?_
      refine rv rfl rfl ?_
      refine rvs 2 rfl ?_
      refine gy rfl rfl rfl ?_
      refine rv rfl rfl ?_
      refine gy rfl rfl rfl ?_
      refine rV rfl (va_ennil rfl rfl rfl) ?_
      refine rv rfl rfl ?_
      refine rn ?_
      refine cs_ rfl (fun hc => ?_) (fun hc => ?_)
      · have h := cT hc h
        refine awp_seq ?_
        refine awp_region ?_
        refine rv rfl rfl ?_
        refine rn ?_
        refine awp_ret ?_
        cases h
        repeat (first | refine then_ret ?_ | refine inBlock_ret ?_ | refine cut_r ?_)
        exact rr rfl rfl rfl
      · have h := cF hc h
        refine awp_skip ?_
        refine awp_seq ?_
        refine awp_region ?_
        refine rv rfl rfl ?_
        refine rbs true rfl rfl rfl rfl rfl rfl rfl rfl rfl rfl ?_
        refine rN rfl (na_same rfl rfl rfl rfl rfl rfl) ?_
        refine aops_conv (fun _ _ _ _ _ hi => wr_still 6 rfl rfl rfl hi) ?_
        obtain ⟨x13, hx17, h⟩ := bi h
        refine rh [0, 1] rfl rfl (dlink_Sender_Send_l hx17) rfl rfl rfl (zC rfl rfl rfl rfl (zC rfl rfl rfl rfl (zC rfl rfl rfl rfl (zC rfl rfl rfl rfl (trivial))))) (zE rfl .row rfl (trivial)) ?_
        refine ek ?_
        refine as1 rfl ?_
        refine ae rfl rfl rfl ?_
        refine rn ?_
        refine awp_seq ?_
        refine awp_region ?_
        refine rv rfl rfl ?_
        refine rbs true rfl rfl rfl rfl rfl rfl rfl rfl rfl rfl ?_
        refine rN rfl (na_same rfl rfl rfl rfl rfl rfl) ?_
        refine aops_conv (fun _ _ _ _ _ hi => wr_still 9 rfl rfl rfl hi) ?_
        obtain ⟨x14, hx18, h⟩ := bi h
        refine rh [0, 7] rfl rfl (dlink_Sender_Send_l hx18) rfl rfl rfl (zC rfl rfl rfl rfl (zC rfl rfl rfl rfl (zC rfl rfl rfl rfl (zC rfl rfl rfl rfl (trivial))))) (zE rfl .row rfl (trivial)) ?_
        refine ek ?_
        refine as1 rfl ?_
        refine ae rfl rfl rfl ?_
        refine rn ?_
        refine awp_seq ?_
        refine awp_region ?_
        refine rv rfl rfl ?_
        obtain ⟨l2, hx19, h⟩ := bi h
        refine rh [0, 10] rfl rfl (dlink_Sender_Fresh_l hx19) rfl rfl rfl (zC rfl rfl rfl rfl (zC rfl rfl rfl rfl (zC rfl rfl rfl rfl (zC rfl rfl rfl rfl (trivial))))) (zE rfl .row rfl (trivial)) ?_
        refine ek ?_
        refine as1 rfl ?_
        refine ae rfl rfl rfl ?_
        refine rv rfl rfl ?_
        refine rn ?_
        refine awp_seq ?_
        refine awp_seq ?_
        refine awp_region ?_
        refine rv rfl rfl ?_
        refine rv rfl rfl ?_
        refine rt ((lM c_tPacket l2.1)) ?_
        refine rv rfl rfl ?_
        refine rn ?_
        refine cs_ rfl (fun hc => ?_) (fun hc => ?_)
        · have h := cT hc h
          refine awp_seq ?_
          refine awp_region ?_
          refine rv rfl rfl ?_
          refine rn ?_
          refine awp_ret ?_
          cases h
          repeat (first | refine then_ret ?_ | refine inBlock_ret ?_ | refine cut_r ?_)
          exact rr rfl rfl rfl
        · have h := cF hc h
          refine awp_skip ?_
          refine awp_seq ?_
          refine awp_region ?_
          refine rvs 2 rfl ?_
          obtain ⟨b3, hx20, h⟩ := bi h
          refine ri rfl rfl rfl rfl rfl rfl (gi0 hx20) (giM c_tPacket hx20) (wM (fun _ => by rfl) _) ?_
          refine rv rfl rfl ?_
          obtain ⟨b4, hx21, h⟩ := bi h
          refine rh [4] rfl rfl (dlink_Receiver_Take_l hx21) rfl rfl rfl (zC rfl rfl rfl rfl (trivial)) (trivial) ?_
          refine ek ?_
          refine as1 rfl ?_
          refine ae rfl rfl rfl ?_
          refine rvs 5 rfl ?_
          refine rn ?_
          refine awp_seq ?_
          refine awp_region ?_
          refine rvs 2 rfl ?_
          obtain ⟨x15, hx22, h⟩ := bi h
          refine rh [4] rfl rfl (dlink_Receiver_Want_l hx22) rfl rfl rfl (zC rfl rfl rfl rfl (trivial)) (trivial) ?_
          refine ek ?_
          refine as1 rfl ?_
          refine ae rfl rfl rfl ?_
          obtain ⟨x16, hx23, h⟩ := bi h
          refine rh [0, 11] rfl rfl (dlink_Sender_Ack_l hx23) rfl rfl rfl (zC rfl rfl rfl rfl (zC rfl rfl rfl rfl (zC rfl rfl rfl rfl (zC rfl rfl rfl rfl (trivial))))) (zE rfl .row rfl (trivial)) ?_
          refine ek ?_
          refine as1 rfl ?_
          refine ae rfl rfl rfl ?_
          refine rn ?_
          refine awp_seq ?_
          refine awp_region ?_
          refine rvs 2 rfl ?_
          refine rV rfl (va_eeq rfl rfl rfl rfl rfl rfl (fun _ => rfl)) ?_
          refine rv rfl rfl ?_
          refine gs rfl rfl rfl rfl rfl (fun hg => ?_) (fun hg => ?_)
          · have h := cT hg h
            refine rv rfl rfl ?_
            refine rvs 2 rfl ?_
            refine gs rfl rfl rfl rfl rfl (fun hg => ?_) (fun hg => ?_)
            · have h := cT hg h
              refine rv rfl rfl ?_
              refine gy rfl rfl rfl ?_
              refine rV rfl (va_textS (l := b4.1) rfl rfl rfl rfl rfl rfl rfl rfl) ?_
              refine gy rfl rfl rfl ?_
              refine rv rfl rfl ?_
              refine rt (sEq b4.1 [97]) ?_
              refine rvs 2 rfl ?_
              refine gs rfl rfl rfl rfl rfl (fun hg => ?_) (fun hg => ?_)
              · have h := cT hg h
                refine rv rfl rfl ?_
                refine gy rfl rfl rfl ?_
                obtain ⟨x17, hx24, h⟩ := bi h
                refine rh [0, 12] rfl rfl (dlink_Sender_Len_l hx24) rfl rfl rfl (zC rfl rfl rfl rfl (zC rfl rfl rfl rfl (zC rfl rfl rfl rfl (zC rfl rfl rfl rfl (trivial))))) (zE rfl .row rfl (trivial)) ?_
                refine ek ?_
                refine as1 rfl ?_
                refine ae rfl rfl rfl ?_
                refine gy rfl rfl rfl ?_
                refine rv rfl rfl ?_
                refine rvs 2 rfl ?_
                refine gs rfl rfl rfl rfl rfl (fun hg => ?_) (fun hg => ?_)
                · have h := cT hg h
                  refine rv rfl rfl ?_
                  refine gy rfl rfl rfl ?_
                  obtain ⟨x18, hx25, h⟩ := bi h
                  refine rh [4] rfl rfl (dlink_Receiver_Want_l hx25) rfl rfl rfl (zC rfl rfl rfl rfl (trivial)) (trivial) ?_
                  refine ek ?_
                  refine as1 rfl ?_
                  refine ae rfl rfl rfl ?_
                  refine gy rfl rfl rfl ?_
                  refine rv rfl rfl ?_
                  refine rvs 2 rfl ?_
                  refine rn ?_
                  refine awp_ret ?_
                  cases h
                  repeat (first | refine then_ret ?_ | refine inBlock_ret ?_ | refine cut_r ?_)
                  exact rr rfl rfl rfl
                · have h := cF hg h
                  refine gn rfl rfl rfl rfl rfl ?_
                  refine gn rfl rfl rfl rfl rfl ?_
                  refine rvs 2 rfl ?_
                  refine rn ?_
                  refine awp_ret ?_
                  cases h
                  repeat (first | refine then_ret ?_ | refine inBlock_ret ?_ | refine cut_r ?_)
                  exact rr rfl rfl rfl
              · have h := cF hg h
                refine gn rfl rfl rfl rfl rfl ?_
                refine gn rfl rfl rfl rfl rfl ?_
                refine rvs 2 rfl ?_
                refine gn rfl rfl rfl rfl rfl ?_
                refine gn rfl rfl rfl rfl rfl ?_
                refine gn rfl rfl rfl rfl rfl ?_
                refine rvs 2 rfl ?_
                refine rn ?_
                refine awp_ret ?_
                cases h
                repeat (first | refine then_ret ?_ | refine inBlock_ret ?_ | refine cut_r ?_)
                exact rr rfl rfl rfl
            · have h := cF hg h
              refine gn rfl rfl rfl rfl rfl ?_
              refine gn rfl rfl rfl rfl rfl ?_
              refine rvs 2 rfl ?_
              refine gn rfl rfl rfl rfl rfl ?_
              refine gn rfl rfl rfl rfl rfl ?_
              refine gn rfl rfl rfl rfl rfl ?_
              refine rvs 2 rfl ?_
              refine gn rfl rfl rfl rfl rfl ?_
              refine gn rfl rfl rfl rfl rfl ?_
              refine gn rfl rfl rfl rfl rfl ?_
              refine rvs 2 rfl ?_
              refine rn ?_
              refine awp_ret ?_
              cases h
              repeat (first | refine then_ret ?_ | refine inBlock_ret ?_ | refine cut_r ?_)
              exact rr rfl rfl rfl
          · have h := cF hg h
            refine rvs 2 rfl ?_
            refine gn rfl rfl rfl rfl rfl ?_
            refine gn rfl rfl rfl rfl rfl ?_
            refine gn rfl rfl rfl rfl rfl ?_
            refine rvs 2 rfl ?_
            refine gn rfl rfl rfl rfl rfl ?_
            refine gn rfl rfl rfl rfl rfl ?_
            refine gn rfl rfl rfl rfl rfl ?_
            refine rvs 2 rfl ?_
            refine gn rfl rfl rfl rfl rfl ?_
            refine gn rfl rfl rfl rfl rfl ?_
            refine gn rfl rfl rfl rfl rfl ?_
            refine rvs 2 rfl ?_
            refine rn ?_
            refine awp_ret ?_
            cases h
            repeat (first | refine then_ret ?_ | refine inBlock_ret ?_ | refine cut_r ?_)
            exact rr rfl rfl rfl
end

/-- `plover/ploverlaw15.pick` -/
def dlaw15_pick (fu : Nat) (c1 : Int) (n1 : Int) : Option Int :=
  (bif (decide (c1 < 0)) then ((some (W (0 - (W (c1 + 1))))).bind fun c3 => some c3) else some c1 : Option Int).bind fun (c2 : Int) => ((remV .i64 c2 n1).bind fun q1 => some q1)
section
attribute [local irreducible] awp aops DP PCall ACall Decidable.decide
theorem dlaw15_pick_l {fu : Nat} {c1 : Int} {n1 : Int} {r : Int} (h : dlaw15_pick fu c1 n1 = some r) : PCall Try.prog 13 [.int .i64 c1, .int .i64 n1] (· = .int .i64 r) := by
  rw [dlaw15_pick] at h
  refine pcall_body Try.func13 rfl (by kernel_rfl) (by rfl) ?_
  refine awp_seq ?_
  refine awp_region ?_
  refine rv rfl rfl ?_
  refine rn ?_
  refine awp_seq ?_
  refine awp_seq ?_
  refine awp_region ?_
  refine rvs 2 rfl ?_
  refine rn ?_
  obtain ⟨o1, ho2, h⟩ := bi h
  refine awp_cut1 (fun x => x = o1) (fun (c2 : Int) => ⟨[(0, .int .i64 c2), (1, .int .i64 n1)], [], [], 0⟩) ?_ ?_
  · refine cs_ rfl (fun hc => ?_) (fun hc => ?_)
    · have ho2 := cT hc ho2
      refine awp_region ?_
      refine rvs 4 rfl ?_
      obtain ⟨c3, hx3, ho2⟩ := bs ho2
      refine rt (ei' hx3) ?_
      refine rn ?_
      cases ho2
      exact cut_n [] rfl rfl ⟨rfl, rfl, zA rfl rfl rfl (zA rfl rfl rfl (trivial)), trivial, trivial⟩
    · have ho2 := cF hc ho2
      refine awp_skip ?_
      cases ho2
      exact cut_n [] rfl rfl ⟨rfl, rfl, zA rfl rfl rfl (zA rfl rfl rfl (trivial)), trivial, trivial⟩
  · rintro c2 rfl
    change awp _ _ _ _ _ ⟨_, _, _, _⟩
    refine awp_seq ?_
    refine awp_region ?_
    refine rvs 2 rfl ?_
    obtain ⟨q1, hx4, h⟩ := bi h
    refine rV rfl (va_rem rfl rfl hx4) ?_
    refine rv rfl rfl ?_
    refine rn ?_
    refine awp_ret ?_
    cases h
    repeat (first | refine then_ret ?_ | refine inBlock_ret ?_ | refine cut_r ?_)
    exact rr rfl rfl rfl
end

/-- `plover/ploverlaw15.packets` -/
def dlaw15_packets (fu : Nat) (l1 : List tPacket) (m1 : tref15Sender) (from1 : Int) (to1 : Int) : Option (Bool × tref15Sender) :=
  (bif (decide (to1 < from1)) then some from1 else some to1 : Option Int).bind fun (to2 : Int) => (bif ((l1.length : Int) != (W (to2 - from1))) then some (false, m1) else ((loopD (ε := Int) (τ := Unit ⊕ (Bool × tref15Sender)) (fun (i1 : Int) => (bif (decide (i1 < (l1.length : Int))) then (((gi l1 i1).bind fun x2 => bif (x2.Seq != (IntKind.wrap .u64 (W (from1 + i1)))) then some true else ((gi l1 i1).bind fun x3 => (gi m1.L (W (from1 + i1))).bind fun x4 => some (!(x3.Data == x4))) : Option Bool).bind fun (x1 : Bool) => (bif x1 then some (Sum.inr (Sum.inr (false, m1))) else some (Sum.inl (W (i1 + 1))))) else some (Sum.inr (Sum.inl ())))) fu 0).bind fun o => kS o fun (_ : Unit) => some (true, m1)))
section
attribute [local irreducible] awp aops DP PCall ACall Decidable.decide
theorem dlaw15_packets_l {fu : Nat} {l1 : List tPacket} {m1 : tref15Sender} {from1 : Int} {to1 : Int} {r : Bool × tref15Sender} (h : dlaw15_packets fu l1 m1 from1 to1 = some r) : ACall Try.prog 18 2 [.sl (l1.map c_tPacket), .ptr 0 0, .int .i64 from1, .int .i64 to1] [(0, 0, .int .i64 m1.Window), (0, 1, .own 1), (0, 2, .int .i64 m1.Acked), (0, 3, .int .i64 m1.Told)] [(1, .row 1 (m1.L.map (cL cU8)))] (fun r_ H_ O_ n_ => r_ = .bool r.1 ∧ H_ = [(0, 0, .int .i64 r.2.Window), (0, 1, .own 2), (0, 2, .int .i64 r.2.Acked), (0, 3, .int .i64 r.2.Told)] ∧ O_ = [(2, .row 1 (r.2.L.map (cL cU8)))] ∧ n_ = 3) := by
  rw [dlaw15_packets] at h
  refine acall_body Try.func18 rfl (by kernel_rfl) (by rfl) ?_
  refine awp_conv (fun _ _ _ _ _ hi => row_again (wr := false) 0 1 1 rfl rfl hi) ?_
  refine awp_seq ?_
  refine awp_region ?_
  refine rv rfl rfl ?_
  refine rn ?_
  refine awp_seq ?_
  refine awp_seq ?_
  refine awp_region ?_
  refine rvs 3 rfl ?_
  refine rn ?_
  obtain ⟨o1, ho2, h⟩ := bi h
  refine awp_cut1 (fun x => x = o1) (fun (to2 : Int) => ⟨[(0, .sl (l1.map c_tPacket)), (1, .ptr 0 0), (2, .int .i64 from1), (3, .int .i64 to2)], [(0, 0, .int .i64 m1.Window), (0, 1, .own 2), (0, 2, .int .i64 m1.Acked), (0, 3, .int .i64 m1.Told)], [(2, .row 1 (m1.L.map (cL cU8)))], 3⟩) ?_ ?_
  · refine cs_ rfl (fun hc => ?_) (fun hc => ?_)
    · have ho2 := cT hc ho2
      refine awp_region ?_
      refine rvs 2 rfl ?_
      refine rn ?_
      cases ho2
      exact cut_n [0, 1, 2] rfl rfl ⟨rfl, rfl, zA rfl rfl rfl (zA rfl rfl rfl (zA rfl rfl rfl (zA rfl rfl rfl (trivial)))), zC rfl rfl rfl rfl (zC rfl rfl rfl rfl (zC rfl rfl rfl rfl (zC rfl rfl rfl rfl (trivial)))), zE rfl .row rfl (trivial)⟩
    · have ho2 := cF hc ho2
      refine awp_skip ?_
      cases ho2
      exact cut_n [0, 1, 2] rfl rfl ⟨rfl, rfl, zA rfl rfl rfl (zA rfl rfl rfl (zA rfl rfl rfl (zA rfl rfl rfl (trivial)))), zC rfl rfl rfl rfl (zC rfl rfl rfl rfl (zC rfl rfl rfl rfl (zC rfl rfl rfl rfl (trivial)))), zE rfl .row rfl (trivial)⟩
  · rintro to2 rfl
    change awp _ _ _ _ _ ⟨_, _, _, _⟩
    refine awp_seq ?_
    refine awp_seq ?_
    refine awp_region ?_
    refine rv rfl rfl ?_
    refine rv rfl rfl ?_
    refine rt ((lM c_tPacket l1)) ?_
    refine rvs 4 rfl ?_
    refine rn ?_
    refine cs_ rfl (fun hc => ?_) (fun hc => ?_)
    · have h := cT hc h
      refine awp_seq ?_
      refine awp_region ?_
      refine rv rfl rfl ?_
      refine rn ?_
      refine awp_ret ?_
      cases h
      repeat (first | refine then_ret ?_ | refine inBlock_ret ?_ | refine cut_r ?_)
      exact rrA (r := .bool false) [0, 1, 2] [(0, 0, .int .i64 m1.Window), (0, 1, .own 2), (0, 2, .int .i64 m1.Acked), (0, 3, .int .i64 m1.Told)] [(2, .row 1 (m1.L.map (cL cU8)))] rfl rfl rfl rfl (zC rfl rfl rfl rfl (zC rfl rfl rfl rfl (zC rfl rfl rfl rfl (zC rfl rfl rfl rfl (trivial))))) (zE rfl .row rfl (trivial)) ⟨rfl, rfl, rfl, rfl⟩
    · have h := cF hc h
      refine awp_skip ?_
      refine awp_seq ?_
      refine awp_seq ?_
      refine awp_region ?_
      refine rv rfl rfl ?_
      refine rn ?_
      obtain ⟨e3, hl4, h⟩ := bi h
      refine awp_cut1 (fun x => Sum.inl x = e3) (fun (_ : Unit) => ⟨[], [(0, 0, .int .i64 m1.Window), (0, 1, .own 2), (0, 2, .int .i64 m1.Acked), (0, 3, .int .i64 m1.Told)], [(2, .row 1 (m1.L.map (cL cU8)))], 3⟩) ?_ ?_
      · refine awp_block ?_
        refine awp_loopD hl4 (fun (i1 : Int) => ⟨[(0, .sl (l1.map c_tPacket)), (1, .ptr 0 0), (2, .int .i64 from1), (9, .int .i64 i1)], [(0, 0, .int .i64 m1.Window), (0, 1, .own 2), (0, 2, .int .i64 m1.Acked), (0, 3, .int .i64 m1.Told)], [(2, .row 1 (m1.L.map (cL cU8)))], 3⟩) [0, 1, 2] rfl ⟨rfl, rfl, zA rfl rfl rfl (zA rfl rfl rfl (zA rfl rfl rfl (zA rfl rfl rfl (trivial)))), zC rfl rfl rfl rfl (zC rfl rfl rfl rfl (zC rfl rfl rfl rfl (zC rfl rfl rfl rfl (trivial)))), zE rfl .row rfl (trivial)⟩ ?_
        intro i1 o7 ho5 hE6
        change awp _ _ _ _ _ ⟨_, _, _, _⟩
        refine awp_seq ?_
        refine awp_seq ?_
        refine awp_region ?_
        refine rvs 2 rfl ?_
        refine rv rfl rfl ?_
        refine rt ((lM c_tPacket l1)) ?_
        refine rv rfl rfl ?_
        refine rn ?_
        refine cs_ rfl (fun hc => ?_) (fun hc => ?_)
        · have ho5 := cT hc ho5
          refine awp_skip ?_
          refine awp_seq ?_
          refine awp_block ?_
          refine awp_seq ?_
          obtain ⟨o8, ho9, ho5⟩ := bi ho5
          refine awp_cut1 (fun x => x = o8) (fun (x1 : Bool) => ⟨[(0, .sl (l1.map c_tPacket)), (1, .ptr 0 0), (2, .int .i64 from1), (9, .int .i64 i1), (54, .bool x1)], [(0, 0, .int .i64 m1.Window), (0, 1, .own 2), (0, 2, .int .i64 m1.Acked), (0, 3, .int .i64 m1.Told)], [(2, .row 1 (m1.L.map (cL cU8)))], 3⟩) ?_ ?_
          · refine awp_dp (m := 29) Try.mix (by kernel_rfl) (by kernel_rfl) (by kernel_rfl) (by kernel_rfl) (by kernel_rfl) (by kernel_rfl) (by kernel_rfl) ?_
            refine dv rfl rfl (fun _ => rfl) ?_
            refine dv rfl rfl (fun _ => rfl) ?_
            obtain ⟨x2, hx10, ho9⟩ := bi ho9
            refine di rfl rfl rfl rfl rfl (fun _ => rfl) rfl (gi0 hx10) (giM c_tPacket hx10) (wM (fun _ => by rfl) _) ?_
            refine dv rfl rfl (fun _ => rfl) ?_
            refine dv rfl rfl (fun _ => rfl) ?_
            refine dv rfl rfl (fun _ => rfl) ?_
            refine dv rfl rfl (fun _ => rfl) ?_
            refine dv rfl rfl (fun _ => rfl) ?_
            refine dv rfl rfl (fun _ => rfl) ?_
            refine dv rfl rfl (fun _ => rfl) ?_
            refine dv rfl rfl (fun _ => rfl) ?_
            refine ds rfl rfl (fun hg => ?_) (fun hg => ?_)
            · have ho9 := cT hg ho9
              refine dno rfl rfl ?_
              refine dno rfl rfl ?_
              refine dno rfl rfl ?_
              refine dno rfl rfl ?_
              refine dno rfl rfl ?_
              refine dno rfl rfl ?_
              refine dno rfl rfl ?_
              refine dno rfl rfl ?_
              refine dno rfl rfl ?_
              refine dno rfl rfl ?_
              refine dno rfl rfl ?_
              refine dno rfl rfl ?_
              refine dno rfl rfl ?_
              refine dno rfl rfl ?_
              refine dno rfl rfl ?_
              refine dno rfl rfl ?_
              refine dno rfl rfl ?_
              refine dv rfl rfl (fun _ => rfl) ?_
              refine dn ?_
              refine rn ?_
              cases ho9
              exact cut_n [0, 1, 2] rfl rfl ⟨rfl, rfl, zA rfl rfl rfl (zA rfl rfl rfl (zA rfl rfl rfl (zA rfl rfl rfl (zA rfl rfl rfl (trivial))))), zC rfl rfl rfl rfl (zC rfl rfl rfl rfl (zC rfl rfl rfl rfl (zC rfl rfl rfl rfl (trivial)))), zE rfl .row rfl (trivial)⟩
            · have ho9 := cF hg ho9
              refine dv rfl rfl (fun _ => rfl) ?_
              refine dv rfl rfl (fun _ => rfl) ?_
              obtain ⟨x3, hx11, ho9⟩ := bi ho9
              refine di rfl rfl rfl rfl rfl (fun _ => rfl) rfl (gi0 hx11) (giM c_tPacket hx11) (wM (fun _ => by rfl) _) ?_
              refine dv rfl rfl (fun _ => rfl) ?_
              refine dv rfl rfl (fun _ => rfl) ?_
              refine dV rfl rfl (fun _ => va_textS (l := x3.Data) rfl rfl rfl rfl rfl rfl rfl rfl) ?_
              refine dv rfl rfl (fun _ => rfl) ?_
              refine dv rfl rfl (fun _ => rfl) ?_
              refine dv rfl rfl (fun _ => rfl) ?_
              refine dv rfl rfl (fun _ => rfl) ?_
              refine dv rfl rfl (fun _ => rfl) ?_
              refine dv rfl rfl (fun _ => rfl) ?_
              refine dv rfl rfl (fun _ => rfl) ?_
              obtain ⟨x4, hx12, ho9⟩ := bi ho9
              refine di rfl rfl rfl rfl rfl (fun _ => rfl) rfl (gi0 hx12) (giM (cL cU8) hx12) (wM (fun _ => by rfl) _) ?_
              refine dv rfl rfl (fun _ => rfl) ?_
              refine dV rfl rfl (fun _ => va_textS (l := x4) rfl rfl rfl rfl rfl rfl rfl rfl) ?_
              refine dv rfl rfl (fun _ => rfl) ?_
              refine dt (sNe x3.Data x4) ?_
              refine dv rfl rfl (fun _ => rfl) ?_
              refine dn ?_
              refine rn ?_
              cases ho9
              exact cut_n [0, 1, 2] rfl rfl ⟨rfl, rfl, zA rfl rfl rfl (zA rfl rfl rfl (zA rfl rfl rfl (zA rfl rfl rfl (zA rfl rfl rfl (trivial))))), zC rfl rfl rfl rfl (zC rfl rfl rfl rfl (zC rfl rfl rfl rfl (zC rfl rfl rfl rfl (trivial)))), zE rfl .row rfl (trivial)⟩
          · rintro x1 rfl
            change awp _ _ _ _ _ ⟨_, _, _, _⟩
            refine cs_ rfl (fun hc => ?_) (fun hc => ?_)
            · have ho5 := cT hc ho5
              refine awp_seq ?_
              refine awp_region ?_
              refine rv rfl rfl ?_
              refine rn ?_
              refine awp_ret ?_
              cases ho5
              have hq := hE6 _ rfl
              subst hq
              have h := ksr h
              subst h
              repeat (first | refine then_ret ?_ | refine inBlock_ret ?_ | refine cut_r ?_)
              exact rrA (r := .bool false) [0, 1, 2] [(0, 0, .int .i64 m1.Window), (0, 1, .own 2), (0, 2, .int .i64 m1.Acked), (0, 3, .int .i64 m1.Told)] [(2, .row 1 (m1.L.map (cL cU8)))] rfl rfl rfl rfl (zC rfl rfl rfl rfl (zC rfl rfl rfl rfl (zC rfl rfl rfl rfl (zC rfl rfl rfl rfl (trivial))))) (zE rfl .row rfl (trivial)) ⟨rfl, rfl, rfl, rfl⟩
            · have ho5 := cF hc ho5
              refine awp_skip ?_
              refine inBlock_normal ?_
              refine awp_region ?_
              refine rvs 3 rfl ?_
              refine rn ?_
              cases ho5
              exact lp_n [0, 1, 2] rfl rfl ⟨rfl, rfl, zA rfl rfl rfl (zA rfl rfl rfl (zA rfl rfl rfl (zA rfl rfl rfl (trivial)))), zC rfl rfl rfl rfl (zC rfl rfl rfl rfl (zC rfl rfl rfl rfl (zC rfl rfl rfl rfl (trivial)))), zE rfl .row rfl (trivial)⟩
        · have ho5 := cF hc ho5
          refine awp_exit ?_
          repeat (first | refine then_exit ?_ | refine cut_x ?_ | refine inBlock_other rfl ?_)
          refine inBlock_exit ?_
          cases ho5
          have hq := hE6 _ rfl
          subst hq
          exact cut_n [0, 1, 2] rfl rfl ⟨rfl, rfl, trivial, zC rfl rfl rfl rfl (zC rfl rfl rfl rfl (zC rfl rfl rfl rfl (zC rfl rfl rfl rfl (trivial)))), zE rfl .row rfl (trivial)⟩
      · rintro _ rfl
        have h := ksl h
        refine awp_seq ?_
        refine awp_region ?_
        refine rv rfl rfl ?_
        refine rn ?_
        refine awp_ret ?_
        cases h
        repeat (first | refine then_ret ?_ | refine inBlock_ret ?_ | refine cut_r ?_)
        exact rrA (r := .bool true) [0, 1, 2] [(0, 0, .int .i64 m1.Window), (0, 1, .own 2), (0, 2, .int .i64 m1.Acked), (0, 3, .int .i64 m1.Told)] [(2, .row 1 (m1.L.map (cL cU8)))] rfl rfl rfl rfl (zC rfl rfl rfl rfl (zC rfl rfl rfl rfl (zC rfl rfl rfl rfl (zC rfl rfl rfl rfl (trivial))))) (zE rfl .row rfl (trivial)) ⟨rfl, rfl, rfl, rfl⟩
end

end Go.Proofs.Ytaekecbadkcggaa
