/- Layer 15, plainly: a sender, and what the document's sender answers. -/
import Derived.Test.YtaekecbadkcggaaD15
namespace Go.Proofs.Ytaekecbadkcggaa
open Go.Pv
set_option linter.unusedSimpArgs false
set_option linter.unusedVariables false
set_option linter.unusedSectionVars false

theorem okI64 {c : Int} (h : okI .i64 c) : -9223372036854775808 ≤ c ∧ c < 9223372036854775808 := by
  unfold okI at h
  simp only [Lit.wf, Bool.and_eq_true, decide_eq_true_eq] at h
  have h1 : IntKind.min .i64 = -9223372036854775808 := by decide
  have h2 : IntKind.max .i64 = 9223372036854775807 := by decide
  omega
theorem dClone (n : Nat) {b : Str} (h : b.length ≤ capN) : dbytes_Clone n b = some b := ap_ok (by simpa using h)
theorem dSend {n : Nat} {s : tlinkSender} {b : Str} (hb : b.length ≤ capN) (hl : s.L.length + 1 ≤ capN) :
    dlink_Sender_Send n s b = some (if 200 ≤ s.L.length then (some 8, s) else (none, ⟨s.Window, s.L ++ [b], s.First, s.Next⟩)) := by
  unfold dlink_Sender_Send
  by_cases h : 200 ≤ s.L.length
  · have hd : decide ((s.L.length : Int) ≥ 200) = true := by simp; omega
    rw [hd, if_pos h]; rfl
  · have hd : decide ((s.L.length : Int) ≥ 200) = false := by simp; omega
    rw [hd, if_neg h, dClone n hb]
    simp only [cond_false, Option.bind_some, ap_ok (show s.L.length + [b].length ≤ capN by simpa using hl)]
def pkts (L : List Str) (a b : Nat) : List tPacket := (List.range' a (b - a)).map fun k : Nat => ⟨(k : Int), L.getD k []⟩
theorem pkts_length (L : List Str) (a b : Nat) : (pkts L a b).length = b - a := by simp [pkts]
theorem pkts_get (L : List Str) {a b i : Nat} (h : i < (pkts L a b).length) : (pkts L a b)[i] = ⟨((a + i : Nat) : Int), L.getD (a + i) []⟩ := by simp [pkts]
theorem dpackets {n : Nat} {w : Int} {L : List Str} {f t a b : Nat} (hf : f ≤ a) (hab : a ≤ b) (hb : b ≤ L.length) (hL : L.length ≤ 1000000) (hc : ∀ x ∈ L, x.length ≤ capN) (hn : 1000000 < n) :
    dlink_Sender_packets n ⟨w, L.drop f, f, t⟩ a b = some (pkts L a b, ⟨w, L.drop f, f, t⟩) := by
  unfold dlink_Sender_packets
  rw [show ((a : Int), ([] : List tPacket)) = (((a + 0 : Nat) : Int), pkts L a (a + 0)) from by simp [pkts]]
  refine (congrArg (fun o => Option.bind o _) (loopD_traj (e := pkts L a b) (fun k => (((a + k : Nat) : Int), pkts L a (a + k))) (b - a) (fun k hk => ?_) ?_ n (by omega))).trans ?_
  · have hd : decide (((a + k : Nat) : Int) < (b : Int)) = true := by simp; omega
    have hw : IntKind.wrap .u64 (((a + k : Nat) : Int) - (f : Int)) = ((a + k - f : Nat) : Int) := by
      rw [show ((a + k : Nat) : Int) - (f : Int) = ((a + k - f : Nat) : Int) by omega]; exact wrap_u64 (by omega)
    have hw2 : IntKind.wrap .u64 (((a + k : Nat) : Int) + 1) = ((a + (k + 1) : Nat) : Int) := by
      rw [show ((a + k : Nat) : Int) + 1 = ((a + (k + 1) : Nat) : Int) by omega]; exact wrap_u64 (by omega)
    have hi : a + k - f < (L.drop f).length := by simp; omega
    have he : (L.drop f)[a + k - f] = L.getD (a + k) [] := by
      rw [List.getElem_drop]; rw [List.getD_eq_getElem?_getD, List.getElem?_eq_getElem (by omega)]; simp only [Option.getD_some]; congr 1; omega
    have hcl : (L.getD (a + k) []).length ≤ capN := by
      rw [List.getD_eq_getElem?_getD, List.getElem?_eq_getElem (by omega)]; exact hc _ (List.getElem_mem _)
    have hap : ap (pkts L a (a + k)) [tPacket.mk ((a + k : Nat) : Int) (L.getD (a + k) [])] = some (pkts L a (a + (k + 1))) := by
      rw [ap_ok (by rw [pkts_length]; exact Nat.le_trans (by simp; omega : _ ≤ 1000001) (by decide))]
      congr 1
      unfold pkts
      rw [show a + k - a = k by omega, show a + (k + 1) - a = k + 1 by omega, List.range'_concat, List.map_append]
      simp
    simp only [hd, cond_true, hw, gi_lt hi, he, Option.bind_some, dClone n hcl, hap, hw2]
  · have hd : decide (((a + (b - a) : Nat) : Int) < (b : Int)) = false := by simp; omega
    simp only [hd, cond_false]
    rw [show a + (b - a) = b by omega]
  · rfl
/-- Up to where is fresh. -/
def frTo (L : List Str) (w f t : Nat) : Nat := max t (min (f + w) L.length)
theorem dFresh {n : Nat} {L : List Str} {w f t : Nat} (hft : f ≤ t) (ht : t ≤ L.length) (hw : w ≤ 64) (hL : L.length ≤ 1000000) (hc : ∀ x ∈ L, x.length ≤ capN) (hto : t ≤ min (f + w) L.length) (hn : 1000000 < n) :
    dlink_Sender_Fresh n ⟨w, L.drop f, f, t⟩ = some (pkts L t (min (f + w) L.length), ⟨w, L.drop f, f, (min (f + w) L.length : Nat)⟩) := by
  unfold dlink_Sender_Fresh
  have h1 : (if (((L.drop f).length : Nat) : Int) < (w : Int) then (((L.drop f).length : Nat) : Int) else (w : Int)) = ((min w (L.length - f) : Nat) : Int) := by
    simp only [List.length_drop]; split <;> omega
  have h2 : IntKind.wrap .u64 ((f : Int) + (IntKind.wrap .u64 ((min w (L.length - f) : Nat) : Int))) = ((min (f + w) L.length : Nat) : Int) := by
    rw [wrap_u64 (by omega), show (f : Int) + ((min w (L.length - f) : Nat) : Int) = ((min (f + w) L.length : Nat) : Int) by omega]; exact wrap_u64 (by omega)
  simp only [h1, h2, Option.bind_some, dpackets hft hto (Nat.min_le_right _ _) hL hc hn]
  have h3 : (if ((min (f + w) L.length : Nat) : Int) > (t : Int) then ((min (f + w) L.length : Nat) : Int) else (t : Int)) = ((min (f + w) L.length : Nat) : Int) := by split <;> omega
  rw [h3]
theorem dAgain {n : Nat} {L : List Str} {w f t : Nat} (hft : f ≤ t) (ht : t ≤ L.length) (hL : L.length ≤ 1000000) (hc : ∀ x ∈ L, x.length ≤ capN) (hn : 1000000 < n) :
    dlink_Sender_Again n ⟨w, L.drop f, f, t⟩ = some (pkts L f t, ⟨w, L.drop f, f, t⟩) := by
  unfold dlink_Sender_Again
  simp only [dpackets (Nat.le_refl f) hft ht hL hc hn, Option.bind_some]
theorem dAck {n : Nat} {L : List Str} {w f t : Nat} {a : Nat} (hft : f ≤ t) (ht : t ≤ L.length) (hL : L.length ≤ 1000000) :
    dlink_Sender_Ack n ⟨w, L.drop f, f, t⟩ a = some (if f ≤ a ∧ a ≤ t then ⟨w, L.drop a, a, t⟩ else ⟨w, L.drop f, f, t⟩) := by
  unfold dlink_Sender_Ack
  by_cases h1 : t < a
  · have hd : decide ((a : Int) > (t : Int)) = true := by simp; omega
    simp only [hd, cond_true, Option.bind_some]; rw [if_neg (by omega)]
  · have hd : decide ((a : Int) > (t : Int)) = false := by simp; omega
    by_cases h2 : a < f
    · have hd2 : decide ((a : Int) < (f : Int)) = true := by simp; omega
      simp only [hd, hd2, cond_true, cond_false, Option.bind_some]; rw [if_neg (by omega)]
    · have hd2 : decide ((a : Int) < (f : Int)) = false := by simp; omega
      have hw : IntKind.wrap .u64 ((a : Int) - (f : Int)) = ((a - f : Nat) : Int) := by
        rw [show (a : Int) - (f : Int) = ((a - f : Nat) : Int) by omega]; exact wrap_u64 (by omega)
      simp only [hd, hd2, cond_true, cond_false, Option.bind_some, hw, gsl_from (L.drop f) (i := a - f) (by simp; omega)]
      rw [if_pos (by omega), List.drop_drop, show f + (a - f) = a by omega]
theorem dLen (n : Nat) (s : tlinkSender) : dlink_Sender_Len n s = some ((s.L.length : Int), s) := rfl
theorem dTake (n : Nat) (r : Int) (p : tPacket) (h : p.Data.length ≤ capN) : dlink_Receiver_Take n ⟨r⟩ p = some (if p.Seq = r then (p.Data, true, ⟨IntKind.wrap .u64 (r + 1)⟩) else ([], false, ⟨r⟩)) := by
  unfold dlink_Receiver_Take
  by_cases hs : p.Seq = r
  · have hd : (p.Seq != r) = false := by simp [hs]
    rw [if_pos hs]; simp only [hd, cond_false, dClone n h, Option.bind_some]
  · have hd : (p.Seq != r) = true := by simp [hs]
    rw [if_neg hs]; simp only [hd, cond_true]
theorem dWant (n : Nat) (r : tlinkReceiver) : dlink_Receiver_Want n r = some (r.Want, r) := rfl
theorem dRLen {n : Nat} {L : List Str} {w f t : Nat} (hf : f ≤ L.length) (hL : L.length ≤ 1000000) : dref15_Sender_Len n ⟨w, L, f, t⟩ = some (((L.length - f : Nat) : Int), ⟨w, L, f, t⟩) := by
  unfold dref15_Sender_Len
  rw [show W ((L.length : Int) - (f : Int)) = ((L.length - f : Nat) : Int) from by rw [show (L.length : Int) - (f : Int) = ((L.length - f : Nat) : Int) by omega]; exact W_nat (by omega)]
  rfl
theorem dRFresh {n : Nat} {L : List Str} {w f t : Nat} (hft : f ≤ t) (ht : t ≤ L.length) (hw : w ≤ 64) (hL : L.length ≤ 1000000) (hto : t ≤ min (f + w) L.length) :
    dref15_Sender_Fresh n ⟨w, L, f, t⟩ = some ((t : Int), ((min (f + w) L.length : Nat) : Int), ⟨w, L, f, (min (f + w) L.length : Nat)⟩) := by
  unfold dref15_Sender_Fresh
  have h1 : W ((f : Int) + (w : Int)) = ((f + w : Nat) : Int) := by rw [show (f : Int) + (w : Int) = ((f + w : Nat) : Int) by omega]; exact W_nat (by omega)
  have h2 : (bif (decide (((f + w : Nat) : Int) > (L.length : Int))) then some (L.length : Int) else some ((f + w : Nat) : Int) : Option Int) = some ((min (f + w) L.length : Nat) : Int) := by
    by_cases h : L.length < f + w
    · have hd : decide (((f + w : Nat) : Int) > (L.length : Int)) = true := by simp; omega
      rw [hd, Nat.min_eq_right (by omega)]; rfl
    · have hd : decide (((f + w : Nat) : Int) > (L.length : Int)) = false := by simp; omega
      rw [hd, Nat.min_eq_left (by omega)]; rfl
  have h3 : (bif (decide (((min (f + w) L.length : Nat) : Int) > (t : Int))) then some ((min (f + w) L.length : Nat) : Int) else some (t : Int) : Option Int) = some ((min (f + w) L.length : Nat) : Int) := by
    by_cases h : t < min (f + w) L.length
    · have hd : decide (((min (f + w) L.length : Nat) : Int) > (t : Int)) = true := by simp only [decide_eq_true_eq]; omega
      rw [hd]; rfl
    · have hd : decide (((min (f + w) L.length : Nat) : Int) > (t : Int)) = false := by simp only [decide_eq_false_iff_not]; omega
      rw [hd, show t = min (f + w) L.length by omega]; rfl
  simp only [h1, Option.bind_some]
  rw [h2]; simp only [Option.bind_some]
  rw [h3]; rfl
theorem dRAck {n : Nat} {L : List Str} {w f t : Nat} {a : Nat} (hft : f ≤ t) (ht : t ≤ L.length) (hL : L.length ≤ 1000000) :
    dref15_Sender_Ack n ⟨w, L, f, t⟩ a = some (if f ≤ a ∧ a ≤ t then ⟨w, L, a, t⟩ else ⟨w, L, f, t⟩) := by
  unfold dref15_Sender_Ack
  simp only [wrap_u64 (show t < 18446744073709551616 by omega), wrap_u64 (show f < 18446744073709551616 by omega)]
  by_cases h1 : a ≤ t
  · have hd : decide ((a : Int) ≤ (t : Int)) = true := by simp; omega
    by_cases h2 : f ≤ a
    · have hd2 : decide ((a : Int) ≥ (f : Int)) = true := by simp; omega
      simp only [hd, hd2, cond_true, Option.bind_some, W_nat (show a < 9223372036854775808 by omega)]; rw [if_pos ⟨h2, h1⟩]
    · have hd2 : decide ((a : Int) ≥ (f : Int)) = false := by simp; omega
      simp only [hd, hd2, cond_true, cond_false, Option.bind_some]; rw [if_neg (by omega)]
  · have hd : decide ((a : Int) ≤ (t : Int)) = false := by simp; omega
    simp only [hd, cond_false, Option.bind_some]; rw [if_neg (by omega)]
theorem dpick {n : Nat} {c : Int} {k : Nat} (hc : okI .i64 c) (hk : 0 < k) (hk2 : k < 1000000000) : ∃ q : Nat, dlaw15_pick n c k = some (q : Int) ∧ q < k := by
  have hb : -9223372036854775808 ≤ c ∧ c < 9223372036854775808 := okI64 hc
  unfold dlaw15_pick
  have h1 : ∃ m : Nat, (bif (decide (c < 0)) then ((some (W (0 - (W (c + 1))))).bind fun c3 => some c3) else some c : Option Int) = some (m : Int) := by
    by_cases h : c < 0
    · have hd : decide (c < 0) = true := by simpa using h
      refine ⟨(-(c + 1)).toNat, ?_⟩
      rw [hd, W_id (n := c + 1) (by omega), W_id (n := 0 - (c + 1)) (by omega)]
      simp only [cond_true, Option.bind_some]; congr 1; omega
    · have hd : decide (c < 0) = false := by simpa using h
      exact ⟨c.toNat, by rw [hd]; simp only [cond_false]; congr 1; omega⟩
  obtain ⟨m, hm⟩ := h1
  rw [hm, Option.bind_some]
  refine ⟨m % k, ?_, Nat.mod_lt _ hk⟩
  unfold remV
  rw [if_neg (by omega)]
  simp only [Option.bind_some]; rfl
theorem dlpackets {n : Nat} {L : List Str} {w : Int} {f t a b : Nat} (hab : a ≤ b) (hb : b ≤ L.length) (hL : L.length ≤ 1000000) (hn : 1000000 < n) :
    dlaw15_packets n (pkts L a b) ⟨w, L, f, t⟩ a b = some (true, ⟨w, L, f, t⟩) := by
  unfold dlaw15_packets
  have hd : decide ((b : Int) < (a : Int)) = false := by simp; omega
  have hl : (((pkts L a b).length : Nat) : Int) = ((b - a : Nat) : Int) := by rw [pkts_length]
  have hw : W ((b : Int) - (a : Int)) = ((b - a : Nat) : Int) := by rw [show (b : Int) - (a : Int) = ((b - a : Nat) : Int) by omega]; exact W_nat (by omega)
  have hne : (((pkts L a b).length : Int) != W ((b : Int) - (a : Int))) = false := by rw [hw, hl]; simp
  simp only [hd, cond_false, Option.bind_some, hne]
  refine (congrArg (fun o => Option.bind o _) (loopD_traj (e := .inl ()) (fun k => ((k : Nat) : Int)) (b - a) (fun k hk => ?_) ?_ n (by omega))).trans ?_
  · have hd : decide ((k : Int) < (((pkts L a b).length : Nat) : Int)) = true := by rw [hl]; simp; omega
    have hk2 : k < (pkts L a b).length := by rw [pkts_length]; exact hk
    have hw : W ((a : Int) + (k : Int)) = ((a + k : Nat) : Int) := by rw [show (a : Int) + (k : Int) = ((a + k : Nat) : Int) by omega]; exact W_nat (by omega)
    have hg : L.getD (a + k) [] = L[a + k]'(by omega) := by rw [List.getD_eq_getElem?_getD, List.getElem?_eq_getElem (by omega)]; rfl
    simp only [hd, cond_true, gi_lt hk2, Option.bind_some, pkts_get L hk2, hw, wrap_u64 (show a + k < 18446744073709551616 by omega), gi_lt (show a + k < L.length by omega), W_suc (show k + 1 < 9223372036854775808 by omega), hg]
    simp
  · have hd : decide (((b - a : Nat) : Int) < (((pkts L a b).length : Nat) : Int)) = false := by rw [hl]; simp
    simp only [hd, cond_false]
  · rfl
theorem dNewS (n : Nat) (w : Int) : dlink_NewSender n w = some (if w < 1 ∨ w > 64 then (none, some 1) else (some ⟨w, [], 0, 0⟩, none)) := by
  unfold dlink_NewSender
  by_cases h1 : w < 1
  · have hd : decide (w < 1) = true := by simpa using h1
    rw [if_pos (.inl h1)]; simp only [hd, cond_true, Option.bind_some]
  · have hd : decide (w < 1) = false := by simpa using h1
    by_cases h2 : w > 64
    · have hd2 : decide (w > 64) = true := by simpa using h2
      rw [if_pos (.inr h2)]; simp only [hd, hd2, cond_true, cond_false, Option.bind_some]
    · have hd2 : decide (w > 64) = false := by simpa using h2
      rw [if_neg (by omega)]; simp only [hd, hd2, cond_true, cond_false, Option.bind_some]
theorem up15 : Ev fun n => dlaw15_up n = some true := by
  refine Ev.ge 1000001 fun n hn => ?_
  unfold dlaw15_up
  have e1 : dlink_NewSender n 1 = some (some ⟨1, [], 0, 0⟩, none) := by rw [dNewS, if_neg (by decide)]
  have e2 : dlink_NewSender n 65 = some (none, some 1) := by rw [dNewS, if_pos (by decide)]
  have e3 : dlink_Sender_Send n ⟨1, [], 0, 0⟩ [97] = some (none, ⟨1, [[97]], 0, 0⟩) := by rw [dSend (s := ⟨1, [], 0, 0⟩) (b := [97]) (by decide) (by decide)]; rfl
  have e4 : dlink_Sender_Send n ⟨1, [[97]], 0, 0⟩ [98] = some (none, ⟨1, [[97], [98]], 0, 0⟩) := by rw [dSend (s := ⟨1, [[97]], 0, 0⟩) (b := [98]) (by decide) (by decide)]; rfl
  have hc : ∀ x ∈ ([[97], [98]] : List Str), x.length ≤ capN := by intro x hx; rcases List.mem_cons.1 hx with rfl | hx; · decide
                                                                   rcases List.mem_cons.1 hx with rfl | hx; · decide
                                                                   cases hx
  have e5 := dFresh (n := n) (L := [[97], [98]]) (w := 1) (f := 0) (t := 0) (by decide) (by decide) (by decide) (by decide) hc (by decide) hn
  have e6 : dlink_Sender_Fresh n ⟨1, [[97], [98]], 0, 0⟩ = some ([⟨0, [97]⟩], ⟨1, [[97], [98]], 0, 1⟩) := e5
  have e7 : dlink_Receiver_Take n ⟨0⟩ ⟨0, [97]⟩ = some ([97], true, ⟨1⟩) := by rw [dTake n 0 ⟨0, [97]⟩ (show 1 ≤ capN by decide)]; rfl
  have e8 := dAck (n := n) (L := [[97], [98]]) (w := 1) (f := 0) (t := 1) (a := 1) (by decide) (by decide) (by decide)
  have e9 : dlink_Sender_Ack n ⟨1, [[97], [98]], 0, 1⟩ 1 = some ⟨1, [[98]], 1, 1⟩ := e8
  have e10 : dlink_NewReceiver n = some ⟨0⟩ := rfl
  simp only [e1, e2, e10, Option.bind_some, e3, e4, e6]
  have e11 : gi [tPacket.mk 0 [97]] 0 = some ⟨0, [97]⟩ := rfl
  simp only [List.length_cons, List.length_nil, e11, Option.bind_some, e7, dWant, e9, dLen]
  rfl
theorem ofEx {o : Option Bool} (h : ∃ r, o = some r ∧ r = true) : o = some true := by obtain ⟨r, h, rfl⟩ := h; exact h
theorem loopD_exJ' {σ τ β : Type} {body : σ → Option (σ ⊕ τ)} {f : τ → Option β} {n : Nat} {s : σ} {Q : β → Prop} (I : σ → Prop) (μ : σ → Nat) (J : τ → Prop) (hs : I s) (hn : μ s < n)
    (h : ∀ s, I s → ∃ o, body s = some o ∧ (∀ s', o = .inl s' → I s' ∧ μ s' < μ s) ∧ ∀ e, o = .inr e → J e) (k : ∀ e, J e → ∃ r, f e = some r ∧ Q r) : ∃ r, (loopD body n s).bind f = some r ∧ Q r := by
  obtain ⟨e, he, hJ⟩ := loopD_tot I μ J h n s hs hn
  rw [he]; exact k e hJ
end Go.Proofs.Ytaekecbadkcggaa
