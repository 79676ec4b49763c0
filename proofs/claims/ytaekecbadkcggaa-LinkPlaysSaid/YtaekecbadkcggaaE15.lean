/- Layer 15, plainly: a sender, and what the document's sender answers. -/
import Derived.Test.YtaekecbadkcggaaD15b
import Derived.Test.YtaekecbadkcggaaD15c
namespace Go.Proofs.Ytaekecbadkcggaa
open Go.Pv
set_option linter.unusedSimpArgs false
set_option linter.unusedVariables false
set_option linter.unusedSectionVars false

theorem okI64 {c : Int} (h : okI .i64 c) : -9223372036854775808 ≤ c ∧ c < 9223372036854775808 := by
  unfold okI at h
  simp only [Lit.wf, Bool.and_eq_true, decide_eq_true_eq] at h
  have h1 : IntKind.min .i64 = -9223372036854775808 := by decide
  have h2 : IntKind.max .i64 = 9223372036854775807 := by decide
  omega
theorem dClone (n : Nat) {b : Str} (h : b.length ≤ capN) : dbytes_Clone n b = some b := ap_ok (by simpa using h)
theorem dSend {n : Nat} {s : tlinkSender} {b : Str} (hb : b.length ≤ capN) (hl : s.L.length + 1 ≤ capN) :
    dlink_Sender_Send n s b = some (if 200 ≤ s.L.length then (some 8, s) else (none, ⟨s.Window, s.L ++ [b], s.First, s.Next⟩)) := by
  unfold dlink_Sender_Send
  by_cases h : 200 ≤ s.L.length
  · have hd : decide ((s.L.length : Int) ≥ 200) = true := by simp; omega
    rw [hd, if_pos h]; rfl
  · have hd : decide ((s.L.length : Int) ≥ 200) = false := by simp; omega
    rw [hd, if_neg h, dClone n hb]
    simp only [cond_false, Option.bind_some, ap_ok (show s.L.length + [b].length ≤ capN by simpa using hl)]
def pkts (L : List Str) (a b : Nat) : List tPacket := (List.range' a (b - a)).map fun k : Nat => ⟨(k : Int), L.getD k []⟩
theorem pkts_length (L : List Str) (a b : Nat) : (pkts L a b).length = b - a := by simp [pkts]
theorem pkts_get (L : List Str) {a b i : Nat} (h : i < (pkts L a b).length) : (pkts L a b)[i] = ⟨((a + i : Nat) : Int), L.getD (a + i) []⟩ := by simp [pkts]
theorem dpackets {n : Nat} {w : Int} {L : List Str} {f t a b : Nat} (hf : f ≤ a) (hab : a ≤ b) (hb : b ≤ L.length) (hL : L.length ≤ 1000000) (hc : ∀ x ∈ L, x.length ≤ capN) (hn : 1000000 < n) :
    dlink_Sender_packets n ⟨w, L.drop f, f, t⟩ a b = some (pkts L a b, ⟨w, L.drop f, f, t⟩) := by
  unfold dlink_Sender_packets
  rw [show ((a : Int), ([] : List tPacket)) = (((a + 0 : Nat) : Int), pkts L a (a + 0)) from by simp [pkts]]
  refine (congrArg (fun o => Option.bind o _) (loopD_traj (e := pkts L a b) (fun k => (((a + k : Nat) : Int), pkts L a (a + k))) (b - a) (fun k hk => ?_) ?_ n (by omega))).trans ?_
  · have hd : decide (((a + k : Nat) : Int) < (b : Int)) = true := by simp; omega
    have hw : IntKind.wrap .u64 (((a + k : Nat) : Int) - (f : Int)) = ((a + k - f : Nat) : Int) := by
      rw [show ((a + k : Nat) : Int) - (f : Int) = ((a + k - f : Nat) : Int) by omega]; exact wrap_u64 (by omega)
    have hw2 : IntKind.wrap .u64 (((a + k : Nat) : Int) + 1) = ((a + (k + 1) : Nat) : Int) := by
      rw [show ((a + k : Nat) : Int) + 1 = ((a + (k + 1) : Nat) : Int) by omega]; exact wrap_u64 (by omega)
    have hi : a + k - f < (L.drop f).length := by simp; omega
    have he : (L.drop f)[a + k - f] = L.getD (a + k) [] := by
      rw [List.getElem_drop]; rw [List.getD_eq_getElem?_getD, List.getElem?_eq_getElem (by omega)]; simp only [Option.getD_some]; congr 1; omega
    have hcl : (L.getD (a + k) []).length ≤ capN := by
      rw [List.getD_eq_getElem?_getD, List.getElem?_eq_getElem (by omega)]; exact hc _ (List.getElem_mem _)
    have hap : ap (pkts L a (a + k)) [tPacket.mk ((a + k : Nat) : Int) (L.getD (a + k) [])] = some (pkts L a (a + (k + 1))) := by
      rw [ap_ok (by rw [pkts_length]; exact Nat.le_trans (by simp; omega : _ ≤ 1000001) (by decide))]
      congr 1
      unfold pkts
      rw [show a + k - a = k by omega, show a + (k + 1) - a = k + 1 by omega, List.range'_concat, List.map_append]
      simp
    simp only [hd, cond_true, hw, gi_lt hi, he, Option.bind_some, dClone n hcl, hap, hw2]
  · have hd : decide (((a + (b - a) : Nat) : Int) < (b : Int)) = false := by simp; omega
    simp only [hd, cond_false]
    rw [show a + (b - a) = b by omega]
  · rfl
/-- Up to where is fresh. -/
def frTo (L : List Str) (w f t : Nat) : Nat := max t (min (f + w) L.length)
theorem dFresh {n : Nat} {L : List Str} {w f t : Nat} (hft : f ≤ t) (ht : t ≤ L.length) (hw : w ≤ 64) (hL : L.length ≤ 1000000) (hc : ∀ x ∈ L, x.length ≤ capN) (hto : t ≤ min (f + w) L.length) (hn : 1000000 < n) :
    dlink_Sender_Fresh n ⟨w, L.drop f, f, t⟩ = some (pkts L t (min (f + w) L.length), ⟨w, L.drop f, f, (min (f + w) L.length : Nat)⟩) := by
  unfold dlink_Sender_Fresh
  have h1 : (if (((L.drop f).length : Nat) : Int) < (w : Int) then (((L.drop f).length : Nat) : Int) else (w : Int)) = ((min w (L.length - f) : Nat) : Int) := by
    simp only [List.length_drop]; split <;> omega
  have h2 : IntKind.wrap .u64 ((f : Int) + (IntKind.wrap .u64 ((min w (L.length - f) : Nat) : Int))) = ((min (f + w) L.length : Nat) : Int) := by
    rw [wrap_u64 (by omega), show (f : Int) + ((min w (L.length - f) : Nat) : Int) = ((min (f + w) L.length : Nat) : Int) by omega]; exact wrap_u64 (by omega)
  simp only [h1, h2, Option.bind_some, dpackets hft hto (Nat.min_le_right _ _) hL hc hn]
  have h3 : (if ((min (f + w) L.length : Nat) : Int) > (t : Int) then ((min (f + w) L.length : Nat) : Int) else (t : Int)) = ((min (f + w) L.length : Nat) : Int) := by split <;> omega
  rw [h3]
theorem dAgain {n : Nat} {L : List Str} {w f t : Nat} (hft : f ≤ t) (ht : t ≤ L.length) (hL : L.length ≤ 1000000) (hc : ∀ x ∈ L, x.length ≤ capN) (hn : 1000000 < n) :
    dlink_Sender_Again n ⟨w, L.drop f, f, t⟩ = some (pkts L f t, ⟨w, L.drop f, f, t⟩) := by
  unfold dlink_Sender_Again
  simp only [dpackets (Nat.le_refl f) hft ht hL hc hn, Option.bind_some]
theorem dAck {n : Nat} {L : List Str} {w f t : Nat} {a : Nat} (hft : f ≤ t) (ht : t ≤ L.length) (hL : L.length ≤ 1000000) :
    dlink_Sender_Ack n ⟨w, L.drop f, f, t⟩ a = some (if f ≤ a ∧ a ≤ t then ⟨w, L.drop a, a, t⟩ else ⟨w, L.drop f, f, t⟩) := by
  unfold dlink_Sender_Ack
  by_cases h1 : t < a
  · have hd : decide ((a : Int) > (t : Int)) = true := by simp; omega
    simp only [hd, cond_true, Option.bind_some]; rw [if_neg (by omega)]
  · have hd : decide ((a : Int) > (t : Int)) = false := by simp; omega
    by_cases h2 : a < f
    · have hd2 : decide ((a : Int) < (f : Int)) = true := by simp; omega
      simp only [hd, hd2, cond_true, cond_false, Option.bind_some]; rw [if_neg (by omega)]
    · have hd2 : decide ((a : Int) < (f : Int)) = false := by simp; omega
      have hw : IntKind.wrap .u64 ((a : Int) - (f : Int)) = ((a - f : Nat) : Int) := by
        rw [show (a : Int) - (f : Int) = ((a - f : Nat) : Int) by omega]; exact wrap_u64 (by omega)
      simp only [hd, hd2, cond_true, cond_false, Option.bind_some, hw, gsl_from (L.drop f) (i := a - f) (by simp; omega)]
      rw [if_pos (by omega), List.drop_drop, show f + (a - f) = a by omega]
theorem dLen (n : Nat) (s : tlinkSender) : dlink_Sender_Len n s = some ((s.L.length : Int), s) := rfl
theorem dTake (n : Nat) (r : Int) (p : tPacket) (h : p.Data.length ≤ capN) : dlink_Receiver_Take n ⟨r⟩ p = some (if p.Seq = r then (p.Data, true, ⟨IntKind.wrap .u64 (r + 1)⟩) else ([], false, ⟨r⟩)) := by
  unfold dlink_Receiver_Take
  by_cases hs : p.Seq = r
  · have hd : (p.Seq != r) = false := by simp [hs]
    rw [if_pos hs]; simp only [hd, cond_false, dClone n h, Option.bind_some]
  · have hd : (p.Seq != r) = true := by simp [hs]
    rw [if_neg hs]; simp only [hd, cond_true]
theorem dWant (n : Nat) (r : tlinkReceiver) : dlink_Receiver_Want n r = some (r.Want, r) := rfl
theorem dRLen {n : Nat} {L : List Str} {w f t : Nat} (hf : f ≤ L.length) (hL : L.length ≤ 1000000) : dref15_Sender_Len n ⟨w, L, f, t⟩ = some (((L.length - f : Nat) : Int), ⟨w, L, f, t⟩) := by
  unfold dref15_Sender_Len
  rw [show W ((L.length : Int) - (f : Int)) = ((L.length - f : Nat) : Int) from by rw [show (L.length : Int) - (f : Int) = ((L.length - f : Nat) : Int) by omega]; exact W_nat (by omega)]
  rfl
theorem dRFresh {n : Nat} {L : List Str} {w f t : Nat} (hft : f ≤ t) (ht : t ≤ L.length) (hw : w ≤ 64) (hL : L.length ≤ 1000000) (hto : t ≤ min (f + w) L.length) :
    dref15_Sender_Fresh n ⟨w, L, f, t⟩ = some ((t : Int), ((min (f + w) L.length : Nat) : Int), ⟨w, L, f, (min (f + w) L.length : Nat)⟩) := by
  unfold dref15_Sender_Fresh
  have h1 : W ((f : Int) + (w : Int)) = ((f + w : Nat) : Int) := by rw [show (f : Int) + (w : Int) = ((f + w : Nat) : Int) by omega]; exact W_nat (by omega)
  have h2 : (bif (decide (((f + w : Nat) : Int) > (L.length : Int))) then some (L.length : Int) else some ((f + w : Nat) : Int) : Option Int) = some ((min (f + w) L.length : Nat) : Int) := by
    by_cases h : L.length < f + w
    · have hd : decide (((f + w : Nat) : Int) > (L.length : Int)) = true := by simp; omega
      rw [hd, Nat.min_eq_right (by omega)]; rfl
    · have hd : decide (((f + w : Nat) : Int) > (L.length : Int)) = false := by simp; omega
      rw [hd, Nat.min_eq_left (by omega)]; rfl
  have h3 : (bif (decide (((min (f + w) L.length : Nat) : Int) > (t : Int))) then some ((min (f + w) L.length : Nat) : Int) else some (t : Int) : Option Int) = some ((min (f + w) L.length : Nat) : Int) := by
    by_cases h : t < min (f + w) L.length
    · have hd : decide (((min (f + w) L.length : Nat) : Int) > (t : Int)) = true := by simp only [decide_eq_true_eq]; omega
      rw [hd]; rfl
    · have hd : decide (((min (f + w) L.length : Nat) : Int) > (t : Int)) = false := by simp only [decide_eq_false_iff_not]; omega
      rw [hd, show t = min (f + w) L.length by omega]; rfl
  simp only [h1, Option.bind_some]
  rw [h2]; simp only [Option.bind_some]
  rw [h3]; rfl
theorem dRAck {n : Nat} {L : List Str} {w f t : Nat} {a : Nat} (hft : f ≤ t) (ht : t ≤ L.length) (hL : L.length ≤ 1000000) :
    dref15_Sender_Ack n ⟨w, L, f, t⟩ a = some (if f ≤ a ∧ a ≤ t then ⟨w, L, a, t⟩ else ⟨w, L, f, t⟩) := by
  unfold dref15_Sender_Ack
  simp only [wrap_u64 (show t < 18446744073709551616 by omega), wrap_u64 (show f < 18446744073709551616 by omega)]
  by_cases h1 : a ≤ t
  · have hd : decide ((a : Int) ≤ (t : Int)) = true := by simp; omega
    by_cases h2 : f ≤ a
    · have hd2 : decide ((a : Int) ≥ (f : Int)) = true := by simp; omega
      simp only [hd, hd2, cond_true, Option.bind_some, W_nat (show a < 9223372036854775808 by omega)]; rw [if_pos ⟨h2, h1⟩]
    · have hd2 : decide ((a : Int) ≥ (f : Int)) = false := by simp; omega
      simp only [hd, hd2, cond_true, cond_false, Option.bind_some]; rw [if_neg (by omega)]
  · have hd : decide ((a : Int) ≤ (t : Int)) = false := by simp; omega
    simp only [hd, cond_false, Option.bind_some]; rw [if_neg (by omega)]
theorem dpick {n : Nat} {c : Int} {k : Nat} (hc : okI .i64 c) (hk : 0 < k) (hk2 : k < 1000000000) : ∃ q : Nat, dlaw15_pick n c k = some (q : Int) ∧ q < k := by
  have hb : -9223372036854775808 ≤ c ∧ c < 9223372036854775808 := okI64 hc
  unfold dlaw15_pick
  have h1 : ∃ m : Nat, (bif (decide (c < 0)) then ((some (W (0 - (W (c + 1))))).bind fun c3 => some c3) else some c : Option Int) = some (m : Int) := by
    by_cases h : c < 0
    · have hd : decide (c < 0) = true := by simpa using h
      refine ⟨(-(c + 1)).toNat, ?_⟩
      rw [hd, W_id (n := c + 1) (by omega), W_id (n := 0 - (c + 1)) (by omega)]
      simp only [cond_true, Option.bind_some]; congr 1; omega
    · have hd : decide (c < 0) = false := by simpa using h
      exact ⟨c.toNat, by rw [hd]; simp only [cond_false]; congr 1; omega⟩
  obtain ⟨m, hm⟩ := h1
  rw [hm, Option.bind_some]
  refine ⟨m % k, ?_, Nat.mod_lt _ hk⟩
  unfold remV
  rw [if_neg (by omega)]
  simp only [Option.bind_some]; rfl
theorem dlpackets {n : Nat} {L : List Str} {w : Int} {f t a b : Nat} (hab : a ≤ b) (hb : b ≤ L.length) (hL : L.length ≤ 1000000) (hn : 1000000 < n) :
    dlaw15_packets n (pkts L a b) ⟨w, L, f, t⟩ a b = some (true, ⟨w, L, f, t⟩) := by
  unfold dlaw15_packets
  have hd : decide ((b : Int) < (a : Int)) = false := by simp; omega
  have hl : (((pkts L a b).length : Nat) : Int) = ((b - a : Nat) : Int) := by rw [pkts_length]
  have hw : W ((b : Int) - (a : Int)) = ((b - a : Nat) : Int) := by rw [show (b : Int) - (a : Int) = ((b - a : Nat) : Int) by omega]; exact W_nat (by omega)
  have hne : (((pkts L a b).length : Int) != W ((b : Int) - (a : Int))) = false := by rw [hw, hl]; simp
  simp only [hd, cond_false, Option.bind_some, hne]
  refine (congrArg (fun o => Option.bind o _) (loopD_traj (e := .inl ()) (fun k => ((k : Nat) : Int)) (b - a) (fun k hk => ?_) ?_ n (by omega))).trans ?_
  · have hd : decide ((k : Int) < (((pkts L a b).length : Nat) : Int)) = true := by rw [hl]; simp; omega
    have hk2 : k < (pkts L a b).length := by rw [pkts_length]; exact hk
    have hw : W ((a : Int) + (k : Int)) = ((a + k : Nat) : Int) := by rw [show (a : Int) + (k : Int) = ((a + k : Nat) : Int) by omega]; exact W_nat (by omega)
    have hg : L.getD (a + k) [] = L[a + k]'(by omega) := by rw [List.getD_eq_getElem?_getD, List.getElem?_eq_getElem (by omega)]; rfl
    simp only [hd, cond_true, gi_lt hk2, Option.bind_some, pkts_get L hk2, hw, wrap_u64 (show a + k < 18446744073709551616 by omega), gi_lt (show a + k < L.length by omega), W_suc (show k + 1 < 9223372036854775808 by omega), hg]
    simp
  · have hd : decide (((b - a : Nat) : Int) < (((pkts L a b).length : Nat) : Int)) = false := by rw [hl]; simp
    simp only [hd, cond_false]
  · rfl
theorem dNewS (n : Nat) (w : Int) : dlink_NewSender n w = some (if w < 1 ∨ w > 64 then (none, some 1) else (some ⟨w, [], 0, 0⟩, none)) := by
  unfold dlink_NewSender
  by_cases h1 : w < 1
  · have hd : decide (w < 1) = true := by simpa using h1
    rw [if_pos (.inl h1)]; simp only [hd, cond_true, Option.bind_some]
  · have hd : decide (w < 1) = false := by simpa using h1
    by_cases h2 : w > 64
    · have hd2 : decide (w > 64) = true := by simpa using h2
      rw [if_pos (.inr h2)]; simp only [hd, hd2, cond_true, cond_false, Option.bind_some]
    · have hd2 : decide (w > 64) = false := by simpa using h2
      rw [if_neg (by omega)]; simp only [hd, hd2, cond_true, cond_false, Option.bind_some]
theorem up15 : Ev fun n => dlaw15_up n = some true := by
  refine Ev.ge 1000001 fun n hn => ?_
  unfold dlaw15_up
  have e1 : dlink_NewSender n 1 = some (some ⟨1, [], 0, 0⟩, none) := by rw [dNewS, if_neg (by decide)]
  have e2 : dlink_NewSender n 65 = some (none, some 1) := by rw [dNewS, if_pos (by decide)]
  have e3 : dlink_Sender_Send n ⟨1, [], 0, 0⟩ [97] = some (none, ⟨1, [[97]], 0, 0⟩) := by rw [dSend (s := ⟨1, [], 0, 0⟩) (b := [97]) (by decide) (by decide)]; rfl
  have e4 : dlink_Sender_Send n ⟨1, [[97]], 0, 0⟩ [98] = some (none, ⟨1, [[97], [98]], 0, 0⟩) := by rw [dSend (s := ⟨1, [[97]], 0, 0⟩) (b := [98]) (by decide) (by decide)]; rfl
  have hc : ∀ x ∈ ([[97], [98]] : List Str), x.length ≤ capN := by intro x hx; rcases List.mem_cons.1 hx with rfl | hx; · decide
                                                                   rcases List.mem_cons.1 hx with rfl | hx; · decide
                                                                   cases hx
  have e5 := dFresh (n := n) (L := [[97], [98]]) (w := 1) (f := 0) (t := 0) (by decide) (by decide) (by decide) (by decide) hc (by decide) hn
  have e6 : dlink_Sender_Fresh n ⟨1, [[97], [98]], 0, 0⟩ = some ([⟨0, [97]⟩], ⟨1, [[97], [98]], 0, 1⟩) := e5
  have e7 : dlink_Receiver_Take n ⟨0⟩ ⟨0, [97]⟩ = some ([97], true, ⟨1⟩) := by rw [dTake n 0 ⟨0, [97]⟩ (show 1 ≤ capN by decide)]; rfl
  have e8 := dAck (n := n) (L := [[97], [98]]) (w := 1) (f := 0) (t := 1) (a := 1) (by decide) (by decide) (by decide)
  have e9 : dlink_Sender_Ack n ⟨1, [[97], [98]], 0, 1⟩ 1 = some ⟨1, [[98]], 1, 1⟩ := e8
  have e10 : dlink_NewReceiver n = some ⟨0⟩ := rfl
  simp only [e1, e2, e10, Option.bind_some, e3, e4, e6]
  have e11 : gi [tPacket.mk 0 [97]] 0 = some ⟨0, [97]⟩ := rfl
  simp only [List.length_cons, List.length_nil, e11, Option.bind_some, e7, dWant, e9, dLen]
  rfl
theorem ofEx {o : Option Bool} (h : ∃ r, o = some r ∧ r = true) : o = some true := by obtain ⟨r, h, rfl⟩ := h; exact h
theorem loopD_exJ' {σ τ β : Type} {body : σ → Option (σ ⊕ τ)} {f : τ → Option β} {n : Nat} {s : σ} {Q : β → Prop} (I : σ → Prop) (μ : σ → Nat) (J : τ → Prop) (hs : I s) (hn : μ s < n)
    (h : ∀ s, I s → ∃ o, body s = some o ∧ (∀ s', o = .inl s' → I s' ∧ μ s' < μ s) ∧ ∀ e, o = .inr e → J e) (k : ∀ e, J e → ∃ r, f e = some r ∧ Q r) : ∃ r, (loopD body n s).bind f = some r ∧ Q r := by
  obtain ⟨e, he, hJ⟩ := loopD_tot I μ J h n s hs hn
  rw [he]; exact k e hJ
abbrev PS := Int × Int × Int × Int × Int × Int × Int × Int × Int × List tPacket × List Str × List Str
/-- The code's sender, and the document's, tell the same. -/
structure LG (wn i want f t : Nat) (fl : List tPacket) (L : List Str) : Prop where
  ft : f ≤ t
  tl : t ≤ min (f + wn) L.length
  ll : L.length ≤ i
  wi : want ≤ i
  sm : ∀ x ∈ L, x.length ≤ 200
  fm : ∀ p ∈ fl, p.Data.length ≤ 200
  fl : fl.length ≤ 400 * i
def PI (wn len : Nat) (s : PS) : Prop := ∃ (want i f t : Nat) (fl : List tPacket) (L : List Str), s = ((want : Int), (i : Int), (wn : Int), (f : Int), (t : Int), (want : Int), (wn : Int), (f : Int), (t : Int), fl, L.drop f, L) ∧ i ≤ len ∧ LG wn i want f t fl L
theorem pkts_small {L : List Str} {a b : Nat} (hc : ∀ x ∈ L, x.length ≤ 200) : ∀ p ∈ pkts L a b, p.Data.length ≤ 200 := by
  intro p hp
  unfold pkts at hp
  obtain ⟨k, _, rfl⟩ := List.mem_map.1 hp
  show (L.getD k []).length ≤ 200
  rw [List.getD_eq_getElem?_getD]
  cases h : L[k]? with
  | none => simp
  | some x => exact hc _ (List.mem_of_getElem? h)
theorem wrapU_nat (z : Int) : ∃ a : Nat, IntKind.wrap .u64 z = (a : Int) := by
  refine ⟨(z % 18446744073709551616).toNat, ?_⟩
  have : IntKind.wrap .u64 z = z % 18446744073709551616 := rfl
  rw [this]; omega

theorem LinkPlays_e (w : Int) (d : List tlaw15Deed) (hd : ∀ x ∈ d, okI .i64 x.What ∧ okI .i64 x.N) : Ev fun n => dlaw15_LinkPlays n w d = some true := by
  refine (up15.big 1000001).mono fun n hh => ?_
  obtain ⟨hn, hup⟩ := hh
  have hcap : ∀ k : Nat, k ≤ 1000000 → k ≤ capN := fun k hk => Nat.le_trans hk (by decide)
  have hr : dlink_NewReceiver n = some ⟨0⟩ := rfl
  unfold dlaw15_LinkPlays
  rw [hup, Option.bind_some, dNewS]
  by_cases hw : w < 1 ∨ w > 64
  · have hx : (bif (decide (w < 1)) then some true else some (decide (w > 64)) : Option Bool) = some true := by
      by_cases h1 : w < 1
      · have : decide (w < 1) = true := by simpa using h1
        rw [this]; rfl
      · have : decide (w < 1) = false := by simpa using h1
        rw [this]; simp only [cond_false]; congr 1; simp; omega
    rw [if_pos hw]
    simp only [Option.bind_some, hr, hx, cond_true]
    rfl
  · have hx : (bif (decide (w < 1)) then some true else some (decide (w > 64)) : Option Bool) = some false := by
      have h1 : decide (w < 1) = false := by simp; omega
      rw [h1]; simp only [cond_false]; congr 1; simp; omega
    rw [if_neg hw]
    simp only [Option.bind_some, hr, hx, cond_false, Option.isSome_none]
    obtain ⟨wn, rfl⟩ : ∃ k : Nat, w = k := ⟨w.toNat, by omega⟩
    cases h4 : decide ((d.length : Int) > 400) with
    | true => rfl
    | false =>
    have h4' : d.length ≤ 400 := by simp at h4; omega
    simp only [cond_false]
    refine ofEx (loopD_exJ' (PI wn d.length) (fun s => d.length - s.2.1.toNat) (fun e => e = .inl () ∨ e = .inr true) ⟨0, 0, 0, 0, [], [], rfl, Nat.zero_le _, ⟨Nat.le_refl _, by simp, by simp, by simp, by simp, by simp, by simp⟩⟩ (by simp; omega) ?_ ?_)
    rotate_left
    · rintro e (rfl | rfl) <;> exact ⟨_, rfl, rfl⟩
    rintro s ⟨want, i, f, t, fl, L, rfl, hi, hg⟩
    by_cases hlt : i < d.length
    · have hd1 : decide ((i : Int) < (d.length : Int)) = true := by simpa using hlt
      simp only [hd1, cond_true, gi_lt hlt, Option.bind_some]
      obtain ⟨ok1, ok2⟩ := hd _ (List.getElem_mem hlt)
      generalize d[i] = x at *
      cases hB : decide ((x.B.length : Int) > 200) with
      | true => exact ⟨_, rfl, (fun s' e => nomatch e), fun e he => by cases he; exact .inr rfl⟩
      | false =>
      have hB' : x.B.length ≤ 200 := by simp at hB; omega
      obtain ⟨q, hq, hq6⟩ := dpick (n := n) ok1 (show 0 < 6 by decide) (by decide)
      have hq' : dlaw15_pick n x.What 6 = some (q : Int) := hq
      have hL : L.length ≤ 1000000 := by have := hg.ll; omega
      have hL4 : L.length ≤ 400 := by have := hg.ll; omega
      have hF : fl.length ≤ 160000 := by have := hg.fl; omega
      have hf : f ≤ L.length := by have := hg.ft; have := hg.tl; omega
      have ht : t ≤ L.length := by have := hg.tl; omega
      have hc : ∀ x ∈ L, x.length ≤ capN := fun y hy => Nat.le_trans (hg.sm y hy) (by decide)
      have hW : W ((i : Int) + 1) = ((i + 1 : Nat) : Int) := W_suc (by omega)
      have hne : ∀ (L : List Str) (f : Nat), (((L.drop f).length : Int) != ((L.length - f : Nat) : Int)) = false := fun L f => by simp
      have fin : ∀ (want f t : Nat) (fl : List tPacket) (L : List Str), LG wn (i + 1) want f t fl L →
          ∃ o : PS ⊕ (Unit ⊕ Bool), some (Sum.inl ((want : Int), ((i + 1 : Nat) : Int), (wn : Int), (f : Int), (t : Int), (want : Int), (wn : Int), (f : Int), (t : Int), fl, L.drop f, L)) = some o ∧
            (∀ s', o = .inl s' → PI wn d.length s' ∧ d.length - s'.2.1.toNat < d.length - ((i : Nat) : Int).toNat) ∧ ∀ e, o = .inr e → e = .inl () ∨ e = .inr true := fun want f t fl L h =>
        ⟨_, rfl, fun s' e => by cases e; exact ⟨⟨want, i + 1, f, t, fl, L, rfl, hlt, h⟩, by simp only [Int.toNat_natCast]; omega⟩, (fun e he => nomatch he)⟩
      simp only [cond_false, hq', Option.bind_some]
      have hcases : q = 0 ∨ q = 1 ∨ q = 2 ∨ q = 3 ∨ q = 4 ∨ q = 5 := by omega
      rcases hcases with rfl | rfl | rfl | rfl | rfl | rfl
      · have h0 : (((0 : Nat) : Int) == 0) = true := rfl
        have e1 := dSend (n := n) (s := ⟨(wn : Int), L.drop f, f, t⟩) (b := x.B) (hcap _ (by omega)) (hcap _ (by simp; omega))
        simp only [h0, cond_true, e1, Option.bind_some, dRLen hf hL]
        by_cases h2 : 200 ≤ (L.drop f).length
        · have hd2 : decide (((L.length - f : Nat) : Int) ≥ 200) = true := by simp at h2 ⊢; omega
          have h8 : (!((some 8 : Er) == some 8)) = false := rfl
          simp only [if_pos h2, hd2, cond_true, h8, cond_false, Option.bind_some, kS, dLen, dRLen hf hL, hne, dWant, bne_self_eq_false, hW]
          exact fin want f t fl L ⟨hg.ft, hg.tl, by have := hg.ll; omega, by have := hg.wi; omega, hg.sm, hg.fm, by have := hg.fl; omega⟩
        · have hd2 : decide (((L.length - f : Nat) : Int) ≥ 200) = false := by simp at h2 ⊢; omega
          have h8 : (none : Er).isSome = false := rfl
          have hap : ap L [x.B] = some (L ++ [x.B]) := ap_ok (hcap _ (by simp; omega))
          have hL' : (L ++ [x.B]).length ≤ 1000000 := by have := hg.ll; simp; omega
          have hf' : f ≤ (L ++ [x.B]).length := by simp; omega
          have hdr : L.drop f ++ [x.B] = (L ++ [x.B]).drop f := by rw [List.drop_append_of_le_length hf]
          simp only [if_neg h2, hd2, cond_false, h8, hap, Option.bind_some, kS, dLen, dRLen hf' hL', hdr, hne, dWant, bne_self_eq_false, hW]
          exact fin want f t fl (L ++ [x.B]) ⟨hg.ft, by have := hg.tl; simp; omega, by have := hg.ll; simp; omega, by have := hg.wi; omega, fun y hy => by
            rcases List.mem_append.1 hy with hy | hy
            · exact hg.sm y hy
            · simp at hy; rw [hy]; exact hB', hg.fm, by have := hg.fl; omega⟩
      · have h0 : (((1 : Nat) : Int) == 0) = false := rfl
        have h1 : (((1 : Nat) : Int) == 1) = true := rfl
        have hl := pkts_length L t (min (f + wn) L.length)
        have ha1 : ap [] fl = some fl := ap_ok (hcap _ (by have := hg.fl; simp; omega))
        have ha2 : ap fl (pkts L t (min (f + wn) L.length)) = some (fl ++ pkts L t (min (f + wn) L.length)) := ap_ok (hcap _ (by have := hg.fl; rw [hl]; omega))
        have e3 := dFresh (n := n) (w := wn) hg.ft ht (by omega) hL hc hg.tl (by omega)
        have e4 := dRFresh (n := n) (w := wn) hg.ft ht (by omega) hL hg.tl
        have e5 := dlpackets (n := n) (w := (wn : Int)) (f := f) (t := min (f + wn) L.length) hg.tl (Nat.min_le_right (f + wn) L.length) hL (by omega)
        simp only [h0, h1, cond_true, cond_false, e3, e4, Option.bind_some, e5, Bool.not_true, ha1, ha2, dLen, dRLen hf hL, hne, dWant, bne_self_eq_false, kS, hW]
        exact fin want f _ _ L ⟨by have := hg.ft; have := hg.tl; omega, Nat.le_refl _, by have := hg.ll; omega, by have := hg.wi; omega, hg.sm, fun p hp => by
          rcases List.mem_append.1 hp with hp | hp
          · exact hg.fm p hp
          · exact pkts_small hg.sm p hp, by have := hg.fl; have := hg.ll; rw [List.length_append, hl]; omega⟩
      · have h0 : (((2 : Nat) : Int) == 0) = false := rfl
        have h1 : (((2 : Nat) : Int) == 1) = false := rfl
        have h2 : (((2 : Nat) : Int) == 2) = true := rfl
        have hl := pkts_length L f t
        have ha1 : ap [] fl = some fl := ap_ok (hcap _ (by have := hg.fl; simp; omega))
        have ha2 : ap fl (pkts L f t) = some (fl ++ pkts L f t) := ap_ok (hcap _ (by have := hg.fl; rw [hl]; omega))
        have e3 := dAgain (n := n) (w := wn) hg.ft ht hL hc (by omega)
        have e5 := dlpackets (n := n) (w := (wn : Int)) (f := f) (t := t) hg.ft ht hL (by omega)
        have e6 : (bif (decide ((fl.length : Int) < 500)) then some (fl ++ pkts L f t) else some fl : Option (List tPacket)) = some (if fl.length < 500 then fl ++ pkts L f t else fl) := by
          by_cases h : fl.length < 500
          · have : decide ((fl.length : Int) < 500) = true := by simp; omega
            rw [this, if_pos h]; rfl
          · have : decide ((fl.length : Int) < 500) = false := by simp; omega
            rw [this, if_neg h]; rfl
        simp only [h0, h1, h2, cond_true, cond_false, e3, Option.bind_some, e5, Bool.not_true, ha1, ha2, e6, dLen, dRLen hf hL, hne, dWant, bne_self_eq_false, kS, hW]
        refine fin want f t _ L ⟨hg.ft, hg.tl, by have := hg.ll; omega, by have := hg.wi; omega, hg.sm, fun p hp => ?_, ?_⟩
        · split at hp
          · rcases List.mem_append.1 hp with hp | hp
            · exact hg.fm p hp
            · exact pkts_small hg.sm p hp
          · exact hg.fm p hp
        · have := hg.fl; have := hg.ll
          split
          · rw [List.length_append, hl]; omega
          · omega
      · have h0 : (((3 : Nat) : Int) == 0) = false := rfl
        have h1 : (((3 : Nat) : Int) == 1) = false := rfl
        have h2 : (((3 : Nat) : Int) == 2) = false := rfl
        have h3 : (((3 : Nat) : Int) == 3) = true := rfl
        have h4 : (((3 : Nat) : Int) == 4) = false := rfl
        simp only [h0, h1, h2, h3, h4, cond_true, cond_false, Option.bind_some]
        by_cases hfl : fl = []
        · subst hfl
          have : ((([] : List tPacket).length : Int) == 0) = true := rfl
          simp only [this, cond_true, Option.bind_some, kS, hW]
          exact fin want f t [] L ⟨hg.ft, hg.tl, by have := hg.ll; omega, by have := hg.wi; omega, hg.sm, hg.fm, by simp⟩
        · have hfp : 0 < fl.length := List.length_pos_iff.2 hfl
          have hz : ((fl.length : Int) == 0) = false := by simp; exact hfl
          obtain ⟨k, hk, hkl⟩ := dpick (n := n) ok2 hfp (by have := hg.fl; omega)
          have hpd : (fl[k]'hkl).Data.length ≤ 200 := hg.fm _ (List.getElem_mem hkl)
          have g1 : gsl fl 0 (k : Int) = some (fl.take k) := by have := gsl_nat fl (i := 0) (Nat.zero_le k) (by omega); simpa using this
          have hWk : W ((k : Int) + 1) = ((k + 1 : Nat) : Int) := W_suc (by have := hg.fl; omega)
          have g2 := gsl_from fl (i := k + 1) (by omega)
          have ha1 : ap [] (fl.take k) = some (fl.take k) := ap_ok (hcap _ (by have := hg.fl; simp; omega))
          have ha2 : ap (fl.take k) (fl.drop (k + 1)) = some (fl.take k ++ fl.drop (k + 1)) := ap_ok (hcap _ (by have := hg.fl; simp; omega))
          have hmem : ∀ p ∈ fl.take k ++ fl.drop (k + 1), p.Data.length ≤ 200 := fun p hp => by
            rcases List.mem_append.1 hp with hp | hp
            · exact hg.fm p (List.mem_of_mem_take hp)
            · exact hg.fm p (List.mem_of_mem_drop hp)
          have hlen : (fl.take k ++ fl.drop (k + 1)).length ≤ 400 * (i + 1) := by have := hg.fl; simp; omega
          simp only [hz, hk, gi_lt hkl, hq', h3, cond_true, cond_false, Option.bind_some, g1, hWk, g2, ha1, ha2]
          rw [dTake n want _ (Nat.le_trans hpd (by decide))]
          by_cases hs : (fl[k]'hkl).Seq = (want : Int)
          · have hb1 : (!(true == ((fl[k]'hkl).Seq == (want : Int)))) = false := by simp [hs]
            have hb2 : (!((fl[k]'hkl).Data == (fl[k]'hkl).Data)) = false := by simp
            have hu : IntKind.wrap .u64 ((want : Int) + 1) = ((want + 1 : Nat) : Int) := by rw [show (want : Int) + 1 = ((want + 1 : Nat) : Int) by omega]; exact wrap_u64 (by have := hg.wi; omega)
            simp only [if_pos hs, hb1, hb2, hu, Bool.not_true, cond_true, cond_false, Option.bind_some, kS, dLen, dRLen hf hL, hne, dWant, bne_self_eq_false, hW]
            exact fin (want + 1) f t _ L ⟨hg.ft, hg.tl, by have := hg.ll; omega, by have := hg.wi; omega, hg.sm, hmem, hlen⟩
          · have hb1 : (!(false == ((fl[k]'hkl).Seq == (want : Int)))) = false := by simp [hs]
            have hb3 : ((([] : Str).length : Int) != 0) = false := rfl
            simp only [if_neg hs, hb1, hb3, Bool.not_false, cond_true, cond_false, Option.bind_some, kS, dLen, dRLen hf hL, hne, dWant, bne_self_eq_false, hW]
            exact fin want f t _ L ⟨hg.ft, hg.tl, by have := hg.ll; omega, by have := hg.wi; omega, hg.sm, hmem, hlen⟩
      · have h0 : (((4 : Nat) : Int) == 0) = false := rfl
        have h1 : (((4 : Nat) : Int) == 1) = false := rfl
        have h2 : (((4 : Nat) : Int) == 2) = false := rfl
        have h3 : (((4 : Nat) : Int) == 3) = false := rfl
        have h4 : (((4 : Nat) : Int) == 4) = true := rfl
        simp only [h0, h1, h2, h3, h4, cond_true, cond_false, Option.bind_some]
        by_cases hfl : fl = []
        · subst hfl
          have : ((([] : List tPacket).length : Int) == 0) = true := rfl
          simp only [this, cond_true, Option.bind_some, kS, hW]
          exact fin want f t [] L ⟨hg.ft, hg.tl, by have := hg.ll; omega, by have := hg.wi; omega, hg.sm, hg.fm, by simp⟩
        · have hfp : 0 < fl.length := List.length_pos_iff.2 hfl
          have hz : ((fl.length : Int) == 0) = false := by simp; exact hfl
          obtain ⟨k, hk, hkl⟩ := dpick (n := n) ok2 hfp (by have := hg.fl; omega)
          have hpd : (fl[k]'hkl).Data.length ≤ 200 := hg.fm _ (List.getElem_mem hkl)
          have g1 : gsl fl 0 (k : Int) = some (fl.take k) := by have := gsl_nat fl (i := 0) (Nat.zero_le k) (by omega); simpa using this
          have hWk : W ((k : Int) + 1) = ((k + 1 : Nat) : Int) := W_suc (by have := hg.fl; omega)
          have g2 := gsl_from fl (i := k + 1) (by omega)
          have ha1 : ap [] (fl.take k) = some (fl.take k) := ap_ok (hcap _ (by have := hg.fl; simp; omega))
          have ha2 : ap (fl.take k) (fl.drop (k + 1)) = some (fl.take k ++ fl.drop (k + 1)) := ap_ok (hcap _ (by have := hg.fl; simp; omega))
          have hmem : ∀ p ∈ fl.take k ++ fl.drop (k + 1), p.Data.length ≤ 200 := fun p hp => by
            rcases List.mem_append.1 hp with hp | hp
            · exact hg.fm p (List.mem_of_mem_take hp)
            · exact hg.fm p (List.mem_of_mem_drop hp)
          have hlen : (fl.take k ++ fl.drop (k + 1)).length ≤ 400 * (i + 1) := by have := hg.fl; simp; omega
          simp only [hz, hk, gi_lt hkl, hq', h3, cond_true, cond_false, Option.bind_some, g1, hWk, g2, ha1, ha2]
          simp only [kS, dLen, dRLen hf hL, hne, dWant, bne_self_eq_false, hW, Option.bind_some, cond_false]
          exact fin want f t _ L ⟨hg.ft, hg.tl, by have := hg.ll; omega, by have := hg.wi; omega, hg.sm, hmem, hlen⟩
      · have h0 : (((5 : Nat) : Int) == 0) = false := rfl
        have h1 : (((5 : Nat) : Int) == 1) = false := rfl
        have h2 : (((5 : Nat) : Int) == 2) = false := rfl
        have h3 : (((5 : Nat) : Int) == 3) = false := rfl
        have h4 : (((5 : Nat) : Int) == 4) = false := rfl
        obtain ⟨u, hu⟩ := wrapU_nat x.N
        have he : ∃ a : Nat, (bif x.Own then some ((want : Int), (want : Int)) else some ((u : Int), (want : Int)) : Option (Int × Int)) = some ((a : Int), (want : Int)) := by
          cases x.Own
          · exact ⟨u, rfl⟩
          · exact ⟨want, rfl⟩
        obtain ⟨a, he⟩ := he
        simp only [h0, h1, h2, h3, h4, hu, cond_true, cond_false, Option.bind_some, dWant, he, dAck hg.ft ht hL, dRAck hg.ft ht hL]
        by_cases ha : f ≤ a ∧ a ≤ t
        · have hf' : a ≤ L.length := by omega
          simp only [if_pos ha, kS, dLen, dRLen hf' hL, hne, dWant, bne_self_eq_false, hW, Option.bind_some, cond_false]
          exact fin want a t fl L ⟨ha.2, by have := hg.tl; omega, by have := hg.ll; omega, by have := hg.wi; omega, hg.sm, hg.fm, by have := hg.fl; omega⟩
        · simp only [if_neg ha, kS, dLen, dRLen hf hL, hne, dWant, bne_self_eq_false, hW, Option.bind_some, cond_false]
          exact fin want f t fl L ⟨hg.ft, hg.tl, by have := hg.ll; omega, by have := hg.wi; omega, hg.sm, hg.fm, by have := hg.fl; omega⟩
    · have hd1 : decide ((i : Int) < (d.length : Int)) = false := by simp; omega
      simp only [hd1, cond_false]
      exact ⟨_, rfl, (fun s' e => nomatch e), fun e he => by cases he; exact .inl rfl⟩
theorem LinkPlays_c {w : Int} {d : List tlaw15Deed} (hw : okI .i64 w) (hd : okLs ok_tlaw15Deed d) : PCall Try.prog 3 [.int .i64 w, .sl (d.map c_tlaw15Deed)] (· = .bool true) := by
  obtain ⟨n, h⟩ := (LinkPlays_e w d (fun x hx => ⟨(hd.2 x hx).1, (hd.2 x hx).2.1⟩)).get
  exact dlaw15_LinkPlays_l h
end Go.Proofs.Ytaekecbadkcggaa
