/- Layer 15, plainly: what is taken is what was sent. -/
import Derived.Test.YtaekecbadkcggaaE15
import Derived.Test.YtaekecbadkcggaaD15c
namespace Go.Proofs.Ytaekecbadkcggaa
open Go.Pv
set_option linter.unusedSimpArgs false
set_option linter.unusedVariables false
set_option linter.unusedSectionVars false

/-- Each packet in flight is of one that was sent. -/
def Fl (D : List Str) (t : Nat) (fl : List tPacket) : Prop := ∀ p ∈ fl, ∃ k, k < t ∧ p = ⟨(k : Int), D.getD k []⟩
theorem Fl.mono {L : List Str} {t t' : Nat} {fl : List tPacket} (h : Fl L t fl) (ht : t ≤ t') : Fl L t' fl := fun p hp => by
  obtain ⟨k, h1, h2⟩ := h p hp; exact ⟨k, by omega, h2⟩
theorem Fl.of {L : List Str} {a b : Nat} : Fl L b (pkts L a b) := fun p hp => by
  unfold pkts at hp
  obtain ⟨k, h1, rfl⟩ := List.mem_map.1 hp
  rw [List.mem_range'_1] at h1
  exact ⟨k, by omega, rfl⟩
theorem Fl.app {L : List Str} {t : Nat} {a b : List tPacket} (h : Fl L t a) (k : Fl L t b) : Fl L t (a ++ b) := fun p hp => by
  rcases List.mem_append.1 hp with hp | hp
  · exact h p hp
  · exact k p hp
theorem pkts_take {D : List Str} {i a b : Nat} (h : b ≤ i) : pkts (D.take i) a b = pkts D a b := by
  unfold pkts
  refine List.map_congr_left fun k hk => ?_
  rw [List.mem_range'_1] at hk
  rw [List.getD_eq_getElem?_getD, List.getD_eq_getElem?_getD, List.getElem?_take_of_lt (by omega)]
theorem take_want {L : List Str} {k : Nat} (h : k < L.length) : L.take k ++ [L.getD k []] = L.take (k + 1) := by
  rw [List.take_add_one, List.getD_eq_getElem?_getD, List.getElem?_eq_getElem h]; rfl
theorem getD_small {D : List Str} (hc : ∀ x ∈ D, x.length ≤ 1048576) (k : Nat) : (D.getD k []).length ≤ capN := by
  rw [List.getD_eq_getElem?_getD]
  cases h : D[k]? with
  | none => simp
  | some x => exact Nat.le_trans (hc _ (List.mem_of_getElem? h)) (by decide)
/-- A packet is taken, or not. -/
theorem dTakeD {n : Nat} {D : List Str} (hc : ∀ x ∈ D, x.length ≤ 1048576) {want k : Nat} (hk : k < D.length) (hD : D.length ≤ 1000) : dlink_Receiver_Take n ⟨(want : Int)⟩ ⟨(k : Int), D.getD k []⟩ =
    some (if k = want then (D.getD k [], true, ⟨((want + 1 : Nat) : Int)⟩) else ([], false, ⟨(want : Int)⟩)) := by
  rw [dTake n want _ (getD_small hc k)]
  by_cases h : k = want
  · subst h
    rw [if_pos rfl, if_pos rfl, show (k : Int) + 1 = ((k + 1 : Nat) : Int) by omega, wrap_u64 (by omega)]
  · rw [if_neg h, if_neg (fun (e : (k : Int) = want) => h (by omega))]

abbrev OS := Int × Int × Int × Int × Int × Int × List Str × List tPacket × List Str
structure OG (wn i len : Nat) (D : List Str) (f t want : Nat) (fl : List tPacket) : Prop where
  fw : f ≤ want
  wt : want ≤ t
  tl : t ≤ min (f + wn) (min i len)
  fm : Fl D t fl
  fl : fl.length ≤ 151 * i
def OI (wn m : Nat) (D : List Str) (s : OS) : Prop := ∃ (i f t want : Nat) (fl : List tPacket),
  s = (((min i D.length : Nat) : Int), (i : Int), (wn : Int), (f : Int), (t : Int), (want : Int), D.take want, fl, (D.take i).drop f) ∧ i ≤ m ∧ OG wn i D.length D f t want fl
abbrev OE := (Int × Int × Int × Int × Int × List Str × List Str) ⊕ Bool
def OJ (wn : Nat) (D : List Str) (e : OE) : Prop := ∃ (f t want : Nat), e = .inl ((D.length : Int), (wn : Int), (f : Int), (t : Int), (want : Int), D.take want, D.drop f) ∧ f ≤ want ∧ want ≤ t ∧ t ≤ min (f + wn) D.length
abbrev OS2 := Int × Int × Int × Int × Int × List Str × List Str
def OI2 (wn : Nat) (D : List Str) (s : OS2) : Prop := ∃ (i f t want : Nat), s = ((i : Int), (wn : Int), (f : Int), (t : Int), (want : Int), D.take want, D.drop f) ∧ f ≤ want ∧ want ≤ t ∧ t ≤ min (f + wn) D.length ∧ i ≤ D.length ∧ min i D.length ≤ f

theorem LinkOnce_e (w : Int) (D : List Str) (d : List tlaw15Deed) (hd : ∀ x ∈ d, okI .i64 x.What ∧ okI .i64 x.N) (hD : ∀ x ∈ D, x.length ≤ 1048576) : Ev fun n => dlaw15_LinkOnce n w D d = some true := by
  refine (up15.big 1000001).mono fun n hh => ?_
  obtain ⟨hn, hup⟩ := hh
  have hcap : ∀ k : Nat, k ≤ 1000000 → k ≤ capN := fun k hk => Nat.le_trans hk (by decide)
  have hr : dlink_NewReceiver n = some ⟨0⟩ := rfl
  unfold dlaw15_LinkOnce
  rw [hup, Option.bind_some, dNewS]
  by_cases hw : w < 1 ∨ w > 64
  · rw [if_pos hw]
    simp only [Option.bind_some, hr]
    rfl
  · rw [if_neg hw]
    simp only [Option.bind_some, hr, Option.isSome_none, cond_false]
    obtain ⟨wn, rfl⟩ : ∃ k : Nat, w = k := ⟨w.toNat, by omega⟩
    cases h4 : decide ((D.length : Int) > 150) with
    | true => rfl
    | false =>
    have h4' : D.length ≤ 150 := by simp at h4; omega
    cases h5 : decide ((d.length : Int) > 300) with
    | true => rfl
    | false =>
    have h5' : d.length ≤ 300 := by simp at h5; omega
    have hWd : W ((d.length : Int) + (D.length : Int)) = ((d.length + D.length : Nat) : Int) := by rw [show (d.length : Int) + (D.length : Int) = ((d.length + D.length : Nat) : Int) by omega]; exact W_nat (by omega)
    simp only [cond_false, Option.bind_some, hWd]
    refine ofEx (loopD_exJ' (OI wn (d.length + D.length) D) (fun s => d.length + D.length - s.2.1.toNat) (OJ wn D) ⟨0, 0, 0, 0, [], by simp, Nat.zero_le _, ⟨by omega, by omega, by simp, (fun _ h => nomatch h), by simp⟩⟩ (by simp; omega) ?_ ?_)
    · rintro s ⟨i, f, t, want, fl, rfl, hi, hg⟩
      by_cases hlt : i < d.length + D.length
      · have hd1 : decide ((i : Int) < ((d.length + D.length : Nat) : Int)) = true := by simp; omega
        have hg1 := hg.fw; have hg2 := hg.wt; have hg3 := hg.tl; have hg5 := hg.fl
        have hW : W ((i : Int) + 1) = ((i + 1 : Nat) : Int) := W_suc (by omega)
        have hF : fl.length ≤ 151 * 450 := by omega
        simp only [hd1, cond_true]
        -- one more is sent
        have hsend : ∀ {τ : Type} (K : Int × Int × Int × Int × List Str → Option τ) (bad : τ),
            ((bif (decide ((i : Int) < (D.length : Int))) then ((gi D i).bind fun f1 => (dlink_Sender_Send n (tlinkSender.mk wn ((D.take i).drop f) f t) f1).bind fun f2 => bif f2.1.isSome then some (Sum.inr bad) else some (Sum.inl (W (((min i D.length : Nat) : Int) + 1), f2.2.Window, f2.2.First, f2.2.Next, f2.2.L))) else some (Sum.inl (((min i D.length : Nat) : Int), (wn : Int), (f : Int), (t : Int), (D.take i).drop f)) : Option ((Int × Int × Int × Int × List Str) ⊕ τ)).bind fun o => kS o K)
              = K (((min (i + 1) D.length : Nat) : Int), (wn : Int), (f : Int), (t : Int), (D.take (i + 1)).drop f) := by
          intro _ K bad
          by_cases h : i < D.length
          · have hd2 : decide ((i : Int) < (D.length : Int)) = true := by simpa using h
            have e1 := dSend (n := n) (s := ⟨(wn : Int), (D.take i).drop f, f, t⟩) (b := D[i]) (Nat.le_trans (hD _ (List.getElem_mem h)) (by decide)) (hcap _ (by simp; omega))
            have e2 : ¬ 200 ≤ ((D.take i).drop f).length := by simp; omega
            have e3 : W (((min i D.length : Nat) : Int) + 1) = ((min (i + 1) D.length : Nat) : Int) := by rw [show min (i + 1) D.length = min i D.length + 1 by omega]; exact W_suc (by omega)
            have e4 : (D.take i).drop f ++ [D[i]] = (D.take (i + 1)).drop f := by
              rw [List.take_add_one, List.getElem?_eq_getElem h]
              show _ = (D.take i ++ [D[i]]).drop f
              rw [List.drop_append_of_le_length (by simp; omega)]
            simp only [hd2, cond_true, gi_lt h, Option.bind_some, e1, if_neg e2, Option.isSome_none, cond_false, kS, e3, e4]
          · have hd2 : decide ((i : Int) < (D.length : Int)) = false := by simp; omega
            simp only [hd2, cond_false, Option.bind_some, kS]
            rw [show min i D.length = min (i + 1) D.length by omega, List.take_of_length_le (by omega : D.length ≤ i), List.take_of_length_le (by omega : D.length ≤ i + 1)]
        rw [hsend]
        have hL1 : (D.take (i + 1)).length = min (i + 1) D.length := List.length_take
        have hcL : ∀ x ∈ D.take (i + 1), x.length ≤ capN := fun x hx => Nat.le_trans (hD x (List.mem_of_mem_take hx)) (by decide)
        have e2 := dFresh (n := n) (L := D.take (i + 1)) (w := wn) (f := f) (t := t) (by omega) (by rw [hL1]; omega) (by omega) (by rw [hL1]; omega) hcL (by rw [hL1]; omega) (by omega)
        rw [hL1] at e2
        rw [pkts_take (by omega : min (f + wn) (min (i + 1) D.length) ≤ i + 1)] at e2
        obtain ⟨t', ht'⟩ : ∃ t', t' = min (f + wn) (min (i + 1) D.length) := ⟨_, rfl⟩
        rw [← ht'] at e2
        have hlp := pkts_length D t t'
        have ha1 : ap [] fl = some fl := ap_ok (hcap _ (by simp; omega))
        have ha2 : ap fl (pkts D t t') = some (fl ++ pkts D t t') := ap_ok (hcap _ (by rw [hlp]; omega))
        have hF2 : (fl ++ pkts D t t').length ≤ 151 * i + 150 := by rw [List.length_append, hlp]; omega
        have hfm : Fl D t' (fl ++ pkts D t t') := Fl.app (hg.fm.mono (by omega)) Fl.of
        simp only [ha1, ha2, e2, Option.bind_some]
        generalize fl ++ pkts D t t' = fl2 at *
        have fin : ∀ (f want : Nat) (fl : List tPacket), f ≤ want → want ≤ t' → t' ≤ min (f + wn) (min (i + 1) D.length) → Fl D t' fl → fl.length ≤ 151 * (i + 1) →
            ∃ o : OS ⊕ OE, some (Sum.inl (((min (i + 1) D.length : Nat) : Int), ((i + 1 : Nat) : Int), (wn : Int), (f : Int), (t' : Int), (want : Int), D.take want, fl, (D.take (i + 1)).drop f)) = some o ∧
              (∀ s', o = .inl s' → OI wn (d.length + D.length) D s' ∧ d.length + D.length - s'.2.1.toNat < d.length + D.length - ((i : Nat) : Int).toNat) ∧ ∀ e, o = .inr e → OJ wn D e := fun f want fl a1 a2 a3 a4 a5 =>
          ⟨_, rfl, fun s' e => by cases e; exact ⟨⟨i + 1, f, t', want, fl, rfl, hlt, ⟨a1, a2, a3, a4, a5⟩⟩, by simp only [Int.toNat_natCast]; omega⟩, (fun e he => nomatch he)⟩
        by_cases hst : d.length ≤ i ∨ fl2 = []
        · have hx : (bif (decide ((i : Int) ≥ (d.length : Int))) then some true else some ((fl2.length : Int) == 0) : Option Bool) = some true := by
            by_cases h1 : d.length ≤ i
            · have : decide ((i : Int) ≥ (d.length : Int)) = true := by simp; omega
              rw [this]; rfl
            · have h2 : fl2 = [] := by rcases hst with h | h; · exact absurd h h1
                                       exact h
              have : decide ((i : Int) ≥ (d.length : Int)) = false := by simp; omega
              rw [this, h2]; rfl
          simp only [hx, cond_true, Option.bind_some, kS, hW]
          exact fin f want fl2 hg1 (by omega) (by omega) hfm (by omega)
        · have hil : i < d.length := by omega
          have hne : fl2 ≠ [] := fun e => hst (.inr e)
          have hfp : 0 < fl2.length := List.length_pos_iff.2 hne
          have hx : (bif (decide ((i : Int) ≥ (d.length : Int))) then some true else some ((fl2.length : Int) == 0) : Option Bool) = some false := by
            have h1 : decide ((i : Int) ≥ (d.length : Int)) = false := by simp; omega
            rw [h1]; simp only [cond_false]; congr 1; simpa using hne
          obtain ⟨ok1, ok2⟩ := hd _ (List.getElem_mem hil)
          obtain ⟨k, hk, hkl⟩ := dpick (n := n) ok2 hfp (by omega)
          obtain ⟨q, hq, hq5⟩ := dpick (n := n) ok1 (show 0 < 5 by decide) (by decide)
          have hq' : dlaw15_pick n d[i].What 5 = some (q : Int) := hq
          obtain ⟨kk, hkt, hkk⟩ := hfm _ (List.getElem_mem hkl)
          have hkD : kk < D.length := by omega
          have g1 : gsl fl2 0 (k : Int) = some (fl2.take k) := by have := gsl_nat fl2 (i := 0) (Nat.zero_le k) (by omega); simpa using this
          have hWk : W ((k : Int) + 1) = ((k + 1 : Nat) : Int) := W_suc (by omega)
          have g2 := gsl_from fl2 (i := k + 1) (by omega)
          have hb1 : ap [] (fl2.take k) = some (fl2.take k) := ap_ok (hcap _ (by simp; omega))
          have hb2 : ap (fl2.take k) (fl2.drop (k + 1)) = some (fl2.take k ++ fl2.drop (k + 1)) := ap_ok (hcap _ (by simp; omega))
          have hmem : Fl D t' (fl2.take k ++ fl2.drop (k + 1)) := fun p hp => by
            rcases List.mem_append.1 hp with hp | hp
            · exact hfm p (List.mem_of_mem_take hp)
            · exact hfm p (List.mem_of_mem_drop hp)
          have hlen : (fl2.take k ++ fl2.drop (k + 1)).length ≤ 151 * (i + 1) := by simp; omega
          simp only [hx, cond_false, gi_lt hil, hk, gi_lt hkl, hq', Option.bind_some, hkk]
          have hcases : q = 0 ∨ q = 1 ∨ q = 2 ∨ q = 3 ∨ q = 4 := by omega
          rcases hcases with rfl | rfl | rfl | rfl | rfl
          · have h0 : (((0 : Nat) : Int) == 0) = true := rfl
            have h1 : (((0 : Nat) : Int) == 1) = false := rfl
            simp only [h0, h1, cond_true, cond_false, Option.bind_some, dTakeD hD hkD (by omega)]
            by_cases hw2 : kk = want
            · subst hw2
              have hc1 : ap (D.take kk) [D.getD kk []] = some (D.take (kk + 1)) := by rw [ap_ok (hcap _ (by simp; omega)), take_want hkD]
              simp only [if_true, cond_true, hc1, Option.bind_some, g1, hWk, g2, hb1, hb2, kS, hW]
              exact fin f (kk + 1) _ (by omega) (by omega) (by omega) hmem hlen
            · simp only [if_neg hw2, cond_false, Option.bind_some, g1, hWk, g2, hb1, hb2, kS, hW]
              exact fin f want _ hg1 (by omega) (by omega) hmem hlen
          · have h0 : (((1 : Nat) : Int) == 0) = false := rfl
            have h1 : (((1 : Nat) : Int) == 1) = true := rfl
            simp only [h0, h1, cond_true, cond_false, Option.bind_some, dTakeD hD hkD (by omega)]
            by_cases hw2 : kk = want
            · subst hw2
              have hc1 : ap (D.take kk) [D.getD kk []] = some (D.take (kk + 1)) := by rw [ap_ok (hcap _ (by simp; omega)), take_want hkD]
              simp only [if_true, cond_true, hc1, Option.bind_some, g1, hWk, g2, hb1, hb2, kS, hW]
              exact fin f (kk + 1) _ (by omega) (by omega) (by omega) hmem hlen
            · simp only [if_neg hw2, cond_false, Option.bind_some, g1, hWk, g2, hb1, hb2, kS, hW]
              exact fin f want _ hg1 (by omega) (by omega) hmem hlen
          · have h0 : (((2 : Nat) : Int) == 0) = false := rfl
            have h1 : (((2 : Nat) : Int) == 1) = false := rfl
            have h2 : (((2 : Nat) : Int) == 2) = true := rfl
            simp only [h0, h1, h2, cond_true, cond_false, Option.bind_some, g1, hWk, g2, hb1, hb2, kS, hW]
            exact fin f want _ hg1 (by omega) (by omega) hmem hlen
          · have h0 : (((3 : Nat) : Int) == 0) = false := rfl
            have h1 : (((3 : Nat) : Int) == 1) = false := rfl
            have h2 : (((3 : Nat) : Int) == 2) = false := rfl
            have h3 : (((3 : Nat) : Int) == 3) = true := rfl
            have hc1 : ap [] fl2 = some fl2 := ap_ok (hcap _ (by simp; omega))
            have hc2 : ap fl2 [tPacket.mk (kk : Int) (D.getD kk [])] = some (fl2 ++ [tPacket.mk (kk : Int) (D.getD kk [])]) := ap_ok (hcap _ (by simp; omega))
            simp only [h0, h1, h2, h3, cond_true, cond_false, Option.bind_some, hc1, hc2]
            cases decide ((fl2.length : Int) < 300) with
            | true =>
              simp only [cond_true, Option.bind_some, kS, hW]
              exact fin f want _ hg1 (by omega) (by omega) (Fl.app hfm fun p hp => ⟨kk, hkt, by simpa using hp⟩) (by simp; omega)
            | false =>
              simp only [cond_false, Option.bind_some, kS, hW]
              exact fin f want _ hg1 (by omega) (by omega) hfm (by omega)
          · have h0 : (((4 : Nat) : Int) == 0) = false := rfl
            have h1 : (((4 : Nat) : Int) == 1) = false := rfl
            have h2 : (((4 : Nat) : Int) == 2) = false := rfl
            have h3 : (((4 : Nat) : Int) == 3) = false := rfl
            have ea := dAck (n := n) (L := D.take (i + 1)) (w := wn) (f := f) (t := t') (a := want) (by omega) (by rw [hL1]; omega) (by rw [hL1]; omega)
            rw [if_pos ⟨hg1, by omega⟩] at ea
            simp only [h0, h1, h2, h3, cond_true, cond_false, Option.bind_some, dWant, ea, kS, hW]
            exact fin want want _ (Nat.le_refl _) (by omega) (by omega) hfm (by omega)
      · have hd1 : decide ((i : Int) < ((d.length + D.length : Nat) : Int)) = false := by simp; omega
        simp only [hd1, cond_false]
        refine ⟨_, rfl, (fun s' e => nomatch e), fun e he => ?_⟩
        cases he
        have hmin : min i D.length = D.length := by omega
        refine ⟨f, t, want, ?_, hg.fw, hg.wt, by have := hg.tl; omega⟩
        rw [hmin, List.take_of_length_le (by omega : D.length ≤ i)]
    · rintro e ⟨f, t, want, rfl, h1, h2, h3⟩
      simp only [kS]
      have hDc : ∀ x ∈ D, x.length ≤ capN := fun x hx => Nat.le_trans (hD x hx) (by decide)
      refine loopD_exJ' (OI2 wn D) (fun s => D.length - s.1.toNat) (fun e => ∃ t : Int, e = ((wn : Int), (D.length : Int), t, D, [])) ⟨0, f, t, want, rfl, h1, h2, h3, Nat.zero_le _, by omega⟩ (by simp; omega) ?_ ?_
      · rintro s ⟨i, f, t, want, rfl, h1, h2, h3, h6, h7⟩
        by_cases hlt : i < D.length
        · have hd1 : decide ((i : Int) < (D.length : Int)) = true := by simpa using hlt
          obtain ⟨t', ht'⟩ : ∃ t', t' = min (f + wn) D.length := ⟨_, rfl⟩
          have e1 := dFresh (n := n) (L := D) (w := wn) (f := f) (t := t) (by omega) (by omega) (by omega) (by omega) hDc (by omega) (by omega)
          rw [← ht'] at e1
          have e2 := dAgain (n := n) (L := D) (w := wn) (f := f) (t := t') (by omega) (by omega) (by omega) hDc (by omega)
          have hlp := pkts_length D f t'
          have e3 := dAck (n := n) (L := D) (w := wn) (f := f) (t := t') (a := t') (by omega) (by omega) (by omega)
          rw [if_pos ⟨by omega, Nat.le_refl _⟩] at e3
          simp only [hd1, cond_true, e1, e2, Option.bind_some]
          have hloop := loopD_traj (e := ((t' : Int), D.take t')) (body := fun ((k3, r9, got10) : Int × Int × List Str) => (bif (decide (k3 < ((pkts D f t').length : Int))) then (((gi (pkts D f t') k3).bind fun b2 => (dlink_Receiver_Take n (tlinkReceiver.mk r9) b2).bind fun b3 => bif b3.2.1 then ((ap got10 [b3.1]).bind fun got14 => some (b3.2.2.Want, got14)) else some (b3.2.2.Want, got10) : Option (Int × (List Str))).bind fun (((r12, got13)) : Int × (List Str)) => some (Sum.inl (W (k3 + 1), r12, got13))) else some (Sum.inr (r9, got10))))
            (fun k => (((k : Nat) : Int), ((max want (f + k) : Nat) : Int), D.take (max want (f + k)))) (t' - f) (fun k hk => by
              have hd2 : decide ((k : Int) < ((pkts D f t').length : Int)) = true := by rw [hlp]; simp; omega
              have hk2 : k < (pkts D f t').length := by rw [hlp]; exact hk
              simp only [hd2, cond_true, gi_lt hk2, Option.bind_some, pkts_get D hk2, dTakeD hD (show f + k < D.length by omega) (by omega), W_suc (show k + 1 < 9223372036854775808 by omega)]
              by_cases hw2 : want ≤ f + k
              · have hm : max want (f + k) = f + k := by omega
                have hm2 : max want (f + (k + 1)) = f + k + 1 := by omega
                have hc1 : ap (D.take (f + k)) [D.getD (f + k) []] = some (D.take (f + k + 1)) := by rw [ap_ok (hcap _ (by simp; omega)), take_want (by omega)]
                simp only [hm, hm2, if_true, cond_true, hc1, Option.bind_some]
              · have hm : max want (f + k) = want := by omega
                have hm2 : max want (f + (k + 1)) = want := by omega
                simp only [hm, hm2, if_neg (show ¬ f + k = want by omega), cond_false, Option.bind_some]) (by
              have hd2 : decide (((t' - f : Nat) : Int) < ((pkts D f t').length : Int)) = false := by rw [hlp]; simp
              have hm : max want (f + (t' - f)) = t' := by omega
              simp only [hd2, cond_false, hm]) n (by omega)
          have h00 : ((((0 : Nat) : Int), ((max want (f + 0) : Nat) : Int), D.take (max want (f + 0))) : Int × Int × List Str) = (0, (want : Int), D.take want) := by
            rw [show max want (f + 0) = want by omega]; rfl
          rw [h00] at hloop
          refine ⟨Sum.inl (((i + 1 : Nat) : Int), (wn : Int), (t' : Int), (t' : Int), (t' : Int), D.take t', D.drop t'), (congrArg (fun o => Option.bind o _) hloop).trans (by simp only [Option.bind_some, dWant, e3, W_suc (show i + 1 < 9223372036854775808 by omega)]), fun s' e => by
            cases e
            exact ⟨⟨i + 1, t', t', t', rfl, Nat.le_refl _, Nat.le_refl _, by omega, hlt, by omega⟩, by simp only [Int.toNat_natCast]; omega⟩, (fun e he => nomatch he)⟩
        · have hd1 : decide ((i : Int) < (D.length : Int)) = false := by simp; omega
          simp only [hd1, cond_false]
          refine ⟨_, rfl, (fun s' e => nomatch e), fun e he => ?_⟩
          cases he
          have hf : f = D.length := by omega
          have hwt : want = D.length := by omega
          refine ⟨(t : Int), ?_⟩
          rw [hf, hwt, List.take_length, List.drop_length]
      · rintro e ⟨t2, rfl⟩
        have hz : ((D.length : Int) != (D.length : Int)) = false := by simp
        have hz2 : (((([] : List Str).length : Nat) : Int) != 0) = false := rfl
        simp only [hz, hz2, cond_false, dLen, Option.bind_some]
        have hloop := loopD_traj (e := (.inl () : Unit ⊕ Bool)) (body := fun (i5 : Int) => (bif (decide (i5 < (D.length : Int))) then ((gi D i5).bind fun x18 => (gi D i5).bind fun x19 => bif (!(x18 == x19)) then some (Sum.inr (Sum.inr false)) else some (Sum.inl (W (i5 + 1)))) else some (Sum.inr (Sum.inl ()))))
          (fun k => ((k : Nat) : Int)) D.length (fun k hk => by
            have hd2 : decide ((k : Int) < (D.length : Int)) = true := by simpa using hk
            have : (!(D[k] == D[k])) = false := by simp
            simp only [hd2, cond_true, gi_lt hk, Option.bind_some, this, cond_false, W_suc (show k + 1 < 9223372036854775808 by omega)]) (by simp) n (by omega)
        exact ⟨true, (congrArg (fun o => Option.bind o _) hloop).trans rfl, rfl⟩
theorem LinkOnce_c {w : Int} {D : List Str} {d : List tlaw15Deed} (hw : okI .i64 w) (hD : okLs okS D) (hd : okLs ok_tlaw15Deed d)
    (hb : bkL [.int .i64 w, .sl (D.map (cL cU8)), .sl (d.map c_tlaw15Deed)] ≤ 1048576) : PCall Try.prog 4 [.int .i64 w, .sl (D.map (cL cU8)), .sl (d.map c_tlaw15Deed)] (· = .bool true) := by
  have h1 : ∀ l : List Str, ∀ x ∈ l, x.length ≤ bkLL (l.map (cL cU8)) := fun l => by
    have hs : ∀ x : Str, x.length ≤ bkLL (x.map cU8) := fun x => by
      induction x with
      | nil => exact Nat.zero_le _
      | cons c x ih => simp only [List.map_cons, List.length_cons, bkLL, cU8, bkL, AV.bk]; omega
    induction l with
    | nil => exact fun _ h => nomatch h
    | cons y l ih =>
      intro x hx
      simp only [List.map_cons, bkLL, cL, bkL, AV.bk]
      rcases List.mem_cons.1 hx with rfl | hx
      · have := hs x; omega
      · have := ih x hx; omega
  have h2 := h1 D
  simp only [bkL, AV.bk] at hb
  obtain ⟨n, h⟩ := (LinkOnce_e w D d (fun x hx => ⟨(hd.2 x hx).1, (hd.2 x hx).2.1⟩) (fun x hx => by have := h2 x hx; omega)).get
  exact dlaw15_LinkOnce_l h
end Go.Proofs.Ytaekecbadkcggaa
