/- Layer 10, plainly: what was put is got as it was. -/
import Derived.Test.YtaekecbadkcggaaE10b
namespace Go.Proofs.Ytaekecbadkcggaa
open Go.Pv
set_option linter.unusedSimpArgs false
set_option linter.unusedVariables false
set_option linter.unusedSectionVars false
set_option maxRecDepth 100000

theorem prKind : Pr sKind vi (fun u => 1 ≤ u ∧ u ≤ 4) where
  bad := fun c => rfl
  get := fun u r hu => by
    have := (prNum (most := 4) (by decide)).get u r hu.2
    unfold sKind
    rw [this]; simp only
    rw [if_neg (by omega)]
  cut := fun u k hu hk => by
    have := (prNum (most := 4) (by decide)).cut u k hu.2 hk
    unfold sKind
    simp only [this]
    split <;> rfl
  back := fun b r u h => by
    unfold sKind at h
    simp only [Prod.mk.injEq] at h
    obtain ⟨h1, h2⟩ := h
    by_cases h0 : (sNum 4 (.inl b)).1 = 0
    · rw [if_pos h0] at h2
      cases hs : (sNum 4 (.inl b)).2 <;> rw [hs] at h2 <;> cases h2
    · rw [if_neg h0] at h2
      have := (prNum (most := 4) (by decide)).back b r u (Prod.ext h1 h2)
      exact ⟨⟨by omega, this.1⟩, this.2⟩
/-- What stands behind a message's kind. -/
def body (m : tMsg) : Str := if m.Kind = 1 then vi m.Sub.toNat ++ (vi m.Version.toNat ++ (vi m.Home.toNat ++ (vi (zz m.Rect.X1) ++ (vi (zz m.Rect.Y1) ++ (vi (zz m.Rect.X2) ++ (vi (zz m.Rect.Y2) ++ tx m.Filter))))))
  else if m.Kind = 2 then vi m.Sub.toNat ++ vi m.Version.toNat else if m.Kind = 4 then vi m.Sub.toNat ++ ews m.Event else ews m.Event
def fewP (z : Int) : Prop := 0 ≤ z ∧ z ≤ 2147483647
def V1 (m : tMsg) : Prop := m.Kind = 1 ∧ fewP m.Sub ∧ fewP m.Version ∧ fewP m.Home ∧ (i64 m.Rect.X1 ∧ i64 m.Rect.Y1 ∧ i64 m.Rect.X2 ∧ i64 m.Rect.Y2) ∧ m.Filter.length ≤ 500 ∧ m.Event = noEvt
def V2 (m : tMsg) : Prop := m.Kind = 2 ∧ fewP m.Sub ∧ fewP m.Version ∧ m.Home = 0 ∧ m.Rect = noRect ∧ m.Filter = [] ∧ m.Event = noEvt
def V4 (m : tMsg) : Prop := m.Kind = 4 ∧ fewP m.Sub ∧ m.Version = 0 ∧ m.Home = 0 ∧ m.Rect = noRect ∧ m.Filter = [] ∧ EvV m.Event
def V3 (k : Nat) (m : tMsg) : Prop := m.Kind = (k : Int) ∧ m.Sub = 0 ∧ m.Version = 0 ∧ m.Home = 0 ∧ m.Rect = noRect ∧ m.Filter = [] ∧ EvV m.Event
theorem prI31 : Pr (sNum 2147483647) vi (· ≤ 2147483647) := prNum (by decide)
theorem tn {z : Int} (h : fewP z) : ((z.toNat : Nat) : Int) = z := by unfold fewP at h; omega
theorem prM1 : Pr m1 body V1 := by
  refine ((prI31.seq (f := fun _ s => (((sNum 2147483647 s).1, _), _)) (fun _ _ => prI31.seq (f := fun _ s => (((sNum 2147483647 s).1, _), _))
    (fun _ _ => prI31.seq (f := fun _ s => (((sSigned s).1, _), _)) (fun _ _ => prSigned.seq (f := fun _ s => (((sSigned s).1, _), _)) (fun _ _ => prSigned.seq (f := fun _ s => (((sSigned s).1, _), _))
      (fun _ _ => prSigned.seq (f := fun _ s => (((sSigned s).1, _), _)) (fun _ _ => prSigned.seq (f := fun _ s => sText 500 s) (fun _ _ => prText (by decide)) (fun _ _ => rfl)) (fun _ _ => rfl)) (fun _ _ => rfl)) (fun _ _ => rfl)) (fun _ _ => rfl)) (fun _ _ => rfl)) (fun _ _ => rfl)).map
    (fun x => (⟨1, (x.1 : Int), (x.2.1 : Int), (x.2.2.1 : Int), ⟨x.2.2.2.1, x.2.2.2.2.1, x.2.2.2.2.2.1, x.2.2.2.2.2.2.1⟩, x.2.2.2.2.2.2.2, noEvt⟩ : tMsg))
    (fun m => (m.Sub.toNat, m.Version.toNat, m.Home.toNat, m.Rect.X1, m.Rect.Y1, m.Rect.X2, m.Rect.Y2, m.Filter)) body V1 (fun m hm => ?_) (fun x hx => ?_)).congr fun s => rfl
  · obtain ⟨h1, h2, h3, h4, ⟨h5, h6, h7, h8⟩, h9, h10⟩ := hm
    have e2 := tn h2; have e3 := tn h3; have e4 := tn h4
    obtain ⟨k, s, v, h, ⟨x1, y1, x2, y2⟩, f, e⟩ := m
    simp only at *
    subst h1 h10
    unfold fewP at h2 h3 h4
    exact ⟨⟨by omega, by omega, by omega, h5, h6, h7, h8, h9⟩, by rw [e2, e3, e4], rfl⟩
  · obtain ⟨s, v, h, x1, y1, x2, y2, f⟩ := x
    obtain ⟨h2, h3, h4, h5, h6, h7, h8, h9⟩ := hx
    simp only at h2 h3 h4 h5 h6 h7 h8 h9
    exact ⟨⟨rfl, ⟨by simp only; omega, by simp only; omega⟩, ⟨by simp only; omega, by simp only; omega⟩, ⟨by simp only; omega, by simp only; omega⟩, ⟨h5, h6, h7, h8⟩, h9, rfl⟩, rfl⟩
theorem prM2 : Pr m2 body V2 := by
  refine ((prI31.seq (f := fun _ s => sNum 2147483647 s) (fun _ _ => prI31) (fun _ _ => rfl)).map
    (fun x => (⟨2, (x.1 : Int), (x.2 : Int), 0, noRect, [], noEvt⟩ : tMsg)) (fun m => (m.Sub.toNat, m.Version.toNat)) body V2 (fun m hm => ?_) (fun x hx => ?_)).congr fun s => rfl
  · obtain ⟨h1, h2, h3, h4, h5, h6, h7⟩ := hm
    have e2 := tn h2; have e3 := tn h3
    obtain ⟨k, s, v, h, r, f, e⟩ := m
    simp only at *
    subst h1 h4 h5 h6 h7
    unfold fewP at h2 h3
    exact ⟨⟨by omega, by omega⟩, by rw [e2, e3], rfl⟩
  · obtain ⟨s, v⟩ := x
    obtain ⟨h2, h3⟩ := hx
    simp only at h2 h3
    exact ⟨⟨rfl, ⟨by simp only; omega, by simp only; omega⟩, ⟨by simp only; omega, by simp only; omega⟩, rfl, rfl, rfl, rfl⟩, rfl⟩
theorem prM4 : Pr m4 body V4 := by
  refine ((prI31.seq (f := fun _ s => sEvent s) (fun _ _ => prEvent) (fun _ c => prEvent.bad c)).map
    (fun x => (⟨4, (x.1 : Int), 0, 0, noRect, [], x.2⟩ : tMsg)) (fun m => (m.Sub.toNat, m.Event)) body V4 (fun m hm => ?_) (fun x hx => ?_)).congr fun s => rfl
  · obtain ⟨h1, h2, h3, h4, h5, h6, h7⟩ := hm
    have e2 := tn h2
    obtain ⟨k, s, v, h, r, f, e⟩ := m
    simp only at *
    subst h1 h3 h4 h5 h6
    unfold fewP at h2
    exact ⟨⟨by omega, h7⟩, by rw [e2], rfl⟩
  · obtain ⟨s, e⟩ := x
    obtain ⟨h2, h3⟩ := hx
    simp only at h2 h3
    exact ⟨⟨rfl, ⟨by simp only; omega, by simp only; omega⟩, rfl, rfl, rfl, rfl, h3⟩, rfl⟩
theorem prM3 {k : Nat} (hk : k = 3) : Pr (m3 k) body (V3 k) := by
  subst hk
  refine (prEvent.map (fun e => (⟨3, 0, 0, 0, noRect, [], e⟩ : tMsg)) (fun m => m.Event) body (V3 3) (fun m hm => ?_) (fun e he => ?_)).congr fun s => rfl
  · obtain ⟨h1, h2, h3, h4, h5, h6, h7⟩ := hm
    obtain ⟨k, s, v, h, r, f, e⟩ := m
    simp only at *
    subst h1 h2 h3 h4 h5 h6
    exact ⟨h7, rfl, rfl⟩
  · exact ⟨⟨rfl, rfl, rfl, rfl, rfl, rfl, he⟩, rfl⟩
def VK (k : Nat) (m : tMsg) : Prop := if k = 1 then V1 m else if k = 2 then V2 m else if k = 4 then V4 m else V3 k m
theorem VK_kind {k : Nat} {m : tMsg} (h : VK k m) : m.Kind = (k : Int) := by
  unfold VK at h
  split at h
  · rename_i e; subst e; exact h.1
  · split at h
    · rename_i e; subst e; exact h.1
    · split at h
      · rename_i e; subst e; exact h.1
      · exact h.1
theorem prM {k : Nat} (hk : 1 ≤ k ∧ k ≤ 4) : Pr (sMsg k) body (VK k) := by
  rcases (by omega : k = 1 ∨ k = 2 ∨ k = 3 ∨ k = 4) with rfl | rfl | rfl | rfl
  · exact prM1
  · exact prM2
  · exact prM3 rfl
  · exact prM4
theorem sMsg_bad (k : Nat) (c : Int) : (sMsg k (.inr c)).2 = .inr c := by
  unfold sMsg; split
  · rfl
  · split
    · rfl
    · split
      · exact prEvent.bad c
      · exact prEvent.bad c
/-- A kind and its message, one behind the other. -/
theorem prAll : Pr (fun s => (((sKind s).1, (sMsg (sKind s).1 (sKind s).2).1), (sMsg (sKind s).1 (sKind s).2).2)) (fun x => vi x.1 ++ body x.2) (fun x => (1 ≤ x.1 ∧ x.1 ≤ 4) ∧ VK x.1 x.2) :=
  prKind.seq (fun _ hk => prM hk) sMsg_bad
theorem mws_eq {m : tMsg} {k : Nat} (h : m.Kind = (k : Int)) (hk : k ≤ 4) : mws m = vi k ++ body m := by
  rw [vi_lt (by omega)]
  unfold mws body
  rw [h]; rfl
theorem atV_of {a : tAttr} (h : atB a = true) (hn : i64 a.N) : AtV a := by
  unfold atB at h
  obtain ⟨nm, t, n, s⟩ := a
  cases t <;> simp at h
  · exact ⟨by simp only; omega, h.2.2, hn⟩
  · exact ⟨by simp only; omega, h.2.2, by simp only; omega⟩
theorem evV_of {m : tMsg} (hi : MsgI m) (h : evB m.Event = true) : EvV m.Event := by
  have hs := hi.seq
  have hx := hi.x
  have hy := hi.y
  unfold evB at h
  simp only [Bool.and_eq_true, decide_eq_true_eq, List.all_eq_true] at h
  obtain ⟨h1, h2, h3, h4⟩ := h
  have h1 := fewB_of h1
  exact ⟨h1, by omega, hx, hy, by omega, fun a ha => atV_of (h4 a ha) (hi.n a ha)⟩
theorem bareB_of {m : tMsg} (h : bareB m = true) : m.Home = 0 ∧ m.Rect = noRect ∧ m.Filter = [] := by
  unfold bareB at h
  obtain ⟨k, s, v, hm, ⟨x1, y1, x2, y2⟩, f, e⟩ := m
  simp only [Bool.and_eq_true, beq_iff_eq, and_true] at h
  obtain ⟨h1, ⟨h2, h3, h4, h5⟩, h6⟩ := h
  subst h2 h3 h4 h5
  exact ⟨h1, rfl, h6⟩
theorem VK_of {m : tMsg} (hi : MsgI m) (h : msgB m = true) : ∃ k, (1 ≤ k ∧ k ≤ 4) ∧ VK k m := by
  obtain ⟨f1, f2, f3, f4⟩ := msgB_few h
  rcases msgB_kind h with ⟨hk, hr, he⟩ | ⟨hk, hb, he⟩ | ⟨hk, hb, hs, hv, he⟩ | ⟨hk, hb, hv, he⟩
  · exact ⟨1, by omega, hk, f1, f2, f3, ⟨hi.x1, hi.y1, hi.x2, hi.y2⟩, f4, noEv he⟩
  · obtain ⟨h1, h2, h3⟩ := bareB_of hb
    exact ⟨2, by omega, hk, f1, f2, h1, h2, h3, noEv he⟩
  · obtain ⟨h1, h2, h3⟩ := bareB_of hb
    exact ⟨3, by omega, hk, hs, hv, h1, h2, h3, evV_of hi he⟩
  · obtain ⟨h1, h2, h3⟩ := bareB_of hb
    exact ⟨4, by omega, hk, f1, hv, h1, h2, h3, evV_of hi he⟩
theorem sGet_put {m : tMsg} (hi : MsgI m) (h : msgB m = true) : sGet (mws m) = .inl m := by
  obtain ⟨k, hk, hv⟩ := VK_of hi h
  have := prAll.get (k, m) [] ⟨hk, hv⟩
  simp only [Prod.mk.injEq, List.append_nil] at this
  obtain ⟨⟨h1, h2⟩, h3⟩ := this
  unfold sGet
  rw [mws_eq (VK_kind hv) hk.2, h2, h3]
  simp [gOut, h]
theorem sGet_cut {m : tMsg} (hi : MsgI m) (h : msgB m = true) {j : Nat} (hj : j < (mws m).length) : sGet ((mws m).take j) = .inr 6 := by
  obtain ⟨k, hk, hv⟩ := VK_of hi h
  rw [mws_eq (VK_kind hv) hk.2] at hj ⊢
  have := prAll.cut (k, m) j ⟨hk, hv⟩ hj
  simp only at this
  unfold sGet
  rw [this]; rfl
theorem sGet_more {m : tMsg} (hi : MsgI m) (h : msgB m = true) (x : UInt8) : sGet (mws m ++ [x]) = .inr 7 := by
  obtain ⟨k, hk, hv⟩ := VK_of hi h
  have := prAll.get (k, m) [x] ⟨hk, hv⟩
  simp only [Prod.mk.injEq] at this
  obtain ⟨⟨h1, h2⟩, h3⟩ := this
  unfold sGet
  rw [mws_eq (VK_kind hv) hk.2, h3]
  simp [gOut]
theorem sGet_back {b : Str} {m : tMsg} (h : sGet b = .inl m) : msgB m = true ∧ mws m = b ∧ ∃ k, VK k m := by
  have hb := sGet_may h
  refine ⟨hb, ?_⟩
  unfold sGet at h
  cases hs : (sMsg (sKind (.inl b)).1 (sKind (.inl b)).2).2 with
  | inr c => rw [hs] at h; cases h
  | inl r =>
    rw [hs] at h
    simp only [gOut] at h
    split at h
    · rename_i hh
      obtain ⟨hr, _⟩ := hh
      subst hr
      have e := Sum.inl.inj h
      obtain ⟨⟨hk, hv⟩, hb⟩ := prAll.back b [] (_, m) (Prod.ext (Prod.ext rfl e) hs)
      exact ⟨by rw [mws_eq (VK_kind hv) hk.2]; simpa using hb.symm, _, hv⟩
    · cases h
theorem msgI_V {m : tMsg} {k : Nat} (h : VK k m) : MsgI m := by
  have hz := i64_0
  have hev : EvV m.Event → (0 ≤ m.Event.Seq ∧ m.Event.Seq < 4294967296) ∧ i64 m.Event.At.X ∧ i64 m.Event.At.Y ∧ ∀ a ∈ m.Event.Attrs, i64 a.N := fun h => ⟨by have := h.2.1; omega, h.2.2.1, h.2.2.2.1, fun a ha => by
    have := (h.2.2.2.2.2 a ha).2
    split at this
    · rw [this.1]; exact hz
    · exact this.2⟩
  unfold VK at h
  split at h
  · obtain ⟨h1, h2, h3, h4, ⟨h5, h6, h7, h8⟩, h9, h10⟩ := h
    exact ⟨h5, h6, h7, h8, by rw [h10]; exact hz, by rw [h10]; exact hz, by rw [h10]; decide, by rw [h10]; exact fun _ h => nomatch h⟩
  · split at h
    · obtain ⟨h1, h2, h3, h4, h5, h6, h10⟩ := h
      exact ⟨by rw [h5]; exact hz, by rw [h5]; exact hz, by rw [h5]; exact hz, by rw [h5]; exact hz, by rw [h10]; exact hz, by rw [h10]; exact hz, by rw [h10]; decide, by rw [h10]; exact fun _ h => nomatch h⟩
    · split at h
      · obtain ⟨h1, h2, h3, h4, h5, h6, h10⟩ := h
        obtain ⟨e1, e2, e3, e4⟩ := hev h10
        exact ⟨by rw [h5]; exact hz, by rw [h5]; exact hz, by rw [h5]; exact hz, by rw [h5]; exact hz, e2, e3, e1, e4⟩
      · obtain ⟨h1, h2, h3, h4, h5, h6, h10⟩ := h
        obtain ⟨e1, e2, e3, e4⟩ := hev h10
        exact ⟨by rw [h5]; exact hz, by rw [h5]; exact hz, by rw [h5]; exact hz, by rw [h5]; exact hz, e2, e3, e1, e4⟩
theorem vi_pos (u : Nat) : 0 < (vi u).length := by
  by_cases h : u < 128
  · rw [vi_lt h]; simp
  · rw [vi_ge h]; simp
theorem ews_len {e : tEvent} (h : EvOk e) : (ews e).length ≤ 7000 := by
  have h1 := vi_len64 (u := e.Pub.toNat) (by have := h.pub; omega)
  have h2 := vi_len64 (u := e.Seq.toNat) (by have := h.seq; omega)
  have h3 := vi_len64 (zz_lt h.x)
  have h4 := vi_len64 (zz_lt h.y)
  have h5 := vi_len64 (u := e.Attrs.length) (by have := h.len; omega)
  have h6 := avs_len h.at_
  have := h.len
  unfold ews; simp; omega
theorem mws_len {m : tMsg} (hi : MsgI m) (h : msgB m = true) : (mws m).length ≤ 10000 := by
  obtain ⟨f1, f2, f3, f4⟩ := msgB_few h
  have h1 := vi_len64 (nat_lt f1)
  have h2 := vi_len64 (nat_lt f2)
  have h3 := vi_len64 (nat_lt f3)
  have x1 := vi_len64 (zz_lt hi.x1)
  have y1 := vi_len64 (zz_lt hi.y1)
  have x2 := vi_len64 (zz_lt hi.x2)
  have y2 := vi_len64 (zz_lt hi.y2)
  have ht := tx_len (s := m.Filter) (by omega)
  have hev : m.Kind ≠ 1 → m.Kind ≠ 2 → (ews m.Event).length ≤ 7000 := by
    intro n1 n2
    rcases msgB_kind h with ⟨hk, _⟩ | ⟨hk, _⟩ | ⟨hk, _, _, _, he⟩ | ⟨hk, _, _, he⟩
    · exact absurd hk n1
    · exact absurd hk n2
    · exact ews_len (evOk_of hi he)
    · exact ews_len (evOk_of hi he)
  unfold mws
  split
  · simp; omega
  · split
    · simp; omega
    · split
      · have := hev (by assumption) (by assumption)
        simp; omega
      · have := hev (by assumption) (by assumption)
        simp; omega
theorem sGet_len {b : Str} {m : tMsg} (h : sGet b = .inl m) : m.Event.Attrs.length ≤ 16 := by
  unfold sGet gOut at h
  split at h
  · cases h
  · split at h
    · cases h; exact m_len _ _
    · cases h
/-- What is read, behind what was put. -/
theorem back_b {n : Nat} {b : Str} (hn : b.length + 2000 ≤ n) : ((dwire_Get n b).bind fun f2 => bif f2.2.isSome then ((bif true then some (f2.1.Kind == 0) else some false : Option Bool).bind fun (x6 : Bool) => some x6) else ((dwire_Put n f2.1).bind fun y1 => bif true then (bif y1.2.isNone then some (y1.1 == b) else some false) else some false)) = some true := by
  rw [dGet (by omega) (by omega), Option.bind_some]
  cases hs : sGet b with
  | inr c => rfl
  | inl m =>
    obtain ⟨hm, hw, k, hv⟩ := sGet_back hs
    have hl := sGet_len hs
    simp only [getC, Option.isSome_none, cond_false, cond_true]
    rw [dPut (msgI_V hv) (Nat.le_trans hl (by decide)) (by omega) (by omega) hm, Option.bind_some, hw]
    simp
theorem WireBack_e (m : tMsg) (b : Str) (cut : Int) (hi : MsgI m) (hl : m.Event.Attrs.length ≤ maxLen) (hc : cut < 9223372036854775808) : Ev fun n => dlaw10_WireBack n m b cut = some true := by
  refine (up10.big (m.Event.Attrs.length + b.length + (mws m).length + 2000)).mono fun n hh => ?_
  obtain ⟨hn, hup⟩ := hh
  obtain ⟨b1, hb1⟩ := drSmall (n := n) m hl (by omega)
  unfold dlaw10_WireBack
  rw [hup, hb1]
  simp only [Option.bind_some]
  have hx : (bif (!b1) then some true else (bif (decide ((b.length : Int) > 5000)) then some true else some (decide (cut < 0))) : Option Bool) = some (!b1 || (decide ((b.length : Int) > 5000) || decide (cut < 0))) := by cases b1 <;> cases decide ((b.length : Int) > 5000) <;> rfl
  rw [hx, Option.bind_some]
  cases hg : (!b1 || (decide ((b.length : Int) > 5000) || decide (cut < 0))) with
  | true => rfl
  | false =>
    have hc0 : 0 ≤ cut := by
      simp only [Bool.or_eq_false_iff, decide_eq_false_iff_not] at hg; omega
    have hb := back_b (n := n) (b := b) (by omega)
    simp only [cond_false]
    cases hM : msgB m with
    | false =>
      rw [dPutNo hl (by omega) hM]
      simp only [Option.bind_some, Option.isNone_some, cond_false, kS]
      exact hb
    | true =>
      rw [dPut hi hl (by omega) (by omega) hM]
      have hlen := mws_len hi hM
      have hpos : 0 < (mws m).length := by unfold mws; simp
      have hq : remV .i64 cut ((mws m).length : Int) = some (((cut.toNat % (mws m).length : Nat)) : Int) := by
        unfold remV
        rw [if_neg (by omega)]
        congr 1
        have : cut = ((cut.toNat : Nat) : Int) := by omega
        rw [this]; simp only [Int.toNat_natCast]; exact (Int.ofNat_tmod _ _)
      have hj : cut.toNat % (mws m).length < (mws m).length := Nat.mod_lt _ hpos
      have hg1 : gsl (mws m) 0 ((cut.toNat % (mws m).length : Nat) : Int) = some ((mws m).take (cut.toNat % (mws m).length)) := by
        have := gsl_nat (mws m) (i := 0) (j := cut.toNat % (mws m).length) (Nat.zero_le _) (by omega)
        simpa using this
      have hcap : (10001 : Nat) ≤ capN := by decide
      have ha1 : ap [] (mws m) = some (mws m) := by have := ap_ok (a := ([] : Str)) (b := mws m) (by simp; omega); simpa using this
      have ha2 : ap (mws m) [0] = some (mws m ++ [0]) := ap_ok (by simp; omega)
      have hlz : (((mws m).length : Int) == 0) = false := beq_false_of_ne (by omega)
      simp only [Option.bind_some, Option.isNone_none, cond_true, dGet (show (mws m).length < n by omega) (show 100 < n by omega), sGet_put hi hM, getC, Option.isSome_none, cond_false, dSame m m hl (show m.Event.Attrs.length < n by omega), eqM_refl, Bool.not_true, hlz, hq, hg1, ha1, ha2,
        dGet (show ((mws m).take (cut.toNat % (mws m).length)).length < n by simp; omega) (show 100 < n by omega), dGet (show (mws m ++ [0]).length < n by simp; omega) (show 100 < n by omega), sGet_cut hi hM hj, sGet_more hi hM, beq_self_eq_true, kS]
      exact hb
theorem WireBack_c {m : tMsg} {b : Str} {cut : Int} (h1 : ok_tMsg m) (h2 : okS b) (h3 : okI .i64 cut) : PCall Try.prog 9 [.agg (c_tMsg m), .sl (b.map cU8), .int .i64 cut] (· = .bool true) := by
  obtain ⟨n, h⟩ := (WireBack_e m b cut (msgI_of h1).1 (msgI_of h1).2 (okI64' h3).2).get
  exact dlaw10_WireBack_l h
end Go.Proofs.Ytaekecbadkcggaa
