/- Layer 10, plainly: what bytes are read as, or why they are no message. -/
import Derived.Test.YtaekecbadkcggaaE10p
import Derived.Test.YtaekecbadkcggaaE10g
namespace Go.Proofs.Ytaekecbadkcggaa
open Go.Pv
set_option linter.unusedSimpArgs false
set_option linter.unusedVariables false
set_option linter.unusedSectionVars false
set_option maxRecDepth 100000

def noEvt : tEvent := ⟨0, 0, ⟨0, 0⟩, []⟩
def noRect : tRect := ⟨0, 0, 0, 0⟩
def noMsg : tMsg := ⟨0, 0, 0, 0, ⟨0, 0, 0, 0⟩, [], ⟨0, 0, ⟨0, 0⟩, []⟩⟩
def bad7 : RS → RS
  | .inl _ => .inr 7
  | .inr c => .inr c
def sKind (s : RS) : Nat × RS := ((sNum 4 s).1, if (sNum 4 s).1 = 0 then bad7 (sNum 4 s).2 else (sNum 4 s).2)
def b1 (s : RS) := sNum 2147483647 s
def b2 (s : RS) := sNum 2147483647 (b1 s).2
def b3 (s : RS) := sNum 2147483647 (b2 s).2
def b4 (s : RS) := sSigned (b3 s).2
def b5 (s : RS) := sSigned (b4 s).2
def b6 (s : RS) := sSigned (b5 s).2
def b7 (s : RS) := sSigned (b6 s).2
def b8 (s : RS) := sText 500 (b7 s).2
def m1 (s : RS) : tMsg × RS := (⟨1, ((b1 s).1 : Int), ((b2 s).1 : Int), ((b3 s).1 : Int), ⟨(b4 s).1, (b5 s).1, (b6 s).1, (b7 s).1⟩, (b8 s).1, ⟨0, 0, ⟨0, 0⟩, []⟩⟩, (b8 s).2)
def m2 (s : RS) : tMsg × RS := (⟨2, ((b1 s).1 : Int), ((b2 s).1 : Int), 0, ⟨0, 0, 0, 0⟩, [], ⟨0, 0, ⟨0, 0⟩, []⟩⟩, (b2 s).2)
def m4 (s : RS) : tMsg × RS := (⟨4, ((b1 s).1 : Int), 0, 0, ⟨0, 0, 0, 0⟩, [], (sEvent (b1 s).2).1⟩, (sEvent (b1 s).2).2)
def m3 (k : Nat) (s : RS) : tMsg × RS := (⟨(k : Int), 0, 0, 0, ⟨0, 0, 0, 0⟩, [], (sEvent s).1⟩, (sEvent s).2)
def sMsg (k : Nat) (s : RS) : tMsg × RS := if k = 1 then m1 s else if k = 2 then m2 s else if k = 4 then m4 s else m3 k s
/-- What is told at the end. -/
def gOut (m : tMsg) : RS → tMsg ⊕ Int
  | .inr c => .inr c
  | .inl b => if b = [] ∧ msgB m = true then .inl m else .inr 7
def sGet (b : Str) : tMsg ⊕ Int := gOut (sMsg (sKind (.inl b)).1 (sKind (.inl b)).2).1 (sMsg (sKind (.inl b)).1 (sKind (.inl b)).2).2
/-- Errors are 6, or 7. -/
def ok67 : RS → Prop
  | .inl _ => True
  | .inr c => c = 6 ∨ c = 7
theorem ok_rn {most : Nat} : ∀ (b : Str) (i u : Nat) (c : Int), rnG most i u b = .inr c → c = 6 ∨ c = 7
  | [], _, _, c, h => by cases h; exact .inl rfl
  | x :: t, i, u, c, h => by
    rw [rnG] at h
    split at h
    · cases h; exact .inr rfl
    · split at h
      · split at h
        · cases h; exact .inr rfl
        · cases h
      · exact ok_rn t _ _ _ h
theorem ok_num {most : Nat} {s : RS} (h : ok67 s) : ok67 (sNum most s).2 := by
  cases s with
  | inr c => exact h
  | inl b =>
    simp only [sNum]
    cases hr : rnG most 0 0 b with
    | inl p => trivial
    | inr c => exact ok_rn _ _ _ _ hr
theorem ok_signed {s : RS} (h : ok67 s) : ok67 (sSigned s).2 := ok_num h
theorem ok_text {most : Nat} {s : RS} (h : ok67 s) : ok67 (sText most s).2 := by
  have := ok_num (most := most) h
  unfold sText
  cases hs : sNum most s with
  | mk u s1 =>
    rw [hs] at this
    cases s1 with
    | inr c => exact this
    | inl b =>
      simp only
      split
      · exact .inl rfl
      · trivial
theorem ok_attr {s : RS} (h : ok67 s) : ok67 (sAttr s).2 := by
  unfold sAttr; split
  · exact ok_text (ok_num (ok_text h))
  · exact ok_signed (ok_num (ok_text h))
theorem ok_attrs : ∀ (k : Nat) {s : RS}, ok67 s → ok67 (sAttrs k s).2
  | 0, _, h => h
  | k + 1, _, h => by rw [sAttrs]; exact ok_attrs k (ok_attr h)
theorem ok_event {s : RS} (h : ok67 s) : ok67 (sEvent s).2 := ok_attrs _ (ok_num (ok_signed (ok_signed (ok_num (ok_num h)))))
theorem ok_kind {s : RS} (h : ok67 s) : ok67 (sKind s).2 := by
  have := ok_num (most := 4) h
  unfold sKind; simp only
  split
  · cases hs : (sNum 4 s).2 with
    | inl b => exact .inr rfl
    | inr c => rw [hs] at this; exact this
  · exact this
theorem ok_msg {k : Nat} {s : RS} (h : ok67 s) : ok67 (sMsg k s).2 := by
  unfold sMsg; split
  · exact ok_text (ok_signed (ok_signed (ok_signed (ok_signed (ok_num (ok_num (ok_num h)))))))
  · split
    · exact ok_num (ok_num h)
    · split
      · exact ok_event (ok_num h)
      · exact ok_event h
theorem gOut_67 {m : tMsg} {s : RS} (h : ok67 s) {c : Int} (e : gOut m s = .inr c) : c = 6 ∨ c = 7 := by
  cases s with
  | inr d => cases e; exact h
  | inl b =>
    simp only [gOut] at e
    split at e
    · cases e
    · cases e; exact .inr rfl
theorem sGet_67 {b : Str} {c : Int} (h : sGet b = .inr c) : c = 6 ∨ c = 7 := gOut_67 (ok_msg (ok_kind (s := .inl b) trivial)) h
theorem sGet_may {b : Str} {m : tMsg} (h : sGet b = .inl m) : msgB m = true := by
  unfold sGet gOut at h
  split at h
  · cases h
  · split at h
    · rename_i hh; cases h; exact hh.2
    · cases h
theorem m_len (k : Nat) (s : RS) : (sMsg k s).1.Event.Attrs.length ≤ 16 := by
  unfold sMsg; split
  · exact Nat.zero_le _
  · split
    · exact Nat.zero_le _
    · split
      · exact sEvent_len _
      · exact sEvent_len _
def getC : tMsg ⊕ Int → tMsg × Er
  | .inl m => (m, none)
  | .inr c => (noMsg, some c)
def getR : tMsg ⊕ Int → tMsg × Int
  | .inl m => (m, 0)
  | .inr c => (noMsg, c)
theorem dFin {n : Nat} {r : twirereader} {s : RS} {m : tMsg} (hr : CR r s) (hl : m.Event.Attrs.length ≤ 16) (hn : 100 < n) :
    ((bif (decide ((r.B.length : Int) > 0)) then ((dwire_reader_fail n (twirereader.mk r.B r.Err) true (some 7)).bind fun x15 => some (x15.B, x15.Err)) else ((dwire_May n m).bind fun x13 => (dwire_reader_fail n (twirereader.mk r.B r.Err) (!x13) (some 7)).bind fun x14 => some (x14.B, x14.Err)) : Option (Str × Er)).bind fun (((r5, r6)) : Str × Er) => (bif r6.isSome then some ((tMsg.mk 0 0 0 0 (tRect.mk 0 0 0 0) [] (tEvent.mk 0 0 (tPoint.mk 0 0) [])), r6) else some (m, none))) = some (getC (gOut m s)) := by
  have hM := dMay (n := n) m (Nat.le_trans hl (by decide)) (by omega)
  rw [hM]
  simp only [dfail, Option.bind_some]
  cases s with
  | inr c =>
    have he : r.Err = some c := hr
    rw [he]
    have hne : ∀ b : Bool, ¬ (b = true ∧ (some c : Er) = none) := by intro b; simp
    cases decide ((r.B.length : Int) > 0) <;> simp only [cond_true, cond_false, Option.bind_some, hne, if_false, Option.isSome_some] <;> rfl
  | inl b =>
    obtain rfl : r = ⟨b, none⟩ := hr
    cases b with
    | nil =>
      have hd : decide (((([] : Str).length : Nat) : Int) > 0) = false := rfl
      simp only [hd, cond_false, Option.bind_some]
      cases hb : msgB m with
      | true => simp [getC, gOut, hb]
      | false => simp [getC, gOut, hb, noMsg]
    | cons x t =>
      have hd : decide ((((x :: t).length : Nat) : Int) > 0) = true := by simp
      simp only [hd, cond_true, Option.bind_some]
      simp [getC, gOut, noMsg]
theorem drFin {n : Nat} {B : Str} {q : tref10R} {s : RS} {m m' : tMsg} (hr : QR B q s) (hm : ∀ b, s = .inl b → m' = m) (hl : m'.Event.Attrs.length ≤ 16) (hn : 100 < n) :
    ((dref10_May n m').bind fun may1 => (bif (q.Bad == 0) then (bif (decide (q.At < (B.length : Int))) then some true else some (!may1)) else some false : Option Bool).bind fun (x16 : Bool) => ((bif x16 then some 7 else some q.Bad : Option Int).bind fun (r5 : Int) => (bif (r5 != 0) then some ((tMsg.mk 0 0 0 0 (tRect.mk 0 0 0 0) [] (tEvent.mk 0 0 (tPoint.mk 0 0) [])), r5) else some (m', 0)))) = some (getR (gOut m s)) := by
  have hM := drMay (n := n) m' (Nat.le_trans hl (by decide)) (by omega)
  rw [hM, Option.bind_some]
  cases s with
  | inr c =>
    obtain ⟨e1, e2, e3⟩ := hr
    have hz : (q.Bad == 0) = false := by rw [e2]; simpa using e3
    have hz2 : (q.Bad != 0) = true := by rw [e2]; simpa using e3
    simp only [hz, hz2, cond_false, cond_true, Option.bind_some]
    rw [e2]; rfl
  | inl b =>
    obtain ⟨e1, e2, k, e3, hk, hb⟩ := hr
    have e4 := hm b rfl
    subst e4
    have hz : (q.Bad == 0) = true := by rw [e2]; rfl
    simp only [hz, cond_true, Option.bind_some]
    by_cases hlt : k < B.length
    · have hd : decide (q.At < (B.length : Int)) = true := by rw [e3]; simpa using hlt
      have hne : b ≠ [] := by intro h; rw [h] at hb; have := congrArg List.length hb; simp at this; omega
      simp only [hd, cond_true, Option.bind_some, getR, gOut, hne, false_and, if_false]
      rfl
    · have hd : decide (q.At < (B.length : Int)) = false := by rw [e3]; simp; omega
      have he : b = [] := by rw [hb]; exact List.drop_of_length_le (by omega)
      simp only [hd, cond_false, Option.bind_some]
      cases hB : msgB m' with
      | true => simp [getR, gOut, hB, he, e2]
      | false => simp [getR, gOut, hB, noMsg]
theorem len_kind (s : RS) : RS.len (sKind s).2 ≤ RS.len s := by
  have := (sNum_le 4 s).2
  unfold sKind; simp only
  split
  · cases (sNum 4 s).2 <;> exact Nat.zero_le _
  · exact this
theorem k_bad {s : RS} (h : (sKind s).1 = 0) : ∃ c, (sKind s).2 = .inr c := by
  unfold sKind at h ⊢
  simp only at h ⊢
  rw [if_pos h]
  cases (sNum 4 s).2 <;> exact ⟨_, rfl⟩
theorem dGet {n : Nat} {b : Str} (hb : b.length < n) (hn : 100 < n) : dwire_Get n b = some (getC (sGet b)) := by
  obtain ⟨r1, h1, c1⟩ := dNum (n := n) (r := ⟨b, none⟩) (s := .inl b) (most := 4) rfl (by decide) hb
  have h1' : dwire_reader_number n ⟨b, none⟩ 4 = _ := h1
  have hk4 : (sNum 4 (.inl b)).1 ≤ 4 := (sNum_le _ _).1
  have hlen : RS.len (sKind (.inl b)).2 < n := Nat.lt_of_le_of_lt (len_kind _) hb
  have hkb := k_bad (s := .inl b)
  unfold dwire_Get sGet
  rw [h1', Option.bind_some]
  simp only [W_nat (show (sNum 4 (.inl b)).1 < 9223372036854775808 by omega)]
  rw [dfail, Option.bind_some]
  have hx : ∃ r2, (if (((sNum 4 (.inl b)).1 : Int) == 0) = true ∧ r1.Err = none then (⟨r1.B, some 7⟩ : twirereader) else r1) = r2 ∧ CR r2 (sKind (.inl b)).2 := by
    refine ⟨_, rfl, ?_⟩
    unfold sKind; simp only
    by_cases hz : (sNum 4 (.inl b)).1 = 0
    · rw [if_pos hz]
      have hz2 : (((sNum 4 (.inl b)).1 : Int) == 0) = true := by simp; omega
      rw [hz2]
      cases hs : (sNum 4 (.inl b)).2 with
      | inl t => rw [hs] at c1; have c1 : r1 = ⟨t, none⟩ := c1; rw [c1]; rfl
      | inr c => rw [hs] at c1; have c1 : r1.Err = some c := c1; rw [if_neg (by rw [c1]; simp)]; exact c1
    · rw [if_neg hz]
      have hz2 : (((sNum 4 (.inl b)).1 : Int) == 0) = false := by simp; omega
      rw [hz2, if_neg (by simp)]; exact c1
  obtain ⟨r2, hx, c2⟩ := hx
  rw [hx]
  have hk0 : (sKind (.inl b)).1 = (sNum 4 (.inl b)).1 := rfl
  rw [hk0] at hkb ⊢
  generalize (sNum 4 (.inl b)).1 = k at *
  generalize (sKind (.inl b)).2 = s at *
  obtain ⟨r3, h3, c3⟩ := dInt c2 hlen
  have l1 : RS.len (b1 s).2 < n := Nat.lt_of_le_of_lt (sNum_le _ _).2 hlen
  rcases (by omega : k = 0 ∨ k = 1 ∨ k = 2 ∨ k = 3 ∨ k = 4) with rfl | rfl | rfl | rfl | rfl
  · obtain ⟨c, hc⟩ := hkb rfl
    subst hc
    obtain ⟨r4, h4, c4⟩ := dEvent (n := n) c3 (by show 0 < n; omega) hn
    have e0 : (((0 : Nat) : Int) != 3) = true := rfl
    have e1 : (((0 : Nat) : Int) == 1) = false := rfl
    have e2 : (((0 : Nat) : Int) == 2) = false := rfl
    simp only [e0, e1, e2, cond_true, cond_false, h3, Option.bind_some, h4]
    refine (dFin (s := .inr c) (m := ⟨((0 : Nat) : Int), 0, 0, 0, ⟨0, 0, 0, 0⟩, [], (sEvent (.inr c)).1⟩) (r := r4) ?_ ?_ hn).trans rfl
    · exact c4
    · exact sEvent_len _
  · have e0 : (((1 : Nat) : Int) != 3) = true := rfl
    have e1 : (((1 : Nat) : Int) == 1) = true := rfl
    obtain ⟨r4, h4, c4⟩ := dInt (n := n) c3 l1
    have l2 : RS.len (b2 s).2 < n := Nat.lt_of_le_of_lt (sNum_le _ _).2 l1
    obtain ⟨r5, h5, c5⟩ := dInt (n := n) c4 l2
    have l3 : RS.len (b3 s).2 < n := Nat.lt_of_le_of_lt (sNum_le _ _).2 l2
    obtain ⟨r6, h6, c6⟩ := dSigned (n := n) c5 l3
    have l4 : RS.len (b4 s).2 < n := Nat.lt_of_le_of_lt (sSigned_le _) l3
    obtain ⟨r7, h7, c7⟩ := dSigned (n := n) c6 l4
    have l5 : RS.len (b5 s).2 < n := Nat.lt_of_le_of_lt (sSigned_le _) l4
    obtain ⟨r8, h8, c8⟩ := dSigned (n := n) c7 l5
    have l6 : RS.len (b6 s).2 < n := Nat.lt_of_le_of_lt (sSigned_le _) l5
    obtain ⟨r9, h9, c9⟩ := dSigned (n := n) c8 l6
    have l7 : RS.len (b7 s).2 < n := Nat.lt_of_le_of_lt (sSigned_le _) l6
    obtain ⟨r10, h10, c10⟩ := dText (n := n) (most := 500) c9 (by decide) l7
    have h10' : dwire_reader_text n r9 500 = _ := h10
    simp only [e0, e1, cond_true, h3, Option.bind_some]
    simp only [h4, Option.bind_some]
    simp only [h5, Option.bind_some]
    simp only [h6, Option.bind_some]
    simp only [h7, Option.bind_some]
    simp only [h8, Option.bind_some]
    simp only [h9, Option.bind_some]
    simp only [h10', Option.bind_some]
    exact dFin (s := (b8 s).2) (m := (m1 s).1) (r := r10) c10 (Nat.zero_le _) hn
  · have e0 : (((2 : Nat) : Int) != 3) = true := rfl
    have e1 : (((2 : Nat) : Int) == 1) = false := rfl
    have e2 : (((2 : Nat) : Int) == 2) = true := rfl
    obtain ⟨r4, h4, c4⟩ := dInt (n := n) c3 l1
    simp only [e0, e1, e2, cond_true, cond_false, h3, Option.bind_some]
    simp only [h4, Option.bind_some]
    exact dFin (s := (b2 s).2) (m := (m2 s).1) (r := r4) c4 (Nat.zero_le _) hn
  · have e0 : (((3 : Nat) : Int) != 3) = false := rfl
    have e1 : (((3 : Nat) : Int) == 1) = false := rfl
    have e2 : (((3 : Nat) : Int) == 2) = false := rfl
    obtain ⟨r4, h4, c4⟩ := dEvent (n := n) c2 hlen hn
    simp only [e0, e1, e2, cond_true, cond_false, Option.bind_some]
    simp only [h4, Option.bind_some]
    exact dFin (s := (sEvent s).2) (m := (m3 3 s).1) (r := r4) c4 (sEvent_len _) hn
  · have e0 : (((4 : Nat) : Int) != 3) = true := rfl
    have e1 : (((4 : Nat) : Int) == 1) = false := rfl
    have e2 : (((4 : Nat) : Int) == 2) = false := rfl
    obtain ⟨r4, h4, c4⟩ := dEvent (n := n) c3 l1 hn
    simp only [e0, e1, e2, cond_true, cond_false, h3, Option.bind_some]
    simp only [h4, Option.bind_some]
    exact dFin (s := (sEvent (b1 s).2).2) (m := (m4 s).1) (r := r4) c4 (sEvent_len _) hn
theorem drGet {n : Nat} {b : Str} (hb : b.length < n) (hB : b.length ≤ 1000000) (hn : 100 < n) : dref10_Get n b = some (getR (sGet b)) := by
  obtain ⟨r1, h1, c1⟩ := drNum (n := n) (q := ⟨b, 0, 0⟩) (s := .inl b) (B := b) (most := 4) ⟨rfl, rfl, 0, rfl, Nat.zero_le _, rfl⟩ hB (by decide) hb
  have h1' : dref10_R_number n ⟨b, 0, 0⟩ 4 = _ := h1
  have hk4 : (sNum 4 (.inl b)).1 ≤ 4 := (sNum_le _ _).1
  have hlen : RS.len (sKind (.inl b)).2 < n := Nat.lt_of_le_of_lt (len_kind _) hb
  have hkb := k_bad (s := .inl b)
  unfold dref10_Get sGet
  rw [h1', Option.bind_some]
  simp only [W_nat (show (sNum 4 (.inl b)).1 < 9223372036854775808 by omega), Option.bind_some]
  have hx : ∃ r2 : Int, ((bif (r1.Bad == 0) then some (((sNum 4 (.inl b)).1 : Int) == 0) else some false : Option Bool).bind fun (x2 : Bool) => (bif x2 then some 7 else some r1.Bad : Option Int)) = some r2 ∧ QR b ⟨r1.B, r1.At, r2⟩ (sKind (.inl b)).2 := by
    unfold sKind; simp only
    by_cases hz : (sNum 4 (.inl b)).1 = 0
    · rw [if_pos hz]
      have hz2 : (((sNum 4 (.inl b)).1 : Int) == 0) = true := by simp; omega
      rw [hz2]
      cases hs : (sNum 4 (.inl b)).2 with
      | inl t =>
        rw [hs] at c1; obtain ⟨a1, a2, a3⟩ := c1
        have : (r1.Bad == 0) = true := by rw [a2]; rfl
        rw [this]; exact ⟨7, rfl, a1, rfl, by decide⟩
      | inr c =>
        rw [hs] at c1; obtain ⟨a1, a2, a3⟩ := c1
        have : (r1.Bad == 0) = false := by rw [a2]; simpa using a3
        rw [this]; exact ⟨r1.Bad, rfl, a1, a2, a3⟩
    · rw [if_neg hz]
      have hz2 : (((sNum 4 (.inl b)).1 : Int) == 0) = false := by simp; omega
      rw [hz2]
      cases r1.Bad == 0 <;> exact ⟨r1.Bad, rfl, c1⟩
  obtain ⟨r2, hx, c2⟩ := hx
  have hx3 : ∀ {γ : Type} (f : Int → Option γ), ((bif (r1.Bad == 0) then some (((sNum 4 (.inl b)).1 : Int) == 0) else some false : Option Bool).bind fun (x2 : Bool) => ((bif x2 then some 7 else some r1.Bad : Option Int).bind fun r => f r)) = f r2 := by
    intro γ f
    have := congrArg (fun o => Option.bind o f) hx
    simp only [Option.bind_assoc, Option.bind_some] at this
    exact this
  refine (hx3 _).trans ?_
  have hk0 : (sKind (.inl b)).1 = (sNum 4 (.inl b)).1 := rfl
  rw [hk0] at hkb ⊢
  generalize (sNum 4 (.inl b)).1 = k at *
  generalize (sKind (.inl b)).2 = s at *
  obtain ⟨r3, h3, c3⟩ := drFewN c2 hB hlen
  have l1 : RS.len (b1 s).2 < n := Nat.lt_of_le_of_lt (sNum_le _ _).2 hlen
  rcases (by omega : k = 0 ∨ k = 1 ∨ k = 2 ∨ k = 3 ∨ k = 4) with rfl | rfl | rfl | rfl | rfl
  · obtain ⟨c, hc⟩ := hkb rfl
    subst hc
    obtain ⟨v, r4, h4, c4, hv, hl⟩ := drEventR (n := n) c2 hB (by show 0 < n; omega) hn
    have e1 : (((0 : Nat) : Int) == 1) = false := rfl
    have e2 : (((0 : Nat) : Int) == 2) = false := rfl
    have e4 : (((0 : Nat) : Int) == 4) = false := rfl
    simp only [e1, e2, e4, cond_true, cond_false, Option.bind_some]
    simp only [h4, Option.bind_some]
    refine (drFin (B := b) (s := (sEvent (.inr c)).2) (m := (m3 0 (.inr c)).1) (m' := ⟨((0 : Nat) : Int), 0, 0, 0, ⟨0, 0, 0, 0⟩, [], v⟩) (q := r4) c4 ?_ hl hn).trans rfl
    intro t ht; rw [hv t ht]; rfl
  · have e1 : (((1 : Nat) : Int) == 1) = true := rfl
    obtain ⟨r4, h4, c4⟩ := drFewN (n := n) c3 hB l1
    have l2 : RS.len (b2 s).2 < n := Nat.lt_of_le_of_lt (sNum_le _ _).2 l1
    obtain ⟨r5, h5, c5⟩ := drFewN (n := n) c4 hB l2
    have l3 : RS.len (b3 s).2 < n := Nat.lt_of_le_of_lt (sNum_le _ _).2 l2
    obtain ⟨r6, h6, c6⟩ := drSigned (n := n) c5 hB l3
    have l4 : RS.len (b4 s).2 < n := Nat.lt_of_le_of_lt (sSigned_le _) l3
    obtain ⟨r7, h7, c7⟩ := drSigned (n := n) c6 hB l4
    have l5 : RS.len (b5 s).2 < n := Nat.lt_of_le_of_lt (sSigned_le _) l4
    obtain ⟨r8, h8, c8⟩ := drSigned (n := n) c7 hB l5
    have l6 : RS.len (b6 s).2 < n := Nat.lt_of_le_of_lt (sSigned_le _) l5
    obtain ⟨r9, h9, c9⟩ := drSigned (n := n) c8 hB l6
    have l7 : RS.len (b7 s).2 < n := Nat.lt_of_le_of_lt (sSigned_le _) l6
    obtain ⟨r10, h10, c10⟩ := drTextN (n := n) (most := 500) c9 hB (by decide) l7
    have h10' : dref10_R_text n r9 500 = _ := h10
    simp only [e1, cond_true, h3, Option.bind_some]
    simp only [h4, Option.bind_some]
    simp only [h5, Option.bind_some]
    simp only [h6, Option.bind_some]
    simp only [h7, Option.bind_some]
    simp only [h8, Option.bind_some]
    simp only [h9, Option.bind_some]
    simp only [h10', Option.bind_some]
    exact drFin (s := (b8 s).2) (m := (m1 s).1) (m' := (m1 s).1) (q := r10) c10 (fun _ _ => rfl) (Nat.zero_le _) hn
  · have e1 : (((2 : Nat) : Int) == 1) = false := rfl
    have e2 : (((2 : Nat) : Int) == 2) = true := rfl
    obtain ⟨r4, h4, c4⟩ := drFewN (n := n) c3 hB l1
    simp only [e1, e2, cond_true, cond_false, h3, Option.bind_some]
    simp only [h4, Option.bind_some]
    exact drFin (s := (b2 s).2) (m := (m2 s).1) (m' := (m2 s).1) (q := r4) c4 (fun _ _ => rfl) (Nat.zero_le _) hn
  · have e1 : (((3 : Nat) : Int) == 1) = false := rfl
    have e2 : (((3 : Nat) : Int) == 2) = false := rfl
    have e4 : (((3 : Nat) : Int) == 4) = false := rfl
    obtain ⟨v, r4, h4, c4, hv, hl⟩ := drEventR (n := n) c2 hB hlen hn
    simp only [e1, e2, e4, cond_true, cond_false, Option.bind_some]
    simp only [h4, Option.bind_some]
    refine drFin (B := b) (s := (sEvent s).2) (m := (m3 3 s).1) (m' := ⟨((3 : Nat) : Int), 0, 0, 0, ⟨0, 0, 0, 0⟩, [], v⟩) (q := r4) c4 ?_ hl hn
    intro t ht; rw [hv t ht]; rfl
  · have e1 : (((4 : Nat) : Int) == 1) = false := rfl
    have e2 : (((4 : Nat) : Int) == 2) = false := rfl
    have e4 : (((4 : Nat) : Int) == 4) = true := rfl
    obtain ⟨v, r4, h4, c4, hv, hl⟩ := drEventR (n := n) c3 hB l1 hn
    simp only [e1, e2, e4, cond_true, cond_false, h3, Option.bind_some]
    simp only [h4, Option.bind_some]
    refine drFin (B := b) (s := (sEvent (b1 s).2).2) (m := (m4 s).1) (m' := ⟨((4 : Nat) : Int), ((b1 s).1 : Int), 0, 0, ⟨0, 0, 0, 0⟩, [], v⟩) (q := r4) c4 ?_ hl hn
    intro t ht; rw [hv t ht]; rfl
theorem code6 (n : Nat) : dlaw00_Code (n + 13) (some 6) = some 6 := by kernel_rfl
theorem code7 (n : Nat) : dlaw00_Code (n + 13) (some 7) = some 7 := by kernel_rfl
theorem code0 (n : Nat) : dlaw00_Code n none = some 0 := rfl
theorem WireGets_e (b : Str) : Ev fun n => dlaw10_WireGets n b = some true := by
  refine (up10.big (b.length + 2000)).mono fun n hh => ?_
  obtain ⟨hn, hup⟩ := hh
  unfold dlaw10_WireGets
  rw [hup, Option.bind_some]
  by_cases hlen : b.length > 5000
  · have hd : decide ((b.length : Int) > 5000) = true := by simp; omega
    rw [hd]; rfl
  · have hd : decide ((b.length : Int) > 5000) = false := by simp; omega
    rw [hd, cond_false, dGet (by omega) (by omega), drGet (by omega) (by omega) (by omega)]
    simp only [Option.bind_some, cond_true]
    obtain ⟨k, rfl⟩ : ∃ k, n = k + 13 := ⟨n - 13, by omega⟩
    cases hs : sGet b with
    | inl m =>
      have hm := sGet_may hs
      have hl : m.Event.Attrs.length ≤ 16 := by
        unfold sGet gOut at hs
        split at hs
        · cases hs
        · split at hs
          · cases hs; exact m_len _ _
          · cases hs
      simp only [getC, getR, code0, Option.bind_some, beq_self_eq_true, cond_true]
      rw [drSame m m (Nat.le_trans hl (by decide)) (show m.Event.Attrs.length < k + 13 by omega), eqM_refl]; rfl
    | inr c =>
      have h0 : dref10_Same (k + 13) noMsg noMsg = some true := by rw [drSame noMsg noMsg (by decide) (by show 0 < k + 13; omega), eqM_refl]
      rcases sGet_67 hs with rfl | rfl
      · simp only [getC, getR, code6, Option.bind_some, beq_self_eq_true, cond_true, h0]
      · simp only [getC, getR, code7, Option.bind_some, beq_self_eq_true, cond_true, h0]
theorem WireGets_c {b : Str} (h1 : okS b) : PCall Try.prog 7 [.sl (b.map cU8)] (· = .bool true) := by
  obtain ⟨n, h⟩ := (WireGets_e b).get
  exact dlaw10_WireGets_l h
end Go.Proofs.Ytaekecbadkcggaa
