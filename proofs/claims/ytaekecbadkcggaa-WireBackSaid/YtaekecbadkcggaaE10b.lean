/- Layer 10, plainly: a reader and a writer that belong together. -/
import Derived.Test.YtaekecbadkcggaaE10h
namespace Go.Proofs.Ytaekecbadkcggaa
open Go.Pv
set_option linter.unusedSimpArgs false
set_option linter.unusedVariables false
set_option linter.unusedSectionVars false

/-- A reader and a writer that belong together. -/
structure Pr {α : Type} (p : RS → α × RS) (q : α → Str) (V : α → Prop) : Prop where
  bad : ∀ c, (p (.inr c)).2 = .inr c
  get : ∀ a r, V a → p (.inl (q a ++ r)) = (a, .inl r)
  cut : ∀ a k, V a → k < (q a).length → (p (.inl ((q a).take k))).2 = .inr 6
  back : ∀ b r a, p (.inl b) = (a, .inl r) → V a ∧ b = q a ++ r
theorem Pr.seq {α β : Type} {p : RS → α × RS} {q : α → Str} {V : α → Prop} (h : Pr p q V) {f : α → RS → β × RS} {g : α → β → Str} {W : α → β → Prop}
    (hf : ∀ a, V a → Pr (f a) (g a) (W a)) (hb : ∀ a c, (f a (.inr c)).2 = .inr c) :
    Pr (fun s => (((p s).1, (f (p s).1 (p s).2).1), (f (p s).1 (p s).2).2)) (fun x => q x.1 ++ g x.1 x.2) (fun x => V x.1 ∧ W x.1 x.2) where
  bad := fun c => by simp only [h.bad, hb]
  get := fun ⟨a, b⟩ r ⟨ha, hw⟩ => by simp only [List.append_assoc, h.get a _ ha, (hf a ha).get b r hw]
  cut := fun ⟨a, b⟩ k ⟨ha, hw⟩ hk => by
    simp only at *
    by_cases hl : k < (q a).length
    · rw [List.take_append_of_le_length (by omega)]
      simp only [h.cut a k ha hl, hb]
    · rw [List.take_append, List.take_of_length_le (by omega)]
      simp only [h.get a _ ha]
      exact (hf a ha).cut b _ hw (by simp at hk; omega)
  back := fun b r ⟨a, c⟩ hp => by
    simp only [Prod.mk.injEq] at hp
    obtain ⟨⟨e1, e2⟩, e3⟩ := hp
    cases hs : (p (.inl b)).2 with
    | inr x => rw [hs, hb] at e3; cases e3
    | inl r1 =>
      have hp1 : p (.inl b) = (a, .inl r1) := Prod.ext e1 hs
      obtain ⟨ha, hb1⟩ := h.back _ _ _ hp1
      rw [hs, e1] at e2 e3
      obtain ⟨hw, hr⟩ := (hf a ha).back _ _ _ (Prod.ext e2 e3 : f a (.inl r1) = (c, .inl r))
      exact ⟨⟨ha, hw⟩, by rw [hb1, hr, List.append_assoc]⟩
theorem Pr.map {α β : Type} {p : RS → α × RS} {q : α → Str} {V : α → Prop} (h : Pr p q V) (m : α → β) (m' : β → α) (q' : β → Str) (W : β → Prop)
    (h1 : ∀ b, W b → V (m' b) ∧ m (m' b) = b ∧ q (m' b) = q' b) (h2 : ∀ a, V a → W (m a) ∧ m' (m a) = a) : Pr (fun s => (m (p s).1, (p s).2)) q' W where
  bad := h.bad
  get := fun b r hb => by obtain ⟨hv, e, eq⟩ := h1 b hb; simp only [← eq, h.get _ r hv, e]
  cut := fun b k hb hk => by obtain ⟨hv, e, eq⟩ := h1 b hb; rw [← eq] at hk ⊢; exact h.cut _ k hv hk
  back := fun b r x hp => by
    simp only [Prod.mk.injEq] at hp
    obtain ⟨hv, hb⟩ := h.back b r _ (Prod.ext rfl hp.2)
    have h3 := h2 _ hv
    rw [hp.1] at h3
    obtain ⟨_, _, e⟩ := h1 x h3.1
    exact ⟨h3.1, by rw [hb, ← e, h3.2]⟩
theorem Pr.congr {α : Type} {p p' : RS → α × RS} {q : α → Str} {V : α → Prop} (h : Pr p q V) (e : ∀ s, p' s = p s) : Pr p' q V := by
  have : p' = p := funext e
  rw [this]; exact h
theorem Pr.val {α : Type} {p : RS → α × RS} {q q' : α → Str} {V V' : α → Prop} (h : Pr p q V) (e : ∀ a, V' a ↔ V a) (eq : ∀ a, V a → q a = q' a) : Pr p q' V' where
  bad := h.bad
  get := fun a r ha => by rw [← eq a ((e a).1 ha)]; exact h.get a r ((e a).1 ha)
  cut := fun a k ha hk => by have := eq a ((e a).1 ha); rw [← this] at hk ⊢; exact h.cut a k ((e a).1 ha) hk
  back := fun b r a hp => by
    obtain ⟨hv, hb⟩ := h.back b r a hp
    exact ⟨(e a).2 hv, by rw [← eq a hv]; exact hb⟩
/-! ### numbers -/
theorem u8n {u : Nat} (h : u < 256) : (UInt8.ofNat u).toNat = u := by rw [UInt8.toNat_ofNat']; exact Nat.mod_eq_of_lt h
theorem pow9 {u : Nat} (h : u * 128 ^ 9 < 18446744073709551616) : u ≤ 1 := by
  have : (128 : Nat) ^ 9 = 9223372036854775808 := by decide
  omega
theorem i8_of {u i : Nat} (hu : ¬ u < 128) (h : u * 128 ^ i < 18446744073709551616) (hi : i ≤ 9) : i ≤ 8 := by
  by_cases h9 : i = 9
  · subst h9; have := pow9 h; omega
  · omega
theorem spl (u i : Nat) : u % 128 * 128 ^ i + u / 128 * 128 ^ (i + 1) = u * 128 ^ i := by
  rw [Nat.pow_succ, Nat.mul_comm (128 ^ i) 128, ← Nat.mul_assoc, ← Nat.add_mul]
  congr 1; omega
theorem rnG_get {most : Nat} : ∀ (u i a : Nat) (r : Str), (0 < i → u ≠ 0) → u * 128 ^ i < 18446744073709551616 → i ≤ 9 → a + u * 128 ^ i ≤ most → rnG most i a (vi u ++ r) = .inl (a + u * 128 ^ i, r) := by
  intro u
  induction u using Nat.strongRecOn with
  | _ u ih =>
    intro i a r h0 h64 hi hm
    by_cases hu : u < 128
    · rw [vi_lt hu]
      show rnG most i a (UInt8.ofNat u :: r) = _
      rw [rnG, u8n (by omega)]
      have h9 : ¬ (i = 9 ∧ 1 < u) := by rintro ⟨rfl, h⟩; have := pow9 h64; omega
      have hmod : u % 128 = u := Nat.mod_eq_of_lt hu
      rw [if_neg h9, if_pos hu, hmod, if_neg (by omega)]
    · rw [vi_ge hu]
      show rnG most i a (UInt8.ofNat (u % 128 + 128) :: (vi (u / 128) ++ r)) = _
      have h8 := i8_of hu h64 hi
      have hs := spl u i
      rw [rnG, u8n (by omega), if_neg (by omega), if_neg (by omega), show (u % 128 + 128) % 128 = u % 128 by omega, ih (u / 128) (by omega) (i + 1) _ r (by omega) (by omega) (by omega) (by omega)]
      rw [Nat.add_assoc, hs]
theorem rnG_cut {most : Nat} : ∀ (u i a k : Nat), k < (vi u).length → u * 128 ^ i < 18446744073709551616 → i ≤ 9 → rnG most i a ((vi u).take k) = .inr 6 := by
  intro u
  induction u using Nat.strongRecOn with
  | _ u ih =>
    intro i a k hk h64 hi
    cases k with
    | zero => rfl
    | succ k =>
      by_cases hu : u < 128
      · rw [vi_lt hu] at hk; simp at hk
      · rw [vi_ge hu] at hk ⊢
        have h8 := i8_of hu h64 hi
        have hs := spl u i
        rw [List.take_succ_cons, rnG, u8n (by omega), if_neg (by omega), if_neg (by omega)]
        exact ih (u / 128) (by omega) (i + 1) _ k (by simpa using hk) (by omega) (by omega)
theorem rnG_back {most : Nat} : ∀ (b : Str) (i a v : Nat) (r : Str), rnG most i a b = .inl (v, r) → ∃ u, v = a + u * 128 ^ i ∧ b = vi u ++ r ∧ v ≤ most ∧ (0 < i → u ≠ 0)
  | [], _, _, _, _, h => by cases h
  | x :: t, i, a, v, r, h => by
    rw [rnG] at h
    have hx := x.toNat_lt
    split at h
    · cases h
    · split at h
      · rename_i hlt
        split at h
        · cases h
        · rename_i hc
          cases h
          have hmod : x.toNat % 128 = x.toNat := Nat.mod_eq_of_lt hlt
          rw [hmod] at hc ⊢
          refine ⟨x.toNat, rfl, ?_, by omega, by omega⟩
          rw [vi_lt hlt, UInt8.ofNat_toNat]; rfl
      · rename_i hge
        obtain ⟨u, hv, hb, hm, h0⟩ := rnG_back t _ _ _ _ h
        have h0 := h0 (by omega)
        have hmd : (x.toNat % 128 + 128 * u) % 128 = x.toNat % 128 := by omega
        have hdv : (x.toNat % 128 + 128 * u) / 128 = u := by omega
        refine ⟨x.toNat % 128 + 128 * u, ?_, ?_, hm, by omega⟩
        · have := spl (x.toNat % 128 + 128 * u) i
          rw [hmd, hdv] at this
          omega
        · rw [vi_ge (by omega), hmd, hdv, show x.toNat % 128 + 128 = x.toNat by omega, UInt8.ofNat_toNat, hb]; rfl
theorem prNum {most : Nat} (hm : most < 18446744073709551616) : Pr (sNum most) vi (· ≤ most) where
  bad := fun _ => rfl
  get := fun u r hu => by
    have := rnG_get (most := most) u 0 0 r (by omega) (by omega) (by omega) (by omega)
    simp only [sNum, this, Nat.pow_zero, Nat.mul_one, Nat.zero_add]
  cut := fun u k hu hk => by
    have := rnG_cut (most := most) u 0 0 k hk (by omega) (by omega)
    simp only [sNum, this]
  back := fun b r u h => by
    simp only [sNum] at h
    cases hr : rnG most 0 0 b with
    | inr c => rw [hr] at h; cases h
    | inl p =>
      obtain ⟨v, b'⟩ := p
      rw [hr] at h; cases h
      obtain ⟨u', e1, e2, e3, _⟩ := rnG_back _ _ _ _ _ hr
      have : u = u' := by simpa using e1
      subst this
      exact ⟨e3, e2⟩
theorem unz_zz {n : Int} (h : i64 n) : unz (zz n) = n := by
  unfold i64 at h; unfold unz zz
  split <;> split <;> omega
theorem zz_unz {u : Nat} : zz (unz u) = u := by
  unfold unz zz
  split <;> split <;> omega
theorem i64_unz {u : Nat} (h : u ≤ 18446744073709551615) : i64 (unz u) := by
  unfold unz i64; split <;> omega
theorem prSigned : Pr sSigned (fun n => vi (zz n)) i64 :=
  (prNum (by decide : 18446744073709551615 < 18446744073709551616)).map unz zz _ _ (fun n hn => ⟨by have := zz_lt hn; omega, unz_zz hn, rfl⟩) (fun u hu => ⟨i64_unz hu, zz_unz⟩)
theorem prTake (u : Nat) : Pr (fun s : RS => match s with | .inl b => if b.length < u then (([] : Str), (.inr 6 : RS)) else (b.take u, .inl (b.drop u)) | .inr c => ([], .inr c)) (fun s => s) (·.length = u) where
  bad := fun _ => rfl
  get := fun s r hs => by
    simp only
    rw [if_neg (by simp; omega), ← hs]; simp
  cut := fun s k hs hk => by
    simp only
    rw [if_pos (by simp; omega)]
  back := fun b r s h => by
    simp only at h
    split at h
    · cases h
    · cases h
      exact ⟨by simp; omega, (List.take_append_drop u b).symm⟩
theorem prText {most : Nat} (hm : most < 18446744073709551616) : Pr (sText most) tx (·.length ≤ most) := by
  refine (((prNum hm).seq (f := fun u s => match s with | .inl b => if b.length < u then (([] : Str), (.inr 6 : RS)) else (b.take u, .inl (b.drop u)) | .inr c => ([], .inr c)) (g := fun _ s => s) (fun u _ => prTake u) (fun _ _ => rfl)).map (·.2) (fun s => (s.length, s)) tx (·.length ≤ most) (fun s hs => ⟨⟨hs, rfl⟩, rfl, rfl⟩) (fun ⟨u, s⟩ ⟨h1, h2⟩ => ⟨by simp only at *; omega, by simp only at *; rw [h2]⟩)).congr fun s => ?_
  unfold sText
  cases sNum most s with
  | mk u s1 => cases s1 with
    | inr c => rfl
    | inl b => rfl
/-! ### attributes, events -/
def AtV (a : tAttr) : Prop := a.Name.length ≤ 200 ∧ (if a.Text then a.N = 0 ∧ a.S.length ≤ 200 else a.S = [] ∧ i64 a.N)
def sVal (k : Nat) (s : RS) : (Int × Str) × RS := if k = 1 then ((0, (sText 200 s).1), (sText 200 s).2) else (((sSigned s).1, []), (sSigned s).2)
theorem sVal_bad (k : Nat) (c : Int) : (sVal k (.inr c)).2 = .inr c := by unfold sVal; split <;> rfl
theorem prVal {k : Nat} (hk : k ≤ 1) : Pr (sVal k) (fun x => if k = 1 then tx x.2 else vi (zz x.1)) (fun x => if k = 1 then x.1 = 0 ∧ x.2.length ≤ 200 else x.2 = [] ∧ i64 x.1) := by
  by_cases h : k = 1
  · refine ((prText (most := 200) (by decide)).map (fun s => ((0 : Int), s)) (·.2) _ _ (fun x hx => ?_) (fun s hs => ?_)).congr fun s => by unfold sVal; rw [if_pos h]
    · obtain ⟨n, s⟩ := x
      rw [if_pos h] at hx
      obtain ⟨rfl, h2⟩ : n = 0 ∧ s.length ≤ 200 := hx
      exact ⟨h2, rfl, by rw [if_pos h]⟩
    · exact ⟨by rw [if_pos h]; exact ⟨rfl, hs⟩, rfl⟩
  · refine (prSigned.map (fun n => (n, ([] : Str))) (·.1) _ _ (fun x hx => ?_) (fun s hs => ?_)).congr fun s => by unfold sVal; rw [if_neg h]
    · obtain ⟨n, s⟩ := x
      rw [if_neg h] at hx
      obtain ⟨rfl, h2⟩ : s = [] ∧ i64 n := hx
      exact ⟨h2, rfl, by rw [if_neg h]⟩
    · exact ⟨by rw [if_neg h]; exact ⟨rfl, hs⟩, rfl⟩
theorem prAttr : Pr sAttr av AtV := by
  refine (((prText (most := 200) (by decide)).seq (f := fun _ s => (((sNum 1 s).1, (sVal (sNum 1 s).1 (sNum 1 s).2).1), (sVal (sNum 1 s).1 (sNum 1 s).2).2)) (g := fun _ x => vi x.1 ++ if x.1 = 1 then tx x.2.2 else vi (zz x.2.1)) (W := fun _ x => x.1 ≤ 1 ∧ if x.1 = 1 then x.2.1 = 0 ∧ x.2.2.length ≤ 200 else x.2.2 = [] ∧ i64 x.2.1)
    (fun _ _ => (prNum (most := 1) (by decide)).seq (fun k hk => prVal hk) sVal_bad) (fun _ c => sVal_bad _ c)).map (fun x => (⟨x.1, decide (x.2.1 = 1), x.2.2.1, x.2.2.2⟩ : tAttr)) (fun a => (a.Name, (if a.Text then 1 else 0), (a.N, a.S))) _ _ (fun a ha => ?_) (fun x hx => ?_)).congr fun s => ?_
  · obtain ⟨nm, t, n, s⟩ := a
    obtain ⟨h1, h2⟩ := ha
    cases t with
    | true => exact ⟨⟨h1, ⟨by simp, by simpa using h2⟩⟩, rfl, by simp [av, vi1]⟩
    | false => exact ⟨⟨h1, ⟨by simp, by simpa using h2⟩⟩, rfl, by simp [av, vi0]⟩
  · obtain ⟨nm, k, n, s⟩ := x
    obtain ⟨h1, h2, h3⟩ := hx
    simp only at h1 h2 h3
    by_cases hk : k = 1
    · subst hk; simp only [if_true] at h3; exact ⟨⟨h1, by simpa using h3⟩, rfl⟩
    · have : k = 0 := by omega
      subst this; simp only [if_neg hk] at h3; exact ⟨⟨h1, by simpa using h3⟩, rfl⟩
  · unfold sAttr sVal
    by_cases h : (sNum 1 (sText 200 s).2).1 = 1
    · simp only [if_pos h]; simp [h]
    · simp only [if_neg h]; simp [h]
theorem prAttrs : ∀ k, Pr (sAttrs k) avs (fun l => l.length = k ∧ ∀ a ∈ l, AtV a)
  | 0 => {
    bad := fun _ => rfl
    get := fun l r h => by
      have : l = [] := List.length_eq_zero_iff.1 h.1
      subst this; rfl
    cut := fun l k h hk => by
      have : l = [] := List.length_eq_zero_iff.1 h.1
      subst this; simp [avs] at hk
    back := fun b r l h => by
      simp only [sAttrs] at h; cases h
      exact ⟨⟨rfl, by simp⟩, rfl⟩ }
  | k + 1 => by
    refine ((prAttr.seq (f := fun _ s => sAttrs k s) (g := fun _ l => avs l) (fun _ _ => prAttrs k) (fun _ c => sAttrs_bad c k)).map (fun x => x.1 :: x.2) (fun l => (l.headD ⟨[], false, 0, []⟩, l.tail)) avs _ (fun l hl => ?_) (fun x hx => ?_)).congr fun s => rfl
    · cases l with
      | nil => exact absurd hl.1 (by simp)
      | cons a l => exact ⟨⟨hl.2 a (by simp), by simpa using hl.1, fun x hx => hl.2 x (by simp at hx; simp [hx])⟩, rfl, by simp [avs]⟩
    · exact ⟨⟨by simp [hx.2.1], fun a ha => by simp at ha; exact ha.elim (fun e => e ▸ hx.1) (hx.2.2 a)⟩, rfl⟩
def EvV (e : tEvent) : Prop := (0 ≤ e.Pub ∧ e.Pub ≤ 2147483647) ∧ (0 ≤ e.Seq ∧ e.Seq ≤ 4294967295) ∧ i64 e.At.X ∧ i64 e.At.Y ∧ e.Attrs.length ≤ 16 ∧ ∀ a ∈ e.Attrs, AtV a
theorem prEvent : Pr sEvent ews EvV := by
  refine (((prNum (most := 2147483647) (by decide)).seq
    (f := fun _ s => (((sNum 4294967295 s).1, _), _))
    (fun _ _ => (prNum (most := 4294967295) (by decide)).seq (f := fun _ s => (((sSigned s).1, _), _))
      (fun _ _ => prSigned.seq (f := fun _ s => (((sSigned s).1, _), _))
        (fun _ _ => prSigned.seq (f := fun _ s => (((sNum 16 s).1, _), _))
          (fun _ _ => (prNum (most := 16) (by decide)).seq (f := fun k s => sAttrs k s) (fun k _ => prAttrs k) (fun k c => sAttrs_bad c k)) (fun _ c => sAttrs_bad c _)) (fun _ c => sAttrs_bad c _)) (fun _ c => sAttrs_bad c _)) (fun _ c => sAttrs_bad c _)).map
    (fun x => (⟨(x.1 : Int), (x.2.1 : Int), ⟨x.2.2.1, x.2.2.2.1⟩, x.2.2.2.2.2⟩ : tEvent)) (fun e => (e.Pub.toNat, e.Seq.toNat, e.At.X, e.At.Y, e.Attrs.length, e.Attrs)) ews EvV (fun e he => ?_) (fun x hx => ?_)).congr fun s => rfl
  · obtain ⟨h1, h2, h3, h4, h5, h6⟩ := he
    obtain ⟨p, q, ⟨x, y⟩, l⟩ := e
    simp only at h1 h2 h3 h4 h5 h6
    refine ⟨⟨by simp only; omega, by simp only; omega, h3, h4, h5, rfl, h6⟩, ?_, rfl⟩
    have e1 : ((p.toNat : Nat) : Int) = p := by omega
    have e2 : ((q.toNat : Nat) : Int) = q := by omega
    simp only [e1, e2]
  · obtain ⟨p, q, x, y, k, l⟩ := x
    obtain ⟨h1, h2, h3, h4, h5, h6, h7⟩ := hx
    simp only at h1 h2 h3 h4 h5 h6 h7
    exact ⟨⟨⟨by simp only; omega, by simp only; omega⟩, ⟨by simp only; omega, by simp only; omega⟩, h3, h4, by simp only; omega, h7⟩, by simp [h6]⟩
end Go.Proofs.Ytaekecbadkcggaa
