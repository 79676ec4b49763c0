/- Layer 10, plainly: which messages may be, and which are the same. -/
import Derived.Test.YtaekecbadkcggaaE09
import Derived.Test.YtaekecbadkcggaaD10b
namespace Go.Proofs.Ytaekecbadkcggaa
open Go.Pv
set_option linter.unusedSimpArgs false
set_option linter.unusedVariables false
set_option linter.unusedSectionVars false

def farB (n : Int) : Bool := decide (n < -1073741824) || decide (n > 1073741824)
def ptB (p : tPoint) : Bool := !farB p.X && !farB p.Y
def rcB (r : tRect) : Bool := ptB ⟨r.X1, r.Y1⟩ && (ptB ⟨r.X2, r.Y2⟩ && (decide (r.X1 ≤ r.X2) && decide (r.Y1 ≤ r.Y2)))
def fewB (n : Int) : Bool := decide (n ≥ 0) && decide (n ≤ 2147483647)
def atB (a : tAttr) : Bool := decide ((a.Name.length : Int) ≤ 200) && (decide ((a.S.length : Int) ≤ 200) && (bif a.Text then a.N == 0 else a.S == []))
def evB (e : tEvent) : Bool := fewB e.Pub && (ptB e.At && (decide ((e.Attrs.length : Int) ≤ 16) && e.Attrs.all atB))
def noB (e : tEvent) : Bool := e.Pub == 0 && (e.Seq == 0 && (e.At.X == 0 && (e.At.Y == 0 && (e.Attrs.length : Int) == 0)))
def bareB (m : tMsg) : Bool := m.Home == 0 && ((m.Rect.X1 == 0 && (m.Rect.Y1 == 0 && (m.Rect.X2 == 0 && (m.Rect.Y2 == 0 && true)))) && m.Filter == [])
def msgB (m : tMsg) : Bool := fewB m.Sub && (fewB m.Version && (fewB m.Home && (decide ((m.Filter.length : Int) ≤ 500) &&
  (bif m.Kind == 1 then rcB m.Rect && noB m.Event else bif m.Kind == 2 then bareB m && noB m.Event else bif m.Kind == 3 then bareB m && (m.Sub == 0 && (m.Version == 0 && evB m.Event)) else bif m.Kind == 4 then bareB m && (m.Version == 0 && evB m.Event) else false))))

theorem dfar (n : Nat) (x : Int) : dpoint_far n x = some (farB x) := by unfold dpoint_far farB; cases decide (x < -1073741824) <;> rfl
theorem dptMay (n : Nat) (p : tPoint) : dpoint_May n p = some (ptB p) := by
  unfold dpoint_May ptB; rw [dfar, dfar]; cases farB p.X <;> cases farB p.Y <;> rfl
theorem drcMay (n : Nat) (r : tRect) : drect_May n r = some (rcB r) := by
  unfold drect_May rcB; rw [dptMay, dptMay]
  cases ptB ⟨r.X1, r.Y1⟩ <;> cases ptB ⟨r.X2, r.Y2⟩ <;> cases decide (r.X1 ≤ r.X2) <;> cases decide (r.Y1 ≤ r.Y2) <;> rfl
theorem drfar (n : Nat) (x : Int) : dref01_far n x = some (farB x) := by unfold dref01_far farB; cases decide (x < -1073741824) <;> rfl
theorem drptMay (n : Nat) (p : tPoint) : dref01_May n p = some (ptB p) := by
  unfold dref01_May ptB; rw [drfar, drfar]; cases farB p.X <;> cases farB p.Y <;> rfl
theorem drrcMay (n : Nat) (r : tRect) : dref01_Rect n r = some (rcB r) := by
  unfold dref01_Rect rcB; rw [drptMay, drptMay]
  cases ptB ⟨r.X1, r.Y1⟩ <;> cases ptB ⟨r.X2, r.Y2⟩ <;> cases decide (r.X1 ≤ r.X2) <;> cases decide (r.Y1 ≤ r.Y2) <;> rfl
theorem dfew (n : Nat) (x : Int) : dwire_few n x = some (fewB x) := by unfold dwire_few fewB; cases decide (x ≥ 0) <;> rfl
theorem dattr (n : Nat) (a : tAttr) : dwire_attr n a = some (atB a) := by
  unfold dwire_attr atB
  cases decide ((a.Name.length : Int) ≤ 200) <;> cases decide ((a.S.length : Int) ≤ 200) <;> cases a.Text <;> cases a.N == 0 <;> cases a.S == [] <;> rfl
theorem any_not_all {l : List tAttr} : (!l.any fun a => !atB a) = l.all atB := by rw [List.all_eq_not_any_not]
theorem devent {n : Nat} (e : tEvent) (hl : e.Attrs.length ≤ maxLen) (hn : e.Attrs.length < n) : dwire_event n e = some (evB e) := by
  unfold dwire_event evB
  rw [dfew, dptMay, dCfA e.Attrs (fun x0 => dwire_event_1 n x0) (fun a => !atB a) (fun x _ => by unfold dwire_event_1; rw [dattr]; rfl) hl hn, ← any_not_all]
  cases fewB e.Pub <;> cases ptB e.At <;> cases decide ((e.Attrs.length : Int) ≤ 16) <;> rfl
theorem dnone (n : Nat) (e : tEvent) : dwire_none n e = some (noB e) := by
  unfold dwire_none noB
  cases e.Pub == 0 <;> cases e.Seq == 0 <;> cases e.At.X == 0 <;> cases e.At.Y == 0 <;> rfl
theorem drnone (n : Nat) (e : tEvent) : dref10_none n e = some (noB e) := by
  unfold dref10_none noB
  cases e.Pub == 0 <;> cases e.Seq == 0 <;> cases e.At.X == 0 <;> cases e.At.Y == 0 <;> rfl
theorem dgt (a b : Int) : decide (a > b) = !decide (a ≤ b) := by rw [Bool.eq_iff_iff]; simp
theorem dlt (a b : Int) : decide (a < b) = !decide (a ≥ b) := by rw [Bool.eq_iff_iff]; simp
theorem dMay {n : Nat} (m : tMsg) (hl : m.Event.Attrs.length ≤ maxLen) (hn : m.Event.Attrs.length < n) : dwire_May n m = some (msgB m) := by
  unfold dwire_May msgB bareB
  rw [dfew, dfew, dfew, drcMay, dnone, devent m.Event hl hn, dgt]
  generalize evB m.Event = a1
  generalize noB m.Event = a2
  generalize rcB m.Rect = a3
  generalize (m.Rect.X1 == 0 && (m.Rect.Y1 == 0 && (m.Rect.X2 == 0 && (m.Rect.Y2 == 0 && true)))) = a4
  generalize (m.Filter == []) = a5
  generalize (m.Home == 0) = a6
  generalize (m.Sub == 0) = a7
  generalize (m.Version == 0) = a8
  generalize decide ((m.Filter.length : Int) ≤ 500) = b1
  generalize fewB m.Sub = b2
  generalize fewB m.Version = b3
  generalize fewB m.Home = b4
  cases b2 with
  | false => rfl
  | true =>
  cases b3 with
  | false => rfl
  | true =>
  cases b4 with
  | false => rfl
  | true =>
  cases b1 with
  | false => rfl
  | true =>
  cases m.Kind == 1 with
  | true => cases a3 <;> cases a2 <;> cases a6 <;> cases a4 <;> rfl
  | false =>
  cases m.Kind == 2 with
  | true => cases a2 <;> cases a6 <;> cases a4 <;> cases a5 <;> rfl
  | false =>
  cases m.Kind == 3 with
  | true => cases a1 <;> cases a6 <;> cases a4 <;> cases a5 <;> cases a7 <;> cases a8 <;> rfl
  | false =>
  cases m.Kind == 4 with
  | true => cases a1 <;> cases a6 <;> cases a4 <;> cases a5 <;> cases a8 <;> rfl
  | false => cases a6 <;> cases a4 <;> rfl
theorem all_ix {α : Type} (p : α → Bool) (l : List α) : (match l.findIdx? fun a => !p a with | some _ => false | none => true) = l.all p := by
  have h := any_ix (p := fun a => !p a) (l := l)
  rw [List.all_eq_not_any_not, h]
  cases l.findIdx? (fun a => !p a) <;> rfl
theorem attr_ref (x : tAttr) : (bif (decide ((x.Name.length : Int) > 200)) then some true else (bif (decide ((x.S.length : Int) > 200)) then some true else (bif x.Text then (bif (x.N != 0) then some true else (bif (!x.Text) then some (!(x.S == [])) else some false)) else (bif (!x.Text) then some (!(x.S == [])) else some false))) : Option Bool) = some (!atB x) := by
  unfold atB
  rw [dgt, dgt]
  have : (x.N != 0) = !(x.N == 0) := rfl
  rw [this]
  cases decide ((x.Name.length : Int) ≤ 200) <;> cases decide ((x.S.length : Int) ≤ 200) <;> cases x.Text <;> cases x.N == 0 <;> cases x.S == [] <;> rfl
theorem drevent {n : Nat} (e : tEvent) (hl : e.Attrs.length ≤ maxLen) (hn : e.Attrs.length < n) : dref10_event n e = some (evB e) := by
  unfold dref10_event evB
  rw [drptMay, Option.bind_some]
  have hx : (bif (decide (e.Pub < 0)) then some true else (bif (decide (e.Pub > 2147483647)) then some true else (bif (!ptB e.At) then some true else some (decide ((e.Attrs.length : Int) > 16)))) : Option Bool) = some (!(fewB e.Pub && (ptB e.At && decide ((e.Attrs.length : Int) ≤ 16)))) := by
    unfold fewB
    rw [dlt e.Pub 0, dgt, dgt]
    cases decide (e.Pub ≥ 0) <;> cases decide (e.Pub ≤ 2147483647) <;> cases ptB e.At <;> rfl
  rw [hx, Option.bind_some]
  have hq : (fewB e.Pub && (ptB e.At && (decide ((e.Attrs.length : Int) ≤ 16) && e.Attrs.all atB))) = ((fewB e.Pub && (ptB e.At && decide ((e.Attrs.length : Int) ≤ 16))) && e.Attrs.all atB) := by
    cases fewB e.Pub <;> cases ptB e.At <;> cases decide ((e.Attrs.length : Int) ≤ 16) <;> rfl
  rw [hq]
  cases (fewB e.Pub && (ptB e.At && decide ((e.Attrs.length : Int) ≤ 16))) with
  | false => rfl
  | true =>
    simp only [Bool.not_true, cond_false, Bool.true_and]
    refine (congrArg (fun o => Option.bind o _) (ix_loopG (l := e.Attrs) (p := fun a => !atB a) (r := fun _ => false) (q := ()) (fun i => (i : Int)) (fun i h => ?_) ?_ hn)).trans ?_
    · have hd : decide ((i : Int) < (e.Attrs.length : Int)) = true := by simpa using h
      simp only [hd, cond_true, gi_lt h, Option.bind_some, attr_ref, W_suc (show i + 1 < 9223372036854775808 by have := lt_max hl; omega)]
      cases atB e.Attrs[i] <;> rfl
    · simp
    · rw [← all_ix]
      cases e.Attrs.findIdx? (fun a => !atB a) <;> rfl
theorem drMay {n : Nat} (m : tMsg) (hl : m.Event.Attrs.length ≤ maxLen) (hn : m.Event.Attrs.length < n) : dref10_May n m = some (msgB m) := by
  unfold dref10_May msgB bareB
  rw [drrcMay, drnone, drevent m.Event hl hn]
  have hx : (bif (decide (m.Sub < 0)) then some true else (bif (decide (m.Version < 0)) then some true else (bif (decide (m.Home < 0)) then some true else (bif (decide (m.Sub > 2147483647)) then some true else (bif (decide (m.Version > 2147483647)) then some true else (bif (decide (m.Home > 2147483647)) then some true else some (decide ((m.Filter.length : Int) > 500))))))) : Option Bool)
      = some (!(fewB m.Sub && (fewB m.Version && (fewB m.Home && decide ((m.Filter.length : Int) ≤ 500))))) := by
    unfold fewB
    rw [dlt m.Sub 0, dlt m.Version 0, dlt m.Home 0, dgt, dgt, dgt, dgt]
    cases decide (m.Sub ≥ 0) <;> cases decide (m.Version ≥ 0) <;> cases decide (m.Home ≥ 0) <;> cases decide (m.Sub ≤ 2147483647) <;> cases decide (m.Version ≤ 2147483647) <;> cases decide (m.Home ≤ 2147483647) <;> rfl
  rw [hx]
  simp only [Option.bind_some]
  generalize evB m.Event = a1
  generalize noB m.Event = a2
  generalize rcB m.Rect = a3
  generalize (m.Rect.X1 == 0 && (m.Rect.Y1 == 0 && (m.Rect.X2 == 0 && (m.Rect.Y2 == 0 && true)))) = a4
  generalize (m.Filter == []) = a5
  generalize (m.Home == 0) = a6
  generalize (m.Sub == 0) = a7
  generalize (m.Version == 0) = a8
  generalize decide ((m.Filter.length : Int) ≤ 500) = b1
  generalize fewB m.Sub = b2
  generalize fewB m.Version = b3
  generalize fewB m.Home = b4
  cases b2 with
  | false => rfl
  | true =>
  cases b3 with
  | false => rfl
  | true =>
  cases b4 with
  | false => rfl
  | true =>
  cases b1 with
  | false => rfl
  | true =>
  cases m.Kind == 1 with
  | true => cases a3 <;> cases a2 <;> cases a6 <;> cases a4 <;> rfl
  | false =>
  cases m.Kind == 2 with
  | true => cases a2 <;> cases a6 <;> cases a4 <;> cases a5 <;> rfl
  | false =>
  cases m.Kind == 3 with
  | true => cases a1 <;> cases a6 <;> cases a4 <;> cases a5 <;> cases a7 <;> cases a8 <;> rfl
  | false =>
  cases m.Kind == 4 with
  | true => cases a1 <;> cases a6 <;> cases a4 <;> cases a5 <;> cases a8 <;> rfl
  | false => cases a6 <;> cases a4 <;> rfl

/-! ### the same -/
def eqA (a b : tAttr) : Bool := (a.Name == b.Name) && ((a.Text == b.Text) && ((a.N == b.N) && ((a.S == b.S) && true)))
def eqAs : List tAttr → List tAttr → Bool
  | [], [] => true
  | a :: l, b :: m => eqA a b && eqAs l m
  | _, _ => false
def eqE (a b : tEvent) : Bool := a.Pub == b.Pub && (a.Seq == b.Seq && (((a.At.X == b.At.X) && ((a.At.Y == b.At.Y) && true)) && eqAs a.Attrs b.Attrs))
def eqM (a b : tMsg) : Bool := a.Kind == b.Kind && (a.Sub == b.Sub && (a.Version == b.Version && (a.Home == b.Home && (((a.Rect.X1 == b.Rect.X1) && ((a.Rect.Y1 == b.Rect.Y1) && ((a.Rect.X2 == b.Rect.X2) && ((a.Rect.Y2 == b.Rect.Y2) && true)))) && (a.Filter == b.Filter && eqE a.Event b.Event)))))
theorem eqAs_len : ∀ {a b : List tAttr}, a.length ≠ b.length → eqAs a b = false
  | [], [], h => absurd rfl h
  | [], _ :: _, _ => rfl
  | _ :: _, [], _ => rfl
  | x :: a, y :: b, h => by rw [eqAs, eqAs_len (a := a) (b := b) (by simpa using h)]; simp
theorem eqA_refl (a : tAttr) : eqA a a = true := by unfold eqA; simp
theorem eqAs_refl : ∀ l, eqAs l l = true
  | [] => rfl
  | x :: l => by rw [eqAs, eqA_refl, eqAs_refl l]; rfl
theorem eqM_refl (m : tMsg) : eqM m m = true := by unfold eqM eqE; simp [eqAs_refl]
theorem eqA_iff {a b : tAttr} : eqA a b = true ↔ a = b := by
  cases a; cases b; unfold eqA; simp
theorem eqAs_iff : ∀ {a b : List tAttr}, eqAs a b = true ↔ a = b
  | [], [] => by simp [eqAs]
  | [], _ :: _ => by simp [eqAs]
  | _ :: _, [] => by simp [eqAs]
  | x :: a, y :: b => by rw [eqAs, Bool.and_eq_true, eqA_iff, eqAs_iff (a := a) (b := b)]; simp
/-- The loop that compares. -/
theorem eq_loop {n : Nat} {a b : List tAttr} (hl : a.length = b.length) (hm : a.length ≤ maxLen) (hn : a.length < n) :
    loopD (ε := Int) (τ := Unit ⊕ Bool) (fun (x1 : Int) => (bif (decide (x1 < (a.length : Int))) then ((gi a x1).bind fun x3 => (gi b x1).bind fun x4 => bif (!((x3.Name == x4.Name) && ((x3.Text == x4.Text) && ((x3.N == x4.N) && ((x3.S == x4.S) && true))))) then some (Sum.inr (Sum.inr false)) else some (Sum.inl (W (x1 + 1)))) else some (Sum.inr (Sum.inl ())))) n 0
      = some (if eqAs a b then .inl () else .inr false) := by
  have key : ∀ (m k : Nat), k + m = a.length → ∀ n, m < n → loopD (ε := Int) (τ := Unit ⊕ Bool) (fun (x1 : Int) => (bif (decide (x1 < (a.length : Int))) then ((gi a x1).bind fun x3 => (gi b x1).bind fun x4 => bif (!((x3.Name == x4.Name) && ((x3.Text == x4.Text) && ((x3.N == x4.N) && ((x3.S == x4.S) && true))))) then some (Sum.inr (Sum.inr false)) else some (Sum.inl (W (x1 + 1)))) else some (Sum.inr (Sum.inl ())))) n (k : Int)
      = some (if eqAs (a.drop k) (b.drop k) then .inl () else .inr false) := by
    intro m
    induction m with
    | zero =>
      intro k hk n hn
      obtain ⟨n, rfl⟩ : ∃ j, n = j + 1 := ⟨n - 1, by omega⟩
      have hd : decide ((k : Int) < (a.length : Int)) = false := by simp; omega
      rw [List.drop_of_length_le (by omega), List.drop_of_length_le (by omega)]
      exact loopD_end (by simp only [hd, cond_false]; rfl)
    | succ m ih =>
      intro k hk n hn
      obtain ⟨n, rfl⟩ : ∃ j, n = j + 1 := ⟨n - 1, by omega⟩
      have hka : k < a.length := by omega
      have hkb : k < b.length := by omega
      have hd : decide ((k : Int) < (a.length : Int)) = true := by simpa using hka
      have ih := ih (k + 1) (by omega) n (by omega)
      rw [List.drop_eq_getElem_cons hka, List.drop_eq_getElem_cons hkb, eqAs]
      cases he : eqA a[k] b[k] with
      | false =>
        unfold eqA at he
        refine loopD_end ?_
        simp only [hd, cond_true, gi_lt hka, gi_lt hkb, Option.bind_some, he, Bool.not_false, Bool.false_and]
        rfl
      | true =>
        unfold eqA at he
        refine (loopD_go (s' := ((k + 1 : Nat) : Int)) ?_).trans ?_
        · simp only [hd, cond_true, gi_lt hka, gi_lt hkb, Option.bind_some, he, Bool.not_true, cond_false, W_suc (show k + 1 < 9223372036854775808 by have := lt_max hm; omega)]
        · rw [Bool.true_and]; exact ih
  exact key a.length 0 (by omega) n hn
theorem dEqual {n : Nat} (a b : List tAttr) (hm : a.length ≤ maxLen) (hn : a.length < n) : dslices_Equal_Attr n a b = some (eqAs a b) := by
  unfold dslices_Equal_Attr
  by_cases hl : a.length = b.length
  · have hd : ((a.length : Int) != (b.length : Int)) = false := by simp [hl]
    simp only [hd, cond_false]
    refine (congrArg (fun o => Option.bind o _) (eq_loop hl hm hn)).trans ?_
    cases eqAs a b <;> rfl
  · have hd : ((a.length : Int) != (b.length : Int)) = true := by simp; omega
    simp only [hd, cond_true]; rw [eqAs_len hl]
theorem dSame {n : Nat} (a b : tMsg) (hm : a.Event.Attrs.length ≤ maxLen) (hn : a.Event.Attrs.length < n) : dwire_Same n a b = some (eqM a b) := by
  unfold dwire_Same dwire_sameEvent eqM eqE
  rw [dEqual _ _ hm hn]
  cases a.Kind == b.Kind <;> cases a.Sub == b.Sub <;> cases a.Version == b.Version <;> cases a.Home == b.Home <;> simp only [cond_false, cond_true, Bool.false_and, Bool.true_and]
  cases ((a.Rect.X1 == b.Rect.X1) && ((a.Rect.Y1 == b.Rect.Y1) && ((a.Rect.X2 == b.Rect.X2) && ((a.Rect.Y2 == b.Rect.Y2) && true)))) <;> cases a.Filter == b.Filter <;> cases a.Event.Pub == b.Event.Pub <;> cases a.Event.Seq == b.Event.Seq <;> cases ((a.Event.At.X == b.Event.At.X) && ((a.Event.At.Y == b.Event.At.Y) && true)) <;> rfl
theorem drEvents {n : Nat} (a b : tEvent) (hm : a.Attrs.length ≤ maxLen) (hn : a.Attrs.length < n) : dref10_Events n a b = some (eqE a b) := by
  unfold dref10_Events eqE
  by_cases hl : a.Attrs.length = b.Attrs.length
  · have hd : ((a.Attrs.length : Int) != (b.Attrs.length : Int)) = false := by simp [hl]
    have h1 : (a.Pub != b.Pub) = !(a.Pub == b.Pub) := rfl
    have h2 : (a.Seq != b.Seq) = !(a.Seq == b.Seq) := rfl
    rw [hd, h1, h2]
    cases a.Pub == b.Pub <;> cases a.Seq == b.Seq <;> cases ((a.At.X == b.At.X) && ((a.At.Y == b.At.Y) && true)) <;> try rfl
    simp only [Bool.not_true, cond_false, Option.bind_some, Bool.true_and]
    refine (congrArg (fun o => Option.bind o _) (eq_loop hl hm hn)).trans ?_
    cases eqAs a.Attrs b.Attrs <;> rfl
  · have hd : ((a.Attrs.length : Int) != (b.Attrs.length : Int)) = true := by simp; omega
    have h1 : (a.Pub != b.Pub) = !(a.Pub == b.Pub) := rfl
    have h2 : (a.Seq != b.Seq) = !(a.Seq == b.Seq) := rfl
    rw [hd, h1, h2, eqAs_len hl]
    cases a.Pub == b.Pub <;> cases a.Seq == b.Seq <;> cases ((a.At.X == b.At.X) && ((a.At.Y == b.At.Y) && true)) <;> rfl
theorem drSame {n : Nat} (a b : tMsg) (hm : a.Event.Attrs.length ≤ maxLen) (hn : a.Event.Attrs.length < n) : dref10_Same n a b = some (eqM a b) := by
  unfold dref10_Same eqM
  rw [drEvents _ _ hm hn, Option.bind_some]
  cases a.Kind == b.Kind <;> cases a.Sub == b.Sub <;> cases a.Version == b.Version <;> cases a.Home == b.Home <;> simp only [cond_false, cond_true, Bool.false_and, Bool.true_and]
  cases ((a.Rect.X1 == b.Rect.X1) && ((a.Rect.Y1 == b.Rect.Y1) && ((a.Rect.X2 == b.Rect.X2) && ((a.Rect.Y2 == b.Rect.Y2) && true)))) <;> cases a.Filter == b.Filter <;> rfl
end Go.Proofs.Ytaekecbadkcggaa
