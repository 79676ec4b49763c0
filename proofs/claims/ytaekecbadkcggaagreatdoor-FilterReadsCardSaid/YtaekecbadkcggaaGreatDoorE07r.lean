/- Layer 7, plainly: the document's filters; FilterTells. -/
import Derived.Test.YtaekecbadkcggaaGreatDoorE07
import Derived.Test.YtaekecbadkcggaaGreatDoorD07r
namespace Go.Proofs.YtaekecbadkcggaaGreatDoor
open Go.Pv
set_option linter.unusedSimpArgs false
set_option linter.unusedVariables false
set_option linter.unusedSectionVars false
set_option maxRecDepth 100000

theorem drName {n : Nat} (s : Str) (hn : 2000 < n) : dref06_Name n s = some (nameB s) := by
  unfold dref06_Name nameB
  cases s with
  | nil => rfl
  | cons c t =>
    have h0 : ((((c :: t).length : Nat) : Int) == 0) = false := beq_false_of_ne (by simp; omega)
    simp only [h0, cond_false, Option.bind_some]
    by_cases h20 : (c :: t).length ≤ 20
    · have hd : decide ((((c :: t).length : Nat) : Int) > 20) = false := by simp at *; omega
      obtain ⟨x, b, h1⟩ := drone (n := n) (s := c :: t) (a := 0) (c := c) (t := t) (by omega) rfl hn
      have h1' : dref06_one n (c :: t) 0 = _ := h1
      rw [hd, cond_false, decide_eq_true h20, Bool.true_and, h1', Option.bind_some]
      cases tok (c :: t) with
      | none => rfl
      | some p =>
        obtain ⟨y, j⟩ := p
        have : ((((0 + j : Nat)) : Int) == (((c :: t).length : Nat) : Int)) = (j == (c :: t).length) := by rw [Nat.zero_add]; exact nbeq _ _
        simp only [cond_true, this]
        cases j == (c :: t).length <;> cases y.k == 1 <;> rfl
    · have hd : decide ((((c :: t).length : Nat) : Int) > 20) = true := by simp at *; omega
      rw [hd, decide_eq_false h20]; rfl
theorem all_ix' {α : Type} (p : α → Bool) (l : List α) : (match l.findIdx? fun a => !p a with | some _ => false | none => true) = l.all p := by
  have h := any_ix (p := fun a => !p a) (l := l)
  rw [List.all_eq_not_any_not, h]
  cases l.findIdx? (fun a => !p a) <;> rfl
theorem drPlain {n : Nat} (s : Str) (hl : s.length ≤ maxLen) (hn : s.length < n) : dref06_Plain n s = some (plainB s) := by
  unfold dref06_Plain plainB
  refine (congrArg (fun o => Option.bind o _) (ix_loopG (l := s) (p := fun c => !isTx c) (r := fun _ => false) (q := ()) (fun i => (i : Int)) (fun i h => ?_) ?_ hn)).trans ?_
  · have hd : decide ((i : Int) < (s.length : Int)) = true := by simpa using h
    have h1 : decide (((s[i].toNat : Nat) : Int) < 32) = !decide (32 ≤ s[i].toNat) := by rw [Bool.eq_iff_iff]; simp; omega
    have h2 : decide (((s[i].toNat : Nat) : Int) > 126) = !decide (s[i].toNat ≤ 126) := by rw [Bool.eq_iff_iff]; simp; omega
    have h3 := bne34 s[i]
    have h4 : (((s[i].toNat : Nat) : Int) == 34) = !(s[i] != 34) := by rw [← h3]; show _ = !(!_); rw [Bool.not_not]
    simp only [hd, cond_true, gi_lt h, Option.bind_some, h1, h2, h4, W_suc (show i + 1 < 9223372036854775808 by have := lt_max hl; omega)]
    rw [show isTx s[i] = (decide (32 ≤ s[i].toNat) && (decide (s[i].toNat ≤ 126) && s[i] != 34)) from rfl]
    cases decide (32 ≤ s[i].toNat) <;> cases decide (s[i].toNat ≤ 126) <;> cases (s[i] != 34) <;> rfl
  · simp
  · have e := all_ix' isTx s
    have h2 : decide ((s.length : Int) ≤ 200) = decide (s.length ≤ 200) := by rw [Bool.eq_iff_iff]; simp; omega
    rw [← e, h2]
    cases s.findIdx? (fun c => !isTx c) <;> rfl
theorem drop_ (n : Nat) (s : Str) : dref06_op n s = some (opsL.contains s) := by
  unfold dref06_op opsL
  rw [List.contains_eq_any_beq]
  simp only [List.any_cons, List.any_nil, Bool.or_false]
  cases s == [60] <;> cases s == [60, 61] <;> cases s == [61] <;> cases s == [33, 61] <;> cases s == [62, 61] <;> rfl
theorem drval1 (x4 : Bool) (x2 : tAttr) : (bif (!(x2.Name == [])) then some true else (bif (!(x2.Text == x4)) then some true else (bif x2.Text then (bif (x2.N != 0) then some true else (bif (!(plainB x2.S)) then some true else (bif (!x2.Text) then some (!(x2.S == [])) else some false))) else (bif (!x2.Text) then some (!(x2.S == [])) else some false))) : Option Bool) = some (!valB x4 x2) := by
  unfold valB
  have : (x2.N != 0) = !(x2.N == 0) := rfl
  rw [this]
  cases x2.Name == [] <;> cases x2.Text <;> cases x4 <;> cases x2.N == 0 <;> cases plainB x2.S <;> cases x2.S == [] <;> rfl
theorem drleaf {n : Nat} {k : Int} {nm op : Str} {vals : List tAttr} {l : List tFilter} (hv : vals.length ≤ maxLen) (hs : ∀ a ∈ vals, a.S.length ≤ maxLen ∧ a.S.length < n) (hn2 : vals.length + 2000 < n) (hk : k = 4 ∨ k = 5 ∨ k = 6) :
    dref06_leaf n (.mk k nm op vals l) = some (leafB k nm op vals l) := by
  unfold dref06_leaf leafB
  simp only [drName nm (show 2000 < n by omega), Option.bind_some]
  cases nameB nm with
  | false => rfl
  | true =>
    cases l with
    | cons x l =>
      have : decide ((((x :: l).length : Nat) : Int) > 0) = true := by simp
      rw [this]; rfl
    | nil =>
      cases vals with
      | nil => rfl
      | cons v r =>
        have h0 : decide (((([] : List tFilter).length : Nat) : Int) > 0) = false := rfl
        have h1 : ((((v :: r).length : Nat) : Int) == 0) = false := beq_false_of_ne (by simp; omega)
        have hg : gi (v :: r) 0 = some v := rfl
        have e1 : ((((v :: r).length : Nat) : Int) == 1) = r.isEmpty := by cases r with
          | nil => rfl
          | cons w r => exact beq_false_of_ne (by simp; omega)
        have e20 : decide ((((v :: r).length : Nat) : Int) > 20) = !decide (r.length ≤ 19) := by rw [Bool.eq_iff_iff]; simp; omega
        have hloop := ix_loopG (l := v :: r) (ε := Bool) (τ := Unit) (p := fun a => !valB v.Text a) (r := fun _ => false) (q := ()) (fun i => (i : Int)) (body := fun (i1 : Int) => (bif (decide (i1 < (((v :: r).length : Nat) : Int))) then ((gi (v :: r) i1).bind fun x2 => (dref06_Plain n x2.S).bind fun plain1 => (bif (!(x2.Name == [])) then some true else ((gi (v :: r) 0).bind fun x4 => bif (!(x2.Text == x4.Text)) then some true else (bif x2.Text then (bif (x2.N != 0) then some true else (bif (!plain1) then some true else (bif (!x2.Text) then some (!(x2.S == [])) else some false))) else (bif (!x2.Text) then some (!(x2.S == [])) else some false))) : Option Bool).bind fun (x3 : Bool) => (bif x3 then some (Sum.inr (Sum.inr false)) else some (Sum.inl (W (i1 + 1))))) else some (Sum.inr (Sum.inl ())))) (fun i h => ?_) ?_ (show (v :: r).length < n by omega)
        · simp only [h0, h1, cond_false, e20, Option.bind_some, Bool.not_true, Bool.true_and, List.isEmpty_nil, hg]
          cases h19 : decide (r.length ≤ 19) with
          | false =>
            simp only [Bool.not_false, cond_true]
            have hne : r.isEmpty = false := by
              cases r with
              | nil => simp at h19
              | cons _ _ => rfl
            rw [hne]
            rcases hk with rfl | rfl | rfl <;> cases (v :: r).all (valB v.Text) <;> rfl
          | true =>
            simp only [Bool.not_true, cond_false]
            simp only [hg, Option.bind_some] at hloop
            refine (congrArg (fun o => Option.bind o _) hloop).trans ?_
            have e := all_ix' (valB v.Text) (v :: r)
            rw [← e]
            cases (v :: r).findIdx? (fun a => !valB v.Text a) with
            | some i => rfl
            | none =>
              simp only [kS, Option.bind_some, e1, drop_, Bool.true_and]
              rcases hk with rfl | rfl | rfl
              · cases r.isEmpty <;> rfl
              · cases r.isEmpty <;> cases v.Text <;> rfl
              · cases op == [] <;> rfl
        · have hd : decide ((i : Int) < (((v :: r).length : Nat) : Int)) = true := by simp at h ⊢; omega
          have hm := hs _ (List.getElem_mem h)
          have hlm := lt_max hv
          simp only [hd, cond_true, gi_lt h, Option.bind_some, drPlain _ hm.1 hm.2, hg, drval1, W_suc (show i + 1 < 9223372036854775808 by omega)]
          cases valB v.Text (v :: r)[i] <;> rfl
        · simp
theorem okS_mem {l : List tAttr} {a b : Str} {k : Int} {fs : List tFilter} (h : ok_tFilter (.mk k a b l fs)) : ∀ x ∈ l, x.S.length ≤ maxLen := by
  simp only [ok_tFilter] at h
  exact fun x hx => (h.2.2.2.1.2 x hx).2.2.2
def maxS : List tAttr → Nat
  | [] => 0
  | a :: l => max a.S.length (maxS l)
theorem maxS_mem : ∀ {l : List tAttr} {a : tAttr}, a ∈ l → a.S.length ≤ maxS l
  | x :: l, a, h => by
    rcases List.mem_cons.1 h with rfl | h
    · simp only [maxS]; omega
    · have := maxS_mem h; simp only [maxS]; omega
theorem drfine : ∀ f : tFilter, ok_tFilter f → Ev fun n => dref06_fine n f = some (fineF f)
  | .mk k nm op vals l, hf => by
    obtain ⟨h1, h2, h3⟩ := okF_mk hf
    have hS := okS_mem hf
    have ih : Ev fun n => ∀ x ∈ l, dref06_fine n x = some (fineF x) := Ev.all fun x hx => drfine x (oks_mem h3 x hx)
    refine Ev.succ ((ih.big (vals.length + l.length + maxS vals + 2001)).mono fun n hh => ?_)
    obtain ⟨hn, ih⟩ := hh
    rw [dref06_fine, fineF]
    have hx1 : (bif (k == 4) then some true else (bif (k == 5) then some true else some (k == 6)) : Option Bool) = some (k == 4 || (k == 5 || k == 6)) := by cases k == 4 <;> cases k == 5 <;> rfl
    simp only [hx1, Option.bind_some]
    cases hk : (k == 4 || (k == 5 || k == 6)) with
    | true =>
      have hk' : k = 4 ∨ k = 5 ∨ k = 6 := by simpa using hk
      simp only [cond_true, drleaf h1 (fun a ha => ⟨hS a ha, by have := maxS_mem ha; omega⟩) (show vals.length + 2000 < n by omega) hk', Option.bind_some]
    | false =>
      simp only [cond_false]
      have e1 : (((l.length : Nat) : Int) == 1) = (l.length == 1) := nbeq _ 1
      have e0 : (((l.length : Nat) : Int) == 0) = (l.length == 0) := nbeq _ 0
      have hmany : (bif (k == 1) then (bif (decide (((l.length : Nat) : Int) ≥ 2)) then some true else (bif (k == 3) then (bif (((l.length : Nat) : Int) == 1) then some true else (bif (k == 7) then some (((l.length : Nat) : Int) == 0) else some false)) else (bif (k == 7) then some (((l.length : Nat) : Int) == 0) else some false))) else (bif (k == 2) then (bif (decide (((l.length : Nat) : Int) ≥ 2)) then some true else (bif (k == 3) then (bif (((l.length : Nat) : Int) == 1) then some true else (bif (k == 7) then some (((l.length : Nat) : Int) == 0) else some false)) else (bif (k == 7) then some (((l.length : Nat) : Int) == 0) else some false))) else (bif (k == 3) then (bif (((l.length : Nat) : Int) == 1) then some true else (bif (k == 7) then some (((l.length : Nat) : Int) == 0) else some false)) else (bif (k == 7) then some (((l.length : Nat) : Int) == 0) else some false))) : Option Bool) = some (headB k l.length) := by
        rw [headB_1, e1, e0]
        unfold headB
        by_cases q1 : k = 1
        · subst q1; cases decide (2 ≤ l.length) <;> rfl
        by_cases q2 : k = 2
        · subst q2; cases decide (2 ≤ l.length) <;> rfl
        by_cases q3 : k = 3
        · subst q3; cases l.length == 1 <;> rfl
        have b1 : (k == 1) = false := by simpa using q1
        have b2 : (k == 2) = false := by simpa using q2
        have b3 : (k == 3) = false := by simpa using q3
        rw [b1, b2, b3]
        cases k == 7 <;> rfl
      have e3 : decide (((vals.length : Nat) : Int) > 0) = !vals.isEmpty := by cases vals <;> simp
      simp only [hmany, Option.bind_some, e3]
      cases headB k l.length with
      | false => rfl
      | true =>
        cases nm == [] with
        | false => rfl
        | true =>
          cases op == [] with
          | false => rfl
          | true =>
            cases vals.isEmpty with
            | false => rfl
            | true =>
              simp only [Bool.not_true, cond_false, Option.bind_some, Bool.true_and]
              refine (congrArg (fun o => Option.bind o _) (ix_loopG (l := l) (p := fun x => !(fineF x && (bif k == 3 then true else !(kindF x == k)))) (r := fun _ => false) (q := ()) (fun i => (i : Int)) (fun i h => ?_) ?_ (show l.length < n by omega))).trans ?_
              · have hd : decide ((i : Int) < (l.length : Int)) = true := by simpa using h
                have h5 := ih _ (List.getElem_mem h)
                have hlm := lt_max h2
                simp only [hd, cond_true, gi_lt h, Option.bind_some, W_suc (show i + 1 < 9223372036854775808 by omega)]
                have hne : (k != 3) = !(k == 3) := rfl
                cases hx : l[i] with
                | mk a b c d e =>
                  rw [hx] at h5
                  simp only [h5, Option.bind_some, hne]
                  rw [show kindF (.mk a b c d e) = a from rfl]
                  cases fineF (.mk a b c d e) <;> cases k == 3 <;> cases a == k <;> rfl
              · simp
              · have e := all_ix' (fun x => fineF x && (bif k == 3 then true else !(kindF x == k))) l
                rw [fineL_eq, ← e]
                cases l.findIdx? (fun x => !(fineF x && (bif k == 3 then true else !(kindF x == k)))) <;> rfl
theorem drDeep : ∀ f : tFilter, ok_tFilter f → nodesF f ≤ 4611686018427387904 → Ev fun n => dref06_Deep n f = some (deepF f : Int)
  | .mk k nm op vals l, hf, hN => by
    obtain ⟨h1, h2, h3⟩ := okF_mk hf
    have hNl : nodesL l + 1 ≤ 4611686018427387904 := by simpa only [nodesF] using hN
    have ih : Ev fun n => ∀ x ∈ l, dref06_Deep n x = some (deepF x : Int) := Ev.all fun x hx => drDeep x (oks_mem h3 x hx) (by have := nodes_mem hx; omega)
    refine Ev.succ ((ih.big (l.length + 1)).mono fun n hh => ?_)
    obtain ⟨hn, ih⟩ := hh
    rw [dref06_Deep, deepF]
    have hd := deepL_nodes l
    refine (congrArg (fun o => Option.bind o _) (loopD_traj (fun i => (((deepL (l.take i) : Nat) : Int), (i : Int))) l.length (e := (deepL l : Int)) (fun i hi => ?_) ?_ n (by omega))).trans ?_
    · have hde : decide ((i : Int) < (l.length : Int)) = true := by simpa using hi
      have h5 := ih _ (List.getElem_mem hi)
      simp only [hde, cond_true, gi_lt hi, Option.bind_some]
      rw [take_snoc hi, deepL_snoc]
      cases hx : l[i] with
      | mk a b c d e =>
        rw [hx] at h5
        simp only [h5, Option.bind_some, W_suc (show i + 1 < 9223372036854775808 by have := lt_max h2; omega)]
        by_cases hgt : deepL (l.take i) < deepF (.mk a b c d e)
        · have : decide (((deepF (.mk a b c d e) : Nat) : Int) > ((deepL (l.take i) : Nat) : Int)) = true := by simp; omega
          rw [this, Nat.max_eq_right (by omega)]; rfl
        · have : decide (((deepF (.mk a b c d e) : Nat) : Int) > ((deepL (l.take i) : Nat) : Int)) = false := by simp; omega
          rw [this, Nat.max_eq_left (by omega)]; rfl
    · have hde : decide ((l.length : Int) < (l.length : Int)) = false := by simp
      simp only [hde, cond_false, List.take_length]
    · simp only [Option.bind_some]
      rw [W_suc (by omega)]
theorem drNodes : ∀ f : tFilter, ok_tFilter f → nodesF f ≤ 4611686018427387904 → Ev fun n => dref06_Nodes n f = some (nodesF f : Int)
  | .mk k nm op vals l, hf, hN => by
    obtain ⟨h1, h2, h3⟩ := okF_mk hf
    have hNl : nodesL l + 1 ≤ 4611686018427387904 := by simpa only [nodesF] using hN
    have ih : Ev fun n => ∀ x ∈ l, dref06_Nodes n x = some (nodesF x : Int) := Ev.all fun x hx => drNodes x (oks_mem h3 x hx) (by have := nodes_mem hx; omega)
    refine Ev.succ ((ih.big (l.length + 1)).mono fun n hh => ?_)
    obtain ⟨hn, ih⟩ := hh
    rw [dref06_Nodes, nodesF]
    refine (congrArg (fun o => Option.bind o _) (loopD_traj (fun i => (((nodesL (l.take i) + 1 : Nat) : Int), (i : Int))) l.length (e := ((nodesL l + 1 : Nat) : Int)) (fun i hi => ?_) ?_ n (by omega))).trans ?_
    · have hde : decide ((i : Int) < (l.length : Int)) = true := by simpa using hi
      have h5 := ih _ (List.getElem_mem hi)
      have hnt := nodesL_take l (i + 1)
      rw [take_snoc hi, nodesL_snoc] at hnt
      simp only [hde, cond_true, gi_lt hi, Option.bind_some]
      rw [take_snoc hi, nodesL_snoc]
      cases hx : l[i] with
      | mk a b c d e =>
        rw [hx] at h5 hnt
        have hW : W (((nodesL (l.take i) + 1 : Nat) : Int) + ((nodesF (.mk a b c d e) : Nat) : Int)) = ((nodesL (l.take i) + nodesF (.mk a b c d e) + 1 : Nat) : Int) := by
          rw [show ((nodesL (l.take i) + 1 : Nat) : Int) + ((nodesF (.mk a b c d e) : Nat) : Int) = ((nodesL (l.take i) + nodesF (.mk a b c d e) + 1 : Nat) : Int) by omega]; exact W_nat (by omega)
        simp only [h5, Option.bind_some, hW, W_suc (show i + 1 < 9223372036854775808 by have := lt_max h2; omega)]
    · have hde : decide ((l.length : Int) < (l.length : Int)) = false := by simp
      simp only [hde, cond_false, List.take_length]
    · rfl
theorem drMay {f : tFilter} (hf : ok_tFilter f) (hN : nodesF f ≤ 4611686018427387904) : Ev fun n => dref06_May n f = some (mayF f) := by
  refine ((drfine f hf).and ((drDeep f hf hN).and (drNodes f hf hN))).mono fun n h => ?_
  obtain ⟨e1, e2, e3⟩ := h
  unfold dref06_May mayF
  have d1 : decide (((deepF f : Nat) : Int) ≤ 10) = decide (deepF f ≤ 10) := by rw [Bool.eq_iff_iff]; simp; omega
  have d2 : decide (((nodesF f : Nat) : Int) ≤ 60) = decide (nodesF f ≤ 60) := by rw [Bool.eq_iff_iff]; simp; omega
  cases f
  simp only [e1, e2, e3, Option.bind_some, d1, d2]
  cases fineF _ <;> cases decide (deepF _ ≤ 10) <;> cases decide (nodesF _ ≤ 60) <;> rfl
theorem drSame : ∀ f g : tFilter, ok_tFilter f → Ev fun n => dref06_Same n f g = some (eqF f g)
  | .mk k a b v l, .mk k2 a2 b2 v2 l2, hf => by
    obtain ⟨h1, h2, h3⟩ := okF_mk hf
    have ih : Ev fun n => ∀ p ∈ l.zip l2, dref06_Same n p.1 p.2 = some (eqF p.1 p.2) := Ev.all fun p hp => by
      obtain ⟨x, y⟩ := p
      obtain ⟨hx, hy⟩ := List.of_mem_zip hp
      exact drSame x y (oks_mem h3 x hx)
    refine Ev.succ ((ih.big (v.length + l.length + 1)).mono fun n hh => ?_)
    obtain ⟨hn, ih⟩ := hh
    rw [dref06_Same, eqF]
    have hx : (bif (k != k2) then some true else (bif (!(a == a2)) then some true else (bif (!(b == b2)) then some true else (bif ((v.length : Int) != (v2.length : Int)) then some true else some ((l.length : Int) != (l2.length : Int))))) : Option Bool) = some (!(k == k2 && (a == a2 && (b == b2 && (v.length == v2.length && l.length == l2.length))))) := by
      have e1 : (k != k2) = !(k == k2) := rfl
      have e2 : ((v.length : Int) != (v2.length : Int)) = !(v.length == v2.length) := by show (!_) = _; rw [nbeq]
      have e3 : ((l.length : Int) != (l2.length : Int)) = !(l.length == l2.length) := by show (!_) = _; rw [nbeq]
      rw [e1, e2, e3]
      cases k == k2 <;> cases a == a2 <;> cases b == b2 <;> cases v.length == v2.length <;> rfl
    rw [hx, Option.bind_some]
    by_cases hvl : v.length = v2.length
    · by_cases hll : l.length = l2.length
      · have b1 : (v.length == v2.length) = true := by simpa using hvl
        have b2' : (l.length == l2.length) = true := by simpa using hll
        rw [b1, b2', Bool.true_and, Bool.and_true]
        have hq : (k == k2 && (a == a2 && (b == b2 && (eqAs v v2 && eqFs l l2)))) = ((k == k2 && (a == a2 && b == b2)) && (eqAs v v2 && eqFs l l2)) := by cases k == k2 <;> cases a == a2 <;> cases b == b2 <;> rfl
        rw [hq]
        cases (k == k2 && (a == a2 && b == b2)) with
        | false => rfl
        | true =>
          simp only [Bool.not_true, cond_false, Bool.true_and]
          refine (congrArg (fun o => Option.bind o _) (two_loop (e := eqA) (eL := eqAs) rfl (fun _ _ _ _ => rfl) hvl h1 (fun i q1 q2 => ?_) ?_ (show v.length < n by omega))).trans ?_
          · have hd : decide ((i : Int) < (v.length : Int)) = true := by simpa using q1
            simp only [hd, cond_true, gi_lt q1, gi_lt q2, Option.bind_some]
            have : ((v[i].Name == v2[i].Name) && ((v[i].Text == v2[i].Text) && ((v[i].N == v2[i].N) && ((v[i].S == v2[i].S) && true)))) = eqA v[i] v2[i] := rfl
            rw [this]
            cases eqA v[i] v2[i] <;> rfl
          · have hd : decide ((v.length : Int) < (v.length : Int)) = false := by simp
            simp only [hd, cond_false]
          · cases eqAs v v2 with
            | false => rfl
            | true =>
              simp only [if_true, Option.bind_some, kS, Bool.true_and]
              refine (congrArg (fun o => Option.bind o _) (two_loop (e := eqF) (eL := eqFs) (by rw [eqFs]) (fun _ _ _ _ => by rw [eqFs]) hll h2 (fun i q1 q2 => ?_) ?_ (show l.length < n by omega))).trans ?_
              · have hd : decide ((i : Int) < (l.length : Int)) = true := by simpa using q1
                have hz : (l[i], l2[i]) ∈ l.zip l2 := by
                  have : (l.zip l2)[i]? = some (l[i], l2[i]) := by rw [List.getElem?_zip_eq_some]; exact ⟨List.getElem?_eq_getElem q1, List.getElem?_eq_getElem q2⟩
                  exact List.mem_of_getElem? this
                have h5 := ih _ hz
                simp only [hd, cond_true, gi_lt q1, gi_lt q2, Option.bind_some]
                simp only at h5
                cases hx : l[i] with
                | mk _ _ _ _ _ => cases hy : l2[i] with
                  | mk _ _ _ _ _ =>
                    rw [hx, hy] at h5
                    simp only [h5, Option.bind_some]
                    cases eqF _ _ <;> rfl
              · have hd : decide ((l.length : Int) < (l.length : Int)) = false := by simp
                simp only [hd, cond_false]
              · cases eqFs l l2 <;> rfl
      · have b2' : (l.length == l2.length) = false := by simpa using hll
        rw [b2', eqFs_len hll]; simp
    · have b1 : (v.length == v2.length) = false := by simpa using hvl
      rw [b1, eqAs_len hvl]; simp
end Go.Proofs.YtaekecbadkcggaaGreatDoor
