/- Layer 9, plainly: what holds of what a filter holds of. -/
import Derived.Test.YtaekecbadkcggaaE09
namespace Go.Proofs.Ytaekecbadkcggaa
open Go.Pv
set_option linter.unusedSimpArgs false
set_option linter.unusedVariables false
set_option linter.unusedSectionVars false

mutual
def nodesF : tFilter → Nat
  | .mk _ _ _ _ l => nodesL l + 1
def nodesL : List tFilter → Nat
  | [] => 0
  | x :: l => nodesF x + nodesL l
end
mutual
def namesF : tFilter → List Str
  | .mk _ nm _ _ l => (if nm = [] then [] else [nm]) ++ namesL l
def namesL : List tFilter → List Str
  | [] => []
  | x :: l => namesF x ++ namesL l
end
mutual
theorem nodes_bk : ∀ f : tFilter, nodesF f ≤ bkL (c_tFilter f)
  | .mk a b c d l => by have := nodesL_bk l; simp only [nodesF, c_tFilter, bkL, AV.bk]; omega
theorem nodesL_bk : ∀ l : List tFilter, nodesL l ≤ bkLL (cs_tFilter l)
  | [] => Nat.zero_le _
  | x :: l => by have := nodes_bk x; have := nodesL_bk l; simp only [nodesL, cs_tFilter, bkLL]; omega
end
mutual
theorem names_len : ∀ f : tFilter, (namesF f).length ≤ nodesF f
  | .mk a b c d l => by have := namesL_len l; simp only [namesF, nodesF, List.length_append]; split <;> simp <;> omega
theorem namesL_len : ∀ l : List tFilter, (namesL l).length ≤ nodesL l
  | [] => Nat.zero_le _
  | x :: l => by have := names_len x; have := namesL_len l; simp only [namesL, nodesL, List.length_append]; omega
end
theorem nodes_mem : ∀ {l : List tFilter} {x : tFilter}, x ∈ l → nodesF x ≤ nodesL l
  | y :: l, x, h => by
    rcases List.mem_cons.1 h with rfl | h
    · simp only [nodesL]; omega
    · have := nodes_mem h; simp only [nodesL]; omega
theorem namesL_eq : ∀ l : List tFilter, namesL l = l.flatMap namesF
  | [] => rfl
  | x :: l => by rw [namesL, namesL_eq l]; rfl

theorem drnames : ∀ f : tFilter, ok_tFilter f → nodesF f ≤ 1048576 → Ev fun n => dref06_names n f = some (namesF f)
  | .mk kind nm op vals fs, hf, hb => by
    obtain ⟨h1, h2, h3⟩ := okF_mk hf
    have hb' : nodesL fs ≤ 1048576 := by simp only [nodesF] at hb; omega
    have ih : Ev fun n => ∀ x ∈ fs, dref06_names n x = some (namesF x) := Ev.all fun x hx => drnames x (oks_mem h3 x hx) (Nat.le_trans (nodes_mem hx) hb')
    refine Ev.succ ((ih.big (fs.length + 1)).mono fun n hh => ?_)
    obtain ⟨hn, ih⟩ := hh
    rw [dref06_names, namesF]
    have h0 : (bif (!(nm == [])) then ((ap [] [nm]).bind fun out2 => some out2) else some [] : Option (List Str)) = some (if nm = [] then [] else [nm]) := by
      by_cases hnm : nm = []
      · subst hnm; rfl
      · have : (nm == []) = false := by simpa using hnm
        rw [this, if_neg hnm, ap_ok (show ([] : List Str).length + [nm].length ≤ capN from (by decide : 1 ≤ capN))]; rfl
    rw [h0, Option.bind_some]
    generalize hA : (if nm = [] then [] else [nm]) = A
    have hAl : A.length ≤ 1 := by rw [← hA]; split <;> simp
    have htk : ∀ k, (namesL (fs.take k)).length ≤ nodesL fs := fun k => by
      refine Nat.le_trans (namesL_len _) ?_
      have : ∀ (l : List tFilter) k, nodesL (l.take k) ≤ nodesL l := by
        intro l
        induction l with
        | nil => intro k; simp
        | cons x l ih => intro k; cases k with
          | zero => simp [nodesL]
          | succ k => simp only [List.take_succ_cons, nodesL]; have := ih k; omega
      exact this fs k
    rw [show ((0 : Int), A) = (((0 : Nat) : Int), A ++ namesL (fs.take 0)) from by simp [namesL]]
    refine (congrArg (fun o => Option.bind o _) (loopD_traj (fun k => ((k : Int), A ++ namesL (fs.take k))) fs.length (e := A ++ namesL fs) (fun k hk => ?_) ?_ n (by omega))).trans ?_
    · have hd : decide ((k : Int) < (fs.length : Int)) = true := by simpa using hk
      simp only [hd, cond_true, gi_lt hk, Option.bind_some]
      have h5 := ih _ (List.getElem_mem hk)
      have h6 : namesL (fs.take (k + 1)) = namesL (fs.take k) ++ namesF fs[k] := by
        rw [namesL_eq, namesL_eq, List.take_add_one, List.getElem?_eq_getElem hk, List.flatMap_append]; simp
      have h7 : (A ++ namesL (fs.take k)).length + (namesF fs[k]).length ≤ capN := by
        have := htk (k + 1); rw [h6] at this; simp only [List.length_append] at this ⊢; unfold capN; omega
      rw [h6, ← List.append_assoc]
      cases hx : fs[k] with
      | mk a b c d e =>
        rw [hx] at h5 h7
        simp only [h5, Option.bind_some, ap_ok h7, W_suc (show k + 1 < 9223372036854775808 by have := lt_max h2; omega)]
    · have hd : decide ((fs.length : Int) < (fs.length : Int)) = false := by simp
      simp only [hd, cond_false, List.take_length]
    · rfl

theorem loopD_exJ {σ τ β : Type} {body : σ → Option (σ ⊕ τ)} {f : τ → Option β} {n : Nat} {s : σ} {Q : β → Prop} (I : σ → Prop) (μ : σ → Nat) (J : τ → Prop) (hs : I s) (hn : μ s < n)
    (h : ∀ s, I s → ∃ o, body s = some o ∧ (∀ s', o = .inl s' → I s' ∧ μ s' < μ s) ∧ ∀ e, o = .inr e → J e) (k : ∀ e, J e → ∃ r, f e = some r ∧ Q r) : ∃ r, (loopD body n s).bind f = some r ∧ Q r := by
  obtain ⟨e, he, hJ⟩ := loopD_tot I μ J h n s hs hn
  rw [he]; exact k e hJ

theorem drNames (f : tFilter) (hf : ok_tFilter f) (hb : nodesF f ≤ 1048576) : Ev fun n => ∃ r : List Str, dref06_Names n f = some r ∧ r.length ≤ 1048576 ∧ ∀ x, x ∈ r ↔ x ∈ namesF f := by
  refine ((drnames f hf hb).big (nodesF f + 2)).mono fun n hh => ?_
  obtain ⟨hn, h⟩ := hh
  cases f with
  | mk a b c d e =>
  rw [dref06_Names, h, Option.bind_some]
  generalize hL : namesF (.mk a b c d e) = l
  have hl : l.length ≤ nodesF (.mk a b c d e) := by rw [← hL]; exact names_len _
  generalize nodesF (.mk a b c d e) = m at *
  refine loopD_exJ (fun s => ∃ i : Nat, s.1 = (i : Int) ∧ i ≤ l.length ∧ s.2.length ≤ i ∧ ∀ x, x ∈ s.2 ↔ x ∈ l.take i) (fun s => l.length - s.1.toNat) (fun r : List Str => r.length ≤ 1048576 ∧ ∀ x, x ∈ r ↔ x ∈ l)
      ⟨0, rfl, Nat.zero_le _, Nat.le_refl _, by simp⟩ (by simp; omega) ?_ (fun r h2 => ⟨r, rfl, h2⟩)
  · rintro ⟨i1, out⟩ ⟨i, hi, hil, hol, hm⟩
    simp only at hi hol hm; subst hi
    by_cases hlt : i < l.length
    · have hd : decide ((i : Int) < (l.length : Int)) = true := by simpa using hlt
      simp only [hd, cond_true, gi_lt hlt, Option.bind_some]
      have inner : ∃ at3 : Int, loopD (ε := Int) (τ := Int) (fun (at1 : Int) => ((bif (decide (at1 < (out.length : Int))) then ((gi out at1).bind fun x2 => some (Op.bytesLess x2 l[i])) else some false : Option Bool).bind fun (x1 : Bool) => (bif x1 then some (Sum.inl (W (at1 + 1))) else some (Sum.inr at1)))) n 0 = some at3 ∧ ∃ j : Nat, at3 = (j : Int) ∧ j ≤ out.length := by
        refine loopD_tot (fun s => ∃ j : Nat, s = (j : Int) ∧ j ≤ out.length) (fun s => out.length - s.toNat) _ ?_ n 0 ⟨0, rfl, Nat.zero_le _⟩ (by simp; omega)
        rintro _ ⟨j, rfl, hj⟩
        by_cases hj2 : j < out.length
        · have hd2 : decide ((j : Int) < (out.length : Int)) = true := by simpa using hj2
          simp only [hd2, cond_true, gi_lt hj2, Option.bind_some]
          cases Op.bytesLess out[j] l[i] with
          | true => exact ⟨_, rfl, fun s' e => by cases e; rw [W_suc (by omega)]; exact ⟨⟨j + 1, rfl, hj2⟩, by simp only [Int.toNat_natCast]; omega⟩, fun e he => by cases he⟩
          | false => exact ⟨_, rfl, fun s' e => (nomatch e), fun e he => by cases he; exact ⟨j, rfl, hj⟩⟩
        · have hd2 : decide ((j : Int) < (out.length : Int)) = false := by simp; omega
          simp only [hd2, cond_false, Option.bind_some]
          exact ⟨_, rfl, fun s' e => (nomatch e), fun e he => by cases he; exact ⟨j, rfl, hj⟩⟩
      obtain ⟨at3, hat, j, rfl, hj⟩ := inner
      rw [hat, Option.bind_some]
      have hg1 : gsl out 0 (j : Int) = some (out.take j) := by have := gsl_nat out (i := 0) (Nat.zero_le j) hj; simpa using this
      have hg2 := gsl_from out hj
      have hcap : ∀ k : Nat, k ≤ 2097154 → k ≤ capN := fun k hk => Nat.le_trans hk (by decide)
      have ha1 : ap [] (out.take j) = some (out.take j) := ap_ok (hcap _ (by simp; omega))
      have ha2 : ap (out.take j) [l[i]] = some (out.take j ++ [l[i]]) := ap_ok (hcap _ (by simp; omega))
      have ha3 : ap (out.take j ++ [l[i]]) (out.drop j) = some (out.take j ++ [l[i]] ++ out.drop j) := ap_ok (hcap _ (by simp; omega))
      have hW : W ((i : Int) + 1) = ((i + 1 : Nat) : Int) := W_suc (by omega)
      have htk : l.take (i + 1) = l.take i ++ [l[i]] := by rw [List.take_add_one, List.getElem?_eq_getElem hlt]; rfl
      have hin : ∀ x, x ∈ out.take j ++ [l[i]] ++ out.drop j ↔ x ∈ l.take (i + 1) := fun x => by
        rw [htk, List.mem_append, List.mem_append, List.mem_append, ← hm x]
        conv => rhs; rw [← List.take_append_drop j out, List.mem_append]
        constructor
        · rintro ((h | h) | h)
          · exact .inl (.inl h)
          · exact .inr h
          · exact .inl (.inr h)
        · rintro ((h | h) | h)
          · exact .inl (.inl h)
          · exact .inr h
          · exact .inl (.inr h)
      have hln : (out.take j ++ [l[i]] ++ out.drop j).length ≤ i + 1 := by simp; omega
      have fin : ∀ o4 : List Str, o4.length ≤ i + 1 → (∀ x, x ∈ o4 ↔ x ∈ l.take (i + 1)) → ∃ o : (Int × List Str) ⊕ List Str, some (Sum.inl (((i + 1 : Nat) : Int), o4)) = some o ∧ (∀ s' : Int × List Str, o = .inl s' → (∃ i : Nat, s'.1 = (i : Int) ∧ i ≤ l.length ∧ s'.2.length ≤ i ∧ ∀ x, x ∈ s'.2 ↔ x ∈ l.take i) ∧ l.length - s'.1.toNat < l.length - ((i : Int)).toNat) ∧
          ∀ e : List Str, o = .inr e → e.length ≤ 1048576 ∧ ∀ x, x ∈ e ↔ x ∈ l := fun o4 h1 h2 =>
        ⟨_, rfl, fun s' e => by cases e; exact ⟨⟨i + 1, rfl, hlt, h1, h2⟩, by simp only [Int.toNat_natCast]; omega⟩, fun e he => by cases he⟩
      simp only [hg1, hg2, ha1, ha2, ha3, hW, Option.bind_some]
      by_cases hj2 : j < out.length
      · have hd2 : decide ((j : Int) < (out.length : Int)) = true := by simpa using hj2
        simp only [hd2, cond_true, gi_lt hj2, Option.bind_some]
        cases he : out[j] == l[i] with
        | true =>
          rw [beq_iff_eq] at he
          refine fin out (by omega) fun x => ?_
          rw [htk, List.mem_append, ← hm x]
          constructor
          · exact fun h => .inl h
          · rintro (h | h)
            · exact h
            · simp at h; rw [h, ← he]; exact List.getElem_mem hj2
        | false => exact fin _ hln hin
      · have hd2 : decide ((j : Int) < (out.length : Int)) = false := by simp; omega
        simp only [hd2, cond_false, Option.bind_some]
        exact fin _ hln hin
    · have hd : decide ((i : Int) < (l.length : Int)) = false := by simp; omega
      have hil2 : i = l.length := by omega
      subst hil2
      simp only [hd, cond_false]
      exact ⟨_, rfl, fun s' e => (nomatch e), fun e he => by cases he; exact ⟨by omega, by simpa using hm⟩⟩

theorem findA_more {m : tAttr} {nm : Str} (h : m.Name ≠ nm) (l : List tAttr) : findA nm (m :: l) = findA nm l := by
  unfold findA; rw [List.find?_cons]
  have : (m.Name == nm) = false := by simpa using h
  rw [this]
mutual
theorem hol_more {m : tAttr} (h0 : m.Name ≠ []) (l : List tAttr) : ∀ f, m.Name ∉ namesF f → hol (m :: l) f = hol l f
  | .mk kind nm op vals fs, h => by
    have h1 : m.Name ∉ namesL fs := fun hh => h (by rw [namesF]; exact List.mem_append_right _ hh)
    have h2 : m.Name ≠ nm := fun e => by
      by_cases hn : nm = []
      · exact h0 (e.trans hn)
      · exact h (by rw [namesF, if_neg hn]; exact List.mem_append_left _ (by simp [e]))
    obtain ⟨a1, a2, a3⟩ := hol_moreL h0 l fs h1
    rw [hol, hol, a1, a2, a3]; unfold leafB; rw [findA_more h2]
theorem hol_moreL {m : tAttr} (h0 : m.Name ≠ []) (l : List tAttr) : ∀ fs, m.Name ∉ namesL fs → holAll (m :: l) fs = holAll l fs ∧ holAny (m :: l) fs = holAny l fs ∧ holHd (m :: l) fs = holHd l fs
  | [], _ => ⟨rfl, rfl, rfl⟩
  | x :: r, h => by
    have h1 : m.Name ∉ namesF x := fun hh => h (by rw [namesL]; exact List.mem_append_left _ hh)
    have h2 : m.Name ∉ namesL r := fun hh => h (by rw [namesL]; exact List.mem_append_right _ hh)
    have e1 := hol_more h0 l x h1
    obtain ⟨a1, a2, _⟩ := hol_moreL h0 l r h2
    exact ⟨by rw [holAll, holAll, e1, a1], by rw [holAny, holAny, e1, a2], by rw [holHd, holHd, e1]⟩
end
theorem okM {k : Int} {l : List tFilter} (hk : okI .i64 k) (hl : l.length ≤ maxLen) (h : oks_tFilter l) : ok_tFilter (.mk k [] [] [] l) := by
  simp only [ok_tFilter]
  exact ⟨hk, by simp [okS], by simp [okS], ⟨by simp, fun _ h => nomatch h⟩, hl, h⟩

theorem EvalLaws_e (f g : tFilter) (l : List tAttr) (more : tAttr) (hf : ok_tFilter f) (hg : ok_tFilter g) (hl : l.length ≤ 1048576) (hb : nodesF f ≤ 1048576) : Ev fun n => dlaw09_EvalLaws n f g l more = some true := by
  have hl2 : l.length ≤ maxLen := Nat.le_trans hl (by decide)
  have kN : ∀ x, ok_tFilter x → ok_tFilter (.mk 3 [] [] [] [x]) := fun x hx => okM rfl (by decide : 1 ≤ maxLen) (by simp [oks_tFilter, hx])
  have kA : ok_tFilter (.mk 1 [] [] [] [f, g]) := okM rfl (by decide : 2 ≤ maxLen) (by simp [oks_tFilter, hf, hg])
  have kO : ok_tFilter (.mk 2 [] [] [] [.mk 3 [] [] [] [f], .mk 3 [] [] [] [g]]) := okM rfl (by decide : 2 ≤ maxLen) (by simp [oks_tFilter, kN f hf, kN g hg])
  have e1 := dHolds l hl2 f hf
  have e2 := dHolds l hl2 g hg
  have e3 := dHolds l hl2 _ (kN f hf)
  have e4 := dHolds l hl2 _ (kN _ (kN f hf))
  have e5 := dHolds l hl2 _ kA
  have e6 := dHolds l hl2 _ kO
  have e7 := dHolds (more :: l) (Nat.le_trans (Nat.succ_le_succ hl) (by decide)) f hf
  refine (((((((((((up09.and (drFew f hf)).and (drFew g hg)).and e1).and e2).and e3).and e4).and e5).and e6).and e7).and (drNames f hf hb)).big (l.length + 1048578)).mono fun n h => ?_
  obtain ⟨hn, ⟨⟨⟨⟨⟨⟨⟨⟨⟨⟨h1, b, h2⟩, c, h3⟩, e1⟩, e2⟩, e3⟩, e4⟩, e5⟩, e6⟩, e7⟩, ns, hns, hnl, hnm⟩⟩ := h
  obtain ⟨d, h5⟩ := drAttrs l hl2 (n := n) (by omega)
  have f1 : ∀ x : tFilter, dlaw09_EvalLaws_1 n x = some (.mk 3 [] [] [] [x]) := fun x => by cases x; rfl
  have g3 : hol l (.mk 3 [] [] [] [f]) = !hol l f := by rw [hol]; rfl
  have g4 : hol l (.mk 3 [] [] [] [.mk 3 [] [] [] [f]]) = hol l f := by rw [hol, holHd, g3]; simp
  have g5 : hol l (.mk 1 [] [] [] [f, g]) = (hol l f && hol l g) := by rw [hol, holAll, holAll, holAll]; simp
  have g6 : hol l (.mk 2 [] [] [] [.mk 3 [] [] [] [f], .mk 3 [] [] [] [g]]) = (!hol l f || !hol l g) := by
    have g7 : hol l (.mk 3 [] [] [] [g]) = !hol l g := by rw [hol]; rfl
    rw [hol, holAny, holAny, holAny, g3, g7]; simp
  rw [g3] at e3; rw [g4] at e4; rw [g5] at e5; rw [g6] at e6
  cases hef : f with
  | mk k1 k2 k3 k4 k5 =>
  cases heg : g with
  | mk j1 j2 j3 j4 j5 =>
  rw [dlaw09_EvalLaws]
  rw [hef] at e1 e3 e4 e5 e6 e7 h2 hns; rw [heg] at e2 e5 e6 h3
  have f2 := f1 (.mk k1 k2 k3 k4 k5)
  have f3 := f1 (.mk j1 j2 j3 j4 j5)
  have f4 := f1 (.mk 3 [] [] [] [.mk k1 k2 k3 k4 k5])
  simp only [h1, h2, h3, h5, e1, e2, e3, e4, e5, e6, f2, f3, f4, hns, Option.bind_some]
  have hx : (bif (!b) then some true else (bif (!c) then some true else (bif (!d) then some true else (bif (decide ((more.S.length : Int) > 300)) then some true else some (more.Name == [])))) : Option Bool) = some (!b || !c || !d || decide ((more.S.length : Int) > 300) || more.Name == []) := by
    cases b <;> cases c <;> cases d <;> cases decide ((more.S.length : Int) > 300) <;> rfl
  rw [hx, Option.bind_some]
  cases hq : (!b || !c || !d || decide ((more.S.length : Int) > 300) || more.Name == []) with
  | true => rfl
  | false =>
  have hm0 : more.Name ≠ [] := by
    simp only [Bool.or_eq_false_iff] at hq
    simpa using hq.2
  simp only [cond_false]
  have hname : ∀ x, x ∈ ns ↔ x ∈ namesF (.mk k1 k2 k3 k4 k5) := by rw [← hef]; exact hnm
  have hmore := hol_more hm0 l (.mk k1 k2 k3 k4 k5)
  generalize hol (more :: l) (.mk k1 k2 k3 k4 k5) = P' at *
  generalize hol l (.mk k1 k2 k3 k4 k5) = P at *
  generalize hol l (.mk j1 j2 j3 j4 j5) = Q at *
  have hloop := ix_loopG (l := ns) (p := fun x => x == more.Name) (r := fun _ => true) (q := ()) (body := fun (i1 : Int) => (bif (decide (i1 < (ns.length : Int))) then ((gi ns i1).bind fun x16 => bif (x16 == more.Name) then some (Sum.inr (Sum.inr true)) else some (Sum.inl (W (i1 + 1)))) else some (Sum.inr (Sum.inl ()))))
    (fun i => (i : Int)) (fun i h => by
      have hd : decide ((i : Int) < (ns.length : Int)) = true := by simpa using h
      simp only [hd, cond_true, gi_lt h, Option.bind_some, W_suc (show i + 1 < 9223372036854775808 by omega)]
      cases ns[i] == more.Name <;> rfl) (by simp) (by omega : ns.length < n)
  have ha1 : ap [] [more] = some [more] := ap_ok (by decide : 1 ≤ capN)
  have ha2 : ap [more] l = some (more :: l) := ap_ok (show 1 + l.length ≤ capN from Nat.le_trans (by omega : 1 + l.length ≤ 1048577) (by decide))
  have hfin : ((loopD (fun (i1 : Int) => (bif (decide (i1 < (ns.length : Int))) then ((gi ns i1).bind fun x16 => bif (x16 == more.Name) then some (Sum.inr (Sum.inr true)) else some (Sum.inl (W (i1 + 1)))) else some (Sum.inr (Sum.inl ())))) n 0).bind fun o => kS o fun (_ : Unit) => (bif true then ((ap [] [more]).bind fun x17 => (ap x17 l).bind fun x18 => (deval_Holds n (.mk k1 k2 k3 k4 k5) x18).bind fun x19 => some (x19 == P)) else some false)) = some true := by
    refine (congrArg (fun o => Option.bind o _) hloop).trans ?_
    cases hfi : ns.findIdx? (fun x => x == more.Name) with
    | some i => rfl
    | none =>
      simp only [kS, Option.bind_some, cond_true, ha1, ha2, e7]
      rw [List.findIdx?_eq_none_iff] at hfi
      have : more.Name ∉ ns := fun hh => by have := hfi _ hh; simp at this
      rw [hname] at this
      rw [hmore this]; simp
  cases P <;> cases Q <;> exact hfin
theorem EvalLaws_c {f g : tFilter} {l : List tAttr} {more : tAttr} (hf : ok_tFilter f) (hg : ok_tFilter g) (hl : okLs ok_tAttr l) (hm : ok_tAttr more)
    (hb : bkL [.agg (c_tFilter f), .agg (c_tFilter g), .sl (l.map c_tAttr), .agg (c_tAttr more)] ≤ 1048576) : PCall Try.prog 6 [.agg (c_tFilter f), .agg (c_tFilter g), .sl (l.map c_tAttr), .agg (c_tAttr more)] (· = .bool true) := by
  have h1 := nodes_bk f
  have h2 : ∀ l : List tAttr, l.length ≤ bkLL (l.map c_tAttr) := fun l => by
    induction l with
    | nil => exact Nat.zero_le _
    | cons x l ih => simp only [List.map_cons, List.length_cons, bkLL, c_tAttr, bkL, AV.bk]; omega
  have h2 := h2 l
  simp only [bkL, AV.bk, List.length_map] at hb
  obtain ⟨n, h⟩ := (EvalLaws_e f g l more hf hg (by omega) (by omega)).get
  exact dlaw09_EvalLaws_l h
end Go.Proofs.Ytaekecbadkcggaa
