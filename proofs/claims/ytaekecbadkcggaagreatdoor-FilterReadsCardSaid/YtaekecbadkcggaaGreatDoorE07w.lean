/- Layer 7, plainly: the document's parser, rows. -/
import Derived.Test.YtaekecbadkcggaaGreatDoorE07q
namespace Go.Proofs.YtaekecbadkcggaaGreatDoor
open Go.Pv
set_option linter.unusedSimpArgs false
set_option linter.unusedVariables false
set_option linter.unusedSectionVars false
set_option maxRecDepth 100000

abbrev DS := Int × List tref06Token × Int × Bool × Int × Str × Str × List tAttr × List tFilter
def dloop (n : Nat) (part : tref06P → Option (tFilter × tref06P)) (w : Str) (s : DS) : Option (DS ⊕ DS) := match s with
  | (n1, p2, p3, p4, f1, f2, f3, f4, f5) => (dref06_P_takes n (tref06P.mk p2 p3 p4) w).bind fun x7 => bif x7.1 then ((part x7.2).bind fun x8 => match x8 with | (.mk kind3 name3 op3 vals3 l3, x9) => (dref06_add n (tFilter.mk f1 f2 f3 f4 f5) (tFilter.mk kind3 name3 op3 vals3 l3)).bind fun x10 => match x10 with | .mk kind4 name4 op4 vals4 l4 => some (Sum.inl (W (n1 + 1), x9.L, x9.At, x9.Bad, kind4, name4, op4, vals4, l4))) else some (Sum.inr (n1, x7.2.L, x7.2.At, x7.2.Bad, f1, f2, f3, f4, f5))
def rowD (fu : Nat) (part : tref06P → Option (tFilter × tref06P)) (kd : Int) (w : Str) (p1 : tref06P) : Option (tFilter × tref06P) :=
  (part p1).bind fun x1 => match x1 with | (.mk kind1 name1 op1 vals1 l1, x2) => (dref06_add fu (tFilter.mk kd [] [] [] []) (tFilter.mk kind1 name1 op1 vals1 l1)).bind fun x3 => match x3 with | .mk kind2 name2 op2 vals2 l2 => (loopD (dloop fu part w) fu (0, x2.L, x2.At, x2.Bad, kind2, name2, op2, vals2, l2)).bind fun (((n3, x4, x5, x6, f11, f12, f13, f14, f15)) : Int × (List tref06Token) × Int × Bool × Int × Str × Str × (List tAttr) × (List tFilter)) => (bif (n3 == 0) then some ((tFilter.mk kind1 name1 op1 vals1 l1), (tref06P.mk x4 x5 x6)) else some ((tFilter.mk f11 f12 f13 f14 f15), (tref06P.mk x4 x5 x6)))
theorem and_eq (n : Nat) (p : tref06P) : dref06_P_and (n + 1) p = rowD n (dref06_P_not n) 1 [97, 110, 100] p := by rw [dref06_P_and]; rfl
theorem or_eq (n : Nat) (p : tref06P) : dref06_P_or (n + 1) p = rowD n (dref06_P_and n) 2 [111, 114] p := by rw [dref06_P_or]; rfl
theorem add_ok (n : Nat) (kd : Int) (l : List tFilter) (f : tFilter) (h : nodesL l + nodesF f ≤ 4000) : dref06_add n (.mk kd [] [] [] l) f = some (.mk kd [] [] [] (l ++ (bif kindF f == kd then subF f else [f]))) := by
  have hl := len_nodes l
  cases f with
  | mk a b c d e =>
    have he := len_nodes e
    simp only [nodesF] at h
    unfold dref06_add
    simp only [kindF, subF]
    have hA : ap [] l = some l := ap_ok (Nat.le_trans (show 0 + l.length ≤ 4000 by omega) (by decide))
    cases a == kd with
    | true => simp only [cond_true, hA, Option.bind_some, ap_ok (Nat.le_trans (show l.length + e.length ≤ 4000 by omega) (by decide : 4000 ≤ capN))]
    | false => simp only [cond_false, hA, Option.bind_some, ap_ok (Nat.le_trans (show l.length + [(tFilter.mk a b c d e)].length ≤ 4000 by simp; omega) (by decide : 4000 ≤ capN))]
theorem flat1 (kd : Int) (f : tFilter) : flatF kd [f] = (bif kindF f == kd then subF f else [f]) := by simp [flatF]
theorem flat_app (kd : Int) (a b : List tFilter) : flatF kd (a ++ b) = flatF kd a ++ flatF kd b := by simp [flatF]
section
variable {n k : Nat} {all : TL} {part : tref06P → Option (tFilter × tref06P)} {p : TL → Option (tFilter × TL)}
theorem dloop_endB (j : Nat) (w : Str) (i : Nat) (c : Int) (kd : Int) (l : List tFilter) : loopD (dloop n part w) (j + 1) (c, all.map toR, (i : Int), true, kd, [], [], [], l) = some (c, all.map toR, (i : Int), true, kd, [], [], [], l) :=
  loopD_end (by
    have h := rtakesB n all i w
    unfold mkP at h
    simp only [dloop, h, Option.bind_some, cond_false])
theorem dloop_ok (hall : all.length ≤ 500) (hp : ∀ i : Nat, i ≤ all.length → all.length < i + k → ∃ res, part (mkP all i false) = some res ∧ RD all i (p (all.drop i)) res) (w : Str) (kd : Int) : ∀ (m i : Nat) (acc : List tFilter) (c : Nat) (j : Nat), all.length < i + m → all.length < i + k → i ≤ all.length → nodesL acc + 2 * (all.length - i) ≤ 1001 → c + (all.length - i) ≤ 1000 → m + 1 < j →
    ∃ (i' : Nat) (b : Bool) (l2 : List tFilter), loopD (dloop n part w) j ((c : Int), all.map toR, (i : Int), false, kd, [], [], [], flatF kd acc) = some (((c + l2.length : Nat) : Int), all.map toR, (i' : Int), b, kd, [], [], [], flatF kd (acc ++ l2)) ∧ i ≤ i' ∧ i' ≤ all.length ∧
      nodesL l2 + 2 * (all.length - i') + l2.length ≤ 2 * (all.length - i) ∧ match pMore p w m (all.drop i) with | some (x, r) => l2 = x ∧ b = false ∧ r = all.drop i' | none => b = true
  | 0, i, acc, c, j, h, _, _, _, _, _ => by omega
  | m + 1, i, acc, c, j, h, hk, hi, hnod, hc, hj => by
    obtain ⟨j, rfl⟩ : ∃ q, j = q + 2 := ⟨j - 2, by omega⟩
    have ht := rtakes n (all := all) (i := i) (by omega) w
    rw [pMore]
    cases h1 : tk w (all.drop i) with
    | none =>
      rw [h1] at ht
      refine ⟨i, false, [], ?_, Nat.le_refl _, hi, by simp [nodesL], by simp⟩
      refine loopD_end ?_
      unfold mkP at ht
      simp only [dloop, ht, Option.bind_some, cond_false, List.append_nil, List.length_nil, Nat.add_zero]
    | some r =>
      rw [h1] at ht
      obtain ⟨hlt, rfl⟩ := tk_drop h1
      obtain ⟨⟨f, q⟩, e1, i1, b1, e2, e3, e4, e5, e6⟩ := hp (i + 1) (by omega) (by omega)
      obtain rfl : q = mkP all i1 b1 := e2
      have e5 : nodesF f + 2 * (all.length - i1) ≤ 2 * (all.length - (i + 1)) + 1 := e5
      have hn1 : 0 < nodesF f := by cases f; simp only [nodesF]; omega
      have hadd : dref06_add n (.mk kd [] [] [] (flatF kd acc)) f = some (.mk kd [] [] [] (flatF kd (acc ++ [f]))) := by
        rw [add_ok n kd _ f (by have := flatF_nodes kd acc; omega), flat_app, flat1]
      have hw : W ((c : Int) + 1) = ((c + 1 : Nat) : Int) := W_suc (by omega)
      have hstep : dloop n part w ((c : Int), all.map toR, (i : Int), false, kd, [], [], [], flatF kd acc) = some (.inl (((c + 1 : Nat) : Int), all.map toR, (i1 : Int), b1, kd, [], [], [], flatF kd (acc ++ [f]))) := by
        cases f with
        | mk a b c d e =>
          unfold mkP at ht e1
          simp only [dloop, ht, Option.bind_some, cond_true]
          rw [show tref06P.mk (List.map toR all) ((i + 1 : Nat) : Int) false = mkP all (i + 1) false from rfl]
          unfold mkP
          rw [e1, Option.bind_some]
          simp only [hadd, Option.bind_some, hw]
      simp only
      cases h2 : p (all.drop (i + 1)) with
      | none =>
        rw [h2] at e6
        obtain rfl : b1 = true := e6
        exact ⟨i1, true, [f], (loopD_go hstep).trans (dloop_endB j w i1 _ kd _), by omega, e4, by simp only [nodesL, List.length_cons, List.length_nil]; omega, rfl⟩
      | some q =>
        obtain ⟨g, r1⟩ := q
        rw [h2] at e6
        obtain ⟨e7, rfl, rfl⟩ := e6
        obtain rfl : f = g := e7
        obtain ⟨i', b, l2, j1, j2, j3, j4, j5⟩ := dloop_ok hall hp w kd m i1 (acc ++ [f]) (c + 1) (j + 1) (by omega) (by omega) e4 (by rw [nodesL_app]; simp only [nodesL]; omega) (by omega) (by omega)
        refine ⟨i', b, f :: l2, (loopD_go hstep).trans ?_, by omega, j3, by simp only [nodesL, List.length_cons]; omega, ?_⟩
        · rw [j1]; simp only [List.append_assoc, List.singleton_append, List.length_cons, Nat.add_assoc, Nat.add_comm 1]
        · simp only
          cases h3 : pMore p w m (all.drop i1) with
          | none => rw [h3] at j5; exact j5
          | some q => obtain ⟨x, r2⟩ := q; rw [h3] at j5; exact ⟨by rw [j5.1], j5.2⟩
theorem rowD_ok (hall : all.length ≤ 500) (hp : ∀ i : Nat, i ≤ all.length → all.length < i + k → ∃ res, part (mkP all i false) = some res ∧ RD all i (p (all.drop i)) res) (kd : Int) (w : Str) {i : Nat} (hi : i ≤ all.length) (hk : all.length < i + k) (hn : 5000 < n) (hkn : k + 1 < n) :
    ∃ res, rowD n part kd w (mkP all i false) = some res ∧ RD all i (pRow p kd w k (all.drop i)) res := by
  obtain ⟨⟨f, q⟩, e1, i1, b1, e2, e3, e4, e5, e6⟩ := hp i hi hk
  obtain rfl : q = mkP all i1 b1 := e2
  have e5 : nodesF f + 2 * (all.length - i1) ≤ 2 * (all.length - i) + 1 := e5
  have hn1 : 0 < nodesF f := by cases f; simp only [nodesF]; omega
  have hadd : dref06_add n (.mk kd [] [] [] []) f = some (.mk kd [] [] [] (flatF kd [f])) := by
    rw [add_ok n kd _ f (by simp only [nodesL]; omega), flat1]; rfl
  have hgoal : ∃ res, ((loopD (dloop n part w) n (0, all.map toR, (i1 : Int), b1, kd, [], [], [], flatF kd [f])).bind fun (((n3, x4, x5, x6, f11, f12, f13, f14, f15)) : Int × (List tref06Token) × Int × Bool × Int × Str × Str × (List tAttr) × (List tFilter)) => (bif (n3 == 0) then some (f, (tref06P.mk x4 x5 x6)) else some ((tFilter.mk f11 f12 f13 f14 f15), (tref06P.mk x4 x5 x6)))) = some res ∧ RD all i (pRow p kd w k (all.drop i)) res := by
    unfold pRow
    cases h2 : p (all.drop i) with
    | none =>
      rw [h2] at e6
      obtain rfl : b1 = true := e6
      obtain ⟨n', hn'⟩ : ∃ q, n = q + 1 := ⟨n - 1, by omega⟩
      have hl := dloop_endB (n := n) (part := part) (all := all) n' w i1 0 kd (flatF kd [f])
      rw [← hn'] at hl
      rw [hl, Option.bind_some]
      exact ⟨_, rfl, i1, true, rfl, e3, e4, e5, rfl⟩
    | some q =>
      obtain ⟨g, r1⟩ := q
      rw [h2] at e6
      obtain ⟨e7, rfl, rfl⟩ := e6
      obtain rfl : f = g := e7
      obtain ⟨i', b, l2, j1, j2, j3, j4, j5⟩ := dloop_ok (n := n) hall hp w kd k i1 [f] 0 n (by omega) (by omega) e4 (by simp only [nodesL]; omega) (by omega) (by omega)
      rw [show (0 : Int) = ((0 : Nat) : Int) from rfl, j1, Option.bind_some]
      simp only
      cases l2 with
      | nil =>
        refine ⟨(f, mkP all i' b), rfl, i', b, rfl, by omega, j3, by show nodesF f + _ ≤ _; simp only [nodesL, List.length_nil] at j4; omega, ?_⟩
        cases h3 : pMore p w k (all.drop i1) with
        | none => rw [h3] at j5; exact j5
        | some q => obtain ⟨x, r2⟩ := q; rw [h3] at j5; obtain ⟨rfl, rfl, rfl⟩ := j5; exact ⟨rfl, rfl, rfl⟩
      | cons y l2 =>
        have h0 : (((0 + (y :: l2).length : Nat) : Int) == ((0 : Nat) : Int)) = false := beq_false_of_ne (by simp; omega)
        rw [h0, cond_false]
        have hfl := flatF_nodes kd ([f] ++ y :: l2)
        refine ⟨_, rfl, i', b, rfl, by omega, j3, ?_, ?_⟩
        · show nodesF (.mk kd [] [] [] (flatF kd ([f] ++ y :: l2))) + 2 * (all.length - i') ≤ _
          rw [nodesL_app] at hfl
          simp only [nodesF, nodesL, List.length_cons] at j4 hfl ⊢
          omega
        · cases h3 : pMore p w k (all.drop i1) with
          | none => rw [h3] at j5; exact j5
          | some q =>
            obtain ⟨x, r2⟩ := q; rw [h3] at j5; obtain ⟨rfl, rfl, rfl⟩ := j5
            simp [comb]
  unfold rowD
  rw [e1, Option.bind_some]
  cases f
  simp only
  rw [hadd, Option.bind_some]
  exact hgoal
end
theorem dandD {k : Nat} {all : TL} (hall : all.length ≤ 500) (hnot : ∀ n i : Nat, 5 * k + 6000 ≤ n → i ≤ all.length → all.length < i + k → ∃ res, dref06_P_not n (mkP all i false) = some res ∧ RD all i (pNot k (all.drop i)) res) {n i : Nat} (hn : 5 * k + 6002 ≤ n) (hi : i ≤ all.length) (hk : all.length < i + k) :
    ∃ res, dref06_P_and n (mkP all i false) = some res ∧ RD all i (pAnd k (all.drop i)) res := by
  obtain ⟨n, rfl⟩ : ∃ q, n = q + 1 := ⟨n - 1, by omega⟩
  rw [and_eq]
  exact rowD_ok hall (fun i h1 h2 => hnot n i (by omega) h1 h2) 1 [97, 110, 100] hi hk (by omega) (by omega)
theorem dorD {k : Nat} {all : TL} (hall : all.length ≤ 500) (hnot : ∀ n i : Nat, 5 * k + 6000 ≤ n → i ≤ all.length → all.length < i + k → ∃ res, dref06_P_not n (mkP all i false) = some res ∧ RD all i (pNot k (all.drop i)) res) {n i : Nat} (hn : 5 * k + 6004 ≤ n) (hi : i ≤ all.length) (hk : all.length < i + k) :
    ∃ res, dref06_P_or n (mkP all i false) = some res ∧ RD all i (pOr k (all.drop i)) res := by
  obtain ⟨n, rfl⟩ : ∃ q, n = q + 1 := ⟨n - 1, by omega⟩
  rw [or_eq]
  exact rowD_ok hall (fun i h1 h2 => dandD hall hnot (n := n) (by omega) h1 h2) 2 [111, 114] hi hk (by omega) (by omega)
theorem dnotD {all : TL} (hall : all.length ≤ 500) : ∀ (k n i : Nat), 5 * k + 6000 ≤ n → i ≤ all.length → all.length < i + k → ∃ res, dref06_P_not n (mkP all i false) = some res ∧ RD all i (pNot k (all.drop i)) res
  | 0, n, i, _, _, h => by omega
  | k + 1, n, i, hn, hi, hk => by
    obtain ⟨n, rfl⟩ : ∃ q, n = q + 1 := ⟨n - 1, by omega⟩
    have ih := dnotD hall k
    rw [dref06_P_not, rtakes n (by omega), Option.bind_some, pNot]
    cases h1 : tk [110, 111, 116] (all.drop i) with
    | some r =>
      obtain ⟨hlt, rfl⟩ := tk_drop h1
      obtain ⟨⟨f, q⟩, e1, i1, b1, e2, e3, e4, e5, e6⟩ := ih n (i + 1) (by omega) (by omega) (by omega)
      obtain rfl : q = mkP all i1 b1 := e2
      have e5 : nodesF f + 2 * (all.length - i1) ≤ 2 * (all.length - (i + 1)) + 1 := e5
      simp only [cond_true, e1, Option.bind_some]
      refine ⟨(.mk 3 [] [] [] [f], mkP all i1 b1), by cases f; rfl, i1, b1, rfl, by omega, e4, by show nodesF (.mk 3 [] [] [] [f]) + _ ≤ _; simp only [nodesF, nodesL]; omega, ?_⟩
      cases h2 : pNot k (all.drop (i + 1)) with
      | none => rw [h2] at e6; exact e6
      | some q =>
        obtain ⟨g, r1⟩ := q
        rw [h2] at e6
        obtain ⟨e7, rfl, rfl⟩ := e6
        obtain rfl : f = g := e7
        exact ⟨rfl, rfl, rfl⟩
    | none =>
      simp only [cond_false, rtakes n (show i ≤ 1000 by omega), Option.bind_some]
      cases h2 : tk [40] (all.drop i) with
      | some r =>
        obtain ⟨hlt, rfl⟩ := tk_drop h2
        obtain ⟨⟨f, q⟩, e1, i1, b1, e2, e3, e4, e5, e6⟩ := dorD hall ih (n := n) (i := i + 1) (by omega) (by omega) (by omega)
        obtain rfl : q = mkP all i1 b1 := e2
        have e5 : nodesF f + 2 * (all.length - i1) ≤ 2 * (all.length - (i + 1)) + 1 := e5
        simp only [cond_true, e1, Option.bind_some]
        rw [show pRow (pRow (pNot k) 1 [97, 110, 100] k) 2 [111, 114] k (all.drop (i + 1)) = pOr k (all.drop (i + 1)) from rfl]
        cases h4 : pOr k (all.drop (i + 1)) with
        | none =>
          rw [h4] at e6
          obtain rfl : b1 = true := e6
          refine ⟨(f, mkP all i1 true), ?_, i1, true, rfl, by omega, e4, by show nodesF f + _ ≤ _; omega, rfl⟩
          cases f; simp only [rmustB, Option.bind_some]
        | some q =>
          obtain ⟨g, r1⟩ := q
          rw [h4] at e6
          obtain ⟨e7, rfl, rfl⟩ := e6
          obtain rfl : f = g := e7
          have hm := rmust n (all := all) (i := i1) (by omega) [41]
          cases h5 : tk [41] (all.drop i1) with
          | none =>
            rw [h5] at hm
            refine ⟨(f, mkP all i1 true), ?_, i1, true, rfl, by omega, e4, by show nodesF f + _ ≤ _; omega, by simp [h5]⟩
            cases f; simp only [hm, Option.bind_some]
          | some r2 =>
            rw [h5] at hm
            obtain ⟨hlt2, rfl⟩ := tk_drop h5
            refine ⟨(f, mkP all (i1 + 1) false), ?_, i1 + 1, false, rfl, by omega, by omega, by show nodesF f + _ ≤ _; omega, by simp [h5]⟩
            cases f; simp only [hm, Option.bind_some]
      | none =>
        simp only [cond_false, rtakes n (show i ≤ 1000 by omega), Option.bind_some]
        cases h3 : tk [116, 114, 117, 101] (all.drop i) with
        | some r =>
          obtain ⟨hlt, rfl⟩ := tk_drop h3
          simp only [cond_true]
          exact ⟨_, rfl, RD_leaf' (by omega) (by omega) rfl⟩
        | none =>
          simp only [cond_false]
          obtain ⟨res, e, h⟩ := dleafD (n := n) (all := all) (i := i) (by omega) (by omega) hi
          rw [e, Option.bind_some]
          obtain ⟨f, q⟩ := res
          cases f
          exact ⟨_, rfl, h⟩
end Go.Proofs.YtaekecbadkcggaaGreatDoor
