/- Layer 16, plainly: RegionMoves. -/
import Derived.Test.YtngeejjllgnpcaaD16l
namespace Go.Proofs.Ytngeejjllgnpcaa
open Go.Pv
set_option linter.unusedSimpArgs false
set_option linter.unusedVariables false
set_option linter.unusedSectionVars false
set_option maxRecDepth 100000

def refO (g : tRegion) (v : tPoint) : tRegion × Int := ((mvO g v).1, match (mvO g v).2 with | none => 0 | some c => c)
theorem mvloop {n : Nat} {v : tPoint} : ∀ (r l done : List tPoint) (k : Nat), l = done ++ r → l.length ≤ 1000 → r.length < k →
    loopD (ε := Int × (List tPoint)) (τ := (List tPoint) ⊕ (tRegion × Int)) (fun (((i1, l1)) : Int × (List tPoint)) => (bif (decide (i1 < (l.length : Int))) then ((gi l i1).bind fun ok4 => (dref15_add n ok4 v).bind fun ok5 => bif (!ok5.2) then some (Sum.inr (Sum.inr ((tRegion.mk (tRect.mk 0 0 0 0) []), 11))) else ((ap l1 [ok5.1]).bind fun l4 => some (Sum.inl (W (i1 + 1), l4)))) else some (Sum.inr (Sum.inl l1)))) k ((done.length : Int), done.map fun p => ⟨W (p.X + v.X), W (p.Y + v.Y)⟩)
      = some (if (r.all fun p => addB p.X p.Y v.X v.Y) then .inl (l.map fun p => ⟨W (p.X + v.X), W (p.Y + v.Y)⟩) else .inr (⟨⟨0, 0, 0, 0⟩, []⟩, 11))
  | [], l, done, k, hl, hn, hk => by
    obtain ⟨k, rfl⟩ : ∃ j, k = j + 1 := ⟨k - 1, by omega⟩
    have e : l = done := by simpa using hl
    subst e
    refine loopD_end ?_
    have hd : decide ((l.length : Int) < (l.length : Int)) = false := by simp
    simp only [hd, cond_false, List.all_nil, if_true]
  | p :: r, l, done, k, hl, hn, hk => by
    obtain ⟨k, rfl⟩ : ∃ j, k = j + 1 := ⟨k - 1, by omega⟩
    have hlt : done.length < l.length := by rw [hl]; simp
    have hd : decide ((done.length : Int) < (l.length : Int)) = true := by simpa using hlt
    have hg : gi l (done.length : Int) = some p := by rw [gi_lt hlt]; simp [hl]
    have hap : ∀ x : tPoint, ap (done.map fun p => (⟨W (p.X + v.X), W (p.Y + v.Y)⟩ : tPoint)) [x] = some ((done.map fun p => (⟨W (p.X + v.X), W (p.Y + v.Y)⟩ : tPoint)) ++ [x]) := fun x => ap_ok (Nat.le_trans (show _ ≤ 1001 by simp; omega) (by decide))
    cases ha : addB p.X p.Y v.X v.Y with
    | false =>
      refine loopD_end ?_
      simp only [hd, cond_true, hg, Option.bind_some, dref15_add, ha, Bool.not_false, List.all_cons, Bool.false_and]
      rfl
    | true =>
      have ih := mvloop (n := n) (v := v) r l (done ++ [p]) k (by rw [hl]; simp) hn (by simp at hk; omega)
      have hw : W ((done.length : Int) + 1) = ((done.length + 1 : Nat) : Int) := W_suc (by omega)
      refine (loopD_go (s' := (((done ++ [p]).length : Int), (done ++ [p]).map fun p => (⟨W (p.X + v.X), W (p.Y + v.Y)⟩ : tPoint))) ?_).trans (ih.trans ?_)
      · simp only [hd, cond_true, cond_false, hg, Option.bind_some, dref15_add, ha, Bool.not_true, hap, hw, List.map_append, List.map_cons, List.map_nil, List.length_append, List.length_cons, List.length_nil]
      · simp only [List.all_cons, ha, Bool.true_and]
theorem dref15_Move_e {g : tRegion} {v : tPoint} (hl : g.Poly.length ≤ 70) {n : Nat} (hn : 1000 < n) : dref15_Move n g v = some (refO g v) := by
  unfold dref15_Move refO
  have hl2 : g.Poly.length ≤ maxLen := Nat.le_trans hl (by decide)
  have hR : dref15_Region n g = some (mayT g) := by unfold dref15_Region; rw [if_pos hl2]; rfl
  rw [hR, Option.bind_some]
  unfold mvO
  cases mayT g with
  | false => rfl
  | true =>
    simp only [Bool.not_true, cond_false, cond_true]
    cases g with
    | mk rc l =>
      cases l with
      | nil =>
        have h0 : ((([] : List tPoint).length : Int) == 0) = true := rfl
        simp only [h0, cond_true, dref15_add, Option.bind_some]
        have ho : okT' ⟨rc, []⟩ v = (addB rc.X1 rc.Y1 v.X v.Y && addB rc.X2 rc.Y2 v.X v.Y) := rfl
        rw [ho]
        cases addB rc.X1 rc.Y1 v.X v.Y <;> cases addB rc.X2 rc.Y2 v.X v.Y <;> rfl
      | cons q t =>
        have h0 : (((q :: t).length : Int) == 0) = false := beq_false_of_ne (by simp; omega)
        have hm := mvloop (n := n) (v := v) (q :: t) (q :: t) [] n rfl (Nat.le_trans hl (by decide)) (by simp at hl ⊢; omega)
        simp only [h0, cond_false]
        refine (congrArg (fun o => Option.bind o _) hm).trans ?_
        have ho : okT' ⟨rc, q :: t⟩ v = (q :: t).all fun p => addB p.X p.Y v.X v.Y := by
          show (ptL (q :: t)).all (addA (v.X, v.Y)) = _
          unfold ptL; rw [List.all_map]; rfl
        rw [ho]
        cases hA : ((q :: t).all fun p => addB p.X p.Y v.X v.Y) with
        | false => simp only [Option.bind_some, kS]; rfl
        | true =>
          have hmm : (q :: t).map (fun p => (⟨W (p.X + v.X), W (p.Y + v.Y)⟩ : tPoint)) = (q :: t).map fun p => ⟨(mv (v.X, v.Y) (p.X, p.Y)).1, (mv (v.X, v.Y) (p.X, p.Y)).2⟩ := by
            refine List.map_congr_left fun p hp => ?_
            have := List.all_eq_true.1 hA p hp
            obtain ⟨_, _, e1, e2, _⟩ := may_add this
            simp only [mv, e1, e2]
          simp only [Option.bind_some, kS, cond_true, if_true, hmm, mvR]
theorem RegionMoves_e (g : tRegion) (v : tPoint) (hl : g.Poly.length ≤ maxLen) : Ev fun n => dlaw16_RegionMoves n g v = some true := by
  refine Ev.ge 2000 fun n hn => ?_
  obtain ⟨n, rfl⟩ : ∃ m, n = m + 20 := ⟨n - 20, by omega⟩
  rw [dlaw16_RegionMoves]
  have hf : dref15_Few (n + 20) g = some (decide ((g.Poly.length : Int) ≤ 70)) := rfl
  rw [hf]
  simp only [dlaw16_up, Option.bind_some]
  cases hd : decide ((g.Poly.length : Int) ≤ 70) with
  | false => rfl
  | true =>
    have hl' : g.Poly.length ≤ 70 := by have := of_decide_eq_true hd; omega
    have hM : dregion_Move (n + 20) g v = some (mvO g v) := by unfold dregion_Move; rw [if_pos hl]
    rw [hM, dref15_Move_e hl' (by omega)]
    simp only [Bool.not_true, cond_false, cond_true, Option.bind_some]
    have hmv : (mvR g v).Poly.length ≤ maxLen := by
      obtain ⟨rc, l⟩ := g
      cases l with
      | nil => exact Nat.zero_le _
      | cons q t => show (List.map _ (q :: t)).length ≤ maxLen; rw [List.length_map]; exact hl
    have hlen : (mvO g v).1.Poly.length ≤ maxLen := by
      unfold mvO
      cases mayT g <;> cases okT' g v <;> first | exact Nat.zero_le _ | exact hmv
    have hS : dregion_Same (n + 20) (mvO g v).1 (mvO g v).1 = some true := by
      unfold dregion_Same; rw [if_pos hlen]; simp [sameG, sameR, eqL]
    have hc : dlaw00_Code (n + 20) (mvO g v).2 = some (refO g v).2 := by
      unfold refO mvO
      cases mayT g with
      | false => kernel_rfl
      | true => cases okT' g v with
        | false => kernel_rfl
        | true => kernel_rfl
    rw [hc, Option.bind_some, beq_self_eq_true, cond_true, show (refO g v).1 = (mvO g v).1 from rfl, hS]; rfl
theorem RegionMoves_c {g : tRegion} {v : tPoint} (hg : ok_tRegion g) (hv : ok_tPoint v) : PCall Try.prog 9 [.agg (c_tRegion g), .agg (c_tPoint v)] (· = .bool true) := by
  obtain ⟨n, h⟩ := (RegionMoves_e g v hg.2.1).get
  exact dlaw16_RegionMoves_l h
end Go.Proofs.Ytngeejjllgnpcaa
