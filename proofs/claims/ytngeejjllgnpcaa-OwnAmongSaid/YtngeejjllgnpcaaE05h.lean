/- Layer 5: CoverHolds. -/
import Derived.Test.YtngeejjllgnpcaaE05l
namespace Go.Proofs.Ytngeejjllgnpcaa
open Go.Pv
set_option linter.unusedVariables false
set_option linter.unusedSimpArgs false
set_option maxRecDepth 10000

theorem lo_le {p x : Int} {a : Nat} (h : P8 p) : (a : Int) * p - 1073741824 ≤ x ↔ (a : Int) ≤ (x + 1073741824) / p := by
  rw [Int.le_ediv_iff_mul_le h.pos]; omega
theorem le_hi {p x : Int} {a : Nat} (h : P8 p) (hx : x ≤ 1073741824) : x ≤ min (((a : Int) + 1) * p - 1073741824 - 1) 1073741824 ↔ (x + 1073741824) / p ≤ a := by
  have h1 := Int.ediv_lt_iff_lt_mul (a := x + 1073741824) (b := (a : Int) + 1) h.pos
  constructor
  · intro h2
    have := h1.2 (by omega)
    omega
  · intro h2
    have := h1.1 (by omega)
    omega
theorem inT_iff {r : tRect} {q : tPoint} : inT r q = true ↔ (r.X1 ≤ q.X ∧ q.X ≤ r.X2) ∧ (r.Y1 ≤ q.Y ∧ q.Y ≤ r.Y2) := by
  unfold inT inR
  simp only [Bool.and_eq_true, decide_eq_true_eq]
  omega
/-- Its box holds a rectangle. -/
theorem box_holds {s : Int} {r : tRect} {k x1 y1 x2 y2 : Nat} (h : Cv s r k x1 y1 x2 y2) : hoT (cvT s r) r = true := by
  obtain ⟨p1, b1, d1, d2, d3, d4, g1, g2⟩ := bx_of h
  have p8 : P8 (twoK k) := p1
  unfold hoT inR
  rw [b1]
  simp only [Bool.and_eq_true, decide_eq_true_eq]
  have a1 := (lo_le p8 (x := r.X1) (a := x1)).2 (by omega)
  have a2 := (lo_le p8 (x := r.Y1) (a := y1)).2 (by omega)
  have a3 := (le_hi p8 (x := r.X2) (a := x2) g1.2.2).2 (by omega)
  have a4 := (le_hi p8 (x := r.Y2) (a := y2) g2.2.2).2 (by omega)
  omega
/-- Its box may be, and has the same cover. -/
theorem box_same {s : Int} {r : tRect} {k x1 y1 x2 y2 : Nat} (h : Cv s r k x1 y1 x2 y2) : mayT (cvT s r) = true ∧ spT s (cvT s r) = spT s r := by
  obtain ⟨p1, b1, d1, d2, d3, d4, g1, g2⟩ := bx_of h
  have p8 : P8 (twoK k) := p1
  have hp := p8.pos
  have a1 := (lo_le p8 (x := r.X1) (a := x1)).2 (by omega)
  have a2 := (lo_le p8 (x := r.Y1) (a := y1)).2 (by omega)
  have a3 := (le_hi p8 (x := r.X2) (a := x2) g1.2.2).2 (by omega)
  have a4 := (le_hi p8 (x := r.Y2) (a := y2) g2.2.2).2 (by omega)
  have z1 : 0 ≤ (x1 : Int) * twoK k := Int.mul_nonneg (by omega) (by omega)
  have z2 : 0 ≤ (y1 : Int) * twoK k := Int.mul_nonneg (by omega) (by omega)
  have z3 := le_mul p8 g1.2.2 d3
  have z4 := le_mul p8 g2.2.2 d4
  have bd1 : Bd (cvT s r).X1 := by rw [b1]; unfold Bd; dsimp only; omega
  have bd2 : Bd (cvT s r).Y1 := by rw [b1]; unfold Bd; dsimp only; omega
  have bd3 : Bd (cvT s r).X2 := by rw [b1]; unfold Bd; dsimp only; omega
  have bd4 : Bd (cvT s r).Y2 := by rw [b1]; unfold Bd; dsimp only; omega
  refine ⟨?_, ?_⟩
  · unfold mayT
    refine mayR_iff.2 ⟨⟨bd1, bd2, bd3, bd4⟩, ?_, ?_⟩
    · rw [b1]; dsimp only; omega
    · rw [b1]; dsimp only; omega
  · rw [h.sp]
    have hes := h.es
    subst hes
    unfold spT
    rw [cel_lit h.hk bd1, cel_lit h.hk bd2, cel_lit h.hk bd3, cel_lit h.hk bd4, b1]
    dsimp only
    rw [hi_is p8 z3, hi_is p8 z4, show (x1 : Int) * twoK k - 1073741824 + 1073741824 = x1 * twoK k by omega, show (y1 : Int) * twoK k - 1073741824 + 1073741824 = y1 * twoK k by omega, Int.mul_ediv_cancel _ (by omega), Int.mul_ediv_cancel _ (by omega)]
/-- A point's cell is one of a rectangle's cells, if the point is in their box. -/
theorem in_cvb {s : Int} {r : tRect} {k x1 y1 x2 y2 : Nat} (h : Cv s r k x1 y1 x2 y2) {q : tPoint} (hq : mayP q.X q.Y = true) : ∃ cx cy : Nat, cel s q.X = cx ∧ cel s q.Y = cy ∧ cx ≤ 128 ∧ cy ≤ 128 ∧ (inT (cvT s r) q = true ↔ (x1 ≤ cx ∧ cx ≤ x2) ∧ (y1 ≤ cy ∧ cy ≤ y2)) := by
  obtain ⟨p1, b1, d1, d2, d3, d4, g1, g2⟩ := bx_of h
  have p8 : P8 (twoK k) := p1
  obtain ⟨hx, hy⟩ := mayP_iff.1 hq
  have hes := h.es
  obtain ⟨e1, l1, v1⟩ := cel_n h.hk hx
  obtain ⟨e2, l2, v2⟩ := cel_n h.hk hy
  refine ⟨celN k q.X, celN k q.Y, by rw [hes]; exact e1, by rw [hes]; exact e2, l1, l2, ?_⟩
  rw [inT_iff, b1]
  dsimp only
  unfold Bd at hx hy
  rw [lo_le p8, lo_le p8, le_hi p8 hx.2, le_hi p8 hy.2, ← v1, ← v2]
  omega
/-- A loop that looks for a number in a list that rises. -/
theorem met_l {τ : Type} {l : List Int} {v : Int} {fin : Bool → τ} {bad : τ} {fu : Nat} (hl : l.length ≤ capN) (hfu : l.length < fu) (hr : l.Pairwise (· < ·)) :
    loopD (ε := Bool × Int) (τ := τ) (fun (((met1, i1)) : Bool × Int) => (bif (decide (i1 < (l.length : Int))) then ((bif met1 then some true else ((gi l i1).bind fun met5 => some (met5 == v)) : Option Bool).bind fun (met4 : Bool) => ((bif (decide (i1 > 0)) then ((gi l i1).bind fun x10 => (gi l (W (i1 - 1))).bind fun x11 => some (decide (x10 ≤ x11))) else some false : Option Bool).bind fun (x9 : Bool) => (bif x9 then some (Sum.inr bad) else some (Sum.inl (met4, W (i1 + 1)))))) else some (Sum.inr (fin met1)))) fu (false, 0) = some (fin (l.contains v)) := by
  unfold capN at hl
  have key := loopD_traj (body := fun (((met1, i1)) : Bool × Int) => (bif (decide (i1 < (l.length : Int))) then ((bif met1 then some true else ((gi l i1).bind fun met5 => some (met5 == v)) : Option Bool).bind fun (met4 : Bool) => ((bif (decide (i1 > 0)) then ((gi l i1).bind fun x10 => (gi l (W (i1 - 1))).bind fun x11 => some (decide (x10 ≤ x11))) else some false : Option Bool).bind fun (x9 : Bool) => (bif x9 then some (Sum.inr bad) else some (Sum.inl (met4, W (i1 + 1)))))) else some (Sum.inr (fin met1)))) (fun i : Nat => ((l.take i).contains v, (i : Int))) l.length (e := fin (l.contains v)) ?_ ?_ fu hfu
  · simpa using key
  · intro i hi
    dsimp only
    rw [show decide ((i : Int) < (l.length : Int)) = true from decide_eq_true (by omega), cond_true, gi_lt hi]
    have h1 : (bif (l.take i).contains v then some true else (some l[i]).bind fun met5 => some (met5 == v) : Option Bool) = some ((l.take (i + 1)).contains v) := by
      rw [List.take_succ_eq_append_getElem hi]
      cases hc : (l.take i).contains v with
      | true => simp only [cond_true, List.contains_append, hc, Bool.true_or]
      | false =>
        simp only [cond_false, List.contains_append, hc, Bool.false_or, Option.bind_some]
        congr 1
        rw [Bool.eq_iff_iff, List.contains_iff_mem, List.mem_singleton, beq_iff_eq]
        exact ⟨Eq.symm, Eq.symm⟩
    rw [h1]
    have h2 : (bif decide ((i : Int) > 0) then (some l[i]).bind fun x10 => (gi l (W ((i : Int) - 1))).bind fun x11 => some (decide (x10 ≤ x11)) else some false : Option Bool) = some false := by
      by_cases h0 : 0 < i
      · rw [show decide ((i : Int) > 0) = true from decide_eq_true (by omega), cond_true, nW_sub1 (by omega) h0, gi_lt (show i - 1 < l.length by omega)]
        simp only [Option.bind_some]
        have := List.pairwise_iff_getElem.1 hr (i - 1) i (by omega) hi (by omega)
        rw [decide_eq_false (by omega)]
      · rw [show decide ((i : Int) > 0) = false from decide_eq_false (by omega)]; rfl
    simp only [Option.bind_some]
    simp only [Option.bind_some] at h2
    rw [h2]
    simp only [Option.bind_some, cond_false]
    rw [nW_add1 (by omega)]
  · dsimp only
    rw [show decide ((l.length : Int) < (l.length : Int)) = false from decide_eq_false (by omega), List.take_length]; rfl
theorem contains_srt (l : List Int) (v : Int) : (srt l).contains v = l.contains v := by
  rw [Bool.eq_iff_iff, List.contains_iff_mem, List.contains_iff_mem]
  exact (srt_p l).mem_iff
theorem CoverHolds_e (s : Int) (a : tRect) (q : tPoint) (fu : Nat) (hfu : 40000 ≤ fu) : dlaw05_CoverHolds fu s a q = some true := by
  unfold dlaw05_CoverHolds
  rw [up05_l hfu]
  simp only [Option.bind_some]
  by_cases hm : mayS s = true ∧ mayT a = true
  · obtain ⟨hs, ha⟩ := hm
    obtain ⟨k, x1, y1, x2, y2, hc⟩ := cv_of hs ha
    rw [cells_c hc ha hfu, (Box_l (fu := fu) ha hs).1]
    simp only [Option.bind_some, Option.isSome_none, cond_false, dref01_Holds, box_holds hc, Bool.not_true]
    rw [Same_l ha hs]
    have hsame := box_same hc
    rw [hsame.1, hsame.2, eqR_iff.2 rfl]
    simp only [Option.bind_some, Bool.and_self, Bool.not_true, cond_false, dmorton_Cell, hs, dref01_In]
    have hl := celL_len x1 x2 y1 y2 hc.ly
    have hx := hc.lx
    have hll : (srt (celL x1 x2 y1 y2)).length ≤ 17000 := by rw [srt_len]; omega
    cases hq : mayP q.X q.Y with
    | false =>
      simp only [clO, cond_true, cond_false, Option.bind_some, dmorton_Code, Option.isSome_some]
      have : inT a q = false := by
        cases hi : inT a q with
        | false => rfl
        | true =>
          exfalso
          have h1 := inT_iff.1 hi
          have b1 := hc.b1; have b2 := hc.b2; have b3 := hc.b3; have b4 := hc.b4
          unfold Bd at b1 b2 b3 b4
          have : mayP q.X q.Y = true := mayP_iff.2 ⟨by unfold Bd; omega, by unfold Bd; omega⟩
          rw [hq] at this; cases this
      rw [this]; rfl
    | true =>
      obtain ⟨cx, cy, e1, e2, l1, l2, hin⟩ := in_cvb hc hq
      rw [e1, e2]
      simp only [clO, cond_true, Option.bind_some]
      rw [code_code (by omega) (by omega)]
      simp only [Option.bind_some, Option.isSome_none, cond_false]
      rw [met_l (by unfold capN; omega) (by omega) (srt_lt (celL_nd hc.lx hc.ly)) (fin := fun m => (Sum.inl m : Bool ⊕ Bool)), contains_srt]
      simp only [Option.bind_some, kS]
      have hb : (celL x1 x2 y1 y2).contains ((codN cx cy : Nat) : Int) = inT (cvT s a) q := by
        rw [Bool.eq_iff_iff, List.contains_iff_mem, mem_cel hc.lx hc.ly l1 l2, hin]
      rw [hb, beq_self_eq_true]
      have himp : inT a q = true → inT (cvT s a) q = true := by
        intro hi
        have h1 := inT_iff.1 hi
        have h2 := box_holds hc
        unfold hoT inR at h2
        simp only [Bool.and_eq_true, decide_eq_true_eq] at h2
        rw [inT_iff]
        omega
      cases hi : inT a q with
      | false => rfl
      | true => rw [himp hi]; rfl
  · have h : (mayT a && mayS s) = false := by
      cases h1 : mayS s <;> cases h2 : mayT a <;> simp_all
    obtain ⟨h1, h2, h3⟩ := no_l (fu := fu) (b := a) h
    rw [h1, h2]
    rfl
theorem CoverHolds_c {s : Int} {a : tRect} {q : tPoint} (h1 : Go.Pv.okI .i64 s) (h2 : ok_tRect a) (h3 : ok_tPoint q) : PCall Try.prog 12 [.int .i64 s, .agg (c_tRect a), .agg (c_tPoint q)] (· = .bool true) :=
  dlaw05_CoverHolds_l (CoverHolds_e s a q 40000 (Nat.le_refl _))
end Go.Proofs.Ytngeejjllgnpcaa
