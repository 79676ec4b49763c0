/- Layer 18: the two laws. -/
import Derived.Test.YtngeejjllgnpcaaE18c
namespace Go.Proofs.Ytngeejjllgnpcaa
open Go.Pv
set_option linter.unusedVariables false
set_option linter.unusedSimpArgs false
set_option maxRecDepth 10000

theorem cv_n {s : Int} {r : tRect} {k x1 y1 x2 y2 n : Nat} (h : Cv s r k x1 y1 x2 y2) (hn : ∀ x : Int, Bd x → (cel s x).toNat ≤ n) : x2 ≤ n ∧ y2 ≤ n := by
  have h1 := hn _ h.b3
  have h2 := hn _ h.b4
  rw [h.c3] at h1; rw [h.c4] at h2
  simpa using ⟨h1, h2⟩
theorem OwnTells_e (s b : Int) (p : tPoint) (r : tRect) (fu : Nat) (hfu : 40000 ≤ fu) : dlaw18_OwnTells fu s b p r = some true := by
  unfold dlaw18_OwnTells
  rw [up18_l hfu]
  simp only [Option.bind_some, dref01_Shift, dref01_May, dref01_Rect]
  by_cases hb : mayS s = true ∧ 1 ≤ b ∧ b ≤ 64
  · obtain ⟨hs, hb1, hb2⟩ := hb
    obtain ⟨b, rfl⟩ := Int.eq_ofNat_of_zero_le (a := b) (by omega)
    obtain ⟨n, L, sd, hn⟩ := sd_of hs
    have hx1 : (bif (!mayS s) then some true else bif decide ((b : Int) < 1) then some true else some (decide ((b : Int) > 64)) : Option Bool) = some false := by
      rw [hs, decide_eq_false (by omega), decide_eq_false (by omega)]; rfl
    have hOf : ∃ v e, down_Of fu s (b : Int) p = some (v, e) ∧ ((bif (!mayP p.X p.Y) then ((bif (!(e == some 11)) then some true else some (v != 0) : Option Bool).bind fun (x4 : Bool) => (bif x4 then some (Sum.inr false) else some (Sum.inl ()))) else ((bif e.isSome then some true else ((dref15_Of fu s (b : Int) p).bind fun x6 => some (v != x6)) : Option Bool).bind fun (x5 : Bool) => (bif x5 then some (Sum.inr false) else some (Sum.inl ()))) : Option (Unit ⊕ Bool)) = some (.inl ())) := by
      cases hp : mayP p.X p.Y with
      | false => exact ⟨0, some 11, Of_far hs (by omega) (by omega) hp, rfl⟩
      | true =>
        obtain ⟨h1, h2, _⟩ := Of_yes (fu := fu) (b := b) sd hn (by omega) (by omega) hp
        refine ⟨_, none, h1, ?_⟩
        rw [h2]
        simp
    obtain ⟨v, e, hv, hok⟩ := hOf
    rw [hv]
    cases hr : mayT r with
    | false =>
      rw [All_rect (by rw [hr]; rfl)]
      simp only [Option.bind_some]
      rw [hx1]
      simp only [Option.bind_some, cond_false]
      rw [hok]
      rfl
    | true =>
      obtain ⟨k, x1, y1, x2, y2, hc⟩ := cv_of hs hr
      obtain ⟨hx, hy⟩ := cv_n hc hn
      rw [All_yes hc hr sd hx hy (by omega) (by omega) hfu]
      simp only [Option.bind_some]
      rw [hx1]
      simp only [Option.bind_some, cond_false]
      rw [hok]
      simp only [Option.bind_some, kS, Bool.not_true, cond_false]
      rw [Ref_all hc hr sd hx hy (by omega) (by omega) hfu]
      simp only [Option.bind_some, Option.isSome_none, cond_false, bne_self_eq_false]
      have hl := celL_len x1 x2 y1 y2 hc.ly
      have hx' := hc.lx
      have hll : (owL L b x1 x2 y1 y2).length ≤ 17000 := by unfold owL; rw [List.length_map, srt_len]; omega
      have hcl : (cpt (owL L b x1 x2 y1 y2)).length ≤ 17000 := by
        have := cpt_len_take (s := owL L b x1 x2 y1 y2) (j := (owL L b x1 x2 y1 y2).length)
        rw [List.take_length] at this
        omega
      rw [cmp_l (by unfold capN; omega) (by omega)]
      rfl
  · have hx1 : (bif (!mayS s) then some true else bif decide (b < 1) then some true else some (decide (b > 64)) : Option Bool) = some true := by
      cases hs : mayS s with
      | false => rfl
      | true =>
        by_cases h1 : b < 1
        · rw [decide_eq_true h1]; rfl
        · rw [decide_eq_false h1, decide_eq_true (show b > 64 from Classical.byContradiction fun h2 => hb ⟨hs, by omega, by omega⟩)]; rfl
    have hno : mayS s = false ∨ b < 1 ∨ b > 64 := by
      cases hs : mayS s with
      | false => exact .inl rfl
      | true => exact .inr (Classical.byContradiction fun h => hb ⟨hs, by omega, by omega⟩)
    have hAll : down_All fu s b r = some ([], some 1) := by
      cases hs : mayS s with
      | false => exact All_rect (by rw [hs, Bool.and_false])
      | true => exact All_no hfu hs (hno.resolve_left (by rw [hs]; simp))
    rw [Of_no hno, hAll]
    simp only [Option.bind_some]
    rw [hx1]
    rfl
theorem OwnTells_c {s b : Int} {p : tPoint} {r : tRect} (h1 : Go.Pv.okI .i64 s) (h2 : Go.Pv.okI .i64 b) (h3 : ok_tPoint p) (h4 : ok_tRect r) : PCall Try.prog 13 [.int .i64 s, .int .i64 b, .agg (c_tPoint p), .agg (c_tRect r)] (· = .bool true) :=
  dlaw18_OwnTells_l (OwnTells_e s b p r 40000 (Nat.le_refl _))
/-- A loop that looks for a number in a list that rises, and is within bounds. -/
theorem met_b {τ : Type} {l : List Int} {v b : Int} {fin : Bool → τ} {bad : τ} {fu : Nat} (hl : l.length ≤ capN) (hfu : l.length < fu) (hr : l.Pairwise (· < ·)) (hin : ∀ x ∈ l, 0 ≤ x ∧ x < b) :
    loopD (ε := Bool × Int) (τ := τ) (fun (((met1, i1)) : Bool × Int) => (bif (decide (i1 < (l.length : Int))) then ((bif met1 then some true else ((gi l i1).bind fun met5 => some (met5 == v)) : Option Bool).bind fun (met4 : Bool) => (((gi l i1).bind fun x3 => bif (decide (x3 < 0)) then some true else ((gi l i1).bind fun x4 => bif (decide (x4 ≥ b)) then some true else (bif (decide (i1 > 0)) then ((gi l i1).bind fun x5 => (gi l (W (i1 - 1))).bind fun x6 => some (decide (x5 ≤ x6))) else some false)) : Option Bool).bind fun (x2 : Bool) => (bif x2 then some (Sum.inr bad) else some (Sum.inl (met4, W (i1 + 1)))))) else some (Sum.inr (fin met1)))) fu (false, 0) = some (fin (l.contains v)) := by
  unfold capN at hl
  have key := loopD_traj (body := fun (((met1, i1)) : Bool × Int) => (bif (decide (i1 < (l.length : Int))) then ((bif met1 then some true else ((gi l i1).bind fun met5 => some (met5 == v)) : Option Bool).bind fun (met4 : Bool) => (((gi l i1).bind fun x3 => bif (decide (x3 < 0)) then some true else ((gi l i1).bind fun x4 => bif (decide (x4 ≥ b)) then some true else (bif (decide (i1 > 0)) then ((gi l i1).bind fun x5 => (gi l (W (i1 - 1))).bind fun x6 => some (decide (x5 ≤ x6))) else some false)) : Option Bool).bind fun (x2 : Bool) => (bif x2 then some (Sum.inr bad) else some (Sum.inl (met4, W (i1 + 1)))))) else some (Sum.inr (fin met1)))) (fun i : Nat => ((l.take i).contains v, (i : Int))) l.length (e := fin (l.contains v)) ?_ ?_ fu hfu
  · simpa using key
  · intro i hi
    dsimp only
    rw [show decide ((i : Int) < (l.length : Int)) = true from decide_eq_true (by omega), cond_true, gi_lt hi]
    have h1 : (bif (l.take i).contains v then some true else (some l[i]).bind fun met5 => some (met5 == v) : Option Bool) = some ((l.take (i + 1)).contains v) := by
      rw [List.take_succ_eq_append_getElem hi]
      cases hc : (l.take i).contains v with
      | true => simp only [cond_true, List.contains_append, hc, Bool.true_or]
      | false =>
        simp only [cond_false, List.contains_append, hc, Bool.false_or, Option.bind_some]
        congr 1
        rw [Bool.eq_iff_iff, List.contains_iff_mem, List.mem_singleton, beq_iff_eq]
        exact ⟨Eq.symm, Eq.symm⟩
    rw [h1]
    obtain ⟨q1, q2⟩ := hin _ (List.getElem_mem hi)
    simp only [Option.bind_some]
    rw [decide_eq_false (show ¬ l[i] < 0 by omega), decide_eq_false (show ¬ l[i] ≥ b by omega)]
    have h2 : (bif decide ((i : Int) > 0) then (gi l (W ((i : Int) - 1))).bind fun x11 => some (decide (l[i] ≤ x11)) else some false : Option Bool) = some false := by
      by_cases h0 : 0 < i
      · rw [show decide ((i : Int) > 0) = true from decide_eq_true (by omega), cond_true, nW_sub1 (by omega) h0, gi_lt (show i - 1 < l.length by omega)]
        simp only [Option.bind_some]
        have := List.pairwise_iff_getElem.1 hr (i - 1) i (by omega) hi (by omega)
        rw [decide_eq_false (by omega)]
      · rw [show decide ((i : Int) > 0) = false from decide_eq_false (by omega)]; rfl
    simp only [cond_false]
    rw [h2]
    simp only [Option.bind_some, cond_false]
    rw [nW_add1 (by omega)]
  · dsimp only
    rw [show decide ((l.length : Int) < (l.length : Int)) = false from decide_eq_false (by omega), List.take_length]; rfl
theorem OwnAmong_e (s b : Int) (p : tPoint) (r : tRect) (fu : Nat) (hfu : 40000 ≤ fu) : dlaw18_OwnAmong fu s b p r = some true := by
  unfold dlaw18_OwnAmong
  rw [up18_l hfu]
  simp only [Option.bind_some, dref01_In]
  by_cases hb : mayS s = true ∧ 1 ≤ b ∧ b ≤ 64
  · obtain ⟨hs, hb1, hb2⟩ := hb
    obtain ⟨b, rfl⟩ := Int.eq_ofNat_of_zero_le (a := b) (by omega)
    obtain ⟨n, L, sd, hn⟩ := sd_of hs
    cases hp : mayP p.X p.Y with
    | false =>
      rw [Of_far hs (by omega) (by omega) hp]
      cases hr : mayT r with
      | false => rw [All_rect (by rw [hr]; rfl)]; rfl
      | true =>
        obtain ⟨k, x1, y1, x2, y2, hc⟩ := cv_of hs hr
        obtain ⟨hx, hy⟩ := cv_n hc hn
        rw [All_yes hc hr sd hx hy (by omega) (by omega) hfu]; rfl
    | true =>
      obtain ⟨h1, _, h3⟩ := Of_yes (fu := fu) (b := b) sd hn (by omega) (by omega) hp
      rw [h1]
      cases hr : mayT r with
      | false => rw [All_rect (by rw [hr]; rfl)]; rfl
      | true =>
        obtain ⟨k, x1, y1, x2, y2, hc⟩ := cv_of hs hr
        obtain ⟨hx, hy⟩ := cv_n hc hn
        rw [All_yes hc hr sd hx hy (by omega) (by omega) hfu]
        simp only [Option.bind_some, Option.isSome_none, cond_false]
        have hl := celL_len x1 x2 y1 y2 hc.ly
        have hx' := hc.lx
        have hll : (owL L b x1 x2 y1 y2).length ≤ 17000 := by unfold owL; rw [List.length_map, srt_len]; omega
        have hcl : (cpt (owL L b x1 x2 y1 y2)).length ≤ 17000 := by
          have := cpt_len_take (s := owL L b x1 x2 y1 y2) (j := (owL L b x1 x2 y1 y2).length)
          rw [List.take_length] at this
          omega
        rw [met_b (fin := fun m => (Sum.inl m : Bool ⊕ Bool)) (by unfold capN; omega) (by omega) (cpt_lt (owL_le hx hy sd.n2 sd.eL)) (fun x hx0 => owL_in hx hy sd.n2 sd.eL (by omega) x ((mem_cpt _ _).1 hx0))]
        simp only [Option.bind_some, kS, cond_true]
        obtain ⟨q1, q2⟩ := ow_lt (L := L) (b := b) (m := codN (cel s p.X).toNat (cel s p.Y).toNat) (by omega) h3
        rw [decide_eq_true (show owN L b (codN (cel s p.X).toNat (cel s p.Y).toNat) ≥ 0 by omega), decide_eq_true q2]
        simp only [cond_true]
        cases hi : inT r p with
        | false => rfl
        | true =>
          simp only [Bool.not_true, cond_false]
          congr 1
          rw [List.contains_iff_mem, mem_cpt]
          unfold owL
          obtain ⟨cx, cy, e1, e2, l1, l2, hin⟩ := in_cvb hc hp
          rw [e1, e2]
          simp only [Int.toNat_natCast]
          have hbx : inT (cvT s r) p = true := by
            have h1 := inT_iff.1 hi
            have h2 := box_holds hc
            unfold hoT inR at h2
            simp only [Bool.and_eq_true, decide_eq_true_eq] at h2
            rw [inT_iff]
            omega
          have hmem : ((codN cx cy : Nat) : Int) ∈ srt (celL x1 x2 y1 y2) := (srt_p _).mem_iff.2 ((mem_cel hc.lx hc.ly l1 l2).2 (hin.1 hbx))
          exact List.mem_map.2 ⟨_, hmem, by simp⟩
  · have hno : mayS s = false ∨ b < 1 ∨ b > 64 := by
      cases hs : mayS s with
      | false => exact .inl rfl
      | true => exact .inr (Classical.byContradiction fun h => hb ⟨hs, by omega, by omega⟩)
    have hAll : down_All fu s b r = some ([], some 1) := by
      cases hs : mayS s with
      | false => exact All_rect (by rw [hs, Bool.and_false])
      | true => exact All_no hfu hs (hno.resolve_left (by rw [hs]; simp))
    rw [Of_no hno, hAll]
    rfl
theorem OwnAmong_c {s b : Int} {p : tPoint} {r : tRect} (h1 : Go.Pv.okI .i64 s) (h2 : Go.Pv.okI .i64 b) (h3 : ok_tPoint p) (h4 : ok_tRect r) : PCall Try.prog 14 [.int .i64 s, .int .i64 b, .agg (c_tPoint p), .agg (c_tRect r)] (· = .bool true) :=
  dlaw18_OwnAmong_l (OwnAmong_e s b p r 40000 (Nat.le_refl _))
end Go.Proofs.Ytngeejjllgnpcaa
