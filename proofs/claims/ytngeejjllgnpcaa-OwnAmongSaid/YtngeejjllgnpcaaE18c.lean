/- Layer 18: all owners of a cover. -/
import Derived.Test.YtngeejjllgnpcaaE18b
namespace Go.Proofs.Ytngeejjllgnpcaa
open Go.Pv
set_option linter.unusedVariables false
set_option linter.unusedSimpArgs false
set_option maxRecDepth 10000

theorem mem_cptR (x : Int) : ∀ (l : List Int) (v : Int), v ∈ x :: cptR x l ↔ v ∈ x :: l := by
  intro l
  induction l generalizing x with
  | nil => intro v; rfl
  | cons y l ih =>
    intro v
    rw [cptR]
    by_cases h : y = x
    · rw [if_pos h, ih x v]
      subst h
      simp
    · rw [if_neg h]
      have := ih y v
      simp only [List.mem_cons] at this ⊢
      rw [this]
theorem mem_cpt (l : List Int) (v : Int) : v ∈ cpt l ↔ v ∈ l := by
  cases l with
  | nil => rfl
  | cons x l => rw [cpt_cons]; exact mem_cptR x l v
theorem cptR_lt : ∀ (l : List Int) (x : Int), (x :: l).Pairwise (· ≤ ·) → (x :: cptR x l).Pairwise (· < ·) := by
  intro l
  induction l with
  | nil => intro x _; exact List.pairwise_singleton _ _
  | cons y l ih =>
    intro x h
    rw [cptR]
    rw [List.pairwise_cons] at h
    by_cases hy : y = x
    · rw [if_pos hy]
      exact ih x (hy ▸ h.2)
    · rw [if_neg hy, List.pairwise_cons]
      refine ⟨fun v hv => ?_, ih y h.2⟩
      have h1 := h.1 y (by simp)
      have h2 := (mem_cptR y l v).1 hv
      rcases List.mem_cons.1 h2 with rfl | h2
      · omega
      · have := (List.pairwise_cons.1 h.2).1 v h2
        omega
theorem cpt_lt {l : List Int} (h : l.Pairwise (· ≤ ·)) : (cpt l).Pairwise (· < ·) := by
  cases l with
  | nil => exact List.Pairwise.nil
  | cons x l => rw [cpt_cons]; exact cptR_lt l x h
theorem lt_u {l m : List Int} (hl : l.Pairwise (· < ·)) (hm : m.Pairwise (· < ·)) (h : ∀ v, v ∈ l ↔ v ∈ m) : l = m := by
  have nl : l.Nodup := hl.imp (fun h => by omega)
  have nm : m.Nodup := hm.imp (fun h => by omega)
  have hp : l.Perm m := (List.perm_ext_iff_of_nodup nl nm).2 h
  exact List.Perm.eq_of_pairwise (le := (· < ·)) (fun a b _ _ h1 h2 => by omega) hl hm hp
/-- A loop that puts what is told of each. -/
theorem map_l {τ : Type} {l : List Int} {f : Int → Int} {fin : List Int → τ} {bad : Er → τ} {g : Int → Option (Int × Er)} {fu : Nat} (hl : l.length ≤ capN) (hfu : l.length < fu) (hg : ∀ x ∈ l, g x = some (f x, none)) :
    loopD (ε := Int × (List Int)) (τ := τ) (fun (((x1, out1)) : Int × (List Int)) => (bif (decide (x1 < (l.length : Int))) then ((gi l x1).bind fun code1 => (g code1).bind fun n1 => bif n1.2.isSome then some (Sum.inr (bad n1.2)) else ((ap out1 [n1.1]).bind fun out4 => some (Sum.inl (W (x1 + 1), out4)))) else some (Sum.inr (fin out1)))) fu (0, []) = some (fin (l.map f)) := by
  unfold capN at hl
  have key := loopD_traj (body := fun (((x1, out1)) : Int × (List Int)) => (bif (decide (x1 < (l.length : Int))) then ((gi l x1).bind fun code1 => (g code1).bind fun n1 => bif n1.2.isSome then some (Sum.inr (bad n1.2)) else ((ap out1 [n1.1]).bind fun out4 => some (Sum.inl (W (x1 + 1), out4)))) else some (Sum.inr (fin out1)))) (fun i : Nat => ((i : Int), (l.take i).map f)) l.length (e := fin (l.map f)) ?_ ?_ fu hfu
  · simpa using key
  · intro i hi
    dsimp only
    rw [show decide ((i : Int) < (l.length : Int)) = true from decide_eq_true (by omega), cond_true, gi_lt hi]
    simp only [Option.bind_some]
    rw [hg _ (List.getElem_mem hi)]
    simp only [Option.bind_some, Option.isSome_none, cond_false]
    rw [ap_ok (by simp [capN]; omega), nW_add1 (by omega), List.take_succ_eq_append_getElem hi, List.map_append]
    rfl
  · dsimp only
    rw [show decide ((l.length : Int) < (l.length : Int)) = false from decide_eq_false (by omega), List.take_length]; rfl
/-- The owners, in the order of the cells. -/
def owL (L b x1 x2 y1 y2 : Nat) : List Int := (srt (celL x1 x2 y1 y2)).map fun x => owN L b x.toNat
theorem cel_all {x1 x2 y1 y2 n L : Nat} (hx : x2 ≤ n) (hy : y2 ≤ n) (hn : n ≤ 128) (hL : L = codN n n) : ∀ v ∈ srt (celL x1 x2 y1 y2), ∃ m : Nat, v = (m : Int) ∧ m ≤ L := by
  intro v hv
  have hv := (srt_p _).mem_iff.1 hv
  unfold celL spn at hv
  simp only [List.mem_flatMap, List.mem_singleton, List.mem_range'_1] at hv
  obtain ⟨x, hx', y, hy', rfl⟩ := hv
  exact ⟨_, rfl, by rw [hL]; exact cod_le (by omega) (by omega) hn⟩
theorem owL_le {L b x1 x2 y1 y2 n : Nat} (hx : x2 ≤ n) (hy : y2 ≤ n) (hn : n ≤ 128) (hL : L = codN n n) : (owL L b x1 x2 y1 y2).Pairwise (· ≤ ·) := by
  unfold owL
  rw [List.pairwise_map]
  refine (srt_s (celL x1 x2 y1 y2)).imp_of_mem ?_
  intro a b' ha hb h
  obtain ⟨m, rfl, _⟩ := cel_all hx hy hn hL a ha
  obtain ⟨m', rfl, _⟩ := cel_all hx hy hn hL b' hb
  simp only [Int.toNat_natCast]
  exact ow_mono (by simpa using h)
theorem owL_in {L b x1 x2 y1 y2 n : Nat} (hx : x2 ≤ n) (hy : y2 ≤ n) (hn : n ≤ 128) (hL : L = codN n n) (hb : 1 ≤ b) : ∀ v ∈ owL L b x1 x2 y1 y2, 0 ≤ v ∧ v < b := by
  intro v hv
  obtain ⟨a, ha, rfl⟩ := List.mem_map.1 hv
  obtain ⟨m, rfl, hm⟩ := cel_all hx hy hn hL a ha
  exact ow_lt hb (by simpa using hm)
theorem All_yes {fu : Nat} {s : Int} {r : tRect} {k x1 y1 x2 y2 n L b : Nat} (h : Cv s r k x1 y1 x2 y2) (hr : mayT r = true) (sd : Sd s n L) (hx : x2 ≤ n) (hy : y2 ≤ n) (h1 : 1 ≤ b) (h2 : b ≤ 64) (hfu : 40000 ≤ fu) :
    down_All fu s (b : Int) r = some (cpt (owL L b x1 x2 y1 y2), none) := by
  unfold down_All
  rw [cells_c h hr hfu]
  simp only [Option.bind_some, Option.isSome_none, cond_false]
  have hl := celL_len x1 x2 y1 y2 h.ly
  have hx' := h.lx
  have hll : (srt (celL x1 x2 y1 y2)).length ≤ 17000 := by rw [srt_len]; omega
  rw [map_l (f := fun x => owN L b x.toNat) (fin := fun o => (Sum.inl o : List Int ⊕ (List Int × Er))) (bad := fun e => Sum.inr ([], e)) (by unfold capN; omega) (by omega) (fun x hx0 => by
    obtain ⟨m, rfl, hm⟩ := cel_all hx hy sd.n2 sd.eL x hx0
    simp only [Int.toNat_natCast]
    exact of_yes sd h1 h2 hm)]
  simp only [Option.bind_some, kS]
  rw [cpt_l (by rw [List.length_map]; unfold capN; omega) (by rw [List.length_map]; omega)]
  rfl
/-- The document's way. -/
theorem Ref_all {fu : Nat} {s : Int} {r : tRect} {k x1 y1 x2 y2 n L b : Nat} (h : Cv s r k x1 y1 x2 y2) (hr : mayT r = true) (sd : Sd s n L) (hx : x2 ≤ n) (hy : y2 ≤ n) (h1 : 1 ≤ b) (h2 : b ≤ 64) (hfu : 40000 ≤ fu) :
    dref15_All fu s (b : Int) r = some (cpt (owL L b x1 x2 y1 y2)) := by
  unfold dref15_All
  have hmk : mk (b : Int) false = some (List.replicate b false) := by
    unfold mk; rw [if_pos ⟨by omega, by unfold capN; omega⟩]; simp
  rw [hmk, cells_r h hfu]
  simp only [Option.bind_some]
  have hl := celL_len x1 x2 y1 y2 h.ly
  have hx' := h.lx
  have hll : (srt (celL x1 x2 y1 y2)).length ≤ 17000 := by rw [srt_len]; omega
  have hall := cel_all (x1 := x1) (y1 := y1) hx hy sd.n2 sd.eL
  have hO : owL L b x1 x2 y1 y2 = (srt (celL x1 x2 y1 y2)).map fun x => owN L b x.toNat := rfl
  have hin := owL_in (x1 := x1) (y1 := y1) hx hy sd.n2 sd.eL h1
  have hle := owL_le (b := b) (x1 := x1) (y1 := y1) hx hy sd.n2 sd.eL
  generalize srt (celL x1 x2 y1 y2) = l at *
  generalize owL L b x1 x2 y1 y2 = O at *
  subst hO
  have l1 := loopD_tot (ε := Int × (List Bool)) (τ := List Bool) (body := fun (((i1, has2)) : Int × (List Bool)) => (bif (decide (i1 < (l.length : Int))) then ((gi l i1).bind fun n1 => (dref15_Owner fu s (b : Int) n1).bind fun n2 => (gi has2 n2).bind fun x1 => (sti has2 n2 true).bind fun has5 => some (Sum.inl (W (i1 + 1), has5))) else some (Sum.inr has2)))
    (fun st => ∃ (i : Nat) (has : List Bool), st = ((i : Int), has) ∧ i ≤ l.length ∧ has.length = b ∧ ∀ j : Nat, j < b → (has[j]? = some true ↔ (j : Int) ∈ (l.take i).map fun x => owN L b x.toNat))
    (fun st => l.length - st.1.toNat) (fun has => has.length = b ∧ ∀ j : Nat, j < b → (has[j]? = some true ↔ (j : Int) ∈ l.map fun x => owN L b x.toNat)) ?_ fu (0, List.replicate b false)
    ⟨0, _, rfl, Nat.zero_le _, by simp, fun j hj => by simp [hj]⟩ (by simp only [show ((0 : Int)).toNat = 0 from rfl]; omega)
  · obtain ⟨has, e1, hlen, hhas⟩ := l1
    rw [e1]
    simp only [Option.bind_some]
    have l2 := loopD_tot (ε := Int × (List Int)) (τ := List Int) (body := fun (((i3, out1)) : Int × (List Int)) => (bif (decide (i3 < (b : Int))) then (((gi has i3).bind fun x2 => bif x2 then ((ap out1 [i3]).bind fun out5 => some out5) else some out1 : Option (List Int)).bind fun (out4 : List Int) => some (Sum.inl (W (i3 + 1), out4))) else some (Sum.inr out1)))
      (fun st => ∃ (i : Nat) (out : List Int), st = ((i : Int), out) ∧ i ≤ b ∧ out.length ≤ i ∧ out.Pairwise (· < ·) ∧ ∀ v : Int, v ∈ out ↔ (v < i ∧ v ∈ l.map fun x => owN L b x.toNat))
      (fun st => b - st.1.toNat) (fun out => out.Pairwise (· < ·) ∧ ∀ v : Int, v ∈ out ↔ v ∈ l.map fun x => owN L b x.toNat) ?_ fu (0, [])
      ⟨0, [], rfl, Nat.zero_le _, Nat.le_refl _, List.Pairwise.nil, fun v => ⟨fun h => (by cases h), fun h => (by have := (hin v h.2).1; have := h.1; omega)⟩⟩ (by simp only [show ((0 : Int)).toNat = 0 from rfl]; omega)
    · obtain ⟨out, e2, ho1, ho2⟩ := l2
      rw [e2]
      simp only [Option.bind_some]
      congr 1
      exact lt_u ho1 (cpt_lt hle) (fun v => by rw [ho2, mem_cpt])
    · rintro _ ⟨i, out, rfl, g1, g2, g3, g4⟩
      dsimp only
      by_cases hc : i < b
      · rw [show decide ((i : Int) < (b : Int)) = true from decide_eq_true (by omega), cond_true, gi_lt (show i < has.length by omega)]
        simp only [Option.bind_some]
        have hi := hhas i hc
        rw [List.getElem?_eq_getElem (show i < has.length by omega)] at hi
        cases hb : has[i] with
        | true =>
          rw [cond_true, ap_ok (by simp [capN]; omega)]
          simp only [Option.bind_some]
          refine ⟨_, rfl, fun s' hs' => ?_, fun e h => (by cases h)⟩
          cases hs'
          refine ⟨⟨i + 1, out ++ [(i : Int)], by rw [nW_add1 (by omega)], by omega, by simp; omega, ?_, fun v => ?_⟩, by simp only [nW_add1 (show i + 1 < 9223372036854775808 by omega), Int.toNat_natCast]; omega⟩
          · rw [List.pairwise_append]
            exact ⟨g3, List.pairwise_singleton _ _, fun v hv w hw => by have := ((g4 v).1 hv).1; simp at hw; omega⟩
          · rw [List.mem_append, List.mem_singleton, g4]
            constructor
            · rintro (⟨q1, q2⟩ | rfl)
              · exact ⟨by omega, q2⟩
              · exact ⟨by omega, hi.1 (by rw [hb])⟩
            · rintro ⟨q1, q2⟩
              by_cases hv : v = i
              · exact .inr hv
              · exact .inl ⟨by omega, q2⟩
        | false =>
          simp only [cond_false, Option.bind_some]
          refine ⟨_, rfl, fun s' hs' => ?_, fun e h => (by cases h)⟩
          cases hs'
          refine ⟨⟨i + 1, out, by rw [nW_add1 (by omega)], by omega, by omega, g3, fun v => ?_⟩, by simp only [nW_add1 (show i + 1 < 9223372036854775808 by omega), Int.toNat_natCast]; omega⟩
          rw [g4]
          constructor
          · rintro ⟨q1, q2⟩; exact ⟨by omega, q2⟩
          · rintro ⟨q1, q2⟩
            by_cases hv : v = i
            · exfalso
              have := hi.2 (hv ▸ q2)
              rw [hb] at this; cases this
            · exact ⟨by omega, q2⟩
      · rw [show decide ((i : Int) < (b : Int)) = false from decide_eq_false (by omega), cond_false]
        refine ⟨_, rfl, fun s' hs' => (by cases hs'), fun e h => ?_⟩
        cases h
        refine ⟨g3, fun v => ?_⟩
        rw [g4]
        exact ⟨fun h => h.2, fun h => ⟨by have := (hin v h).2; omega, h⟩⟩
  · rintro _ ⟨i, has, rfl, g1, g2, g3⟩
    dsimp only
    by_cases hc : i < l.length
    · rw [show decide ((i : Int) < (l.length : Int)) = true from decide_eq_true (by omega), cond_true, gi_lt hc]
      simp only [Option.bind_some]
      obtain ⟨m, hm1, hm2⟩ := hall _ (List.getElem_mem hc)
      have how := ow_lt (L := L) (b := b) h1 hm2
      rw [hm1, ref_own sd h2 hm2]
      simp only [Option.bind_some]
      have hcast : owN L b m = (((owN L b m).toNat : Nat) : Int) := by omega
      rw [hcast, gi_lt (show (owN L b m).toNat < has.length by omega)]
      simp only [Option.bind_some]
      rw [sti_lt _ (show (owN L b m).toNat < has.length by omega)]
      simp only [Option.bind_some]
      refine ⟨_, rfl, fun s' hs' => ?_, fun e h => (by cases h)⟩
      cases hs'
      refine ⟨⟨i + 1, _, by rw [nW_add1 (by omega)], by omega, by rw [List.length_set]; exact g2, fun j hj => ?_⟩, by simp only [nW_add1 (show i + 1 < 9223372036854775808 by omega), Int.toNat_natCast]; omega⟩
      rw [List.take_succ_eq_append_getElem hc, List.map_append, List.mem_append, ← g3 j hj]
      simp only [List.map_cons, List.map_nil, List.mem_singleton, hm1, Int.toNat_natCast]
      by_cases hj2 : j = (owN L b m).toNat
      · subst hj2
        rw [List.getElem?_set_self (by omega)]
        exact ⟨fun _ => .inr (by omega), fun _ => rfl⟩
      · rw [List.getElem?_set_ne (fun e => hj2 e.symm)]
        exact ⟨fun h => .inl h, fun h => h.resolve_right (by omega)⟩
    · rw [show decide ((i : Int) < (l.length : Int)) = false from decide_eq_false (by omega), cond_false]
      refine ⟨_, rfl, fun s' hs' => (by cases hs'), fun e h => ?_⟩
      cases h
      rw [List.take_of_length_le (by omega)] at g3
      exact ⟨g2, g3⟩
theorem All_rect {fu : Nat} {s b : Int} {r : tRect} (h : (mayT r && mayS s) = false) : down_All fu s b r = some ([], some 1) := by
  unfold down_All
  rw [(no_l (fu := fu) (b := r) h).1]; rfl
theorem All_no {fu : Nat} {s b : Int} {r : tRect} (hfu : 40000 ≤ fu) (hs : mayS s = true) (h : b < 1 ∨ b > 64) : down_All fu s b r = some ([], some 1) := by
  cases hr : mayT r with
  | false => exact All_rect (by rw [hr]; rfl)
  | true =>
    obtain ⟨k, x1, y1, x2, y2, hc⟩ := cv_of hs hr
    unfold down_All
    rw [cells_c hc hr hfu]
    simp only [Option.bind_some, Option.isSome_none, cond_false]
    have hne : 0 < (srt (celL x1 x2 y1 y2)).length := by
      have hm : ((codN x1 y1 : Nat) : Int) ∈ srt (celL x1 x2 y1 y2) := (srt_p _).mem_iff.2 ((mem_cel hc.lx hc.ly (by have := hc.ox; have := hc.lx; omega) (by have := hc.oy; have := hc.ly; omega)).2 ⟨⟨Nat.le_refl _, hc.ox⟩, Nat.le_refl _, hc.oy⟩)
      exact List.length_pos_of_mem hm
    obtain ⟨f, rfl⟩ : ∃ k, fu = k + 1 := ⟨fu - 1, by omega⟩
    rw [loopD_end (e := (Sum.inr ([], some 1) : List Int ⊕ (List Int × Er))) ?_]
    · rfl
    · dsimp only
      rw [show decide ((0 : Int) < ((srt (celL x1 x2 y1 y2)).length : Int)) = true from decide_eq_true (by omega), cond_true, show (0 : Int) = ((0 : Nat) : Int) from rfl, gi_lt hne]
      simp only [Option.bind_some]
      rw [of_no (.inr h)]; rfl
theorem up18_l {fu : Nat} (hfu : 40000 ≤ fu) : dlaw18_up fu = some true := by
  unfold dlaw18_up
  have hs : mayS 30 = true := by decide
  have hr : mayT ⟨-1073741824, -1073741824, 1073741824, 1073741824⟩ = true := by decide
  have hc : Cv 30 ⟨-1073741824, -1073741824, 1073741824, 1073741824⟩ 30 0 0 2 2 := ⟨rfl, by omega, by kernel_rfl, by omega, by omega, by omega, by omega, by unfold Bd; decide, by unfold Bd; decide, by unfold Bd; decide, by unfold Bd; decide, by decide, by decide, by decide, by decide, by decide, by decide⟩
  have sd : Sd 30 2 12 := ⟨hs, by omega, by omega, by decide, by decide, by omega⟩
  have h1 := Of_yes (fu := fu) (p := ⟨0, 0⟩) (b := 1) sd (fun x hx => by
    obtain ⟨k, hk, hkk⟩ := may_k hs
    have : (30 : Int) = ((30 : Nat) : Int) := rfl
    rw [this]
    have h2 := (cel_n (k := 30) (by omega) hx).2.2
    unfold celN at h2
    have : twoK 30 = 1073741824 := by decide
    rw [this] at h2
    unfold Bd at hx
    omega) (by omega) (by omega) (by decide)
  have e1 : down_Of fu 30 1 ⟨0, 0⟩ = some (owN 12 1 3, none) := h1.1.trans (by
    have : codN (cel 30 0).toNat (cel 30 0).toNat = 3 := by decide
    rw [this])
  have e2 : down_Of fu 30 65 ⟨0, 0⟩ = some (0, some 1) := Of_no (.inr (.inr (by omega)))
  have e3 : down_All fu 30 3 ⟨-1073741824, -1073741824, 1073741824, 1073741824⟩ = some (cpt (owL 12 3 0 2 0 2), none) := All_yes (b := 3) hc hr sd (by omega) (by omega) (by omega) (by omega) hfu
  rw [e1, e2, e3]
  simp only [Option.bind_some]
  have hs9 : srt (celL 0 2 0 2) = [0, 1, 2, 3, 4, 6, 8, 9, 12] := by
    have hcel : celL 0 2 0 2 = [0, 2, 8, 1, 3, 9, 4, 6, 12] := by decide
    rw [hcel]
    exact (srt_u (by decide) (by decide)).symm
  have ho : owL 12 3 0 2 0 2 = [0, 0, 0, 0, 0, 1, 1, 2, 2] := by
    unfold owL; rw [hs9]; decide
  rw [ho]
  decide
end Go.Proofs.Ytngeejjllgnpcaa
