/- Contracts, printed by a program of this session's. -/
import Derived.Test.YtngeejjllgnpcaaS03y
namespace Go.Proofs.Ytngeejjllgnpcaa
open Go.Pv
set_option maxRecDepth 100000
set_option maxHeartbeats 4000000
set_option linter.unusedSimpArgs false
set_option linter.unusedVariables false
set_option linter.unusedSectionVars false

theorem vert_in {l : List Pt} (h : Simp l) (i : Nat) (hi : i < l.length) : inE l (gp l i) = true := by
  have h1 := h.may _ (gp_mem (by omega) i); have h2 := h.may _ (gp_mem (by omega) (i + 1))
  have : (edges l).any (fun e => on e.1 e.2 (gp l i)) = true := List.any_eq_true.2 ⟨_, ix_edge hi, on_self h1 h2⟩
  unfold inE; rw [this]; rfl
def trn (l : List Pt) (f i : Nat) : List Pt := (List.range i).map fun j => gp l (j + f)
def rnd (l : List Pt) (i : Nat) : List Pt := (List.range i).map fun j => gp l (l.length - 1 - j)
theorem trn_succ {l : List Pt} {f i : Nat} : rows (trn l f i) ++ [[AV.int .i64 (gp l (i + f)).1, .int .i64 (gp l (i + f)).2]] = rows (trn l f (i + 1)) := by
  unfold trn; rw [List.range_succ, List.map_append]; simp [rows, pr]
theorem rnd_succ {l : List Pt} {i : Nat} : rows (rnd l i) ++ [[AV.int .i64 (gp l (l.length - 1 - i)).1, .int .i64 (gp l (l.length - 1 - i)).2]] = rows (rnd l (i + 1)) := by
  unfold rnd; rw [List.range_succ, List.map_append]; simp [rows, pr]
theorem trn_0 (l : List Pt) (f : Nat) : [] = rows (trn l f 0) := rfl
theorem rnd_0 (l : List Pt) : [] = rows (rnd l 0) := rfl
theorem trn_len (l : List Pt) (f i : Nat) : (trn l f i).length = i := by simp [trn]
theorem rnd_len (l : List Pt) (i : Nat) : (rnd l i).length = i := by simp [rnd]
theorem trn_eq {l : List Pt} (h0 : 0 < l.length) (f : Nat) : trn l f l.length = l.drop (f % l.length) ++ l.take (f % l.length) := by
  have hlt := Nat.mod_lt f h0
  have hk : f % l.length ≤ l.length := by omega
  refine List.ext_getElem (by simp [trn_len]; omega) fun j h1 h2 => ?_
  rw [trn_len] at h1
  have e1 : (trn l f l.length)[j] = gp l (j + f) := by simp [trn]
  have e2 : gp l (j + f) = gp l (j + f % l.length) := by rw [← gp_mod l (j + f), ← gp_mod l (j + f % l.length), Nat.add_mod_mod]
  rw [e1, e2]
  generalize f % l.length = k at *
  by_cases hj : j < l.length - k
  · rw [List.getElem_append_left (by simp; omega), List.getElem_drop, gp_lt (by omega)]
    congr 1; omega
  · rw [List.getElem_append_right (by simp; omega), List.getElem_take, ← gp_mod]
    have e3 : (j + k) % l.length = j + k - l.length := by
      rw [Nat.mod_eq_sub_mod (by omega), Nat.mod_eq_of_lt (by omega)]
    rw [e3, gp_lt (by omega)]
    congr 1; simp; omega
theorem rnd_eq (l : List Pt) : rnd l l.length = l.reverse := by
  refine List.ext_getElem (by simp [rnd_len]) fun j h1 h2 => ?_
  rw [rnd_len] at h1
  have e1 : (rnd l l.length)[j] = gp l (l.length - 1 - j) := by simp [rnd]
  rw [e1, gp_lt (by omega), List.getElem_reverse]
def endT (l : List Pt) (f i : Nat) : Prop := (List.Perm (trn l f i) l ∧ List.Perm (edges (trn l f i)) (edges l)) ∧ rnd l i = l.reverse ∧ i = l.length
theorem endT_of {l : List Pt} (h0 : 0 < l.length) (f : Nat) {i : Nat} (hi : i ≤ l.length) (hn : ¬ i < l.length) : endT l f i := by
  have e : i = l.length := by omega
  subst e
  refine ⟨?_, rnd_eq l, rfl⟩
  rw [trn_eq h0]
  have hlt := Nat.mod_lt f h0
  exact ⟨by have := List.perm_append_comm (l₁ := l.drop (f % l.length)) (l₂ := l.take (f % l.length)); rwa [List.take_append_drop] at this, rot_perm _ l (by omega)⟩
theorem sm_t {l : List Pt} {f i : Nat} (h : Simp l) (he : endT l f i) : simpB (trn l f i) = true := (simpB_iff _).2 (h.perm he.1.1 he.1.2)
theorem sm_r {l : List Pt} {f i : Nat} (h : Simp l) (he : endT l f i) : simpB (rnd l i) = true := (simpB_iff _).2 (he.2.1 ▸ h.rev)
theorem in_t {l : List Pt} {f i : Nat} {p : Pt} (he : endT l f i) : inE (trn l f i) p = inE l p := in_perm p he.1.2
theorem in_r {l : List Pt} {f i : Nat} {p : Pt} (h : Simp l) (hp : my p = true) (he : endT l f i) : inE (rnd l i) p = inE l p := by rw [he.2.1]; exact in_rev h.may hp
theorem tw_t {l : List Pt} {f i : Nat} (he : endT l f i) : twA (area2 (trn l f i)) = twA (area2 l) := by rw [area_perm he.1.2]
theorem tw_r {l : List Pt} {f i : Nat} (he : endT l f i) : twA (area2 (rnd l i)) = twA (area2 l) := by rw [he.2.1, area_rev, twA_neg]
theorem in_cb {l : List Pt} {p : Pt} {x : Bool} (hl : l.length ≤ maxLen) (h : inE l p = x) : PCall Try.prog 19 [.sl (rows l), .agg [.int .i64 p.1, .int .i64 p.2]] (· = .bool x) := h ▸ in_c hl
theorem tw_cb {l : List Pt} {x : Int} (hl : l.length ≤ maxLen) (h : twA (area2 l) = x) : PCall Try.prog 21 [.sl (rows l)] (· = .int .u64 x) := h ▸ twice_c hl
theorem in_m {l : List Pt} {p d : Pt} (h : Simp l) (ha : l.all (addA d) = true) (hp : my p = true) (hq : mayP (W (p.1 + d.1)) (W (p.2 + d.2)) = true) : inE (l.map (mv d)) (W (p.1 + d.1), W (p.2 + d.2)) = inE l p := by
  have hd : my d = true := by
    have := List.all_eq_true.1 ha _ (gp_mem (l := l) (by have := h.n3; omega) 0)
    unfold addA addB at this; simp only [Bool.and_eq_true] at this; exact this.1.2
  have h1 := mayP_iff.1 hp; have h2 := mayP_iff.1 hd
  have e1 := W_add h1.1 h2.1; have e2 := W_add h1.2 h2.2
  rw [e1, e2] at hq ⊢
  exact in_mv (fun q hq' => ⟨h.may q hq', (mvW_eq (List.all_eq_true.1 ha q hq')).2⟩) hp hq
theorem all_may_eq (l : List Pt) : allMay l = l.all my := rfl
theorem in_of {l : List Pt} {p : Pt} (h : Simp l) (hp : my p = true) (hi : inE l p = true) : inR (box l l.length).1 (box l l.length).2.1 (box l l.length).2.2.1 (box l l.length).2.2.2 p.1 p.2 = true := by
  have key : ∀ i, i ≤ l.length → ∀ j, j < i → (box l i).1 ≤ (gp l j).1 ∧ (gp l j).1 ≤ (box l i).2.2.1 ∧ (box l i).2.1 ≤ (gp l j).2 ∧ (gp l j).2 ≤ (box l i).2.2.2 := by
    intro i
    induction i with
    | zero => intro _ j hj; omega
    | succ i ih =>
      intro hi j hj
      by_cases h0 : i = 0
      · subst h0
        obtain rfl : j = 0 := by omega
        rw [box_one (by omega) rfl, gp_lt (by omega)]; simp
      · rw [box_succ (i := i) (by omega) (by simp; omega)]
        simp only [mn_eq, mx_eq]
        by_cases e : j = i
        · subst e; rw [gp_lt (by omega)]; omega
        · have := ih (by omega) j (by omega); omega
  have := in_box (x1 := (box l l.length).1) (y1 := (box l l.length).2.1) (x2 := (box l l.length).2.2.1) (y2 := (box l l.length).2.2.2) h.may hp (fun q hq => by
    obtain ⟨j, hj, rfl⟩ := List.mem_iff_getElem.1 hq
    have := key _ (Nat.le_refl _) j hj
    rw [gp_lt hj] at this; exact this) hi
  unfold inR
  simp only [Bool.and_eq_true, decide_eq_true_eq]; omega
theorem rof_y {l : List Pt} (hl : l.length ≤ maxLen) (h : Simp l) : PCall Try.prog 25 [.sl (rows l)] (· = .tup [.agg [.int .i64 (box l l.length).1, .int .i64 (box l l.length).2.1, .int .i64 (box l l.length).2.2.1, .int .i64 (box l l.length).2.2.2], .bool true]) := by
  have hr := rof_c hl
  have ha : allMay l = true := List.all_eq_true.2 h.may
  rcases ofs l with ⟨_, _, h1, h2⟩ | ⟨_, h1 | h1⟩
  · unfold rofT at hr; rw [h1, h2] at hr; exact hr
  · rw [ha] at h1; cases h1
  · have := h.n3; rw [h1] at this; simp at this
theorem sub_rows {l : List Pt} {i : Nat} (h : i < l.length) (h64 : l.length ≤ 64) : IntKind.wrap .i64 (IntKind.wrap .i64 (((rows l).length : Int) - 1) - (i : Int)) = ((l.length - 1 - i : Nat) : Int) := by
  rw [rows_len]
  have e1 := W_id (n := (l.length : Int) - 1) (by omega)
  have e2 := W_id (n := (l.length : Int) - 1 - (i : Int)) (by omega)
  rw [W] at e1 e2
  rw [e1, e2]; omega
theorem rows_last {l : List Pt} {i : Nat} (h : i < l.length) : (rows l)[((l.length - 1 - i : Nat) : Int).toNat]? = some [.int .i64 (gp l (l.length - 1 - i)).1, .int .i64 (gp l (l.length - 1 - i)).2] := rows_i (by omega)
theorem W_ff {i f : Nat} (h : i ≤ 64) (hf : f ≤ 100) : IntKind.wrap .i64 ((i : Int) + (f : Int)) = ((i + f : Nat) : Int) := W_sm (by unfold maxLen; omega)
theorem from_nat {z : Int} (h1 : decide (z < 0) = false) (h2 : decide (z > 100) = false) : ∃ f : Nat, z = f ∧ f ≤ 100 := by
  simp at h1 h2; exact ⟨z.toNat, by omega, by omega⟩
theorem Simp.len {l : List Pt} (h : Simp l) : 0 < l.length ∧ l.length ≤ 64 := ⟨by have := h.n3; omega, h.n64⟩
theorem in_no {l : List Pt} {i : Nat} (h : Simp l) (hi : i < l.length) (hc : (!inE l (gp l i)) = true) : False := by rw [vert_in h i hi] at hc; cases hc

section
attribute [local irreducible] awp aops DP PCall ACall Decidable.decide Nat.mod onV turnV inE simpB mayP addB twA area2 inR box trn rnd
/-- `plover/ploverlaw03.PolyTurns` -/
theorem PolyTurns_p {l : List Pt} {p d : Pt} {z : Int} (hl : l.length ≤ maxLen) : PCall Try.prog 5 [.sl (rows l), .agg [.int .i64 (p).1, .int .i64 (p).2], .agg [.int .i64 (d).1, .int .i64 (d).2], .int .i64 z] (· = .bool (true)) := by
  refine pcall_body Try.func5 rfl (by kernel_rfl) (by rfl) ?_
  refine awp_seq ?_
  refine awp_region ?_
  refine rb rfl rfl (?_)
  refine rb rfl rfl (?_)
  refine rv rfl rfl (?_)
  refine rn ?_
  refine then_normal ?_
  refine awp_seq ?_
  refine awp_region ?_
  refine rc1 rfl rfl rfl up3_c (?_)
  refine rv rfl rfl (?_)
  refine rn ?_
  refine then_normal ?_
  refine awp_seq ?_
  refine awp_region ?_
  refine rv rfl rfl (?_)
  refine rc1 rfl rfl rfl rmayP_c (?_)
  refine rv rfl rfl (?_)
  refine rn ?_
  refine then_normal ?_
  refine awp_seq ?_
  refine awp_seq ?_
  refine awp_region ?_
  refine rv rfl rfl (?_)
  refine rv rfl rfl (?_)
  refine rv rfl rfl (?_)
  refine rv rfl rfl (?_)
  (first | refine gy rfl rfl rfl (rv rfl rfl (?_)) | refine gn rfl rfl rfl rfl rfl ?_ | refine gu rfl rfl rfl rfl ?_ | refine gs rfl rfl rfl rfl rfl (fun hg => rv rfl rfl (?_)) (fun hg => ?_)) <;> (
  (first | refine gy rfl rfl rfl (rv rfl rfl (?_)) | refine gn rfl rfl rfl rfl rfl ?_ | refine gu rfl rfl rfl rfl ?_ | refine gs rfl rfl rfl rfl rfl (fun hg => rv rfl rfl (?_)) (fun hg => ?_)) <;> (
  refine rv rfl rfl (?_)
  refine rv rfl rfl (?_)
  (first | refine gy rfl rfl rfl (rv rfl rfl (?_)) | refine gn rfl rfl rfl rfl rfl ?_ | refine gu rfl rfl rfl rfl ?_ | refine gs rfl rfl rfl rfl rfl (fun hg => rv rfl rfl (?_)) (fun hg => ?_)) <;> (
  (first | refine gy rfl rfl rfl (rv rfl rfl (?_)) | refine gn rfl rfl rfl rfl rfl ?_ | refine gu rfl rfl rfl rfl ?_ | refine gs rfl rfl rfl rfl rfl (fun hg => rv rfl rfl (?_)) (fun hg => ?_)) <;> (
  refine rv rfl rfl (?_)
  refine rv rfl rfl (?_)
  (first | refine gy rfl rfl rfl (rv rfl rfl (?_)) | refine gn rfl rfl rfl rfl rfl ?_ | refine gu rfl rfl rfl rfl ?_ | refine gs rfl rfl rfl rfl rfl (fun hg => rv rfl rfl (?_)) (fun hg => ?_)) <;> (
  (first | refine gy rfl rfl rfl (rv rfl rfl (?_)) | refine gn rfl rfl rfl rfl rfl ?_ | refine gu rfl rfl rfl rfl ?_ | refine gs rfl rfl rfl rfl rfl (fun hg => rv rfl rfl (?_)) (fun hg => ?_)) <;> (
  refine rv rfl rfl (?_)
  refine rv rfl rfl (?_)
  (first | refine gy rfl rfl rfl (rv rfl rfl (?_)) | refine gn rfl rfl rfl rfl rfl ?_ | refine gu rfl rfl rfl rfl ?_ | refine gs rfl rfl rfl rfl rfl (fun hg => rv rfl rfl (?_)) (fun hg => ?_)) <;> (
  (first | refine gy rfl rfl rfl (rc1 rfl rfl rfl (simple_c hl) (?_)) | refine gn rfl rfl rfl rfl rfl ?_ | refine gu rfl rfl rfl rfl ?_ | refine gs rfl rfl rfl rfl rfl (fun hg => rc1 rfl rfl rfl (simple_c hl) (?_)) (fun hg => ?_)) <;> (
  (first | refine gy rfl rfl rfl (rv rfl rfl (?_)) | refine gn rfl rfl rfl rfl rfl ?_ | refine gu rfl rfl rfl rfl ?_ | refine gs rfl rfl rfl rfl rfl (fun hg => rv rfl rfl (?_)) (fun hg => ?_)) <;> (
  refine rv rfl rfl (?_)
  refine rn ?_
  refine then_normal ?_
  refine cs_ rfl (fun hc => ?_) (fun hc => ?_)
  · first
    | (cases hc; done)
    | (
      refine awp_seq ?_
      refine awp_region ?_
      refine rv rfl rfl (?_)
      refine rv rfl rfl (?_)
      refine rn ?_
      refine then_normal ?_
      refine awp_ret ?_
      repeat (first | refine then_ret ?_ | refine inBlock_ret ?_)
      refine rr rfl rfl ?_
      first | rfl | exact (bne_no (by assumption)).elim | exact (beq_no (by assumption)).elim | exact (ieq_no (by assumption)).elim | exact (in_no hS hlt (by assumption)).elim | (simp; done) | (simp at hc; done) | (simp at hg; done) | (exfalso; simp_all; done) | trace_state)
  · first
    | (cases hc; done)
    | (
      refine awp_skip ?_
      refine then_normal ?_
      refine awp_seq ?_
      (have hs : simpB l = true := (by simpa using (by assumption : (!simpB l) = false)); have hS := (simpB_iff l).1 hs; have h3 := hS.len; have hmp : my p = true := (by simpa [my] using (by assumption : (!mayP p.1 p.2) = false)); obtain ⟨f, rfl, hf⟩ := from_nat (z := z) (by assumption) (by assumption)) <;> (
      refine awp_region ?_
      refine rv rfl rfl (?_)
      refine rv rfl rfl (?_)
      refine rc1 rfl rfl rfl (in_c hl) (?_)
      refine rv rfl rfl (?_)
      refine rn ?_
      refine then_normal ?_
      refine awp_seq ?_
      refine awp_region ?_
      refine rv rfl rfl (?_)
      refine rc1 rfl rfl rfl (rof_y hl hS) (?_)
      refine rv rfl rfl (?_)
      refine rv rfl rfl (?_)
      refine rv rfl rfl (?_)
      refine ra rfl rfl rfl (?_)
      refine rs rfl rfl rfl rfl rfl rfl rfl (?_)
      refine rv rfl rfl (?_)
      refine rn ?_
      refine then_normal ?_
      refine awp_seq ?_
      refine awp_region ?_
      refine rv rfl rfl (?_)
      refine rv rfl rfl (?_)
      refine rc1 rfl rfl rfl rIn_c (?_)
      refine rv rfl rfl (?_)
      refine rn ?_
      refine then_normal ?_
      refine awp_seq ?_
      refine awp_seq ?_
      (have hbx := in_of hS hmp) <;> (
      refine awp_region ?_
      refine rv rfl rfl (?_)
      refine rv rfl rfl (?_)
      refine rv rfl rfl (?_)
      (first | refine gy rfl rfl rfl (rv rfl rfl (?_)) | refine gn rfl rfl rfl rfl rfl ?_ | refine gu rfl rfl rfl rfl ?_ | refine gs rfl rfl rfl rfl rfl (fun hg => rv rfl rfl (?_)) (fun hg => ?_)) <;> (
      (first | refine gy rfl rfl rfl (rv rfl rfl (?_)) | refine gn rfl rfl rfl rfl rfl ?_ | refine gu rfl rfl rfl rfl ?_ | refine gs rfl rfl rfl rfl rfl (fun hg => rv rfl rfl (?_)) (fun hg => ?_)) <;> (
      (first | refine gy rfl rfl rfl (rv rfl rfl (?_)) | refine gn rfl rfl rfl rfl rfl ?_ | refine gu rfl rfl rfl rfl ?_ | refine gs rfl rfl rfl rfl rfl (fun hg => rv rfl rfl (?_)) (fun hg => ?_)) <;> (
      (first | refine gy rfl rfl rfl (rv rfl rfl (?_)) | refine gn rfl rfl rfl rfl rfl ?_ | refine gu rfl rfl rfl rfl ?_ | refine gs rfl rfl rfl rfl rfl (fun hg => rv rfl rfl (?_)) (fun hg => ?_)) <;> (
      (first | refine gy rfl rfl rfl (rv rfl rfl (?_)) | refine gn rfl rfl rfl rfl rfl ?_ | refine gu rfl rfl rfl rfl ?_ | refine gs rfl rfl rfl rfl rfl (fun hg => rv rfl rfl (?_)) (fun hg => ?_)) <;> (
      refine rv rfl rfl (?_)
      refine rn ?_
      refine then_normal ?_
      refine cs_ rfl (fun hc => ?_) (fun hc => ?_)
      · first
        | (cases hc; done)
        | (
          refine awp_seq ?_
          refine awp_region ?_
          refine rv rfl rfl (?_)
          refine rn ?_
          refine then_normal ?_
          refine awp_ret ?_
          repeat (first | refine then_ret ?_ | refine inBlock_ret ?_)
          refine rr rfl rfl ?_
          first | rfl | exact (bne_no (by assumption)).elim | exact (beq_no (by assumption)).elim | exact (ieq_no (by assumption)).elim | exact (in_no hS hlt (by assumption)).elim | (simp; done) | (simp at hc; done) | (simp at hg; done) | (exfalso; simp_all; done) | trace_state)
      · first
        | (cases hc; done)
        | (
          refine awp_skip ?_
          refine then_normal ?_
          refine awp_seq ?_
          refine awp_region ?_
          refine rv rfl rfl (?_)
          refine rn ?_
          refine then_normal ?_
          refine awp_seq ?_
          refine awp_region ?_
          refine rv rfl rfl (?_)
          refine rn ?_
          refine then_normal ?_
          refine awp_seq ?_
          refine awp_seq ?_
          refine awp_region ?_
          refine rv rfl rfl (?_)
          refine rn ?_
          refine then_normal ?_
          refine awp_block ?_
          refine awp_conv (fun _ _ _ _ _ hi => nilS_slot false 2 15 rfl hi) ?_
          refine awp_conv (fun _ _ _ _ _ hi => nilS_slot false 2 16 rfl hi) ?_
          refine awp_loopR (ι := Nat) (fun i => ⟨[(0, .sl (rows l)), (3, .int .i64 (f : Int)), (5, .ptr 0 0), (6, .ptr 1 0), (8, .bool false), (9, .bool true), (11, .bool (inE l p)), (15, .own 2), (16, .own 3), (17, .int .i64 (i : Int))], [(0, 0, .int .i64 p.1), (0, 1, .int .i64 p.2), (1, 0, .int .i64 d.1), (1, 1, .int .i64 d.2)], [(2, .row 2 (rows (trn l f i))), (3, .row 2 (rows (rnd l i)))], 4⟩) (fun i => i ≤ l.length) (fun i => l.length - i) (0) (Nat.zero_le _) ⟨[0, 1, 3, 4], rfl, ?_⟩ (fun i hi => ?_)
          · refine ⟨rfl, rfl, ?_, ?_, ?_⟩
            · refine ⟨⟨?_, rfl⟩, ?_⟩
              · first | exact .inl rfl | exact .inr rfl | (refine .inl ?_; (first | refine ei ?_ | refine eb ?_ | refine esl ?_ | refine estr ?_ | skip); first | exact W_succ hlt hl | exact trn_succ | exact rnd_succ | exact trn_0 _ _ | exact rnd_0 _ | rfl) | (refine .inr ?_; (first | refine ei ?_ | refine eb ?_ | refine esl ?_ | refine estr ?_ | skip); first | exact W_succ hlt hl | exact trn_succ | exact rnd_succ | exact trn_0 _ _ | exact rnd_0 _ | rfl)
              refine ⟨⟨?_, rfl⟩, ?_⟩
              · first | exact .inl rfl | exact .inr rfl | (refine .inl ?_; (first | refine ei ?_ | refine eb ?_ | refine esl ?_ | refine estr ?_ | skip); first | exact W_succ hlt hl | exact trn_succ | exact rnd_succ | exact trn_0 _ _ | exact rnd_0 _ | rfl) | (refine .inr ?_; (first | refine ei ?_ | refine eb ?_ | refine esl ?_ | refine estr ?_ | skip); first | exact W_succ hlt hl | exact trn_succ | exact rnd_succ | exact trn_0 _ _ | exact rnd_0 _ | rfl)
              refine ⟨⟨?_, rfl⟩, ?_⟩
              · first | exact .inl rfl | exact .inr rfl | (refine .inl ?_; (first | refine ei ?_ | refine eb ?_ | refine esl ?_ | refine estr ?_ | skip); first | exact W_succ hlt hl | exact trn_succ | exact rnd_succ | exact trn_0 _ _ | exact rnd_0 _ | rfl) | (refine .inr ?_; (first | refine ei ?_ | refine eb ?_ | refine esl ?_ | refine estr ?_ | skip); first | exact W_succ hlt hl | exact trn_succ | exact rnd_succ | exact trn_0 _ _ | exact rnd_0 _ | rfl)
              refine ⟨⟨?_, rfl⟩, ?_⟩
              · first | exact .inl rfl | exact .inr rfl | (refine .inl ?_; (first | refine ei ?_ | refine eb ?_ | refine esl ?_ | refine estr ?_ | skip); first | exact W_succ hlt hl | exact trn_succ | exact rnd_succ | exact trn_0 _ _ | exact rnd_0 _ | rfl) | (refine .inr ?_; (first | refine ei ?_ | refine eb ?_ | refine esl ?_ | refine estr ?_ | skip); first | exact W_succ hlt hl | exact trn_succ | exact rnd_succ | exact trn_0 _ _ | exact rnd_0 _ | rfl)
              refine ⟨⟨?_, rfl⟩, ?_⟩
              · first | exact .inl rfl | exact .inr rfl | (refine .inl ?_; (first | refine ei ?_ | refine eb ?_ | refine esl ?_ | refine estr ?_ | skip); first | exact W_succ hlt hl | exact trn_succ | exact rnd_succ | exact trn_0 _ _ | exact rnd_0 _ | rfl) | (refine .inr ?_; (first | refine ei ?_ | refine eb ?_ | refine esl ?_ | refine estr ?_ | skip); first | exact W_succ hlt hl | exact trn_succ | exact rnd_succ | exact trn_0 _ _ | exact rnd_0 _ | rfl)
              refine ⟨⟨?_, rfl⟩, ?_⟩
              · first | exact .inl rfl | exact .inr rfl | (refine .inl ?_; (first | refine ei ?_ | refine eb ?_ | refine esl ?_ | refine estr ?_ | skip); first | exact W_succ hlt hl | exact trn_succ | exact rnd_succ | exact trn_0 _ _ | exact rnd_0 _ | rfl) | (refine .inr ?_; (first | refine ei ?_ | refine eb ?_ | refine esl ?_ | refine estr ?_ | skip); first | exact W_succ hlt hl | exact trn_succ | exact rnd_succ | exact trn_0 _ _ | exact rnd_0 _ | rfl)
              refine ⟨⟨?_, rfl⟩, ?_⟩
              · first | exact .inl rfl | exact .inr rfl | (refine .inl ?_; (first | refine ei ?_ | refine eb ?_ | refine esl ?_ | refine estr ?_ | skip); first | exact W_succ hlt hl | exact trn_succ | exact rnd_succ | exact trn_0 _ _ | exact rnd_0 _ | rfl) | (refine .inr ?_; (first | refine ei ?_ | refine eb ?_ | refine esl ?_ | refine estr ?_ | skip); first | exact W_succ hlt hl | exact trn_succ | exact rnd_succ | exact trn_0 _ _ | exact rnd_0 _ | rfl)
              refine ⟨⟨?_, rfl⟩, ?_⟩
              · first | exact .inl rfl | exact .inr rfl | (refine .inl ?_; (first | refine ei ?_ | refine eb ?_ | refine esl ?_ | refine estr ?_ | skip); first | exact W_succ hlt hl | exact trn_succ | exact rnd_succ | exact trn_0 _ _ | exact rnd_0 _ | rfl) | (refine .inr ?_; (first | refine ei ?_ | refine eb ?_ | refine esl ?_ | refine estr ?_ | skip); first | exact W_succ hlt hl | exact trn_succ | exact rnd_succ | exact trn_0 _ _ | exact rnd_0 _ | rfl)
              refine ⟨⟨?_, rfl⟩, ?_⟩
              · first | exact .inl rfl | exact .inr rfl | (refine .inl ?_; (first | refine ei ?_ | refine eb ?_ | refine esl ?_ | refine estr ?_ | skip); first | exact W_succ hlt hl | exact trn_succ | exact rnd_succ | exact trn_0 _ _ | exact rnd_0 _ | rfl) | (refine .inr ?_; (first | refine ei ?_ | refine eb ?_ | refine esl ?_ | refine estr ?_ | skip); first | exact W_succ hlt hl | exact trn_succ | exact rnd_succ | exact trn_0 _ _ | exact rnd_0 _ | rfl)
              refine ⟨⟨?_, rfl⟩, ?_⟩
              · first | exact .inl rfl | exact .inr rfl | (refine .inl ?_; (first | refine ei ?_ | refine eb ?_ | refine esl ?_ | refine estr ?_ | skip); first | exact W_succ hlt hl | exact trn_succ | exact rnd_succ | exact trn_0 _ _ | exact rnd_0 _ | rfl) | (refine .inr ?_; (first | refine ei ?_ | refine eb ?_ | refine esl ?_ | refine estr ?_ | skip); first | exact W_succ hlt hl | exact trn_succ | exact rnd_succ | exact trn_0 _ _ | exact rnd_0 _ | rfl)
              exact trivial
            · refine ⟨⟨?_, rfl, rfl⟩, ?_⟩
              · first | exact ⟨_, rfl, .inl rfl⟩ | exact ⟨_, rfl, .inr rfl⟩ | (refine ⟨_, rfl, .inl ?_⟩; (first | refine ei ?_ | refine eb ?_ | refine esl ?_ | refine estr ?_ | skip); first | exact W_succ hlt hl | exact trn_succ | exact rnd_succ | exact trn_0 _ _ | exact rnd_0 _ | rfl) | (refine ⟨_, rfl, .inr ?_⟩; (first | refine ei ?_ | refine eb ?_ | refine esl ?_ | refine estr ?_ | skip); first | exact W_succ hlt hl | exact trn_succ | exact rnd_succ | exact trn_0 _ _ | exact rnd_0 _ | rfl)
              refine ⟨⟨?_, rfl, rfl⟩, ?_⟩
              · first | exact ⟨_, rfl, .inl rfl⟩ | exact ⟨_, rfl, .inr rfl⟩ | (refine ⟨_, rfl, .inl ?_⟩; (first | refine ei ?_ | refine eb ?_ | refine esl ?_ | refine estr ?_ | skip); first | exact W_succ hlt hl | exact trn_succ | exact rnd_succ | exact trn_0 _ _ | exact rnd_0 _ | rfl) | (refine ⟨_, rfl, .inr ?_⟩; (first | refine ei ?_ | refine eb ?_ | refine esl ?_ | refine estr ?_ | skip); first | exact W_succ hlt hl | exact trn_succ | exact rnd_succ | exact trn_0 _ _ | exact rnd_0 _ | rfl)
              refine ⟨⟨?_, rfl, rfl⟩, ?_⟩
              · first | exact ⟨_, rfl, .inl rfl⟩ | exact ⟨_, rfl, .inr rfl⟩ | (refine ⟨_, rfl, .inl ?_⟩; (first | refine ei ?_ | refine eb ?_ | refine esl ?_ | refine estr ?_ | skip); first | exact W_succ hlt hl | exact trn_succ | exact rnd_succ | exact trn_0 _ _ | exact rnd_0 _ | rfl) | (refine ⟨_, rfl, .inr ?_⟩; (first | refine ei ?_ | refine eb ?_ | refine esl ?_ | refine estr ?_ | skip); first | exact W_succ hlt hl | exact trn_succ | exact rnd_succ | exact trn_0 _ _ | exact rnd_0 _ | rfl)
              refine ⟨⟨?_, rfl, rfl⟩, ?_⟩
              · first | exact ⟨_, rfl, .inl rfl⟩ | exact ⟨_, rfl, .inr rfl⟩ | (refine ⟨_, rfl, .inl ?_⟩; (first | refine ei ?_ | refine eb ?_ | refine esl ?_ | refine estr ?_ | skip); first | exact W_succ hlt hl | exact trn_succ | exact rnd_succ | exact trn_0 _ _ | exact rnd_0 _ | rfl) | (refine ⟨_, rfl, .inr ?_⟩; (first | refine ei ?_ | refine eb ?_ | refine esl ?_ | refine estr ?_ | skip); first | exact W_succ hlt hl | exact trn_succ | exact rnd_succ | exact trn_0 _ _ | exact rnd_0 _ | rfl)
              exact trivial
            · refine ⟨orow rfl ?_ rfl, ?_⟩
              · first | rfl | (first | exact W_succ hlt hl | exact trn_succ | exact rnd_succ | exact trn_0 _ _ | exact rnd_0 _ | rfl)
              refine ⟨orow rfl ?_ rfl, ?_⟩
              · first | rfl | (first | exact W_succ hlt hl | exact trn_succ | exact rnd_succ | exact trn_0 _ _ | exact rnd_0 _ | rfl)
              exact trivial
          refine awp_seq ?_
          refine awp_seq ?_
          refine awp_region ?_
          refine rv rfl rfl (?_)
          refine rv rfl rfl (?_)
          refine rv rfl rfl (?_)
          refine rv rfl rfl (?_)
          refine rn ?_
          refine then_normal ?_
          refine cs_ rfl (fun hc => ?_) (fun hc => ?_)
          · first
            | (cases hc; done)
            | (
              refine awp_skip ?_
              refine then_normal ?_
              refine awp_seq ?_
              refine awp_block ?_
              refine awp_seq ?_
              refine awp_seq ?_
              (have hlt := lt_len hc) <;> (
              refine awp_region ?_
              refine rv rfl rfl (?_)
              refine rv rfl rfl (?_)
              refine rv rfl rfl (?_)
              refine ri rfl rfl rfl rfl rfl rfl (Int.natCast_nonneg _) (rows_i hlt) (rows_wide l) (?_)
              refine rv rfl rfl (?_)
              refine rc1 rfl rfl rfl (in_c hl) (?_)
              refine rv rfl rfl (?_)
              refine rn ?_
              refine then_normal ?_
              refine cs_ rfl (fun hc => ?_) (fun hc => ?_)
              · first
                | (cases hc; done)
                | (
                  refine awp_seq ?_
                  refine awp_region ?_
                  refine rv rfl rfl (?_)
                  refine rn ?_
                  refine then_normal ?_
                  refine awp_ret ?_
                  repeat (first | refine then_ret ?_ | refine inBlock_ret ?_)
                  refine rr rfl rfl ?_
                  first | rfl | exact (bne_no (by assumption)).elim | exact (beq_no (by assumption)).elim | exact (ieq_no (by assumption)).elim | exact (in_no hS hlt (by assumption)).elim | (simp; done) | (simp at hc; done) | (simp at hg; done) | (exfalso; simp_all; done) | trace_state)
              · first
                | (cases hc; done)
                | (
                  refine awp_skip ?_
                  refine then_normal ?_
                  refine awp_seq ?_
                  refine awp_region ?_
                  refine rv rfl rfl (?_)
                  refine rv rfl rfl (?_)
                  refine rv rfl rfl (?_)
                  refine rv rfl rfl (?_)
                  refine rv' rfl (ov_eq rfl (W_ff (by omega) hf)) (?_)
                  refine rv rfl rfl (?_)
                  refine rv rfl rfl (?_)
                  refine rv' rfl (ov_rem rfl rfl (len_ne h3.1) (tmod_rows l (i + f))) (?_)
                  refine ri rfl rfl rfl rfl rfl rfl (Int.natCast_nonneg _) (rows_gp h3.1 _) (rows_wide l) (?_)
                  refine rv rfl rfl (?_)
                  refine rbs false rfl rfl rfl rfl rfl rfl rfl rfl rfl rfl (?_)
                  refine rap false rfl rfl rfl rfl rfl rfl rfl (.own rfl rfl) (.sl rfl rfl rfl) (pr_plain _ _).wide (pr_plain _ _).ones (by show (_ + 1) * 16 ≤ _; rw [rows_len, trn_len]; show _ ≤ 140737488355328; omega) rfl (?_)
                  refine rv rfl rfl (?_)
                  refine rn ?_
                  refine then_normal ?_
                  refine awp_region ?_
                  refine rv rfl rfl (?_)
                  refine rv rfl rfl (?_)
                  refine rv rfl rfl (?_)
                  refine rv rfl rfl (?_)
                  refine rv rfl rfl (?_)
                  refine rv rfl rfl (?_)
                  refine rv' rfl (ov_eq rfl (sub_rows hlt h3.2)) (?_)
                  refine ri rfl rfl rfl rfl rfl rfl (Int.natCast_nonneg _) (rows_last hlt) (rows_wide l) (?_)
                  refine rv rfl rfl (?_)
                  refine rbs false rfl rfl rfl rfl rfl rfl rfl rfl rfl rfl (?_)
                  refine rap false rfl rfl rfl rfl rfl rfl rfl (.own rfl rfl) (.sl rfl rfl rfl) (pr_plain _ _).wide (pr_plain _ _).ones (by show (_ + 1) * 16 ≤ _; rw [rows_len, rnd_len]; show _ ≤ 140737488355328; omega) rfl (?_)
                  refine rv rfl rfl (?_)
                  refine rn ?_
                  refine inBlock_normal ?_
                  refine then_normal ?_
                  refine awp_region ?_
                  refine rv rfl rfl (?_)
                  refine rv rfl rfl (?_)
                  refine rv rfl rfl (?_)
                  refine rn ?_
                  refine then_normal ?_
                  refine ⟨i + 1, hlt, by omega, [0, 1, 5, 7], rfl, ?_⟩
                  refine ⟨rfl, rfl, ?_, ?_, ?_⟩
                  · refine ⟨⟨?_, rfl⟩, ?_⟩
                    · first | exact .inl rfl | exact .inr rfl | (refine .inl ?_; (first | refine ei ?_ | refine eb ?_ | refine esl ?_ | refine estr ?_ | skip); first | exact W_succ hlt hl | exact trn_succ | exact rnd_succ | exact trn_0 _ _ | exact rnd_0 _ | rfl) | (refine .inr ?_; (first | refine ei ?_ | refine eb ?_ | refine esl ?_ | refine estr ?_ | skip); first | exact W_succ hlt hl | exact trn_succ | exact rnd_succ | exact trn_0 _ _ | exact rnd_0 _ | rfl)
                    refine ⟨⟨?_, rfl⟩, ?_⟩
                    · first | exact .inl rfl | exact .inr rfl | (refine .inl ?_; (first | refine ei ?_ | refine eb ?_ | refine esl ?_ | refine estr ?_ | skip); first | exact W_succ hlt hl | exact trn_succ | exact rnd_succ | exact trn_0 _ _ | exact rnd_0 _ | rfl) | (refine .inr ?_; (first | refine ei ?_ | refine eb ?_ | refine esl ?_ | refine estr ?_ | skip); first | exact W_succ hlt hl | exact trn_succ | exact rnd_succ | exact trn_0 _ _ | exact rnd_0 _ | rfl)
                    refine ⟨⟨?_, rfl⟩, ?_⟩
                    · first | exact .inl rfl | exact .inr rfl | (refine .inl ?_; (first | refine ei ?_ | refine eb ?_ | refine esl ?_ | refine estr ?_ | skip); first | exact W_succ hlt hl | exact trn_succ | exact rnd_succ | exact trn_0 _ _ | exact rnd_0 _ | rfl) | (refine .inr ?_; (first | refine ei ?_ | refine eb ?_ | refine esl ?_ | refine estr ?_ | skip); first | exact W_succ hlt hl | exact trn_succ | exact rnd_succ | exact trn_0 _ _ | exact rnd_0 _ | rfl)
                    refine ⟨⟨?_, rfl⟩, ?_⟩
                    · first | exact .inl rfl | exact .inr rfl | (refine .inl ?_; (first | refine ei ?_ | refine eb ?_ | refine esl ?_ | refine estr ?_ | skip); first | exact W_succ hlt hl | exact trn_succ | exact rnd_succ | exact trn_0 _ _ | exact rnd_0 _ | rfl) | (refine .inr ?_; (first | refine ei ?_ | refine eb ?_ | refine esl ?_ | refine estr ?_ | skip); first | exact W_succ hlt hl | exact trn_succ | exact rnd_succ | exact trn_0 _ _ | exact rnd_0 _ | rfl)
                    refine ⟨⟨?_, rfl⟩, ?_⟩
                    · first | exact .inl rfl | exact .inr rfl | (refine .inl ?_; (first | refine ei ?_ | refine eb ?_ | refine esl ?_ | refine estr ?_ | skip); first | exact W_succ hlt hl | exact trn_succ | exact rnd_succ | exact trn_0 _ _ | exact rnd_0 _ | rfl) | (refine .inr ?_; (first | refine ei ?_ | refine eb ?_ | refine esl ?_ | refine estr ?_ | skip); first | exact W_succ hlt hl | exact trn_succ | exact rnd_succ | exact trn_0 _ _ | exact rnd_0 _ | rfl)
                    refine ⟨⟨?_, rfl⟩, ?_⟩
                    · first | exact .inl rfl | exact .inr rfl | (refine .inl ?_; (first | refine ei ?_ | refine eb ?_ | refine esl ?_ | refine estr ?_ | skip); first | exact W_succ hlt hl | exact trn_succ | exact rnd_succ | exact trn_0 _ _ | exact rnd_0 _ | rfl) | (refine .inr ?_; (first | refine ei ?_ | refine eb ?_ | refine esl ?_ | refine estr ?_ | skip); first | exact W_succ hlt hl | exact trn_succ | exact rnd_succ | exact trn_0 _ _ | exact rnd_0 _ | rfl)
                    refine ⟨⟨?_, rfl⟩, ?_⟩
                    · first | exact .inl rfl | exact .inr rfl | (refine .inl ?_; (first | refine ei ?_ | refine eb ?_ | refine esl ?_ | refine estr ?_ | skip); first | exact W_succ hlt hl | exact trn_succ | exact rnd_succ | exact trn_0 _ _ | exact rnd_0 _ | rfl) | (refine .inr ?_; (first | refine ei ?_ | refine eb ?_ | refine esl ?_ | refine estr ?_ | skip); first | exact W_succ hlt hl | exact trn_succ | exact rnd_succ | exact trn_0 _ _ | exact rnd_0 _ | rfl)
                    refine ⟨⟨?_, rfl⟩, ?_⟩
                    · first | exact .inl rfl | exact .inr rfl | (refine .inl ?_; (first | refine ei ?_ | refine eb ?_ | refine esl ?_ | refine estr ?_ | skip); first | exact W_succ hlt hl | exact trn_succ | exact rnd_succ | exact trn_0 _ _ | exact rnd_0 _ | rfl) | (refine .inr ?_; (first | refine ei ?_ | refine eb ?_ | refine esl ?_ | refine estr ?_ | skip); first | exact W_succ hlt hl | exact trn_succ | exact rnd_succ | exact trn_0 _ _ | exact rnd_0 _ | rfl)
                    refine ⟨⟨?_, rfl⟩, ?_⟩
                    · first | exact .inl rfl | exact .inr rfl | (refine .inl ?_; (first | refine ei ?_ | refine eb ?_ | refine esl ?_ | refine estr ?_ | skip); first | exact W_succ hlt hl | exact trn_succ | exact rnd_succ | exact trn_0 _ _ | exact rnd_0 _ | rfl) | (refine .inr ?_; (first | refine ei ?_ | refine eb ?_ | refine esl ?_ | refine estr ?_ | skip); first | exact W_succ hlt hl | exact trn_succ | exact rnd_succ | exact trn_0 _ _ | exact rnd_0 _ | rfl)
                    refine ⟨⟨?_, rfl⟩, ?_⟩
                    · first | exact .inl rfl | exact .inr rfl | (refine .inl ?_; (first | refine ei ?_ | refine eb ?_ | refine esl ?_ | refine estr ?_ | skip); first | exact W_succ hlt hl | exact trn_succ | exact rnd_succ | exact trn_0 _ _ | exact rnd_0 _ | rfl) | (refine .inr ?_; (first | refine ei ?_ | refine eb ?_ | refine esl ?_ | refine estr ?_ | skip); first | exact W_succ hlt hl | exact trn_succ | exact rnd_succ | exact trn_0 _ _ | exact rnd_0 _ | rfl)
                    exact trivial
                  · refine ⟨⟨?_, rfl, rfl⟩, ?_⟩
                    · first | exact ⟨_, rfl, .inl rfl⟩ | exact ⟨_, rfl, .inr rfl⟩ | (refine ⟨_, rfl, .inl ?_⟩; (first | refine ei ?_ | refine eb ?_ | refine esl ?_ | refine estr ?_ | skip); first | exact W_succ hlt hl | exact trn_succ | exact rnd_succ | exact trn_0 _ _ | exact rnd_0 _ | rfl) | (refine ⟨_, rfl, .inr ?_⟩; (first | refine ei ?_ | refine eb ?_ | refine esl ?_ | refine estr ?_ | skip); first | exact W_succ hlt hl | exact trn_succ | exact rnd_succ | exact trn_0 _ _ | exact rnd_0 _ | rfl)
                    refine ⟨⟨?_, rfl, rfl⟩, ?_⟩
                    · first | exact ⟨_, rfl, .inl rfl⟩ | exact ⟨_, rfl, .inr rfl⟩ | (refine ⟨_, rfl, .inl ?_⟩; (first | refine ei ?_ | refine eb ?_ | refine esl ?_ | refine estr ?_ | skip); first | exact W_succ hlt hl | exact trn_succ | exact rnd_succ | exact trn_0 _ _ | exact rnd_0 _ | rfl) | (refine ⟨_, rfl, .inr ?_⟩; (first | refine ei ?_ | refine eb ?_ | refine esl ?_ | refine estr ?_ | skip); first | exact W_succ hlt hl | exact trn_succ | exact rnd_succ | exact trn_0 _ _ | exact rnd_0 _ | rfl)
                    refine ⟨⟨?_, rfl, rfl⟩, ?_⟩
                    · first | exact ⟨_, rfl, .inl rfl⟩ | exact ⟨_, rfl, .inr rfl⟩ | (refine ⟨_, rfl, .inl ?_⟩; (first | refine ei ?_ | refine eb ?_ | refine esl ?_ | refine estr ?_ | skip); first | exact W_succ hlt hl | exact trn_succ | exact rnd_succ | exact trn_0 _ _ | exact rnd_0 _ | rfl) | (refine ⟨_, rfl, .inr ?_⟩; (first | refine ei ?_ | refine eb ?_ | refine esl ?_ | refine estr ?_ | skip); first | exact W_succ hlt hl | exact trn_succ | exact rnd_succ | exact trn_0 _ _ | exact rnd_0 _ | rfl)
                    refine ⟨⟨?_, rfl, rfl⟩, ?_⟩
                    · first | exact ⟨_, rfl, .inl rfl⟩ | exact ⟨_, rfl, .inr rfl⟩ | (refine ⟨_, rfl, .inl ?_⟩; (first | refine ei ?_ | refine eb ?_ | refine esl ?_ | refine estr ?_ | skip); first | exact W_succ hlt hl | exact trn_succ | exact rnd_succ | exact trn_0 _ _ | exact rnd_0 _ | rfl) | (refine ⟨_, rfl, .inr ?_⟩; (first | refine ei ?_ | refine eb ?_ | refine esl ?_ | refine estr ?_ | skip); first | exact W_succ hlt hl | exact trn_succ | exact rnd_succ | exact trn_0 _ _ | exact rnd_0 _ | rfl)
                    exact trivial
                  · refine ⟨orow rfl ?_ rfl, ?_⟩
                    · first | rfl | (first | exact W_succ hlt hl | exact trn_succ | exact rnd_succ | exact trn_0 _ _ | exact rnd_0 _ | rfl)
                    refine ⟨orow rfl ?_ rfl, ?_⟩
                    · first | rfl | (first | exact W_succ hlt hl | exact trn_succ | exact rnd_succ | exact trn_0 _ _ | exact rnd_0 _ | rfl)
                    exact trivial)))
          · first
            | (cases hc; done)
            | (
              refine awp_exit ?_
              repeat (first | refine then_exit ?_ | refine inBlock_other rfl ?_)
              refine inBlock_exit ?_
              refine then_normal ?_
              refine awp_seq ?_
              refine awp_seq ?_
              (have hE := endT_of h3.1 f hi (not_lt_len hc); have hiL := hE.2.2) <;> (
              refine awp_region ?_
              refine rv rfl rfl (?_)
              refine rc1 rfl rfl rfl (simple_cb (by rw [trn_len]; unfold maxLen; omega) (sm_t hS hE)) (?_)
              refine rv rfl rfl (?_)
              refine rv rfl rfl (?_)
              (first | refine gy rfl rfl rfl (rv rfl rfl (?_)) | refine gn rfl rfl rfl rfl rfl ?_ | refine gu rfl rfl rfl rfl ?_ | refine gs rfl rfl rfl rfl rfl (fun hg => rv rfl rfl (?_)) (fun hg => ?_)) <;> (
              (first | refine gy rfl rfl rfl (rc1 rfl rfl rfl (simple_cb (by rw [rnd_len]; unfold maxLen; omega) (sm_r hS hE)) (?_)) | refine gn rfl rfl rfl rfl rfl ?_ | refine gu rfl rfl rfl rfl ?_ | refine gs rfl rfl rfl rfl rfl (fun hg => rc1 rfl rfl rfl (simple_cb (by rw [rnd_len]; unfold maxLen; omega) (sm_r hS hE)) (?_)) (fun hg => ?_)) <;> (
              (first | refine gy rfl rfl rfl (rv rfl rfl (?_)) | refine gn rfl rfl rfl rfl rfl ?_ | refine gu rfl rfl rfl rfl ?_ | refine gs rfl rfl rfl rfl rfl (fun hg => rv rfl rfl (?_)) (fun hg => ?_)) <;> (
              refine rv rfl rfl (?_)
              refine rv rfl rfl (?_)
              (first | refine gy rfl rfl rfl (rv rfl rfl (?_)) | refine gn rfl rfl rfl rfl rfl ?_ | refine gu rfl rfl rfl rfl ?_ | refine gs rfl rfl rfl rfl rfl (fun hg => rv rfl rfl (?_)) (fun hg => ?_)) <;> (
              (first | refine gy rfl rfl rfl (rv rfl rfl (?_)) | refine gn rfl rfl rfl rfl rfl ?_ | refine gu rfl rfl rfl rfl ?_ | refine gs rfl rfl rfl rfl rfl (fun hg => rv rfl rfl (?_)) (fun hg => ?_)) <;> (
              (first | refine gy rfl rfl rfl (rc1 rfl rfl rfl (in_cb (by rw [trn_len]; unfold maxLen; omega) (in_t hE)) (?_)) | refine gn rfl rfl rfl rfl rfl ?_ | refine gu rfl rfl rfl rfl ?_ | refine gs rfl rfl rfl rfl rfl (fun hg => rc1 rfl rfl rfl (in_cb (by rw [trn_len]; unfold maxLen; omega) (in_t hE)) (?_)) (fun hg => ?_)) <;> (
              (first | refine gy rfl rfl rfl (rv rfl rfl (?_)) | refine gn rfl rfl rfl rfl rfl ?_ | refine gu rfl rfl rfl rfl ?_ | refine gs rfl rfl rfl rfl rfl (fun hg => rv rfl rfl (?_)) (fun hg => ?_)) <;> (
              (first | refine gy rfl rfl rfl (rv rfl rfl (?_)) | refine gn rfl rfl rfl rfl rfl ?_ | refine gu rfl rfl rfl rfl ?_ | refine gs rfl rfl rfl rfl rfl (fun hg => rv rfl rfl (?_)) (fun hg => ?_)) <;> (
              refine rv rfl rfl (?_)
              refine rv rfl rfl (?_)
              (first | refine gy rfl rfl rfl (rv rfl rfl (?_)) | refine gn rfl rfl rfl rfl rfl ?_ | refine gu rfl rfl rfl rfl ?_ | refine gs rfl rfl rfl rfl rfl (fun hg => rv rfl rfl (?_)) (fun hg => ?_)) <;> (
              (first | refine gy rfl rfl rfl (rv rfl rfl (?_)) | refine gn rfl rfl rfl rfl rfl ?_ | refine gu rfl rfl rfl rfl ?_ | refine gs rfl rfl rfl rfl rfl (fun hg => rv rfl rfl (?_)) (fun hg => ?_)) <;> (
              (first | refine gy rfl rfl rfl (rc1 rfl rfl rfl (in_cb (by rw [rnd_len]; unfold maxLen; omega) (in_r hS hmp hE)) (?_)) | refine gn rfl rfl rfl rfl rfl ?_ | refine gu rfl rfl rfl rfl ?_ | refine gs rfl rfl rfl rfl rfl (fun hg => rc1 rfl rfl rfl (in_cb (by rw [rnd_len]; unfold maxLen; omega) (in_r hS hmp hE)) (?_)) (fun hg => ?_)) <;> (
              (first | refine gy rfl rfl rfl (rv rfl rfl (?_)) | refine gn rfl rfl rfl rfl rfl ?_ | refine gu rfl rfl rfl rfl ?_ | refine gs rfl rfl rfl rfl rfl (fun hg => rv rfl rfl (?_)) (fun hg => ?_)) <;> (
              (first | refine gy rfl rfl rfl (rv rfl rfl (?_)) | refine gn rfl rfl rfl rfl rfl ?_ | refine gu rfl rfl rfl rfl ?_ | refine gs rfl rfl rfl rfl rfl (fun hg => rv rfl rfl (?_)) (fun hg => ?_)) <;> (
              refine rv rfl rfl (?_)
              refine rv rfl rfl (?_)
              (first | refine gy rfl rfl rfl (rv rfl rfl (?_)) | refine gn rfl rfl rfl rfl rfl ?_ | refine gu rfl rfl rfl rfl ?_ | refine gs rfl rfl rfl rfl rfl (fun hg => rv rfl rfl (?_)) (fun hg => ?_)) <;> (
              (first | refine gy rfl rfl rfl (rc1 rfl rfl rfl (tw_cb (by rw [trn_len]; unfold maxLen; omega) (tw_t hE)) (?_)) | refine gn rfl rfl rfl rfl rfl ?_ | refine gu rfl rfl rfl rfl ?_ | refine gs rfl rfl rfl rfl rfl (fun hg => rc1 rfl rfl rfl (tw_cb (by rw [trn_len]; unfold maxLen; omega) (tw_t hE)) (?_)) (fun hg => ?_)) <;> (
              (first | refine gy rfl rfl rfl (rv rfl rfl (?_)) | refine gn rfl rfl rfl rfl rfl ?_ | refine gu rfl rfl rfl rfl ?_ | refine gs rfl rfl rfl rfl rfl (fun hg => rv rfl rfl (?_)) (fun hg => ?_)) <;> (
              (first | refine gy rfl rfl rfl (rc1 rfl rfl rfl (twice_c hl) (?_)) | refine gn rfl rfl rfl rfl rfl ?_ | refine gu rfl rfl rfl rfl ?_ | refine gs rfl rfl rfl rfl rfl (fun hg => rc1 rfl rfl rfl (twice_c hl) (?_)) (fun hg => ?_)) <;> (
              (first | refine gy rfl rfl rfl (rv rfl rfl (?_)) | refine gn rfl rfl rfl rfl rfl ?_ | refine gu rfl rfl rfl rfl ?_ | refine gs rfl rfl rfl rfl rfl (fun hg => rv rfl rfl (?_)) (fun hg => ?_)) <;> (
              refine rv rfl rfl (?_)
              refine rv rfl rfl (?_)
              (first | refine gy rfl rfl rfl (rv rfl rfl (?_)) | refine gn rfl rfl rfl rfl rfl ?_ | refine gu rfl rfl rfl rfl ?_ | refine gs rfl rfl rfl rfl rfl (fun hg => rv rfl rfl (?_)) (fun hg => ?_)) <;> (
              (first | refine gy rfl rfl rfl (rc1 rfl rfl rfl (tw_cb (by rw [rnd_len]; unfold maxLen; omega) (tw_r hE)) (?_)) | refine gn rfl rfl rfl rfl rfl ?_ | refine gu rfl rfl rfl rfl ?_ | refine gs rfl rfl rfl rfl rfl (fun hg => rc1 rfl rfl rfl (tw_cb (by rw [rnd_len]; unfold maxLen; omega) (tw_r hE)) (?_)) (fun hg => ?_)) <;> (
              (first | refine gy rfl rfl rfl (rv rfl rfl (?_)) | refine gn rfl rfl rfl rfl rfl ?_ | refine gu rfl rfl rfl rfl ?_ | refine gs rfl rfl rfl rfl rfl (fun hg => rv rfl rfl (?_)) (fun hg => ?_)) <;> (
              (first | refine gy rfl rfl rfl (rc1 rfl rfl rfl (twice_c hl) (?_)) | refine gn rfl rfl rfl rfl rfl ?_ | refine gu rfl rfl rfl rfl ?_ | refine gs rfl rfl rfl rfl rfl (fun hg => rc1 rfl rfl rfl (twice_c hl) (?_)) (fun hg => ?_)) <;> (
              (first | refine gy rfl rfl rfl (rv rfl rfl (?_)) | refine gn rfl rfl rfl rfl rfl ?_ | refine gu rfl rfl rfl rfl ?_ | refine gs rfl rfl rfl rfl rfl (fun hg => rv rfl rfl (?_)) (fun hg => ?_)) <;> (
              refine rv rfl rfl (?_)
              refine rn ?_
              refine then_normal ?_
              refine cs_ rfl (fun hc => ?_) (fun hc => ?_)
              · first
                | (cases hc; done)
                | (
                  refine awp_seq ?_
                  refine awp_region ?_
                  refine rv rfl rfl (?_)
                  refine rn ?_
                  refine then_normal ?_
                  refine awp_ret ?_
                  repeat (first | refine then_ret ?_ | refine inBlock_ret ?_)
                  refine rr rfl rfl ?_
                  first | rfl | exact (bne_no (by assumption)).elim | exact (beq_no (by assumption)).elim | exact (ieq_no (by assumption)).elim | exact (in_no hS hlt (by assumption)).elim | (simp; done) | (simp at hc; done) | (simp at hg; done) | (exfalso; simp_all; done) | trace_state)
              · first
                | (cases hc; done)
                | (
                  refine awp_skip ?_
                  refine then_normal ?_
                  refine awp_seq ?_
                  (rcases ha : l.all (addA d) with _ | _) <;> (
                  refine awp_region ?_
                  refine rv rfl rfl (?_)
                  refine rv rfl rfl (?_)
                  refine rc1 rfl rfl rfl (move_cb hl hs ha) (?_)
                  refine rv rfl rfl (?_)
                  refine rv rfl rfl (?_)
                  refine rv rfl rfl (?_)
                  refine rv rfl rfl (?_)
                  refine rv rfl rfl (?_)
                  refine rn ?_
                  refine then_normal ?_
                  refine awp_seq ?_
                  refine awp_region ?_
                  refine rv rfl rfl (?_)
                  refine rv rfl rfl (?_)
                  refine rv rfl rfl (?_)
                  refine rv rfl rfl (?_)
                  refine rv rfl rfl (?_)
                  refine rv rfl rfl (?_)
                  refine rv rfl rfl (?_)
                  refine rv rfl rfl (?_)
                  refine rv rfl rfl (?_)
                  refine rv rfl rfl (?_)
                  refine rv rfl rfl (?_)
                  refine ra rfl rfl rfl (?_)
                  refine rs rfl rfl rfl rfl rfl rfl rfl (?_)
                  refine rn ?_
                  refine then_normal ?_
                  refine awp_seq ?_
                  refine awp_region ?_
                  refine rv rfl rfl (?_)
                  refine rc1 rfl rfl rfl rmayP_c (?_)
                  refine rv rfl rfl (?_)
                  refine rn ?_
                  refine then_normal ?_
                  refine awp_seq ?_
                  refine awp_seq ?_
                  refine awp_region ?_
                  refine rv rfl rfl (?_)
                  refine rv rfl rfl (?_)
                  refine rv rfl rfl (?_)
                  (first | refine gy rfl rfl rfl (rv rfl rfl (?_)) | refine gn rfl rfl rfl rfl rfl ?_ | refine gu rfl rfl rfl rfl ?_ | refine gs rfl rfl rfl rfl rfl (fun hg => rv rfl rfl (?_)) (fun hg => ?_)) <;> (
                  (first | refine gy rfl rfl rfl (rv rfl rfl (?_)) | refine gn rfl rfl rfl rfl rfl ?_ | refine gu rfl rfl rfl rfl ?_ | refine gs rfl rfl rfl rfl rfl (fun hg => rv rfl rfl (?_)) (fun hg => ?_)) <;> (
                  refine rv rfl rfl (?_)
                  refine rn ?_
                  refine then_normal ?_
                  refine cs_ rfl (fun hc => ?_) (fun hc => ?_)
                  · first
                    | (cases hc; done)
                    | (
                      refine awp_seq ?_
                      refine awp_region ?_
                      refine rv rfl rfl (?_)
                      refine rv rfl rfl (?_)
                      refine rn ?_
                      refine then_normal ?_
                      refine awp_ret ?_
                      repeat (first | refine then_ret ?_ | refine inBlock_ret ?_)
                      refine rr rfl rfl ?_
                      first | rfl | exact (bne_no (by assumption)).elim | exact (beq_no (by assumption)).elim | exact (ieq_no (by assumption)).elim | exact (in_no hS hlt (by assumption)).elim | (simp; done) | (simp at hc; done) | (simp at hg; done) | (exfalso; simp_all; done) | trace_state)
                  · first
                    | (cases hc; done)
                    | (
                      refine awp_skip ?_
                      refine then_normal ?_
                      refine awp_seq ?_
                      refine awp_region ?_
                      refine rv rfl rfl (?_)
                      refine rv rfl rfl (?_)
                      (first | refine gy rfl rfl rfl (rv rfl rfl (?_)) | refine gn rfl rfl rfl rfl rfl ?_ | refine gu rfl rfl rfl rfl ?_ | refine gs rfl rfl rfl rfl rfl (fun hg => rv rfl rfl (?_)) (fun hg => ?_)) <;> (
                      (first | refine gy rfl rfl rfl (rv rfl rfl (?_)) | refine gn rfl rfl rfl rfl rfl ?_ | refine gu rfl rfl rfl rfl ?_ | refine gs rfl rfl rfl rfl rfl (fun hg => rv rfl rfl (?_)) (fun hg => ?_)) <;> (
                      (first | refine gy rfl rfl rfl (rc1 rfl rfl rfl (in_cb (by rw [List.length_map]; omega) (in_m hS ha hmp (by first | assumption | (simpa using (by assumption : (!mayP (W (p.1 + d.1)) (W (p.2 + d.2))) = false))))) (?_)) | refine gn rfl rfl rfl rfl rfl ?_ | refine gu rfl rfl rfl rfl ?_ | refine gs rfl rfl rfl rfl rfl (fun hg => rc1 rfl rfl rfl (in_cb (by rw [List.length_map]; omega) (in_m hS ha hmp (by first | assumption | (simpa using (by assumption : (!mayP (W (p.1 + d.1)) (W (p.2 + d.2))) = false))))) (?_)) (fun hg => ?_)) <;> (
                      (first | refine gy rfl rfl rfl (rv rfl rfl (?_)) | refine gn rfl rfl rfl rfl rfl ?_ | refine gu rfl rfl rfl rfl ?_ | refine gs rfl rfl rfl rfl rfl (fun hg => rv rfl rfl (?_)) (fun hg => ?_)) <;> (
                      (first | refine gy rfl rfl rfl (rv rfl rfl (?_)) | refine gn rfl rfl rfl rfl rfl ?_ | refine gu rfl rfl rfl rfl ?_ | refine gs rfl rfl rfl rfl rfl (fun hg => rv rfl rfl (?_)) (fun hg => ?_)) <;> (
                      refine rv rfl rfl (?_)
                      refine rv rfl rfl (?_)
                      (first | refine gy rfl rfl rfl (rv rfl rfl (?_)) | refine gn rfl rfl rfl rfl rfl ?_ | refine gu rfl rfl rfl rfl ?_ | refine gs rfl rfl rfl rfl rfl (fun hg => rv rfl rfl (?_)) (fun hg => ?_)) <;> (
                      (first | refine gy rfl rfl rfl (rc1 rfl rfl rfl (tw_cb (by rw [List.length_map]; omega) (congrArg twA (area_mv d l))) (?_)) | refine gn rfl rfl rfl rfl rfl ?_ | refine gu rfl rfl rfl rfl ?_ | refine gs rfl rfl rfl rfl rfl (fun hg => rc1 rfl rfl rfl (tw_cb (by rw [List.length_map]; omega) (congrArg twA (area_mv d l))) (?_)) (fun hg => ?_)) <;> (
                      (first | refine gy rfl rfl rfl (rv rfl rfl (?_)) | refine gn rfl rfl rfl rfl rfl ?_ | refine gu rfl rfl rfl rfl ?_ | refine gs rfl rfl rfl rfl rfl (fun hg => rv rfl rfl (?_)) (fun hg => ?_)) <;> (
                      (first | refine gy rfl rfl rfl (rc1 rfl rfl rfl (twice_c hl) (?_)) | refine gn rfl rfl rfl rfl rfl ?_ | refine gu rfl rfl rfl rfl ?_ | refine gs rfl rfl rfl rfl rfl (fun hg => rc1 rfl rfl rfl (twice_c hl) (?_)) (fun hg => ?_)) <;> (
                      (first | refine gy rfl rfl rfl (rv rfl rfl (?_)) | refine gn rfl rfl rfl rfl rfl ?_ | refine gu rfl rfl rfl rfl ?_ | refine gs rfl rfl rfl rfl rfl (fun hg => rv rfl rfl (?_)) (fun hg => ?_)) <;> (
                      refine rv rfl rfl (?_)
                      refine rv rfl rfl (?_)
                      refine rn ?_
                      refine then_normal ?_
                      refine awp_ret ?_
                      repeat (first | refine then_ret ?_ | refine inBlock_ret ?_)
                      refine rr rfl rfl ?_
                      first | rfl | exact (bne_no (by assumption)).elim | exact (beq_no (by assumption)).elim | exact (ieq_no (by assumption)).elim | exact (in_no hS hlt (by assumption)).elim | (simp; done) | (simp at hc; done) | (simp at hg; done) | (exfalso; simp_all; done) | trace_state))))))))))))))))))))))))))))))))))))))))))))))))))))))))))
end

theorem PolyTurns_c {l : List Pt} {x y x' y' z : Int} (hl : l.length ≤ maxLen) (_ : (Lit.int .i64 z).wf = true) : PCall Try.prog 5 [.sl (rows l), .agg [.int .i64 x, .int .i64 y], .agg [.int .i64 x', .int .i64 y'], .int .i64 z] (· = .bool true) := PolyTurns_p (p := (x, y)) (d := (x', y')) hl

end Go.Proofs.Ytngeejjllgnpcaa
