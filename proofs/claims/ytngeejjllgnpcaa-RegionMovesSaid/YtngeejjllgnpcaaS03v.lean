/- Contracts, printed by a program of this session's. -/
import Derived.Test.YtngeejjllgnpcaaS03u
namespace Go.Proofs.Ytngeejjllgnpcaa
open Go.Pv
set_option maxRecDepth 100000
set_option maxHeartbeats 4000000
set_option linter.unusedSimpArgs false
set_option linter.unusedVariables false
set_option linter.unusedSectionVars false

theorem ron' {a b c d x y : Int} : PCall Try.prog 62 [.agg [.int .i64 a, .int .i64 b], .agg [.int .i64 c, .int .i64 d], .agg [.int .i64 x, .int .i64 y]] (· = .bool (onV a b c d x y)) := by
  rw [← ronV_eq]; exact ron_c
theorem rcross' {a b c d x y x' y' : Int} : PCall Try.prog 63 [.agg [.int .i64 a, .int .i64 b], .agg [.int .i64 c, .int .i64 d], .agg [.int .i64 x, .int .i64 y], .agg [.int .i64 x', .int .i64 y']] (· = .bool (crossV a b c d x y x' y')) := by
  rw [← rcrossV_eq]; exact rcross_c
def base2 (l : List Pt) : Prop := 3 ≤ l.length ∧ l.length ≤ 64
theorem base2_of {l : List Pt} (h1 : decide (((rows l).length : Int) < 3) = false) (h2 : decide (((rows l).length : Int) > 64) = false) : base2 l := by
  rw [rows_len] at h1 h2; simp at h1 h2
  exact ⟨by omega, by omega⟩
/-- The first loop's word. -/
def okM (l : List Pt) (i : Nat) : Prop := i ≤ l.length ∧ ∀ j, j < i → my (gp l j) = true ∧ ∀ k, k < j → eqP (gp l j) (gp l k) = false
def okE (l : List Pt) (i k : Nat) : Prop := k ≤ i ∧ ∀ j, j < k → eqP (gp l i) (gp l j) = false
theorem okE_step {l : List Pt} {i k : Nat} (h : okE l i k) (hk : k < i) (he : eqP (gp l i) (gp l k) = false) : okE l i (k + 1) :=
  ⟨hk, fun j hj => by
    by_cases e : j = k
    · subst e; exact he
    · exact h.2 j (by omega)⟩
theorem okM_step {l : List Pt} {i k : Nat} (h : okM l i) (hl : i < l.length) (hm : my (gp l i) = true) (hk : okE l i k) (he : ¬ k < i) : okM l (i + 1) :=
  ⟨hl, fun j hj => by
    by_cases e : j = i
    · subst e; exact ⟨hm, fun m a => hk.2 m (by omega)⟩
    · exact h.2 j (by omega)⟩
theorem may_bad {l : List Pt} {i : Nat} (hl : i < l.length) (h : my (gp l i) = false) : AV.bool false = AV.bool (simpB l) := by
  rw [simpB_no]; intro hs; rw [hs.may _ (gp_mem (by omega) i)] at h; cases h
theorem eq_bad {l : List Pt} {i k : Nat} (hl : i < l.length) (hk : k < i) (h : eqP (gp l i) (gp l k) = true) : AV.bool false = AV.bool (simpB l) := by
  rw [simpB_no]; intro hs
  rw [eqP_iff] at h
  have := gp_inj hs.nd (by omega) h
  rw [Nat.mod_eq_of_lt hl, Nat.mod_eq_of_lt (by omega)] at this; omega
theorem okM_base {l : List Pt} {i : Nat} (h : okM l i) (he : ¬ i < l.length) : l.all my = true ∧ l.Nodup := by
  have e : i = l.length := by have := h.1; omega
  subst e
  refine ⟨List.all_eq_true.2 fun p hp => ?_, nodup_any fun j hj => ?_⟩
  · obtain ⟨j, hj, rfl⟩ := List.mem_iff_getElem.1 hp
    rw [← gp_lt hj]; exact (h.2 j hj).1
  · rw [List.any_eq_false]
    intro x hx
    obtain ⟨k, hk, rfl⟩ := List.mem_take_iff_getElem.1 hx
    have := (h.2 j hj).2 k (by omega)
    rw [gp_lt (i := k) (by omega)] at this
    rw [this]; simp
def okC2 (l : List Pt) (i k : Nat) : Prop := k = i ∨ k = (i + 1) % l.length ∨ i = (k + 1) % l.length ∨ crI l i k = false
def okK2 (l : List Pt) (i k : Nat) : Prop := k ≤ l.length ∧ ∀ j, j < k → okC2 l i j
def okI2 (l : List Pt) (i : Nat) : Prop := i ≤ l.length ∧ ∀ j, j < i → nbI l j = false ∧ ∀ k, k < l.length → okC2 l j k
theorem okK2_step {l : List Pt} {i k : Nat} (h : okK2 l i k) (hk : k < l.length) (hc : okC2 l i k) : okK2 l i (k + 1) :=
  ⟨hk, fun j hj => by
    by_cases e : j = k
    · subst e; exact hc
    · exact h.2 j (by omega)⟩
theorem okI2_step {l : List Pt} {i k : Nat} (h : okI2 l i) (hl : i < l.length) (h1 : nbI l i = false) (hk : okK2 l i k) (he : ¬ k < l.length) : okI2 l (i + 1) :=
  ⟨hl, fun j hj => by
    by_cases e : j = i
    · subst e; exact ⟨h1, fun m a => hk.2 m (by omega)⟩
    · exact h.2 j (by omega)⟩
theorem okI2_end {l : List Pt} {i : Nat} (hb : base2 l) (hm : l.all my = true ∧ l.Nodup) (h : okI2 l i) (he : ¬ i < l.length) : AV.bool true = AV.bool (simpB l) := by
  have e : i = l.length := by have := h.1; omega
  subst e
  have : simpB l = true := (simpB_iff l).2 (simp_of hb.1 hb.2 (List.all_eq_true.1 hm.1) hm.2 (fun i hi => (h.2 i hi).1) fun i k h1 h2 h3 => by
    rcases (h.2 i (by omega)).2 k h2 with h | h | h | h
    · omega
    · rw [Nat.mod_eq_of_lt (by omega)] at h; omega
    · exact absurd h.symm h3
    · exact h)
  rw [this]
theorem cr_bad2 {l : List Pt} {i k : Nat} (hl : i < l.length) (hk : k < l.length) (h1 : ((k : Int) == (i : Int)) = false) (h2 : ((k : Int) == (((i + 1) % l.length : Nat) : Int)) = false) (h3 : ((i : Int) == (((k + 1) % l.length : Nat) : Int)) = false)
    (h : crI l i k = true) : AV.bool false = AV.bool (simpB l) := by
  rw [simpB_no]; intro hs
  have e1 : k ≠ i := fun e => by rw [e] at h1; simp at h1
  have e2 : k ≠ (i + 1) % l.length := fun e => by rw [← e] at h2; simp at h2
  have e3 : i ≠ (k + 1) % l.length := fun e => by rw [← e] at h3; simp at h3
  rw [hs.crI hl hk e1 e2 e3] at h; cases h
theorem c2_1 {l : List Pt} {i k : Nat} (h : ((k : Int) == (i : Int)) = true) : okC2 l i k := .inl (Int.ofNat.inj (beq_iff_eq.1 h))
theorem c2_2 {l : List Pt} {i k : Nat} (h : ((k : Int) == (((i + 1) % l.length : Nat) : Int)) = true) : okC2 l i k := .inr (.inl (Int.ofNat.inj (beq_iff_eq.1 h)))
theorem c2_3 {l : List Pt} {i k : Nat} (h : ((i : Int) == (((k + 1) % l.length : Nat) : Int)) = true) : okC2 l i k := .inr (.inr (.inl (Int.ofNat.inj (beq_iff_eq.1 h))))
theorem nb_1 {l : List Pt} {i : Nat} (h1 : on (gp l i) (gp l (i + 1)) (gp l (i + 2)) = false) (h2 : on (gp l (i + 1)) (gp l (i + 2)) (gp l i) = false) : nbI l i = false := by unfold nbI; rw [h1, h2]; rfl
theorem nb_2 {l : List Pt} {i : Nat} (hl : i < l.length) (h : on (gp l i) (gp l (i + 1)) (gp l (i + 2)) = true) : AV.bool false = AV.bool (simpB l) := nb_bad hl (by unfold nbI; rw [h]; rfl)
theorem nb_3 {l : List Pt} {i : Nat} (hl : i < l.length) (h : on (gp l (i + 1)) (gp l (i + 2)) (gp l i) = true) : AV.bool false = AV.bool (simpB l) := nb_bad hl (by unfold nbI; rw [h, Bool.or_true])
theorem ltN {k i : Nat} (h : decide ((k : Int) < (i : Int)) = true) : k < i := by simp at h; omega
theorem nltN {k i : Nat} (h : decide ((k : Int) < (i : Int)) = false) : ¬ k < i := by simp at h; omega

section
attribute [local irreducible] awp aops DP PCall ACall Decidable.decide Nat.mod onV crossV mayP simpB
/-- `plover/ploverref01.Simple` -/
theorem rsimple_c {l : List Pt} (hl : l.length ≤ maxLen) : PCall Try.prog 16 [.sl (rows l)] (· = .bool (simpB l)) := by
  refine pcall_body Try.func16 rfl (by kernel_rfl) (by rfl) ?_
  refine awp_seq ?_
  refine awp_region ?_
  refine rv rfl rfl (?_)
  refine rn ?_
  refine then_normal ?_
  refine awp_seq ?_
  refine awp_region ?_
  refine rv rfl rfl (?_)
  refine rv rfl rfl (?_)
  refine rv rfl rfl (?_)
  refine rn ?_
  refine then_normal ?_
  refine awp_seq ?_
  refine awp_seq ?_
  refine awp_region ?_
  refine rv rfl rfl (?_)
  refine rv rfl rfl (?_)
  refine rv rfl rfl (?_)
  (first | refine gy rfl rfl rfl (rv rfl rfl (?_)) | refine gn rfl rfl rfl rfl rfl ?_ | refine gu rfl rfl rfl rfl ?_ | refine gs rfl rfl rfl rfl rfl (fun hg => rv rfl rfl (?_)) (fun hg => ?_)) <;> (
  (first | refine gy rfl rfl rfl (rv rfl rfl (?_)) | refine gn rfl rfl rfl rfl rfl ?_ | refine gu rfl rfl rfl rfl ?_ | refine gs rfl rfl rfl rfl rfl (fun hg => rv rfl rfl (?_)) (fun hg => ?_)) <;> (
  refine rv rfl rfl (?_)
  refine rn ?_
  refine then_normal ?_
  refine cs_ rfl (fun hc => ?_) (fun hc => ?_)
  · first
    | (cases hc; done)
    | (
      refine awp_seq ?_
      refine awp_region ?_
      refine rv rfl rfl (?_)
      refine rn ?_
      refine then_normal ?_
      refine awp_ret ?_
      repeat (first | refine then_ret ?_ | refine inBlock_ret ?_)
      refine rr rfl rfl ?_
      first | exact len3 (by assumption) | exact len64 (by assumption) | exact cr_bad2 hlt hkl (by assumption) (by assumption) (by assumption) (by assumption) | exact eq_bad hlt hki (by first | assumption | simpa [eqP] using hc) | exact nb_2 hlt (by assumption) | exact nb_3 hlt (by assumption) | exact may_bad hlt (by first | assumption | (simpa [my] using hc)) | exact okI2_end hb hB hi (not_lt_len hc) | trace_state)
  · first
    | (cases hc; done)
    | (
      refine awp_skip ?_
      refine then_normal ?_
      refine awp_seq ?_
      refine awp_seq ?_
      (have hb := base2_of (by assumption) (by assumption)) <;> (
      refine awp_region ?_
      refine rv rfl rfl (?_)
      refine rn ?_
      refine then_normal ?_
      refine awp_block ?_
      refine awp_loop (ι := Nat) (fun i => ⟨[(0, .sl (rows l)), (2, .bool false), (3, .int .i64 ((rows l).length : Int)), (4, .int .i64 (i : Int))], [], [], 0⟩) (fun i => okM l i) (fun i => l.length - i) (0) (⟨Nat.zero_le _, fun j hj => by omega⟩) ?_ (fun _ => Nat.zero_le _) (fun i hi => ?_)
      · refine ⟨Nat.le_of_ble_eq_true rfl, ?_, ?_, ?_⟩
        · refine ⟨⟨?_, rfl⟩, ?_⟩
          · first | rfl | ((first | refine ei ?_ | refine eh ?_ | refine eb ?_ | refine ehb ?_ | skip); exact W_succ hlt hl)
          refine ⟨⟨?_, rfl⟩, ?_⟩
          · first | rfl | ((first | refine ei ?_ | refine eh ?_ | refine eb ?_ | refine ehb ?_ | skip); exact W_succ hlt hl)
          refine ⟨⟨?_, rfl⟩, ?_⟩
          · first | rfl | ((first | refine ei ?_ | refine eh ?_ | refine eb ?_ | refine ehb ?_ | skip); exact W_succ hlt hl)
          refine ⟨⟨?_, rfl⟩, ?_⟩
          · first | rfl | ((first | refine ei ?_ | refine eh ?_ | refine eb ?_ | refine ehb ?_ | skip); exact W_succ hlt hl)
          exact trivial
        · exact trivial
        · exact trivial
      refine awp_seq ?_
      refine awp_seq ?_
      refine awp_region ?_
      refine rv rfl rfl (?_)
      refine rv rfl rfl (?_)
      refine rv rfl rfl (?_)
      refine rn ?_
      refine then_normal ?_
      refine cs_ rfl (fun hc => ?_) (fun hc => ?_)
      · first
        | (cases hc; done)
        | (
          refine awp_skip ?_
          refine then_normal ?_
          refine awp_seq ?_
          refine awp_block ?_
          refine awp_seq ?_
          (have hlt := lt_len hc) <;> (
          refine awp_region ?_
          refine rv rfl rfl (?_)
          refine rv rfl rfl (?_)
          refine ri rfl rfl rfl rfl rfl rfl (Int.natCast_nonneg _) (rows_i hlt) (rows_wide l) (?_)
          refine rv rfl rfl (?_)
          refine rc1 rfl rfl rfl rmayP_c (?_)
          refine rv rfl rfl (?_)
          refine rn ?_
          refine then_normal ?_
          refine awp_seq ?_
          refine awp_seq ?_
          refine awp_region ?_
          refine rv rfl rfl (?_)
          refine rv rfl rfl (?_)
          refine rn ?_
          refine then_normal ?_
          refine cs_ rfl (fun hc => ?_) (fun hc => ?_)
          · first
            | (cases hc; done)
            | (
              refine awp_seq ?_
              refine awp_region ?_
              refine rv rfl rfl (?_)
              refine rn ?_
              refine then_normal ?_
              refine awp_ret ?_
              repeat (first | refine then_ret ?_ | refine inBlock_ret ?_)
              refine rr rfl rfl ?_
              first | exact len3 (by assumption) | exact len64 (by assumption) | exact cr_bad2 hlt hkl (by assumption) (by assumption) (by assumption) (by assumption) | exact eq_bad hlt hki (by first | assumption | simpa [eqP] using hc) | exact nb_2 hlt (by assumption) | exact nb_3 hlt (by assumption) | exact may_bad hlt (by first | assumption | (simpa [my] using hc)) | exact okI2_end hb hB hi (not_lt_len hc) | trace_state)
          · first
            | (cases hc; done)
            | (
              refine awp_skip ?_
              refine then_normal ?_
              refine awp_seq ?_
              (have hm : my (gp l i) = true := (by first | assumption | (simpa [my] using hc))) <;> (
              refine awp_region ?_
              refine rv rfl rfl (?_)
              refine rn ?_
              refine then_normal ?_
              refine awp_block ?_
              refine awp_loop (ι := Nat) (fun k => ⟨[(0, .sl (rows l)), (2, .bool false), (3, .int .i64 ((rows l).length : Int)), (4, .int .i64 (i : Int)), (6, .int .i64 (k : Int))], [], [], 0⟩) (fun k => okE l i k) (fun k => i - k) (0) (⟨Nat.zero_le _, fun j hj => by omega⟩) ?_ (fun _ => Nat.zero_le _) (fun k hk => ?_)
              · refine ⟨Nat.le_of_ble_eq_true rfl, ?_, ?_, ?_⟩
                · refine ⟨⟨?_, rfl⟩, ?_⟩
                  · first | rfl | ((first | refine ei ?_ | refine eh ?_ | refine eb ?_ | refine ehb ?_ | skip); exact W_succ (Nat.lt_trans hki hlt) hl)
                  refine ⟨⟨?_, rfl⟩, ?_⟩
                  · first | rfl | ((first | refine ei ?_ | refine eh ?_ | refine eb ?_ | refine ehb ?_ | skip); exact W_succ (Nat.lt_trans hki hlt) hl)
                  refine ⟨⟨?_, rfl⟩, ?_⟩
                  · first | rfl | ((first | refine ei ?_ | refine eh ?_ | refine eb ?_ | refine ehb ?_ | skip); exact W_succ (Nat.lt_trans hki hlt) hl)
                  refine ⟨⟨?_, rfl⟩, ?_⟩
                  · first | rfl | ((first | refine ei ?_ | refine eh ?_ | refine eb ?_ | refine ehb ?_ | skip); exact W_succ (Nat.lt_trans hki hlt) hl)
                  refine ⟨⟨?_, rfl⟩, ?_⟩
                  · first | rfl | ((first | refine ei ?_ | refine eh ?_ | refine eb ?_ | refine ehb ?_ | skip); exact W_succ (Nat.lt_trans hki hlt) hl)
                  exact trivial
                · exact trivial
                · exact trivial
              refine awp_seq ?_
              refine awp_seq ?_
              refine awp_region ?_
              refine rv rfl rfl (?_)
              refine rv rfl rfl (?_)
              refine rv rfl rfl (?_)
              refine rn ?_
              refine then_normal ?_
              refine cs_ rfl (fun hc => ?_) (fun hc => ?_)
              · first
                | (cases hc; done)
                | (
                  refine awp_skip ?_
                  refine then_normal ?_
                  refine awp_seq ?_
                  refine awp_block ?_
                  refine awp_seq ?_
                  (have hki := ltN hc) <;> (
                  refine awp_dp (m := 9) Try.mix (by kernel_rfl) (by kernel_rfl) (by kernel_rfl) (by kernel_rfl) (by kernel_rfl) (by kernel_rfl) (by kernel_rfl) ?_
                  refine dv rfl rfl (fun _ => rfl) ?_
                  refine dv rfl rfl (fun _ => rfl) ?_
                  refine di rfl rfl rfl rfl rfl (fun _ => rfl) rfl (Int.natCast_nonneg _) (rows_i hlt) (rows_wide l) ?_
                  refine dv rfl rfl (fun _ => rfl) ?_
                  refine dv rfl rfl (fun _ => rfl) ?_
                  refine dv rfl rfl (fun _ => rfl) ?_
                  refine di rfl rfl rfl rfl rfl (fun _ => rfl) rfl (Int.natCast_nonneg _) (rows_i (by omega)) (rows_wide l) ?_
                  refine dv rfl rfl (fun _ => rfl) ?_
                  refine dv rfl rfl (fun _ => rfl) ?_
                  refine dn ?_
                  refine rn ?_
                  refine then_normal ?_
                  refine cs_ rfl (fun hc => ?_) (fun hc => ?_)
                  · first
                    | (cases hc; done)
                    | (
                      refine awp_seq ?_
                      refine awp_region ?_
                      refine rv rfl rfl (?_)
                      refine rn ?_
                      refine then_normal ?_
                      refine awp_ret ?_
                      repeat (first | refine then_ret ?_ | refine inBlock_ret ?_)
                      refine rr rfl rfl ?_
                      first | exact len3 (by assumption) | exact len64 (by assumption) | exact cr_bad2 hlt hkl (by assumption) (by assumption) (by assumption) (by assumption) | exact eq_bad hlt hki (by first | assumption | simpa [eqP] using hc) | exact nb_2 hlt (by assumption) | exact nb_3 hlt (by assumption) | exact may_bad hlt (by first | assumption | (simpa [my] using hc)) | exact okI2_end hb hB hi (not_lt_len hc) | trace_state)
                  · first
                    | (cases hc; done)
                    | (
                      refine awp_skip ?_
                      refine inBlock_normal ?_
                      refine then_normal ?_
                      refine awp_region ?_
                      refine rv rfl rfl (?_)
                      refine rv rfl rfl (?_)
                      refine rv rfl rfl (?_)
                      refine rn ?_
                      refine then_normal ?_
                      refine ⟨k + 1, okE_step hk hki (by first | assumption | simpa [eqP] using hc), by omega, ?_⟩
                      refine ⟨Nat.le_of_ble_eq_true rfl, ?_, ?_, ?_⟩
                      · refine ⟨⟨?_, rfl⟩, ?_⟩
                        · first | rfl | ((first | refine ei ?_ | refine eh ?_ | refine eb ?_ | refine ehb ?_ | skip); exact W_succ (Nat.lt_trans hki hlt) hl)
                        refine ⟨⟨?_, rfl⟩, ?_⟩
                        · first | rfl | ((first | refine ei ?_ | refine eh ?_ | refine eb ?_ | refine ehb ?_ | skip); exact W_succ (Nat.lt_trans hki hlt) hl)
                        refine ⟨⟨?_, rfl⟩, ?_⟩
                        · first | rfl | ((first | refine ei ?_ | refine eh ?_ | refine eb ?_ | refine ehb ?_ | skip); exact W_succ (Nat.lt_trans hki hlt) hl)
                        refine ⟨⟨?_, rfl⟩, ?_⟩
                        · first | rfl | ((first | refine ei ?_ | refine eh ?_ | refine eb ?_ | refine ehb ?_ | skip); exact W_succ (Nat.lt_trans hki hlt) hl)
                        refine ⟨⟨?_, rfl⟩, ?_⟩
                        · first | rfl | ((first | refine ei ?_ | refine eh ?_ | refine eb ?_ | refine ehb ?_ | skip); exact W_succ (Nat.lt_trans hki hlt) hl)
                        exact trivial
                      · exact trivial
                      · exact trivial)))
              · first
                | (cases hc; done)
                | (
                  refine awp_exit ?_
                  repeat (first | refine then_exit ?_ | refine inBlock_other rfl ?_)
                  refine inBlock_exit ?_
                  refine inBlock_normal ?_
                  refine then_normal ?_
                  refine awp_region ?_
                  refine rv rfl rfl (?_)
                  refine rv rfl rfl (?_)
                  refine rv rfl rfl (?_)
                  refine rn ?_
                  refine then_normal ?_
                  refine ⟨i + 1, okM_step hi hlt hm hk (nltN hc), by omega, ?_⟩
                  refine ⟨Nat.le_of_ble_eq_true rfl, ?_, ?_, ?_⟩
                  · refine ⟨⟨?_, rfl⟩, ?_⟩
                    · first | rfl | ((first | refine ei ?_ | refine eh ?_ | refine eb ?_ | refine ehb ?_ | skip); exact W_succ hlt hl)
                    refine ⟨⟨?_, rfl⟩, ?_⟩
                    · first | rfl | ((first | refine ei ?_ | refine eh ?_ | refine eb ?_ | refine ehb ?_ | skip); exact W_succ hlt hl)
                    refine ⟨⟨?_, rfl⟩, ?_⟩
                    · first | rfl | ((first | refine ei ?_ | refine eh ?_ | refine eb ?_ | refine ehb ?_ | skip); exact W_succ hlt hl)
                    refine ⟨⟨?_, rfl⟩, ?_⟩
                    · first | rfl | ((first | refine ei ?_ | refine eh ?_ | refine eb ?_ | refine ehb ?_ | skip); exact W_succ hlt hl)
                    exact trivial
                  · exact trivial
                  · exact trivial)))))
      · first
        | (cases hc; done)
        | (
          refine awp_exit ?_
          repeat (first | refine then_exit ?_ | refine inBlock_other rfl ?_)
          refine inBlock_exit ?_
          refine then_normal ?_
          refine awp_seq ?_
          refine awp_seq ?_
          (have hB := okM_base hi (not_lt_len hc)) <;> (
          refine awp_region ?_
          refine rv rfl rfl (?_)
          refine rn ?_
          refine then_normal ?_
          refine awp_block ?_
          refine awp_loop (ι := Nat) (fun i => ⟨[(0, .sl (rows l)), (2, .bool false), (3, .int .i64 ((rows l).length : Int)), (7, .int .i64 (i : Int))], [], [], 0⟩) (fun i => okI2 l i) (fun i => l.length - i) (0) (⟨Nat.zero_le _, fun j hj => by omega⟩) ?_ (fun _ => Nat.zero_le _) (fun i hi => ?_)
          · refine ⟨Nat.le_of_ble_eq_true rfl, ?_, ?_, ?_⟩
            · refine ⟨⟨?_, rfl⟩, ?_⟩
              · first | rfl | ((first | refine ei ?_ | refine eh ?_ | refine eb ?_ | refine ehb ?_ | skip); exact W_succ hlt hl)
              refine ⟨⟨?_, rfl⟩, ?_⟩
              · first | rfl | ((first | refine ei ?_ | refine eh ?_ | refine eb ?_ | refine ehb ?_ | skip); exact W_succ hlt hl)
              refine ⟨⟨?_, rfl⟩, ?_⟩
              · first | rfl | ((first | refine ei ?_ | refine eh ?_ | refine eb ?_ | refine ehb ?_ | skip); exact W_succ hlt hl)
              refine ⟨⟨?_, rfl⟩, ?_⟩
              · first | rfl | ((first | refine ei ?_ | refine eh ?_ | refine eb ?_ | refine ehb ?_ | skip); exact W_succ hlt hl)
              exact trivial
            · exact trivial
            · exact trivial
          refine awp_seq ?_
          refine awp_seq ?_
          refine awp_region ?_
          refine rv rfl rfl (?_)
          refine rv rfl rfl (?_)
          refine rv rfl rfl (?_)
          refine rn ?_
          refine then_normal ?_
          refine cs_ rfl (fun hc => ?_) (fun hc => ?_)
          · first
            | (cases hc; done)
            | (
              refine awp_skip ?_
              refine then_normal ?_
              refine awp_seq ?_
              refine awp_block ?_
              refine awp_seq ?_
              (have hlt := lt_len hc) <;> (
              refine awp_region ?_
              refine rv rfl rfl (?_)
              refine rv rfl rfl (?_)
              refine ri rfl rfl rfl rfl rfl rfl (Int.natCast_nonneg _) (rows_i hlt) (rows_wide l) (?_)
              refine rv rfl rfl (?_)
              refine ra rfl rfl rfl (?_)
              refine rs rfl rfl rfl rfl rfl rfl rfl (?_)
              refine rn ?_
              refine then_normal ?_
              refine awp_seq ?_
              refine awp_region ?_
              refine rv rfl rfl (?_)
              refine rv rfl rfl (?_)
              refine rv' rfl (ov_eq rfl (W_sm (k := 1) (by have := hb.2; unfold maxLen; omega))) (?_)
              refine rv rfl rfl (?_)
              refine rv' rfl (ov_rem rfl rfl (len_ne (by omega)) (tmod_rows l (i + 1))) (?_)
              refine ri rfl rfl rfl rfl rfl rfl (Int.natCast_nonneg _) (rows_gp (by omega) _) (rows_wide l) (?_)
              refine rv rfl rfl (?_)
              refine ra rfl rfl rfl (?_)
              refine rs rfl rfl rfl rfl rfl rfl rfl (?_)
              refine rn ?_
              refine then_normal ?_
              refine awp_seq ?_
              refine awp_region ?_
              refine rv rfl rfl (?_)
              refine rv rfl rfl (?_)
              refine rv' rfl (ov_eq rfl (W_sm (k := 2) (by have := hb.2; unfold maxLen; omega))) (?_)
              refine rv rfl rfl (?_)
              refine rv' rfl (ov_rem rfl rfl (len_ne (by omega)) (tmod_rows l (i + 2))) (?_)
              refine ri rfl rfl rfl rfl rfl rfl (Int.natCast_nonneg _) (rows_gp (by omega) _) (rows_wide l) (?_)
              refine rv rfl rfl (?_)
              refine ra rfl rfl rfl (?_)
              refine rs rfl rfl rfl rfl rfl rfl rfl (?_)
              refine rn ?_
              refine then_normal ?_
              refine awp_seq ?_
              refine awp_region ?_
              refine rv rfl rfl (?_)
              refine rv rfl rfl (?_)
              refine rv rfl rfl (?_)
              refine rc1 rfl rfl rfl ron' (?_)
              refine rv rfl rfl (?_)
              refine rn ?_
              refine then_normal ?_
              refine awp_seq ?_
              refine awp_region ?_
              refine rv rfl rfl (?_)
              refine rv rfl rfl (?_)
              refine rv rfl rfl (?_)
              refine rc1 rfl rfl rfl ron' (?_)
              refine rv rfl rfl (?_)
              refine rn ?_
              refine then_normal ?_
              refine awp_seq ?_
              refine awp_seq ?_
              refine awp_region ?_
              refine rv rfl rfl (?_)
              refine rv rfl rfl (?_)
              (first | refine gy rfl rfl rfl (rv rfl rfl (?_)) | refine gn rfl rfl rfl rfl rfl ?_ | refine gu rfl rfl rfl rfl ?_ | refine gs rfl rfl rfl rfl rfl (fun hg => rv rfl rfl (?_)) (fun hg => ?_)) <;> (
              refine rv rfl rfl (?_)
              refine rn ?_
              refine then_normal ?_
              refine cs_ rfl (fun hc => ?_) (fun hc => ?_)
              · first
                | (cases hc; done)
                | (
                  refine awp_seq ?_
                  refine awp_region ?_
                  refine rv rfl rfl (?_)
                  refine rn ?_
                  refine then_normal ?_
                  refine awp_ret ?_
                  repeat (first | refine then_ret ?_ | refine inBlock_ret ?_)
                  refine rr rfl rfl ?_
                  first | exact len3 (by assumption) | exact len64 (by assumption) | exact cr_bad2 hlt hkl (by assumption) (by assumption) (by assumption) (by assumption) | exact eq_bad hlt hki (by first | assumption | simpa [eqP] using hc) | exact nb_2 hlt (by assumption) | exact nb_3 hlt (by assumption) | exact may_bad hlt (by first | assumption | (simpa [my] using hc)) | exact okI2_end hb hB hi (not_lt_len hc) | trace_state)
              · first
                | (cases hc; done)
                | (
                  refine awp_skip ?_
                  refine then_normal ?_
                  refine awp_seq ?_
                  (have hnb := nb_1 (by assumption) (by assumption)) <;> (
                  refine awp_region ?_
                  refine rv rfl rfl (?_)
                  refine rn ?_
                  refine then_normal ?_
                  refine awp_block ?_
                  refine awp_loop (ι := Nat) (fun k => ⟨[(0, .sl (rows l)), (2, .bool false), (3, .int .i64 ((rows l).length : Int)), (7, .int .i64 (i : Int)), (8, .ptr 0 0), (9, .ptr 1 0), (13, .int .i64 (k : Int))], [(0, 0, .int .i64 (gp l i).1), (0, 1, .int .i64 (gp l i).2), (1, 0, .int .i64 (gp l (i + 1)).1), (1, 1, .int .i64 (gp l (i + 1)).2)], [], 3⟩) (fun k => okK2 l i k) (fun k => l.length - k) (0) (⟨Nat.zero_le _, fun j hj => by omega⟩) ?_ (fun _ => Nat.zero_le _) (fun k hk => ?_)
                  · refine ⟨Nat.le_of_ble_eq_true rfl, ?_, ?_, ?_⟩
                    · refine ⟨⟨?_, rfl⟩, ?_⟩
                      · first | rfl | ((first | refine ei ?_ | refine eh ?_ | refine eb ?_ | refine ehb ?_ | skip); exact W_succ hkl hl)
                      refine ⟨⟨?_, rfl⟩, ?_⟩
                      · first | rfl | ((first | refine ei ?_ | refine eh ?_ | refine eb ?_ | refine ehb ?_ | skip); exact W_succ hkl hl)
                      refine ⟨⟨?_, rfl⟩, ?_⟩
                      · first | rfl | ((first | refine ei ?_ | refine eh ?_ | refine eb ?_ | refine ehb ?_ | skip); exact W_succ hkl hl)
                      refine ⟨⟨?_, rfl⟩, ?_⟩
                      · first | rfl | ((first | refine ei ?_ | refine eh ?_ | refine eb ?_ | refine ehb ?_ | skip); exact W_succ hkl hl)
                      refine ⟨⟨?_, rfl⟩, ?_⟩
                      · first | rfl | ((first | refine ei ?_ | refine eh ?_ | refine eb ?_ | refine ehb ?_ | skip); exact W_succ hkl hl)
                      refine ⟨⟨?_, rfl⟩, ?_⟩
                      · first | rfl | ((first | refine ei ?_ | refine eh ?_ | refine eb ?_ | refine ehb ?_ | skip); exact W_succ hkl hl)
                      refine ⟨⟨?_, rfl⟩, ?_⟩
                      · first | rfl | ((first | refine ei ?_ | refine eh ?_ | refine eb ?_ | refine ehb ?_ | skip); exact W_succ hkl hl)
                      exact trivial
                    · refine ⟨⟨?_, rfl, rfl⟩, ?_⟩
                      · first | rfl | ((first | refine ei ?_ | refine eh ?_ | refine eb ?_ | refine ehb ?_ | skip); exact W_succ hkl hl)
                      refine ⟨⟨?_, rfl, rfl⟩, ?_⟩
                      · first | rfl | ((first | refine ei ?_ | refine eh ?_ | refine eb ?_ | refine ehb ?_ | skip); exact W_succ hkl hl)
                      refine ⟨⟨?_, rfl, rfl⟩, ?_⟩
                      · first | rfl | ((first | refine ei ?_ | refine eh ?_ | refine eb ?_ | refine ehb ?_ | skip); exact W_succ hkl hl)
                      refine ⟨⟨?_, rfl, rfl⟩, ?_⟩
                      · first | rfl | ((first | refine ei ?_ | refine eh ?_ | refine eb ?_ | refine ehb ?_ | skip); exact W_succ hkl hl)
                      exact trivial
                    · exact trivial
                  refine awp_seq ?_
                  refine awp_seq ?_
                  refine awp_region ?_
                  refine rv rfl rfl (?_)
                  refine rv rfl rfl (?_)
                  refine rv rfl rfl (?_)
                  refine rn ?_
                  refine then_normal ?_
                  refine cs_ rfl (fun hc => ?_) (fun hc => ?_)
                  · first
                    | (cases hc; done)
                    | (
                      refine awp_skip ?_
                      refine then_normal ?_
                      refine awp_seq ?_
                      refine awp_block ?_
                      refine awp_seq ?_
                      refine awp_seq ?_
                      (have hkl := lt_len hc) <;> (
                      refine awp_region ?_
                      refine rv rfl rfl (?_)
                      refine rv rfl rfl (?_)
                      refine rv rfl rfl (?_)
                      refine rv rfl rfl (?_)
                      (first | refine gy rfl rfl rfl (rv rfl rfl (?_)) | refine gn rfl rfl rfl rfl rfl ?_ | refine gu rfl rfl rfl rfl ?_ | refine gs rfl rfl rfl rfl rfl (fun hg => rv rfl rfl (?_)) (fun hg => ?_)) <;> (
                      (first | refine gy rfl rfl rfl (rv rfl rfl (?_)) | refine gn rfl rfl rfl rfl rfl ?_ | refine gu rfl rfl rfl rfl ?_ | refine gs rfl rfl rfl rfl rfl (fun hg => rv rfl rfl (?_)) (fun hg => ?_)) <;> (
                      (first | refine gy rfl rfl rfl (rv' rfl (ov_eq rfl (W_sm (k := 1) (by have := hb.2; unfold maxLen; omega))) (?_)) | refine gn rfl rfl rfl rfl rfl ?_ | refine gu rfl rfl rfl rfl ?_ | refine gs rfl rfl rfl rfl rfl (fun hg => rv' rfl (ov_eq rfl (W_sm (k := 1) (by have := hb.2; unfold maxLen; omega))) (?_)) (fun hg => ?_)) <;> (
                      (first | refine gy rfl rfl rfl (rv rfl rfl (?_)) | refine gn rfl rfl rfl rfl rfl ?_ | refine gu rfl rfl rfl rfl ?_ | refine gs rfl rfl rfl rfl rfl (fun hg => rv rfl rfl (?_)) (fun hg => ?_)) <;> (
                      (first | refine gy rfl rfl rfl (rv' rfl (ov_rem rfl rfl (len_ne (by omega)) (tmod_rows l (i + 1))) (?_)) | refine gn rfl rfl rfl rfl rfl ?_ | refine gu rfl rfl rfl rfl ?_ | refine gs rfl rfl rfl rfl rfl (fun hg => rv' rfl (ov_rem rfl rfl (len_ne (by omega)) (tmod_rows l (i + 1))) (?_)) (fun hg => ?_)) <;> (
                      (first | refine gy rfl rfl rfl (rv rfl rfl (?_)) | refine gn rfl rfl rfl rfl rfl ?_ | refine gu rfl rfl rfl rfl ?_ | refine gs rfl rfl rfl rfl rfl (fun hg => rv rfl rfl (?_)) (fun hg => ?_)) <;> (
                      refine rv rfl rfl (?_)
                      refine rv rfl rfl (?_)
                      (first | refine gy rfl rfl rfl (rv rfl rfl (?_)) | refine gn rfl rfl rfl rfl rfl ?_ | refine gu rfl rfl rfl rfl ?_ | refine gs rfl rfl rfl rfl rfl (fun hg => rv rfl rfl (?_)) (fun hg => ?_)) <;> (
                      (first | refine gy rfl rfl rfl (rv rfl rfl (?_)) | refine gn rfl rfl rfl rfl rfl ?_ | refine gu rfl rfl rfl rfl ?_ | refine gs rfl rfl rfl rfl rfl (fun hg => rv rfl rfl (?_)) (fun hg => ?_)) <;> (
                      (first | refine gy rfl rfl rfl (rv' rfl (ov_eq rfl (W_sm (k := 1) (by have := hb.2; unfold maxLen; omega))) (?_)) | refine gn rfl rfl rfl rfl rfl ?_ | refine gu rfl rfl rfl rfl ?_ | refine gs rfl rfl rfl rfl rfl (fun hg => rv' rfl (ov_eq rfl (W_sm (k := 1) (by have := hb.2; unfold maxLen; omega))) (?_)) (fun hg => ?_)) <;> (
                      (first | refine gy rfl rfl rfl (rv rfl rfl (?_)) | refine gn rfl rfl rfl rfl rfl ?_ | refine gu rfl rfl rfl rfl ?_ | refine gs rfl rfl rfl rfl rfl (fun hg => rv rfl rfl (?_)) (fun hg => ?_)) <;> (
                      (first | refine gy rfl rfl rfl (rv' rfl (ov_rem rfl rfl (len_ne (by omega)) (tmod_rows l (k + 1))) (?_)) | refine gn rfl rfl rfl rfl rfl ?_ | refine gu rfl rfl rfl rfl ?_ | refine gs rfl rfl rfl rfl rfl (fun hg => rv' rfl (ov_rem rfl rfl (len_ne (by omega)) (tmod_rows l (k + 1))) (?_)) (fun hg => ?_)) <;> (
                      (first | refine gy rfl rfl rfl (rv rfl rfl (?_)) | refine gn rfl rfl rfl rfl rfl ?_ | refine gu rfl rfl rfl rfl ?_ | refine gs rfl rfl rfl rfl rfl (fun hg => rv rfl rfl (?_)) (fun hg => ?_)) <;> (
                      refine rv rfl rfl (?_)
                      refine rn ?_
                      refine then_normal ?_
                      refine cs_ rfl (fun hc => ?_) (fun hc => ?_)
                      · first
                        | (cases hc; done)
                        | (
                          refine awp_exit ?_
                          repeat (first | refine then_exit ?_ | refine inBlock_other rfl ?_)
                          refine inBlock_exit ?_
                          refine then_normal ?_
                          refine awp_region ?_
                          refine rv rfl rfl (?_)
                          refine rv rfl rfl (?_)
                          refine rv rfl rfl (?_)
                          refine rn ?_
                          refine then_normal ?_
                          refine ⟨k + 1, okK2_step hk hkl (by first | exact c2_1 (by assumption) | exact c2_2 (by assumption) | exact c2_3 (by assumption) | exact .inr (.inr (.inr (by assumption)))), by omega, ?_⟩
                          refine ⟨Nat.le_of_ble_eq_true rfl, ?_, ?_, ?_⟩
                          · refine ⟨⟨?_, rfl⟩, ?_⟩
                            · first | rfl | ((first | refine ei ?_ | refine eh ?_ | refine eb ?_ | refine ehb ?_ | skip); exact W_succ hkl hl)
                            refine ⟨⟨?_, rfl⟩, ?_⟩
                            · first | rfl | ((first | refine ei ?_ | refine eh ?_ | refine eb ?_ | refine ehb ?_ | skip); exact W_succ hkl hl)
                            refine ⟨⟨?_, rfl⟩, ?_⟩
                            · first | rfl | ((first | refine ei ?_ | refine eh ?_ | refine eb ?_ | refine ehb ?_ | skip); exact W_succ hkl hl)
                            refine ⟨⟨?_, rfl⟩, ?_⟩
                            · first | rfl | ((first | refine ei ?_ | refine eh ?_ | refine eb ?_ | refine ehb ?_ | skip); exact W_succ hkl hl)
                            refine ⟨⟨?_, rfl⟩, ?_⟩
                            · first | rfl | ((first | refine ei ?_ | refine eh ?_ | refine eb ?_ | refine ehb ?_ | skip); exact W_succ hkl hl)
                            refine ⟨⟨?_, rfl⟩, ?_⟩
                            · first | rfl | ((first | refine ei ?_ | refine eh ?_ | refine eb ?_ | refine ehb ?_ | skip); exact W_succ hkl hl)
                            refine ⟨⟨?_, rfl⟩, ?_⟩
                            · first | rfl | ((first | refine ei ?_ | refine eh ?_ | refine eb ?_ | refine ehb ?_ | skip); exact W_succ hkl hl)
                            exact trivial
                          · refine ⟨⟨?_, rfl, rfl⟩, ?_⟩
                            · first | rfl | ((first | refine ei ?_ | refine eh ?_ | refine eb ?_ | refine ehb ?_ | skip); exact W_succ hkl hl)
                            refine ⟨⟨?_, rfl, rfl⟩, ?_⟩
                            · first | rfl | ((first | refine ei ?_ | refine eh ?_ | refine eb ?_ | refine ehb ?_ | skip); exact W_succ hkl hl)
                            refine ⟨⟨?_, rfl, rfl⟩, ?_⟩
                            · first | rfl | ((first | refine ei ?_ | refine eh ?_ | refine eb ?_ | refine ehb ?_ | skip); exact W_succ hkl hl)
                            refine ⟨⟨?_, rfl, rfl⟩, ?_⟩
                            · first | rfl | ((first | refine ei ?_ | refine eh ?_ | refine eb ?_ | refine ehb ?_ | skip); exact W_succ hkl hl)
                            exact trivial
                          · exact trivial)
                      · first
                        | (cases hc; done)
                        | (
                          refine awp_skip ?_
                          refine then_normal ?_
                          refine awp_seq ?_
                          refine awp_dp (m := 14) Try.mix (by kernel_rfl) (by kernel_rfl) (by kernel_rfl) (by kernel_rfl) (by kernel_rfl) (by kernel_rfl) (by kernel_rfl) ?_
                          refine dv rfl rfl (fun _ => rfl) ?_
                          refine dv rfl rfl (fun _ => rfl) ?_
                          refine dv rfl rfl (fun _ => rfl) ?_
                          refine dv rfl rfl (fun _ => rfl) ?_
                          refine di rfl rfl rfl rfl rfl (fun _ => rfl) rfl (Int.natCast_nonneg _) (rows_i hkl) (rows_wide l) ?_
                          refine dv rfl rfl (fun _ => rfl) ?_
                          refine dv rfl rfl (fun _ => rfl) ?_
                          refine dv rfl rfl (fun _ => rfl) ?_
                          refine dv' rfl rfl (fun _ => ov_eq rfl (W_sm (k := 1) (by have := hb.2; unfold maxLen; omega))) ?_
                          refine dv rfl rfl (fun _ => rfl) ?_
                          refine dv' rfl rfl (fun _ => ov_rem rfl rfl (len_ne (by omega)) (tmod_rows l (k + 1))) ?_
                          refine di rfl rfl rfl rfl rfl (fun _ => rfl) rfl (Int.natCast_nonneg _) (rows_gp (by omega) _) (rows_wide l) ?_
                          refine dv rfl rfl (fun _ => rfl) ?_
                          refine dc rfl rfl rfl rfl (fun _ => rfl) (fun _ => rcross') ?_
                          refine dn ?_
                          refine rv rfl rfl (?_)
                          refine rn ?_
                          refine then_normal ?_
                          refine awp_seq ?_
                          refine awp_region ?_
                          refine rv rfl rfl (?_)
                          refine rn ?_
                          refine then_normal ?_
                          refine cs_ rfl (fun hc => ?_) (fun hc => ?_)
                          · first
                            | (cases hc; done)
                            | (
                              refine awp_seq ?_
                              refine awp_region ?_
                              refine rv rfl rfl (?_)
                              refine rn ?_
                              refine then_normal ?_
                              refine awp_ret ?_
                              repeat (first | refine then_ret ?_ | refine inBlock_ret ?_)
                              refine rr rfl rfl ?_
                              first | exact len3 (by assumption) | exact len64 (by assumption) | exact cr_bad2 hlt hkl (by assumption) (by assumption) (by assumption) (by assumption) | exact eq_bad hlt hki (by first | assumption | simpa [eqP] using hc) | exact nb_2 hlt (by assumption) | exact nb_3 hlt (by assumption) | exact may_bad hlt (by first | assumption | (simpa [my] using hc)) | exact okI2_end hb hB hi (not_lt_len hc) | trace_state)
                          · first
                            | (cases hc; done)
                            | (
                              refine awp_skip ?_
                              refine inBlock_normal ?_
                              refine then_normal ?_
                              refine awp_region ?_
                              refine rv rfl rfl (?_)
                              refine rv rfl rfl (?_)
                              refine rv rfl rfl (?_)
                              refine rn ?_
                              refine then_normal ?_
                              refine ⟨k + 1, okK2_step hk hkl (by first | exact c2_1 (by assumption) | exact c2_2 (by assumption) | exact c2_3 (by assumption) | exact .inr (.inr (.inr (by assumption)))), by omega, ?_⟩
                              refine ⟨Nat.le_of_ble_eq_true rfl, ?_, ?_, ?_⟩
                              · refine ⟨⟨?_, rfl⟩, ?_⟩
                                · first | rfl | ((first | refine ei ?_ | refine eh ?_ | refine eb ?_ | refine ehb ?_ | skip); exact W_succ hkl hl)
                                refine ⟨⟨?_, rfl⟩, ?_⟩
                                · first | rfl | ((first | refine ei ?_ | refine eh ?_ | refine eb ?_ | refine ehb ?_ | skip); exact W_succ hkl hl)
                                refine ⟨⟨?_, rfl⟩, ?_⟩
                                · first | rfl | ((first | refine ei ?_ | refine eh ?_ | refine eb ?_ | refine ehb ?_ | skip); exact W_succ hkl hl)
                                refine ⟨⟨?_, rfl⟩, ?_⟩
                                · first | rfl | ((first | refine ei ?_ | refine eh ?_ | refine eb ?_ | refine ehb ?_ | skip); exact W_succ hkl hl)
                                refine ⟨⟨?_, rfl⟩, ?_⟩
                                · first | rfl | ((first | refine ei ?_ | refine eh ?_ | refine eb ?_ | refine ehb ?_ | skip); exact W_succ hkl hl)
                                refine ⟨⟨?_, rfl⟩, ?_⟩
                                · first | rfl | ((first | refine ei ?_ | refine eh ?_ | refine eb ?_ | refine ehb ?_ | skip); exact W_succ hkl hl)
                                refine ⟨⟨?_, rfl⟩, ?_⟩
                                · first | rfl | ((first | refine ei ?_ | refine eh ?_ | refine eb ?_ | refine ehb ?_ | skip); exact W_succ hkl hl)
                                exact trivial
                              · refine ⟨⟨?_, rfl, rfl⟩, ?_⟩
                                · first | rfl | ((first | refine ei ?_ | refine eh ?_ | refine eb ?_ | refine ehb ?_ | skip); exact W_succ hkl hl)
                                refine ⟨⟨?_, rfl, rfl⟩, ?_⟩
                                · first | rfl | ((first | refine ei ?_ | refine eh ?_ | refine eb ?_ | refine ehb ?_ | skip); exact W_succ hkl hl)
                                refine ⟨⟨?_, rfl, rfl⟩, ?_⟩
                                · first | rfl | ((first | refine ei ?_ | refine eh ?_ | refine eb ?_ | refine ehb ?_ | skip); exact W_succ hkl hl)
                                refine ⟨⟨?_, rfl, rfl⟩, ?_⟩
                                · first | rfl | ((first | refine ei ?_ | refine eh ?_ | refine eb ?_ | refine ehb ?_ | skip); exact W_succ hkl hl)
                                exact trivial
                              · exact trivial))))))))))))))))
                  · first
                    | (cases hc; done)
                    | (
                      refine awp_exit ?_
                      repeat (first | refine then_exit ?_ | refine inBlock_other rfl ?_)
                      refine inBlock_exit ?_
                      refine inBlock_normal ?_
                      refine then_normal ?_
                      refine awp_region ?_
                      refine rv rfl rfl (?_)
                      refine rv rfl rfl (?_)
                      refine rv rfl rfl (?_)
                      refine rn ?_
                      refine then_normal ?_
                      refine ⟨i + 1, okI2_step hi hlt hnb hk (not_lt_len hc), by omega, ?_⟩
                      refine ⟨Nat.le_of_ble_eq_true rfl, ?_, ?_, ?_⟩
                      · refine ⟨⟨?_, rfl⟩, ?_⟩
                        · first | rfl | ((first | refine ei ?_ | refine eh ?_ | refine eb ?_ | refine ehb ?_ | skip); exact W_succ hlt hl)
                        refine ⟨⟨?_, rfl⟩, ?_⟩
                        · first | rfl | ((first | refine ei ?_ | refine eh ?_ | refine eb ?_ | refine ehb ?_ | skip); exact W_succ hlt hl)
                        refine ⟨⟨?_, rfl⟩, ?_⟩
                        · first | rfl | ((first | refine ei ?_ | refine eh ?_ | refine eb ?_ | refine ehb ?_ | skip); exact W_succ hlt hl)
                        refine ⟨⟨?_, rfl⟩, ?_⟩
                        · first | rfl | ((first | refine ei ?_ | refine eh ?_ | refine eb ?_ | refine ehb ?_ | skip); exact W_succ hlt hl)
                        exact trivial
                      · exact trivial
                      · exact trivial))))))
          · first
            | (cases hc; done)
            | (
              refine awp_exit ?_
              repeat (first | refine then_exit ?_ | refine inBlock_other rfl ?_)
              refine inBlock_exit ?_
              refine then_normal ?_
              refine awp_seq ?_
              refine awp_region ?_
              refine rv rfl rfl (?_)
              refine rn ?_
              refine then_normal ?_
              refine awp_ret ?_
              repeat (first | refine then_ret ?_ | refine inBlock_ret ?_)
              refine rr rfl rfl ?_
              first | exact len3 (by assumption) | exact len64 (by assumption) | exact cr_bad2 hlt hkl (by assumption) (by assumption) (by assumption) (by assumption) | exact eq_bad hlt hki (by first | assumption | simpa [eqP] using hc) | exact nb_2 hlt (by assumption) | exact nb_3 hlt (by assumption) | exact may_bad hlt (by first | assumption | (simpa [my] using hc)) | exact okI2_end hb hB hi (not_lt_len hc) | trace_state)))))))
end

end Go.Proofs.Ytngeejjllgnpcaa
