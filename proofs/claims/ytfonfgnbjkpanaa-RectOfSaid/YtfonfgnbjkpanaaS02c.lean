/- Contracts, printed by a program of this session's. -/
import Derived.Test.YtfonfgnbjkpanaaS02b
namespace Go.Proofs.Ytfonfgnbjkpanaa
open Go.Pv
set_option maxRecDepth 100000
set_option maxHeartbeats 4000000
set_option linter.unusedSimpArgs false
set_option linter.unusedVariables false
set_option linter.unusedSectionVars false

theorem mn_comm (x y : Int) : mn x y = mn y x := by unfold mn; omega
theorem mx_comm (x y : Int) : mx x y = mx y x := by unfold mx; omega
section
variable {a b c d a' b' c' d' x y : Int} (h : mayR a b c d = true) (h' : mayR a' b' c' d' = true)
theorem holds_j1 : holdsR (mn a a') (mn b b') (mx c c') (mx d d') a b c d = true := by
  simp only [holdsR, mn_eq, mx_eq, Bool.and_eq_true, decide_eq_true_eq]; omega
theorem holds_j2 : holdsR (mn a a') (mn b b') (mx c c') (mx d d') a' b' c' d' = true := by
  simp only [holdsR, mn_eq, mx_eq, Bool.and_eq_true, decide_eq_true_eq]; omega
include h h'
theorem may_j : mayR (mn a a') (mn b b') (mx c c') (mx d d') = true := by
  rw [mayR_iff] at *
  simp only [BdR, Bd, mn_eq, mx_eq] at *; omega
omit h' in
theorem area_eq : areaR a b c d = (c - a) * (d - b) ∧ 0 ≤ (c - a) * (d - b) ∧ (c - a) * (d - b) ≤ 4611686018427387904 := by
  rw [mayR_iff] at h
  obtain ⟨⟨h1, h2, h3, h4⟩, h5, h6⟩ := h
  have hm := mul_dd (a := c - a) (b := d - b) (by unfold Bd at *; omega) (by unfold Bd at *; omega)
  have hp : 0 ≤ (c - a) * (d - b) := Int.mul_nonneg (by omega) (by omega)
  refine ⟨?_, hp, hm.2⟩
  unfold areaR
  rw [W_sub h3 h1, W_sub h4 h2, W_id (by omega)]
theorem grow_eq : growR a b c d a' b' c' d' = (mx c c' - mn a a') * (mx d d' - mn b b') - (c - a) * (d - b) := by
  have e1 := area_eq (may_j h h')
  have e2 := area_eq h
  unfold growR
  rw [e1.1, e2.1, W_id (by omega)]
theorem grow_nn : ¬ growR a b c d a' b' c' d' < 0 := by
  rw [grow_eq h h']
  have h1 : c - a ≤ mx c c' - mn a a' := by unfold mx mn; omega
  have h2 : d - b ≤ mx d d' - mn b b' := by unfold mx mn; omega
  rw [mayR_iff] at h
  have h3 : (c - a) * (d - b) ≤ (mx c c' - mn a a') * (mx d d' - mn b b') := Int.mul_le_mul h1 h2 (by omega) (by omega)
  omega
theorem holds_m1 (hm : meetB a b c d a' b' c' d' = true) : holdsR a b c d (mx a a') (mx b b') (mn c c') (mn d d') = true := by
  simp only [holdsR, mn_eq, mx_eq, Bool.and_eq_true, decide_eq_true_eq]; omega
theorem holds_m2 (hm : meetB a b c d a' b' c' d' = true) : holdsR a' b' c' d' (mx a a') (mx b b') (mn c c') (mn d d') = true := by
  simp only [holdsR, mn_eq, mx_eq, Bool.and_eq_true, decide_eq_true_eq]; omega
theorem may_m (hm : meetB a b c d a' b' c' d' = true) : mayR (mx a a') (mx b b') (mn c c') (mn d d') = true := by
  rw [mayR_iff] at *
  simp only [meetB, Bool.and_eq_true, decide_eq_true_eq] at hm
  simp only [BdR, Bd, mn_eq, mx_eq] at *; omega
omit h h' in
theorem in_both : (inR a b c d x y && inR a' b' c' d' x y) = (meetB a b c d a' b' c' d' && inR (mx a a') (mx b b') (mn c c') (mn d d') x y) := by
  rw [Bool.eq_iff_iff]
  simp only [inR, meetB, Bool.and_eq_true, decide_eq_true_eq, mn_eq, mx_eq]; omega
omit h h' in
theorem in_join (h1 : inR a b c d x y = true) : inR (mn a a') (mn b b') (mx c c') (mx d d') x y = true := by
  simp only [inR, Bool.and_eq_true, decide_eq_true_eq, mn_eq, mx_eq] at *; omega
end

section
attribute [local irreducible] awp aops DP PCall Decidable.decide
/-- `plover/ploverlaw02.RectHolds` -/
theorem RectHolds_c {a b c d a' b' c' d' x y : Int} : PCall Try.prog 3 [.agg [.int .i64 a, .int .i64 b, .int .i64 c, .int .i64 d], .agg [.int .i64 a', .int .i64 b', .int .i64 c', .int .i64 d'], .agg [.int .i64 x, .int .i64 y]] (· = .bool (true)) := by
  refine pcall_body Try.func3 rfl (by kernel_rfl) (by rfl) ?_
  refine awp_seq ?_
  refine awp_region ?_
  refine rb rfl rfl (?_)
  refine rb rfl rfl (?_)
  refine rb rfl rfl (?_)
  refine rv rfl rfl (?_)
  refine rn ?_
  refine then_normal ?_
  refine awp_seq ?_
  refine awp_region ?_
  refine rc1 rfl rfl rfl up_c (?_)
  refine rv rfl rfl (?_)
  refine rn ?_
  refine then_normal ?_
  refine awp_seq ?_
  refine awp_seq ?_
  refine awp_region ?_
  refine rv rfl rfl (?_)
  refine rc1 rfl rfl rfl mayR_c (?_)
  refine rv rfl rfl (?_)
  refine rv rfl rfl (?_)
  (first | refine gy rfl rfl rfl (rv rfl rfl (?_)) | refine gn rfl rfl rfl rfl rfl ?_ | refine gu rfl rfl rfl rfl ?_ | refine gs rfl rfl rfl rfl rfl (fun hg => rv rfl rfl (?_)) (fun hg => ?_)) <;> (
  (first | refine gy rfl rfl rfl (rc1 rfl rfl rfl mayR_c (?_)) | refine gn rfl rfl rfl rfl rfl ?_ | refine gu rfl rfl rfl rfl ?_ | refine gs rfl rfl rfl rfl rfl (fun hg => rc1 rfl rfl rfl mayR_c (?_)) (fun hg => ?_)) <;> (
  (first | refine gy rfl rfl rfl (rv rfl rfl (?_)) | refine gn rfl rfl rfl rfl rfl ?_ | refine gu rfl rfl rfl rfl ?_ | refine gs rfl rfl rfl rfl rfl (fun hg => rv rfl rfl (?_)) (fun hg => ?_)) <;> (
  refine rv rfl rfl (?_)
  refine rn ?_
  refine then_normal ?_
  refine cs_ rfl (fun hc => ?_) (fun hc => ?_)
  · first
    | (cases hc; done)
    | (
      refine awp_seq ?_
      refine awp_region ?_
      refine rv rfl rfl (?_)
      refine rv rfl rfl (?_)
      refine rn ?_
      refine then_normal ?_
      refine awp_ret ?_
      repeat (first | refine then_ret ?_ | refine inBlock_ret ?_)
      refine rr rfl rfl ?_
      first | rfl | (have hb := @in_both a b c d a' b' c' d' x y; have hj := @in_join a b c d a' b' c' d' x y; simp_all [mn_comm a', mn_comm b', mx_comm c', mx_comm d', holds_j1, holds_j2, may_j, grow_nn, holds_m1, holds_m2, may_m, mt]; done))
  · first
    | (cases hc; done)
    | (
      refine awp_skip ?_
      refine then_normal ?_
      refine awp_seq ?_
      refine awp_region ?_
      refine rv rfl rfl (?_)
      refine rv rfl rfl (?_)
      refine rc1 rfl rfl rfl joinR_c (?_)
      refine ra rfl rfl rfl (?_)
      refine rs rfl rfl rfl rfl rfl rfl rfl (?_)
      refine rn ?_
      refine then_normal ?_
      refine awp_seq ?_
      refine awp_region ?_
      refine rv rfl rfl (?_)
      refine rv rfl rfl (?_)
      refine rc1 rfl rfl rfl meetR_c (?_)
      refine rv rfl rfl (?_)
      refine rv rfl rfl (?_)
      refine rv rfl rfl (?_)
      refine ra rfl rfl rfl (?_)
      refine rs rfl rfl rfl rfl rfl rfl rfl (?_)
      refine rv rfl rfl (?_)
      refine rn ?_
      refine then_normal ?_
      refine awp_seq ?_
      refine awp_seq ?_
      refine awp_dp (m := 28) Try.mix (by kernel_rfl) (by kernel_rfl) (by kernel_rfl) (by kernel_rfl) (by kernel_rfl) (by kernel_rfl) (by kernel_rfl) ?_
      refine dv rfl rfl (fun _ => rfl) ?_
      refine dv rfl rfl (fun _ => rfl) ?_
      refine dc rfl rfl rfl rfl (fun _ => rfl) (fun _ => holdsR_c) ?_
      refine dv rfl rfl (fun _ => rfl) ?_
      refine dv rfl rfl (fun _ => rfl) ?_
      (first | refine dv rfl rfl (fun _ => rfl) ?_ | refine dno rfl rfl ?_ | (refine ds rfl rfl (fun hg => ?_) (fun hg => ?_) <;> first | refine dv rfl rfl (fun _ => rfl) ?_ | refine dno rfl rfl ?_)) <;> (
      (first | refine dv rfl rfl (fun _ => rfl) ?_ | refine dno rfl rfl ?_ | (refine ds rfl rfl (fun hg => ?_) (fun hg => ?_) <;> first | refine dv rfl rfl (fun _ => rfl) ?_ | refine dno rfl rfl ?_)) <;> (
      (first | refine dc rfl rfl rfl rfl (fun _ => rfl) (fun _ => holdsR_c) ?_ | refine dno rfl rfl ?_ | (refine ds rfl rfl (fun hg => ?_) (fun hg => ?_) <;> first | refine dc rfl rfl rfl rfl (fun _ => rfl) (fun _ => holdsR_c) ?_ | refine dno rfl rfl ?_)) <;> (
      (first | refine dv rfl rfl (fun _ => rfl) ?_ | refine dno rfl rfl ?_ | (refine ds rfl rfl (fun hg => ?_) (fun hg => ?_) <;> first | refine dv rfl rfl (fun _ => rfl) ?_ | refine dno rfl rfl ?_)) <;> (
      refine dv rfl rfl (fun _ => rfl) ?_
      refine dv rfl rfl (fun _ => rfl) ?_
      (first | refine dv rfl rfl (fun _ => rfl) ?_ | refine dno rfl rfl ?_ | (refine ds rfl rfl (fun hg => ?_) (fun hg => ?_) <;> first | refine dv rfl rfl (fun _ => rfl) ?_ | refine dno rfl rfl ?_)) <;> (
      (first | refine dv rfl rfl (fun _ => rfl) ?_ | refine dno rfl rfl ?_ | (refine ds rfl rfl (fun hg => ?_) (fun hg => ?_) <;> first | refine dv rfl rfl (fun _ => rfl) ?_ | refine dno rfl rfl ?_)) <;> (
      (first | refine dc rfl rfl rfl rfl (fun _ => rfl) (fun _ => growR_c) ?_ | refine dno rfl rfl ?_ | (refine ds rfl rfl (fun hg => ?_) (fun hg => ?_) <;> first | refine dc rfl rfl rfl rfl (fun _ => rfl) (fun _ => growR_c) ?_ | refine dno rfl rfl ?_)) <;> (
      (first | refine dv rfl rfl (fun _ => rfl) ?_ | refine dno rfl rfl ?_ | (refine ds rfl rfl (fun hg => ?_) (fun hg => ?_) <;> first | refine dv rfl rfl (fun _ => rfl) ?_ | refine dno rfl rfl ?_)) <;> (
      refine dv rfl rfl (fun _ => rfl) ?_
      refine dv rfl rfl (fun _ => rfl) ?_
      (first | refine dv rfl rfl (fun _ => rfl) ?_ | refine dno rfl rfl ?_ | (refine ds rfl rfl (fun hg => ?_) (fun hg => ?_) <;> first | refine dv rfl rfl (fun _ => rfl) ?_ | refine dno rfl rfl ?_)) <;> (
      (first | refine dc rfl rfl rfl rfl (fun _ => rfl) (fun _ => mayR_c) ?_ | refine dno rfl rfl ?_ | (refine ds rfl rfl (fun hg => ?_) (fun hg => ?_) <;> first | refine dc rfl rfl rfl rfl (fun _ => rfl) (fun _ => mayR_c) ?_ | refine dno rfl rfl ?_)) <;> (
      (first | refine dv rfl rfl (fun _ => rfl) ?_ | refine dno rfl rfl ?_ | (refine ds rfl rfl (fun hg => ?_) (fun hg => ?_) <;> first | refine dv rfl rfl (fun _ => rfl) ?_ | refine dno rfl rfl ?_)) <;> (
      refine dv rfl rfl (fun _ => rfl) ?_
      refine dv rfl rfl (fun _ => rfl) ?_
      (first | refine dv rfl rfl (fun _ => rfl) ?_ | refine dno rfl rfl ?_ | (refine ds rfl rfl (fun hg => ?_) (fun hg => ?_) <;> first | refine dv rfl rfl (fun _ => rfl) ?_ | refine dno rfl rfl ?_)) <;> (
      (first | refine dv rfl rfl (fun _ => rfl) ?_ | refine dno rfl rfl ?_ | (refine ds rfl rfl (fun hg => ?_) (fun hg => ?_) <;> first | refine dv rfl rfl (fun _ => rfl) ?_ | refine dno rfl rfl ?_)) <;> (
      (first | refine dc rfl rfl rfl rfl (fun _ => rfl) (fun _ => joinR_c) ?_ | refine dno rfl rfl ?_ | (refine ds rfl rfl (fun hg => ?_) (fun hg => ?_) <;> first | refine dc rfl rfl rfl rfl (fun _ => rfl) (fun _ => joinR_c) ?_ | refine dno rfl rfl ?_)) <;> (
      (first | refine dv rfl rfl (fun _ => rfl) ?_ | refine dno rfl rfl ?_ | (refine ds rfl rfl (fun hg => ?_) (fun hg => ?_) <;> first | refine dv rfl rfl (fun _ => rfl) ?_ | refine dno rfl rfl ?_)) <;> (
      (first | refine dv rfl rfl (fun _ => rfl) ?_ | refine dno rfl rfl ?_ | (refine ds rfl rfl (fun hg => ?_) (fun hg => ?_) <;> first | refine dv rfl rfl (fun _ => rfl) ?_ | refine dno rfl rfl ?_)) <;> (
      refine dv rfl rfl (fun _ => rfl) ?_
      refine dn ?_
      refine rn ?_
      refine then_normal ?_
      refine cs_ rfl (fun hc => ?_) (fun hc => ?_)
      · first
        | (cases hc; done)
        | (
          refine awp_seq ?_
          refine awp_region ?_
          refine rv rfl rfl (?_)
          refine rn ?_
          refine then_normal ?_
          refine awp_ret ?_
          repeat (first | refine then_ret ?_ | refine inBlock_ret ?_)
          refine rr rfl rfl ?_
          first | rfl | (have hb := @in_both a b c d a' b' c' d' x y; have hj := @in_join a b c d a' b' c' d' x y; simp_all [mn_comm a', mn_comm b', mx_comm c', mx_comm d', holds_j1, holds_j2, may_j, grow_nn, holds_m1, holds_m2, may_m, mt]; done))
      · first
        | (cases hc; done)
        | (
          refine awp_skip ?_
          refine then_normal ?_
          refine awp_seq ?_
          refine awp_seq ?_
          refine awp_region ?_
          refine rv rfl rfl (?_)
          refine rn ?_
          refine then_normal ?_
          refine cs_ rfl (fun hc => ?_) (fun hc => ?_)
          · first
            | (cases hc; done)
            | (
              refine awp_seq ?_
              refine awp_region ?_
              refine rv rfl rfl (?_)
              refine rv rfl rfl (?_)
              refine rc1 rfl rfl rfl holdsR_c (?_)
              refine rv rfl rfl (?_)
              refine rv rfl rfl (?_)
              (first | refine gy rfl rfl rfl (rv rfl rfl (?_)) | refine gn rfl rfl rfl rfl rfl ?_ | refine gu rfl rfl rfl rfl ?_ | refine gs rfl rfl rfl rfl rfl (fun hg => rv rfl rfl (?_)) (fun hg => ?_)) <;> (
              (first | refine gy rfl rfl rfl (rv rfl rfl (?_)) | refine gn rfl rfl rfl rfl rfl ?_ | refine gu rfl rfl rfl rfl ?_ | refine gs rfl rfl rfl rfl rfl (fun hg => rv rfl rfl (?_)) (fun hg => ?_)) <;> (
              (first | refine gy rfl rfl rfl (rc1 rfl rfl rfl holdsR_c (?_)) | refine gn rfl rfl rfl rfl rfl ?_ | refine gu rfl rfl rfl rfl ?_ | refine gs rfl rfl rfl rfl rfl (fun hg => rc1 rfl rfl rfl holdsR_c (?_)) (fun hg => ?_)) <;> (
              (first | refine gy rfl rfl rfl (rv rfl rfl (?_)) | refine gn rfl rfl rfl rfl rfl ?_ | refine gu rfl rfl rfl rfl ?_ | refine gs rfl rfl rfl rfl rfl (fun hg => rv rfl rfl (?_)) (fun hg => ?_)) <;> (
              refine rv rfl rfl (?_)
              refine rv rfl rfl (?_)
              (first | refine gy rfl rfl rfl (rv rfl rfl (?_)) | refine gn rfl rfl rfl rfl rfl ?_ | refine gu rfl rfl rfl rfl ?_ | refine gs rfl rfl rfl rfl rfl (fun hg => rv rfl rfl (?_)) (fun hg => ?_)) <;> (
              (first | refine gy rfl rfl rfl (rc1 rfl rfl rfl mayR_c (?_)) | refine gn rfl rfl rfl rfl rfl ?_ | refine gu rfl rfl rfl rfl ?_ | refine gs rfl rfl rfl rfl rfl (fun hg => rc1 rfl rfl rfl mayR_c (?_)) (fun hg => ?_)) <;> (
              (first | refine gy rfl rfl rfl (rv rfl rfl (?_)) | refine gn rfl rfl rfl rfl rfl ?_ | refine gu rfl rfl rfl rfl ?_ | refine gs rfl rfl rfl rfl rfl (fun hg => rv rfl rfl (?_)) (fun hg => ?_)) <;> (
              refine rv rfl rfl (?_)
              refine rn ?_
              refine then_normal ?_
              refine cs_ rfl (fun hc => ?_) (fun hc => ?_)
              · first
                | (cases hc; done)
                | (
                  refine awp_seq ?_
                  refine awp_region ?_
                  refine rv rfl rfl (?_)
                  refine rn ?_
                  refine then_normal ?_
                  refine awp_ret ?_
                  repeat (first | refine then_ret ?_ | refine inBlock_ret ?_)
                  refine rr rfl rfl ?_
                  first | rfl | (have hb := @in_both a b c d a' b' c' d' x y; have hj := @in_join a b c d a' b' c' d' x y; simp_all [mn_comm a', mn_comm b', mx_comm c', mx_comm d', holds_j1, holds_j2, may_j, grow_nn, holds_m1, holds_m2, may_m, mt]; done))
              · first
                | (cases hc; done)
                | (
                  refine awp_skip ?_
                  refine then_normal ?_
                  refine awp_seq ?_
                  refine awp_region ?_
                  refine rv rfl rfl (?_)
                  refine rv rfl rfl (?_)
                  refine rc1 rfl rfl rfl inR_c (?_)
                  refine rv rfl rfl (?_)
                  (first | refine gy rfl rfl rfl (rv rfl rfl (?_)) | refine gn rfl rfl rfl rfl rfl ?_ | refine gu rfl rfl rfl rfl ?_ | refine gs rfl rfl rfl rfl rfl (fun hg => rv rfl rfl (?_)) (fun hg => ?_)) <;> (
                  (first | refine gy rfl rfl rfl (rv rfl rfl (?_)) | refine gn rfl rfl rfl rfl rfl ?_ | refine gu rfl rfl rfl rfl ?_ | refine gs rfl rfl rfl rfl rfl (fun hg => rv rfl rfl (?_)) (fun hg => ?_)) <;> (
                  (first | refine gy rfl rfl rfl (rc1 rfl rfl rfl inR_c (?_)) | refine gn rfl rfl rfl rfl rfl ?_ | refine gu rfl rfl rfl rfl ?_ | refine gs rfl rfl rfl rfl rfl (fun hg => rc1 rfl rfl rfl inR_c (?_)) (fun hg => ?_)) <;> (
                  refine rv rfl rfl (?_)
                  refine rv rfl rfl (?_)
                  refine rn ?_
                  refine then_normal ?_
                  refine awp_seq ?_
                  refine awp_region ?_
                  refine rv rfl rfl (?_)
                  refine rv rfl rfl (?_)
                  (first | refine gy rfl rfl rfl (rv rfl rfl (?_)) | refine gn rfl rfl rfl rfl rfl ?_ | refine gu rfl rfl rfl rfl ?_ | refine gs rfl rfl rfl rfl rfl (fun hg => rv rfl rfl (?_)) (fun hg => ?_)) <;> (
                  (first | refine gy rfl rfl rfl (rv rfl rfl (?_)) | refine gn rfl rfl rfl rfl rfl ?_ | refine gu rfl rfl rfl rfl ?_ | refine gs rfl rfl rfl rfl rfl (fun hg => rv rfl rfl (?_)) (fun hg => ?_)) <;> (
                  (first | refine gy rfl rfl rfl (rv rfl rfl (?_)) | refine gn rfl rfl rfl rfl rfl ?_ | refine gu rfl rfl rfl rfl ?_ | refine gs rfl rfl rfl rfl rfl (fun hg => rv rfl rfl (?_)) (fun hg => ?_)) <;> (
                  (first | refine gy rfl rfl rfl (rv rfl rfl (?_)) | refine gn rfl rfl rfl rfl rfl ?_ | refine gu rfl rfl rfl rfl ?_ | refine gs rfl rfl rfl rfl rfl (fun hg => rv rfl rfl (?_)) (fun hg => ?_)) <;> (
                  (first | refine gy rfl rfl rfl (rv rfl rfl (?_)) | refine gn rfl rfl rfl rfl rfl ?_ | refine gu rfl rfl rfl rfl ?_ | refine gs rfl rfl rfl rfl rfl (fun hg => rv rfl rfl (?_)) (fun hg => ?_)) <;> (
                  (first | refine gy rfl rfl rfl (rc1 rfl rfl rfl inR_c (?_)) | refine gn rfl rfl rfl rfl rfl ?_ | refine gu rfl rfl rfl rfl ?_ | refine gs rfl rfl rfl rfl rfl (fun hg => rc1 rfl rfl rfl inR_c (?_)) (fun hg => ?_)) <;> (
                  (first | refine gy rfl rfl rfl (rv rfl rfl (?_)) | refine gn rfl rfl rfl rfl rfl ?_ | refine gu rfl rfl rfl rfl ?_ | refine gs rfl rfl rfl rfl rfl (fun hg => rv rfl rfl (?_)) (fun hg => ?_)) <;> (
                  (first | refine gy rfl rfl rfl (rv rfl rfl (?_)) | refine gn rfl rfl rfl rfl rfl ?_ | refine gu rfl rfl rfl rfl ?_ | refine gs rfl rfl rfl rfl rfl (fun hg => rv rfl rfl (?_)) (fun hg => ?_)) <;> (
                  refine rv rfl rfl (?_)
                  refine rv rfl rfl (?_)
                  (first | refine gy rfl rfl rfl (rv rfl rfl (?_)) | refine gn rfl rfl rfl rfl rfl ?_ | refine gu rfl rfl rfl rfl ?_ | refine gs rfl rfl rfl rfl rfl (fun hg => rv rfl rfl (?_)) (fun hg => ?_)) <;> (
                  (first | refine gy rfl rfl rfl (rv rfl rfl (?_)) | refine gn rfl rfl rfl rfl rfl ?_ | refine gu rfl rfl rfl rfl ?_ | refine gs rfl rfl rfl rfl rfl (fun hg => rv rfl rfl (?_)) (fun hg => ?_)) <;> (
                  (first | refine gy rfl rfl rfl (rv rfl rfl (?_)) | refine gn rfl rfl rfl rfl rfl ?_ | refine gu rfl rfl rfl rfl ?_ | refine gs rfl rfl rfl rfl rfl (fun hg => rv rfl rfl (?_)) (fun hg => ?_)) <;> (
                  (first | refine gy rfl rfl rfl (rv rfl rfl (?_)) | refine gn rfl rfl rfl rfl rfl ?_ | refine gu rfl rfl rfl rfl ?_ | refine gs rfl rfl rfl rfl rfl (fun hg => rv rfl rfl (?_)) (fun hg => ?_)) <;> (
                  (first | refine gy rfl rfl rfl (rv rfl rfl (?_)) | refine gn rfl rfl rfl rfl rfl ?_ | refine gu rfl rfl rfl rfl ?_ | refine gs rfl rfl rfl rfl rfl (fun hg => rv rfl rfl (?_)) (fun hg => ?_)) <;> (
                  (first | refine gy rfl rfl rfl (rc1 rfl rfl rfl inR_c (?_)) | refine gn rfl rfl rfl rfl rfl ?_ | refine gu rfl rfl rfl rfl ?_ | refine gs rfl rfl rfl rfl rfl (fun hg => rc1 rfl rfl rfl inR_c (?_)) (fun hg => ?_)) <;> (
                  (first | refine gy rfl rfl rfl (rv rfl rfl (?_)) | refine gn rfl rfl rfl rfl rfl ?_ | refine gu rfl rfl rfl rfl ?_ | refine gs rfl rfl rfl rfl rfl (fun hg => rv rfl rfl (?_)) (fun hg => ?_)) <;> (
                  refine rv rfl rfl (?_)
                  refine rv rfl rfl (?_)
                  refine rn ?_
                  refine then_normal ?_
                  refine awp_ret ?_
                  repeat (first | refine then_ret ?_ | refine inBlock_ret ?_)
                  refine rr rfl rfl ?_
                  first | rfl | (have hb := @in_both a b c d a' b' c' d' x y; have hj := @in_join a b c d a' b' c' d' x y; simp_all [mn_comm a', mn_comm b', mx_comm c', mx_comm d', holds_j1, holds_j2, may_j, grow_nn, holds_m1, holds_m2, may_m, mt]; done))))))))))))))))))))))))))))
          · first
            | (cases hc; done)
            | (
              refine awp_skip ?_
              refine then_normal ?_
              refine awp_seq ?_
              refine awp_region ?_
              refine rv rfl rfl (?_)
              refine rv rfl rfl (?_)
              refine rc1 rfl rfl rfl inR_c (?_)
              refine rv rfl rfl (?_)
              (first | refine gy rfl rfl rfl (rv rfl rfl (?_)) | refine gn rfl rfl rfl rfl rfl ?_ | refine gu rfl rfl rfl rfl ?_ | refine gs rfl rfl rfl rfl rfl (fun hg => rv rfl rfl (?_)) (fun hg => ?_)) <;> (
              (first | refine gy rfl rfl rfl (rv rfl rfl (?_)) | refine gn rfl rfl rfl rfl rfl ?_ | refine gu rfl rfl rfl rfl ?_ | refine gs rfl rfl rfl rfl rfl (fun hg => rv rfl rfl (?_)) (fun hg => ?_)) <;> (
              (first | refine gy rfl rfl rfl (rc1 rfl rfl rfl inR_c (?_)) | refine gn rfl rfl rfl rfl rfl ?_ | refine gu rfl rfl rfl rfl ?_ | refine gs rfl rfl rfl rfl rfl (fun hg => rc1 rfl rfl rfl inR_c (?_)) (fun hg => ?_)) <;> (
              refine rv rfl rfl (?_)
              refine rv rfl rfl (?_)
              refine rn ?_
              refine then_normal ?_
              refine awp_seq ?_
              refine awp_region ?_
              refine rv rfl rfl (?_)
              refine rv rfl rfl (?_)
              (first | refine gy rfl rfl rfl (rv rfl rfl (?_)) | refine gn rfl rfl rfl rfl rfl ?_ | refine gu rfl rfl rfl rfl ?_ | refine gs rfl rfl rfl rfl rfl (fun hg => rv rfl rfl (?_)) (fun hg => ?_)) <;> (
              (first | refine gy rfl rfl rfl (rv rfl rfl (?_)) | refine gn rfl rfl rfl rfl rfl ?_ | refine gu rfl rfl rfl rfl ?_ | refine gs rfl rfl rfl rfl rfl (fun hg => rv rfl rfl (?_)) (fun hg => ?_)) <;> (
              (first | refine gy rfl rfl rfl (rv rfl rfl (?_)) | refine gn rfl rfl rfl rfl rfl ?_ | refine gu rfl rfl rfl rfl ?_ | refine gs rfl rfl rfl rfl rfl (fun hg => rv rfl rfl (?_)) (fun hg => ?_)) <;> (
              (first | refine gy rfl rfl rfl (rv rfl rfl (?_)) | refine gn rfl rfl rfl rfl rfl ?_ | refine gu rfl rfl rfl rfl ?_ | refine gs rfl rfl rfl rfl rfl (fun hg => rv rfl rfl (?_)) (fun hg => ?_)) <;> (
              (first | refine gy rfl rfl rfl (rv rfl rfl (?_)) | refine gn rfl rfl rfl rfl rfl ?_ | refine gu rfl rfl rfl rfl ?_ | refine gs rfl rfl rfl rfl rfl (fun hg => rv rfl rfl (?_)) (fun hg => ?_)) <;> (
              (first | refine gy rfl rfl rfl (rc1 rfl rfl rfl inR_c (?_)) | refine gn rfl rfl rfl rfl rfl ?_ | refine gu rfl rfl rfl rfl ?_ | refine gs rfl rfl rfl rfl rfl (fun hg => rc1 rfl rfl rfl inR_c (?_)) (fun hg => ?_)) <;> (
              (first | refine gy rfl rfl rfl (rv rfl rfl (?_)) | refine gn rfl rfl rfl rfl rfl ?_ | refine gu rfl rfl rfl rfl ?_ | refine gs rfl rfl rfl rfl rfl (fun hg => rv rfl rfl (?_)) (fun hg => ?_)) <;> (
              (first | refine gy rfl rfl rfl (rv rfl rfl (?_)) | refine gn rfl rfl rfl rfl rfl ?_ | refine gu rfl rfl rfl rfl ?_ | refine gs rfl rfl rfl rfl rfl (fun hg => rv rfl rfl (?_)) (fun hg => ?_)) <;> (
              refine rv rfl rfl (?_)
              refine rv rfl rfl (?_)
              (first | refine gy rfl rfl rfl (rv rfl rfl (?_)) | refine gn rfl rfl rfl rfl rfl ?_ | refine gu rfl rfl rfl rfl ?_ | refine gs rfl rfl rfl rfl rfl (fun hg => rv rfl rfl (?_)) (fun hg => ?_)) <;> (
              (first | refine gy rfl rfl rfl (rv rfl rfl (?_)) | refine gn rfl rfl rfl rfl rfl ?_ | refine gu rfl rfl rfl rfl ?_ | refine gs rfl rfl rfl rfl rfl (fun hg => rv rfl rfl (?_)) (fun hg => ?_)) <;> (
              (first | refine gy rfl rfl rfl (rv rfl rfl (?_)) | refine gn rfl rfl rfl rfl rfl ?_ | refine gu rfl rfl rfl rfl ?_ | refine gs rfl rfl rfl rfl rfl (fun hg => rv rfl rfl (?_)) (fun hg => ?_)) <;> (
              (first | refine gy rfl rfl rfl (rv rfl rfl (?_)) | refine gn rfl rfl rfl rfl rfl ?_ | refine gu rfl rfl rfl rfl ?_ | refine gs rfl rfl rfl rfl rfl (fun hg => rv rfl rfl (?_)) (fun hg => ?_)) <;> (
              (first | refine gy rfl rfl rfl (rv rfl rfl (?_)) | refine gn rfl rfl rfl rfl rfl ?_ | refine gu rfl rfl rfl rfl ?_ | refine gs rfl rfl rfl rfl rfl (fun hg => rv rfl rfl (?_)) (fun hg => ?_)) <;> (
              (first | refine gy rfl rfl rfl (rc1 rfl rfl rfl inR_c (?_)) | refine gn rfl rfl rfl rfl rfl ?_ | refine gu rfl rfl rfl rfl ?_ | refine gs rfl rfl rfl rfl rfl (fun hg => rc1 rfl rfl rfl inR_c (?_)) (fun hg => ?_)) <;> (
              (first | refine gy rfl rfl rfl (rv rfl rfl (?_)) | refine gn rfl rfl rfl rfl rfl ?_ | refine gu rfl rfl rfl rfl ?_ | refine gs rfl rfl rfl rfl rfl (fun hg => rv rfl rfl (?_)) (fun hg => ?_)) <;> (
              refine rv rfl rfl (?_)
              refine rv rfl rfl (?_)
              refine rn ?_
              refine then_normal ?_
              refine awp_ret ?_
              repeat (first | refine then_ret ?_ | refine inBlock_ret ?_)
              refine rr rfl rfl ?_
              first | rfl | (have hb := @in_both a b c d a' b' c' d' x y; have hj := @in_join a b c d a' b' c' d' x y; simp_all [mn_comm a', mn_comm b', mx_comm c', mx_comm d', holds_j1, holds_j2, may_j, grow_nn, holds_m1, holds_m2, may_m, mt]; done)))))))))))))))))))))))))))))))))))))))))
end

end Go.Proofs.Ytfonfgnbjkpanaa
