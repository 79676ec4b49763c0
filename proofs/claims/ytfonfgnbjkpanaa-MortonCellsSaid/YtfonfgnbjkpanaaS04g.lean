/- Contracts, printed by a program of this session's. -/
import Derived.Test.YtfonfgnbjkpanaaS04f
namespace Go.Proofs.Ytfonfgnbjkpanaa
open Go.Pv
set_option maxRecDepth 100000
set_option maxHeartbeats 4000000
set_option linter.unusedSimpArgs false
set_option linter.unusedVariables false
set_option linter.unusedSectionVars false

section
attribute [local irreducible] awp aops DP PCall Decidable.decide
/-- `plover/ploverlaw04.MortonCells` -/
theorem MortonCells_no {s x y c r : Int} (h : mayS s = false) : PCall Try.prog 12 [.int .i64 s, .agg [.int .i64 x, .int .i64 y], .int .i64 c, .int .i64 r] (· = .bool (true)) := by
  refine pcall_body Try.func12 rfl (by kernel_rfl) (by rfl) ?_
  refine awp_seq ?_
  refine awp_region ?_
  refine rb rfl rfl (?_)
  refine rv rfl rfl (?_)
  refine rn ?_
  refine then_normal ?_
  refine awp_seq ?_
  refine awp_region ?_
  refine rc1 rfl rfl rfl up4_c (?_)
  refine rv rfl rfl (?_)
  refine rn ?_
  refine then_normal ?_
  refine awp_seq ?_
  refine awp_region ?_
  refine rv rfl rfl (?_)
  refine rc1 rfl rfl rfl shift_c (?_)
  refine rv rfl rfl (?_)
  refine rn ?_
  refine then_normal ?_
  refine awp_seq ?_
  (rcases hq : mayP x y with _ | _) <;> (
  refine awp_region ?_
  refine rv rfl rfl (?_)
  refine rv rfl rfl (?_)
  refine rc1 rfl rfl rfl (cell_cb h hq) (?_)
  refine rv rfl rfl (?_)
  refine rv rfl rfl (?_)
  refine rv rfl rfl (?_)
  refine rv rfl rfl (?_)
  refine rv rfl rfl (?_)
  refine rv rfl rfl (?_)
  refine rv rfl rfl (?_)
  refine rn ?_
  refine then_normal ?_
  refine awp_seq ?_
  (have hb : inS s c r = false := by simp [inS, far_bad h]) <;> (
  refine awp_region ?_
  refine rv rfl rfl (?_)
  refine rv rfl rfl (?_)
  refine rv rfl rfl (?_)
  refine rc1 rfl rfl rfl (box_cb hb) (?_)
  refine rv rfl rfl (?_)
  refine rv rfl rfl (?_)
  refine rv rfl rfl (?_)
  refine ra rfl rfl rfl (?_)
  refine rs rfl rfl rfl rfl rfl rfl rfl (?_)
  refine rv rfl rfl (?_)
  refine rn ?_
  refine then_normal ?_
  refine awp_seq ?_
  refine awp_seq ?_
  refine awp_region ?_
  refine rv rfl rfl (?_)
  refine rv rfl rfl (?_)
  refine rn ?_
  refine then_normal ?_
  refine cs_ rfl (fun hc => ?_) (fun hc => ?_)
  · first
    | (cases hc; done)
    | (
      refine awp_seq ?_
      refine awp_region ?_
      refine rv rfl rfl (?_)
      refine rv rfl rfl (?_)
      (first | refine gy rfl rfl rfl (rv rfl rfl (?_)) | refine gn rfl rfl rfl rfl rfl ?_ | refine gu rfl rfl rfl rfl ?_ | refine gs rfl rfl rfl rfl rfl (fun hg => rv rfl rfl (?_)) (fun hg => ?_)) <;> (
      (first | refine gy rfl rfl rfl (rc1 rfl rfl rfl side_c (?_)) | refine gn rfl rfl rfl rfl rfl ?_ | refine gu rfl rfl rfl rfl ?_ | refine gs rfl rfl rfl rfl rfl (fun hg => rc1 rfl rfl rfl side_c (?_)) (fun hg => ?_)) <;> (
      (first | refine gy rfl rfl rfl (rv rfl rfl (?_)) | refine gn rfl rfl rfl rfl rfl ?_ | refine gu rfl rfl rfl rfl ?_ | refine gs rfl rfl rfl rfl rfl (fun hg => rv rfl rfl (?_)) (fun hg => ?_)) <;> (
      refine rv rfl rfl (?_)
      refine rv rfl rfl (?_)
      (first | refine gy rfl rfl rfl (rv rfl rfl (?_)) | refine gn rfl rfl rfl rfl rfl ?_ | refine gu rfl rfl rfl rfl ?_ | refine gs rfl rfl rfl rfl rfl (fun hg => rv rfl rfl (?_)) (fun hg => ?_)) <;> (
      (first | refine gy rfl rfl rfl (rv rfl rfl (?_)) | refine gn rfl rfl rfl rfl rfl ?_ | refine gu rfl rfl rfl rfl ?_ | refine gs rfl rfl rfl rfl rfl (fun hg => rv rfl rfl (?_)) (fun hg => ?_)) <;> (
      (first | refine gy rfl rfl rfl (rv rfl rfl (?_)) | refine gn rfl rfl rfl rfl rfl ?_ | refine gu rfl rfl rfl rfl ?_ | refine gs rfl rfl rfl rfl rfl (fun hg => rv rfl rfl (?_)) (fun hg => ?_)) <;> (
      refine rv rfl rfl (?_)
      refine rv rfl rfl (?_)
      (first | refine gy rfl rfl rfl (rv rfl rfl (?_)) | refine gn rfl rfl rfl rfl rfl ?_ | refine gu rfl rfl rfl rfl ?_ | refine gs rfl rfl rfl rfl rfl (fun hg => rv rfl rfl (?_)) (fun hg => ?_)) <;> (
      (first | refine gy rfl rfl rfl (rv rfl rfl (?_)) | refine gn rfl rfl rfl rfl rfl ?_ | refine gu rfl rfl rfl rfl ?_ | refine gs rfl rfl rfl rfl rfl (fun hg => rv rfl rfl (?_)) (fun hg => ?_)) <;> (
      (first | refine gy rfl rfl rfl (rv rfl rfl (?_)) | refine gn rfl rfl rfl rfl rfl ?_ | refine gu rfl rfl rfl rfl ?_ | refine gs rfl rfl rfl rfl rfl (fun hg => rv rfl rfl (?_)) (fun hg => ?_)) <;> (
      refine rv rfl rfl (?_)
      refine rv rfl rfl (?_)
      (first | refine gy rfl rfl rfl (rv rfl rfl (?_)) | refine gn rfl rfl rfl rfl rfl ?_ | refine gu rfl rfl rfl rfl ?_ | refine gs rfl rfl rfl rfl rfl (fun hg => rv rfl rfl (?_)) (fun hg => ?_)) <;> (
      (first | refine gy rfl rfl rfl (rv rfl rfl (?_)) | refine gn rfl rfl rfl rfl rfl ?_ | refine gu rfl rfl rfl rfl ?_ | refine gs rfl rfl rfl rfl rfl (fun hg => rv rfl rfl (?_)) (fun hg => ?_)) <;> (
      refine rv rfl rfl (?_)
      refine rv rfl rfl (?_)
      (first | refine gy rfl rfl rfl (rv rfl rfl (?_)) | refine gn rfl rfl rfl rfl rfl ?_ | refine gu rfl rfl rfl rfl ?_ | refine gs rfl rfl rfl rfl rfl (fun hg => rv rfl rfl (?_)) (fun hg => ?_)) <;> (
      (first | refine gy rfl rfl rfl (rv rfl rfl (?_)) | refine gn rfl rfl rfl rfl rfl ?_ | refine gu rfl rfl rfl rfl ?_ | refine gs rfl rfl rfl rfl rfl (fun hg => rv rfl rfl (?_)) (fun hg => ?_)) <;> (
      refine rv rfl rfl (?_)
      refine rv rfl rfl (?_)
      refine rn ?_
      refine then_normal ?_
      refine awp_ret ?_
      repeat (first | refine then_ret ?_ | refine inBlock_ret ?_)
      refine rr rfl rfl ?_
      first | rfl | (simp_all [sideV]; done)))))))))))))))
  · first
    | (cases hc; done)
    | (
      refine awp_skip ?_
      refine then_normal ?_
      refine awp_seq ?_
      exfalso
      simp_all)))
end

section
attribute [local irreducible] awp aops DP PCall Decidable.decide
/-- `plover/ploverlaw04.MortonCells` -/
theorem MortonCells_ok {k : Nat} {x y c r : Int} (hk : 24 ≤ k ∧ k ≤ 31) (h : mayS (k : Int) = true) : PCall Try.prog 12 [.int .i64 ((k : Nat) : Int), .agg [.int .i64 x, .int .i64 y], .int .i64 c, .int .i64 r] (· = .bool (true)) := by
  refine pcall_body Try.func12 rfl (by kernel_rfl) (by rfl) ?_
  refine awp_seq ?_
  refine awp_region ?_
  refine rb rfl rfl (?_)
  refine rv rfl rfl (?_)
  refine rn ?_
  refine then_normal ?_
  refine awp_seq ?_
  refine awp_region ?_
  refine rc1 rfl rfl rfl up4_c (?_)
  refine rv rfl rfl (?_)
  refine rn ?_
  refine then_normal ?_
  refine awp_seq ?_
  refine awp_region ?_
  refine rv rfl rfl (?_)
  refine rc1 rfl rfl rfl shift_c (?_)
  refine rv rfl rfl (?_)
  refine rn ?_
  refine then_normal ?_
  refine awp_seq ?_
  (rcases hq : mayP x y with _ | _) <;> (
  refine awp_region ?_
  refine rv rfl rfl (?_)
  refine rv rfl rfl (?_)
  refine rc1 rfl rfl rfl (cell_cb h hq) (?_)
  refine rv rfl rfl (?_)
  refine rv rfl rfl (?_)
  refine rv rfl rfl (?_)
  refine rv rfl rfl (?_)
  refine rv rfl rfl (?_)
  refine rv rfl rfl (?_)
  refine rv rfl rfl (?_)
  refine rn ?_
  refine then_normal ?_
  refine awp_seq ?_
  (rcases hb : inS (k : Int) c r with _ | _) <;> (
  refine awp_region ?_
  refine rv rfl rfl (?_)
  refine rv rfl rfl (?_)
  refine rv rfl rfl (?_)
  refine rc1 rfl rfl rfl (box_cb hb) (?_)
  refine rv rfl rfl (?_)
  refine rv rfl rfl (?_)
  refine rv rfl rfl (?_)
  refine ra rfl rfl rfl (?_)
  refine rs rfl rfl rfl rfl rfl rfl rfl (?_)
  refine rv rfl rfl (?_)
  refine rn ?_
  refine then_normal ?_
  refine awp_seq ?_
  refine awp_seq ?_
  refine awp_region ?_
  refine rv rfl rfl (?_)
  refine rv rfl rfl (?_)
  refine rn ?_
  refine then_normal ?_
  refine cs_ rfl (fun hc => ?_) (fun hc => ?_)
  · first
    | (cases hc; done)
    | (
      refine awp_seq ?_
      exfalso
      simp_all)
  · first
    | (cases hc; done)
    | (
      refine awp_skip ?_
      refine then_normal ?_
      refine awp_seq ?_
      refine awp_region ?_
      refine rv rfl rfl (?_)
      refine rc1 rfl rfl rfl (rside_c hk) (?_)
      refine rv rfl rfl (?_)
      refine rn ?_
      refine then_normal ?_
      refine awp_seq ?_
      refine awp_seq ?_
      refine awp_region ?_
      refine rv rfl rfl (?_)
      refine rc1 rfl rfl rfl side_c (?_)
      refine rv rfl rfl (?_)
      refine rv rfl rfl (?_)
      refine rn ?_
      refine then_normal ?_
      refine cs_ rfl (fun hc => ?_) (fun hc => ?_)
      · first
        | (cases hc; done)
        | (
          refine awp_seq ?_
          refine awp_region ?_
          refine rv rfl rfl (?_)
          refine rn ?_
          refine then_normal ?_
          refine awp_ret ?_
          repeat (first | refine then_ret ?_ | refine inBlock_ret ?_)
          refine rr rfl rfl ?_
          first | rfl | (simp_all [inS, cfarS]; done) | (simp_all [inS, cfarS]; omega))
      · first
        | (cases hc; done)
        | (
          refine awp_skip ?_
          refine then_normal ?_
          refine awp_seq ?_
          refine awp_region ?_
          refine rv rfl rfl (?_)
          refine rc1 rfl rfl rfl rmayP_c (?_)
          refine rv rfl rfl (?_)
          refine rn ?_
          refine then_normal ?_
          refine awp_seq ?_
          refine awp_seq ?_
          refine awp_region ?_
          refine rv rfl rfl (?_)
          refine rv rfl rfl (?_)
          refine rn ?_
          refine then_normal ?_
          refine cs_ rfl (fun hc => ?_) (fun hc => ?_)
          · first
            | (cases hc; done)
            | (
              refine awp_seq ?_
              refine awp_region ?_
              refine rv rfl rfl (?_)
              refine rv rfl rfl (?_)
              refine rv rfl rfl (?_)
              refine rn ?_
              refine then_normal ?_
              refine cs_ rfl (fun hc => ?_) (fun hc => ?_)
              · first
                | (cases hc; done)
                | (
                  refine awp_seq ?_
                  refine awp_region ?_
                  refine rv rfl rfl (?_)
                  refine rn ?_
                  refine then_normal ?_
                  refine awp_ret ?_
                  repeat (first | refine then_ret ?_ | refine inBlock_ret ?_)
                  refine rr rfl rfl ?_
                  first | rfl | (simp_all [inS, cfarS]; done) | (simp_all [inS, cfarS]; omega))
              · first
                | (cases hc; done)
                | (
                  refine awp_skip ?_
                  refine then_normal ?_
                  refine awp_seq ?_
                  refine awp_seq ?_
                  refine awp_region ?_
                  refine rv rfl rfl (?_)
                  refine rv rfl rfl (?_)
                  refine rv rfl rfl (?_)
                  (first | refine gy rfl rfl rfl (rv rfl rfl (?_)) | refine gn rfl rfl rfl rfl rfl ?_ | refine gu rfl rfl rfl rfl ?_ | refine gs rfl rfl rfl rfl rfl (fun hg => rv rfl rfl (?_)) (fun hg => ?_)) <;> (
                  (first | refine gy rfl rfl rfl (rv rfl rfl (?_)) | refine gn rfl rfl rfl rfl rfl ?_ | refine gu rfl rfl rfl rfl ?_ | refine gs rfl rfl rfl rfl rfl (fun hg => rv rfl rfl (?_)) (fun hg => ?_)) <;> (
                  refine rv rfl rfl (?_)
                  refine rv rfl rfl (?_)
                  (first | refine gy rfl rfl rfl (rv rfl rfl (?_)) | refine gn rfl rfl rfl rfl rfl ?_ | refine gu rfl rfl rfl rfl ?_ | refine gs rfl rfl rfl rfl rfl (fun hg => rv rfl rfl (?_)) (fun hg => ?_)) <;> (
                  (first | refine gy rfl rfl rfl (rv rfl rfl (?_)) | refine gn rfl rfl rfl rfl rfl ?_ | refine gu rfl rfl rfl rfl ?_ | refine gs rfl rfl rfl rfl rfl (fun hg => rv rfl rfl (?_)) (fun hg => ?_)) <;> (
                  (first | refine gy rfl rfl rfl (rv rfl rfl (?_)) | refine gn rfl rfl rfl rfl rfl ?_ | refine gu rfl rfl rfl rfl ?_ | refine gs rfl rfl rfl rfl rfl (fun hg => rv rfl rfl (?_)) (fun hg => ?_)) <;> (
                  refine rv rfl rfl (?_)
                  refine rv rfl rfl (?_)
                  (first | refine gy rfl rfl rfl (rv rfl rfl (?_)) | refine gn rfl rfl rfl rfl rfl ?_ | refine gu rfl rfl rfl rfl ?_ | refine gs rfl rfl rfl rfl rfl (fun hg => rv rfl rfl (?_)) (fun hg => ?_)) <;> (
                  (first | refine gy rfl rfl rfl (rv rfl rfl (?_)) | refine gn rfl rfl rfl rfl rfl ?_ | refine gu rfl rfl rfl rfl ?_ | refine gs rfl rfl rfl rfl rfl (fun hg => rv rfl rfl (?_)) (fun hg => ?_)) <;> (
                  (first | refine gy rfl rfl rfl (rv rfl rfl (?_)) | refine gn rfl rfl rfl rfl rfl ?_ | refine gu rfl rfl rfl rfl ?_ | refine gs rfl rfl rfl rfl rfl (fun hg => rv rfl rfl (?_)) (fun hg => ?_)) <;> (
                  refine rv rfl rfl (?_)
                  refine rn ?_
                  refine then_normal ?_
                  refine cs_ rfl (fun hc => ?_) (fun hc => ?_)
                  · first
                    | (cases hc; done)
                    | (
                      refine awp_seq ?_
                      refine awp_region ?_
                      refine rv rfl rfl (?_)
                      refine rv rfl rfl (?_)
                      (first | refine gy rfl rfl rfl (rv rfl rfl (?_)) | refine gn rfl rfl rfl rfl rfl ?_ | refine gu rfl rfl rfl rfl ?_ | refine gs rfl rfl rfl rfl rfl (fun hg => rv rfl rfl (?_)) (fun hg => ?_)) <;> (
                      (first | refine gy rfl rfl rfl (rv rfl rfl (?_)) | refine gn rfl rfl rfl rfl rfl ?_ | refine gu rfl rfl rfl rfl ?_ | refine gs rfl rfl rfl rfl rfl (fun hg => rv rfl rfl (?_)) (fun hg => ?_)) <;> (
                      (first | refine gy rfl rfl rfl (rv rfl rfl (?_)) | refine gn rfl rfl rfl rfl rfl ?_ | refine gu rfl rfl rfl rfl ?_ | refine gs rfl rfl rfl rfl rfl (fun hg => rv rfl rfl (?_)) (fun hg => ?_)) <;> (
                      refine rv rfl rfl (?_)
                      refine rv rfl rfl (?_)
                      refine rn ?_
                      refine then_normal ?_
                      refine awp_ret ?_
                      repeat (first | refine then_ret ?_ | refine inBlock_ret ?_)
                      refine rr rfl rfl ?_
                      first | rfl | (simp_all [inS, cfarS]; done) | (simp_all [inS, cfarS]; omega)))))
                  · first
                    | (cases hc; done)
                    | (
                      refine awp_skip ?_
                      refine then_normal ?_
                      refine awp_seq ?_
                      refine awp_dp (m := 13) Try.mix (by kernel_rfl) (by kernel_rfl) (by kernel_rfl) (by kernel_rfl) (by kernel_rfl) (by kernel_rfl) (by kernel_rfl) ?_
                      refine dv rfl rfl (fun _ => rfl) ?_
                      refine dv rfl rfl (fun _ => rfl) ?_
                      (first | refine dv rfl rfl (fun _ => rfl) ?_ | refine dno rfl rfl ?_ | (refine ds rfl rfl (fun hg => ?_) (fun hg => ?_) <;> first | refine dv rfl rfl (fun _ => rfl) ?_ | refine dno rfl rfl ?_)) <;> (
                      (first | refine dv rfl rfl (fun _ => rfl) ?_ | refine dno rfl rfl ?_ | (refine ds rfl rfl (fun hg => ?_) (fun hg => ?_) <;> first | refine dv rfl rfl (fun _ => rfl) ?_ | refine dno rfl rfl ?_)) <;> (
                      refine dv rfl rfl (fun _ => rfl) ?_
                      refine dv rfl rfl (fun _ => rfl) ?_
                      (first | refine dv rfl rfl (fun _ => rfl) ?_ | refine dno rfl rfl ?_ | (refine ds rfl rfl (fun hg => ?_) (fun hg => ?_) <;> first | refine dv rfl rfl (fun _ => rfl) ?_ | refine dno rfl rfl ?_)) <;> (
                      (first | refine dv rfl rfl (fun _ => rfl) ?_ | refine dno rfl rfl ?_ | (refine ds rfl rfl (fun hg => ?_) (fun hg => ?_) <;> first | refine dv rfl rfl (fun _ => rfl) ?_ | refine dno rfl rfl ?_)) <;> (
                      (first | refine dv rfl rfl (fun _ => rfl) ?_ | refine dno rfl rfl ?_ | (refine ds rfl rfl (fun hg => ?_) (fun hg => ?_) <;> first | refine dv rfl rfl (fun _ => rfl) ?_ | refine dno rfl rfl ?_)) <;> (
                      (first | refine dv rfl rfl (fun _ => rfl) ?_ | refine dno rfl rfl ?_ | (refine ds rfl rfl (fun hg => ?_) (fun hg => ?_) <;> first | refine dv rfl rfl (fun _ => rfl) ?_ | refine dno rfl rfl ?_)) <;> (
                      (first | refine dc rfl rfl rfl rfl (fun _ => rfl) (fun _ => rbox_c' hk hb) ?_ | refine dno rfl rfl ?_ | (refine ds rfl rfl (fun hg => ?_) (fun hg => ?_) <;> first | refine dc rfl rfl rfl rfl (fun _ => rfl) (fun _ => rbox_c' hk hb) ?_ | refine dno rfl rfl ?_)) <;> (
                      (first | refine dv rfl rfl (fun _ => rfl) ?_ | refine dno rfl rfl ?_ | (refine ds rfl rfl (fun hg => ?_) (fun hg => ?_) <;> first | refine dv rfl rfl (fun _ => rfl) ?_ | refine dno rfl rfl ?_)) <;> (
                      refine dv rfl rfl (fun _ => rfl) ?_
                      refine dn ?_
                      refine rv rfl rfl (?_)
                      refine rn ?_
                      refine then_normal ?_
                      refine awp_ret ?_
                      repeat (first | refine then_ret ?_ | refine inBlock_ret ?_)
                      refine rr rfl rfl ?_
                      first | rfl | (simp_all [inS, cfarS]; done) | (simp_all [inS, cfarS]; omega))))))))))))))))))))
          · first
            | (cases hc; done)
            | (
              refine awp_seq ?_
              (have hbd := mayP_iff.1 (by simp_all : mayP x y = true)) <;> (
              refine awp_region ?_
              refine rv rfl rfl (?_)
              refine rv rfl rfl (?_)
              refine rv rfl rfl (?_)
              (first | refine gy rfl rfl rfl (rv rfl rfl (?_)) | refine gn rfl rfl rfl rfl rfl ?_ | refine gu rfl rfl rfl rfl ?_ | refine gs rfl rfl rfl rfl rfl (fun hg => rv rfl rfl (?_)) (fun hg => ?_)) <;> (
              (first | refine gy rfl rfl rfl (rv rfl rfl (?_)) | refine gn rfl rfl rfl rfl rfl ?_ | refine gu rfl rfl rfl rfl ?_ | refine gs rfl rfl rfl rfl rfl (fun hg => rv rfl rfl (?_)) (fun hg => ?_)) <;> (
              (first | refine gy rfl rfl rfl (rv rfl rfl (?_)) | refine gn rfl rfl rfl rfl rfl ?_ | refine gu rfl rfl rfl rfl ?_ | refine gs rfl rfl rfl rfl rfl (fun hg => rv rfl rfl (?_)) (fun hg => ?_)) <;> (
              (first | refine gy rfl rfl rfl (rv rfl rfl (?_)) | refine gn rfl rfl rfl rfl rfl ?_ | refine gu rfl rfl rfl rfl ?_ | refine gs rfl rfl rfl rfl rfl (fun hg => rv rfl rfl (?_)) (fun hg => ?_)) <;> (
              (first | refine gy rfl rfl rfl (rc1 rfl rfl rfl (rcell_c hk hbd.1) (?_)) | refine gn rfl rfl rfl rfl rfl ?_ | refine gu rfl rfl rfl rfl ?_ | refine gs rfl rfl rfl rfl rfl (fun hg => rc1 rfl rfl rfl (rcell_c hk hbd.1) (?_)) (fun hg => ?_)) <;> (
              (first | refine gy rfl rfl rfl (rv rfl rfl (?_)) | refine gn rfl rfl rfl rfl rfl ?_ | refine gu rfl rfl rfl rfl ?_ | refine gs rfl rfl rfl rfl rfl (fun hg => rv rfl rfl (?_)) (fun hg => ?_)) <;> (
              refine rv rfl rfl (?_)
              refine rv rfl rfl (?_)
              (first | refine gy rfl rfl rfl (rv rfl rfl (?_)) | refine gn rfl rfl rfl rfl rfl ?_ | refine gu rfl rfl rfl rfl ?_ | refine gs rfl rfl rfl rfl rfl (fun hg => rv rfl rfl (?_)) (fun hg => ?_)) <;> (
              (first | refine gy rfl rfl rfl (rv rfl rfl (?_)) | refine gn rfl rfl rfl rfl rfl ?_ | refine gu rfl rfl rfl rfl ?_ | refine gs rfl rfl rfl rfl rfl (fun hg => rv rfl rfl (?_)) (fun hg => ?_)) <;> (
              (first | refine gy rfl rfl rfl (rv rfl rfl (?_)) | refine gn rfl rfl rfl rfl rfl ?_ | refine gu rfl rfl rfl rfl ?_ | refine gs rfl rfl rfl rfl rfl (fun hg => rv rfl rfl (?_)) (fun hg => ?_)) <;> (
              (first | refine gy rfl rfl rfl (rv rfl rfl (?_)) | refine gn rfl rfl rfl rfl rfl ?_ | refine gu rfl rfl rfl rfl ?_ | refine gs rfl rfl rfl rfl rfl (fun hg => rv rfl rfl (?_)) (fun hg => ?_)) <;> (
              (first | refine gy rfl rfl rfl (rc1 rfl rfl rfl (rcell_c hk hbd.2) (?_)) | refine gn rfl rfl rfl rfl rfl ?_ | refine gu rfl rfl rfl rfl ?_ | refine gs rfl rfl rfl rfl rfl (fun hg => rc1 rfl rfl rfl (rcell_c hk hbd.2) (?_)) (fun hg => ?_)) <;> (
              (first | refine gy rfl rfl rfl (rv rfl rfl (?_)) | refine gn rfl rfl rfl rfl rfl ?_ | refine gu rfl rfl rfl rfl ?_ | refine gs rfl rfl rfl rfl rfl (fun hg => rv rfl rfl (?_)) (fun hg => ?_)) <;> (
              refine rv rfl rfl (?_)
              refine rn ?_
              refine then_normal ?_
              refine cs_ rfl (fun hc => ?_) (fun hc => ?_)
              · first
                | (cases hc; done)
                | (
                  refine awp_seq ?_
                  refine awp_region ?_
                  refine rv rfl rfl (?_)
                  refine rn ?_
                  refine then_normal ?_
                  refine awp_ret ?_
                  repeat (first | refine then_ret ?_ | refine inBlock_ret ?_)
                  refine rr rfl rfl ?_
                  first | rfl | (simp_all [inS, cfarS]; done) | (simp_all [inS, cfarS]; omega))
              · first
                | (cases hc; done)
                | (
                  refine awp_skip ?_
                  refine then_normal ?_
                  refine awp_seq ?_
                  refine awp_seq ?_
                  refine awp_region ?_
                  refine rv rfl rfl (?_)
                  refine rv rfl rfl (?_)
                  refine rv rfl rfl (?_)
                  (first | refine gy rfl rfl rfl (rv rfl rfl (?_)) | refine gn rfl rfl rfl rfl rfl ?_ | refine gu rfl rfl rfl rfl ?_ | refine gs rfl rfl rfl rfl rfl (fun hg => rv rfl rfl (?_)) (fun hg => ?_)) <;> (
                  (first | refine gy rfl rfl rfl (rv rfl rfl (?_)) | refine gn rfl rfl rfl rfl rfl ?_ | refine gu rfl rfl rfl rfl ?_ | refine gs rfl rfl rfl rfl rfl (fun hg => rv rfl rfl (?_)) (fun hg => ?_)) <;> (
                  refine rv rfl rfl (?_)
                  refine rv rfl rfl (?_)
                  (first | refine gy rfl rfl rfl (rv rfl rfl (?_)) | refine gn rfl rfl rfl rfl rfl ?_ | refine gu rfl rfl rfl rfl ?_ | refine gs rfl rfl rfl rfl rfl (fun hg => rv rfl rfl (?_)) (fun hg => ?_)) <;> (
                  (first | refine gy rfl rfl rfl (rv rfl rfl (?_)) | refine gn rfl rfl rfl rfl rfl ?_ | refine gu rfl rfl rfl rfl ?_ | refine gs rfl rfl rfl rfl rfl (fun hg => rv rfl rfl (?_)) (fun hg => ?_)) <;> (
                  (first | refine gy rfl rfl rfl (rv rfl rfl (?_)) | refine gn rfl rfl rfl rfl rfl ?_ | refine gu rfl rfl rfl rfl ?_ | refine gs rfl rfl rfl rfl rfl (fun hg => rv rfl rfl (?_)) (fun hg => ?_)) <;> (
                  refine rv rfl rfl (?_)
                  refine rv rfl rfl (?_)
                  (first | refine gy rfl rfl rfl (rv rfl rfl (?_)) | refine gn rfl rfl rfl rfl rfl ?_ | refine gu rfl rfl rfl rfl ?_ | refine gs rfl rfl rfl rfl rfl (fun hg => rv rfl rfl (?_)) (fun hg => ?_)) <;> (
                  (first | refine gy rfl rfl rfl (rv rfl rfl (?_)) | refine gn rfl rfl rfl rfl rfl ?_ | refine gu rfl rfl rfl rfl ?_ | refine gs rfl rfl rfl rfl rfl (fun hg => rv rfl rfl (?_)) (fun hg => ?_)) <;> (
                  (first | refine gy rfl rfl rfl (rv rfl rfl (?_)) | refine gn rfl rfl rfl rfl rfl ?_ | refine gu rfl rfl rfl rfl ?_ | refine gs rfl rfl rfl rfl rfl (fun hg => rv rfl rfl (?_)) (fun hg => ?_)) <;> (
                  refine rv rfl rfl (?_)
                  refine rn ?_
                  refine then_normal ?_
                  refine cs_ rfl (fun hc => ?_) (fun hc => ?_)
                  · first
                    | (cases hc; done)
                    | (
                      refine awp_seq ?_
                      refine awp_region ?_
                      refine rv rfl rfl (?_)
                      refine rv rfl rfl (?_)
                      (first | refine gy rfl rfl rfl (rv rfl rfl (?_)) | refine gn rfl rfl rfl rfl rfl ?_ | refine gu rfl rfl rfl rfl ?_ | refine gs rfl rfl rfl rfl rfl (fun hg => rv rfl rfl (?_)) (fun hg => ?_)) <;> (
                      (first | refine gy rfl rfl rfl (rv rfl rfl (?_)) | refine gn rfl rfl rfl rfl rfl ?_ | refine gu rfl rfl rfl rfl ?_ | refine gs rfl rfl rfl rfl rfl (fun hg => rv rfl rfl (?_)) (fun hg => ?_)) <;> (
                      (first | refine gy rfl rfl rfl (rv rfl rfl (?_)) | refine gn rfl rfl rfl rfl rfl ?_ | refine gu rfl rfl rfl rfl ?_ | refine gs rfl rfl rfl rfl rfl (fun hg => rv rfl rfl (?_)) (fun hg => ?_)) <;> (
                      refine rv rfl rfl (?_)
                      refine rv rfl rfl (?_)
                      refine rn ?_
                      refine then_normal ?_
                      refine awp_ret ?_
                      repeat (first | refine then_ret ?_ | refine inBlock_ret ?_)
                      refine rr rfl rfl ?_
                      first | rfl | (simp_all [inS, cfarS]; done) | (simp_all [inS, cfarS]; omega)))))
                  · first
                    | (cases hc; done)
                    | (
                      refine awp_skip ?_
                      refine then_normal ?_
                      refine awp_seq ?_
                      refine awp_dp (m := 13) Try.mix (by kernel_rfl) (by kernel_rfl) (by kernel_rfl) (by kernel_rfl) (by kernel_rfl) (by kernel_rfl) (by kernel_rfl) ?_
                      refine dv rfl rfl (fun _ => rfl) ?_
                      refine dv rfl rfl (fun _ => rfl) ?_
                      (first | refine dv rfl rfl (fun _ => rfl) ?_ | refine dno rfl rfl ?_ | (refine ds rfl rfl (fun hg => ?_) (fun hg => ?_) <;> first | refine dv rfl rfl (fun _ => rfl) ?_ | refine dno rfl rfl ?_)) <;> (
                      (first | refine dv rfl rfl (fun _ => rfl) ?_ | refine dno rfl rfl ?_ | (refine ds rfl rfl (fun hg => ?_) (fun hg => ?_) <;> first | refine dv rfl rfl (fun _ => rfl) ?_ | refine dno rfl rfl ?_)) <;> (
                      refine dv rfl rfl (fun _ => rfl) ?_
                      refine dv rfl rfl (fun _ => rfl) ?_
                      (first | refine dv rfl rfl (fun _ => rfl) ?_ | refine dno rfl rfl ?_ | (refine ds rfl rfl (fun hg => ?_) (fun hg => ?_) <;> first | refine dv rfl rfl (fun _ => rfl) ?_ | refine dno rfl rfl ?_)) <;> (
                      (first | refine dv rfl rfl (fun _ => rfl) ?_ | refine dno rfl rfl ?_ | (refine ds rfl rfl (fun hg => ?_) (fun hg => ?_) <;> first | refine dv rfl rfl (fun _ => rfl) ?_ | refine dno rfl rfl ?_)) <;> (
                      (first | refine dv rfl rfl (fun _ => rfl) ?_ | refine dno rfl rfl ?_ | (refine ds rfl rfl (fun hg => ?_) (fun hg => ?_) <;> first | refine dv rfl rfl (fun _ => rfl) ?_ | refine dno rfl rfl ?_)) <;> (
                      (first | refine dv rfl rfl (fun _ => rfl) ?_ | refine dno rfl rfl ?_ | (refine ds rfl rfl (fun hg => ?_) (fun hg => ?_) <;> first | refine dv rfl rfl (fun _ => rfl) ?_ | refine dno rfl rfl ?_)) <;> (
                      (first | refine dc rfl rfl rfl rfl (fun _ => rfl) (fun _ => rbox_c' hk hb) ?_ | refine dno rfl rfl ?_ | (refine ds rfl rfl (fun hg => ?_) (fun hg => ?_) <;> first | refine dc rfl rfl rfl rfl (fun _ => rfl) (fun _ => rbox_c' hk hb) ?_ | refine dno rfl rfl ?_)) <;> (
                      (first | refine dv rfl rfl (fun _ => rfl) ?_ | refine dno rfl rfl ?_ | (refine ds rfl rfl (fun hg => ?_) (fun hg => ?_) <;> first | refine dv rfl rfl (fun _ => rfl) ?_ | refine dno rfl rfl ?_)) <;> (
                      refine dv rfl rfl (fun _ => rfl) ?_
                      refine dn ?_
                      refine rv rfl rfl (?_)
                      refine rn ?_
                      refine then_normal ?_
                      refine awp_ret ?_
                      repeat (first | refine then_ret ?_ | refine inBlock_ret ?_)
                      refine rr rfl rfl ?_
                      first | rfl | (simp_all [inS, cfarS]; done) | (simp_all [inS, cfarS]; omega)))))))))))))))))))))))))))))))))))))
end

theorem MortonCells_c {s x y c r : Int} (w0 : (Lit.int .i64 s).wf = true) (w2 : (Lit.int .i64 c).wf = true) (w3 : (Lit.int .i64 r).wf = true) : PCall Try.prog 12 [.int .i64 s, .agg [.int .i64 x, .int .i64 y], .int .i64 c, .int .i64 r] (· = .bool true) := by
  cases h : mayS s with
  | false => exact MortonCells_no h
  | true =>
    have hs : 24 ≤ s ∧ s ≤ 31 := by simpa [mayS] using h
    obtain ⟨k, rfl⟩ := Int.eq_ofNat_of_zero_le (a := s) (by omega)
    exact MortonCells_ok (by omega) h

end Go.Proofs.Ytfonfgnbjkpanaa
