/- Contracts, printed by a program of this session's. -/
import Derived.Test.YtngeejjllgnpcaaS16c
namespace Go.Proofs.Ytngeejjllgnpcaa
open Go.Pv
set_option maxRecDepth 100000
set_option maxHeartbeats 4000000
set_option linter.unusedSimpArgs false
set_option linter.unusedVariables false
set_option linter.unusedSectionVars false

theorem upG1 : mayG 0 0 2 2 [] = true := by decide +kernel
theorem upG2 : mayG 1 0 0 0 [] = false := by decide +kernel
theorem upG3 : inG 0 0 2 2 [] (1, 1) = true := by decide +kernel
theorem u16_1 : PCall Try.prog 30 [.agg [.int .i64 0, .int .i64 0, .int .i64 2, .int .i64 2, .sl []]] (· = boxO true (0, 0, 2, 2)) := boxG_c (l := []) (by decide) upG1
theorem u16_2 : PCall Try.prog 30 [.agg [.int .i64 1, .int .i64 0, .int .i64 0, .int .i64 0, .sl []]] (· = boxO false (1, 0, 0, 0)) := boxG_c (l := []) (by decide) upG2
theorem u16_3 : PCall Try.prog 31 [.agg [.int .i64 0, .int .i64 0, .int .i64 2, .int .i64 2, .sl []]] (· = .bool true) := mayG_cb (l := []) (by decide) upG1
theorem u16_4 : PCall Try.prog 34 [.agg [.int .i64 0, .int .i64 0, .int .i64 2, .int .i64 2, .sl []], .agg [.int .i64 1, .int .i64 1]] (· = .bool true) := upG3 ▸ inG_c (l := []) (p := (1, 1)) (by decide)

section
attribute [local irreducible] awp aops DP PCall ACall Decidable.decide
/-- `plover/ploverlaw16.up` -/
theorem up16_c : PCall Try.prog 27 [] (· = .bool (true)) := by
  refine pcall_body Try.func27 rfl (by kernel_rfl) (by rfl) ?_
  refine awp_seq ?_
  refine awp_region ?_
  refine rv rfl rfl (?_)
  refine rn ?_
  refine then_normal ?_
  refine awp_seq ?_
  refine awp_region ?_
  refine rv rfl rfl (?_)
  refine rv rfl rfl (?_)
  refine ra rfl rfl rfl (?_)
  refine rs rfl rfl rfl rfl rfl rfl rfl (?_)
  refine rn ?_
  refine then_normal ?_
  refine awp_seq ?_
  refine awp_region ?_
  refine rv rfl rfl (?_)
  refine rc1 rfl rfl rfl u16_1 (?_)
  refine rv rfl rfl (?_)
  refine rv rfl rfl (?_)
  refine rv rfl rfl (?_)
  refine ra rfl rfl rfl (?_)
  refine rs rfl rfl rfl rfl rfl rfl rfl (?_)
  refine rv rfl rfl (?_)
  refine rn ?_
  refine then_normal ?_
  refine awp_seq ?_
  refine awp_region ?_
  refine rv rfl rfl (?_)
  refine rv rfl rfl (?_)
  refine rc1 rfl rfl rfl u16_2 (?_)
  refine rv rfl rfl (?_)
  refine rv rfl rfl (?_)
  refine rv rfl rfl (?_)
  refine ra rfl rfl rfl (?_)
  refine rs rfl rfl rfl rfl rfl rfl rfl (?_)
  refine rv rfl rfl (?_)
  refine rn ?_
  refine then_normal ?_
  refine awp_seq ?_
  refine awp_region ?_
  refine rv rfl rfl (?_)
  refine rv rfl rfl (?_)
  refine rv rfl rfl (?_)
  (first | refine gy rfl rfl rfl (rv rfl rfl (?_)) | refine gn rfl rfl rfl rfl rfl ?_ | refine gu rfl rfl rfl rfl ?_ | refine gs rfl rfl rfl rfl rfl (fun hg => rv rfl rfl (?_)) (fun hg => ?_)) <;> (
  (first | refine gy rfl rfl rfl (rv rfl rfl (?_)) | refine gn rfl rfl rfl rfl rfl ?_ | refine gu rfl rfl rfl rfl ?_ | refine gs rfl rfl rfl rfl rfl (fun hg => rv rfl rfl (?_)) (fun hg => ?_)) <;> (
  (first | refine gy rfl rfl rfl (rv rfl rfl (?_)) | refine gn rfl rfl rfl rfl rfl ?_ | refine gu rfl rfl rfl rfl ?_ | refine gs rfl rfl rfl rfl rfl (fun hg => rv rfl rfl (?_)) (fun hg => ?_)) <;> (
  (first | refine gy rfl rfl rfl (rv rfl rfl (?_)) | refine gn rfl rfl rfl rfl rfl ?_ | refine gu rfl rfl rfl rfl ?_ | refine gs rfl rfl rfl rfl rfl (fun hg => rv rfl rfl (?_)) (fun hg => ?_)) <;> (
  refine rv rfl rfl (?_)
  refine rv rfl rfl (?_)
  (first | refine gy rfl rfl rfl (rv rfl rfl (?_)) | refine gn rfl rfl rfl rfl rfl ?_ | refine gu rfl rfl rfl rfl ?_ | refine gs rfl rfl rfl rfl rfl (fun hg => rv rfl rfl (?_)) (fun hg => ?_)) <;> (
  (first | refine gy rfl rfl rfl (rv rfl rfl (?_)) | refine gn rfl rfl rfl rfl rfl ?_ | refine gu rfl rfl rfl rfl ?_ | refine gs rfl rfl rfl rfl rfl (fun hg => rv rfl rfl (?_)) (fun hg => ?_)) <;> (
  (first | refine gy rfl rfl rfl (rv rfl rfl (?_)) | refine gn rfl rfl rfl rfl rfl ?_ | refine gu rfl rfl rfl rfl ?_ | refine gs rfl rfl rfl rfl rfl (fun hg => rv rfl rfl (?_)) (fun hg => ?_)) <;> (
  refine rv rfl rfl (?_)
  refine rv rfl rfl (?_)
  (first | refine gy rfl rfl rfl (rv rfl rfl (?_)) | refine gn rfl rfl rfl rfl rfl ?_ | refine gu rfl rfl rfl rfl ?_ | refine gs rfl rfl rfl rfl rfl (fun hg => rv rfl rfl (?_)) (fun hg => ?_)) <;> (
  (first | refine gy rfl rfl rfl (rc1 rfl rfl rfl u16_3 (?_)) | refine gn rfl rfl rfl rfl rfl ?_ | refine gu rfl rfl rfl rfl ?_ | refine gs rfl rfl rfl rfl rfl (fun hg => rc1 rfl rfl rfl u16_3 (?_)) (fun hg => ?_)) <;> (
  refine rv rfl rfl (?_)
  refine rv rfl rfl (?_)
  (first | refine gy rfl rfl rfl (rv rfl rfl (?_)) | refine gn rfl rfl rfl rfl rfl ?_ | refine gu rfl rfl rfl rfl ?_ | refine gs rfl rfl rfl rfl rfl (fun hg => rv rfl rfl (?_)) (fun hg => ?_)) <;> (
  (first | refine gy rfl rfl rfl (rv rfl rfl (?_)) | refine gn rfl rfl rfl rfl rfl ?_ | refine gu rfl rfl rfl rfl ?_ | refine gs rfl rfl rfl rfl rfl (fun hg => rv rfl rfl (?_)) (fun hg => ?_)) <;> (
  (first | refine gy rfl rfl rfl (rc1 rfl rfl rfl u16_4 (?_)) | refine gn rfl rfl rfl rfl rfl ?_ | refine gu rfl rfl rfl rfl ?_ | refine gs rfl rfl rfl rfl rfl (fun hg => rc1 rfl rfl rfl u16_4 (?_)) (fun hg => ?_)) <;> (
  refine rv rfl rfl (?_)
  refine rv rfl rfl (?_)
  refine rn ?_
  refine then_normal ?_
  refine awp_ret ?_
  repeat (first | refine then_ret ?_ | refine inBlock_ret ?_)
  refine rr rfl rfl ?_
  first | rfl | (simp at hg; done) | trace_state))))))))))))
end

theorem same_gg {a b c d : Int} {l : List Pt} (hl : l.length ≤ maxLen) : PCall Try.prog 32 [.agg [.int .i64 a, .int .i64 b, .int .i64 c, .int .i64 d, .sl (rows l)], .agg [.int .i64 a, .int .i64 b, .int .i64 c, .int .i64 d, .sl (rows l)]] (· = .bool true) := by
  have : sameG a b c d l a b c d l = true := by simp [sameG, sameR, eqL]
  rw [← this]; exact sameG_c hl
theorem eq4_no {a b c d : Int} (h : (a == a && (b == b && (c == c && (d == d && true)))) = false) : False := by simp at h
theorem eq4_yes {a b c d : Int} : AV.bool (a == a && (b == b && (c == c && (d == d && true)))) = AV.bool true := by simp
theorem nn_no (h : (!true) = true) : False := by cases h

section
attribute [local irreducible] awp aops DP PCall ACall Decidable.decide Nat.mod simpB mayP mayR mayG inE inR box addB holdsR inG sameG eqL
/-- `plover/ploverlaw16.RegionTells` -/
theorem RegionTells_p {a b c d a' b' c' d' : Int} {l m : List Pt} {p : Pt} (hl : l.length ≤ maxLen) : PCall Try.prog 6 [.agg [.int .i64 (a), .int .i64 (b), .int .i64 (c), .int .i64 (d), .sl (rows l)], .agg [.int .i64 (a'), .int .i64 (b'), .int .i64 (c'), .int .i64 (d'), .sl (rows m)], .agg [.int .i64 (p).1, .int .i64 (p).2]] (· = .bool (true)) := by
  refine pcall_body Try.func6 rfl (by kernel_rfl) (by rfl) ?_
  refine awp_seq ?_
  refine awp_region ?_
  refine rb rfl rfl (?_)
  refine rb rfl rfl (?_)
  refine rb rfl rfl (?_)
  refine rv rfl rfl (?_)
  refine rn ?_
  refine then_normal ?_
  refine awp_seq ?_
  refine awp_region ?_
  refine rc1 rfl rfl rfl up16_c (?_)
  refine rv rfl rfl (?_)
  refine rn ?_
  refine then_normal ?_
  refine awp_seq ?_
  refine awp_region ?_
  refine rv rfl rfl (?_)
  refine rc1 rfl rfl rfl few_c (?_)
  refine rv rfl rfl (?_)
  refine rn ?_
  refine then_normal ?_
  refine awp_seq ?_
  refine awp_region ?_
  refine rv rfl rfl (?_)
  refine rc1 rfl rfl rfl few_c (?_)
  refine rv rfl rfl (?_)
  refine rn ?_
  refine then_normal ?_
  refine awp_seq ?_
  refine awp_seq ?_
  refine awp_region ?_
  refine rv rfl rfl (?_)
  refine rv rfl rfl (?_)
  refine rv rfl rfl (?_)
  (first | refine gy rfl rfl rfl (rv rfl rfl (?_)) | refine gn rfl rfl rfl rfl rfl ?_ | refine gu rfl rfl rfl rfl ?_ | refine gs rfl rfl rfl rfl rfl (fun hg => rv rfl rfl (?_)) (fun hg => ?_)) <;> (
  (first | refine gy rfl rfl rfl (rv rfl rfl (?_)) | refine gn rfl rfl rfl rfl rfl ?_ | refine gu rfl rfl rfl rfl ?_ | refine gs rfl rfl rfl rfl rfl (fun hg => rv rfl rfl (?_)) (fun hg => ?_)) <;> (
  refine rv rfl rfl (?_)
  refine rn ?_
  refine then_normal ?_
  refine cs_ rfl (fun hc => ?_) (fun hc => ?_)
  · first
    | (cases hc; done)
    | (
      refine awp_seq ?_
      refine awp_region ?_
      refine rv rfl rfl (?_)
      refine rv rfl rfl (?_)
      refine rn ?_
      refine then_normal ?_
      refine awp_ret ?_
      repeat (first | refine then_ret ?_ | refine inBlock_ret ?_)
      refine rr rfl rfl ?_
      first | rfl | exact (bne_no (by assumption)).elim | exact (beq_no (by assumption)).elim | exact (eq4_no (by assumption)).elim | exact eq4_yes | (simp; done) | (simp at hc; done) | (simp at hg; done) | trace_state)
  · first
    | (cases hc; done)
    | (
      refine awp_skip ?_
      refine then_normal ?_
      refine awp_seq ?_
      (rcases hm : mayG a b c d l with _ | _) <;> (
      refine awp_region ?_
      refine rv rfl rfl (?_)
      refine rc1 rfl rfl rfl (rmayG_cb hl hm) (?_)
      refine rv rfl rfl (?_)
      refine rn ?_
      refine then_normal ?_
      refine awp_seq ?_
      refine awp_region ?_
      refine rv rfl rfl (?_)
      refine rc1 rfl rfl rfl (boxG_c hl hm) (?_)
      refine rv rfl rfl (?_)
      refine rv rfl rfl (?_)
      refine rv rfl rfl (?_)
      refine ra rfl rfl rfl (?_)
      refine rs rfl rfl rfl rfl rfl rfl rfl (?_)
      refine rv rfl rfl (?_)
      refine rn ?_
      refine then_normal ?_
      refine awp_seq ?_
      refine awp_seq ?_
      refine awp_dp (m := 28) Try.mix (by kernel_rfl) (by kernel_rfl) (by kernel_rfl) (by kernel_rfl) (by kernel_rfl) (by kernel_rfl) (by kernel_rfl) ?_
      refine dv rfl rfl (fun _ => rfl) ?_
      refine dc rfl rfl rfl rfl (fun _ => rfl) (fun _ => (mayG_cb hl hm)) ?_
      refine dv rfl rfl (fun _ => rfl) ?_
      refine dv rfl rfl (fun _ => rfl) ?_
      refine dv rfl rfl (fun _ => rfl) ?_
      (first | refine dv rfl rfl (fun _ => rfl) ?_ | refine dno rfl rfl ?_ | (refine ds rfl rfl (fun hg => ?_) (fun hg => ?_) <;> first | refine dv rfl rfl (fun _ => rfl) ?_ | refine dno rfl rfl ?_)) <;> (
      (first | refine dv rfl rfl (fun _ => rfl) ?_ | refine dno rfl rfl ?_ | (refine ds rfl rfl (fun hg => ?_) (fun hg => ?_) <;> first | refine dv rfl rfl (fun _ => rfl) ?_ | refine dno rfl rfl ?_)) <;> (
      (first | refine dc rfl rfl rfl rfl (fun _ => rfl) (fun _ => (sameG_c hl)) ?_ | refine dno rfl rfl ?_ | (refine ds rfl rfl (fun hg => ?_) (fun hg => ?_) <;> first | refine dc rfl rfl rfl rfl (fun _ => rfl) (fun _ => (sameG_c hl)) ?_ | refine dno rfl rfl ?_)) <;> (
      (first | refine dv rfl rfl (fun _ => rfl) ?_ | refine dno rfl rfl ?_ | (refine ds rfl rfl (fun hg => ?_) (fun hg => ?_) <;> first | refine dv rfl rfl (fun _ => rfl) ?_ | refine dno rfl rfl ?_)) <;> (
      (first | refine dv rfl rfl (fun _ => rfl) ?_ | refine dno rfl rfl ?_ | (refine ds rfl rfl (fun hg => ?_) (fun hg => ?_) <;> first | refine dv rfl rfl (fun _ => rfl) ?_ | refine dno rfl rfl ?_)) <;> (
      (first | refine dc rfl rfl rfl rfl (fun _ => rfl) (fun _ => (rsameG_c hl)) ?_ | refine dno rfl rfl ?_ | (refine ds rfl rfl (fun hg => ?_) (fun hg => ?_) <;> first | refine dc rfl rfl rfl rfl (fun _ => rfl) (fun _ => (rsameG_c hl)) ?_ | refine dno rfl rfl ?_)) <;> (
      (first | refine dv rfl rfl (fun _ => rfl) ?_ | refine dno rfl rfl ?_ | (refine ds rfl rfl (fun hg => ?_) (fun hg => ?_) <;> first | refine dv rfl rfl (fun _ => rfl) ?_ | refine dno rfl rfl ?_)) <;> (
      refine dv rfl rfl (fun _ => rfl) ?_
      refine dv rfl rfl (fun _ => rfl) ?_
      (first | refine dv rfl rfl (fun _ => rfl) ?_ | refine dno rfl rfl ?_ | (refine ds rfl rfl (fun hg => ?_) (fun hg => ?_) <;> first | refine dv rfl rfl (fun _ => rfl) ?_ | refine dno rfl rfl ?_)) <;> (
      (first | refine dv rfl rfl (fun _ => rfl) ?_ | refine dno rfl rfl ?_ | (refine ds rfl rfl (fun hg => ?_) (fun hg => ?_) <;> first | refine dv rfl rfl (fun _ => rfl) ?_ | refine dno rfl rfl ?_)) <;> (
      (first | refine dc rfl rfl rfl rfl (fun _ => rfl) (fun _ => (same_gg hl)) ?_ | refine dno rfl rfl ?_ | (refine ds rfl rfl (fun hg => ?_) (fun hg => ?_) <;> first | refine dc rfl rfl rfl rfl (fun _ => rfl) (fun _ => (same_gg hl)) ?_ | refine dno rfl rfl ?_)) <;> (
      (first | refine dv rfl rfl (fun _ => rfl) ?_ | refine dno rfl rfl ?_ | (refine ds rfl rfl (fun hg => ?_) (fun hg => ?_) <;> first | refine dv rfl rfl (fun _ => rfl) ?_ | refine dno rfl rfl ?_)) <;> (
      refine dv rfl rfl (fun _ => rfl) ?_
      refine dv rfl rfl (fun _ => rfl) ?_
      (first | refine dv rfl rfl (fun _ => rfl) ?_ | refine dno rfl rfl ?_ | (refine ds rfl rfl (fun hg => ?_) (fun hg => ?_) <;> first | refine dv rfl rfl (fun _ => rfl) ?_ | refine dno rfl rfl ?_)) <;> (
      (first | refine dv rfl rfl (fun _ => rfl) ?_ | refine dno rfl rfl ?_ | (refine ds rfl rfl (fun hg => ?_) (fun hg => ?_) <;> first | refine dv rfl rfl (fun _ => rfl) ?_ | refine dno rfl rfl ?_)) <;> (
      (first | refine dc rfl rfl rfl rfl (fun _ => rfl) (fun _ => (inG_c hl)) ?_ | refine dno rfl rfl ?_ | (refine ds rfl rfl (fun hg => ?_) (fun hg => ?_) <;> first | refine dc rfl rfl rfl rfl (fun _ => rfl) (fun _ => (inG_c hl)) ?_ | refine dno rfl rfl ?_)) <;> (
      (first | refine dv rfl rfl (fun _ => rfl) ?_ | refine dno rfl rfl ?_ | (refine ds rfl rfl (fun hg => ?_) (fun hg => ?_) <;> first | refine dv rfl rfl (fun _ => rfl) ?_ | refine dno rfl rfl ?_)) <;> (
      (first | refine dv rfl rfl (fun _ => rfl) ?_ | refine dno rfl rfl ?_ | (refine ds rfl rfl (fun hg => ?_) (fun hg => ?_) <;> first | refine dv rfl rfl (fun _ => rfl) ?_ | refine dno rfl rfl ?_)) <;> (
      (first | refine dc rfl rfl rfl rfl (fun _ => rfl) (fun _ => (rinG_c hl)) ?_ | refine dno rfl rfl ?_ | (refine ds rfl rfl (fun hg => ?_) (fun hg => ?_) <;> first | refine dc rfl rfl rfl rfl (fun _ => rfl) (fun _ => (rinG_c hl)) ?_ | refine dno rfl rfl ?_)) <;> (
      (first | refine dv rfl rfl (fun _ => rfl) ?_ | refine dno rfl rfl ?_ | (refine ds rfl rfl (fun hg => ?_) (fun hg => ?_) <;> first | refine dv rfl rfl (fun _ => rfl) ?_ | refine dno rfl rfl ?_)) <;> (
      refine dv rfl rfl (fun _ => rfl) ?_
      refine dn ?_
      refine rn ?_
      refine then_normal ?_
      refine cs_ rfl (fun hc => ?_) (fun hc => ?_)
      · first
        | (cases hc; done)
        | (
          refine awp_seq ?_
          refine awp_region ?_
          refine rv rfl rfl (?_)
          refine rn ?_
          refine then_normal ?_
          refine awp_ret ?_
          repeat (first | refine then_ret ?_ | refine inBlock_ret ?_)
          refine rr rfl rfl ?_
          first | rfl | exact (bne_no (by assumption)).elim | exact (beq_no (by assumption)).elim | exact (eq4_no (by assumption)).elim | exact eq4_yes | (simp; done) | (simp at hc; done) | (simp at hg; done) | trace_state)
      · first
        | (cases hc; done)
        | (
          refine awp_skip ?_
          refine then_normal ?_
          refine awp_seq ?_
          refine awp_seq ?_
          refine awp_region ?_
          refine rv rfl rfl (?_)
          refine rv rfl rfl (?_)
          refine rn ?_
          refine then_normal ?_
          refine cs_ rfl (fun hc => ?_) (fun hc => ?_)
          · first
            | (cases hc; done)
            | (
              refine awp_seq ?_
              refine awp_region ?_
              refine rv rfl rfl (?_)
              refine rv rfl rfl (?_)
              (first | refine gy rfl rfl rfl (rv rfl rfl (?_)) | refine gn rfl rfl rfl rfl rfl ?_ | refine gu rfl rfl rfl rfl ?_ | refine gs rfl rfl rfl rfl rfl (fun hg => rv rfl rfl (?_)) (fun hg => ?_)) <;> (
              (first | refine gy rfl rfl rfl (rv rfl rfl (?_)) | refine gn rfl rfl rfl rfl rfl ?_ | refine gu rfl rfl rfl rfl ?_ | refine gs rfl rfl rfl rfl rfl (fun hg => rv rfl rfl (?_)) (fun hg => ?_)) <;> (
              (first | refine gy rfl rfl rfl (rv rfl rfl (?_)) | refine gn rfl rfl rfl rfl rfl ?_ | refine gu rfl rfl rfl rfl ?_ | refine gs rfl rfl rfl rfl rfl (fun hg => rv rfl rfl (?_)) (fun hg => ?_)) <;> (
              refine rv rfl rfl (?_)
              refine rv rfl rfl (?_)
              (first | refine gy rfl rfl rfl (rv rfl rfl (?_)) | refine gn rfl rfl rfl rfl rfl ?_ | refine gu rfl rfl rfl rfl ?_ | refine gs rfl rfl rfl rfl rfl (fun hg => rv rfl rfl (?_)) (fun hg => ?_)) <;> (
              (first | refine gy rfl rfl rfl (rv rfl rfl (?_)) | refine gn rfl rfl rfl rfl rfl ?_ | refine gu rfl rfl rfl rfl ?_ | refine gs rfl rfl rfl rfl rfl (fun hg => rv rfl rfl (?_)) (fun hg => ?_)) <;> (
              (first | refine gy rfl rfl rfl (rv rfl rfl (?_)) | refine gn rfl rfl rfl rfl rfl ?_ | refine gu rfl rfl rfl rfl ?_ | refine gs rfl rfl rfl rfl rfl (fun hg => rv rfl rfl (?_)) (fun hg => ?_)) <;> (
              refine rv rfl rfl (?_)
              refine rv rfl rfl (?_)
              refine rn ?_
              refine then_normal ?_
              refine awp_ret ?_
              repeat (first | refine then_ret ?_ | refine inBlock_ret ?_)
              refine rr rfl rfl ?_
              first | rfl | exact (bne_no (by assumption)).elim | exact (beq_no (by assumption)).elim | exact (eq4_no (by assumption)).elim | exact eq4_yes | (simp; done) | (simp at hc; done) | (simp at hg; done) | trace_state)))))))
          · first
            | (cases hc; done)
            | (
              refine awp_skip ?_
              refine then_normal ?_
              refine awp_seq ?_
              refine awp_dp (m := 11) Try.mix (by kernel_rfl) (by kernel_rfl) (by kernel_rfl) (by kernel_rfl) (by kernel_rfl) (by kernel_rfl) (by kernel_rfl) ?_
              refine dv rfl rfl (fun _ => rfl) ?_
              refine dv rfl rfl (fun _ => rfl) ?_
              (first | refine dv rfl rfl (fun _ => rfl) ?_ | refine dno rfl rfl ?_ | (refine ds rfl rfl (fun hg => ?_) (fun hg => ?_) <;> first | refine dv rfl rfl (fun _ => rfl) ?_ | refine dno rfl rfl ?_)) <;> (
              (first | refine dv rfl rfl (fun _ => rfl) ?_ | refine dno rfl rfl ?_ | (refine ds rfl rfl (fun hg => ?_) (fun hg => ?_) <;> first | refine dv rfl rfl (fun _ => rfl) ?_ | refine dno rfl rfl ?_)) <;> (
              refine dv rfl rfl (fun _ => rfl) ?_
              refine dv rfl rfl (fun _ => rfl) ?_
              (first | refine dv rfl rfl (fun _ => rfl) ?_ | refine dno rfl rfl ?_ | (refine ds rfl rfl (fun hg => ?_) (fun hg => ?_) <;> first | refine dv rfl rfl (fun _ => rfl) ?_ | refine dno rfl rfl ?_)) <;> (
              (first | refine dv rfl rfl (fun _ => rfl) ?_ | refine dno rfl rfl ?_ | (refine ds rfl rfl (fun hg => ?_) (fun hg => ?_) <;> first | refine dv rfl rfl (fun _ => rfl) ?_ | refine dno rfl rfl ?_)) <;> (
              (first | refine dc rfl rfl rfl rfl (fun _ => rfl) (fun _ => (rboxG_c hl hm)) ?_ | refine dno rfl rfl ?_ | (refine ds rfl rfl (fun hg => ?_) (fun hg => ?_) <;> first | refine dc rfl rfl rfl rfl (fun _ => rfl) (fun _ => (rboxG_c hl hm)) ?_ | refine dno rfl rfl ?_)) <;> (
              (first | refine dv rfl rfl (fun _ => rfl) ?_ | refine dno rfl rfl ?_ | (refine ds rfl rfl (fun hg => ?_) (fun hg => ?_) <;> first | refine dv rfl rfl (fun _ => rfl) ?_ | refine dno rfl rfl ?_)) <;> (
              refine dv rfl rfl (fun _ => rfl) ?_
              refine dn ?_
              refine rv rfl rfl (?_)
              refine rn ?_
              refine then_normal ?_
              refine awp_ret ?_
              repeat (first | refine then_ret ?_ | refine inBlock_ret ?_)
              refine rr rfl rfl ?_
              first | rfl | exact (bne_no (by assumption)).elim | exact (beq_no (by assumption)).elim | exact (eq4_no (by assumption)).elim | exact eq4_yes | (simp; done) | (simp at hc; done) | (simp at hg; done) | trace_state))))))))))))))))))))))))))))))
end

theorem in_bx {a b c d : Int} {l : List Pt} {p : Pt} (hi : inG a b c d l p = true) : inR (bxG a b c d l).1 (bxG a b c d l).2.1 (bxG a b c d l).2.2.1 (bxG a b c d l).2.2.2 p.1 p.2 = true := by
  unfold inG at hi
  simp only [Bool.and_eq_true] at hi
  obtain ⟨⟨h1, h2⟩, h3⟩ := hi
  cases l with
  | nil => exact h3
  | cons q t => exact in_of (mayG_simp h1).2 h2 h3
theorem in_bx_no {a b c d : Int} {l : List Pt} {p : Pt} (hi : inG a b c d l p = true) (hn : (!inR (bxG a b c d l).1 (bxG a b c d l).2.1 (bxG a b c d l).2.2.1 (bxG a b c d l).2.2.2 p.1 p.2) = true) : False := by
  rw [in_bx hi] at hn; cases hn
theorem ok_r {a b c d : Int} {v : Pt} (ho : okG a b c d [] v = true) : (mayP a b = true ∧ mayP v.1 v.2 = true ∧ W (a + v.1) = a + v.1 ∧ W (b + v.2) = b + v.2 ∧ mayP (a + v.1) (b + v.2) = true) ∧ (mayP c d = true ∧ mayP v.1 v.2 = true ∧ W (c + v.1) = c + v.1 ∧ W (d + v.2) = d + v.2 ∧ mayP (c + v.1) (d + v.2) = true) := by
  simp only [okG, Bool.and_eq_true] at ho
  exact ⟨may_add ho.1, may_add ho.2⟩
theorem may_m0 {a b c d : Int} {v : Pt} (hm : mayG a b c d [] = true) (ho : okG a b c d [] v = true) : mayG (W (a + v.1)) (W (b + v.2)) (W (c + v.1)) (W (d + v.2)) [] = true := by
  obtain ⟨⟨_, _, e1, e2, m1⟩, ⟨_, _, e3, e4, m2⟩⟩ := ok_r ho
  rw [e1, e2, e3, e4]
  have h := hm
  simp only [mayG, mayR, Bool.and_eq_true, decide_eq_true_eq] at h ⊢
  exact ⟨⟨⟨m1, m2⟩, by omega⟩, by omega⟩
theorem may_m1 {a b c d : Int} {q : Pt} {t : List Pt} {v : Pt} (hm : mayG a b c d (q :: t) = true) (ho : okG a b c d (q :: t) v = true) : mayG 0 0 0 0 ((q :: t).map (mv v)) = true := by
  have h := (simpB_iff _).2 ((mayG_simp hm).2.mv ho)
  show (zero4 0 0 0 0 && simpB ((q :: t).map (mv v))) = true
  rw [h]; rfl
theorem inG_m0 {a b c d : Int} {v p : Pt} (hm : mayG a b c d [] = true) (ho : okG a b c d [] v = true) (hp : mayP p.1 p.2 = true) (hq : mayP (W (p.1 + v.1)) (W (p.2 + v.2)) = true) : inG (W (a + v.1)) (W (b + v.2)) (W (c + v.1)) (W (d + v.2)) [] (W (p.1 + v.1), W (p.2 + v.2)) = inG a b c d [] p := by
  have h1 := may_m0 hm ho
  obtain ⟨⟨_, mv', e1, e2, m1⟩, ⟨_, _, e3, e4, m2⟩⟩ := ok_r ho
  unfold inG my
  rw [h1, hm, hp]
  simp only [hq]
  have b1 := mayP_iff.1 hp; have b2 := mayP_iff.1 mv'
  have e5 := W_add b1.1 b2.1; have e6 := W_add b1.2 b2.2
  simp only [Bool.true_and]
  rw [e1, e2, e3, e4, e5, e6]
  unfold inR
  rw [Bool.eq_iff_iff]; simp only [Bool.and_eq_true, decide_eq_true_eq]; omega
theorem inG_m1 {a b c d : Int} {q : Pt} {t : List Pt} {v p : Pt} (hm : mayG a b c d (q :: t) = true) (ho : okG a b c d (q :: t) v = true) (hp : mayP p.1 p.2 = true) (hq : mayP (W (p.1 + v.1)) (W (p.2 + v.2)) = true) : inG 0 0 0 0 ((q :: t).map (mv v)) (W (p.1 + v.1), W (p.2 + v.2)) = inG a b c d (q :: t) p := by
  have h1 := may_m1 hm ho
  have h2 := in_m (mayG_simp hm).2 ho hp hq
  unfold inG my
  rw [h1, hm, hp]
  simp only [hq, Bool.true_and]
  exact h2
theorem box_mvI (l : List Pt) (v : Pt) : ∀ i, 0 < i → i ≤ l.length → box (l.map (mv v)) i = ((box l i).1 + v.1, (box l i).2.1 + v.2, (box l i).2.2.1 + v.1, (box l i).2.2.2 + v.2)
  | 1, _, h => by
    rw [box_one (i := 0) (by rw [List.length_map]; omega) rfl, box_one (i := 0) (by omega) rfl]
    simp [mv]
  | i + 2, _, h => by
    have ih := box_mvI l v (i + 1) (by omega) (by omega)
    rw [box_succ (i := i + 1) (by rw [List.length_map]; omega) (by simp), box_succ (i := i + 1) (by omega) (by simp), ih]
    simp only [List.getElem_map, mv, mn_eq, mx_eq]
    refine Prod.ext ?_ (Prod.ext ?_ (Prod.ext ?_ ?_)) <;> simp only <;> omega
theorem bx_m1 {a b c d : Int} {q : Pt} {t : List Pt} {v : Pt} (hm : mayG a b c d (q :: t) = true) (ho : okG a b c d (q :: t) v = true) : box ((q :: t).map (mv v)) ((q :: t).map (mv v)).length = (W ((box (q :: t) (q :: t).length).1 + v.1), W ((box (q :: t) (q :: t).length).2.1 + v.2), W ((box (q :: t) (q :: t).length).2.2.1 + v.1), W ((box (q :: t) (q :: t).length).2.2.2 + v.2)) := by
  have hs := (mayG_simp hm).2
  have hd : my v = true := by
    have := List.all_eq_true.1 (show (q :: t).all (addA v) = true from ho) q (by simp)
    unfold addA addB at this; simp only [Bool.and_eq_true] at this; exact this.1.2
  have h2 := mayP_iff.1 hd
  have hb := (bd_box (ps := q :: t) (List.all_eq_true.2 hs.may) t.length (by simp)).1
  obtain ⟨b1, b2, b3, b4⟩ := hb
  rw [List.length_map, box_mvI _ _ _ (by simp) (Nat.le_refl _), List.length_cons, W_add b1 h2.1, W_add b2 h2.2, W_add b3 h2.1, W_add b4 h2.2]
theorem inG_cb {a b c d : Int} {l : List Pt} {x y : Int} {s : Bool} (hl : l.length ≤ maxLen) (h : inG a b c d l (x, y) = s) : PCall Try.prog 34 [.agg [.int .i64 a, .int .i64 b, .int .i64 c, .int .i64 d, .sl (rows l)], .agg [.int .i64 x, .int .i64 y]] (· = .bool s) := h ▸ inG_c (p := (x, y)) hl
theorem boxM {a b c d : Int} {q : Pt} {t : List Pt} {v : Pt} (hl : (q :: t).length ≤ maxLen) (hm : mayG a b c d (q :: t) = true) (ho : okG a b c d (q :: t) v = true) : PCall Try.prog 30 [.agg [.int .i64 0, .int .i64 0, .int .i64 0, .int .i64 0, .sl (rows ((q :: t).map (mv v)))]] (· = boxO true (W ((box (q :: t) (q :: t).length).1 + v.1), W ((box (q :: t) (q :: t).length).2.1 + v.2), W ((box (q :: t) (q :: t).length).2.2.1 + v.1), W ((box (q :: t) (q :: t).length).2.2.2 + v.2))) := by
  rw [← bx_m1 hm ho]
  exact boxG_c (l := (q :: t).map (mv v)) (by rw [List.length_map]; exact hl) (may_m1 hm ho)
theorem boxN {a b c d : Int} {v : Pt} (hm : mayG a b c d [] = true) (ho : okG a b c d [] v = true) : PCall Try.prog 30 [.agg [.int .i64 (W (a + v.1)), .int .i64 (W (b + v.2)), .int .i64 (W (c + v.1)), .int .i64 (W (d + v.2)), .sl []]] (· = boxO true (W (a + v.1), W (b + v.2), W (c + v.1), W (d + v.2))) :=
  boxG_c (l := []) (by decide) (may_m0 hm ho)

section
attribute [local irreducible] awp aops DP PCall ACall Decidable.decide Nat.mod simpB mayP mayR mayG inE inR box addB holdsR inG sameG eqL
/-- `plover/ploverlaw16.RegionKeeps` -/
theorem RegionKeeps_p {a b c d : Int} {l : List Pt} {p v : Pt} (hl : l.length ≤ maxLen) : PCall Try.prog 8 [.agg [.int .i64 (a), .int .i64 (b), .int .i64 (c), .int .i64 (d), .sl (rows l)], .agg [.int .i64 (p).1, .int .i64 (p).2], .agg [.int .i64 (v).1, .int .i64 (v).2]] (· = .bool (true)) := by
  refine pcall_body Try.func8 rfl (by kernel_rfl) (by rfl) ?_
  refine awp_seq ?_
  refine awp_region ?_
  refine rb rfl rfl (?_)
  refine rb rfl rfl (?_)
  refine rb rfl rfl (?_)
  refine rv rfl rfl (?_)
  refine rn ?_
  refine then_normal ?_
  refine awp_seq ?_
  refine awp_region ?_
  refine rc1 rfl rfl rfl up16_c (?_)
  refine rv rfl rfl (?_)
  refine rn ?_
  refine then_normal ?_
  refine awp_seq ?_
  refine awp_region ?_
  refine rv rfl rfl (?_)
  refine rc1 rfl rfl rfl few_c (?_)
  refine rv rfl rfl (?_)
  refine rn ?_
  refine then_normal ?_
  refine awp_seq ?_
  refine awp_seq ?_
  refine awp_region ?_
  refine rv rfl rfl (?_)
  refine rv rfl rfl (?_)
  refine rv rfl rfl (?_)
  (first | refine gy rfl rfl rfl (rv rfl rfl (?_)) | refine gn rfl rfl rfl rfl rfl ?_ | refine gu rfl rfl rfl rfl ?_ | refine gs rfl rfl rfl rfl rfl (fun hg => rv rfl rfl (?_)) (fun hg => ?_)) <;> (
  (first | refine gy rfl rfl rfl (rc1 rfl rfl rfl (mayG_c hl) (?_)) | refine gn rfl rfl rfl rfl rfl ?_ | refine gu rfl rfl rfl rfl ?_ | refine gs rfl rfl rfl rfl rfl (fun hg => rc1 rfl rfl rfl (mayG_c hl) (?_)) (fun hg => ?_)) <;> (
  (first | refine gy rfl rfl rfl (rv rfl rfl (?_)) | refine gn rfl rfl rfl rfl rfl ?_ | refine gu rfl rfl rfl rfl ?_ | refine gs rfl rfl rfl rfl rfl (fun hg => rv rfl rfl (?_)) (fun hg => ?_)) <;> (
  refine rv rfl rfl (?_)
  refine rn ?_
  refine then_normal ?_
  refine cs_ rfl (fun hc => ?_) (fun hc => ?_)
  · first
    | (cases hc; done)
    | (
      refine awp_seq ?_
      refine awp_region ?_
      refine rv rfl rfl (?_)
      refine rv rfl rfl (?_)
      refine rn ?_
      refine then_normal ?_
      refine awp_ret ?_
      repeat (first | refine then_ret ?_ | refine inBlock_ret ?_)
      refine rr rfl rfl ?_
      first | rfl | exact (in_bx_no (by assumption) (by assumption)).elim | exact (beq_no (by assumption)).elim | exact (eq4_no (by assumption)).elim | exact eq4_yes | (simp; done) | (simp at hc; done) | (simp at hg; done) | trace_state)
  · first
    | (cases hc; done)
    | (
      refine awp_skip ?_
      refine then_normal ?_
      refine awp_seq ?_
      (have hm : mayG a b c d l = true := notf (by assumption)) <;> (
      refine awp_region ?_
      refine rv rfl rfl (?_)
      refine rc1 rfl rfl rfl (boxG_c hl hm) (?_)
      refine rv rfl rfl (?_)
      refine rv rfl rfl (?_)
      refine rv rfl rfl (?_)
      refine ra rfl rfl rfl (?_)
      refine rs rfl rfl rfl rfl rfl rfl rfl (?_)
      refine rv rfl rfl (?_)
      refine rn ?_
      refine then_normal ?_
      refine awp_seq ?_
      refine awp_region ?_
      refine rv rfl rfl (?_)
      refine rv rfl rfl (?_)
      refine rc1 rfl rfl rfl rIn_c (?_)
      refine rv rfl rfl (?_)
      refine rn ?_
      refine then_normal ?_
      refine awp_seq ?_
      refine awp_seq ?_
      refine awp_region ?_
      refine rv rfl rfl (?_)
      refine rv rfl rfl (?_)
      refine rv rfl rfl (?_)
      (first | refine gy rfl rfl rfl (rv rfl rfl (?_)) | refine gn rfl rfl rfl rfl rfl ?_ | refine gu rfl rfl rfl rfl ?_ | refine gs rfl rfl rfl rfl rfl (fun hg => rv rfl rfl (?_)) (fun hg => ?_)) <;> (
      (first | refine gy rfl rfl rfl (rv rfl rfl (?_)) | refine gn rfl rfl rfl rfl rfl ?_ | refine gu rfl rfl rfl rfl ?_ | refine gs rfl rfl rfl rfl rfl (fun hg => rv rfl rfl (?_)) (fun hg => ?_)) <;> (
      (first | refine gy rfl rfl rfl (rc1 rfl rfl rfl (inG_c hl) (?_)) | refine gn rfl rfl rfl rfl rfl ?_ | refine gu rfl rfl rfl rfl ?_ | refine gs rfl rfl rfl rfl rfl (fun hg => rc1 rfl rfl rfl (inG_c hl) (?_)) (fun hg => ?_)) <;> (
      (first | refine gy rfl rfl rfl (rv rfl rfl (?_)) | refine gn rfl rfl rfl rfl rfl ?_ | refine gu rfl rfl rfl rfl ?_ | refine gs rfl rfl rfl rfl rfl (fun hg => rv rfl rfl (?_)) (fun hg => ?_)) <;> (
      (first | refine gy rfl rfl rfl (rv rfl rfl (?_)) | refine gn rfl rfl rfl rfl rfl ?_ | refine gu rfl rfl rfl rfl ?_ | refine gs rfl rfl rfl rfl rfl (fun hg => rv rfl rfl (?_)) (fun hg => ?_)) <;> (
      (first | refine gy rfl rfl rfl (rv rfl rfl (?_)) | refine gn rfl rfl rfl rfl rfl ?_ | refine gu rfl rfl rfl rfl ?_ | refine gs rfl rfl rfl rfl rfl (fun hg => rv rfl rfl (?_)) (fun hg => ?_)) <;> (
      (first | refine gy rfl rfl rfl (rv rfl rfl (?_)) | refine gn rfl rfl rfl rfl rfl ?_ | refine gu rfl rfl rfl rfl ?_ | refine gs rfl rfl rfl rfl rfl (fun hg => rv rfl rfl (?_)) (fun hg => ?_)) <;> (
      refine rv rfl rfl (?_)
      refine rn ?_
      refine then_normal ?_
      refine cs_ rfl (fun hc => ?_) (fun hc => ?_)
      · first
        | (cases hc; done)
        | (
          refine awp_seq ?_
          refine awp_region ?_
          refine rv rfl rfl (?_)
          refine rn ?_
          refine then_normal ?_
          refine awp_ret ?_
          repeat (first | refine then_ret ?_ | refine inBlock_ret ?_)
          refine rr rfl rfl ?_
          first | rfl | exact (in_bx_no (by assumption) (by assumption)).elim | exact (beq_no (by assumption)).elim | exact (eq4_no (by assumption)).elim | exact eq4_yes | (simp; done) | (simp at hc; done) | (simp at hg; done) | trace_state)
      · first
        | (cases hc; done)
        | (
          refine awp_skip ?_
          refine then_normal ?_
          refine awp_seq ?_
          (rcases ho : okG a b c d l v with _ | _ <;> rcases l with _ | ⟨q, t⟩) <;> (
          refine awp_region ?_
          refine rv rfl rfl (?_)
          refine rv rfl rfl (?_)
          refine rc1 rfl rfl rfl (moveG_c hl hm ho) (?_)
          refine rv rfl rfl (?_)
          refine rv rfl rfl (?_)
          refine rv rfl rfl (?_)
          refine ra rfl rfl rfl (?_)
          refine rs rfl rfl rfl rfl rfl rfl rfl (?_)
          refine rv rfl rfl (?_)
          refine rn ?_
          refine then_normal ?_
          refine awp_seq ?_
          refine awp_region ?_
          refine rv rfl rfl (?_)
          refine rv rfl rfl (?_)
          refine rv rfl rfl (?_)
          refine rv rfl rfl (?_)
          refine rv rfl rfl (?_)
          refine rv rfl rfl (?_)
          refine rv rfl rfl (?_)
          refine rv rfl rfl (?_)
          refine rv rfl rfl (?_)
          refine rv rfl rfl (?_)
          refine rv rfl rfl (?_)
          refine ra rfl rfl rfl (?_)
          refine rs rfl rfl rfl rfl rfl rfl rfl (?_)
          refine rn ?_
          refine then_normal ?_
          refine awp_seq ?_
          refine awp_region ?_
          refine rv rfl rfl (?_)
          refine rc1 rfl rfl rfl rmayP_c (?_)
          refine rv rfl rfl (?_)
          refine rn ?_
          refine then_normal ?_
          refine awp_seq ?_
          refine awp_region ?_
          refine rv rfl rfl (?_)
          refine rc1 rfl rfl rfl rmayP_c (?_)
          refine rv rfl rfl (?_)
          refine rn ?_
          refine then_normal ?_
          refine awp_seq ?_
          refine awp_seq ?_
          refine awp_region ?_
          refine rv rfl rfl (?_)
          refine rv rfl rfl (?_)
          refine rv rfl rfl (?_)
          (first | refine gy rfl rfl rfl (rv rfl rfl (?_)) | refine gn rfl rfl rfl rfl rfl ?_ | refine gu rfl rfl rfl rfl ?_ | refine gs rfl rfl rfl rfl rfl (fun hg => rv rfl rfl (?_)) (fun hg => ?_)) <;> (
          (first | refine gy rfl rfl rfl (rv rfl rfl (?_)) | refine gn rfl rfl rfl rfl rfl ?_ | refine gu rfl rfl rfl rfl ?_ | refine gs rfl rfl rfl rfl rfl (fun hg => rv rfl rfl (?_)) (fun hg => ?_)) <;> (
          refine rv rfl rfl (?_)
          refine rv rfl rfl (?_)
          (first | refine gy rfl rfl rfl (rv rfl rfl (?_)) | refine gn rfl rfl rfl rfl rfl ?_ | refine gu rfl rfl rfl rfl ?_ | refine gs rfl rfl rfl rfl rfl (fun hg => rv rfl rfl (?_)) (fun hg => ?_)) <;> (
          (first | refine gy rfl rfl rfl (rv rfl rfl (?_)) | refine gn rfl rfl rfl rfl rfl ?_ | refine gu rfl rfl rfl rfl ?_ | refine gs rfl rfl rfl rfl rfl (fun hg => rv rfl rfl (?_)) (fun hg => ?_)) <;> (
          refine rv rfl rfl (?_)
          refine rn ?_
          refine then_normal ?_
          refine cs_ rfl (fun hc => ?_) (fun hc => ?_)
          · first
            | (cases hc; done)
            | (
              refine awp_seq ?_
              refine awp_region ?_
              refine rv rfl rfl (?_)
              refine rv rfl rfl (?_)
              refine rn ?_
              refine then_normal ?_
              refine awp_ret ?_
              repeat (first | refine then_ret ?_ | refine inBlock_ret ?_)
              refine rr rfl rfl ?_
              first | rfl | exact (in_bx_no (by assumption) (by assumption)).elim | exact (beq_no (by assumption)).elim | exact (eq4_no (by assumption)).elim | exact eq4_yes | (simp; done) | (simp at hc; done) | (simp at hg; done) | trace_state)
          · first
            | (cases hc; done)
            | (
              refine awp_skip ?_
              refine then_normal ?_
              refine awp_seq ?_
              refine awp_region ?_
              refine rv rfl rfl (?_)
              refine rc1 rfl rfl rfl (by first | exact boxN hm ho | exact boxM hl hm ho) (?_)
              refine rv rfl rfl (?_)
              refine rv rfl rfl (?_)
              refine rv rfl rfl (?_)
              refine ra rfl rfl rfl (?_)
              refine rs rfl rfl rfl rfl rfl rfl rfl (?_)
              refine rv rfl rfl (?_)
              refine rn ?_
              refine then_normal ?_
              refine awp_seq ?_
              refine awp_dp (m := 39) Try.mix (by kernel_rfl) (by kernel_rfl) (by kernel_rfl) (by kernel_rfl) (by kernel_rfl) (by kernel_rfl) (by kernel_rfl) ?_
              refine dv rfl rfl (fun _ => rfl) ?_
              refine dv rfl rfl (fun _ => rfl) ?_
              (first | refine dv rfl rfl (fun _ => rfl) ?_ | refine dno rfl rfl ?_ | (refine ds rfl rfl (fun hg => ?_) (fun hg => ?_) <;> first | refine dv rfl rfl (fun _ => rfl) ?_ | refine dno rfl rfl ?_)) <;> (
              (first | refine dv rfl rfl (fun _ => rfl) ?_ | refine dno rfl rfl ?_ | (refine ds rfl rfl (fun hg => ?_) (fun hg => ?_) <;> first | refine dv rfl rfl (fun _ => rfl) ?_ | refine dno rfl rfl ?_)) <;> (
              refine dv rfl rfl (fun _ => rfl) ?_
              refine dv rfl rfl (fun _ => rfl) ?_
              (first | refine dv rfl rfl (fun _ => rfl) ?_ | refine dno rfl rfl ?_ | (refine ds rfl rfl (fun hg => ?_) (fun hg => ?_) <;> first | refine dv rfl rfl (fun _ => rfl) ?_ | refine dno rfl rfl ?_)) <;> (
              (first | refine dv rfl rfl (fun _ => rfl) ?_ | refine dno rfl rfl ?_ | (refine ds rfl rfl (fun hg => ?_) (fun hg => ?_) <;> first | refine dv rfl rfl (fun _ => rfl) ?_ | refine dno rfl rfl ?_)) <;> (
              (first | refine dc rfl rfl rfl rfl (fun _ => rfl) (fun _ => (by first | exact inG_cb (by decide) (inG_m0 hm ho (notf (by assumption)) (notf (by assumption))) | exact inG_cb (by rw [List.length_map]; exact hl) (inG_m1 hm ho (notf (by assumption)) (notf (by assumption))))) ?_ | refine dno rfl rfl ?_ | (refine ds rfl rfl (fun hg => ?_) (fun hg => ?_) <;> first | refine dc rfl rfl rfl rfl (fun _ => rfl) (fun _ => (by first | exact inG_cb (by decide) (inG_m0 hm ho (notf (by assumption)) (notf (by assumption))) | exact inG_cb (by rw [List.length_map]; exact hl) (inG_m1 hm ho (notf (by assumption)) (notf (by assumption))))) ?_ | refine dno rfl rfl ?_)) <;> (
              (first | refine dv rfl rfl (fun _ => rfl) ?_ | refine dno rfl rfl ?_ | (refine ds rfl rfl (fun hg => ?_) (fun hg => ?_) <;> first | refine dv rfl rfl (fun _ => rfl) ?_ | refine dno rfl rfl ?_)) <;> (
              (first | refine dv rfl rfl (fun _ => rfl) ?_ | refine dno rfl rfl ?_ | (refine ds rfl rfl (fun hg => ?_) (fun hg => ?_) <;> first | refine dv rfl rfl (fun _ => rfl) ?_ | refine dno rfl rfl ?_)) <;> (
              (first | refine dc rfl rfl rfl rfl (fun _ => rfl) (fun _ => (inG_c hl)) ?_ | refine dno rfl rfl ?_ | (refine ds rfl rfl (fun hg => ?_) (fun hg => ?_) <;> first | refine dc rfl rfl rfl rfl (fun _ => rfl) (fun _ => (inG_c hl)) ?_ | refine dno rfl rfl ?_)) <;> (
              (first | refine dv rfl rfl (fun _ => rfl) ?_ | refine dno rfl rfl ?_ | (refine ds rfl rfl (fun hg => ?_) (fun hg => ?_) <;> first | refine dv rfl rfl (fun _ => rfl) ?_ | refine dno rfl rfl ?_)) <;> (
              refine dv rfl rfl (fun _ => rfl) ?_
              refine dv rfl rfl (fun _ => rfl) ?_
              (first | refine dv rfl rfl (fun _ => rfl) ?_ | refine dno rfl rfl ?_ | (refine ds rfl rfl (fun hg => ?_) (fun hg => ?_) <;> first | refine dv rfl rfl (fun _ => rfl) ?_ | refine dno rfl rfl ?_)) <;> (
              (first | refine dv rfl rfl (fun _ => rfl) ?_ | refine dno rfl rfl ?_ | (refine ds rfl rfl (fun hg => ?_) (fun hg => ?_) <;> first | refine dv rfl rfl (fun _ => rfl) ?_ | refine dno rfl rfl ?_)) <;> (
              (first | refine dv rfl rfl (fun _ => rfl) ?_ | refine dno rfl rfl ?_ | (refine ds rfl rfl (fun hg => ?_) (fun hg => ?_) <;> first | refine dv rfl rfl (fun _ => rfl) ?_ | refine dno rfl rfl ?_)) <;> (
              (first | refine dv rfl rfl (fun _ => rfl) ?_ | refine dno rfl rfl ?_ | (refine ds rfl rfl (fun hg => ?_) (fun hg => ?_) <;> first | refine dv rfl rfl (fun _ => rfl) ?_ | refine dno rfl rfl ?_)) <;> (
              (first | refine dv rfl rfl (fun _ => rfl) ?_ | refine dno rfl rfl ?_ | (refine ds rfl rfl (fun hg => ?_) (fun hg => ?_) <;> first | refine dv rfl rfl (fun _ => rfl) ?_ | refine dno rfl rfl ?_)) <;> (
              (first | refine dv rfl rfl (fun _ => rfl) ?_ | refine dno rfl rfl ?_ | (refine ds rfl rfl (fun hg => ?_) (fun hg => ?_) <;> first | refine dv rfl rfl (fun _ => rfl) ?_ | refine dno rfl rfl ?_)) <;> (
              (first | refine dv rfl rfl (fun _ => rfl) ?_ | refine dno rfl rfl ?_ | (refine ds rfl rfl (fun hg => ?_) (fun hg => ?_) <;> first | refine dv rfl rfl (fun _ => rfl) ?_ | refine dno rfl rfl ?_)) <;> (
              (first | refine dv rfl rfl (fun _ => rfl) ?_ | refine dno rfl rfl ?_ | (refine ds rfl rfl (fun hg => ?_) (fun hg => ?_) <;> first | refine dv rfl rfl (fun _ => rfl) ?_ | refine dno rfl rfl ?_)) <;> (
              (first | refine dv rfl rfl (fun _ => rfl) ?_ | refine dno rfl rfl ?_ | (refine ds rfl rfl (fun hg => ?_) (fun hg => ?_) <;> first | refine dv rfl rfl (fun _ => rfl) ?_ | refine dno rfl rfl ?_)) <;> (
              (first | refine dv rfl rfl (fun _ => rfl) ?_ | refine dno rfl rfl ?_ | (refine ds rfl rfl (fun hg => ?_) (fun hg => ?_) <;> first | refine dv rfl rfl (fun _ => rfl) ?_ | refine dno rfl rfl ?_)) <;> (
              (first | refine dv rfl rfl (fun _ => rfl) ?_ | refine dno rfl rfl ?_ | (refine ds rfl rfl (fun hg => ?_) (fun hg => ?_) <;> first | refine dv rfl rfl (fun _ => rfl) ?_ | refine dno rfl rfl ?_)) <;> (
              (first | refine dv rfl rfl (fun _ => rfl) ?_ | refine dno rfl rfl ?_ | (refine ds rfl rfl (fun hg => ?_) (fun hg => ?_) <;> first | refine dv rfl rfl (fun _ => rfl) ?_ | refine dno rfl rfl ?_)) <;> (
              (first | refine dv rfl rfl (fun _ => rfl) ?_ | refine dno rfl rfl ?_ | (refine ds rfl rfl (fun hg => ?_) (fun hg => ?_) <;> first | refine dv rfl rfl (fun _ => rfl) ?_ | refine dno rfl rfl ?_)) <;> (
              (first | refine dv rfl rfl (fun _ => rfl) ?_ | refine dno rfl rfl ?_ | (refine ds rfl rfl (fun hg => ?_) (fun hg => ?_) <;> first | refine dv rfl rfl (fun _ => rfl) ?_ | refine dno rfl rfl ?_)) <;> (
              (first | refine dv rfl rfl (fun _ => rfl) ?_ | refine dno rfl rfl ?_ | (refine ds rfl rfl (fun hg => ?_) (fun hg => ?_) <;> first | refine dv rfl rfl (fun _ => rfl) ?_ | refine dno rfl rfl ?_)) <;> (
              (first | refine dv rfl rfl (fun _ => rfl) ?_ | refine dno rfl rfl ?_ | (refine ds rfl rfl (fun hg => ?_) (fun hg => ?_) <;> first | refine dv rfl rfl (fun _ => rfl) ?_ | refine dno rfl rfl ?_)) <;> (
              (first | refine dv rfl rfl (fun _ => rfl) ?_ | refine dno rfl rfl ?_ | (refine ds rfl rfl (fun hg => ?_) (fun hg => ?_) <;> first | refine dv rfl rfl (fun _ => rfl) ?_ | refine dno rfl rfl ?_)) <;> (
              (first | refine dv rfl rfl (fun _ => rfl) ?_ | refine dno rfl rfl ?_ | (refine ds rfl rfl (fun hg => ?_) (fun hg => ?_) <;> first | refine dv rfl rfl (fun _ => rfl) ?_ | refine dno rfl rfl ?_)) <;> (
              (first | refine dv rfl rfl (fun _ => rfl) ?_ | refine dno rfl rfl ?_ | (refine ds rfl rfl (fun hg => ?_) (fun hg => ?_) <;> first | refine dv rfl rfl (fun _ => rfl) ?_ | refine dno rfl rfl ?_)) <;> (
              (first | refine dv rfl rfl (fun _ => rfl) ?_ | refine dno rfl rfl ?_ | (refine ds rfl rfl (fun hg => ?_) (fun hg => ?_) <;> first | refine dv rfl rfl (fun _ => rfl) ?_ | refine dno rfl rfl ?_)) <;> (
              (first | refine dv rfl rfl (fun _ => rfl) ?_ | refine dno rfl rfl ?_ | (refine ds rfl rfl (fun hg => ?_) (fun hg => ?_) <;> first | refine dv rfl rfl (fun _ => rfl) ?_ | refine dno rfl rfl ?_)) <;> (
              (first | refine dv rfl rfl (fun _ => rfl) ?_ | refine dno rfl rfl ?_ | (refine ds rfl rfl (fun hg => ?_) (fun hg => ?_) <;> first | refine dv rfl rfl (fun _ => rfl) ?_ | refine dno rfl rfl ?_)) <;> (
              (first | refine dv rfl rfl (fun _ => rfl) ?_ | refine dno rfl rfl ?_ | (refine ds rfl rfl (fun hg => ?_) (fun hg => ?_) <;> first | refine dv rfl rfl (fun _ => rfl) ?_ | refine dno rfl rfl ?_)) <;> (
              refine dv rfl rfl (fun _ => rfl) ?_
              refine dn ?_
              refine rv rfl rfl (?_)
              refine rn ?_
              refine then_normal ?_
              refine awp_ret ?_
              repeat (first | refine then_ret ?_ | refine inBlock_ret ?_)
              refine rr rfl rfl ?_
              first | rfl | exact (in_bx_no (by assumption) (by assumption)).elim | exact (beq_no (by assumption)).elim | exact (eq4_no (by assumption)).elim | exact eq4_yes | (simp; done) | (simp at hc; done) | (simp at hg; done) | trace_state)))))))))))))))))))))))))))))))))))))))))))))))))))
end

theorem RegionTells_c {a b c d a' b' c' d' : Int} {l m : List Pt} {x y : Int} (hl : l.length ≤ maxLen) : PCall Try.prog 6 [.agg [.int .i64 a, .int .i64 b, .int .i64 c, .int .i64 d, .sl (rows l)], .agg [.int .i64 a', .int .i64 b', .int .i64 c', .int .i64 d', .sl (rows m)], .agg [.int .i64 x, .int .i64 y]] (· = .bool true) := RegionTells_p (p := (x, y)) hl
theorem RegionKeeps_c {a b c d : Int} {l : List Pt} {x y x' y' : Int} (hl : l.length ≤ maxLen) : PCall Try.prog 8 [.agg [.int .i64 a, .int .i64 b, .int .i64 c, .int .i64 d, .sl (rows l)], .agg [.int .i64 x, .int .i64 y], .agg [.int .i64 x', .int .i64 y']] (· = .bool true) := RegionKeeps_p (p := (x, y)) (v := (x', y')) hl

end Go.Proofs.Ytngeejjllgnpcaa
