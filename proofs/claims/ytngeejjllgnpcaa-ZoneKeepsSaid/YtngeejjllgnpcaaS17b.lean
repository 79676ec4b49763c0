/- Contracts, printed by a program of this session's. -/
import Derived.Test.YtngeejjllgnpcaaS17
namespace Go.Proofs.Ytngeejjllgnpcaa
open Go.Pv
set_option maxRecDepth 100000
set_option maxHeartbeats 4000000
set_option linter.unusedSimpArgs false
set_option linter.unusedVariables false
set_option linter.unusedSectionVars false

theorem uz_m : mayG 1 1 2 2 [] = true := by decide +kernel
theorem uz_p : mayR 0 0 9 9 = true := by decide +kernel
theorem uz_q : holdsR 0 0 9 9 (bxG 1 1 2 2 []).1 (bxG 1 1 2 2 []).2.1 (bxG 1 1 2 2 []).2.2.1 (bxG 1 1 2 2 []).2.2.2 = true := by decide +kernel
theorem uz_p0 : mayR 0 0 0 0 = true := by decide +kernel
theorem uz_q0 : holdsR 0 0 0 0 (bxG 1 1 2 2 []).1 (bxG 1 1 2 2 []).2.1 (bxG 1 1 2 2 []).2.2.1 (bxG 1 1 2 2 []).2.2.2 = false := by decide +kernel
theorem uz_1 : PCall Try.prog 38 [.agg [.int .i64 1, .int .i64 1, .int .i64 2, .int .i64 2, .sl []], .agg [.int .i64 0, .int .i64 0, .int .i64 9, .int .i64 9]] (· = boxO true (-1, -1, 7, 7)) := by
  have := zof_c (l := []) (by decide) uz_m uz_p uz_q
  have e : zoR 0 0 9 9 (bxG 1 1 2 2 []) = (-1, -1, 7, 7) := by decide +kernel
  rw [e] at this; exact this
theorem uz_2 : PCall Try.prog 38 [.agg [.int .i64 1, .int .i64 1, .int .i64 2, .int .i64 2, .sl []], .agg [.int .i64 0, .int .i64 0, .int .i64 0, .int .i64 0]] (· = boxO false (0, 0, 0, 0)) := by
  have := zof_c (l := []) (by decide) uz_m uz_p0 uz_q0
  exact this
theorem uz_3 : PCall Try.prog 40 [.agg [.int .i64 1, .int .i64 1, .int .i64 2, .int .i64 2, .sl []], .agg [.int .i64 0, .int .i64 0, .int .i64 9, .int .i64 9], .agg [.int .i64 0, .int .i64 0]] (· = .bool true) := by
  have := safe_c (l := []) (v := (0, 0)) (by decide) uz_m uz_p uz_q
  have e : safeB (true && (true && true)) (zoR 0 0 9 9 (bxG 1 1 2 2 [])) (0, 0) = true := by decide +kernel
  rw [e] at this; exact this

section
attribute [local irreducible] awp aops DP PCall ACall Decidable.decide
/-- `plover/ploverlaw17.up` -/
theorem up17_c : PCall Try.prog 37 [] (· = .bool (true)) := by
  refine pcall_body Try.func37 rfl (by kernel_rfl) (by rfl) ?_
  refine awp_seq ?_
  refine awp_region ?_
  refine rv rfl rfl (?_)
  refine rn ?_
  refine then_normal ?_
  refine awp_seq ?_
  refine awp_region ?_
  refine rv rfl rfl (?_)
  refine rv rfl rfl (?_)
  refine ra rfl rfl rfl (?_)
  refine rs rfl rfl rfl rfl rfl rfl rfl (?_)
  refine rn ?_
  refine then_normal ?_
  refine awp_seq ?_
  refine awp_region ?_
  refine rv rfl rfl (?_)
  refine rv rfl rfl (?_)
  refine rc1 rfl rfl rfl uz_1 (?_)
  refine rv rfl rfl (?_)
  refine rv rfl rfl (?_)
  refine rv rfl rfl (?_)
  refine ra rfl rfl rfl (?_)
  refine rs rfl rfl rfl rfl rfl rfl rfl (?_)
  refine rv rfl rfl (?_)
  refine rn ?_
  refine then_normal ?_
  refine awp_seq ?_
  refine awp_region ?_
  refine rv rfl rfl (?_)
  refine rv rfl rfl (?_)
  refine rc1 rfl rfl rfl uz_2 (?_)
  refine rv rfl rfl (?_)
  refine rv rfl rfl (?_)
  refine rv rfl rfl (?_)
  refine ra rfl rfl rfl (?_)
  refine rs rfl rfl rfl rfl rfl rfl rfl (?_)
  refine rv rfl rfl (?_)
  refine rn ?_
  refine then_normal ?_
  refine awp_seq ?_
  refine awp_region ?_
  refine rv rfl rfl (?_)
  refine rv rfl rfl (?_)
  refine rv rfl rfl (?_)
  (first | refine gy rfl rfl rfl (rv rfl rfl (?_)) | refine gn rfl rfl rfl rfl rfl ?_ | refine gu rfl rfl rfl rfl ?_ | refine gs rfl rfl rfl rfl rfl (fun hg => rv rfl rfl (?_)) (fun hg => ?_)) <;> (
  (first | refine gy rfl rfl rfl (rv rfl rfl (?_)) | refine gn rfl rfl rfl rfl rfl ?_ | refine gu rfl rfl rfl rfl ?_ | refine gs rfl rfl rfl rfl rfl (fun hg => rv rfl rfl (?_)) (fun hg => ?_)) <;> (
  (first | refine gy rfl rfl rfl (rv rfl rfl (?_)) | refine gn rfl rfl rfl rfl rfl ?_ | refine gu rfl rfl rfl rfl ?_ | refine gs rfl rfl rfl rfl rfl (fun hg => rv rfl rfl (?_)) (fun hg => ?_)) <;> (
  refine rv rfl rfl (?_)
  refine rv rfl rfl (?_)
  (first | refine gy rfl rfl rfl (rv rfl rfl (?_)) | refine gn rfl rfl rfl rfl rfl ?_ | refine gu rfl rfl rfl rfl ?_ | refine gs rfl rfl rfl rfl rfl (fun hg => rv rfl rfl (?_)) (fun hg => ?_)) <;> (
  (first | refine gy rfl rfl rfl (rv rfl rfl (?_)) | refine gn rfl rfl rfl rfl rfl ?_ | refine gu rfl rfl rfl rfl ?_ | refine gs rfl rfl rfl rfl rfl (fun hg => rv rfl rfl (?_)) (fun hg => ?_)) <;> (
  (first | refine gy rfl rfl rfl (rv rfl rfl (?_)) | refine gn rfl rfl rfl rfl rfl ?_ | refine gu rfl rfl rfl rfl ?_ | refine gs rfl rfl rfl rfl rfl (fun hg => rv rfl rfl (?_)) (fun hg => ?_)) <;> (
  refine rv rfl rfl (?_)
  refine rv rfl rfl (?_)
  (first | refine gy rfl rfl rfl (rv rfl rfl (?_)) | refine gn rfl rfl rfl rfl rfl ?_ | refine gu rfl rfl rfl rfl ?_ | refine gs rfl rfl rfl rfl rfl (fun hg => rv rfl rfl (?_)) (fun hg => ?_)) <;> (
  (first | refine gy rfl rfl rfl (rv rfl rfl (?_)) | refine gn rfl rfl rfl rfl rfl ?_ | refine gu rfl rfl rfl rfl ?_ | refine gs rfl rfl rfl rfl rfl (fun hg => rv rfl rfl (?_)) (fun hg => ?_)) <;> (
  (first | refine gy rfl rfl rfl (rv rfl rfl (?_)) | refine gn rfl rfl rfl rfl rfl ?_ | refine gu rfl rfl rfl rfl ?_ | refine gs rfl rfl rfl rfl rfl (fun hg => rv rfl rfl (?_)) (fun hg => ?_)) <;> (
  (first | refine gy rfl rfl rfl (rc1 rfl rfl rfl uz_3 (?_)) | refine gn rfl rfl rfl rfl rfl ?_ | refine gu rfl rfl rfl rfl ?_ | refine gs rfl rfl rfl rfl rfl (fun hg => rc1 rfl rfl rfl uz_3 (?_)) (fun hg => ?_)) <;> (
  refine rv rfl rfl (?_)
  refine rv rfl rfl (?_)
  refine rn ?_
  refine then_normal ?_
  refine awp_ret ?_
  repeat (first | refine then_ret ?_ | refine inBlock_ret ?_)
  refine rr rfl rfl ?_
  first | rfl | (simp at hg; done) | trace_state))))))))))
end

section
attribute [local irreducible] awp aops DP PCall ACall Decidable.decide Nat.mod simpB mayP mayR mayG inE inR box addB holdsR inG mayS cel lowV highV cfarS inS okG
/-- `plover/ploverlaw17.ZoneTells` -/
theorem ZoneTells_p {s a b c d A B C D : Int} {l : List Pt} {v : Pt} (hl : l.length ≤ maxLen) : PCall Try.prog 7 [.int .i64 s, .agg [.int .i64 (a), .int .i64 (b), .int .i64 (c), .int .i64 (d), .sl (rows l)], .agg [.int .i64 A, .int .i64 B, .int .i64 C, .int .i64 D], .agg [.int .i64 (v).1, .int .i64 (v).2]] (· = .bool (true)) := by
  refine pcall_body Try.func7 rfl (by kernel_rfl) (by rfl) ?_
  refine awp_seq ?_
  refine awp_region ?_
  refine rb rfl rfl (?_)
  refine rb rfl rfl (?_)
  refine rb rfl rfl (?_)
  refine rv rfl rfl (?_)
  refine rn ?_
  refine then_normal ?_
  refine awp_seq ?_
  refine awp_region ?_
  refine rc1 rfl rfl rfl up17_c (?_)
  refine rv rfl rfl (?_)
  refine rn ?_
  refine then_normal ?_
  refine awp_seq ?_
  refine awp_region ?_
  refine rv rfl rfl (?_)
  refine rc1 rfl rfl rfl few_c (?_)
  refine rv rfl rfl (?_)
  refine rn ?_
  refine then_normal ?_
  refine awp_seq ?_
  refine awp_seq ?_
  refine awp_region ?_
  refine rv rfl rfl (?_)
  refine rv rfl rfl (?_)
  refine rn ?_
  refine then_normal ?_
  refine cs_ rfl (fun hc => ?_) (fun hc => ?_)
  · first
    | (cases hc; done)
    | (
      refine awp_seq ?_
      refine awp_region ?_
      refine rv rfl rfl (?_)
      refine rv rfl rfl (?_)
      refine rn ?_
      refine then_normal ?_
      refine awp_ret ?_
      repeat (first | refine then_ret ?_ | refine inBlock_ret ?_)
      refine rr rfl rfl ?_
      first | rfl | exact (bne_no (by assumption)).elim | exact (beq_no (by assumption)).elim | exact (eq4_no (by assumption)).elim | exact eq4_yes | (simp; done) | (simp at hc; done) | (simp at hg; done) | trace_state)
  · first
    | (cases hc; done)
    | (
      refine awp_skip ?_
      refine then_normal ?_
      refine awp_seq ?_
      (rcases hm : mayG a b c d l with _ | _ <;> rcases hp : mayR A B C D with _ | _ <;> rcases hq : holdsR A B C D (bxG a b c d l).1 (bxG a b c d l).2.1 (bxG a b c d l).2.2.1 (bxG a b c d l).2.2.2 with _ | _) <;> (
      refine awp_region ?_
      refine rv rfl rfl (?_)
      refine rv rfl rfl (?_)
      refine rc1 rfl rfl rfl (zof_c hl hm hp hq) (?_)
      refine rv rfl rfl (?_)
      refine rv rfl rfl (?_)
      refine rv rfl rfl (?_)
      refine ra rfl rfl rfl (?_)
      refine rs rfl rfl rfl rfl rfl rfl rfl (?_)
      refine rv rfl rfl (?_)
      refine rn ?_
      refine then_normal ?_
      refine awp_seq ?_
      refine awp_region ?_
      refine rv rfl rfl (?_)
      refine rv rfl rfl (?_)
      refine rc1 rfl rfl rfl (rzone_c hl hm hp hq) (?_)
      refine rv rfl rfl (?_)
      refine rv rfl rfl (?_)
      refine rv rfl rfl (?_)
      refine ra rfl rfl rfl (?_)
      refine rs rfl rfl rfl rfl rfl rfl rfl (?_)
      refine rv rfl rfl (?_)
      refine rn ?_
      refine then_normal ?_
      refine awp_seq ?_
      refine awp_seq ?_
      refine awp_dp (m := 29) Try.mix (by kernel_rfl) (by kernel_rfl) (by kernel_rfl) (by kernel_rfl) (by kernel_rfl) (by kernel_rfl) (by kernel_rfl) ?_
      refine dv rfl rfl (fun _ => rfl) ?_
      refine dv rfl rfl (fun _ => rfl) ?_
      refine dv rfl rfl (fun _ => rfl) ?_
      refine dv rfl rfl (fun _ => rfl) ?_
      refine dv rfl rfl (fun _ => rfl) ?_
      (first | refine dv rfl rfl (fun _ => rfl) ?_ | refine dno rfl rfl ?_ | (refine ds rfl rfl (fun hg => ?_) (fun hg => ?_) <;> first | refine dv rfl rfl (fun _ => rfl) ?_ | refine dno rfl rfl ?_)) <;> (
      (first | refine dv rfl rfl (fun _ => rfl) ?_ | refine dno rfl rfl ?_ | (refine ds rfl rfl (fun hg => ?_) (fun hg => ?_) <;> first | refine dv rfl rfl (fun _ => rfl) ?_ | refine dno rfl rfl ?_)) <;> (
      (first | refine dv rfl rfl (fun _ => rfl) ?_ | refine dno rfl rfl ?_ | (refine ds rfl rfl (fun hg => ?_) (fun hg => ?_) <;> first | refine dv rfl rfl (fun _ => rfl) ?_ | refine dno rfl rfl ?_)) <;> (
      (first | refine dv rfl rfl (fun _ => rfl) ?_ | refine dno rfl rfl ?_ | (refine ds rfl rfl (fun hg => ?_) (fun hg => ?_) <;> first | refine dv rfl rfl (fun _ => rfl) ?_ | refine dno rfl rfl ?_)) <;> (
      (first | refine dv rfl rfl (fun _ => rfl) ?_ | refine dno rfl rfl ?_ | (refine ds rfl rfl (fun hg => ?_) (fun hg => ?_) <;> first | refine dv rfl rfl (fun _ => rfl) ?_ | refine dno rfl rfl ?_)) <;> (
      (first | refine dv rfl rfl (fun _ => rfl) ?_ | refine dno rfl rfl ?_ | (refine ds rfl rfl (fun hg => ?_) (fun hg => ?_) <;> first | refine dv rfl rfl (fun _ => rfl) ?_ | refine dno rfl rfl ?_)) <;> (
      (first | refine dv rfl rfl (fun _ => rfl) ?_ | refine dno rfl rfl ?_ | (refine ds rfl rfl (fun hg => ?_) (fun hg => ?_) <;> first | refine dv rfl rfl (fun _ => rfl) ?_ | refine dno rfl rfl ?_)) <;> (
      refine dv rfl rfl (fun _ => rfl) ?_
      refine dv rfl rfl (fun _ => rfl) ?_
      (first | refine dv rfl rfl (fun _ => rfl) ?_ | refine dno rfl rfl ?_ | (refine ds rfl rfl (fun hg => ?_) (fun hg => ?_) <;> first | refine dv rfl rfl (fun _ => rfl) ?_ | refine dno rfl rfl ?_)) <;> (
      (first | refine dv rfl rfl (fun _ => rfl) ?_ | refine dno rfl rfl ?_ | (refine ds rfl rfl (fun hg => ?_) (fun hg => ?_) <;> first | refine dv rfl rfl (fun _ => rfl) ?_ | refine dno rfl rfl ?_)) <;> (
      (first | refine dv rfl rfl (fun _ => rfl) ?_ | refine dno rfl rfl ?_ | (refine ds rfl rfl (fun hg => ?_) (fun hg => ?_) <;> first | refine dv rfl rfl (fun _ => rfl) ?_ | refine dno rfl rfl ?_)) <;> (
      refine dv rfl rfl (fun _ => rfl) ?_
      refine dv rfl rfl (fun _ => rfl) ?_
      (first | refine dv rfl rfl (fun _ => rfl) ?_ | refine dno rfl rfl ?_ | (refine ds rfl rfl (fun hg => ?_) (fun hg => ?_) <;> first | refine dv rfl rfl (fun _ => rfl) ?_ | refine dno rfl rfl ?_)) <;> (
      (first | refine dv rfl rfl (fun _ => rfl) ?_ | refine dno rfl rfl ?_ | (refine ds rfl rfl (fun hg => ?_) (fun hg => ?_) <;> first | refine dv rfl rfl (fun _ => rfl) ?_ | refine dno rfl rfl ?_)) <;> (
      (first | refine dv rfl rfl (fun _ => rfl) ?_ | refine dno rfl rfl ?_ | (refine ds rfl rfl (fun hg => ?_) (fun hg => ?_) <;> first | refine dv rfl rfl (fun _ => rfl) ?_ | refine dno rfl rfl ?_)) <;> (
      (first | refine dc rfl rfl rfl rfl (fun _ => rfl) (fun _ => (safe_c hl hm hp hq)) ?_ | refine dno rfl rfl ?_ | (refine ds rfl rfl (fun hg => ?_) (fun hg => ?_) <;> first | refine dc rfl rfl rfl rfl (fun _ => rfl) (fun _ => (safe_c hl hm hp hq)) ?_ | refine dno rfl rfl ?_)) <;> (
      (first | refine dv rfl rfl (fun _ => rfl) ?_ | refine dno rfl rfl ?_ | (refine ds rfl rfl (fun hg => ?_) (fun hg => ?_) <;> first | refine dv rfl rfl (fun _ => rfl) ?_ | refine dno rfl rfl ?_)) <;> (
      (first | refine dv rfl rfl (fun _ => rfl) ?_ | refine dno rfl rfl ?_ | (refine ds rfl rfl (fun hg => ?_) (fun hg => ?_) <;> first | refine dv rfl rfl (fun _ => rfl) ?_ | refine dno rfl rfl ?_)) <;> (
      (first | refine dv rfl rfl (fun _ => rfl) ?_ | refine dno rfl rfl ?_ | (refine ds rfl rfl (fun hg => ?_) (fun hg => ?_) <;> first | refine dv rfl rfl (fun _ => rfl) ?_ | refine dno rfl rfl ?_)) <;> (
      (first | refine dc rfl rfl rfl rfl (fun _ => rfl) (fun _ => (rsafe_c hl hm hp hq)) ?_ | refine dno rfl rfl ?_ | (refine ds rfl rfl (fun hg => ?_) (fun hg => ?_) <;> first | refine dc rfl rfl rfl rfl (fun _ => rfl) (fun _ => (rsafe_c hl hm hp hq)) ?_ | refine dno rfl rfl ?_)) <;> (
      (first | refine dv rfl rfl (fun _ => rfl) ?_ | refine dno rfl rfl ?_ | (refine ds rfl rfl (fun hg => ?_) (fun hg => ?_) <;> first | refine dv rfl rfl (fun _ => rfl) ?_ | refine dno rfl rfl ?_)) <;> (
      refine dv rfl rfl (fun _ => rfl) ?_
      refine dn ?_
      refine rn ?_
      refine then_normal ?_
      refine cs_ rfl (fun hc => ?_) (fun hc => ?_)
      · first
        | (cases hc; done)
        | (
          refine awp_seq ?_
          refine awp_region ?_
          refine rv rfl rfl (?_)
          refine rn ?_
          refine then_normal ?_
          refine awp_ret ?_
          repeat (first | refine then_ret ?_ | refine inBlock_ret ?_)
          refine rr rfl rfl ?_
          first | rfl | exact (bne_no (by assumption)).elim | exact (beq_no (by assumption)).elim | exact (eq4_no (by assumption)).elim | exact eq4_yes | (simp; done) | (simp at hc; done) | (simp at hg; done) | trace_state)
      · first
        | (cases hc; done)
        | (
          refine awp_skip ?_
          refine then_normal ?_
          refine awp_seq ?_
          (rcases hs : mayS s with _ | _) <;> (
          refine awp_region ?_
          refine rv rfl rfl (?_)
          refine rv rfl rfl (?_)
          refine rc1 rfl rfl rfl (zcover_c hl hm hs) (?_)
          refine rv rfl rfl (?_)
          refine rv rfl rfl (?_)
          refine rv rfl rfl (?_)
          refine ra rfl rfl rfl (?_)
          refine rs rfl rfl rfl rfl rfl rfl rfl (?_)
          refine rv rfl rfl (?_)
          refine rn ?_
          refine then_normal ?_
          refine awp_seq ?_
          refine awp_region ?_
          refine rv rfl rfl (?_)
          refine rc1 rfl rfl rfl (rmayG_cb hl hm) (?_)
          refine rv rfl rfl (?_)
          refine rn ?_
          refine then_normal ?_
          refine awp_seq ?_
          refine awp_region ?_
          refine rv rfl rfl (?_)
          refine rc1 rfl rfl rfl (shift_cb hs) (?_)
          refine rv rfl rfl (?_)
          refine rn ?_
          refine then_normal ?_
          refine awp_seq ?_
          refine awp_seq ?_
          refine awp_region ?_
          refine rv rfl rfl (?_)
          refine rv rfl rfl (?_)
          refine rv rfl rfl (?_)
          (first | refine gy rfl rfl rfl (rv rfl rfl (?_)) | refine gn rfl rfl rfl rfl rfl ?_ | refine gu rfl rfl rfl rfl ?_ | refine gs rfl rfl rfl rfl rfl (fun hg => rv rfl rfl (?_)) (fun hg => ?_)) <;> (
          (first | refine gy rfl rfl rfl (rv rfl rfl (?_)) | refine gn rfl rfl rfl rfl rfl ?_ | refine gu rfl rfl rfl rfl ?_ | refine gs rfl rfl rfl rfl rfl (fun hg => rv rfl rfl (?_)) (fun hg => ?_)) <;> (
          refine rv rfl rfl (?_)
          refine rn ?_
          refine then_normal ?_
          refine cs_ rfl (fun hc => ?_) (fun hc => ?_)
          · first
            | (cases hc; done)
            | (
              refine awp_seq ?_
              refine awp_region ?_
              refine rv rfl rfl (?_)
              refine rv rfl rfl (?_)
              (first | refine gy rfl rfl rfl (rv rfl rfl (?_)) | refine gn rfl rfl rfl rfl rfl ?_ | refine gu rfl rfl rfl rfl ?_ | refine gs rfl rfl rfl rfl rfl (fun hg => rv rfl rfl (?_)) (fun hg => ?_)) <;> (
              (first | refine gy rfl rfl rfl (rv rfl rfl (?_)) | refine gn rfl rfl rfl rfl rfl ?_ | refine gu rfl rfl rfl rfl ?_ | refine gs rfl rfl rfl rfl rfl (fun hg => rv rfl rfl (?_)) (fun hg => ?_)) <;> (
              (first | refine gy rfl rfl rfl (rv rfl rfl (?_)) | refine gn rfl rfl rfl rfl rfl ?_ | refine gu rfl rfl rfl rfl ?_ | refine gs rfl rfl rfl rfl rfl (fun hg => rv rfl rfl (?_)) (fun hg => ?_)) <;> (
              refine rv rfl rfl (?_)
              refine rv rfl rfl (?_)
              (first | refine gy rfl rfl rfl (rv rfl rfl (?_)) | refine gn rfl rfl rfl rfl rfl ?_ | refine gu rfl rfl rfl rfl ?_ | refine gs rfl rfl rfl rfl rfl (fun hg => rv rfl rfl (?_)) (fun hg => ?_)) <;> (
              (first | refine gy rfl rfl rfl (rv rfl rfl (?_)) | refine gn rfl rfl rfl rfl rfl ?_ | refine gu rfl rfl rfl rfl ?_ | refine gs rfl rfl rfl rfl rfl (fun hg => rv rfl rfl (?_)) (fun hg => ?_)) <;> (
              (first | refine gy rfl rfl rfl (rv rfl rfl (?_)) | refine gn rfl rfl rfl rfl rfl ?_ | refine gu rfl rfl rfl rfl ?_ | refine gs rfl rfl rfl rfl rfl (fun hg => rv rfl rfl (?_)) (fun hg => ?_)) <;> (
              refine rv rfl rfl (?_)
              refine rv rfl rfl (?_)
              refine rn ?_
              refine then_normal ?_
              refine awp_ret ?_
              repeat (first | refine then_ret ?_ | refine inBlock_ret ?_)
              refine rr rfl rfl ?_
              first | rfl | exact (bne_no (by assumption)).elim | exact (beq_no (by assumption)).elim | exact (eq4_no (by assumption)).elim | exact eq4_yes | (simp; done) | (simp at hc; done) | (simp at hg; done) | trace_state)))))))
          · first
            | (cases hc; done)
            | (
              refine awp_skip ?_
              refine then_normal ?_
              refine awp_seq ?_
              (obtain ⟨k, rfl, hk⟩ := may_k hs) <;> (
              refine awp_dp (m := 12) Try.mix (by kernel_rfl) (by kernel_rfl) (by kernel_rfl) (by kernel_rfl) (by kernel_rfl) (by kernel_rfl) (by kernel_rfl) ?_
              refine dv rfl rfl (fun _ => rfl) ?_
              refine dv rfl rfl (fun _ => rfl) ?_
              (first | refine dv rfl rfl (fun _ => rfl) ?_ | refine dno rfl rfl ?_ | (refine ds rfl rfl (fun hg => ?_) (fun hg => ?_) <;> first | refine dv rfl rfl (fun _ => rfl) ?_ | refine dno rfl rfl ?_)) <;> (
              (first | refine dv rfl rfl (fun _ => rfl) ?_ | refine dno rfl rfl ?_ | (refine ds rfl rfl (fun hg => ?_) (fun hg => ?_) <;> first | refine dv rfl rfl (fun _ => rfl) ?_ | refine dno rfl rfl ?_)) <;> (
              refine dv rfl rfl (fun _ => rfl) ?_
              refine dv rfl rfl (fun _ => rfl) ?_
              (first | refine dv rfl rfl (fun _ => rfl) ?_ | refine dno rfl rfl ?_ | (refine ds rfl rfl (fun hg => ?_) (fun hg => ?_) <;> first | refine dv rfl rfl (fun _ => rfl) ?_ | refine dno rfl rfl ?_)) <;> (
              (first | refine dv rfl rfl (fun _ => rfl) ?_ | refine dno rfl rfl ?_ | (refine ds rfl rfl (fun hg => ?_) (fun hg => ?_) <;> first | refine dv rfl rfl (fun _ => rfl) ?_ | refine dno rfl rfl ?_)) <;> (
              (first | refine dv rfl rfl (fun _ => rfl) ?_ | refine dno rfl rfl ?_ | (refine ds rfl rfl (fun hg => ?_) (fun hg => ?_) <;> first | refine dv rfl rfl (fun _ => rfl) ?_ | refine dno rfl rfl ?_)) <;> (
              (first | refine dc rfl rfl rfl rfl (fun _ => rfl) (fun _ => (rzcover_c hl hm hk hs)) ?_ | refine dno rfl rfl ?_ | (refine ds rfl rfl (fun hg => ?_) (fun hg => ?_) <;> first | refine dc rfl rfl rfl rfl (fun _ => rfl) (fun _ => (rzcover_c hl hm hk hs)) ?_ | refine dno rfl rfl ?_)) <;> (
              (first | refine dv rfl rfl (fun _ => rfl) ?_ | refine dno rfl rfl ?_ | (refine ds rfl rfl (fun hg => ?_) (fun hg => ?_) <;> first | refine dv rfl rfl (fun _ => rfl) ?_ | refine dno rfl rfl ?_)) <;> (
              refine dv rfl rfl (fun _ => rfl) ?_
              refine dn ?_
              refine rv rfl rfl (?_)
              refine rn ?_
              refine then_normal ?_
              refine awp_ret ?_
              repeat (first | refine then_ret ?_ | refine inBlock_ret ?_)
              refine rr rfl rfl ?_
              first | rfl | exact (bne_no (by assumption)).elim | exact (beq_no (by assumption)).elim | exact (eq4_no (by assumption)).elim | exact eq4_yes | (simp; done) | (simp at hc; done) | (simp at hg; done) | trace_state))))))))))))))))))))))))))))))))))
end

theorem two8 {k : Nat} (h : 24 ≤ k ∧ k ≤ 31) : twoK k = 16777216 ∨ twoK k = 33554432 ∨ twoK k = 67108864 ∨ twoK k = 134217728 ∨ twoK k = 268435456 ∨ twoK k = 536870912 ∨ twoK k = 1073741824 ∨ twoK k = 2147483648 := by
  rcases k8 h with rfl | rfl | rfl | rfl | rfl | rfl | rfl | rfl <;> decide
theorem low_high {k : Nat} {x : Int} (h : 24 ≤ k ∧ k ≤ 31) (hx : Bd x) : lowV (k : Int) (cel (k : Int) x) = (x + 1073741824) / twoK k * twoK k - 1073741824 ∧ highV (k : Int) (cel (k : Int) x) = min ((x + 1073741824) / twoK k * twoK k + twoK k - 1073741825) 1073741824 := by
  have hb : Bd x := hx
  unfold Bd at hb
  have hf := (cel_in h hx).1
  have hlit := cel_lit h hx
  have hz : ∃ z, (x + 1073741824) / twoK k = z ∧ 0 ≤ z * twoK k ∧ z * twoK k ≤ 2147483648 ∧ 0 < twoK k ∧ twoK k ≤ 2147483648 := by
    rcases two8 h with e | e | e | e | e | e | e | e <;> rw [e] <;> exact ⟨_, rfl, by omega, by omega, by omega, by omega⟩
  obtain ⟨z, hz, h1, h2, h3, h4⟩ := hz
  rw [hlit] at hf ⊢
  rw [hz] at hf ⊢
  constructor
  · rw [← low_eq h]; unfold rlow
    rw [W_id (n := z * twoK k) (by omega), W_id (by omega)]
  · rw [← high_eq h hf]; unfold rhigh rlow
    generalize z * twoK k = u at *
    rw [W_id (n := u) (by omega), W_id (n := u - 1073741824) (by omega), W_id (n := u - 1073741824 + twoK k) (by omega), W_id (by omega), mn_eq]
    omega
/-- One direction's facts of a cover. -/
theorem cov1 {k : Nat} {x y : Int} (h : 24 ≤ k ∧ k ≤ 31) (hx : Bd x) (hy : Bd y) (hxy : x ≤ y) :
    mn (lowV (k : Int) (cel (k : Int) x)) (lowV (k : Int) (cel (k : Int) y)) ≤ x ∧ y ≤ mx (highV (k : Int) (cel (k : Int) x)) (highV (k : Int) (cel (k : Int) y)) ∧ Bd (mn (lowV (k : Int) (cel (k : Int) x)) (lowV (k : Int) (cel (k : Int) y))) ∧ Bd (mx (highV (k : Int) (cel (k : Int) x)) (highV (k : Int) (cel (k : Int) y))) := by
  rw [(low_high h hx).1, (low_high h hx).2, (low_high h hy).1, (low_high h hy).2, mn_eq, mx_eq]
  unfold Bd at *
  rcases two8 h with e | e | e | e | e | e | e | e <;> rw [e] <;> omega
theorem cov2 {k : Nat} {x y p q : Int} (h : 24 ≤ k ∧ k ≤ 31) (hx : Bd x) (hy : Bd y) (hxy : x ≤ y) (hp : Bd p) (hq : Bd q) (hpq : p ≤ q) :
    let L := mn (lowV (k : Int) (cel (k : Int) x)) (lowV (k : Int) (cel (k : Int) y)); let H := mx (highV (k : Int) (cel (k : Int) x)) (highV (k : Int) (cel (k : Int) y))
    (L ≤ p ∧ q ≤ H) ↔ (L ≤ mn (lowV (k : Int) (cel (k : Int) p)) (lowV (k : Int) (cel (k : Int) q)) ∧ mx (highV (k : Int) (cel (k : Int) p)) (highV (k : Int) (cel (k : Int) q)) ≤ H) := by
  intro L H
  show (mn _ _ ≤ _ ∧ _ ≤ mx _ _) ↔ (mn _ _ ≤ _ ∧ _ ≤ mx _ _)
  rw [(low_high h hx).1, (low_high h hx).2, (low_high h hy).1, (low_high h hy).2, (low_high h hp).1, (low_high h hp).2, (low_high h hq).1, (low_high h hq).2, mn_eq, mx_eq, mn_eq, mx_eq]
  unfold Bd at *
  rcases two8 h with e | e | e | e | e | e | e | e <;> rw [e] <;> omega
theorem cv_may {k : Nat} {a b c d : Int} (h : 24 ≤ k ∧ k ≤ 31) (hr : mayR a b c d = true) : mayR (cvV (k : Int) a b c d).1 (cvV (k : Int) a b c d).2.1 (cvV (k : Int) a b c d).2.2.1 (cvV (k : Int) a b c d).2.2.2 = true ∧ holdsR (cvV (k : Int) a b c d).1 (cvV (k : Int) a b c d).2.1 (cvV (k : Int) a b c d).2.2.1 (cvV (k : Int) a b c d).2.2.2 a b c d = true := by
  obtain ⟨⟨h1, h2, h3, h4⟩, h5, h6⟩ := mayR_iff.1 hr
  have x := cov1 h h1 h3 h5; have y := cov1 h h2 h4 h6
  unfold cvV
  refine ⟨mayR_iff.2 ⟨⟨x.2.2.1, y.2.2.1, x.2.2.2, y.2.2.2⟩, ?_, ?_⟩, ?_⟩
  · simp only; omega
  · simp only; omega
  · simp only [holdsR, Bool.and_eq_true, decide_eq_true_eq]; omega
/-- What stays in the cover's box. -/
theorem cv_held {k : Nat} {a b c d : Int} {v : Pt} (h : 24 ≤ k ∧ k ≤ 31) (hr : mayR a b c d = true) (hv : mayP v.1 v.2 = true) (hb : mayR (W (a + v.1)) (W (b + v.2)) (W (c + v.1)) (W (d + v.2)) = true) (B : Int × Int × Int × Int) (hB : B = cvV (k : Int) a b c d) (C : Int × Int × Int × Int) (hC : C = cvV (k : Int) (W (a + v.1)) (W (b + v.2)) (W (c + v.1)) (W (d + v.2))) :
    inR (zoR B.1 B.2.1 B.2.2.1 B.2.2.2 (a, b, c, d)).1 (zoR B.1 B.2.1 B.2.2.1 B.2.2.2 (a, b, c, d)).2.1 (zoR B.1 B.2.1 B.2.2.1 B.2.2.2 (a, b, c, d)).2.2.1 (zoR B.1 B.2.1 B.2.2.1 B.2.2.2 (a, b, c, d)).2.2.2 v.1 v.2 = (inR B.1 B.2.1 B.2.2.1 B.2.2.2 (W (a + v.1)) (W (b + v.2)) && inR B.1 B.2.1 B.2.2.1 B.2.2.2 (W (c + v.1)) (W (d + v.2))) ∧
    (inR B.1 B.2.1 B.2.2.1 B.2.2.2 (W (a + v.1)) (W (b + v.2)) && inR B.1 B.2.1 B.2.2.1 B.2.2.2 (W (c + v.1)) (W (d + v.2))) = (inR B.1 B.2.1 B.2.2.1 B.2.2.2 C.1 C.2.1 && inR B.1 B.2.1 B.2.2.1 B.2.2.2 C.2.2.1 C.2.2.2) := by
  obtain ⟨⟨h1, h2, h3, h4⟩, h5, h6⟩ := mayR_iff.1 hr
  have hv' := mayP_iff.1 hv
  rw [W_add h1 hv'.1, W_add h2 hv'.2, W_add h3 hv'.1, W_add h4 hv'.2] at *
  obtain ⟨⟨g1, g2, g3, g4⟩, g5, g6⟩ := mayR_iff.1 hb
  have x1 := cov1 h h1 h3 h5; have y1 := cov1 h h2 h4 h6
  have x2 := cov2 h h1 h3 h5 g1 g3 g5; have y2 := cov2 h h2 h4 h6 g2 g4 g6
  have x3 := cov1 h g1 g3 g5; have y3 := cov1 h g2 g4 g6
  subst hB; subst hC
  unfold cvV zoR
  simp only at *
  generalize mn (lowV (k : Int) (cel (k : Int) a)) (lowV (k : Int) (cel (k : Int) c)) = B1, mn (lowV (k : Int) (cel (k : Int) b)) (lowV (k : Int) (cel (k : Int) d)) = B2, mx (highV (k : Int) (cel (k : Int) a)) (highV (k : Int) (cel (k : Int) c)) = B3, mx (highV (k : Int) (cel (k : Int) b)) (highV (k : Int) (cel (k : Int) d)) = B4 at *
  generalize mn (lowV (k : Int) (cel (k : Int) (a + v.1))) (lowV (k : Int) (cel (k : Int) (c + v.1))) = C1, mn (lowV (k : Int) (cel (k : Int) (b + v.2))) (lowV (k : Int) (cel (k : Int) (d + v.2))) = C2, mx (highV (k : Int) (cel (k : Int) (a + v.1))) (highV (k : Int) (cel (k : Int) (c + v.1))) = C3, mx (highV (k : Int) (cel (k : Int) (b + v.2))) (highV (k : Int) (cel (k : Int) (d + v.2))) = C4 at *
  rw [W_sub x1.2.2.1 h1, W_sub y1.2.2.1 h2, W_sub x1.2.2.2 h3, W_sub y1.2.2.2 h4]
  constructor
  · rw [Bool.eq_iff_iff]; simp only [inR, Bool.and_eq_true, decide_eq_true_eq]; unfold Bd at *; omega
  · rw [Bool.eq_iff_iff]; simp only [inR, Bool.and_eq_true, decide_eq_true_eq]; omega

theorem ok_v {a b c d : Int} {l : List Pt} {v : Pt} (ho : okG a b c d l v = true) : mayP v.1 v.2 = true := by
  cases l with
  | nil => exact (ok_r ho).1.2.1
  | cons q t =>
    have := List.all_eq_true.1 (show (q :: t).all (addA v) = true from ho) q (by simp)
    unfold addA addB at this; simp only [Bool.and_eq_true] at this; exact this.1.2
theorem hb_of {a b c d : Int} {l : List Pt} {v : Pt} (hm : mayG a b c d l = true) (ho : okG a b c d l v = true) : mayR (W ((bxG a b c d l).1 + v.1)) (W ((bxG a b c d l).2.1 + v.2)) (W ((bxG a b c d l).2.2.1 + v.1)) (W ((bxG a b c d l).2.2.2 + v.2)) = true := by
  cases l with
  | nil => exact may_m0 hm ho
  | cons q t =>
    have h := bx_may (may_m1 hm ho)
    have e : bxG 0 0 0 0 ((q :: t).map (mv v)) = box ((q :: t).map (mv v)) ((q :: t).map (mv v)).length := rfl
    rw [e, bx_m1 hm ho] at h
    exact h
theorem safe_cv {k : Nat} {a b c d : Int} {l : List Pt} (hl : l.length ≤ maxLen) (hm : mayG a b c d l = true) (hk : 24 ≤ k ∧ k ≤ 31) {x y : Int} : PCall Try.prog 40 [.agg [.int .i64 a, .int .i64 b, .int .i64 c, .int .i64 d, .sl (rows l)], .agg [.int .i64 (cvG (k : Int) a b c d l).1, .int .i64 (cvG (k : Int) a b c d l).2.1, .int .i64 (cvG (k : Int) a b c d l).2.2.1, .int .i64 (cvG (k : Int) a b c d l).2.2.2], .agg [.int .i64 x, .int .i64 y]]
    (· = .bool (inR (zoR (cvG (k : Int) a b c d l).1 (cvG (k : Int) a b c d l).2.1 (cvG (k : Int) a b c d l).2.2.1 (cvG (k : Int) a b c d l).2.2.2 (bxG a b c d l)).1 (zoR (cvG (k : Int) a b c d l).1 (cvG (k : Int) a b c d l).2.1 (cvG (k : Int) a b c d l).2.2.1 (cvG (k : Int) a b c d l).2.2.2 (bxG a b c d l)).2.1 (zoR (cvG (k : Int) a b c d l).1 (cvG (k : Int) a b c d l).2.1 (cvG (k : Int) a b c d l).2.2.1 (cvG (k : Int) a b c d l).2.2.2 (bxG a b c d l)).2.2.1 (zoR (cvG (k : Int) a b c d l).1 (cvG (k : Int) a b c d l).2.1 (cvG (k : Int) a b c d l).2.2.1 (cvG (k : Int) a b c d l).2.2.2 (bxG a b c d l)).2.2.2 x y)) := by
  have hcv := cv_may hk (bx_may hm)
  have := safe_c (v := (x, y)) hl hm hcv.1 hcv.2
  unfold safeB at this
  simp only [Bool.and_self, Bool.true_and] at this
  exact this
theorem safe_0 {k : Nat} {a b c d : Int} {l : List Pt} (hl : l.length ≤ maxLen) (hm : mayG a b c d l = true) (hk : 24 ≤ k ∧ k ≤ 31) : PCall Try.prog 40 [.agg [.int .i64 a, .int .i64 b, .int .i64 c, .int .i64 d, .sl (rows l)], .agg [.int .i64 (cvG (k : Int) a b c d l).1, .int .i64 (cvG (k : Int) a b c d l).2.1, .int .i64 (cvG (k : Int) a b c d l).2.2.1, .int .i64 (cvG (k : Int) a b c d l).2.2.2], .agg [.int .i64 0, .int .i64 0]] (· = .bool true) := by
  have h := @safe_cv k a b c d l hl hm hk 0 0
  have hcv := cv_may hk (bx_may hm)
  obtain ⟨⟨g1, g2, g3, g4⟩, _⟩ := mayR_iff.1 (bx_may hm)
  obtain ⟨⟨f1, f2, f3, f4⟩, _⟩ := mayR_iff.1 hcv.1
  have h2 := hcv.2
  rw [show cvG (k : Int) a b c d l = cvV (k : Int) (bxG a b c d l).1 (bxG a b c d l).2.1 (bxG a b c d l).2.2.1 (bxG a b c d l).2.2.2 from rfl] at *
  generalize cvV (k : Int) (bxG a b c d l).1 (bxG a b c d l).2.1 (bxG a b c d l).2.2.1 (bxG a b c d l).2.2.2 = B at *
  generalize bxG a b c d l = r at *
  have e : inR (zoR B.1 B.2.1 B.2.2.1 B.2.2.2 r).1 (zoR B.1 B.2.1 B.2.2.1 B.2.2.2 r).2.1 (zoR B.1 B.2.1 B.2.2.1 B.2.2.2 r).2.2.1 (zoR B.1 B.2.1 B.2.2.1 B.2.2.2 r).2.2.2 0 0 = true := by
    unfold zoR
    simp only [W_sub f1 g1, W_sub f2 g2, W_sub f3 g3, W_sub f4 g4]
    simp only [holdsR, Bool.and_eq_true, decide_eq_true_eq] at h2
    simp only [inR, Bool.and_eq_true, decide_eq_true_eq]; omega
  rw [e] at h; exact h
theorem zcovN {k : Nat} {a b c d : Int} {v : Pt} (hm : mayG a b c d [] = true) (ho : okG a b c d [] v = true) (hs : mayS (k : Int) = true) : PCall Try.prog 42 [.int .i64 (k : Int), .agg [.int .i64 (W (a + v.1)), .int .i64 (W (b + v.2)), .int .i64 (W (c + v.1)), .int .i64 (W (d + v.2)), .sl []]] (· = boxO true (cvV (k : Int) (W (a + v.1)) (W (b + v.2)) (W (c + v.1)) (W (d + v.2)))) :=
  zcover_c (l := []) (by decide) (may_m0 hm ho) hs
theorem zcovM {k : Nat} {a b c d : Int} {q : Pt} {t : List Pt} {v : Pt} (hl : (q :: t).length ≤ maxLen) (hm : mayG a b c d (q :: t) = true) (ho : okG a b c d (q :: t) v = true) (hs : mayS (k : Int) = true) : PCall Try.prog 42 [.int .i64 (k : Int), .agg [.int .i64 0, .int .i64 0, .int .i64 0, .int .i64 0, .sl (rows ((q :: t).map (mv v)))]]
    (· = boxO true (cvV (k : Int) (W ((box (q :: t) (q :: t).length).1 + v.1)) (W ((box (q :: t) (q :: t).length).2.1 + v.2)) (W ((box (q :: t) (q :: t).length).2.2.1 + v.1)) (W ((box (q :: t) (q :: t).length).2.2.2 + v.2)))) := by
  have h := zcover_c (l := (q :: t).map (mv v)) (by rw [List.length_map]; exact hl) (may_m1 hm ho) hs
  have e : cvG (k : Int) 0 0 0 0 ((q :: t).map (mv v)) = cvV (k : Int) (box ((q :: t).map (mv v)) ((q :: t).map (mv v)).length).1 (box ((q :: t).map (mv v)) ((q :: t).map (mv v)).length).2.1 (box ((q :: t).map (mv v)) ((q :: t).map (mv v)).length).2.2.1 (box ((q :: t).map (mv v)) ((q :: t).map (mv v)).length).2.2.2 := rfl
  rw [e, bx_m1 hm ho] at h
  exact h
theorem kk1 {X Y : Bool} (h : X = Y) (hg : (X == Y) = false) : False := by subst h; cases X <;> cases hg
theorem kk2 {Y Z : Bool} (h : Y = Z) : AV.bool (Y == Z) = AV.bool true := by subst h; cases Y <;> rfl

section
attribute [local irreducible] awp aops DP PCall ACall Decidable.decide Nat.mod simpB mayP mayR mayG inE inR box addB holdsR inG mayS cel lowV highV cfarS inS okG
/-- `plover/ploverlaw17.ZoneKeeps` -/
theorem ZoneKeeps_p {s a b c d : Int} {l : List Pt} {v : Pt} (hl : l.length ≤ maxLen) : PCall Try.prog 10 [.int .i64 s, .agg [.int .i64 (a), .int .i64 (b), .int .i64 (c), .int .i64 (d), .sl (rows l)], .agg [.int .i64 (v).1, .int .i64 (v).2]] (· = .bool (true)) := by
  refine pcall_body Try.func10 rfl (by kernel_rfl) (by rfl) ?_
  refine awp_seq ?_
  refine awp_region ?_
  refine rb rfl rfl (?_)
  refine rb rfl rfl (?_)
  refine rv rfl rfl (?_)
  refine rn ?_
  refine then_normal ?_
  refine awp_seq ?_
  refine awp_region ?_
  refine rc1 rfl rfl rfl up17_c (?_)
  refine rv rfl rfl (?_)
  refine rn ?_
  refine then_normal ?_
  refine awp_seq ?_
  refine awp_region ?_
  refine rv rfl rfl (?_)
  refine rc1 rfl rfl rfl few_c (?_)
  refine rv rfl rfl (?_)
  refine rn ?_
  refine then_normal ?_
  refine awp_seq ?_
  refine awp_seq ?_
  refine awp_region ?_
  refine rv rfl rfl (?_)
  refine rv rfl rfl (?_)
  refine rn ?_
  refine then_normal ?_
  refine cs_ rfl (fun hc => ?_) (fun hc => ?_)
  · first
    | (cases hc; done)
    | (
      refine awp_seq ?_
      refine awp_region ?_
      refine rv rfl rfl (?_)
      refine rv rfl rfl (?_)
      refine rn ?_
      refine then_normal ?_
      refine awp_ret ?_
      repeat (first | refine then_ret ?_ | refine inBlock_ret ?_)
      refine rr rfl rfl ?_
      first | rfl | exact (kk1 hh.1 (by assumption)).elim | exact kk2 hh.2 | (cases hc; done) | (simp at hc; done) | (simp at hg; done) | trace_state)
  · first
    | (cases hc; done)
    | (
      refine awp_skip ?_
      refine then_normal ?_
      refine awp_seq ?_
      (rcases hm : mayG a b c d l with _ | _ <;> rcases hs : mayS s with _ | _) <;> (
      refine awp_region ?_
      refine rv rfl rfl (?_)
      refine rv rfl rfl (?_)
      refine rc1 rfl rfl rfl (zcover_c hl hm hs) (?_)
      refine rv rfl rfl (?_)
      refine rv rfl rfl (?_)
      refine rv rfl rfl (?_)
      refine ra rfl rfl rfl (?_)
      refine rs rfl rfl rfl rfl rfl rfl rfl (?_)
      refine rv rfl rfl (?_)
      refine rn ?_
      refine then_normal ?_
      refine awp_seq ?_
      refine awp_seq ?_
      refine awp_region ?_
      refine rv rfl rfl (?_)
      refine rv rfl rfl (?_)
      refine rn ?_
      refine then_normal ?_
      refine cs_ rfl (fun hc => ?_) (fun hc => ?_)
      · first
        | (cases hc; done)
        | (
          refine awp_seq ?_
          refine awp_region ?_
          refine rv rfl rfl (?_)
          refine rv rfl rfl (?_)
          refine rn ?_
          refine then_normal ?_
          refine awp_ret ?_
          repeat (first | refine then_ret ?_ | refine inBlock_ret ?_)
          refine rr rfl rfl ?_
          first | rfl | exact (kk1 hh.1 (by assumption)).elim | exact kk2 hh.2 | (cases hc; done) | (simp at hc; done) | (simp at hg; done) | trace_state)
      · first
        | (cases hc; done)
        | (
          refine awp_skip ?_
          refine then_normal ?_
          refine awp_seq ?_
          refine awp_seq ?_
          (obtain ⟨k, rfl, hk⟩ := may_k hs) <;> (
          refine awp_region ?_
          refine rv rfl rfl (?_)
          refine rv rfl rfl (?_)
          refine rv rfl rfl (?_)
          refine rc1 rfl rfl rfl (safe_0 hl hm hk) (?_)
          refine rv rfl rfl (?_)
          refine rn ?_
          refine then_normal ?_
          refine cs_ rfl (fun hc => ?_) (fun hc => ?_)
          · first
            | (cases hc; done)
            | (
              refine awp_seq ?_
              refine awp_region ?_
              refine rv rfl rfl (?_)
              refine rn ?_
              refine then_normal ?_
              refine awp_ret ?_
              repeat (first | refine then_ret ?_ | refine inBlock_ret ?_)
              refine rr rfl rfl ?_
              first | rfl | exact (kk1 hh.1 (by assumption)).elim | exact kk2 hh.2 | (cases hc; done) | (simp at hc; done) | (simp at hg; done) | trace_state)
          · first
            | (cases hc; done)
            | (
              refine awp_skip ?_
              refine then_normal ?_
              refine awp_seq ?_
              (rcases ho : okG a b c d l v with _ | _ <;> rcases l with _ | ⟨q, t⟩) <;> (
              refine awp_region ?_
              refine rv rfl rfl (?_)
              refine rv rfl rfl (?_)
              refine rc1 rfl rfl rfl (moveG_c hl hm ho) (?_)
              refine rv rfl rfl (?_)
              refine rv rfl rfl (?_)
              refine rv rfl rfl (?_)
              refine ra rfl rfl rfl (?_)
              refine rs rfl rfl rfl rfl rfl rfl rfl (?_)
              refine rv rfl rfl (?_)
              refine rn ?_
              refine then_normal ?_
              refine awp_seq ?_
              refine awp_seq ?_
              refine awp_region ?_
              refine rv rfl rfl (?_)
              refine rv rfl rfl (?_)
              refine rn ?_
              refine then_normal ?_
              refine cs_ rfl (fun hc => ?_) (fun hc => ?_)
              · first
                | (cases hc; done)
                | (
                  refine awp_seq ?_
                  refine awp_region ?_
                  refine rv rfl rfl (?_)
                  refine rv rfl rfl (?_)
                  refine rn ?_
                  refine then_normal ?_
                  refine awp_ret ?_
                  repeat (first | refine then_ret ?_ | refine inBlock_ret ?_)
                  refine rr rfl rfl ?_
                  first | rfl | exact (kk1 hh.1 (by assumption)).elim | exact kk2 hh.2 | (cases hc; done) | (simp at hc; done) | (simp at hg; done) | trace_state)
              · first
                | (cases hc; done)
                | (
                  refine awp_skip ?_
                  refine then_normal ?_
                  refine awp_seq ?_
                  refine awp_region ?_
                  refine rv rfl rfl (?_)
                  refine rc1 rfl rfl rfl (by first | exact boxN hm ho | exact boxM hl hm ho) (?_)
                  refine rv rfl rfl (?_)
                  refine rv rfl rfl (?_)
                  refine rv rfl rfl (?_)
                  refine ra rfl rfl rfl (?_)
                  refine rs rfl rfl rfl rfl rfl rfl rfl (?_)
                  refine rv rfl rfl (?_)
                  refine rn ?_
                  refine then_normal ?_
                  refine awp_seq ?_
                  refine awp_region ?_
                  refine rv rfl rfl (?_)
                  refine rv rfl rfl (?_)
                  refine rc1 rfl rfl rfl (by first | exact zcovN hm ho hs | exact zcovM hl hm ho hs) (?_)
                  refine rv rfl rfl (?_)
                  refine rv rfl rfl (?_)
                  refine rv rfl rfl (?_)
                  refine ra rfl rfl rfl (?_)
                  refine rs rfl rfl rfl rfl rfl rfl rfl (?_)
                  refine rv rfl rfl (?_)
                  refine rn ?_
                  refine then_normal ?_
                  refine awp_seq ?_
                  refine awp_seq ?_
                  refine awp_region ?_
                  refine rv rfl rfl (?_)
                  refine rv rfl rfl (?_)
                  refine rv rfl rfl (?_)
                  (first | refine gy rfl rfl rfl (rv rfl rfl (?_)) | refine gn rfl rfl rfl rfl rfl ?_ | refine gu rfl rfl rfl rfl ?_ | refine gs rfl rfl rfl rfl rfl (fun hg => rv rfl rfl (?_)) (fun hg => ?_)) <;> (
                  (first | refine gy rfl rfl rfl (rv rfl rfl (?_)) | refine gn rfl rfl rfl rfl rfl ?_ | refine gu rfl rfl rfl rfl ?_ | refine gs rfl rfl rfl rfl rfl (fun hg => rv rfl rfl (?_)) (fun hg => ?_)) <;> (
                  refine rv rfl rfl (?_)
                  refine rn ?_
                  refine then_normal ?_
                  refine cs_ rfl (fun hc => ?_) (fun hc => ?_)
                  · first
                    | (cases hc; done)
                    | (
                      refine awp_seq ?_
                      refine awp_region ?_
                      refine rv rfl rfl (?_)
                      refine rn ?_
                      refine then_normal ?_
                      refine awp_ret ?_
                      repeat (first | refine then_ret ?_ | refine inBlock_ret ?_)
                      refine rr rfl rfl ?_
                      first | rfl | exact (kk1 hh.1 (by assumption)).elim | exact kk2 hh.2 | (cases hc; done) | (simp at hc; done) | (simp at hg; done) | trace_state)
                  · first
                    | (cases hc; done)
                    | (
                      refine awp_skip ?_
                      refine then_normal ?_
                      refine awp_seq ?_
                      (have hh := cv_held hk (bx_may hm) (ok_v ho) (hb_of hm ho) _ rfl _ rfl) <;> (
                      refine awp_region ?_
                      refine rv rfl rfl (?_)
                      refine rv rfl rfl (?_)
                      refine rc1 rfl rfl rfl rHolds_c (?_)
                      refine rv rfl rfl (?_)
                      refine rn ?_
                      refine then_normal ?_
                      refine awp_seq ?_
                      refine awp_region ?_
                      refine rv rfl rfl (?_)
                      refine rv rfl rfl (?_)
                      refine rc1 rfl rfl rfl rHolds_c (?_)
                      refine rv rfl rfl (?_)
                      refine rn ?_
                      refine then_normal ?_
                      refine awp_seq ?_
                      refine awp_region ?_
                      refine rv rfl rfl (?_)
                      refine rv rfl rfl (?_)
                      (first | refine gy rfl rfl rfl (rv rfl rfl (?_)) | refine gn rfl rfl rfl rfl rfl ?_ | refine gu rfl rfl rfl rfl ?_ | refine gs rfl rfl rfl rfl rfl (fun hg => rv rfl rfl (?_)) (fun hg => ?_)) <;> (
                      (first | refine gy rfl rfl rfl (rv rfl rfl (?_)) | refine gn rfl rfl rfl rfl rfl ?_ | refine gu rfl rfl rfl rfl ?_ | refine gs rfl rfl rfl rfl rfl (fun hg => rv rfl rfl (?_)) (fun hg => ?_)) <;> (
                      (first | refine gy rfl rfl rfl (rv rfl rfl (?_)) | refine gn rfl rfl rfl rfl rfl ?_ | refine gu rfl rfl rfl rfl ?_ | refine gs rfl rfl rfl rfl rfl (fun hg => rv rfl rfl (?_)) (fun hg => ?_)) <;> (
                      (first | refine gy rfl rfl rfl (rc1 rfl rfl rfl (safe_cv hl hm hk) (?_)) | refine gn rfl rfl rfl rfl rfl ?_ | refine gu rfl rfl rfl rfl ?_ | refine gs rfl rfl rfl rfl rfl (fun hg => rc1 rfl rfl rfl (safe_cv hl hm hk) (?_)) (fun hg => ?_)) <;> (
                      (first | refine gy rfl rfl rfl (rv rfl rfl (?_)) | refine gn rfl rfl rfl rfl rfl ?_ | refine gu rfl rfl rfl rfl ?_ | refine gs rfl rfl rfl rfl rfl (fun hg => rv rfl rfl (?_)) (fun hg => ?_)) <;> (
                      (first | refine gy rfl rfl rfl (rv rfl rfl (?_)) | refine gn rfl rfl rfl rfl rfl ?_ | refine gu rfl rfl rfl rfl ?_ | refine gs rfl rfl rfl rfl rfl (fun hg => rv rfl rfl (?_)) (fun hg => ?_)) <;> (
                      refine rv rfl rfl (?_)
                      refine rv rfl rfl (?_)
                      (first | refine gy rfl rfl rfl (rv rfl rfl (?_)) | refine gn rfl rfl rfl rfl rfl ?_ | refine gu rfl rfl rfl rfl ?_ | refine gs rfl rfl rfl rfl rfl (fun hg => rv rfl rfl (?_)) (fun hg => ?_)) <;> (
                      (first | refine gy rfl rfl rfl (rv rfl rfl (?_)) | refine gn rfl rfl rfl rfl rfl ?_ | refine gu rfl rfl rfl rfl ?_ | refine gs rfl rfl rfl rfl rfl (fun hg => rv rfl rfl (?_)) (fun hg => ?_)) <;> (
                      (first | refine gy rfl rfl rfl (rv rfl rfl (?_)) | refine gn rfl rfl rfl rfl rfl ?_ | refine gu rfl rfl rfl rfl ?_ | refine gs rfl rfl rfl rfl rfl (fun hg => rv rfl rfl (?_)) (fun hg => ?_)) <;> (
                      refine rv rfl rfl (?_)
                      refine rv rfl rfl (?_)
                      refine rn ?_
                      refine then_normal ?_
                      refine awp_ret ?_
                      repeat (first | refine then_ret ?_ | refine inBlock_ret ?_)
                      refine rr rfl rfl ?_
                      first | rfl | exact (kk1 hh.1 (by assumption)).elim | exact kk2 hh.2 | (cases hc; done) | (simp at hc; done) | (simp at hg; done) | trace_state))))))))))))))))))))
end

theorem ZoneTells_c {s a b c d A B C D x y : Int} {l : List Pt} (w : (Lit.int .i64 s).wf = true) (hl : l.length ≤ maxLen) : PCall Try.prog 7 [.int .i64 s, .agg [.int .i64 a, .int .i64 b, .int .i64 c, .int .i64 d, .sl (rows l)], .agg [.int .i64 A, .int .i64 B, .int .i64 C, .int .i64 D], .agg [.int .i64 x, .int .i64 y]] (· = .bool true) := ZoneTells_p (v := (x, y)) hl
theorem ZoneKeeps_c {s a b c d x y : Int} {l : List Pt} (w : (Lit.int .i64 s).wf = true) (hl : l.length ≤ maxLen) : PCall Try.prog 10 [.int .i64 s, .agg [.int .i64 a, .int .i64 b, .int .i64 c, .int .i64 d, .sl (rows l)], .agg [.int .i64 x, .int .i64 y]] (· = .bool true) := ZoneKeeps_p (v := (x, y)) hl

end Go.Proofs.Ytngeejjllgnpcaa
