/- Contracts, printed by a program of this session's. -/
import Derived.Test.YtfonfgnbjkpanaaS04h
namespace Go.Proofs.Ytfonfgnbjkpanaa
open Go.Pv
set_option maxRecDepth 100000
set_option maxHeartbeats 4000000
set_option linter.unusedSimpArgs false
set_option linter.unusedVariables false
set_option linter.unusedSectionVars false

section
attribute [local irreducible] awp aops DP PCall Decidable.decide
/-- `plover/ploverlaw04.MortonBack` -/
theorem MortonBack_ok0 {s x y : Int} {a b c d e : Nat} (ha : a < 2147483648) (hb : b < 2147483648) (hc' : c < 2147483648) (hd : d < 2147483648) (he : e ≤ 30) (h : mayS s = false) : PCall Try.prog 13 [.int .i64 s, .agg [.int .i64 x, .int .i64 y], .int .i64 ((a : Nat) : Int), .int .i64 ((b : Nat) : Int), .int .i64 ((c : Nat) : Int), .int .i64 ((d : Nat) : Int), .int .i64 ((e : Nat) : Int)] (· = .bool (true)) := by
  refine pcall_body Try.func13 rfl (by kernel_rfl) (by rfl) ?_
  refine awp_seq ?_
  refine awp_region ?_
  refine rb rfl rfl (?_)
  refine rv rfl rfl (?_)
  refine rn ?_
  refine then_normal ?_
  refine awp_seq ?_
  refine awp_region ?_
  refine rc1 rfl rfl rfl up4_c (?_)
  refine rv rfl rfl (?_)
  refine rn ?_
  refine then_normal ?_
  refine awp_seq ?_
  refine awp_region ?_
  refine rv rfl rfl (?_)
  refine rv rfl rfl (?_)
  refine rc1 rfl rfl rfl (code_ok ha hb) (?_)
  refine rv rfl rfl (?_)
  refine rv rfl rfl (?_)
  refine rv rfl rfl (?_)
  refine rv rfl rfl (?_)
  refine rv rfl rfl (?_)
  refine rn ?_
  refine then_normal ?_
  refine awp_seq ?_
  refine awp_region ?_
  refine rv rfl rfl (?_)
  refine rv rfl rfl (?_)
  refine rc1 rfl rfl rfl (code_ok hc' hd) (?_)
  refine rv rfl rfl (?_)
  refine rv rfl rfl (?_)
  refine rv rfl rfl (?_)
  refine rv rfl rfl (?_)
  refine rv rfl rfl (?_)
  refine rn ?_
  refine then_normal ?_
  refine awp_seq ?_
  refine awp_seq ?_
  refine awp_region ?_
  refine rv rfl rfl (?_)
  refine rv rfl rfl (?_)
  refine rv rfl rfl (?_)
  (first | refine gy rfl rfl rfl (rv rfl rfl (?_)) | refine gn rfl rfl rfl rfl rfl ?_ | refine gu rfl rfl rfl rfl ?_ | refine gs rfl rfl rfl rfl rfl (fun hg => rv rfl rfl (?_)) (fun hg => ?_)) <;> (
  (first | refine gy rfl rfl rfl (rv rfl rfl (?_)) | refine gn rfl rfl rfl rfl rfl ?_ | refine gu rfl rfl rfl rfl ?_ | refine gs rfl rfl rfl rfl rfl (fun hg => rv rfl rfl (?_)) (fun hg => ?_)) <;> (
  refine rv rfl rfl (?_)
  refine rv rfl rfl (?_)
  (first | refine gy rfl rfl rfl (rv rfl rfl (?_)) | refine gn rfl rfl rfl rfl rfl ?_ | refine gu rfl rfl rfl rfl ?_ | refine gs rfl rfl rfl rfl rfl (fun hg => rv rfl rfl (?_)) (fun hg => ?_)) <;> (
  (first | refine gy rfl rfl rfl (rv rfl rfl (?_)) | refine gn rfl rfl rfl rfl rfl ?_ | refine gu rfl rfl rfl rfl ?_ | refine gs rfl rfl rfl rfl rfl (fun hg => rv rfl rfl (?_)) (fun hg => ?_)) <;> (
  refine rv rfl rfl (?_)
  refine rv rfl rfl (?_)
  (first | refine gy rfl rfl rfl (rv rfl rfl (?_)) | refine gn rfl rfl rfl rfl rfl ?_ | refine gu rfl rfl rfl rfl ?_ | refine gs rfl rfl rfl rfl rfl (fun hg => rv rfl rfl (?_)) (fun hg => ?_)) <;> (
  (first | refine gy rfl rfl rfl (rv rfl rfl (?_)) | refine gn rfl rfl rfl rfl rfl ?_ | refine gu rfl rfl rfl rfl ?_ | refine gs rfl rfl rfl rfl rfl (fun hg => rv rfl rfl (?_)) (fun hg => ?_)) <;> (
  refine rv rfl rfl (?_)
  refine rn ?_
  refine then_normal ?_
  refine cs_ rfl (fun hc => ?_) (fun hc => ?_)
  · first
    | (cases hc; done)
    | (
      refine awp_seq ?_
      refine awp_region ?_
      refine rv rfl rfl (?_)
      refine rv rfl rfl (?_)
      refine rn ?_
      refine then_normal ?_
      refine awp_ret ?_
      repeat (first | refine then_ret ?_ | refine inBlock_ret ?_)
      refine rr rfl rfl ?_
      first | rfl | (simp at hc; done) | (simp at hg; done) | (have hq := bcod a b c d ha hb hc' hd e; simp_all; done))
  · first
    | (cases hc; done)
    | (
      refine awp_skip ?_
      refine then_normal ?_
      refine awp_seq ?_
      refine awp_region ?_
      refine rv rfl rfl (?_)
      refine rc1 rfl rfl rfl (split_cod ha hb) (?_)
      refine rv rfl rfl (?_)
      refine rv rfl rfl (?_)
      refine rv rfl rfl (?_)
      refine rv rfl rfl (?_)
      refine rv rfl rfl (?_)
      refine rn ?_
      refine then_normal ?_
      refine awp_seq ?_
      refine awp_seq ?_
      refine awp_region ?_
      refine rv rfl rfl (?_)
      refine rv rfl rfl (?_)
      refine rv rfl rfl (?_)
      refine rv rfl rfl (?_)
      (first | refine gy rfl rfl rfl (rv rfl rfl (?_)) | refine gn rfl rfl rfl rfl rfl ?_ | refine gu rfl rfl rfl rfl ?_ | refine gs rfl rfl rfl rfl rfl (fun hg => rv rfl rfl (?_)) (fun hg => ?_)) <;> (
      (first | refine gy rfl rfl rfl (rv rfl rfl (?_)) | refine gn rfl rfl rfl rfl rfl ?_ | refine gu rfl rfl rfl rfl ?_ | refine gs rfl rfl rfl rfl rfl (fun hg => rv rfl rfl (?_)) (fun hg => ?_)) <;> (
      (first | refine gy rfl rfl rfl (rv rfl rfl (?_)) | refine gn rfl rfl rfl rfl rfl ?_ | refine gu rfl rfl rfl rfl ?_ | refine gs rfl rfl rfl rfl rfl (fun hg => rv rfl rfl (?_)) (fun hg => ?_)) <;> (
      refine rv rfl rfl (?_)
      refine rn ?_
      refine then_normal ?_
      refine cs_ rfl (fun hc => ?_) (fun hc => ?_)
      · first
        | (cases hc; done)
        | (
          refine awp_seq ?_
          refine awp_region ?_
          refine rv rfl rfl (?_)
          refine rn ?_
          refine then_normal ?_
          refine awp_ret ?_
          repeat (first | refine then_ret ?_ | refine inBlock_ret ?_)
          refine rr rfl rfl ?_
          first | rfl | (simp at hc; done) | (simp at hg; done) | (have hq := bcod a b c d ha hb hc' hd e; simp_all; done))
      · first
        | (cases hc; done)
        | (
          refine awp_skip ?_
          refine then_normal ?_
          refine awp_seq ?_
          refine awp_seq ?_
          refine awp_region ?_
          refine rv rfl rfl (?_)
          refine rv rfl rfl (?_)
          refine rv rfl rfl (?_)
          refine rv rfl rfl (?_)
          refine rv rfl rfl (?_)
          refine rv rfl rfl (?_)
          refine rv rfl rfl (?_)
          (first | refine gy rfl rfl rfl (rv rfl rfl (?_)) | refine gn rfl rfl rfl rfl rfl ?_ | refine gu rfl rfl rfl rfl ?_ | refine gs rfl rfl rfl rfl rfl (fun hg => rv rfl rfl (?_)) (fun hg => ?_)) <;> (
          (first | refine gy rfl rfl rfl (rv rfl rfl (?_)) | refine gn rfl rfl rfl rfl rfl ?_ | refine gu rfl rfl rfl rfl ?_ | refine gs rfl rfl rfl rfl rfl (fun hg => rv rfl rfl (?_)) (fun hg => ?_)) <;> (
          (first | refine gy rfl rfl rfl (rv rfl rfl (?_)) | refine gn rfl rfl rfl rfl rfl ?_ | refine gu rfl rfl rfl rfl ?_ | refine gs rfl rfl rfl rfl rfl (fun hg => rv rfl rfl (?_)) (fun hg => ?_)) <;> (
          refine rv rfl rfl (?_)
          refine rv rfl rfl (?_)
          refine rn ?_
          refine then_normal ?_
          refine cs_ rfl (fun hc => ?_) (fun hc => ?_)
          · first
            | (cases hc; done)
            | (
              refine awp_seq ?_
              refine awp_region ?_
              refine rv rfl rfl (?_)
              refine rn ?_
              refine then_normal ?_
              refine awp_ret ?_
              repeat (first | refine then_ret ?_ | refine inBlock_ret ?_)
              refine rr rfl rfl ?_
              first | rfl | (simp at hc; done) | (simp at hg; done) | (have hq := bcod a b c d ha hb hc' hd e; simp_all; done))
          · first
            | (cases hc; done)
            | (
              refine awp_skip ?_
              refine then_normal ?_
              refine awp_seq ?_
              refine awp_region ?_
              refine rv rfl rfl (?_)
              refine rv rfl rfl (?_)
              refine rv' rfl (opv_eq rfl (mul2 he)) (?_)
              refine rv' rfl (shrN rfl rfl (by omega)) (?_)
              refine rv rfl rfl (?_)
              refine rn ?_
              refine then_normal ?_
              refine awp_seq ?_
              refine awp_region ?_
              refine rv rfl rfl (?_)
              refine rv rfl rfl (?_)
              refine rv' rfl (opv_eq rfl (mul2 he)) (?_)
              refine rv' rfl (shrN rfl rfl (by omega)) (?_)
              refine rv rfl rfl (?_)
              refine rn ?_
              refine then_normal ?_
              refine awp_seq ?_
              refine awp_seq ?_
              refine awp_dp (m := 20) Try.mix (by kernel_rfl) (by kernel_rfl) (by kernel_rfl) (by kernel_rfl) (by kernel_rfl) (by kernel_rfl) (by kernel_rfl) ?_
              refine dv rfl rfl (fun _ => rfl) ?_
              refine dv rfl rfl (fun _ => rfl) ?_
              refine dv rfl rfl (fun _ => rfl) ?_
              refine dv rfl rfl (fun _ => rfl) ?_
              refine dv rfl rfl (fun _ => rfl) ?_
              refine dv rfl rfl (fun _ => (nfO_eq _).trans (shrI rfl rfl (by omega))) ?_
              refine dv rfl rfl (fun _ => rfl) ?_
              refine dv rfl rfl (fun _ => rfl) ?_
              refine dv rfl rfl (fun _ => (nfO_eq _).trans (shrI rfl rfl (by omega))) ?_
              refine dv rfl rfl (fun _ => rfl) ?_
              refine dv rfl rfl (fun _ => rfl) ?_
              (first | refine dv rfl rfl (fun _ => rfl) ?_ | refine dno rfl rfl ?_ | (refine ds rfl rfl (fun hg => ?_) (fun hg => ?_) <;> first | refine dv rfl rfl (fun _ => rfl) ?_ | refine dno rfl rfl ?_)) <;> (
              (first | refine dv rfl rfl (fun _ => rfl) ?_ | refine dno rfl rfl ?_ | (refine ds rfl rfl (fun hg => ?_) (fun hg => ?_) <;> first | refine dv rfl rfl (fun _ => rfl) ?_ | refine dno rfl rfl ?_)) <;> (
              (first | refine dv rfl rfl (fun _ => (nfO_eq _).trans (shrI rfl rfl (by omega))) ?_ | refine dno rfl rfl ?_ | (refine ds rfl rfl (fun hg => ?_) (fun hg => ?_) <;> first | refine dv rfl rfl (fun _ => (nfO_eq _).trans (shrI rfl rfl (by omega))) ?_ | refine dno rfl rfl ?_)) <;> (
              (first | refine dv rfl rfl (fun _ => rfl) ?_ | refine dno rfl rfl ?_ | (refine ds rfl rfl (fun hg => ?_) (fun hg => ?_) <;> first | refine dv rfl rfl (fun _ => rfl) ?_ | refine dno rfl rfl ?_)) <;> (
              (first | refine dv rfl rfl (fun _ => rfl) ?_ | refine dno rfl rfl ?_ | (refine ds rfl rfl (fun hg => ?_) (fun hg => ?_) <;> first | refine dv rfl rfl (fun _ => rfl) ?_ | refine dno rfl rfl ?_)) <;> (
              (first | refine dv rfl rfl (fun _ => (nfO_eq _).trans (shrI rfl rfl (by omega))) ?_ | refine dno rfl rfl ?_ | (refine ds rfl rfl (fun hg => ?_) (fun hg => ?_) <;> first | refine dv rfl rfl (fun _ => (nfO_eq _).trans (shrI rfl rfl (by omega))) ?_ | refine dno rfl rfl ?_)) <;> (
              (first | refine dv rfl rfl (fun _ => rfl) ?_ | refine dno rfl rfl ?_ | (refine ds rfl rfl (fun hg => ?_) (fun hg => ?_) <;> first | refine dv rfl rfl (fun _ => rfl) ?_ | refine dno rfl rfl ?_)) <;> (
              refine dv rfl rfl (fun _ => rfl) ?_
              refine dv rfl rfl (fun _ => rfl) ?_
              refine dn ?_
              refine rn ?_
              refine then_normal ?_
              refine cs_ rfl (fun hc => ?_) (fun hc => ?_)
              · first
                | (cases hc; done)
                | (
                  refine awp_seq ?_
                  refine awp_region ?_
                  refine rv rfl rfl (?_)
                  refine rn ?_
                  refine then_normal ?_
                  refine awp_ret ?_
                  repeat (first | refine then_ret ?_ | refine inBlock_ret ?_)
                  refine rr rfl rfl ?_
                  first | rfl | (simp at hc; done) | (simp at hg; done) | (have hq := bcod a b c d ha hb hc' hd e; simp_all; done))
              · first
                | (cases hc; done)
                | (
                  refine awp_skip ?_
                  refine then_normal ?_
                  refine awp_seq ?_
                  (rcases hq : mayP x y with _ | _) <;> (
                  refine awp_region ?_
                  refine rv rfl rfl (?_)
                  refine rv rfl rfl (?_)
                  refine rc1 rfl rfl rfl (cell_cb h hq) (?_)
                  refine rv rfl rfl (?_)
                  refine rv rfl rfl (?_)
                  refine rv rfl rfl (?_)
                  refine rv rfl rfl (?_)
                  refine rv rfl rfl (?_)
                  refine rv rfl rfl (?_)
                  refine rv rfl rfl (?_)
                  refine rn ?_
                  refine then_normal ?_
                  refine awp_seq ?_
                  refine awp_seq ?_
                  refine awp_region ?_
                  refine rv rfl rfl (?_)
                  refine rv rfl rfl (?_)
                  refine rn ?_
                  refine then_normal ?_
                  refine cs_ rfl (fun hc => ?_) (fun hc => ?_)
                  · first
                    | (cases hc; done)
                    | (
                      refine awp_seq ?_
                      refine awp_region ?_
                      refine rv rfl rfl (?_)
                      refine rv rfl rfl (?_)
                      refine rn ?_
                      refine then_normal ?_
                      refine awp_ret ?_
                      repeat (first | refine then_ret ?_ | refine inBlock_ret ?_)
                      refine rr rfl rfl ?_
                      first | rfl | (simp at hc; done) | (simp at hg; done) | (have hq := bcod a b c d ha hb hc' hd e; simp_all; done))
                  · first
                    | (cases hc; done)
                    | (
                      refine awp_skip ?_
                      refine then_normal ?_
                      refine awp_seq ?_
                      exfalso
                      first | (simp at hc; done))))))))))))))))))))))))))
end

section
attribute [local irreducible] awp aops DP PCall Decidable.decide
/-- `plover/ploverlaw04.MortonBack` -/
theorem MortonBack_ok1 {x y : Int} {k a b c d e : Nat} (ha : a < 2147483648) (hb : b < 2147483648) (hc' : c < 2147483648) (hd : d < 2147483648) (he : e ≤ 30) (hk : 24 ≤ k ∧ k ≤ 31) (h : mayS (k : Int) = true) (hq : mayP x y = true) : PCall Try.prog 13 [.int .i64 ((k : Nat) : Int), .agg [.int .i64 x, .int .i64 y], .int .i64 ((a : Nat) : Int), .int .i64 ((b : Nat) : Int), .int .i64 ((c : Nat) : Int), .int .i64 ((d : Nat) : Int), .int .i64 ((e : Nat) : Int)] (· = .bool (true)) := by
  refine pcall_body Try.func13 rfl (by kernel_rfl) (by rfl) ?_
  refine awp_seq ?_
  refine awp_region ?_
  refine rb rfl rfl (?_)
  refine rv rfl rfl (?_)
  refine rn ?_
  refine then_normal ?_
  refine awp_seq ?_
  refine awp_region ?_
  refine rc1 rfl rfl rfl up4_c (?_)
  refine rv rfl rfl (?_)
  refine rn ?_
  refine then_normal ?_
  refine awp_seq ?_
  refine awp_region ?_
  refine rv rfl rfl (?_)
  refine rv rfl rfl (?_)
  refine rc1 rfl rfl rfl (code_ok ha hb) (?_)
  refine rv rfl rfl (?_)
  refine rv rfl rfl (?_)
  refine rv rfl rfl (?_)
  refine rv rfl rfl (?_)
  refine rv rfl rfl (?_)
  refine rn ?_
  refine then_normal ?_
  refine awp_seq ?_
  refine awp_region ?_
  refine rv rfl rfl (?_)
  refine rv rfl rfl (?_)
  refine rc1 rfl rfl rfl (code_ok hc' hd) (?_)
  refine rv rfl rfl (?_)
  refine rv rfl rfl (?_)
  refine rv rfl rfl (?_)
  refine rv rfl rfl (?_)
  refine rv rfl rfl (?_)
  refine rn ?_
  refine then_normal ?_
  refine awp_seq ?_
  refine awp_seq ?_
  refine awp_region ?_
  refine rv rfl rfl (?_)
  refine rv rfl rfl (?_)
  refine rv rfl rfl (?_)
  (first | refine gy rfl rfl rfl (rv rfl rfl (?_)) | refine gn rfl rfl rfl rfl rfl ?_ | refine gu rfl rfl rfl rfl ?_ | refine gs rfl rfl rfl rfl rfl (fun hg => rv rfl rfl (?_)) (fun hg => ?_)) <;> (
  (first | refine gy rfl rfl rfl (rv rfl rfl (?_)) | refine gn rfl rfl rfl rfl rfl ?_ | refine gu rfl rfl rfl rfl ?_ | refine gs rfl rfl rfl rfl rfl (fun hg => rv rfl rfl (?_)) (fun hg => ?_)) <;> (
  refine rv rfl rfl (?_)
  refine rv rfl rfl (?_)
  (first | refine gy rfl rfl rfl (rv rfl rfl (?_)) | refine gn rfl rfl rfl rfl rfl ?_ | refine gu rfl rfl rfl rfl ?_ | refine gs rfl rfl rfl rfl rfl (fun hg => rv rfl rfl (?_)) (fun hg => ?_)) <;> (
  (first | refine gy rfl rfl rfl (rv rfl rfl (?_)) | refine gn rfl rfl rfl rfl rfl ?_ | refine gu rfl rfl rfl rfl ?_ | refine gs rfl rfl rfl rfl rfl (fun hg => rv rfl rfl (?_)) (fun hg => ?_)) <;> (
  refine rv rfl rfl (?_)
  refine rv rfl rfl (?_)
  (first | refine gy rfl rfl rfl (rv rfl rfl (?_)) | refine gn rfl rfl rfl rfl rfl ?_ | refine gu rfl rfl rfl rfl ?_ | refine gs rfl rfl rfl rfl rfl (fun hg => rv rfl rfl (?_)) (fun hg => ?_)) <;> (
  (first | refine gy rfl rfl rfl (rv rfl rfl (?_)) | refine gn rfl rfl rfl rfl rfl ?_ | refine gu rfl rfl rfl rfl ?_ | refine gs rfl rfl rfl rfl rfl (fun hg => rv rfl rfl (?_)) (fun hg => ?_)) <;> (
  refine rv rfl rfl (?_)
  refine rn ?_
  refine then_normal ?_
  refine cs_ rfl (fun hc => ?_) (fun hc => ?_)
  · first
    | (cases hc; done)
    | (
      refine awp_seq ?_
      refine awp_region ?_
      refine rv rfl rfl (?_)
      refine rv rfl rfl (?_)
      refine rn ?_
      refine then_normal ?_
      refine awp_ret ?_
      repeat (first | refine then_ret ?_ | refine inBlock_ret ?_)
      refine rr rfl rfl ?_
      first | rfl | (simp at hc; done) | (simp at hg; done) | (have hq := bcod a b c d ha hb hc' hd e; simp_all; done) | (simp [inR, hx.2.1, hx.2.2, hz.2.1, hz.2.2]; done))
  · first
    | (cases hc; done)
    | (
      refine awp_skip ?_
      refine then_normal ?_
      refine awp_seq ?_
      refine awp_region ?_
      refine rv rfl rfl (?_)
      refine rc1 rfl rfl rfl (split_cod ha hb) (?_)
      refine rv rfl rfl (?_)
      refine rv rfl rfl (?_)
      refine rv rfl rfl (?_)
      refine rv rfl rfl (?_)
      refine rv rfl rfl (?_)
      refine rn ?_
      refine then_normal ?_
      refine awp_seq ?_
      refine awp_seq ?_
      refine awp_region ?_
      refine rv rfl rfl (?_)
      refine rv rfl rfl (?_)
      refine rv rfl rfl (?_)
      refine rv rfl rfl (?_)
      (first | refine gy rfl rfl rfl (rv rfl rfl (?_)) | refine gn rfl rfl rfl rfl rfl ?_ | refine gu rfl rfl rfl rfl ?_ | refine gs rfl rfl rfl rfl rfl (fun hg => rv rfl rfl (?_)) (fun hg => ?_)) <;> (
      (first | refine gy rfl rfl rfl (rv rfl rfl (?_)) | refine gn rfl rfl rfl rfl rfl ?_ | refine gu rfl rfl rfl rfl ?_ | refine gs rfl rfl rfl rfl rfl (fun hg => rv rfl rfl (?_)) (fun hg => ?_)) <;> (
      (first | refine gy rfl rfl rfl (rv rfl rfl (?_)) | refine gn rfl rfl rfl rfl rfl ?_ | refine gu rfl rfl rfl rfl ?_ | refine gs rfl rfl rfl rfl rfl (fun hg => rv rfl rfl (?_)) (fun hg => ?_)) <;> (
      refine rv rfl rfl (?_)
      refine rn ?_
      refine then_normal ?_
      refine cs_ rfl (fun hc => ?_) (fun hc => ?_)
      · first
        | (cases hc; done)
        | (
          refine awp_seq ?_
          refine awp_region ?_
          refine rv rfl rfl (?_)
          refine rn ?_
          refine then_normal ?_
          refine awp_ret ?_
          repeat (first | refine then_ret ?_ | refine inBlock_ret ?_)
          refine rr rfl rfl ?_
          first | rfl | (simp at hc; done) | (simp at hg; done) | (have hq := bcod a b c d ha hb hc' hd e; simp_all; done) | (simp [inR, hx.2.1, hx.2.2, hz.2.1, hz.2.2]; done))
      · first
        | (cases hc; done)
        | (
          refine awp_skip ?_
          refine then_normal ?_
          refine awp_seq ?_
          refine awp_seq ?_
          refine awp_region ?_
          refine rv rfl rfl (?_)
          refine rv rfl rfl (?_)
          refine rv rfl rfl (?_)
          refine rv rfl rfl (?_)
          refine rv rfl rfl (?_)
          refine rv rfl rfl (?_)
          refine rv rfl rfl (?_)
          (first | refine gy rfl rfl rfl (rv rfl rfl (?_)) | refine gn rfl rfl rfl rfl rfl ?_ | refine gu rfl rfl rfl rfl ?_ | refine gs rfl rfl rfl rfl rfl (fun hg => rv rfl rfl (?_)) (fun hg => ?_)) <;> (
          (first | refine gy rfl rfl rfl (rv rfl rfl (?_)) | refine gn rfl rfl rfl rfl rfl ?_ | refine gu rfl rfl rfl rfl ?_ | refine gs rfl rfl rfl rfl rfl (fun hg => rv rfl rfl (?_)) (fun hg => ?_)) <;> (
          (first | refine gy rfl rfl rfl (rv rfl rfl (?_)) | refine gn rfl rfl rfl rfl rfl ?_ | refine gu rfl rfl rfl rfl ?_ | refine gs rfl rfl rfl rfl rfl (fun hg => rv rfl rfl (?_)) (fun hg => ?_)) <;> (
          refine rv rfl rfl (?_)
          refine rv rfl rfl (?_)
          refine rn ?_
          refine then_normal ?_
          refine cs_ rfl (fun hc => ?_) (fun hc => ?_)
          · first
            | (cases hc; done)
            | (
              refine awp_seq ?_
              refine awp_region ?_
              refine rv rfl rfl (?_)
              refine rn ?_
              refine then_normal ?_
              refine awp_ret ?_
              repeat (first | refine then_ret ?_ | refine inBlock_ret ?_)
              refine rr rfl rfl ?_
              first | rfl | (simp at hc; done) | (simp at hg; done) | (have hq := bcod a b c d ha hb hc' hd e; simp_all; done) | (simp [inR, hx.2.1, hx.2.2, hz.2.1, hz.2.2]; done))
          · first
            | (cases hc; done)
            | (
              refine awp_skip ?_
              refine then_normal ?_
              refine awp_seq ?_
              refine awp_region ?_
              refine rv rfl rfl (?_)
              refine rv rfl rfl (?_)
              refine rv' rfl (opv_eq rfl (mul2 he)) (?_)
              refine rv' rfl (shrN rfl rfl (by omega)) (?_)
              refine rv rfl rfl (?_)
              refine rn ?_
              refine then_normal ?_
              refine awp_seq ?_
              refine awp_region ?_
              refine rv rfl rfl (?_)
              refine rv rfl rfl (?_)
              refine rv' rfl (opv_eq rfl (mul2 he)) (?_)
              refine rv' rfl (shrN rfl rfl (by omega)) (?_)
              refine rv rfl rfl (?_)
              refine rn ?_
              refine then_normal ?_
              refine awp_seq ?_
              refine awp_seq ?_
              refine awp_dp (m := 20) Try.mix (by kernel_rfl) (by kernel_rfl) (by kernel_rfl) (by kernel_rfl) (by kernel_rfl) (by kernel_rfl) (by kernel_rfl) ?_
              refine dv rfl rfl (fun _ => rfl) ?_
              refine dv rfl rfl (fun _ => rfl) ?_
              refine dv rfl rfl (fun _ => rfl) ?_
              refine dv rfl rfl (fun _ => rfl) ?_
              refine dv rfl rfl (fun _ => rfl) ?_
              refine dv rfl rfl (fun _ => (nfO_eq _).trans (shrI rfl rfl (by omega))) ?_
              refine dv rfl rfl (fun _ => rfl) ?_
              refine dv rfl rfl (fun _ => rfl) ?_
              refine dv rfl rfl (fun _ => (nfO_eq _).trans (shrI rfl rfl (by omega))) ?_
              refine dv rfl rfl (fun _ => rfl) ?_
              refine dv rfl rfl (fun _ => rfl) ?_
              (first | refine dv rfl rfl (fun _ => rfl) ?_ | refine dno rfl rfl ?_ | (refine ds rfl rfl (fun hg => ?_) (fun hg => ?_) <;> first | refine dv rfl rfl (fun _ => rfl) ?_ | refine dno rfl rfl ?_)) <;> (
              (first | refine dv rfl rfl (fun _ => rfl) ?_ | refine dno rfl rfl ?_ | (refine ds rfl rfl (fun hg => ?_) (fun hg => ?_) <;> first | refine dv rfl rfl (fun _ => rfl) ?_ | refine dno rfl rfl ?_)) <;> (
              (first | refine dv rfl rfl (fun _ => (nfO_eq _).trans (shrI rfl rfl (by omega))) ?_ | refine dno rfl rfl ?_ | (refine ds rfl rfl (fun hg => ?_) (fun hg => ?_) <;> first | refine dv rfl rfl (fun _ => (nfO_eq _).trans (shrI rfl rfl (by omega))) ?_ | refine dno rfl rfl ?_)) <;> (
              (first | refine dv rfl rfl (fun _ => rfl) ?_ | refine dno rfl rfl ?_ | (refine ds rfl rfl (fun hg => ?_) (fun hg => ?_) <;> first | refine dv rfl rfl (fun _ => rfl) ?_ | refine dno rfl rfl ?_)) <;> (
              (first | refine dv rfl rfl (fun _ => rfl) ?_ | refine dno rfl rfl ?_ | (refine ds rfl rfl (fun hg => ?_) (fun hg => ?_) <;> first | refine dv rfl rfl (fun _ => rfl) ?_ | refine dno rfl rfl ?_)) <;> (
              (first | refine dv rfl rfl (fun _ => (nfO_eq _).trans (shrI rfl rfl (by omega))) ?_ | refine dno rfl rfl ?_ | (refine ds rfl rfl (fun hg => ?_) (fun hg => ?_) <;> first | refine dv rfl rfl (fun _ => (nfO_eq _).trans (shrI rfl rfl (by omega))) ?_ | refine dno rfl rfl ?_)) <;> (
              (first | refine dv rfl rfl (fun _ => rfl) ?_ | refine dno rfl rfl ?_ | (refine ds rfl rfl (fun hg => ?_) (fun hg => ?_) <;> first | refine dv rfl rfl (fun _ => rfl) ?_ | refine dno rfl rfl ?_)) <;> (
              refine dv rfl rfl (fun _ => rfl) ?_
              refine dv rfl rfl (fun _ => rfl) ?_
              refine dn ?_
              refine rn ?_
              refine then_normal ?_
              refine cs_ rfl (fun hc => ?_) (fun hc => ?_)
              · first
                | (cases hc; done)
                | (
                  refine awp_seq ?_
                  refine awp_region ?_
                  refine rv rfl rfl (?_)
                  refine rn ?_
                  refine then_normal ?_
                  refine awp_ret ?_
                  repeat (first | refine then_ret ?_ | refine inBlock_ret ?_)
                  refine rr rfl rfl ?_
                  first | rfl | (simp at hc; done) | (simp at hg; done) | (have hq := bcod a b c d ha hb hc' hd e; simp_all; done) | (simp [inR, hx.2.1, hx.2.2, hz.2.1, hz.2.2]; done))
              · first
                | (cases hc; done)
                | (
                  refine awp_skip ?_
                  refine then_normal ?_
                  refine awp_seq ?_
                  refine awp_region ?_
                  refine rv rfl rfl (?_)
                  refine rv rfl rfl (?_)
                  refine rc1 rfl rfl rfl (cell_cb h hq) (?_)
                  refine rv rfl rfl (?_)
                  refine rv rfl rfl (?_)
                  refine rv rfl rfl (?_)
                  refine rv rfl rfl (?_)
                  refine rv rfl rfl (?_)
                  refine rv rfl rfl (?_)
                  refine rv rfl rfl (?_)
                  refine rn ?_
                  refine then_normal ?_
                  refine awp_seq ?_
                  refine awp_seq ?_
                  refine awp_region ?_
                  refine rv rfl rfl (?_)
                  refine rv rfl rfl (?_)
                  refine rn ?_
                  refine then_normal ?_
                  refine cs_ rfl (fun hc => ?_) (fun hc => ?_)
                  · first
                    | (cases hc; done)
                    | (
                      refine awp_seq ?_
                      refine awp_region ?_
                      refine rv rfl rfl (?_)
                      refine rv rfl rfl (?_)
                      refine rn ?_
                      refine then_normal ?_
                      refine awp_ret ?_
                      repeat (first | refine then_ret ?_ | refine inBlock_ret ?_)
                      refine rr rfl rfl ?_
                      first | rfl | (simp at hc; done) | (simp at hg; done) | (have hq := bcod a b c d ha hb hc' hd e; simp_all; done) | (simp [inR, hx.2.1, hx.2.2, hz.2.1, hz.2.2]; done))
                  · first
                    | (cases hc; done)
                    | (
                      refine awp_skip ?_
                      refine then_normal ?_
                      refine awp_seq ?_
                      (have hbd := mayP_iff.1 hq; have hx := cel_in hk hbd.1; have hz := cel_in hk hbd.2; have hin : inS (k : Int) (cel (k : Int) x) (cel (k : Int) y) = true := by simp [inS, hx.1, hz.1]) <;> (
                      refine awp_region ?_
                      refine rv rfl rfl (?_)
                      refine rv rfl rfl (?_)
                      refine rv rfl rfl (?_)
                      refine rc1 rfl rfl rfl (box_cb hin) (?_)
                      refine rv rfl rfl (?_)
                      refine rv rfl rfl (?_)
                      refine rv rfl rfl (?_)
                      refine ra rfl rfl rfl (?_)
                      refine rs rfl rfl rfl rfl rfl rfl rfl (?_)
                      refine rv rfl rfl (?_)
                      refine rn ?_
                      refine then_normal ?_
                      refine awp_seq ?_
                      refine awp_region ?_
                      refine rv rfl rfl (?_)
                      refine rv rfl rfl (?_)
                      refine rc1 rfl rfl rfl rIn_c (?_)
                      refine rv rfl rfl (?_)
                      refine rn ?_
                      refine then_normal ?_
                      refine awp_seq ?_
                      refine awp_region ?_
                      refine rv rfl rfl (?_)
                      refine rv rfl rfl (?_)
                      (first | refine gy rfl rfl rfl (rv rfl rfl (?_)) | refine gn rfl rfl rfl rfl rfl ?_ | refine gu rfl rfl rfl rfl ?_ | refine gs rfl rfl rfl rfl rfl (fun hg => rv rfl rfl (?_)) (fun hg => ?_)) <;> (
                      (first | refine gy rfl rfl rfl (rv rfl rfl (?_)) | refine gn rfl rfl rfl rfl rfl ?_ | refine gu rfl rfl rfl rfl ?_ | refine gs rfl rfl rfl rfl rfl (fun hg => rv rfl rfl (?_)) (fun hg => ?_)) <;> (
                      refine rv rfl rfl (?_)
                      refine rv rfl rfl (?_)
                      (first | refine gy rfl rfl rfl (rv rfl rfl (?_)) | refine gn rfl rfl rfl rfl rfl ?_ | refine gu rfl rfl rfl rfl ?_ | refine gs rfl rfl rfl rfl rfl (fun hg => rv rfl rfl (?_)) (fun hg => ?_)) <;> (
                      refine rv rfl rfl (?_)
                      refine rv rfl rfl (?_)
                      refine rn ?_
                      refine then_normal ?_
                      refine awp_ret ?_
                      repeat (first | refine then_ret ?_ | refine inBlock_ret ?_)
                      refine rr rfl rfl ?_
                      first | rfl | (simp at hc; done) | (simp at hg; done) | (have hq := bcod a b c d ha hb hc' hd e; simp_all; done) | (simp [inR, hx.2.1, hx.2.2, hz.2.1, hz.2.2]; done)))))))))))))))))))))))))))))
end

section
attribute [local irreducible] awp aops DP PCall Decidable.decide
/-- `plover/ploverlaw04.MortonBack` -/
theorem MortonBack_ok2 {s x y : Int} {a b c d e : Nat} (ha : a < 2147483648) (hb : b < 2147483648) (hc' : c < 2147483648) (hd : d < 2147483648) (he : e ≤ 30) (h : mayS s = true) (hq : mayP x y = false) : PCall Try.prog 13 [.int .i64 s, .agg [.int .i64 x, .int .i64 y], .int .i64 ((a : Nat) : Int), .int .i64 ((b : Nat) : Int), .int .i64 ((c : Nat) : Int), .int .i64 ((d : Nat) : Int), .int .i64 ((e : Nat) : Int)] (· = .bool (true)) := by
  refine pcall_body Try.func13 rfl (by kernel_rfl) (by rfl) ?_
  refine awp_seq ?_
  refine awp_region ?_
  refine rb rfl rfl (?_)
  refine rv rfl rfl (?_)
  refine rn ?_
  refine then_normal ?_
  refine awp_seq ?_
  refine awp_region ?_
  refine rc1 rfl rfl rfl up4_c (?_)
  refine rv rfl rfl (?_)
  refine rn ?_
  refine then_normal ?_
  refine awp_seq ?_
  refine awp_region ?_
  refine rv rfl rfl (?_)
  refine rv rfl rfl (?_)
  refine rc1 rfl rfl rfl (code_ok ha hb) (?_)
  refine rv rfl rfl (?_)
  refine rv rfl rfl (?_)
  refine rv rfl rfl (?_)
  refine rv rfl rfl (?_)
  refine rv rfl rfl (?_)
  refine rn ?_
  refine then_normal ?_
  refine awp_seq ?_
  refine awp_region ?_
  refine rv rfl rfl (?_)
  refine rv rfl rfl (?_)
  refine rc1 rfl rfl rfl (code_ok hc' hd) (?_)
  refine rv rfl rfl (?_)
  refine rv rfl rfl (?_)
  refine rv rfl rfl (?_)
  refine rv rfl rfl (?_)
  refine rv rfl rfl (?_)
  refine rn ?_
  refine then_normal ?_
  refine awp_seq ?_
  refine awp_seq ?_
  refine awp_region ?_
  refine rv rfl rfl (?_)
  refine rv rfl rfl (?_)
  refine rv rfl rfl (?_)
  (first | refine gy rfl rfl rfl (rv rfl rfl (?_)) | refine gn rfl rfl rfl rfl rfl ?_ | refine gu rfl rfl rfl rfl ?_ | refine gs rfl rfl rfl rfl rfl (fun hg => rv rfl rfl (?_)) (fun hg => ?_)) <;> (
  (first | refine gy rfl rfl rfl (rv rfl rfl (?_)) | refine gn rfl rfl rfl rfl rfl ?_ | refine gu rfl rfl rfl rfl ?_ | refine gs rfl rfl rfl rfl rfl (fun hg => rv rfl rfl (?_)) (fun hg => ?_)) <;> (
  refine rv rfl rfl (?_)
  refine rv rfl rfl (?_)
  (first | refine gy rfl rfl rfl (rv rfl rfl (?_)) | refine gn rfl rfl rfl rfl rfl ?_ | refine gu rfl rfl rfl rfl ?_ | refine gs rfl rfl rfl rfl rfl (fun hg => rv rfl rfl (?_)) (fun hg => ?_)) <;> (
  (first | refine gy rfl rfl rfl (rv rfl rfl (?_)) | refine gn rfl rfl rfl rfl rfl ?_ | refine gu rfl rfl rfl rfl ?_ | refine gs rfl rfl rfl rfl rfl (fun hg => rv rfl rfl (?_)) (fun hg => ?_)) <;> (
  refine rv rfl rfl (?_)
  refine rv rfl rfl (?_)
  (first | refine gy rfl rfl rfl (rv rfl rfl (?_)) | refine gn rfl rfl rfl rfl rfl ?_ | refine gu rfl rfl rfl rfl ?_ | refine gs rfl rfl rfl rfl rfl (fun hg => rv rfl rfl (?_)) (fun hg => ?_)) <;> (
  (first | refine gy rfl rfl rfl (rv rfl rfl (?_)) | refine gn rfl rfl rfl rfl rfl ?_ | refine gu rfl rfl rfl rfl ?_ | refine gs rfl rfl rfl rfl rfl (fun hg => rv rfl rfl (?_)) (fun hg => ?_)) <;> (
  refine rv rfl rfl (?_)
  refine rn ?_
  refine then_normal ?_
  refine cs_ rfl (fun hc => ?_) (fun hc => ?_)
  · first
    | (cases hc; done)
    | (
      refine awp_seq ?_
      refine awp_region ?_
      refine rv rfl rfl (?_)
      refine rv rfl rfl (?_)
      refine rn ?_
      refine then_normal ?_
      refine awp_ret ?_
      repeat (first | refine then_ret ?_ | refine inBlock_ret ?_)
      refine rr rfl rfl ?_
      first | rfl | (simp at hc; done) | (simp at hg; done) | (have hq := bcod a b c d ha hb hc' hd e; simp_all; done))
  · first
    | (cases hc; done)
    | (
      refine awp_skip ?_
      refine then_normal ?_
      refine awp_seq ?_
      refine awp_region ?_
      refine rv rfl rfl (?_)
      refine rc1 rfl rfl rfl (split_cod ha hb) (?_)
      refine rv rfl rfl (?_)
      refine rv rfl rfl (?_)
      refine rv rfl rfl (?_)
      refine rv rfl rfl (?_)
      refine rv rfl rfl (?_)
      refine rn ?_
      refine then_normal ?_
      refine awp_seq ?_
      refine awp_seq ?_
      refine awp_region ?_
      refine rv rfl rfl (?_)
      refine rv rfl rfl (?_)
      refine rv rfl rfl (?_)
      refine rv rfl rfl (?_)
      (first | refine gy rfl rfl rfl (rv rfl rfl (?_)) | refine gn rfl rfl rfl rfl rfl ?_ | refine gu rfl rfl rfl rfl ?_ | refine gs rfl rfl rfl rfl rfl (fun hg => rv rfl rfl (?_)) (fun hg => ?_)) <;> (
      (first | refine gy rfl rfl rfl (rv rfl rfl (?_)) | refine gn rfl rfl rfl rfl rfl ?_ | refine gu rfl rfl rfl rfl ?_ | refine gs rfl rfl rfl rfl rfl (fun hg => rv rfl rfl (?_)) (fun hg => ?_)) <;> (
      (first | refine gy rfl rfl rfl (rv rfl rfl (?_)) | refine gn rfl rfl rfl rfl rfl ?_ | refine gu rfl rfl rfl rfl ?_ | refine gs rfl rfl rfl rfl rfl (fun hg => rv rfl rfl (?_)) (fun hg => ?_)) <;> (
      refine rv rfl rfl (?_)
      refine rn ?_
      refine then_normal ?_
      refine cs_ rfl (fun hc => ?_) (fun hc => ?_)
      · first
        | (cases hc; done)
        | (
          refine awp_seq ?_
          refine awp_region ?_
          refine rv rfl rfl (?_)
          refine rn ?_
          refine then_normal ?_
          refine awp_ret ?_
          repeat (first | refine then_ret ?_ | refine inBlock_ret ?_)
          refine rr rfl rfl ?_
          first | rfl | (simp at hc; done) | (simp at hg; done) | (have hq := bcod a b c d ha hb hc' hd e; simp_all; done))
      · first
        | (cases hc; done)
        | (
          refine awp_skip ?_
          refine then_normal ?_
          refine awp_seq ?_
          refine awp_seq ?_
          refine awp_region ?_
          refine rv rfl rfl (?_)
          refine rv rfl rfl (?_)
          refine rv rfl rfl (?_)
          refine rv rfl rfl (?_)
          refine rv rfl rfl (?_)
          refine rv rfl rfl (?_)
          refine rv rfl rfl (?_)
          (first | refine gy rfl rfl rfl (rv rfl rfl (?_)) | refine gn rfl rfl rfl rfl rfl ?_ | refine gu rfl rfl rfl rfl ?_ | refine gs rfl rfl rfl rfl rfl (fun hg => rv rfl rfl (?_)) (fun hg => ?_)) <;> (
          (first | refine gy rfl rfl rfl (rv rfl rfl (?_)) | refine gn rfl rfl rfl rfl rfl ?_ | refine gu rfl rfl rfl rfl ?_ | refine gs rfl rfl rfl rfl rfl (fun hg => rv rfl rfl (?_)) (fun hg => ?_)) <;> (
          (first | refine gy rfl rfl rfl (rv rfl rfl (?_)) | refine gn rfl rfl rfl rfl rfl ?_ | refine gu rfl rfl rfl rfl ?_ | refine gs rfl rfl rfl rfl rfl (fun hg => rv rfl rfl (?_)) (fun hg => ?_)) <;> (
          refine rv rfl rfl (?_)
          refine rv rfl rfl (?_)
          refine rn ?_
          refine then_normal ?_
          refine cs_ rfl (fun hc => ?_) (fun hc => ?_)
          · first
            | (cases hc; done)
            | (
              refine awp_seq ?_
              refine awp_region ?_
              refine rv rfl rfl (?_)
              refine rn ?_
              refine then_normal ?_
              refine awp_ret ?_
              repeat (first | refine then_ret ?_ | refine inBlock_ret ?_)
              refine rr rfl rfl ?_
              first | rfl | (simp at hc; done) | (simp at hg; done) | (have hq := bcod a b c d ha hb hc' hd e; simp_all; done))
          · first
            | (cases hc; done)
            | (
              refine awp_skip ?_
              refine then_normal ?_
              refine awp_seq ?_
              refine awp_region ?_
              refine rv rfl rfl (?_)
              refine rv rfl rfl (?_)
              refine rv' rfl (opv_eq rfl (mul2 he)) (?_)
              refine rv' rfl (shrN rfl rfl (by omega)) (?_)
              refine rv rfl rfl (?_)
              refine rn ?_
              refine then_normal ?_
              refine awp_seq ?_
              refine awp_region ?_
              refine rv rfl rfl (?_)
              refine rv rfl rfl (?_)
              refine rv' rfl (opv_eq rfl (mul2 he)) (?_)
              refine rv' rfl (shrN rfl rfl (by omega)) (?_)
              refine rv rfl rfl (?_)
              refine rn ?_
              refine then_normal ?_
              refine awp_seq ?_
              refine awp_seq ?_
              refine awp_dp (m := 20) Try.mix (by kernel_rfl) (by kernel_rfl) (by kernel_rfl) (by kernel_rfl) (by kernel_rfl) (by kernel_rfl) (by kernel_rfl) ?_
              refine dv rfl rfl (fun _ => rfl) ?_
              refine dv rfl rfl (fun _ => rfl) ?_
              refine dv rfl rfl (fun _ => rfl) ?_
              refine dv rfl rfl (fun _ => rfl) ?_
              refine dv rfl rfl (fun _ => rfl) ?_
              refine dv rfl rfl (fun _ => (nfO_eq _).trans (shrI rfl rfl (by omega))) ?_
              refine dv rfl rfl (fun _ => rfl) ?_
              refine dv rfl rfl (fun _ => rfl) ?_
              refine dv rfl rfl (fun _ => (nfO_eq _).trans (shrI rfl rfl (by omega))) ?_
              refine dv rfl rfl (fun _ => rfl) ?_
              refine dv rfl rfl (fun _ => rfl) ?_
              (first | refine dv rfl rfl (fun _ => rfl) ?_ | refine dno rfl rfl ?_ | (refine ds rfl rfl (fun hg => ?_) (fun hg => ?_) <;> first | refine dv rfl rfl (fun _ => rfl) ?_ | refine dno rfl rfl ?_)) <;> (
              (first | refine dv rfl rfl (fun _ => rfl) ?_ | refine dno rfl rfl ?_ | (refine ds rfl rfl (fun hg => ?_) (fun hg => ?_) <;> first | refine dv rfl rfl (fun _ => rfl) ?_ | refine dno rfl rfl ?_)) <;> (
              (first | refine dv rfl rfl (fun _ => (nfO_eq _).trans (shrI rfl rfl (by omega))) ?_ | refine dno rfl rfl ?_ | (refine ds rfl rfl (fun hg => ?_) (fun hg => ?_) <;> first | refine dv rfl rfl (fun _ => (nfO_eq _).trans (shrI rfl rfl (by omega))) ?_ | refine dno rfl rfl ?_)) <;> (
              (first | refine dv rfl rfl (fun _ => rfl) ?_ | refine dno rfl rfl ?_ | (refine ds rfl rfl (fun hg => ?_) (fun hg => ?_) <;> first | refine dv rfl rfl (fun _ => rfl) ?_ | refine dno rfl rfl ?_)) <;> (
              (first | refine dv rfl rfl (fun _ => rfl) ?_ | refine dno rfl rfl ?_ | (refine ds rfl rfl (fun hg => ?_) (fun hg => ?_) <;> first | refine dv rfl rfl (fun _ => rfl) ?_ | refine dno rfl rfl ?_)) <;> (
              (first | refine dv rfl rfl (fun _ => (nfO_eq _).trans (shrI rfl rfl (by omega))) ?_ | refine dno rfl rfl ?_ | (refine ds rfl rfl (fun hg => ?_) (fun hg => ?_) <;> first | refine dv rfl rfl (fun _ => (nfO_eq _).trans (shrI rfl rfl (by omega))) ?_ | refine dno rfl rfl ?_)) <;> (
              (first | refine dv rfl rfl (fun _ => rfl) ?_ | refine dno rfl rfl ?_ | (refine ds rfl rfl (fun hg => ?_) (fun hg => ?_) <;> first | refine dv rfl rfl (fun _ => rfl) ?_ | refine dno rfl rfl ?_)) <;> (
              refine dv rfl rfl (fun _ => rfl) ?_
              refine dv rfl rfl (fun _ => rfl) ?_
              refine dn ?_
              refine rn ?_
              refine then_normal ?_
              refine cs_ rfl (fun hc => ?_) (fun hc => ?_)
              · first
                | (cases hc; done)
                | (
                  refine awp_seq ?_
                  refine awp_region ?_
                  refine rv rfl rfl (?_)
                  refine rn ?_
                  refine then_normal ?_
                  refine awp_ret ?_
                  repeat (first | refine then_ret ?_ | refine inBlock_ret ?_)
                  refine rr rfl rfl ?_
                  first | rfl | (simp at hc; done) | (simp at hg; done) | (have hq := bcod a b c d ha hb hc' hd e; simp_all; done))
              · first
                | (cases hc; done)
                | (
                  refine awp_skip ?_
                  refine then_normal ?_
                  refine awp_seq ?_
                  refine awp_region ?_
                  refine rv rfl rfl (?_)
                  refine rv rfl rfl (?_)
                  refine rc1 rfl rfl rfl (cell_cb h hq) (?_)
                  refine rv rfl rfl (?_)
                  refine rv rfl rfl (?_)
                  refine rv rfl rfl (?_)
                  refine rv rfl rfl (?_)
                  refine rv rfl rfl (?_)
                  refine rv rfl rfl (?_)
                  refine rv rfl rfl (?_)
                  refine rn ?_
                  refine then_normal ?_
                  refine awp_seq ?_
                  refine awp_seq ?_
                  refine awp_region ?_
                  refine rv rfl rfl (?_)
                  refine rv rfl rfl (?_)
                  refine rn ?_
                  refine then_normal ?_
                  refine cs_ rfl (fun hc => ?_) (fun hc => ?_)
                  · first
                    | (cases hc; done)
                    | (
                      refine awp_seq ?_
                      refine awp_region ?_
                      refine rv rfl rfl (?_)
                      refine rv rfl rfl (?_)
                      refine rn ?_
                      refine then_normal ?_
                      refine awp_ret ?_
                      repeat (first | refine then_ret ?_ | refine inBlock_ret ?_)
                      refine rr rfl rfl ?_
                      first | rfl | (simp at hc; done) | (simp at hg; done) | (have hq := bcod a b c d ha hb hc' hd e; simp_all; done))
                  · first
                    | (cases hc; done)
                    | (
                      refine awp_skip ?_
                      refine then_normal ?_
                      refine awp_seq ?_
                      exfalso
                      first | (simp at hc; done)))))))))))))))))))))))))
end

theorem MortonBack_c {s x y a b c d e : Int} (w0 : (Lit.int .i64 s).wf = true) (w2 : (Lit.int .i64 a).wf = true) (w3 : (Lit.int .i64 b).wf = true) (w4 : (Lit.int .i64 c).wf = true) (w5 : (Lit.int .i64 d).wf = true) (w6 : (Lit.int .i64 e).wf = true) :
    PCall Try.prog 13 [.int .i64 s, .agg [.int .i64 x, .int .i64 y], .int .i64 a, .int .i64 b, .int .i64 c, .int .i64 d, .int .i64 e] (· = .bool true) := by
  by_cases hn : (cfar a || cfar b) = true ∨ (cfar c || cfar d) = true ∨ e < 0 ∨ e > 30
  · exact MortonBack_no hn
  · simp only [not_or, Bool.not_eq_true, Bool.or_eq_false_iff, cfar, decide_eq_false_iff_not] at hn
    obtain ⟨⟨h1, h2⟩, ⟨h3, h4⟩, h5, h6⟩ := hn
    obtain ⟨a, rfl⟩ := Int.eq_ofNat_of_zero_le (a := a) (by omega)
    obtain ⟨b, rfl⟩ := Int.eq_ofNat_of_zero_le (a := b) (by omega)
    obtain ⟨c, rfl⟩ := Int.eq_ofNat_of_zero_le (a := c) (by omega)
    obtain ⟨d, rfl⟩ := Int.eq_ofNat_of_zero_le (a := d) (by omega)
    obtain ⟨e, rfl⟩ := Int.eq_ofNat_of_zero_le (a := e) (by omega)
    cases h : mayS s with
    | false => exact MortonBack_ok0 (by omega) (by omega) (by omega) (by omega) (by omega) h
    | true =>
      cases hq : mayP x y with
      | false => exact MortonBack_ok2 (by omega) (by omega) (by omega) (by omega) (by omega) h hq
      | true =>
        have hs : 24 ≤ s ∧ s ≤ 31 := by simpa [mayS] using h
        obtain ⟨k, rfl⟩ := Int.eq_ofNat_of_zero_le (a := s) (by omega)
        exact MortonBack_ok1 (by omega) (by omega) (by omega) (by omega) (by omega) (by omega) h hq

end Go.Proofs.Ytfonfgnbjkpanaa
