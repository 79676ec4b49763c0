/- CoverHolds: for every input the law returns true, and each argument reads behind the call as it read before. -/
import Derived.Test.YtngeejjllgnpcaaE05h
import Derived.Test.YtngeejjllgnpcaaRows
namespace Go.Proofs.Ytngeejjllgnpcaa
open Go.ChangeShapes Go.WideShapes Go.ChangeAt Go.RowKit Go.Pv
set_option maxRecDepth 100000
set_option maxHeartbeats 4000000
set_option linter.unusedSimpArgs false
set_option linter.unusedVariables false
set_option linter.unusedSectionVars false

theorem CoverHolds_own : ownKnob Try.prog.godebug = none := by kernel_rfl
theorem CoverHolds_laid : laidOutB Try.prog = true := by kernel_rfl

theorem CoverHolds_all (xs : List AV) (h : DatVs Try.prog [3, 38, 24] xs) : PCall Try.prog 12 xs (· = .bool true) := by
  obtain ⟨x0, r, rfl, h0, h⟩ := datVs2 h
  obtain ⟨x1, r, rfl, h1, h⟩ := datVs2 h
  obtain ⟨x2, r, rfl, h2, h⟩ := datVs2 h
  obtain rfl := datVs0 h
  obtain ⟨n0, h0⟩ := datV_o (i := Try.i3) rfl (by intro _ _ h; cases h) h0
  obtain ⟨a0, e0, k0⟩ := dat_Int (i := Try.i3) rfl rfl h0
  obtain rfl := List.head_eq_of_cons_eq e0
  obtain ⟨a1, rfl, k1⟩ := datV_tRect h1
  obtain ⟨a2, rfl, k2⟩ := datV_tPoint h2
  exact CoverHolds_c k0 k1 k2

theorem CoverHolds_lifted (os : Os) (started : os.Started) (H : Type) (enc : TypeId × Value → H) :
    ReturnsInHanded {} Try.checked os 12 .any (Rows.coverHoldsSpec.pre6 enc Try.prog Try.f12 Rows.coverHoldsRow.domain false) (Rows.coverHoldsSpec.post enc Try.prog Try.f12 false true false false) := by
  refine returnsInHanded_of_change (C := Try.checked) CoverHolds_own started (by kernel_rfl) Try.func12
    (ChangeSpec.witness6 (enc := enc) (C := Try.checked) false ⟨#[], #[.int .i64 0, .agg #[.int .i64 0, .int .i64 0, .int .i64 0, .int .i64 0], .agg #[.int .i64 0, .int .i64 0]], []⟩ 8 (by kernel_rfl) (by kernel_rfl) (by kernel_rfl) (by kernel_rfl)) ?_
  intro W base args ds gs before hval hW _ _
  exact law_row (P := Try.prog) [2, 3, 24, 38] [3, 38, 24] 4 rfl CoverHolds_laid (by kernel_rfl) (by kernel_rfl) rfl Try.underlying4 rfl
    (fun ds h => by match ds, h with | [_, _, _], _ => rfl) CoverHolds_all hval hW (fun _ h => by cases h)

theorem CoverHolds_holds : Rows.CoverHoldsSaid :=
  OpenClaim.holds_of_wide 12 Try.f12 rfl rfl rfl rfl rfl rfl rfl ⟨rfl, rfl, rfl, rfl, rfl⟩ rfl rfl rfl rfl rfl (by kernel_rfl) Try.func12 (by kernel_rfl)
    (of_decide_eq_true (by kernel_rfl)) (by unfold Func.isWrapper; first | (rw [if_pos (by decide +kernel)]; kernel_rfl) | (rw [if_neg (by decide +kernel)]; exact ⟨rfl, rfl⟩))
    (fun os started H enc _ => CoverHolds_lifted os started H enc)
#print axioms CoverHolds_holds
end Go.Proofs.Ytngeejjllgnpcaa
