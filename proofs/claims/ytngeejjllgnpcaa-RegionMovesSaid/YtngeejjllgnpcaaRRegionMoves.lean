/- RegionMoves: for every input the law returns true, and each argument reads behind the call as it read before. -/
import Derived.Test.YtngeejjllgnpcaaE16
import Derived.Test.YtngeejjllgnpcaaRows
namespace Go.Proofs.Ytngeejjllgnpcaa
open Go.ChangeShapes Go.WideShapes Go.ChangeAt Go.RowKit Go.Pv
set_option maxRecDepth 100000
set_option maxHeartbeats 4000000
set_option linter.unusedSimpArgs false
set_option linter.unusedVariables false
set_option linter.unusedSectionVars false

theorem RegionMoves_own : ownKnob Try.prog.godebug = none := by kernel_rfl
theorem RegionMoves_laid : laidOutB Try.prog = true := by kernel_rfl

theorem RegionMoves_all (xs : List AV) (h : DatVs Try.prog [44, 24] xs) : PCall Try.prog 9 xs (· = .bool true) := by
  obtain ⟨x0, r, rfl, h0, h⟩ := datVs2 h
  obtain ⟨x1, r, rfl, h1, h⟩ := datVs2 h
  obtain rfl := datVs0 h
  obtain ⟨a0, rfl, k0⟩ := datV_tRegion h0
  obtain ⟨a1, rfl, k1⟩ := datV_tPoint h1
  exact RegionMoves_c k0 k1

theorem RegionMoves_lifted (os : Os) (started : os.Started) (H : Type) (enc : TypeId × Value → H) :
    ReturnsInHanded {} Try.checked os 9 .any (Rows.regionMovesSpec.pre6 enc Try.prog Try.f9 Rows.regionMovesRow.domain false) (Rows.regionMovesSpec.post enc Try.prog Try.f9 false true false false) := by
  refine returnsInHanded_of_change (C := Try.checked) RegionMoves_own started (by kernel_rfl) Try.func9
    (ChangeSpec.witness6 (enc := enc) (C := Try.checked) false ⟨#[], #[.agg #[.int .i64 0, .int .i64 0, .int .i64 0, .int .i64 0, .slice none 0 0], .agg #[.int .i64 0, .int .i64 0]], []⟩ 8 (by kernel_rfl) (by kernel_rfl) (by kernel_rfl) (by kernel_rfl)) ?_
  intro W base args ds gs before hval hW _ _
  exact law_row (P := Try.prog) [2, 22, 24, 38, 44] [44, 24] 4 rfl RegionMoves_laid (by kernel_rfl) (by kernel_rfl) rfl Try.underlying4 rfl
    (fun ds h => by match ds, h with | [_, _], _ => rfl) RegionMoves_all hval hW (fun _ h => by cases h)

theorem RegionMoves_holds : Rows.RegionMovesSaid :=
  OpenClaim.holds_of_wide 9 Try.f9 rfl rfl rfl rfl rfl rfl rfl ⟨rfl, rfl, rfl, rfl, rfl⟩ rfl rfl rfl rfl rfl (by kernel_rfl) Try.func9 (by kernel_rfl)
    (of_decide_eq_true (by kernel_rfl)) (by unfold Func.isWrapper; first | (rw [if_pos (by decide +kernel)]; kernel_rfl) | (rw [if_neg (by decide +kernel)]; exact ⟨rfl, rfl⟩))
    (fun os started H enc _ => RegionMoves_lifted os started H enc)
#print axioms RegionMoves_holds
end Go.Proofs.Ytngeejjllgnpcaa
