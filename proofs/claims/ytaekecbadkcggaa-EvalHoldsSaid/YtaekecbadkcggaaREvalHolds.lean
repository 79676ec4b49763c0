/- EvalHolds: for every input the law returns true, and each argument reads behind the call as it read before. -/
import Derived.Test.YtaekecbadkcggaaE09
import Derived.Test.YtaekecbadkcggaaRows
namespace Go.Proofs.Ytaekecbadkcggaa
open Go.ChangeShapes Go.WideShapes Go.ChangeAt Go.RowKit Go.Pv
set_option maxRecDepth 100000
set_option maxHeartbeats 4000000
set_option linter.unusedSimpArgs false
set_option linter.unusedVariables false
set_option linter.unusedSectionVars false

theorem EvalHolds_own : ownKnob Try.prog.godebug = none := by kernel_rfl
theorem EvalHolds_laid : laidOutB Try.prog = true := by kernel_rfl

theorem EvalHolds_all (xs : List AV) (h : DatVs Try.prog [59, 56] xs) : PCall Try.prog 5 xs (· = .bool true) := by
  obtain ⟨x0, r, rfl, h0, h⟩ := datVs2 h
  obtain ⟨x1, r, rfl, h1, h⟩ := datVs2 h
  obtain rfl := datVs0 h
  obtain ⟨a0, rfl, k0⟩ := datV_tFilter h0
  obtain ⟨n1, h1⟩ := datV_o (i := Try.i56) rfl (by intro _ _ h; cases h) h1
  obtain ⟨a1, e1, k1⟩ := dat_List (c := c_tAttr) (Q := ok_tAttr) (i := Try.i56) rfl rfl (fun _ _ h => dat_tAttr h) h1
  obtain rfl := List.head_eq_of_cons_eq e1
  exact EvalHolds_c k0 k1

theorem EvalHolds_lifted (os : Os) (started : os.Started) (H : Type) (enc : TypeId × Value → H) :
    ReturnsInHanded {} Try.checked os 5 .any (Rows.evalHoldsSpec.pre6 enc Try.prog Try.f5 Rows.evalHoldsRow.domain false) (Rows.evalHoldsSpec.post enc Try.prog Try.f5 false true false false) := by
  refine returnsInHanded_of_change (C := Try.checked) EvalHolds_own started (by kernel_rfl) Try.func5
    (ChangeSpec.witness6 (enc := enc) (C := Try.checked) false ⟨#[], #[.agg #[.int .i64 0, .string ByteArray.empty, .string ByteArray.empty, .slice none 0 0, .slice none 0 0], .slice none 0 0], []⟩ 8 (by kernel_rfl) (by kernel_rfl) (by kernel_rfl) (by kernel_rfl)) ?_
  intro W base args ds gs before hval hW _ _
  exact law_row (P := Try.prog) [2, 3, 4, 9, 56, 57, 59, 64] [59, 56] 4 rfl EvalHolds_laid (by kernel_rfl) (by kernel_rfl) rfl Try.underlying4 rfl
    (fun ds h => by match ds, h with | [_, _], _ => rfl) EvalHolds_all hval hW

theorem EvalHolds_holds : Rows.EvalHoldsSaid :=
  OpenClaim.holds_of_wide 5 Try.f5 rfl rfl rfl rfl rfl rfl rfl ⟨rfl, rfl, rfl, rfl, rfl⟩ rfl rfl rfl rfl rfl (by kernel_rfl) Try.func5 (by kernel_rfl)
    (of_decide_eq_true (by kernel_rfl)) (by unfold Func.isWrapper; first | (rw [if_pos (by decide +kernel)]; kernel_rfl) | (rw [if_neg (by decide +kernel)]; exact ⟨rfl, rfl⟩))
    (fun os started H enc _ => EvalHolds_lifted os started H enc)
#print axioms EvalHolds_holds
end Go.Proofs.Ytaekecbadkcggaa
