/- MortonCodes: for every input the law returns true, and each argument reads behind the call as it read before. -/
import Derived.Test.YtfonfgnbjkpanaaRows
import Derived.Test.YtfonfgnbjkpanaaPvM
import Derived.Test.YtfonfgnbjkpanaaS04d
namespace Go.Proofs.Ytfonfgnbjkpanaa
open Go.ChangeShapes Go.WideShapes Go.ChangeAt Go.RowKit Go.Pv
set_option maxRecDepth 100000

theorem MortonCodes_own : ownKnob Try.prog.godebug = none := by kernel_rfl
theorem MortonCodes_laid : laidOutB Try.prog = true := by kernel_rfl

theorem MortonCodes_all (xs : List AV) (h : DatVs Try.prog [3, 3, 40] xs) : PCall Try.prog 6 xs (· = .bool true) := by
  obtain ⟨x0, r, rfl, h0, h⟩ := datVs2 h
  obtain ⟨x1, r, rfl, h1, h⟩ := datVs2 h
  obtain ⟨x2, r, rfl, h2, h⟩ := datVs2 h
  obtain rfl := datVs0 h
  obtain ⟨z0, rfl, w0⟩ := datV_int (i := Try.i3) rfl rfl h0
  obtain ⟨z1, rfl, w1⟩ := datV_int (i := Try.i3) rfl rfl h1
  obtain ⟨z2, rfl, w2⟩ := datV_int (i := Try.i40) rfl rfl h2
  exact MortonCodes_c w0 w1 w2

theorem MortonCodes_lifted (os : Os) (started : os.Started) (H : Type) (enc : TypeId × Value → H) :
    ReturnsInHanded {} Try.checked os 6 .any (Rows.mortonCodesSpec.pre6 enc Try.prog Try.f6 Rows.mortonCodesRow.domain false) (Rows.mortonCodesSpec.post enc Try.prog Try.f6 false true false false) := by
  refine returnsInHanded_of_change (C := Try.checked) MortonCodes_own started (by kernel_rfl) Try.func6
    (ChangeSpec.witness6 (enc := enc) (C := Try.checked) false ⟨#[], #[.int .i64 0, .int .i64 0, .int .u64 0], []⟩ 8 (by kernel_rfl) (by kernel_rfl) (by kernel_rfl) (by kernel_rfl)) ?_
  intro W base args ds gs before hval hW _ _
  exact law_row (P := Try.prog) [3, 40] [3, 3, 40] 4 rfl MortonCodes_laid (by kernel_rfl) (by kernel_rfl) rfl Try.underlying4 rfl
    (fun ds h => by match ds, h with | [_, _, _], _ => rfl) MortonCodes_all hval hW

theorem MortonCodes_holds : Rows.MortonCodesSaid :=
  OpenClaim.holds_of_wide 6 Try.f6 rfl rfl rfl rfl rfl rfl rfl ⟨rfl, rfl, rfl, rfl, rfl⟩ rfl rfl rfl rfl rfl (by kernel_rfl) Try.func6 (by kernel_rfl)
    (of_decide_eq_true (by kernel_rfl)) (by unfold Func.isWrapper; first | (rw [if_pos (by decide +kernel)]; kernel_rfl) | (rw [if_neg (by decide +kernel)]; exact ⟨rfl, rfl⟩))
    (fun os started H enc _ => MortonCodes_lifted os started H enc)
#print axioms MortonCodes_holds
end Go.Proofs.Ytfonfgnbjkpanaa
