/- RectOf: for every input the law returns true, and each argument reads behind the call as it read before. -/
import Derived.Test.YtfonfgnbjkpanaaRows
import Derived.Test.YtfonfgnbjkpanaaPvM
import Derived.Test.YtfonfgnbjkpanaaS02e
namespace Go.Proofs.Ytfonfgnbjkpanaa
open Go.ChangeShapes Go.WideShapes Go.ChangeAt Go.RowKit Go.Pv
set_option maxRecDepth 100000

theorem RectOf_own : ownKnob Try.prog.godebug = none := by kernel_rfl
theorem RectOf_laid : laidOutB Try.prog = true := by kernel_rfl

theorem RectOf_all (xs : List AV) (h : DatVs Try.prog [37] xs) : PCall Try.prog 5 xs (· = .bool true) := by
  obtain ⟨x0, r, rfl, h0, h⟩ := datVs2 h
  obtain rfl := datVs0 h
  obtain ⟨v0, rfl, l0, w0⟩ := datV_pts (i := Try.i37) (j := Try.i25) rfl rfl rfl rfl rfl rfl h0
  exact RectOf_c l0

theorem RectOf_lifted (os : Os) (started : os.Started) (H : Type) (enc : TypeId × Value → H) :
    ReturnsInHanded {} Try.checked os 5 .any (Rows.rectOfSpec.pre6 enc Try.prog Try.f5 Rows.rectOfRow.domain false) (Rows.rectOfSpec.post enc Try.prog Try.f5 false true false false) := by
  refine returnsInHanded_of_change (C := Try.checked) RectOf_own started (by kernel_rfl) Try.func5
    (ChangeSpec.witness6 (enc := enc) (C := Try.checked) false ⟨#[], #[.slice none 0 0], []⟩ 8 (by kernel_rfl) (by kernel_rfl) (by kernel_rfl) (by kernel_rfl)) ?_
  intro W base args ds gs before hval hW _ _
  exact law_row (P := Try.prog) [2, 25, 37] [37] 4 rfl RectOf_laid (by kernel_rfl) (by kernel_rfl) rfl Try.underlying4 rfl
    (fun ds h => by match ds, h with | [_], _ => rfl) RectOf_all hval hW

theorem RectOf_holds : Rows.RectOfSaid :=
  OpenClaim.holds_of_wide 5 Try.f5 rfl rfl rfl rfl rfl rfl rfl ⟨rfl, rfl, rfl, rfl, rfl⟩ rfl rfl rfl rfl rfl (by kernel_rfl) Try.func5 (by kernel_rfl)
    (of_decide_eq_true (by kernel_rfl)) (by unfold Func.isWrapper; first | (rw [if_pos (by decide +kernel)]; kernel_rfl) | (rw [if_neg (by decide +kernel)]; exact ⟨rfl, rfl⟩))
    (fun os started H enc _ => RectOf_lifted os started H enc)
#print axioms RectOf_holds
end Go.Proofs.Ytfonfgnbjkpanaa
