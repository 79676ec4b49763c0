/- FrameReads: for every input the law returns true, and each argument reads behind the call as it read before. -/
import Derived.Test.YtfonfgnbjkpanaaRows
import Derived.Test.YtfonfgnbjkpanaaPvM
import Derived.Test.YtfonfgnbjkpanaaS11f
namespace Go.Proofs.Ytfonfgnbjkpanaa
open Go.ChangeShapes Go.WideShapes Go.ChangeAt Go.RowKit Go.Pv
set_option maxRecDepth 100000

theorem FrameReads_own : ownKnob Try.prog.godebug = none := by kernel_rfl
theorem FrameReads_laid : laidOutB Try.prog = true := by kernel_rfl

theorem FrameReads_all (xs : List AV) (h : DatVs Try.prog [53] xs) : PCall Try.prog 8 xs (· = .bool true) := by
  obtain ⟨x0, r, rfl, h0, h⟩ := datVs2 h
  obtain rfl := datVs0 h
  obtain ⟨v0, rfl, l0, _⟩ := datV_bytess (i := Try.i53) (j := Try.i56) (k := Try.i5) rfl rfl rfl rfl rfl rfl h0
  exact FrameReads_c l0

theorem FrameReads_lifted (os : Os) (started : os.Started) (H : Type) (enc : TypeId × Value → H) :
    ReturnsInHanded {} Try.checked os 8 .any (Rows.frameReadsSpec.pre6 enc Try.prog Try.f8 Rows.frameReadsRow.domain false) (Rows.frameReadsSpec.post enc Try.prog Try.f8 false true false false) := by
  refine returnsInHanded_of_change (C := Try.checked) FrameReads_own started (by kernel_rfl) Try.func8
    (ChangeSpec.witness6 (enc := enc) (C := Try.checked) false ⟨#[], #[.slice none 0 0], []⟩ 8 (by kernel_rfl) (by kernel_rfl) (by kernel_rfl) (by kernel_rfl)) ?_
  intro W base args ds gs before hval hW _ _
  exact law_row (P := Try.prog) [53, 56, 5] [53] 4 rfl FrameReads_laid (by kernel_rfl) (by kernel_rfl) rfl Try.underlying4 rfl
    (fun ds h => by match ds, h with | [_], _ => rfl) FrameReads_all hval hW

theorem FrameReads_holds : Rows.FrameReadsSaid :=
  OpenClaim.holds_of_wide 8 Try.f8 rfl rfl rfl rfl rfl rfl rfl ⟨rfl, rfl, rfl, rfl, rfl⟩ rfl rfl rfl rfl rfl (by kernel_rfl) Try.func8 (by kernel_rfl)
    (of_decide_eq_true (by kernel_rfl)) (by unfold Func.isWrapper; first | (rw [if_pos (by decide +kernel)]; kernel_rfl) | (rw [if_neg (by decide +kernel)]; exact ⟨rfl, rfl⟩))
    (fun os started H enc _ => FrameReads_lifted os started H enc)
#print axioms FrameReads_holds
end Go.Proofs.Ytfonfgnbjkpanaa
