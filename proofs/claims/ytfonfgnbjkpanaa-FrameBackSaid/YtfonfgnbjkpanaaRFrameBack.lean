/- FrameBack: for every input the law returns true, and each argument reads behind the call as it read before. -/
import Derived.Test.YtfonfgnbjkpanaaRows
import Derived.Test.YtfonfgnbjkpanaaPvM
import Derived.Test.YtfonfgnbjkpanaaS11g
namespace Go.Proofs.Ytfonfgnbjkpanaa
open Go.ChangeShapes Go.WideShapes Go.ChangeAt Go.RowKit Go.Pv
set_option maxRecDepth 100000

theorem FrameBack_own : ownKnob Try.prog.godebug = none := by kernel_rfl
theorem FrameBack_laid : laidOutB Try.prog = true := by kernel_rfl

theorem FrameBack_all (xs : List AV) (h : DatVs Try.prog [53, 65] xs) : PCall Try.prog 9 xs (· = .bool true) := by
  obtain ⟨x0, r, rfl, h0, h⟩ := datVs2 h
  obtain ⟨x1, r, rfl, h1, h⟩ := datVs2 h
  obtain rfl := datVs0 h
  obtain ⟨v0, rfl, l0, _⟩ := datV_bytess (i := Try.i53) (j := Try.i56) (k := Try.i5) rfl rfl rfl rfl rfl rfl h0
  obtain ⟨v1, rfl, l1, _⟩ := datV_intl (i := Try.i65) (j := Try.i3) rfl rfl rfl rfl h1
  exact FrameBack_c l0 l1

theorem FrameBack_lifted (os : Os) (started : os.Started) (H : Type) (enc : TypeId × Value → H) :
    ReturnsInHanded {} Try.checked os 9 .any (Rows.frameBackSpec.pre6 enc Try.prog Try.f9 Rows.frameBackRow.domain false) (Rows.frameBackSpec.post enc Try.prog Try.f9 false true false false) := by
  refine returnsInHanded_of_change (C := Try.checked) FrameBack_own started (by kernel_rfl) Try.func9
    (ChangeSpec.witness6 (enc := enc) (C := Try.checked) false ⟨#[], #[.slice none 0 0, .slice none 0 0], []⟩ 8 (by kernel_rfl) (by kernel_rfl) (by kernel_rfl) (by kernel_rfl)) ?_
  intro W base args ds gs before hval hW _ _
  exact law_row (P := Try.prog) [53, 56, 5, 65, 3] [53, 65] 4 rfl FrameBack_laid (by kernel_rfl) (by kernel_rfl) rfl Try.underlying4 rfl
    (fun ds h => by match ds, h with | [_, _], _ => rfl) FrameBack_all hval hW

theorem FrameBack_holds : Rows.FrameBackSaid :=
  OpenClaim.holds_of_wide 9 Try.f9 rfl rfl rfl rfl rfl rfl rfl ⟨rfl, rfl, rfl, rfl, rfl⟩ rfl rfl rfl rfl rfl (by kernel_rfl) Try.func9 (by kernel_rfl)
    (of_decide_eq_true (by kernel_rfl)) (by unfold Func.isWrapper; first | (rw [if_pos (by decide +kernel)]; kernel_rfl) | (rw [if_neg (by decide +kernel)]; exact ⟨rfl, rfl⟩))
    (fun os started H enc _ => FrameBack_lifted os started H enc)
#print axioms FrameBack_holds
end Go.Proofs.Ytfonfgnbjkpanaa
