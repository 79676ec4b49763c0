/- WireGets: for every input the law returns true, and each argument reads behind the call as it read before. -/
import Derived.Test.YtaekecbadkcggaaE10h
import Derived.Test.YtaekecbadkcggaaRows
namespace Go.Proofs.Ytaekecbadkcggaa
open Go.ChangeShapes Go.WideShapes Go.ChangeAt Go.RowKit Go.Pv
set_option maxRecDepth 100000
set_option maxHeartbeats 4000000
set_option linter.unusedSimpArgs false
set_option linter.unusedVariables false
set_option linter.unusedSectionVars false

theorem WireGets_own : ownKnob Try.prog.godebug = none := by kernel_rfl
theorem WireGets_laid : laidOutB Try.prog = true := by kernel_rfl

theorem WireGets_all (xs : List AV) (h : DatVs Try.prog [38] xs) : PCall Try.prog 7 xs (· = .bool true) := by
  obtain ⟨x0, r, rfl, h0, h⟩ := datVs2 h
  obtain rfl := datVs0 h
  obtain ⟨n0, h0⟩ := datV_o (i := Try.i38) rfl (by intro _ _ h; cases h) h0
  obtain ⟨a0, e0, k0⟩ := dat_Bytes (i := Try.i38) (j := Try.i5) rfl rfl rfl rfl h0
  obtain rfl := List.head_eq_of_cons_eq e0
  exact WireGets_c k0

theorem WireGets_lifted (os : Os) (started : os.Started) (H : Type) (enc : TypeId × Value → H) :
    ReturnsInHanded {} Try.checked os 7 .any (Rows.wireGetsSpec.pre6 enc Try.prog Try.f7 Rows.wireGetsRow.domain false) (Rows.wireGetsSpec.post enc Try.prog Try.f7 false true false false) := by
  refine returnsInHanded_of_change (C := Try.checked) WireGets_own started (by kernel_rfl) Try.func7
    (ChangeSpec.witness6 (enc := enc) (C := Try.checked) false ⟨#[], #[.slice none 0 0], []⟩ 8 (by kernel_rfl) (by kernel_rfl) (by kernel_rfl) (by kernel_rfl)) ?_
  intro W base args ds gs before hval hW _ _
  exact law_row (P := Try.prog) [5, 38] [38] 4 rfl WireGets_laid (by kernel_rfl) (by kernel_rfl) rfl Try.underlying4 rfl
    (fun ds h => by match ds, h with | [_], _ => rfl) WireGets_all hval hW

theorem WireGets_holds : Rows.WireGetsSaid :=
  OpenClaim.holds_of_wide 7 Try.f7 rfl rfl rfl rfl rfl rfl rfl ⟨rfl, rfl, rfl, rfl, rfl⟩ rfl rfl rfl rfl rfl (by kernel_rfl) Try.func7 (by kernel_rfl)
    (of_decide_eq_true (by kernel_rfl)) (by unfold Func.isWrapper; first | (rw [if_pos (by decide +kernel)]; kernel_rfl) | (rw [if_neg (by decide +kernel)]; exact ⟨rfl, rfl⟩))
    (fun os started H enc _ => WireGets_lifted os started H enc)
#print axioms WireGets_holds
end Go.Proofs.Ytaekecbadkcggaa
