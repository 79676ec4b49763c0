/- LinkPlays: for every input the law returns true, and each argument reads behind the call as it read before. -/
import Derived.Test.YtaekecbadkcggaaE15
import Derived.Test.YtaekecbadkcggaaRows
namespace Go.Proofs.Ytaekecbadkcggaa
open Go.ChangeShapes Go.WideShapes Go.ChangeAt Go.RowKit Go.Pv
set_option maxRecDepth 100000
set_option maxHeartbeats 4000000
set_option linter.unusedSimpArgs false
set_option linter.unusedVariables false
set_option linter.unusedSectionVars false

theorem LinkPlays_own : ownKnob Try.prog.godebug = none := by kernel_rfl
theorem LinkPlays_laid : laidOutB Try.prog = true := by kernel_rfl

theorem LinkPlays_all (xs : List AV) (h : DatVs Try.prog [3, 22] xs) : PCall Try.prog 3 xs (· = .bool true) := by
  obtain ⟨x0, r, rfl, h0, h⟩ := datVs2 h
  obtain ⟨x1, r, rfl, h1, h⟩ := datVs2 h
  obtain rfl := datVs0 h
  obtain ⟨n0, h0⟩ := datV_o (i := Try.i3) rfl (by intro _ _ h; cases h) h0
  obtain ⟨a0, e0, k0⟩ := dat_Int (i := Try.i3) rfl rfl h0
  obtain rfl := List.head_eq_of_cons_eq e0
  obtain ⟨n1, h1⟩ := datV_o (i := Try.i22) rfl (by intro _ _ h; cases h) h1
  obtain ⟨a1, e1, k1⟩ := dat_List (c := c_tlaw15Deed) (Q := ok_tlaw15Deed) (i := Try.i22) rfl rfl (fun _ _ h => dat_tlaw15Deed h) h1
  obtain rfl := List.head_eq_of_cons_eq e1
  exact LinkPlays_c k0 k1

theorem LinkPlays_lifted (os : Os) (started : os.Started) (H : Type) (enc : TypeId × Value → H) :
    ReturnsInHanded {} Try.checked os 3 .any (Rows.linkPlaysSpec.pre6 enc Try.prog Try.f3 Rows.linkPlaysRow.domain false) (Rows.linkPlaysSpec.post enc Try.prog Try.f3 false true false false) := by
  refine returnsInHanded_of_change (C := Try.checked) LinkPlays_own started (by kernel_rfl) Try.func3
    (ChangeSpec.witness6 (enc := enc) (C := Try.checked) false ⟨#[], #[.int .i64 0, .slice none 0 0], []⟩ 8 (by kernel_rfl) (by kernel_rfl) (by kernel_rfl) (by kernel_rfl)) ?_
  intro W base args ds gs before hval hW _ _
  exact law_row (P := Try.prog) [3, 4, 5, 22, 38, 40] [3, 22] 4 rfl LinkPlays_laid (by kernel_rfl) (by kernel_rfl) rfl Try.underlying4 rfl
    (fun ds h => by match ds, h with | [_, _], _ => rfl) LinkPlays_all hval hW

theorem LinkPlays_holds : Rows.LinkPlaysSaid :=
  OpenClaim.holds_of_wide 3 Try.f3 rfl rfl rfl rfl rfl rfl rfl ⟨rfl, rfl, rfl, rfl, rfl⟩ rfl rfl rfl rfl rfl (by kernel_rfl) Try.func3 (by kernel_rfl)
    (of_decide_eq_true (by kernel_rfl)) (by unfold Func.isWrapper; first | (rw [if_pos (by decide +kernel)]; kernel_rfl) | (rw [if_neg (by decide +kernel)]; exact ⟨rfl, rfl⟩))
    (fun os started H enc _ => LinkPlays_lifted os started H enc)
#print axioms LinkPlays_holds
end Go.Proofs.Ytaekecbadkcggaa
