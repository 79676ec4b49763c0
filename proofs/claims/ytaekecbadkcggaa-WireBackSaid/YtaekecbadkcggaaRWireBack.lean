/- WireBack: for every input the law returns true, and each argument reads behind the call as it read before. -/
import Derived.Test.YtaekecbadkcggaaE10c
import Derived.Test.YtaekecbadkcggaaRows
namespace Go.Proofs.Ytaekecbadkcggaa
open Go.ChangeShapes Go.WideShapes Go.ChangeAt Go.RowKit Go.Pv
set_option maxRecDepth 100000
set_option maxHeartbeats 4000000
set_option linter.unusedSimpArgs false
set_option linter.unusedVariables false
set_option linter.unusedSectionVars false

theorem WireBack_own : ownKnob Try.prog.godebug = none := by kernel_rfl
theorem WireBack_laid : laidOutB Try.prog = true := by kernel_rfl

theorem WireBack_all (xs : List AV) (h : DatVs Try.prog [77, 38, 3] xs) : PCall Try.prog 9 xs (· = .bool true) := by
  obtain ⟨x0, r, rfl, h0, h⟩ := datVs2 h
  obtain ⟨x1, r, rfl, h1, h⟩ := datVs2 h
  obtain ⟨x2, r, rfl, h2, h⟩ := datVs2 h
  obtain rfl := datVs0 h
  obtain ⟨a0, rfl, k0⟩ := datV_tMsg h0
  obtain ⟨n1, h1⟩ := datV_o (i := Try.i38) rfl (by intro _ _ h; cases h) h1
  obtain ⟨a1, e1, k1⟩ := dat_Bytes (i := Try.i38) (j := Try.i5) rfl rfl rfl rfl h1
  obtain rfl := List.head_eq_of_cons_eq e1
  obtain ⟨n2, h2⟩ := datV_o (i := Try.i3) rfl (by intro _ _ h; cases h) h2
  obtain ⟨a2, e2, k2⟩ := dat_Int (i := Try.i3) rfl rfl h2
  obtain rfl := List.head_eq_of_cons_eq e2
  exact WireBack_c k0 k1 k2

theorem WireBack_lifted (os : Os) (started : os.Started) (H : Type) (enc : TypeId × Value → H) :
    ReturnsInHanded {} Try.checked os 9 .any (Rows.wireBackSpec.pre6 enc Try.prog Try.f9 Rows.wireBackRow.domain false) (Rows.wireBackSpec.post enc Try.prog Try.f9 false true false false) := by
  refine returnsInHanded_of_change (C := Try.checked) WireBack_own started (by kernel_rfl) Try.func9
    (ChangeSpec.witness6 (enc := enc) (C := Try.checked) false ⟨#[], #[.agg #[.int .i64 0, .int .i64 0, .int .i64 0, .int .i64 0, .int .i64 0, .int .i64 0, .int .i64 0, .int .i64 0, .string ByteArray.empty, .int .i64 0, .int .u32 0, .int .i64 0, .int .i64 0, .slice none 0 0], .slice none 0 0, .int .i64 0], []⟩ 8 (by kernel_rfl) (by kernel_rfl) (by kernel_rfl) (by kernel_rfl)) ?_
  intro W base args ds gs before hval hW _ _
  exact law_row (P := Try.prog) [2, 3, 4, 5, 9, 38, 56, 64, 70, 71, 73, 75, 77] [77, 38, 3] 4 rfl WireBack_laid (by kernel_rfl) (by kernel_rfl) rfl Try.underlying4 rfl
    (fun ds h => by match ds, h with | [_, _, _], _ => rfl) WireBack_all hval hW

theorem WireBack_holds : Rows.WireBackSaid :=
  OpenClaim.holds_of_wide 9 Try.f9 rfl rfl rfl rfl rfl rfl rfl ⟨rfl, rfl, rfl, rfl, rfl⟩ rfl rfl rfl rfl rfl (by kernel_rfl) Try.func9 (by kernel_rfl)
    (of_decide_eq_true (by kernel_rfl)) (by unfold Func.isWrapper; first | (rw [if_pos (by decide +kernel)]; kernel_rfl) | (rw [if_neg (by decide +kernel)]; exact ⟨rfl, rfl⟩))
    (fun os started H enc _ => WireBack_lifted os started H enc)
#print axioms WireBack_holds
end Go.Proofs.Ytaekecbadkcggaa
