/- WirePuts: for every input the law returns true, and each argument reads behind the call as it read before. -/
import Derived.Test.YtaekecbadkcggaaE10p
import Derived.Test.YtaekecbadkcggaaRows
namespace Go.Proofs.Ytaekecbadkcggaa
open Go.ChangeShapes Go.WideShapes Go.ChangeAt Go.RowKit Go.Pv
set_option maxRecDepth 100000
set_option maxHeartbeats 4000000
set_option linter.unusedSimpArgs false
set_option linter.unusedVariables false
set_option linter.unusedSectionVars false

theorem WirePuts_own : ownKnob Try.prog.godebug = none := by kernel_rfl
theorem WirePuts_laid : laidOutB Try.prog = true := by kernel_rfl

theorem WirePuts_all (xs : List AV) (h : DatVs Try.prog [77, 77] xs) : PCall Try.prog 8 xs (· = .bool true) := by
  obtain ⟨x0, r, rfl, h0, h⟩ := datVs2 h
  obtain ⟨x1, r, rfl, h1, h⟩ := datVs2 h
  obtain rfl := datVs0 h
  obtain ⟨a0, rfl, k0⟩ := datV_tMsg h0
  obtain ⟨a1, rfl, k1⟩ := datV_tMsg h1
  exact WirePuts_c k0 k1

theorem WirePuts_lifted (os : Os) (started : os.Started) (H : Type) (enc : TypeId × Value → H) :
    ReturnsInHanded {} Try.checked os 8 .any (Rows.wirePutsSpec.pre6 enc Try.prog Try.f8 Rows.wirePutsRow.domain false) (Rows.wirePutsSpec.post enc Try.prog Try.f8 false true false false) := by
  refine returnsInHanded_of_change (C := Try.checked) WirePuts_own started (by kernel_rfl) Try.func8
    (ChangeSpec.witness6 (enc := enc) (C := Try.checked) false ⟨#[], #[.agg #[.int .i64 0, .int .i64 0, .int .i64 0, .int .i64 0, .int .i64 0, .int .i64 0, .int .i64 0, .int .i64 0, .string ByteArray.empty, .int .i64 0, .int .u32 0, .int .i64 0, .int .i64 0, .slice none 0 0], .agg #[.int .i64 0, .int .i64 0, .int .i64 0, .int .i64 0, .int .i64 0, .int .i64 0, .int .i64 0, .int .i64 0, .string ByteArray.empty, .int .i64 0, .int .u32 0, .int .i64 0, .int .i64 0, .slice none 0 0]], []⟩ 8 (by kernel_rfl) (by kernel_rfl) (by kernel_rfl) (by kernel_rfl)) ?_
  intro W base args ds gs before hval hW _ _
  exact law_row (P := Try.prog) [2, 3, 4, 9, 56, 64, 70, 71, 73, 75, 77] [77, 77] 4 rfl WirePuts_laid (by kernel_rfl) (by kernel_rfl) rfl Try.underlying4 rfl
    (fun ds h => by match ds, h with | [_, _], _ => rfl) WirePuts_all hval hW

theorem WirePuts_holds : Rows.WirePutsSaid :=
  OpenClaim.holds_of_wide 8 Try.f8 rfl rfl rfl rfl rfl rfl rfl ⟨rfl, rfl, rfl, rfl, rfl⟩ rfl rfl rfl rfl rfl (by kernel_rfl) Try.func8 (by kernel_rfl)
    (of_decide_eq_true (by kernel_rfl)) (by unfold Func.isWrapper; first | (rw [if_pos (by decide +kernel)]; kernel_rfl) | (rw [if_neg (by decide +kernel)]; exact ⟨rfl, rfl⟩))
    (fun os started H enc _ => WirePuts_lifted os started H enc)
#print axioms WirePuts_holds
end Go.Proofs.Ytaekecbadkcggaa
