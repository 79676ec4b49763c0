/- PointTurns: for every input the law returns true, and each argument reads behind the call as it read before. -/
import Derived.Test.YtfonfgnbjkpanaaRows
import Derived.Test.YtfonfgnbjkpanaaPvM
import Derived.Test.YtfonfgnbjkpanaaS01c
namespace Go.Proofs.Ytfonfgnbjkpanaa
open Go.ChangeShapes Go.WideShapes Go.ChangeAt Go.RowKit Go.Pv
set_option maxRecDepth 100000

theorem PointTurns_own : ownKnob Try.prog.godebug = none := by kernel_rfl
theorem PointTurns_laid : laidOutB Try.prog = true := by kernel_rfl

theorem PointTurns_all (xs : List AV) (h : DatVs Try.prog [25, 25, 25, 25] xs) : PCall Try.prog 11 xs (· = .bool true) := by
  obtain ⟨x0, r, rfl, h0, h⟩ := datVs2 h
  obtain ⟨x1, r, rfl, h1, h⟩ := datVs2 h
  obtain ⟨x2, r, rfl, h2, h⟩ := datVs2 h
  obtain ⟨x3, r, rfl, h3, h⟩ := datVs2 h
  obtain rfl := datVs0 h
  obtain ⟨zs, hl, rfl, w0⟩ := datV_ints (i := Try.i25) rfl rfl rfl h0
  obtain ⟨v0_0, v0_1, rfl⟩ := len2 hl
  obtain ⟨zs, hl, rfl, w1⟩ := datV_ints (i := Try.i25) rfl rfl rfl h1
  obtain ⟨v1_0, v1_1, rfl⟩ := len2 hl
  obtain ⟨zs, hl, rfl, w2⟩ := datV_ints (i := Try.i25) rfl rfl rfl h2
  obtain ⟨v2_0, v2_1, rfl⟩ := len2 hl
  obtain ⟨zs, hl, rfl, w3⟩ := datV_ints (i := Try.i25) rfl rfl rfl h3
  obtain ⟨v3_0, v3_1, rfl⟩ := len2 hl
  exact PointTurns_c

theorem PointTurns_lifted (os : Os) (started : os.Started) (H : Type) (enc : TypeId × Value → H) :
    ReturnsInHanded {} Try.checked os 11 .any (Rows.pointTurnsSpec.pre6 enc Try.prog Try.f11 Rows.pointTurnsRow.domain false) (Rows.pointTurnsSpec.post enc Try.prog Try.f11 false true false false) := by
  refine returnsInHanded_of_change (C := Try.checked) PointTurns_own started (by kernel_rfl) Try.func11
    (ChangeSpec.witness6 (enc := enc) (C := Try.checked) false ⟨#[], #[.agg #[.int .i64 0, .int .i64 0], .agg #[.int .i64 0, .int .i64 0], .agg #[.int .i64 0, .int .i64 0], .agg #[.int .i64 0, .int .i64 0]], []⟩ 8 (by kernel_rfl) (by kernel_rfl) (by kernel_rfl) (by kernel_rfl)) ?_
  intro W base args ds gs before hval hW _ _
  exact law_row (P := Try.prog) [2, 25] [25, 25, 25, 25] 4 rfl PointTurns_laid (by kernel_rfl) (by kernel_rfl) rfl Try.underlying4 rfl
    (fun ds h => by match ds, h with | [_, _, _, _], _ => rfl) PointTurns_all hval hW

theorem PointTurns_holds : Rows.PointTurnsSaid :=
  OpenClaim.holds_of_wide 11 Try.f11 rfl rfl rfl rfl rfl rfl rfl ⟨rfl, rfl, rfl, rfl, rfl⟩ rfl rfl rfl rfl rfl (by kernel_rfl) Try.func11 (by kernel_rfl)
    (of_decide_eq_true (by kernel_rfl)) (by unfold Func.isWrapper; first | (rw [if_pos (by decide +kernel)]; kernel_rfl) | (rw [if_neg (by decide +kernel)]; exact ⟨rfl, rfl⟩))
    (fun os started H enc _ => PointTurns_lifted os started H enc)
#print axioms PointTurns_holds
end Go.Proofs.Ytfonfgnbjkpanaa
