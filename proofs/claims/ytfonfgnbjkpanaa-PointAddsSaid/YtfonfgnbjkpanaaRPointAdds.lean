/- PointAdds: for every input the law returns true, and each argument reads behind the call as it read before. -/
import Derived.Test.YtfonfgnbjkpanaaRows
import Derived.Test.YtfonfgnbjkpanaaPvM
import Derived.Test.YtfonfgnbjkpanaaS01b
namespace Go.Proofs.Ytfonfgnbjkpanaa
open Go.ChangeShapes Go.WideShapes Go.ChangeAt Go.RowKit Go.Pv
set_option maxRecDepth 100000

theorem PointAdds_own : ownKnob Try.prog.godebug = none := by kernel_rfl
theorem PointAdds_laid : laidOutB Try.prog = true := by kernel_rfl

theorem PointAdds_all (xs : List AV) (h : DatVs Try.prog [25, 25] xs) : PCall Try.prog 7 xs (· = .bool true) := by
  obtain ⟨x0, r, rfl, h0, h⟩ := datVs2 h
  obtain ⟨x1, r, rfl, h1, h⟩ := datVs2 h
  obtain rfl := datVs0 h
  obtain ⟨zs, hl, rfl, w0⟩ := datV_ints (i := Try.i25) rfl rfl rfl h0
  obtain ⟨v0_0, v0_1, rfl⟩ := len2 hl
  obtain ⟨zs, hl, rfl, w1⟩ := datV_ints (i := Try.i25) rfl rfl rfl h1
  obtain ⟨v1_0, v1_1, rfl⟩ := len2 hl
  exact PointAdds_c

theorem PointAdds_lifted (os : Os) (started : os.Started) (H : Type) (enc : TypeId × Value → H) :
    ReturnsInHanded {} Try.checked os 7 .any (Rows.pointAddsSpec.pre6 enc Try.prog Try.f7 Rows.pointAddsRow.domain false) (Rows.pointAddsSpec.post enc Try.prog Try.f7 false true false false) := by
  refine returnsInHanded_of_change (C := Try.checked) PointAdds_own started (by kernel_rfl) Try.func7
    (ChangeSpec.witness6 (enc := enc) (C := Try.checked) false ⟨#[], #[.agg #[.int .i64 0, .int .i64 0], .agg #[.int .i64 0, .int .i64 0]], []⟩ 8 (by kernel_rfl) (by kernel_rfl) (by kernel_rfl) (by kernel_rfl)) ?_
  intro W base args ds gs before hval hW _ _
  exact law_row (P := Try.prog) [2, 25] [25, 25] 4 rfl PointAdds_laid (by kernel_rfl) (by kernel_rfl) rfl Try.underlying4 rfl
    (fun ds h => by match ds, h with | [_, _], _ => rfl) PointAdds_all hval hW

theorem PointAdds_holds : Rows.PointAddsSaid :=
  OpenClaim.holds_of_wide 7 Try.f7 rfl rfl rfl rfl rfl rfl rfl ⟨rfl, rfl, rfl, rfl, rfl⟩ rfl rfl rfl rfl rfl (by kernel_rfl) Try.func7 (by kernel_rfl)
    (of_decide_eq_true (by kernel_rfl)) (by unfold Func.isWrapper; first | (rw [if_pos (by decide +kernel)]; kernel_rfl) | (rw [if_neg (by decide +kernel)]; exact ⟨rfl, rfl⟩))
    (fun os started H enc _ => PointAdds_lifted os started H enc)
#print axioms PointAdds_holds
end Go.Proofs.Ytfonfgnbjkpanaa
