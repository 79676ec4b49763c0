/- MortonBack: for every input the law returns true, and each argument reads behind the call as it read before. -/
import Derived.Test.YtfonfgnbjkpanaaRows
import Derived.Test.YtfonfgnbjkpanaaPvM
import Derived.Test.YtfonfgnbjkpanaaS04i
namespace Go.Proofs.Ytfonfgnbjkpanaa
open Go.ChangeShapes Go.WideShapes Go.ChangeAt Go.RowKit Go.Pv
set_option maxRecDepth 100000

theorem MortonBack_own : ownKnob Try.prog.godebug = none := by kernel_rfl
theorem MortonBack_laid : laidOutB Try.prog = true := by kernel_rfl

theorem MortonBack_all (xs : List AV) (h : DatVs Try.prog [3, 25, 3, 3, 3, 3, 3] xs) : PCall Try.prog 13 xs (· = .bool true) := by
  obtain ⟨x0, r, rfl, h0, h⟩ := datVs2 h
  obtain ⟨x1, r, rfl, h1, h⟩ := datVs2 h
  obtain ⟨x2, r, rfl, h2, h⟩ := datVs2 h
  obtain ⟨x3, r, rfl, h3, h⟩ := datVs2 h
  obtain ⟨x4, r, rfl, h4, h⟩ := datVs2 h
  obtain ⟨x5, r, rfl, h5, h⟩ := datVs2 h
  obtain ⟨x6, r, rfl, h6, h⟩ := datVs2 h
  obtain rfl := datVs0 h
  obtain ⟨z0, rfl, w0⟩ := datV_int (i := Try.i3) rfl rfl h0
  obtain ⟨zs, hl, rfl, w1⟩ := datV_ints (i := Try.i25) rfl rfl rfl h1
  obtain ⟨v1_0, v1_1, rfl⟩ := len2 hl
  obtain ⟨z2, rfl, w2⟩ := datV_int (i := Try.i3) rfl rfl h2
  obtain ⟨z3, rfl, w3⟩ := datV_int (i := Try.i3) rfl rfl h3
  obtain ⟨z4, rfl, w4⟩ := datV_int (i := Try.i3) rfl rfl h4
  obtain ⟨z5, rfl, w5⟩ := datV_int (i := Try.i3) rfl rfl h5
  obtain ⟨z6, rfl, w6⟩ := datV_int (i := Try.i3) rfl rfl h6
  exact MortonBack_c w0 w2 w3 w4 w5 w6

theorem MortonBack_lifted (os : Os) (started : os.Started) (H : Type) (enc : TypeId × Value → H) :
    ReturnsInHanded {} Try.checked os 13 .any (Rows.mortonBackSpec.pre6 enc Try.prog Try.f13 Rows.mortonBackRow.domain false) (Rows.mortonBackSpec.post enc Try.prog Try.f13 false true false false) := by
  refine returnsInHanded_of_change (C := Try.checked) MortonBack_own started (by kernel_rfl) Try.func13
    (ChangeSpec.witness6 (enc := enc) (C := Try.checked) false ⟨#[], #[.int .i64 0, .agg #[.int .i64 0, .int .i64 0], .int .i64 0, .int .i64 0, .int .i64 0, .int .i64 0, .int .i64 0], []⟩ 8 (by kernel_rfl) (by kernel_rfl) (by kernel_rfl) (by kernel_rfl)) ?_
  intro W base args ds gs before hval hW _ _
  exact law_row (P := Try.prog) [2, 3, 25] [3, 25, 3, 3, 3, 3, 3] 4 rfl MortonBack_laid (by kernel_rfl) (by kernel_rfl) rfl Try.underlying4 rfl
    (fun ds h => by match ds, h with | [_, _, _, _, _, _, _], _ => rfl) MortonBack_all hval hW

theorem MortonBack_holds : Rows.MortonBackSaid :=
  OpenClaim.holds_of_wide 13 Try.f13 rfl rfl rfl rfl rfl rfl rfl ⟨rfl, rfl, rfl, rfl, rfl⟩ rfl rfl rfl rfl rfl (by kernel_rfl) Try.func13 (by kernel_rfl)
    (of_decide_eq_true (by kernel_rfl)) (by unfold Func.isWrapper; first | (rw [if_pos (by decide +kernel)]; kernel_rfl) | (rw [if_neg (by decide +kernel)]; exact ⟨rfl, rfl⟩))
    (fun os started H enc _ => MortonBack_lifted os started H enc)
#print axioms MortonBack_holds
end Go.Proofs.Ytfonfgnbjkpanaa
