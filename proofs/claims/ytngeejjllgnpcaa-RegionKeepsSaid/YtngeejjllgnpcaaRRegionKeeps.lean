/- RegionKeeps: for every input the law returns true, and each argument reads behind the call as it read before. -/
import Derived.Test.YtngeejjllgnpcaaRows
import Derived.Test.YtngeejjllgnpcaaPvM
import Derived.Test.YtngeejjllgnpcaaS16e
namespace Go.Proofs.Ytngeejjllgnpcaa
open Go.ChangeShapes Go.WideShapes Go.ChangeAt Go.RowKit Go.Pv
set_option maxRecDepth 100000

theorem RegionKeeps_own : ownKnob Try.prog.godebug = none := by kernel_rfl
theorem RegionKeeps_laid : laidOutB Try.prog = true := by kernel_rfl

theorem RegionKeeps_all (xs : List AV) (h : DatVs Try.prog [44, 24, 24] xs) : PCall Try.prog 8 xs (· = .bool true) := by
  obtain ⟨x0, r, rfl, h0, h⟩ := datVs2 h
  obtain ⟨x1, r, rfl, h1, h⟩ := datVs2 h
  obtain ⟨x2, r, rfl, h2, h⟩ := datVs2 h
  obtain rfl := datVs0 h
  obtain ⟨a0, b0, c0, d0, l0, rfl, k0⟩ := datV_reg h0
  obtain ⟨zs, hl, rfl, w1⟩ := datV_ints (i := Try.i24) rfl rfl rfl h1
  obtain ⟨v1_0, v1_1, rfl⟩ := len2 hl
  obtain ⟨zs, hl, rfl, w2⟩ := datV_ints (i := Try.i24) rfl rfl rfl h2
  obtain ⟨v2_0, v2_1, rfl⟩ := len2 hl
  exact RegionKeeps_c k0

theorem RegionKeeps_lifted (os : Os) (started : os.Started) (H : Type) (enc : TypeId × Value → H) :
    ReturnsInHanded {} Try.checked os 8 .any (Rows.regionKeepsSpec.pre6 enc Try.prog Try.f8 Rows.regionKeepsRow.domain false) (Rows.regionKeepsSpec.post enc Try.prog Try.f8 false true false false) := by
  refine returnsInHanded_of_change (C := Try.checked) RegionKeeps_own started (by kernel_rfl) Try.func8
    (ChangeSpec.witness6 (enc := enc) (C := Try.checked) false ⟨#[], #[.agg #[.int .i64 0, .int .i64 0, .int .i64 0, .int .i64 0, .slice none 0 0], .agg #[.int .i64 0, .int .i64 0], .agg #[.int .i64 0, .int .i64 0]], []⟩ 8 (by kernel_rfl) (by kernel_rfl) (by kernel_rfl) (by kernel_rfl)) ?_
  intro W base args ds gs before hval hW _ _
  exact law_row (P := Try.prog) [2, 24, 22, 38, 44] [44, 24, 24] 4 rfl RegionKeeps_laid (by kernel_rfl) (by kernel_rfl) rfl Try.underlying4 rfl
    (fun ds h => by match ds, h with | [_, _, _], _ => rfl) RegionKeeps_all hval hW

theorem RegionKeeps_holds : Rows.RegionKeepsSaid :=
  OpenClaim.holds_of_wide 8 Try.f8 rfl rfl rfl rfl rfl rfl rfl ⟨rfl, rfl, rfl, rfl, rfl⟩ rfl rfl rfl rfl rfl (by kernel_rfl) Try.func8 (by kernel_rfl)
    (of_decide_eq_true (by kernel_rfl)) (by unfold Func.isWrapper; first | (rw [if_pos (by decide +kernel)]; kernel_rfl) | (rw [if_neg (by decide +kernel)]; exact ⟨rfl, rfl⟩))
    (fun os started H enc _ => RegionKeeps_lifted os started H enc)
#print axioms RegionKeeps_holds
end Go.Proofs.Ytngeejjllgnpcaa
