/- ZoneKeeps: for every input the law returns true, and each argument reads behind the call as it read before. -/
import Derived.Test.YtngeejjllgnpcaaRows
import Derived.Test.YtngeejjllgnpcaaPwD
import Derived.Test.YtngeejjllgnpcaaS17b
namespace Go.Proofs.Ytngeejjllgnpcaa
open Go.ChangeShapes Go.WideShapes Go.ChangeAt Go.RowKit Go.Pv
set_option maxRecDepth 100000

theorem ZoneKeeps_own : ownKnob Try.prog.godebug = none := by kernel_rfl
theorem ZoneKeeps_laid : laidOutB Try.prog = true := by kernel_rfl

theorem ZoneKeeps_all (xs : List AV) (h : DatVs Try.prog [3, 44, 24] xs) : PCall Try.prog 10 xs (· = .bool true) := by
  obtain ⟨x0, r, rfl, h0, h⟩ := datVs2 h
  obtain ⟨x1, r, rfl, h1, h⟩ := datVs2 h
  obtain ⟨x2, r, rfl, h2, h⟩ := datVs2 h
  obtain rfl := datVs0 h
  obtain ⟨z0, rfl, w0⟩ := datV_int (i := Try.i3) rfl rfl h0
  obtain ⟨a1, b1, c1, d1, l1, rfl, k1⟩ := datV_reg h1
  obtain ⟨zs, hl, rfl, w2⟩ := datV_ints (i := Try.i24) rfl rfl rfl h2
  obtain ⟨v2_0, v2_1, rfl⟩ := len2 hl
  exact ZoneKeeps_c w0 k1

theorem ZoneKeeps_lifted (os : Os) (started : os.Started) (H : Type) (enc : TypeId × Value → H) :
    ReturnsInHanded {} Try.checked os 10 .any (Rows.zoneKeepsSpec.pre6 enc Try.prog Try.f10 Rows.zoneKeepsRow.domain false) (Rows.zoneKeepsSpec.post enc Try.prog Try.f10 false true false false) := by
  refine returnsInHanded_of_change (C := Try.checked) ZoneKeeps_own started (by kernel_rfl) Try.func10
    (ChangeSpec.witness6 (enc := enc) (C := Try.checked) false ⟨#[], #[.int .i64 0, .agg #[.int .i64 0, .int .i64 0, .int .i64 0, .int .i64 0, .slice none 0 0], .agg #[.int .i64 0, .int .i64 0]], []⟩ 8 (by kernel_rfl) (by kernel_rfl) (by kernel_rfl) (by kernel_rfl)) ?_
  intro W base args ds gs before hval hW _ _
  exact law_row (P := Try.prog) [2, 3, 24, 22, 38, 44] [3, 44, 24] 4 rfl ZoneKeeps_laid (by kernel_rfl) (by kernel_rfl) rfl Try.underlying4 rfl
    (fun ds h => by match ds, h with | [_, _, _], _ => rfl) ZoneKeeps_all hval hW

theorem ZoneKeeps_holds : Rows.ZoneKeepsSaid :=
  OpenClaim.holds_of_wide 10 Try.f10 rfl rfl rfl rfl rfl rfl rfl ⟨rfl, rfl, rfl, rfl, rfl⟩ rfl rfl rfl rfl rfl (by kernel_rfl) Try.func10 (by kernel_rfl)
    (of_decide_eq_true (by kernel_rfl)) (by unfold Func.isWrapper; first | (rw [if_pos (by decide +kernel)]; kernel_rfl) | (rw [if_neg (by decide +kernel)]; exact ⟨rfl, rfl⟩))
    (fun os started H enc _ => ZoneKeeps_lifted os started H enc)
#print axioms ZoneKeeps_holds
end Go.Proofs.Ytngeejjllgnpcaa
