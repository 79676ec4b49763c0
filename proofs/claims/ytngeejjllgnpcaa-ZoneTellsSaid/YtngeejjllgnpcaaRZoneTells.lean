/- ZoneTells: for every input the law returns true, and each argument reads behind the call as it read before. -/
import Derived.Test.YtngeejjllgnpcaaRows
import Derived.Test.YtngeejjllgnpcaaPwD
import Derived.Test.YtngeejjllgnpcaaS17b
namespace Go.Proofs.Ytngeejjllgnpcaa
open Go.ChangeShapes Go.WideShapes Go.ChangeAt Go.RowKit Go.Pv
set_option maxRecDepth 100000

theorem ZoneTells_own : ownKnob Try.prog.godebug = none := by kernel_rfl
theorem ZoneTells_laid : laidOutB Try.prog = true := by kernel_rfl

theorem ZoneTells_all (xs : List AV) (h : DatVs Try.prog [3, 44, 38, 24] xs) : PCall Try.prog 7 xs (· = .bool true) := by
  obtain ⟨x0, r, rfl, h0, h⟩ := datVs2 h
  obtain ⟨x1, r, rfl, h1, h⟩ := datVs2 h
  obtain ⟨x2, r, rfl, h2, h⟩ := datVs2 h
  obtain ⟨x3, r, rfl, h3, h⟩ := datVs2 h
  obtain rfl := datVs0 h
  obtain ⟨z0, rfl, w0⟩ := datV_int (i := Try.i3) rfl rfl h0
  obtain ⟨a1, b1, c1, d1, l1, rfl, k1⟩ := datV_reg h1
  obtain ⟨zs, hl, rfl, w2⟩ := datV_ints (i := Try.i38) rfl rfl rfl h2
  obtain ⟨v2_0, v2_1, v2_2, v2_3, rfl⟩ := len4 hl
  obtain ⟨zs, hl, rfl, w3⟩ := datV_ints (i := Try.i24) rfl rfl rfl h3
  obtain ⟨v3_0, v3_1, rfl⟩ := len2 hl
  exact ZoneTells_c w0 k1

theorem ZoneTells_lifted (os : Os) (started : os.Started) (H : Type) (enc : TypeId × Value → H) :
    ReturnsInHanded {} Try.checked os 7 .any (Rows.zoneTellsSpec.pre6 enc Try.prog Try.f7 Rows.zoneTellsRow.domain false) (Rows.zoneTellsSpec.post enc Try.prog Try.f7 false true false false) := by
  refine returnsInHanded_of_change (C := Try.checked) ZoneTells_own started (by kernel_rfl) Try.func7
    (ChangeSpec.witness6 (enc := enc) (C := Try.checked) false ⟨#[], #[.int .i64 0, .agg #[.int .i64 0, .int .i64 0, .int .i64 0, .int .i64 0, .slice none 0 0], .agg #[.int .i64 0, .int .i64 0, .int .i64 0, .int .i64 0], .agg #[.int .i64 0, .int .i64 0]], []⟩ 8 (by kernel_rfl) (by kernel_rfl) (by kernel_rfl) (by kernel_rfl)) ?_
  intro W base args ds gs before hval hW _ _
  exact law_row (P := Try.prog) [2, 3, 24, 22, 38, 44] [3, 44, 38, 24] 4 rfl ZoneTells_laid (by kernel_rfl) (by kernel_rfl) rfl Try.underlying4 rfl
    (fun ds h => by match ds, h with | [_, _, _, _], _ => rfl) ZoneTells_all hval hW

theorem ZoneTells_holds : Rows.ZoneTellsSaid :=
  OpenClaim.holds_of_wide 7 Try.f7 rfl rfl rfl rfl rfl rfl rfl ⟨rfl, rfl, rfl, rfl, rfl⟩ rfl rfl rfl rfl rfl (by kernel_rfl) Try.func7 (by kernel_rfl)
    (of_decide_eq_true (by kernel_rfl)) (by unfold Func.isWrapper; first | (rw [if_pos (by decide +kernel)]; kernel_rfl) | (rw [if_neg (by decide +kernel)]; exact ⟨rfl, rfl⟩))
    (fun os started H enc _ => ZoneTells_lifted os started H enc)
#print axioms ZoneTells_holds
end Go.Proofs.Ytngeejjllgnpcaa
