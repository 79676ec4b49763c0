/- PolyTurns: for every input the law returns true, and each argument reads behind the call as it read before. -/
import Derived.Test.YtngeejjllgnpcaaRows
import Derived.Test.YtngeejjllgnpcaaPvM
import Derived.Test.YtngeejjllgnpcaaS03z
namespace Go.Proofs.Ytngeejjllgnpcaa
open Go.ChangeShapes Go.WideShapes Go.ChangeAt Go.RowKit Go.Pv
set_option maxRecDepth 100000

theorem PolyTurns_own : ownKnob Try.prog.godebug = none := by kernel_rfl
theorem PolyTurns_laid : laidOutB Try.prog = true := by kernel_rfl

theorem PolyTurns_all (xs : List AV) (h : DatVs Try.prog [22, 24, 24, 3] xs) : PCall Try.prog 5 xs (· = .bool true) := by
  obtain ⟨x0, r, rfl, h0, h⟩ := datVs2 h
  obtain ⟨x1, r, rfl, h1, h⟩ := datVs2 h
  obtain ⟨x2, r, rfl, h2, h⟩ := datVs2 h
  obtain ⟨x3, r, rfl, h3, h⟩ := datVs2 h
  obtain rfl := datVs0 h
  obtain ⟨v0, rfl, l0, w0⟩ := datV_pts (i := Try.i22) (j := Try.i24) rfl rfl rfl rfl rfl rfl h0
  obtain ⟨zs, hl, rfl, w1⟩ := datV_ints (i := Try.i24) rfl rfl rfl h1
  obtain ⟨v1_0, v1_1, rfl⟩ := len2 hl
  obtain ⟨zs, hl, rfl, w2⟩ := datV_ints (i := Try.i24) rfl rfl rfl h2
  obtain ⟨v2_0, v2_1, rfl⟩ := len2 hl
  obtain ⟨z3, rfl, w3⟩ := datV_int (i := Try.i3) rfl rfl h3
  exact PolyTurns_c l0 w3

theorem PolyTurns_lifted (os : Os) (started : os.Started) (H : Type) (enc : TypeId × Value → H) :
    ReturnsInHanded {} Try.checked os 5 .any (Rows.polyTurnsSpec.pre6 enc Try.prog Try.f5 Rows.polyTurnsRow.domain false) (Rows.polyTurnsSpec.post enc Try.prog Try.f5 false true false false) := by
  refine returnsInHanded_of_change (C := Try.checked) PolyTurns_own started (by kernel_rfl) Try.func5
    (ChangeSpec.witness6 (enc := enc) (C := Try.checked) false ⟨#[], #[.slice none 0 0, .agg #[.int .i64 0, .int .i64 0], .agg #[.int .i64 0, .int .i64 0], .int .i64 0], []⟩ 8 (by kernel_rfl) (by kernel_rfl) (by kernel_rfl) (by kernel_rfl)) ?_
  intro W base args ds gs before hval hW _ _
  exact law_row (P := Try.prog) [2, 3, 24, 22] [22, 24, 24, 3] 4 rfl PolyTurns_laid (by kernel_rfl) (by kernel_rfl) rfl Try.underlying4 rfl
    (fun ds h => by match ds, h with | [_, _, _, _], _ => rfl) PolyTurns_all hval hW

theorem PolyTurns_holds : Rows.PolyTurnsSaid :=
  OpenClaim.holds_of_wide 5 Try.f5 rfl rfl rfl rfl rfl rfl rfl ⟨rfl, rfl, rfl, rfl, rfl⟩ rfl rfl rfl rfl rfl (by kernel_rfl) Try.func5 (by kernel_rfl)
    (of_decide_eq_true (by kernel_rfl)) (by unfold Func.isWrapper; first | (rw [if_pos (by decide +kernel)]; kernel_rfl) | (rw [if_neg (by decide +kernel)]; exact ⟨rfl, rfl⟩))
    (fun os started H enc _ => PolyTurns_lifted os started H enc)
#print axioms PolyTurns_holds
end Go.Proofs.Ytngeejjllgnpcaa
