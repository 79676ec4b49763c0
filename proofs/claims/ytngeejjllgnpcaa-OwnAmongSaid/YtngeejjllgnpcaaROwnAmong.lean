/- OwnAmong: for every input the law returns true, and each argument reads behind the call as it read before. -/
import Derived.Test.YtngeejjllgnpcaaE18l
import Derived.Test.YtngeejjllgnpcaaRows
namespace Go.Proofs.Ytngeejjllgnpcaa
open Go.ChangeShapes Go.WideShapes Go.ChangeAt Go.RowKit Go.Pv
set_option maxRecDepth 100000
set_option maxHeartbeats 4000000
set_option linter.unusedSimpArgs false
set_option linter.unusedVariables false
set_option linter.unusedSectionVars false

theorem OwnAmong_own : ownKnob Try.prog.godebug = none := by kernel_rfl
theorem OwnAmong_laid : laidOutB Try.prog = true := by kernel_rfl

theorem OwnAmong_all (xs : List AV) (h : DatVs Try.prog [3, 3, 24, 38] xs) : PCall Try.prog 14 xs (· = .bool true) := by
  obtain ⟨x0, r, rfl, h0, h⟩ := datVs2 h
  obtain ⟨x1, r, rfl, h1, h⟩ := datVs2 h
  obtain ⟨x2, r, rfl, h2, h⟩ := datVs2 h
  obtain ⟨x3, r, rfl, h3, h⟩ := datVs2 h
  obtain rfl := datVs0 h
  obtain ⟨n0, h0⟩ := datV_o (i := Try.i3) rfl (by intro _ _ h; cases h) h0
  obtain ⟨a0, e0, k0⟩ := dat_Int (i := Try.i3) rfl rfl h0
  obtain rfl := List.head_eq_of_cons_eq e0
  obtain ⟨n1, h1⟩ := datV_o (i := Try.i3) rfl (by intro _ _ h; cases h) h1
  obtain ⟨a1, e1, k1⟩ := dat_Int (i := Try.i3) rfl rfl h1
  obtain rfl := List.head_eq_of_cons_eq e1
  obtain ⟨a2, rfl, k2⟩ := datV_tPoint h2
  obtain ⟨a3, rfl, k3⟩ := datV_tRect h3
  exact OwnAmong_c k0 k1 k2 k3

theorem OwnAmong_lifted (os : Os) (started : os.Started) (H : Type) (enc : TypeId × Value → H) :
    ReturnsInHanded {} Try.checked os 14 .any (Rows.ownAmongSpec.pre6 enc Try.prog Try.f14 Rows.ownAmongRow.domain false) (Rows.ownAmongSpec.post enc Try.prog Try.f14 false true false false) := by
  refine returnsInHanded_of_change (C := Try.checked) OwnAmong_own started (by kernel_rfl) Try.func14
    (ChangeSpec.witness6 (enc := enc) (C := Try.checked) false ⟨#[], #[.int .i64 0, .int .i64 0, .agg #[.int .i64 0, .int .i64 0], .agg #[.int .i64 0, .int .i64 0, .int .i64 0, .int .i64 0]], []⟩ 8 (by kernel_rfl) (by kernel_rfl) (by kernel_rfl) (by kernel_rfl)) ?_
  intro W base args ds gs before hval hW _ _
  exact law_row (P := Try.prog) [2, 3, 24, 38] [3, 3, 24, 38] 4 rfl OwnAmong_laid (by kernel_rfl) (by kernel_rfl) rfl Try.underlying4 rfl
    (fun ds h => by match ds, h with | [_, _, _, _], _ => rfl) OwnAmong_all hval hW (fun _ h => by cases h)

theorem OwnAmong_holds : Rows.OwnAmongSaid :=
  OpenClaim.holds_of_wide 14 Try.f14 rfl rfl rfl rfl rfl rfl rfl ⟨rfl, rfl, rfl, rfl, rfl⟩ rfl rfl rfl rfl rfl (by kernel_rfl) Try.func14 (by kernel_rfl)
    (of_decide_eq_true (by kernel_rfl)) (by unfold Func.isWrapper; first | (rw [if_pos (by decide +kernel)]; kernel_rfl) | (rw [if_neg (by decide +kernel)]; exact ⟨rfl, rfl⟩))
    (fun os started H enc _ => OwnAmong_lifted os started H enc)
#print axioms OwnAmong_holds
end Go.Proofs.Ytngeejjllgnpcaa
