/- EvalLaws: for every input the law returns true, and each argument reads behind the call as it read before. -/
import Derived.Test.YtaekecbadkcggaaE09l
import Derived.Test.YtaekecbadkcggaaRows
namespace Go.Proofs.Ytaekecbadkcggaa
open Go.ChangeShapes Go.WideShapes Go.ChangeAt Go.RowKit Go.Pv
set_option maxRecDepth 100000
set_option maxHeartbeats 4000000
set_option linter.unusedSimpArgs false
set_option linter.unusedVariables false
set_option linter.unusedSectionVars false

theorem upto_bulk {H : Type} : Bulk (Rows.uptoBulk (H := H)) Rows.uptoBulkAll where
  bool _ := by simp [Rows.uptoBulk]
  int _ _ := by simp [Rows.uptoBulk]
  str _ := by simp [Rows.uptoBulk]
  nil := by simp [Rows.uptoBulk]
  slice _ _ := by simp only [Rows.uptoBulk]; omega
  agg _ := by simp only [Rows.uptoBulk]; omega
  cons _ _ := by simp only [Rows.uptoBulkAll]; omega
theorem upto_app {H : Type} : ∀ (a b : List (DataW H)), Rows.uptoBulkAll a ≤ Rows.uptoBulkAll (a ++ b)
  | [], _ => by simp only [Rows.uptoBulkAll]; omega
  | d :: a, b => by have := upto_app a b; simp only [List.cons_append, Rows.uptoBulkAll]; omega

theorem EvalLaws_own : ownKnob Try.prog.godebug = none := by kernel_rfl
theorem EvalLaws_laid : laidOutB Try.prog = true := by kernel_rfl

theorem EvalLaws_all (xs : List AV) (h : DatVs Try.prog [59, 59, 56, 64] xs) (hb : bkL xs ≤ 1048576) : PCall Try.prog 6 xs (· = .bool true) := by
  obtain ⟨x0, r, rfl, h0, h⟩ := datVs2 h
  obtain ⟨x1, r, rfl, h1, h⟩ := datVs2 h
  obtain ⟨x2, r, rfl, h2, h⟩ := datVs2 h
  obtain ⟨x3, r, rfl, h3, h⟩ := datVs2 h
  obtain rfl := datVs0 h
  obtain ⟨a0, rfl, k0⟩ := datV_tFilter h0
  obtain ⟨a1, rfl, k1⟩ := datV_tFilter h1
  obtain ⟨n2, h2⟩ := datV_o (i := Try.i56) rfl (by intro _ _ h; cases h) h2
  obtain ⟨a2, e2, k2⟩ := dat_List (c := c_tAttr) (Q := ok_tAttr) (i := Try.i56) rfl rfl (fun _ _ h => dat_tAttr h) h2
  obtain rfl := List.head_eq_of_cons_eq e2
  obtain ⟨a3, rfl, k3⟩ := datV_tAttr h3
  exact EvalLaws_c k0 k1 k2 k3 hb

theorem EvalLaws_lifted (os : Os) (started : os.Started) (H : Type) (enc : TypeId × Value → H) (F : Stop.Interp) :
    ReturnsInHanded {} Try.checked os 6 .any ((Rows.OpenSpec.upto Rows.evalLawsSpec).pre6 enc Try.prog Try.f6 Rows.evalLawsUptoRow.domain false) (((Rows.OpenSpec.upto Rows.evalLawsSpec).at F).post enc Try.prog Try.f6 false true false false) := by
  refine returnsInHanded_of_cond (C := Try.checked) (s := Rows.OpenSpec.upto Rows.evalLawsSpec) (k := Rows.uptoSmall) rfl EvalLaws_own started (by kernel_rfl) Try.func6
    (OpenSpec.witness (enc := enc) (C := Try.checked) (s := Rows.OpenSpec.upto Rows.evalLawsSpec) (k := Rows.uptoSmall) rfl false ⟨#[], #[.agg #[.int .i64 0, .string ByteArray.empty, .string ByteArray.empty, .slice none 0 0, .slice none 0 0], .agg #[.int .i64 0, .string ByteArray.empty, .string ByteArray.empty, .slice none 0 0, .slice none 0 0], .slice none 0 0, .agg #[.string ByteArray.empty, .bool false, .int .i64 0, .string ByteArray.empty]], []⟩ 8 (by kernel_rfl) (by kernel_rfl) (by kernel_rfl)
      (x := ([.agg [.lit (.int .i64 0), .lit (.string []), .lit (.string []), .nil, .nil], .agg [.lit (.int .i64 0), .lit (.string []), .lit (.string []), .nil, .nil], .nil, .agg [.lit (.string []), .lit (.bool false), .lit (.int .i64 0), .lit (.string [])]], [], [])) (by kernel_rfl) rfl (by kernel_rfl)) ?_
  intro W base args ds gs before hval hW _ hk _
  have hk' : Rows.uptoBulkAll (ds ++ gs) ≤ 1048576 := of_decide_eq_true hk
  exact law_rowB (P := Try.prog) upto_bulk [2, 3, 4, 9, 56, 57, 59, 64] [59, 59, 56, 64] 4 rfl EvalLaws_laid (by kernel_rfl) (by kernel_rfl) rfl Try.underlying4 rfl
    (fun ds h => by match ds, h with | [_, _, _, _], _ => rfl) (fun xs h hb => EvalLaws_all xs h (Nat.le_trans hb (Nat.le_trans (upto_app ds gs) hk'))) hval hW

theorem EvalLaws_holds : Rows.EvalLawsUptoSaid :=
  OpenClaim.holds_of_cond 6 Try.f6 rfl rfl rfl rfl rfl rfl rfl ⟨rfl, rfl, rfl, rfl, rfl⟩ rfl rfl rfl rfl rfl (by kernel_rfl) Try.func6 (by kernel_rfl)
    (of_decide_eq_true (by kernel_rfl)) (by unfold Func.isWrapper; first | (rw [if_pos (by decide +kernel)]; kernel_rfl) | (rw [if_neg (by decide +kernel)]; exact ⟨rfl, rfl⟩))
    (fun os started H enc _ F => EvalLaws_lifted os started H enc F)
#print axioms EvalLaws_holds

end Go.Proofs.Ytaekecbadkcggaa
