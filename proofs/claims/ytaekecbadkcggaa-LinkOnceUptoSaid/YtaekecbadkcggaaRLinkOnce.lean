/- LinkOnce: for every input the law returns true, and each argument reads behind the call as it read before. -/
import Derived.Test.YtaekecbadkcggaaE15o
import Derived.Test.YtaekecbadkcggaaRows
namespace Go.Proofs.Ytaekecbadkcggaa
open Go.ChangeShapes Go.WideShapes Go.ChangeAt Go.RowKit Go.Pv
set_option maxRecDepth 100000
set_option maxHeartbeats 4000000
set_option linter.unusedSimpArgs false
set_option linter.unusedVariables false
set_option linter.unusedSectionVars false

theorem upto_bulk {H : Type} : Bulk (Rows.uptoBulk (H := H)) Rows.uptoBulkAll where
  bool _ := by simp [Rows.uptoBulk]
  int _ _ := by simp [Rows.uptoBulk]
  str _ := by simp [Rows.uptoBulk]
  nil := by simp [Rows.uptoBulk]
  slice _ _ := by simp only [Rows.uptoBulk]; omega
  agg _ := by simp only [Rows.uptoBulk]; omega
  cons _ _ := by simp only [Rows.uptoBulkAll]; omega
theorem upto_app {H : Type} : ∀ (a b : List (DataW H)), Rows.uptoBulkAll a ≤ Rows.uptoBulkAll (a ++ b)
  | [], _ => by simp only [Rows.uptoBulkAll]; omega
  | d :: a, b => by have := upto_app a b; simp only [List.cons_append, Rows.uptoBulkAll]; omega

theorem LinkOnce_own : ownKnob Try.prog.godebug = none := by kernel_rfl
theorem LinkOnce_laid : laidOutB Try.prog = true := by kernel_rfl

theorem LinkOnce_all (xs : List AV) (h : DatVs Try.prog [3, 33, 22] xs) (hb : bkL xs ≤ 1048576) : PCall Try.prog 4 xs (· = .bool true) := by
  obtain ⟨x0, r, rfl, h0, h⟩ := datVs2 h
  obtain ⟨x1, r, rfl, h1, h⟩ := datVs2 h
  obtain ⟨x2, r, rfl, h2, h⟩ := datVs2 h
  obtain rfl := datVs0 h
  obtain ⟨n0, h0⟩ := datV_o (i := Try.i3) rfl (by intro _ _ h; cases h) h0
  obtain ⟨a0, e0, k0⟩ := dat_Int (i := Try.i3) rfl rfl h0
  obtain rfl := List.head_eq_of_cons_eq e0
  obtain ⟨n1, h1⟩ := datV_o (i := Try.i33) rfl (by intro _ _ h; cases h) h1
  obtain ⟨a1, e1, k1⟩ := dat_List (c := (cL cU8)) (Q := okS) (i := Try.i33) rfl rfl (fun _ _ h => dat_Bytes (i := Try.i38) (j := Try.i5) rfl rfl rfl rfl h) h1
  obtain rfl := List.head_eq_of_cons_eq e1
  obtain ⟨n2, h2⟩ := datV_o (i := Try.i22) rfl (by intro _ _ h; cases h) h2
  obtain ⟨a2, e2, k2⟩ := dat_List (c := c_tlaw15Deed) (Q := ok_tlaw15Deed) (i := Try.i22) rfl rfl (fun _ _ h => dat_tlaw15Deed h) h2
  obtain rfl := List.head_eq_of_cons_eq e2
  exact LinkOnce_c k0 k1 k2 hb

theorem LinkOnce_lifted (os : Os) (started : os.Started) (H : Type) (enc : TypeId × Value → H) (F : Stop.Interp) :
    ReturnsInHanded {} Try.checked os 4 .any ((Rows.OpenSpec.upto Rows.linkOnceSpec).pre6 enc Try.prog Try.f4 Rows.linkOnceUptoRow.domain false) (((Rows.OpenSpec.upto Rows.linkOnceSpec).at F).post enc Try.prog Try.f4 false true false false) := by
  refine returnsInHanded_of_cond (C := Try.checked) (s := Rows.OpenSpec.upto Rows.linkOnceSpec) (k := Rows.uptoSmall) rfl LinkOnce_own started (by kernel_rfl) Try.func4
    (OpenSpec.witness (enc := enc) (C := Try.checked) (s := Rows.OpenSpec.upto Rows.linkOnceSpec) (k := Rows.uptoSmall) rfl false ⟨#[], #[.int .i64 0, .slice none 0 0, .slice none 0 0], []⟩ 8 (by kernel_rfl) (by kernel_rfl) (by kernel_rfl)
      (x := ([.lit (.int .i64 0), .nil, .nil], [], [])) (by kernel_rfl) rfl (by kernel_rfl)) ?_
  intro W base args ds gs before hval hW _ hk _
  have hk' : Rows.uptoBulkAll (ds ++ gs) ≤ 1048576 := of_decide_eq_true hk
  exact law_rowB (P := Try.prog) upto_bulk [3, 4, 5, 22, 33, 38, 40] [3, 33, 22] 4 rfl LinkOnce_laid (by kernel_rfl) (by kernel_rfl) rfl Try.underlying4 rfl
    (fun ds h => by match ds, h with | [_, _, _], _ => rfl) (fun xs h hb => LinkOnce_all xs h (Nat.le_trans hb (Nat.le_trans (upto_app ds gs) hk'))) hval hW

theorem LinkOnce_holds : Rows.LinkOnceUptoSaid :=
  OpenClaim.holds_of_cond 4 Try.f4 rfl rfl rfl rfl rfl rfl rfl ⟨rfl, rfl, rfl, rfl, rfl⟩ rfl rfl rfl rfl rfl (by kernel_rfl) Try.func4 (by kernel_rfl)
    (of_decide_eq_true (by kernel_rfl)) (by unfold Func.isWrapper; first | (rw [if_pos (by decide +kernel)]; kernel_rfl) | (rw [if_neg (by decide +kernel)]; exact ⟨rfl, rfl⟩))
    (fun os started H enc _ F => LinkOnce_lifted os started H enc F)
#print axioms LinkOnce_holds

end Go.Proofs.Ytaekecbadkcggaa
