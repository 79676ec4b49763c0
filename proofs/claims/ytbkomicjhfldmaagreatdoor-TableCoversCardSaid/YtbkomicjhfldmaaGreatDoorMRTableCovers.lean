/- TableCovers: for every input the law returns true, and each argument reads behind the call as it read before. -/
import Derived.ProofKit
import Derived.LaidMore
import Derived.LaidLaws
import Derived.MakeChecks
import Derived.Lib.LaidTab
import Derived.Lib.ItoaNum
import Derived.Stop.LaidErr
import Derived.Stop.Joined
import Derived.SevenTiedAt
import Derived.RowKitTokens
import Derived.Test.YtbkomicjhfldmaaGreatDoorM10
import Derived.Test.YtbkomicjhfldmaaGreatDoorRows
import Derived.Test.YtbkomicjhfldmaaGreatDoorCards
import Derived.Test.YtbkomicjhfldmaaGreatDoorTie
namespace Go.Proofs.YtbkomicjhfldmaaGreatDoor
open Go.ChangeShapes Go.WideShapes Go.ChangeAt Go.RowKit Go Go.Pv
set_option maxRecDepth 100000
set_option maxHeartbeats 4000000
set_option linter.unusedSimpArgs false
set_option linter.unusedVariables false
set_option linter.unusedSectionVars false

theorem TableCovers_own : ownKnob Tryz.prog.godebug = none := by kernel_rfl
theorem TableCovers_laid : laidOutB Tryz.prog = true := by kernel_rfl

theorem TableCovers_all (xs : List AV) (h : DatVs Tryz.prog [3, 26, 9, 24] xs) : PCall Tryz.prog 3 xs (· = .bool true) := by
  obtain ⟨x0, r, rfl, h0, h⟩ := datVs2 h
  obtain ⟨x1, r, rfl, h1, h⟩ := datVs2 h
  obtain ⟨x2, r, rfl, h2, h⟩ := datVs2 h
  obtain ⟨x3, r, rfl, h3, h⟩ := datVs2 h
  obtain rfl := datVs0 h
  obtain ⟨n0, h0⟩ := datV_o (i := Tryz.i3) rfl (by intro _ _ h; cases h) h0
  obtain ⟨a0, e0, k0⟩ := dat_Int (i := Tryz.i3) rfl rfl h0
  obtain rfl := List.head_eq_of_cons_eq e0
  obtain ⟨a1, rfl, k1⟩ := datV_tRegion h1
  obtain ⟨n2, h2⟩ := datV_o (i := Tryz.i9) rfl (by intro _ _ h; cases h) h2
  obtain ⟨a2, e2, k2⟩ := dat_Str (i := Tryz.i9) rfl rfl h2
  obtain rfl := List.head_eq_of_cons_eq e2
  obtain ⟨n3, h3⟩ := datV_o (i := Tryz.i24) rfl (by intro _ _ h; cases h) h3
  obtain ⟨a3, e3, k3⟩ := dat_List (c := c_tPoint) (Q := ok_tPoint) (i := Tryz.i24) rfl rfl (fun _ _ h => dat_tPoint h) h3
  obtain rfl := List.head_eq_of_cons_eq e3
  exact TableCovers_c k0 k1 k2 k3

theorem var_heap {P : Program} {W : World} {n : String} {g : Nat} {cs : Array Value} (hg : P.globalNamed n = some g) (h : W.var? P n = some cs) : ∃ t fr, W.heap[g]? = some (.cells cs t fr) := by
  unfold World.var? at h
  rw [hg] at h
  simp only [Option.bind_some] at h
  split at h
  · rename_i cs' t fr heq; cases h; exact ⟨t, fr, heq⟩
  · cases h
theorem star_err : "*" ++ "errors.errorString" = "*errors.errorString" := by decide
theorem row_err (u : TypeId) (h : Tryz.prog.typeName? 3 u = some "*errors.errorString") : u = 353 :=
  typeName_ptr_named (nm := "errors.errorString") (by rw [star_err]; kernel_rfl) (by kernel_rfl) (by decide) u (by rw [star_err]; exact h)
theorem gSyn : Tryz.prog.globalNamed "strconv.ErrSyntax" = some 1 := by kernel_rfl
theorem gRan : Tryz.prog.globalNamed "strconv.ErrRange" = some 2 := by kernel_rfl
theorem gPow : Tryz.prog.globalNamed "internal/strconv.uint64pow10" = some 3 := by kernel_rfl
theorem TableCovers_lay {W : World} (h : laidMetH Tryz.prog Rows.tableCoversRow.laid W) (t : Nat → Nat) : LaidAt W (G.ofTop t) := by
  rw [MakeChecks.laidMetH_plain _ _ _ (by kernel_rfl)] at h
  have hT := Lib.tabIs_of_head (k := .u64) (zs := Lib.pow10Tab) gPow (show (Tryz.prog.globals[3]?).map (·.type) = some 367 by kernel_rfl) Tryz.underlying367 Tryz.underlying265 (by kernel_rfl) (by kernel_rfl) h.tail.tail
  obtain ⟨a0, s0, hR, -, -, -⟩ := laid_sentinel h.tail.tail.tail gRan (show (Tryz.prog.globals[2]?).map (·.type) = some 31 by kernel_rfl) Tryz.underlying31 row_err Tryz.underlying353 Tryz.underlying355 rfl rfl Tryz.underlying9 (by kernel_rfl) (by kernel_rfl)
  obtain ⟨a1, s1, hS, -, -, -⟩ := laid_sentinel h.tail.tail.tail.tail gSyn (show (Tryz.prog.globals[1]?).map (·.type) = some 31 by kernel_rfl) Tryz.underlying31 row_err Tryz.underlying353 Tryz.underlying355 rfl rfl Tryz.underlying9 (by kernel_rfl) (by kernel_rfl)
  intro p hp
  simp only [LAY, List.mem_cons, List.not_mem_nil, or_false] at hp
  refine ⟨rfl, ?_⟩
  rcases hp with rfl | rfl | rfl
  · obtain ⟨t, fr, hh⟩ := var_heap gSyn hS
    exact ⟨_, hh, _, t, fr, _, rfl, rfl, .inr ⟨_, _, rfl⟩⟩
  · obtain ⟨t, fr, hh⟩ := var_heap gRan hR
    exact ⟨_, hh, _, t, fr, _, rfl, rfl, .inr ⟨_, _, rfl⟩⟩
  · obtain ⟨t, fr, hh⟩ := var_heap gPow hT
    exact ⟨_, hh, t, fr, rfl⟩

theorem TableCovers_met (os : Os) (args : Array Value) : laidMetH Tryz.prog Rows.tableCoversRow.laid ((World.doorLaid Tryz.prog 400 os).forCall (fun _ _ => 0) ⟨#[], args, []⟩).memory := by
  rw [MakeChecks.laidMetH_plain _ _ _ (by kernel_rfl)]
  exact laidMet_of_run' 8 (by kernel_rfl) (by kernel_rfl)

theorem TableCovers_lifted (os : Os) (started : os.Started) (H : Type) (enc : TypeId × Value → H) :
    ReturnsInHanded {} Tryz.checked os 3 .any (fun w args => (Rows.tableCoversSpec.pre enc Tryz.prog Tryz.f3 Rows.tableCoversRow.domain false w args ∧ laidMetH Tryz.prog Rows.tableCoversRow.laid w) ∧ sizedMet enc Tryz.prog Tryz.f3 (OpenSpec.ofChange Rows.tableCoversSpec) false w args) (Rows.tableCoversSpec.post enc Tryz.prog Tryz.f3 false true false false) := by
  refine returnsInHanded_of_change_and (C := Tryz.checked) (X := fun w _ => laidMetH Tryz.prog Rows.tableCoversRow.laid w) (fun _ _ _ hh h => h.of_heap hh) TableCovers_own started (by kernel_rfl) Tryz.func3
    (ChangeSpec.witness_shaped (enc := enc) (C := Tryz.checked) (os := os) (X := fun w _ => laidMetH Tryz.prog Rows.tableCoversRow.laid w) false (World.doorLaid Tryz.prog 400 os) #[.int .i64 0, .agg #[.int .i64 0, .int .i64 0, .int .i64 0, .int .i64 0, .slice none 0 0], .string ByteArray.empty, .slice none 0 0] 8 rfl (World.shaped_of_RefB (by kernel_rfl) (by kernel_rfl)) (by kernel_rfl) (by kernel_rfl) (by kernel_rfl) (TableCovers_met os _)) ?_
  intro W base args ds gs before hval hW _ _ hL _
  exact law_row (P := Tryz.prog) [2, 3, 9, 23, 24, 26, 43] [3, 26, 9, 24] 4 rfl TableCovers_laid (by kernel_rfl) (by kernel_rfl) rfl Tryz.underlying4 rfl
    (fun ds h => by match ds, h with | [_, _, _, _], _ => rfl) TableCovers_all hval hW (TableCovers_lay hL _)

theorem TableCovers_row : Rows.TableCoversSaid :=
  OpenClaim.holds_of_wide 3 Tryz.f3 rfl rfl rfl rfl rfl rfl rfl ⟨rfl, rfl, rfl, rfl, rfl⟩ rfl rfl rfl rfl rfl (by kernel_rfl) Tryz.func3 (by kernel_rfl)
    (of_decide_eq_true (by kernel_rfl)) (by unfold Func.isWrapper; first | (rw [if_pos (by decide +kernel)]; kernel_rfl) | (rw [if_neg (by decide +kernel)]; exact ⟨rfl, rfl⟩))
    (fun os started H enc _ => TableCovers_lifted os started H enc)
theorem TableCovers_holds : Rows.TableCoversCardSaid :=
  Claim7.holds_tied_plain_at .later [] [.data, .data, .data, .sentinel, .sentinel] true (true, "22c66596984cae993470b5fba66d2596608881599c358a02c28252f4a4335be3") true
    TableCovers_row (fun _ h => by cases h) (by kernel_rfl) (fun _ h => by cases h) tableCovers_row_tie rfl ⟨rfl, rfl⟩ (by kernel_rfl) rfl
    (fun f fn hf hfn => by
      obtain rfl : f = 3 := Option.some.inj ((show Tryz.prog.funcNamed "plover/ploverlaw19.TableCovers" = some 3 by kernel_rfl).symm.trans hf) |>.symm
      obtain rfl : fn = Tryz.f3 := (Option.some.inj (Tryz.func3.symm.trans hfn)).symm
      exact ⟨by kernel_rfl, fun j t ht => by
        rw [Tryz.params3] at ht
        have hm : t ∈ [3, 26, 9, 24] := by simpa using Array.mem_of_getElem? ht
        have hall : ([3, 26, 9, 24].all fun u => !Tryz.prog.wantsStandIn u) = true := by kernel_rfl
        exact (show Tryz.prog.wantsStandIn t = false by simpa using List.all_eq_true.1 hall t hm)⟩)
    (by kernel_rfl)
#print axioms TableCovers_holds

end Go.Proofs.YtbkomicjhfldmaaGreatDoor
