/- FilterReads: for every input the law returns true, and each argument reads behind the call as it read before. -/
import Derived.ProofKit
import Derived.LaidMore
import Derived.LaidLaws
import Derived.MakeChecks
import Derived.Lib.LaidTab
import Derived.Lib.ItoaNum
import Derived.Stop.LaidErr
import Derived.Stop.Joined
import Derived.SevenTiedAt
import Derived.RowKitTokens
import Derived.Test.YtaekecbadkcggaaGreatDoorE07x
import Derived.Test.YtaekecbadkcggaaGreatDoorRows
import Derived.Test.YtaekecbadkcggaaGreatDoorCards
import Derived.Test.YtaekecbadkcggaaGreatDoorTie
namespace Go.Proofs.YtaekecbadkcggaaGreatDoor
open Go.ChangeShapes Go.WideShapes Go.ChangeAt Go.RowKit Go Go.Pv
set_option maxRecDepth 100000
set_option maxHeartbeats 4000000
set_option linter.unusedSimpArgs false
set_option linter.unusedVariables false
set_option linter.unusedSectionVars false

theorem FilterReads_own : ownKnob Tryz.prog.godebug = none := by kernel_rfl
theorem FilterReads_laid : laidOutB Tryz.prog = true := by kernel_rfl

theorem FilterReads_all (xs : List AV) (h : DatVs Tryz.prog [9] xs) : PCall Tryz.prog 3 xs (· = .bool true) := by
  obtain ⟨x0, r, rfl, h0, h⟩ := datVs2 h
  obtain rfl := datVs0 h
  obtain ⟨n0, h0⟩ := datV_o (i := Tryz.i9) rfl (by intro _ _ h; cases h) h0
  obtain ⟨a0, e0, k0⟩ := dat_Str (i := Tryz.i9) rfl rfl h0
  obtain rfl := List.head_eq_of_cons_eq e0
  exact FilterReads_c k0

theorem var_heap {P : Program} {W : World} {n : String} {g : Nat} {cs : Array Value} (hg : P.globalNamed n = some g) (h : W.var? P n = some cs) : ∃ t fr, W.heap[g]? = some (.cells cs t fr) := by
  unfold World.var? at h
  rw [hg] at h
  simp only [Option.bind_some] at h
  split at h
  · rename_i cs' t fr heq; cases h; exact ⟨t, fr, heq⟩
  · cases h
theorem star_err : "*" ++ "errors.errorString" = "*errors.errorString" := by decide
theorem row_err (u : TypeId) (h : Tryz.prog.typeName? 3 u = some "*errors.errorString") : u = 149 :=
  typeName_ptr_named (nm := "errors.errorString") (by rw [star_err]; kernel_rfl) (by kernel_rfl) (by decide) u (by rw [star_err]; exact h)
theorem gSyn : Tryz.prog.globalNamed "strconv.ErrSyntax" = some 2 := by kernel_rfl
theorem gRan : Tryz.prog.globalNamed "strconv.ErrRange" = some 3 := by kernel_rfl
theorem gPow : Tryz.prog.globalNamed "internal/strconv.uint64pow10" = some 0 := by kernel_rfl
theorem FilterReads_lay {W : World} (h : laidMetH Tryz.prog Rows.filterReadsRow.laid W) (t : Nat → Nat) : LaidAt W (G.ofTop t) := by
  rw [MakeChecks.laidMetH_plain _ _ _ (by kernel_rfl)] at h
  have hT := Lib.tabIs_of_head (k := .u64) (zs := Lib.pow10Tab) gPow (show (Tryz.prog.globals[0]?).map (·.type) = some 124 by kernel_rfl) Tryz.underlying124 Tryz.underlying102 (by kernel_rfl) (by kernel_rfl) h.tail.tail
  obtain ⟨a0, s0, hR, -, -, -⟩ := laid_sentinel h.tail.tail.tail gRan (show (Tryz.prog.globals[3]?).map (·.type) = some 28 by kernel_rfl) Tryz.underlying28 row_err Tryz.underlying149 Tryz.underlying151 rfl rfl Tryz.underlying9 (by kernel_rfl) (by kernel_rfl)
  obtain ⟨a1, s1, hS, -, -, -⟩ := laid_sentinel h.tail.tail.tail.tail gSyn (show (Tryz.prog.globals[2]?).map (·.type) = some 28 by kernel_rfl) Tryz.underlying28 row_err Tryz.underlying149 Tryz.underlying151 rfl rfl Tryz.underlying9 (by kernel_rfl) (by kernel_rfl)
  intro p hp
  simp only [LAY, List.mem_cons, List.not_mem_nil, or_false] at hp
  refine ⟨rfl, ?_⟩
  rcases hp with rfl | rfl | rfl
  · obtain ⟨t, fr, hh⟩ := var_heap gSyn hS
    exact ⟨_, hh, _, t, fr, _, rfl, rfl, .inr ⟨_, _, rfl⟩⟩
  · obtain ⟨t, fr, hh⟩ := var_heap gRan hR
    exact ⟨_, hh, _, t, fr, _, rfl, rfl, .inr ⟨_, _, rfl⟩⟩
  · obtain ⟨t, fr, hh⟩ := var_heap gPow hT
    exact ⟨_, hh, t, fr, rfl⟩

theorem FilterReads_met (os : Os) (args : Array Value) : laidMetH Tryz.prog Rows.filterReadsRow.laid ((World.doorLaid Tryz.prog 400 os).forCall (fun _ _ => 0) ⟨#[], args, []⟩).memory := by
  rw [MakeChecks.laidMetH_plain _ _ _ (by kernel_rfl)]
  exact laidMet_of_run' 8 (by kernel_rfl) (by kernel_rfl)

theorem FilterReads_lifted (os : Os) (started : os.Started) (H : Type) (enc : TypeId × Value → H) :
    ReturnsInHanded {} Tryz.checked os 3 .any (fun w args => (Rows.filterReadsSpec.pre enc Tryz.prog Tryz.f3 Rows.filterReadsRow.domain false w args ∧ laidMetH Tryz.prog Rows.filterReadsRow.laid w) ∧ sizedMet enc Tryz.prog Tryz.f3 (OpenSpec.ofChange Rows.filterReadsSpec) false w args) (Rows.filterReadsSpec.post enc Tryz.prog Tryz.f3 false true false false) := by
  refine returnsInHanded_of_change_and (C := Tryz.checked) (X := fun w _ => laidMetH Tryz.prog Rows.filterReadsRow.laid w) (fun _ _ _ hh h => h.of_heap hh) FilterReads_own started (by kernel_rfl) Tryz.func3
    (ChangeSpec.witness_shaped (enc := enc) (C := Tryz.checked) (os := os) (X := fun w _ => laidMetH Tryz.prog Rows.filterReadsRow.laid w) false (World.doorLaid Tryz.prog 400 os) #[.string ByteArray.empty] 8 rfl (World.shaped_of_RefB (by kernel_rfl) (by kernel_rfl)) (by kernel_rfl) (by kernel_rfl) (by kernel_rfl) (FilterReads_met os _)) ?_
  intro W base args ds gs before hval hW _ _ hL _
  exact law_row (P := Tryz.prog) [9] [9] 4 rfl FilterReads_laid (by kernel_rfl) (by kernel_rfl) rfl Tryz.underlying4 rfl
    (fun ds h => by match ds, h with | [_], _ => rfl) FilterReads_all hval hW (FilterReads_lay hL _)

theorem FilterReads_row : Rows.FilterReadsSaid :=
  OpenClaim.holds_of_wide 3 Tryz.f3 rfl rfl rfl rfl rfl rfl rfl ⟨rfl, rfl, rfl, rfl, rfl⟩ rfl rfl rfl rfl rfl (by kernel_rfl) Tryz.func3 (by kernel_rfl)
    (of_decide_eq_true (by kernel_rfl)) (by unfold Func.isWrapper; first | (rw [if_pos (by decide +kernel)]; kernel_rfl) | (rw [if_neg (by decide +kernel)]; exact ⟨rfl, rfl⟩))
    (fun os started H enc _ => FilterReads_lifted os started H enc)
theorem FilterReads_holds : Rows.FilterReadsCardSaid :=
  Claim7.holds_tied_plain_at .later [] [.data, .data, .data, .sentinel, .sentinel] true (true, "aba0fb4f039f3e83828e5d52fafb881e7129d9f5e2d8db9f6795dc0c90ca224c") true
    FilterReads_row (fun _ h => by cases h) (by kernel_rfl) (fun _ h => by cases h) filterReads_row_tie rfl ⟨rfl, rfl⟩ (by kernel_rfl) rfl
    (fun f fn hf hfn => by
      obtain rfl : f = 3 := Option.some.inj ((show Tryz.prog.funcNamed "plover/ploverlaw07.FilterReads" = some 3 by kernel_rfl).symm.trans hf) |>.symm
      obtain rfl : fn = Tryz.f3 := (Option.some.inj (Tryz.func3.symm.trans hfn)).symm
      exact ⟨by kernel_rfl, fun j t ht => by
        rw [Tryz.params3] at ht
        have hm : t ∈ [9] := by simpa using Array.mem_of_getElem? ht
        have hall : ([9].all fun u => !Tryz.prog.wantsStandIn u) = true := by kernel_rfl
        exact (show Tryz.prog.wantsStandIn t = false by simpa using List.all_eq_true.1 hall t hm)⟩)
    (by kernel_rfl)
#print axioms FilterReads_holds

end Go.Proofs.YtaekecbadkcggaaGreatDoor
