/- TablePlays: for every input the law returns true, and each argument reads behind the call as it read before. -/
import Derived.ProofKit
import Derived.LaidMore
import Derived.LaidLaws
import Derived.MakeChecks
import Derived.Lib.LaidTab
import Derived.Lib.ItoaNum
import Derived.Stop.LaidErr
import Derived.Stop.Joined
import Derived.SevenTiedAt
import Derived.RowKitTokens
import Derived.Test.YtbkomicjhfldmaaGreatDoorM11
import Derived.Test.YtbkomicjhfldmaaGreatDoorRows
import Derived.Test.YtbkomicjhfldmaaGreatDoorCards
import Derived.Test.YtbkomicjhfldmaaGreatDoorTie
namespace Go.Proofs.YtbkomicjhfldmaaGreatDoor
open Go.ChangeShapes Go.WideShapes Go.ChangeAt Go.RowKit Go Go.Pv
set_option maxRecDepth 100000
set_option maxHeartbeats 4000000
set_option linter.unusedSimpArgs false
set_option linter.unusedVariables false
set_option linter.unusedSectionVars false

theorem TablePlays_own : ownKnob Tryz.prog.godebug = none := by kernel_rfl
theorem TablePlays_laid : laidOutB Tryz.prog = true := by kernel_rfl

theorem TablePlays_all (xs : List AV) (h : rl Tryz.prog [3, 3, 48, 52] xs) : ai Tryz.prog 4 xs (· = .bool true) := by
  obtain ⟨x0, r, rfl, h0, h⟩ := we h
  obtain ⟨x1, r, rfl, h1, h⟩ := we h
  obtain ⟨x2, r, rfl, h2, h⟩ := we h
  obtain ⟨x3, r, rfl, h3, h⟩ := we h
  obtain rfl := HI h
  obtain ⟨n0, h0⟩ := zJ (i := Tryz.i3) rfl (by intro _ _ h; cases h) h0
  obtain ⟨a0, e0, k0⟩ := gq (i := Tryz.i3) rfl rfl h0
  obtain rfl := List.head_eq_of_cons_eq e0
  obtain ⟨n1, h1⟩ := zJ (i := Tryz.i3) rfl (by intro _ _ h; cases h) h1
  obtain ⟨a1, e1, k1⟩ := gq (i := Tryz.i3) rfl rfl h1
  obtain rfl := List.head_eq_of_cons_eq e1
  obtain ⟨n2, h2⟩ := zJ (i := Tryz.i48) rfl (by intro _ _ h; cases h) h2
  obtain ⟨a2, e2, k2⟩ := uf (c := bP) (Q := ld) (i := Tryz.i48) rfl rfl (fun _ _ h => ub h) h2
  obtain rfl := List.head_eq_of_cons_eq e2
  obtain ⟨a3, rfl, k3⟩ := yp h3
  exact vQ k0 k1 k2 k3

theorem var_heap {P : Program} {W : World} {n : String} {g : Nat} {cs : Array Value} (hg : P.globalNamed n = some g) (h : W.var? P n = some cs) : ∃ t fr, W.heap[g]? = some (.cells cs t fr) := by
  unfold World.var? at h
  rw [hg] at h
  simp only [Kd] at h
  split at h
  · rename_i cs' t fr heq; cases h; exact ⟨t, fr, heq⟩
  · cases h
theorem star_err : "*" ++ "errors.errorString" = "*errors.errorString" := by decide
theorem row_err (u : TypeId) (h : Tryz.prog.typeName? 3 u = some "*errors.errorString") : u = 353 :=
  typeName_ptr_named (nm := "errors.errorString") (by rw [star_err]; kernel_rfl) (by kernel_rfl) (by decide) u (by rw [star_err]; exact h)
theorem gSyn : Tryz.prog.globalNamed "strconv.ErrSyntax" = some 1 := by kernel_rfl
theorem gRan : Tryz.prog.globalNamed "strconv.ErrRange" = some 2 := by kernel_rfl
theorem gPow : Tryz.prog.globalNamed "internal/strconv.uint64pow10" = some 3 := by kernel_rfl
theorem TablePlays_lay {W : World} (h : laidMetH Tryz.prog Rows.tablePlaysRow.laid W) (t : Nat → Nat) : g8 W (G.ofTop t) := by
  rw [MakeChecks.laidMetH_plain _ _ _ (by kernel_rfl)] at h
  have hT := Lib.tabIs_of_head (k := .u64) (zs := Lib.pow10Tab) gPow (show (Tryz.prog.globals[3]?).map (·.type) = some 367 by kernel_rfl) Tryz.underlying367 Tryz.underlying265 (by kernel_rfl) (by kernel_rfl) h.tail.tail
  obtain ⟨a0, s0, hR, -, -, -⟩ := laid_sentinel h.tail.tail.tail gRan (show (Tryz.prog.globals[2]?).map (·.type) = some 31 by kernel_rfl) Tryz.underlying31 row_err Tryz.underlying353 Tryz.underlying355 rfl rfl Tryz.underlying9 (by kernel_rfl) (by kernel_rfl)
  obtain ⟨a1, s1, hS, -, -, -⟩ := laid_sentinel h.tail.tail.tail.tail gSyn (show (Tryz.prog.globals[1]?).map (·.type) = some 31 by kernel_rfl) Tryz.underlying31 row_err Tryz.underlying353 Tryz.underlying355 rfl rfl Tryz.underlying9 (by kernel_rfl) (by kernel_rfl)
  intro p hp
  simp only [In, List.mem_cons, List.not_mem_nil, or_false] at hp
  refine ⟨rfl, ?_⟩
  rcases hp with rfl | rfl | rfl
  · obtain ⟨t, fr, hh⟩ := var_heap gSyn hS
    exact ⟨_, hh, _, t, fr, _, rfl, rfl, .inr ⟨_, _, rfl⟩⟩
  · obtain ⟨t, fr, hh⟩ := var_heap gRan hR
    exact ⟨_, hh, _, t, fr, _, rfl, rfl, .inr ⟨_, _, rfl⟩⟩
  · obtain ⟨t, fr, hh⟩ := var_heap gPow hT
    exact ⟨_, hh, t, fr, rfl⟩

theorem TablePlays_met (os : Os) (args : Array Value) : laidMetH Tryz.prog Rows.tablePlaysRow.laid ((World.doorLaid Tryz.prog 400 os).forCall (fun _ _ => 0) ⟨#[], args, []⟩).memory := by
  rw [MakeChecks.laidMetH_plain _ _ _ (by kernel_rfl)]
  exact laidMet_of_run' 8 (by kernel_rfl) (by kernel_rfl)

theorem TablePlays_lifted (os : Os) (started : os.Started) (H : Type) (enc : TypeId × Value → H) :
    ReturnsInHanded {} Tryz.checked os 4 .any (fun w args => (Rows.tablePlaysSpec.pre enc Tryz.prog Tryz.f4 Rows.tablePlaysRow.domain false w args ∧ laidMetH Tryz.prog Rows.tablePlaysRow.laid w) ∧ sizedMet enc Tryz.prog Tryz.f4 (OpenSpec.ofChange Rows.tablePlaysSpec) false w args) (Rows.tablePlaysSpec.post enc Tryz.prog Tryz.f4 false true false false) := by
  refine returnsInHanded_of_change_and (C := Tryz.checked) (X := fun w _ => laidMetH Tryz.prog Rows.tablePlaysRow.laid w) (fun _ _ _ hh h => h.of_heap hh) TablePlays_own started (by kernel_rfl) Tryz.func4
    (ChangeSpec.witness_shaped (enc := enc) (C := Tryz.checked) (os := os) (X := fun w _ => laidMetH Tryz.prog Rows.tablePlaysRow.laid w) false (World.doorLaid Tryz.prog 400 os) #[.int .i64 0, .int .i64 0, .slice none 0 0, .agg #[.int .i64 0, .int .u32 0, .int .i64 0, .int .i64 0, .slice none 0 0]] 8 rfl (World.shaped_of_RefB (by kernel_rfl) (by kernel_rfl)) (by kernel_rfl) (by kernel_rfl) (by kernel_rfl) (TablePlays_met os _)) ?_
  intro W nT args ds gs before hval hW _ _ hL _
  exact EF (P := Tryz.prog) [2, 3, 4, 9, 23, 24, 26, 43, 48, 49, 50, 52, 61, 121] [3, 3, 48, 52] 4 rfl TablePlays_laid (by kernel_rfl) (by kernel_rfl) rfl Tryz.underlying4 rfl
    (fun ds h => by match ds, h with | [_, _, _, _], _ => rfl) TablePlays_all hval hW (TablePlays_lay hL _)

theorem TablePlays_f1 : Tryz.pinned.checked.prog.funcNamed Rows.tablePlaysRow.func = some 4 := by kernel_rfl
theorem TablePlays_f2 : joinedFacts Tryz.pinned.checked.prog 4 Tryz.f4 Rows.tablePlaysSpec Rows.tablePlaysRow = true := by kernel_rfl
theorem TablePlays_f3 : decide (Tryz.f4.isInstance Tryz.pinned.checked.prog Rows.tablePlaysRow.origin Rows.tablePlaysRow.targs) = true := by kernel_rfl
theorem TablePlays_f4 : Tryz.f4.isWrapper Tryz.pinned.checked.prog Rows.tablePlaysRow.wrapper Rows.tablePlaysRow.mainSum := by unfold Func.isWrapper; first | (rw [if_pos (by decide +kernel)]; kernel_rfl) | (rw [if_neg (by decide +kernel)]; exact ⟨rfl, rfl⟩)
theorem TablePlays_row : Rows.TablePlaysSaid :=
  OpenClaim.holds_of_wide 4 Tryz.f4 rfl rfl rfl rfl rfl rfl rfl ⟨rfl, rfl, rfl, rfl, rfl⟩ rfl rfl rfl rfl rfl TablePlays_f1 Tryz.func4 TablePlays_f2 (of_decide_eq_true TablePlays_f3) TablePlays_f4
    (fun os started H enc _ => TablePlays_lifted os started H enc)
theorem TablePlays_holds : Rows.TablePlaysCardSaid :=
  Claim7.holds_tied_plain_at .later [] [.data, .data, .data, .sentinel, .sentinel] true (true, "22c66596984cae993470b5fba66d2596608881599c358a02c28252f4a4335be3") true
    TablePlays_row (fun _ h => by cases h) (by kernel_rfl) (fun _ h => by cases h) tablePlays_row_tie rfl ⟨rfl, rfl⟩ (by kernel_rfl) rfl
    (fun f fn hf hfn => by
      obtain rfl : f = 4 := Ke ((show Tryz.prog.funcNamed "plover/ploverlaw19.TablePlays" = some 4 by kernel_rfl).symm.trans hf) |>.symm
      obtain rfl : fn = Tryz.f4 := (Ke (Tryz.func4.symm.trans hfn)).symm
      exact ⟨by kernel_rfl, fun j t ht => by
        rw [Tryz.params4] at ht
        have hm : t ∈ [3, 3, 48, 52] := by simpa using Array.mem_of_getElem? ht
        have hall : ([3, 3, 48, 52].all fun u => !Tryz.prog.wantsStandIn u) = true := by kernel_rfl
        exact (show Tryz.prog.wantsStandIn t = false by simpa using List.all_eq_true.1 hall t hm)⟩)
    (by kernel_rfl)
#print axioms TablePlays_holds

end Go.Proofs.YtbkomicjhfldmaaGreatDoor
