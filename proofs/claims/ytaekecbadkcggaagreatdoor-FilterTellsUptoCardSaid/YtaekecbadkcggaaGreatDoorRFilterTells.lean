/- FilterTells: for every input the law returns true, and each argument reads behind the call as it read before. -/
import Derived.ProofKit
import Derived.LaidMore
import Derived.LaidLaws
import Derived.MakeChecks
import Derived.Lib.LaidTab
import Derived.Lib.ItoaNum
import Derived.Stop.LaidErr
import Derived.Stop.Joined
import Derived.SevenTiedAt
import Derived.RowKitTokens
import Derived.Test.YtaekecbadkcggaaGreatDoorE07t
import Derived.Test.YtaekecbadkcggaaGreatDoorRows
import Derived.Test.YtaekecbadkcggaaGreatDoorCards
import Derived.Test.YtaekecbadkcggaaGreatDoorTie
namespace Go.Proofs.YtaekecbadkcggaaGreatDoor
open Go.ChangeShapes Go.WideShapes Go.ChangeAt Go.RowKit Go Go.Pv
set_option maxRecDepth 100000
set_option maxHeartbeats 4000000
set_option linter.unusedSimpArgs false
set_option linter.unusedVariables false
set_option linter.unusedSectionVars false

theorem upto_bulk {H : Type} : Bulk (Rows.uptoBulk (H := H)) Rows.uptoBulkAll where
  bool _ := by simp [Rows.uptoBulk]
  int _ _ := by simp [Rows.uptoBulk]
  str _ := by simp [Rows.uptoBulk]
  nil := by simp [Rows.uptoBulk]
  slice _ _ := by simp only [Rows.uptoBulk]; omega
  agg _ := by simp only [Rows.uptoBulk]; omega
  cons _ _ := by simp only [Rows.uptoBulkAll]; omega
theorem upto_app {H : Type} : ∀ (a b : List (DataW H)), Rows.uptoBulkAll a ≤ Rows.uptoBulkAll (a ++ b)
  | [], _ => by simp only [Rows.uptoBulkAll]; omega
  | d :: a, b => by have := upto_app a b; simp only [List.cons_append, Rows.uptoBulkAll]; omega

theorem FilterTells_own : ownKnob Tryz.prog.godebug = none := by kernel_rfl
theorem FilterTells_laid : laidOutB Tryz.prog = true := by kernel_rfl

theorem FilterTells_all (xs : List AV) (h : DatVs Tryz.prog [26, 26] xs) (hb : bkL xs ≤ 1048576) : PCall Tryz.prog 4 xs (· = .bool true) := by
  obtain ⟨x0, r, rfl, h0, h⟩ := datVs2 h
  obtain ⟨x1, r, rfl, h1, h⟩ := datVs2 h
  obtain rfl := datVs0 h
  obtain ⟨a0, rfl, k0⟩ := datV_tFilter h0
  obtain ⟨a1, rfl, k1⟩ := datV_tFilter h1
  exact FilterTells_c k0 k1 hb

theorem var_heap {P : Program} {W : World} {n : String} {g : Nat} {cs : Array Value} (hg : P.globalNamed n = some g) (h : W.var? P n = some cs) : ∃ t fr, W.heap[g]? = some (.cells cs t fr) := by
  unfold World.var? at h
  rw [hg] at h
  simp only [Option.bind_some] at h
  split at h
  · rename_i cs' t fr heq; cases h; exact ⟨t, fr, heq⟩
  · cases h
theorem star_err : "*" ++ "errors.errorString" = "*errors.errorString" := by decide
theorem row_err (u : TypeId) (h : Tryz.prog.typeName? 3 u = some "*errors.errorString") : u = 149 :=
  typeName_ptr_named (nm := "errors.errorString") (by rw [star_err]; kernel_rfl) (by kernel_rfl) (by decide) u (by rw [star_err]; exact h)
theorem gSyn : Tryz.prog.globalNamed "strconv.ErrSyntax" = some 2 := by kernel_rfl
theorem gRan : Tryz.prog.globalNamed "strconv.ErrRange" = some 3 := by kernel_rfl
theorem gPow : Tryz.prog.globalNamed "internal/strconv.uint64pow10" = some 0 := by kernel_rfl
theorem FilterTells_lay {W : World} (h : laidMetH Tryz.prog Rows.filterTellsUptoRow.laid W) (t : Nat → Nat) : LaidAt W (G.ofTop t) := by
  rw [MakeChecks.laidMetH_plain _ _ _ (by kernel_rfl)] at h
  have hT := Lib.tabIs_of_head (k := .u64) (zs := Lib.pow10Tab) gPow (show (Tryz.prog.globals[0]?).map (·.type) = some 124 by kernel_rfl) Tryz.underlying124 Tryz.underlying102 (by kernel_rfl) (by kernel_rfl) h.tail.tail
  obtain ⟨a0, s0, hR, -, -, -⟩ := laid_sentinel h.tail.tail.tail gRan (show (Tryz.prog.globals[3]?).map (·.type) = some 28 by kernel_rfl) Tryz.underlying28 row_err Tryz.underlying149 Tryz.underlying151 rfl rfl Tryz.underlying9 (by kernel_rfl) (by kernel_rfl)
  obtain ⟨a1, s1, hS, -, -, -⟩ := laid_sentinel h.tail.tail.tail.tail gSyn (show (Tryz.prog.globals[2]?).map (·.type) = some 28 by kernel_rfl) Tryz.underlying28 row_err Tryz.underlying149 Tryz.underlying151 rfl rfl Tryz.underlying9 (by kernel_rfl) (by kernel_rfl)
  intro p hp
  simp only [LAY, List.mem_cons, List.not_mem_nil, or_false] at hp
  refine ⟨rfl, ?_⟩
  rcases hp with rfl | rfl | rfl
  · obtain ⟨t, fr, hh⟩ := var_heap gSyn hS
    exact ⟨_, hh, _, t, fr, _, rfl, rfl, .inr ⟨_, _, rfl⟩⟩
  · obtain ⟨t, fr, hh⟩ := var_heap gRan hR
    exact ⟨_, hh, _, t, fr, _, rfl, rfl, .inr ⟨_, _, rfl⟩⟩
  · obtain ⟨t, fr, hh⟩ := var_heap gPow hT
    exact ⟨_, hh, t, fr, rfl⟩

theorem FilterTells_met (os : Os) (args : Array Value) : laidMetH Tryz.prog Rows.filterTellsUptoRow.laid ((World.doorLaid Tryz.prog 400 os).forCall (fun _ _ => 0) ⟨#[], args, []⟩).memory := by
  rw [MakeChecks.laidMetH_plain _ _ _ (by kernel_rfl)]
  exact laidMet_of_run' 8 (by kernel_rfl) (by kernel_rfl)

theorem FilterTells_lifted (os : Os) (started : os.Started) (H : Type) (enc : TypeId × Value → H) (F : Stop.Interp) :
    ReturnsInHanded {} Tryz.checked os 4 .any (fun w args => ((Rows.OpenSpec.upto Rows.filterTellsSpec).pre enc Tryz.prog Tryz.f4 Rows.filterTellsUptoRow.domain false w args ∧ laidMetH Tryz.prog Rows.filterTellsUptoRow.laid w) ∧ sizedMet enc Tryz.prog Tryz.f4 (Rows.OpenSpec.upto Rows.filterTellsSpec) false w args) (((Rows.OpenSpec.upto Rows.filterTellsSpec).at F).post enc Tryz.prog Tryz.f4 false true false false) := by
  have hokB : Input.okWideB Tryz.prog ((World.doorLaid Tryz.prog 400 os).forCall (fun _ _ => 0) ⟨#[], #[.agg #[.int .i64 0, .string ByteArray.empty, .string ByteArray.empty, .slice none 0 0, .slice none 0 0], .agg #[.int .i64 0, .string ByteArray.empty, .string ByteArray.empty, .slice none 0 0, .slice none 0 0]], []⟩) 4 ⟨#[], #[.agg #[.int .i64 0, .string ByteArray.empty, .string ByteArray.empty, .slice none 0 0, .slice none 0 0], .agg #[.int .i64 0, .string ByteArray.empty, .string ByteArray.empty, .slice none 0 0, .slice none 0 0]], []⟩ = true := by kernel_rfl
  have hcond : (Rows.OpenSpec.upto Rows.filterTellsSpec).cond = some Rows.uptoSmall := rfl
  refine returnsInHanded_of_calls FilterTells_own started (by kernel_rfl)
    ⟨World.doorLaid Tryz.prog 400 os, fun _ _ => 0, ⟨#[], #[.agg #[.int .i64 0, .string ByteArray.empty, .string ByteArray.empty, .slice none 0 0, .slice none 0 0], .agg #[.int .i64 0, .string ByteArray.empty, .string ByteArray.empty, .slice none 0 0, .slice none 0 0]], []⟩, rfl, World.shaped_of_RefB (by kernel_rfl) (by kernel_rfl), (Input.okWide_of_okWideB (base := 0) hokB).1, (Input.okWide_of_okWideB hokB).2,
      ⟨⟨(OpenSpec.pre_some hcond _ _ _ _).2 ⟨[.agg [.lit (.int .i64 0), .lit (.string []), .lit (.string []), .nil, .nil], .agg [.lit (.int .i64 0), .lit (.string []), .lit (.string []), .nil, .nil]], [], [], DataW.Whole_of_whole (fuel := 8) (show _ = some (([.agg [.lit (.int .i64 0), .lit (.string []), .lit (.string []), .nil, .nil], .agg [.lit (.int .i64 0), .lit (.string []), .lit (.string []), .nil, .nil]], [], []) : List _ × List _ × List _) by kernel_rfl), rfl, (by kernel_rfl)⟩, FilterTells_met os _⟩, sizedMet_of_sizedB (s := Rows.filterTellsSpec) (fuel := 8) (by kernel_rfl)⟩, by
        simp only [Assume.holds]
        exact ⟨by simp, by simp, fun _ => Modest.zero, by simp, by simp⟩⟩ ?_
  intro w tape i _ _ _ hok hpre hholds
  obtain ⟨_, _, _, fn', hfn', _, _, _, _, hval⟩ := hok
  have e : fn' = Tryz.f4 := Option.some.inj (hfn'.symm.trans Tryz.func4)
  subst e
  obtain ⟨⟨hp, hL⟩, hz⟩ := hpre
  obtain ⟨ds, gs, before, hw, hc, hkk⟩ := (OpenSpec.pre_some hcond _ false _ _).1 hp
  have hW := DataW.Whole.of_heap (w' := w.forCall tape i) (by rfl) hw
  have hk' : Rows.uptoBulkAll (ds ++ gs) ≤ 1048576 := of_decide_eq_true hkk
  have hL' : laidMetH Tryz.prog Rows.filterTellsUptoRow.laid (w.forCall tape i) := hL.of_heap (by rfl)
  refine (show Calls Tryz.prog 4 i.args (w.forCall tape i) fun e W' => ∃ v, e = .returned v ∧ ((Rows.OpenSpec.upto Rows.filterTellsSpec).at F).post enc Tryz.prog Tryz.f4 false true false false (w.forCall tape i) i.args v W' from
    law_rowB (P := Tryz.prog) upto_bulk [2, 3, 4, 9, 23, 24, 26, 55] [26, 26] 4 rfl FilterTells_laid (by kernel_rfl) (by kernel_rfl) rfl Tryz.underlying4 rfl
    (fun ds h => by match ds, h with | [_, _], _ => rfl) (fun xs h hb => FilterTells_all xs h (Nat.le_trans hb (Nat.le_trans (upto_app ds gs) hk'))) hval hW (FilterTells_lay hL' _)).mono fun e W' ⟨v, he, hp⟩ => ?_
  subst he
  exact ChangeSpec.post_blind hp

theorem FilterTells_row : Rows.FilterTellsUptoSaid :=
  OpenClaim.holds_of_cond 4 Tryz.f4 rfl rfl rfl rfl rfl rfl rfl ⟨rfl, rfl, rfl, rfl, rfl⟩ rfl rfl rfl rfl rfl (by kernel_rfl) Tryz.func4 (by kernel_rfl)
    (of_decide_eq_true (by kernel_rfl)) (by unfold Func.isWrapper; first | (rw [if_pos (by decide +kernel)]; kernel_rfl) | (rw [if_neg (by decide +kernel)]; exact ⟨rfl, rfl⟩))
    (fun os started H enc _ F => FilterTells_lifted os started H enc F)
theorem FilterTells_holds : Rows.FilterTellsUptoCardSaid :=
  Claim7.holds_tied_plain_at .later [] [.data, .data, .data, .sentinel, .sentinel] true (true, "aba0fb4f039f3e83828e5d52fafb881e7129d9f5e2d8db9f6795dc0c90ca224c") true
    FilterTells_row (fun _ h => by cases h) (by kernel_rfl) (fun _ h => by cases h) filterTellsUpto_row_tie rfl ⟨rfl, rfl⟩ (by kernel_rfl) rfl
    (fun f fn hf hfn => by
      obtain rfl : f = 4 := Option.some.inj ((show Tryz.prog.funcNamed "plover/ploverlaw07.FilterTells" = some 4 by kernel_rfl).symm.trans hf) |>.symm
      obtain rfl : fn = Tryz.f4 := (Option.some.inj (Tryz.func4.symm.trans hfn)).symm
      exact ⟨by kernel_rfl, fun j t ht => by
        rw [Tryz.params4] at ht
        have hm : t ∈ [26, 26] := by simpa using Array.mem_of_getElem? ht
        have hall : ([26, 26].all fun u => !Tryz.prog.wantsStandIn u) = true := by kernel_rfl
        exact (show Tryz.prog.wantsStandIn t = false by simpa using List.all_eq_true.1 hall t hm)⟩)
    (by kernel_rfl)
#print axioms FilterTells_holds

end Go.Proofs.YtaekecbadkcggaaGreatDoor
