/- FilterBack: for every input the law returns true, and each argument reads behind the call as it read before. -/
import Derived.ProofKit
import Derived.LaidMore
import Derived.LaidLaws
import Derived.MakeChecks
import Derived.Lib.LaidTab
import Derived.Lib.ItoaNum
import Derived.Stop.LaidErr
import Derived.Stop.Joined
import Derived.SevenTiedAt
import Derived.RowKitTokens
import Derived.Test.YtaekecbadkcggaaDoorE07z
import Derived.Test.YtaekecbadkcggaaDoorRows
import Derived.Test.YtaekecbadkcggaaDoorCards
import Derived.Test.YtaekecbadkcggaaDoorTie
namespace Go.Proofs.YtaekecbadkcggaaDoor
open Go.ChangeShapes Go.WideShapes Go.ChangeAt Go.RowKit Go Go.Pv
set_option maxRecDepth 100000
set_option maxHeartbeats 4000000
set_option linter.unusedSimpArgs false
set_option linter.unusedVariables false
set_option linter.unusedSectionVars false

theorem upto_bulk {H : Type} : Bulk (Rows.uptoBulk (H := H)) Rows.uptoBulkAll where
  bool _ := by simp [Rows.uptoBulk]
  int _ _ := by simp [Rows.uptoBulk]
  str _ := by simp [Rows.uptoBulk]
  nil := by simp [Rows.uptoBulk]
  slice _ _ := by simp only [Rows.uptoBulk]; omega
  agg _ := by simp only [Rows.uptoBulk]; omega
  cons _ _ := by simp only [Rows.uptoBulkAll]; omega
theorem upto_app {H : Type} : ∀ (a b : List (DataW H)), Rows.uptoBulkAll a ≤ Rows.uptoBulkAll (a ++ b)
  | [], _ => by simp only [Rows.uptoBulkAll]; omega
  | d :: a, b => by have := upto_app a b; simp only [List.cons_append, Rows.uptoBulkAll]; omega

theorem FilterBack_own : ownKnob Tryd.prog.godebug = none := by kernel_rfl
theorem FilterBack_laid : laidOutB Tryd.prog = true := by kernel_rfl

theorem FilterBack_all (xs : List AV) (h : DatVs Tryd.prog [40, 9] xs) (hb : bkL xs ≤ 1048576) : PCall Tryd.prog 5 xs (· = .bool true) := by
  obtain ⟨x0, r, rfl, h0, h⟩ := datVs2 h
  obtain ⟨x1, r, rfl, h1, h⟩ := datVs2 h
  obtain rfl := datVs0 h
  obtain ⟨a0, rfl, k0⟩ := datV_tFilter h0
  obtain ⟨n1, h1⟩ := datV_o (i := Tryd.i9) rfl (by intro _ _ h; cases h) h1
  obtain ⟨a1, e1, k1⟩ := dat_Str (i := Tryd.i9) rfl rfl h1
  obtain rfl := List.head_eq_of_cons_eq e1
  exact FilterBack_c k0 k1 hb

theorem var_heap {P : Program} {W : World} {n : String} {g : Nat} {cs : Array Value} (hg : P.globalNamed n = some g) (h : W.var? P n = some cs) : ∃ t fr, W.heap[g]? = some (.cells cs t fr) := by
  unfold World.var? at h
  rw [hg] at h
  simp only [Option.bind_some] at h
  split at h
  · rename_i cs' t fr heq; cases h; exact ⟨t, fr, heq⟩
  · cases h
theorem star_err : "*" ++ "errors.errorString" = "*errors.errorString" := by decide
theorem row_err (u : TypeId) (h : Tryd.prog.typeName? 3 u = some "*errors.errorString") : u = 135 :=
  typeName_ptr_named (nm := "errors.errorString") (by rw [star_err]; kernel_rfl) (by kernel_rfl) (by decide) u (by rw [star_err]; exact h)
theorem gSyn : Tryd.prog.globalNamed "strconv.ErrSyntax" = some 0 := by kernel_rfl
theorem gRan : Tryd.prog.globalNamed "strconv.ErrRange" = some 1 := by kernel_rfl
theorem gPow : Tryd.prog.globalNamed "internal/strconv.uint64pow10" = some 3 := by kernel_rfl
theorem FilterBack_lay {W : World} (h : laidMetH Tryd.prog Rows.filterBackUptoRow.laid W) (t : Nat → Nat) : LaidAt W (G.ofTop t) := by
  rw [MakeChecks.laidMetH_plain _ _ _ (by kernel_rfl)] at h
  have hT := Lib.tabIs_of_head (k := .u64) (zs := Lib.pow10Tab) gPow (show (Tryd.prog.globals[3]?).map (·.type) = some 128 by kernel_rfl) Tryd.underlying128 Tryd.underlying84 (by kernel_rfl) (by kernel_rfl) h.tail.tail
  obtain ⟨a0, s0, hR, -, -, -⟩ := laid_sentinel h.tail.tail.tail gRan (show (Tryd.prog.globals[1]?).map (·.type) = some 25 by kernel_rfl) Tryd.underlying25 row_err Tryd.underlying135 Tryd.underlying137 rfl rfl Tryd.underlying9 (by kernel_rfl) (by kernel_rfl)
  obtain ⟨a1, s1, hS, -, -, -⟩ := laid_sentinel h.tail.tail.tail.tail gSyn (show (Tryd.prog.globals[0]?).map (·.type) = some 25 by kernel_rfl) Tryd.underlying25 row_err Tryd.underlying135 Tryd.underlying137 rfl rfl Tryd.underlying9 (by kernel_rfl) (by kernel_rfl)
  intro p hp
  simp only [LAY, List.mem_cons, List.not_mem_nil, or_false] at hp
  refine ⟨rfl, ?_⟩
  rcases hp with rfl | rfl | rfl
  · obtain ⟨t, fr, hh⟩ := var_heap gSyn hS
    exact ⟨_, hh, _, t, fr, _, rfl, rfl, .inr ⟨_, _, rfl⟩⟩
  · obtain ⟨t, fr, hh⟩ := var_heap gRan hR
    exact ⟨_, hh, _, t, fr, _, rfl, rfl, .inr ⟨_, _, rfl⟩⟩
  · obtain ⟨t, fr, hh⟩ := var_heap gPow hT
    exact ⟨_, hh, t, fr, rfl⟩

theorem FilterBack_met (os : Os) (args : Array Value) : laidMetH Tryd.prog Rows.filterBackUptoRow.laid ((World.doorLaid Tryd.prog 400 os).forCall (fun _ _ => 0) ⟨#[], args, []⟩).memory := by
  rw [MakeChecks.laidMetH_plain _ _ _ (by kernel_rfl)]
  exact laidMet_of_run' 8 (by kernel_rfl) (by kernel_rfl)

theorem FilterBack_lifted (os : Os) (started : os.Started) (H : Type) (enc : TypeId × Value → H) (F : Stop.Interp) :
    ReturnsInHanded {} Tryd.checked os 5 .any (fun w args => ((Rows.OpenSpec.upto Rows.filterBackSpec).pre enc Tryd.prog Tryd.f5 Rows.filterBackUptoRow.domain false w args ∧ laidMetH Tryd.prog Rows.filterBackUptoRow.laid w) ∧ sizedMet enc Tryd.prog Tryd.f5 (Rows.OpenSpec.upto Rows.filterBackSpec) false w args) (((Rows.OpenSpec.upto Rows.filterBackSpec).at F).post enc Tryd.prog Tryd.f5 false true false false) := by
  have hokB : Input.okWideB Tryd.prog ((World.doorLaid Tryd.prog 400 os).forCall (fun _ _ => 0) ⟨#[], #[.agg #[.int .i64 0, .string ByteArray.empty, .string ByteArray.empty, .slice none 0 0, .slice none 0 0], .string ByteArray.empty], []⟩) 5 ⟨#[], #[.agg #[.int .i64 0, .string ByteArray.empty, .string ByteArray.empty, .slice none 0 0, .slice none 0 0], .string ByteArray.empty], []⟩ = true := by kernel_rfl
  have hcond : (Rows.OpenSpec.upto Rows.filterBackSpec).cond = some Rows.uptoSmall := rfl
  refine returnsInHanded_of_calls FilterBack_own started (by kernel_rfl)
    ⟨World.doorLaid Tryd.prog 400 os, fun _ _ => 0, ⟨#[], #[.agg #[.int .i64 0, .string ByteArray.empty, .string ByteArray.empty, .slice none 0 0, .slice none 0 0], .string ByteArray.empty], []⟩, rfl, World.shaped_of_RefB (by kernel_rfl) (by kernel_rfl), (Input.okWide_of_okWideB (base := 0) hokB).1, (Input.okWide_of_okWideB hokB).2,
      ⟨⟨(OpenSpec.pre_some hcond _ _ _ _).2 ⟨[.agg [.lit (.int .i64 0), .lit (.string []), .lit (.string []), .nil, .nil], .lit (.string [])], [], [], DataW.Whole_of_whole (fuel := 8) (show _ = some (([.agg [.lit (.int .i64 0), .lit (.string []), .lit (.string []), .nil, .nil], .lit (.string [])], [], []) : List _ × List _ × List _) by kernel_rfl), rfl, (by kernel_rfl)⟩, FilterBack_met os _⟩, sizedMet_of_sizedB (s := Rows.filterBackSpec) (fuel := 8) (by kernel_rfl)⟩, by
        simp only [Assume.holds]
        exact ⟨by simp, by simp, fun _ => Modest.zero, by simp, by simp⟩⟩ ?_
  intro w tape i _ _ _ hok hpre hholds
  obtain ⟨_, _, _, fn', hfn', _, _, _, _, hval⟩ := hok
  have e : fn' = Tryd.f5 := Option.some.inj (hfn'.symm.trans Tryd.func5)
  subst e
  obtain ⟨⟨hp, hL⟩, hz⟩ := hpre
  obtain ⟨ds, gs, before, hw, hc, hkk⟩ := (OpenSpec.pre_some hcond _ false _ _).1 hp
  have hW := DataW.Whole.of_heap (w' := w.forCall tape i) (by rfl) hw
  have hk' : Rows.uptoBulkAll (ds ++ gs) ≤ 1048576 := of_decide_eq_true hkk
  have hL' : laidMetH Tryd.prog Rows.filterBackUptoRow.laid (w.forCall tape i) := hL.of_heap (by rfl)
  refine (show Calls Tryd.prog 5 i.args (w.forCall tape i) fun e W' => ∃ v, e = .returned v ∧ ((Rows.OpenSpec.upto Rows.filterBackSpec).at F).post enc Tryd.prog Tryd.f5 false true false false (w.forCall tape i) i.args v W' from
    law_rowB (P := Tryd.prog) upto_bulk [2, 3, 4, 9, 37, 38, 40, 62] [40, 9] 4 rfl FilterBack_laid (by kernel_rfl) (by kernel_rfl) rfl Tryd.underlying4 rfl
    (fun ds h => by match ds, h with | [_, _], _ => rfl) (fun xs h hb => FilterBack_all xs h (Nat.le_trans hb (Nat.le_trans (upto_app ds gs) hk'))) hval hW (FilterBack_lay hL' _)).mono fun e W' ⟨v, he, hp⟩ => ?_
  subst he
  exact ChangeSpec.post_blind hp

theorem FilterBack_row : Rows.FilterBackUptoSaid :=
  OpenClaim.holds_of_cond 5 Tryd.f5 rfl rfl rfl rfl rfl rfl rfl ⟨rfl, rfl, rfl, rfl, rfl⟩ rfl rfl rfl rfl rfl (by kernel_rfl) Tryd.func5 (by kernel_rfl)
    (of_decide_eq_true (by kernel_rfl)) (by unfold Func.isWrapper; first | (rw [if_pos (by decide +kernel)]; kernel_rfl) | (rw [if_neg (by decide +kernel)]; exact ⟨rfl, rfl⟩))
    (fun os started H enc _ F => FilterBack_lifted os started H enc F)
theorem FilterBack_holds : Rows.FilterBackUptoCardSaid :=
  Claim7.holds_tied_plain_at .later [] [.data, .data, .data, .sentinel, .sentinel] true (true, "f9b35608947aae294963b96bd8eb4457e371b253369a34d119daf4716782785e") true
    FilterBack_row (fun _ h => by cases h) (by kernel_rfl) (fun _ h => by cases h) filterBackUpto_row_tie rfl ⟨rfl, rfl⟩ (by kernel_rfl) rfl
    (fun f fn hf hfn => by
      obtain rfl : f = 5 := Option.some.inj ((show Tryd.prog.funcNamed "plover/ploverlaw07.FilterBack" = some 5 by kernel_rfl).symm.trans hf) |>.symm
      obtain rfl : fn = Tryd.f5 := (Option.some.inj (Tryd.func5.symm.trans hfn)).symm
      exact ⟨by kernel_rfl, fun j t ht => by
        rw [Tryd.params5] at ht
        have hm : t ∈ [40, 9] := by simpa using Array.mem_of_getElem? ht
        have hall : ([40, 9].all fun u => !Tryd.prog.wantsStandIn u) = true := by kernel_rfl
        exact (show Tryd.prog.wantsStandIn t = false by simpa using List.all_eq_true.1 hall t hm)⟩)
    (by kernel_rfl)
#print axioms FilterBack_holds

end Go.Proofs.YtaekecbadkcggaaDoor
