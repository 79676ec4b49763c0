/- TokenOwn: for every input the law returns true, and each argument reads behind the call as it read before. -/
import Derived.ProofKit
import Derived.LaidMore
import Derived.LaidLaws
import Derived.MakeChecks
import Derived.Lib.LaidTab
import Derived.Lib.ItoaNum
import Derived.Stop.LaidErr
import Derived.Stop.Joined
import Derived.SevenTiedAt
import Derived.RowKitTokens
import Derived.Test.YtaekecbadkcggaaDoorE06o
import Derived.Test.YtaekecbadkcggaaDoorRows
import Derived.Test.YtaekecbadkcggaaDoorCards
import Derived.Test.YtaekecbadkcggaaDoorTie
namespace Go.Proofs.YtaekecbadkcggaaDoor
open Go.ChangeShapes Go.WideShapes Go.ChangeAt Go.RowKit Go Go.Pv
set_option maxRecDepth 100000
set_option maxHeartbeats 4000000
set_option linter.unusedSimpArgs false
set_option linter.unusedVariables false
set_option linter.unusedSectionVars false

theorem TokenOwn_own : ownKnob Tryd.prog.godebug = none := by kernel_rfl
theorem TokenOwn_laid : laidOutB Tryd.prog = true := by kernel_rfl

theorem TokenOwn_all (xs : List AV) (h : DatVs Tryd.prog [9] xs) : PCall Tryd.prog 4 xs (· = .bool true) := by
  obtain ⟨x0, r, rfl, h0, h⟩ := datVs2 h
  obtain rfl := datVs0 h
  obtain ⟨n0, h0⟩ := datV_o (i := Tryd.i9) rfl (by intro _ _ h; cases h) h0
  obtain ⟨a0, e0, k0⟩ := dat_Str (i := Tryd.i9) rfl rfl h0
  obtain rfl := List.head_eq_of_cons_eq e0
  exact TokenOwn_c k0

theorem var_heap {P : Program} {W : World} {n : String} {g : Nat} {cs : Array Value} (hg : P.globalNamed n = some g) (h : W.var? P n = some cs) : ∃ t fr, W.heap[g]? = some (.cells cs t fr) := by
  unfold World.var? at h
  rw [hg] at h
  simp only [Option.bind_some] at h
  split at h
  · rename_i cs' t fr heq; cases h; exact ⟨t, fr, heq⟩
  · cases h
theorem star_err : "*" ++ "errors.errorString" = "*errors.errorString" := by decide
theorem row_err (u : TypeId) (h : Tryd.prog.typeName? 3 u = some "*errors.errorString") : u = 135 :=
  typeName_ptr_named (nm := "errors.errorString") (by rw [star_err]; kernel_rfl) (by kernel_rfl) (by decide) u (by rw [star_err]; exact h)
theorem gSyn : Tryd.prog.globalNamed "strconv.ErrSyntax" = some 0 := by kernel_rfl
theorem gRan : Tryd.prog.globalNamed "strconv.ErrRange" = some 1 := by kernel_rfl
theorem gPow : Tryd.prog.globalNamed "internal/strconv.uint64pow10" = some 3 := by kernel_rfl
theorem TokenOwn_lay {W : World} (h : laidMetH Tryd.prog Rows.tokenOwnRow.laid W) (t : Nat → Nat) : LaidAt W (G.ofTop t) := by
  rw [MakeChecks.laidMetH_plain _ _ _ (by kernel_rfl)] at h
  have hT := Lib.tabIs_of_head (k := .u64) (zs := Lib.pow10Tab) gPow (show (Tryd.prog.globals[3]?).map (·.type) = some 128 by kernel_rfl) Tryd.underlying128 Tryd.underlying84 (by kernel_rfl) (by kernel_rfl) h.tail.tail
  obtain ⟨a0, s0, hR, -, -, -⟩ := laid_sentinel h.tail.tail.tail gRan (show (Tryd.prog.globals[1]?).map (·.type) = some 25 by kernel_rfl) Tryd.underlying25 row_err Tryd.underlying135 Tryd.underlying137 rfl rfl Tryd.underlying9 (by kernel_rfl) (by kernel_rfl)
  obtain ⟨a1, s1, hS, -, -, -⟩ := laid_sentinel h.tail.tail.tail.tail gSyn (show (Tryd.prog.globals[0]?).map (·.type) = some 25 by kernel_rfl) Tryd.underlying25 row_err Tryd.underlying135 Tryd.underlying137 rfl rfl Tryd.underlying9 (by kernel_rfl) (by kernel_rfl)
  intro p hp
  simp only [LAY, List.mem_cons, List.not_mem_nil, or_false] at hp
  refine ⟨rfl, ?_⟩
  rcases hp with rfl | rfl | rfl
  · obtain ⟨t, fr, hh⟩ := var_heap gSyn hS
    exact ⟨_, hh, _, t, fr, _, rfl, rfl, .inr ⟨_, _, rfl⟩⟩
  · obtain ⟨t, fr, hh⟩ := var_heap gRan hR
    exact ⟨_, hh, _, t, fr, _, rfl, rfl, .inr ⟨_, _, rfl⟩⟩
  · obtain ⟨t, fr, hh⟩ := var_heap gPow hT
    exact ⟨_, hh, t, fr, rfl⟩

theorem TokenOwn_met (os : Os) (args : Array Value) : laidMetH Tryd.prog Rows.tokenOwnRow.laid ((World.doorLaid Tryd.prog 400 os).forCall (fun _ _ => 0) ⟨#[], args, []⟩).memory := by
  rw [MakeChecks.laidMetH_plain _ _ _ (by kernel_rfl)]
  exact laidMet_of_run' 8 (by kernel_rfl) (by kernel_rfl)

theorem TokenOwn_lifted (os : Os) (started : os.Started) (H : Type) (enc : TypeId × Value → H) :
    ReturnsInHanded {} Tryd.checked os 4 .any (fun w args => (Rows.tokenOwnSpec.pre enc Tryd.prog Tryd.f4 Rows.tokenOwnRow.domain false w args ∧ laidMetH Tryd.prog Rows.tokenOwnRow.laid w) ∧ sizedMet enc Tryd.prog Tryd.f4 (OpenSpec.ofChange Rows.tokenOwnSpec) false w args) (Rows.tokenOwnSpec.post enc Tryd.prog Tryd.f4 false true false false) := by
  refine returnsInHanded_of_change_and (C := Tryd.checked) (X := fun w _ => laidMetH Tryd.prog Rows.tokenOwnRow.laid w) (fun _ _ _ hh h => h.of_heap hh) TokenOwn_own started (by kernel_rfl) Tryd.func4
    (ChangeSpec.witness_shaped (enc := enc) (C := Tryd.checked) (os := os) (X := fun w _ => laidMetH Tryd.prog Rows.tokenOwnRow.laid w) false (World.doorLaid Tryd.prog 400 os) #[.string ByteArray.empty] 8 rfl (World.shaped_of_RefB (by kernel_rfl) (by kernel_rfl)) (by kernel_rfl) (by kernel_rfl) (by kernel_rfl) (TokenOwn_met os _)) ?_
  intro W base args ds gs before hval hW _ _ hL _
  exact law_row (P := Tryd.prog) [9] [9] 4 rfl TokenOwn_laid (by kernel_rfl) (by kernel_rfl) rfl Tryd.underlying4 rfl
    (fun ds h => by match ds, h with | [_], _ => rfl) TokenOwn_all hval hW (TokenOwn_lay hL _)

theorem TokenOwn_row : Rows.TokenOwnSaid :=
  OpenClaim.holds_of_wide 4 Tryd.f4 rfl rfl rfl rfl rfl rfl rfl ⟨rfl, rfl, rfl, rfl, rfl⟩ rfl rfl rfl rfl rfl (by kernel_rfl) Tryd.func4 (by kernel_rfl)
    (of_decide_eq_true (by kernel_rfl)) (by unfold Func.isWrapper; first | (rw [if_pos (by decide +kernel)]; kernel_rfl) | (rw [if_neg (by decide +kernel)]; exact ⟨rfl, rfl⟩))
    (fun os started H enc _ => TokenOwn_lifted os started H enc)
theorem TokenOwn_holds : Rows.TokenOwnCardSaid :=
  Claim7.holds_tied_plain_at .later [] [.data, .data, .data, .sentinel, .sentinel] true (true, "f9b35608947aae294963b96bd8eb4457e371b253369a34d119daf4716782785e") true
    TokenOwn_row (fun _ h => by cases h) (by kernel_rfl) (fun _ h => by cases h) tokenOwn_row_tie rfl ⟨rfl, rfl⟩ (by kernel_rfl) rfl
    (fun f fn hf hfn => by
      obtain rfl : f = 4 := Option.some.inj ((show Tryd.prog.funcNamed "plover/ploverlaw06.TokenOwn" = some 4 by kernel_rfl).symm.trans hf) |>.symm
      obtain rfl : fn = Tryd.f4 := (Option.some.inj (Tryd.func4.symm.trans hfn)).symm
      exact ⟨by kernel_rfl, fun j t ht => by
        rw [Tryd.params4] at ht
        have hm : t ∈ [9] := by simpa using Array.mem_of_getElem? ht
        have hall : ([9].all fun u => !Tryd.prog.wantsStandIn u) = true := by kernel_rfl
        exact (show Tryd.prog.wantsStandIn t = false by simpa using List.all_eq_true.1 hall t hm)⟩)
    (by kernel_rfl)
#print axioms TokenOwn_holds

end Go.Proofs.YtaekecbadkcggaaDoor
