/-
  No cell of these rows narrows 'for every input' (looked for: loops, veiled, ifaces, maps, wideKeys, modest, calm, conditions, laid).
  DERIVED. THE GIVEN ROWS OF THIS SEAT. 11 by the template 'for every input the law returns true; each argument reads behind the call as it read before'; 0 by the template 'total and deterministic' (their statements: YtfonfgnbjkpanaaTotals.lean).
  GIVEN WITH THE SEED: the statements are not yours to turn. If you find one false, say at which input.
  Laid BY PROGRAM, IN A SANDBOX (cutbox-rows.mjs): the forced cells as the released guide's own fill.sh prints them over the translation 2e1e32b9ff9319da… (all of the seat's roots in one cut). By AI agents, Wed Nov 11 2026. No macro, syntax, notation, axiom, sorry.
-/
import Derived.Test.YtfonfgnbjkpanaaChecked
import GoSem.Claim
import GoSem.ClaimJoined
import GoSem.ClaimMapViews
import Derived.JoinedTies
import Derived.KernelRfl
namespace Go.Proofs.Ytfonfgnbjkpanaa
/- THE CELL 'sum', in the pinned program and in every row, IS THE sha256 OF THE DUMP (.gsa) THAT YtfonfgnbjkpanaaProg.lean LOADS. Nothing in Lean hashes anything: it is a label: what it is worth is what the hold of that sum in a sandbox is worth. -/
noncomputable def Try.pinned : Pinned := { name := "ytfonfgnbjkpanaa", sum := "2e1e32b9ff9319da0b5c01772338f0015a4decaaa5e83b7b15b1bd3e67f251b3", checked := Try.checked }
namespace Rows
def none {H : Type} : Left H := { results := [], args := [] }

/-- 'ploverlaw02.RectHolds': WHATEVER THE INPUT: true; the input reads as it did. -/
def rectHoldsSpec : ChangeSpec := { name := "rectHolds", fn := fun _ => fun
  | [d1, d2, d3] => { results := [.lit (.bool true)], args := [d1, d2, d3] }
  | _ => none }
def rectHoldsRow : OpenClaim := { program := "ytfonfgnbjkpanaa", sum := "2e1e32b9ff9319da0b5c01772338f0015a4decaaa5e83b7b15b1bd3e67f251b3", func := "plover/ploverlaw02.RectHolds", spec := "rectHolds", apart := false }
def RectHoldsSaid : Prop := rectHoldsRow.holds Try.pinned (OpenSpec.ofChange rectHoldsSpec)

/-- ITS FALSE NEIGHBOUR: 'it returns false'. Refute it at one input. -/
def rectHoldsWrong : ChangeSpec := { name := "rectHolds", fn := fun _ => fun
  | [d1, d2, d3] => { results := [.lit (.bool false)], args := [d1, d2, d3] }
  | _ => none }
def RectHoldsWrongFalsely : Prop := rectHoldsRow.holds Try.pinned (OpenSpec.ofChange rectHoldsWrong)

/-- 'ploverlaw02.RectTells': WHATEVER THE INPUT: true; the input reads as it did. -/
def rectTellsSpec : ChangeSpec := { name := "rectTells", fn := fun _ => fun
  | [d1, d2, d3] => { results := [.lit (.bool true)], args := [d1, d2, d3] }
  | _ => none }
def rectTellsRow : OpenClaim := { program := "ytfonfgnbjkpanaa", sum := "2e1e32b9ff9319da0b5c01772338f0015a4decaaa5e83b7b15b1bd3e67f251b3", func := "plover/ploverlaw02.RectTells", spec := "rectTells", apart := false }
def RectTellsSaid : Prop := rectTellsRow.holds Try.pinned (OpenSpec.ofChange rectTellsSpec)

/-- ITS FALSE NEIGHBOUR: 'it returns false'. Refute it at one input. -/
def rectTellsWrong : ChangeSpec := { name := "rectTells", fn := fun _ => fun
  | [d1, d2, d3] => { results := [.lit (.bool false)], args := [d1, d2, d3] }
  | _ => none }
def RectTellsWrongFalsely : Prop := rectTellsRow.holds Try.pinned (OpenSpec.ofChange rectTellsWrong)

/-- 'ploverlaw02.RectOf': WHATEVER THE INPUT: true; the input reads as it did. -/
def rectOfSpec : ChangeSpec := { name := "rectOf", fn := fun _ => fun
  | [d] => { results := [.lit (.bool true)], args := [d] }
  | _ => none }
def rectOfRow : OpenClaim := { program := "ytfonfgnbjkpanaa", sum := "2e1e32b9ff9319da0b5c01772338f0015a4decaaa5e83b7b15b1bd3e67f251b3", func := "plover/ploverlaw02.RectOf", spec := "rectOf", apart := false }
def RectOfSaid : Prop := rectOfRow.holds Try.pinned (OpenSpec.ofChange rectOfSpec)

/-- ITS FALSE NEIGHBOUR: 'it returns false'. Refute it at one input. -/
def rectOfWrong : ChangeSpec := { name := "rectOf", fn := fun _ => fun
  | [d] => { results := [.lit (.bool false)], args := [d] }
  | _ => none }
def RectOfWrongFalsely : Prop := rectOfRow.holds Try.pinned (OpenSpec.ofChange rectOfWrong)

/-- 'ploverlaw04.MortonCodes': WHATEVER THE INPUT: true; the input reads as it did. -/
def mortonCodesSpec : ChangeSpec := { name := "mortonCodes", fn := fun _ => fun
  | [d1, d2, d3] => { results := [.lit (.bool true)], args := [d1, d2, d3] }
  | _ => none }
def mortonCodesRow : OpenClaim := { program := "ytfonfgnbjkpanaa", sum := "2e1e32b9ff9319da0b5c01772338f0015a4decaaa5e83b7b15b1bd3e67f251b3", func := "plover/ploverlaw04.MortonCodes", spec := "mortonCodes", unfollowed := true, recurses := true, apart := false }
def MortonCodesSaid : Prop := mortonCodesRow.holds Try.pinned (OpenSpec.ofChange mortonCodesSpec)

/-- ITS FALSE NEIGHBOUR: 'it returns false'. Refute it at one input. -/
def mortonCodesWrong : ChangeSpec := { name := "mortonCodes", fn := fun _ => fun
  | [d1, d2, d3] => { results := [.lit (.bool false)], args := [d1, d2, d3] }
  | _ => none }
def MortonCodesWrongFalsely : Prop := mortonCodesRow.holds Try.pinned (OpenSpec.ofChange mortonCodesWrong)

/-- 'ploverlaw01.PointAdds': WHATEVER THE INPUT: true; the input reads as it did. -/
def pointAddsSpec : ChangeSpec := { name := "pointAdds", fn := fun _ => fun
  | [d1, d2] => { results := [.lit (.bool true)], args := [d1, d2] }
  | _ => none }
def pointAddsRow : OpenClaim := { program := "ytfonfgnbjkpanaa", sum := "2e1e32b9ff9319da0b5c01772338f0015a4decaaa5e83b7b15b1bd3e67f251b3", func := "plover/ploverlaw01.PointAdds", spec := "pointAdds", apart := false }
def PointAddsSaid : Prop := pointAddsRow.holds Try.pinned (OpenSpec.ofChange pointAddsSpec)

/-- ITS FALSE NEIGHBOUR: 'it returns false'. Refute it at one input. -/
def pointAddsWrong : ChangeSpec := { name := "pointAdds", fn := fun _ => fun
  | [d1, d2] => { results := [.lit (.bool false)], args := [d1, d2] }
  | _ => none }
def PointAddsWrongFalsely : Prop := pointAddsRow.holds Try.pinned (OpenSpec.ofChange pointAddsWrong)

/-- 'ploverlaw11.FrameReads': WHATEVER THE INPUT: true; the input reads as it did. -/
def frameReadsSpec : ChangeSpec := { name := "frameReads", fn := fun _ => fun
  | [d] => { results := [.lit (.bool true)], args := [d] }
  | _ => none }
def frameReadsRow : OpenClaim := { program := "ytfonfgnbjkpanaa", sum := "2e1e32b9ff9319da0b5c01772338f0015a4decaaa5e83b7b15b1bd3e67f251b3", func := "plover/ploverlaw11.FrameReads", spec := "frameReads", apart := false }
def FrameReadsSaid : Prop := frameReadsRow.holds Try.pinned (OpenSpec.ofChange frameReadsSpec)

/-- ITS FALSE NEIGHBOUR: 'it returns false'. Refute it at one input. -/
def frameReadsWrong : ChangeSpec := { name := "frameReads", fn := fun _ => fun
  | [d] => { results := [.lit (.bool false)], args := [d] }
  | _ => none }
def FrameReadsWrongFalsely : Prop := frameReadsRow.holds Try.pinned (OpenSpec.ofChange frameReadsWrong)

/-- 'ploverlaw11.FrameBack': WHATEVER THE INPUT: true; the input reads as it did. -/
def frameBackSpec : ChangeSpec := { name := "frameBack", fn := fun _ => fun
  | [d1, d2] => { results := [.lit (.bool true)], args := [d1, d2] }
  | _ => none }
def frameBackRow : OpenClaim := { program := "ytfonfgnbjkpanaa", sum := "2e1e32b9ff9319da0b5c01772338f0015a4decaaa5e83b7b15b1bd3e67f251b3", func := "plover/ploverlaw11.FrameBack", spec := "frameBack", apart := false }
def FrameBackSaid : Prop := frameBackRow.holds Try.pinned (OpenSpec.ofChange frameBackSpec)

/-- ITS FALSE NEIGHBOUR: 'it returns false'. Refute it at one input. -/
def frameBackWrong : ChangeSpec := { name := "frameBack", fn := fun _ => fun
  | [d1, d2] => { results := [.lit (.bool false)], args := [d1, d2] }
  | _ => none }
def FrameBackWrongFalsely : Prop := frameBackRow.holds Try.pinned (OpenSpec.ofChange frameBackWrong)

/-- 'ploverlaw01.PointTells': WHATEVER THE INPUT: true; the input reads as it did. -/
def pointTellsSpec : ChangeSpec := { name := "pointTells", fn := fun _ => fun
  | [d1, d2, d3, d4] => { results := [.lit (.bool true)], args := [d1, d2, d3, d4] }
  | _ => none }
def pointTellsRow : OpenClaim := { program := "ytfonfgnbjkpanaa", sum := "2e1e32b9ff9319da0b5c01772338f0015a4decaaa5e83b7b15b1bd3e67f251b3", func := "plover/ploverlaw01.PointTells", spec := "pointTells", apart := false }
def PointTellsSaid : Prop := pointTellsRow.holds Try.pinned (OpenSpec.ofChange pointTellsSpec)

/-- ITS FALSE NEIGHBOUR: 'it returns false'. Refute it at one input. -/
def pointTellsWrong : ChangeSpec := { name := "pointTells", fn := fun _ => fun
  | [d1, d2, d3, d4] => { results := [.lit (.bool false)], args := [d1, d2, d3, d4] }
  | _ => none }
def PointTellsWrongFalsely : Prop := pointTellsRow.holds Try.pinned (OpenSpec.ofChange pointTellsWrong)

/-- 'ploverlaw01.PointTurns': WHATEVER THE INPUT: true; the input reads as it did. -/
def pointTurnsSpec : ChangeSpec := { name := "pointTurns", fn := fun _ => fun
  | [d1, d2, d3, d4] => { results := [.lit (.bool true)], args := [d1, d2, d3, d4] }
  | _ => none }
def pointTurnsRow : OpenClaim := { program := "ytfonfgnbjkpanaa", sum := "2e1e32b9ff9319da0b5c01772338f0015a4decaaa5e83b7b15b1bd3e67f251b3", func := "plover/ploverlaw01.PointTurns", spec := "pointTurns", apart := false }
def PointTurnsSaid : Prop := pointTurnsRow.holds Try.pinned (OpenSpec.ofChange pointTurnsSpec)

/-- ITS FALSE NEIGHBOUR: 'it returns false'. Refute it at one input. -/
def pointTurnsWrong : ChangeSpec := { name := "pointTurns", fn := fun _ => fun
  | [d1, d2, d3, d4] => { results := [.lit (.bool false)], args := [d1, d2, d3, d4] }
  | _ => none }
def PointTurnsWrongFalsely : Prop := pointTurnsRow.holds Try.pinned (OpenSpec.ofChange pointTurnsWrong)

/-- 'ploverlaw04.MortonCells': WHATEVER THE INPUT: true; the input reads as it did. -/
def mortonCellsSpec : ChangeSpec := { name := "mortonCells", fn := fun _ => fun
  | [d1, d2, d3, d4] => { results := [.lit (.bool true)], args := [d1, d2, d3, d4] }
  | _ => none }
def mortonCellsRow : OpenClaim := { program := "ytfonfgnbjkpanaa", sum := "2e1e32b9ff9319da0b5c01772338f0015a4decaaa5e83b7b15b1bd3e67f251b3", func := "plover/ploverlaw04.MortonCells", spec := "mortonCells", unfollowed := true, recurses := true, apart := false }
def MortonCellsSaid : Prop := mortonCellsRow.holds Try.pinned (OpenSpec.ofChange mortonCellsSpec)

/-- ITS FALSE NEIGHBOUR: 'it returns false'. Refute it at one input. -/
def mortonCellsWrong : ChangeSpec := { name := "mortonCells", fn := fun _ => fun
  | [d1, d2, d3, d4] => { results := [.lit (.bool false)], args := [d1, d2, d3, d4] }
  | _ => none }
def MortonCellsWrongFalsely : Prop := mortonCellsRow.holds Try.pinned (OpenSpec.ofChange mortonCellsWrong)

/-- 'ploverlaw04.MortonBack': WHATEVER THE INPUT: true; the input reads as it did. -/
def mortonBackSpec : ChangeSpec := { name := "mortonBack", fn := fun _ => fun
  | [d1, d2, d3, d4, d5, d6, d7] => { results := [.lit (.bool true)], args := [d1, d2, d3, d4, d5, d6, d7] }
  | _ => none }
def mortonBackRow : OpenClaim := { program := "ytfonfgnbjkpanaa", sum := "2e1e32b9ff9319da0b5c01772338f0015a4decaaa5e83b7b15b1bd3e67f251b3", func := "plover/ploverlaw04.MortonBack", spec := "mortonBack", unfollowed := true, recurses := true, apart := false }
def MortonBackSaid : Prop := mortonBackRow.holds Try.pinned (OpenSpec.ofChange mortonBackSpec)

/-- ITS FALSE NEIGHBOUR: 'it returns false'. Refute it at one input. -/
def mortonBackWrong : ChangeSpec := { name := "mortonBack", fn := fun _ => fun
  | [d1, d2, d3, d4, d5, d6, d7] => { results := [.lit (.bool false)], args := [d1, d2, d3, d4, d5, d6, d7] }
  | _ => none }
def MortonBackWrongFalsely : Prop := mortonBackRow.holds Try.pinned (OpenSpec.ofChange mortonBackWrong)

/- THE SECOND FORM. 'bulk': how many values and letters a reading holds, each counted each time it is reached (what is shared counts as often as it is met; a slice's spare places count too). A statement '..UptoSaid' is the law's where the arguments, and the package variables that the reading takes, are together of bulk at most 1048576: NARROWER than '..Said'. Prove '..Said' where nothing that the law and all that it calls make is longer than what came in: it says more and counts as full. Else prove '..UptoSaid'. A law counts once. -/
mutual
def uptoBulk {H : Type} : DataW H → Nat
  | .lit (.string bytes) => bytes.length + 1
  | .lit _ => 1
  | .nil => 1
  | .ptr d => uptoBulk d + 1
  | .slice elems spare => uptoBulkAll elems + uptoBulkAll spare + 1
  | .agg parts => uptoBulkAll parts + 1
  | .iface _ d => uptoBulk d + 1
  | .map entries => uptoBulkEntries entries + 1
  | .held _ => 1
def uptoBulkAll {H : Type} : List (DataW H) → Nat
  | [] => 0
  | d :: r => uptoBulk d + uptoBulkAll r
def uptoBulkEntries {H : Type} : List (Lit × DataW H) → Nat
  | [] => 0
  | x :: r => uptoBulkEntry x + uptoBulkEntries r
def uptoBulkEntry {H : Type} : Lit × DataW H → Nat
  | (.string bytes, d) => bytes.length + uptoBulk d + 1
  | (_, d) => uptoBulk d + 1
 end
def uptoSmall : (H : Type) → List (DataW H) → Bool := fun _ ds => decide (uptoBulkAll ds ≤ 1048576)
def OpenSpec.upto (s : _root_.Go.ChangeSpec) : _root_.Go.OpenSpec := { _root_.Go.OpenSpec.ofChange s with cond := some uptoSmall }

/-- 'ploverlaw02.RectHolds', WHERE WHAT IT READS IS OF BULK AT MOST 1048576: true; the input reads as it did. -/
def rectHoldsUptoRow : OpenClaim := { program := "ytfonfgnbjkpanaa", sum := "2e1e32b9ff9319da0b5c01772338f0015a4decaaa5e83b7b15b1bd3e67f251b3", func := "plover/ploverlaw02.RectHolds", spec := "rectHolds", apart := false, narrowed := true }
def RectHoldsUptoSaid : Prop := rectHoldsUptoRow.holds Try.pinned (OpenSpec.upto rectHoldsSpec)

/-- 'ploverlaw02.RectTells', WHERE WHAT IT READS IS OF BULK AT MOST 1048576: true; the input reads as it did. -/
def rectTellsUptoRow : OpenClaim := { program := "ytfonfgnbjkpanaa", sum := "2e1e32b9ff9319da0b5c01772338f0015a4decaaa5e83b7b15b1bd3e67f251b3", func := "plover/ploverlaw02.RectTells", spec := "rectTells", apart := false, narrowed := true }
def RectTellsUptoSaid : Prop := rectTellsUptoRow.holds Try.pinned (OpenSpec.upto rectTellsSpec)

/-- 'ploverlaw02.RectOf', WHERE WHAT IT READS IS OF BULK AT MOST 1048576: true; the input reads as it did. -/
def rectOfUptoRow : OpenClaim := { program := "ytfonfgnbjkpanaa", sum := "2e1e32b9ff9319da0b5c01772338f0015a4decaaa5e83b7b15b1bd3e67f251b3", func := "plover/ploverlaw02.RectOf", spec := "rectOf", apart := false, narrowed := true }
def RectOfUptoSaid : Prop := rectOfUptoRow.holds Try.pinned (OpenSpec.upto rectOfSpec)

/-- 'ploverlaw04.MortonCodes', WHERE WHAT IT READS IS OF BULK AT MOST 1048576: true; the input reads as it did. -/
def mortonCodesUptoRow : OpenClaim := { program := "ytfonfgnbjkpanaa", sum := "2e1e32b9ff9319da0b5c01772338f0015a4decaaa5e83b7b15b1bd3e67f251b3", func := "plover/ploverlaw04.MortonCodes", spec := "mortonCodes", unfollowed := true, recurses := true, apart := false, narrowed := true }
def MortonCodesUptoSaid : Prop := mortonCodesUptoRow.holds Try.pinned (OpenSpec.upto mortonCodesSpec)

/-- 'ploverlaw01.PointAdds', WHERE WHAT IT READS IS OF BULK AT MOST 1048576: true; the input reads as it did. -/
def pointAddsUptoRow : OpenClaim := { program := "ytfonfgnbjkpanaa", sum := "2e1e32b9ff9319da0b5c01772338f0015a4decaaa5e83b7b15b1bd3e67f251b3", func := "plover/ploverlaw01.PointAdds", spec := "pointAdds", apart := false, narrowed := true }
def PointAddsUptoSaid : Prop := pointAddsUptoRow.holds Try.pinned (OpenSpec.upto pointAddsSpec)

/-- 'ploverlaw11.FrameReads', WHERE WHAT IT READS IS OF BULK AT MOST 1048576: true; the input reads as it did. -/
def frameReadsUptoRow : OpenClaim := { program := "ytfonfgnbjkpanaa", sum := "2e1e32b9ff9319da0b5c01772338f0015a4decaaa5e83b7b15b1bd3e67f251b3", func := "plover/ploverlaw11.FrameReads", spec := "frameReads", apart := false, narrowed := true }
def FrameReadsUptoSaid : Prop := frameReadsUptoRow.holds Try.pinned (OpenSpec.upto frameReadsSpec)

/-- 'ploverlaw11.FrameBack', WHERE WHAT IT READS IS OF BULK AT MOST 1048576: true; the input reads as it did. -/
def frameBackUptoRow : OpenClaim := { program := "ytfonfgnbjkpanaa", sum := "2e1e32b9ff9319da0b5c01772338f0015a4decaaa5e83b7b15b1bd3e67f251b3", func := "plover/ploverlaw11.FrameBack", spec := "frameBack", apart := false, narrowed := true }
def FrameBackUptoSaid : Prop := frameBackUptoRow.holds Try.pinned (OpenSpec.upto frameBackSpec)

/-- 'ploverlaw01.PointTells', WHERE WHAT IT READS IS OF BULK AT MOST 1048576: true; the input reads as it did. -/
def pointTellsUptoRow : OpenClaim := { program := "ytfonfgnbjkpanaa", sum := "2e1e32b9ff9319da0b5c01772338f0015a4decaaa5e83b7b15b1bd3e67f251b3", func := "plover/ploverlaw01.PointTells", spec := "pointTells", apart := false, narrowed := true }
def PointTellsUptoSaid : Prop := pointTellsUptoRow.holds Try.pinned (OpenSpec.upto pointTellsSpec)

/-- 'ploverlaw01.PointTurns', WHERE WHAT IT READS IS OF BULK AT MOST 1048576: true; the input reads as it did. -/
def pointTurnsUptoRow : OpenClaim := { program := "ytfonfgnbjkpanaa", sum := "2e1e32b9ff9319da0b5c01772338f0015a4decaaa5e83b7b15b1bd3e67f251b3", func := "plover/ploverlaw01.PointTurns", spec := "pointTurns", apart := false, narrowed := true }
def PointTurnsUptoSaid : Prop := pointTurnsUptoRow.holds Try.pinned (OpenSpec.upto pointTurnsSpec)

/-- 'ploverlaw04.MortonCells', WHERE WHAT IT READS IS OF BULK AT MOST 1048576: true; the input reads as it did. -/
def mortonCellsUptoRow : OpenClaim := { program := "ytfonfgnbjkpanaa", sum := "2e1e32b9ff9319da0b5c01772338f0015a4decaaa5e83b7b15b1bd3e67f251b3", func := "plover/ploverlaw04.MortonCells", spec := "mortonCells", unfollowed := true, recurses := true, apart := false, narrowed := true }
def MortonCellsUptoSaid : Prop := mortonCellsUptoRow.holds Try.pinned (OpenSpec.upto mortonCellsSpec)

/-- 'ploverlaw04.MortonBack', WHERE WHAT IT READS IS OF BULK AT MOST 1048576: true; the input reads as it did. -/
def mortonBackUptoRow : OpenClaim := { program := "ytfonfgnbjkpanaa", sum := "2e1e32b9ff9319da0b5c01772338f0015a4decaaa5e83b7b15b1bd3e67f251b3", func := "plover/ploverlaw04.MortonBack", spec := "mortonBack", unfollowed := true, recurses := true, apart := false, narrowed := true }
def MortonBackUptoSaid : Prop := mortonBackUptoRow.holds Try.pinned (OpenSpec.upto mortonBackSpec)

end Rows
end Go.Proofs.Ytfonfgnbjkpanaa
