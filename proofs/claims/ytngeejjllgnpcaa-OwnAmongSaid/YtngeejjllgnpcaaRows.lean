/-
  No cell of these rows narrows 'for every input' (looked for: loops, veiled, ifaces, maps, wideKeys, modest, calm, conditions, laid).
  DERIVED. THE GIVEN ROWS OF THIS SEAT. 12 by the template 'for every input the law returns true; each argument reads behind the call as it read before'; 0 by the template 'total and deterministic' (their statements: YtngeejjllgnpcaaTotals.lean).
  GIVEN WITH THE SEED: the statements are not yours to turn. If you find one false, say at which input.
  Laid BY PROGRAM, IN A SANDBOX (cutbox-rows.mjs): the forced cells as the released guide's own fill.sh prints them over the translation a900a817f5b1778a… (all of the seat's roots in one cut). By AI agents, Wed Nov 11 2026. No macro, syntax, notation, axiom, sorry.
-/
import Derived.Test.YtngeejjllgnpcaaChecked
import GoSem.Claim
import GoSem.ClaimJoined
import GoSem.ClaimMapViews
import Derived.JoinedTies
import Derived.KernelRfl
namespace Go.Proofs.Ytngeejjllgnpcaa
/- THE CELL 'sum', in the pinned program and in every row, IS THE sha256 OF THE DUMP (.gsa) THAT YtngeejjllgnpcaaProg.lean LOADS. Nothing in Lean hashes anything: it is a label: what it is worth is what the hold of that sum in a sandbox is worth. -/
noncomputable def Try.pinned : Pinned := { name := "ytngeejjllgnpcaa", sum := "a900a817f5b1778a2754333027e2ddd327ff452b65739d49cfb64a1289e2a596", checked := Try.checked }
namespace Rows
def none {H : Type} : Left H := { results := [], args := [] }

/-- 'ploverlaw03.PolyTells': WHATEVER THE INPUT: true; the input reads as it did. -/
def polyTellsSpec : ChangeSpec := { name := "polyTells", fn := fun _ => fun
  | [d1, d2] => { results := [.lit (.bool true)], args := [d1, d2] }
  | _ => none }
def polyTellsRow : OpenClaim := { program := "ytngeejjllgnpcaa", sum := "a900a817f5b1778a2754333027e2ddd327ff452b65739d49cfb64a1289e2a596", func := "plover/ploverlaw03.PolyTells", spec := "polyTells", unfollowed := true, recurses := true, apart := false }
def PolyTellsSaid : Prop := polyTellsRow.holds Try.pinned (OpenSpec.ofChange polyTellsSpec)

/-- ITS FALSE NEIGHBOUR: 'it returns false'. Refute it at one input. -/
def polyTellsWrong : ChangeSpec := { name := "polyTells", fn := fun _ => fun
  | [d1, d2] => { results := [.lit (.bool false)], args := [d1, d2] }
  | _ => none }
def PolyTellsWrongFalsely : Prop := polyTellsRow.holds Try.pinned (OpenSpec.ofChange polyTellsWrong)

/-- 'ploverlaw03.PolyMoves': WHATEVER THE INPUT: true; the input reads as it did. -/
def polyMovesSpec : ChangeSpec := { name := "polyMoves", fn := fun _ => fun
  | [d1, d2] => { results := [.lit (.bool true)], args := [d1, d2] }
  | _ => none }
def polyMovesRow : OpenClaim := { program := "ytngeejjllgnpcaa", sum := "a900a817f5b1778a2754333027e2ddd327ff452b65739d49cfb64a1289e2a596", func := "plover/ploverlaw03.PolyMoves", spec := "polyMoves", unfollowed := true, recurses := true, apart := false }
def PolyMovesSaid : Prop := polyMovesRow.holds Try.pinned (OpenSpec.ofChange polyMovesSpec)

/-- ITS FALSE NEIGHBOUR: 'it returns false'. Refute it at one input. -/
def polyMovesWrong : ChangeSpec := { name := "polyMoves", fn := fun _ => fun
  | [d1, d2] => { results := [.lit (.bool false)], args := [d1, d2] }
  | _ => none }
def PolyMovesWrongFalsely : Prop := polyMovesRow.holds Try.pinned (OpenSpec.ofChange polyMovesWrong)

/-- 'ploverlaw03.PolyTurns': WHATEVER THE INPUT: true; the input reads as it did. -/
def polyTurnsSpec : ChangeSpec := { name := "polyTurns", fn := fun _ => fun
  | [d1, d2, d3, d4] => { results := [.lit (.bool true)], args := [d1, d2, d3, d4] }
  | _ => none }
def polyTurnsRow : OpenClaim := { program := "ytngeejjllgnpcaa", sum := "a900a817f5b1778a2754333027e2ddd327ff452b65739d49cfb64a1289e2a596", func := "plover/ploverlaw03.PolyTurns", spec := "polyTurns", unfollowed := true, recurses := true, apart := false }
def PolyTurnsSaid : Prop := polyTurnsRow.holds Try.pinned (OpenSpec.ofChange polyTurnsSpec)

/-- ITS FALSE NEIGHBOUR: 'it returns false'. Refute it at one input. -/
def polyTurnsWrong : ChangeSpec := { name := "polyTurns", fn := fun _ => fun
  | [d1, d2, d3, d4] => { results := [.lit (.bool false)], args := [d1, d2, d3, d4] }
  | _ => none }
def PolyTurnsWrongFalsely : Prop := polyTurnsRow.holds Try.pinned (OpenSpec.ofChange polyTurnsWrong)

/-- 'ploverlaw16.RegionTells': WHATEVER THE INPUT: true; the input reads as it did. -/
def regionTellsSpec : ChangeSpec := { name := "regionTells", fn := fun _ => fun
  | [d1, d2, d3] => { results := [.lit (.bool true)], args := [d1, d2, d3] }
  | _ => none }
def regionTellsRow : OpenClaim := { program := "ytngeejjllgnpcaa", sum := "a900a817f5b1778a2754333027e2ddd327ff452b65739d49cfb64a1289e2a596", func := "plover/ploverlaw16.RegionTells", spec := "regionTells", unfollowed := true, recurses := true, apart := false }
def RegionTellsSaid : Prop := regionTellsRow.holds Try.pinned (OpenSpec.ofChange regionTellsSpec)

/-- ITS FALSE NEIGHBOUR: 'it returns false'. Refute it at one input. -/
def regionTellsWrong : ChangeSpec := { name := "regionTells", fn := fun _ => fun
  | [d1, d2, d3] => { results := [.lit (.bool false)], args := [d1, d2, d3] }
  | _ => none }
def RegionTellsWrongFalsely : Prop := regionTellsRow.holds Try.pinned (OpenSpec.ofChange regionTellsWrong)

/-- 'ploverlaw17.ZoneTells': WHATEVER THE INPUT: true; the input reads as it did. -/
def zoneTellsSpec : ChangeSpec := { name := "zoneTells", fn := fun _ => fun
  | [d1, d2, d3, d4] => { results := [.lit (.bool true)], args := [d1, d2, d3, d4] }
  | _ => none }
def zoneTellsRow : OpenClaim := { program := "ytngeejjllgnpcaa", sum := "a900a817f5b1778a2754333027e2ddd327ff452b65739d49cfb64a1289e2a596", func := "plover/ploverlaw17.ZoneTells", spec := "zoneTells", unfollowed := true, recurses := true, apart := false }
def ZoneTellsSaid : Prop := zoneTellsRow.holds Try.pinned (OpenSpec.ofChange zoneTellsSpec)

/-- ITS FALSE NEIGHBOUR: 'it returns false'. Refute it at one input. -/
def zoneTellsWrong : ChangeSpec := { name := "zoneTells", fn := fun _ => fun
  | [d1, d2, d3, d4] => { results := [.lit (.bool false)], args := [d1, d2, d3, d4] }
  | _ => none }
def ZoneTellsWrongFalsely : Prop := zoneTellsRow.holds Try.pinned (OpenSpec.ofChange zoneTellsWrong)

/-- 'ploverlaw16.RegionKeeps': WHATEVER THE INPUT: true; the input reads as it did. -/
def regionKeepsSpec : ChangeSpec := { name := "regionKeeps", fn := fun _ => fun
  | [d1, d2, d3] => { results := [.lit (.bool true)], args := [d1, d2, d3] }
  | _ => none }
def regionKeepsRow : OpenClaim := { program := "ytngeejjllgnpcaa", sum := "a900a817f5b1778a2754333027e2ddd327ff452b65739d49cfb64a1289e2a596", func := "plover/ploverlaw16.RegionKeeps", spec := "regionKeeps", unfollowed := true, recurses := true, apart := false }
def RegionKeepsSaid : Prop := regionKeepsRow.holds Try.pinned (OpenSpec.ofChange regionKeepsSpec)

/-- ITS FALSE NEIGHBOUR: 'it returns false'. Refute it at one input. -/
def regionKeepsWrong : ChangeSpec := { name := "regionKeeps", fn := fun _ => fun
  | [d1, d2, d3] => { results := [.lit (.bool false)], args := [d1, d2, d3] }
  | _ => none }
def RegionKeepsWrongFalsely : Prop := regionKeepsRow.holds Try.pinned (OpenSpec.ofChange regionKeepsWrong)

/-- 'ploverlaw16.RegionMoves': WHATEVER THE INPUT: true; the input reads as it did. -/
def regionMovesSpec : ChangeSpec := { name := "regionMoves", fn := fun _ => fun
  | [d1, d2] => { results := [.lit (.bool true)], args := [d1, d2] }
  | _ => none }
def regionMovesRow : OpenClaim := { program := "ytngeejjllgnpcaa", sum := "a900a817f5b1778a2754333027e2ddd327ff452b65739d49cfb64a1289e2a596", func := "plover/ploverlaw16.RegionMoves", spec := "regionMoves", unfollowed := true, recurses := true, apart := false }
def RegionMovesSaid : Prop := regionMovesRow.holds Try.pinned (OpenSpec.ofChange regionMovesSpec)

/-- ITS FALSE NEIGHBOUR: 'it returns false'. Refute it at one input. -/
def regionMovesWrong : ChangeSpec := { name := "regionMoves", fn := fun _ => fun
  | [d1, d2] => { results := [.lit (.bool false)], args := [d1, d2] }
  | _ => none }
def RegionMovesWrongFalsely : Prop := regionMovesRow.holds Try.pinned (OpenSpec.ofChange regionMovesWrong)

/-- 'ploverlaw17.ZoneKeeps': WHATEVER THE INPUT: true; the input reads as it did. -/
def zoneKeepsSpec : ChangeSpec := { name := "zoneKeeps", fn := fun _ => fun
  | [d1, d2, d3] => { results := [.lit (.bool true)], args := [d1, d2, d3] }
  | _ => none }
def zoneKeepsRow : OpenClaim := { program := "ytngeejjllgnpcaa", sum := "a900a817f5b1778a2754333027e2ddd327ff452b65739d49cfb64a1289e2a596", func := "plover/ploverlaw17.ZoneKeeps", spec := "zoneKeeps", unfollowed := true, recurses := true, apart := false }
def ZoneKeepsSaid : Prop := zoneKeepsRow.holds Try.pinned (OpenSpec.ofChange zoneKeepsSpec)

/-- ITS FALSE NEIGHBOUR: 'it returns false'. Refute it at one input. -/
def zoneKeepsWrong : ChangeSpec := { name := "zoneKeeps", fn := fun _ => fun
  | [d1, d2, d3] => { results := [.lit (.bool false)], args := [d1, d2, d3] }
  | _ => none }
def ZoneKeepsWrongFalsely : Prop := zoneKeepsRow.holds Try.pinned (OpenSpec.ofChange zoneKeepsWrong)

/-- 'ploverlaw05.CoverTells': WHATEVER THE INPUT: true; the input reads as it did. -/
def coverTellsSpec : ChangeSpec := { name := "coverTells", fn := fun _ => fun
  | [d1, d2, d3] => { results := [.lit (.bool true)], args := [d1, d2, d3] }
  | _ => none }
def coverTellsRow : OpenClaim := { program := "ytngeejjllgnpcaa", sum := "a900a817f5b1778a2754333027e2ddd327ff452b65739d49cfb64a1289e2a596", func := "plover/ploverlaw05.CoverTells", spec := "coverTells", unfollowed := true, recurses := true, apart := false }
def CoverTellsSaid : Prop := coverTellsRow.holds Try.pinned (OpenSpec.ofChange coverTellsSpec)

/-- ITS FALSE NEIGHBOUR: 'it returns false'. Refute it at one input. -/
def coverTellsWrong : ChangeSpec := { name := "coverTells", fn := fun _ => fun
  | [d1, d2, d3] => { results := [.lit (.bool false)], args := [d1, d2, d3] }
  | _ => none }
def CoverTellsWrongFalsely : Prop := coverTellsRow.holds Try.pinned (OpenSpec.ofChange coverTellsWrong)

/-- 'ploverlaw05.CoverHolds': WHATEVER THE INPUT: true; the input reads as it did. -/
def coverHoldsSpec : ChangeSpec := { name := "coverHolds", fn := fun _ => fun
  | [d1, d2, d3] => { results := [.lit (.bool true)], args := [d1, d2, d3] }
  | _ => none }
def coverHoldsRow : OpenClaim := { program := "ytngeejjllgnpcaa", sum := "a900a817f5b1778a2754333027e2ddd327ff452b65739d49cfb64a1289e2a596", func := "plover/ploverlaw05.CoverHolds", spec := "coverHolds", unfollowed := true, recurses := true, apart := false }
def CoverHoldsSaid : Prop := coverHoldsRow.holds Try.pinned (OpenSpec.ofChange coverHoldsSpec)

/-- ITS FALSE NEIGHBOUR: 'it returns false'. Refute it at one input. -/
def coverHoldsWrong : ChangeSpec := { name := "coverHolds", fn := fun _ => fun
  | [d1, d2, d3] => { results := [.lit (.bool false)], args := [d1, d2, d3] }
  | _ => none }
def CoverHoldsWrongFalsely : Prop := coverHoldsRow.holds Try.pinned (OpenSpec.ofChange coverHoldsWrong)

/-- 'ploverlaw18.OwnTells': WHATEVER THE INPUT: true; the input reads as it did. -/
def ownTellsSpec : ChangeSpec := { name := "ownTells", fn := fun _ => fun
  | [d1, d2, d3, d4] => { results := [.lit (.bool true)], args := [d1, d2, d3, d4] }
  | _ => none }
def ownTellsRow : OpenClaim := { program := "ytngeejjllgnpcaa", sum := "a900a817f5b1778a2754333027e2ddd327ff452b65739d49cfb64a1289e2a596", func := "plover/ploverlaw18.OwnTells", spec := "ownTells", unfollowed := true, recurses := true, apart := false }
def OwnTellsSaid : Prop := ownTellsRow.holds Try.pinned (OpenSpec.ofChange ownTellsSpec)

/-- ITS FALSE NEIGHBOUR: 'it returns false'. Refute it at one input. -/
def ownTellsWrong : ChangeSpec := { name := "ownTells", fn := fun _ => fun
  | [d1, d2, d3, d4] => { results := [.lit (.bool false)], args := [d1, d2, d3, d4] }
  | _ => none }
def OwnTellsWrongFalsely : Prop := ownTellsRow.holds Try.pinned (OpenSpec.ofChange ownTellsWrong)

/-- 'ploverlaw18.OwnAmong': WHATEVER THE INPUT: true; the input reads as it did. -/
def ownAmongSpec : ChangeSpec := { name := "ownAmong", fn := fun _ => fun
  | [d1, d2, d3, d4] => { results := [.lit (.bool true)], args := [d1, d2, d3, d4] }
  | _ => none }
def ownAmongRow : OpenClaim := { program := "ytngeejjllgnpcaa", sum := "a900a817f5b1778a2754333027e2ddd327ff452b65739d49cfb64a1289e2a596", func := "plover/ploverlaw18.OwnAmong", spec := "ownAmong", unfollowed := true, recurses := true, apart := false }
def OwnAmongSaid : Prop := ownAmongRow.holds Try.pinned (OpenSpec.ofChange ownAmongSpec)

/-- ITS FALSE NEIGHBOUR: 'it returns false'. Refute it at one input. -/
def ownAmongWrong : ChangeSpec := { name := "ownAmong", fn := fun _ => fun
  | [d1, d2, d3, d4] => { results := [.lit (.bool false)], args := [d1, d2, d3, d4] }
  | _ => none }
def OwnAmongWrongFalsely : Prop := ownAmongRow.holds Try.pinned (OpenSpec.ofChange ownAmongWrong)

/- THE SECOND FORM. 'bulk': how many values and letters a reading holds, each counted each time it is reached (what is shared counts as often as it is met; a slice's spare places count too). A statement '..UptoSaid' is the law's where the arguments, and the package variables that the reading takes, are together of bulk at most 1048576: NARROWER than '..Said'. Prove '..Said' where nothing that the law and all that it calls make is longer than what came in: it says more and counts as full. Else prove '..UptoSaid'. A law counts once. -/
mutual
def uptoBulk {H : Type} : DataW H → Nat
  | .lit (.string bytes) => bytes.length + 1
  | .lit _ => 1
  | .nil => 1
  | .ptr d => uptoBulk d + 1
  | .slice elems spare => uptoBulkAll elems + uptoBulkAll spare + 1
  | .agg parts => uptoBulkAll parts + 1
  | .iface _ d => uptoBulk d + 1
  | .map entries => uptoBulkEntries entries + 1
  | .held _ => 1
def uptoBulkAll {H : Type} : List (DataW H) → Nat
  | [] => 0
  | d :: r => uptoBulk d + uptoBulkAll r
def uptoBulkEntries {H : Type} : List (Lit × DataW H) → Nat
  | [] => 0
  | x :: r => uptoBulkEntry x + uptoBulkEntries r
def uptoBulkEntry {H : Type} : Lit × DataW H → Nat
  | (.string bytes, d) => bytes.length + uptoBulk d + 1
  | (_, d) => uptoBulk d + 1
 end
def uptoSmall : (H : Type) → List (DataW H) → Bool := fun _ ds => decide (uptoBulkAll ds ≤ 1048576)
def OpenSpec.upto (s : _root_.Go.ChangeSpec) : _root_.Go.OpenSpec := { _root_.Go.OpenSpec.ofChange s with cond := some uptoSmall }

/-- 'ploverlaw03.PolyTells', WHERE WHAT IT READS IS OF BULK AT MOST 1048576: true; the input reads as it did. -/
def polyTellsUptoRow : OpenClaim := { program := "ytngeejjllgnpcaa", sum := "a900a817f5b1778a2754333027e2ddd327ff452b65739d49cfb64a1289e2a596", func := "plover/ploverlaw03.PolyTells", spec := "polyTells", unfollowed := true, recurses := true, apart := false, narrowed := true }
def PolyTellsUptoSaid : Prop := polyTellsUptoRow.holds Try.pinned (OpenSpec.upto polyTellsSpec)

/-- 'ploverlaw03.PolyMoves', WHERE WHAT IT READS IS OF BULK AT MOST 1048576: true; the input reads as it did. -/
def polyMovesUptoRow : OpenClaim := { program := "ytngeejjllgnpcaa", sum := "a900a817f5b1778a2754333027e2ddd327ff452b65739d49cfb64a1289e2a596", func := "plover/ploverlaw03.PolyMoves", spec := "polyMoves", unfollowed := true, recurses := true, apart := false, narrowed := true }
def PolyMovesUptoSaid : Prop := polyMovesUptoRow.holds Try.pinned (OpenSpec.upto polyMovesSpec)

/-- 'ploverlaw03.PolyTurns', WHERE WHAT IT READS IS OF BULK AT MOST 1048576: true; the input reads as it did. -/
def polyTurnsUptoRow : OpenClaim := { program := "ytngeejjllgnpcaa", sum := "a900a817f5b1778a2754333027e2ddd327ff452b65739d49cfb64a1289e2a596", func := "plover/ploverlaw03.PolyTurns", spec := "polyTurns", unfollowed := true, recurses := true, apart := false, narrowed := true }
def PolyTurnsUptoSaid : Prop := polyTurnsUptoRow.holds Try.pinned (OpenSpec.upto polyTurnsSpec)

/-- 'ploverlaw16.RegionTells', WHERE WHAT IT READS IS OF BULK AT MOST 1048576: true; the input reads as it did. -/
def regionTellsUptoRow : OpenClaim := { program := "ytngeejjllgnpcaa", sum := "a900a817f5b1778a2754333027e2ddd327ff452b65739d49cfb64a1289e2a596", func := "plover/ploverlaw16.RegionTells", spec := "regionTells", unfollowed := true, recurses := true, apart := false, narrowed := true }
def RegionTellsUptoSaid : Prop := regionTellsUptoRow.holds Try.pinned (OpenSpec.upto regionTellsSpec)

/-- 'ploverlaw17.ZoneTells', WHERE WHAT IT READS IS OF BULK AT MOST 1048576: true; the input reads as it did. -/
def zoneTellsUptoRow : OpenClaim := { program := "ytngeejjllgnpcaa", sum := "a900a817f5b1778a2754333027e2ddd327ff452b65739d49cfb64a1289e2a596", func := "plover/ploverlaw17.ZoneTells", spec := "zoneTells", unfollowed := true, recurses := true, apart := false, narrowed := true }
def ZoneTellsUptoSaid : Prop := zoneTellsUptoRow.holds Try.pinned (OpenSpec.upto zoneTellsSpec)

/-- 'ploverlaw16.RegionKeeps', WHERE WHAT IT READS IS OF BULK AT MOST 1048576: true; the input reads as it did. -/
def regionKeepsUptoRow : OpenClaim := { program := "ytngeejjllgnpcaa", sum := "a900a817f5b1778a2754333027e2ddd327ff452b65739d49cfb64a1289e2a596", func := "plover/ploverlaw16.RegionKeeps", spec := "regionKeeps", unfollowed := true, recurses := true, apart := false, narrowed := true }
def RegionKeepsUptoSaid : Prop := regionKeepsUptoRow.holds Try.pinned (OpenSpec.upto regionKeepsSpec)

/-- 'ploverlaw16.RegionMoves', WHERE WHAT IT READS IS OF BULK AT MOST 1048576: true; the input reads as it did. -/
def regionMovesUptoRow : OpenClaim := { program := "ytngeejjllgnpcaa", sum := "a900a817f5b1778a2754333027e2ddd327ff452b65739d49cfb64a1289e2a596", func := "plover/ploverlaw16.RegionMoves", spec := "regionMoves", unfollowed := true, recurses := true, apart := false, narrowed := true }
def RegionMovesUptoSaid : Prop := regionMovesUptoRow.holds Try.pinned (OpenSpec.upto regionMovesSpec)

/-- 'ploverlaw17.ZoneKeeps', WHERE WHAT IT READS IS OF BULK AT MOST 1048576: true; the input reads as it did. -/
def zoneKeepsUptoRow : OpenClaim := { program := "ytngeejjllgnpcaa", sum := "a900a817f5b1778a2754333027e2ddd327ff452b65739d49cfb64a1289e2a596", func := "plover/ploverlaw17.ZoneKeeps", spec := "zoneKeeps", unfollowed := true, recurses := true, apart := false, narrowed := true }
def ZoneKeepsUptoSaid : Prop := zoneKeepsUptoRow.holds Try.pinned (OpenSpec.upto zoneKeepsSpec)

/-- 'ploverlaw05.CoverTells', WHERE WHAT IT READS IS OF BULK AT MOST 1048576: true; the input reads as it did. -/
def coverTellsUptoRow : OpenClaim := { program := "ytngeejjllgnpcaa", sum := "a900a817f5b1778a2754333027e2ddd327ff452b65739d49cfb64a1289e2a596", func := "plover/ploverlaw05.CoverTells", spec := "coverTells", unfollowed := true, recurses := true, apart := false, narrowed := true }
def CoverTellsUptoSaid : Prop := coverTellsUptoRow.holds Try.pinned (OpenSpec.upto coverTellsSpec)

/-- 'ploverlaw05.CoverHolds', WHERE WHAT IT READS IS OF BULK AT MOST 1048576: true; the input reads as it did. -/
def coverHoldsUptoRow : OpenClaim := { program := "ytngeejjllgnpcaa", sum := "a900a817f5b1778a2754333027e2ddd327ff452b65739d49cfb64a1289e2a596", func := "plover/ploverlaw05.CoverHolds", spec := "coverHolds", unfollowed := true, recurses := true, apart := false, narrowed := true }
def CoverHoldsUptoSaid : Prop := coverHoldsUptoRow.holds Try.pinned (OpenSpec.upto coverHoldsSpec)

/-- 'ploverlaw18.OwnTells', WHERE WHAT IT READS IS OF BULK AT MOST 1048576: true; the input reads as it did. -/
def ownTellsUptoRow : OpenClaim := { program := "ytngeejjllgnpcaa", sum := "a900a817f5b1778a2754333027e2ddd327ff452b65739d49cfb64a1289e2a596", func := "plover/ploverlaw18.OwnTells", spec := "ownTells", unfollowed := true, recurses := true, apart := false, narrowed := true }
def OwnTellsUptoSaid : Prop := ownTellsUptoRow.holds Try.pinned (OpenSpec.upto ownTellsSpec)

/-- 'ploverlaw18.OwnAmong', WHERE WHAT IT READS IS OF BULK AT MOST 1048576: true; the input reads as it did. -/
def ownAmongUptoRow : OpenClaim := { program := "ytngeejjllgnpcaa", sum := "a900a817f5b1778a2754333027e2ddd327ff452b65739d49cfb64a1289e2a596", func := "plover/ploverlaw18.OwnAmong", spec := "ownAmong", unfollowed := true, recurses := true, apart := false, narrowed := true }
def OwnAmongUptoSaid : Prop := ownAmongUptoRow.holds Try.pinned (OpenSpec.upto ownAmongSpec)

end Rows
end Go.Proofs.Ytngeejjllgnpcaa
