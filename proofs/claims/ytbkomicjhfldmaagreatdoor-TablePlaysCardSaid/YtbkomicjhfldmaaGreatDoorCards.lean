/-
  DERIVED. GIVEN WITH THE SEED: THE CARDS: each row of YtbkomicjhfldmaaGreatDoorRows.lean that lists a variable, with what it lists TIED to the program's text (the seventh form; the later family's looks); each row that meets fmt, with fmt's text TOLD by the authors' own Lean function (tested against real Go, not proved from fmt's source: count such statements apart). THE CARD IS WHAT COUNTS. Prove the row's statement (the work); the ties are given (YtbkomicjhfldmaaGreatDoorTie.lean); close each card by the builder's one call (the guide's Derived/Test/ToyasCard.lean, 'card_holds'). Laid BY PROGRAM, IN A SANDBOX (cutbox-door.mjs). By AI agents, Wed Nov 11 2026. No macro, syntax, notation, axiom, sorry.
-/
import Derived.Test.YtbkomicjhfldmaaGreatDoorRows
import GoSem.ClaimSeven
namespace Go.Proofs.YtbkomicjhfldmaaGreatDoor
namespace Rows

/-- THE TIED CARD OF 'ploverlaw19.TableCovers'. -/
def tableCoversCard : Claim7 := { stood := { row := tableCoversRow, standIns := [], harness := (true, "22c66596984cae993470b5fba66d2596608881599c358a02c28252f4a4335be3"), looks := true }, kinds := [], alts := [], laidByText := true, laidKinds := [.data, .data, .data, .sentinel, .sentinel], laidTests := true, laidLooks := .later }
def TableCoversCardSaid : Prop := Claim7.holds Tryz.pinned (.plain (OpenSpec.ofChange tableCoversSpec)) tableCoversCard

/-- THE TIED CARD OF 'ploverlaw19.TablePlays'. -/
def tablePlaysCard : Claim7 := { stood := { row := tablePlaysRow, standIns := [], harness := (true, "22c66596984cae993470b5fba66d2596608881599c358a02c28252f4a4335be3"), looks := true }, kinds := [], alts := [], laidByText := true, laidKinds := [.data, .data, .data, .sentinel, .sentinel], laidTests := true, laidLooks := .later }
def TablePlaysCardSaid : Prop := Claim7.holds Tryz.pinned (.plain (OpenSpec.ofChange tablePlaysSpec)) tablePlaysCard

/-- THE TIED CARD OF 'ploverlaw20.ReplicaKnows'. -/
def replicaKnowsCard : Claim7 := { stood := { row := replicaKnowsRow, standIns := [], harness := (true, "22c66596984cae993470b5fba66d2596608881599c358a02c28252f4a4335be3"), looks := true }, kinds := [], alts := [], laidByText := true, laidKinds := [.data, .data, .data, .sentinel, .sentinel], laidTests := true, laidLooks := .later }
def ReplicaKnowsCardSaid : Prop := Claim7.holds Tryz.pinned (.plain (OpenSpec.ofChange replicaKnowsSpec)) replicaKnowsCard

/-- THE TIED CARD OF 'ploverlaw20.ReplicaPlays'. -/
def replicaPlaysCard : Claim7 := { stood := { row := replicaPlaysRow, standIns := [], harness := (true, "22c66596984cae993470b5fba66d2596608881599c358a02c28252f4a4335be3"), looks := true }, kinds := [], alts := [], laidByText := true, laidKinds := [.data, .data, .data, .sentinel, .sentinel], laidTests := true, laidLooks := .later }
def ReplicaPlaysCardSaid : Prop := Claim7.holds Tryz.pinned (.plain (OpenSpec.ofChange replicaPlaysSpec)) replicaPlaysCard

/-- THE SECOND FORM's CARD OF 'ploverlaw19.TableCovers'. -/
def tableCoversUptoCard : Claim7 := { stood := { row := tableCoversUptoRow, standIns := [], harness := (true, "22c66596984cae993470b5fba66d2596608881599c358a02c28252f4a4335be3"), looks := true }, kinds := [], alts := [], laidByText := true, laidKinds := [.data, .data, .data, .sentinel, .sentinel], laidTests := true, laidLooks := .later }
def TableCoversUptoCardSaid : Prop := Claim7.holds Tryz.pinned (.plain (OpenSpec.upto tableCoversSpec)) tableCoversUptoCard

/-- THE SECOND FORM's CARD OF 'ploverlaw19.TablePlays'. -/
def tablePlaysUptoCard : Claim7 := { stood := { row := tablePlaysUptoRow, standIns := [], harness := (true, "22c66596984cae993470b5fba66d2596608881599c358a02c28252f4a4335be3"), looks := true }, kinds := [], alts := [], laidByText := true, laidKinds := [.data, .data, .data, .sentinel, .sentinel], laidTests := true, laidLooks := .later }
def TablePlaysUptoCardSaid : Prop := Claim7.holds Tryz.pinned (.plain (OpenSpec.upto tablePlaysSpec)) tablePlaysUptoCard

/-- THE SECOND FORM's CARD OF 'ploverlaw20.ReplicaKnows'. -/
def replicaKnowsUptoCard : Claim7 := { stood := { row := replicaKnowsUptoRow, standIns := [], harness := (true, "22c66596984cae993470b5fba66d2596608881599c358a02c28252f4a4335be3"), looks := true }, kinds := [], alts := [], laidByText := true, laidKinds := [.data, .data, .data, .sentinel, .sentinel], laidTests := true, laidLooks := .later }
def ReplicaKnowsUptoCardSaid : Prop := Claim7.holds Tryz.pinned (.plain (OpenSpec.upto replicaKnowsSpec)) replicaKnowsUptoCard

/-- THE SECOND FORM's CARD OF 'ploverlaw20.ReplicaPlays'. -/
def replicaPlaysUptoCard : Claim7 := { stood := { row := replicaPlaysUptoRow, standIns := [], harness := (true, "22c66596984cae993470b5fba66d2596608881599c358a02c28252f4a4335be3"), looks := true }, kinds := [], alts := [], laidByText := true, laidKinds := [.data, .data, .data, .sentinel, .sentinel], laidTests := true, laidLooks := .later }
def ReplicaPlaysUptoCardSaid : Prop := Claim7.holds Tryz.pinned (.plain (OpenSpec.upto replicaPlaysSpec)) replicaPlaysUptoCard
end Rows
end Go.Proofs.YtbkomicjhfldmaaGreatDoor
