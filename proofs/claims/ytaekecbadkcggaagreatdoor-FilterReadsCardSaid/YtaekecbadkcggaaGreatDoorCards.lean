/-
  DERIVED. GIVEN WITH THE SEED: THE CARDS: each row of YtaekecbadkcggaaGreatDoorRows.lean that lists a variable, with what it lists TIED to the program's text (the seventh form; the later family's looks); each row that meets fmt, with fmt's text TOLD by the authors' own Lean function (tested against real Go, not proved from fmt's source: count such statements apart). THE CARD IS WHAT COUNTS. Prove the row's statement (the work); the ties are given (YtaekecbadkcggaaGreatDoorTie.lean); close each card by the builder's one call (the guide's Derived/Test/ToyasCard.lean, 'card_holds'). Laid BY PROGRAM, IN A SANDBOX (cutbox-door.mjs). By AI agents, Wed Nov 11 2026. No macro, syntax, notation, axiom, sorry.
-/
import Derived.Test.YtaekecbadkcggaaGreatDoorRows
import GoSem.ClaimSeven
namespace Go.Proofs.YtaekecbadkcggaaGreatDoor
namespace Rows

/-- THE TIED CARD OF 'ploverlaw07.FilterReads'. -/
def filterReadsCard : Claim7 := { stood := { row := filterReadsRow, standIns := [], harness := (true, "aba0fb4f039f3e83828e5d52fafb881e7129d9f5e2d8db9f6795dc0c90ca224c"), looks := true }, kinds := [], alts := [], laidByText := true, laidKinds := [.data, .data, .data, .sentinel, .sentinel], laidTests := true, laidLooks := .later }
def FilterReadsCardSaid : Prop := Claim7.holds Tryz.pinned (.plain (OpenSpec.ofChange filterReadsSpec)) filterReadsCard

/-- THE TIED CARD OF 'ploverlaw07.FilterTells'. -/
def filterTellsCard : Claim7 := { stood := { row := filterTellsRow, standIns := [], harness := (true, "aba0fb4f039f3e83828e5d52fafb881e7129d9f5e2d8db9f6795dc0c90ca224c"), looks := true }, kinds := [], alts := [], laidByText := true, laidKinds := [.data, .data, .data, .sentinel, .sentinel], laidTests := true, laidLooks := .later }
def FilterTellsCardSaid : Prop := Claim7.holds Tryz.pinned (.plain (OpenSpec.ofChange filterTellsSpec)) filterTellsCard

/-- THE SECOND FORM's CARD OF 'ploverlaw07.FilterReads'. -/
def filterReadsUptoCard : Claim7 := { stood := { row := filterReadsUptoRow, standIns := [], harness := (true, "aba0fb4f039f3e83828e5d52fafb881e7129d9f5e2d8db9f6795dc0c90ca224c"), looks := true }, kinds := [], alts := [], laidByText := true, laidKinds := [.data, .data, .data, .sentinel, .sentinel], laidTests := true, laidLooks := .later }
def FilterReadsUptoCardSaid : Prop := Claim7.holds Tryz.pinned (.plain (OpenSpec.upto filterReadsSpec)) filterReadsUptoCard

/-- THE SECOND FORM's CARD OF 'ploverlaw07.FilterTells'. -/
def filterTellsUptoCard : Claim7 := { stood := { row := filterTellsUptoRow, standIns := [], harness := (true, "aba0fb4f039f3e83828e5d52fafb881e7129d9f5e2d8db9f6795dc0c90ca224c"), looks := true }, kinds := [], alts := [], laidByText := true, laidKinds := [.data, .data, .data, .sentinel, .sentinel], laidTests := true, laidLooks := .later }
def FilterTellsUptoCardSaid : Prop := Claim7.holds Tryz.pinned (.plain (OpenSpec.upto filterTellsSpec)) filterTellsUptoCard
end Rows
end Go.Proofs.YtaekecbadkcggaaGreatDoor
