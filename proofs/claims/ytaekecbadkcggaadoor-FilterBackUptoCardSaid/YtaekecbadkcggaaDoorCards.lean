/-
  DERIVED. GIVEN WITH THE SEED: THE CARDS: each row of YtaekecbadkcggaaDoorRows.lean that lists a variable, with what it lists TIED to the program's text (the seventh form; the later family's looks); each row that meets fmt, with fmt's text TOLD by the authors' own Lean function (tested against real Go, not proved from fmt's source: count such statements apart). THE CARD IS WHAT COUNTS. Prove the row's statement (the work); the ties are given (YtaekecbadkcggaaDoorTie.lean); close each card by the builder's one call (the guide's Derived/Test/ToyasCard.lean, 'card_holds'). Laid BY PROGRAM, IN A SANDBOX (cutbox-door.mjs). By AI agents, Wed Nov 11 2026. No macro, syntax, notation, axiom, sorry.
-/
import Derived.Test.YtaekecbadkcggaaDoorRows
import GoSem.ClaimSeven
namespace Go.Proofs.YtaekecbadkcggaaDoor
namespace Rows

/-- THE TIED CARD OF 'ploverlaw06.TokenCuts'. -/
def tokenCutsCard : Claim7 := { stood := { row := tokenCutsRow, standIns := [], harness := (true, "f9b35608947aae294963b96bd8eb4457e371b253369a34d119daf4716782785e"), looks := true }, kinds := [], alts := [], laidByText := true, laidKinds := [.data, .data, .data, .sentinel, .sentinel], laidTests := true, laidLooks := .later }
def TokenCutsCardSaid : Prop := Claim7.holds Tryd.pinned (.plain (OpenSpec.ofChange tokenCutsSpec)) tokenCutsCard

/-- THE TIED CARD OF 'ploverlaw06.TokenOwn'. -/
def tokenOwnCard : Claim7 := { stood := { row := tokenOwnRow, standIns := [], harness := (true, "f9b35608947aae294963b96bd8eb4457e371b253369a34d119daf4716782785e"), looks := true }, kinds := [], alts := [], laidByText := true, laidKinds := [.data, .data, .data, .sentinel, .sentinel], laidTests := true, laidLooks := .later }
def TokenOwnCardSaid : Prop := Claim7.holds Tryd.pinned (.plain (OpenSpec.ofChange tokenOwnSpec)) tokenOwnCard

/-- THE TIED CARD OF 'ploverlaw07.FilterBack'. -/
def filterBackCard : Claim7 := { stood := { row := filterBackRow, standIns := [], harness := (true, "f9b35608947aae294963b96bd8eb4457e371b253369a34d119daf4716782785e"), looks := true }, kinds := [], alts := [], laidByText := true, laidKinds := [.data, .data, .data, .sentinel, .sentinel], laidTests := true, laidLooks := .later }
def FilterBackCardSaid : Prop := Claim7.holds Tryd.pinned (.plain (OpenSpec.ofChange filterBackSpec)) filterBackCard

/-- THE SECOND FORM's CARD OF 'ploverlaw06.TokenCuts'. -/
def tokenCutsUptoCard : Claim7 := { stood := { row := tokenCutsUptoRow, standIns := [], harness := (true, "f9b35608947aae294963b96bd8eb4457e371b253369a34d119daf4716782785e"), looks := true }, kinds := [], alts := [], laidByText := true, laidKinds := [.data, .data, .data, .sentinel, .sentinel], laidTests := true, laidLooks := .later }
def TokenCutsUptoCardSaid : Prop := Claim7.holds Tryd.pinned (.plain (OpenSpec.upto tokenCutsSpec)) tokenCutsUptoCard

/-- THE SECOND FORM's CARD OF 'ploverlaw06.TokenOwn'. -/
def tokenOwnUptoCard : Claim7 := { stood := { row := tokenOwnUptoRow, standIns := [], harness := (true, "f9b35608947aae294963b96bd8eb4457e371b253369a34d119daf4716782785e"), looks := true }, kinds := [], alts := [], laidByText := true, laidKinds := [.data, .data, .data, .sentinel, .sentinel], laidTests := true, laidLooks := .later }
def TokenOwnUptoCardSaid : Prop := Claim7.holds Tryd.pinned (.plain (OpenSpec.upto tokenOwnSpec)) tokenOwnUptoCard

/-- THE SECOND FORM's CARD OF 'ploverlaw07.FilterBack'. -/
def filterBackUptoCard : Claim7 := { stood := { row := filterBackUptoRow, standIns := [], harness := (true, "f9b35608947aae294963b96bd8eb4457e371b253369a34d119daf4716782785e"), looks := true }, kinds := [], alts := [], laidByText := true, laidKinds := [.data, .data, .data, .sentinel, .sentinel], laidTests := true, laidLooks := .later }
def FilterBackUptoCardSaid : Prop := Claim7.holds Tryd.pinned (.plain (OpenSpec.upto filterBackSpec)) filterBackUptoCard
end Rows
end Go.Proofs.YtaekecbadkcggaaDoor
