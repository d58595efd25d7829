/-
  DERIVED. GIVEN WITH THE SEED: THE CARDS: each row of YtbhbabimfkiibaaDoorRows.lean that lists a variable, with what it lists TIED to the program's text (the seventh form; the later family's looks); each row that meets fmt, with fmt's text TOLD by the authors' own Lean function (tested against real Go, not proved from fmt's source: count such statements apart). THE CARD IS WHAT COUNTS. Prove the row's statement (the work); the ties are given (YtbhbabimfkiibaaDoorTie.lean); close each card by the builder's one call (the guide's Derived/Test/ToyasCard.lean, 'card_holds'). Laid BY PROGRAM, IN A SANDBOX (cutbox-door.mjs). By AI agents, Wed Nov 11 2026. No macro, syntax, notation, axiom, sorry.
-/
import Derived.Test.YtbhbabimfkiibaaDoorRows
import GoSem.ClaimSeven
namespace Go.Proofs.YtbhbabimfkiibaaDoor
namespace Rows

/-- THE TIED CARD OF 'couplanttop.TopScannedAnew'. -/
def topScannedAnewCard : Claim7 := { stood := { row := topScannedAnewRow, standIns := [], harness := (true, "586528bda36f13b55abb3d2313c9bafcbd7db98ec84979028e01129bd4a8212c"), looks := false }, kinds := [], alts := [], laidByText := true, laidKinds := [.data, .data], laidTests := true, laidLooks := .later }
def TopScannedAnewCardSaid : Prop := Claim7.holds Tryd.pinned (.plain (OpenSpec.ofChange topScannedAnewSpec)) topScannedAnewCard

/-- THE SECOND FORM's CARD OF 'couplanttop.TopScannedAnew'. -/
def topScannedAnewUptoCard : Claim7 := { stood := { row := topScannedAnewUptoRow, standIns := [], harness := (true, "586528bda36f13b55abb3d2313c9bafcbd7db98ec84979028e01129bd4a8212c"), looks := false }, kinds := [], alts := [], laidByText := true, laidKinds := [.data, .data], laidTests := true, laidLooks := .later }
def TopScannedAnewUptoCardSaid : Prop := Claim7.holds Tryd.pinned (.plain (OpenSpec.upto topScannedAnewSpec)) topScannedAnewUptoCard
end Rows
end Go.Proofs.YtbhbabimfkiibaaDoor
