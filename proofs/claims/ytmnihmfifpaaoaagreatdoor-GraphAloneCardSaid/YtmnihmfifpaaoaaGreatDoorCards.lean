/-
  DERIVED. GIVEN WITH THE SEED: THE CARDS: each row of YtmnihmfifpaaoaaGreatDoorRows.lean that lists a variable, with what it lists TIED to the program's text (the seventh form; the later family's looks); each row that meets fmt, with fmt's text TOLD by the authors' own Lean function (tested against real Go, not proved from fmt's source: count such statements apart). THE CARD IS WHAT COUNTS. Prove the row's statement (the work); the ties are given (YtmnihmfifpaaoaaGreatDoorTie.lean); close each card by the builder's one call (the guide's Derived/Test/ToyasCard.lean, 'card_holds'). Laid BY PROGRAM, IN A SANDBOX (cutbox-door.mjs). By AI agents, Wed Nov 11 2026. No macro, syntax, notation, axiom, sorry.
-/
import Derived.Test.YtmnihmfifpaaoaaGreatDoorRows
import GoSem.ClaimSeven
namespace Go.Proofs.YtmnihmfifpaaoaaGreatDoor
namespace Rows

/-- THE TIED CARD OF 'broadsheetlaw21.GraphAlone'. -/
def graphAloneCard : Claim7 := { stood := { row := graphAloneRow, standIns := [], harness := (true, "2b0a5ceb671cb59c6a5df6698bec20f8022fefed579e0870643e81f34b3e8fec"), looks := true }, kinds := [], alts := [], laidByText := true, laidKinds := [.data, .data, .data, .data, .sentinel, .sentinel, .pinned], laidTests := true, laidLooks := .later }
def GraphAloneCardSaid : Prop := Claim7.holds Tryz.pinned (.plain (OpenSpec.ofChange graphAloneSpec)) graphAloneCard

/-- THE SECOND FORM's CARD OF 'broadsheetlaw21.GraphAlone'. -/
def graphAloneUptoCard : Claim7 := { stood := { row := graphAloneUptoRow, standIns := [], harness := (true, "2b0a5ceb671cb59c6a5df6698bec20f8022fefed579e0870643e81f34b3e8fec"), looks := true }, kinds := [], alts := [], laidByText := true, laidKinds := [.data, .data, .data, .data, .sentinel, .sentinel, .pinned], laidTests := true, laidLooks := .later }
def GraphAloneUptoCardSaid : Prop := Claim7.holds Tryz.pinned (.plain (OpenSpec.upto graphAloneSpec)) graphAloneUptoCard
end Rows
end Go.Proofs.YtmnihmfifpaaoaaGreatDoor
