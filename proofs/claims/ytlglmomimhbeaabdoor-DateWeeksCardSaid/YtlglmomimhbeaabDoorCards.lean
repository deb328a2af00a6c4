/-
  DERIVED. GIVEN WITH THE SEED: THE CARDS: each row of YtlglmomimhbeaabDoorRows.lean that lists a variable, with what it lists TIED to the program's text (the seventh form; the later family's looks); each row that meets fmt, with fmt's text TOLD by the authors' own Lean function (tested against real Go, not proved from fmt's source: count such statements apart). THE CARD IS WHAT COUNTS. Prove the row's statement (the work); the ties are given (YtlglmomimhbeaabDoorTie.lean); close each card by the builder's one call (the guide's Derived/Test/ToyasCard.lean, 'card_holds'). Laid BY PROGRAM, IN A SANDBOX (cutbox-door.mjs). By AI agents, Wed Nov 11 2026. No macro, syntax, notation, axiom, sorry.
-/
import Derived.Test.YtlglmomimhbeaabDoorRows
import GoSem.ClaimSeven
namespace Go.Proofs.YtlglmomimhbeaabDoor
namespace Rows

/-- THE TIED CARD OF 'broadsheetlaw03.DateWeeks'. -/
def dateWeeksCard : Claim7 := { stood := { row := dateWeeksRow, standIns := [], harness := (true, "4cebf97ff196fa8e468426e521b1e6700ce37cb1ab11a7a419d89e6b3c456bd7"), looks := true }, kinds := [], alts := [], laidByText := true, laidKinds := [.data, .data, .data, .data, .sentinel, .sentinel, .pinned], laidTests := true, laidLooks := .later }
def DateWeeksCardSaid : Prop := Claim7.holds Tryd.pinned (.plain (OpenSpec.ofChange dateWeeksSpec)) dateWeeksCard

/-- THE SECOND FORM's CARD OF 'broadsheetlaw03.DateWeeks'. -/
def dateWeeksUptoCard : Claim7 := { stood := { row := dateWeeksUptoRow, standIns := [], harness := (true, "4cebf97ff196fa8e468426e521b1e6700ce37cb1ab11a7a419d89e6b3c456bd7"), looks := true }, kinds := [], alts := [], laidByText := true, laidKinds := [.data, .data, .data, .data, .sentinel, .sentinel, .pinned], laidTests := true, laidLooks := .later }
def DateWeeksUptoCardSaid : Prop := Claim7.holds Tryd.pinned (.plain (OpenSpec.upto dateWeeksSpec)) dateWeeksUptoCard
end Rows
end Go.Proofs.YtlglmomimhbeaabDoor
