/-
  DERIVED. GIVEN WITH THE SEED: THE CARDS: each row of YtlglmomimhbeaaaGreatDoorRows.lean that lists a variable, with what it lists TIED to the program's text (the seventh form; the later family's looks); each row that meets fmt, with fmt's text TOLD by the authors' own Lean function (tested against real Go, not proved from fmt's source: count such statements apart). THE CARD IS WHAT COUNTS. Prove the row's statement (the work); the ties are given (YtlglmomimhbeaaaGreatDoorTie.lean); close each card by the builder's one call (the guide's Derived/Test/ToyasCard.lean, 'card_holds'). Laid BY PROGRAM, IN A SANDBOX (cutbox-door.mjs). By AI agents, Wed Nov 11 2026. No macro, syntax, notation, axiom, sorry.
-/
import Derived.Test.YtlglmomimhbeaaaGreatDoorRows
import GoSem.ClaimSeven
namespace Go.Proofs.YtlglmomimhbeaaaGreatDoor
namespace Rows

/-- THE TIED CARD OF 'broadsheetlaw03.DateMails'. -/
def dateMailsCard : Claim7 := { stood := { row := dateMailsRow, standIns := [], harness := (true, "b9f78ca89598f84a7306706bac59827e8bc9c505f4701a3efbfb52b08215dce6"), looks := true }, kinds := [], alts := [], laidByText := true, laidKinds := [.data, .data, .data, .data, .sentinel, .sentinel, .pinned], laidTests := true, laidLooks := .later }
def DateMailsCardSaid : Prop := Claim7.holds Tryz.pinned (.plain (OpenSpec.ofChange dateMailsSpec)) dateMailsCard

/-- THE TIED CARD OF 'broadsheetlaw03.DatePrints'. -/
def datePrintsCard : Claim7 := { stood := { row := datePrintsRow, standIns := [], harness := (true, "b9f78ca89598f84a7306706bac59827e8bc9c505f4701a3efbfb52b08215dce6"), looks := true }, kinds := [], alts := [], laidByText := true, laidKinds := [.data, .data, .data, .data, .sentinel, .sentinel, .pinned], laidTests := true, laidLooks := .later }
def DatePrintsCardSaid : Prop := Claim7.holds Tryz.pinned (.plain (OpenSpec.ofChange datePrintsSpec)) datePrintsCard

/-- THE SECOND FORM's CARD OF 'broadsheetlaw03.DateMails'. -/
def dateMailsUptoCard : Claim7 := { stood := { row := dateMailsUptoRow, standIns := [], harness := (true, "b9f78ca89598f84a7306706bac59827e8bc9c505f4701a3efbfb52b08215dce6"), looks := true }, kinds := [], alts := [], laidByText := true, laidKinds := [.data, .data, .data, .data, .sentinel, .sentinel, .pinned], laidTests := true, laidLooks := .later }
def DateMailsUptoCardSaid : Prop := Claim7.holds Tryz.pinned (.plain (OpenSpec.upto dateMailsSpec)) dateMailsUptoCard

/-- THE SECOND FORM's CARD OF 'broadsheetlaw03.DatePrints'. -/
def datePrintsUptoCard : Claim7 := { stood := { row := datePrintsUptoRow, standIns := [], harness := (true, "b9f78ca89598f84a7306706bac59827e8bc9c505f4701a3efbfb52b08215dce6"), looks := true }, kinds := [], alts := [], laidByText := true, laidKinds := [.data, .data, .data, .data, .sentinel, .sentinel, .pinned], laidTests := true, laidLooks := .later }
def DatePrintsUptoCardSaid : Prop := Claim7.holds Tryz.pinned (.plain (OpenSpec.upto datePrintsSpec)) datePrintsUptoCard
end Rows
end Go.Proofs.YtlglmomimhbeaaaGreatDoor
