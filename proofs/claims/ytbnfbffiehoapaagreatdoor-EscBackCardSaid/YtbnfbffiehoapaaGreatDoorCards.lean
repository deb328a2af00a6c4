/-
  DERIVED. GIVEN WITH THE SEED: THE CARDS: each row of YtbnfbffiehoapaaGreatDoorRows.lean that lists a variable, with what it lists TIED to the program's text (the seventh form; the later family's looks); each row that meets fmt, with fmt's text TOLD by the authors' own Lean function (tested against real Go, not proved from fmt's source: count such statements apart). THE CARD IS WHAT COUNTS. Prove the row's statement (the work); the ties are given (YtbnfbffiehoapaaGreatDoorTie.lean); close each card by the builder's one call (the guide's Derived/Test/ToyasCard.lean, 'card_holds'). Laid BY PROGRAM, IN A SANDBOX (cutbox-door.mjs). By AI agents, Wed Nov 11 2026. No macro, syntax, notation, axiom, sorry.
-/
import Derived.Test.YtbnfbffiehoapaaGreatDoorRows
import GoSem.ClaimSeven
namespace Go.Proofs.YtbnfbffiehoapaaGreatDoor
namespace Rows

/-- THE TIED CARD OF 'broadsheetlaw02.EscHtml'. -/
def escHtmlCard : Claim7 := { stood := { row := escHtmlRow, standIns := [], harness := (true, "43a6700a0d708fe3a1df59f10f7a37eab60c7a0f66ef868c2bff1ac67418ecc5"), looks := true }, kinds := [], alts := [], laidByText := true, laidKinds := [.data, .data, .data, .data, .sentinel, .sentinel, .pinned], laidTests := true, laidLooks := .later }
def EscHtmlCardSaid : Prop := Claim7.holds Tryz.pinned (.plain (OpenSpec.ofChange escHtmlSpec)) escHtmlCard

/-- THE TIED CARD OF 'broadsheetlaw02.EscUnhtml'. -/
def escUnhtmlCard : Claim7 := { stood := { row := escUnhtmlRow, standIns := [], harness := (true, "43a6700a0d708fe3a1df59f10f7a37eab60c7a0f66ef868c2bff1ac67418ecc5"), looks := true }, kinds := [], alts := [], laidByText := true, laidKinds := [.data, .data, .data, .data, .sentinel, .sentinel, .pinned], laidTests := true, laidLooks := .later }
def EscUnhtmlCardSaid : Prop := Claim7.holds Tryz.pinned (.plain (OpenSpec.ofChange escUnhtmlSpec)) escUnhtmlCard

/-- THE TIED CARD OF 'broadsheetlaw02.EscJson'. -/
def escJsonCard : Claim7 := { stood := { row := escJsonRow, standIns := [], harness := (true, "43a6700a0d708fe3a1df59f10f7a37eab60c7a0f66ef868c2bff1ac67418ecc5"), looks := true }, kinds := [], alts := [], laidByText := true, laidKinds := [.data, .data, .data, .data, .sentinel, .sentinel, .pinned], laidTests := true, laidLooks := .later }
def EscJsonCardSaid : Prop := Claim7.holds Tryz.pinned (.plain (OpenSpec.ofChange escJsonSpec)) escJsonCard

/-- THE TIED CARD OF 'broadsheetlaw02.EscUnjson'. -/
def escUnjsonCard : Claim7 := { stood := { row := escUnjsonRow, standIns := [], harness := (true, "43a6700a0d708fe3a1df59f10f7a37eab60c7a0f66ef868c2bff1ac67418ecc5"), looks := true }, kinds := [], alts := [], laidByText := true, laidKinds := [.data, .data, .data, .data, .sentinel, .sentinel, .pinned], laidTests := true, laidLooks := .later }
def EscUnjsonCardSaid : Prop := Claim7.holds Tryz.pinned (.plain (OpenSpec.ofChange escUnjsonSpec)) escUnjsonCard

/-- THE TIED CARD OF 'broadsheetlaw02.EscBack'. -/
def escBackCard : Claim7 := { stood := { row := escBackRow, standIns := [], harness := (true, "43a6700a0d708fe3a1df59f10f7a37eab60c7a0f66ef868c2bff1ac67418ecc5"), looks := true }, kinds := [], alts := [], laidByText := true, laidKinds := [.data, .data, .data, .data, .sentinel, .sentinel, .pinned], laidTests := true, laidLooks := .later }
def EscBackCardSaid : Prop := Claim7.holds Tryz.pinned (.plain (OpenSpec.ofChange escBackSpec)) escBackCard

/-- THE TIED CARD OF 'broadsheetlaw02.EscTwice'. -/
def escTwiceCard : Claim7 := { stood := { row := escTwiceRow, standIns := [], harness := (true, "43a6700a0d708fe3a1df59f10f7a37eab60c7a0f66ef868c2bff1ac67418ecc5"), looks := true }, kinds := [], alts := [], laidByText := true, laidKinds := [.data, .data, .data, .data, .sentinel, .sentinel, .pinned], laidTests := true, laidLooks := .later }
def EscTwiceCardSaid : Prop := Claim7.holds Tryz.pinned (.plain (OpenSpec.ofChange escTwiceSpec)) escTwiceCard

/-- THE SECOND FORM's CARD OF 'broadsheetlaw02.EscHtml'. -/
def escHtmlUptoCard : Claim7 := { stood := { row := escHtmlUptoRow, standIns := [], harness := (true, "43a6700a0d708fe3a1df59f10f7a37eab60c7a0f66ef868c2bff1ac67418ecc5"), looks := true }, kinds := [], alts := [], laidByText := true, laidKinds := [.data, .data, .data, .data, .sentinel, .sentinel, .pinned], laidTests := true, laidLooks := .later }
def EscHtmlUptoCardSaid : Prop := Claim7.holds Tryz.pinned (.plain (OpenSpec.upto escHtmlSpec)) escHtmlUptoCard

/-- THE SECOND FORM's CARD OF 'broadsheetlaw02.EscUnhtml'. -/
def escUnhtmlUptoCard : Claim7 := { stood := { row := escUnhtmlUptoRow, standIns := [], harness := (true, "43a6700a0d708fe3a1df59f10f7a37eab60c7a0f66ef868c2bff1ac67418ecc5"), looks := true }, kinds := [], alts := [], laidByText := true, laidKinds := [.data, .data, .data, .data, .sentinel, .sentinel, .pinned], laidTests := true, laidLooks := .later }
def EscUnhtmlUptoCardSaid : Prop := Claim7.holds Tryz.pinned (.plain (OpenSpec.upto escUnhtmlSpec)) escUnhtmlUptoCard

/-- THE SECOND FORM's CARD OF 'broadsheetlaw02.EscJson'. -/
def escJsonUptoCard : Claim7 := { stood := { row := escJsonUptoRow, standIns := [], harness := (true, "43a6700a0d708fe3a1df59f10f7a37eab60c7a0f66ef868c2bff1ac67418ecc5"), looks := true }, kinds := [], alts := [], laidByText := true, laidKinds := [.data, .data, .data, .data, .sentinel, .sentinel, .pinned], laidTests := true, laidLooks := .later }
def EscJsonUptoCardSaid : Prop := Claim7.holds Tryz.pinned (.plain (OpenSpec.upto escJsonSpec)) escJsonUptoCard

/-- THE SECOND FORM's CARD OF 'broadsheetlaw02.EscUnjson'. -/
def escUnjsonUptoCard : Claim7 := { stood := { row := escUnjsonUptoRow, standIns := [], harness := (true, "43a6700a0d708fe3a1df59f10f7a37eab60c7a0f66ef868c2bff1ac67418ecc5"), looks := true }, kinds := [], alts := [], laidByText := true, laidKinds := [.data, .data, .data, .data, .sentinel, .sentinel, .pinned], laidTests := true, laidLooks := .later }
def EscUnjsonUptoCardSaid : Prop := Claim7.holds Tryz.pinned (.plain (OpenSpec.upto escUnjsonSpec)) escUnjsonUptoCard

/-- THE SECOND FORM's CARD OF 'broadsheetlaw02.EscBack'. -/
def escBackUptoCard : Claim7 := { stood := { row := escBackUptoRow, standIns := [], harness := (true, "43a6700a0d708fe3a1df59f10f7a37eab60c7a0f66ef868c2bff1ac67418ecc5"), looks := true }, kinds := [], alts := [], laidByText := true, laidKinds := [.data, .data, .data, .data, .sentinel, .sentinel, .pinned], laidTests := true, laidLooks := .later }
def EscBackUptoCardSaid : Prop := Claim7.holds Tryz.pinned (.plain (OpenSpec.upto escBackSpec)) escBackUptoCard

/-- THE SECOND FORM's CARD OF 'broadsheetlaw02.EscTwice'. -/
def escTwiceUptoCard : Claim7 := { stood := { row := escTwiceUptoRow, standIns := [], harness := (true, "43a6700a0d708fe3a1df59f10f7a37eab60c7a0f66ef868c2bff1ac67418ecc5"), looks := true }, kinds := [], alts := [], laidByText := true, laidKinds := [.data, .data, .data, .data, .sentinel, .sentinel, .pinned], laidTests := true, laidLooks := .later }
def EscTwiceUptoCardSaid : Prop := Claim7.holds Tryz.pinned (.plain (OpenSpec.upto escTwiceSpec)) escTwiceUptoCard
end Rows
end Go.Proofs.YtbnfbffiehoapaaGreatDoor
