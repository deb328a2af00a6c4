/-
  DERIVED. GIVEN WITH THE SEED: THE CARDS: each row of YtcgmnagcgkhogaaGreatDoorRows.lean that lists a variable, with what it lists TIED to the program's text (the seventh form; the later family's looks); each row that meets fmt, with fmt's text TOLD by the authors' own Lean function (tested against real Go, not proved from fmt's source: count such statements apart). THE CARD IS WHAT COUNTS. Prove the row's statement (the work); the ties are given (YtcgmnagcgkhogaaGreatDoorTie.lean); close each card by the builder's one call (the guide's Derived/Test/ToyasCard.lean, 'card_holds'). Laid BY PROGRAM, IN A SANDBOX (cutbox-door.mjs). By AI agents, Wed Nov 11 2026. No macro, syntax, notation, axiom, sorry.
-/
import Derived.Test.YtcgmnagcgkhogaaGreatDoorRows
import GoSem.ClaimSeven
namespace Go.Proofs.YtcgmnagcgkhogaaGreatDoor
namespace Rows

/-- THE TIED CARD OF 'broadsheetlaw08.XmlParses'. -/
def xmlParsesCard : Claim7 := { stood := { row := xmlParsesRow, standIns := [], harness := (true, "d75377a8cf23cc2ee4105da01940f118e733d721c3e21fdd2c86af1189b9a064"), looks := true }, kinds := [], alts := [], laidByText := true, laidKinds := [.data, .data, .data, .data, .sentinel, .sentinel, .pinned], laidTests := true, laidLooks := .later }
def XmlParsesCardSaid : Prop := Claim7.holds Tryz.pinned (.plain (OpenSpec.ofChange xmlParsesSpec)) xmlParsesCard

/-- THE SECOND FORM's CARD OF 'broadsheetlaw08.XmlParses'. -/
def xmlParsesUptoCard : Claim7 := { stood := { row := xmlParsesUptoRow, standIns := [], harness := (true, "d75377a8cf23cc2ee4105da01940f118e733d721c3e21fdd2c86af1189b9a064"), looks := true }, kinds := [], alts := [], laidByText := true, laidKinds := [.data, .data, .data, .data, .sentinel, .sentinel, .pinned], laidTests := true, laidLooks := .later }
def XmlParsesUptoCardSaid : Prop := Claim7.holds Tryz.pinned (.plain (OpenSpec.upto xmlParsesSpec)) xmlParsesUptoCard
end Rows
end Go.Proofs.YtcgmnagcgkhogaaGreatDoor
