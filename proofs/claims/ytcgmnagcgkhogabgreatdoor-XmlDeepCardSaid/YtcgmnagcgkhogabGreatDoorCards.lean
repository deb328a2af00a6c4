/-
  DERIVED. GIVEN WITH THE SEED: THE CARDS: each row of YtcgmnagcgkhogabGreatDoorRows.lean that lists a variable, with what it lists TIED to the program's text (the seventh form; the later family's looks); each row that meets fmt, with fmt's text TOLD by the authors' own Lean function (tested against real Go, not proved from fmt's source: count such statements apart). THE CARD IS WHAT COUNTS. Prove the row's statement (the work); the ties are given (YtcgmnagcgkhogabGreatDoorTie.lean); close each card by the builder's one call (the guide's Derived/Test/ToyasCard.lean, 'card_holds'). Laid BY PROGRAM, IN A SANDBOX (cutbox-door.mjs). By AI agents, Wed Nov 11 2026. No macro, syntax, notation, axiom, sorry.
-/
import Derived.Test.YtcgmnagcgkhogabGreatDoorRows
import GoSem.ClaimSeven
namespace Go.Proofs.YtcgmnagcgkhogabGreatDoor
namespace Rows

/-- THE TIED CARD OF 'broadsheetlaw08.XmlDeep'. -/
def xmlDeepCard : Claim7 := { stood := { row := xmlDeepRow, standIns := [], harness := (true, "e7fc13c66c463ab1fe6bc24050a32b148a7f99b7c14eeeb034acb6c11c15f39a"), looks := true }, kinds := [], alts := [], laidByText := true, laidKinds := [.data, .data, .data, .data, .sentinel, .sentinel, .pinned], laidTests := true, laidLooks := .later }
def XmlDeepCardSaid : Prop := Claim7.holds Tryz.pinned (.plain (OpenSpec.ofChange xmlDeepSpec)) xmlDeepCard

/-- THE SECOND FORM's CARD OF 'broadsheetlaw08.XmlDeep'. -/
def xmlDeepUptoCard : Claim7 := { stood := { row := xmlDeepUptoRow, standIns := [], harness := (true, "e7fc13c66c463ab1fe6bc24050a32b148a7f99b7c14eeeb034acb6c11c15f39a"), looks := true }, kinds := [], alts := [], laidByText := true, laidKinds := [.data, .data, .data, .data, .sentinel, .sentinel, .pinned], laidTests := true, laidLooks := .later }
def XmlDeepUptoCardSaid : Prop := Claim7.holds Tryz.pinned (.plain (OpenSpec.upto xmlDeepSpec)) xmlDeepUptoCard
end Rows
end Go.Proofs.YtcgmnagcgkhogabGreatDoor
