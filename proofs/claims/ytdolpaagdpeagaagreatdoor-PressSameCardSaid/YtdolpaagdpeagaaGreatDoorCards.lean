/-
  DERIVED. GIVEN WITH THE SEED: THE CARDS: each row of YtdolpaagdpeagaaGreatDoorRows.lean that lists a variable, with what it lists TIED to the program's text (the seventh form; the later family's looks); each row that meets fmt, with fmt's text TOLD by the authors' own Lean function (tested against real Go, not proved from fmt's source: count such statements apart). THE CARD IS WHAT COUNTS. Prove the row's statement (the work); the ties are given (YtdolpaagdpeagaaGreatDoorTie.lean); close each card by the builder's one call (the guide's Derived/Test/ToyasCard.lean, 'card_holds'). Laid BY PROGRAM, IN A SANDBOX (cutbox-door.mjs). By AI agents, Wed Nov 11 2026. No macro, syntax, notation, axiom, sorry.
-/
import Derived.Test.YtdolpaagdpeagaaGreatDoorRows
import GoSem.ClaimSeven
namespace Go.Proofs.YtdolpaagdpeagaaGreatDoor
namespace Rows

/-- THE TIED CARD OF 'broadsheetlaw23.PressRooms'. -/
def pressRoomsCard : Claim7 := { stood := { row := pressRoomsRow, standIns := [], harness := (true, "55dc292966a28ec2386012308b6be8b47c9c77e9970193822aa9d7e7b6985924"), looks := true }, kinds := [], alts := [], laidByText := true, laidKinds := [.data, .data, .data, .sentinel, .sentinel], laidTests := true, laidLooks := .later }
def PressRoomsCardSaid : Prop := Claim7.holds Tryz.pinned (.plain (OpenSpec.ofChange pressRoomsSpec)) pressRoomsCard

/-- THE TIED CARD OF 'broadsheetlaw23.PressCrashes'. -/
def pressCrashesCard : Claim7 := { stood := { row := pressCrashesRow, standIns := [], harness := (true, "55dc292966a28ec2386012308b6be8b47c9c77e9970193822aa9d7e7b6985924"), looks := true }, kinds := [], alts := [], laidByText := true, laidKinds := [.data, .data, .data, .sentinel, .sentinel], laidTests := true, laidLooks := .later }
def PressCrashesCardSaid : Prop := Claim7.holds Tryz.pinned (.plain (OpenSpec.ofChange pressCrashesSpec)) pressCrashesCard

/-- THE TIED CARD OF 'broadsheetlaw23.PressTidies'. -/
def pressTidiesCard : Claim7 := { stood := { row := pressTidiesRow, standIns := [], harness := (true, "55dc292966a28ec2386012308b6be8b47c9c77e9970193822aa9d7e7b6985924"), looks := true }, kinds := [], alts := [], laidByText := true, laidKinds := [.data, .data, .data, .sentinel, .sentinel], laidTests := true, laidLooks := .later }
def PressTidiesCardSaid : Prop := Claim7.holds Tryz.pinned (.plain (OpenSpec.ofChange pressTidiesSpec)) pressTidiesCard

/-- THE TIED CARD OF 'broadsheetlaw23.PressSame'. -/
def pressSameCard : Claim7 := { stood := { row := pressSameRow, standIns := [], harness := (true, "55dc292966a28ec2386012308b6be8b47c9c77e9970193822aa9d7e7b6985924"), looks := true }, kinds := [], alts := [], laidByText := true, laidKinds := [.data, .data, .data, .sentinel, .sentinel], laidTests := true, laidLooks := .later }
def PressSameCardSaid : Prop := Claim7.holds Tryz.pinned (.plain (OpenSpec.ofChange pressSameSpec)) pressSameCard

/-- THE SECOND FORM's CARD OF 'broadsheetlaw23.PressRooms'. -/
def pressRoomsUptoCard : Claim7 := { stood := { row := pressRoomsUptoRow, standIns := [], harness := (true, "55dc292966a28ec2386012308b6be8b47c9c77e9970193822aa9d7e7b6985924"), looks := true }, kinds := [], alts := [], laidByText := true, laidKinds := [.data, .data, .data, .sentinel, .sentinel], laidTests := true, laidLooks := .later }
def PressRoomsUptoCardSaid : Prop := Claim7.holds Tryz.pinned (.plain (OpenSpec.upto pressRoomsSpec)) pressRoomsUptoCard

/-- THE SECOND FORM's CARD OF 'broadsheetlaw23.PressCrashes'. -/
def pressCrashesUptoCard : Claim7 := { stood := { row := pressCrashesUptoRow, standIns := [], harness := (true, "55dc292966a28ec2386012308b6be8b47c9c77e9970193822aa9d7e7b6985924"), looks := true }, kinds := [], alts := [], laidByText := true, laidKinds := [.data, .data, .data, .sentinel, .sentinel], laidTests := true, laidLooks := .later }
def PressCrashesUptoCardSaid : Prop := Claim7.holds Tryz.pinned (.plain (OpenSpec.upto pressCrashesSpec)) pressCrashesUptoCard

/-- THE SECOND FORM's CARD OF 'broadsheetlaw23.PressTidies'. -/
def pressTidiesUptoCard : Claim7 := { stood := { row := pressTidiesUptoRow, standIns := [], harness := (true, "55dc292966a28ec2386012308b6be8b47c9c77e9970193822aa9d7e7b6985924"), looks := true }, kinds := [], alts := [], laidByText := true, laidKinds := [.data, .data, .data, .sentinel, .sentinel], laidTests := true, laidLooks := .later }
def PressTidiesUptoCardSaid : Prop := Claim7.holds Tryz.pinned (.plain (OpenSpec.upto pressTidiesSpec)) pressTidiesUptoCard

/-- THE SECOND FORM's CARD OF 'broadsheetlaw23.PressSame'. -/
def pressSameUptoCard : Claim7 := { stood := { row := pressSameUptoRow, standIns := [], harness := (true, "55dc292966a28ec2386012308b6be8b47c9c77e9970193822aa9d7e7b6985924"), looks := true }, kinds := [], alts := [], laidByText := true, laidKinds := [.data, .data, .data, .sentinel, .sentinel], laidTests := true, laidLooks := .later }
def PressSameUptoCardSaid : Prop := Claim7.holds Tryz.pinned (.plain (OpenSpec.upto pressSameSpec)) pressSameUptoCard
end Rows
end Go.Proofs.YtdolpaagdpeagaaGreatDoor
