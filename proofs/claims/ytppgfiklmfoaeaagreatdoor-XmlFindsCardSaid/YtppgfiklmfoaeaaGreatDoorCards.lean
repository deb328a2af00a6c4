/-
  DERIVED. GIVEN WITH THE SEED: THE CARDS: each row of YtppgfiklmfoaeaaGreatDoorRows.lean that lists a variable, with what it lists TIED to the program's text (the seventh form; the later family's looks); each row that meets fmt, with fmt's text TOLD by the authors' own Lean function (tested against real Go, not proved from fmt's source: count such statements apart). THE CARD IS WHAT COUNTS. Prove the row's statement (the work); the ties are given (YtppgfiklmfoaeaaGreatDoorTie.lean); close each card by the builder's one call (the guide's Derived/Test/ToyasCard.lean, 'card_holds'). Laid BY PROGRAM, IN A SANDBOX (cutbox-door.mjs). By AI agents, Wed Nov 11 2026. No macro, syntax, notation, axiom, sorry.
-/
import Derived.Test.YtppgfiklmfoaeaaGreatDoorRows
import GoSem.ClaimSeven
namespace Go.Proofs.YtppgfiklmfoaeaaGreatDoor
namespace Rows

/-- THE TIED CARD OF 'broadsheetlaw07.JsonParses'. -/
def jsonParsesCard : Claim7 := { stood := { row := jsonParsesRow, standIns := [], harness := (true, "7870bdc83bee3b646f6f57da1704db3ba0380d812e40683fef1faa90216e6b47"), looks := true }, kinds := [], alts := [], laidByText := true, laidKinds := [.data, .data, .data, .data, .sentinel, .sentinel, .pinned], laidTests := true, laidLooks := .later }
def JsonParsesCardSaid : Prop := Claim7.holds Tryz.pinned (.plain (OpenSpec.ofChange jsonParsesSpec)) jsonParsesCard

/-- THE TIED CARD OF 'broadsheetlaw07.JsonDeep'. -/
def jsonDeepCard : Claim7 := { stood := { row := jsonDeepRow, standIns := [], harness := (true, "7870bdc83bee3b646f6f57da1704db3ba0380d812e40683fef1faa90216e6b47"), looks := true }, kinds := [], alts := [], laidByText := true, laidKinds := [.data, .data, .data, .data, .sentinel, .sentinel, .pinned], laidTests := true, laidLooks := .later }
def JsonDeepCardSaid : Prop := Claim7.holds Tryz.pinned (.plain (OpenSpec.ofChange jsonDeepSpec)) jsonDeepCard

/-- THE TIED CARD OF 'broadsheetlaw07.JsonPrints'. -/
def jsonPrintsCard : Claim7 := { stood := { row := jsonPrintsRow, standIns := [], harness := (true, "7870bdc83bee3b646f6f57da1704db3ba0380d812e40683fef1faa90216e6b47"), looks := true }, kinds := [], alts := [], laidByText := true, laidKinds := [.data, .data, .data, .data, .sentinel, .sentinel, .pinned], laidTests := true, laidLooks := .later }
def JsonPrintsCardSaid : Prop := Claim7.holds Tryz.pinned (.plain (OpenSpec.ofChange jsonPrintsSpec)) jsonPrintsCard

/-- THE TIED CARD OF 'broadsheetlaw07.JsonBlanks'. -/
def jsonBlanksCard : Claim7 := { stood := { row := jsonBlanksRow, standIns := [], harness := (true, "7870bdc83bee3b646f6f57da1704db3ba0380d812e40683fef1faa90216e6b47"), looks := true }, kinds := [], alts := [], laidByText := true, laidKinds := [.data, .data, .data, .data, .sentinel, .sentinel, .pinned], laidTests := true, laidLooks := .later }
def JsonBlanksCardSaid : Prop := Claim7.holds Tryz.pinned (.plain (OpenSpec.ofChange jsonBlanksSpec)) jsonBlanksCard

/-- THE TIED CARD OF 'broadsheetlaw07.JsonLists'. -/
def jsonListsCard : Claim7 := { stood := { row := jsonListsRow, standIns := [], harness := (true, "7870bdc83bee3b646f6f57da1704db3ba0380d812e40683fef1faa90216e6b47"), looks := true }, kinds := [], alts := [], laidByText := true, laidKinds := [.data, .data, .data, .data, .sentinel, .sentinel, .pinned], laidTests := true, laidLooks := .later }
def JsonListsCardSaid : Prop := Claim7.holds Tryz.pinned (.plain (OpenSpec.ofChange jsonListsSpec)) jsonListsCard

/-- THE TIED CARD OF 'broadsheetlaw07.JsonGets'. -/
def jsonGetsCard : Claim7 := { stood := { row := jsonGetsRow, standIns := [], harness := (true, "7870bdc83bee3b646f6f57da1704db3ba0380d812e40683fef1faa90216e6b47"), looks := true }, kinds := [], alts := [], laidByText := true, laidKinds := [.data, .data, .data, .data, .sentinel, .sentinel, .pinned], laidTests := true, laidLooks := .later }
def JsonGetsCardSaid : Prop := Claim7.holds Tryz.pinned (.plain (OpenSpec.ofChange jsonGetsSpec)) jsonGetsCard

/-- THE TIED CARD OF 'broadsheetlaw08.XmlParses'. -/
def xmlParsesCard : Claim7 := { stood := { row := xmlParsesRow, standIns := [], harness := (true, "7870bdc83bee3b646f6f57da1704db3ba0380d812e40683fef1faa90216e6b47"), looks := true }, kinds := [], alts := [], laidByText := true, laidKinds := [.data, .data, .data, .data, .sentinel, .sentinel, .pinned], laidTests := true, laidLooks := .later }
def XmlParsesCardSaid : Prop := Claim7.holds Tryz.pinned (.plain (OpenSpec.ofChange xmlParsesSpec)) xmlParsesCard

/-- THE TIED CARD OF 'broadsheetlaw08.XmlDeep'. -/
def xmlDeepCard : Claim7 := { stood := { row := xmlDeepRow, standIns := [], harness := (true, "7870bdc83bee3b646f6f57da1704db3ba0380d812e40683fef1faa90216e6b47"), looks := true }, kinds := [], alts := [], laidByText := true, laidKinds := [.data, .data, .data, .data, .sentinel, .sentinel, .pinned], laidTests := true, laidLooks := .later }
def XmlDeepCardSaid : Prop := Claim7.holds Tryz.pinned (.plain (OpenSpec.ofChange xmlDeepSpec)) xmlDeepCard

/-- THE TIED CARD OF 'broadsheetlaw08.XmlPrints'. -/
def xmlPrintsCard : Claim7 := { stood := { row := xmlPrintsRow, standIns := [], harness := (true, "7870bdc83bee3b646f6f57da1704db3ba0380d812e40683fef1faa90216e6b47"), looks := true }, kinds := [], alts := [], laidByText := true, laidKinds := [.data, .data, .data, .data, .sentinel, .sentinel, .pinned], laidTests := true, laidLooks := .later }
def XmlPrintsCardSaid : Prop := Claim7.holds Tryz.pinned (.plain (OpenSpec.ofChange xmlPrintsSpec)) xmlPrintsCard

/-- THE TIED CARD OF 'broadsheetlaw08.XmlFinds'. -/
def xmlFindsCard : Claim7 := { stood := { row := xmlFindsRow, standIns := [], harness := (true, "7870bdc83bee3b646f6f57da1704db3ba0380d812e40683fef1faa90216e6b47"), looks := true }, kinds := [], alts := [], laidByText := true, laidKinds := [.data, .data, .data, .data, .sentinel, .sentinel, .pinned], laidTests := true, laidLooks := .later }
def XmlFindsCardSaid : Prop := Claim7.holds Tryz.pinned (.plain (OpenSpec.ofChange xmlFindsSpec)) xmlFindsCard

/-- THE TIED CARD OF 'broadsheetlaw08.XmlRemarks'. -/
def xmlRemarksCard : Claim7 := { stood := { row := xmlRemarksRow, standIns := [], harness := (true, "7870bdc83bee3b646f6f57da1704db3ba0380d812e40683fef1faa90216e6b47"), looks := true }, kinds := [], alts := [], laidByText := true, laidKinds := [.data, .data, .data, .data, .sentinel, .sentinel, .pinned], laidTests := true, laidLooks := .later }
def XmlRemarksCardSaid : Prop := Claim7.holds Tryz.pinned (.plain (OpenSpec.ofChange xmlRemarksSpec)) xmlRemarksCard

/-- THE TIED CARD OF 'broadsheetlaw08.XmlTexts'. -/
def xmlTextsCard : Claim7 := { stood := { row := xmlTextsRow, standIns := [], harness := (true, "7870bdc83bee3b646f6f57da1704db3ba0380d812e40683fef1faa90216e6b47"), looks := true }, kinds := [], alts := [], laidByText := true, laidKinds := [.data, .data, .data, .data, .sentinel, .sentinel, .pinned], laidTests := true, laidLooks := .later }
def XmlTextsCardSaid : Prop := Claim7.holds Tryz.pinned (.plain (OpenSpec.ofChange xmlTextsSpec)) xmlTextsCard

/-- THE SECOND FORM's CARD OF 'broadsheetlaw07.JsonParses'. -/
def jsonParsesUptoCard : Claim7 := { stood := { row := jsonParsesUptoRow, standIns := [], harness := (true, "7870bdc83bee3b646f6f57da1704db3ba0380d812e40683fef1faa90216e6b47"), looks := true }, kinds := [], alts := [], laidByText := true, laidKinds := [.data, .data, .data, .data, .sentinel, .sentinel, .pinned], laidTests := true, laidLooks := .later }
def JsonParsesUptoCardSaid : Prop := Claim7.holds Tryz.pinned (.plain (OpenSpec.upto jsonParsesSpec)) jsonParsesUptoCard

/-- THE SECOND FORM's CARD OF 'broadsheetlaw07.JsonDeep'. -/
def jsonDeepUptoCard : Claim7 := { stood := { row := jsonDeepUptoRow, standIns := [], harness := (true, "7870bdc83bee3b646f6f57da1704db3ba0380d812e40683fef1faa90216e6b47"), looks := true }, kinds := [], alts := [], laidByText := true, laidKinds := [.data, .data, .data, .data, .sentinel, .sentinel, .pinned], laidTests := true, laidLooks := .later }
def JsonDeepUptoCardSaid : Prop := Claim7.holds Tryz.pinned (.plain (OpenSpec.upto jsonDeepSpec)) jsonDeepUptoCard

/-- THE SECOND FORM's CARD OF 'broadsheetlaw07.JsonPrints'. -/
def jsonPrintsUptoCard : Claim7 := { stood := { row := jsonPrintsUptoRow, standIns := [], harness := (true, "7870bdc83bee3b646f6f57da1704db3ba0380d812e40683fef1faa90216e6b47"), looks := true }, kinds := [], alts := [], laidByText := true, laidKinds := [.data, .data, .data, .data, .sentinel, .sentinel, .pinned], laidTests := true, laidLooks := .later }
def JsonPrintsUptoCardSaid : Prop := Claim7.holds Tryz.pinned (.plain (OpenSpec.upto jsonPrintsSpec)) jsonPrintsUptoCard

/-- THE SECOND FORM's CARD OF 'broadsheetlaw07.JsonBlanks'. -/
def jsonBlanksUptoCard : Claim7 := { stood := { row := jsonBlanksUptoRow, standIns := [], harness := (true, "7870bdc83bee3b646f6f57da1704db3ba0380d812e40683fef1faa90216e6b47"), looks := true }, kinds := [], alts := [], laidByText := true, laidKinds := [.data, .data, .data, .data, .sentinel, .sentinel, .pinned], laidTests := true, laidLooks := .later }
def JsonBlanksUptoCardSaid : Prop := Claim7.holds Tryz.pinned (.plain (OpenSpec.upto jsonBlanksSpec)) jsonBlanksUptoCard

/-- THE SECOND FORM's CARD OF 'broadsheetlaw07.JsonLists'. -/
def jsonListsUptoCard : Claim7 := { stood := { row := jsonListsUptoRow, standIns := [], harness := (true, "7870bdc83bee3b646f6f57da1704db3ba0380d812e40683fef1faa90216e6b47"), looks := true }, kinds := [], alts := [], laidByText := true, laidKinds := [.data, .data, .data, .data, .sentinel, .sentinel, .pinned], laidTests := true, laidLooks := .later }
def JsonListsUptoCardSaid : Prop := Claim7.holds Tryz.pinned (.plain (OpenSpec.upto jsonListsSpec)) jsonListsUptoCard

/-- THE SECOND FORM's CARD OF 'broadsheetlaw07.JsonGets'. -/
def jsonGetsUptoCard : Claim7 := { stood := { row := jsonGetsUptoRow, standIns := [], harness := (true, "7870bdc83bee3b646f6f57da1704db3ba0380d812e40683fef1faa90216e6b47"), looks := true }, kinds := [], alts := [], laidByText := true, laidKinds := [.data, .data, .data, .data, .sentinel, .sentinel, .pinned], laidTests := true, laidLooks := .later }
def JsonGetsUptoCardSaid : Prop := Claim7.holds Tryz.pinned (.plain (OpenSpec.upto jsonGetsSpec)) jsonGetsUptoCard

/-- THE SECOND FORM's CARD OF 'broadsheetlaw08.XmlParses'. -/
def xmlParsesUptoCard : Claim7 := { stood := { row := xmlParsesUptoRow, standIns := [], harness := (true, "7870bdc83bee3b646f6f57da1704db3ba0380d812e40683fef1faa90216e6b47"), looks := true }, kinds := [], alts := [], laidByText := true, laidKinds := [.data, .data, .data, .data, .sentinel, .sentinel, .pinned], laidTests := true, laidLooks := .later }
def XmlParsesUptoCardSaid : Prop := Claim7.holds Tryz.pinned (.plain (OpenSpec.upto xmlParsesSpec)) xmlParsesUptoCard

/-- THE SECOND FORM's CARD OF 'broadsheetlaw08.XmlDeep'. -/
def xmlDeepUptoCard : Claim7 := { stood := { row := xmlDeepUptoRow, standIns := [], harness := (true, "7870bdc83bee3b646f6f57da1704db3ba0380d812e40683fef1faa90216e6b47"), looks := true }, kinds := [], alts := [], laidByText := true, laidKinds := [.data, .data, .data, .data, .sentinel, .sentinel, .pinned], laidTests := true, laidLooks := .later }
def XmlDeepUptoCardSaid : Prop := Claim7.holds Tryz.pinned (.plain (OpenSpec.upto xmlDeepSpec)) xmlDeepUptoCard

/-- THE SECOND FORM's CARD OF 'broadsheetlaw08.XmlPrints'. -/
def xmlPrintsUptoCard : Claim7 := { stood := { row := xmlPrintsUptoRow, standIns := [], harness := (true, "7870bdc83bee3b646f6f57da1704db3ba0380d812e40683fef1faa90216e6b47"), looks := true }, kinds := [], alts := [], laidByText := true, laidKinds := [.data, .data, .data, .data, .sentinel, .sentinel, .pinned], laidTests := true, laidLooks := .later }
def XmlPrintsUptoCardSaid : Prop := Claim7.holds Tryz.pinned (.plain (OpenSpec.upto xmlPrintsSpec)) xmlPrintsUptoCard

/-- THE SECOND FORM's CARD OF 'broadsheetlaw08.XmlFinds'. -/
def xmlFindsUptoCard : Claim7 := { stood := { row := xmlFindsUptoRow, standIns := [], harness := (true, "7870bdc83bee3b646f6f57da1704db3ba0380d812e40683fef1faa90216e6b47"), looks := true }, kinds := [], alts := [], laidByText := true, laidKinds := [.data, .data, .data, .data, .sentinel, .sentinel, .pinned], laidTests := true, laidLooks := .later }
def XmlFindsUptoCardSaid : Prop := Claim7.holds Tryz.pinned (.plain (OpenSpec.upto xmlFindsSpec)) xmlFindsUptoCard

/-- THE SECOND FORM's CARD OF 'broadsheetlaw08.XmlRemarks'. -/
def xmlRemarksUptoCard : Claim7 := { stood := { row := xmlRemarksUptoRow, standIns := [], harness := (true, "7870bdc83bee3b646f6f57da1704db3ba0380d812e40683fef1faa90216e6b47"), looks := true }, kinds := [], alts := [], laidByText := true, laidKinds := [.data, .data, .data, .data, .sentinel, .sentinel, .pinned], laidTests := true, laidLooks := .later }
def XmlRemarksUptoCardSaid : Prop := Claim7.holds Tryz.pinned (.plain (OpenSpec.upto xmlRemarksSpec)) xmlRemarksUptoCard

/-- THE SECOND FORM's CARD OF 'broadsheetlaw08.XmlTexts'. -/
def xmlTextsUptoCard : Claim7 := { stood := { row := xmlTextsUptoRow, standIns := [], harness := (true, "7870bdc83bee3b646f6f57da1704db3ba0380d812e40683fef1faa90216e6b47"), looks := true }, kinds := [], alts := [], laidByText := true, laidKinds := [.data, .data, .data, .data, .sentinel, .sentinel, .pinned], laidTests := true, laidLooks := .later }
def XmlTextsUptoCardSaid : Prop := Claim7.holds Tryz.pinned (.plain (OpenSpec.upto xmlTextsSpec)) xmlTextsUptoCard
end Rows
end Go.Proofs.YtppgfiklmfoaeaaGreatDoor
