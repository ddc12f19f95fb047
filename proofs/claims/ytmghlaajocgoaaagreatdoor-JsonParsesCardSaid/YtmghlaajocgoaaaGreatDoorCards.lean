/-
  DERIVED. GIVEN WITH THE SEED: THE CARDS: each row of YtmghlaajocgoaaaGreatDoorRows.lean that lists a variable, with what it lists TIED to the program's text (the seventh form; the later family's looks); each row that meets fmt, with fmt's text TOLD by the authors' own Lean function (tested against real Go, not proved from fmt's source: count such statements apart). THE CARD IS WHAT COUNTS. Prove the row's statement (the work); the ties are given (YtmghlaajocgoaaaGreatDoorTie.lean); close each card by the builder's one call (the guide's Derived/Test/ToyasCard.lean, 'card_holds'). Laid BY PROGRAM, IN A SANDBOX (cutbox-door.mjs). By AI agents, Wed Nov 11 2026. No macro, syntax, notation, axiom, sorry.
-/
import Derived.Test.YtmghlaajocgoaaaGreatDoorRows
import GoSem.ClaimSeven
namespace Go.Proofs.YtmghlaajocgoaaaGreatDoor
namespace Rows

/-- THE TIED CARD OF 'scarflaw05.JsonParses'. -/
def jsonParsesCard : Claim7 := { stood := { row := jsonParsesRow, standIns := [], harness := (true, "2c5e10707b71fb7a67e5856ccc2db5b27077ad53fe6258f79ff3aaa0a7e04666"), looks := true }, kinds := [], alts := [], laidByText := true, laidKinds := [.data, .data, .data, .data, .sentinel, .sentinel, .pinned], laidTests := true, laidLooks := .later }
def JsonParsesCardSaid : Prop := Claim7.holds Tryz.pinned (.plain (OpenSpec.ofChange jsonParsesSpec)) jsonParsesCard

/-- THE TIED CARD OF 'scarflaw05.JsonWhole'. -/
def jsonWholeCard : Claim7 := { stood := { row := jsonWholeRow, standIns := [], harness := (true, "2c5e10707b71fb7a67e5856ccc2db5b27077ad53fe6258f79ff3aaa0a7e04666"), looks := true }, kinds := [], alts := [], laidByText := true, laidKinds := [.data, .data, .data, .data, .sentinel, .sentinel, .pinned], laidTests := true, laidLooks := .later }
def JsonWholeCardSaid : Prop := Claim7.holds Tryz.pinned (.plain (OpenSpec.ofChange jsonWholeSpec)) jsonWholeCard

/-- THE TIED CARD OF 'scarflaw05.JsonSpaces'. -/
def jsonSpacesCard : Claim7 := { stood := { row := jsonSpacesRow, standIns := [], harness := (true, "2c5e10707b71fb7a67e5856ccc2db5b27077ad53fe6258f79ff3aaa0a7e04666"), looks := true }, kinds := [], alts := [], laidByText := true, laidKinds := [.data, .data, .data, .data, .sentinel, .sentinel, .pinned], laidTests := true, laidLooks := .later }
def JsonSpacesCardSaid : Prop := Claim7.holds Tryz.pinned (.plain (OpenSpec.ofChange jsonSpacesSpec)) jsonSpacesCard

/-- THE TIED CARD OF 'scarflaw05.JsonNests'. -/
def jsonNestsCard : Claim7 := { stood := { row := jsonNestsRow, standIns := [], harness := (true, "2c5e10707b71fb7a67e5856ccc2db5b27077ad53fe6258f79ff3aaa0a7e04666"), looks := true }, kinds := [], alts := [], laidByText := true, laidKinds := [.data, .data, .data, .data, .sentinel, .sentinel, .pinned], laidTests := true, laidLooks := .later }
def JsonNestsCardSaid : Prop := Claim7.holds Tryz.pinned (.plain (OpenSpec.ofChange jsonNestsSpec)) jsonNestsCard

/-- THE TIED CARD OF 'scarflaw05.JsonAlone'. -/
def jsonAloneCard : Claim7 := { stood := { row := jsonAloneRow, standIns := [], harness := (true, "2c5e10707b71fb7a67e5856ccc2db5b27077ad53fe6258f79ff3aaa0a7e04666"), looks := true }, kinds := [], alts := [], laidByText := true, laidKinds := [.data, .data, .data, .data, .sentinel, .sentinel, .pinned], laidTests := true, laidLooks := .later }
def JsonAloneCardSaid : Prop := Claim7.holds Tryz.pinned (.plain (OpenSpec.ofChange jsonAloneSpec)) jsonAloneCard

/-- THE TIED CARD OF 'scarflaw05.JsonPaths'. -/
def jsonPathsCard : Claim7 := { stood := { row := jsonPathsRow, standIns := [], harness := (true, "2c5e10707b71fb7a67e5856ccc2db5b27077ad53fe6258f79ff3aaa0a7e04666"), looks := true }, kinds := [], alts := [], laidByText := true, laidKinds := [.data, .data, .data, .data, .sentinel, .sentinel, .pinned], laidTests := true, laidLooks := .later }
def JsonPathsCardSaid : Prop := Claim7.holds Tryz.pinned (.plain (OpenSpec.ofChange jsonPathsSpec)) jsonPathsCard

/-- THE SECOND FORM's CARD OF 'scarflaw05.JsonParses'. -/
def jsonParsesUptoCard : Claim7 := { stood := { row := jsonParsesUptoRow, standIns := [], harness := (true, "2c5e10707b71fb7a67e5856ccc2db5b27077ad53fe6258f79ff3aaa0a7e04666"), looks := true }, kinds := [], alts := [], laidByText := true, laidKinds := [.data, .data, .data, .data, .sentinel, .sentinel, .pinned], laidTests := true, laidLooks := .later }
def JsonParsesUptoCardSaid : Prop := Claim7.holds Tryz.pinned (.plain (OpenSpec.upto jsonParsesSpec)) jsonParsesUptoCard

/-- THE SECOND FORM's CARD OF 'scarflaw05.JsonWhole'. -/
def jsonWholeUptoCard : Claim7 := { stood := { row := jsonWholeUptoRow, standIns := [], harness := (true, "2c5e10707b71fb7a67e5856ccc2db5b27077ad53fe6258f79ff3aaa0a7e04666"), looks := true }, kinds := [], alts := [], laidByText := true, laidKinds := [.data, .data, .data, .data, .sentinel, .sentinel, .pinned], laidTests := true, laidLooks := .later }
def JsonWholeUptoCardSaid : Prop := Claim7.holds Tryz.pinned (.plain (OpenSpec.upto jsonWholeSpec)) jsonWholeUptoCard

/-- THE SECOND FORM's CARD OF 'scarflaw05.JsonSpaces'. -/
def jsonSpacesUptoCard : Claim7 := { stood := { row := jsonSpacesUptoRow, standIns := [], harness := (true, "2c5e10707b71fb7a67e5856ccc2db5b27077ad53fe6258f79ff3aaa0a7e04666"), looks := true }, kinds := [], alts := [], laidByText := true, laidKinds := [.data, .data, .data, .data, .sentinel, .sentinel, .pinned], laidTests := true, laidLooks := .later }
def JsonSpacesUptoCardSaid : Prop := Claim7.holds Tryz.pinned (.plain (OpenSpec.upto jsonSpacesSpec)) jsonSpacesUptoCard

/-- THE SECOND FORM's CARD OF 'scarflaw05.JsonNests'. -/
def jsonNestsUptoCard : Claim7 := { stood := { row := jsonNestsUptoRow, standIns := [], harness := (true, "2c5e10707b71fb7a67e5856ccc2db5b27077ad53fe6258f79ff3aaa0a7e04666"), looks := true }, kinds := [], alts := [], laidByText := true, laidKinds := [.data, .data, .data, .data, .sentinel, .sentinel, .pinned], laidTests := true, laidLooks := .later }
def JsonNestsUptoCardSaid : Prop := Claim7.holds Tryz.pinned (.plain (OpenSpec.upto jsonNestsSpec)) jsonNestsUptoCard

/-- THE SECOND FORM's CARD OF 'scarflaw05.JsonAlone'. -/
def jsonAloneUptoCard : Claim7 := { stood := { row := jsonAloneUptoRow, standIns := [], harness := (true, "2c5e10707b71fb7a67e5856ccc2db5b27077ad53fe6258f79ff3aaa0a7e04666"), looks := true }, kinds := [], alts := [], laidByText := true, laidKinds := [.data, .data, .data, .data, .sentinel, .sentinel, .pinned], laidTests := true, laidLooks := .later }
def JsonAloneUptoCardSaid : Prop := Claim7.holds Tryz.pinned (.plain (OpenSpec.upto jsonAloneSpec)) jsonAloneUptoCard

/-- THE SECOND FORM's CARD OF 'scarflaw05.JsonPaths'. -/
def jsonPathsUptoCard : Claim7 := { stood := { row := jsonPathsUptoRow, standIns := [], harness := (true, "2c5e10707b71fb7a67e5856ccc2db5b27077ad53fe6258f79ff3aaa0a7e04666"), looks := true }, kinds := [], alts := [], laidByText := true, laidKinds := [.data, .data, .data, .data, .sentinel, .sentinel, .pinned], laidTests := true, laidLooks := .later }
def JsonPathsUptoCardSaid : Prop := Claim7.holds Tryz.pinned (.plain (OpenSpec.upto jsonPathsSpec)) jsonPathsUptoCard
end Rows
end Go.Proofs.YtmghlaajocgoaaaGreatDoor
