/-
  DERIVED. GIVEN WITH THE SEED: THE CARDS: each row of YtfhjncbdgjlcoaaGreatDoorRows.lean that lists a variable, with what it lists TIED to the program's text (the seventh form; the later family's looks); each row that meets fmt, with fmt's text TOLD by the authors' own Lean function (tested against real Go, not proved from fmt's source: count such statements apart). THE CARD IS WHAT COUNTS. Prove the row's statement (the work); the ties are given (YtfhjncbdgjlcoaaGreatDoorTie.lean); close each card by the builder's one call (the guide's Derived/Test/ToyasCard.lean, 'card_holds'). Laid BY PROGRAM, IN A SANDBOX (cutbox-door.mjs). By AI agents, Wed Nov 11 2026. No macro, syntax, notation, axiom, sorry.
-/
import Derived.Test.YtfhjncbdgjlcoaaGreatDoorRows
import GoSem.ClaimSeven
namespace Go.Proofs.YtfhjncbdgjlcoaaGreatDoor
namespace Rows

/-- THE TIED CARD OF 'scarflaw12.YamlParses'. -/
def yamlParsesCard : Claim7 := { stood := { row := yamlParsesRow, standIns := [], harness := (true, "2612854a0e07a7ca3754d36d7682beb4e304579df2de8b4536992cd0d663d8e5"), looks := true }, kinds := [], alts := [], laidByText := true, laidKinds := [.data, .data, .data, .data, .sentinel, .sentinel, .pinned], laidTests := true, laidLooks := .later }
def YamlParsesCardSaid : Prop := Claim7.holds Tryz.pinned (.plain (OpenSpec.ofChange yamlParsesSpec)) yamlParsesCard

/-- THE TIED CARD OF 'scarflaw12.YamlNodes'. -/
def yamlNodesCard : Claim7 := { stood := { row := yamlNodesRow, standIns := [], harness := (true, "2612854a0e07a7ca3754d36d7682beb4e304579df2de8b4536992cd0d663d8e5"), looks := true }, kinds := [], alts := [], laidByText := true, laidKinds := [.data, .data, .data, .data, .sentinel, .sentinel, .pinned], laidTests := true, laidLooks := .later }
def YamlNodesCardSaid : Prop := Claim7.holds Tryz.pinned (.plain (OpenSpec.ofChange yamlNodesSpec)) yamlNodesCard

/-- THE SECOND FORM's CARD OF 'scarflaw12.YamlParses'. -/
def yamlParsesUptoCard : Claim7 := { stood := { row := yamlParsesUptoRow, standIns := [], harness := (true, "2612854a0e07a7ca3754d36d7682beb4e304579df2de8b4536992cd0d663d8e5"), looks := true }, kinds := [], alts := [], laidByText := true, laidKinds := [.data, .data, .data, .data, .sentinel, .sentinel, .pinned], laidTests := true, laidLooks := .later }
def YamlParsesUptoCardSaid : Prop := Claim7.holds Tryz.pinned (.plain (OpenSpec.upto yamlParsesSpec)) yamlParsesUptoCard

/-- THE SECOND FORM's CARD OF 'scarflaw12.YamlNodes'. -/
def yamlNodesUptoCard : Claim7 := { stood := { row := yamlNodesUptoRow, standIns := [], harness := (true, "2612854a0e07a7ca3754d36d7682beb4e304579df2de8b4536992cd0d663d8e5"), looks := true }, kinds := [], alts := [], laidByText := true, laidKinds := [.data, .data, .data, .data, .sentinel, .sentinel, .pinned], laidTests := true, laidLooks := .later }
def YamlNodesUptoCardSaid : Prop := Claim7.holds Tryz.pinned (.plain (OpenSpec.upto yamlNodesSpec)) yamlNodesUptoCard
end Rows
end Go.Proofs.YtfhjncbdgjlcoaaGreatDoor
