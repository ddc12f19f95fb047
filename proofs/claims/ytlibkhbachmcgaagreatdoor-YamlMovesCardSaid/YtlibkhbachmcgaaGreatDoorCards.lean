/-
  DERIVED. GIVEN WITH THE SEED: THE CARDS: each row of YtlibkhbachmcgaaGreatDoorRows.lean that lists a variable, with what it lists TIED to the program's text (the seventh form; the later family's looks); each row that meets fmt, with fmt's text TOLD by the authors' own Lean function (tested against real Go, not proved from fmt's source: count such statements apart). THE CARD IS WHAT COUNTS. Prove the row's statement (the work); the ties are given (YtlibkhbachmcgaaGreatDoorTie.lean); close each card by the builder's one call (the guide's Derived/Test/ToyasCard.lean, 'card_holds'). Laid BY PROGRAM, IN A SANDBOX (cutbox-door.mjs). By AI agents, Wed Nov 11 2026. No macro, syntax, notation, axiom, sorry.
-/
import Derived.Test.YtlibkhbachmcgaaGreatDoorRows
import GoSem.ClaimSeven
namespace Go.Proofs.YtlibkhbachmcgaaGreatDoor
namespace Rows

/-- THE TIED CARD OF 'scarflaw12.YamlParses'. -/
def yamlParsesCard : Claim7 := { stood := { row := yamlParsesRow, standIns := [], harness := (true, "7b9c8efa918c1e225d1fd7d1d16b05d1371da979fecc0a2553083481e632cb05"), looks := true }, kinds := [], alts := [], laidByText := true, laidKinds := [.data, .data, .data, .data, .sentinel, .sentinel, .pinned], laidTests := true, laidLooks := .later }
def YamlParsesCardSaid : Prop := Claim7.holds Tryz.pinned (.plain (OpenSpec.ofChange yamlParsesSpec)) yamlParsesCard

/-- THE TIED CARD OF 'scarflaw12.YamlNodes'. -/
def yamlNodesCard : Claim7 := { stood := { row := yamlNodesRow, standIns := [], harness := (true, "7b9c8efa918c1e225d1fd7d1d16b05d1371da979fecc0a2553083481e632cb05"), looks := true }, kinds := [], alts := [], laidByText := true, laidKinds := [.data, .data, .data, .data, .sentinel, .sentinel, .pinned], laidTests := true, laidLooks := .later }
def YamlNodesCardSaid : Prop := Claim7.holds Tryz.pinned (.plain (OpenSpec.ofChange yamlNodesSpec)) yamlNodesCard

/-- THE TIED CARD OF 'scarflaw12.YamlLines'. -/
def yamlLinesCard : Claim7 := { stood := { row := yamlLinesRow, standIns := [], harness := (true, "7b9c8efa918c1e225d1fd7d1d16b05d1371da979fecc0a2553083481e632cb05"), looks := true }, kinds := [], alts := [], laidByText := true, laidKinds := [.data, .data, .data, .data, .sentinel, .sentinel, .pinned], laidTests := true, laidLooks := .later }
def YamlLinesCardSaid : Prop := Claim7.holds Tryz.pinned (.plain (OpenSpec.ofChange yamlLinesSpec)) yamlLinesCard

/-- THE TIED CARD OF 'scarflaw12.YamlMoves'. -/
def yamlMovesCard : Claim7 := { stood := { row := yamlMovesRow, standIns := [], harness := (true, "7b9c8efa918c1e225d1fd7d1d16b05d1371da979fecc0a2553083481e632cb05"), looks := true }, kinds := [], alts := [], laidByText := true, laidKinds := [.data, .data, .data, .data, .sentinel, .sentinel, .pinned], laidTests := true, laidLooks := .later }
def YamlMovesCardSaid : Prop := Claim7.holds Tryz.pinned (.plain (OpenSpec.ofChange yamlMovesSpec)) yamlMovesCard

/-- THE TIED CARD OF 'scarflaw12.YamlValues'. -/
def yamlValuesCard : Claim7 := { stood := { row := yamlValuesRow, standIns := [], harness := (true, "7b9c8efa918c1e225d1fd7d1d16b05d1371da979fecc0a2553083481e632cb05"), looks := true }, kinds := [], alts := [], laidByText := true, laidKinds := [.data, .data, .data, .data, .sentinel, .sentinel, .pinned], laidTests := true, laidLooks := .later }
def YamlValuesCardSaid : Prop := Claim7.holds Tryz.pinned (.plain (OpenSpec.ofChange yamlValuesSpec)) yamlValuesCard

/-- THE TIED CARD OF 'scarflaw12.YamlDoubles'. -/
def yamlDoublesCard : Claim7 := { stood := { row := yamlDoublesRow, standIns := [], harness := (true, "7b9c8efa918c1e225d1fd7d1d16b05d1371da979fecc0a2553083481e632cb05"), looks := true }, kinds := [], alts := [], laidByText := true, laidKinds := [.data, .data, .data, .data, .sentinel, .sentinel, .pinned], laidTests := true, laidLooks := .later }
def YamlDoublesCardSaid : Prop := Claim7.holds Tryz.pinned (.plain (OpenSpec.ofChange yamlDoublesSpec)) yamlDoublesCard

/-- THE SECOND FORM's CARD OF 'scarflaw12.YamlParses'. -/
def yamlParsesUptoCard : Claim7 := { stood := { row := yamlParsesUptoRow, standIns := [], harness := (true, "7b9c8efa918c1e225d1fd7d1d16b05d1371da979fecc0a2553083481e632cb05"), looks := true }, kinds := [], alts := [], laidByText := true, laidKinds := [.data, .data, .data, .data, .sentinel, .sentinel, .pinned], laidTests := true, laidLooks := .later }
def YamlParsesUptoCardSaid : Prop := Claim7.holds Tryz.pinned (.plain (OpenSpec.upto yamlParsesSpec)) yamlParsesUptoCard

/-- THE SECOND FORM's CARD OF 'scarflaw12.YamlNodes'. -/
def yamlNodesUptoCard : Claim7 := { stood := { row := yamlNodesUptoRow, standIns := [], harness := (true, "7b9c8efa918c1e225d1fd7d1d16b05d1371da979fecc0a2553083481e632cb05"), looks := true }, kinds := [], alts := [], laidByText := true, laidKinds := [.data, .data, .data, .data, .sentinel, .sentinel, .pinned], laidTests := true, laidLooks := .later }
def YamlNodesUptoCardSaid : Prop := Claim7.holds Tryz.pinned (.plain (OpenSpec.upto yamlNodesSpec)) yamlNodesUptoCard

/-- THE SECOND FORM's CARD OF 'scarflaw12.YamlLines'. -/
def yamlLinesUptoCard : Claim7 := { stood := { row := yamlLinesUptoRow, standIns := [], harness := (true, "7b9c8efa918c1e225d1fd7d1d16b05d1371da979fecc0a2553083481e632cb05"), looks := true }, kinds := [], alts := [], laidByText := true, laidKinds := [.data, .data, .data, .data, .sentinel, .sentinel, .pinned], laidTests := true, laidLooks := .later }
def YamlLinesUptoCardSaid : Prop := Claim7.holds Tryz.pinned (.plain (OpenSpec.upto yamlLinesSpec)) yamlLinesUptoCard

/-- THE SECOND FORM's CARD OF 'scarflaw12.YamlMoves'. -/
def yamlMovesUptoCard : Claim7 := { stood := { row := yamlMovesUptoRow, standIns := [], harness := (true, "7b9c8efa918c1e225d1fd7d1d16b05d1371da979fecc0a2553083481e632cb05"), looks := true }, kinds := [], alts := [], laidByText := true, laidKinds := [.data, .data, .data, .data, .sentinel, .sentinel, .pinned], laidTests := true, laidLooks := .later }
def YamlMovesUptoCardSaid : Prop := Claim7.holds Tryz.pinned (.plain (OpenSpec.upto yamlMovesSpec)) yamlMovesUptoCard

/-- THE SECOND FORM's CARD OF 'scarflaw12.YamlValues'. -/
def yamlValuesUptoCard : Claim7 := { stood := { row := yamlValuesUptoRow, standIns := [], harness := (true, "7b9c8efa918c1e225d1fd7d1d16b05d1371da979fecc0a2553083481e632cb05"), looks := true }, kinds := [], alts := [], laidByText := true, laidKinds := [.data, .data, .data, .data, .sentinel, .sentinel, .pinned], laidTests := true, laidLooks := .later }
def YamlValuesUptoCardSaid : Prop := Claim7.holds Tryz.pinned (.plain (OpenSpec.upto yamlValuesSpec)) yamlValuesUptoCard

/-- THE SECOND FORM's CARD OF 'scarflaw12.YamlDoubles'. -/
def yamlDoublesUptoCard : Claim7 := { stood := { row := yamlDoublesUptoRow, standIns := [], harness := (true, "7b9c8efa918c1e225d1fd7d1d16b05d1371da979fecc0a2553083481e632cb05"), looks := true }, kinds := [], alts := [], laidByText := true, laidKinds := [.data, .data, .data, .data, .sentinel, .sentinel, .pinned], laidTests := true, laidLooks := .later }
def YamlDoublesUptoCardSaid : Prop := Claim7.holds Tryz.pinned (.plain (OpenSpec.upto yamlDoublesSpec)) yamlDoublesUptoCard
end Rows
end Go.Proofs.YtlibkhbachmcgaaGreatDoor
