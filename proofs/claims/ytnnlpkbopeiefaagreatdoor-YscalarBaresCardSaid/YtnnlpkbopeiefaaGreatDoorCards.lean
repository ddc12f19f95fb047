/-
  DERIVED. GIVEN WITH THE SEED: THE CARDS: each row of YtnnlpkbopeiefaaGreatDoorRows.lean that lists a variable, with what it lists TIED to the program's text (the seventh form; the later family's looks); each row that meets fmt, with fmt's text TOLD by the authors' own Lean function (tested against real Go, not proved from fmt's source: count such statements apart). THE CARD IS WHAT COUNTS. Prove the row's statement (the work); the ties are given (YtnnlpkbopeiefaaGreatDoorTie.lean); close each card by the builder's one call (the guide's Derived/Test/ToyasCard.lean, 'card_holds'). Laid BY PROGRAM, IN A SANDBOX (cutbox-door.mjs). By AI agents, Wed Nov 11 2026. No macro, syntax, notation, axiom, sorry.
-/
import Derived.Test.YtnnlpkbopeiefaaGreatDoorRows
import GoSem.ClaimSeven
namespace Go.Proofs.YtnnlpkbopeiefaaGreatDoor
namespace Rows

/-- THE TIED CARD OF 'scarflaw14.YprintLines'. -/
def yprintLinesCard : Claim7 := { stood := { row := yprintLinesRow, standIns := [], harness := (true, "b849b2ea7f2603e5a6d34182d572959467b58750929bdccdc7ba37892fbb3737"), looks := true }, kinds := [], alts := [], laidByText := true, laidKinds := [.data, .data, .data, .data, .sentinel, .sentinel, .pinned], laidTests := true, laidLooks := .later }
def YprintLinesCardSaid : Prop := Claim7.holds Tryz.pinned (.plain (OpenSpec.ofChange yprintLinesSpec)) yprintLinesCard

/-- THE TIED CARD OF 'scarflaw14.YprintWrites'. -/
def yprintWritesCard : Claim7 := { stood := { row := yprintWritesRow, standIns := [], harness := (true, "b849b2ea7f2603e5a6d34182d572959467b58750929bdccdc7ba37892fbb3737"), looks := true }, kinds := [], alts := [], laidByText := true, laidKinds := [.data, .data, .data, .data, .sentinel, .sentinel, .pinned], laidTests := true, laidLooks := .later }
def YprintWritesCardSaid : Prop := Claim7.holds Tryz.pinned (.plain (OpenSpec.ofChange yprintWritesSpec)) yprintWritesCard

/-- THE TIED CARD OF 'scarflaw14.YprintParts'. -/
def yprintPartsCard : Claim7 := { stood := { row := yprintPartsRow, standIns := [], harness := (true, "b849b2ea7f2603e5a6d34182d572959467b58750929bdccdc7ba37892fbb3737"), looks := true }, kinds := [], alts := [], laidByText := true, laidKinds := [.data, .data, .data, .data, .sentinel, .sentinel, .pinned], laidTests := true, laidLooks := .later }
def YprintPartsCardSaid : Prop := Claim7.holds Tryz.pinned (.plain (OpenSpec.ofChange yprintPartsSpec)) yprintPartsCard

/-- THE TIED CARD OF 'scarflaw14.YprintNests'. -/
def yprintNestsCard : Claim7 := { stood := { row := yprintNestsRow, standIns := [], harness := (true, "b849b2ea7f2603e5a6d34182d572959467b58750929bdccdc7ba37892fbb3737"), looks := true }, kinds := [], alts := [], laidByText := true, laidKinds := [.data, .data, .data, .data, .sentinel, .sentinel, .pinned], laidTests := true, laidLooks := .later }
def YprintNestsCardSaid : Prop := Claim7.holds Tryz.pinned (.plain (OpenSpec.ofChange yprintNestsSpec)) yprintNestsCard

/-- THE TIED CARD OF 'scarflaw11.YscalarWrites'. -/
def yscalarWritesCard : Claim7 := { stood := { row := yscalarWritesRow, standIns := [], harness := (true, "b849b2ea7f2603e5a6d34182d572959467b58750929bdccdc7ba37892fbb3737"), looks := true }, kinds := [], alts := [], laidByText := true, laidKinds := [.data, .data, .data, .data, .sentinel, .sentinel, .pinned], laidTests := true, laidLooks := .later }
def YscalarWritesCardSaid : Prop := Claim7.holds Tryz.pinned (.plain (OpenSpec.ofChange yscalarWritesSpec)) yscalarWritesCard

/-- THE TIED CARD OF 'scarflaw11.YscalarReads'. -/
def yscalarReadsCard : Claim7 := { stood := { row := yscalarReadsRow, standIns := [], harness := (true, "b849b2ea7f2603e5a6d34182d572959467b58750929bdccdc7ba37892fbb3737"), looks := true }, kinds := [], alts := [], laidByText := true, laidKinds := [.data, .data, .data, .data, .sentinel, .sentinel, .pinned], laidTests := true, laidLooks := .later }
def YscalarReadsCardSaid : Prop := Claim7.holds Tryz.pinned (.plain (OpenSpec.ofChange yscalarReadsSpec)) yscalarReadsCard

/-- THE TIED CARD OF 'scarflaw11.YscalarBack'. -/
def yscalarBackCard : Claim7 := { stood := { row := yscalarBackRow, standIns := [], harness := (true, "b849b2ea7f2603e5a6d34182d572959467b58750929bdccdc7ba37892fbb3737"), looks := true }, kinds := [], alts := [], laidByText := true, laidKinds := [.data, .data, .data, .data, .sentinel, .sentinel, .pinned], laidTests := true, laidLooks := .later }
def YscalarBackCardSaid : Prop := Claim7.holds Tryz.pinned (.plain (OpenSpec.ofChange yscalarBackSpec)) yscalarBackCard

/-- THE TIED CARD OF 'scarflaw11.YscalarBares'. -/
def yscalarBaresCard : Claim7 := { stood := { row := yscalarBaresRow, standIns := [], harness := (true, "b849b2ea7f2603e5a6d34182d572959467b58750929bdccdc7ba37892fbb3737"), looks := true }, kinds := [], alts := [], laidByText := true, laidKinds := [.data, .data, .data, .data, .sentinel, .sentinel, .pinned], laidTests := true, laidLooks := .later }
def YscalarBaresCardSaid : Prop := Claim7.holds Tryz.pinned (.plain (OpenSpec.ofChange yscalarBaresSpec)) yscalarBaresCard

/-- THE TIED CARD OF 'scarflaw11.YscalarLines'. -/
def yscalarLinesCard : Claim7 := { stood := { row := yscalarLinesRow, standIns := [], harness := (true, "b849b2ea7f2603e5a6d34182d572959467b58750929bdccdc7ba37892fbb3737"), looks := true }, kinds := [], alts := [], laidByText := true, laidKinds := [.data, .data, .data, .data, .sentinel, .sentinel, .pinned], laidTests := true, laidLooks := .later }
def YscalarLinesCardSaid : Prop := Claim7.holds Tryz.pinned (.plain (OpenSpec.ofChange yscalarLinesSpec)) yscalarLinesCard

/-- THE TIED CARD OF 'scarflaw14.YprintBack'. -/
def yprintBackCard : Claim7 := { stood := { row := yprintBackRow, standIns := [], harness := (true, "b849b2ea7f2603e5a6d34182d572959467b58750929bdccdc7ba37892fbb3737"), looks := true }, kinds := [], alts := [], laidByText := true, laidKinds := [.data, .data, .data, .data, .sentinel, .sentinel, .pinned], laidTests := true, laidLooks := .later }
def YprintBackCardSaid : Prop := Claim7.holds Tryz.pinned (.plain (OpenSpec.ofChange yprintBackSpec)) yprintBackCard

/-- THE SECOND FORM's CARD OF 'scarflaw14.YprintLines'. -/
def yprintLinesUptoCard : Claim7 := { stood := { row := yprintLinesUptoRow, standIns := [], harness := (true, "b849b2ea7f2603e5a6d34182d572959467b58750929bdccdc7ba37892fbb3737"), looks := true }, kinds := [], alts := [], laidByText := true, laidKinds := [.data, .data, .data, .data, .sentinel, .sentinel, .pinned], laidTests := true, laidLooks := .later }
def YprintLinesUptoCardSaid : Prop := Claim7.holds Tryz.pinned (.plain (OpenSpec.upto yprintLinesSpec)) yprintLinesUptoCard

/-- THE SECOND FORM's CARD OF 'scarflaw14.YprintWrites'. -/
def yprintWritesUptoCard : Claim7 := { stood := { row := yprintWritesUptoRow, standIns := [], harness := (true, "b849b2ea7f2603e5a6d34182d572959467b58750929bdccdc7ba37892fbb3737"), looks := true }, kinds := [], alts := [], laidByText := true, laidKinds := [.data, .data, .data, .data, .sentinel, .sentinel, .pinned], laidTests := true, laidLooks := .later }
def YprintWritesUptoCardSaid : Prop := Claim7.holds Tryz.pinned (.plain (OpenSpec.upto yprintWritesSpec)) yprintWritesUptoCard

/-- THE SECOND FORM's CARD OF 'scarflaw14.YprintParts'. -/
def yprintPartsUptoCard : Claim7 := { stood := { row := yprintPartsUptoRow, standIns := [], harness := (true, "b849b2ea7f2603e5a6d34182d572959467b58750929bdccdc7ba37892fbb3737"), looks := true }, kinds := [], alts := [], laidByText := true, laidKinds := [.data, .data, .data, .data, .sentinel, .sentinel, .pinned], laidTests := true, laidLooks := .later }
def YprintPartsUptoCardSaid : Prop := Claim7.holds Tryz.pinned (.plain (OpenSpec.upto yprintPartsSpec)) yprintPartsUptoCard

/-- THE SECOND FORM's CARD OF 'scarflaw14.YprintNests'. -/
def yprintNestsUptoCard : Claim7 := { stood := { row := yprintNestsUptoRow, standIns := [], harness := (true, "b849b2ea7f2603e5a6d34182d572959467b58750929bdccdc7ba37892fbb3737"), looks := true }, kinds := [], alts := [], laidByText := true, laidKinds := [.data, .data, .data, .data, .sentinel, .sentinel, .pinned], laidTests := true, laidLooks := .later }
def YprintNestsUptoCardSaid : Prop := Claim7.holds Tryz.pinned (.plain (OpenSpec.upto yprintNestsSpec)) yprintNestsUptoCard

/-- THE SECOND FORM's CARD OF 'scarflaw11.YscalarWrites'. -/
def yscalarWritesUptoCard : Claim7 := { stood := { row := yscalarWritesUptoRow, standIns := [], harness := (true, "b849b2ea7f2603e5a6d34182d572959467b58750929bdccdc7ba37892fbb3737"), looks := true }, kinds := [], alts := [], laidByText := true, laidKinds := [.data, .data, .data, .data, .sentinel, .sentinel, .pinned], laidTests := true, laidLooks := .later }
def YscalarWritesUptoCardSaid : Prop := Claim7.holds Tryz.pinned (.plain (OpenSpec.upto yscalarWritesSpec)) yscalarWritesUptoCard

/-- THE SECOND FORM's CARD OF 'scarflaw11.YscalarReads'. -/
def yscalarReadsUptoCard : Claim7 := { stood := { row := yscalarReadsUptoRow, standIns := [], harness := (true, "b849b2ea7f2603e5a6d34182d572959467b58750929bdccdc7ba37892fbb3737"), looks := true }, kinds := [], alts := [], laidByText := true, laidKinds := [.data, .data, .data, .data, .sentinel, .sentinel, .pinned], laidTests := true, laidLooks := .later }
def YscalarReadsUptoCardSaid : Prop := Claim7.holds Tryz.pinned (.plain (OpenSpec.upto yscalarReadsSpec)) yscalarReadsUptoCard

/-- THE SECOND FORM's CARD OF 'scarflaw11.YscalarBack'. -/
def yscalarBackUptoCard : Claim7 := { stood := { row := yscalarBackUptoRow, standIns := [], harness := (true, "b849b2ea7f2603e5a6d34182d572959467b58750929bdccdc7ba37892fbb3737"), looks := true }, kinds := [], alts := [], laidByText := true, laidKinds := [.data, .data, .data, .data, .sentinel, .sentinel, .pinned], laidTests := true, laidLooks := .later }
def YscalarBackUptoCardSaid : Prop := Claim7.holds Tryz.pinned (.plain (OpenSpec.upto yscalarBackSpec)) yscalarBackUptoCard

/-- THE SECOND FORM's CARD OF 'scarflaw11.YscalarBares'. -/
def yscalarBaresUptoCard : Claim7 := { stood := { row := yscalarBaresUptoRow, standIns := [], harness := (true, "b849b2ea7f2603e5a6d34182d572959467b58750929bdccdc7ba37892fbb3737"), looks := true }, kinds := [], alts := [], laidByText := true, laidKinds := [.data, .data, .data, .data, .sentinel, .sentinel, .pinned], laidTests := true, laidLooks := .later }
def YscalarBaresUptoCardSaid : Prop := Claim7.holds Tryz.pinned (.plain (OpenSpec.upto yscalarBaresSpec)) yscalarBaresUptoCard

/-- THE SECOND FORM's CARD OF 'scarflaw11.YscalarLines'. -/
def yscalarLinesUptoCard : Claim7 := { stood := { row := yscalarLinesUptoRow, standIns := [], harness := (true, "b849b2ea7f2603e5a6d34182d572959467b58750929bdccdc7ba37892fbb3737"), looks := true }, kinds := [], alts := [], laidByText := true, laidKinds := [.data, .data, .data, .data, .sentinel, .sentinel, .pinned], laidTests := true, laidLooks := .later }
def YscalarLinesUptoCardSaid : Prop := Claim7.holds Tryz.pinned (.plain (OpenSpec.upto yscalarLinesSpec)) yscalarLinesUptoCard

/-- THE SECOND FORM's CARD OF 'scarflaw14.YprintBack'. -/
def yprintBackUptoCard : Claim7 := { stood := { row := yprintBackUptoRow, standIns := [], harness := (true, "b849b2ea7f2603e5a6d34182d572959467b58750929bdccdc7ba37892fbb3737"), looks := true }, kinds := [], alts := [], laidByText := true, laidKinds := [.data, .data, .data, .data, .sentinel, .sentinel, .pinned], laidTests := true, laidLooks := .later }
def YprintBackUptoCardSaid : Prop := Claim7.holds Tryz.pinned (.plain (OpenSpec.upto yprintBackSpec)) yprintBackUptoCard
end Rows
end Go.Proofs.YtnnlpkbopeiefaaGreatDoor
