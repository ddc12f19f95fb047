/-
  DERIVED. GIVEN WITH THE SEED: THE CARDS: each row of YtbbjgdnbekoaeaaDoorRows.lean that lists a variable, with what it lists TIED to the program's text (the seventh form; the later family's looks); each row that meets fmt, with fmt's text TOLD by the authors' own Lean function (tested against real Go, not proved from fmt's source: count such statements apart). THE CARD IS WHAT COUNTS. Prove the row's statement (the work); the ties are given (YtbbjgdnbekoaeaaDoorTie.lean); close each card by the builder's one call (the guide's Derived/Test/ToyasCard.lean, 'card_holds'). Laid BY PROGRAM, IN A SANDBOX (cutbox-door.mjs). By AI agents, Wed Nov 11 2026. No macro, syntax, notation, axiom, sorry.
-/
import Derived.Test.YtbbjgdnbekoaeaaDoorRows
import GoSem.ClaimSeven
namespace Go.Proofs.YtbbjgdnbekoaeaaDoor
namespace Rows

/-- THE TIED CARD OF 'scarflaw04.LexWhole'. -/
def lexWholeCard : Claim7 := { stood := { row := lexWholeRow, standIns := [], harness := (true, "1c21a015cb0249a938c399f9deabb1ed4d2ce1153800633946c71cdc01b854f2"), looks := true }, kinds := [], alts := [], laidByText := true, laidKinds := [.data, .data, .data, .data, .sentinel, .sentinel, .pinned], laidTests := true, laidLooks := .later }
def LexWholeCardSaid : Prop := Claim7.holds Tryd.pinned (.plain (OpenSpec.ofChange lexWholeSpec)) lexWholeCard

/-- THE TIED CARD OF 'scarflaw04.LexJoins'. -/
def lexJoinsCard : Claim7 := { stood := { row := lexJoinsRow, standIns := [], harness := (true, "1c21a015cb0249a938c399f9deabb1ed4d2ce1153800633946c71cdc01b854f2"), looks := true }, kinds := [], alts := [], laidByText := true, laidKinds := [.data, .data, .data, .data, .sentinel, .sentinel, .pinned], laidTests := true, laidLooks := .later }
def LexJoinsCardSaid : Prop := Claim7.holds Tryd.pinned (.plain (OpenSpec.ofChange lexJoinsSpec)) lexJoinsCard

/-- THE TIED CARD OF 'scarflaw04.LexAlone'. -/
def lexAloneCard : Claim7 := { stood := { row := lexAloneRow, standIns := [], harness := (true, "1c21a015cb0249a938c399f9deabb1ed4d2ce1153800633946c71cdc01b854f2"), looks := true }, kinds := [], alts := [], laidByText := true, laidKinds := [.data, .data, .data, .data, .sentinel, .sentinel, .pinned], laidTests := true, laidLooks := .later }
def LexAloneCardSaid : Prop := Claim7.holds Tryd.pinned (.plain (OpenSpec.ofChange lexAloneSpec)) lexAloneCard

/-- THE TIED CARD OF 'scarflaw10.YlineBack'. -/
def ylineBackCard : Claim7 := { stood := { row := ylineBackRow, standIns := [], harness := (true, "1c21a015cb0249a938c399f9deabb1ed4d2ce1153800633946c71cdc01b854f2"), looks := true }, kinds := [], alts := [], laidByText := true, laidKinds := [.data, .data, .data, .data, .sentinel, .sentinel, .pinned], laidTests := true, laidLooks := .later }
def YlineBackCardSaid : Prop := Claim7.holds Tryd.pinned (.plain (OpenSpec.ofChange ylineBackSpec)) ylineBackCard

/-- THE TIED CARD OF 'scarflaw10.YlineParts'. -/
def ylinePartsCard : Claim7 := { stood := { row := ylinePartsRow, standIns := [], harness := (true, "1c21a015cb0249a938c399f9deabb1ed4d2ce1153800633946c71cdc01b854f2"), looks := true }, kinds := [], alts := [], laidByText := true, laidKinds := [.data, .data, .data, .data, .sentinel, .sentinel, .pinned], laidTests := true, laidLooks := .later }
def YlinePartsCardSaid : Prop := Claim7.holds Tryd.pinned (.plain (OpenSpec.ofChange ylinePartsSpec)) ylinePartsCard

/-- THE TIED CARD OF 'scarflaw10.YlineIndents'. -/
def ylineIndentsCard : Claim7 := { stood := { row := ylineIndentsRow, standIns := [], harness := (true, "1c21a015cb0249a938c399f9deabb1ed4d2ce1153800633946c71cdc01b854f2"), looks := true }, kinds := [], alts := [], laidByText := true, laidKinds := [.data, .data, .data, .data, .sentinel, .sentinel, .pinned], laidTests := true, laidLooks := .later }
def YlineIndentsCardSaid : Prop := Claim7.holds Tryd.pinned (.plain (OpenSpec.ofChange ylineIndentsSpec)) ylineIndentsCard

/-- THE SECOND FORM's CARD OF 'scarflaw04.LexWhole'. -/
def lexWholeUptoCard : Claim7 := { stood := { row := lexWholeUptoRow, standIns := [], harness := (true, "1c21a015cb0249a938c399f9deabb1ed4d2ce1153800633946c71cdc01b854f2"), looks := true }, kinds := [], alts := [], laidByText := true, laidKinds := [.data, .data, .data, .data, .sentinel, .sentinel, .pinned], laidTests := true, laidLooks := .later }
def LexWholeUptoCardSaid : Prop := Claim7.holds Tryd.pinned (.plain (OpenSpec.upto lexWholeSpec)) lexWholeUptoCard

/-- THE SECOND FORM's CARD OF 'scarflaw04.LexJoins'. -/
def lexJoinsUptoCard : Claim7 := { stood := { row := lexJoinsUptoRow, standIns := [], harness := (true, "1c21a015cb0249a938c399f9deabb1ed4d2ce1153800633946c71cdc01b854f2"), looks := true }, kinds := [], alts := [], laidByText := true, laidKinds := [.data, .data, .data, .data, .sentinel, .sentinel, .pinned], laidTests := true, laidLooks := .later }
def LexJoinsUptoCardSaid : Prop := Claim7.holds Tryd.pinned (.plain (OpenSpec.upto lexJoinsSpec)) lexJoinsUptoCard

/-- THE SECOND FORM's CARD OF 'scarflaw04.LexAlone'. -/
def lexAloneUptoCard : Claim7 := { stood := { row := lexAloneUptoRow, standIns := [], harness := (true, "1c21a015cb0249a938c399f9deabb1ed4d2ce1153800633946c71cdc01b854f2"), looks := true }, kinds := [], alts := [], laidByText := true, laidKinds := [.data, .data, .data, .data, .sentinel, .sentinel, .pinned], laidTests := true, laidLooks := .later }
def LexAloneUptoCardSaid : Prop := Claim7.holds Tryd.pinned (.plain (OpenSpec.upto lexAloneSpec)) lexAloneUptoCard

/-- THE SECOND FORM's CARD OF 'scarflaw10.YlineBack'. -/
def ylineBackUptoCard : Claim7 := { stood := { row := ylineBackUptoRow, standIns := [], harness := (true, "1c21a015cb0249a938c399f9deabb1ed4d2ce1153800633946c71cdc01b854f2"), looks := true }, kinds := [], alts := [], laidByText := true, laidKinds := [.data, .data, .data, .data, .sentinel, .sentinel, .pinned], laidTests := true, laidLooks := .later }
def YlineBackUptoCardSaid : Prop := Claim7.holds Tryd.pinned (.plain (OpenSpec.upto ylineBackSpec)) ylineBackUptoCard

/-- THE SECOND FORM's CARD OF 'scarflaw10.YlineParts'. -/
def ylinePartsUptoCard : Claim7 := { stood := { row := ylinePartsUptoRow, standIns := [], harness := (true, "1c21a015cb0249a938c399f9deabb1ed4d2ce1153800633946c71cdc01b854f2"), looks := true }, kinds := [], alts := [], laidByText := true, laidKinds := [.data, .data, .data, .data, .sentinel, .sentinel, .pinned], laidTests := true, laidLooks := .later }
def YlinePartsUptoCardSaid : Prop := Claim7.holds Tryd.pinned (.plain (OpenSpec.upto ylinePartsSpec)) ylinePartsUptoCard

/-- THE SECOND FORM's CARD OF 'scarflaw10.YlineIndents'. -/
def ylineIndentsUptoCard : Claim7 := { stood := { row := ylineIndentsUptoRow, standIns := [], harness := (true, "1c21a015cb0249a938c399f9deabb1ed4d2ce1153800633946c71cdc01b854f2"), looks := true }, kinds := [], alts := [], laidByText := true, laidKinds := [.data, .data, .data, .data, .sentinel, .sentinel, .pinned], laidTests := true, laidLooks := .later }
def YlineIndentsUptoCardSaid : Prop := Claim7.holds Tryd.pinned (.plain (OpenSpec.upto ylineIndentsSpec)) ylineIndentsUptoCard
end Rows
end Go.Proofs.YtbbjgdnbekoaeaaDoor
