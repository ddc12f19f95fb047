/-
  DERIVED. GIVEN WITH THE SEED: THE CARDS: each row of YtbbjgdnbekoaeaaGreatDoorRows.lean that lists a variable, with what it lists TIED to the program's text (the seventh form; the later family's looks); each row that meets fmt, with fmt's text TOLD by the authors' own Lean function (tested against real Go, not proved from fmt's source: count such statements apart). THE CARD IS WHAT COUNTS. Prove the row's statement (the work); the ties are given (YtbbjgdnbekoaeaaGreatDoorTie.lean); close each card by the builder's one call (the guide's Derived/Test/ToyasCard.lean, 'card_holds'). Laid BY PROGRAM, IN A SANDBOX (cutbox-door.mjs). By AI agents, Wed Nov 11 2026. No macro, syntax, notation, axiom, sorry.
-/
import Derived.Test.YtbbjgdnbekoaeaaGreatDoorRows
import GoSem.ClaimSeven
namespace Go.Proofs.YtbbjgdnbekoaeaaGreatDoor
namespace Rows

/-- THE TIED CARD OF 'scarflaw04.LexWalks'. -/
def lexWalksCard : Claim7 := { stood := { row := lexWalksRow, standIns := [], harness := (true, "9f7f90500ad758f9c38b9c86b8c089570b342940a6820ae2fb99e18213828061"), looks := true }, kinds := [], alts := [], laidByText := true, laidKinds := [.data, .data, .data, .data, .sentinel, .sentinel, .pinned], laidTests := true, laidLooks := .later }
def LexWalksCardSaid : Prop := Claim7.holds Tryz.pinned (.plain (OpenSpec.ofChange lexWalksSpec)) lexWalksCard

/-- THE TIED CARD OF 'scarflaw04.LexTokens'. -/
def lexTokensCard : Claim7 := { stood := { row := lexTokensRow, standIns := [], harness := (true, "9f7f90500ad758f9c38b9c86b8c089570b342940a6820ae2fb99e18213828061"), looks := true }, kinds := [], alts := [], laidByText := true, laidKinds := [.data, .data, .data, .data, .sentinel, .sentinel, .pinned], laidTests := true, laidLooks := .later }
def LexTokensCardSaid : Prop := Claim7.holds Tryz.pinned (.plain (OpenSpec.ofChange lexTokensSpec)) lexTokensCard

/-- THE TIED CARD OF 'scarflaw10.YlineLines'. -/
def ylineLinesCard : Claim7 := { stood := { row := ylineLinesRow, standIns := [], harness := (true, "9f7f90500ad758f9c38b9c86b8c089570b342940a6820ae2fb99e18213828061"), looks := true }, kinds := [], alts := [], laidByText := true, laidKinds := [.data, .data, .data, .data, .sentinel, .sentinel, .pinned], laidTests := true, laidLooks := .later }
def YlineLinesCardSaid : Prop := Claim7.holds Tryz.pinned (.plain (OpenSpec.ofChange ylineLinesSpec)) ylineLinesCard

/-- THE TIED CARD OF 'scarflaw10.YlineQuotes'. -/
def ylineQuotesCard : Claim7 := { stood := { row := ylineQuotesRow, standIns := [], harness := (true, "9f7f90500ad758f9c38b9c86b8c089570b342940a6820ae2fb99e18213828061"), looks := true }, kinds := [], alts := [], laidByText := true, laidKinds := [.data, .data, .data, .data, .sentinel, .sentinel, .pinned], laidTests := true, laidLooks := .later }
def YlineQuotesCardSaid : Prop := Claim7.holds Tryz.pinned (.plain (OpenSpec.ofChange ylineQuotesSpec)) ylineQuotesCard

/-- THE SECOND FORM's CARD OF 'scarflaw04.LexWalks'. -/
def lexWalksUptoCard : Claim7 := { stood := { row := lexWalksUptoRow, standIns := [], harness := (true, "9f7f90500ad758f9c38b9c86b8c089570b342940a6820ae2fb99e18213828061"), looks := true }, kinds := [], alts := [], laidByText := true, laidKinds := [.data, .data, .data, .data, .sentinel, .sentinel, .pinned], laidTests := true, laidLooks := .later }
def LexWalksUptoCardSaid : Prop := Claim7.holds Tryz.pinned (.plain (OpenSpec.upto lexWalksSpec)) lexWalksUptoCard

/-- THE SECOND FORM's CARD OF 'scarflaw04.LexTokens'. -/
def lexTokensUptoCard : Claim7 := { stood := { row := lexTokensUptoRow, standIns := [], harness := (true, "9f7f90500ad758f9c38b9c86b8c089570b342940a6820ae2fb99e18213828061"), looks := true }, kinds := [], alts := [], laidByText := true, laidKinds := [.data, .data, .data, .data, .sentinel, .sentinel, .pinned], laidTests := true, laidLooks := .later }
def LexTokensUptoCardSaid : Prop := Claim7.holds Tryz.pinned (.plain (OpenSpec.upto lexTokensSpec)) lexTokensUptoCard

/-- THE SECOND FORM's CARD OF 'scarflaw10.YlineLines'. -/
def ylineLinesUptoCard : Claim7 := { stood := { row := ylineLinesUptoRow, standIns := [], harness := (true, "9f7f90500ad758f9c38b9c86b8c089570b342940a6820ae2fb99e18213828061"), looks := true }, kinds := [], alts := [], laidByText := true, laidKinds := [.data, .data, .data, .data, .sentinel, .sentinel, .pinned], laidTests := true, laidLooks := .later }
def YlineLinesUptoCardSaid : Prop := Claim7.holds Tryz.pinned (.plain (OpenSpec.upto ylineLinesSpec)) ylineLinesUptoCard

/-- THE SECOND FORM's CARD OF 'scarflaw10.YlineQuotes'. -/
def ylineQuotesUptoCard : Claim7 := { stood := { row := ylineQuotesUptoRow, standIns := [], harness := (true, "9f7f90500ad758f9c38b9c86b8c089570b342940a6820ae2fb99e18213828061"), looks := true }, kinds := [], alts := [], laidByText := true, laidKinds := [.data, .data, .data, .data, .sentinel, .sentinel, .pinned], laidTests := true, laidLooks := .later }
def YlineQuotesUptoCardSaid : Prop := Claim7.holds Tryz.pinned (.plain (OpenSpec.upto ylineQuotesSpec)) ylineQuotesUptoCard
end Rows
end Go.Proofs.YtbbjgdnbekoaeaaGreatDoor
