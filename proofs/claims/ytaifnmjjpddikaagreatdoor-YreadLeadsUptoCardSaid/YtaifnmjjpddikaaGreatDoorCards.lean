/-
  DERIVED. GIVEN WITH THE SEED: THE CARDS: each row of YtaifnmjjpddikaaGreatDoorRows.lean that lists a variable, with what it lists TIED to the program's text (the seventh form; the later family's looks); each row that meets fmt, with fmt's text TOLD by the authors' own Lean function (tested against real Go, not proved from fmt's source: count such statements apart). THE CARD IS WHAT COUNTS. Prove the row's statement (the work); the ties are given (YtaifnmjjpddikaaGreatDoorTie.lean); close each card by the builder's one call (the guide's Derived/Test/ToyasCard.lean, 'card_holds'). Laid BY PROGRAM, IN A SANDBOX (cutbox-door.mjs). By AI agents, Wed Nov 11 2026. No macro, syntax, notation, axiom, sorry.
-/
import Derived.Test.YtaifnmjjpddikaaGreatDoorRows
import GoSem.ClaimSeven
namespace Go.Proofs.YtaifnmjjpddikaaGreatDoor
namespace Rows

/-- THE TIED CARD OF 'scarflaw13.YreadFlows'. -/
def yreadFlowsCard : Claim7 := { stood := { row := yreadFlowsRow, standIns := [], harness := (true, "5cb4b03b892cf9c276737f196c48ffe4704e9d1d75d21b3dc1d965a0a487dd4a"), looks := true }, kinds := [], alts := [], laidByText := true, laidKinds := [.data, .data, .data, .data, .sentinel, .sentinel, .pinned], laidTests := true, laidLooks := .later }
def YreadFlowsCardSaid : Prop := Claim7.holds Tryz.pinned (.plain (OpenSpec.ofChange yreadFlowsSpec)) yreadFlowsCard

/-- THE TIED CARD OF 'scarflaw13.YreadLeads'. -/
def yreadLeadsCard : Claim7 := { stood := { row := yreadLeadsRow, standIns := [], harness := (true, "5cb4b03b892cf9c276737f196c48ffe4704e9d1d75d21b3dc1d965a0a487dd4a"), looks := true }, kinds := [], alts := [], laidByText := true, laidKinds := [.data, .data, .data, .data, .sentinel, .sentinel, .pinned], laidTests := true, laidLooks := .later }
def YreadLeadsCardSaid : Prop := Claim7.holds Tryz.pinned (.plain (OpenSpec.ofChange yreadLeadsSpec)) yreadLeadsCard

/-- THE SECOND FORM's CARD OF 'scarflaw13.YreadFlows'. -/
def yreadFlowsUptoCard : Claim7 := { stood := { row := yreadFlowsUptoRow, standIns := [], harness := (true, "5cb4b03b892cf9c276737f196c48ffe4704e9d1d75d21b3dc1d965a0a487dd4a"), looks := true }, kinds := [], alts := [], laidByText := true, laidKinds := [.data, .data, .data, .data, .sentinel, .sentinel, .pinned], laidTests := true, laidLooks := .later }
def YreadFlowsUptoCardSaid : Prop := Claim7.holds Tryz.pinned (.plain (OpenSpec.upto yreadFlowsSpec)) yreadFlowsUptoCard

/-- THE SECOND FORM's CARD OF 'scarflaw13.YreadLeads'. -/
def yreadLeadsUptoCard : Claim7 := { stood := { row := yreadLeadsUptoRow, standIns := [], harness := (true, "5cb4b03b892cf9c276737f196c48ffe4704e9d1d75d21b3dc1d965a0a487dd4a"), looks := true }, kinds := [], alts := [], laidByText := true, laidKinds := [.data, .data, .data, .data, .sentinel, .sentinel, .pinned], laidTests := true, laidLooks := .later }
def YreadLeadsUptoCardSaid : Prop := Claim7.holds Tryz.pinned (.plain (OpenSpec.upto yreadLeadsSpec)) yreadLeadsUptoCard
end Rows
end Go.Proofs.YtaifnmjjpddikaaGreatDoor
