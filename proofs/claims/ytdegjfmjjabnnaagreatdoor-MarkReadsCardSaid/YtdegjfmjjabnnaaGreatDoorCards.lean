/-
  DERIVED. GIVEN WITH THE SEED: THE CARDS: each row of YtdegjfmjjabnnaaGreatDoorRows.lean that lists a variable, with what it lists TIED to the program's text (the seventh form; the later family's looks); each row that meets fmt, with fmt's text TOLD by the authors' own Lean function (tested against real Go, not proved from fmt's source: count such statements apart). THE CARD IS WHAT COUNTS. Prove the row's statement (the work); the ties are given (YtdegjfmjjabnnaaGreatDoorTie.lean); close each card by the builder's one call (the guide's Derived/Test/ToyasCard.lean, 'card_holds'). Laid BY PROGRAM, IN A SANDBOX (cutbox-door.mjs). By AI agents, Wed Nov 11 2026. No macro, syntax, notation, axiom, sorry.
-/
import Derived.Test.YtdegjfmjjabnnaaGreatDoorRows
import GoSem.ClaimSeven
namespace Go.Proofs.YtdegjfmjjabnnaaGreatDoor
namespace Rows

/-- THE TIED CARD OF 'scarflaw25.MarkReads'. -/
def markReadsCard : Claim7 := { stood := { row := markReadsRow, standIns := [], harness := (true, "a958b628ff15c01ac89fb54ba50f5af296f54a710c65596ba075f806221dbb6c"), looks := true }, kinds := [], alts := [], laidByText := true, laidKinds := [.data, .data, .data, .data, .sentinel, .sentinel, .pinned], laidTests := true, laidLooks := .later }
def MarkReadsCardSaid : Prop := Claim7.holds Tryz.pinned (.plain (OpenSpec.ofChange markReadsSpec)) markReadsCard

/-- THE SECOND FORM's CARD OF 'scarflaw25.MarkReads'. -/
def markReadsUptoCard : Claim7 := { stood := { row := markReadsUptoRow, standIns := [], harness := (true, "a958b628ff15c01ac89fb54ba50f5af296f54a710c65596ba075f806221dbb6c"), looks := true }, kinds := [], alts := [], laidByText := true, laidKinds := [.data, .data, .data, .data, .sentinel, .sentinel, .pinned], laidTests := true, laidLooks := .later }
def MarkReadsUptoCardSaid : Prop := Claim7.holds Tryz.pinned (.plain (OpenSpec.upto markReadsSpec)) markReadsUptoCard
end Rows
end Go.Proofs.YtdegjfmjjabnnaaGreatDoor
