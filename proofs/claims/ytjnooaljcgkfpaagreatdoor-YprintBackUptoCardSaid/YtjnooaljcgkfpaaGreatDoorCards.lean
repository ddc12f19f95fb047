/-
  DERIVED. GIVEN WITH THE SEED: THE CARDS: each row of YtjnooaljcgkfpaaGreatDoorRows.lean that lists a variable, with what it lists TIED to the program's text (the seventh form; the later family's looks); each row that meets fmt, with fmt's text TOLD by the authors' own Lean function (tested against real Go, not proved from fmt's source: count such statements apart). THE CARD IS WHAT COUNTS. Prove the row's statement (the work); the ties are given (YtjnooaljcgkfpaaGreatDoorTie.lean); close each card by the builder's one call (the guide's Derived/Test/ToyasCard.lean, 'card_holds'). Laid BY PROGRAM, IN A SANDBOX (cutbox-door.mjs). By AI agents, Wed Nov 11 2026. No macro, syntax, notation, axiom, sorry.
-/
import Derived.Test.YtjnooaljcgkfpaaGreatDoorRows
import GoSem.ClaimSeven
namespace Go.Proofs.YtjnooaljcgkfpaaGreatDoor
namespace Rows

/-- THE TIED CARD OF 'scarflaw14.YprintBack'. -/
def yprintBackCard : Claim7 := { stood := { row := yprintBackRow, standIns := [], harness := (true, "3741f7852b5148cfea7209aa4df48a36dac46b5cb5536a4767c40056a3c9dfb6"), looks := true }, kinds := [], alts := [], laidByText := true, laidKinds := [.data, .data, .data, .data, .sentinel, .sentinel, .pinned], laidTests := true, laidLooks := .later }
def YprintBackCardSaid : Prop := Claim7.holds Tryz.pinned (.plain (OpenSpec.ofChange yprintBackSpec)) yprintBackCard

/-- THE SECOND FORM's CARD OF 'scarflaw14.YprintBack'. -/
def yprintBackUptoCard : Claim7 := { stood := { row := yprintBackUptoRow, standIns := [], harness := (true, "3741f7852b5148cfea7209aa4df48a36dac46b5cb5536a4767c40056a3c9dfb6"), looks := true }, kinds := [], alts := [], laidByText := true, laidKinds := [.data, .data, .data, .data, .sentinel, .sentinel, .pinned], laidTests := true, laidLooks := .later }
def YprintBackUptoCardSaid : Prop := Claim7.holds Tryz.pinned (.plain (OpenSpec.upto yprintBackSpec)) yprintBackUptoCard
end Rows
end Go.Proofs.YtjnooaljcgkfpaaGreatDoor
