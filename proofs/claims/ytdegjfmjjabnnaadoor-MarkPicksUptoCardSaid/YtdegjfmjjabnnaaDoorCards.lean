/-
  DERIVED. GIVEN WITH THE SEED: THE CARDS: each row of YtdegjfmjjabnnaaDoorRows.lean that lists a variable, with what it lists TIED to the program's text (the seventh form; the later family's looks); each row that meets fmt, with fmt's text TOLD by the authors' own Lean function (tested against real Go, not proved from fmt's source: count such statements apart). THE CARD IS WHAT COUNTS. Prove the row's statement (the work); the ties are given (YtdegjfmjjabnnaaDoorTie.lean); close each card by the builder's one call (the guide's Derived/Test/ToyasCard.lean, 'card_holds'). Laid BY PROGRAM, IN A SANDBOX (cutbox-door.mjs). By AI agents, Wed Nov 11 2026. No macro, syntax, notation, axiom, sorry.
-/
import Derived.Test.YtdegjfmjjabnnaaDoorRows
import GoSem.ClaimSeven
namespace Go.Proofs.YtdegjfmjjabnnaaDoor
namespace Rows

/-- THE TIED CARD OF 'scarflaw25.MarkWrites'. -/
def markWritesCard : Claim7 := { stood := { row := markWritesRow, standIns := [], harness := (true, "2f3442abb838dba20404d42c747d7daa3211f4999cb9132ca825596d4cd14991"), looks := true }, kinds := [], alts := [], laidByText := true, laidKinds := [.data, .data, .data, .data, .sentinel, .sentinel, .pinned], laidTests := true, laidLooks := .later }
def MarkWritesCardSaid : Prop := Claim7.holds Tryd.pinned (.plain (OpenSpec.ofChange markWritesSpec)) markWritesCard

/-- THE TIED CARD OF 'scarflaw25.MarkBack'. -/
def markBackCard : Claim7 := { stood := { row := markBackRow, standIns := [], harness := (true, "2f3442abb838dba20404d42c747d7daa3211f4999cb9132ca825596d4cd14991"), looks := true }, kinds := [], alts := [], laidByText := true, laidKinds := [.data, .data, .data, .data, .sentinel, .sentinel, .pinned], laidTests := true, laidLooks := .later }
def MarkBackCardSaid : Prop := Claim7.holds Tryd.pinned (.plain (OpenSpec.ofChange markBackSpec)) markBackCard

/-- THE TIED CARD OF 'scarflaw25.MarkLines'. -/
def markLinesCard : Claim7 := { stood := { row := markLinesRow, standIns := [], harness := (true, "2f3442abb838dba20404d42c747d7daa3211f4999cb9132ca825596d4cd14991"), looks := true }, kinds := [], alts := [], laidByText := true, laidKinds := [.data, .data, .data, .data, .sentinel, .sentinel, .pinned], laidTests := true, laidLooks := .later }
def MarkLinesCardSaid : Prop := Claim7.holds Tryd.pinned (.plain (OpenSpec.ofChange markLinesSpec)) markLinesCard

/-- THE TIED CARD OF 'scarflaw25.MarkPicks'. -/
def markPicksCard : Claim7 := { stood := { row := markPicksRow, standIns := [], harness := (true, "2f3442abb838dba20404d42c747d7daa3211f4999cb9132ca825596d4cd14991"), looks := true }, kinds := [], alts := [], laidByText := true, laidKinds := [.data, .data, .data, .data, .sentinel, .sentinel, .pinned], laidTests := true, laidLooks := .later }
def MarkPicksCardSaid : Prop := Claim7.holds Tryd.pinned (.plain (OpenSpec.ofChange markPicksSpec)) markPicksCard

/-- THE TIED CARD OF 'scarflaw25.MarkNests'. -/
def markNestsCard : Claim7 := { stood := { row := markNestsRow, standIns := [], harness := (true, "2f3442abb838dba20404d42c747d7daa3211f4999cb9132ca825596d4cd14991"), looks := true }, kinds := [], alts := [], laidByText := true, laidKinds := [.data, .data, .data, .data, .sentinel, .sentinel, .pinned], laidTests := true, laidLooks := .later }
def MarkNestsCardSaid : Prop := Claim7.holds Tryd.pinned (.plain (OpenSpec.ofChange markNestsSpec)) markNestsCard

/-- THE SECOND FORM's CARD OF 'scarflaw25.MarkWrites'. -/
def markWritesUptoCard : Claim7 := { stood := { row := markWritesUptoRow, standIns := [], harness := (true, "2f3442abb838dba20404d42c747d7daa3211f4999cb9132ca825596d4cd14991"), looks := true }, kinds := [], alts := [], laidByText := true, laidKinds := [.data, .data, .data, .data, .sentinel, .sentinel, .pinned], laidTests := true, laidLooks := .later }
def MarkWritesUptoCardSaid : Prop := Claim7.holds Tryd.pinned (.plain (OpenSpec.upto markWritesSpec)) markWritesUptoCard

/-- THE SECOND FORM's CARD OF 'scarflaw25.MarkBack'. -/
def markBackUptoCard : Claim7 := { stood := { row := markBackUptoRow, standIns := [], harness := (true, "2f3442abb838dba20404d42c747d7daa3211f4999cb9132ca825596d4cd14991"), looks := true }, kinds := [], alts := [], laidByText := true, laidKinds := [.data, .data, .data, .data, .sentinel, .sentinel, .pinned], laidTests := true, laidLooks := .later }
def MarkBackUptoCardSaid : Prop := Claim7.holds Tryd.pinned (.plain (OpenSpec.upto markBackSpec)) markBackUptoCard

/-- THE SECOND FORM's CARD OF 'scarflaw25.MarkLines'. -/
def markLinesUptoCard : Claim7 := { stood := { row := markLinesUptoRow, standIns := [], harness := (true, "2f3442abb838dba20404d42c747d7daa3211f4999cb9132ca825596d4cd14991"), looks := true }, kinds := [], alts := [], laidByText := true, laidKinds := [.data, .data, .data, .data, .sentinel, .sentinel, .pinned], laidTests := true, laidLooks := .later }
def MarkLinesUptoCardSaid : Prop := Claim7.holds Tryd.pinned (.plain (OpenSpec.upto markLinesSpec)) markLinesUptoCard

/-- THE SECOND FORM's CARD OF 'scarflaw25.MarkPicks'. -/
def markPicksUptoCard : Claim7 := { stood := { row := markPicksUptoRow, standIns := [], harness := (true, "2f3442abb838dba20404d42c747d7daa3211f4999cb9132ca825596d4cd14991"), looks := true }, kinds := [], alts := [], laidByText := true, laidKinds := [.data, .data, .data, .data, .sentinel, .sentinel, .pinned], laidTests := true, laidLooks := .later }
def MarkPicksUptoCardSaid : Prop := Claim7.holds Tryd.pinned (.plain (OpenSpec.upto markPicksSpec)) markPicksUptoCard

/-- THE SECOND FORM's CARD OF 'scarflaw25.MarkNests'. -/
def markNestsUptoCard : Claim7 := { stood := { row := markNestsUptoRow, standIns := [], harness := (true, "2f3442abb838dba20404d42c747d7daa3211f4999cb9132ca825596d4cd14991"), looks := true }, kinds := [], alts := [], laidByText := true, laidKinds := [.data, .data, .data, .data, .sentinel, .sentinel, .pinned], laidTests := true, laidLooks := .later }
def MarkNestsUptoCardSaid : Prop := Claim7.holds Tryd.pinned (.plain (OpenSpec.upto markNestsSpec)) markNestsUptoCard
end Rows
end Go.Proofs.YtdegjfmjjabnnaaDoor
