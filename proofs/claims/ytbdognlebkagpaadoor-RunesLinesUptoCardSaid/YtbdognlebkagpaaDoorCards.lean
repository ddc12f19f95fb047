/-
  DERIVED. GIVEN WITH THE SEED: THE CARDS: each row of YtbdognlebkagpaaDoorRows.lean that lists a variable, with what it lists TIED to the program's text (the seventh form; the later family's looks); each row that meets fmt, with fmt's text TOLD by the authors' own Lean function (tested against real Go, not proved from fmt's source: count such statements apart). THE CARD IS WHAT COUNTS. Prove the row's statement (the work); the ties are given (YtbdognlebkagpaaDoorTie.lean); close each card by the builder's one call (the guide's Derived/Test/ToyasCard.lean, 'card_holds'). Laid BY PROGRAM, IN A SANDBOX (cutbox-door.mjs). By AI agents, Wed Nov 11 2026. No macro, syntax, notation, axiom, sorry.
-/
import Derived.Test.YtbdognlebkagpaaDoorRows
import GoSem.ClaimSeven
namespace Go.Proofs.YtbdognlebkagpaaDoor
namespace Rows

/-- THE TIED CARD OF 'scarflaw01.RunesPlaces'. -/
def runesPlacesCard : Claim7 := { stood := { row := runesPlacesRow, standIns := [], harness := (true, "db38962543c5634c2baad9f01e53856d4bf8c7486ba91b6e7353061fb599f455"), looks := false }, kinds := [], alts := [], laidByText := true, laidKinds := [.data, .pinned], laidTests := true, laidLooks := .later }
def RunesPlacesCardSaid : Prop := Claim7.holds Tryd.pinned (.plain (OpenSpec.ofChange runesPlacesSpec)) runesPlacesCard

/-- THE TIED CARD OF 'scarflaw01.RunesLines'. -/
def runesLinesCard : Claim7 := { stood := { row := runesLinesRow, standIns := [], harness := (true, "db38962543c5634c2baad9f01e53856d4bf8c7486ba91b6e7353061fb599f455"), looks := false }, kinds := [], alts := [], laidByText := true, laidKinds := [.data, .pinned], laidTests := true, laidLooks := .later }
def RunesLinesCardSaid : Prop := Claim7.holds Tryd.pinned (.plain (OpenSpec.ofChange runesLinesSpec)) runesLinesCard

/-- THE TIED CARD OF 'scarflaw01.RunesTells'. -/
def runesTellsCard : Claim7 := { stood := { row := runesTellsRow, standIns := [], harness := (true, "db38962543c5634c2baad9f01e53856d4bf8c7486ba91b6e7353061fb599f455"), looks := false }, kinds := [], alts := [], laidByText := true, laidKinds := [.data, .pinned], laidTests := true, laidLooks := .later }
def RunesTellsCardSaid : Prop := Claim7.holds Tryd.pinned (.plain (OpenSpec.ofChange runesTellsSpec)) runesTellsCard

/-- THE TIED CARD OF 'scarflaw01.RunesBack'. -/
def runesBackCard : Claim7 := { stood := { row := runesBackRow, standIns := [], harness := (true, "db38962543c5634c2baad9f01e53856d4bf8c7486ba91b6e7353061fb599f455"), looks := false }, kinds := [], alts := [], laidByText := true, laidKinds := [.data, .pinned], laidTests := true, laidLooks := .later }
def RunesBackCardSaid : Prop := Claim7.holds Tryd.pinned (.plain (OpenSpec.ofChange runesBackSpec)) runesBackCard

/-- THE TIED CARD OF 'scarflaw01.RunesSteps'. -/
def runesStepsCard : Claim7 := { stood := { row := runesStepsRow, standIns := [], harness := (true, "db38962543c5634c2baad9f01e53856d4bf8c7486ba91b6e7353061fb599f455"), looks := false }, kinds := [], alts := [], laidByText := true, laidKinds := [.data, .pinned], laidTests := true, laidLooks := .later }
def RunesStepsCardSaid : Prop := Claim7.holds Tryd.pinned (.plain (OpenSpec.ofChange runesStepsSpec)) runesStepsCard

/-- THE SECOND FORM's CARD OF 'scarflaw01.RunesPlaces'. -/
def runesPlacesUptoCard : Claim7 := { stood := { row := runesPlacesUptoRow, standIns := [], harness := (true, "db38962543c5634c2baad9f01e53856d4bf8c7486ba91b6e7353061fb599f455"), looks := false }, kinds := [], alts := [], laidByText := true, laidKinds := [.data, .pinned], laidTests := true, laidLooks := .later }
def RunesPlacesUptoCardSaid : Prop := Claim7.holds Tryd.pinned (.plain (OpenSpec.upto runesPlacesSpec)) runesPlacesUptoCard

/-- THE SECOND FORM's CARD OF 'scarflaw01.RunesLines'. -/
def runesLinesUptoCard : Claim7 := { stood := { row := runesLinesUptoRow, standIns := [], harness := (true, "db38962543c5634c2baad9f01e53856d4bf8c7486ba91b6e7353061fb599f455"), looks := false }, kinds := [], alts := [], laidByText := true, laidKinds := [.data, .pinned], laidTests := true, laidLooks := .later }
def RunesLinesUptoCardSaid : Prop := Claim7.holds Tryd.pinned (.plain (OpenSpec.upto runesLinesSpec)) runesLinesUptoCard

/-- THE SECOND FORM's CARD OF 'scarflaw01.RunesTells'. -/
def runesTellsUptoCard : Claim7 := { stood := { row := runesTellsUptoRow, standIns := [], harness := (true, "db38962543c5634c2baad9f01e53856d4bf8c7486ba91b6e7353061fb599f455"), looks := false }, kinds := [], alts := [], laidByText := true, laidKinds := [.data, .pinned], laidTests := true, laidLooks := .later }
def RunesTellsUptoCardSaid : Prop := Claim7.holds Tryd.pinned (.plain (OpenSpec.upto runesTellsSpec)) runesTellsUptoCard

/-- THE SECOND FORM's CARD OF 'scarflaw01.RunesBack'. -/
def runesBackUptoCard : Claim7 := { stood := { row := runesBackUptoRow, standIns := [], harness := (true, "db38962543c5634c2baad9f01e53856d4bf8c7486ba91b6e7353061fb599f455"), looks := false }, kinds := [], alts := [], laidByText := true, laidKinds := [.data, .pinned], laidTests := true, laidLooks := .later }
def RunesBackUptoCardSaid : Prop := Claim7.holds Tryd.pinned (.plain (OpenSpec.upto runesBackSpec)) runesBackUptoCard

/-- THE SECOND FORM's CARD OF 'scarflaw01.RunesSteps'. -/
def runesStepsUptoCard : Claim7 := { stood := { row := runesStepsUptoRow, standIns := [], harness := (true, "db38962543c5634c2baad9f01e53856d4bf8c7486ba91b6e7353061fb599f455"), looks := false }, kinds := [], alts := [], laidByText := true, laidKinds := [.data, .pinned], laidTests := true, laidLooks := .later }
def RunesStepsUptoCardSaid : Prop := Claim7.holds Tryd.pinned (.plain (OpenSpec.upto runesStepsSpec)) runesStepsUptoCard
end Rows
end Go.Proofs.YtbdognlebkagpaaDoor
