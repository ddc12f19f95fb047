/-
  DERIVED. GIVEN WITH THE SEED: THE CARDS: each row of YtfklmopnifkieaaGreatDoorRows.lean that lists a variable, with what it lists TIED to the program's text (the seventh form; the later family's looks); each row that meets fmt, with fmt's text TOLD by the authors' own Lean function (tested against real Go, not proved from fmt's source: count such statements apart). THE CARD IS WHAT COUNTS. Prove the row's statement (the work); the ties are given (YtfklmopnifkieaaGreatDoorTie.lean); close each card by the builder's one call (the guide's Derived/Test/ToyasCard.lean, 'card_holds'). Laid BY PROGRAM, IN A SANDBOX (cutbox-door.mjs). By AI agents, Wed Nov 11 2026. No macro, syntax, notation, axiom, sorry.
-/
import Derived.Test.YtfklmopnifkieaaGreatDoorRows
import GoSem.ClaimSeven
namespace Go.Proofs.YtfklmopnifkieaaGreatDoor
namespace Rows

/-- THE TIED CARD OF 'scarflaw18.RulesTells'. -/
def rulesTellsCard : Claim7 := { stood := { row := rulesTellsRow, standIns := [], harness := (true, "f46945c6b1eff87faa24c0f745cab35fbe7e375f24c3886dbc8f09804621aa61"), looks := true }, kinds := [], alts := [], laidByText := true, laidKinds := [.data, .data, .data, .data, .sentinel, .sentinel, .pinned], laidTests := true, laidLooks := .later }
def RulesTellsCardSaid : Prop := Claim7.holds Tryz.pinned (.plain (OpenSpec.ofChange rulesTellsSpec)) rulesTellsCard

/-- THE TIED CARD OF 'scarflaw18.RulesTexts'. -/
def rulesTextsCard : Claim7 := { stood := { row := rulesTextsRow, standIns := [], harness := (true, "f46945c6b1eff87faa24c0f745cab35fbe7e375f24c3886dbc8f09804621aa61"), looks := true }, kinds := [], alts := [], laidByText := true, laidKinds := [.data, .data, .data, .data, .sentinel, .sentinel, .pinned], laidTests := true, laidLooks := .later }
def RulesTextsCardSaid : Prop := Claim7.holds Tryz.pinned (.plain (OpenSpec.ofChange rulesTextsSpec)) rulesTextsCard

/-- THE TIED CARD OF 'scarflaw18.RulesBack'. -/
def rulesBackCard : Claim7 := { stood := { row := rulesBackRow, standIns := [], harness := (true, "f46945c6b1eff87faa24c0f745cab35fbe7e375f24c3886dbc8f09804621aa61"), looks := true }, kinds := [], alts := [], laidByText := true, laidKinds := [.data, .data, .data, .data, .sentinel, .sentinel, .pinned], laidTests := true, laidLooks := .later }
def RulesBackCardSaid : Prop := Claim7.holds Tryz.pinned (.plain (OpenSpec.ofChange rulesBackSpec)) rulesBackCard

/-- THE TIED CARD OF 'scarflaw18.RulesFits'. -/
def rulesFitsCard : Claim7 := { stood := { row := rulesFitsRow, standIns := [], harness := (true, "f46945c6b1eff87faa24c0f745cab35fbe7e375f24c3886dbc8f09804621aa61"), looks := true }, kinds := [], alts := [], laidByText := true, laidKinds := [.data, .data, .data, .data, .sentinel, .sentinel, .pinned], laidTests := true, laidLooks := .later }
def RulesFitsCardSaid : Prop := Claim7.holds Tryz.pinned (.plain (OpenSpec.ofChange rulesFitsSpec)) rulesFitsCard

/-- THE SECOND FORM's CARD OF 'scarflaw18.RulesTells'. -/
def rulesTellsUptoCard : Claim7 := { stood := { row := rulesTellsUptoRow, standIns := [], harness := (true, "f46945c6b1eff87faa24c0f745cab35fbe7e375f24c3886dbc8f09804621aa61"), looks := true }, kinds := [], alts := [], laidByText := true, laidKinds := [.data, .data, .data, .data, .sentinel, .sentinel, .pinned], laidTests := true, laidLooks := .later }
def RulesTellsUptoCardSaid : Prop := Claim7.holds Tryz.pinned (.plain (OpenSpec.upto rulesTellsSpec)) rulesTellsUptoCard

/-- THE SECOND FORM's CARD OF 'scarflaw18.RulesTexts'. -/
def rulesTextsUptoCard : Claim7 := { stood := { row := rulesTextsUptoRow, standIns := [], harness := (true, "f46945c6b1eff87faa24c0f745cab35fbe7e375f24c3886dbc8f09804621aa61"), looks := true }, kinds := [], alts := [], laidByText := true, laidKinds := [.data, .data, .data, .data, .sentinel, .sentinel, .pinned], laidTests := true, laidLooks := .later }
def RulesTextsUptoCardSaid : Prop := Claim7.holds Tryz.pinned (.plain (OpenSpec.upto rulesTextsSpec)) rulesTextsUptoCard

/-- THE SECOND FORM's CARD OF 'scarflaw18.RulesBack'. -/
def rulesBackUptoCard : Claim7 := { stood := { row := rulesBackUptoRow, standIns := [], harness := (true, "f46945c6b1eff87faa24c0f745cab35fbe7e375f24c3886dbc8f09804621aa61"), looks := true }, kinds := [], alts := [], laidByText := true, laidKinds := [.data, .data, .data, .data, .sentinel, .sentinel, .pinned], laidTests := true, laidLooks := .later }
def RulesBackUptoCardSaid : Prop := Claim7.holds Tryz.pinned (.plain (OpenSpec.upto rulesBackSpec)) rulesBackUptoCard

/-- THE SECOND FORM's CARD OF 'scarflaw18.RulesFits'. -/
def rulesFitsUptoCard : Claim7 := { stood := { row := rulesFitsUptoRow, standIns := [], harness := (true, "f46945c6b1eff87faa24c0f745cab35fbe7e375f24c3886dbc8f09804621aa61"), looks := true }, kinds := [], alts := [], laidByText := true, laidKinds := [.data, .data, .data, .data, .sentinel, .sentinel, .pinned], laidTests := true, laidLooks := .later }
def RulesFitsUptoCardSaid : Prop := Claim7.holds Tryz.pinned (.plain (OpenSpec.upto rulesFitsSpec)) rulesFitsUptoCard
end Rows
end Go.Proofs.YtfklmopnifkieaaGreatDoor
