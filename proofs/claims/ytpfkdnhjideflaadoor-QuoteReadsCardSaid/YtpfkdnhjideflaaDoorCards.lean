/-
  DERIVED. GIVEN WITH THE SEED: THE CARDS: each row of YtpfkdnhjideflaaDoorRows.lean that lists a variable, with what it lists TIED to the program's text (the seventh form; the later family's looks); each row that meets fmt, with fmt's text TOLD by the authors' own Lean function (tested against real Go, not proved from fmt's source: count such statements apart). THE CARD IS WHAT COUNTS. Prove the row's statement (the work); the ties are given (YtpfkdnhjideflaaDoorTie.lean); close each card by the builder's one call (the guide's Derived/Test/ToyasCard.lean, 'card_holds'). Laid BY PROGRAM, IN A SANDBOX (cutbox-door.mjs). By AI agents, Wed Nov 11 2026. No macro, syntax, notation, axiom, sorry.
-/
import Derived.Test.YtpfkdnhjideflaaDoorRows
import GoSem.ClaimSeven
namespace Go.Proofs.YtpfkdnhjideflaaDoor
namespace Rows

/-- THE TIED CARD OF 'scarflaw02.NumberParses'. -/
def numberParsesCard : Claim7 := { stood := { row := numberParsesRow, standIns := [], harness := (true, "710ce254f1863a7427dda0ff186cf8d8a4a9b517988cae57d163e185ff1d3423"), looks := true }, kinds := [], alts := [], laidByText := true, laidKinds := [.data, .data, .data, .data, .pinned], laidTests := true, laidLooks := .later }
def NumberParsesCardSaid : Prop := Claim7.holds Tryd.pinned (.plain (OpenSpec.ofChange numberParsesSpec)) numberParsesCard

/-- THE TIED CARD OF 'scarflaw02.NumberCompares'. -/
def numberComparesCard : Claim7 := { stood := { row := numberComparesRow, standIns := [], harness := (true, "710ce254f1863a7427dda0ff186cf8d8a4a9b517988cae57d163e185ff1d3423"), looks := true }, kinds := [], alts := [], laidByText := true, laidKinds := [.data, .data, .data, .data, .pinned], laidTests := true, laidLooks := .later }
def NumberComparesCardSaid : Prop := Claim7.holds Tryd.pinned (.plain (OpenSpec.ofChange numberComparesSpec)) numberComparesCard

/-- THE TIED CARD OF 'scarflaw02.NumberOrders'. -/
def numberOrdersCard : Claim7 := { stood := { row := numberOrdersRow, standIns := [], harness := (true, "710ce254f1863a7427dda0ff186cf8d8a4a9b517988cae57d163e185ff1d3423"), looks := true }, kinds := [], alts := [], laidByText := true, laidKinds := [.data, .data, .data, .data, .pinned], laidTests := true, laidLooks := .later }
def NumberOrdersCardSaid : Prop := Claim7.holds Tryd.pinned (.plain (OpenSpec.ofChange numberOrdersSpec)) numberOrdersCard

/-- THE TIED CARD OF 'scarflaw02.NumberShifts'. -/
def numberShiftsCard : Claim7 := { stood := { row := numberShiftsRow, standIns := [], harness := (true, "710ce254f1863a7427dda0ff186cf8d8a4a9b517988cae57d163e185ff1d3423"), looks := true }, kinds := [], alts := [], laidByText := true, laidKinds := [.data, .data, .data, .data, .pinned], laidTests := true, laidLooks := .later }
def NumberShiftsCardSaid : Prop := Claim7.holds Tryd.pinned (.plain (OpenSpec.ofChange numberShiftsSpec)) numberShiftsCard

/-- THE TIED CARD OF 'scarflaw03.QuoteWrites'. -/
def quoteWritesCard : Claim7 := { stood := { row := quoteWritesRow, standIns := [], harness := (true, "710ce254f1863a7427dda0ff186cf8d8a4a9b517988cae57d163e185ff1d3423"), looks := true }, kinds := [], alts := [], laidByText := true, laidKinds := [.data, .data, .data, .data, .sentinel, .sentinel, .pinned], laidTests := true, laidLooks := .later }
def QuoteWritesCardSaid : Prop := Claim7.holds Tryd.pinned (.plain (OpenSpec.ofChange quoteWritesSpec)) quoteWritesCard

/-- THE TIED CARD OF 'scarflaw03.QuoteBack'. -/
def quoteBackCard : Claim7 := { stood := { row := quoteBackRow, standIns := [], harness := (true, "710ce254f1863a7427dda0ff186cf8d8a4a9b517988cae57d163e185ff1d3423"), looks := true }, kinds := [], alts := [], laidByText := true, laidKinds := [.data, .data, .data, .data, .sentinel, .sentinel, .pinned], laidTests := true, laidLooks := .later }
def QuoteBackCardSaid : Prop := Claim7.holds Tryd.pinned (.plain (OpenSpec.ofChange quoteBackSpec)) quoteBackCard

/-- THE TIED CARD OF 'scarflaw03.QuoteApart'. -/
def quoteApartCard : Claim7 := { stood := { row := quoteApartRow, standIns := [], harness := (true, "710ce254f1863a7427dda0ff186cf8d8a4a9b517988cae57d163e185ff1d3423"), looks := true }, kinds := [], alts := [], laidByText := true, laidKinds := [.data, .data, .data, .data, .sentinel, .sentinel, .pinned], laidTests := true, laidLooks := .later }
def QuoteApartCardSaid : Prop := Claim7.holds Tryd.pinned (.plain (OpenSpec.ofChange quoteApartSpec)) quoteApartCard

/-- THE TIED CARD OF 'scarflaw03.QuoteReads'. -/
def quoteReadsCard : Claim7 := { stood := { row := quoteReadsRow, standIns := [], harness := (true, "710ce254f1863a7427dda0ff186cf8d8a4a9b517988cae57d163e185ff1d3423"), looks := true }, kinds := [], alts := [], laidByText := true, laidKinds := [.data, .data, .data, .data, .sentinel, .sentinel, .pinned], laidTests := true, laidLooks := .later }
def QuoteReadsCardSaid : Prop := Claim7.holds Tryd.pinned (.plain (OpenSpec.ofChange quoteReadsSpec)) quoteReadsCard

/-- THE TIED CARD OF 'scarflaw03.QuoteEnds'. -/
def quoteEndsCard : Claim7 := { stood := { row := quoteEndsRow, standIns := [], harness := (true, "710ce254f1863a7427dda0ff186cf8d8a4a9b517988cae57d163e185ff1d3423"), looks := true }, kinds := [], alts := [], laidByText := true, laidKinds := [.data, .data, .data, .data, .sentinel, .sentinel, .pinned], laidTests := true, laidLooks := .later }
def QuoteEndsCardSaid : Prop := Claim7.holds Tryd.pinned (.plain (OpenSpec.ofChange quoteEndsSpec)) quoteEndsCard

/-- THE TIED CARD OF 'scarflaw02.NumberTells'. -/
def numberTellsCard : Claim7 := { stood := { row := numberTellsRow, standIns := [], harness := (true, "710ce254f1863a7427dda0ff186cf8d8a4a9b517988cae57d163e185ff1d3423"), looks := true }, kinds := [], alts := [], laidByText := true, laidKinds := [.data, .data, .data, .data, .sentinel, .sentinel, .pinned], laidTests := true, laidLooks := .later }
def NumberTellsCardSaid : Prop := Claim7.holds Tryd.pinned (.plain (OpenSpec.ofChange numberTellsSpec)) numberTellsCard

/-- THE TIED CARD OF 'scarflaw02.NumberBack'. -/
def numberBackCard : Claim7 := { stood := { row := numberBackRow, standIns := [], harness := (true, "710ce254f1863a7427dda0ff186cf8d8a4a9b517988cae57d163e185ff1d3423"), looks := true }, kinds := [], alts := [], laidByText := true, laidKinds := [.data, .data, .data, .data, .sentinel, .sentinel, .pinned], laidTests := true, laidLooks := .later }
def NumberBackCardSaid : Prop := Claim7.holds Tryd.pinned (.plain (OpenSpec.ofChange numberBackSpec)) numberBackCard

/-- THE SECOND FORM's CARD OF 'scarflaw02.NumberParses'. -/
def numberParsesUptoCard : Claim7 := { stood := { row := numberParsesUptoRow, standIns := [], harness := (true, "710ce254f1863a7427dda0ff186cf8d8a4a9b517988cae57d163e185ff1d3423"), looks := true }, kinds := [], alts := [], laidByText := true, laidKinds := [.data, .data, .data, .data, .pinned], laidTests := true, laidLooks := .later }
def NumberParsesUptoCardSaid : Prop := Claim7.holds Tryd.pinned (.plain (OpenSpec.upto numberParsesSpec)) numberParsesUptoCard

/-- THE SECOND FORM's CARD OF 'scarflaw02.NumberCompares'. -/
def numberComparesUptoCard : Claim7 := { stood := { row := numberComparesUptoRow, standIns := [], harness := (true, "710ce254f1863a7427dda0ff186cf8d8a4a9b517988cae57d163e185ff1d3423"), looks := true }, kinds := [], alts := [], laidByText := true, laidKinds := [.data, .data, .data, .data, .pinned], laidTests := true, laidLooks := .later }
def NumberComparesUptoCardSaid : Prop := Claim7.holds Tryd.pinned (.plain (OpenSpec.upto numberComparesSpec)) numberComparesUptoCard

/-- THE SECOND FORM's CARD OF 'scarflaw02.NumberOrders'. -/
def numberOrdersUptoCard : Claim7 := { stood := { row := numberOrdersUptoRow, standIns := [], harness := (true, "710ce254f1863a7427dda0ff186cf8d8a4a9b517988cae57d163e185ff1d3423"), looks := true }, kinds := [], alts := [], laidByText := true, laidKinds := [.data, .data, .data, .data, .pinned], laidTests := true, laidLooks := .later }
def NumberOrdersUptoCardSaid : Prop := Claim7.holds Tryd.pinned (.plain (OpenSpec.upto numberOrdersSpec)) numberOrdersUptoCard

/-- THE SECOND FORM's CARD OF 'scarflaw02.NumberShifts'. -/
def numberShiftsUptoCard : Claim7 := { stood := { row := numberShiftsUptoRow, standIns := [], harness := (true, "710ce254f1863a7427dda0ff186cf8d8a4a9b517988cae57d163e185ff1d3423"), looks := true }, kinds := [], alts := [], laidByText := true, laidKinds := [.data, .data, .data, .data, .pinned], laidTests := true, laidLooks := .later }
def NumberShiftsUptoCardSaid : Prop := Claim7.holds Tryd.pinned (.plain (OpenSpec.upto numberShiftsSpec)) numberShiftsUptoCard

/-- THE SECOND FORM's CARD OF 'scarflaw03.QuoteWrites'. -/
def quoteWritesUptoCard : Claim7 := { stood := { row := quoteWritesUptoRow, standIns := [], harness := (true, "710ce254f1863a7427dda0ff186cf8d8a4a9b517988cae57d163e185ff1d3423"), looks := true }, kinds := [], alts := [], laidByText := true, laidKinds := [.data, .data, .data, .data, .sentinel, .sentinel, .pinned], laidTests := true, laidLooks := .later }
def QuoteWritesUptoCardSaid : Prop := Claim7.holds Tryd.pinned (.plain (OpenSpec.upto quoteWritesSpec)) quoteWritesUptoCard

/-- THE SECOND FORM's CARD OF 'scarflaw03.QuoteBack'. -/
def quoteBackUptoCard : Claim7 := { stood := { row := quoteBackUptoRow, standIns := [], harness := (true, "710ce254f1863a7427dda0ff186cf8d8a4a9b517988cae57d163e185ff1d3423"), looks := true }, kinds := [], alts := [], laidByText := true, laidKinds := [.data, .data, .data, .data, .sentinel, .sentinel, .pinned], laidTests := true, laidLooks := .later }
def QuoteBackUptoCardSaid : Prop := Claim7.holds Tryd.pinned (.plain (OpenSpec.upto quoteBackSpec)) quoteBackUptoCard

/-- THE SECOND FORM's CARD OF 'scarflaw03.QuoteApart'. -/
def quoteApartUptoCard : Claim7 := { stood := { row := quoteApartUptoRow, standIns := [], harness := (true, "710ce254f1863a7427dda0ff186cf8d8a4a9b517988cae57d163e185ff1d3423"), looks := true }, kinds := [], alts := [], laidByText := true, laidKinds := [.data, .data, .data, .data, .sentinel, .sentinel, .pinned], laidTests := true, laidLooks := .later }
def QuoteApartUptoCardSaid : Prop := Claim7.holds Tryd.pinned (.plain (OpenSpec.upto quoteApartSpec)) quoteApartUptoCard

/-- THE SECOND FORM's CARD OF 'scarflaw03.QuoteReads'. -/
def quoteReadsUptoCard : Claim7 := { stood := { row := quoteReadsUptoRow, standIns := [], harness := (true, "710ce254f1863a7427dda0ff186cf8d8a4a9b517988cae57d163e185ff1d3423"), looks := true }, kinds := [], alts := [], laidByText := true, laidKinds := [.data, .data, .data, .data, .sentinel, .sentinel, .pinned], laidTests := true, laidLooks := .later }
def QuoteReadsUptoCardSaid : Prop := Claim7.holds Tryd.pinned (.plain (OpenSpec.upto quoteReadsSpec)) quoteReadsUptoCard

/-- THE SECOND FORM's CARD OF 'scarflaw03.QuoteEnds'. -/
def quoteEndsUptoCard : Claim7 := { stood := { row := quoteEndsUptoRow, standIns := [], harness := (true, "710ce254f1863a7427dda0ff186cf8d8a4a9b517988cae57d163e185ff1d3423"), looks := true }, kinds := [], alts := [], laidByText := true, laidKinds := [.data, .data, .data, .data, .sentinel, .sentinel, .pinned], laidTests := true, laidLooks := .later }
def QuoteEndsUptoCardSaid : Prop := Claim7.holds Tryd.pinned (.plain (OpenSpec.upto quoteEndsSpec)) quoteEndsUptoCard

/-- THE SECOND FORM's CARD OF 'scarflaw02.NumberTells'. -/
def numberTellsUptoCard : Claim7 := { stood := { row := numberTellsUptoRow, standIns := [], harness := (true, "710ce254f1863a7427dda0ff186cf8d8a4a9b517988cae57d163e185ff1d3423"), looks := true }, kinds := [], alts := [], laidByText := true, laidKinds := [.data, .data, .data, .data, .sentinel, .sentinel, .pinned], laidTests := true, laidLooks := .later }
def NumberTellsUptoCardSaid : Prop := Claim7.holds Tryd.pinned (.plain (OpenSpec.upto numberTellsSpec)) numberTellsUptoCard

/-- THE SECOND FORM's CARD OF 'scarflaw02.NumberBack'. -/
def numberBackUptoCard : Claim7 := { stood := { row := numberBackUptoRow, standIns := [], harness := (true, "710ce254f1863a7427dda0ff186cf8d8a4a9b517988cae57d163e185ff1d3423"), looks := true }, kinds := [], alts := [], laidByText := true, laidKinds := [.data, .data, .data, .data, .sentinel, .sentinel, .pinned], laidTests := true, laidLooks := .later }
def NumberBackUptoCardSaid : Prop := Claim7.holds Tryd.pinned (.plain (OpenSpec.upto numberBackSpec)) numberBackUptoCard
end Rows
end Go.Proofs.YtpfkdnhjideflaaDoor
