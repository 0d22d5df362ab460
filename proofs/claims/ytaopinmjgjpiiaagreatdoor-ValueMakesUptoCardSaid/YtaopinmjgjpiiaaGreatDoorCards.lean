/-
  DERIVED. GIVEN WITH THE SEED: THE CARDS: each row of YtaopinmjgjpiiaaGreatDoorRows.lean that lists a variable, with what it lists TIED to the program's text (the seventh form; the later family's looks); each row that meets fmt, with fmt's text TOLD by the authors' own Lean function (tested against real Go, not proved from fmt's source: count such statements apart). THE CARD IS WHAT COUNTS. Prove the row's statement (the work); the ties are given (YtaopinmjgjpiiaaGreatDoorTie.lean); close each card by the builder's one call (the guide's Derived/Test/ToyasCard.lean, 'card_holds'). Laid BY PROGRAM, IN A SANDBOX (cutbox-door.mjs). By AI agents, Wed Nov 11 2026. No macro, syntax, notation, axiom, sorry.
-/
import Derived.Test.YtaopinmjgjpiiaaGreatDoorRows
import GoSem.ClaimSeven
namespace Go.Proofs.YtaopinmjgjpiiaaGreatDoor
namespace Rows

/-- THE TIED CARD OF 'quadrillelaw05.NumberBegins'. -/
def numberBeginsCard : Claim7 := { stood := { row := numberBeginsRow, standIns := [], harness := (true, "0adc49afffaaade515ea12f30e2b7cb2440ee2b42967b48c1bfb4542d9036154"), looks := true }, kinds := [], alts := [], laidByText := true, laidKinds := [.data, .data, .data, .data, .sentinel, .sentinel, .pinned], laidTests := true, laidLooks := .later }
def NumberBeginsCardSaid : Prop := Claim7.holds Tryz.pinned (.plain (OpenSpec.ofChange numberBeginsSpec)) numberBeginsCard

/-- THE TIED CARD OF 'quadrillelaw05.NumberReads'. -/
def numberReadsCard : Claim7 := { stood := { row := numberReadsRow, standIns := [], harness := (true, "0adc49afffaaade515ea12f30e2b7cb2440ee2b42967b48c1bfb4542d9036154"), looks := true }, kinds := [], alts := [], laidByText := true, laidKinds := [.data, .data, .data, .data, .sentinel, .sentinel, .pinned], laidTests := true, laidLooks := .later }
def NumberReadsCardSaid : Prop := Claim7.holds Tryz.pinned (.plain (OpenSpec.ofChange numberReadsSpec)) numberReadsCard

/-- THE TIED CARD OF 'quadrillelaw11.LexQuotes'. -/
def lexQuotesCard : Claim7 := { stood := { row := lexQuotesRow, standIns := [], harness := (true, "0adc49afffaaade515ea12f30e2b7cb2440ee2b42967b48c1bfb4542d9036154"), looks := true }, kinds := [], alts := [], laidByText := true, laidKinds := [.data, .data, .data, .data, .sentinel, .sentinel, .pinned], laidTests := true, laidLooks := .later }
def LexQuotesCardSaid : Prop := Claim7.holds Tryz.pinned (.plain (OpenSpec.ofChange lexQuotesSpec)) lexQuotesCard

/-- THE TIED CARD OF 'quadrillelaw14.ValueMakes'. -/
def valueMakesCard : Claim7 := { stood := { row := valueMakesRow, standIns := [], harness := (true, "0adc49afffaaade515ea12f30e2b7cb2440ee2b42967b48c1bfb4542d9036154"), looks := true }, kinds := [], alts := [], laidByText := true, laidKinds := [.data, .data, .data, .data, .sentinel, .sentinel, .pinned], laidTests := true, laidLooks := .later }
def ValueMakesCardSaid : Prop := Claim7.holds Tryz.pinned (.plain (OpenSpec.ofChange valueMakesSpec)) valueMakesCard

/-- THE SECOND FORM's CARD OF 'quadrillelaw05.NumberBegins'. -/
def numberBeginsUptoCard : Claim7 := { stood := { row := numberBeginsUptoRow, standIns := [], harness := (true, "0adc49afffaaade515ea12f30e2b7cb2440ee2b42967b48c1bfb4542d9036154"), looks := true }, kinds := [], alts := [], laidByText := true, laidKinds := [.data, .data, .data, .data, .sentinel, .sentinel, .pinned], laidTests := true, laidLooks := .later }
def NumberBeginsUptoCardSaid : Prop := Claim7.holds Tryz.pinned (.plain (OpenSpec.upto numberBeginsSpec)) numberBeginsUptoCard

/-- THE SECOND FORM's CARD OF 'quadrillelaw05.NumberReads'. -/
def numberReadsUptoCard : Claim7 := { stood := { row := numberReadsUptoRow, standIns := [], harness := (true, "0adc49afffaaade515ea12f30e2b7cb2440ee2b42967b48c1bfb4542d9036154"), looks := true }, kinds := [], alts := [], laidByText := true, laidKinds := [.data, .data, .data, .data, .sentinel, .sentinel, .pinned], laidTests := true, laidLooks := .later }
def NumberReadsUptoCardSaid : Prop := Claim7.holds Tryz.pinned (.plain (OpenSpec.upto numberReadsSpec)) numberReadsUptoCard

/-- THE SECOND FORM's CARD OF 'quadrillelaw11.LexQuotes'. -/
def lexQuotesUptoCard : Claim7 := { stood := { row := lexQuotesUptoRow, standIns := [], harness := (true, "0adc49afffaaade515ea12f30e2b7cb2440ee2b42967b48c1bfb4542d9036154"), looks := true }, kinds := [], alts := [], laidByText := true, laidKinds := [.data, .data, .data, .data, .sentinel, .sentinel, .pinned], laidTests := true, laidLooks := .later }
def LexQuotesUptoCardSaid : Prop := Claim7.holds Tryz.pinned (.plain (OpenSpec.upto lexQuotesSpec)) lexQuotesUptoCard

/-- THE SECOND FORM's CARD OF 'quadrillelaw14.ValueMakes'. -/
def valueMakesUptoCard : Claim7 := { stood := { row := valueMakesUptoRow, standIns := [], harness := (true, "0adc49afffaaade515ea12f30e2b7cb2440ee2b42967b48c1bfb4542d9036154"), looks := true }, kinds := [], alts := [], laidByText := true, laidKinds := [.data, .data, .data, .data, .sentinel, .sentinel, .pinned], laidTests := true, laidLooks := .later }
def ValueMakesUptoCardSaid : Prop := Claim7.holds Tryz.pinned (.plain (OpenSpec.upto valueMakesSpec)) valueMakesUptoCard
end Rows
end Go.Proofs.YtaopinmjgjpiiaaGreatDoor
