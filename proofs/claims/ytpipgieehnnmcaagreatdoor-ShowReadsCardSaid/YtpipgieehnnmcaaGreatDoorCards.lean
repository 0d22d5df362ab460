/-
  DERIVED. GIVEN WITH THE SEED: THE CARDS: each row of YtpipgieehnnmcaaGreatDoorRows.lean that lists a variable, with what it lists TIED to the program's text (the seventh form; the later family's looks); each row that meets fmt, with fmt's text TOLD by the authors' own Lean function (tested against real Go, not proved from fmt's source: count such statements apart). THE CARD IS WHAT COUNTS. Prove the row's statement (the work); the ties are given (YtpipgieehnnmcaaGreatDoorTie.lean); close each card by the builder's one call (the guide's Derived/Test/ToyasCard.lean, 'card_holds'). Laid BY PROGRAM, IN A SANDBOX (cutbox-door.mjs). By AI agents, Wed Nov 11 2026. No macro, syntax, notation, axiom, sorry.
-/
import Derived.Test.YtpipgieehnnmcaaGreatDoorRows
import GoSem.ClaimSeven
namespace Go.Proofs.YtpipgieehnnmcaaGreatDoor
namespace Rows

/-- THE TIED CARD OF 'quadrillelaw05.NumberBegins'. -/
def numberBeginsCard : Claim7 := { stood := { row := numberBeginsRow, standIns := [], harness := (true, "a14dfa36b92baebca7a1dafdc0a5234ae0ecf53d73ae60fe153b33c7977024d9"), looks := true }, kinds := [], alts := [], laidByText := true, laidKinds := [.data, .data, .data, .data, .sentinel, .sentinel, .pinned], laidTests := true, laidLooks := .later }
def NumberBeginsCardSaid : Prop := Claim7.holds Tryz.pinned (.plain (OpenSpec.ofChange numberBeginsSpec)) numberBeginsCard

/-- THE TIED CARD OF 'quadrillelaw05.NumberTells'. -/
def numberTellsCard : Claim7 := { stood := { row := numberTellsRow, standIns := [], harness := (true, "a14dfa36b92baebca7a1dafdc0a5234ae0ecf53d73ae60fe153b33c7977024d9"), looks := true }, kinds := [], alts := [], laidByText := true, laidKinds := [.data, .data, .data, .data, .sentinel, .sentinel, .pinned], laidTests := true, laidLooks := .later }
def NumberTellsCardSaid : Prop := Claim7.holds Tryz.pinned (.plain (OpenSpec.ofChange numberTellsSpec)) numberTellsCard

/-- THE TIED CARD OF 'quadrillelaw05.NumberReads'. -/
def numberReadsCard : Claim7 := { stood := { row := numberReadsRow, standIns := [], harness := (true, "a14dfa36b92baebca7a1dafdc0a5234ae0ecf53d73ae60fe153b33c7977024d9"), looks := true }, kinds := [], alts := [], laidByText := true, laidKinds := [.data, .data, .data, .data, .sentinel, .sentinel, .pinned], laidTests := true, laidLooks := .later }
def NumberReadsCardSaid : Prop := Claim7.holds Tryz.pinned (.plain (OpenSpec.ofChange numberReadsSpec)) numberReadsCard

/-- THE TIED CARD OF 'quadrillelaw06.ShowNames'. -/
def showNamesCard : Claim7 := { stood := { row := showNamesRow, standIns := [], harness := (true, "a14dfa36b92baebca7a1dafdc0a5234ae0ecf53d73ae60fe153b33c7977024d9"), looks := true }, kinds := [], alts := [], laidByText := true, laidKinds := [.data, .data, .data, .data, .sentinel, .sentinel, .pinned], laidTests := true, laidLooks := .later }
def ShowNamesCardSaid : Prop := Claim7.holds Tryz.pinned (.plain (OpenSpec.ofChange showNamesSpec)) showNamesCard

/-- THE TIED CARD OF 'quadrillelaw06.ShowCodes'. -/
def showCodesCard : Claim7 := { stood := { row := showCodesRow, standIns := [], harness := (true, "a14dfa36b92baebca7a1dafdc0a5234ae0ecf53d73ae60fe153b33c7977024d9"), looks := true }, kinds := [], alts := [], laidByText := true, laidKinds := [.data, .data, .data, .data, .sentinel, .sentinel, .pinned], laidTests := true, laidLooks := .later }
def ShowCodesCardSaid : Prop := Claim7.holds Tryz.pinned (.plain (OpenSpec.ofChange showCodesSpec)) showCodesCard

/-- THE TIED CARD OF 'quadrillelaw06.ShowReads'. -/
def showReadsCard : Claim7 := { stood := { row := showReadsRow, standIns := [], harness := (true, "a14dfa36b92baebca7a1dafdc0a5234ae0ecf53d73ae60fe153b33c7977024d9"), looks := true }, kinds := [], alts := [], laidByText := true, laidKinds := [.data, .data, .data, .data, .sentinel, .sentinel, .pinned], laidTests := true, laidLooks := .later }
def ShowReadsCardSaid : Prop := Claim7.holds Tryz.pinned (.plain (OpenSpec.ofChange showReadsSpec)) showReadsCard

/-- THE TIED CARD OF 'quadrillelaw11.LexForms'. -/
def lexFormsCard : Claim7 := { stood := { row := lexFormsRow, standIns := [], harness := (true, "a14dfa36b92baebca7a1dafdc0a5234ae0ecf53d73ae60fe153b33c7977024d9"), looks := true }, kinds := [], alts := [], laidByText := true, laidKinds := [.data, .data, .data, .data, .sentinel, .sentinel, .pinned], laidTests := true, laidLooks := .later }
def LexFormsCardSaid : Prop := Claim7.holds Tryz.pinned (.plain (OpenSpec.ofChange lexFormsSpec)) lexFormsCard

/-- THE TIED CARD OF 'quadrillelaw11.LexQuotes'. -/
def lexQuotesCard : Claim7 := { stood := { row := lexQuotesRow, standIns := [], harness := (true, "a14dfa36b92baebca7a1dafdc0a5234ae0ecf53d73ae60fe153b33c7977024d9"), looks := true }, kinds := [], alts := [], laidByText := true, laidKinds := [.data, .data, .data, .data, .sentinel, .sentinel, .pinned], laidTests := true, laidLooks := .later }
def LexQuotesCardSaid : Prop := Claim7.holds Tryz.pinned (.plain (OpenSpec.ofChange lexQuotesSpec)) lexQuotesCard

/-- THE TIED CARD OF 'quadrillelaw11.LexTells'. -/
def lexTellsCard : Claim7 := { stood := { row := lexTellsRow, standIns := [], harness := (true, "a14dfa36b92baebca7a1dafdc0a5234ae0ecf53d73ae60fe153b33c7977024d9"), looks := true }, kinds := [], alts := [], laidByText := true, laidKinds := [.data, .data, .data, .data, .sentinel, .sentinel, .pinned], laidTests := true, laidLooks := .later }
def LexTellsCardSaid : Prop := Claim7.holds Tryz.pinned (.plain (OpenSpec.ofChange lexTellsSpec)) lexTellsCard

/-- THE TIED CARD OF 'quadrillelaw12.FormulaKnown'. -/
def formulaKnownCard : Claim7 := { stood := { row := formulaKnownRow, standIns := [], harness := (true, "a14dfa36b92baebca7a1dafdc0a5234ae0ecf53d73ae60fe153b33c7977024d9"), looks := true }, kinds := [], alts := [], laidByText := true, laidKinds := [.data, .data, .data, .data, .sentinel, .sentinel, .pinned], laidTests := true, laidLooks := .later }
def FormulaKnownCardSaid : Prop := Claim7.holds Tryz.pinned (.plain (OpenSpec.ofChange formulaKnownSpec)) formulaKnownCard

/-- THE TIED CARD OF 'quadrillelaw13.WriteNames'. -/
def writeNamesCard : Claim7 := { stood := { row := writeNamesRow, standIns := [], harness := (true, "a14dfa36b92baebca7a1dafdc0a5234ae0ecf53d73ae60fe153b33c7977024d9"), looks := true }, kinds := [], alts := [], laidByText := true, laidKinds := [.data, .data, .data, .data, .sentinel, .sentinel, .pinned], laidTests := true, laidLooks := .later }
def WriteNamesCardSaid : Prop := Claim7.holds Tryz.pinned (.plain (OpenSpec.ofChange writeNamesSpec)) writeNamesCard

/-- THE TIED CARD OF 'quadrillelaw14.ValueMakes'. -/
def valueMakesCard : Claim7 := { stood := { row := valueMakesRow, standIns := [], harness := (true, "a14dfa36b92baebca7a1dafdc0a5234ae0ecf53d73ae60fe153b33c7977024d9"), looks := true }, kinds := [], alts := [], laidByText := true, laidKinds := [.data, .data, .data, .data, .sentinel, .sentinel, .pinned], laidTests := true, laidLooks := .later }
def ValueMakesCardSaid : Prop := Claim7.holds Tryz.pinned (.plain (OpenSpec.ofChange valueMakesSpec)) valueMakesCard

/-- THE SECOND FORM's CARD OF 'quadrillelaw05.NumberBegins'. -/
def numberBeginsUptoCard : Claim7 := { stood := { row := numberBeginsUptoRow, standIns := [], harness := (true, "a14dfa36b92baebca7a1dafdc0a5234ae0ecf53d73ae60fe153b33c7977024d9"), looks := true }, kinds := [], alts := [], laidByText := true, laidKinds := [.data, .data, .data, .data, .sentinel, .sentinel, .pinned], laidTests := true, laidLooks := .later }
def NumberBeginsUptoCardSaid : Prop := Claim7.holds Tryz.pinned (.plain (OpenSpec.upto numberBeginsSpec)) numberBeginsUptoCard

/-- THE SECOND FORM's CARD OF 'quadrillelaw05.NumberTells'. -/
def numberTellsUptoCard : Claim7 := { stood := { row := numberTellsUptoRow, standIns := [], harness := (true, "a14dfa36b92baebca7a1dafdc0a5234ae0ecf53d73ae60fe153b33c7977024d9"), looks := true }, kinds := [], alts := [], laidByText := true, laidKinds := [.data, .data, .data, .data, .sentinel, .sentinel, .pinned], laidTests := true, laidLooks := .later }
def NumberTellsUptoCardSaid : Prop := Claim7.holds Tryz.pinned (.plain (OpenSpec.upto numberTellsSpec)) numberTellsUptoCard

/-- THE SECOND FORM's CARD OF 'quadrillelaw05.NumberReads'. -/
def numberReadsUptoCard : Claim7 := { stood := { row := numberReadsUptoRow, standIns := [], harness := (true, "a14dfa36b92baebca7a1dafdc0a5234ae0ecf53d73ae60fe153b33c7977024d9"), looks := true }, kinds := [], alts := [], laidByText := true, laidKinds := [.data, .data, .data, .data, .sentinel, .sentinel, .pinned], laidTests := true, laidLooks := .later }
def NumberReadsUptoCardSaid : Prop := Claim7.holds Tryz.pinned (.plain (OpenSpec.upto numberReadsSpec)) numberReadsUptoCard

/-- THE SECOND FORM's CARD OF 'quadrillelaw06.ShowNames'. -/
def showNamesUptoCard : Claim7 := { stood := { row := showNamesUptoRow, standIns := [], harness := (true, "a14dfa36b92baebca7a1dafdc0a5234ae0ecf53d73ae60fe153b33c7977024d9"), looks := true }, kinds := [], alts := [], laidByText := true, laidKinds := [.data, .data, .data, .data, .sentinel, .sentinel, .pinned], laidTests := true, laidLooks := .later }
def ShowNamesUptoCardSaid : Prop := Claim7.holds Tryz.pinned (.plain (OpenSpec.upto showNamesSpec)) showNamesUptoCard

/-- THE SECOND FORM's CARD OF 'quadrillelaw06.ShowCodes'. -/
def showCodesUptoCard : Claim7 := { stood := { row := showCodesUptoRow, standIns := [], harness := (true, "a14dfa36b92baebca7a1dafdc0a5234ae0ecf53d73ae60fe153b33c7977024d9"), looks := true }, kinds := [], alts := [], laidByText := true, laidKinds := [.data, .data, .data, .data, .sentinel, .sentinel, .pinned], laidTests := true, laidLooks := .later }
def ShowCodesUptoCardSaid : Prop := Claim7.holds Tryz.pinned (.plain (OpenSpec.upto showCodesSpec)) showCodesUptoCard

/-- THE SECOND FORM's CARD OF 'quadrillelaw06.ShowReads'. -/
def showReadsUptoCard : Claim7 := { stood := { row := showReadsUptoRow, standIns := [], harness := (true, "a14dfa36b92baebca7a1dafdc0a5234ae0ecf53d73ae60fe153b33c7977024d9"), looks := true }, kinds := [], alts := [], laidByText := true, laidKinds := [.data, .data, .data, .data, .sentinel, .sentinel, .pinned], laidTests := true, laidLooks := .later }
def ShowReadsUptoCardSaid : Prop := Claim7.holds Tryz.pinned (.plain (OpenSpec.upto showReadsSpec)) showReadsUptoCard

/-- THE SECOND FORM's CARD OF 'quadrillelaw11.LexForms'. -/
def lexFormsUptoCard : Claim7 := { stood := { row := lexFormsUptoRow, standIns := [], harness := (true, "a14dfa36b92baebca7a1dafdc0a5234ae0ecf53d73ae60fe153b33c7977024d9"), looks := true }, kinds := [], alts := [], laidByText := true, laidKinds := [.data, .data, .data, .data, .sentinel, .sentinel, .pinned], laidTests := true, laidLooks := .later }
def LexFormsUptoCardSaid : Prop := Claim7.holds Tryz.pinned (.plain (OpenSpec.upto lexFormsSpec)) lexFormsUptoCard

/-- THE SECOND FORM's CARD OF 'quadrillelaw11.LexQuotes'. -/
def lexQuotesUptoCard : Claim7 := { stood := { row := lexQuotesUptoRow, standIns := [], harness := (true, "a14dfa36b92baebca7a1dafdc0a5234ae0ecf53d73ae60fe153b33c7977024d9"), looks := true }, kinds := [], alts := [], laidByText := true, laidKinds := [.data, .data, .data, .data, .sentinel, .sentinel, .pinned], laidTests := true, laidLooks := .later }
def LexQuotesUptoCardSaid : Prop := Claim7.holds Tryz.pinned (.plain (OpenSpec.upto lexQuotesSpec)) lexQuotesUptoCard

/-- THE SECOND FORM's CARD OF 'quadrillelaw11.LexTells'. -/
def lexTellsUptoCard : Claim7 := { stood := { row := lexTellsUptoRow, standIns := [], harness := (true, "a14dfa36b92baebca7a1dafdc0a5234ae0ecf53d73ae60fe153b33c7977024d9"), looks := true }, kinds := [], alts := [], laidByText := true, laidKinds := [.data, .data, .data, .data, .sentinel, .sentinel, .pinned], laidTests := true, laidLooks := .later }
def LexTellsUptoCardSaid : Prop := Claim7.holds Tryz.pinned (.plain (OpenSpec.upto lexTellsSpec)) lexTellsUptoCard

/-- THE SECOND FORM's CARD OF 'quadrillelaw12.FormulaKnown'. -/
def formulaKnownUptoCard : Claim7 := { stood := { row := formulaKnownUptoRow, standIns := [], harness := (true, "a14dfa36b92baebca7a1dafdc0a5234ae0ecf53d73ae60fe153b33c7977024d9"), looks := true }, kinds := [], alts := [], laidByText := true, laidKinds := [.data, .data, .data, .data, .sentinel, .sentinel, .pinned], laidTests := true, laidLooks := .later }
def FormulaKnownUptoCardSaid : Prop := Claim7.holds Tryz.pinned (.plain (OpenSpec.upto formulaKnownSpec)) formulaKnownUptoCard

/-- THE SECOND FORM's CARD OF 'quadrillelaw13.WriteNames'. -/
def writeNamesUptoCard : Claim7 := { stood := { row := writeNamesUptoRow, standIns := [], harness := (true, "a14dfa36b92baebca7a1dafdc0a5234ae0ecf53d73ae60fe153b33c7977024d9"), looks := true }, kinds := [], alts := [], laidByText := true, laidKinds := [.data, .data, .data, .data, .sentinel, .sentinel, .pinned], laidTests := true, laidLooks := .later }
def WriteNamesUptoCardSaid : Prop := Claim7.holds Tryz.pinned (.plain (OpenSpec.upto writeNamesSpec)) writeNamesUptoCard

/-- THE SECOND FORM's CARD OF 'quadrillelaw14.ValueMakes'. -/
def valueMakesUptoCard : Claim7 := { stood := { row := valueMakesUptoRow, standIns := [], harness := (true, "a14dfa36b92baebca7a1dafdc0a5234ae0ecf53d73ae60fe153b33c7977024d9"), looks := true }, kinds := [], alts := [], laidByText := true, laidKinds := [.data, .data, .data, .data, .sentinel, .sentinel, .pinned], laidTests := true, laidLooks := .later }
def ValueMakesUptoCardSaid : Prop := Claim7.holds Tryz.pinned (.plain (OpenSpec.upto valueMakesSpec)) valueMakesUptoCard
end Rows
end Go.Proofs.YtpipgieehnnmcaaGreatDoor
