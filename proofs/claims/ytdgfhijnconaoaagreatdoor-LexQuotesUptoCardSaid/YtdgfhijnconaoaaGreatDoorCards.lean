/-
  DERIVED. GIVEN WITH THE SEED: THE CARDS: each row of YtdgfhijnconaoaaGreatDoorRows.lean that lists a variable, with what it lists TIED to the program's text (the seventh form; the later family's looks); each row that meets fmt, with fmt's text TOLD by the authors' own Lean function (tested against real Go, not proved from fmt's source: count such statements apart). THE CARD IS WHAT COUNTS. Prove the row's statement (the work); the ties are given (YtdgfhijnconaoaaGreatDoorTie.lean); close each card by the builder's one call (the guide's Derived/Test/ToyasCard.lean, 'card_holds'). Laid BY PROGRAM, IN A SANDBOX (cutbox-door.mjs). By AI agents, Wed Nov 11 2026. No macro, syntax, notation, axiom, sorry.
-/
import Derived.Test.YtdgfhijnconaoaaGreatDoorRows
import GoSem.ClaimSeven
namespace Go.Proofs.YtdgfhijnconaoaaGreatDoor
namespace Rows

/-- THE TIED CARD OF 'quadrillelaw05.NumberRises'. -/
def numberRisesCard : Claim7 := { stood := { row := numberRisesRow, standIns := [], harness := (true, "3af2925b8b5062522b085939901b95c7ef954e384591653bf711077806b88bc7"), looks := true }, kinds := [], alts := [], laidByText := true, laidKinds := [.data, .data, .data, .data, .sentinel, .sentinel, .pinned], laidTests := true, laidLooks := .later }
def NumberRisesCardSaid : Prop := Claim7.holds Tryz.pinned (.plain (OpenSpec.ofChange numberRisesSpec)) numberRisesCard

/-- THE TIED CARD OF 'quadrillelaw05.NumberReads'. -/
def numberReadsCard : Claim7 := { stood := { row := numberReadsRow, standIns := [], harness := (true, "3af2925b8b5062522b085939901b95c7ef954e384591653bf711077806b88bc7"), looks := true }, kinds := [], alts := [], laidByText := true, laidKinds := [.data, .data, .data, .data, .sentinel, .sentinel, .pinned], laidTests := true, laidLooks := .later }
def NumberReadsCardSaid : Prop := Claim7.holds Tryz.pinned (.plain (OpenSpec.ofChange numberReadsSpec)) numberReadsCard

/-- THE TIED CARD OF 'quadrillelaw05.NumberSame'. -/
def numberSameCard : Claim7 := { stood := { row := numberSameRow, standIns := [], harness := (true, "3af2925b8b5062522b085939901b95c7ef954e384591653bf711077806b88bc7"), looks := true }, kinds := [], alts := [], laidByText := true, laidKinds := [.data, .data, .data, .data, .sentinel, .sentinel, .pinned], laidTests := true, laidLooks := .later }
def NumberSameCardSaid : Prop := Claim7.holds Tryz.pinned (.plain (OpenSpec.ofChange numberSameSpec)) numberSameCard

/-- THE TIED CARD OF 'quadrillelaw11.LexQuotes'. -/
def lexQuotesCard : Claim7 := { stood := { row := lexQuotesRow, standIns := [], harness := (true, "3af2925b8b5062522b085939901b95c7ef954e384591653bf711077806b88bc7"), looks := true }, kinds := [], alts := [], laidByText := true, laidKinds := [.data, .data, .data, .data, .sentinel, .sentinel, .pinned], laidTests := true, laidLooks := .later }
def LexQuotesCardSaid : Prop := Claim7.holds Tryz.pinned (.plain (OpenSpec.ofChange lexQuotesSpec)) lexQuotesCard

/-- THE SECOND FORM's CARD OF 'quadrillelaw05.NumberRises'. -/
def numberRisesUptoCard : Claim7 := { stood := { row := numberRisesUptoRow, standIns := [], harness := (true, "3af2925b8b5062522b085939901b95c7ef954e384591653bf711077806b88bc7"), looks := true }, kinds := [], alts := [], laidByText := true, laidKinds := [.data, .data, .data, .data, .sentinel, .sentinel, .pinned], laidTests := true, laidLooks := .later }
def NumberRisesUptoCardSaid : Prop := Claim7.holds Tryz.pinned (.plain (OpenSpec.upto numberRisesSpec)) numberRisesUptoCard

/-- THE SECOND FORM's CARD OF 'quadrillelaw05.NumberReads'. -/
def numberReadsUptoCard : Claim7 := { stood := { row := numberReadsUptoRow, standIns := [], harness := (true, "3af2925b8b5062522b085939901b95c7ef954e384591653bf711077806b88bc7"), looks := true }, kinds := [], alts := [], laidByText := true, laidKinds := [.data, .data, .data, .data, .sentinel, .sentinel, .pinned], laidTests := true, laidLooks := .later }
def NumberReadsUptoCardSaid : Prop := Claim7.holds Tryz.pinned (.plain (OpenSpec.upto numberReadsSpec)) numberReadsUptoCard

/-- THE SECOND FORM's CARD OF 'quadrillelaw05.NumberSame'. -/
def numberSameUptoCard : Claim7 := { stood := { row := numberSameUptoRow, standIns := [], harness := (true, "3af2925b8b5062522b085939901b95c7ef954e384591653bf711077806b88bc7"), looks := true }, kinds := [], alts := [], laidByText := true, laidKinds := [.data, .data, .data, .data, .sentinel, .sentinel, .pinned], laidTests := true, laidLooks := .later }
def NumberSameUptoCardSaid : Prop := Claim7.holds Tryz.pinned (.plain (OpenSpec.upto numberSameSpec)) numberSameUptoCard

/-- THE SECOND FORM's CARD OF 'quadrillelaw11.LexQuotes'. -/
def lexQuotesUptoCard : Claim7 := { stood := { row := lexQuotesUptoRow, standIns := [], harness := (true, "3af2925b8b5062522b085939901b95c7ef954e384591653bf711077806b88bc7"), looks := true }, kinds := [], alts := [], laidByText := true, laidKinds := [.data, .data, .data, .data, .sentinel, .sentinel, .pinned], laidTests := true, laidLooks := .later }
def LexQuotesUptoCardSaid : Prop := Claim7.holds Tryz.pinned (.plain (OpenSpec.upto lexQuotesSpec)) lexQuotesUptoCard
end Rows
end Go.Proofs.YtdgfhijnconaoaaGreatDoor
