/-
  DERIVED. GIVEN WITH THE SEED: THE CARDS: each row of YtbdaebagmmmijaaGreatDoorRows.lean that lists a variable, with what it lists TIED to the program's text (the seventh form; the later family's looks); each row that meets fmt, with fmt's text TOLD by the authors' own Lean function (tested against real Go, not proved from fmt's source: count such statements apart). THE CARD IS WHAT COUNTS. Prove the row's statement (the work); the ties are given (YtbdaebagmmmijaaGreatDoorTie.lean); close each card by the builder's one call (the guide's Derived/Test/ToyasCard.lean, 'card_holds'). Laid BY PROGRAM, IN A SANDBOX (cutbox-door.mjs). By AI agents, Wed Nov 11 2026. No macro, syntax, notation, axiom, sorry.
-/
import Derived.Test.YtbdaebagmmmijaaGreatDoorRows
import GoSem.ClaimSeven
namespace Go.Proofs.YtbdaebagmmmijaaGreatDoor
namespace Rows

/-- THE TIED CARD OF 'quadrillelaw05.NumberNear'. -/
def numberNearCard : Claim7 := { stood := { row := numberNearRow, standIns := [], harness := (true, "4b66ac24256057e3fdcc292119e15c0fdd7efa462ef50f63c16857f9e0699b1e"), looks := true }, kinds := [], alts := [], laidByText := true, laidKinds := [.data, .data, .data, .data, .sentinel, .sentinel, .pinned], laidTests := true, laidLooks := .later }
def NumberNearCardSaid : Prop := Claim7.holds Tryz.pinned (.plain (OpenSpec.ofChange numberNearSpec)) numberNearCard

/-- THE TIED CARD OF 'quadrillelaw05.NumberTells'. -/
def numberTellsCard : Claim7 := { stood := { row := numberTellsRow, standIns := [], harness := (true, "4b66ac24256057e3fdcc292119e15c0fdd7efa462ef50f63c16857f9e0699b1e"), looks := true }, kinds := [], alts := [], laidByText := true, laidKinds := [.data, .data, .data, .data, .sentinel, .sentinel, .pinned], laidTests := true, laidLooks := .later }
def NumberTellsCardSaid : Prop := Claim7.holds Tryz.pinned (.plain (OpenSpec.ofChange numberTellsSpec)) numberTellsCard

/-- THE TIED CARD OF 'quadrillelaw05.NumberBack'. -/
def numberBackCard : Claim7 := { stood := { row := numberBackRow, standIns := [], harness := (true, "4b66ac24256057e3fdcc292119e15c0fdd7efa462ef50f63c16857f9e0699b1e"), looks := true }, kinds := [], alts := [], laidByText := true, laidKinds := [.data, .data, .data, .data, .sentinel, .sentinel, .pinned], laidTests := true, laidLooks := .later }
def NumberBackCardSaid : Prop := Claim7.holds Tryz.pinned (.plain (OpenSpec.ofChange numberBackSpec)) numberBackCard

/-- THE TIED CARD OF 'quadrillelaw05.NumberFew'. -/
def numberFewCard : Claim7 := { stood := { row := numberFewRow, standIns := [], harness := (true, "4b66ac24256057e3fdcc292119e15c0fdd7efa462ef50f63c16857f9e0699b1e"), looks := true }, kinds := [], alts := [], laidByText := true, laidKinds := [.data, .data, .data, .data, .sentinel, .sentinel, .pinned], laidTests := true, laidLooks := .later }
def NumberFewCardSaid : Prop := Claim7.holds Tryz.pinned (.plain (OpenSpec.ofChange numberFewSpec)) numberFewCard

/-- THE SECOND FORM's CARD OF 'quadrillelaw05.NumberNear'. -/
def numberNearUptoCard : Claim7 := { stood := { row := numberNearUptoRow, standIns := [], harness := (true, "4b66ac24256057e3fdcc292119e15c0fdd7efa462ef50f63c16857f9e0699b1e"), looks := true }, kinds := [], alts := [], laidByText := true, laidKinds := [.data, .data, .data, .data, .sentinel, .sentinel, .pinned], laidTests := true, laidLooks := .later }
def NumberNearUptoCardSaid : Prop := Claim7.holds Tryz.pinned (.plain (OpenSpec.upto numberNearSpec)) numberNearUptoCard

/-- THE SECOND FORM's CARD OF 'quadrillelaw05.NumberTells'. -/
def numberTellsUptoCard : Claim7 := { stood := { row := numberTellsUptoRow, standIns := [], harness := (true, "4b66ac24256057e3fdcc292119e15c0fdd7efa462ef50f63c16857f9e0699b1e"), looks := true }, kinds := [], alts := [], laidByText := true, laidKinds := [.data, .data, .data, .data, .sentinel, .sentinel, .pinned], laidTests := true, laidLooks := .later }
def NumberTellsUptoCardSaid : Prop := Claim7.holds Tryz.pinned (.plain (OpenSpec.upto numberTellsSpec)) numberTellsUptoCard

/-- THE SECOND FORM's CARD OF 'quadrillelaw05.NumberBack'. -/
def numberBackUptoCard : Claim7 := { stood := { row := numberBackUptoRow, standIns := [], harness := (true, "4b66ac24256057e3fdcc292119e15c0fdd7efa462ef50f63c16857f9e0699b1e"), looks := true }, kinds := [], alts := [], laidByText := true, laidKinds := [.data, .data, .data, .data, .sentinel, .sentinel, .pinned], laidTests := true, laidLooks := .later }
def NumberBackUptoCardSaid : Prop := Claim7.holds Tryz.pinned (.plain (OpenSpec.upto numberBackSpec)) numberBackUptoCard

/-- THE SECOND FORM's CARD OF 'quadrillelaw05.NumberFew'. -/
def numberFewUptoCard : Claim7 := { stood := { row := numberFewUptoRow, standIns := [], harness := (true, "4b66ac24256057e3fdcc292119e15c0fdd7efa462ef50f63c16857f9e0699b1e"), looks := true }, kinds := [], alts := [], laidByText := true, laidKinds := [.data, .data, .data, .data, .sentinel, .sentinel, .pinned], laidTests := true, laidLooks := .later }
def NumberFewUptoCardSaid : Prop := Claim7.holds Tryz.pinned (.plain (OpenSpec.upto numberFewSpec)) numberFewUptoCard
end Rows
end Go.Proofs.YtbdaebagmmmijaaGreatDoor
