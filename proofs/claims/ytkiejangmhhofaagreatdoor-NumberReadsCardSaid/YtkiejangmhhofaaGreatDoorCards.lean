/-
  DERIVED. GIVEN WITH THE SEED: THE CARDS: each row of YtkiejangmhhofaaGreatDoorRows.lean that lists a variable, with what it lists TIED to the program's text (the seventh form; the later family's looks); each row that meets fmt, with fmt's text TOLD by the authors' own Lean function (tested against real Go, not proved from fmt's source: count such statements apart). THE CARD IS WHAT COUNTS. Prove the row's statement (the work); the ties are given (YtkiejangmhhofaaGreatDoorTie.lean); close each card by the builder's one call (the guide's Derived/Test/ToyasCard.lean, 'card_holds'). Laid BY PROGRAM, IN A SANDBOX (cutbox-door.mjs). By AI agents, Wed Nov 11 2026. No macro, syntax, notation, axiom, sorry.
-/
import Derived.Test.YtkiejangmhhofaaGreatDoorRows
import GoSem.ClaimSeven
namespace Go.Proofs.YtkiejangmhhofaaGreatDoor
namespace Rows

/-- THE TIED CARD OF 'quadrillelaw05.NumberReads'. -/
def numberReadsCard : Claim7 := { stood := { row := numberReadsRow, standIns := [], harness := (true, "b943478accaaaf2f20fe695a8a5894135b1064266769730b497c82cefe30eb80"), looks := true }, kinds := [], alts := [], laidByText := true, laidKinds := [.data, .data, .data, .data, .sentinel, .sentinel, .pinned], laidTests := true, laidLooks := .later }
def NumberReadsCardSaid : Prop := Claim7.holds Tryz.pinned (.plain (OpenSpec.ofChange numberReadsSpec)) numberReadsCard

/-- THE TIED CARD OF 'quadrillelaw11.LexSpread'. -/
def lexSpreadCard : Claim7 := { stood := { row := lexSpreadRow, standIns := [], harness := (true, "b943478accaaaf2f20fe695a8a5894135b1064266769730b497c82cefe30eb80"), looks := true }, kinds := [], alts := [], laidByText := true, laidKinds := [.data, .data, .data, .data, .sentinel, .sentinel, .pinned], laidTests := true, laidLooks := .later }
def LexSpreadCardSaid : Prop := Claim7.holds Tryz.pinned (.plain (OpenSpec.ofChange lexSpreadSpec)) lexSpreadCard

/-- THE TIED CARD OF 'quadrillelaw13.WriteOwns'. -/
def writeOwnsCard : Claim7 := { stood := { row := writeOwnsRow, standIns := [], harness := (true, "b943478accaaaf2f20fe695a8a5894135b1064266769730b497c82cefe30eb80"), looks := true }, kinds := [], alts := [], laidByText := true, laidKinds := [.data, .data, .data, .data, .sentinel, .sentinel, .pinned], laidTests := true, laidLooks := .later }
def WriteOwnsCardSaid : Prop := Claim7.holds Tryz.pinned (.plain (OpenSpec.ofChange writeOwnsSpec)) writeOwnsCard

/-- THE TIED CARD OF 'quadrillelaw12.FormulaChecks'. -/
def formulaChecksCard : Claim7 := { stood := { row := formulaChecksRow, standIns := [], harness := (true, "b943478accaaaf2f20fe695a8a5894135b1064266769730b497c82cefe30eb80"), looks := true }, kinds := [], alts := [], laidByText := true, laidKinds := [.data, .data, .data, .data, .sentinel, .sentinel, .pinned], laidTests := true, laidLooks := .later }
def FormulaChecksCardSaid : Prop := Claim7.holds Tryz.pinned (.plain (OpenSpec.ofChange formulaChecksSpec)) formulaChecksCard

/-- THE SECOND FORM's CARD OF 'quadrillelaw05.NumberReads'. -/
def numberReadsUptoCard : Claim7 := { stood := { row := numberReadsUptoRow, standIns := [], harness := (true, "b943478accaaaf2f20fe695a8a5894135b1064266769730b497c82cefe30eb80"), looks := true }, kinds := [], alts := [], laidByText := true, laidKinds := [.data, .data, .data, .data, .sentinel, .sentinel, .pinned], laidTests := true, laidLooks := .later }
def NumberReadsUptoCardSaid : Prop := Claim7.holds Tryz.pinned (.plain (OpenSpec.upto numberReadsSpec)) numberReadsUptoCard

/-- THE SECOND FORM's CARD OF 'quadrillelaw11.LexSpread'. -/
def lexSpreadUptoCard : Claim7 := { stood := { row := lexSpreadUptoRow, standIns := [], harness := (true, "b943478accaaaf2f20fe695a8a5894135b1064266769730b497c82cefe30eb80"), looks := true }, kinds := [], alts := [], laidByText := true, laidKinds := [.data, .data, .data, .data, .sentinel, .sentinel, .pinned], laidTests := true, laidLooks := .later }
def LexSpreadUptoCardSaid : Prop := Claim7.holds Tryz.pinned (.plain (OpenSpec.upto lexSpreadSpec)) lexSpreadUptoCard

/-- THE SECOND FORM's CARD OF 'quadrillelaw13.WriteOwns'. -/
def writeOwnsUptoCard : Claim7 := { stood := { row := writeOwnsUptoRow, standIns := [], harness := (true, "b943478accaaaf2f20fe695a8a5894135b1064266769730b497c82cefe30eb80"), looks := true }, kinds := [], alts := [], laidByText := true, laidKinds := [.data, .data, .data, .data, .sentinel, .sentinel, .pinned], laidTests := true, laidLooks := .later }
def WriteOwnsUptoCardSaid : Prop := Claim7.holds Tryz.pinned (.plain (OpenSpec.upto writeOwnsSpec)) writeOwnsUptoCard

/-- THE SECOND FORM's CARD OF 'quadrillelaw12.FormulaChecks'. -/
def formulaChecksUptoCard : Claim7 := { stood := { row := formulaChecksUptoRow, standIns := [], harness := (true, "b943478accaaaf2f20fe695a8a5894135b1064266769730b497c82cefe30eb80"), looks := true }, kinds := [], alts := [], laidByText := true, laidKinds := [.data, .data, .data, .data, .sentinel, .sentinel, .pinned], laidTests := true, laidLooks := .later }
def FormulaChecksUptoCardSaid : Prop := Claim7.holds Tryz.pinned (.plain (OpenSpec.upto formulaChecksSpec)) formulaChecksUptoCard
end Rows
end Go.Proofs.YtkiejangmhhofaaGreatDoor
