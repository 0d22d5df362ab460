/-
  DERIVED. GIVEN WITH THE SEED: THE CARDS: each row of YtlbmpbkfkmabaaaGreatDoorRows.lean that lists a variable, with what it lists TIED to the program's text (the seventh form; the later family's looks); each row that meets fmt, with fmt's text TOLD by the authors' own Lean function (tested against real Go, not proved from fmt's source: count such statements apart). THE CARD IS WHAT COUNTS. Prove the row's statement (the work); the ties are given (YtlbmpbkfkmabaaaGreatDoorTie.lean); close each card by the builder's one call (the guide's Derived/Test/ToyasCard.lean, 'card_holds'). Laid BY PROGRAM, IN A SANDBOX (cutbox-door.mjs). By AI agents, Wed Nov 11 2026. No macro, syntax, notation, axiom, sorry.
-/
import Derived.Test.YtlbmpbkfkmabaaaGreatDoorRows
import GoSem.ClaimSeven
namespace Go.Proofs.YtlbmpbkfkmabaaaGreatDoor
namespace Rows

/-- THE TIED CARD OF 'quadrillelaw06.ShowCodes'. -/
def showCodesCard : Claim7 := { stood := { row := showCodesRow, standIns := [], harness := (true, "7b110dc6f7245eaed7ff9abffb59ddf075e28ccef1bc7af4e8e71b6b898c8441"), looks := true }, kinds := [], alts := [], laidByText := true, laidKinds := [.data, .data, .data, .data, .sentinel, .sentinel, .pinned], laidTests := true, laidLooks := .later }
def ShowCodesCardSaid : Prop := Claim7.holds Tryz.pinned (.plain (OpenSpec.ofChange showCodesSpec)) showCodesCard

/-- THE TIED CARD OF 'quadrillelaw11.LexForms'. -/
def lexFormsCard : Claim7 := { stood := { row := lexFormsRow, standIns := [], harness := (true, "7b110dc6f7245eaed7ff9abffb59ddf075e28ccef1bc7af4e8e71b6b898c8441"), looks := true }, kinds := [], alts := [], laidByText := true, laidKinds := [.data, .data, .data, .data, .sentinel, .sentinel, .pinned], laidTests := true, laidLooks := .later }
def LexFormsCardSaid : Prop := Claim7.holds Tryz.pinned (.plain (OpenSpec.ofChange lexFormsSpec)) lexFormsCard

/-- THE TIED CARD OF 'quadrillelaw12.FormulaKnown'. -/
def formulaKnownCard : Claim7 := { stood := { row := formulaKnownRow, standIns := [], harness := (true, "7b110dc6f7245eaed7ff9abffb59ddf075e28ccef1bc7af4e8e71b6b898c8441"), looks := true }, kinds := [], alts := [], laidByText := true, laidKinds := [.data, .data, .data, .data, .sentinel, .sentinel, .pinned], laidTests := true, laidLooks := .later }
def FormulaKnownCardSaid : Prop := Claim7.holds Tryz.pinned (.plain (OpenSpec.ofChange formulaKnownSpec)) formulaKnownCard

/-- THE TIED CARD OF 'quadrillelaw13.WriteNames'. -/
def writeNamesCard : Claim7 := { stood := { row := writeNamesRow, standIns := [], harness := (true, "7b110dc6f7245eaed7ff9abffb59ddf075e28ccef1bc7af4e8e71b6b898c8441"), looks := true }, kinds := [], alts := [], laidByText := true, laidKinds := [.data, .data, .data, .data, .sentinel, .sentinel, .pinned], laidTests := true, laidLooks := .later }
def WriteNamesCardSaid : Prop := Claim7.holds Tryz.pinned (.plain (OpenSpec.ofChange writeNamesSpec)) writeNamesCard

/-- THE SECOND FORM's CARD OF 'quadrillelaw06.ShowCodes'. -/
def showCodesUptoCard : Claim7 := { stood := { row := showCodesUptoRow, standIns := [], harness := (true, "7b110dc6f7245eaed7ff9abffb59ddf075e28ccef1bc7af4e8e71b6b898c8441"), looks := true }, kinds := [], alts := [], laidByText := true, laidKinds := [.data, .data, .data, .data, .sentinel, .sentinel, .pinned], laidTests := true, laidLooks := .later }
def ShowCodesUptoCardSaid : Prop := Claim7.holds Tryz.pinned (.plain (OpenSpec.upto showCodesSpec)) showCodesUptoCard

/-- THE SECOND FORM's CARD OF 'quadrillelaw11.LexForms'. -/
def lexFormsUptoCard : Claim7 := { stood := { row := lexFormsUptoRow, standIns := [], harness := (true, "7b110dc6f7245eaed7ff9abffb59ddf075e28ccef1bc7af4e8e71b6b898c8441"), looks := true }, kinds := [], alts := [], laidByText := true, laidKinds := [.data, .data, .data, .data, .sentinel, .sentinel, .pinned], laidTests := true, laidLooks := .later }
def LexFormsUptoCardSaid : Prop := Claim7.holds Tryz.pinned (.plain (OpenSpec.upto lexFormsSpec)) lexFormsUptoCard

/-- THE SECOND FORM's CARD OF 'quadrillelaw12.FormulaKnown'. -/
def formulaKnownUptoCard : Claim7 := { stood := { row := formulaKnownUptoRow, standIns := [], harness := (true, "7b110dc6f7245eaed7ff9abffb59ddf075e28ccef1bc7af4e8e71b6b898c8441"), looks := true }, kinds := [], alts := [], laidByText := true, laidKinds := [.data, .data, .data, .data, .sentinel, .sentinel, .pinned], laidTests := true, laidLooks := .later }
def FormulaKnownUptoCardSaid : Prop := Claim7.holds Tryz.pinned (.plain (OpenSpec.upto formulaKnownSpec)) formulaKnownUptoCard

/-- THE SECOND FORM's CARD OF 'quadrillelaw13.WriteNames'. -/
def writeNamesUptoCard : Claim7 := { stood := { row := writeNamesUptoRow, standIns := [], harness := (true, "7b110dc6f7245eaed7ff9abffb59ddf075e28ccef1bc7af4e8e71b6b898c8441"), looks := true }, kinds := [], alts := [], laidByText := true, laidKinds := [.data, .data, .data, .data, .sentinel, .sentinel, .pinned], laidTests := true, laidLooks := .later }
def WriteNamesUptoCardSaid : Prop := Claim7.holds Tryz.pinned (.plain (OpenSpec.upto writeNamesSpec)) writeNamesUptoCard
end Rows
end Go.Proofs.YtlbmpbkfkmabaaaGreatDoor
