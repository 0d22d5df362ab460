/-
  DERIVED. GIVEN WITH THE SEED: THE CARDS: each row of YthclpocignpfhaaDoorRows.lean that lists a variable, with what it lists TIED to the program's text (the seventh form; the later family's looks); each row that meets fmt, with fmt's text TOLD by the authors' own Lean function (tested against real Go, not proved from fmt's source: count such statements apart). THE CARD IS WHAT COUNTS. Prove the row's statement (the work); the ties are given (YthclpocignpfhaaDoorTie.lean); close each card by the builder's one call (the guide's Derived/Test/ToyasCard.lean, 'card_holds'). Laid BY PROGRAM, IN A SANDBOX (cutbox-door.mjs). By AI agents, Wed Nov 11 2026. No macro, syntax, notation, axiom, sorry.
-/
import Derived.Test.YthclpocignpfhaaDoorRows
import GoSem.ClaimSeven
namespace Go.Proofs.YthclpocignpfhaaDoor
namespace Rows

/-- THE TIED CARD OF 'quadrillelaw10.AddrTexts'. -/
def addrTextsCard : Claim7 := { stood := { row := addrTextsRow, standIns := [], harness := (true, "17fb1023a1c8fa28b31f01d770220719c4726ffad76d2d80f8ec0c4eadfc6d40"), looks := false }, kinds := [], alts := [], laidByText := true, laidKinds := [.data, .data, .data, .data, .pinned], laidTests := true, laidLooks := .later }
def AddrTextsCardSaid : Prop := Claim7.holds Tryd.pinned (.plain (OpenSpec.ofChange addrTextsSpec)) addrTextsCard

/-- THE TIED CARD OF 'quadrillelaw10.AddrAreas'. -/
def addrAreasCard : Claim7 := { stood := { row := addrAreasRow, standIns := [], harness := (true, "17fb1023a1c8fa28b31f01d770220719c4726ffad76d2d80f8ec0c4eadfc6d40"), looks := false }, kinds := [], alts := [], laidByText := true, laidKinds := [.data, .data, .data, .data, .pinned], laidTests := true, laidLooks := .later }
def AddrAreasCardSaid : Prop := Claim7.holds Tryd.pinned (.plain (OpenSpec.ofChange addrAreasSpec)) addrAreasCard

/-- THE TIED CARD OF 'quadrillelaw10.AddrBack'. -/
def addrBackCard : Claim7 := { stood := { row := addrBackRow, standIns := [], harness := (true, "17fb1023a1c8fa28b31f01d770220719c4726ffad76d2d80f8ec0c4eadfc6d40"), looks := false }, kinds := [], alts := [], laidByText := true, laidKinds := [.data, .data, .data, .data, .pinned], laidTests := true, laidLooks := .later }
def AddrBackCardSaid : Prop := Claim7.holds Tryd.pinned (.plain (OpenSpec.ofChange addrBackSpec)) addrBackCard

/-- THE TIED CARD OF 'quadrillelaw10.AddrCells'. -/
def addrCellsCard : Claim7 := { stood := { row := addrCellsRow, standIns := [], harness := (true, "17fb1023a1c8fa28b31f01d770220719c4726ffad76d2d80f8ec0c4eadfc6d40"), looks := false }, kinds := [], alts := [], laidByText := true, laidKinds := [.data, .data, .data, .data, .pinned], laidTests := true, laidLooks := .later }
def AddrCellsCardSaid : Prop := Claim7.holds Tryd.pinned (.plain (OpenSpec.ofChange addrCellsSpec)) addrCellsCard

/-- THE TIED CARD OF 'quadrillelaw10.AddrMeet'. -/
def addrMeetCard : Claim7 := { stood := { row := addrMeetRow, standIns := [], harness := (true, "17fb1023a1c8fa28b31f01d770220719c4726ffad76d2d80f8ec0c4eadfc6d40"), looks := false }, kinds := [], alts := [], laidByText := true, laidKinds := [.data, .data, .data, .data, .pinned], laidTests := true, laidLooks := .later }
def AddrMeetCardSaid : Prop := Claim7.holds Tryd.pinned (.plain (OpenSpec.ofChange addrMeetSpec)) addrMeetCard

/-- THE SECOND FORM's CARD OF 'quadrillelaw10.AddrTexts'. -/
def addrTextsUptoCard : Claim7 := { stood := { row := addrTextsUptoRow, standIns := [], harness := (true, "17fb1023a1c8fa28b31f01d770220719c4726ffad76d2d80f8ec0c4eadfc6d40"), looks := false }, kinds := [], alts := [], laidByText := true, laidKinds := [.data, .data, .data, .data, .pinned], laidTests := true, laidLooks := .later }
def AddrTextsUptoCardSaid : Prop := Claim7.holds Tryd.pinned (.plain (OpenSpec.upto addrTextsSpec)) addrTextsUptoCard

/-- THE SECOND FORM's CARD OF 'quadrillelaw10.AddrAreas'. -/
def addrAreasUptoCard : Claim7 := { stood := { row := addrAreasUptoRow, standIns := [], harness := (true, "17fb1023a1c8fa28b31f01d770220719c4726ffad76d2d80f8ec0c4eadfc6d40"), looks := false }, kinds := [], alts := [], laidByText := true, laidKinds := [.data, .data, .data, .data, .pinned], laidTests := true, laidLooks := .later }
def AddrAreasUptoCardSaid : Prop := Claim7.holds Tryd.pinned (.plain (OpenSpec.upto addrAreasSpec)) addrAreasUptoCard

/-- THE SECOND FORM's CARD OF 'quadrillelaw10.AddrBack'. -/
def addrBackUptoCard : Claim7 := { stood := { row := addrBackUptoRow, standIns := [], harness := (true, "17fb1023a1c8fa28b31f01d770220719c4726ffad76d2d80f8ec0c4eadfc6d40"), looks := false }, kinds := [], alts := [], laidByText := true, laidKinds := [.data, .data, .data, .data, .pinned], laidTests := true, laidLooks := .later }
def AddrBackUptoCardSaid : Prop := Claim7.holds Tryd.pinned (.plain (OpenSpec.upto addrBackSpec)) addrBackUptoCard

/-- THE SECOND FORM's CARD OF 'quadrillelaw10.AddrCells'. -/
def addrCellsUptoCard : Claim7 := { stood := { row := addrCellsUptoRow, standIns := [], harness := (true, "17fb1023a1c8fa28b31f01d770220719c4726ffad76d2d80f8ec0c4eadfc6d40"), looks := false }, kinds := [], alts := [], laidByText := true, laidKinds := [.data, .data, .data, .data, .pinned], laidTests := true, laidLooks := .later }
def AddrCellsUptoCardSaid : Prop := Claim7.holds Tryd.pinned (.plain (OpenSpec.upto addrCellsSpec)) addrCellsUptoCard

/-- THE SECOND FORM's CARD OF 'quadrillelaw10.AddrMeet'. -/
def addrMeetUptoCard : Claim7 := { stood := { row := addrMeetUptoRow, standIns := [], harness := (true, "17fb1023a1c8fa28b31f01d770220719c4726ffad76d2d80f8ec0c4eadfc6d40"), looks := false }, kinds := [], alts := [], laidByText := true, laidKinds := [.data, .data, .data, .data, .pinned], laidTests := true, laidLooks := .later }
def AddrMeetUptoCardSaid : Prop := Claim7.holds Tryd.pinned (.plain (OpenSpec.upto addrMeetSpec)) addrMeetUptoCard
end Rows
end Go.Proofs.YthclpocignpfhaaDoor
