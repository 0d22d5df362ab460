/-
 NumberReads: any text is read as the document reads it; no condition (a part of the proof).
-/
import Derived.Test.YtkiejangmhhofaaGreatDoorR1x07
set_option maxRecDepth 1000000
open Go.Proofs.Tryz renaming prog->zO8
open Go.IntKind renaming i64->iI,u64->uI,u32->uJ,u8->uB
noncomputable section
namespace Go.Proofs.YtkiejangmhhofaaGreatDoor
open Go Go.RowKit Ev
theorem z2y:Pure zO8 J0 42 [.agg ⟨[.bool false, .string ⟨⟨[51]⟩⟩, .int .i64 0]⟩, .int .i64 1] (.tuple ⟨[.float .f64 4613937818241073152, .agg ⟨[.bool false, .bool false, .bool false]⟩, .int .i64 0]⟩):=
 i7 D8 30 [] [] (l:=[]) (by kernel_rfl) trivial
theorem u2q:Pure zO8 J0 42 [.agg ⟨[.bool false, .string ⟨⟨[50,56]⟩⟩, .int .i64 (-1)]⟩, .int .i64 1] (.tuple ⟨[.float .f64 4613487458278336102, .agg ⟨[.bool true, .bool false, .bool false]⟩, .int .i64 0]⟩):=
 i7 D8 30 [] [] (l:=[]) (by kernel_rfl) trivial
theorem a3c:Pure zO8 J0 42 [.agg ⟨[.bool false, .string ⟨⟨[50,55,53]⟩⟩, .int .i64 (-2)]⟩, .int .i64 1] (.tuple ⟨[.float .f64 4613374868287651840, .agg ⟨[.bool false, .bool false, .bool false]⟩, .int .i64 0]⟩):=
 i7 D8 30 [] [] (l:=[]) (by kernel_rfl) trivial
end Go.Proofs.YtkiejangmhhofaaGreatDoor
