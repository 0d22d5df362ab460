/-
 NumberReads: any text is read as the document reads it; no condition (a part of the proof).
-/
import Derived.Test.YtkiejangmhhofaaGreatDoorR1x07
set_option maxRecDepth 1000000
open Go.Proofs.Tryz renaming prog->zO8
open Go.IntKind renaming i64->iI,u64->uI,u32->uJ,u8->uB
noncomputable section
namespace Go.Proofs.YtkiejangmhhofaaGreatDoor
open Go Go.RowKit Ev
theorem a3a:Pure zO8 J0 76 [.agg ⟨[.bool false, .string ⟨⟨[49,50,51,52,53]⟩⟩, .int .i64 (-1)]⟩, .int .i64 1, .int .i64 1] (.tuple ⟨[.agg ⟨[.bool false, .string ⟨⟨[49]⟩⟩, .int .i64 3]⟩, .int .i64 0]⟩):=
 i7 D8 30 [] [] (l:=[]) (by kernel_rfl) trivial
theorem w2q:Pure zO8 J0 76 [.agg ⟨[.bool false, .string ⟨⟨[49,50,51,52,53]⟩⟩, .int .i64 (-1)]⟩, .int .i64 2, .int .i64 1] (.tuple ⟨[.agg ⟨[.bool false, .string ⟨⟨[49,50]⟩⟩, .int .i64 2]⟩, .int .i64 0]⟩):=
 i7 D8 30 [] [] (l:=[]) (by kernel_rfl) trivial
theorem a3u:Pure zO8 J0 76 [.agg ⟨[.bool false, .string ⟨⟨[49,50,51,52,53]⟩⟩, .int .i64 (-1)]⟩, .int .i64 3, .int .i64 1] (.tuple ⟨[.agg ⟨[.bool false, .string ⟨⟨[49,50,51]⟩⟩, .int .i64 1]⟩, .int .i64 0]⟩):=
 i7 D8 30 [] [] (l:=[]) (by kernel_rfl) trivial
theorem u2a:Pure zO8 J0 76 [.agg ⟨[.bool false, .string ⟨⟨[49,50,51,52,53]⟩⟩, .int .i64 (-1)]⟩, .int .i64 4, .int .i64 1] (.tuple ⟨[.agg ⟨[.bool false, .string ⟨⟨[49,50,51,52]⟩⟩, .int .i64 0]⟩, .int .i64 0]⟩):=
 i7 D8 30 [] [] (l:=[]) (by kernel_rfl) trivial
theorem a3q:Pure zO8 J0 76 [.agg ⟨[.bool false, .string ⟨⟨[49,50,51,52,53]⟩⟩, .int .i64 (-1)]⟩, .int .i64 5, .int .i64 1] (.tuple ⟨[.agg ⟨[.bool false, .string ⟨⟨[49,50,51,52,53]⟩⟩, .int .i64 (-1)]⟩, .int .i64 0]⟩):=
 i7 D8 30 [] [] (l:=[]) (by kernel_rfl) trivial
end Go.Proofs.YtkiejangmhhofaaGreatDoor
