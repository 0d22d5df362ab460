/-
 NumberSame: a number read from several spellings of the same value is the same; no condition (a part of the proof).
-/
import Derived.Test.YtdgfhijnconaoaaGreatDoorS1x07
set_option maxRecDepth 1000000
namespace Go.Proofs.YtdgfhijnconaoaaGreatDoor
open Go Go.RowKit Ev
theorem z1f:Pure Tryz.prog J0 52 [.agg ⟨[.bool false, .string ⟨⟨[49,50,51,52,53]⟩⟩, .int .i64 (-1)]⟩, .int .i64 1, .int .i64 1] (.tuple ⟨[.agg ⟨[.bool false, .string ⟨⟨[49]⟩⟩, .int .i64 3]⟩, .int .i64 0]⟩):=
 d6 y6 30 [] [] (l:=[]) (by kernel_rfl) trivial
theorem b2j:Pure Tryz.prog J0 52 [.agg ⟨[.bool false, .string ⟨⟨[49,50,51,52,53]⟩⟩, .int .i64 (-1)]⟩, .int .i64 2, .int .i64 1] (.tuple ⟨[.agg ⟨[.bool false, .string ⟨⟨[49,50]⟩⟩, .int .i64 2]⟩, .int .i64 0]⟩):=
 d6 y6 30 [] [] (l:=[]) (by kernel_rfl) trivial
theorem y1w:Pure Tryz.prog J0 52 [.agg ⟨[.bool false, .string ⟨⟨[49,50,51,52,53]⟩⟩, .int .i64 (-1)]⟩, .int .i64 3, .int .i64 1] (.tuple ⟨[.agg ⟨[.bool false, .string ⟨⟨[49,50,51]⟩⟩, .int .i64 1]⟩, .int .i64 0]⟩):=
 d6 y6 30 [] [] (l:=[]) (by kernel_rfl) trivial
theorem c2r:Pure Tryz.prog J0 52 [.agg ⟨[.bool false, .string ⟨⟨[49,50,51,52,53]⟩⟩, .int .i64 (-1)]⟩, .int .i64 4, .int .i64 1] (.tuple ⟨[.agg ⟨[.bool false, .string ⟨⟨[49,50,51,52]⟩⟩, .int .i64 0]⟩, .int .i64 0]⟩):=
 d6 y6 30 [] [] (l:=[]) (by kernel_rfl) trivial
theorem c2u:Pure Tryz.prog J0 52 [.agg ⟨[.bool false, .string ⟨⟨[49,50,51,52,53]⟩⟩, .int .i64 (-1)]⟩, .int .i64 5, .int .i64 1] (.tuple ⟨[.agg ⟨[.bool false, .string ⟨⟨[49,50,51,52,53]⟩⟩, .int .i64 (-1)]⟩, .int .i64 0]⟩):=
 d6 y6 30 [] [] (l:=[]) (by kernel_rfl) trivial
end Go.Proofs.YtdgfhijnconaoaaGreatDoor
