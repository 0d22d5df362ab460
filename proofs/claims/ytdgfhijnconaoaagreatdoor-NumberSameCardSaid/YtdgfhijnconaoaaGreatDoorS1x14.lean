/-
 NumberSame: a number read from several spellings of the same value is the same; no condition (a part of the proof).
-/
import Derived.Test.YtdgfhijnconaoaaGreatDoorS1x07
set_option maxRecDepth 1000000
namespace Go.Proofs.YtdgfhijnconaoaaGreatDoor
open Go Go.RowKit Ev
theorem z1i:Pure Tryz.prog J0 33 [.agg ⟨[.bool false, .string ⟨⟨[49]⟩⟩, .int .i64 3]⟩, .int .i64 1] (.tuple ⟨[.float .f64 4652007308841189376, .agg ⟨[.bool false, .bool false, .bool false]⟩, .int .i64 0]⟩):=
 d6 y6 30 [] [] (l:=[]) (by kernel_rfl) trivial
theorem b2m:Pure Tryz.prog J0 33 [.agg ⟨[.bool false, .string ⟨⟨[49,50]⟩⟩, .int .i64 2]⟩, .int .i64 1] (.tuple ⟨[.float .f64 4652992471259676672, .agg ⟨[.bool false, .bool false, .bool false]⟩, .int .i64 0]⟩):=
 d6 y6 30 [] [] (l:=[]) (by kernel_rfl) trivial
theorem a2w:Pure Tryz.prog J0 33 [.agg ⟨[.bool false, .string ⟨⟨[49,50,51]⟩⟩, .int .i64 1]⟩, .int .i64 1] (.tuple ⟨[.float .f64 4653124412655009792, .agg ⟨[.bool false, .bool false, .bool false]⟩, .int .i64 0]⟩):=
 d6 y6 30 [] [] (l:=[]) (by kernel_rfl) trivial
theorem z1g:Pure Tryz.prog J0 33 [.agg ⟨[.bool false, .string ⟨⟨[49,50,51,52]⟩⟩, .int .i64 0]⟩, .int .i64 1] (.tuple ⟨[.float .f64 4653142004841054208, .agg ⟨[.bool false, .bool false, .bool false]⟩, .int .i64 0]⟩):=
 d6 y6 30 [] [] (l:=[]) (by kernel_rfl) trivial
end Go.Proofs.YtdgfhijnconaoaaGreatDoor
