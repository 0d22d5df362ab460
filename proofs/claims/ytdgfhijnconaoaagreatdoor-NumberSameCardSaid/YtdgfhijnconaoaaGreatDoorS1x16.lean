/-
 NumberSame: a number read from several spellings of the same value is the same; no condition (a part of the proof).
-/
import Derived.Test.YtdgfhijnconaoaaGreatDoorS1x07
set_option maxRecDepth 1000000
namespace Go.Proofs.YtdgfhijnconaoaaGreatDoor
open Go Go.RowKit Ev
theorem c2f:Pure Tryz.prog J0 33 [.agg ⟨[.bool false, .string ⟨⟨[51]⟩⟩, .int .i64 0]⟩, .int .i64 1] (.tuple ⟨[.float .f64 4613937818241073152, .agg ⟨[.bool false, .bool false, .bool false]⟩, .int .i64 0]⟩):=
 d6 y6 30 [] [] (l:=[]) (by kernel_rfl) trivial
theorem b2l:Pure Tryz.prog J0 33 [.agg ⟨[.bool false, .string ⟨⟨[50,56]⟩⟩, .int .i64 (-1)]⟩, .int .i64 1] (.tuple ⟨[.float .f64 4613487458278336102, .agg ⟨[.bool true, .bool false, .bool false]⟩, .int .i64 0]⟩):=
 d6 y6 30 [] [] (l:=[]) (by kernel_rfl) trivial
theorem d2h:Pure Tryz.prog J0 33 [.agg ⟨[.bool false, .string ⟨⟨[50,55,53]⟩⟩, .int .i64 (-2)]⟩, .int .i64 1] (.tuple ⟨[.float .f64 4613374868287651840, .agg ⟨[.bool false, .bool false, .bool false]⟩, .int .i64 0]⟩):=
 d6 y6 30 [] [] (l:=[]) (by kernel_rfl) trivial
end Go.Proofs.YtdgfhijnconaoaaGreatDoor
