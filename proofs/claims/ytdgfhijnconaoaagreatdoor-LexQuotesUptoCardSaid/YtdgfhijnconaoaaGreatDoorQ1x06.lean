/-
 LexQuotes: a quoted text is one word, which says it, unless it is too long or no right UTF-8; cut off it ends too early; texts of ordinary size (a part of the proof).
-/
import Derived.Test.YtdgfhijnconaoaaGreatDoorQ1x04
set_option maxRecDepth 1000000
namespace Go.Proofs.YtdgfhijnconaoaaGreatDoor
open Go Go.RowKit Ev
theorem cc9_0:Pure Tryz.prog J0 50 [.float .f64 4611686018427387904] (.tuple ⟨[.agg ⟨[.bool false, .string ⟨⟨[50]⟩⟩, .int .i64 0]⟩, .int .i64 0]⟩):=
 pure_of bT1_ok 30 [] [] (l:=[]) (by kernel_rfl) trivial
theorem cc9_1:Pure Tryz.prog J0 52 [.agg ⟨[.bool false, .string ⟨⟨[50]⟩⟩, .int .i64 0]⟩, .int .i64 1, .int .i64 1] (.tuple ⟨[.agg ⟨[.bool false, .string ⟨⟨[50]⟩⟩, .int .i64 0]⟩, .int .i64 0]⟩):=
 pure_of bT1_ok 30 [] [] (l:=[]) (by kernel_rfl) trivial
theorem cc9_2:Pure Tryz.prog J0 33 [.agg ⟨[.bool false, .string ⟨⟨[50]⟩⟩, .int .i64 0]⟩, .int .i64 1] (.tuple ⟨[.float .f64 4611686018427387904, .agg ⟨[.bool false, .bool false, .bool false]⟩, .int .i64 0]⟩):=
 pure_of bT1_ok 30 [] [] (l:=[]) (by kernel_rfl) trivial
theorem cc9_3:Pure Tryz.prog J0 50 [.float .f64 4613937818241073152] (.tuple ⟨[.agg ⟨[.bool false, .string ⟨⟨[51]⟩⟩, .int .i64 0]⟩, .int .i64 0]⟩):=
 pure_of bT1_ok 30 [] [] (l:=[]) (by kernel_rfl) trivial
theorem cc9_4:Pure Tryz.prog J0 52 [.agg ⟨[.bool false, .string ⟨⟨[51]⟩⟩, .int .i64 0]⟩, .int .i64 1, .int .i64 1] (.tuple ⟨[.agg ⟨[.bool false, .string ⟨⟨[51]⟩⟩, .int .i64 0]⟩, .int .i64 0]⟩):=
 pure_of bT1_ok 30 [] [] (l:=[]) (by kernel_rfl) trivial
theorem cc9_5:Pure Tryz.prog J0 33 [.agg ⟨[.bool false, .string ⟨⟨[51]⟩⟩, .int .i64 0]⟩, .int .i64 1] (.tuple ⟨[.float .f64 4613937818241073152, .agg ⟨[.bool false, .bool false, .bool false]⟩, .int .i64 0]⟩):=
 pure_of bT1_ok 30 [] [] (l:=[]) (by kernel_rfl) trivial
end Go.Proofs.YtdgfhijnconaoaaGreatDoor
