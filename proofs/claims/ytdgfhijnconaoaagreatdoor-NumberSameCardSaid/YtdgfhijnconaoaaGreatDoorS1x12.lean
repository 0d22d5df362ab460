/-
 NumberSame: a number read from several spellings of the same value is the same; no condition (a part of the proof).
-/
import Derived.Test.YtdgfhijnconaoaaGreatDoorS1x07
set_option maxRecDepth 1000000
namespace Go.Proofs.YtdgfhijnconaoaaGreatDoor
open Go Go.RowKit Ev
theorem a2y:Pure Tryz.prog J0 50 [.float .f64 4653144203864309760] (.tuple ⟨[.agg ⟨[.bool false, .string ⟨⟨[49,50,51,52,53]⟩⟩, .int .i64 (-1)]⟩, .int .i64 0]⟩):=
 d6 y6 30 [] [] (l:=[]) (by kernel_rfl) trivial
theorem v1p:Pure Tryz.prog J0 50 [.float .f64 4591870180066957722] (.tuple ⟨[.agg ⟨[.bool false, .string ⟨⟨[49,48,48,48,48,48,48,48,48,48,48,48,48,48,48,48,48,53,53,53,49,49,49,53,49,50,51,49,50,53,55,56,50,55,48,50,49,49,56,49,53,56,51,52,48,52,53,52,49,48,49,53,54,50,53]⟩⟩, .int .i64 (-55)]⟩, .int .i64 0]⟩):=
 d6 y6 30 [] [] (l:=[]) (by kernel_rfl) trivial
end Go.Proofs.YtdgfhijnconaoaaGreatDoor
