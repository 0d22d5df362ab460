/-
 NumberSame: a number read from several spellings of the same value is the same; no condition (a part of the proof).
-/
import Derived.Test.YtdgfhijnconaoaaGreatDoorS1x07
set_option maxRecDepth 1000000
namespace Go.Proofs.YtdgfhijnconaoaaGreatDoor
open Go Go.RowKit Ev
theorem f1w:Ev.Pure Tryz.prog J0 28 [.float .f64 13832806255468478464] (.string ⟨⟨[45,49,46,53]⟩⟩):=
 d6 y6 30 [] [] (l:=[]) (by kernel_rfl) trivial
theorem s1g:Ev.Pure Tryz.prog J0 29 [.float .f64 4612811918334230528] (.string ⟨⟨[48,120,49,46,52,112,49]⟩⟩):=
 d6 y6 30 [] [] (l:=[]) (by kernel_rfl) trivial
theorem a2h:Ev.Pure Tryz.prog J0 10 [.string ⟨⟨[48,120,49,46,56,112,49]⟩⟩] (.tuple ⟨[.float .f64 4613937818241073152, .int .i64 0]⟩):=
 d6 y6 30 [] [] (l:=[]) (by kernel_rfl) trivial
theorem d2b:Ev.Pure Tryz.prog J0 10 [.string ⟨⟨[49,101,52,48,48]⟩⟩] (.tuple ⟨[.float .f64 0, .int .i64 15]⟩):=
 d6 y6 30 [] [] (l:=[]) (by kernel_rfl) trivial
end Go.Proofs.YtdgfhijnconaoaaGreatDoor
