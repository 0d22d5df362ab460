/-
 NumberRises: of two texts the one with the greater value is never read as the lesser number; no condition (a part of the proof).
-/
import Derived.Test.YtdgfhijnconaoaaGreatDoorR1x10
set_option maxRecDepth 1000000
namespace Go.Proofs.YtdgfhijnconaoaaGreatDoor
open Go Go.RowKit Ev
theorem cz_exact:Ev.Pure Tryz.prog J0 28 [.float .f64 13832806255468478464] (.string ⟨⟨[45,49,46,53]⟩⟩):=
 pure_of bT1_ok 30 [] [] (l:=[]) (by kernel_rfl) trivial
theorem cz_hex:Ev.Pure Tryz.prog J0 29 [.float .f64 4612811918334230528] (.string ⟨⟨[48,120,49,46,52,112,49]⟩⟩):=
 pure_of bT1_ok 30 [] [] (l:=[]) (by kernel_rfl) trivial
end Go.Proofs.YtdgfhijnconaoaaGreatDoor
namespace Go.Proofs.YtdgfhijnconaoaaGreatDoor
open Go Go.RowKit Ev
theorem cz_p1:Ev.Pure Tryz.prog J0 10 [.string ⟨⟨[48,120,49,46,56,112,49]⟩⟩] (.tuple ⟨[.float .f64 4613937818241073152, .int .i64 0]⟩):=
 pure_of bT1_ok 30 [] [] (l:=[]) (by kernel_rfl) trivial
theorem cz_p2:Ev.Pure Tryz.prog J0 10 [.string ⟨⟨[49,101,52,48,48]⟩⟩] (.tuple ⟨[.float .f64 0, .int .i64 15]⟩):=
 pure_of bT1_ok 30 [] [] (l:=[]) (by kernel_rfl) trivial
end Go.Proofs.YtdgfhijnconaoaaGreatDoor
