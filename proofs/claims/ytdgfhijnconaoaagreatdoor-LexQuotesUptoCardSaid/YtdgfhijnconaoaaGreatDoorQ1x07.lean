/-
 LexQuotes: a quoted text is one word, which says it, unless it is too long or no right UTF-8; cut off it ends too early; texts of ordinary size (a part of the proof).
-/
import Derived.Test.YtdgfhijnconaoaaGreatDoorQ1x04
set_option maxRecDepth 1000000
namespace Go.Proofs.YtdgfhijnconaoaaGreatDoor
open Go Go.RowKit Ev
theorem cc10_0:Pure Tryz.prog J0 10 [.string ⟨⟨[50]⟩⟩] (.tuple ⟨[.float .f64 4611686018427387904, .int .i64 0]⟩):=
 pure_of bT1_ok 30 [] [] (l:=[]) (by kernel_rfl) trivial
theorem cc10_1:Pure Tryz.prog J0 10 [.string ⟨⟨[49,46,53]⟩⟩] (.tuple ⟨[.float .f64 4609434218613702656, .int .i64 0]⟩):=
 pure_of bT1_ok 30 [] [] (l:=[]) (by kernel_rfl) trivial
end Go.Proofs.YtdgfhijnconaoaaGreatDoor
