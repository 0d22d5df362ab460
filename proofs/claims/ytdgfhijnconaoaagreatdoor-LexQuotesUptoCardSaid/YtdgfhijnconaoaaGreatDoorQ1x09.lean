/-
 LexQuotes: a quoted text is one word, which says it, unless it is too long or no right UTF-8; cut off it ends too early; texts of ordinary size (a part of the proof).
-/
import Derived.Test.YtdgfhijnconaoaaGreatDoorQ1x08
set_option maxRecDepth 1000000
namespace Go.Proofs.YtdgfhijnconaoaaGreatDoor
open Go Go.RowKit Ev
theorem known11:Pure Tryz.prog J0 24 [] (.bool true):=
 pure_of bE1_ok 31 [] [] (l:=[]) (by kernel_rfl) trivial
end Go.Proofs.YtdgfhijnconaoaaGreatDoor
