/-
 NumberBack: the whole text, the short text, the hexadecimal text and seventeen figures of any number are read as just that number; nine figures of a single are read as that single. No condition.
-/
import Derived.Test.YtbdaebagmmmijaaGreatDoorB1x07
set_option maxRecDepth 1000000
open Go.Proofs.Tryz renaming prog->zO7
open Go.IntKind renaming i64->iI,u64->uI,u32->uJ
noncomputable section
namespace Go.Proofs.YtbdaebagmmmijaaGreatDoor
open Go Go.RowKit Ev
theorem u2h:Pure zO7 J0 40 [.agg ⟨[.bool false, .string ⟨⟨[51]⟩⟩, .int .i64 0]⟩, .int .i64 1] (.tuple ⟨[.float .f64 4613937818241073152, .agg ⟨[.bool false, .bool false, .bool false]⟩, .int .i64 0]⟩):=
 d6 B7 30 [] [] (l:=[]) (by kernel_rfl) trivial
theorem s2c:Pure zO7 J0 40 [.agg ⟨[.bool false, .string ⟨⟨[50,56]⟩⟩, .int .i64 (-1)]⟩, .int .i64 1] (.tuple ⟨[.float .f64 4613487458278336102, .agg ⟨[.bool true, .bool false, .bool false]⟩, .int .i64 0]⟩):=
 d6 B7 30 [] [] (l:=[]) (by kernel_rfl) trivial
theorem w2f:Pure zO7 J0 40 [.agg ⟨[.bool false, .string ⟨⟨[50,55,53]⟩⟩, .int .i64 (-2)]⟩, .int .i64 1] (.tuple ⟨[.float .f64 4613374868287651840, .agg ⟨[.bool false, .bool false, .bool false]⟩, .int .i64 0]⟩):=
 d6 B7 30 [] [] (l:=[]) (by kernel_rfl) trivial
end Go.Proofs.YtbdaebagmmmijaaGreatDoor
