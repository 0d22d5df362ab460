/-
 NumberBack: the whole text, the short text, the hexadecimal text and seventeen figures of any number are read as just that number; nine figures of a single are read as that single. No condition.
-/
import Derived.Test.YtbdaebagmmmijaaGreatDoorB1x07
set_option maxRecDepth 1000000
open Go.Proofs.Tryz renaming prog->zO7
open Go.IntKind renaming i64->iI,u64->uI,u32->uJ
noncomputable section
namespace Go.Proofs.YtbdaebagmmmijaaGreatDoor
open Go Go.RowKit Ev
theorem t2o:Pure zO7 J0 40 [.agg ⟨[.bool false, .string ⟨⟨[49]⟩⟩, .int .i64 3]⟩, .int .i64 1] (.tuple ⟨[.float .f64 4652007308841189376, .agg ⟨[.bool false, .bool false, .bool false]⟩, .int .i64 0]⟩):=
 d6 B7 30 [] [] (l:=[]) (by kernel_rfl) trivial
theorem u2y:Pure zO7 J0 40 [.agg ⟨[.bool false, .string ⟨⟨[49,50]⟩⟩, .int .i64 2]⟩, .int .i64 1] (.tuple ⟨[.float .f64 4652992471259676672, .agg ⟨[.bool false, .bool false, .bool false]⟩, .int .i64 0]⟩):=
 d6 B7 30 [] [] (l:=[]) (by kernel_rfl) trivial
theorem s2s:Pure zO7 J0 40 [.agg ⟨[.bool false, .string ⟨⟨[49,50,51]⟩⟩, .int .i64 1]⟩, .int .i64 1] (.tuple ⟨[.float .f64 4653124412655009792, .agg ⟨[.bool false, .bool false, .bool false]⟩, .int .i64 0]⟩):=
 d6 B7 30 [] [] (l:=[]) (by kernel_rfl) trivial
theorem t2l:Pure zO7 J0 40 [.agg ⟨[.bool false, .string ⟨⟨[49,50,51,52]⟩⟩, .int .i64 0]⟩, .int .i64 1] (.tuple ⟨[.float .f64 4653142004841054208, .agg ⟨[.bool false, .bool false, .bool false]⟩, .int .i64 0]⟩):=
 d6 B7 30 [] [] (l:=[]) (by kernel_rfl) trivial
end Go.Proofs.YtbdaebagmmmijaaGreatDoor
