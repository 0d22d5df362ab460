/-
 NumberBack: the whole text, the short text, the hexadecimal text and seventeen figures of any number are read as just that number; nine figures of a single are read as that single. No condition.
-/
import Derived.Test.YtbdaebagmmmijaaGreatDoorB1x07
set_option maxRecDepth 1000000
open Go.Proofs.Tryz renaming prog->zO7
open Go.IntKind renaming i64->iI,u64->uI,u32->uJ
noncomputable section
namespace Go.Proofs.YtbdaebagmmmijaaGreatDoor
open Go Go.RowKit Ev
theorem v2x:Pure zO7 J0 50 [.float .f64 4653144203864309760] (.tuple ⟨[.agg ⟨[.bool false, .string ⟨⟨[49,50,51,52,53]⟩⟩, .int .i64 (-1)]⟩, .int .i64 0]⟩):=
 d6 B7 30 [] [] (l:=[]) (by kernel_rfl) trivial
theorem o2a:Pure zO7 J0 50 [.float .f64 4591870180066957722] (.tuple ⟨[.agg ⟨[.bool false, .string ⟨⟨[49,48,48,48,48,48,48,48,48,48,48,48,48,48,48,48,48,53,53,53,49,49,49,53,49,50,51,49,50,53,55,56,50,55,48,50,49,49,56,49,53,56,51,52,48,52,53,52,49,48,49,53,54,50,53]⟩⟩, .int .i64 (-55)]⟩, .int .i64 0]⟩):=
 d6 B7 30 [] [] (l:=[]) (by kernel_rfl) trivial
end Go.Proofs.YtbdaebagmmmijaaGreatDoor
