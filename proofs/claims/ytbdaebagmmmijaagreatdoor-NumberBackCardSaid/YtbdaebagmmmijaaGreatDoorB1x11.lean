/-
 NumberBack: the whole text, the short text, the hexadecimal text and seventeen figures of any number are read as just that number; nine figures of a single are read as that single. No condition.
-/
import Derived.Test.YtbdaebagmmmijaaGreatDoorB1x07
set_option maxRecDepth 1000000
open Go.Proofs.Tryz renaming prog->zO7
open Go.IntKind renaming i64->iI,u64->uI,u32->uJ
noncomputable section
namespace Go.Proofs.YtbdaebagmmmijaaGreatDoor
open Go Go.RowKit Ev
theorem r1o:Ev.Pure zO7 J0 21 [.float .f64 13832806255468478464] (.string ⟨⟨[45,49,46,53]⟩⟩):=
 d6 B7 30 [] [] (l:=[]) (by kernel_rfl) trivial
theorem l2q:Ev.Pure zO7 J0 25 [.float .f64 4612811918334230528] (.string ⟨⟨[48,120,49,46,52,112,49]⟩⟩):=
 d6 B7 30 [] [] (l:=[]) (by kernel_rfl) trivial
theorem u2e:Ev.Pure zO7 J0 10 [.string ⟨⟨[48,120,49,46,56,112,49]⟩⟩] (.tuple ⟨[.float .f64 4613937818241073152, .int .i64 0]⟩):=
 d6 B7 30 [] [] (l:=[]) (by kernel_rfl) trivial
theorem t2q:Ev.Pure zO7 J0 10 [.string ⟨⟨[49,101,52,48,48]⟩⟩] (.tuple ⟨[.float .f64 0, .int .i64 15]⟩):=
 d6 B7 30 [] [] (l:=[]) (by kernel_rfl) trivial
end Go.Proofs.YtbdaebagmmmijaaGreatDoor
