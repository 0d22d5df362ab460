/-
 NumberNear: a decimal that is read as a finite number lies nowhere beyond the middle between it and its neighbours; no condition (a part of the proof).
-/
import Derived.Test.YtbdaebagmmmijaaGreatDoorN1x08
set_option maxRecDepth 1000000
open Go.Proofs.Tryz renaming prog->zO8
open Go.IntKind renaming i64->iI,u64->uI,u8->uB
noncomputable section
namespace Go.Proofs.YtbdaebagmmmijaaGreatDoor
open Go Go.RowKit Ev
theorem m1o:Ev.Pure zO8 J0 21 [.float .f64 13832806255468478464] (.string ⟨⟨[45,49,46,53]⟩⟩):=
 g9 B0 30 [] [] (l:=[]) (by kernel_rfl) trivial
theorem h2g:Ev.Pure zO8 J0 25 [.float .f64 4612811918334230528] (.string ⟨⟨[48,120,49,46,52,112,49]⟩⟩):=
 g9 B0 30 [] [] (l:=[]) (by kernel_rfl) trivial
theorem m2s:Ev.Pure zO8 J0 10 [.string ⟨⟨[48,120,49,46,56,112,49]⟩⟩] (.tuple ⟨[.float .f64 4613937818241073152, .int .i64 0]⟩):=
 g9 B0 30 [] [] (l:=[]) (by kernel_rfl) trivial
theorem q2h:Ev.Pure zO8 J0 10 [.string ⟨⟨[49,101,52,48,48]⟩⟩] (.tuple ⟨[.float .f64 0, .int .i64 15]⟩):=
 g9 B0 30 [] [] (l:=[]) (by kernel_rfl) trivial
end Go.Proofs.YtbdaebagmmmijaaGreatDoor
