/-
 NumberReads: any text is read as the document reads it; no condition (a part of the proof).
-/
import Derived.Test.YtkiejangmhhofaaGreatDoorR1x07
set_option maxRecDepth 1000000
open Go.Proofs.Tryz renaming prog->zO8
open Go.IntKind renaming i64->iI,u64->uI,u32->uJ,u8->uB
noncomputable section
namespace Go.Proofs.YtkiejangmhhofaaGreatDoor
open Go Go.RowKit Ev
theorem u1a:Ev.Pure zO8 J0 36 [.float .f64 13832806255468478464] (.string ⟨⟨[45,49,46,53]⟩⟩):=
 i7 D8 30 [] [] (l:=[]) (by kernel_rfl) trivial
theorem p2m:Ev.Pure zO8 J0 37 [.float .f64 4612811918334230528] (.string ⟨⟨[48,120,49,46,52,112,49]⟩⟩):=
 i7 D8 30 [] [] (l:=[]) (by kernel_rfl) trivial
theorem t2v:Ev.Pure zO8 J0 8 [.string ⟨⟨[48,120,49,46,56,112,49]⟩⟩] (.tuple ⟨[.float .f64 4613937818241073152, .int .i64 0]⟩):=
 i7 D8 30 [] [] (l:=[]) (by kernel_rfl) trivial
theorem b3a:Ev.Pure zO8 J0 8 [.string ⟨⟨[49,101,52,48,48]⟩⟩] (.tuple ⟨[.float .f64 0, .int .i64 15]⟩):=
 i7 D8 30 [] [] (l:=[]) (by kernel_rfl) trivial
end Go.Proofs.YtkiejangmhhofaaGreatDoor
