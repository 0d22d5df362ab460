/-
 NumberNear: a decimal that is read as a finite number lies nowhere beyond the middle between it and its neighbours; no condition (a part of the proof).
-/
import Derived.Test.YtbdaebagmmmijaaGreatDoorN1x08
set_option maxRecDepth 1000000
open Go.Proofs.Tryz renaming prog->zO8
open Go.IntKind renaming i64->iI,u64->uI,u8->uB
noncomputable section
namespace Go.Proofs.YtbdaebagmmmijaaGreatDoor
open Go Go.RowKit Ev
theorem p2n:Pure zO8 J0 40 [.agg ⟨[.bool false, .string ⟨⟨[49]⟩⟩, .int .i64 3]⟩, .int .i64 1] (.tuple ⟨[.float .f64 4652007308841189376, .agg ⟨[.bool false, .bool false, .bool false]⟩, .int .i64 0]⟩):=
 g9 B0 30 [] [] (l:=[]) (by kernel_rfl) trivial
theorem l2t:Pure zO8 J0 40 [.agg ⟨[.bool false, .string ⟨⟨[49,50]⟩⟩, .int .i64 2]⟩, .int .i64 1] (.tuple ⟨[.float .f64 4652992471259676672, .agg ⟨[.bool false, .bool false, .bool false]⟩, .int .i64 0]⟩):=
 g9 B0 30 [] [] (l:=[]) (by kernel_rfl) trivial
theorem n2x:Pure zO8 J0 40 [.agg ⟨[.bool false, .string ⟨⟨[49,50,51]⟩⟩, .int .i64 1]⟩, .int .i64 1] (.tuple ⟨[.float .f64 4653124412655009792, .agg ⟨[.bool false, .bool false, .bool false]⟩, .int .i64 0]⟩):=
 g9 B0 30 [] [] (l:=[]) (by kernel_rfl) trivial
theorem q2a:Pure zO8 J0 40 [.agg ⟨[.bool false, .string ⟨⟨[49,50,51,52]⟩⟩, .int .i64 0]⟩, .int .i64 1] (.tuple ⟨[.float .f64 4653142004841054208, .agg ⟨[.bool false, .bool false, .bool false]⟩, .int .i64 0]⟩):=
 g9 B0 30 [] [] (l:=[]) (by kernel_rfl) trivial
end Go.Proofs.YtbdaebagmmmijaaGreatDoor
