/-
 NumberNear: a decimal that is read as a finite number lies nowhere beyond the middle between it and its neighbours; no condition (a part of the proof).
-/
import Derived.Test.YtbdaebagmmmijaaGreatDoorN1x08
set_option maxRecDepth 1000000
open Go.Proofs.Tryz renaming prog->zO8
open Go.IntKind renaming i64->iI,u64->uI,u8->uB
noncomputable section
namespace Go.Proofs.YtbdaebagmmmijaaGreatDoor
open Go Go.RowKit Ev
theorem m2a:Pure zO8 J0 40 [.agg ⟨[.bool false, .string ⟨⟨[49,50,51,52,53]⟩⟩, .int .i64 (-1)]⟩, .int .i64 1] (.tuple ⟨[.float .f64 4653144203864309760, .agg ⟨[.bool false, .bool false, .bool false]⟩, .int .i64 0]⟩):=
 g9 B0 30 [] [] (l:=[]) (by kernel_rfl) trivial
theorem n2t:Pure zO8 J0 40 [.agg ⟨[.bool false, .string ⟨⟨[49]⟩⟩, .int .i64 (-1)]⟩, .int .i64 1] (.tuple ⟨[.float .f64 4591870180066957722, .agg ⟨[.bool true, .bool false, .bool false]⟩, .int .i64 0]⟩):=
 g9 B0 30 [] [] (l:=[]) (by kernel_rfl) trivial
theorem l2u:Pure zO8 J0 50 [.float .f64 4613374868287651840] (.tuple ⟨[.agg ⟨[.bool false, .string ⟨⟨[50,55,53]⟩⟩, .int .i64 (-2)]⟩, .int .i64 0]⟩):=
 g9 B0 30 [] [] (l:=[]) (by kernel_rfl) trivial
theorem l2p:Pure zO8 J0 54 [.agg ⟨[.bool false, .string ⟨⟨[50,55,53]⟩⟩, .int .i64 (-2)]⟩, .int .i64 1, .int .i64 1] (.tuple ⟨[.agg ⟨[.bool false, .string ⟨⟨[51]⟩⟩, .int .i64 0]⟩, .int .i64 0]⟩):=
 g9 B0 30 [] [] (l:=[]) (by kernel_rfl) trivial
theorem l2q:Pure zO8 J0 54 [.agg ⟨[.bool false, .string ⟨⟨[50,55,53]⟩⟩, .int .i64 (-2)]⟩, .int .i64 2, .int .i64 1] (.tuple ⟨[.agg ⟨[.bool false, .string ⟨⟨[50,56]⟩⟩, .int .i64 (-1)]⟩, .int .i64 0]⟩):=
 g9 B0 30 [] [] (l:=[]) (by kernel_rfl) trivial
theorem m2j:Pure zO8 J0 54 [.agg ⟨[.bool false, .string ⟨⟨[50,55,53]⟩⟩, .int .i64 (-2)]⟩, .int .i64 3, .int .i64 1] (.tuple ⟨[.agg ⟨[.bool false, .string ⟨⟨[50,55,53]⟩⟩, .int .i64 (-2)]⟩, .int .i64 0]⟩):=
 g9 B0 30 [] [] (l:=[]) (by kernel_rfl) trivial
end Go.Proofs.YtbdaebagmmmijaaGreatDoor
