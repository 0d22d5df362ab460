/-
  Closed contracts (printed by mkclosed2.py).
-/
import Derived.Test.YtlbmpbkfkmabaaaGreatDoorFoG
namespace Go.Proofs.YtlbmpbkfkmabaaaGreatDoor
open Go Go.RowKit Ev

set_option maxRecDepth 100000 in
theorem fod1_0 : Pure Tryz.prog J0 186 [.string ⟨⟨[45, 50, 94, 50]⟩⟩] (.tuple ⟨[.agg ⟨[.int .i64 5, .string ⟨⟨[45]⟩⟩, .int .i64 0, .float .f64 0, .string ⟨⟨[]⟩⟩, .int .i64 0, .int .i64 0, .bool false, .bool false, .int .i64 0]⟩, .int .i64 0]⟩) :=
  pure_of bFo0_ok 30 [] [] (l := []) (by kernel_rfl) trivial

set_option maxRecDepth 100000 in
theorem fod1_1 : Pure Tryz.prog J0 186 [.string ⟨⟨[94, 50]⟩⟩] (.tuple ⟨[.agg ⟨[.int .i64 5, .string ⟨⟨[94]⟩⟩, .int .i64 0, .float .f64 0, .string ⟨⟨[]⟩⟩, .int .i64 0, .int .i64 0, .bool false, .bool false, .int .i64 0]⟩, .int .i64 0]⟩) :=
  pure_of bFo0_ok 30 [] [] (l := []) (by kernel_rfl) trivial

end Go.Proofs.YtlbmpbkfkmabaaaGreatDoor
