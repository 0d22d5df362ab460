/-
  Closed contracts (printed by mkclosed2.py).
-/
import Derived.Test.YtlbmpbkfkmabaaaGreatDoorCcT
namespace Go.Proofs.YtlbmpbkfkmabaaaGreatDoor
open Go Go.RowKit Ev

set_option maxRecDepth 100000 in
theorem cc10_0 : Pure Tryz.prog J0 261 [.string ⟨⟨[50]⟩⟩] (.tuple ⟨[.float .f64 4611686018427387904, .int .i64 0]⟩) :=
  pure_of bT1_ok 30 [] [] (l := []) (by kernel_rfl) trivial

set_option maxRecDepth 100000 in
theorem cc10_1 : Pure Tryz.prog J0 261 [.string ⟨⟨[49, 46, 53]⟩⟩] (.tuple ⟨[.float .f64 4609434218613702656, .int .i64 0]⟩) :=
  pure_of bT1_ok 30 [] [] (l := []) (by kernel_rfl) trivial

end Go.Proofs.YtlbmpbkfkmabaaaGreatDoor
