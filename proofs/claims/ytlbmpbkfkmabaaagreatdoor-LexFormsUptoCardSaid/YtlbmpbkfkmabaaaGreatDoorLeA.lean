/-
  The examples of layer 11: a closed evaluation.
-/
import Derived.Test.YtlbmpbkfkmabaaaGreatDoorCe
namespace Go.Proofs.YtlbmpbkfkmabaaaGreatDoor
open Go Go.RowKit Ev

set_option maxRecDepth 100000 in
theorem known11 : Pure Tryz.prog J0 16 [] (.bool true) :=
  pure_of bE1_ok 31 [] [] (l := []) (by kernel_rfl) trivial

end Go.Proofs.YtlbmpbkfkmabaaaGreatDoor
