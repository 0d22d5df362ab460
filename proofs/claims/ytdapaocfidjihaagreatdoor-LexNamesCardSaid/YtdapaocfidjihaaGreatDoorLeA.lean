/-
  LexNames (layer 11) answers true: a closed evaluation.
-/
import Derived.Test.YtdapaocfidjihaaGreatDoorNuC
namespace Go.Proofs.YtdapaocfidjihaaGreatDoor
open Go Go.RowKit Ev

theorem lexNames_pure : Pure Tryz.prog J0 5 [] (.bool true) :=
  pure_of bN2_ok 31 [] [] (l := []) (by kernel_rfl) trivial

end Go.Proofs.YtdapaocfidjihaaGreatDoor
