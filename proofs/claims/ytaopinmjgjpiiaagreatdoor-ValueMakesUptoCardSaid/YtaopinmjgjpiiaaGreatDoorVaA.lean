/-
  Values: what 'awake' of chapter 14 comes to.
-/
import Derived.Test.YtaopinmjgjpiiaaGreatDoorNuA
namespace Go.Proofs.YtaopinmjgjpiiaaGreatDoor
open Go Go.RowKit Ev

theorem awake14 : Pure Tryz.prog J0 20 [] (.bool true) :=
  pure_of bN0_ok 30 [] [] (l := []) (by kernel_rfl) trivial

end Go.Proofs.YtaopinmjgjpiiaaGreatDoor
