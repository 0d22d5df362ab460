/-
  Closed contracts (printed by mkclosed2.py).
-/
import Derived.Test.YtlbmpbkfkmabaaaGreatDoorCe
namespace Go.Proofs.YtlbmpbkfkmabaaaGreatDoor
open Go Go.RowKit Ev

set_option maxRecDepth 100000 in
theorem cf1_0 : Pure Tryz.prog J0 59 [.float .f64 4607182418800017408] (.string ⟨⟨[49]⟩⟩) :=
  pure_of bE1_ok 30 [] [] (l := []) (by kernel_rfl) trivial

set_option maxRecDepth 100000 in
theorem cf1_1 : Pure Tryz.prog J0 59 [.float .f64 4611686018427387904] (.string ⟨⟨[50]⟩⟩) :=
  pure_of bE1_ok 30 [] [] (l := []) (by kernel_rfl) trivial

set_option maxRecDepth 100000 in
theorem cf1_2 : Pure Tryz.prog J0 59 [.float .f64 4613937818241073152] (.string ⟨⟨[51]⟩⟩) :=
  pure_of bE1_ok 30 [] [] (l := []) (by kernel_rfl) trivial

set_option maxRecDepth 100000 in
theorem cf1_3 : Pure Tryz.prog J0 59 [.float .f64 4602678819172646912] (.string ⟨⟨[48, 46, 53]⟩⟩) :=
  pure_of bE1_ok 30 [] [] (l := []) (by kernel_rfl) trivial

end Go.Proofs.YtlbmpbkfkmabaaaGreatDoor
