/-
  Several texts in one (merge.py): ShB, ShC.
-/
import Derived.Test.YtlbmpbkfkmabaaaGreatDoorNuB
import Derived.Test.YtlbmpbkfkmabaaaGreatDoorNeEF

/-
  The examples of layer 6: what shows them, one by one (closed).
-/
namespace Go.Proofs.YtlbmpbkfkmabaaaGreatDoor
open Go Go.RowKit Ev

set_option maxRecDepth 100000 in
theorem shb_fixed : Pure Tryz.prog J0 47 [.agg ⟨[.bool false, .string ⟨⟨[49, 50, 51, 52, 53]⟩⟩, .int .i64 (-1)]⟩, .float .f64 4653144203864309760, .agg ⟨[.int .i64 2, .int .i64 2, .bool true, .int .i64 0]⟩] (.string ⟨⟨[49, 44, 50, 51, 52, 46, 53, 48]⟩⟩) :=
  pure_of bN1_ok 30 [] [] (l := []) (by kernel_rfl) trivial

end Go.Proofs.YtlbmpbkfkmabaaaGreatDoor

/-
  The examples of layer 6: the fraction (closed).
-/
namespace Go.Proofs.YtlbmpbkfkmabaaaGreatDoor
open Go Go.RowKit Ev

set_option maxRecDepth 100000 in
theorem shc_fraction : Ev.Pure Tryz.prog J0 50 [.agg ⟨[.bool false, .string ⟨⟨[50, 55, 53]⟩⟩, .int .i64 (-2)]⟩, .float .f64 4613374868287651840, .agg ⟨[.int .i64 5, .int .i64 1, .bool false, .int .i64 7]⟩] (.string ⟨⟨[50, 32, 51, 47, 52]⟩⟩) :=
  pure_of bNe_ok 30 [] [] (l := [(1 : Nat) ≤ 1, (1 : Nat) ≤ 2, ((134 : Nat) = 134 ∧ (134 : Nat) = 134) ∧ ([75] : List Int) = [75] ∧ ([100] : List Int) = [100] ∧ (9 : Int) = 9]) (by kernel_rfl) ⟨by decide, by decide, ⟨⟨rfl, rfl⟩, rfl, rfl, rfl⟩, trivial⟩

end Go.Proofs.YtlbmpbkfkmabaaaGreatDoor
