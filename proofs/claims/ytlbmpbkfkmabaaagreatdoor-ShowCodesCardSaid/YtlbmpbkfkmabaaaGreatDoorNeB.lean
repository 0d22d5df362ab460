/-
  The fraction nearest to 75 / 100 with a denominator up to 9 (closed): rounds.
-/
import Derived.Test.YtlbmpbkfkmabaaaGreatDoorNeA
namespace Go.Proofs.YtlbmpbkfkmabaaaGreatDoor
open Go Go.RowKit Ev

set_option maxRecDepth 100000 in
theorem ne_0 : Step XNe cNe (neR 0) .normal (neR 1) :=
  step_of (Base.cx_ok bT1_ok 30).1 progOk.mixed [] 200 [] [(18, 110)] (l := []) (by kernel_rfl) trivial (by kernel_rfl) (by kernel_rfl)

set_option maxRecDepth 100000 in
theorem ne_1 : Step XNe cNe (neR 1) .normal (neR 2) :=
  step_of (Base.cx_ok bT1_ok 30).1 progOk.mixed [] 200 [] [] (l := []) (by kernel_rfl) trivial (by kernel_rfl) (by kernel_rfl)

set_option maxRecDepth 100000 in
theorem ne_2 : Step XNe cNe (neR 2) .normal (neR 3) :=
  step_of (Base.cx_ok bT1_ok 30).1 progOk.mixed [] 200 [] [(18, 83)] (l := []) (by kernel_rfl) trivial (by kernel_rfl) (by kernel_rfl)

end Go.Proofs.YtlbmpbkfkmabaaaGreatDoor
