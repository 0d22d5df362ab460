/-
  The fraction nearest to 75 / 100 with a denominator up to 9 (closed): rounds.
-/
import Derived.Test.YtlbmpbkfkmabaaaGreatDoorNeA
namespace Go.Proofs.YtlbmpbkfkmabaaaGreatDoor
open Go Go.RowKit Ev

set_option maxRecDepth 100000 in
theorem ne_3 : Step XNe cNe (neR 3) .normal (neR 4) :=
  step_of (Base.cx_ok bT1_ok 30).1 progOk.mixed [] 200 [] [(18, 83)] (l := []) (by kernel_rfl) trivial (by kernel_rfl) (by kernel_rfl)

set_option maxRecDepth 100000 in
theorem ne_4 : Step XNe cNe (neR 4) .normal (neR 5) :=
  step_of (Base.cx_ok bT1_ok 30).1 progOk.mixed [] 200 [] [] (l := []) (by kernel_rfl) trivial (by kernel_rfl) (by kernel_rfl)

set_option maxRecDepth 100000 in
theorem ne_5 : Step XNe cNe (neR 5) .normal (neR 6) :=
  step_of (Base.cx_ok bT1_ok 30).1 progOk.mixed [] 200 [] [] (l := []) (by kernel_rfl) trivial (by kernel_rfl) (by kernel_rfl)

end Go.Proofs.YtlbmpbkfkmabaaaGreatDoor
