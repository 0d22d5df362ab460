/-
  The fraction nearest to 75 / 100 with a denominator up to 9 (closed): rounds.
-/
import Derived.Test.YtlbmpbkfkmabaaaGreatDoorNeA
namespace Go.Proofs.YtlbmpbkfkmabaaaGreatDoor
open Go Go.RowKit Ev

set_option maxRecDepth 100000 in
theorem ne_6 : Step XNe cNe (neR 6) .normal (neR 7) :=
  step_of (Base.cx_ok bT1_ok 30).1 progOk.mixed [] 200 [] [] (l := []) (by kernel_rfl) trivial (by kernel_rfl) (by kernel_rfl)

set_option maxRecDepth 100000 in
theorem ne_7 : Step XNe cNe (neR 7) .normal (neR 8) :=
  step_of (Base.cx_ok bT1_ok 30).1 progOk.mixed [] 200 [] [] (l := []) (by kernel_rfl) trivial (by kernel_rfl) (by kernel_rfl)

set_option maxRecDepth 100000 in
theorem ne_8 : Step XNe cNe (neR 8) .normal (neR 9) :=
  step_of (Base.cx_ok bT1_ok 30).1 progOk.mixed [] 200 [] [] (l := []) (by kernel_rfl) trivial (by kernel_rfl) (by kernel_rfl)

set_option maxRecDepth 100000 in
theorem ne_9 : Step XNe cNe (neR 9) (.exit 0) (neR 9) :=
  step_of (Base.cx_ok bT1_ok 30).1 progOk.mixed [] 200 [] [] (l := []) (by kernel_rfl) trivial (by kernel_rfl) (by kernel_rfl)

end Go.Proofs.YtlbmpbkfkmabaaaGreatDoor
