/-
  FormulaKnown at the functions' own names (closed), a part of them (printed by mkknown.py).
-/
import Derived.Test.YtlbmpbkfkmabaaaGreatDoorFkB
namespace Go.Proofs.YtlbmpbkfkmabaaaGreatDoor
open Go Go.RowKit Ev

set_option maxRecDepth 100000 in
theorem fk_ABS : Ev.Pure Tryz.prog J0 5 [.string ⟨⟨[65, 66, 83]⟩⟩] (.bool true) :=
  pure_of bFk0_ok 30 [] [] (l := []) (by kernel_rfl) trivial
set_option maxRecDepth 100000 in
theorem fk_ISTEXT : Ev.Pure Tryz.prog J0 5 [.string ⟨⟨[73, 83, 84, 69, 88, 84]⟩⟩] (.bool true) :=
  pure_of bFk0_ok 30 [] [] (l := []) (by kernel_rfl) trivial
set_option maxRecDepth 100000 in
theorem fk_SQRT : Ev.Pure Tryz.prog J0 5 [.string ⟨⟨[83, 81, 82, 84]⟩⟩] (.bool true) :=
  pure_of bFk0_ok 30 [] [] (l := []) (by kernel_rfl) trivial
set_option maxRecDepth 100000 in
theorem fk_LARGE : Ev.Pure Tryz.prog J0 5 [.string ⟨⟨[76, 65, 82, 71, 69]⟩⟩] (.bool true) :=
  pure_of bFk0_ok 30 [] [] (l := []) (by kernel_rfl) trivial
set_option maxRecDepth 100000 in
theorem fk_REPT : Ev.Pure Tryz.prog J0 5 [.string ⟨⟨[82, 69, 80, 84]⟩⟩] (.bool true) :=
  pure_of bFk0_ok 30 [] [] (l := []) (by kernel_rfl) trivial
set_option maxRecDepth 100000 in
theorem fk_ROUNDUP : Ev.Pure Tryz.prog J0 5 [.string ⟨⟨[82, 79, 85, 78, 68, 85, 80]⟩⟩] (.bool true) :=
  pure_of bFk0_ok 30 [] [] (l := []) (by kernel_rfl) trivial
set_option maxRecDepth 100000 in
theorem fk_RANK : Ev.Pure Tryz.prog J0 5 [.string ⟨⟨[82, 65, 78, 75]⟩⟩] (.bool true) :=
  pure_of bFk0_ok 30 [] [] (l := []) (by kernel_rfl) trivial
set_option maxRecDepth 100000 in
theorem fk_AVERAGE : Ev.Pure Tryz.prog J0 5 [.string ⟨⟨[65, 86, 69, 82, 65, 71, 69]⟩⟩] (.bool true) :=
  pure_of bFk0_ok 30 [] [] (l := []) (by kernel_rfl) trivial
set_option maxRecDepth 100000 in
theorem fk_MEDIAN : Ev.Pure Tryz.prog J0 5 [.string ⟨⟨[77, 69, 68, 73, 65, 78]⟩⟩] (.bool true) :=
  pure_of bFk0_ok 30 [] [] (l := []) (by kernel_rfl) trivial
set_option maxRecDepth 100000 in
theorem fk_STDEVP : Ev.Pure Tryz.prog J0 5 [.string ⟨⟨[83, 84, 68, 69, 86, 80]⟩⟩] (.bool true) :=
  pure_of bFk0_ok 30 [] [] (l := []) (by kernel_rfl) trivial
set_option maxRecDepth 100000 in
theorem fk_CHOOSE : Ev.Pure Tryz.prog J0 5 [.string ⟨⟨[67, 72, 79, 79, 83, 69]⟩⟩] (.bool true) :=
  pure_of bFk0_ok 30 [] [] (l := []) (by kernel_rfl) trivial

end Go.Proofs.YtlbmpbkfkmabaaaGreatDoor
