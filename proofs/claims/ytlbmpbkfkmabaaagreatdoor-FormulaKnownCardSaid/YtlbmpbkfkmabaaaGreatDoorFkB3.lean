/-
  FormulaKnown at the functions' own names (closed), a part of them (printed by mkknown.py).
-/
import Derived.Test.YtlbmpbkfkmabaaaGreatDoorFkB
namespace Go.Proofs.YtlbmpbkfkmabaaaGreatDoor
open Go Go.RowKit Ev

set_option maxRecDepth 100000 in
theorem fk_INT : Ev.Pure Tryz.prog J0 5 [.string ⟨⟨[73, 78, 84]⟩⟩] (.bool true) :=
  pure_of bFk0_ok 30 [] [] (l := []) (by kernel_rfl) trivial
set_option maxRecDepth 100000 in
theorem fk_LEN : Ev.Pure Tryz.prog J0 5 [.string ⟨⟨[76, 69, 78]⟩⟩] (.bool true) :=
  pure_of bFk0_ok 30 [] [] (l := []) (by kernel_rfl) trivial
set_option maxRecDepth 100000 in
theorem fk_TRUNC : Ev.Pure Tryz.prog J0 5 [.string ⟨⟨[84, 82, 85, 78, 67]⟩⟩] (.bool true) :=
  pure_of bFk0_ok 30 [] [] (l := []) (by kernel_rfl) trivial
set_option maxRecDepth 100000 in
theorem fk_LEFT : Ev.Pure Tryz.prog J0 5 [.string ⟨⟨[76, 69, 70, 84]⟩⟩] (.bool true) :=
  pure_of bFk0_ok 30 [] [] (l := []) (by kernel_rfl) trivial
set_option maxRecDepth 100000 in
theorem fk_RIGHT : Ev.Pure Tryz.prog J0 5 [.string ⟨⟨[82, 73, 71, 72, 84]⟩⟩] (.bool true) :=
  pure_of bFk0_ok 30 [] [] (l := []) (by kernel_rfl) trivial
set_option maxRecDepth 100000 in
theorem fk_SMALL : Ev.Pure Tryz.prog J0 5 [.string ⟨⟨[83, 77, 65, 76, 76]⟩⟩] (.bool true) :=
  pure_of bFk0_ok 30 [] [] (l := []) (by kernel_rfl) trivial
set_option maxRecDepth 100000 in
theorem fk_COUNTIF : Ev.Pure Tryz.prog J0 5 [.string ⟨⟨[67, 79, 85, 78, 84, 73, 70]⟩⟩] (.bool true) :=
  pure_of bFk0_ok 30 [] [] (l := []) (by kernel_rfl) trivial
set_option maxRecDepth 100000 in
theorem fk_COUNT : Ev.Pure Tryz.prog J0 5 [.string ⟨⟨[67, 79, 85, 78, 84]⟩⟩] (.bool true) :=
  pure_of bFk0_ok 30 [] [] (l := []) (by kernel_rfl) trivial
set_option maxRecDepth 100000 in
theorem fk_MIN : Ev.Pure Tryz.prog J0 5 [.string ⟨⟨[77, 73, 78]⟩⟩] (.bool true) :=
  pure_of bFk0_ok 30 [] [] (l := []) (by kernel_rfl) trivial
set_option maxRecDepth 100000 in
theorem fk_SUM : Ev.Pure Tryz.prog J0 5 [.string ⟨⟨[83, 85, 77]⟩⟩] (.bool true) :=
  pure_of bFk0_ok 30 [] [] (l := []) (by kernel_rfl) trivial

end Go.Proofs.YtlbmpbkfkmabaaaGreatDoor
