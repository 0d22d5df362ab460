/-
  FormulaKnown at the functions' own names (closed), a part of them (printed by mkknown.py).
-/
import Derived.Test.YtlbmpbkfkmabaaaGreatDoorFkB
namespace Go.Proofs.YtlbmpbkfkmabaaaGreatDoor
open Go Go.RowKit Ev

set_option maxRecDepth 100000 in
theorem fk_ISERROR : Ev.Pure Tryz.prog J0 5 [.string ⟨⟨[73, 83, 69, 82, 82, 79, 82]⟩⟩] (.bool true) :=
  pure_of bFk0_ok 30 [] [] (l := []) (by kernel_rfl) trivial
set_option maxRecDepth 100000 in
theorem fk_SIGN : Ev.Pure Tryz.prog J0 5 [.string ⟨⟨[83, 73, 71, 78]⟩⟩] (.bool true) :=
  pure_of bFk0_ok 30 [] [] (l := []) (by kernel_rfl) trivial
set_option maxRecDepth 100000 in
theorem fk_EXACT : Ev.Pure Tryz.prog J0 5 [.string ⟨⟨[69, 88, 65, 67, 84]⟩⟩] (.bool true) :=
  pure_of bFk0_ok 30 [] [] (l := []) (by kernel_rfl) trivial
set_option maxRecDepth 100000 in
theorem fk_PERCENTILE : Ev.Pure Tryz.prog J0 5 [.string ⟨⟨[80, 69, 82, 67, 69, 78, 84, 73, 76, 69]⟩⟩] (.bool true) :=
  pure_of bFk0_ok 30 [] [] (l := []) (by kernel_rfl) trivial
set_option maxRecDepth 100000 in
theorem fk_ROUNDDOWN : Ev.Pure Tryz.prog J0 5 [.string ⟨⟨[82, 79, 85, 78, 68, 68, 79, 87, 78]⟩⟩] (.bool true) :=
  pure_of bFk0_ok 30 [] [] (l := []) (by kernel_rfl) trivial
set_option maxRecDepth 100000 in
theorem fk_TEXT : Ev.Pure Tryz.prog J0 5 [.string ⟨⟨[84, 69, 88, 84]⟩⟩] (.bool true) :=
  pure_of bFk0_ok 30 [] [] (l := []) (by kernel_rfl) trivial
set_option maxRecDepth 100000 in
theorem fk_MID : Ev.Pure Tryz.prog J0 5 [.string ⟨⟨[77, 73, 68]⟩⟩] (.bool true) :=
  pure_of bFk0_ok 30 [] [] (l := []) (by kernel_rfl) trivial
set_option maxRecDepth 100000 in
theorem fk_JOIN : Ev.Pure Tryz.prog J0 5 [.string ⟨⟨[74, 79, 73, 78]⟩⟩] (.bool true) :=
  pure_of bFk0_ok 30 [] [] (l := []) (by kernel_rfl) trivial
set_option maxRecDepth 100000 in
theorem fk_OR : Ev.Pure Tryz.prog J0 5 [.string ⟨⟨[79, 82]⟩⟩] (.bool true) :=
  pure_of bFk0_ok 30 [] [] (l := []) (by kernel_rfl) trivial
set_option maxRecDepth 100000 in
theorem fk_VAR : Ev.Pure Tryz.prog J0 5 [.string ⟨⟨[86, 65, 82]⟩⟩] (.bool true) :=
  pure_of bFk0_ok 30 [] [] (l := []) (by kernel_rfl) trivial

end Go.Proofs.YtlbmpbkfkmabaaaGreatDoor
