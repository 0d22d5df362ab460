/-
  FormulaKnown at the functions' own names (closed), a part of them (printed by mkknown.py).
-/
import Derived.Test.YtlbmpbkfkmabaaaGreatDoorFkB
namespace Go.Proofs.YtlbmpbkfkmabaaaGreatDoor
open Go Go.RowKit Ev

set_option maxRecDepth 100000 in
theorem fk_NA : Ev.Pure Tryz.prog J0 5 [.string ⟨⟨[78, 65]⟩⟩] (.bool true) :=
  pure_of bFk0_ok 30 [] [] (l := []) (by kernel_rfl) trivial
set_option maxRecDepth 100000 in
theorem fk_ISNUMBER : Ev.Pure Tryz.prog J0 5 [.string ⟨⟨[73, 83, 78, 85, 77, 66, 69, 82]⟩⟩] (.bool true) :=
  pure_of bFk0_ok 30 [] [] (l := []) (by kernel_rfl) trivial
set_option maxRecDepth 100000 in
theorem fk_SINGLE : Ev.Pure Tryz.prog J0 5 [.string ⟨⟨[83, 73, 78, 71, 76, 69]⟩⟩] (.bool true) :=
  pure_of bFk0_ok 30 [] [] (l := []) (by kernel_rfl) trivial
set_option maxRecDepth 100000 in
theorem fk_IFERROR : Ev.Pure Tryz.prog J0 5 [.string ⟨⟨[73, 70, 69, 82, 82, 79, 82]⟩⟩] (.bool true) :=
  pure_of bFk0_ok 30 [] [] (l := []) (by kernel_rfl) trivial
set_option maxRecDepth 100000 in
theorem fk_POWER : Ev.Pure Tryz.prog J0 5 [.string ⟨⟨[80, 79, 87, 69, 82]⟩⟩] (.bool true) :=
  pure_of bFk0_ok 30 [] [] (l := []) (by kernel_rfl) trivial
set_option maxRecDepth 100000 in
theorem fk_ROUNDEVEN : Ev.Pure Tryz.prog J0 5 [.string ⟨⟨[82, 79, 85, 78, 68, 69, 86, 69, 78]⟩⟩] (.bool true) :=
  pure_of bFk0_ok 30 [] [] (l := []) (by kernel_rfl) trivial
set_option maxRecDepth 100000 in
theorem fk_IF : Ev.Pure Tryz.prog J0 5 [.string ⟨⟨[73, 70]⟩⟩] (.bool true) :=
  pure_of bFk0_ok 30 [] [] (l := []) (by kernel_rfl) trivial
set_option maxRecDepth 100000 in
theorem fk_AND : Ev.Pure Tryz.prog J0 5 [.string ⟨⟨[65, 78, 68]⟩⟩] (.bool true) :=
  pure_of bFk0_ok 30 [] [] (l := []) (by kernel_rfl) trivial
set_option maxRecDepth 100000 in
theorem fk_MAX : Ev.Pure Tryz.prog J0 5 [.string ⟨⟨[77, 65, 88]⟩⟩] (.bool true) :=
  pure_of bFk0_ok 30 [] [] (l := []) (by kernel_rfl) trivial
set_option maxRecDepth 100000 in
theorem fk_STDEV : Ev.Pure Tryz.prog J0 5 [.string ⟨⟨[83, 84, 68, 69, 86]⟩⟩] (.bool true) :=
  pure_of bFk0_ok 30 [] [] (l := []) (by kernel_rfl) trivial
set_option maxRecDepth 100000 in
theorem fk_VARP : Ev.Pure Tryz.prog J0 5 [.string ⟨⟨[86, 65, 82, 80]⟩⟩] (.bool true) :=
  pure_of bFk0_ok 30 [] [] (l := []) (by kernel_rfl) trivial

end Go.Proofs.YtlbmpbkfkmabaaaGreatDoor
