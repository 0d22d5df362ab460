/-
  FormulaKnown at the functions' own names (closed), a part of them (printed by mkknown.py).
-/
import Derived.Test.YtlbmpbkfkmabaaaGreatDoorFkB
namespace Go.Proofs.YtlbmpbkfkmabaaaGreatDoor
open Go Go.RowKit Ev

set_option maxRecDepth 100000 in
theorem fk_ISBLANK : Ev.Pure Tryz.prog J0 5 [.string ⟨⟨[73, 83, 66, 76, 65, 78, 75]⟩⟩] (.bool true) :=
  pure_of bFk0_ok 30 [] [] (l := []) (by kernel_rfl) trivial
set_option maxRecDepth 100000 in
theorem fk_NOT : Ev.Pure Tryz.prog J0 5 [.string ⟨⟨[78, 79, 84]⟩⟩] (.bool true) :=
  pure_of bFk0_ok 30 [] [] (l := []) (by kernel_rfl) trivial
set_option maxRecDepth 100000 in
theorem fk_VALUE : Ev.Pure Tryz.prog J0 5 [.string ⟨⟨[86, 65, 76, 85, 69]⟩⟩] (.bool true) :=
  pure_of bFk0_ok 30 [] [] (l := []) (by kernel_rfl) trivial
set_option maxRecDepth 100000 in
theorem fk_MOD : Ev.Pure Tryz.prog J0 5 [.string ⟨⟨[77, 79, 68]⟩⟩] (.bool true) :=
  pure_of bFk0_ok 30 [] [] (l := []) (by kernel_rfl) trivial
set_option maxRecDepth 100000 in
theorem fk_ROUND : Ev.Pure Tryz.prog J0 5 [.string ⟨⟨[82, 79, 85, 78, 68]⟩⟩] (.bool true) :=
  pure_of bFk0_ok 30 [] [] (l := []) (by kernel_rfl) trivial
set_option maxRecDepth 100000 in
theorem fk_SUMPRODUCT : Ev.Pure Tryz.prog J0 5 [.string ⟨⟨[83, 85, 77, 80, 82, 79, 68, 85, 67, 84]⟩⟩] (.bool true) :=
  pure_of bFk0_ok 30 [] [] (l := []) (by kernel_rfl) trivial
set_option maxRecDepth 100000 in
theorem fk_FUSED : Ev.Pure Tryz.prog J0 5 [.string ⟨⟨[70, 85, 83, 69, 68]⟩⟩] (.bool true) :=
  pure_of bFk0_ok 30 [] [] (l := []) (by kernel_rfl) trivial
set_option maxRecDepth 100000 in
theorem fk_COUNTA : Ev.Pure Tryz.prog J0 5 [.string ⟨⟨[67, 79, 85, 78, 84, 65]⟩⟩] (.bool true) :=
  pure_of bFk0_ok 30 [] [] (l := []) (by kernel_rfl) trivial
set_option maxRecDepth 100000 in
theorem fk_MODE : Ev.Pure Tryz.prog J0 5 [.string ⟨⟨[77, 79, 68, 69]⟩⟩] (.bool true) :=
  pure_of bFk0_ok 30 [] [] (l := []) (by kernel_rfl) trivial
set_option maxRecDepth 100000 in
theorem fk_SUMSQ : Ev.Pure Tryz.prog J0 5 [.string ⟨⟨[83, 85, 77, 83, 81]⟩⟩] (.bool true) :=
  pure_of bFk0_ok 30 [] [] (l := []) (by kernel_rfl) trivial

end Go.Proofs.YtlbmpbkfkmabaaaGreatDoor
