/-
  Layer 10 (addr): AddrCells answers true.
-/
import Derived.Test.YthclpocignpfhaaDoorAdB
namespace Go.Proofs.YthclpocignpfhaaDoor
open Go Go.RowKit Ev AdS

theorem addrCells_pure (c r : Int) (p q : Bool) (d e x y : Int) : Pure Tryd.prog J0 6 [vRef c r p q, vCell d e, vi x, vi y] (.bool true) := by
  have key : Pure Tryd.prog J0 6 [vRef c r p q, vCell d e, vi x, vi y] (.bool (((((true && (validB c r == validB c r && orderI c r d e == orderI c r d e)) && textS c r p q == textS c r p q) && textE c r == textE c r) &&
      (mz (shOk c r p q x y) (movI c x p) == mz (shOk c r p q x y) (movI c x p) && (mz (shOk c r p q x y) (movI r y q) == mz (shOk c r p q x y) (movI r y q) && true) && ((shOk c r p q x y && p) == (shOk c r p q x y && p) && ((shOk c r p q x y && q) == (shOk c r p q x y && q) && true)))) && shOk c r p q x y == shOk c r p q x y)) :=
    pure_of bB3_ok 6 [] [] (l := []) (by kernel_rfl) trivial
  simpa using key

end Go.Proofs.YthclpocignpfhaaDoor
