/-
  Layer 10 (addr), AddrAreas: the statement's own function answers true.
-/
import Derived.Test.YthclpocignpfhaaDoorAdGf
namespace Go.Proofs.YthclpocignpfhaaDoor
open Go Go.RowKit Ev AdS

def oneAr (c r d s x y : Int) : Bool :=
  match (match areaB c r d s == areaB c r d s with
    | true => inB c r d s x y == inB c r d s x y
    | false => false) with
  | true => sizeI c r d s == sizeI c r d s
  | false => false

def cornAr (c r g h : Int) : Bool :=
  match (mz (arOk c r g h) (minG c g) == mz (arOk c r g h) (minG c g) && (mz (arOk c r g h) (minG r h) == mz (arOk c r g h) (minG r h) && true) && (mz (arOk c r g h) (maxG c g) == mz (arOk c r g h) (maxG c g) && (mz (arOk c r g h) (maxG r h) == mz (arOk c r g h) (maxG r h) && true) && true)) with
  | true => arE c r g h == arE c r g h
  | false => false

def twoAr (c r d s e f g h : Int) : Bool :=
  match (match (match (match cornAr c r g h with
    | true => (⟨⟨arText c r d s⟩⟩ : ByteArray).data.toList == (⟨⟨arText c r d s⟩⟩ : ByteArray).data.toList
    | false => false) with
    | true => arTE c r d s == arTE c r d s
    | false => false) with
    | true => mz (meetB c r d s e f g h) (maxG c e) == mz (meetB c r d s e f g h) (maxG c e) && (mz (meetB c r d s e f g h) (maxG r f) == mz (meetB c r d s e f g h) (maxG r f) && true) && (mz (meetB c r d s e f g h) (minG d g) == mz (meetB c r d s e f g h) (minG d g) && (mz (meetB c r d s e f g h) (minG s h) == mz (meetB c r d s e f g h) (minG s h) && true) && true)
    | false => false) with
  | true => meetB c r d s e f g h == meetB c r d s e f g h
  | false => false

def allAr (c r d s e f g h x y : Int) : Bool :=
  match (match true with
    | true => oneAr c r d s x y
    | false => false) with
  | true => twoAr c r d s e f g h
  | false => false

theorem allAr_true (c r d s e f g h x y : Int) : allAr c r d s e f g h x y = true := by
  have h1 : oneAr c r d s x y = true := by unfold oneAr; simp
  have h0 : cornAr c r g h = true := by unfold cornAr; simp
  have h2 : twoAr c r d s e f g h = true := by unfold twoAr; rw [h0]; simp
  unfold allAr
  rw [h1, h2]

set_option maxRecDepth 100000 in
/-- THE CONTRACT: AddrAreas answers true, whatever it is asked. -/
theorem addrAreas_pure (c r d s e f g h x y leave : Int) : Pure Tryd.prog J0 4 [vArea c r d s, vArea e f g h, vCell x y, vi leave] (.bool true) := by
  have ha := allAr_true c r d s e f g h x y
  have e1 : (match allAr c r d s e f g h x y with | true => true | false => false) = true := by rw [ha]
  rw [← e1]
  exact pure_of bAr_ok 10 [] [] (l := [allAr c r d s e f g h x y = true, cellsN c r d s = cellsN c r d s, cellsNs c r d s = cellsNs c r d s, allAr c r d s e f g h x y = true]) (by kernel_rfl) ⟨ha, rfl, rfl, ha, trivial⟩

end Go.Proofs.YthclpocignpfhaaDoor
