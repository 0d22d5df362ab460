/-
  Layer 10 (addr), AddrAreas: 'gone': the goings over, from beginning to end.
-/
import Derived.Test.YthclpocignpfhaaDoorAdGb
namespace Go.Proofs.YthclpocignpfhaaDoor
open Go Go.RowKit Ev AdS

section
variable (a b c d leave : Int) (ns : List Int) (N cap : Nat) (kA cx cy : Int)

/-- The cell that is gone over is (cx, cy), the second; within it the first two are gone over, or three. -/
abbrev in2 (x2 y2 : Int) (wr : Bool) : List Prop :=
  ((x2 == c && (y2 == d && true)) = true) :: (false = false) :: W3 ns N (w1 0) x2 y2 ++ (decide (c < w1 a) = wr) :: ((a == c && (b == d && true)) = false) :: (false = false) :: W3 ns N 0 a b ++ ((!areaB a b c d) = false) :: (true = true) :: W3 ns N 1 cx cy
abbrev in3 (x2 y2 x3 y3 : Int) (wr wr2 : Bool) : List Prop :=
  (true = true) :: (true = true) :: W3 ns N (w1 (w1 0)) x3 y3 ++ (decide (c < w1 x2) = wr2) :: ((x2 == c && (y2 == d && true)) = false) :: (false = false) :: W3 ns N (w1 0) x2 y2 ++ (decide (c < w1 a) = wr) :: ((a == c && (b == d && true)) = false) :: (false = false) :: W3 ns N 0 a b ++ ((!areaB a b c d) = false) :: (true = true) :: W3 ns N 1 cx cy

set_option maxRecDepth 100000 in
theorem sB2a (h : allP (((cx == c && (cy == d && true)) = true) :: in2 a b c d ns N cx cy (w1 a) b false)) :
    Step X2 c49 (TB (SB a b c d leave ns N cap kA) cx cy 1) .ret (TB (SB a b c d leave ns N cap kA) cx cy (w1 1)) :=
  step_of (Base.cx_ok bY2_ok 10).1 progOk.mixed [] 200 [false, true, false, false, false, false, false, false, false, true, true] [] (by kernel_rfl) h (by kernel_rfl) (by kernel_rfl)
set_option maxRecDepth 100000 in
theorem sB2b (h : allP (((cx == c && (cy == d && true)) = true) :: in2 a b c d ns N cx cy a (w1 b) true)) :
    Step X2 c49 (TB (SB a b c d leave ns N cap kA) cx cy 1) .ret (TB (SB a b c d leave ns N cap kA) cx cy (w1 1)) :=
  step_of (Base.cx_ok bY2_ok 10).1 progOk.mixed [] 200 [false, true, false, false, false, false, true, false, false, true, true] [] (by kernel_rfl) h (by kernel_rfl) (by kernel_rfl)
set_option maxRecDepth 100000 in
theorem sB3a (h : allP ((decide (c < w1 cx) = true) :: ((cx == c && (cy == d && true)) = false) :: in3 a b c d ns N cx cy a (w1 b) a (w1 (w1 b)) true true)) :
    Step X2 c49 (TB (SB a b c d leave ns N cap kA) cx cy 1) .normal (TB (SB a b c d leave ns N cap kA) a (w1 cy) (w1 1)) :=
  step_of (Base.cx_ok bY2_ok 10).1 progOk.mixed [] 200 [false, true, false, false, false, false, true, false, false, false, true, false, true, true, false, true] [(45, 165)] (by kernel_rfl) h (by kernel_rfl) (by kernel_rfl)
set_option maxRecDepth 100000 in
theorem sB3b (h : allP ((decide (c < w1 cx) = true) :: ((cx == c && (cy == d && true)) = false) :: in3 a b c d ns N cx cy (w1 a) b a (w1 b) false true)) :
    Step X2 c49 (TB (SB a b c d leave ns N cap kA) cx cy 1) .normal (TB (SB a b c d leave ns N cap kA) a (w1 cy) (w1 1)) :=
  step_of (Base.cx_ok bY2_ok 10).1 progOk.mixed [] 200 [false, true, false, false, false, false, false, false, false, false, true, false, true, true, false, true] [(45, 157)] (by kernel_rfl) h (by kernel_rfl) (by kernel_rfl)
set_option maxRecDepth 100000 in
theorem sB3c (h : allP ((decide (c < w1 cx) = false) :: ((cx == c && (cy == d && true)) = false) :: in3 a b c d ns N cx cy (w1 a) b (w1 (w1 a)) b false false)) :
    Step X2 c49 (TB (SB a b c d leave ns N cap kA) cx cy 1) .normal (TB (SB a b c d leave ns N cap kA) (w1 cx) cy (w1 1)) :=
  step_of (Base.cx_ok bY2_ok 10).1 progOk.mixed [] 200 [false, true, false, false, false, false, false, false, false, false, false, false, true, true, false, false] [(45, 141)] (by kernel_rfl) h (by kernel_rfl) (by kernel_rfl)
end

end Go.Proofs.YthclpocignpfhaaDoor
