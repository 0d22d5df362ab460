/-
  Layer 14 (values): contracts of its small functions over the program.
-/
import Derived.Test.YtdapaocfidjihaaGreatDoorNuA
import Derived.Test.YtdapaocfidjihaaGreatDoorVaS
namespace Go.Proofs.YtdapaocfidjihaaGreatDoor
open Go Go.RowKit Ev VaS

abbrev vi (n : Int) : Value := .int .i64 n

/-- One contract more, of arguments of a shape. -/
noncomputable def bV0 : Base := ⟨Tryz.prog, J0, false, tabN0, mtab0, 200, xtN0⟩
theorem bV0_ok : BaseOk bV0 := ⟨progOk, tabN0_ok, mtab0_ok _ _, xtN0_ok⟩

theorem fault_pure (v : Val) : Pure Tryz.prog J0 85 [vv v] (vi (faultI v)) := by
  unfold faultI
  cases h1 : isFault v
  · cases h2 : kindless v
    · exact pure_of bV0_ok 3 [] [false, false] (l := [kindless v = false, isFault v = false]) (by kernel_rfl) ⟨h2, h1, trivial⟩
    · exact pure_of bV0_ok 3 [] [false, true] (l := [kindless v = true, isFault v = false]) (by kernel_rfl) ⟨h2, h1, trivial⟩
  · exact pure_of bV0_ok 3 [] [true] (l := [isFault v = true]) (by kernel_rfl) ⟨h1, trivial⟩

theorem rfault_pure (v : Val) : Pure Tryz.prog J0 88 [vv v] (vi (faultI v)) := by
  unfold faultI
  cases h1 : isFault v
  · cases h2 : kindless v
    · exact pure_of bV0_ok 3 [] [false, false] (l := [kindless v = false, isFault v = false]) (by kernel_rfl) ⟨h2, h1, trivial⟩
    · exact pure_of bV0_ok 3 [] [false, true] (l := [kindless v = true, isFault v = false]) (by kernel_rfl) ⟨h2, h1, trivial⟩
  · exact pure_of bV0_ok 3 [] [true] (l := [isFault v = true]) (by kernel_rfl) ⟨h1, trivial⟩

theorem beside_pure (v w : Val) : Pure Tryz.prog J0 86 [vv v, vv w] (vv (besideV v w)) := by
  unfold besideV
  by_cases h : v.k = 0
  · rw [if_pos h]
    exact pure_of bV0_ok 3 [] [true] (l := [(v.k == 0) = true]) (by kernel_rfl) ⟨by simp [h], trivial⟩
  · rw [if_neg h]
    exact pure_of bV0_ok 3 [] [false] (l := [(v.k == 0) = false]) (by kernel_rfl) ⟨by simp [h], trivial⟩

theorem plain_pure (v w : Val) : Pure Tryz.prog J0 145 [vv v, vv w] (vv (besideV v w)) := by
  unfold besideV
  by_cases h : v.k = 0
  · rw [if_pos h]
    exact pure_of bV0_ok 3 [] [true] (l := [(v.k == 0) = true]) (by kernel_rfl) ⟨by simp [h], trivial⟩
  · rw [if_neg h]
    exact pure_of bV0_ok 3 [] [false] (l := [(v.k == 0) = false]) (by kernel_rfl) ⟨by simp [h], trivial⟩

theorem ofTruth_pure (b : Bool) : Pure Tryz.prog J0 39 [.bool b] (vv (truthV b)) :=
  pure_of bV0_ok 3 [] [] (l := []) (by kernel_rfl) trivial
theorem rofTruth_pure (b : Bool) : Pure Tryz.prog J0 40 [.bool b] (vv (truthV b)) :=
  pure_of bV0_ok 3 [] [] (l := []) (by kernel_rfl) trivial

theorem ofFault_pure (f : Int) : Pure Tryz.prog J0 41 [vi f] (vv (faultV f)) := by
  unfold faultV
  cases h : badF f
  · exact pure_of bV0_ok 3 [] [false] (l := [badF f = false]) (by kernel_rfl) ⟨h, trivial⟩
  · exact pure_of bV0_ok 3 [] [true] (l := [badF f = true]) (by kernel_rfl) ⟨h, trivial⟩
theorem rofFault_pure (f : Int) : Pure Tryz.prog J0 42 [vi f] (vv (faultV f)) := by
  unfold faultV
  cases h : badF f
  · exact pure_of bV0_ok 3 [] [false] (l := [badF f = false]) (by kernel_rfl) ⟨h, trivial⟩
  · exact pure_of bV0_ok 3 [] [true] (l := [badF f = true]) (by kernel_rfl) ⟨h, trivial⟩

theorem compareI_pure (x y : Int) : Pure Tryz.prog J0 76 [vi x, vi y] (vi (cmpI x y)) := by
  unfold cmpI
  by_cases h1 : x < y
  · rw [if_pos h1]
    exact pure_of bV0_ok 3 [] [false, false, true] (l := [decide (x < y) = true, (y != y) = false, (x != x) = false]) (by kernel_rfl) (by simp [allP, h1])
  · rw [if_neg h1]
    by_cases h2 : y < x
    · rw [if_pos h2]
      exact pure_of bV0_ok 3 [] [false, false, false, true] (l := [decide (x > y) = true, decide (x < y) = false, (y != y) = false, (x != x) = false]) (by kernel_rfl) (by simp [allP]; omega)
    · rw [if_neg h2]
      exact pure_of bV0_ok 3 [] [false, false, false, false] (l := [decide (x > y) = false, decide (x < y) = false, (y != y) = false, (x != x) = false]) (by kernel_rfl) (by simp [allP]; omega)

theorem less_pure (x y : Int) : Pure Tryz.prog J0 80 [vi x, vi y] (vi (cmpI x y)) := by
  unfold cmpI
  by_cases h1 : x < y
  · rw [if_pos h1]
    exact pure_of bV0_ok 3 [] [true] (l := [decide (x < y) = true]) (by kernel_rfl) (by simp [allP, h1])
  · rw [if_neg h1]
    by_cases h2 : y < x
    · rw [if_pos h2]
      exact pure_of bV0_ok 3 [] [false, true] (l := [decide (y < x) = true, decide (x < y) = false]) (by kernel_rfl) (by simp [allP]; omega)
    · rw [if_neg h2]
      exact pure_of bV0_ok 3 [] [false, false] (l := [decide (y < x) = false, decide (x < y) = false]) (by kernel_rfl) (by simp [allP]; omega)

theorem one_pure (b : Bool) : Pure Tryz.prog J0 79 [.bool b] (vi (b2i b)) := by
  unfold b2i
  cases b
  · exact pure_of bV0_ok 3 [] [] (l := []) (by kernel_rfl) trivial
  · exact pure_of bV0_ok 3 [] [] (l := []) (by kernel_rfl) trivial
theorem rone_pure (b : Bool) : Pure Tryz.prog J0 83 [.bool b] (vi (b2i b)) := by
  unfold b2i
  cases b
  · exact pure_of bV0_ok 3 [] [] (l := []) (by kernel_rfl) trivial
  · exact pure_of bV0_ok 3 [] [] (l := []) (by kernel_rfl) trivial

/-- Which comparison it is. -/
def askF : Int → Value
  | .ofNat 10 => .func (.func 139) ⟨[]⟩ ⟨[]⟩
  | .ofNat 11 => .func (.func 140) ⟨[]⟩ ⟨[]⟩
  | .ofNat 12 => .func (.func 141) ⟨[]⟩ ⟨[]⟩
  | .ofNat 13 => .func (.func 142) ⟨[]⟩ ⟨[]⟩
  | .ofNat 14 => .func (.func 143) ⟨[]⟩ ⟨[]⟩
  | .ofNat 15 => .func (.func 144) ⟨[]⟩ ⟨[]⟩
  | _ => .nilFunc

theorem comparisons_pure (op : Int) : Pure Tryz.prog J0 84 [vi op] (.agg ⟨[askF op]⟩) := by
  cases op with
  | negSucc m => exact pure_of bV0_ok 3 [] [] (l := []) (by kernel_rfl) trivial
  | ofNat n =>
    match n with
    | 0 => exact pure_of bV0_ok 3 [] [] (l := []) (by kernel_rfl) trivial
    | 1 => exact pure_of bV0_ok 3 [] [] (l := []) (by kernel_rfl) trivial
    | 2 => exact pure_of bV0_ok 3 [] [] (l := []) (by kernel_rfl) trivial
    | 3 => exact pure_of bV0_ok 3 [] [] (l := []) (by kernel_rfl) trivial
    | 4 => exact pure_of bV0_ok 3 [] [] (l := []) (by kernel_rfl) trivial
    | 5 => exact pure_of bV0_ok 3 [] [] (l := []) (by kernel_rfl) trivial
    | 6 => exact pure_of bV0_ok 3 [] [] (l := []) (by kernel_rfl) trivial
    | 7 => exact pure_of bV0_ok 3 [] [] (l := []) (by kernel_rfl) trivial
    | 8 => exact pure_of bV0_ok 3 [] [] (l := []) (by kernel_rfl) trivial
    | 9 => exact pure_of bV0_ok 3 [] [] (l := []) (by kernel_rfl) trivial
    | 10 => exact pure_of bV0_ok 3 [] [] (l := []) (by kernel_rfl) trivial
    | 11 => exact pure_of bV0_ok 3 [] [] (l := []) (by kernel_rfl) trivial
    | 12 => exact pure_of bV0_ok 3 [] [] (l := []) (by kernel_rfl) trivial
    | 13 => exact pure_of bV0_ok 3 [] [] (l := []) (by kernel_rfl) trivial
    | 14 => exact pure_of bV0_ok 3 [] [] (l := []) (by kernel_rfl) trivial
    | 15 => exact pure_of bV0_ok 3 [] [] (l := []) (by kernel_rfl) trivial
    | m + 16 => exact pure_of bV0_ok 3 [] [] (l := []) (by kernel_rfl) trivial

end Go.Proofs.YtdapaocfidjihaaGreatDoor
