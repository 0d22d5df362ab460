/-
  Several texts in one (merge.py): Ci, Cjj.
-/
import Derived.Test.YtaopinmjgjpiiaaGreatDoorCc1
import Derived.Test.YtaopinmjgjpiiaaGreatDoorCh1
import Derived.Test.YtaopinmjgjpiiaaGreatDoorCc34
import Derived.Test.YtaopinmjgjpiiaaGreatDoorCc56
import Derived.Test.YtaopinmjgjpiiaaGreatDoorCc7
import Derived.Test.YtaopinmjgjpiiaaGreatDoorCxy
import Derived.Test.YtaopinmjgjpiiaaGreatDoorCcT

/-
  Closed contracts as a table (printed by mkclosed2.py).
-/
namespace Go.Proofs.YtaopinmjgjpiiaaGreatDoor
open Go Go.RowKit Ev

noncomputable def tabI1 : Tab := tabAdd 47 (atS [([.agg ⟨[.bool false, .string ⟨⟨[49]⟩⟩, .int .i64 3]⟩, .int .i64 1], .tuple ⟨[.float .f64 4652007308841189376, .agg ⟨[.bool false, .bool false, .bool false]⟩, .int .i64 0]⟩), ([.agg ⟨[.bool false, .string ⟨⟨[49, 50]⟩⟩, .int .i64 2]⟩, .int .i64 1], .tuple ⟨[.float .f64 4652992471259676672, .agg ⟨[.bool false, .bool false, .bool false]⟩, .int .i64 0]⟩), ([.agg ⟨[.bool false, .string ⟨⟨[49, 50, 51]⟩⟩, .int .i64 1]⟩, .int .i64 1], .tuple ⟨[.float .f64 4653124412655009792, .agg ⟨[.bool false, .bool false, .bool false]⟩, .int .i64 0]⟩), ([.agg ⟨[.bool false, .string ⟨⟨[49, 50, 51, 52]⟩⟩, .int .i64 0]⟩, .int .i64 1], .tuple ⟨[.float .f64 4653142004841054208, .agg ⟨[.bool false, .bool false, .bool false]⟩, .int .i64 0]⟩), ([.agg ⟨[.bool false, .string ⟨⟨[49, 50, 51, 52, 53]⟩⟩, .int .i64 (-1)]⟩, .int .i64 1], .tuple ⟨[.float .f64 4653144203864309760, .agg ⟨[.bool false, .bool false, .bool false]⟩, .int .i64 0]⟩), ([.agg ⟨[.bool false, .string ⟨⟨[49]⟩⟩, .int .i64 (-1)]⟩, .int .i64 1], .tuple ⟨[.float .f64 4591870180066957722, .agg ⟨[.bool true, .bool false, .bool false]⟩, .int .i64 0]⟩), ([.agg ⟨[.bool false, .string ⟨⟨[51]⟩⟩, .int .i64 0]⟩, .int .i64 1], .tuple ⟨[.float .f64 4613937818241073152, .agg ⟨[.bool false, .bool false, .bool false]⟩, .int .i64 0]⟩), ([.agg ⟨[.bool false, .string ⟨⟨[50, 56]⟩⟩, .int .i64 (-1)]⟩, .int .i64 1], .tuple ⟨[.float .f64 4613487458278336102, .agg ⟨[.bool true, .bool false, .bool false]⟩, .int .i64 0]⟩), ([.agg ⟨[.bool false, .string ⟨⟨[50, 55, 53]⟩⟩, .int .i64 (-2)]⟩, .int .i64 1], .tuple ⟨[.float .f64 4613374868287651840, .agg ⟨[.bool false, .bool false, .bool false]⟩, .int .i64 0]⟩)]) (tabAdd 76 (atS [([.agg ⟨[.bool false, .string ⟨⟨[49, 50, 51, 52, 53]⟩⟩, .int .i64 (-1)]⟩, .int .i64 1, .int .i64 1], .tuple ⟨[.agg ⟨[.bool false, .string ⟨⟨[49]⟩⟩, .int .i64 3]⟩, .int .i64 0]⟩), ([.agg ⟨[.bool false, .string ⟨⟨[49, 50, 51, 52, 53]⟩⟩, .int .i64 (-1)]⟩, .int .i64 2, .int .i64 1], .tuple ⟨[.agg ⟨[.bool false, .string ⟨⟨[49, 50]⟩⟩, .int .i64 2]⟩, .int .i64 0]⟩), ([.agg ⟨[.bool false, .string ⟨⟨[49, 50, 51, 52, 53]⟩⟩, .int .i64 (-1)]⟩, .int .i64 3, .int .i64 1], .tuple ⟨[.agg ⟨[.bool false, .string ⟨⟨[49, 50, 51]⟩⟩, .int .i64 1]⟩, .int .i64 0]⟩), ([.agg ⟨[.bool false, .string ⟨⟨[49, 50, 51, 52, 53]⟩⟩, .int .i64 (-1)]⟩, .int .i64 4, .int .i64 1], .tuple ⟨[.agg ⟨[.bool false, .string ⟨⟨[49, 50, 51, 52]⟩⟩, .int .i64 0]⟩, .int .i64 0]⟩), ([.agg ⟨[.bool false, .string ⟨⟨[49, 50, 51, 52, 53]⟩⟩, .int .i64 (-1)]⟩, .int .i64 5, .int .i64 1], .tuple ⟨[.agg ⟨[.bool false, .string ⟨⟨[49, 50, 51, 52, 53]⟩⟩, .int .i64 (-1)]⟩, .int .i64 0]⟩), ([.agg ⟨[.bool false, .string ⟨⟨[50, 55, 53]⟩⟩, .int .i64 (-2)]⟩, .int .i64 1, .int .i64 1], .tuple ⟨[.agg ⟨[.bool false, .string ⟨⟨[51]⟩⟩, .int .i64 0]⟩, .int .i64 0]⟩), ([.agg ⟨[.bool false, .string ⟨⟨[50, 55, 53]⟩⟩, .int .i64 (-2)]⟩, .int .i64 2, .int .i64 1], .tuple ⟨[.agg ⟨[.bool false, .string ⟨⟨[50, 56]⟩⟩, .int .i64 (-1)]⟩, .int .i64 0]⟩), ([.agg ⟨[.bool false, .string ⟨⟨[50, 55, 53]⟩⟩, .int .i64 (-2)]⟩, .int .i64 3, .int .i64 1], .tuple ⟨[.agg ⟨[.bool false, .string ⟨⟨[50, 55, 53]⟩⟩, .int .i64 (-2)]⟩, .int .i64 0]⟩), ([.agg ⟨[.bool false, .string ⟨⟨[49, 48, 48, 48, 48, 48, 48, 48, 48, 48, 48, 48, 48, 48, 48, 48, 48, 53, 53, 53, 49, 49, 49, 53, 49, 50, 51, 49, 50, 53, 55, 56, 50, 55, 48, 50, 49, 49, 56, 49, 53, 56, 51, 52, 48, 52, 53, 52, 49, 48, 49, 53, 54, 50, 53]⟩⟩, .int .i64 (-55)]⟩, .int .i64 1, .int .i64 1], .tuple ⟨[.agg ⟨[.bool false, .string ⟨⟨[49]⟩⟩, .int .i64 (-1)]⟩, .int .i64 0]⟩)]) (tabAdd 74 (atS [([.float .f64 4653144203864309760], .tuple ⟨[.agg ⟨[.bool false, .string ⟨⟨[49, 50, 51, 52, 53]⟩⟩, .int .i64 (-1)]⟩, .int .i64 0]⟩), ([.float .f64 4591870180066957722], .tuple ⟨[.agg ⟨[.bool false, .string ⟨⟨[49, 48, 48, 48, 48, 48, 48, 48, 48, 48, 48, 48, 48, 48, 48, 48, 48, 53, 53, 53, 49, 49, 49, 53, 49, 50, 51, 49, 50, 53, 55, 56, 50, 55, 48, 50, 49, 49, 56, 49, 53, 56, 51, 52, 48, 52, 53, 52, 49, 48, 49, 53, 54, 50, 53]⟩⟩, .int .i64 (-55)]⟩, .int .i64 0]⟩), ([.float .f64 4613374868287651840], .tuple ⟨[.agg ⟨[.bool false, .string ⟨⟨[50, 55, 53]⟩⟩, .int .i64 (-2)]⟩, .int .i64 0]⟩)]) (tabT1)))
theorem tabI1_ok : PcOk Tryz.prog J0 tabI1 := tabAdd_ok (atS_ok (fun p hp => by simp only [List.mem_cons, List.not_mem_nil, or_false] at hp; rcases hp with rfl | rfl | rfl | rfl | rfl | rfl | rfl | rfl | rfl <;> first | exact cc3_0 | exact cc3_1 | exact cc4_0 | exact cc4_1 | exact cc5_0 | exact cc5_1 | exact cc7_0 | exact cc7_1 | exact cc7_2)) (tabAdd_ok (atS_ok (fun p hp => by simp only [List.mem_cons, List.not_mem_nil, or_false] at hp; rcases hp with rfl | rfl | rfl | rfl | rfl | rfl | rfl | rfl | rfl <;> first | exact ch1_0 | exact ch1_1 | exact ch1_2 | exact ch1_3 | exact ch1_4 | exact cc6_1 | exact cc6_2 | exact cc6_3 | exact cy_0)) (tabAdd_ok (atS_ok (fun p hp => by simp only [List.mem_cons, List.not_mem_nil, or_false] at hp; rcases hp with rfl | rfl | rfl <;> first | exact cc1_0 | exact cc1_1 | exact cc6_0)) (tabT1_ok)))
/-- For closed arguments. -/
noncomputable def bI1 : Base := ⟨Tryz.prog, J0, true, tabI1, mtab0, 2000, xtN0⟩
theorem bI1_ok : BaseOk bI1 := ⟨progOk, tabI1_ok, mtab0_ok _ _, xtN0_ok⟩

end Go.Proofs.YtaopinmjgjpiiaaGreatDoor

/-
  Several texts in one (merge.py): Cj1, Cj2, Cj3, Cj.
-/

/-
  Closed contracts (printed by mkclosed2.py).
-/
namespace Go.Proofs.YtaopinmjgjpiiaaGreatDoor
open Go Go.RowKit Ev

set_option maxRecDepth 100000 in
theorem cj1_0 : Pure Tryz.prog J0 38 [.float .f64 4653144203864309760] (.string ⟨⟨[49, 50, 51, 52, 46, 53]⟩⟩) :=
  pure_of bI1_ok 30 [] [] (l := []) (by kernel_rfl) trivial

end Go.Proofs.YtaopinmjgjpiiaaGreatDoor

/-
  Closed contracts (printed by mkclosed2.py).
-/
namespace Go.Proofs.YtaopinmjgjpiiaaGreatDoor
open Go Go.RowKit Ev

set_option maxRecDepth 100000 in
theorem cj2_0 : Pure Tryz.prog J0 38 [.float .f64 4613374868287651840] (.string ⟨⟨[50, 46, 55, 53]⟩⟩) :=
  pure_of bI1_ok 30 [] [] (l := []) (by kernel_rfl) trivial

end Go.Proofs.YtaopinmjgjpiiaaGreatDoor

/-
  Closed contracts (printed by mkclosed2.py).
-/
namespace Go.Proofs.YtaopinmjgjpiiaaGreatDoor
open Go Go.RowKit Ev

set_option maxRecDepth 100000 in
theorem cj3_0 : Pure Tryz.prog J0 38 [.float .f64 4591870180066957722] (.string ⟨⟨[48, 46, 49]⟩⟩) :=
  pure_of bI1_ok 30 [] [] (l := []) (by kernel_rfl) trivial

end Go.Proofs.YtaopinmjgjpiiaaGreatDoor

/-
  Closed contracts as a table (printed by mkclosed2.py).
-/
namespace Go.Proofs.YtaopinmjgjpiiaaGreatDoor
open Go Go.RowKit Ev

noncomputable def tabJ1 : Tab := tabAdd 38 (atS [([.float .f64 4653144203864309760], .string ⟨⟨[49, 50, 51, 52, 46, 53]⟩⟩), ([.float .f64 4613374868287651840], .string ⟨⟨[50, 46, 55, 53]⟩⟩), ([.float .f64 4591870180066957722], .string ⟨⟨[48, 46, 49]⟩⟩)]) (tabI1)
theorem tabJ1_ok : PcOk Tryz.prog J0 tabJ1 := tabAdd_ok (atS_ok (fun p hp => by simp only [List.mem_cons, List.not_mem_nil, or_false] at hp; rcases hp with rfl | rfl | rfl <;> first | exact cj1_0 | exact cj2_0 | exact cj3_0)) (tabI1_ok)
/-- For closed arguments. -/
noncomputable def bJ1 : Base := ⟨Tryz.prog, J0, true, tabJ1, mtab0, 2000, xtN0⟩
theorem bJ1_ok : BaseOk bJ1 := ⟨progOk, tabJ1_ok, mtab0_ok _ _, xtN0_ok⟩

end Go.Proofs.YtaopinmjgjpiiaaGreatDoor
