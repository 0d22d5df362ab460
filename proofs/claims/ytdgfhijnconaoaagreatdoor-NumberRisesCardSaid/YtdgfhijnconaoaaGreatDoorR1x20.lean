/-
 NumberRises: of two texts the one with the greater value is never read as the lesser number; no condition (a part of the proof).
-/
import Derived.Test.YtdgfhijnconaoaaGreatDoorR1x15
import Derived.Test.YtdgfhijnconaoaaGreatDoorR1x16
import Derived.Test.YtdgfhijnconaoaaGreatDoorR1x17
import Derived.Test.YtdgfhijnconaoaaGreatDoorR1x18
import Derived.Test.YtdgfhijnconaoaaGreatDoorR1x19
import Derived.Test.YtdgfhijnconaoaaGreatDoorR1x12
import Derived.Test.YtdgfhijnconaoaaGreatDoorR1x10
import Derived.Test.YtdgfhijnconaoaaGreatDoorR1x13
import Derived.Test.YtdgfhijnconaoaaGreatDoorR1x14
set_option maxRecDepth 1000000
namespace Go.Proofs.YtdgfhijnconaoaaGreatDoor
open Go Go.RowKit Ev
noncomputable def tabI1:Tab:=tabAdd 33 (atS [([.agg ⟨[.bool false, .string ⟨⟨[49]⟩⟩, .int .i64 3]⟩, .int .i64 1], .tuple ⟨[.float .f64 4652007308841189376, .agg ⟨[.bool false, .bool false, .bool false]⟩, .int .i64 0]⟩),([.agg ⟨[.bool false, .string ⟨⟨[49,50]⟩⟩, .int .i64 2]⟩, .int .i64 1], .tuple ⟨[.float .f64 4652992471259676672, .agg ⟨[.bool false, .bool false, .bool false]⟩, .int .i64 0]⟩),([.agg ⟨[.bool false, .string ⟨⟨[49,50,51]⟩⟩, .int .i64 1]⟩, .int .i64 1], .tuple ⟨[.float .f64 4653124412655009792, .agg ⟨[.bool false, .bool false, .bool false]⟩, .int .i64 0]⟩),([.agg ⟨[.bool false, .string ⟨⟨[49,50,51,52]⟩⟩, .int .i64 0]⟩, .int .i64 1], .tuple ⟨[.float .f64 4653142004841054208, .agg ⟨[.bool false, .bool false, .bool false]⟩, .int .i64 0]⟩),([.agg ⟨[.bool false, .string ⟨⟨[49,50,51,52,53]⟩⟩, .int .i64 (-1)]⟩, .int .i64 1], .tuple ⟨[.float .f64 4653144203864309760, .agg ⟨[.bool false, .bool false, .bool false]⟩, .int .i64 0]⟩),([.agg ⟨[.bool false, .string ⟨⟨[49]⟩⟩, .int .i64 (-1)]⟩, .int .i64 1], .tuple ⟨[.float .f64 4591870180066957722, .agg ⟨[.bool true, .bool false, .bool false]⟩, .int .i64 0]⟩),([.agg ⟨[.bool false, .string ⟨⟨[51]⟩⟩, .int .i64 0]⟩, .int .i64 1], .tuple ⟨[.float .f64 4613937818241073152, .agg ⟨[.bool false, .bool false, .bool false]⟩, .int .i64 0]⟩),([.agg ⟨[.bool false, .string ⟨⟨[50,56]⟩⟩, .int .i64 (-1)]⟩, .int .i64 1], .tuple ⟨[.float .f64 4613487458278336102, .agg ⟨[.bool true, .bool false, .bool false]⟩, .int .i64 0]⟩),([.agg ⟨[.bool false, .string ⟨⟨[50,55,53]⟩⟩, .int .i64 (-2)]⟩, .int .i64 1], .tuple ⟨[.float .f64 4613374868287651840, .agg ⟨[.bool false, .bool false, .bool false]⟩, .int .i64 0]⟩)]) (tabAdd 52 (atS [([.agg ⟨[.bool false, .string ⟨⟨[49,50,51,52,53]⟩⟩, .int .i64 (-1)]⟩, .int .i64 1, .int .i64 1], .tuple ⟨[.agg ⟨[.bool false, .string ⟨⟨[49]⟩⟩, .int .i64 3]⟩, .int .i64 0]⟩),([.agg ⟨[.bool false, .string ⟨⟨[49,50,51,52,53]⟩⟩, .int .i64 (-1)]⟩, .int .i64 2, .int .i64 1], .tuple ⟨[.agg ⟨[.bool false, .string ⟨⟨[49,50]⟩⟩, .int .i64 2]⟩, .int .i64 0]⟩),([.agg ⟨[.bool false, .string ⟨⟨[49,50,51,52,53]⟩⟩, .int .i64 (-1)]⟩, .int .i64 3, .int .i64 1], .tuple ⟨[.agg ⟨[.bool false, .string ⟨⟨[49,50,51]⟩⟩, .int .i64 1]⟩, .int .i64 0]⟩),([.agg ⟨[.bool false, .string ⟨⟨[49,50,51,52,53]⟩⟩, .int .i64 (-1)]⟩, .int .i64 4, .int .i64 1], .tuple ⟨[.agg ⟨[.bool false, .string ⟨⟨[49,50,51,52]⟩⟩, .int .i64 0]⟩, .int .i64 0]⟩),([.agg ⟨[.bool false, .string ⟨⟨[49,50,51,52,53]⟩⟩, .int .i64 (-1)]⟩, .int .i64 5, .int .i64 1], .tuple ⟨[.agg ⟨[.bool false, .string ⟨⟨[49,50,51,52,53]⟩⟩, .int .i64 (-1)]⟩, .int .i64 0]⟩),([.agg ⟨[.bool false, .string ⟨⟨[50,55,53]⟩⟩, .int .i64 (-2)]⟩, .int .i64 1, .int .i64 1], .tuple ⟨[.agg ⟨[.bool false, .string ⟨⟨[51]⟩⟩, .int .i64 0]⟩, .int .i64 0]⟩),([.agg ⟨[.bool false, .string ⟨⟨[50,55,53]⟩⟩, .int .i64 (-2)]⟩, .int .i64 2, .int .i64 1], .tuple ⟨[.agg ⟨[.bool false, .string ⟨⟨[50,56]⟩⟩, .int .i64 (-1)]⟩, .int .i64 0]⟩),([.agg ⟨[.bool false, .string ⟨⟨[50,55,53]⟩⟩, .int .i64 (-2)]⟩, .int .i64 3, .int .i64 1], .tuple ⟨[.agg ⟨[.bool false, .string ⟨⟨[50,55,53]⟩⟩, .int .i64 (-2)]⟩, .int .i64 0]⟩),([.agg ⟨[.bool false, .string ⟨⟨[49,48,48,48,48,48,48,48,48,48,48,48,48,48,48,48,48,53,53,53,49,49,49,53,49,50,51,49,50,53,55,56,50,55,48,50,49,49,56,49,53,56,51,52,48,52,53,52,49,48,49,53,54,50,53]⟩⟩, .int .i64 (-55)]⟩, .int .i64 1, .int .i64 1], .tuple ⟨[.agg ⟨[.bool false, .string ⟨⟨[49]⟩⟩, .int .i64 (-1)]⟩, .int .i64 0]⟩)]) (tabAdd 50 (atS [([.float .f64 4653144203864309760], .tuple ⟨[.agg ⟨[.bool false, .string ⟨⟨[49,50,51,52,53]⟩⟩, .int .i64 (-1)]⟩, .int .i64 0]⟩),([.float .f64 4591870180066957722], .tuple ⟨[.agg ⟨[.bool false, .string ⟨⟨[49,48,48,48,48,48,48,48,48,48,48,48,48,48,48,48,48,53,53,53,49,49,49,53,49,50,51,49,50,53,55,56,50,55,48,50,49,49,56,49,53,56,51,52,48,52,53,52,49,48,49,53,54,50,53]⟩⟩, .int .i64 (-55)]⟩, .int .i64 0]⟩),([.float .f64 4613374868287651840], .tuple ⟨[.agg ⟨[.bool false, .string ⟨⟨[50,55,53]⟩⟩, .int .i64 (-2)]⟩, .int .i64 0]⟩)]) (tabT1)))
theorem tabI1_ok:PcOk Tryz.prog J0 tabI1:=tabAdd_ok (atS_ok (fun p hp=>by simp only [List.mem_cons,List.not_mem_nil,or_false] at hp; rcases hp with rfl | rfl | rfl | rfl | rfl | rfl | rfl | rfl | rfl <;> first | exact cc3_0 | exact cc3_1 | exact cc4_0 | exact cc4_1 | exact cc5_0 | exact cc5_1 | exact cc7_0 | exact cc7_1 | exact cc7_2)) (tabAdd_ok (atS_ok (fun p hp=>by simp only [List.mem_cons,List.not_mem_nil,or_false] at hp; rcases hp with rfl | rfl | rfl | rfl | rfl | rfl | rfl | rfl | rfl <;> first | exact ch1_0 | exact ch1_1 | exact ch1_2 | exact ch1_3 | exact ch1_4 | exact cc6_1 | exact cc6_2 | exact cc6_3 | exact cy_0)) (tabAdd_ok (atS_ok (fun p hp=>by simp only [List.mem_cons,List.not_mem_nil,or_false] at hp; rcases hp with rfl | rfl | rfl <;> first | exact cc1_0 | exact cc1_1 | exact cc6_0)) (tabT1_ok)))
noncomputable def bI1:Base:=⟨Tryz.prog,J0,true,tabI1,mtab0,2000,xtN0⟩
theorem bI1_ok:BaseOk bI1:=⟨progOk,tabI1_ok,mtab0_ok _ _,xtN0_ok⟩
end Go.Proofs.YtdgfhijnconaoaaGreatDoor
namespace Go.Proofs.YtdgfhijnconaoaaGreatDoor
open Go Go.RowKit Ev
end Go.Proofs.YtdgfhijnconaoaaGreatDoor
namespace Go.Proofs.YtdgfhijnconaoaaGreatDoor
open Go Go.RowKit Ev
end Go.Proofs.YtdgfhijnconaoaaGreatDoor
namespace Go.Proofs.YtdgfhijnconaoaaGreatDoor
open Go Go.RowKit Ev
theorem cj3_0:Pure Tryz.prog J0 27 [.float .f64 4591870180066957722] (.string ⟨⟨[48,46,49]⟩⟩):=
 pure_of bI1_ok 30 [] [] (l:=[]) (by kernel_rfl) trivial
end Go.Proofs.YtdgfhijnconaoaaGreatDoor
namespace Go.Proofs.YtdgfhijnconaoaaGreatDoor
open Go Go.RowKit Ev
end Go.Proofs.YtdgfhijnconaoaaGreatDoor
namespace Go.Proofs.YtdgfhijnconaoaaGreatDoor
open Go Go.RowKit Ev
noncomputable def tabCz:Tab:=tabAdd 52 (atS [([.agg ⟨[.bool false, .string ⟨⟨[49,48,48,48,48,48,48,48,48,48,48,48,48,48,48,48,48,53,53,53,49,49,49,53,49,50,51,49,50,53,55,56,50,55,48,50,49,49,56,49,53,56,51,52,48,52,53,52,49,48,49,53,54,50,53]⟩⟩, .int .i64 (-55)]⟩, .int .i64 17, .int .i64 1], .tuple ⟨[.agg ⟨[.bool false, .string ⟨⟨[49,48,48,48,48,48,48,48,48,48,48,48,48,48,48,48,49]⟩⟩, .int .i64 (-17)]⟩, .int .i64 0]⟩)]) (tabAdd 50 (atS [([.float .f64 4591870180066957722], .tuple ⟨[.agg ⟨[.bool false, .string ⟨⟨[49,48,48,48,48,48,48,48,48,48,48,48,48,48,48,48,48,53,53,53,49,49,49,53,49,50,51,49,50,53,55,56,50,55,48,50,49,49,56,49,53,56,51,52,48,52,53,52,49,48,49,53,54,50,53]⟩⟩, .int .i64 (-55)]⟩, .int .i64 0]⟩)]) (tabT1))
theorem tabCz_ok:PcOk Tryz.prog J0 tabCz:=tabAdd_ok (atS_ok (fun p hp=>by simp only [List.mem_cons,List.not_mem_nil,or_false] at hp; rcases hp with rfl <;> first | exact cz_fig)) (tabAdd_ok (atS_ok (fun p hp=>by simp only [List.mem_cons,List.not_mem_nil,or_false] at hp; rcases hp with rfl <;> first | exact cc1_1)) (tabT1_ok))
noncomputable def bCz:Base:=⟨Tryz.prog,J0,true,tabCz,mtab0,2000,xtN0⟩
theorem bCz_ok:BaseOk bCz:=⟨progOk,tabCz_ok,mtab0_ok _ _,xtN0_ok⟩
theorem cz_f17:Ev.Pure Tryz.prog J0 26 [.float .f64 4591870180066957722, .int .i64 17] (.tuple ⟨[.string ⟨⟨[49,46,48,48,48,48,48,48,48,48,48,48,48,48,48,48,48,49,101,45,49]⟩⟩, .int .i64 0]⟩):=
 pure_of bCz_ok 30 [] [] (l:=[]) (by kernel_rfl) trivial
noncomputable def tabCw:Tab:=tabAdd 10 (atS [([.string ⟨⟨[48,120,49,46,56,112,49]⟩⟩], .tuple ⟨[.float .f64 4613937818241073152, .int .i64 0]⟩),([.string ⟨⟨[49,101,52,48,48]⟩⟩], .tuple ⟨[.float .f64 0, .int .i64 15]⟩)]) (tabAdd 29 (atS [([.float .f64 4612811918334230528], .string ⟨⟨[48,120,49,46,52,112,49]⟩⟩)]) (tabAdd 28 (atS [([.float .f64 13832806255468478464], .string ⟨⟨[45,49,46,53]⟩⟩)]) (tabAdd 27 (atS [([.float .f64 4591870180066957722], .string ⟨⟨[48,46,49]⟩⟩)]) (tabAdd 26 (atS [([.float .f64 4591870180066957722, .int .i64 17], .tuple ⟨[.string ⟨⟨[49,46,48,48,48,48,48,48,48,48,48,48,48,48,48,48,48,49,101,45,49]⟩⟩, .int .i64 0]⟩)]) (tabT1)))))
theorem tabCw_ok:PcOk Tryz.prog J0 tabCw:=tabAdd_ok (atS_ok (fun p hp=>by simp only [List.mem_cons,List.not_mem_nil,or_false] at hp; rcases hp with rfl | rfl <;> first | exact cz_p1 | exact cz_p2)) (tabAdd_ok (atS_ok (fun p hp=>by simp only [List.mem_cons,List.not_mem_nil,or_false] at hp; rcases hp with rfl <;> first | exact cz_hex)) (tabAdd_ok (atS_ok (fun p hp=>by simp only [List.mem_cons,List.not_mem_nil,or_false] at hp; rcases hp with rfl <;> first | exact cz_exact)) (tabAdd_ok (atS_ok (fun p hp=>by simp only [List.mem_cons,List.not_mem_nil,or_false] at hp; rcases hp with rfl <;> first | exact cj3_0)) (tabAdd_ok (atS_ok (fun p hp=>by simp only [List.mem_cons,List.not_mem_nil,or_false] at hp; rcases hp with rfl <;> first | exact cz_f17)) (tabT1_ok)))))
noncomputable def bCw:Base:=⟨Tryz.prog,J0,true,tabCw,mtab0,2000,xtN0⟩
theorem bCw_ok:BaseOk bCw:=⟨progOk,tabCw_ok,mtab0_ok _ _,xtN0_ok⟩
theorem awake5:Ev.Pure Tryz.prog J0 7 [] (.bool true):=
 pure_of bCw_ok 30 [] [] (l:=[]) (by kernel_rfl) trivial
end Go.Proofs.YtdgfhijnconaoaaGreatDoor
