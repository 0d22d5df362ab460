/-
  Layer 5's examples (closed).
-/
import Derived.Test.YtaopinmjgjpiiaaGreatDoorCz1
import Derived.Test.YtaopinmjgjpiiaaGreatDoorCz23
import Derived.Test.YtaopinmjgjpiiaaGreatDoorCij
namespace Go.Proofs.YtaopinmjgjpiiaaGreatDoor
open Go Go.RowKit Ev

noncomputable def tabCz : Tab := tabAdd 76 (atS [([.agg ⟨[.bool false, .string ⟨⟨[49, 48, 48, 48, 48, 48, 48, 48, 48, 48, 48, 48, 48, 48, 48, 48, 48, 53, 53, 53, 49, 49, 49, 53, 49, 50, 51, 49, 50, 53, 55, 56, 50, 55, 48, 50, 49, 49, 56, 49, 53, 56, 51, 52, 48, 52, 53, 52, 49, 48, 49, 53, 54, 50, 53]⟩⟩, .int .i64 (-55)]⟩, .int .i64 17, .int .i64 1], .tuple ⟨[.agg ⟨[.bool false, .string ⟨⟨[49, 48, 48, 48, 48, 48, 48, 48, 48, 48, 48, 48, 48, 48, 48, 48, 49]⟩⟩, .int .i64 (-17)]⟩, .int .i64 0]⟩)]) (tabAdd 74 (atS [([.float .f64 4591870180066957722], .tuple ⟨[.agg ⟨[.bool false, .string ⟨⟨[49, 48, 48, 48, 48, 48, 48, 48, 48, 48, 48, 48, 48, 48, 48, 48, 48, 53, 53, 53, 49, 49, 49, 53, 49, 50, 51, 49, 50, 53, 55, 56, 50, 55, 48, 50, 49, 49, 56, 49, 53, 56, 51, 52, 48, 52, 53, 52, 49, 48, 49, 53, 54, 50, 53]⟩⟩, .int .i64 (-55)]⟩, .int .i64 0]⟩)]) (tabT1))
theorem tabCz_ok : PcOk Tryz.prog J0 tabCz := tabAdd_ok (atS_ok (fun p hp => by simp only [List.mem_cons, List.not_mem_nil, or_false] at hp; rcases hp with rfl <;> first | exact cz_fig)) (tabAdd_ok (atS_ok (fun p hp => by simp only [List.mem_cons, List.not_mem_nil, or_false] at hp; rcases hp with rfl <;> first | exact cc1_1)) (tabT1_ok))
noncomputable def bCz : Base := ⟨Tryz.prog, J0, true, tabCz, mtab0, 2000, xtN0⟩
theorem bCz_ok : BaseOk bCz := ⟨progOk, tabCz_ok, mtab0_ok _ _, xtN0_ok⟩
set_option maxRecDepth 100000 in
theorem cz_f17 : Ev.Pure Tryz.prog J0 37 [.float .f64 4591870180066957722, .int .i64 17] (.tuple ⟨[.string ⟨⟨[49, 46, 48, 48, 48, 48, 48, 48, 48, 48, 48, 48, 48, 48, 48, 48, 48, 49, 101, 45, 49]⟩⟩, .int .i64 0]⟩) :=
  pure_of bCz_ok 30 [] [] (l := []) (by kernel_rfl) trivial
noncomputable def tabCw : Tab := tabAdd 10 (atS [([.string ⟨⟨[48, 120, 49, 46, 56, 112, 49]⟩⟩], .tuple ⟨[.float .f64 4613937818241073152, .int .i64 0]⟩), ([.string ⟨⟨[49, 101, 52, 48, 48]⟩⟩], .tuple ⟨[.float .f64 0, .int .i64 15]⟩)]) (tabAdd 40 (atS [([.float .f64 4612811918334230528], .string ⟨⟨[48, 120, 49, 46, 52, 112, 49]⟩⟩)]) (tabAdd 39 (atS [([.float .f64 13832806255468478464], .string ⟨⟨[45, 49, 46, 53]⟩⟩)]) (tabAdd 38 (atS [([.float .f64 4591870180066957722], .string ⟨⟨[48, 46, 49]⟩⟩)]) (tabAdd 37 (atS [([.float .f64 4591870180066957722, .int .i64 17], .tuple ⟨[.string ⟨⟨[49, 46, 48, 48, 48, 48, 48, 48, 48, 48, 48, 48, 48, 48, 48, 48, 48, 49, 101, 45, 49]⟩⟩, .int .i64 0]⟩)]) (tabT1)))))
theorem tabCw_ok : PcOk Tryz.prog J0 tabCw := tabAdd_ok (atS_ok (fun p hp => by simp only [List.mem_cons, List.not_mem_nil, or_false] at hp; rcases hp with rfl | rfl <;> first | exact cz_p1 | exact cz_p2)) (tabAdd_ok (atS_ok (fun p hp => by simp only [List.mem_cons, List.not_mem_nil, or_false] at hp; rcases hp with rfl <;> first | exact cz_hex)) (tabAdd_ok (atS_ok (fun p hp => by simp only [List.mem_cons, List.not_mem_nil, or_false] at hp; rcases hp with rfl <;> first | exact cz_exact)) (tabAdd_ok (atS_ok (fun p hp => by simp only [List.mem_cons, List.not_mem_nil, or_false] at hp; rcases hp with rfl <;> first | exact cj3_0)) (tabAdd_ok (atS_ok (fun p hp => by simp only [List.mem_cons, List.not_mem_nil, or_false] at hp; rcases hp with rfl <;> first | exact cz_f17)) (tabT1_ok)))))
noncomputable def bCw : Base := ⟨Tryz.prog, J0, true, tabCw, mtab0, 2000, xtN0⟩
theorem bCw_ok : BaseOk bCw := ⟨progOk, tabCw_ok, mtab0_ok _ _, xtN0_ok⟩
set_option maxRecDepth 100000 in
theorem awake5 : Ev.Pure Tryz.prog J0 7 [] (.bool true) :=
  pure_of bCw_ok 30 [] [] (l := []) (by kernel_rfl) trivial

end Go.Proofs.YtaopinmjgjpiiaaGreatDoor
