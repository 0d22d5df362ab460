/-
  Closed contracts (printed by mkclosed.py).
-/
import Derived.Test.YtdapaocfidjihaaGreatDoorNuB
namespace Go.Proofs.YtdapaocfidjihaaGreatDoor
open Go Go.RowKit Ev

set_option maxRecDepth 100000 in
theorem nuc_0 : Pure Tryz.prog J0 49 [.string ⟨⟨[49, 46, 53]⟩⟩] (.tuple ⟨[.float .f64 4609434218613702656, .int .i64 0]⟩) :=
  pure_of bN1_ok 30 [] [] (l := []) (by kernel_rfl) trivial

set_option maxRecDepth 100000 in
theorem nuc_1 : Pure Tryz.prog J0 102 [.float .f64 4602678819172646912] (.tuple ⟨[.agg ⟨[.bool false, .string ⟨⟨[53]⟩⟩, .int .i64 (-1)]⟩, .int .i64 0]⟩) :=
  pure_of bN1_ok 30 [] [] (l := []) (by kernel_rfl) trivial

set_option maxRecDepth 100000 in
theorem nuc_2 : Pure Tryz.prog J0 104 [.agg ⟨[.bool false, .string ⟨⟨[53]⟩⟩, .int .i64 (-1)]⟩, .int .i64 1, .int .i64 1] (.tuple ⟨[.agg ⟨[.bool false, .string ⟨⟨[53]⟩⟩, .int .i64 (-1)]⟩, .int .i64 0]⟩) :=
  pure_of bN1_ok 30 [] [] (l := []) (by kernel_rfl) trivial

set_option maxRecDepth 100000 in
theorem nuc_3 : Pure Tryz.prog J0 98 [.agg ⟨[.bool false, .string ⟨⟨[53]⟩⟩, .int .i64 (-1)]⟩, .int .i64 1] (.tuple ⟨[.float .f64 4602678819172646912, .agg ⟨[.bool false, .bool false, .bool false]⟩, .int .i64 0]⟩) :=
  pure_of bN1_ok 30 [] [] (l := []) (by kernel_rfl) trivial

noncomputable def tabN2 : Tab := tabAdd 98 (atS [([.agg ⟨[.bool false, .string ⟨⟨[53]⟩⟩, .int .i64 (-1)]⟩, .int .i64 1], .tuple ⟨[.float .f64 4602678819172646912, .agg ⟨[.bool false, .bool false, .bool false]⟩, .int .i64 0]⟩)]) (tabAdd 104 (atS [([.agg ⟨[.bool false, .string ⟨⟨[53]⟩⟩, .int .i64 (-1)]⟩, .int .i64 1, .int .i64 1], .tuple ⟨[.agg ⟨[.bool false, .string ⟨⟨[53]⟩⟩, .int .i64 (-1)]⟩, .int .i64 0]⟩)]) (tabAdd 102 (atS [([.float .f64 4602678819172646912], .tuple ⟨[.agg ⟨[.bool false, .string ⟨⟨[53]⟩⟩, .int .i64 (-1)]⟩, .int .i64 0]⟩)]) (tabAdd 49 (atS [([.string ⟨⟨[49, 46, 53]⟩⟩], .tuple ⟨[.float .f64 4609434218613702656, .int .i64 0]⟩)]) (tabN1))))
theorem tabN2_ok : PcOk Tryz.prog J0 tabN2 := tabAdd_ok (atS_ok (fun p hp => by simp only [List.mem_cons, List.not_mem_nil, or_false] at hp; rcases hp with rfl <;> first | exact nuc_3)) (tabAdd_ok (atS_ok (fun p hp => by simp only [List.mem_cons, List.not_mem_nil, or_false] at hp; rcases hp with rfl <;> first | exact nuc_2)) (tabAdd_ok (atS_ok (fun p hp => by simp only [List.mem_cons, List.not_mem_nil, or_false] at hp; rcases hp with rfl <;> first | exact nuc_1)) (tabAdd_ok (atS_ok (fun p hp => by simp only [List.mem_cons, List.not_mem_nil, or_false] at hp; rcases hp with rfl <;> first | exact nuc_0)) (tabN1_ok))))
/-- For closed arguments. -/
noncomputable def bN2 : Base := ⟨Tryz.prog, J0, true, tabN2, mtab0, 2000, xtN0⟩
theorem bN2_ok : BaseOk bN2 := ⟨progOk, tabN2_ok, mtab0_ok _ _, xtN0_ok⟩

end Go.Proofs.YtdapaocfidjihaaGreatDoor
