/-
  Closed contracts as a table (printed by mkclosed2.py).
-/
import Derived.Test.YtlbmpbkfkmabaaaGreatDoorFoD1
import Derived.Test.YtlbmpbkfkmabaaaGreatDoorFoD2
import Derived.Test.YtlbmpbkfkmabaaaGreatDoorFoG
namespace Go.Proofs.YtlbmpbkfkmabaaaGreatDoor
open Go Go.RowKit Ev

noncomputable def tabFo1 : Tab := tabAdd 186 (atS [([.string ⟨⟨[45, 50, 94, 50]⟩⟩], .tuple ⟨[.agg ⟨[.int .i64 5, .string ⟨⟨[45]⟩⟩, .int .i64 0, .float .f64 0, .string ⟨⟨[]⟩⟩, .int .i64 0, .int .i64 0, .bool false, .bool false, .int .i64 0]⟩, .int .i64 0]⟩), ([.string ⟨⟨[94, 50]⟩⟩], .tuple ⟨[.agg ⟨[.int .i64 5, .string ⟨⟨[94]⟩⟩, .int .i64 0, .float .f64 0, .string ⟨⟨[]⟩⟩, .int .i64 0, .int .i64 0, .bool false, .bool false, .int .i64 0]⟩, .int .i64 0]⟩), ([.string ⟨⟨[50, 94, 50]⟩⟩], .tuple ⟨[.agg ⟨[.int .i64 1, .string ⟨⟨[50]⟩⟩, .int .i64 0, .float .f64 4611686018427387904, .string ⟨⟨[]⟩⟩, .int .i64 0, .int .i64 0, .bool false, .bool false, .int .i64 0]⟩, .int .i64 0]⟩), ([.string ⟨⟨[50]⟩⟩], .tuple ⟨[.agg ⟨[.int .i64 1, .string ⟨⟨[50]⟩⟩, .int .i64 0, .float .f64 4611686018427387904, .string ⟨⟨[]⟩⟩, .int .i64 0, .int .i64 0, .bool false, .bool false, .int .i64 0]⟩, .int .i64 0]⟩)]) (tabFo0)
set_option maxRecDepth 100000 in
theorem tabFo1_ok : PcOk Tryz.prog J0 tabFo1 := by
  refine tabAdd_ok (atS_ok (fun p hp => ?_)) tabFo0_ok
  rcases List.mem_cons.1 hp with rfl | hp
  · exact fod1_0
  rcases List.mem_cons.1 hp with rfl | hp
  · exact fod1_1
  rcases List.mem_cons.1 hp with rfl | hp
  · exact fod2_0
  rcases List.mem_cons.1 hp with rfl | hp
  · exact fod2_1
  cases hp
/-- For closed arguments. -/
noncomputable def bFo1 : Base := ⟨Tryz.prog, J0, true, tabFo1, mtab0, 2000, xtN0⟩
theorem bFo1_ok : BaseOk bFo1 := ⟨progOk, tabFo1_ok, mtab0_ok _ _, xtN0_ok⟩

end Go.Proofs.YtlbmpbkfkmabaaaGreatDoor
