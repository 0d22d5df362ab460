/-
  Closed contracts as a table (printed by mkclosed2.py).
-/
import Derived.Test.YtlbmpbkfkmabaaaGreatDoorCf1
import Derived.Test.YtlbmpbkfkmabaaaGreatDoorCe
namespace Go.Proofs.YtlbmpbkfkmabaaaGreatDoor
open Go Go.RowKit Ev

noncomputable def tabF1 : Tab := tabAdd 59 (atS [([.float .f64 4607182418800017408], .string ⟨⟨[49]⟩⟩), ([.float .f64 4611686018427387904], .string ⟨⟨[50]⟩⟩), ([.float .f64 4613937818241073152], .string ⟨⟨[51]⟩⟩), ([.float .f64 4602678819172646912], .string ⟨⟨[48, 46, 53]⟩⟩)]) (tabE1)
theorem tabF1_ok : PcOk Tryz.prog J0 tabF1 := tabAdd_ok (atS_ok (fun p hp => by simp only [List.mem_cons, List.not_mem_nil, or_false] at hp; rcases hp with rfl | rfl | rfl | rfl <;> first | exact cf1_0 | exact cf1_1 | exact cf1_2 | exact cf1_3)) (tabE1_ok)
/-- For closed arguments. -/
noncomputable def bF1 : Base := ⟨Tryz.prog, J0, true, tabF1, mtab0, 2000, xtN0⟩
theorem bF1_ok : BaseOk bF1 := ⟨progOk, tabF1_ok, mtab0_ok _ _, xtN0_ok⟩

end Go.Proofs.YtlbmpbkfkmabaaaGreatDoor
