/-
  parts.power at -1022 (closed): a power of two that a number's class is told by; a table with it.
-/
import Derived.Test.YtlbmpbkfkmabaaaGreatDoorCf
namespace Go.Proofs.YtlbmpbkfkmabaaaGreatDoor
open Go Go.RowKit Ev

set_option maxRecDepth 1000000 in
theorem power_least : Ev.Pure Tryz.prog J0 221 [.int .i64 (-1022)] (.float .f64 4503599627370496) :=
  pure_of bN0_ok 30 [] [] (l := []) (by kernel_rfl) trivial
noncomputable def tabWm : Tab := tabAdd 221 (atS [([.int .i64 (-1022)], .float .f64 4503599627370496)]) tabF1
theorem tabWm_ok : PcOk Tryz.prog J0 tabWm := tabAdd_ok (atS_ok (fun p hp => by simp only [List.mem_cons, List.not_mem_nil, or_false] at hp; subst hp; exact power_least)) tabF1_ok
/-- For closed arguments. -/
noncomputable def bWm : Base := ⟨Tryz.prog, J0, true, tabWm, mtab0, 2000, xtN0⟩
theorem bWm_ok : BaseOk bWm := ⟨progOk, tabWm_ok, mtab0_ok _ _, xtN0_ok⟩

end Go.Proofs.YtlbmpbkfkmabaaaGreatDoor
