/-
  FormulaKnown: a base that knows layer 12's examples.
-/
import Derived.Test.YtlbmpbkfkmabaaaGreatDoorFoF
namespace Go.Proofs.YtlbmpbkfkmabaaaGreatDoor
open Go Go.RowKit Ev

noncomputable def tabFk0 : Tab := tabAdd 17 (atS [([], .bool true)]) tabN0
theorem tabFk0_ok : PcOk Tryz.prog J0 tabFk0 := tabAdd_ok (atS_ok (fun p hp => by simp only [List.mem_cons, List.not_mem_nil, or_false] at hp; subst hp; exact awake12)) tabN0_ok
noncomputable def bFk0 : Base := ⟨Tryz.prog, J0, true, tabFk0, mtab0, 2000, xtN0⟩
theorem bFk0_ok : BaseOk bFk0 := ⟨progOk, tabFk0_ok, mtab0_ok _ _, xtN0_ok⟩

end Go.Proofs.YtlbmpbkfkmabaaaGreatDoor
