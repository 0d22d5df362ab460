/-
  A base for layer 12's examples.
-/
import Derived.Test.YtlbmpbkfkmabaaaGreatDoorCc10
namespace Go.Proofs.YtlbmpbkfkmabaaaGreatDoor
open Go Go.RowKit Ev

noncomputable def tabFo0 : Tab := tabAdd 261 (atS [([.string ⟨⟨[50]⟩⟩], .tuple ⟨[.float .f64 4611686018427387904, .int .i64 0]⟩)]) tabT1
theorem tabFo0_ok : PcOk Tryz.prog J0 tabFo0 := tabAdd_ok (atS_ok (fun p hp => by simp only [List.mem_cons, List.not_mem_nil, or_false] at hp; subst hp; exact cc10_0)) tabT1_ok
noncomputable def bFo0 : Base := ⟨Tryz.prog, J0, true, tabFo0, mtab0, 2000, xtN0⟩
theorem bFo0_ok : BaseOk bFo0 := ⟨progOk, tabFo0_ok, mtab0_ok _ _, xtN0_ok⟩

end Go.Proofs.YtlbmpbkfkmabaaaGreatDoor
