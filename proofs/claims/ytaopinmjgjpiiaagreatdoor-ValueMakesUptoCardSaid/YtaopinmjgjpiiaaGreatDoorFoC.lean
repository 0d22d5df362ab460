/-
  A base without closed contracts.
-/
import Derived.Test.YtaopinmjgjpiiaaGreatDoorNuB
namespace Go.Proofs.YtaopinmjgjpiiaaGreatDoor
open Go Go.RowKit Ev

noncomputable def bKn : Base := ⟨Tryz.prog, J0, false, tabN0, mtab0, 2000, xtN0⟩
theorem bKn_ok : BaseOk bKn := ⟨progOk, tabN0_ok, mtab0_ok _ _, xtN0_ok⟩

end Go.Proofs.YtaopinmjgjpiiaaGreatDoor
