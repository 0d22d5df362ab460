/-
  Seventeen figures of 0.1 (closed).
-/
import Derived.Test.YtaopinmjgjpiiaaGreatDoorCxy
namespace Go.Proofs.YtaopinmjgjpiiaaGreatDoor
open Go Go.RowKit Ev

noncomputable def mtabCz : MTab := mtabAdd 162 (liftS [shV] specParse0) mtab0
theorem mtabCz_ok : ClOk Tryz.prog J0 mtabCz := mtabAdd_ok (liftS_ok _ specParse0_ok) (mtab0_ok _ _)
noncomputable def bCv : Base := ⟨Tryz.prog, J0, true, tabV1, mtabCz, 2000, xtN0⟩
theorem bCv_ok : BaseOk bCv := ⟨progOk, tabV1_ok, mtabCz_ok, xtN0_ok⟩
set_option maxRecDepth 100000 in
theorem cz_fig : Ev.Pure Tryz.prog J0 76 [.agg ⟨[.bool false, .string ⟨⟨[49, 48, 48, 48, 48, 48, 48, 48, 48, 48, 48, 48, 48, 48, 48, 48, 48, 53, 53, 53, 49, 49, 49, 53, 49, 50, 51, 49, 50, 53, 55, 56, 50, 55, 48, 50, 49, 49, 56, 49, 53, 56, 51, 52, 48, 52, 53, 52, 49, 48, 49, 53, 54, 50, 53]⟩⟩, .int .i64 (-55)]⟩, .int .i64 17, .int .i64 1] (.tuple ⟨[.agg ⟨[.bool false, .string ⟨⟨[49, 48, 48, 48, 48, 48, 48, 48, 48, 48, 48, 48, 48, 48, 48, 48, 49]⟩⟩, .int .i64 (-17)]⟩, .int .i64 0]⟩) :=
  pure_of bCv_ok 30 [] [] (l := [dg01 = dg01]) (by kernel_rfl) ⟨rfl, trivial⟩

end Go.Proofs.YtaopinmjgjpiiaaGreatDoor
