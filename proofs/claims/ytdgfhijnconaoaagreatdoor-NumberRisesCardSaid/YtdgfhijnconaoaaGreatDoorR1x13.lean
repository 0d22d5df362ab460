/-
 NumberRises: of two texts the one with the greater value is never read as the lesser number; no condition (a part of the proof).
-/
import Derived.Test.YtdgfhijnconaoaaGreatDoorR1x12
set_option maxRecDepth 1000000
namespace Go.Proofs.YtdgfhijnconaoaaGreatDoor
open Go Go.RowKit Ev
noncomputable def mtabCz:MTab:=mtabAdd 126 (liftS [shV] specParse0) mtab0
theorem mtabCz_ok:ClOk Tryz.prog J0 mtabCz:=mtabAdd_ok (liftS_ok _ specParse0_ok) (mtab0_ok _ _)
noncomputable def bCv:Base:=⟨Tryz.prog,J0,true,tabV1,mtabCz,2000,xtN0⟩
theorem bCv_ok:BaseOk bCv:=⟨progOk,tabV1_ok,mtabCz_ok,xtN0_ok⟩
theorem cz_fig:Ev.Pure Tryz.prog J0 52 [.agg ⟨[.bool false, .string ⟨⟨[49,48,48,48,48,48,48,48,48,48,48,48,48,48,48,48,48,53,53,53,49,49,49,53,49,50,51,49,50,53,55,56,50,55,48,50,49,49,56,49,53,56,51,52,48,52,53,52,49,48,49,53,54,50,53]⟩⟩, .int .i64 (-55)]⟩, .int .i64 17, .int .i64 1] (.tuple ⟨[.agg ⟨[.bool false, .string ⟨⟨[49,48,48,48,48,48,48,48,48,48,48,48,48,48,48,48,49]⟩⟩, .int .i64 (-17)]⟩, .int .i64 0]⟩):=
 pure_of bCv_ok 30 [] [] (l:=[dg01=dg01]) (by kernel_rfl) ⟨rfl,trivial⟩
end Go.Proofs.YtdgfhijnconaoaaGreatDoor
