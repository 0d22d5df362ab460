/-
 NumberSame: a number read from several spellings of the same value is the same; no condition (a part of the proof).
-/
import Derived.Test.YtdgfhijnconaoaaGreatDoorS1x09
set_option maxRecDepth 1000000
namespace Go.Proofs.YtdgfhijnconaoaaGreatDoor
open Go Go.RowKit Ev
noncomputable def j1n:kM:=l5 126 (y3 [shV] Y3) C4
theorem q0e:kY Tryz.prog J0 j1n:=b8 (g9 _ eV) (m6 _ _)
noncomputable def bCv:Base:=⟨Tryz.prog,J0,true,c1o,j1n,2000,H8⟩
theorem v1t:BaseOk bCv:=⟨progOk,yF,q0e,i7⟩
theorem u1h:Ev.Pure Tryz.prog J0 52 [.agg ⟨[.bool false, .string ⟨⟨[49,48,48,48,48,48,48,48,48,48,48,48,48,48,48,48,48,53,53,53,49,49,49,53,49,50,51,49,50,53,55,56,50,55,48,50,49,49,56,49,53,56,51,52,48,52,53,52,49,48,49,53,54,50,53]⟩⟩, .int .i64 (-55)]⟩, .int .i64 17, .int .i64 1] (.tuple ⟨[.agg ⟨[.bool false, .string ⟨⟨[49,48,48,48,48,48,48,48,48,48,48,48,48,48,48,48,49]⟩⟩, .int .i64 (-17)]⟩, .int .i64 0]⟩):=
 d6 v1t 30 [] [] (l:=[o1j=o1j]) (by kernel_rfl) ⟨rfl,trivial⟩
end Go.Proofs.YtdgfhijnconaoaaGreatDoor
