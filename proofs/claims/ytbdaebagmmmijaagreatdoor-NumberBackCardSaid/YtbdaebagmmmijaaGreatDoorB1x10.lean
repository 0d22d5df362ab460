/-
 NumberBack: the whole text, the short text, the hexadecimal text and seventeen figures of any number are read as just that number; nine figures of a single are read as that single. No condition.
-/
import Derived.Test.YtbdaebagmmmijaaGreatDoorB1x09
set_option maxRecDepth 1000000
open Go.Proofs.Tryz renaming prog->zO7
open Go.IntKind renaming i64->iI,u64->uI,u32->uJ
noncomputable section
namespace Go.Proofs.YtbdaebagmmmijaaGreatDoor
open Go Go.RowKit Ev
def x1q:iG:=m4 157 (z6 [shV] dT) F4
theorem p1e:iD zO7 J0 x1q:=d8 (l7 _ lD) (n9 _ _)
def bCv:Base:=⟨zO7,J0,true,t1c,x1q,2000,I6⟩
theorem l2r:BaseOk bCv:=⟨progOk,e0h,p1e,m0⟩
theorem o2g:Ev.Pure zO7 J0 54 [.agg ⟨[.bool false, .string ⟨⟨[49,48,48,48,48,48,48,48,48,48,48,48,48,48,48,48,48,53,53,53,49,49,49,53,49,50,51,49,50,53,55,56,50,55,48,50,49,49,56,49,53,56,51,52,48,52,53,52,49,48,49,53,54,50,53]⟩⟩, .int .i64 (-55)]⟩, .int .i64 17, .int .i64 1] (.tuple ⟨[.agg ⟨[.bool false, .string ⟨⟨[49,48,48,48,48,48,48,48,48,48,48,48,48,48,48,48,49]⟩⟩, .int .i64 (-17)]⟩, .int .i64 0]⟩):=
 d6 l2r 30 [] [] (l:=[f2e=f2e]) (by kernel_rfl) ⟨rfl,a7⟩
end Go.Proofs.YtbdaebagmmmijaaGreatDoor
