/-
 NumberReads: any text is read as the document reads it; no condition (a part of the proof).
-/
import Derived.Test.YtkiejangmhhofaaGreatDoorR1x09
set_option maxRecDepth 1000000
open Go.Proofs.Tryz renaming prog->zO8
open Go.IntKind renaming i64->iI,u64->uI,u32->uJ,u8->uB
noncomputable section
namespace Go.Proofs.YtkiejangmhhofaaGreatDoor
open Go Go.RowKit Ev
def x1t:iV:=o8 168 (A3 [shV] eG) I4
theorem o1n:iS zO8 J0 x1t:=j0 (m9 _ jB) (v6 _ _)
def bCv:Base:=⟨zO8,J0,true,r1s,x1t,2000,L7⟩
theorem k2d:BaseOk bCv:=⟨progOk,d0f,o1n,r5⟩
theorem k2w:Ev.Pure zO8 J0 76 [.agg ⟨[.bool false, .string ⟨⟨[49,48,48,48,48,48,48,48,48,48,48,48,48,48,48,48,48,53,53,53,49,49,49,53,49,50,51,49,50,53,55,56,50,55,48,50,49,49,56,49,53,56,51,52,48,52,53,52,49,48,49,53,54,50,53]⟩⟩, .int .i64 (-55)]⟩, .int .i64 17, .int .i64 1] (.tuple ⟨[.agg ⟨[.bool false, .string ⟨⟨[49,48,48,48,48,48,48,48,48,48,48,48,48,48,48,48,49]⟩⟩, .int .i64 (-17)]⟩, .int .i64 0]⟩):=
 i7 k2d 30 [] [] (l:=[c2o=c2o]) (by kernel_rfl) ⟨rfl,a6⟩
end Go.Proofs.YtkiejangmhhofaaGreatDoor
