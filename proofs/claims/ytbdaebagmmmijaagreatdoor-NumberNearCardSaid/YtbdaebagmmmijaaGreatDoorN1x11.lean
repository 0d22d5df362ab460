/-
 NumberNear: a decimal that is read as a finite number lies nowhere beyond the middle between it and its neighbours; no condition (a part of the proof).
-/
import Derived.Test.YtbdaebagmmmijaaGreatDoorN1x10
set_option maxRecDepth 1000000
open Go.Proofs.Tryz renaming prog->zO8
open Go.IntKind renaming i64->iI,u64->uI,u8->uB
noncomputable section
namespace Go.Proofs.YtbdaebagmmmijaaGreatDoor
open Go Go.RowKit Ev
def t1b:qV:=m8 157 (z7 [shV] dP) D1
theorem h1w:qZ zO8 J0 t1b:=d7 (m5 _ kV) (n8 _ _)
def bCv:Base:=⟨zO8,J0,true,n1w,t1b,2000,J2⟩
theorem h2o:BaseOk bCv:=⟨progOk,e0u,h1w,m4⟩
theorem e2p:Ev.Pure zO8 J0 54 [.agg ⟨[.bool false, .string ⟨⟨[49,48,48,48,48,48,48,48,48,48,48,48,48,48,48,48,48,53,53,53,49,49,49,53,49,50,51,49,50,53,55,56,50,55,48,50,49,49,56,49,53,56,51,52,48,52,53,52,49,48,49,53,54,50,53]⟩⟩, .int .i64 (-55)]⟩, .int .i64 17, .int .i64 1] (.tuple ⟨[.agg ⟨[.bool false, .string ⟨⟨[49,48,48,48,48,48,48,48,48,48,48,48,48,48,48,48,49]⟩⟩, .int .i64 (-17)]⟩, .int .i64 0]⟩):=
 g9 h2o 30 [] [] (l:=[z1p=z1p]) (by kernel_rfl) ⟨rfl,a7⟩
end Go.Proofs.YtbdaebagmmmijaaGreatDoor
