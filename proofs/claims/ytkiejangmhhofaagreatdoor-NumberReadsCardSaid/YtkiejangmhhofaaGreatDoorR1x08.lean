/-
 NumberReads: any text is read as the document reads it; no condition (a part of the proof).
-/
import Derived.Test.YtkiejangmhhofaaGreatDoorR1x07
set_option maxRecDepth 1000000
open Go.Proofs.Tryz renaming prog->zO8
open Go.IntKind renaming i64->iI,u64->uI,u32->uJ,u8->uB
noncomputable section
namespace Go.Proofs.YtkiejangmhhofaaGreatDoor
open Go Go.RowKit Ev
theorem y2p:Pure zO8 J0 230 [.string ⟨⟨[49,48,48,48,48,48,48,48,48,48,48,48,48,48,48,48,48,53]⟩⟩, .int .i64 10, .int .i64 64] (.tuple ⟨[.int .u64 100000000000000005, .nilIface]⟩):=
 i7 D8 30 [] [] (l:=[]) (by kernel_rfl) trivial
theorem t2r:Pure zO8 J0 230 [.string ⟨⟨[53,53,49,49,49,53,49,50,51,49,50,53,55,56,50,55,48,50]⟩⟩, .int .i64 10, .int .i64 64] (.tuple ⟨[.int .u64 551115123125782702, .nilIface]⟩):=
 i7 D8 30 [] [] (l:=[]) (by kernel_rfl) trivial
theorem b3f:Pure zO8 J0 230 [.string ⟨⟨[49,49,56,49,53,56,51,52,48,52,53,52,49,48,49,53,54,50]⟩⟩, .int .i64 10, .int .i64 64] (.tuple ⟨[.int .u64 118158340454101562, .nilIface]⟩):=
 i7 D8 30 [] [] (l:=[]) (by kernel_rfl) trivial
theorem w2w:Pure zO8 J0 230 [.string ⟨⟨[53]⟩⟩, .int .i64 10, .int .i64 64] (.tuple ⟨[.int .u64 5, .nilIface]⟩):=
 i7 D8 30 [] [] (l:=[]) (by kernel_rfl) trivial
def a2w:Tab:=r6 230 (atS [([.string ⟨⟨[49,48,48,48,48,48,48,48,48,48,48,48,48,48,48,48,48,53]⟩⟩, .int .i64 10, .int .i64 64], .tuple ⟨[.int .u64 100000000000000005, .nilIface]⟩),([.string ⟨⟨[53,53,49,49,49,53,49,50,51,49,50,53,55,56,50,55,48,50]⟩⟩, .int .i64 10, .int .i64 64], .tuple ⟨[.int .u64 551115123125782702, .nilIface]⟩),([.string ⟨⟨[49,49,56,49,53,56,51,52,48,52,53,52,49,48,49,53,54,50]⟩⟩, .int .i64 10, .int .i64 64], .tuple ⟨[.int .u64 118158340454101562, .nilIface]⟩),([.string ⟨⟨[53]⟩⟩, .int .i64 10, .int .i64 64], .tuple ⟨[.int .u64 5, .nilIface]⟩)]) (z0j)
theorem s0i:U6 zO8 J0 a2w:=i8 (R2 (fun p hp=>by simp only [zzA86,V2,U7] at hp; rcases hp with rfl | rfl | rfl | rfl <;> first | exact y2p | exact t2r | exact b3f | exact w2w)) (kX)
def bU1:Base:=⟨zO8,J0,true,a2w,I4,2000,L7⟩
theorem x1j:BaseOk bU1:=⟨progOk,s0i,v6 _ _,r5⟩
theorem x2v:Pure zO8 J0 151 [.string ⟨⟨[49,48,48,48,48,48,48,48,48,48,48,48,48,48,48,48,48,53,53,53,49,49,49,53,49,50,51,49,50,53,55,56,50,55,48,50,49,49,56,49,53,56,51,52,48,52,53,52,49,48,49,53,54,50,53]⟩⟩] (.bool true):=
 i7 x1j 30 [] [] (l:=[]) (by kernel_rfl) trivial
theorem a3d:Pure zO8 J0 167 [.agg ⟨[.bool false, .string ⟨⟨[49,48,48,48,48,48,48,48,48,48,48,48,48,48,48,48,48,53,53,53,49,49,49,53,49,50,51,49,50,53,55,56,50,55,48,50,49,49,56,49,53,56,51,52,48,52,53,52,49,48,49,53,54,50,53]⟩⟩, .int .i64 (-55)]⟩] (.bool true):=
 i7 x1j 30 [] [] (l:=[]) (by kernel_rfl) trivial
def r1s:Tab:=r6 167 (atS [([.agg ⟨[.bool false, .string ⟨⟨[49,48,48,48,48,48,48,48,48,48,48,48,48,48,48,48,48,53,53,53,49,49,49,53,49,50,51,49,50,53,55,56,50,55,48,50,49,49,56,49,53,56,51,52,48,52,53,52,49,48,49,53,54,50,53]⟩⟩, .int .i64 (-55)]⟩], .bool true)]) (r6 151 (atS [([.string ⟨⟨[49,48,48,48,48,48,48,48,48,48,48,48,48,48,48,48,48,53,53,53,49,49,49,53,49,50,51,49,50,53,55,56,50,55,48,50,49,49,56,49,53,56,51,52,48,52,53,52,49,48,49,53,54,50,53]⟩⟩], .bool true)]) (a2w))
theorem d0f:U6 zO8 J0 r1s:=i8 (R2 (fun p hp=>by simp only [zzA86,V2,U7] at hp; rcases hp with rfl <;> first | exact a3d)) (i8 (R2 (fun p hp=>by simp only [zzA86,V2,U7] at hp; rcases hp with rfl <;> first | exact x2v)) (s0i))
def bV1:Base:=⟨zO8,J0,true,r1s,I4,2000,L7⟩
theorem z1h:BaseOk bV1:=⟨progOk,d0f,v6 _ _,r5⟩
end Go.Proofs.YtkiejangmhhofaaGreatDoor
