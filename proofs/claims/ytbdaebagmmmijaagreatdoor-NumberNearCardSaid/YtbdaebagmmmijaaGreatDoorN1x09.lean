/-
 NumberNear: a decimal that is read as a finite number lies nowhere beyond the middle between it and its neighbours; no condition (a part of the proof).
-/
import Derived.Test.YtbdaebagmmmijaaGreatDoorN1x08
set_option maxRecDepth 1000000
open Go.Proofs.Tryz renaming prog->zO8
open Go.IntKind renaming i64->iI,u64->uI,u8->uB
noncomputable section
namespace Go.Proofs.YtbdaebagmmmijaaGreatDoor
open Go Go.RowKit Ev
theorem p2l:Pure zO8 J0 195 [.string ⟨⟨[49,48,48,48,48,48,48,48,48,48,48,48,48,48,48,48,48,53]⟩⟩, .int .i64 10, .int .i64 64] (.tuple ⟨[.int .u64 100000000000000005, .nilIface]⟩):=
 g9 B0 30 [] [] (l:=[]) (by kernel_rfl) trivial
theorem p2w:Pure zO8 J0 195 [.string ⟨⟨[53,53,49,49,49,53,49,50,51,49,50,53,55,56,50,55,48,50]⟩⟩, .int .i64 10, .int .i64 64] (.tuple ⟨[.int .u64 551115123125782702, .nilIface]⟩):=
 g9 B0 30 [] [] (l:=[]) (by kernel_rfl) trivial
theorem q2g:Pure zO8 J0 195 [.string ⟨⟨[49,49,56,49,53,56,51,52,48,52,53,52,49,48,49,53,54,50]⟩⟩, .int .i64 10, .int .i64 64] (.tuple ⟨[.int .u64 118158340454101562, .nilIface]⟩):=
 g9 B0 30 [] [] (l:=[]) (by kernel_rfl) trivial
theorem m2f:Pure zO8 J0 195 [.string ⟨⟨[53]⟩⟩, .int .i64 10, .int .i64 64] (.tuple ⟨[.int .u64 5, .nilIface]⟩):=
 g9 B0 30 [] [] (l:=[]) (by kernel_rfl) trivial
def x1w:Tab:=l7 195 (atS [([.string ⟨⟨[49,48,48,48,48,48,48,48,48,48,48,48,48,48,48,48,48,53]⟩⟩, .int .i64 10, .int .i64 64], .tuple ⟨[.int .u64 100000000000000005, .nilIface]⟩),([.string ⟨⟨[53,53,49,49,49,53,49,50,51,49,50,53,55,56,50,55,48,50]⟩⟩, .int .i64 10, .int .i64 64], .tuple ⟨[.int .u64 551115123125782702, .nilIface]⟩),([.string ⟨⟨[49,49,56,49,53,56,51,52,48,52,53,52,49,48,49,53,54,50]⟩⟩, .int .i64 10, .int .i64 64], .tuple ⟨[.int .u64 118158340454101562, .nilIface]⟩),([.string ⟨⟨[53]⟩⟩, .int .i64 10, .int .i64 64], .tuple ⟨[.int .u64 5, .nilIface]⟩)]) (v0v)
theorem r0o:R8 zO8 J0 x1w:=b8 (M5 (fun p hp=>by simp only [zzA83,S5,S0] at hp; rcases hp with rfl | rfl | rfl | rfl <;> first | exact p2l | exact p2w | exact q2g | exact m2f)) (jP)
def bU1:Base:=⟨zO8,J0,true,x1w,D1,2000,J2⟩
theorem v1k:BaseOk bU1:=⟨progOk,r0o,n8 _ _,m4⟩
theorem n2p:Pure zO8 J0 44 [.string ⟨⟨[49,48,48,48,48,48,48,48,48,48,48,48,48,48,48,48,48,53,53,53,49,49,49,53,49,50,51,49,50,53,55,56,50,55,48,50,49,49,56,49,53,56,51,52,48,52,53,52,49,48,49,53,54,50,53]⟩⟩] (.bool true):=
 g9 v1k 30 [] [] (l:=[]) (by kernel_rfl) trivial
theorem m2k:Pure zO8 J0 94 [.agg ⟨[.bool false, .string ⟨⟨[49,48,48,48,48,48,48,48,48,48,48,48,48,48,48,48,48,53,53,53,49,49,49,53,49,50,51,49,50,53,55,56,50,55,48,50,49,49,56,49,53,56,51,52,48,52,53,52,49,48,49,53,54,50,53]⟩⟩, .int .i64 (-55)]⟩] (.bool true):=
 g9 v1k 30 [] [] (l:=[]) (by kernel_rfl) trivial
def n1w:Tab:=l7 94 (atS [([.agg ⟨[.bool false, .string ⟨⟨[49,48,48,48,48,48,48,48,48,48,48,48,48,48,48,48,48,53,53,53,49,49,49,53,49,50,51,49,50,53,55,56,50,55,48,50,49,49,56,49,53,56,51,52,48,52,53,52,49,48,49,53,54,50,53]⟩⟩, .int .i64 (-55)]⟩], .bool true)]) (l7 44 (atS [([.string ⟨⟨[49,48,48,48,48,48,48,48,48,48,48,48,48,48,48,48,48,53,53,53,49,49,49,53,49,50,51,49,50,53,55,56,50,55,48,50,49,49,56,49,53,56,51,52,48,52,53,52,49,48,49,53,54,50,53]⟩⟩], .bool true)]) (x1w))
theorem e0u:R8 zO8 J0 n1w:=b8 (M5 (fun p hp=>by simp only [zzA83,S5,S0] at hp; rcases hp with rfl <;> first | exact m2k)) (b8 (M5 (fun p hp=>by simp only [zzA83,S5,S0] at hp; rcases hp with rfl <;> first | exact n2p)) (r0o))
def bV1:Base:=⟨zO8,J0,true,n1w,D1,2000,J2⟩
theorem t1m:BaseOk bV1:=⟨progOk,e0u,n8 _ _,m4⟩
end Go.Proofs.YtbdaebagmmmijaaGreatDoor
