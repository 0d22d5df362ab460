/-
 NumberBack: the whole text, the short text, the hexadecimal text and seventeen figures of any number are read as just that number; nine figures of a single are read as that single. No condition.
-/
import Derived.Test.YtbdaebagmmmijaaGreatDoorB1x07
set_option maxRecDepth 1000000
open Go.Proofs.Tryz renaming prog->zO7
open Go.IntKind renaming i64->iI,u64->uI,u32->uJ
noncomputable section
namespace Go.Proofs.YtbdaebagmmmijaaGreatDoor
open Go Go.RowKit Ev
theorem v2c:Pure zO7 J0 195 [.string ⟨⟨[49,48,48,48,48,48,48,48,48,48,48,48,48,48,48,48,48,53]⟩⟩, .int .i64 10, .int .i64 64] (.tuple ⟨[.int .u64 100000000000000005, .nilIface]⟩):=
 d6 B7 30 [] [] (l:=[]) (by kernel_rfl) trivial
theorem v2p:Pure zO7 J0 195 [.string ⟨⟨[53,53,49,49,49,53,49,50,51,49,50,53,55,56,50,55,48,50]⟩⟩, .int .i64 10, .int .i64 64] (.tuple ⟨[.int .u64 551115123125782702, .nilIface]⟩):=
 d6 B7 30 [] [] (l:=[]) (by kernel_rfl) trivial
theorem u2o:Pure zO7 J0 195 [.string ⟨⟨[49,49,56,49,53,56,51,52,48,52,53,52,49,48,49,53,54,50]⟩⟩, .int .i64 10, .int .i64 64] (.tuple ⟨[.int .u64 118158340454101562, .nilIface]⟩):=
 d6 B7 30 [] [] (l:=[]) (by kernel_rfl) trivial
theorem t2w:Pure zO7 J0 195 [.string ⟨⟨[53]⟩⟩, .int .i64 10, .int .i64 64] (.tuple ⟨[.int .u64 5, .nilIface]⟩):=
 d6 B7 30 [] [] (l:=[]) (by kernel_rfl) trivial
def g2l:Tab:=l5 195 (atS [([.string ⟨⟨[49,48,48,48,48,48,48,48,48,48,48,48,48,48,48,48,48,53]⟩⟩, .int .i64 10, .int .i64 64], .tuple ⟨[.int .u64 100000000000000005, .nilIface]⟩),([.string ⟨⟨[53,53,49,49,49,53,49,50,51,49,50,53,55,56,50,55,48,50]⟩⟩, .int .i64 10, .int .i64 64], .tuple ⟨[.int .u64 551115123125782702, .nilIface]⟩),([.string ⟨⟨[49,49,56,49,53,56,51,52,48,52,53,52,49,48,49,53,54,50]⟩⟩, .int .i64 10, .int .i64 64], .tuple ⟨[.int .u64 118158340454101562, .nilIface]⟩),([.string ⟨⟨[53]⟩⟩, .int .i64 10, .int .i64 64], .tuple ⟨[.int .u64 5, .nilIface]⟩)]) (z0f)
theorem x0m:Q0 zO7 J0 g2l:=b7 (O5 (fun p hp=>by simp only [zzA84,T3,V5] at hp; rcases hp with rfl | rfl | rfl | rfl <;> first | exact v2c | exact v2p | exact u2o | exact t2w)) (kZ)
def bU1:Base:=⟨zO7,J0,true,g2l,F4,2000,I6⟩
theorem y1h:BaseOk bU1:=⟨progOk,x0m,n9 _ _,m0⟩
theorem t2f:Pure zO7 J0 44 [.string ⟨⟨[49,48,48,48,48,48,48,48,48,48,48,48,48,48,48,48,48,53,53,53,49,49,49,53,49,50,51,49,50,53,55,56,50,55,48,50,49,49,56,49,53,56,51,52,48,52,53,52,49,48,49,53,54,50,53]⟩⟩] (.bool true):=
 d6 y1h 30 [] [] (l:=[]) (by kernel_rfl) trivial
theorem v2o:Pure zO7 J0 94 [.agg ⟨[.bool false, .string ⟨⟨[49,48,48,48,48,48,48,48,48,48,48,48,48,48,48,48,48,53,53,53,49,49,49,53,49,50,51,49,50,53,55,56,50,55,48,50,49,49,56,49,53,56,51,52,48,52,53,52,49,48,49,53,54,50,53]⟩⟩, .int .i64 (-55)]⟩] (.bool true):=
 d6 y1h 30 [] [] (l:=[]) (by kernel_rfl) trivial
def t1c:Tab:=l5 94 (atS [([.agg ⟨[.bool false, .string ⟨⟨[49,48,48,48,48,48,48,48,48,48,48,48,48,48,48,48,48,53,53,53,49,49,49,53,49,50,51,49,50,53,55,56,50,55,48,50,49,49,56,49,53,56,51,52,48,52,53,52,49,48,49,53,54,50,53]⟩⟩, .int .i64 (-55)]⟩], .bool true)]) (l5 44 (atS [([.string ⟨⟨[49,48,48,48,48,48,48,48,48,48,48,48,48,48,48,48,48,53,53,53,49,49,49,53,49,50,51,49,50,53,55,56,50,55,48,50,49,49,56,49,53,56,51,52,48,52,53,52,49,48,49,53,54,50,53]⟩⟩], .bool true)]) (g2l))
theorem e0h:Q0 zO7 J0 t1c:=b7 (O5 (fun p hp=>by simp only [zzA84,T3,V5] at hp; rcases hp with rfl <;> first | exact v2o)) (b7 (O5 (fun p hp=>by simp only [zzA84,T3,V5] at hp; rcases hp with rfl <;> first | exact t2f)) (x0m))
def bV1:Base:=⟨zO7,J0,true,t1c,F4,2000,I6⟩
theorem y1r:BaseOk bV1:=⟨progOk,e0h,n9 _ _,m0⟩
end Go.Proofs.YtbdaebagmmmijaaGreatDoor
