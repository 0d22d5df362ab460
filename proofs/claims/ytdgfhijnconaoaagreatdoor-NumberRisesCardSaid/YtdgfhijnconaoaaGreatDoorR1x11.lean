/-
 NumberRises: of two texts the one with the greater value is never read as the lesser number; no condition (a part of the proof).
-/
import Derived.Test.YtdgfhijnconaoaaGreatDoorR1x10
set_option maxRecDepth 1000000
namespace Go.Proofs.YtdgfhijnconaoaaGreatDoor
open Go Go.RowKit Ev
theorem cu1_0:Pure Tryz.prog J0 174 [.string ⟨⟨[49,48,48,48,48,48,48,48,48,48,48,48,48,48,48,48,48,53]⟩⟩, .int .i64 10, .int .i64 64] (.tuple ⟨[.int .u64 100000000000000005, .nilIface]⟩):=
 pure_of bT1_ok 30 [] [] (l:=[]) (by kernel_rfl) trivial
end Go.Proofs.YtdgfhijnconaoaaGreatDoor
namespace Go.Proofs.YtdgfhijnconaoaaGreatDoor
open Go Go.RowKit Ev
theorem cu2_0:Pure Tryz.prog J0 174 [.string ⟨⟨[53,53,49,49,49,53,49,50,51,49,50,53,55,56,50,55,48,50]⟩⟩, .int .i64 10, .int .i64 64] (.tuple ⟨[.int .u64 551115123125782702, .nilIface]⟩):=
 pure_of bT1_ok 30 [] [] (l:=[]) (by kernel_rfl) trivial
end Go.Proofs.YtdgfhijnconaoaaGreatDoor
namespace Go.Proofs.YtdgfhijnconaoaaGreatDoor
open Go Go.RowKit Ev
theorem cu3_0:Pure Tryz.prog J0 174 [.string ⟨⟨[49,49,56,49,53,56,51,52,48,52,53,52,49,48,49,53,54,50]⟩⟩, .int .i64 10, .int .i64 64] (.tuple ⟨[.int .u64 118158340454101562, .nilIface]⟩):=
 pure_of bT1_ok 30 [] [] (l:=[]) (by kernel_rfl) trivial
theorem cu3_1:Pure Tryz.prog J0 174 [.string ⟨⟨[53]⟩⟩, .int .i64 10, .int .i64 64] (.tuple ⟨[.int .u64 5, .nilIface]⟩):=
 pure_of bT1_ok 30 [] [] (l:=[]) (by kernel_rfl) trivial
end Go.Proofs.YtdgfhijnconaoaaGreatDoor
namespace Go.Proofs.YtdgfhijnconaoaaGreatDoor
open Go Go.RowKit Ev
noncomputable def tabU1:Tab:=tabAdd 174 (atS [([.string ⟨⟨[49,48,48,48,48,48,48,48,48,48,48,48,48,48,48,48,48,53]⟩⟩, .int .i64 10, .int .i64 64], .tuple ⟨[.int .u64 100000000000000005, .nilIface]⟩),([.string ⟨⟨[53,53,49,49,49,53,49,50,51,49,50,53,55,56,50,55,48,50]⟩⟩, .int .i64 10, .int .i64 64], .tuple ⟨[.int .u64 551115123125782702, .nilIface]⟩),([.string ⟨⟨[49,49,56,49,53,56,51,52,48,52,53,52,49,48,49,53,54,50]⟩⟩, .int .i64 10, .int .i64 64], .tuple ⟨[.int .u64 118158340454101562, .nilIface]⟩),([.string ⟨⟨[53]⟩⟩, .int .i64 10, .int .i64 64], .tuple ⟨[.int .u64 5, .nilIface]⟩)]) (tabT1)
theorem tabU1_ok:PcOk Tryz.prog J0 tabU1:=tabAdd_ok (atS_ok (fun p hp=>by simp only [List.mem_cons,List.not_mem_nil,or_false] at hp; rcases hp with rfl | rfl | rfl | rfl <;> first | exact cu1_0 | exact cu2_0 | exact cu3_0 | exact cu3_1)) (tabT1_ok)
noncomputable def bU1:Base:=⟨Tryz.prog,J0,true,tabU1,mtab0,2000,xtN0⟩
theorem bU1_ok:BaseOk bU1:=⟨progOk,tabU1_ok,mtab0_ok _ _,xtN0_ok⟩
end Go.Proofs.YtdgfhijnconaoaaGreatDoor
namespace Go.Proofs.YtdgfhijnconaoaaGreatDoor
open Go Go.RowKit Ev
theorem cv1_0:Pure Tryz.prog J0 111 [.string ⟨⟨[49,48,48,48,48,48,48,48,48,48,48,48,48,48,48,48,48,53,53,53,49,49,49,53,49,50,51,49,50,53,55,56,50,55,48,50,49,49,56,49,53,56,51,52,48,52,53,52,49,48,49,53,54,50,53]⟩⟩] (.bool true):=
 pure_of bU1_ok 30 [] [] (l:=[]) (by kernel_rfl) trivial
end Go.Proofs.YtdgfhijnconaoaaGreatDoor
namespace Go.Proofs.YtdgfhijnconaoaaGreatDoor
open Go Go.RowKit Ev
theorem cv2_0:Pure Tryz.prog J0 125 [.agg ⟨[.bool false, .string ⟨⟨[49,48,48,48,48,48,48,48,48,48,48,48,48,48,48,48,48,53,53,53,49,49,49,53,49,50,51,49,50,53,55,56,50,55,48,50,49,49,56,49,53,56,51,52,48,52,53,52,49,48,49,53,54,50,53]⟩⟩, .int .i64 (-55)]⟩] (.bool true):=
 pure_of bU1_ok 30 [] [] (l:=[]) (by kernel_rfl) trivial
end Go.Proofs.YtdgfhijnconaoaaGreatDoor
namespace Go.Proofs.YtdgfhijnconaoaaGreatDoor
open Go Go.RowKit Ev
noncomputable def tabV1:Tab:=tabAdd 125 (atS [([.agg ⟨[.bool false, .string ⟨⟨[49,48,48,48,48,48,48,48,48,48,48,48,48,48,48,48,48,53,53,53,49,49,49,53,49,50,51,49,50,53,55,56,50,55,48,50,49,49,56,49,53,56,51,52,48,52,53,52,49,48,49,53,54,50,53]⟩⟩, .int .i64 (-55)]⟩], .bool true)]) (tabAdd 111 (atS [([.string ⟨⟨[49,48,48,48,48,48,48,48,48,48,48,48,48,48,48,48,48,53,53,53,49,49,49,53,49,50,51,49,50,53,55,56,50,55,48,50,49,49,56,49,53,56,51,52,48,52,53,52,49,48,49,53,54,50,53]⟩⟩], .bool true)]) (tabU1))
theorem tabV1_ok:PcOk Tryz.prog J0 tabV1:=tabAdd_ok (atS_ok (fun p hp=>by simp only [List.mem_cons,List.not_mem_nil,or_false] at hp; rcases hp with rfl <;> first | exact cv2_0)) (tabAdd_ok (atS_ok (fun p hp=>by simp only [List.mem_cons,List.not_mem_nil,or_false] at hp; rcases hp with rfl <;> first | exact cv1_0)) (tabU1_ok))
noncomputable def bV1:Base:=⟨Tryz.prog,J0,true,tabV1,mtab0,2000,xtN0⟩
theorem bV1_ok:BaseOk bV1:=⟨progOk,tabV1_ok,mtab0_ok _ _,xtN0_ok⟩
end Go.Proofs.YtdgfhijnconaoaaGreatDoor
