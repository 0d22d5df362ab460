/-
 NumberSame: a number read from several spellings of the same value is the same; no condition (a part of the proof).
-/
import Derived.Test.YtdgfhijnconaoaaGreatDoorS1x07
set_option maxRecDepth 1000000
namespace Go.Proofs.YtdgfhijnconaoaaGreatDoor
open Go Go.RowKit Ev
theorem b2t:Pure Tryz.prog J0 174 [.string ⟨⟨[49,48,48,48,48,48,48,48,48,48,48,48,48,48,48,48,48,53]⟩⟩, .int .i64 10, .int .i64 64] (.tuple ⟨[.int .u64 100000000000000005, .nilIface]⟩):=
 d6 y6 30 [] [] (l:=[]) (by kernel_rfl) trivial
theorem a2m:Pure Tryz.prog J0 174 [.string ⟨⟨[53,53,49,49,49,53,49,50,51,49,50,53,55,56,50,55,48,50]⟩⟩, .int .i64 10, .int .i64 64] (.tuple ⟨[.int .u64 551115123125782702, .nilIface]⟩):=
 d6 y6 30 [] [] (l:=[]) (by kernel_rfl) trivial
theorem a2b:Pure Tryz.prog J0 174 [.string ⟨⟨[49,49,56,49,53,56,51,52,48,52,53,52,49,48,49,53,54,50]⟩⟩, .int .i64 10, .int .i64 64] (.tuple ⟨[.int .u64 118158340454101562, .nilIface]⟩):=
 d6 y6 30 [] [] (l:=[]) (by kernel_rfl) trivial
theorem d2l:Pure Tryz.prog J0 174 [.string ⟨⟨[53]⟩⟩, .int .i64 10, .int .i64 64] (.tuple ⟨[.int .u64 5, .nilIface]⟩):=
 d6 y6 30 [] [] (l:=[]) (by kernel_rfl) trivial
noncomputable def o1e:Tab:=i6 174 (atS [([.string ⟨⟨[49,48,48,48,48,48,48,48,48,48,48,48,48,48,48,48,48,53]⟩⟩, .int .i64 10, .int .i64 64], .tuple ⟨[.int .u64 100000000000000005, .nilIface]⟩),([.string ⟨⟨[53,53,49,49,49,53,49,50,51,49,50,53,55,56,50,55,48,50]⟩⟩, .int .i64 10, .int .i64 64], .tuple ⟨[.int .u64 551115123125782702, .nilIface]⟩),([.string ⟨⟨[49,49,56,49,53,56,51,52,48,52,53,52,49,48,49,53,54,50]⟩⟩, .int .i64 10, .int .i64 64], .tuple ⟨[.int .u64 118158340454101562, .nilIface]⟩),([.string ⟨⟨[53]⟩⟩, .int .i64 10, .int .i64 64], .tuple ⟨[.int .u64 5, .nilIface]⟩)]) (m0w)
theorem k0v:N1 Tryz.prog J0 o1e:=b6 (I5 (fun p hp=>by simp only [List.mem_cons,List.not_mem_nil,or_false] at hp; rcases hp with rfl | rfl | rfl | rfl <;> first | exact b2t | exact a2m | exact a2b | exact d2l)) (dJ)
noncomputable def bU1:Base:=⟨Tryz.prog,J0,true,o1e,C4,2000,H8⟩
theorem k1u:BaseOk bU1:=⟨progOk,k0v,m6 _ _,i7⟩
theorem z1o:Pure Tryz.prog J0 111 [.string ⟨⟨[49,48,48,48,48,48,48,48,48,48,48,48,48,48,48,48,48,53,53,53,49,49,49,53,49,50,51,49,50,53,55,56,50,55,48,50,49,49,56,49,53,56,51,52,48,52,53,52,49,48,49,53,54,50,53]⟩⟩] (.bool true):=
 d6 k1u 30 [] [] (l:=[]) (by kernel_rfl) trivial
theorem d2e:Pure Tryz.prog J0 125 [.agg ⟨[.bool false, .string ⟨⟨[49,48,48,48,48,48,48,48,48,48,48,48,48,48,48,48,48,53,53,53,49,49,49,53,49,50,51,49,50,53,55,56,50,55,48,50,49,49,56,49,53,56,51,52,48,52,53,52,49,48,49,53,54,50,53]⟩⟩, .int .i64 (-55)]⟩] (.bool true):=
 d6 k1u 30 [] [] (l:=[]) (by kernel_rfl) trivial
noncomputable def c1o:Tab:=i6 125 (atS [([.agg ⟨[.bool false, .string ⟨⟨[49,48,48,48,48,48,48,48,48,48,48,48,48,48,48,48,48,53,53,53,49,49,49,53,49,50,51,49,50,53,55,56,50,55,48,50,49,49,56,49,53,56,51,52,48,52,53,52,49,48,49,53,54,50,53]⟩⟩, .int .i64 (-55)]⟩], .bool true)]) (i6 111 (atS [([.string ⟨⟨[49,48,48,48,48,48,48,48,48,48,48,48,48,48,48,48,48,53,53,53,49,49,49,53,49,50,51,49,50,53,55,56,50,55,48,50,49,49,56,49,53,56,51,52,48,52,53,52,49,48,49,53,54,50,53]⟩⟩], .bool true)]) (o1e))
theorem yF:N1 Tryz.prog J0 c1o:=b6 (I5 (fun p hp=>by simp only [List.mem_cons,List.not_mem_nil,or_false] at hp; rcases hp with rfl <;> first | exact d2e)) (b6 (I5 (fun p hp=>by simp only [List.mem_cons,List.not_mem_nil,or_false] at hp; rcases hp with rfl <;> first | exact z1o)) (k0v))
noncomputable def bV1:Base:=⟨Tryz.prog,J0,true,c1o,C4,2000,H8⟩
theorem j1o:BaseOk bV1:=⟨progOk,yF,m6 _ _,i7⟩
end Go.Proofs.YtdgfhijnconaoaaGreatDoor
