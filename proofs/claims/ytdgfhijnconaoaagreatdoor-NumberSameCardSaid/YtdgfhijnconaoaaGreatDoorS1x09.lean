/-
 NumberSame: a number read from several spellings of the same value is the same; no condition (a part of the proof).
-/
import Derived.Test.YtdgfhijnconaoaaGreatDoorS1x08
import Derived.Test.YtdgfhijnconaoaaGreatDoorS1x04
set_option maxRecDepth 1000000
namespace Go.Proofs.YtdgfhijnconaoaaGreatDoor
open Go Go.RowKit Ev Wd
noncomputable abbrev XV:=bV1.cx 30
abbrev o1j:List UInt8:=[49,48,48,48,48,48,48,48,48,48,48,48,48,48,48,48,48,53,53,53,49,49,49,53,49,50,51,49,50,53,55,56,50,55,48,50,49,49,56,49,53,56,51,52,48,52,53,52,49,48,49,53,54,50,53]
abbrev iC (xs:List Int):Arg:= .a [.v (.bool false), .s 32 .u64 xs]
theorem x1m (_q:Nat):n8 XV [] bV1.fuel 126 [.c (.v (.string ⟨⟨o1j⟩⟩))] [iC [17916484995826447945,17211816702119612817,2938735877055718]] [] =some [Value.bool false=Value.bool false,3=3∧3≤4∧[Int.ofNat 17916484995826447945,Int.ofNat 17211816702119612817,Int.ofNat 2938735877055718] =[Int.ofNat 17916484995826447945,Int.ofNat 17211816702119612817,Int.ofNat 2938735877055718] ∧4=4∧4≤9223372036854775807] :=by kernel_rfl
theorem t1o (_q:Nat):n8 XV [] bV1.fuel 90 [.c (.v (.int .u64 10)), .c (.v (.int .i64 54))] [iC [10538423128046960640,14202551164014556797,2938735877055718]] [] =some [Value.bool false=Value.bool false,3=3∧3≤4∧[Int.ofNat 10538423128046960640,Int.ofNat 14202551164014556797,Int.ofNat 2938735877055718] =[Int.ofNat 10538423128046960640,Int.ofNat 14202551164014556797,Int.ofNat 2938735877055718] ∧4=4∧4≤9223372036854775807] :=by kernel_rfl
theorem u1a:Ev.Sem Tryz.prog J0 126 [.c (.v (.string ⟨⟨o1j⟩⟩))] [iC [17916484995826447945,17211816702119612817,2938735877055718]] :=
 d9 j1o 30 [] [] (x1m 0) ⟨rfl,⟨rfl,by decide,rfl,rfl,by decide⟩,trivial⟩
theorem v1f:Ev.Sem Tryz.prog J0 90 [.c (.v (.int .u64 10)), .c (.v (.int .i64 54))] [iC [10538423128046960640,14202551164014556797,2938735877055718]] :=
 d9 j1o 30 [] [] (t1o 0) ⟨rfl,⟨rfl,by decide,rfl,rfl,by decide⟩,trivial⟩
def Y3:List Arg→Option (List Arg×List Prop)
 | [.c (.v (.string ⟨⟨s⟩⟩))] =>some ([iC [17916484995826447945,17211816702119612817,2938735877055718]],[s=o1j])
 | _=>none
theorem eV:∀ az rs l,Y3 az=some (rs,l)→d5 l→Ev.Sem Tryz.prog J0 126 az rs:=by
 intro az rs l h hl
 unfold Y3 at h
 split at h
 ·cases h
  have h1:=hl.1
  subst h1
  exact u1a
 ·cases h
def uP:List Arg→Option (List Arg×List Prop)
 | [.c (.v (.int .u64 a)), .c (.v (.int .i64 b))] =>some ([iC [10538423128046960640,14202551164014556797,2938735877055718]],[a=10∧b=54])
 | _=>none
theorem e0s:∀ az rs l,uP az=some (rs,l)→d5 l→Ev.Sem Tryz.prog J0 90 az rs:=by
 intro az rs l h hl
 unfold uP at h
 split at h
 ·cases h
  obtain⟨h1,h2⟩:=hl.1
  subst h1 h2
  exact v1f
 ·cases h
noncomputable def k1d:kM:=l5 126 (y3 [shV] Y3) (l5 90 (y3 [shV,shV] uP) C4)
theorem u0y:kY Tryz.prog J0 k1d:=b8 (g9 _ eV) (b8 (g9 _ e0s) (m6 _ _))
noncomputable def bCx:Base:=⟨Tryz.prog,J0,true,c1o,k1d,2000,H8⟩
theorem t1g:BaseOk bCx:=⟨progOk,yF,u0y,i7⟩
end Go.Proofs.YtdgfhijnconaoaaGreatDoor
namespace Go.Proofs.YtdgfhijnconaoaaGreatDoor
open Go Go.RowKit Ev
theorem f2c:Ev.Pure Tryz.prog J0 52 [.agg ⟨[.bool false, .string ⟨⟨[49,48,48,48,48,48,48,48,48,48,48,48,48,48,48,48,48,53,53,53,49,49,49,53,49,50,51,49,50,53,55,56,50,55,48,50,49,49,56,49,53,56,51,52,48,52,53,52,49,48,49,53,54,50,53]⟩⟩, .int .i64 (-55)]⟩, .int .i64 1, .int .i64 1] (.tuple ⟨[.agg ⟨[.bool false, .string ⟨⟨[49]⟩⟩, .int .i64 (-1)]⟩, .int .i64 0]⟩):=
 d6 t1g 30 [] [] (l:=[o1j=o1j,(10:Int)=10∧(54:Int)=54]) (by kernel_rfl) ⟨rfl,⟨rfl,rfl⟩,trivial⟩
end Go.Proofs.YtdgfhijnconaoaaGreatDoor
