/-
 NumberRises: of two texts the one with the greater value is never read as the lesser number; no condition (a part of the proof).
-/
import Derived.Test.YtdgfhijnconaoaaGreatDoorR1x11
import Derived.Test.YtdgfhijnconaoaaGreatDoorR1x06
set_option maxRecDepth 1000000
namespace Go.Proofs.YtdgfhijnconaoaaGreatDoor
open Go Go.RowKit Ev Wd
noncomputable abbrev XV:=bV1.cx 30
abbrev dg01:List UInt8:=[49,48,48,48,48,48,48,48,48,48,48,48,48,48,48,48,48,53,53,53,49,49,49,53,49,50,51,49,50,53,55,56,50,55,48,50,49,49,56,49,53,56,51,52,48,52,53,52,49,48,49,53,54,50,53]
abbrev iC (xs:List Int):Arg:= .a [.v (.bool false), .s 32 .u64 xs]
theorem ps_way (_q:Nat):semR XV [] bV1.fuel 126 [.c (.v (.string ⟨⟨dg01⟩⟩))] [iC [17916484995826447945,17211816702119612817,2938735877055718]] [] =some [Value.bool false=Value.bool false,3=3∧3≤4∧[Int.ofNat 17916484995826447945,Int.ofNat 17211816702119612817,Int.ofNat 2938735877055718] =[Int.ofNat 17916484995826447945,Int.ofNat 17211816702119612817,Int.ofNat 2938735877055718] ∧4=4∧4≤9223372036854775807] :=by kernel_rfl
theorem pw_way (_q:Nat):semR XV [] bV1.fuel 90 [.c (.v (.int .u64 10)), .c (.v (.int .i64 54))] [iC [10538423128046960640,14202551164014556797,2938735877055718]] [] =some [Value.bool false=Value.bool false,3=3∧3≤4∧[Int.ofNat 10538423128046960640,Int.ofNat 14202551164014556797,Int.ofNat 2938735877055718] =[Int.ofNat 10538423128046960640,Int.ofNat 14202551164014556797,Int.ofNat 2938735877055718] ∧4=4∧4≤9223372036854775807] :=by kernel_rfl
theorem ps_sem:Ev.Sem Tryz.prog J0 126 [.c (.v (.string ⟨⟨dg01⟩⟩))] [iC [17916484995826447945,17211816702119612817,2938735877055718]] :=
 sem_of bV1_ok 30 [] [] (ps_way 0) ⟨rfl,⟨rfl,by decide,rfl,rfl,by decide⟩,trivial⟩
theorem pw_sem:Ev.Sem Tryz.prog J0 90 [.c (.v (.int .u64 10)), .c (.v (.int .i64 54))] [iC [10538423128046960640,14202551164014556797,2938735877055718]] :=
 sem_of bV1_ok 30 [] [] (pw_way 0) ⟨rfl,⟨rfl,by decide,rfl,rfl,by decide⟩,trivial⟩
def specParse0:List Arg→Option (List Arg×List Prop)
 | [.c (.v (.string ⟨⟨s⟩⟩))] =>some ([iC [17916484995826447945,17211816702119612817,2938735877055718]],[s=dg01])
 | _=>none
theorem specParse0_ok:∀ az rs l,specParse0 az=some (rs,l)→allP l→Ev.Sem Tryz.prog J0 126 az rs:=by
 intro az rs l h hl
 unfold specParse0 at h
 split at h
 ·cases h
  have h1:=hl.1
  subst h1
  exact ps_sem
 ·cases h
def specPow0:List Arg→Option (List Arg×List Prop)
 | [.c (.v (.int .u64 a)), .c (.v (.int .i64 b))] =>some ([iC [10538423128046960640,14202551164014556797,2938735877055718]],[a=10∧b=54])
 | _=>none
theorem specPow0_ok:∀ az rs l,specPow0 az=some (rs,l)→allP l→Ev.Sem Tryz.prog J0 90 az rs:=by
 intro az rs l h hl
 unfold specPow0 at h
 split at h
 ·cases h
  obtain⟨h1,h2⟩:=hl.1
  subst h1 h2
  exact pw_sem
 ·cases h
noncomputable def mtabCx:MTab:=mtabAdd 126 (liftS [shV] specParse0) (mtabAdd 90 (liftS [shV,shV] specPow0) mtab0)
theorem mtabCx_ok:ClOk Tryz.prog J0 mtabCx:=mtabAdd_ok (liftS_ok _ specParse0_ok) (mtabAdd_ok (liftS_ok _ specPow0_ok) (mtab0_ok _ _))
noncomputable def bCx:Base:=⟨Tryz.prog,J0,true,tabV1,mtabCx,2000,xtN0⟩
theorem bCx_ok:BaseOk bCx:=⟨progOk,tabV1_ok,mtabCx_ok,xtN0_ok⟩
end Go.Proofs.YtdgfhijnconaoaaGreatDoor
namespace Go.Proofs.YtdgfhijnconaoaaGreatDoor
open Go Go.RowKit Ev
theorem cy_0:Ev.Pure Tryz.prog J0 52 [.agg ⟨[.bool false, .string ⟨⟨[49,48,48,48,48,48,48,48,48,48,48,48,48,48,48,48,48,53,53,53,49,49,49,53,49,50,51,49,50,53,55,56,50,55,48,50,49,49,56,49,53,56,51,52,48,52,53,52,49,48,49,53,54,50,53]⟩⟩, .int .i64 (-55)]⟩, .int .i64 1, .int .i64 1] (.tuple ⟨[.agg ⟨[.bool false, .string ⟨⟨[49]⟩⟩, .int .i64 (-1)]⟩, .int .i64 0]⟩):=
 pure_of bCx_ok 30 [] [] (l:=[dg01=dg01,(10:Int)=10∧(54:Int)=54]) (by kernel_rfl) ⟨rfl,⟨rfl,rfl⟩,trivial⟩
end Go.Proofs.YtdgfhijnconaoaaGreatDoor
