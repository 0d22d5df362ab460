/-
 NumberBack: the whole text, the short text, the hexadecimal text and seventeen figures of any number are read as just that number; nine figures of a single are read as that single. No condition.
-/
import Derived.Test.YtbdaebagmmmijaaGreatDoorB1x08
set_option maxRecDepth 1000000
open Int renaming ofNat->zO2
open Go.Value renaming bool->zO8
open Go.Proofs.Tryz renaming prog->zO7
open Go.IntKind renaming i64->iI,u64->uI,u32->uJ
noncomputable section
namespace Go.Proofs.YtbdaebagmmmijaaGreatDoor
open Go Go.RowKit Ev Wd
abbrev XV:=bV1.cx 30
abbrev f2e:List UInt8:=[49,48,48,48,48,48,48,48,48,48,48,48,48,48,48,48,48,53,53,53,49,49,49,53,49,50,51,49,50,53,55,56,50,55,48,50,49,49,56,49,53,56,51,52,48,52,53,52,49,48,49,53,54,50,53]
abbrev iC (xs:List Int):Arg:= .a [.v (.bool false), .s 39 .u64 xs]
theorem o2e (_q:Nat):A7 XV [] bV1.fuel 157 [.c (.v (.string ⟨⟨f2e⟩⟩))] [iC [17916484995826447945,17211816702119612817,2938735877055718]] [] =some [zO8 false=zO8 false,3=3∧3<=4∧[zO2 17916484995826447945,zO2 17211816702119612817,zO2 2938735877055718] =[zO2 17916484995826447945,zO2 17211816702119612817,zO2 2938735877055718] ∧4=4∧4<=9223372036854775807] :=by kernel_rfl
theorem k2x (_q:Nat):A7 XV [] bV1.fuel 93 [.c (.v (.int .u64 10)), .c (.v (.int .i64 54))] [iC [10538423128046960640,14202551164014556797,2938735877055718]] [] =some [zO8 false=zO8 false,3=3∧3<=4∧[zO2 10538423128046960640,zO2 14202551164014556797,zO2 2938735877055718] =[zO2 10538423128046960640,zO2 14202551164014556797,zO2 2938735877055718] ∧4=4∧4<=9223372036854775807] :=by kernel_rfl
theorem q2a:Ev.Sem zO7 J0 157 [.c (.v (.string ⟨⟨f2e⟩⟩))] [iC [17916484995826447945,17211816702119612817,2938735877055718]] :=
 l6 y1r 30 [] [] (o2e 0) ⟨rfl,⟨rfl,by decide,rfl,rfl,by decide⟩,a7⟩
theorem m2p:Ev.Sem zO7 J0 93 [.c (.v (.int .u64 10)), .c (.v (.int .i64 54))] [iC [10538423128046960640,14202551164014556797,2938735877055718]] :=
 l6 y1r 30 [] [] (k2x 0) ⟨rfl,⟨rfl,by decide,rfl,rfl,by decide⟩,a7⟩
def dT:List Arg->Option (List Arg×List Prop)
 | [.c (.v (.string ⟨⟨s⟩⟩))] =>some ([iC [17916484995826447945,17211816702119612817,2938735877055718]],[s=f2e])
 | _=>none
theorem lD:∀ az rs l,dT az=some (rs,l)->d9 l->Ev.Sem zO7 J0 157 az rs:=by
 intro az rs l h hl
 unfold dT at h
 split at h
 ·cases h
  have h1:=hl.1
  subst h1
  exact q2a
 ·cases h
def c0w:List Arg->Option (List Arg×List Prop)
 | [.c (.v (.int .u64 a)), .c (.v (.int .i64 b))] =>some ([iC [10538423128046960640,14202551164014556797,2938735877055718]],[a=10∧b=54])
 | _=>none
theorem q0i:∀ az rs l,c0w az=some (rs,l)->d9 l->Ev.Sem zO7 J0 93 az rs:=by
 intro az rs l h hl
 unfold c0w at h
 split at h
 ·cases h
  obtain⟨h1,h2⟩:=hl.1
  subst h1 h2
  exact m2p
 ·cases h
def y1f:iG:=m4 157 (z6 [shV] dT) (m4 93 (z6 [shV,shV] c0w) F4)
theorem d1s:iD zO7 J0 y1f:=d8 (l7 _ lD) (d8 (l7 _ q0i) (n9 _ _))
def bCx:Base:=⟨zO7,J0,true,t1c,y1f,2000,I6⟩
theorem m2s:BaseOk bCx:=⟨progOk,e0h,d1s,m0⟩
end Go.Proofs.YtbdaebagmmmijaaGreatDoor
namespace Go.Proofs.YtbdaebagmmmijaaGreatDoor
open Go Go.RowKit Ev
theorem x2n:Ev.Pure zO7 J0 54 [.agg ⟨[.bool false, .string ⟨⟨[49,48,48,48,48,48,48,48,48,48,48,48,48,48,48,48,48,53,53,53,49,49,49,53,49,50,51,49,50,53,55,56,50,55,48,50,49,49,56,49,53,56,51,52,48,52,53,52,49,48,49,53,54,50,53]⟩⟩, .int .i64 (-55)]⟩, .int .i64 1, .int .i64 1] (.tuple ⟨[.agg ⟨[.bool false, .string ⟨⟨[49]⟩⟩, .int .i64 (-1)]⟩, .int .i64 0]⟩):=
 d6 m2s 30 [] [] (l:=[f2e=f2e,(10:Int)=10∧(54:Int)=54]) (by kernel_rfl) ⟨rfl,⟨rfl,rfl⟩,a7⟩
end Go.Proofs.YtbdaebagmmmijaaGreatDoor
