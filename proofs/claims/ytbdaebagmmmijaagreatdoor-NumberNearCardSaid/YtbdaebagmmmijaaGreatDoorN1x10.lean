/-
 NumberNear: a decimal that is read as a finite number lies nowhere beyond the middle between it and its neighbours; no condition (a part of the proof).
-/
import Derived.Test.YtbdaebagmmmijaaGreatDoorN1x09
set_option maxRecDepth 1000000
open Int renaming ofNat->zO2
open Go.Value renaming bool->zO9
open Go.Proofs.Tryz renaming prog->zO8
open Go.IntKind renaming i64->iI,u64->uI,u8->uB
noncomputable section
namespace Go.Proofs.YtbdaebagmmmijaaGreatDoor
open Go Go.RowKit Ev Wd
abbrev XV:=bV1.cx 30
abbrev z1p:List UInt8:=[49,48,48,48,48,48,48,48,48,48,48,48,48,48,48,48,48,53,53,53,49,49,49,53,49,50,51,49,50,53,55,56,50,55,48,50,49,49,56,49,53,56,51,52,48,52,53,52,49,48,49,53,54,50,53]
abbrev iC (xs:List Int):Arg:= .a [.v (.bool false), .s 39 .u64 xs]
theorem f2p (_q:Nat):B7 XV [] bV1.fuel 157 [.c (.v (.string ⟨⟨z1p⟩⟩))] [iC [17916484995826447945,17211816702119612817,2938735877055718]] [] =some [zO9 false=zO9 false,3=3∧3<=4∧[zO2 17916484995826447945,zO2 17211816702119612817,zO2 2938735877055718] =[zO2 17916484995826447945,zO2 17211816702119612817,zO2 2938735877055718] ∧4=4∧4<=9223372036854775807] :=by kernel_rfl
theorem g2o (_q:Nat):B7 XV [] bV1.fuel 93 [.c (.v (.int .u64 10)), .c (.v (.int .i64 54))] [iC [10538423128046960640,14202551164014556797,2938735877055718]] [] =some [zO9 false=zO9 false,3=3∧3<=4∧[zO2 10538423128046960640,zO2 14202551164014556797,zO2 2938735877055718] =[zO2 10538423128046960640,zO2 14202551164014556797,zO2 2938735877055718] ∧4=4∧4<=9223372036854775807] :=by kernel_rfl
theorem g2u:Ev.Sem zO8 J0 157 [.c (.v (.string ⟨⟨z1p⟩⟩))] [iC [17916484995826447945,17211816702119612817,2938735877055718]] :=
 l6 t1m 30 [] [] (f2p 0) ⟨rfl,⟨rfl,by decide,rfl,rfl,by decide⟩,a7⟩
theorem g2t:Ev.Sem zO8 J0 93 [.c (.v (.int .u64 10)), .c (.v (.int .i64 54))] [iC [10538423128046960640,14202551164014556797,2938735877055718]] :=
 l6 t1m 30 [] [] (g2o 0) ⟨rfl,⟨rfl,by decide,rfl,rfl,by decide⟩,a7⟩
def dP:List Arg->Option (List Arg×List Prop)
 | [.c (.v (.string ⟨⟨s⟩⟩))] =>some ([iC [17916484995826447945,17211816702119612817,2938735877055718]],[s=z1p])
 | _=>none
theorem kV:∀ az rs l,dP az=some (rs,l)->d9 l->Ev.Sem zO8 J0 157 az rs:=by
 intro az rs l h hl
 unfold dP at h
 split at h
 ·cases h
  have h1:=hl.1
  subst h1
  exact g2u
 ·cases h
def f0x:List Arg->Option (List Arg×List Prop)
 | [.c (.v (.int .u64 a)), .c (.v (.int .i64 b))] =>some ([iC [10538423128046960640,14202551164014556797,2938735877055718]],[a=10∧b=54])
 | _=>none
theorem o0a:∀ az rs l,f0x az=some (rs,l)->d9 l->Ev.Sem zO8 J0 93 az rs:=by
 intro az rs l h hl
 unfold f0x at h
 split at h
 ·cases h
  obtain⟨h1,h2⟩:=hl.1
  subst h1 h2
  exact g2t
 ·cases h
def u1a:qV:=m8 157 (z7 [shV] dP) (m8 93 (z7 [shV,shV] f0x) D1)
theorem a1r:qZ zO8 J0 u1a:=d7 (m5 _ kV) (d7 (m5 _ o0a) (n8 _ _))
def bCx:Base:=⟨zO8,J0,true,n1w,u1a,2000,J2⟩
theorem i2e:BaseOk bCx:=⟨progOk,e0u,a1r,m4⟩
end Go.Proofs.YtbdaebagmmmijaaGreatDoor
namespace Go.Proofs.YtbdaebagmmmijaaGreatDoor
open Go Go.RowKit Ev
theorem r2e:Ev.Pure zO8 J0 54 [.agg ⟨[.bool false, .string ⟨⟨[49,48,48,48,48,48,48,48,48,48,48,48,48,48,48,48,48,53,53,53,49,49,49,53,49,50,51,49,50,53,55,56,50,55,48,50,49,49,56,49,53,56,51,52,48,52,53,52,49,48,49,53,54,50,53]⟩⟩, .int .i64 (-55)]⟩, .int .i64 1, .int .i64 1] (.tuple ⟨[.agg ⟨[.bool false, .string ⟨⟨[49]⟩⟩, .int .i64 (-1)]⟩, .int .i64 0]⟩):=
 g9 i2e 30 [] [] (l:=[z1p=z1p,(10:Int)=10∧(54:Int)=54]) (by kernel_rfl) ⟨rfl,⟨rfl,rfl⟩,a7⟩
end Go.Proofs.YtbdaebagmmmijaaGreatDoor
