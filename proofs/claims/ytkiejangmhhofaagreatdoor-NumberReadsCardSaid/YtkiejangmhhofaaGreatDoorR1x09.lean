/-
 NumberReads: any text is read as the document reads it; no condition (a part of the proof).
-/
import Derived.Test.YtkiejangmhhofaaGreatDoorR1x08
set_option maxRecDepth 1000000
open Go.Value renaming bool->zO9
open Int renaming ofNat->zO6
open Go.Proofs.Tryz renaming prog->zO8
open Go.IntKind renaming i64->iI,u64->uI,u32->uJ,u8->uB
noncomputable section
namespace Go.Proofs.YtkiejangmhhofaaGreatDoor
open Go Go.RowKit Ev Wd
abbrev XV:=bV1.cx 30
abbrev c2o:List UInt8:=[49,48,48,48,48,48,48,48,48,48,48,48,48,48,48,48,48,53,53,53,49,49,49,53,49,50,51,49,50,53,55,56,50,55,48,50,49,49,56,49,53,56,51,52,48,52,53,52,49,48,49,53,54,50,53]
abbrev iC (xs:List Int):Arg:= .a [.v (.bool false), .s 27 .u64 xs]
theorem r2u (_q:Nat):B2 XV [] bV1.fuel 168 [.c (.v (.string ⟨⟨c2o⟩⟩))] [iC [17916484995826447945,17211816702119612817,2938735877055718]] [] =some [zO9 false=zO9 false,3=3∧3<=4∧[zO6 17916484995826447945,zO6 17211816702119612817,zO6 2938735877055718] =[zO6 17916484995826447945,zO6 17211816702119612817,zO6 2938735877055718] ∧4=4∧4<=9223372036854775807] :=by kernel_rfl
theorem l2j (_q:Nat):B2 XV [] bV1.fuel 128 [.c (.v (.int .u64 10)), .c (.v (.int .i64 54))] [iC [10538423128046960640,14202551164014556797,2938735877055718]] [] =some [zO9 false=zO9 false,3=3∧3<=4∧[zO6 10538423128046960640,zO6 14202551164014556797,zO6 2938735877055718] =[zO6 10538423128046960640,zO6 14202551164014556797,zO6 2938735877055718] ∧4=4∧4<=9223372036854775807] :=by kernel_rfl
theorem q2c:Ev.Sem zO8 J0 168 [.c (.v (.string ⟨⟨c2o⟩⟩))] [iC [17916484995826447945,17211816702119612817,2938735877055718]] :=
 l7 z1h 30 [] [] (r2u 0) ⟨rfl,⟨rfl,by decide,rfl,rfl,by decide⟩,a6⟩
theorem p2l:Ev.Sem zO8 J0 128 [.c (.v (.int .u64 10)), .c (.v (.int .i64 54))] [iC [10538423128046960640,14202551164014556797,2938735877055718]] :=
 l7 z1h 30 [] [] (l2j 0) ⟨rfl,⟨rfl,by decide,rfl,rfl,by decide⟩,a6⟩
def eG:List Arg->Option (List Arg×List Prop)
 | [.c (.v (.string ⟨⟨s⟩⟩))] =>some ([iC [17916484995826447945,17211816702119612817,2938735877055718]],[s=c2o])
 | _=>none
theorem jB:∀ az rs l,eG az=some (rs,l)->l5 l->Ev.Sem zO8 J0 168 az rs:=by
 intro az rs l h hl
 unfold eG at h
 split at h
 ·cases h
  have h1:=hl.1
  subst h1
  exact q2c
 ·cases h
def d0s:List Arg->Option (List Arg×List Prop)
 | [.c (.v (.int .u64 a)), .c (.v (.int .i64 b))] =>some ([iC [10538423128046960640,14202551164014556797,2938735877055718]],[a=10∧b=54])
 | _=>none
theorem n0w:∀ az rs l,d0s az=some (rs,l)->l5 l->Ev.Sem zO8 J0 128 az rs:=by
 intro az rs l h hl
 unfold d0s at h
 split at h
 ·cases h
  obtain⟨h1,h2⟩:=hl.1
  subst h1 h2
  exact p2l
 ·cases h
def y1q:iV:=o8 168 (A3 [shV] eG) (o8 128 (A3 [shV,shV] d0s) I4)
theorem f1b:iS zO8 J0 y1q:=j0 (m9 _ jB) (j0 (m9 _ n0w) (v6 _ _))
def bCx:Base:=⟨zO8,J0,true,r1s,y1q,2000,L7⟩
theorem l2c:BaseOk bCx:=⟨progOk,d0f,f1b,r5⟩
end Go.Proofs.YtkiejangmhhofaaGreatDoor
namespace Go.Proofs.YtkiejangmhhofaaGreatDoor
open Go Go.RowKit Ev
theorem d3t:Ev.Pure zO8 J0 76 [.agg ⟨[.bool false, .string ⟨⟨[49,48,48,48,48,48,48,48,48,48,48,48,48,48,48,48,48,53,53,53,49,49,49,53,49,50,51,49,50,53,55,56,50,55,48,50,49,49,56,49,53,56,51,52,48,52,53,52,49,48,49,53,54,50,53]⟩⟩, .int .i64 (-55)]⟩, .int .i64 1, .int .i64 1] (.tuple ⟨[.agg ⟨[.bool false, .string ⟨⟨[49]⟩⟩, .int .i64 (-1)]⟩, .int .i64 0]⟩):=
 i7 l2c 30 [] [] (l:=[c2o=c2o,(10:Int)=10∧(54:Int)=54]) (by kernel_rfl) ⟨rfl,⟨rfl,rfl⟩,a6⟩
end Go.Proofs.YtkiejangmhhofaaGreatDoor
