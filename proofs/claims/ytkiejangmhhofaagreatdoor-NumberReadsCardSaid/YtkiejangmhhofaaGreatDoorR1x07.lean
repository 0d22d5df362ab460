/-
 NumberReads: any text is read as the document reads it; no condition (a part of the proof).
-/
import Derived.Test.YtkiejangmhhofaaGreatDoorR1x05
open Nat renaming blt->zO1
open Int renaming ofNat->zO6
open Go.Proofs.Tryz renaming prog->zO8
open Go.IntKind renaming i64->iI,u64->uI,u32->uJ,u8->uB
noncomputable section
namespace Go.Proofs.YtkiejangmhhofaaGreatDoor
open Go Go.RowKit Ev Wd
def inW (x:Int):Bool:=match x with
 | .ofNat n=>zO1 n 18446744073709551616
 | .negSucc _=>false
theorem kZ {x:Int} (h:inW x=true):0<=x∧x < 18446744073709551616:=by
 unfold inW at h
 split at h
 ·simp only [G1] at h
  constructor <;> simp <;> omega
 ·cases h
def m1g:List Value->Option (Value×List Prop)
 | [.int .u64 x, .int .u64 y] =>match inW x,inW y with
  | true,true=>some (.tuple ⟨[.int .u64 (zO6 (x.toNat*y.toNat/18446744073709551616)), .int .u64 (zO6 (x.toNat*y.toNat%18446744073709551616))]⟩,[])
  | _,_=>none
 | _=>none
def b1d:List Value->Option (Value×List Prop)
 | [.int .u64 hi, .int .u64 lo, .int .u64 y] =>match inW hi,inW lo,inW y,zO1 hi.toNat y.toNat with
  | true,true,true,true=>some (.tuple ⟨[.int .u64 (zO6 ((hi.toNat*18446744073709551616+lo.toNat)/y.toNat)), .int .u64 (zO6 ((hi.toNat*18446744073709551616+lo.toNat)%y.toNat))]⟩,[])
  | _,_,_,_=>none
 | _=>none
theorem g1j (args:List Value) (v:Value) (l:List Prop) (h:m1g args=some (v,l)) (_:l5 l):Pure zO8 J0 199 args v:=by
 unfold m1g at h
 split at h
 case h_2=>cases h
 rename_i x y
 split at h
 case h_2=>cases h
 rename_i hx hy
 cases h
 have hx:=kZ hx
 have hy:=kZ hy
 have:=qH [.int .u64 x, .int .u64 y] _ _ rfl ⟨⟨hx,hy⟩,a6⟩
 exact this
theorem f1e (args:List Value) (v:Value) (l:List Prop) (h:b1d args=some (v,l)) (_:l5 l):Pure zO8 J0 264 args v:=by
 unfold b1d at h
 split at h
 case h_2=>cases h
 rename_i hi lo y
 split at h
 case h_2=>cases h
 rename_i h1 h2 h3 h4
 cases h
 have h1:=kZ h1
 have h2:=kZ h2
 have h3:=kZ h3
 simp only [G1] at h4
 have:=pO [.int .u64 hi, .int .u64 lo, .int .u64 y] _ _ rfl ⟨⟨⟨h1.1,by omega⟩,h2,h3.2⟩,a6⟩
 exact this
def z0j:Tab:=r6 199 m1g (r6 264 b1d l2m)
theorem kX:U6 zO8 J0 z0j:=i8 g1j (i8 f1e r1z)
def bT1:Base:=⟨zO8,J0,true,z0j,I4,2000,L7⟩
theorem D8:BaseOk bT1:=⟨progOk,kX,v6 _ _,r5⟩
end Go.Proofs.YtkiejangmhhofaaGreatDoor
