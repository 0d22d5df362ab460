/-
 NumberNear: a decimal that is read as a finite number lies nowhere beyond the middle between it and its neighbours; no condition (a part of the proof).
-/
import Derived.Test.YtbdaebagmmmijaaGreatDoorN1x06
open Nat renaming blt->zO1
open Int renaming ofNat->zO2
open Go.Proofs.Tryz renaming prog->zO8
open Go.IntKind renaming i64->iI,u64->uI,u8->uB
noncomputable section
namespace Go.Proofs.YtbdaebagmmmijaaGreatDoor
open Go Go.RowKit Ev Wd
def inW (x:Int):Bool:=match x with
 | .ofNat n=>zO1 n 18446744073709551616
 | .negSucc _=>false
theorem kI {x:Int} (h:inW x=true):0<=x∧x < 18446744073709551616:=by
 unfold inW at h
 split at h
 ·simp only [C0] at h
  constructor <;> simp <;> omega
 ·cases h
def e1q:List Value->Option (Value×List Prop)
 | [.int .u64 x, .int .u64 y] =>match inW x,inW y with
  | true,true=>some (.tuple ⟨[.int .u64 (zO2 (x.toNat*y.toNat/18446744073709551616)), .int .u64 (zO2 (x.toNat*y.toNat%18446744073709551616))]⟩,[])
  | _,_=>none
 | _=>none
def j1w:List Value->Option (Value×List Prop)
 | [.int .u64 hi, .int .u64 lo, .int .u64 y] =>match inW hi,inW lo,inW y,zO1 hi.toNat y.toNat with
  | true,true,true,true=>some (.tuple ⟨[.int .u64 (zO2 ((hi.toNat*18446744073709551616+lo.toNat)/y.toNat)), .int .u64 (zO2 ((hi.toNat*18446744073709551616+lo.toNat)%y.toNat))]⟩,[])
  | _,_,_,_=>none
 | _=>none
theorem j1x (args:List Value) (v:Value) (l:List Prop) (h:e1q args=some (v,l)) (_:d9 l):Pure zO8 J0 147 args v:=by
 unfold e1q at h
 split at h
 case h_2=>cases h
 rename_i x y
 split at h
 case h_2=>cases h
 rename_i hx hy
 cases h
 have hx:=kI hx
 have hy:=kI hy
 have:=nT [.int .u64 x, .int .u64 y] _ _ rfl ⟨⟨hx,hy⟩,a7⟩
 exact this
theorem h1n (args:List Value) (v:Value) (l:List Prop) (h:j1w args=some (v,l)) (_:d9 l):Pure zO8 J0 192 args v:=by
 unfold j1w at h
 split at h
 case h_2=>cases h
 rename_i hi lo y
 split at h
 case h_2=>cases h
 rename_i h1 h2 h3 h4
 cases h
 have h1:=kI h1
 have h2:=kI h2
 have h3:=kI h3
 simp only [C0] at h4
 have:=mY [.int .u64 hi, .int .u64 lo, .int .u64 y] _ _ rfl ⟨⟨⟨h1.1,by omega⟩,h2,h3.2⟩,a7⟩
 exact this
def v0v:Tab:=l7 147 e1q (l7 192 j1w i2d)
theorem jP:R8 zO8 J0 v0v:=b8 j1x (b8 h1n n1x)
def bT1:Base:=⟨zO8,J0,true,v0v,D1,2000,J2⟩
theorem B0:BaseOk bT1:=⟨progOk,jP,n8 _ _,m4⟩
end Go.Proofs.YtbdaebagmmmijaaGreatDoor
