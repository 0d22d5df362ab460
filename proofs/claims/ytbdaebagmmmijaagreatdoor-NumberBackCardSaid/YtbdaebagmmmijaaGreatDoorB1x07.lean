/-
 NumberBack: the whole text, the short text, the hexadecimal text and seventeen figures of any number are read as just that number; nine figures of a single are read as that single. No condition.
-/
import Derived.Test.YtbdaebagmmmijaaGreatDoorB1x03
open Nat renaming blt->zO1
open Int renaming ofNat->zO2
open Go.Proofs.Tryz renaming prog->zO7
open Go.IntKind renaming i64->iI,u64->uI,u32->uJ
noncomputable section
namespace Go.Proofs.YtbdaebagmmmijaaGreatDoor
open Go Go.RowKit Ev Wd
def inW (x:Int):Bool:=match x with
 | .ofNat n=>zO1 n 18446744073709551616
 | .negSucc _=>false
theorem lB {x:Int} (h:inW x=true):0<=x∧x < 18446744073709551616:=by
 unfold inW at h
 split at h
 ·simp only [D1] at h
  constructor <;> simp <;> omega
 ·cases h
def d1x:List Value->Option (Value×List Prop)
 | [.int .u64 x, .int .u64 y] =>match inW x,inW y with
  | true,true=>some (.tuple ⟨[.int .u64 (zO2 (x.toNat*y.toNat/18446744073709551616)), .int .u64 (zO2 (x.toNat*y.toNat%18446744073709551616))]⟩,[])
  | _,_=>none
 | _=>none
def l1v:List Value->Option (Value×List Prop)
 | [.int .u64 hi, .int .u64 lo, .int .u64 y] =>match inW hi,inW lo,inW y,zO1 hi.toNat y.toNat with
  | true,true,true,true=>some (.tuple ⟨[.int .u64 (zO2 ((hi.toNat*18446744073709551616+lo.toNat)/y.toNat)), .int .u64 (zO2 ((hi.toNat*18446744073709551616+lo.toNat)%y.toNat))]⟩,[])
  | _,_,_,_=>none
 | _=>none
theorem l1i (args:List Value) (v:Value) (l:List Prop) (h:d1x args=some (v,l)) (_:d9 l):Pure zO7 J0 147 args v:=by
 unfold d1x at h
 split at h
 case h_2=>cases h
 rename_i x y
 split at h
 case h_2=>cases h
 rename_i hx hy
 cases h
 have hx:=lB hx
 have hy:=lB hy
 have:=oU [.int .u64 x, .int .u64 y] _ _ rfl ⟨⟨hx,hy⟩,a7⟩
 exact this
theorem l1j (args:List Value) (v:Value) (l:List Prop) (h:l1v args=some (v,l)) (_:d9 l):Pure zO7 J0 192 args v:=by
 unfold l1v at h
 split at h
 case h_2=>cases h
 rename_i hi lo y
 split at h
 case h_2=>cases h
 rename_i h1 h2 h3 h4
 cases h
 have h1:=lB h1
 have h2:=lB h2
 have h3:=lB h3
 simp only [D1] at h4
 have:=nO [.int .u64 hi, .int .u64 lo, .int .u64 y] _ _ rfl ⟨⟨⟨h1.1,by omega⟩,h2,h3.2⟩,a7⟩
 exact this
def z0f:Tab:=l5 147 d1x (l5 192 l1v o2m)
theorem kZ:Q0 zO7 J0 z0f:=b7 l1i (b7 l1j s1y)
def bT1:Base:=⟨zO7,J0,true,z0f,F4,2000,I6⟩
theorem B7:BaseOk bT1:=⟨progOk,kZ,n9 _ _,m0⟩
end Go.Proofs.YtbdaebagmmmijaaGreatDoor
