/-
 NumberNear: a decimal that is read as a finite number lies nowhere beyond the middle between it and its neighbours; no condition (a part of the proof).
-/
import Derived.Test.YtbdaebagmmmijaaGreatDoorN1x04
import Derived.Shelf.Strconv.ParseUint10At
import Derived.Lib.AtoiTie
import Derived.Lib.AtoiErrMem
import Derived.Lib.ParseIntBCases
import GoSem.ClaimJoined
import Derived.Lib.Bytealg
set_option maxRecDepth 1000000
open Nat renaming beq->zO0
open Int renaming ofNat->zO2
open Go.Value renaming int->zO3,bool->zO9
open List renaming replicate->zO6,take->zO10
open Go.Proofs.Tryz renaming prog->zO8
open BitVec renaming ofInt->zO11
open Go.IntKind renaming i64->iI,u64->uI,u8->uB
noncomputable section
namespace Go.Proofs
theorem zzA187:type_of%@Int.ofNat_le:=@Int.ofNat_le
theorem zzA188:type_of%@Int.ofNat_lt:=@Int.ofNat_lt
theorem f9:type_of%@decide_eq_true:=@decide_eq_true
theorem d4:type_of%@decide_eq_false:=@decide_eq_false
theorem iB:type_of%@Int.lt_irrefl:=@Int.lt_irrefl
theorem sL:type_of%@List.drop_of_length_le:=@List.drop_of_length_le
theorem x7:type_of%@Nat.pow_pos:=@Nat.pow_pos
theorem u0j:type_of%@Nat.le_mul_of_pos_right:=@Nat.le_mul_of_pos_right
theorem a0g:type_of%@List.append_assoc:=@List.append_assoc
theorem tD:type_of%@List.length_replicate:=@List.length_replicate
theorem nL:type_of%@Nat.lt_trans:=@Nat.lt_trans
theorem h0s:type_of%@Nat.le_mul_of_pos_left:=@Nat.le_mul_of_pos_left
theorem nU:type_of%@Nat.pow_le_pow_left:=@Nat.pow_le_pow_left
theorem vJ:type_of%@BitVec.ofInt_natCast:=@BitVec.ofInt_natCast
theorem pK:type_of%@BitVec.toNat_and:=@BitVec.toNat_and
theorem sH:type_of%@BitVec.toNat_ofNat:=@BitVec.toNat_ofNat
theorem jG:type_of%@Int.eq_ofNat_of_zero_le:=@Int.eq_ofNat_of_zero_le
theorem s6:type_of%@beq_false_of_ne:=@beq_false_of_ne
theorem O2:type_of%@of_decide_eq_false:=@of_decide_eq_false
theorem u0d:type_of%@Nat.pow_lt_pow_iff_right:=@Nat.pow_lt_pow_iff_right
end Go.Proofs
namespace Go.Proofs.YtbdaebagmmmijaaGreatDoor
open Go Go.RowKit Ev Wd
abbrev wO (ys:List Int) (off n:Nat):Arg:= .c (.o .u64 ys off n)
def m0b (zs ys L:List Int) (off na nb N:Nat) (la c i:Int):St:=
 ⟨only 40 [(0, .slice (some ⟨11,off,some 12⟩) na 0),(1,slV 13 nb),(5,slV 15 N),(6, .int .u64 c),(12, .slice (some ⟨11,off,some 12⟩) na 0),(13, .int .i64 la),(14, .int .i64 i)],[(15, .row Y8 1 (.ints .u64 L) 16),(11, .ints .u64 zs),(13, .ints .u64 ys)],17,[],[],0,none,[],15⟩
def qE (zs ys:List Int) (off na nb:Nat) (i:Int):St:=⟨only 43 [(0, .slice (some ⟨11,off,some 12⟩) na 0),(1,slV 13 nb),(5, .int .i64 i)],[(11, .ints .u64 zs),(13, .ints .u64 ys)],15,[],[],0,none,[],15⟩
def l1y (zs ys:List Int) (off na nb:Nat) (r:Int):St:=⟨only 43 [(0, .slice (some ⟨11,off,some 12⟩) na 0),(1,slV 13 nb),(4, .int .i64 r)],[(11, .ints .u64 zs),(13, .ints .u64 ys)],15,[],[],0,none,[],15⟩
theorem p1q (zs ys:List Int) (off n:Nat) (r:Int):B7 XW0 [] 200 153 [wO zs off n,wS ys] [.c (.v (.int .i64 r))] [true] =some [(zO2 n !=zO2 ys.length)=true,zO3 iI (iI.wrap (zO2 n-zO2 ys.length))=zO3 iI r] :=by kernel_rfl
theorem o1w (zs ys:List Int) (off na nb n:Nat) (i r:Int):B7 XW0 [N5 (.exit 0) (fun _=>qE zs ys off na nb i)] 200 153 [wO zs off n,wS ys] [.c (.v (.int .i64 r))] [false] =some [b9 XW0 gG (n9 XW0 200 153 [wO zs off n,wS ys] [false]) (.exit 0) (qE zs ys off na nb i),(zO2 n !=zO2 ys.length)=false,zO3 iI (zO2 0)=zO3 iI r] :=by kernel_rfl
theorem u0w (zs ys:List Int) (off na nb n:Nat) (q r:Int):B7 XW0 [N5 .ret (fun _=>l1y zs ys off na nb q)] 200 153 [wO zs off n,wS ys] [.c (.v (.int .i64 r))] [false] =some [b9 XW0 gG (n9 XW0 200 153 [wO zs off n,wS ys] [false]) .ret (l1y zs ys off na nb q),(zO2 n !=zO2 ys.length)=false,zO3 iI q=zO3 iI r] :=by kernel_rfl
theorem p1y (zs ys:List Int) (off na nb:Nat) (i:Int) (hl:d9 [decide (zs.getD (r8 off (P8 i.toNat 1)) (zO2 0) < ys.getD i.toNat (zO2 0))=true,i.toNat < ys.length,(zO2 0<=i∧i < zO2 nb)∧0 < ys.length,(r8 off (P8 i.toNat 1)) < zs.length,(zO2 0<=i∧i < zO2 na)∧0 < zs.length,decide (zO2 0<=i)=true]):r7 XW0 gG (qE zs ys off na nb i) .ret (l1y zs ys off na nb (-1)):=
 d6 (a6 w7 10).1 progOk.mixed [] 200 [true,true] [] (by kernel_rfl) hl (by kernel_rfl) (by kernel_rfl)
theorem s1r (zs ys:List Int) (off na nb:Nat) (i:Int) (hl:d9 [decide (ys.getD i.toNat (zO2 0) < zs.getD (r8 off (P8 i.toNat 1)) (zO2 0))=true,i.toNat < ys.length,(zO2 0<=i∧i < zO2 nb)∧0 < ys.length,(r8 off (P8 i.toNat 1)) < zs.length,(zO2 0<=i∧i < zO2 na)∧0 < zs.length,decide (zs.getD (r8 off (P8 i.toNat 1)) (zO2 0) < ys.getD i.toNat (zO2 0))=false,i.toNat < ys.length,(zO2 0<=i∧i < zO2 nb)∧0 < ys.length,(r8 off (P8 i.toNat 1)) < zs.length,(zO2 0<=i∧i < zO2 na)∧0 < zs.length,decide (zO2 0<=i)=true]):r7 XW0 gG (qE zs ys off na nb i) .ret (l1y zs ys off na nb 1):=
 d6 (a6 w7 10).1 progOk.mixed [] 200 [true,false,true] [] (by kernel_rfl) hl (by kernel_rfl) (by kernel_rfl)
theorem r1g (zs ys:List Int) (off na nb:Nat) (i:Int) (hl:d9 [decide (ys.getD i.toNat (zO2 0) < zs.getD (r8 off (P8 i.toNat 1)) (zO2 0))=false,i.toNat < ys.length,(zO2 0<=i∧i < zO2 nb)∧0 < ys.length,(r8 off (P8 i.toNat 1)) < zs.length,(zO2 0<=i∧i < zO2 na)∧0 < zs.length,decide (zs.getD (r8 off (P8 i.toNat 1)) (zO2 0) < ys.getD i.toNat (zO2 0))=false,i.toNat < ys.length,(zO2 0<=i∧i < zO2 nb)∧0 < ys.length,(r8 off (P8 i.toNat 1)) < zs.length,(zO2 0<=i∧i < zO2 na)∧0 < zs.length,decide (zO2 0<=i)=true]):r7 XW0 gG (qE zs ys off na nb i) .normal (qE zs ys off na nb (iI.wrap (i-1))):=
 d6 (a6 w7 10).1 progOk.mixed [] 200 [true,false,false] [] (by kernel_rfl) hl (by kernel_rfl) (by kernel_rfl)
theorem c2e (zs ys:List Int) (off na nb:Nat) (i:Int) (hl:d9 [decide (zO2 0<=i)=false]):r7 XW0 gG (qE zs ys off na nb i) (.exit 0) (qE zs ys off na nb i):=
 d6 (a6 w7 10).1 progOk.mixed [] 200 [false] [] (by kernel_rfl) hl (by kernel_rfl) (by kernel_rfl)
theorem b2o (zs ys L R:List Int) (off n na nb N:Nat) (la c i:Int):B7 XW0 [N5 (.exit 0) (fun _=>m0b zs ys L off na nb N la c i)] 200 154 [wO zs off n,wS ys] [wS R] [] =some [b9 XW0 l0y (n9 XW0 200 154 [wO zs off n,wS ys] []) (.exit 0) (m0b zs ys L off na nb N la c i),zO2 0<=zO2 n∧zO2 n=zO2 n∧zO2 (8*n)<=zO2 281474976710656∧zO2 n<=zO2 9223372036854775807,N=R.length∧N<=L.length∧zO10 N L=R] :=by kernel_rfl
theorem o1z (zs ys L:List Int) (off na nb N:Nat) (la c i:Int) (hl:d9 [i.toNat < L.length,(zO2 0<=i∧i < zO2 N)∧0 < L.length,c.toNat<=1,(r8 off (P8 i.toNat 1)) < zs.length,(zO2 0<=i∧i < zO2 na)∧0 < zs.length,i.toNat < ys.length,(zO2 0<=i∧i < zO2 nb)∧0 < ys.length,decide (i < zO2 nb)=true,decide (i < la)=true]):r7 XW0 l0y (m0b zs ys L off na nb N la c i) .normal (m0b zs ys (gR L i.toNat (e0x (zs.getD (r8 off i.toNat) 0) (ys.getD i.toNat 0) c)) off na nb N la (c0i (zs.getD (r8 off i.toNat) 0) (ys.getD i.toNat 0) c) (iI.wrap (i+1))):=
 d6 (a6 w7 10).1 progOk.mixed [] 200 [true,true] [] (by kernel_rfl) hl (by kernel_rfl) (by kernel_rfl)
theorem v1z (zs ys L:List Int) (off na nb N:Nat) (la c i:Int) (hl:d9 [i.toNat < L.length,(zO2 0<=i∧i < zO2 N)∧0 < L.length,c.toNat<=1,(r8 off (P8 i.toNat 1)) < zs.length,(zO2 0<=i∧i < zO2 na)∧0 < zs.length,decide (i < zO2 nb)=false,decide (i < la)=true]):r7 XW0 l0y (m0b zs ys L off na nb N la c i) .normal (m0b zs ys (gR L i.toNat (e0x (zs.getD (r8 off i.toNat) 0) 0 c)) off na nb N la (c0i (zs.getD (r8 off i.toNat) 0) 0 c) (iI.wrap (i+1))):=
 d6 (a6 w7 10).1 progOk.mixed [] 200 [true,false] [] (by kernel_rfl) hl (by kernel_rfl) (by kernel_rfl)
theorem w1b (zs ys L:List Int) (off na nb N:Nat) (la c i:Int) (hl:d9 [decide (i < la)=false]):r7 XW0 l0y (m0b zs ys L off na nb N la c i) (.exit 0) (m0b zs ys L off na nb N la c i):=
 d6 (a6 w7 10).1 progOk.mixed [] 200 [false] [] (by kernel_rfl) hl (by kernel_rfl) (by kernel_rfl)
abbrev part (zs:List Int) (off n:Nat):List Int:=(zs.drop off).take n
theorem jT {zs:List Int} {off n:Nat} (h:off+n<=zs.length):(part zs off n).length=n:=by
 unfold part
 rw [D5,K3]
 omega
theorem bB {zs:List Int} {off n m:Nat} (hm:m < n):(part zs off n).getD m 0=zs.getD (off+m) 0:=by
 unfold part
 simp [List.getD,List.getElem?_drop,hm]
theorem n0j {zs:List Int} {off n m:Nat} (hm:m < n):zs.getD (r8 off (P8 (zO2 m).toNat 1)) (zO2 0)=(part zs off n).getD m 0:=by
 rw [bB hm,x9,U6]
 simp
section
variable (zs ys:List Int) {off n m:Nat} (ho:off+n<=zs.length)
include ho
theorem g1z (hm:m < n) (hy:m < ys.length) (h:(part zs off n).getD m 0 < ys.getD m 0):r7 XW0 gG (qE zs ys off n ys.length m) .ret (l1y zs ys off n ys.length (-1)):=by
 refine p1y zs ys off n ys.length (zO2 m) ⟨?_,hy,⟨⟨zzA187.2 (o8 _),zzA188.2 hy⟩,by omega⟩,?_,⟨⟨zzA187.2 (o8 _),zzA188.2 hm⟩,by omega⟩,by simp,a7⟩
 ·rw [<- n0j (n:=n) hm] at h
  exact f9 h
 ·show r8 off (P8 (zO2 m).toNat 1) < _
  rw [x9,U6]
  simp
  omega
theorem a1t (hm:m < n) (hy:m < ys.length) (h:ys.getD m 0 < (part zs off n).getD m 0):r7 XW0 gG (qE zs ys off n ys.length m) .ret (l1y zs ys off n ys.length 1):=by
 have ha:r8 off (P8 (zO2 m).toNat 1) < zs.length:=by rw [x9,U6]; simp; omega
 have b1:(zO2 0<=zO2 m∧zO2 m < zO2 ys.length)∧0 < ys.length:=⟨⟨zzA187.2 (o8 _),zzA188.2 hy⟩,by omega⟩
 have b2:(zO2 0<=zO2 m∧zO2 m < zO2 n)∧0 < zs.length:=⟨⟨zzA187.2 (o8 _),zzA188.2 hm⟩,by omega⟩
 rw [<- n0j (n:=n) hm] at h
 exact s1r zs ys off n ys.length (zO2 m) ⟨f9 h,hy,b1,ha,b2,d4 (Int.not_lt.2 (Int.le_of_lt h)),hy,b1,ha,b2,by simp,a7⟩
theorem l1b (hm:m < n) (hy:m < ys.length) (h:(part zs off n).getD m 0=ys.getD m 0):r7 XW0 gG (qE zs ys off n ys.length m) .normal (qE zs ys off n ys.length (iI.wrap ((m:Int)-1))):=by
 have ha:r8 off (P8 (zO2 m).toNat 1) < zs.length:=by rw [x9,U6]; simp; omega
 have b1:(zO2 0<=zO2 m∧zO2 m < zO2 ys.length)∧0 < ys.length:=⟨⟨zzA187.2 (o8 _),zzA188.2 hy⟩,by omega⟩
 have b2:(zO2 0<=zO2 m∧zO2 m < zO2 n)∧0 < zs.length:=⟨⟨zzA187.2 (o8 _),zzA188.2 hm⟩,by omega⟩
 rw [<- n0j (n:=n) hm] at h
 have h1:¬ ys.getD m 0 < zs.getD (r8 off (P8 (zO2 m).toNat 1)) (zO2 0):=by rw [h]; exact iB _
 have h2:¬ zs.getD (r8 off (P8 (zO2 m).toNat 1)) (zO2 0) < ys.getD m 0:=by rw [h]; exact iB _
 exact r1g zs ys off n ys.length (zO2 m) ⟨d4 h1,hy,b1,ha,b2,d4 h2,hy,b1,ha,b2,by simp,a7⟩
theorem i1t (L:List Int) (c:Int) (hm:m < n) (hy:m < ys.length) (hL:n<=L.length) (hc:c.toNat<=1):r7 XW0 l0y (m0b zs ys L off n ys.length n n c m) .normal (m0b zs ys (gR L m (e0x ((part zs off n).getD m 0) (ys.getD m 0) c)) off n ys.length n n (c0i ((part zs off n).getD m 0) (ys.getD m 0) c) (iI.wrap ((m:Int)+1))):=by
 have ha:r8 off (P8 (zO2 m).toNat 1) < zs.length:=by rw [x9,U6]; simp; omega
 have b2:(zO2 0<=zO2 m∧zO2 m < zO2 n)∧0 < zs.length:=⟨⟨zzA187.2 (o8 _),zzA188.2 hm⟩,by omega⟩
 have b3:(zO2 0<=zO2 m∧zO2 m < zO2 n)∧0 < L.length:=⟨⟨zzA187.2 (o8 _),zzA188.2 hm⟩,by omega⟩
 have:=o1z zs ys L off n ys.length n n c (zO2 m) ⟨(by simp; omega),b3,hc,ha,b2,hy,⟨⟨zzA187.2 (o8 _),zzA188.2 hy⟩,by omega⟩,f9 (zzA188.2 hy),f9 (zzA188.2 hm),a7⟩
 rw [show r8 off (zO2 m).toNat=off+m by rw [x9]; rfl,<- bB (zs:=zs) (off:=off) hm] at this
 exact this
theorem p1e (L:List Int) (c:Int) (hm:m < n) (hy:ys.length<=m) (hL:n<=L.length) (hc:c.toNat<=1):r7 XW0 l0y (m0b zs ys L off n ys.length n n c m) .normal (m0b zs ys (gR L m (e0x ((part zs off n).getD m 0) 0 c)) off n ys.length n n (c0i ((part zs off n).getD m 0) 0 c) (iI.wrap ((m:Int)+1))):=by
 have ha:r8 off (P8 (zO2 m).toNat 1) < zs.length:=by rw [x9,U6]; simp; omega
 have b2:(zO2 0<=zO2 m∧zO2 m < zO2 n)∧0 < zs.length:=⟨⟨zzA187.2 (o8 _),zzA188.2 hm⟩,by omega⟩
 have b3:(zO2 0<=zO2 m∧zO2 m < zO2 n)∧0 < L.length:=⟨⟨zzA187.2 (o8 _),zzA188.2 hm⟩,by omega⟩
 have:=v1z zs ys L off n ys.length n n c (zO2 m) ⟨(by simp; omega),b3,hc,ha,b2,d4 (by simp; omega),f9 (zzA188.2 hm),a7⟩
 rw [show r8 off (zO2 m).toNat=off+m by rw [x9]; rfl,<- bB (zs:=zs) (off:=off) hm] at this
 exact this
end
theorem b0y (zs ys:List Int) (off n:Nat) (x:AX) (s':St) (h:b9 XW0 gG (qE zs ys off n ys.length (iI.wrap ((n:Int)-1))) x s'):b9 XW0 gG (n9 XW0 200 153 [wO zs off n,wS ys] [false]) x s':=
 l9 h [] (by kernel_rfl) (by kernel_rfl) (by kernel_rfl)
theorem p1w (zs ys:List Int) (off n:Nat) (x:AX) (s':St) (h:b9 XW0 l0y (m0b zs ys (zO6 n 0) off n ys.length n n 0 0) x s'):b9 XW0 l0y (n9 XW0 200 154 [wO zs off n,wS ys] []) x s':=
 l9 h [] (by kernel_rfl) (by kernel_rfl) (by kernel_rfl)
theorem g0p {zs xs ys:List Int} {off n:Nat} (ho:off+n<=zs.length) (hxs:xs=part zs off n) (hx:Dg W64 xs) (hy:Dg W64 ys) (h1:n < 1099511627776) (h2:ys.length < 1099511627776):
  Ev.Sem zO8 J0 153 [wO zs off n,wS ys] [.c (.v (.int .i64 (mM xs ys)))] :=by
 obtain rfl:n=xs.length:=by rw [hxs,jT ho]
 by_cases hn:xs.length=ys.length
 case neg=>
  refine l6 w7 10 _ _ (p1q zs ys off xs.length _) ⟨by simp; omega,?_,a7⟩
  unfold mM
  rw [i6 hn]
  have:=C8 ((xs.length:Int)-ys.length)
  congr 1
  simp only [w9]
  omega
 have hw:∀ m:Nat,m < xs.length->iI.wrap (((m+1:Nat):Int)-1)=(m:Int):=fun m hm=>by
  have:=o9 (n:=m) (by omega)
  rw [<- this]
  congr 1
  omega
 have hw1:iI.wrap ((xs.length:Int)-1)=(xs.length:Int)-1:=by
  have:=C8 ((xs.length:Int)-1)
  omega
 have hws:∀ m:Nat,m < xs.length->iI.wrap ((m:Int)-1)=(m:Int)-1:=fun m hm=>by
  have:=C8 ((m:Int)-1)
  omega
 have step:∀ m,m < xs.length->xs.drop (m+1)=ys.drop (m+1)->
   (val W64 xs < val W64 ys∧r7 XW0 gG (qE zs ys off xs.length ys.length m) .ret (l1y zs ys off xs.length ys.length (-1)))∨
   (val W64 ys < val W64 xs∧r7 XW0 gG (qE zs ys off xs.length ys.length m) .ret (l1y zs ys off xs.length ys.length 1))∨
   (xs.drop m=ys.drop m∧r7 XW0 gG (qE zs ys off xs.length ys.length m) .normal (qE zs ys off xs.length ys.length ((m:Int)-1))):=by
  intro m hm hd
  rcases Int.lt_trichotomy (xs.getD m 0) (ys.getD m 0) with h | h | h
  ·exact .inl ⟨e0k hx hm (by omega) hd h,by rw [hxs] at h; exact g1z zs ys ho hm (by omega) h⟩
  ·right; right
   refine⟨by rw [B6 (l:=xs) (m:=m) hm,B6 (l:=ys) (m:=m) (by omega),h,hd],?_⟩
   have:=l1b zs ys ho hm (by omega) (by rw [<- hxs]; exact h)
   rw [hws m hm] at this
   exact this
  ·exact .inr (.inl ⟨e0k hy (by omega) hm hd.symm h,by rw [hxs] at h; exact a1t zs ys ho hm (by omega) h⟩)
 have good:∀ m,m<=xs.length->xs.drop m=ys.drop m->
   (val W64 xs < val W64 ys∧b9 XW0 gG (qE zs ys off xs.length ys.length ((m:Int)-1)) .ret (l1y zs ys off xs.length ys.length (-1)))∨
   (val W64 ys < val W64 xs∧b9 XW0 gG (qE zs ys off xs.length ys.length ((m:Int)-1)) .ret (l1y zs ys off xs.length ys.length 1))∨
   (xs=ys∧b9 XW0 gG (qE zs ys off xs.length ys.length ((m:Int)-1)) (.exit 0) (qE zs ys off xs.length ys.length (-1))):=by
  intro m hm hd
  rcases iG (val W64 xs) (val W64 ys) with h | h | h
  ·refine .inl ⟨h,?_⟩
   refine D2 (fun m:Nat=>qE zs ys off xs.length ys.length ((m:Int)-1)) id (fun m=>m<=xs.length∧xs.drop m=ys.drop m) (by intro e; cases e) (fun k hk=> ?_) m ⟨hm,hd⟩
   cases k with
   | zero=>
    have:xs=ys:=by simpa using hk.2
    rw [this] at h
    omega
   | succ k=>
    have e:(((k+1:Nat):Int)-1)=(k:Int):=by omega
    simp only [e]
    rcases step k (by omega) hk.2 with ⟨_,s⟩ | ⟨q,_⟩ | ⟨q,s⟩
    ·exact .inr s
    ·omega
    ·exact .inl ⟨k,⟨by omega,q⟩,cP _,s⟩
  ·refine .inr (.inr ?_)
   have he:=f0g i7 hx hy hn h
   refine⟨he,?_⟩
   refine D2 (fun m:Nat=>qE zs ys off xs.length ys.length ((m:Int)-1)) id (fun m=>m<=xs.length∧xs.drop m=ys.drop m) (by intro e; cases e) (fun k hk=> ?_) m ⟨hm,hd⟩
   cases k with
   | zero=>
    right
    exact c2e zs ys off xs.length ys.length (-1) ⟨by decide,a7⟩
   | succ k=>
    have e:(((k+1:Nat):Int)-1)=(k:Int):=by omega
    simp only [e]
    rcases step k (by omega) hk.2 with ⟨q,_⟩ | ⟨q,_⟩ | ⟨q,s⟩
    ·omega
    ·omega
    ·exact .inl ⟨k,⟨by omega,q⟩,cP _,s⟩
  ·refine .inr (.inl ⟨h,?_⟩)
   refine D2 (fun m:Nat=>qE zs ys off xs.length ys.length ((m:Int)-1)) id (fun m=>m<=xs.length∧xs.drop m=ys.drop m) (by intro e; cases e) (fun k hk=> ?_) m ⟨hm,hd⟩
   cases k with
   | zero=>
    have:xs=ys:=by simpa using hk.2
    rw [this] at h
    omega
   | succ k=>
    have e:(((k+1:Nat):Int)-1)=(k:Int):=by omega
    simp only [e]
    rcases step k (by omega) hk.2 with ⟨q,_⟩ | ⟨_,s⟩ | ⟨q,s⟩
    ·omega
    ·exact .inr s
    ·exact .inl ⟨k,⟨by omega,q⟩,cP _,s⟩
 have hne:((xs.length:Int) !=ys.length)=false:=by simp [hn]
 rcases good xs.length (d5 _) (by rw [yQ,hn,yQ]) with ⟨h,s⟩ | ⟨h,s⟩ | ⟨h,s⟩
 ·rw [<- hw1] at s
  refine l6 w7 10 _ _ (u0w zs ys off _ _ _ (-1) _) ⟨b0y zs ys off _ _ _ s,hne,?_,a7⟩
  unfold mM
  rw [a8 (by simp [hn]),i6 h]
 ·rw [<- hw1] at s
  refine l6 w7 10 _ _ (u0w zs ys off _ _ _ 1 _) ⟨b0y zs ys off _ _ _ s,hne,?_,a7⟩
  unfold mM
  rw [a8 (by simp [hn]),a8 (by omega),i6 h]
 ·rw [<- hw1] at s
  refine l6 w7 10 _ _ (o1w zs ys off _ _ _ (-1) _) ⟨b0y zs ys off _ _ _ s,hne,?_,a7⟩
  unfold mM
  rw [a8 (by simp [hn]),a8 (by rw [h]; omega),a8 (by rw [h]; omega)]
  rfl
theorem x0m {zs xs ys:List Int} {off n:Nat} (ho:off+n<=zs.length) (hxs:xs=part zs off n) (hx:Dg W64 xs) (hy:Dg W64 ys) (hle:val W64 ys<=val W64 xs) (h1:n < 1099511627776) (h2:ys.length<=n):
  Ev.Sem zO8 J0 154 [wO zs off n,wS ys] [wS (P2 xs ys)] :=by
 unfold P2
 obtain rfl:n=xs.length:=by rw [hxs,jT ho]
 obtain⟨hg,hi⟩:=cC hx hy xs.length xs.length (d5 _)
 have hlast:=zS hx hy (d5 _) h2 hle hg hi
 have hL:b9 XW0 l0y (m0b zs ys (zO6 xs.length 0) off xs.length ys.length xs.length xs.length 0 0) (.exit 0)
   (m0b zs ys (itr (pV xs ys) xs.length (O1 xs.length)).L off xs.length ys.length xs.length xs.length (itr (pV xs ys) xs.length (O1 xs.length)).c xs.length):=by
  refine v7 (fun k=>m0b zs ys (itr (pV xs ys) k (O1 xs.length)).L off xs.length ys.length xs.length xs.length (itr (pV xs ys) k (O1 xs.length)).c k) xs.length (by intro e; cases e) (fun k hk=> ?_)
   (w1b zs ys _ off xs.length ys.length xs.length _ _ xs.length ⟨by simp,a7⟩)
  obtain⟨hg,hi⟩:=cC hx hy xs.length k (by omega)
  simp only [itr]
  generalize itr (pV xs ys) k (O1 xs.length)=s at*
  obtain⟨h1',h2',h3,h4,h5,h6,h7⟩:=hg
  have hw:=F5 (n:=k) (by omega)
  subst hi
  by_cases hlt2:s.i < ys.length
  ·have:=i1t zs ys ho s.L s.c hk hlt2 (by omega) (by omega)
   rw [hw,<- hxs] at this
   exact this
  ·have:=p1e zs ys ho s.L s.c hk (by omega) (by omega) (by omega)
   rw [hw,<- hxs] at this
   unfold pV
   rw [Z5 (l:=ys) (i:=s.i) (by omega)]
   exact this
 refine l6 w7 10 _ _ (b2o zs ys _ _ off xs.length _ _ _ _ _ _) ⟨p1w zs ys off _ _ _ hL,⟨by simp,rfl,?_,?_⟩,⟨?_,?_,?_⟩,a7⟩
 ·exact zzA187.2 (by omega)
 ·exact zzA187.2 (by omega)
 ·rw [p9]
 ·rw [hg.2.1]; exact d5 _
 ·rw [hlast]
  exact aU (by rw [p9]; exact d5 _)
abbrev shO:AS:= .c (.o .u64)
abbrev iW (neg:Bool) (xs:List Int):Arg:= .a [.v (.bool neg), .s Y8 .u64 xs]
def Cn (xs:List Int):Prop:=xs=ws W64 (val W64 xs)
def C4 (xs ys:List Int):List Int:=ws W64 (val W64 xs*val W64 ys)
def g0a (a b:Bool) (xs ys:List Int):List Int:=ws W64 (m1k a b (val W64 xs) (val W64 ys))
def e2h (a b:Bool) (xs ys:List Int):Bool:=v1m a b (val W64 xs) (val W64 ys)
def m1j (xs:List Int) (d:Int):List Int:=ws W64 (val W64 xs/d.toNat)
def p0i (xs:List Int) (d:Int):Int:=((val W64 xs%d.toNat:Nat):Int)
def n6 (xs:List Int) (n:Int):List Int:=ws W64 (val W64 xs*2 ^n.toNat)
def j1e (xs:List Int) (n:Int):List Int:=ws W64 (val W64 xs/2 ^n.toNat)
def s4 (n:Int):List Int:=ws W64 n.toNat
def vZ (a:Bool) (xs:List Int):Bool:=a && decide (0 < val W64 xs)
theorem Cn.ws (m:Nat):Cn (Wd.ws W64 m):=by unfold Cn; rw [r9]
def qO:List Arg->Option (List Arg×List Prop)
 | [.c (.v (.int .u64 n))] =>some ([iW false (s4 n)],[0<=n∧n.toNat < W64])
 | _=>none
def d0i:List Arg->Option (List Arg×List Prop)
 | [.a [.v (.bool a), .s 39 .u64 xs], .a [.v (.bool b), .s 39 .u64 ys]] =>some ([iW (vZ (a !=b) (C4 xs ys)) (C4 xs ys)],[Cn xs,Cn ys,xs.length < 274877906944,ys.length < 274877906944])
 | _=>none
def q0b:List Arg->Option (List Arg×List Prop)
 | [.a [.v (.bool a), .s 39 .u64 xs], .a [.v (.bool b), .s 39 .u64 ys]] =>some ([iW (e2h a b xs ys) (g0a a b xs ys)],[Cn xs,Cn ys,xs.length < 549755813888,ys.length < 549755813888])
 | _=>none
def uC:List Arg->Option (List Arg×List Prop)
 | [.a [.v (.bool _), .s 39 .u64 xs], .c (.v (.int .u64 d))] =>some ([iW false (m1j xs d),uR (p0i xs d)],[Cn xs,xs.length < 549755813888,0 < d∧d.toNat < W64])
 | _=>none
def c0w:List Arg->Option (List Arg×List Prop)
 | [.a [.v (.bool a), .s 39 .u64 xs], .c (.v (.int .i64 n))] =>some ([iW (vZ a (n6 xs n)) (n6 xs n)],[Cn xs,xs.length < 549755813888,0<=n∧n.toNat < 549755813888])
 | _=>none
def vH:List Arg->Option (List Arg×List Prop)
 | [.a [.v (.bool a), .s 39 .u64 xs], .c (.v (.int .i64 n))] =>some ([iW (vZ a (j1e xs n)) (j1e xs n)],[Cn xs,xs.length < 549755813888,0<=n∧n.toNat < 64])
 | _=>none
def d0x:List Arg->Option (List Arg×List Prop)
 | [.a [.v (.bool a), .s 39 .u64 xs]] =>some ([iR (a2c a (val W64 xs))],[Cn xs])
 | _=>none
def cF:List Arg->Option (List Arg×List Prop)
 | [.c (.o .u64 zs off n), .c (.s 39 .u64 ys)] =>some ([.c (.v (.int .i64 (mM (part zs off n) ys)))],[off+n<=zs.length,Dg W64 zs,Dg W64 ys,n < 1099511627776,ys.length < 1099511627776])
 | _=>none
def lD:List Arg->Option (List Arg×List Prop)
 | [.c (.o .u64 zs off n), .c (.s 39 .u64 ys)] =>some ([wS (P2 (part zs off n) ys)],[off+n<=zs.length,Dg W64 zs,Dg W64 ys,val W64 ys<=val W64 (part zs off n),n < 1099511627776,ys.length<=n])
 | _=>none
theorem vQ:∀ az rs l,qO az=some (rs,l)->d9 l->Ev.Sem zO8 J0 89 az rs:=by
 intro az rs l h hl
 unfold qO at h
 split at h
 ·cases h
  rename_i n
  obtain⟨⟨h1,h2⟩,_⟩:=hl
  have:=m1i n.toNat h2
  rw [T5 h1] at this
  exact this
 ·cases h
theorem b0c:∀ az rs l,d0i az=some (rs,l)->d9 l->Ev.Sem zO8 J0 92 az rs:=by
 intro az rs l h hl
 unfold d0i at h
 split at h
 ·cases h
  rename_i a xs b ys
  obtain⟨h1,h2,h3,h4,_⟩:=hl
  unfold Cn at h1 h2
  have:=y1z a b (A:=val W64 xs) (B:=val W64 ys) (by unfold wl; rw [<- h1]; exact h3) (by unfold wl; rw [<- h2]; exact h4)
  unfold iN at this
  rw [<- h1,<- h2] at this
  unfold vZ C4
  rw [r9]
  exact this
 ·cases h
theorem z0d:∀ az rs l,q0b az=some (rs,l)->d9 l->Ev.Sem zO8 J0 97 az rs:=by
 intro az rs l h hl
 unfold q0b at h
 split at h
 ·cases h
  rename_i a xs b ys
  obtain⟨h1,h2,h3,h4,_⟩:=hl
  unfold Cn at h1 h2
  have:=c2n a b (A:=val W64 xs) (B:=val W64 ys) (by unfold wl; rw [<- h1]; exact h3) (by unfold wl; rw [<- h2]; exact h4)
  unfold iN at this
  rw [<- h1,<- h2] at this
  exact this
 ·cases h
theorem h0h:∀ az rs l,uC az=some (rs,l)->d9 l->Ev.Sem zO8 J0 145 az rs:=by
 intro az rs l h hl
 unfold uC at h
 split at h
 ·cases h
  rename_i a xs d
  obtain⟨h1,h3,⟨h4,h5⟩,_⟩:=hl
  unfold Cn at h1
  have:=f1f a (A:=val W64 xs) (d:=d.toNat) (by unfold wl; rw [<- h1]; exact h3) (by omega) h5
  unfold iN at this
  rw [<- h1,T5 (Int.le_of_lt h4)] at this
  exact this
 ·cases h
theorem m0w:∀ az rs l,c0w az=some (rs,l)->d9 l->Ev.Sem zO8 J0 90 az rs:=by
 intro az rs l h hl
 unfold c0w at h
 split at h
 ·cases h
  rename_i a xs n
  obtain⟨h1,h3,⟨h4,h5⟩,_⟩:=hl
  unfold Cn at h1
  have:=q1m a (A:=val W64 xs) (n:=n.toNat) (by unfold wl; rw [<- h1]; exact h3) h5
  unfold iN at this
  rw [<- h1,T5 h4] at this
  unfold vZ n6
  rw [r9]
  exact this
 ·cases h
theorem k0p:∀ az rs l,vH az=some (rs,l)->d9 l->Ev.Sem zO8 J0 197 az rs:=by
 intro az rs l h hl
 unfold vH at h
 split at h
 ·cases h
  rename_i a xs n
  obtain⟨h1,h3,⟨h4,h5⟩,_⟩:=hl
  unfold Cn at h1
  have:=c1o a (A:=val W64 xs) (n:=n.toNat) (by unfold wl; rw [<- h1]; exact h3) h5
  unfold iN at this
  rw [<- h1,T5 h4] at this
  unfold vZ j1e
  rw [r9]
  exact this
 ·cases h
theorem o0s:∀ az rs l,d0x az=some (rs,l)->d9 l->Ev.Sem zO8 J0 151 az rs:=by
 intro az rs l h hl
 unfold d0x at h
 split at h
 ·cases h
  rename_i a xs
  obtain⟨h1,_⟩:=hl
  unfold Cn at h1
  have:=q1p a (val W64 xs)
  unfold iN at this
  rw [<- h1] at this
  exact this
 ·cases h
theorem d0c {zs:List Int} (h:Dg W64 zs) (off n:Nat):Dg W64 (part zs off n):=(h.drop _).take _
theorem sB:∀ az rs l,cF az=some (rs,l)->d9 l->Ev.Sem zO8 J0 153 az rs:=by
 intro az rs l h hl
 unfold cF at h
 split at h
 ·cases h
  rename_i zs off n ys
  obtain⟨h1,h2,h3,h4,h5,_⟩:=hl
  exact g0p h1 rfl (d0c h2 _ _) h3 h4 h5
 ·cases h
theorem f0q:∀ az rs l,lD az=some (rs,l)->d9 l->Ev.Sem zO8 J0 154 az rs:=by
 intro az rs l h hl
 unfold lD at h
 split at h
 ·cases h
  rename_i zs off n ys
  obtain⟨h1,h2,h3,h4,h5,h6,_⟩:=hl
  exact x0m h1 rfl (d0c h2 _ _) h3 h4 h5 h6
 ·cases h
def v1a:qV:=m8 143 kT (m8 89 (z7 [shV] qO) (m8 92 (z7 [shI,shI] d0i)
 (m8 153 (z7 [shO,shW] cF) (m8 154 (z7 [shO,shW] lD) D1))))
theorem b1o:qZ zO8 J0 v1a:=d7 gQ (d7 (m5 _ vQ) (d7 (m5 _ b0c) (d7 (m5 _ sB) (d7 (m5 _ f0q) (n8 _ _)))))
def bW5:Base:=⟨zO8,J0,false,w0p,v1a,200,J2⟩
theorem s0v:BaseOk bW5:=⟨progOk,iD,b1o,m4⟩
abbrev XW5:Cx:=bW5.cx 10
def q1x:Code:=A3 zO8 196 0
abbrev t1p (off m n:Nat):List Value:=[.slice (some ⟨11,off,some 12⟩) m off,slV 13 n]
abbrev g1c (zs ys:List Int):Heap:=[(11, .row Y8 1 (.ints .u64 zs) 12),(13, .ints .u64 ys)]
def a2t (zs ys:List Int) (off m n:Nat) (q:Int):St:=⟨only 58 [(0, .slice (some ⟨11,off,some 12⟩) m off),(1,slV 13 n),(6, .int .u64 q)],g1c zs ys,15,[],[],0,none,[],15⟩
def d2d (zs ys:List Int) (r:Int):St:=⟨only 58 [(4, .int .u64 r)],g1c zs ys,15,[],[],0,none,[],15⟩
def n0v (ys:List Int) (q:Int):List Int:=(C4 ((s4 q).take (s4 q).length) ys).take (C4 ((s4 q).take (s4 q).length) ys).length
def j2u (zs ys:List Int) (off m:Nat) (q:Int):List Int:=P2 (part zs off m) (n0v ys q)
def v0g (zs ys:List Int) (off m:Nat) (q:Int):List Int:=zs.take off++((j2u zs ys off m q).drop 0).take (j2u zs ys off m q).length++zs.drop (off+(j2u zs ys off m q).length)
theorem p1n (zs ys:List Int) (off m n:Nat) (q:Int) (hl:d9 [0 < (P2 (part zs off m) (zO10 (C4 (zO10 (s4 q).length (s4 q)) ys).length (C4 (zO10 (s4 q).length (s4 q)) ys))).length∧(P2 (part zs off m) (zO10 (C4 (zO10 (s4 q).length (s4 q)) ys).length (C4 (zO10 (s4 q).length (s4 q)) ys))).length<=m∧off+(P2 (part zs off m) (zO10 (C4 (zO10 (s4 q).length (s4 q)) ys).length (C4 (zO10 (s4 q).length (s4 q)) ys))).length<=zs.length∧0+(P2 (part zs off m) (zO10 (C4 (zO10 (s4 q).length (s4 q)) ys).length (C4 (zO10 (s4 q).length (s4 q)) ys))).length<=(P2 (part zs off m) (zO10 (C4 (zO10 (s4 q).length (s4 q)) ys).length (C4 (zO10 (s4 q).length (s4 q)) ys))).length,off+m<=zs.length,(C4 (zO10 (s4 q).length (s4 q)) ys).length<=(C4 (zO10 (s4 q).length (s4 q)) ys).length,off+m<=zs.length,Dg 18446744073709551616 zs,Dg 18446744073709551616 (zO10 (C4 (zO10 (s4 q).length (s4 q)) ys).length (C4 (zO10 (s4 q).length (s4 q)) ys)),val 18446744073709551616 (zO10 (C4 (zO10 (s4 q).length (s4 q)) ys).length (C4 (zO10 (s4 q).length (s4 q)) ys))<=val 18446744073709551616 (part zs off m),m < 1099511627776,(zO10 (C4 (zO10 (s4 q).length (s4 q)) ys).length (C4 (zO10 (s4 q).length (s4 q)) ys)).length<=m,decide (zO2 0<=mM (part zs off (n7 (zO10 m (List.drop off zs))).length) (zO10 (C4 (zO10 (s4 q).length (s4 q)) ys).length (C4 (zO10 (s4 q).length (s4 q)) ys)))=true,off+(n7 (zO10 m (List.drop off zs))).length<=zs.length,(C4 (zO10 (s4 q).length (s4 q)) ys).length<=(C4 (zO10 (s4 q).length (s4 q)) ys).length,off+(n7 (zO10 m (List.drop off zs))).length<=zs.length,Dg 18446744073709551616 zs,Dg 18446744073709551616 (zO10 (C4 (zO10 (s4 q).length (s4 q)) ys).length (C4 (zO10 (s4 q).length (s4 q)) ys)),(n7 (zO10 m (List.drop off zs))).length < 1099511627776,(zO10 (C4 (zO10 (s4 q).length (s4 q)) ys).length (C4 (zO10 (s4 q).length (s4 q)) ys)).length < 1099511627776,off=off∧off+m<=zs.length∧zs.length < 1099511627776,(s4 q).length<=(s4 q).length,n=ys.length,Cn (zO10 (s4 q).length (s4 q)),Cn ys,(zO10 (s4 q).length (s4 q)).length < 274877906944,ys.length < 274877906944,zO2 0<=q∧q.toNat < 18446744073709551616]):r7 XW5 q1x (a2t zs ys off m n q) .ret (d2d (v0g zs ys off m q) ys q):=
 d6 (a6 s0v 10).1 progOk.mixed [] 200 [true] [] (by kernel_rfl) hl (by kernel_rfl) (by kernel_rfl)
theorem m1p (zs ys:List Int) (off m n:Nat) (q:Int) (hl:d9 [decide (zO2 0<=mM (part zs off (n7 (zO10 m (List.drop off zs))).length) (zO10 (C4 (zO10 (s4 q).length (s4 q)) ys).length (C4 (zO10 (s4 q).length (s4 q)) ys)))=false,off+(n7 (zO10 m (List.drop off zs))).length<=zs.length,(C4 (zO10 (s4 q).length (s4 q)) ys).length<=(C4 (zO10 (s4 q).length (s4 q)) ys).length,off+(n7 (zO10 m (List.drop off zs))).length<=zs.length,Dg 18446744073709551616 zs,Dg 18446744073709551616 (zO10 (C4 (zO10 (s4 q).length (s4 q)) ys).length (C4 (zO10 (s4 q).length (s4 q)) ys)),(n7 (zO10 m (List.drop off zs))).length < 1099511627776,(zO10 (C4 (zO10 (s4 q).length (s4 q)) ys).length (C4 (zO10 (s4 q).length (s4 q)) ys)).length < 1099511627776,off=off∧off+m<=zs.length∧zs.length < 1099511627776,(s4 q).length<=(s4 q).length,n=ys.length,Cn (zO10 (s4 q).length (s4 q)),Cn ys,(zO10 (s4 q).length (s4 q)).length < 274877906944,ys.length < 274877906944,zO2 0<=q∧q.toNat < 18446744073709551616]):r7 XW5 q1x (a2t zs ys off m n q) .normal (a2t zs ys off m n (uI.wrap (q-1))):=
 d6 (a6 s0v 10).1 progOk.mixed [] 200 [false] [] (by kernel_rfl) hl (by kernel_rfl) (by kernel_rfl)
theorem z0w (zs ys zs':List Int) (off m n:Nat) (r:Int):s0u XW5 [N5 .ret (fun _=>d2d zs' ys r)] 200 196 (t1p off m n) (g1c zs ys) 15 [true] =some { v:=zO3 uI r,h:=[(11,AObj.row Y8 1 (Row.ints uI zs') 12),(13,AObj.ints uI ys)],n:=15,obs:=[b9 XW5 q1x (t7 XW5 200 196 (t1p off m n) (g1c zs ys) 15 [true]) .ret (d2d zs' ys r),(zO2 0<=zs.getD (r8 off n) (zO2 0)∧zs.getD (r8 off n) (zO2 0) < ys.getD (r8 0 (iI.wrap (zO2 n-zO2 1)).toNat) (zO2 0))∧(zO2 0<=zs.getD (r8 off (iI.wrap (zO2 n-zO2 1)).toNat) (zO2 0)∧zs.getD (r8 off (iI.wrap (zO2 n-zO2 1)).toNat) (zO2 0) < zO2 18446744073709551616)∧ys.getD (r8 0 (iI.wrap (zO2 n-zO2 1)).toNat) (zO2 0) < zO2 18446744073709551616,r8 0 (iI.wrap (zO2 n-zO2 1)).toNat < ys.length,(zO2 0<=iI.wrap (zO2 n-zO2 1)∧iI.wrap (zO2 n-zO2 1) < zO2 n)∧0 < ys.length,r8 off (iI.wrap (zO2 n-zO2 1)).toNat < zs.length,(zO2 0<=iI.wrap (zO2 n-zO2 1)∧iI.wrap (zO2 n-zO2 1) < zO2 m)∧0 < zs.length,r8 off n < zs.length,(zO2 0<=zO2 n∧zO2 n < zO2 m)∧0 < zs.length,decide (zs.getD (r8 off n) (zO2 0) < ys.getD (r8 0 (iI.wrap (zO2 n-zO2 1)).toNat) (zO2 0))=true,r8 0 (iI.wrap (zO2 n-zO2 1)).toNat < ys.length,(zO2 0<=iI.wrap (zO2 n-zO2 1)∧iI.wrap (zO2 n-zO2 1) < zO2 n)∧0 < ys.length,r8 off n < zs.length,(zO2 0<=zO2 n∧zO2 n < zO2 m)∧0 < zs.length],ds:=[]} :=by kernel_rfl
theorem x1f (zs ys zs':List Int) (off m n:Nat) (r:Int):s0u XW5 [N5 .ret (fun _=>d2d zs' ys r)] 200 196 (t1p off m n) (g1c zs ys) 15 [false] =some { v:=zO3 uI r,h:=[(11,AObj.row Y8 1 (Row.ints uI zs') 12),(13,AObj.ints uI ys)],n:=15,obs:=[b9 XW5 q1x (t7 XW5 200 196 (t1p off m n) (g1c zs ys) 15 [false]) .ret (d2d zs' ys r),decide (zs.getD (r8 off n) (zO2 0) < ys.getD (r8 0 (iI.wrap (zO2 n-zO2 1)).toNat) (zO2 0))=false,r8 0 (iI.wrap (zO2 n-zO2 1)).toNat < ys.length,(zO2 0<=iI.wrap (zO2 n-zO2 1)∧iI.wrap (zO2 n-zO2 1) < zO2 n)∧0 < ys.length,r8 off n < zs.length,(zO2 0<=zO2 n∧zO2 n < zO2 m)∧0 < zs.length],ds:=[]} :=by kernel_rfl
theorem Cn.dg {xs:List Int} (h:Cn xs):Dg W64 xs:=by
 unfold Cn at h
 rw [h]
 exact f0b _
theorem b1t (ys:List Int) (k:Nat):n0v ys (k:Int)=ws W64 (k*val W64 ys):=by
 unfold n0v s4 C4
 rw [y3,y3,l4,r9]
theorem a1f {zs:List Int} (hz:Dg W64 zs) (off m:Nat):part zs off (n7 (zO10 m (List.drop off zs))).length=ws W64 (val W64 (part zs off m)):=by
 have h:=G0 A8 (d0c hz off m)
 have h1:=(I0 h).2.2
 have h2:(n7 (part zs off m)).length<=m:=u7 (B5 _) (by unfold part; rw [D5]; exact Nat.min_le_left _ _)
 unfold part at h1 h2 ⊢
 rw [List.take_take,D4 h2] at h1
 exact h1
section
variable {zs ys:List Int} {off n:Nat} (ho:off+(n+1)<=zs.length) (hzl:zs.length < 1099511627776) (hz:Dg W64 zs) (hy:Cn ys) (hn:n=ys.length) (hnl:ys.length < 274877906944) (hD:0 < val W64 ys)
 (hN:val W64 (part zs off (n+1)) < val W64 ys*W64)
include ho hzl hz hy hn hnl hD hN
theorem t0n {k:Nat} (hk:val W64 (part zs off (n+1))/val W64 ys<=k) (hkW:k < W64):
  b9 XW5 q1x (a2t zs ys off (n+1) n k) .ret (d2d (v0g zs ys off (n+1) ((val W64 (part zs off (n+1))/val W64 ys:Nat):Int)) ys ((val W64 (part zs off (n+1))/val W64 ys:Nat):Int)):=by
 have _:=hN
 have hDn:=O3 i7 hy.dg
 rw [<- hn] at hDn
 generalize hNe:val W64 (part zs off (n+1))=N at*
 refine D2 (fun k:Nat=>a2t zs ys off (n+1) n k) id (fun k=>N/val W64 ys<=k∧k < W64) (by intro e; cases e) (fun k hk=> ?_) k ⟨hk,hkW⟩
 obtain⟨h1,h2⟩:=hk
 have hP:k*val W64 ys < W64 ^(n+1):=by
  rw [v6,p4]
  exact Nat.mul_lt_mul'' hDn h2
 have eP:=b1t ys k
 have hPl:(n0v ys k).length<=n+1:=by rw [eP]; exact wl_le.2 hP
 have hPl2:(n0v ys k).length < 1099511627776:=by omega
 have hPd:Dg W64 (n0v ys k):=by rw [eP]; exact f0b _
 have hPv:val W64 (n0v ys k)=k*val W64 ys:=by rw [eP,r9]
 have ht:=a1f hz off (n+1)
 rw [hNe] at ht
 have htl:(n7 (zO10 (n+1) (List.drop off zs))).length<=n+1:=u7 (B5 _) (by rw [D5]; exact Nat.min_le_left _ _)
 have hc:∀ b,decide (k*val W64 ys<=N)=b->decide (zO2 0<=mM (part zs off (n7 (zO10 (n+1) (List.drop off zs))).length) (n0v ys k))=b:=by
  intro b hb
  rw [ht,eP,<- hb]
  exact zzA167.2 (qF N (k*val W64 ys))
 have hcq:Cn (zO10 (s4 (k:Int)).length (s4 (k:Int))):=by
  rw [y3]
  exact Cn.ws _
 have hql:(zO10 (s4 (k:Int)).length (s4 (k:Int))).length < 274877906944:=by
  rw [y3]
  have:wl k<=1:=wl_le.2 (by rw [Nat.pow_one]; exact h2)
  show wl ((k:Int).toNat) < _
  rw [l4]
  omega
 have hk0:zO2 0<=(k:Int)∧((k:Int)).toNat < 18446744073709551616:=⟨by simp,by rw [l4]; exact h2⟩
 by_cases hle:k*val W64 ys<=N
 ·right
  have hke:k=N/val W64 ys:=tC ((oS hD).2 hle) h1
  rw [<- hke]
  have hlen:(P2 (part zs off (n+1)) (n0v ys k)).length=n+1:=by
   unfold P2
   rw [p9,jT ho]
  refine p1n zs ys off (n+1) n k ⟨?_,ho,d5 _,ho,hz,hPd,?_,by omega,hPl,hc _ (f9 hle),by omega,d5 _,by omega,hz,hPd,by omega,hPl2,⟨rfl,ho,hzl⟩,d5 _,hn,hcq,hy,hql,hnl,hk0,a7⟩
  ·show 0 < (P2 (part zs off (n+1)) (n0v ys k)).length∧(P2 (part zs off (n+1)) (n0v ys k)).length<=n+1∧off+(P2 (part zs off (n+1)) (n0v ys k)).length<=zs.length∧0+(P2 (part zs off (n+1)) (n0v ys k)).length<=(P2 (part zs off (n+1)) (n0v ys k)).length
   rw [hlen]
   omega
  ·show val W64 (n0v ys k)<=val W64 (part zs off (n+1))
   rw [hPv,hNe]
   exact hle
 ·left
  have hk1:N/val W64 ys < k:=by
   rcases E0 (N/val W64 ys) k with h | h
   ·exact h
   ·exact absurd ((oS hD).1 h) hle
  have hk2:0 < k:=A5 (o8 _) hk1
  refine⟨k-1,⟨Nat.le_sub_one_of_lt hk1,A5 (Nat.sub_le _ _) h2⟩,Nat.sub_lt hk2 Nat.one_pos,?_⟩
  have hw:uI.wrap ((k:Int)-1)=((k-1:Nat):Int):=by
   have h2':k < 18446744073709551616:=h2
   rw [O4]
   clear h1 hk1
   omega
  have:=m1p zs ys off (n+1) n k ⟨hc _ (d4 hle),by omega,d5 _,by omega,hz,hPd,by omega,hPl2,⟨rfl,ho,hzl⟩,d5 _,hn,hcq,hy,hql,hnl,hk0,a7⟩
  rw [hw] at this
  exact this
theorem c1y:v0g zs ys off (n+1) ((val W64 (part zs off (n+1))/val W64 ys:Nat):Int)=zs.take off++dl W64 (n+1) (val W64 (part zs off (n+1))%val W64 ys)++zs.drop (off+(n+1)):=by
 have _:=hzl
 have _:=hz
 have _:=hy
 have _:=hn
 have _:=hnl
 have _:=hD
 have _:=hN
 have hd:j2u zs ys off (n+1) ((val W64 (part zs off (n+1))/val W64 ys:Nat):Int)=dl W64 (n+1) (val W64 (part zs off (n+1))%val W64 ys):=by
  unfold j2u P2
  rw [b1t,r9,jT ho]
  congr 1
  rw [p4]
  have:=eJ (val W64 (part zs off (n+1))) (val W64 ys)
  omega
 unfold v0g
 rw [hd,p9,sU]
 congr 2
 exact aU (by rw [p9]; exact d5 _)
end
def z0q (zs ys:List Int) (off m:Nat):Int:=((val W64 (part zs off m)/val W64 ys:Nat):Int)
def i0g (zs ys:List Int) (off m:Nat):List Int:=zs.take off++dl W64 m (val W64 (part zs off m)%val W64 ys)++zs.drop (off+m)
theorem iK {zs:List Int} (ys:List Int) {off m:Nat} (h:off+m<=zs.length):(i0g zs ys off m).length=zs.length:=by
 unfold i0g
 simp only [F6,D5,K3,p9]
 omega
theorem w1u {N D L H l y B W:Nat} (_:0 < B) (hN:N=L+B*(l+W*H)) (hL:L < B) (hD:B*y<=D) (hy:0 < y) (_:0 < D):N/D<=(H*W+l)/y:=by
 rw [oS hy]
 have h1:N/D*D<=N:=Nat.div_mul_le_self N D
 have h2:N/D*(B*y)<=N/D*D:=aQ _ hD
 have h3:B*(N/D*y)<=N:=by
  have:B*(N/D*y)=N/D*(B*y):=by rw [<- m7,p4 B,m7]
  omega
 have h4:B*(N/D*y) < B*(l+W*H+1):=by
  rw [aY B (l+W*H) 1]
  omega
 have h5:=Nat.lt_of_mul_lt_mul_left h4
 rw [p4 H W]
 omega
section
variable {zs ys:List Int} {off n:Nat} (ho:off+(n+1)<=zs.length) (hzl:zs.length < 1099511627776) (hz:Dg W64 zs) (hy:Cn ys) (hn:n=ys.length) (hnl:ys.length < 274877906944) (hD:0 < val W64 ys)
 (hN:val W64 (part zs off (n+1)) < val W64 ys*W64)
include ho hzl hz hy hn hnl hD hN
theorem d1a:0 < n:=by
 have _:=ho
 have _:=hzl
 have _:=hz
 rcases R2 n with h | h
 ·have:ys=[] :=nY (by omega)
  subst this
  simp [val] at hD
 ·exact h
theorem c2p:val W64 (part zs off (n+1))/val W64 ys < W64:=by
 have _:=ho
 have _:=hzl
 have _:=hz
 have _:=hy
 have _:=hn
 have _:=hnl
 exact (F4 hD).2 (by rw [p4]; exact hN)
theorem b2d (hlt:zs.getD (off+n) 0 < ys.getD (n-1) 0):∃ q:Nat,d2s (zs.getD (off+n) 0) (zs.getD (off+(n-1)) 0) (ys.getD (n-1) 0)=(q:Int)∧val W64 (part zs off (n+1))/val W64 ys<=q∧q < W64:=by
 have hp:=d1a ho hzl hz hy hn hnl hD hN
 have g1:=hz.get i7 (off+n)
 have g2:=hz.get i7 (off+(n-1))
 have g3:=hy.dg.get i7 (n-1)
 refine⟨_,rfl,?_,?_⟩
 ·have hl:=jT ho
  have e1:=x3 W64 (part zs off (n+1)) (n-1) (by omega)
  rw [B6 (l:=part zs off (n+1)) (m:=n-1) (by omega),zE hp,B6 (l:=part zs off (n+1)) (m:=n) (by omega),sL (l:=part zs off (n+1)) (i:=n+1) (by omega),bB (by omega),bB (by omega)] at e1
  simp only [val,wD,I2] at e1
  have e2:=x3 W64 ys (n-1) (by omega)
  rw [B6 (l:=ys) (m:=n-1) (by omega),zE hp,sL (l:=ys) (i:=n) (by omega)] at e2
  simp only [val,wD,I2] at e2
  have e3:=O3 i7 ((d0c hz off (n+1)).take (n-1))
  rw [D5,D4 (by omega)] at e3
  exact w1u (x7 i7) e1 e3 (by rw [e2]; exact Nat.le_add_left _ _) (by omega) hD
 ·have q1:(zs.getD (off+n) 0).toNat+1<=(ys.getD (n-1) 0).toNat:=by omega
  have q2:(zs.getD (off+(n-1)) 0).toNat < 18446744073709551616:=by
   have:((W64:Nat):Int)=18446744073709551616:=rfl
   omega
  rw [F4 (by omega)]
  have q3:=s5 18446744073709551616 q1
  show _ < 18446744073709551616*_
  rw [p4 18446744073709551616]
  omega
theorem a2m:∃ (b:Bool) (r:CR),s0u XW5 [N5 .ret (fun _=>d2d (i0g zs ys off (n+1)) ys (z0q zs ys off (n+1)))] 200 196 (t1p off (n+1) n) (g1c zs ys) 15 [b] =some r∧d9 r.obs∧r.v= .int .u64 (z0q zs ys off (n+1))∧r.h=g1c (i0g zs ys off (n+1)) ys∧r.n=15:=by
 have hp:=d1a ho hzl hz hy hn hnl hD hN
 have hw:iI.wrap (zO2 n-zO2 1)=((n-1:Nat):Int):=by
  have h1:=o9 (n:=n-1) (by omega)
  rw [<- h1]
  congr 1
  simp only [w9]
  omega
 have ea:r8 off n=off+n:=x9 _ _
 have eb:r8 off (iI.wrap (zO2 n-zO2 1)).toNat=off+(n-1):=by rw [hw,x9,l4]
 have ec:r8 0 (iI.wrap (zO2 n-zO2 1)).toNat=n-1:=by rw [hw,x9,l4,aW]
 have g1:=hz.get i7 (off+n)
 have g2:=hz.get i7 (off+(n-1))
 have g3:=hy.dg.get i7 (n-1)
 have o1:r8 off n < zs.length:=by rw [ea]; omega
 have o2:(zO2 0<=zO2 n∧zO2 n < zO2 (n+1))∧0 < zs.length:=⟨⟨zzA187.2 (o8 _),zzA188.2 (by omega)⟩,by omega⟩
 have o3:r8 0 (iI.wrap (zO2 n-zO2 1)).toNat < ys.length:=by rw [ec]; omega
 have o4:(zO2 0<=iI.wrap (zO2 n-zO2 1)∧iI.wrap (zO2 n-zO2 1) < zO2 n)∧0 < ys.length:=by rw [hw]; exact⟨⟨zzA187.2 (o8 _),zzA188.2 (by omega)⟩,by omega⟩
 have o5:r8 off (iI.wrap (zO2 n-zO2 1)).toNat < zs.length:=by rw [eb]; omega
 have o6:(zO2 0<=iI.wrap (zO2 n-zO2 1)∧iI.wrap (zO2 n-zO2 1) < zO2 (n+1))∧0 < zs.length:=by rw [hw]; exact⟨⟨zzA187.2 (o8 _),zzA188.2 (by omega)⟩,by omega⟩
 have into1:∀ x s',b9 XW5 q1x (a2t zs ys off (n+1) n (d2s (zs.getD (r8 off n) 0) (zs.getD (r8 off (iI.wrap (zO2 n-zO2 1)).toNat) 0) (ys.getD (r8 0 (iI.wrap (zO2 n-zO2 1)).toNat) 0))) x s'->b9 XW5 q1x (t7 XW5 200 196 (t1p off (n+1) n) (g1c zs ys) 15 [true]) x s':=
  fun x s' h=>l9 h [] (by kernel_rfl) (by kernel_rfl) (by kernel_rfl)
 have into2:∀ x s',b9 XW5 q1x (a2t zs ys off (n+1) n 18446744073709551615) x s'->b9 XW5 q1x (t7 XW5 200 196 (t1p off (n+1) n) (g1c zs ys) 15 [false]) x s':=
  fun x s' h=>l9 h [] (by kernel_rfl) (by kernel_rfl) (by kernel_rfl)
 have eL:=c1y ho hzl hz hy hn hnl hD hN
 by_cases hlt:zs.getD (off+n) 0 < ys.getD (n-1) 0
 ·obtain⟨q,e1,e2,e3⟩:=b2d ho hzl hz hy hn hnl hD hN hlt
  refine⟨true,_,z0w zs ys (i0g zs ys off (n+1)) off (n+1) n (z0q zs ys off (n+1)),⟨into1 _ _ ?_,?_,o3,o4,o5,o6,o1,o2,?_,o3,o4,o1,o2,a7⟩,rfl,rfl,rfl⟩
  ·rw [ea,eb,ec,e1]
   have:=t0n ho hzl hz hy hn hnl hD hN e2 e3
   rw [eL] at this
   exact this
  ·rw [ea,eb,ec]
   exact⟨⟨g1.1,hlt⟩,⟨g2.1,g2.2⟩,g3.2⟩
  ·rw [ea,ec]
   exact f9 hlt
 ·refine⟨false,_,x1f zs ys (i0g zs ys off (n+1)) off (n+1) n (z0q zs ys off (n+1)),⟨into2 _ _ ?_,?_,o3,o4,o1,o2,a7⟩,rfl,rfl,rfl⟩
  ·have hlim:=c2p ho hzl hz hy hn hnl hD hN
   have:=t0n ho hzl hz hy hn hnl hD hN (k:=18446744073709551615) (Nat.le_of_lt_succ hlim) (by decide)
   rw [eL] at this
   exact this
  ·rw [ea,ec]
   exact d4 hlt
end
theorem o0g {P:Program} {B:Nat} {M:Nat->Prop} {ρ:Num} {H:Heap} {w w':World} (h:Sim P B M ρ H w) {n b:Nat} {o0 o:AObj} (h0:H.get n=some o0) (hr:o0.rw=true) (hn:ρ n=some b)
  (ho:ORep B M ρ w' (some b) o) (hk:∀ k,k < w.heap.size->k≠b->w'.heap[k]? =w.heap[k]?):Sim P B M ρ (H.set n o) w':=by
 refine⟨h.glob,fun i o' hi=> ?_,fun i j oi oj hi hri hj hij hne=> ?_⟩
 ·rw [m0 H n o o0 h0] at hi
  split at hi
  ·rename_i e; subst e; cases hi; rw [hn]; exact ho
  ·rename_i hne
   have hold:=h.obj i o' hi
   have hd:∀ b',ρ i=some b'->w'.heap[b']? =w.heap[b']? :=fun b' hb'=>by
    refine hk b' ?_ fun e=> ?_
    ·rw [hb'] at hold
     exact hold.lt
    ·subst e
     exact h.inj n i o0 o' h0 hr hi hne (by rw [hn]; simp) (hn.trans hb'.symm)
   cases o' with
   | row e sz r k=>
    rcases hold with hold | ⟨b',cap,cur,h1,h2,h3,h4⟩
    ·exact .inl hold
    ·exact .inr ⟨b',cap,cur,h1,h2,h3.to (hd b' h1),h4⟩
   | cells cs t=>obtain⟨b',h1,h2,h3⟩:=hold; exact⟨b',h1,(hd b' h1).trans h2,h3⟩
   | iter s pos=>obtain⟨b',h1,h2,h3⟩:=hold; exact⟨b',h1,(hd b' h1).trans h2,h3⟩
   | ints k xs=>
    rcases hold with hold | ⟨b',cs,t,fr,h1,h2,h3⟩
    ·exact .inl hold
    ·exact .inr ⟨b',cs,t,fr,h1,(hd b' h1).trans h2,h3⟩
   | loop st pn ts ps asg bd=>obtain⟨b',r,h1,h2,h3⟩:=hold; exact⟨b',r,h1,(hd b' h1).trans h2,h3⟩
   | defr=>obtain⟨b',h1,h2,h3⟩:=hold; exact⟨b',h1,(hd b' h1).trans h2,h3⟩
   | dead=>obtain⟨b',q,h1,h2,h3⟩:=hold; exact⟨b',q,h1,(hd b' h1).trans h2,h3⟩
   | ro xs=>
    rcases hold with hold | ⟨b',cs,t,fr,h1,h2,h3⟩
    ·exact .inl hold
    ·exact .inr ⟨b',cs,t,fr,h1,(hd b' h1).trans h2,h3⟩
   | map es=>obtain⟨b',mes,ck,h1,h2,h3⟩:=hold; exact⟨b',mes,ck,h1,(hd b' h1).trans h2,h3⟩
   | fam f n sz o=>
    rcases hold with hold | ⟨b',cs,t,fr,h1,h2,h3⟩
    ·exact .inl hold
    ·exact .inr ⟨b',cs,t,fr,h1,(hd b' h1).trans h2,h3⟩
 ·rw [m0 H n o o0 h0] at hi hj
  split at hi <;> split at hj
  ·rename_i e1 e2; exact absurd (e1.symm.trans e2) hij
  ·rename_i e1 e2; subst e1; exact h.inj n j o0 oj h0 hr hj hij hne
  ·rename_i e1 e2; subst e2; exact h.inj i n oi o0 hi hri h0 hij hne
  ·exact h.inj i j oi oj hi hri hj hij hne
theorem y0f:Enters zO8 196:=G5 (a6 s0v 10).2 (z0w [] [] [] 0 0 0 0)
theorem j1f {zs ys:List Int} {off n b g cap c2:Nat} {cur gs:Array Value} {t:TypeId} {fr:Nat×Nat} {w:World} (hI:J0.I w)
  (ho:off+(n+1)<=zs.length) (hzl:zs.length < 1099511627776) (hz:Dg W64 zs) (hy:Cn ys) (hn:n=ys.length) (hnl:ys.length < 274877906944) (hD:0 < val W64 ys)
  (hN:val W64 (part zs off (n+1)) < val W64 ys*W64)
  (hb:RowAt w b cur Y8) (hcap:cap<=maxLen) (hcs:cur.size=cap) (hln:zs.length<=cap) (htk:cur.toList.take zs.length=zs.map (zO3 .u64))
  (hg:w.heap[g]? =some (.cells gs t fr)) (hgs:∀ i,i < ys.length->gs[i]? =some (.int .u64 (ys.getD i 0))) (hne:b≠g) (hbg:zO8.globals.size<=b):
  Calls zO8 196 ⟨[.slice (some ⟨b,off,none⟩) (n+1) (cap-off), .slice (some ⟨g,0,none⟩) n (c2-0)]⟩ w fun e w'=>
   e= .returned (.int .u64 (z0q zs ys off (n+1)))∧Keeps w.heap.size (fun k=>k=b) w w'∧∃ cur',RowAt w' b cur' Y8∧cur'.size=cap∧cur'.toList.take zs.length=(i0g zs ys off (n+1)).map (zO3 .u64):=by
 have hp:Par zO8 w.heap.size (fun k=>k=b):=⟨hI.1,fun k hk e=>by omega⟩
 have hG:zO8.globals.size=11:=by kernel_rfl
 obtain⟨hX,_⟩:=a6 s0v 10
 have hS:∀ ρ':Num,Agree 15 (fun i=>if i=11 then some b else if i=12 then some cap else if i=13 then some g else if i=14 then some c2 else some i) ρ'->Sim zO8 w.heap.size (fun k=>k=b) ρ' (g1c zs ys) w∧([.slice (some ⟨b,off,none⟩) (n+1) (cap-off), .slice (some ⟨g,0,none⟩) n (c2-0)] :List Value)=rvL ρ' (t1p off (n+1) n):=by
  intro ρ' ha
  have h11:ρ' 11=some b:=by rw [ha 11 (by omega)]; simp
  have h12:ρ' 12=some cap:=by rw [ha 12 (by omega)]; simp
  have h13:ρ' 13=some g:=by rw [ha 13 (by omega)]; simp
  have h14:ρ' 14=some c2:=by rw [ha 14 (by omega)]; simp
  refine⟨⟨fun k hk=>by
   rw [ha k (by omega)]
   show (if k=11 then some b else if k=12 then some cap else if k=13 then some g else if k=14 then some c2 else some k)=some k
   rw [a8 (by omega),a8 (by omega),a8 (by omega),a8 (by omega)],fun i o hi=> ?_,fun i j o o' hi hr hj hij hnn=> ?_⟩,?_⟩
  ·rw [b6] at hi
   split at hi
   ·rename_i e
    subst e
    cases hi
    rw [h11]
    refine .inr ⟨b,cap,cur,rfl,h12,hb, .inr rfl,hcap,by omega,?_,?_⟩
    ·simp only [Row.list,z6,y8]; exact hln
    ·simp only [Row.list,z6]; rw [U1]; exact htk
   ·rw [b6] at hi
    split at hi
    ·rename_i e
     subst e
     cases hi
     rw [h13]
     exact .inr ⟨g,gs,t,fr,rfl,hg,hgs⟩
    ·simp [Heap.get] at hi
  ·rw [b6] at hi hj
   split at hi
   ·rename_i e
    subst e
    split at hj
    ·rename_i e; exact absurd e hij
    ·rw [b6] at hj
     split at hj
     ·rename_i e
      subst e
      rw [h11,h13]
      intro e
      exact hne (J8 e)
     ·simp [Heap.get] at hj
   ·rw [b6] at hi
    split at hi
    ·cases hi; cases hr
    ·simp [Heap.get] at hi
  ·simp only [rvL,rv,rSl,h11,h12,h13,h14,W4]
 obtain⟨bit,r,hev,hobs,hv,hh,hrn⟩:=a2m ho hzl hz hy hn hnl hD hN
 refine (L4 hX progOk.mixed hev hobs hp (d5 _) hI hS).2.mono fun e w' ⟨ρ1,v,ha,he,hk,hfin⟩=> ?_
 obtain⟨hv1,hS1⟩:=hfin ρ1 (Agree.refl _ _)
 have h11:ρ1 11=some b:=by rw [ha 11 (by omega)]; simp
 have h12:ρ1 12=some cap:=by rw [ha 12 (by omega)]; simp
 refine⟨by rw [he,hv1,hv]; rfl,hk,?_⟩
 rw [hh] at hS1
 rcases hS1.obj 11 _ rfl with ⟨q1,_⟩ | ⟨b',cap',cur',q1,q2,q3,_,_,q6,q7,q8⟩
 ·rw [h11] at q1; cases q1
 ·rw [h11] at q1
  rw [h12] at q2
  cases q1
  cases q2
  simp only [Row.list,z6] at q8
  rw [U1,iK ys ho] at q8
  exact⟨cur',q3,by omega,q8⟩
theorem p1b {H:Heap} {k:IntKind} {x:Value} {xs:List Int} {l:List Prop} {id:Nat} (h:t1o H k x=some (xs,l)) (hx:∃ kk n c,x= .slice (some ⟨id,0,some kk⟩) n c):∃ o,H.get id=some o:=by
 unfold t1o at h
 split at h
 ·obtain⟨_,_,_,e⟩:=hx; cases e
 ·obtain⟨_,_,_,e⟩:=hx
  cases e
  cases hq:H.get id with
  | none=>rw [hq] at h; cases h
  | some o=>exact⟨o,rfl⟩
 ·obtain⟨_,_,_,e⟩:=hx; cases e
 ·cases h
def k2w (zs ys:List Int) (off m:Nat):Prop:=val W64 (part zs off m) < val W64 ys*W64
def vP (args:List Value) (H:Heap) (n:Nat) (ds:List Bool):Option CR:=
 match args with
 | [.slice (some ⟨id,off,some kk⟩) m c, .slice (some ⟨id2,0,some kk2⟩) k c2] =>match H.get id with
  | some (.row e sz (.ints .u64 zs) kk')=>match zO0 kk kk' && zO0 sz 1 && zO0 e Y8 && !Nat.beq id id2 with
   | true=>match t1o H .u64 (.slice (some ⟨id2,0,some kk2⟩) k c2) with
    | some (ys,l)=>some ⟨.int .u64 (z0q zs ys off m),H.set id (.row Y8 1 (.ints .u64 (i0g zs ys off m)) kk),n,
     [off=c∧m=ys.length+1,off+m<=zs.length∧zs.length < 1099511627776,Dg W64 zs,Cn ys,ys.length < 274877906944,0 < val W64 ys,k2w zs ys off m] ++l,ds⟩
    | none=>none
   | false=>none
  | _=>none
 | _=>none
theorem k0s:fP zO8 J0 196 vP:=by
 intro args H n ds r h hl
 unfold vP at h
 split at h
 case h_2=>cases h
 rename_i id off kk m c id2 kk2 k c2
 split at h
 case h_2=>cases h
 rename_i e sz zs kk' hget
 split at h
 case h_2=>cases h
 rename_i hc
 simp only [u6,y4,q0i] at hc
 obtain⟨⟨⟨rfl,rfl⟩,rfl⟩,hid0⟩:=hc
 have hid:id≠id2:=fun e=>by subst e; rw [c0g] at hid0; cases hid0
 split at h
 case h_2=>cases h
 rename_i ys l hsl
 cases h
 obtain⟨hl1,hl2⟩:=(m3 _ _).1 hl
 obtain⟨⟨rfl,rfl⟩,⟨ho,hzl⟩,hz,hy,hnl,hD,hN,_⟩:=hl1
 refine⟨d5 _,y0f,fun B M ρ w vs hp hB hI hS=> ?_⟩
 have key:∀ ρ',Agree n ρ ρ'->∃ b g cap c2' cur gs t fr,ρ' id=some b∧ρ' kk=some cap∧RowAt w b cur Y8∧(B<=b∨M b)∧cap<=maxLen∧cur.size=cap∧zs.length<=cap∧cur.toList.take zs.length=zs.map (zO3 .u64)∧
   w.heap[g]? =some (.cells gs t fr)∧(∀ i,i < ys.length->gs[i]? =some (.int .u64 (ys.getD i 0)))∧b≠g∧vs=[.slice (some ⟨b,off,none⟩) (ys.length+1) (cap-off), .slice (some ⟨g,0,none⟩) ys.length (c2'-0)] :=by
  intro ρ' ha
  obtain⟨hS1,hvs⟩:=hS ρ' ha
  rcases hS1.obj id _ hget with ⟨_,g2⟩ | ⟨b,cap,cur,g1,g2,g3,g4,g5,g6,g7,g8⟩
  ·have hx:zs=[] :=by simpa [Row.list] using g2
   subst hx
   simp at ho
  ·simp only [Row.list,z6,y8] at g6 g7 g8
   rw [U1] at g8
   rcases dX (e:=Y8) hS1 hsl hl2 with ⟨_,q2⟩ | ⟨g,cap',cs,t,fr,q1,q2,q3⟩
   ·subst q2; simp [val] at hD
   ·have hg2:ρ' id2=some g∧k=ys.length:=by
     cases hq:ρ' id2 with
     | none=>simp [rv,rSl,hq] at q1
     | some g'=>simp [rv,rSl,hq] at q1; exact⟨by rw [q1.1],q1.2.1⟩
    have hob:∃ o2,H.get id2=some o2:=p1b hsl ⟨_,_,_,rfl⟩
    obtain⟨o2,ho2⟩:=hob
    have hbg:b≠g:=fun e=>by
     subst e
     exact hS1.inj id id2 _ o2 hget rfl ho2 hid (by rw [g1]; simp) (g1.trans hg2.1.symm)
    cases hq2:ρ' kk2 with
    | none=>
     refine⟨b,g,cap,0,cur,cs,t,fr,g1,g2,g3,g4,g5,g6,g7,g8,q2,q3,hbg,?_⟩
     rw [hvs]
     simp [rvL,rv,rSl,g1,g2,hg2.1,hg2.2,hq2]
    | some c2'=>
     refine⟨b,g,cap,c2'-c2,cur,cs,t,fr,g1,g2,g3,g4,g5,g6,g7,g8,q2,q3,hbg,?_⟩
     rw [hvs]
     simp [rvL,rv,rSl,g1,g2,hg2.1,hg2.2,hq2]
 obtain⟨b,g,cap,c2',cur,gs,t,fr,k1,k2,k3,k4,k5,k6,k7,k8,k9,k10,k11,k12⟩:=key ρ (Agree.refl _ _)
 have hbg:zO8.globals.size<=b:=by
  rcases k4 with h | h
  ·have:=hp.glo; omega
  ·rcases E0 b zO8.globals.size with h' | h'
   ·exact absurd h (hp.free b h')
   ·exact h'
 rw [k12]
 refine (j1f (c2:=c2') hI ho hzl hz hy rfl hnl hD hN k3 k5 k6 k7 k8 k9 k10 k11 hbg).mono fun e w' ⟨he,hkp,cur',r1,r2,r3⟩=> ?_
 refine⟨ρ,_,Agree.refl _ _,he,⟨hkp.os,hkp.tape,hkp.output,hkp.size,fun q hq hm=>hkp.block q (by omega) fun e=> ?_⟩,fun ρ' ha=>⟨rfl,?_⟩⟩
 ·subst e
  rcases k4 with h | h
  ·omega
  ·exact hm h
 ·obtain⟨b1,g1,cap1,c21,cur1,gs1,t1,fr1,j1,j2,j3,j4,j5,j6,j7,j8,j9,j10,j11,j12⟩:=key ρ' ha
  have eb:b1=b:=by
   rw [k12] at j12
   simp at j12
   exact j12.1.1.symm
  subst eb
  have ecur:cur1=cur:=by
   obtain⟨f1,a1,_⟩:=j3
   obtain⟨f2,a2,_⟩:=k3
   rw [a1] at a2
   cases a2
   rfl
  subst ecur
  have ecap:cap1=cap:=j6.symm.trans k6
  subst ecap
  refine o0g (hS ρ' ha).1 hget rfl j1 (.inr ⟨b1,cap1,cur',rfl,j2,r1,k4,k5,by omega,?_,?_⟩) fun q hq hne=>hkp.block q hq hne
  ·simp only [Row.list,z6,y8]
   rw [iK ys ho]
   exact k7
  ·simp only [Row.list,z6]
   rw [U1,iK ys ho]
   exact r3
def c1p:qV:=m8 143 kT (m8 89 (z7 [shV] qO) (m8 92 (z7 [shI,shI] d0i)
 (m8 153 (z7 [shW,shW] Y9) (m8 154 (z7 [shW,shW] iS) (m8 152 (z7 [shW,shW] qG)
 (m8 97 (z7 [shI,shI] q0b) (m8 145 (z7 [shI,shV] uC) (m8 90 (z7 [shI,shV] c0w)
 (m8 197 (z7 [shI,shV] vH) (m8 151 (z7 [shI] d0x) (m8 181 (z7 [shI] n0t)
 (m8 196 vP D1))))))))))))
theorem k0z:qZ zO8 J0 c1p:=d7 gQ (d7 (m5 _ vQ) (d7 (m5 _ b0c)
 (d7 (m5 _ fF) (d7 (m5 _ oB) (d7 (m5 _ tU)
 (d7 (m5 _ z0d) (d7 (m5 _ h0h) (d7 (m5 _ m0w)
 (d7 (m5 _ k0p) (d7 (m5 _ o0s) (d7 (m5 _ v0u)
 (d7 k0s (n8 _ _)))))))))))))
def bW6:Base:=⟨zO8,J0,false,w0p,c1p,200,J2⟩
theorem aM:BaseOk bW6:=⟨progOk,iD,k0z,m4⟩
abbrev XW6:Cx:=bW6.cx 10
def q2f (P:Program) (J:Inv P) (f:FuncId) (az:List Arg) (F:List Value->Value):Prop:=
 Enters P f∧∀ (w:World) (us:List Value),J.I w->All2 (CelIs w) (t6 az) us->Calls P f ⟨J9 az us⟩ w fun e w'=>e= .returned (F us)∧Below w.heap.size w w'
theorem x1v {b:Base} (hb:BaseOk b) (k:Nat) (L:V0) (ds:List Bool) {f:FuncId} {az:List Arg} {F:List Value->Value} {r:CR}
  (h:s0u (b.cx k) L b.fuel f (J9 az (J3 (b.cx k).P.globals.size (t6 az)).1) (J3 (b.cx k).P.globals.size (t6 az)).2.1 (J3 (b.cx k).P.globals.size (t6 az)).2.2 ds=some r) (hl:d9 r.obs)
  (hF:∀ ρ,rv ρ r.v=F (rvL ρ (J3 (b.cx k).P.globals.size (t6 az)).1)):q2f b.P b.J f az F:=by
 obtain⟨hX,hng⟩:=a6 hb k
 suffices hs:q2f (b.cx k).P (b.cx k).J f az F by
  cases k <;> exact hs
 generalize b.cx k=X at*
 refine⟨G5 hng h,fun w us hI hA=> ?_⟩
 obtain⟨ρ,ha,hρ⟩:=h1i w.heap.size (fun _=>False) w (t6 az) us hA X.P.globals.size (fun i=>some i)
 have hp:Par X.P w.heap.size (fun _=>False):=⟨X.J.room w hI,fun _ _ h=>h⟩
 have hlen:(J3 X.P.globals.size (t6 az)).1.length=(t6 az).length:=by
  have:=G7 List.length (hρ ρ (Agree.refl _ _)).1
  rw [X2] at this
  rw [<- this,hA.length]
 have hS:∀ ρ',Agree (J3 X.P.globals.size (t6 az)).2.2 ρ ρ'->Sim X.P w.heap.size (fun _=>False) ρ' (J3 X.P.globals.size (t6 az)).2.1 w∧J9 az us=rvL ρ' (J9 az (J3 X.P.globals.size (t6 az)).1):=by
  intro ρ' ha'
  obtain⟨h1,h2⟩:=hρ ρ' ha'
  have hle:=N7 (t6 az) X.P.globals.size
  refine⟨⟨fun g hg=>by rw [ha' g (by omega),ha g hg],h2,fun i j o o' hi hr _ _=> ?_⟩,?_⟩
  ·rw [(eG _ _ _ _ hi).2.2] at hr
   cases hr
  ·rw [qT ρ' az _ hlen,<- h1]
 have:=L4 hX hng.mixed h hl hp (d5 _) hI hS
 refine this.2.mono fun e w' ⟨ρ1,v,ha1,he,hk,hfin⟩=> ?_
 obtain⟨hv,hsim⟩:=hfin ρ1 (fun _ _=>rfl)
 refine⟨?_,hk.below⟩
 rw [he,hv,hF,<- (hρ ρ1 ha1).1]
def f0a (s1 s2:List Value->Heap->Nat->List Bool->Option CR) (args:List Value) (H:Heap) (n:Nat) (ds:List Bool):Option CR:=
 match ds with
 | true ::r=>s1 args H n r
 | false ::r=>s2 args H n r
 | [] =>none
theorem yZ {P:Program} {J:Inv P} {f:FuncId} {s1 s2:List Value->Heap->Nat->List Bool->Option CR} (h1:fP P J f s1) (h2:fP P J f s2):fP P J f (f0a s1 s2):=by
 intro args H n ds r h hl
 unfold f0a at h
 split at h
 ·exact h1 _ _ _ _ _ h hl
 ·exact h2 _ _ _ _ _ h hl
 ·cases h
def w1p:Code:=A3 zO8 158 0
def e1m (Z Y L:List Int) (nz ny nl:Nat) (sh n i:Int):St:=⟨only 102 [(4, .pointer (some ⟨17,0,none⟩)),(5, .pointer (some ⟨18,0,none⟩)),(8, .int .i64 sh),(9,slV 19 ny),(10,slV 21 nz),(11, .int .i64 n),(12,slV 25 nl),(13, .int .i64 i)],[(25, .row Y8 1 (.ints .u64 L) 26),(21, .row Y8 1 (.ints .u64 Z) 22),(19, .row Y8 1 (.ints .u64 Y) 20),(18, .cells [.bool false, .slice none 0 0] qR),(17, .cells [.bool false, .slice none 0 0] qR)],27,[],[],0,none,[],15⟩
def k2z (i n:Int):Nat:=(iI.wrap (iI.wrap (i+n)+1)).toNat-i.toNat
abbrev l0x (a b:Bool) (xs ys:List Int):List Arg:=[iL a xs,iL b ys]
theorem s1c (Z Y L:List Int) (nz ny nl:Nat) (sh n i:Int) (hl:d9 [r8 0 i.toNat < L.length,(zO2 0<=i∧i < zO2 nl)∧0 < L.length,r8 0 i.toNat=r8 0 i.toNat∧(iI.wrap (iI.wrap (i+n)+zO2 1)).toNat-i.toNat=(zO10 ny Y).length.succ,r8 0 i.toNat+((iI.wrap (iI.wrap (i+n)+zO2 1)).toNat-i.toNat)<=Z.length∧Z.length < 1099511627776,Dg 18446744073709551616 Z,Cn (zO10 ny Y),(zO10 ny Y).length < 274877906944,0 < val 18446744073709551616 (zO10 ny Y),k2w Z (zO10 ny Y) (r8 0 i.toNat) ((iI.wrap (iI.wrap (i+n)+zO2 1)).toNat-i.toNat),ny<=Y.length,0=0∧zO2 0<=i∧i<=iI.wrap (iI.wrap (i+n)+zO2 1)∧(i=zO2 0∨i < iI.wrap (iI.wrap (i+n)+zO2 1))∧0+(iI.wrap (iI.wrap (i+n)+zO2 1)).toNat*1<=Z.length,decide (zO2 0<=i)=true]):r7 XW6 w1p (e1m Z Y L nz ny nl sh n i) .normal (e1m (i0g Z (Y.take ny) (r8 0 i.toNat) (k2z i n)) Y (gR L (r8 0 i.toNat) (z0q Z (Y.take ny) (r8 0 i.toNat) (k2z i n))) nz ny nl sh n (iI.wrap (i-1))):=
 d6 (a6 aM 10).1 progOk.mixed [] 200 [true] [] (by kernel_rfl) hl (by kernel_rfl) (by kernel_rfl)
theorem v1y (Z Y L:List Int) (nz ny nl:Nat) (sh n i:Int) (hl:d9 [decide (zO2 0<=i)=false]):r7 XW6 w1p (e1m Z Y L nz ny nl sh n i) (.exit 1) (e1m Z Y L nz ny nl sh n i):=
 d6 (a6 aM 10).1 progOk.mixed [] 200 [false] [] (by kernel_rfl) hl (by kernel_rfl) (by kernel_rfl)
theorem t0h (a b:Bool) (xs ys:List Int):s0u XW6 [] 200 158 (J9 (l0x a b xs ys) (J3 XW6.P.globals.size (t6 (l0x a b xs ys))).1) (J3 XW6.P.globals.size (t6 (l0x a b xs ys))).2.1 (J3 XW6.P.globals.size (t6 (l0x a b xs ys))).2.2 [true] =some { v:=Value.tuple { toList:=[Value.agg { toList:=[zO9 false,Value.slice none 0 0]},Value.agg { toList:=[zO9 a,Value.slice (some { block:=11,off:=0,spot:=some 12 }) xs.length 0]}]},h:=[(11,AObj.ints uI xs),(13,AObj.ints uI ys)],n:=21,obs:=[(match zO2 ys.length==zO2 0 with | true=>true | false=>decide (mM xs ys < 0))=true,(zO2 ys.length==zO2 0)=false,xs.length=xs.length,ys.length=ys.length,Dg 18446744073709551616 xs,Dg 18446744073709551616 ys,xs.length < 1099511627776,ys.length < 1099511627776],ds:=[]} :=by kernel_rfl
theorem q1d (a b s1 s2:Bool) (xs ys Q R:List Int):B7 XW6 [] 200 158 (l0x a b xs ys) [iL s1 Q,iL s2 R] [false,true] =some [zO2 0<=p0i xs (ys.getD (r8 0 0) (zO2 0))∧(p0i xs (ys.getD (r8 0 0) (zO2 0))).toNat < 18446744073709551616,xs.length=xs.length,Cn xs,xs.length < 549755813888,zO2 0 < ys.getD (r8 0 0) (zO2 0)∧(ys.getD (r8 0 0) (zO2 0)).toNat < 18446744073709551616,r8 0 0 < ys.length,(zO2 0<=zO2 0∧zO2 0 < zO2 ys.length)∧0 < ys.length,(zO2 ys.length==zO2 1)=true,(match zO2 ys.length==zO2 0 with | true=>true | false=>decide (mM xs ys < 0))=false,(zO2 ys.length==zO2 0)=false,xs.length=xs.length,ys.length=ys.length,Dg 18446744073709551616 xs,Dg 18446744073709551616 ys,xs.length < 1099511627776,ys.length < 1099511627776,zO9 false=zO9 s1,(m1j xs (ys.getD (r8 0 0) (zO2 0))).length=Q.length∧(m1j xs (ys.getD (r8 0 0) (zO2 0))).length<=(m1j xs (ys.getD (r8 0 0) (zO2 0))).length∧zO10 (m1j xs (ys.getD (r8 0 0) (zO2 0))).length (m1j xs (ys.getD (r8 0 0) (zO2 0)))=Q,zO9 false=zO9 s2,(s4 (p0i xs (ys.getD (r8 0 0) (zO2 0)))).length=R.length∧(s4 (p0i xs (ys.getD (r8 0 0) (zO2 0)))).length<=(s4 (p0i xs (ys.getD (r8 0 0) (zO2 0)))).length∧zO10 (s4 (p0i xs (ys.getD (r8 0 0) (zO2 0)))).length (s4 (p0i xs (ys.getD (r8 0 0) (zO2 0))))=R] :=by kernel_rfl
theorem r1j (a b s1 s2:Bool) (xs ys Q R Z Y L:List Int) (nz ny nl:Nat) (sh n i:Int):B7 XW6 [N5 (.exit 1) (fun _=>e1m Z Y L nz ny nl sh n i)] 200 158 (l0x a b xs ys) [iL s1 Q,iL s2 R] [false,false] =some [(n7 (zO10 nz Z)).length<=Z.length,Cn (zO10 (n7 (zO10 nz Z)).length Z),(zO10 (n7 (zO10 nz Z)).length Z).length < 549755813888,zO2 0<=sh∧sh.toNat < 64,0=0∧0+nz<=Z.length∧Z.length < 1099511627776,0=0∧0+nl<=L.length∧L.length < 1099511627776,b9 XW6 w1p (n9 XW6 200 158 (l0x a b xs ys) [false,false]) (.exit 1) (e1m Z Y L nz ny nl sh n i),zO2 0<=iI.wrap (zO2 (iI.wrap (zO2 xs.length.succ)).toNat-zO2 (n6 ys (iI.wrap (zO2 64-F8 (ys.getD (r8 0 (iI.wrap (zO2 ys.length-zO2 1)).toNat) (zO2 0))))).length)∧iI.wrap (zO2 (iI.wrap (zO2 xs.length.succ)).toNat-zO2 (n6 ys (iI.wrap (zO2 64-F8 (ys.getD (r8 0 (iI.wrap (zO2 ys.length-zO2 1)).toNat) (zO2 0))))).length)=iI.wrap (zO2 (iI.wrap (zO2 xs.length.succ)).toNat-zO2 (n6 ys (iI.wrap (zO2 64-F8 (ys.getD (r8 0 (iI.wrap (zO2 ys.length-zO2 1)).toNat) (zO2 0))))).length)∧zO2 8*iI.wrap (zO2 (iI.wrap (zO2 xs.length.succ)).toNat-zO2 (n6 ys (iI.wrap (zO2 64-F8 (ys.getD (r8 0 (iI.wrap (zO2 ys.length-zO2 1)).toNat) (zO2 0))))).length)<=zO2 281474976710656∧iI.wrap (zO2 (iI.wrap (zO2 xs.length.succ)).toNat-zO2 (n6 ys (iI.wrap (zO2 64-F8 (ys.getD (r8 0 (iI.wrap (zO2 ys.length-zO2 1)).toNat) (zO2 0))))).length)<=zO2 9223372036854775807,0 < (n6 xs (iI.wrap (zO2 64-F8 (ys.getD (r8 0 (iI.wrap (zO2 ys.length-zO2 1)).toNat) (zO2 0))))).length∧(n6 xs (iI.wrap (zO2 64-F8 (ys.getD (r8 0 (iI.wrap (zO2 ys.length-zO2 1)).toNat) (zO2 0))))).length<=(iI.wrap (zO2 xs.length.succ)).toNat∧0+(n6 xs (iI.wrap (zO2 64-F8 (ys.getD (r8 0 (iI.wrap (zO2 ys.length-zO2 1)).toNat) (zO2 0))))).length<=(zO6 (iI.wrap (↑xs.length+1)).toNat (0:Int)).length∧0+(n6 xs (iI.wrap (zO2 64-F8 (ys.getD (r8 0 (iI.wrap (zO2 ys.length-zO2 1)).toNat) (zO2 0))))).length<=(n6 xs (iI.wrap (zO2 64-F8 (ys.getD (r8 0 (iI.wrap (zO2 ys.length-zO2 1)).toNat) (zO2 0))))).length,xs.length=xs.length,Cn xs,xs.length < 549755813888,zO2 0<=iI.wrap (zO2 64-F8 (ys.getD (r8 0 (iI.wrap (zO2 ys.length-zO2 1)).toNat) (zO2 0)))∧(iI.wrap (zO2 64-F8 (ys.getD (r8 0 (iI.wrap (zO2 ys.length-zO2 1)).toNat) (zO2 0)))).toNat < 549755813888,zO2 0<=iI.wrap (zO2 xs.length.succ)∧iI.wrap (zO2 xs.length.succ)=iI.wrap (zO2 xs.length.succ)∧zO2 8*iI.wrap (zO2 xs.length.succ)<=zO2 281474976710656∧iI.wrap (zO2 xs.length.succ)<=zO2 9223372036854775807,ys.length=ys.length,Cn ys,ys.length < 549755813888,zO2 0<=iI.wrap (zO2 64-F8 (ys.getD (r8 0 (iI.wrap (zO2 ys.length-zO2 1)).toNat) (zO2 0)))∧(iI.wrap (zO2 64-F8 (ys.getD (r8 0 (iI.wrap (zO2 ys.length-zO2 1)).toNat) (zO2 0)))).toNat < 549755813888,zO2 0<=ys.getD (r8 0 (iI.wrap (zO2 ys.length-zO2 1)).toNat) (zO2 0)∧ys.getD (r8 0 (iI.wrap (zO2 ys.length-zO2 1)).toNat) (zO2 0) < zO2 18446744073709551616,r8 0 (iI.wrap (zO2 ys.length-zO2 1)).toNat < ys.length,(zO2 0<=iI.wrap (zO2 ys.length-zO2 1)∧iI.wrap (zO2 ys.length-zO2 1) < zO2 ys.length)∧0 < ys.length,(zO2 ys.length==zO2 1)=false,(match zO2 ys.length==zO2 0 with | true=>true | false=>decide (mM xs ys < 0))=false,(zO2 ys.length==zO2 0)=false,xs.length=xs.length,ys.length=ys.length,Dg 18446744073709551616 xs,Dg 18446744073709551616 ys,xs.length < 1099511627776,ys.length < 1099511627776,zO9 false=zO9 s1,(n7 (zO10 nl L)).length=Q.length∧(n7 (zO10 nl L)).length<=L.length∧zO10 (n7 (zO10 nl L)).length L=Q,zO9 (vZ false (j1e (zO10 (n7 (zO10 nz Z)).length Z) sh))=zO9 s2,(j1e (zO10 (n7 (zO10 nz Z)).length Z) sh).length=R.length∧(j1e (zO10 (n7 (zO10 nz Z)).length Z) sh).length<=(j1e (zO10 (n7 (zO10 nz Z)).length Z) sh).length∧zO10 (j1e (zO10 (n7 (zO10 nz Z)).length Z) sh).length (j1e (zO10 (n7 (zO10 nz Z)).length Z) sh)=R] :=by kernel_rfl
structure QPl where
 k:Nat
 Z:List Int
 L:List Int
def z0i (Y:List Int) (n:Nat) (p:QPl):QPl:=⟨p.k-1,i0g p.Z Y (p.k-1) (n+1),gR p.L (p.k-1) (z0q p.Z Y (p.k-1) (n+1))⟩
def d1w (D N m nl:Nat) (p:QPl):Prop:=
 p.k<=nl∧p.Z.length=m+1∧Dg W64 p.Z∧val W64 (p.Z.drop p.k) < D∧p.L.length=nl∧Dg W64 p.L∧N=val W64 p.Z+D*(val W64 (p.L.drop p.k)*W64 ^p.k)
theorem s1a {l:List Int} {k:Nat} (h:k < l.length) (x:Int):(l.set k x).drop k=x ::l.drop (k+1):=by
 rw [m0x (by simpa using h)]
 simp [List.drop_set]
theorem k0j {D N m nl n:Nat} {Y:List Int} (hY:val W64 Y=D) (hD:0 < D) (hDn:D < W64 ^n) (hnl:nl+n=m+1) {p:QPl} (h:d1w D N m nl p) (hk:0 < p.k):
  k2w p.Z Y (p.k-1) (n+1)∧p.k-1+(n+1)<=p.Z.length∧d1w D N m nl (z0i Y n p):=by
 obtain⟨h1,h2,h3,h4,h5,h6,h7⟩:=h
 obtain⟨k',Z,L⟩:=p
 simp only at h1 h2 h3 h4 h5 h6 h7 hk
 obtain⟨k,rfl⟩:∃ k,k'=k+1:=⟨k'-1,by omega⟩
 simp only [z0i,b0e]
 have hlen:k+(n+1)<=Z.length:=by omega
 have hz:val W64 (Z.drop (k+(n+1)))=0:=by
  have e:=x3 W64 (Z.drop (k+1)) n (by rw [K3]; omega)
  rw [List.drop_drop,show k+1+n=k+(n+1) by omega] at e
  rcases R2 (val W64 (Z.drop (k+(n+1)))) with h | h
  ·exact h
  ·have:=u0j (W64 ^n) h
   omega
 have hP:val W64 (Z.drop k)=val W64 (part Z k (n+1)):=by
  have e:=x3 W64 (Z.drop k) (n+1) (by rw [K3]; omega)
  rw [List.drop_drop,hz,wD,I2] at e
  exact e
 have hP2:val W64 (Z.drop k)=(Z.getD k 0).toNat+W64*val W64 (Z.drop (k+1)):=by
  rw [B6 (l:=Z) (m:=k) (by omega)]
  rfl
 have hone:val W64 (part Z k (n+1)) < D*W64:=by
  rw [<- hP,hP2]
  have g:=h3.get i7 k
  have g1:(Z.getD k 0).toNat < W64:=by omega
  have:W64*(val W64 (Z.drop (k+1))+1)<=W64*D:=aQ _ h4
  rw [aY,y8] at this
  rw [p4 D]
  omega
 have hmod:val W64 (part Z k (n+1))%D < D:=C7 _ hD
 have hpow:W64 ^n<=W64 ^(n+1):=f0r (Nat.le_succ n)
 have htk:(Z.take k).length=k:=by rw [D5]; omega
 have hZ'd:(i0g Z Y k (n+1)).drop k=dl W64 (n+1) (val W64 (part Z k (n+1))%D)++Z.drop (k+(n+1)):=by
  unfold i0g
  rw [hY,a0g,List.drop_append_of_le_length (by omega),sL (by omega),nH]
 have hZ't:(i0g Z Y k (n+1)).take k=Z.take k:=by
  unfold i0g
  rw [a0g,List.take_append_of_le_length (by omega),aU (by omega)]
 have hZ'v:val W64 ((i0g Z Y k (n+1)).drop k)=val W64 (part Z k (n+1))%D:=by
  rw [hZ'd,X0,hz,wD,I2,i0u]
  exact J5 (by omega)
 have hq:val W64 (part Z k (n+1))/D < W64:=(F4 hD).2 (by rw [p4]; exact hone)
 refine⟨by unfold k2w; rw [hY]; exact hone,hlen,by simp only; omega,?_,?_,?_,?_,?_,?_⟩
 ·simp only
  rw [iK Y hlen]
  exact h2
 ·simp only
  unfold i0g
  exact ((h3.take _).append (b1y i7 _ _)).append (h3.drop _)
 ·simp only
  rw [hZ'v]
  exact hmod
 ·simp only
  rw [A7]
  simp [h5]
 ·simp only
  rw [A7]
  exact h6.set ⟨by unfold z0q; exact w8 _,by unfold z0q; rw [hY]; exact_mod_cast hq⟩ _
 ·simp only
  have e1:=x3 W64 (i0g Z Y k (n+1)) k (by rw [iK Y hlen]; omega)
  rw [hZ't,hZ'v] at e1
  have e2:=x3 W64 Z k (by omega)
  rw [hP] at e2
  have e3:val W64 ((gR L k (z0q Z Y k (n+1))).drop k)=val W64 (part Z k (n+1))/D+W64*val W64 (L.drop (k+1)):=by
   rw [A7,s1a (by omega)]
   simp only [val]
   unfold z0q
   rw [hY,l4]
  rw [e1,e3,h7,e2]
  have e4:=eJ (val W64 (part Z k (n+1))) D
  generalize val W64 (part Z k (n+1))/D=q at*
  generalize val W64 (part Z k (n+1))%D=r at*
  generalize val W64 (L.drop (k+1))=T
  rw [<- e4,v6]
  generalize W64 ^k=w
  rw [x6 q,aY D,aY w (D*q)]
  have a1:w*(D*q)=D*(q*w):=by rw [p4,m7]
  have a2:D*(T*(w*W64))=D*(W64*T*w):=by congr 1; rw [p4 w,<- m7,p4 T]
  omega
theorem a1j {D N m nl n:Nat} {Y:List Int} (hY:val W64 Y=D) (hD:0 < D) (hDn:D < W64 ^n) (hnl:nl+n=m+1) {p:QPl} (h:d1w D N m nl p):∀ j,j<=p.k->d1w D N m nl (itr (z0i Y n) j p)∧(itr (z0i Y n) j p).k=p.k-j
 | 0,_=>⟨h,rfl⟩
 | j+1,hj=>by
  obtain⟨g1,g2⟩:=a1j hY hD hDn hnl h j (by omega)
  refine⟨(k0j hY hD hDn hnl g1 (by rw [g2]; omega)).2.2,?_⟩
  show (itr (z0i Y n) j p).k-1=_
  rw [g2]
  omega
def shQ (ys:List Int):Int:=iI.wrap (64-F8 (ys.getD (r8 0 (iI.wrap (zO2 ys.length-zO2 1)).toNat) 0))
def nlQ (xs ys:List Int):Int:=iI.wrap (zO2 (iI.wrap (zO2 xs.length.succ)).toNat-zO2 (n6 ys (shQ ys)).length)
def z0Q (xs ys:List Int):List Int:=[] ++((n6 xs (shQ ys)).drop 0).take (n6 xs (shQ ys)).length++(zO6 (iI.wrap (zO2 xs.length.succ)).toNat 0).drop (0+(n6 xs (shQ ys)).length)
theorem m1q (a b:Bool) (xs ys:List Int) (x:AX) (s':St) (h:b9 XW6 w1p (e1m (z0Q xs ys) (n6 ys (shQ ys)) (zO6 (nlQ xs ys).toNat 0) (iI.wrap (zO2 xs.length.succ)).toNat (n6 ys (shQ ys)).length (nlQ xs ys).toNat (shQ ys) (n6 ys (shQ ys)).length (iI.wrap (zO2 (nlQ xs ys).toNat-1))) x s'):
  b9 XW6 w1p (n9 XW6 200 158 (l0x a b xs ys) [false,false]) x s':=
 l9 h [] (by kernel_rfl) (by kernel_rfl) (by kernel_rfl)
theorem u0t {ys:List Int} (hy:Cn ys) (hp:0 < ys.length):∃ t:Nat,ys.getD (ys.length-1) 0=(t:Int)∧0 < t∧t < W64∧t*W64 ^(ys.length-1)<=val W64 ys∧val W64 ys < (t+1)*W64 ^(ys.length-1):=by
 have g:=hy.dg.get i7 (ys.length-1)
 have e:=x3 W64 ys (ys.length-1) (by omega)
 rw [B6 (l:=ys) (m:=ys.length-1) (by omega),zE hp,sL (d5 _)] at e
 simp only [val,wD,I2] at e
 have l1:=O3 i7 (hy.dg.take (ys.length-1))
 rw [D5,D4 (by omega)] at l1
 refine⟨(ys.getD (ys.length-1) 0).toNat,by omega,?_,by omega,?_,?_⟩
 ·rcases R2 (ys.getD (ys.length-1) 0).toNat with h | h
  ·rw [h,wD,I2] at e
   have h1:ys.length<=ys.length-1:=by
    have:wl (val W64 ys)<=ys.length-1:=wl_le.2 (by rw [e]; exact l1)
    unfold wl at this
    rw [<- hy] at this
    exact this
   omega
  ·exact h
 ·rw [p4,e]
  exact Nat.le_add_left _ _
 ·rw [x6,rK,p4,e]
  generalize W64 ^(ys.length-1)*(ys.getD (ys.length-1) 0).toNat=q at*
  omega
theorem b0h {t:Nat} (h0:0 < t) (h1:t < W64):0 < bl t∧bl t<=64∧2 ^63<=t*2 ^(64-bl t)∧(t+1)*2 ^(64-bl t)<=W64:=by
 have hW:(2:Nat) ^64=W64:=by decide
 have hb:bl t<=64:=bl_le.2 (by rw [hW]; exact h1)
 have hp:=bl_pos.2 h0
 have h2:=u1z h0
 have h3:=c0p t
 refine⟨hp,hb,?_,?_⟩
 ·have:2 ^(bl t-1)*2 ^(64-bl t)=2 ^63:=by rw [<- m9]; congr 1; omega
  rw [<- this]
  exact s5 _ h2
 ·have:2 ^bl t*2 ^(64-bl t)=W64:=by rw [<- m9,<- hW]; congr 1; omega
  rw [<- this]
  exact s5 _ h3
theorem e1p {ys:List Int} (hy:Cn ys) (hp:0 < ys.length) (hl:ys.length < 274877906944):∃ s:Nat,shQ ys=(s:Int)∧s<=63∧n6 ys (shQ ys)=ws W64 (val W64 ys*2 ^s)∧wl (val W64 ys*2 ^s)=ys.length∧2 ^63*W64 ^(ys.length-1)<=val W64 ys*2 ^s:=by
 obtain⟨t,e1,e2,e3,e4,e5⟩:=u0t hy hp
 obtain⟨b1,b2,b3,b4⟩:=b0h e2 e3
 have hw:iI.wrap (zO2 ys.length-zO2 1)=((ys.length-1:Nat):Int):=by
  have h1:=o9 (n:=ys.length-1) (by omega)
  rw [<- h1]
  congr 1
  simp only [w9]
  omega
 have eS:shQ ys=((64-bl t:Nat):Int):=by
  unfold shQ
  rw [hw,x9,l4,aW,e1]
  unfold F8
  rw [l4]
  have h1:=o9 (n:=64-bl t) (by omega)
  rw [<- h1]
  congr 1
  omega
 refine⟨64-bl t,eS,by omega,?_,?_,?_⟩
 ·rw [eS]
  unfold n6
  rw [l4]
 ·have hlt:val W64 ys*2 ^(64-bl t) < W64 ^ys.length:=by
   have q1:val W64 ys*2 ^(64-bl t) < (t+1)*W64 ^(ys.length-1)*2 ^(64-bl t):=T6 e5 (E6 _)
   have q2:(t+1)*W64 ^(ys.length-1)*2 ^(64-bl t)=(t+1)*2 ^(64-bl t)*W64 ^(ys.length-1):=by rw [m7,p4 (W64 ^_),<- m7]
   have q3:=s5 (W64 ^(ys.length-1)) b4
   have q4:W64*W64 ^(ys.length-1)=W64 ^ys.length:=by rw [p4,<- v6]; congr 1; omega
   omega
  have h1:wl (val W64 ys*2 ^(64-bl t))<=ys.length:=wl_le.2 hlt
  have h2:wl (val W64 ys)<=wl (val W64 ys*2 ^(64-bl t)):=bV (u0j _ (E6 _))
  have h3:wl (val W64 ys)=ys.length:=by unfold wl; rw [<- hy]
  omega
 ·have q1:=s5 (2 ^(64-bl t)) e4
  have q2:t*W64 ^(ys.length-1)*2 ^(64-bl t)=t*2 ^(64-bl t)*W64 ^(ys.length-1):=by rw [m7,p4 (W64 ^_),<- m7]
  have q3:=s5 (W64 ^(ys.length-1)) b3
  omega
section
variable {xs ys:List Int} (hx:Cn xs) (hy:Cn ys) (hxl:xs.length < 274877906944) (hp:0 < ys.length) (hle:val W64 ys<=val W64 xs)
include hx hy hxl hp hle
theorem c0v:ys.length<=xs.length∧0 < val W64 ys:=by
 have _:=hxl
 have h1:wl (val W64 ys)<=wl (val W64 xs):=bV hle
 have e1:wl (val W64 ys)=ys.length:=by unfold wl; rw [<- hy]
 have e2:wl (val W64 xs)=xs.length:=by unfold wl; rw [<- hx]
 exact⟨by omega,wl_pos.1 (by omega)⟩
theorem j0q {s:Nat} (eS:shQ ys=(s:Int)) (hs:s<=63) (eY:n6 ys (shQ ys)=ws W64 (val W64 ys*2 ^s)) (hn:wl (val W64 ys*2 ^s)=ys.length) (htop:2 ^63*W64 ^(ys.length-1)<=val W64 ys*2 ^s):
  iI.wrap (zO2 xs.length.succ)=((xs.length+1:Nat):Int)∧nlQ xs ys=((xs.length+1-ys.length:Nat):Int)∧(0 < (n6 xs (shQ ys)).length∧(n6 xs (shQ ys)).length<=xs.length+1)∧
  d1w (val W64 ys*2 ^s) (val W64 xs*2 ^s) xs.length (xs.length+1-ys.length) ⟨xs.length+1-ys.length,z0Q xs ys,zO6 (xs.length+1-ys.length) 0⟩:=by
 obtain⟨hlen,hB⟩:=c0v hx hy hxl hp hle
 have e1:iI.wrap (zO2 xs.length.succ)=((xs.length+1:Nat):Int):=o9 (n:=xs.length+1) (by omega)
 have e2:nlQ xs ys=((xs.length+1-ys.length:Nat):Int):=by
  unfold nlQ
  rw [e1,eY]
  have hn':(ws W64 (val W64 ys*2 ^s)).length=ys.length:=hn
  rw [hn']
  have h1:=o9 (n:=xs.length+1-ys.length) (by omega)
  rw [<- h1]
  congr 1
  simp only [l4,w9]
  omega
 have eX:n6 xs (shQ ys)=ws W64 (val W64 xs*2 ^s):=by
  rw [eS]
  unfold n6
  rw [l4]
 have hA:val W64 xs < W64 ^xs.length:=O3 i7 hx.dg
 have h2s:(2:Nat) ^s<=2 ^63:=y9 (by decide) hs
 have hN1:val W64 xs*2 ^s < W64 ^xs.length*2 ^63:=B9 (T6 hA (E6 _)) (aQ _ h2s)
 have hN:val W64 xs*2 ^s < W64 ^(xs.length+1):=by
  rw [v6]
  refine B9 hN1 (aQ _ (by decide))
 have hl1:wl (val W64 xs*2 ^s)<=xs.length+1:=wl_le.2 hN
 have hl2:0 < wl (val W64 xs*2 ^s):=wl_pos.2 (M6 (by omega) (E6 _))
 have ez:z0Q xs ys=ws W64 (val W64 xs*2 ^s)++zO6 (xs.length+1-wl (val W64 xs*2 ^s)) 0:=by
  unfold z0Q
  rw [eX,e1,nH,sU,y3,List.drop_replicate,l4,aW]
 have hzl:(z0Q xs ys).length=xs.length+1:=by
  rw [ez]
  simp only [F6,tD]
  show wl _+_=_
  omega
 have hzd:Dg W64 (z0Q xs ys):=by
  rw [ez]
  exact (f0b _).append (K0 _ i7 _)
 have hzv:val W64 (z0Q xs ys)=val W64 xs*2 ^s:=by
  rw [ez,X0,r9,W3,wD,I2]
 refine⟨e1,e2,⟨by rw [eX]; exact hl2,by rw [eX]; exact hl1⟩,d5 _,hzl,hzd,?_,by simp,K0 _ i7 _,?_⟩
 ·simp only
  have e:=x3 W64 (z0Q xs ys) (xs.length+1-ys.length) (by omega)
  rw [hzv] at e
  have q1:=s5 (W64 ^(xs.length+1-ys.length)) htop
  have q2:2 ^63*W64 ^(ys.length-1)*W64 ^(xs.length+1-ys.length)=W64 ^xs.length*2 ^63:=by
   rw [m7,<- m9,p4]
   congr 2
   omega
  rw [q2] at q1
  have q3:W64 ^(xs.length+1-ys.length)*val W64 ((z0Q xs ys).drop (xs.length+1-ys.length)) < W64 ^(xs.length+1-ys.length)*(val W64 ys*2 ^s):=by
   rw [p4 _ (val W64 ys*2 ^s)]
   generalize W64 ^(xs.length+1-ys.length)*val W64 ((z0Q xs ys).drop (xs.length+1-ys.length))=u at*
   omega
  exact Nat.lt_of_mul_lt_mul_left q3
 ·simp only
  rw [hzv,sL (by simp)]
  simp [val]
theorem m1e {s:Nat} (eS:shQ ys=(s:Int)) (hs:s<=63) (eY:n6 ys (shQ ys)=ws W64 (val W64 ys*2 ^s)) (hn:wl (val W64 ys*2 ^s)=ys.length) (htop:2 ^63*W64 ^(ys.length-1)<=val W64 ys*2 ^s):
  ∃ Z L,b9 XW6 w1p (e1m (z0Q xs ys) (n6 ys (shQ ys)) (zO6 (nlQ xs ys).toNat 0) (iI.wrap (zO2 xs.length.succ)).toNat (n6 ys (shQ ys)).length (nlQ xs ys).toNat (shQ ys) (n6 ys (shQ ys)).length (iI.wrap (zO2 (nlQ xs ys).toNat-1))) (.exit 1)
   (e1m Z (n6 ys (shQ ys)) L (xs.length+1) ys.length (xs.length+1-ys.length) s ys.length (-1))∧
   Z.length=xs.length+1∧L.length=xs.length+1-ys.length∧Dg W64 Z∧Dg W64 L∧val W64 L=val W64 xs/val W64 ys∧val W64 Z=val W64 xs%val W64 ys*2 ^s:=by
 obtain⟨hlen,hB⟩:=c0v hx hy hxl hp hle
 obtain⟨e1,e2,_,hg0⟩:=j0q hx hy hxl hp hle eS hs eY hn htop
 have hD:0 < val W64 ys*2 ^s:=M6 hB (E6 _)
 have hYv:val W64 (n6 ys (shQ ys))=val W64 ys*2 ^s:=by rw [eY,r9]
 have hYl:(n6 ys (shQ ys)).length=ys.length:=by rw [eY]; exact hn
 have hDn:val W64 ys*2 ^s < W64 ^ys.length:=by rw [<- hn]; exact i0a _
 have hall:=a1j (n:=ys.length) hYv hD hDn (show xs.length+1-ys.length+ys.length=xs.length+1 by omega) hg0
 have hYc:Cn (n6 ys (shQ ys)):=by rw [eY]; exact Cn.ws _
 generalize hp0:(⟨xs.length+1-ys.length,z0Q xs ys,zO6 (xs.length+1-ys.length) 0⟩:QPl)=p0 at*
 have hp0k:p0.k=xs.length+1-ys.length:=by rw [<- hp0]
 rw [hp0k] at hall
 have hi0:iI.wrap (zO2 (xs.length+1-ys.length)-1)=((xs.length+1-ys.length:Nat):Int)-1:=by
  have:=C8 (zO2 (xs.length+1-ys.length)-1)
  simp only [w9] at*
  omega
 generalize hY:n6 ys (shQ ys)=Y at*
 have hrun:=v7 (X:=XW6) (c:=w1p) (x:= .exit 1) (fun j=>e1m (itr (z0i Y ys.length) j p0).Z Y (itr (z0i Y ys.length) j p0).L (xs.length+1) ys.length (xs.length+1-ys.length) s ys.length (((xs.length+1-ys.length:Nat):Int)-1- (j:Int)))
  (xs.length+1-ys.length) (s':=e1m (itr (z0i Y ys.length) (xs.length+1-ys.length) p0).Z Y (itr (z0i Y ys.length) (xs.length+1-ys.length) p0).L (xs.length+1) ys.length (xs.length+1-ys.length) s ys.length (-1)) (by intro e; cases e) (fun j hj=> ?_) ?_
 ·obtain⟨f1,f2⟩:=hall (xs.length+1-ys.length) (d5 _)
  rw [sW] at f2
  obtain⟨g1,g2,g3,g4,g5,g6,g7⟩:=f1
  rw [f2] at g4 g7
  simp only [sU,a0i,y8] at g4 g7
  refine⟨_,_,?_,g2,g5,g3,g6,?_,?_⟩
  ·rw [e1,e2,eS,hYl]
   simp only [l4]
   rw [hi0]
   have h0:itr (z0i Y ys.length) 0 p0=p0:=rfl
   simp only [h0] at hrun
   have hz0:((xs.length+1-ys.length:Nat):Int)-1- ((0:Nat):Int)=((xs.length+1-ys.length:Nat):Int)-1:=by omega
   rw [hz0,<- hp0] at hrun
   simp only at hrun
   rw [<- hp0]
   exact hrun
  ·have q1:val W64 xs*2 ^s/ (val W64 ys*2 ^s)=val W64 xs/val W64 ys:=sF _ _ (E6 _)
   rw [<- q1,g7,l0i _ _ hD,p0e g4,aW]
  ·have q1:val W64 xs*2 ^s%(val W64 ys*2 ^s)=val W64 xs%val W64 ys*2 ^s:=zF _ _ _
   rw [<- q1,g7,i0h,J5 g4]
 ·obtain⟨f1,f2⟩:=hall j (by omega)
  obtain⟨r1,r2,r3⟩:=k0j (n:=ys.length) hYv hD hDn (show xs.length+1-ys.length+ys.length=xs.length+1 by omega) f1 (by rw [f2]; omega)
  obtain⟨g1,g2,g3,g4,g5,g6,g7⟩:=f1
  simp only [itr]
  generalize itr (z0i Y ys.length) j p0=p at*
  obtain⟨k,hk⟩:∃ k,p.k=k+1:=⟨p.k-1,by omega⟩
  rw [hk,b0e] at r1 r2
  have ei:((xs.length+1-ys.length:Nat):Int)-1- (j:Int)=(k:Int):=by omega
  have ei2:((xs.length+1-ys.length:Nat):Int)-1- ((j+1:Nat):Int)=(k:Int)-1:=by omega
  rw [ei,ei2]
  unfold z0i
  rw [hk,b0e]
  have eE:iI.wrap (iI.wrap ((k:Int)+(ys.length:Int))+1)=((k+ys.length+1:Nat):Int):=by
   have h1:=o9 (n:=k+ys.length) (by omega)
   rw [Int.natCast_add] at h1
   rw [h1]
   have h2:=o9 (n:=k+ys.length+1) (by omega)
   rw [<- h2]
   congr 1
  have eM:k2z (k:Int) (ys.length:Int)=ys.length+1:=by
   unfold k2z
   rw [eE]
   simp only [l4]
   omega
  have eA:r8 0 (k:Int).toNat=k:=by rw [x9,l4,aW]
  have eW:iI.wrap ((k:Int)-1)=(k:Int)-1:=by
   have:=C8 ((k:Int)-1)
   omega
  have eT:Y.take ys.length=Y:=by rw [<- hYl]; exact y3
  have hstep:=s1c p.Z Y p.L (xs.length+1) ys.length (xs.length+1-ys.length) s ys.length k
  rw [eM,eA,eW,eT] at hstep
  have eM2:(iI.wrap (iI.wrap ((k:Int)+(ys.length:Int))+zO2 1)).toNat- ((k:Int)).toNat=ys.length+1:=eM
  have eE2:iI.wrap (iI.wrap ((k:Int)+(ys.length:Int))+zO2 1)=((k+ys.length+1:Nat):Int):=eE
  have eYl:Y.length=ys.length:=hYl
  have k0:zO2 0<=(k:Int):=zzA187.2 (o8 _)
  have kl:k < xs.length+1-ys.length:=by omega
  rw [eM2] at hstep
  rw [eE2] at hstep
  refine hstep ⟨by omega,⟨⟨k0,zzA188.2 kl⟩,by omega⟩,⟨rfl,by rw [eYl]⟩,⟨r2,by omega⟩,g3,hYc,by omega,?_,r1,by omega,⟨rfl,k0,zzA187.2 (by omega), .inr (zzA188.2 (by omega)),?_⟩,f9 k0,a7⟩
  ·rw [hYv]
   exact hD
  ·rw [l4]
   omega
 ·obtain⟨f1,f2⟩:=hall (xs.length+1-ys.length) (d5 _)
  have ez:((xs.length+1-ys.length:Nat):Int)-1- ((xs.length+1-ys.length:Nat):Int)= -1:=by omega
  simp only [ez]
  exact v1y _ Y _ _ _ _ _ _ (-1) ⟨by decide,a7⟩
end
theorem r1c {xs ys:List Int} (hx:Cn xs) (hy:Cn ys):(mM xs ys < 0↔val W64 xs < val W64 ys):=by
 have:=p1x (val W64 xs) (val W64 ys)
 unfold Cn at hx hy
 rw [<- hx,<- hy] at this
 exact this
theorem u0z {xs ys:List Int} (hx:Cn xs) (hy:Cn ys) (hp:0 < ys.length) (b:Bool) (hb:decide (val W64 xs < val W64 ys)=b):
  (match zO2 ys.length==zO2 0 with | true=>true | false=>decide (mM xs ys < 0))=b∧(zO2 ys.length==zO2 0)=false:=by
 have h0:(zO2 ys.length==zO2 0)=false:=by
  simp only [beq_eq_false_iff_ne,ne_eq,zO2.injEq]
  omega
 rw [h0]
 refine⟨?_,rfl⟩
 show decide (mM xs ys < 0)=b
 rw [<- hb]
 exact zzA167.2 (r1c hx hy)
theorem b2c (a b:Bool) {xs ys:List Int} (hx:Cn xs) (hy:Cn ys) (hxl:xs.length < 274877906944) (hp:0 < ys.length) (hle:val W64 ys<=val W64 xs):
  Ev.Sem zO8 J0 158 (l0x a b xs ys) [iW false (ws W64 (val W64 xs/val W64 ys)),iW false (ws W64 (val W64 xs%val W64 ys))] :=by
 obtain⟨hlen,hB⟩:=c0v hx hy hxl hp hle
 obtain⟨hc,h0⟩:=u0z hx hy hp false (d4 (by omega))
 by_cases h1:ys.length=1
 ·
  have hone:(zO2 ys.length==zO2 1)=true:=by rw [h1]; rfl
  have hg:=hy.dg.get i7 0
  have hd:(ys.getD 0 0).toNat=val W64 ys:=by
   match ys,h1 with
   | [y],_=>simp [val]
  have ea:r8 0 0=0:=rfl
  have hdW:(ys.getD 0 0).toNat < W64:=by omega
  have eq:m1j xs (ys.getD (r8 0 0) (zO2 0))=ws W64 (val W64 xs/val W64 ys):=by
   show ws W64 (val W64 xs/ (ys.getD 0 0).toNat)=_
   rw [hd]
  have er:p0i xs (ys.getD (r8 0 0) (zO2 0))=((val W64 xs%val W64 ys:Nat):Int):=by
   show ((val W64 xs%(ys.getD 0 0).toNat:Nat):Int)=_
   rw [hd]
  have ew:s4 (p0i xs (ys.getD (r8 0 0) (zO2 0)))=ws W64 (val W64 xs%val W64 ys):=by
   rw [er]
   unfold s4
   rw [l4]
  have hrW:val W64 xs%val W64 ys < W64:=nL (C7 _ hB) (by rw [<- hd]; exact hdW)
  refine l6 aM 10 _ _ (q1d a b false false xs ys _ _) ⟨?_,rfl,hx,by omega,?_,by rw [ea]; omega,⟨⟨by simp,by rw [h1]; decide⟩,hp⟩,hone,hc,h0,rfl,rfl,hx.dg,hy.dg,by omega,by omega,rfl,?_,rfl,?_,a7⟩
  ·rw [er,l4]
   exact⟨zzA187.2 (o8 _),hrW⟩
  ·show zO2 0 < ys.getD 0 0∧(ys.getD 0 0).toNat < _
   exact⟨by simp only [w9]; omega,hdW⟩
  ·rw [eq,y3]
   exact⟨rfl,d5 _,rfl⟩
  ·rw [ew,y3]
   exact⟨rfl,d5 _,rfl⟩
 ·obtain⟨s,eS,hs,eY,hn,htop⟩:=e1p hy hp (by omega)
  obtain⟨e1,e2,e3,_⟩:=j0q hx hy hxl hp hle eS hs eY hn htop
  obtain⟨Z,L,hL,zl,ll,zd,ld,lv,zv⟩:=m1e hx hy hxl hp hle eS hs eY hn htop
  have hone:(zO2 ys.length==zO2 1)=false:=by
   simp only [beq_eq_false_iff_ne,ne_eq,zO2.injEq]
   exact h1
  have etZ:zO10 (xs.length+1) Z=Z:=by rw [<- zl]; exact y3
  have etL:zO10 (xs.length+1-ys.length) L=L:=by rw [<- ll]; exact y3
  have tz:=I0 (G0 A8 zd)
  have tl:=I0 (G0 A8 ld)
  have eR:j1e (zO10 (n7 (zO10 (xs.length+1) Z)).length Z) (s:Int)=ws W64 (val W64 xs%val W64 ys):=by
   rw [etZ,tz.2.2]
   unfold j1e
   rw [r9,zv,l4,z0c _ (E6 _)]
  have eN8:(zO2 0<=nlQ xs ys∧nlQ xs ys=nlQ xs ys∧zO2 8*nlQ xs ys<=zO2 281474976710656∧nlQ xs ys<=zO2 9223372036854775807):=by
   rw [e2]
   refine⟨zzA187.2 (o8 _),rfl,?_,zzA187.2 (by omega)⟩
   show (8:Int)*((xs.length+1-ys.length:Nat):Int)<=281474976710656
   omega
  have eM8:(zO2 0<=iI.wrap (zO2 xs.length.succ)∧iI.wrap (zO2 xs.length.succ)=iI.wrap (zO2 xs.length.succ)∧zO2 8*iI.wrap (zO2 xs.length.succ)<=zO2 281474976710656∧iI.wrap (zO2 xs.length.succ)<=zO2 9223372036854775807):=by
   rw [e1]
   refine⟨zzA187.2 (o8 _),rfl,?_,zzA187.2 (by omega)⟩
   show (8:Int)*((xs.length+1:Nat):Int)<=281474976710656
   omega
  have eC:0 < (n6 xs (shQ ys)).length∧(n6 xs (shQ ys)).length<=(iI.wrap (zO2 xs.length.succ)).toNat∧0+(n6 xs (shQ ys)).length<=(zO6 (iI.wrap (zO2 xs.length.succ)).toNat (0:Int)).length∧0+(n6 xs (shQ ys)).length<=(n6 xs (shQ ys)).length:=by
   rw [e1,tD,l4]
   omega
  have eSh:zO2 0<=shQ ys∧(shQ ys).toNat < 549755813888:=by
   rw [eS,l4]
   exact⟨zzA187.2 (o8 _),by omega⟩
  have hw:iI.wrap (zO2 ys.length-zO2 1)=((ys.length-1:Nat):Int):=by
   have h1:=o9 (n:=ys.length-1) (by omega)
   rw [<- h1]
   congr 1
   simp only [w9]
   omega
  have eA:r8 0 (iI.wrap (zO2 ys.length-zO2 1)).toNat=ys.length-1:=by rw [hw,x9,l4,aW]
  have hg:=hy.dg.get i7 (ys.length-1)
  refine l6 aM 10 _ _ (r1j a b false false xs ys _ _ Z (n6 ys (shQ ys)) L (xs.length+1) ys.length (xs.length+1-ys.length) s ys.length (-1))
   ⟨?_,?_,?_,⟨zzA187.2 (o8 _),?_⟩,⟨rfl,by omega,by omega⟩,⟨rfl,by omega,by omega⟩,m1q a b xs ys _ _ hL,eN8,eC,rfl,hx,by omega,eSh,eM8,rfl,hy,by omega,eSh,?_,by rw [eA]; omega,⟨⟨?_,?_⟩,hp⟩,hone,hc,h0,rfl,rfl,hx.dg,hy.dg,by omega,by omega,rfl,?_,?_,?_,a7⟩
  ·rw [etZ]; exact tz.2.1
  ·rw [etZ,tz.2.2]; exact Cn.ws _
  ·rw [etZ,D5,tz.1]
   have:=tz.2.1
   rw [tz.1] at this
   omega
  ·rw [l4]; omega
  ·rw [eA]
   exact⟨hg.1,hg.2⟩
  ·rw [hw]; exact zzA187.2 (o8 _)
  ·rw [hw]; exact zzA188.2 (by omega)
  ·rw [etL]
   refine⟨by rw [tl.1,lv],tl.2.1,by rw [tl.2.2,lv]⟩
  ·rw [eR]; rfl
  ·rw [eR,y3]
   exact⟨rfl,d5 _,rfl⟩
theorem d1h (a b:Bool) {xs ys:List Int} (hx:Cn xs) (hy:Cn ys) (hxl:xs.length < 274877906944) (hyl:ys.length < 274877906944) (hlt:val W64 xs < val W64 ys):
  q2f zO8 J0 158 (l0x a b xs ys) fun us=> .tuple ⟨[.agg ⟨[.bool false, .slice none 0 0]⟩, .agg ⟨us.take 2⟩]⟩:=by
 have hp:0 < ys.length:=by
  rcases R2 ys.length with h | h
  ·have:=nY h
   subst this
   simp [val] at hlt
  ·exact h
 obtain⟨hc,h0⟩:=u0z hx hy hp true (f9 hlt)
 refine x1v aM 10 [] [true] (t0h a b xs ys) ⟨hc,h0,rfl,rfl,hx.dg,hy.dg,by omega,by omega,a7⟩ (fun ρ=> ?_)
 show rv ρ (.tuple ⟨[.agg ⟨[.bool false, .slice none 0 0]⟩, .agg ⟨[.bool a, .slice (some ⟨11,0,some 12⟩) xs.length 0]⟩]⟩)=_
 simp only [rv,rvA,rvL]
 rfl
def y0q (xs ys:List Int):List Int:=ws W64 (val W64 xs/val W64 ys)
def gT (xs ys:List Int):List Int:=ws W64 (val W64 xs%val W64 ys)
def k0e (xs ys:List Int):Prop:=val W64 xs < val W64 ys
def e0d:List Arg->Option (List Arg×List Prop)
 | [.a [.v (.bool _), .s 39 .u64 xs], .a [.v (.bool _), .s 39 .u64 ys]] =>some ([iW false (y0q xs ys),iW false (gT xs ys)],[Cn xs,Cn ys,xs.length < 274877906944,0 < ys.length,¬ k0e xs ys])
 | _=>none
theorem m0f:∀ az rs l,e0d az=some (rs,l)->d9 l->Ev.Sem zO8 J0 158 az rs:=by
 intro az rs l h hl
 unfold e0d at h
 split at h
 ·cases h
  rename_i a xs b ys
  obtain⟨h1,h2,h3,h4,h5,_⟩:=hl
  exact b2c a b h1 h2 h3 h4 (mW h5)
 ·cases h
def d0q (args:List Value) (H:Heap) (n:Nat) (ds:List Bool):Option CR:=
 match args with
 | [.agg ⟨[.bool a,x]⟩, .agg ⟨[.bool _,y]⟩] =>match t1o H .u64 x,t1o H .u64 y with
  | some (xs,l1),some (ys,l2)=>some ⟨.tuple ⟨[.agg ⟨[.bool false, .slice none 0 0]⟩, .agg ⟨[.bool a,x]⟩]⟩,H,n,[Cn xs,Cn ys,xs.length < 274877906944,ys.length < 274877906944,k0e xs ys] ++(l1++l2),ds⟩
  | _,_=>none
 | _=>none
theorem v0w:Enters zO8 158:=G5 (a6 aM 10).2 (t0h false false [] [])
theorem o0y:fP zO8 J0 158 d0q:=by
 intro args H n ds r h hl
 unfold d0q at h
 split at h
 case h_2=>cases h
 rename_i a x b y
 split at h
 case h_2=>cases h
 rename_i xs l1 ys l2 e1 e2
 cases h
 obtain⟨hl1,hl2⟩:=(m3 _ _).1 hl
 obtain⟨k1,k2,k3,k4,k5,_⟩:=hl1
 obtain⟨m1,m2⟩:=(m3 _ _).1 hl2
 refine⟨d5 _,v0w,fun B M ρ w vs hp hB hI hS=> ?_⟩
 obtain⟨hS0,hvs⟩:=hS ρ (Agree.refl _ _)
 have c1:CelIs w (.s Y8 .u64 xs) (rv ρ x):=dX hS0 e1 m1
 have c2:CelIs w (.s Y8 .u64 ys) (rv ρ y):=dX hS0 e2 m2
 have hA:All2 (CelIs w) (t6 (l0x a b xs ys)) [.bool a,rv ρ x, .bool b,rv ρ y] := .cons ⟨rfl,rfl⟩ (.cons c1 (.cons ⟨rfl,rfl⟩ (.cons c2 .nil)))
 have hc:=(d1h a b k1 k2 k3 k4 k5).2 w _ hI hA
 have ev:vs=J9 (l0x a b xs ys) [.bool a,rv ρ x, .bool b,rv ρ y] :=by
  rw [hvs]
  simp only [rvL,rv,rvA]
  rfl
 rw [ev]
 refine hc.mono fun e w' ⟨he,hb⟩=>⟨ρ,_,Agree.refl _ _,he,n5 hb hB,fun ρ' ha=>⟨?_,(hS ρ' ha).1.below hb⟩⟩
 have e3:=(hS ρ' ha).2
 rw [hvs] at e3
 simp only [rvL,rv,rvA,J7,Value.agg.injEq,Array.mk.injEq,F1,true_and] at e3
 simp only [rvL,rv,rvA,<- e3.1]
 rfl
def g1v:List Value->Heap->Nat->List Bool->Option CR:=f0a d0q (z7 [shI,shI] e0d)
theorem z0f:fP zO8 J0 158 g1v:=yZ o0y (m5 _ m0f)
theorem c2x (a b s:Bool) (xs ys R:List Int):B7 XW6 [] 200 155 (l0x a b xs ys) [iL s R] [] =some [xs.length=xs.length,ys.length=ys.length,Cn xs,Cn ys,xs.length < 549755813888,ys.length < 549755813888,ys.length=ys.length∧ys.length < 1099511627776∧n7 ys=ys,zO9 (e2h a (!b && decide (0 < ys.length)) xs ys)=zO9 s,(g0a a (!b && decide (0 < ys.length)) xs ys).length=R.length∧(g0a a (!b && decide (0 < ys.length)) xs ys).length<=(g0a a (!b && decide (0 < ys.length)) xs ys).length∧zO10 (g0a a (!b && decide (0 < ys.length)) xs ys).length (g0a a (!b && decide (0 < ys.length)) xs ys)=R] :=by kernel_rfl
theorem y1e (a b:Bool) (xs ys:List Int) (r:Int):B7 XW6 [] 200 98 (l0x a b xs ys) [iR r] [] =some [(g0a a (!b && decide (0 < ys.length)) xs ys).length<=(g0a a (!b && decide (0 < ys.length)) xs ys).length,Cn (zO10 (g0a a (!b && decide (0 < ys.length)) xs ys).length (g0a a (!b && decide (0 < ys.length)) xs ys)),xs.length=xs.length,ys.length=ys.length,Cn xs,Cn ys,xs.length < 549755813888,ys.length < 549755813888,ys.length=ys.length∧ys.length < 1099511627776∧n7 ys=ys,zO3 iI (if val 18446744073709551616 (zO10 (g0a a (!b && decide (0 < ys.length)) xs ys).length (g0a a (!b && decide (0 < ys.length)) xs ys))=0 then zO2 0 else if e2h a (!b && decide (0 < ys.length)) xs ys=true then Int.negSucc 0 else zO2 1)=zO3 iI r] :=by kernel_rfl
theorem y1k (s:Bool) (n:Int) (R:List Int):B7 XW6 [] 200 140 [iR n] [iL s R] [true] =some [1<=1∧1<=1∧1 < 1099511627776,decide (n < zO2 0)=true,zO9 (true && decide (0 < (n7 [uI.wrap (zO2 0-uI.wrap n)]).length))=zO9 s,(n7 [uI.wrap (zO2 0-uI.wrap n)]).length=R.length∧(n7 [uI.wrap (zO2 0-uI.wrap n)]).length<=1∧zO10 (n7 [uI.wrap (zO2 0-uI.wrap n)]).length [uI.wrap (zO2 0-uI.wrap n)] =R∧1=1∧1<=9223372036854775807] :=by kernel_rfl
theorem x1e (s:Bool) (n:Int) (R:List Int):B7 XW6 [] 200 140 [iR n] [iL s R] [false] =some [zO2 0<=uI.wrap n∧(uI.wrap n).toNat < 18446744073709551616,decide (n < zO2 0)=false,zO9 false=zO9 s,(s4 (uI.wrap n)).length=R.length∧(s4 (uI.wrap n)).length<=(s4 (uI.wrap n)).length∧zO10 (s4 (uI.wrap n)).length (s4 (uI.wrap n))=R] :=by kernel_rfl
theorem a1l (a:Bool) (xs:List Int) (r:Int):B7 XW6 [] 200 179 [iL a xs] [iR r] [true] =some [(zO2 xs.length==zO2 0)=true,zO3 iI (zO2 0)=zO3 iI r] :=by kernel_rfl
theorem k1i (a:Bool) (xs:List Int) (r:Int):B7 XW6 [] 200 179 [iL a xs] [iR r] [false] =some [zO2 0<=xs.getD (r8 0 (iI.wrap (zO2 xs.length-zO2 1)).toNat) (zO2 0)∧xs.getD (r8 0 (iI.wrap (zO2 xs.length-zO2 1)).toNat) (zO2 0) < zO2 18446744073709551616,r8 0 (iI.wrap (zO2 xs.length-zO2 1)).toNat < xs.length,(zO2 0<=iI.wrap (zO2 xs.length-zO2 1)∧iI.wrap (zO2 xs.length-zO2 1) < zO2 xs.length)∧0 < xs.length,(zO2 xs.length==zO2 0)=false,zO3 iI (iI.wrap (iI.wrap (zO2 64*iI.wrap (zO2 xs.length-zO2 1))+F8 (xs.getD (r8 0 (iI.wrap (zO2 xs.length-zO2 1)).toNat) (zO2 0))))=zO3 iI r] :=by kernel_rfl
theorem Cn.trim {xs:List Int} (h:Cn xs):n7 xs=xs:=by
 have:=G0 A8 h.dg
 rw [<- h] at this
 exact this
def k2o (a b:Bool) (xs ys:List Int):List Int:=g0a a (!b && decide (0 < ys.length)) xs ys
def k2l (a b:Bool) (xs ys:List Int):Bool:=e2h a (!b && decide (0 < ys.length)) xs ys
def l1w (a b:Bool) (xs ys:List Int):Int:=if val W64 (k2o a b xs ys)=0 then 0 else if k2l a b xs ys then -1 else 1
def ofX (n:Int):List Int:=ws W64 n.natAbs
def t1a (xs:List Int):Int:=((bl (val W64 xs):Nat):Int)
theorem w1z (a b:Bool) {xs ys:List Int} (hx:Cn xs) (hy:Cn ys) (h1:xs.length < 549755813888) (h2:ys.length < 549755813888):Ev.Sem zO8 J0 155 (l0x a b xs ys) [iW (k2l a b xs ys) (k2o a b xs ys)] :=
 l6 aM 10 _ _ (c2x a b _ xs ys _) ⟨rfl,rfl,hx,hy,h1,h2,⟨rfl,by omega,hy.trim⟩,rfl,⟨rfl,d5 _,y3⟩,a7⟩
theorem c2o (a b:Bool) {xs ys:List Int} (hx:Cn xs) (hy:Cn ys) (h1:xs.length < 549755813888) (h2:ys.length < 549755813888):Ev.Sem zO8 J0 98 (l0x a b xs ys) [iR (l1w a b xs ys)] :=by
 refine l6 aM 10 _ _ (y1e a b xs ys _) ⟨d5 _,?_,rfl,rfl,hx,hy,h1,h2,⟨rfl,by omega,hy.trim⟩,?_,a7⟩
 ·rw [y3]
  exact Cn.ws _
 ·rw [y3]
  rfl
theorem f2l {n:Int} (h1: -9223372036854775808<=n) (h2:n<=9223372036854775807):Ev.Sem zO8 J0 140 [iR n] [iW (decide (n < 0)) (ofX n)] :=by
 by_cases h:n < 0
 ·have e1:uI.wrap (zO2 0-uI.wrap n)=((n.natAbs:Nat):Int):=by
   have w1:=O4 n
   have w2:=O4 (zO2 0-uI.wrap n)
   simp only [w9] at*
   omega
  have hd:Dg W64 [((n.natAbs:Nat):Int)] :=Dg.cons ⟨by omega,by
   show _ < ((18446744073709551616:Nat):Int)
   omega⟩ (Dg.nil _)
  have ht:n7 [((n.natAbs:Nat):Int)] =ws W64 n.natAbs:=by
   rw [G0 A8 hd]
   simp [val]
  have hp:0 < (ws W64 n.natAbs).length:=wl_pos.2 (by omega)
  have htt:=I0 ht
  refine l6 aM 10 _ _ (y1k _ n _) ⟨⟨d5 _,d5 _,by decide⟩,f9 h,?_,?_,a7⟩
  ·rw [e1,ht,f9 h,f9 hp]
   rfl
  ·rw [e1]
   exact⟨htt.1,htt.2.1,htt.2.2,rfl,by decide⟩
 ·have e1:uI.wrap n=n:=by
   have w1:=O4 n
   omega
  have e2:s4 n=ofX n:=by
   unfold s4 ofX
   congr 1
   omega
  refine l6 aM 10 _ _ (x1e _ n _) ⟨?_,d4 h,?_,?_,a7⟩
  ·rw [e1]
   simp only [w9]
   omega
  ·rw [d4 h]
  ·rw [e1,e2,y3]
   exact⟨rfl,d5 _,rfl⟩
theorem r1z (a:Bool) {xs:List Int} (hx:Cn xs) (h1:xs.length < 549755813888):Ev.Sem zO8 J0 179 [iL a xs] [iR (t1a xs)] :=by
 by_cases h:xs.length=0
 ·refine l6 aM 10 _ _ (a1l a xs _) ⟨by rw [h]; rfl,?_,a7⟩
  have:=nY h
  subst this
  rfl
 ·obtain⟨t,e1,e2,e3,e4,e5⟩:=u0t hx (by omega)
  have hw:iI.wrap (zO2 xs.length-zO2 1)=((xs.length-1:Nat):Int):=by
   have h1:=o9 (n:=xs.length-1) (by omega)
   rw [<- h1]
   congr 1
   simp only [w9]
   omega
  have eA:r8 0 (iI.wrap (zO2 xs.length-zO2 1)).toNat=xs.length-1:=by rw [hw,x9,l4,aW]
  have hg:=hx.dg.get i7 (xs.length-1)
  have hb64:bl t<=64:=(b0h e2 e3).2.1
  refine l6 aM 10 _ _ (k1i a xs _) ⟨?_,by rw [eA]; omega,⟨⟨?_,?_⟩,by omega⟩,?_,?_,a7⟩
  ·rw [eA]
   exact⟨hg.1,hg.2⟩
  ·rw [hw]; exact zzA187.2 (o8 _)
  ·rw [hw]; exact zzA188.2 (by omega)
  ·simp only [beq_eq_false_iff_ne,ne_eq,zO2.injEq]
   exact h
  ·rw [eA,hw]
   show zO3 .i64 (iI.wrap (iI.wrap (64*((xs.length-1:Nat):Int))+F8 (xs.getD (xs.length-1) 0)))=_
   rw [e1]
   unfold F8 t1a
   rw [l4]
   have hpw:(2:Nat) ^(64*(xs.length-1))=W64 ^(xs.length-1):=by
    rw [Nat.pow_mul]
   have hdiv:val W64 xs/2 ^(64*(xs.length-1))=t:=by
    rw [hpw]
    exact Nat.div_eq_of_lt_le e4 e5
   have hbl:bl (val W64 xs)=64*(xs.length-1)+bl t:=by
    rw [qD (k:=64*(xs.length-1)),hdiv]
    rw [hpw]
    exact u7 (h0s _ e2) e4
   rw [hbl]
   have w1:=o9 (n:=64*(xs.length-1)) (by omega)
   have w2:=o9 (n:=64*(xs.length-1)+bl t) (by omega)
   have c1:(64:Int)*((xs.length-1:Nat):Int)=((64*(xs.length-1):Nat):Int):=by omega
   rw [c1,w1,<- Int.natCast_add,w2]
def o0i:List Arg->Option (List Arg×List Prop)
 | [.a [.v (.bool a), .s 39 .u64 xs], .a [.v (.bool b), .s 39 .u64 ys]] =>some ([iW (k2l a b xs ys) (k2o a b xs ys)],[Cn xs,Cn ys,xs.length < 549755813888,ys.length < 549755813888])
 | _=>none
def n0d:List Arg->Option (List Arg×List Prop)
 | [.a [.v (.bool a), .s 39 .u64 xs], .a [.v (.bool b), .s 39 .u64 ys]] =>some ([iR (l1w a b xs ys)],[Cn xs,Cn ys,xs.length < 549755813888,ys.length < 549755813888])
 | _=>none
def j1o:List Arg->Option (List Arg×List Prop)
 | [.c (.v (.int .i64 n))] =>some ([iW (decide (n < 0)) (ofX n)],[-9223372036854775808<=n,n<=9223372036854775807])
 | _=>none
def e0m:List Arg->Option (List Arg×List Prop)
 | [.a [.v (.bool _), .s 39 .u64 xs]] =>some ([iR (t1a xs)],[Cn xs,xs.length < 549755813888])
 | _=>none
theorem w0g:∀ az rs l,o0i az=some (rs,l)->d9 l->Ev.Sem zO8 J0 155 az rs:=by
 intro az rs l h hl
 unfold o0i at h
 split at h
 ·cases h
  obtain⟨h1,h2,h3,h4,_⟩:=hl
  exact w1z _ _ h1 h2 h3 h4
 ·cases h
theorem y0n:∀ az rs l,n0d az=some (rs,l)->d9 l->Ev.Sem zO8 J0 98 az rs:=by
 intro az rs l h hl
 unfold n0d at h
 split at h
 ·cases h
  obtain⟨h1,h2,h3,h4,_⟩:=hl
  exact c2o _ _ h1 h2 h3 h4
 ·cases h
theorem z0u:∀ az rs l,j1o az=some (rs,l)->d9 l->Ev.Sem zO8 J0 140 az rs:=by
 intro az rs l h hl
 unfold j1o at h
 split at h
 ·cases h
  obtain⟨h1,h2,_⟩:=hl
  exact f2l h1 h2
 ·cases h
theorem m0h:∀ az rs l,e0m az=some (rs,l)->d9 l->Ev.Sem zO8 J0 179 az rs:=by
 intro az rs l h hl
 unfold e0m at h
 split at h
 ·cases h
  obtain⟨h1,h2,_⟩:=hl
  exact r1z _ h1 h2
 ·cases h
def f1e:qV:=m8 158 g1v (m8 155 (z7 [shI,shI] o0i) (m8 98 (z7 [shI,shI] n0d)
 (m8 140 (z7 [shV] j1o) (m8 179 (z7 [shI] e0m) c1p))))
theorem l0p:qZ zO8 J0 f1e:=d7 z0f (d7 (m5 _ w0g) (d7 (m5 _ y0n) (d7 (m5 _ z0u) (d7 (m5 _ m0h) k0z))))
def bW7:Base:=⟨zO8,J0,false,w0p,f1e,200,J2⟩
theorem jX:BaseOk bW7:=⟨progOk,iD,l0p,m4⟩
abbrev XW7:Cx:=bW7.cx 10
def r0x:Code:=A3 zO8 149 0
def v1u (xs L:List Int) (n:Int):St:=⟨only 23 [(1, .int .i64 n),(2, .pointer (some ⟨13,0,none⟩)),(4, .pointer (some ⟨14,0,none⟩)),(5, .pointer (some ⟨17,0,none⟩))],
 [(17, .cells [.bool false,slV 15 L.length] qR),(15, .row Y8 1 (.ints .u64 L) 16),(14, .cells [.bool false, .slice none 0 0] qR),(13, .cells [.bool false,slV 11 xs.length] qR),(11, .ints .u64 xs)],19,[],[],0,none,[],13⟩
def l1o (xs L:List Int) (n:Int):St:=⟨only 23 [(1, .int .i64 n),(2, .pointer (some ⟨13,0,none⟩)),(4, .pointer (some ⟨14,0,none⟩)),(5, .pointer (some ⟨17,0,none⟩))],
 [(17, .cells [.bool false,slV 15 L.length] qR),(15, .row Y8 1 (.ints .u64 L) 16),(14, .cells [.bool false, .slice none 0 0] qR),(13, .cells [.bool false,slV 21 xs.length] qR),(21, .row Y8 1 (.ints .u64 xs) 22)],23,[],[],0,none,[],13⟩
def TPo (L:List Int):St:=⟨only 23 [(4, .pointer (some ⟨14,0,none⟩)),(5, .pointer (some ⟨17,0,none⟩))],
 [(17, .cells [.bool false,slV 15 L.length] qR),(15, .row Y8 1 (.ints .u64 L) 16),(14, .cells [.bool false, .slice none 0 0] qR)],19,[],[],0,none,[],13⟩
def k0u (n:Int):Int:=iI.wrap (n.tdiv 2)
abbrev vV (L:List Int):List Int:=L.take L.length
theorem e2d (xs L:List Int) (n:Int) (hl:d9 [xs.length=xs.length,xs.length=xs.length,Cn xs,Cn xs,xs.length < 274877906944,xs.length < 274877906944,decide (zO2 1 < n)=true,L.length<=L.length,xs.length=xs.length,Cn (zO10 L.length L),Cn xs,(zO10 L.length L).length < 274877906944,xs.length < 274877906944,(n.tmod (zO2 2)==zO2 1)=true,decide (zO2 0 < n)=true]):r7 XW7 r0x (v1u xs L n) .normal (l1o (C4 xs xs) (C4 (vV L) xs) (k0u n)):=
 d6 (a6 jX 10).1 progOk.mixed [] 200 [true,true,true] [(15,19),(16,20),(21,22),(22,23)] (by kernel_rfl) hl (by kernel_rfl) (by kernel_rfl)
theorem a2g (xs L:List Int) (n:Int) (hl:d9 [xs.length=xs.length,xs.length=xs.length,Cn xs,Cn xs,xs.length < 274877906944,xs.length < 274877906944,decide (zO2 1 < n)=true,(n.tmod (zO2 2)==zO2 1)=false,decide (zO2 0 < n)=true]):r7 XW7 r0x (v1u xs L n) .normal (l1o (C4 xs xs) L (k0u n)):=
 d6 (a6 jX 10).1 progOk.mixed [] 200 [true,false,true] [(21,19),(22,20)] (by kernel_rfl) hl (by kernel_rfl) (by kernel_rfl)
theorem c2t (xs L:List Int) (n:Int) (hl:d9 [decide (zO2 1 < n)=false,L.length<=L.length,xs.length=xs.length,Cn (zO10 L.length L),Cn xs,(zO10 L.length L).length < 274877906944,xs.length < 274877906944,(n.tmod (zO2 2)==zO2 1)=true,decide (zO2 0 < n)=true]):r7 XW7 r0x (v1u xs L n) .normal (v1u xs (C4 (vV L) xs) (k0u n)):=
 d6 (a6 jX 10).1 progOk.mixed [] 200 [true,true,false] [(15,19),(16,20)] (by kernel_rfl) hl (by kernel_rfl) (by kernel_rfl)
theorem h2z (xs L:List Int) (n:Int) (hl:d9 [decide (zO2 0 < n)=false]):r7 XW7 r0x (v1u xs L n) (.exit 0) (TPo L):=
 d6 (a6 jX 10).1 progOk.mixed [] 200 [false] [] (by kernel_rfl) hl (by kernel_rfl) (by kernel_rfl)
theorem h2n (xs L:List Int) (n:Int) (hl:d9 [xs.length<=xs.length,xs.length<=xs.length,Cn (zO10 xs.length xs),Cn (zO10 xs.length xs),(zO10 xs.length xs).length < 274877906944,(zO10 xs.length xs).length < 274877906944,decide (zO2 1 < n)=true,L.length<=L.length,xs.length<=xs.length,Cn (zO10 L.length L),Cn (zO10 xs.length xs),(zO10 L.length L).length < 274877906944,(zO10 xs.length xs).length < 274877906944,(n.tmod (zO2 2)==zO2 1)=true,decide (zO2 0 < n)=true]):r7 XW7 r0x (l1o xs L n) .normal (l1o (C4 (vV xs) (vV xs)) (C4 (vV L) (vV xs)) (k0u n)):=
 d6 (a6 jX 10).1 progOk.mixed [] 200 [true,true,true] [(15,23),(16,24),(21,26),(22,27)] (by kernel_rfl) hl (by kernel_rfl) (by kernel_rfl)
theorem a2j (xs L:List Int) (n:Int) (hl:d9 [xs.length<=xs.length,xs.length<=xs.length,Cn (zO10 xs.length xs),Cn (zO10 xs.length xs),(zO10 xs.length xs).length < 274877906944,(zO10 xs.length xs).length < 274877906944,decide (zO2 1 < n)=true,(n.tmod (zO2 2)==zO2 1)=false,decide (zO2 0 < n)=true]):r7 XW7 r0x (l1o xs L n) .normal (l1o (C4 (vV xs) (vV xs)) L (k0u n)):=
 d6 (a6 jX 10).1 progOk.mixed [] 200 [true,false,true] [(21,23),(22,24)] (by kernel_rfl) hl (by kernel_rfl) (by kernel_rfl)
theorem z1x (xs L:List Int) (n:Int) (hl:d9 [decide (zO2 1 < n)=false,L.length<=L.length,xs.length<=xs.length,Cn (zO10 L.length L),Cn (zO10 xs.length xs),(zO10 L.length L).length < 274877906944,(zO10 xs.length xs).length < 274877906944,(n.tmod (zO2 2)==zO2 1)=true,decide (zO2 0 < n)=true]):r7 XW7 r0x (l1o xs L n) .normal (l1o xs (C4 (vV L) (vV xs)) (k0u n)):=
 d6 (a6 jX 10).1 progOk.mixed [] 200 [true,true,false] [(15,23),(16,24)] (by kernel_rfl) hl (by kernel_rfl) (by kernel_rfl)
theorem i2r (xs L:List Int) (n:Int) (hl:d9 [decide (zO2 0 < n)=false]):r7 XW7 r0x (l1o xs L n) (.exit 0) (TPo L):=
 d6 (a6 jX 10).1 progOk.mixed [] 200 [false] [] (by kernel_rfl) hl (by kernel_rfl) (by kernel_rfl)
theorem x1i (s:Bool) (xs L R:List Int) (n:Int):B7 XW7 [N5 (.exit 0) (fun _=>TPo L)] 200 149 [iL false xs,iR n] [iL s R] [] =some [b9 XW7 r0x (n9 XW7 200 149 [iL false xs,iR n] []) (.exit 0) (TPo L),zO2 0<=zO2 1∧1 < 18446744073709551616,zO9 false=zO9 s,L.length=R.length∧L.length<=L.length∧zO10 L.length L=R] :=by kernel_rfl
theorem q1n (xs:List Int) (n:Int) (x:AX) (s':St) (h:b9 XW7 r0x (v1u xs (s4 1) n) x s'):b9 XW7 r0x (n9 XW7 200 149 [iL false xs,iR n] []) x s':=
 l9 h [] (by kernel_rfl) (by kernel_rfl) (by kernel_rfl)
structure PwPl where
 first:Bool
 X:Nat
 O:Nat
 n:Nat
def TPw (p:PwPl):St:=match p.first with
 | true=>v1u (ws W64 p.X) (ws W64 p.O) (p.n:Int)
 | false=>l1o (ws W64 p.X) (ws W64 p.O) (p.n:Int)
theorem Q3 (a b:Nat):C4 (ws W64 a) (ws W64 b)=ws W64 (a*b):=by unfold C4; rw [r9,r9]
theorem Y3 (L:List Int):vV L=L:=y3
theorem o1j {n:Nat} (h:n < 4611686018427387904):k0u (n:Int)=((n/2:Nat):Int):=by
 unfold k0u
 have:=(zM n 2).symm
 have e:(n:Int).tdiv 2=((n/2:Nat):Int):=this
 rw [e,o9 (by omega)]
theorem j1n {n:Nat} (b:Bool) (h:decide (n%2=1)=b):((n:Int).tmod (zO2 2)==zO2 1)=b:=by
 have e:(n:Int).tmod (zO2 2)=((n%2:Nat):Int):=(nR n 2).symm
 rw [e,<- h]
 by_cases h1:n%2=1
 ·rw [h1]; rfl
 ·have:n%2=0:=by omega
  rw [this]; rfl
def y1m (R:Nat) (p:PwPl):Prop:=wl p.O+p.n*wl p.X < 274877906944∧p.O*p.X ^p.n=R∧p.n < 4611686018427387904
theorem o1t (X n:Nat):(X*X) ^(n/2)*X ^(n%2)=X ^n:=by
 have h:X*X=X ^2:=by rw [v6,Nat.pow_one]
 rw [h,<- Nat.pow_mul,<- m9]
 congr 1
 omega
theorem o1p {R:Nat} {p:PwPl} (h:y1m R p):(∃ q,y1m R q∧q.n < p.n∧r7 XW7 r0x (TPw p) .normal (TPw q))∨r7 XW7 r0x (TPw p) (.exit 0) (TPo (ws W64 R)):=by
 obtain⟨f,X,O,n⟩:=p
 obtain⟨h1,h2,h3⟩:=h
 simp only at h1 h2 h3
 have hX:=Cn.ws X
 have hO:=Cn.ws O
 have hX':Cn (zO10 (ws W64 X).length (ws W64 X)):=by rw [y3]; exact hX
 have hO':Cn (zO10 (ws W64 O).length (ws W64 O)):=by rw [y3]; exact hO
 have hh:=o1j h3
 rcases R2 n with h0 | h0
 ·subst h0
  rw [a0i,y8] at h2
  subst h2
  right
  cases f
  ·exact i2r _ _ _ ⟨rfl,a7⟩
  ·exact h2z _ _ _ ⟨rfl,a7⟩
 left
 have hpos:decide (zO2 0 < (n:Int))=true:=f9 (zzA188.2 h0)
 have hle:wl X<=n*wl X:=h0s _ h0
 have lX:(ws W64 X).length < 274877906944:=by show wl X < _; omega
 have lO:(ws W64 O).length < 274877906944:=by show wl O < _; omega
 have lX':(zO10 (ws W64 X).length (ws W64 X)).length < 274877906944:=by rw [y3]; exact lX
 have lO':(zO10 (ws W64 O).length (ws W64 O)).length < 274877906944:=by rw [y3]; exact lO
 have w1:=a1e O X
 have w2:=a1e X X
 by_cases hn1:n=1
 ·subst hn1
  rw [Nat.pow_one] at h2
  have hodd:(((1:Nat):Int).tmod (zO2 2)==zO2 1)=true:=by decide
  have hn2:decide (zO2 1 < ((1:Nat):Int))=false:=by decide
  refine⟨⟨f,X,O*X,0⟩,⟨by simp only; omega,by simpa using h2,by simp⟩,by simp,?_⟩
  cases f
  ·have:=z1x (ws W64 X) (ws W64 O) ((1:Nat):Int) ⟨hn2,d5 _,d5 _,hO',hX',lO',lX',hodd,hpos,a7⟩
   rw [Y3,Y3,Q3,hh] at this
   exact this
  ·have:=c2t (ws W64 X) (ws W64 O) ((1:Nat):Int) ⟨hn2,d5 _,rfl,hO',hX,lO',lX,hodd,hpos,a7⟩
   rw [Y3,Q3,hh] at this
   exact this
 ·have hn2:decide (zO2 1 < (n:Int))=true:=f9 (zzA188.2 (by omega))
  have hd:n/2*(2*wl X)+n%2*wl X=n*wl X:=by
   rw [<- m7,<- x6]
   congr 1
   omega
  have hm:n/2*wl (X*X)<=n/2*(2*wl X):=aQ _ (by omega)
  have hp:=o1t X n
  by_cases ho:n%2=1
  ·have hodd:=j1n (n:=n) true (f9 ho)
   rw [ho,Nat.pow_one] at hp
   rw [ho,rK] at hd
   refine⟨⟨false,X*X,O*X,n/2⟩,⟨by simp only; omega,?_,by simp only; omega⟩,by simp only; omega,?_⟩
   ·simp only
    rw [<- h2,<- hp,m7,p4 X]
   cases f
   ·have:=h2n (ws W64 X) (ws W64 O) (n:Int) ⟨d5 _,d5 _,hX',hX',lX',lX',hn2,d5 _,d5 _,hO',hX',lO',lX',hodd,hpos,a7⟩
    rw [Y3,Y3,Q3,Q3,hh] at this
    exact this
   ·have:=e2d (ws W64 X) (ws W64 O) (n:Int) ⟨rfl,rfl,hX,hX,lX,lX,hn2,d5 _,rfl,hO',hX,lO',lX,hodd,hpos,a7⟩
    rw [Y3,Q3,Q3,hh] at this
    exact this
  ·have hodd:=j1n (n:=n) false (d4 ho)
   have ho:n%2=0:=by omega
   rw [ho,a0i,y8] at hp
   rw [ho,K6,I2] at hd
   refine⟨⟨false,X*X,O,n/2⟩,⟨by simp only; omega,by simp only; rw [hp]; exact h2,by simp only; omega⟩,by simp only; omega,?_⟩
   cases f
   ·have:=a2j (ws W64 X) (ws W64 O) (n:Int) ⟨d5 _,d5 _,hX',hX',lX',lX',hn2,hodd,hpos,a7⟩
    rw [Y3,Q3,hh] at this
    exact this
   ·have:=a2g (ws W64 X) (ws W64 O) (n:Int) ⟨rfl,rfl,hX,hX,lX,lX,hn2,hodd,hpos,a7⟩
    rw [Q3,hh] at this
    exact this
theorem a1y {X n:Nat} (h1:1+n*wl X < 274877906944) (h2:n < 4611686018427387904):Ev.Sem zO8 J0 149 [iL false (ws W64 X),iR (n:Int)] [iW false (ws W64 (X ^n))] :=by
 have hw1:wl 1<=1:=wl_le.2 (by rw [Nat.pow_one]; decide)
 have hL:=D2 (X:=XW7) (c:=r0x) (x:= .exit 0) TPw (fun p=>p.n) (y1m (X ^n)) (by intro e; cases e) (s':=TPo (ws W64 (X ^n))) (fun p hp=>by
  rcases o1p hp with ⟨q,a,b,c⟩ | h
  ·exact .inl ⟨q,a,b,c⟩
  ·exact .inr h) ⟨true,X,1,n⟩ ⟨by simp only; omega,by simp,h2⟩
 exact l6 jX 10 _ _ (x1i false (ws W64 X) (ws W64 (X ^n)) _ (n:Int)) ⟨q1n _ _ _ _ hL,⟨by simp,by decide⟩,rfl,⟨rfl,d5 _,y3⟩,a7⟩
def Y1 (xs:List Int) (n:Int):List Int:=ws W64 (val W64 xs ^n.toNat)
def rE:List Arg->Option (List Arg×List Prop)
 | [.a [.v (.bool false), .s 39 .u64 xs], .c (.v (.int .i64 n))] =>some ([iW false (Y1 xs n)],[Cn xs,0<=n∧n.toNat < 4611686018427387904,1+n.toNat*xs.length < 274877906944])
 | _=>none
theorem i0f:∀ az rs l,rE az=some (rs,l)->d9 l->Ev.Sem zO8 J0 149 az rs:=by
 intro az rs l h hl
 unfold rE at h
 split at h
 ·cases h
  rename_i xs n
  obtain⟨h1,⟨h2,h3⟩,h4,_⟩:=hl
  unfold Cn at h1
  have:=a1y (X:=val W64 xs) (n:=n.toNat) (by unfold wl; rw [<- h1]; exact h4) h3
  rw [<- h1,T5 h2] at this
  exact this
 ·cases h
end Go.Proofs.YtbdaebagmmmijaaGreatDoor
namespace Go.Proofs
def iY:Go.Shelf.Ren:=⟨fun | 287=>224 | 321=>236 | 322=>237 | n=>n,fun | 9=>9 | 3=>3 | 53=>39 | 75=>132 | 4=>4 | 167=>267 | 5=>5 | 46=>90 | 37=>22 | 0=>0 | 21=>21 | 80=>116 | n=>n,fun | n=>n⟩
theorem wP:Go.Proofs.Lays.n287 zO8 iY where
 mixed:=by kernel_rfl
 f287:=Tryz.func224.trans (G7 some (by kernel_rfl))
 f321:=Tryz.func236.trans (G7 some (by kernel_rfl))
 f322:=Tryz.func237.trans (G7 some (by kernel_rfl))
 t0:=Tryz.underlying0
 a0:=Tryz.isAgg0
 z0:=Tryz.sizeOf0
 v0:=Tryz.zeroValue0
 t3:=Tryz.underlying3
 a3:=Tryz.isAgg3
 z3:=Tryz.sizeOf3
 v3:=Tryz.zeroValue3
 t4:=Tryz.underlying4
 a4:=Tryz.isAgg4
 z4:=Tryz.sizeOf4
 v4:=Tryz.zeroValue4
 t5:=Tryz.underlying5
 a5:=Tryz.isAgg5
 z5:=Tryz.sizeOf5
 v5:=Tryz.zeroValue5
 t9:=Tryz.underlying9
 a9:=Tryz.isAgg9
 z9:=Tryz.sizeOf9
 v9:=Tryz.zeroValue9
 t21:=Tryz.underlying21
 a21:=Tryz.isAgg21
 z21:=Tryz.sizeOf21
 v21:=Tryz.zeroValue21
 t37:=Tryz.underlying22
 a37:=Tryz.isAgg22
 z37:=Tryz.sizeOf22
 v37:=Tryz.zeroValue22
 t46:=Tryz.underlying90
 a46:=Tryz.isAgg90
 z46:=Tryz.sizeOf90
 v46:=Tryz.zeroValue90
 t53:=Tryz.underlying39
 a53:=Tryz.isAgg39
 z53:=Tryz.sizeOf39
 v53:=Tryz.zeroValue39
 t75:=Tryz.underlying132
 a75:=Tryz.isAgg132
 z75:=Tryz.sizeOf132
 v75:=Tryz.zeroValue132
 t167:=Tryz.underlying267
 a167:=Tryz.isAgg267
 z167:=Tryz.sizeOf267
 v167:=Tryz.zeroValue267
namespace YtbdaebagmmmijaaGreatDoor
open Go Go.RowKit Ev Wd
def qH (l:List UInt8):Int:=(((Lib.decFrom 0 l).getD 0:Nat):Int)
def R6 (l:List UInt8):Prop:=(Lib.decFrom 0 l).isSome=true
theorem o0b {l:List UInt8} (h1:R6 l) (h2:l.length<=18) (h3:l≠[]):Lib.parseUintB 64 l= .ok ((Lib.decFrom 0 l).getD 0):=by
 have eM:(2:Nat) ^64-1=18446744073709551615:=by decide
 unfold Lib.parseUintB
 rw [a8 h3,eM,Lib.parseUintM_64,Lib.parseUint10_short l 0 0 (by decide) (by omega)]
 unfold R6 at h1
 cases h:Lib.decFrom 0 l with
 | none=>rw [h] at h1; cases h1
 | some n=>rfl
def j1g:List Value->Option (Value×List Prop)
 | [.string s, .int .i64 10, .int .i64 64] =>some (.tuple ⟨[.int .u64 (qH s.data.toList), .nilIface]⟩,[R6 s.data.toList,s.data.toList.length<=18,0 < s.data.toList.length])
 | _=>none
theorem c1f (args:List Value) (v:Value) (l:List Prop) (h:j1g args=some (v,l)) (hl:d9 l):Pure zO8 J0 224 args v:=by
 unfold j1g at h
 split at h
 case h_2=>cases h
 rename_i s
 cases h
 obtain⟨h1,h2,h3,_⟩:=hl
 refine⟨rfl,rfl, .inl ⟨enters_of Tryz.func224 (by kernel_rfl) (c:=_) rfl,fun w hI=> ?_⟩⟩
 have hs:s.size=s.data.toList.length:=rfl
 refine (Any.internal_strconv_ParseUint_10_at64 wP s (by omega) w).mono fun e w' ⟨he,hw⟩=>⟨?_,?_⟩
 ·rw [he,o0b h1 h2 (by intro e; rw [e] at h3; cases h3)]
  rfl
 ·rcases hw with rfl | rfl
  ·exact O9 _ _
  ·exact Lib.bytesWorld_below _ _ _
def w0b:Tab:=l7 224 j1g w0p
theorem jU:R8 zO8 J0 w0b:=b8 c1f iD
def f1t:qV:=m8 149 (z7 [shI,shV] rE) f1e
theorem k0v:qZ zO8 J0 f1t:=d7 (m5 _ i0f) l0p
def bW8:Base:=⟨zO8,J0,false,w0b,f1t,200,J2⟩
theorem a0s:BaseOk bW8:=⟨progOk,jU,k0v,m4⟩
abbrev XW8:Cx:=bW8.cx 10
end YtbdaebagmmmijaaGreatDoor
end Go.Proofs
namespace Go.Proofs.YtbdaebagmmmijaaGreatDoor
open Go Go.RowKit Ev Wd
def z0j:Code:=A3 zO8 157 0
def b1u (l:List UInt8):St:=⟨only 32 [(0, .string ⟨⟨l⟩⟩),(2, .pointer (some ⟨11,0,none⟩)),(3, .pointer (some ⟨12,0,none⟩))],
 [(12, .cells [.bool false, .slice none 0 0] qR),(11, .cells [.bool false, .slice none 0 0] qR)],14,[],[],0,none,[],11⟩
def z0p (l:List UInt8) (xs:List Int):St:=⟨only 32 [(0, .string ⟨⟨l⟩⟩),(2, .pointer (some ⟨11,0,none⟩)),(3, .pointer (some ⟨12,0,none⟩))],
 [(12, .cells [.bool false,slV 21 xs.length] qR),(11, .cells [.bool false, .slice none 0 0] qR),(21, .row Y8 1 (.ints .u64 xs) 22)],23,[],[],0,none,[],11⟩
def f0z (l:List UInt8):Int:=if zO2 18 < zO2 l.length then zO2 18 else zO2 l.length
def d2n (l:List UInt8):List Int:=Y1 [10] (f0z l)
def l1q (xs:List Int) (l:List UInt8):List Int:=C4 xs (d2n l)
def p1f (l:List UInt8):List Int:=s4 (qH (l.take (f0z l).toNat))
def d2z (xs:List Int) (l:List UInt8):List Int:=g0a (vZ false (l1q xs l)) false ((l1q xs l).take (l1q xs l).length) ((p1f l).take (p1f l).length)
theorem d1j (l:List UInt8) (hl:d9 [(zO2 0<=if zO2 18 < zO2 l.length then zO2 18 else zO2 l.length)∧(if zO2 18 < zO2 l.length then zO2 18 else zO2 l.length)<=zO2 l.length,(C4 [] (Y1 [zO2 10] (if zO2 18 < zO2 l.length then zO2 18 else zO2 l.length))).length<=(C4 [] (Y1 [zO2 10] (if zO2 18 < zO2 l.length then zO2 18 else zO2 l.length))).length,(s4 (qH (zO10 (if zO2 18 < zO2 l.length then zO2 18 else zO2 l.length).toNat l))).length<=(s4 (qH (zO10 (if zO2 18 < zO2 l.length then zO2 18 else zO2 l.length).toNat l))).length,Cn (zO10 (C4 [] (Y1 [zO2 10] (if zO2 18 < zO2 l.length then zO2 18 else zO2 l.length))).length (C4 [] (Y1 [zO2 10] (if zO2 18 < zO2 l.length then zO2 18 else zO2 l.length)))),Cn (zO10 (s4 (qH (zO10 (if zO2 18 < zO2 l.length then zO2 18 else zO2 l.length).toNat l))).length (s4 (qH (zO10 (if zO2 18 < zO2 l.length then zO2 18 else zO2 l.length).toNat l)))),(zO10 (C4 [] (Y1 [zO2 10] (if zO2 18 < zO2 l.length then zO2 18 else zO2 l.length))).length (C4 [] (Y1 [zO2 10] (if zO2 18 < zO2 l.length then zO2 18 else zO2 l.length)))).length < 549755813888,(zO10 (s4 (qH (zO10 (if zO2 18 < zO2 l.length then zO2 18 else zO2 l.length).toNat l))).length (s4 (qH (zO10 (if zO2 18 < zO2 l.length then zO2 18 else zO2 l.length).toNat l)))).length < 549755813888,zO2 0<=qH (zO10 (if zO2 18 < zO2 l.length then zO2 18 else zO2 l.length).toNat l)∧(qH (zO10 (if zO2 18 < zO2 l.length then zO2 18 else zO2 l.length).toNat l)).toNat < 18446744073709551616,(Y1 [zO2 10] (if zO2 18 < zO2 l.length then zO2 18 else zO2 l.length)).length=(Y1 [zO2 10] (if zO2 18 < zO2 l.length then zO2 18 else zO2 l.length)).length,Cn [],Cn (Y1 [zO2 10] (if zO2 18 < zO2 l.length then zO2 18 else zO2 l.length)),0 < 274877906944,(Y1 [zO2 10] (if zO2 18 < zO2 l.length then zO2 18 else zO2 l.length)).length < 274877906944,1<=1,Cn [zO2 10],(zO2 0<=if zO2 18 < zO2 l.length then zO2 18 else zO2 l.length)∧(if zO2 18 < zO2 l.length then zO2 18 else zO2 l.length).toNat < 4611686018427387904,1+(if zO2 18 < zO2 l.length then zO2 18 else zO2 l.length).toNat*1 < 274877906944,zO2 0<=zO2 10∧10 < 18446744073709551616,R6 (zO10 (if zO2 18 < zO2 l.length then zO2 18 else zO2 l.length).toNat l),(zO10 (if zO2 18 < zO2 l.length then zO2 18 else zO2 l.length).toNat l).length<=18,0 < (zO10 (if zO2 18 < zO2 l.length then zO2 18 else zO2 l.length).toNat l).length,(zO2 0<=if zO2 18 < zO2 l.length then zO2 18 else zO2 l.length)∧(if zO2 18 < zO2 l.length then zO2 18 else zO2 l.length)<=zO2 l.length,decide (zO2 0 < zO2 l.length)=true]):r7 XW8 z0j (b1u l) .normal (z0p (l.drop (f0z l).toNat) (d2z [] l)):=
 d6 (a6 a0s 10).1 progOk.mixed [] 200 [true] [(21,24),(22,25)] (by kernel_rfl) hl (by kernel_rfl) (by kernel_rfl)
theorem p1r (l:List UInt8) (hl:d9 [decide (zO2 0 < zO2 l.length)=false]):r7 XW8 z0j (b1u l) (.exit 0) (b1u l):=
 d6 (a6 a0s 10).1 progOk.mixed [] 200 [false] [] (by kernel_rfl) hl (by kernel_rfl) (by kernel_rfl)
theorem p1i (l:List UInt8) (xs:List Int) (hl:d9 [decide (zO2 0 < zO2 l.length)=false]):r7 XW8 z0j (z0p l xs) (.exit 0) (z0p l xs):=
 d6 (a6 a0s 10).1 progOk.mixed [] 200 [false] [] (by kernel_rfl) hl (by kernel_rfl) (by kernel_rfl)
theorem s1o (l:List UInt8) (xs:List Int) (hl:d9 [(zO2 0<=if zO2 18 < zO2 l.length then zO2 18 else zO2 l.length)∧(if zO2 18 < zO2 l.length then zO2 18 else zO2 l.length)<=zO2 l.length,(C4 xs (Y1 [zO2 10] (if zO2 18 < zO2 l.length then zO2 18 else zO2 l.length))).length<=(C4 xs (Y1 [zO2 10] (if zO2 18 < zO2 l.length then zO2 18 else zO2 l.length))).length,(s4 (qH (zO10 (if zO2 18 < zO2 l.length then zO2 18 else zO2 l.length).toNat l))).length<=(s4 (qH (zO10 (if zO2 18 < zO2 l.length then zO2 18 else zO2 l.length).toNat l))).length,Cn (zO10 (C4 xs (Y1 [zO2 10] (if zO2 18 < zO2 l.length then zO2 18 else zO2 l.length))).length (C4 xs (Y1 [zO2 10] (if zO2 18 < zO2 l.length then zO2 18 else zO2 l.length)))),Cn (zO10 (s4 (qH (zO10 (if zO2 18 < zO2 l.length then zO2 18 else zO2 l.length).toNat l))).length (s4 (qH (zO10 (if zO2 18 < zO2 l.length then zO2 18 else zO2 l.length).toNat l)))),(zO10 (C4 xs (Y1 [zO2 10] (if zO2 18 < zO2 l.length then zO2 18 else zO2 l.length))).length (C4 xs (Y1 [zO2 10] (if zO2 18 < zO2 l.length then zO2 18 else zO2 l.length)))).length < 549755813888,(zO10 (s4 (qH (zO10 (if zO2 18 < zO2 l.length then zO2 18 else zO2 l.length).toNat l))).length (s4 (qH (zO10 (if zO2 18 < zO2 l.length then zO2 18 else zO2 l.length).toNat l)))).length < 549755813888,zO2 0<=qH (zO10 (if zO2 18 < zO2 l.length then zO2 18 else zO2 l.length).toNat l)∧(qH (zO10 (if zO2 18 < zO2 l.length then zO2 18 else zO2 l.length).toNat l)).toNat < 18446744073709551616,xs.length=xs.length,(Y1 [zO2 10] (if zO2 18 < zO2 l.length then zO2 18 else zO2 l.length)).length=(Y1 [zO2 10] (if zO2 18 < zO2 l.length then zO2 18 else zO2 l.length)).length,Cn xs,Cn (Y1 [zO2 10] (if zO2 18 < zO2 l.length then zO2 18 else zO2 l.length)),xs.length < 274877906944,(Y1 [zO2 10] (if zO2 18 < zO2 l.length then zO2 18 else zO2 l.length)).length < 274877906944,1<=1,Cn [zO2 10],(zO2 0<=if zO2 18 < zO2 l.length then zO2 18 else zO2 l.length)∧(if zO2 18 < zO2 l.length then zO2 18 else zO2 l.length).toNat < 4611686018427387904,1+(if zO2 18 < zO2 l.length then zO2 18 else zO2 l.length).toNat*1 < 274877906944,zO2 0<=zO2 10∧10 < 18446744073709551616,R6 (zO10 (if zO2 18 < zO2 l.length then zO2 18 else zO2 l.length).toNat l),(zO10 (if zO2 18 < zO2 l.length then zO2 18 else zO2 l.length).toNat l).length<=18,0 < (zO10 (if zO2 18 < zO2 l.length then zO2 18 else zO2 l.length).toNat l).length,(zO2 0<=if zO2 18 < zO2 l.length then zO2 18 else zO2 l.length)∧(if zO2 18 < zO2 l.length then zO2 18 else zO2 l.length)<=zO2 l.length,decide (zO2 0 < zO2 l.length)=true]):r7 XW8 z0j (z0p l xs) .normal (z0p (l.drop (f0z l).toNat) (d2z xs l)):=
 d6 (a6 a0s 10).1 progOk.mixed [] 200 [true] [(21,33),(22,34)] (by kernel_rfl) hl (by kernel_rfl) (by kernel_rfl)
theorem y0m (l l':List UInt8) (s:Bool) (R:List Int):B7 XW8 [N5 (.exit 0) (fun _=>b1u l')] 200 157 [.c (.v (.string ⟨⟨l⟩⟩))] [iL s R] [] =some [b9 XW8 z0j (n9 XW8 200 157 [.c (.v (.string ⟨⟨l⟩⟩))] []) (.exit 0) (b1u l'),zO9 false=zO9 s,R=[]] :=by kernel_rfl
theorem x0u (l l':List UInt8) (s:Bool) (xs R:List Int):B7 XW8 [N5 (.exit 0) (fun _=>z0p l' xs)] 200 157 [.c (.v (.string ⟨⟨l⟩⟩))] [iL s R] [] =some [b9 XW8 z0j (n9 XW8 200 157 [.c (.v (.string ⟨⟨l⟩⟩))] []) (.exit 0) (z0p l' xs),zO9 false=zO9 s,xs.length=R.length∧xs.length<=xs.length∧zO10 xs.length xs=R] :=by kernel_rfl
theorem s0x (l:List UInt8) (x:AX) (s':St) (h:b9 XW8 z0j (b1u l) x s'):b9 XW8 z0j (n9 XW8 200 157 [.c (.v (.string ⟨⟨l⟩⟩))] []) x s':=
 l9 h [] (by kernel_rfl) (by kernel_rfl) (by kernel_rfl)
def dgN (l:List UInt8):Nat:=(Lib.decFrom 0 l).getD 0
theorem I7:∀ (l:List UInt8) (acc:Nat),Lib.decFrom acc l=(Lib.decFrom 0 l).map (fun n=>acc*10 ^l.length+n)
 | [],acc=>by simp [Lib.decFrom]
 | b ::r,acc=>by
  simp only [Lib.decFrom]
  cases h:Lib.digitVal b with
  | none=>rfl
  | some d=>
   simp only
   rw [I7 r (acc*10+d),I7 r (0*10+d)]
   cases Lib.decFrom 0 r with
   | none=>rfl
   | some n=>
    simp only [A4,A9,v6]
    congr 1
    rw [K6,aW,x6]
    have:acc*10*10 ^r.length=acc*(10 ^r.length*10):=by rw [m7,p4 10]
    omega
theorem fG:∀ (l m:List UInt8) (acc:Nat),Lib.decFrom acc (l++m)=(Lib.decFrom acc l).bind fun a=>Lib.decFrom a m
 | [],m,acc=>rfl
 | b ::r,m,acc=>by
  simp only [oQ,Lib.decFrom]
  cases Lib.digitVal b with
  | none=>rfl
  | some d=>exact fG r m _
theorem w0j {l:List UInt8} (h:R6 l) (k:Nat):R6 (l.take k)∧R6 (l.drop k)∧dgN l=dgN (l.take k)*10 ^(l.drop k).length+dgN (l.drop k):=by
 unfold R6 dgN at*
 have e:=fG (l.take k) (l.drop k) 0
 rw [List.take_append_drop] at e
 rw [e] at h ⊢
 cases h1:Lib.decFrom 0 (l.take k) with
 | none=>rw [h1] at h; cases h
 | some a=>
  rw [h1] at h
  simp only [Option.bind_some] at h ⊢
  have s1:=I7 (l.drop k) a
  cases h2:Lib.decFrom 0 (l.drop k) with
  | none=>rw [s1,h2] at h; cases h
  | some n=>
   refine⟨rfl,rfl,?_⟩
   rw [s1,h2]
   rfl
theorem zN:∀ {l:List UInt8},R6 l->dgN l < 10 ^l.length:=by
 intro l
 induction l with
 | nil=>intro _; simp [dgN,Lib.decFrom]
 | cons b r ih=>
  intro h
  unfold R6 dgN at*
  simp only [Lib.decFrom] at h ⊢
  cases hb:Lib.digitVal b with
  | none=>rw [hb] at h; cases h
  | some d=>
   rw [hb] at h
   simp only at h ⊢
   rw [I7] at h ⊢
   have hd:d < 10:=by
    unfold Lib.digitVal at hb
    split at hb
    ·cases hb; omega
    ·cases hb
   cases hr:Lib.decFrom 0 r with
   | none=>rw [hr] at h; cases h
   | some n=>
    have:=ih (by rw [hr]; rfl)
    rw [hr] at this
    simp only [W4,A4,A9,v6] at this ⊢
    rw [K6,aW]
    have q:d*10 ^r.length+10 ^r.length<=10*10 ^r.length:=by
     rw [<- Nat.succ_mul]
     exact s5 _ hd
    omega
theorem fQ (k:Nat) {x:Nat} (h:x < 10 ^k):wl x<=k:=
 wl_le.2 (B9 h (nU (by decide) k))
theorem s1q {x:Nat} {l:List UInt8} (_:R6 l) (hp:0 < l.length):∃ k:Nat,f0z l=(k:Int)∧0 < k∧k<=18∧k<=l.length∧d2n l=ws W64 (10 ^k)∧l1q (ws W64 x) l=ws W64 (x*10 ^k)∧p1f l=ws W64 (dgN (l.take k))∧d2z (ws W64 x) l=ws W64 (x*10 ^k+dgN (l.take k)):=by
 have hk:∃ k:Nat,f0z l=(k:Int)∧0 < k∧k<=18∧k<=l.length:=by
  unfold f0z
  split
  ·rename_i hlt
   exact⟨18,rfl,by decide,d5 _,by have:=zzA188.1 hlt; omega⟩
  ·rename_i hlt
   refine⟨l.length,rfl,hp,?_,d5 _⟩
   have:¬ (18 < l.length):=fun h=>hlt (zzA188.2 h)
   omega
 obtain⟨k,e1,e2,e3,e4⟩:=hk
 have eP:d2n l=ws W64 (10 ^k):=by
  unfold d2n Y1
  rw [e1,l4]
  rfl
 have eM:l1q (ws W64 x) l=ws W64 (x*10 ^k):=by unfold l1q; rw [eP,Q3]
 have eW:p1f l=ws W64 (dgN (l.take k)):=by
  unfold p1f s4 qH dgN
  rw [e1,l4,l4]
 refine⟨k,e1,e2,e3,e4,eP,eM,eW,?_⟩
 unfold d2z
 rw [eM,eW,y3,y3]
 unfold g0a
 rw [r9,r9]
 rfl
theorem n1n {N R:Nat} (hN:N < 100000000000) {x:Nat} {l:List UInt8} (h:R6 l) (hp:0 < l.length) (hl:l.length<=N) (hx:x < 10 ^(N-l.length)) (hR:x*10 ^l.length+dgN l=R):
  ∃ (k x':Nat),0 < k∧k<=l.length∧R6 (l.drop k)∧x' < 10 ^(N- (l.drop k).length)∧x'*10 ^(l.drop k).length+dgN (l.drop k)=R∧
   (x=0->r7 XW8 z0j (b1u l) .normal (z0p (l.drop k) (ws W64 x')))∧r7 XW8 z0j (z0p l (ws W64 x)) .normal (z0p (l.drop k) (ws W64 x')):=by
 obtain⟨k,e1,e2,e3,e4,eP,eM,eW,eX⟩:=s1q (x:=x) h hp
 obtain⟨a1,a2,a3⟩:=w0j h k
 have hdl:(l.drop k).length=l.length-k:=K3
 have htl:(l.take k).length=k:=by rw [D5]; omega
 have hd:=zN a1
 rw [htl] at hd
 have hx10:x*10 ^k+dgN (l.take k) < 10 ^(N- (l.drop k).length):=by
  rw [hdl,show N- (l.length-k)=(N-l.length)+k by omega,m9]
  have:(x+1)*10 ^k<=10 ^(N-l.length)*10 ^k:=s5 _ hx
  rw [x6,rK] at this
  omega
 have hxm:x*10 ^k < 10 ^(N- (l.drop k).length):=by omega
 have hd18:dgN (l.take k) < 10 ^18:=B9 hd (y9 (by decide) e3)
 have hdW:dgN (l.take k) < W64:=nL hd18 (by decide)
 have w1:wl x<=N:=by have:=fQ _ hx; omega
 have w2:wl (10 ^k)<=k+1:=fQ (k+1) (Nat.pow_lt_pow_right (by decide) (cP k))
 have w3:wl (x*10 ^k)<=N:=by have:=fQ _ hxm; omega
 have w4:wl (dgN (l.take k))<=18:=fQ _ hd18
 have eWt:s4 (qH (l.take k))=ws W64 (dgN (l.take k)):=by unfold s4 qH dgN; rw [l4]
 have ht:(f0z l).toNat=k:=by rw [e1,l4]
 have c10:Cn [zO2 10] :=by show [10] =ws W64 (val W64 [10]); decide
 have oK:zO2 0<=f0z l∧f0z l<=zO2 l.length:=by rw [e1]; exact⟨zzA187.2 (o8 _),zzA187.2 e4⟩
 have oK2:zO2 0<=f0z l∧(f0z l).toNat < 4611686018427387904:=⟨oK.1,by rw [ht]; omega⟩
 have oK3:1+(f0z l).toNat*1 < 274877906944:=by rw [ht]; omega
 have oM:Cn (zO10 (l1q (ws W64 x) l).length (l1q (ws W64 x) l)):=by rw [y3,eM]; exact Cn.ws _
 have oM2:(zO10 (l1q (ws W64 x) l).length (l1q (ws W64 x) l)).length < 549755813888:=by rw [y3,eM]; show wl _ < _; omega
 have oW:Cn (zO10 (p1f l).length (p1f l)):=by rw [y3,eW]; exact Cn.ws _
 have oW2:(zO10 (p1f l).length (p1f l)).length < 549755813888:=by rw [y3,eW]; show wl _ < _; omega
 have oD:zO2 0<=qH (zO10 (f0z l).toNat l)∧(qH (zO10 (f0z l).toNat l)).toNat < 18446744073709551616:=by
  rw [ht]
  unfold qH
  exact⟨zzA187.2 (o8 _),by rw [l4]; exact hdW⟩
 have oP:Cn (d2n l):=by rw [eP]; exact Cn.ws _
 have oP2:(d2n l).length < 274877906944:=by rw [eP]; show wl _ < _; omega
 have oA:R6 (zO10 (f0z l).toNat l):=by rw [ht]; exact a1
 have oT:(zO10 (f0z l).toNat l).length<=18:=by rw [ht,htl]; exact e3
 have oT2:0 < (zO10 (f0z l).toNat l).length:=by rw [ht,htl]; exact e2
 have oL:decide (zO2 0 < zO2 l.length)=true:=f9 (zzA188.2 hp)
 refine⟨k,x*10 ^k+dgN (l.take k),e2,e4,a2,hx10,?_,fun h0=> ?_,?_⟩
 ·rw [<- hR,a3,x6,m7,<- m9,hdl,show k+(l.length-k)=l.length by omega]
  omega
 ·subst h0
  have:=d1j l ⟨oK,d5 _,d5 _,oM,oW,oM2,oW2,oD,rfl,Cn.ws 0,oP,by decide,oP2,d5 _,c10,oK2,oK3,⟨by decide,by decide⟩,oA,oT,oT2,oK,oL,a7⟩
  rw [ht,show d2z [] l=d2z (ws W64 0) l from rfl,eX] at this
  exact this
 ·have:=s1o l (ws W64 x) ⟨oK,d5 _,d5 _,oM,oW,oM2,oW2,oD,rfl,rfl,Cn.ws x,oP,by show wl x < _; omega,oP2,d5 _,c10,oK2,oK3,⟨by decide,by decide⟩,oA,oT,oT2,oK,oL,a7⟩
  rw [ht,eX] at this
  exact this
structure PaPl where
 first:Bool
 x:Nat
 l:List UInt8
def TPa (p:PaPl):St:=match p.first with
 | true=>b1u p.l
 | false=>z0p p.l (ws W64 p.x)
def i2p (N R:Nat) (p:PaPl):Prop:=R6 p.l∧p.l.length<=N∧p.x < 10 ^(N-p.l.length)∧p.x*10 ^p.l.length+dgN p.l=R∧(p.first=true->p.x=0∧0 < p.l.length)
theorem f1k {l:List UInt8} (h:R6 l) (hN:l.length < 100000000000):Ev.Sem zO8 J0 157 [.c (.v (.string ⟨⟨l⟩⟩))] [iW false (ws W64 (dgN l))] :=by
 rcases R2 l.length with h0 | h0
 ·have:=nY h0
  subst this
  have hL:b9 XW8 z0j (b1u []) (.exit 0) (b1u []):=v7 (fun _=>b1u []) 0 (by intro e; cases e) (fun k hk=>by omega) (p1r [] ⟨rfl,a7⟩)
  exact l6 a0s 10 _ _ (y0m [] [] false _) ⟨s0x _ _ _ hL,rfl,rfl,a7⟩
 ·have hL:=D2 (X:=XW8) (c:=z0j) (x:= .exit 0) TPa (fun p=>p.l.length) (i2p l.length (dgN l)) (by intro e; cases e) (s':=z0p [] (ws W64 (dgN l))) (fun p hp=>by
   obtain⟨f,x,r⟩:=p
   obtain⟨g1,g2,g3,g4,g5⟩:=hp
   simp only at g1 g2 g3 g4 g5
   rcases R2 r.length with q | q
   ·have:=nY q
    subst this
    cases f
    ·right
     have e:x=dgN l:=by
      rw [<- g4]
      simp [dgN,Lib.decFrom]
     subst e
     exact p1i [] _ ⟨rfl,a7⟩
    ·exact absurd (g5 rfl).2 (by simp)
   ·left
    obtain⟨k,x',k1,k2,k3,k4,k5,k6,k7⟩:=n1n hN g1 q g2 g3 g4
    refine⟨⟨false,x',r.drop k⟩,⟨k3,by simp only [K3]; omega,k4,k5,by intro e; cases e⟩,by simp only [K3]; omega,?_⟩
    cases f
    ·exact k7
    ·exact k6 (g5 rfl).1) ⟨true,0,l⟩ ⟨h,d5 _,by simp,by simp,fun _=>⟨rfl,h0⟩⟩
  exact l6 a0s 10 _ _ (x0u l [] false _ _) ⟨s0x _ _ _ hL,rfl,⟨rfl,d5 _,y3⟩,a7⟩
def E5 (l:List UInt8):List Int:=ws W64 (dgN l)
def vW:List Arg->Option (List Arg×List Prop)
 | [.c (.v (.string s))] =>some ([iW false (E5 s.data.toList)],[R6 s.data.toList,s.data.toList.length < 100000000000])
 | _=>none
theorem l0j:∀ az rs l,vW az=some (rs,l)->d9 l->Ev.Sem zO8 J0 157 az rs:=by
 intro az rs l h hl
 unfold vW at h
 split at h
 ·cases h
  obtain⟨h1,h2,_⟩:=hl
  exact f1k h1 h2
 ·cases h
def u1d:qV:=m8 157 (z7 [shV] vW) f1t
theorem d1f:qZ zO8 J0 u1d:=d7 (m5 _ l0j) k0v
theorem y1d {xs ys:List Int} (hy:Cn ys):l1w false false xs ys=if val W64 xs < val W64 ys then -1 else if val W64 xs=val W64 ys then 0 else 1:=by
 unfold l1w k2o k2l g0a e2h
 rw [r9]
 have hl:0 < ys.length↔0 < val W64 ys:=by
  have:=wl_pos (m:=val W64 ys)
  unfold wl at this
  rw [<- hy] at this
  exact this
 unfold m1k v1m
 by_cases h:0 < ys.length
 ·have hp:=hl.1 h
  rw [f9 h]
  simp only [Bool.not_false,j0m,M7,C5,Bool.false_and,c2i]
  rcases iG (val W64 xs) (val W64 ys) with c | c | c
  ·have h1:¬ val W64 ys<=val W64 xs:=by omega
   have h2:¬ (val W64 ys-val W64 xs=0):=by omega
   have h3:val W64 xs < val W64 ys:=c
   simp [h1,h2,h3]
  ·have h1:val W64 ys<=val W64 xs:=by omega
   have h2:val W64 xs-val W64 ys=0:=by omega
   have h3:¬ val W64 xs < val W64 ys:=by omega
   simp [c]
  ·have h1:val W64 ys<=val W64 xs:=by omega
   have h2:¬ (val W64 xs-val W64 ys=0):=by omega
   have h3:¬ val W64 xs < val W64 ys:=by omega
   have h4:¬ val W64 xs=val W64 ys:=by omega
   simp [h1,h2,h3,h4]
 ·have hp:val W64 ys=0:=by
   rcases R2 (val W64 ys) with c | c
   ·exact c
   ·exact absurd (hl.2 c) h
  rw [d4 h,hp]
  simp only [Bool.not_false,Bool.and_false,C6,I2,Bool.false_and,Nat.not_lt_zero,C5]
  split <;> rfl
def o2c (xs:List Int):Int:=((val W64 xs%W64:Nat):Int)
def b0r:List Arg->Option (List Arg×List Prop)
 | [.a [.v (.bool _), .s 39 .u64 xs]] =>some ([uR (o2c xs)],[Cn xs])
 | _=>none
theorem p0h:∀ az rs l,b0r az=some (rs,l)->d9 l->Ev.Sem zO8 J0 181 az rs:=by
 intro az rs l h hl
 unfold b0r at h
 split at h
 ·rename_i a xs
  cases h
  have h1:xs=ws W64 (val W64 xs):=hl.1
  have:=d1x a (val W64 xs)
  unfold iN at this
  rw [<- h1] at this
  exact this
 ·cases h
def h0l:qV:=m8 181 (z7 [shI] b0r) u1d
theorem kF:qZ zO8 J0 h0l:=d7 (m5 _ p0h) d1f
def bWA:Base:=⟨zO8,J0,false,w0b,h0l,200,J2⟩
theorem j0f:BaseOk bWA:=⟨progOk,jU,kF,m4⟩
abbrev XWA:Cx:=bWA.cx 10
theorem c2d {n:Nat} (h:n < W64):bits .and .u64 (n:Int) 1=((n%2:Nat):Int):=by
 have h':n < 18446744073709551616:=h
 have hW:(2:Nat) ^64=18446744073709551616:=by decide
 unfold bits
 simp only [IntKind.bits,vJ]
 show uI.wrap _=_
 have e:(BitVec.ofNat 64 n&&& zO11 64 1).toNat=n%2:=by
  rw [pK,sH]
  rw [J5 (by omega)]
  exact Nat.and_one_is_mod n
 refine Eq.trans (G7 (fun z:Nat=>uI.wrap ((z:Nat):Int)) e) ?_
 show uI.wrap ((n%2:Nat):Int)=_
 rw [O4]
 omega
abbrev vlA (n a:Bool) (N:List Int) (b:Bool) (D:List Int):Arg:= .a [.v (.bool n), .v (.bool false), .v (.bool a), .s Y8 .u64 N, .v (.bool b), .s Y8 .u64 D]
abbrev bR (b:Bool):Arg:= .c (.v (.bool b))
theorem q2j (n s w:Bool) (N D Q:List Int) (e h:Int):B7 XWA [] 200 180 [vlA n false N false D,iR e] [iL s Q,iR h,bR w] [false,true,true] =some [N.length=N.length,Cn N,(n6 N (zO2 1)).length=(n6 N (zO2 1)).length,(n6 D e).length=(n6 D e).length,Cn (n6 N (zO2 1)),Cn (n6 D e),(n6 N (zO2 1)).length < 549755813888,(n6 D e).length < 549755813888,N.length=N.length,Cn N,N.length < 549755813888,zO2 0<=zO2 1∧1 < 549755813888,Cn N,Cn (zO10 (n6 D e).length (n6 D e)),N.length < 274877906944,(zO10 (n6 D e).length (n6 D e)).length < 274877906944,k0e N (zO10 (n6 D e).length (n6 D e)),N.length=N.length,(n6 D e).length<=(n6 D e).length,D.length=D.length,Cn D,D.length < 549755813888,zO2 0<=e∧e.toNat < 549755813888,decide (zO2 0<=e)=true,false=false,zO9 false=zO9 s,Q=[],zO3 iI (l1w (vZ false (n6 N (zO2 1))) (vZ false (n6 D e)) (n6 N (zO2 1)) (n6 D e))=zO3 iI h,zO9 ((if val 18446744073709551616 N=0 then zO2 0 else zO2 1)==zO2 0)=zO9 w] :=by kernel_rfl
theorem q2i (n s w:Bool) (N D Q:List Int) (e h:Int):B7 XWA [] 200 180 [vlA n false N false D,iR e] [iL s Q,iR h,bR w] [false,true,false] =some [(gT N (zO10 (n6 D e).length (n6 D e))).length=(gT N (zO10 (n6 D e).length (n6 D e))).length,Cn (gT N (zO10 (n6 D e).length (n6 D e))),(n6 (gT N (zO10 (n6 D e).length (n6 D e))) (zO2 1)).length=(n6 (gT N (zO10 (n6 D e).length (n6 D e))) (zO2 1)).length,(n6 D e).length=(n6 D e).length,Cn (n6 (gT N (zO10 (n6 D e).length (n6 D e))) (zO2 1)),Cn (n6 D e),(n6 (gT N (zO10 (n6 D e).length (n6 D e))) (zO2 1)).length < 549755813888,(n6 D e).length < 549755813888,(gT N (zO10 (n6 D e).length (n6 D e))).length=(gT N (zO10 (n6 D e).length (n6 D e))).length,Cn (gT N (zO10 (n6 D e).length (n6 D e))),(gT N (zO10 (n6 D e).length (n6 D e))).length < 549755813888,zO2 0<=zO2 1∧1 < 549755813888,N.length=N.length,(n6 D e).length<=(n6 D e).length,Cn N,Cn (zO10 (n6 D e).length (n6 D e)),N.length < 274877906944,0 < (zO10 (n6 D e).length (n6 D e)).length,k0e N (zO10 (n6 D e).length (n6 D e))->False,D.length=D.length,Cn D,D.length < 549755813888,zO2 0<=e∧e.toNat < 549755813888,decide (zO2 0<=e)=true,false=false,zO9 false=zO9 s,(y0q N (zO10 (n6 D e).length (n6 D e))).length=Q.length∧(y0q N (zO10 (n6 D e).length (n6 D e))).length<=(y0q N (zO10 (n6 D e).length (n6 D e))).length∧zO10 (y0q N (zO10 (n6 D e).length (n6 D e))).length (y0q N (zO10 (n6 D e).length (n6 D e)))=Q,zO3 iI (l1w (vZ false (n6 (gT N (zO10 (n6 D e).length (n6 D e))) (zO2 1))) (vZ false (n6 D e)) (n6 (gT N (zO10 (n6 D e).length (n6 D e))) (zO2 1)) (n6 D e))=zO3 iI h,zO9 ((if val 18446744073709551616 (gT N (zO10 (n6 D e).length (n6 D e)))=0 then zO2 0 else zO2 1)==zO2 0)=zO9 w] :=by kernel_rfl
theorem l2r (n s w:Bool) (N D Q:List Int) (e h:Int):B7 XWA [] 200 180 [vlA n false N false D,iR e] [iL s Q,iR h,bR w] [false,false,true] =some [(n6 N (iI.wrap (zO2 0-e))).length=(n6 N (iI.wrap (zO2 0-e))).length,Cn (n6 N (iI.wrap (zO2 0-e))),(n6 (n6 N (iI.wrap (zO2 0-e))) (zO2 1)).length=(n6 (n6 N (iI.wrap (zO2 0-e))) (zO2 1)).length,D.length=D.length,Cn (n6 (n6 N (iI.wrap (zO2 0-e))) (zO2 1)),Cn D,(n6 (n6 N (iI.wrap (zO2 0-e))) (zO2 1)).length < 549755813888,D.length < 549755813888,(n6 N (iI.wrap (zO2 0-e))).length=(n6 N (iI.wrap (zO2 0-e))).length,Cn (n6 N (iI.wrap (zO2 0-e))),(n6 N (iI.wrap (zO2 0-e))).length < 549755813888,zO2 0<=zO2 1∧1 < 549755813888,Cn (zO10 (n6 N (iI.wrap (zO2 0-e))).length (n6 N (iI.wrap (zO2 0-e)))),Cn D,(zO10 (n6 N (iI.wrap (zO2 0-e))).length (n6 N (iI.wrap (zO2 0-e)))).length < 274877906944,D.length < 274877906944,k0e (zO10 (n6 N (iI.wrap (zO2 0-e))).length (n6 N (iI.wrap (zO2 0-e)))) D,(n6 N (iI.wrap (zO2 0-e))).length<=(n6 N (iI.wrap (zO2 0-e))).length,D.length=D.length,N.length=N.length,Cn N,N.length < 549755813888,zO2 0<=iI.wrap (zO2 0-e)∧(iI.wrap (zO2 0-e)).toNat < 549755813888,decide (zO2 0<=e)=false,false=false,zO9 false=zO9 s,Q=[],zO3 iI (l1w (vZ (vZ false (n6 N (iI.wrap (zO2 0-e)))) (n6 (n6 N (iI.wrap (zO2 0-e))) (zO2 1))) false (n6 (n6 N (iI.wrap (zO2 0-e))) (zO2 1)) D)=zO3 iI h,zO9 ((if val 18446744073709551616 (n6 N (iI.wrap (zO2 0-e)))=0 then zO2 0 else zO2 1)==zO2 0)=zO9 w] :=by kernel_rfl
theorem n2e (n s w:Bool) (N D Q:List Int) (e h:Int):B7 XWA [] 200 180 [vlA n false N false D,iR e] [iL s Q,iR h,bR w] [false,false,false] =some [(gT (zO10 (n6 N (iI.wrap (zO2 0-e))).length (n6 N (iI.wrap (zO2 0-e)))) D).length=(gT (zO10 (n6 N (iI.wrap (zO2 0-e))).length (n6 N (iI.wrap (zO2 0-e)))) D).length,Cn (gT (zO10 (n6 N (iI.wrap (zO2 0-e))).length (n6 N (iI.wrap (zO2 0-e)))) D),(n6 (gT (zO10 (n6 N (iI.wrap (zO2 0-e))).length (n6 N (iI.wrap (zO2 0-e)))) D) (zO2 1)).length=(n6 (gT (zO10 (n6 N (iI.wrap (zO2 0-e))).length (n6 N (iI.wrap (zO2 0-e)))) D) (zO2 1)).length,D.length=D.length,Cn (n6 (gT (zO10 (n6 N (iI.wrap (zO2 0-e))).length (n6 N (iI.wrap (zO2 0-e)))) D) (zO2 1)),Cn D,(n6 (gT (zO10 (n6 N (iI.wrap (zO2 0-e))).length (n6 N (iI.wrap (zO2 0-e)))) D) (zO2 1)).length < 549755813888,D.length < 549755813888,(gT (zO10 (n6 N (iI.wrap (zO2 0-e))).length (n6 N (iI.wrap (zO2 0-e)))) D).length=(gT (zO10 (n6 N (iI.wrap (zO2 0-e))).length (n6 N (iI.wrap (zO2 0-e)))) D).length,Cn (gT (zO10 (n6 N (iI.wrap (zO2 0-e))).length (n6 N (iI.wrap (zO2 0-e)))) D),(gT (zO10 (n6 N (iI.wrap (zO2 0-e))).length (n6 N (iI.wrap (zO2 0-e)))) D).length < 549755813888,zO2 0<=zO2 1∧1 < 549755813888,(n6 N (iI.wrap (zO2 0-e))).length<=(n6 N (iI.wrap (zO2 0-e))).length,D.length=D.length,Cn (zO10 (n6 N (iI.wrap (zO2 0-e))).length (n6 N (iI.wrap (zO2 0-e)))),Cn D,(zO10 (n6 N (iI.wrap (zO2 0-e))).length (n6 N (iI.wrap (zO2 0-e)))).length < 274877906944,0 < D.length,k0e (zO10 (n6 N (iI.wrap (0-e))).length (n6 N (iI.wrap (0-e)))) D->False,N.length=N.length,Cn N,N.length < 549755813888,zO2 0<=iI.wrap (zO2 0-e)∧(iI.wrap (zO2 0-e)).toNat < 549755813888,decide (zO2 0<=e)=false,false=false,zO9 false=zO9 s,(y0q (zO10 (n6 N (iI.wrap (zO2 0-e))).length (n6 N (iI.wrap (zO2 0-e)))) D).length=Q.length∧(y0q (zO10 (n6 N (iI.wrap (zO2 0-e))).length (n6 N (iI.wrap (zO2 0-e)))) D).length<=(y0q (zO10 (n6 N (iI.wrap (zO2 0-e))).length (n6 N (iI.wrap (zO2 0-e)))) D).length∧zO10 (y0q (zO10 (n6 N (iI.wrap (zO2 0-e))).length (n6 N (iI.wrap (zO2 0-e)))) D).length (y0q (zO10 (n6 N (iI.wrap (zO2 0-e))).length (n6 N (iI.wrap (zO2 0-e)))) D)=Q,zO3 iI (l1w (vZ false (n6 (gT (zO10 (n6 N (iI.wrap (zO2 0-e))).length (n6 N (iI.wrap (zO2 0-e)))) D) (zO2 1))) false (n6 (gT (zO10 (n6 N (iI.wrap (zO2 0-e))).length (n6 N (iI.wrap (zO2 0-e)))) D) (zO2 1)) D)=zO3 iI h,zO9 ((if val 18446744073709551616 (gT (zO10 (n6 N (iI.wrap (zO2 0-e))).length (n6 N (iI.wrap (zO2 0-e)))) D)=0 then zO2 0 else zO2 1)==zO2 0)=zO9 w] :=by kernel_rfl
theorem y1u (s:Bool) (R:List Int) (n:Int):B7 XWA [] 200 156 [iR n] [iL s R] [] =some [1<=1,Cn [zO2 10],zO2 0<=n∧n.toNat < 4611686018427387904,1+n.toNat*1 < 274877906944,zO2 0<=zO2 10∧10 < 18446744073709551616,zO9 false=zO9 s,(Y1 [zO2 10] n).length=R.length∧(Y1 [zO2 10] n).length<=(Y1 [zO2 10] n).length∧zO10 (Y1 [zO2 10] n).length (Y1 [zO2 10] n)=R] :=by kernel_rfl
def atA (N:Nat) (e:Int):Nat:=if 0<=e then N else N*2 ^(-e).toNat
def atB (D:Nat) (e:Int):Nat:=if 0<=e then D*2 ^e.toNat else D
def cmN (a b:Nat):Int:=if a < b then -1 else if a=b then 0 else 1
theorem c0n (a:Nat) (n:Int):n6 (ws W64 a) n=ws W64 (a*2 ^n.toNat):=by unfold n6; rw [r9]
theorem c1e (a b:Nat):y0q (ws W64 a) (ws W64 b)=ws W64 (a/b):=by unfold y0q; rw [r9,r9]
theorem j1p (a b:Nat):gT (ws W64 a) (ws W64 b)=ws W64 (a%b):=by unfold gT; rw [r9,r9]
theorem d0h (m:Nat):val 18446744073709551616 (ws W64 m)=m:=r9 m
theorem tG (a b:Nat):l1w false false (ws W64 a) (ws W64 b)=cmN a b:=by
 rw [y1d (Cn.ws b),r9,r9]; rfl
theorem p1u (xs:List Int):vZ false xs=false:=rfl
theorem O7 (a b:Nat):k0e (ws W64 a) (ws W64 b)↔a < b:=by unfold k0e; rw [r9,r9]
theorem u0x (r:Nat):((if r=0 then zO2 0 else zO2 1)==zO2 0)=decide (r=0):=by
 by_cases h:r=0
 ·rw [i6 h,f9 h]; rfl
 ·rw [a8 h,d4 h]; rfl
theorem t1x (r:Nat):wl (r*2 ^(zO2 1).toNat)<=wl r+1:=by
 have:=a1e r (2 ^(zO2 1).toNat)
 have h2:wl (2 ^(zO2 1).toNat)<=1:=wl_le.2 (by decide)
 omega
theorem g2b (n:Bool) {N D:Nat} {e:Int} (hD:0 < D) (h1:wl N < 100000000000) (h2:wl D < 100000000000) (h3:wl (atA N e) < 100000000000) (h4:wl (atB D e) < 100000000000) (he: -500000000000<=e∧e<=500000000000):
  Ev.Sem zO8 J0 180 [vlA n false (ws W64 N) false (ws W64 D),iR e] [iL false (ws W64 (atA N e/atB D e)),iR (cmN (atA N e%atB D e*2) (atB D e)),bR (decide (atA N e%atB D e=0))] :=by
 have hw1:=t1x (atA N e)
 have hw2:=t1x (atA N e%atB D e)
 have hm:wl (atA N e%atB D e)<=wl (atA N e):=bV (Nat.mod_le _ _)
 by_cases h0:0<=e
 ·have hA:atA N e=N:=i6 h0
  have hB:atB D e=D*2 ^e.toNat:=i6 h0
  have d0:decide (zO2 0<=e)=true:=f9 h0
  have hBp:0 < atB D e:=by rw [hB]; exact M6 hD (x7 (by decide))
  by_cases hlt:atA N e < atB D e
  ·rw [p0e hlt,J5 hlt]
   refine l6 j0f 10 _ _ (q2j n false _ (ws W64 N) (ws W64 D) [] e _) ?_
   simp only [hA,hB] at h3 h4 hw1 hw2 hm hlt hBp ⊢
   simp only [d9,c0n,y3,p1u,tG,d0h,u0x]
   repeat' apply And.intro
   all_goals first
    | exact trivial
    | exact rfl
    | exact Cn.ws _
    | exact d5 _
    | assumption
    | exact (O7 _ _).2 hlt
    | exact fun h=>hlt ((O7 _ _).1 h)
    | (show wl _ < _; omega)
    | (show 0 < wl _; exact wl_pos.2 hBp)
    | decide
    | omega
    | (show (0:Int)<=-e; omega)
  ·refine l6 j0f 10 _ _ (q2i n false _ (ws W64 N) (ws W64 D) (ws W64 (atA N e/atB D e)) e _) ?_
   simp only [hA,hB] at h3 h4 hw1 hw2 hm hlt hBp ⊢
   simp only [d9,c0n,c1e,j1p,y3,p1u,tG,d0h,u0x]
   repeat' apply And.intro
   all_goals first
    | exact trivial
    | exact rfl
    | exact Cn.ws _
    | exact d5 _
    | assumption
    | exact (O7 _ _).2 hlt
    | exact fun h=>hlt ((O7 _ _).1 h)
    | (show wl _ < _; omega)
    | (show 0 < wl _; exact wl_pos.2 hBp)
    | decide
    | omega
    | (show (0:Int)<=-e; omega)
 ·have hA:atA N e=N*2 ^(-e).toNat:=a8 h0
  have hB:atB D e=D:=a8 h0
  have d0:decide (zO2 0<=e)=false:=d4 h0
  have hBp:0 < atB D e:=by rw [hB]; exact hD
  have hW:iI.wrap (zO2 0-e)= -e:=by
   have:=C8 (zO2 0-e)
   have e0:zO2 0-e=0-e:=rfl
   rw [e0] at this ⊢
   omega
  have hV:iI.wrap (0-e)= -e:=hW
  by_cases hlt:atA N e < atB D e
  ·rw [p0e hlt,J5 hlt]
   refine l6 j0f 10 _ _ (l2r n false _ (ws W64 N) (ws W64 D) [] e _) ?_
   simp only [hA,hB] at h3 h4 hw1 hw2 hm hlt hBp ⊢
   simp only [d9,hW,c0n,y3,p1u,tG,d0h,u0x]
   repeat' apply And.intro
   all_goals first
    | exact trivial
    | exact rfl
    | exact Cn.ws _
    | exact d5 _
    | assumption
    | exact (O7 _ _).2 hlt
    | exact fun h=>hlt ((O7 _ _).1 h)
    | (show wl _ < _; omega)
    | (show 0 < wl _; exact wl_pos.2 hBp)
    | decide
    | omega
    | (show (0:Int)<=-e; omega)
  ·refine l6 j0f 10 _ _ (n2e n false _ (ws W64 N) (ws W64 D) (ws W64 (atA N e/atB D e)) e _) ?_
   simp only [hA,hB] at h3 h4 hw1 hw2 hm hlt hBp ⊢
   simp only [d9,hW,c0n,c1e,j1p,y3,p1u,tG,d0h,u0x]
   repeat' apply And.intro
   all_goals first
    | exact trivial
    | exact rfl
    | exact Cn.ws _
    | exact d5 _
    | assumption
    | exact (O7 _ _).2 hlt
    | exact fun h=>hlt ((O7 _ _).1 (by rw [hW] at h; exact h))
    | exact fun h=>hlt ((O7 _ _).1 (by rw [hV] at h; exact h))
    | (show wl _ < _; omega)
    | (show 0 < wl _; exact wl_pos.2 hBp)
    | decide
    | omega
    | (show (0:Int)<=-e; omega)
def atQ (N D:List Int) (e:Int):List Int:=ws W64 (atA (val W64 N) e/atB (val W64 D) e)
def atH (N D:List Int) (e:Int):Int:=cmN (atA (val W64 N) e%atB (val W64 D) e*2) (atB (val W64 D) e)
def atZ (N D:List Int) (e:Int):Bool:=decide (atA (val W64 N) e%atB (val W64 D) e=0)
def n2v (N D:List Int) (e:Int):Prop:=Cn N∧Cn D∧0 < val W64 D∧N.length < 100000000000∧D.length < 100000000000∧wl (atA (val W64 N) e) < 100000000000∧wl (atB (val W64 D) e) < 100000000000∧-500000000000<=e∧e<=500000000000
def e0l (w:Bool):List Arg->Option (List Arg×List Prop)
 | [.a [.v (.bool _), .v (.bool false), .v (.bool false), .s 39 .u64 N, .v (.bool false), .s 39 .u64 D], .c (.v (.int .i64 e))] =>some ([iL false (atQ N D e),iR (atH N D e),bR w],[n2v N D e,atZ N D e=w])
 | _=>none
theorem a0t (w:Bool):∀ az rs l,e0l w az=some (rs,l)->d9 l->Ev.Sem zO8 J0 180 az rs:=by
 intro az rs l h hl
 unfold e0l at h
 split at h
 ·cases h
  rename_i n N D e
  obtain⟨⟨c1,c2,hD,h1,h2,h3,h4,h5,h6⟩,hz,_⟩:=hl
  unfold Cn at c1 c2
  have:=g2b n (N:=val W64 N) (D:=val W64 D) (e:=e) hD (by unfold wl; rw [<- c1]; exact h1) (by unfold wl; rw [<- c2]; exact h2) h3 h4 ⟨h5,h6⟩
  rw [<- c1,<- c2] at this
  rw [<- hz]
  exact this
 ·cases h
def V3 (n:Int):List Int:=ws W64 (10 ^n.toNat)
theorem w1y {n:Nat} (h:n < 100000000000):Ev.Sem zO8 J0 156 [iR n] [iL false (ws W64 (10 ^n))] :=by
 have c10:Cn [zO2 10] :=by show [10] =ws W64 (val W64 [10]); decide
 have e:Y1 [10] (n:Int)=ws W64 (10 ^n):=by
  unfold Y1
  rw [l4]
  rfl
 refine l6 j0f 10 _ _ (y1u false (ws W64 (10 ^n)) n) ?_
 simp only [d9,y3]
 repeat' apply And.intro
 all_goals first
  | exact trivial
  | exact rfl
  | exact c10
  | exact d5 _
  | exact w8 _
  | decide
  | (rw [l4]; omega)
def r0j:List Arg->Option (List Arg×List Prop)
 | [.c (.v (.int .i64 n))] =>some ([iL false (V3 n)],[0<=n∧n < 100000000000])
 | _=>none
theorem x0p:∀ az rs l,r0j az=some (rs,l)->d9 l->Ev.Sem zO8 J0 156 az rs:=by
 intro az rs l h hl
 unfold r0j at h
 split at h
 ·cases h
  rename_i n
  obtain⟨⟨h1,h2⟩,_⟩:=hl
  obtain⟨m,rfl⟩:=jG h1
  have:=w1y (n:=m) (by omega)
  exact this
 ·cases h
abbrev shM:AS:= .a [.v, .v, .v, .s Y8 .u64, .v, .s Y8 .u64]
def uK:qV:=m8 180 (f0a (z7 [shM,shV] (e0l true)) (z7 [shM,shV] (e0l false))) (m8 156 (z7 [shV] r0j) h0l)
theorem dE:qZ zO8 J0 uK:=d7 (yZ (m5 _ (a0t true)) (m5 _ (a0t false))) (d7 (m5 _ x0p) kF)
def bRo1:Base:=⟨zO8,J0,false,w0b,uK,200,J2⟩
theorem vS:BaseOk bRo1:=⟨progOk,jU,dE,m4⟩
abbrev o2b:Cx:=bRo1.cx 10
abbrev kR (a b c:Int):Arg:= .a [.v (.int .i64 a), .v (.int .i64 b), .v (.int .i64 c)]
abbrev fR (a b c:Bool):Arg:= .a [.v (.bool a), .v (.bool b), .v (.bool c)]
def flN (K:Int) (N D:List Int):Int:=iI.wrap (iI.wrap (iI.wrap (t1a N-t1a D)-K)-2)
def flE (K L:Int) (N D:List Int):Int:=if L < flN K N D then flN K N D else L
def flO (K:Int) (Q:List Int):Int:=iI.wrap (t1a Q-K)
abbrev flM (Q:List Int):Int:=o2c (Q.take Q.length)
def flU (Q:List Int):Int:=uI.wrap (flM Q+1)
def flB (h:Int) (Q:List Int):Bool:=match decide (h > 0) with | true=>true | false=>match h==0 with | true=>bits .and .u64 (flM Q) 1==1 | false=>false
def flC (P:Nat) (m:Int):Bool:=decide (zO2 0 < Int.fdiv m (zO2 P))
def flH (m:Int):Int:=uI.wrap (Int.tdiv m 2)
def flV (P:Nat) (Q:List Int):Bool:=Int.fdiv (flM Q) (zO2 P)==zO2 0
abbrev e1d (N D:List Int):List Prop:=[false=false,D.length=D.length,Cn D,D.length < 549755813888,N.length=N.length,Cn N,N.length < 549755813888]
abbrev h2u (N D:List Int) (e:Int) (w:Bool):List Prop:=[N.length=N.length,D.length=D.length,n2v N D e,atZ N D e=w]
abbrev q2s (K:Int) (Q:List Int) (b:Bool):List Prop:=[decide (0 < flO K Q)=b,Q.length=Q.length,Cn Q,Q.length < 549755813888]
abbrev z1w (Q:List Int):List Prop:=[Q.length<=Q.length,Cn (Q.take Q.length)]
abbrev g2d (m' e':Int) (i' a' b' c':Bool) (m e:Int) (i a b c:Bool):List Prop:=[zO3 .u64 m'=zO3 .u64 m,zO3 .i64 e'=zO3 .i64 e,zO9 i'=zO9 i,zO9 a'=zO9 a,zO9 b'=zO9 b,zO9 c'=zO9 c]
abbrev XRl:Cx:=bRo1.cxl 10
inductive Fk where
 | d
 | s
def Fk.I:Fk->Int
 | .d=>53
 | .s=>24
def Fk.J:Fk->Int
 | .d=>52
 | .s=>23
def Fk.L:Fk->Int
 | .d=> -1074
 | .s=> -149
def Fk.M:Fk->Int
 | .d=>971
 | .s=>104
def Fk.P:Fk->Nat
 | .d=>9007199254740992
 | .s=>16777216
def Fk.Q:Fk->Nat
 | .d=>4503599627370496
 | .s=>8388608
section
variable (k:Fk) (g:Option Bool) (w up car le:Bool) (n:Bool) (N D:List Int) (m e:Int) (i a b c:Bool)
def k2n:Int:=iI.wrap (flE k.I k.L N D+flO k.I (atQ N D (flE k.I k.L N D)))
def e1z:Int:=match g with
 | none=>flE k.I k.L N D
 | some _=>k2n k N D
def d2o:Int:=match up with
 | true=>flU (atQ N D (e1z k g N D))
 | false=>flM (atQ N D (e1z k g N D))
def o2u:Int:=match car with
 | true=>flH (d2o k g up N D)
 | false=>d2o k g up N D
def f2m:Int:=match car with
 | true=>iI.wrap (e1z k g N D+1)
 | false=>e1z k g N D
def h2v:List Bool:=match g with
 | none=>[false,w,false] ++([up,car,le] ++match le with | true=>[] | false=>[false])
 | some w1=>[false,w1,true,w] ++([up,car,le] ++match le with | true=>[] | false=>[false])
def f2q:List Prop:=match le with
 | true=>[]
 | false=>[false=false]
def q1k:List Prop:=match w with
 | true=>[false=false]
 | false=>[flB (atH N D (e1z k g N D)) (atQ N D (e1z k g N D))=up,zO2 0<=zO2 1∧zO2 1 < zO2 7,0<=k.J]
def w1i:List Prop:=match g with
 | none=>[]
 | some _=>h2u N D (k2n k N D) w
def l2w:Bool:=match g with
 | none=>w
 | some w1=>w1
def l2j:Bool:=match w with
 | true=>false
 | false=>flV k.Q (atQ N D (e1z k g N D))
def t2l:List Prop:=match le with
 | true=>g2d (o2u k g up car N D) (f2m k g car N D) false (!w) false (l2j k g w N D) m e i a b c
 | false=>g2d 0 0 true true true (l2j k g w N D) m e i a b c
def r1e:List Prop:=q2s k.I (atQ N D (flE k.I k.L N D)) g.isSome
def o2d:List Prop:=f2q le++([decide (f2m k g car N D<=k.M)=le,flC k.P (d2o k g up N D)=car,0<=k.I] ++(q1k k g w up N D++(z1w (atQ N D (e1z k g N D))++(w1i k g w N D++(r1e k g N D++(h2u N D (flE k.I k.L N D) (l2w g w)++(e1d N D++t2l k g w up car le N D m e i a b c)))))))
theorem j2m (hv:(w && up)=false∧(car && !up)=false):B7 XRl [] 200 126 [vlA n false N false D,kR k.I k.L k.M,iR 1] [uR m,iR e,bR i,fR a b c] (h2v g w up car le)=some (o2d k g w up car le N D m e i a b c):=by
 rcases g with _ | _ | _ <;> cases k <;> cases w <;> cases up <;> cases car <;> cases le <;> first | (exact absurd hv (by decide)) | kernel_rfl
end
def flq (N D:Nat) (e:Int):Nat:=atA N e/atB D e
def flr (N D:Nat) (e:Int):Nat:=atA N e%atB D e
def aV (K:Nat) (L:Int) (N D:Nat):Int:=if L < (bl N:Int)-bl D-K-2 then (bl N:Int)-bl D-K-2 else L
def B2 (K:Nat) (L:Int) (N D:Nat):Int:=if K < bl (flq N D (aV K L N D)) then aV K L N D+((bl (flq N D (aV K L N D)):Int)-K) else aV K L N D
def flw (N D:Nat) (e:Int):Bool:=decide (flr N D e=0)
def flh (N D:Nat) (e:Int):Int:=cmN (flr N D e*2) (atB D e)
def upB (h:Int) (q:Nat):Bool:=decide (0 < h) || (decide (h=0) && decide (q%2=1))
def vY (N D:Nat) (e:Int):Bool:= !flw N D e && upB (flh N D e) (flq N D e)
def flm (N D:Nat) (e:Int):Nat:=if vY N D e=true then flq N D e+1 else flq N D e
def p0s (K:Nat) (N D:Nat) (e:Int):Nat:=if 2 ^K<=flm N D e then flm N D e/2 else flm N D e
def m0c (K:Nat) (N D:Nat) (e:Int):Int:=if 2 ^K<=flm N D e then e+1 else e
def G8 (K:Nat) (M:Int) (N D:Nat) (e:Int):Bool:=decide (M < m0c K N D e)
def q0c (K:Nat) (N D:Nat) (e:Int):Bool:= !flw N D e && decide (flq N D e < 2 ^(K-1))
abbrev r1r (K:Nat) (M:Int) (N D:Nat) (e:Int):List Arg:=if G8 K M N D e=true then [uR 0,iR 0,bR true,fR true true (q0c K N D e)] else [uR (p0s K N D e),iR (m0c K N D e),bR false,fR (!flw N D e) false (q0c K N D e)]
theorem r0f {D:Nat} (hD:0 < D) (e:Int):0 < atB D e:=by
 unfold atB
 split
 ·exact M6 hD (x7 (by decide))
 ·exact hD
theorem uG {N D:Nat} (e:Int) (s:Nat):flq N D (e+s)=flq N D e/2 ^s:=by
 have h2:∀ k:Nat,0 < 2 ^k:=fun k=>x7 (by decide)
 unfold flq atA atB
 by_cases h0:0<=e
 ·rw [i6 (show 0<=e+(s:Int) by omega),i6 (show 0<=e+(s:Int) by omega),i6 h0,i6 h0,nO,m7,<- m9,show (e+(s:Int)).toNat=e.toNat+s by omega]
 ·rw [a8 h0,a8 h0,nO]
  by_cases h1:0<=e+(s:Int)
  ·rw [i6 h1,i6 h1,show s=(e+(s:Int)).toNat+(-e).toNat by omega,m9,<- m7,sF _ _ (h2 _)]
   rw [show ((e+((((e+(s:Int)).toNat+(-e).toNat:Nat)):Int)).toNat)=(e+(s:Int)).toNat by omega]
  ·rw [a8 h1,a8 h1,show (-e).toNat=(-(e+(s:Int))).toNat+s by omega,m9,<- m7,sF _ _ (h2 _)]
theorem k1f {K:Nat} {L:Int} {N D:Nat} :flq N D (B2 K L N D) < 2 ^K:=by
 unfold B2
 by_cases h:K < bl (flq N D (aV K L N D))
 ·rw [i6 h]
  obtain⟨s,hs⟩:∃ s,bl (flq N D (aV K L N D))=K+s:=⟨bl (flq N D (aV K L N D))-K,by omega⟩
  rw [hs,show ((K+s:Nat):Int)-K=(s:Int) by omega,uG]
  have:=c0p (flq N D (aV K L N D))
  rw [hs,m9] at this
  exact Nat.div_lt_of_lt_mul (by rw [p4]; exact this)
 ·rw [a8 h]
  exact bl_le.1 (by omega)
theorem o0r {m k:Nat} (h:bl m<=k):wl m<=k:=wl_le.2 (B9 (bl_le.1 h) (nU (by decide) k))
theorem b1e (n k:Nat):bl (n*2 ^k)<=bl n+k:=by
 refine bl_le.2 ?_
 rw [m9]
 exact T6 (c0p n) (x7 (by decide))
theorem v1d (N:Nat) (e:Int):bl (atA N e)<=bl N+(-e).toNat:=by
 unfold atA
 split
 ·omega
 ·exact b1e _ _
theorem g2k (D:Nat) (e:Int):bl (atB D e)<=bl D+e.toNat:=by
 unfold atB
 split
 ·exact b1e _ _
 ·omega
theorem u1q (N D:Nat) (e:Int):bl (flq N D e)<=bl N+(-e).toNat:=u7 (b2z (nV _ _)) (v1d N e)
theorem yK {K:Nat} {L:Int} {N D:Nat} (hK:K<=53) (hL: -1074<=L∧L<=0) (hN:bl N<=1000000) (hD:bl D<=1000000): -1100000<=aV K L N D∧aV K L N D<=1100000∧L<=aV K L N D:=by
 unfold aV
 split <;> omega
theorem y0g {K:Nat} {L:Int} {N D:Nat} (hK:K<=53) (hL: -1074<=L∧L<=0) (hN:bl N<=1000000) (hD:bl D<=1000000): -1100000<=B2 K L N D∧B2 K L N D<=5000000∧L<=B2 K L N D:=by
 obtain⟨h1,h2,h3⟩:=yK (D:=D) hK hL hN hD
 have h4:=u1q N D (aV K L N D)
 unfold B2
 split <;> omega
theorem a2p {N D:Nat} {e:Int} (hD:0 < D) (h1:bl N<=1000000) (h2:bl D<=1000000) (he: -10000000<=e∧e<=10000000):n2v (ws W64 N) (ws W64 D) e:=by
 have a:=o0r (v1d N e)
 have b:=o0r (g2k D e)
 have c:=o0r h1
 have d:=o0r h2
 refine⟨Cn.ws _,Cn.ws _,by rw [r9]; exact hD,by show wl _ < _; omega,by show wl _ < _; omega,by rw [r9]; omega,by rw [r9]; omega,by omega,by omega⟩
theorem a0w (N D:Nat) (e:Int):atQ (ws W64 N) (ws W64 D) e=ws W64 (flq N D e):=by unfold atQ; rw [r9,r9]; rfl
theorem e2g (N D:Nat) (e:Int):atH (ws W64 N) (ws W64 D) e=flh N D e:=by unfold atH; rw [r9,r9]; rfl
theorem h2c (N D:Nat) (e:Int):atZ (ws W64 N) (ws W64 D) e=flw N D e:=by unfold atZ; rw [r9,r9]; rfl
theorem m0k (n:Nat):t1a (ws W64 n)=(bl n:Int):=by unfold t1a; rw [r9]
theorem s0y {q:Nat} (h:q < W64):flM (ws W64 q)=(q:Int):=by
 unfold flM o2c
 rw [y3,r9,J5 h]
theorem q2n {n:Nat} (h:n < W64):uI.wrap (n:Int)=(n:Int):=by
 have h:n < 18446744073709551616:=h
 rw [O4]
 omega
theorem h2q {q:Nat} (h:q+1 < W64):flU (ws W64 q)=((q+1:Nat):Int):=by
 unfold flU
 rw [s0y (by omega)]
 exact q2n (n:=q+1) h
theorem d2k (P m:Nat) (hP:0 < P):flC P (m:Int)=decide (P<=m):=by
 unfold flC
 show decide ((0:Int) < Int.fdiv (m:Int) (P:Int))=_
 rw [<- Int.ofNat_fdiv]
 refine zzA167.2 ?_
 have:0 < m/P↔P<=m:=by rw [Nat.div_pos_iff]; omega
 omega
theorem y1c {m:Nat} (h:m < W64):flH (m:Int)=((m/2:Nat):Int):=by
 unfold flH
 have e:Int.tdiv (m:Int) 2=((m/2:Nat):Int):=(zM m 2).symm
 rw [e]
 exact q2n (by omega)
theorem g2m {q P:Nat} (h:q < W64) (hP:0 < P):flV P (ws W64 q)=decide (q < P):=by
 unfold flV
 rw [s0y h]
 show (Int.fdiv (q:Int) (P:Int)==0)=_
 rw [<- Int.ofNat_fdiv]
 by_cases hq:q < P
 ·rw [p0e hq,f9 hq]; rfl
 ·rw [d4 hq]
  refine s6 fun e=>hq ?_
  have e:((q/P:Nat):Int)=0:=e
  have:q/P=0:=by omega
  exact (Nat.div_eq_zero_iff_lt hP).1 this
theorem j2g {q:Nat} (h:Int) (hq:q < W64):flB h (ws W64 q)=upB h q:=by
 unfold flB upB
 rw [s0y hq,c2d hq]
 by_cases h1:0 < h
 ·rw [f9 (show h > 0 from h1)]; rfl
 ·rw [d4 (show ¬h > 0 from h1)]
  by_cases h2:h=0
  ·rw [h2]
   show (((q%2:Nat):Int)==1)=(false || (true && decide (q%2=1)))
   by_cases h3:q%2=1
   ·rw [h3]; rfl
   ·rw [d4 h3]
    exact s6 (by omega)
  ·rw [s6 h2,d4 h2]; rfl
theorem ap2 {a b:List Prop} (h:d9 a) (k:d9 b):d9 (a++b):=(m3 _ _).2 ⟨h,k⟩
theorem gW {n:Int} (h0: -9223372036854775808<=n) (h1:n<=9223372036854775807):iI.wrap n=n:=by
 have:=C8 n
 omega
theorem f2c {K:Nat} {L:Int} {N D:Nat} (hK:K<=53) (hN:bl N<=1000000) (hD:bl D<=1000000):flE K L (ws W64 N) (ws W64 D)=aV K L N D:=by
 have e:flN K (ws W64 N) (ws W64 D)=(bl N:Int)-bl D-K-2:=by
  unfold flN
  rw [m0k,m0k,gW (n:=(bl N:Int)-bl D) (by omega) (by omega),gW (n:=(bl N:Int)-bl D-K) (by omega) (by omega),gW (by omega) (by omega)]
 unfold flE aV
 rw [e]
theorem v1e {K q:Nat} (hK:K<=53) (h:bl q<=10000000):flO K (ws W64 q)=(bl q:Int)-K:=by
 unfold flO
 rw [m0k,gW (by omega) (by omega)]
theorem c1x {N D:Nat} (h1:bl N<=1000000) (h2:bl D<=1000000):d9 (e1d (ws W64 N) (ws W64 D)):=by
 have c:=o0r h1
 have d:=o0r h2
 exact⟨rfl,rfl,Cn.ws _,by show wl _ < _; omega,rfl,Cn.ws _,by show wl _ < _; omega,a7⟩
theorem k1x {N D:Nat} {e:Int} {w:Bool} (hD:0 < D) (h1:bl N<=1000000) (h2:bl D<=1000000) (he: -10000000<=e∧e<=10000000) (hw:flw N D e=w):d9 (h2u (ws W64 N) (ws W64 D) e w):=
 ⟨rfl,rfl,a2p hD h1 h2 he,by rw [h2c]; exact hw,a7⟩
theorem z1k {K q:Nat} {b:Bool} (hK:K<=53) (h:bl q<=10000000) (hb:decide (K < bl q)=b):d9 (q2s K (ws W64 q) b):=by
 have c:=o0r h
 refine⟨?_,rfl,Cn.ws _,by show wl _ < _; omega,a7⟩
 rw [v1e hK h,<- hb]
 exact zzA167.2 (by omega)
theorem q1v (q:Nat):d9 (z1w (ws W64 q)):=⟨d5 _,by rw [y3]; exact Cn.ws _,a7⟩
def Fk.K:Fk->Nat
 | .d=>53
 | .s=>24
section
variable (k:Fk)
theorem Fk.i:k.I=(k.K:Int):=by cases k <;> rfl
theorem Fk.p:k.P=2 ^k.K:=by cases k <;> rfl
theorem Fk.q:k.Q=2 ^(k.K-1):=by cases k <;> rfl
theorem Fk.k53:k.K<=53:=by cases k <;> decide
theorem Fk.l: -1074<=k.L∧k.L<=0:=by cases k <;> decide
theorem Fk.w:k.P < W64∧0 < k.P∧0 < k.Q:=by cases k <;> decide
theorem i1g (n:Bool) {N D:Nat} (hD:0 < D) (h1:bl N<=1000000) (h2:bl D<=1000000):
  Ev.Sem zO8 J0 126 [vlA n false (ws W64 N) false (ws W64 D),kR k.I k.L k.M,iR 1] (r1r k.K k.M N D (B2 k.K k.L N D)):=by
 have q0:=k1f (K:=k.K) (L:=k.L) (N:=N) (D:=D)
 have r0:=yK (K:=k.K) (L:=k.L) (D:=D) k.k53 k.l h1 h2
 have r1:=y0g (K:=k.K) (L:=k.L) (D:=D) k.k53 k.l h1 h2
 have hE0:flE k.I k.L (ws W64 N) (ws W64 D)=aV k.K k.L N D:=by rw [Fk.i]; exact f2c k.k53 h1 h2
 have hb0:bl (flq N D (aV k.K k.L N D))<=10000000:=by
  have:=u1q N D (aV k.K k.L N D)
  omega
 have hO:flO k.I (ws W64 (flq N D (aV k.K k.L N D)))=(bl (flq N D (aV k.K k.L N D)):Int)- (k.K:Nat):=by rw [Fk.i]; exact v1e k.k53 hb0
 have l:=k.l
 have k5:=k.k53
 obtain⟨g,hg⟩:∃ g:Option Bool,(match g with | none=>decide (k.K < bl (flq N D (aV k.K k.L N D)))=false | some w1=>decide (k.K < bl (flq N D (aV k.K k.L N D)))=true∧flw N D (aV k.K k.L N D)=w1):=by
  by_cases ho:k.K < bl (flq N D (aV k.K k.L N D))
  ·exact⟨some (flw N D (aV k.K k.L N D)),f9 ho,rfl⟩
  ·exact⟨none,d4 ho⟩
 have hEg:e1z k g (ws W64 N) (ws W64 D)=B2 k.K k.L N D:=by
  cases g with
  | none=>
   unfold B2
   rw [a8 (O2 hg)]
   exact hE0
  | some w1=>
   have he:B2 k.K k.L N D=aV k.K k.L N D+((bl (flq N D (aV k.K k.L N D)):Int)- (k.K:Nat)):=by unfold B2; rw [i6 (G1 hg.1)]
   show k2n k (ws W64 N) (ws W64 D)=_
   unfold k2n
   rw [hE0,a0w,hO,<- he,gW (by omega) (by omega)]
 have hob3:∀ w,flw N D (B2 k.K k.L N D)=w->d9 (w1i k g w (ws W64 N) (ws W64 D)):=fun w hw=>by
  cases g with
  | none=>trivial
  | some w1=>
   show d9 (h2u _ _ (e1z k (some w1) (ws W64 N) (ws W64 D)) w)
   rw [hEg]
   exact k1x hD h1 h2 (by omega) hw
 have hov:d9 (r1e k g (ws W64 N) (ws W64 D)):=by
  unfold r1e
  rw [hE0,a0w,Fk.i]
  refine z1k k5 hb0 ?_
  cases g with
  | none=>exact hg
  | some w1=>exact hg.1
 have hw1:∀ w,flw N D (B2 k.K k.L N D)=w->flw N D (aV k.K k.L N D)=l2w g w:=fun w hw=>by
  cases g with
  | none=>
   have he:B2 k.K k.L N D=aV k.K k.L N D:=by unfold B2; rw [a8 (O2 hg)]
   rw [he] at hw
   exact hw
  | some w1=>exact hg.2
 clear hg hO
 generalize hE:B2 k.K k.L N D=e at*
 have kp:=k.p
 have kw:=k.w
 have hqP:flq N D e < k.P:=by rw [kp]; exact q0
 have hqW:flq N D e < W64:=nL hqP kw.1
 have hq1:flq N D e+1 < W64:=A5 hqP kw.1
 have hM:d2o k g (vY N D e) (ws W64 N) (ws W64 D)=((flm N D e:Nat):Int):=by
  unfold d2o flm
  rw [hEg,a0w]
  cases vY N D e with
  | true=>rw [i6 rfl]; exact h2q hq1
  | false=>rw [a8 (by decide)]; exact s0y hqW
 have hmW:flm N D e < W64:=by unfold flm; split <;> omega
 obtain⟨car,hcar⟩:∃ car,decide (k.P<=flm N D e)=car:=⟨_,rfl⟩
 have hcP:flC k.P ((flm N D e:Nat):Int)=car:=by rw [d2k _ _ kw.2.1]; exact hcar
 have hM2:o2u k g (vY N D e) car (ws W64 N) (ws W64 D)=((p0s k.K N D e:Nat):Int):=by
  unfold o2u p0s
  rw [hM,<- kp]
  cases car with
  | true=>rw [i6 (G1 hcar)]; exact y1c hmW
  | false=>rw [a8 (O2 hcar)]
 have hE2:f2m k g car (ws W64 N) (ws W64 D)=m0c k.K N D e:=by
  unfold f2m m0c
  rw [hEg,<- kp]
  cases car with
  | true=>rw [i6 (G1 hcar)]; exact gW (by omega) (by omega)
  | false=>rw [a8 (O2 hcar)]
 obtain⟨w,hw⟩:∃ w,flw N D e=w:=⟨_,rfl⟩
 have hU:l2j k g w (ws W64 N) (ws W64 D)=q0c k.K N D e:=by
  unfold l2j q0c
  rw [hw,hEg,a0w,<- k.q]
  cases w with
  | true=>rfl
  | false=>exact g2m hqW kw.2.2
 have hv:(w && vY N D e)=false∧(car && !vY N D e)=false:=by
  constructor
  ·unfold vY
   rw [hw]
   cases w <;> rfl
  ·cases hu:vY N D e with
   | true=>cases car <;> rfl
   | false=>
    have:flm N D e=flq N D e:=by unfold flm; rw [hu]; rfl
    have:car=false:=by rw [<- hcar,this]; exact d4 (by omega)
    rw [this]
    rfl
 have hob2:d9 (q1k k g w (vY N D e) (ws W64 N) (ws W64 D)):=by
  unfold q1k
  cases w with
  | true=>exact⟨rfl,a7⟩
  | false=>
   refine⟨?_,⟨by decide,by decide⟩,by cases k <;> decide,a7⟩
   rw [hEg,a0w,j2g _ hqW,e2g]
   unfold vY
   rw [hw]
   rfl
 obtain⟨le,hle⟩:∃ le,decide (m0c k.K N D e<=k.M)=le:=⟨_,rfl⟩
 have way:=fun m' e' i' a' b' c'=>j2m k g w (vY N D e) car le n (ws W64 N) (ws W64 D) m' e' i' a' b' c' hv
 have T:∀ {X:List Prop},d9 X->d9 (f2q le++([decide (f2m k g car (ws W64 N) (ws W64 D)<=k.M)=le,flC k.P (d2o k g (vY N D e) (ws W64 N) (ws W64 D))=car,0<=k.I] ++(q1k k g w (vY N D e) (ws W64 N) (ws W64 D)++(z1w (atQ (ws W64 N) (ws W64 D) (e1z k g (ws W64 N) (ws W64 D)))++(w1i k g w (ws W64 N) (ws W64 D)++(r1e k g (ws W64 N) (ws W64 D)++(h2u (ws W64 N) (ws W64 D) (flE k.I k.L (ws W64 N) (ws W64 D)) (l2w g w)++(e1d (ws W64 N) (ws W64 D)++X)))))))):=fun hX=>by
  refine ap2 (by cases le <;> first | trivial | exact⟨rfl,a7⟩) (ap2 ⟨by rw [hE2]; exact hle,by rw [hM]; exact hcP,by cases k <;> decide,a7⟩ (ap2 hob2 (ap2 (by rw [hEg,a0w]; exact q1v _) (ap2 (hob3 w hw) (ap2 hov (ap2 (by rw [hE0]; exact k1x hD h1 h2 (by omega) (hw1 w hw)) (ap2 (c1x h1 h2) hX)))))))
 show Ev.Sem _ _ _ _ (if G8 k.K k.M N D e=true then _ else _)
 cases le with
 | true=>
  have:G8 k.K k.M N D e=false:=by unfold G8; exact d4 (by have:=G1 hle; omega)
  rw [this,a8 (by decide)]
  refine h1v vS 10 [] _ (way _ _ _ _ _ _) (T ?_)
  exact⟨by rw [hM2],by rw [hE2],rfl,by rw [hw],rfl,by rw [hU],a7⟩
 | false=>
  have:G8 k.K k.M N D e=true:=by unfold G8; exact f9 (by have:=O2 hle; omega)
  rw [this,i6 rfl]
  refine h1v vS 10 [] _ (way _ _ _ _ _ _) (T ?_)
  exact⟨rfl,rfl,rfl,rfl,rfl,by rw [hU],a7⟩
end
theorem q0o (n:Bool) {N D:Nat} (hD:0 < D) (h1:bl N<=1000000) (h2:bl D<=1000000):
  Ev.Sem zO8 J0 126 [vlA n false (ws W64 N) false (ws W64 D),kR 53 (-1074) 971,iR 1] (r1r 53 971 N D (B2 53 (-1074) N D)):=i1g .d n hD h1 h2
abbrev dA (n:Bool) (d:List UInt8) (e:Int):Arg:= .c (.v (.agg ⟨[.bool n, .string ⟨⟨d⟩⟩, .int .i64 e]⟩))
theorem l2m (n1 n2 n a b:Bool) (d1 d2:List UInt8) (e1 e2:Int) (N D:List Int):B7 o2b [] 200 125 [dA n1 d1 e1,dA n2 d2 e2] [vlA n a N b D] [false,false,true] =some [(E5 d1).length<=(E5 d1).length,(V3 (iI.wrap (e1-e2))).length<=(V3 (iI.wrap (e1-e2))).length,Cn (zO10 (E5 d1).length (E5 d1)),Cn (zO10 (V3 (iI.wrap (e1-e2))).length (V3 (iI.wrap (e1-e2)))),(zO10 (E5 d1).length (E5 d1)).length < 274877906944,(zO10 (V3 (iI.wrap (e1-e2))).length (V3 (iI.wrap (e1-e2)))).length < 274877906944,zO2 0<=iI.wrap (e1-e2)∧iI.wrap (e1-e2) < zO2 100000000000,decide (zO2 0<=iI.wrap (e1-e2))=true,R6 d2,d2.length < 100000000000,R6 d1,d1.length < 100000000000,decide (iI.wrap (iI.wrap (zO2 d1.length-zO2 d2.length)+iI.wrap (e1-e2)) < Int.negSucc 999)=false,decide (zO2 1000 < iI.wrap (iI.wrap (zO2 d1.length-zO2 d2.length)+iI.wrap (e1-e2)))=false,zO2 0<=zO2 1∧1 < 18446744073709551616,zO2 0<=zO2 1∧1 < 18446744073709551616,(zO9 !n1==n2)=zO9 n,zO9 false=zO9 false,zO9 (vZ false (C4 (zO10 (E5 d1).length (E5 d1)) (zO10 (V3 (iI.wrap (e1-e2))).length (V3 (iI.wrap (e1-e2))))))=zO9 a,(C4 (zO10 (E5 d1).length (E5 d1)) (zO10 (V3 (iI.wrap (e1-e2))).length (V3 (iI.wrap (e1-e2))))).length=N.length∧(C4 (zO10 (E5 d1).length (E5 d1)) (zO10 (V3 (iI.wrap (e1-e2))).length (V3 (iI.wrap (e1-e2))))).length<=(C4 (zO10 (E5 d1).length (E5 d1)) (zO10 (V3 (iI.wrap (e1-e2))).length (V3 (iI.wrap (e1-e2))))).length∧zO10 (C4 (zO10 (E5 d1).length (E5 d1)) (zO10 (V3 (iI.wrap (e1-e2))).length (V3 (iI.wrap (e1-e2))))).length (C4 (zO10 (E5 d1).length (E5 d1)) (zO10 (V3 (iI.wrap (e1-e2))).length (V3 (iI.wrap (e1-e2)))))=N,zO9 false=zO9 b,(E5 d2).length=D.length∧(E5 d2).length<=(E5 d2).length∧zO10 (E5 d2).length (E5 d2)=D] :=by kernel_rfl
theorem n2j (n1 n2 n a b:Bool) (d1 d2:List UInt8) (e1 e2:Int) (N D:List Int):B7 o2b [] 200 125 [dA n1 d1 e1,dA n2 d2 e2] [vlA n a N b D] [false,false,false] =some [(E5 d2).length<=(E5 d2).length,(V3 (iI.wrap (zO2 0-iI.wrap (e1-e2)))).length<=(V3 (iI.wrap (zO2 0-iI.wrap (e1-e2)))).length,Cn (zO10 (E5 d2).length (E5 d2)),Cn (zO10 (V3 (iI.wrap (zO2 0-iI.wrap (e1-e2)))).length (V3 (iI.wrap (zO2 0-iI.wrap (e1-e2))))),(zO10 (E5 d2).length (E5 d2)).length < 274877906944,(zO10 (V3 (iI.wrap (zO2 0-iI.wrap (e1-e2)))).length (V3 (iI.wrap (zO2 0-iI.wrap (e1-e2))))).length < 274877906944,zO2 0<=iI.wrap (zO2 0-iI.wrap (e1-e2))∧iI.wrap (zO2 0-iI.wrap (e1-e2)) < zO2 100000000000,decide (zO2 0<=iI.wrap (e1-e2))=false,R6 d2,d2.length < 100000000000,R6 d1,d1.length < 100000000000,decide (iI.wrap (iI.wrap (zO2 d1.length-zO2 d2.length)+iI.wrap (e1-e2)) < Int.negSucc 999)=false,decide (zO2 1000 < iI.wrap (iI.wrap (zO2 d1.length-zO2 d2.length)+iI.wrap (e1-e2)))=false,zO2 0<=zO2 1∧1 < 18446744073709551616,zO2 0<=zO2 1∧1 < 18446744073709551616,(zO9 !n1==n2)=zO9 n,zO9 false=zO9 false,zO9 false=zO9 a,(E5 d1).length=N.length∧(E5 d1).length<=(E5 d1).length∧zO10 (E5 d1).length (E5 d1)=N,zO9 (vZ false (C4 (zO10 (E5 d2).length (E5 d2)) (zO10 (V3 (iI.wrap (zO2 0-iI.wrap (e1-e2)))).length (V3 (iI.wrap (zO2 0-iI.wrap (e1-e2)))))))=zO9 b,(C4 (zO10 (E5 d2).length (E5 d2)) (zO10 (V3 (iI.wrap (zO2 0-iI.wrap (e1-e2)))).length (V3 (iI.wrap (zO2 0-iI.wrap (e1-e2)))))).length=D.length∧(C4 (zO10 (E5 d2).length (E5 d2)) (zO10 (V3 (iI.wrap (zO2 0-iI.wrap (e1-e2)))).length (V3 (iI.wrap (zO2 0-iI.wrap (e1-e2)))))).length<=(C4 (zO10 (E5 d2).length (E5 d2)) (zO10 (V3 (iI.wrap (zO2 0-iI.wrap (e1-e2)))).length (V3 (iI.wrap (zO2 0-iI.wrap (e1-e2)))))).length∧zO10 (C4 (zO10 (E5 d2).length (E5 d2)) (zO10 (V3 (iI.wrap (zO2 0-iI.wrap (e1-e2)))).length (V3 (iI.wrap (zO2 0-iI.wrap (e1-e2)))))).length (C4 (zO10 (E5 d2).length (E5 d2)) (zO10 (V3 (iI.wrap (zO2 0-iI.wrap (e1-e2)))).length (V3 (iI.wrap (zO2 0-iI.wrap (e1-e2))))))=D] :=by kernel_rfl
def qtN (d:List UInt8) (e:Int):Nat:=if 0<=e then dgN d*10 ^e.toNat else dgN d
def qtD (d:List UInt8) (e:Int):Nat:=if 0<=e then dgN d else dgN d*10 ^(-e).toNat
theorem t0s (k:Nat):V3 (k:Int)=ws W64 (10 ^k):=by unfold V3; rw [l4]
theorem i1q (d:List UInt8):E5 d=ws W64 (dgN d):=rfl
theorem n0h (k:Nat):wl (10 ^k)<=k+1:=fQ (k+1) (Nat.pow_lt_pow_right (by decide) (cP k))
theorem x1y {d:List UInt8} (h:R6 d):wl (dgN d)<=d.length:=fQ _ (zN h)
theorem g0k (n1 n2:Bool) {d1 d2:List UInt8} {e1 e2:Int} (h1:R6 d1) (h2:R6 d2) (l1:d1.length<=100000) (l2:d2.length<=100000) (he: -1000000<=e1-e2∧e1-e2<=1000000)
  (hf: -1000<=(d1.length:Int)-d2.length+(e1-e2)∧(d1.length:Int)-d2.length+(e1-e2)<=1000):
  Ev.Sem zO8 J0 125 [dA n1 d1 e1,dA n2 d2 e2] [vlA (n1 !=n2) false (ws W64 (qtN d1 (e1-e2))) false (ws W64 (qtD d2 (e1-e2)))] :=by
 have w1:=x1y h1
 have w2:=x1y h2
 have iE:iI.wrap (e1-e2)=e1-e2:=gW (by omega) (by omega)
 have iF:iI.wrap (iI.wrap (zO2 d1.length-zO2 d2.length)+(e1-e2))=(d1.length:Int)-d2.length+(e1-e2):=by
  show iI.wrap (iI.wrap ((d1.length:Int)- (d2.length:Int))+(e1-e2))=_
  rw [gW (n:=(d1.length:Int)- (d2.length:Int)) (by omega) (by omega),gW (by omega) (by omega)]
 have f1:decide (zO2 1000 < iI.wrap (iI.wrap (zO2 d1.length-zO2 d2.length)+(e1-e2)))=false:=by
  rw [iF]
  exact d4 (by show ¬(1000:Int) < _; omega)
 have f2:decide (iI.wrap (iI.wrap (zO2 d1.length-zO2 d2.length)+(e1-e2)) < Int.negSucc 999)=false:=by
  rw [iF]
  exact d4 (by show ¬_ < (-1000:Int); omega)
 by_cases h0:0<=e1-e2
 ·obtain⟨k,hk⟩:=jG h0
  have hN:qtN d1 (e1-e2)=dgN d1*10 ^k:=by unfold qtN; rw [i6 h0,hk,l4]
  have hD:qtD d2 (e1-e2)=dgN d2:=i6 h0
  have eT:V3 (e1-e2)=ws W64 (10 ^k):=by rw [hk,t0s]
  have f3:decide (zO2 0<=e1-e2)=true:=f9 h0
  have wt:=n0h k
  rw [hN,hD]
  refine l6 vS 10 _ _ (l2m n1 n2 (n1 !=n2) false false d1 d2 e1 e2 _ _) ?_
  simp only [d9,iE,eT,i1q,y3,Q3,f1,f2,f3]
  repeat' apply And.intro
  all_goals first
   | assumption
   | exact trivial
   | exact Cn.ws _
   | (show wl _ < _; omega)
   | exact d5 (List.length _)
   | exact rfl
   | omega
   | decide
   | (show e1-e2 < 100000000000; omega)
 ·obtain⟨k,hk⟩:=jG (show 0<=-(e1-e2) by omega)
  have hN:qtN d1 (e1-e2)=dgN d1:=a8 h0
  have hD:qtD d2 (e1-e2)=dgN d2*10 ^k:=by unfold qtD; rw [a8 h0,hk,l4]
  have iM:iI.wrap (zO2 0- (e1-e2))=(k:Int):=by
   show iI.wrap (0- (e1-e2))=_
   rw [gW (by omega) (by omega)]
   omega
  have f3:decide (zO2 0<=e1-e2)=false:=d4 h0
  obtain⟨T,hT⟩:∃ T,T=10 ^k:=⟨_,rfl⟩
  have wt:wl T<=k+1:=by rw [hT]; exact n0h k
  have eT:V3 (k:Int)=ws W64 T:=by rw [hT]; exact t0s k
  rw [hN,hD,<- hT]
  clear hT hN hD
  have k0:zO2 0<=(k:Int):=w8 _
  have k1:(k:Int) < zO2 100000000000:=by
   show (k:Int) < 100000000000
   omega
  refine l6 vS 10 _ _ (n2j n1 n2 (n1 !=n2) false false d1 d2 e1 e2 _ _) ?_
  simp only [d9,iE,iM,eT,i1q,y3,Q3,f1,f2,f3]
  exact⟨d5 _,d5 _,Cn.ws _,Cn.ws _,(by show wl _ < _; omega),(by show wl _ < _; omega),⟨k0,k1⟩,a7,h2,(by omega),h1,(by omega),a7,a7,⟨by decide,by decide⟩,⟨by decide,by decide⟩,rfl,a7,a7,⟨a7,d5 _,a7⟩,rfl,⟨a7,d5 _,a7⟩,a7⟩
end Go.Proofs.YtbdaebagmmmijaaGreatDoor
namespace Go.Proofs.YtbdaebagmmmijaaGreatDoor.VaS
open Go
def p63:Nat:=9223372036854775808
def gF (x:Nat):Bool:=decide (9218868437227405312 < x%p63)
def keyI (x:Nat):Int:=if gF x then 9223372036854775807 else if p63<=x then -((x%p63:Nat):Int)-1 else ((x%p63:Nat):Int)
def k1z (x:Nat):Int:=if p63<=x then -((x%p63:Nat):Int) else ((x%p63:Nat):Int)
def v1r (x y:Nat):Option Ordering:=if gF x || gF y then none else some (compare (k1z x) (k1z y))
def z0h (r:Nat):Nat:=if r < 4503599627370496 then r else (4503599627370496+r%4503599627370496)*2 ^(r/4503599627370496-1)
theorem l0w (r:Nat):z0h r < z0h (r+1):=by
 unfold z0h
 by_cases h1:r+1 < 4503599627370496
 ·rw [i6 h1,i6 (by omega)]; omega
 ·by_cases h2:r < 4503599627370496
  ·have e:r=4503599627370495:=by omega
   subst e
   decide
  ·rw [a8 h2,a8 h1]
   generalize hq:r/4503599627370496=q
   generalize hm:r%4503599627370496=m
   have hr:r=4503599627370496*q+m:=by rw [<- hq,<- hm]; exact (eJ r _).symm
   have hml:m < 4503599627370496:=by rw [<- hm]; exact C7 _ (by decide)
   have hq1:1<=q:=by omega
   by_cases h3:m+1 < 4503599627370496
   ·have e1:(r+1)/4503599627370496=q:=by omega
    have e2:(r+1)%4503599627370496=m+1:=by omega
    rw [e1,e2]
    exact T6 (by omega) (E6 _)
   ·have e1:(r+1)/4503599627370496=q+1:=by omega
    have e2:(r+1)%4503599627370496=0:=by omega
    rw [e1,e2,show q+1-1=(q-1)+1 by omega,v6,show m=4503599627370495 by omega]
    have:=E6 (q-1)
    omega
theorem b1f {a b:Nat} (h:a < b):z0h a < z0h b:=by
 induction b with
 | zero=>omega
 | succ b ih=>
  rcases E0 a b with h' | h'
  ·exact nL (ih h') (l0w b)
  ·have:a=b:=by omega
   subst this
   exact l0w a
theorem Z8 {a b:Nat} :z0h a < z0h b↔a < b:=by
 constructor
 ·intro h
  rcases iG a b with h' | h' | h'
  ·exact h'
  ·subst h'; omega
  ·have:=b1f h'; omega
 ·exact b1f
def sg (neg:Bool) (m:Nat):Int:=if neg then -(m:Int) else (m:Int)
theorem e1e:z0h 0=0:=by decide
theorem e2x (s t:Bool) (a b:Nat):compare (sg s (z0h a)) (sg t (z0h b))=compare (sg s a) (sg t b):=by
 have key:∀ x y x' y':Int,(x < y↔x' < y')->(y < x↔y' < x')->compare x y=compare x' y':=by
  intro x y x' y' h1 h2
  show (if x < y then Ordering.lt else if x=y then .eq else .gt)=(if x' < y' then Ordering.lt else if x'=y' then .eq else .gt)
  by_cases hx:x < y
  ·rw [i6 hx,i6 (h1.1 hx)]
  ·rw [a8 hx,a8 (fun h=>hx (h1.2 h))]
   by_cases hy:x=y
   ·have e:x'=y':=by
     have a1:¬ x' < y':=fun h=>hx (h1.2 h)
     have a2:¬ y' < x':=fun h=>by have:=h2.2 h; omega
     omega
    rw [i6 hy,i6 e]
   ·have e:x'≠y':=by
     have:y < x:=by omega
     have:=h2.1 this
     omega
    rw [a8 hy,a8 e]
 have ha:= @Z8 0 a
 have hb:= @Z8 0 b
 have hab:= @Z8 a b
 have hba:= @Z8 b a
 rw [e1e] at ha hb
 unfold sg
 cases s <;> cases t <;> simp only [M7,C5,C6] <;> refine key _ _ _ _ ?_ ?_ <;> omega
theorem d1z (x y:Int) {k:Nat} (hk:0 < k):compare (x*(k:Int)) (y*(k:Int))=compare x y:=by
 show (if x*(k:Int) < y*(k:Int) then Ordering.lt else if x*(k:Int)=y*(k:Int) then .eq else .gt)=(if x < y then Ordering.lt else if x=y then .eq else .gt)
 have hk':(0:Int) < (k:Int):=by omega
 have h1:x*(k:Int) < y*(k:Int)↔x < y:=Int.mul_lt_mul_right hk'
 have h2:x*(k:Int)=y*(k:Int)↔x=y:=⟨fun h=>Int.eq_of_mul_eq_mul_right (by omega) h,fun h=>by rw [h]⟩
 by_cases a1:x < y
 ·rw [i6 a1,i6 (h1.2 a1)]
 ·rw [a8 a1,a8 (fun h=>a1 (h1.1 h))]
  by_cases a2:x=y
  ·rw [i6 a2,i6 (h2.2 a2)]
  ·rw [a8 a2,a8 (fun h=>a2 (h2.1 h))]
def d2t (r:Nat):Nat:=if r < 4503599627370496 then r else 4503599627370496+r%4503599627370496
def pH (r:Nat):Nat:=if r < 4503599627370496 then 0 else r/4503599627370496-1
theorem a1s (r:Nat):z0h r=d2t r*2 ^pH r:=by
 unfold z0h d2t pH
 split <;> simp
theorem fmt:Ieee.double.signWeight=p63∧Ieee.double.binade=4503599627370496∧Ieee.double.infRung=9218868437227405312∧Ieee.double.leastPlace= -1074:=by decide
theorem qS {x:Nat} (hx:x < 18446744073709551616) (h:x%p63 < 9218868437227405312):Ieee.double.read x= .number (decide (p63<=x)) (d2t (x%p63)) (-1074+(pH (x%p63):Nat)):=by
 obtain⟨e1,e2,e3,e4⟩:=fmt
 have hs:(x/p63%2==1)=decide (p63<=x):=by
  unfold p63 at*
  by_cases hc:9223372036854775808<=x
  ·rw [f9 hc,show x/9223372036854775808=1 by omega]; rfl
  ·rw [d4 hc,show x/9223372036854775808=0 by omega]; rfl
 unfold Ieee.Format.read
 simp only [e1,e2,e3,e4,hs,h,C6]
 unfold d2t pH
 split
 ·simp
 ·rfl
theorem f0c {x:Nat} (hx:x < 18446744073709551616) (h:x%p63=9218868437227405312):Ieee.double.read x= .infinity (decide (p63<=x)):=by
 obtain⟨e1,e2,e3,e4⟩:=fmt
 have hs:(x/p63%2==1)=decide (p63<=x):=by
  unfold p63 at*
  by_cases hc:9223372036854775808<=x
  ·rw [f9 hc,show x/9223372036854775808=1 by omega]; rfl
  ·rw [d4 hc,show x/9223372036854775808=0 by omega]; rfl
 unfold Ieee.Format.read
 simp only [e1,e2,e3,e4,hs,h]
 simp
theorem s0k {x:Nat} (h:9218868437227405312 < x%p63):∃ n f,Ieee.double.read x= .nan n f:=by
 obtain⟨e1,e2,e3,e4⟩:=fmt
 unfold Ieee.Format.read
 simp only [e1,e2,e3,e4]
 rw [a8 (by omega),a8 (by omega),a8 (by omega)]
 exact⟨_,_,rfl⟩
theorem oG (s:Bool) (m a c:Nat) (h:c<=a):Ieee.signed s m (a-c)*((2 ^c:Nat):Int)=sg s (m*2 ^a):=by
 have e:m <<< (a-c)*2 ^c=m*2 ^a:=by
  rw [kP,m7,<- m9,zE h]
 unfold Ieee.signed sg
 cases s
 ·simp only [M7,C5]
  rw [<- e]; push_cast; rfl
 ·simp only [C6]
  rw [<- e,Int.neg_mul]; push_cast; rfl
theorem dJ {x y:Nat} (hx:x < 18446744073709551616) (hy:y < 18446744073709551616):Ieee.double.order x y=v1r x y:=by
 unfold Ieee.Format.order v1r
 by_cases nx:9218868437227405312 < x%p63
 ·obtain⟨n,f,e⟩:=s0k nx
  rw [e,show gF x=true from f9 nx]
  rfl
 by_cases ny:9218868437227405312 < y%p63
 ·obtain⟨n,f,e⟩:=s0k ny
  rw [e,show gF y=true from f9 ny,Bool.or_true,i6 rfl]
  generalize Ieee.double.read x=d
  cases d <;> rfl
 rw [show gF x=false from d4 nx,show gF y=false from d4 ny]
 have hsv:∀ z,k1z z=sg (decide (p63<=z)) (z%p63):=fun z=>by
  unfold k1z sg
  by_cases h:p63<=z <;> simp [h]
 rw [hsv,hsv]
 simp only [Bool.or_self,M7,C5]
 have cmp_def:∀ a b:Int,compare a b=if a < b then Ordering.lt else if a=b then .eq else .gt:=fun _ _=>rfl
 by_cases ix:x%p63=9218868437227405312
 ·rw [f0c hx ix]
  by_cases iy:y%p63=9218868437227405312
  ·rw [f0c hy iy,ix,iy]
   generalize decide (p63<=x)=s
   generalize decide (p63<=y)=t
   cases s <;> cases t <;> decide
  ·rw [qS hy (by omega),ix]
   generalize decide (p63<=x)=s
   generalize decide (p63<=y)=t
   have:y%p63 < 9218868437227405312:=by omega
   generalize y%p63=b at this
   simp only [Ieee.Datum.order,cmp_def]
   cases s <;> cases t <;> simp only [sg,M7,C5,C6,G3]
   ·rw [a8 (by omega),a8 (by omega)]
   ·rw [a8 (by omega),a8 (by omega)]
   ·rw [i6 (by omega)]
   ·rw [i6 (by omega)]
 ·rw [qS hx (by omega)]
  by_cases iy:y%p63=9218868437227405312
  ·rw [f0c hy iy,iy]
   generalize decide (p63<=x)=s
   generalize decide (p63<=y)=t
   have:x%p63 < 9218868437227405312:=by omega
   generalize x%p63=b at this
   simp only [Ieee.Datum.order,cmp_def]
   cases s <;> cases t <;> simp only [sg,M7,C5,C6,G3]
   ·rw [i6 (by omega)]
   ·rw [a8 (by omega),a8 (by omega)]
   ·rw [i6 (by omega)]
   ·rw [a8 (by omega),a8 (by omega)]
  ·rw [qS hy (by omega)]
   generalize decide (p63<=x)=s
   generalize decide (p63<=y)=t
   generalize x%p63=a
   generalize y%p63=b
   simp only [Ieee.Datum.order,G3]
   rw [<- e2x,a1s,a1s]
   have hc:min (-1074+((pH a:Nat):Int)) (-1074+((pH b:Nat):Int))= -1074+((min (pH a) (pH b):Nat):Int):=by omega
   rw [hc]
   have e1:(-1074+((pH a:Nat):Int)- (-1074+((min (pH a) (pH b):Nat):Int))).toNat=pH a-min (pH a) (pH b):=by omega
   have e2:(-1074+((pH b:Nat):Int)- (-1074+((min (pH a) (pH b):Nat):Int))).toNat=pH b-min (pH a) (pH b):=by omega
   rw [e1,e2,<- oG s (d2t a) (pH a) (min (pH a) (pH b)) (by omega),<- oG t (d2t b) (pH b) (min (pH a) (pH b)) (by omega)]
   exact (d1z _ _ (E6 _)).symm
structure Val where
 k:Int
 x:Nat
 s:List UInt8
 b:Bool
 f:Int
def mM (x y:Int):Int:=if x < y then -1 else if y < x then 1 else 0
end Go.Proofs.YtbdaebagmmmijaaGreatDoor.VaS
namespace Go.Proofs.YtbdaebagmmmijaaGreatDoor
open Go
theorem uA {m k:Nat} (h1:2 ^k<=m) (h2:m < 2 ^(k+1)):m.log2=k:=by
 have h0:m≠0:=by
  have:0 < 2 ^k:=x7 (by decide)
  omega
 exact (Nat.log2_eq_iff h0).2 ⟨h1,h2⟩
theorem s0b {m:Nat} (h:m≠0):2 ^m.log2<=m∧m < 2 ^(m.log2+1):=(Nat.log2_eq_iff h).1 rfl
theorem kN {n M k:Nat} (h:n=M*2 ^k) (hM:0 < M):Ieee.Toward.even.cut false n k=M:=by
 have h2:0 < 2 ^k:=x7 (by decide)
 have hn:n≠0:=by
  have:=M6 hM h2
  omega
 have hk:k<=n.log2:=by
  have h3:2 ^k<=n:=by rw [h]; exact h0s _ hM
  have h4:=(s0b hn).2
  have:=(u0d (a:=2) (by decide)).1 (A5 h3 h4)
  omega
 unfold Ieee.Toward.cut
 have hg:1 <<< min k (n.log2+2)=2 ^k:=by rw [D4 (by omega),Nat.one_shiftLeft]
 simp only [hg]
 rw [h,z0c _ h2,Nat.mul_mod_left]
 have e1:decide (2 ^k < 2*0)=false:=d4 (by omega)
 have e2:(2 ^k==2*0)=false:=s6 (by omega)
 rw [e1,e2]
 simp
theorem Q7:Ieee.double.leastPlace= -1074:=by decide
theorem qN:Ieee.double.binade=4503599627370496:=by decide
theorem b1p:Ieee.double.infRung=9218868437227405312:=by decide
theorem l0t:Ieee.double.fractionBits=52:=by decide
theorem l0n (m:Nat):Ieee.double.word false m=m:=rfl
theorem f0d {a b:Nat} (ha:a<=2045) (hb:b < 9007199254740992):a*4503599627370496+b<=9218868437227405312:=by omega
theorem d0d {M k:Nat} {E:Int} (hM:0 < M) (h53:M < 9007199254740992) (hE: -1074<=E) (hn:4503599627370496<=M∨E= -1074) (hT:E<=971):Ieee.double.nearest false (M*2 ^k) (E-k)=(E+1074).toNat*4503599627370496+M:=by
 have h2:0 < 2 ^k:=x7 (by decide)
 have h0:M*2 ^k≠0:=by
  have:=M6 hM h2
  omega
 have hl:(M*2 ^k).log2=M.log2+k:=by
  have hb:=s0b (show M≠0 by omega)
  refine uA ?_ ?_
  ·rw [m9]; exact s5 _ hb.1
  ·rw [show M.log2+k+1=M.log2+1+k by omega,m9]; exact T6 hb.2 h2
 have hlast:max (E- (k:Int)+((M*2 ^k).log2:Nat)- (Ieee.double.fractionBits:Nat)) Ieee.double.leastPlace=E:=by
  rw [hl,Q7,l0t]
  by_cases hb:4503599627370496<=M
  ·have:M.log2=52:=uA hb h53
   rw [this]
   omega
  ·have hlt:M.log2 < 52:=(Nat.log2_lt (by omega)).2 (by show M < 4503599627370496; omega)
   rcases hn with hn | hn <;> omega
 unfold Ieee.Format.nearest
 rw [a8 h0]
 simp only [hlast]
 have e1:(E- (k:Int)-E).toNat=0:=by omega
 have e2:(E- (E- (k:Int))).toNat=k:=by omega
 rw [e1,e2,Nat.shiftLeft_zero,kN rfl hM,Q7,l0n,qN,b1p]
 rw [show E- -1074=E+1074 by omega]
 refine D4 ?_
 exact f0d (by omega) h53
theorem g0r {m t:Nat} {P:Int} (h1:4503599627370496<=m*2 ^t) (h53:m*2 ^t < 9007199254740992) (hE: -1074<=P-t) (hT:P-t<=971):Ieee.double.nearest false m P=(P-t+1074).toNat*4503599627370496+m*2 ^t:=by
 have h2:0 < 2 ^t:=x7 (by decide)
 have h0:m≠0:=by
  intro e
  subst e
  omega
 have hm:0 < m*2 ^t:=by omega
 have ht:t<=52:=by
  have h3:2 ^t<=m*2 ^t:=h0s _ (by omega)
  have h4:2 ^t < 2 ^53:=A5 h3 (by show _ < 9007199254740992; omega)
  have:=(u0d (a:=2) (by decide)).1 h4
  omega
 have hl:m.log2=52-t:=by
  refine uA ?_ ?_
  ·have:2 ^(52-t)*2 ^t<=m*2 ^t:=by rw [<- m9,show 52-t+t=52 by omega]; exact h1
   exact sX this h2
  ·have:m*2 ^t < 2 ^(52-t+1)*2 ^t:=by rw [<- m9,show 52-t+1+t=53 by omega]; exact h53
   exact Nat.lt_of_mul_lt_mul_right this
 have hlast:max (P+(m.log2:Nat)- (Ieee.double.fractionBits:Nat)) Ieee.double.leastPlace=P-t:=by
  rw [hl,Q7,l0t]
  omega
 unfold Ieee.Format.nearest
 rw [a8 h0]
 simp only [hlast]
 have e1:(P- (P- (t:Int))).toNat=t:=by omega
 have e2:(P- (t:Int)-P).toNat=0:=by omega
 rw [e1,e2,kP,kN (M:=m*2 ^t) (k:=0) (by simp) hm,Q7,l0n,qN,b1p]
 rw [show P-t- -1074=P-t+1074 by omega]
 refine D4 ?_
 exact f0d (by omega) h53
theorem h0x {w:Nat} (h1:4503599627370496<=w) (h2:w < 9218868437227405312):Ieee.double.read w= .number false (4503599627370496+w%4503599627370496) (-1074+((w/4503599627370496-1:Nat):Int)):=by
 unfold Ieee.Format.read
 have hs:Ieee.double.signWeight=9223372036854775808:=by decide
 have hb:Ieee.double.binade=4503599627370496:=by decide
 have hi:Ieee.double.infRung=9218868437227405312:=by decide
 rw [hs,hb,hi,Q7]
 have e1:w%9223372036854775808=w:=J5 (by omega)
 simp only [e1]
 rw [a8 (by omega),i6 h2,show (w/9223372036854775808%2==1)=false by rw [p0e (by omega)]; rfl]
theorem v0j {a b:Nat} (ha1:4503599627370496<=a) (ha2:a < 9218868437227405312) (hb1:4503599627370496<=b) (hb2:b < 9218868437227405312):
  Ieee.double.mul a b=some (Ieee.double.nearest false ((4503599627370496+a%4503599627370496)*(4503599627370496+b%4503599627370496)) (-1074+((a/4503599627370496-1:Nat):Int)+(-1074+((b/4503599627370496-1:Nat):Int)))):=by
 unfold Ieee.Format.mul
 rw [h0x ha1 ha2,h0x hb1 hb2]
 rfl
theorem mul_one {w:Nat} (h1:4503599627370496<=w) (h2:w < 9218868437227405312):Ieee.double.mul 4607182418800017408 w=some w:=by
 rw [v0j (by decide) (by decide) h1 h2]
 have hd:1<=w/4503599627370496:=(oS (by decide)).2 (by omega)
 have hd2:w/4503599627370496 < 2047:=(F4 (by decide)).2 (by omega)
 have hm:w%4503599627370496 < 4503599627370496:=C7 _ (by decide)
 have e:=d0d (M:=4503599627370496+w%4503599627370496) (k:=52) (E:= -1074+((w/4503599627370496-1:Nat):Int)) (by omega) (by omega) (by omega) (.inl (by omega)) (by omega)
 have e1:(4503599627370496+4607182418800017408%4503599627370496)*(4503599627370496+w%4503599627370496)=(4503599627370496+w%4503599627370496)*2 ^52:=by
  rw [p4]
 have e2:(-1074:Int)+((4607182418800017408/4503599627370496-1:Nat):Int)+(-1074+((w/4503599627370496-1:Nat):Int))= -1074+((w/4503599627370496-1:Nat):Int)- ((52:Nat):Int):=by
  omega
 rw [e1,e2,e]
 have hw:=eJ w 4503599627370496
 have e3:(-1074+((w/4503599627370496-1:Nat):Int)+1074).toNat=w/4503599627370496-1:=by omega
 rw [e3]
 refine G7 some ?_
 rw [Nat.sub_mul]
 omega
theorem g1j {w M s:Nat} (h1:4503599627370496<=w) (h2:w < 9218868437227405312) (hM:4503599627370496+w%4503599627370496=M*2 ^s) (hp:M < 4503599627370496) (hs:((w/4503599627370496:Nat):Int)=54-s):Ieee.double.mul 4368491638549381120 w=some M:=by
 rw [v0j (by decide) (by decide) h1 h2]
 have h20:0 < 2 ^s:=x7 (by decide)
 have hM0:0 < M:=by
  rcases R2 M with h | h
  ·rw [h] at hM; omega
  ·exact h
 have hd:1<=w/4503599627370496:=(oS (by decide)).2 (by omega)
 have e:=d0d (M:=M) (k:=s+52) (E:= -1074) hM0 (by omega) (by omega) (.inr rfl) (by omega)
 have e1:(4503599627370496+4368491638549381120%4503599627370496)*(4503599627370496+w%4503599627370496)=M*2 ^(s+52):=by
  rw [hM,m9,p4,m7]
 have e2:(-1074:Int)+((4368491638549381120/4503599627370496-1:Nat):Int)+(-1074+((w/4503599627370496-1:Nat):Int))= -1074- ((s+52:Nat):Int):=by
  omega
 rw [e1,e2,e]
 simp
open Go Go.RowKit Ev Wd VaS
def i2l (x:Nat):Nat:=(uI.wrap ↑(zO11 uI.bits ↑x&&& ~~~zO11 uI.bits 9223372036854775808).toNat).toNat
theorem p0r {x:Nat} (hx:x < 9223372036854775808):i2l x=x:=by
 unfold i2l
 have h0:(zO11 uI.bits (x:Int)).toNat=x:=by
  show (zO11 64 (x:Int)).toNat=x
  rw [vJ,sH]
  exact J5 (by omega)
 have h3:(zO11 uI.bits (x:Int)&&& ~~~zO11 uI.bits 9223372036854775808).toNat=x:=by
  rw [pK,h0,show (~~~zO11 uI.bits 9223372036854775808).toNat=2 ^63-1 by decide]
  rw [fH _ 63]
  exact J5 hx
 rw [h3]
 have h5:uI.wrap (x:Int)=(x:Int):=by
  simp [IntKind.wrap,IntKind.bits,IntKind.signed]
  omega
 rw [h5,l4]
theorem o2o {a b:Nat} (ha:a<=9218868437227405312) (hb:b<=9218868437227405312):Ieee.double.order a b=some (compare (a:Int) (b:Int)):=by
 have hm:∀ {c:Nat},c<=9218868437227405312->c%p63=c:=fun {c} h=>J5 (by unfold p63; omega)
 have hs:∀ {c:Nat},c<=9218868437227405312->k1z c=(c:Int):=fun {c} h=>by
  unfold k1z
  rw [a8 (by unfold p63; omega),hm h]
 have hn:∀ {c:Nat},c<=9218868437227405312->gF c=false:=fun {c} h=>by
  unfold gF
  rw [hm h]
  exact d4 (by omega)
 rw [dJ (by omega) (by omega)]
 unfold v1r
 rw [hn ha,hn hb,hs ha,hs hb]
 rfl
def ltL (x y:Nat):Bool:=Ieee.double.order x y==some .lt
def t1s (x y:Nat):Bool:=Ieee.double.order x y==some .eq
def gtL (x y:Nat):Bool:=Ieee.double.order x y==some .gt
theorem g1n {a b:Nat} (ha:a<=9218868437227405312) (hb:b<=9218868437227405312):ltL a b=decide (a < b):=by
 unfold ltL
 rw [o2o ha hb,show compare (a:Int) (b:Int)=if (a:Int) < b then Ordering.lt else if (a:Int)=b then .eq else .gt from rfl]
 by_cases h:a < b
 ·rw [i6 (by omega),f9 h]; rfl
 ·rw [a8 (by omega),d4 h]
  split <;> rfl
theorem k1n {a b:Nat} (ha:a<=9218868437227405312) (hb:b<=9218868437227405312):t1s a b=decide (a=b):=by
 unfold t1s
 rw [o2o ha hb,show compare (a:Int) (b:Int)=if (a:Int) < b then Ordering.lt else if (a:Int)=b then .eq else .gt from rfl]
 by_cases h:a < b
 ·rw [i6 (by omega),d4 (by omega)]; rfl
 ·by_cases h2:a=b
  ·rw [a8 (by omega),i6 (by omega),f9 h2]; rfl
  ·rw [a8 (by omega),a8 (by omega),d4 h2]; rfl
theorem s1w {a b:Nat} (ha:a<=9218868437227405312) (hb:b<=9218868437227405312):gtL a b=decide (b < a):=by
 unfold gtL
 rw [o2o ha hb,show compare (a:Int) (b:Int)=if (a:Int) < b then Ordering.lt else if (a:Int)=b then .eq else .gt from rfl]
 by_cases h:a < b
 ·rw [i6 (by omega),d4 (by omega)]; rfl
 ·by_cases h2:a=b
  ·rw [a8 (by omega),i6 (by omega),d4 (by omega)]; rfl
  ·rw [a8 (by omega),a8 (by omega),f9 (by omega)]; rfl
theorem m1g (x:Nat):b7 o2b [] 200 223 [.float .f64 x] [false] =some (.tuple ⟨[.float .f64 x, .int .i64 0]⟩,[ltL (i2l x) 4503599627370496=false]):=by kernel_rfl
def c0z:List Value->Option (Value×List Prop)
 | [.float .f64 x] =>some (.tuple ⟨[.float .f64 x, .int .i64 0]⟩,[4503599627370496<=x∧x < 9218868437227405312])
 | _=>none
theorem p0p (args:List Value) (v:Value) (l:List Prop) (h:c0z args=some (v,l)) (hl:d9 l):Ev.Pure zO8 J0 223 args v:=by
 unfold c0z at h
 split at h
 case h_2=>cases h
 rename_i x
 cases h
 obtain⟨⟨h1,h2⟩,_⟩:=hl
 refine g9 vS 10 _ _ (m1g x) ⟨?_,a7⟩
 rw [p0r (by omega),g1n (by omega) (by omega)]
 exact d4 (by omega)
def a2h:Tab:=l7 223 c0z w0b
theorem u0e:R8 zO8 J0 a2h:=b8 p0p jU
def bLd:Base:=⟨zO8,J0,false,a2h,uK,200,J2⟩
theorem zY:BaseOk bLd:=⟨progOk,u0e,dE,m4⟩
abbrev XLd:Cx:=bLd.cx 10
def frL (x:Nat):Int:=uI.wrap ((zO11 uI.bits (x:Int)&&& ~~~zO11 uI.bits 9218868437227405312).toNat:Nat)
def exL (x:Nat):Int:=iI.wrap (iI.wrap ((zO11 iI.bits (iI.wrap ((x:Int).fdiv (2 ^min (Int.toNat 52) uI.bits)))&&& zO11 iI.bits 2047).toNat:Nat)-1023)
def plL (x:Nat) (e:Int):Int:=iI.wrap (iI.wrap (e+0)+exL x)
def bwL (x:Nat) (P:Int):Nat:=(uI.wrap ((zO11 uI.bits (frL x)||| zO11 uI.bits (uI.wrap (uI.wrap (iI.wrap (P+1023))*2 ^min (Int.toNat 52) uI.bits))).toNat:Nat)).toNat
def j2s (x:Nat):Bool:=match gtL (i2l x) 9218868437227405311 with | true=>true | false=>Ieee.double.order x x !=some .eq
def h2d (P:Int):Int:=iI.wrap (P+53)
section
variable (x:Nat) (e:Int)
theorem w1e:b7 XLd [] 200 190 [.float .f64 x, .int .i64 e] [true] =some (.float .f64 x,[t1s x 0=true]):=by kernel_rfl
theorem c1q:b7 XLd [] 200 190 [.float .f64 x, .int .i64 e] [false,false,false,false,false] =some (.float .f64 ((Ieee.double.mul 4607182418800017408 (bwL x (plL x e))).getD 0),[(Ieee.double.mul 4607182418800017408 (bwL x (plL x e))).isSome=true,decide (plL x e < Int.negSucc 1021)=false,decide (1023 < plL x e)=false,decide (plL x e < Int.negSucc 1074)=false,4503599627370496<=x∧x < 9218868437227405312,j2s x=false,t1s x 0=false]):=by kernel_rfl
theorem b2m:b7 XLd [] 200 190 [.float .f64 x, .int .i64 e] [false,false,false,false,true] =some (.float .f64 ((Ieee.double.mul 4368491638549381120 (bwL x (h2d (plL x e)))).getD 0),[(Ieee.double.mul 4368491638549381120 (bwL x (h2d (plL x e)))).isSome=true,decide (plL x e < Int.negSucc 1021)=true,decide (1023 < plL x e)=false,decide (plL x e < Int.negSucc 1074)=false,4503599627370496<=x∧x < 9218868437227405312,j2s x=false,t1s x 0=false]):=by kernel_rfl
theorem h1a:b7 XLd [] 200 190 [.float .f64 x, .int .i64 e] [false,false,false,true,false] =some (.float .f64 9218868437227405312,[ltL x 0=false,decide (1023 < plL x e)=true,decide (plL x e < Int.negSucc 1074)=false,4503599627370496<=x∧x < 9218868437227405312,j2s x=false,t1s x 0=false]):=by kernel_rfl
end
theorem s0g {n:Nat} (h:n < 18446744073709551616):uI.wrap (n:Int)=(n:Int):=by
 simp [IntKind.wrap,IntKind.bits,IntKind.signed]
 omega
theorem d2u {n:Nat} (h:n < 18446744073709551616):(zO11 uI.bits (n:Int)).toNat=n:=by
 show (zO11 64 (n:Int)).toNat=n
 rw [vJ,sH]
 exact J5 h
theorem e2f {x:Nat} (hx:x < 9223372036854775808):frL x=((x%4503599627370496:Nat):Int):=by
 unfold frL
 have h3:(zO11 uI.bits (x:Int)&&& ~~~zO11 uI.bits 9218868437227405312).toNat=x%4503599627370496:=by
  rw [pK,d2u (by omega),show (~~~zO11 uI.bits 9218868437227405312).toNat=9227875636482146303 by decide]
  have hx0:x&&& 9223372036854775807=x:=by
   have:=fH x 63
   rw [show 2 ^63-1=9223372036854775807 by decide,show 2 ^63=9223372036854775808 by decide,J5 hx] at this
   exact this
  have h1:x&&& 9227875636482146303=x&&& (2 ^52-1):=by
   rw [<- hx0,Nat.and_assoc,Nat.and_assoc]
   rfl
  rw [h1,fH]
 rw [h3]
 exact s0g (by omega)
theorem h2e {x:Nat} (hx:x < 9218868437227405312):exL x=((x/4503599627370496:Nat):Int)-1023:=by
 unfold exL
 have hd:x/4503599627370496 < 2047:=(F4 (by decide)).2 (by omega)
 have h1:(x:Int).fdiv (2 ^min (Int.toNat 52) uI.bits)=((x/4503599627370496:Nat):Int):=(Int.ofNat_fdiv x 4503599627370496).symm
 rw [h1]
 generalize x/4503599627370496=d at*
 have h2:iI.wrap (d:Int)=(d:Int):=gW (by omega) (by omega)
 rw [h2]
 have h3:(zO11 iI.bits (d:Int)&&& zO11 iI.bits 2047).toNat=d:=by
  rw [pK,show (zO11 iI.bits (d:Int)).toNat=d from d2u (by omega),show (zO11 iI.bits 2047).toNat=2 ^11-1 by decide,fH]
  exact J5 (by omega)
 rw [h3,h2,gW (by omega) (by omega)]
theorem o2z {k r:Nat} (hk:k < 2048) (hr:r < 4503599627370496):k*4503599627370496+r < 18446744073709551616:=by omega
theorem e2w {k:Nat} (hk:k < 2048):k*4503599627370496 < 18446744073709551616:=by omega
theorem c1g {x:Nat} {P:Int} (hx:x < 9218868437227405312) (h0:0<=P+1023) (h1:P+1023 < 2048):bwL x P=(P+1023).toNat*4503599627370496+x%4503599627370496:=by
 unfold bwL
 rw [e2f (by omega),gW (n:=P+1023) (by omega) (by omega)]
 obtain⟨k,hk⟩:=jG h0
 rw [hk,l4]
 have hk2:k < 2048:=by omega
 have h2:uI.wrap (k:Int)=(k:Int):=s0g (by omega)
 have h3:(k:Int)*2 ^min (Int.toNat 52) uI.bits=((k*4503599627370496:Nat):Int):=by
  rw [fM]
  rfl
 have hm:x%4503599627370496 < 4503599627370496:=C7 _ (by decide)
 generalize x%4503599627370496=r at*
 have hs:=j0i (i:=52) (by show r < 4503599627370496; exact hm) k
 have e2:k <<< 52=k*4503599627370496:=by rw [kP]
 rw [e2] at hs
 have h4:k*4503599627370496+r < 18446744073709551616:=o2z hk2 hm
 have h7:k*4503599627370496 < 18446744073709551616:=e2w hk2
 have h8:r < 18446744073709551616:=nL hm (by decide)
 have h5:uI.wrap ((k*4503599627370496:Nat):Int)=((k*4503599627370496:Nat):Int):=s0g h7
 have h6:(zO11 uI.bits (r:Int)||| zO11 uI.bits ((k*4503599627370496:Nat):Int)).toNat=k*4503599627370496+r:=by
  rw [BitVec.toNat_or,d2u h8,d2u h7,Nat.or_comm,<- hs]
 rw [h2,h3,h5,h6,s0g h4,l4]
theorem sE {x:Nat} (hx:x < 9218868437227405312):j2s x=false:=by
 unfold j2s
 rw [p0r (by omega),s1w (by omega) (by omega),d4 (by omega)]
 show (Ieee.double.order x x !=some .eq)=false
 have:=k1n (a:=x) (b:=x) (by omega) (by omega)
 unfold t1s at this
 rw [bne,this]
 simp
theorem vT {x:Nat} (h:4503599627370496<=x) (hx:x < 9218868437227405312):t1s x 0=false:=by
 rw [k1n (by omega) (by omega)]
 exact d4 (by omega)
def qQ (m:Nat):Nat:=Ieee.double.nearest false m 0
theorem kY:qQ 0=0:=by decide
theorem y0b {a M:Nat} (h1:4503599627370496<=M) (h2:M < 9007199254740992):(a*4503599627370496+M)/4503599627370496=a+1∧(a*4503599627370496+M)%4503599627370496=M-4503599627370496:=by omega
theorem w0v {a M:Nat} (ha:a<=1074) (h1:4503599627370496<=M) (h2:M < 9007199254740992):4503599627370496<=a*4503599627370496+M∧a*4503599627370496+M < 9218868437227405312:=by omega
theorem o0e {m:Nat} (h0:0 < m) (h53:m < 9007199254740992):∃ t:Nat,t<=52∧4503599627370496<=m*2 ^t∧m*2 ^t < 9007199254740992∧(4503599627370496<=m->t=0)∧(m < 4503599627370496->0 < t)∧qQ m/4503599627370496=1074-t+1∧qQ m%4503599627370496=m*2 ^t-4503599627370496∧4503599627370496<=qQ m∧qQ m < 9218868437227405312:=by
 have hb:=s0b (show m≠0 by omega)
 have hl:m.log2 < 53:=(Nat.log2_lt (by omega)).2 (by show m < 9007199254740992; exact h53)
 have e1:2 ^m.log2*2 ^(52-m.log2)=4503599627370496:=by
  rw [<- m9,show m.log2+(52-m.log2)=52 by omega]
 have e2:2 ^(m.log2+1)*2 ^(52-m.log2)=9007199254740992:=by
  rw [<- m9,show m.log2+1+(52-m.log2)=53 by omega]
 have h1:4503599627370496<=m*2 ^(52-m.log2):=by
  rw [<- e1]
  exact s5 _ hb.1
 have h2:m*2 ^(52-m.log2) < 9007199254740992:=by
  rw [<- e2]
  exact T6 hb.2 (x7 (by decide))
 refine⟨52-m.log2,by omega,h1,h2,fun h=> ?_,fun h=> ?_,?_⟩
 ·have:=(Nat.le_log2 (by omega)).2 (show 2 ^52<=m from h)
  omega
 ·have:=(Nat.log2_lt (by omega)).2 (show m < 2 ^52 from h)
  omega
 ·have e:=g0r (m:=m) (t:=52-m.log2) (P:=0) h1 h2 (by omega) (by omega)
  have hk:(0- ((52-m.log2:Nat):Int)+1074).toNat=1074- (52-m.log2):=by omega
  rw [hk] at e
  unfold qQ
  rw [e]
  obtain⟨q1,q2⟩:=y0b (a:=1074- (52-m.log2)) h1 h2
  obtain⟨q3,q4⟩:=w0v (a:=1074- (52-m.log2)) (by omega) h1 h2
  exact⟨q1,q2,q3,q4⟩
theorem r1w {m u:Nat} (h0:0 < m) (h:m*2 ^u < 4503599627370496):Ieee.double.nearest false m ((u:Int)-1074)=m*2 ^u:=by
 have hb:=s0b (show m≠0 by omega)
 have hl:m.log2+u < 52:=by
  have h1:2 ^(m.log2+u)<=m*2 ^u:=by rw [m9]; exact s5 _ hb.1
  have h2:2 ^(m.log2+u) < 2 ^52:=A5 h1 h
  exact (u0d (a:=2) (by decide)).1 h2
 have hlast:max ((u:Int)-1074+(m.log2:Nat)- (Ieee.double.fractionBits:Nat)) Ieee.double.leastPlace= -1074:=by
  rw [Q7,l0t]
  omega
 unfold Ieee.Format.nearest
 rw [a8 (show m≠0 by omega)]
 simp only [hlast]
 have hm:0 < m*2 ^u:=M6 h0 (x7 (by decide))
 have e1:((u:Int)-1074- -1074).toNat=u:=by omega
 have e2:(-1074- ((u:Int)-1074)).toNat=0:=by omega
 rw [e1,e2,kP,kN (M:=m*2 ^u) (k:=0) (by simp) hm,Q7,l0n,b1p]
 have e3:((-1074:Int)- -1074).toNat=0:=rfl
 rw [e3,K6,aW]
 exact D4 (rI (nL h (by decide)))
theorem over {k c:Nat} (hk:2046<=k) (hc:4503599627370496<=c):9218868437227405312<=k*4503599627370496+c:=by omega
theorem m1f {m t:Nat} {P:Int} (h1:4503599627370496<=m*2 ^t) (h53:m*2 ^t < 9007199254740992) (hT:971 < P-t):Ieee.double.nearest false m P=9218868437227405312:=by
 have h2:0 < 2 ^t:=x7 (by decide)
 have h0:m≠0:=by
  intro e
  subst e
  omega
 have hm:0 < m*2 ^t:=by omega
 have ht:t<=52:=by
  have h3:2 ^t<=m*2 ^t:=h0s _ (by omega)
  have h4:2 ^t < 2 ^53:=A5 h3 (by show _ < 9007199254740992; omega)
  have:=(u0d (a:=2) (by decide)).1 h4
  omega
 have hl:m.log2=52-t:=by
  refine uA ?_ ?_
  ·have:2 ^(52-t)*2 ^t<=m*2 ^t:=by rw [<- m9,show 52-t+t=52 by omega]; exact h1
   exact sX this h2
  ·have:m*2 ^t < 2 ^(52-t+1)*2 ^t:=by rw [<- m9,show 52-t+1+t=53 by omega]; exact h53
   exact Nat.lt_of_mul_lt_mul_right this
 have hlast:max (P+(m.log2:Nat)- (Ieee.double.fractionBits:Nat)) Ieee.double.leastPlace=P-t:=by
  rw [hl,Q7,l0t]
  omega
 unfold Ieee.Format.nearest
 rw [a8 h0]
 simp only [hlast]
 have e1:(P- (P- (t:Int))).toNat=t:=by omega
 have e2:(P- (t:Int)-P).toNat=0:=by omega
 rw [e1,e2,kP,kN (M:=m*2 ^t) (k:=0) (by simp) hm,Q7,l0n,qN,b1p]
 exact jJ (over (by omega) h1)
theorem e1c {x:Nat} {e:Int} (hx:x < 9218868437227405312) (he: -1000000000000000000<=e∧e<=1000000000000000000):plL x e=e+((x/4503599627370496:Nat):Int)-1023:=by
 unfold plL
 have hd:x/4503599627370496 < 2047:=(F4 (by decide)).2 (by omega)
 rw [h2e hx,Int.add_zero,gW (n:=e) (by omega) (by omega),gW (by omega) (by omega)]
 omega
theorem v0x {m:Nat} {e:Int} (h0:0 < m) (h53:m < 9007199254740992) (hE: -1074<=e) (hT:e<=1000000000000000000):Ev.Pure zO8 J0 190 [.float .f64 (qQ m), .int .i64 e] (.float .f64 (Ieee.double.nearest false m e)):=by
 obtain⟨t,ht,g1,g2,g3,g4,q1,q2,hx1,hx2⟩:=o0e h0 h53
 generalize qQ m=x at*
 have hP:=e1c (x:=x) (e:=e) hx2 ⟨by omega,hT⟩
 rw [q1] at hP
 by_cases hi:971 < e-t
 ·rw [m1f g1 g2 hi]
  refine g9 zY 10 _ _ (h1a x e) ⟨?_,?_,?_,⟨hx1,hx2⟩,sE hx2,vT hx1 hx2,a7⟩
  ·rw [g1n (by omega) (by omega)]; exact d4 (by omega)
  ·rw [hP]; exact f9 (by omega)
  ·rw [hP]; exact d4 (by show ¬_ < (-1075:Int); omega)
 by_cases hc:e-t < -1074
 ·obtain⟨u,hu⟩:=jG (show 0<=e+1074 by omega)
  have he:e=(u:Int)-1074:=by omega
  have hut:u < t:=by omega
  have hpow:m*2 ^t=m*2 ^u*2 ^(t-u):=by rw [m7,<- m9,show u+(t-u)=t by omega]
  have hsm:m*2 ^u < 4503599627370496:=by
   have h2:2*1<=2 ^(t-u):=by
    rw [show t-u=t-u-1+1 by omega,v6,p4]
    exact s5 2 (x7 (by decide))
   have h3:=aQ (m*2 ^u) h2
   omega
  have hS:h2d (plL x e)=e+105-t:=by
   unfold h2d
   rw [hP,gW (by omega) (by omega)]
   omega
  have hB:=c1g (x:=x) (P:=h2d (plL x e)) hx2 (by rw [hS]; omega) (by rw [hS]; omega)
  rw [hS,q2] at hB
  have hk:(e+105- (t:Int)+1023).toNat=54- (t-u):=by omega
  rw [hk] at hB
  have hmul:=g1j (w:=(54- (t-u))*4503599627370496+(m*2 ^t-4503599627370496)) (M:=m*2 ^u) (s:=t-u) (by omega) (by omega) (by rw [<- hpow]; omega) hsm (by omega)
  rw [he,r1w h0 hsm,<- he]
  have key:=b2m x e
  rw [hS,hB,hmul] at key
  refine g9 zY 10 _ _ key ⟨rfl,?_,?_,?_,⟨hx1,hx2⟩,sE hx2,vT hx1 hx2,a7⟩
  ·rw [hP]; exact f9 (by show _ < (-1022:Int); omega)
  ·rw [hP]; exact d4 (by omega)
  ·rw [hP]; exact d4 (by show ¬_ < (-1075:Int); omega)
 ·rw [g0r g1 g2 (by omega) (by omega)]
  have hB:=c1g (x:=x) (P:=plL x e) hx2 (by rw [hP]; omega) (by rw [hP]; omega)
  rw [hP,q2] at hB
  have hk:(e+((1074-t+1:Nat):Int)-1023+1023).toNat=(e-t+1074).toNat+1:=by omega
  rw [hk] at hB
  obtain⟨k,hk2⟩:∃ k,k=(e- (t:Int)+1074).toNat:=⟨_,rfl⟩
  rw [<- hk2] at hB ⊢
  have hk3:k<=2045:=by omega
  have hmul:=mul_one (w:=(k+1)*4503599627370496+(m*2 ^t-4503599627370496)) (by omega) (by omega)
  have hR:(k+1)*4503599627370496+(m*2 ^t-4503599627370496)=k*4503599627370496+m*2 ^t:=by omega
  rw [hR] at hmul hB
  have key:=c1q x e
  rw [hP,hB,hmul] at key
  refine g9 zY 10 _ _ key ⟨rfl,?_,?_,?_,⟨hx1,hx2⟩,sE hx2,vT hx1 hx2,a7⟩
  ·exact d4 (by show ¬_ < (-1022:Int); omega)
  ·exact d4 (by omega)
  ·exact d4 (by show ¬_ < (-1075:Int); omega)
theorem u1n:(9007199254740992:Nat)=4503599627370496*2 ^1:=by decide
theorem d0z:qQ 9007199254740992=4845873199050653696:=by decide
theorem q0u {e:Int} (hE: -1074<=e) (hT:e<=970):Ieee.double.nearest false 9007199254740992 e=(e+1+1074).toNat*4503599627370496+4503599627370496:=by
 have:=d0d (M:=4503599627370496) (k:=1) (E:=e+1) (by decide) (by decide) (by omega) (.inl (d5 _)) (by omega)
 rw [<- u1n,show e+1- ((1:Nat):Int)=e by omega] at this
 exact this
theorem w1q:(9007199254740992:Nat).log2=53:=uA (by decide) (by decide)
theorem i0p {e:Int} (hT:970 < e):Ieee.double.nearest false 9007199254740992 e=9218868437227405312:=by
 have hlast:max (e+((9007199254740992:Nat).log2:Nat)- (Ieee.double.fractionBits:Nat)) Ieee.double.leastPlace=e+1:=by
  rw [w1q,Q7,l0t]
  omega
 unfold Ieee.Format.nearest
 rw [a8 (by decide)]
 simp only [hlast]
 have e1:(e- (e+1)).toNat=0:=by omega
 have e2:(e+1-e).toNat=1:=by omega
 rw [e1,e2,Nat.shiftLeft_zero,kN u1n (by decide),Q7,l0n,qN,b1p]
 exact jJ (over (by omega) (d5 _))
theorem h1x {e:Int} (hE: -1074<=e) (hT:e<=1000000000000000000):Ev.Pure zO8 J0 190 [.float .f64 4845873199050653696, .int .i64 e] (.float .f64 (Ieee.double.nearest false 9007199254740992 e)):=by
 have q1:4845873199050653696/4503599627370496=1076:=by decide
 have q2:4845873199050653696%4503599627370496=0:=by decide
 have hx1:4503599627370496<=4845873199050653696:=by decide
 have hx2:4845873199050653696 < 9218868437227405312:=by decide
 have hP:=e1c (x:=4845873199050653696) (e:=e) hx2 ⟨by omega,hT⟩
 rw [q1] at hP
 by_cases hi:970 < e
 ·rw [i0p hi]
  refine g9 zY 10 _ _ (h1a 4845873199050653696 e) ⟨?_,?_,?_,⟨hx1,hx2⟩,sE hx2,vT hx1 hx2,a7⟩
  ·rw [g1n (rI hx2) (by decide)]; exact d4 (by decide)
  ·rw [hP]; exact f9 (by omega)
  ·rw [hP]; exact d4 (by show ¬_ < (-1075:Int); omega)
 ·rw [q0u hE (by omega)]
  have hB:=c1g (x:=4845873199050653696) (P:=plL 4845873199050653696 e) hx2 (by rw [hP]; omega) (by rw [hP]; omega)
  rw [hP,q2] at hB
  obtain⟨k,hk2⟩:∃ k,k=(e+1+1074).toNat:=⟨_,rfl⟩
  have hk:(e+((1076:Nat):Int)-1023+1023).toNat=k+1:=by omega
  rw [hk,I2] at hB
  rw [<- hk2]
  have hk3:k<=2045:=by omega
  have hmul:=mul_one (w:=(k+1)*4503599627370496) (by omega) (by omega)
  have hR:(k+1)*4503599627370496=k*4503599627370496+4503599627370496:=by omega
  rw [hR] at hmul hB
  have key:=c1q 4845873199050653696 e
  rw [hP,hB,hmul] at key
  refine g9 zY 10 _ _ key ⟨rfl,?_,?_,?_,⟨hx1,hx2⟩,sE hx2,vT hx1 hx2,a7⟩
  ·exact d4 (by show ¬_ < (-1022:Int); omega)
  ·exact d4 (by omega)
  ·exact d4 (by show ¬_ < (-1075:Int); omega)
theorem s1l {m:Nat} {e:Int} (h0:0 < m) (h53:m<=9007199254740992) (hE: -1074<=e) (hT:e<=1000000000000000000):Ev.Pure zO8 J0 190 [.float .f64 (qQ m), .int .i64 e] (.float .f64 (Ieee.double.nearest false m e)):=by
 by_cases h:m < 9007199254740992
 ·exact v0x h0 h hE hT
 ·obtain rfl:m=9007199254740992:=tC h53 (mW h)
  rw [d0z]
  exact h1x hE hT
def n1k (K:Nat) (M:Int) (N D:Nat) (e:Int):Nat:=if G8 K M N D e=true then 0 else p0s K N D e
def n1h (K:Nat) (M:Int) (N D:Nat) (e:Int):Int:=if G8 K M N D e=true then 0 else m0c K N D e
def z0r (K:Nat) (M:Int) (N D:Nat) (e:Int):Bool:=G8 K M N D e || !flw N D e
theorem p1m (K:Nat) (M:Int) (N D:Nat) (e:Int):r1r K M N D e=[uR (n1k K M N D e),iR (n1h K M N D e),bR (G8 K M N D e),fR (z0r K M N D e) (G8 K M N D e) (q0c K N D e)] :=by
 unfold r1r n1k n1h z0r
 cases h:G8 K M N D e
 ·rfl
 ·rfl
def c0t:List Arg->Option (List Arg×List Prop)
 | [.a [.v (.bool _), .v (.bool false), .v (.bool false), .s 39 .u64 N, .v (.bool false), .s 39 .u64 D], .a [.v (.int .i64 53), .v (.int .i64 (-1074)), .v (.int .i64 971)], .c (.v (.int .i64 1))] =>
  some ([uR (n1k 53 971 (val W64 N) (val W64 D) (B2 53 (-1074) (val W64 N) (val W64 D))),iR (n1h 53 971 (val W64 N) (val W64 D) (B2 53 (-1074) (val W64 N) (val W64 D))),bR (G8 53 971 (val W64 N) (val W64 D) (B2 53 (-1074) (val W64 N) (val W64 D))),fR (z0r 53 971 (val W64 N) (val W64 D) (B2 53 (-1074) (val W64 N) (val W64 D))) (G8 53 971 (val W64 N) (val W64 D) (B2 53 (-1074) (val W64 N) (val W64 D))) (q0c 53 (val W64 N) (val W64 D) (B2 53 (-1074) (val W64 N) (val W64 D)))],[Cn N∧Cn D∧0 < val W64 D∧bl (val W64 N)<=1000000∧bl (val W64 D)<=1000000])
 | _=>none
theorem r0e:∀ az rs l,c0t az=some (rs,l)->d9 l->Ev.Sem zO8 J0 126 az rs:=by
 intro az rs l h hl
 unfold c0t at h
 split at h
 ·cases h
  rename_i n N D
  obtain⟨⟨c1,c2,hD,h1,h2⟩,_⟩:=hl
  unfold Cn at c1 c2
  have:=q0o n (N:=val W64 N) (D:=val W64 D) hD h1 h2
  rw [<- c1,<- c2,p1m] at this
  exact this
 ·cases h
def unF (x:Nat):Nat:=if x=4845873199050653696 then 9007199254740992 else (4503599627370496+x%4503599627370496)/2 ^(1075-x/4503599627370496)
theorem s0h {m:Nat} (h0:0 < m) (h53:m<=9007199254740992):unF (qQ m)=m:=by
 by_cases h:m < 9007199254740992
 ·obtain⟨t,ht,g1,g2,g3,g4,q1,q2,hx1,hx2⟩:=o0e h0 h
  have hne:qQ m≠4845873199050653696:=by
   intro e
   rw [e] at q1
   have:(4845873199050653696:Nat)/4503599627370496=1076:=by decide
   omega
  unfold unF
  rw [a8 hne,q1,q2,show 4503599627370496+(m*2 ^t-4503599627370496)=m*2 ^t from Nat.add_sub_cancel' g1,show 1075- (1074-t+1)=t by omega]
  exact z0c _ (x7 (by decide))
 ·obtain rfl:m=9007199254740992:=tC h53 (mW h)
  rw [d0z]
  exact i6 rfl
def ldW (x:Nat) (e:Int):Nat:=if x=0 then 0 else Ieee.double.nearest false (unF x) e
def g1x (x:Nat) (e:Int):Prop:=x=0∨(qQ (unF x)=x∧0 < unF x∧unF x<=9007199254740992∧-1074<=e∧e<=1000000000000000000)
theorem z1y {x:Nat} {e:Int} (h:g1x x e):Ev.Pure zO8 J0 190 [.float .f64 x, .int .i64 e] (.float .f64 (ldW x e)):=by
 by_cases hx:x=0
 ·subst hx
  exact g9 zY 10 _ _ (w1e 0 e) ⟨by decide,a7⟩
 ·obtain⟨h1,h2,h3,h4,h5⟩:=h.resolve_left hx
  have:=s1l h2 h3 h4 h5
  rw [h1] at this
  unfold ldW
  rw [a8 hx]
  exact this
theorem h2h {m:Nat} {e:Int} (h0:0 < m) (h53:m<=9007199254740992):ldW (qQ m) e=Ieee.double.nearest false m e:=by
 have hx:qQ m≠0:=by
  intro e0
  by_cases h:m < 9007199254740992
  ·obtain⟨t,ht,g1,g2,g3,g4,q1,q2,hx1,hx2⟩:=o0e h0 h
   rw [e0] at hx1
   exact absurd hx1 (by decide)
  ·obtain rfl:m=9007199254740992:=tC h53 (mW h)
   rw [d0z] at e0
   cases e0
 unfold ldW
 rw [a8 hx,s0h h0 h53]
theorem k1t {m:Nat} {e:Int} (h53:m<=9007199254740992) (h:m=0∨(-1074<=e∧e<=1000000000000000000)):g1x (qQ m) e:=by
 rcases R2 m with h0 | h0
 ·subst h0; exact .inl kY
 ·rcases h with h | h
  ·omega
  ·exact .inr ⟨by rw [s0h h0 h53],by rw [s0h h0 h53]; exact h0,by rw [s0h h0 h53]; exact h53,h.1,h.2⟩
def yH:List Value->Option (Value×List Prop)
 | [.float .f64 x, .int .i64 e] =>some (.float .f64 (ldW x e),[g1x x e])
 | _=>none
theorem d1y (args:List Value) (v:Value) (l:List Prop) (h:yH args=some (v,l)) (hl:d9 l):Ev.Pure zO8 J0 190 args v:=by
 unfold yH at h
 split at h
 case h_2=>cases h
 cases h
 exact z1y hl.1
def w1a:Tab:=l7 190 yH a2h
theorem t0d:R8 zO8 J0 w1a:=b8 d1y u0e
def bLe:Base:=⟨zO8,J0,false,w1a,uK,200,J2⟩
theorem f2n:BaseOk bLe:=⟨progOk,t0d,dE,m4⟩
theorem c1d (x:Nat) (e:Int):b7 (bLe.cx 10) [] 200 138 [.float .f64 x, .int .i64 e] [] =some (.float .f64 (ldW x e),[g1x x e]):=by kernel_rfl
theorem i1e (args:List Value) (v:Value) (l:List Prop) (h:yH args=some (v,l)) (hl:d9 l):Ev.Pure zO8 J0 138 args v:=by
 unfold yH at h
 split at h
 case h_2=>cases h
 cases h
 exact g9 f2n 10 _ _ (c1d _ _) hl
def a2d:Tab:=l7 138 yH w1a
theorem t0b:R8 zO8 J0 a2d:=b8 i1e t0d
def n0i:qV:=m8 126 (z7 [shM, .a [.v, .v, .v],shV] c0t) uK
theorem a0n:qZ zO8 J0 n0i:=d7 (m5 _ r0e) dE
def bRo2:Base:=⟨zO8,J0,false,a2d,n0i,200,J2⟩
theorem e0n:BaseOk bRo2:=⟨progOk,t0b,a0n,m4⟩
abbrev k2m:Cx:=bRo2.cx 10
theorem d2b {K:Nat} {N D:Nat} {e:Int} (hN:0 < N) (hD:0 < D) (he:e=(bl N:Int)-bl D-K-2):2 ^(K+1)<=flq N D e:=by
 have h1:2 ^(bl N-1)<=N:=by
  refine bl_ge.1 ?_
  have:0 < bl N:=bl_ge.2 (by show 1<=N; exact hN)
  omega
 have hb:0 < bl N:=bl_ge.2 (by show 1<=N; exact hN)
 have h2:D < 2 ^bl D:=c0p D
 unfold flq
 rw [oS (r0f hD e)]
 unfold atA atB
 by_cases h0:0<=e
 ·rw [i6 h0,i6 h0]
  refine u7 ?_ h1
  refine u7 (aQ _ (s5 _ (rI h2))) ?_
  rw [<- m9,<- m9]
  exact y9 (by decide) (by omega)
 ·rw [a8 h0,a8 h0]
  refine u7 (aQ _ (rI h2)) ?_
  refine u7 ?_ (s5 _ h1)
  rw [<- m9,<- m9]
  exact y9 (by decide) (by omega)
theorem z0s {K:Nat} {L:Int} {N D:Nat} (hK:0 < K) (hN:0 < N) (hD:0 < D) (h:flq N D (B2 K L N D) < 2 ^(K-1)):B2 K L N D=L:=by
 unfold B2 at h ⊢
 by_cases hb:K < bl (flq N D (aV K L N D))
 ·rw [i6 hb] at h
  exfalso
  obtain⟨s,hs⟩:∃ s,bl (flq N D (aV K L N D))=K+s:=⟨bl (flq N D (aV K L N D))-K,by omega⟩
  rw [hs,show ((K+s:Nat):Int)-K=(s:Int) by omega,uG,F4 (x7 (by decide)),<- m9] at h
  have:=bl_le.2 h
  omega
 ·rw [a8 hb]
  unfold aV
  by_cases hc:L < (bl N:Int)-bl D-K-2
  ·exfalso
   have h1:aV K L N D=(bl N:Int)-bl D-K-2:=i6 hc
   have h2:=d2b hN hD h1
   have:=bl_ge.2 h2
   omega
  ·rw [a8 hc]
theorem lM {N D:Nat} (hD:0 < D):p0s 53 N D (B2 53 (-1074) N D) < 9007199254740992∧-1074<=m0c 53 N D (B2 53 (-1074) N D)∧(4503599627370496<=p0s 53 N D (B2 53 (-1074) N D)∨m0c 53 N D (B2 53 (-1074) N D)= -1074∨p0s 53 N D (B2 53 (-1074) N D)=0):=by
 have h1:flq N D (B2 53 (-1074) N D) < 9007199254740992:=k1f
 have h3: -1074<=B2 53 (-1074) N D:=by
  unfold B2 aV
  split <;> split <;> omega
 rcases R2 N with hN | hN
 ·have hq:flq N D (B2 53 (-1074) N D)=0:=by
   rw [hN]
   unfold flq atA
   split <;> simp
  have hr:flr N D (B2 53 (-1074) N D)=0:=by
   rw [hN]
   unfold flr atA
   split <;> simp
  have hm:flm N D (B2 53 (-1074) N D)=0:=by
   unfold flm vY flw
   rw [hr,hq]
   rfl
  unfold p0s m0c
  rw [hm]
  exact⟨by decide,h3, .inr (.inr (by decide))⟩
 have h2:=z0s (K:=53) (L:= -1074) (by decide) hN hD
 generalize B2 53 (-1074) N D=e at*
 have hm:flm N D e<=flq N D e+1∧flq N D e<=flm N D e:=by
  unfold flm
  split <;> omega
 have h4:flq N D e < 4503599627370496->e= -1074:=h2
 unfold p0s m0c
 rw [show 2 ^53=9007199254740992 by decide]
 by_cases hc:9007199254740992<=flm N D e
 ·rw [i6 hc,i6 hc]
  exact⟨by omega,by omega, .inl (by omega)⟩
 ·rw [a8 hc,a8 hc]
  refine⟨by omega,h3,?_⟩
  by_cases hd:4503599627370496<=flm N D e
  ·exact .inl hd
  ·exact .inr (.inl (h4 (by omega)))
theorem vI (m:Nat):FloatKind.f64.nearest (m:Int)=qQ m:=by
 unfold FloatKind.nearest qQ
 rw [d4 (by omega),Int.natAbs_natCast]
 rfl
def kH (N D:Nat):Nat:=if G8 53 971 N D (B2 53 (-1074) N D)=true then 9218868437227405312 else if p0s 53 N D (B2 53 (-1074) N D)=0 then 0 else (m0c 53 N D (B2 53 (-1074) N D)+1074).toNat*4503599627370496+p0s 53 N D (B2 53 (-1074) N D)
def nuW (n:Bool) (N D:Nat):Nat:=if n=true then kH N D+9223372036854775808 else kH N D
theorem n1m (N D:Nat) (hD:0 < D):kH N D<=9218868437227405312:=by
 unfold kH
 obtain⟨h1,h2,h3⟩:=lM (N:=N) hD
 cases hi:G8 53 971 N D (B2 53 (-1074) N D)
 ·rw [a8 (by decide)]
  split
  ·exact o8 _
  ·unfold G8 at hi
   have:=O2 hi
   exact f0d (by omega) h1
 ·rw [i6 rfl]
  exact d5 _
theorem n2a {N D:Nat} (hD:0 < D):g1x (FloatKind.f64.nearest ((n1k 53 971 N D (B2 53 (-1074) N D):Nat):Int)) (n1h 53 971 N D (B2 53 (-1074) N D)):=by
 obtain⟨h1,h2,h3⟩:=lM (N:=N) hD
 rw [vI]
 unfold n1k n1h
 cases hi:G8 53 971 N D (B2 53 (-1074) N D)
 ·rw [a8 (by decide),a8 (by decide)]
  unfold G8 at hi
  have hi:=O2 hi
  generalize p0s 53 N D (B2 53 (-1074) N D)=m at*
  generalize m0c 53 N D (B2 53 (-1074) N D)=e at*
  exact k1t (by omega) (.inr ⟨h2,by omega⟩)
 ·rw [i6 rfl]
  exact .inl kY
theorem p2c {N D:Nat} (hD:0 < D) (hi:G8 53 971 N D (B2 53 (-1074) N D)=false):ldW (FloatKind.f64.nearest ((n1k 53 971 N D (B2 53 (-1074) N D):Nat):Int)) (n1h 53 971 N D (B2 53 (-1074) N D))=kH N D:=by
 obtain⟨h1,h2,h3⟩:=lM (N:=N) hD
 rw [vI]
 unfold n1k n1h kH
 rw [hi,a8 (by decide),a8 (by decide),a8 (by decide)]
 have hi2:m0c 53 N D (B2 53 (-1074) N D)<=971:=by
  unfold G8 at hi
  have:=O2 hi
  omega
 clear hi
 generalize p0s 53 N D (B2 53 (-1074) N D)=m at*
 generalize m0c 53 N D (B2 53 (-1074) N D)=e at*
 rcases R2 m with h | h
 ·subst h
  rw [kY,i6 rfl]
  unfold ldW
  rw [i6 rfl]
 ·rw [h2h h (by omega),a8 (by omega)]
  have:=d0d (M:=m) (k:=0) (E:=e) h h1 h2 (by omega) hi2
  rw [a0i,y8,show e- ((0:Nat):Int)=e by omega] at this
  exact this
end Go.Proofs.YtbdaebagmmmijaaGreatDoor
