/-
 NumberReads: any text is read as the document reads it; no condition (a part of the proof).
-/
import Derived.Test.YtkiejangmhhofaaGreatDoorR1x03
import Derived.Shelf.Strconv.ParseUint10At
import Derived.Lib.AtoiTie
import Derived.Lib.AtoiErrMem
import Derived.Lib.ParseIntBCases
import GoSem.ClaimJoined
import Derived.Lib.Bytealg
set_option maxRecDepth 1000000
open Nat renaming beq->zO0
open Go.Value renaming int->zO2,bool->zO9
open Int renaming ofNat->zO6
open List renaming replicate->zO7,take->zO10
open Go.Proofs.Tryz renaming prog->zO8
open BitVec renaming ofInt->zO11
open Go.IntKind renaming i64->iI,u64->uI,u32->uJ,u8->uB
noncomputable section
namespace Go.Proofs
theorem lV:type_of%@Nat.le_div_iff_mul_le:=@Nat.le_div_iff_mul_le
theorem lR:type_of%@Nat.and_two_pow_sub_one_eq_mod:=@Nat.and_two_pow_sub_one_eq_mod
theorem k0n:type_of%@Int.ofNat_tdiv:=@Int.ofNat_tdiv
theorem j0f:type_of%@Nat.shiftLeft_add_eq_or_of_lt:=@Nat.shiftLeft_add_eq_or_of_lt
theorem kF:type_of%@Nat.shiftLeft_eq:=@Nat.shiftLeft_eq
theorem lH:type_of%@Nat.mul_div_mul_right:=@Nat.mul_div_mul_right
theorem qI:type_of%@Nat.mul_mod_mul_right:=@Nat.mul_mod_mul_right
theorem zQ:type_of%@Nat.add_sub_cancel:=@Nat.add_sub_cancel
theorem k0i:type_of%@List.take_zero:=@List.take_zero
theorem zzA207:type_of%@Int.ofNat_le:=@Int.ofNat_le
theorem zzA208:type_of%@Int.ofNat_lt:=@Int.ofNat_lt
theorem h0l:type_of%@Int.lt_irrefl:=@Int.lt_irrefl
theorem a0u:type_of%@Nat.pow_one:=@Nat.pow_one
theorem Y6:type_of%@List.drop_of_length_le:=@List.drop_of_length_le
theorem pT:type_of%@List.drop_drop:=@List.drop_drop
theorem wC:type_of%@Nat.lt_trans:=@Nat.lt_trans
theorem wA:type_of%@Bool.not_false:=@Bool.not_false
theorem i0r:type_of%@BitVec.ofInt_natCast:=@BitVec.ofInt_natCast
theorem pC:type_of%@BitVec.toNat_and:=@BitVec.toNat_and
theorem i0u:type_of%@BitVec.toNat_ofNat:=@BitVec.toNat_ofNat
theorem kU:type_of%@Int.eq_ofNat_of_zero_le:=@Int.eq_ofNat_of_zero_le
theorem Q8:type_of%@of_decide_eq_false:=@of_decide_eq_false
end Go.Proofs
namespace Go.Proofs.YtkiejangmhhofaaGreatDoor
open Go Go.RowKit Ev Wd
def n0p:Code:=z8 zO8 264 0
def o0k:Code:=z8 zO8 264 1
def TD1 (y s yn1 yn0 un32 un10 un1 un0 q r:Int):St:=⟨only 135 [(2, .int .u64 y),(8, .int .u64 s),(9, .int .u64 yn1),(10, .int .u64 yn0),(11, .int .u64 un32),(12, .int .u64 un10),(13, .int .u64 un1),(14, .int .u64 un0),(15, .int .u64 q),(16, .int .u64 r)],[],11,[],[],0,none,[],11⟩
def TE1 (y s yn1 yn0 un32 un10 un1 un0 q:Int):St:=⟨only 135 [(2, .int .u64 y),(8, .int .u64 s),(9, .int .u64 yn1),(10, .int .u64 yn0),(11, .int .u64 un32),(12, .int .u64 un10),(13, .int .u64 un1),(14, .int .u64 un0),(15, .int .u64 q)],[],11,[],[],0,none,[],11⟩
def TD2 (y s yn1 yn0 un0 q1 un21 q r:Int):St:=⟨only 135 [(2, .int .u64 y),(8, .int .u64 s),(9, .int .u64 yn1),(10, .int .u64 yn0),(14, .int .u64 un0),(15, .int .u64 q1),(16, .int .u64 r),(17, .int .u64 un21),(18, .int .u64 q)],[],11,[],[],0,none,[],11⟩
def TE2 (y s yn1 yn0 un0 q1 un21 q:Int):St:=⟨only 135 [(2, .int .u64 y),(8, .int .u64 s),(9, .int .u64 yn1),(10, .int .u64 yn0),(14, .int .u64 un0),(15, .int .u64 q1),(17, .int .u64 un21),(18, .int .u64 q)],[],11,[],[],0,none,[],11⟩
def S1 (hi lo y:Int):St:=x9 XW3 200 264 [.int .u64 hi, .int .u64 lo, .int .u64 y] J0.tabs 11 [false,false,false]
def dC (yn0 u q r:Int):Bool:=match decide (q>=4294967296) with
 | true=>true
 | false=>decide (uI.wrap (q*yn0) > uI.wrap (uI.wrap (4294967296*r)+u))
section
variable (y s yn1 yn0 un32 un10 un1 un0 q r q1 un21:Int)
theorem r1o (h:dC yn0 un1 q r=true) (h2:decide ((4294967296:Int)<=uI.wrap (r+yn1))=true):u4 XW3 n0p (TD1 y s yn1 yn0 un32 un10 un1 un0 q r) (.exit 0) (TE1 y s yn1 yn0 un32 un10 un1 un0 (uI.wrap (q-1))):=
 stp pK 10 progOk.mixed [true,true] [] (l:=[decide ((4294967296:Int)<=uI.wrap (r+yn1))=true,dC yn0 un1 q r=true]) (by kernel_rfl) ⟨h2,h,a6⟩
theorem b2v (h:dC yn0 un1 q r=true) (h2:decide ((4294967296:Int)<=uI.wrap (r+yn1))=false):u4 XW3 n0p (TD1 y s yn1 yn0 un32 un10 un1 un0 q r) .normal (TD1 y s yn1 yn0 un32 un10 un1 un0 (uI.wrap (q-1)) (uI.wrap (r+yn1))):=
 stp pK 10 progOk.mixed [true,false] [] (l:=[decide ((4294967296:Int)<=uI.wrap (r+yn1))=false,dC yn0 un1 q r=true]) (by kernel_rfl) ⟨h2,h,a6⟩
theorem o2w (h:dC yn0 un1 q r=false):u4 XW3 n0p (TD1 y s yn1 yn0 un32 un10 un1 un0 q r) (.exit 0) (TE1 y s yn1 yn0 un32 un10 un1 un0 q):=
 stp pK 10 progOk.mixed [false] [] (l:=[dC yn0 un1 q r=false]) (by kernel_rfl) ⟨h,a6⟩
theorem w1a (h:dC yn0 un0 q r=true) (h2:decide ((4294967296:Int)<=uI.wrap (r+yn1))=true):u4 XW3 o0k (TD2 y s yn1 yn0 un0 q1 un21 q r) (.exit 2) (TE2 y s yn1 yn0 un0 q1 un21 (uI.wrap (q-1))):=
 stp pK 10 progOk.mixed [true,true] [] (l:=[decide ((4294967296:Int)<=uI.wrap (r+yn1))=true,dC yn0 un0 q r=true]) (by kernel_rfl) ⟨h2,h,a6⟩
theorem a2o (h:dC yn0 un0 q r=true) (h2:decide ((4294967296:Int)<=uI.wrap (r+yn1))=false):u4 XW3 o0k (TD2 y s yn1 yn0 un0 q1 un21 q r) .normal (TD2 y s yn1 yn0 un0 q1 un21 (uI.wrap (q-1)) (uI.wrap (r+yn1))):=
 stp pK 10 progOk.mixed [true,false] [] (l:=[decide ((4294967296:Int)<=uI.wrap (r+yn1))=false,dC yn0 un0 q r=true]) (by kernel_rfl) ⟨h2,h,a6⟩
theorem j2l (h:dC yn0 un0 q r=false):u4 XW3 o0k (TD2 y s yn1 yn0 un0 q1 un21 q r) (.exit 2) (TE2 y s yn1 yn0 un0 q1 un21 q):=
 stp pK 10 progOk.mixed [false] [] (l:=[dC yn0 un0 q r=false]) (by kernel_rfl) ⟨h,a6⟩
end
def dS (y:Int):Int:=uI.wrap (iI.wrap (64-I6 y))
def dSh (x s:Int):Int:=uI.wrap (x*2 ^(min s.toNat 64))
def dHi (x:Int):Int:=x.fdiv 4294967296
def dLo (x:Int):Int:=bits .and .u64 x 4294967295
def dU (hi lo s:Int):Int:=bits .or .u64 (dSh hi s) (lo.fdiv (2 ^(min (uI.wrap (64-s)).toNat 64)))
def dQ (u v:Int):Int:=uI.wrap (u.tdiv v)
def dR (u v:Int):Int:=uI.wrap (u-uI.wrap (dQ u v*v))
def dN (u a q y:Int):Int:=uI.wrap (uI.wrap (uI.wrap (u*4294967296)+a)-uI.wrap (q*y))
section
variable (hi lo y s q yv yn1 yn0 un32 un10 un1 un0 q1 un21 q0:Int)
theorem f2u (x:AX) (s':St) (h:b9 XW3 n0p (TD1 (dSh y (dS y)) (dS y) (dHi (dSh y (dS y))) (dLo (dSh y (dS y))) (dU hi lo (dS y)) (dSh lo (dS y)) (dHi (dSh lo (dS y))) (dLo (dSh lo (dS y))) (dQ (dU hi lo (dS y)) (dHi (dSh y (dS y)))) (dR (dU hi lo (dS y)) (dHi (dSh y (dS y))))) x s'):
  b9 XW3 n0p (S1 hi lo y) x s':=l9 h []
end
def j2z (f:Nat):Code:=match p1c zO8.funcs.toList f with
 | some fn=>match fn.body with
  | some c=>c
  | none=> .skip
 | none=> .skip
def S2 (hi lo y:Int) (e:St):St:=match H3 XW3 [H7 (.exit 0) (fun _=>e),fun s=>some (.exit 1000000,s)] 200 (j2z 264) ⟨([.int .u64 hi, .int .u64 lo, .int .u64 y] :List Value).map .v++zO7 132 (.v undef),J0.tabs,11,[false,false,false],[],0,none,[],11⟩ with
 | some (_,s)=>s.core
 | none=>e
theorem w1d (hi lo y:Int):b7 XW3 [] 200 264 [.int .u64 hi, .int .u64 lo, .int .u64 y] [false,false,true] =some (Value.tuple { toList:=[zO2 uI (uI.wrap (lo.tdiv y)),zO2 uI (lo.tmod y)]},[y=0->False,y=0->False,(hi==zO6 0)=true,decide (y<=hi)=false,(y==zO6 0)=false]):=by kernel_rfl
theorem f2f (hi lo y yv s yn1 yn0 un32 un10 un1 un0 q1 un21 q0:Int):b7 XW3 [H7 (.exit 0) (fun _=>TE1 yv s yn1 yn0 un32 un10 un1 un0 q1),H7 (.exit 2) (fun _=>TE2 yv s yn1 yn0 un0 q1 un21 q0)] 200 264 [.int .u64 hi, .int .u64 lo, .int .u64 y] [false,false,false] =some (Value.tuple { toList:=[zO2 uI (uI.wrap (uI.wrap (q1*zO6 4294967296)+q0)),zO2 uI ((uI.wrap (uI.wrap (uI.wrap (un21*zO6 4294967296)+un0)-uI.wrap (q0*yv))).fdiv (zO6 (2 ^min s.toNat 64)))]},[zO6 0<=s,b9 XW3 o0k (S2 hi lo y (TE1 yv s yn1 yn0 un32 un10 un1 un0 q1)) (.exit 2) (TE2 yv s yn1 yn0 un0 q1 un21 q0),yn1=0->False,b9 XW3 n0p (S1 hi lo y) (.exit 0) (TE1 yv s yn1 yn0 un32 un10 un1 un0 q1),(uI.wrap (y*2 ^min (uI.wrap (iI.wrap (64-I6 y))).toNat uI.bits)).fdiv (2 ^min (Int.toNat 32) uI.bits)=0->False,zO6 0<=uI.wrap (iI.wrap (zO6 64-I6 y)),zO6 0<=uI.wrap (zO6 64-uI.wrap (iI.wrap (zO6 64-I6 y))),zO6 0<=uI.wrap (iI.wrap (zO6 64-I6 y)),zO6 0<=uI.wrap (iI.wrap (zO6 64-I6 y)),zO6 0<=y∧y < zO6 18446744073709551616,(hi==zO6 0)=false,decide (y<=hi)=false,(y==zO6 0)=false]):=by kernel_rfl
theorem a2e (hi lo y yv s yn1 yn0 un32 un10 un1 un0 q1:Int) (x:AX) (s':St) (h:b9 XW3 o0k (TD2 yv s yn1 yn0 un0 q1 (dN un32 un1 q1 yv) (dQ (dN un32 un1 q1 yv) yn1) (dR (dN un32 un1 q1 yv) yn1)) x s'):
  b9 XW3 o0k (S2 hi lo y (TE1 yv s yn1 yn0 un32 un10 un1 un0 q1)) x s':=l9 h []
theorem bZ {n:Nat} (h:n < 18446744073709551616):uI.wrap (n:Int)=n:=by
 have:=R5 (n:Int)
 omega
theorem l2w {X:Cx} {c:Code} {x:AX} (hx:x≠ .normal) (S:Int->Int->St) (E:Int->St) {Y y1 y0 U u:Nat} (hY:Y=y1*4294967296+y0) (h1:2147483648<=y1) (h2:y1 < 4294967296) (h3:y0 < 4294967296) (hU:U < Y) (hu:u < 4294967296)
  (s1:∀ q r:Int,dC y0 u q r=true->decide ((4294967296:Int)<=uI.wrap (r+(y1:Int)))=true->u4 X c (S q r) x (E (uI.wrap (q-1))))
  (s2:∀ q r:Int,dC y0 u q r=true->decide ((4294967296:Int)<=uI.wrap (r+(y1:Int)))=false->u4 X c (S q r) .normal (S (uI.wrap (q-1)) (uI.wrap (r+(y1:Int)))))
  (s3:∀ q r:Int,dC y0 u q r=false->u4 X c (S q r) x (E q)):
  b9 X c (S ((U/y1:Nat):Int) ((U%y1:Nat):Int)) x (E (((U*4294967296+u)/Y:Nat):Int)):=by
 have hYp:0 < Y:=by omega
 have hT:∀ q:Nat,q*Y<=U*4294967296+u↔q<=(U*4294967296+u)/Y:=fun q=>(lV hYp).symm
 have hTB:(U*4294967296+u)/Y < 4294967296:=by
  rw [D9 hYp]
  have:(U+1)*4294967296<=Y*4294967296:=w9 _ hU
  omega
 have hT0:∀ q:Nat,U*4294967296+u < (q+1)*Y->(U*4294967296+u)/Y<=q:=fun q h=>by
  have:=(D9 hYp).2 h
  omega
 generalize (U*4294967296+u)/Y=t at*
 have hmul:∀ q:Nat,q*Y=q*y1*4294967296+q*y0:=fun q=>by rw [hY,R4,r7]
 have e0:U-U/y1*y1=U%y1:=by
  have hd:=bV U y1
  rw [t7] at hd
  omega
 rw [<- e0]
 refine C0 (fun q:Nat=>S q ((U-q*y1:Nat):Int)) id (fun q=>t<=q∧q*y1<=U∧U-q*y1 < 4294967296) hx (fun q hq=> ?_) (U/y1) ?_
 ·obtain⟨g1,g2,g3⟩:=hq
  have hle:q<=4294967300:=by
   rcases J4 4294967300 q with h | h
   ·have:4294967301*y1<=q*y1:=w9 _ h
    omega
   ·exact h
  have em:=hmul q
  have hqt:=hT q
  generalize hm:q*y1=m at*
  have hq0:q < 4294967296->q*y0 < 18446744073709551616:=fun h=>by
   have:q*y0<=4294967295*4294967295:=sP (by omega) (by omega)
   omega
  have hwr:uI.wrap (uI.wrap (4294967296*((U-m:Nat):Int))+(u:Int))=((4294967296*(U-m)+u:Nat):Int):=by
   have e1:(4294967296:Int)*((U-m:Nat):Int)=((4294967296*(U-m):Nat):Int):=by omega
   rw [e1,bZ (by omega)]
   have e2:((4294967296*(U-m):Nat):Int)+(u:Int)=((4294967296*(U-m)+u:Nat):Int):=by omega
   rw [e2,bZ (by omega)]
  have hc:dC y0 u (q:Int) ((U-m:Nat):Int)=true↔t < q:=by
   unfold dC
   by_cases hb:4294967296<=q
   ·have:decide ((q:Int)>=4294967296)=true:=by simp; omega
    rw [this]
    simp only [true_iff]
    omega
   ·have:decide ((q:Int)>=4294967296)=false:=by simp; omega
    rw [this,hwr]
    have e3:(q:Int)*(y0:Int)=((q*y0:Nat):Int):=by rw [V9]
    rw [e3,bZ (hq0 (by omega))]
    simp only [aI]
    omega
  by_cases hcond:dC y0 u (q:Int) ((U-m:Nat):Int)=true
  ·have hlt:=hc.1 hcond
   have ew:uI.wrap ((q:Int)-1)=((q-1:Nat):Int):=by
    have:(q:Int)-1=((q-1:Nat):Int):=by omega
    rw [this,bZ (by omega)]
   have er:uI.wrap (((U-m:Nat):Int)+(y1:Int))=((U-m+y1:Nat):Int):=by
    have:((U-m:Nat):Int)+(y1:Int)=((U-m+y1:Nat):Int):=by omega
    rw [this,bZ (by omega)]
   have hm1:(q-1)*y1+y1=m:=by
    rw [<- hm,<- Nat.succ_mul]
    congr 1
    omega
   have em1:=hmul (q-1)
   have hqt1:=hT (q-1)
   generalize hm2:(q-1)*y1=m1 at*
   by_cases hbr:4294967296<=U-m+y1
   ·right
    have:=s1 q ((U-m:Nat):Int) hcond (by rw [er]; simp only [aI]; omega)
    rw [ew] at this
    have hqB:q-1 < 4294967296:=by
     rcases J4 (q-1) 4294967296 with h | h
     ·exact h
     ·have:4294967296*y1<=(q-1)*y1:=w9 _ h
      omega
    have hq1:(q-1)*y0<=4294967295*4294967295:=sP (by omega) (by omega)
    have he:q-1=t:=by
     apply b0e
     ·rw [<- hqt1]
      omega
     ·omega
    rw [<- he]
    exact this
   ·left
    have:=s2 q ((U-m:Nat):Int) hcond (by rw [er]; simp only [h0p]; omega)
    rw [ew,er] at this
    refine⟨q-1,⟨by omega,by rw [hm2]; omega,by rw [hm2]; omega⟩,by simp only [id]; omega,?_⟩
    rw [hm2]
    have e:U-m1=U-m+y1:=by omega
    rw [e]
    exact this
  ·right
   have hcond':dC y0 u (q:Int) ((U-m:Nat):Int)=false:=by simpa using hcond
   have he:q=t:=by
    have:¬ t < q:=fun h=>hcond (hc.2 h)
    omega
   rw [<- he]
   exact s3 q _ hcond'
 ·have hd:=bV U y1
  have hmd:U%y1 < y1:=F7 _ (by omega)
  rw [t7] at hd
  refine⟨?_,by omega,by omega⟩
  refine hT0 _ ?_
  have:(U*4294967296+u) < (U/y1+1)*Y:=by
   have e:=hmul (U/y1+1)
   have e2:(U/y1+1)*y1=U/y1*y1+y1:=by rw [A7,P7]
   omega
  exact this
theorem r0s (n:Nat):dHi n=((n/4294967296:Nat):Int):=by unfold dHi; rw [kQ _ (by omega)]; omega
theorem e1x {n:Nat} (h:n < 18446744073709551616):dLo n=((n%4294967296:Nat):Int):=by
 unfold dLo
 have:=bits_and_u64_nat n 4294967295 h (by omega)
 have e:n&&& 4294967295=n%4294967296:=lR n 32
 rw [e] at this
 exact this
theorem o1o {u v:Nat} (hu:u < 18446744073709551616):dQ u v=((u/v:Nat):Int):=by
 unfold dQ
 have:(u:Int).tdiv (v:Int)=((u/v:Nat):Int):=(k0n u v).symm
 rw [this,bZ (D7 (mD u v) hu)]
theorem x1q {u v:Nat} (hu:u < 18446744073709551616) (hv:v < 18446744073709551616) (hv0:0 < v):dR u v=((u%v:Nat):Int):=by
 unfold dR
 rw [o1o hu]
 have hd:=bV u v
 rw [t7] at hd
 have e:((u/v:Nat):Int)*(v:Int)=((u/v*v:Nat):Int):=by rw [V9]
 have hm:=F7 u hv0
 rw [e,bZ (by omega)]
 have e2:(u:Int)- ((u/v*v:Nat):Int)=((u%v:Nat):Int):=by omega
 rw [e2,bZ (by omega)]
theorem y1w {u a q y r:Nat} (h:u*4294967296+a=q*y+r) (hr:r < 18446744073709551616):dN u a q y=(r:Int):=by
 unfold dN
 simp only [R5]
 have e1:(q:Int)*(y:Int)=((q*y:Nat):Int):=by rw [V9]
 rw [e1]
 generalize q*y=m at*
 omega
theorem q0l {x s:Nat} (hs:s<=64):dSh x s=((x*2 ^s%18446744073709551616:Nat):Int):=by
 unfold dSh
 rw [g9,C6 hs,R5]
 have:(x:Int)*2 ^s=((x*2 ^s:Nat):Int):=by rw [V9,bI]; rfl
 rw [this]
 omega
theorem j2g {hi lo s:Nat} (hs:s<=64) (h1:hi*2 ^s < 18446744073709551616) (h2:lo < 18446744073709551616):dU hi lo s=((hi*2 ^s+lo/2 ^(64-s):Nat):Int):=by
 unfold dU
 rw [q0l hs,G7 h1]
 have e1:uI.wrap (64- (s:Int))=((64-s:Nat):Int):=by
  have:(64:Int)- (s:Int)=((64-s:Nat):Int):=by omega
  rw [this,bZ (by omega)]
 have e2:(lo:Int).fdiv (2 ^(min (uI.wrap (64- (s:Int))).toNat 64))=((lo/2 ^(64-s):Nat):Int):=by
  rw [e1,g9,C6 (by omega),kQ _ (by
   have:(0:Int) < 2 ^(64-s):=Int.pow_pos (by decide)
   omega),Int.natCast_ediv,bI]
  rfl
 rw [e2]
 have hlt:lo/2 ^(64-s) < 2 ^s:=by
  rw [D9 (H4 _),<- n9]
  have:s+(64-s)=64:=by omega
  rw [this]
  exact h2
 have hlt2:lo/2 ^(64-s) < 18446744073709551616:=D7 (mD _ _) h2
 rw [bits_or_u64_nat _ _ h1 hlt2]
 have:=j0f hlt hi
 rw [kF] at this
 rw [this]
theorem w0x {hi lo y:Nat} (h1:hi < y) (h2:lo < 18446744073709551616) (h3:y < 18446744073709551616):
  Pure zO8 J0 264 [.int .u64 hi, .int .u64 lo, .int .u64 y] (.tuple ⟨[.int .u64 (((hi*18446744073709551616+lo)/y:Nat):Int), .int .u64 (((hi*18446744073709551616+lo)%y:Nat):Int)]⟩):=by
 have hy0:0 < y:=by omega
 have d1:((y:Int)==zO6 0)=false:=by simp; omega
 have d2:decide ((y:Int)<=(hi:Int))=false:=by simp; omega
 by_cases hh:hi=0
 ·subst hh
  have:=i7 pK 10 [] _ (w1d ((0:Nat):Int) lo y) ⟨by omega,by omega,rfl,d2,d1,a6⟩
  have e1:uI.wrap ((lo:Int).tdiv (y:Int))=((lo/y:Nat):Int):=by
   have:(lo:Int).tdiv (y:Int)=((lo/y:Nat):Int):=(k0n lo y).symm
   rw [this,bZ (D7 (mD _ _) h2)]
  have e2:(lo:Int).tmod (y:Int)=((lo%y:Nat):Int):=(Int.ofNat_tmod lo y).symm
  rw [e1,e2] at this
  have e3:0*18446744073709551616+lo=lo:=by omega
  rw [e3]
  exact this
 ·have hd0:((hi:Int)==zO6 0)=false:=by simp; omega
  have hbl:=bl_le.2 (show y < 2 ^64 from h3)
  have hbp:=bl_pos.2 hy0
  obtain⟨s,hs⟩:∃ s,s=64-bl y:=⟨_,rfl⟩
  have hs64:s<=64:=by omega
  have hsV:dS y=(s:Int):=by
   unfold dS I6
   rw [g9]
   have e:(64:Int)- ((bl y:Nat):Int)=(s:Int):=by omega
   rw [e,t8 (by omega),bZ (by omega)]
  have hp:2 ^64=(18446744073709551616:Nat):=by decide
  have hYlt:y*2 ^s < 18446744073709551616:=by
   have:=lZ y
   have:y*2 ^s < 2 ^bl y*2 ^s:=P4 this (H4 s)
   rw [<- n9,show bl y+s=64 by omega,hp] at this
   exact this
  have hYge:9223372036854775808<=y*2 ^s:=by
   have:=b0a hy0
   have:2 ^(bl y-1)*2 ^s<=y*2 ^s:=w9 _ this
   rw [<- n9,show bl y-1+s=63 by omega] at this
   exact this
  have hyV:dSh y s=((y*2 ^s:Nat):Int):=by rw [q0l hs64,G7 hYlt]
  have hhiS:hi*2 ^s+2 ^s<=y*2 ^s:=by
   have:(hi+1)*2 ^s<=y*2 ^s:=w9 _ h1
   rw [A7,P7] at this
   exact this
  have hloS:lo/2 ^(64-s) < 2 ^s:=by
   rw [D9 (H4 _),<- n9,show s+(64-s)=64 by omega]
   exact h2
  have hU:dU hi lo s=((hi*2 ^s+lo/2 ^(64-s):Nat):Int):=j2g hs64 (D7 (a0n _ _) (D7 hhiS hYlt)) h2
  have hL:dSh lo s=((lo*2 ^s%18446744073709551616:Nat):Int):=q0l hs64
  have hN:(hi*18446744073709551616+lo)*2 ^s=(hi*2 ^s+lo/2 ^(64-s))*18446744073709551616+lo*2 ^s%18446744073709551616:=by
   have e1:lo*2 ^s/18446744073709551616=lo/2 ^(64-s):=by
    have:(18446744073709551616:Nat)=2 ^(64-s)*2 ^s:=by rw [<- n9,show 64-s+s=64 by omega]
    rw [this,lH _ _ (H4 s)]
   have:=bV (lo*2 ^s) 18446744073709551616
   rw [e1] at this
   rw [A7,A7,O8]
   omega
  generalize hYe:y*2 ^s=Y at*
  generalize hUe:hi*2 ^s+lo/2 ^(64-s)=U at*
  generalize hLe:lo*2 ^s%18446744073709551616=L at*
  have hLlt:L < 18446744073709551616:=by rw [<- hLe]; exact F7 _ (by decide)
  have hUY:U < Y:=by omega
  have hY1:Y=Y/4294967296*4294967296+Y%4294967296:=by omega
  have L1:=l2w (X:=XW3) (c:=n0p) (x:= .exit 0) (by intro e; cases e) (fun q r=>TD1 Y s (Y/4294967296:Nat) (Y%4294967296:Nat) U L (L/4294967296:Nat) (L%4294967296:Nat) q r) (fun q=>TE1 Y s (Y/4294967296:Nat) (Y%4294967296:Nat) U L (L/4294967296:Nat) (L%4294967296:Nat) q)
   (Y:=Y) (y1:=Y/4294967296) (y0:=Y%4294967296) (U:=U) (u:=L/4294967296) hY1 (by omega) (by omega) (by omega) hUY (by omega) (fun q r=>r1o _ _ _ _ _ _ _ _ q r) (fun q r=>b2v _ _ _ _ _ _ _ _ q r) (fun q r=>o2w _ _ _ _ _ _ _ _ q r)
  have hq1:(U*4294967296+L/4294967296)/Y*Y+(U*4294967296+L/4294967296)%Y=U*4294967296+L/4294967296:=by
   have:=bV (U*4294967296+L/4294967296) Y
   rw [t7] at this
   exact this
  have hR1:(U*4294967296+L/4294967296)%Y < Y:=F7 _ (by omega)
  have hT1:(U*4294967296+L/4294967296)/Y < 4294967296:=by
   rw [D9 (by omega)]
   have:(U+1)*4294967296<=Y*4294967296:=w9 _ hUY
   omega
  obtain⟨q1,hq1e⟩:∃ q1,q1=(U*4294967296+L/4294967296)/Y:=⟨_,rfl⟩
  obtain⟨R1,hR1e⟩:∃ R1,R1=(U*4294967296+L/4294967296)%Y:=⟨_,rfl⟩
  rw [<- hq1e] at L1 hq1 hT1
  rw [<- hR1e] at hq1 hR1
  have L2:=l2w (X:=XW3) (c:=o0k) (x:= .exit 2) (by intro e; cases e) (fun q r=>TD2 Y s (Y/4294967296:Nat) (Y%4294967296:Nat) (L%4294967296:Nat) q1 R1 q r) (fun q=>TE2 Y s (Y/4294967296:Nat) (Y%4294967296:Nat) (L%4294967296:Nat) q1 R1 q)
   (Y:=Y) (y1:=Y/4294967296) (y0:=Y%4294967296) (U:=R1) (u:=L%4294967296) hY1 (by omega) (by omega) (by omega) hR1 (by omega) (fun q r=>w1a _ _ _ _ _ q r _ _) (fun q r=>a2o _ _ _ _ _ q r _ _) (fun q r=>j2l _ _ _ _ _ q r _ _)
  have hq0:(R1*4294967296+L%4294967296)/Y*Y+(R1*4294967296+L%4294967296)%Y=R1*4294967296+L%4294967296:=by
   have:=bV (R1*4294967296+L%4294967296) Y
   rw [t7] at this
   exact this
  have hR0:(R1*4294967296+L%4294967296)%Y < Y:=F7 _ (by omega)
  have hT0:(R1*4294967296+L%4294967296)/Y < 4294967296:=by
   rw [D9 (by omega)]
   have:(R1+1)*4294967296<=Y*4294967296:=w9 _ hR1
   omega
  obtain⟨q0,hq0e⟩:∃ q0,q0=(R1*4294967296+L%4294967296)/Y:=⟨_,rfl⟩
  obtain⟨R0,hR0e⟩:∃ R0,R0=(R1*4294967296+L%4294967296)%Y:=⟨_,rfl⟩
  rw [<- hq0e] at L2 hq0 hT0
  rw [<- hR0e] at hq0 hR0
  have hall:(hi*18446744073709551616+lo)*2 ^s=(q1*4294967296+q0)*Y+R0:=by
   rw [hN,A7,O8]
   omega
  have hres:(hi*18446744073709551616+lo)/y=q1*4294967296+q0∧R0=(hi*18446744073709551616+lo)%y*2 ^s:=by
   have e1:(hi*18446744073709551616+lo)*2 ^s/ (y*2 ^s)=(hi*18446744073709551616+lo)/y:=lH _ _ (H4 s)
   have e2:(hi*18446744073709551616+lo)*2 ^s%(y*2 ^s)=(hi*18446744073709551616+lo)%y*2 ^s:=qI _ _ _
   have hall':(hi*18446744073709551616+lo)*2 ^s=Y*(q1*4294967296+q0)+R0:=by rw [hall,t7 Y]
   have hY0:0 < Y:=by omega
   rw [hYe,hall'] at e1 e2
   rw [Nat.mul_add_div hY0,mK hR0,I1] at e1
   rw [Nat.mul_add_mod,G7 hR0] at e2
   exact⟨e1.symm,e2⟩
  have hin1:=f2u hi lo y (.exit 0) (TE1 Y s (Y/4294967296:Nat) (Y%4294967296:Nat) U L (L/4294967296:Nat) (L%4294967296:Nat) q1) (by
   rw [hsV,hyV,hU,hL,r0s,e1x hYlt,r0s,e1x hLlt,o1o (by omega),x1q (by omega) (by omega) (by omega)]
   exact L1)
  have hdn:dN U (L/4294967296:Nat) q1 Y=(R1:Int):=y1w hq1.symm (by omega)
  have hin2:=a2e hi lo y Y s (Y/4294967296:Nat) (Y%4294967296:Nat) U L (L/4294967296:Nat) (L%4294967296:Nat) q1 (.exit 2) (TE2 Y s (Y/4294967296:Nat) (Y%4294967296:Nat) (L%4294967296:Nat) q1 R1 q0) (by
   rw [hdn,o1o (by omega),x1q (by omega) (by omega) (by omega)]
   exact L2)
  have hyn1:(uI.wrap ((y:Int)*2 ^min (uI.wrap (iI.wrap (64-I6 y))).toNat uI.bits)).fdiv (2 ^min (Int.toNat 32) uI.bits)=((Y/4294967296:Nat):Int):=by
   have:dHi (dSh y (dS y))=((Y/4294967296:Nat):Int):=by rw [hsV,hyV,r0s]
   exact this
  have hsx:zO6 0<=uI.wrap (iI.wrap (zO6 64-I6 y)):=by
   have:dS y=(s:Int):=hsV
   show (0:Int)<=dS y
   omega
  have hsx2:zO6 0<=uI.wrap (zO6 64-uI.wrap (iI.wrap (zO6 64-I6 y))):=by
   show (0:Int)<=uI.wrap (64-dS y)
   rw [hsV]
   have:=R5 (64- (s:Int))
   omega
  have:=i7 pK 10 _ _ (f2f hi lo y Y s (Y/4294967296:Nat) (Y%4294967296:Nat) U L (L/4294967296:Nat) (L%4294967296:Nat) q1 R1 q0) ⟨by simp,hin2,by omega,hin1,by rw [hyn1]; omega,hsx,hsx2,hsx,hsx,⟨by simp,by simp only [B4]; omega⟩,hd0,d2,d1,a6⟩
  have f1:uI.wrap (uI.wrap ((q1:Int)*zO6 4294967296)+(q0:Int))=(((hi*18446744073709551616+lo)/y:Nat):Int):=by
   rw [hres.1]
   simp only [R5,B4]
   omega
  have f2:(uI.wrap (uI.wrap (uI.wrap ((R1:Int)*zO6 4294967296)+((L%4294967296:Nat):Int))-uI.wrap ((q0:Int)*(Y:Int)))).fdiv (zO6 (2 ^min (s:Int).toNat 64))=(((hi*18446744073709551616+lo)%y:Nat):Int):=by
   have e:dN R1 (L%4294967296:Nat) q0 Y=(R0:Int):=y1w hq0.symm (by omega)
   have e':uI.wrap (uI.wrap (uI.wrap ((R1:Int)*zO6 4294967296)+((L%4294967296:Nat):Int))-uI.wrap ((q0:Int)*(Y:Int)))=(R0:Int):=e
   rw [e',g9,C6 hs64,kQ (R0:Int) (show (0:Int)<=zO6 (2 ^s) from w7 _),hres.2]
   have:=uU ((hi*18446744073709551616+lo)%y) (H4 s)
   show (((hi*18446744073709551616+lo)%y*2 ^s:Nat):Int)/ ((2 ^s:Nat):Int)=_
   rw [<- Int.natCast_ediv,this]
  rw [f1,f2] at this
  exact this
def i2m (hi lo y:Int):Int:=(((hi.toNat*18446744073709551616+lo.toNat)/y.toNat:Nat):Int)
def s2m (hi lo y:Int):Int:=(((hi.toNat*18446744073709551616+lo.toNat)%y.toNat:Nat):Int)
def tS:List Value->Option (Value×List Prop)
 | [.int .u64 hi, .int .u64 lo, .int .u64 y] =>some (.tuple ⟨[.int .u64 (i2m hi lo y), .int .u64 (s2m hi lo y)]⟩,[(0<=hi∧hi < y)∧(0<=lo∧lo < 18446744073709551616)∧y < 18446744073709551616])
 | _=>none
theorem pO (args:List Value) (v:Value) (l:List Prop) (h:tS args=some (v,l)) (hl:l5 l):Pure zO8 J0 264 args v:=by
 unfold tS at h
 split at h
 case h_2=>cases h
 rename_i hi lo y
 cases h
 obtain⟨⟨h1,h2⟩,⟨h3,h4⟩,h5⟩:=hl.1
 have:=w0x (hi:=hi.toNat) (lo:=lo.toNat) (y:=y.toNat) (by omega) (by omega) (by omega)
 rw [I8 h1,I8 h3,I8 (by omega:0<=y)] at this
 exact this
def y0c:Tab:=r6 264 tS f2i
theorem lC:U6 zO8 J0 y0c:=i8 pO t0f
def bW4:Base:=⟨zO8,J0,false,y0c,l0o,200,L7⟩
theorem Z2:BaseOk bW4:=⟨progOk,lC,mE,r5⟩
abbrev XW4:Cx:=bW4.cx 10
def e2h:Code:=z8 zO8 197 0
def a1c (a:Bool) (xs L:List Int) (na N:Nat) (d r i:Int):St:=
 ⟨only 38 [(1, .int .u64 d),(2, .pointer (some ⟨13,0,none⟩)),(4, .pointer (some ⟨14,0,none⟩)),(6,slV 15 N),(7, .int .u64 r),(8, .int .i64 i)],[(15, .row bP 1 (.ints .u64 L) 16),(14, .cells [.bool false, .slice none 0 0] rS),(13, .cells [.bool a,slV 11 na] rS),(11, .ints .u64 xs)],17,[],[],0,none,[],13⟩
theorem u1u (a:Bool) (xs L:List Int) (na N:Nat) (d r i:Int) (hl:l5 [i.toNat < L.length,(zO6 0<=i∧i < zO6 N)∧0 < L.length,(zO6 0<=r∧r < d)∧(zO6 0<=xs.getD i.toNat (zO6 0)∧xs.getD i.toNat (zO6 0) < zO6 18446744073709551616)∧d < zO6 18446744073709551616,i.toNat < xs.length,(zO6 0<=i∧i < zO6 na)∧0 < xs.length,decide (zO6 0<=i)=true]):u4 XW4 e2h (a1c a xs L na N d r i) .normal (a1c a xs (S5 L i.toNat (i2m r (xs.getD i.toNat 0) d)) na N d (s2m r (xs.getD i.toNat 0) d) (iI.wrap (i-1))):=
 stp Z2 10 progOk.mixed [true] [] (by kernel_rfl) hl
theorem d2w (a:Bool) (xs L:List Int) (na N:Nat) (d r i:Int) (hl:l5 [decide (zO6 0<=i)=false]):u4 XW4 e2h (a1c a xs L na N d r i) (.exit 0) (a1c a xs L na N d r i):=
 stp Z2 10 progOk.mixed [false] [] (by kernel_rfl) hl
theorem c2u (a s:Bool) (xs L R:List Int) (na N:Nat) (d r i q:Int):B2 XW4 [H7 (.exit 0) (fun _=>a1c a xs L na N d r i)] 200 197 [iL a xs,uR d] [iL s R,uR q] [] =some [0=0∧0+N<=L.length∧L.length < 1099511627776,b9 XW4 e2h (m8 XW4 200 197 [iL a xs,uR d] []) (.exit 0) (a1c a xs L na N d r i),zO6 0<=zO6 xs.length∧zO6 xs.length=zO6 xs.length∧zO6 (8*xs.length)<=zO6 281474976710656∧zO6 xs.length<=zO6 9223372036854775807,zO9 false=zO9 s,(n8 (zO10 N L)).length=R.length∧(n8 (zO10 N L)).length<=L.length∧zO10 (n8 (zO10 N L)).length L=R,zO2 uI r=zO2 uI q] :=by kernel_rfl
theorem r1c (a:Bool) (xs:List Int) (d:Int) (x:AX) (s':St) (h:b9 XW4 e2h (a1c a xs (zO7 xs.length 0) xs.length xs.length d 0 (iI.wrap ((xs.length:Int)-1))) x s'):b9 XW4 e2h (m8 XW4 200 197 [iL a xs,uR d] []) x s':=
 l9 h []
structure ISh where
 m:Nat
 r:Nat
 L:List Int
def f2e (xs:List Int) (d:Nat) (p:ISh):Prop:=
 p.m<=xs.length∧p.L.length=xs.length∧Dg W64 p.L∧val W64 (p.L.drop p.m)=val W64 (xs.drop p.m)/d∧p.r=val W64 (xs.drop p.m)%d
theorem k0a {n:Nat} (h:n < 1099511627776):iI.wrap ((n:Int)-1)=(n:Int)-1:=by
 have:=y3 ((n:Int)-1)
 omega
theorem drop_set {l:List Int} {m:Nat} (h:m < l.length) (x:Int):(l.set m x).drop m=x ::l.drop (m+1):=by
 rw [y0l (by simpa using h)]
 congr 1
 ·simp
 ·apply h1z
  intro j
  rw [W3,W3,List.getElem?_set_ne (by omega)]
def shN (xs:List Int) (d:Nat) (p:ISh):ISh:=
 ⟨p.m-1,(p.r*18446744073709551616+(xs.getD (p.m-1) 0).toNat)%d,p.L.set (p.m-1) (((p.r*18446744073709551616+(xs.getD (p.m-1) 0).toNat)/d:Nat):Int)⟩
theorem y0a (a:Bool) {xs:List Int} (hx:Dg W64 xs) (hb:xs.length < 1099511627776) {d:Nat} (hd0:0 < d) (hd:d < W64):
  b9 XW4 e2h (a1c a xs (zO7 xs.length 0) xs.length xs.length d 0 ((xs.length:Int)-1)) (.exit 0) (a1c a xs (itr (shN xs d) xs.length ⟨xs.length,0,zO7 xs.length 0⟩).L xs.length xs.length d ((val W64 xs%d:Nat):Int) (-1))∧
  (itr (shN xs d) xs.length ⟨xs.length,0,zO7 xs.length 0⟩).L.length=xs.length∧n8 (itr (shN xs d) xs.length ⟨xs.length,0,zO7 xs.length 0⟩).L=ws W64 (val W64 xs/d):=by
 have hd':d < 18446744073709551616:=hd
 have step:∀ p:ISh,f2e xs d p->0 < p.m->f2e xs d (shN xs d p)∧u4 XW4 e2h (a1c a xs p.L xs.length xs.length d p.r ((p.m:Int)-1)) .normal (a1c a xs (shN xs d p).L xs.length xs.length d (shN xs d p).r (((shN xs d p).m:Int)-1)):=by
  intro p ⟨h1,h2,h3,h4,h5⟩ hm
  obtain⟨m,hmm⟩:∃ m,p.m=m+1:=⟨p.m-1,by omega⟩
  have hml:m < xs.length:=by omega
  have gx:=hx.get m7 m
  have hr:p.r < d:=by rw [h5]; exact F7 _ hd0
  have hW:((W64:Nat):Int)=18446744073709551616:=rfl
  rw [hW] at gx
  obtain⟨x,hxe⟩:∃ x:Nat,xs.getD m 0=(x:Int):=⟨(xs.getD m 0).toNat,by omega⟩
  have hxl:x < 18446744073709551616:=by omega
  have hq:(p.r*18446744073709551616+x)/d < 18446744073709551616:=by
   rw [D9 hd0]
   have:(p.r+1)*18446744073709551616<=d*18446744073709551616:=w9 _ hr
   rw [t7 18446744073709551616]
   omega
  have e1:i2m p.r x d=(((p.r*18446744073709551616+x)/d:Nat):Int):=by unfold i2m; rw [g9,g9,g9]
  have e2:s2m p.r x d=(((p.r*18446744073709551616+x)%d:Nat):Int):=by unfold s2m; rw [g9,g9,g9]
  have hsh:shN xs d p=⟨m,(p.r*18446744073709551616+x)%d,p.L.set m (((p.r*18446744073709551616+x)/d:Nat):Int)⟩:=by
   unfold shN
   rw [hmm,zQ,hxe,g9]
  rw [hsh]
  refine⟨⟨by simp only; omega,by simp [h2],h3.set ⟨w7 _,by exact_mod_cast hq⟩ _,?_,?_⟩,?_⟩
  ·simp only
   rw [drop_set (by omega),E4 (l:=xs) (m:=m) hml,hxe]
   simp only [val,g9]
   rw [hmm] at h4 h5
   rw [h4]
   have hdm:=bV (val W64 (xs.drop (m+1))) d
   rw [<- h5] at hdm
   have:x+W64*val W64 (xs.drop (m+1))=(p.r*18446744073709551616+x)+d*(W64*(val W64 (xs.drop (m+1))/d)):=by
    rw [<- hdm]
    have e:(d*(val W64 (xs.drop (m+1))/d)+p.r)/d=val W64 (xs.drop (m+1))/d:=by rw [Nat.mul_add_div hd0,mK hr,I1]
    rw [e,R4,<- r7,<- r7,t7 W64 d,t7 W64 p.r]
    show _=p.r*W64+x+_
    omega
   rw [this,gC _ _ hd0]
  ·simp only
   rw [E4 (l:=xs) (m:=m) hml,hxe]
   simp only [val,g9]
   rw [hmm] at h5
   rw [h5]
   show (_*W64+x)%d=_
   rw [Nat.add_mod,Nat.mul_mod,Nat.mod_mod,<- Nat.mul_mod,<- Nat.add_mod,t7 W64,g0x]
  ·have:=u1u a xs p.L xs.length xs.length d p.r (m:Int)
   rw [g9,hxe,e1,e2,k0a (by omega),A0] at this
   have e3:(p.m:Int)-1=(m:Int):=by omega
   rw [e3]
   have bnd:(zO6 0<=(m:Int)∧(m:Int) < zO6 xs.length):=⟨by simp,by simpa using hml⟩
   have hz:xs.getD m (zO6 0)=(x:Int):=hxe
   refine this ⟨by omega,⟨bnd,by omega⟩,⟨⟨by simp,by exact_mod_cast hr⟩,⟨by rw [hz]; simp,by rw [hz]; simp only [B4]; omega⟩,by simp only [B4]; omega⟩,hml,⟨bnd,by omega⟩,by simp,a6⟩
 have all:∀ k,k<=xs.length->f2e xs d (itr (shN xs d) k ⟨xs.length,0,zO7 xs.length 0⟩)∧(itr (shN xs d) k ⟨xs.length,0,zO7 xs.length 0⟩).m=xs.length-k:=by
  intro k
  induction k with
  | zero=>exact fun _=>⟨⟨d9 _,by simp [itr],H8 _ m7 _,by simp [itr,val],by simp [itr,val]⟩,rfl⟩
  | succ k ih=>
   intro hk
   obtain⟨g1,g2⟩:=ih (by omega)
   refine⟨(step _ g1 (by rw [g2]; omega)).1,?_⟩
   show (itr (shN xs d) k _).m-1=_
   rw [g2]
   omega
 obtain⟨g1,g2⟩:=all xs.length (d9 _)
 rw [L0] at g2
 have hout:=d2w a xs (itr (shN xs d) xs.length ⟨xs.length,0,zO7 xs.length 0⟩).L xs.length xs.length d (itr (shN xs d) xs.length ⟨xs.length,0,zO7 xs.length 0⟩).r (-1) ⟨by decide,a6⟩
 have hrun:=x5 (fun k=>a1c a xs (itr (shN xs d) k ⟨xs.length,0,zO7 xs.length 0⟩).L xs.length xs.length d (itr (shN xs d) k ⟨xs.length,0,zO7 xs.length 0⟩).r (((itr (shN xs d) k ⟨xs.length,0,zO7 xs.length 0⟩).m:Int)-1)) xs.length (x:= .exit 0) (by intro e; cases e) (fun k hk=>by
  obtain⟨q1,q2⟩:=all k (by omega)
  exact (step _ q1 (by rw [q2]; omega)).2) (by rw [g2]; exact hout)
 obtain⟨q1,q2,q3,q4,q5⟩:=g1
 rw [g2] at q4 q5
 simp only [U8] at q4 q5
 rw [q5] at hrun
 refine⟨hrun,q2,?_⟩
 rw [E1 F5 q3,q4]
theorem n1c (a:Bool) {A d:Nat} (hA:wl A < 549755813888) (hd0:0 < d) (hd:d < W64):Ev.Sem zO8 J0 197 [iN a A,uR d] [iN false (A/d),uR ((A%d:Nat):Int)] :=by
 have hA:(ws W64 A).length < 549755813888:=hA
 obtain⟨h1,h2,h3⟩:=y0a a (j0n A) (by omega) hd0 hd
 rw [B5] at h1 h3
 have hw:=k0a (n:=(ws W64 A).length) (by omega)
 rw [<- hw] at h1
 obtain⟨q1,q2,q3⟩:=L8 h3
 have ht:zO10 (ws W64 A).length (itr (shN (ws W64 A) d) (ws W64 A).length ⟨(ws W64 A).length,0,zO7 (ws W64 A).length 0⟩).L=(itr (shN (ws W64 A) d) (ws W64 A).length ⟨(ws W64 A).length,0,zO7 (ws W64 A).length 0⟩).L:=O9 (by rw [h2]; exact d9 _)
 refine l7 Z2 10 _ _ (c2u a false (ws W64 A) (itr (shN (ws W64 A) d) (ws W64 A).length ⟨(ws W64 A).length,0,zO7 (ws W64 A).length 0⟩).L (ws W64 (A/d)) (ws W64 A).length (ws W64 A).length d ((A%d:Nat):Int) (-1) _) ?_
 rw [ht]
 have hi:=r1c a (ws W64 A) d _ _ h1
 refine⟨⟨rfl,by rw [h2]; omega,by rw [h2]; omega⟩,hi,⟨by simp,rfl,by simp only [B4]; omega,by simp only [B4]; omega⟩,rfl,⟨q1,q2,q3⟩,rfl,a6⟩
def i2k:Code:=z8 zO8 125 0
def o1q (a:Bool) (xs L:List Int) (na N:Nat) (n la i:Int):St:=⟨only 58 [(1, .int .i64 n),(2, .pointer (some ⟨13,0,none⟩)),(4, .pointer (some ⟨14,0,none⟩)),(5,slV 15 N),(17,slV 11 na),(18, .int .i64 la),(19, .int .i64 i)],
 [(15, .row bP 1 (.ints .u64 L) 16),(14, .cells [.bool false, .slice none 0 0] rS),(13, .cells [.bool a,slV 11 na] rS),(11, .ints .u64 xs)],17,[],[],0,none,[],13⟩
def fZ (n:Int):Int:=iI.wrap (n.tdiv 64)
def v0u (i n:Int):Int:=iI.wrap (i+fZ n)
def y0k (i n:Int):Int:=iI.wrap (v0u i n+1)
def z1p (w n:Int):Int:=uI.wrap (w*2 ^min (n.tmod 64).toNat 64)
def e2t (w n:Int):Int:=(w.fdiv (2 ^min (Int.toNat 1) 64)).fdiv (2 ^min (iI.wrap (63-n.tmod 64)).toNat 64)
def m0f (xs L:List Int) (n i:Int):List Int:=S5 L (v0u i n).toNat (bits .or .u64 (L.getD (v0u i n).toNat 0) (z1p (xs.getD i.toNat 0) n))
def o2d (xs L:List Int) (n i:Int):List Int:=S5 (m0f xs L n i) (y0k i n).toNat (bits .or .u64 ((m0f xs L n i).getD (y0k i n).toNat 0) (e2t (xs.getD i.toNat 0) n))
section
variable (a:Bool) (xs L:List Int) (na N:Nat) (n la i:Int)
theorem v1b (hJ:((y0k i n).toNat < (m0f xs L n i).length)∧((0:Int)<=y0k i n∧y0k i n < N)∧0 < (m0f xs L n i).length) (h63:0<=iI.wrap (63-n.tmod 64)) (hI:((v0u i n).toNat < L.length)∧((0:Int)<=v0u i n∧v0u i n < N)∧0 < L.length) (h64:0<=n.tmod 64)
  (hx:i.toNat < xs.length∧((0:Int)<=i∧i < na)∧0 < xs.length) (h0:decide (i < la)=true):u4 XW4 i2k (o1q a xs L na N n la i) .normal (o1q a xs (o2d xs L n i) na N n la (iI.wrap (i+1))):=
 stp Z2 10 progOk.mixed [true] [] (l:=[(y0k i n).toNat < (m0f xs L n i).length,((0:Int)<=y0k i n∧y0k i n < N)∧0 < (m0f xs L n i).length,0<=iI.wrap (63-n.tmod 64),(y0k i n).toNat < (m0f xs L n i).length,((0:Int)<=y0k i n∧y0k i n < N)∧0 < (m0f xs L n i).length,
  (v0u i n).toNat < L.length,((0:Int)<=v0u i n∧v0u i n < N)∧0 < L.length,0<=n.tmod 64,(v0u i n).toNat < L.length,((0:Int)<=v0u i n∧v0u i n < N)∧0 < L.length,i.toNat < xs.length,((0:Int)<=i∧i < na)∧0 < xs.length,decide (i < la)=true])
  (by kernel_rfl) ⟨hJ.1,hJ.2,h63,hJ.1,hJ.2,hI.1,hI.2,h64,hI.1,hI.2,hx.1,hx.2,h0,a6⟩ (by kernel_rfl) (by kernel_rfl)
theorem h2k (h0:decide (i < la)=false):u4 XW4 i2k (o1q a xs L na N n la i) (.exit 0) (o1q a xs L na N n la i):=
 stp Z2 10 progOk.mixed [false] [] (l:=[decide (i < la)=false]) (by kernel_rfl) ⟨h0,a6⟩
end
theorem d2q (a s:Bool) (xs L R:List Int) (na N:Nat) (n m la i:Int):B2 XW4 [H7 (.exit 0) (fun _=>o1q a xs L na N n la i)] 200 125 [iL a xs,iR m] [iL s R] [] =some [0=0∧0+N<=L.length∧L.length < 1099511627776,b9 XW4 i2k (m8 XW4 200 125 [iL a xs,iR m] []) (.exit 0) (o1q a xs L na N n la i),zO6 0<=iI.wrap (iI.wrap (zO6 xs.length+iI.wrap (m.tdiv (zO6 64)))+zO6 1)∧iI.wrap (iI.wrap (zO6 xs.length+iI.wrap (m.tdiv (zO6 64)))+zO6 1)=iI.wrap (iI.wrap (zO6 xs.length+iI.wrap (m.tdiv (zO6 64)))+zO6 1)∧zO6 8*iI.wrap (iI.wrap (zO6 xs.length+iI.wrap (m.tdiv (zO6 64)))+zO6 1)<=zO6 281474976710656∧iI.wrap (iI.wrap (zO6 xs.length+iI.wrap (m.tdiv (zO6 64)))+zO6 1)<=zO6 9223372036854775807,zO9 (a && decide (0 < (n8 (zO10 N L)).length))=zO9 s,(n8 (zO10 N L)).length=R.length∧(n8 (zO10 N L)).length<=L.length∧zO10 (n8 (zO10 N L)).length L=R] :=by kernel_rfl
theorem p1w (a:Bool) (xs:List Int) (n:Int) (x:AX) (s':St) (h:b9 XW4 i2k (o1q a xs (zO7 (iI.wrap (iI.wrap ((xs.length:Int)+fZ n)+1)).toNat 0) xs.length (iI.wrap (iI.wrap ((xs.length:Int)+fZ n)+1)).toNat n xs.length 0) x s'):
  b9 XW4 i2k (m8 XW4 200 125 [iL a xs,iR n] []) x s':=
 l9 h []
theorem u1h {w r low:Nat} (hw:w < W64) (hr:r < 64) (hl:low < 2 ^r):
  bits .or .u64 (low:Int) (z1p w ((r:Nat):Int))=((low+w*2 ^r%W64:Nat):Int)∧e2t w ((r:Nat):Int)=((w*2 ^r/W64:Nat):Int)∧w*2 ^r/W64 < 2 ^r∧low+w*2 ^r%W64 < W64:=by
 have hp:(2:Nat) ^64=W64:=by decide
 have hW:W64=18446744073709551616:=rfl
 have hw':w < 18446744073709551616:=hw
 have hrt:((r:Nat):Int).tmod 64=(r:Int):=by
  have:=(Int.ofNat_tmod r 64).symm
  rw [G7 hr] at this
  exact this
 have hpr:=H4 r
 have hA:z1p w r=((w*2 ^r%W64:Nat):Int):=by
  unfold z1p
  rw [hrt,g9,C6 (by omega),R5]
  have:(w:Int)*2 ^r=((w*2 ^r:Nat):Int):=by rw [V9,bI]; rfl
  rw [this,hW]
  omega
 have hsplit:W64=2 ^(64-r)*2 ^r:=by rw [<- n9,show 64-r+r=64 by omega,hp]
 have hhi:w*2 ^r/W64=w/2 ^(64-r):=by rw [hsplit,lH _ _ hpr]
 have hB:e2t w r=((w*2 ^r/W64:Nat):Int):=by
  unfold e2t
  rw [hrt,hhi]
  have e1:iI.wrap (63- (r:Int))=((63-r:Nat):Int):=by
   have:(63:Int)- (r:Int)=((63-r:Nat):Int):=by omega
   rw [this,t8 (by omega)]
  have e2:(w:Int).fdiv (2 ^min (Int.toNat 1) 64)=((w/2:Nat):Int):=by
   rw [show ((2:Int) ^min (Int.toNat 1) 64)=2 by decide,kQ _ (by omega)]
   omega
  rw [e2,e1,g9,C6 (by omega)]
  rw [kQ _ (by
   have:(0:Int) < 2 ^(63-r):=Int.pow_pos (by decide)
   omega)]
  have e3:((w/2:Nat):Int)/2 ^(63-r)=((w/2/2 ^(63-r):Nat):Int):=by rw [Int.natCast_ediv (w/2),bI]; rfl
  rw [e3,P0,show 64-r=63-r+1 by omega,y8,t7 (2 ^(63-r))]
 have hhl:w*2 ^r/W64 < 2 ^r:=by
  rw [D9 m7,t7 (2 ^r)]
  exact P4 hw hpr
 have hfree:w*2 ^r%W64=w%2 ^(64-r)*2 ^r:=by rw [hsplit,qI]
 have hlt:low+w*2 ^r%W64 < W64:=by
  rw [hfree]
  have:(w%2 ^(64-r)+1)*2 ^r<=2 ^(64-r)*2 ^r:=w9 _ (F7 _ (H4 _))
  rw [A7,P7,<- hsplit] at this
  omega
 refine⟨?_,hB,hhl,hlt⟩
 rw [hA]
 have h1:low < 18446744073709551616:=by omega
 have h2:w*2 ^r%W64 < 18446744073709551616:=by omega
 rw [bits_or_u64_nat _ _ h1 h2,wL,hfree]
 have:=j0f hl (w%2 ^(64-r))
 rw [kF] at this
 rw [<- this,g0x]
def b2q (xs:List Int) (q r i:Nat) (L:List Int):Prop:=
 L.length=xs.length+q+1∧Dg W64 L∧(L.getD (i+q) 0).toNat < 2 ^r∧(∀ t,i+q+1<=t->L.getD t 0=0)∧val W64 L=val W64 xs%W64 ^i*2 ^r*W64 ^q
def bN (xs:List Int) (n:Nat):Nat->List Int
 | 0=>zO7 (xs.length+n/64+1) 0
 | i+1=>o2d xs (bN xs n i) n i
theorem e0z {n:Nat} (hn:n < 1099511627776):fZ n=((n/64:Nat):Int):=by
 unfold fZ
 have:=(k0n n 64).symm
 have e:((n:Nat):Int).tdiv 64=((n/64:Nat):Int):=this
 rw [e,t8 (by omega)]
theorem e0x {i n:Nat} (hn:n < 1099511627776) (hi:i < 1099511627776):v0u i n=((i+n/64:Nat):Int):=by
 unfold v0u
 rw [e0z hn]
 have:=t8 (n:=i+n/64) (by omega)
 simpa using this
theorem u0d {i n:Nat} (hn:n < 1099511627776) (hi:i < 1099511627776):y0k i n=((i+n/64+1:Nat):Int):=by
 unfold y0k
 rw [e0x hn hi]
 have:=t8 (n:=i+n/64+1) (by omega)
 simpa using this
theorem V6 (n:Nat):((n:Nat):Int).tmod 64=((n%64:Nat):Int):=(Int.ofNat_tmod n 64).symm
theorem u1p (w:Int) (n:Nat):z1p w n=z1p w ((n%64:Nat):Int):=by unfold z1p; rw [V6,V6,Nat.mod_mod]
theorem q1o (w:Int) (n:Nat):e2t w n=e2t w ((n%64:Nat):Int):=by unfold e2t; rw [V6,V6,Nat.mod_mod]
theorem p0g {l:List Int} {i:Nat} (h:i < l.length) (x:Int):(l.set i x).getD i 0=x:=by
 rw [bD,List.getElem?_set_self h]
 rfl
theorem zX {xs L:List Int} (hx:Dg W64 xs) {n i:Nat} (hn:n < 1099511627776) (hi:i < xs.length) (hb:xs.length < 549755813888) (h:b2q xs (n/64) (n%64) i L):b2q xs (n/64) (n%64) (i+1) (o2d xs L n i)∧(m0f xs L n i).length=L.length:=by
 obtain⟨h1,h2,h3,h4,h5⟩:=h
 have gx:=B1 m7 hx i
 have hwl:=D6 m7 (val W64 xs) i
 have gl:=h2.get m7 (i+n/64)
 obtain⟨low,hlow⟩:∃ low:Nat,L.getD (i+n/64) 0=(low:Int):=⟨(L.getD (i+n/64) 0).toNat,by omega⟩
 rw [hlow,g9] at h3
 obtain⟨e1,e2,e3,e4⟩:=u1h hwl (F7 n (by decide)) h3
 have hl1:m0f xs L n i=L.set (i+n/64) ((low+dig W64 (val W64 xs) i*2 ^(n%64)%W64:Nat):Int):=by
  unfold m0f
  rw [e0x hn (by omega),A0,g9,g9,hlow,gx,u1p,e1]
 have hlen1:(m0f xs L n i).length=L.length:=by rw [hl1,List.length_set]
 have hz:(m0f xs L n i).getD (i+n/64+1) 0=0:=by rw [hl1,getD_set_ne (by omega)]; exact h4 _ (d9 _)
 have hhW:dig W64 (val W64 xs) i*2 ^(n%64)/W64 < 18446744073709551616:=by
  refine C8 e3 ?_
  have:2 ^(n%64)<=2 ^64:=y5 (by decide) (by omega)
  exact x7 this (by decide)
 have hl2:o2d xs L n i=(m0f xs L n i).set (i+n/64+1) ((dig W64 (val W64 xs) i*2 ^(n%64)/W64:Nat):Int):=by
  unfold o2d
  rw [u0d hn (by omega),A0,g9,g9,hz,gx,q1o,e2]
  have:=bits_or_u64_nat 0 (dig W64 (val W64 xs) i*2 ^(n%64)/W64) (by decide) hhW
  rw [Nat.zero_or] at this
  congr 1
 have hD1:Dg W64 (m0f xs L n i):=by rw [hl1]; exact h2.set ⟨w7 _,by exact_mod_cast e4⟩ _
 refine⟨⟨by rw [hl2,List.length_set,hlen1,h1],by rw [hl2]; exact hD1.set ⟨w7 _,by exact_mod_cast hhW⟩ _,?_,fun t ht=> ?_,?_⟩,hlen1⟩
 ·rw [hl2,show i+1+n/64=i+n/64+1 by omega,p0g (by rw [hlen1]; omega),g9]
  exact e3
 ·rw [hl2,getD_set_ne (by omega),hl1,getD_set_ne (by omega)]
  exact h4 t (by omega)
 ·have v1:=cX (b:=W64) (((low+dig W64 (val W64 xs) i*2 ^(n%64)%W64:Nat):Int)) (show i+n/64 < L.length by omega)
  rw [<- hl1,hlow,g9,g9,A7] at v1
  have v2:=cX (b:=W64) (((dig W64 (val W64 xs) i*2 ^(n%64)/W64:Nat):Int)) (show i+n/64+1 < (m0f xs L n i).length by omega)
  rw [<- hl2,hz,g9] at v2
  simp only [h0f,K8,I1] at v2
  rw [v2,J8]
  have e5:dig W64 (val W64 xs) i*2 ^(n%64)%W64*W64 ^(i+n/64)+dig W64 (val W64 xs) i*2 ^(n%64)/W64*W64 ^(i+n/64+1)=dig W64 (val W64 xs) i*2 ^(n%64)*W64 ^(i+n/64):=by
   rw [y8,<- r7,O8,<- A7]
   congr 1
   have:=wE (dig W64 (val W64 xs) i*2 ^(n%64)) W64
   rw [t7 W64] at this
   exact this
  have e6:(val W64 xs%W64 ^i+dig W64 (val W64 xs) i*W64 ^i)*2 ^(n%64)*W64 ^(n/64)=val W64 xs%W64 ^i*2 ^(n%64)*W64 ^(n/64)+dig W64 (val W64 xs) i*2 ^(n%64)*W64 ^(i+n/64):=by
   rw [A7,A7,n9]
   congr 1
   rw [O8 (dig W64 (val W64 xs) i),r7]
  rw [e6,<- h5]
  omega
theorem vS {xs:List Int} (hx:Dg W64 xs) {n:Nat} (hn:n < 1099511627776) (hb:xs.length < 549755813888):∀ i,i<=xs.length->b2q xs (n/64) (n%64) i (bN xs n i)
 | 0,_=>⟨by simp [bN],H8 _ m7 _,by
   show ((zO7 _ (0:Int)).getD _ 0).toNat < _
   rw [Y2]
   exact H4 _,fun t _=>Y2 _ _,by simp [bN,O4,Nat.mod_one]⟩
 | i+1,hi=>(zX hx hn (by omega) hb (vS hx hn hb i (by omega))).1
theorem t1w (a:Bool) {A n:Nat} (hA:wl A < 549755813888) (hn:n < 549755813888):Ev.Sem zO8 J0 125 [iN a A,iR (n:Int)] [iN (a && decide (0 < A*2 ^n)) (A*2 ^n)] :=by
 have hA:(ws W64 A).length < 549755813888:=hA
 have hx:=j0n A
 have vA:=B5 A
 have hpow:2 ^(n%64)*W64 ^(n/64)=2 ^n:=by
  have:W64=2 ^64:=by decide
  rw [this,<- dB,<- n9,wE]
 have hR:n8 (bN (ws W64 A) n (ws W64 A).length)=ws W64 (A*2 ^n)∧(bN (ws W64 A) n (ws W64 A).length).length=(ws W64 A).length+n/64+1:=by
  obtain⟨h1,h2,h3,h4,h5⟩:=vS hx (n:=n) (by omega) hA (ws W64 A).length (d9 _)
  refine⟨?_,h1⟩
  rw [E1 F5 h2,h5,G7 (E8 m7 hx),vA,r7,hpow]
 have hQ:=e0z (n:=n) (by omega)
 have hN:iI.wrap (iI.wrap (((ws W64 A).length:Int)+fZ n)+1)=(((ws W64 A).length+n/64+1:Nat):Int):=by
  rw [hQ]
  have e1:((ws W64 A).length:Int)+((n/64:Nat):Int)=(((ws W64 A).length+n/64:Nat):Int):=by omega
  rw [e1,t8 (by omega)]
  have e2:(((ws W64 A).length+n/64:Nat):Int)+1=(((ws W64 A).length+n/64+1:Nat):Int):=by omega
  rw [e2,t8 (by omega)]
 have hL:b9 XW4 i2k (o1q a (ws W64 A) (zO7 ((ws W64 A).length+n/64+1) 0) (ws W64 A).length ((ws W64 A).length+n/64+1) n (ws W64 A).length 0) (.exit 0)
   (o1q a (ws W64 A) (bN (ws W64 A) n (ws W64 A).length) (ws W64 A).length ((ws W64 A).length+n/64+1) n (ws W64 A).length (ws W64 A).length):=by
  generalize ws W64 A=xs at*
  refine x5 (fun k=>o1q a xs (bN xs n k) xs.length (xs.length+n/64+1) n xs.length k) xs.length (by intro e; cases e) (fun k hk=> ?_) (h2k a xs _ xs.length (xs.length+n/64+1) n xs.length xs.length (by simp))
  have hg:=vS hx (n:=n) (by omega) hA k (by omega)
  obtain⟨_,hl1⟩:=zX hx (by omega) hk hA hg
  have hlen:=hg.1
  have:=v1b a xs (bN xs n k) xs.length (xs.length+n/64+1) n xs.length k
  rw [e0x (by omega) (by omega),u0d (by omega) (by omega),V6,L6 (n:=k) (by omega),hl1] at this
  have h63:(0:Int)<=iI.wrap (63- ((n%64:Nat):Int)):=by
   have e:(63:Int)- ((n%64:Nat):Int)=((63-n%64:Nat):Int):=by omega
   rw [e,t8 (by omega)]
   omega
  exact this ⟨by rw [g9]; omega,⟨by omega,by omega⟩,by omega⟩ h63 ⟨by rw [g9]; omega,⟨by omega,by omega⟩,by omega⟩ (by omega) ⟨by simpa using hk,⟨by omega,by omega⟩,by omega⟩ (by simpa using hk)
 have hN':iI.wrap (iI.wrap (zO6 (ws W64 A).length+iI.wrap ((n:Int).tdiv (zO6 64)))+zO6 1)=(((ws W64 A).length+n/64+1:Nat):Int):=hN
 obtain⟨q1,q2,q3⟩:=L8 hR.1
 have ht:zO10 ((ws W64 A).length+n/64+1) (bN (ws W64 A) n (ws W64 A).length)=bN (ws W64 A) n (ws W64 A).length:=O9 (by rw [hR.2]; exact d9 _)
 refine l7 Z2 10 _ _ (d2q a _ (ws W64 A) (bN (ws W64 A) n (ws W64 A).length) (ws W64 (A*2 ^n)) (ws W64 A).length ((ws W64 A).length+n/64+1) n n (ws W64 A).length (ws W64 A).length) ?_
 rw [ht,hN']
 refine⟨⟨rfl,by rw [hR.2]; omega,by rw [hR.2]; omega⟩,p1w a _ n _ _ (by rw [hN]; exact hL),⟨by simp only [B4]; omega,rfl,by simp only [B4]; omega,by simp only [B4]; omega⟩,?_,⟨q1,q2,q3⟩,a6⟩
 rw [hR.1]
 have:=wl_pos (m:=A*2 ^n)
 congr 2
 simp only [zzA179]
 exact this
def o1w:Code:=z8 zO8 267 0
def m0m (a:Bool) (xs L:List Int) (na N:Nat) (n i:Int):St:=⟨only 52 [(1, .int .i64 n),(2, .pointer (some ⟨13,0,none⟩)),(4, .pointer (some ⟨14,0,none⟩)),(5,slV 15 N),(6, .int .i64 i)],
 [(15, .row bP 1 (.ints .u64 L) 16),(14, .cells [.bool false, .slice none 0 0] rS),(13, .cells [.bool a,slV 11 na] rS),(11, .ints .u64 xs)],17,[],[],0,none,[],13⟩
def x1w (x n:Int):Int:=x.fdiv (2 ^min (n.tmod 64).toNat 64)
def s2j (y n:Int):Int:=uI.wrap (uI.wrap (y*2 ^min (Int.toNat 1) 64)*2 ^min (iI.wrap (63-n.tmod 64)).toNat 64)
def s2l (xs:List Int) (n i:Int):Int:=bits .or .u64 (x1w (xs.getD i.toNat 0) n) (s2j (xs.getD (iI.wrap (i+1)).toNat 0) n)
abbrev inX (xs:List Int) (na:Nat) (i:Int):Prop:=i.toNat < xs.length∧((0:Int)<=i∧i < na)∧0 < xs.length
def i2q (a:Bool) (xs:List Int) (n:Int):St:=m8 XW4 200 267 [iL a xs,iR n] []
section
variable (a:Bool) (xs L:List Int) (na N:Nat) (n i:Int)
theorem v1a (hN:N*1=L.length∧(N+1)*8<=140737488355328∧N+1<=9223372036854775807) (h63:0<=iI.wrap (63-n.tmod 64)) (h2:inX xs na (iI.wrap (i+1))) (h3:decide (iI.wrap (i+1) < na)=true) (h64:0<=n.tmod 64) (h1:inX xs na i) (h0:decide (i < na)=true):
  u4 XW4 o1w (m0m a xs L na N n i) .normal (m0m a xs (L++[s2l xs n i]) na (N+1) n (iI.wrap (i+1))):=
 stp Z2 10 progOk.mixed [true,true] [(15,18),(16,19)] (l:=[N*1=L.length∧(N+1)*8<=140737488355328∧N+1<=9223372036854775807,0<=iI.wrap (63-n.tmod 64),(iI.wrap (i+1)).toNat < xs.length,((0:Int)<=iI.wrap (i+1)∧iI.wrap (i+1) < na)∧0 < xs.length,
  decide (iI.wrap (i+1) < na)=true,0<=n.tmod 64,i.toNat < xs.length,((0:Int)<=i∧i < na)∧0 < xs.length,decide (i < na)=true]) (by kernel_rfl) ⟨hN,h63,h2.1,h2.2,h3,h64,h1.1,h1.2,h0,a6⟩ (by kernel_rfl) (by kernel_rfl)
theorem g2r (hN:N*1=L.length∧(N+1)*8<=140737488355328∧N+1<=9223372036854775807) (h3:decide (iI.wrap (i+1) < na)=false) (h64:0<=n.tmod 64) (h1:inX xs na i) (h0:decide (i < na)=true):
  u4 XW4 o1w (m0m a xs L na N n i) .normal (m0m a xs (L++[x1w (xs.getD i.toNat 0) n]) na (N+1) n (iI.wrap (i+1))):=
 stp Z2 10 progOk.mixed [true,false] [(15,18),(16,19)] (l:=[N*1=L.length∧(N+1)*8<=140737488355328∧N+1<=9223372036854775807,decide (iI.wrap (i+1) < na)=false,0<=n.tmod 64,i.toNat < xs.length,((0:Int)<=i∧i < na)∧0 < xs.length,decide (i < na)=true])
  (by kernel_rfl) ⟨hN,h3,h64,h1.1,h1.2,h0,a6⟩ (by kernel_rfl) (by kernel_rfl)
theorem h2o (h0:decide (i < na)=false):u4 XW4 o1w (m0m a xs L na N n i) (.exit 0) (m0m a xs L na N n i):=
 stp Z2 10 progOk.mixed [false] [] (l:=[decide (i < na)=false]) (by kernel_rfl) ⟨h0,a6⟩
theorem y0e (h63:0<=iI.wrap (63-n.tmod 64)) (h2:inX xs xs.length (iI.wrap (fZ n+1))) (h3:decide (iI.wrap (fZ n+1) < xs.length)=true) (h64:0<=n.tmod 64) (h1:inX xs xs.length (fZ n)) (h0:decide (fZ n < xs.length)=true):
  u4 XW4 o1w (i2q a xs n) .normal (m0m a xs [s2l xs n (fZ n)] xs.length 1 n (iI.wrap (fZ n+1))):=
 stp Z2 10 progOk.mixed [true,true] [(15,16),(16,17)] (l:=[8<=140737488355328∧1<=9223372036854775807,0<=iI.wrap (63-n.tmod 64),(iI.wrap (fZ n+1)).toNat < xs.length,((0:Int)<=iI.wrap (fZ n+1)∧iI.wrap (fZ n+1) < xs.length)∧0 < xs.length,
  decide (iI.wrap (fZ n+1) < xs.length)=true,0<=n.tmod 64,(fZ n).toNat < xs.length,((0:Int)<=fZ n∧fZ n < xs.length)∧0 < xs.length,decide (fZ n < xs.length)=true]) (by kernel_rfl) ⟨by omega,h63,h2.1,h2.2,h3,h64,h1.1,h1.2,h0,a6⟩ (by kernel_rfl) (by kernel_rfl)
theorem x0u (h3:decide (iI.wrap (fZ n+1) < xs.length)=false) (h64:0<=n.tmod 64) (h1:inX xs xs.length (fZ n)) (h0:decide (fZ n < xs.length)=true):
  u4 XW4 o1w (i2q a xs n) .normal (m0m a xs [x1w (xs.getD (fZ n).toNat 0) n] xs.length 1 n (iI.wrap (fZ n+1))):=
 stp Z2 10 progOk.mixed [true,false] [(15,16),(16,17)] (l:=[8<=140737488355328∧1<=9223372036854775807,decide (iI.wrap (fZ n+1) < xs.length)=false,0<=n.tmod 64,(fZ n).toNat < xs.length,((0:Int)<=fZ n∧fZ n < xs.length)∧0 < xs.length,decide (fZ n < xs.length)=true])
  (by kernel_rfl) ⟨by omega,h3,h64,h1.1,h1.2,h0,a6⟩ (by kernel_rfl) (by kernel_rfl)
end
theorem b2y (a s:Bool) (xs L R:List Int) (na N:Nat) (n m i:Int):B2 XW4 [H7 (.exit 0) (fun _=>m0m a xs L na N n i)] 200 267 [iL a xs,iR m] [iL s R] [] =some [0=0∧0+N<=L.length∧L.length < 1099511627776,b9 XW4 o1w (i2q a xs m) (.exit 0) (m0m a xs L na N n i),zO9 (a && decide (0 < (n8 (zO10 N L)).length))=zO9 s,(n8 (zO10 N L)).length=R.length∧(n8 (zO10 N L)).length<=L.length∧zO10 (n8 (zO10 N L)).length L=R] :=by kernel_rfl
theorem s1m (a s:Bool) (xs R:List Int) (m:Int):B2 XW4 [] 200 267 [iL a xs,iR m] [iL s R] [false] =some [decide (iI.wrap (m.tdiv (zO6 64)) < zO6 xs.length)=false,zO9 false=zO9 s,R=[]] :=by kernel_rfl
theorem v1f {A r k:Nat} (hr:r < 64):x1w (dig W64 A k) ((r:Nat):Int)=((dig W64 A k/2 ^r:Nat):Int)∧bits .or .u64 (x1w (dig W64 A k) ((r:Nat):Int)) (s2j (dig W64 A (k+1)) ((r:Nat):Int))=(dig W64 (A/2 ^r) k:Int)∧
  (dig W64 A (k+1)=0->dig W64 A k/2 ^r=dig W64 (A/2 ^r) k):=by
 have hp:(2:Nat) ^64=W64:=by decide
 have hx:=D6 m7 A k
 have hy:=D6 m7 A (k+1)
 have hrt:((r:Nat):Int).tmod 64=(r:Int):=by
  have:=V6 r
  rw [G7 hr] at this
  exact this
 have hpr:=H4 r
 have hsplit:W64=2 ^r*2 ^(64-r):=by rw [<- n9,show r+(64-r)=64 by omega,hp]
 have hA:∀ x:Nat,x1w x r=((x/2 ^r:Nat):Int):=fun x=>by
  unfold x1w
  rw [hrt,g9,C6 (by omega),kQ _ (by
   have:(0:Int) < 2 ^r:=Int.pow_pos (by decide)
   omega),Int.natCast_ediv,bI]
  rfl
 have hB:∀ y:Nat,y < W64->s2j y r=((y*2 ^(64-r)%W64:Nat):Int):=fun y hy=>by
  unfold s2j
  rw [hrt]
  have e1:iI.wrap (63- (r:Int))=((63-r:Nat):Int):=by
   have:(63:Int)- (r:Int)=((63-r:Nat):Int):=by omega
   rw [this,t8 (by omega)]
  have e2:uI.wrap ((y:Int)*2 ^min (Int.toNat 1) 64)=((y*2%W64:Nat):Int):=by
   rw [show ((2:Int) ^min (Int.toNat 1) 64)=2 by decide,R5]
   show _=((y*2%18446744073709551616:Nat):Int)
   omega
  rw [e2,e1,g9,C6 (by omega),R5]
  have e3:((y*2%W64:Nat):Int)*2 ^(63-r)=((y*2%W64*2 ^(63-r):Nat):Int):=by rw [V9,bI]; rfl
  rw [e3]
  have e4:y*2%W64*2 ^(63-r)%W64=y*2 ^(64-r)%W64:=by
   rw [Nat.mod_mul_mod,r7,<- Nat.pow_succ',show (63-r).succ=64-r by omega]
  rw [<- e4]
  show _=((_%18446744073709551616:Nat):Int)
  omega
 have hdig:dig W64 (A/2 ^r) k=dig W64 A k/2 ^r+dig W64 A (k+1)*2 ^(64-r)%W64:=by
  have hlow:dig W64 A k/2 ^r < 2 ^(64-r):=by
   rw [D9 hpr,t7,<- hsplit]
   exact hx
  have hm:dig W64 A (k+1)*2 ^(64-r)%W64=dig W64 A (k+1)%2 ^r*2 ^(64-r):=by rw [hsplit,qI]
  have hlt:dig W64 A k/2 ^r+dig W64 A (k+1)*2 ^(64-r)%W64 < W64:=by
   rw [hm]
   have:(dig W64 A (k+1)%2 ^r+1)*2 ^(64-r)<=2 ^r*2 ^(64-r):=w9 _ (F7 _ hpr)
   rw [A7,P7,<- hsplit] at this
   omega
  have e1:A/2 ^r/W64 ^k=(dig W64 A k+W64*(A/W64 ^(k+1)))/2 ^r:=by
   rw [<- l1b,P0,P0,t7]
  have e2:(dig W64 A k+W64*(A/W64 ^(k+1)))/2 ^r=dig W64 A k/2 ^r+2 ^(64-r)*(A/W64 ^(k+1)):=by
   rw [hsplit,r7,gC _ _ hpr]
  have e3:2 ^(64-r)*(A/W64 ^(k+1))%W64=dig W64 A (k+1)*2 ^(64-r)%W64:=by
   unfold dig
   rw [Nat.mod_mul_mod,t7]
  show A/2 ^r/W64 ^k%W64=_
  rw [e1,e2,Nat.add_mod,e3,G7 (show dig W64 A k/2 ^r < W64 from D7 (mD _ _) hx),G7 hlt]
 refine⟨hA _,?_,fun h0=>by rw [hdig,h0]; simp⟩
 have hlow:dig W64 A k/2 ^r < 2 ^(64-r):=by
  rw [D9 hpr,t7,<- hsplit]
  exact hx
 have hm:dig W64 A (k+1)*2 ^(64-r)%W64=dig W64 A (k+1)%2 ^r*2 ^(64-r):=by rw [hsplit,qI]
 have b1:dig W64 A k/2 ^r < 18446744073709551616:=D7 (mD _ _) hx
 have b2:dig W64 A (k+1)*2 ^(64-r)%W64 < 18446744073709551616:=F7 _ m7
 rw [hA,hB _ hy,bits_or_u64_nat _ _ b1 b2,hdig,wL,hm]
 have:=j0f hlow (dig W64 A (k+1)%2 ^r)
 rw [kF] at this
 rw [<- this,g0x]
theorem a2r {n m i:Nat} (h:m < W64 ^n):(dl W64 n m).getD i 0=(dig W64 m i:Int):=by
 rw [B1 m7 (Q0 m7 n m),H5,G7 h]
theorem c1u (a:Bool) {A n:Nat} (hA:wl A < 549755813888) (hn:n < 64):Ev.Sem zO8 J0 267 [iN a A,iR (n:Int)] [iN (a && decide (0 < A/2 ^n)) (A/2 ^n)] :=by
 have hA:(ws W64 A).length < 549755813888:=hA
 have hQ:fZ (n:Int)=0:=by
  rw [e0z (by omega)]
  omega
 have hlt:A/2 ^n < W64 ^(ws W64 A).length:=D7 (mD _ _) (n0l A)
 by_cases h0:A=0
 ·subst h0
  refine l7 Z2 10 _ _ (s1m a _ (ws W64 0) (ws W64 (0/2 ^n)) n) ⟨?_,?_,?_,a6⟩
  ·show decide (fZ n < (0:Int))=false
   rw [hQ]
   rfl
  ·simp
  ·rw [Nat.zero_div,g0d]
 have hpos:0 < (ws W64 A).length:=wl_pos.2 (by omega)
 have h64:(0:Int)<=((n:Nat):Int).tmod 64:=by rw [V6]; omega
 have h63:(0:Int)<=iI.wrap (63- ((n:Nat):Int).tmod 64):=by
  rw [V6]
  have e:(63:Int)- ((n%64:Nat):Int)=((63-n%64:Nat):Int):=by omega
  rw [e,t8 (by omega)]
  omega
 have hget:∀ i,(ws W64 A).getD i 0=(dig W64 A i:Int):=fun i=>m0s F5 A i
 have hlast:∀ i,(ws W64 A).length<=i->dig W64 A i=0:=fun i hi=>by
  have:=hget i
  rw [aV hi] at this
  omega
 have word:∀ k,k < (ws W64 A).length->(k+1 < (ws W64 A).length->s2l (ws W64 A) n k=(dig W64 (A/2 ^n) k:Int))∧(¬ k+1 < (ws W64 A).length->x1w ((ws W64 A).getD k 0) n=(dig W64 (A/2 ^n) k:Int)):=by
  intro k hk
  obtain⟨w1,w2,w3⟩:=v1f (A:=A) (r:=n) (k:=k) hn
  refine⟨fun h=> ?_,fun h=> ?_⟩
  ·unfold s2l
   rw [L6 (by omega),g9,g9,hget,hget]
   exact w2
  ·rw [hget,w1,w3 (hlast _ (by omega))]
 have T:∀ k,k < (ws W64 A).length->(dl W64 (ws W64 A).length (A/2 ^n)).take (k+1)=(dl W64 (ws W64 A).length (A/2 ^n)).take k++[(dig W64 (A/2 ^n) k:Int)] :=fun k hk=>by
  rw [kG (by rw [l4]; exact hk),a2r hlt]
 have inx:∀ k:Nat,k < (ws W64 A).length->inX (ws W64 A) (ws W64 A).length (k:Int):=fun k hk=>⟨by simpa using hk,⟨by omega,by omega⟩,hpos⟩
 have step:∀ k,0 < k->k < (ws W64 A).length->u4 XW4 o1w (m0m a (ws W64 A) ((dl W64 (ws W64 A).length (A/2 ^n)).take k) (ws W64 A).length k n k) .normal (m0m a (ws W64 A) ((dl W64 (ws W64 A).length (A/2 ^n)).take (k+1)) (ws W64 A).length (k+1) n ((k+1:Nat):Int)):=by
  intro k _ hk
  have hlen:k*1=((dl W64 (ws W64 A).length (A/2 ^n)).take k).length:=by rw [E0,l4]; omega
  have hw:=L6 (n:=k) (by omega)
  rw [T k hk]
  by_cases h2:k+1 < (ws W64 A).length
  ·have:=v1a a (ws W64 A) ((dl W64 (ws W64 A).length (A/2 ^n)).take k) (ws W64 A).length k n k ⟨hlen,by omega,by omega⟩ h63 (by rw [hw]; exact inx _ h2) (by rw [hw]; simp only [aI]; omega) h64 (inx k hk) (by simpa using hk)
   rw [hw,(word k hk).1 h2] at this
   exact this
  ·have:=g2r a (ws W64 A) ((dl W64 (ws W64 A).length (A/2 ^n)).take k) (ws W64 A).length k n k ⟨hlen,by omega,by omega⟩ (by rw [hw]; simp only [h0p]; omega) h64 (inx k hk) (by simpa using hk)
   rw [hw,g9,(word k hk).2 h2] at this
   exact this
 have first:u4 XW4 o1w (i2q a (ws W64 A) n) .normal (m0m a (ws W64 A) ((dl W64 (ws W64 A).length (A/2 ^n)).take 1) (ws W64 A).length 1 n 1):=by
  have t1:=T 0 hpos
  rw [k0i,pF] at t1
  rw [t1]
  have hw:iI.wrap (0+1)=1:=by decide
  by_cases h2:0+1 < (ws W64 A).length
  ·have:=y0e a (ws W64 A) n h63
   rw [hQ,hw] at this
   have w:=(word 0 hpos).1 h2
   have e0:((0:Nat):Int)=0:=rfl
   rw [e0] at w
   rw [w] at this
   exact this (inx 1 h2) (by simp only [aI]; omega) h64 (inx 0 hpos) (by simp only [aI]; omega)
  ·have:=x0u a (ws W64 A) n
   rw [hQ,hw] at this
   have w:=(word 0 hpos).2 h2
   have e0:(0:Int).toNat=0:=rfl
   rw [e0,w] at this
   exact this (by simp only [h0p]; omega) h64 (inx 0 hpos) (by simp only [aI]; omega)
 have hL:b9 XW4 o1w (i2q a (ws W64 A) n) (.exit 0) (m0m a (ws W64 A) (dl W64 (ws W64 A).length (A/2 ^n)) (ws W64 A).length (ws W64 A).length n (ws W64 A).length):=by
  have hend:(dl W64 (ws W64 A).length (A/2 ^n)).take (ws W64 A).length=dl W64 (ws W64 A).length (A/2 ^n):=O9 (by rw [l4]; exact d9 _)
  have:=x5 (X:=XW4) (c:=o1w) (fun k=>match k with
    | 0=>i2q a (ws W64 A) n
    | k+1=>m0m a (ws W64 A) ((dl W64 (ws W64 A).length (A/2 ^n)).take (k+1)) (ws W64 A).length (k+1) n ((k+1:Nat):Int)) (ws W64 A).length (x:= .exit 0) (by intro e; cases e) (s':=m0m a (ws W64 A) (dl W64 (ws W64 A).length (A/2 ^n)) (ws W64 A).length (ws W64 A).length n (ws W64 A).length) (fun k hk=> ?_) ?_
  ·exact this
  ·cases k with
   | zero=>exact first
   | succ k=>exact step (k+1) (by omega) hk
  ·obtain⟨m,hm⟩:∃ m,(ws W64 A).length=m+1:=⟨(ws W64 A).length-1,by omega⟩
   have:=h2o a (ws W64 A) (dl W64 (ws W64 A).length (A/2 ^n)) (ws W64 A).length (ws W64 A).length n (ws W64 A).length (by simp)
   rw [hm] at this hend ⊢
   simp only
   rw [hend]
   exact this
 obtain⟨q1,q2,q3⟩:=L8 (g0p hlt)
 have ht:zO10 (ws W64 A).length (dl W64 (ws W64 A).length (A/2 ^n))=dl W64 (ws W64 A).length (A/2 ^n):=O9 (by rw [l4]; exact d9 _)
 refine l7 Z2 10 _ _ (b2y a _ (ws W64 A) (dl W64 (ws W64 A).length (A/2 ^n)) (ws W64 (A/2 ^n)) (ws W64 A).length (ws W64 A).length n n (ws W64 A).length) ?_
 rw [ht]
 refine⟨⟨rfl,by rw [l4]; omega,by rw [l4]; omega⟩,hL,?_,⟨q1,q2,q3⟩,a6⟩
 rw [g0p hlt]
 have:=wl_pos (m:=A/2 ^n)
 congr 2
 simp only [zzA179]
 exact this
abbrev wO (ys:List Int) (off n:Nat):Arg:= .c (.o .u64 ys off n)
def m0i (zs ys L:List Int) (off na nb N:Nat) (la c i:Int):St:=
 ⟨only 40 [(0, .slice (some ⟨11,off,some 12⟩) na 0),(1,slV 13 nb),(5,slV 15 N),(6, .int .u64 c),(12, .slice (some ⟨11,off,some 12⟩) na 0),(13, .int .i64 la),(14, .int .i64 i)],[(15, .row bP 1 (.ints .u64 L) 16),(11, .ints .u64 zs),(13, .ints .u64 ys)],17,[],[],0,none,[],15⟩
def rW (zs ys:List Int) (off na nb:Nat) (i:Int):St:=⟨only 43 [(0, .slice (some ⟨11,off,some 12⟩) na 0),(1,slV 13 nb),(5, .int .i64 i)],[(11, .ints .u64 zs),(13, .ints .u64 ys)],15,[],[],0,none,[],15⟩
def p1b (zs ys:List Int) (off na nb:Nat) (r:Int):St:=⟨only 43 [(0, .slice (some ⟨11,off,some 12⟩) na 0),(1,slV 13 nb),(4, .int .i64 r)],[(11, .ints .u64 zs),(13, .ints .u64 ys)],15,[],[],0,none,[],15⟩
theorem r1i (zs ys:List Int) (off n:Nat) (r:Int):B2 XW0 [] 200 265 [wO zs off n,wS ys] [.c (.v (.int .i64 r))] [true] =some [(zO6 n !=zO6 ys.length)=true,zO2 iI (iI.wrap (zO6 n-zO6 ys.length))=zO2 iI r] :=by kernel_rfl
theorem u1y (zs ys:List Int) (off na nb n:Nat) (i r:Int):B2 XW0 [H7 (.exit 0) (fun _=>rW zs ys off na nb i)] 200 265 [wO zs off n,wS ys] [.c (.v (.int .i64 r))] [false] =some [b9 XW0 gP (m8 XW0 200 265 [wO zs off n,wS ys] [false]) (.exit 0) (rW zs ys off na nb i),(zO6 n !=zO6 ys.length)=false,zO2 iI (zO6 0)=zO2 iI r] :=by kernel_rfl
theorem u0t (zs ys:List Int) (off na nb n:Nat) (q r:Int):B2 XW0 [H7 .ret (fun _=>p1b zs ys off na nb q)] 200 265 [wO zs off n,wS ys] [.c (.v (.int .i64 r))] [false] =some [b9 XW0 gP (m8 XW0 200 265 [wO zs off n,wS ys] [false]) .ret (p1b zs ys off na nb q),(zO6 n !=zO6 ys.length)=false,zO2 iI q=zO2 iI r] :=by kernel_rfl
theorem v1r (zs ys:List Int) (off na nb:Nat) (i:Int) (hl:l5 [decide (zs.getD (s4 off (R3 i.toNat 1)) (zO6 0) < ys.getD i.toNat (zO6 0))=true,i.toNat < ys.length,(zO6 0<=i∧i < zO6 nb)∧0 < ys.length,(s4 off (R3 i.toNat 1)) < zs.length,(zO6 0<=i∧i < zO6 na)∧0 < zs.length,decide (zO6 0<=i)=true]):u4 XW0 gP (rW zs ys off na nb i) .ret (p1b zs ys off na nb (-1)):=
 stp B3 10 progOk.mixed [true,true] [] (by kernel_rfl) hl
theorem p1r (zs ys:List Int) (off na nb:Nat) (i:Int) (hl:l5 [decide (ys.getD i.toNat (zO6 0) < zs.getD (s4 off (R3 i.toNat 1)) (zO6 0))=true,i.toNat < ys.length,(zO6 0<=i∧i < zO6 nb)∧0 < ys.length,(s4 off (R3 i.toNat 1)) < zs.length,(zO6 0<=i∧i < zO6 na)∧0 < zs.length,decide (zs.getD (s4 off (R3 i.toNat 1)) (zO6 0) < ys.getD i.toNat (zO6 0))=false,i.toNat < ys.length,(zO6 0<=i∧i < zO6 nb)∧0 < ys.length,(s4 off (R3 i.toNat 1)) < zs.length,(zO6 0<=i∧i < zO6 na)∧0 < zs.length,decide (zO6 0<=i)=true]):u4 XW0 gP (rW zs ys off na nb i) .ret (p1b zs ys off na nb 1):=
 stp B3 10 progOk.mixed [true,false,true] [] (by kernel_rfl) hl
theorem p1n (zs ys:List Int) (off na nb:Nat) (i:Int) (hl:l5 [decide (ys.getD i.toNat (zO6 0) < zs.getD (s4 off (R3 i.toNat 1)) (zO6 0))=false,i.toNat < ys.length,(zO6 0<=i∧i < zO6 nb)∧0 < ys.length,(s4 off (R3 i.toNat 1)) < zs.length,(zO6 0<=i∧i < zO6 na)∧0 < zs.length,decide (zs.getD (s4 off (R3 i.toNat 1)) (zO6 0) < ys.getD i.toNat (zO6 0))=false,i.toNat < ys.length,(zO6 0<=i∧i < zO6 nb)∧0 < ys.length,(s4 off (R3 i.toNat 1)) < zs.length,(zO6 0<=i∧i < zO6 na)∧0 < zs.length,decide (zO6 0<=i)=true]):u4 XW0 gP (rW zs ys off na nb i) .normal (rW zs ys off na nb (iI.wrap (i-1))):=
 stp B3 10 progOk.mixed [true,false,false] [] (by kernel_rfl) hl
theorem h2r (zs ys:List Int) (off na nb:Nat) (i:Int) (hl:l5 [decide (zO6 0<=i)=false]):u4 XW0 gP (rW zs ys off na nb i) (.exit 0) (rW zs ys off na nb i):=
 stp B3 10 progOk.mixed [false] [] (by kernel_rfl) hl
theorem g2x (zs ys L R:List Int) (off n na nb N:Nat) (la c i:Int):B2 XW0 [H7 (.exit 0) (fun _=>m0i zs ys L off na nb N la c i)] 200 270 [wO zs off n,wS ys] [wS R] [] =some [b9 XW0 m0e (m8 XW0 200 270 [wO zs off n,wS ys] []) (.exit 0) (m0i zs ys L off na nb N la c i),zO6 0<=zO6 n∧zO6 n=zO6 n∧zO6 (8*n)<=zO6 281474976710656∧zO6 n<=zO6 9223372036854775807,N=R.length∧N<=L.length∧zO10 N L=R] :=by kernel_rfl
theorem v1y (zs ys L:List Int) (off na nb N:Nat) (la c i:Int) (hl:l5 [i.toNat < L.length,(zO6 0<=i∧i < zO6 N)∧0 < L.length,c.toNat<=1,(s4 off (R3 i.toNat 1)) < zs.length,(zO6 0<=i∧i < zO6 na)∧0 < zs.length,i.toNat < ys.length,(zO6 0<=i∧i < zO6 nb)∧0 < ys.length,decide (i < zO6 nb)=true,decide (i < la)=true]):u4 XW0 m0e (m0i zs ys L off na nb N la c i) .normal (m0i zs ys (S5 L i.toNat (g0t (zs.getD (s4 off i.toNat) 0) (ys.getD i.toNat 0) c)) off na nb N la (e0b (zs.getD (s4 off i.toNat) 0) (ys.getD i.toNat 0) c) (iI.wrap (i+1))):=
 stp B3 10 progOk.mixed [true,true] [] (by kernel_rfl) hl
theorem z1z (zs ys L:List Int) (off na nb N:Nat) (la c i:Int) (hl:l5 [i.toNat < L.length,(zO6 0<=i∧i < zO6 N)∧0 < L.length,c.toNat<=1,(s4 off (R3 i.toNat 1)) < zs.length,(zO6 0<=i∧i < zO6 na)∧0 < zs.length,decide (i < zO6 nb)=false,decide (i < la)=true]):u4 XW0 m0e (m0i zs ys L off na nb N la c i) .normal (m0i zs ys (S5 L i.toNat (g0t (zs.getD (s4 off i.toNat) 0) 0 c)) off na nb N la (e0b (zs.getD (s4 off i.toNat) 0) 0 c) (iI.wrap (i+1))):=
 stp B3 10 progOk.mixed [true,false] [] (by kernel_rfl) hl
theorem e2u (zs ys L:List Int) (off na nb N:Nat) (la c i:Int) (hl:l5 [decide (i < la)=false]):u4 XW0 m0e (m0i zs ys L off na nb N la c i) (.exit 0) (m0i zs ys L off na nb N la c i):=
 stp B3 10 progOk.mixed [false] [] (by kernel_rfl) hl
abbrev part (zs:List Int) (off n:Nat):List Int:=(zs.drop off).take n
theorem lA {zs:List Int} {off n:Nat} (h:off+n<=zs.length):(part zs off n).length=n:=by
 unfold part
 rw [E0,C2]
 omega
theorem dY {zs:List Int} {off n m:Nat} (hm:m < n):(part zs off n).getD m 0=zs.getD (off+m) 0:=by
 unfold part
 simp [List.getD,List.getElem?_drop,hm]
theorem q0b {zs:List Int} {off n m:Nat} (hm:m < n):zs.getD (s4 off (R3 (zO6 m).toNat 1)) (zO6 0)=(part zs off n).getD m 0:=by
 rw [dY hm,q9,dX]
 simp
section
variable (zs ys:List Int) {off n m:Nat} (ho:off+n<=zs.length)
include ho
theorem k1k (hm:m < n) (hy:m < ys.length) (h:(part zs off n).getD m 0 < ys.getD m 0):u4 XW0 gP (rW zs ys off n ys.length m) .ret (p1b zs ys off n ys.length (-1)):=by
 refine v1r zs ys off n ys.length (zO6 m) ⟨?_,hy,⟨⟨zzA207.2 (s6 _),zzA208.2 hy⟩,by omega⟩,?_,⟨⟨zzA207.2 (s6 _),zzA208.2 hm⟩,by omega⟩,by simp,a6⟩
 ·rw [<- q0b (n:=n) hm] at h
  exact i6 h
 ·show s4 off (R3 (zO6 m).toNat 1) < _
  rw [q9,dX]
  simp
  omega
theorem d1q (hm:m < n) (hy:m < ys.length) (h:ys.getD m 0 < (part zs off n).getD m 0):u4 XW0 gP (rW zs ys off n ys.length m) .ret (p1b zs ys off n ys.length 1):=by
 have ha:s4 off (R3 (zO6 m).toNat 1) < zs.length:=by rw [q9,dX]; simp; omega
 have b1:(zO6 0<=zO6 m∧zO6 m < zO6 ys.length)∧0 < ys.length:=⟨⟨zzA207.2 (s6 _),zzA208.2 hy⟩,by omega⟩
 have b2:(zO6 0<=zO6 m∧zO6 m < zO6 n)∧0 < zs.length:=⟨⟨zzA207.2 (s6 _),zzA208.2 hm⟩,by omega⟩
 rw [<- q0b (n:=n) hm] at h
 exact p1r zs ys off n ys.length (zO6 m) ⟨i6 h,hy,b1,ha,b2,d8 (Int.not_lt.2 (Int.le_of_lt h)),hy,b1,ha,b2,by simp,a6⟩
theorem o1m (hm:m < n) (hy:m < ys.length) (h:(part zs off n).getD m 0=ys.getD m 0):u4 XW0 gP (rW zs ys off n ys.length m) .normal (rW zs ys off n ys.length (iI.wrap ((m:Int)-1))):=by
 have ha:s4 off (R3 (zO6 m).toNat 1) < zs.length:=by rw [q9,dX]; simp; omega
 have b1:(zO6 0<=zO6 m∧zO6 m < zO6 ys.length)∧0 < ys.length:=⟨⟨zzA207.2 (s6 _),zzA208.2 hy⟩,by omega⟩
 have b2:(zO6 0<=zO6 m∧zO6 m < zO6 n)∧0 < zs.length:=⟨⟨zzA207.2 (s6 _),zzA208.2 hm⟩,by omega⟩
 rw [<- q0b (n:=n) hm] at h
 have h1:¬ ys.getD m 0 < zs.getD (s4 off (R3 (zO6 m).toNat 1)) (zO6 0):=by rw [h]; exact h0l _
 have h2:¬ zs.getD (s4 off (R3 (zO6 m).toNat 1)) (zO6 0) < ys.getD m 0:=by rw [h]; exact h0l _
 exact p1n zs ys off n ys.length (zO6 m) ⟨d8 h1,hy,b1,ha,b2,d8 h2,hy,b1,ha,b2,by simp,a6⟩
theorem h1f (L:List Int) (c:Int) (hm:m < n) (hy:m < ys.length) (hL:n<=L.length) (hc:c.toNat<=1):u4 XW0 m0e (m0i zs ys L off n ys.length n n c m) .normal (m0i zs ys (S5 L m (g0t ((part zs off n).getD m 0) (ys.getD m 0) c)) off n ys.length n n (e0b ((part zs off n).getD m 0) (ys.getD m 0) c) (iI.wrap ((m:Int)+1))):=by
 have ha:s4 off (R3 (zO6 m).toNat 1) < zs.length:=by rw [q9,dX]; simp; omega
 have b2:(zO6 0<=zO6 m∧zO6 m < zO6 n)∧0 < zs.length:=⟨⟨zzA207.2 (s6 _),zzA208.2 hm⟩,by omega⟩
 have b3:(zO6 0<=zO6 m∧zO6 m < zO6 n)∧0 < L.length:=⟨⟨zzA207.2 (s6 _),zzA208.2 hm⟩,by omega⟩
 have:=v1y zs ys L off n ys.length n n c (zO6 m) ⟨(by simp; omega),b3,hc,ha,b2,hy,⟨⟨zzA207.2 (s6 _),zzA208.2 hy⟩,by omega⟩,i6 (zzA208.2 hy),i6 (zzA208.2 hm),a6⟩
 rw [show s4 off (zO6 m).toNat=off+m by rw [q9]; rfl,<- dY (zs:=zs) (off:=off) hm] at this
 exact this
theorem t1u (L:List Int) (c:Int) (hm:m < n) (hy:ys.length<=m) (hL:n<=L.length) (hc:c.toNat<=1):u4 XW0 m0e (m0i zs ys L off n ys.length n n c m) .normal (m0i zs ys (S5 L m (g0t ((part zs off n).getD m 0) 0 c)) off n ys.length n n (e0b ((part zs off n).getD m 0) 0 c) (iI.wrap ((m:Int)+1))):=by
 have ha:s4 off (R3 (zO6 m).toNat 1) < zs.length:=by rw [q9,dX]; simp; omega
 have b2:(zO6 0<=zO6 m∧zO6 m < zO6 n)∧0 < zs.length:=⟨⟨zzA207.2 (s6 _),zzA208.2 hm⟩,by omega⟩
 have b3:(zO6 0<=zO6 m∧zO6 m < zO6 n)∧0 < L.length:=⟨⟨zzA207.2 (s6 _),zzA208.2 hm⟩,by omega⟩
 have:=z1z zs ys L off n ys.length n n c (zO6 m) ⟨(by simp; omega),b3,hc,ha,b2,d8 (by simp; omega),i6 (zzA208.2 hm),a6⟩
 rw [show s4 off (zO6 m).toNat=off+m by rw [q9]; rfl,<- dY (zs:=zs) (off:=off) hm] at this
 exact this
end
theorem f0z (zs ys:List Int) (off n:Nat) (x:AX) (s':St) (h:b9 XW0 gP (rW zs ys off n ys.length (iI.wrap ((n:Int)-1))) x s'):b9 XW0 gP (m8 XW0 200 265 [wO zs off n,wS ys] [false]) x s':=
 l9 h []
theorem s1q (zs ys:List Int) (off n:Nat) (x:AX) (s':St) (h:b9 XW0 m0e (m0i zs ys (zO7 n 0) off n ys.length n n 0 0) x s'):b9 XW0 m0e (m8 XW0 200 270 [wO zs off n,wS ys] []) x s':=
 l9 h []
theorem l0b {zs xs ys:List Int} {off n:Nat} (ho:off+n<=zs.length) (hxs:xs=part zs off n) (hx:Dg W64 xs) (hy:Dg W64 ys) (h1:n < 1099511627776) (h2:ys.length < 1099511627776):
  Ev.Sem zO8 J0 265 [wO zs off n,wS ys] [.c (.v (.int .i64 (mS xs ys)))] :=by
 obtain rfl:n=xs.length:=by rw [hxs,lA ho]
 by_cases hn:xs.length=ys.length
 case neg=>
  refine l7 B3 10 _ _ (r1i zs ys off xs.length _) ⟨by simp; omega,?_,a6⟩
  unfold mS
  rw [f9 hn]
  have:=y3 ((xs.length:Int)-ys.length)
  congr 1
  simp only [B4]
  omega
 have hw:∀ m:Nat,m < xs.length->iI.wrap (((m+1:Nat):Int)-1)=(m:Int):=fun m hm=>by
  have:=t8 (n:=m) (by omega)
  rw [<- this]
  congr 1
  omega
 have hw1:iI.wrap ((xs.length:Int)-1)=(xs.length:Int)-1:=by
  have:=y3 ((xs.length:Int)-1)
  omega
 have hws:∀ m:Nat,m < xs.length->iI.wrap ((m:Int)-1)=(m:Int)-1:=fun m hm=>by
  have:=y3 ((m:Int)-1)
  omega
 have step:∀ m,m < xs.length->xs.drop (m+1)=ys.drop (m+1)->
   (val W64 xs < val W64 ys∧u4 XW0 gP (rW zs ys off xs.length ys.length m) .ret (p1b zs ys off xs.length ys.length (-1)))∨
   (val W64 ys < val W64 xs∧u4 XW0 gP (rW zs ys off xs.length ys.length m) .ret (p1b zs ys off xs.length ys.length 1))∨
   (xs.drop m=ys.drop m∧u4 XW0 gP (rW zs ys off xs.length ys.length m) .normal (rW zs ys off xs.length ys.length ((m:Int)-1))):=by
  intro m hm hd
  rcases Int.lt_trichotomy (xs.getD m 0) (ys.getD m 0) with h | h | h
  ·exact .inl ⟨e0f hx hm (by omega) hd h,by rw [hxs] at h; exact k1k zs ys ho hm (by omega) h⟩
  ·right; right
   refine⟨by rw [E4 (l:=xs) (m:=m) hm,E4 (l:=ys) (m:=m) (by omega),h,hd],?_⟩
   have:=o1m zs ys ho hm (by omega) (by rw [<- hxs]; exact h)
   rw [hws m hm] at this
   exact this
  ·exact .inr (.inl ⟨e0f hy (by omega) hm hd.symm h,by rw [hxs] at h; exact d1q zs ys ho hm (by omega) h⟩)
 have good:∀ m,m<=xs.length->xs.drop m=ys.drop m->
   (val W64 xs < val W64 ys∧b9 XW0 gP (rW zs ys off xs.length ys.length ((m:Int)-1)) .ret (p1b zs ys off xs.length ys.length (-1)))∨
   (val W64 ys < val W64 xs∧b9 XW0 gP (rW zs ys off xs.length ys.length ((m:Int)-1)) .ret (p1b zs ys off xs.length ys.length 1))∨
   (xs=ys∧b9 XW0 gP (rW zs ys off xs.length ys.length ((m:Int)-1)) (.exit 0) (rW zs ys off xs.length ys.length (-1))):=by
  intro m hm hd
  rcases Z8 (val W64 xs) (val W64 ys) with h | h | h
  ·refine .inl ⟨h,?_⟩
   refine C0 (fun m:Nat=>rW zs ys off xs.length ys.length ((m:Int)-1)) id (fun m=>m<=xs.length∧xs.drop m=ys.drop m) (by intro e; cases e) (fun k hk=> ?_) m ⟨hm,hd⟩
   cases k with
   | zero=>
    have:xs=ys:=by simpa using hk.2
    rw [this] at h
    omega
   | succ k=>
    have e:(((k+1:Nat):Int)-1)=(k:Int):=by omega
    simp only [e]
    rcases step k (by omega) hk.2 with ⟨_,s⟩ | ⟨q,_⟩ | ⟨q,s⟩
    ·exact .inr s
    ·omega
    ·exact .inl ⟨k,⟨by omega,q⟩,Q7 _,s⟩
  ·refine .inr (.inr ?_)
   have he:=X4 m7 hx hy hn h
   refine⟨he,?_⟩
   refine C0 (fun m:Nat=>rW zs ys off xs.length ys.length ((m:Int)-1)) id (fun m=>m<=xs.length∧xs.drop m=ys.drop m) (by intro e; cases e) (fun k hk=> ?_) m ⟨hm,hd⟩
   cases k with
   | zero=>
    right
    exact h2r zs ys off xs.length ys.length (-1) ⟨by decide,a6⟩
   | succ k=>
    have e:(((k+1:Nat):Int)-1)=(k:Int):=by omega
    simp only [e]
    rcases step k (by omega) hk.2 with ⟨q,_⟩ | ⟨q,_⟩ | ⟨q,s⟩
    ·omega
    ·omega
    ·exact .inl ⟨k,⟨by omega,q⟩,Q7 _,s⟩
  ·refine .inr (.inl ⟨h,?_⟩)
   refine C0 (fun m:Nat=>rW zs ys off xs.length ys.length ((m:Int)-1)) id (fun m=>m<=xs.length∧xs.drop m=ys.drop m) (by intro e; cases e) (fun k hk=> ?_) m ⟨hm,hd⟩
   cases k with
   | zero=>
    have:xs=ys:=by simpa using hk.2
    rw [this] at h
    omega
   | succ k=>
    have e:(((k+1:Nat):Int)-1)=(k:Int):=by omega
    simp only [e]
    rcases step k (by omega) hk.2 with ⟨q,_⟩ | ⟨_,s⟩ | ⟨q,s⟩
    ·omega
    ·exact .inr s
    ·exact .inl ⟨k,⟨by omega,q⟩,Q7 _,s⟩
 have hne:((xs.length:Int) !=ys.length)=false:=by simp [hn]
 rcases good xs.length (d9 _) (by rw [vC,hn,vC]) with ⟨h,s⟩ | ⟨h,s⟩ | ⟨h,s⟩
 ·rw [<- hw1] at s
  refine l7 B3 10 _ _ (u0t zs ys off _ _ _ (-1) _) ⟨f0z zs ys off _ _ _ s,hne,?_,a6⟩
  unfold mS
  rw [a7 (by simp [hn]),f9 h]
 ·rw [<- hw1] at s
  refine l7 B3 10 _ _ (u0t zs ys off _ _ _ 1 _) ⟨f0z zs ys off _ _ _ s,hne,?_,a6⟩
  unfold mS
  rw [a7 (by simp [hn]),a7 (by omega),f9 h]
 ·rw [<- hw1] at s
  refine l7 B3 10 _ _ (u1y zs ys off _ _ _ (-1) _) ⟨f0z zs ys off _ _ _ s,hne,?_,a6⟩
  unfold mS
  rw [a7 (by simp [hn]),a7 (by rw [h]; omega),a7 (by rw [h]; omega)]
  rfl
theorem z0l {zs xs ys:List Int} {off n:Nat} (ho:off+n<=zs.length) (hxs:xs=part zs off n) (hx:Dg W64 xs) (hy:Dg W64 ys) (hle:val W64 ys<=val W64 xs) (h1:n < 1099511627776) (h2:ys.length<=n):
  Ev.Sem zO8 J0 270 [wO zs off n,wS ys] [wS (S6 xs ys)] :=by
 unfold S6
 obtain rfl:n=xs.length:=by rw [hxs,lA ho]
 obtain⟨hg,hi⟩:=cL hx hy xs.length xs.length (d9 _)
 have hlast:=zL hx hy (d9 _) h2 hle hg hi
 have hL:b9 XW0 m0e (m0i zs ys (zO7 xs.length 0) off xs.length ys.length xs.length xs.length 0 0) (.exit 0)
   (m0i zs ys (itr (rC xs ys) xs.length (Q6 xs.length)).L off xs.length ys.length xs.length xs.length (itr (rC xs ys) xs.length (Q6 xs.length)).c xs.length):=by
  refine x5 (fun k=>m0i zs ys (itr (rC xs ys) k (Q6 xs.length)).L off xs.length ys.length xs.length xs.length (itr (rC xs ys) k (Q6 xs.length)).c k) xs.length (by intro e; cases e) (fun k hk=> ?_)
   (e2u zs ys _ off xs.length ys.length xs.length _ _ xs.length ⟨by simp,a6⟩)
  obtain⟨hg,hi⟩:=cL hx hy xs.length k (by omega)
  simp only [itr]
  generalize itr (rC xs ys) k (Q6 xs.length)=s at*
  obtain⟨h1',h2',h3,h4,h5,h6,h7⟩:=hg
  have hw:=L6 (n:=k) (by omega)
  subst hi
  by_cases hlt2:s.i < ys.length
  ·have:=h1f zs ys ho s.L s.c hk hlt2 (by omega) (by omega)
   rw [hw,<- hxs] at this
   exact this
  ·have:=t1u zs ys ho s.L s.c hk (by omega) (by omega) (by omega)
   rw [hw,<- hxs] at this
   unfold rC
   rw [aV (l:=ys) (i:=s.i) (by omega)]
   exact this
 refine l7 B3 10 _ _ (g2x zs ys _ _ off xs.length _ _ _ _ _ _) ⟨s1q zs ys off _ _ _ hL,⟨by simp,rfl,?_,?_⟩,⟨?_,?_,?_⟩,a6⟩
 ·exact zzA207.2 (by omega)
 ·exact zzA207.2 (by omega)
 ·rw [l4]
 ·rw [hg.2.1]; exact d9 _
 ·rw [hlast]
  exact O9 (by rw [l4]; exact d9 _)
abbrev shO:AS:= .c (.o .u64)
abbrev iW (neg:Bool) (xs:List Int):Arg:= .a [.v (.bool neg), .s bP .u64 xs]
def Cn (xs:List Int):Prop:=xs=ws W64 (val W64 xs)
def G0 (xs ys:List Int):List Int:=ws W64 (val W64 xs*val W64 ys)
def m0g (a b:Bool) (xs ys:List Int):List Int:=ws W64 (y1u a b (val W64 xs) (val W64 ys))
def l2x (a b:Bool) (xs ys:List Int):Bool:=z1d a b (val W64 xs) (val W64 ys)
def d2c (xs:List Int) (d:Int):List Int:=ws W64 (val W64 xs/d.toNat)
def o1s (xs:List Int) (d:Int):Int:=((val W64 xs%d.toNat:Nat):Int)
def r9 (xs:List Int) (n:Int):List Int:=ws W64 (val W64 xs*2 ^n.toNat)
def f1c (xs:List Int) (n:Int):List Int:=ws W64 (val W64 xs/2 ^n.toNat)
def A1 (n:Int):List Int:=ws W64 n.toNat
def h0a (a:Bool) (xs:List Int):Bool:=a && decide (0 < val W64 xs)
theorem Cn.ws (m:Nat):Cn (Wd.ws W64 m):=by unfold Cn; rw [B5]
def rV:List Arg->Option (List Arg×List Prop)
 | [.c (.v (.int .u64 n))] =>some ([iW false (A1 n)],[0<=n∧n.toNat < W64])
 | _=>none
def d0c:List Arg->Option (List Arg×List Prop)
 | [.a [.v (.bool a), .s 27 .u64 xs], .a [.v (.bool b), .s 27 .u64 ys]] =>some ([iW (h0a (a !=b) (G0 xs ys)) (G0 xs ys)],[Cn xs,Cn ys,xs.length < 274877906944,ys.length < 274877906944])
 | _=>none
def n0n:List Arg->Option (List Arg×List Prop)
 | [.a [.v (.bool a), .s 27 .u64 xs], .a [.v (.bool b), .s 27 .u64 ys]] =>some ([iW (l2x a b xs ys) (m0g a b xs ys)],[Cn xs,Cn ys,xs.length < 549755813888,ys.length < 549755813888])
 | _=>none
def xE:List Arg->Option (List Arg×List Prop)
 | [.a [.v (.bool _), .s 27 .u64 xs], .c (.v (.int .u64 d))] =>some ([iW false (d2c xs d),uR (o1s xs d)],[Cn xs,xs.length < 549755813888,0 < d∧d.toNat < W64])
 | _=>none
def d0z:List Arg->Option (List Arg×List Prop)
 | [.a [.v (.bool a), .s 27 .u64 xs], .c (.v (.int .i64 n))] =>some ([iW (h0a a (r9 xs n)) (r9 xs n)],[Cn xs,xs.length < 549755813888,0<=n∧n.toNat < 549755813888])
 | _=>none
def uW:List Arg->Option (List Arg×List Prop)
 | [.a [.v (.bool a), .s 27 .u64 xs], .c (.v (.int .i64 n))] =>some ([iW (h0a a (f1c xs n)) (f1c xs n)],[Cn xs,xs.length < 549755813888,0<=n∧n.toNat < 64])
 | _=>none
def e0k:List Arg->Option (List Arg×List Prop)
 | [.a [.v (.bool a), .s 27 .u64 xs]] =>some ([iR (z1k a (val W64 xs))],[Cn xs])
 | _=>none
def dV:List Arg->Option (List Arg×List Prop)
 | [.c (.o .u64 zs off n), .c (.s 27 .u64 ys)] =>some ([.c (.v (.int .i64 (mS (part zs off n) ys)))],[off+n<=zs.length,Dg W64 zs,Dg W64 ys,n < 1099511627776,ys.length < 1099511627776])
 | _=>none
def oU:List Arg->Option (List Arg×List Prop)
 | [.c (.o .u64 zs off n), .c (.s 27 .u64 ys)] =>some ([wS (S6 (part zs off n) ys)],[off+n<=zs.length,Dg W64 zs,Dg W64 ys,val W64 ys<=val W64 (part zs off n),n < 1099511627776,ys.length<=n])
 | _=>none
theorem sM:∀ az rs l,rV az=some (rs,l)->l5 l->Ev.Sem zO8 J0 124 az rs:=by
 intro az rs l h hl
 unfold rV at h
 split at h
 ·cases h
  rename_i n
  obtain⟨⟨h1,h2⟩,_⟩:=hl
  have:=v1u n.toNat h2
  rw [I8 h1] at this
  exact this
 ·cases h
theorem zM:∀ az rs l,d0c az=some (rs,l)->l5 l->Ev.Sem zO8 J0 127 az rs:=by
 intro az rs l h hl
 unfold d0c at h
 split at h
 ·cases h
  rename_i a xs b ys
  obtain⟨h1,h2,h3,h4,_⟩:=hl
  unfold Cn at h1 h2
  have:=b2s a b (A:=val W64 xs) (B:=val W64 ys) (by unfold wl; rw [<- h1]; exact h3) (by unfold wl; rw [<- h2]; exact h4)
  unfold iN at this
  rw [<- h1,<- h2] at this
  unfold h0a G0
  rw [B5]
  exact this
 ·cases h
theorem z0g:∀ az rs l,n0n az=some (rs,l)->l5 l->Ev.Sem zO8 J0 205 az rs:=by
 intro az rs l h hl
 unfold n0n at h
 split at h
 ·cases h
  rename_i a xs b ys
  obtain⟨h1,h2,h3,h4,_⟩:=hl
  unfold Cn at h1 h2
  have:=z1y a b (A:=val W64 xs) (B:=val W64 ys) (by unfold wl; rw [<- h1]; exact h3) (by unfold wl; rw [<- h2]; exact h4)
  unfold iN at this
  rw [<- h1,<- h2] at this
  exact this
 ·cases h
theorem i0o:∀ az rs l,xE az=some (rs,l)->l5 l->Ev.Sem zO8 J0 197 az rs:=by
 intro az rs l h hl
 unfold xE at h
 split at h
 ·cases h
  rename_i a xs d
  obtain⟨h1,h3,⟨h4,h5⟩,_⟩:=hl
  unfold Cn at h1
  have:=n1c a (A:=val W64 xs) (d:=d.toNat) (by unfold wl; rw [<- h1]; exact h3) (by omega) h5
  unfold iN at this
  rw [<- h1,I8 (Int.le_of_lt h4)] at this
  exact this
 ·cases h
theorem r0e:∀ az rs l,d0z az=some (rs,l)->l5 l->Ev.Sem zO8 J0 125 az rs:=by
 intro az rs l h hl
 unfold d0z at h
 split at h
 ·cases h
  rename_i a xs n
  obtain⟨h1,h3,⟨h4,h5⟩,_⟩:=hl
  unfold Cn at h1
  have:=t1w a (A:=val W64 xs) (n:=n.toNat) (by unfold wl; rw [<- h1]; exact h3) h5
  unfold iN at this
  rw [<- h1,I8 h4] at this
  unfold h0a r9
  rw [B5]
  exact this
 ·cases h
theorem j0w:∀ az rs l,uW az=some (rs,l)->l5 l->Ev.Sem zO8 J0 267 az rs:=by
 intro az rs l h hl
 unfold uW at h
 split at h
 ·cases h
  rename_i a xs n
  obtain⟨h1,h3,⟨h4,h5⟩,_⟩:=hl
  unfold Cn at h1
  have:=c1u a (A:=val W64 xs) (n:=n.toNat) (by unfold wl; rw [<- h1]; exact h3) h5
  unfold iN at this
  rw [<- h1,I8 h4] at this
  unfold h0a f1c
  rw [B5]
  exact this
 ·cases h
theorem n0z:∀ az rs l,e0k az=some (rs,l)->l5 l->Ev.Sem zO8 J0 224 az rs:=by
 intro az rs l h hl
 unfold e0k at h
 split at h
 ·cases h
  rename_i a xs
  obtain⟨h1,_⟩:=hl
  unfold Cn at h1
  have:=r1m a (val W64 xs)
  unfold iN at this
  rw [<- h1] at this
  exact this
 ·cases h
theorem f0j {zs:List Int} (h:Dg W64 zs) (off n:Nat):Dg W64 (part zs off n):=(h.drop _).take _
theorem vN:∀ az rs l,dV az=some (rs,l)->l5 l->Ev.Sem zO8 J0 265 az rs:=by
 intro az rs l h hl
 unfold dV at h
 split at h
 ·cases h
  rename_i zs off n ys
  obtain⟨h1,h2,h3,h4,h5,_⟩:=hl
  exact l0b h1 rfl (f0j h2 _ _) h3 h4 h5
 ·cases h
theorem f0l:∀ az rs l,oU az=some (rs,l)->l5 l->Ev.Sem zO8 J0 270 az rs:=by
 intro az rs l h hl
 unfold oU at h
 split at h
 ·cases h
  rename_i zs off n ys
  obtain⟨h1,h2,h3,h4,h5,h6,_⟩:=hl
  exact z0l h1 rfl (f0j h2 _ _) h3 h4 h5 h6
 ·cases h
def y1x:iV:=o8 195 jG (o8 124 (A3 [shV] rV) (o8 127 (A3 [shI,shI] d0c)
 (o8 265 (A3 [shO,shW] dV) (o8 270 (A3 [shO,shW] oU) I4))))
theorem j1w:iS zO8 J0 y1x:=j0 gR (j0 (m9 _ sM) (j0 (m9 _ zM) (j0 (m9 _ vN) (j0 (m9 _ f0l) (v6 _ _)))))
def bW5:Base:=⟨zO8,J0,false,y0c,y1x,200,L7⟩
theorem u0n:BaseOk bW5:=⟨progOk,lC,j1w,r5⟩
abbrev XW5:Cx:=bW5.cx 10
def t1y:Code:=z8 zO8 266 0
abbrev y1t (off m n:Nat):List Value:=[.slice (some ⟨11,off,some 12⟩) m off,slV 13 n]
abbrev e1q (zs ys:List Int):Heap:=[(11, .row bP 1 (.ints .u64 zs) 12),(13, .ints .u64 ys)]
def c2l (zs ys:List Int) (off m n:Nat) (q:Int):St:=⟨only 58 [(0, .slice (some ⟨11,off,some 12⟩) m off),(1,slV 13 n),(6, .int .u64 q)],e1q zs ys,15,[],[],0,none,[],15⟩
def e2k (zs ys:List Int) (r:Int):St:=⟨only 58 [(4, .int .u64 r)],e1q zs ys,15,[],[],0,none,[],15⟩
def m0v (ys:List Int) (q:Int):List Int:=(G0 ((A1 q).take (A1 q).length) ys).take (G0 ((A1 q).take (A1 q).length) ys).length
def o2i (zs ys:List Int) (off m:Nat) (q:Int):List Int:=S6 (part zs off m) (m0v ys q)
def s0j (zs ys:List Int) (off m:Nat) (q:Int):List Int:=zs.take off++((o2i zs ys off m q).drop 0).take (o2i zs ys off m q).length++zs.drop (off+(o2i zs ys off m q).length)
theorem p1k (zs ys:List Int) (off m n:Nat) (q:Int) (hl:l5 [0 < (S6 (part zs off m) (zO10 (G0 (zO10 (A1 q).length (A1 q)) ys).length (G0 (zO10 (A1 q).length (A1 q)) ys))).length∧(S6 (part zs off m) (zO10 (G0 (zO10 (A1 q).length (A1 q)) ys).length (G0 (zO10 (A1 q).length (A1 q)) ys))).length<=m∧off+(S6 (part zs off m) (zO10 (G0 (zO10 (A1 q).length (A1 q)) ys).length (G0 (zO10 (A1 q).length (A1 q)) ys))).length<=zs.length∧0+(S6 (part zs off m) (zO10 (G0 (zO10 (A1 q).length (A1 q)) ys).length (G0 (zO10 (A1 q).length (A1 q)) ys))).length<=(S6 (part zs off m) (zO10 (G0 (zO10 (A1 q).length (A1 q)) ys).length (G0 (zO10 (A1 q).length (A1 q)) ys))).length,off+m<=zs.length,(G0 (zO10 (A1 q).length (A1 q)) ys).length<=(G0 (zO10 (A1 q).length (A1 q)) ys).length,off+m<=zs.length,Dg 18446744073709551616 zs,Dg 18446744073709551616 (zO10 (G0 (zO10 (A1 q).length (A1 q)) ys).length (G0 (zO10 (A1 q).length (A1 q)) ys)),val 18446744073709551616 (zO10 (G0 (zO10 (A1 q).length (A1 q)) ys).length (G0 (zO10 (A1 q).length (A1 q)) ys))<=val 18446744073709551616 (part zs off m),m < 1099511627776,(zO10 (G0 (zO10 (A1 q).length (A1 q)) ys).length (G0 (zO10 (A1 q).length (A1 q)) ys)).length<=m,decide (zO6 0<=mS (part zs off (n8 (zO10 m (List.drop off zs))).length) (zO10 (G0 (zO10 (A1 q).length (A1 q)) ys).length (G0 (zO10 (A1 q).length (A1 q)) ys)))=true,off+(n8 (zO10 m (List.drop off zs))).length<=zs.length,(G0 (zO10 (A1 q).length (A1 q)) ys).length<=(G0 (zO10 (A1 q).length (A1 q)) ys).length,off+(n8 (zO10 m (List.drop off zs))).length<=zs.length,Dg 18446744073709551616 zs,Dg 18446744073709551616 (zO10 (G0 (zO10 (A1 q).length (A1 q)) ys).length (G0 (zO10 (A1 q).length (A1 q)) ys)),(n8 (zO10 m (List.drop off zs))).length < 1099511627776,(zO10 (G0 (zO10 (A1 q).length (A1 q)) ys).length (G0 (zO10 (A1 q).length (A1 q)) ys)).length < 1099511627776,off=off∧off+m<=zs.length∧zs.length < 1099511627776,(A1 q).length<=(A1 q).length,n=ys.length,Cn (zO10 (A1 q).length (A1 q)),Cn ys,(zO10 (A1 q).length (A1 q)).length < 274877906944,ys.length < 274877906944,zO6 0<=q∧q.toNat < 18446744073709551616]):u4 XW5 t1y (c2l zs ys off m n q) .ret (e2k (s0j zs ys off m q) ys q):=
 stp u0n 10 progOk.mixed [true] [] (by kernel_rfl) hl
theorem p1g (zs ys:List Int) (off m n:Nat) (q:Int) (hl:l5 [decide (zO6 0<=mS (part zs off (n8 (zO10 m (List.drop off zs))).length) (zO10 (G0 (zO10 (A1 q).length (A1 q)) ys).length (G0 (zO10 (A1 q).length (A1 q)) ys)))=false,off+(n8 (zO10 m (List.drop off zs))).length<=zs.length,(G0 (zO10 (A1 q).length (A1 q)) ys).length<=(G0 (zO10 (A1 q).length (A1 q)) ys).length,off+(n8 (zO10 m (List.drop off zs))).length<=zs.length,Dg 18446744073709551616 zs,Dg 18446744073709551616 (zO10 (G0 (zO10 (A1 q).length (A1 q)) ys).length (G0 (zO10 (A1 q).length (A1 q)) ys)),(n8 (zO10 m (List.drop off zs))).length < 1099511627776,(zO10 (G0 (zO10 (A1 q).length (A1 q)) ys).length (G0 (zO10 (A1 q).length (A1 q)) ys)).length < 1099511627776,off=off∧off+m<=zs.length∧zs.length < 1099511627776,(A1 q).length<=(A1 q).length,n=ys.length,Cn (zO10 (A1 q).length (A1 q)),Cn ys,(zO10 (A1 q).length (A1 q)).length < 274877906944,ys.length < 274877906944,zO6 0<=q∧q.toNat < 18446744073709551616]):u4 XW5 t1y (c2l zs ys off m n q) .normal (c2l zs ys off m n (uI.wrap (q-1))):=
 stp u0n 10 progOk.mixed [false] [] (by kernel_rfl) hl
theorem g1x (zs ys zs':List Int) (off m n:Nat) (r:Int):m0k XW5 [H7 .ret (fun _=>e2k zs' ys r)] 200 266 (y1t off m n) (e1q zs ys) 15 [true] =some { v:=zO2 uI r,h:=[(11,AObj.row bP 1 (Row.ints uI zs') 12),(13,AObj.ints uI ys)],n:=15,obs:=[b9 XW5 t1y (x9 XW5 200 266 (y1t off m n) (e1q zs ys) 15 [true]) .ret (e2k zs' ys r),(zO6 0<=zs.getD (s4 off n) (zO6 0)∧zs.getD (s4 off n) (zO6 0) < ys.getD (s4 0 (iI.wrap (zO6 n-zO6 1)).toNat) (zO6 0))∧(zO6 0<=zs.getD (s4 off (iI.wrap (zO6 n-zO6 1)).toNat) (zO6 0)∧zs.getD (s4 off (iI.wrap (zO6 n-zO6 1)).toNat) (zO6 0) < zO6 18446744073709551616)∧ys.getD (s4 0 (iI.wrap (zO6 n-zO6 1)).toNat) (zO6 0) < zO6 18446744073709551616,s4 0 (iI.wrap (zO6 n-zO6 1)).toNat < ys.length,(zO6 0<=iI.wrap (zO6 n-zO6 1)∧iI.wrap (zO6 n-zO6 1) < zO6 n)∧0 < ys.length,s4 off (iI.wrap (zO6 n-zO6 1)).toNat < zs.length,(zO6 0<=iI.wrap (zO6 n-zO6 1)∧iI.wrap (zO6 n-zO6 1) < zO6 m)∧0 < zs.length,s4 off n < zs.length,(zO6 0<=zO6 n∧zO6 n < zO6 m)∧0 < zs.length,decide (zs.getD (s4 off n) (zO6 0) < ys.getD (s4 0 (iI.wrap (zO6 n-zO6 1)).toNat) (zO6 0))=true,s4 0 (iI.wrap (zO6 n-zO6 1)).toNat < ys.length,(zO6 0<=iI.wrap (zO6 n-zO6 1)∧iI.wrap (zO6 n-zO6 1) < zO6 n)∧0 < ys.length,s4 off n < zs.length,(zO6 0<=zO6 n∧zO6 n < zO6 m)∧0 < zs.length],ds:=[]} :=by kernel_rfl
theorem c2i (zs ys zs':List Int) (off m n:Nat) (r:Int):m0k XW5 [H7 .ret (fun _=>e2k zs' ys r)] 200 266 (y1t off m n) (e1q zs ys) 15 [false] =some { v:=zO2 uI r,h:=[(11,AObj.row bP 1 (Row.ints uI zs') 12),(13,AObj.ints uI ys)],n:=15,obs:=[b9 XW5 t1y (x9 XW5 200 266 (y1t off m n) (e1q zs ys) 15 [false]) .ret (e2k zs' ys r),decide (zs.getD (s4 off n) (zO6 0) < ys.getD (s4 0 (iI.wrap (zO6 n-zO6 1)).toNat) (zO6 0))=false,s4 0 (iI.wrap (zO6 n-zO6 1)).toNat < ys.length,(zO6 0<=iI.wrap (zO6 n-zO6 1)∧iI.wrap (zO6 n-zO6 1) < zO6 n)∧0 < ys.length,s4 off n < zs.length,(zO6 0<=zO6 n∧zO6 n < zO6 m)∧0 < zs.length],ds:=[]} :=by kernel_rfl
theorem Cn.dg {xs:List Int} (h:Cn xs):Dg W64 xs:=by
 unfold Cn at h
 rw [h]
 exact j0n _
theorem k1q (ys:List Int) (k:Nat):m0v ys (k:Int)=ws W64 (k*val W64 ys):=by
 unfold m0v A1 G0
 rw [r8,r8,g9,B5]
theorem i1e {zs:List Int} (hz:Dg W64 zs) (off m:Nat):part zs off (n8 (zO10 m (List.drop off zs))).length=ws W64 (val W64 (part zs off m)):=by
 have h:=E1 F5 (f0j hz off m)
 have h1:=(L8 h).2.2
 have h2:(n8 (part zs off m)).length<=m:=x7 (B6 _) (by unfold part; rw [E0]; exact Nat.min_le_left _ _)
 unfold part at h1 h2 ⊢
 rw [b0b,C6 h2] at h1
 exact h1
section
variable {zs ys:List Int} {off n:Nat} (ho:off+(n+1)<=zs.length) (hzl:zs.length < 1099511627776) (hz:Dg W64 zs) (hy:Cn ys) (hn:n=ys.length) (hnl:ys.length < 274877906944) (hD:0 < val W64 ys)
 (hN:val W64 (part zs off (n+1)) < val W64 ys*W64)
include ho hzl hz hy hn hnl hD hN
theorem s0s {k:Nat} (hk:val W64 (part zs off (n+1))/val W64 ys<=k) (hkW:k < W64):
  b9 XW5 t1y (c2l zs ys off (n+1) n k) .ret (e2k (s0j zs ys off (n+1) ((val W64 (part zs off (n+1))/val W64 ys:Nat):Int)) ys ((val W64 (part zs off (n+1))/val W64 ys:Nat):Int)):=by
 have _:=hN
 have hDn:=E8 m7 hy.dg
 rw [<- hn] at hDn
 generalize hNe:val W64 (part zs off (n+1))=N at*
 refine C0 (fun k:Nat=>c2l zs ys off (n+1) n k) id (fun k=>N/val W64 ys<=k∧k < W64) (by intro e; cases e) (fun k hk=> ?_) k ⟨hk,hkW⟩
 obtain⟨h1,h2⟩:=hk
 have hP:k*val W64 ys < W64 ^(n+1):=by
  rw [y8,t7]
  exact vK hDn h2
 have eP:=k1q ys k
 have hPl:(m0v ys k).length<=n+1:=by rw [eP]; exact wl_le.2 hP
 have hPl2:(m0v ys k).length < 1099511627776:=by omega
 have hPd:Dg W64 (m0v ys k):=by rw [eP]; exact j0n _
 have hPv:val W64 (m0v ys k)=k*val W64 ys:=by rw [eP,B5]
 have ht:=i1e hz off (n+1)
 rw [hNe] at ht
 have htl:(n8 (zO10 (n+1) (List.drop off zs))).length<=n+1:=x7 (B6 _) (by rw [E0]; exact Nat.min_le_left _ _)
 have hc:∀ b,decide (k*val W64 ys<=N)=b->decide (zO6 0<=mS (part zs off (n8 (zO10 (n+1) (List.drop off zs))).length) (m0v ys k))=b:=by
  intro b hb
  rw [ht,eP,<- hb]
  exact zzA179.2 (rM N (k*val W64 ys))
 have hcq:Cn (zO10 (A1 (k:Int)).length (A1 (k:Int))):=by
  rw [r8]
  exact Cn.ws _
 have hql:(zO10 (A1 (k:Int)).length (A1 (k:Int))).length < 274877906944:=by
  rw [r8]
  have:wl k<=1:=wl_le.2 (by rw [a0u]; exact h2)
  show wl ((k:Int).toNat) < _
  rw [g9]
  omega
 have hk0:zO6 0<=(k:Int)∧((k:Int)).toNat < 18446744073709551616:=⟨by simp,by rw [g9]; exact h2⟩
 by_cases hle:k*val W64 ys<=N
 ·right
  have hke:k=N/val W64 ys:=b0e ((lV hD).2 hle) h1
  rw [<- hke]
  have hlen:(S6 (part zs off (n+1)) (m0v ys k)).length=n+1:=by
   unfold S6
   rw [l4,lA ho]
  refine p1k zs ys off (n+1) n k ⟨?_,ho,d9 _,ho,hz,hPd,?_,by omega,hPl,hc _ (i6 hle),by omega,d9 _,by omega,hz,hPd,by omega,hPl2,⟨rfl,ho,hzl⟩,d9 _,hn,hcq,hy,hql,hnl,hk0,a6⟩
  ·show 0 < (S6 (part zs off (n+1)) (m0v ys k)).length∧(S6 (part zs off (n+1)) (m0v ys k)).length<=n+1∧off+(S6 (part zs off (n+1)) (m0v ys k)).length<=zs.length∧0+(S6 (part zs off (n+1)) (m0v ys k)).length<=(S6 (part zs off (n+1)) (m0v ys k)).length
   rw [hlen]
   omega
  ·show val W64 (m0v ys k)<=val W64 (part zs off (n+1))
   rw [hPv,hNe]
   exact hle
 ·left
  have hk1:N/val W64 ys < k:=by
   rcases J4 (N/val W64 ys) k with h | h
   ·exact h
   ·exact absurd ((lV hD).1 h) hle
  have hk2:0 < k:=D7 (s6 _) hk1
  refine⟨k-1,⟨Nat.le_sub_one_of_lt hk1,D7 (Nat.sub_le _ _) h2⟩,Nat.sub_lt hk2 Nat.one_pos,?_⟩
  have hw:uI.wrap ((k:Int)-1)=((k-1:Nat):Int):=by
   have h2':k < 18446744073709551616:=h2
   rw [R5]
   clear h1 hk1
   omega
  have:=p1g zs ys off (n+1) n k ⟨hc _ (d8 hle),by omega,d9 _,by omega,hz,hPd,by omega,hPl2,⟨rfl,ho,hzl⟩,d9 _,hn,hcq,hy,hql,hnl,hk0,a6⟩
  rw [hw] at this
  exact this
theorem c1s:s0j zs ys off (n+1) ((val W64 (part zs off (n+1))/val W64 ys:Nat):Int)=zs.take off++dl W64 (n+1) (val W64 (part zs off (n+1))%val W64 ys)++zs.drop (off+(n+1)):=by
 have _:=hzl
 have _:=hz
 have _:=hy
 have _:=hn
 have _:=hnl
 have _:=hD
 have _:=hN
 have hd:o2i zs ys off (n+1) ((val W64 (part zs off (n+1))/val W64 ys:Nat):Int)=dl W64 (n+1) (val W64 (part zs off (n+1))%val W64 ys):=by
  unfold o2i S6
  rw [k1q,B5,lA ho]
  congr 1
  rw [t7]
  have:=bV (val W64 (part zs off (n+1))) (val W64 ys)
  omega
 unfold s0j
 rw [hd,l4,U8]
 congr 2
 exact O9 (by rw [l4]; exact d9 _)
end
def a1i (zs ys:List Int) (off m:Nat):Int:=((val W64 (part zs off m)/val W64 ys:Nat):Int)
def k0f (zs ys:List Int) (off m:Nat):List Int:=zs.take off++dl W64 m (val W64 (part zs off m)%val W64 ys)++zs.drop (off+m)
theorem kI {zs:List Int} (ys:List Int) {off m:Nat} (h:off+m<=zs.length):(k0f zs ys off m).length=zs.length:=by
 unfold k0f
 simp only [G8,E0,C2,l4]
 omega
theorem d2s {N D L H l y B W:Nat} (_:0 < B) (hN:N=L+B*(l+W*H)) (hL:L < B) (hD:B*y<=D) (hy:0 < y) (_:0 < D):N/D<=(H*W+l)/y:=by
 rw [lV hy]
 have h1:N/D*D<=N:=Nat.div_mul_le_self N D
 have h2:N/D*(B*y)<=N/D*D:=N0 _ hD
 have h3:B*(N/D*y)<=N:=by
  have:B*(N/D*y)=N/D*(B*y):=by rw [<- r7,t7 B,r7]
  omega
 have h4:B*(N/D*y) < B*(l+W*H+1):=by
  rw [R4 B (l+W*H) 1]
  omega
 have h5:=Nat.lt_of_mul_lt_mul_left h4
 rw [t7 H W]
 omega
section
variable {zs ys:List Int} {off n:Nat} (ho:off+(n+1)<=zs.length) (hzl:zs.length < 1099511627776) (hz:Dg W64 zs) (hy:Cn ys) (hn:n=ys.length) (hnl:ys.length < 274877906944) (hD:0 < val W64 ys)
 (hN:val W64 (part zs off (n+1)) < val W64 ys*W64)
include ho hzl hz hy hn hnl hD hN
theorem k1j:0 < n:=by
 have _:=ho
 have _:=hzl
 have _:=hz
 rcases Q5 n with h | h
 ·have:ys=[] :=cJ (by omega)
  subst this
  simp [val] at hD
 ·exact h
theorem g2k:val W64 (part zs off (n+1))/val W64 ys < W64:=by
 have _:=ho
 have _:=hzl
 have _:=hz
 have _:=hy
 have _:=hn
 have _:=hnl
 exact (D9 hD).2 (by rw [t7]; exact hN)
theorem d2b (hlt:zs.getD (off+n) 0 < ys.getD (n-1) 0):∃ q:Nat,i2m (zs.getD (off+n) 0) (zs.getD (off+(n-1)) 0) (ys.getD (n-1) 0)=(q:Int)∧val W64 (part zs off (n+1))/val W64 ys<=q∧q < W64:=by
 have hp:=k1j ho hzl hz hy hn hnl hD hN
 have g1:=hz.get m7 (off+n)
 have g2:=hz.get m7 (off+(n-1))
 have g3:=hy.dg.get m7 (n-1)
 refine⟨_,rfl,?_,?_⟩
 ·have hl:=lA ho
  have e1:=A5 W64 (part zs off (n+1)) (n-1) (by omega)
  rw [E4 (l:=part zs off (n+1)) (m:=n-1) (by omega),b0g hp,E4 (l:=part zs off (n+1)) (m:=n) (by omega),Y6 (l:=part zs off (n+1)) (i:=n+1) (by omega),dY (by omega),dY (by omega)] at e1
  simp only [val,lM,I1] at e1
  have e2:=A5 W64 ys (n-1) (by omega)
  rw [E4 (l:=ys) (m:=n-1) (by omega),b0g hp,Y6 (l:=ys) (i:=n) (by omega)] at e2
  simp only [val,lM,I1] at e2
  have e3:=E8 m7 ((f0j hz off (n+1)).take (n-1))
  rw [E0,C6 (by omega)] at e3
  exact d2s (s7 m7) e1 e3 (by rw [e2]; exact Nat.le_add_left _ _) (by omega) hD
 ·have q1:(zs.getD (off+n) 0).toNat+1<=(ys.getD (n-1) 0).toNat:=by omega
  have q2:(zs.getD (off+(n-1)) 0).toNat < 18446744073709551616:=by
   have:((W64:Nat):Int)=18446744073709551616:=rfl
   omega
  rw [D9 (by omega)]
  have q3:=w9 18446744073709551616 q1
  show _ < 18446744073709551616*_
  rw [t7 18446744073709551616]
  omega
theorem d2a:∃ (b:Bool) (r:CR),m0k XW5 [H7 .ret (fun _=>e2k (k0f zs ys off (n+1)) ys (a1i zs ys off (n+1)))] 200 266 (y1t off (n+1) n) (e1q zs ys) 15 [b] =some r∧l5 r.obs∧r.v= .int .u64 (a1i zs ys off (n+1))∧r.h=e1q (k0f zs ys off (n+1)) ys∧r.n=15:=by
 have hp:=k1j ho hzl hz hy hn hnl hD hN
 have hw:iI.wrap (zO6 n-zO6 1)=((n-1:Nat):Int):=by
  have h1:=t8 (n:=n-1) (by omega)
  rw [<- h1]
  congr 1
  simp only [B4]
  omega
 have ea:s4 off n=off+n:=q9 _ _
 have eb:s4 off (iI.wrap (zO6 n-zO6 1)).toNat=off+(n-1):=by rw [hw,q9,g9]
 have ec:s4 0 (iI.wrap (zO6 n-zO6 1)).toNat=n-1:=by rw [hw,q9,g9,I0]
 have g1:=hz.get m7 (off+n)
 have g2:=hz.get m7 (off+(n-1))
 have g3:=hy.dg.get m7 (n-1)
 have o1:s4 off n < zs.length:=by rw [ea]; omega
 have o2:(zO6 0<=zO6 n∧zO6 n < zO6 (n+1))∧0 < zs.length:=⟨⟨zzA207.2 (s6 _),zzA208.2 (by omega)⟩,by omega⟩
 have o3:s4 0 (iI.wrap (zO6 n-zO6 1)).toNat < ys.length:=by rw [ec]; omega
 have o4:(zO6 0<=iI.wrap (zO6 n-zO6 1)∧iI.wrap (zO6 n-zO6 1) < zO6 n)∧0 < ys.length:=by rw [hw]; exact⟨⟨zzA207.2 (s6 _),zzA208.2 (by omega)⟩,by omega⟩
 have o5:s4 off (iI.wrap (zO6 n-zO6 1)).toNat < zs.length:=by rw [eb]; omega
 have o6:(zO6 0<=iI.wrap (zO6 n-zO6 1)∧iI.wrap (zO6 n-zO6 1) < zO6 (n+1))∧0 < zs.length:=by rw [hw]; exact⟨⟨zzA207.2 (s6 _),zzA208.2 (by omega)⟩,by omega⟩
 have into1:∀ x s',b9 XW5 t1y (c2l zs ys off (n+1) n (i2m (zs.getD (s4 off n) 0) (zs.getD (s4 off (iI.wrap (zO6 n-zO6 1)).toNat) 0) (ys.getD (s4 0 (iI.wrap (zO6 n-zO6 1)).toNat) 0))) x s'->b9 XW5 t1y (x9 XW5 200 266 (y1t off (n+1) n) (e1q zs ys) 15 [true]) x s':=
  fun x s' h=>l9 h []
 have into2:∀ x s',b9 XW5 t1y (c2l zs ys off (n+1) n 18446744073709551615) x s'->b9 XW5 t1y (x9 XW5 200 266 (y1t off (n+1) n) (e1q zs ys) 15 [false]) x s':=
  fun x s' h=>l9 h []
 have eL:=c1s ho hzl hz hy hn hnl hD hN
 by_cases hlt:zs.getD (off+n) 0 < ys.getD (n-1) 0
 ·obtain⟨q,e1,e2,e3⟩:=d2b ho hzl hz hy hn hnl hD hN hlt
  refine⟨true,_,g1x zs ys (k0f zs ys off (n+1)) off (n+1) n (a1i zs ys off (n+1)),⟨into1 _ _ ?_,?_,o3,o4,o5,o6,o1,o2,?_,o3,o4,o1,o2,a6⟩,rfl,rfl,rfl⟩
  ·rw [ea,eb,ec,e1]
   have:=s0s ho hzl hz hy hn hnl hD hN e2 e3
   rw [eL] at this
   exact this
  ·rw [ea,eb,ec]
   exact⟨⟨g1.1,hlt⟩,⟨g2.1,g2.2⟩,g3.2⟩
  ·rw [ea,ec]
   exact i6 hlt
 ·refine⟨false,_,c2i zs ys (k0f zs ys off (n+1)) off (n+1) n (a1i zs ys off (n+1)),⟨into2 _ _ ?_,?_,o3,o4,o1,o2,a6⟩,rfl,rfl,rfl⟩
  ·have hlim:=g2k ho hzl hz hy hn hnl hD hN
   have:=s0s ho hzl hz hy hn hnl hD hN (k:=18446744073709551615) (Nat.le_of_lt_succ hlim) (by decide)
   rw [eL] at this
   exact this
  ·rw [ea,ec]
   exact d8 hlt
end
theorem r0t {P:Program} {B:Nat} {M:Nat->Prop} {ρ:Num} {H:Heap} {w w':World} (h:Sim P B M ρ H w) {n b:Nat} {o0 o:AObj} (h0:H.get n=some o0) (hr:o0.rw=true) (hn:ρ n=some b)
  (ho:ORep B M ρ w' (some b) o) (hk:∀ k,k < w.heap.size->k≠b->w'.heap[k]? =w.heap[k]?):Sim P B M ρ (H.set n o) w':=by
 refine⟨h.glob,fun i o' hi=> ?_,fun i j oi oj hi hri hj hij hne=> ?_⟩
 ·rw [p9 H n o o0 h0] at hi
  split at hi
  ·rename_i e; subst e; cases hi; rw [hn]; exact ho
  ·rename_i hne
   have hold:=h.obj i o' hi
   have hd:∀ b',ρ i=some b'->w'.heap[b']? =w.heap[b']? :=fun b' hb'=>by
    refine hk b' ?_ fun e=> ?_
    ·rw [hb'] at hold
     exact hold.lt
    ·subst e
     exact h.inj n i o0 o' h0 hr hi hne (by rw [hn]; simp) (hn.trans hb'.symm)
   cases o' with
   | row e sz r k=>
    rcases hold with hold | ⟨b',cap,cur,h1,h2,h3,h4⟩
    ·exact .inl hold
    ·exact .inr ⟨b',cap,cur,h1,h2,h3.to (hd b' h1),h4⟩
   | cells cs t=>obtain⟨b',h1,h2,h3⟩:=hold; exact⟨b',h1,(hd b' h1).trans h2,h3⟩
   | iter s pos=>obtain⟨b',h1,h2,h3⟩:=hold; exact⟨b',h1,(hd b' h1).trans h2,h3⟩
   | ints k xs=>
    rcases hold with hold | ⟨b',cs,t,fr,h1,h2,h3⟩
    ·exact .inl hold
    ·exact .inr ⟨b',cs,t,fr,h1,(hd b' h1).trans h2,h3⟩
   | loop st pn ts ps asg bd=>obtain⟨b',r,h1,h2,h3⟩:=hold; exact⟨b',r,h1,(hd b' h1).trans h2,h3⟩
   | defr=>obtain⟨b',h1,h2,h3⟩:=hold; exact⟨b',h1,(hd b' h1).trans h2,h3⟩
   | dead=>obtain⟨b',q,h1,h2,h3⟩:=hold; exact⟨b',q,h1,(hd b' h1).trans h2,h3⟩
   | ro xs=>
    rcases hold with hold | ⟨b',cs,t,fr,h1,h2,h3⟩
    ·exact .inl hold
    ·exact .inr ⟨b',cs,t,fr,h1,(hd b' h1).trans h2,h3⟩
   | map es=>obtain⟨b',mes,ck,h1,h2,h3⟩:=hold; exact⟨b',mes,ck,h1,(hd b' h1).trans h2,h3⟩
   | fam f n sz o=>
    rcases hold with hold | ⟨b',cs,t,fr,h1,h2,h3⟩
    ·exact .inl hold
    ·exact .inr ⟨b',cs,t,fr,h1,(hd b' h1).trans h2,h3⟩
 ·rw [p9 H n o o0 h0] at hi hj
  split at hi <;> split at hj
  ·rename_i e1 e2; exact absurd (e1.symm.trans e2) hij
  ·rename_i e1 e2; subst e1; exact h.inj n j o0 oj h0 hr hj hij hne
  ·rename_i e1 e2; subst e2; exact h.inj i n oi o0 hi hri h0 hij hne
  ·exact h.inj i j oi oj hi hri hj hij hne
theorem x0w:Enters zO8 266:=F2 (u6 u0n 10).2 (g1x [] [] [] 0 0 0 0)
theorem d1c {zs ys:List Int} {off n b g cap c2:Nat} {cur gs:Array Value} {t:TypeId} {fr:Nat×Nat} {w:World} (hI:J0.I w)
  (ho:off+(n+1)<=zs.length) (hzl:zs.length < 1099511627776) (hz:Dg W64 zs) (hy:Cn ys) (hn:n=ys.length) (hnl:ys.length < 274877906944) (hD:0 < val W64 ys)
  (hN:val W64 (part zs off (n+1)) < val W64 ys*W64)
  (hb:RowAt w b cur bP) (hcap:cap<=maxLen) (hcs:cur.size=cap) (hln:zs.length<=cap) (htk:cur.toList.take zs.length=zs.map (zO2 .u64))
  (hg:w.heap[g]? =some (.cells gs t fr)) (hgs:∀ i,i < ys.length->gs[i]? =some (.int .u64 (ys.getD i 0))) (hne:b≠g) (hbg:zO8.globals.size<=b):
  Calls zO8 266 ⟨[.slice (some ⟨b,off,none⟩) (n+1) (cap-off), .slice (some ⟨g,0,none⟩) n (c2-0)]⟩ w fun e w'=>
   e= .returned (.int .u64 (a1i zs ys off (n+1)))∧Keeps w.heap.size (fun k=>k=b) w w'∧∃ cur',RowAt w' b cur' bP∧cur'.size=cap∧cur'.toList.take zs.length=(k0f zs ys off (n+1)).map (zO2 .u64):=by
 have hp:Par zO8 w.heap.size (fun k=>k=b):=⟨hI.1,fun k hk e=>by omega⟩
 have hG:zO8.globals.size=11:=by kernel_rfl
 obtain⟨hX,_⟩:=u6 u0n 10
 have hS:∀ ρ':Num,Agree 15 (fun i=>if i=11 then some b else if i=12 then some cap else if i=13 then some g else if i=14 then some c2 else some i) ρ'->Sim zO8 w.heap.size (fun k=>k=b) ρ' (e1q zs ys) w∧([.slice (some ⟨b,off,none⟩) (n+1) (cap-off), .slice (some ⟨g,0,none⟩) n (c2-0)] :List Value)=rvL ρ' (y1t off (n+1) n):=by
  intro ρ' ha
  have h11:ρ' 11=some b:=by rw [ha 11 (by omega)]; simp
  have h12:ρ' 12=some cap:=by rw [ha 12 (by omega)]; simp
  have h13:ρ' 13=some g:=by rw [ha 13 (by omega)]; simp
  have h14:ρ' 14=some c2:=by rw [ha 14 (by omega)]; simp
  refine⟨⟨fun k hk=>by
   rw [ha k (by omega)]
   show (if k=11 then some b else if k=12 then some cap else if k=13 then some g else if k=14 then some c2 else some k)=some k
   rw [a7 (by omega),a7 (by omega),a7 (by omega),a7 (by omega)],fun i o hi=> ?_,fun i j o o' hi hr hj hij hnn=> ?_⟩,?_⟩
  ·rw [b6] at hi
   split at hi
   ·rename_i e
    subst e
    cases hi
    rw [h11]
    refine .inr ⟨b,cap,cur,rfl,h12,hb, .inr rfl,hcap,by omega,?_,?_⟩
    ·simp only [Row.list,D1,u9]; exact hln
    ·simp only [Row.list,D1]; rw [Q3]; exact htk
   ·rw [b6] at hi
    split at hi
    ·rename_i e
     subst e
     cases hi
     rw [h13]
     exact .inr ⟨g,gs,t,fr,rfl,hg,hgs⟩
    ·simp [Heap.get] at hi
  ·rw [b6] at hi hj
   split at hi
   ·rename_i e
    subst e
    split at hj
    ·rename_i e; exact absurd e hij
    ·rw [b6] at hj
     split at hj
     ·rename_i e
      subst e
      rw [h11,h13]
      intro e
      exact hne (bM e)
     ·simp [Heap.get] at hj
   ·rw [b6] at hi
    split at hi
    ·cases hi; cases hr
    ·simp [Heap.get] at hi
  ·simp only [rvL,rv,rSl,h11,h12,h13,h14,aF]
 obtain⟨bit,r,hev,hobs,hv,hh,hrn⟩:=d2a ho hzl hz hy hn hnl hD hN
 refine (K3 hX progOk.mixed hev hobs hp (d9 _) hI hS).2.mono fun e w' ⟨ρ1,v,ha,he,hk,hfin⟩=> ?_
 obtain⟨hv1,hS1⟩:=hfin ρ1 (Agree.refl _ _)
 have h11:ρ1 11=some b:=by rw [ha 11 (by omega)]; simp
 have h12:ρ1 12=some cap:=by rw [ha 12 (by omega)]; simp
 refine⟨by rw [he,hv1,hv]; rfl,hk,?_⟩
 rw [hh] at hS1
 rcases hS1.obj 11 _ rfl with ⟨q1,_⟩ | ⟨b',cap',cur',q1,q2,q3,_,_,q6,q7,q8⟩
 ·rw [h11] at q1; cases q1
 ·rw [h11] at q1
  rw [h12] at q2
  cases q1
  cases q2
  simp only [Row.list,D1] at q8
  rw [Q3,kI ys ho] at q8
  exact⟨cur',q3,by omega,q8⟩
theorem u1d {H:Heap} {k:IntKind} {x:Value} {xs:List Int} {l:List Prop} {id:Nat} (h:o1t H k x=some (xs,l)) (hx:∃ kk n c,x= .slice (some ⟨id,0,some kk⟩) n c):∃ o,H.get id=some o:=by
 unfold o1t at h
 split at h
 ·obtain⟨_,_,_,e⟩:=hx; cases e
 ·obtain⟨_,_,_,e⟩:=hx
  cases e
  cases hq:H.get id with
  | none=>rw [hq] at h; cases h
  | some o=>exact⟨o,rfl⟩
 ·obtain⟨_,_,_,e⟩:=hx; cases e
 ·cases h
def s2u (zs ys:List Int) (off m:Nat):Prop:=val W64 (part zs off m) < val W64 ys*W64
def uP (args:List Value) (H:Heap) (n:Nat) (ds:List Bool):Option CR:=
 match args with
 | [.slice (some ⟨id,off,some kk⟩) m c, .slice (some ⟨id2,0,some kk2⟩) k c2] =>match H.get id with
  | some (.row e sz (.ints .u64 zs) kk')=>match zO0 kk kk' && zO0 sz 1 && zO0 e bP && !Nat.beq id id2 with
   | true=>match o1t H .u64 (.slice (some ⟨id2,0,some kk2⟩) k c2) with
    | some (ys,l)=>some ⟨.int .u64 (a1i zs ys off m),H.set id (.row bP 1 (.ints .u64 (k0f zs ys off m)) kk),n,
     [off=c∧m=ys.length+1,off+m<=zs.length∧zs.length < 1099511627776,Dg W64 zs,Cn ys,ys.length < 274877906944,0 < val W64 ys,s2u zs ys off m] ++l,ds⟩
    | none=>none
   | false=>none
  | _=>none
 | _=>none
theorem i0l:V8 zO8 J0 266 uP:=by
 intro args H n ds r h hl
 unfold uP at h
 split at h
 case h_2=>cases h
 rename_i id off kk m c id2 kk2 k c2
 split at h
 case h_2=>cases h
 rename_i e sz zs kk' hget
 split at h
 case h_2=>cases h
 rename_i hc
 simp only [A9,B7,o0s] at hc
 obtain⟨⟨⟨rfl,rfl⟩,rfl⟩,hid0⟩:=hc
 have hid:id≠id2:=fun e=>by subst e; rw [f0e] at hid0; cases hid0
 split at h
 case h_2=>cases h
 rename_i ys l hsl
 cases h
 obtain⟨hl1,hl2⟩:=(a8 _ _).1 hl
 obtain⟨⟨rfl,rfl⟩,⟨ho,hzl⟩,hz,hy,hnl,hD,hN,_⟩:=hl1
 refine⟨d9 _,x0w,fun B M ρ w vs hp hB hI hS=> ?_⟩
 have key:∀ ρ',Agree n ρ ρ'->∃ b g cap c2' cur gs t fr,ρ' id=some b∧ρ' kk=some cap∧RowAt w b cur bP∧(B<=b∨M b)∧cap<=maxLen∧cur.size=cap∧zs.length<=cap∧cur.toList.take zs.length=zs.map (zO2 .u64)∧
   w.heap[g]? =some (.cells gs t fr)∧(∀ i,i < ys.length->gs[i]? =some (.int .u64 (ys.getD i 0)))∧b≠g∧vs=[.slice (some ⟨b,off,none⟩) (ys.length+1) (cap-off), .slice (some ⟨g,0,none⟩) ys.length (c2'-0)] :=by
  intro ρ' ha
  obtain⟨hS1,hvs⟩:=hS ρ' ha
  rcases hS1.obj id _ hget with ⟨_,g2⟩ | ⟨b,cap,cur,g1,g2,g3,g4,g5,g6,g7,g8⟩
  ·have hx:zs=[] :=by simpa [Row.list] using g2
   subst hx
   simp at ho
  ·simp only [Row.list,D1,u9] at g6 g7 g8
   rw [Q3] at g8
   rcases T0 (e:=bP) hS1 hsl hl2 with ⟨_,q2⟩ | ⟨g,cap',cs,t,fr,q1,q2,q3⟩
   ·subst q2; simp [val] at hD
   ·have hg2:ρ' id2=some g∧k=ys.length:=by
     cases hq:ρ' id2 with
     | none=>simp [rv,rSl,hq] at q1
     | some g'=>simp [rv,rSl,hq] at q1; exact⟨by rw [q1.1],q1.2.1⟩
    have hob:∃ o2,H.get id2=some o2:=u1d hsl ⟨_,_,_,rfl⟩
    obtain⟨o2,ho2⟩:=hob
    have hbg:b≠g:=fun e=>by
     subst e
     exact hS1.inj id id2 _ o2 hget rfl ho2 hid (by rw [g1]; simp) (g1.trans hg2.1.symm)
    cases hq2:ρ' kk2 with
    | none=>
     refine⟨b,g,cap,0,cur,cs,t,fr,g1,g2,g3,g4,g5,g6,g7,g8,q2,q3,hbg,?_⟩
     rw [hvs]
     simp [rvL,rv,rSl,g1,g2,hg2.1,hg2.2,hq2]
    | some c2'=>
     refine⟨b,g,cap,c2'-c2,cur,cs,t,fr,g1,g2,g3,g4,g5,g6,g7,g8,q2,q3,hbg,?_⟩
     rw [hvs]
     simp [rvL,rv,rSl,g1,g2,hg2.1,hg2.2,hq2]
 obtain⟨b,g,cap,c2',cur,gs,t,fr,k1,k2,k3,k4,k5,k6,k7,k8,k9,k10,k11,k12⟩:=key ρ (Agree.refl _ _)
 have hbg:zO8.globals.size<=b:=by
  rcases k4 with h | h
  ·have:=hp.glo; omega
  ·rcases J4 b zO8.globals.size with h' | h'
   ·exact absurd h (hp.free b h')
   ·exact h'
 rw [k12]
 refine (d1c (c2:=c2') hI ho hzl hz hy rfl hnl hD hN k3 k5 k6 k7 k8 k9 k10 k11 hbg).mono fun e w' ⟨he,hkp,cur',r1,r2,r3⟩=> ?_
 refine⟨ρ,_,Agree.refl _ _,he,⟨hkp.os,hkp.tape,hkp.output,hkp.size,fun q hq hm=>hkp.block q (by omega) fun e=> ?_⟩,fun ρ' ha=>⟨rfl,?_⟩⟩
 ·subst e
  rcases k4 with h | h
  ·omega
  ·exact hm h
 ·obtain⟨b1,g1,cap1,c21,cur1,gs1,t1,fr1,j1,j2,j3,j4,j5,j6,j7,j8,j9,j10,j11,j12⟩:=key ρ' ha
  have eb:b1=b:=by
   rw [k12] at j12
   simp at j12
   exact j12.1.1.symm
  subst eb
  have ecur:cur1=cur:=by
   obtain⟨f1,a1,_⟩:=j3
   obtain⟨f2,a2,_⟩:=k3
   rw [a1] at a2
   cases a2
   rfl
  subst ecur
  have ecap:cap1=cap:=j6.symm.trans k6
  subst ecap
  refine r0t (hS ρ' ha).1 hget rfl j1 (.inr ⟨b1,cap1,cur',rfl,j2,r1,k4,k5,by omega,?_,?_⟩) fun q hq hne=>hkp.block q hq hne
  ·simp only [Row.list,D1,u9]
   rw [kI ys ho]
   exact k7
  ·simp only [Row.list,D1]
   rw [Q3,kI ys ho]
   exact r3
def b1y:iV:=o8 195 jG (o8 124 (A3 [shV] rV) (o8 127 (A3 [shI,shI] d0c)
 (o8 265 (A3 [shW,shW] bG) (o8 270 (A3 [shW,shW] mH) (o8 269 (A3 [shW,shW] sB)
 (o8 205 (A3 [shI,shI] n0n) (o8 197 (A3 [shI,shV] xE) (o8 125 (A3 [shI,shV] d0z)
 (o8 267 (A3 [shI,shV] uW) (o8 224 (A3 [shI] e0k) (o8 172 (A3 [shI] n0a)
 (o8 266 uP I4))))))))))))
theorem k0o:iS zO8 J0 b1y:=j0 gR (j0 (m9 _ sM) (j0 (m9 _ zM)
 (j0 (m9 _ gF) (j0 (m9 _ qE) (j0 (m9 _ xT)
 (j0 (m9 _ z0g) (j0 (m9 _ i0o) (j0 (m9 _ r0e)
 (j0 (m9 _ j0w) (j0 (m9 _ n0z) (j0 (m9 _ y0q)
 (j0 i0l (v6 _ _)))))))))))))
def bW6:Base:=⟨zO8,J0,false,y0c,b1y,200,L7⟩
theorem bL:BaseOk bW6:=⟨progOk,lC,k0o,r5⟩
abbrev XW6:Cx:=bW6.cx 10
def t2b (P:Program) (J:Inv P) (f:FuncId) (az:List Arg) (F:List Value->Value):Prop:=
 Enters P f∧∀ (w:World) (us:List Value),J.I w->All2 (nM w) (y7 az) us->Calls P f ⟨M9 az us⟩ w fun e w'=>e= .returned (F us)∧Below w.heap.size w w'
theorem g1h {b:Base} (hb:BaseOk b) (k:Nat) (L:U5) (ds:List Bool) {f:FuncId} {az:List Arg} {F:List Value->Value} {r:CR}
  (h:m0k (b.cx k) L b.fuel f (M9 az (K7 (b.cx k).P.globals.size (y7 az)).1) (K7 (b.cx k).P.globals.size (y7 az)).2.1 (K7 (b.cx k).P.globals.size (y7 az)).2.2 ds=some r) (hl:l5 r.obs)
  (hF:∀ ρ,rv ρ r.v=F (rvL ρ (K7 (b.cx k).P.globals.size (y7 az)).1)):t2b b.P b.J f az F:=by
 obtain⟨hX,hng⟩:=u6 hb k
 suffices hs:t2b (b.cx k).P (b.cx k).J f az F by
  cases k <;> exact hs
 generalize b.cx k=X at*
 refine⟨F2 hng h,fun w us hI hA=> ?_⟩
 obtain⟨ρ,ha,hρ⟩:=g1u w.heap.size (fun _=>False) w (y7 az) us hA X.P.globals.size (fun i=>some i)
 have hp:Par X.P w.heap.size (fun _=>False):=⟨X.J.room w hI,fun _ _ h=>h⟩
 have hlen:(K7 X.P.globals.size (y7 az)).1.length=(y7 az).length:=by
  have:=aP List.length (hρ ρ (Agree.refl _ _)).1
  rw [Y9] at this
  rw [<- this,hA.length]
 have hS:∀ ρ',Agree (K7 X.P.globals.size (y7 az)).2.2 ρ ρ'->Sim X.P w.heap.size (fun _=>False) ρ' (K7 X.P.globals.size (y7 az)).2.1 w∧M9 az us=rvL ρ' (M9 az (K7 X.P.globals.size (y7 az)).1):=by
  intro ρ' ha'
  obtain⟨h1,h2⟩:=hρ ρ' ha'
  have hle:=Q4 (y7 az) X.P.globals.size
  refine⟨⟨fun g hg=>by rw [ha' g (by omega),ha g hg],h2,fun i j o o' hi hr _ _=> ?_⟩,?_⟩
  ·rw [(fG _ _ _ _ hi).2.2] at hr
   cases hr
  ·rw [rN ρ' az _ hlen,<- h1]
 have:=K3 hX hng.mixed h hl hp (d9 _) hI hS
 refine this.2.mono fun e w' ⟨ρ1,v,ha1,he,hk,hfin⟩=> ?_
 obtain⟨hv,hsim⟩:=hfin ρ1 (fun _ _=>rfl)
 refine⟨?_,hk.below⟩
 rw [he,hv,hF,<- (hρ ρ1 ha1).1]
def oB (s1 s2:List Value->Heap->Nat->List Bool->Option CR) (args:List Value) (H:Heap) (n:Nat) (ds:List Bool):Option CR:=
 match ds with
 | true ::r=>s1 args H n r
 | false ::r=>s2 args H n r
 | [] =>none
theorem eV {P:Program} {J:Inv P} {f:FuncId} {s1 s2:List Value->Heap->Nat->List Bool->Option CR} (h1:V8 P J f s1) (h2:V8 P J f s2):V8 P J f (oB s1 s2):=by
 intro args H n ds r h hl
 unfold oB at h
 split at h
 ·exact h1 _ _ _ _ _ h hl
 ·exact h2 _ _ _ _ _ h hl
 ·cases h
def cQu:Code:=z8 zO8 228 0
def tQ1 (xs ds:List Int) (q n:Int) (nx nd:Nat):St:=⟨only 40 [(0, .slice (some ⟨11,0,some 12⟩) nx 0),(6, .int .u64 q),(7, .int .i64 n),(8, .slice (some ⟨15,0,some 16⟩) nd 0)],[(15, .row mW 1 (.ints .u32 ds) 16),(11, .ints .u32 xs)],17,[],[],0,none,[],15⟩
def tQ2 (xs ds:List Int) (q n:Int) (nx nd:Nat):St:=⟨only 40 [(0, .slice (some ⟨17,0,some 18⟩) nx 0),(6, .int .u64 q),(7, .int .i64 n),(8, .slice (some ⟨15,0,some 16⟩) nd 0)],[(17, .row mW 1 (.ints .u32 xs) 18),(15, .row mW 1 (.ints .u32 ds) 16)],19,[],[],0,none,[],15⟩
abbrev quD (q:Int):Int:=uI.wrap (q*2)
abbrev quO (q:Int):Int:=uI.wrap ((zO11 uI.bits (quD q)||| zO11 uI.bits 1).toNat:Int)
section
variable (xs ys ds R:List Int) (q n:Int) (nx nd:Nat)
abbrev quC (xs:List Int) (nd:Nat) (ds:List Int) (b:Bool):Prop:=decide (0<=cpX xs (ds.take nd))=b
theorem z2t (hl:l5 [nd<=ds.length,CnN (ds.take nd),quC xs nd ds false,nx=xs.length,nd<=ds.length,CnN xs,CnN (ds.take nd),decide (0<=n)=true]):u4 XRn3 cQu (tQ1 xs ds q n nx nd) .normal (tQ1 xs (hfX (ds.take nd)) (quD q) (iI.wrap (n-1)) nx (hfX (ds.take nd)).length):=
 stp aT 10 progOk.mixed [true,false] [(15,17),(16,18)] (by kernel_rfl) hl
theorem l2d (hl:l5 [nd<=ds.length,CnN (ds.take nd),nx=xs.length,nd<=ds.length,CnN xs,CnN (ds.take nd),LeN (ds.take nd) xs,quC xs nd ds true,nx=xs.length,nd<=ds.length,CnN xs,CnN (ds.take nd),decide (0<=n)=true]):u4 XRn3 cQu (tQ1 xs ds q n nx nd) .normal (tQ2 (sbX xs (ds.take nd)) (hfX (ds.take nd)) (quO q) (iI.wrap (n-1)) (sbX xs (ds.take nd)).length (hfX (ds.take nd)).length):=
 stp aT 10 progOk.mixed [true,true] [(17,17),(18,18),(15,19),(16,20)] (by kernel_rfl) hl
theorem j2s (hl:l5 [decide (0<=n)=false]):u4 XRn3 cQu (tQ1 xs ds q n nx nd) (.exit 0) (tQ1 xs ds q n nx nd):=
 stp aT 10 progOk.mixed [false] [] (by kernel_rfl) hl
theorem a3g (hl:l5 [nd<=ds.length,CnN (ds.take nd),quC (xs.take nx) nd ds false,nx<=xs.length,nd<=ds.length,CnN (xs.take nx),CnN (ds.take nd),decide (0<=n)=true]):u4 XRn3 cQu (tQ2 xs ds q n nx nd) .normal (tQ2 xs (hfX (ds.take nd)) (quD q) (iI.wrap (n-1)) nx (hfX (ds.take nd)).length):=
 stp aT 10 progOk.mixed [true,false] [(17,17),(18,18),(15,19),(16,20)] (by kernel_rfl) hl
theorem q2p (hl:l5 [nd<=ds.length,CnN (ds.take nd),nx<=xs.length,nd<=ds.length,CnN (xs.take nx),CnN (ds.take nd),LeN (ds.take nd) (xs.take nx),quC (xs.take nx) nd ds true,nx<=xs.length,nd<=ds.length,CnN (xs.take nx),CnN (ds.take nd),decide (0<=n)=true]):u4 XRn3 cQu (tQ2 xs ds q n nx nd) .normal (tQ2 (sbX (xs.take nx) (ds.take nd)) (hfX (ds.take nd)) (quO q) (iI.wrap (n-1)) (sbX (xs.take nx) (ds.take nd)).length (hfX (ds.take nd)).length):=
 stp aT 10 progOk.mixed [true,true] [(17,19),(18,20),(15,21),(16,22)] (by kernel_rfl) hl
theorem m2a (hl:l5 [decide (0<=n)=false]):u4 XRn3 cQu (tQ2 xs ds q n nx nd) (.exit 0) (tQ2 xs ds q n nx nd):=
 stp aT 10 progOk.mixed [false] [] (by kernel_rfl) hl
abbrev quM (xs ys:List Int):Int:=iI.wrap (iI.wrap (lnX xs-lnX ys)+1)
abbrev quS (xs ys:List Int):Int:=if 0 < quM xs ys then quM xs ys else 0
theorem c2v {x:AX} {s':St} (h:b9 XRn3 cQu (tQ1 xs (lfX ys (quS xs ys)) 0 (quS xs ys) xs.length (lfX ys (quS xs ys)).length) x s'):b9 XRn3 cQu (m8 XRn3 200 228 [nL xs,nL ys] []) x s':=
 l9 h []
end
theorem c1w {k n:Nat} (h:bl k<=32*n):(ws W32 k).length<=n:=by
 refine (F1 n4 _ _).2 ?_
 have:=bl_le.1 h
 rw [dB] at this
 exact this
theorem E9 {k:Nat} (h:bl k<=16000000):CnN (ws W32 k):=by
 refine⟨by rw [x6 n4],?_⟩
 have:=c1w (k:=k) (n:=500000) (by omega)
 omega
theorem u1x (a d:Nat) (b:Bool) (h:decide (d<=a)=b):quC (ws W32 a) (ws W32 d).length (ws W32 d) b:=by
 show decide (0<=cpX (ws W32 a) ((ws W32 d).take (ws W32 d).length))=b
 rw [r8]
 unfold cpX cmV
 rw [x6 n4,x6 n4,<- h]
 split
 ·rw [d8 (by omega),d8 (by omega)]
 ·split
  ·rw [i6 (by omega),i6 (by omega)]
  ·rw [i6 (by omega),i6 (by omega)]
theorem s1b (d:Nat):hfX (ws W32 d)=ws W32 (d/2):=by unfold hfX; rw [x6 n4]
theorem p2n (a d:Nat):sbX (ws W32 a) (ws W32 d)=ws W32 (a-d):=by unfold sbX; rw [x6 n4,x6 n4]
theorem k2z {a d:Nat} (h:d<=a):LeN (ws W32 d) (ws W32 a):=by unfold LeN; rw [x6 n4,x6 n4]; exact h
theorem l1h {q:Nat} (h:2*q < 18446744073709551616):quD (q:Int)=((2*q:Nat):Int):=by
 show uI.wrap ((q:Int)*2)=_
 rw [show (q:Int)*2=((2*q:Nat):Int) by omega]
 exact qT h
theorem a0p {k:Nat} (h:k < 18446744073709551616):(zO11 uI.bits (k:Int)).toNat=k:=by
 rw [BitVec.toNat_ofInt]
 show ((k:Int)%((18446744073709551616:Nat):Int)).toNat=k
 omega
theorem n1m {q:Nat} (h:2*q < 18446744073709551616):quO (q:Int)=((2*q+1:Nat):Int):=by
 show uI.wrap ((zO11 uI.bits (quD (q:Int))||| zO11 uI.bits ((1:Nat):Int)).toNat:Int)=_
 rw [l1h h,pG,a0p h,a0p (by decide)]
 have e:2*q||| 1=2*q+1:=by
  have:=wU (i:=1) (b:=1) (by decide) q
  rw [a0u] at this
  exact this.symm
 rw [e]
 exact qT (by omega)
def quT (A B m:Nat):St:=
 if A < B*2 ^m then tQ1 (ws W32 A) (ws W32 (B*2 ^m/2)) 0 ((m:Int)-1) (ws W32 A).length (ws W32 (B*2 ^m/2)).length
 else tQ2 (ws W32 (A%(B*2 ^m))) (ws W32 (B*2 ^m/2)) ((A/ (B*2 ^m):Nat):Int) ((m:Int)-1) (ws W32 (A%(B*2 ^m))).length (ws W32 (B*2 ^m/2)).length
theorem fB {a b n:Nat} (h:a<=b) (hb:bl b<=n):bl a<=n:=x7 (p0b h) hb
theorem t1z {A d:Nat} (hd:0 < d):A/d=2*(A/ (2*d))+A%(2*d)/d∧A%d=A%(2*d)%d∧A%(2*d) < 2*d:=by
 have h:=bV A (2*d)
 refine⟨?_,?_,F7 _ (by omega)⟩
 ·have e:A=d*(2*(A/ (2*d)))+A%(2*d):=by
   rw [<- r7,t7 d 2]
   exact h.symm
  have:=aP (· / d) e
  simp only [Nat.mul_add_div hd] at this
  exact this
 ·rw [Nat.mod_mod_of_dvd]
  exact⟨2,t7 _ _⟩
theorem d2y {A B m:Nat} (hB:0 < B) (h64:A/B < 18446744073709551616) (hA:bl A<=4000000) (hm:bl (B*2 ^m)<=9000000) (hmm:m < 9000000000):u4 XRn3 cQu (quT A B (m+1)) .normal (quT A B m):=by
 have hd0:0 < B*2 ^m:=F0 hB (s7 (by decide))
 have hq64:A/ (B*2 ^m) < 18446744073709551616:=D7 (by rw [<- P0]; exact mD _ _) h64
 have e2:B*2 ^(m+1)=2*(B*2 ^m):=by rw [y8,<- r7,t7]
 have hw:iI.wrap ((((m+1:Nat):Int)-1)-1)=(m:Int)-1:=by
  have:=y3 ((((m+1:Nat):Int)-1)-1)
  omega
 have hn:decide (0<=((m+1:Nat):Int)-1)=true:=i6 (by omega)
 unfold quT
 rw [e2]
 generalize B*2 ^m=d at*
 rw [Nat.mul_div_cancel_left d (by decide)]
 obtain⟨p1,p2,p3⟩:=t1z (A:=A) hd0
 have ca:=E9 (k:=A) (by omega)
 have cd:=E9 (k:=d) (by omega)
 by_cases h1:A < 2*d
 ·rw [f9 h1]
  by_cases h2:A < d
  ·rw [f9 h2]
   have hs:=z2t (ws W32 A) (ws W32 d) 0 (((m+1:Nat):Int)-1) (ws W32 A).length (ws W32 d).length ⟨d9 _,by rw [r8]; exact cd,u1x A d false (d8 (by omega)),rfl,d9 _,ca,by rw [r8]; exact cd,hn,a6⟩
   rw [r8,s1b,hw] at hs
   exact hs
  ·rw [a7 h2]
   have hs:=l2d (ws W32 A) (ws W32 d) 0 (((m+1:Nat):Int)-1) (ws W32 A).length (ws W32 d).length ⟨d9 _,by rw [r8]; exact cd,rfl,d9 _,ca,by rw [r8]; exact cd,by rw [r8]; exact k2z (by omega),u1x A d true (i6 (by omega)),rfl,d9 _,ca,by rw [r8]; exact cd,hn,a6⟩
   have hq:quO 0=((1:Nat):Int):=n1m (q:=0) (by decide)
   rw [r8,s1b,p2n,hw,hq] at hs
   have g1:A/d=1:=by
    rw [Nat.div_eq_iff hd0]
    omega
   have g2:A%d=A-d:=by
    rw [v1o (by omega),G7 (by omega)]
   rw [g1,g2]
   exact hs
 ·rw [a7 h1,a7 (show ¬A < d by omega)]
  have car:=E9 (k:=A%(2*d)) (fB (Nat.mod_le _ _) (by omega))
  generalize A%(2*d)=a at*
  generalize A/ (2*d)=q at*
  have hq2:2*q < 18446744073709551616:=D7 (by rw [p1]; exact a0n _ _) hq64
  by_cases h2:a < d
  ·have hs:=a3g (ws W32 a) (ws W32 d) (q:Int) (((m+1:Nat):Int)-1) (ws W32 a).length (ws W32 d).length ⟨d9 _,by rw [r8]; exact cd,by rw [r8]; exact u1x a d false (d8 (by omega)),d9 _,d9 _,by rw [r8]; exact car,by rw [r8]; exact cd,hn,a6⟩
   rw [r8,s1b,hw,l1h hq2] at hs
   rw [p1,p2,mK h2,G7 h2,I1]
   exact hs
  ·have hs:=q2p (ws W32 a) (ws W32 d) (q:Int) (((m+1:Nat):Int)-1) (ws W32 a).length (ws W32 d).length ⟨d9 _,by rw [r8]; exact cd,d9 _,d9 _,by rw [r8]; exact car,by rw [r8]; exact cd,by rw [r8,r8]; exact k2z (by omega),by rw [r8]; exact u1x a d true (i6 (by omega)),d9 _,d9 _,by rw [r8]; exact car,by rw [r8]; exact cd,hn,a6⟩
   rw [r8,r8,s1b,p2n,hw,n1m hq2] at hs
   have g1:a/d=1:=by
    rw [Nat.div_eq_iff hd0]
    omega
   have g2:a%d=a-d:=by
    rw [v1o (by omega),G7 (by omega)]
   rw [p1,p2,g1,g2]
   exact hs
theorem c2r {A B M:Nat} (hB:0 < B) (h64:A/B < 18446744073709551616) (hA:bl A<=4000000) (hM:bl (B*2 ^M)<=9000000) (hmm:M < 9000000000):b9 XRn3 cQu (quT A B M) (.exit 0) (quT A B 0):=by
 refine C0 (quT A B) id (fun m=>m<=M) (by intro e; cases e) (fun m hm=> ?_) M (d9 _)
 cases m with
 | zero=>
  right
  unfold quT
  split
  ·exact j2s _ _ _ _ _ _ ⟨d8 (by omega),a6⟩
  ·exact m2a _ _ _ _ _ _ ⟨d8 (by omega),a6⟩
 | succ m=>exact .inl ⟨m,by omega,Q7 m,d2y hB h64 hA (fB (N0 B (y5 (by decide) (show m<=M by omega))) hM) (by omega)⟩
def quN (A B:Nat):Nat:=bl A+1-bl B
theorem e1o {A B:Nat} (hA:bl A<=4000000) (hB:bl B<=4000000):quS (ws W32 A) (ws W32 B)=(quN A B:Int):=by
 have e:quM (ws W32 A) (ws W32 B)=(bl A:Int)-bl B+1:=by
  show iI.wrap (iI.wrap (lnX (ws W32 A)-lnX (ws W32 B))+1)=_
  unfold lnX
  rw [x6 n4,x6 n4]
  have h1:=y3 ((bl A:Int)-bl B)
  have h2:iI.wrap ((bl A:Int)-bl B)=(bl A:Int)-bl B:=by omega
  rw [h2]
  have h3:=y3 ((bl A:Int)-bl B+1)
  omega
 show (if 0 < quM (ws W32 A) (ws W32 B) then quM (ws W32 A) (ws W32 B) else 0)=_
 rw [e]
 unfold quN
 split <;> omega
theorem z1i {A B:Nat} (hB:0 < B):A < B*2 ^(quN A B+1):=by
 have h1:=lZ A
 have h2:=b0a hB
 have h3:=bl_pos.2 hB
 have h4:2 ^bl A<=2 ^(bl B-1)*2 ^(quN A B+1):=by
  rw [<- n9]
  exact y5 (by decide) (by unfold quN; omega)
 exact C8 h1 (x7 h4 (w9 _ h2))
theorem n2t {A B:Nat} (hB:0 < B) (h64:A/B < 18446744073709551616) (hA:bl A<=4000000) (hBl:bl B<=4000000):b9 XRn3 cQu (m8 XRn3 200 228 [nL (ws W32 A),nL (ws W32 B)] []) (.exit 0) (quT A B 0):=by
 refine c2v (ws W32 A) (ws W32 B) ?_
 have hN:quN A B<=4000001:=by unfold quN; omega
 have h:=c2r (M:=quN A B+1) hB h64 hA (by
  have:=m2e hB (quN A B+1)
  omega) (by omega)
 have e:quT A B (quN A B+1)=tQ1 (ws W32 A) (lfX (ws W32 B) (quS (ws W32 A) (ws W32 B))) 0 (quS (ws W32 A) (ws W32 B)) (ws W32 A).length (lfX (ws W32 B) (quS (ws W32 A) (ws W32 B))).length:=by
  unfold quT
  have hlf:lfX (ws W32 B) (quS (ws W32 A) (ws W32 B))=ws W32 (B*2 ^quN A B):=by
   unfold lfX
   rw [x6 n4,e1o hA hBl,g9]
  have e2:B*2 ^(quN A B+1)/2=B*2 ^quN A B:=by
   rw [y8,<- r7,uU _ (by decide)]
  rw [f9 (z1i hB),e2,hlf,e1o hA hBl,show (((quN A B+1:Nat)):Int)-1=(quN A B:Int) by omega]
 rw [<- e]
 exact h
def quI (xs ys:List Int):List Prop:=[ys.length=ys.length,CnN ys,0<=quS xs ys∧quS xs ys < 10000000,ys.length=ys.length,CnN ys,xs.length=xs.length,CnN xs]
section
variable (xs ys zs ds R:List Int) (q r n:Int) (nx nd:Nat)
abbrev quA (xs ys:List Int):List Arg:=[nL xs,nL ys]
abbrev y2k (r:Int):Arg:= .c (.v (.int .u64 r))
theorem y2y:B2 XRn3 [H7 (.exit 0) (fun _=>tQ2 zs ds q n nx nd)] 200 228 (quA xs ys) [y2k r,nL R] [] =some ((b9 XRn3 cQu (m8 XRn3 200 228 (quA xs ys) []) (.exit 0) (tQ2 zs ds q n nx nd)) ::(quI xs ys++[zO2 .u64 q=zO2 .u64 r,nx=R.length∧nx<=zs.length∧zs.take nx=R])):=by kernel_rfl
theorem n2j:m0k XRn3 [H7 (.exit 0) (fun _=>tQ1 zs ds q n nx nd)] 200 228 (M9 (quA xs ys) (K7 XRn3.P.globals.size (y7 (quA xs ys))).1) (K7 XRn3.P.globals.size (y7 (quA xs ys))).2.1 (K7 XRn3.P.globals.size (y7 (quA xs ys))).2.2 [] =
  some ⟨.tuple ⟨[.int .u64 q, .slice (some ⟨11,0,some 12⟩) nx 0]⟩,[(11, .ints .u32 zs)],17,(b9 XRn3 cQu (m8 XRn3 200 228 (quA xs ys) []) (.exit 0) (tQ1 zs ds q n nx nd)) ::quI xs ys,[]⟩:=by kernel_rfl
end
def quK (xs ys:List Int):Prop:=CnN xs∧CnN ys∧0 < val W32 ys∧bl (val W32 xs)<=4000000∧bl (val W32 ys)<=4000000∧val W32 xs/val W32 ys < 18446744073709551616
def LtN (xs ys:List Int):Prop:=val W32 xs < val W32 ys
def qoX (xs ys:List Int):Int:=((val W32 xs/val W32 ys:Nat):Int)
def rmX (xs ys:List Int):List Int:=ws W32 (val W32 xs%val W32 ys)
theorem x1b {xs ys:List Int} (h:quK xs ys):l5 (quI xs ys):=by
 obtain⟨h1,h2,h3,h4,h5,_⟩:=h
 have e:=e1o (A:=val W32 xs) (B:=val W32 ys) h4 h5
 rw [<- h1.1,<- h2.1] at e
 have:quN (val W32 xs) (val W32 ys)<=4000001:=by unfold quN; omega
 exact⟨rfl,h2,by rw [e]; omega,rfl,h2,rfl,h1,a6⟩
theorem w1k {xs ys:List Int} (h:quK xs ys):b9 XRn3 cQu (m8 XRn3 200 228 (quA xs ys) []) (.exit 0) (quT (val W32 xs) (val W32 ys) 0):=by
 obtain⟨h1,h2,h3,h4,h5,h6⟩:=h
 have:=n2t h3 h6 h4 h5
 rw [<- h1.1,<- h2.1] at this
 exact this
theorem o2s {xs ys:List Int} (h:quK xs ys) (hge:¬LtN xs ys):Ev.Sem zO8 J0 228 (quA xs ys) [y2k (qoX xs ys),nL (rmX xs ys)] :=by
 have hr:=w1k h
 unfold quT at hr
 rw [G3,u9,a7 (show ¬val W32 xs < val W32 ys from hge)] at hr
 exact l7 aT 10 _ _ (y2y xs ys _ _ (rmX xs ys) _ (qoX xs ys) _ _ _) ⟨hr,(a8 _ _).2 ⟨x1b h,rfl,⟨rfl,d9 _,r8⟩,a6⟩⟩
def quF (us:List Value):Value:=match us with
 | u ::_=> .tuple ⟨[.int .u64 0,u]⟩
 | [] =>undef
theorem j2y {xs ys:List Int} (h:quK xs ys) (hlt:LtN xs ys):t2b zO8 J0 228 (quA xs ys) quF:=by
 have hr:=w1k h
 unfold quT at hr
 rw [G3,u9,f9 (show val W32 xs < val W32 ys from hlt)] at hr
 have hx:xs=ws W32 (val W32 xs):=h.1.1
 rw [<- hx] at hr
 refine g1h aT 10 _ [] (n2j xs ys xs _ 0 _ _ _) ⟨hr,x1b h⟩ (fun ρ=> ?_)
 show rv ρ (.tuple ⟨[.int .u64 0, .slice (some ⟨11,0,some 12⟩) xs.length 0]⟩)=_
 simp only [rv,rvA,rvL]
 rfl
def q0q:List Arg->Option (List Arg×List Prop)
 | [.c (.s 33 .u32 xs), .c (.s 33 .u32 ys)] =>some ([y2k (qoX xs ys),nL (rmX xs ys)],[quK xs ys,¬LtN xs ys])
 | _=>none
theorem z0o:∀ az rs l,q0q az=some (rs,l)->l5 l->Ev.Sem zO8 J0 228 az rs:=by
 intro az rs l h hl
 unfold q0q at h
 split at h
 ·cases h
  exact o2s hl.1 hl.2.1
 ·cases h
def q0d (args:List Value) (H:Heap) (n:Nat) (ds:List Bool):Option CR:=
 match args with
 | [x,y] =>match o1t H .u32 x,o1t H .u32 y with
  | some (xs,l1),some (ys,l2)=>some ⟨.tuple ⟨[.int .u64 0,x]⟩,H,n,[quK xs ys,LtN xs ys] ++(l1++l2),ds⟩
  | _,_=>none
 | _=>none
theorem z0m:Enters zO8 228:=F2 (u6 aT 10).2 (n2j [] [] [] [] 0 0 0 0)
theorem w0i:V8 zO8 J0 228 q0d:=by
 intro args H n ds r h hl
 unfold q0d at h
 split at h
 case h_2=>cases h
 rename_i x y
 split at h
 case h_2=>cases h
 rename_i xs l1 ys l2 e1 e2
 cases h
 obtain⟨hl1,hl2⟩:=(a8 _ _).1 hl
 obtain⟨k1,k2,_⟩:=hl1
 obtain⟨m1,m2⟩:=(a8 _ _).1 hl2
 refine⟨d9 _,z0m,fun B M ρ w vs hp hB hI hS=> ?_⟩
 obtain⟨hS0,hvs⟩:=hS ρ (Agree.refl _ _)
 have c1:nM w (.s mW .u32 xs) (rv ρ x):=T0 hS0 e1 m1
 have c2:nM w (.s mW .u32 ys) (rv ρ y):=T0 hS0 e2 m2
 have hA:All2 (nM w) (y7 (quA xs ys)) [rv ρ x,rv ρ y] := .cons c1 (.cons c2 .nil)
 have hc:=(j2y k1 k2).2 w _ hI hA
 have ev:vs=M9 (quA xs ys) [rv ρ x,rv ρ y] :=by
  rw [hvs]
  rfl
 rw [ev]
 refine hc.mono fun e w' ⟨he,hb⟩=>⟨ρ,_,Agree.refl _ _,he,u3 hb hB,fun ρ' ha=>⟨?_,(hS ρ' ha).1.below hb⟩⟩
 have e3:=(hS ρ' ha).2
 rw [hvs] at e3
 simp only [rvL,Z7,P3] at e3
 simp only [rv,rvA,rvL,<- e3.1]
 rfl
def i1v:List Value->Heap->Nat->List Bool->Option CR:=oB q0d (A3 [a1g,a1g] q0q)
theorem y0s:V8 zO8 J0 228 i1v:=eV w0i (m9 _ z0o)
def m0x:iV:=o8 228 i1v n0t
theorem a0j:iS zO8 J0 m0x:=j0 y0s a0x
def bRn4:Base:=⟨zO8,J0,false,rH,m0x,200,L7⟩
theorem wJ:BaseOk bRn4:=⟨progOk,M6,a0j,r5⟩
abbrev q2x:=bRn4.cx 10
def e2i:Code:=z8 zO8 202 0
def m1r (Z Y L:List Int) (nz ny nl:Nat) (sh n i:Int):St:=⟨only 102 [(4, .pointer (some ⟨17,0,none⟩)),(5, .pointer (some ⟨18,0,none⟩)),(8, .int .i64 sh),(9,slV 19 ny),(10,slV 21 nz),(11, .int .i64 n),(12,slV 25 nl),(13, .int .i64 i)],[(25, .row bP 1 (.ints .u64 L) 26),(21, .row bP 1 (.ints .u64 Z) 22),(19, .row bP 1 (.ints .u64 Y) 20),(18, .cells [.bool false, .slice none 0 0] rS),(17, .cells [.bool false, .slice none 0 0] rS)],27,[],[],0,none,[],15⟩
def s2g (i n:Int):Nat:=(iI.wrap (iI.wrap (i+n)+1)).toNat-i.toNat
abbrev m0j (a b:Bool) (xs ys:List Int):List Arg:=[iL a xs,iL b ys]
theorem u1i (Z Y L:List Int) (nz ny nl:Nat) (sh n i:Int) (hl:l5 [s4 0 i.toNat < L.length,(zO6 0<=i∧i < zO6 nl)∧0 < L.length,s4 0 i.toNat=s4 0 i.toNat∧(iI.wrap (iI.wrap (i+n)+zO6 1)).toNat-i.toNat=(zO10 ny Y).length.succ,s4 0 i.toNat+((iI.wrap (iI.wrap (i+n)+zO6 1)).toNat-i.toNat)<=Z.length∧Z.length < 1099511627776,Dg 18446744073709551616 Z,Cn (zO10 ny Y),(zO10 ny Y).length < 274877906944,0 < val 18446744073709551616 (zO10 ny Y),s2u Z (zO10 ny Y) (s4 0 i.toNat) ((iI.wrap (iI.wrap (i+n)+zO6 1)).toNat-i.toNat),ny<=Y.length,0=0∧zO6 0<=i∧i<=iI.wrap (iI.wrap (i+n)+zO6 1)∧(i=zO6 0∨i < iI.wrap (iI.wrap (i+n)+zO6 1))∧0+(iI.wrap (iI.wrap (i+n)+zO6 1)).toNat*1<=Z.length,decide (zO6 0<=i)=true]):u4 XW6 e2i (m1r Z Y L nz ny nl sh n i) .normal (m1r (k0f Z (Y.take ny) (s4 0 i.toNat) (s2g i n)) Y (S5 L (s4 0 i.toNat) (a1i Z (Y.take ny) (s4 0 i.toNat) (s2g i n))) nz ny nl sh n (iI.wrap (i-1))):=
 stp bL 10 progOk.mixed [true] [] (by kernel_rfl) hl
theorem g2t (Z Y L:List Int) (nz ny nl:Nat) (sh n i:Int) (hl:l5 [decide (zO6 0<=i)=false]):u4 XW6 e2i (m1r Z Y L nz ny nl sh n i) (.exit 1) (m1r Z Y L nz ny nl sh n i):=
 stp bL 10 progOk.mixed [false] [] (by kernel_rfl) hl
theorem w0b (a b:Bool) (xs ys:List Int):m0k XW6 [] 200 202 (M9 (m0j a b xs ys) (K7 XW6.P.globals.size (y7 (m0j a b xs ys))).1) (K7 XW6.P.globals.size (y7 (m0j a b xs ys))).2.1 (K7 XW6.P.globals.size (y7 (m0j a b xs ys))).2.2 [true] =some { v:=Value.tuple { toList:=[Value.agg { toList:=[zO9 false,Value.slice none 0 0]},Value.agg { toList:=[zO9 a,Value.slice (some { block:=11,off:=0,spot:=some 12 }) xs.length 0]}]},h:=[(11,AObj.ints uI xs),(13,AObj.ints uI ys)],n:=21,obs:=[(match zO6 ys.length==zO6 0 with | true=>true | false=>decide (mS xs ys < 0))=true,(zO6 ys.length==zO6 0)=false,xs.length=xs.length,ys.length=ys.length,Dg 18446744073709551616 xs,Dg 18446744073709551616 ys,xs.length < 1099511627776,ys.length < 1099511627776],ds:=[]} :=by kernel_rfl
theorem r1t (a b s1 s2:Bool) (xs ys Q R:List Int):B2 XW6 [] 200 202 (m0j a b xs ys) [iL s1 Q,iL s2 R] [false,true] =some [zO6 0<=o1s xs (ys.getD (s4 0 0) (zO6 0))∧(o1s xs (ys.getD (s4 0 0) (zO6 0))).toNat < 18446744073709551616,xs.length=xs.length,Cn xs,xs.length < 549755813888,zO6 0 < ys.getD (s4 0 0) (zO6 0)∧(ys.getD (s4 0 0) (zO6 0)).toNat < 18446744073709551616,s4 0 0 < ys.length,(zO6 0<=zO6 0∧zO6 0 < zO6 ys.length)∧0 < ys.length,(zO6 ys.length==zO6 1)=true,(match zO6 ys.length==zO6 0 with | true=>true | false=>decide (mS xs ys < 0))=false,(zO6 ys.length==zO6 0)=false,xs.length=xs.length,ys.length=ys.length,Dg 18446744073709551616 xs,Dg 18446744073709551616 ys,xs.length < 1099511627776,ys.length < 1099511627776,zO9 false=zO9 s1,(d2c xs (ys.getD (s4 0 0) (zO6 0))).length=Q.length∧(d2c xs (ys.getD (s4 0 0) (zO6 0))).length<=(d2c xs (ys.getD (s4 0 0) (zO6 0))).length∧zO10 (d2c xs (ys.getD (s4 0 0) (zO6 0))).length (d2c xs (ys.getD (s4 0 0) (zO6 0)))=Q,zO9 false=zO9 s2,(A1 (o1s xs (ys.getD (s4 0 0) (zO6 0)))).length=R.length∧(A1 (o1s xs (ys.getD (s4 0 0) (zO6 0)))).length<=(A1 (o1s xs (ys.getD (s4 0 0) (zO6 0)))).length∧zO10 (A1 (o1s xs (ys.getD (s4 0 0) (zO6 0)))).length (A1 (o1s xs (ys.getD (s4 0 0) (zO6 0))))=R] :=by kernel_rfl
theorem q1p (a b s1 s2:Bool) (xs ys Q R Z Y L:List Int) (nz ny nl:Nat) (sh n i:Int):B2 XW6 [H7 (.exit 1) (fun _=>m1r Z Y L nz ny nl sh n i)] 200 202 (m0j a b xs ys) [iL s1 Q,iL s2 R] [false,false] =some [(n8 (zO10 nz Z)).length<=Z.length,Cn (zO10 (n8 (zO10 nz Z)).length Z),(zO10 (n8 (zO10 nz Z)).length Z).length < 549755813888,zO6 0<=sh∧sh.toNat < 64,0=0∧0+nz<=Z.length∧Z.length < 1099511627776,0=0∧0+nl<=L.length∧L.length < 1099511627776,b9 XW6 e2i (m8 XW6 200 202 (m0j a b xs ys) [false,false]) (.exit 1) (m1r Z Y L nz ny nl sh n i),zO6 0<=iI.wrap (zO6 (iI.wrap (zO6 xs.length.succ)).toNat-zO6 (r9 ys (iI.wrap (zO6 64-I6 (ys.getD (s4 0 (iI.wrap (zO6 ys.length-zO6 1)).toNat) (zO6 0))))).length)∧iI.wrap (zO6 (iI.wrap (zO6 xs.length.succ)).toNat-zO6 (r9 ys (iI.wrap (zO6 64-I6 (ys.getD (s4 0 (iI.wrap (zO6 ys.length-zO6 1)).toNat) (zO6 0))))).length)=iI.wrap (zO6 (iI.wrap (zO6 xs.length.succ)).toNat-zO6 (r9 ys (iI.wrap (zO6 64-I6 (ys.getD (s4 0 (iI.wrap (zO6 ys.length-zO6 1)).toNat) (zO6 0))))).length)∧zO6 8*iI.wrap (zO6 (iI.wrap (zO6 xs.length.succ)).toNat-zO6 (r9 ys (iI.wrap (zO6 64-I6 (ys.getD (s4 0 (iI.wrap (zO6 ys.length-zO6 1)).toNat) (zO6 0))))).length)<=zO6 281474976710656∧iI.wrap (zO6 (iI.wrap (zO6 xs.length.succ)).toNat-zO6 (r9 ys (iI.wrap (zO6 64-I6 (ys.getD (s4 0 (iI.wrap (zO6 ys.length-zO6 1)).toNat) (zO6 0))))).length)<=zO6 9223372036854775807,0 < (r9 xs (iI.wrap (zO6 64-I6 (ys.getD (s4 0 (iI.wrap (zO6 ys.length-zO6 1)).toNat) (zO6 0))))).length∧(r9 xs (iI.wrap (zO6 64-I6 (ys.getD (s4 0 (iI.wrap (zO6 ys.length-zO6 1)).toNat) (zO6 0))))).length<=(iI.wrap (zO6 xs.length.succ)).toNat∧0+(r9 xs (iI.wrap (zO6 64-I6 (ys.getD (s4 0 (iI.wrap (zO6 ys.length-zO6 1)).toNat) (zO6 0))))).length<=(zO7 (iI.wrap (↑xs.length+1)).toNat (0:Int)).length∧0+(r9 xs (iI.wrap (zO6 64-I6 (ys.getD (s4 0 (iI.wrap (zO6 ys.length-zO6 1)).toNat) (zO6 0))))).length<=(r9 xs (iI.wrap (zO6 64-I6 (ys.getD (s4 0 (iI.wrap (zO6 ys.length-zO6 1)).toNat) (zO6 0))))).length,xs.length=xs.length,Cn xs,xs.length < 549755813888,zO6 0<=iI.wrap (zO6 64-I6 (ys.getD (s4 0 (iI.wrap (zO6 ys.length-zO6 1)).toNat) (zO6 0)))∧(iI.wrap (zO6 64-I6 (ys.getD (s4 0 (iI.wrap (zO6 ys.length-zO6 1)).toNat) (zO6 0)))).toNat < 549755813888,zO6 0<=iI.wrap (zO6 xs.length.succ)∧iI.wrap (zO6 xs.length.succ)=iI.wrap (zO6 xs.length.succ)∧zO6 8*iI.wrap (zO6 xs.length.succ)<=zO6 281474976710656∧iI.wrap (zO6 xs.length.succ)<=zO6 9223372036854775807,ys.length=ys.length,Cn ys,ys.length < 549755813888,zO6 0<=iI.wrap (zO6 64-I6 (ys.getD (s4 0 (iI.wrap (zO6 ys.length-zO6 1)).toNat) (zO6 0)))∧(iI.wrap (zO6 64-I6 (ys.getD (s4 0 (iI.wrap (zO6 ys.length-zO6 1)).toNat) (zO6 0)))).toNat < 549755813888,zO6 0<=ys.getD (s4 0 (iI.wrap (zO6 ys.length-zO6 1)).toNat) (zO6 0)∧ys.getD (s4 0 (iI.wrap (zO6 ys.length-zO6 1)).toNat) (zO6 0) < zO6 18446744073709551616,s4 0 (iI.wrap (zO6 ys.length-zO6 1)).toNat < ys.length,(zO6 0<=iI.wrap (zO6 ys.length-zO6 1)∧iI.wrap (zO6 ys.length-zO6 1) < zO6 ys.length)∧0 < ys.length,(zO6 ys.length==zO6 1)=false,(match zO6 ys.length==zO6 0 with | true=>true | false=>decide (mS xs ys < 0))=false,(zO6 ys.length==zO6 0)=false,xs.length=xs.length,ys.length=ys.length,Dg 18446744073709551616 xs,Dg 18446744073709551616 ys,xs.length < 1099511627776,ys.length < 1099511627776,zO9 false=zO9 s1,(n8 (zO10 nl L)).length=Q.length∧(n8 (zO10 nl L)).length<=L.length∧zO10 (n8 (zO10 nl L)).length L=Q,zO9 (h0a false (f1c (zO10 (n8 (zO10 nz Z)).length Z) sh))=zO9 s2,(f1c (zO10 (n8 (zO10 nz Z)).length Z) sh).length=R.length∧(f1c (zO10 (n8 (zO10 nz Z)).length Z) sh).length<=(f1c (zO10 (n8 (zO10 nz Z)).length Z) sh).length∧zO10 (f1c (zO10 (n8 (zO10 nz Z)).length Z) sh).length (f1c (zO10 (n8 (zO10 nz Z)).length Z) sh)=R] :=by kernel_rfl
structure QPl where
 k:Nat
 Z:List Int
 L:List Int
def a1h (Y:List Int) (n:Nat) (p:QPl):QPl:=⟨p.k-1,k0f p.Z Y (p.k-1) (n+1),S5 p.L (p.k-1) (a1i p.Z Y (p.k-1) (n+1))⟩
def g1v (D N m nl:Nat) (p:QPl):Prop:=
 p.k<=nl∧p.Z.length=m+1∧Dg W64 p.Z∧val W64 (p.Z.drop p.k) < D∧p.L.length=nl∧Dg W64 p.L∧N=val W64 p.Z+D*(val W64 (p.L.drop p.k)*W64 ^p.k)
theorem p1t {l:List Int} {k:Nat} (h:k < l.length) (x:Int):(l.set k x).drop k=x ::l.drop (k+1):=by
 rw [y0l (by simpa using h)]
 simp [List.drop_set]
theorem k0e {D N m nl n:Nat} {Y:List Int} (hY:val W64 Y=D) (hD:0 < D) (hDn:D < W64 ^n) (hnl:nl+n=m+1) {p:QPl} (h:g1v D N m nl p) (hk:0 < p.k):
  s2u p.Z Y (p.k-1) (n+1)∧p.k-1+(n+1)<=p.Z.length∧g1v D N m nl (a1h Y n p):=by
 obtain⟨h1,h2,h3,h4,h5,h6,h7⟩:=h
 obtain⟨k',Z,L⟩:=p
 simp only at h1 h2 h3 h4 h5 h6 h7 hk
 obtain⟨k,rfl⟩:∃ k,k'=k+1:=⟨k'-1,by omega⟩
 simp only [a1h,zQ]
 have hlen:k+(n+1)<=Z.length:=by omega
 have hz:val W64 (Z.drop (k+(n+1)))=0:=by
  have e:=A5 W64 (Z.drop (k+1)) n (by rw [C2]; omega)
  rw [pT,show k+1+n=k+(n+1) by omega] at e
  rcases Q5 (val W64 (Z.drop (k+(n+1)))) with h | h
  ·exact h
  ·have:=Nat.le_mul_of_pos_right (W64 ^n) h
   omega
 have hP:val W64 (Z.drop k)=val W64 (part Z k (n+1)):=by
  have e:=A5 W64 (Z.drop k) (n+1) (by rw [C2]; omega)
  rw [pT,hz,lM,I1] at e
  exact e
 have hP2:val W64 (Z.drop k)=(Z.getD k 0).toNat+W64*val W64 (Z.drop (k+1)):=by
  rw [E4 (l:=Z) (m:=k) (by omega)]
  rfl
 have hone:val W64 (part Z k (n+1)) < D*W64:=by
  rw [<- hP,hP2]
  have g:=h3.get m7 k
  have g1:(Z.getD k 0).toNat < W64:=by omega
  have:W64*(val W64 (Z.drop (k+1))+1)<=W64*D:=N0 _ h4
  rw [R4,u9] at this
  rw [t7 D]
  omega
 have hmod:val W64 (part Z k (n+1))%D < D:=F7 _ hD
 have hpow:W64 ^n<=W64 ^(n+1):=d0e (Nat.le_succ n)
 have htk:(Z.take k).length=k:=by rw [E0]; omega
 have hZ'd:(k0f Z Y k (n+1)).drop k=dl W64 (n+1) (val W64 (part Z k (n+1))%D)++Z.drop (k+(n+1)):=by
  unfold k0f
  rw [hY,lU,List.drop_append_of_le_length (by omega),Y6 (by omega),pF]
 have hZ't:(k0f Z Y k (n+1)).take k=Z.take k:=by
  unfold k0f
  rw [lU,s0c (by omega),O9 (by omega)]
 have hZ'v:val W64 ((k0f Z Y k (n+1)).drop k)=val W64 (part Z k (n+1))%D:=by
  rw [hZ'd,S8,hz,lM,I1,H5]
  exact G7 (by omega)
 have hq:val W64 (part Z k (n+1))/D < W64:=(D9 hD).2 (by rw [t7]; exact hone)
 refine⟨by unfold s2u; rw [hY]; exact hone,hlen,by simp only; omega,?_,?_,?_,?_,?_,?_⟩
 ·simp only
  rw [kI Y hlen]
  exact h2
 ·simp only
  unfold k0f
  exact ((h3.take _).append (Q0 m7 _ _)).append (h3.drop _)
 ·simp only
  rw [hZ'v]
  exact hmod
 ·simp only
  rw [A0]
  simp [h5]
 ·simp only
  rw [A0]
  exact h6.set ⟨by unfold a1i; exact w7 _,by unfold a1i; rw [hY]; exact_mod_cast hq⟩ _
 ·simp only
  have e1:=A5 W64 (k0f Z Y k (n+1)) k (by rw [kI Y hlen]; omega)
  rw [hZ't,hZ'v] at e1
  have e2:=A5 W64 Z k (by omega)
  rw [hP] at e2
  have e3:val W64 ((S5 L k (a1i Z Y k (n+1))).drop k)=val W64 (part Z k (n+1))/D+W64*val W64 (L.drop (k+1)):=by
   rw [A0,p1t (by omega)]
   simp only [val]
   unfold a1i
   rw [hY,g9]
  rw [e1,e3,h7,e2]
  have e4:=bV (val W64 (part Z k (n+1))) D
  generalize val W64 (part Z k (n+1))/D=q at*
  generalize val W64 (part Z k (n+1))%D=r at*
  generalize val W64 (L.drop (k+1))=T
  rw [<- e4,y8]
  generalize W64 ^k=w
  rw [A7 q,R4 D,R4 w (D*q)]
  have a1:w*(D*q)=D*(q*w):=by rw [t7,r7]
  have a2:D*(T*(w*W64))=D*(W64*T*w):=by congr 1; rw [t7 w,<- r7,t7 T]
  omega
theorem d1w {D N m nl n:Nat} {Y:List Int} (hY:val W64 Y=D) (hD:0 < D) (hDn:D < W64 ^n) (hnl:nl+n=m+1) {p:QPl} (h:g1v D N m nl p):∀ j,j<=p.k->g1v D N m nl (itr (a1h Y n) j p)∧(itr (a1h Y n) j p).k=p.k-j
 | 0,_=>⟨h,rfl⟩
 | j+1,hj=>by
  obtain⟨g1,g2⟩:=d1w hY hD hDn hnl h j (by omega)
  refine⟨(k0e hY hD hDn hnl g1 (by rw [g2]; omega)).2.2,?_⟩
  show (itr (a1h Y n) j p).k-1=_
  rw [g2]
  omega
def shQ (ys:List Int):Int:=iI.wrap (64-I6 (ys.getD (s4 0 (iI.wrap (zO6 ys.length-zO6 1)).toNat) 0))
def nlQ (xs ys:List Int):Int:=iI.wrap (zO6 (iI.wrap (zO6 xs.length.succ)).toNat-zO6 (r9 ys (shQ ys)).length)
def z0Q (xs ys:List Int):List Int:=[] ++((r9 xs (shQ ys)).drop 0).take (r9 xs (shQ ys)).length++(zO7 (iI.wrap (zO6 xs.length.succ)).toNat 0).drop (0+(r9 xs (shQ ys)).length)
theorem u1v (a b:Bool) (xs ys:List Int) (x:AX) (s':St) (h:b9 XW6 e2i (m1r (z0Q xs ys) (r9 ys (shQ ys)) (zO7 (nlQ xs ys).toNat 0) (iI.wrap (zO6 xs.length.succ)).toNat (r9 ys (shQ ys)).length (nlQ xs ys).toNat (shQ ys) (r9 ys (shQ ys)).length (iI.wrap (zO6 (nlQ xs ys).toNat-1))) x s'):
  b9 XW6 e2i (m8 XW6 200 202 (m0j a b xs ys) [false,false]) x s':=
 l9 h []
theorem v0s {ys:List Int} (hy:Cn ys) (hp:0 < ys.length):∃ t:Nat,ys.getD (ys.length-1) 0=(t:Int)∧0 < t∧t < W64∧t*W64 ^(ys.length-1)<=val W64 ys∧val W64 ys < (t+1)*W64 ^(ys.length-1):=by
 have g:=hy.dg.get m7 (ys.length-1)
 have e:=A5 W64 ys (ys.length-1) (by omega)
 rw [E4 (l:=ys) (m:=ys.length-1) (by omega),b0g hp,Y6 (d9 _)] at e
 simp only [val,lM,I1] at e
 have l1:=E8 m7 (hy.dg.take (ys.length-1))
 rw [E0,C6 (by omega)] at l1
 refine⟨(ys.getD (ys.length-1) 0).toNat,by omega,?_,by omega,?_,?_⟩
 ·rcases Q5 (ys.getD (ys.length-1) 0).toNat with h | h
  ·rw [h,lM,I1] at e
   have h1:ys.length<=ys.length-1:=by
    have:wl (val W64 ys)<=ys.length-1:=wl_le.2 (by rw [e]; exact l1)
    unfold wl at this
    rw [<- hy] at this
    exact this
   omega
  ·exact h
 ·rw [t7,e]
  exact Nat.le_add_left _ _
 ·rw [A7,P7,t7,e]
  generalize W64 ^(ys.length-1)*(ys.getD (ys.length-1) 0).toNat=q at*
  omega
theorem zU {t:Nat} (h0:0 < t) (h1:t < W64):0 < bl t∧bl t<=64∧2 ^63<=t*2 ^(64-bl t)∧(t+1)*2 ^(64-bl t)<=W64:=by
 have hW:(2:Nat) ^64=W64:=by decide
 have hb:bl t<=64:=bl_le.2 (by rw [hW]; exact h1)
 have hp:=bl_pos.2 h0
 have h2:=b0a h0
 have h3:=lZ t
 refine⟨hp,hb,?_,?_⟩
 ·have:2 ^(bl t-1)*2 ^(64-bl t)=2 ^63:=by rw [<- n9]; congr 1; omega
  rw [<- this]
  exact w9 _ h2
 ·have:2 ^bl t*2 ^(64-bl t)=W64:=by rw [<- n9,<- hW]; congr 1; omega
  rw [<- this]
  exact w9 _ h3
theorem c1z {ys:List Int} (hy:Cn ys) (hp:0 < ys.length) (hl:ys.length < 274877906944):∃ s:Nat,shQ ys=(s:Int)∧s<=63∧r9 ys (shQ ys)=ws W64 (val W64 ys*2 ^s)∧wl (val W64 ys*2 ^s)=ys.length∧2 ^63*W64 ^(ys.length-1)<=val W64 ys*2 ^s:=by
 obtain⟨t,e1,e2,e3,e4,e5⟩:=v0s hy hp
 obtain⟨b1,b2,b3,b4⟩:=zU e2 e3
 have hw:iI.wrap (zO6 ys.length-zO6 1)=((ys.length-1:Nat):Int):=by
  have h1:=t8 (n:=ys.length-1) (by omega)
  rw [<- h1]
  congr 1
  simp only [B4]
  omega
 have eS:shQ ys=((64-bl t:Nat):Int):=by
  unfold shQ
  rw [hw,q9,g9,I0,e1]
  unfold I6
  rw [g9]
  have h1:=t8 (n:=64-bl t) (by omega)
  rw [<- h1]
  congr 1
  omega
 refine⟨64-bl t,eS,by omega,?_,?_,?_⟩
 ·rw [eS]
  unfold r9
  rw [g9]
 ·have hlt:val W64 ys*2 ^(64-bl t) < W64 ^ys.length:=by
   have q1:val W64 ys*2 ^(64-bl t) < (t+1)*W64 ^(ys.length-1)*2 ^(64-bl t):=P4 e5 (H4 _)
   have q2:(t+1)*W64 ^(ys.length-1)*2 ^(64-bl t)=(t+1)*2 ^(64-bl t)*W64 ^(ys.length-1):=by rw [r7,t7 (W64 ^_),<- r7]
   have q3:=w9 (W64 ^(ys.length-1)) b4
   have q4:W64*W64 ^(ys.length-1)=W64 ^ys.length:=by rw [t7,<- y8]; congr 1; omega
   omega
  have h1:wl (val W64 ys*2 ^(64-bl t))<=ys.length:=wl_le.2 hlt
  have h2:wl (val W64 ys)<=wl (val W64 ys*2 ^(64-bl t)):=gU (Nat.le_mul_of_pos_right _ (H4 _))
  have h3:wl (val W64 ys)=ys.length:=by unfold wl; rw [<- hy]
  omega
 ·have q1:=w9 (2 ^(64-bl t)) e4
  have q2:t*W64 ^(ys.length-1)*2 ^(64-bl t)=t*2 ^(64-bl t)*W64 ^(ys.length-1):=by rw [r7,t7 (W64 ^_),<- r7]
  have q3:=w9 (W64 ^(ys.length-1)) b3
  omega
section
variable {xs ys:List Int} (hx:Cn xs) (hy:Cn ys) (hxl:xs.length < 274877906944) (hp:0 < ys.length) (hle:val W64 ys<=val W64 xs)
include hx hy hxl hp hle
theorem e0o:ys.length<=xs.length∧0 < val W64 ys:=by
 have _:=hxl
 have h1:wl (val W64 ys)<=wl (val W64 xs):=gU hle
 have e1:wl (val W64 ys)=ys.length:=by unfold wl; rw [<- hy]
 have e2:wl (val W64 xs)=xs.length:=by unfold wl; rw [<- hx]
 exact⟨by omega,wl_pos.1 (by omega)⟩
theorem l0v {s:Nat} (eS:shQ ys=(s:Int)) (hs:s<=63) (eY:r9 ys (shQ ys)=ws W64 (val W64 ys*2 ^s)) (hn:wl (val W64 ys*2 ^s)=ys.length) (htop:2 ^63*W64 ^(ys.length-1)<=val W64 ys*2 ^s):
  iI.wrap (zO6 xs.length.succ)=((xs.length+1:Nat):Int)∧nlQ xs ys=((xs.length+1-ys.length:Nat):Int)∧(0 < (r9 xs (shQ ys)).length∧(r9 xs (shQ ys)).length<=xs.length+1)∧
  g1v (val W64 ys*2 ^s) (val W64 xs*2 ^s) xs.length (xs.length+1-ys.length) ⟨xs.length+1-ys.length,z0Q xs ys,zO7 (xs.length+1-ys.length) 0⟩:=by
 obtain⟨hlen,hB⟩:=e0o hx hy hxl hp hle
 have e1:iI.wrap (zO6 xs.length.succ)=((xs.length+1:Nat):Int):=t8 (n:=xs.length+1) (by omega)
 have e2:nlQ xs ys=((xs.length+1-ys.length:Nat):Int):=by
  unfold nlQ
  rw [e1,eY]
  have hn':(ws W64 (val W64 ys*2 ^s)).length=ys.length:=hn
  rw [hn']
  have h1:=t8 (n:=xs.length+1-ys.length) (by omega)
  rw [<- h1]
  congr 1
  simp only [g9,B4]
  omega
 have eX:r9 xs (shQ ys)=ws W64 (val W64 xs*2 ^s):=by
  rw [eS]
  unfold r9
  rw [g9]
 have hA:val W64 xs < W64 ^xs.length:=E8 m7 hx.dg
 have h2s:(2:Nat) ^s<=2 ^63:=y5 (by decide) hs
 have hN1:val W64 xs*2 ^s < W64 ^xs.length*2 ^63:=C8 (P4 hA (H4 _)) (N0 _ h2s)
 have hN:val W64 xs*2 ^s < W64 ^(xs.length+1):=by
  rw [y8]
  refine C8 hN1 (N0 _ (by decide))
 have hl1:wl (val W64 xs*2 ^s)<=xs.length+1:=wl_le.2 hN
 have hl2:0 < wl (val W64 xs*2 ^s):=wl_pos.2 (F0 (by omega) (H4 _))
 have ez:z0Q xs ys=ws W64 (val W64 xs*2 ^s)++zO7 (xs.length+1-wl (val W64 xs*2 ^s)) 0:=by
  unfold z0Q
  rw [eX,e1,pF,U8,r8,List.drop_replicate,g9,I0]
 have hzl:(z0Q xs ys).length=xs.length+1:=by
  rw [ez]
  simp only [G8,bH]
  show wl _+_=_
  omega
 have hzd:Dg W64 (z0Q xs ys):=by
  rw [ez]
  exact (j0n _).append (H8 _ m7 _)
 have hzv:val W64 (z0Q xs ys)=val W64 xs*2 ^s:=by
  rw [ez,S8,B5,O4,lM,I1]
 refine⟨e1,e2,⟨by rw [eX]; exact hl2,by rw [eX]; exact hl1⟩,d9 _,hzl,hzd,?_,by simp,H8 _ m7 _,?_⟩
 ·simp only
  have e:=A5 W64 (z0Q xs ys) (xs.length+1-ys.length) (by omega)
  rw [hzv] at e
  have q1:=w9 (W64 ^(xs.length+1-ys.length)) htop
  have q2:2 ^63*W64 ^(ys.length-1)*W64 ^(xs.length+1-ys.length)=W64 ^xs.length*2 ^63:=by
   rw [r7,<- n9,t7]
   congr 2
   omega
  rw [q2] at q1
  have q3:W64 ^(xs.length+1-ys.length)*val W64 ((z0Q xs ys).drop (xs.length+1-ys.length)) < W64 ^(xs.length+1-ys.length)*(val W64 ys*2 ^s):=by
   rw [t7 _ (val W64 ys*2 ^s)]
   generalize W64 ^(xs.length+1-ys.length)*val W64 ((z0Q xs ys).drop (xs.length+1-ys.length))=u at*
   omega
  exact Nat.lt_of_mul_lt_mul_left q3
 ·simp only
  rw [hzv,Y6 (by simp)]
  simp [val]
theorem p1o {s:Nat} (eS:shQ ys=(s:Int)) (hs:s<=63) (eY:r9 ys (shQ ys)=ws W64 (val W64 ys*2 ^s)) (hn:wl (val W64 ys*2 ^s)=ys.length) (htop:2 ^63*W64 ^(ys.length-1)<=val W64 ys*2 ^s):
  ∃ Z L,b9 XW6 e2i (m1r (z0Q xs ys) (r9 ys (shQ ys)) (zO7 (nlQ xs ys).toNat 0) (iI.wrap (zO6 xs.length.succ)).toNat (r9 ys (shQ ys)).length (nlQ xs ys).toNat (shQ ys) (r9 ys (shQ ys)).length (iI.wrap (zO6 (nlQ xs ys).toNat-1))) (.exit 1)
   (m1r Z (r9 ys (shQ ys)) L (xs.length+1) ys.length (xs.length+1-ys.length) s ys.length (-1))∧
   Z.length=xs.length+1∧L.length=xs.length+1-ys.length∧Dg W64 Z∧Dg W64 L∧val W64 L=val W64 xs/val W64 ys∧val W64 Z=val W64 xs%val W64 ys*2 ^s:=by
 obtain⟨hlen,hB⟩:=e0o hx hy hxl hp hle
 obtain⟨e1,e2,_,hg0⟩:=l0v hx hy hxl hp hle eS hs eY hn htop
 have hD:0 < val W64 ys*2 ^s:=F0 hB (H4 _)
 have hYv:val W64 (r9 ys (shQ ys))=val W64 ys*2 ^s:=by rw [eY,B5]
 have hYl:(r9 ys (shQ ys)).length=ys.length:=by rw [eY]; exact hn
 have hDn:val W64 ys*2 ^s < W64 ^ys.length:=by rw [<- hn]; exact n0l _
 have hall:=d1w (n:=ys.length) hYv hD hDn (show xs.length+1-ys.length+ys.length=xs.length+1 by omega) hg0
 have hYc:Cn (r9 ys (shQ ys)):=by rw [eY]; exact Cn.ws _
 generalize hp0:(⟨xs.length+1-ys.length,z0Q xs ys,zO7 (xs.length+1-ys.length) 0⟩:QPl)=p0 at*
 have hp0k:p0.k=xs.length+1-ys.length:=by rw [<- hp0]
 rw [hp0k] at hall
 have hi0:iI.wrap (zO6 (xs.length+1-ys.length)-1)=((xs.length+1-ys.length:Nat):Int)-1:=by
  have:=y3 (zO6 (xs.length+1-ys.length)-1)
  simp only [B4] at*
  omega
 generalize hY:r9 ys (shQ ys)=Y at*
 have hrun:=x5 (X:=XW6) (c:=e2i) (x:= .exit 1) (fun j=>m1r (itr (a1h Y ys.length) j p0).Z Y (itr (a1h Y ys.length) j p0).L (xs.length+1) ys.length (xs.length+1-ys.length) s ys.length (((xs.length+1-ys.length:Nat):Int)-1- (j:Int)))
  (xs.length+1-ys.length) (s':=m1r (itr (a1h Y ys.length) (xs.length+1-ys.length) p0).Z Y (itr (a1h Y ys.length) (xs.length+1-ys.length) p0).L (xs.length+1) ys.length (xs.length+1-ys.length) s ys.length (-1)) (by intro e; cases e) (fun j hj=> ?_) ?_
 ·obtain⟨f1,f2⟩:=hall (xs.length+1-ys.length) (d9 _)
  rw [L0] at f2
  obtain⟨g1,g2,g3,g4,g5,g6,g7⟩:=f1
  rw [f2] at g4 g7
  simp only [U8,G3,u9] at g4 g7
  refine⟨_,_,?_,g2,g5,g3,g6,?_,?_⟩
  ·rw [e1,e2,eS,hYl]
   simp only [g9]
   rw [hi0]
   have h0:itr (a1h Y ys.length) 0 p0=p0:=rfl
   simp only [h0] at hrun
   have hz0:((xs.length+1-ys.length:Nat):Int)-1- ((0:Nat):Int)=((xs.length+1-ys.length:Nat):Int)-1:=by omega
   rw [hz0,<- hp0] at hrun
   simp only at hrun
   rw [<- hp0]
   exact hrun
  ·have q1:val W64 xs*2 ^s/ (val W64 ys*2 ^s)=val W64 xs/val W64 ys:=lH _ _ (H4 _)
   rw [<- q1,g7,gC _ _ hD,mK g4,I0]
  ·have q1:val W64 xs*2 ^s%(val W64 ys*2 ^s)=val W64 xs%val W64 ys*2 ^s:=qI _ _ _
   rw [<- q1,g7,jU,G7 g4]
 ·obtain⟨f1,f2⟩:=hall j (by omega)
  obtain⟨r1,r2,r3⟩:=k0e (n:=ys.length) hYv hD hDn (show xs.length+1-ys.length+ys.length=xs.length+1 by omega) f1 (by rw [f2]; omega)
  obtain⟨g1,g2,g3,g4,g5,g6,g7⟩:=f1
  simp only [itr]
  generalize itr (a1h Y ys.length) j p0=p at*
  obtain⟨k,hk⟩:∃ k,p.k=k+1:=⟨p.k-1,by omega⟩
  rw [hk,zQ] at r1 r2
  have ei:((xs.length+1-ys.length:Nat):Int)-1- (j:Int)=(k:Int):=by omega
  have ei2:((xs.length+1-ys.length:Nat):Int)-1- ((j+1:Nat):Int)=(k:Int)-1:=by omega
  rw [ei,ei2]
  unfold a1h
  rw [hk,zQ]
  have eE:iI.wrap (iI.wrap ((k:Int)+(ys.length:Int))+1)=((k+ys.length+1:Nat):Int):=by
   have h1:=t8 (n:=k+ys.length) (by omega)
   rw [dZ] at h1
   rw [h1]
   have h2:=t8 (n:=k+ys.length+1) (by omega)
   rw [<- h2]
   congr 1
  have eM:s2g (k:Int) (ys.length:Int)=ys.length+1:=by
   unfold s2g
   rw [eE]
   simp only [g9]
   omega
  have eA:s4 0 (k:Int).toNat=k:=by rw [q9,g9,I0]
  have eW:iI.wrap ((k:Int)-1)=(k:Int)-1:=by
   have:=y3 ((k:Int)-1)
   omega
  have eT:Y.take ys.length=Y:=by rw [<- hYl]; exact r8
  have hstep:=u1i p.Z Y p.L (xs.length+1) ys.length (xs.length+1-ys.length) s ys.length k
  rw [eM,eA,eW,eT] at hstep
  have eM2:(iI.wrap (iI.wrap ((k:Int)+(ys.length:Int))+zO6 1)).toNat- ((k:Int)).toNat=ys.length+1:=eM
  have eE2:iI.wrap (iI.wrap ((k:Int)+(ys.length:Int))+zO6 1)=((k+ys.length+1:Nat):Int):=eE
  have eYl:Y.length=ys.length:=hYl
  have k0:zO6 0<=(k:Int):=zzA207.2 (s6 _)
  have kl:k < xs.length+1-ys.length:=by omega
  rw [eM2] at hstep
  rw [eE2] at hstep
  refine hstep ⟨by omega,⟨⟨k0,zzA208.2 kl⟩,by omega⟩,⟨rfl,by rw [eYl]⟩,⟨r2,by omega⟩,g3,hYc,by omega,?_,r1,by omega,⟨rfl,k0,zzA207.2 (by omega), .inr (zzA208.2 (by omega)),?_⟩,i6 k0,a6⟩
  ·rw [hYv]
   exact hD
  ·rw [g9]
   omega
 ·obtain⟨f1,f2⟩:=hall (xs.length+1-ys.length) (d9 _)
  have ez:((xs.length+1-ys.length:Nat):Int)-1- ((xs.length+1-ys.length:Nat):Int)= -1:=by omega
  simp only [ez]
  exact g2t _ Y _ _ _ _ _ _ (-1) ⟨by decide,a6⟩
end
theorem p1u {xs ys:List Int} (hx:Cn xs) (hy:Cn ys):(mS xs ys < 0↔val W64 xs < val W64 ys):=by
 have:=q1r (val W64 xs) (val W64 ys)
 unfold Cn at hx hy
 rw [<- hx,<- hy] at this
 exact this
theorem t0x {xs ys:List Int} (hx:Cn xs) (hy:Cn ys) (hp:0 < ys.length) (b:Bool) (hb:decide (val W64 xs < val W64 ys)=b):
  (match zO6 ys.length==zO6 0 with | true=>true | false=>decide (mS xs ys < 0))=b∧(zO6 ys.length==zO6 0)=false:=by
 have h0:(zO6 ys.length==zO6 0)=false:=by
  simp only [beq_eq_false_iff_ne,ne_eq,zO6.injEq]
  omega
 rw [h0]
 refine⟨?_,rfl⟩
 show decide (mS xs ys < 0)=b
 rw [<- hb]
 exact zzA179.2 (p1u hx hy)
theorem g2e (a b:Bool) {xs ys:List Int} (hx:Cn xs) (hy:Cn ys) (hxl:xs.length < 274877906944) (hp:0 < ys.length) (hle:val W64 ys<=val W64 xs):
  Ev.Sem zO8 J0 202 (m0j a b xs ys) [iW false (ws W64 (val W64 xs/val W64 ys)),iW false (ws W64 (val W64 xs%val W64 ys))] :=by
 obtain⟨hlen,hB⟩:=e0o hx hy hxl hp hle
 obtain⟨hc,h0⟩:=t0x hx hy hp false (d8 (by omega))
 by_cases h1:ys.length=1
 ·
  have hone:(zO6 ys.length==zO6 1)=true:=by rw [h1]; rfl
  have hg:=hy.dg.get m7 0
  have hd:(ys.getD 0 0).toNat=val W64 ys:=by
   match ys,h1 with
   | [y],_=>simp [val]
  have ea:s4 0 0=0:=rfl
  have hdW:(ys.getD 0 0).toNat < W64:=by omega
  have eq:d2c xs (ys.getD (s4 0 0) (zO6 0))=ws W64 (val W64 xs/val W64 ys):=by
   show ws W64 (val W64 xs/ (ys.getD 0 0).toNat)=_
   rw [hd]
  have er:o1s xs (ys.getD (s4 0 0) (zO6 0))=((val W64 xs%val W64 ys:Nat):Int):=by
   show ((val W64 xs%(ys.getD 0 0).toNat:Nat):Int)=_
   rw [hd]
  have ew:A1 (o1s xs (ys.getD (s4 0 0) (zO6 0)))=ws W64 (val W64 xs%val W64 ys):=by
   rw [er]
   unfold A1
   rw [g9]
  have hrW:val W64 xs%val W64 ys < W64:=wC (F7 _ hB) (by rw [<- hd]; exact hdW)
  refine l7 bL 10 _ _ (r1t a b false false xs ys _ _) ⟨?_,rfl,hx,by omega,?_,by rw [ea]; omega,⟨⟨by simp,by rw [h1]; decide⟩,hp⟩,hone,hc,h0,rfl,rfl,hx.dg,hy.dg,by omega,by omega,rfl,?_,rfl,?_,a6⟩
  ·rw [er,g9]
   exact⟨zzA207.2 (s6 _),hrW⟩
  ·show zO6 0 < ys.getD 0 0∧(ys.getD 0 0).toNat < _
   exact⟨by simp only [B4]; omega,hdW⟩
  ·rw [eq,r8]
   exact⟨rfl,d9 _,rfl⟩
  ·rw [ew,r8]
   exact⟨rfl,d9 _,rfl⟩
 ·obtain⟨s,eS,hs,eY,hn,htop⟩:=c1z hy hp (by omega)
  obtain⟨e1,e2,e3,_⟩:=l0v hx hy hxl hp hle eS hs eY hn htop
  obtain⟨Z,L,hL,zl,ll,zd,ld,lv,zv⟩:=p1o hx hy hxl hp hle eS hs eY hn htop
  have hone:(zO6 ys.length==zO6 1)=false:=by
   simp only [beq_eq_false_iff_ne,ne_eq,zO6.injEq]
   exact h1
  have etZ:zO10 (xs.length+1) Z=Z:=by rw [<- zl]; exact r8
  have etL:zO10 (xs.length+1-ys.length) L=L:=by rw [<- ll]; exact r8
  have tz:=L8 (E1 F5 zd)
  have tl:=L8 (E1 F5 ld)
  have eR:f1c (zO10 (n8 (zO10 (xs.length+1) Z)).length Z) (s:Int)=ws W64 (val W64 xs%val W64 ys):=by
   rw [etZ,tz.2.2]
   unfold f1c
   rw [B5,zv,g9,uU _ (H4 _)]
  have eN8:(zO6 0<=nlQ xs ys∧nlQ xs ys=nlQ xs ys∧zO6 8*nlQ xs ys<=zO6 281474976710656∧nlQ xs ys<=zO6 9223372036854775807):=by
   rw [e2]
   refine⟨zzA207.2 (s6 _),rfl,?_,zzA207.2 (by omega)⟩
   show (8:Int)*((xs.length+1-ys.length:Nat):Int)<=281474976710656
   omega
  have eM8:(zO6 0<=iI.wrap (zO6 xs.length.succ)∧iI.wrap (zO6 xs.length.succ)=iI.wrap (zO6 xs.length.succ)∧zO6 8*iI.wrap (zO6 xs.length.succ)<=zO6 281474976710656∧iI.wrap (zO6 xs.length.succ)<=zO6 9223372036854775807):=by
   rw [e1]
   refine⟨zzA207.2 (s6 _),rfl,?_,zzA207.2 (by omega)⟩
   show (8:Int)*((xs.length+1:Nat):Int)<=281474976710656
   omega
  have eC:0 < (r9 xs (shQ ys)).length∧(r9 xs (shQ ys)).length<=(iI.wrap (zO6 xs.length.succ)).toNat∧0+(r9 xs (shQ ys)).length<=(zO7 (iI.wrap (zO6 xs.length.succ)).toNat (0:Int)).length∧0+(r9 xs (shQ ys)).length<=(r9 xs (shQ ys)).length:=by
   rw [e1,bH,g9]
   omega
  have eSh:zO6 0<=shQ ys∧(shQ ys).toNat < 549755813888:=by
   rw [eS,g9]
   exact⟨zzA207.2 (s6 _),by omega⟩
  have hw:iI.wrap (zO6 ys.length-zO6 1)=((ys.length-1:Nat):Int):=by
   have h1:=t8 (n:=ys.length-1) (by omega)
   rw [<- h1]
   congr 1
   simp only [B4]
   omega
  have eA:s4 0 (iI.wrap (zO6 ys.length-zO6 1)).toNat=ys.length-1:=by rw [hw,q9,g9,I0]
  have hg:=hy.dg.get m7 (ys.length-1)
  refine l7 bL 10 _ _ (q1p a b false false xs ys _ _ Z (r9 ys (shQ ys)) L (xs.length+1) ys.length (xs.length+1-ys.length) s ys.length (-1))
   ⟨?_,?_,?_,⟨zzA207.2 (s6 _),?_⟩,⟨rfl,by omega,by omega⟩,⟨rfl,by omega,by omega⟩,u1v a b xs ys _ _ hL,eN8,eC,rfl,hx,by omega,eSh,eM8,rfl,hy,by omega,eSh,?_,by rw [eA]; omega,⟨⟨?_,?_⟩,hp⟩,hone,hc,h0,rfl,rfl,hx.dg,hy.dg,by omega,by omega,rfl,?_,?_,?_,a6⟩
  ·rw [etZ]; exact tz.2.1
  ·rw [etZ,tz.2.2]; exact Cn.ws _
  ·rw [etZ,E0,tz.1]
   have:=tz.2.1
   rw [tz.1] at this
   omega
  ·rw [g9]; omega
  ·rw [eA]
   exact⟨hg.1,hg.2⟩
  ·rw [hw]; exact zzA207.2 (s6 _)
  ·rw [hw]; exact zzA208.2 (by omega)
  ·rw [etL]
   refine⟨by rw [tl.1,lv],tl.2.1,by rw [tl.2.2,lv]⟩
  ·rw [eR]; rfl
  ·rw [eR,r8]
   exact⟨rfl,d9 _,rfl⟩
theorem g1r (a b:Bool) {xs ys:List Int} (hx:Cn xs) (hy:Cn ys) (hxl:xs.length < 274877906944) (hyl:ys.length < 274877906944) (hlt:val W64 xs < val W64 ys):
  t2b zO8 J0 202 (m0j a b xs ys) fun us=> .tuple ⟨[.agg ⟨[.bool false, .slice none 0 0]⟩, .agg ⟨us.take 2⟩]⟩:=by
 have hp:0 < ys.length:=by
  rcases Q5 ys.length with h | h
  ·have:=cJ h
   subst this
   simp [val] at hlt
  ·exact h
 obtain⟨hc,h0⟩:=t0x hx hy hp true (i6 hlt)
 refine g1h bL 10 [] [true] (w0b a b xs ys) ⟨hc,h0,rfl,rfl,hx.dg,hy.dg,by omega,by omega,a6⟩ (fun ρ=> ?_)
 show rv ρ (.tuple ⟨[.agg ⟨[.bool false, .slice none 0 0]⟩, .agg ⟨[.bool a, .slice (some ⟨11,0,some 12⟩) xs.length 0]⟩]⟩)=_
 simp only [rv,rvA,rvL]
 rfl
def w0q (xs ys:List Int):List Int:=ws W64 (val W64 xs/val W64 ys)
def hC (xs ys:List Int):List Int:=ws W64 (val W64 xs%val W64 ys)
def l0g (xs ys:List Int):Prop:=val W64 xs < val W64 ys
def f0x:List Arg->Option (List Arg×List Prop)
 | [.a [.v (.bool _), .s 27 .u64 xs], .a [.v (.bool _), .s 27 .u64 ys]] =>some ([iW false (w0q xs ys),iW false (hC xs ys)],[Cn xs,Cn ys,xs.length < 274877906944,0 < ys.length,¬ l0g xs ys])
 | _=>none
theorem o0p:∀ az rs l,f0x az=some (rs,l)->l5 l->Ev.Sem zO8 J0 202 az rs:=by
 intro az rs l h hl
 unfold f0x at h
 split at h
 ·cases h
  rename_i a xs b ys
  obtain⟨h1,h2,h3,h4,h5,_⟩:=hl
  exact g2e a b h1 h2 h3 h4 (gD h5)
 ·cases h
def g0n (args:List Value) (H:Heap) (n:Nat) (ds:List Bool):Option CR:=
 match args with
 | [.agg ⟨[.bool a,x]⟩, .agg ⟨[.bool _,y]⟩] =>match o1t H .u64 x,o1t H .u64 y with
  | some (xs,l1),some (ys,l2)=>some ⟨.tuple ⟨[.agg ⟨[.bool false, .slice none 0 0]⟩, .agg ⟨[.bool a,x]⟩]⟩,H,n,[Cn xs,Cn ys,xs.length < 274877906944,ys.length < 274877906944,l0g xs ys] ++(l1++l2),ds⟩
  | _,_=>none
 | _=>none
theorem w0t:Enters zO8 202:=F2 (u6 bL 10).2 (w0b false false [] [])
theorem r0b:V8 zO8 J0 202 g0n:=by
 intro args H n ds r h hl
 unfold g0n at h
 split at h
 case h_2=>cases h
 rename_i a x b y
 split at h
 case h_2=>cases h
 rename_i xs l1 ys l2 e1 e2
 cases h
 obtain⟨hl1,hl2⟩:=(a8 _ _).1 hl
 obtain⟨k1,k2,k3,k4,k5,_⟩:=hl1
 obtain⟨m1,m2⟩:=(a8 _ _).1 hl2
 refine⟨d9 _,w0t,fun B M ρ w vs hp hB hI hS=> ?_⟩
 obtain⟨hS0,hvs⟩:=hS ρ (Agree.refl _ _)
 have c1:nM w (.s bP .u64 xs) (rv ρ x):=T0 hS0 e1 m1
 have c2:nM w (.s bP .u64 ys) (rv ρ y):=T0 hS0 e2 m2
 have hA:All2 (nM w) (y7 (m0j a b xs ys)) [.bool a,rv ρ x, .bool b,rv ρ y] := .cons ⟨rfl,rfl⟩ (.cons c1 (.cons ⟨rfl,rfl⟩ (.cons c2 .nil)))
 have hc:=(g1r a b k1 k2 k3 k4 k5).2 w _ hI hA
 have ev:vs=M9 (m0j a b xs ys) [.bool a,rv ρ x, .bool b,rv ρ y] :=by
  rw [hvs]
  simp only [rvL,rv,rvA]
  rfl
 rw [ev]
 refine hc.mono fun e w' ⟨he,hb⟩=>⟨ρ,_,Agree.refl _ _,he,u3 hb hB,fun ρ' ha=>⟨?_,(hS ρ' ha).1.below hb⟩⟩
 have e3:=(hS ρ' ha).2
 rw [hvs] at e3
 simp only [rvL,rv,rvA,Z7,Value.agg.injEq,Array.mk.injEq,P3,true_and] at e3
 simp only [rvL,rv,rvA,<- e3.1]
 rfl
def d1j:List Value->Heap->Nat->List Bool->Option CR:=oB g0n (A3 [shI,shI] f0x)
theorem y0y:V8 zO8 J0 202 d1j:=eV r0b (m9 _ o0p)
theorem c2y (a b s:Bool) (xs ys R:List Int):B2 XW6 [] 200 268 (m0j a b xs ys) [iL s R] [] =some [xs.length=xs.length,ys.length=ys.length,Cn xs,Cn ys,xs.length < 549755813888,ys.length < 549755813888,ys.length=ys.length∧ys.length < 1099511627776∧n8 ys=ys,zO9 (l2x a (!b && decide (0 < ys.length)) xs ys)=zO9 s,(m0g a (!b && decide (0 < ys.length)) xs ys).length=R.length∧(m0g a (!b && decide (0 < ys.length)) xs ys).length<=(m0g a (!b && decide (0 < ys.length)) xs ys).length∧zO10 (m0g a (!b && decide (0 < ys.length)) xs ys).length (m0g a (!b && decide (0 < ys.length)) xs ys)=R] :=by kernel_rfl
theorem e2f (a b:Bool) (xs ys:List Int) (r:Int):B2 XW6 [] 200 203 (m0j a b xs ys) [iR r] [] =some [(m0g a (!b && decide (0 < ys.length)) xs ys).length<=(m0g a (!b && decide (0 < ys.length)) xs ys).length,Cn (zO10 (m0g a (!b && decide (0 < ys.length)) xs ys).length (m0g a (!b && decide (0 < ys.length)) xs ys)),xs.length=xs.length,ys.length=ys.length,Cn xs,Cn ys,xs.length < 549755813888,ys.length < 549755813888,ys.length=ys.length∧ys.length < 1099511627776∧n8 ys=ys,zO2 iI (if val 18446744073709551616 (zO10 (m0g a (!b && decide (0 < ys.length)) xs ys).length (m0g a (!b && decide (0 < ys.length)) xs ys))=0 then zO6 0 else if l2x a (!b && decide (0 < ys.length)) xs ys=true then Int.negSucc 0 else zO6 1)=zO2 iI r] :=by kernel_rfl
theorem b2a (s:Bool) (n:Int) (R:List Int):B2 XW6 [] 200 154 [iR n] [iL s R] [true] =some [1<=1∧1<=1∧1 < 1099511627776,decide (n < zO6 0)=true,zO9 (true && decide (0 < (n8 [uI.wrap (zO6 0-uI.wrap n)]).length))=zO9 s,(n8 [uI.wrap (zO6 0-uI.wrap n)]).length=R.length∧(n8 [uI.wrap (zO6 0-uI.wrap n)]).length<=1∧zO10 (n8 [uI.wrap (zO6 0-uI.wrap n)]).length [uI.wrap (zO6 0-uI.wrap n)] =R∧1=1∧1<=9223372036854775807] :=by kernel_rfl
theorem z1q (s:Bool) (n:Int) (R:List Int):B2 XW6 [] 200 154 [iR n] [iL s R] [false] =some [zO6 0<=uI.wrap n∧(uI.wrap n).toNat < 18446744073709551616,decide (n < zO6 0)=false,zO9 false=zO9 s,(A1 (uI.wrap n)).length=R.length∧(A1 (uI.wrap n)).length<=(A1 (uI.wrap n)).length∧zO10 (A1 (uI.wrap n)).length (A1 (uI.wrap n))=R] :=by kernel_rfl
theorem n1o (a:Bool) (xs:List Int) (r:Int):B2 XW6 [] 200 170 [iL a xs] [iR r] [true] =some [(zO6 xs.length==zO6 0)=true,zO2 iI (zO6 0)=zO2 iI r] :=by kernel_rfl
theorem j1g (a:Bool) (xs:List Int) (r:Int):B2 XW6 [] 200 170 [iL a xs] [iR r] [false] =some [zO6 0<=xs.getD (s4 0 (iI.wrap (zO6 xs.length-zO6 1)).toNat) (zO6 0)∧xs.getD (s4 0 (iI.wrap (zO6 xs.length-zO6 1)).toNat) (zO6 0) < zO6 18446744073709551616,s4 0 (iI.wrap (zO6 xs.length-zO6 1)).toNat < xs.length,(zO6 0<=iI.wrap (zO6 xs.length-zO6 1)∧iI.wrap (zO6 xs.length-zO6 1) < zO6 xs.length)∧0 < xs.length,(zO6 xs.length==zO6 0)=false,zO2 iI (iI.wrap (iI.wrap (zO6 64*iI.wrap (zO6 xs.length-zO6 1))+I6 (xs.getD (s4 0 (iI.wrap (zO6 xs.length-zO6 1)).toNat) (zO6 0))))=zO2 iI r] :=by kernel_rfl
theorem Cn.trim {xs:List Int} (h:Cn xs):n8 xs=xs:=by
 have:=E1 F5 h.dg
 rw [<- h] at this
 exact this
def s2z (a b:Bool) (xs ys:List Int):List Int:=m0g a (!b && decide (0 < ys.length)) xs ys
def t2g (a b:Bool) (xs ys:List Int):Bool:=l2x a (!b && decide (0 < ys.length)) xs ys
def t1a (a b:Bool) (xs ys:List Int):Int:=if val W64 (s2z a b xs ys)=0 then 0 else if t2g a b xs ys then -1 else 1
def ofX (n:Int):List Int:=ws W64 n.natAbs
def w1p (xs:List Int):Int:=((bl (val W64 xs):Nat):Int)
theorem a2c (a b:Bool) {xs ys:List Int} (hx:Cn xs) (hy:Cn ys) (h1:xs.length < 549755813888) (h2:ys.length < 549755813888):Ev.Sem zO8 J0 268 (m0j a b xs ys) [iW (t2g a b xs ys) (s2z a b xs ys)] :=
 l7 bL 10 _ _ (c2y a b _ xs ys _) ⟨rfl,rfl,hx,hy,h1,h2,⟨rfl,by omega,hy.trim⟩,rfl,⟨rfl,d9 _,r8⟩,a6⟩
theorem f2b (a b:Bool) {xs ys:List Int} (hx:Cn xs) (hy:Cn ys) (h1:xs.length < 549755813888) (h2:ys.length < 549755813888):Ev.Sem zO8 J0 203 (m0j a b xs ys) [iR (t1a a b xs ys)] :=by
 refine l7 bL 10 _ _ (e2f a b xs ys _) ⟨d9 _,?_,rfl,rfl,hx,hy,h1,h2,⟨rfl,by omega,hy.trim⟩,?_,a6⟩
 ·rw [r8]
  exact Cn.ws _
 ·rw [r8]
  rfl
theorem m2q {n:Int} (h1: -9223372036854775808<=n) (h2:n<=9223372036854775807):Ev.Sem zO8 J0 154 [iR n] [iW (decide (n < 0)) (ofX n)] :=by
 by_cases h:n < 0
 ·have e1:uI.wrap (zO6 0-uI.wrap n)=((n.natAbs:Nat):Int):=by
   have w1:=R5 n
   have w2:=R5 (zO6 0-uI.wrap n)
   simp only [B4] at*
   omega
  have hd:Dg W64 [((n.natAbs:Nat):Int)] :=Dg.cons ⟨by omega,by
   show _ < ((18446744073709551616:Nat):Int)
   omega⟩ (Dg.nil _)
  have ht:n8 [((n.natAbs:Nat):Int)] =ws W64 n.natAbs:=by
   rw [E1 F5 hd]
   simp [val]
  have hp:0 < (ws W64 n.natAbs).length:=wl_pos.2 (by omega)
  have htt:=L8 ht
  refine l7 bL 10 _ _ (b2a _ n _) ⟨⟨d9 _,d9 _,by decide⟩,i6 h,?_,?_,a6⟩
  ·rw [e1,ht,i6 h,i6 hp]
   rfl
  ·rw [e1]
   exact⟨htt.1,htt.2.1,htt.2.2,rfl,by decide⟩
 ·have e1:uI.wrap n=n:=by
   have w1:=R5 n
   omega
  have e2:A1 n=ofX n:=by
   unfold A1 ofX
   congr 1
   omega
  refine l7 bL 10 _ _ (z1q _ n _) ⟨?_,d8 h,?_,?_,a6⟩
  ·rw [e1]
   simp only [B4]
   omega
  ·rw [d8 h]
  ·rw [e1,e2,r8]
   exact⟨rfl,d9 _,rfl⟩
theorem q1x (a:Bool) {xs:List Int} (hx:Cn xs) (h1:xs.length < 549755813888):Ev.Sem zO8 J0 170 [iL a xs] [iR (w1p xs)] :=by
 by_cases h:xs.length=0
 ·refine l7 bL 10 _ _ (n1o a xs _) ⟨by rw [h]; rfl,?_,a6⟩
  have:=cJ h
  subst this
  rfl
 ·obtain⟨t,e1,e2,e3,e4,e5⟩:=v0s hx (by omega)
  have hw:iI.wrap (zO6 xs.length-zO6 1)=((xs.length-1:Nat):Int):=by
   have h1:=t8 (n:=xs.length-1) (by omega)
   rw [<- h1]
   congr 1
   simp only [B4]
   omega
  have eA:s4 0 (iI.wrap (zO6 xs.length-zO6 1)).toNat=xs.length-1:=by rw [hw,q9,g9,I0]
  have hg:=hx.dg.get m7 (xs.length-1)
  have hb64:bl t<=64:=(zU e2 e3).2.1
  refine l7 bL 10 _ _ (j1g a xs _) ⟨?_,by rw [eA]; omega,⟨⟨?_,?_⟩,by omega⟩,?_,?_,a6⟩
  ·rw [eA]
   exact⟨hg.1,hg.2⟩
  ·rw [hw]; exact zzA207.2 (s6 _)
  ·rw [hw]; exact zzA208.2 (by omega)
  ·simp only [beq_eq_false_iff_ne,ne_eq,zO6.injEq]
   exact h
  ·rw [eA,hw]
   show zO2 .i64 (iI.wrap (iI.wrap (64*((xs.length-1:Nat):Int))+I6 (xs.getD (xs.length-1) 0)))=_
   rw [e1]
   unfold I6 w1p
   rw [g9]
   have hpw:(2:Nat) ^(64*(xs.length-1))=W64 ^(xs.length-1):=by
    rw [dB]
   have hdiv:val W64 xs/2 ^(64*(xs.length-1))=t:=by
    rw [hpw]
    exact Nat.div_eq_of_lt_le e4 e5
   have hbl:bl (val W64 xs)=64*(xs.length-1)+bl t:=by
    rw [eI (k:=64*(xs.length-1)),hdiv]
    rw [hpw]
    exact x7 (a0v _ e2) e4
   rw [hbl]
   have w1:=t8 (n:=64*(xs.length-1)) (by omega)
   have w2:=t8 (n:=64*(xs.length-1)+bl t) (by omega)
   have c1:(64:Int)*((xs.length-1:Nat):Int)=((64*(xs.length-1):Nat):Int):=by omega
   rw [c1,w1,<- dZ,w2]
def p0l:List Arg->Option (List Arg×List Prop)
 | [.a [.v (.bool a), .s 27 .u64 xs], .a [.v (.bool b), .s 27 .u64 ys]] =>some ([iW (t2g a b xs ys) (s2z a b xs ys)],[Cn xs,Cn ys,xs.length < 549755813888,ys.length < 549755813888])
 | _=>none
def n0j:List Arg->Option (List Arg×List Prop)
 | [.a [.v (.bool a), .s 27 .u64 xs], .a [.v (.bool b), .s 27 .u64 ys]] =>some ([iR (t1a a b xs ys)],[Cn xs,Cn ys,xs.length < 549755813888,ys.length < 549755813888])
 | _=>none
def g1m:List Arg->Option (List Arg×List Prop)
 | [.c (.v (.int .i64 n))] =>some ([iW (decide (n < 0)) (ofX n)],[-9223372036854775808<=n,n<=9223372036854775807])
 | _=>none
def g0r:List Arg->Option (List Arg×List Prop)
 | [.a [.v (.bool _), .s 27 .u64 xs]] =>some ([iR (w1p xs)],[Cn xs,xs.length < 549755813888])
 | _=>none
theorem y0h:∀ az rs l,p0l az=some (rs,l)->l5 l->Ev.Sem zO8 J0 268 az rs:=by
 intro az rs l h hl
 unfold p0l at h
 split at h
 ·cases h
  obtain⟨h1,h2,h3,h4,_⟩:=hl
  exact a2c _ _ h1 h2 h3 h4
 ·cases h
theorem x0x:∀ az rs l,n0j az=some (rs,l)->l5 l->Ev.Sem zO8 J0 203 az rs:=by
 intro az rs l h hl
 unfold n0j at h
 split at h
 ·cases h
  obtain⟨h1,h2,h3,h4,_⟩:=hl
  exact f2b _ _ h1 h2 h3 h4
 ·cases h
theorem f1q:∀ az rs l,g1m az=some (rs,l)->l5 l->Ev.Sem zO8 J0 154 az rs:=by
 intro az rs l h hl
 unfold g1m at h
 split at h
 ·cases h
  obtain⟨h1,h2,_⟩:=hl
  exact m2q h1 h2
 ·cases h
theorem o0w:∀ az rs l,g0r az=some (rs,l)->l5 l->Ev.Sem zO8 J0 170 az rs:=by
 intro az rs l h hl
 unfold g0r at h
 split at h
 ·cases h
  obtain⟨h1,h2,_⟩:=hl
  exact q1x _ h1 h2
 ·cases h
def g1k:iV:=o8 202 d1j (o8 268 (A3 [shI,shI] p0l) (o8 203 (A3 [shI,shI] n0j)
 (o8 154 (A3 [shV] g1m) (o8 170 (A3 [shI] g0r) b1y))))
theorem k0m:iS zO8 J0 g1k:=j0 y0y (j0 (m9 _ y0h) (j0 (m9 _ x0x) (j0 (m9 _ f1q) (j0 (m9 _ o0w) k0o))))
def bW7:Base:=⟨zO8,J0,false,y0c,g1k,200,L7⟩
theorem jD:BaseOk bW7:=⟨progOk,lC,k0m,r5⟩
abbrev XW7:Cx:=bW7.cx 10
def v0h:Code:=z8 zO8 201 0
def e2a (xs L:List Int) (n:Int):St:=⟨only 23 [(1, .int .i64 n),(2, .pointer (some ⟨13,0,none⟩)),(4, .pointer (some ⟨14,0,none⟩)),(5, .pointer (some ⟨17,0,none⟩))],
 [(17, .cells [.bool false,slV 15 L.length] rS),(15, .row bP 1 (.ints .u64 L) 16),(14, .cells [.bool false, .slice none 0 0] rS),(13, .cells [.bool false,slV 11 xs.length] rS),(11, .ints .u64 xs)],19,[],[],0,none,[],13⟩
def o1u (xs L:List Int) (n:Int):St:=⟨only 23 [(1, .int .i64 n),(2, .pointer (some ⟨13,0,none⟩)),(4, .pointer (some ⟨14,0,none⟩)),(5, .pointer (some ⟨17,0,none⟩))],
 [(17, .cells [.bool false,slV 15 L.length] rS),(15, .row bP 1 (.ints .u64 L) 16),(14, .cells [.bool false, .slice none 0 0] rS),(13, .cells [.bool false,slV 21 xs.length] rS),(21, .row bP 1 (.ints .u64 xs) 22)],23,[],[],0,none,[],13⟩
def TPo (L:List Int):St:=⟨only 23 [(4, .pointer (some ⟨14,0,none⟩)),(5, .pointer (some ⟨17,0,none⟩))],
 [(17, .cells [.bool false,slV 15 L.length] rS),(15, .row bP 1 (.ints .u64 L) 16),(14, .cells [.bool false, .slice none 0 0] rS)],19,[],[],0,none,[],13⟩
def m0a (n:Int):Int:=iI.wrap (n.tdiv 2)
abbrev tC (L:List Int):List Int:=L.take L.length
theorem p2o (xs L:List Int) (n:Int) (hl:l5 [xs.length=xs.length,xs.length=xs.length,Cn xs,Cn xs,xs.length < 274877906944,xs.length < 274877906944,decide (zO6 1 < n)=true,L.length<=L.length,xs.length=xs.length,Cn (zO10 L.length L),Cn xs,(zO10 L.length L).length < 274877906944,xs.length < 274877906944,(n.tmod (zO6 2)==zO6 1)=true,decide (zO6 0 < n)=true]):u4 XW7 v0h (e2a xs L n) .normal (o1u (G0 xs xs) (G0 (tC L) xs) (m0a n)):=
 stp jD 10 progOk.mixed [true,true,true] [(15,19),(16,20),(21,22),(22,23)] (by kernel_rfl) hl
theorem h2g (xs L:List Int) (n:Int) (hl:l5 [xs.length=xs.length,xs.length=xs.length,Cn xs,Cn xs,xs.length < 274877906944,xs.length < 274877906944,decide (zO6 1 < n)=true,(n.tmod (zO6 2)==zO6 1)=false,decide (zO6 0 < n)=true]):u4 XW7 v0h (e2a xs L n) .normal (o1u (G0 xs xs) L (m0a n)):=
 stp jD 10 progOk.mixed [true,false,true] [(21,19),(22,20)] (by kernel_rfl) hl
theorem f2y (xs L:List Int) (n:Int) (hl:l5 [decide (zO6 1 < n)=false,L.length<=L.length,xs.length=xs.length,Cn (zO10 L.length L),Cn xs,(zO10 L.length L).length < 274877906944,xs.length < 274877906944,(n.tmod (zO6 2)==zO6 1)=true,decide (zO6 0 < n)=true]):u4 XW7 v0h (e2a xs L n) .normal (e2a xs (G0 (tC L) xs) (m0a n)):=
 stp jD 10 progOk.mixed [true,true,false] [(15,19),(16,20)] (by kernel_rfl) hl
theorem l2i (xs L:List Int) (n:Int) (hl:l5 [decide (zO6 0 < n)=false]):u4 XW7 v0h (e2a xs L n) (.exit 0) (TPo L):=
 stp jD 10 progOk.mixed [false] [] (by kernel_rfl) hl
theorem k2p (xs L:List Int) (n:Int) (hl:l5 [xs.length<=xs.length,xs.length<=xs.length,Cn (zO10 xs.length xs),Cn (zO10 xs.length xs),(zO10 xs.length xs).length < 274877906944,(zO10 xs.length xs).length < 274877906944,decide (zO6 1 < n)=true,L.length<=L.length,xs.length<=xs.length,Cn (zO10 L.length L),Cn (zO10 xs.length xs),(zO10 L.length L).length < 274877906944,(zO10 xs.length xs).length < 274877906944,(n.tmod (zO6 2)==zO6 1)=true,decide (zO6 0 < n)=true]):u4 XW7 v0h (o1u xs L n) .normal (o1u (G0 (tC xs) (tC xs)) (G0 (tC L) (tC xs)) (m0a n)):=
 stp jD 10 progOk.mixed [true,true,true] [(15,23),(16,24),(21,26),(22,27)] (by kernel_rfl) hl
theorem h2y (xs L:List Int) (n:Int) (hl:l5 [xs.length<=xs.length,xs.length<=xs.length,Cn (zO10 xs.length xs),Cn (zO10 xs.length xs),(zO10 xs.length xs).length < 274877906944,(zO10 xs.length xs).length < 274877906944,decide (zO6 1 < n)=true,(n.tmod (zO6 2)==zO6 1)=false,decide (zO6 0 < n)=true]):u4 XW7 v0h (o1u xs L n) .normal (o1u (G0 (tC xs) (tC xs)) L (m0a n)):=
 stp jD 10 progOk.mixed [true,false,true] [(21,23),(22,24)] (by kernel_rfl) hl
theorem e2z (xs L:List Int) (n:Int) (hl:l5 [decide (zO6 1 < n)=false,L.length<=L.length,xs.length<=xs.length,Cn (zO10 L.length L),Cn (zO10 xs.length xs),(zO10 L.length L).length < 274877906944,(zO10 xs.length xs).length < 274877906944,(n.tmod (zO6 2)==zO6 1)=true,decide (zO6 0 < n)=true]):u4 XW7 v0h (o1u xs L n) .normal (o1u xs (G0 (tC L) (tC xs)) (m0a n)):=
 stp jD 10 progOk.mixed [true,true,false] [(15,23),(16,24)] (by kernel_rfl) hl
theorem m2u (xs L:List Int) (n:Int) (hl:l5 [decide (zO6 0 < n)=false]):u4 XW7 v0h (o1u xs L n) (.exit 0) (TPo L):=
 stp jD 10 progOk.mixed [false] [] (by kernel_rfl) hl
theorem b2h (s:Bool) (xs L R:List Int) (n:Int):B2 XW7 [H7 (.exit 0) (fun _=>TPo L)] 200 201 [iL false xs,iR n] [iL s R] [] =some [b9 XW7 v0h (m8 XW7 200 201 [iL false xs,iR n] []) (.exit 0) (TPo L),zO6 0<=zO6 1∧1 < 18446744073709551616,zO9 false=zO9 s,L.length=R.length∧L.length<=L.length∧zO10 L.length L=R] :=by kernel_rfl
theorem p1p (xs:List Int) (n:Int) (x:AX) (s':St) (h:b9 XW7 v0h (e2a xs (A1 1) n) x s'):b9 XW7 v0h (m8 XW7 200 201 [iL false xs,iR n] []) x s':=
 l9 h []
structure PwPl where
 first:Bool
 X:Nat
 O:Nat
 n:Nat
def TPw (p:PwPl):St:=match p.first with
 | true=>e2a (ws W64 p.X) (ws W64 p.O) (p.n:Int)
 | false=>o1u (ws W64 p.X) (ws W64 p.O) (p.n:Int)
theorem T3 (a b:Nat):G0 (ws W64 a) (ws W64 b)=ws W64 (a*b):=by unfold G0; rw [B5,B5]
theorem aW (L:List Int):tC L=L:=r8
theorem s1f {n:Nat} (h:n < 4611686018427387904):m0a (n:Int)=((n/2:Nat):Int):=by
 unfold m0a
 have:=(k0n n 2).symm
 have e:(n:Int).tdiv 2=((n/2:Nat):Int):=this
 rw [e,t8 (by omega)]
theorem j1r {n:Nat} (b:Bool) (h:decide (n%2=1)=b):((n:Int).tmod (zO6 2)==zO6 1)=b:=by
 have e:(n:Int).tmod (zO6 2)=((n%2:Nat):Int):=(Int.ofNat_tmod n 2).symm
 rw [e,<- h]
 by_cases h1:n%2=1
 ·rw [h1]; rfl
 ·have:n%2=0:=by omega
  rw [this]; rfl
def f2x (R:Nat) (p:PwPl):Prop:=wl p.O+p.n*wl p.X < 274877906944∧p.O*p.X ^p.n=R∧p.n < 4611686018427387904
theorem s1e (X n:Nat):(X*X) ^(n/2)*X ^(n%2)=X ^n:=by
 have h:X*X=X ^2:=by rw [y8,a0u]
 rw [h,<- dB,<- n9]
 congr 1
 omega
theorem q1e {R:Nat} {p:PwPl} (h:f2x R p):(∃ q,f2x R q∧q.n < p.n∧u4 XW7 v0h (TPw p) .normal (TPw q))∨u4 XW7 v0h (TPw p) (.exit 0) (TPo (ws W64 R)):=by
 obtain⟨f,X,O,n⟩:=p
 obtain⟨h1,h2,h3⟩:=h
 simp only at h1 h2 h3
 have hX:=Cn.ws X
 have hO:=Cn.ws O
 have hX':Cn (zO10 (ws W64 X).length (ws W64 X)):=by rw [r8]; exact hX
 have hO':Cn (zO10 (ws W64 O).length (ws W64 O)):=by rw [r8]; exact hO
 have hh:=s1f h3
 rcases Q5 n with h0 | h0
 ·subst h0
  rw [G3,u9] at h2
  subst h2
  right
  cases f
  ·exact m2u _ _ _ ⟨rfl,a6⟩
  ·exact l2i _ _ _ ⟨rfl,a6⟩
 left
 have hpos:decide (zO6 0 < (n:Int))=true:=i6 (zzA208.2 h0)
 have hle:wl X<=n*wl X:=a0v _ h0
 have lX:(ws W64 X).length < 274877906944:=by show wl X < _; omega
 have lO:(ws W64 O).length < 274877906944:=by show wl O < _; omega
 have lX':(zO10 (ws W64 X).length (ws W64 X)).length < 274877906944:=by rw [r8]; exact lX
 have lO':(zO10 (ws W64 O).length (ws W64 O)).length < 274877906944:=by rw [r8]; exact lO
 have w1:=c1n O X
 have w2:=c1n X X
 by_cases hn1:n=1
 ·subst hn1
  rw [a0u] at h2
  have hodd:(((1:Nat):Int).tmod (zO6 2)==zO6 1)=true:=by decide
  have hn2:decide (zO6 1 < ((1:Nat):Int))=false:=by decide
  refine⟨⟨f,X,O*X,0⟩,⟨by simp only; omega,by simpa using h2,by simp⟩,by simp,?_⟩
  cases f
  ·have:=e2z (ws W64 X) (ws W64 O) ((1:Nat):Int) ⟨hn2,d9 _,d9 _,hO',hX',lO',lX',hodd,hpos,a6⟩
   rw [aW,aW,T3,hh] at this
   exact this
  ·have:=f2y (ws W64 X) (ws W64 O) ((1:Nat):Int) ⟨hn2,d9 _,rfl,hO',hX,lO',lX,hodd,hpos,a6⟩
   rw [aW,T3,hh] at this
   exact this
 ·have hn2:decide (zO6 1 < (n:Int))=true:=i6 (zzA208.2 (by omega))
  have hd:n/2*(2*wl X)+n%2*wl X=n*wl X:=by
   rw [<- r7,<- A7]
   congr 1
   omega
  have hm:n/2*wl (X*X)<=n/2*(2*wl X):=N0 _ (by omega)
  have hp:=s1e X n
  by_cases ho:n%2=1
  ·have hodd:=j1r (n:=n) true (i6 ho)
   rw [ho,a0u] at hp
   rw [ho,P7] at hd
   refine⟨⟨false,X*X,O*X,n/2⟩,⟨by simp only; omega,?_,by simp only; omega⟩,by simp only; omega,?_⟩
   ·simp only
    rw [<- h2,<- hp,r7,t7 X]
   cases f
   ·have:=k2p (ws W64 X) (ws W64 O) (n:Int) ⟨d9 _,d9 _,hX',hX',lX',lX',hn2,d9 _,d9 _,hO',hX',lO',lX',hodd,hpos,a6⟩
    rw [aW,aW,T3,T3,hh] at this
    exact this
   ·have:=p2o (ws W64 X) (ws W64 O) (n:Int) ⟨rfl,rfl,hX,hX,lX,lX,hn2,d9 _,rfl,hO',hX,lO',lX,hodd,hpos,a6⟩
    rw [aW,T3,T3,hh] at this
    exact this
  ·have hodd:=j1r (n:=n) false (d8 ho)
   have ho:n%2=0:=by omega
   rw [ho,G3,u9] at hp
   rw [ho,K8,I1] at hd
   refine⟨⟨false,X*X,O,n/2⟩,⟨by simp only; omega,by simp only; rw [hp]; exact h2,by simp only; omega⟩,by simp only; omega,?_⟩
   cases f
   ·have:=h2y (ws W64 X) (ws W64 O) (n:Int) ⟨d9 _,d9 _,hX',hX',lX',lX',hn2,hodd,hpos,a6⟩
    rw [aW,T3,hh] at this
    exact this
   ·have:=h2g (ws W64 X) (ws W64 O) (n:Int) ⟨rfl,rfl,hX,hX,lX,lX,hn2,hodd,hpos,a6⟩
    rw [T3,hh] at this
    exact this
theorem n1a {X n:Nat} (h1:1+n*wl X < 274877906944) (h2:n < 4611686018427387904):Ev.Sem zO8 J0 201 [iL false (ws W64 X),iR (n:Int)] [iW false (ws W64 (X ^n))] :=by
 have hw1:wl 1<=1:=wl_le.2 (by rw [a0u]; decide)
 have hL:=C0 (X:=XW7) (c:=v0h) (x:= .exit 0) TPw (fun p=>p.n) (f2x (X ^n)) (by intro e; cases e) (s':=TPo (ws W64 (X ^n))) (fun p hp=>by
  rcases q1e hp with ⟨q,a,b,c⟩ | h
  ·exact .inl ⟨q,a,b,c⟩
  ·exact .inr h) ⟨true,X,1,n⟩ ⟨by simp only; omega,by simp,h2⟩
 exact l7 jD 10 _ _ (b2h false (ws W64 X) (ws W64 (X ^n)) _ (n:Int)) ⟨p1p _ _ _ _ hL,⟨by simp,by decide⟩,rfl,⟨rfl,d9 _,r8⟩,a6⟩
def iQ (xs:List Int) (n:Int):List Int:=ws W64 (val W64 xs ^n.toNat)
def tP:List Arg->Option (List Arg×List Prop)
 | [.a [.v (.bool false), .s 27 .u64 xs], .c (.v (.int .i64 n))] =>some ([iW false (iQ xs n)],[Cn xs,0<=n∧n.toNat < 4611686018427387904,1+n.toNat*xs.length < 274877906944])
 | _=>none
theorem k0g:∀ az rs l,tP az=some (rs,l)->l5 l->Ev.Sem zO8 J0 201 az rs:=by
 intro az rs l h hl
 unfold tP at h
 split at h
 ·cases h
  rename_i xs n
  obtain⟨h1,⟨h2,h3⟩,h4,_⟩:=hl
  unfold Cn at h1
  have:=n1a (X:=val W64 xs) (n:=n.toNat) (by unfold wl; rw [<- h1]; exact h4) h3
  rw [<- h1,I8 h2] at this
  exact this
 ·cases h
end Go.Proofs.YtkiejangmhhofaaGreatDoor
namespace Go.Proofs
def kN:Go.Shelf.Ren:=⟨fun | 287=>285 | 321=>307 | 322=>308 | n=>n,fun | 9=>9 | 3=>3 | 53=>27 | 75=>205 | 4=>4 | 167=>335 | 5=>5 | 46=>126 | 37=>200 | 0=>0 | 21=>21 | 80=>192 | n=>n,fun | n=>n⟩
theorem yF:Go.Proofs.Lays.n287 zO8 kN where
 mixed:=by kernel_rfl
 f287:=Tryz.func285.trans (aP some (by kernel_rfl))
 f321:=Tryz.func307.trans (aP some (by kernel_rfl))
 f322:=Tryz.func308.trans (aP some (by kernel_rfl))
 t0:=Tryz.underlying0
 a0:=Tryz.isAgg0
 z0:=Tryz.sizeOf0
 v0:=Tryz.zeroValue0
 t3:=Tryz.underlying3
 a3:=Tryz.isAgg3
 z3:=Tryz.sizeOf3
 v3:=Tryz.zeroValue3
 t4:=Tryz.underlying4
 a4:=Tryz.isAgg4
 z4:=Tryz.sizeOf4
 v4:=Tryz.zeroValue4
 t5:=Tryz.underlying5
 a5:=Tryz.isAgg5
 z5:=Tryz.sizeOf5
 v5:=Tryz.zeroValue5
 t9:=Tryz.underlying9
 a9:=Tryz.isAgg9
 z9:=Tryz.sizeOf9
 v9:=Tryz.zeroValue9
 t21:=Tryz.underlying21
 a21:=Tryz.isAgg21
 z21:=Tryz.sizeOf21
 v21:=Tryz.zeroValue21
 t37:=Tryz.underlying200
 a37:=Tryz.isAgg200
 z37:=Tryz.sizeOf200
 v37:=Tryz.zeroValue200
 t46:=Tryz.underlying126
 a46:=Tryz.isAgg126
 z46:=Tryz.sizeOf126
 v46:=Tryz.zeroValue126
 t53:=Tryz.underlying27
 a53:=Tryz.isAgg27
 z53:=Tryz.sizeOf27
 v53:=Tryz.zeroValue27
 t75:=Tryz.underlying205
 a75:=Tryz.isAgg205
 z75:=Tryz.sizeOf205
 v75:=Tryz.zeroValue205
 t167:=Tryz.underlying335
 a167:=Tryz.isAgg335
 z167:=Tryz.sizeOf335
 v167:=Tryz.zeroValue335
namespace YtkiejangmhhofaaGreatDoor
open Go Go.RowKit Ev Wd
def rQ (l:List UInt8):Int:=(((Lib.decFrom 0 l).getD 0:Nat):Int)
def Z6 (l:List UInt8):Prop:=(Lib.decFrom 0 l).isSome=true
theorem o0i {l:List UInt8} (h1:Z6 l) (h2:l.length<=18) (h3:l≠[]):Lib.parseUintB 64 l= .ok ((Lib.decFrom 0 l).getD 0):=by
 have eM:(2:Nat) ^64-1=18446744073709551615:=by decide
 unfold Lib.parseUintB
 rw [a7 h3,eM,Lib.parseUintM_64,Lib.parseUint10_short l 0 0 (by decide) (by omega)]
 unfold Z6 at h1
 cases h:Lib.decFrom 0 l with
 | none=>rw [h] at h1; cases h1
 | some n=>rfl
def f1l:List Value->Option (Value×List Prop)
 | [.string s, .int .i64 10, .int .i64 64] =>some (.tuple ⟨[.int .u64 (rQ s.data.toList), .nilIface]⟩,[Z6 s.data.toList,s.data.toList.length<=18,0 < s.data.toList.length])
 | _=>none
theorem d1g (args:List Value) (v:Value) (l:List Prop) (h:f1l args=some (v,l)) (hl:l5 l):Pure zO8 J0 285 args v:=by
 unfold f1l at h
 split at h
 case h_2=>cases h
 rename_i s
 cases h
 obtain⟨h1,h2,h3,_⟩:=hl
 refine⟨rfl,rfl, .inl ⟨enters_of Tryz.func285 (by kernel_rfl) (c:=_) rfl,fun w hI=> ?_⟩⟩
 have hs:s.size=s.data.toList.length:=rfl
 refine (Any.internal_strconv_ParseUint_10_at64 yF s (by omega) w).mono fun e w' ⟨he,hw⟩=>⟨?_,?_⟩
 ·rw [he,o0i h1 h2 (by intro e; rw [e] at h3; cases h3)]
  rfl
 ·rcases hw with rfl | rfl
  ·exact Z9 _ _
  ·exact Lib.bytesWorld_below _ _ _
def e1t:Tab:=r6 285 f1l y0c
theorem sH:U6 zO8 J0 e1t:=i8 d1g lC
def a1z:iV:=o8 201 (A3 [shI,shV] tP) g1k
theorem j0k:iS zO8 J0 a1z:=j0 (m9 _ k0g) k0m
def bW8:Base:=⟨zO8,J0,false,e1t,a1z,200,L7⟩
theorem b0n:BaseOk bW8:=⟨progOk,sH,j0k,r5⟩
abbrev XW8:Cx:=bW8.cx 10
end YtkiejangmhhofaaGreatDoor
end Go.Proofs
namespace Go.Proofs.YtkiejangmhhofaaGreatDoor
open Go Go.RowKit Ev Wd
def a1j:Code:=z8 zO8 168 0
def f1d (l:List UInt8):St:=⟨only 32 [(0, .string ⟨⟨l⟩⟩),(2, .pointer (some ⟨11,0,none⟩)),(3, .pointer (some ⟨12,0,none⟩))],
 [(12, .cells [.bool false, .slice none 0 0] rS),(11, .cells [.bool false, .slice none 0 0] rS)],14,[],[],0,none,[],11⟩
def a1p (l:List UInt8) (xs:List Int):St:=⟨only 32 [(0, .string ⟨⟨l⟩⟩),(2, .pointer (some ⟨11,0,none⟩)),(3, .pointer (some ⟨12,0,none⟩))],
 [(12, .cells [.bool false,slV 21 xs.length] rS),(11, .cells [.bool false, .slice none 0 0] rS),(21, .row bP 1 (.ints .u64 xs) 22)],23,[],[],0,none,[],11⟩
def g0z (l:List UInt8):Int:=if zO6 18 < zO6 l.length then zO6 18 else zO6 l.length
def i2s (l:List UInt8):List Int:=iQ [10] (g0z l)
def p1a (xs:List Int) (l:List UInt8):List Int:=G0 xs (i2s l)
def s1o (l:List UInt8):List Int:=A1 (rQ (l.take (g0z l).toNat))
def i2w (xs:List Int) (l:List UInt8):List Int:=m0g (h0a false (p1a xs l)) false ((p1a xs l).take (p1a xs l).length) ((s1o l).take (s1o l).length)
theorem d1x (l:List UInt8) (hl:l5 [(zO6 0<=if zO6 18 < zO6 l.length then zO6 18 else zO6 l.length)∧(if zO6 18 < zO6 l.length then zO6 18 else zO6 l.length)<=zO6 l.length,(G0 [] (iQ [zO6 10] (if zO6 18 < zO6 l.length then zO6 18 else zO6 l.length))).length<=(G0 [] (iQ [zO6 10] (if zO6 18 < zO6 l.length then zO6 18 else zO6 l.length))).length,(A1 (rQ (zO10 (if zO6 18 < zO6 l.length then zO6 18 else zO6 l.length).toNat l))).length<=(A1 (rQ (zO10 (if zO6 18 < zO6 l.length then zO6 18 else zO6 l.length).toNat l))).length,Cn (zO10 (G0 [] (iQ [zO6 10] (if zO6 18 < zO6 l.length then zO6 18 else zO6 l.length))).length (G0 [] (iQ [zO6 10] (if zO6 18 < zO6 l.length then zO6 18 else zO6 l.length)))),Cn (zO10 (A1 (rQ (zO10 (if zO6 18 < zO6 l.length then zO6 18 else zO6 l.length).toNat l))).length (A1 (rQ (zO10 (if zO6 18 < zO6 l.length then zO6 18 else zO6 l.length).toNat l)))),(zO10 (G0 [] (iQ [zO6 10] (if zO6 18 < zO6 l.length then zO6 18 else zO6 l.length))).length (G0 [] (iQ [zO6 10] (if zO6 18 < zO6 l.length then zO6 18 else zO6 l.length)))).length < 549755813888,(zO10 (A1 (rQ (zO10 (if zO6 18 < zO6 l.length then zO6 18 else zO6 l.length).toNat l))).length (A1 (rQ (zO10 (if zO6 18 < zO6 l.length then zO6 18 else zO6 l.length).toNat l)))).length < 549755813888,zO6 0<=rQ (zO10 (if zO6 18 < zO6 l.length then zO6 18 else zO6 l.length).toNat l)∧(rQ (zO10 (if zO6 18 < zO6 l.length then zO6 18 else zO6 l.length).toNat l)).toNat < 18446744073709551616,(iQ [zO6 10] (if zO6 18 < zO6 l.length then zO6 18 else zO6 l.length)).length=(iQ [zO6 10] (if zO6 18 < zO6 l.length then zO6 18 else zO6 l.length)).length,Cn [],Cn (iQ [zO6 10] (if zO6 18 < zO6 l.length then zO6 18 else zO6 l.length)),0 < 274877906944,(iQ [zO6 10] (if zO6 18 < zO6 l.length then zO6 18 else zO6 l.length)).length < 274877906944,1<=1,Cn [zO6 10],(zO6 0<=if zO6 18 < zO6 l.length then zO6 18 else zO6 l.length)∧(if zO6 18 < zO6 l.length then zO6 18 else zO6 l.length).toNat < 4611686018427387904,1+(if zO6 18 < zO6 l.length then zO6 18 else zO6 l.length).toNat*1 < 274877906944,zO6 0<=zO6 10∧10 < 18446744073709551616,Z6 (zO10 (if zO6 18 < zO6 l.length then zO6 18 else zO6 l.length).toNat l),(zO10 (if zO6 18 < zO6 l.length then zO6 18 else zO6 l.length).toNat l).length<=18,0 < (zO10 (if zO6 18 < zO6 l.length then zO6 18 else zO6 l.length).toNat l).length,(zO6 0<=if zO6 18 < zO6 l.length then zO6 18 else zO6 l.length)∧(if zO6 18 < zO6 l.length then zO6 18 else zO6 l.length)<=zO6 l.length,decide (zO6 0 < zO6 l.length)=true]):u4 XW8 a1j (f1d l) .normal (a1p (l.drop (g0z l).toNat) (i2w [] l)):=
 stp b0n 10 progOk.mixed [true] [(21,24),(22,25)] (by kernel_rfl) hl
theorem p1z (l:List UInt8) (hl:l5 [decide (zO6 0 < zO6 l.length)=false]):u4 XW8 a1j (f1d l) (.exit 0) (f1d l):=
 stp b0n 10 progOk.mixed [false] [] (by kernel_rfl) hl
theorem p1h (l:List UInt8) (xs:List Int) (hl:l5 [decide (zO6 0 < zO6 l.length)=false]):u4 XW8 a1j (a1p l xs) (.exit 0) (a1p l xs):=
 stp b0n 10 progOk.mixed [false] [] (by kernel_rfl) hl
theorem s1y (l:List UInt8) (xs:List Int) (hl:l5 [(zO6 0<=if zO6 18 < zO6 l.length then zO6 18 else zO6 l.length)∧(if zO6 18 < zO6 l.length then zO6 18 else zO6 l.length)<=zO6 l.length,(G0 xs (iQ [zO6 10] (if zO6 18 < zO6 l.length then zO6 18 else zO6 l.length))).length<=(G0 xs (iQ [zO6 10] (if zO6 18 < zO6 l.length then zO6 18 else zO6 l.length))).length,(A1 (rQ (zO10 (if zO6 18 < zO6 l.length then zO6 18 else zO6 l.length).toNat l))).length<=(A1 (rQ (zO10 (if zO6 18 < zO6 l.length then zO6 18 else zO6 l.length).toNat l))).length,Cn (zO10 (G0 xs (iQ [zO6 10] (if zO6 18 < zO6 l.length then zO6 18 else zO6 l.length))).length (G0 xs (iQ [zO6 10] (if zO6 18 < zO6 l.length then zO6 18 else zO6 l.length)))),Cn (zO10 (A1 (rQ (zO10 (if zO6 18 < zO6 l.length then zO6 18 else zO6 l.length).toNat l))).length (A1 (rQ (zO10 (if zO6 18 < zO6 l.length then zO6 18 else zO6 l.length).toNat l)))),(zO10 (G0 xs (iQ [zO6 10] (if zO6 18 < zO6 l.length then zO6 18 else zO6 l.length))).length (G0 xs (iQ [zO6 10] (if zO6 18 < zO6 l.length then zO6 18 else zO6 l.length)))).length < 549755813888,(zO10 (A1 (rQ (zO10 (if zO6 18 < zO6 l.length then zO6 18 else zO6 l.length).toNat l))).length (A1 (rQ (zO10 (if zO6 18 < zO6 l.length then zO6 18 else zO6 l.length).toNat l)))).length < 549755813888,zO6 0<=rQ (zO10 (if zO6 18 < zO6 l.length then zO6 18 else zO6 l.length).toNat l)∧(rQ (zO10 (if zO6 18 < zO6 l.length then zO6 18 else zO6 l.length).toNat l)).toNat < 18446744073709551616,xs.length=xs.length,(iQ [zO6 10] (if zO6 18 < zO6 l.length then zO6 18 else zO6 l.length)).length=(iQ [zO6 10] (if zO6 18 < zO6 l.length then zO6 18 else zO6 l.length)).length,Cn xs,Cn (iQ [zO6 10] (if zO6 18 < zO6 l.length then zO6 18 else zO6 l.length)),xs.length < 274877906944,(iQ [zO6 10] (if zO6 18 < zO6 l.length then zO6 18 else zO6 l.length)).length < 274877906944,1<=1,Cn [zO6 10],(zO6 0<=if zO6 18 < zO6 l.length then zO6 18 else zO6 l.length)∧(if zO6 18 < zO6 l.length then zO6 18 else zO6 l.length).toNat < 4611686018427387904,1+(if zO6 18 < zO6 l.length then zO6 18 else zO6 l.length).toNat*1 < 274877906944,zO6 0<=zO6 10∧10 < 18446744073709551616,Z6 (zO10 (if zO6 18 < zO6 l.length then zO6 18 else zO6 l.length).toNat l),(zO10 (if zO6 18 < zO6 l.length then zO6 18 else zO6 l.length).toNat l).length<=18,0 < (zO10 (if zO6 18 < zO6 l.length then zO6 18 else zO6 l.length).toNat l).length,(zO6 0<=if zO6 18 < zO6 l.length then zO6 18 else zO6 l.length)∧(if zO6 18 < zO6 l.length then zO6 18 else zO6 l.length)<=zO6 l.length,decide (zO6 0 < zO6 l.length)=true]):u4 XW8 a1j (a1p l xs) .normal (a1p (l.drop (g0z l).toNat) (i2w xs l)):=
 stp b0n 10 progOk.mixed [true] [(21,33),(22,34)] (by kernel_rfl) hl
theorem y0b (l l':List UInt8) (s:Bool) (R:List Int):B2 XW8 [H7 (.exit 0) (fun _=>f1d l')] 200 168 [.c (.v (.string ⟨⟨l⟩⟩))] [iL s R] [] =some [b9 XW8 a1j (m8 XW8 200 168 [.c (.v (.string ⟨⟨l⟩⟩))] []) (.exit 0) (f1d l'),zO9 false=zO9 s,R=[]] :=by kernel_rfl
theorem x0h (l l':List UInt8) (s:Bool) (xs R:List Int):B2 XW8 [H7 (.exit 0) (fun _=>a1p l' xs)] 200 168 [.c (.v (.string ⟨⟨l⟩⟩))] [iL s R] [] =some [b9 XW8 a1j (m8 XW8 200 168 [.c (.v (.string ⟨⟨l⟩⟩))] []) (.exit 0) (a1p l' xs),zO9 false=zO9 s,xs.length=R.length∧xs.length<=xs.length∧zO10 xs.length xs=R] :=by kernel_rfl
theorem u0v (l:List UInt8) (x:AX) (s':St) (h:b9 XW8 a1j (f1d l) x s'):b9 XW8 a1j (m8 XW8 200 168 [.c (.v (.string ⟨⟨l⟩⟩))] []) x s':=
 l9 h []
def dgN (l:List UInt8):Nat:=(Lib.decFrom 0 l).getD 0
theorem L5:∀ (l:List UInt8) (acc:Nat),Lib.decFrom acc l=(Lib.decFrom 0 l).map (fun n=>acc*10 ^l.length+n)
 | [],acc=>by simp [Lib.decFrom]
 | b ::r,acc=>by
  simp only [Lib.decFrom]
  cases h:Lib.digitVal b with
  | none=>rfl
  | some d=>
   simp only
   rw [L5 r (acc*10+d),L5 r (0*10+d)]
   cases Lib.decFrom 0 r with
   | none=>rfl
   | some n=>
    simp only [E6,A4,y8]
    congr 1
    rw [K8,I0,A7]
    have:acc*10*10 ^r.length=acc*(10 ^r.length*10):=by rw [r7,t7 10]
    omega
theorem fT:∀ (l m:List UInt8) (acc:Nat),Lib.decFrom acc (l++m)=(Lib.decFrom acc l).bind fun a=>Lib.decFrom a m
 | [],m,acc=>rfl
 | b ::r,m,acc=>by
  simp only [k0k,Lib.decFrom]
  cases Lib.digitVal b with
  | none=>rfl
  | some d=>exact fT r m _
theorem z0d {l:List UInt8} (h:Z6 l) (k:Nat):Z6 (l.take k)∧Z6 (l.drop k)∧dgN l=dgN (l.take k)*10 ^(l.drop k).length+dgN (l.drop k):=by
 unfold Z6 dgN at*
 have e:=fT (l.take k) (l.drop k) 0
 rw [k1n] at e
 rw [e] at h ⊢
 cases h1:Lib.decFrom 0 (l.take k) with
 | none=>rw [h1] at h; cases h
 | some a=>
  rw [h1] at h
  simp only [Option.bind_some] at h ⊢
  have s1:=L5 (l.drop k) a
  cases h2:Lib.decFrom 0 (l.drop k) with
  | none=>rw [s1,h2] at h; cases h
  | some n=>
   refine⟨rfl,rfl,?_⟩
   rw [s1,h2]
   rfl
theorem u0y:∀ {l:List UInt8},Z6 l->dgN l < 10 ^l.length:=by
 intro l
 induction l with
 | nil=>intro _; simp [dgN,Lib.decFrom]
 | cons b r ih=>
  intro h
  unfold Z6 dgN at*
  simp only [Lib.decFrom] at h ⊢
  cases hb:Lib.digitVal b with
  | none=>rw [hb] at h; cases h
  | some d=>
   rw [hb] at h
   simp only at h ⊢
   rw [L5] at h ⊢
   have hd:d < 10:=by
    unfold Lib.digitVal at hb
    split at hb
    ·cases hb; omega
    ·cases hb
   cases hr:Lib.decFrom 0 r with
   | none=>rw [hr] at h; cases h
   | some n=>
    have:=ih (by rw [hr]; rfl)
    rw [hr] at this
    simp only [aF,E6,A4,y8] at this ⊢
    rw [K8,I0]
    have q:d*10 ^r.length+10 ^r.length<=10*10 ^r.length:=by
     rw [<- Nat.succ_mul]
     exact w9 _ hd
    omega
theorem zO (k:Nat) {x:Nat} (h:x < 10 ^k):wl x<=k:=
 wl_le.2 (C8 h (xF (by decide) k))
theorem q1c {x:Nat} {l:List UInt8} (_:Z6 l) (hp:0 < l.length):∃ k:Nat,g0z l=(k:Int)∧0 < k∧k<=18∧k<=l.length∧i2s l=ws W64 (10 ^k)∧p1a (ws W64 x) l=ws W64 (x*10 ^k)∧s1o l=ws W64 (dgN (l.take k))∧i2w (ws W64 x) l=ws W64 (x*10 ^k+dgN (l.take k)):=by
 have hk:∃ k:Nat,g0z l=(k:Int)∧0 < k∧k<=18∧k<=l.length:=by
  unfold g0z
  split
  ·rename_i hlt
   exact⟨18,rfl,by decide,d9 _,by have:=zzA208.1 hlt; omega⟩
  ·rename_i hlt
   refine⟨l.length,rfl,hp,?_,d9 _⟩
   have:¬ (18 < l.length):=fun h=>hlt (zzA208.2 h)
   omega
 obtain⟨k,e1,e2,e3,e4⟩:=hk
 have eP:i2s l=ws W64 (10 ^k):=by
  unfold i2s iQ
  rw [e1,g9]
  rfl
 have eM:p1a (ws W64 x) l=ws W64 (x*10 ^k):=by unfold p1a; rw [eP,T3]
 have eW:s1o l=ws W64 (dgN (l.take k)):=by
  unfold s1o A1 rQ dgN
  rw [e1,g9,g9]
 refine⟨k,e1,e2,e3,e4,eP,eM,eW,?_⟩
 unfold i2w
 rw [eM,eW,r8,r8]
 unfold m0g
 rw [B5,B5]
 rfl
theorem u1q {N R:Nat} (hN:N < 100000000000) {x:Nat} {l:List UInt8} (h:Z6 l) (hp:0 < l.length) (hl:l.length<=N) (hx:x < 10 ^(N-l.length)) (hR:x*10 ^l.length+dgN l=R):
  ∃ (k x':Nat),0 < k∧k<=l.length∧Z6 (l.drop k)∧x' < 10 ^(N- (l.drop k).length)∧x'*10 ^(l.drop k).length+dgN (l.drop k)=R∧
   (x=0->u4 XW8 a1j (f1d l) .normal (a1p (l.drop k) (ws W64 x')))∧u4 XW8 a1j (a1p l (ws W64 x)) .normal (a1p (l.drop k) (ws W64 x')):=by
 obtain⟨k,e1,e2,e3,e4,eP,eM,eW,eX⟩:=q1c (x:=x) h hp
 obtain⟨a1,a2,a3⟩:=z0d h k
 have hdl:(l.drop k).length=l.length-k:=C2
 have htl:(l.take k).length=k:=by rw [E0]; omega
 have hd:=u0y a1
 rw [htl] at hd
 have hx10:x*10 ^k+dgN (l.take k) < 10 ^(N- (l.drop k).length):=by
  rw [hdl,show N- (l.length-k)=(N-l.length)+k by omega,n9]
  have:(x+1)*10 ^k<=10 ^(N-l.length)*10 ^k:=w9 _ hx
  rw [A7,P7] at this
  omega
 have hxm:x*10 ^k < 10 ^(N- (l.drop k).length):=by omega
 have hd18:dgN (l.take k) < 10 ^18:=C8 hd (y5 (by decide) e3)
 have hdW:dgN (l.take k) < W64:=wC hd18 (by decide)
 have w1:wl x<=N:=by have:=zO _ hx; omega
 have w2:wl (10 ^k)<=k+1:=zO (k+1) (c0b (by decide) (Q7 k))
 have w3:wl (x*10 ^k)<=N:=by have:=zO _ hxm; omega
 have w4:wl (dgN (l.take k))<=18:=zO _ hd18
 have eWt:A1 (rQ (l.take k))=ws W64 (dgN (l.take k)):=by unfold A1 rQ dgN; rw [g9]
 have ht:(g0z l).toNat=k:=by rw [e1,g9]
 have c10:Cn [zO6 10] :=by show [10] =ws W64 (val W64 [10]); decide
 have oK:zO6 0<=g0z l∧g0z l<=zO6 l.length:=by rw [e1]; exact⟨zzA207.2 (s6 _),zzA207.2 e4⟩
 have oK2:zO6 0<=g0z l∧(g0z l).toNat < 4611686018427387904:=⟨oK.1,by rw [ht]; omega⟩
 have oK3:1+(g0z l).toNat*1 < 274877906944:=by rw [ht]; omega
 have oM:Cn (zO10 (p1a (ws W64 x) l).length (p1a (ws W64 x) l)):=by rw [r8,eM]; exact Cn.ws _
 have oM2:(zO10 (p1a (ws W64 x) l).length (p1a (ws W64 x) l)).length < 549755813888:=by rw [r8,eM]; show wl _ < _; omega
 have oW:Cn (zO10 (s1o l).length (s1o l)):=by rw [r8,eW]; exact Cn.ws _
 have oW2:(zO10 (s1o l).length (s1o l)).length < 549755813888:=by rw [r8,eW]; show wl _ < _; omega
 have oD:zO6 0<=rQ (zO10 (g0z l).toNat l)∧(rQ (zO10 (g0z l).toNat l)).toNat < 18446744073709551616:=by
  rw [ht]
  unfold rQ
  exact⟨zzA207.2 (s6 _),by rw [g9]; exact hdW⟩
 have oP:Cn (i2s l):=by rw [eP]; exact Cn.ws _
 have oP2:(i2s l).length < 274877906944:=by rw [eP]; show wl _ < _; omega
 have oA:Z6 (zO10 (g0z l).toNat l):=by rw [ht]; exact a1
 have oT:(zO10 (g0z l).toNat l).length<=18:=by rw [ht,htl]; exact e3
 have oT2:0 < (zO10 (g0z l).toNat l).length:=by rw [ht,htl]; exact e2
 have oL:decide (zO6 0 < zO6 l.length)=true:=i6 (zzA208.2 hp)
 refine⟨k,x*10 ^k+dgN (l.take k),e2,e4,a2,hx10,?_,fun h0=> ?_,?_⟩
 ·rw [<- hR,a3,A7,r7,<- n9,hdl,show k+(l.length-k)=l.length by omega]
  omega
 ·subst h0
  have:=d1x l ⟨oK,d9 _,d9 _,oM,oW,oM2,oW2,oD,rfl,Cn.ws 0,oP,by decide,oP2,d9 _,c10,oK2,oK3,⟨by decide,by decide⟩,oA,oT,oT2,oK,oL,a6⟩
  rw [ht,show i2w [] l=i2w (ws W64 0) l from rfl,eX] at this
  exact this
 ·have:=s1y l (ws W64 x) ⟨oK,d9 _,d9 _,oM,oW,oM2,oW2,oD,rfl,rfl,Cn.ws x,oP,by show wl x < _; omega,oP2,d9 _,c10,oK2,oK3,⟨by decide,by decide⟩,oA,oT,oT2,oK,oL,a6⟩
  rw [ht,eX] at this
  exact this
structure PaPl where
 first:Bool
 x:Nat
 l:List UInt8
def TPa (p:PaPl):St:=match p.first with
 | true=>f1d p.l
 | false=>a1p p.l (ws W64 p.x)
def j2k (N R:Nat) (p:PaPl):Prop:=Z6 p.l∧p.l.length<=N∧p.x < 10 ^(N-p.l.length)∧p.x*10 ^p.l.length+dgN p.l=R∧(p.first=true->p.x=0∧0 < p.l.length)
theorem a1w {l:List UInt8} (h:Z6 l) (hN:l.length < 100000000000):Ev.Sem zO8 J0 168 [.c (.v (.string ⟨⟨l⟩⟩))] [iW false (ws W64 (dgN l))] :=by
 rcases Q5 l.length with h0 | h0
 ·have:=cJ h0
  subst this
  have hL:b9 XW8 a1j (f1d []) (.exit 0) (f1d []):=x5 (fun _=>f1d []) 0 (by intro e; cases e) (fun k hk=>by omega) (p1z [] ⟨rfl,a6⟩)
  exact l7 b0n 10 _ _ (y0b [] [] false _) ⟨u0v _ _ _ hL,rfl,rfl,a6⟩
 ·have hL:=C0 (X:=XW8) (c:=a1j) (x:= .exit 0) TPa (fun p=>p.l.length) (j2k l.length (dgN l)) (by intro e; cases e) (s':=a1p [] (ws W64 (dgN l))) (fun p hp=>by
   obtain⟨f,x,r⟩:=p
   obtain⟨g1,g2,g3,g4,g5⟩:=hp
   simp only at g1 g2 g3 g4 g5
   rcases Q5 r.length with q | q
   ·have:=cJ q
    subst this
    cases f
    ·right
     have e:x=dgN l:=by
      rw [<- g4]
      simp [dgN,Lib.decFrom]
     subst e
     exact p1h [] _ ⟨rfl,a6⟩
    ·exact absurd (g5 rfl).2 (by simp)
   ·left
    obtain⟨k,x',k1,k2,k3,k4,k5,k6,k7⟩:=u1q hN g1 q g2 g3 g4
    refine⟨⟨false,x',r.drop k⟩,⟨k3,by simp only [C2]; omega,k4,k5,by intro e; cases e⟩,by simp only [C2]; omega,?_⟩
    cases f
    ·exact k7
    ·exact k6 (g5 rfl).1) ⟨true,0,l⟩ ⟨h,d9 _,by simp,by simp,fun _=>⟨rfl,h0⟩⟩
  exact l7 b0n 10 _ _ (x0h l [] false _ _) ⟨u0v _ _ _ hL,rfl,⟨rfl,d9 _,r8⟩,a6⟩
def S7 (l:List UInt8):List Int:=ws W64 (dgN l)
def tW:List Arg->Option (List Arg×List Prop)
 | [.c (.v (.string s))] =>some ([iW false (S7 s.data.toList)],[Z6 s.data.toList,s.data.toList.length < 100000000000])
 | _=>none
theorem h0v:∀ az rs l,tW az=some (rs,l)->l5 l->Ev.Sem zO8 J0 168 az rs:=by
 intro az rs l h hl
 unfold tW at h
 split at h
 ·cases h
  obtain⟨h1,h2,_⟩:=hl
  exact a1w h1 h2
 ·cases h
def y1a:iV:=o8 168 (A3 [shV] tW) a1z
theorem h1u:iS zO8 J0 y1a:=j0 (m9 _ h0v) j0k
theorem z1r {xs ys:List Int} (hy:Cn ys):t1a false false xs ys=if val W64 xs < val W64 ys then -1 else if val W64 xs=val W64 ys then 0 else 1:=by
 unfold t1a s2z t2g m0g l2x
 rw [B5]
 have hl:0 < ys.length↔0 < val W64 ys:=by
  have:=wl_pos (m:=val W64 ys)
  unfold wl at this
  rw [<- hy] at this
  exact this
 unfold y1u z1d
 by_cases h:0 < ys.length
 ·have hp:=hl.1 h
  rw [i6 h]
  simp only [wA,zW,O6,E7,Bool.false_and,cF]
  rcases Z8 (val W64 xs) (val W64 ys) with c | c | c
  ·have h1:¬ val W64 ys<=val W64 xs:=by omega
   have h2:¬ (val W64 ys-val W64 xs=0):=by omega
   have h3:val W64 xs < val W64 ys:=c
   simp [h1,h2,h3]
  ·have h1:val W64 ys<=val W64 xs:=by omega
   have h2:val W64 xs-val W64 ys=0:=by omega
   have h3:¬ val W64 xs < val W64 ys:=by omega
   simp [c]
  ·have h1:val W64 ys<=val W64 xs:=by omega
   have h2:¬ (val W64 xs-val W64 ys=0):=by omega
   have h3:¬ val W64 xs < val W64 ys:=by omega
   have h4:¬ val W64 xs=val W64 ys:=by omega
   simp [h1,h2,h3,h4]
 ·have hp:val W64 ys=0:=by
   rcases Q5 (val W64 ys) with c | c
   ·exact c
   ·exact absurd (hl.2 c) h
  rw [d8 h,hp]
  simp only [wA,Bool.and_false,H9,I1,Bool.false_and,Nat.not_lt_zero,E7]
  split <;> rfl
def w2v (xs:List Int):Int:=((val W64 xs%W64:Nat):Int)
def g0o:List Arg->Option (List Arg×List Prop)
 | [.a [.v (.bool _), .s 27 .u64 xs]] =>some ([uR (w2v xs)],[Cn xs])
 | _=>none
theorem n0b:∀ az rs l,g0o az=some (rs,l)->l5 l->Ev.Sem zO8 J0 172 az rs:=by
 intro az rs l h hl
 unfold g0o at h
 split at h
 ·rename_i a xs
  cases h
  have h1:xs=ws W64 (val W64 xs):=hl.1
  have:=f1u a (val W64 xs)
  unfold iN at this
  rw [<- h1] at this
  exact this
 ·cases h
def d1n:iV:=o8 172 (A3 [shI] g0o) y1a
theorem j0j:iS zO8 J0 d1n:=j0 (m9 _ n0b) h1u
def bWA:Base:=⟨zO8,J0,false,e1t,d1n,200,L7⟩
theorem i0a:BaseOk bWA:=⟨progOk,sH,j0j,r5⟩
abbrev XWA:Cx:=bWA.cx 10
theorem f2q {n:Nat} (h:n < W64):bits .and .u64 (n:Int) 1=((n%2:Nat):Int):=by
 have h':n < 18446744073709551616:=h
 have hW:(2:Nat) ^64=18446744073709551616:=by decide
 unfold bits
 simp only [IntKind.bits,i0r]
 show uI.wrap _=_
 have e:(BitVec.ofNat 64 n&&& zO11 64 1).toNat=n%2:=by
  rw [pC,i0u]
  rw [G7 (by omega)]
  exact Nat.and_one_is_mod n
 refine Eq.trans (aP (fun z:Nat=>uI.wrap ((z:Nat):Int)) e) ?_
 show uI.wrap ((n%2:Nat):Int)=_
 rw [R5]
 omega
abbrev vlA (n a:Bool) (N:List Int) (b:Bool) (D:List Int):Arg:= .a [.v (.bool n), .v (.bool false), .v (.bool a), .s bP .u64 N, .v (.bool b), .s bP .u64 D]
abbrev bR (b:Bool):Arg:= .c (.v (.bool b))
theorem u2j (n s w:Bool) (N D Q:List Int) (e h:Int):B2 XWA [] 200 171 [vlA n false N false D,iR e] [iL s Q,iR h,bR w] [false,true,true] =some [N.length=N.length,Cn N,(r9 N (zO6 1)).length=(r9 N (zO6 1)).length,(r9 D e).length=(r9 D e).length,Cn (r9 N (zO6 1)),Cn (r9 D e),(r9 N (zO6 1)).length < 549755813888,(r9 D e).length < 549755813888,N.length=N.length,Cn N,N.length < 549755813888,zO6 0<=zO6 1∧1 < 549755813888,Cn N,Cn (zO10 (r9 D e).length (r9 D e)),N.length < 274877906944,(zO10 (r9 D e).length (r9 D e)).length < 274877906944,l0g N (zO10 (r9 D e).length (r9 D e)),N.length=N.length,(r9 D e).length<=(r9 D e).length,D.length=D.length,Cn D,D.length < 549755813888,zO6 0<=e∧e.toNat < 549755813888,decide (zO6 0<=e)=true,false=false,zO9 false=zO9 s,Q=[],zO2 iI (t1a (h0a false (r9 N (zO6 1))) (h0a false (r9 D e)) (r9 N (zO6 1)) (r9 D e))=zO2 iI h,zO9 ((if val 18446744073709551616 N=0 then zO6 0 else zO6 1)==zO6 0)=zO9 w] :=by kernel_rfl
theorem x2r (n s w:Bool) (N D Q:List Int) (e h:Int):B2 XWA [] 200 171 [vlA n false N false D,iR e] [iL s Q,iR h,bR w] [false,true,false] =some [(hC N (zO10 (r9 D e).length (r9 D e))).length=(hC N (zO10 (r9 D e).length (r9 D e))).length,Cn (hC N (zO10 (r9 D e).length (r9 D e))),(r9 (hC N (zO10 (r9 D e).length (r9 D e))) (zO6 1)).length=(r9 (hC N (zO10 (r9 D e).length (r9 D e))) (zO6 1)).length,(r9 D e).length=(r9 D e).length,Cn (r9 (hC N (zO10 (r9 D e).length (r9 D e))) (zO6 1)),Cn (r9 D e),(r9 (hC N (zO10 (r9 D e).length (r9 D e))) (zO6 1)).length < 549755813888,(r9 D e).length < 549755813888,(hC N (zO10 (r9 D e).length (r9 D e))).length=(hC N (zO10 (r9 D e).length (r9 D e))).length,Cn (hC N (zO10 (r9 D e).length (r9 D e))),(hC N (zO10 (r9 D e).length (r9 D e))).length < 549755813888,zO6 0<=zO6 1∧1 < 549755813888,N.length=N.length,(r9 D e).length<=(r9 D e).length,Cn N,Cn (zO10 (r9 D e).length (r9 D e)),N.length < 274877906944,0 < (zO10 (r9 D e).length (r9 D e)).length,l0g N (zO10 (r9 D e).length (r9 D e))->False,D.length=D.length,Cn D,D.length < 549755813888,zO6 0<=e∧e.toNat < 549755813888,decide (zO6 0<=e)=true,false=false,zO9 false=zO9 s,(w0q N (zO10 (r9 D e).length (r9 D e))).length=Q.length∧(w0q N (zO10 (r9 D e).length (r9 D e))).length<=(w0q N (zO10 (r9 D e).length (r9 D e))).length∧zO10 (w0q N (zO10 (r9 D e).length (r9 D e))).length (w0q N (zO10 (r9 D e).length (r9 D e)))=Q,zO2 iI (t1a (h0a false (r9 (hC N (zO10 (r9 D e).length (r9 D e))) (zO6 1))) (h0a false (r9 D e)) (r9 (hC N (zO10 (r9 D e).length (r9 D e))) (zO6 1)) (r9 D e))=zO2 iI h,zO9 ((if val 18446744073709551616 (hC N (zO10 (r9 D e).length (r9 D e)))=0 then zO6 0 else zO6 1)==zO6 0)=zO9 w] :=by kernel_rfl
theorem y2b (n s w:Bool) (N D Q:List Int) (e h:Int):B2 XWA [] 200 171 [vlA n false N false D,iR e] [iL s Q,iR h,bR w] [false,false,true] =some [(r9 N (iI.wrap (zO6 0-e))).length=(r9 N (iI.wrap (zO6 0-e))).length,Cn (r9 N (iI.wrap (zO6 0-e))),(r9 (r9 N (iI.wrap (zO6 0-e))) (zO6 1)).length=(r9 (r9 N (iI.wrap (zO6 0-e))) (zO6 1)).length,D.length=D.length,Cn (r9 (r9 N (iI.wrap (zO6 0-e))) (zO6 1)),Cn D,(r9 (r9 N (iI.wrap (zO6 0-e))) (zO6 1)).length < 549755813888,D.length < 549755813888,(r9 N (iI.wrap (zO6 0-e))).length=(r9 N (iI.wrap (zO6 0-e))).length,Cn (r9 N (iI.wrap (zO6 0-e))),(r9 N (iI.wrap (zO6 0-e))).length < 549755813888,zO6 0<=zO6 1∧1 < 549755813888,Cn (zO10 (r9 N (iI.wrap (zO6 0-e))).length (r9 N (iI.wrap (zO6 0-e)))),Cn D,(zO10 (r9 N (iI.wrap (zO6 0-e))).length (r9 N (iI.wrap (zO6 0-e)))).length < 274877906944,D.length < 274877906944,l0g (zO10 (r9 N (iI.wrap (zO6 0-e))).length (r9 N (iI.wrap (zO6 0-e)))) D,(r9 N (iI.wrap (zO6 0-e))).length<=(r9 N (iI.wrap (zO6 0-e))).length,D.length=D.length,N.length=N.length,Cn N,N.length < 549755813888,zO6 0<=iI.wrap (zO6 0-e)∧(iI.wrap (zO6 0-e)).toNat < 549755813888,decide (zO6 0<=e)=false,false=false,zO9 false=zO9 s,Q=[],zO2 iI (t1a (h0a (h0a false (r9 N (iI.wrap (zO6 0-e)))) (r9 (r9 N (iI.wrap (zO6 0-e))) (zO6 1))) false (r9 (r9 N (iI.wrap (zO6 0-e))) (zO6 1)) D)=zO2 iI h,zO9 ((if val 18446744073709551616 (r9 N (iI.wrap (zO6 0-e)))=0 then zO6 0 else zO6 1)==zO6 0)=zO9 w] :=by kernel_rfl
theorem v2t (n s w:Bool) (N D Q:List Int) (e h:Int):B2 XWA [] 200 171 [vlA n false N false D,iR e] [iL s Q,iR h,bR w] [false,false,false] =some [(hC (zO10 (r9 N (iI.wrap (zO6 0-e))).length (r9 N (iI.wrap (zO6 0-e)))) D).length=(hC (zO10 (r9 N (iI.wrap (zO6 0-e))).length (r9 N (iI.wrap (zO6 0-e)))) D).length,Cn (hC (zO10 (r9 N (iI.wrap (zO6 0-e))).length (r9 N (iI.wrap (zO6 0-e)))) D),(r9 (hC (zO10 (r9 N (iI.wrap (zO6 0-e))).length (r9 N (iI.wrap (zO6 0-e)))) D) (zO6 1)).length=(r9 (hC (zO10 (r9 N (iI.wrap (zO6 0-e))).length (r9 N (iI.wrap (zO6 0-e)))) D) (zO6 1)).length,D.length=D.length,Cn (r9 (hC (zO10 (r9 N (iI.wrap (zO6 0-e))).length (r9 N (iI.wrap (zO6 0-e)))) D) (zO6 1)),Cn D,(r9 (hC (zO10 (r9 N (iI.wrap (zO6 0-e))).length (r9 N (iI.wrap (zO6 0-e)))) D) (zO6 1)).length < 549755813888,D.length < 549755813888,(hC (zO10 (r9 N (iI.wrap (zO6 0-e))).length (r9 N (iI.wrap (zO6 0-e)))) D).length=(hC (zO10 (r9 N (iI.wrap (zO6 0-e))).length (r9 N (iI.wrap (zO6 0-e)))) D).length,Cn (hC (zO10 (r9 N (iI.wrap (zO6 0-e))).length (r9 N (iI.wrap (zO6 0-e)))) D),(hC (zO10 (r9 N (iI.wrap (zO6 0-e))).length (r9 N (iI.wrap (zO6 0-e)))) D).length < 549755813888,zO6 0<=zO6 1∧1 < 549755813888,(r9 N (iI.wrap (zO6 0-e))).length<=(r9 N (iI.wrap (zO6 0-e))).length,D.length=D.length,Cn (zO10 (r9 N (iI.wrap (zO6 0-e))).length (r9 N (iI.wrap (zO6 0-e)))),Cn D,(zO10 (r9 N (iI.wrap (zO6 0-e))).length (r9 N (iI.wrap (zO6 0-e)))).length < 274877906944,0 < D.length,l0g (zO10 (r9 N (iI.wrap (0-e))).length (r9 N (iI.wrap (0-e)))) D->False,N.length=N.length,Cn N,N.length < 549755813888,zO6 0<=iI.wrap (zO6 0-e)∧(iI.wrap (zO6 0-e)).toNat < 549755813888,decide (zO6 0<=e)=false,false=false,zO9 false=zO9 s,(w0q (zO10 (r9 N (iI.wrap (zO6 0-e))).length (r9 N (iI.wrap (zO6 0-e)))) D).length=Q.length∧(w0q (zO10 (r9 N (iI.wrap (zO6 0-e))).length (r9 N (iI.wrap (zO6 0-e)))) D).length<=(w0q (zO10 (r9 N (iI.wrap (zO6 0-e))).length (r9 N (iI.wrap (zO6 0-e)))) D).length∧zO10 (w0q (zO10 (r9 N (iI.wrap (zO6 0-e))).length (r9 N (iI.wrap (zO6 0-e)))) D).length (w0q (zO10 (r9 N (iI.wrap (zO6 0-e))).length (r9 N (iI.wrap (zO6 0-e)))) D)=Q,zO2 iI (t1a (h0a false (r9 (hC (zO10 (r9 N (iI.wrap (zO6 0-e))).length (r9 N (iI.wrap (zO6 0-e)))) D) (zO6 1))) false (r9 (hC (zO10 (r9 N (iI.wrap (zO6 0-e))).length (r9 N (iI.wrap (zO6 0-e)))) D) (zO6 1)) D)=zO2 iI h,zO9 ((if val 18446744073709551616 (hC (zO10 (r9 N (iI.wrap (zO6 0-e))).length (r9 N (iI.wrap (zO6 0-e)))) D)=0 then zO6 0 else zO6 1)==zO6 0)=zO9 w] :=by kernel_rfl
theorem f2k (s:Bool) (R:List Int) (n:Int):B2 XWA [] 200 169 [iR n] [iL s R] [] =some [1<=1,Cn [zO6 10],zO6 0<=n∧n.toNat < 4611686018427387904,1+n.toNat*1 < 274877906944,zO6 0<=zO6 10∧10 < 18446744073709551616,zO9 false=zO9 s,(iQ [zO6 10] n).length=R.length∧(iQ [zO6 10] n).length<=(iQ [zO6 10] n).length∧zO10 (iQ [zO6 10] n).length (iQ [zO6 10] n)=R] :=by kernel_rfl
def atA (N:Nat) (e:Int):Nat:=if 0<=e then N else N*2 ^(-e).toNat
def atB (D:Nat) (e:Int):Nat:=if 0<=e then D*2 ^e.toNat else D
def cmN (a b:Nat):Int:=if a < b then -1 else if a=b then 0 else 1
theorem g0j (a:Nat) (n:Int):r9 (ws W64 a) n=ws W64 (a*2 ^n.toNat):=by unfold r9; rw [B5]
theorem d1i (a b:Nat):w0q (ws W64 a) (ws W64 b)=ws W64 (a/b):=by unfold w0q; rw [B5,B5]
theorem n1i (a b:Nat):hC (ws W64 a) (ws W64 b)=ws W64 (a%b):=by unfold hC; rw [B5,B5]
theorem c0x (m:Nat):val 18446744073709551616 (ws W64 m)=m:=B5 m
theorem e0q (a b:Nat):t1a false false (ws W64 a) (ws W64 b)=cmN a b:=by
 rw [z1r (Cn.ws b),B5,B5]; rfl
theorem u1l (xs:List Int):h0a false xs=false:=rfl
theorem R7 (a b:Nat):l0g (ws W64 a) (ws W64 b)↔a < b:=by unfold l0g; rw [B5,B5]
theorem v0v (r:Nat):((if r=0 then zO6 0 else zO6 1)==zO6 0)=decide (r=0):=by
 by_cases h:r=0
 ·rw [f9 h,i6 h]; rfl
 ·rw [a7 h,d8 h]; rfl
theorem x1r (r:Nat):wl (r*2 ^(zO6 1).toNat)<=wl r+1:=by
 have:=c1n r (2 ^(zO6 1).toNat)
 have h2:wl (2 ^(zO6 1).toNat)<=1:=wl_le.2 (by decide)
 omega
theorem q2e (n:Bool) {N D:Nat} {e:Int} (hD:0 < D) (h1:wl N < 100000000000) (h2:wl D < 100000000000) (h3:wl (atA N e) < 100000000000) (h4:wl (atB D e) < 100000000000) (he: -500000000000<=e∧e<=500000000000):
  Ev.Sem zO8 J0 171 [vlA n false (ws W64 N) false (ws W64 D),iR e] [iL false (ws W64 (atA N e/atB D e)),iR (cmN (atA N e%atB D e*2) (atB D e)),bR (decide (atA N e%atB D e=0))] :=by
 have hw1:=x1r (atA N e)
 have hw2:=x1r (atA N e%atB D e)
 have hm:wl (atA N e%atB D e)<=wl (atA N e):=gU (Nat.mod_le _ _)
 by_cases h0:0<=e
 ·have hA:atA N e=N:=f9 h0
  have hB:atB D e=D*2 ^e.toNat:=f9 h0
  have d0:decide (zO6 0<=e)=true:=i6 h0
  have hBp:0 < atB D e:=by rw [hB]; exact F0 hD (s7 (by decide))
  by_cases hlt:atA N e < atB D e
  ·rw [mK hlt,G7 hlt]
   refine l7 i0a 10 _ _ (u2j n false _ (ws W64 N) (ws W64 D) [] e _) ?_
   simp only [hA,hB] at h3 h4 hw1 hw2 hm hlt hBp ⊢
   simp only [l5,g0j,r8,u1l,e0q,c0x,v0v]
   repeat' apply And.intro
   all_goals first
    | exact trivial
    | exact rfl
    | exact Cn.ws _
    | exact d9 _
    | assumption
    | exact (R7 _ _).2 hlt
    | exact fun h=>hlt ((R7 _ _).1 h)
    | (show wl _ < _; omega)
    | (show 0 < wl _; exact wl_pos.2 hBp)
    | decide
    | omega
    | (show (0:Int)<=-e; omega)
  ·refine l7 i0a 10 _ _ (x2r n false _ (ws W64 N) (ws W64 D) (ws W64 (atA N e/atB D e)) e _) ?_
   simp only [hA,hB] at h3 h4 hw1 hw2 hm hlt hBp ⊢
   simp only [l5,g0j,d1i,n1i,r8,u1l,e0q,c0x,v0v]
   repeat' apply And.intro
   all_goals first
    | exact trivial
    | exact rfl
    | exact Cn.ws _
    | exact d9 _
    | assumption
    | exact (R7 _ _).2 hlt
    | exact fun h=>hlt ((R7 _ _).1 h)
    | (show wl _ < _; omega)
    | (show 0 < wl _; exact wl_pos.2 hBp)
    | decide
    | omega
    | (show (0:Int)<=-e; omega)
 ·have hA:atA N e=N*2 ^(-e).toNat:=a7 h0
  have hB:atB D e=D:=a7 h0
  have d0:decide (zO6 0<=e)=false:=d8 h0
  have hBp:0 < atB D e:=by rw [hB]; exact hD
  have hW:iI.wrap (zO6 0-e)= -e:=by
   have:=y3 (zO6 0-e)
   have e0:zO6 0-e=0-e:=rfl
   rw [e0] at this ⊢
   omega
  have hV:iI.wrap (0-e)= -e:=hW
  by_cases hlt:atA N e < atB D e
  ·rw [mK hlt,G7 hlt]
   refine l7 i0a 10 _ _ (y2b n false _ (ws W64 N) (ws W64 D) [] e _) ?_
   simp only [hA,hB] at h3 h4 hw1 hw2 hm hlt hBp ⊢
   simp only [l5,hW,g0j,r8,u1l,e0q,c0x,v0v]
   repeat' apply And.intro
   all_goals first
    | exact trivial
    | exact rfl
    | exact Cn.ws _
    | exact d9 _
    | assumption
    | exact (R7 _ _).2 hlt
    | exact fun h=>hlt ((R7 _ _).1 h)
    | (show wl _ < _; omega)
    | (show 0 < wl _; exact wl_pos.2 hBp)
    | decide
    | omega
    | (show (0:Int)<=-e; omega)
  ·refine l7 i0a 10 _ _ (v2t n false _ (ws W64 N) (ws W64 D) (ws W64 (atA N e/atB D e)) e _) ?_
   simp only [hA,hB] at h3 h4 hw1 hw2 hm hlt hBp ⊢
   simp only [l5,hW,g0j,d1i,n1i,r8,u1l,e0q,c0x,v0v]
   repeat' apply And.intro
   all_goals first
    | exact trivial
    | exact rfl
    | exact Cn.ws _
    | exact d9 _
    | assumption
    | exact (R7 _ _).2 hlt
    | exact fun h=>hlt ((R7 _ _).1 (by rw [hW] at h; exact h))
    | exact fun h=>hlt ((R7 _ _).1 (by rw [hV] at h; exact h))
    | (show wl _ < _; omega)
    | (show 0 < wl _; exact wl_pos.2 hBp)
    | decide
    | omega
    | (show (0:Int)<=-e; omega)
def atQ (N D:List Int) (e:Int):List Int:=ws W64 (atA (val W64 N) e/atB (val W64 D) e)
def atH (N D:List Int) (e:Int):Int:=cmN (atA (val W64 N) e%atB (val W64 D) e*2) (atB (val W64 D) e)
def atZ (N D:List Int) (e:Int):Bool:=decide (atA (val W64 N) e%atB (val W64 D) e=0)
def w2m (N D:List Int) (e:Int):Prop:=Cn N∧Cn D∧0 < val W64 D∧N.length < 100000000000∧D.length < 100000000000∧wl (atA (val W64 N) e) < 100000000000∧wl (atB (val W64 D) e) < 100000000000∧-500000000000<=e∧e<=500000000000
def f0d (w:Bool):List Arg->Option (List Arg×List Prop)
 | [.a [.v (.bool _), .v (.bool false), .v (.bool false), .s 27 .u64 N, .v (.bool false), .s 27 .u64 D], .c (.v (.int .i64 e))] =>some ([iL false (atQ N D e),iR (atH N D e),bR w],[w2m N D e,atZ N D e=w])
 | _=>none
theorem c0e (w:Bool):∀ az rs l,f0d w az=some (rs,l)->l5 l->Ev.Sem zO8 J0 171 az rs:=by
 intro az rs l h hl
 unfold f0d at h
 split at h
 ·cases h
  rename_i n N D e
  obtain⟨⟨c1,c2,hD,h1,h2,h3,h4,h5,h6⟩,hz,_⟩:=hl
  unfold Cn at c1 c2
  have:=q2e n (N:=val W64 N) (D:=val W64 D) (e:=e) hD (by unfold wl; rw [<- c1]; exact h1) (by unfold wl; rw [<- c2]; exact h2) h3 h4 ⟨h5,h6⟩
  rw [<- c1,<- c2] at this
  rw [<- hz]
  exact this
 ·cases h
def Z1 (n:Int):List Int:=ws W64 (10 ^n.toNat)
theorem c2g {n:Nat} (h:n < 100000000000):Ev.Sem zO8 J0 169 [iR n] [iL false (ws W64 (10 ^n))] :=by
 have c10:Cn [zO6 10] :=by show [10] =ws W64 (val W64 [10]); decide
 have e:iQ [10] (n:Int)=ws W64 (10 ^n):=by
  unfold iQ
  rw [g9]
  rfl
 refine l7 i0a 10 _ _ (f2k false (ws W64 (10 ^n)) n) ?_
 simp only [l5,r8]
 repeat' apply And.intro
 all_goals first
  | exact trivial
  | exact rfl
  | exact c10
  | exact d9 _
  | exact w7 _
  | decide
  | (rw [g9]; omega)
def n0o:List Arg->Option (List Arg×List Prop)
 | [.c (.v (.int .i64 n))] =>some ([iL false (Z1 n)],[0<=n∧n < 100000000000])
 | _=>none
theorem x0r:∀ az rs l,n0o az=some (rs,l)->l5 l->Ev.Sem zO8 J0 169 az rs:=by
 intro az rs l h hl
 unfold n0o at h
 split at h
 ·cases h
  rename_i n
  obtain⟨⟨h1,h2⟩,_⟩:=hl
  obtain⟨m,rfl⟩:=kU h1
  have:=c2g (n:=m) (by omega)
  exact this
 ·cases h
abbrev shM:AS:= .a [.v, .v, .v, .s bP .u64, .v, .s bP .u64]
def vJ:iV:=o8 171 (oB (A3 [shM,shV] (f0d true)) (A3 [shM,shV] (f0d false))) (o8 169 (A3 [shV] n0o) d1n)
theorem fJ:iS zO8 J0 vJ:=j0 (eV (m9 _ (c0e true)) (m9 _ (c0e false))) (j0 (m9 _ x0r) j0j)
def bRo1:Base:=⟨zO8,J0,false,e1t,vJ,200,L7⟩
theorem vG:BaseOk bRo1:=⟨progOk,sH,fJ,r5⟩
abbrev z2h:Cx:=bRo1.cx 10
abbrev kR (a b c:Int):Arg:= .a [.v (.int .i64 a), .v (.int .i64 b), .v (.int .i64 c)]
abbrev fR (a b c:Bool):Arg:= .a [.v (.bool a), .v (.bool b), .v (.bool c)]
def flN (K:Int) (N D:List Int):Int:=iI.wrap (iI.wrap (iI.wrap (w1p N-w1p D)-K)-2)
def flE (K L:Int) (N D:List Int):Int:=if L < flN K N D then flN K N D else L
def flO (K:Int) (Q:List Int):Int:=iI.wrap (w1p Q-K)
abbrev flM (Q:List Int):Int:=w2v (Q.take Q.length)
def flU (Q:List Int):Int:=uI.wrap (flM Q+1)
def flB (h:Int) (Q:List Int):Bool:=match decide (h > 0) with | true=>true | false=>match h==0 with | true=>bits .and .u64 (flM Q) 1==1 | false=>false
def flC (P:Nat) (m:Int):Bool:=decide (zO6 0 < Int.fdiv m (zO6 P))
def flH (m:Int):Int:=uI.wrap (Int.tdiv m 2)
def flV (P:Nat) (Q:List Int):Bool:=Int.fdiv (flM Q) (zO6 P)==zO6 0
abbrev d1e (N D:List Int):List Prop:=[false=false,D.length=D.length,Cn D,D.length < 549755813888,N.length=N.length,Cn N,N.length < 549755813888]
abbrev r2q (N D:List Int) (e:Int) (w:Bool):List Prop:=[N.length=N.length,D.length=D.length,w2m N D e,atZ N D e=w]
abbrev c3a (K:Int) (Q:List Int) (b:Bool):List Prop:=[decide (0 < flO K Q)=b,Q.length=Q.length,Cn Q,Q.length < 549755813888]
abbrev g2z (Q:List Int):List Prop:=[Q.length<=Q.length,Cn (Q.take Q.length)]
abbrev r2d (m' e':Int) (i' a' b' c':Bool) (m e:Int) (i a b c:Bool):List Prop:=[zO2 .u64 m'=zO2 .u64 m,zO2 .i64 e'=zO2 .i64 e,zO9 i'=zO9 i,zO9 a'=zO9 a,zO9 b'=zO9 b,zO9 c'=zO9 c]
abbrev XRl:Cx:=bRo1.cxl 10
inductive Fk where
 | d
 | s
def Fk.I:Fk->Int
 | .d=>53
 | .s=>24
def Fk.J:Fk->Int
 | .d=>52
 | .s=>23
def Fk.L:Fk->Int
 | .d=> -1074
 | .s=> -149
def Fk.M:Fk->Int
 | .d=>971
 | .s=>104
def Fk.P:Fk->Nat
 | .d=>9007199254740992
 | .s=>16777216
def Fk.Q:Fk->Nat
 | .d=>4503599627370496
 | .s=>8388608
section
variable (k:Fk) (g:Option Bool) (w up car le:Bool) (n:Bool) (N D:List Int) (m e:Int) (i a b c:Bool)
def s2w:Int:=iI.wrap (flE k.I k.L N D+flO k.I (atQ N D (flE k.I k.L N D)))
def h1q:Int:=match g with
 | none=>flE k.I k.L N D
 | some _=>s2w k N D
def i2l:Int:=match up with
 | true=>flU (atQ N D (h1q k g N D))
 | false=>flM (atQ N D (h1q k g N D))
def b3d:Int:=match car with
 | true=>flH (i2l k g up N D)
 | false=>i2l k g up N D
def m2t:Int:=match car with
 | true=>iI.wrap (h1q k g N D+1)
 | false=>h1q k g N D
def r2h:List Bool:=match g with
 | none=>[false,w,false] ++([up,car,le] ++match le with | true=>[] | false=>[false])
 | some w1=>[false,w1,true,w] ++([up,car,le] ++match le with | true=>[] | false=>[false])
def n2f:List Prop:=match le with
 | true=>[]
 | false=>[false=false]
def u1g:List Prop:=match w with
 | true=>[false=false]
 | false=>[flB (atH N D (h1q k g N D)) (atQ N D (h1q k g N D))=up,zO6 0<=zO6 1∧zO6 1 < zO6 7,0<=k.J]
def d2i:List Prop:=match g with
 | none=>[]
 | some _=>r2q N D (s2w k N D) w
def u2z:Bool:=match g with
 | none=>w
 | some w1=>w1
def t2e:Bool:=match w with
 | true=>false
 | false=>flV k.Q (atQ N D (h1q k g N D))
def d3n:List Prop:=match le with
 | true=>r2d (b3d k g up car N D) (m2t k g car N D) false (!w) false (t2e k g w N D) m e i a b c
 | false=>r2d 0 0 true true true (t2e k g w N D) m e i a b c
def q1k:List Prop:=c3a k.I (atQ N D (flE k.I k.L N D)) g.isSome
def x2y:List Prop:=n2f le++([decide (m2t k g car N D<=k.M)=le,flC k.P (i2l k g up N D)=car,0<=k.I] ++(u1g k g w up N D++(g2z (atQ N D (h1q k g N D))++(d2i k g w N D++(q1k k g N D++(r2q N D (flE k.I k.L N D) (u2z g w)++(d1e N D++d3n k g w up car le N D m e i a b c)))))))
theorem o2f (hv:(w && up)=false∧(car && !up)=false):B2 XRl [] 200 101 [vlA n false N false D,kR k.I k.L k.M,iR 1] [uR m,iR e,bR i,fR a b c] (r2h g w up car le)=some (x2y k g w up car le N D m e i a b c):=by
 rcases g with _ | _ | _ <;> cases k <;> cases w <;> cases up <;> cases car <;> cases le <;> first | (exact absurd hv (by decide)) | kernel_rfl
end
def flq (N D:Nat) (e:Int):Nat:=atA N e/atB D e
def flr (N D:Nat) (e:Int):Nat:=atA N e%atB D e
def X5 (K:Nat) (L:Int) (N D:Nat):Int:=if L < (bl N:Int)-bl D-K-2 then (bl N:Int)-bl D-K-2 else L
def B9 (K:Nat) (L:Int) (N D:Nat):Int:=if K < bl (flq N D (X5 K L N D)) then X5 K L N D+((bl (flq N D (X5 K L N D)):Int)-K) else X5 K L N D
def flw (N D:Nat) (e:Int):Bool:=decide (flr N D e=0)
def flh (N D:Nat) (e:Int):Int:=cmN (flr N D e*2) (atB D e)
def upB (h:Int) (q:Nat):Bool:=decide (0 < h) || (decide (h=0) && decide (q%2=1))
def xZ (N D:Nat) (e:Int):Bool:= !flw N D e && upB (flh N D e) (flq N D e)
def flm (N D:Nat) (e:Int):Nat:=if xZ N D e=true then flq N D e+1 else flq N D e
def m0o (K:Nat) (N D:Nat) (e:Int):Nat:=if 2 ^K<=flm N D e then flm N D e/2 else flm N D e
def k0h (K:Nat) (N D:Nat) (e:Int):Int:=if 2 ^K<=flm N D e then e+1 else e
def G9 (K:Nat) (M:Int) (N D:Nat) (e:Int):Bool:=decide (M < k0h K N D e)
def h0k (K:Nat) (N D:Nat) (e:Int):Bool:= !flw N D e && decide (flq N D e < 2 ^(K-1))
abbrev k1i (K:Nat) (M:Int) (N D:Nat) (e:Int):List Arg:=if G9 K M N D e=true then [uR 0,iR 0,bR true,fR true true (h0k K N D e)] else [uR (m0o K N D e),iR (k0h K N D e),bR false,fR (!flw N D e) false (h0k K N D e)]
theorem g2g {D:Nat} (hD:0 < D) (e:Int):0 < atB D e:=by
 unfold atB
 split
 ·exact F0 hD (s7 (by decide))
 ·exact hD
theorem uS {N D:Nat} (e:Int) (s:Nat):flq N D (e+s)=flq N D e/2 ^s:=by
 have h2:∀ k:Nat,0 < 2 ^k:=fun k=>s7 (by decide)
 unfold flq atA atB
 by_cases h0:0<=e
 ·rw [f9 (show 0<=e+(s:Int) by omega),f9 (show 0<=e+(s:Int) by omega),f9 h0,f9 h0,P0,r7,<- n9,show (e+(s:Int)).toNat=e.toNat+s by omega]
 ·rw [a7 h0,a7 h0,P0]
  by_cases h1:0<=e+(s:Int)
  ·rw [f9 h1,f9 h1,show s=(e+(s:Int)).toNat+(-e).toNat by omega,n9,<- r7,lH _ _ (h2 _)]
   rw [show ((e+((((e+(s:Int)).toNat+(-e).toNat:Nat)):Int)).toNat)=(e+(s:Int)).toNat by omega]
  ·rw [a7 h1,a7 h1,show (-e).toNat=(-(e+(s:Int))).toNat+s by omega,n9,<- r7,lH _ _ (h2 _)]
theorem i1r {K:Nat} {L:Int} {N D:Nat} :flq N D (B9 K L N D) < 2 ^K:=by
 unfold B9
 by_cases h:K < bl (flq N D (X5 K L N D))
 ·rw [f9 h]
  obtain⟨s,hs⟩:∃ s,bl (flq N D (X5 K L N D))=K+s:=⟨bl (flq N D (X5 K L N D))-K,by omega⟩
  rw [hs,show ((K+s:Nat):Int)-K=(s:Int) by omega,uS]
  have:=lZ (flq N D (X5 K L N D))
  rw [hs,n9] at this
  exact Nat.div_lt_of_lt_mul (by rw [t7]; exact this)
 ·rw [a7 h]
  exact bl_le.1 (by omega)
theorem n0e {m k:Nat} (h:bl m<=k):wl m<=k:=wl_le.2 (C8 (bl_le.1 h) (xF (by decide) k))
theorem vV (n k:Nat):bl (n*2 ^k)<=bl n+k:=by
 refine bl_le.2 ?_
 rw [n9]
 exact P4 (lZ n) (s7 (by decide))
theorem i1n (N:Nat) (e:Int):bl (atA N e)<=bl N+(-e).toNat:=by
 unfold atA
 split
 ·omega
 ·exact vV _ _
theorem l2s (D:Nat) (e:Int):bl (atB D e)<=bl D+e.toNat:=by
 unfold atB
 split
 ·exact vV _ _
 ·omega
theorem b1a (N D:Nat) (e:Int):bl (flq N D e)<=bl N+(-e).toNat:=x7 (p0b (mD _ _)) (i1n N e)
theorem c0f {K:Nat} {L:Int} {N D:Nat} (hK:K<=53) (hL: -1074<=L∧L<=0) (hN:bl N<=1000000) (hD:bl D<=1000000): -1100000<=X5 K L N D∧X5 K L N D<=1100000∧L<=X5 K L N D:=by
 unfold X5
 split <;> omega
theorem z0h {K:Nat} {L:Int} {N D:Nat} (hK:K<=53) (hL: -1074<=L∧L<=0) (hN:bl N<=1000000) (hD:bl D<=1000000): -1100000<=B9 K L N D∧B9 K L N D<=5000000∧L<=B9 K L N D:=by
 obtain⟨h1,h2,h3⟩:=c0f (D:=D) hK hL hN hD
 have h4:=b1a N D (X5 K L N D)
 unfold B9
 split <;> omega
theorem b2c {N D:Nat} {e:Int} (hD:0 < D) (h1:bl N<=1000000) (h2:bl D<=1000000) (he: -10000000<=e∧e<=10000000):w2m (ws W64 N) (ws W64 D) e:=by
 have a:=n0e (i1n N e)
 have b:=n0e (l2s D e)
 have c:=n0e h1
 have d:=n0e h2
 refine⟨Cn.ws _,Cn.ws _,by rw [B5]; exact hD,by show wl _ < _; omega,by show wl _ < _; omega,by rw [B5]; omega,by rw [B5]; omega,by omega,by omega⟩
theorem a0c (N D:Nat) (e:Int):atQ (ws W64 N) (ws W64 D) e=ws W64 (flq N D e):=by unfold atQ; rw [B5,B5]; rfl
theorem m2b (N D:Nat) (e:Int):atH (ws W64 N) (ws W64 D) e=flh N D e:=by unfold atH; rw [B5,B5]; rfl
theorem l2f (N D:Nat) (e:Int):atZ (ws W64 N) (ws W64 D) e=flw N D e:=by unfold atZ; rw [B5,B5]; rfl
theorem r0i (n:Nat):w1p (ws W64 n)=(bl n:Int):=by unfold w1p; rw [B5]
theorem v0r {q:Nat} (h:q < W64):flM (ws W64 q)=(q:Int):=by
 unfold flM w2v
 rw [r8,B5,G7 h]
theorem b3t {n:Nat} (h:n < W64):uI.wrap (n:Int)=(n:Int):=by
 have h:n < 18446744073709551616:=h
 rw [R5]
 omega
theorem r2n {q:Nat} (h:q+1 < W64):flU (ws W64 q)=((q+1:Nat):Int):=by
 unfold flU
 rw [v0r (by omega)]
 exact b3t (n:=q+1) h
theorem z1t (P m:Nat) (hP:0 < P):flC P (m:Int)=decide (P<=m):=by
 unfold flC
 show decide ((0:Int) < Int.fdiv (m:Int) (P:Int))=_
 rw [<- qF]
 refine zzA179.2 ?_
 have:0 < m/P↔P<=m:=by rw [Nat.div_pos_iff]; omega
 omega
theorem g2a {m:Nat} (h:m < W64):flH (m:Int)=((m/2:Nat):Int):=by
 unfold flH
 have e:Int.tdiv (m:Int) 2=((m/2:Nat):Int):=(k0n m 2).symm
 rw [e]
 exact b3t (by omega)
theorem q2r {q P:Nat} (h:q < W64) (hP:0 < P):flV P (ws W64 q)=decide (q < P):=by
 unfold flV
 rw [v0r h]
 show (Int.fdiv (q:Int) (P:Int)==0)=_
 rw [<- qF]
 by_cases hq:q < P
 ·rw [mK hq,i6 hq]; rfl
 ·rw [d8 hq]
  refine y9 fun e=>hq ?_
  have e:((q/P:Nat):Int)=0:=e
  have:q/P=0:=by omega
  exact (Nat.div_eq_zero_iff_lt hP).1 this
theorem k2y {q:Nat} (h:Int) (hq:q < W64):flB h (ws W64 q)=upB h q:=by
 unfold flB upB
 rw [v0r hq,f2q hq]
 by_cases h1:0 < h
 ·rw [i6 (show h > 0 from h1)]; rfl
 ·rw [d8 (show ¬h > 0 from h1)]
  by_cases h2:h=0
  ·rw [h2]
   show (((q%2:Nat):Int)==1)=(false || (true && decide (q%2=1)))
   by_cases h3:q%2=1
   ·rw [h3]; rfl
   ·rw [d8 h3]
    exact y9 (by omega)
  ·rw [y9 h2,d8 h2]; rfl
theorem ap2 {a b:List Prop} (h:l5 a) (k:l5 b):l5 (a++b):=(a8 _ _).2 ⟨h,k⟩
theorem sE {n:Int} (h0: -9223372036854775808<=n) (h1:n<=9223372036854775807):iI.wrap n=n:=by
 have:=y3 n
 omega
theorem l2p {K:Nat} {L:Int} {N D:Nat} (hK:K<=53) (hN:bl N<=1000000) (hD:bl D<=1000000):flE K L (ws W64 N) (ws W64 D)=X5 K L N D:=by
 have e:flN K (ws W64 N) (ws W64 D)=(bl N:Int)-bl D-K-2:=by
  unfold flN
  rw [r0i,r0i,sE (n:=(bl N:Int)-bl D) (by omega) (by omega),sE (n:=(bl N:Int)-bl D-K) (by omega) (by omega),sE (by omega) (by omega)]
 unfold flE X5
 rw [e]
theorem x1p {K q:Nat} (hK:K<=53) (h:bl q<=10000000):flO K (ws W64 q)=(bl q:Int)-K:=by
 unfold flO
 rw [r0i,sE (by omega) (by omega)]
theorem m1n {N D:Nat} (h1:bl N<=1000000) (h2:bl D<=1000000):l5 (d1e (ws W64 N) (ws W64 D)):=by
 have c:=n0e h1
 have d:=n0e h2
 exact⟨rfl,rfl,Cn.ws _,by show wl _ < _; omega,rfl,Cn.ws _,by show wl _ < _; omega,a6⟩
theorem h1g {N D:Nat} {e:Int} {w:Bool} (hD:0 < D) (h1:bl N<=1000000) (h2:bl D<=1000000) (he: -10000000<=e∧e<=10000000) (hw:flw N D e=w):l5 (r2q (ws W64 N) (ws W64 D) e w):=
 ⟨rfl,rfl,b2c hD h1 h2 he,by rw [l2f]; exact hw,a6⟩
theorem e2c {K q:Nat} {b:Bool} (hK:K<=53) (h:bl q<=10000000) (hb:decide (K < bl q)=b):l5 (c3a K (ws W64 q) b):=by
 have c:=n0e h
 refine⟨?_,rfl,Cn.ws _,by show wl _ < _; omega,a6⟩
 rw [x1p hK h,<- hb]
 exact zzA179.2 (by omega)
theorem u1k (q:Nat):l5 (g2z (ws W64 q)):=⟨d9 _,by rw [r8]; exact Cn.ws _,a6⟩
def Fk.K:Fk->Nat
 | .d=>53
 | .s=>24
section
variable (k:Fk)
theorem Fk.i:k.I=(k.K:Int):=by cases k <;> rfl
theorem Fk.p:k.P=2 ^k.K:=by cases k <;> rfl
theorem Fk.q:k.Q=2 ^(k.K-1):=by cases k <;> rfl
theorem Fk.k53:k.K<=53:=by cases k <;> decide
theorem Fk.l: -1074<=k.L∧k.L<=0:=by cases k <;> decide
theorem Fk.w:k.P < W64∧0 < k.P∧0 < k.Q:=by cases k <;> decide
theorem j0d (n:Bool) {N D:Nat} (hD:0 < D) (h1:bl N<=1000000) (h2:bl D<=1000000):
  Ev.Sem zO8 J0 101 [vlA n false (ws W64 N) false (ws W64 D),kR k.I k.L k.M,iR 1] (k1i k.K k.M N D (B9 k.K k.L N D)):=by
 have q0:=i1r (K:=k.K) (L:=k.L) (N:=N) (D:=D)
 have r0:=c0f (K:=k.K) (L:=k.L) (D:=D) k.k53 k.l h1 h2
 have r1:=z0h (K:=k.K) (L:=k.L) (D:=D) k.k53 k.l h1 h2
 have hE0:flE k.I k.L (ws W64 N) (ws W64 D)=X5 k.K k.L N D:=by rw [Fk.i]; exact l2p k.k53 h1 h2
 have hb0:bl (flq N D (X5 k.K k.L N D))<=10000000:=by
  have:=b1a N D (X5 k.K k.L N D)
  omega
 have hO:flO k.I (ws W64 (flq N D (X5 k.K k.L N D)))=(bl (flq N D (X5 k.K k.L N D)):Int)- (k.K:Nat):=by rw [Fk.i]; exact x1p k.k53 hb0
 have l:=k.l
 have k5:=k.k53
 obtain⟨g,hg⟩:∃ g:Option Bool,(match g with | none=>decide (k.K < bl (flq N D (X5 k.K k.L N D)))=false | some w1=>decide (k.K < bl (flq N D (X5 k.K k.L N D)))=true∧flw N D (X5 k.K k.L N D)=w1):=by
  by_cases ho:k.K < bl (flq N D (X5 k.K k.L N D))
  ·exact⟨some (flw N D (X5 k.K k.L N D)),i6 ho,rfl⟩
  ·exact⟨none,d8 ho⟩
 have hEg:h1q k g (ws W64 N) (ws W64 D)=B9 k.K k.L N D:=by
  cases g with
  | none=>
   unfold B9
   rw [a7 (Q8 hg)]
   exact hE0
  | some w1=>
   have he:B9 k.K k.L N D=X5 k.K k.L N D+((bl (flq N D (X5 k.K k.L N D)):Int)- (k.K:Nat)):=by unfold B9; rw [f9 (G5 hg.1)]
   show s2w k (ws W64 N) (ws W64 D)=_
   unfold s2w
   rw [hE0,a0c,hO,<- he,sE (by omega) (by omega)]
 have hob3:∀ w,flw N D (B9 k.K k.L N D)=w->l5 (d2i k g w (ws W64 N) (ws W64 D)):=fun w hw=>by
  cases g with
  | none=>trivial
  | some w1=>
   show l5 (r2q _ _ (h1q k (some w1) (ws W64 N) (ws W64 D)) w)
   rw [hEg]
   exact h1g hD h1 h2 (by omega) hw
 have hov:l5 (q1k k g (ws W64 N) (ws W64 D)):=by
  unfold q1k
  rw [hE0,a0c,Fk.i]
  refine e2c k5 hb0 ?_
  cases g with
  | none=>exact hg
  | some w1=>exact hg.1
 have hw1:∀ w,flw N D (B9 k.K k.L N D)=w->flw N D (X5 k.K k.L N D)=u2z g w:=fun w hw=>by
  cases g with
  | none=>
   have he:B9 k.K k.L N D=X5 k.K k.L N D:=by unfold B9; rw [a7 (Q8 hg)]
   rw [he] at hw
   exact hw
  | some w1=>exact hg.2
 clear hg hO
 generalize hE:B9 k.K k.L N D=e at*
 have kp:=k.p
 have kw:=k.w
 have hqP:flq N D e < k.P:=by rw [kp]; exact q0
 have hqW:flq N D e < W64:=wC hqP kw.1
 have hq1:flq N D e+1 < W64:=D7 hqP kw.1
 have hM:i2l k g (xZ N D e) (ws W64 N) (ws W64 D)=((flm N D e:Nat):Int):=by
  unfold i2l flm
  rw [hEg,a0c]
  cases xZ N D e with
  | true=>rw [f9 rfl]; exact r2n hq1
  | false=>rw [a7 (by decide)]; exact v0r hqW
 have hmW:flm N D e < W64:=by unfold flm; split <;> omega
 obtain⟨car,hcar⟩:∃ car,decide (k.P<=flm N D e)=car:=⟨_,rfl⟩
 have hcP:flC k.P ((flm N D e:Nat):Int)=car:=by rw [z1t _ _ kw.2.1]; exact hcar
 have hM2:b3d k g (xZ N D e) car (ws W64 N) (ws W64 D)=((m0o k.K N D e:Nat):Int):=by
  unfold b3d m0o
  rw [hM,<- kp]
  cases car with
  | true=>rw [f9 (G5 hcar)]; exact g2a hmW
  | false=>rw [a7 (Q8 hcar)]
 have hE2:m2t k g car (ws W64 N) (ws W64 D)=k0h k.K N D e:=by
  unfold m2t k0h
  rw [hEg,<- kp]
  cases car with
  | true=>rw [f9 (G5 hcar)]; exact sE (by omega) (by omega)
  | false=>rw [a7 (Q8 hcar)]
 obtain⟨w,hw⟩:∃ w,flw N D e=w:=⟨_,rfl⟩
 have hU:t2e k g w (ws W64 N) (ws W64 D)=h0k k.K N D e:=by
  unfold t2e h0k
  rw [hw,hEg,a0c,<- k.q]
  cases w with
  | true=>rfl
  | false=>exact q2r hqW kw.2.2
 have hv:(w && xZ N D e)=false∧(car && !xZ N D e)=false:=by
  constructor
  ·unfold xZ
   rw [hw]
   cases w <;> rfl
  ·cases hu:xZ N D e with
   | true=>cases car <;> rfl
   | false=>
    have:flm N D e=flq N D e:=by unfold flm; rw [hu]; rfl
    have:car=false:=by rw [<- hcar,this]; exact d8 (by omega)
    rw [this]
    rfl
 have hob2:l5 (u1g k g w (xZ N D e) (ws W64 N) (ws W64 D)):=by
  unfold u1g
  cases w with
  | true=>exact⟨rfl,a6⟩
  | false=>
   refine⟨?_,⟨by decide,by decide⟩,by cases k <;> decide,a6⟩
   rw [hEg,a0c,k2y _ hqW,m2b]
   unfold xZ
   rw [hw]
   rfl
 obtain⟨le,hle⟩:∃ le,decide (k0h k.K N D e<=k.M)=le:=⟨_,rfl⟩
 have way:=fun m' e' i' a' b' c'=>o2f k g w (xZ N D e) car le n (ws W64 N) (ws W64 D) m' e' i' a' b' c' hv
 have T:∀ {X:List Prop},l5 X->l5 (n2f le++([decide (m2t k g car (ws W64 N) (ws W64 D)<=k.M)=le,flC k.P (i2l k g (xZ N D e) (ws W64 N) (ws W64 D))=car,0<=k.I] ++(u1g k g w (xZ N D e) (ws W64 N) (ws W64 D)++(g2z (atQ (ws W64 N) (ws W64 D) (h1q k g (ws W64 N) (ws W64 D)))++(d2i k g w (ws W64 N) (ws W64 D)++(q1k k g (ws W64 N) (ws W64 D)++(r2q (ws W64 N) (ws W64 D) (flE k.I k.L (ws W64 N) (ws W64 D)) (u2z g w)++(d1e (ws W64 N) (ws W64 D)++X)))))))):=fun hX=>by
  refine ap2 (by cases le <;> first | trivial | exact⟨rfl,a6⟩) (ap2 ⟨by rw [hE2]; exact hle,by rw [hM]; exact hcP,by cases k <;> decide,a6⟩ (ap2 hob2 (ap2 (by rw [hEg,a0c]; exact u1k _) (ap2 (hob3 w hw) (ap2 hov (ap2 (by rw [hE0]; exact h1g hD h1 h2 (by omega) (hw1 w hw)) (ap2 (m1n h1 h2) hX)))))))
 show Ev.Sem _ _ _ _ (if G9 k.K k.M N D e=true then _ else _)
 cases le with
 | true=>
  have:G9 k.K k.M N D e=false:=by unfold G9; exact d8 (by have:=G5 hle; omega)
  rw [this,a7 (by decide)]
  refine i1k vG 10 [] _ (way _ _ _ _ _ _) (T ?_)
  exact⟨by rw [hM2],by rw [hE2],rfl,by rw [hw],rfl,by rw [hU],a6⟩
 | false=>
  have:G9 k.K k.M N D e=true:=by unfold G9; exact i6 (by have:=Q8 hle; omega)
  rw [this,f9 rfl]
  refine i1k vG 10 [] _ (way _ _ _ _ _ _) (T ?_)
  exact⟨rfl,rfl,rfl,rfl,rfl,by rw [hU],a6⟩
end
theorem m0r (n:Bool) {N D:Nat} (hD:0 < D) (h1:bl N<=1000000) (h2:bl D<=1000000):
  Ev.Sem zO8 J0 101 [vlA n false (ws W64 N) false (ws W64 D),kR 53 (-1074) 971,iR 1] (k1i 53 971 N D (B9 53 (-1074) N D)):=j0d .d n hD h1 h2
theorem p0h (n:Bool) {N D:Nat} (hD:0 < D) (h1:bl N<=1000000) (h2:bl D<=1000000):
  Ev.Sem zO8 J0 101 [vlA n false (ws W64 N) false (ws W64 D),kR 24 (-149) 104,iR 1] (k1i 24 104 N D (B9 24 (-149) N D)):=j0d .s n hD h1 h2
abbrev dA (n:Bool) (d:List UInt8) (e:Int):Arg:= .c (.v (.agg ⟨[.bool n, .string ⟨⟨d⟩⟩, .int .i64 e]⟩))
theorem v2w (n1 n2 n a b:Bool) (d1 d2:List UInt8) (e1 e2:Int) (N D:List Int):B2 z2h [] 200 100 [dA n1 d1 e1,dA n2 d2 e2] [vlA n a N b D] [false,false,true] =some [(S7 d1).length<=(S7 d1).length,(Z1 (iI.wrap (e1-e2))).length<=(Z1 (iI.wrap (e1-e2))).length,Cn (zO10 (S7 d1).length (S7 d1)),Cn (zO10 (Z1 (iI.wrap (e1-e2))).length (Z1 (iI.wrap (e1-e2)))),(zO10 (S7 d1).length (S7 d1)).length < 274877906944,(zO10 (Z1 (iI.wrap (e1-e2))).length (Z1 (iI.wrap (e1-e2)))).length < 274877906944,zO6 0<=iI.wrap (e1-e2)∧iI.wrap (e1-e2) < zO6 100000000000,decide (zO6 0<=iI.wrap (e1-e2))=true,Z6 d2,d2.length < 100000000000,Z6 d1,d1.length < 100000000000,decide (iI.wrap (iI.wrap (zO6 d1.length-zO6 d2.length)+iI.wrap (e1-e2)) < Int.negSucc 999)=false,decide (zO6 1000 < iI.wrap (iI.wrap (zO6 d1.length-zO6 d2.length)+iI.wrap (e1-e2)))=false,zO6 0<=zO6 1∧1 < 18446744073709551616,zO6 0<=zO6 1∧1 < 18446744073709551616,(zO9 !n1==n2)=zO9 n,zO9 false=zO9 false,zO9 (h0a false (G0 (zO10 (S7 d1).length (S7 d1)) (zO10 (Z1 (iI.wrap (e1-e2))).length (Z1 (iI.wrap (e1-e2))))))=zO9 a,(G0 (zO10 (S7 d1).length (S7 d1)) (zO10 (Z1 (iI.wrap (e1-e2))).length (Z1 (iI.wrap (e1-e2))))).length=N.length∧(G0 (zO10 (S7 d1).length (S7 d1)) (zO10 (Z1 (iI.wrap (e1-e2))).length (Z1 (iI.wrap (e1-e2))))).length<=(G0 (zO10 (S7 d1).length (S7 d1)) (zO10 (Z1 (iI.wrap (e1-e2))).length (Z1 (iI.wrap (e1-e2))))).length∧zO10 (G0 (zO10 (S7 d1).length (S7 d1)) (zO10 (Z1 (iI.wrap (e1-e2))).length (Z1 (iI.wrap (e1-e2))))).length (G0 (zO10 (S7 d1).length (S7 d1)) (zO10 (Z1 (iI.wrap (e1-e2))).length (Z1 (iI.wrap (e1-e2)))))=N,zO9 false=zO9 b,(S7 d2).length=D.length∧(S7 d2).length<=(S7 d2).length∧zO10 (S7 d2).length (S7 d2)=D] :=by kernel_rfl
theorem x2c (n1 n2 n a b:Bool) (d1 d2:List UInt8) (e1 e2:Int) (N D:List Int):B2 z2h [] 200 100 [dA n1 d1 e1,dA n2 d2 e2] [vlA n a N b D] [false,false,false] =some [(S7 d2).length<=(S7 d2).length,(Z1 (iI.wrap (zO6 0-iI.wrap (e1-e2)))).length<=(Z1 (iI.wrap (zO6 0-iI.wrap (e1-e2)))).length,Cn (zO10 (S7 d2).length (S7 d2)),Cn (zO10 (Z1 (iI.wrap (zO6 0-iI.wrap (e1-e2)))).length (Z1 (iI.wrap (zO6 0-iI.wrap (e1-e2))))),(zO10 (S7 d2).length (S7 d2)).length < 274877906944,(zO10 (Z1 (iI.wrap (zO6 0-iI.wrap (e1-e2)))).length (Z1 (iI.wrap (zO6 0-iI.wrap (e1-e2))))).length < 274877906944,zO6 0<=iI.wrap (zO6 0-iI.wrap (e1-e2))∧iI.wrap (zO6 0-iI.wrap (e1-e2)) < zO6 100000000000,decide (zO6 0<=iI.wrap (e1-e2))=false,Z6 d2,d2.length < 100000000000,Z6 d1,d1.length < 100000000000,decide (iI.wrap (iI.wrap (zO6 d1.length-zO6 d2.length)+iI.wrap (e1-e2)) < Int.negSucc 999)=false,decide (zO6 1000 < iI.wrap (iI.wrap (zO6 d1.length-zO6 d2.length)+iI.wrap (e1-e2)))=false,zO6 0<=zO6 1∧1 < 18446744073709551616,zO6 0<=zO6 1∧1 < 18446744073709551616,(zO9 !n1==n2)=zO9 n,zO9 false=zO9 false,zO9 false=zO9 a,(S7 d1).length=N.length∧(S7 d1).length<=(S7 d1).length∧zO10 (S7 d1).length (S7 d1)=N,zO9 (h0a false (G0 (zO10 (S7 d2).length (S7 d2)) (zO10 (Z1 (iI.wrap (zO6 0-iI.wrap (e1-e2)))).length (Z1 (iI.wrap (zO6 0-iI.wrap (e1-e2)))))))=zO9 b,(G0 (zO10 (S7 d2).length (S7 d2)) (zO10 (Z1 (iI.wrap (zO6 0-iI.wrap (e1-e2)))).length (Z1 (iI.wrap (zO6 0-iI.wrap (e1-e2)))))).length=D.length∧(G0 (zO10 (S7 d2).length (S7 d2)) (zO10 (Z1 (iI.wrap (zO6 0-iI.wrap (e1-e2)))).length (Z1 (iI.wrap (zO6 0-iI.wrap (e1-e2)))))).length<=(G0 (zO10 (S7 d2).length (S7 d2)) (zO10 (Z1 (iI.wrap (zO6 0-iI.wrap (e1-e2)))).length (Z1 (iI.wrap (zO6 0-iI.wrap (e1-e2)))))).length∧zO10 (G0 (zO10 (S7 d2).length (S7 d2)) (zO10 (Z1 (iI.wrap (zO6 0-iI.wrap (e1-e2)))).length (Z1 (iI.wrap (zO6 0-iI.wrap (e1-e2)))))).length (G0 (zO10 (S7 d2).length (S7 d2)) (zO10 (Z1 (iI.wrap (zO6 0-iI.wrap (e1-e2)))).length (Z1 (iI.wrap (zO6 0-iI.wrap (e1-e2))))))=D] :=by kernel_rfl
def qtN (d:List UInt8) (e:Int):Nat:=if 0<=e then dgN d*10 ^e.toNat else dgN d
def qtD (d:List UInt8) (e:Int):Nat:=if 0<=e then dgN d else dgN d*10 ^(-e).toNat
theorem s0a (k:Nat):Z1 (k:Int)=ws W64 (10 ^k):=by unfold Z1; rw [g9]
theorem b1f (d:List UInt8):S7 d=ws W64 (dgN d):=rfl
theorem i1l (k:Nat):wl (10 ^k)<=k+1:=zO (k+1) (c0b (by decide) (Q7 k))
theorem o2e {d:List UInt8} (h:Z6 d):wl (dgN d)<=d.length:=zO _ (u0y h)
theorem h0n (n1 n2:Bool) {d1 d2:List UInt8} {e1 e2:Int} (h1:Z6 d1) (h2:Z6 d2) (l1:d1.length<=100000) (l2:d2.length<=100000) (he: -1000000<=e1-e2∧e1-e2<=1000000)
  (hf: -1000<=(d1.length:Int)-d2.length+(e1-e2)∧(d1.length:Int)-d2.length+(e1-e2)<=1000):
  Ev.Sem zO8 J0 100 [dA n1 d1 e1,dA n2 d2 e2] [vlA (n1 !=n2) false (ws W64 (qtN d1 (e1-e2))) false (ws W64 (qtD d2 (e1-e2)))] :=by
 have w1:=o2e h1
 have w2:=o2e h2
 have iE:iI.wrap (e1-e2)=e1-e2:=sE (by omega) (by omega)
 have iF:iI.wrap (iI.wrap (zO6 d1.length-zO6 d2.length)+(e1-e2))=(d1.length:Int)-d2.length+(e1-e2):=by
  show iI.wrap (iI.wrap ((d1.length:Int)- (d2.length:Int))+(e1-e2))=_
  rw [sE (n:=(d1.length:Int)- (d2.length:Int)) (by omega) (by omega),sE (by omega) (by omega)]
 have f1:decide (zO6 1000 < iI.wrap (iI.wrap (zO6 d1.length-zO6 d2.length)+(e1-e2)))=false:=by
  rw [iF]
  exact d8 (by show ¬(1000:Int) < _; omega)
 have f2:decide (iI.wrap (iI.wrap (zO6 d1.length-zO6 d2.length)+(e1-e2)) < Int.negSucc 999)=false:=by
  rw [iF]
  exact d8 (by show ¬_ < (-1000:Int); omega)
 by_cases h0:0<=e1-e2
 ·obtain⟨k,hk⟩:=kU h0
  have hN:qtN d1 (e1-e2)=dgN d1*10 ^k:=by unfold qtN; rw [f9 h0,hk,g9]
  have hD:qtD d2 (e1-e2)=dgN d2:=f9 h0
  have eT:Z1 (e1-e2)=ws W64 (10 ^k):=by rw [hk,s0a]
  have f3:decide (zO6 0<=e1-e2)=true:=i6 h0
  have wt:=i1l k
  rw [hN,hD]
  refine l7 vG 10 _ _ (v2w n1 n2 (n1 !=n2) false false d1 d2 e1 e2 _ _) ?_
  simp only [l5,iE,eT,b1f,r8,T3,f1,f2,f3]
  repeat' apply And.intro
  all_goals first
   | assumption
   | exact trivial
   | exact Cn.ws _
   | (show wl _ < _; omega)
   | exact d9 (List.length _)
   | exact rfl
   | omega
   | decide
   | (show e1-e2 < 100000000000; omega)
 ·obtain⟨k,hk⟩:=kU (show 0<=-(e1-e2) by omega)
  have hN:qtN d1 (e1-e2)=dgN d1:=a7 h0
  have hD:qtD d2 (e1-e2)=dgN d2*10 ^k:=by unfold qtD; rw [a7 h0,hk,g9]
  have iM:iI.wrap (zO6 0- (e1-e2))=(k:Int):=by
   show iI.wrap (0- (e1-e2))=_
   rw [sE (by omega) (by omega)]
   omega
  have f3:decide (zO6 0<=e1-e2)=false:=d8 h0
  obtain⟨T,hT⟩:∃ T,T=10 ^k:=⟨_,rfl⟩
  have wt:wl T<=k+1:=by rw [hT]; exact i1l k
  have eT:Z1 (k:Int)=ws W64 T:=by rw [hT]; exact s0a k
  rw [hN,hD,<- hT]
  clear hT hN hD
  have k0:zO6 0<=(k:Int):=w7 _
  have k1:(k:Int) < zO6 100000000000:=by
   show (k:Int) < 100000000000
   omega
  refine l7 vG 10 _ _ (x2c n1 n2 (n1 !=n2) false false d1 d2 e1 e2 _ _) ?_
  simp only [l5,iE,iM,eT,b1f,r8,T3,f1,f2,f3]
  exact⟨d9 _,d9 _,Cn.ws _,Cn.ws _,(by show wl _ < _; omega),(by show wl _ < _; omega),⟨k0,k1⟩,a6,h2,(by omega),h1,(by omega),a6,a6,⟨by decide,by decide⟩,⟨by decide,by decide⟩,rfl,a6,a6,⟨a6,d9 _,a6⟩,rfl,⟨a6,d9 _,a6⟩,a6⟩
end Go.Proofs.YtkiejangmhhofaaGreatDoor
namespace Go.Proofs.YtkiejangmhhofaaGreatDoor.VaS
open Go
def p63:Nat:=9223372036854775808
def w1r (x:Nat):Bool:=decide (9218868437227405312 < x%p63)
def j2c (x:Nat):Int:=if p63<=x then -((x%p63:Nat):Int) else ((x%p63:Nat):Int)
def y2a (x y:Nat):Option Ordering:=if w1r x || w1r y then none else some (compare (j2c x) (j2c y))
def a1d (r:Nat):Nat:=if r < 4503599627370496 then r else (4503599627370496+r%4503599627370496)*2 ^(r/4503599627370496-1)
theorem l0f (r:Nat):a1d r < a1d (r+1):=by
 unfold a1d
 by_cases h1:r+1 < 4503599627370496
 ·rw [f9 h1,f9 (by omega)]; omega
 ·by_cases h2:r < 4503599627370496
  ·have e:r=4503599627370495:=by omega
   subst e
   decide
  ·rw [a7 h2,a7 h1]
   generalize hq:r/4503599627370496=q
   generalize hm:r%4503599627370496=m
   have hr:r=4503599627370496*q+m:=by rw [<- hq,<- hm]; exact (bV r _).symm
   have hml:m < 4503599627370496:=by rw [<- hm]; exact F7 _ (by decide)
   have hq1:1<=q:=by omega
   by_cases h3:m+1 < 4503599627370496
   ·have e1:(r+1)/4503599627370496=q:=by omega
    have e2:(r+1)%4503599627370496=m+1:=by omega
    rw [e1,e2]
    exact P4 (by omega) (H4 _)
   ·have e1:(r+1)/4503599627370496=q+1:=by omega
    have e2:(r+1)%4503599627370496=0:=by omega
    rw [e1,e2,show q+1-1=(q-1)+1 by omega,y8,show m=4503599627370495 by omega]
    have:=H4 (q-1)
    omega
theorem b1c {a b:Nat} (h:a < b):a1d a < a1d b:=by
 induction b with
 | zero=>omega
 | succ b ih=>
  rcases J4 a b with h' | h'
  ·exact wC (ih h') (l0f b)
  ·have:a=b:=by omega
   subst this
   exact l0f a
theorem aB {a b:Nat} :a1d a < a1d b↔a < b:=by
 constructor
 ·intro h
  rcases Z8 a b with h' | h' | h'
  ·exact h'
  ·subst h'; omega
  ·have:=b1c h'; omega
 ·exact b1c
def sg (neg:Bool) (m:Nat):Int:=if neg then -(m:Int) else (m:Int)
theorem c1d:a1d 0=0:=by decide
theorem q2u (s t:Bool) (a b:Nat):compare (sg s (a1d a)) (sg t (a1d b))=compare (sg s a) (sg t b):=by
 have key:∀ x y x' y':Int,(x < y↔x' < y')->(y < x↔y' < x')->compare x y=compare x' y':=by
  intro x y x' y' h1 h2
  show (if x < y then Ordering.lt else if x=y then .eq else .gt)=(if x' < y' then Ordering.lt else if x'=y' then .eq else .gt)
  by_cases hx:x < y
  ·rw [f9 hx,f9 (h1.1 hx)]
  ·rw [a7 hx,a7 (fun h=>hx (h1.2 h))]
   by_cases hy:x=y
   ·have e:x'=y':=by
     have a1:¬ x' < y':=fun h=>hx (h1.2 h)
     have a2:¬ y' < x':=fun h=>by have:=h2.2 h; omega
     omega
    rw [f9 hy,f9 e]
   ·have e:x'≠y':=by
     have:y < x:=by omega
     have:=h2.1 this
     omega
    rw [a7 hy,a7 e]
 have ha:= @aB 0 a
 have hb:= @aB 0 b
 have hab:= @aB a b
 have hba:= @aB b a
 rw [c1d] at ha hb
 unfold sg
 cases s <;> cases t <;> simp only [O6,E7,H9] <;> refine key _ _ _ _ ?_ ?_ <;> omega
theorem k1l (x y:Int) {k:Nat} (hk:0 < k):compare (x*(k:Int)) (y*(k:Int))=compare x y:=by
 show (if x*(k:Int) < y*(k:Int) then Ordering.lt else if x*(k:Int)=y*(k:Int) then .eq else .gt)=(if x < y then Ordering.lt else if x=y then .eq else .gt)
 have hk':(0:Int) < (k:Int):=by omega
 have h1:x*(k:Int) < y*(k:Int)↔x < y:=Int.mul_lt_mul_right hk'
 have h2:x*(k:Int)=y*(k:Int)↔x=y:=⟨fun h=>Int.eq_of_mul_eq_mul_right (by omega) h,fun h=>by rw [h]⟩
 by_cases a1:x < y
 ·rw [f9 a1,f9 (h1.2 a1)]
 ·rw [a7 a1,a7 (fun h=>a1 (h1.1 h))]
  by_cases a2:x=y
  ·rw [f9 a2,f9 (h2.2 a2)]
  ·rw [a7 a2,a7 (fun h=>a2 (h2.1 h))]
def i2g (r:Nat):Nat:=if r < 4503599627370496 then r else 4503599627370496+r%4503599627370496
def pW (r:Nat):Nat:=if r < 4503599627370496 then 0 else r/4503599627370496-1
theorem m1e (r:Nat):a1d r=i2g r*2 ^pW r:=by
 unfold a1d i2g pW
 split <;> simp
theorem fmt:Ieee.double.signWeight=p63∧Ieee.double.binade=4503599627370496∧Ieee.double.infRung=9218868437227405312∧Ieee.double.leastPlace= -1074:=by decide
theorem rO {x:Nat} (hx:x < 18446744073709551616) (h:x%p63 < 9218868437227405312):Ieee.double.read x= .number (decide (p63<=x)) (i2g (x%p63)) (-1074+(pW (x%p63):Nat)):=by
 obtain⟨e1,e2,e3,e4⟩:=fmt
 have hs:(x/p63%2==1)=decide (p63<=x):=by
  unfold p63 at*
  by_cases hc:9223372036854775808<=x
  ·rw [i6 hc,show x/9223372036854775808=1 by omega]; rfl
  ·rw [d8 hc,show x/9223372036854775808=0 by omega]; rfl
 unfold Ieee.Format.read
 simp only [e1,e2,e3,e4,hs,h,H9]
 unfold i2g pW
 split
 ·simp
 ·rfl
theorem g0g {x:Nat} (hx:x < 18446744073709551616) (h:x%p63=9218868437227405312):Ieee.double.read x= .infinity (decide (p63<=x)):=by
 obtain⟨e1,e2,e3,e4⟩:=fmt
 have hs:(x/p63%2==1)=decide (p63<=x):=by
  unfold p63 at*
  by_cases hc:9223372036854775808<=x
  ·rw [i6 hc,show x/9223372036854775808=1 by omega]; rfl
  ·rw [d8 hc,show x/9223372036854775808=0 by omega]; rfl
 unfold Ieee.Format.read
 simp only [e1,e2,e3,e4,hs,h]
 simp
theorem t0i {x:Nat} (h:9218868437227405312 < x%p63):∃ n f,Ieee.double.read x= .nan n f:=by
 obtain⟨e1,e2,e3,e4⟩:=fmt
 unfold Ieee.Format.read
 simp only [e1,e2,e3,e4]
 rw [a7 (by omega),a7 (by omega),a7 (by omega)]
 exact⟨_,_,rfl⟩
theorem pI (s:Bool) (m a c:Nat) (h:c<=a):Ieee.signed s m (a-c)*((2 ^c:Nat):Int)=sg s (m*2 ^a):=by
 have e:m <<< (a-c)*2 ^c=m*2 ^a:=by
  rw [kF,r7,<- n9,b0g h]
 unfold Ieee.signed sg
 cases s
 ·simp only [O6,E7]
  rw [<- e]; push_cast; rfl
 ·simp only [H9]
  rw [<- e,Int.neg_mul]; push_cast; rfl
theorem r1r {x y:Nat} (hx:x < 18446744073709551616) (hy:y < 18446744073709551616):Ieee.double.order x y=y2a x y:=by
 unfold Ieee.Format.order y2a
 by_cases nx:9218868437227405312 < x%p63
 ·obtain⟨n,f,e⟩:=t0i nx
  rw [e,show w1r x=true from i6 nx]
  rfl
 by_cases ny:9218868437227405312 < y%p63
 ·obtain⟨n,f,e⟩:=t0i ny
  rw [e,show w1r y=true from i6 ny,Bool.or_true,f9 rfl]
  generalize Ieee.double.read x=d
  cases d <;> rfl
 rw [show w1r x=false from d8 nx,show w1r y=false from d8 ny]
 have hsv:∀ z,j2c z=sg (decide (p63<=z)) (z%p63):=fun z=>by
  unfold j2c sg
  by_cases h:p63<=z <;> simp [h]
 rw [hsv,hsv]
 simp only [Bool.or_self,O6,E7]
 have cmp_def:∀ a b:Int,compare a b=if a < b then Ordering.lt else if a=b then .eq else .gt:=fun _ _=>rfl
 by_cases ix:x%p63=9218868437227405312
 ·rw [g0g hx ix]
  by_cases iy:y%p63=9218868437227405312
  ·rw [g0g hy iy,ix,iy]
   generalize decide (p63<=x)=s
   generalize decide (p63<=y)=t
   cases s <;> cases t <;> decide
  ·rw [rO hy (by omega),ix]
   generalize decide (p63<=x)=s
   generalize decide (p63<=y)=t
   have:y%p63 < 9218868437227405312:=by omega
   generalize y%p63=b at this
   simp only [Ieee.Datum.order,cmp_def]
   cases s <;> cases t <;> simp only [sg,O6,E7,H9,U9]
   ·rw [a7 (by omega),a7 (by omega)]
   ·rw [a7 (by omega),a7 (by omega)]
   ·rw [f9 (by omega)]
   ·rw [f9 (by omega)]
 ·rw [rO hx (by omega)]
  by_cases iy:y%p63=9218868437227405312
  ·rw [g0g hy iy,iy]
   generalize decide (p63<=x)=s
   generalize decide (p63<=y)=t
   have:x%p63 < 9218868437227405312:=by omega
   generalize x%p63=b at this
   simp only [Ieee.Datum.order,cmp_def]
   cases s <;> cases t <;> simp only [sg,O6,E7,H9,U9]
   ·rw [f9 (by omega)]
   ·rw [a7 (by omega),a7 (by omega)]
   ·rw [f9 (by omega)]
   ·rw [a7 (by omega),a7 (by omega)]
  ·rw [rO hy (by omega)]
   generalize decide (p63<=x)=s
   generalize decide (p63<=y)=t
   generalize x%p63=a
   generalize y%p63=b
   simp only [Ieee.Datum.order,U9]
   rw [<- q2u,m1e,m1e]
   have hc:min (-1074+((pW a:Nat):Int)) (-1074+((pW b:Nat):Int))= -1074+((min (pW a) (pW b):Nat):Int):=by omega
   rw [hc]
   have e1:(-1074+((pW a:Nat):Int)- (-1074+((min (pW a) (pW b):Nat):Int))).toNat=pW a-min (pW a) (pW b):=by omega
   have e2:(-1074+((pW b:Nat):Int)- (-1074+((min (pW a) (pW b):Nat):Int))).toNat=pW b-min (pW a) (pW b):=by omega
   rw [e1,e2,<- pI s (i2g a) (pW a) (min (pW a) (pW b)) (by omega),<- pI t (i2g b) (pW b) (min (pW a) (pW b)) (by omega)]
   exact (k1l _ _ (H4 _)).symm
structure Val where
 k:Int
 x:Nat
 s:List UInt8
 b:Bool
 f:Int
def mS (x y:Int):Int:=if x < y then -1 else if y < x then 1 else 0
end Go.Proofs.YtkiejangmhhofaaGreatDoor.VaS
