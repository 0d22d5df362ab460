/-
 NumberNear: a decimal that is read as a finite number lies nowhere beyond the middle between it and its neighbours; no condition (a part of the proof).
-/
import Derived.Test.YtbdaebagmmmijaaGreatDoorN1x06
import Derived.Shelf.Strconv.Itoa3
import Derived.Shelf.Strings.Repeat
import Derived.Lib.AppendIntMem
import Derived.Ground.MpProg
set_option maxRecDepth 1000000
open Int renaming ofNat->zO2
open Go.Value renaming int->zO3,bool->zO9
open List renaming replicate->zO6
open Go.Proofs.Tryz renaming prog->zO8
open BitVec renaming ofInt->zO11
open Go.Lib renaming decDigits->zO12
open Go.IntKind renaming i64->iI,u64->uI,u8->uB
noncomputable section
namespace Go.Proofs
theorem aP:type_of%@Nat.mul_left_comm:=@Nat.mul_left_comm
end Go.Proofs
namespace Go.Proofs.YtbdaebagmmmijaaGreatDoor
open Go Go.RowKit Ev Wd
theorem w1k (F:Nat->Int) (N:Nat):s7 (dgs F N)=true:=allDB_mem.2 fun b hb=>by
 unfold dgs at hb
 obtain⟨i,_,rfl⟩:=zzA41.1 hb
 rw [v1q]
 have:=C7 (F i).toNat (show 0 < 10 by decide)
 omega
theorem z1r {l:List UInt8} (h:s7 l=true) (k:Nat) (hl:l.length<=k) (hk:1<=k):s7 (dgT l)=true∧dgT l≠[] ∧(dgT l).length<=k:=by
 unfold dgT
 have h1:=A0 l
 cases ht:d8 l with
 | nil=>exact⟨by decide,by decide,hk⟩
 | cons c r=>
  rw [ht] at h1
  exact⟨allDB_mem.2 fun b hb=>allDB_mem.1 h b (F2 (by rw [ht]; exact hb)),List.cons_ne_nil _ _,by show (c ::r).length<=k; omega⟩
abbrev dM (c:List UInt8):Mant:=⟨c,[],false⟩
theorem p2s {c:List UInt8} (h:s7 c=true) (hne:c≠[]) (hl:c.length<=40):(dM c).ok:=by
 refine⟨h,rfl,?_,?_⟩
 ·unfold Mant.digs
  rw [a8 (by intro h; cases h)]
  exact hne
 ·unfold Mant.text
  rw [a8 (by intro h; cases h)]
  show c.length<=1000
  omega
section
open VaS
theorem d1d:∀ (d:List UInt8) (m:Nat),s7 d=true->m*10 ^d.length+dcN d < 1099511627776->whN d (m:Int)=some ((m*10 ^d.length+dcN d:Nat):Int)
 | [],m,_,_=>by
  show some (m:Int)=some ((m*1+0:Nat):Int)
  rw [y8,I2]
 | c ::d,m,h,hb=>by
  obtain⟨h1,h2⟩:=P4 h
  have e0:m*10 ^(c ::d).length+dcN (c ::d)=(m*10+(c.toNat-48))*10 ^d.length+dcN d:=by
   rw [T0,A9,v6,x6,m7 m 10,p4 10,<- p1c]
  have hlt:m*10+(c.toNat-48) < 1099511627776:=by
   rw [e0] at hb
   have:(m*10+(c.toNat-48))*1<=(m*10+(c.toNat-48))*10 ^d.length:=aQ _ (x7 (by decide))
   omega
  have hw:p8 (zO2 c.toNat)=((c.toNat-48:Nat):Int):=fZ h1
  unfold whN
  have hd:dgB 10 c=true:=f9 (by show p8 (zO2 c.toNat) < 10; rw [hw]; omega)
  rw [i6 hd]
  have hn:nx2 (m:Int) (p8 (zO2 c.toNat))=((m*10+(c.toNat-48):Nat):Int):=by
   unfold nx2
   rw [hw,i6 (by omega)]
   omega
  rw [hn,d1d d _ h2 (by rw [<- e0]; exact hb),e0]
theorem b2t {x:Int} (hx: -1000000 < x∧x < 1000000):(whV (S3 x)).1=x:=by
 have key:∀ m:Nat,m < 1000000->whN (fJ m) 0=some (m:Int):=by
  intro m hm
  obtain⟨h1,h2,_⟩:=V8 m
  have:=d1d (fJ m) 0 h1 (by rw [h2]; omega)
  rw [h2,K6,aW] at this
  exact this
 by_cases h0:x < 0
 ·have e:S3 x=45 ::fJ (-x).toNat:=by unfold S3; rw [i6 h0]
  rw [e]
  have hs:wsB (45 ::fJ (-x).toNat)=true:=rfl
  have hg:whG (45 ::fJ (-x).toNat)=true:=rfl
  unfold whV whR
  rw [i6 hs,List.drop_one,List.tail_cons,key _ (by omega)]
  show (if whG (45 ::fJ (-x).toNat)=true then -(((-x).toNat:Nat):Int) else (((-x).toNat:Nat):Int))=x
  rw [i6 hg]
  omega
 ·have e:S3 x=fJ x.toNat:=by unfold S3; rw [a8 h0]
  rw [e]
  obtain⟨c,r,hc,c1,c2⟩:=j0b x.toNat
  have hs:wsB (fJ x.toNat)=false:=by
   rw [hc]
   have e43:(cI c==43)=false:=s6 (by show ((c.toNat:Nat):Int)≠43; omega)
   have e45:(cI c==45)=false:=s6 (by show ((c.toNat:Nat):Int)≠45; omega)
   show (match cI c==43 with | true=>true | false=>cI c==45)=false
   rw [e43,e45]
  have hg:whG (fJ x.toNat)=false:=by unfold whG; rw [hs]; rfl
  unfold whV whR
  rw [a8 (by rw [hs]; decide),key _ (by omega)]
  show (if whG (fJ x.toNat)=true then -((x.toNat:Nat):Int) else ((x.toNat:Nat):Int))=x
  rw [a8 (by rw [hg]; decide)]
  omega
end
end Go.Proofs.YtbdaebagmmmijaaGreatDoor
namespace Go.Proofs.YtbdaebagmmmijaaGreatDoor
open Go Go.RowKit Ev Wd VaS
def bN0b:Base:=⟨zO8,J0,false,tL,D1,200,J2⟩
theorem x1s:BaseOk bN0b:=⟨progOk,M3,n8 _ _,m4⟩
abbrev r2x:Cx:=bN0b.cx 10
theorem p2h (n:Int):b7 r2x [] 200 46 [.int .i64 n] [false] =some (.float .f64 (uI.wrap n).toNat,[decide (n < zO2 0)=false]):=by kernel_rfl
theorem j2f:Ev.Pure zO8 J0 46 [.int .i64 (-1)] (.float .f64 9223372036854775808):=
 g9 g1t 10 [] [] (l:=[]) (by kernel_rfl) trivial
def atW (n:Int):Nat:=if n= -1 then 9223372036854775808 else n.toNat
def q0g:List Value->Option (Value×List Prop)
 | [.int .i64 n] =>some (.float .f64 (atW n),[-1<=n∧n<=9223372036854775807])
 | _=>none
theorem x0s (args:List Value) (v:Value) (l:List Prop) (h:q0g args=some (v,l)) (hl:d9 l):Ev.Pure zO8 J0 46 args v:=by
 unfold q0g at h
 split at h
 ·rename_i n
  cases h
  obtain⟨⟨h1,h2⟩,_⟩:=hl
  unfold atW
  by_cases hn:n= -1
  ·rw [i6 hn,hn]
   exact j2f
  ·rw [a8 hn]
   have:=g9 x1s 10 _ _ (p2h n) ⟨d4 (by show ¬n < 0; omega),a7⟩
   have hw:uI.wrap n=n:=by
    have:=O4 n
    omega
   rw [hw] at this
   exact this
 ·cases h
def h2b:Tab:=l7 46 q0g (l7 47 h1g tL)
theorem p1h:R8 zO8 J0 h2b:=b8 x0s (b8 j1j M3)
def bTn:Base:=⟨zO8,J0,false,h2b,D1,200,J2⟩
theorem v1i:BaseOk bTn:=⟨progOk,p1h,n8 _ _,m4⟩
abbrev XTn:Cx:=bTn.cx 10
end Go.Proofs.YtbdaebagmmmijaaGreatDoor
namespace Go.Proofs.YtbdaebagmmmijaaGreatDoor
open Go Go.RowKit Ev
theorem m0s:Ev.Pure zO8 J0 49 [.int .i64 (-1022)] (.float .f64 4503599627370496):=
 g9 g1t 30 [] [] (l:=[]) (by kernel_rfl) trivial
open Go Go.RowKit Ev VaS
def w1s:Tab:=l7 49 (atS [([.int .i64 (-1022)], .float .f64 4503599627370496)]) tL
theorem u0n:R8 zO8 J0 w1s:=b8 (M5 (fun p hp=>by simp only [zzA83,S5,S0] at hp; subst hp; exact m0s)) M3
def bPa:Base:=⟨zO8,J0,false,w1s,D1,2000,J2⟩
theorem v1f:BaseOk bPa:=⟨progOk,u0n,n8 _ _,m4⟩
def d2r (x:Nat):Nat:=(uI.wrap ↑(zO11 uI.bits ↑x&&& ~~~zO11 uI.bits 9223372036854775808).toNat).toNat
theorem x1c {x:Nat} (hx:x < 18446744073709551616):d2r x=x%p63:=by
 unfold d2r
 have h0:(zO11 uI.bits (x:Int)).toNat=x:=by
  show (zO11 64 (x:Int)).toNat=x
  rw [vJ,sH]
  exact J5 hx
 have h3:(zO11 uI.bits (x:Int)&&& ~~~zO11 uI.bits 9223372036854775808).toNat=x%p63:=by
  rw [pK,h0,show (~~~zO11 uI.bits 9223372036854775808).toNat=2 ^63-1 by decide]
  exact fH _ 63
 rw [h3]
 have h4:x%p63 < 9223372036854775808:=C7 _ (by decide)
 have h5:uI.wrap ((x%p63:Nat):Int)=((x%p63:Nat):Int):=by
  simp [IntKind.wrap,IntKind.bits,IntKind.signed]
  omega
 rw [h5,l4]
def c1B (x:Nat):Bool:=Ieee.double.order x x !=some .eq
def c2B (x:Nat):Bool:=Ieee.double.order (d2r x) 9218868437227405311==some .gt
def c3B (x:Nat):Bool:=Ieee.double.order (d2r x) 0==some .eq
def c4B (x:Nat):Bool:=Ieee.double.order (d2r x) 4503599627370496==some .lt
section
variable (x:Nat)
theorem s2v:b7 (bPa.cx 12) [] 200 15 [.float .f64 x] [true] =some (.int .i64 1,[c1B x=true]):=by kernel_rfl
theorem t2d:b7 (bPa.cx 12) [] 200 15 [.float .f64 x] [false,true] =some (.int .i64 2,[c2B x=true,c1B x=false]):=by kernel_rfl
theorem r2i:b7 (bPa.cx 12) [] 200 15 [.float .f64 x] [false,false,true] =some (.int .i64 3,[c3B x=true,c2B x=false,c1B x=false]):=by kernel_rfl
theorem r2l:b7 (bPa.cx 12) [] 200 15 [.float .f64 x] [false,false,false,true] =some (.int .i64 4,[c4B x=true,c3B x=false,c2B x=false,c1B x=false]):=by kernel_rfl
theorem t2k:b7 (bPa.cx 12) [] 200 15 [.float .f64 x] [false,false,false,false] =some (.int .i64 5,[c4B x=false,c3B x=false,c2B x=false,c1B x=false]):=by kernel_rfl
end
def Y0 (x:Nat):Int:=if gF x=true then 1 else if x%p63=9218868437227405312 then 2 else if x%p63=0 then 3 else if x%p63 < 4503599627370496 then 4 else 5
theorem c1w {a b:Nat} (ha:a<=9218868437227405312) (hb:b<=9218868437227405312):Ieee.double.order a b=some (compare (a:Int) (b:Int)):=by
 have hm:∀ {c:Nat},c<=9218868437227405312->c%p63=c:=fun {c} h=>J5 (by unfold p63; omega)
 have hs:∀ {c:Nat},c<=9218868437227405312->k1z c=(c:Int):=fun {c} h=>by
  unfold k1z
  rw [a8 (by unfold p63; omega),hm h]
 have hn:∀ {c:Nat},c<=9218868437227405312->gF c=false:=fun {c} h=>by
  unfold gF
  rw [hm h]
  exact d4 (by omega)
 rw [dJ (by omega) (by omega)]
 unfold v1r
 rw [hn ha,hn hb,hs ha,hs hb]
 rfl
theorem v0z {x:Nat} (hx:x < 18446744073709551616):Ev.Pure zO8 J0 15 [.float .f64 x] (.int .i64 (Y0 x)):=by
 have e1:c1B x=gF x:=by
  unfold c1B
  rw [dJ hx hx]
  unfold v1r
  cases gF x <;> simp
 have pureX:∀ {ds:List Bool} {v:Value} {l:List Prop},b7 (bPa.cx 12) [] 200 15 [.float .f64 x] ds=some (v,l)->d9 l->Ev.Pure zO8 J0 15 [.float .f64 x] v:=fun h hl=>by
  obtain⟨h1,h2⟩:=a6 v1f 12
  exact F7 h1 h2 h hl
 unfold Y0
 cases hn:gF x with
 | true=>
  simp only [C6]
  exact pureX (s2v x) ⟨by rw [e1,hn],a7⟩
 | false=>
  simp only [M7,C5]
  have hle:x%p63<=9218868437227405312:=by
   have:=O2 hn
   omega
  have o1:c1B x=false:=by rw [e1,hn]
  have hcmp:∀ (b:Nat) (o:Ordering),b<=9218868437227405312->(Ieee.double.order (d2r x) b==some o)=(compare ((x%p63:Nat):Int) (b:Int)==o):=fun b o hb=>by
   rw [x1c hx,c1w hle hb]
   rfl
  have o2:c2B x=decide (x%p63=9218868437227405312):=by
   unfold c2B
   rw [hcmp _ _ (by decide)]
   by_cases h:x%p63=9218868437227405312
   ·rw [h]; rfl
   ·rw [d4 h]
    refine s6 fun e=> ?_
    have:=Int.compare_eq_gt.1 e
    omega
  by_cases h2:x%p63=9218868437227405312
  ·rw [i6 h2]
   exact pureX (t2d x) ⟨by rw [o2,f9 h2],o1,a7⟩
  rw [a8 h2]
  have o2':c2B x=false:=by rw [o2,d4 h2]
  have o3:c3B x=decide (x%p63=0):=by
   unfold c3B
   rw [hcmp _ _ (by decide)]
   by_cases h:x%p63=0
   ·rw [h]; rfl
   ·rw [d4 h]
    refine s6 fun e=> ?_
    have:=Int.compare_eq_eq.1 e
    omega
  by_cases h3:x%p63=0
  ·rw [i6 h3]
   exact pureX (r2i x) ⟨by rw [o3,f9 h3],o2',o1,a7⟩
  rw [a8 h3]
  have o3':c3B x=false:=by rw [o3,d4 h3]
  have o4:c4B x=decide (x%p63 < 4503599627370496):=by
   unfold c4B
   rw [hcmp _ _ (by decide)]
   by_cases h:x%p63 < 4503599627370496
   ·rw [f9 h]
    exact beq_iff_eq.2 (Int.compare_eq_lt.2 (by omega))
   ·rw [d4 h]
    refine s6 fun e=> ?_
    have:=Int.compare_eq_lt.1 e
    omega
  by_cases h4:x%p63 < 4503599627370496
  ·rw [i6 h4]
   exact pureX (r2l x) ⟨by rw [o4,f9 h4],o3',o2',o1,a7⟩
  ·rw [a8 h4]
   exact pureX (t2k x) ⟨by rw [o4,d4 h4],o3',o2',o1,a7⟩
theorem w0w {b:Base} (hb:BaseOk b) {k:Nat} {L:V0} {fuel:Nat} {ds:List Bool} {f:FuncId} {args:List Value} {v:Value} {l:List Prop} (h:b7 (b.cx k) L fuel f args ds=some (v,l)) (hl:d9 l):Ev.Pure b.P b.J f args v:=by
 obtain⟨h1,h2⟩:=a6 hb k
 have:=F7 h1 h2 h hl
 cases k with
 | zero=>exact this
 | succ k=>exact this
def ngE (x:Nat):Bool:=match Ieee.double.order x x==some .eq with | true=>decide (iI.wrap (x:Int) < 0) | false=>false
theorem g2n (x:Nat):b7 (bPa.cx 12) [] 200 142 [.float .f64 x] [] =some (.bool (ngE x),[]):=by kernel_rfl
def l1z (x:Nat):Bool:= !gF x && decide (p63<=x)
theorem eqx {x:Nat} (hx:x < 18446744073709551616):(Ieee.double.order x x==some .eq)= !gF x:=by
 rw [dJ hx hx]
 unfold v1r
 cases gF x <;> simp
theorem d0b {x:Nat} (hx:x < 18446744073709551616):Ev.Pure zO8 J0 142 [.float .f64 x] (.bool (l1z x)):=by
 have h:=w0w v1f (g2n x) trivial
 rw [show ngE x=l1z x by
  unfold ngE l1z
  rw [eqx hx]
  cases gF x with
  | true=>rfl
  | false=>
   simp only [Bool.not_false,c2i]
   rw [zzA167]
   have:=C8 (x:Int)
   unfold p63
   omega] at h
 exact h
def iX:List Value->Option (Value×List Prop)
 | [.float .f64 x] =>some (.int .i64 (Y0 x),[x < 18446744073709551616])
 | _=>none
theorem pL (args:List Value) (v:Value) (l:List Prop) (h:iX args=some (v,l)) (hl:d9 l):Ev.Pure zO8 J0 15 args v:=by
 unfold iX at h
 split at h
 ·cases h; exact v0z hl.1
 ·cases h
def p0l:List Value->Option (Value×List Prop)
 | [.float .f64 x] =>some (.bool (l1z x),[x < 18446744073709551616])
 | _=>none
theorem v0q (args:List Value) (v:Value) (l:List Prop) (h:p0l args=some (v,l)) (hl:d9 l):Ev.Pure zO8 J0 142 args v:=by
 unfold p0l at h
 split at h
 ·cases h; exact d0b hl.1
 ·cases h
def k2f:Tab:=l7 142 p0l (l7 15 iX w1s)
theorem o1m:R8 zO8 J0 k2f:=b8 v0q (b8 pL u0n)
def bPb:Base:=⟨zO8,J0,false,k2f,D1,2000,J2⟩
theorem g0n:BaseOk bPb:=⟨progOk,o1m,n8 _ _,m4⟩
def l2i (x:Nat):Int:=uI.wrap ↑(zO11 uI.bits ↑x&&& zO11 uI.bits 4503599627370495).toNat
def orE (x:Nat):Int:=uI.wrap ↑(zO11 uI.bits (l2i x)||| zO11 uI.bits 4503599627370496).toNat
def m2z (x:Nat):Int:=iI.wrap (iI.wrap (uI.wrap ↑(zO11 uI.bits (Int.fdiv (x:Int) (2 ^min (Int.toNat 52) uI.bits))&&& zO11 uI.bits 2047).toNat)-1075)
def spV (g:Bool) (m e er:Int):Value:= .tuple ⟨[.bool g, .int .u64 m, .int .i64 e, .int .i64 er]⟩
section
variable (x:Nat)
theorem r2m:b7 (bPb.cx 12) [] 200 88 [.float .f64 x] [true,true] =some (spV false 0 0 10,[(Y0 x==1)=true,(Y0 x==1)=true,x < 18446744073709551616]):=by kernel_rfl
theorem s2h:b7 (bPb.cx 12) [] 200 88 [.float .f64 x] [false,true] =some (spV false 0 0 10,[(Y0 x==2)=true,(Y0 x==1)=false,x < 18446744073709551616]):=by kernel_rfl
theorem t2g:b7 (bPb.cx 12) [] 200 88 [.float .f64 x] [false,false,true] =some (spV (l1z x) 0 0 0,[x < 18446744073709551616,(Y0 x==3)=true,(Y0 x==2)=false,(Y0 x==1)=false,x < 18446744073709551616]):=by kernel_rfl
theorem t2a:b7 (bPb.cx 12) [] 200 88 [.float .f64 x] [false,false,false,true] =some (spV (l1z x) (l2i x) (-1074) 0,[x < 18446744073709551616,(Y0 x==4)=true,(Y0 x==3)=false,(Y0 x==2)=false,(Y0 x==1)=false,x < 18446744073709551616]):=by kernel_rfl
theorem t2c:b7 (bPb.cx 12) [] 200 88 [.float .f64 x] [false,false,false,false] =some (spV (l1z x) (orE x) (m2z x) 0,[x < 18446744073709551616,(Y0 x==4)=false,(Y0 x==3)=false,(Y0 x==2)=false,(Y0 x==1)=false,x < 18446744073709551616]):=by kernel_rfl
end
theorem ofI {x:Nat} (hx:x < 18446744073709551616):(zO11 uI.bits (x:Int)).toNat=x:=by
 show (zO11 64 (x:Int)).toNat=x
 rw [vJ,sH]
 exact J5 hx
theorem wU {n:Nat} (h:n < 18446744073709551616):uI.wrap (n:Int)=(n:Int):=by
 simp [IntKind.wrap,IntKind.bits,IntKind.signed]
 omega
theorem wI {n:Int} (h0: -9223372036854775808<=n) (h1:n<=9223372036854775807):iI.wrap n=n:=by
 have:=C8 n
 omega
theorem h1y {x:Nat} (hx:x < 18446744073709551616):l2i x=((x%4503599627370496:Nat):Int):=by
 unfold l2i
 have h3:(zO11 uI.bits (x:Int)&&& zO11 uI.bits 4503599627370495).toNat=x%4503599627370496:=by
  rw [pK,ofI hx,show (zO11 uI.bits 4503599627370495).toNat=2 ^52-1 by decide]
  exact fH _ 52
 rw [h3,wU (by omega)]
theorem h2x {x:Nat} (hx:x < 18446744073709551616):orE x=((x%4503599627370496+4503599627370496:Nat):Int):=by
 unfold orE
 rw [h1y hx]
 have hm:x%4503599627370496 < 2 ^52:=C7 _ (by decide)
 have h3:(zO11 uI.bits ((x%4503599627370496:Nat):Int)||| zO11 uI.bits 4503599627370496).toNat=x%4503599627370496+4503599627370496:=by
  rw [BitVec.toNat_or,ofI (by omega),show (zO11 uI.bits 4503599627370496).toNat=2 ^52*1 by decide,Nat.or_comm,<- Nat.two_pow_add_eq_or_of_lt hm]
  omega
 rw [h3,wU (by omega)]
theorem c2f {x:Nat} (hx:x < 18446744073709551616):m2z x=((x/4503599627370496%2048:Nat):Int)-1075:=by
 unfold m2z
 have hf:Int.fdiv (x:Int) (2 ^min (Int.toNat 52) uI.bits)=((x/4503599627370496:Nat):Int):=by
  show Int.fdiv (x:Int) 4503599627370496=_
  rw [eU _ (by decide)]
  omega
 rw [hf]
 have h3:(zO11 uI.bits ((x/4503599627370496:Nat):Int)&&& zO11 uI.bits 2047).toNat=x/4503599627370496%2048:=by
  rw [pK,ofI (by omega),show (zO11 uI.bits 2047).toNat=2 ^11-1 by decide]
  exact fH _ 11
 rw [h3,wU (by omega),wI (n:=((x/4503599627370496%2048:Nat):Int)) (by omega) (by omega),wI (by omega) (by omega)]
def T1 (x:Nat):Nat:=if Y0 x<=3 then 0 else if Y0 x=4 then x%4503599627370496 else x%4503599627370496+4503599627370496
def H8 (x:Nat):Int:=if Y0 x<=3 then 0 else if Y0 x=4 then -1074 else ((x/4503599627370496%2048:Nat):Int)-1075
def h0j (x:Nat):Bool:=if Y0 x<=2 then false else l1z x
def z0n (x:Nat):Int:=if Y0 x<=2 then 10 else 0
theorem f1j (x:Nat):Y0 x=1∨Y0 x=2∨Y0 x=3∨Y0 x=4∨Y0 x=5:=by
 unfold Y0
 split
 ·simp
 split
 ·simp
 split
 ·simp
 split <;> simp
theorem i1y {x:Nat} (hx:x < 18446744073709551616):Ev.Pure zO8 J0 88 [.float .f64 x] (spV (h0j x) (T1 x) (H8 x) (z0n x)):=by
 unfold h0j T1 H8 z0n
 rcases f1j x with h | h | h | h | h
 ·have:=w0w g0n (r2m x) ⟨by rw [h]; rfl,by rw [h]; rfl,hx,a7⟩
  rw [h]
  exact this
 ·have:=w0w g0n (s2h x) ⟨by rw [h]; rfl,by rw [h]; rfl,hx,a7⟩
  rw [h]
  exact this
 ·have:=w0w g0n (t2g x) ⟨hx,by rw [h]; rfl,by rw [h]; rfl,by rw [h]; rfl,hx,a7⟩
  rw [h]
  exact this
 ·have:=w0w g0n (t2a x) ⟨hx,by rw [h]; rfl,by rw [h]; rfl,by rw [h]; rfl,by rw [h]; rfl,hx,a7⟩
  rw [h1y hx] at this
  rw [h]
  exact this
 ·have:=w0w g0n (t2c x) ⟨hx,by rw [h]; rfl,by rw [h]; rfl,by rw [h]; rfl,by rw [h]; rfl,hx,a7⟩
  rw [h2x hx,c2f hx] at this
  rw [h]
  exact this
open Go Go.RowKit Ev Wd VaS
abbrev nxB (x:Nat):Bool:=match FloatKind.f64.format.order x x !=some Ordering.eq with
 | true=>true
 | false=>FloatKind.f64.format.order x 9218868437227405311==some Ordering.gt
abbrev pvB (x:Nat):Bool:=match FloatKind.f64.format.order x x !=some Ordering.eq with
 | true=>true
 | false=>FloatKind.f64.format.order x 18442240474082181119==some Ordering.lt
abbrev nxI (x:Nat):Int:=iI.wrap (keyI x+1)
abbrev pvI (x:Nat):Int:=iI.wrap (keyI x-1)
section
variable (x:Nat)
theorem h2r:b7 XTn [] 200 13 [.float .f64 x] [false] =some (.float .f64 (atW (nxI x)),[-1<=nxI x∧nxI x<=9223372036854775807,x < 18446744073709551616,nxB x=false]):=by kernel_rfl
theorem g2e:b7 XTn [] 200 14 [.float .f64 x] [false] =some (.float .f64 (atW (pvI x)),[-1<=pvI x∧pvI x<=9223372036854775807,x < 18446744073709551616,pvB x=false]):=by kernel_rfl
end
section
variable {x:Nat} (h:x < 9218868437227405312)
include h
theorem t1c:(FloatKind.f64.format.order x x !=some Ordering.eq)=false:=by
 have h1:(Ieee.double.order x x==some .eq)= !gF x:=eqx (by omega)
 have h2:gF x=false:=by
  unfold gF
  rw [J5 (show x < p63 by unfold p63; omega)]
  exact d4 (by omega)
 rw [h2] at h1
 show (!(Ieee.double.order x x==some .eq))=false
 rw [h1]
 rfl
theorem p2q:nxB x=false:=by
 unfold nxB
 rw [t1c h]
 show (Ieee.double.order x 9218868437227405311==some .gt)=false
 rw [c1w (by omega) (by decide)]
 refine s6 fun e=> ?_
 have e:=J8 e
 have:¬((9218868437227405311:Nat):Int) < (x:Int):=by omega
 exact this (Int.compare_eq_gt.1 e)
theorem u1b:keyI x=(x:Int):=by
 have hm:x%p63=x:=J5 (by unfold p63; omega)
 unfold keyI gF
 rw [hm,d4 (by omega),a8 (by decide),a8 (by unfold p63; omega)]
theorem i1u:Ev.Pure zO8 J0 13 [.float .f64 x] (.float .f64 (x+1)):=by
 have hi:nxI x=((x+1:Nat):Int):=by
  unfold nxI
  rw [u1b h]
  have:=C8 ((x:Int)+1)
  omega
 have:=g9 v1i 10 _ _ (h2r x) ⟨by rw [hi]; omega,by omega,p2q h,a7⟩
 rw [hi] at this
 unfold atW at this
 rw [a8 (by omega),l4] at this
 exact this
theorem m2r:pvB x=false:=by
 unfold pvB
 rw [t1c h]
 show (Ieee.double.order x 18442240474082181119==some .lt)=false
 rw [dJ (by omega) (by decide)]
 refine s6 fun e=> ?_
 unfold v1r at e
 have h2:gF x=false:=by
  unfold gF
  rw [J5 (show x < p63 by unfold p63; omega)]
  exact d4 (by omega)
 rw [h2,show gF 18442240474082181119=false by decide] at e
 simp only [Bool.or_self,M7,C5] at e
 have e:=Int.compare_eq_lt.1 (J8 e)
 have hs:k1z x=(x:Int):=by
  unfold k1z
  rw [J5 (show x < p63 by unfold p63; omega),a8 (by unfold p63; omega)]
 rw [hs,show k1z 18442240474082181119= -9218868437227405311 by decide] at e
 omega
def jY (x:Nat):Nat:=if x=0 then 9223372036854775808 else x-1
theorem a1m:Ev.Pure zO8 J0 14 [.float .f64 x] (.float .f64 (jY x)):=by
 have hi:pvI x=(x:Int)-1:=by
  unfold pvI
  rw [u1b h]
  have:=C8 ((x:Int)-1)
  omega
 have:=g9 v1i 10 _ _ (g2e x) ⟨by rw [hi]; omega,by omega,m2r h,a7⟩
 have e:atW (pvI x)=jY x:=by
  rw [hi]
  unfold atW jY
  by_cases h0:x=0
  ·rw [i6 (by omega),i6 h0]
  ·rw [a8 (by omega),a8 h0]
   omega
 rw [e] at this
 exact this
end
def g1q:List Value->Option (Value×List Prop)
 | [.float .f64 x] =>some (.float .f64 (x+1),[x < 9218868437227405312])
 | _=>none
theorem k1g (args:List Value) (v:Value) (l:List Prop) (h:g1q args=some (v,l)) (hl:d9 l):Ev.Pure zO8 J0 13 args v:=by
 unfold g1q at h
 split at h
 ·cases h; exact i1u hl.1
 ·cases h
def g1g:List Value->Option (Value×List Prop)
 | [.float .f64 x] =>some (.float .f64 (jY x),[x < 9218868437227405312])
 | _=>none
theorem h1m (args:List Value) (v:Value) (l:List Prop) (h:g1g args=some (v,l)) (hl:d9 l):Ev.Pure zO8 J0 14 args v:=by
 unfold g1g at h
 split at h
 ·cases h; exact a1m hl.1
 ·cases h
end Go.Proofs.YtbdaebagmmmijaaGreatDoor
namespace Go.Proofs
def gA:Go.Shelf.Ren:=⟨fun | 171=>70 | 243=>124 | 246=>178 | 283=>171 | 284=>172 | 285=>173 | 286=>174 | 129=>188 | 317=>210 | 318=>211 | 319=>212 | 320=>213 | 337=>229 | 338=>230 | n=>n,fun | 3=>3 | 9=>9 | 2=>2 | 4=>4 | 171=>212 | 0=>0 | 53=>39 | 37=>22 | 5=>5 | 173=>214 | 212=>244 | 51=>94 | 20=>20 | 213=>245 | 46=>90 | 232=>272 | 233=>273 | n=>n,fun | 17=>1 | 18=>7 | 19=>8 | n=>n⟩
theorem vC:Go.Proofs.LaysM.n171 zO8 gA where
 mixed:=by kernel_rfl
 f129:=Tryz.func188.trans (G7 some (by kernel_rfl))
 f171:=Tryz.func70.trans (G7 some (by kernel_rfl))
 f243:=Tryz.func124.trans (G7 some (by kernel_rfl))
 f246:=Tryz.func178.trans (G7 some (by kernel_rfl))
 f283:=Tryz.func171.trans (G7 some (by kernel_rfl))
 f284:=Tryz.func172.trans (G7 some (by kernel_rfl))
 f285:=Tryz.func173.trans (G7 some (by kernel_rfl))
 f286:=Tryz.func174.trans (G7 some (by kernel_rfl))
 f317:=Tryz.func210.trans (G7 some (by kernel_rfl))
 f318:=Tryz.func211.trans (G7 some (by kernel_rfl))
 f319:=Tryz.func212.trans (G7 some (by kernel_rfl))
 f320:=Tryz.func213.trans (G7 some (by kernel_rfl))
 f337:=Tryz.func229.trans (G7 some (by kernel_rfl))
 f338:=Tryz.func230.trans (G7 some (by kernel_rfl))
 t0:=Tryz.underlying0
 a0:=Tryz.isAgg0
 z0:=Tryz.sizeOf0
 v0:=Tryz.zeroValue0
 t2:=Tryz.underlying2
 a2:=Tryz.isAgg2
 z2:=Tryz.sizeOf2
 v2:=Tryz.zeroValue2
 t3:=Tryz.underlying3
 a3:=Tryz.isAgg3
 z3:=Tryz.sizeOf3
 v3:=Tryz.zeroValue3
 t4:=Tryz.underlying4
 a4:=Tryz.isAgg4
 z4:=Tryz.sizeOf4
 v4:=Tryz.zeroValue4
 t5:=Tryz.underlying5
 a5:=Tryz.isAgg5
 z5:=Tryz.sizeOf5
 v5:=Tryz.zeroValue5
 t9:=Tryz.underlying9
 a9:=Tryz.isAgg9
 z9:=Tryz.sizeOf9
 v9:=Tryz.zeroValue9
 t20:=Tryz.underlying20
 a20:=Tryz.isAgg20
 z20:=Tryz.sizeOf20
 v20:=Tryz.zeroValue20
 t37:=Tryz.underlying22
 a37:=Tryz.isAgg22
 z37:=Tryz.sizeOf22
 v37:=Tryz.zeroValue22
 t46:=Tryz.underlying90
 a46:=Tryz.isAgg90
 z46:=Tryz.sizeOf90
 v46:=Tryz.zeroValue90
 t51:=Tryz.underlying94
 a51:=Tryz.isAgg94
 z51:=Tryz.sizeOf94
 v51:=Tryz.zeroValue94
 t53:=Tryz.underlying39
 a53:=Tryz.isAgg39
 z53:=Tryz.sizeOf39
 v53:=Tryz.zeroValue39
 t171:=Tryz.underlying212
 a171:=Tryz.isAgg212
 z171:=Tryz.sizeOf212
 v171:=Tryz.zeroValue212
 t173:=Tryz.underlying214
 a173:=Tryz.isAgg214
 z173:=Tryz.sizeOf214
 v173:=Tryz.zeroValue214
 t212:=Tryz.underlying244
 a212:=Tryz.isAgg244
 z212:=Tryz.sizeOf244
 v212:=Tryz.zeroValue244
 t213:=Tryz.underlying245
 a213:=Tryz.isAgg245
 z213:=Tryz.sizeOf245
 t232:=Tryz.underlying272
 a232:=Tryz.isAgg272
 z232:=Tryz.sizeOf272
 v232:=Tryz.zeroValue272
 t233:=Tryz.underlying273
 a233:=Tryz.isAgg273
 z233:=Tryz.sizeOf273
 v233:=Tryz.zeroValue273
 g17:=by kernel_rfl
 g18:=by kernel_rfl
 g19:=by kernel_rfl
 i0:=by kernel_rfl
 i2:=by kernel_rfl
 i3:=by kernel_rfl
 i4:=by kernel_rfl
 i5:=by kernel_rfl
 i9:=by kernel_rfl
 i20:=by kernel_rfl
 i37:=by kernel_rfl
 i46:=by kernel_rfl
 i51:=by kernel_rfl
 i53:=by kernel_rfl
 i171:=by kernel_rfl
 i173:=by kernel_rfl
 i212:=by kernel_rfl
 i232:=by kernel_rfl
 i233:=by kernel_rfl
 m17:=by kernel_rfl
 m18:=by kernel_rfl
 m19:=by kernel_rfl
def S6:Go.Shelf.Ren:=⟨fun | 105=>57 | 212=>101 | 99=>102 | 165=>103 | 166=>104 | 170=>105 | 169=>106 | 263=>161 | 264=>147 | 206=>162 | 240=>163 | 241=>164 | 276=>204 | 277=>205 | n=>n,fun | 9=>9 | 3=>3 | 4=>4 | 20=>20 | 0=>0 | 46=>90 | 109=>125 | 5=>5 | 72=>129 | 76=>133 | 51=>94 | 146=>201 | 53=>39 | 148=>186 | 70=>127 | 37=>22 | 75=>132 | 127=>203 | 164=>235 | 80=>116 | n=>n,fun | n=>n⟩
theorem xJ:Go.Proofs.Lays.n105 zO8 S6 where
 mixed:=by kernel_rfl
 f99:=Tryz.func102.trans (G7 some (by kernel_rfl))
 f105:=Tryz.func57.trans (G7 some (by kernel_rfl))
 f165:=Tryz.func103.trans (G7 some (by kernel_rfl))
 f166:=Tryz.func104.trans (G7 some (by kernel_rfl))
 f169:=Tryz.func106.trans (G7 some (by kernel_rfl))
 f170:=Tryz.func105.trans (G7 some (by kernel_rfl))
 f206:=Tryz.func162.trans (G7 some (by kernel_rfl))
 f212:=Tryz.func101.trans (G7 some (by kernel_rfl))
 f240:=Tryz.func163.trans (G7 some (by kernel_rfl))
 f241:=Tryz.func164.trans (G7 some (by kernel_rfl))
 f263:=Tryz.func161.trans (G7 some (by kernel_rfl))
 f264:=Tryz.func147.trans (G7 some (by kernel_rfl))
 f276:=Tryz.func204.trans (G7 some (by kernel_rfl))
 f277:=Tryz.func205.trans (G7 some (by kernel_rfl))
 t0:=Tryz.underlying0
 a0:=Tryz.isAgg0
 z0:=Tryz.sizeOf0
 v0:=Tryz.zeroValue0
 t3:=Tryz.underlying3
 a3:=Tryz.isAgg3
 z3:=Tryz.sizeOf3
 v3:=Tryz.zeroValue3
 t4:=Tryz.underlying4
 a4:=Tryz.isAgg4
 z4:=Tryz.sizeOf4
 v4:=Tryz.zeroValue4
 t5:=Tryz.underlying5
 a5:=Tryz.isAgg5
 z5:=Tryz.sizeOf5
 v5:=Tryz.zeroValue5
 t9:=Tryz.underlying9
 a9:=Tryz.isAgg9
 z9:=Tryz.sizeOf9
 v9:=Tryz.zeroValue9
 t20:=Tryz.underlying20
 a20:=Tryz.isAgg20
 z20:=Tryz.sizeOf20
 v20:=Tryz.zeroValue20
 t37:=Tryz.underlying22
 a37:=Tryz.isAgg22
 z37:=Tryz.sizeOf22
 v37:=Tryz.zeroValue22
 t46:=Tryz.underlying90
 a46:=Tryz.isAgg90
 z46:=Tryz.sizeOf90
 v46:=Tryz.zeroValue90
 t51:=Tryz.underlying94
 a51:=Tryz.isAgg94
 z51:=Tryz.sizeOf94
 v51:=Tryz.zeroValue94
 t53:=Tryz.underlying39
 a53:=Tryz.isAgg39
 z53:=Tryz.sizeOf39
 v53:=Tryz.zeroValue39
 t70:=Tryz.underlying127
 a70:=Tryz.isAgg127
 z70:=Tryz.sizeOf127
 v70:=Tryz.zeroValue127
 t72:=Tryz.underlying129
 a72:=Tryz.isAgg129
 z72:=Tryz.sizeOf129
 v72:=Tryz.zeroValue129
 t75:=Tryz.underlying132
 a75:=Tryz.isAgg132
 z75:=Tryz.sizeOf132
 v75:=Tryz.zeroValue132
 t76:=Tryz.underlying133
 a76:=Tryz.isAgg133
 z76:=Tryz.sizeOf133
 v76:=Tryz.zeroValue133
 t109:=Tryz.underlying125
 a109:=Tryz.isAgg125
 z109:=Tryz.sizeOf125
 v109:=Tryz.zeroValue125
 t127:=Tryz.underlying203
 a127:=Tryz.isAgg203
 z127:=Tryz.sizeOf203
 v127:=Tryz.zeroValue203
 t146:=Tryz.underlying201
 a146:=Tryz.isAgg201
 z146:=Tryz.sizeOf201
 v146:=Tryz.zeroValue201
 t148:=Tryz.underlying186
 a148:=Tryz.isAgg186
 z148:=Tryz.sizeOf186
 v148:=Tryz.zeroValue186
 t164:=Tryz.underlying235
 a164:=Tryz.isAgg235
 z164:=Tryz.sizeOf235
 v164:=Tryz.zeroValue235
theorem c0x:Go.Proofs.Builder.Extra zO8 S6 where
 sizeBuilder:=by kernel_rfl
 liesBuilder:=by kernel_rfl
 t5:=Tryz.underlying5
 a5:=Tryz.isAgg5
 z5:=Tryz.sizeOf5
 v5:=Tryz.zeroValue5
 infoByte:=by kernel_rfl
 cellsByte:=by kernel_rfl
 sizeByte:=by kernel_rfl
 neB5:=by decide
namespace YtbdaebagmmmijaaGreatDoor
open Go Go.RowKit Ev Go.Shelf Go.Sort Go.Lib
theorem s2t {w:World} (h:J0.I w):Lib.TabIs zO8 w "internal/strconv.uint64pow10" .u64 Lib.pow10Tab:=by
 obtain⟨t,fr,h⟩:=h.2.1
 unfold Lib.TabIs World.var?
 rw [show zO8.globalNamed "internal/strconv.uint64pow10" =some 1 by kernel_rfl]
 simp [h]
def n0l:List Value->Option (Value×List Prop)
 | [.string ⟨⟨s⟩⟩, .int .i64 n] =>some (.string ⟨⟨Lib.repeatL s n.toNat⟩⟩,[0<=n∧n<=9223372036854775807∧s.length*n.toNat<=140737488355328])
 | _=>none
theorem x0c (args:List Value) (v:Value) (l:List Prop) (h:n0l args=some (v,l)) (hl:d9 l):Ev.Pure zO8 J0 57 args v:=by
 unfold n0l at h
 split at h
 ·rename_i s n
  cases h
  obtain⟨⟨h0,h1,h2⟩,_⟩:=hl
  refine⟨rfl,rfl, .inl ⟨enters_of Tryz.func57 (by kernel_rfl) (c:=_) rfl,fun w hw=> ?_⟩⟩
  have:=Any.strings_Repeat xJ c0x ⟨⟨s⟩⟩ n.toNat w (by omega) (by simpa [ByteArray.size] using h2)
  rw [T5 h0] at this
  exact this
 ·cases h
theorem b2v {u:Nat} (hu64:u < 18446744073709551616) (w:World) (htab:Lib.TabIs zO8 w "internal/strconv.uint64pow10" .u64 Lib.pow10Tab):
  Calls zO8 119 #[.int .u64 u, .int .i64 10] w fun e w'=>e= .returned (.string ⟨(zO12 u).toArray⟩)∧∃ k os,w'=grow (w.drewN k) os:=by
 have L:=vC
 by_cases hs:u < 100
 ·have hsm:=Any.internal_strconv_small { L with } u hs
  go_enter Tryz.func119,Tryz.ntmps119
  go_wp2_with (go_at_call 171; refine (hsm _).mono ?_; rintro e w' ⟨rfl,rfl⟩)
  go_ret
  exact⟨rfl,0,#[],by simp [World.drewN_zero]⟩
 ·have hu1:1<=u:=by omega
  have hnd20:Lib.nDigits u<=20:=by have:=Lib.numDigits_eq u hu1 hu64; split at this <;> omega
  have hb3:Lib.nDigits u<=24:=by omega
  have hal:zO8.arrayLen 212=24:=by kernel_rfl
  have hsl:∀ W,(Instr.sliceAt 212 (.pointer (some ⟨w.heap.size,0,none⟩)) none (some (.int .i64 (Lib.nDigits u:Int))) none).run zO8 W= .ok (.slice (some ⟨w.heap.size,0,none⟩) (Lib.nDigits u) 24) W:=fun W=>by
   rw [run_sliceAt_array_h W 212 ⟨w.heap.size,0,none⟩ (by kernel_rfl) .i64 (Lib.nDigits u:Int) (by omega) (by rw [hal]; omega)]
   go_simp
  have hH0:=Lib.holds_zero0 w 212 (Lib.nDigits u) (by omega)
  have hfmt:=Any.internal_strconv_formatBase10 { L with } w.heap.size 0 24 u (Array.replicate (Lib.nDigits u) 0) (w.alloc (.cells Lib.zeros24 212)) hH0 (by rw [l0g]; exact Lib.lt_pow_nDigits u) hu64 (by rw [l0g]; omega)
  rw [l0g] at hfmt
  have hnum:=Any.internal_strconv_numDigits { L with } u hu1 hu64
  have HH0:=Lib.hid hH0
  have iu:(100:Int)<=(u:Int):=by omega
  clear hH0 hal
  go_enter Tryz.func119,Tryz.ntmps119
  go_wp2_with (first
   | (go_at_call 172; refine (hnum _ (Lib.tabIs_alloc htab _)).mono ?_; rintro e w' ⟨rfl,rfl⟩))
  go_at_call 173
  refine hfmt.mono ?_
  rintro e w' ⟨rfl,k,v',dk,rfl,hF⟩
  have hcv:(convert 22 9 (.slice (some ⟨w.heap.size,0,none⟩) (Lib.nDigits u) 24)).run zO8 ((putRow (fun (b:UInt8)=>zO3 .u8 (b.toNat:Int)) (w.alloc (.cells Lib.zeros24 212)) w.heap.size 0 dk).drewN k)= .ok (.string ⟨(zO12 u).toArray⟩) ((putRow (fun (b:UInt8)=>zO3 .u8 (b.toNat:Int)) (w.alloc (.cells Lib.zeros24 212)) w.heap.size 0 dk).drewN k):=by
   have h:=run_convert_bytes_back (P:=zO8) ((putRow (fun (b:UInt8)=>zO3 .u8 (b.toNat:Int)) (w.alloc (.cells Lib.zeros24 212)) w.heap.size 0 dk).drewN k) 22 9 5 ⟨w.heap.size,0,none⟩ 24 (zO12 u) (by kernel_rfl) (by kernel_rfl) (by kernel_rfl) (fun j hj=>by
    rw [Lib.row_is_numeral hF j hj,Lib.add_plain,World.cell?_drewN]
    exact cell?_putRow (fun (b:UInt8)=>zO3 .u8 (b.toNat:Int)) _ w.heap.size 0 _ dk HH0.out (by rw [hF.size,l0g]) j (by rw [hF.size]; rw [Lib.decDigits_length] at hj; exact hj))
   rw [Lib.decDigits_length] at h
   exact h
  go_wp2
  go_ret
  obtain⟨os,eo⟩:=Lib.fin_at w (.cells Lib.zeros24 212) dk k 0
  exact⟨rfl,k,os,eo⟩
theorem i1d {n:Int} (h0:0<=n) (h1:n < 18446744073709551616):Ev.Pure zO8 J0 119 [.int .u64 n, .int .i64 10] (.string ⟨⟨zO12 n.toNat⟩⟩):=by
 refine⟨rfl,rfl, .inl ⟨enters_of Tryz.func119 (by kernel_rfl) (c:=_) rfl,fun w hw=> ?_⟩⟩
 have:=b2v (u:=n.toNat) (by omega) w (s2t hw)
 rw [T5 h0] at this
 refine this.mono fun e w' ⟨he,k,os,hw'⟩=>⟨he,?_⟩
 rw [hw']; exact Lib.below_grow _ w (d5 _) k os
def b1q:List Value->Option (Value×List Prop)
 | [.int .u64 n, .int .i64 b] =>some (.string ⟨⟨zO12 n.toNat⟩⟩,[0<=n∧n < 18446744073709551616∧b=10])
 | _=>none
theorem k1a (args:List Value) (v:Value) (l:List Prop) (h:b1q args=some (v,l)) (hl:d9 l):Ev.Pure zO8 J0 119 args v:=by
 unfold b1q at h
 split at h
 ·rename_i n b
  cases h
  obtain⟨⟨h0,h1,rfl⟩,_⟩:=hl
  exact i1d h0 h1
 ·cases h
end YtbdaebagmmmijaaGreatDoor
end Go.Proofs
namespace Go.Proofs.YtbdaebagmmmijaaGreatDoor
open Go Go.RowKit Ev Wd
theorem tV {u:Nat} (h:¬u < 10):zO12 u=zO12 (u/10)++[UInt8.ofNat (48+u%10)] :=by
 rw [zO12,dif_neg h]
theorem W0 {u:Nat} (h:u < 10):zO12 u=[UInt8.ofNat (48+u)] :=by rw [zO12,dif_pos h]
theorem l1h (u:Nat):zO12 u≠[] :=by
 intro h
 have:=Lib.decDigits_length u
 rw [h] at this
 have:=Lib.nDigits_pos u
 simp at*
 omega
theorem fY {d:Nat} (h:d < 10):(UInt8.ofNat (48+d)).toNat=48+d:=by rw [b1v]; omega
theorem m0j {P:Nat->Prop} (h0:∀ u,u < 10->P u) (h1:∀ u,¬u < 10->P (u/10)->P u) (u:Nat):P u:=by
 induction u using Nat.strongRecOn with
 | ind u ih=>
  by_cases h:u < 10
  ·exact h0 u h
  ·exact h1 u h (ih (u/10) (by omega))
theorem f0t {c:UInt8} {r:List UInt8} (hc:48<=c.toNat∧c.toNat<=57) (hr:s7 r=true):s7 (c ::r)=true:=
 allDB_mem.2 fun b hb=>by
  rcases zzA83.1 hb with rfl | hb
  ·exact hc
  ·exact allDB_mem.1 hr b hb
theorem k0x {a b:List UInt8} (h1:s7 a=true) (h2:s7 b=true):s7 (a++b)=true:=by
 induction a with
 | nil=>exact h2
 | cons c r ih=>
  obtain⟨hc,hr⟩:=P4 h1
  exact f0t hc (ih hr)
theorem X3 (u:Nat):s7 (zO12 u)=true:=by
 refine m0j (P:=fun u=>s7 (zO12 u)=true) (fun u h=> ?_) (fun u h ih=> ?_) u
 ·rw [W0 h]
  exact f0t (by rw [fY h]; omega) rfl
 ·rw [tV h]
  exact k0x ih (f0t (by rw [fY (C7 _ (by decide))]; omega) rfl)
theorem a1w (d:Nat) (h:d < 10):dcN [UInt8.ofNat (48+d)] =d:=by
 unfold dcN
 rw [p0m,List.foldl_nil,dcF,fY h]
 omega
theorem g1w (u:Nat):dcN (zO12 u)=u:=by
 refine m0j (P:=fun u=>dcN (zO12 u)=u) (fun u h=> ?_) (fun u h ih=> ?_) u
 ·rw [W0 h,a1w u h]
 ·rw [tV h,W5,ih,a1w _ (C7 _ (by decide))]
  simp
  omega
theorem c2q (r:Nat):1 < Lib.nDigits r->10 ^(Lib.nDigits r-1)<=r:=by
 refine m0j (P:=fun r=>1 < Lib.nDigits r->10 ^(Lib.nDigits r-1)<=r) (fun u h h1=> ?_) (fun u h ih _=> ?_) r
 ·rw [Lib.nDigits_small h] at h1; omega
 ·rw [Lib.nDigits_big h,b0e]
  have hp:=Lib.nDigits_pos (u/10)
  rcases E0 1 (Lib.nDigits (u/10)) with h1 | h1
  ·have h2:=ih h1
   rw [show Lib.nDigits (u/10)=(Lib.nDigits (u/10)-1)+1 by omega,v6]
   omega
  ·rw [show Lib.nDigits (u/10)=1 by omega]
   omega
def l1t (n r:Nat):List UInt8:=zO6 (n- (zO12 r).length) 48++zO12 r
theorem P5 {r n:Nat} (h:r < 10 ^n) (hn:0 < n):(zO12 r).length<=n:=by
 rw [Lib.decDigits_length]
 rcases E0 n (Lib.nDigits r) with h1 | h1
 ·exfalso
  have h2:=c2q r
  have:10 ^n<=10 ^(Lib.nDigits r-1):=y9 (by decide) (by omega)
  have h3:1 < Lib.nDigits r:=by omega
  have:=h2 h3
  omega
 ·exact h1
theorem j0e {q:Nat} (hq:0 < q):∀ (n r:Nat),r < 10 ^(n+1)->zO12 (q*10 ^(n+1)+r)=zO12 q++l1t (n+1) r
 | 0,r,h=>by
  have h:r < 10:=h
  rw [tV (by omega),show (q*10 ^(0+1)+r)/10=q by omega,show (q*10 ^(0+1)+r)%10=r by omega]
  unfold l1t
  rw [W0 h]
  rfl
 | n+1,r,h=>by
  have hp:10 ^(n+1+1)=10 ^(n+1)*10:=v6 10 (n+1)
  rw [hp] at h ⊢
  have hd:(q*(10 ^(n+1)*10)+r)/10=q*10 ^(n+1)+r/10:=by rw [<- m7]; omega
  have hm:(q*(10 ^(n+1)*10)+r)%10=r%10:=by rw [<- m7]; omega
  have hpos:0 < 10 ^(n+1):=x7 (by decide)
  have hbig:¬q*(10 ^(n+1)*10)+r < 10:=by
   have:1*(10 ^(n+1)*10)<=q*(10 ^(n+1)*10):=s5 _ hq
   have:1<=10 ^(n+1):=hpos
   omega
  rw [tV hbig,hd,hm,j0e hq n (r/10) (by omega),a0g]
  congr 1
  unfold l1t
  by_cases hr:r < 10
  ·rw [show r/10=0 by omega,W0 hr,W0 (u:=0) (by decide),show r%10=r by omega]
   show (zO6 n 48++[48])++_=zO6 (n+1) 48++_
   rw [List.replicate_succ']
  ·rw [tV hr,F6]
   simp
theorem pI (n:Nat):Lib.repeatL [48] n=zO6 n 48:=by
 induction n with
 | zero=>rfl
 | succ n ih=>rw [Lib.repeatL,ih]; rfl
theorem s0o {P:Nat->Prop} [DecidablePred P] :∀ (m:Nat),P m->∃ k,k<=m∧P k∧∀ i,i < k->¬P i
 | 0,h=>⟨0,d5 _,h,fun i hi=>by omega⟩
 | m+1,h=>by
  by_cases hm:∃ i,i<=m∧P i
  ·obtain⟨i,hi,hp⟩:=hm
   obtain⟨k,k1,k2,k3⟩:=s0o i hp
   exact⟨k,by omega,k2,k3⟩
  ·exact⟨m+1,d5 _,h,fun i hi hp=>hm ⟨i,by omega,hp⟩⟩
def y1v:Tab:=l7 119 b1q (l7 57 n0l w0b)
theorem u0u:R8 zO8 J0 y1v:=b8 k1a (b8 x0c jU)
def bTx:Base:=⟨zO8,J0,false,y1v,h0l,200,J2⟩
theorem fA:BaseOk bTx:=⟨progOk,u0u,kF,m4⟩
abbrev XTx:Cx:=bTx.cx 10
def cTx:Code:=A3 zO8 91 0
def cTy:Code:=A3 zO8 91 1
def h2f (A:List Int) (na:Nat):St:=⟨only 59 [(1, .pointer (some ⟨13,0,none⟩)),(2, .string ⟨⟨[]⟩⟩),(3, .slice none 0 0),(4, .pointer (some ⟨17,0,none⟩))],[(17, .cells [.bool false, .slice (some ⟨11,0,some 12⟩) na 0] 113),(13, .cells [.bool false, .slice (some ⟨11,0,some 12⟩) na 0] 113),(11, .ints .u64 A)],18,[],[],0,none,[],13⟩
def tTx (A Y:List Int) (na ny:Nat) (f:Nat->List Value) (k:Nat):St:=⟨only 59 [(1, .pointer (some ⟨13,0,none⟩)),(2, .string ⟨⟨[]⟩⟩),(3, .slice (some ⟨18,0,some 19⟩) k 0),(4, .pointer (some ⟨17,0,none⟩))],[(18, .row 9 1 (.fam f k) 19),(17, .cells [.bool false, .slice (some ⟨15,0,some 16⟩) ny 0] 113),(15, .row Y8 1 (.ints .u64 Y) 16),(13, .cells [.bool false, .slice (some ⟨11,0,some 12⟩) na 0] 113),(11, .ints .u64 A)],20,[],[],0,none,[],13⟩
def k2u (k:Nat) (g:Nat->UInt8) (h:Nat->List UInt8) (i:Int):St:=⟨only 59 [(2, .string ⟨⟨[]⟩⟩),(3, .slice (some ⟨18,0,some 19⟩) k 0),(8, .pointer (some ⟨20,0,none⟩)),(9, .int .i64 i)],[(20, .cells [.pointer none, .slice none 0 0] 129),(18, .row 9 1 (.fam (fun i=>[.string ⟨⟨g i ::h i⟩⟩]) k) 19)],21,[],[],0,none,[],13⟩
def tTy (k:Nat) (g:Nat->UInt8) (h:Nat->List UInt8) (n:Nat) (c:UInt8) (t:List UInt8) (i:Int):St:=⟨only 59 [(2, .string ⟨⟨[]⟩⟩),(3, .slice (some ⟨18,0,some 19⟩) k 0),(8, .pointer (some ⟨20,0,none⟩)),(9, .int .i64 i)],[(20, .cells [.pointer (some ⟨20,0,none⟩), .slice (some ⟨21,0,some 22⟩) n.succ 0] 129),(21, .row 5 1 (.bytes (c ::t)) 22),(18, .row 9 1 (.fam (fun i=>[.string ⟨⟨g i ::h i⟩⟩]) k) 19)],23,[],[],0,none,[],13⟩
abbrev txQ (Z:List Int):List Int:=m1j Z 1000000000000000000
abbrev txR (Z:List Int):List UInt8:=zO12 (p0i Z 1000000000000000000).toNat
abbrev txZ (Z:List Int):Int:=iI.wrap (18-zO2 (txR Z).length)
abbrev txP (Z:List Int):List UInt8:=Lib.repeatL [48] (txZ Z).toNat++txR Z
abbrev txO (Z:List Int) (b:Prop) (ny:Nat):List Prop:=[0<=p0i Z 1000000000000000000∧p0i Z 1000000000000000000 < 18446744073709551616∧(10:Int)=10,b,Cn Z,Z.length < 549755813888,(0:Int) < 1000000000000000000∧(1000000000000000000:Int).toNat < W64,decide (zO2 0 < zO2 ny)=true]
abbrev txN (k:Nat):Prop:=(k+1)*16<=140737488355328∧k+1<=9223372036854775807
abbrev m2w (Z:List Int):List Prop:=[(Lib.repeatL [48] (txZ Z).toNat).length+(txR Z).length<=9223372036854775807,0<=txZ Z∧txZ Z<=9223372036854775807∧1*(txZ Z).toNat<=140737488355328,decide (zO2 0 < zO2 (txQ Z).length)=true]
def a2y (t:List UInt8) (f:Nat->List Value):Nat->List Value
 | 0=>[.string ⟨⟨t⟩⟩]
 | i+1=>f i
section
variable (A Y:List Int) (na ny:Nat) (f:Nat->List Value) (k:Nat)
theorem c2y (hl:d9 ([(f k).map uE=[.string ⟨⟨txR (Y.take ny)⟩⟩],k*1=(rA f k).length∧txN k,decide (zO2 0 < zO2 (txQ (Y.take ny)).length)=false] ++txO (Y.take ny) (ny<=Y.length) ny)):r7 XTx cTx (tTx A Y na ny f k) .normal (tTx A (txQ (Y.take ny)) na (txQ (Y.take ny)).length f (k+1)):=
 d6 (a6 fA 10).1 progOk.mixed [] 200 [true,false] [(18,25),(19,26),(17,28),(15,20),(16,21)] (by kernel_rfl) hl (by kernel_rfl) (by kernel_rfl)
theorem a2n (hl:d9 ([(f k).map uE=[.string ⟨⟨txP (Y.take ny)⟩⟩],k*1=(rA f k).length∧txN k] ++m2w (Y.take ny)++txO (Y.take ny) (ny<=Y.length) ny)):r7 XTx cTx (tTx A Y na ny f k) .normal (tTx A (txQ (Y.take ny)) na (txQ (Y.take ny)).length f (k+1)):=
 d6 (a6 fA 10).1 progOk.mixed [] 200 [true,true] [(18,25),(19,26),(17,28),(15,20),(16,21)] (by kernel_rfl) hl (by kernel_rfl) (by kernel_rfl)
theorem e2y (hl:d9 [decide (zO2 0 < zO2 ny)=false]):r7 XTx cTx (tTx A Y na ny f k) (.exit 0) (tTx A Y na ny f k):=
 d6 (a6 fA 10).1 progOk.mixed [] 200 [false] [] (by kernel_rfl) hl (by kernel_rfl) (by kernel_rfl)
theorem x1z (hl:d9 ([16<=140737488355328∧1<=9223372036854775807,decide (zO2 0 < zO2 (txQ A).length)=false] ++txO A (na=A.length) na)):r7 XTx cTx (h2f A na) .normal (tTx A (txQ A) na (txQ A).length (a2y (txR A) f) 1):=
 d6 (a6 fA 10).1 progOk.mixed [] 200 [true,false] [(18,23),(19,24),(17,26),(15,18),(16,19)] (by kernel_rfl) hl (by kernel_rfl) (by kernel_rfl)
theorem b2u (hl:d9 ([16<=140737488355328∧1<=9223372036854775807] ++m2w A++txO A (na=A.length) na)):r7 XTx cTx (h2f A na) .normal (tTx A (txQ A) na (txQ A).length (a2y (txP A) f) 1):=
 d6 (a6 fA 10).1 progOk.mixed [] 200 [true,true] [(18,23),(19,24),(17,26),(15,18),(16,19)] (by kernel_rfl) hl (by kernel_rfl) (by kernel_rfl)
theorem w1x {x:AX} {s':St} (h:b9 XTx cTx (h2f A A.length) x s'):b9 XTx cTx (n9 XTx 200 91 [iL false A] [false]) x s':=
 l9 h [] (by kernel_rfl) (by kernel_rfl) (by kernel_rfl)
end
section
variable (k:Nat) (g:Nat->UInt8) (h:Nat->List UInt8) (n:Nat) (c:UInt8) (t:List UInt8) (i:Int)
abbrev tyA (i:Int):Nat:=U0 (r8 0 i.toNat) 0 1
abbrev tyO (k:Nat) (g:Nat->UInt8) (h:Nat->List UInt8) (i:Int):List Prop:=[(rA (fun i=>[.string ⟨⟨g i ::h i⟩⟩]) k)[r8 0 i.toNat]? =some (.string ⟨⟨g (tyA i) ::h (tyA i)⟩⟩),(zO2 0<=i∧i < zO2 k)∧0 < (rA (fun i=>[.string ⟨⟨g i ::h i⟩⟩]) k).length,decide (zO2 0<=i)=true]
theorem o1d (hl:d9 ([((h (tyA i)).length+1)*1<=140737488355328∧(h (tyA i)).length+1<=9223372036854775807] ++tyO k g h i)):r7 XTx cTy (k2u k g h i) .normal (tTy k g h (h (tyA i)).length (g (tyA i)) (h (tyA i)) (iI.wrap (i-1))):=
 d6 (a6 fA 10).1 progOk.mixed [] 200 [true] [(21,22),(22,23)] (by kernel_rfl) hl (by kernel_rfl) (by kernel_rfl)
theorem w1d (hl:d9 ([n.succ*1=(c ::t).length∧(n.succ+((h (tyA i)).length+1))*1<=140737488355328∧n.succ+((h (tyA i)).length+1)<=9223372036854775807] ++tyO k g h i)):r7 XTx cTy (tTy k g h n c t i) .normal (tTy k g h (n.succ+(h (tyA i)).length) c (t++(g (tyA i) ::h (tyA i))) (iI.wrap (i-1))):=
 d6 (a6 fA 10).1 progOk.mixed [] 200 [true] [(21,23),(22,24)] (by kernel_rfl) hl (by kernel_rfl) (by kernel_rfl)
theorem f2o (hl:d9 [decide (zO2 0<=i)=false]):r7 XTx cTy (tTy k g h n c t i) (.exit 2) (tTy k g h n c t i):=
 d6 (a6 fA 10).1 progOk.mixed [] 200 [false] [] (by kernel_rfl) hl (by kernel_rfl) (by kernel_rfl)
end
abbrev txF (g:Nat->UInt8) (h:Nat->List UInt8):Nat->List Value:=fun i=>[.string ⟨⟨g i ::h i⟩⟩]
def tTm (A Y:List Int) (na ny:Nat) (g:Nat->UInt8) (h:Nat->List UInt8) (k:Nat):St:=⟨only 59 [(1, .pointer (some ⟨13,0,none⟩)),(2, .string ⟨⟨[]⟩⟩),(3, .slice (some ⟨18,0,some 19⟩) k 0),(4, .pointer (some ⟨17,0,none⟩)),(8, .pointer (some ⟨20,0,none⟩)),(9, .int .i64 (iI.wrap ((k:Int)-1))),(43, .pointer (some ⟨13,r8 0 0,none⟩)),(44, .bool false),(46, .slice (some ⟨18,0,some 19⟩) k 0),(47, .int .i64 k),(48, .int .i64 (iI.wrap ((k:Int)-1)))],[(20, .cells [.pointer none, .slice none 0 0] 129),(18, .row 9 1 (.fam (txF g h) k) 19),(17, .cells [.bool false, .slice (some ⟨15,0,some 16⟩) ny 0] 113),(15, .row Y8 1 (.ints .u64 Y) 16),(13, .cells [.bool false, .slice (some ⟨11,0,some 12⟩) na 0] 113),(11, .ints .u64 A)],21,[],[],0,none,[],13⟩
section
variable (A Y:List Int) (na ny:Nat) (g:Nat->UInt8) (h:Nat->List UInt8) (k n:Nat) (c:UInt8) (t:List UInt8) (i:Int)
theorem e2k:B7 XTx [N5 (.exit 0) (fun _=>tTx A Y na ny (txF g h) k),N5 (.exit 2) (fun _=>tTy k g h n c t i)] 200 91 [iL false A] [.c (.v (.string ⟨⟨c ::t⟩⟩))] [false,false] =some [n.succ=(c ::t).length∧n.succ<=9223372036854775807,b9 XTx cTy (tTm A Y na ny g h k) (.exit 2) (tTy k g h n c t i),false=false,b9 XTx cTx (n9 XTx 200 91 [iL false A] [false]) (.exit 0) (tTx A Y na ny (txF g h) k),A.length=A.length∧A.length < 1099511627776∧n7 A=A,(zO2 A.length==zO2 0)=false,Value.string ⟨⟨c ::t⟩⟩=Value.string ⟨⟨c ::t⟩⟩] :=by kernel_rfl
theorem b2b:B7 XTx [] 200 91 [iL false A] [.c (.v (.string ⟨⟨[48]⟩⟩))] [true] =some [(zO2 A.length==zO2 0)=true,Value.string ⟨⟨[48]⟩⟩=Value.string ⟨⟨[48]⟩⟩] :=by kernel_rfl
theorem d2e {x:AX} {s':St} (hh:b9 XTx cTy (k2u k g h (iI.wrap ((k:Int)-1))) x s'):b9 XTx cTy (tTm A Y na ny g h k) x s':=
 l9 hh [] (by kernel_rfl) (by kernel_rfl) (by kernel_rfl)
end
def txB (N k:Nat):Nat:=N/ (1000000000000000000 ^k)
theorem qJ (N:Nat):txB N 0=N:=by unfold txB; simp
theorem d0j (N k:Nat):txB N (k+1)=txB N k/1000000000000000000:=by
 unfold txB
 rw [v6,nO]
def txC (N i:Nat):List UInt8:=if txB N (i+1)=0 then zO12 (txB N i%1000000000000000000) else l1t 18 (txB N i%1000000000000000000)
theorem x1q (n r:Nat):l1t n r≠[] :=by
 unfold l1t
 intro h
 exact l1h r (List.append_eq_nil_iff.1 h).2
theorem t1g (N i:Nat):txC N i≠[] :=by
 unfold txC
 split
 ·exact l1h _
 ·exact x1q _ _
theorem i0i {l:List UInt8} (h:l≠[]):l.headD 48 ::l.tail=l:=by
 cases l with
 | nil=>exact absurd rfl h
 | cons c r=>rfl
def txG (N i:Nat):UInt8:=(txC N i).headD 48
def txH (N i:Nat):List UInt8:=(txC N i).tail
theorem h2a (N i:Nat):txG N i ::txH N i=txC N i:=i0i (t1g N i)
theorem q1c (N:Nat):txF (txG N) (txH N)=a2y (txC N 0) (fun i=>txF (txG N) (txH N) (i+1)):=by
 funext i
 cases i with
 | zero=>show [Value.string ⟨⟨txG N 0 ::txH N 0⟩⟩] =[Value.string ⟨⟨txC N 0⟩⟩]; rw [h2a]
 | succ i=>rfl
theorem f0p (N:Nat):∀ k,rA (txF (txG N) (txH N)) k=(List.range k).map fun i=>Value.string ⟨⟨txC N i⟩⟩
 | 0=>rfl
 | k+1=>by
  rw [l0m,bK]
  show rA (txF (txG N) (txH N)) k++[Value.string ⟨⟨txG N k ::txH N k⟩⟩] =_
  rw [f0p N k,h2a]
  rfl
theorem s0t (N k:Nat):(rA (txF (txG N) (txH N)) k).length=k:=by rw [f0p]; simp
theorem w1v (N:Nat) {i k:Nat} (h:i < k):(rA (txF (txG N) (txH N)) k)[i]? =some (.string ⟨⟨txG N i ::txH N i⟩⟩):=by
 rw [f0p,N6,List.getElem?_range h,h2a]
 rfl
theorem a1q (o:Nat):U0 o 0 1=o:=by unfold U0; simp
theorem k0o (m:Nat):txQ (ws W64 m)=ws W64 (m/1000000000000000000):=by
 unfold txQ m1j
 rw [r9]
 rfl
theorem m0q (m:Nat):p0i (ws W64 m) 1000000000000000000=((m%1000000000000000000:Nat):Int):=by
 unfold p0i
 rw [r9]
 rfl
theorem j0r (m:Nat):txR (ws W64 m)=zO12 (m%1000000000000000000):=by
 unfold txR
 rw [m0q,l4]
theorem k1u (m:Nat):(zO12 (m%1000000000000000000)).length<=18:=P5 (C7 _ (by decide)) (by decide)
theorem g0q (m:Nat):txZ (ws W64 m)=((18- (zO12 (m%1000000000000000000)).length:Nat):Int):=by
 unfold txZ
 rw [j0r]
 have:=k1u m
 show iI.wrap (18- ((zO12 (m%1000000000000000000)).length:Int))=_
 have:=C8 (18- ((zO12 (m%1000000000000000000)).length:Int))
 omega
theorem u1m (m:Nat):txP (ws W64 m)=l1t 18 (m%1000000000000000000):=by
 unfold txP l1t
 rw [j0r,g0q,l4,pI]
theorem t0g {m:Nat} {b:Prop} (hb:b) (h:wl m < 549755813888) (hm:0 < m):d9 (txO (ws W64 m) b (ws W64 m).length):=by
 have hp:0 < (ws W64 m).length:=wl_pos.2 hm
 have hr:=C7 m (y:=1000000000000000000) (by decide)
 refine⟨⟨by rw [m0q]; omega,by rw [m0q]; omega,rfl⟩,hb,by unfold Cn; rw [r9],h,⟨by decide,by decide⟩,f9 (zzA188.2 hp),a7⟩
theorem f1h {m:Nat} (h:0 < m/1000000000000000000):d9 (m2w (ws W64 m)):=by
 have hl:=k1u m
 refine⟨?_,⟨?_,?_,?_⟩,f9 (zzA188.2 ?_),a7⟩
 ·rw [g0q,l4,pI,tD,j0r]; omega
 ·rw [g0q]; omega
 ·rw [g0q]; omega
 ·rw [g0q,l4]; omega
 ·rw [k0o]; exact wl_pos.2 h
def txS (N:Nat):Nat->St
 | 0=>h2f (ws W64 N) (ws W64 N).length
 | k+1=>tTx (ws W64 N) (ws W64 (txB N (k+1))) (ws W64 N).length (ws W64 (txB N (k+1))).length (txF (txG N) (txH N)) (k+1)
theorem u1c (N k:Nat):txB N k<=N:=nV _ _
theorem z1u {N:Nat} (hN:wl N < 549755813888) (k:Nat) (hk:k < 1000000000000) (hp:0 < txB N k):r7 XTx cTx (txS N k) .normal (txS N (k+1)):=by
 have hw:wl (txB N k) < 549755813888:=A5 (bV (u1c N k)) hN
 have hs:=d0j N k
 cases k with
 | zero=>
  rw [qJ] at hp hs
  show r7 XTx cTx (h2f (ws W64 N) (ws W64 N).length) .normal (tTx (ws W64 N) (ws W64 (txB N 1)) (ws W64 N).length (ws W64 (txB N 1)).length (txF (txG N) (txH N)) 1)
  rw [q1c,hs,<- k0o]
  have hC:txC N 0=if N/1000000000000000000=0 then zO12 (N%1000000000000000000) else l1t 18 (N%1000000000000000000):=by
   unfold txC; rw [hs,qJ]
  by_cases h0:N/1000000000000000000=0
  ·rw [hC,i6 h0,<- j0r]
   refine x1z _ _ _ ⟨by decide,d4 ?_,t0g rfl hN hp⟩
   rw [k0o,h0]
   exact iB _
  ·rw [hC,a8 h0,<- u1m]
   exact b2u _ _ _ ⟨by decide,(m3 _ _).2 ⟨f1h (Nat.pos_of_ne_zero h0),t0g rfl hN hp⟩⟩
 | succ k=>
  show r7 XTx cTx (tTx (ws W64 N) (ws W64 (txB N (k+1))) (ws W64 N).length (ws W64 (txB N (k+1))).length (txF (txG N) (txH N)) (k+1)) .normal (tTx (ws W64 N) (ws W64 (txB N (k+1+1))) (ws W64 N).length (ws W64 (txB N (k+1+1))).length (txF (txG N) (txH N)) (k+1+1))
  rw [hs,<- k0o]
  have ht:(ws W64 (txB N (k+1))).take (ws W64 (txB N (k+1))).length=ws W64 (txB N (k+1)):=y3
  have hC:txC N (k+1)=if txB N (k+1)/1000000000000000000=0 then zO12 (txB N (k+1)%1000000000000000000) else l1t 18 (txB N (k+1)%1000000000000000000):=by
   unfold txC; rw [hs]
  have hm:(txF (txG N) (txH N) (k+1)).map uE=[.string ⟨⟨txC N (k+1)⟩⟩] :=by
   rw [<- h2a]; rfl
  have hn:(k+1)*1=(rA (txF (txG N) (txH N)) (k+1)).length∧txN (k+1):=⟨by rw [s0t,y8],by omega,by omega⟩
  by_cases h0:txB N (k+1)/1000000000000000000=0
  ·have:=c2y (ws W64 N) (ws W64 (txB N (k+1))) (ws W64 N).length (ws W64 (txB N (k+1))).length (txF (txG N) (txH N)) (k+1)
   rw [ht] at this
   refine this ⟨?_,hn,d4 ?_,t0g (d5 _) hw hp⟩
   ·rw [hm,hC,i6 h0,j0r]
   ·rw [k0o,h0]
    exact iB _
  ·have:=a2n (ws W64 N) (ws W64 (txB N (k+1))) (ws W64 N).length (ws W64 (txB N (k+1))).length (txF (txG N) (txH N)) (k+1)
   rw [ht] at this
   refine this ⟨?_,hn,(m3 _ _).2 ⟨f1h (Nat.pos_of_ne_zero h0),t0g (d5 _) hw hp⟩⟩
   rw [hm,hC,a8 h0,u1m]
def txD (N i:Nat):List UInt8:=zO12 (txB N i)
theorem u0y (N i:Nat) (h:0 < txB N (i+1)):txD N i=txD N (i+1)++txC N i:=by
 unfold txD txC
 rw [a8 (by omega)]
 have hs:=d0j N i
 have:=eJ (txB N i) 1000000000000000000
 rw [<- hs] at this
 have:=j0e h 17 (txB N i%1000000000000000000) (C7 _ (by decide))
 rw [<- this]
 congr 1
 show txB N i=txB N (i+1)*1000000000000000000+_
 omega
theorem v0i (N i:Nat) (h:txB N (i+1)=0):txD N i=txC N i:=by
 unfold txD txC
 rw [i6 h]
 have hs:=d0j N i
 congr 1
 omega
def tyS (N K:Nat):Nat->St
 | 0=>k2u K (txG N) (txH N) ((K:Int)-1)
 | j+1=>tTy K (txG N) (txH N) (txD N (K-1-j)).tail.length ((txD N (K-1-j)).headD 48) (txD N (K-1-j)).tail ((K:Int)-1- ((j+1:Nat):Int))
theorem h0f (N i:Nat):txD N i≠[] :=l1h _
theorem qY {l:List UInt8} (h:l≠[]):l.tail.length+1=l.length:=by
 cases l with
 | nil=>exact absurd rfl h
 | cons c r=>rfl
theorem d0k (N i:Nat) {M:Nat} (hM:0 < M) (h:N < 10 ^M):(txD N i).length<=M:=P5 (A5 (u1c N i) h) hM
theorem b2x {N K M:Nat} (hM:M<=140000000000) (hM0:0 < M) (hN:N < 10 ^M) (hK:K < 1000000000000) (h0:txB N K=0) (h1:∀ i,i < K->0 < txB N i) (j:Nat) (hj:j < K):r7 XTx cTy (tyS N K j) .normal (tyS N K (j+1)):=by
 have hi:(((K:Int)-1- (j:Int)).toNat)=K-1-j:=by omega
 have hA:tyA ((K:Int)-1- (j:Int))=K-1-j:=by
  unfold tyA
  rw [a1q,hi]
  rfl
 have hO:d9 (tyO K (txG N) (txH N) ((K:Int)-1- (j:Int))):=by
  refine⟨?_,⟨⟨?_,?_⟩,?_⟩,f9 ?_,a7⟩
  ·rw [hA,hi]
   show (rA (txF (txG N) (txH N)) K)[K-1-j]? =_
   exact w1v N (by omega)
  ·show (0:Int)<=_; omega
  ·show _ < (K:Int); omega
  ·show 0 < (rA (txF (txG N) (txH N)) K).length
   rw [s0t]; omega
  ·show (0:Int)<=_; omega
 have hw:iI.wrap ((K:Int)-1- (j:Int)-1)=(K:Int)-1- ((j+1:Nat):Int):=by
  have:=C8 ((K:Int)-1- (j:Int)-1)
  omega
 have hlen:=qY (t1g N (K-1-j))
 have hCl:(txC N (K-1-j)).length<=M:=by
  cases hz:txB N (K-1-j+1) with
  | zero=>rw [<- v0i N _ hz]; exact d0k N _ hM0 hN
  | succ z=>
   have:=d0k N (K-1-j) hM0 hN
   rw [u0y N _ (by omega),F6] at this
   omega
 cases j with
 | zero=>
  have hD:txD N (K-1-0)=txC N (K-1-0):=v0i N _ (by rw [show K-1-0+1=K by omega]; exact h0)
  have:=o1d K (txG N) (txH N) ((K:Int)-1- ((0:Nat):Int)) ⟨?_,hO⟩
  ·rw [hA,hw] at this
   show r7 XTx cTy (k2u K (txG N) (txH N) ((K:Int)-1)) .normal (tTy K (txG N) (txH N) (txD N (K-1-0)).tail.length ((txD N (K-1-0)).headD 48) (txD N (K-1-0)).tail ((K:Int)-1- ((0+1:Nat):Int)))
   rw [hD]
   have e:(K:Int)-1- ((0:Nat):Int)=(K:Int)-1:=by omega
   rw [e] at this
   exact this
  ·rw [hA]
   show ((txC N (K-1-0)).tail.length+1)*1<=_∧(txC N (K-1-0)).tail.length+1<=_
   omega
 | succ j=>
  have hD:txD N (K-1- (j+1))=txD N (K-1-j)++txC N (K-1- (j+1)):=by
   have:=u0y N (K-1- (j+1)) (h1 _ (by omega))
   rwa [show K-1- (j+1)+1=K-1-j by omega] at this
  have hl0:=qY (h0f N (K-1-j))
  have hl1:=qY (h0f N (K-1- (j+1)))
  have hDl:=d0k N (K-1- (j+1)) hM0 hN
  have hlD:(txD N (K-1- (j+1))).length=(txD N (K-1-j)).length+(txC N (K-1- (j+1))).length:=by rw [hD,F6]
  have hhd:(txD N (K-1- (j+1))).headD 48=(txD N (K-1-j)).headD 48∧(txD N (K-1- (j+1))).tail=(txD N (K-1-j)).tail++txC N (K-1- (j+1)):=by
   have hne:=h0f N (K-1-j)
   rw [hD]
   cases hl:txD N (K-1-j) with
   | nil=>exact absurd hl hne
   | cons c r=>exact⟨rfl,rfl⟩
  have:=w1d K (txG N) (txH N) (txD N (K-1-j)).tail.length ((txD N (K-1-j)).headD 48) (txD N (K-1-j)).tail ((K:Int)-1- ((j+1:Nat):Int)) ⟨?_,hO⟩
  ·rw [hA,hw,h2a] at this
   show r7 XTx cTy (tTy K (txG N) (txH N) (txD N (K-1-j)).tail.length ((txD N (K-1-j)).headD 48) (txD N (K-1-j)).tail ((K:Int)-1- ((j+1:Nat):Int))) .normal (tTy K (txG N) (txH N) (txD N (K-1- (j+1))).tail.length ((txD N (K-1- (j+1))).headD 48) (txD N (K-1- (j+1))).tail ((K:Int)-1- ((j+1+1:Nat):Int)))
   rw [hhd.1,hhd.2,F6,<- hlen]
   have e:(txD N (K-1-j)).tail.length.succ+(txH N (K-1- (j+1))).length=(txD N (K-1-j)).tail.length+((txC N (K-1- (j+1))).tail.length+1):=by
    show _+1+(txC N (K-1- (j+1))).tail.length=_
    omega
   rw [e] at this
   exact this
  ·rw [hA]
   show (_+1)*1=(_ ::_:List UInt8).length∧((txD N (K-1-j)).tail.length+1+((txC N (K-1- (j+1))).tail.length+1))*1<=_∧(txD N (K-1-j)).tail.length+1+((txC N (K-1- (j+1))).tail.length+1)<=_
   refine⟨by simp,by omega,by omega⟩
theorem p1t {N M:Nat} (hw:wl N < 549755813888) (hM:M<=140000000000) (hM0:0 < M) (hN:N < 10 ^M):Ev.Sem zO8 J0 91 [iN false N] [.c (.v (.string ⟨⟨zO12 N⟩⟩))] :=by
 rcases R2 N with rfl | hpos
 ·rw [W0 (u:=0) (by decide)]
  exact l6 fA 10 _ _ (b2b (ws W64 0)) ⟨rfl,rfl,a7⟩
 ·obtain⟨K,k1,k2,k3⟩:=s0o (P:=fun k=>txB N k=0) M (by
   refine p0e (B9 hN ?_)
   exact nU (by decide) _)
  have h1:∀ i,i < K->0 < txB N i:=fun i hi=>Nat.pos_of_ne_zero (k3 i hi)
  have hK0:0 < K:=by
   rcases R2 K with rfl | h
   ·rw [qJ] at k2; omega
   ·exact h
  obtain⟨k,rfl⟩:∃ k,K=k+1:=⟨K-1,by omega⟩
  have hrun:=v7 (txS N) (k+1) (x:= .exit 0) (by intro e; cases e) (fun i hi=>z1u hw i (by omega) (h1 i hi)) (e2y _ _ _ _ _ _ ⟨d4 (by rw [k2]; exact iB _),a7⟩)
  have hrun2:=v7 (tyS N (k+1)) (k+1) (x:= .exit 2) (by intro e; cases e) (fun i hi=>b2x hM hM0 hN (by omega) k2 h1 i hi) (f2o _ _ _ _ _ _ _ ⟨d4 (by show ¬(0:Int)<=_; omega),a7⟩)
  have e0:k+1-1-k=0:=by omega
  have hw1:iI.wrap (((k+1:Nat):Int)-1)=((k+1:Nat):Int)-1:=by
   have:=C8 (((k+1:Nat):Int)-1)
   omega
  rw [e0] at hrun2
  have hD:txD N 0=zO12 N:=by unfold txD; rw [qJ]
  have hht:=i0i (h0f N 0)
  have hl:=d0k N 0 hM0 hN
  have hlt:=qY (h0f N 0)
  have hwN:(ws W64 N).length≠0:=Nat.pos_iff_ne_zero.1 (wl_pos.2 hpos)
  have:=l6 fA 10 _ _ (e2k (ws W64 N) (ws W64 (txB N (k+1))) (ws W64 N).length (ws W64 (txB N (k+1))).length (txG N) (txH N) (k+1) (txD N 0).tail.length ((txD N 0).headD 48) (txD N 0).tail (((k+1:Nat):Int)-1- ((k+1:Nat):Int)))
   ⟨⟨rfl,by show _+1<=_; omega⟩,d2e _ _ _ _ _ _ _ (by rw [hw1]; exact hrun2),rfl,w1x _ hrun,⟨rfl,by have:(ws W64 N).length=wl N:=rfl; omega,by rw [G0 A8 (f0b N),r9]⟩,s6 (fun e=>hwN (zO2.inj e)),rfl,a7⟩
  rw [hht,hD] at this
  exact this
def n0e:List Arg->Option (List Arg×List Prop)
 | [.a [.v (.bool false), .s 39 .u64 xs]] =>some ([.c (.v (.string ⟨⟨zO12 (val W64 xs)⟩⟩))],[Cn xs,xs.length < 7000000000])
 | _=>none
theorem w0c:∀ az rs l,n0e az=some (rs,l)->d9 l->Ev.Sem zO8 J0 91 az rs:=by
 intro az rs l h hl
 unfold n0e at h
 split at h
 ·cases h
  rename_i xs
  obtain⟨h1,h2,_⟩:=hl
  unfold Cn at h1
  have hwl:wl (val W64 xs) < 7000000000:=by unfold wl; rw [<- h1]; exact h2
  have hb:val W64 xs < 10 ^(20*wl (val W64 xs)+1):=by
   refine B9 (i0a _) ?_
   refine u7 (nU (show W64<=10 ^20 by decide) _) ?_
   rw [<- Nat.pow_mul]
   exact y9 (by decide) (by omega)
  have:=p1t (by omega) (by omega) (by omega) hb
  unfold iN at this
  rw [<- h1] at this
  exact this
 ·cases h
end Go.Proofs.YtbdaebagmmmijaaGreatDoor
namespace Go.Proofs.YtbdaebagmmmijaaGreatDoor
open Go Go.RowKit Ev VaS
open Go Go.RowKit Ev Wd VaS
def p0u:List Value->Option (Value×List Prop)
 | [.float .f64 x] =>some (spV (h0j x) (T1 x) (H8 x) (z0n x),[x < 18446744073709551616])
 | _=>none
theorem w0d (args:List Value) (v:Value) (l:List Prop) (h:p0u args=some (v,l)) (hl:d9 l):Ev.Pure zO8 J0 88 args v:=by
 unfold p0u at h
 split at h
 ·cases h; exact i1y hl.1
 ·cases h
def r1k:Tab:=l7 88 p0u (l7 45 f0j (l7 94 dD (l7 12 j0p y1v)))
theorem e0t:R8 zO8 J0 r1k:=b8 w0d (b8 yO (b8 iT (b8 tS u0u)))
def j1k:qV:=m8 91 (z7 [shI] n0e) h0l
theorem l0a:qZ zO8 J0 j1k:=d7 (m5 _ w0c) kF
def bTe:Base:=⟨zO8,J0,false,r1k,j1k,200,J2⟩
theorem a0q:BaseOk bTe:=⟨progOk,e0t,l0a,m4⟩
abbrev XTe:Cx:=bTe.cx 10
def cOf:Code:=A3 zO8 50 0
def tOf (g:Bool) (m:Nat) (e b i:Int):St:=⟨only 58 [(2, .pointer (some ⟨11,0,none⟩)),(3, .int .i64 0),(4, .bool g),(5, .int .u64 m),(6, .int .i64 e),(31, .int .i64 b),(32, .int .i64 i)],[(11, .cells [.bool false, .string ⟨⟨[]⟩⟩, .int .i64 0] 33)],12,[],[],0,none,[],11⟩
abbrev ofB (m:Nat):Bool:=match (m:Int).tmod 2==0 with
 | true=>decide ((m:Int) > 0)
 | false=>false
abbrev oW (w:List Int):List Int:=w.take w.length
abbrev oM (m:Int) (e:Int):List Int:=C4 (oW (s4 m)) (oW (Y1 [5] (iI.wrap (0-e))))
abbrev oL (m:Int) (e:Int):List Int:=n6 (oW (s4 m)) e
abbrev oT (w:List Int):List UInt8:=zO12 (val W64 (oW w))
abbrev oR (g:Bool) (t:List UInt8) (x:Int):List Arg:=[dA (mdN g t x) (mdD t x) (mdX t x),iR (mdE t x)]
section
variable (x:Nat) (g:Bool) (m:Nat) (e b i:Int)
theorem x1n (hl:d9 [ofB m=false,decide (i < b)=true]):r7 XTe cOf (tOf g m e b i) .normal (tOf g m e b (iI.wrap (i+1))):=
 d6 (a6 a0q 10).1 progOk.mixed [] 200 [true,false] [] (by kernel_rfl) hl (by kernel_rfl) (by kernel_rfl)
theorem x1m (hl:d9 [ofB m=true,decide (i < b)=true]):r7 XTe cOf (tOf g m e b i) .normal (tOf g (m/2%18446744073709551616) (iI.wrap (e+1)) b (iI.wrap (i+1))):=
 d6 (a6 a0q 10).1 progOk.mixed [] 200 [true,true] [] (by kernel_rfl) hl (by kernel_rfl) (by kernel_rfl)
theorem g2c (hl:d9 [decide (i < b)=false]):r7 XTe cOf (tOf g m e b i) (.exit 0) (tOf g m e b i):=
 d6 (a6 a0q 10).1 progOk.mixed [] 200 [false] [] (by kernel_rfl) hl (by kernel_rfl) (by kernel_rfl)
theorem v1v {z:AX} {s':St} (h:b9 XTe cOf (tOf (h0j x) (T1 x) (H8 x) (iI.wrap (0-H8 x)) 0) z s'):b9 XTe cOf (n9 XTe 200 50 [xR x] [false,false]) z s':=
 l9 h [] (by kernel_rfl) (by kernel_rfl) (by kernel_rfl)
theorem j2e:B7 XTe [N5 (.exit 0) (fun _=>tOf g m e b i)] 200 50 [xR x] (oR g (oT (oM m e)) e) [false,false] =some [(oT (oM m e)).length<=140737488351232,(oM m e).length<=(oM m e).length,Cn (oW (oM m e)),(oW (oM m e)).length < 7000000000,(s4 m).length<=(s4 m).length,(Y1 [5] (iI.wrap (0-e))).length<=(Y1 [5] (iI.wrap (0-e))).length,Cn (oW (s4 m)),Cn (oW (Y1 [5] (iI.wrap (0-e)))),(oW (s4 m)).length < 274877906944,(oW (Y1 [5] (iI.wrap (0-e)))).length < 274877906944,1<=1,Cn [5],0<=iI.wrap (0-e)∧(iI.wrap (0-e)).toNat < 4611686018427387904,1+(iI.wrap (0-e)).toNat*1 < 274877906944,(0:Int)<=5∧(5:Int).toNat < W64,(0:Int)<=(m:Int)∧(m:Int).toNat < W64,b9 XTe cOf (n9 XTe 200 50 [xR x] [false,false]) (.exit 0) (tOf g m e b i),decide (zO2 0<=H8 x)=false,(z0n x !=0)=false,x < 18446744073709551616,dcV (mdN g (oT (oM m e)) e) (mdD (oT (oM m e)) e) (mdX (oT (oM m e)) e)=dcV (mdN g (oT (oM m e)) e) (mdD (oT (oM m e)) e) (mdX (oT (oM m e)) e),zO3 .i64 (mdE (oT (oM m e)) e)=zO3 .i64 (mdE (oT (oM m e)) e)] :=by kernel_rfl
theorem n2r:B7 XTe [] 200 50 [xR x] (oR (h0j x) (oT (oL (T1 x) (H8 x))) 0) [false,true] =some [(oT (oL (T1 x) (H8 x))).length<=140737488351232,(oL (T1 x) (H8 x)).length<=(oL (T1 x) (H8 x)).length,Cn (oW (oL (T1 x) (H8 x))),(oW (oL (T1 x) (H8 x))).length < 7000000000,(s4 (T1 x)).length<=(s4 (T1 x)).length,Cn (oW (s4 (T1 x))),(oW (s4 (T1 x))).length < 549755813888,0<=H8 x∧(H8 x).toNat < 549755813888,(0:Int)<=(T1 x:Int)∧(T1 x:Int).toNat < W64,decide (zO2 0<=H8 x)=true,(z0n x !=0)=false,x < 18446744073709551616,dcV (mdN (h0j x) (oT (oL (T1 x) (H8 x))) 0) (mdD (oT (oL (T1 x) (H8 x))) 0) (mdX (oT (oL (T1 x) (H8 x))) 0)=dcV (mdN (h0j x) (oT (oL (T1 x) (H8 x))) 0) (mdD (oT (oL (T1 x) (H8 x))) 0) (mdX (oT (oL (T1 x) (H8 x))) 0),zO3 .i64 (mdE (oT (oL (T1 x) (H8 x))) 0)=zO3 .i64 (mdE (oT (oL (T1 x) (H8 x))) 0)] :=by kernel_rfl
end
def ofS (m:Nat) (e:Int):Nat->Nat×Int
 | 0=>(m,e)
 | k+1=>if (ofS m e k).1%2=0∧0 < (ofS m e k).1 then ((ofS m e k).1/2,(ofS m e k).2+1) else ofS m e k
theorem i1z (m:Nat) (e:Int):∀ k,∃ j:Nat,j<=k∧m=(ofS m e k).1*2 ^j∧(ofS m e k).2=e+j
 | 0=>⟨0,d5 _,by simp [ofS],by simp [ofS]⟩
 | k+1=>by
  obtain⟨j,h1,h2,h3⟩:=i1z m e k
  unfold ofS
  split
  ·rename_i hc
   refine⟨j+1,by omega,?_,by simp only; omega⟩
   simp only
   rw [v6,p4 (2 ^j) 2,<- m7,show (ofS m e k).1/2*2=(ofS m e k).1 by omega]
   exact h2
  ·exact⟨j,by omega,h2,h3⟩
theorem t1i (m:Nat):ofB m=decide (m%2=0∧0 < m):=by
 unfold ofB
 have h1:((m:Int).tmod 2==0)=decide (m%2=0):=by
  rw [Int.tmod_eq_emod_of_nonneg (w8 _)]
  by_cases h:m%2=0
  ·rw [f9 h]
   exact beq_iff_eq.2 (by omega)
  ·rw [d4 h]
   exact s6 (by omega)
 rw [h1]
 by_cases h:m%2=0
 ·rw [f9 h]
  show decide ((m:Int) > 0)=_
  by_cases hp:0 < m
  ·rw [f9 (show (m:Int) > 0 by omega),f9 (show _∧_ from⟨h,hp⟩)]
  ·rw [d4 (show ¬(m:Int) > 0 by omega),d4 (fun q=>hp q.2)]
 ·rw [d4 h]
  exact (d4 (fun q=>h q.1)).symm
theorem x1g {m:Nat} {e:Int} (g:Bool) {b:Nat} (hm:m < 18446744073709551616) (he: -10000<=e∧e<=0) (hb:b<=10000) (k:Nat) (hk:k < b):r7 XTe cOf (tOf g (ofS m e k).1 (ofS m e k).2 (b:Int) (k:Int)) .normal (tOf g (ofS m e (k+1)).1 (ofS m e (k+1)).2 (b:Int) ((k+1:Nat):Int)):=by
 obtain⟨j,h1,h2,h3⟩:=i1z m e k
 have hw:iI.wrap ((k:Int)+1)=((k+1:Nat):Int):=by
  have:=C8 ((k:Int)+1)
  omega
 have hlt:decide ((k:Int) < (b:Int))=true:=f9 (by omega)
 have hle:(ofS m e k).1<=m:=by
  have h4:=u0j (ofS m e k).1 (aI j)
  rw [<- h2] at h4
  exact h4
 by_cases hc:(ofS m e k).1%2=0∧0 < (ofS m e k).1
 ·have:=x1m g (ofS m e k).1 (ofS m e k).2 (b:Int) (k:Int) ⟨by rw [t1i]; exact f9 hc,hlt,a7⟩
  have hw2:iI.wrap ((ofS m e k).2+1)=(ofS m e k).2+1:=by
   have:=C8 ((ofS m e k).2+1)
   omega
  rw [hw,hw2,J5 (by omega)] at this
  have e1:ofS m e (k+1)=((ofS m e k).1/2,(ofS m e k).2+1):=by
   show (if (ofS m e k).1%2=0∧0 < (ofS m e k).1 then ((ofS m e k).1/2,(ofS m e k).2+1) else ofS m e k)=_
   rw [i6 hc]
  rw [e1]
  exact this
 ·have:=x1n g (ofS m e k).1 (ofS m e k).2 (b:Int) (k:Int) ⟨by rw [t1i]; exact d4 hc,hlt,a7⟩
  rw [hw] at this
  have e1:ofS m e (k+1)=ofS m e k:=by
   show (if (ofS m e k).1%2=0∧0 < (ofS m e k).1 then ((ofS m e k).1/2,(ofS m e k).2+1) else ofS m e k)=_
   rw [a8 hc]
  rw [e1]
  exact this
def doP (x:Nat):Nat×Int:=ofS (T1 x) (H8 x) (-(H8 x)).toNat
def doN (x:Nat):Nat:=if 0<=H8 x then T1 x*2 ^(H8 x).toNat else (doP x).1*5 ^(-(doP x).2).toNat
def doT (x:Nat):List UInt8:=zO12 (doN x)
def doX (x:Nat):Int:=if 0<=H8 x then 0 else (doP x).2
theorem a1p (x:Nat):T1 x < 9007199254740992:=by
 unfold T1
 split
 ·omega
 ·split <;> omega
theorem mB (x:Nat): -1075<=H8 x∧H8 x<=972:=by
 unfold H8
 split
 ·omega
 ·split <;> omega
theorem jC (x:Nat) (h:H8 x < 0):∃ j:Nat,T1 x=(doP x).1*2 ^j∧(doP x).2=H8 x+j∧(doP x).2<=0∧-1075<=(doP x).2∧(doP x).1<=T1 x:=by
 obtain⟨j,h1,h2,h3⟩:=i1z (T1 x) (H8 x) (-(H8 x)).toNat
 have:=mB x
 refine⟨j,h2,h3,?_,?_,?_⟩
 ·show (ofS _ _ _).2<=0; omega
 ·show -1075<=(ofS _ _ _).2; omega
 ·have h4:=u0j (ofS (T1 x) (H8 x) (-(H8 x)).toNat).1 (aI j)
  rw [<- h2] at h4
  exact h4
theorem ows (m:Nat):oW (ws W64 m)=ws W64 m:=y3
theorem kA {m:Nat} {k:Nat} (h:m < 10 ^k):(ws W64 m).length<=k:=fQ k h
theorem yT {a b k n:Nat} (ha:a < 10 ^k) (hb:b<=10 ^n):a*b < 10 ^(k+n):=by
 rw [m9]
 exact Nat.mul_lt_mul_of_lt_of_le ha hb (x7 (by decide))
theorem s1x (x:Nat) {K:Nat} (hK:1076<=K):doN x < 10 ^(16+K):=by
 have h1:=a1p x
 have h2:=mB x
 have h16:(9007199254740992:Nat) < 10 ^16:=by decide
 unfold doN
 split
 ·refine yT (k:=16) (n:=K) (by omega) ?_
  exact u7 (nU (by decide) _) (y9 (by decide) (by omega))
 ·obtain⟨j,q1,q2,q3,q4,q5⟩:=jC x (by omega)
  refine yT (k:=16) (n:=K) (by omega) ?_
  exact u7 (nU (by decide) _) (y9 (by decide) (by omega))
theorem e2t {x:Nat} (hx:x < 18446744073709551616) (hr:z0n x=0):Ev.Sem zO8 J0 50 [xR x] (oR (h0j x) (doT x) (doX x)):=by
 have hR:(z0n x !=0)=false:=by rw [hr]; rfl
 have h1:=a1p x
 have h2:=mB x
 have hm:((T1 x:Nat):Int).toNat=T1 x:=l4 _
 obtain⟨K,hK⟩:∃ K,K=1076:=⟨_,rfl⟩
 have hlt:=s1x x (K:=K) (by omega)
 have hwd:s4 (T1 x)=ws W64 (T1 x):=by unfold s4; rw [hm]
 have hW:(18446744073709551616:Nat)=W64:=rfl
 have hTl:(doT x).length<=16+K:=P5 hlt (by omega)
 by_cases he:0<=H8 x
 ·have hN:doN x=T1 x*2 ^(H8 x).toNat:=by unfold doN; rw [i6 he]
  have hX:doX x=0:=by unfold doX; rw [i6 he]
  have hL:oL (T1 x) (H8 x)=ws W64 (doN x):=by
   unfold oL
   rw [hwd,ows]
   unfold n6
   rw [r9,hN]
  have hT:oT (oL (T1 x) (H8 x))=doT x:=by
   unfold oT doT
   rw [hL,ows,r9]
  have:=n2r x
  rw [hT] at this
  rw [hX]
  refine l6 a0q 10 _ _ this ?_
  rw [hL,hwd,ows,ows]
  have hl1:(ws W64 (T1 x)).length<=16:=kA (by omega)
  have hl2:=kA hlt
  exact⟨by omega,d5 _,Cn.ws _,by omega,d5 _,Cn.ws _,by omega,⟨he,by omega⟩,⟨w8 _,by rw [hm]; omega⟩,f9 he,hR,hx,rfl,rfl,a7⟩
 ·obtain⟨j,q1,q2,q3,q4,q5⟩:=jC x (by omega)
  have hN:doN x=(doP x).1*5 ^(-(doP x).2).toNat:=by unfold doN; rw [a8 he]
  have hX:doX x=(doP x).2:=by unfold doX; rw [a8 he]
  have hwr:∀ z:Int,-2000<=z∧z<=0->iI.wrap (0-z)= -z:=fun z hz=>by
   have:=C8 (0-z)
   omega
  have hwp:s4 (doP x).1=ws W64 (doP x).1:=by unfold s4; rw [l4]
  have hpw:Y1 [5] (iI.wrap (0- (doP x).2))=ws W64 (5 ^(-(doP x).2).toNat):=by
   unfold Y1
   rw [hwr _ (by omega)]
   rfl
  have hM:oM (doP x).1 (doP x).2=ws W64 (doN x):=by
   unfold oM
   rw [hwp,hpw,ows,ows]
   unfold C4
   rw [r9,r9,hN]
  have hT:oT (oM (doP x).1 (doP x).2)=doT x:=by
   unfold oT doT
   rw [hM,ows,r9]
  have hrun:=v7 (fun k=>tOf (h0j x) (ofS (T1 x) (H8 x) k).1 (ofS (T1 x) (H8 x) k).2 ((-(H8 x)).toNat:Int) (k:Int)) (-(H8 x)).toNat (x:= .exit 0) (by intro e; cases e)
   (fun k hk=>x1g (h0j x) (by omega) (by omega) (by omega) k hk) (g2c _ _ _ _ _ ⟨d4 (iB _),a7⟩)
  have:=j2e x (h0j x) (doP x).1 (doP x).2 ((-(H8 x)).toNat:Int) ((-(H8 x)).toNat:Int)
  rw [hT] at this
  rw [hX]
  refine l6 a0q 10 _ _ this ?_
  rw [hM,hwp,hpw,ows,ows,ows,hwr _ (by omega)]
  have hp1:(doP x).1 < 10 ^16:=by omega
  have hp5:5 ^(-(doP x).2).toNat < 10 ^((-(doP x).2).toNat+1):=A5 (nU (by decide) _) (Nat.pow_lt_pow_right (by decide) (by omega))
  have hl1:=kA hp1
  have hl2:=kA hlt
  have hl3:=kA hp5
  have hin:b9 XTe cOf (n9 XTe 200 50 [xR x] [false,false]) (.exit 0) (tOf (h0j x) (doP x).1 (doP x).2 ((-(H8 x)).toNat:Int) ((-(H8 x)).toNat:Int)):=by
   refine v1v x ?_
   rw [hwr _ (by omega)]
   have e1: -(H8 x)=((-(H8 x)).toNat:Int):=by omega
   have hrun':=hrun
   simp only [ofS] at hrun'
   rw [<- e1] at hrun' ⊢
   exact hrun'
  exact⟨by omega,d5 _,Cn.ws _,by omega,d5 _,d5 _,Cn.ws _,Cn.ws _,by omega,by omega,d5 _,by unfold Cn; rfl,⟨by omega,by omega⟩,by omega,⟨by decide,by decide⟩,⟨w8 _,by rw [l4]; omega⟩,hin,d4 he,hR,hx,rfl,rfl,a7⟩
def e0w:List Arg->Option (List Arg×List Prop)
 | [.c (.v (.float .f64 x))] =>some (oR (h0j x) (doT x) (doX x),[x < 18446744073709551616∧z0n x=0])
 | _=>none
theorem zH:∀ az rs l,e0w az=some (rs,l)->d9 l->Ev.Sem zO8 J0 50 az rs:=by
 intro az rs l h hl
 unfold e0w at h
 split at h
 ·cases h
  exact e2t hl.1.1 hl.1.2
 ·cases h
theorem a2v (d:List UInt8) (x:Int) (X:List Int):B7 XTe [] 200 150 [dA false d x] [iL false X] [false] =some [false=false,R6 d,d.length < 100000000000,zO9 false=zO9 false,(E5 d).length=X.length∧(E5 d).length<=(E5 d).length∧(E5 d).take (E5 d).length=X] :=by kernel_rfl
def n0g:List Arg->Option (List Arg×List Prop)
 | [.c (.v (.agg ⟨[.bool g, .string ⟨⟨d⟩⟩, .int .i64 _]⟩))] =>some ([iW false (E5 d)],[g=false∧R6 d∧d.length < 100000000000])
 | _=>none
theorem x0d:∀ az rs l,n0g az=some (rs,l)->d9 l->Ev.Sem zO8 J0 150 az rs:=by
 intro az rs l h hl
 unfold n0g at h
 split at h
 ·cases h
  obtain⟨⟨rfl,h1,h2⟩,_⟩:=hl
  exact l6 a0q 10 _ _ (a2v _ _ _) ⟨rfl,h1,h2,rfl,⟨rfl,d5 _,y3⟩,a7⟩
 ·cases h
def e1y:qV:=m8 150 (z7 [shV] n0g) (m8 50 (z7 [shV] e0w) j1k)
theorem h0v:qZ zO8 J0 e1y:=d7 (m5 _ x0d) (d7 (m5 _ zH) l0a)
def bTj:Base:=⟨zO8,J0,false,r1k,e1y,200,J2⟩
theorem h1q:BaseOk bTj:=⟨progOk,e0t,h0v,m4⟩
abbrev XTj:Cx:=bTj.cx 10
def uW (W:Nat):Nat:=T1 W*2 ^(H8 W+1074).toNat
theorem t0t {W:Nat} (h:W < 9218868437227405312):gF W=false:=by
 unfold gF
 rw [J5 (show W < p63 by unfold p63; omega)]
 exact d4 (by omega)
theorem rC {W:Nat} (h:W < 9218868437227405312):Y0 W=if W=0 then 3 else if W < 4503599627370496 then 4 else 5:=by
 unfold Y0
 rw [t0t h,J5 (show W < p63 by unfold p63; omega),a8 (by decide),a8 (by omega)]
theorem a0z {W E m:Nat} (hW:W < 9218868437227405312) (h:W=E*4503599627370496+m) (hm:m<=9007199254740992) (hE:E=0∨4503599627370496<=m):uW W=m*2 ^E:=by
 have hc:=rC hW
 unfold uW T1 H8
 rw [hc]
 by_cases h0:W=0
 ·rw [i6 h0,i6 (by decide),i6 (by decide),K6,show m=0 by omega,K6]
 ·rw [a8 h0]
  by_cases h1:W < 4503599627370496
  ·rw [i6 h1,a8 (by decide),i6 rfl,a8 (by decide),i6 rfl,J5 h1,show E=0 by omega,show W=m by omega]
   rfl
  ·rw [a8 h1,a8 (by decide),a8 (by decide),a8 (by decide),a8 (by decide)]
   by_cases h2:m < 4503599627370496
   ·omega
   by_cases h3:m < 9007199254740992
   ·rw [show W%4503599627370496+4503599627370496=m by omega,show (((W/4503599627370496%2048:Nat):Int)-1075+1074).toNat=E by omega]
   ·rw [show W%4503599627370496+4503599627370496=4503599627370496 by omega,show (((W/4503599627370496%2048:Nat):Int)-1075+1074).toNat=E+1 by omega,show m=4503599627370496*2 by omega,v6,p4 (2 ^E) 2,<- m7]
theorem t0a {N D:Nat} {e:Int} (he: -1074<=e):N*2 ^1074*atB D e=atA N e*2 ^(e+1074).toNat*D:=by
 unfold atA atB
 by_cases h:0<=e
 ·rw [i6 h,i6 h,show (e+1074).toNat=1074+e.toNat by omega,m9]
  simp only [m7,p4,aP]
 ·rw [a8 h,a8 h]
  have e1:2 ^1074=2 ^(-e).toNat*2 ^(e+1074).toNat:=by rw [<- m9]; congr 1; omega
  rw [e1]
  simp only [m7]
theorem j0t (N D:Nat) (e:Int) (hB:0 < atB D e):(flm N D e=flq N D e∧2*flr N D e<=atB D e∧(2*flr N D e=atB D e->flq N D e%2=0))∨(flm N D e=flq N D e+1∧atB D e<=2*flr N D e∧(2*flr N D e=atB D e->flq N D e%2=1)):=by
 unfold flm vY flw flh upB cmN
 generalize flr N D e=r
 generalize flq N D e=q
 generalize atB D e=B at*
 by_cases hr:r=0
 ·subst hr
  left
  simp
  omega
 ·by_cases h1:r*2 < B
  ·left
   simp [hr,h1]
   omega
  ·by_cases h2:r*2=B
   ·by_cases hq:q%2=1
    ·right
     simp [hr,h2,hq]
     omega
    ·left
     simp [hr,h2,hq]
     omega
   ·right
    simp [hr,h1,h2]
    omega
section
variable {N D W:Nat} {e:Int} (hN:0 < N) (hD:0 < D) (hi:rF 53 (-1074) N D e) (hW:W=rwd 53 (-1074) N D)
theorem t1d (N D:Nat) (e:Int):atA N e=flq N D e*atB D e+flr N D e:=by
 unfold flq flr
 rw [p4]
 exact (eJ _ _).symm
include hN hD hi hW
theorem e1h:W=(e+1074).toNat*4503599627370496+flm N D e:=by
 rw [hW,mX (by decide) hN hD hi,show e- -1074=e+1074 by omega]
theorem c2u (hf:W+1 < 9218868437227405312):2*(N*2 ^1074)<=(uW W+uW (W+1))*D∧(2*(N*2 ^1074)=(uW W+uW (W+1))*D->W%2=0):=by
 have hw:=e1h hN hD hi hW
 obtain⟨i1,i2,i3⟩:=hi
 have i2:flq N D e < 9007199254740992:=i2
 have i3:e= -1074∨4503599627370496<=flq N D e:=i3
 have hB:=r0f hD e
 have hs:=t0a (N:=N) (D:=D) i1
 have hA:=t1d N D e
 obtain⟨E,hE⟩:∃ E,E=(e+1074).toNat:=⟨_,rfl⟩
 rw [<- hE] at hw hs
 have hfc:=j0t N D e hB
 have hrl:flr N D e < atB D e:=C7 _ hB
 have h1:=a0z (W:=W) (E:=E) (m:=flm N D e) (by omega) hw (by omega) (by omega)
 have h2:(flm N D e+1)*2 ^E<=uW (W+1):=by
  by_cases hm:flm N D e+1<=9007199254740992
  ·exact Nat.le_of_eq (a0z (W:=W+1) (E:=E) (m:=flm N D e+1) hf (by omega) hm (by omega)).symm
  ·rw [a0z (W:=W+1) (E:=E+1) (m:=4503599627370496+1) hf (by omega) (by omega) (by omega),v6,p4 (2 ^E) 2,<- m7]
   exact s5 _ (by omega)
 have h3:(2*flm N D e+1)*2 ^E<=uW W+uW (W+1):=by
  rw [h1]
  refine u7 (Nat.le_of_eq ?_) (Nat.add_le_add_left h2 _)
  rw [<- x6]
  congr 1
  omega
 have h4:2*atA N e<=(2*flm N D e+1)*atB D e∧(2*atA N e=(2*flm N D e+1)*atB D e->flm N D e%2=0):=by
  rw [hA]
  rcases hfc with ⟨k1,k2,k3⟩ | ⟨k1,k2,k3⟩
  ·rw [k1,x6,m7]
   refine⟨by omega,fun h=>k3 (by omega)⟩
  ·rw [k1,show 2*(flq N D e+1)+1=2*flq N D e+3 by omega,x6,m7]
   refine⟨by omega,fun h=>by omega⟩
 have h5:2*(N*2 ^1074)*atB D e=2*atA N e*(2 ^E*D):=by
  rw [m7 2,hs]
  simp only [m7]
 have h6:2*(N*2 ^1074)*atB D e<=(2*flm N D e+1)*2 ^E*D*atB D e:=by
  rw [h5]
  refine u7 (s5 _ h4.1) (Nat.le_of_eq ?_)
  simp only [m7,p4,aP]
 have h7:(2*flm N D e+1)*2 ^E*D<=(uW W+uW (W+1))*D:=s5 _ h3
 have h8:2*(N*2 ^1074)<=(2*flm N D e+1)*2 ^E*D:=sX h6 hB
 refine⟨u7 h8 h7,fun he=> ?_⟩
 have h9:2*(N*2 ^1074)=(2*flm N D e+1)*2 ^E*D:=tC h8 (by rw [he]; exact h7)
 have h10:2*atA N e*(2 ^E*D)=(2*flm N D e+1)*atB D e*(2 ^E*D):=by
  rw [<- h5,h9]
  simp only [m7,p4,aP]
 have:=h4.2 (j0k (M6 (aI E) hD) h10)
 omega
theorem p1z (hf:W < 9218868437227405312) (h0:0 < W):(uW (W-1)+uW W)*D<=2*(N*2 ^1074)∧(2*(N*2 ^1074)=(uW (W-1)+uW W)*D->W%2=0):=by
 have hw:=e1h hN hD hi hW
 obtain⟨i1,i2,i3⟩:=hi
 have i2:flq N D e < 9007199254740992:=i2
 have i3:e= -1074∨4503599627370496<=flq N D e:=i3
 have hB:=r0f hD e
 have hs:=t0a (N:=N) (D:=D) i1
 have hA:=t1d N D e
 obtain⟨E,hE⟩:∃ E,E=(e+1074).toNat:=⟨_,rfl⟩
 rw [<- hE] at hw hs
 have hfc:=j0t N D e hB
 have hrl:flr N D e < atB D e:=C7 _ hB
 have h1:=a0z (W:=W) (E:=E) (m:=flm N D e) (by omega) hw (by omega) (by omega)
 have h5:2*(N*2 ^1074)*atB D e=2*atA N e*(2 ^E*D):=by
  rw [m7 2,hs]
  simp only [m7]
 by_cases hm:E=0∨4503599627370496 < flm N D e
 ·have hp:0 < flm N D e:=by omega
  have h2:=a0z (W:=W-1) (E:=E) (m:=flm N D e-1) (by omega) (by omega) (by omega) (by omega)
  have h3:uW (W-1)+uW W=(2*flm N D e-1)*2 ^E:=by
   rw [h1,h2,<- x6]
   congr 1
   omega
  have h4:(2*flm N D e-1)*atB D e<=2*atA N e∧(2*atA N e=(2*flm N D e-1)*atB D e->flm N D e%2=0):=by
   rw [hA]
   rcases hfc with ⟨k1,k2,k3⟩ | ⟨k1,k2,k3⟩
   ·rw [k1] at hp ⊢
    rw [Nat.sub_mul,m7]
    have:1*atB D e<=flq N D e*atB D e:=s5 _ hp
    refine⟨by omega,fun h=>by omega⟩
   ·rw [k1,show 2*(flq N D e+1)-1=2*flq N D e+1 by omega,x6,m7]
    refine⟨by omega,fun h=> ?_⟩
    have:=k3 (by omega)
    omega
  rw [h3]
  have h6:(2*flm N D e-1)*2 ^E*D*atB D e<=2*(N*2 ^1074)*atB D e:=by
   rw [h5]
   refine u7 (Nat.le_of_eq ?_) (s5 _ h4.1)
   simp only [m7,p4,aP]
  refine⟨sX h6 hB,fun he=> ?_⟩
  have h10:2*atA N e*(2 ^E*D)=(2*flm N D e-1)*atB D e*(2 ^E*D):=by
   rw [<- h5,he]
   simp only [m7,p4,aP]
  have:=h4.2 (j0k (M6 (aI E) hD) h10)
  omega
 ·have hq:flq N D e=4503599627370496∧flm N D e=4503599627370496:=by omega
  obtain⟨F,rfl⟩:∃ F,E=F+1:=⟨E-1,by omega⟩
  have h2:=a0z (W:=W-1) (E:=F) (m:=9007199254740991) (by omega) (by omega) (by omega) (by omega)
  have h3:uW (W-1)+uW W < 2*flq N D e*2 ^(F+1):=by
   rw [h1,h2,hq.1,hq.2,v6]
   have:=aI F
   omega
  have h6:2*flq N D e*2 ^(F+1)*D*atB D e<=2*(N*2 ^1074)*atB D e:=by
   rw [h5,hA]
   have:2*flq N D e*2 ^(F+1)*D*atB D e=2*(flq N D e*atB D e)*(2 ^(F+1)*D):=by simp only [m7,p4,aP]
   rw [this]
   exact s5 _ (by omega)
  have h7:=sX h6 hB
  have h8:(uW (W-1)+uW W)*D < 2*flq N D e*2 ^(F+1)*D:=T6 h3 hD
  exact⟨by omega,fun he=>by omega⟩
end
def dvS (S:Nat) (d:List UInt8) (x:Int):Nat:=dgN d*10 ^(x+S).toNat
theorem g1o {S:Nat} {t:List UInt8} {x:Int} (ht:s7 t=true) (hE:mdE t x=0) (hx:0<=x+S):dvS S (mdD t x) (mdX t x)=dcN t*10 ^(x+S).toNat:=by
 unfold dvS mdD mdX
 by_cases h0:d8 t=[]
 ·have hI:mdI t x=false:=by unfold mdI; rw [d4 (by simpa using h0)]; rfl
  rw [hI,a8 (by decide),a8 (by decide),<- Q4,h0]
  show dgN [] *_=dcN [] *_
  rw [show dgN [] =0 by decide,show dcN [] =0 by rfl]
  simp
 ·have hI:mdI t x=true:=by unfold mdI; rw [hE,f9 h0]; rfl
  rw [hI,i6 rfl,i6 rfl]
  have hL:s7 (d8 t)=true:=allDB_mem.2 fun b hb=>allDB_mem.1 ht b (F2 hb)
  have hS:s7 (mdS t)=true:=by
   unfold mdS O8
   refine allDB_mem.2 fun b hb=>allDB_mem.1 hL b ?_
   rw [List.mem_reverse] at hb
   have:=F2 hb
   rwa [List.mem_reverse] at this
  rw [(e1n hS).2,<- Q4 t]
  have h1:=h0a (d8 t)
  have hle:(mdS t).length<=(d8 t).length:=by
   unfold mdS
   have:=A0 (d8 t).reverse
   rw [aR] at this
   unfold O8
   rw [aR]
   exact this
  have h2:(O8 (d8 t))=mdS t:=rfl
  rw [h2] at h1
  rw [h1]
  unfold mdB
  rw [show (x+(((d8 t).length:Int)- ((mdS t).length:Int))+(S:Int)).toNat=((d8 t).length- (mdS t).length)+(x+S).toNat by omega,m9,m7]
theorem kE {t:List UInt8} {x:Int} (hl:t.length<=8192) (hx: -10000<=x∧x<=10000):mdE t x=0:=by
 have h1:=A0 t
 have hle:(mdS t).length<=(d8 t).length:=by
  unfold mdS
  have:=A0 (d8 t).reverse
  rw [aR] at this
  unfold O8
  rw [aR]
  exact this
 unfold mdE mdB
 split
 ·rfl
 ·rw [a8 (by omega),a8 (by omega)]
theorem b1s {x:Nat} :(doT x).length<=1092:=by
 obtain⟨K,hK⟩:∃ K,K=1076:=⟨_,rfl⟩
 have:=P5 (s1x x (K:=K) (by omega)) (by omega)
 unfold doT
 omega
theorem jS (x:Nat): -1075<=doX x∧doX x<=0:=by
 unfold doX
 split
 ·omega
 ·obtain⟨j,q1,q2,q3,q4,q5⟩:=jC x (by omega)
  omega
theorem p0j (x:Nat):mdE (doT x) (doX x)=0:=by
 have:=b1s (x:=x)
 have:=jS x
 exact kE (by omega) (by omega)
theorem t1u {S x:Nat} (hS:1075<=S) (h74: -1074<=H8 x):dvS S (mdD (doT x) (doX x)) (mdX (doT x) (doX x))*2 ^1074=uW x*10 ^S:=by
 have hr:=jS x
 have ht:dcN (doT x)=doN x:=g1w _
 have hd:s7 (doT x)=true:=X3 _
 rw [g1o hd (p0j x) (by omega),ht]
 unfold doN doX uW
 by_cases h:0<=H8 x
 ·rw [i6 h,i6 h,show (H8 x+1074).toNat=(H8 x).toNat+1074 by omega,m9,show ((0:Int)+(S:Int)).toNat=S by omega]
  simp only [m7,p4,aP]
 ·obtain⟨j,q1,q2,q3,q4,q5⟩:=jC x (by omega)
  rw [a8 h,a8 h]
  obtain⟨k,hk⟩:∃ k:Nat,(doP x).2= -(k:Int):=⟨(-(doP x).2).toNat,by omega⟩
  have e1:(-(doP x).2).toNat=k:=by omega
  have e2:((doP x).2+(S:Int)).toNat=S-k:=by omega
  have e3:10 ^S=10 ^(S-k)*(2 ^k*5 ^k):=by
   rw [<- Nat.mul_pow,<- m9]
   congr 1
   omega
  have e5:2 ^j*2 ^(H8 x+1074).toNat*2 ^k=2 ^1074:=by
   rw [<- m9,<- m9]
   congr 1
   omega
  rw [e1,e2,e3,q1,<- e5]
  simp only [m7,p4,aP]
def adE (d1 d2:List UInt8) (x1 x2:Int):Int:=if d1=[] then x2 else if d2=[] then x1 else min x1 x2
def adN (d1 d2:List UInt8) (x1 x2:Int) (d:List UInt8) (x:Int):Nat:=if d1=[] ∨d2=[] then dgN d else dgN d*10 ^(x-min x1 x2).toNat
theorem u1y {S:Nat} {d1 d2:List UInt8} {x1 x2:Int} (h1:0<=x1+S) (h2:0<=x2+S):adN d1 d2 x1 x2 d1 x1*10 ^(adE d1 d2 x1 x2+S).toNat=dvS S d1 x1∧adN d1 d2 x1 x2 d2 x2*10 ^(adE d1 d2 x1 x2+S).toNat=dvS S d2 x2:=by
 have h0:dgN [] =0:=by decide
 unfold adN adE dvS
 by_cases k1:d1=[]
 ·rw [i6 k1,i6 (.inl k1),i6 (.inl k1),k1,h0,K6,K6]
  exact⟨rfl,rfl⟩
 ·rw [a8 k1]
  by_cases k2:d2=[]
  ·rw [i6 k2,i6 (.inr k2),i6 (.inr k2),k2,h0,K6,K6]
   exact⟨rfl,rfl⟩
  ·rw [a8 k2,a8 (by intro h; cases h <;> contradiction),a8 (by intro h; cases h <;> contradiction),m7,m7,<- m9,<- m9]
   constructor
   ·congr 2
    omega
   ·congr 2
    omega
abbrev lfM (x1 x2:Int):Int:=if x2 < x1 then x2 else x1
abbrev lfP (x z:Int):List Int:=Y1 [10] (iI.wrap (x-z))
abbrev lfX (d:List UInt8) (x z:Int):List Int:=C4 (E5 d) (lfP x z)
abbrev lfO (d:List UInt8):Prop:=false=false∧R6 d∧d.length < 100000000000
abbrev lfQ (d:List UInt8) (x z:Int):List Prop:=[(E5 d).length=(E5 d).length,(lfP x z).length=(lfP x z).length,Cn (E5 d),Cn (lfP x z),(E5 d).length < 274877906944,(lfP x z).length < 274877906944,1<=1,Cn [10],0<=iI.wrap (x-z)∧(iI.wrap (x-z)).toNat < 4611686018427387904,1+(iI.wrap (x-z)).toNat*1 < 274877906944,(0:Int)<=10∧(10:Int).toNat < W64]
abbrev lfR (A X:List Int):Prop:=A.length=X.length∧A.length<=A.length∧A.take A.length=X
abbrev lfB (b:Bool):Prop:=zO9 b=zO9 false
section
variable (d1 d2:List UInt8) (X Y:List Int) (x1 x2 e:Int)
theorem s2s:B7 XTj [] 200 95 [dA false d1 x1,dA false d2 x2] [iL false X,iL false Y,iR e] [true] =some [(d1==[])=true,lfO d2,lfO d1,lfB false,lfR (E5 d1) X,lfB false,lfR (E5 d2) Y,zO3 .i64 x2=zO3 .i64 e] :=by kernel_rfl
theorem r2p:B7 XTj [] 200 95 [dA false d1 x1,dA false d2 x2] [iL false X,iL false Y,iR e] [false,true] =some [(d2==[])=true,(d1==[])=false,lfO d2,lfO d1,lfB false,lfR (E5 d1) X,lfB false,lfR (E5 d2) Y,zO3 .i64 x1=zO3 .i64 e] :=by kernel_rfl
theorem s2p:B7 XTj [] 200 95 [dA false d1 x1,dA false d2 x2] [iL false X,iL false Y,iR e] [false,false] =some (lfQ d2 x2 (lfM x1 x2)++lfQ d1 x1 (lfM x1 x2)++[(d2==[])=false,(d1==[])=false,lfO d2,lfO d1,lfB (vZ false (lfX d1 x1 (lfM x1 x2))),lfR (lfX d1 x1 (lfM x1 x2)) X,lfB (vZ false (lfX d2 x2 (lfM x1 x2))),lfR (lfX d2 x2 (lfM x1 x2)) Y,zO3 .i64 (lfM x1 x2)=zO3 .i64 e]):=by kernel_rfl
end
theorem yY (A:List Int):lfR A A:=⟨rfl,d5 _,y3⟩
theorem k2b {d:List UInt8} (h:R6 d):(ws W64 (dgN d)).length<=d.length:=x1y h
theorem a0f (xs:List Int):vZ false xs=false:=by unfold vZ; rfl
theorem u1j {d:List UInt8} {x z:Int} (h:R6 d) (hl:d.length<=8192) (hx:0<=x-z∧x-z<=100000):d9 (lfQ d x z):=by
 have hw:iI.wrap (x-z)=x-z:=by
  have:=C8 (x-z)
  omega
 have hp:lfP x z=ws W64 (10 ^(x-z).toNat):=by
  unfold lfP Y1
  rw [hw]
  rfl
 have h1:=k2b h
 have h2:(ws W64 (10 ^(x-z).toNat)).length<=(x-z).toNat+1:=n0h _
 unfold lfQ
 rw [hp,hw]
 unfold E5
 exact⟨rfl,rfl,Cn.ws _,Cn.ws _,by omega,by omega,d5 _,by unfold Cn; rfl,⟨by omega,by omega⟩,by omega,⟨by decide,by decide⟩,a7⟩
def w1r (g1 g2:Bool) (d1 d2:List UInt8) (x1 x2:Int):Prop:=g1=false∧g2=false∧K4 false d1 x1=true∧K4 false d2 x2=true
theorem s1z {d:List UInt8} {x z:Int} (hx:0<=x-z∧x-z<=100000):lfX d x z=ws W64 (dgN d*10 ^(x-z).toNat):=by
 have hw:iI.wrap (x-z)=x-z:=by
  have:=C8 (x-z)
  omega
 unfold lfX C4 E5 lfP Y1
 rw [hw,r9,r9]
 rfl
theorem z0b {d1 d2:List UInt8} {x1 x2:Int} (h1:K4 false d1 x1=true) (h2:K4 false d2 x2=true):
  Ev.Sem zO8 J0 95 [dA false d1 x1,dA false d2 x2] [iW false (ws W64 (adN d1 d2 x1 x2 d1 x1)),iW false (ws W64 (adN d1 d2 x1 x2 d2 x2)),iR (adE d1 d2 x1 x2)] :=by
 obtain⟨a1,a2,a3,a4,_⟩:=y5 h1
 obtain⟨b1,b2,b3,b4,_⟩:=y5 h2
 have o1:lfO d1:=⟨rfl,a1,by omega⟩
 have o2:lfO d2:=⟨rfl,b1,by omega⟩
 have hm:lfM x1 x2=min x1 x2:=by
  unfold lfM
  split <;> omega
 unfold adN adE
 by_cases k1:d1=[]
 ·rw [i6 k1,i6 (.inl k1),i6 (.inl k1)]
  exact l6 h1q 10 _ _ (s2s d1 d2 (E5 d1) (E5 d2) x1 x2 x2) ⟨by rw [k1]; rfl,o2,o1,rfl,yY _,rfl,yY _,rfl,a7⟩
 ·have e1:(d1==[])=false:=s6 k1
  rw [a8 k1]
  by_cases k2:d2=[]
  ·rw [i6 k2,i6 (.inr k2),i6 (.inr k2)]
   exact l6 h1q 10 _ _ (r2p d1 d2 (E5 d1) (E5 d2) x1 x2 x1) ⟨by rw [k2]; rfl,e1,o2,o1,rfl,yY _,rfl,yY _,rfl,a7⟩
  ·have e2:(d2==[])=false:=s6 k2
   rw [a8 k2,a8 (by intro h; cases h <;> contradiction),a8 (by intro h; cases h <;> contradiction),<- hm]
   have r1:0<=x1-lfM x1 x2∧x1-lfM x1 x2<=100000:=by rw [hm]; omega
   have r2:0<=x2-lfM x1 x2∧x2-lfM x1 x2<=100000:=by rw [hm]; omega
   rw [<- s1z (d:=d1) r1,<- s1z (d:=d2) r2]
   exact l6 h1q 10 _ _ (s2p d1 d2 _ _ x1 x2 _) ((m3 _ _).2 ⟨(m3 _ _).2 ⟨u1j b1 b2 r2,u1j a1 a2 r1⟩,e2,e1,o2,o1,by unfold lfB; rw [a0f],yY _,by unfold lfB; rw [a0f],yY _,rfl,a7⟩)
def z0x:List Arg->Option (List Arg×List Prop)
 | [.c (.v (.agg ⟨[.bool g1, .string ⟨⟨d1⟩⟩, .int .i64 x1]⟩)), .c (.v (.agg ⟨[.bool g2, .string ⟨⟨d2⟩⟩, .int .i64 x2]⟩))] =>some ([iW false (ws W64 (adN d1 d2 x1 x2 d1 x1)),iW false (ws W64 (adN d1 d2 x1 x2 d2 x2)),iR (adE d1 d2 x1 x2)],[w1r g1 g2 d1 d2 x1 x2])
 | _=>none
theorem a1z:∀ az rs l,z0x az=some (rs,l)->d9 l->Ev.Sem zO8 J0 95 az rs:=by
 intro az rs l h hl
 unfold z0x at h
 split at h
 ·cases h
  obtain⟨⟨rfl,rfl,h1,h2⟩,_⟩:=hl
  exact z0b h1 h2
 ·cases h
def u1x:qV:=m8 95 (z7 [shV,shV] z0x) e1y
theorem b1r:qZ zO8 J0 u1x:=d7 (m5 _ a1z) h0v
def bTl:Base:=⟨zO8,J0,false,r1k,u1x,200,J2⟩
theorem u1e:BaseOk bTl:=⟨progOk,e0t,b1r,m4⟩
abbrev XTl:Cx:=bTl.cx 10
abbrev aA (d1 d2:List UInt8) (x1 x2:Int):List Int:=ws W64 (adN d1 d2 x1 x2 d1 x1)
abbrev aB (d1 d2:List UInt8) (x1 x2:Int):List Int:=ws W64 (adN d1 d2 x1 x2 d2 x2)
abbrev aS (d1 d2:List UInt8) (x1 x2:Int):List Int:=g0a false false (oW (aA d1 d2 x1 x2)) (oW (aB d1 d2 x1 x2))
abbrev aT (d1 d2:List UInt8) (x1 x2:Int):List UInt8:=zO12 (val W64 (aS d1 d2 x1 x2))
abbrev aG (d1 d2:List UInt8) (x1 x2:Int):Bool:=decide ((if val W64 (aS d1 d2 x1 x2)=0 then (0:Int) else 1) < 0)
abbrev aO (d1 d2:List UInt8) (x1 x2:Int):List Prop:=[(aA d1 d2 x1 x2).length<=(aA d1 d2 x1 x2).length,(aB d1 d2 x1 x2).length<=(aB d1 d2 x1 x2).length,Cn (oW (aA d1 d2 x1 x2)),Cn (oW (aB d1 d2 x1 x2)),(oW (aA d1 d2 x1 x2)).length < 549755813888,(oW (aB d1 d2 x1 x2)).length < 549755813888,w1r false false d1 d2 x1 x2,(match !K4 false d1 x1 with | true=>true | false=> !K4 false d2 x2)=false,B8 [(3,!K4 false d1 x1)] [(3,false)] ->d2.length<=9223372036854775807,d1.length<=9223372036854775807]
section
variable (d1 d2:List UInt8) (x1 x2 r:Int)
theorem x1d:B7 XTl [] 200 51 [dA false d1 x1,dA false d2 x2] (oR (aG d1 d2 x1 x2) (aT d1 d2 x1 x2) (adE d1 d2 x1 x2)) [false] =some ([(aT d1 d2 x1 x2).length<=140737488351232,(aS d1 d2 x1 x2).length=(aS d1 d2 x1 x2).length,Cn (aS d1 d2 x1 x2),(aS d1 d2 x1 x2).length < 7000000000,(aS d1 d2 x1 x2).length=(aS d1 d2 x1 x2).length∧(aS d1 d2 x1 x2).length < 1099511627776∧n7 (aS d1 d2 x1 x2)=aS d1 d2 x1 x2,(aS d1 d2 x1 x2).length=(aS d1 d2 x1 x2).length,Cn (aS d1 d2 x1 x2)] ++aO d1 d2 x1 x2++[dcV (mdN (aG d1 d2 x1 x2) (aT d1 d2 x1 x2) (adE d1 d2 x1 x2)) (mdD (aT d1 d2 x1 x2) (adE d1 d2 x1 x2)) (mdX (aT d1 d2 x1 x2) (adE d1 d2 x1 x2))=dcV (mdN (aG d1 d2 x1 x2) (aT d1 d2 x1 x2) (adE d1 d2 x1 x2)) (mdD (aT d1 d2 x1 x2) (adE d1 d2 x1 x2)) (mdX (aT d1 d2 x1 x2) (adE d1 d2 x1 x2)),zO3 .i64 (mdE (aT d1 d2 x1 x2) (adE d1 d2 x1 x2))=zO3 .i64 (mdE (aT d1 d2 x1 x2) (adE d1 d2 x1 x2))]):=by kernel_rfl
theorem b2f:B7 XTl [] 200 52 [dA false d1 x1,dA false d2 x2] [iR r,iR 0] [false] =some (aO d1 d2 x1 x2++[zO3 .i64 (l1w false false (oW (aA d1 d2 x1 x2)) (oW (aB d1 d2 x1 x2)))=zO3 .i64 r,zO3 .i64 0=zO3 .i64 0]):=by kernel_rfl
end
def adT (d1 d2:List UInt8) (x1 x2:Int):List UInt8:=zO12 (adN d1 d2 x1 x2 d1 x1+adN d1 d2 x1 x2 d2 x2)
theorem r0u {K:Nat} {d1 d2 d:List UInt8} {x1 x2 x:Int} (h:R6 d) (hl:d.length<=8192) (hx: -20000<=x1∧-20000<=x2∧x<=20000) (hK:50000<=K):adN d1 d2 x1 x2 d x < 10 ^K:=by
 have h1:=zN h
 unfold adN
 split
 ·exact B9 h1 (y9 (by decide) (by omega))
 ·have:dgN d*10 ^(x-min x1 x2).toNat < 10 ^d.length*10 ^(x-min x1 x2).toNat:=T6 h1 (x7 (by decide))
  rw [<- m9] at this
  exact B9 this (y9 (by decide) (by omega))
theorem u0a {a b:List Prop} (h1:d9 a) (h2:d9 b):d9 (a++b):=(m3 _ _).2 ⟨h1,h2⟩
section
variable {d1 d2:List UInt8} {x1 x2:Int} (h1:K4 false d1 x1=true) (h2:K4 false d2 x2=true)
include h1 h2
theorem i2g:d9 (aO d1 d2 x1 x2):=by
 obtain⟨a1,a2,a3,a4,_⟩:=y5 h1
 obtain⟨b1,b2,b3,b4,_⟩:=y5 h2
 obtain⟨K,hK⟩:∃ K,K=50000:=⟨_,rfl⟩
 have n1:=fQ _ (r0u (K:=K) (d1:=d1) (d2:=d2) a1 a2 ⟨a3,b3,a4⟩ (by omega))
 have n2:=fQ _ (r0u (K:=K) (d1:=d1) (d2:=d2) b1 b2 ⟨a3,b3,b4⟩ (by omega))
 unfold aO
 rw [ows,ows]
 refine⟨d5 _,d5 _,Cn.ws _,Cn.ws _,A5 n1 (by omega),A5 n2 (by omega),⟨rfl,rfl,h1,h2⟩,?_,fun _=>by omega,by omega,a7⟩
 rw [h1,h2]
 rfl
theorem c2z:Ev.Sem zO8 J0 51 [dA false d1 x1,dA false d2 x2] (oR false (adT d1 d2 x1 x2) (adE d1 d2 x1 x2)):=by
 obtain⟨a1,a2,a3,a4,_⟩:=y5 h1
 obtain⟨b1,b2,b3,b4,_⟩:=y5 h2
 obtain⟨K,hK⟩:∃ K,K=50000:=⟨_,rfl⟩
 have n1:=r0u (K:=K) (d1:=d1) (d2:=d2) a1 a2 ⟨a3,b3,a4⟩ (by omega)
 have n2:=r0u (K:=K) (d1:=d1) (d2:=d2) b1 b2 ⟨a3,b3,b4⟩ (by omega)
 have hS:aS d1 d2 x1 x2=ws W64 (adN d1 d2 x1 x2 d1 x1+adN d1 d2 x1 x2 d2 x2):=by
  unfold aS
  rw [ows,ows]
  unfold g0a m1k
  rw [r9,r9,i6 rfl]
 have hT:aT d1 d2 x1 x2=adT d1 d2 x1 x2:=by
  unfold aT adT
  rw [hS,r9]
 have hG:aG d1 d2 x1 x2=false:=by
  unfold aG
  refine d4 ?_
  split <;> omega
 have hsum:adN d1 d2 x1 x2 d1 x1+adN d1 d2 x1 x2 d2 x2 < 10 ^(K+1):=by
  rw [v6]
  omega
 have hl:=fQ _ hsum
 have hd:(adT d1 d2 x1 x2).length<=K+1:=P5 hsum (by omega)
 have:=x1d d1 d2 x1 x2
 rw [hT,hG] at this
 refine l6 u1e 10 _ _ this (u0a (u0a ?_ (i2g h1 h2)) ⟨rfl,rfl,a7⟩)
 rw [hS]
 exact⟨by omega,rfl,Cn.ws _,A5 hl (by omega),⟨rfl,A5 hl (by omega),by rw [G0 A8 (f0b _),r9]⟩,rfl,Cn.ws _,a7⟩
theorem c2l:Ev.Sem zO8 J0 52 [dA false d1 x1,dA false d2 x2] [iR (cmN (adN d1 d2 x1 x2 d1 x1) (adN d1 d2 x1 x2 d2 x2)),iR 0] :=by
 refine l6 u1e 10 _ _ (b2f d1 d2 x1 x2 _) (u0a (i2g h1 h2) ⟨?_,rfl,a7⟩)
 rw [ows,ows,tG]
end
def e0p:List Arg->Option (List Arg×List Prop)
 | [.c (.v (.agg ⟨[.bool g1, .string ⟨⟨d1⟩⟩, .int .i64 x1]⟩)), .c (.v (.agg ⟨[.bool g2, .string ⟨⟨d2⟩⟩, .int .i64 x2]⟩))] =>some (oR false (adT d1 d2 x1 x2) (adE d1 d2 x1 x2),[w1r g1 g2 d1 d2 x1 x2])
 | _=>none
theorem q0f:∀ az rs l,e0p az=some (rs,l)->d9 l->Ev.Sem zO8 J0 51 az rs:=by
 intro az rs l h hl
 unfold e0p at h
 split at h
 ·cases h
  obtain⟨⟨rfl,rfl,h1,h2⟩,_⟩:=hl
  exact c2z h1 h2
 ·cases h
def b0u:List Arg->Option (List Arg×List Prop)
 | [.c (.v (.agg ⟨[.bool g1, .string ⟨⟨d1⟩⟩, .int .i64 x1]⟩)), .c (.v (.agg ⟨[.bool g2, .string ⟨⟨d2⟩⟩, .int .i64 x2]⟩))] =>some ([iR (cmN (adN d1 d2 x1 x2 d1 x1) (adN d1 d2 x1 x2 d2 x2)),iR 0],[w1r g1 g2 d1 d2 x1 x2])
 | _=>none
theorem n0o:∀ az rs l,b0u az=some (rs,l)->d9 l->Ev.Sem zO8 J0 52 az rs:=by
 intro az rs l h hl
 unfold b0u at h
 split at h
 ·cases h
  obtain⟨⟨rfl,rfl,h1,h2⟩,_⟩:=hl
  exact c2l h1 h2
 ·cases h
def u1o:qV:=m8 51 (z7 [shV,shV] e0p) (m8 52 (z7 [shV,shV] b0u) (m8 50 (z7 [shV] e0w) D1))
theorem j1q:qZ zO8 J0 u1o:=d7 (m5 _ q0f) (d7 (m5 _ n0o) (d7 (m5 _ zH) (n8 _ _)))
def bTm:Base:=⟨zO8,J0,false,tL,u1o,200,J2⟩
theorem g2j:BaseOk bTm:=⟨progOk,M3,j1q,m4⟩
abbrev XTm:Cx:=bTm.cx 10
theorem r0z {n S:Nat} {x:Int} (hx:0<=x+S):n*10 ^(x+S).toNat*pD 10 x=n*pN 10 x*10 ^S:=by
 unfold pD pN
 by_cases h:0<=x
 ·rw [i6 h,i6 h,y8,m7,<- m9]
  congr 2
  omega
 ·rw [a8 h,a8 h,y8,m7,<- m9]
  congr 2
  omega
section
variable {n S W:Nat} {x:Int} (hn:0 < n) (hW:W=dcW 53 (-1074) n x) (hx:0<=x+S)
include hn hW hx
theorem j2r (hf:W+1 < 9218868437227405312):2*(n*10 ^(x+S).toNat)*2 ^1074<=(uW W+uW (W+1))*10 ^S∧(2*(n*10 ^(x+S).toNat)*2 ^1074=(uW W+uW (W+1))*10 ^S->W%2=0):=by
 have hD:=uQ (B:=10) (by decide) x
 have hN:0 < n*pN 10 x:=M6 hn (u1p (by decide) x)
 obtain⟨h1,h2⟩:=c2u hN hD (H5 (by decide) hN hD) hW hf
 have hs:=r0z (n:=n) hx
 have hT:0 < 10 ^S:=x7 (by decide)
 have e1:2*(n*10 ^(x+S).toNat)*2 ^1074*pD 10 x=2*(n*pN 10 x*2 ^1074)*10 ^S:=by
  calc 2*(n*10 ^(x+S).toNat)*2 ^1074*pD 10 x=2*(n*10 ^(x+S).toNat*pD 10 x)*2 ^1074:=by simp only [m7,p4,aP]
   _=2*(n*pN 10 x*10 ^S)*2 ^1074:=by rw [hs]
   _=_:=by simp only [p4,aP]
 have e2:(uW W+uW (W+1))*10 ^S*pD 10 x=(uW W+uW (W+1))*pD 10 x*10 ^S:=X6 _ _ _
 refine⟨sX (c:=pD 10 x) (by rw [e1,e2]; exact s5 _ h1) hD,fun he=>h2 ?_⟩
 rw [he,e2] at e1
 exact (j0k hT e1).symm
theorem e2l (hf:W < 9218868437227405312) (h0:0 < W):(uW (W-1)+uW W)*10 ^S<=2*(n*10 ^(x+S).toNat)*2 ^1074∧(2*(n*10 ^(x+S).toNat)*2 ^1074=(uW (W-1)+uW W)*10 ^S->W%2=0):=by
 have hD:=uQ (B:=10) (by decide) x
 have hN:0 < n*pN 10 x:=M6 hn (u1p (by decide) x)
 obtain⟨h1,h2⟩:=p1z hN hD (H5 (by decide) hN hD) hW hf h0
 have hs:=r0z (n:=n) hx
 have hT:0 < 10 ^S:=x7 (by decide)
 have e1:2*(n*10 ^(x+S).toNat)*2 ^1074*pD 10 x=2*(n*pN 10 x*2 ^1074)*10 ^S:=by
  calc 2*(n*10 ^(x+S).toNat)*2 ^1074*pD 10 x=2*(n*10 ^(x+S).toNat*pD 10 x)*2 ^1074:=by simp only [m7,p4,aP]
   _=2*(n*pN 10 x*10 ^S)*2 ^1074:=by rw [hs]
   _=_:=by simp only [p4,aP]
 have e2:(uW (W-1)+uW W)*10 ^S*pD 10 x=(uW (W-1)+uW W)*pD 10 x*10 ^S:=X6 _ _ _
 refine⟨sX (c:=pD 10 x) (by rw [e1,e2]; exact s5 _ h1) hD,fun he=>h2 ?_⟩
 rw [he,e2] at e1
 exact (j0k hT e1).symm
end
theorem y1o:rwd 53 (-1074) (10 ^308) 1 < 9218868437227405312:=by decide+kernel
theorem f2r {n k:Nat} {x:Int} (hn:n < 10 ^k) (h:9218868437227405312<=dcW 53 (-1074) n x):308 < (k:Int)+x:=by
 have hD:=uQ (B:=10) (by decide) x
 by_cases hk:308 < (k:Int)+x
 ·exact hk
 ·exfalso
  have hb:=y1o
  obtain⟨T,hT⟩:∃ T,T=308:=⟨_,rfl⟩
  rw [<- hT] at hb
  have hle:n*pN 10 x*1<=10 ^T*pD 10 x:=by
   rw [y8]
   unfold pN pD
   by_cases h0:0<=x
   ·rw [i6 h0,i6 h0,y8]
    have h1:n*10 ^x.toNat<=10 ^k*10 ^x.toNat:=s5 _ (rI hn)
    rw [<- m9] at h1
    exact u7 h1 (y9 (by decide) (by omega))
   ·rw [a8 h0,a8 h0,y8,<- m9]
    exact u7 (rI hn) (y9 (by decide) (by omega))
  have h2:dcW 53 (-1074) n x<=rwd 53 (-1074) (10 ^T) 1:=s1v (by decide) hD (by decide) hle
  omega
abbrev hD (t:List UInt8) (x:Int):List UInt8:=mdD t x
abbrev hX (t:List UInt8) (x:Int):Int:=mdX t x
def hsT (p q:Nat):List UInt8:=adT (mdD (doT p) (doX p)) (mdD (doT q) (doX q)) (mdX (doT p) (doX p)) (mdX (doT q) (doX q))
def hsE (p q:Nat):Int:=adE (mdD (doT p) (doX p)) (mdD (doT q) (doX q)) (mdX (doT p) (doX p)) (mdX (doT q) (doX q))
def hdT (d:List UInt8) (x:Int):List UInt8:=adT d d x x
def hdE (d:List UInt8) (x:Int):Int:=adE d d x x
abbrev hL (d:List UInt8) (x:Int) (p q:Nat) (e:List UInt8) (y:Int):Nat:=adN (mdD (hdT d x) (hdE d x)) (mdD (hsT p q) (hsE p q)) (mdX (hdT d x) (hdE d x)) (mdX (hsT p q) (hsE p q)) e y
abbrev hB (d:List UInt8) (x:Int) (p q:Nat):Bool:=match match match match mdE (doT p) (doX p)==0 with | true=>mdE (doT q) (doX q)==0 | false=>false with | true=>mdE (hsT p q) (hsE p q)==0 | false=>false with | true=>mdE (hdT d x) (hdE d x)==0 | false=>false with | true=>(0:Int)==0 | false=>false
theorem s1f (d:List UInt8) (x:Int) (p q:Nat) (r:Int) (b:Bool):B7 XTm [] 200 16 [dA false d x,xR p,xR q] [iR r, .c (.v (.bool b))] [] =some [w1r (mdN false (hdT d x) (hdE d x)) (mdN false (hsT p q) (hsE p q)) (mdD (hdT d x) (hdE d x)) (mdD (hsT p q) (hsE p q)) (mdX (hdT d x) (hdE d x)) (mdX (hsT p q) (hsE p q)),w1r false false d d x x,w1r (mdN (h0j p) (doT p) (doX p)) (mdN (h0j q) (doT q) (doX q)) (mdD (doT p) (doX p)) (mdD (doT q) (doX q)) (mdX (doT p) (doX p)) (mdX (doT q) (doX q)),q < 18446744073709551616∧z0n q=0,p < 18446744073709551616∧z0n p=0,
  zO3 .i64 (cmN (hL d x p q (mdD (hdT d x) (hdE d x)) (mdX (hdT d x) (hdE d x))) (hL d x p q (mdD (hsT p q) (hsE p q)) (mdX (hsT p q) (hsE p q))))=zO3 .i64 r,zO9 (hB d x p q)=zO9 b] :=by kernel_rfl
def nS:Nat:=2000
def hfC (d:List UInt8) (x:Int) (p q:Nat):Int:=cmN (2*dvS nS d x*2 ^1074) ((uW p+uW q)*10 ^nS)
theorem b1x {p:Nat} (h:p < 9218868437227405312):h0j p=false∧z0n p=0∧-1074<=H8 p:=by
 have hc:=rC h
 have hn:l1z p=false:=by
  unfold l1z
  rw [t0t h,d4 (show ¬p63<=p by unfold p63; omega)]
  rfl
 unfold h0j z0n H8
 rw [hc]
 by_cases h0:p=0
 ·rw [i6 h0]
  exact⟨by rw [a8 (by decide)]; exact hn,rfl,by rw [i6 (by decide)]; decide⟩
 ·rw [a8 h0]
  by_cases h1:p < 4503599627370496
  ·rw [i6 h1]
   exact⟨by rw [a8 (by decide)]; exact hn,rfl,by rw [a8 (by decide),i6 rfl]; decide⟩
  ·rw [a8 h1]
   exact⟨by rw [a8 (by decide)]; exact hn,rfl,by rw [a8 (by decide),a8 (by decide)]; omega⟩
theorem zD (t:List UInt8) (x:Int):mdN false t x=false:=by
 unfold mdN
 split <;> rfl
theorem iJ (t:List UInt8) (x:Int) (h:s7 t=true):K4 false (mdD t x) (mdX t x)=true:=by
 have:=f1b (g:=false) (x:=x) h
 rw [zD] at this
 exact this
theorem aZ (t:List UInt8) (x:Int):(mdX t x=0∨x<=mdX t x∧mdX t x<=x+t.length)∧(mdD t x).length<=t.length:=by
 have h1:=A0 t
 have hle:(mdS t).length<=(d8 t).length:=by
  unfold mdS
  have:=A0 (d8 t).reverse
  rw [aR] at this
  unfold O8
  rw [aR]
  exact this
 unfold mdX mdD mdB
 cases mdI t x with
 | false=>
  rw [a8 (by decide),a8 (by decide)]
  exact⟨.inl rfl,o8 _⟩
 | true=>
  rw [i6 rfl,i6 rfl]
  exact⟨.inr ⟨by omega,by omega⟩,by omega⟩
theorem rH {d1 d2:List UInt8} {x1 x2 a b:Int} (h1:a<=x1∧x1<=b) (h2:a<=x2∧x2<=b):a<=adE d1 d2 x1 x2∧adE d1 d2 x1 x2<=b:=by
 unfold adE
 split
 ·exact h2
 ·split
  ·exact h1
  ·omega
theorem j0z {K:Nat} {d1 d2 d:List UInt8} {x1 x2 x:Int} (h:R6 d) (hK:(d.length:Int)+(x-min x1 x2)<=K) (hx:0<=x-min x1 x2):adN d1 d2 x1 x2 d x < 10 ^K:=by
 have h1:=zN h
 unfold adN
 split
 ·exact B9 h1 (y9 (by decide) (by omega))
 ·have:dgN d*10 ^(x-min x1 x2).toNat < 10 ^d.length*10 ^(x-min x1 x2).toNat:=T6 h1 (x7 (by decide))
  rw [<- m9] at this
  exact B9 this (y9 (by decide) (by omega))
theorem g1a {K:Nat} {d1 d2:List UInt8} {x1 x2:Int} (a1:R6 d1) (a2:R6 d2) (h1:(d1.length:Int)+(x1-min x1 x2)<=K) (h2:(d2.length:Int)+(x2-min x1 x2)<=K):(adT d1 d2 x1 x2).length<=K+1:=by
 have n1:=j0z (d1:=d1) (d2:=d2) a1 h1 (by omega)
 have n2:=j0z (d1:=d1) (d2:=d2) a2 h2 (by omega)
 refine P5 ?_ (by omega)
 rw [v6]
 omega
theorem g1s {S:Nat} {d1 d2:List UInt8} {x1 x2:Int} (h1:0<=x1+S) (h2:0<=x2+S) (hE:mdE (adT d1 d2 x1 x2) (adE d1 d2 x1 x2)=0):
  dvS S (mdD (adT d1 d2 x1 x2) (adE d1 d2 x1 x2)) (mdX (adT d1 d2 x1 x2) (adE d1 d2 x1 x2))=dvS S d1 x1+dvS S d2 x2:=by
 have hr:=rH (d1:=d1) (d2:=d2) (x1:=x1) (x2:=x2) (a:= -(S:Int)) (b:=max x1 x2) (by omega) (by omega)
 have hd:s7 (adT d1 d2 x1 x2)=true:=X3 _
 have hn:dcN (adT d1 d2 x1 x2)=adN d1 d2 x1 x2 d1 x1+adN d1 d2 x1 x2 d2 x2:=g1w _
 obtain⟨e1,e2⟩:=u1y (d1:=d1) (d2:=d2) h1 h2
 rw [g1o hd hE (by omega),hn,x6,e1,e2]
section
variable {d:List UInt8} {x:Int} {p q:Nat} (hd:K4 false d x=true) (hl:d.length<=40) (hx: -400<=x∧x<=400) (hp:p < 9218868437227405312) (hq:q < 9218868437227405312)
include hd hl hx hp hq
theorem m1h:Ev.Sem zO8 J0 16 [dA false d x,xR p,xR q] [iR (hfC d x p q), .c (.v (.bool true))] :=by
 obtain⟨a1,a2,a3,a4,_⟩:=y5 hd
 obtain⟨p1,p2,p3⟩:=b1x hp
 obtain⟨q1,q2,q3⟩:=b1x hq
 have hDp:s7 (doT p)=true:=X3 _
 have hDq:s7 (doT q)=true:=X3 _
 have okp:=iJ (doT p) (doX p) hDp
 have okq:=iJ (doT q) (doX q) hDq
 obtain⟨b1,b2,_⟩:=y5 okp
 obtain⟨c1,c2,_⟩:=y5 okq
 have lp:=b1s (x:=p)
 have lq:=b1s (x:=q)
 have xp:=jS p
 have xq:=jS q
 obtain⟨rp,sp⟩:=aZ (doT p) (doX p)
 obtain⟨rq,sq⟩:=aZ (doT q) (doX q)
 have xp2: -1075<=mdX (doT p) (doX p)∧mdX (doT p) (doX p)<=1092:=by omega
 have xq2: -1075<=mdX (doT q) (doX q)∧mdX (doT q) (doX q)<=1092:=by omega
 have hsl:(hsT p q).length<=4000+1:=g1a b1 c1 (by omega) (by omega)
 have hse: -1075<=hsE p q∧hsE p q<=1092:=rH xp2 xq2
 have hdl:(hdT d x).length<=100+1:=g1a a1 a1 (by omega) (by omega)
 have hde: -400<=hdE d x∧hdE d x<=400:=rH hx hx
 have fs:mdE (hsT p q) (hsE p q)=0:=kE (by omega) (by omega)
 have fd:mdE (hdT d x) (hdE d x)=0:=kE (by omega) (by omega)
 have fp:=p0j p
 have fq:=p0j q
 have hS:nS=2000:=rfl
 have vs:dvS nS (mdD (hsT p q) (hsE p q)) (mdX (hsT p q) (hsE p q))=dvS nS (mdD (doT p) (doX p)) (mdX (doT p) (doX p))+dvS nS (mdD (doT q) (doX q)) (mdX (doT q) (doX q)):=g1s (by omega) (by omega) fs
 have vd:dvS nS (mdD (hdT d x) (hdE d x)) (mdX (hdT d x) (hdE d x))=dvS nS d x+dvS nS d x:=g1s (by omega) (by omega) fd
 obtain⟨rs,_⟩:=aZ (hsT p q) (hsE p q)
 obtain⟨rd,_⟩:=aZ (hdT d x) (hdE d x)
 obtain⟨w1,w2⟩:=u1y (S:=nS) (d1:=mdD (hdT d x) (hdE d x)) (d2:=mdD (hsT p q) (hsE p q)) (x1:=mdX (hdT d x) (hdE d x)) (x2:=mdX (hsT p q) (hsE p q)) (by omega) (by omega)
 have hc:cmN (hL d x p q (mdD (hdT d x) (hdE d x)) (mdX (hdT d x) (hdE d x))) (hL d x p q (mdD (hsT p q) (hsE p q)) (mdX (hsT p q) (hsE p q)))=hfC d x p q:=by
  unfold hL hfC
  rw [<- o0l _ _ (k:=10 ^(adE (mdD (hdT d x) (hdE d x)) (mdD (hsT p q) (hsE p q)) (mdX (hdT d x) (hdE d x)) (mdX (hsT p q) (hsE p q))+(nS:Int)).toNat) (x7 (by decide)),w1,w2,vs,vd,<- o0l _ _ (aI 1074),x6 (dvS nS (mdD (doT p) (doX p)) _),t1u (by omega) p3,t1u (by omega) q3,<- x6,<- Nat.two_mul]
 refine l6 g2j 10 _ _ (s1f d x p q _ _) ⟨⟨zD _ _,zD _ _,iJ _ _ (X3 _),iJ _ _ (X3 _)⟩,⟨rfl,rfl,hd,hd⟩,⟨by rw [p1]; exact zD _ _,by rw [q1]; exact zD _ _,okp,okq⟩,⟨by omega,q2⟩,⟨by omega,p2⟩,by rw [hc],?_,a7⟩
 unfold hB
 rw [fp,fq,fs,fd]
 rfl
end
def q2w (g:Bool) (d:List UInt8) (x:Int) (p q:Nat):Prop:=g=false∧K4 false d x=true∧d.length<=40∧(-400<=x∧x<=400)∧p < 9218868437227405312∧q < 9218868437227405312
abbrev n0a:Prop:=Ev.Pure zO8 J0 7 [] (.bool true)
structure NnV where
 W:List UInt8->Nat
 E:List UInt8->Int
 C:List UInt8->Int->Nat->Nat->Int
def NnV.ok (V:NnV):Prop:=V.W=paW∧V.E=paE∧V.C=hfC
def p0x (V:NnV):List Arg->Option (List Arg×List Prop)
 | [.c (.v (.string ⟨⟨t⟩⟩))] =>some ([xR (V.W t),iR (V.E t)],[])
 | _=>none
theorem w0s {V:NnV} (hV:V.ok):∀ az rs l,p0x V az=some (rs,l)->d9 l->Ev.Sem zO8 J0 10 az rs:=by
 intro az rs l h _
 unfold p0x at h
 split at h
 ·cases h
  rw [hV.1,hV.2.1]
  exact g0m _
 ·cases h
def o0j (V:NnV):List Arg->Option (List Arg×List Prop)
 | [.c (.v (.agg ⟨[.bool g, .string ⟨⟨d⟩⟩, .int .i64 x]⟩)), .c (.v (.float .f64 p)), .c (.v (.float .f64 q))] =>some ([iR (V.C d x p q), .c (.v (.bool true))],[q2w g d x p q])
 | _=>none
theorem y0p {V:NnV} (hV:V.ok):∀ az rs l,o0j V az=some (rs,l)->d9 l->Ev.Sem zO8 J0 16 az rs:=by
 intro az rs l h hl
 unfold o0j at h
 split at h
 ·cases h
  rw [hV.2.2]
  obtain⟨⟨rfl,h1,h2,h3,h4,h5⟩,_⟩:=hl
  exact m1h h1 h2 h3 h4 h5
 ·cases h
def j2d:Tab:=l7 7 (atS [([], .bool true)]) (l7 9 d1n (l7 11 b1w (l7 12 j0p (l7 15 iX (l7 13 g1q (l7 14 g1g (l7 17 Q9 z1h)))))))
theorem o1r (ha:n0a):R8 zO8 J0 j2d:=b8 (M5 (fun p hp=>by simp only [zzA83,S5,S0] at hp; subst hp; exact ha)) (b8 e1o (b8 e1a (b8 tS (b8 pL (b8 k1g (b8 h1m (b8 U9 (gJ _ _))))))))
def t1j (V:NnV):qV:=m8 8 q0n (m8 10 (z7 [shV] (p0x V)) (m8 16 (z7 [shV,shV,shV] (o0j V)) D1))
theorem h1z {V:NnV} (hV:V.ok):qZ zO8 J0 (t1j V):=d7 w0h (d7 (m5 _ (w0s hV)) (d7 (m5 _ (y0p hV)) (n8 _ _)))
def bNn (V:NnV):Base:=⟨zO8,J0,false,j2d,t1j V,200,J2⟩
theorem r0m (ha:n0a) {V:NnV} (hV:V.ok):BaseOk (bNn V):=⟨progOk,o1r ha,h1z hV,m4⟩
abbrev XNn (V:NnV):Cx:=(bNn V).cx 10
abbrev nnA (F:Nat->Int) (n o:Nat) (e:Int):List Arg:=[dgA F n o,iR e]
abbrev nnD (F:Nat->Int) (n:Nat):List UInt8:=dgT (dgs F (min n 40))
abbrev nnE (e:Int):List UInt8:=S3 (xpV e 330)
abbrev nnT (F:Nat->Int) (n:Nat) (e:Int):List UInt8:=nnD F n++[101] ++nnE e
abbrev nnX (e:Int):Int:=(whV (nnE e)).1
abbrev nnM (F:Nat->Int) (n:Nat) (e:Int):List UInt8:=mdD (nnD F n) (nnX e)
abbrev nnY (F:Nat->Int) (n:Nat) (e:Int):Int:=mdX (nnD F n) (nnX e)
abbrev nnH (F:Nat->Int) (n:Nat) (e:Int) (p q:Nat):Prop:=q2w (mdN false (nnD F n) (nnX e)) (nnM F n e) (nnY F n e) p q
def nnO (F:Nat->Int) (n o:Nat) (e:Int):List Prop:=[(mdE (nnD F n) (nnX e) !=0)=false,(nnD F n).length<=140737488351232,s7 (nnD F n)=true,(nnE e).length < 9223372036854775807,(nnD F n++[(101:UInt8)]).length+(nnE e).length<=9223372036854775807,(nnD F n).length+1<=9223372036854775807,(-9223372036854775808<=e∧e<=9223372036854775807)∧((0:Int)<=330∧(330:Int)<=1000),q2p (fun i=> .int .u8 (F i)) o o n n 40]
def nnW (V:NnV) (F:Nat->Int) (n:Nat) (e:Int):List Prop:=[V.W (nnT F n e) < 18446744073709551616,V.W (nnT F n e) < 9218868437227405312,V.W (nnT F n e) < 9218868437227405312,(V.E (nnT F n e) !=0)=false]
abbrev nnB (V:NnV) (F:Nat->Int) (n:Nat) (e:Int):Bool:=match match !true with | true=>true | false=>decide (V.C (nnM F n e) (nnY F n e) (jY (V.W (nnT F n e))) (V.W (nnT F n e)) < 0) with
 | true=>true
 | false=>match V.C (nnM F n e) (nnY F n e) (jY (V.W (nnT F n e))) (V.W (nnT F n e))==0 with
  | true=>((V.W (nnT F n e):Nat):Int).tmod 2 !=0
  | false=>false
abbrev nnU (V:NnV) (F:Nat->Int) (n:Nat) (e:Int):Bool:=match decide (V.C (nnM F n e) (nnY F n e) (V.W (nnT F n e)) (V.W (nnT F n e)+1) < 0) with
 | true=>true
 | false=>match V.C (nnM F n e) (nnY F n e) (V.W (nnT F n e)) (V.W (nnT F n e)+1)==0 with
  | true=>((V.W (nnT F n e):Nat):Int).tmod 2==0
  | false=>false
abbrev nnZ (V:NnV) (F:Nat->Int) (n:Nat) (e:Int):Bool:=match match true with | true=>decide (V.C (nnM F n e) (nnY F n e) 0 (V.W (nnT F n e)+1)<=0) | false=>false with
 | true=>FloatKind.f64.format.order (V.W (nnT F n e)) 0==some Ordering.eq
 | false=>false
abbrev nnI (V:NnV) (F:Nat->Int) (n:Nat) (e:Int):Bool:=match V.E (nnT F n e)==15 with
 | true=>decide (iI.wrap (((nnD F n).length:Int)+nnX e) > 308)
 | false=>false
abbrev nnS (V:NnV) (F:Nat->Int) (n o:Nat) (e:Int) (r:Bool) (ds:List Bool):=B7 (XNn V) [] 200 3 (nnA F n o e) [.c (.v (.bool r))] ds
section
variable (V:NnV) (F:Nat->Int) (n o:Nat) (e:Int) (r:Bool)
theorem s2w:nnS V F n o e r [false,true] =some ([(V.E (nnT F n e) !=0)=true] ++nnO F n o e++[zO9 (nnI V F n e)=zO9 r]):=by kernel_rfl
theorem t2j:nnS V F n o e r [false,false,true] =some ([nnH F n e 0 (V.W (nnT F n e)+1),(Y0 (V.W (nnT F n e))==3)=true] ++nnW V F n e++nnO F n o e++[zO9 (nnZ V F n e)=zO9 r]):=by kernel_rfl
theorem r2v:nnS V F n o e r [false,false,false,false,true] =some ([(Y0 (V.W (nnT F n e)+1)==2)=true,V.W (nnT F n e)+1 < 18446744073709551616,nnB V F n e=false,nnH F n e (jY (V.W (nnT F n e))) (V.W (nnT F n e)),(Y0 (V.W (nnT F n e))==3)=false] ++nnW V F n e++nnO F n o e++[zO9 true=zO9 r]):=by kernel_rfl
theorem r2f:nnS V F n o e r [false,false,false,false,false] =some ([nnH F n e (V.W (nnT F n e)) (V.W (nnT F n e)+1),(Y0 (V.W (nnT F n e)+1)==2)=false,V.W (nnT F n e)+1 < 18446744073709551616,nnB V F n e=false,nnH F n e (jY (V.W (nnT F n e))) (V.W (nnT F n e)),(Y0 (V.W (nnT F n e))==3)=false] ++nnW V F n e++nnO F n o e++[zO9 (nnU V F n e)=zO9 r]):=by kernel_rfl
end
theorem y1x {l:List UInt8} (h:s7 l=true):0 < dcN (dgT l):=by
 unfold dgT
 cases ht:d8 l with
 | nil=>decide
 | cons c r=>
  have h1:=v1t h ht
  show 0 < dcN (c ::r)
  rw [<- ht,Q4]
  exact B9 (x7 (by decide)) h1
theorem y0v (e:Int):(S3 (xpV e 330)).length<=2000:=by
 have hx:=g0e e 330
 unfold S3
 split
 ·have:=dW (-(xpV e 330)).toNat
  rw [A9]
  omega
 ·have:=dW (xpV e 330).toNat
  omega
theorem v0h (w:Nat):((w:Int).tmod 2==0)=decide (w%2=0):=by
 rw [Int.tmod_eq_emod_of_nonneg (w8 _)]
 by_cases h:w%2=0
 ·rw [f9 h]
  exact beq_iff_eq.2 (by omega)
 ·rw [d4 h]
  exact s6 (by omega)
section
variable {V:NnV} {F:Nat->Int} {n:Nat} {e:Int}
theorem j1s (h1:0<=V.C (nnM F n e) (nnY F n e) (jY (V.W (nnT F n e))) (V.W (nnT F n e))) (h2:V.C (nnM F n e) (nnY F n e) (jY (V.W (nnT F n e))) (V.W (nnT F n e))=0->V.W (nnT F n e)%2=0):nnB V F n e=false:=by
 unfold nnB
 generalize V.C (nnM F n e) (nnY F n e) (jY (V.W (nnT F n e))) (V.W (nnT F n e))=c at*
 generalize V.W (nnT F n e)=w at*
 rw [d4 (show ¬c < 0 by omega)]
 show (match c==0 with | true=> !((w:Int).tmod 2==0) | false=>false)=false
 by_cases hc:c=0
 ·rw [hc,v0h,f9 (h2 hc)]
  rfl
 ·rw [s6 hc]
theorem n1f (h1:V.C (nnM F n e) (nnY F n e) (V.W (nnT F n e)) (V.W (nnT F n e)+1)<=0) (h2:V.C (nnM F n e) (nnY F n e) (V.W (nnT F n e)) (V.W (nnT F n e)+1)=0->V.W (nnT F n e)%2=0):nnU V F n e=true:=by
 unfold nnU
 generalize V.C (nnM F n e) (nnY F n e) (V.W (nnT F n e)) (V.W (nnT F n e)+1)=c at*
 generalize V.W (nnT F n e)=w at*
 by_cases hc:c=0
 ·rw [d4 (show ¬c < 0 by omega)]
  show (match c==0 with | true=>(w:Int).tmod 2==0 | false=>false)=true
  rw [hc,v0h,f9 (h2 hc)]
  rfl
 ·rw [f9 (show c < 0 by omega)]
theorem r1i (h1:V.C (nnM F n e) (nnY F n e) 0 (V.W (nnT F n e)+1)<=0) (h2:V.W (nnT F n e)=0):nnZ V F n e=true:=by
 unfold nnZ
 rw [h2] at h1 ⊢
 rw [f9 h1]
 show (Ieee.double.order 0 0==some Ordering.eq)=true
 rw [eqx (by decide)]
 decide
end
theorem j1l {a b:Nat} (h:a<=b):cmN a b<=0∧(cmN a b=0->a=b):=by
 unfold cmN
 split
 ·exact⟨by decide,fun k=>by cases k⟩
 ·split
  ·rename_i h2
   exact⟨by decide,fun _=>h2⟩
  ·omega
theorem t1w {a b:Nat} (h:b<=a):0<=cmN a b∧(cmN a b=0->a=b):=by
 unfold cmN
 split
 ·omega
 ·split
  ·rename_i h2
   exact⟨by decide,fun _=>h2⟩
  ·exact⟨by decide,fun k=>by cases k⟩
theorem j2k (W:List UInt8->Nat) (E:List UInt8->Int) (C:List UInt8->Int->Nat->Nat->Int):∃ V:NnV,V.W=W∧V.E=E∧V.C=C:=⟨⟨W,E,C⟩,rfl,rfl,rfl⟩
theorem s1d:Y0 9218868437227405312=2:=by decide
section
variable {F:Nat->Int} {n o:Nat} {e:Int} (ha:n0a)
include ha
theorem wV (hF:∀ i,i < n->0<=F i∧F i < 256) (he: -9223372036854775808<=e∧e<=9223372036854775807):
  Ev.Sem zO8 J0 3 (nnA F n o e) [.c (.v (.bool true))] :=by
 have hdg:=w1k F (min n 40)
 obtain⟨a1,a2,a3⟩:s7 (nnD F n)=true∧nnD F n≠[] ∧(nnD F n).length<=40:=z1r hdg 40 (by rw [m0o]; exact Nat.min_le_right _ _) (by decide)
 have hpos:0 < dcN (nnD F n):=y1x hdg
 have hx:=g0e e 330
 have hX:nnX e=xpV e 330:=b2t ⟨by omega,by omega⟩
 obtain⟨V,v1,v2,v3⟩:=j2k paW paE hfC
 have hV:V.ok:=⟨v1,v2,v3⟩
 have hT:nnT F n e=Sgn.no.text++D6 (dM (nnD F n)) 101 (xpV e 330):=by
  unfold nnT D6 Sgn.text Mant.text
  rw [a8 (by intro h; cases h),a0g]
  rfl
 obtain⟨p1,p2⟩:=e1f (s:= .no) (p2s a1 a2 a3) (.inl rfl:(101:UInt8)=101∨_) (show -1000 < xpV e 330∧xpV e 330 < 1000 by omega)
 rw [<- hT] at p1 p2
 have htx:txW 53 (-1074) (dM (nnD F n)) (xpV e 330)=dcW 53 (-1074) (dcN (nnD F n)) (xpV e 330):=by
  show dcW 53 (-1074) (dcN (nnD F n)) (xpV e 330-0)=_
  rw [Int.sub_zero]
 rw [htx] at p1 p2
 have hz:∀ v w:Nat,(if Sgn.no.neg=true then v else w)=w:=fun _ _=>rfl
 rw [hz] at p2
 obtain⟨W,hW⟩:∃ W,W=dcW 53 (-1074) (dcN (nnD F n)) (xpV e 330):=⟨_,rfl⟩
 rw [<- hW] at p1 p2
 have hlen:(nnE e).length<=2000:=y0v e
 have hmE:mdE (nnD F n) (nnX e)=0:=kE (by omega) (by rw [hX]; omega)
 have hO:d9 (nnO F n o e):=⟨by rw [hmE]; rfl,by omega,a1,by omega,by rw [F6,y0w]; omega,by omega,⟨he,by decide,by decide⟩,⟨rfl,rfl,rfl,⟨by decide,by decide⟩,hF⟩,a7⟩
 have hVW:V.W (nnT F n e)=paW (nnT F n e):=by rw [v1]
 have hVE:V.E (nnT F n e)=paE (nnT F n e):=by rw [v2]
 have hVC:∀ p q,V.C (nnM F n e) (nnY F n e) p q=hfC (nnM F n e) (nnY F n e) p q:=fun p q=>by rw [v3]
 by_cases hi:9218868437227405312<=W
 ·rw [i6 hi] at p1
  have hlt:=j1a a1
  have hbig:=f2r hlt (by rw [<- hW]; exact hi)
  refine l6 (r0m ha hV) 10 _ _ (s2w V F n o e true) (u0a (u0a ⟨by rw [hVE,p1]; decide,a7⟩ hO) ⟨?_,a7⟩)
  have hw:iI.wrap (((nnD F n).length:Int)+nnX e)=((nnD F n).length:Int)+nnX e:=by
   have:=C8 (((nnD F n).length:Int)+nnX e)
   omega
  unfold nnI
  rw [hVE,p1,hw,f9 (show ((nnD F n).length:Int)+nnX e > 308 by rw [hX]; omega)]
  rfl
 ·rw [a8 hi] at p1 p2
  have hWW:V.W (nnT F n e)=W:=by rw [hVW,p2]
  obtain⟨my,ml⟩:=aZ (nnD F n) (nnX e)
  have hH:∀ p q,p < 9218868437227405312->q < 9218868437227405312->nnH F n e p q:=fun p q hp hq=>
   ⟨zD _ _,iJ _ _ a1,by have:(nnM F n e).length<=(nnD F n).length:=ml; omega,by have:nnY F n e=0∨nnX e<=nnY F n e∧nnY F n e<=nnX e+(nnD F n).length:=my; rw [hX] at this; omega,hp,hq⟩
  have hnS:nS=2000:=rfl
  have hv:dvS nS (nnM F n e) (nnY F n e)=dcN (nnD F n)*10 ^(xpV e 330+(nS:Int)).toNat:=by
   have:=g1o (S:=nS) (x:=nnX e) a1 hmE (by rw [hX]; omega)
   rw [hX] at this
   rw [<- this,<- hX]
  have hc:∀ p q,V.C (nnM F n e) (nnY F n e) p q=cmN (2*(dcN (nnD F n)*10 ^(xpV e 330+(nS:Int)).toNat)*2 ^1074) ((uW p+uW q)*10 ^nS):=fun p q=>by
   rw [hVC]
   unfold hfC
   rw [hv]
  have hQ:d9 (nnW V F n e):=⟨by rw [hWW]; omega,by rw [hWW]; omega,by rw [hWW]; omega,by rw [hVE,p1]; rfl,a7⟩
  have hS0:0<=xpV e 330+(nS:Int):=by omega
  by_cases h0:W=0
  ·obtain⟨u1,_⟩:=j2r hpos hW hS0 (by omega)
   have hz:=j1l u1
   rw [h0] at hz
   refine l6 (r0m ha hV) 10 _ _ (t2j V F n o e true) (u0a (u0a (u0a ⟨hH _ _ (by decide) (by rw [hWW,h0]; decide),by rw [hWW,h0]; decide,a7⟩ hQ) hO) ⟨?_,a7⟩)
   rw [r1i (by rw [hc,hWW,h0]; exact hz.1) (by rw [hWW,h0])]
  ·have hcl:=rC (W:=W) (by omega)
   rw [a8 h0] at hcl
   have h3:(Y0 W==3)=false:=by
    rw [hcl]
    split <;> rfl
   have hpv:jY W=W-1:=by unfold jY; rw [a8 h0]
   obtain⟨l1,l2⟩:=e2l hpos hW hS0 (by omega) (by omega)
   have hB:nnB V F n e=false:=j1s (by rw [hc,hWW,hpv]; exact (t1w l1).1) (fun hq=>by rw [hc,hWW,hpv] at hq; rw [hWW]; exact l2 ((t1w l1).2 hq))
   have hHp:nnH F n e (jY (V.W (nnT F n e))) (V.W (nnT F n e)):=by rw [hWW,hpv]; exact hH _ _ (by omega) (by omega)
   by_cases h9:W+1=9218868437227405312
   ·refine l6 (r0m ha hV) 10 _ _ (r2v V F n o e true) (u0a (u0a (u0a ⟨by rw [hWW,h9,s1d]; rfl,by rw [hWW,h9]; decide,hB,hHp,by rw [hWW]; exact h3,a7⟩ hQ) hO) ⟨rfl,a7⟩)
   ·obtain⟨u1,u2⟩:=j2r hpos hW hS0 (by omega)
    have h2:(Y0 (W+1)==2)=false:=by
     rw [rC (by omega),a8 (by omega)]
     split <;> rfl
    refine l6 (r0m ha hV) 10 _ _ (r2f V F n o e true) (u0a (u0a (u0a ⟨by rw [hWW]; exact hH _ _ (by omega) (by omega),by rw [hWW]; exact h2,by rw [hWW]; omega,hB,hHp,by rw [hWW]; exact h3,a7⟩ hQ) hO) ⟨?_,a7⟩)
    rw [n1f (by rw [hc,hWW]; exact (j1l u1).1) (fun hq=>by rw [hc,hWW] at hq; rw [hWW]; exact u2 ((j1l u1).2 hq))]
end
end Go.Proofs.YtbdaebagmmmijaaGreatDoor
