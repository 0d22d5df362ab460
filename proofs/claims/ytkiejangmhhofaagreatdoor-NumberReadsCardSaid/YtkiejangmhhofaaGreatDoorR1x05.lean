/-
 NumberReads: any text is read as the document reads it; no condition (a part of the proof).
-/
import Derived.Test.YtkiejangmhhofaaGreatDoorR1x04
import Derived.Shelf.Strings.Search3
import Derived.Shelf.Pu.Clone
import Derived.Lib.IndexBytes
set_option maxRecDepth 1000000
open Nat renaming blt->zO1
open Go.Value renaming int->zO2,float->zO3,bool->zO9
open UInt8 renaming ofNat->zO4
open Int renaming ofNat->zO6
open List renaming replicate->zO7,take->zO10
open Go.Proofs.Tryz renaming prog->zO8
open BitVec renaming ofInt->zO11
open Go.IntKind renaming i64->iI,u64->uI,u32->uJ,u8->uB
noncomputable section
namespace Go.Proofs
theorem v0j:type_of%@Nat.pow_lt_pow_iff_right:=@Nat.pow_lt_pow_iff_right
theorem iY:type_of%@beq_self_eq_true:=@beq_self_eq_true
theorem zzA222:type_of%@List.length_pos_iff:=@List.length_pos_iff
theorem h0t:type_of%@List.getElem_mem:=@List.getElem_mem
theorem xM:type_of%@Nat.zero_min:=@Nat.zero_min
theorem zzA225:type_of%@beq_iff_eq:=@beq_iff_eq
end Go.Proofs
namespace Go.Proofs.YtkiejangmhhofaaGreatDoor
open Go
theorem gH {m k:Nat} (h1:2 ^k<=m) (h2:m < 2 ^(k+1)):m.log2=k:=by
 have h0:m≠0:=by
  have:0 < 2 ^k:=s7 (by decide)
  omega
 exact (Nat.log2_eq_iff h0).2 ⟨h1,h2⟩
theorem b0x {m:Nat} (h:m≠0):2 ^m.log2<=m∧m < 2 ^(m.log2+1):=(Nat.log2_eq_iff h).1 rfl
theorem fE {n M k:Nat} (h:n=M*2 ^k) (hM:0 < M):Ieee.Toward.even.cut false n k=M:=by
 have h2:0 < 2 ^k:=s7 (by decide)
 have hn:n≠0:=by
  have:=F0 hM h2
  omega
 have hk:k<=n.log2:=by
  have h3:2 ^k<=n:=by rw [h]; exact a0v _ hM
  have h4:=(b0x hn).2
  have:=(v0j (a:=2) (by decide)).1 (D7 h3 h4)
  omega
 unfold Ieee.Toward.cut
 have hg:1 <<< min k (n.log2+2)=2 ^k:=by rw [C6 (by omega),Nat.one_shiftLeft]
 simp only [hg]
 rw [h,uU _ h2,Nat.mul_mod_left]
 have e1:decide (2 ^k < 2*0)=false:=d8 (by omega)
 have e2:(2 ^k==2*0)=false:=y9 (by omega)
 rw [e1,e2]
 simp
theorem Q1:Ieee.double.leastPlace= -1074:=by decide
theorem rI:Ieee.double.binade=4503599627370496:=by decide
theorem o1i:Ieee.double.infRung=9218868437227405312:=by decide
theorem l2g:Ieee.double.signWeight=9223372036854775808:=by decide
theorem k0c:Ieee.double.fractionBits=52:=by decide
theorem k0s (m:Nat):Ieee.double.word false m=m:=rfl
theorem e0h {a b:Nat} (ha:a<=2045) (hb:b < 9007199254740992):a*4503599627370496+b<=9218868437227405312:=by omega
theorem sU {M k:Nat} {E:Int} (hM:0 < M) (h53:M < 9007199254740992) (hE: -1074<=E) (hn:4503599627370496<=M∨E= -1074) (hT:E<=971):Ieee.double.nearest false (M*2 ^k) (E-k)=(E+1074).toNat*4503599627370496+M:=by
 have h2:0 < 2 ^k:=s7 (by decide)
 have h0:M*2 ^k≠0:=by
  have:=F0 hM h2
  omega
 have hl:(M*2 ^k).log2=M.log2+k:=by
  have hb:=b0x (show M≠0 by omega)
  refine gH ?_ ?_
  ·rw [n9]; exact w9 _ hb.1
  ·rw [show M.log2+k+1=M.log2+1+k by omega,n9]; exact P4 hb.2 h2
 have hlast:max (E- (k:Int)+((M*2 ^k).log2:Nat)- (Ieee.double.fractionBits:Nat)) Ieee.double.leastPlace=E:=by
  rw [hl,Q1,k0c]
  by_cases hb:4503599627370496<=M
  ·have:M.log2=52:=gH hb h53
   rw [this]
   omega
  ·have hlt:M.log2 < 52:=(a0e (by omega)).2 (by show M < 4503599627370496; omega)
   rcases hn with hn | hn <;> omega
 unfold Ieee.Format.nearest
 rw [a7 h0]
 simp only [hlast]
 have e1:(E- (k:Int)-E).toNat=0:=by omega
 have e2:(E- (E- (k:Int))).toNat=k:=by omega
 rw [e1,e2,Nat.shiftLeft_zero,fE rfl hM,Q1,k0s,rI,o1i]
 rw [show E- -1074=E+1074 by omega]
 refine C6 ?_
 exact e0h (by omega) h53
theorem cG {m t:Nat} {P:Int} (h1:4503599627370496<=m*2 ^t) (h53:m*2 ^t < 9007199254740992) (hE: -1074<=P-t) (hT:P-t<=971):Ieee.double.nearest false m P=(P-t+1074).toNat*4503599627370496+m*2 ^t:=by
 have h2:0 < 2 ^t:=s7 (by decide)
 have h0:m≠0:=by
  intro e
  subst e
  omega
 have hm:0 < m*2 ^t:=by omega
 have ht:t<=52:=by
  have h3:2 ^t<=m*2 ^t:=a0v _ (by omega)
  have h4:2 ^t < 2 ^53:=D7 h3 (by show _ < 9007199254740992; omega)
  have:=(v0j (a:=2) (by decide)).1 h4
  omega
 have hl:m.log2=52-t:=by
  refine gH ?_ ?_
  ·have:2 ^(52-t)*2 ^t<=m*2 ^t:=by rw [<- n9,show 52-t+t=52 by omega]; exact h1
   exact j1u this h2
  ·have:m*2 ^t < 2 ^(52-t+1)*2 ^t:=by rw [<- n9,show 52-t+1+t=53 by omega]; exact h53
   exact Nat.lt_of_mul_lt_mul_right this
 have hlast:max (P+(m.log2:Nat)- (Ieee.double.fractionBits:Nat)) Ieee.double.leastPlace=P-t:=by
  rw [hl,Q1,k0c]
  omega
 unfold Ieee.Format.nearest
 rw [a7 h0]
 simp only [hlast]
 have e1:(P- (P- (t:Int))).toNat=t:=by omega
 have e2:(P- (t:Int)-P).toNat=0:=by omega
 rw [e1,e2,kF,fE (M:=m*2 ^t) (k:=0) (by simp) hm,Q1,k0s,rI,o1i]
 rw [show P-t- -1074=P-t+1074 by omega]
 refine C6 ?_
 exact e0h (by omega) h53
theorem xL {w:Nat} (h1:4503599627370496<=w) (h2:w < 9218868437227405312):Ieee.double.read w= .number false (4503599627370496+w%4503599627370496) (-1074+((w/4503599627370496-1:Nat):Int)):=by
 unfold Ieee.Format.read
 have hs:Ieee.double.signWeight=9223372036854775808:=by decide
 have hb:Ieee.double.binade=4503599627370496:=by decide
 have hi:Ieee.double.infRung=9218868437227405312:=by decide
 rw [hs,hb,hi,Q1]
 have e1:w%9223372036854775808=w:=G7 (by omega)
 simp only [e1]
 rw [a7 (by omega),f9 h2,show (w/9223372036854775808%2==1)=false by rw [mK (by omega)]; rfl]
theorem s0v {a b:Nat} (ha1:4503599627370496<=a) (ha2:a < 9218868437227405312) (hb1:4503599627370496<=b) (hb2:b < 9218868437227405312):
  Ieee.double.mul a b=some (Ieee.double.nearest false ((4503599627370496+a%4503599627370496)*(4503599627370496+b%4503599627370496)) (-1074+((a/4503599627370496-1:Nat):Int)+(-1074+((b/4503599627370496-1:Nat):Int)))):=by
 unfold Ieee.Format.mul
 rw [xL ha1 ha2,xL hb1 hb2]
 rfl
theorem mul_one {w:Nat} (h1:4503599627370496<=w) (h2:w < 9218868437227405312):Ieee.double.mul 4607182418800017408 w=some w:=by
 rw [s0v (by decide) (by decide) h1 h2]
 have hd:1<=w/4503599627370496:=(lV (by decide)).2 (by omega)
 have hd2:w/4503599627370496 < 2047:=(D9 (by decide)).2 (by omega)
 have hm:w%4503599627370496 < 4503599627370496:=F7 _ (by decide)
 have e:=sU (M:=4503599627370496+w%4503599627370496) (k:=52) (E:= -1074+((w/4503599627370496-1:Nat):Int)) (by omega) (by omega) (by omega) (.inl (by omega)) (by omega)
 have e1:(4503599627370496+4607182418800017408%4503599627370496)*(4503599627370496+w%4503599627370496)=(4503599627370496+w%4503599627370496)*2 ^52:=by
  rw [t7]
 have e2:(-1074:Int)+((4607182418800017408/4503599627370496-1:Nat):Int)+(-1074+((w/4503599627370496-1:Nat):Int))= -1074+((w/4503599627370496-1:Nat):Int)- ((52:Nat):Int):=by
  omega
 rw [e1,e2,e]
 have hw:=bV w 4503599627370496
 have e3:(-1074+((w/4503599627370496-1:Nat):Int)+1074).toNat=w/4503599627370496-1:=by omega
 rw [e3]
 refine aP some ?_
 rw [Nat.sub_mul]
 omega
theorem c1e {w M s:Nat} (h1:4503599627370496<=w) (h2:w < 9218868437227405312) (hM:4503599627370496+w%4503599627370496=M*2 ^s) (hp:M < 4503599627370496) (hs:((w/4503599627370496:Nat):Int)=54-s):Ieee.double.mul 4368491638549381120 w=some M:=by
 rw [s0v (by decide) (by decide) h1 h2]
 have h20:0 < 2 ^s:=s7 (by decide)
 have hM0:0 < M:=by
  rcases Q5 M with h | h
  ·rw [h] at hM; omega
  ·exact h
 have hd:1<=w/4503599627370496:=(lV (by decide)).2 (by omega)
 have e:=sU (M:=M) (k:=s+52) (E:= -1074) hM0 (by omega) (by omega) (.inr rfl) (by omega)
 have e1:(4503599627370496+4368491638549381120%4503599627370496)*(4503599627370496+w%4503599627370496)=M*2 ^(s+52):=by
  rw [hM,n9,t7,r7]
 have e2:(-1074:Int)+((4368491638549381120/4503599627370496-1:Nat):Int)+(-1074+((w/4503599627370496-1:Nat):Int))= -1074- ((s+52:Nat):Int):=by
  omega
 rw [e1,e2,e]
 simp
open Go Go.RowKit Ev Wd VaS
def i2v (x:Nat):Nat:=(uI.wrap ↑(zO11 uI.bits ↑x&&& ~~~zO11 uI.bits 9223372036854775808).toNat).toNat
theorem m0w {x:Nat} (hx:x < 9223372036854775808):i2v x=x:=by
 unfold i2v
 have h0:(zO11 uI.bits (x:Int)).toNat=x:=by
  show (zO11 64 (x:Int)).toNat=x
  rw [i0r,i0u]
  exact G7 (by omega)
 have h3:(zO11 uI.bits (x:Int)&&& ~~~zO11 uI.bits 9223372036854775808).toNat=x:=by
  rw [pC,h0,show (~~~zO11 uI.bits 9223372036854775808).toNat=2 ^63-1 by decide]
  rw [lR _ 63]
  exact G7 hx
 rw [h3]
 have h5:uI.wrap (x:Int)=(x:Int):=by
  simp [IntKind.wrap,IntKind.bits,IntKind.signed]
  omega
 rw [h5,g9]
theorem u2h {a b:Nat} (ha:a<=9218868437227405312) (hb:b<=9218868437227405312):Ieee.double.order a b=some (compare (a:Int) (b:Int)):=by
 have hm:∀ {c:Nat},c<=9218868437227405312->c%p63=c:=fun {c} h=>G7 (by unfold p63; omega)
 have hs:∀ {c:Nat},c<=9218868437227405312->j2c c=(c:Int):=fun {c} h=>by
  unfold j2c
  rw [a7 (by unfold p63; omega),hm h]
 have hn:∀ {c:Nat},c<=9218868437227405312->w1r c=false:=fun {c} h=>by
  unfold w1r
  rw [hm h]
  exact d8 (by omega)
 rw [r1r (by omega) (by omega)]
 unfold y2a
 rw [hn ha,hn hb,hs ha,hs hb]
 rfl
def ltL (x y:Nat):Bool:=Ieee.double.order x y==some .lt
def y1y (x y:Nat):Bool:=Ieee.double.order x y==some .eq
def gtL (x y:Nat):Bool:=Ieee.double.order x y==some .gt
theorem f1t {a b:Nat} (ha:a<=9218868437227405312) (hb:b<=9218868437227405312):ltL a b=decide (a < b):=by
 unfold ltL
 rw [u2h ha hb,show compare (a:Int) (b:Int)=if (a:Int) < b then Ordering.lt else if (a:Int)=b then .eq else .gt from rfl]
 by_cases h:a < b
 ·rw [f9 (by omega),i6 h]; rfl
 ·rw [a7 (by omega),d8 h]
  split <;> rfl
theorem f1g {a b:Nat} (ha:a<=9218868437227405312) (hb:b<=9218868437227405312):y1y a b=decide (a=b):=by
 unfold y1y
 rw [u2h ha hb,show compare (a:Int) (b:Int)=if (a:Int) < b then Ordering.lt else if (a:Int)=b then .eq else .gt from rfl]
 by_cases h:a < b
 ·rw [f9 (by omega),d8 (by omega)]; rfl
 ·by_cases h2:a=b
  ·rw [a7 (by omega),f9 (by omega),i6 h2]; rfl
  ·rw [a7 (by omega),a7 (by omega),d8 h2]; rfl
theorem v0o {a b:Nat} (ha:a<=9218868437227405312) (hb:b<=9218868437227405312):gtL a b=decide (b < a):=by
 unfold gtL
 rw [u2h ha hb,show compare (a:Int) (b:Int)=if (a:Int) < b then Ordering.lt else if (a:Int)=b then .eq else .gt from rfl]
 by_cases h:a < b
 ·rw [f9 (by omega),d8 (by omega)]; rfl
 ·by_cases h2:a=b
  ·rw [a7 (by omega),f9 (by omega),d8 (by omega)]; rfl
  ·rw [a7 (by omega),a7 (by omega),i6 (by omega)]; rfl
theorem r1e (x:Nat):b7 z2h [] 200 282 [.float .f64 x] [false] =some (.tuple ⟨[.float .f64 x, .int .i64 0]⟩,[ltL (i2v x) 4503599627370496=false]):=by kernel_rfl
def e0y:List Value->Option (Value×List Prop)
 | [.float .f64 x] =>some (.tuple ⟨[.float .f64 x, .int .i64 0]⟩,[4503599627370496<=x∧x < 9218868437227405312])
 | _=>none
theorem q0c (args:List Value) (v:Value) (l:List Prop) (h:e0y args=some (v,l)) (hl:l5 l):Ev.Pure zO8 J0 282 args v:=by
 unfold e0y at h
 split at h
 case h_2=>cases h
 rename_i x
 cases h
 obtain⟨⟨h1,h2⟩,_⟩:=hl
 refine i7 vG 10 _ _ (r1e x) ⟨?_,a6⟩
 rw [m0w (by omega),f1t (by omega) (by omega)]
 exact d8 (by omega)
def f2n:Tab:=r6 282 e0y e1t
theorem t0d:U6 zO8 J0 f2n:=i8 q0c sH
def bLd:Base:=⟨zO8,J0,false,f2n,vJ,200,L7⟩
theorem a0k:BaseOk bLd:=⟨progOk,t0d,fJ,r5⟩
abbrev XLd:Cx:=bLd.cx 10
def frL (x:Nat):Int:=uI.wrap ((zO11 uI.bits (x:Int)&&& ~~~zO11 uI.bits 9218868437227405312).toNat:Nat)
def exL (x:Nat):Int:=iI.wrap (iI.wrap ((zO11 iI.bits (iI.wrap ((x:Int).fdiv (2 ^min (Int.toNat 52) uI.bits)))&&& zO11 iI.bits 2047).toNat:Nat)-1023)
def plL (x:Nat) (e:Int):Int:=iI.wrap (iI.wrap (e+0)+exL x)
def bwL (x:Nat) (P:Int):Nat:=(uI.wrap ((zO11 uI.bits (frL x)||| zO11 uI.bits (uI.wrap (uI.wrap (iI.wrap (P+1023))*2 ^min (Int.toNat 52) uI.bits))).toNat:Nat)).toNat
def m2s (x:Nat):Bool:=match gtL (i2v x) 9218868437227405311 with | true=>true | false=>Ieee.double.order x x !=some .eq
def p2c (P:Int):Int:=iI.wrap (P+53)
section
variable (x:Nat) (e:Int)
theorem b2m:b7 XLd [] 200 222 [.float .f64 x, .int .i64 e] [true] =some (.float .f64 x,[y1y x 0=true]):=by kernel_rfl
theorem b1t:b7 XLd [] 200 222 [.float .f64 x, .int .i64 e] [false,false,false,false,false] =some (.float .f64 ((Ieee.double.mul 4607182418800017408 (bwL x (plL x e))).getD 0),[(Ieee.double.mul 4607182418800017408 (bwL x (plL x e))).isSome=true,decide (plL x e < Int.negSucc 1021)=false,decide (1023 < plL x e)=false,decide (plL x e < Int.negSucc 1074)=false,4503599627370496<=x∧x < 9218868437227405312,m2s x=false,y1y x 0=false]):=by kernel_rfl
theorem f2g:b7 XLd [] 200 222 [.float .f64 x, .int .i64 e] [false,false,false,false,true] =some (.float .f64 ((Ieee.double.mul 4368491638549381120 (bwL x (p2c (plL x e)))).getD 0),[(Ieee.double.mul 4368491638549381120 (bwL x (p2c (plL x e)))).isSome=true,decide (plL x e < Int.negSucc 1021)=true,decide (1023 < plL x e)=false,decide (plL x e < Int.negSucc 1074)=false,4503599627370496<=x∧x < 9218868437227405312,m2s x=false,y1y x 0=false]):=by kernel_rfl
theorem e1a:b7 XLd [] 200 222 [.float .f64 x, .int .i64 e] [false,false,false,true,false] =some (.float .f64 9218868437227405312,[ltL x 0=false,decide (1023 < plL x e)=true,decide (plL x e < Int.negSucc 1074)=false,4503599627370496<=x∧x < 9218868437227405312,m2s x=false,y1y x 0=false]):=by kernel_rfl
end
theorem w0a {n:Nat} (h:n < 18446744073709551616):uI.wrap (n:Int)=(n:Int):=by
 simp [IntKind.wrap,IntKind.bits,IntKind.signed]
 omega
theorem i2p {n:Nat} (h:n < 18446744073709551616):(zO11 uI.bits (n:Int)).toNat=n:=by
 show (zO11 64 (n:Int)).toNat=n
 rw [i0r,i0u]
 exact G7 h
theorem j2w {x:Nat} (hx:x < 9223372036854775808):frL x=((x%4503599627370496:Nat):Int):=by
 unfold frL
 have h3:(zO11 uI.bits (x:Int)&&& ~~~zO11 uI.bits 9218868437227405312).toNat=x%4503599627370496:=by
  rw [pC,i2p (by omega),show (~~~zO11 uI.bits 9218868437227405312).toNat=9227875636482146303 by decide]
  have hx0:x&&& 9223372036854775807=x:=by
   have:=lR x 63
   rw [show 2 ^63-1=9223372036854775807 by decide,show 2 ^63=9223372036854775808 by decide,G7 hx] at this
   exact this
  have h1:x&&& 9227875636482146303=x&&& (2 ^52-1):=by
   rw [<- hx0,Nat.and_assoc,Nat.and_assoc]
   rfl
  rw [h1,lR]
 rw [h3]
 exact w0a (by omega)
theorem m2z {x:Nat} (hx:x < 9218868437227405312):exL x=((x/4503599627370496:Nat):Int)-1023:=by
 unfold exL
 have hd:x/4503599627370496 < 2047:=(D9 (by decide)).2 (by omega)
 have h1:(x:Int).fdiv (2 ^min (Int.toNat 52) uI.bits)=((x/4503599627370496:Nat):Int):=(qF x 4503599627370496).symm
 rw [h1]
 generalize x/4503599627370496=d at*
 have h2:iI.wrap (d:Int)=(d:Int):=sE (by omega) (by omega)
 rw [h2]
 have h3:(zO11 iI.bits (d:Int)&&& zO11 iI.bits 2047).toNat=d:=by
  rw [pC,show (zO11 iI.bits (d:Int)).toNat=d from i2p (by omega),show (zO11 iI.bits 2047).toNat=2 ^11-1 by decide,lR]
  exact G7 (by omega)
 rw [h3,h2,sE (by omega) (by omega)]
theorem u2m {k r:Nat} (hk:k < 2048) (hr:r < 4503599627370496):k*4503599627370496+r < 18446744073709551616:=by omega
theorem r2k {k:Nat} (hk:k < 2048):k*4503599627370496 < 18446744073709551616:=by omega
theorem i1b {x:Nat} {P:Int} (hx:x < 9218868437227405312) (h0:0<=P+1023) (h1:P+1023 < 2048):bwL x P=(P+1023).toNat*4503599627370496+x%4503599627370496:=by
 unfold bwL
 rw [j2w (by omega),sE (n:=P+1023) (by omega) (by omega)]
 obtain⟨k,hk⟩:=kU h0
 rw [hk,g9]
 have hk2:k < 2048:=by omega
 have h2:uI.wrap (k:Int)=(k:Int):=w0a (by omega)
 have h3:(k:Int)*2 ^min (Int.toNat 52) uI.bits=((k*4503599627370496:Nat):Int):=by
  rw [V9]
  rfl
 have hm:x%4503599627370496 < 4503599627370496:=F7 _ (by decide)
 generalize x%4503599627370496=r at*
 have hs:=j0f (i:=52) (by show r < 4503599627370496; exact hm) k
 have e2:k <<< 52=k*4503599627370496:=by rw [kF]
 rw [e2] at hs
 have h4:k*4503599627370496+r < 18446744073709551616:=u2m hk2 hm
 have h7:k*4503599627370496 < 18446744073709551616:=r2k hk2
 have h8:r < 18446744073709551616:=wC hm (by decide)
 have h5:uI.wrap ((k*4503599627370496:Nat):Int)=((k*4503599627370496:Nat):Int):=w0a h7
 have h6:(zO11 uI.bits (r:Int)||| zO11 uI.bits ((k*4503599627370496:Nat):Int)).toNat=k*4503599627370496+r:=by
  rw [pG,i2p h8,i2p h7,wL,<- hs]
 rw [h2,h3,h5,h6,w0a h4,g9]
theorem wK {x:Nat} (hx:x < 9218868437227405312):m2s x=false:=by
 unfold m2s
 rw [m0w (by omega),v0o (by omega) (by omega),d8 (by omega)]
 show (Ieee.double.order x x !=some .eq)=false
 have:=f1g (a:=x) (b:=x) (by omega) (by omega)
 unfold y1y at this
 rw [bne,this]
 simp
theorem uF {x:Nat} (h:4503599627370496<=x) (hx:x < 9218868437227405312):y1y x 0=false:=by
 rw [f1g (by omega) (by omega)]
 exact d8 (by omega)
def lK (m:Nat):Nat:=Ieee.double.nearest false m 0
theorem kV:lK 0=0:=by decide
theorem w0w {a M:Nat} (h1:4503599627370496<=M) (h2:M < 9007199254740992):(a*4503599627370496+M)/4503599627370496=a+1∧(a*4503599627370496+M)%4503599627370496=M-4503599627370496:=by omega
theorem w0p {a M:Nat} (ha:a<=1074) (h1:4503599627370496<=M) (h2:M < 9007199254740992):4503599627370496<=a*4503599627370496+M∧a*4503599627370496+M < 9218868437227405312:=by omega
theorem p0d {m:Nat} (h0:0 < m) (h53:m < 9007199254740992):∃ t:Nat,t<=52∧4503599627370496<=m*2 ^t∧m*2 ^t < 9007199254740992∧(4503599627370496<=m->t=0)∧(m < 4503599627370496->0 < t)∧lK m/4503599627370496=1074-t+1∧lK m%4503599627370496=m*2 ^t-4503599627370496∧4503599627370496<=lK m∧lK m < 9218868437227405312:=by
 have hb:=b0x (show m≠0 by omega)
 have hl:m.log2 < 53:=(a0e (by omega)).2 (by show m < 9007199254740992; exact h53)
 have e1:2 ^m.log2*2 ^(52-m.log2)=4503599627370496:=by
  rw [<- n9,show m.log2+(52-m.log2)=52 by omega]
 have e2:2 ^(m.log2+1)*2 ^(52-m.log2)=9007199254740992:=by
  rw [<- n9,show m.log2+1+(52-m.log2)=53 by omega]
 have h1:4503599627370496<=m*2 ^(52-m.log2):=by
  rw [<- e1]
  exact w9 _ hb.1
 have h2:m*2 ^(52-m.log2) < 9007199254740992:=by
  rw [<- e2]
  exact P4 hb.2 (s7 (by decide))
 refine⟨52-m.log2,by omega,h1,h2,fun h=> ?_,fun h=> ?_,?_⟩
 ·have:=(Nat.le_log2 (by omega)).2 (show 2 ^52<=m from h)
  omega
 ·have:=(a0e (by omega)).2 (show m < 2 ^52 from h)
  omega
 ·have e:=cG (m:=m) (t:=52-m.log2) (P:=0) h1 h2 (by omega) (by omega)
  have hk:(0- ((52-m.log2:Nat):Int)+1074).toNat=1074- (52-m.log2):=by omega
  rw [hk] at e
  unfold lK
  rw [e]
  obtain⟨q1,q2⟩:=w0w (a:=1074- (52-m.log2)) h1 h2
  obtain⟨q3,q4⟩:=w0p (a:=1074- (52-m.log2)) (by omega) h1 h2
  exact⟨q1,q2,q3,q4⟩
theorem u1r {m u:Nat} (h0:0 < m) (h:m*2 ^u < 4503599627370496):Ieee.double.nearest false m ((u:Int)-1074)=m*2 ^u:=by
 have hb:=b0x (show m≠0 by omega)
 have hl:m.log2+u < 52:=by
  have h1:2 ^(m.log2+u)<=m*2 ^u:=by rw [n9]; exact w9 _ hb.1
  have h2:2 ^(m.log2+u) < 2 ^52:=D7 h1 h
  exact (v0j (a:=2) (by decide)).1 h2
 have hlast:max ((u:Int)-1074+(m.log2:Nat)- (Ieee.double.fractionBits:Nat)) Ieee.double.leastPlace= -1074:=by
  rw [Q1,k0c]
  omega
 unfold Ieee.Format.nearest
 rw [a7 (show m≠0 by omega)]
 simp only [hlast]
 have hm:0 < m*2 ^u:=F0 h0 (s7 (by decide))
 have e1:((u:Int)-1074- -1074).toNat=u:=by omega
 have e2:(-1074- ((u:Int)-1074)).toNat=0:=by omega
 rw [e1,e2,kF,fE (M:=m*2 ^u) (k:=0) (by simp) hm,Q1,k0s,o1i]
 have e3:((-1074:Int)- -1074).toNat=0:=rfl
 rw [e3,K8,I0]
 exact C6 (K1 (wC h (by decide)))
theorem b3x {k c:Nat} (hk:2046<=k) (hc:4503599627370496<=c):9218868437227405312<=k*4503599627370496+c:=by omega
theorem d0x {m t:Nat} {P:Int} (h1:4503599627370496<=m*2 ^t) (h53:m*2 ^t < 9007199254740992) (hT:971 < P-t):Ieee.double.nearest false m P=9218868437227405312:=by
 have h2:0 < 2 ^t:=s7 (by decide)
 have h0:m≠0:=by
  intro e
  subst e
  omega
 have hm:0 < m*2 ^t:=by omega
 have ht:t<=52:=by
  have h3:2 ^t<=m*2 ^t:=a0v _ (by omega)
  have h4:2 ^t < 2 ^53:=D7 h3 (by show _ < 9007199254740992; omega)
  have:=(v0j (a:=2) (by decide)).1 h4
  omega
 have hl:m.log2=52-t:=by
  refine gH ?_ ?_
  ·have:2 ^(52-t)*2 ^t<=m*2 ^t:=by rw [<- n9,show 52-t+t=52 by omega]; exact h1
   exact j1u this h2
  ·have:m*2 ^t < 2 ^(52-t+1)*2 ^t:=by rw [<- n9,show 52-t+1+t=53 by omega]; exact h53
   exact Nat.lt_of_mul_lt_mul_right this
 have hlast:max (P+(m.log2:Nat)- (Ieee.double.fractionBits:Nat)) Ieee.double.leastPlace=P-t:=by
  rw [hl,Q1,k0c]
  omega
 unfold Ieee.Format.nearest
 rw [a7 h0]
 simp only [hlast]
 have e1:(P- (P- (t:Int))).toNat=t:=by omega
 have e2:(P- (t:Int)-P).toNat=0:=by omega
 rw [e1,e2,kF,fE (M:=m*2 ^t) (k:=0) (by simp) hm,Q1,k0s,rI,o1i]
 exact M2 (b3x (by omega) h1)
theorem m1p {x:Nat} {e:Int} (hx:x < 9218868437227405312) (he: -1000000000000000000<=e∧e<=1000000000000000000):plL x e=e+((x/4503599627370496:Nat):Int)-1023:=by
 unfold plL
 have hd:x/4503599627370496 < 2047:=(D9 (by decide)).2 (by omega)
 rw [m2z hx,Int.add_zero,sE (n:=e) (by omega) (by omega),sE (by omega) (by omega)]
 omega
theorem w0k {m:Nat} {e:Int} (h0:0 < m) (h53:m < 9007199254740992) (hE: -1074<=e) (hT:e<=1000000000000000000):Ev.Pure zO8 J0 222 [.float .f64 (lK m), .int .i64 e] (.float .f64 (Ieee.double.nearest false m e)):=by
 obtain⟨t,ht,g1,g2,g3,g4,q1,q2,hx1,hx2⟩:=p0d h0 h53
 generalize lK m=x at*
 have hP:=m1p (x:=x) (e:=e) hx2 ⟨by omega,hT⟩
 rw [q1] at hP
 by_cases hi:971 < e-t
 ·rw [d0x g1 g2 hi]
  refine i7 a0k 10 _ _ (e1a x e) ⟨?_,?_,?_,⟨hx1,hx2⟩,wK hx2,uF hx1 hx2,a6⟩
  ·rw [f1t (by omega) (by omega)]; exact d8 (by omega)
  ·rw [hP]; exact i6 (by omega)
  ·rw [hP]; exact d8 (by show ¬_ < (-1075:Int); omega)
 by_cases hc:e-t < -1074
 ·obtain⟨u,hu⟩:=kU (show 0<=e+1074 by omega)
  have he:e=(u:Int)-1074:=by omega
  have hut:u < t:=by omega
  have hpow:m*2 ^t=m*2 ^u*2 ^(t-u):=by rw [r7,<- n9,show u+(t-u)=t by omega]
  have hsm:m*2 ^u < 4503599627370496:=by
   have h2:2*1<=2 ^(t-u):=by
    rw [show t-u=t-u-1+1 by omega,y8,t7]
    exact w9 2 (s7 (by decide))
   have h3:=N0 (m*2 ^u) h2
   omega
  have hS:p2c (plL x e)=e+105-t:=by
   unfold p2c
   rw [hP,sE (by omega) (by omega)]
   omega
  have hB:=i1b (x:=x) (P:=p2c (plL x e)) hx2 (by rw [hS]; omega) (by rw [hS]; omega)
  rw [hS,q2] at hB
  have hk:(e+105- (t:Int)+1023).toNat=54- (t-u):=by omega
  rw [hk] at hB
  have hmul:=c1e (w:=(54- (t-u))*4503599627370496+(m*2 ^t-4503599627370496)) (M:=m*2 ^u) (s:=t-u) (by omega) (by omega) (by rw [<- hpow]; omega) hsm (by omega)
  rw [he,u1r h0 hsm,<- he]
  have key:=f2g x e
  rw [hS,hB,hmul] at key
  refine i7 a0k 10 _ _ key ⟨rfl,?_,?_,?_,⟨hx1,hx2⟩,wK hx2,uF hx1 hx2,a6⟩
  ·rw [hP]; exact i6 (by show _ < (-1022:Int); omega)
  ·rw [hP]; exact d8 (by omega)
  ·rw [hP]; exact d8 (by show ¬_ < (-1075:Int); omega)
 ·rw [cG g1 g2 (by omega) (by omega)]
  have hB:=i1b (x:=x) (P:=plL x e) hx2 (by rw [hP]; omega) (by rw [hP]; omega)
  rw [hP,q2] at hB
  have hk:(e+((1074-t+1:Nat):Int)-1023+1023).toNat=(e-t+1074).toNat+1:=by omega
  rw [hk] at hB
  obtain⟨k,hk2⟩:∃ k,k=(e- (t:Int)+1074).toNat:=⟨_,rfl⟩
  rw [<- hk2] at hB ⊢
  have hk3:k<=2045:=by omega
  have hmul:=mul_one (w:=(k+1)*4503599627370496+(m*2 ^t-4503599627370496)) (by omega) (by omega)
  have hR:(k+1)*4503599627370496+(m*2 ^t-4503599627370496)=k*4503599627370496+m*2 ^t:=by omega
  rw [hR] at hmul hB
  have key:=b1t x e
  rw [hP,hB,hmul] at key
  refine i7 a0k 10 _ _ key ⟨rfl,?_,?_,?_,⟨hx1,hx2⟩,wK hx2,uF hx1 hx2,a6⟩
  ·exact d8 (by show ¬_ < (-1022:Int); omega)
  ·exact d8 (by omega)
  ·exact d8 (by show ¬_ < (-1075:Int); omega)
theorem y1e:(9007199254740992:Nat)=4503599627370496*2 ^1:=by decide
theorem c0o:lK 9007199254740992=4845873199050653696:=by decide
theorem sK {e:Int} (hE: -1074<=e) (hT:e<=970):Ieee.double.nearest false 9007199254740992 e=(e+1+1074).toNat*4503599627370496+4503599627370496:=by
 have:=sU (M:=4503599627370496) (k:=1) (E:=e+1) (by decide) (by decide) (by omega) (.inl (d9 _)) (by omega)
 rw [<- y1e,show e+1- ((1:Nat):Int)=e by omega] at this
 exact this
theorem d2x:(9007199254740992:Nat).log2=53:=gH (by decide) (by decide)
theorem pY {e:Int} (hT:970 < e):Ieee.double.nearest false 9007199254740992 e=9218868437227405312:=by
 have hlast:max (e+((9007199254740992:Nat).log2:Nat)- (Ieee.double.fractionBits:Nat)) Ieee.double.leastPlace=e+1:=by
  rw [d2x,Q1,k0c]
  omega
 unfold Ieee.Format.nearest
 rw [a7 (by decide)]
 simp only [hlast]
 have e1:(e- (e+1)).toNat=0:=by omega
 have e2:(e+1-e).toNat=1:=by omega
 rw [e1,e2,Nat.shiftLeft_zero,fE y1e (by decide),Q1,k0s,rI,o1i]
 exact M2 (b3x (by omega) (d9 _))
theorem i1d {e:Int} (hE: -1074<=e) (hT:e<=1000000000000000000):Ev.Pure zO8 J0 222 [.float .f64 4845873199050653696, .int .i64 e] (.float .f64 (Ieee.double.nearest false 9007199254740992 e)):=by
 have q1:4845873199050653696/4503599627370496=1076:=by decide
 have q2:4845873199050653696%4503599627370496=0:=by decide
 have hx1:4503599627370496<=4845873199050653696:=by decide
 have hx2:4845873199050653696 < 9218868437227405312:=by decide
 have hP:=m1p (x:=4845873199050653696) (e:=e) hx2 ⟨by omega,hT⟩
 rw [q1] at hP
 by_cases hi:970 < e
 ·rw [pY hi]
  refine i7 a0k 10 _ _ (e1a 4845873199050653696 e) ⟨?_,?_,?_,⟨hx1,hx2⟩,wK hx2,uF hx1 hx2,a6⟩
  ·rw [f1t (K1 hx2) (by decide)]; exact d8 (by decide)
  ·rw [hP]; exact i6 (by omega)
  ·rw [hP]; exact d8 (by show ¬_ < (-1075:Int); omega)
 ·rw [sK hE (by omega)]
  have hB:=i1b (x:=4845873199050653696) (P:=plL 4845873199050653696 e) hx2 (by rw [hP]; omega) (by rw [hP]; omega)
  rw [hP,q2] at hB
  obtain⟨k,hk2⟩:∃ k,k=(e+1+1074).toNat:=⟨_,rfl⟩
  have hk:(e+((1076:Nat):Int)-1023+1023).toNat=k+1:=by omega
  rw [hk,I1] at hB
  rw [<- hk2]
  have hk3:k<=2045:=by omega
  have hmul:=mul_one (w:=(k+1)*4503599627370496) (by omega) (by omega)
  have hR:(k+1)*4503599627370496=k*4503599627370496+4503599627370496:=by omega
  rw [hR] at hmul hB
  have key:=b1t 4845873199050653696 e
  rw [hP,hB,hmul] at key
  refine i7 a0k 10 _ _ key ⟨rfl,?_,?_,?_,⟨hx1,hx2⟩,wK hx2,uF hx1 hx2,a6⟩
  ·exact d8 (by show ¬_ < (-1022:Int); omega)
  ·exact d8 (by omega)
  ·exact d8 (by show ¬_ < (-1075:Int); omega)
theorem q1t {m:Nat} {e:Int} (h0:0 < m) (h53:m<=9007199254740992) (hE: -1074<=e) (hT:e<=1000000000000000000):Ev.Pure zO8 J0 222 [.float .f64 (lK m), .int .i64 e] (.float .f64 (Ieee.double.nearest false m e)):=by
 by_cases h:m < 9007199254740992
 ·exact w0k h0 h hE hT
 ·obtain rfl:m=9007199254740992:=b0e h53 (gD h)
  rw [c0o]
  exact i1d hE hT
def a1o (K:Nat) (M:Int) (N D:Nat) (e:Int):Nat:=if G9 K M N D e=true then 0 else m0o K N D e
def a1m (K:Nat) (M:Int) (N D:Nat) (e:Int):Int:=if G9 K M N D e=true then 0 else k0h K N D e
def v0g (K:Nat) (M:Int) (N D:Nat) (e:Int):Bool:=G9 K M N D e || !flw N D e
theorem v0t (K:Nat) (M:Int) (N D:Nat) (e:Int):k1i K M N D e=[uR (a1o K M N D e),iR (a1m K M N D e),bR (G9 K M N D e),fR (v0g K M N D e) (G9 K M N D e) (h0k K N D e)] :=by
 unfold k1i a1o a1m v0g
 cases h:G9 K M N D e
 ·rfl
 ·rfl
def d0u:List Arg->Option (List Arg×List Prop)
 | [.a [.v (.bool _), .v (.bool false), .v (.bool false), .s 27 .u64 N, .v (.bool false), .s 27 .u64 D], .a [.v (.int .i64 53), .v (.int .i64 (-1074)), .v (.int .i64 971)], .c (.v (.int .i64 1))] =>
  some ([uR (a1o 53 971 (val W64 N) (val W64 D) (B9 53 (-1074) (val W64 N) (val W64 D))),iR (a1m 53 971 (val W64 N) (val W64 D) (B9 53 (-1074) (val W64 N) (val W64 D))),bR (G9 53 971 (val W64 N) (val W64 D) (B9 53 (-1074) (val W64 N) (val W64 D))),fR (v0g 53 971 (val W64 N) (val W64 D) (B9 53 (-1074) (val W64 N) (val W64 D))) (G9 53 971 (val W64 N) (val W64 D) (B9 53 (-1074) (val W64 N) (val W64 D))) (h0k 53 (val W64 N) (val W64 D) (B9 53 (-1074) (val W64 N) (val W64 D)))],[Cn N∧Cn D∧0 < val W64 D∧bl (val W64 N)<=1000000∧bl (val W64 D)<=1000000])
 | _=>none
theorem p0e:∀ az rs l,d0u az=some (rs,l)->l5 l->Ev.Sem zO8 J0 101 az rs:=by
 intro az rs l h hl
 unfold d0u at h
 split at h
 ·cases h
  rename_i n N D
  obtain⟨⟨c1,c2,hD,h1,h2⟩,_⟩:=hl
  unfold Cn at c1 c2
  have:=m0r n (N:=val W64 N) (D:=val W64 D) hD h1 h2
  rw [<- c1,<- c2,v0t] at this
  exact this
 ·cases h
def unF (x:Nat):Nat:=if x=4845873199050653696 then 9007199254740992 else (4503599627370496+x%4503599627370496)/2 ^(1075-x/4503599627370496)
theorem v0l {m:Nat} (h0:0 < m) (h53:m<=9007199254740992):unF (lK m)=m:=by
 by_cases h:m < 9007199254740992
 ·obtain⟨t,ht,g1,g2,g3,g4,q1,q2,hx1,hx2⟩:=p0d h0 h
  have hne:lK m≠4845873199050653696:=by
   intro e
   rw [e] at q1
   have:(4845873199050653696:Nat)/4503599627370496=1076:=by decide
   omega
  unfold unF
  rw [a7 hne,q1,q2,show 4503599627370496+(m*2 ^t-4503599627370496)=m*2 ^t from Nat.add_sub_cancel' g1,show 1075- (1074-t+1)=t by omega]
  exact uU _ (s7 (by decide))
 ·obtain rfl:m=9007199254740992:=b0e h53 (gD h)
  rw [c0o]
  exact f9 rfl
def ldW (x:Nat) (e:Int):Nat:=if x=0 then 0 else Ieee.double.nearest false (unF x) e
def b1s (x:Nat) (e:Int):Prop:=x=0∨(lK (unF x)=x∧0 < unF x∧unF x<=9007199254740992∧-1074<=e∧e<=1000000000000000000)
theorem d2h {x:Nat} {e:Int} (h:b1s x e):Ev.Pure zO8 J0 222 [.float .f64 x, .int .i64 e] (.float .f64 (ldW x e)):=by
 by_cases hx:x=0
 ·subst hx
  exact i7 a0k 10 _ _ (b2m 0 e) ⟨by decide,a6⟩
 ·obtain⟨h1,h2,h3,h4,h5⟩:=h.resolve_left hx
  have:=q1t h2 h3 h4 h5
  rw [h1] at this
  unfold ldW
  rw [a7 hx]
  exact this
theorem g1p {m:Nat} {e:Int} (h0:0 < m) (h53:m<=9007199254740992):ldW (lK m) e=Ieee.double.nearest false m e:=by
 have hx:lK m≠0:=by
  intro e0
  by_cases h:m < 9007199254740992
  ·obtain⟨t,ht,g1,g2,g3,g4,q1,q2,hx1,hx2⟩:=p0d h0 h
   rw [e0] at hx1
   exact absurd hx1 (by decide)
  ·obtain rfl:m=9007199254740992:=b0e h53 (gD h)
   rw [c0o] at e0
   cases e0
 unfold ldW
 rw [a7 hx,v0l h0 h53]
theorem l1u {m:Nat} {e:Int} (h53:m<=9007199254740992) (h:m=0∨(-1074<=e∧e<=1000000000000000000)):b1s (lK m) e:=by
 rcases Q5 m with h0 | h0
 ·subst h0; exact .inl kV
 ·rcases h with h | h
  ·omega
  ·exact .inr ⟨by rw [v0l h0 h53],by rw [v0l h0 h53]; exact h0,by rw [v0l h0 h53]; exact h53,h.1,h.2⟩
def b0w:List Value->Option (Value×List Prop)
 | [.float .f64 x, .int .i64 e] =>some (.float .f64 (ldW x e),[b1s x e])
 | _=>none
theorem e1l (args:List Value) (v:Value) (l:List Prop) (h:b0w args=some (v,l)) (hl:l5 l):Ev.Pure zO8 J0 222 args v:=by
 unfold b0w at h
 split at h
 case h_2=>cases h
 cases h
 exact d2h hl.1
def a2a:Tab:=r6 222 b0w f2n
theorem u0m:U6 zO8 J0 a2a:=i8 e1l t0d
def bLe:Base:=⟨zO8,J0,false,a2a,vJ,200,L7⟩
theorem m2w:BaseOk bLe:=⟨progOk,u0m,fJ,r5⟩
theorem c1a (x:Nat) (e:Int):b7 (bLe.cx 10) [] 200 150 [.float .f64 x, .int .i64 e] [] =some (.float .f64 (ldW x e),[b1s x e]):=by kernel_rfl
theorem j1k (args:List Value) (v:Value) (l:List Prop) (h:b0w args=some (v,l)) (hl:l5 l):Ev.Pure zO8 J0 150 args v:=by
 unfold b0w at h
 split at h
 case h_2=>cases h
 cases h
 exact i7 m2w 10 _ _ (c1a _ _) hl
def c2d:Tab:=r6 150 b0w a2a
theorem s0l:U6 zO8 J0 c2d:=i8 j1k u0m
def n0u:iV:=o8 101 (A3 [shM, .a [.v, .v, .v],shV] d0u) vJ
theorem a0b:iS zO8 J0 n0u:=j0 (m9 _ p0e) fJ
def bRo2:Base:=⟨zO8,J0,false,c2d,n0u,200,L7⟩
theorem d0p:BaseOk bRo2:=⟨progOk,s0l,a0b,r5⟩
abbrev s2i:Cx:=bRo2.cx 10
theorem z1x {K:Nat} {N D:Nat} {e:Int} (hN:0 < N) (hD:0 < D) (he:e=(bl N:Int)-bl D-K-2):2 ^(K+1)<=flq N D e:=by
 have h1:2 ^(bl N-1)<=N:=by
  refine bl_ge.1 ?_
  have:0 < bl N:=bl_ge.2 (by show 1<=N; exact hN)
  omega
 have hb:0 < bl N:=bl_ge.2 (by show 1<=N; exact hN)
 have h2:D < 2 ^bl D:=lZ D
 unfold flq
 rw [lV (g2g hD e)]
 unfold atA atB
 by_cases h0:0<=e
 ·rw [f9 h0,f9 h0]
  refine x7 ?_ h1
  refine x7 (N0 _ (w9 _ (K1 h2))) ?_
  rw [<- n9,<- n9]
  exact y5 (by decide) (by omega)
 ·rw [a7 h0,a7 h0]
  refine x7 (N0 _ (K1 h2)) ?_
  refine x7 ?_ (w9 _ h1)
  rw [<- n9,<- n9]
  exact y5 (by decide) (by omega)
theorem n1u {K:Nat} {L:Int} {N D:Nat} (hK:0 < K) (hN:0 < N) (hD:0 < D) (h:flq N D (B9 K L N D) < 2 ^(K-1)):B9 K L N D=L:=by
 unfold B9 at h ⊢
 by_cases hb:K < bl (flq N D (X5 K L N D))
 ·rw [f9 hb] at h
  exfalso
  obtain⟨s,hs⟩:∃ s,bl (flq N D (X5 K L N D))=K+s:=⟨bl (flq N D (X5 K L N D))-K,by omega⟩
  rw [hs,show ((K+s:Nat):Int)-K=(s:Int) by omega,uS,D9 (s7 (by decide)),<- n9] at h
  have:=bl_le.2 h
  omega
 ·rw [a7 hb]
  unfold X5
  by_cases hc:L < (bl N:Int)-bl D-K-2
  ·exfalso
   have h1:X5 K L N D=(bl N:Int)-bl D-K-2:=f9 hc
   have h2:=z1x hN hD h1
   have:=bl_ge.2 h2
   omega
  ·rw [a7 hc]
theorem oO {N D:Nat} (hD:0 < D):m0o 53 N D (B9 53 (-1074) N D) < 9007199254740992∧-1074<=k0h 53 N D (B9 53 (-1074) N D)∧(4503599627370496<=m0o 53 N D (B9 53 (-1074) N D)∨k0h 53 N D (B9 53 (-1074) N D)= -1074∨m0o 53 N D (B9 53 (-1074) N D)=0):=by
 have h1:flq N D (B9 53 (-1074) N D) < 9007199254740992:=i1r
 have h3: -1074<=B9 53 (-1074) N D:=by
  unfold B9 X5
  split <;> split <;> omega
 rcases Q5 N with hN | hN
 ·have hq:flq N D (B9 53 (-1074) N D)=0:=by
   rw [hN]
   unfold flq atA
   split <;> simp
  have hr:flr N D (B9 53 (-1074) N D)=0:=by
   rw [hN]
   unfold flr atA
   split <;> simp
  have hm:flm N D (B9 53 (-1074) N D)=0:=by
   unfold flm xZ flw
   rw [hr,hq]
   rfl
  unfold m0o k0h
  rw [hm]
  exact⟨by decide,h3, .inr (.inr (by decide))⟩
 have h2:=n1u (K:=53) (L:= -1074) (by decide) hN hD
 generalize B9 53 (-1074) N D=e at*
 have hm:flm N D e<=flq N D e+1∧flq N D e<=flm N D e:=by
  unfold flm
  split <;> omega
 have h4:flq N D e < 4503599627370496->e= -1074:=h2
 unfold m0o k0h
 rw [show 2 ^53=9007199254740992 by decide]
 by_cases hc:9007199254740992<=flm N D e
 ·rw [f9 hc,f9 hc]
  exact⟨by omega,by omega, .inl (by omega)⟩
 ·rw [a7 hc,a7 hc]
  refine⟨by omega,h3,?_⟩
  by_cases hd:4503599627370496<=flm N D e
  ·exact .inl hd
  ·exact .inr (.inl (h4 (by omega)))
theorem uT (m:Nat):FloatKind.f64.nearest (m:Int)=lK m:=by
 unfold FloatKind.nearest lK
 rw [d8 (by omega),Int.natAbs_natCast]
 rfl
def iZ (N D:Nat):Nat:=if G9 53 971 N D (B9 53 (-1074) N D)=true then 9218868437227405312 else if m0o 53 N D (B9 53 (-1074) N D)=0 then 0 else (k0h 53 N D (B9 53 (-1074) N D)+1074).toNat*4503599627370496+m0o 53 N D (B9 53 (-1074) N D)
def nuW (n:Bool) (N D:Nat):Nat:=if n=true then iZ N D+9223372036854775808 else iZ N D
theorem p1s (N D:Nat) (hD:0 < D):iZ N D<=9218868437227405312:=by
 unfold iZ
 obtain⟨h1,h2,h3⟩:=oO (N:=N) hD
 cases hi:G9 53 971 N D (B9 53 (-1074) N D)
 ·rw [a7 (by decide)]
  split
  ·exact s6 _
  ·unfold G9 at hi
   have:=Q8 hi
   exact e0h (by omega) h1
 ·rw [f9 rfl]
  exact d9 _
theorem v2l {N D:Nat} (hD:0 < D):b1s (FloatKind.f64.nearest ((a1o 53 971 N D (B9 53 (-1074) N D):Nat):Int)) (a1m 53 971 N D (B9 53 (-1074) N D)):=by
 obtain⟨h1,h2,h3⟩:=oO (N:=N) hD
 rw [uT]
 unfold a1o a1m
 cases hi:G9 53 971 N D (B9 53 (-1074) N D)
 ·rw [a7 (by decide),a7 (by decide)]
  unfold G9 at hi
  have hi:=Q8 hi
  generalize m0o 53 N D (B9 53 (-1074) N D)=m at*
  generalize k0h 53 N D (B9 53 (-1074) N D)=e at*
  exact l1u (by omega) (.inr ⟨h2,by omega⟩)
 ·rw [f9 rfl]
  exact .inl kV
theorem u2b {N D:Nat} (hD:0 < D) (hi:G9 53 971 N D (B9 53 (-1074) N D)=false):ldW (FloatKind.f64.nearest ((a1o 53 971 N D (B9 53 (-1074) N D):Nat):Int)) (a1m 53 971 N D (B9 53 (-1074) N D))=iZ N D:=by
 obtain⟨h1,h2,h3⟩:=oO (N:=N) hD
 rw [uT]
 unfold a1o a1m iZ
 rw [hi,a7 (by decide),a7 (by decide),a7 (by decide)]
 have hi2:k0h 53 N D (B9 53 (-1074) N D)<=971:=by
  unfold G9 at hi
  have:=Q8 hi
  omega
 clear hi
 generalize m0o 53 N D (B9 53 (-1074) N D)=m at*
 generalize k0h 53 N D (B9 53 (-1074) N D)=e at*
 rcases Q5 m with h | h
 ·subst h
  rw [kV,f9 rfl]
  unfold ldW
  rw [f9 rfl]
 ·rw [g1p h (by omega),a7 (by omega)]
  have:=sU (M:=m) (k:=0) (E:=e) h h1 h2 (by omega) hi2
  rw [G3,u9,show e- ((0:Nat):Int)=e by omega] at this
  exact this
abbrev xR (x:Nat):Arg:= .c (.v (.float .f64 x))
def nuE (N D:List Int):Int:=B9 53 (-1074) (val W64 N) (val W64 D)
def nuI (N D:List Int):Bool:=G9 53 971 (val W64 N) (val W64 D) (nuE N D)
def nuX (N D:List Int):Nat:=ldW (FloatKind.f64.nearest ((a1o 53 971 (val W64 N) (val W64 D) (nuE N D):Nat):Int)) (a1m 53 971 (val W64 N) (val W64 D) (nuE N D))
def i2d (N D:List Int):Prop:=b1s (FloatKind.f64.nearest ((a1o 53 971 (val W64 N) (val W64 D) (nuE N D):Nat):Int)) (a1m 53 971 (val W64 N) (val W64 D) (nuE N D))
def nuO (N D:List Int):Prop:=Cn N∧Cn D∧0 < val W64 D∧bl (val W64 N)<=1000000∧bl (val W64 D)<=1000000
section
variable (n:Bool) (N D:List Int) (r:Nat) (a b c:Bool)
theorem e3d:B2 s2i [] 200 152 [vlA n false N false D,iR 1] [xR r,fR a b c] [false,false] =some [n=false,nuI N D=false,i2d N D,N.length=N.length,D.length=D.length,nuO N D,zO3 .f64 (nuX N D)=zO3 .f64 r,zO9 (v0g 53 971 (val W64 N) (val W64 D) (nuE N D))=zO9 a,zO9 (nuI N D)=zO9 b,zO9 (h0k 53 (val W64 N) (val W64 D) (nuE N D))=zO9 c] :=by kernel_rfl
theorem d3c:B2 s2i [] 200 152 [vlA n false N false D,iR 1] [xR r,fR a b c] [false,true] =some [n=true,nuI N D=false,i2d N D,N.length=N.length,D.length=D.length,nuO N D,zO3 .f64 (nuX N D^^^2 ^(FloatKind.f64.format.exponentBits+FloatKind.f64.format.fractionBits))=zO3 .f64 r,zO9 (v0g 53 971 (val W64 N) (val W64 D) (nuE N D))=zO9 a,zO9 (nuI N D)=zO9 b,zO9 (h0k 53 (val W64 N) (val W64 D) (nuE N D))=zO9 c] :=by kernel_rfl
theorem a3m:B2 s2i [] 200 152 [vlA n false N false D,iR 1] [xR r,fR a b c] [true,false] =some [n=false,nuI N D=true,i2d N D,N.length=N.length,D.length=D.length,nuO N D,zO3 .f64 (9218868437227405312)=zO3 .f64 r,zO9 (v0g 53 971 (val W64 N) (val W64 D) (nuE N D))=zO9 a,zO9 (nuI N D)=zO9 b,zO9 (h0k 53 (val W64 N) (val W64 D) (nuE N D))=zO9 c] :=by kernel_rfl
theorem v2b:B2 s2i [] 200 152 [vlA n false N false D,iR 1] [xR r,fR a b c] [true,true] =some [n=true,nuI N D=true,i2d N D,N.length=N.length,D.length=D.length,nuO N D,zO3 .f64 (18442240474082181120)=zO3 .f64 r,zO9 (v0g 53 971 (val W64 N) (val W64 D) (nuE N D))=zO9 a,zO9 (nuI N D)=zO9 b,zO9 (h0k 53 (val W64 N) (val W64 D) (nuE N D))=zO9 c] :=by kernel_rfl
end
theorem u1e {x:Nat} (h:x<=9218868437227405312):x^^^2 ^(FloatKind.f64.format.exponentBits+FloatKind.f64.format.fractionBits)=x+9223372036854775808:=by
 have e:FloatKind.f64.format.exponentBits+FloatKind.f64.format.fractionBits=63:=rfl
 rw [e]
 have hx:x < 2 ^63:=by show x < 9223372036854775808; omega
 have h1:=wU hx 1
 have h2:x^^^2 ^63=2 ^63||| x:=by
  refine Nat.eq_of_testBit_eq fun i=> ?_
  rw [Nat.testBit_xor,Nat.testBit_or,Nat.testBit_two_pow]
  by_cases hi:63=i
  ·subst hi
   rw [Nat.testBit_lt_two_pow hx]
   rfl
  ·rw [d8 hi]
   simp
 rw [h2]
 rw [u9] at h1
 rw [<- h1,g0x]
theorem x0k (n:Bool) {N D:Nat} (hD:0 < D) (h1:bl N<=1000000) (h2:bl D<=1000000):
  Ev.Sem zO8 J0 152 [vlA n false (ws W64 N) false (ws W64 D),iR 1] [xR (nuW n N D),fR (v0g 53 971 N D (B9 53 (-1074) N D)) (G9 53 971 N D (B9 53 (-1074) N D)) (h0k 53 N D (B9 53 (-1074) N D))] :=by
 have v1:val W64 (ws W64 N)=N:=B5 N
 have v2:val W64 (ws W64 D)=D:=B5 D
 have hE:nuE (ws W64 N) (ws W64 D)=B9 53 (-1074) N D:=by unfold nuE; rw [v1,v2]
 have hI:nuI (ws W64 N) (ws W64 D)=G9 53 971 N D (B9 53 (-1074) N D):=by unfold nuI; rw [v1,v2,hE]
 have hO:nuO (ws W64 N) (ws W64 D):=by
  unfold nuO
  rw [v1,v2]
  exact⟨Cn.ws _,Cn.ws _,hD,h1,h2⟩
 have hK:i2d (ws W64 N) (ws W64 D):=by
  unfold i2d
  rw [v1,v2,hE]
  exact v2l hD
 cases hi:G9 53 971 N D (B9 53 (-1074) N D) with
 | false=>
  have hX:nuX (ws W64 N) (ws W64 D)=iZ N D:=by
   unfold nuX
   rw [v1,v2,hE]
   exact u2b hD hi
  cases n with
  | false=>
   refine l7 d0p 10 _ _ (e3d false (ws W64 N) (ws W64 D) (nuW false N D) _ _ _) ?_
   rw [v1,v2,hE,hI,hX,hi]
   exact⟨rfl,rfl,hK,rfl,rfl,hO,rfl,rfl,rfl,rfl,a6⟩
  | true=>
   refine l7 d0p 10 _ _ (d3c true (ws W64 N) (ws W64 D) (nuW true N D) _ _ _) ?_
   rw [v1,v2,hE,hI,hX,hi,u1e (p1s N D hD)]
   exact⟨rfl,rfl,hK,rfl,rfl,hO,rfl,rfl,rfl,rfl,a6⟩
 | true=>
  have hM:iZ N D=9218868437227405312:=by
   unfold iZ
   rw [hi]
   exact f9 rfl
  cases n with
  | false=>
   have hW:nuW false N D=9218868437227405312:=hM
   refine l7 d0p 10 _ _ (a3m false (ws W64 N) (ws W64 D) (nuW false N D) _ _ _) ?_
   rw [v1,v2,hE,hI,hi,hW]
   exact⟨rfl,rfl,hK,rfl,rfl,hO,rfl,rfl,rfl,rfl,a6⟩
  | true=>
   have hW:nuW true N D=18442240474082181120:=by
    show iZ N D+9223372036854775808=_
    rw [hM]
   refine l7 d0p 10 _ _ (v2b true (ws W64 N) (ws W64 D) (nuW true N D) _ _ _) ?_
   rw [v1,v2,hE,hI,hi,hW]
   exact⟨rfl,rfl,hK,rfl,rfl,hO,rfl,rfl,rfl,rfl,a6⟩
end Go.Proofs.YtkiejangmhhofaaGreatDoor
namespace Go.Proofs
def lT:Go.Shelf.Ren:=⟨fun | 143=>279 | 219=>306 | 217=>238 | 225=>305 | 224=>304 | 267=>318 | 266=>287 | 314=>322 | n=>n,fun | 9=>9 | 3=>3 | 4=>4 | 5=>5 | 46=>126 | 146=>281 | 51=>33 | n=>n,fun | 1=>6 | n=>n⟩
theorem yM:Go.Proofs.Lays.n143 zO8 lT where
 mixed:=by kernel_rfl
 f143:=Tryz.func279.trans (aP some (by kernel_rfl))
 f217:=Tryz.func238.trans (aP some (by kernel_rfl))
 f219:=Tryz.func306.trans (aP some (by kernel_rfl))
 f224:=Tryz.func304.trans (aP some (by kernel_rfl))
 f225:=Tryz.func305.trans (aP some (by kernel_rfl))
 f266:=Tryz.func287.trans (aP some (by kernel_rfl))
 f267:=Tryz.func318.trans (aP some (by kernel_rfl))
 f314:=Tryz.func322.trans (aP some (by kernel_rfl))
 t3:=Tryz.underlying3
 a3:=Tryz.isAgg3
 z3:=Tryz.sizeOf3
 v3:=Tryz.zeroValue3
 t4:=Tryz.underlying4
 a4:=Tryz.isAgg4
 z4:=Tryz.sizeOf4
 v4:=Tryz.zeroValue4
 t5:=Tryz.underlying5
 a5:=Tryz.isAgg5
 z5:=Tryz.sizeOf5
 v5:=Tryz.zeroValue5
 t9:=Tryz.underlying9
 a9:=Tryz.isAgg9
 z9:=Tryz.sizeOf9
 v9:=Tryz.zeroValue9
 t46:=Tryz.underlying126
 a46:=Tryz.isAgg126
 z46:=Tryz.sizeOf126
 v46:=Tryz.zeroValue126
 t51:=Tryz.underlying33
 a51:=Tryz.isAgg33
 z51:=Tryz.sizeOf33
 v51:=Tryz.zeroValue33
 t146:=Tryz.underlying281
 a146:=Tryz.isAgg281
 z146:=Tryz.sizeOf281
 v146:=Tryz.zeroValue281
 g1:=by kernel_rfl
namespace YtkiejangmhhofaaGreatDoor
open Go Go.RowKit Ev
theorem c0d (s t:List UInt8) (hs:s.length < 4294967281):Pure zO8 J0 279 [.string ⟨⟨s⟩⟩, .string ⟨⟨t⟩⟩] (.int .i64 (Lib.index s t)):=by
 refine⟨rfl,rfl, .inl ⟨enters_of Tryz.func279 (by kernel_rfl) (c:=_) rfl,fun w hI=> ?_⟩⟩
 obtain⟨m,hm⟩:=hI.2.2.2.2.2.1
 exact (Any.strings_Index yM ⟨⟨s⟩⟩ ⟨⟨t⟩⟩ m w hs hm).mono fun e w' ⟨h1,h2⟩=>⟨h1,h2 ▸ Z9 _ _⟩
def uV:List Value->Option (Value×List Prop)
 | [.string ⟨⟨s⟩⟩, .string ⟨⟨t⟩⟩] =>match zO1 s.length 4294967281 with
  | true=>some (.int .i64 (Lib.index s t),[])
  | false=>none
 | _=>none
theorem l0w (args:List Value) (v:Value) (l:List Prop) (h:uV args=some (v,l)) (_:l5 l):Pure zO8 J0 279 args v:=by
 unfold uV at h
 split at h
 case h_2=>cases h
 split at h
 case h_2=>cases h
 rename_i hl
 cases h
 exact c0d _ _ (by simpa [Nat.blt_eq] using hl)
def l2m:Tab:=r6 279 uV rH
theorem r1z:U6 zO8 J0 l2m:=i8 l0w M6
def atS:List (List Value×Value)->List Value->Option (Value×List Prop)
 | [],_=>none
 | (a,v) ::r,args=>match eqL args a with
  | true=>some (v,[])
  | false=>atS r args
theorem R2 {f:FuncId} :∀ {l:List (List Value×Value)},(∀ p∈l,Pure zO8 J0 f p.1 p.2)->∀ (args:List Value) (v:Value) (o:List Prop),atS l args=some (v,o)->l5 o->Pure zO8 J0 f args v
 | [],_,args,v,o,h,_=>by cases h
 | (a,x) ::r,hl,args,v,o,h,ho=>by
  unfold atS at h
  split at h
  ·rename_i he
   cases h
   rw [eqL_spec _ _ he]
   exact hl _ xH
  ·exact R2 (fun p hp=>hl p (gK _ hp)) args v o h ho
end YtkiejangmhhofaaGreatDoor
end Go.Proofs
namespace Go.Proofs.YtkiejangmhhofaaGreatDoor
open Go Go.RowKit Ev
def bKn:Base:=⟨zO8,J0,false,rH,I4,2000,L7⟩
theorem v0b:BaseOk bKn:=⟨progOk,M6,v6 _ _,r5⟩
def u7 (c:Int):Int:=if 48<=c∧c<=57 then c-48 else if 97<=c∧c<=102 then c-87 else if 65<=c∧c<=70 then c-55 else 16
def inC (a b c:Int):Bool:=match decide (a<=c) with | true=>decide (c<=b) | false=>false
theorem inB_iff {a b c:Int} :inC a b c=true↔a<=c∧c<=b:=by
 unfold inC
 by_cases h:a<=c <;> simp [h]
theorem inB_not {a b c:Int} :inC a b c=false↔¬(a<=c∧c<=b):=by
 rw [<- inB_iff]
 cases inC a b c <;> simp
section
variable (c:Int)
theorem e3a:b7 (bKn.cx 12) [] 200 148 [.int .u8 c] [true] =some (.int .i64 (iI.wrap (uB.wrap (c-zO6 48))),[inC 48 57 c=true]):=by kernel_rfl
theorem c3z:b7 (bKn.cx 12) [] 200 148 [.int .u8 c] [false,true] =some (.int .i64 (iI.wrap (iI.wrap (uB.wrap (c-zO6 97))+zO6 10)),[inC 97 102 c=true,inC 48 57 c=false]):=by kernel_rfl
theorem c3x:b7 (bKn.cx 12) [] 200 148 [.int .u8 c] [false,false,true] =some (.int .i64 (iI.wrap (iI.wrap (uB.wrap (c-zO6 65))+zO6 10)),[inC 65 70 c=true,inC 97 102 c=false,inC 48 57 c=false]):=by kernel_rfl
theorem c3w:b7 (bKn.cx 12) [] 200 148 [.int .u8 c] [false,false,false] =some (.int .i64 16,[inC 65 70 c=false,inC 97 102 c=false,inC 48 57 c=false]):=by kernel_rfl
end
theorem z0c {n:Int} (h0:0<=n) (h1:n < 256):uB.wrap n=n:=by
 simp [IntKind.wrap,IntKind.bits,IntKind.signed]
 omega
theorem cT {n:Int} (h0: -9223372036854775808<=n) (h1:n<=9223372036854775807):iI.wrap n=n:=by
 simp [IntKind.wrap,IntKind.bits,IntKind.signed]
 omega
theorem A2 {b:Base} (hb:BaseOk b) {k:Nat} {L:U5} {fuel:Nat} {ds:List Bool} {f:FuncId} {args:List Value} {v:Value} {l:List Prop} (h:b7 (b.cx k) L fuel f args ds=some (v,l)) (hl:l5 l):Ev.Pure b.P b.J f args v:=by
 obtain⟨h1,h2⟩:=u6 hb k
 have:=X1 h1 h2 h hl
 cases k with
 | zero=>exact this
 | succ k=>exact this
theorem fD {P:Program} {J:Ev.Inv P} {f:FuncId} {args:List Value} {x y:Int} (h:Ev.Pure P J f args (.int .i64 x)) (e:x=y):Ev.Pure P J f args (.int .i64 y):=e ▸ h
theorem z0n {c:Int} (h0:0<=c) (h1:c < 256):Ev.Pure zO8 J0 148 [.int .u8 c] (.int .i64 (u7 c)):=by
 unfold u7
 by_cases a:48<=c∧c<=57
 ·rw [f9 a]
  exact fD (A2 v0b (e3a c) ⟨inB_iff.2 a,a6⟩) (by rw [show zO6 48=48 from rfl,z0c (by omega) (by omega),cT (by omega) (by omega)])
 rw [a7 a]
 by_cases b:97<=c∧c<=102
 ·rw [f9 b]
  exact fD (A2 v0b (c3z c) ⟨inB_iff.2 b,inB_not.2 a,a6⟩) (by rw [show zO6 97=97 from rfl,show zO6 10=10 from rfl,z0c (by omega) (by omega),cT (n:=c-97) (by omega) (by omega),cT (by omega) (by omega)]; omega)
 rw [a7 b]
 by_cases d:65<=c∧c<=70
 ·rw [f9 d]
  exact fD (A2 v0b (c3x c) ⟨inB_iff.2 d,inB_not.2 b,inB_not.2 a,a6⟩) (by rw [show zO6 65=65 from rfl,show zO6 10=10 from rfl,z0c (by omega) (by omega),cT (n:=c-65) (by omega) (by omega),cT (by omega) (by omega)]; omega)
 rw [a7 d]
 exact A2 v0b (c3w c) ⟨inB_not.2 d,inB_not.2 b,inB_not.2 a,a6⟩
theorem worth_range {c:Int} :0<=u7 c∧u7 c<=16:=by
 unfold u7
 split
 ·omega
 split
 ·omega
 split <;> omega
def lG:List Value->Option (Value×List Prop)
 | [.int .u8 c] =>some (.int .i64 (u7 c),[0<=c∧c < 256])
 | _=>none
theorem qK (args:List Value) (v:Value) (l:List Prop) (h:lG args=some (v,l)) (hl:l5 l):Ev.Pure zO8 J0 148 args v:=by
 unfold lG at h
 split at h
 ·cases h; exact z0n hl.1.1 hl.1.2
 ·cases h
def g1y:Tab:=r6 148 lG rH
theorem i0s:U6 zO8 J0 g1y:=i8 qK M6
def bNb0:Base:=⟨zO8,J0,false,g1y,I4,2000,L7⟩
theorem oG:BaseOk bNb0:=⟨progOk,i0s,v6 _ _,r5⟩
abbrev m0n:=bNb0.cx 12
def cMa:Code:=z8 zO8 143 0
def tMt (t:List UInt8) (a b n p e i:Int):St:=⟨only 67 [(0, .string ⟨⟨t⟩⟩),(1, .int .i64 a),(2, .int .i64 b),(8, .int .i64 e),(9, .int .i64 p),(16, .int .i64 n),(17, .int .i64 i)],J0.tabs,11,[],[],0,none,[],11⟩
def tMe (t:List UInt8) (a b p e:Int):St:=⟨only 67 [(0, .string ⟨⟨t⟩⟩),(1, .int .i64 a),(2, .int .i64 b),(8, .int .i64 e),(9, .int .i64 p)],J0.tabs,11,[],[],0,none,[],11⟩
abbrev chI (t:List UInt8) (k:Int):Int:=zO6 (t.getD k.toNat 0).toNat
def g0m (t:List UInt8) (k p:Int):Bool:=match chI t k==46 with | true=>decide (p < 0) | false=>false
def chP (t:List UInt8) (k:Int):Prop:=zO6 0<=chI t k∧chI t k < zO6 256
def inP (t:List UInt8) (k:Int):Prop:=zO6 0<=k∧k.toNat < t.length
section
variable (t:List UInt8) (a b n p e i:Int)
theorem l2z (hl:l5 [decide (u7 (chI t (iI.wrap (a+i))) < b)=true,chP t (iI.wrap (a+i)),inP t (iI.wrap (a+i)),decide (i < n)=true]):
  u4 m0n cMa (tMt t a b n p e i) .normal (tMt t a b n p (iI.wrap (iI.wrap (a+i)+1)) (iI.wrap (i+1))):=
 stp oG 12 progOk.mixed [true,true] [] (by kernel_rfl) hl
theorem r2b (hl:l5 [g0m t (iI.wrap (a+i)) p=true,decide (u7 (chI t (iI.wrap (a+i))) < b)=false,chP t (iI.wrap (a+i)),inP t (iI.wrap (a+i)),decide (i < n)=true]):
  u4 m0n cMa (tMt t a b n p e i) .normal (tMt t a b n (iI.wrap (a+i)) (iI.wrap (iI.wrap (a+i)+1)) (iI.wrap (i+1))):=
 stp oG 12 progOk.mixed [true,false,true] [] (by kernel_rfl) hl
theorem k2i (hl:l5 [g0m t (iI.wrap (a+i)) p=false,decide (u7 (chI t (iI.wrap (a+i))) < b)=false,chP t (iI.wrap (a+i)),inP t (iI.wrap (a+i)),decide (i < n)=true]):
  u4 m0n cMa (tMt t a b n p e i) (.exit 0) (tMe t a b p e):=
 stp oG 12 progOk.mixed [true,false,false] [] (by kernel_rfl) hl
theorem l2n (hl:l5 [decide (i < n)=false]):u4 m0n cMa (tMt t a b n p e i) (.exit 0) (tMe t a b p e):=
 stp oG 12 progOk.mixed [false] [] (by kernel_rfl) hl
theorem v2p:b7 m0n [H7 (.exit 0) (fun _=>tMe t a b p e)] 200 143 [.string ⟨⟨t⟩⟩, .int .i64 a, .int .i64 b] [true] =some (.tuple ⟨[.string ⟨⟨List.drop a.toNat (zO10 e.toNat t)⟩⟩, .int .i64 0, .int .i64 e]⟩,
 [(zO6 0<=e∧e<=zO6 t.length)∧zO6 0<=a∧a<=e,decide (p < zO6 0)=true,b9 m0n cMa (x9 m0n 200 143 [.string ⟨⟨t⟩⟩, .int .i64 a, .int .i64 b] J0.tabs zO8.globals.size [true]) (.exit 0) (tMe t a b p e)]):=by kernel_rfl
theorem t2u:b7 m0n [H7 (.exit 0) (fun _=>tMe t a b p e)] 200 143 [.string ⟨⟨t⟩⟩, .int .i64 a, .int .i64 b] [false] =some (.tuple ⟨[.string ⟨⟨List.drop a.toNat (zO10 p.toNat t)++List.drop (iI.wrap (p+zO6 1)).toNat (zO10 e.toNat t)⟩⟩, .int .i64 (iI.wrap (iI.wrap (e-p)-zO6 1)), .int .i64 e]⟩,
 [(List.drop a.toNat (zO10 p.toNat t)).length+(List.drop (iI.wrap (p+zO6 1)).toNat (zO10 e.toNat t)).length<=9223372036854775807,(zO6 0<=e∧e<=zO6 t.length)∧zO6 0<=iI.wrap (p+zO6 1)∧iI.wrap (p+zO6 1)<=e,(zO6 0<=p∧p<=zO6 t.length)∧zO6 0<=a∧a<=p,decide (p < zO6 0)=false,
   b9 m0n cMa (x9 m0n 200 143 [.string ⟨⟨t⟩⟩, .int .i64 a, .int .i64 b] J0.tabs zO8.globals.size [false]) (.exit 0) (tMe t a b p e)]):=by kernel_rfl
theorem c2b (d:Bool) {x:AX} {s':St} (h:b9 m0n cMa (tMt t a b (iI.wrap (zO6 t.length-a)) (-1) a 0) x s'):b9 m0n cMa (x9 m0n 200 143 [.string ⟨⟨t⟩⟩, .int .i64 a, .int .i64 b] J0.tabs zO8.globals.size [d]) x s':=
 l9 h []
end
def mL (t:List UInt8) (b:Int):Nat->Nat->Int->Int×Nat
 | 0,k,p=>(p,k)
 | f+1,k,p=>if u7 (chI t k) < b then mL t b f (k+1) p else if g0m t k p=true then mL t b f (k+1) k else (p,k)
theorem jP (t:List UInt8) (b:Int):∀ (f k:Nat) (p:Int),k+f=t.length->p < (k:Int)->k<=(mL t b f k p).2∧(mL t b f k p).2<=t.length∧((mL t b f k p).1=p∨(k:Int)<=(mL t b f k p).1)∧(mL t b f k p).1 < ((mL t b f k p).2:Int)
 | 0,k,p,h,hp=>⟨d9 _,by show k<=_; omega, .inl rfl,hp⟩
 | f+1,k,p,h,hp=>by
  unfold mL
  split
  ·obtain⟨h1,h2,h3,h4⟩:=jP t b f (k+1) p (by omega) (by omega)
   exact⟨by omega,h2,h3.imp id (fun h=>by omega),h4⟩
  ·split
   ·obtain⟨h1,h2,h3,h4⟩:=jP t b f (k+1) (k:Int) (by omega) (by omega)
    exact⟨by omega,h2, .inr (by rcases h3 with h3 | h3 <;> omega),h4⟩
   ·exact⟨d9 _,by show k<=_; omega, .inl rfl,hp⟩
theorem wr {n:Int} (h0: -9223372036854775808<=n) (h1:n<=9223372036854775807):iI.wrap n=n:=cT h0 h1
theorem h2t {t:List UInt8} {a:Nat} {b:Int} (hl:t.length < 9223372036854775807):∀ (f k:Nat) (p:Int),a<=k->k+f=t.length->
  b9 m0n cMa (tMt t a b ((t.length:Int)-a) p k ((k:Int)-a)) (.exit 0) (tMe t a b (mL t b f k p).1 ((mL t b f k p).2:Int)):=by
 intro f k p hak hkf
 obtain⟨r,hr⟩:∃ r,mL t b f k p=r:=⟨_,rfl⟩
 rw [hr]
 refine C0 (ι:=Nat×Int) (fun x=>tMt t a b ((t.length:Int)-a) x.2 x.1 ((x.1:Int)-a)) (fun x=>t.length-x.1) (fun x=>a<=x.1∧x.1<=t.length∧mL t b (t.length-x.1) x.1 x.2=r) (by intro e; cases e) (fun x hx=> ?_) (k,p) ⟨hak,by show k<=_; omega,by show mL t b (t.length-k) k p=r; rw [show t.length-k=f by omega]; exact hr⟩
 obtain⟨k',p'⟩:=x
 obtain⟨h1,h2,h3⟩:=hx
 simp only at h1 h2 h3 ⊢
 have ha:iI.wrap ((a:Int)+((k':Int)-a))=(k':Int):=by rw [wr (by omega) (by omega)]; omega
 by_cases hlt:k' < t.length
 ·have hc:chP t (k':Int):=⟨w7 _,zzA208.2 (UInt8.toNat_lt _)⟩
  have hi:inP t (k':Int):=⟨w7 _,by rw [g9]; exact hlt⟩
  have hd:decide (((k':Int)-a) < ((t.length:Int)-a))=true:=i6 (by omega)
  have e1:iI.wrap ((k':Int)+1)=((k'+1:Nat):Int):=by rw [wr (by omega) (by omega)]; omega
  have e2:iI.wrap ((k':Int)-a+1)=((k'+1:Nat):Int)-a:=by rw [wr (by omega) (by omega)]; omega
  obtain⟨g,hg⟩:∃ g,t.length-k'=g+1:=⟨t.length-k'-1,by omega⟩
  have hg':t.length- (k'+1)=g:=by omega
  rw [hg] at h3
  unfold mL at h3
  by_cases hw:u7 (chI t (k':Int)) < b
  ·rw [f9 hw] at h3
   refine .inl ⟨(k'+1,p'),⟨by omega,by omega,by rw [hg']; exact h3⟩,by show t.length- (k'+1) < t.length-k'; omega,?_⟩
   have:=l2z t a b ((t.length:Int)-a) p' k' ((k':Int)-a) (by rw [ha]; exact⟨i6 hw,hc,hi,hd,a6⟩)
   rw [ha,e1,e2] at this
   exact this
  ·rw [a7 hw] at h3
   by_cases hdot:g0m t (k':Int) p'=true
   ·rw [f9 hdot] at h3
    refine .inl ⟨(k'+1,(k':Int)),⟨by omega,by omega,by rw [hg']; exact h3⟩,by show t.length- (k'+1) < t.length-k'; omega,?_⟩
    have:=r2b t a b ((t.length:Int)-a) p' k' ((k':Int)-a) (by rw [ha]; exact⟨hdot,d8 hw,hc,hi,hd,a6⟩)
    rw [ha,e1,e2] at this
    exact this
   ·rw [a7 hdot] at h3
    refine .inr ?_
    rw [<- h3]
    exact k2i t a b ((t.length:Int)-a) p' k' ((k':Int)-a) (by rw [ha]; exact⟨by simpa using hdot,d8 hw,hc,hi,hd,a6⟩)
 ·obtain rfl:k'=t.length:=by omega
  rw [L0] at h3
  refine .inr ?_
  rw [<- h3]
  exact l2n t a b ((t.length:Int)-a) p' _ _ ⟨d8 (by omega),a6⟩
def maP (t:List UInt8) (a:Nat) (b:Int):Int:=(mL t b (t.length-a) a (-1)).1
def maE (t:List UInt8) (a:Nat) (b:Int):Nat:=(mL t b (t.length-a) a (-1)).2
def maS (t:List UInt8) (a:Nat) (b:Int):List UInt8:=if maP t a b < 0 then (t.take (maE t a b)).drop a else (t.take (maP t a b).toNat).drop a++(t.take (maE t a b)).drop ((maP t a b).toNat+1)
def maB (t:List UInt8) (a:Nat) (b:Int):Int:=if maP t a b < 0 then 0 else (maE t a b:Int)-maP t a b-1
theorem g0b {t:List UInt8} {a:Nat} {b:Int} (ha:a<=t.length):a<=maE t a b∧maE t a b<=t.length∧(maP t a b= -1∨(a:Int)<=maP t a b)∧maP t a b < (maE t a b:Int):=by
 unfold maE maP
 exact jP t b (t.length-a) a (-1) (by omega) (by omega)
theorem f0h {t:List UInt8} {a:Nat} {b:Int} (hl:t.length < 9223372036854775807) (ha:a<=t.length):
  Ev.Pure zO8 J0 143 [.string ⟨⟨t⟩⟩, .int .i64 a, .int .i64 b] (.tuple ⟨[.string ⟨⟨maS t a b⟩⟩, .int .i64 (maB t a b), .int .i64 (maE t a b)]⟩):=by
 obtain⟨r1,r2,r3,r4⟩:=g0b (b:=b) ha
 have hloop:=h2t (a:=a) (b:=b) hl (t.length-a) a (-1) (d9 _) (by omega)
 rw [Int.sub_self] at hloop
 have hn:iI.wrap (zO6 t.length- (a:Int))=(t.length:Int)-a:=by
  show iI.wrap ((t.length:Int)-a)=_
  rw [wr (by omega) (by omega)]
 have hin:∀ d,b9 m0n cMa (x9 m0n 200 143 [.string ⟨⟨t⟩⟩, .int .i64 a, .int .i64 b] J0.tabs zO8.globals.size [d]) (.exit 0) (tMe t a b (maP t a b) (maE t a b:Int)):=fun d=>c2b t a b d (by rw [hn]; exact hloop)
 have hte:(zO6 0<=(maE t a b:Int)∧(maE t a b:Int)<=zO6 t.length):=⟨w7 _,zzA207.2 r2⟩
 unfold maS maB
 by_cases hp:maP t a b < 0
 ·rw [f9 hp,f9 hp]
  have:Ev.Pure zO8 J0 _ _ _:=A2 oG (v2p t a b (maP t a b) (maE t a b:Int)) ⟨⟨hte,w7 _,zzA207.2 r1⟩,i6 hp,hin true,a6⟩
  simpa using this
 ·rw [a7 hp,a7 hp]
  have hpa:(a:Int)<=maP t a b:=by rcases r3 with h | h <;> omega
  obtain⟨q,hq⟩:=kU (show 0<=maP t a b by omega)
  have e1:iI.wrap ((q:Int)+zO6 1)=((q+1:Nat):Int):=by
   show iI.wrap ((q:Int)+1)=_
   rw [wr (by omega) (by omega)]
   omega
  have e2:iI.wrap (iI.wrap ((maE t a b:Int)- (q:Int))-zO6 1)=(maE t a b:Int)-q-1:=by
   show iI.wrap (iI.wrap ((maE t a b:Int)- (q:Int))-1)=_
   rw [wr (n:=(maE t a b:Int)- (q:Int)) (by omega) (by omega),wr (by omega) (by omega)]
  have:Ev.Pure zO8 J0 _ _ _:=A2 oG (t2u t a b (maP t a b) (maE t a b:Int)) (by
   rw [hq,e1]
   refine⟨?_,⟨hte,w7 _,by omega⟩,⟨⟨w7 _,by show (q:Int)<=(t.length:Int); omega⟩,w7 _,by omega⟩,d8 (by show ¬((q:Int) < 0); omega),by rw [<- hq]; exact hin false,a6⟩
   simp only [C2,E0,g9]
   omega)
  rw [hq,e1,e2] at this
  rw [hq]
  simpa using this
def mX:List Value->Option (Value×List Prop)
 | [.string ⟨⟨s⟩⟩, .string ⟨⟨t⟩⟩] =>some (.int .i64 (Lib.index s t),[s.length < 4294967281])
 | _=>none
theorem f0w (args:List Value) (v:Value) (l:List Prop) (h:mX args=some (v,l)) (hl:l5 l):Ev.Pure zO8 J0 279 args v:=by
 unfold mX at h
 split at h
 ·cases h; exact c0d _ _ hl.1
 ·cases h
def bIx:Base:=⟨zO8,J0,false,r6 279 mX rH,I4,2000,L7⟩
theorem r2x:BaseOk bIx:=⟨progOk,i8 f0w M6,v6 _ _,r5⟩
def h2v (L s:List UInt8):Bool:=decide (zO6 0<=Lib.index L s)
theorem z1u (L s:List UInt8):b7 (bIx.cx 12) [] 200 218 [.string ⟨⟨L⟩⟩, .string ⟨⟨s⟩⟩] [] =some (.bool (h2v L s),[L.length < 4294967281]):=by kernel_rfl
def n0c:List Value->Option (Value×List Prop)
 | [.string ⟨⟨L⟩⟩, .string ⟨⟨s⟩⟩] =>some (.bool (h2v L s),[L.length < 4294967281])
 | _=>none
theorem z0b (args:List Value) (v:Value) (l:List Prop) (h:n0c args=some (v,l)) (hl:l5 l):Ev.Pure zO8 J0 218 args v:=by
 unfold n0c at h
 split at h
 ·cases h; exact A2 r2x (z1u _ _) hl
 ·cases h
def h1r:Tab:=r6 218 n0c g1y
theorem k0b:U6 zO8 J0 h1r:=i8 z0b i0s
def bNb1:Base:=⟨zO8,J0,false,h1r,I4,2000,L7⟩
theorem cQ:BaseOk bNb1:=⟨progOk,k0b,v6 _ _,r5⟩
abbrev mV:=bNb1.cx 12
def cEx:Code:=z8 zO8 144 0
def tEx (t:List UInt8) (a:Int) (g:Bool) (n f i:Int):St:=⟨only 82 [(0, .string ⟨⟨t⟩⟩),(1, .int .i64 a),(8, .int .i64 i),(9, .bool g),(10, .int .i64 n),(11, .int .i64 f)],J0.tabs,11,[],[],0,none,[],11⟩
def n2u (t:List UInt8) (a:Int):List UInt8:=List.drop a.toNat (zO10 (iI.wrap (a+1)).toNat t)
def geB (t:List UInt8) (a:Int):Bool:=decide (a>=(t.length:Int))
def ltE (t:List UInt8) (k:Int):Bool:=decide (k < (t.length:Int))
def hdB (t L:List UInt8) (a:Int):Bool:=match geB t a with | true=>true | false=> !h2v L (n2u t a)
def hdP (t:List UInt8) (a:Int):Prop:=C9 [(4,geB t a)] [(4,false)] ->(0<=iI.wrap (a+1)∧iI.wrap (a+1)<=(t.length:Int))∧0<=a∧a<=iI.wrap (a+1)
def hdL (t L:List UInt8) (a:Int):Prop:=C9 [(4,geB t a)] [(4,false)] ->L.length < 4294967281
def sgB (t:List UInt8) (k:Int):Bool:=match ltE t k with | true=>(match chI t k==43 with | true=>true | false=>chI t k==45) | false=>false
def u2p (t:List UInt8) (k:Int):Prop:=C9 [(9,chI t k==43),(4,ltE t k)] [(9,false),(4,true)] ->0<=k∧k.toNat < t.length
def o2n (t:List UInt8) (k:Int):Prop:=C9 [(4,ltE t k)] [(4,true)] ->0<=k∧k.toNat < t.length
def exB (t:List UInt8) (i:Int):Bool:=match ltE t i with | true=>decide (u7 (chI t i) < 10) | false=>false
def y2s (t:List UInt8) (i:Int):Prop:=C9 [(4,ltE t i)] [(4,true)] ->0<=chI t i∧chI t i < 256
def nxW (n w:Int):Int:=if iI.wrap (iI.wrap (n*zO6 10)+w) < zO6 1073741824 then iI.wrap (iI.wrap (n*zO6 10)+w) else zO6 1073741824
section
variable (t L:List UInt8) (a:Nat) (g:Bool) (n f i:Int)
theorem y2l (hl:l5 [chP t i,inP t i,exB t i=true,y2s t i,o2n t i]):u4 mV cEx (tEx t a g n f i) .normal (tEx t a g (nxW n (u7 (chI t i))) f (iI.wrap (i+1))):=
 stp cQ 12 progOk.mixed [true] [] (by kernel_rfl) hl
theorem z1f (hl:l5 [exB t i=false,y2s t i,o2n t i]):u4 mV cEx (tEx t a g n f i) (.exit 0) (tEx t a g n f i):=
 stp cQ 12 progOk.mixed [false] [] (by kernel_rfl) hl
theorem d2u:b7 mV [] 200 144 [.string ⟨⟨t⟩⟩, .int .i64 a, .string ⟨⟨L⟩⟩] [true] =some (.tuple ⟨[.int .i64 0, .int .i64 a]⟩,[hdB t L a=true,hdL t L a,hdP t a]):=by kernel_rfl
def eQ0 (t L:List UInt8) (a:Int):List Prop:=[sgB t (iI.wrap (a+1))=false,u2p t (iI.wrap (a+1)),o2n t (iI.wrap (a+1)),hdB t L a=false,hdL t L a,hdP t a]
def eQ1 (t L:List UInt8) (a:Int):List Prop:=[inP t (iI.wrap (a+1)),sgB t (iI.wrap (a+1))=true,u2p t (iI.wrap (a+1)),o2n t (iI.wrap (a+1)),hdB t L a=false,hdL t L a,hdP t a]
theorem x2o:b7 mV [H7 (.exit 0) (fun _=>tEx t a g n f i)] 200 144 [.string ⟨⟨t⟩⟩, .int .i64 a, .string ⟨⟨L⟩⟩] [false,false,true] =some (.tuple ⟨[.int .i64 0, .int .i64 a]⟩,((i==f)=true) ::b9 mV cEx (x9 mV 200 144 [.string ⟨⟨t⟩⟩, .int .i64 a, .string ⟨⟨L⟩⟩] J0.tabs zO8.globals.size [false,false,true]) (.exit 0) (tEx t a g n f i) ::eQ0 t L a):=by kernel_rfl
theorem u2r:b7 mV [H7 (.exit 0) (fun _=>tEx t a g n f i)] 200 144 [.string ⟨⟨t⟩⟩, .int .i64 a, .string ⟨⟨L⟩⟩] [false,false,false,false] =some (.tuple ⟨[.int .i64 n, .int .i64 i]⟩,(g=false) ::((i==f)=false) ::b9 mV cEx (x9 mV 200 144 [.string ⟨⟨t⟩⟩, .int .i64 a, .string ⟨⟨L⟩⟩] J0.tabs zO8.globals.size [false,false,false,false]) (.exit 0) (tEx t a g n f i) ::eQ0 t L a):=by kernel_rfl
theorem z2r:b7 mV [H7 (.exit 0) (fun _=>tEx t a g n f i)] 200 144 [.string ⟨⟨t⟩⟩, .int .i64 a, .string ⟨⟨L⟩⟩] [false,true,true] =some (.tuple ⟨[.int .i64 0, .int .i64 a]⟩,((i==f)=true) ::b9 mV cEx (x9 mV 200 144 [.string ⟨⟨t⟩⟩, .int .i64 a, .string ⟨⟨L⟩⟩] J0.tabs zO8.globals.size [false,true,true]) (.exit 0) (tEx t a g n f i) ::eQ1 t L a):=by kernel_rfl
theorem z2k:b7 mV [H7 (.exit 0) (fun _=>tEx t a g n f i)] 200 144 [.string ⟨⟨t⟩⟩, .int .i64 a, .string ⟨⟨L⟩⟩] [false,true,false,true] =some (.tuple ⟨[.int .i64 (iI.wrap (zO6 0-n)), .int .i64 i]⟩,(g=true) ::((i==f)=false) ::b9 mV cEx (x9 mV 200 144 [.string ⟨⟨t⟩⟩, .int .i64 a, .string ⟨⟨L⟩⟩] J0.tabs zO8.globals.size [false,true,false,true]) (.exit 0) (tEx t a g n f i) ::eQ1 t L a):=by kernel_rfl
theorem u2c:b7 mV [H7 (.exit 0) (fun _=>tEx t a g n f i)] 200 144 [.string ⟨⟨t⟩⟩, .int .i64 a, .string ⟨⟨L⟩⟩] [false,true,false,false] =some (.tuple ⟨[.int .i64 n, .int .i64 i]⟩,(g=false) ::((i==f)=false) ::b9 mV cEx (x9 mV 200 144 [.string ⟨⟨t⟩⟩, .int .i64 a, .string ⟨⟨L⟩⟩] J0.tabs zO8.globals.size [false,true,false,false]) (.exit 0) (tEx t a g n f i) ::eQ1 t L a):=by kernel_rfl
theorem u1w (ds:List Bool) {x:AX} {s':St} (h:b9 mV cEx (tEx t a false 0 (iI.wrap ((a:Int)+1)) (iI.wrap ((a:Int)+1))) x s'):b9 mV cEx (x9 mV 200 144 [.string ⟨⟨t⟩⟩, .int .i64 a, .string ⟨⟨L⟩⟩] J0.tabs zO8.globals.size (false ::false ::ds)) x s':=
 l9 h []
theorem s1s (ds:List Bool) {x:AX} {s':St} (h:b9 mV cEx (tEx t a (chI t (iI.wrap ((a:Int)+1))==45) 0 (iI.wrap (iI.wrap ((a:Int)+1)+1)) (iI.wrap (iI.wrap ((a:Int)+1)+1))) x s'):b9 mV cEx (x9 mV 200 144 [.string ⟨⟨t⟩⟩, .int .i64 a, .string ⟨⟨L⟩⟩] J0.tabs zO8.globals.size (false ::true ::ds)) x s':=
 l9 h []
end
def nxP (n w:Int):Int:=if n*10+w < 1073741824 then n*10+w else 1073741824
theorem w2t {n w:Int} (h0:0<=n) (h1:n<=1073741824) (w0:0<=w) (w1:w<=16):nxW n w=nxP n w:=by
 unfold nxW nxP
 rw [show (zO6 10:Int)=10 from rfl,show (zO6 1073741824:Int)=1073741824 from rfl,wr (n:=n*10) (by omega) (by omega),wr (by omega) (by omega)]
theorem s0n {n w:Int} (h0:0<=n) (w0:0<=w):0<=nxP n w∧nxP n w<=1073741824:=by
 unfold nxP
 split <;> omega
def h0b (t:List UInt8):Nat->Nat->Int->Int×Nat
 | 0,k,n=>(n,k)
 | f+1,k,n=>if u7 (chI t k) < 10 then h0b t f (k+1) (nxP n (u7 (chI t k))) else (n,k)
theorem mF (t:List UInt8):∀ (f k:Nat) (n:Int),k+f=t.length->0<=n->n<=1073741824->k<=(h0b t f k n).2∧(h0b t f k n).2<=t.length∧0<=(h0b t f k n).1∧(h0b t f k n).1<=1073741824
 | 0,k,n,h,h0,h1=>⟨d9 _,by show k<=_; omega,h0,h1⟩
 | f+1,k,n,h,h0,h1=>by
  unfold h0b
  split
  ·have hr:=s0n (w:=u7 (chI t k)) h0 worth_range.1
   obtain⟨a,b,c,d⟩:=mF t f (k+1) _ (by omega) hr.1 hr.2
   exact⟨by omega,b,c,d⟩
  ·exact⟨d9 _,by show k<=_; omega,h0,h1⟩
theorem a1v (t:List UInt8) (k:Int):chP t k:=⟨w7 _,zzA208.2 (UInt8.toNat_lt _)⟩
theorem p0x (t:List UInt8) (i:Int):y2s t i:=fun _=>⟨w7 _,zzA208.2 (UInt8.toNat_lt _)⟩
theorem wX (t:List UInt8) (i:Nat):o2n t (i:Int):=fun hc=>⟨w7 _,by
 have:(i:Int) < (t.length:Int):=by simpa [C9,kvP,ltE] using hc
 rw [g9]
 omega⟩
theorem g1l (t:List UInt8) (i:Nat):u2p t (i:Int):=fun hc=>⟨w7 _,by
 have:(i:Int) < (t.length:Int):=by
  have h:=hc.2
  simpa [C9,kvP,ltE] using h
 rw [g9]
 omega⟩
theorem h1v {t:List UInt8} {a:Nat} {g:Bool} {f0:Int} (hl:t.length < 9223372036854775807):∀ (f k:Nat) (n:Int),k+f=t.length->0<=n->n<=1073741824->
  b9 mV cEx (tEx t a g n f0 k) (.exit 0) (tEx t a g (h0b t f k n).1 f0 ((h0b t f k n).2:Int)):=by
 intro f k n hkf hn0 hn1
 obtain⟨r,hr⟩:∃ r,h0b t f k n=r:=⟨_,rfl⟩
 rw [hr]
 refine C0 (ι:=Nat×Int) (fun x=>tEx t a g x.2 f0 x.1) (fun x=>t.length-x.1) (fun x=>x.1<=t.length∧(0<=x.2∧x.2<=1073741824)∧h0b t (t.length-x.1) x.1 x.2=r) (by intro e; cases e) (fun x hx=> ?_) (k,n) ⟨by show k<=_; omega,⟨hn0,hn1⟩,by show h0b t (t.length-k) k n=r; rw [show t.length-k=f by omega]; exact hr⟩
 obtain⟨k',n'⟩:=x
 obtain⟨h1,h2,h3⟩:=hx
 simp only at h1 h2 h3 ⊢
 by_cases hlt:k' < t.length
 ·have hb:ltE t (k':Int)=true:=i6 (by omega)
  have hi:inP t (k':Int):=⟨w7 _,by rw [g9]; exact hlt⟩
  have e1:iI.wrap ((k':Int)+1)=((k'+1:Nat):Int):=by rw [wr (by omega) (by omega)]; omega
  obtain⟨q,hq⟩:∃ q,t.length-k'=q+1:=⟨t.length-k'-1,by omega⟩
  rw [hq] at h3
  unfold h0b at h3
  by_cases hw:u7 (chI t (k':Int)) < 10
  ·rw [f9 hw] at h3
   have hw0:=worth_range (c:=chI t (k':Int))
   have hnr:=s0n (w:=u7 (chI t (k':Int))) h2.1 hw0.1
   refine .inl ⟨(k'+1,nxP n' (u7 (chI t (k':Int)))),⟨by show k'+1<=_; omega,hnr,by show h0b t (t.length- (k'+1)) (k'+1) _=r; rw [show t.length- (k'+1)=q by omega]; exact h3⟩,by show t.length- (k'+1) < t.length-k'; omega,?_⟩
   have:=y2l t a g n' f0 (k':Int) ⟨a1v _ _,hi,by unfold exB; rw [hb]; exact i6 hw,p0x _ _,wX _ _,a6⟩
   rw [e1,w2t h2.1 h2.2 hw0.1 hw0.2] at this
   exact this
  ·rw [a7 hw] at h3
   refine .inr ?_
   rw [<- h3]
   exact z1f t a g n' f0 (k':Int) ⟨by unfold exB; rw [hb]; exact d8 hw,p0x _ _,wX _ _,a6⟩
 ·obtain rfl:k'=t.length:=by omega
  rw [L0] at h3
  refine .inr ?_
  rw [<- h3]
  exact z1f t a g n' f0 _ ⟨by unfold exB ltE; rw [d8 (h0l _)],p0x _ _,wX _ _,a6⟩
def exK (t:List UInt8) (a:Nat):Nat:=if sgB t ((a+1:Nat):Int)=true then a+2 else a+1
def exR (t:List UInt8) (a:Nat):Int×Nat:=h0b t (t.length-exK t a) (exK t a) 0
def exN (t:List UInt8) (a:Nat):Bool:=sgB t ((a+1:Nat):Int) && (chI t ((a+1:Nat):Int)==45)
def exV (t L:List UInt8) (a:Nat):Int:=if hdB t L a=true then 0 else if (exR t a).2=exK t a then 0 else if exN t a=true then -(exR t a).1 else (exR t a).1
def exE (t L:List UInt8) (a:Nat):Nat:=if hdB t L a=true then a else if (exR t a).2=exK t a then a else (exR t a).2
theorem m2o {t:List UInt8} {a:Nat} (hl:t.length < 9223372036854775807):hdP t (a:Int):=fun hc=>by
 have:(a:Int) < (t.length:Int):=by simpa [C9,kvP,geB] using hc
 rw [wr (by omega) (by omega)]
 omega
theorem e0n {t L:List UInt8} {a:Nat} (hl:t.length < 9223372036854775807) (hL:L.length < 4294967281):
  Ev.Pure zO8 J0 144 [.string ⟨⟨t⟩⟩, .int .i64 a, .string ⟨⟨L⟩⟩] (.tuple ⟨[.int .i64 (exV t L a), .int .i64 (exE t L a)]⟩):=by
 have hq:hdL t L (a:Int):=fun _=>hL
 have hp:=m2o (a:=a) hl
 unfold exV exE
 cases hh:hdB t L a with
 | true=>
  simp only [H9]
  exact A2 cQ (d2u t L a) ⟨hh,hq,hp,a6⟩
 | false=>
  simp only [O6,E7]
  have hlt:a < t.length:=by
   unfold hdB at hh
   cases hg:geB t (a:Int) with
   | true=>rw [hg] at hh; cases hh
   | false=>
    have:¬((a:Int)>=(t.length:Int)):=Q8 hg
    omega
  have e1:iI.wrap ((a:Int)+1)=((a+1:Nat):Int):=by rw [wr (by omega) (by omega)]; omega
  cases hs:sgB t ((a+1:Nat):Int) with
  | false=>
   have hK:exK t a=a+1:=by unfold exK; rw [hs]; rfl
   have hN:exN t a=false:=by unfold exN; rw [hs]; rfl
   obtain⟨r1,r2,r3,r4⟩:=mF t (t.length-exK t a) (exK t a) 0 (by omega) (by decide) (by decide)
   have hloop:b9 mV cEx (tEx t a false 0 ((a+1:Nat):Int) ((a+1:Nat):Int)) (.exit 0) (tEx t a false (exR t a).1 ((a+1:Nat):Int) ((exR t a).2:Int)):=by
    have:=h1v (a:=a) (g:=false) (f0:=((a+1:Nat):Int)) hl (t.length-exK t a) (exK t a) 0 (by omega) (by decide) (by decide)
    rw [hK] at this
    unfold exR
    rw [hK]
    exact this
   have hi:=fun ds=>u1w t L a ds (by rw [e1]; exact hloop)
   have hq0:l5 (eQ0 t L a):=by
    unfold eQ0
    rw [e1]
    exact⟨hs,g1l _ _,wX _ _,hh,hq,hp,a6⟩
   rw [hN]
   simp only [O6,E7]
   by_cases he:(exR t a).2=exK t a
   ·rw [f9 he,f9 he]
    rw [hK] at he
    exact A2 cQ (x2o t L a false (exR t a).1 ((a+1:Nat):Int) ((exR t a).2:Int)) ⟨by rw [he]; exact iY _,hi [true],hq0⟩
   ·rw [a7 he,a7 he]
    rw [hK] at he
    exact A2 cQ (u2r t L a false (exR t a).1 ((a+1:Nat):Int) ((exR t a).2:Int)) ⟨rfl,y9 (by omega),hi [false,false],hq0⟩
  | true=>
   have hk:a+1 < t.length:=by
    unfold sgB at hs
    cases hg:ltE t ((a+1:Nat):Int) with
    | false=>rw [hg] at hs; cases hs
    | true=>
     have:((a+1:Nat):Int) < (t.length:Int):=G5 hg
     omega
   have hK:exK t a=a+2:=by unfold exK; rw [hs]; rfl
   have hN:exN t a=(chI t ((a+1:Nat):Int)==45):=by unfold exN; rw [hs]; rfl
   have e2:iI.wrap (((a+1:Nat):Int)+1)=((a+2:Nat):Int):=by rw [wr (by omega) (by omega)]; omega
   obtain⟨r1,r2,r3,r4⟩:=mF t (t.length-exK t a) (exK t a) 0 (by omega) (by decide) (by decide)
   have hloop:b9 mV cEx (tEx t a (exN t a) 0 ((a+2:Nat):Int) ((a+2:Nat):Int)) (.exit 0) (tEx t a (exN t a) (exR t a).1 ((a+2:Nat):Int) ((exR t a).2:Int)):=by
    have:=h1v (a:=a) (g:=exN t a) (f0:=((a+2:Nat):Int)) hl (t.length-exK t a) (exK t a) 0 (by omega) (by decide) (by decide)
    rw [hK] at this
    unfold exR
    rw [hK]
    exact this
   have hi:=fun ds=>s1s t L a ds (by rw [e1,e2,<- hN]; exact hloop)
   have hq1:l5 (eQ1 t L a):=by
    unfold eQ1
    rw [e1]
    exact⟨⟨w7 _,by rw [g9]; exact hk⟩,hs,g1l _ _,wX _ _,hh,hq,hp,a6⟩
   by_cases he:(exR t a).2=exK t a
   ·rw [f9 he,f9 he]
    rw [hK] at he
    exact A2 cQ (z2r t L a (exN t a) (exR t a).1 ((a+2:Nat):Int) ((exR t a).2:Int)) ⟨by rw [he]; exact iY _,hi [true],hq1⟩
   ·rw [a7 he,a7 he]
    rw [hK] at he
    cases hn:exN t a with
    | true=>
     rw [hn] at hi
     have:Ev.Pure zO8 J0 _ _ _:=A2 cQ (z2k t L a true (exR t a).1 ((a+2:Nat):Int) ((exR t a).2:Int)) ⟨rfl,y9 (by omega),hi [false,true],hq1⟩
     rw [show iI.wrap (zO6 0- (exR t a).1)= -(exR t a).1 by
      unfold exR
      rw [show (zO6 0:Int)=0 from rfl,wr (by omega) (by omega)]
      omega] at this
     simpa using this
    | false=>
     rw [hn] at hi
     have:Ev.Pure zO8 J0 _ _ _:=A2 cQ (u2c t L a false (exR t a).1 ((a+2:Nat):Int) ((exR t a).2:Int)) ⟨rfl,y9 (by omega),hi [false,false],hq1⟩
     simpa using this
def b1x:List Value->Option (Value×List Prop)
 | [.string ⟨⟨t⟩⟩, .int .i64 a, .int .i64 b] =>some (.tuple ⟨[.string ⟨⟨maS t a.toNat b⟩⟩, .int .i64 (maB t a.toNat b), .int .i64 (maE t a.toNat b)]⟩,[t.length < 9223372036854775807∧0<=a∧a.toNat<=t.length])
 | _=>none
theorem j1o (args:List Value) (v:Value) (l:List Prop) (h:b1x args=some (v,l)) (hl:l5 l):Ev.Pure zO8 J0 143 args v:=by
 unfold b1x at h
 split at h
 ·rename_i t a b
  cases h
  obtain⟨h1,h2,h3⟩:=hl.1
  obtain⟨q,rfl⟩:=kU h2
  exact f0h h1 h3
 ·cases h
def h1k:List Value->Option (Value×List Prop)
 | [.string ⟨⟨t⟩⟩, .int .i64 a, .string ⟨⟨L⟩⟩] =>some (.tuple ⟨[.int .i64 (exV t L a.toNat), .int .i64 (exE t L a.toNat)]⟩,[t.length < 9223372036854775807∧L.length < 4294967281∧0<=a])
 | _=>none
theorem e1v (args:List Value) (v:Value) (l:List Prop) (h:h1k args=some (v,l)) (hl:l5 l):Ev.Pure zO8 J0 144 args v:=by
 unfold h1k at h
 split at h
 ·rename_i t a L
  cases h
  obtain⟨h1,h2,h3⟩:=hl.1
  obtain⟨q,rfl⟩:=kU h3
  exact e0n h1 h2
 ·cases h
def c1x:Tab:=r6 143 b1x (r6 144 h1k h1r)
theorem j0l:U6 zO8 J0 c1x:=i8 j1o (i8 e1v k0b)
def bNb2:Base:=⟨zO8,J0,false,c1x,I4,2000,L7⟩
theorem wB:BaseOk bNb2:=⟨progOk,j0l,v6 _ _,r5⟩
abbrev j2m:=bNb2.cx 12
abbrev pcV (h:Bool) (s:List UInt8) (e n:Int):Value:= .agg ⟨[.bool h, .string ⟨⟨s⟩⟩, .int .i64 e, .int .i64 n]⟩
def h0B (t:List UInt8):Bool:=match decide ((t.length:Int) > 1) with | true=>chI t 0==48 | false=>false
def hxB (t:List UInt8):Bool:=match h0B t with | true=>(match chI t 1==120 with | true=>true | false=>chI t 1==88) | false=>false
def hP1 (t:List UInt8):Prop:=C9 [(12,chI t 1==120),(8,h0B t),(3,decide ((t.length:Int) > 1))] [(12,false),(8,true)] ->(0:Int)<=1∧(1:Int).toNat < t.length
def hP2 (t:List UInt8):Prop:=C9 [(8,h0B t),(3,decide ((t.length:Int) > 1))] [(8,true)] ->(0:Int)<=1∧(1:Int).toNat < t.length
def hP3 (t:List UInt8):Prop:=C9 [(3,decide ((t.length:Int) > 1))] [(3,true)] ->(0:Int)<=0∧(0:Int).toNat < t.length
def maQ (t:List UInt8) (a:Nat):Prop:=t.length < 9223372036854775807∧zO6 0<=zO6 a∧a<=t.length
def exQ (t:List UInt8) (m:Nat):Prop:=t.length < 9223372036854775807∧2 < 4294967281∧zO6 0<=zO6 m
abbrev pP:List UInt8:=[112,80]
abbrev eE:List UInt8:=[101,69]
section
variable (t:List UInt8)
theorem r2p:b7 j2m [] 200 84 [.string ⟨⟨t⟩⟩] [true,true] =some (pcV true (maS t 2 16) (iI.wrap (exV t pP (maE t 2 16)-iI.wrap (zO6 4*maB t 2 16))) (exE t pP (maE t 2 16)),
 [exQ t (maE t 2 16),(!(maS t 2 16==([] :List UInt8)))=true,maQ t 2,hxB t=true,hP1 t,hP2 t,hP3 t]):=by kernel_rfl
theorem o2t:b7 j2m [] 200 84 [.string ⟨⟨t⟩⟩] [true,false,true] =some (pcV false [] 0 0,
 [(maS t 0 10==([] :List UInt8))=true,maQ t 0,(!(maS t 2 16==([] :List UInt8)))=false,maQ t 2,hxB t=true,hP1 t,hP2 t,hP3 t]):=by kernel_rfl
theorem o2q:b7 j2m [] 200 84 [.string ⟨⟨t⟩⟩] [true,false,false] =some (pcV false (maS t 0 10) (iI.wrap (exV t eE (maE t 0 10)-maB t 0 10)) (exE t eE (maE t 0 10)),
 [exQ t (maE t 0 10),(maS t 0 10==([] :List UInt8))=false,maQ t 0,(!(maS t 2 16==([] :List UInt8)))=false,maQ t 2,hxB t=true,hP1 t,hP2 t,hP3 t]):=by kernel_rfl
theorem z2w:b7 j2m [] 200 84 [.string ⟨⟨t⟩⟩] [false,true] =some (pcV false [] 0 0,
 [(maS t 0 10==([] :List UInt8))=true,maQ t 0,hxB t=false,hP1 t,hP2 t,hP3 t]):=by kernel_rfl
theorem b3b:b7 j2m [] 200 84 [.string ⟨⟨t⟩⟩] [false,false] =some (pcV false (maS t 0 10) (iI.wrap (exV t eE (maE t 0 10)-maB t 0 10)) (exE t eE (maE t 0 10)),
 [exQ t (maE t 0 10),(maS t 0 10==([] :List UInt8))=false,maQ t 0,hxB t=false,hP1 t,hP2 t,hP3 t]):=by kernel_rfl
end
def D2 (t:List UInt8):Bool:=hxB t && !(maS t 2 16==([] :List UInt8))
def y6 (t:List UInt8):List UInt8:=if D2 t=true then maS t 2 16 else maS t 0 10
def R6 (t:List UInt8):Int:=if D2 t=true then exV t pP (maE t 2 16)-4*maB t 2 16 else if maS t 0 10=[] then 0 else exV t eE (maE t 0 10)-maB t 0 10
def S0 (t:List UInt8):Nat:=if D2 t=true then exE t pP (maE t 2 16) else if maS t 0 10=[] then 0 else exE t eE (maE t 0 10)
theorem jS (t L:List UInt8) (a:Nat): -1073741824<=exV t L a∧exV t L a<=1073741824:=by
 unfold exV
 split
 ·omega
 rename_i hh
 split
 ·omega
 have hlt:a < t.length:=by
  have hh:hdB t L a=false:=by simpa using hh
  unfold hdB at hh
  cases hg:geB t (a:Int) with
  | true=>rw [hg] at hh; cases hh
  | false=>
   have:¬((a:Int)>=(t.length:Int)):=Q8 hg
   omega
 have hK:exK t a<=t.length:=by
  unfold exK
  split
  ·rename_i hs
   unfold sgB at hs
   cases hg:ltE t ((a+1:Nat):Int) with
   | false=>rw [hg] at hs; cases hs
   | true=>
    have:((a+1:Nat):Int) < (t.length:Int):=G5 hg
    omega
  ·omega
 obtain⟨_,_,r3,r4⟩:=mF t (t.length-exK t a) (exK t a) 0 (by omega) (by decide) (by decide)
 unfold exR
 split <;> omega
theorem dM {t:List UInt8} {a:Nat} {b:Int} (ha:a<=t.length):0<=maB t a b∧maB t a b<=(t.length:Int):=by
 obtain⟨r1,r2,r3,r4⟩:=g0b (b:=b) ha
 unfold maB
 split
 ·omega
 ·rcases r3 with r3 | r3 <;> omega
theorem q2j (t:List UInt8):hP1 t∧hP2 t∧hP3 t:=by
 have h8:h0B t=true->1 < t.length:=fun h=>by
  unfold h0B at h
  split at h
  ·rename_i hd
   have:=G5 hd
   omega
  ·cases h
 refine⟨fun hc=>⟨by decide,?_⟩,fun hc=>⟨by decide,?_⟩,fun hc=>⟨by decide,?_⟩⟩
 ·exact h8 (by simpa [C9,kvP] using hc.2)
 ·exact h8 (by simpa [C9,kvP] using hc)
 ·have:(t.length:Int) > 1:=by simpa [C9,kvP] using hc
  show 0 < t.length
  omega
theorem o0b {P:Program} {J:Ev.Inv P} {f:FuncId} {args:List Value} {h:Bool} {s:List UInt8} {e e' n:Int} (hp:Ev.Pure P J f args (pcV h s e n)) (he:e=e'):Ev.Pure P J f args (pcV h s e' n):=he ▸ hp
theorem d1l {t:List UInt8} (hl:t.length<=140737488351232):Ev.Pure zO8 J0 84 [.string ⟨⟨t⟩⟩] (pcV (D2 t) (y6 t) (R6 t) (S0 t)):=by
 obtain⟨p1,p2,p3⟩:=q2j t
 have hl':t.length < 9223372036854775807:=by omega
 have q0:maQ t 0:=⟨hl',T8 _,s6 _⟩
 have hx:∀ m,exQ t m:=fun m=>⟨hl',by decide,w7 _⟩
 have dec:∀ (hm:¬maS t 0 10=[]),iI.wrap (exV t eE (maE t 0 10)-maB t 0 10)=exV t eE (maE t 0 10)-maB t 0 10:=fun _=>by
  have a1:=jS t eE (maE t 0 10)
  have a2:=dM (t:=t) (b:=10) (s6 _)
  rw [wr (by omega) (by omega)]
 unfold y6 R6 S0
 cases hh:hxB t with
 | true=>
  have h2:2<=t.length:=by
   unfold hxB h0B at hh
   split at hh
   ·rename_i hd
    split at hd
    ·rename_i hd'
     have:=G5 hd'
     omega
    ·cases hd
   ·cases hh
  have q2:maQ t 2:=⟨hl',by decide,h2⟩
  cases hm:(maS t 2 16==([] :List UInt8)) with
  | false=>
   rw [show D2 t=true by unfold D2; rw [hh,hm]; rfl]
   simp only [H9]
   refine o0b (A2 wB (r2p t) ⟨hx _,by rw [hm]; rfl,q2,hh,p1,p2,p3,a6⟩) ?_
   have a1:=jS t pP (maE t 2 16)
   have a2:=dM (t:=t) (b:=16) h2
   rw [show (zO6 4:Int)=4 from rfl,wr (n:=4*maB t 2 16) (by omega) (by omega),wr (by omega) (by omega)]
  | true=>
   rw [show D2 t=false by unfold D2; rw [hh,hm]; rfl]
   simp only [O6,E7]
   by_cases hs:maS t 0 10=[]
   ·rw [f9 hs,f9 hs,hs]
    exact A2 wB (o2t t) ⟨by rw [hs]; rfl,q0,by rw [hm]; rfl,q2,hh,p1,p2,p3,a6⟩
   ·rw [a7 hs,a7 hs]
    exact o0b (A2 wB (o2q t) ⟨hx _,y9 hs,q0,by rw [hm]; rfl,q2,hh,p1,p2,p3,a6⟩) (dec hs)
 | false=>
  rw [show D2 t=false by unfold D2; rw [hh]; rfl]
  simp only [O6,E7]
  by_cases hs:maS t 0 10=[]
  ·rw [f9 hs,f9 hs,hs]
   exact A2 wB (z2w t) ⟨by rw [hs]; rfl,q0,hh,p1,p2,p3,a6⟩
  ·rw [a7 hs,a7 hs]
   exact o0b (A2 wB (b3b t) ⟨hx _,y9 hs,q0,hh,p1,p2,p3,a6⟩) (dec hs)
def rK:List Value->Option (Value×List Prop)
 | [.string ⟨⟨t⟩⟩] =>some (pcV (D2 t) (y6 t) (R6 t) (S0 t),[t.length<=140737488351232])
 | _=>none
theorem tF (args:List Value) (v:Value) (l:List Prop) (h:rK args=some (v,l)) (hl:l5 l):Ev.Pure zO8 J0 84 args v:=by
 unfold rK at h
 split at h
 ·cases h; exact d1l hl.1
 ·cases h
def s0f:Tab:=r6 84 rK c1x
theorem sY:U6 zO8 J0 s0f:=i8 tF j0l
def bNb3:Base:=⟨zO8,J0,false,s0f,I4,2000,L7⟩
theorem oI:BaseOk bNb3:=⟨progOk,sY,v6 _ _,r5⟩
abbrev i2o:=bNb3.cx 12
def neB (t:List UInt8):Bool:= !(t==([] :List UInt8))
def spB (t:List UInt8):Bool:=match neB t with | true=>(match chI t 0==45 with | true=>true | false=>chI t 0==43) | false=>false
def t2z (t:List UInt8):Prop:=C9 [(6,chI t 0==45),(2,neB t)] [(6,false),(2,true)] ->(0:Int)<=0∧(0:Int).toNat < t.length
def k2a (t:List UInt8):Prop:=C9 [(2,neB t)] [(2,true)] ->(0:Int)<=0∧(0:Int).toNat < t.length
theorem d3u (t:List UInt8):b7 i2o [] 200 86 [.string ⟨⟨t⟩⟩] [true] =some (.tuple ⟨[.bool (chI t 0==45), .string ⟨⟨t.drop 1⟩⟩]⟩,[zO6 0<=zO6 1∧zO6 1<=zO6 t.length,zO6 0<=zO6 0∧0 < t.length,spB t=true,t2z t,k2a t]):=by kernel_rfl
theorem e3x (t:List UInt8):b7 i2o [] 200 86 [.string ⟨⟨t⟩⟩] [false] =some (.tuple ⟨[.bool false, .string ⟨⟨t⟩⟩]⟩,[spB t=false,t2z t,k2a t]):=by kernel_rfl
def Q9 (t:List UInt8):Bool:=spB t && (chI t 0==45)
def o7 (t:List UInt8):List UInt8:=if spB t=true then t.drop 1 else t
theorem jZ {t:List UInt8} (h:neB t=true):0 < t.length:=by
 cases t with
 | nil=>cases h
 | cons c r=>simp
theorem w0e (t:List UInt8):Ev.Pure zO8 J0 86 [.string ⟨⟨t⟩⟩] (.tuple ⟨[.bool (Q9 t), .string ⟨⟨o7 t⟩⟩]⟩):=by
 have p1:t2z t:=fun hc=>⟨by decide,jZ (by simpa [C9,kvP] using hc.2)⟩
 have p2:k2a t:=fun hc=>⟨by decide,jZ (by simpa [C9,kvP] using hc)⟩
 unfold Q9 o7
 cases hs:spB t with
 | true=>
  have h0:0 < t.length:=by
   unfold spB at hs
   cases hn:neB t with
   | true=>exact jZ hn
   | false=>rw [hn] at hs; cases hs
  simp only [H9,cF]
  exact A2 oI (d3u t) ⟨⟨by decide,zzA207.2 h0⟩,⟨T8 _,h0⟩,hs,p1,p2,a6⟩
 | false=>
  simp only [O6,E7,Bool.false_and]
  exact A2 oI (e3x t) ⟨hs,p1,p2,a6⟩
def lD:List Value->Option (Value×List Prop)
 | [.string ⟨⟨t⟩⟩] =>some (.tuple ⟨[.bool (Q9 t), .string ⟨⟨o7 t⟩⟩]⟩,[])
 | _=>none
theorem oY (args:List Value) (v:Value) (l:List Prop) (h:lD args=some (v,l)) (_:l5 l):Ev.Pure zO8 J0 86 args v:=by
 unfold lD at h
 split at h
 ·cases h; exact w0e _
 ·cases h
def d1z:Tab:=r6 86 lD s0f
theorem k0u:U6 zO8 J0 d1z:=i8 oY sY
def bNb4:Base:=⟨zO8,J0,false,d1z,I4,2000,L7⟩
theorem aU:BaseOk bNb4:=⟨progOk,k0u,v6 _ _,r5⟩
abbrev p0c:=bNb4.cx 12
abbrev w1z:List UInt8:=[78,97,78]
abbrev x1n:List UInt8:=[73,110,102]
def rdT (neg:Bool) (p:Value) (o:Nat) (i:Bool) (e:Int):Value:= .tuple ⟨[.bool neg,p, .float .f64 o, .bool i, .int .i64 e]⟩
abbrev pc0:Value:=pcV false [] 0 0
abbrev pcT (t:List UInt8):Value:=pcV (D2 t) (y6 t) (R6 t) (S0 t)
def r1u (t:List UInt8):Bool:=match (S0 t:Int)==0 with | true=>true | false=>(S0 t:Int) !=(t.length:Int)
section
variable (t:List UInt8)
theorem z1j:b7 p0c [] 200 39 [.string ⟨⟨t⟩⟩] [true] =some (rdT false pc0 0 false 2,[decide (zO6 8192 < zO6 t.length)=true]):=by kernel_rfl
theorem p2g:b7 p0c [] 200 39 [.string ⟨⟨t⟩⟩] [false,true] =some (rdT false pc0 9221120237041090560 true 0,[(t==w1z)=true,decide (zO6 8192 < zO6 t.length)=false]):=by kernel_rfl
theorem c2h:b7 p0c [] 200 39 [.string ⟨⟨t⟩⟩] [false,false,true,true] =some (rdT (Q9 t) pc0 18442240474082181120 true 0,[Q9 t=true,(o7 t==x1n)=true,(t==w1z)=false,decide (zO6 8192 < zO6 t.length)=false]):=by kernel_rfl
theorem c2x:b7 p0c [] 200 39 [.string ⟨⟨t⟩⟩] [false,false,true,false] =some (rdT (Q9 t) pc0 9218868437227405312 true 0,[Q9 t=false,(o7 t==x1n)=true,(t==w1z)=false,decide (zO6 8192 < zO6 t.length)=false]):=by kernel_rfl
theorem d2d:b7 p0c [] 200 39 [.string ⟨⟨t⟩⟩] [false,false,false,true] =some (rdT false (pcT (o7 t)) 0 false 3,[r1u (o7 t)=true,(o7 t).length<=140737488351232,(o7 t==x1n)=false,(t==w1z)=false,decide (zO6 8192 < zO6 t.length)=false]):=by kernel_rfl
theorem z2d:b7 p0c [] 200 39 [.string ⟨⟨t⟩⟩] [false,false,false,false] =some (rdT (Q9 t) (pcT (o7 t)) 0 false 0,[r1u (o7 t)=false,(o7 t).length<=140737488351232,(o7 t==x1n)=false,(t==w1z)=false,decide (zO6 8192 < zO6 t.length)=false]):=by kernel_rfl
end
def rdV (t:List UInt8):Value:=
 if 8192 < t.length then rdT false pc0 0 false 2
 else if t=w1z then rdT false pc0 9221120237041090560 true 0
 else if o7 t=x1n then rdT (Q9 t) pc0 (if Q9 t=true then 18442240474082181120 else 9218868437227405312) true 0
 else if r1u (o7 t)=true then rdT false (pcT (o7 t)) 0 false 3
 else rdT (Q9 t) (pcT (o7 t)) 0 false 0
theorem rO (t:List UInt8):Ev.Pure zO8 J0 39 [.string ⟨⟨t⟩⟩] (rdV t):=by
 unfold rdV
 by_cases hl:8192 < t.length
 ·rw [f9 hl]
  exact A2 aU (z1j t) ⟨i6 (zzA208.2 hl),a6⟩
 rw [a7 hl]
 have hd:decide (zO6 8192 < zO6 t.length)=false:=d8 fun h=>hl (zzA208.1 h)
 by_cases hn:t=w1z
 ·rw [f9 hn]
  exact A2 aU (p2g t) ⟨by rw [hn]; exact iY _,hd,a6⟩
 rw [a7 hn]
 have hn':(t==w1z)=false:=y9 hn
 have hr:(o7 t).length<=140737488351232:=by
  unfold o7
  split
  ·rw [C2]; omega
  ·omega
 by_cases hi:o7 t=x1n
 ·rw [f9 hi]
  have hi':(o7 t==x1n)=true:=by rw [hi]; exact iY _
  cases hg:Q9 t with
  | true=>
   have:=A2 aU (c2h t) ⟨hg,hi',hn',hd,a6⟩
   rw [hg] at this
   exact this
  | false=>
   have:=A2 aU (c2x t) ⟨hg,hi',hn',hd,a6⟩
   rw [hg] at this
   exact this
 rw [a7 hi]
 have hi':(o7 t==x1n)=false:=y9 hi
 cases hf:r1u (o7 t) with
 | true=>
  simp only [H9]
  exact A2 aU (d2d t) ⟨hf,hr,hi',hn',hd,a6⟩
 | false=>
  simp only [O6,E7]
  exact A2 aU (z2d t) ⟨hf,hr,hi',hn',hd,a6⟩
def cTl:Code:=z8 zO8 145 0
def cTr:Code:=z8 zO8 138 0
def tTL (t:List UInt8):St:=⟨only 17 [(0, .string ⟨⟨t⟩⟩),(1, .int .u8 48)],J0.tabs,11,[],[],0,none,[],11⟩
def x1l (t:List UInt8):Bool:=decide ((t.length:Int) > 0)
def tlB (t:List UInt8):Bool:=match x1l t with | true=>chI t 0==48 | false=>false
def tlP (t:List UInt8):Prop:=C9 [(3,x1l t)] [(3,true)] ->(0:Int)<=0∧(0:Int).toNat < t.length
section
variable (t s:List UInt8)
theorem v2k (hl:l5 [zO6 0<=zO6 1∧zO6 1<=zO6 t.length,tlB t=true,tlP t]):u4 p0c cTl (tTL t) .normal (tTL (t.drop 1)):=
 stp aU 12 progOk.mixed [true] [] (by kernel_rfl) hl
theorem y1m (hl:l5 [tlB t=false,tlP t]):u4 p0c cTl (tTL t) (.exit 0) (tTL t):=
 stp aU 12 progOk.mixed [false] [] (by kernel_rfl) hl
theorem r2o:b7 p0c [H7 (.exit 0) (fun _=>tTL s)] 200 145 [.string ⟨⟨t⟩⟩, .int .u8 48] [] =some (.string ⟨⟨s⟩⟩,[b9 p0c cTl (x9 p0c 200 145 [.string ⟨⟨t⟩⟩, .int .u8 48] J0.tabs zO8.globals.size []) (.exit 0) (tTL s)]):=by kernel_rfl
theorem b2d {x:AX} {s':St} (h:b9 p0c cTl (tTL t) x s'):b9 p0c cTl (x9 p0c 200 145 [.string ⟨⟨t⟩⟩, .int .u8 48] J0.tabs zO8.globals.size []) x s':=
 l9 h []
end
def b8:List UInt8->List UInt8
 | [] =>[]
 | c ::r=>if c=48 then b8 r else c ::r
theorem c0j (c:UInt8) (r:List UInt8):(chI (c ::r) 0==48)=decide (c=48):=by
 by_cases h:c=48
 ·subst h; rfl
 ·rw [d8 h]
  refine y9 fun e=>h ?_
  have e:(c.toNat:Int)=48:=e
  exact zzA132.1 (show c.toNat=48 by omega)
theorem d1r (t:List UInt8):tlP t:=fun hc=>⟨by decide,by
 have:(t.length:Int) > 0:=by simpa [C9,kvP,x1l] using hc
 show 0 < t.length
 omega⟩
theorem e0m (t:List UInt8):b9 p0c cTl (tTL t) (.exit 0) (tTL (b8 t)):=by
 obtain⟨r,hr⟩:∃ r,b8 t=r:=⟨_,rfl⟩
 rw [hr]
 refine C0 (ι:=List UInt8) tTL List.length (fun s=>b8 s=r) (by intro e; cases e) (fun s hs=> ?_) t hr
 cases s with
 | nil=>
  refine .inr ?_
  have:r=[] :=hs.symm
  rw [this]
  exact y1m [] ⟨rfl,d1r _,a6⟩
 | cons c q=>
  have hp:x1l (c ::q)=true:=i6 (by simp only [A4]; omega)
  have hb:tlB (c ::q)=decide (c=48):=by unfold tlB; rw [hp,c0j]
  unfold b8 at hs
  by_cases h:c=48
  ·rw [f9 h] at hs
   exact .inl ⟨q,hs,by simp,v2k (c ::q) ⟨⟨by decide,zzA207.2 (by simp)⟩,by rw [hb]; exact i6 h,d1r _,a6⟩⟩
  ·rw [a7 h] at hs
   refine .inr ?_
   rw [<- hs]
   exact y1m (c ::q) ⟨by rw [hb]; exact d8 h,d1r _,a6⟩
theorem c0z (t:List UInt8):Ev.Pure zO8 J0 145 [.string ⟨⟨t⟩⟩, .int .u8 48] (.string ⟨⟨b8 t⟩⟩):=
 A2 aU (r2o t (b8 t)) ⟨b2d t (e0m t),a6⟩
def e1m:List Value->Option (Value×List Prop)
 | [.string ⟨⟨t⟩⟩, .int .u8 n] =>some (.string ⟨⟨b8 t⟩⟩,[n=48])
 | _=>none
theorem c1q (args:List Value) (v:Value) (l:List Prop) (h:e1m args=some (v,l)) (hl:l5 l):Ev.Pure zO8 J0 145 args v:=by
 unfold e1m at h
 split at h
 ·cases h
  obtain⟨rfl,_⟩:=hl
  exact c0z _
 ·cases h
def f1x:Tab:=r6 145 e1m d1z
theorem l0m:U6 zO8 J0 f1x:=i8 c1q k0u
def bNb5:Base:=⟨zO8,J0,false,f1x,I4,2000,L7⟩
theorem uE:BaseOk bNb5:=⟨progOk,l0m,v6 _ _,r5⟩
abbrev a1b:=bNb5.cx 12
def tTR (t:List UInt8):St:=⟨only 23 [(0, .string ⟨⟨t⟩⟩),(1, .int .u8 48)],J0.tabs,11,[],[],0,none,[],11⟩
def cV (t:List UInt8):Int:=iI.wrap ((t.length:Int)-1)
def trB (t:List UInt8):Bool:=match x1l t with | true=>chI t (cV t)==48 | false=>false
def trP (t:List UInt8):Prop:=C9 [(3,x1l t)] [(3,true)] ->0<=cV t∧(cV t).toNat < t.length
def noB (t:List UInt8):Bool:=match t==([] :List UInt8) with | true=>true | false=>([48] :List UInt8)==[]
section
variable (t s:List UInt8)
theorem w2x (hl:l5 [zO6 0<=cV t∧cV t<=zO6 t.length,trB t=true,trP t]):u4 a1b cTr (tTR t) .normal (tTR (t.take (cV t).toNat)):=
 stp uE 12 progOk.mixed [true] [] (by kernel_rfl) hl
theorem w1q (hl:l5 [trB t=false,trP t]):u4 a1b cTr (tTR t) (.exit 0) (tTR t):=
 stp uE 12 progOk.mixed [false] [] (by kernel_rfl) hl
theorem o2p:b7 a1b [H7 (.exit 0) (fun _=>tTR s)] 200 138 [.string ⟨⟨t⟩⟩, .int .u8 48] [] =some (.string ⟨⟨s⟩⟩,[b9 a1b cTr (x9 a1b 200 138 [.string ⟨⟨t⟩⟩, .int .u8 48] J0.tabs zO8.globals.size []) (.exit 0) (tTR s)]):=by kernel_rfl
theorem e2p {x:AX} {s':St} (h:b9 a1b cTr (tTR t) x s'):b9 a1b cTr (x9 a1b 200 138 [.string ⟨⟨t⟩⟩, .int .u8 48] J0.tabs zO8.globals.size []) x s':=
 l9 h []
theorem y2t:b7 a1b [] 200 88 [.string ⟨⟨t⟩⟩, .string ⟨⟨[48]⟩⟩] [true] =some (.string ⟨⟨t⟩⟩,[noB t=true]):=by kernel_rfl
theorem y2e:b7 a1b [] 200 88 [.string ⟨⟨t⟩⟩, .string ⟨⟨[48]⟩⟩] [false,true] =some (.string ⟨⟨b8 t⟩⟩,[(48:Int)=48,zO6 0<=zO6 0∧0 < 1,true=true,(C9 [(3,true)] [(3,true)] ->(0:Int)<=0∧(0:Int).toNat < 1),noB t=false]):=by kernel_rfl
end
theorem c1k {t:List UInt8} :noB t=decide (t=[]):=by cases t <;> rfl
theorem i1c (t:List UInt8):Ev.Pure zO8 J0 88 [.string ⟨⟨t⟩⟩, .string ⟨⟨[48]⟩⟩] (.string ⟨⟨b8 t⟩⟩):=by
 by_cases h:t=[]
 ·subst h
  exact A2 uE (y2t []) ⟨rfl,a6⟩
 ·exact A2 uE (y2e t) ⟨rfl,⟨by decide,by decide⟩,rfl,fun _=>⟨by decide,by decide⟩,by rw [c1k,d8 h],a6⟩
def W6 (t:List UInt8):List UInt8:=(b8 t.reverse).reverse
theorem I9:∀ t:List UInt8,(b8 t).length<=t.length
 | [] =>d9 _
 | c ::r=>by
  have:=I9 r
  unfold b8
  split <;> simp only [A4] <;> omega
theorem yY {t:List UInt8} (hl:t.length<=9223372036854775807):b9 a1b cTr (tTR t) (.exit 0) (tTR (W6 t)):=by
 obtain⟨r,hr⟩:∃ r,W6 t=r:=⟨_,rfl⟩
 rw [hr]
 have key:b9 a1b cTr (tTR t.reverse.reverse) (.exit 0) (tTR r):=by
  refine C0 (ι:=List UInt8) (fun s=>tTR s.reverse) List.length (fun s=>s.length<=9223372036854775807∧(b8 s).reverse=r) (by intro e; cases e) (fun s hs=> ?_) t.reverse ⟨by rw [a0m]; exact hl,hr⟩
  obtain⟨h1,h2⟩:=hs
  cases s with
  | nil=>
   refine .inr ?_
   have:r=[] :=h2.symm
   rw [this]
   exact w1q [] ⟨rfl,fun hc=>by simp [C9,kvP,x1l] at hc,a6⟩
  | cons c q=>
   have hn:((c ::q).reverse).length=q.length+1:=by simp
   have hla:cV (c ::q).reverse=(q.length:Int):=by
    unfold cV
    rw [hn,wr (by omega) (by simp only [A4] at h1; omega)]
    omega
   have hp:x1l (c ::q).reverse=true:=i6 (by rw [hn]; omega)
   have hc:chI (c ::q).reverse (q.length:Int)=zO6 c.toNat:=by
    unfold chI
    rw [g9,h0w,List.getD,e0d (by simp)]
    simp
   have hb:trB (c ::q).reverse=decide (c=48):=by
    unfold trB
    rw [hp,hla]
    simp only
    rw [hc]
    exact c0j c []
   have hP:trP (c ::q).reverse:=fun _=>by rw [hla,hn,g9]; omega
   unfold b8 at h2
   by_cases h:c=48
   ·rw [f9 h] at h2
    refine .inl ⟨q,⟨by simp only [A4] at h1; omega,h2⟩,by simp,?_⟩
    have:=w2x (c ::q).reverse ⟨by rw [hla,hn]; exact⟨w7 _,zzA207.2 (by omega)⟩,by rw [hb]; exact i6 h,hP,a6⟩
    rw [hla,g9,h0w,show q.length=q.reverse.length by simp,zT] at this
    rw [h0w]
    exact this
   ·rw [a7 h] at h2
    refine .inr ?_
    rw [<- h2]
    exact w1q (c ::q).reverse ⟨by rw [hb]; exact d8 h,hP,a6⟩
 rw [List.reverse_reverse] at key
 exact key
theorem yN {t:List UInt8} (hl:t.length<=9223372036854775807):Ev.Pure zO8 J0 138 [.string ⟨⟨t⟩⟩, .int .u8 48] (.string ⟨⟨W6 t⟩⟩):=
 A2 uE (o2p t (W6 t)) ⟨e2p t (yY hl),a6⟩
def f1h:List Value->Option (Value×List Prop)
 | [.string ⟨⟨t⟩⟩, .int .u8 n] =>some (.string ⟨⟨W6 t⟩⟩,[n=48∧t.length<=9223372036854775807])
 | _=>none
theorem e1c (args:List Value) (v:Value) (l:List Prop) (h:f1h args=some (v,l)) (hl:l5 l):Ev.Pure zO8 J0 138 args v:=by
 unfold f1h at h
 split at h
 ·cases h
  obtain⟨⟨rfl,h2⟩,_⟩:=hl
  exact yN h2
 ·cases h
def b1n:Tab:=r6 138 f1h f1x
theorem j0q:U6 zO8 J0 b1n:=i8 e1c l0m
def bNb6:Base:=⟨zO8,J0,false,b1n,I4,2000,L7⟩
theorem iG:BaseOk bNb6:=⟨progOk,j0q,v6 _ _,r5⟩
abbrev q0x:=bNb6.cx 12
theorem v2e (t:List UInt8):b7 q0x [] 200 82 [.string ⟨⟨t⟩⟩, .string ⟨⟨[48]⟩⟩] [true] =some (.string ⟨⟨t⟩⟩,[noB t=true]):=by kernel_rfl
theorem a3f (t:List UInt8):b7 q0x [] 200 82 [.string ⟨⟨t⟩⟩, .string ⟨⟨[48]⟩⟩] [false,true] =some (.string ⟨⟨W6 t⟩⟩,[(48:Int)=48∧t.length<=9223372036854775807,zO6 0<=zO6 0∧0 < 1,true=true,(C9 [(3,true)] [(3,true)] ->(0:Int)<=0∧(0:Int).toNat < 1),noB t=false]):=by kernel_rfl
theorem y0v {t:List UInt8} (hl:t.length<=9223372036854775807):Ev.Pure zO8 J0 82 [.string ⟨⟨t⟩⟩, .string ⟨⟨[48]⟩⟩] (.string ⟨⟨W6 t⟩⟩):=by
 by_cases h:t=[]
 ·subst h
  exact A2 iG (v2e []) ⟨rfl,a6⟩
 ·exact A2 iG (a3f t) ⟨⟨rfl,hl⟩,⟨by decide,by decide⟩,rfl,fun _=>⟨by decide,by decide⟩,by rw [c1k,d8 h],a6⟩
def cDn:Code:=z8 zO8 151 0
def tDn (t:List UInt8) (i:Int):St:=⟨only 20 [(0, .string ⟨⟨t⟩⟩),(5, .int .i64 t.length),(6, .int .i64 i)],J0.tabs,11,[],[],0,none,[],11⟩
def tDr:St:=⟨only 20 [(2, .bool false)],J0.tabs,11,[],[],0,none,[],11⟩
def ndB (t:List UInt8) (i:Nat):Bool:=match decide (chI t i < 48) with | true=>true | false=>decide (chI t i > 57)
def ndP (t:List UInt8) (i:Nat):Prop:=C9 [(4,decide (chI t i < 48))] [(4,false)] ->(0:Int)<=i∧(i:Int).toNat < t.length
section
variable (t:List UInt8) (i:Nat)
theorem v2s (hl:l5 [ndB t i=false,ndP t i,zO6 0<=zO6 i∧i < t.length,decide (zO6 i < zO6 t.length)=true]):u4 q0x cDn (tDn t (i:Int)) .normal (tDn t (iI.wrap ((i:Int)+1))):=
 stp iG 12 progOk.mixed [true,false] [] (by kernel_rfl) hl
theorem m2h (hl:l5 [ndB t i=true,ndP t i,zO6 0<=zO6 i∧i < t.length,decide (zO6 i < zO6 t.length)=true]):u4 q0x cDn (tDn t (i:Int)) .ret tDr:=
 stp iG 12 progOk.mixed [true,true] [] (by kernel_rfl) hl
theorem j2f (hl:l5 [decide (zO6 i < zO6 t.length)=false]):u4 q0x cDn (tDn t (i:Int)) (.exit 0) (tDn t (i:Int)):=
 stp iG 12 progOk.mixed [false] [] (by kernel_rfl) hl
theorem j2t:b7 q0x [H7 (.exit 0) (fun _=>tDn t (i:Int))] 200 151 [.string ⟨⟨t⟩⟩] [] =some (.bool true,[b9 q0x cDn (x9 q0x 200 151 [.string ⟨⟨t⟩⟩] J0.tabs zO8.globals.size []) (.exit 0) (tDn t (i:Int))]):=by kernel_rfl
theorem a3z:b7 q0x [H7 .ret (fun _=>tDr)] 200 151 [.string ⟨⟨t⟩⟩] [] =some (.bool false,[b9 q0x cDn (x9 q0x 200 151 [.string ⟨⟨t⟩⟩] J0.tabs zO8.globals.size []) .ret tDr]):=by kernel_rfl
theorem c1c {x:AX} {s':St} (h:b9 q0x cDn (tDn t ((0:Nat):Int)) x s'):b9 q0x cDn (x9 q0x 200 151 [.string ⟨⟨t⟩⟩] J0.tabs zO8.globals.size []) x s':=
 l9 h []
end
theorem s0y (p:Nat->Bool):∀ n,(∀ i,i < n->p i=false)∨∃ k,k < n∧p k=true∧∀ i,i < k->p i=false
 | 0=> .inl fun i hi=>by omega
 | n+1=>by
  rcases s0y p n with h | ⟨k,h1,h2,h3⟩
  ·cases hb:p n with
   | true=>exact .inr ⟨n,by omega,hb,h⟩
   | false=>
    refine .inl fun i hi=> ?_
    rcases Nat.lt_succ_iff_lt_or_eq.1 hi with h' | rfl
    ·exact h i h'
    ·exact hb
  ·exact .inr ⟨k,by omega,h2,h3⟩
def E2 (t:List UInt8):Bool:=(List.range t.length).all fun i=> !ndB t i
theorem q0r {t:List UInt8} (ht:t.length<=9223372036854775807):Ev.Pure zO8 J0 151 [.string ⟨⟨t⟩⟩] (.bool (E2 t)):=by
 have hP:∀ i,i < t.length->ndP t i:=fun i hi _=>⟨w7 _,by rw [g9]; exact hi⟩
 have go:∀ k,k<=t.length->(∀ i,i < k->ndB t i=false)->∀ i,i < k->u4 q0x cDn (tDn t (i:Int)) .normal (tDn t ((i+1:Nat):Int)):=fun k hk h i hi=>by
  have:=v2s t i ⟨h i hi,hP i (by omega),⟨w7 _,by omega⟩,i6 (zzA208.2 (by omega)),a6⟩
  rw [show iI.wrap ((i:Int)+1)=((i+1:Nat):Int) by rw [wr (by omega) (by omega)]; omega] at this
  exact this
 rcases s0y (ndB t) t.length with h | ⟨k,h1,h2,h3⟩
 ·rw [show E2 t=true by
   unfold E2
   rw [zzA41]
   intro i hi
   rw [h i (zzA124.1 hi)]
   rfl]
  exact A2 iG (j2t t t.length) ⟨c1c t (x5 (fun i=>tDn t (i:Int)) t.length (by intro e; cases e) (go _ (d9 _) h) (j2f t _ ⟨d8 (h0l _),a6⟩)),a6⟩
 ·rw [show E2 t=false by
   unfold E2
   rw [List.all_eq_false]
   exact⟨k,zzA124.2 h1,by rw [h2]; simp⟩]
  exact A2 iG (a3z t) ⟨c1c t (x5 (fun i=>tDn t (i:Int)) k (by intro e; cases e) (go _ (by omega) h3) (m2h t k ⟨h2,hP k h1,⟨w7 _,h1⟩,i6 (zzA208.2 h1),a6⟩)),a6⟩
end Go.Proofs.YtkiejangmhhofaaGreatDoor
namespace Go.Proofs
def gL:Go.Shelf.Ren:=⟨fun | 25=>246 | n=>n,fun | 9=>9 | 3=>3 | 4=>4 | 37=>200 | 0=>0 | 47=>283 | 5=>5 | n=>n,fun | n=>n⟩
theorem sR:Go.Proofs.LaysPu.n25 zO8 gL where
 mixed:=by kernel_rfl
 f25:=Tryz.func246.trans (aP some (by kernel_rfl))
 t0:=Tryz.underlying0
 a0:=Tryz.isAgg0
 z0:=Tryz.sizeOf0
 v0:=Tryz.zeroValue0
 i0:=by kernel_rfl
 t3:=Tryz.underlying3
 a3:=Tryz.isAgg3
 z3:=Tryz.sizeOf3
 v3:=Tryz.zeroValue3
 i3:=by kernel_rfl
 t4:=Tryz.underlying4
 a4:=Tryz.isAgg4
 z4:=Tryz.sizeOf4
 v4:=Tryz.zeroValue4
 i4:=by kernel_rfl
 t5:=Tryz.underlying5
 a5:=Tryz.isAgg5
 z5:=Tryz.sizeOf5
 v5:=Tryz.zeroValue5
 i5:=by kernel_rfl
 t9:=Tryz.underlying9
 a9:=Tryz.isAgg9
 z9:=Tryz.sizeOf9
 v9:=Tryz.zeroValue9
 i9:=by kernel_rfl
 t37:=Tryz.underlying200
 a37:=Tryz.isAgg200
 z37:=Tryz.sizeOf200
 v37:=Tryz.zeroValue200
 i37:=by kernel_rfl
 t47:=Tryz.underlying283
 a47:=Tryz.isAgg283
 z47:=Tryz.sizeOf283
 v47:=Tryz.zeroValue283
 i47:=by kernel_rfl
namespace YtkiejangmhhofaaGreatDoor
open Go Go.RowKit Ev
def sZ:List Value->Option (Value×List Prop)
 | [.string ⟨⟨t⟩⟩] =>some (.string ⟨⟨t⟩⟩,[t.length<=281474976710656])
 | _=>none
theorem l0j (args:List Value) (v:Value) (l:List Prop) (h:sZ args=some (v,l)) (hl:l5 l):Ev.Pure zO8 J0 246 args v:=by
 unfold sZ at h
 split at h
 ·rename_i t
  cases h
  refine⟨rfl,rfl, .inl ⟨enters_of Tryz.func246 (by kernel_rfl) (c:=_) rfl,fun w _=> ?_⟩⟩
  exact AnyPu.stringslite_Clone sR ⟨⟨t⟩⟩ w hl.1
 ·cases h
end YtkiejangmhhofaaGreatDoor
end Go.Proofs
namespace Go.Proofs.YtkiejangmhhofaaGreatDoor
open Go Go.RowKit Ev
def u0p:List Value->Option (Value×List Prop)
 | [.string ⟨⟨t⟩⟩, .string ⟨⟨[c]⟩⟩] =>some (.string ⟨⟨b8 t⟩⟩,[c=48])
 | _=>none
theorem h0e (args:List Value) (v:Value) (l:List Prop) (h:u0p args=some (v,l)) (hl:l5 l):Ev.Pure zO8 J0 88 args v:=by
 unfold u0p at h
 split at h
 ·cases h
  obtain⟨rfl,_⟩:=hl
  exact i1c _
 ·cases h
def i1o:List Value->Option (Value×List Prop)
 | [.string ⟨⟨t⟩⟩, .string ⟨⟨[c]⟩⟩] =>some (.string ⟨⟨W6 t⟩⟩,[c=48∧t.length<=9223372036854775807])
 | _=>none
theorem g1n (args:List Value) (v:Value) (l:List Prop) (h:i1o args=some (v,l)) (hl:l5 l):Ev.Pure zO8 J0 82 args v:=by
 unfold i1o at h
 split at h
 ·cases h
  obtain⟨⟨rfl,h2⟩,_⟩:=hl
  exact y0v h2
 ·cases h
def k1m:List Value->Option (Value×List Prop)
 | [.string ⟨⟨t⟩⟩] =>some (.bool (E2 t),[t.length<=9223372036854775807])
 | _=>none
theorem d1s (args:List Value) (v:Value) (l:List Prop) (h:k1m args=some (v,l)) (hl:l5 l):Ev.Pure zO8 J0 151 args v:=by
 unfold k1m at h
 split at h
 ·cases h; exact q0r hl.1
 ·cases h
def j1n:Tab:=r6 246 sZ (r6 88 u0p (r6 82 i1o (r6 151 k1m b1n)))
theorem i0q:U6 zO8 J0 j1n:=i8 l0j (i8 h0e (i8 g1n (i8 d1s j0q)))
def bNb7:Base:=⟨zO8,J0,false,j1n,I4,2000,L7⟩
theorem f0f:BaseOk bNb7:=⟨progOk,i0q,v6 _ _,r5⟩
abbrev t2f:=bNb7.cx 12
def mdS (t:List UInt8):List UInt8:=W6 (b8 t)
def mdW (t:List UInt8):Int:=iI.wrap (((b8 t).length:Int)- ((mdS t).length:Int))
def mdR (t:List UInt8) (x:Int):Bool:=match decide (x > iI.wrap (20000-mdW t)) with | true=>true | false=>decide (x < iI.wrap (-20000-mdW t))
abbrev dcV (g:Bool) (s:List UInt8) (x:Int):Value:= .agg ⟨[.bool g, .string ⟨⟨s⟩⟩, .int .i64 x]⟩
section
variable (g:Bool) (t:List UInt8) (x:Int)
theorem x2b:b7 t2f [] 200 123 [.bool g, .string ⟨⟨t⟩⟩, .int .i64 x] [true] =some (.tuple ⟨[dcV false [] 0, .int .i64 0]⟩,[(b8 t==([] :List UInt8))=true,(48:UInt8)=48]):=by kernel_rfl
theorem c2e:b7 t2f [] 200 123 [.bool g, .string ⟨⟨t⟩⟩, .int .i64 x] [false,true] =some (.tuple ⟨[dcV false [] 0, .int .i64 12]⟩,[decide (zO6 8192 < zO6 (mdS t).length)=true,(48:UInt8)=48∧(b8 t).length<=9223372036854775807,(b8 t==([] :List UInt8))=false,(48:UInt8)=48]):=by kernel_rfl
theorem p1f:b7 t2f [] 200 123 [.bool g, .string ⟨⟨t⟩⟩, .int .i64 x] [false,false,true] =some (.tuple ⟨[dcV false [] 0, .int .i64 11]⟩,[mdR t x=true,decide (zO6 8192 < zO6 (mdS t).length)=false,(48:UInt8)=48∧(b8 t).length<=9223372036854775807,(b8 t==([] :List UInt8))=false,(48:UInt8)=48]):=by kernel_rfl
theorem y2q:b7 t2f [] 200 123 [.bool g, .string ⟨⟨t⟩⟩, .int .i64 x] [false,false,false] =some (.tuple ⟨[dcV g (mdS t) (iI.wrap (x+mdW t)), .int .i64 0]⟩,[(mdS t).length<=281474976710656,mdR t x=false,decide (zO6 8192 < zO6 (mdS t).length)=false,(48:UInt8)=48∧(b8 t).length<=9223372036854775807,(b8 t==([] :List UInt8))=false,(48:UInt8)=48]):=by kernel_rfl
end
def mdB (t:List UInt8):Int:=((b8 t).length:Int)- ((mdS t).length:Int)
def mdE (t:List UInt8) (x:Int):Int:=if b8 t=[] then 0 else if 8192 < (mdS t).length then 12 else if 20000-mdB t < x∨x < -20000-mdB t then 11 else 0
def mdI (t:List UInt8) (x:Int):Bool:=decide (b8 t≠[]) && decide (mdE t x=0)
def mdN (g:Bool) (t:List UInt8) (x:Int):Bool:=if mdI t x=true then g else false
def mdD (t:List UInt8) (x:Int):List UInt8:=if mdI t x=true then mdS t else []
def mdX (t:List UInt8) (x:Int):Int:=if mdI t x=true then x+mdB t else 0
abbrev mdV (g:Bool) (t:List UInt8) (x:Int):Value:= .tuple ⟨[dcV (mdN g t x) (mdD t x) (mdX t x), .int .i64 (mdE t x)]⟩
theorem vT {t:List UInt8} :0<=mdB t∧mdB t<=(t.length:Int)∧(mdS t).length<=t.length:=by
 have h1:=I9 t
 have h2:=I9 (b8 t).reverse
 rw [a0m] at h2
 have h3:(mdS t).length=(b8 (b8 t).reverse).length:=by unfold mdS W6; rw [a0m]
 unfold mdB
 omega
theorem e1e {g:Bool} {t:List UInt8} {x:Int} (h:mdI t x=false) {e:Int} (he:mdE t x=e):mdV g t x= .tuple ⟨[dcV false [] 0, .int .i64 e]⟩:=by
 unfold mdV mdN mdD mdX
 rw [h,he]
 rfl
theorem i1u {g:Bool} {t:List UInt8} {x:Int} (hl:t.length<=140737488351232):Ev.Pure zO8 J0 123 [.bool g, .string ⟨⟨t⟩⟩, .int .i64 x] (mdV g t x):=by
 obtain⟨b0,b1,b2⟩:=vT (t:=t)
 have h1:=I9 t
 by_cases hn:b8 t=[]
 ·have hE:mdE t x=0:=by unfold mdE; rw [f9 hn]
  rw [e1e (by unfold mdI; rw [d8 (by simpa using hn)]; rfl) hE]
  exact A2 f0f (x2b g t x) ⟨by rw [hn]; rfl,rfl,a6⟩
 have hn':(b8 t==([] :List UInt8))=false:=y9 hn
 have q:(48:UInt8)=48∧(b8 t).length<=9223372036854775807:=⟨rfl,by omega⟩
 by_cases hr:8192 < (mdS t).length
 ·have hE:mdE t x=12:=by unfold mdE; rw [a7 hn,f9 hr]
  rw [e1e (by unfold mdI; rw [hE]; simp) hE]
  exact A2 f0f (c2e g t x) ⟨i6 (zzA208.2 hr),q,hn',rfl,a6⟩
 have hr':decide (zO6 8192 < zO6 (mdS t).length)=false:=d8 fun h=>hr (zzA208.1 h)
 have hW:mdW t=mdB t:=by unfold mdW; exact wr (by unfold mdB at b0; omega) (by unfold mdB at b1; omega)
 have hR:mdR t x=decide (20000-mdB t < x∨x < -20000-mdB t):=by
  unfold mdR
  rw [hW,wr (by omega) (by omega),wr (by omega) (by omega)]
  by_cases ha:20000-mdB t < x
  ·rw [i6 (show x > 20000-mdB t from ha),show decide (20000-mdB t < x∨x < -20000-mdB t)=true from i6 (Or.inl ha)]
  ·rw [d8 (show ¬x > 20000-mdB t from ha)]
   by_cases hb:x < -20000-mdB t
   ·simp [hb]
   ·simp [ha,hb]
 by_cases hx:20000-mdB t < x∨x < -20000-mdB t
 ·have hE:mdE t x=11:=by unfold mdE; rw [a7 hn,a7 hr,f9 hx]
  rw [e1e (by unfold mdI; rw [hE]; simp) hE]
  exact A2 f0f (p1f g t x) ⟨by rw [hR]; exact i6 hx,hr',q,hn',rfl,a6⟩
 ·have hE:mdE t x=0:=by unfold mdE; rw [a7 hn,a7 hr,a7 hx]
  have hI:mdI t x=true:=by unfold mdI; rw [hE,i6 (by simpa using hn)]; rfl
  have:=A2 f0f (y2q g t x) ⟨by omega,by rw [hR]; exact d8 hx,hr',q,hn',rfl,a6⟩
  rw [hW,wr (by omega) (by omega)] at this
  unfold mdV mdN mdD mdX
  rw [hI,hE]
  exact this
def r0g:List Value->Option (Value×List Prop)
 | [.bool g, .string ⟨⟨t⟩⟩, .int .i64 x] =>some (mdV g t x,[t.length<=140737488351232])
 | _=>none
theorem z0q (args:List Value) (v:Value) (l:List Prop) (h:r0g args=some (v,l)) (hl:l5 l):Ev.Pure zO8 J0 123 args v:=by
 unfold r0g at h
 split at h
 ·cases h; exact i1u hl.1
 ·cases h
def x1v:Tab:=r6 123 r0g j1n
theorem e1p:U6 zO8 J0 x1v:=i8 z0q i0q
def bNb8:Base:=⟨zO8,J0,false,x1v,I4,2000,L7⟩
theorem g0i:BaseOk bNb8:=⟨progOk,e1p,v6 _ _,r5⟩
abbrev s2q:=bNb8.cx 12
theorem w2k (g:Bool) (t:List UInt8) (x:Int):b7 s2q [] 200 90 [.bool g, .string ⟨⟨t⟩⟩, .int .i64 x] [true] =some (.tuple ⟨[dcV false [] 0, .int .i64 3]⟩,[(!E2 t)=true,t.length<=9223372036854775807]):=by kernel_rfl
theorem a3j (g:Bool) (t:List UInt8) (x:Int):b7 s2q [] 200 90 [.bool g, .string ⟨⟨t⟩⟩, .int .i64 x] [false] =some (mdV g t x,[t.length<=140737488351232,(!E2 t)=false,t.length<=9223372036854775807]):=by kernel_rfl
theorem h1n {g:Bool} {t:List UInt8} {x:Int} (hl:t.length<=140737488351232):Ev.Pure zO8 J0 90 [.bool g, .string ⟨⟨t⟩⟩, .int .i64 x] (if E2 t=true then mdV g t x else .tuple ⟨[dcV false [] 0, .int .i64 3]⟩):=by
 cases h:E2 t with
 | true=>
  simp only [H9]
  exact A2 g0i (a3j g t x) ⟨hl,by rw [h]; rfl,by omega,a6⟩
 | false=>
  simp only [O6,E7]
  exact A2 g0i (w2k g t x) ⟨by rw [h]; rfl,by omega,a6⟩
def v1B (t:List UInt8):Bool:=decide ((t.length:Int)<=8192)
def v2B (t:List UInt8):Bool:=match v1B t with | true=>E2 t | false=>false
def v3B (t:List UInt8):Bool:=match v2B t with | true=>chI t 0 !=48 | false=>false
def vaB (t:List UInt8) (x:Int):Bool:=match match match v3B t with | true=>chI t (cV t) !=48 | false=>false with | true=>decide (x>=-20000) | false=>false with | true=>decide (x<=20000) | false=>false
def d3d (t:List UInt8):Prop:=C9 [(13,v3B t),(7,v2B t),(2,v1B t)] [(13,true)] ->0<=cV t∧(cV t).toNat < t.length
def e3c (t:List UInt8):Prop:=C9 [(7,v2B t),(2,v1B t)] [(7,true)] ->(0:Int)<=0∧(0:Int).toNat < t.length
def c3k (t:List UInt8):Prop:=C9 [(2,v1B t)] [(2,true)] ->t.length<=9223372036854775807
section
variable (g:Bool) (t:List UInt8) (x:Int)
theorem y2m:b7 s2q [] 200 167 [dcV g t x] [true] =some (.bool (g==false && (t==([] :List UInt8) && (x==zO6 0 && true))),[(t==([] :List UInt8))=true]):=by kernel_rfl
theorem x2q:b7 s2q [] 200 167 [dcV g t x] [false] =some (.bool (vaB t x),[d3d t,e3c t,c3k t,(t==([] :List UInt8))=false]):=by kernel_rfl
end
def bU (g:Bool) (t:List UInt8) (x:Int):Bool:=if t=[] then g==false && x==0 else vaB t x
theorem g0u {g:Bool} {t:List UInt8} {x:Int} (hl:t.length<=9223372036854775807):Ev.Pure zO8 J0 167 [dcV g t x] (.bool (bU g t x)):=by
 unfold bU
 by_cases h:t=[]
 ·rw [f9 h]
  subst h
  have:=A2 g0i (y2m g [] x) ⟨rfl,a6⟩
  rw [show (g==false && (([] :List UInt8)==[] && (x==zO6 0 && true)))=(g==false && x==0) by
   rw [show (([] :List UInt8)==[])=true from rfl,cF,zW]; rfl] at this
  exact this
 ·rw [a7 h]
  have hp:0 < t.length:=zzA222.2 h
  have hla:cV t=((t.length-1:Nat):Int):=by unfold cV; rw [wr (by omega) (by omega)]; omega
  exact A2 g0i (x2q g t x) ⟨fun _=>by rw [hla,g9]; omega,fun _=>⟨by decide,hp⟩,fun _=>hl,y9 h,a6⟩
def oN:List Value->Option (Value×List Prop)
 | [.agg ⟨[.bool g, .string ⟨⟨t⟩⟩, .int .i64 x]⟩] =>some (.bool (bU g t x),[t.length<=9223372036854775807])
 | _=>none
theorem d0v (args:List Value) (v:Value) (l:List Prop) (h:oN args=some (v,l)) (hl:l5 l):Ev.Pure zO8 J0 167 args v:=by
 unfold oN at h
 split at h
 ·cases h; exact g0u hl.1
 ·cases h
open Go Go.RowKit Ev Wd VaS
def f1w:List Arg->Option (List Arg×List Prop)
 | [.c (.v (.agg ⟨[.bool n1, .string ⟨⟨d1⟩⟩, .int .i64 e1]⟩)), .c (.v (.agg ⟨[.bool n2, .string ⟨⟨d2⟩⟩, .int .i64 e2]⟩))] =>some ([vlA (n1 !=n2) false (ws W64 (qtN d1 (e1-e2))) false (ws W64 (qtD d2 (e1-e2)))],[Z6 d1∧Z6 d2∧d1.length<=100000∧d2.length<=100000∧(-1000000<=e1-e2∧e1-e2<=1000000)∧(-1000<=(d1.length:Int)-d2.length+(e1-e2)∧(d1.length:Int)-d2.length+(e1-e2)<=1000)])
 | _=>none
theorem f1s:∀ az rs l,f1w az=some (rs,l)->l5 l->Ev.Sem zO8 J0 100 az rs:=by
 intro az rs l h hl
 unfold f1w at h
 split at h
 ·cases h
  obtain⟨⟨h1,h2,h3,h4,h5,h6⟩,_⟩:=hl
  exact h0n _ _ h1 h2 h3 h4 h5 h6
 ·cases h
def b1q:List Arg->Option (List Arg×List Prop)
 | [.a [.v (.bool n), .v (.bool false), .v (.bool false), .s 27 .u64 N, .v (.bool false), .s 27 .u64 D], .c (.v (.int .i64 1))] =>
  some ([xR (nuW n (val W64 N) (val W64 D)),fR (v0g 53 971 (val W64 N) (val W64 D) (B9 53 (-1074) (val W64 N) (val W64 D))) (G9 53 971 (val W64 N) (val W64 D) (B9 53 (-1074) (val W64 N) (val W64 D))) (h0k 53 (val W64 N) (val W64 D) (B9 53 (-1074) (val W64 N) (val W64 D)))],[Cn N∧Cn D∧0 < val W64 D∧bl (val W64 N)<=1000000∧bl (val W64 D)<=1000000])
 | _=>none
theorem k1u:∀ az rs l,b1q az=some (rs,l)->l5 l->Ev.Sem zO8 J0 152 az rs:=by
 intro az rs l h hl
 unfold b1q at h
 split at h
 ·cases h
  rename_i n N D
  obtain⟨⟨c1,c2,hD,h1,h2⟩,_⟩:=hl
  unfold Cn at c1 c2
  have:=x0k n (N:=val W64 N) (D:=val W64 D) hD h1 h2
  rw [<- c1,<- c2] at this
  exact this
 ·cases h
theorem e2b:Ev.Pure zO8 J0 92 [.int .i64 1] (.agg ⟨[.bool false, .string ⟨⟨[49]⟩⟩, .int .i64 0]⟩):=
 i7 k2s 30 [] [] (l:=[]) (by kernel_rfl) trivial
def d1o:Tab:=r6 167 oN (r6 92 (atS [([.int .i64 1], .agg ⟨[.bool false, .string ⟨⟨[49]⟩⟩, .int .i64 0]⟩)]) c2d)
theorem k0d:U6 zO8 J0 d1o:=i8 d0v (i8 (R2 (fun p hp=>by simp only [zzA86,V2,U7] at hp; subst hp; exact e2b)) s0l)
def nJ:iV:=o8 152 (A3 [shM,shV] b1q) (o8 100 (A3 [shV,shV] f1w) n0u)
theorem Z0:iS zO8 J0 nJ:=j0 (m9 _ k1u) (j0 (m9 _ f1s) a0b)
def bRo3:Base:=⟨zO8,J0,false,d1o,nJ,200,L7⟩
theorem i1f:BaseOk bRo3:=⟨progOk,k0d,Z0,r5⟩
abbrev c3c:Cx:=bRo3.cx 10
def tkW (N:Nat):List Int:=zO10 (ws W64 N).length (ws W64 N)
def qv (N:Nat):Nat:=val W64 (tkW N)
theorem d1k (N:Nat):tkW N=ws W64 N:=r8
theorem m2d (N:Nat):qv N=N:=by unfold qv; rw [d1k]; exact B5 N
section
variable (n1 n2:Bool) (d1 d2:List UInt8) (e1 e2:Int) (r:Nat) (a b c:Bool)
theorem m1q:B2 c3c [] 200 91 [dA n1 d1 e1,dA n2 d2 e2,iR 1] [xR r,fR a b c,iR 0] [true,false,true,false,false,false,false,false] =some [(ws W64 (qtN d1 (e1-e2))).length<=(ws W64 (qtN d1 (e1-e2))).length,(ws W64 (qtD d2 (e1-e2))).length<=(ws W64 (qtD d2 (e1-e2))).length,
 Cn (tkW (qtN d1 (e1-e2)))∧Cn (tkW (qtD d2 (e1-e2)))∧0 < (qv (qtD d2 (e1-e2)))∧bl (qv (qtN d1 (e1-e2)))<=1000000∧bl (qv (qtD d2 (e1-e2)))<=1000000,
 Z6 d1∧Z6 d2∧d1.length<=100000∧d2.length<=100000∧(-1000000<=e1-e2∧e1-e2<=1000000)∧(-1000<=(d1.length:Int)-d2.length+(e1-e2)∧(d1.length:Int)-d2.length+(e1-e2)<=1000),
 (d1==[])=false,(d2==[])=false,false=false,false=false,(!bU n2 d2 e2)=false,d2.length<=9223372036854775807,(0:Int)<=1∧(1:Int) < 2,true=true,(!bU n1 d1 e1)=false,d1.length<=9223372036854775807,(0:Int)<=0∧(0:Int) < 2,true=true,
 zO3 .f64 (nuW (n1 !=n2) (qv (qtN d1 (e1-e2))) (qv (qtD d2 (e1-e2))))=zO3 .f64 r,zO9 (v0g 53 971 (qv (qtN d1 (e1-e2))) (qv (qtD d2 (e1-e2))) (B9 53 (-1074) (qv (qtN d1 (e1-e2))) (qv (qtD d2 (e1-e2)))))=zO9 a,zO9 (G9 53 971 (qv (qtN d1 (e1-e2))) (qv (qtD d2 (e1-e2))) (B9 53 (-1074) (qv (qtN d1 (e1-e2))) (qv (qtD d2 (e1-e2)))))=zO9 b,zO9 (h0k 53 (qv (qtN d1 (e1-e2))) (qv (qtD d2 (e1-e2))) (B9 53 (-1074) (qv (qtN d1 (e1-e2))) (qv (qtD d2 (e1-e2)))))=zO9 c,zO2 .i64 0=zO2 .i64 0] :=by kernel_rfl
end
theorem xG {b:UInt8} {r:List UInt8} (hb:48<=b.toNat∧b.toNat<=57) (hr:Z6 r):Z6 (b ::r)∧dgN (b ::r)=(b.toNat-48)*10 ^r.length+dgN r:=by
 have hd:Lib.digitVal b=some (b.toNat-48):=by
  unfold Lib.digitVal
  rw [f9 hb]
 unfold Z6 dgN at*
 simp only [Lib.decFrom,hd]
 rw [L5 r]
 cases h:Lib.decFrom 0 r with
 | none=>rw [h] at hr; cases hr
 | some n=>
  refine⟨rfl,?_⟩
  show (0*10+(b.toNat-48))*10 ^r.length+n=_
  rw [K8,I0]
  rfl
theorem q0m:∀ {t:List UInt8},(∀ i,i < t.length->48<=(t.getD i 0).toNat∧(t.getD i 0).toNat<=57)->Z6 t
 | [],_=>rfl
 | _ ::_,h=>(xG (h 0 (Nat.zero_lt_succ _)) (q0m fun i hi=>h (i+1) (Nat.succ_lt_succ hi))).1
theorem l0n {t:List UInt8} (h:E2 t=true):∀ i,i < t.length->48<=(t.getD i 0).toNat∧(t.getD i 0).toNat<=57:=by
 intro i hi
 unfold E2 at h
 have h1:=zzA41.1 h i (zzA124.2 hi)
 have h2:ndB t i=false:=by simpa using h1
 unfold ndB at h2
 have e:chI t (i:Int)=((t.getD i 0).toNat:Int):=by
  show ((t.getD ((i:Int)).toNat 0).toNat:Int)=_
  rw [g9]
 rw [e] at h2
 generalize (t.getD i 0).toNat=c at*
 by_cases hc:(c:Int) < 48
 ·rw [i6 hc] at h2; cases h2
 ·rw [d8 hc] at h2
  have:=Q8 h2
  omega
theorem aM {g:Bool} {t:List UInt8} {x:Int} (h:bU g t x=true):Z6 t∧t.length<=8192∧-20000<=x∧x<=20000∧(t≠[] ->0 < dgN t):=by
 unfold bU at h
 by_cases h0:t=[]
 ·rw [f9 h0] at h
  subst h0
  have hx:x=0:=by
   cases g
   ·simpa using h
   ·cases h
  exact⟨rfl,by decide,by omega,by omega,fun k=>absurd rfl k⟩
 ·rw [a7 h0] at h
  cases h3:v3B t <;> cases h4:(chI t (cV t) !=48) <;> cases h5:decide (x>=-20000) <;> simp only [vaB,h3,h4,h5] at h <;> try cases h
  have hx2:=G5 h
  have hx1:=G5 h5
  unfold v3B at h3
  cases h2:v2B t
  ·rw [h2] at h3; cases h3
  ·rw [h2] at h3
   unfold v2B at h2
   cases h1:v1B t
   ·rw [h1] at h2; cases h2
   ·rw [h1] at h2
    have hl:=G5 h1
    have ha:=l0n h2
    refine⟨q0m ha,by omega,hx1,hx2,fun _=> ?_⟩
    cases t with
    | nil=>exact absurd rfl h0
    | cons b r=>
     have hb:48<=b.toNat∧b.toNat<=57:=ha 0 (Nat.zero_lt_succ _)
     have hr:Z6 r:=q0m fun i hi=>ha (i+1) (Nat.succ_lt_succ hi)
     rw [(xG hb hr).2]
     have hb0:b.toNat≠48:=by
      intro e
      have e2:chI (b ::r) 0=48:=by
       show ((b.toNat:Nat):Int)=48
       rw [e]; rfl
      rw [e2] at h3
      cases h3
     have hb1:48<=b.toNat:=hb.1
     have h9:1*1<=(b.toNat-48)*10 ^r.length:=sP (by omega) (s7 (by decide))
     omega
theorem t0w {n k:Nat} (h:n < 10 ^k):bl n<=4*k:=by
 refine bl_le.2 (C8 h ?_)
 rw [dB]
 exact xF (by decide) k
theorem z1e {d:List UInt8} {e:Int} (h:Z6 d) (hl:d.length<=8192) (he:e<=40000):bl (qtN d e)<=1000000:=by
 have h1:=u0y h
 unfold qtN
 split
 ·have h2:dgN d*10 ^e.toNat < 10 ^(d.length+e.toNat):=by
   rw [n9]
   exact P4 h1 (s7 (by decide))
  have:=t0w h2
  omega
 ·have:=t0w h1
  omega
theorem x1e {d:List UInt8} {e:Int} (h:Z6 d) (hl:d.length<=8192) (he: -40000<=e):bl (qtD d e)<=1000000:=by
 have h1:=u0y h
 unfold qtD
 split
 ·have:=t0w h1
  omega
 ·have h2:dgN d*10 ^(-e).toNat < 10 ^(d.length+(-e).toNat):=by
   rw [n9]
   exact P4 h1 (s7 (by decide))
  have:=t0w h2
  omega
theorem m1c {d:List UInt8} {e:Int} (h:0 < dgN d):0 < qtD d e:=by
 unfold qtD
 split
 ·exact h
 ·exact F0 h (s7 (by decide))
abbrev raV (n:Bool) (N D:Nat):List Arg:=[xR (nuW n N D),fR (v0g 53 971 N D (B9 53 (-1074) N D)) (G9 53 971 N D (B9 53 (-1074) N D)) (h0k 53 N D (B9 53 (-1074) N D)),iR 0]
theorem e1n {n1 n2:Bool} {d1 d2:List UInt8} {e1 e2:Int} (h1:bU n1 d1 e1=true) (h2:bU n2 d2 e2=true) (k1:d1≠[]) (k2:d2≠[]) (hf: -1000<=(d1.length:Int)-d2.length+(e1-e2)∧(d1.length:Int)-d2.length+(e1-e2)<=1000):
  Ev.Sem zO8 J0 91 [dA n1 d1 e1,dA n2 d2 e2,iR 1] (raV (n1 !=n2) (qtN d1 (e1-e2)) (qtD d2 (e1-e2))):=by
 obtain⟨a1,a2,a3,a4,a5⟩:=aM h1
 obtain⟨b1,b2,b3,b4,b5⟩:=aM h2
 refine l7 i1f 10 _ _ (m1q n1 n2 d1 d2 e1 e2 _ _ _ _) ?_
 rw [m2d,m2d,d1k,d1k,h1,h2]
 exact⟨d9 _,d9 _,⟨Cn.ws _,Cn.ws _,m1c (b5 k2),z1e a1 a2 (by omega),x1e b1 b2 (by omega)⟩,⟨a1,b1,by omega,by omega,⟨by omega,by omega⟩,hf⟩,y9 k1,y9 k2,rfl,rfl,rfl,by omega,⟨by decide,by decide⟩,rfl,rfl,by omega,⟨by decide,by decide⟩,rfl,rfl,rfl,rfl,rfl,rfl,a6⟩
def raW (n:Bool) (d1 d2:List UInt8) (e:Int):Nat:=if d1=[] then 0 else nuW n (qtN d1 e) (qtD d2 e)
def raX (d1 d2:List UInt8) (e:Int):Bool:=if d1=[] then false else v0g 53 971 (qtN d1 e) (qtD d2 e) (B9 53 (-1074) (qtN d1 e) (qtD d2 e))
def raI (d1 d2:List UInt8) (e:Int):Bool:=if d1=[] then false else G9 53 971 (qtN d1 e) (qtD d2 e) (B9 53 (-1074) (qtN d1 e) (qtD d2 e))
def raU (d1 d2:List UInt8) (e:Int):Bool:=if d1=[] then false else h0k 53 (qtN d1 e) (qtD d2 e) (B9 53 (-1074) (qtN d1 e) (qtD d2 e))
def s2s (n1 n2:Bool) (d1 d2:List UInt8) (e1 e2:Int):Prop:=bU n1 d1 e1=true∧bU n2 d2 e2=true∧d2≠[] ∧(d1≠[] ->-1000<=(d1.length:Int)-d2.length+(e1-e2)∧(d1.length:Int)-d2.length+(e1-e2)<=1000)
theorem l1m (n1 n2:Bool) (d2:List UInt8) (e1 e2:Int):B2 c3c [] 200 91 [dA n1 [] e1,dA n2 d2 e2,iR 1] [xR 0,fR false false false,iR 0] [true,false,true,false,false,false,false,true] =some [true=true,(d2==[])=false,false=false,false=false,(!bU n2 d2 e2)=false,d2.length<=9223372036854775807,(0:Int)<=1∧(1:Int) < 2,true=true,(!bU n1 [] e1)=false,0<=9223372036854775807,(0:Int)<=0∧(0:Int) < 2,true=true,zO3 .f64 0=zO3 .f64 0,zO9 false=zO9 false,zO9 false=zO9 false,zO9 false=zO9 false,zO2 .i64 0=zO2 .i64 0] :=by kernel_rfl
theorem f2v {n1 n2:Bool} {d1 d2:List UInt8} {e1 e2:Int} (h:s2s n1 n2 d1 d2 e1 e2):Ev.Sem zO8 J0 91 [dA n1 d1 e1,dA n2 d2 e2,iR 1] [xR (raW (n1 !=n2) d1 d2 (e1-e2)),fR (raX d1 d2 (e1-e2)) (raI d1 d2 (e1-e2)) (raU d1 d2 (e1-e2)),iR 0] :=by
 obtain⟨h1,h2,k2,h3⟩:=h
 unfold raW raX raI raU
 by_cases hd:d1=[]
 ·rw [f9 hd,f9 hd,f9 hd,f9 hd]
  subst hd
  refine l7 i1f 10 _ _ (l1m n1 n2 d2 e1 e2) ?_
  rw [h1,h2]
  obtain⟨b1,b2,b3,b4,b5⟩:=aM h2
  exact⟨rfl,y9 k2,rfl,rfl,rfl,by omega,⟨by decide,by decide⟩,rfl,rfl,by decide,⟨by decide,by decide⟩,rfl,rfl,rfl,rfl,rfl,rfl,a6⟩
 ·rw [a7 hd,a7 hd,a7 hd,a7 hd]
  exact e1n h1 h2 hd k2 (h3 hd)
def f1a:List Arg->Option (List Arg×List Prop)
 | [.c (.v (.agg ⟨[.bool n1, .string ⟨⟨d1⟩⟩, .int .i64 e1]⟩)), .c (.v (.agg ⟨[.bool n2, .string ⟨⟨d2⟩⟩, .int .i64 e2]⟩)), .c (.v (.int .i64 1))] =>some ([xR (raW (n1 !=n2) d1 d2 (e1-e2)),fR (raX d1 d2 (e1-e2)) (raI d1 d2 (e1-e2)) (raU d1 d2 (e1-e2)),iR 0],[s2s n1 n2 d1 d2 e1 e2])
 | _=>none
theorem a1t:∀ az rs l,f1a az=some (rs,l)->l5 l->Ev.Sem zO8 J0 91 az rs:=by
 intro az rs l h hl
 unfold f1a at h
 split at h
 ·cases h
  exact f2v hl.1
 ·cases h
def mP:iV:=o8 91 (A3 [shV,shV,shV] f1a) nJ
theorem Y8:iS zO8 J0 mP:=j0 (m9 _ a1t) Z0
def g1o:List Value->Option (Value×List Prop)
 | [.bool g, .string ⟨⟨t⟩⟩, .int .i64 x] =>some (mdV g t x,[t.length<=140737488351232,E2 t=true])
 | _=>none
theorem f1r (args:List Value) (v:Value) (l:List Prop) (h:g1o args=some (v,l)) (hl:l5 l):Ev.Pure zO8 J0 90 args v:=by
 unfold g1o at h
 split at h
 ·cases h
  obtain⟨h1,h2,_⟩:=hl
  have:=fun g x=>h1n (g:=g) (x:=x) h1
  simp only [f9 h2] at this
  exact this _ _
 ·cases h
def k1x:Tab:=r6 90 g1o (r6 88 u0p d1o)
theorem i0v:U6 zO8 J0 k1x:=i8 f1r (i8 h0e k0d)
def bRo5:Base:=⟨zO8,J0,false,k1x,mP,200,L7⟩
theorem tH:BaseOk bRo5:=⟨progOk,i0v,Y8,r5⟩
abbrev q2w:Cx:=bRo5.cx 10
def neP (d:List UInt8) (e:Int):Int:=iI.wrap (zO6 (b8 d).length+e)
abbrev f2c (hx:Bool) (d:List UInt8) (e n:Int):List Arg:=[.c (.v (pcV hx d e n)),iR 53,iR (-1074), .c (.v (.func (.func 41) ⟨[]⟩ ⟨[]⟩))]
section
variable (hx:Bool) (d:List UInt8) (e n:Int) (r:Nat) (z:Int)
theorem c3e:B2 q2w [] 200 40 (f2c hx d e n) [xR r,iR z] [true] =some [(b8 d==([] :List UInt8))=true,(48:UInt8)=48,zO3 .f64 0=zO3 .f64 r,zO2 .i64 0=zO2 .i64 z] :=by kernel_rfl
theorem d3x:B2 q2w [] 200 40 (f2c hx d e n) [xR r,iR z] [false,false,true] =some [decide (400 < neP d e)=true,hx=false,(b8 d==([] :List UInt8))=false,(48:UInt8)=48,zO3 .f64 9218868437227405312=zO3 .f64 r,zO2 .i64 0=zO2 .i64 z] :=by kernel_rfl
theorem e3g:B2 q2w [] 200 40 (f2c hx d e n) [xR r,iR z] [false,false,false,true] =some [decide (neP d e < Int.negSucc 399)=true,decide (400 < neP d e)=false,hx=false,(b8 d==([] :List UInt8))=false,(48:UInt8)=48,zO3 .f64 0=zO3 .f64 r,zO2 .i64 0=zO2 .i64 z] :=by kernel_rfl
theorem e3s:B2 q2w [] 200 40 (f2c hx d e n) [xR r,iR z] [false,false,false,false,true] =some [(mdE (b8 d) e !=0)=true,(b8 d).length<=140737488351232,E2 (b8 d)=true,decide (neP d e < Int.negSucc 399)=false,decide (400 < neP d e)=false,hx=false,(b8 d==([] :List UInt8))=false,(48:UInt8)=48,zO3 .f64 0=zO3 .f64 r,zO2 .i64 (mdE (b8 d) e)=zO2 .i64 z] :=by kernel_rfl
theorem e3z:B2 q2w [] 200 40 (f2c hx d e n) [xR r,iR z] [false,false,false,false,false] =some [s2s (mdN false (b8 d) e) false (mdD (b8 d) e) [49] (mdX (b8 d) e) 0,(mdE (b8 d) e !=0)=false,(b8 d).length<=140737488351232,E2 (b8 d)=true,decide (neP d e < Int.negSucc 399)=false,decide (400 < neP d e)=false,hx=false,(b8 d==([] :List UInt8))=false,(48:UInt8)=48,zO3 .f64 (raW (mdN false (b8 d) e !=false) (mdD (b8 d) e) [49] (mdX (b8 d) e-0))=zO3 .f64 r,zO2 .i64 0=zO2 .i64 z] :=by kernel_rfl
end
theorem allDB_mem {t:List UInt8} :E2 t=true↔∀ b∈t,48<=b.toNat∧b.toNat<=57:=by
 constructor
 ·intro h b hb
  obtain⟨i,hi,rfl⟩:=List.mem_iff_getElem.1 hb
  have:=l0n h i hi
  rw [bD,z0u hi] at this
  exact this
 ·intro h
  unfold E2
  refine zzA41.2 fun i hi=> ?_
  have hi:=zzA124.1 hi
  have hb:=h _ (h0t hi)
  have e:chI t (i:Int)=((t[i].toNat:Nat):Int):=by
   show ((t.getD ((i:Int)).toNat 0).toNat:Int)=_
   rw [g9,bD,z0u hi]
   rfl
  have:ndB t i=false:=by
   unfold ndB
   rw [e,d8 (by omega)]
   exact d8 (by omega)
  rw [this]
  rfl
theorem G6:∀ {t:List UInt8} {b:UInt8},b∈b8 t->b∈t
 | [],_,h=>h
 | c ::r,b,h=>by
  unfold b8 at h
  split at h
  ·exact gK _ (G6 h)
  ·exact h
theorem K0:∀ {t:List UInt8} {c:UInt8} {r:List UInt8},b8 t=c ::r->c≠48
 | [],_,_,h=>by cases h
 | a ::q,c,r,h=>by
  unfold b8 at h
  split at h
  ·exact K0 h
  ·cases h; assumption
theorem b0o {c:UInt8} (hc:c≠48):∀ (w:List UInt8),∃ w',b8 (w++[c])=w'++[c]
 | [] =>⟨[],by show (if c=48 then b8 [] else [c])=_; rw [a7 hc]; rfl⟩
 | a ::q=>by
  by_cases ha:a=48
  ·obtain⟨w',h⟩:=b0o hc q
   exact⟨w',by show (if a=48 then b8 (q++[c]) else a ::(q++[c]))=_; rw [f9 ha]; exact h⟩
  ·exact⟨a ::q,by show (if a=48 then b8 (q++[c]) else a ::(q++[c]))=_; rw [a7 ha]; rfl⟩
theorem d0j {t:List UInt8} (h:b8 t≠[]):∃ c r,mdS t=c ::r∧c≠48∧∃ a q,mdS t=q++[a] ∧a≠48:=by
 cases hu:b8 t with
 | nil=>exact absurd hu h
 | cons c r=>
  have hc:=K0 hu
  obtain⟨w',hw⟩:=b0o hc r.reverse
  have hS:mdS t=(w'++[c]).reverse:=by
   unfold mdS W6
   rw [hu,h0w,hw]
  refine⟨c,w'.reverse,by rw [hS]; simp,hc,?_⟩
  cases hq:w'++[c] with
  | nil=>simp at hq
  | cons a q=>
   rw [hq] at hw
   refine⟨a,q.reverse,by rw [hS,hq]; simp,K0 hw⟩
theorem o0j {t:List UInt8} {b:UInt8} (h:b∈mdS t):b∈t:=by
 unfold mdS W6 at h
 exact G6 (List.mem_reverse.1 (G6 (List.mem_reverse.1 h)))
theorem k1d {g:Bool} {t:List UInt8} {x:Int} (h:E2 t=true):bU (mdN g t x) (mdD t x) (mdX t x)=true:=by
 unfold mdN mdD mdX
 cases hI:mdI t x with
 | false=>
  rw [a7 (by decide),a7 (by decide),a7 (by decide)]
  rfl
 | true=>
  rw [f9 rfl,f9 rfl,f9 rfl]
  unfold mdI at hI
  rw [A9] at hI
  have hn:b8 t≠[] :=G5 hI.1
  have hE:=G5 hI.2
  unfold mdE at hE
  rw [a7 hn] at hE
  by_cases h1:8192 < (mdS t).length
  ·rw [f9 h1] at hE; cases hE
  rw [a7 h1] at hE
  by_cases h2:20000-mdB t < x∨x < -20000-mdB t
  ·rw [f9 h2] at hE; cases hE
  obtain⟨c,r,e1,hc,a,q,e2,ha⟩:=d0j hn
  unfold bU
  rw [a7 (by rw [e1]; simp)]
  have hc2:(chI (mdS t) 0 !=48)=true:=by
   rw [e1]
   show (((c.toNat:Nat):Int) !=48)=true
   have:c.toNat≠48:=fun h=>hc (zzA132.1 h)
   rw [zzA187]
   omega
  have hl:cV (mdS t)=(q.length:Int):=by
   unfold cV
   rw [e2,G8,qP]
   have:=aP List.length e2
   rw [G8,qP] at this
   rw [wr (by omega) (by omega)]
   omega
  have ha2:(chI (mdS t) (cV (mdS t)) !=48)=true:=by
   rw [hl,e2]
   show ((((q++[a]).getD ((q.length:Int)).toNat 0).toNat:Int) !=48)=true
   rw [g9,bD,e0d (d9 _),L0]
   show (((a.toNat:Nat):Int) !=48)=true
   have:a.toNat≠48:=fun h=>ha (zzA132.1 h)
   rw [zzA187]
   omega
  have hd:E2 (mdS t)=true:=allDB_mem.2 fun b hb=>allDB_mem.1 h b (o0j hb)
  unfold vaB v3B v2B v1B
  rw [i6 (show ((mdS t).length:Int)<=8192 by omega),hc2,ha2,hd,i6 (show x+mdB t>=-20000 by omega)]
  exact i6 (by omega)
def neQ (d:List UInt8) (e:Int):Int:=((b8 d).length:Int)+e
def neW (d:List UInt8) (e:Int):Nat:=if b8 d=[] then 0 else if 400 < neQ d e then 9218868437227405312 else if neQ d e < -400 then 0 else if mdE (b8 d) e≠0 then 0 else raW false (mdD (b8 d) e) [49] (mdX (b8 d) e)
def neE (d:List UInt8) (e:Int):Int:=if b8 d=[] then 0 else if 400 < neQ d e then 0 else if neQ d e < -400 then 0 else mdE (b8 d) e
theorem C5 {d:List UInt8} :b8 (b8 d)=b8 d:=by
 cases h:b8 d with
 | nil=>rfl
 | cons c r=>
  show (if c=48 then b8 r else c ::r)=_
  rw [a7 (K0 h)]
theorem t0r {d:List UInt8} {e:Int} (h1:neQ d e<=400) (h2: -400<=neQ d e) (hne:mdD (b8 d) e≠[]): -1000<=((mdD (b8 d) e).length:Int)- ([49] :List UInt8).length+(mdX (b8 d) e-0)∧((mdD (b8 d) e).length:Int)- ([49] :List UInt8).length+(mdX (b8 d) e-0)<=1000:=by
 unfold mdD mdX at*
 cases hI:mdI (b8 d) e with
 | false=>
  rw [hI,a7 (by decide)] at hne
  exact absurd rfl hne
 | true=>
  rw [f9 rfl,f9 rfl]
  unfold mdB
  rw [C5]
  unfold neQ at*
  rw [qP]
  omega
theorem r1v {d:List UInt8} {e n:Int} (hd:E2 d=true) (hl:d.length<=140737488351232) (he: -1000000000000000000<=e∧e<=1000000000000000000):Ev.Sem zO8 J0 40 (f2c false d e n) [xR (neW d e),iR (neE d e)] :=by
 have hle:=I9 d
 have hP:neP d e=neQ d e:=by
  unfold neP neQ
  exact wr (by show -9223372036854775808<=((b8 d).length:Int)+e; omega) (by show ((b8 d).length:Int)+e<=9223372036854775807; omega)
 have hT:E2 (b8 d)=true:=allDB_mem.2 fun b hb=>allDB_mem.1 hd b (G6 hb)
 unfold neW neE
 by_cases h0:b8 d=[]
 ·rw [f9 h0,f9 h0]
  refine l7 tH 10 _ _ (c3e false d e n _ _) ?_
  rw [h0]
  exact⟨rfl,rfl,rfl,rfl,a6⟩
 have k0:(b8 d==([] :List UInt8))=false:=y9 h0
 rw [a7 h0,a7 h0]
 by_cases h1:400 < neQ d e
 ·rw [f9 h1,f9 h1]
  refine l7 tH 10 _ _ (d3x false d e n _ _) ?_
  rw [hP]
  exact⟨i6 h1,rfl,k0,rfl,rfl,rfl,a6⟩
 have k1:decide (400 < neP d e)=false:=by rw [hP]; exact d8 h1
 rw [a7 h1,a7 h1]
 by_cases h2:neQ d e < -400
 ·rw [f9 h2,f9 h2]
  refine l7 tH 10 _ _ (e3g false d e n _ _) ?_
  exact⟨by rw [hP]; exact i6 h2,k1,rfl,k0,rfl,rfl,rfl,a6⟩
 have k2:decide (neP d e < Int.negSucc 399)=false:=by rw [hP]; exact d8 h2
 rw [a7 h2,a7 h2]
 by_cases h3:mdE (b8 d) e=0
 ·rw [a7 (by rw [h3]; decide)]
  refine l7 tH 10 _ _ (e3z false d e n _ _) ?_
  have hok:s2s (mdN false (b8 d) e) false (mdD (b8 d) e) [49] (mdX (b8 d) e) 0:=⟨k1d hT,by decide,by decide,fun hn=>t0r (by omega) (by omega) hn⟩
  have hN:mdN false (b8 d) e=false:=by
   unfold mdN
   split <;> rfl
  have hR:zO3 .f64 (raW (mdN false (b8 d) e !=false) (mdD (b8 d) e) [49] (mdX (b8 d) e-0))=zO3 .f64 (raW false (mdD (b8 d) e) [49] (mdX (b8 d) e)):=by
   rw [hN,Int.sub_zero]
   rfl
  exact⟨hok,by rw [h3]; rfl,by omega,hT,k2,k1,rfl,k0,rfl,hR,by rw [h3],a6⟩
 ·rw [f9 h3]
  refine l7 tH 10 _ _ (e3s false d e n _ _) ?_
  exact⟨zzA187.2 h3,by omega,hT,k2,k1,rfl,k0,rfl,rfl,rfl,a6⟩
def lS (K:Nat) (L:Int) (N D:Nat) (e:Int):Prop:=L<=e∧flq N D e < 2 ^K∧(e=L∨2 ^(K-1)<=flq N D e)
theorem nK (k:Nat):0 < 2 ^k:=s7 (by decide)
theorem vZ {K:Nat} (hK:0 < K):2 ^K=2*2 ^(K-1):=by
 obtain⟨k,rfl⟩:∃ k,K=k+1:=⟨K-1,by omega⟩
 rw [y8,zQ,t7]
theorem c0s {K:Nat} {N D:Nat} {e:Int} {s:Nat} (hK:0 < K) (h:2 ^(K-1)<=flq N D (e+((s+1:Nat):Int))):2 ^K<=flq N D e:=by
 rw [uS,lV (nK _)] at h
 have:2 ^K<=2 ^(K-1)*2 ^(s+1):=by
  rw [<- n9]
  exact y5 (by decide) (by omega)
 omega
theorem t0u {K:Nat} {L:Int} {N D:Nat} {e e':Int} (hK:0 < K) (h:lS K L N D e) (h':lS K L N D e'):¬e < e':=by
 intro hlt
 obtain⟨s,hs⟩:∃ s:Nat,e'=e+((s+1:Nat):Int):=⟨(e'-e-1).toNat,by omega⟩
 obtain⟨h1,h2,_⟩:=h
 obtain⟨k1,_,k3⟩:=h'
 rcases k3 with k3 | k3
 ·omega
 ·rw [hs] at k3
  have:=c0s hK k3
  omega
theorem t0m {K:Nat} {L:Int} {N D:Nat} {e e':Int} (hK:0 < K) (h:lS K L N D e) (h':lS K L N D e'):e=e':=by
 have h1:=t0u hK h h'
 have h2:=t0u hK h' h
 omega
theorem J9 {K:Nat} {L:Int} {N D:Nat} (hK:0 < K) (hN:0 < N) (hD:0 < D):lS K L N D (B9 K L N D):=by
 refine⟨?_,i1r,?_⟩
 ·unfold B9 X5
  split <;> split <;> omega
 ·rcases J4 (flq N D (B9 K L N D)) (2 ^(K-1)) with h | h
  ·exact .inl (n1u hK hN hD h)
  ·exact .inr h
theorem f1y (N k:Nat) (e:Int):atA (N*k) e=atA N e*k:=by
 unfold atA
 split
 ·rfl
 ·rw [O8]
theorem q0p (D k:Nat) (e:Int):atB (D*k) e=atB D e*k:=by
 unfold atB
 split
 ·rw [O8]
 ·rfl
theorem n1j {N D k:Nat} (hk:0 < k) (e:Int):flq (N*k) (D*k) e=flq N D e:=by
 unfold flq
 rw [f1y,q0p,lH _ _ hk]
theorem j1v {N D k:Nat} (e:Int):flr (N*k) (D*k) e=flr N D e*k:=by
 unfold flr
 rw [f1y,q0p,qI]
theorem r0v (a b:Nat) {k:Nat} (hk:0 < k):cmN (a*k) (b*k)=cmN a b:=by
 unfold cmN
 have h1:a*k < b*k↔a < b:=Nat.mul_lt_mul_right hk
 have h2:a*k=b*k↔a=b:=⟨fun h=>Nat.eq_of_mul_eq_mul_right hk h,fun h=>by rw [h]⟩
 simp only [h1,h2]
theorem g2f {N D k:Nat} (hk:0 < k) (e:Int):flm (N*k) (D*k) e=flm N D e:=by
 have h1:flw (N*k) (D*k) e=flw N D e:=by
  unfold flw
  rw [j1v]
  refine zzA179.2 ⟨fun h=> ?_,fun h=>by rw [h,K8]⟩
  rcases zzA100.1 h with h | h
  ·exact h
  ·omega
 have h2:flh (N*k) (D*k) e=flh N D e:=by
  unfold flh
  rw [j1v,q0p,O8,r0v _ _ hk]
 unfold flm xZ
 rw [h1,h2,n1j hk]
theorem j1x {K:Nat} {L:Int} {N D k:Nat} (hk:0 < k) {e:Int} (h:lS K L N D e):lS K L (N*k) (D*k) e:=by
 unfold lS at*
 rw [n1j hk]
 exact h
def rwd (K:Nat) (L:Int) (N D:Nat):Nat:=if N=0 then 0 else (B9 K L N D-L).toNat*2 ^(K-1)+flm N D (B9 K L N D)
theorem t1v {K:Nat} {L:Int} {D:Nat} :rwd K L 0 D=0:=rfl
theorem fS {K:Nat} {L:Int} {N D:Nat} {e:Int} (hK:0 < K) (hN:0 < N) (hD:0 < D) (h:lS K L N D e):rwd K L N D=(e-L).toNat*2 ^(K-1)+flm N D e:=by
 unfold rwd
 rw [a7 (by omega),t0m hK (J9 hK hN hD) h]
theorem d0q {K:Nat} {L:Int} {N D k:Nat} (hK:0 < K) (hD:0 < D) (hk:0 < k):rwd K L (N*k) (D*k)=rwd K L N D:=by
 rcases Q5 N with h | h
 ·subst h
  rw [K8]
  rfl
 ·rw [fS hK (F0 h hk) (F0 hD hk) (j1x hk (J9 hK h hD)),g2f hk,fS hK h hD (J9 hK h hD)]
theorem j1a {K:Nat} {L:Int} {N D N' D':Nat} (hK:0 < K) (hD:0 < D) (hD':0 < D') (h:N*D'=N'*D):rwd K L N D=rwd K L N' D':=by
 rw [<- d0q hK hD hD',<- d0q (N:=N') hK hD' hD,h,t7 D D']
theorem v0f {N N':Nat} (h:N<=N') (e:Int):atA N e<=atA N' e:=by
 unfold atA
 split
 ·exact h
 ·exact w9 _ h
theorem s0t {N N':Nat} (h:N<=N') (D:Nat) (e:Int):flq N D e<=flq N' D e:=Nat.div_le_div_right (v0f h e)
theorem I7 (N D:Nat) (e:Int):flq N D e<=flm N D e∧flm N D e<=flq N D e+1:=by
 unfold flm
 split <;> omega
theorem s1h {a a' b:Nat} {q:Nat} (h:a<=a') (hu:upB (cmN (a*2) b) q=true):upB (cmN (a'*2) b) q=true:=by
 unfold upB cmN at*
 by_cases h1:a'*2 < b
 ·rw [f9 (show a*2 < b by omega)] at hu
  cases hu
 ·rw [a7 h1]
  by_cases h2:a'*2=b
  ·rw [f9 h2]
   by_cases h3:a*2 < b
   ·rw [f9 h3] at hu
    cases hu
   ·rw [a7 h3,f9 (show a*2=b by omega)] at hu
    exact hu
  ·rw [a7 h2]
   rfl
theorem w1g {N N':Nat} (h:N<=N') (D:Nat) (e:Int):flm N D e<=flm N' D e:=by
 have hq:=s0t h D e
 rcases J4 (flq N D e) (flq N' D e) with h1 | h1
 ·have h2:=I7 N D e
  have h3:=I7 N' D e
  omega
 ·have e1:flq N' D e=flq N D e:=by omega
  have hr:flr N D e<=flr N' D e:=by
   have a1:=bV (atA N e) (atB D e)
   have a2:=bV (atA N' e) (atB D e)
   have a3:=v0f h e
   have e2:atA N' e/atB D e=atA N e/atB D e:=e1
   unfold flr
   rw [e2] at a2
   omega
  have hu:xZ N D e=true->xZ N' D e=true:=by
   intro hu
   unfold xZ at*
   cases hw:flw N D e with
   | true=>rw [hw] at hu; cases hu
   | false=>
    rw [hw] at hu
    have hw2:flw N' D e=false:=by
     unfold flw at*
     have:=Q8 hw
     exact d8 (by omega)
    rw [hw2,e1]
    exact s1h hr hu
  unfold flm
  rw [e1]
  by_cases h2:xZ N D e=true
  ·rw [f9 h2,f9 (hu h2)]
   exact d9 _
  ·rw [a7 h2]
   split <;> omega
theorem v1s {K:Nat} {L:Int} {N N' D:Nat} (hK:0 < K) (hD:0 < D) (h:N<=N'):rwd K L N D<=rwd K L N' D:=by
 rcases Q5 N with hN | hN
 ·subst hN
  exact s6 _
 ·have hN':0 < N':=by omega
  have i1:=J9 (L:=L) hK hN hD
  have i2:=J9 (L:=L) hK hN' hD
  rw [fS hK hN hD i1,fS hK hN' hD i2]
  generalize B9 K L N D=e at*
  generalize B9 K L N' D=e' at*
  obtain⟨a1,a2,a3⟩:=i1
  obtain⟨b1,b2,b3⟩:=i2
  have m1:=I7 N D e
  have m2:=I7 N' D e'
  have hK2:=vZ hK
  rcases Int.lt_trichotomy e e' with hlt | heq | hgt
  ·obtain⟨s,hs⟩:∃ s:Nat,e'=e+((s+1:Nat):Int):=⟨(e'-e-1).toNat,by omega⟩
   have hb:2 ^(K-1)<=flq N' D e':=by
    rcases b3 with b3 | b3
    ·omega
    ·exact b3
   rw [show (e'-L).toNat=(e-L).toNat+1+s by omega,A7,A7]
   omega
  ·subst heq
   have:=w1g h D e
   omega
  ·exfalso
   obtain⟨s,hs⟩:∃ s:Nat,e=e'+((s+1:Nat):Int):=⟨(e-e'-1).toNat,by omega⟩
   have ha:2 ^(K-1)<=flq N D e:=by
    rcases a3 with a3 | a3
    ·omega
    ·exact a3
   have:=x7 ha (s0t h D e)
   rw [hs] at this
   have:=c0s hK this
   omega
theorem x1h {K:Nat} {L:Int} {N D N' D':Nat} (hK:0 < K) (hD:0 < D) (hD':0 < D') (h:N*D'<=N'*D):rwd K L N D<=rwd K L N' D':=by
 rw [<- d0q hK hD hD',<- d0q (N:=N') hK hD' hD,t7 D' D]
 exact v1s hK (F0 hD hD') h
theorem n0x {a b:Nat} (h:2046<=a) (hb:4503599627370496<=b):9218868437227405312<=a*4503599627370496+b:=by omega
theorem w1f {a b:Nat} (h:2045<=a) (hb:9007199254740992<=b):9218868437227405312<=a*4503599627370496+b:=by omega
theorem k1s {a b:Nat} (h:a<=2045) (hb:b < 9007199254740992):a*4503599627370496+b<=9218868437227405312:=by omega
theorem s1r {N D:Nat} (hD:0 < D):iZ N D=min (rwd 53 (-1074) N D) 9218868437227405312:=by
 rcases Q5 N with hN | hN
 ·subst hN
  rw [t1v,xM]
  have hq:∀ e,flq 0 D e=0:=by
   intro e
   unfold flq atA
   split <;> simp
  have hr:∀ e,flr 0 D e=0:=by
   intro e
   unfold flr atA
   split <;> simp
  have hm:∀ e,flm 0 D e=0:=by
   intro e
   unfold flm xZ flw
   rw [hr,hq]
   rfl
  have he:B9 53 (-1074) 0 D<=0:=by
   unfold B9 X5
   rw [hq,a2q]
   split <;> split <;> omega
  unfold iZ G9 m0o k0h
  have k:¬2 ^53<=0:=by decide
  rw [hm]
  simp only [a7 k]
  rw [d8 (by omega),a7 (by decide),f9 trivial]
 ·have i1:=J9 (L:= -1074) (show 0 < 53 by decide) hN hD
  rw [fS (by decide) hN hD i1]
  unfold iZ G9 m0o k0h
  generalize B9 53 (-1074) N D=e at*
  obtain⟨a1,a2,a3⟩:=i1
  have m1:=I7 N D e
  rw [show (2:Nat) ^53=9007199254740992 by decide] at*
  rw [show (2:Nat) ^(53-1)=4503599627370496 by decide] at*
  rw [show (e- -1074).toNat=(e+1074).toNat by omega]
  by_cases hc:9007199254740992<=flm N D e
  ·rw [f9 hc,f9 hc]
   have hm:flm N D e=9007199254740992:=by omega
   by_cases hi:971 < e+1
   ·rw [i6 hi,f9 rfl]
    exact (M2 (w1f (by omega) hc)).symm
   ·rw [d8 hi,a7 (by decide),hm,a7 (by decide)]
    rw [C6 (by omega)]
    omega
  ·rw [a7 hc,a7 hc]
   by_cases hi:971 < e
   ·rw [i6 hi,f9 rfl]
    refine (M2 (n0x (by omega) ?_)).symm
    rcases a3 with a3 | a3 <;> omega
   ·rw [d8 hi,a7 (by decide)]
    by_cases h0:flm N D e=0
    ·rw [f9 h0,h0]
     have:e= -1074:=by rcases a3 with a3 | a3 <;> omega
     rw [this]
     rfl
    ·rw [a7 h0,C6 (k1s (by omega) (by omega))]
theorem r2i {T N D:Nat} (hD:0 < D) (h:D*T<=N):rwd 53 (-1074) T 1<=rwd 53 (-1074) N D:=x1h (by decide) (by decide) hD (by rw [u9,t7]; exact h)
theorem c1i {N D:Nat} (hD:0 < D) (h:D*2 ^1024<=N):9218868437227405312<=rwd 53 (-1074) N D:=by
 have h1:=r2i hD h
 have h2:lS 53 (-1074) (2 ^1024) 1 972:=by
  refine⟨by decide,?_, .inr ?_⟩ <;> decide+kernel
 rw [fS (by decide) (nK _) (by decide) h2] at h1
 have h3:4503599627370496<=flm (2 ^1024) 1 972:=x7 (by decide+kernel) (I7 _ _ _).1
 refine x7 ?_ h1
 have e:((972:Int)- -1074).toNat*2 ^(53-1)=2046*4503599627370496:=by decide+kernel
 rw [e]
 generalize flm (2 ^1024) 1 972=x at*
 exact n0x (d9 _) h3
theorem i0w {N D:Nat} (hD:0 < D) (h:D*2 ^128<=N):2139095040<=rwd 24 (-149) N D:=by
 have h1:rwd 24 (-149) (2 ^128) 1<=rwd 24 (-149) N D:=x1h (by decide) (by decide) hD (by rw [u9,t7]; exact h)
 have h2:lS 24 (-149) (2 ^128) 1 105:=by
  refine⟨by decide,?_, .inr ?_⟩ <;> decide+kernel
 rw [fS (by decide) (nK _) (by decide) h2] at h1
 have h3:8388608<=flm (2 ^128) 1 105:=x7 (by decide+kernel) (I7 _ _ _).1
 refine x7 ?_ h1
 have e:((105:Int)- -149).toNat*2 ^(24-1)=2130706432:=by decide+kernel
 rw [e]
 generalize flm (2 ^128) 1 105=x at*
 omega
theorem wV {K:Nat} {L:Int} {N D:Nat} (hK:0 < K) (hL:L<=0) (h:N*2 ^((-L).toNat+1) < D):rwd K L N D=0:=by
 rcases Q5 N with hN | hN
 ·subst hN; rfl
 have hD:0 < D:=by omega
 have hA:atA N L*2 < atB D L:=by
  unfold atA atB
  by_cases h0:0<=L
  ·have:L=0:=by omega
   subst this
   simpa using h
  ·rw [a7 h0,a7 h0,r7,<- y8]
   exact h
 have hq:flq N D L=0:=mK (by omega)
 have hr:flr N D L=atA N L:=G7 (by omega)
 have hm:flm N D L=0:=by
  unfold flm xZ flh
  rw [hq,hr]
  unfold cmN
  rw [f9 hA]
  have:upB (-1) 0=false:=by decide
  rw [this,Bool.and_false]
  rfl
 rw [fS hK hN hD ⟨T8 _,by rw [hq]; exact nK _, .inl rfl⟩,hm,Int.sub_self]
 simp
def dcF (m:Nat) (c:UInt8):Nat:=10*m+(c.toNat-48)
def dcN (l:List UInt8):Nat:=l.foldl dcF 0
theorem e0c:∀ (l:List UInt8) (m:Nat),l.foldl dcF m=m*10 ^l.length+dcN l
 | [],m=>by simp [dcN]
 | c ::r,m=>by
  unfold dcN
  rw [zC,zC,e0c r,e0c r (dcF 0 c)]
  unfold dcF
  rw [A4,y8,A7,A7,<- r7,t7 m (10 ^r.length),lM,K8,I0,t7 10 m,O8 m 10,t7 m (10 ^r.length),O8 (10 ^r.length) m 10,s1w]
theorem mT (a b:List UInt8):dcN (a++b)=dcN a*10 ^b.length+dcN b:=by
 unfold dcN
 rw [List.foldl_append,e0c b]
 rfl
theorem rR (c:UInt8) (r:List UInt8):dcN (c ::r)=(c.toNat-48)*10 ^r.length+dcN r:=by
 have:=mT [c] r
 rw [kK] at this
 rw [this]
 unfold dcN dcF
 rw [zC,List.foldl_nil,lM,I0]
theorem uK:∀ n:Nat,dcN (zO7 n 48)=0
 | 0=>rfl
 | n+1=>by
  rw [xW,rR,uK n]
  show (48-48)*_+0=0
  rw [L0,K8]
theorem nZ {c:UInt8} {r:List UInt8} (h:E2 (c ::r)=true):(48<=c.toNat∧c.toNat<=57)∧E2 r=true:=
 ⟨allDB_mem.1 h c xH,allDB_mem.2 fun b hb=>allDB_mem.1 h b (gK _ hb)⟩
theorem j1d:∀ {l:List UInt8},E2 l=true->Z6 l∧dgN l=dcN l
 | [],_=>⟨rfl,rfl⟩
 | c ::r,h=>by
  obtain⟨h1,h2⟩:=nZ h
  obtain⟨h3,h4⟩:=j1d h2
  obtain⟨h5,h6⟩:=xG h1 h3
  exact⟨h5,by rw [h6,h4,rR]⟩
theorem xS:∀ l:List UInt8,l=zO7 (l.length- (b8 l).length) 48++b8 l
 | [] =>rfl
 | c ::r=>by
  unfold b8
  by_cases h:c=48
  ·rw [f9 h]
   have h1:=xS r
   have h2:=I9 r
   rw [A4,show r.length+1- (b8 r).length=r.length- (b8 r).length+1 by omega,xW,k0k,<- h1,h]
  ·rw [a7 h,L0]
   rfl
theorem b1h (t:List UInt8):t=W6 t++zO7 (t.length- (W6 t).length) 48:=by
 have h:=aP List.reverse (xS t.reverse)
 rw [List.reverse_reverse,List.reverse_append,List.reverse_replicate,a0m] at h
 unfold W6
 rw [a0m]
 exact h
theorem G4 (l:List UInt8):dcN (b8 l)=dcN l:=by
 have h:=aP dcN (xS l)
 rw [mT,uK,K8,I0] at h
 exact h.symm
theorem h0y (l:List UInt8):dcN l=dcN (W6 l)*10 ^(l.length- (W6 l).length):=by
 have h:=aP dcN (b1h l)
 rw [mT,uK,I1,bH] at h
 exact h
theorem s0d:∀ {l:List UInt8},E2 l=true->dcN l < 10 ^l.length
 | [],_=>by decide
 | c ::r,h=>by
  obtain⟨h1,h2⟩:=nZ h
  have h3:=s0d h2
  rw [rR,A4,y8]
  have:(c.toNat-48)*10 ^r.length<=9*10 ^r.length:=w9 _ (by omega)
  omega
theorem c1r {l:List UInt8} {c:UInt8} {r:List UInt8} (h:E2 l=true) (ht:b8 l=c ::r):10 ^r.length<=dcN l:=by
 rw [<- G4,ht,rR]
 have hc:=K0 ht
 have h1:=allDB_mem.1 h c (G6 (by rw [ht]; exact xH))
 have h2:c.toNat≠48:=fun e=>hc (zzA132.1 e)
 have:1*10 ^r.length<=(c.toNat-48)*10 ^r.length:=w9 _ (by omega)
 omega
def pN (B:Nat) (x:Int):Nat:=if 0<=x then B ^x.toNat else 1
def pD (B:Nat) (x:Int):Nat:=if 0<=x then 1 else B ^(-x).toNat
theorem lN {B:Nat} (hB:0 < B) (x:Int):0 < pD B x:=by
 unfold pD
 split
 ·exact Nat.one_pos
 ·exact s7 hB
theorem l2h {B:Nat} (hB:0 < B) (x:Int):0 < pN B x:=by
 unfold pN
 split
 ·exact s7 hB
 ·exact Nat.one_pos
theorem q1i (B b:Nat) (x:Int):B ^b*pN B x*pD B (x+b)=pN B (x+b)*pD B x:=by
 unfold pN pD
 by_cases h:0<=x
 ·rw [f9 h,f9 h,f9 (show 0<=x+(b:Int) by omega),f9 (show 0<=x+(b:Int) by omega),<- n9,show b+x.toNat=(x+(b:Int)).toNat by omega]
 ·rw [a7 h,a7 h]
  by_cases h2:0<=x+(b:Int)
  ·rw [f9 h2,f9 h2,<- n9,show (x+(b:Int)).toNat+(-x).toNat=b by omega,u9,u9]
  ·rw [a7 h2,a7 h2,u9,P7,<- n9,show b+(-(x+(b:Int))).toNat=(-x).toNat by omega]
def dcW (K:Nat) (L:Int) (n:Nat) (e:Int):Nat:=rwd K L (n*pN 10 e) (pD 10 e)
theorem rU {K:Nat} {L:Int} {e:Int} :dcW K L 0 e=0:=by
 unfold dcW
 rw [K8]
 rfl
theorem l0d {K:Nat} {L:Int} (hK:0 < K) (n b:Nat) (e:Int):dcW K L (n*10 ^b) e=dcW K L n (e+b):=by
 unfold dcW
 refine j1a hK (lN (by decide) _) (lN (by decide) _) ?_
 rw [r7 n,r7 n,q1i,r7]
theorem n0f:2 ^1024<=10 ^400:=by decide+kernel
theorem z1l:2 ^1075 < 10 ^400:=by decide+kernel
theorem q2k {j k n:Nat} {e:Int} (h:10 ^k<=n) (hk:(j:Int)<=(k:Int)+e):10 ^j*pD 10 e<=n*pN 10 e:=by
 refine x7 ?_ (w9 _ h)
 unfold pD pN
 by_cases he:0<=e
 ·rw [f9 he,f9 he,<- n9,u9]
  exact y5 (by decide) (by omega)
 ·rw [a7 he,a7 he,<- n9,u9]
  exact y5 (by decide) (by omega)
theorem g1e {T j k n:Nat} {e:Int} (hT:T<=10 ^j) (h:10 ^k<=n) (hk:(j:Int)<=(k:Int)+e):pD 10 e*T<=n*pN 10 e:=by
 refine x7 ?_ (q2k h hk)
 rw [t7]
 exact w9 _ hT
theorem f2l {n:Nat} {k:Nat} {e:Int} (h:10 ^k<=n) (hk:400<=(k:Int)+e):9218868437227405312<=dcW 53 (-1074) n e:=c1i (lN (by decide) _) (g1e n0f h hk)
theorem w1y {m k:Nat} (h:m<=k):2 ^m<=2 ^k:=y5 (by decide) h
theorem o0g {n a b T:Nat} (h:n < a) (h2:b < T):n*b < a*T:=vK h h2
theorem g2l {n k j:Nat} {b T:Nat} (hT:T=10 ^j) (h:n < 10 ^k) (h8:b < T):n*b < 10 ^(k+j):=by
 rw [n9,<- hT]
 exact o0g h h8
theorem wY {K:Nat} {L:Int} (hK:0 < K) (hL: -1074<=L∧L<=0) {n:Nat} {k:Nat} {e:Int} (h:n < 10 ^k) (hk:(k:Int)+e<=-400):dcW K L n e=0:=by
 refine wV hK hL.2 ?_
 have h8:=D7 (w1y (m:=(-L).toNat+1) (k:=1075) (by omega)) z1l
 unfold pN pD
 rw [a7 (by omega),a7 (by omega),u9]
 have h7:10 ^(k+400)<=10 ^(-e).toNat:=y5 (by decide) (by omega)
 refine C8 ?_ h7
 exact g2l rfl h h8
theorem l0e:dgN [49] =1:=by decide
theorem n2w {d:List UInt8} {e:Int} (hd:E2 d=true) (hl:d.length<=8192):neW d e=min (dcW 53 (-1074) (dcN d) e) 9218868437227405312∧neE d e=0:=by
 have hT:E2 (b8 d)=true:=allDB_mem.2 fun b hb=>allDB_mem.1 hd b (G6 hb)
 have hle:=I9 d
 unfold neW neE
 by_cases h0:b8 d=[]
 ·rw [f9 h0,f9 h0,<- G4,h0]
  refine⟨?_,rfl⟩
  show 0=min (dcW 53 (-1074) 0 e) _
  rw [rU,xM]
 ·rw [a7 h0,a7 h0]
  obtain⟨c,r,hcr⟩:∃ c r,b8 d=c ::r:=by
   cases h:b8 d with
   | nil=>exact absurd h h0
   | cons c r=>exact⟨c,r,rfl⟩
  have hlen:(b8 d).length=r.length+1:=by rw [hcr]; rfl
  have hge:=c1r hd hcr
  have hlt:=s0d hT
  rw [G4] at hlt
  by_cases h1:400 < neQ d e
  ·rw [f9 h1,f9 h1]
   unfold neQ at h1
   exact⟨(M2 (f2l hge (by omega))).symm,rfl⟩
  ·rw [a7 h1,a7 h1]
   by_cases h2:neQ d e < -400
   ·rw [f9 h2,f9 h2]
    unfold neQ at h2
    rw [wY (by decide) ⟨by decide,by decide⟩ hlt (by omega),xM]
    exact⟨rfl,rfl⟩
   ·rw [a7 h2,a7 h2]
    unfold neQ at h1 h2
    have hb:=vT (t:=b8 d)
    have hmE:mdE (b8 d) e=0:=by
     unfold mdE
     rw [C5,a7 h0,a7 (by omega),a7 (by omega)]
    rw [a7 (by rw [hmE]; decide)]
    have hI:mdI (b8 d) e=true:=by
     unfold mdI
     rw [C5,hmE,i6 h0]
     rfl
    have hD:mdD (b8 d) e=mdS (b8 d):=by unfold mdD; rw [f9 hI]
    have hX:mdX (b8 d) e=e+mdB (b8 d):=by unfold mdX; rw [f9 hI]
    have hS:dcN d=dcN (mdS (b8 d))*10 ^(mdB (b8 d)).toNat:=by
     have h3:=h0y (b8 d)
     rw [G4] at h3
     have h4:mdS (b8 d)=W6 (b8 d):=by unfold mdS; rw [C5]
     have h5:(mdB (b8 d)).toNat=(b8 d).length- (W6 (b8 d)).length:=by
      unfold mdB
      rw [C5,h4]
      omega
     rw [h4,h5]
     exact h3
    obtain⟨c2,r2,hc2,_⟩:=d0j (t:=b8 d) (by rw [C5]; exact h0)
    have hSd:E2 (mdS (b8 d))=true:=allDB_mem.2 fun b hb=>allDB_mem.1 hT b (o0j hb)
    obtain⟨_,hg⟩:=j1d hSd
    refine⟨?_,hmE⟩
    rw [hD,hX]
    unfold raW
    rw [a7 (by rw [hc2]; exact List.cons_ne_nil _ _)]
    have q1:qtN (mdS (b8 d)) (e+mdB (b8 d))=dcN (mdS (b8 d))*pN 10 (e+mdB (b8 d)):=by
     unfold qtN pN
     rw [hg]
     split
     ·rfl
     ·rw [u9]
    have q2:qtD [49] (e+mdB (b8 d))=pD 10 (e+mdB (b8 d)):=by
     unfold qtD pD
     rw [l0e]
     split
     ·rfl
     ·rw [P7]
    have q3:nuW false (qtN (mdS (b8 d)) (e+mdB (b8 d))) (qtD [49] (e+mdB (b8 d)))=iZ (qtN (mdS (b8 d)) (e+mdB (b8 d))) (qtD [49] (e+mdB (b8 d))):=rfl
    rw [q3,q1,q2,s1r (lN (by decide) _)]
    have q4:=l0d (K:=53) (L:= -1074) (by decide) (dcN (mdS (b8 d))) (mdB (b8 d)).toNat e
    rw [<- hS,show e+(((mdB (b8 d)).toNat:Nat):Int)=e+mdB (b8 d) by omega] at q4
    rw [q4]
    rfl
theorem a2l {K N D:Nat} {e:Int} (hD:0 < D) (he:(bl N:Int)-bl D-K-3<=e):flq N D e < 2 ^(K+4):=by
 unfold flq
 refine Nat.div_lt_of_lt_mul ?_
 have h1:atA N e < 2 ^(bl N+(-e).toNat):=bl_le.1 (i1n N e)
 have h2:2 ^(bl D-1+e.toNat)<=atB D e:=by
  unfold atB
  split
  ·rw [n9]
   exact w9 _ (b0a hD)
  ·rw [show e.toNat=0 by omega]
   exact b0a hD
 have h3:2 ^(bl N+(-e).toNat)<=2 ^(bl D-1+e.toNat)*2 ^(K+4):=by
  rw [<- n9]
  exact y5 (by decide) (by have:=bl_pos.2 hD; omega)
 exact C8 h1 (x7 h3 (w9 _ h2))
def toB (K:Nat) (L:Int) (N D:Nat) (E:Int):Int:=if L < (bl N:Int)-bl D+E-K-3 then (bl N:Int)-bl D+E-K-3 else L
def toX (K:Nat) (L:Int) (N D:Nat) (E:Int):Int:=B9 K (L-E) N D+E
theorem v0x (K:Nat) (L:Int) (N D:Nat) (E:Int):L<=toB K L N D E∧toB K L N D E<=toX K L N D E∧(bl N:Int)-bl D-K-3<=toB K L N D E-E:=by
 unfold toB toX B9 X5
 split <;> split <;> split <;> omega
theorem mZ {K:Nat} {L:Int} {N D:Nat} {E:Int} (hK:0 < K) (hN:0 < N) (hD:0 < D):lS K (L-E) N D (toX K L N D E-E):=by
 unfold toX
 rw [Int.add_sub_cancel]
 exact J9 hK hN hD
theorem u1s {K:Nat} {L:Int} {N D:Nat} {E e:Int} (hK:0 < K) (hN:0 < N) (hD:0 < D) (h1:L<=e) (h2:e < toX K L N D E):2 ^K<=flq N D (e-E):=by
 obtain⟨_,_,h⟩:=mZ (L:=L) (E:=E) hK hN hD
 rcases h with h | h
 ·omega
 ·obtain⟨s,hs⟩:∃ s:Nat,toX K L N D E-E=(e-E)+((s+1:Nat):Int):=⟨(toX K L N D E-e-1).toNat,by omega⟩
  rw [hs] at h
  exact c0s hK h
def vlW (K:Nat) (L:Int) (N D:Nat) (E:Int):Nat:=(toX K L N D E-L).toNat*2 ^(K-1)+flm N D (toX K L N D E-E)
theorem t1o (N D:Nat) (E e:Int):∃ a b:Nat,0 < a∧0 < b∧atA (N*pN 2 E) e*a=atA N (e-E)*b∧atB (D*pD 2 E) e*a=atB D (e-E)*b:=by
 have two:∀ k:Nat,0 < (2:Nat) ^k:=fun k=>s7 (by decide)
 unfold atA atB pN pD
 by_cases h1:0<=E <;> by_cases h2:0<=e <;> by_cases h3:0<=e-E
 ·refine⟨1,2 ^E.toNat,Nat.one_pos,two _,?_,?_⟩ <;> simp only [f9 h1,f9 h2,f9 h3,u9]
  rw [r7,<- n9,show (e-E).toNat+E.toNat=e.toNat by omega]
 ·refine⟨1,2 ^e.toNat,Nat.one_pos,two _,?_,?_⟩ <;> simp only [f9 h1,f9 h2,a7 h3,u9]
  rw [r7,<- n9,show (-(e-E)).toNat+e.toNat=E.toNat by omega]
 ·omega
 ·refine⟨1,1,Nat.one_pos,Nat.one_pos,?_,?_⟩ <;> simp only [f9 h1,a7 h2,a7 h3,u9]
  rw [r7,<- n9,show E.toNat+(-e).toNat=(-(e-E)).toNat by omega]
 ·refine⟨1,1,Nat.one_pos,Nat.one_pos,?_,?_⟩ <;> simp only [a7 h1,f9 h2,f9 h3,u9]
  rw [r7,<- n9,show (-E).toNat+e.toNat=(e-E).toNat by omega]
 ·omega
 ·refine⟨1,2 ^(-e).toNat,Nat.one_pos,two _,?_,?_⟩ <;> simp only [a7 h1,a7 h2,f9 h3,u9]
  rw [r7,<- n9,show (e-E).toNat+(-e).toNat=(-E).toNat by omega]
 ·refine⟨1,2 ^(-E).toNat,Nat.one_pos,two _,?_,?_⟩ <;> simp only [a7 h1,a7 h2,a7 h3,u9]
  rw [r7,<- n9,show (-(e-E)).toNat+(-E).toNat=(-e).toNat by omega]
theorem n0v {a b c d x y:Nat} (hx:0 < x) (hy:0 < y) (h1:a*x=c*y) (h2:b*x=d*y):a/b=c/d∧cmN (a%b*2) b=cmN (c%d*2) d∧(a%b=0↔c%d=0):=by
 have e1:a/b=c/d:=by rw [<- lH a b hx,h1,h2,lH c d hy]
 have e2:a%b*x=c%d*y:=by rw [<- qI,h1,h2,qI]
 refine⟨e1,?_,?_⟩
 ·rw [<- r0v (a%b*2) b hx,<- r0v (c%d*2) d hy,O8,e2,h2,O8]
 ·constructor
  ·intro h
   rw [h,K8] at e2
   rcases zzA100.1 e2.symm with h | h
   ·exact h
   ·omega
  ·intro h
   rw [h,K8] at e2
   rcases zzA100.1 e2 with h | h
   ·exact h
   ·omega
theorem t0j (N D:Nat) (E e:Int):flq (N*pN 2 E) (D*pD 2 E) e=flq N D (e-E)∧flm (N*pN 2 E) (D*pD 2 E) e=flm N D (e-E):=by
 obtain⟨a,b,ha,hb,h1,h2⟩:=t1o N D E e
 obtain⟨g1,g2,g3⟩:=n0v ha hb h1 h2
 have e1:flq (N*pN 2 E) (D*pD 2 E) e=flq N D (e-E):=g1
 have e2:flh (N*pN 2 E) (D*pD 2 E) e=flh N D (e-E):=g2
 have e3:flw (N*pN 2 E) (D*pD 2 E) e=flw N D (e-E):=zzA179.2 g3
 refine⟨e1,?_⟩
 unfold flm xZ
 rw [e1,e2,e3]
theorem zV {K:Nat} {L:Int} {N D:Nat} {E:Int} (hK:0 < K) (hN:0 < N) (hD:0 < D):vlW K L N D E=rwd K L (N*pN 2 E) (D*pD 2 E):=by
 have h:=mZ (L:=L) (E:=E) hK hN hD
 have k:lS K L (N*pN 2 E) (D*pD 2 E) (toX K L N D E):=by
  obtain⟨h1,h2,h3⟩:=h
  refine⟨by omega,?_,?_⟩ <;> rw [(t0j N D E _).1]
  ·exact h2
  ·rcases h3 with h3 | h3
   ·exact .inl (by omega)
   ·exact .inr h3
 rw [fS hK (F0 hN (l2h (by decide) _)) (F0 hD (lN (by decide) _)) k,(t0j N D E _).2]
 rfl
abbrev vaA (g:Bool) (N D:List Int) (E:Int):Arg:= .a [.v (.bool g), .s mW .u32 N, .s mW .u32 D, .v (.int .i64 E), .v (.bool false)]
abbrev beR (q h:Int) (w:Bool):List Arg:=[.c (.v (.int .u64 q)), .c (.v (.int .i64 h)), .c (.v (.bool w))]
abbrev tkL (l:List Int):List Int:=l.take l.length
abbrev bX (E e:Int):Int:=iI.wrap (E-e)
abbrev iT (E e:Int):Int:=iI.wrap (0-bX E e)
section
variable (g w:Bool) (N D:List Int) (E e q h r:Int)
theorem k2v:B2 q2x [] 200 164 [vaA g N D E] [iR r] [false] =some [false=false,D.length=D.length,CnN D,N.length=N.length,CnN N,zO2 .i64 (iI.wrap (iI.wrap (lnX N-lnX D)+E))=zO2 .i64 r] :=by kernel_rfl
theorem x2h:B2 q2x [] 200 165 [vaA g N D E,iR e] (beR q h w) [false,true,false,false] =some [(lfX (tkL (rmX (tkL (lfX N (bX E e))) D)) 1).length<=(lfX (tkL (rmX (tkL (lfX N (bX E e))) D)) 1).length,D.length=D.length,CnN (tkL (lfX (tkL (rmX (tkL (lfX N (bX E e))) D)) 1)),CnN D,(rmX (tkL (lfX N (bX E e))) D).length<=(rmX (tkL (lfX N (bX E e))) D).length,CnN (tkL (rmX (tkL (lfX N (bX E e))) D)),(0:Int)<=1∧(1:Int) < 10000000,(lfX N (bX E e)).length<=(lfX N (bX E e)).length,D.length=D.length,quK (tkL (lfX N (bX E e))) D,¬LtN (tkL (lfX N (bX E e))) D,false=false,N.length=N.length,CnN N,0<=bX E e∧bX E e < 10000000,decide (0<=bX E e)=true,false=false,zO2 .u64 (qoX (tkL (lfX N (bX E e))) D)=zO2 .u64 q,zO2 .i64 (cpX (tkL (lfX (tkL (rmX (tkL (lfX N (bX E e))) D)) 1)) D)=zO2 .i64 h,zO9 (((rmX (tkL (lfX N (bX E e))) D).length:Int)==0)=zO9 w] :=by kernel_rfl
theorem u2s:B2 q2x [] 200 165 [vaA g N D E,iR e] (beR q h w) [false,true,false,true] =some [(lfX (tkL (lfX N (bX E e))) 1).length<=(lfX (tkL (lfX N (bX E e))) 1).length,D.length=D.length,CnN (tkL (lfX (tkL (lfX N (bX E e))) 1)),CnN D,(lfX N (bX E e)).length<=(lfX N (bX E e)).length,CnN (tkL (lfX N (bX E e))),(0:Int)<=1∧(1:Int) < 10000000,quK (tkL (lfX N (bX E e))) D,LtN (tkL (lfX N (bX E e))) D,(lfX N (bX E e)).length<=(lfX N (bX E e)).length,D.length=D.length,false=false,N.length=N.length,CnN N,0<=bX E e∧bX E e < 10000000,decide (0<=bX E e)=true,false=false,zO2 .u64 0=zO2 .u64 q,zO2 .i64 (cpX (tkL (lfX (tkL (lfX N (bX E e))) 1)) D)=zO2 .i64 h,zO9 (((lfX N (bX E e)).length:Int)==0)=zO9 w] :=by kernel_rfl
theorem x2f:B2 q2x [] 200 165 [vaA g N D E,iR e] (beR q h w) [false,false,false,false] =some [(lfX (tkL (rmX N (tkL (lfX D (iT E e))))) 1).length<=(lfX (tkL (rmX N (tkL (lfX D (iT E e))))) 1).length,(lfX D (iT E e)).length<=(lfX D (iT E e)).length,CnN (tkL (lfX (tkL (rmX N (tkL (lfX D (iT E e))))) 1)),CnN (tkL (lfX D (iT E e))),(rmX N (tkL (lfX D (iT E e)))).length<=(rmX N (tkL (lfX D (iT E e)))).length,CnN (tkL (rmX N (tkL (lfX D (iT E e))))),(0:Int)<=1∧(1:Int) < 10000000,N.length=N.length,(lfX D (iT E e)).length<=(lfX D (iT E e)).length,quK N (tkL (lfX D (iT E e))),¬LtN N (tkL (lfX D (iT E e))),false=false,D.length=D.length,CnN D,0<=iT E e∧iT E e < 10000000,decide (0<=bX E e)=false,false=false,zO2 .u64 (qoX N (tkL (lfX D (iT E e))))=zO2 .u64 q,zO2 .i64 (cpX (tkL (lfX (tkL (rmX N (tkL (lfX D (iT E e))))) 1)) (tkL (lfX D (iT E e))))=zO2 .i64 h,zO9 (((rmX N (tkL (lfX D (iT E e)))).length:Int)==0)=zO9 w] :=by kernel_rfl
theorem y2w:B2 q2x [] 200 165 [vaA g N D E,iR e] (beR q h w) [false,false,false,true] =some [(lfX N 1).length<=(lfX N 1).length,(lfX D (iT E e)).length<=(lfX D (iT E e)).length,CnN (tkL (lfX N 1)),CnN (tkL (lfX D (iT E e))),N.length=N.length,CnN N,(0:Int)<=1∧(1:Int) < 10000000,quK N (tkL (lfX D (iT E e))),LtN N (tkL (lfX D (iT E e))),N.length=N.length,(lfX D (iT E e)).length<=(lfX D (iT E e)).length,false=false,D.length=D.length,CnN D,0<=iT E e∧iT E e < 10000000,decide (0<=bX E e)=false,false=false,zO2 .u64 0=zO2 .u64 q,zO2 .i64 (cpX (tkL (lfX N 1)) (tkL (lfX D (iT E e))))=zO2 .i64 h,zO9 ((N.length:Int)==0)=zO9 w] :=by kernel_rfl
end
theorem l1f (a:Nat) (n:Nat):lfX (ws W32 a) (n:Int)=ws W32 (a*2 ^n):=by unfold lfX; rw [x6 n4,g9]
theorem j2d (a b:Nat):rmX (ws W32 a) (ws W32 b)=ws W32 (a%b):=by unfold rmX; rw [x6 n4,x6 n4]
theorem k2j (a b:Nat):qoX (ws W32 a) (ws W32 b)=((a/b:Nat):Int):=by unfold qoX; rw [x6 n4,x6 n4]
theorem t0q (a b:Nat):cpX (ws W32 a) (ws W32 b)=cmN a b:=by unfold cpX; rw [x6 n4,x6 n4]; rfl
theorem s0p (a b:Nat):LtN (ws W32 a) (ws W32 b)↔a < b:=by unfold LtN; rw [x6 n4,x6 n4]
theorem w1v {a b:Nat} (hb:0 < b) (h1:bl a<=4000000) (h2:bl b<=4000000) (h3:a/b < 18446744073709551616):quK (ws W32 a) (ws W32 b):=by
 unfold quK
 rw [x6 n4,x6 n4]
 exact⟨E9 (by omega),E9 (by omega),hb,h1,h2,h3⟩
theorem u0i (a:Nat):lfX (ws W32 a) 1=ws W32 (a*2):=l1f a 1
theorem c0u (a:Nat):(((ws W32 a).length:Int)==0)=decide (a=0):=by
 by_cases h:a=0
 ·subst h
  rfl
 ·have:(ws W32 a).length≠0:=fun e=>h ((k0p n4).1 e)
  rw [d8 h]
  exact y9 (by omega)
theorem t0t (a:Nat):bl (a*2)<=bl a+1:=by
 have:=vV a 1
 exact this
section
variable {N D:Nat} {E e:Int}
theorem y0i (g:Bool) (hD:0 < D) (hN:bl N<=1000000) (hDb:bl D<=1000000) (hx: -1000000<=e-E∧e-E<=1000000) (h64:flq N D (e-E) < 18446744073709551616):
  Ev.Sem zO8 J0 165 [vaA g (ws W32 N) (ws W32 D) E,iR e] (beR ((flq N D (e-E):Nat):Int) (flh N D (e-E)) (flw N D (e-E))):=by
 have hP:bX E e=E-e:=by have:=y3 (E-e); show iI.wrap (E-e)=_; omega
 have hM:iT E e=e-E:=by
  show iI.wrap (0-bX E e)=_
  rw [hP]
  have:=y3 (0- (E-e))
  omega
 have cN:=E9 (k:=N) (by omega)
 have cD:=E9 (k:=D) (by omega)
 unfold flh flw flr flq atA atB at*
 by_cases hs:0<=E-e
 ·obtain⟨s,hs2⟩:∃ s:Nat,E-e=(s:Int):=⟨(E-e).toNat,by omega⟩
  have eA:(if 0<=e-E then N else N*2 ^(-(e-E)).toNat)=N*2 ^s:=by
   split
   ·rw [show s=0 by omega,G3,u9]
   ·congr 2
    omega
  have eB:(if 0<=e-E then D*2 ^(e-E).toNat else D)=D:=by
   split
   ·rw [show (e-E).toNat=0 by omega,G3,u9]
   ·rfl
  rw [eA,eB] at h64 ⊢
  rw [hs2] at hP
  have bA:bl (N*2 ^s)<=2000000:=x7 (vV N s) (by omega)
  have hk:=w1v hD (show bl (N*2 ^s)<=4000000 by omega) (show bl D<=4000000 by omega) h64
  have c1:=E9 (k:=N*2 ^s) (by omega)
  have bR:bl (N*2 ^s%D)<=2000000:=fB (Nat.mod_le _ _) bA
  have c2:=E9 (k:=N*2 ^s%D) (by omega)
  have c3:=E9 (k:=N*2 ^s%D*2) (x7 (t0t _) (by omega))
  have c4:=E9 (k:=N*2 ^s*2) (x7 (t0t _) (by omega))
  by_cases hlt:N*2 ^s < D
  ·refine l7 wJ 10 _ _ (u2s g _ _ _ E e _ _) ?_
   rw [hP]
   simp only [tkL,r8,l1f,u0i]
   rw [mK hlt,G7 hlt]
   exact⟨d9 _,(by trivial),c4,cD,d9 _,c1,⟨by decide,by decide⟩,hk,(s0p _ _).2 hlt,d9 _,(by trivial),(by trivial),(by trivial),cN,⟨by omega,by omega⟩,i6 (by omega),(by trivial),(by trivial),by rw [t0q],by rw [c0u],a6⟩
  ·refine l7 wJ 10 _ _ (x2h g _ _ _ E e _ _) ?_
   rw [hP]
   simp only [tkL,r8,l1f,u0i,j2d]
   exact⟨d9 _,(by trivial),c3,cD,d9 _,c2,⟨by decide,by decide⟩,d9 _,(by trivial),hk,fun k=>hlt ((s0p _ _).1 k),(by trivial),(by trivial),cN,⟨by omega,by omega⟩,i6 (by omega),(by trivial),by rw [k2j],by rw [t0q],by rw [c0u],a6⟩
 ·obtain⟨s,hs2⟩:∃ s:Nat,e-E=(s:Int):=⟨(e-E).toNat,by omega⟩
  rw [hs2] at h64 hM ⊢
  rw [f9 (w7 s),f9 (w7 s),g9] at h64 ⊢
  have bB:bl (D*2 ^s)<=2000000:=x7 (vV D s) (by omega)
  have hB:0 < D*2 ^s:=F0 hD (s7 (by decide))
  have hk:=w1v hB (show bl N<=4000000 by omega) (show bl (D*2 ^s)<=4000000 by omega) h64
  have c1:=E9 (k:=D*2 ^s) (by omega)
  have bR:bl (N%(D*2 ^s))<=1000000:=fB (Nat.mod_le _ _) hN
  have c2:=E9 (k:=N%(D*2 ^s)) (by omega)
  have c3:=E9 (k:=N%(D*2 ^s)*2) (x7 (t0t _) (by omega))
  have c4:=E9 (k:=N*2) (x7 (t0t _) (by omega))
  by_cases hlt:N < D*2 ^s
  ·refine l7 wJ 10 _ _ (y2w g _ _ _ E e _ _) ?_
   rw [hM,hP]
   simp only [tkL,r8,l1f,u0i]
   rw [mK hlt,G7 hlt]
   exact⟨d9 _,d9 _,c4,c1,(by trivial),cN,⟨by decide,by decide⟩,hk,(s0p _ _).2 hlt,(by trivial),d9 _,(by trivial),(by trivial),cD,⟨by omega,by omega⟩,d8 (by omega),(by trivial),(by trivial),by rw [t0q],by rw [c0u],a6⟩
  ·refine l7 wJ 10 _ _ (x2f g _ _ _ E e _ _) ?_
   rw [hM,hP]
   simp only [tkL,r8,l1f,u0i,j2d]
   exact⟨d9 _,d9 _,c3,c1,d9 _,c2,⟨by decide,by decide⟩,(by trivial),d9 _,hk,fun k=>hlt ((s0p _ _).1 k),(by trivial),(by trivial),cD,⟨by omega,by omega⟩,d8 (by omega),(by trivial),by rw [k2j],by rw [t0q],by rw [c0u],a6⟩
theorem u1j (g:Bool) (hN:bl N<=1000000) (hDb:bl D<=1000000) (hE: -9000000000000000<=E∧E<=9000000000000000):
  Ev.Sem zO8 J0 164 [vaA g (ws W32 N) (ws W32 D) E] [iR ((bl N:Int)-bl D+E)] :=by
 refine l7 wJ 10 _ _ (k2v g _ _ E _) ⟨rfl,rfl,E9 (by omega),rfl,E9 (by omega),?_,a6⟩
 unfold lnX
 rw [x6 n4,x6 n4]
 have h1:=y3 ((bl N:Int)-bl D)
 have h2:iI.wrap ((bl N:Int)-bl D)=(bl N:Int)-bl D:=by omega
 rw [h2]
 have h3:=y3 ((bl N:Int)-bl D+E)
 have h4:iI.wrap ((bl N:Int)-bl D+E)=(bl N:Int)-bl D+E:=by omega
 rw [h4]
end
abbrev t2x:AS:= .a [.v, .s mW .u32, .s mW .u32, .v, .v]
def beQ (N D:List Int) (x:Int):Int:=((flq (val W32 N) (val W32 D) x:Nat):Int)
def beH (N D:List Int) (x:Int):Int:=flh (val W32 N) (val W32 D) x
def beW (N D:List Int) (x:Int):Bool:=flw (val W32 N) (val W32 D) x
def beK (N D:List Int) (x:Int):Prop:=CnN N∧CnN D∧0 < val W32 D∧bl (val W32 N)<=1000000∧bl (val W32 D)<=1000000∧(-1000000<=x∧x<=1000000)∧flq (val W32 N) (val W32 D) x < 18446744073709551616
def szX (N D:List Int) (E:Int):Int:=(bl (val W32 N):Int)-bl (val W32 D)+E
def szK (N D:List Int) (E:Int):Prop:=CnN N∧CnN D∧bl (val W32 N)<=1000000∧bl (val W32 D)<=1000000∧(-9000000000000000<=E∧E<=9000000000000000)
def h1c:List Arg->Option (List Arg×List Prop)
 | [.a [.v (.bool _), .s 33 .u32 N, .s 33 .u32 D, .v (.int .i64 E), .v (.bool false)], .c (.v (.int .i64 e))] =>some (beR (beQ N D (e-E)) (beH N D (e-E)) (beW N D (e-E)),[beK N D (e-E)])
 | _=>none
def j1c:List Arg->Option (List Arg×List Prop)
 | [.a [.v (.bool _), .s 33 .u32 N, .s 33 .u32 D, .v (.int .i64 E), .v (.bool false)]] =>some ([.c (.v (.int .i64 (szX N D E)))],[szK N D E])
 | _=>none
theorem j1j:∀ az rs l,h1c az=some (rs,l)->l5 l->Ev.Sem zO8 J0 165 az rs:=by
 intro az rs l h hl
 unfold h1c at h
 split at h
 ·rename_i g N D E e
  cases h
  obtain⟨⟨h1,h2,h3,h4,h5,h6,h7⟩,_⟩:=hl
  have:=y0i g h3 h4 h5 h6 h7
  rw [<- h1.1,<- h2.1] at this
  exact this
 ·cases h
theorem l1q:∀ az rs l,j1c az=some (rs,l)->l5 l->Ev.Sem zO8 J0 164 az rs:=by
 intro az rs l h hl
 unfold j1c at h
 split at h
 ·rename_i g N D E
  cases h
  obtain⟨⟨h1,h2,h3,h4,h5⟩,_⟩:=hl
  have:=u1j (E:=E) g h3 h4 h5
  rw [<- h1.1,<- h2.1] at this
  exact this
 ·cases h
def o0l:iV:=o8 165 (A3 [t2x,shV] h1c) (o8 164 (A3 [t2x] j1c) m0x)
theorem b0h:iS zO8 J0 o0l:=j0 (m9 _ j1j) (j0 (m9 _ l1q) a0j)
def bRn5:Base:=⟨zO8,J0,false,rH,o0l,200,L7⟩
theorem X3:BaseOk bRn5:=⟨progOk,M6,b0h,r5⟩
abbrev sD:=bRn5.cx 10
abbrev kdA (K L T:Int):Arg:= .a [.v (.int .i64 K), .v (.int .i64 L), .v (.int .i64 T)]
abbrev q0t (g:Bool) (N D:List Int) (E K L T:Int):List Arg:=[vaA g N D E,kdA K L T,iR 1]
abbrev toR (g i:Bool) (M E:Int) (x o u:Bool):List Arg:=[.a [.v (.bool g), .v (.bool i), .v (.int .u64 M), .v (.int .i64 E)], .a [.v (.bool x), .v (.bool o), .v (.bool u)]]
abbrev toZ (g i:Bool) (M E:Int) (x o u:Bool):List Prop:=[zO9 g=zO9 g,zO9 i=zO9 i,zO2 .u64 M=zO2 .u64 M,zO2 .i64 E=zO2 .i64 E,zO9 x=zO9 x,zO9 o=zO9 o,zO9 u=zO9 u]
def a1e:Code:=z8 zO8 97 0
def tTo (H:Heap) (id:Nat) (e q h:Int) (w:Bool):St:=⟨only 163 [(2, .int .i64 1),(3, .pointer (some ⟨15,0,none⟩)),(4, .pointer (some ⟨16,0,none⟩)),(6, .pointer (some ⟨17,0,none⟩)),(7, .pointer (some ⟨18,0,none⟩)),(8, .int .i64 e),(9, .int .u64 q),(10, .int .i64 h),(11, .bool w)],H,id,[],[],0,none,[],15⟩
def c3d (g:Bool) (N D:List Int) (E K L T:Int):Heap:=[(18, .cells [.bool false, .bool false, .bool false] 77),(17, .cells [.bool false, .bool false, .int .u64 0, .int .i64 0] 84),(16, .cells [.int .i64 K, .int .i64 L, .int .i64 T] 88),
 (15, .cells [.bool g, .slice (some ⟨11,0,some 12⟩) N.length 0, .slice (some ⟨13,0,some 14⟩) D.length 0, .int .i64 E, .bool false] 146),(11, .ints .u32 N),(13, .ints .u32 D)]
def i2n (g:Bool) (N D X:List Int) (e K L T:Int):Heap:=[(21, .row mW 1 (.ints .u32 (mY 1)) 22),(19, .row mW 1 (.ints .u32 X) 20),(18, .cells [.bool false, .bool false, .bool false] 77),(17, .cells [.bool false, .bool false, .int .u64 0, .int .i64 0] 84),(16, .cells [.int .i64 K, .int .i64 L, .int .i64 T] 88),
 (15, .cells [.bool g, .slice (some ⟨19,0,some 20⟩) X.length 0, .slice (some ⟨21,0,some 22⟩) 1 0, .int .i64 e, .bool false] 146),(11, .ints .u32 N),(13, .ints .u32 D)]
abbrev g0w (K:Int):Int:=uI.wrap (1*2 ^min K.toNat uI.bits)
abbrev p2x (K:Int):Int:=g0w (iI.wrap (K-1))
abbrev u2u (w:Bool) (h q:Int):Bool:=match !w with | true=>(match decide (h > 0) with | true=>true | false=>(match h==0 with | true=>q.tmod 2==1 | false=>false)) | false=>false
abbrev m0d (w:Bool) (q K:Int):Bool:=match !w with | true=>decide (q < p2x K) | false=>false
abbrev b3y (e K T:Int):Bool:=decide (iI.wrap (iI.wrap (e+K)-1) > T)
abbrev i1a (e q K T:Int):Bool:=match b3y e K T with | true=>decide (q>=p2x K) | false=>false
abbrev n2o (N D:List Int) (E K:Int):Int:=iI.wrap (iI.wrap (szX N D E-K)-3)
abbrev d2z (N D:List Int) (E K L:Int):Int:=if L < n2o N D E K then n2o N D E K else L
abbrev toQ (K e T:Int):List Prop:=[C9 [(8,b3y e K T)] [(8,true)] ->0<=iI.wrap (K-1)]
abbrev toC (b:Bool) (N D:List Int) (E K L T:Int):List Prop:=[decide (iI.wrap (T+8) < d2z N D E K L)=b,N.length=N.length,D.length=D.length,szK N D E]
section
variable (g w:Bool) (N D X:List Int) (E K L T e q h:Int)
abbrev e3m (ds:List Bool) (H:Heap) (id:Nat) (e q h:Int) (w:Bool):Prop:=b9 sD a1e (m8 sD 200 97 (q0t g N D E K L T) ds) (.exit 0) (tTo H id e q h w)
abbrev toS (e q h:Int) (w:Bool):St:=tTo (c3d g N D E K L T) 19 e q h w
abbrev toD (b:Bool):List Prop:=[u2u w h q=b,C9 [(2,!w)] [(2,true)] ->0<=iI.wrap (K-1),e3m g N D E K L T [false] (c3d g N D E K L T) 19 e q h w,N.length=N.length,D.length=D.length,beK N D (d2z N D E K L-E)] ++toC false N D E K L T
theorem j2u (hl:l5 [N.length=N.length,D.length=D.length,beK N D (iI.wrap (e+1)-E),decide (g0w K<=q)=true,0<=K]):u4 sD a1e (toS g N D E K L T e q h w) .normal (toS g N D E K L T (iI.wrap (e+1)) (beQ N D (iI.wrap (e+1)-E)) (beH N D (iI.wrap (e+1)-E)) (beW N D (iI.wrap (e+1)-E))):=
 stp X3 10 progOk.mixed [true] [] (by kernel_rfl) hl
theorem a2j (hl:l5 [decide (g0w K<=q)=false,0<=K]):u4 sD a1e (toS g N D E K L T e q h w) (.exit 0) (toS g N D E K L T e q h w):=
 stp X3 10 progOk.mixed [false] [] (by kernel_rfl) hl
theorem v1e {x:AX} {s':St} (h:b9 sD a1e (toS g N D E K L T (d2z N D E K L) (beQ N D (d2z N D E K L-E)) (beH N D (d2z N D E K L-E)) (beW N D (d2z N D E K L-E))) x s'):b9 sD a1e (m8 sD 200 97 (q0t g N D E K L T) [false]) x s':=
 l9 h []
abbrev i2b:U5:=[H7 (.exit 0) (fun _=>toS g N D E K L T e q h w)]
theorem u2k:B2 sD (i2b g w N D E K L T e q h) 200 97 (q0t g N D E K L T) (toR g false q e (!w) false (m0d w q K)) [false,false,false,false] =some ([i1a e q K T=false] ++toQ K e T++[(q==g0w K)=false,0<=K] ++toD g w N D E K L T e q h false++toZ g false q e (!w) false (m0d w q K)):=by kernel_rfl
theorem u2y:B2 sD (i2b g w N D E K L T e q h) 200 97 (q0t g N D E K L T) (toR g true 0 0 true true (m0d w q K)) [false,false,false,true,false] =some ([false=false,i1a e q K T=true] ++toQ K e T++[(q==g0w K)=false,0<=K] ++toD g w N D E K L T e q h false++toZ g true 0 0 true true (m0d w q K)):=by kernel_rfl
theorem x2t:B2 sD (i2b g w N D E K L T e q h) 200 97 (q0t g N D E K L T) (toR g false (uI.wrap (q+1)) e (!w) false (m0d w q K)) [false,true,false,false] =some ([i1a e (uI.wrap (q+1)) K T=false] ++toQ K e T++[(uI.wrap (q+1)==g0w K)=false,0<=K] ++toD g w N D E K L T e q h true++toZ g false (uI.wrap (q+1)) e (!w) false (m0d w q K)):=by kernel_rfl
theorem z2q:B2 sD (i2b g w N D E K L T e q h) 200 97 (q0t g N D E K L T) (toR g true 0 0 true true (m0d w q K)) [false,true,false,true,false] =some ([false=false,i1a e (uI.wrap (q+1)) K T=true] ++toQ K e T++[(uI.wrap (q+1)==g0w K)=false,0<=K] ++toD g w N D E K L T e q h true++toZ g true 0 0 true true (m0d w q K)):=by kernel_rfl
abbrev i2y (q:Int):Int:=uI.wrap ((uI.wrap (q+1)).tdiv 2)
theorem y2j:B2 sD (i2b g w N D E K L T e q h) 200 97 (q0t g N D E K L T) (toR g false (i2y q) (iI.wrap (e+1)) (!w) false (m0d w q K)) [false,true,true,false] =some ([i1a (iI.wrap (e+1)) (i2y q) K T=false] ++toQ K (iI.wrap (e+1)) T++[(uI.wrap (q+1)==g0w K)=true,0<=K] ++toD g w N D E K L T e q h true++toZ g false (i2y q) (iI.wrap (e+1)) (!w) false (m0d w q K)):=by kernel_rfl
theorem u2n:B2 sD (i2b g w N D E K L T e q h) 200 97 (q0t g N D E K L T) (toR g true 0 0 true true (m0d w q K)) [false,true,true,true,false] =some ([false=false,i1a (iI.wrap (e+1)) (i2y q) K T=true] ++toQ K (iI.wrap (e+1)) T++[(uI.wrap (q+1)==g0w K)=true,0<=K] ++toD g w N D E K L T e q h true++toZ g true 0 0 true true (m0d w q K)):=by kernel_rfl
end
section
variable (g w:Bool) (N D X:List Int) (E K L T e q h:Int)
abbrev tfx (K:Int):Int:=uI.wrap (g0w K-1)
abbrev e3i (e q h:Int) (w:Bool):Prop:=b9 sD a1e (m8 sD 200 97 (q0t g N D E K L T) [true]) (.exit 0) (tTo (i2n g N D X e K L T) 24 e q h w)
abbrev m1k (T:Int):Int:=iI.wrap (T+8)-iI.wrap (T+8)
theorem v2d:B2 sD [H7 (.exit 0) (fun _=>tTo (i2n g N D X e K L T) 24 e q h w)] 200 97 (q0t g N D E K L T) (toR g true 0 0 true true (m0d w q K)) [true,false,false,true,false] =some ([false=false,i1a e q K T=true] ++toQ K e T++[(q==g0w K)=false,0<=K] ++[u2u w h q=false,C9 [(2,!w)] [(2,true)] ->0<=iI.wrap (K-1),e3i g N D X E K L T e q h w,(mY (tfx K)).length<=(mY (tfx K)).length,1<=1,beK (tkL (mY (tfx K))) [1] (m1k T),(0:Int)<=1∧(1:Int) < 18446744073709551616,0<=tfx K∧tfx K < 18446744073709551616,0<=K] ++toC true N D E K L T++toZ g true 0 0 true true (m0d w q K)):=by kernel_rfl
theorem b2i (hl:l5 [decide (g0w K<=q)=false,0<=K]):u4 sD a1e (tTo (i2n g N D X e K L T) 24 e q h w) (.exit 0) (tTo (i2n g N D X e K L T) 24 e q h w):=
 stp X3 10 progOk.mixed [false] [] (by kernel_rfl) hl
theorem t1p {x:AX} {s':St} (h:b9 sD a1e (tTo (i2n g N D (mY (tfx K)) (iI.wrap (T+8)) K L T) 24 (iI.wrap (T+8)) (beQ (tkL (mY (tfx K))) [1] (m1k T)) (beH (tkL (mY (tfx K))) [1] (m1k T)) (beW (tkL (mY (tfx K))) [1] (m1k T))) x s'):b9 sD a1e (m8 sD 200 97 (q0t g N D E K L T) [true]) x s':=
 l9 h []
end
theorem rY {K:Nat} (hK:K<=60):g0w (K:Int)=((2 ^K:Nat):Int):=by
 show uI.wrap (1*2 ^min ((K:Int)).toNat 64)=_
 have hlt:(2:Nat) ^K<=1152921504606846976:=x7 (y5 (by decide) hK) (by decide)
 rw [g9,C6 (by omega),Int.one_mul]
 have e:((2:Int) ^K)=((2 ^K:Nat):Int):=by rw [bI]; rfl
 rw [e]
 exact qT (by omega)
theorem u0f {K:Nat} (hK:1<=K) (h:K<=60):iI.wrap ((K:Int)-1)=((K-1:Nat):Int):=by
 have:=y3 ((K:Int)-1)
 omega
theorem t0l {K:Nat} (h1:1<=K) (hK:K<=60):p2x (K:Int)=((2 ^(K-1):Nat):Int):=by
 show g0w (iI.wrap ((K:Int)-1))=_
 rw [u0f h1 hK]
 exact rY (by omega)
theorem r1n (w:Bool) (h:Int) (q:Nat):u2u w h (q:Int)=(!w && upB h q):=by
 have e:((q:Int).tmod 2==1)=decide (q%2=1):=by
  rw [show (q:Int).tmod 2=((q%2:Nat):Int) from rfl]
  rcases Nat.mod_two_eq_zero_or_one q with k | k <;> rw [k] <;> rfl
 unfold upB
 cases w with
 | true=>rfl
 | false=>
  show (match decide (h > 0) with | true=>true | false=>(match h==0 with | true=>(q:Int).tmod 2==1 | false=>false))=_
  rw [e]
  by_cases h1:0 < h
  ·rw [show decide (h > 0)=true from i6 h1]
   rfl
  ·rw [show decide (h > 0)=false from d8 h1]
   by_cases h2:h=0
   ·subst h2
    simp
   ·rw [y9 h2,d8 h2]
    rfl
theorem r1l {K:Nat} (h1:1<=K) (hK:K<=60) (w:Bool) (q:Nat):m0d w (q:Int) (K:Int)=(!w && decide (q < 2 ^(K-1))):=by
 show (match !w with | true=>decide ((q:Int) < p2x (K:Int)) | false=>false)=_
 rw [t0l h1 hK]
 cases w with
 | true=>rfl
 | false=>
  show decide (_ < _)=decide (_ < _)
  exact zzA179.2 (by omega)
theorem rT {K:Nat} (h1:1<=K) (hK:K<=60) {e T:Int} (he: -9000000<=e∧e<=9000000) (q:Nat):i1a e (q:Int) (K:Int) T=(decide (T < e+K-1) && decide (2 ^(K-1)<=q)):=by
 have w1:iI.wrap (iI.wrap (e+(K:Int))-1)=e+K-1:=by
  have a:=y3 (e+(K:Int))
  have a2:iI.wrap (e+(K:Int))=e+K:=by omega
  rw [a2]
  have b:=y3 (e+(K:Int)-1)
  omega
 show (match decide (iI.wrap (iI.wrap (e+(K:Int))-1) > T) with | true=>decide ((q:Int)>=p2x (K:Int)) | false=>false)=_
 rw [w1,t0l h1 hK]
 by_cases h:T < e+K-1
 ·rw [show decide (e+(K:Int)-1 > T)=true from i6 h]
  show decide (_>=_)=(true && decide _)
  rw [cF]
  exact zzA179.2 (by omega)
 ·rw [show decide (e+(K:Int)-1 > T)=false from d8 h]
  rfl
def trM (K:Nat) (L:Int) (N D:Nat) (E:Int):Nat:=flm N D (toX K L N D E-E)
def tfm (K:Nat) (L:Int) (N D:Nat) (E:Int):Nat:=if trM K L N D E=2 ^K then 2 ^(K-1) else trM K L N D E
def tfe (K:Nat) (L:Int) (N D:Nat) (E:Int):Int:=if trM K L N D E=2 ^K then toX K L N D E+1 else toX K L N D E
def tfo (K:Nat) (L T:Int) (N D:Nat) (E:Int):Bool:=decide (T < tfe K L N D E+K-1) && decide (2 ^(K-1)<=tfm K L N D E)
def tfv (K:Nat) (L T:Int) (N D:Nat) (E:Int):Bool:=decide (T+8 < toB K L N D E) || tfo K L T N D E
def tfu (K:Nat) (L T:Int) (N D:Nat) (E:Int):Bool:=if T+8 < toB K L N D E then false else (!flw N D (toX K L N D E-E) && decide (flq N D (toX K L N D E-E) < 2 ^(K-1)))
abbrev n1l (g:Bool) (K:Nat) (L T:Int) (N D:Nat) (E:Int):List Arg:=toR g (tfv K L T N D E) (if tfv K L T N D E=true then 0 else ((tfm K L N D E:Nat):Int)) (if tfv K L T N D E=true then 0 else tfe K L N D E) (tfv K L T N D E || !flw N D (toX K L N D E-E)) (tfv K L T N D E) (tfu K L T N D E)
structure toOk (K:Nat) (L T:Int) (N D:Nat) (E:Int):Prop where
 k1:2<=K
 k2:K<=60
 l: -1074<=L∧L<=0
 t:0<=T∧T<=2000
 n:0 < N
 d:0 < D
 bn:bl N<=100000
 bd:bl D<=100000
 e: -100000<=E∧E<=100000
section
variable {K:Nat} {L T:Int} {N D:Nat} {E:Int} (ok:toOk K L T N D E)
include ok
theorem xV: -200000<=toX K L N D E-E∧toX K L N D E-E<=900000∧-200000<=toB K L N D E∧toB K L N D E<=400000∧toX K L N D E<=1000000∧-1074<=toB K L N D E:=by
 obtain⟨k1,k2,l,t,n,d,bn,bd,e⟩:=ok
 have h0:=b1a N D (X5 K (L-E) N D)
 have hf: -110000<=X5 K (L-E) N D∧X5 K (L-E) N D<=210000:=by
  unfold X5
  split <;> omega
 unfold toX toB B9
 split <;> split <;> omega
theorem o2o:szX (ws W32 N) (ws W32 D) E=(bl N:Int)-bl D+E:=by
 have _:=ok
 unfold szX
 rw [x6 n4,x6 n4]
theorem r0n:d2z (ws W32 N) (ws W32 D) E (K:Int) L=toB K L N D E:=by
 have e1:n2o (ws W32 N) (ws W32 D) E (K:Int)=(bl N:Int)-bl D+E-K-3:=by
  show iI.wrap (iI.wrap (szX (ws W32 N) (ws W32 D) E- (K:Int))-3)=_
  rw [o2o ok]
  obtain⟨k1,k2,l,t,n,d,bn,bd,e⟩:=ok
  have a:=y3 ((bl N:Int)-bl D+E- (K:Int))
  have a2:iI.wrap ((bl N:Int)-bl D+E- (K:Int))=(bl N:Int)-bl D+E-K:=by omega
  rw [a2]
  have b:=y3 ((bl N:Int)-bl D+E- (K:Int)-3)
  omega
 show (if L < n2o (ws W32 N) (ws W32 D) E (K:Int) then n2o (ws W32 N) (ws W32 D) E (K:Int) else L)=_
 rw [e1]
 rfl
theorem a2v {e:Int} (h1:toB K L N D E<=e) (h2:e<=toX K L N D E):beK (ws W32 N) (ws W32 D) (e-E)∧beQ (ws W32 N) (ws W32 D) (e-E)=((flq N D (e-E):Nat):Int)∧beH (ws W32 N) (ws W32 D) (e-E)=flh N D (e-E)∧beW (ws W32 N) (ws W32 D) (e-E)=flw N D (e-E):=by
 have hr:=xV ok
 have hb:=v0x K L N D E
 obtain⟨k1,k2,l,t,n,d,bn,bd,he⟩:=ok
 refine⟨?_,?_,?_,?_⟩
 ·unfold beK
  rw [x6 n4,x6 n4]
  refine⟨E9 (by omega),E9 (by omega),d,by omega,by omega,by omega,?_⟩
  have:=a2l (K:=K) (N:=N) (e:=e-E) d (by omega)
  exact C8 this (show 2 ^(K+4)<=2 ^64 from y5 (by decide) (by omega))
 ·unfold beQ; rw [x6 n4,x6 n4]
 ·unfold beH; rw [x6 n4,x6 n4]
 ·unfold beW; rw [x6 n4,x6 n4]
abbrev toSt (g:Bool) (K:Nat) (L T:Int) (N D:Nat) (E e:Int):St:=toS g (ws W32 N) (ws W32 D) E (K:Int) L T e ((flq N D (e-E):Nat):Int) (flh N D (e-E)) (flw N D (e-E))
theorem b2n (g:Bool):b9 sD a1e (m8 sD 200 97 (q0t g (ws W32 N) (ws W32 D) E (K:Int) L T) [false]) (.exit 0) (toSt g K L T N D E (toX K L N D E)):=by
 have hr:=xV ok
 have hb:=v0x K L N D E
 apply v1e
 rw [r0n ok]
 obtain⟨_,b2,b3,b4⟩:=a2v ok (T8 (toB K L N D E)) hb.2.1
 rw [b2,b3,b4]
 obtain⟨m,hm⟩:∃ m:Nat,toX K L N D E=toB K L N D E+(m:Int):=⟨(toX K L N D E-toB K L N D E).toNat,by omega⟩
 have hP:=rY ok.k2
 have h:=x5 (X:=sD) (c:=a1e) (fun n=>toSt g K L T N D E (toB K L N D E+(n:Int))) m (x:= .exit 0) (s':=toSt g K L T N D E (toX K L N D E)) (by intro e; cases e) (fun n hn=>by
  obtain⟨c1,c2,c3,c4⟩:=a2v ok (e:=toB K L N D E+(n:Int)+1) (by omega) (by omega)
  have hw:iI.wrap (toB K L N D E+(n:Int)+1)=toB K L N D E+(n:Int)+1:=by
   have:=y3 (toB K L N D E+(n:Int)+1)
   omega
  have hmore:=u1s (L:=L) (E:=E) (e:=toB K L N D E+(n:Int)) (show 0 < K by have:=ok.k1; omega) ok.n ok.d (by omega) (by omega)
  have hs:=j2u g (flw N D (toB K L N D E+(n:Int)-E)) (ws W32 N) (ws W32 D) E (K:Int) L T (toB K L N D E+(n:Int)) ((flq N D (toB K L N D E+(n:Int)-E):Nat):Int) (flh N D (toB K L N D E+(n:Int)-E)) ⟨rfl,rfl,by rw [hw]; exact c1,by rw [hP]; exact i6 (zzA207.2 hmore),w7 _,a6⟩
  rw [hw,c2,c3,c4] at hs
  rw [show toB K L N D E+((n+1:Nat):Int)=toB K L N D E+(n:Int)+1 by omega]
  exact hs) (by
  rw [<- hm]
  obtain⟨_,hlt,_⟩:=mZ (L:=L) (E:=E) (show 0 < K by have:=ok.k1; omega) ok.n ok.d
  exact a2j _ _ _ _ _ _ _ _ _ _ _ ⟨by rw [hP]; exact d8 (by have:=hlt; omega),w7 _,a6⟩)
 rw [show toB K L N D E+((0:Nat):Int)=toB K L N D E by omega] at h
 exact h
end
section
variable {K:Nat} {L T:Int} {N D:Nat} {E:Int}
theorem f0v (g:Bool) {m e:Int} {w u:Bool} (hv:tfv K L T N D E=false) (hm:((tfm K L N D E:Nat):Int)=m) (he:tfe K L N D E=e) (hw:flw N D (toX K L N D E-E)=w) (hu:tfu K L T N D E=u):n1l g K L T N D E=toR g false m e (!w) false u:=by
 show toR g (tfv K L T N D E) (if tfv K L T N D E=true then 0 else ((tfm K L N D E:Nat):Int)) (if tfv K L T N D E=true then 0 else tfe K L N D E) (tfv K L T N D E || !flw N D (toX K L N D E-E)) (tfv K L T N D E) (tfu K L T N D E)=_
 rw [hv,hu,hm,he,hw]
 rfl
theorem sA (g:Bool) {u:Bool} (hv:tfv K L T N D E=true) (hu:tfu K L T N D E=u):n1l g K L T N D E=toR g true 0 0 true true u:=by
 show toR g (tfv K L T N D E) (if tfv K L T N D E=true then 0 else ((tfm K L N D E:Nat):Int)) (if tfv K L T N D E=true then 0 else tfe K L N D E) (tfv K L T N D E || !flw N D (toX K L N D E-E)) (tfv K L T N D E) (tfu K L T N D E)=_
 rw [hv,hu]
 rfl
variable (ok:toOk K L T N D E)
include ok
theorem y1c (b:Bool) (hb:decide (T+8 < toB K L N D E)=b):l5 (toC b (ws W32 N) (ws W32 D) E (K:Int) L T):=by
 have h0:=r0n ok
 have ht:iI.wrap (T+8)=T+8:=by
  have:=y3 (T+8)
  have:=ok.t
  omega
 refine⟨by rw [h0,ht]; exact hb,rfl,rfl,?_,a6⟩
 unfold szK
 rw [x6 n4,x6 n4]
 have h1:=ok.bn
 have h2:=ok.bd
 have h3:=ok.e
 exact⟨E9 (by omega),E9 (by omega),by omega,by omega,by omega⟩
theorem d1p (e:Int):l5 (toQ (K:Int) e T):=by
 have h1:=ok.k1
 refine⟨fun _=> ?_,a6⟩
 rw [u0f (by omega) ok.k2]
 omega
theorem j2j (g b:Bool) (hn:¬T+8 < toB K L N D E) (hb:(!flw N D (toX K L N D E-E) && upB (flh N D (toX K L N D E-E)) (flq N D (toX K L N D E-E)))=b):
  l5 (toD g (flw N D (toX K L N D E-E)) (ws W32 N) (ws W32 D) E (K:Int) L T (toX K L N D E) ((flq N D (toX K L N D E-E):Nat):Int) (flh N D (toX K L N D E-E)) b):=by
 have h1:=ok.k1
 have hB:=v0x K L N D E
 obtain⟨b1,_⟩:=a2v ok (T8 (toB K L N D E)) hB.2.1
 refine (a8 _ _).2 ⟨⟨by rw [r1n]; exact hb,fun _=>by rw [u0f (by omega) ok.k2]; omega,b2n ok g,rfl,rfl,by rw [r0n ok]; exact b1,a6⟩,y1c ok false (d8 hn)⟩
theorem f2d (g:Bool) (hn:¬T+8 < toB K L N D E):Ev.Sem zO8 J0 97 (q0t g (ws W32 N) (ws W32 D) E (K:Int) L T) (n1l g K L T N D E):=by
 have k1:1<=K:=by have:=ok.k1; omega
 have k2:=ok.k2
 have hr:=xV ok
 obtain⟨_,hlt,_⟩:=mZ (L:=L) (E:=E) (show 0 < K by omega) ok.n ok.d
 have hd:=j2j ok g (!flw N D (toX K L N D E-E) && upB (flh N D (toX K L N D E-E)) (flq N D (toX K L N D E-E))) hn rfl
 have hq0:=d1p ok (toX K L N D E)
 have hq1:=d1p ok (iI.wrap (toX K L N D E+1))
 have hu:tfu K L T N D E=m0d (flw N D (toX K L N D E-E)) ((flq N D (toX K L N D E-E):Nat):Int) (K:Int):=by
  rw [r1l k1 k2]
  unfold tfu
  rw [a7 hn]
 have hv:tfv K L T N D E=tfo K L T N D E:=by
  unfold tfv
  rw [d8 hn,Bool.false_or]
 have hm:trM K L N D E=if (!flw N D (toX K L N D E-E) && upB (flh N D (toX K L N D E-E)) (flq N D (toX K L N D E-E)))=true then flq N D (toX K L N D E-E)+1 else flq N D (toX K L N D E-E):=rfl
 have hpK:(2:Nat) ^K<=1152921504606846976:=x7 (y5 (by decide) k2) (by decide)
 have hP:=rY k2
 have hw1:iI.wrap (toX K L N D E+1)=toX K L N D E+1:=by
  have:=y3 (toX K L N D E+1)
  have:=ok.e
  omega
 have hxr: -9000000<=toX K L N D E∧toX K L N D E<=8000000:=by
  have:=ok.e
  omega
 have hw:=(rfl:flw N D (toX K L N D E-E)=flw N D (toX K L N D E-E))
 have hb0:decide ((flq N D (toX K L N D E-E))=2 ^K)=false:=d8 (by omega)
 cases hb:(!flw N D (toX K L N D E-E) && upB (flh N D (toX K L N D E-E)) (flq N D (toX K L N D E-E))) with
 | false=>
  rw [hb] at hd hm
  rw [a7 (by decide)] at hm
  have e1:tfm K L N D E=flq N D (toX K L N D E-E):=by unfold tfm; rw [hm,a7 (by omega)]
  have e2:tfe K L N D E=toX K L N D E:=by unfold tfe; rw [hm,a7 (by omega)]
  have hov:i1a (toX K L N D E) ((flq N D (toX K L N D E-E):Nat):Int) (K:Int) T=tfo K L T N D E:=by
   rw [rT k1 k2 (by omega)]
   unfold tfo
   rw [e1,e2]
  have hne:(((flq N D (toX K L N D E-E):Nat):Int)==g0w (K:Int))=false:=by rw [hP]; exact y9 (by omega)
  cases ho:tfo K L T N D E with
  | false=>
   rw [ho] at hov hv
   rw [f0v g hv (by rw [e1]) e2 hw hu]
   exact l7 X3 10 _ _ (u2k g _ _ _ E K L T _ _ _) ((a8 _ _).2 ⟨(a8 _ _).2 ⟨(a8 _ _).2 ⟨(a8 _ _).2 ⟨⟨hov,a6⟩,hq0⟩,hne,w7 _,a6⟩,hd⟩,rfl,rfl,rfl,rfl,rfl,rfl,rfl,a6⟩)
  | true=>
   rw [ho] at hov hv
   rw [sA g hv hu]
   exact l7 X3 10 _ _ (u2y g _ _ _ E K L T _ _ _) ((a8 _ _).2 ⟨(a8 _ _).2 ⟨(a8 _ _).2 ⟨(a8 _ _).2 ⟨⟨rfl,hov,a6⟩,hq0⟩,hne,w7 _,a6⟩,hd⟩,rfl,rfl,rfl,rfl,rfl,rfl,rfl,a6⟩)
 | true=>
  rw [hb] at hd hm
  rw [f9 rfl] at hm
  have hq1':uI.wrap (((flq N D (toX K L N D E-E):Nat):Int)+1)=((flq N D (toX K L N D E-E)+1:Nat):Int):=by
   rw [show ((flq N D (toX K L N D E-E):Nat):Int)+1=((flq N D (toX K L N D E-E)+1:Nat):Int) by omega]
   exact qT (by omega)
  by_cases hc:flq N D (toX K L N D E-E)+1=2 ^K
  ·have e1:tfm K L N D E=2 ^(K-1):=by unfold tfm; rw [hm,f9 hc]
   have e2:tfe K L N D E=toX K L N D E+1:=by unfold tfe; rw [hm,f9 hc]
   have hhl:i2y ((flq N D (toX K L N D E-E):Nat):Int)=((2 ^(K-1):Nat):Int):=by
    show uI.wrap ((uI.wrap (((flq N D (toX K L N D E-E):Nat):Int)+1)).tdiv 2)=_
    rw [hq1',hc,vZ (show 0 < K by omega),show ((2*2 ^(K-1):Nat):Int).tdiv 2=((2*2 ^(K-1)/2:Nat):Int) from rfl,Nat.mul_div_cancel_left _ (by decide)]
    have:=vZ (show 0 < K by omega)
    exact qT (by omega)
   have hov:i1a (iI.wrap (toX K L N D E+1)) (i2y ((flq N D (toX K L N D E-E):Nat):Int)) (K:Int) T=tfo K L T N D E:=by
    rw [hhl,hw1,rT k1 k2 (by omega)]
    unfold tfo
    rw [e1,e2]
   have hne:(uI.wrap (((flq N D (toX K L N D E-E):Nat):Int)+1)==g0w (K:Int))=true:=by rw [hP,hq1',hc]; simp
   cases ho:tfo K L T N D E with
   | false=>
    rw [ho] at hov hv
    rw [f0v g hv (by rw [e1,<- hhl]) (by rw [e2,<- hw1]) hw hu]
    exact l7 X3 10 _ _ (y2j g _ _ _ E K L T _ _ _) ((a8 _ _).2 ⟨(a8 _ _).2 ⟨(a8 _ _).2 ⟨(a8 _ _).2 ⟨⟨hov,a6⟩,hq1⟩,hne,w7 _,a6⟩,hd⟩,rfl,rfl,rfl,rfl,rfl,rfl,rfl,a6⟩)
   | true=>
    rw [ho] at hov hv
    rw [sA g hv hu]
    exact l7 X3 10 _ _ (u2n g _ _ _ E K L T _ _ _) ((a8 _ _).2 ⟨(a8 _ _).2 ⟨(a8 _ _).2 ⟨(a8 _ _).2 ⟨⟨rfl,hov,a6⟩,hq1⟩,hne,w7 _,a6⟩,hd⟩,rfl,rfl,rfl,rfl,rfl,rfl,rfl,a6⟩)
  ·have e1:tfm K L N D E=flq N D (toX K L N D E-E)+1:=by unfold tfm; rw [hm,a7 hc]
   have e2:tfe K L N D E=toX K L N D E:=by unfold tfe; rw [hm,a7 hc]
   have hov:i1a (toX K L N D E) (uI.wrap (((flq N D (toX K L N D E-E):Nat):Int)+1)) (K:Int) T=tfo K L T N D E:=by
    rw [hq1',rT k1 k2 (by omega)]
    unfold tfo
    rw [e1,e2]
   have hne:(uI.wrap (((flq N D (toX K L N D E-E):Nat):Int)+1)==g0w (K:Int))=false:=by rw [hP,hq1']; exact y9 (by omega)
   cases ho:tfo K L T N D E with
   | false=>
    rw [ho] at hov hv
    rw [f0v g hv (by rw [e1,<- hq1']) e2 hw hu]
    exact l7 X3 10 _ _ (x2t g _ _ _ E K L T _ _ _) ((a8 _ _).2 ⟨(a8 _ _).2 ⟨(a8 _ _).2 ⟨(a8 _ _).2 ⟨⟨hov,a6⟩,hq0⟩,hne,w7 _,a6⟩,hd⟩,rfl,rfl,rfl,rfl,rfl,rfl,rfl,a6⟩)
   | true=>
    rw [ho] at hov hv
    rw [sA g hv hu]
    exact l7 X3 10 _ _ (z2q g _ _ _ E K L T _ _ _) ((a8 _ _).2 ⟨(a8 _ _).2 ⟨(a8 _ _).2 ⟨(a8 _ _).2 ⟨⟨rfl,hov,a6⟩,hq0⟩,hne,w7 _,a6⟩,hd⟩,rfl,rfl,rfl,rfl,rfl,rfl,rfl,a6⟩)
theorem l2e (g:Bool) (hn:T+8 < toB K L N D E):Ev.Sem zO8 J0 97 (q0t g (ws W32 N) (ws W32 D) E (K:Int) L T) (n1l g K L T N D E):=by
 have k1:1<=K:=by have:=ok.k1; omega
 have k2:=ok.k2
 have hP:=rY k2
 have hpK:(2:Nat) ^K<=1152921504606846976:=x7 (y5 (by decide) k2) (by decide)
 have hp4:4<=(2:Nat) ^K:=x7 (by decide) (y5 (n:=2) (by decide) ok.k1)
 have hhalf:=vZ (show 0 < K by omega)
 have hT:=ok.t
 have hx:tfx (K:Int)=((2 ^K-1:Nat):Int):=by
  show uI.wrap (g0w (K:Int)-1)=_
  rw [hP,show ((2 ^K:Nat):Int)-1=((2 ^K-1:Nat):Int) by omega]
  exact qT (by omega)
 have hX:mY (tfx (K:Int))=ws W32 (2 ^K-1):=by unfold mY; rw [hx,g9]
 have ht0:m1k T=0:=Int.sub_self _
 have h1w:([1] :List Int)=ws W32 1:=rfl
 have hv1:val W32 ([1] :List Int)=1:=by rw [h1w,x6 n4]
 have hvX:val W32 (tkL (mY (tfx (K:Int))))=2 ^K-1:=by
  show val W32 (zO10 _ _)=_
  rw [r8,hX,x6 n4]
 have f1:flq (2 ^K-1) 1 0=2 ^K-1:=by unfold flq atA atB; rw [f9 (by decide),f9 (by decide)]; simp
 have f2:flr (2 ^K-1) 1 0=0:=by unfold flr atA atB; rw [f9 (by decide),f9 (by decide)]; simp [Nat.mod_one]
 have f3:flw (2 ^K-1) 1 0=true:=by unfold flw; rw [f2]; rfl
 have bQ:beQ (tkL (mY (tfx (K:Int)))) [1] (m1k T)=((2 ^K-1:Nat):Int):=by unfold beQ; rw [hvX,hv1,ht0,f1]
 have bW:beW (tkL (mY (tfx (K:Int)))) [1] (m1k T)=true:=by unfold beW; rw [hvX,hv1,ht0,f3]
 have hw8:iI.wrap (T+8)=T+8:=by have:=y3 (T+8); omega
 have hbK:beK (tkL (mY (tfx (K:Int)))) [1] (m1k T):=by
  unfold beK
  rw [hvX,hv1,ht0,f1]
  have hb1:bl (2 ^K-1)<=60:=bl_le.2 (by have:=(by decide:(2:Nat) ^60=1152921504606846976); omega)
  refine⟨?_,⟨by rw [hv1]; rfl,by decide⟩,by decide,by omega,by decide,by decide,by omega⟩
  show CnN (zO10 _ _)
  rw [r8,hX]
  exact E9 (by omega)
 have hlp:=t1p g (ws W32 N) (ws W32 D) E (K:Int) L T (x:= .exit 0) (s':=tTo (i2n g (ws W32 N) (ws W32 D) (mY (tfx (K:Int))) (iI.wrap (T+8)) (K:Int) L T) 24 (iI.wrap (T+8)) (beQ (tkL (mY (tfx (K:Int)))) [1] (m1k T)) (beH (tkL (mY (tfx (K:Int)))) [1] (m1k T)) (beW (tkL (mY (tfx (K:Int)))) [1] (m1k T)))
  (x5 (X:=sD) (c:=a1e) (fun _=>_) 0 (by intro e; cases e) (fun n hn=>by omega) (b2i _ _ _ _ _ _ _ _ _ _ _ ⟨by rw [hP,bQ]; exact d8 (by omega),w7 _,a6⟩))
 rw [bQ,bW] at hlp
 have hv:tfv K L T N D E=true:=by unfold tfv; rw [i6 hn,Bool.true_or]
 have hu:tfu K L T N D E=m0d true ((2 ^K-1:Nat):Int) (K:Int):=by
  unfold tfu
  rw [f9 hn]
  rfl
 rw [sA g hv hu]
 refine l7 X3 10 _ _ (v2d g true (ws W32 N) (ws W32 D) (mY (tfx (K:Int))) E (K:Int) L T (iI.wrap (T+8)) ((2 ^K-1:Nat):Int) _) ((a8 _ _).2 ⟨(a8 _ _).2 ⟨(a8 _ _).2 ⟨(a8 _ _).2 ⟨(a8 _ _).2 ⟨⟨rfl,?_,a6⟩,d1p ok _⟩,?_,w7 _,a6⟩,⟨rfl,fun _=> ?_,hlp,d9 _,d9 _,hbK,⟨by decide,by decide⟩,?_,w7 _,a6⟩⟩,y1c ok true (i6 hn)⟩,rfl,rfl,rfl,rfl,rfl,rfl,rfl,a6⟩)
 ·rw [hw8,rT k1 k2 (by omega),i6 (by omega),i6 (by omega)]
  rfl
 ·rw [hP]
  exact y9 (by omega)
 ·rw [u0f k1 k2]
  omega
 ·rw [hx]
  omega
theorem l2r (g:Bool):Ev.Sem zO8 J0 97 (q0t g (ws W32 N) (ws W32 D) E (K:Int) L T) (n1l g K L T N D E):=by
 by_cases hn:T+8 < toB K L N D E
 ·exact l2e ok g hn
 ·exact f2d ok g hn
end
abbrev e3h:AS:= .a [.v, .v, .v]
def tvO (K L T:Int) (N D:List Int) (E:Int):Bool:=tfv K.toNat L T (val W32 N) (val W32 D) E
def tvM (K L T:Int) (N D:List Int) (E:Int):Int:=if tvO K L T N D E=true then 0 else ((tfm K.toNat L (val W32 N) (val W32 D) E:Nat):Int)
def tvE (K L T:Int) (N D:List Int) (E:Int):Int:=if tvO K L T N D E=true then 0 else tfe K.toNat L (val W32 N) (val W32 D) E
def tvX (K L T:Int) (N D:List Int) (E:Int):Bool:=tvO K L T N D E || !flw (val W32 N) (val W32 D) (toX K.toNat L (val W32 N) (val W32 D) E-E)
def tvU (K L T:Int) (N D:List Int) (E:Int):Bool:=tfu K.toNat L T (val W32 N) (val W32 D) E
def tvK (K L T:Int) (N D:List Int) (E:Int):Prop:=0<=K∧CnN N∧CnN D∧toOk K.toNat L T (val W32 N) (val W32 D) E
def k1b:List Arg->Option (List Arg×List Prop)
 | [.a [.v (.bool g), .s 33 .u32 N, .s 33 .u32 D, .v (.int .i64 E), .v (.bool false)], .a [.v (.int .i64 K), .v (.int .i64 L), .v (.int .i64 T)], .c (.v (.int .i64 1))] =>some (toR g (tvO K L T N D E) (tvM K L T N D E) (tvE K L T N D E) (tvX K L T N D E) (tvO K L T N D E) (tvU K L T N D E),[tvK K L T N D E])
 | _=>none
theorem c1m:∀ az rs l,k1b az=some (rs,l)->l5 l->Ev.Sem zO8 J0 97 az rs:=by
 intro az rs l h hl
 unfold k1b at h
 split at h
 ·rename_i g N D E K L T
  cases h
  obtain⟨⟨h0,h1,h2,h3⟩,_⟩:=hl
  have:=l2r h3 g
  rw [<- h1.1,<- h2.1,I8 h0] at this
  exact this
 ·cases h
def c0p:iV:=o8 97 (A3 [t2x,e3h,shV] k1b) o0l
theorem nR:iS zO8 J0 c0p:=j0 (m9 _ c1m) b0h
end Go.Proofs.YtkiejangmhhofaaGreatDoor
namespace Go.Proofs.YtkiejangmhhofaaGreatDoor
open Go Go.RowKit Ev
def dgB (b:Int) (c:UInt8):Bool:=decide (u7 (zO6 c.toNat) < b)
def s9 (b:Int):List UInt8->Bool->Nat
 | [],_=>0
 | c ::r,s=>if dgB b c=true then s9 b r s+1 else if c=46∧s=false then s9 b r true+1 else 0
def fM (b:Int):List UInt8->Bool->Bool
 | [],_=>true
 | c ::r,s=>if c=46∧s=false then fM b r true else if dgB b c=true then fM b r s else false
def J2 (b:Int):List UInt8->Bool->List UInt8
 | [],_=>[]
 | c ::r,s=>if dgB b c=true then c ::J2 b r s else if c=46∧s=false then J2 b r true else []
def eH (b:Int):List UInt8->Option Nat
 | [] =>none
 | c ::r=>if dgB b c=true then (eH b r).map (· +1) else if c=46 then some 0 else none
theorem k1p {b:Int} (hb:b<=16):dgB b 46=false:=by
 unfold dgB
 have h:u7 (zO6 (46:UInt8).toNat)=16:=by decide
 rw [h]
 exact d8 (by omega)
theorem t0n {b:Int} (hb:b<=16):∀ (r:List UInt8) (s:Bool) (n:Nat),n<=r.length->(fM b (r.take n) s=true↔n<=s9 b r s)
 | [],s,n,h=>by
  obtain rfl:n=0:=by simpa using h
  simp [fM]
 | c ::r,s,0,h=>by simp [fM]
 | c ::r,s,n+1,h=>by
  have ih:=fun s=>t0n hb r s n (by simpa using h)
  rw [aY]
  unfold fM s9
  by_cases h1:c=46∧s=false
  ·have:dgB b c=false:=by rw [h1.1]; exact k1p hb
   rw [f9 h1,this,a7 (by simp),f9 h1,ih]
   omega
  ·rw [a7 h1]
   by_cases h2:dgB b c=true
   ·rw [f9 h2,f9 h2,ih]; omega
   ·rw [a7 h2,a7 h2,a7 h1]; simp
theorem L4 (b:Int):∀ (r:List UInt8) (s:Bool),s9 b r s<=r.length
 | [],_=>d9 _
 | c ::r,s=>by
  have h1:=L4 b r s
  have h2:=L4 b r true
  unfold s9
  rw [A4]
  split
  ·omega
  split <;> omega
theorem M5 {t:List UInt8} {k:Nat} (h:k < t.length):t.drop k=t.getD k 0 ::t.drop (k+1):=by
 rw [y0l h]
 simp [List.getD,List.getElem?_eq_getElem h]
theorem dot_iff {t:List UInt8} {k:Nat} {p:Int} :g0m t (k:Int) p=true↔t.getD k 0=46∧(!decide (p < 0))=false:=by
 unfold g0m
 have:(chI t (k:Int)==46)=decide (t.getD k 0=46):=by
  by_cases h:t.getD k 0=46
  ·rw [i6 h]
   show (zO6 (t.getD k 0).toNat==46)=true
   rw [h]; rfl
  ·rw [d8 h]
   refine y9 fun e=>h ?_
   have e:((t.getD k 0).toNat:Int)=46:=e
   exact zzA132.1 (show (t.getD k 0).toNat=46 by omega)
 rw [this]
 by_cases h:t.getD k 0=46
 ·rw [i6 h]
  by_cases h2:p < 0
  ·rw [i6 h2]; exact⟨fun _=>⟨h,rfl⟩,fun _=>rfl⟩
  ·rw [d8 h2]; exact⟨fun e=>(by cases e),fun e=>(by cases e.2)⟩
 ·rw [d8 h]
  exact⟨fun e=>(by cases e),fun e=>absurd e.1 h⟩
theorem h2p {b:Int} (t:List UInt8):∀ (f k:Nat) (p:Int),k+f=t.length->(mL t b f k p).2=k+s9 b (t.drop k) (!decide (p < 0))
 | 0,k,p,h=>by
  rw [Y6 (by omega)]; rfl
 | f+1,k,p,h=>by
  have hk:k < t.length:=by omega
  rw [M5 hk]
  unfold mL s9
  by_cases h1:u7 (chI t (k:Int)) < b
  ·rw [f9 h1,f9 (show dgB b (t.getD k 0)=true from i6 h1),h2p t f (k+1) p (by omega)]
   omega
  ·rw [a7 h1,a7 (show ¬dgB b (t.getD k 0)=true from fun e=>h1 (G5 e))]
   by_cases h2:g0m t (k:Int) p=true
   ·rw [f9 h2,f9 (dot_iff.1 h2),h2p t f (k+1) (k:Int) (by omega),d8 (show ¬((k:Int) < 0) by omega)]
    simp only [wA]
    omega
   ·rw [a7 h2,a7 (fun e=>h2 (dot_iff.2 e))]
    rfl
theorem c3b {b:Int} (t:List UInt8):∀ (f k:Nat) (p:Int),0<=p->(mL t b f k p).1=p
 | 0,k,p,_=>rfl
 | f+1,k,p,h=>by
  unfold mL
  split
  ·exact c3b t f (k+1) p h
  ·rw [a7]
   intro e
   have:=(dot_iff.1 e).2
   rw [d8 (show ¬(p < 0) by omega)] at this
   cases this
theorem b3m {b:Int} (t:List UInt8):∀ (f k:Nat),k+f=t.length->(mL t b f k (-1)).1=match eH b (t.drop k) with
  | none=> -1
  | some j=>((k+j:Nat):Int)
 | 0,k,h=>by
  rw [Y6 (by omega)]; rfl
 | f+1,k,h=>by
  have hk:k < t.length:=by omega
  rw [M5 hk]
  unfold mL eH
  by_cases h1:u7 (chI t (k:Int)) < b
  ·rw [f9 h1,f9 (show dgB b (t.getD k 0)=true from i6 h1),b3m t f (k+1) (by omega)]
   cases eH b (t.drop (k+1)) with
   | none=>rfl
   | some j=>show ((k+1+j:Nat):Int)=((k+(j+1):Nat):Int); omega
  ·rw [a7 h1,a7 (show ¬dgB b (t.getD k 0)=true from fun e=>h1 (G5 e))]
   by_cases h2:g0m t (k:Int) (-1)=true
   ·rw [f9 h2,f9 (dot_iff.1 h2).1,c3b t f (k+1) (k:Int) (by omega)]
    rfl
   ·rw [a7 h2,a7 (fun e=>h2 (dot_iff.2 ⟨e,rfl⟩))]
theorem s0x {t:List UInt8} {a:Nat} {b:Int} (ha:a<=t.length):maE t a b=a+s9 b (t.drop a) false:=by
 unfold maE
 exact h2p t (t.length-a) a (-1) (by omega)
theorem h1h {b:Int} (hb:b<=16):∀ (r:List UInt8),J2 b r false=match eH b r with
  | none=>r.take (s9 b r false)
  | some j=>r.take j++(r.take (s9 b r false)).drop (j+1)
 | [] =>rfl
 | c ::r=>by
  unfold J2 eH s9
  by_cases h:dgB b c=true
  ·rw [f9 h,f9 h,f9 h,h1h hb r]
   cases eH b r with
   | none=>simp
   | some j=>simp
  ·rw [a7 h,a7 h,a7 h]
   by_cases h2:c=46
   ·rw [f9 ⟨h2,rfl⟩,f9 h2,f9 ⟨h2,rfl⟩]
    have key:∀ r:List UInt8,J2 b r true=r.take (s9 b r true):=fun r=>by
     induction r with
     | nil=>rfl
     | cons c r ih=>
      unfold J2 s9
      by_cases h:dgB b c=true
      ·rw [f9 h,f9 h,ih]; simp
      ·rw [a7 h,a7 h]; simp
    simp [key]
   ·rw [a7 (fun e=>h2 e.1),a7 h2,a7 (fun e=>h2 e.1)]
    rfl
theorem m1m {b:Int} :∀ (r:List UInt8) (j:Nat),eH b r=some j->j < s9 b r false
 | [],j,h=>by cases h
 | c ::r,j,h=>by
  unfold eH at h
  unfold s9
  by_cases h1:dgB b c=true
  ·rw [f9 h1] at h ⊢
   cases h2:eH b r with
   | none=>rw [h2] at h; cases h
   | some i=>
    rw [h2] at h
    cases h
    have:=m1m r i h2
    show i+1 < _
    omega
  ·rw [a7 h1] at h ⊢
   by_cases h2:c=46
   ·rw [f9 h2] at h
    rw [f9 ⟨h2,rfl⟩]
    cases h
    omega
   ·rw [a7 h2] at h; cases h
theorem x1z {t:List UInt8} {a:Nat} {b:Int} (ha:a<=t.length):maP t a b=match eH b (t.drop a) with
  | none=> -1
  | some j=>((a+j:Nat):Int):=by
 unfold maP
 exact b3m t (t.length-a) a (by omega)
theorem X9 (t:List UInt8) (a n:Nat):(t.take (a+n)).drop a=(t.drop a).take n:=by
 rw [t1e,Nat.add_sub_cancel_left]
theorem l0k {t:List UInt8} {a:Nat} {b:Int} (hb:b<=16) (ha:a<=t.length):maS t a b=J2 b (t.drop a) false:=by
 unfold maS
 rw [s0x ha,x1z ha,h1h hb]
 cases h:eH b (t.drop a) with
 | none=>simp only [show ((-1:Int) < 0) from by decide,H9]; exact X9 ..
 | some j=>
  have:=m1m _ _ h
  simp only [show ¬(((a+j:Nat):Int) < 0) from by omega,E7,g9]
  rw [X9,show a+j+1=a+(j+1) by omega,<- pT,X9]
def j2b (b:Int) (r:List UInt8):Int:=match eH b r with
 | none=>0
 | some j=>(s9 b r false:Int)-j-1
theorem q2v {t:List UInt8} {a:Nat} {b:Int} (ha:a<=t.length):maB t a b=j2b b (t.drop a):=by
 unfold maB j2b
 rw [s0x ha,x1z ha]
 cases h:eH b (t.drop a) with
 | none=>rfl
 | some j=>
  simp only [show ¬(((a+j:Nat):Int) < 0) from by omega,E7]
  omega
def i0c:List UInt8->Nat
 | [] =>0
 | c ::r=>if dgB 10 c=true then i0c r+1 else 0
def sgC (c:UInt8):Bool:=c==43 || c==45
def sgN:List UInt8->Nat
 | [] =>0
 | c ::_=>if sgC c=true then 1 else 0
def xN (L:List UInt8):List UInt8->Nat
 | [] =>0
 | c ::r=>if c∈L then (if i0c (r.drop (sgN r))=0 then 0 else 1+sgN r+i0c (r.drop (sgN r))) else 0
theorem h1j:∀ (r:List UInt8),i0c r<=r.length
 | [] =>d9 _
 | c ::r=>by
  have:=h1j r
  unfold i0c
  rw [A4]
  split <;> omega
theorem c2s (t:List UInt8):∀ (f k:Nat) (n:Int),k+f=t.length->(h0b t f k n).2=k+i0c (t.drop k)
 | 0,k,n,h=>by
  rw [Y6 (by omega)]; rfl
 | f+1,k,n,h=>by
  have hk:k < t.length:=by omega
  rw [M5 hk]
  unfold h0b i0c
  by_cases h1:u7 (chI t (k:Int)) < 10
  ·rw [f9 h1,f9 (show dgB 10 (t.getD k 0)=true from i6 h1),c2s t f (k+1) _ (by omega)]
   omega
  ·rw [a7 h1,a7 (show ¬dgB 10 (t.getD k 0)=true from fun e=>h1 (G5 e))]
   rfl
theorem q0o (x y c:UInt8):h2v [x,y] [c] =true↔c∈[x,y] :=by
 unfold h2v
 rw [Lib.index_one]
 simp only [Lib.indexByte]
 by_cases h1:x=c
 ·subst h1; simp
 ·by_cases h2:y=c
  ·subst h2; simp [h1]
  ·have h1':¬c=x:=fun e=>h1 e.symm
   have h2':¬c=y:=fun e=>h2 e.symm
   simp [h1,h2,h1',h2']
theorem sg_iff {t:List UInt8} {k:Nat} :sgB t (k:Int)=true↔sgN (t.drop k)=1:=by
 unfold sgB ltE
 by_cases hk:k < t.length
 ·rw [i6 (show (k:Int) < (t.length:Int) by omega),M5 hk]
  have key:∀ n:Nat,n < 256->(chI t (k:Int)==(n:Int))=(t.getD k 0==zO4 n):=fun n hn=>by
   have hc:chI t (k:Int)=((t.getD k 0).toNat:Int):=rfl
   rw [hc]
   by_cases h:t.getD k 0=zO4 n
   ·rw [h]; simp [Nat.mod_eq_of_lt hn]
   ·rw [y9 h]
    refine y9 fun e=>h ?_
    have e:(t.getD k 0).toNat=n:=by omega
    rw [<- e]; simp
  have k1:=key 43 (by decide)
  have k2:=key 45 (by decide)
  simp only [sgN,sgC]
  show (match chI t (k:Int)==((43:Nat):Int) with | true=>true | false=>chI t (k:Int)==((45:Nat):Int))=true↔_
  rw [k1,k2]
  have fin:∀ x y:Bool,(match x with | true=>true | false=>y)=true↔(if (x || y)=true then 1 else 0)=1:=by decide
  exact fin _ _
 ·rw [d8 (show ¬((k:Int) < (t.length:Int)) by omega),Y6 (by omega)]
  simp [sgN]
theorem r0j (r:List UInt8):sgN r<=1:=by
 cases r with
 | nil=>exact s6 _
 | cons c r=>
  show (if sgC c=true then 1 else 0)<=1
  split
  ·exact d9 _
  ·exact s6 _
theorem s0o (t:List UInt8) (m:Nat):exK t m=m+1+sgN (t.drop (m+1)):=by
 unfold exK
 by_cases h:sgB t ((m+1:Nat):Int)=true
 ·rw [f9 h,sg_iff.1 h]
 ·rw [a7 h]
  have:=r0j (t.drop (m+1))
  have h2:¬sgN (t.drop (m+1))=1:=fun e=>h (sg_iff.2 e)
  omega
theorem t0h (r:List UInt8):sgN r<=r.length:=by
 cases r with
 | nil=>exact d9 _
 | cons c r=>
  have:=r0j (c ::r)
  rw [A4]
  omega
theorem s2c {t:List UInt8} {x y:UInt8} {m:Nat} (hl:t.length < 9223372036854775807) (hm:m<=t.length):exE t [x,y] m=m+xN [x,y] (t.drop m):=by
 unfold exE hdB geB
 by_cases hk:m < t.length
 ·rw [d8 (show ¬((m:Int)>=(t.length:Int)) by omega),M5 hk]
  have hs:n2u t (m:Int)=[t.getD m 0] :=by
   unfold n2u
   rw [wr (by omega) (by omega),show ((m:Int)+1).toNat=m+1 by omega,g9,X9,M5 hk]
   rfl
  simp only [hs,xN]
  by_cases hc:t.getD m 0∈[x,y]
  ·rw [f9 hc,(q0o x y _).2 hc]
   have he:(exR t m).2=exK t m+i0c ((t.drop (m+1)).drop (sgN (t.drop (m+1)))):=by
    have hle:=t0h (t.drop (m+1))
    rw [C2] at hle
    unfold exR
    rw [c2s t _ _ 0 (by rw [s0o]; omega),s0o,pT]
   simp only [Bool.not_true,O6,E7]
   rw [he]
   by_cases hz:i0c ((t.drop (m+1)).drop (sgN (t.drop (m+1))))=0
   ·rw [f9 hz,f9 (by omega)]; rfl
   ·rw [a7 hz,a7 (by omega),s0o]; omega
  ·rw [a7 hc]
   have:h2v [x,y] [t.getD m 0] =false:=by
    cases h:h2v [x,y] [t.getD m 0] with
    | false=>rfl
    | true=>exact absurd ((q0o x y _).1 h) hc
   rw [this]
   rfl
 ·rw [i6 (show (m:Int)>=(t.length:Int) by omega),Y6 (by omega)]
  rfl
def mJ (L:List UInt8):List UInt8->Nat
 | [] =>0
 | c ::r=>if c∈L then 0 else mJ L r+1
def h2l (l:List UInt8):Bool:= !(l.drop (sgN l)).isEmpty && (l.drop (sgN l)).all (dgB 10)
def a0f:List UInt8->Bool
 | [] =>true
 | _ ::w=>h2l w
def zD (b:Int) (L u:List UInt8):Bool:=fM b (u.take (mJ L u)) false && !(J2 b (u.take (mJ L u)) false).isEmpty && a0f (u.drop (mJ L u))
def bT (b:Int) (L r:List UInt8):Nat:=s9 b r false+xN L (r.drop (s9 b r false))
theorem n0q (L:List UInt8):∀ u,mJ L u<=u.length
 | [] =>d9 _
 | c ::u=>by
  have:=n0q L u
  unfold mJ
  rw [A4]
  split <;> omega
theorem sT {b:Int} {L:List UInt8} (hL:∀ c∈L,dgB b c=false∧c≠46):∀ (r:List UInt8) (s:Bool) (n:Nat),n<=r.length->s9 b r s<=n->mJ L (r.take n)=s9 b r s+mJ L ((r.drop (s9 b r s)).take (n-s9 b r s))
 | [],s,n,h,_=>by simp [mJ,s9]
 | c ::r,s,n,h,h2=>by
  unfold s9 at h2 ⊢
  by_cases h3:dgB b c=true
  ·rw [f9 h3] at h2 ⊢
   obtain⟨m,rfl⟩:∃ m,n=m+1:=⟨n-1,by omega⟩
   have ih:=sT hL r s m (by simpa using h) (by omega)
   rw [aY,mJ,a7 (fun e=>by rw [(hL c e).1] at h3; cases h3),ih,List.drop_succ_cons,show m+1- (s9 b r s+1)=m-s9 b r s by omega]
   omega
  ·rw [a7 h3] at h2 ⊢
   by_cases h4:c=46∧s=false
   ·rw [f9 h4] at h2 ⊢
    obtain⟨m,rfl⟩:∃ m,n=m+1:=⟨n-1,by omega⟩
    have ih:=sT hL r true m (by simpa using h) (by omega)
    rw [aY,mJ,a7 (fun e=>(hL c e).2 h4.1),ih,List.drop_succ_cons,show m+1- (s9 b r true+1)=m-s9 b r true by omega]
    omega
   ·rw [a7 h4]
    simp
theorem l0l {b:Int} :∀ (r:List UInt8) (s:Bool) (n:Nat),J2 b r s=[] ->J2 b (r.take n) s=[]
 | [],s,n,h=>by simp [J2]
 | c ::r,s,0,h=>rfl
 | c ::r,s,n+1,h=>by
  rw [aY]
  unfold J2 at h ⊢
  by_cases h3:dgB b c=true
  ·rw [f9 h3] at h; cases h
  ·rw [a7 h3] at h ⊢
   by_cases h4:c=46∧s=false
   ·rw [f9 h4] at h ⊢
    exact l0l r true n h
   ·rw [a7 h4]
theorem eK {b:Int} :∀ (r:List UInt8) (s:Bool),J2 b (r.take (s9 b r s)) s=J2 b r s
 | [],s=>by simp [J2]
 | c ::r,s=>by
  unfold s9
  by_cases h3:dgB b c=true
  ·rw [f9 h3,aY,J2,f9 h3,eK r s,J2,f9 h3]
  ·rw [a7 h3]
   by_cases h4:c=46∧s=false
   ·rw [f9 h4,aY,J2,a7 h3,f9 h4,eK r true,J2,a7 h3,f9 h4]
   ·rw [a7 h4,k0i]
    unfold J2
    rw [a7 h3,a7 h4]
theorem o0h:∀ (r:List UInt8) (n:Nat),n<=r.length->((r.take n).all (dgB 10)=true↔n<=i0c r)
 | [],n,h=>by
  obtain rfl:n=0:=by simpa using h
  simp
 | c ::r,0,h=>by simp
 | c ::r,n+1,h=>by
  have ih:=o0h r n (by simpa using h)
  rw [aY,List.all_cons]
  unfold i0c
  by_cases h3:dgB 10 c=true
  ·rw [f9 h3,h3,cF,ih]; omega
  ·rw [a7 h3]
   simp [h3]
theorem r1q (r:List UInt8) {m:Nat} (h:0 < m):sgN (r.take m)=sgN r:=by
 obtain⟨k,rfl⟩:∃ k,m=k+1:=⟨m-1,by omega⟩
 cases r <;> rfl
theorem h1a (r:List UInt8) (m:Nat) (h:m<=r.length):h2l (r.take m)=true↔sgN r < m∧m<=sgN r+i0c (r.drop (sgN r)):=by
 unfold h2l
 cases m with
 | zero=>simp
 | succ k=>
  have hs:=t0h r
  rw [r1q r (by omega),t1e,A9]
  by_cases hk:sgN r < k+1
  ·rw [o0h _ _ (by rw [C2]; omega)]
   have hne:((r.drop (sgN r)).take (k+1-sgN r)).isEmpty=false:=by
    rw [List.isEmpty_eq_false_iff]
    intro e
    have:=aP List.length e
    rw [E0,C2,jN] at this
    omega
   rw [hne]
   simp only [wA,true_and]
   omega
  ·have:k+1-sgN r=0:=by omega
   rw [this]
   simp [hk]
theorem p0j {b:Int} {L:List UInt8} (hb:b<=16) (hL:∀ c∈L,dgB b c=false∧c≠46) {r:List UInt8} {n:Nat} (hn:n<=r.length) (h:zD b L (r.take n)=true):n<=bT b L r∧J2 b r false≠[] :=by
 unfold zD at h
 rw [A9,A9] at h
 obtain⟨⟨h1,h2⟩,h3⟩:=h
 have hle:mJ L (r.take n)<=n:=by
  have:=n0q L (r.take n)
  rw [E0] at this
  omega
 rw [b0b,C6 hle] at h1 h2
 have hne:J2 b r false≠[] :=fun e=>by
  rw [l0l r false _ e] at h2
  simp at h2
 refine⟨?_,hne⟩
 unfold bT
 by_cases hE:n<=s9 b r false
 ·omega
 have hc:=(t0n hb r false _ (by omega)).1 h1
 rw [sT hL r false n hn (by omega)] at hc h3
 have hlt:s9 b r false < r.length:=by omega
 obtain⟨c,r2,hr⟩:∃ c r2,r.drop (s9 b r false)=c ::r2:=by
  cases h:r.drop (s9 b r false) with
  | nil=>have:=aP List.length h; rw [C2,jN] at this; omega
  | cons c r2=>exact⟨c,r2,rfl⟩
 have hlen:r2.length=r.length-s9 b r false-1:=by
  have:=aP List.length hr
  rw [C2,A4] at this
  omega
 obtain⟨m,hm⟩:∃ m,n-s9 b r false=m+1:=⟨n-s9 b r false-1,by omega⟩
 rw [hr,hm,aY] at hc h3
 by_cases hcL:c∈L
 ·rw [mJ,f9 hcL,I1,t1e,hr,hm,aY] at h3
  have hw:=(h1a r2 m (by omega)).1 h3
  rw [hr,xN,f9 hcL,a7 (by omega)]
  omega
 ·rw [mJ,a7 hcL] at hc
  omega
theorem l1s (L:List UInt8) (c:UInt8) (r:List UInt8):xN L (c ::r)=if c∈L then (if i0c (r.drop (sgN r))=0 then 0 else 1+sgN r+i0c (r.drop (sgN r))) else 0:=rfl
theorem r2f (L:List UInt8) (r:List UInt8):xN L r<=r.length:=by
 cases r with
 | nil=>exact d9 _
 | cons c r=>
  have h1:=t0h r
  have h2:=h1j (r.drop (sgN r))
  rw [C2] at h2
  rw [l1s,A4]
  split
  ·split <;> omega
  ·omega
theorem rZ (b:Int) (L r:List UInt8):bT b L r<=r.length:=by
 have h1:=L4 b r false
 have h2:=r2f L (r.drop (s9 b r false))
 rw [C2] at h2
 unfold bT
 omega
theorem h1o {b:Int} {L:List UInt8} (hb:b<=16) (hL:∀ c∈L,dgB b c=false∧c≠46) {r:List UInt8} (h:J2 b r false≠[]):zD b L (r.take (bT b L r))=true:=by
 have hE:=L4 b r false
 have hN:=rZ b L r
 have hEN:s9 b r false<=bT b L r:=by unfold bT; omega
 have key:mJ L (r.take (bT b L r))=s9 b r false∧a0f ((r.take (bT b L r)).drop (s9 b r false))=true:=by
  rw [sT hL r false _ hN hEN,t1e]
  have e:bT b L r-s9 b r false=xN L (r.drop (s9 b r false)):=by unfold bT; omega
  rw [e]
  cases hr:r.drop (s9 b r false) with
  | nil=>exact⟨by simp [mJ],by simp [a0f]⟩
  | cons c r2=>
   have hx:=r2f L (c ::r2)
   have hlen:=aP List.length hr
   rw [C2,A4] at hlen
   rw [A4] at hx
   rw [l1s] at hx ⊢
   by_cases hcL:c∈L
   ·rw [f9 hcL] at hx ⊢
    by_cases hz:i0c (r2.drop (sgN r2))=0
    ·rw [f9 hz]; exact⟨by simp [mJ],by simp [a0f]⟩
    ·rw [a7 hz] at hx ⊢
     rw [show 1+sgN r2+i0c (r2.drop (sgN r2))=sgN r2+i0c (r2.drop (sgN r2))+1 by omega,aY,mJ,f9 hcL]
     refine⟨rfl,?_⟩
     exact (h1a r2 _ (by omega)).2 ⟨by omega,d9 _⟩
   ·rw [a7 hcL]; exact⟨by simp [mJ],by simp [a0f]⟩
 unfold zD
 rw [key.1,key.2,b0b,C6 hEN,(t0n hb r false _ hE).2 (d9 _),eK]
 simp [h]
def hxL:List UInt8->Bool
 | c ::d ::_=>c==48 && (d==120 || d==88)
 | _=>false
def f0b (t:List UInt8):Bool:=if hxL t=true then zD 16 pP (t.drop 2) else zD 10 eE t
theorem e2q:∀ c∈eE,dgB 10 c=false∧c≠46:=by
 intro c hc
 simp only [zzA86,V2,U7] at hc
 rcases hc with rfl | rfl <;> decide
theorem t1b:∀ c∈pP,dgB 16 c=false∧c≠46:=by
 intro c hc
 simp only [zzA86,V2,U7] at hc
 rcases hc with rfl | rfl <;> decide
theorem jM {t:List UInt8} {k n:Nat} (hn:n < 256):(chI t (k:Int)==(n:Int))=(t.getD k 0==zO4 n):=by
 have hc:chI t (k:Int)=((t.getD k 0).toNat:Int):=rfl
 rw [hc]
 by_cases h:t.getD k 0=zO4 n
 ·rw [h]; simp [Nat.mod_eq_of_lt hn]
 ·rw [y9 h]
  refine y9 fun e=>h ?_
  have e:(t.getD k 0).toNat=n:=by omega
  rw [<- e]; simp
theorem w0h (t:List UInt8):hxB t=hxL t:=by
 have k0:=jM (t:=t) (k:=0) (n:=48) (by decide)
 have k1:=jM (t:=t) (k:=1) (n:=120) (by decide)
 have k2:=jM (t:=t) (k:=1) (n:=88) (by decide)
 unfold hxB h0B
 show (match (match decide ((t.length:Int) > 1) with | true=>chI t ((0:Nat):Int)==((48:Nat):Int) | false=>false) with | true=>(match chI t ((1:Nat):Int)==((120:Nat):Int) with | true=>true | false=>chI t ((1:Nat):Int)==((88:Nat):Int)) | false=>false)=_
 rw [k0,k1,k2]
 match t with
 | [] =>rfl
 | [c] =>rfl
 | c ::d ::r=>
  rw [i6 (show (((c ::d ::r).length:Nat):Int) > 1 by rw [A4,A4]; omega)]
  show (match c==48 with | true=>(match d==120 with | true=>true | false=>d==88) | false=>false)=(c==48 && (d==120 || d==88))
  cases (c==48) <;> cases (d==120) <;> cases (d==88) <;> rfl
theorem kH {t:List UInt8} (h:hxL t=true):∃ d r,t=48 ::d ::r∧(d=120∨d=88):=by
 match t with
 | [] =>cases h
 | [c] =>cases h
 | c ::d ::r=>
  unfold hxL at h
  rw [A9,xX,zzA225,zzA225,zzA225] at h
  obtain⟨rfl,h⟩:=h
  exact⟨d,r,rfl,h⟩
theorem k1w {t:List UInt8} {n:Nat} (h:hxL t=false):hxL (t.take n)=false:=by
 match t,n with
 | [],_=>simp [hxL]
 | _,0=>simp [hxL]
 | [c],n+1=>simp [hxL]
 | c ::d ::r,1=>simp [hxL]
 | c ::d ::r,n+2=>exact h
theorem d1f {t:List UInt8} {x y:UInt8} {a:Nat} {b:Int} (hl:t.length < 9223372036854775807) (ha:a<=t.length):exE t [x,y] (maE t a b)=a+bT b [x,y] (t.drop a):=by
 have hE:=L4 b (t.drop a) false
 rw [C2] at hE
 rw [s0x ha,s2c hl (by omega),<- pT]
 unfold bT
 omega
theorem rP {t:List UInt8} (d:UInt8) (r:List UInt8) (h:t=48 ::d ::r) (hx:hxL t=true):D2 t= !(J2 16 r false).isEmpty:=by
 unfold D2
 rw [w0h,hx,l0k (by decide) (by rw [h]; simp),h]
 show (true && !(J2 16 r false==[]))=_
 cases J2 16 r false <;> rfl
theorem wM {t:List UInt8} {d:UInt8} {r:List UInt8} (hl:t.length < 9223372036854775807) (h:t=48 ::d ::r) (hx:hxL t=true) (hs:J2 16 r false≠[]):S0 t=2+bT 16 pP r:=by
 unfold S0
 rw [rP d r h hx]
 simp only [show (J2 16 r false).isEmpty=false from List.isEmpty_eq_false_iff.2 hs,wA,H9]
 rw [d1f hl (by rw [h]; simp),h]
 rfl
theorem Y5 {t:List UInt8} (hl:t.length < 9223372036854775807) (hx:D2 t=false):S0 t=if J2 10 t false=[] then 0 else bT 10 eE t:=by
 unfold S0
 rw [hx]
 simp only [O6,E7]
 rw [l0k (by decide) (s6 _),d1f hl (s6 _),U8,I0]
theorem sG {t:List UInt8} (hx:hxL t=false):D2 t=false:=by
 unfold D2
 rw [w0h,hx]
 rfl
theorem lY {d:UInt8} {r:List UInt8} (hd:d=120∨d=88):J2 10 (48 ::d ::r) false≠[] ∧bT 10 eE (48 ::d ::r)=1:=by
 have h0:dgB 10 48=true:=by decide
 have h1:dgB 10 d=false∧d≠46∧d ∉ eE:=by
  rcases hd with rfl | rfl <;> decide
 have hl:s9 10 (48 ::d ::r) false=1:=by
  unfold s9
  rw [f9 h0]
  unfold s9
  rw [a7 (by rw [h1.1]; decide),a7 (fun e=>h1.2.1 e.1)]
 refine⟨?_,?_⟩
 ·unfold J2
  rw [f9 h0]
  intro e
  cases e
 ·unfold bT
  rw [hl,List.drop_succ_cons,U8,xN,a7 h1.2.2]
theorem c2c {t:List UInt8} (hl:t.length < 9223372036854775807) {n:Nat} (hn:n<=t.length) (h:f0b (t.take n)=true):n<=S0 t:=by
 cases hx:hxL t with
 | false=>
  unfold f0b at h
  rw [k1w hx,a7 (by decide)] at h
  obtain⟨h1,h2⟩:=p0j (by decide) e2q hn h
  rw [Y5 hl (sG hx),a7 h2]
  exact h1
 | true=>
  obtain⟨d,r,ht,hd⟩:=kH hx
  subst ht
  by_cases hs:J2 16 r false=[]
  ·have hb:D2 (48 ::d ::r)=false:=by rw [rP d r rfl hx,hs]; rfl
   rw [Y5 hl hb,a7 (lY hd).1,(lY hd).2]
   match n,hn,h with
   | 0,_,_=>omega
   | 1,_,_=>omega
   | m+2,hn,h=>
    unfold f0b at h
    rw [aY,aY,f9 (show hxL (48 ::d ::r.take m)=true from hx)] at h
    exact absurd hs (p0j (by decide) t1b (by simp only [A4] at hn; omega) h).2
  ·rw [wM hl rfl hx hs]
   match n,hn,h with
   | 0,_,_=>omega
   | 1,_,_=>omega
   | m+2,hn,h=>
    unfold f0b at h
    rw [aY,aY,f9 (show hxL (48 ::d ::r.take m)=true from hx)] at h
    have:=(p0j (by decide) t1b (by simp only [A4] at hn; omega) h).1
    omega
theorem h2u {t:List UInt8} (hl:t.length < 9223372036854775807) (h:S0 t≠0):f0b (t.take (S0 t))=true:=by
 cases hx:hxL t with
 | false=>
  rw [Y5 hl (sG hx)] at h ⊢
  by_cases hs:J2 10 t false=[]
  ·rw [f9 hs] at h; exact absurd rfl h
  ·rw [a7 hs]
   unfold f0b
   rw [k1w hx,a7 (by decide)]
   exact h1o (by decide) e2q hs
 | true=>
  obtain⟨d,r,ht,hd⟩:=kH hx
  subst ht
  by_cases hs:J2 16 r false=[]
  ·have hb:D2 (48 ::d ::r)=false:=by rw [rP d r rfl hx,hs]; rfl
   rw [Y5 hl hb,a7 (lY hd).1,(lY hd).2]
   rfl
  ·rw [wM hl rfl hx hs,g0x 2,aY,aY]
   unfold f0b
   rw [f9 (show hxL (48 ::d ::r.take (bT 16 pP r))=true from hx)]
   exact h1o (by decide) t1b hs
theorem q1j {t:List UInt8} (hl:t.length < 9223372036854775807):S0 t<=t.length:=by
 cases hx:hxL t with
 | false=>
  rw [Y5 hl (sG hx)]
  split
  ·omega
  ·exact rZ _ _ _
 | true=>
  obtain⟨d,r,ht,hd⟩:=kH hx
  subst ht
  by_cases hs:J2 16 r false=[]
  ·have hb:D2 (48 ::d ::r)=false:=by rw [rP d r rfl hx,hs]; rfl
   rw [Y5 hl hb,a7 (lY hd).1]
   exact rZ _ _ _
  ·rw [wM hl rfl hx hs]
   have:=rZ 16 pP r
   simp only [A4]
   omega
theorem i0t (r:List UInt8) (a i:Nat):(r.drop a).getD i 0=r.getD (a+i) 0:=by
 simp [List.getD,List.getElem?_drop]
end Go.Proofs.YtkiejangmhhofaaGreatDoor
