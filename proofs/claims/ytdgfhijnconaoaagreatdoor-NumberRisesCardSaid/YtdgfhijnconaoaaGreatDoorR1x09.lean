/-
 NumberRises: of two texts the one with the greater value is never read as the lesser number; no condition (a part of the proof).
-/
import Derived.Test.YtdgfhijnconaoaaGreatDoorR1x08
import Derived.Test.YtdgfhijnconaoaaGreatDoorR1x05
import Derived.Shelf.Strings.Search3
import Derived.Test.YtdgfhijnconaoaaGreatDoorR1x06
import Derived.Shelf.Pu.Clone
set_option maxRecDepth 1000000
namespace Go.Proofs.YtdgfhijnconaoaaGreatDoor
open Go Go.RowKit Ev Wd VaS
theorem u64l {n:Nat} (h:n < 18446744073709551616):IntKind.u64.wrap (n:Int)=(n:Int):=by
 simp [IntKind.wrap,IntKind.bits,IntKind.signed]
 omega
theorem bv64 {n:Nat} (h:n < 18446744073709551616):(BitVec.ofInt IntKind.u64.bits (n:Int)).toNat=n:=by
 show (BitVec.ofInt 64 (n:Int)).toNat=n
 rw [BitVec.ofInt_natCast,BitVec.toNat_ofNat]
 exact Nat.mod_eq_of_lt h
theorem frL_eq {x:Nat} (hx:x < 9223372036854775808):frL x=((x%4503599627370496:Nat):Int):=by
 unfold frL
 have h3:(BitVec.ofInt IntKind.u64.bits (x:Int)&&& ~~~BitVec.ofInt IntKind.u64.bits 9218868437227405312).toNat=x%4503599627370496:=by
  rw [BitVec.toNat_and,bv64 (by omega),show (~~~BitVec.ofInt IntKind.u64.bits 9218868437227405312).toNat=9227875636482146303 by decide]
  have hx0:x&&& 9223372036854775807=x:=by
   have:=Nat.and_two_pow_sub_one_eq_mod x 63
   rw [show 2 ^63-1=9223372036854775807 by decide,show 2 ^63=9223372036854775808 by decide,Nat.mod_eq_of_lt hx] at this
   exact this
  have h1:x&&& 9227875636482146303=x&&& (2 ^52-1):=by
   rw [← hx0,Nat.and_assoc,Nat.and_assoc]
   rfl
  rw [h1,Nat.and_two_pow_sub_one_eq_mod]
 rw [h3]
 exact u64l (by omega)
theorem exL_eq {x:Nat} (hx:x < 9218868437227405312):exL x=((x/4503599627370496:Nat):Int)-1023:=by
 unfold exL
 have hd:x/4503599627370496 < 2047:=(Nat.div_lt_iff_lt_mul (by decide)).2 (by omega)
 have h1:(x:Int).fdiv (2 ^min (Int.toNat 52) IntKind.u64.bits)=((x/4503599627370496:Nat):Int):=(Int.ofNat_fdiv x 4503599627370496).symm
 rw [h1]
 generalize x/4503599627370496=d at*
 have h2:IntKind.i64.wrap (d:Int)=(d:Int):=i64w (by omega) (by omega)
 rw [h2]
 have h3:(BitVec.ofInt IntKind.i64.bits (d:Int)&&& BitVec.ofInt IntKind.i64.bits 2047).toNat=d:=by
  rw [BitVec.toNat_and,show (BitVec.ofInt IntKind.i64.bits (d:Int)).toNat=d from bv64 (by omega),show (BitVec.ofInt IntKind.i64.bits 2047).toNat=2 ^11-1 by decide,Nat.and_two_pow_sub_one_eq_mod]
  exact Nat.mod_eq_of_lt (by omega)
 rw [h3,h2,i64w (by omega) (by omega)]
theorem kw_lt {k r:Nat} (hk:k < 2048) (hr:r < 4503599627370496):k*4503599627370496+r < 18446744073709551616:=by omega
theorem kw_lt2 {k:Nat} (hk:k < 2048):k*4503599627370496 < 18446744073709551616:=by omega
theorem bwL_eq {x:Nat} {P:Int} (hx:x < 9218868437227405312) (h0:0≤P+1023) (h1:P+1023 < 2048):bwL x P=(P+1023).toNat*4503599627370496+x%4503599627370496:=by
 unfold bwL
 rw [frL_eq (by omega),i64w (n:=P+1023) (by omega) (by omega)]
 obtain⟨k,hk⟩:=Int.eq_ofNat_of_zero_le h0
 rw [hk,Int.toNat_natCast]
 have hk2:k < 2048:=by omega
 have h2:IntKind.u64.wrap (k:Int)=(k:Int):=u64l (by omega)
 have h3:(k:Int)*2 ^min (Int.toNat 52) IntKind.u64.bits=((k*4503599627370496:Nat):Int):=by
  rw [Int.natCast_mul]
  rfl
 have hm:x%4503599627370496 < 4503599627370496:=Nat.mod_lt _ (by decide)
 generalize x%4503599627370496=r at*
 have hs:=Nat.shiftLeft_add_eq_or_of_lt (i:=52) (by show r < 4503599627370496; exact hm) k
 have e2:k <<< 52=k*4503599627370496:=by rw [Nat.shiftLeft_eq]
 rw [e2] at hs
 have h4:k*4503599627370496+r < 18446744073709551616:=kw_lt hk2 hm
 have h7:k*4503599627370496 < 18446744073709551616:=kw_lt2 hk2
 have h8:r < 18446744073709551616:=Nat.lt_trans hm (by decide)
 have h5:IntKind.u64.wrap ((k*4503599627370496:Nat):Int)=((k*4503599627370496:Nat):Int):=u64l h7
 have h6:(BitVec.ofInt IntKind.u64.bits (r:Int)||| BitVec.ofInt IntKind.u64.bits ((k*4503599627370496:Nat):Int)).toNat=k*4503599627370496+r:=by
  rw [BitVec.toNat_or,bv64 h8,bv64 h7,Nat.or_comm,← hs]
 rw [h2,h3,h5,h6,u64l h4,Int.toNat_natCast]
theorem infL_eq {x:Nat} (hx:x < 9218868437227405312):infL x=false:=by
 unfold infL
 rw [absL_eq (by omega),gtL_eq (by omega) (by omega),decide_eq_false (by omega)]
 show (Ieee.double.order x x !=some .eq)=false
 have:=eqNu_eq (a:=x) (b:=x) (by omega) (by omega)
 unfold eqNu at this
 rw [bne,this]
 simp
theorem eqNu_no {x:Nat} (h:4503599627370496≤x) (hx:x < 9218868437227405312):eqNu x 0=false:=by
 rw [eqNu_eq (by omega) (by omega)]
 exact decide_eq_false (by omega)
def f64N (m:Nat):Nat:=Ieee.double.nearest false m 0
theorem f64N_zero:f64N 0=0:=by decide
theorem split_word {a M:Nat} (h1:4503599627370496≤M) (h2:M < 9007199254740992):(a*4503599627370496+M)/4503599627370496=a+1∧(a*4503599627370496+M)%4503599627370496=M-4503599627370496:=by omega
theorem word_range {a M:Nat} (ha:a≤1074) (h1:4503599627370496≤M) (h2:M < 9007199254740992):4503599627370496≤a*4503599627370496+M∧a*4503599627370496+M < 9218868437227405312:=by omega
theorem f64N_eq {m:Nat} (h0:0 < m) (h53:m < 9007199254740992):∃ t:Nat,t≤52∧4503599627370496≤m*2 ^t∧m*2 ^t < 9007199254740992∧(4503599627370496≤m→t=0)∧(m < 4503599627370496→0 < t)∧f64N m/4503599627370496=1074-t+1∧f64N m%4503599627370496=m*2 ^t-4503599627370496∧4503599627370496≤f64N m∧f64N m < 9218868437227405312:=by
 have hb:=log2_b (show m≠0 by omega)
 have hl:m.log2 < 53:=(Nat.log2_lt (by omega)).2 (by show m < 9007199254740992; exact h53)
 have e1:2 ^m.log2*2 ^(52-m.log2)=4503599627370496:=by
  rw [← Nat.pow_add,show m.log2+(52-m.log2)=52 by omega]
 have e2:2 ^(m.log2+1)*2 ^(52-m.log2)=9007199254740992:=by
  rw [← Nat.pow_add,show m.log2+1+(52-m.log2)=53 by omega]
 have h1:4503599627370496≤m*2 ^(52-m.log2):=by
  rw [← e1]
  exact Nat.mul_le_mul_right _ hb.1
 have h2:m*2 ^(52-m.log2) < 9007199254740992:=by
  rw [← e2]
  exact Nat.mul_lt_mul_of_pos_right hb.2 (Nat.pow_pos (by decide))
 refine⟨52-m.log2,by omega,h1,h2,fun h=> ?_,fun h=> ?_,?_⟩
 ·have:=(Nat.le_log2 (by omega)).2 (show 2 ^52≤m from h)
  omega
 ·have:=(Nat.log2_lt (by omega)).2 (show m < 2 ^52 from h)
  omega
 ·have e:=near_left (m:=m) (t:=52-m.log2) (P:=0) h1 h2 (by omega) (by omega)
  have hk:(0- ((52-m.log2:Nat):Int)+1074).toNat=1074- (52-m.log2):=by omega
  rw [hk] at e
  unfold f64N
  rw [e]
  obtain⟨q1,q2⟩:=split_word (a:=1074- (52-m.log2)) h1 h2
  obtain⟨q3,q4⟩:=word_range (a:=1074- (52-m.log2)) (by omega) h1 h2
  exact⟨q1,q2,q3,q4⟩
end Go.Proofs.YtdgfhijnconaoaaGreatDoor
namespace Go.Proofs.YtdgfhijnconaoaaGreatDoor
open Go Go.RowKit Ev Wd VaS
theorem near_sub {m u:Nat} (h0:0 < m) (h:m*2 ^u < 4503599627370496):Ieee.double.nearest false m ((u:Int)-1074)=m*2 ^u:=by
 have hb:=log2_b (show m≠0 by omega)
 have hl:m.log2+u < 52:=by
  have h1:2 ^(m.log2+u)≤m*2 ^u:=by rw [Nat.pow_add]; exact Nat.mul_le_mul_right _ hb.1
  have h2:2 ^(m.log2+u) < 2 ^52:=Nat.lt_of_le_of_lt h1 h
  exact (Nat.pow_lt_pow_iff_right (a:=2) (by decide)).1 h2
 have hlast:max ((u:Int)-1074+(m.log2:Nat)- (Ieee.double.fractionBits:Nat)) Ieee.double.leastPlace= -1074:=by
  rw [least_d,frac_d]
  omega
 unfold Ieee.Format.nearest
 rw [if_neg (show m≠0 by omega)]
 simp only [hlast]
 have hm:0 < m*2 ^u:=Nat.mul_pos h0 (Nat.pow_pos (by decide))
 have e1:((u:Int)-1074- -1074).toNat=u:=by omega
 have e2:(-1074- ((u:Int)-1074)).toNat=0:=by omega
 rw [e1,e2,Nat.shiftLeft_eq,cut_even (M:=m*2 ^u) (k:=0) (by simp) hm,least_d,word_f,inf_d]
 have e3:((-1074:Int)- -1074).toNat=0:=rfl
 rw [e3,Nat.zero_mul,Nat.zero_add]
 exact Nat.min_eq_left (Nat.le_of_lt (Nat.lt_trans h (by decide)))
theorem over {k c:Nat} (hk:2046≤k) (hc:4503599627370496≤c):9218868437227405312≤k*4503599627370496+c:=by omega
theorem near_ovf {m t:Nat} {P:Int} (h1:4503599627370496≤m*2 ^t) (h53:m*2 ^t < 9007199254740992) (hT:971 < P-t):Ieee.double.nearest false m P=9218868437227405312:=by
 have h2:0 < 2 ^t:=Nat.pow_pos (by decide)
 have h0:m≠0:=by
  intro e
  subst e
  omega
 have hm:0 < m*2 ^t:=by omega
 have ht:t≤52:=by
  have h3:2 ^t≤m*2 ^t:=Nat.le_mul_of_pos_left _ (by omega)
  have h4:2 ^t < 2 ^53:=Nat.lt_of_le_of_lt h3 (by show _ < 9007199254740992; omega)
  have:=(Nat.pow_lt_pow_iff_right (a:=2) (by decide)).1 h4
  omega
 have hl:m.log2=52-t:=by
  refine log2_of ?_ ?_
  ·have:2 ^(52-t)*2 ^t≤m*2 ^t:=by rw [← Nat.pow_add,show 52-t+t=52 by omega]; exact h1
   exact Nat.le_of_mul_le_mul_right this h2
  ·have:m*2 ^t < 2 ^(52-t+1)*2 ^t:=by rw [← Nat.pow_add,show 52-t+1+t=53 by omega]; exact h53
   exact Nat.lt_of_mul_lt_mul_right this
 have hlast:max (P+(m.log2:Nat)- (Ieee.double.fractionBits:Nat)) Ieee.double.leastPlace=P-t:=by
  rw [hl,least_d,frac_d]
  omega
 unfold Ieee.Format.nearest
 rw [if_neg h0]
 simp only [hlast]
 have e1:(P- (P- (t:Int))).toNat=t:=by omega
 have e2:(P- (t:Int)-P).toNat=0:=by omega
 rw [e1,e2,Nat.shiftLeft_eq,cut_even (M:=m*2 ^t) (k:=0) (by simp) hm,least_d,word_f,binade_d,inf_d]
 exact Nat.min_eq_right (over (by omega) h1)
theorem plL_eq2 {x:Nat} {e:Int} (hx:x < 9218868437227405312) (he: -1000000000000000000≤e∧e≤1000000000000000000):plL x e=e+((x/4503599627370496:Nat):Int)-1023:=by
 unfold plL
 have hd:x/4503599627370496 < 2047:=(Nat.div_lt_iff_lt_mul (by decide)).2 (by omega)
 rw [exL_eq hx,Int.add_zero,i64w (n:=e) (by omega) (by omega),i64w (by omega) (by omega)]
 omega
theorem ldexp_near {m:Nat} {e:Int} (h0:0 < m) (h53:m < 9007199254740992) (hE: -1074≤e) (hT:e≤1000000000000000000):Ev.Pure Tryz.prog J0 166 [.float .f64 (f64N m), .int .i64 e] (.float .f64 (Ieee.double.nearest false m e)):=by
 obtain⟨t,ht,g1,g2,g3,g4,q1,q2,hx1,hx2⟩:=f64N_eq h0 h53
 generalize f64N m=x at*
 have hP:=plL_eq2 (x:=x) (e:=e) hx2 ⟨by omega,hT⟩
 rw [q1] at hP
 by_cases hi:971 < e-t
 ·rw [near_ovf g1 g2 hi]
  refine pure_of bLd_ok 10 _ _ (ldexp_i x e) ⟨?_,?_,?_,⟨hx1,hx2⟩,infL_eq hx2,eqNu_no hx1 hx2,trivial⟩
  ·rw [ltL_eq (by omega) (by omega)]; exact decide_eq_false (by omega)
  ·rw [hP]; exact decide_eq_true (by omega)
  ·rw [hP]; exact decide_eq_false (by show ¬_ < (-1075:Int); omega)
 by_cases hc:e-t < -1074
 ·obtain⟨u,hu⟩:=Int.eq_ofNat_of_zero_le (show 0≤e+1074 by omega)
  have he:e=(u:Int)-1074:=by omega
  have hut:u < t:=by omega
  have hpow:m*2 ^t=m*2 ^u*2 ^(t-u):=by rw [Nat.mul_assoc,← Nat.pow_add,show u+(t-u)=t by omega]
  have hsm:m*2 ^u < 4503599627370496:=by
   have h2:2*1≤2 ^(t-u):=by
    rw [show t-u=t-u-1+1 by omega,Nat.pow_succ,Nat.mul_comm]
    exact Nat.mul_le_mul_right 2 (Nat.pow_pos (by decide))
   have h3:=Nat.mul_le_mul_left (m*2 ^u) h2
   omega
  have hS:sm53 (plL x e)=e+105-t:=by
   unfold sm53
   rw [hP,i64w (by omega) (by omega)]
   omega
  have hB:=bwL_eq (x:=x) (P:=sm53 (plL x e)) hx2 (by rw [hS]; omega) (by rw [hS]; omega)
  rw [hS,q2] at hB
  have hk:(e+105- (t:Int)+1023).toNat=54- (t-u):=by omega
  rw [hk] at hB
  have hmul:=mul_small (w:=(54- (t-u))*4503599627370496+(m*2 ^t-4503599627370496)) (M:=m*2 ^u) (s:=t-u) (by omega) (by omega) (by rw [← hpow]; omega) hsm (by omega)
  rw [he,near_sub h0 hsm,← he]
  have key:=ldexp_s x e
  rw [hS,hB,hmul] at key
  refine pure_of bLd_ok 10 _ _ key ⟨rfl,?_,?_,?_,⟨hx1,hx2⟩,infL_eq hx2,eqNu_no hx1 hx2,trivial⟩
  ·rw [hP]; exact decide_eq_true (by show _ < (-1022:Int); omega)
  ·rw [hP]; exact decide_eq_false (by omega)
  ·rw [hP]; exact decide_eq_false (by show ¬_ < (-1075:Int); omega)
 ·rw [near_left g1 g2 (by omega) (by omega)]
  have hB:=bwL_eq (x:=x) (P:=plL x e) hx2 (by rw [hP]; omega) (by rw [hP]; omega)
  rw [hP,q2] at hB
  have hk:(e+((1074-t+1:Nat):Int)-1023+1023).toNat=(e-t+1074).toNat+1:=by omega
  rw [hk] at hB
  obtain⟨k,hk2⟩:∃ k,k=(e- (t:Int)+1074).toNat:=⟨_,rfl⟩
  rw [← hk2] at hB ⊢
  have hk3:k≤2045:=by omega
  have hmul:=mul_one (w:=(k+1)*4503599627370496+(m*2 ^t-4503599627370496)) (by omega) (by omega)
  have hR:(k+1)*4503599627370496+(m*2 ^t-4503599627370496)=k*4503599627370496+m*2 ^t:=by omega
  rw [hR] at hmul hB
  have key:=ldexp_n x e
  rw [hP,hB,hmul] at key
  refine pure_of bLd_ok 10 _ _ key ⟨rfl,?_,?_,?_,⟨hx1,hx2⟩,infL_eq hx2,eqNu_no hx1 hx2,trivial⟩
  ·exact decide_eq_false (by show ¬_ < (-1022:Int); omega)
  ·exact decide_eq_false (by omega)
  ·exact decide_eq_false (by show ¬_ < (-1075:Int); omega)
end Go.Proofs.YtdgfhijnconaoaaGreatDoor
namespace Go.Proofs.YtdgfhijnconaoaaGreatDoor
open Go Go.RowKit Ev Wd VaS
theorem top_eq:(9007199254740992:Nat)=4503599627370496*2 ^1:=by decide
theorem f64N_top:f64N 9007199254740992=4845873199050653696:=by decide
theorem near_top_no {e:Int} (hE: -1074≤e) (hT:e≤970):Ieee.double.nearest false 9007199254740992 e=(e+1+1074).toNat*4503599627370496+4503599627370496:=by
 have:=near_of (M:=4503599627370496) (k:=1) (E:=e+1) (by decide) (by decide) (by omega) (.inl (Nat.le_refl _)) (by omega)
 rw [← top_eq,show e+1- ((1:Nat):Int)=e by omega] at this
 exact this
theorem top_log:(9007199254740992:Nat).log2=53:=log2_of (by decide) (by decide)
theorem near_top_inf {e:Int} (hT:970 < e):Ieee.double.nearest false 9007199254740992 e=9218868437227405312:=by
 have hlast:max (e+((9007199254740992:Nat).log2:Nat)- (Ieee.double.fractionBits:Nat)) Ieee.double.leastPlace=e+1:=by
  rw [top_log,least_d,frac_d]
  omega
 unfold Ieee.Format.nearest
 rw [if_neg (by decide)]
 simp only [hlast]
 have e1:(e- (e+1)).toNat=0:=by omega
 have e2:(e+1-e).toNat=1:=by omega
 rw [e1,e2,Nat.shiftLeft_zero,cut_even top_eq (by decide),least_d,word_f,binade_d,inf_d]
 exact Nat.min_eq_right (over (by omega) (Nat.le_refl _))
theorem ldexp_top {e:Int} (hE: -1074≤e) (hT:e≤1000000000000000000):Ev.Pure Tryz.prog J0 166 [.float .f64 4845873199050653696, .int .i64 e] (.float .f64 (Ieee.double.nearest false 9007199254740992 e)):=by
 have q1:4845873199050653696/4503599627370496=1076:=by decide
 have q2:4845873199050653696%4503599627370496=0:=by decide
 have hx1:4503599627370496≤4845873199050653696:=by decide
 have hx2:4845873199050653696 < 9218868437227405312:=by decide
 have hP:=plL_eq2 (x:=4845873199050653696) (e:=e) hx2 ⟨by omega,hT⟩
 rw [q1] at hP
 by_cases hi:970 < e
 ·rw [near_top_inf hi]
  refine pure_of bLd_ok 10 _ _ (ldexp_i 4845873199050653696 e) ⟨?_,?_,?_,⟨hx1,hx2⟩,infL_eq hx2,eqNu_no hx1 hx2,trivial⟩
  ·rw [ltL_eq (Nat.le_of_lt hx2) (by decide)]; exact decide_eq_false (by decide)
  ·rw [hP]; exact decide_eq_true (by omega)
  ·rw [hP]; exact decide_eq_false (by show ¬_ < (-1075:Int); omega)
 ·rw [near_top_no hE (by omega)]
  have hB:=bwL_eq (x:=4845873199050653696) (P:=plL 4845873199050653696 e) hx2 (by rw [hP]; omega) (by rw [hP]; omega)
  rw [hP,q2] at hB
  obtain⟨k,hk2⟩:∃ k,k=(e+1+1074).toNat:=⟨_,rfl⟩
  have hk:(e+((1076:Nat):Int)-1023+1023).toNat=k+1:=by omega
  rw [hk,Nat.add_zero] at hB
  rw [← hk2]
  have hk3:k≤2045:=by omega
  have hmul:=mul_one (w:=(k+1)*4503599627370496) (by omega) (by omega)
  have hR:(k+1)*4503599627370496=k*4503599627370496+4503599627370496:=by omega
  rw [hR] at hmul hB
  have key:=ldexp_n 4845873199050653696 e
  rw [hP,hB,hmul] at key
  refine pure_of bLd_ok 10 _ _ key ⟨rfl,?_,?_,?_,⟨hx1,hx2⟩,infL_eq hx2,eqNu_no hx1 hx2,trivial⟩
  ·exact decide_eq_false (by show ¬_ < (-1022:Int); omega)
  ·exact decide_eq_false (by omega)
  ·exact decide_eq_false (by show ¬_ < (-1075:Int); omega)
theorem ldexp_le {m:Nat} {e:Int} (h0:0 < m) (h53:m≤9007199254740992) (hE: -1074≤e) (hT:e≤1000000000000000000):Ev.Pure Tryz.prog J0 166 [.float .f64 (f64N m), .int .i64 e] (.float .f64 (Ieee.double.nearest false m e)):=by
 by_cases h:m < 9007199254740992
 ·exact ldexp_near h0 h hE hT
 ·obtain rfl:m=9007199254740992:=Nat.le_antisymm h53 (Nat.le_of_not_lt h)
  rw [f64N_top]
  exact ldexp_top hE hT
end Go.Proofs.YtdgfhijnconaoaaGreatDoor
namespace Go.Proofs.YtdgfhijnconaoaaGreatDoor
open Go Go.RowKit Ev Wd VaS
def flMo (K:Nat) (M:Int) (N D:Nat) (e:Int):Nat:=if flInf K M N D e=true then 0 else flMm K N D e
def flEo (K:Nat) (M:Int) (N D:Nat) (e:Int):Int:=if flInf K M N D e=true then 0 else flEe K N D e
def flXo (K:Nat) (M:Int) (N D:Nat) (e:Int):Bool:=flInf K M N D e || !flw N D e
theorem flOut_eq (K:Nat) (M:Int) (N D:Nat) (e:Int):flOut K M N D e=[uR (flMo K M N D e),iR (flEo K M N D e),bR (flInf K M N D e),fR (flXo K M N D e) (flInf K M N D e) (flUn K N D e)] :=by
 unfold flOut flMo flEo flXo
 cases h:flInf K M N D e
 ·rfl
 ·rfl
def specFl53:List Arg→Option (List Arg×List Prop)
 | [.a [.v (.bool _), .v (.bool false), .v (.bool false), .s 32 .u64 N, .v (.bool false), .s 32 .u64 D], .a [.v (.int .i64 53), .v (.int .i64 (-1074)), .v (.int .i64 971)], .c (.v (.int .i64 1))] =>
  some ([uR (flMo 53 971 (val W64 N) (val W64 D) (fle1 53 (-1074) (val W64 N) (val W64 D))),iR (flEo 53 971 (val W64 N) (val W64 D) (fle1 53 (-1074) (val W64 N) (val W64 D))),bR (flInf 53 971 (val W64 N) (val W64 D) (fle1 53 (-1074) (val W64 N) (val W64 D))),fR (flXo 53 971 (val W64 N) (val W64 D) (fle1 53 (-1074) (val W64 N) (val W64 D))) (flInf 53 971 (val W64 N) (val W64 D) (fle1 53 (-1074) (val W64 N) (val W64 D))) (flUn 53 (val W64 N) (val W64 D) (fle1 53 (-1074) (val W64 N) (val W64 D)))],[Cn N∧Cn D∧0 < val W64 D∧bl (val W64 N)≤1000000∧bl (val W64 D)≤1000000])
 | _=>none
theorem specFl53_ok:∀ az rs l,specFl53 az=some (rs,l)→allP l→Ev.Sem Tryz.prog J0 77 az rs:=by
 intro az rs l h hl
 unfold specFl53 at h
 split at h
 ·cases h
  rename_i n N D
  obtain⟨⟨c1,c2,hD,h1,h2⟩,_⟩:=hl
  unfold Cn at c1 c2
  have:=float53_sem n (N:=val W64 N) (D:=val W64 D) hD h1 h2
  rw [← c1,← c2,flOut_eq] at this
  exact this
 ·cases h
def unF (x:Nat):Nat:=if x=4845873199050653696 then 9007199254740992 else (4503599627370496+x%4503599627370496)/2 ^(1075-x/4503599627370496)
theorem unF_eq {m:Nat} (h0:0 < m) (h53:m≤9007199254740992):unF (f64N m)=m:=by
 by_cases h:m < 9007199254740992
 ·obtain⟨t,ht,g1,g2,g3,g4,q1,q2,hx1,hx2⟩:=f64N_eq h0 h
  have hne:f64N m≠4845873199050653696:=by
   intro e
   rw [e] at q1
   have:(4845873199050653696:Nat)/4503599627370496=1076:=by decide
   omega
  unfold unF
  rw [if_neg hne,q1,q2,show 4503599627370496+(m*2 ^t-4503599627370496)=m*2 ^t from Nat.add_sub_cancel' g1,show 1075- (1074-t+1)=t by omega]
  exact Nat.mul_div_cancel _ (Nat.pow_pos (by decide))
 ·obtain rfl:m=9007199254740992:=Nat.le_antisymm h53 (Nat.le_of_not_lt h)
  rw [f64N_top]
  exact if_pos rfl
def ldW (x:Nat) (e:Int):Nat:=if x=0 then 0 else Ieee.double.nearest false (unF x) e
def ldOk (x:Nat) (e:Int):Prop:=x=0∨(f64N (unF x)=x∧0 < unF x∧unF x≤9007199254740992∧-1074≤e∧e≤1000000000000000000)
theorem ldexp_w {x:Nat} {e:Int} (h:ldOk x e):Ev.Pure Tryz.prog J0 166 [.float .f64 x, .int .i64 e] (.float .f64 (ldW x e)):=by
 by_cases hx:x=0
 ·subst hx
  exact pure_of bLd_ok 10 _ _ (ldexp_o 0 e) ⟨by decide,trivial⟩
 ·obtain⟨h1,h2,h3,h4,h5⟩:=h.resolve_left hx
  have:=ldexp_le h2 h3 h4 h5
  rw [h1] at this
  unfold ldW
  rw [if_neg hx]
  exact this
theorem ldW_eq {m:Nat} {e:Int} (h0:0 < m) (h53:m≤9007199254740992):ldW (f64N m) e=Ieee.double.nearest false m e:=by
 have hx:f64N m≠0:=by
  intro e0
  by_cases h:m < 9007199254740992
  ·obtain⟨t,ht,g1,g2,g3,g4,q1,q2,hx1,hx2⟩:=f64N_eq h0 h
   rw [e0] at hx1
   exact absurd hx1 (by decide)
  ·obtain rfl:m=9007199254740992:=Nat.le_antisymm h53 (Nat.le_of_not_lt h)
   rw [f64N_top] at e0
   cases e0
 unfold ldW
 rw [if_neg hx,unF_eq h0 h53]
theorem ldOk_of {m:Nat} {e:Int} (h53:m≤9007199254740992) (h:m=0∨(-1074≤e∧e≤1000000000000000000)):ldOk (f64N m) e:=by
 rcases Nat.eq_zero_or_pos m with h0 | h0
 ·subst h0; exact .inl f64N_zero
 ·rcases h with h | h
  ·omega
  ·exact .inr ⟨by rw [unF_eq h0 h53],by rw [unF_eq h0 h53]; exact h0,by rw [unF_eq h0 h53]; exact h53,h.1,h.2⟩
def specLd:List Value→Option (Value×List Prop)
 | [.float .f64 x, .int .i64 e] =>some (.float .f64 (ldW x e),[ldOk x e])
 | _=>none
theorem specLd_ok (args:List Value) (v:Value) (l:List Prop) (h:specLd args=some (v,l)) (hl:allP l):Ev.Pure Tryz.prog J0 166 args v:=by
 unfold specLd at h
 split at h
 case h_2=>cases h
 cases h
 exact ldexp_w hl.1
noncomputable def tabLe:Tab:=tabAdd 166 specLd tabLd
theorem tabLe_ok:PcOk Tryz.prog J0 tabLe:=tabAdd_ok specLd_ok tabLd_ok
noncomputable def bLe:Base:=⟨Tryz.prog,J0,false,tabLe,mtabRo1,200,xtN0⟩
theorem bLe_ok:BaseOk bLe:=⟨progOk,tabLe_ok,mtabRo1_ok,xtN0_ok⟩
theorem Ldexp_way (x:Nat) (e:Int):pureCall (bLe.cx 10) [] 200 110 [.float .f64 x, .int .i64 e] [] =some (.float .f64 (ldW x e),[ldOk x e]):=by kernel_rfl
theorem specLD_ok (args:List Value) (v:Value) (l:List Prop) (h:specLd args=some (v,l)) (hl:allP l):Ev.Pure Tryz.prog J0 110 args v:=by
 unfold specLd at h
 split at h
 case h_2=>cases h
 cases h
 exact pure_of bLe_ok 10 _ _ (Ldexp_way _ _) hl
noncomputable def tabLf:Tab:=tabAdd 110 specLd tabLe
theorem tabLf_ok:PcOk Tryz.prog J0 tabLf:=tabAdd_ok specLD_ok tabLe_ok
noncomputable def mtabRo2:MTab:=mtabAdd 77 (liftS [shM, .a [.v, .v, .v],shV] specFl53) mtabRo1
theorem mtabRo2_ok:ClOk Tryz.prog J0 mtabRo2:=mtabAdd_ok (liftS_ok _ specFl53_ok) mtabRo1_ok
noncomputable def bRo2:Base:=⟨Tryz.prog,J0,false,tabLf,mtabRo2,200,xtN0⟩
theorem bRo2_ok:BaseOk bRo2:=⟨progOk,tabLf_ok,mtabRo2_ok,xtN0_ok⟩
noncomputable abbrev XRo2:Cx:=bRo2.cx 10
end Go.Proofs.YtdgfhijnconaoaaGreatDoor
namespace Go.Proofs.YtdgfhijnconaoaaGreatDoor
open Go Go.RowKit Ev Wd VaS
theorem flq_big {K:Nat} {N D:Nat} {e:Int} (hN:0 < N) (hD:0 < D) (he:e=(bl N:Int)-bl D-K-2):2 ^(K+1)≤flq N D e:=by
 have h1:2 ^(bl N-1)≤N:=by
  refine bl_ge.1 ?_
  have:0 < bl N:=bl_ge.2 (by show 1≤N; exact hN)
  omega
 have hb:0 < bl N:=bl_ge.2 (by show 1≤N; exact hN)
 have h2:D < 2 ^bl D:=lt_bl D
 unfold flq
 rw [Nat.le_div_iff_mul_le (atB_pos hD e)]
 unfold atA atB
 by_cases h0:0≤e
 ·rw [if_pos h0,if_pos h0]
  refine Nat.le_trans ?_ h1
  refine Nat.le_trans (Nat.mul_le_mul_left _ (Nat.mul_le_mul_right _ (Nat.le_of_lt h2))) ?_
  rw [← Nat.pow_add,← Nat.pow_add]
  exact Nat.pow_le_pow_right (by decide) (by omega)
 ·rw [if_neg h0,if_neg h0]
  refine Nat.le_trans (Nat.mul_le_mul_left _ (Nat.le_of_lt h2)) ?_
  refine Nat.le_trans ?_ (Nat.mul_le_mul_right _ h1)
  rw [← Nat.pow_add,← Nat.pow_add]
  exact Nat.pow_le_pow_right (by decide) (by omega)
theorem flq_low {K:Nat} {L:Int} {N D:Nat} (hK:0 < K) (hN:0 < N) (hD:0 < D) (h:flq N D (fle1 K L N D) < 2 ^(K-1)):fle1 K L N D=L:=by
 unfold fle1 at h ⊢
 by_cases hb:K < bl (flq N D (fle0 K L N D))
 ·rw [if_pos hb] at h
  exfalso
  obtain⟨s,hs⟩:∃ s,bl (flq N D (fle0 K L N D))=K+s:=⟨bl (flq N D (fle0 K L N D))-K,by omega⟩
  rw [hs,show ((K+s:Nat):Int)-K=(s:Int) by omega,flq_shift,Nat.div_lt_iff_lt_mul (Nat.pow_pos (by decide)),← Nat.pow_add] at h
  have:=bl_le.2 h
  omega
 ·rw [if_neg hb]
  unfold fle0
  by_cases hc:L < (bl N:Int)-bl D-K-2
  ·exfalso
   have h1:fle0 K L N D=(bl N:Int)-bl D-K-2:=if_pos hc
   have h2:=flq_big hN hD h1
   have:=bl_ge.2 h2
   omega
  ·rw [if_neg hc]
theorem fl53_props {N D:Nat} (hD:0 < D):flMm 53 N D (fle1 53 (-1074) N D) < 9007199254740992∧-1074≤flEe 53 N D (fle1 53 (-1074) N D)∧(4503599627370496≤flMm 53 N D (fle1 53 (-1074) N D)∨flEe 53 N D (fle1 53 (-1074) N D)= -1074∨flMm 53 N D (fle1 53 (-1074) N D)=0):=by
 have h1:flq N D (fle1 53 (-1074) N D) < 9007199254740992:=flq_lt
 have h3: -1074≤fle1 53 (-1074) N D:=by
  unfold fle1 fle0
  split <;> split <;> omega
 rcases Nat.eq_zero_or_pos N with hN | hN
 ·have hq:flq N D (fle1 53 (-1074) N D)=0:=by
   rw [hN]
   unfold flq atA
   split <;> simp
  have hr:flr N D (fle1 53 (-1074) N D)=0:=by
   rw [hN]
   unfold flr atA
   split <;> simp
  have hm:flm N D (fle1 53 (-1074) N D)=0:=by
   unfold flm flup flw
   rw [hr,hq]
   rfl
  unfold flMm flEe
  rw [hm]
  exact⟨by decide,h3, .inr (.inr (by decide))⟩
 have h2:=flq_low (K:=53) (L:= -1074) (by decide) hN hD
 generalize fle1 53 (-1074) N D=e at*
 have hm:flm N D e≤flq N D e+1∧flq N D e≤flm N D e:=by
  unfold flm
  split <;> omega
 have h4:flq N D e < 4503599627370496→e= -1074:=h2
 unfold flMm flEe
 rw [show 2 ^53=9007199254740992 by decide]
 by_cases hc:9007199254740992≤flm N D e
 ·rw [if_pos hc,if_pos hc]
  exact⟨by omega,by omega, .inl (by omega)⟩
 ·rw [if_neg hc,if_neg hc]
  refine⟨by omega,h3,?_⟩
  by_cases hd:4503599627370496≤flm N D e
  ·exact .inl hd
  ·exact .inr (.inl (h4 (by omega)))
theorem f64_nat (m:Nat):FloatKind.f64.nearest (m:Int)=f64N m:=by
 unfold FloatKind.nearest f64N
 rw [decide_eq_false (by omega),Int.natAbs_natCast]
 rfl
def nuMag (N D:Nat):Nat:=if flInf 53 971 N D (fle1 53 (-1074) N D)=true then 9218868437227405312 else if flMm 53 N D (fle1 53 (-1074) N D)=0 then 0 else (flEe 53 N D (fle1 53 (-1074) N D)+1074).toNat*4503599627370496+flMm 53 N D (fle1 53 (-1074) N D)
def nuW (n:Bool) (N D:Nat):Nat:=if n=true then nuMag N D+9223372036854775808 else nuMag N D
theorem nuMag_le (N D:Nat) (hD:0 < D):nuMag N D≤9218868437227405312:=by
 unfold nuMag
 obtain⟨h1,h2,h3⟩:=fl53_props (N:=N) hD
 cases hi:flInf 53 971 N D (fle1 53 (-1074) N D)
 ·rw [if_neg (by decide)]
  split
  ·exact Nat.zero_le _
  ·unfold flInf at hi
   have:=of_decide_eq_false hi
   exact in_range (by omega) h1
 ·rw [if_pos rfl]
  exact Nat.le_refl _
theorem ld_ok {N D:Nat} (hD:0 < D):ldOk (FloatKind.f64.nearest ((flMo 53 971 N D (fle1 53 (-1074) N D):Nat):Int)) (flEo 53 971 N D (fle1 53 (-1074) N D)):=by
 obtain⟨h1,h2,h3⟩:=fl53_props (N:=N) hD
 rw [f64_nat]
 unfold flMo flEo
 cases hi:flInf 53 971 N D (fle1 53 (-1074) N D)
 ·rw [if_neg (by decide),if_neg (by decide)]
  unfold flInf at hi
  have hi:=of_decide_eq_false hi
  generalize flMm 53 N D (fle1 53 (-1074) N D)=m at*
  generalize flEe 53 N D (fle1 53 (-1074) N D)=e at*
  exact ldOk_of (by omega) (.inr ⟨h2,by omega⟩)
 ·rw [if_pos rfl]
  exact .inl f64N_zero
theorem ld_no {N D:Nat} (hD:0 < D) (hi:flInf 53 971 N D (fle1 53 (-1074) N D)=false):ldW (FloatKind.f64.nearest ((flMo 53 971 N D (fle1 53 (-1074) N D):Nat):Int)) (flEo 53 971 N D (fle1 53 (-1074) N D))=nuMag N D:=by
 obtain⟨h1,h2,h3⟩:=fl53_props (N:=N) hD
 rw [f64_nat]
 unfold flMo flEo nuMag
 rw [hi,if_neg (by decide),if_neg (by decide),if_neg (by decide)]
 have hi2:flEe 53 N D (fle1 53 (-1074) N D)≤971:=by
  unfold flInf at hi
  have:=of_decide_eq_false hi
  omega
 clear hi
 generalize flMm 53 N D (fle1 53 (-1074) N D)=m at*
 generalize flEe 53 N D (fle1 53 (-1074) N D)=e at*
 rcases Nat.eq_zero_or_pos m with h | h
 ·subst h
  rw [f64N_zero,if_pos rfl]
  unfold ldW
  rw [if_pos rfl]
 ·rw [ldW_eq h (by omega),if_neg (by omega)]
  have:=near_of (M:=m) (k:=0) (E:=e) h h1 h2 (by omega) hi2
  rw [Nat.pow_zero,Nat.mul_one,show e- ((0:Nat):Int)=e by omega] at this
  exact this
end Go.Proofs.YtdgfhijnconaoaaGreatDoor
namespace Go.Proofs.YtdgfhijnconaoaaGreatDoor
open Go Go.RowKit Ev Wd VaS
abbrev xR (x:Nat):Arg:= .c (.v (.float .f64 x))
def nuE (N D:List Int):Int:=fle1 53 (-1074) (val W64 N) (val W64 D)
def nuI (N D:List Int):Bool:=flInf 53 971 (val W64 N) (val W64 D) (nuE N D)
def nuX (N D:List Int):Nat:=ldW (FloatKind.f64.nearest ((flMo 53 971 (val W64 N) (val W64 D) (nuE N D):Nat):Int)) (flEo 53 971 (val W64 N) (val W64 D) (nuE N D))
def nuOk (N D:List Int):Prop:=ldOk (FloatKind.f64.nearest ((flMo 53 971 (val W64 N) (val W64 D) (nuE N D):Nat):Int)) (flEo 53 971 (val W64 N) (val W64 D) (nuE N D))
def nuO (N D:List Int):Prop:=Cn N∧Cn D∧0 < val W64 D∧bl (val W64 N)≤1000000∧bl (val W64 D)≤1000000
section
variable (n:Bool) (N D:List Int) (r:Nat) (a b c:Bool)
theorem nu_p:semR XRo2 [] 200 112 [vlA n false N false D,iR 1] [xR r,fR a b c] [false,false] =some [n=false,nuI N D=false,nuOk N D,N.length=N.length,D.length=D.length,nuO N D,Value.float .f64 (nuX N D)=Value.float .f64 r,Value.bool (flXo 53 971 (val W64 N) (val W64 D) (nuE N D))=Value.bool a,Value.bool (nuI N D)=Value.bool b,Value.bool (flUn 53 (val W64 N) (val W64 D) (nuE N D))=Value.bool c] :=by kernel_rfl
theorem nu_m:semR XRo2 [] 200 112 [vlA n false N false D,iR 1] [xR r,fR a b c] [false,true] =some [n=true,nuI N D=false,nuOk N D,N.length=N.length,D.length=D.length,nuO N D,Value.float .f64 (nuX N D^^^2 ^(FloatKind.f64.format.exponentBits+FloatKind.f64.format.fractionBits))=Value.float .f64 r,Value.bool (flXo 53 971 (val W64 N) (val W64 D) (nuE N D))=Value.bool a,Value.bool (nuI N D)=Value.bool b,Value.bool (flUn 53 (val W64 N) (val W64 D) (nuE N D))=Value.bool c] :=by kernel_rfl
theorem nu_ip:semR XRo2 [] 200 112 [vlA n false N false D,iR 1] [xR r,fR a b c] [true,false] =some [n=false,nuI N D=true,nuOk N D,N.length=N.length,D.length=D.length,nuO N D,Value.float .f64 (9218868437227405312)=Value.float .f64 r,Value.bool (flXo 53 971 (val W64 N) (val W64 D) (nuE N D))=Value.bool a,Value.bool (nuI N D)=Value.bool b,Value.bool (flUn 53 (val W64 N) (val W64 D) (nuE N D))=Value.bool c] :=by kernel_rfl
theorem nu_im:semR XRo2 [] 200 112 [vlA n false N false D,iR 1] [xR r,fR a b c] [true,true] =some [n=true,nuI N D=true,nuOk N D,N.length=N.length,D.length=D.length,nuO N D,Value.float .f64 (18442240474082181120)=Value.float .f64 r,Value.bool (flXo 53 971 (val W64 N) (val W64 D) (nuE N D))=Value.bool a,Value.bool (nuI N D)=Value.bool b,Value.bool (flUn 53 (val W64 N) (val W64 D) (nuE N D))=Value.bool c] :=by kernel_rfl
end
theorem xor_sign {x:Nat} (h:x≤9218868437227405312):x^^^2 ^(FloatKind.f64.format.exponentBits+FloatKind.f64.format.fractionBits)=x+9223372036854775808:=by
 have e:FloatKind.f64.format.exponentBits+FloatKind.f64.format.fractionBits=63:=rfl
 rw [e]
 have hx:x < 2 ^63:=by show x < 9223372036854775808; omega
 have h1:=Nat.two_pow_add_eq_or_of_lt hx 1
 have h2:x^^^2 ^63=2 ^63||| x:=by
  refine Nat.eq_of_testBit_eq fun i=> ?_
  rw [Nat.testBit_xor,Nat.testBit_or,Nat.testBit_two_pow]
  by_cases hi:63=i
  ·subst hi
   rw [Nat.testBit_lt_two_pow hx]
   rfl
  ·rw [decide_eq_false hi]
   simp
 rw [h2]
 rw [Nat.mul_one] at h1
 rw [← h1,Nat.add_comm]
theorem number_sem (n:Bool) {N D:Nat} (hD:0 < D) (h1:bl N≤1000000) (h2:bl D≤1000000):
  Ev.Sem Tryz.prog J0 112 [vlA n false (ws W64 N) false (ws W64 D),iR 1] [xR (nuW n N D),fR (flXo 53 971 N D (fle1 53 (-1074) N D)) (flInf 53 971 N D (fle1 53 (-1074) N D)) (flUn 53 N D (fle1 53 (-1074) N D))] :=by
 have v1:val W64 (ws W64 N)=N:=wsVal N
 have v2:val W64 (ws W64 D)=D:=wsVal D
 have hE:nuE (ws W64 N) (ws W64 D)=fle1 53 (-1074) N D:=by unfold nuE; rw [v1,v2]
 have hI:nuI (ws W64 N) (ws W64 D)=flInf 53 971 N D (fle1 53 (-1074) N D):=by unfold nuI; rw [v1,v2,hE]
 have hO:nuO (ws W64 N) (ws W64 D):=by
  unfold nuO
  rw [v1,v2]
  exact⟨Cn.ws _,Cn.ws _,hD,h1,h2⟩
 have hK:nuOk (ws W64 N) (ws W64 D):=by
  unfold nuOk
  rw [v1,v2,hE]
  exact ld_ok hD
 cases hi:flInf 53 971 N D (fle1 53 (-1074) N D) with
 | false=>
  have hX:nuX (ws W64 N) (ws W64 D)=nuMag N D:=by
   unfold nuX
   rw [v1,v2,hE]
   exact ld_no hD hi
  cases n with
  | false=>
   refine sem_of bRo2_ok 10 _ _ (nu_p false (ws W64 N) (ws W64 D) (nuW false N D) _ _ _) ?_
   rw [v1,v2,hE,hI,hX,hi]
   exact⟨rfl,rfl,hK,rfl,rfl,hO,rfl,rfl,rfl,rfl,trivial⟩
  | true=>
   refine sem_of bRo2_ok 10 _ _ (nu_m true (ws W64 N) (ws W64 D) (nuW true N D) _ _ _) ?_
   rw [v1,v2,hE,hI,hX,hi,xor_sign (nuMag_le N D hD)]
   exact⟨rfl,rfl,hK,rfl,rfl,hO,rfl,rfl,rfl,rfl,trivial⟩
 | true=>
  have hM:nuMag N D=9218868437227405312:=by
   unfold nuMag
   rw [hi]
   exact if_pos rfl
  cases n with
  | false=>
   have hW:nuW false N D=9218868437227405312:=hM
   refine sem_of bRo2_ok 10 _ _ (nu_ip false (ws W64 N) (ws W64 D) (nuW false N D) _ _ _) ?_
   rw [v1,v2,hE,hI,hi,hW]
   exact⟨rfl,rfl,hK,rfl,rfl,hO,rfl,rfl,rfl,rfl,trivial⟩
  | true=>
   have hW:nuW true N D=18442240474082181120:=by
    show nuMag N D+9223372036854775808=_
    rw [hM]
   refine sem_of bRo2_ok 10 _ _ (nu_im true (ws W64 N) (ws W64 D) (nuW true N D) _ _ _) ?_
   rw [v1,v2,hE,hI,hi,hW]
   exact⟨rfl,rfl,hK,rfl,rfl,hO,rfl,rfl,rfl,rfl,trivial⟩
end Go.Proofs.YtdgfhijnconaoaaGreatDoor
namespace Go.Proofs
def Tryz.lays143_ren:Go.Shelf.Ren:=⟨fun | 143=>134 | 219=>184 | 217=>186 | 225=>217 | 224=>218 | 267=>219 | 266=>220 | 314=>238 | n=>n,fun | 9=>9 | 3=>3 | 4=>4 | 5=>5 | 46=>110 | 146=>229 | 51=>38 | n=>n,fun | 1=>2 | n=>n⟩
theorem Tryz.lays143:Go.Proofs.Lays.n143 Tryz.prog Tryz.lays143_ren where
 mixed:=by kernel_rfl
 f143:=Tryz.func134.trans (congrArg some (by kernel_rfl))
 f217:=Tryz.func186.trans (congrArg some (by kernel_rfl))
 f219:=Tryz.func184.trans (congrArg some (by kernel_rfl))
 f224:=Tryz.func218.trans (congrArg some (by kernel_rfl))
 f225:=Tryz.func217.trans (congrArg some (by kernel_rfl))
 f266:=Tryz.func220.trans (congrArg some (by kernel_rfl))
 f267:=Tryz.func219.trans (congrArg some (by kernel_rfl))
 f314:=Tryz.func238.trans (congrArg some (by kernel_rfl))
 t3:=Tryz.underlying3
 a3:=Tryz.isAgg3
 z3:=Tryz.sizeOf3
 v3:=Tryz.zeroValue3
 t4:=Tryz.underlying4
 a4:=Tryz.isAgg4
 z4:=Tryz.sizeOf4
 v4:=Tryz.zeroValue4
 t5:=Tryz.underlying5
 a5:=Tryz.isAgg5
 z5:=Tryz.sizeOf5
 v5:=Tryz.zeroValue5
 t9:=Tryz.underlying9
 a9:=Tryz.isAgg9
 z9:=Tryz.sizeOf9
 v9:=Tryz.zeroValue9
 t46:=Tryz.underlying110
 a46:=Tryz.isAgg110
 z46:=Tryz.sizeOf110
 v46:=Tryz.zeroValue110
 t51:=Tryz.underlying38
 a51:=Tryz.isAgg38
 z51:=Tryz.sizeOf38
 v51:=Tryz.zeroValue38
 t146:=Tryz.underlying229
 a146:=Tryz.isAgg229
 z146:=Tryz.sizeOf229
 v146:=Tryz.zeroValue229
 g1:=by kernel_rfl
namespace YtdgfhijnconaoaaGreatDoor
open Go Go.RowKit Ev
theorem index_pure (s t:List UInt8) (hs:s.length < 4294967281):Pure Tryz.prog J0 134 [.string ⟨⟨s⟩⟩, .string ⟨⟨t⟩⟩] (.int .i64 (Lib.index s t)):=by
 refine⟨rfl,rfl, .inl ⟨enters_of Tryz.func134 (by kernel_rfl) (c:=_) rfl,fun w hI=> ?_⟩⟩
 obtain⟨m,hm⟩:=hI.2.2.2.2.2.1
 exact (Any.strings_Index Tryz.lays143 ⟨⟨s⟩⟩ ⟨⟨t⟩⟩ m w hs hm).mono fun e w' ⟨h1,h2⟩=>⟨h1,h2 ▸ Below.refl _ _⟩
def specIndex:List Value→Option (Value×List Prop)
 | [.string ⟨⟨s⟩⟩, .string ⟨⟨t⟩⟩] =>match Nat.blt s.length 4294967281 with
  | true=>some (.int .i64 (Lib.index s t),[])
  | false=>none
 | _=>none
theorem specIndex_ok (args:List Value) (v:Value) (l:List Prop) (h:specIndex args=some (v,l)) (_:allP l):Pure Tryz.prog J0 134 args v:=by
 unfold specIndex at h
 split at h
 case h_2=>cases h
 split at h
 case h_2=>cases h
 rename_i hl
 cases h
 exact index_pure _ _ (by simpa [Nat.blt_eq] using hl)
noncomputable def tabN1:Tab:=tabAdd 134 specIndex tabN0
theorem tabN1_ok:PcOk Tryz.prog J0 tabN1:=tabAdd_ok specIndex_ok tabN0_ok
def atS:List (List Value×Value)→List Value→Option (Value×List Prop)
 | [],_=>none
 | (a,v) ::r,args=>match eqL args a with
  | true=>some (v,[])
  | false=>atS r args
theorem atS_ok {f:FuncId} :∀ {l:List (List Value×Value)},(∀ p∈l,Pure Tryz.prog J0 f p.1 p.2)→∀ (args:List Value) (v:Value) (o:List Prop),atS l args=some (v,o)→allP o→Pure Tryz.prog J0 f args v
 | [],_,args,v,o,h,_=>by cases h
 | (a,x) ::r,hl,args,v,o,h,ho=>by
  unfold atS at h
  split at h
  ·rename_i he
   cases h
   rw [eqL_spec _ _ he]
   exact hl _ List.mem_cons_self
  ·exact atS_ok (fun p hp=>hl p (List.mem_cons_of_mem _ hp)) args v o h ho
end YtdgfhijnconaoaaGreatDoor
end Go.Proofs
namespace Go.Proofs.YtdgfhijnconaoaaGreatDoor
open Go Go.RowKit Ev
noncomputable def bKn:Base:=⟨Tryz.prog,J0,false,tabN0,mtab0,2000,xtN0⟩
theorem bKn_ok:BaseOk bKn:=⟨progOk,tabN0_ok,mtab0_ok _ _,xtN0_ok⟩
end Go.Proofs.YtdgfhijnconaoaaGreatDoor
namespace Go.Proofs.YtdgfhijnconaoaaGreatDoor
open Go Go.RowKit Ev
def worthV (c:Int):Int:=if 48≤c∧c≤57 then c-48 else if 97≤c∧c≤102 then c-87 else if 65≤c∧c≤70 then c-55 else 16
def inC (a b c:Int):Bool:=match decide (a≤c) with | true=>decide (c≤b) | false=>false
theorem inB_iff {a b c:Int} :inC a b c=true↔a≤c∧c≤b:=by
 unfold inC
 by_cases h:a≤c <;> simp [h]
theorem inB_not {a b c:Int} :inC a b c=false↔¬(a≤c∧c≤b):=by
 rw [← inB_iff]
 cases inC a b c <;> simp
section
variable (c:Int)
theorem wo_1:pureCall (bKn.cx 12) [] 200 108 [.int .u8 c] [true] =some (.int .i64 (IntKind.i64.wrap (IntKind.u8.wrap (c-Int.ofNat 48))),[inC 48 57 c=true]):=by kernel_rfl
theorem wo_2:pureCall (bKn.cx 12) [] 200 108 [.int .u8 c] [false,true] =some (.int .i64 (IntKind.i64.wrap (IntKind.i64.wrap (IntKind.u8.wrap (c-Int.ofNat 97))+Int.ofNat 10)),[inC 97 102 c=true,inC 48 57 c=false]):=by kernel_rfl
theorem wo_3:pureCall (bKn.cx 12) [] 200 108 [.int .u8 c] [false,false,true] =some (.int .i64 (IntKind.i64.wrap (IntKind.i64.wrap (IntKind.u8.wrap (c-Int.ofNat 65))+Int.ofNat 10)),[inC 65 70 c=true,inC 97 102 c=false,inC 48 57 c=false]):=by kernel_rfl
theorem wo_4:pureCall (bKn.cx 12) [] 200 108 [.int .u8 c] [false,false,false] =some (.int .i64 16,[inC 65 70 c=false,inC 97 102 c=false,inC 48 57 c=false]):=by kernel_rfl
end
theorem u8_id {n:Int} (h0:0≤n) (h1:n < 256):IntKind.u8.wrap n=n:=by
 simp [IntKind.wrap,IntKind.bits,IntKind.signed]
 omega
theorem i64_id {n:Int} (h0: -9223372036854775808≤n) (h1:n≤9223372036854775807):IntKind.i64.wrap n=n:=by
 simp [IntKind.wrap,IntKind.bits,IntKind.signed]
 omega
theorem pureN {b:Base} (hb:BaseOk b) {k:Nat} {L:Hints} {fuel:Nat} {ds:List Bool} {f:FuncId} {args:List Value} {v:Value} {l:List Prop} (h:pureCall (b.cx k) L fuel f args ds=some (v,l)) (hl:allP l):Ev.Pure b.P b.J f args v:=by
 obtain⟨h1,h2⟩:=Base.cx_ok hb k
 have:=pureCall_sound h1 h2 h hl
 cases k with
 | zero=>exact this
 | succ k=>exact this
theorem int_cast {P:Program} {J:Ev.Inv P} {f:FuncId} {args:List Value} {x y:Int} (h:Ev.Pure P J f args (.int .i64 x)) (e:x=y):Ev.Pure P J f args (.int .i64 y):=e ▸ h
theorem worth_pure {c:Int} (h0:0≤c) (h1:c < 256):Ev.Pure Tryz.prog J0 108 [.int .u8 c] (.int .i64 (worthV c)):=by
 unfold worthV
 by_cases a:48≤c∧c≤57
 ·rw [if_pos a]
  exact int_cast (pureN bKn_ok (wo_1 c) ⟨inB_iff.2 a,trivial⟩) (by rw [show Int.ofNat 48=48 from rfl,u8_id (by omega) (by omega),i64_id (by omega) (by omega)])
 rw [if_neg a]
 by_cases b:97≤c∧c≤102
 ·rw [if_pos b]
  exact int_cast (pureN bKn_ok (wo_2 c) ⟨inB_iff.2 b,inB_not.2 a,trivial⟩) (by rw [show Int.ofNat 97=97 from rfl,show Int.ofNat 10=10 from rfl,u8_id (by omega) (by omega),i64_id (n:=c-97) (by omega) (by omega),i64_id (by omega) (by omega)]; omega)
 rw [if_neg b]
 by_cases d:65≤c∧c≤70
 ·rw [if_pos d]
  exact int_cast (pureN bKn_ok (wo_3 c) ⟨inB_iff.2 d,inB_not.2 b,inB_not.2 a,trivial⟩) (by rw [show Int.ofNat 65=65 from rfl,show Int.ofNat 10=10 from rfl,u8_id (by omega) (by omega),i64_id (n:=c-65) (by omega) (by omega),i64_id (by omega) (by omega)]; omega)
 rw [if_neg d]
 exact pureN bKn_ok (wo_4 c) ⟨inB_not.2 d,inB_not.2 b,inB_not.2 a,trivial⟩
theorem worth_range {c:Int} :0≤worthV c∧worthV c≤16:=by
 unfold worthV
 split
 ·omega
 split
 ·omega
 split <;> omega
def specWorth:List Value→Option (Value×List Prop)
 | [.int .u8 c] =>some (.int .i64 (worthV c),[0≤c∧c < 256])
 | _=>none
theorem specWorth_ok (args:List Value) (v:Value) (l:List Prop) (h:specWorth args=some (v,l)) (hl:allP l):Ev.Pure Tryz.prog J0 108 args v:=by
 unfold specWorth at h
 split at h
 ·cases h; exact worth_pure hl.1.1 hl.1.2
 ·cases h
noncomputable def tabNb0:Tab:=tabAdd 108 specWorth tabN0
theorem tabNb0_ok:PcOk Tryz.prog J0 tabNb0:=tabAdd_ok specWorth_ok tabN0_ok
noncomputable def bNb0:Base:=⟨Tryz.prog,J0,false,tabNb0,mtab0,2000,xtN0⟩
theorem bNb0_ok:BaseOk bNb0:=⟨progOk,tabNb0_ok,mtab0_ok _ _,xtN0_ok⟩
noncomputable abbrev XNb0:=bNb0.cx 12
end Go.Proofs.YtdgfhijnconaoaaGreatDoor
namespace Go.Proofs.YtdgfhijnconaoaaGreatDoor
open Go Go.RowKit Ev
noncomputable def cMa:Code:=loopAt Tryz.prog 79 0
noncomputable def tMt (t:List UInt8) (a b n p e i:Int):St:=⟨only 67 [(0, .string ⟨⟨t⟩⟩),(1, .int .i64 a),(2, .int .i64 b),(8, .int .i64 e),(9, .int .i64 p),(16, .int .i64 n),(17, .int .i64 i)],J0.tabs,11,[],[],0,none,[],11⟩
noncomputable def tMe (t:List UInt8) (a b p e:Int):St:=⟨only 67 [(0, .string ⟨⟨t⟩⟩),(1, .int .i64 a),(2, .int .i64 b),(8, .int .i64 e),(9, .int .i64 p)],J0.tabs,11,[],[],0,none,[],11⟩
abbrev chI (t:List UInt8) (k:Int):Int:=Int.ofNat (t.getD k.toNat 0).toNat
def dotB (t:List UInt8) (k p:Int):Bool:=match chI t k==46 with | true=>decide (p < 0) | false=>false
def chP (t:List UInt8) (k:Int):Prop:=Int.ofNat 0≤chI t k∧chI t k < Int.ofNat 256
def inP (t:List UInt8) (k:Int):Prop:=Int.ofNat 0≤k∧k.toNat < t.length
section
variable (t:List UInt8) (a b n p e i:Int)
theorem ma_dig (hl:allP [decide (worthV (chI t (IntKind.i64.wrap (a+i))) < b)=true,chP t (IntKind.i64.wrap (a+i)),inP t (IntKind.i64.wrap (a+i)),decide (i < n)=true]):
  Step XNb0 cMa (tMt t a b n p e i) .normal (tMt t a b n p (IntKind.i64.wrap (IntKind.i64.wrap (a+i)+1)) (IntKind.i64.wrap (i+1))):=
 step_of (Base.cx_ok bNb0_ok 12).1 progOk.mixed [] 200 [true,true] [] (by kernel_rfl) hl (by kernel_rfl) (by kernel_rfl)
theorem ma_dot (hl:allP [dotB t (IntKind.i64.wrap (a+i)) p=true,decide (worthV (chI t (IntKind.i64.wrap (a+i))) < b)=false,chP t (IntKind.i64.wrap (a+i)),inP t (IntKind.i64.wrap (a+i)),decide (i < n)=true]):
  Step XNb0 cMa (tMt t a b n p e i) .normal (tMt t a b n (IntKind.i64.wrap (a+i)) (IntKind.i64.wrap (IntKind.i64.wrap (a+i)+1)) (IntKind.i64.wrap (i+1))):=
 step_of (Base.cx_ok bNb0_ok 12).1 progOk.mixed [] 200 [true,false,true] [] (by kernel_rfl) hl (by kernel_rfl) (by kernel_rfl)
theorem ma_out (hl:allP [dotB t (IntKind.i64.wrap (a+i)) p=false,decide (worthV (chI t (IntKind.i64.wrap (a+i))) < b)=false,chP t (IntKind.i64.wrap (a+i)),inP t (IntKind.i64.wrap (a+i)),decide (i < n)=true]):
  Step XNb0 cMa (tMt t a b n p e i) (.exit 0) (tMe t a b p e):=
 step_of (Base.cx_ok bNb0_ok 12).1 progOk.mixed [] 200 [true,false,false] [] (by kernel_rfl) hl (by kernel_rfl) (by kernel_rfl)
theorem ma_end (hl:allP [decide (i < n)=false]):Step XNb0 cMa (tMt t a b n p e i) (.exit 0) (tMe t a b p e):=
 step_of (Base.cx_ok bNb0_ok 12).1 progOk.mixed [] 200 [false] [] (by kernel_rfl) hl (by kernel_rfl) (by kernel_rfl)
theorem mr_no:pureCall XNb0 [told (.exit 0) (fun _=>tMe t a b p e)] 200 79 [.string ⟨⟨t⟩⟩, .int .i64 a, .int .i64 b] [true] =some (.tuple ⟨[.string ⟨⟨List.drop a.toNat (List.take e.toNat t)⟩⟩, .int .i64 0, .int .i64 e]⟩,
 [(Int.ofNat 0≤e∧e≤Int.ofNat t.length)∧Int.ofNat 0≤a∧a≤e,decide (p < Int.ofNat 0)=true,LoopTo XNb0 cMa (startAt XNb0 200 79 [.string ⟨⟨t⟩⟩, .int .i64 a, .int .i64 b] J0.tabs Tryz.prog.globals.size [true]) (.exit 0) (tMe t a b p e)]):=by kernel_rfl
theorem mr_pt:pureCall XNb0 [told (.exit 0) (fun _=>tMe t a b p e)] 200 79 [.string ⟨⟨t⟩⟩, .int .i64 a, .int .i64 b] [false] =some (.tuple ⟨[.string ⟨⟨List.drop a.toNat (List.take p.toNat t)++List.drop (IntKind.i64.wrap (p+Int.ofNat 1)).toNat (List.take e.toNat t)⟩⟩, .int .i64 (IntKind.i64.wrap (IntKind.i64.wrap (e-p)-Int.ofNat 1)), .int .i64 e]⟩,
 [(List.drop a.toNat (List.take p.toNat t)).length+(List.drop (IntKind.i64.wrap (p+Int.ofNat 1)).toNat (List.take e.toNat t)).length≤9223372036854775807,(Int.ofNat 0≤e∧e≤Int.ofNat t.length)∧Int.ofNat 0≤IntKind.i64.wrap (p+Int.ofNat 1)∧IntKind.i64.wrap (p+Int.ofNat 1)≤e,(Int.ofNat 0≤p∧p≤Int.ofNat t.length)∧Int.ofNat 0≤a∧a≤p,decide (p < Int.ofNat 0)=false,
   LoopTo XNb0 cMa (startAt XNb0 200 79 [.string ⟨⟨t⟩⟩, .int .i64 a, .int .i64 b] J0.tabs Tryz.prog.globals.size [false]) (.exit 0) (tMe t a b p e)]):=by kernel_rfl
theorem ma_into (d:Bool) {x:AX} {s':St} (h:LoopTo XNb0 cMa (tMt t a b (IntKind.i64.wrap (Int.ofNat t.length-a)) (-1) a 0) x s'):LoopTo XNb0 cMa (startAt XNb0 200 79 [.string ⟨⟨t⟩⟩, .int .i64 a, .int .i64 b] J0.tabs Tryz.prog.globals.size [d]) x s':=
 loop_into' h [] (by kernel_rfl) (by kernel_rfl) (by kernel_rfl)
end
def maGo (t:List UInt8) (b:Int):Nat→Nat→Int→Int×Nat
 | 0,k,p=>(p,k)
 | f+1,k,p=>if worthV (chI t k) < b then maGo t b f (k+1) p else if dotB t k p=true then maGo t b f (k+1) k else (p,k)
theorem maGo_spec (t:List UInt8) (b:Int):∀ (f k:Nat) (p:Int),k+f=t.length→p < (k:Int)→k≤(maGo t b f k p).2∧(maGo t b f k p).2≤t.length∧((maGo t b f k p).1=p∨(k:Int)≤(maGo t b f k p).1)∧(maGo t b f k p).1 < ((maGo t b f k p).2:Int)
 | 0,k,p,h,hp=>⟨Nat.le_refl _,by show k≤_; omega, .inl rfl,hp⟩
 | f+1,k,p,h,hp=>by
  unfold maGo
  split
  ·obtain⟨h1,h2,h3,h4⟩:=maGo_spec t b f (k+1) p (by omega) (by omega)
   exact⟨by omega,h2,h3.imp id (fun h=>by omega),h4⟩
  ·split
   ·obtain⟨h1,h2,h3,h4⟩:=maGo_spec t b f (k+1) (k:Int) (by omega) (by omega)
    exact⟨by omega,h2, .inr (by rcases h3 with h3 | h3 <;> omega),h4⟩
   ·exact⟨Nat.le_refl _,by show k≤_; omega, .inl rfl,hp⟩
theorem wr {n:Int} (h0: -9223372036854775808≤n) (h1:n≤9223372036854775807):IntKind.i64.wrap n=n:=i64_id h0 h1
theorem ma_loop {t:List UInt8} {a:Nat} {b:Int} (hl:t.length < 9223372036854775807):∀ (f k:Nat) (p:Int),a≤k→k+f=t.length→
  LoopTo XNb0 cMa (tMt t a b ((t.length:Int)-a) p k ((k:Int)-a)) (.exit 0) (tMe t a b (maGo t b f k p).1 ((maGo t b f k p).2:Int)):=by
 intro f k p hak hkf
 obtain⟨r,hr⟩:∃ r,maGo t b f k p=r:=⟨_,rfl⟩
 rw [hr]
 refine loop_of (ι:=Nat×Int) (fun x=>tMt t a b ((t.length:Int)-a) x.2 x.1 ((x.1:Int)-a)) (fun x=>t.length-x.1) (fun x=>a≤x.1∧x.1≤t.length∧maGo t b (t.length-x.1) x.1 x.2=r) (by intro e; cases e) (fun x hx=> ?_) (k,p) ⟨hak,by show k≤_; omega,by show maGo t b (t.length-k) k p=r; rw [show t.length-k=f by omega]; exact hr⟩
 obtain⟨k',p'⟩:=x
 obtain⟨h1,h2,h3⟩:=hx
 simp only at h1 h2 h3 ⊢
 have ha:IntKind.i64.wrap ((a:Int)+((k':Int)-a))=(k':Int):=by rw [wr (by omega) (by omega)]; omega
 by_cases hlt:k' < t.length
 ·have hc:chP t (k':Int):=⟨Int.natCast_nonneg _,Int.ofNat_lt.2 (UInt8.toNat_lt _)⟩
  have hi:inP t (k':Int):=⟨Int.natCast_nonneg _,by rw [Int.toNat_natCast]; exact hlt⟩
  have hd:decide (((k':Int)-a) < ((t.length:Int)-a))=true:=decide_eq_true (by omega)
  have e1:IntKind.i64.wrap ((k':Int)+1)=((k'+1:Nat):Int):=by rw [wr (by omega) (by omega)]; omega
  have e2:IntKind.i64.wrap ((k':Int)-a+1)=((k'+1:Nat):Int)-a:=by rw [wr (by omega) (by omega)]; omega
  obtain⟨g,hg⟩:∃ g,t.length-k'=g+1:=⟨t.length-k'-1,by omega⟩
  have hg':t.length- (k'+1)=g:=by omega
  rw [hg] at h3
  unfold maGo at h3
  by_cases hw:worthV (chI t (k':Int)) < b
  ·rw [if_pos hw] at h3
   refine .inl ⟨(k'+1,p'),⟨by omega,by omega,by rw [hg']; exact h3⟩,by show t.length- (k'+1) < t.length-k'; omega,?_⟩
   have:=ma_dig t a b ((t.length:Int)-a) p' k' ((k':Int)-a) (by rw [ha]; exact⟨decide_eq_true hw,hc,hi,hd,trivial⟩)
   rw [ha,e1,e2] at this
   exact this
  ·rw [if_neg hw] at h3
   by_cases hdot:dotB t (k':Int) p'=true
   ·rw [if_pos hdot] at h3
    refine .inl ⟨(k'+1,(k':Int)),⟨by omega,by omega,by rw [hg']; exact h3⟩,by show t.length- (k'+1) < t.length-k'; omega,?_⟩
    have:=ma_dot t a b ((t.length:Int)-a) p' k' ((k':Int)-a) (by rw [ha]; exact⟨hdot,decide_eq_false hw,hc,hi,hd,trivial⟩)
    rw [ha,e1,e2] at this
    exact this
   ·rw [if_neg hdot] at h3
    refine .inr ?_
    rw [← h3]
    exact ma_out t a b ((t.length:Int)-a) p' k' ((k':Int)-a) (by rw [ha]; exact⟨by simpa using hdot,decide_eq_false hw,hc,hi,hd,trivial⟩)
 ·obtain rfl:k'=t.length:=by omega
  rw [Nat.sub_self] at h3
  refine .inr ?_
  rw [← h3]
  exact ma_end t a b ((t.length:Int)-a) p' _ _ ⟨decide_eq_false (by omega),trivial⟩
def maP (t:List UInt8) (a:Nat) (b:Int):Int:=(maGo t b (t.length-a) a (-1)).1
def maE (t:List UInt8) (a:Nat) (b:Int):Nat:=(maGo t b (t.length-a) a (-1)).2
def maS (t:List UInt8) (a:Nat) (b:Int):List UInt8:=if maP t a b < 0 then (t.take (maE t a b)).drop a else (t.take (maP t a b).toNat).drop a++(t.take (maE t a b)).drop ((maP t a b).toNat+1)
def maB (t:List UInt8) (a:Nat) (b:Int):Int:=if maP t a b < 0 then 0 else (maE t a b:Int)-maP t a b-1
theorem ma_range {t:List UInt8} {a:Nat} {b:Int} (ha:a≤t.length):a≤maE t a b∧maE t a b≤t.length∧(maP t a b= -1∨(a:Int)≤maP t a b)∧maP t a b < (maE t a b:Int):=by
 unfold maE maP
 exact maGo_spec t b (t.length-a) a (-1) (by omega) (by omega)
theorem mantissa_pure {t:List UInt8} {a:Nat} {b:Int} (hl:t.length < 9223372036854775807) (ha:a≤t.length):
  Ev.Pure Tryz.prog J0 79 [.string ⟨⟨t⟩⟩, .int .i64 a, .int .i64 b] (.tuple ⟨[.string ⟨⟨maS t a b⟩⟩, .int .i64 (maB t a b), .int .i64 (maE t a b)]⟩):=by
 obtain⟨r1,r2,r3,r4⟩:=ma_range (b:=b) ha
 have hloop:=ma_loop (a:=a) (b:=b) hl (t.length-a) a (-1) (Nat.le_refl _) (by omega)
 rw [Int.sub_self] at hloop
 have hn:IntKind.i64.wrap (Int.ofNat t.length- (a:Int))=(t.length:Int)-a:=by
  show IntKind.i64.wrap ((t.length:Int)-a)=_
  rw [wr (by omega) (by omega)]
 have hin:∀ d,LoopTo XNb0 cMa (startAt XNb0 200 79 [.string ⟨⟨t⟩⟩, .int .i64 a, .int .i64 b] J0.tabs Tryz.prog.globals.size [d]) (.exit 0) (tMe t a b (maP t a b) (maE t a b:Int)):=fun d=>ma_into t a b d (by rw [hn]; exact hloop)
 have hte:(Int.ofNat 0≤(maE t a b:Int)∧(maE t a b:Int)≤Int.ofNat t.length):=⟨Int.natCast_nonneg _,Int.ofNat_le.2 r2⟩
 unfold maS maB
 by_cases hp:maP t a b < 0
 ·rw [if_pos hp,if_pos hp]
  have:Ev.Pure Tryz.prog J0 _ _ _:=pureN bNb0_ok (mr_no t a b (maP t a b) (maE t a b:Int)) ⟨⟨hte,Int.natCast_nonneg _,Int.ofNat_le.2 r1⟩,decide_eq_true hp,hin true,trivial⟩
  simpa using this
 ·rw [if_neg hp,if_neg hp]
  have hpa:(a:Int)≤maP t a b:=by rcases r3 with h | h <;> omega
  obtain⟨q,hq⟩:=Int.eq_ofNat_of_zero_le (show 0≤maP t a b by omega)
  have e1:IntKind.i64.wrap ((q:Int)+Int.ofNat 1)=((q+1:Nat):Int):=by
   show IntKind.i64.wrap ((q:Int)+1)=_
   rw [wr (by omega) (by omega)]
   omega
  have e2:IntKind.i64.wrap (IntKind.i64.wrap ((maE t a b:Int)- (q:Int))-Int.ofNat 1)=(maE t a b:Int)-q-1:=by
   show IntKind.i64.wrap (IntKind.i64.wrap ((maE t a b:Int)- (q:Int))-1)=_
   rw [wr (n:=(maE t a b:Int)- (q:Int)) (by omega) (by omega),wr (by omega) (by omega)]
  have:Ev.Pure Tryz.prog J0 _ _ _:=pureN bNb0_ok (mr_pt t a b (maP t a b) (maE t a b:Int)) (by
   rw [hq,e1]
   refine⟨?_,⟨hte,Int.natCast_nonneg _,by omega⟩,⟨⟨Int.natCast_nonneg _,by show (q:Int)≤(t.length:Int); omega⟩,Int.natCast_nonneg _,by omega⟩,decide_eq_false (by show ¬((q:Int) < 0); omega),by rw [← hq]; exact hin false,trivial⟩
   simp only [List.length_drop,List.length_take,Int.toNat_natCast]
   omega)
  rw [hq,e1,e2] at this
  rw [hq]
  simpa using this
end Go.Proofs.YtdgfhijnconaoaaGreatDoor
namespace Go.Proofs.YtdgfhijnconaoaaGreatDoor
open Go Go.RowKit Ev
def specIndexO:List Value→Option (Value×List Prop)
 | [.string ⟨⟨s⟩⟩, .string ⟨⟨t⟩⟩] =>some (.int .i64 (Lib.index s t),[s.length < 4294967281])
 | _=>none
theorem specIndexO_ok (args:List Value) (v:Value) (l:List Prop) (h:specIndexO args=some (v,l)) (hl:allP l):Ev.Pure Tryz.prog J0 134 args v:=by
 unfold specIndexO at h
 split at h
 ·cases h; exact index_pure _ _ hl.1
 ·cases h
noncomputable def bIx:Base:=⟨Tryz.prog,J0,false,tabAdd 134 specIndexO tabN0,mtab0,2000,xtN0⟩
theorem bIx_ok:BaseOk bIx:=⟨progOk,tabAdd_ok specIndexO_ok tabN0_ok,mtab0_ok _ _,xtN0_ok⟩
def conB (L s:List UInt8):Bool:=decide (Int.ofNat 0≤Lib.index L s)
theorem con_way (L s:List UInt8):pureCall (bIx.cx 12) [] 200 132 [.string ⟨⟨L⟩⟩, .string ⟨⟨s⟩⟩] [] =some (.bool (conB L s),[L.length < 4294967281]):=by kernel_rfl
def specCon:List Value→Option (Value×List Prop)
 | [.string ⟨⟨L⟩⟩, .string ⟨⟨s⟩⟩] =>some (.bool (conB L s),[L.length < 4294967281])
 | _=>none
theorem specCon_ok (args:List Value) (v:Value) (l:List Prop) (h:specCon args=some (v,l)) (hl:allP l):Ev.Pure Tryz.prog J0 132 args v:=by
 unfold specCon at h
 split at h
 ·cases h; exact pureN bIx_ok (con_way _ _) hl
 ·cases h
noncomputable def tabNb1:Tab:=tabAdd 132 specCon tabNb0
theorem tabNb1_ok:PcOk Tryz.prog J0 tabNb1:=tabAdd_ok specCon_ok tabNb0_ok
noncomputable def bNb1:Base:=⟨Tryz.prog,J0,false,tabNb1,mtab0,2000,xtN0⟩
theorem bNb1_ok:BaseOk bNb1:=⟨progOk,tabNb1_ok,mtab0_ok _ _,xtN0_ok⟩
noncomputable abbrev XNb1:=bNb1.cx 12
noncomputable def cEx:Code:=loopAt Tryz.prog 80 0
noncomputable def tEx (t:List UInt8) (a:Int) (g:Bool) (n f i:Int):St:=⟨only 82 [(0, .string ⟨⟨t⟩⟩),(1, .int .i64 a),(8, .int .i64 i),(9, .bool g),(10, .int .i64 n),(11, .int .i64 f)],J0.tabs,11,[],[],0,none,[],11⟩
def subT (t:List UInt8) (a:Int):List UInt8:=List.drop a.toNat (List.take (IntKind.i64.wrap (a+1)).toNat t)
def geB (t:List UInt8) (a:Int):Bool:=decide (a≥(t.length:Int))
def ltE (t:List UInt8) (k:Int):Bool:=decide (k < (t.length:Int))
def hdB (t L:List UInt8) (a:Int):Bool:=match geB t a with | true=>true | false=> !conB L (subT t a)
def hdP (t:List UInt8) (a:Int):Prop:=condP [(4,geB t a)] [(4,false)] →(0≤IntKind.i64.wrap (a+1)∧IntKind.i64.wrap (a+1)≤(t.length:Int))∧0≤a∧a≤IntKind.i64.wrap (a+1)
def hdL (t L:List UInt8) (a:Int):Prop:=condP [(4,geB t a)] [(4,false)] →L.length < 4294967281
def sgB (t:List UInt8) (k:Int):Bool:=match ltE t k with | true=>(match chI t k==43 with | true=>true | false=>chI t k==45) | false=>false
def sgP1 (t:List UInt8) (k:Int):Prop:=condP [(9,chI t k==43),(4,ltE t k)] [(9,false),(4,true)] →0≤k∧k.toNat < t.length
def sgP2 (t:List UInt8) (k:Int):Prop:=condP [(4,ltE t k)] [(4,true)] →0≤k∧k.toNat < t.length
def exB (t:List UInt8) (i:Int):Bool:=match ltE t i with | true=>decide (worthV (chI t i) < 10) | false=>false
def exP1 (t:List UInt8) (i:Int):Prop:=condP [(4,ltE t i)] [(4,true)] →0≤chI t i∧chI t i < 256
def nxW (n w:Int):Int:=if IntKind.i64.wrap (IntKind.i64.wrap (n*Int.ofNat 10)+w) < Int.ofNat 1073741824 then IntKind.i64.wrap (IntKind.i64.wrap (n*Int.ofNat 10)+w) else Int.ofNat 1073741824
section
variable (t L:List UInt8) (a:Nat) (g:Bool) (n f i:Int)
theorem ex_go (hl:allP [chP t i,inP t i,exB t i=true,exP1 t i,sgP2 t i]):Step XNb1 cEx (tEx t a g n f i) .normal (tEx t a g (nxW n (worthV (chI t i))) f (IntKind.i64.wrap (i+1))):=
 step_of (Base.cx_ok bNb1_ok 12).1 progOk.mixed [] 200 [true] [] (by kernel_rfl) hl (by kernel_rfl) (by kernel_rfl)
theorem ex_end (hl:allP [exB t i=false,exP1 t i,sgP2 t i]):Step XNb1 cEx (tEx t a g n f i) (.exit 0) (tEx t a g n f i):=
 step_of (Base.cx_ok bNb1_ok 12).1 progOk.mixed [] 200 [false] [] (by kernel_rfl) hl (by kernel_rfl) (by kernel_rfl)
theorem er_head:pureCall XNb1 [] 200 80 [.string ⟨⟨t⟩⟩, .int .i64 a, .string ⟨⟨L⟩⟩] [true] =some (.tuple ⟨[.int .i64 0, .int .i64 a]⟩,[hdB t L a=true,hdL t L a,hdP t a]):=by kernel_rfl
def eQ0 (t L:List UInt8) (a:Int):List Prop:=[sgB t (IntKind.i64.wrap (a+1))=false,sgP1 t (IntKind.i64.wrap (a+1)),sgP2 t (IntKind.i64.wrap (a+1)),hdB t L a=false,hdL t L a,hdP t a]
def eQ1 (t L:List UInt8) (a:Int):List Prop:=[inP t (IntKind.i64.wrap (a+1)),sgB t (IntKind.i64.wrap (a+1))=true,sgP1 t (IntKind.i64.wrap (a+1)),sgP2 t (IntKind.i64.wrap (a+1)),hdB t L a=false,hdL t L a,hdP t a]
theorem er_0n:pureCall XNb1 [told (.exit 0) (fun _=>tEx t a g n f i)] 200 80 [.string ⟨⟨t⟩⟩, .int .i64 a, .string ⟨⟨L⟩⟩] [false,false,true] =some (.tuple ⟨[.int .i64 0, .int .i64 a]⟩,((i==f)=true) ::LoopTo XNb1 cEx (startAt XNb1 200 80 [.string ⟨⟨t⟩⟩, .int .i64 a, .string ⟨⟨L⟩⟩] J0.tabs Tryz.prog.globals.size [false,false,true]) (.exit 0) (tEx t a g n f i) ::eQ0 t L a):=by kernel_rfl
theorem er_0p:pureCall XNb1 [told (.exit 0) (fun _=>tEx t a g n f i)] 200 80 [.string ⟨⟨t⟩⟩, .int .i64 a, .string ⟨⟨L⟩⟩] [false,false,false,false] =some (.tuple ⟨[.int .i64 n, .int .i64 i]⟩,(g=false) ::((i==f)=false) ::LoopTo XNb1 cEx (startAt XNb1 200 80 [.string ⟨⟨t⟩⟩, .int .i64 a, .string ⟨⟨L⟩⟩] J0.tabs Tryz.prog.globals.size [false,false,false,false]) (.exit 0) (tEx t a g n f i) ::eQ0 t L a):=by kernel_rfl
theorem er_1n:pureCall XNb1 [told (.exit 0) (fun _=>tEx t a g n f i)] 200 80 [.string ⟨⟨t⟩⟩, .int .i64 a, .string ⟨⟨L⟩⟩] [false,true,true] =some (.tuple ⟨[.int .i64 0, .int .i64 a]⟩,((i==f)=true) ::LoopTo XNb1 cEx (startAt XNb1 200 80 [.string ⟨⟨t⟩⟩, .int .i64 a, .string ⟨⟨L⟩⟩] J0.tabs Tryz.prog.globals.size [false,true,true]) (.exit 0) (tEx t a g n f i) ::eQ1 t L a):=by kernel_rfl
theorem er_1m:pureCall XNb1 [told (.exit 0) (fun _=>tEx t a g n f i)] 200 80 [.string ⟨⟨t⟩⟩, .int .i64 a, .string ⟨⟨L⟩⟩] [false,true,false,true] =some (.tuple ⟨[.int .i64 (IntKind.i64.wrap (Int.ofNat 0-n)), .int .i64 i]⟩,(g=true) ::((i==f)=false) ::LoopTo XNb1 cEx (startAt XNb1 200 80 [.string ⟨⟨t⟩⟩, .int .i64 a, .string ⟨⟨L⟩⟩] J0.tabs Tryz.prog.globals.size [false,true,false,true]) (.exit 0) (tEx t a g n f i) ::eQ1 t L a):=by kernel_rfl
theorem er_1p:pureCall XNb1 [told (.exit 0) (fun _=>tEx t a g n f i)] 200 80 [.string ⟨⟨t⟩⟩, .int .i64 a, .string ⟨⟨L⟩⟩] [false,true,false,false] =some (.tuple ⟨[.int .i64 n, .int .i64 i]⟩,(g=false) ::((i==f)=false) ::LoopTo XNb1 cEx (startAt XNb1 200 80 [.string ⟨⟨t⟩⟩, .int .i64 a, .string ⟨⟨L⟩⟩] J0.tabs Tryz.prog.globals.size [false,true,false,false]) (.exit 0) (tEx t a g n f i) ::eQ1 t L a):=by kernel_rfl
theorem ex_into0 (ds:List Bool) {x:AX} {s':St} (h:LoopTo XNb1 cEx (tEx t a false 0 (IntKind.i64.wrap ((a:Int)+1)) (IntKind.i64.wrap ((a:Int)+1))) x s'):LoopTo XNb1 cEx (startAt XNb1 200 80 [.string ⟨⟨t⟩⟩, .int .i64 a, .string ⟨⟨L⟩⟩] J0.tabs Tryz.prog.globals.size (false ::false ::ds)) x s':=
 loop_into' h [] (by kernel_rfl) (by kernel_rfl) (by kernel_rfl)
theorem ex_into1 (ds:List Bool) {x:AX} {s':St} (h:LoopTo XNb1 cEx (tEx t a (chI t (IntKind.i64.wrap ((a:Int)+1))==45) 0 (IntKind.i64.wrap (IntKind.i64.wrap ((a:Int)+1)+1)) (IntKind.i64.wrap (IntKind.i64.wrap ((a:Int)+1)+1))) x s'):LoopTo XNb1 cEx (startAt XNb1 200 80 [.string ⟨⟨t⟩⟩, .int .i64 a, .string ⟨⟨L⟩⟩] J0.tabs Tryz.prog.globals.size (false ::true ::ds)) x s':=
 loop_into' h [] (by kernel_rfl) (by kernel_rfl) (by kernel_rfl)
end
end Go.Proofs.YtdgfhijnconaoaaGreatDoor
namespace Go.Proofs.YtdgfhijnconaoaaGreatDoor
open Go Go.RowKit Ev
def nxP (n w:Int):Int:=if n*10+w < 1073741824 then n*10+w else 1073741824
theorem nx_eq {n w:Int} (h0:0≤n) (h1:n≤1073741824) (w0:0≤w) (w1:w≤16):nxW n w=nxP n w:=by
 unfold nxW nxP
 rw [show (Int.ofNat 10:Int)=10 from rfl,show (Int.ofNat 1073741824:Int)=1073741824 from rfl,wr (n:=n*10) (by omega) (by omega),wr (by omega) (by omega)]
theorem nx_range {n w:Int} (h0:0≤n) (w0:0≤w):0≤nxP n w∧nxP n w≤1073741824:=by
 unfold nxP
 split <;> omega
def exGo (t:List UInt8):Nat→Nat→Int→Int×Nat
 | 0,k,n=>(n,k)
 | f+1,k,n=>if worthV (chI t k) < 10 then exGo t f (k+1) (nxP n (worthV (chI t k))) else (n,k)
theorem exGo_spec (t:List UInt8):∀ (f k:Nat) (n:Int),k+f=t.length→0≤n→n≤1073741824→k≤(exGo t f k n).2∧(exGo t f k n).2≤t.length∧0≤(exGo t f k n).1∧(exGo t f k n).1≤1073741824
 | 0,k,n,h,h0,h1=>⟨Nat.le_refl _,by show k≤_; omega,h0,h1⟩
 | f+1,k,n,h,h0,h1=>by
  unfold exGo
  split
  ·have hr:=nx_range (w:=worthV (chI t k)) h0 worth_range.1
   obtain⟨a,b,c,d⟩:=exGo_spec t f (k+1) _ (by omega) hr.1 hr.2
   exact⟨by omega,b,c,d⟩
  ·exact⟨Nat.le_refl _,by show k≤_; omega,h0,h1⟩
theorem ch_ok (t:List UInt8) (k:Int):chP t k:=⟨Int.natCast_nonneg _,Int.ofNat_lt.2 (UInt8.toNat_lt _)⟩
theorem exP1_ok (t:List UInt8) (i:Int):exP1 t i:=fun _=>⟨Int.natCast_nonneg _,Int.ofNat_lt.2 (UInt8.toNat_lt _)⟩
theorem sgP2_ok (t:List UInt8) (i:Nat):sgP2 t (i:Int):=fun hc=>⟨Int.natCast_nonneg _,by
 have:(i:Int) < (t.length:Int):=by simpa [condP,kvP,ltE] using hc
 rw [Int.toNat_natCast]
 omega⟩
theorem sgP1_ok (t:List UInt8) (i:Nat):sgP1 t (i:Int):=fun hc=>⟨Int.natCast_nonneg _,by
 have:(i:Int) < (t.length:Int):=by
  have h:=hc.2
  simpa [condP,kvP,ltE] using h
 rw [Int.toNat_natCast]
 omega⟩
theorem ex_loop {t:List UInt8} {a:Nat} {g:Bool} {f0:Int} (hl:t.length < 9223372036854775807):∀ (f k:Nat) (n:Int),k+f=t.length→0≤n→n≤1073741824→
  LoopTo XNb1 cEx (tEx t a g n f0 k) (.exit 0) (tEx t a g (exGo t f k n).1 f0 ((exGo t f k n).2:Int)):=by
 intro f k n hkf hn0 hn1
 obtain⟨r,hr⟩:∃ r,exGo t f k n=r:=⟨_,rfl⟩
 rw [hr]
 refine loop_of (ι:=Nat×Int) (fun x=>tEx t a g x.2 f0 x.1) (fun x=>t.length-x.1) (fun x=>x.1≤t.length∧(0≤x.2∧x.2≤1073741824)∧exGo t (t.length-x.1) x.1 x.2=r) (by intro e; cases e) (fun x hx=> ?_) (k,n) ⟨by show k≤_; omega,⟨hn0,hn1⟩,by show exGo t (t.length-k) k n=r; rw [show t.length-k=f by omega]; exact hr⟩
 obtain⟨k',n'⟩:=x
 obtain⟨h1,h2,h3⟩:=hx
 simp only at h1 h2 h3 ⊢
 by_cases hlt:k' < t.length
 ·have hb:ltE t (k':Int)=true:=decide_eq_true (by omega)
  have hi:inP t (k':Int):=⟨Int.natCast_nonneg _,by rw [Int.toNat_natCast]; exact hlt⟩
  have e1:IntKind.i64.wrap ((k':Int)+1)=((k'+1:Nat):Int):=by rw [wr (by omega) (by omega)]; omega
  obtain⟨q,hq⟩:∃ q,t.length-k'=q+1:=⟨t.length-k'-1,by omega⟩
  rw [hq] at h3
  unfold exGo at h3
  by_cases hw:worthV (chI t (k':Int)) < 10
  ·rw [if_pos hw] at h3
   have hw0:=worth_range (c:=chI t (k':Int))
   have hnr:=nx_range (w:=worthV (chI t (k':Int))) h2.1 hw0.1
   refine .inl ⟨(k'+1,nxP n' (worthV (chI t (k':Int)))),⟨by show k'+1≤_; omega,hnr,by show exGo t (t.length- (k'+1)) (k'+1) _=r; rw [show t.length- (k'+1)=q by omega]; exact h3⟩,by show t.length- (k'+1) < t.length-k'; omega,?_⟩
   have:=ex_go t a g n' f0 (k':Int) ⟨ch_ok _ _,hi,by unfold exB; rw [hb]; exact decide_eq_true hw,exP1_ok _ _,sgP2_ok _ _,trivial⟩
   rw [e1,nx_eq h2.1 h2.2 hw0.1 hw0.2] at this
   exact this
  ·rw [if_neg hw] at h3
   refine .inr ?_
   rw [← h3]
   exact ex_end t a g n' f0 (k':Int) ⟨by unfold exB; rw [hb]; exact decide_eq_false hw,exP1_ok _ _,sgP2_ok _ _,trivial⟩
 ·obtain rfl:k'=t.length:=by omega
  rw [Nat.sub_self] at h3
  refine .inr ?_
  rw [← h3]
  exact ex_end t a g n' f0 _ ⟨by unfold exB ltE; rw [decide_eq_false (Int.lt_irrefl _)],exP1_ok _ _,sgP2_ok _ _,trivial⟩
def exK (t:List UInt8) (a:Nat):Nat:=if sgB t ((a+1:Nat):Int)=true then a+2 else a+1
def exR (t:List UInt8) (a:Nat):Int×Nat:=exGo t (t.length-exK t a) (exK t a) 0
def exN (t:List UInt8) (a:Nat):Bool:=sgB t ((a+1:Nat):Int) && (chI t ((a+1:Nat):Int)==45)
def exV (t L:List UInt8) (a:Nat):Int:=if hdB t L a=true then 0 else if (exR t a).2=exK t a then 0 else if exN t a=true then -(exR t a).1 else (exR t a).1
def exE (t L:List UInt8) (a:Nat):Nat:=if hdB t L a=true then a else if (exR t a).2=exK t a then a else (exR t a).2
theorem hdP_ok {t:List UInt8} {a:Nat} (hl:t.length < 9223372036854775807):hdP t (a:Int):=fun hc=>by
 have:(a:Int) < (t.length:Int):=by simpa [condP,kvP,geB] using hc
 rw [wr (by omega) (by omega)]
 omega
theorem exponent_pure {t L:List UInt8} {a:Nat} (hl:t.length < 9223372036854775807) (hL:L.length < 4294967281):
  Ev.Pure Tryz.prog J0 80 [.string ⟨⟨t⟩⟩, .int .i64 a, .string ⟨⟨L⟩⟩] (.tuple ⟨[.int .i64 (exV t L a), .int .i64 (exE t L a)]⟩):=by
 have hq:hdL t L (a:Int):=fun _=>hL
 have hp:=hdP_ok (a:=a) hl
 unfold exV exE
 cases hh:hdB t L a with
 | true=>
  simp only [if_true]
  exact pureN bNb1_ok (er_head t L a) ⟨hh,hq,hp,trivial⟩
 | false=>
  simp only [Bool.false_eq_true,if_false]
  have hlt:a < t.length:=by
   unfold hdB at hh
   cases hg:geB t (a:Int) with
   | true=>rw [hg] at hh; cases hh
   | false=>
    have:¬((a:Int)≥(t.length:Int)):=of_decide_eq_false hg
    omega
  have e1:IntKind.i64.wrap ((a:Int)+1)=((a+1:Nat):Int):=by rw [wr (by omega) (by omega)]; omega
  cases hs:sgB t ((a+1:Nat):Int) with
  | false=>
   have hK:exK t a=a+1:=by unfold exK; rw [hs]; rfl
   have hN:exN t a=false:=by unfold exN; rw [hs]; rfl
   obtain⟨r1,r2,r3,r4⟩:=exGo_spec t (t.length-exK t a) (exK t a) 0 (by omega) (by decide) (by decide)
   have hloop:LoopTo XNb1 cEx (tEx t a false 0 ((a+1:Nat):Int) ((a+1:Nat):Int)) (.exit 0) (tEx t a false (exR t a).1 ((a+1:Nat):Int) ((exR t a).2:Int)):=by
    have:=ex_loop (a:=a) (g:=false) (f0:=((a+1:Nat):Int)) hl (t.length-exK t a) (exK t a) 0 (by omega) (by decide) (by decide)
    rw [hK] at this
    unfold exR
    rw [hK]
    exact this
   have hi:=fun ds=>ex_into0 t L a ds (by rw [e1]; exact hloop)
   have hq0:allP (eQ0 t L a):=by
    unfold eQ0
    rw [e1]
    exact⟨hs,sgP1_ok _ _,sgP2_ok _ _,hh,hq,hp,trivial⟩
   rw [hN]
   simp only [Bool.false_eq_true,if_false]
   by_cases he:(exR t a).2=exK t a
   ·rw [if_pos he,if_pos he]
    rw [hK] at he
    exact pureN bNb1_ok (er_0n t L a false (exR t a).1 ((a+1:Nat):Int) ((exR t a).2:Int)) ⟨by rw [he]; exact beq_self_eq_true _,hi [true],hq0⟩
   ·rw [if_neg he,if_neg he]
    rw [hK] at he
    exact pureN bNb1_ok (er_0p t L a false (exR t a).1 ((a+1:Nat):Int) ((exR t a).2:Int)) ⟨rfl,beq_false_of_ne (by omega),hi [false,false],hq0⟩
  | true=>
   have hk:a+1 < t.length:=by
    unfold sgB at hs
    cases hg:ltE t ((a+1:Nat):Int) with
    | false=>rw [hg] at hs; cases hs
    | true=>
     have:((a+1:Nat):Int) < (t.length:Int):=of_decide_eq_true hg
     omega
   have hK:exK t a=a+2:=by unfold exK; rw [hs]; rfl
   have hN:exN t a=(chI t ((a+1:Nat):Int)==45):=by unfold exN; rw [hs]; rfl
   have e2:IntKind.i64.wrap (((a+1:Nat):Int)+1)=((a+2:Nat):Int):=by rw [wr (by omega) (by omega)]; omega
   obtain⟨r1,r2,r3,r4⟩:=exGo_spec t (t.length-exK t a) (exK t a) 0 (by omega) (by decide) (by decide)
   have hloop:LoopTo XNb1 cEx (tEx t a (exN t a) 0 ((a+2:Nat):Int) ((a+2:Nat):Int)) (.exit 0) (tEx t a (exN t a) (exR t a).1 ((a+2:Nat):Int) ((exR t a).2:Int)):=by
    have:=ex_loop (a:=a) (g:=exN t a) (f0:=((a+2:Nat):Int)) hl (t.length-exK t a) (exK t a) 0 (by omega) (by decide) (by decide)
    rw [hK] at this
    unfold exR
    rw [hK]
    exact this
   have hi:=fun ds=>ex_into1 t L a ds (by rw [e1,e2,← hN]; exact hloop)
   have hq1:allP (eQ1 t L a):=by
    unfold eQ1
    rw [e1]
    exact⟨⟨Int.natCast_nonneg _,by rw [Int.toNat_natCast]; exact hk⟩,hs,sgP1_ok _ _,sgP2_ok _ _,hh,hq,hp,trivial⟩
   by_cases he:(exR t a).2=exK t a
   ·rw [if_pos he,if_pos he]
    rw [hK] at he
    exact pureN bNb1_ok (er_1n t L a (exN t a) (exR t a).1 ((a+2:Nat):Int) ((exR t a).2:Int)) ⟨by rw [he]; exact beq_self_eq_true _,hi [true],hq1⟩
   ·rw [if_neg he,if_neg he]
    rw [hK] at he
    cases hn:exN t a with
    | true=>
     rw [hn] at hi
     have:Ev.Pure Tryz.prog J0 _ _ _:=pureN bNb1_ok (er_1m t L a true (exR t a).1 ((a+2:Nat):Int) ((exR t a).2:Int)) ⟨rfl,beq_false_of_ne (by omega),hi [false,true],hq1⟩
     rw [show IntKind.i64.wrap (Int.ofNat 0- (exR t a).1)= -(exR t a).1 by
      unfold exR
      rw [show (Int.ofNat 0:Int)=0 from rfl,wr (by omega) (by omega)]
      omega] at this
     simpa using this
    | false=>
     rw [hn] at hi
     have:Ev.Pure Tryz.prog J0 _ _ _:=pureN bNb1_ok (er_1p t L a false (exR t a).1 ((a+2:Nat):Int) ((exR t a).2:Int)) ⟨rfl,beq_false_of_ne (by omega),hi [false,false],hq1⟩
     simpa using this
end Go.Proofs.YtdgfhijnconaoaaGreatDoor
namespace Go.Proofs.YtdgfhijnconaoaaGreatDoor
open Go Go.RowKit Ev
def specMa:List Value→Option (Value×List Prop)
 | [.string ⟨⟨t⟩⟩, .int .i64 a, .int .i64 b] =>some (.tuple ⟨[.string ⟨⟨maS t a.toNat b⟩⟩, .int .i64 (maB t a.toNat b), .int .i64 (maE t a.toNat b)]⟩,[t.length < 9223372036854775807∧0≤a∧a.toNat≤t.length])
 | _=>none
theorem specMa_ok (args:List Value) (v:Value) (l:List Prop) (h:specMa args=some (v,l)) (hl:allP l):Ev.Pure Tryz.prog J0 79 args v:=by
 unfold specMa at h
 split at h
 ·rename_i t a b
  cases h
  obtain⟨h1,h2,h3⟩:=hl.1
  obtain⟨q,rfl⟩:=Int.eq_ofNat_of_zero_le h2
  exact mantissa_pure h1 h3
 ·cases h
def specEx:List Value→Option (Value×List Prop)
 | [.string ⟨⟨t⟩⟩, .int .i64 a, .string ⟨⟨L⟩⟩] =>some (.tuple ⟨[.int .i64 (exV t L a.toNat), .int .i64 (exE t L a.toNat)]⟩,[t.length < 9223372036854775807∧L.length < 4294967281∧0≤a])
 | _=>none
theorem specEx_ok (args:List Value) (v:Value) (l:List Prop) (h:specEx args=some (v,l)) (hl:allP l):Ev.Pure Tryz.prog J0 80 args v:=by
 unfold specEx at h
 split at h
 ·rename_i t a L
  cases h
  obtain⟨h1,h2,h3⟩:=hl.1
  obtain⟨q,rfl⟩:=Int.eq_ofNat_of_zero_le h3
  exact exponent_pure h1 h2
 ·cases h
noncomputable def tabNb2:Tab:=tabAdd 79 specMa (tabAdd 80 specEx tabNb1)
theorem tabNb2_ok:PcOk Tryz.prog J0 tabNb2:=tabAdd_ok specMa_ok (tabAdd_ok specEx_ok tabNb1_ok)
noncomputable def bNb2:Base:=⟨Tryz.prog,J0,false,tabNb2,mtab0,2000,xtN0⟩
theorem bNb2_ok:BaseOk bNb2:=⟨progOk,tabNb2_ok,mtab0_ok _ _,xtN0_ok⟩
noncomputable abbrev XNb2:=bNb2.cx 12
end Go.Proofs.YtdgfhijnconaoaaGreatDoor
namespace Go.Proofs.YtdgfhijnconaoaaGreatDoor
open Go Go.RowKit Ev
abbrev pcV (h:Bool) (s:List UInt8) (e n:Int):Value:= .agg ⟨[.bool h, .string ⟨⟨s⟩⟩, .int .i64 e, .int .i64 n]⟩
def h0B (t:List UInt8):Bool:=match decide ((t.length:Int) > 1) with | true=>chI t 0==48 | false=>false
def hxB (t:List UInt8):Bool:=match h0B t with | true=>(match chI t 1==120 with | true=>true | false=>chI t 1==88) | false=>false
def hP1 (t:List UInt8):Prop:=condP [(12,chI t 1==120),(8,h0B t),(3,decide ((t.length:Int) > 1))] [(12,false),(8,true)] →(0:Int)≤1∧(1:Int).toNat < t.length
def hP2 (t:List UInt8):Prop:=condP [(8,h0B t),(3,decide ((t.length:Int) > 1))] [(8,true)] →(0:Int)≤1∧(1:Int).toNat < t.length
def hP3 (t:List UInt8):Prop:=condP [(3,decide ((t.length:Int) > 1))] [(3,true)] →(0:Int)≤0∧(0:Int).toNat < t.length
def maQ (t:List UInt8) (a:Nat):Prop:=t.length < 9223372036854775807∧Int.ofNat 0≤Int.ofNat a∧a≤t.length
def exQ (t:List UInt8) (m:Nat):Prop:=t.length < 9223372036854775807∧2 < 4294967281∧Int.ofNat 0≤Int.ofNat m
abbrev pP:List UInt8:=[112,80]
abbrev eE:List UInt8:=[101,69]
section
variable (t:List UInt8)
theorem ba_hex:pureCall XNb2 [] 200 46 [.string ⟨⟨t⟩⟩] [true,true] =some (pcV true (maS t 2 16) (IntKind.i64.wrap (exV t pP (maE t 2 16)-IntKind.i64.wrap (Int.ofNat 4*maB t 2 16))) (exE t pP (maE t 2 16)),
 [exQ t (maE t 2 16),(!(maS t 2 16==([] :List UInt8)))=true,maQ t 2,hxB t=true,hP1 t,hP2 t,hP3 t]):=by kernel_rfl
theorem ba_hno:pureCall XNb2 [] 200 46 [.string ⟨⟨t⟩⟩] [true,false,true] =some (pcV false [] 0 0,
 [(maS t 0 10==([] :List UInt8))=true,maQ t 0,(!(maS t 2 16==([] :List UInt8)))=false,maQ t 2,hxB t=true,hP1 t,hP2 t,hP3 t]):=by kernel_rfl
theorem ba_hdc:pureCall XNb2 [] 200 46 [.string ⟨⟨t⟩⟩] [true,false,false] =some (pcV false (maS t 0 10) (IntKind.i64.wrap (exV t eE (maE t 0 10)-maB t 0 10)) (exE t eE (maE t 0 10)),
 [exQ t (maE t 0 10),(maS t 0 10==([] :List UInt8))=false,maQ t 0,(!(maS t 2 16==([] :List UInt8)))=false,maQ t 2,hxB t=true,hP1 t,hP2 t,hP3 t]):=by kernel_rfl
theorem ba_no:pureCall XNb2 [] 200 46 [.string ⟨⟨t⟩⟩] [false,true] =some (pcV false [] 0 0,
 [(maS t 0 10==([] :List UInt8))=true,maQ t 0,hxB t=false,hP1 t,hP2 t,hP3 t]):=by kernel_rfl
theorem ba_dc:pureCall XNb2 [] 200 46 [.string ⟨⟨t⟩⟩] [false,false] =some (pcV false (maS t 0 10) (IntKind.i64.wrap (exV t eE (maE t 0 10)-maB t 0 10)) (exE t eE (maE t 0 10)),
 [exQ t (maE t 0 10),(maS t 0 10==([] :List UInt8))=false,maQ t 0,hxB t=false,hP1 t,hP2 t,hP3 t]):=by kernel_rfl
end
def bareH (t:List UInt8):Bool:=hxB t && !(maS t 2 16==([] :List UInt8))
def bareS (t:List UInt8):List UInt8:=if bareH t=true then maS t 2 16 else maS t 0 10
def bareX (t:List UInt8):Int:=if bareH t=true then exV t pP (maE t 2 16)-4*maB t 2 16 else if maS t 0 10=[] then 0 else exV t eE (maE t 0 10)-maB t 0 10
def bareN (t:List UInt8):Nat:=if bareH t=true then exE t pP (maE t 2 16) else if maS t 0 10=[] then 0 else exE t eE (maE t 0 10)
theorem exV_range (t L:List UInt8) (a:Nat): -1073741824≤exV t L a∧exV t L a≤1073741824:=by
 unfold exV
 split
 ·omega
 rename_i hh
 split
 ·omega
 have hlt:a < t.length:=by
  have hh:hdB t L a=false:=by simpa using hh
  unfold hdB at hh
  cases hg:geB t (a:Int) with
  | true=>rw [hg] at hh; cases hh
  | false=>
   have:¬((a:Int)≥(t.length:Int)):=of_decide_eq_false hg
   omega
 have hK:exK t a≤t.length:=by
  unfold exK
  split
  ·rename_i hs
   unfold sgB at hs
   cases hg:ltE t ((a+1:Nat):Int) with
   | false=>rw [hg] at hs; cases hs
   | true=>
    have:((a+1:Nat):Int) < (t.length:Int):=of_decide_eq_true hg
    omega
  ·omega
 obtain⟨_,_,r3,r4⟩:=exGo_spec t (t.length-exK t a) (exK t a) 0 (by omega) (by decide) (by decide)
 unfold exR
 split <;> omega
theorem maB_range {t:List UInt8} {a:Nat} {b:Int} (ha:a≤t.length):0≤maB t a b∧maB t a b≤(t.length:Int):=by
 obtain⟨r1,r2,r3,r4⟩:=ma_range (b:=b) ha
 unfold maB
 split
 ·omega
 ·rcases r3 with r3 | r3 <;> omega
theorem hP_ok (t:List UInt8):hP1 t∧hP2 t∧hP3 t:=by
 have h8:h0B t=true→1 < t.length:=fun h=>by
  unfold h0B at h
  split at h
  ·rename_i hd
   have:=of_decide_eq_true hd
   omega
  ·cases h
 refine⟨fun hc=>⟨by decide,?_⟩,fun hc=>⟨by decide,?_⟩,fun hc=>⟨by decide,?_⟩⟩
 ·exact h8 (by simpa [condP,kvP] using hc.2)
 ·exact h8 (by simpa [condP,kvP] using hc)
 ·have:(t.length:Int) > 1:=by simpa [condP,kvP] using hc
  show 0 < t.length
  omega
theorem pc_cast {P:Program} {J:Ev.Inv P} {f:FuncId} {args:List Value} {h:Bool} {s:List UInt8} {e e' n:Int} (hp:Ev.Pure P J f args (pcV h s e n)) (he:e=e'):Ev.Pure P J f args (pcV h s e' n):=he ▸ hp
theorem bare_pure {t:List UInt8} (hl:t.length≤140737488351232):Ev.Pure Tryz.prog J0 46 [.string ⟨⟨t⟩⟩] (pcV (bareH t) (bareS t) (bareX t) (bareN t)):=by
 obtain⟨p1,p2,p3⟩:=hP_ok t
 have hl':t.length < 9223372036854775807:=by omega
 have q0:maQ t 0:=⟨hl',Int.le_refl _,Nat.zero_le _⟩
 have hx:∀ m,exQ t m:=fun m=>⟨hl',by decide,Int.natCast_nonneg _⟩
 have dec:∀ (hm:¬maS t 0 10=[]),IntKind.i64.wrap (exV t eE (maE t 0 10)-maB t 0 10)=exV t eE (maE t 0 10)-maB t 0 10:=fun _=>by
  have a1:=exV_range t eE (maE t 0 10)
  have a2:=maB_range (t:=t) (b:=10) (Nat.zero_le _)
  rw [wr (by omega) (by omega)]
 unfold bareS bareX bareN
 cases hh:hxB t with
 | true=>
  have h2:2≤t.length:=by
   unfold hxB h0B at hh
   split at hh
   ·rename_i hd
    split at hd
    ·rename_i hd'
     have:=of_decide_eq_true hd'
     omega
    ·cases hd
   ·cases hh
  have q2:maQ t 2:=⟨hl',by decide,h2⟩
  cases hm:(maS t 2 16==([] :List UInt8)) with
  | false=>
   rw [show bareH t=true by unfold bareH; rw [hh,hm]; rfl]
   simp only [if_true]
   refine pc_cast (pureN bNb2_ok (ba_hex t) ⟨hx _,by rw [hm]; rfl,q2,hh,p1,p2,p3,trivial⟩) ?_
   have a1:=exV_range t pP (maE t 2 16)
   have a2:=maB_range (t:=t) (b:=16) h2
   rw [show (Int.ofNat 4:Int)=4 from rfl,wr (n:=4*maB t 2 16) (by omega) (by omega),wr (by omega) (by omega)]
  | true=>
   rw [show bareH t=false by unfold bareH; rw [hh,hm]; rfl]
   simp only [Bool.false_eq_true,if_false]
   by_cases hs:maS t 0 10=[]
   ·rw [if_pos hs,if_pos hs,hs]
    exact pureN bNb2_ok (ba_hno t) ⟨by rw [hs]; rfl,q0,by rw [hm]; rfl,q2,hh,p1,p2,p3,trivial⟩
   ·rw [if_neg hs,if_neg hs]
    exact pc_cast (pureN bNb2_ok (ba_hdc t) ⟨hx _,beq_false_of_ne hs,q0,by rw [hm]; rfl,q2,hh,p1,p2,p3,trivial⟩) (dec hs)
 | false=>
  rw [show bareH t=false by unfold bareH; rw [hh]; rfl]
  simp only [Bool.false_eq_true,if_false]
  by_cases hs:maS t 0 10=[]
  ·rw [if_pos hs,if_pos hs,hs]
   exact pureN bNb2_ok (ba_no t) ⟨by rw [hs]; rfl,q0,hh,p1,p2,p3,trivial⟩
  ·rw [if_neg hs,if_neg hs]
   exact pc_cast (pureN bNb2_ok (ba_dc t) ⟨hx _,beq_false_of_ne hs,q0,hh,p1,p2,p3,trivial⟩) (dec hs)
def specBare:List Value→Option (Value×List Prop)
 | [.string ⟨⟨t⟩⟩] =>some (pcV (bareH t) (bareS t) (bareX t) (bareN t),[t.length≤140737488351232])
 | _=>none
theorem specBare_ok (args:List Value) (v:Value) (l:List Prop) (h:specBare args=some (v,l)) (hl:allP l):Ev.Pure Tryz.prog J0 46 args v:=by
 unfold specBare at h
 split at h
 ·cases h; exact bare_pure hl.1
 ·cases h
noncomputable def tabNb3:Tab:=tabAdd 46 specBare tabNb2
theorem tabNb3_ok:PcOk Tryz.prog J0 tabNb3:=tabAdd_ok specBare_ok tabNb2_ok
noncomputable def bNb3:Base:=⟨Tryz.prog,J0,false,tabNb3,mtab0,2000,xtN0⟩
theorem bNb3_ok:BaseOk bNb3:=⟨progOk,tabNb3_ok,mtab0_ok _ _,xtN0_ok⟩
noncomputable abbrev XNb3:=bNb3.cx 12
end Go.Proofs.YtdgfhijnconaoaaGreatDoor
namespace Go.Proofs.YtdgfhijnconaoaaGreatDoor
open Go Go.RowKit Ev
def neB (t:List UInt8):Bool:= !(t==([] :List UInt8))
def spB (t:List UInt8):Bool:=match neB t with | true=>(match chI t 0==45 with | true=>true | false=>chI t 0==43) | false=>false
def spP1 (t:List UInt8):Prop:=condP [(6,chI t 0==45),(2,neB t)] [(6,false),(2,true)] →(0:Int)≤0∧(0:Int).toNat < t.length
def spP2 (t:List UInt8):Prop:=condP [(2,neB t)] [(2,true)] →(0:Int)≤0∧(0:Int).toNat < t.length
theorem sp_y (t:List UInt8):pureCall XNb3 [] 200 61 [.string ⟨⟨t⟩⟩] [true] =some (.tuple ⟨[.bool (chI t 0==45), .string ⟨⟨t.drop 1⟩⟩]⟩,[Int.ofNat 0≤Int.ofNat 1∧Int.ofNat 1≤Int.ofNat t.length,Int.ofNat 0≤Int.ofNat 0∧0 < t.length,spB t=true,spP1 t,spP2 t]):=by kernel_rfl
theorem sp_n (t:List UInt8):pureCall XNb3 [] 200 61 [.string ⟨⟨t⟩⟩] [false] =some (.tuple ⟨[.bool false, .string ⟨⟨t⟩⟩]⟩,[spB t=false,spP1 t,spP2 t]):=by kernel_rfl
def negT (t:List UInt8):Bool:=spB t && (chI t 0==45)
def restT (t:List UInt8):List UInt8:=if spB t=true then t.drop 1 else t
theorem ne_pos {t:List UInt8} (h:neB t=true):0 < t.length:=by
 cases t with
 | nil=>cases h
 | cons c r=>simp
theorem split_pure (t:List UInt8):Ev.Pure Tryz.prog J0 61 [.string ⟨⟨t⟩⟩] (.tuple ⟨[.bool (negT t), .string ⟨⟨restT t⟩⟩]⟩):=by
 have p1:spP1 t:=fun hc=>⟨by decide,ne_pos (by simpa [condP,kvP] using hc.2)⟩
 have p2:spP2 t:=fun hc=>⟨by decide,ne_pos (by simpa [condP,kvP] using hc)⟩
 unfold negT restT
 cases hs:spB t with
 | true=>
  have h0:0 < t.length:=by
   unfold spB at hs
   cases hn:neB t with
   | true=>exact ne_pos hn
   | false=>rw [hn] at hs; cases hs
  simp only [if_true,Bool.true_and]
  exact pureN bNb3_ok (sp_y t) ⟨⟨by decide,Int.ofNat_le.2 h0⟩,⟨Int.le_refl _,h0⟩,hs,p1,p2,trivial⟩
 | false=>
  simp only [Bool.false_eq_true,if_false,Bool.false_and]
  exact pureN bNb3_ok (sp_n t) ⟨hs,p1,p2,trivial⟩
def specSplit:List Value→Option (Value×List Prop)
 | [.string ⟨⟨t⟩⟩] =>some (.tuple ⟨[.bool (negT t), .string ⟨⟨restT t⟩⟩]⟩,[])
 | _=>none
theorem specSplit_ok (args:List Value) (v:Value) (l:List Prop) (h:specSplit args=some (v,l)) (_:allP l):Ev.Pure Tryz.prog J0 61 args v:=by
 unfold specSplit at h
 split at h
 ·cases h; exact split_pure _
 ·cases h
noncomputable def tabNb4:Tab:=tabAdd 61 specSplit tabNb3
theorem tabNb4_ok:PcOk Tryz.prog J0 tabNb4:=tabAdd_ok specSplit_ok tabNb3_ok
noncomputable def bNb4:Base:=⟨Tryz.prog,J0,false,tabNb4,mtab0,2000,xtN0⟩
theorem bNb4_ok:BaseOk bNb4:=⟨progOk,tabNb4_ok,mtab0_ok _ _,xtN0_ok⟩
noncomputable abbrev XNb4:=bNb4.cx 12
abbrev nanT:List UInt8:=[78,97,78]
abbrev infT:List UInt8:=[73,110,102]
def rdT (neg:Bool) (p:Value) (o:Nat) (i:Bool) (e:Int):Value:= .tuple ⟨[.bool neg,p, .float .f64 o, .bool i, .int .i64 e]⟩
abbrev pc0:Value:=pcV false [] 0 0
noncomputable abbrev pcT (t:List UInt8):Value:=pcV (bareH t) (bareS t) (bareX t) (bareN t)
def formB (t:List UInt8):Bool:=match (bareN t:Int)==0 with | true=>true | false=>(bareN t:Int) !=(t.length:Int)
section
variable (t:List UInt8)
theorem re_long:pureCall XNb4 [] 200 30 [.string ⟨⟨t⟩⟩] [true] =some (rdT false pc0 0 false 2,[decide (Int.ofNat 8192 < Int.ofNat t.length)=true]):=by kernel_rfl
theorem re_nan:pureCall XNb4 [] 200 30 [.string ⟨⟨t⟩⟩] [false,true] =some (rdT false pc0 9221120237041090560 true 0,[(t==nanT)=true,decide (Int.ofNat 8192 < Int.ofNat t.length)=false]):=by kernel_rfl
theorem re_ninf:pureCall XNb4 [] 200 30 [.string ⟨⟨t⟩⟩] [false,false,true,true] =some (rdT (negT t) pc0 18442240474082181120 true 0,[negT t=true,(restT t==infT)=true,(t==nanT)=false,decide (Int.ofNat 8192 < Int.ofNat t.length)=false]):=by kernel_rfl
theorem re_pinf:pureCall XNb4 [] 200 30 [.string ⟨⟨t⟩⟩] [false,false,true,false] =some (rdT (negT t) pc0 9218868437227405312 true 0,[negT t=false,(restT t==infT)=true,(t==nanT)=false,decide (Int.ofNat 8192 < Int.ofNat t.length)=false]):=by kernel_rfl
theorem re_form:pureCall XNb4 [] 200 30 [.string ⟨⟨t⟩⟩] [false,false,false,true] =some (rdT false (pcT (restT t)) 0 false 3,[formB (restT t)=true,(restT t).length≤140737488351232,(restT t==infT)=false,(t==nanT)=false,decide (Int.ofNat 8192 < Int.ofNat t.length)=false]):=by kernel_rfl
theorem re_ok:pureCall XNb4 [] 200 30 [.string ⟨⟨t⟩⟩] [false,false,false,false] =some (rdT (negT t) (pcT (restT t)) 0 false 0,[formB (restT t)=false,(restT t).length≤140737488351232,(restT t==infT)=false,(t==nanT)=false,decide (Int.ofNat 8192 < Int.ofNat t.length)=false]):=by kernel_rfl
end
noncomputable def rdV (t:List UInt8):Value:=
 if 8192 < t.length then rdT false pc0 0 false 2
 else if t=nanT then rdT false pc0 9221120237041090560 true 0
 else if restT t=infT then rdT (negT t) pc0 (if negT t=true then 18442240474082181120 else 9218868437227405312) true 0
 else if formB (restT t)=true then rdT false (pcT (restT t)) 0 false 3
 else rdT (negT t) (pcT (restT t)) 0 false 0
theorem read_num (t:List UInt8):Ev.Pure Tryz.prog J0 30 [.string ⟨⟨t⟩⟩] (rdV t):=by
 unfold rdV
 by_cases hl:8192 < t.length
 ·rw [if_pos hl]
  exact pureN bNb4_ok (re_long t) ⟨decide_eq_true (Int.ofNat_lt.2 hl),trivial⟩
 rw [if_neg hl]
 have hd:decide (Int.ofNat 8192 < Int.ofNat t.length)=false:=decide_eq_false fun h=>hl (Int.ofNat_lt.1 h)
 by_cases hn:t=nanT
 ·rw [if_pos hn]
  exact pureN bNb4_ok (re_nan t) ⟨by rw [hn]; exact beq_self_eq_true _,hd,trivial⟩
 rw [if_neg hn]
 have hn':(t==nanT)=false:=beq_false_of_ne hn
 have hr:(restT t).length≤140737488351232:=by
  unfold restT
  split
  ·rw [List.length_drop]; omega
  ·omega
 by_cases hi:restT t=infT
 ·rw [if_pos hi]
  have hi':(restT t==infT)=true:=by rw [hi]; exact beq_self_eq_true _
  cases hg:negT t with
  | true=>
   have:=pureN bNb4_ok (re_ninf t) ⟨hg,hi',hn',hd,trivial⟩
   rw [hg] at this
   exact this
  | false=>
   have:=pureN bNb4_ok (re_pinf t) ⟨hg,hi',hn',hd,trivial⟩
   rw [hg] at this
   exact this
 rw [if_neg hi]
 have hi':(restT t==infT)=false:=beq_false_of_ne hi
 cases hf:formB (restT t) with
 | true=>
  simp only [if_true]
  exact pureN bNb4_ok (re_form t) ⟨hf,hr,hi',hn',hd,trivial⟩
 | false=>
  simp only [Bool.false_eq_true,if_false]
  exact pureN bNb4_ok (re_ok t) ⟨hf,hr,hi',hn',hd,trivial⟩
end Go.Proofs.YtdgfhijnconaoaaGreatDoor
namespace Go.Proofs.YtdgfhijnconaoaaGreatDoor
open Go Go.RowKit Ev
noncomputable def cTl:Code:=loopAt Tryz.prog 105 0
noncomputable def cTr:Code:=loopAt Tryz.prog 100 0
noncomputable def tTL (t:List UInt8):St:=⟨only 17 [(0, .string ⟨⟨t⟩⟩),(1, .int .u8 48)],J0.tabs,11,[],[],0,none,[],11⟩
def posB (t:List UInt8):Bool:=decide ((t.length:Int) > 0)
def tlB (t:List UInt8):Bool:=match posB t with | true=>chI t 0==48 | false=>false
def tlP (t:List UInt8):Prop:=condP [(3,posB t)] [(3,true)] →(0:Int)≤0∧(0:Int).toNat < t.length
section
variable (t s:List UInt8)
theorem tl_go (hl:allP [Int.ofNat 0≤Int.ofNat 1∧Int.ofNat 1≤Int.ofNat t.length,tlB t=true,tlP t]):Step XNb4 cTl (tTL t) .normal (tTL (t.drop 1)):=
 step_of (Base.cx_ok bNb4_ok 12).1 progOk.mixed [] 200 [true] [] (by kernel_rfl) hl (by kernel_rfl) (by kernel_rfl)
theorem tl_end (hl:allP [tlB t=false,tlP t]):Step XNb4 cTl (tTL t) (.exit 0) (tTL t):=
 step_of (Base.cx_ok bNb4_ok 12).1 progOk.mixed [] 200 [false] [] (by kernel_rfl) hl (by kernel_rfl) (by kernel_rfl)
theorem tl_all:pureCall XNb4 [told (.exit 0) (fun _=>tTL s)] 200 105 [.string ⟨⟨t⟩⟩, .int .u8 48] [] =some (.string ⟨⟨s⟩⟩,[LoopTo XNb4 cTl (startAt XNb4 200 105 [.string ⟨⟨t⟩⟩, .int .u8 48] J0.tabs Tryz.prog.globals.size []) (.exit 0) (tTL s)]):=by kernel_rfl
theorem tl_into {x:AX} {s':St} (h:LoopTo XNb4 cTl (tTL t) x s'):LoopTo XNb4 cTl (startAt XNb4 200 105 [.string ⟨⟨t⟩⟩, .int .u8 48] J0.tabs Tryz.prog.globals.size []) x s':=
 loop_into' h [] (by kernel_rfl) (by kernel_rfl) (by kernel_rfl)
end
def trimL:List UInt8→List UInt8
 | [] =>[]
 | c ::r=>if c=48 then trimL r else c ::r
theorem chI_cons (c:UInt8) (r:List UInt8):(chI (c ::r) 0==48)=decide (c=48):=by
 by_cases h:c=48
 ·subst h; rfl
 ·rw [decide_eq_false h]
  refine beq_false_of_ne fun e=>h ?_
  have e:(c.toNat:Int)=48:=e
  exact UInt8.toNat_inj.1 (show c.toNat=48 by omega)
theorem tlP_ok (t:List UInt8):tlP t:=fun hc=>⟨by decide,by
 have:(t.length:Int) > 0:=by simpa [condP,kvP,posB] using hc
 show 0 < t.length
 omega⟩
theorem trimLeft_loop (t:List UInt8):LoopTo XNb4 cTl (tTL t) (.exit 0) (tTL (trimL t)):=by
 obtain⟨r,hr⟩:∃ r,trimL t=r:=⟨_,rfl⟩
 rw [hr]
 refine loop_of (ι:=List UInt8) tTL List.length (fun s=>trimL s=r) (by intro e; cases e) (fun s hs=> ?_) t hr
 cases s with
 | nil=>
  refine .inr ?_
  have:r=[] :=hs.symm
  rw [this]
  exact tl_end [] ⟨rfl,tlP_ok _,trivial⟩
 | cons c q=>
  have hp:posB (c ::q)=true:=decide_eq_true (by simp only [List.length_cons]; omega)
  have hb:tlB (c ::q)=decide (c=48):=by unfold tlB; rw [hp,chI_cons]
  unfold trimL at hs
  by_cases h:c=48
  ·rw [if_pos h] at hs
   exact .inl ⟨q,hs,by simp,tl_go (c ::q) ⟨⟨by decide,Int.ofNat_le.2 (by simp)⟩,by rw [hb]; exact decide_eq_true h,tlP_ok _,trivial⟩⟩
  ·rw [if_neg h] at hs
   refine .inr ?_
   rw [← hs]
   exact tl_end (c ::q) ⟨by rw [hb]; exact decide_eq_false h,tlP_ok _,trivial⟩
theorem trimLeft_pure (t:List UInt8):Ev.Pure Tryz.prog J0 105 [.string ⟨⟨t⟩⟩, .int .u8 48] (.string ⟨⟨trimL t⟩⟩):=
 pureN bNb4_ok (tl_all t (trimL t)) ⟨tl_into t (trimLeft_loop t),trivial⟩
def specTl:List Value→Option (Value×List Prop)
 | [.string ⟨⟨t⟩⟩, .int .u8 n] =>some (.string ⟨⟨trimL t⟩⟩,[n=48])
 | _=>none
theorem specTl_ok (args:List Value) (v:Value) (l:List Prop) (h:specTl args=some (v,l)) (hl:allP l):Ev.Pure Tryz.prog J0 105 args v:=by
 unfold specTl at h
 split at h
 ·cases h
  obtain⟨rfl,_⟩:=hl
  exact trimLeft_pure _
 ·cases h
noncomputable def tabNb5:Tab:=tabAdd 105 specTl tabNb4
theorem tabNb5_ok:PcOk Tryz.prog J0 tabNb5:=tabAdd_ok specTl_ok tabNb4_ok
noncomputable def bNb5:Base:=⟨Tryz.prog,J0,false,tabNb5,mtab0,2000,xtN0⟩
theorem bNb5_ok:BaseOk bNb5:=⟨progOk,tabNb5_ok,mtab0_ok _ _,xtN0_ok⟩
noncomputable abbrev XNb5:=bNb5.cx 12
end Go.Proofs.YtdgfhijnconaoaaGreatDoor
namespace Go.Proofs.YtdgfhijnconaoaaGreatDoor
open Go Go.RowKit Ev
noncomputable def tTR (t:List UInt8):St:=⟨only 23 [(0, .string ⟨⟨t⟩⟩),(1, .int .u8 48)],J0.tabs,11,[],[],0,none,[],11⟩
def lastI (t:List UInt8):Int:=IntKind.i64.wrap ((t.length:Int)-1)
def trB (t:List UInt8):Bool:=match posB t with | true=>chI t (lastI t)==48 | false=>false
def trP (t:List UInt8):Prop:=condP [(3,posB t)] [(3,true)] →0≤lastI t∧(lastI t).toNat < t.length
def noB (t:List UInt8):Bool:=match t==([] :List UInt8) with | true=>true | false=>([48] :List UInt8)==[]
section
variable (t s:List UInt8)
theorem tr_go (hl:allP [Int.ofNat 0≤lastI t∧lastI t≤Int.ofNat t.length,trB t=true,trP t]):Step XNb5 cTr (tTR t) .normal (tTR (t.take (lastI t).toNat)):=
 step_of (Base.cx_ok bNb5_ok 12).1 progOk.mixed [] 200 [true] [] (by kernel_rfl) hl (by kernel_rfl) (by kernel_rfl)
theorem tr_end (hl:allP [trB t=false,trP t]):Step XNb5 cTr (tTR t) (.exit 0) (tTR t):=
 step_of (Base.cx_ok bNb5_ok 12).1 progOk.mixed [] 200 [false] [] (by kernel_rfl) hl (by kernel_rfl) (by kernel_rfl)
theorem tr_all:pureCall XNb5 [told (.exit 0) (fun _=>tTR s)] 200 100 [.string ⟨⟨t⟩⟩, .int .u8 48] [] =some (.string ⟨⟨s⟩⟩,[LoopTo XNb5 cTr (startAt XNb5 200 100 [.string ⟨⟨t⟩⟩, .int .u8 48] J0.tabs Tryz.prog.globals.size []) (.exit 0) (tTR s)]):=by kernel_rfl
theorem tr_into {x:AX} {s':St} (h:LoopTo XNb5 cTr (tTR t) x s'):LoopTo XNb5 cTr (startAt XNb5 200 100 [.string ⟨⟨t⟩⟩, .int .u8 48] J0.tabs Tryz.prog.globals.size []) x s':=
 loop_into' h [] (by kernel_rfl) (by kernel_rfl) (by kernel_rfl)
theorem tL_no:pureCall XNb5 [] 200 63 [.string ⟨⟨t⟩⟩, .string ⟨⟨[48]⟩⟩] [true] =some (.string ⟨⟨t⟩⟩,[noB t=true]):=by kernel_rfl
theorem tL_go:pureCall XNb5 [] 200 63 [.string ⟨⟨t⟩⟩, .string ⟨⟨[48]⟩⟩] [false,true] =some (.string ⟨⟨trimL t⟩⟩,[(48:Int)=48,Int.ofNat 0≤Int.ofNat 0∧0 < 1,true=true,(condP [(3,true)] [(3,true)] →(0:Int)≤0∧(0:Int).toNat < 1),noB t=false]):=by kernel_rfl
end
theorem noB_iff {t:List UInt8} :noB t=decide (t=[]):=by cases t <;> rfl
theorem trimLeft0 (t:List UInt8):Ev.Pure Tryz.prog J0 63 [.string ⟨⟨t⟩⟩, .string ⟨⟨[48]⟩⟩] (.string ⟨⟨trimL t⟩⟩):=by
 by_cases h:t=[]
 ·subst h
  exact pureN bNb5_ok (tL_no []) ⟨rfl,trivial⟩
 ·exact pureN bNb5_ok (tL_go t) ⟨rfl,⟨by decide,by decide⟩,rfl,fun _=>⟨by decide,by decide⟩,by rw [noB_iff,decide_eq_false h],trivial⟩
def trimR (t:List UInt8):List UInt8:=(trimL t.reverse).reverse
theorem trimL_len:∀ t:List UInt8,(trimL t).length≤t.length
 | [] =>Nat.le_refl _
 | c ::r=>by
  have:=trimL_len r
  unfold trimL
  split <;> simp only [List.length_cons] <;> omega
theorem trimRight_loop {t:List UInt8} (hl:t.length≤9223372036854775807):LoopTo XNb5 cTr (tTR t) (.exit 0) (tTR (trimR t)):=by
 obtain⟨r,hr⟩:∃ r,trimR t=r:=⟨_,rfl⟩
 rw [hr]
 have key:LoopTo XNb5 cTr (tTR t.reverse.reverse) (.exit 0) (tTR r):=by
  refine loop_of (ι:=List UInt8) (fun s=>tTR s.reverse) List.length (fun s=>s.length≤9223372036854775807∧(trimL s).reverse=r) (by intro e; cases e) (fun s hs=> ?_) t.reverse ⟨by rw [List.length_reverse]; exact hl,hr⟩
  obtain⟨h1,h2⟩:=hs
  cases s with
  | nil=>
   refine .inr ?_
   have:r=[] :=h2.symm
   rw [this]
   exact tr_end [] ⟨rfl,fun hc=>by simp [condP,kvP,posB] at hc,trivial⟩
  | cons c q=>
   have hn:((c ::q).reverse).length=q.length+1:=by simp
   have hla:lastI (c ::q).reverse=(q.length:Int):=by
    unfold lastI
    rw [hn,wr (by omega) (by simp only [List.length_cons] at h1; omega)]
    omega
   have hp:posB (c ::q).reverse=true:=decide_eq_true (by rw [hn]; omega)
   have hc:chI (c ::q).reverse (q.length:Int)=Int.ofNat c.toNat:=by
    unfold chI
    rw [Int.toNat_natCast,List.reverse_cons,List.getD,List.getElem?_append_right (by simp)]
    simp
   have hb:trB (c ::q).reverse=decide (c=48):=by
    unfold trB
    rw [hp,hla]
    simp only
    rw [hc]
    exact chI_cons c []
   have hP:trP (c ::q).reverse:=fun _=>by rw [hla,hn,Int.toNat_natCast]; omega
   unfold trimL at h2
   by_cases h:c=48
   ·rw [if_pos h] at h2
    refine .inl ⟨q,⟨by simp only [List.length_cons] at h1; omega,h2⟩,by simp,?_⟩
    have:=tr_go (c ::q).reverse ⟨by rw [hla,hn]; exact⟨Int.natCast_nonneg _,Int.ofNat_le.2 (by omega)⟩,by rw [hb]; exact decide_eq_true h,hP,trivial⟩
    rw [hla,Int.toNat_natCast,List.reverse_cons,show q.length=q.reverse.length by simp,List.take_left] at this
    rw [List.reverse_cons]
    exact this
   ·rw [if_neg h] at h2
    refine .inr ?_
    rw [← h2]
    exact tr_end (c ::q).reverse ⟨by rw [hb]; exact decide_eq_false h,hP,trivial⟩
 rw [List.reverse_reverse] at key
 exact key
theorem trimRight_pure {t:List UInt8} (hl:t.length≤9223372036854775807):Ev.Pure Tryz.prog J0 100 [.string ⟨⟨t⟩⟩, .int .u8 48] (.string ⟨⟨trimR t⟩⟩):=
 pureN bNb5_ok (tr_all t (trimR t)) ⟨tr_into t (trimRight_loop hl),trivial⟩
def specTr:List Value→Option (Value×List Prop)
 | [.string ⟨⟨t⟩⟩, .int .u8 n] =>some (.string ⟨⟨trimR t⟩⟩,[n=48∧t.length≤9223372036854775807])
 | _=>none
theorem specTr_ok (args:List Value) (v:Value) (l:List Prop) (h:specTr args=some (v,l)) (hl:allP l):Ev.Pure Tryz.prog J0 100 args v:=by
 unfold specTr at h
 split at h
 ·cases h
  obtain⟨⟨rfl,h2⟩,_⟩:=hl
  exact trimRight_pure h2
 ·cases h
noncomputable def tabNb6:Tab:=tabAdd 100 specTr tabNb5
theorem tabNb6_ok:PcOk Tryz.prog J0 tabNb6:=tabAdd_ok specTr_ok tabNb5_ok
noncomputable def bNb6:Base:=⟨Tryz.prog,J0,false,tabNb6,mtab0,2000,xtN0⟩
theorem bNb6_ok:BaseOk bNb6:=⟨progOk,tabNb6_ok,mtab0_ok _ _,xtN0_ok⟩
noncomputable abbrev XNb6:=bNb6.cx 12
theorem tR_no (t:List UInt8):pureCall XNb6 [] 200 58 [.string ⟨⟨t⟩⟩, .string ⟨⟨[48]⟩⟩] [true] =some (.string ⟨⟨t⟩⟩,[noB t=true]):=by kernel_rfl
theorem tR_go (t:List UInt8):pureCall XNb6 [] 200 58 [.string ⟨⟨t⟩⟩, .string ⟨⟨[48]⟩⟩] [false,true] =some (.string ⟨⟨trimR t⟩⟩,[(48:Int)=48∧t.length≤9223372036854775807,Int.ofNat 0≤Int.ofNat 0∧0 < 1,true=true,(condP [(3,true)] [(3,true)] →(0:Int)≤0∧(0:Int).toNat < 1),noB t=false]):=by kernel_rfl
theorem trimRight0 {t:List UInt8} (hl:t.length≤9223372036854775807):Ev.Pure Tryz.prog J0 58 [.string ⟨⟨t⟩⟩, .string ⟨⟨[48]⟩⟩] (.string ⟨⟨trimR t⟩⟩):=by
 by_cases h:t=[]
 ·subst h
  exact pureN bNb6_ok (tR_no []) ⟨rfl,trivial⟩
 ·exact pureN bNb6_ok (tR_go t) ⟨⟨rfl,hl⟩,⟨by decide,by decide⟩,rfl,fun _=>⟨by decide,by decide⟩,by rw [noB_iff,decide_eq_false h],trivial⟩
end Go.Proofs.YtdgfhijnconaoaaGreatDoor
namespace Go.Proofs.YtdgfhijnconaoaaGreatDoor
open Go Go.RowKit Ev
noncomputable def cDn:Code:=loopAt Tryz.prog 111 0
noncomputable def tDn (t:List UInt8) (i:Int):St:=⟨only 20 [(0, .string ⟨⟨t⟩⟩),(5, .int .i64 t.length),(6, .int .i64 i)],J0.tabs,11,[],[],0,none,[],11⟩
noncomputable def tDr:St:=⟨only 20 [(2, .bool false)],J0.tabs,11,[],[],0,none,[],11⟩
def ndB (t:List UInt8) (i:Nat):Bool:=match decide (chI t i < 48) with | true=>true | false=>decide (chI t i > 57)
def ndP (t:List UInt8) (i:Nat):Prop:=condP [(4,decide (chI t i < 48))] [(4,false)] →(0:Int)≤i∧(i:Int).toNat < t.length
section
variable (t:List UInt8) (i:Nat)
theorem dn_go (hl:allP [ndB t i=false,ndP t i,Int.ofNat 0≤Int.ofNat i∧i < t.length,decide (Int.ofNat i < Int.ofNat t.length)=true]):Step XNb6 cDn (tDn t (i:Int)) .normal (tDn t (IntKind.i64.wrap ((i:Int)+1))):=
 step_of (Base.cx_ok bNb6_ok 12).1 progOk.mixed [] 200 [true,false] [] (by kernel_rfl) hl (by kernel_rfl) (by kernel_rfl)
theorem dn_bad (hl:allP [ndB t i=true,ndP t i,Int.ofNat 0≤Int.ofNat i∧i < t.length,decide (Int.ofNat i < Int.ofNat t.length)=true]):Step XNb6 cDn (tDn t (i:Int)) .ret tDr:=
 step_of (Base.cx_ok bNb6_ok 12).1 progOk.mixed [] 200 [true,true] [] (by kernel_rfl) hl (by kernel_rfl) (by kernel_rfl)
theorem dn_end (hl:allP [decide (Int.ofNat i < Int.ofNat t.length)=false]):Step XNb6 cDn (tDn t (i:Int)) (.exit 0) (tDn t (i:Int)):=
 step_of (Base.cx_ok bNb6_ok 12).1 progOk.mixed [] 200 [false] [] (by kernel_rfl) hl (by kernel_rfl) (by kernel_rfl)
theorem dn_all:pureCall XNb6 [told (.exit 0) (fun _=>tDn t (i:Int))] 200 111 [.string ⟨⟨t⟩⟩] [] =some (.bool true,[LoopTo XNb6 cDn (startAt XNb6 200 111 [.string ⟨⟨t⟩⟩] J0.tabs Tryz.prog.globals.size []) (.exit 0) (tDn t (i:Int))]):=by kernel_rfl
theorem dn_no:pureCall XNb6 [told .ret (fun _=>tDr)] 200 111 [.string ⟨⟨t⟩⟩] [] =some (.bool false,[LoopTo XNb6 cDn (startAt XNb6 200 111 [.string ⟨⟨t⟩⟩] J0.tabs Tryz.prog.globals.size []) .ret tDr]):=by kernel_rfl
theorem dn_into {x:AX} {s':St} (h:LoopTo XNb6 cDn (tDn t ((0:Nat):Int)) x s'):LoopTo XNb6 cDn (startAt XNb6 200 111 [.string ⟨⟨t⟩⟩] J0.tabs Tryz.prog.globals.size []) x s':=
 loop_into' h [] (by kernel_rfl) (by kernel_rfl) (by kernel_rfl)
end
theorem dn_first (p:Nat→Bool):∀ n,(∀ i,i < n→p i=false)∨∃ k,k < n∧p k=true∧∀ i,i < k→p i=false
 | 0=> .inl fun i hi=>by omega
 | n+1=>by
  rcases dn_first p n with h | ⟨k,h1,h2,h3⟩
  ·cases hb:p n with
   | true=>exact .inr ⟨n,by omega,hb,h⟩
   | false=>
    refine .inl fun i hi=> ?_
    rcases Nat.lt_succ_iff_lt_or_eq.1 hi with h' | rfl
    ·exact h i h'
    ·exact hb
  ·exact .inr ⟨k,by omega,h2,h3⟩
def allDB (t:List UInt8):Bool:=(List.range t.length).all fun i=> !ndB t i
theorem digits_pure {t:List UInt8} (ht:t.length≤9223372036854775807):Ev.Pure Tryz.prog J0 111 [.string ⟨⟨t⟩⟩] (.bool (allDB t)):=by
 have hP:∀ i,i < t.length→ndP t i:=fun i hi _=>⟨Int.natCast_nonneg _,by rw [Int.toNat_natCast]; exact hi⟩
 have go:∀ k,k≤t.length→(∀ i,i < k→ndB t i=false)→∀ i,i < k→Step XNb6 cDn (tDn t (i:Int)) .normal (tDn t ((i+1:Nat):Int)):=fun k hk h i hi=>by
  have:=dn_go t i ⟨h i hi,hP i (by omega),⟨Int.natCast_nonneg _,by omega⟩,decide_eq_true (Int.ofNat_lt.2 (by omega)),trivial⟩
  rw [show IntKind.i64.wrap ((i:Int)+1)=((i+1:Nat):Int) by rw [wr (by omega) (by omega)]; omega] at this
  exact this
 rcases dn_first (ndB t) t.length with h | ⟨k,h1,h2,h3⟩
 ·rw [show allDB t=true by
   unfold allDB
   rw [List.all_eq_true]
   intro i hi
   rw [h i (List.mem_range.1 hi)]
   rfl]
  exact pureN bNb6_ok (dn_all t t.length) ⟨dn_into t (loop_run (fun i=>tDn t (i:Int)) t.length (by intro e; cases e) (go _ (Nat.le_refl _) h) (dn_end t _ ⟨decide_eq_false (Int.lt_irrefl _),trivial⟩)),trivial⟩
 ·rw [show allDB t=false by
   unfold allDB
   rw [List.all_eq_false]
   exact⟨k,List.mem_range.2 h1,by rw [h2]; simp⟩]
  exact pureN bNb6_ok (dn_no t) ⟨dn_into t (loop_run (fun i=>tDn t (i:Int)) k (by intro e; cases e) (go _ (by omega) h3) (dn_bad t k ⟨h2,hP k h1,⟨Int.natCast_nonneg _,h1⟩,decide_eq_true (Int.ofNat_lt.2 h1),trivial⟩)),trivial⟩
end Go.Proofs.YtdgfhijnconaoaaGreatDoor
namespace Go.Proofs
def Tryz.laysPu25_ren:Go.Shelf.Ren:=⟨fun | 25=>194 | n=>n,fun | 9=>9 | 3=>3 | 4=>4 | 37=>22 | 0=>0 | 47=>231 | 5=>5 | n=>n,fun | n=>n⟩
theorem Tryz.laysPu25:Go.Proofs.LaysPu.n25 Tryz.prog Tryz.laysPu25_ren where
 mixed:=by kernel_rfl
 f25:=Tryz.func194.trans (congrArg some (by kernel_rfl))
 t0:=Tryz.underlying0
 a0:=Tryz.isAgg0
 z0:=Tryz.sizeOf0
 v0:=Tryz.zeroValue0
 i0:=by kernel_rfl
 t3:=Tryz.underlying3
 a3:=Tryz.isAgg3
 z3:=Tryz.sizeOf3
 v3:=Tryz.zeroValue3
 i3:=by kernel_rfl
 t4:=Tryz.underlying4
 a4:=Tryz.isAgg4
 z4:=Tryz.sizeOf4
 v4:=Tryz.zeroValue4
 i4:=by kernel_rfl
 t5:=Tryz.underlying5
 a5:=Tryz.isAgg5
 z5:=Tryz.sizeOf5
 v5:=Tryz.zeroValue5
 i5:=by kernel_rfl
 t9:=Tryz.underlying9
 a9:=Tryz.isAgg9
 z9:=Tryz.sizeOf9
 v9:=Tryz.zeroValue9
 i9:=by kernel_rfl
 t37:=Tryz.underlying22
 a37:=Tryz.isAgg22
 z37:=Tryz.sizeOf22
 v37:=Tryz.zeroValue22
 i37:=by kernel_rfl
 t47:=Tryz.underlying231
 a47:=Tryz.isAgg231
 z47:=Tryz.sizeOf231
 v47:=Tryz.zeroValue231
 i47:=by kernel_rfl
namespace YtdgfhijnconaoaaGreatDoor
open Go Go.RowKit Ev
def specClone:List Value→Option (Value×List Prop)
 | [.string ⟨⟨t⟩⟩] =>some (.string ⟨⟨t⟩⟩,[t.length≤281474976710656])
 | _=>none
theorem specClone_ok (args:List Value) (v:Value) (l:List Prop) (h:specClone args=some (v,l)) (hl:allP l):Ev.Pure Tryz.prog J0 194 args v:=by
 unfold specClone at h
 split at h
 ·rename_i t
  cases h
  refine⟨rfl,rfl, .inl ⟨enters_of Tryz.func194 (by kernel_rfl) (c:=_) rfl,fun w _=> ?_⟩⟩
  exact AnyPu.stringslite_Clone Tryz.laysPu25 ⟨⟨t⟩⟩ w hl.1
 ·cases h
def specTL:List Value→Option (Value×List Prop)
 | [.string ⟨⟨t⟩⟩, .string ⟨⟨[c]⟩⟩] =>some (.string ⟨⟨trimL t⟩⟩,[c=48])
 | _=>none
theorem specTL_ok (args:List Value) (v:Value) (l:List Prop) (h:specTL args=some (v,l)) (hl:allP l):Ev.Pure Tryz.prog J0 63 args v:=by
 unfold specTL at h
 split at h
 ·cases h
  obtain⟨rfl,_⟩:=hl
  exact trimLeft0 _
 ·cases h
def specTR:List Value→Option (Value×List Prop)
 | [.string ⟨⟨t⟩⟩, .string ⟨⟨[c]⟩⟩] =>some (.string ⟨⟨trimR t⟩⟩,[c=48∧t.length≤9223372036854775807])
 | _=>none
theorem specTR_ok (args:List Value) (v:Value) (l:List Prop) (h:specTR args=some (v,l)) (hl:allP l):Ev.Pure Tryz.prog J0 58 args v:=by
 unfold specTR at h
 split at h
 ·cases h
  obtain⟨⟨rfl,h2⟩,_⟩:=hl
  exact trimRight0 h2
 ·cases h
def specDn:List Value→Option (Value×List Prop)
 | [.string ⟨⟨t⟩⟩] =>some (.bool (allDB t),[t.length≤9223372036854775807])
 | _=>none
theorem specDn_ok (args:List Value) (v:Value) (l:List Prop) (h:specDn args=some (v,l)) (hl:allP l):Ev.Pure Tryz.prog J0 111 args v:=by
 unfold specDn at h
 split at h
 ·cases h; exact digits_pure hl.1
 ·cases h
noncomputable def tabNb7:Tab:=tabAdd 194 specClone (tabAdd 63 specTL (tabAdd 58 specTR (tabAdd 111 specDn tabNb6)))
theorem tabNb7_ok:PcOk Tryz.prog J0 tabNb7:=tabAdd_ok specClone_ok (tabAdd_ok specTL_ok (tabAdd_ok specTR_ok (tabAdd_ok specDn_ok tabNb6_ok)))
noncomputable def bNb7:Base:=⟨Tryz.prog,J0,false,tabNb7,mtab0,2000,xtN0⟩
theorem bNb7_ok:BaseOk bNb7:=⟨progOk,tabNb7_ok,mtab0_ok _ _,xtN0_ok⟩
noncomputable abbrev XNb7:=bNb7.cx 12
end YtdgfhijnconaoaaGreatDoor
end Go.Proofs
namespace Go.Proofs.YtdgfhijnconaoaaGreatDoor
open Go Go.RowKit Ev
def mdS (t:List UInt8):List UInt8:=trimR (trimL t)
def mdW (t:List UInt8):Int:=IntKind.i64.wrap (((trimL t).length:Int)- ((mdS t).length:Int))
def mdR (t:List UInt8) (x:Int):Bool:=match decide (x > IntKind.i64.wrap (20000-mdW t)) with | true=>true | false=>decide (x < IntKind.i64.wrap (-20000-mdW t))
abbrev dcV (g:Bool) (s:List UInt8) (x:Int):Value:= .agg ⟨[.bool g, .string ⟨⟨s⟩⟩, .int .i64 x]⟩
section
variable (g:Bool) (t:List UInt8) (x:Int)
theorem md_no:pureCall XNb7 [] 200 85 [.bool g, .string ⟨⟨t⟩⟩, .int .i64 x] [true] =some (.tuple ⟨[dcV false [] 0, .int .i64 0]⟩,[(trimL t==([] :List UInt8))=true,(48:UInt8)=48]):=by kernel_rfl
theorem md_room:pureCall XNb7 [] 200 85 [.bool g, .string ⟨⟨t⟩⟩, .int .i64 x] [false,true] =some (.tuple ⟨[dcV false [] 0, .int .i64 12]⟩,[decide (Int.ofNat 8192 < Int.ofNat (mdS t).length)=true,(48:UInt8)=48∧(trimL t).length≤9223372036854775807,(trimL t==([] :List UInt8))=false,(48:UInt8)=48]):=by kernel_rfl
theorem md_range:pureCall XNb7 [] 200 85 [.bool g, .string ⟨⟨t⟩⟩, .int .i64 x] [false,false,true] =some (.tuple ⟨[dcV false [] 0, .int .i64 11]⟩,[mdR t x=true,decide (Int.ofNat 8192 < Int.ofNat (mdS t).length)=false,(48:UInt8)=48∧(trimL t).length≤9223372036854775807,(trimL t==([] :List UInt8))=false,(48:UInt8)=48]):=by kernel_rfl
theorem md_ok:pureCall XNb7 [] 200 85 [.bool g, .string ⟨⟨t⟩⟩, .int .i64 x] [false,false,false] =some (.tuple ⟨[dcV g (mdS t) (IntKind.i64.wrap (x+mdW t)), .int .i64 0]⟩,[(mdS t).length≤281474976710656,mdR t x=false,decide (Int.ofNat 8192 < Int.ofNat (mdS t).length)=false,(48:UInt8)=48∧(trimL t).length≤9223372036854775807,(trimL t==([] :List UInt8))=false,(48:UInt8)=48]):=by kernel_rfl
end
def mdB (t:List UInt8):Int:=((trimL t).length:Int)- ((mdS t).length:Int)
def mdE (t:List UInt8) (x:Int):Int:=if trimL t=[] then 0 else if 8192 < (mdS t).length then 12 else if 20000-mdB t < x∨x < -20000-mdB t then 11 else 0
def mdI (t:List UInt8) (x:Int):Bool:=decide (trimL t≠[]) && decide (mdE t x=0)
def mdN (g:Bool) (t:List UInt8) (x:Int):Bool:=if mdI t x=true then g else false
def mdD (t:List UInt8) (x:Int):List UInt8:=if mdI t x=true then mdS t else []
def mdX (t:List UInt8) (x:Int):Int:=if mdI t x=true then x+mdB t else 0
abbrev mdV (g:Bool) (t:List UInt8) (x:Int):Value:= .tuple ⟨[dcV (mdN g t x) (mdD t x) (mdX t x), .int .i64 (mdE t x)]⟩
theorem mdB_range {t:List UInt8} :0≤mdB t∧mdB t≤(t.length:Int)∧(mdS t).length≤t.length:=by
 have h1:=trimL_len t
 have h2:=trimL_len (trimL t).reverse
 rw [List.length_reverse] at h2
 have h3:(mdS t).length=(trimL (trimL t).reverse).length:=by unfold mdS trimR; rw [List.length_reverse]
 unfold mdB
 omega
theorem mdV_no {g:Bool} {t:List UInt8} {x:Int} (h:mdI t x=false) {e:Int} (he:mdE t x=e):mdV g t x= .tuple ⟨[dcV false [] 0, .int .i64 e]⟩:=by
 unfold mdV mdN mdD mdX
 rw [h,he]
 rfl
theorem made_pure {g:Bool} {t:List UInt8} {x:Int} (hl:t.length≤140737488351232):Ev.Pure Tryz.prog J0 85 [.bool g, .string ⟨⟨t⟩⟩, .int .i64 x] (mdV g t x):=by
 obtain⟨b0,b1,b2⟩:=mdB_range (t:=t)
 have h1:=trimL_len t
 by_cases hn:trimL t=[]
 ·have hE:mdE t x=0:=by unfold mdE; rw [if_pos hn]
  rw [mdV_no (by unfold mdI; rw [decide_eq_false (by simpa using hn)]; rfl) hE]
  exact pureN bNb7_ok (md_no g t x) ⟨by rw [hn]; rfl,rfl,trivial⟩
 have hn':(trimL t==([] :List UInt8))=false:=beq_false_of_ne hn
 have q:(48:UInt8)=48∧(trimL t).length≤9223372036854775807:=⟨rfl,by omega⟩
 by_cases hr:8192 < (mdS t).length
 ·have hE:mdE t x=12:=by unfold mdE; rw [if_neg hn,if_pos hr]
  rw [mdV_no (by unfold mdI; rw [hE]; simp) hE]
  exact pureN bNb7_ok (md_room g t x) ⟨decide_eq_true (Int.ofNat_lt.2 hr),q,hn',rfl,trivial⟩
 have hr':decide (Int.ofNat 8192 < Int.ofNat (mdS t).length)=false:=decide_eq_false fun h=>hr (Int.ofNat_lt.1 h)
 have hW:mdW t=mdB t:=by unfold mdW; exact wr (by unfold mdB at b0; omega) (by unfold mdB at b1; omega)
 have hR:mdR t x=decide (20000-mdB t < x∨x < -20000-mdB t):=by
  unfold mdR
  rw [hW,wr (by omega) (by omega),wr (by omega) (by omega)]
  by_cases ha:20000-mdB t < x
  ·rw [decide_eq_true (show x > 20000-mdB t from ha),show decide (20000-mdB t < x∨x < -20000-mdB t)=true from decide_eq_true (Or.inl ha)]
  ·rw [decide_eq_false (show ¬x > 20000-mdB t from ha)]
   by_cases hb:x < -20000-mdB t
   ·simp [hb]
   ·simp [ha,hb]
 by_cases hx:20000-mdB t < x∨x < -20000-mdB t
 ·have hE:mdE t x=11:=by unfold mdE; rw [if_neg hn,if_neg hr,if_pos hx]
  rw [mdV_no (by unfold mdI; rw [hE]; simp) hE]
  exact pureN bNb7_ok (md_range g t x) ⟨by rw [hR]; exact decide_eq_true hx,hr',q,hn',rfl,trivial⟩
 ·have hE:mdE t x=0:=by unfold mdE; rw [if_neg hn,if_neg hr,if_neg hx]
  have hI:mdI t x=true:=by unfold mdI; rw [hE,decide_eq_true (by simpa using hn)]; rfl
  have:=pureN bNb7_ok (md_ok g t x) ⟨by omega,by rw [hR]; exact decide_eq_false hx,hr',q,hn',rfl,trivial⟩
  rw [hW,wr (by omega) (by omega)] at this
  unfold mdV mdN mdD mdX
  rw [hI,hE]
  exact this
def specMdd:List Value→Option (Value×List Prop)
 | [.bool g, .string ⟨⟨t⟩⟩, .int .i64 x] =>some (mdV g t x,[t.length≤140737488351232])
 | _=>none
theorem specMdd_ok (args:List Value) (v:Value) (l:List Prop) (h:specMdd args=some (v,l)) (hl:allP l):Ev.Pure Tryz.prog J0 85 args v:=by
 unfold specMdd at h
 split at h
 ·cases h; exact made_pure hl.1
 ·cases h
noncomputable def tabNb8:Tab:=tabAdd 85 specMdd tabNb7
theorem tabNb8_ok:PcOk Tryz.prog J0 tabNb8:=tabAdd_ok specMdd_ok tabNb7_ok
noncomputable def bNb8:Base:=⟨Tryz.prog,J0,false,tabNb8,mtab0,2000,xtN0⟩
theorem bNb8_ok:BaseOk bNb8:=⟨progOk,tabNb8_ok,mtab0_ok _ _,xtN0_ok⟩
noncomputable abbrev XNb8:=bNb8.cx 12
end Go.Proofs.YtdgfhijnconaoaaGreatDoor
namespace Go.Proofs.YtdgfhijnconaoaaGreatDoor
open Go Go.RowKit Ev
theorem mk_no (g:Bool) (t:List UInt8) (x:Int):pureCall XNb8 [] 200 65 [.bool g, .string ⟨⟨t⟩⟩, .int .i64 x] [true] =some (.tuple ⟨[dcV false [] 0, .int .i64 3]⟩,[(!allDB t)=true,t.length≤9223372036854775807]):=by kernel_rfl
theorem mk_go (g:Bool) (t:List UInt8) (x:Int):pureCall XNb8 [] 200 65 [.bool g, .string ⟨⟨t⟩⟩, .int .i64 x] [false] =some (mdV g t x,[t.length≤140737488351232,(!allDB t)=false,t.length≤9223372036854775807]):=by kernel_rfl
theorem Made_pure {g:Bool} {t:List UInt8} {x:Int} (hl:t.length≤140737488351232):Ev.Pure Tryz.prog J0 65 [.bool g, .string ⟨⟨t⟩⟩, .int .i64 x] (if allDB t=true then mdV g t x else .tuple ⟨[dcV false [] 0, .int .i64 3]⟩):=by
 cases h:allDB t with
 | true=>
  simp only [if_true]
  exact pureN bNb8_ok (mk_go g t x) ⟨hl,by rw [h]; rfl,by omega,trivial⟩
 | false=>
  simp only [Bool.false_eq_true,if_false]
  exact pureN bNb8_ok (mk_no g t x) ⟨by rw [h]; rfl,by omega,trivial⟩
end Go.Proofs.YtdgfhijnconaoaaGreatDoor
namespace Go.Proofs.YtdgfhijnconaoaaGreatDoor
open Go Go.RowKit Ev
def v1B (t:List UInt8):Bool:=decide ((t.length:Int)≤8192)
def v2B (t:List UInt8):Bool:=match v1B t with | true=>allDB t | false=>false
def v3B (t:List UInt8):Bool:=match v2B t with | true=>chI t 0 !=48 | false=>false
def vaB (t:List UInt8) (x:Int):Bool:=match match match v3B t with | true=>chI t (lastI t) !=48 | false=>false with | true=>decide (x≥-20000) | false=>false with | true=>decide (x≤20000) | false=>false
def vaP1 (t:List UInt8):Prop:=condP [(13,v3B t),(7,v2B t),(2,v1B t)] [(13,true)] →0≤lastI t∧(lastI t).toNat < t.length
def vaP2 (t:List UInt8):Prop:=condP [(7,v2B t),(2,v1B t)] [(7,true)] →(0:Int)≤0∧(0:Int).toNat < t.length
def vaP3 (t:List UInt8):Prop:=condP [(2,v1B t)] [(2,true)] →t.length≤9223372036854775807
section
variable (g:Bool) (t:List UInt8) (x:Int)
theorem va_no:pureCall XNb8 [] 200 125 [dcV g t x] [true] =some (.bool (g==false && (t==([] :List UInt8) && (x==Int.ofNat 0 && true))),[(t==([] :List UInt8))=true]):=by kernel_rfl
theorem va_go:pureCall XNb8 [] 200 125 [dcV g t x] [false] =some (.bool (vaB t x),[vaP1 t,vaP2 t,vaP3 t,(t==([] :List UInt8))=false]):=by kernel_rfl
end
def decOk (g:Bool) (t:List UInt8) (x:Int):Bool:=if t=[] then g==false && x==0 else vaB t x
theorem decValid_pure {g:Bool} {t:List UInt8} {x:Int} (hl:t.length≤9223372036854775807):Ev.Pure Tryz.prog J0 125 [dcV g t x] (.bool (decOk g t x)):=by
 unfold decOk
 by_cases h:t=[]
 ·rw [if_pos h]
  subst h
  have:=pureN bNb8_ok (va_no g [] x) ⟨rfl,trivial⟩
  rw [show (g==false && (([] :List UInt8)==[] && (x==Int.ofNat 0 && true)))=(g==false && x==0) by
   rw [show (([] :List UInt8)==[])=true from rfl,Bool.true_and,Bool.and_true]; rfl] at this
  exact this
 ·rw [if_neg h]
  have hp:0 < t.length:=List.length_pos_iff.2 h
  have hla:lastI t=((t.length-1:Nat):Int):=by unfold lastI; rw [wr (by omega) (by omega)]; omega
  exact pureN bNb8_ok (va_go g t x) ⟨fun _=>by rw [hla,Int.toNat_natCast]; omega,fun _=>⟨by decide,hp⟩,fun _=>hl,beq_false_of_ne h,trivial⟩
def specValidD:List Value→Option (Value×List Prop)
 | [.agg ⟨[.bool g, .string ⟨⟨t⟩⟩, .int .i64 x]⟩] =>some (.bool (decOk g t x),[t.length≤9223372036854775807])
 | _=>none
theorem specValidD_ok (args:List Value) (v:Value) (l:List Prop) (h:specValidD args=some (v,l)) (hl:allP l):Ev.Pure Tryz.prog J0 125 args v:=by
 unfold specValidD at h
 split at h
 ·cases h; exact decValid_pure hl.1
 ·cases h
end Go.Proofs.YtdgfhijnconaoaaGreatDoor
namespace Go.Proofs.YtdgfhijnconaoaaGreatDoor
open Go Go.RowKit Ev Wd VaS
def specQt:List Arg→Option (List Arg×List Prop)
 | [.c (.v (.agg ⟨[.bool n1, .string ⟨⟨d1⟩⟩, .int .i64 e1]⟩)), .c (.v (.agg ⟨[.bool n2, .string ⟨⟨d2⟩⟩, .int .i64 e2]⟩))] =>some ([vlA (n1 !=n2) false (ws W64 (qtN d1 (e1-e2))) false (ws W64 (qtD d2 (e1-e2)))],[AllD d1∧AllD d2∧d1.length≤100000∧d2.length≤100000∧(-1000000≤e1-e2∧e1-e2≤1000000)∧(-1000≤(d1.length:Int)-d2.length+(e1-e2)∧(d1.length:Int)-d2.length+(e1-e2)≤1000)])
 | _=>none
theorem specQt_ok:∀ az rs l,specQt az=some (rs,l)→allP l→Ev.Sem Tryz.prog J0 76 az rs:=by
 intro az rs l h hl
 unfold specQt at h
 split at h
 ·cases h
  obtain⟨⟨h1,h2,h3,h4,h5,h6⟩,_⟩:=hl
  exact quotient_sem _ _ h1 h2 h3 h4 h5 h6
 ·cases h
def specNu:List Arg→Option (List Arg×List Prop)
 | [.a [.v (.bool n), .v (.bool false), .v (.bool false), .s 32 .u64 N, .v (.bool false), .s 32 .u64 D], .c (.v (.int .i64 1))] =>
  some ([xR (nuW n (val W64 N) (val W64 D)),fR (flXo 53 971 (val W64 N) (val W64 D) (fle1 53 (-1074) (val W64 N) (val W64 D))) (flInf 53 971 (val W64 N) (val W64 D) (fle1 53 (-1074) (val W64 N) (val W64 D))) (flUn 53 (val W64 N) (val W64 D) (fle1 53 (-1074) (val W64 N) (val W64 D)))],[Cn N∧Cn D∧0 < val W64 D∧bl (val W64 N)≤1000000∧bl (val W64 D)≤1000000])
 | _=>none
theorem specNu_ok:∀ az rs l,specNu az=some (rs,l)→allP l→Ev.Sem Tryz.prog J0 112 az rs:=by
 intro az rs l h hl
 unfold specNu at h
 split at h
 ·cases h
  rename_i n N D
  obtain⟨⟨c1,c2,hD,h1,h2⟩,_⟩:=hl
  unfold Cn at c1 c2
  have:=number_sem n (N:=val W64 N) (D:=val W64 D) hD h1 h2
  rw [← c1,← c2] at this
  exact this
 ·cases h
theorem int_one:Ev.Pure Tryz.prog J0 67 [.int .i64 1] (.agg ⟨[.bool false, .string ⟨⟨[49]⟩⟩, .int .i64 0]⟩):=
 pure_of bN0_ok 30 [] [] (l:=[]) (by kernel_rfl) trivial
noncomputable def tabRo3:Tab:=tabAdd 125 specValidD (tabAdd 67 (atS [([.int .i64 1], .agg ⟨[.bool false, .string ⟨⟨[49]⟩⟩, .int .i64 0]⟩)]) tabLf)
theorem tabRo3_ok:PcOk Tryz.prog J0 tabRo3:=tabAdd_ok specValidD_ok (tabAdd_ok (atS_ok (fun p hp=>by simp only [List.mem_cons,List.not_mem_nil,or_false] at hp; subst hp; exact int_one)) tabLf_ok)
noncomputable def mtabRo3:MTab:=mtabAdd 112 (liftS [shM,shV] specNu) (mtabAdd 76 (liftS [shV,shV] specQt) mtabRo2)
theorem mtabRo3_ok:ClOk Tryz.prog J0 mtabRo3:=mtabAdd_ok (liftS_ok _ specNu_ok) (mtabAdd_ok (liftS_ok _ specQt_ok) mtabRo2_ok)
noncomputable def bRo3:Base:=⟨Tryz.prog,J0,false,tabRo3,mtabRo3,200,xtN0⟩
theorem bRo3_ok:BaseOk bRo3:=⟨progOk,tabRo3_ok,mtabRo3_ok,xtN0_ok⟩
noncomputable abbrev XRo3:Cx:=bRo3.cx 10
end Go.Proofs.YtdgfhijnconaoaaGreatDoor
namespace Go.Proofs.YtdgfhijnconaoaaGreatDoor
open Go Go.RowKit Ev Wd VaS
def tkW (N:Nat):List Int:=List.take (ws W64 N).length (ws W64 N)
def qv (N:Nat):Nat:=val W64 (tkW N)
theorem tkW_eq (N:Nat):tkW N=ws W64 N:=List.take_length
theorem qv_eq (N:Nat):qv N=N:=by unfold qv; rw [tkW_eq]; exact wsVal N
section
variable (n1 n2:Bool) (d1 d2:List UInt8) (e1 e2:Int) (r:Nat) (a b c:Bool)
theorem ratio_way:semR XRo3 [] 200 66 [dA n1 d1 e1,dA n2 d2 e2,iR 1] [xR r,fR a b c,iR 0] [true,false,true,false,false,false,false,false] =some [(ws W64 (qtN d1 (e1-e2))).length≤(ws W64 (qtN d1 (e1-e2))).length,(ws W64 (qtD d2 (e1-e2))).length≤(ws W64 (qtD d2 (e1-e2))).length,
 Cn (tkW (qtN d1 (e1-e2)))∧Cn (tkW (qtD d2 (e1-e2)))∧0 < (qv (qtD d2 (e1-e2)))∧bl (qv (qtN d1 (e1-e2)))≤1000000∧bl (qv (qtD d2 (e1-e2)))≤1000000,
 AllD d1∧AllD d2∧d1.length≤100000∧d2.length≤100000∧(-1000000≤e1-e2∧e1-e2≤1000000)∧(-1000≤(d1.length:Int)-d2.length+(e1-e2)∧(d1.length:Int)-d2.length+(e1-e2)≤1000),
 (d1==[])=false,(d2==[])=false,false=false,false=false,(!decOk n2 d2 e2)=false,d2.length≤9223372036854775807,(0:Int)≤1∧(1:Int) < 2,true=true,(!decOk n1 d1 e1)=false,d1.length≤9223372036854775807,(0:Int)≤0∧(0:Int) < 2,true=true,
 Value.float .f64 (nuW (n1 !=n2) (qv (qtN d1 (e1-e2))) (qv (qtD d2 (e1-e2))))=Value.float .f64 r,Value.bool (flXo 53 971 (qv (qtN d1 (e1-e2))) (qv (qtD d2 (e1-e2))) (fle1 53 (-1074) (qv (qtN d1 (e1-e2))) (qv (qtD d2 (e1-e2)))))=Value.bool a,Value.bool (flInf 53 971 (qv (qtN d1 (e1-e2))) (qv (qtD d2 (e1-e2))) (fle1 53 (-1074) (qv (qtN d1 (e1-e2))) (qv (qtD d2 (e1-e2)))))=Value.bool b,Value.bool (flUn 53 (qv (qtN d1 (e1-e2))) (qv (qtD d2 (e1-e2))) (fle1 53 (-1074) (qv (qtN d1 (e1-e2))) (qv (qtD d2 (e1-e2)))))=Value.bool c,Value.int .i64 0=Value.int .i64 0] :=by kernel_rfl
end
end Go.Proofs.YtdgfhijnconaoaaGreatDoor
namespace Go.Proofs.YtdgfhijnconaoaaGreatDoor
open Go Go.RowKit Ev Wd VaS
theorem allD_cons {b:UInt8} {r:List UInt8} (hb:48≤b.toNat∧b.toNat≤57) (hr:AllD r):AllD (b ::r)∧dgN (b ::r)=(b.toNat-48)*10 ^r.length+dgN r:=by
 have hd:Lib.digitVal b=some (b.toNat-48):=by
  unfold Lib.digitVal
  rw [if_pos hb]
 unfold AllD dgN at*
 simp only [Lib.decFrom,hd]
 rw [decFrom_shift r]
 cases h:Lib.decFrom 0 r with
 | none=>rw [h] at hr; cases hr
 | some n=>
  refine⟨rfl,?_⟩
  show (0*10+(b.toNat-48))*10 ^r.length+n=_
  rw [Nat.zero_mul,Nat.zero_add]
  rfl
theorem allD_of:∀ {t:List UInt8},(∀ i,i < t.length→48≤(t.getD i 0).toNat∧(t.getD i 0).toNat≤57)→AllD t
 | [],_=>rfl
 | _ ::_,h=>(allD_cons (h 0 (Nat.zero_lt_succ _)) (allD_of fun i hi=>h (i+1) (Nat.succ_lt_succ hi))).1
theorem allDB_all {t:List UInt8} (h:allDB t=true):∀ i,i < t.length→48≤(t.getD i 0).toNat∧(t.getD i 0).toNat≤57:=by
 intro i hi
 unfold allDB at h
 have h1:=List.all_eq_true.1 h i (List.mem_range.2 hi)
 have h2:ndB t i=false:=by simpa using h1
 unfold ndB at h2
 have e:chI t (i:Int)=((t.getD i 0).toNat:Int):=by
  show ((t.getD ((i:Int)).toNat 0).toNat:Int)=_
  rw [Int.toNat_natCast]
 rw [e] at h2
 generalize (t.getD i 0).toNat=c at*
 by_cases hc:(c:Int) < 48
 ·rw [decide_eq_true hc] at h2; cases h2
 ·rw [decide_eq_false hc] at h2
  have:=of_decide_eq_false h2
  omega
theorem decOk_facts {g:Bool} {t:List UInt8} {x:Int} (h:decOk g t x=true):AllD t∧t.length≤8192∧-20000≤x∧x≤20000∧(t≠[] →0 < dgN t):=by
 unfold decOk at h
 by_cases h0:t=[]
 ·rw [if_pos h0] at h
  subst h0
  have hx:x=0:=by
   cases g
   ·simpa using h
   ·cases h
  exact⟨rfl,by decide,by omega,by omega,fun k=>absurd rfl k⟩
 ·rw [if_neg h0] at h
  cases h3:v3B t <;> cases h4:(chI t (lastI t) !=48) <;> cases h5:decide (x≥-20000) <;> simp only [vaB,h3,h4,h5] at h <;> try cases h
  have hx2:=of_decide_eq_true h
  have hx1:=of_decide_eq_true h5
  unfold v3B at h3
  cases h2:v2B t
  ·rw [h2] at h3; cases h3
  ·rw [h2] at h3
   unfold v2B at h2
   cases h1:v1B t
   ·rw [h1] at h2; cases h2
   ·rw [h1] at h2
    have hl:=of_decide_eq_true h1
    have ha:=allDB_all h2
    refine⟨allD_of ha,by omega,hx1,hx2,fun _=> ?_⟩
    cases t with
    | nil=>exact absurd rfl h0
    | cons b r=>
     have hb:48≤b.toNat∧b.toNat≤57:=ha 0 (Nat.zero_lt_succ _)
     have hr:AllD r:=allD_of fun i hi=>ha (i+1) (Nat.succ_lt_succ hi)
     rw [(allD_cons hb hr).2]
     have hb0:b.toNat≠48:=by
      intro e
      have e2:chI (b ::r) 0=48:=by
       show ((b.toNat:Nat):Int)=48
       rw [e]; rfl
      rw [e2] at h3
      cases h3
     have hb1:48≤b.toNat:=hb.1
     have h9:1*1≤(b.toNat-48)*10 ^r.length:=Nat.mul_le_mul (by omega) (Nat.pow_pos (by decide))
     omega
theorem bl_ten {n k:Nat} (h:n < 10 ^k):bl n≤4*k:=by
 refine bl_le.2 (Nat.lt_of_lt_of_le h ?_)
 rw [Nat.pow_mul]
 exact Nat.pow_le_pow_left (by decide) k
theorem qtN_bl {d:List UInt8} {e:Int} (h:AllD d) (hl:d.length≤8192) (he:e≤40000):bl (qtN d e)≤1000000:=by
 have h1:=dgN_lt h
 unfold qtN
 split
 ·have h2:dgN d*10 ^e.toNat < 10 ^(d.length+e.toNat):=by
   rw [Nat.pow_add]
   exact Nat.mul_lt_mul_of_pos_right h1 (Nat.pow_pos (by decide))
  have:=bl_ten h2
  omega
 ·have:=bl_ten h1
  omega
theorem qtD_bl {d:List UInt8} {e:Int} (h:AllD d) (hl:d.length≤8192) (he: -40000≤e):bl (qtD d e)≤1000000:=by
 have h1:=dgN_lt h
 unfold qtD
 split
 ·have:=bl_ten h1
  omega
 ·have h2:dgN d*10 ^(-e).toNat < 10 ^(d.length+(-e).toNat):=by
   rw [Nat.pow_add]
   exact Nat.mul_lt_mul_of_pos_right h1 (Nat.pow_pos (by decide))
  have:=bl_ten h2
  omega
theorem qtD_pos {d:List UInt8} {e:Int} (h:0 < dgN d):0 < qtD d e:=by
 unfold qtD
 split
 ·exact h
 ·exact Nat.mul_pos h (Nat.pow_pos (by decide))
abbrev raV (n:Bool) (N D:Nat):List Arg:=[xR (nuW n N D),fR (flXo 53 971 N D (fle1 53 (-1074) N D)) (flInf 53 971 N D (fle1 53 (-1074) N D)) (flUn 53 N D (fle1 53 (-1074) N D)),iR 0]
theorem ratio_sem {n1 n2:Bool} {d1 d2:List UInt8} {e1 e2:Int} (h1:decOk n1 d1 e1=true) (h2:decOk n2 d2 e2=true) (k1:d1≠[]) (k2:d2≠[]) (hf: -1000≤(d1.length:Int)-d2.length+(e1-e2)∧(d1.length:Int)-d2.length+(e1-e2)≤1000):
  Ev.Sem Tryz.prog J0 66 [dA n1 d1 e1,dA n2 d2 e2,iR 1] (raV (n1 !=n2) (qtN d1 (e1-e2)) (qtD d2 (e1-e2))):=by
 obtain⟨a1,a2,a3,a4,a5⟩:=decOk_facts h1
 obtain⟨b1,b2,b3,b4,b5⟩:=decOk_facts h2
 refine sem_of bRo3_ok 10 _ _ (ratio_way n1 n2 d1 d2 e1 e2 _ _ _ _) ?_
 rw [qv_eq,qv_eq,tkW_eq,tkW_eq,h1,h2]
 exact⟨Nat.le_refl _,Nat.le_refl _,⟨Cn.ws _,Cn.ws _,qtD_pos (b5 k2),qtN_bl a1 a2 (by omega),qtD_bl b1 b2 (by omega)⟩,⟨a1,b1,by omega,by omega,⟨by omega,by omega⟩,hf⟩,beq_false_of_ne k1,beq_false_of_ne k2,rfl,rfl,rfl,by omega,⟨by decide,by decide⟩,rfl,rfl,by omega,⟨by decide,by decide⟩,rfl,rfl,rfl,rfl,rfl,rfl,trivial⟩
end Go.Proofs.YtdgfhijnconaoaaGreatDoor
namespace Go.Proofs.YtdgfhijnconaoaaGreatDoor
open Go Go.RowKit Ev Wd VaS
def raW (n:Bool) (d1 d2:List UInt8) (e:Int):Nat:=if d1=[] then 0 else nuW n (qtN d1 e) (qtD d2 e)
def raX (d1 d2:List UInt8) (e:Int):Bool:=if d1=[] then false else flXo 53 971 (qtN d1 e) (qtD d2 e) (fle1 53 (-1074) (qtN d1 e) (qtD d2 e))
def raI (d1 d2:List UInt8) (e:Int):Bool:=if d1=[] then false else flInf 53 971 (qtN d1 e) (qtD d2 e) (fle1 53 (-1074) (qtN d1 e) (qtD d2 e))
def raU (d1 d2:List UInt8) (e:Int):Bool:=if d1=[] then false else flUn 53 (qtN d1 e) (qtD d2 e) (fle1 53 (-1074) (qtN d1 e) (qtD d2 e))
def raOk (n1 n2:Bool) (d1 d2:List UInt8) (e1 e2:Int):Prop:=decOk n1 d1 e1=true∧decOk n2 d2 e2=true∧d2≠[] ∧(d1≠[] →-1000≤(d1.length:Int)-d2.length+(e1-e2)∧(d1.length:Int)-d2.length+(e1-e2)≤1000)
theorem ratio_nil (n1 n2:Bool) (d2:List UInt8) (e1 e2:Int):semR XRo3 [] 200 66 [dA n1 [] e1,dA n2 d2 e2,iR 1] [xR 0,fR false false false,iR 0] [true,false,true,false,false,false,false,true] =some [true=true,(d2==[])=false,false=false,false=false,(!decOk n2 d2 e2)=false,d2.length≤9223372036854775807,(0:Int)≤1∧(1:Int) < 2,true=true,(!decOk n1 [] e1)=false,0≤9223372036854775807,(0:Int)≤0∧(0:Int) < 2,true=true,Value.float .f64 0=Value.float .f64 0,Value.bool false=Value.bool false,Value.bool false=Value.bool false,Value.bool false=Value.bool false,Value.int .i64 0=Value.int .i64 0] :=by kernel_rfl
theorem ratio_w {n1 n2:Bool} {d1 d2:List UInt8} {e1 e2:Int} (h:raOk n1 n2 d1 d2 e1 e2):Ev.Sem Tryz.prog J0 66 [dA n1 d1 e1,dA n2 d2 e2,iR 1] [xR (raW (n1 !=n2) d1 d2 (e1-e2)),fR (raX d1 d2 (e1-e2)) (raI d1 d2 (e1-e2)) (raU d1 d2 (e1-e2)),iR 0] :=by
 obtain⟨h1,h2,k2,h3⟩:=h
 unfold raW raX raI raU
 by_cases hd:d1=[]
 ·rw [if_pos hd,if_pos hd,if_pos hd,if_pos hd]
  subst hd
  refine sem_of bRo3_ok 10 _ _ (ratio_nil n1 n2 d2 e1 e2) ?_
  rw [h1,h2]
  obtain⟨b1,b2,b3,b4,b5⟩:=decOk_facts h2
  exact⟨rfl,beq_false_of_ne k2,rfl,rfl,rfl,by omega,⟨by decide,by decide⟩,rfl,rfl,by decide,⟨by decide,by decide⟩,rfl,rfl,rfl,rfl,rfl,rfl,trivial⟩
 ·rw [if_neg hd,if_neg hd,if_neg hd,if_neg hd]
  exact ratio_sem h1 h2 hd k2 (h3 hd)
def specRa:List Arg→Option (List Arg×List Prop)
 | [.c (.v (.agg ⟨[.bool n1, .string ⟨⟨d1⟩⟩, .int .i64 e1]⟩)), .c (.v (.agg ⟨[.bool n2, .string ⟨⟨d2⟩⟩, .int .i64 e2]⟩)), .c (.v (.int .i64 1))] =>some ([xR (raW (n1 !=n2) d1 d2 (e1-e2)),fR (raX d1 d2 (e1-e2)) (raI d1 d2 (e1-e2)) (raU d1 d2 (e1-e2)),iR 0],[raOk n1 n2 d1 d2 e1 e2])
 | _=>none
theorem specRa_ok:∀ az rs l,specRa az=some (rs,l)→allP l→Ev.Sem Tryz.prog J0 66 az rs:=by
 intro az rs l h hl
 unfold specRa at h
 split at h
 ·cases h
  exact ratio_w hl.1
 ·cases h
noncomputable def mtabRo4:MTab:=mtabAdd 66 (liftS [shV,shV,shV] specRa) mtabRo3
theorem mtabRo4_ok:ClOk Tryz.prog J0 mtabRo4:=mtabAdd_ok (liftS_ok _ specRa_ok) mtabRo3_ok
end Go.Proofs.YtdgfhijnconaoaaGreatDoor
namespace Go.Proofs.YtdgfhijnconaoaaGreatDoor
open Go Go.RowKit Ev Wd VaS
def specMk:List Value→Option (Value×List Prop)
 | [.bool g, .string ⟨⟨t⟩⟩, .int .i64 x] =>some (mdV g t x,[t.length≤140737488351232,allDB t=true])
 | _=>none
theorem specMk_ok (args:List Value) (v:Value) (l:List Prop) (h:specMk args=some (v,l)) (hl:allP l):Ev.Pure Tryz.prog J0 65 args v:=by
 unfold specMk at h
 split at h
 ·cases h
  obtain⟨h1,h2,_⟩:=hl
  have:=fun g x=>Made_pure (g:=g) (x:=x) h1
  simp only [if_pos h2] at this
  exact this _ _
 ·cases h
noncomputable def tabRo5:Tab:=tabAdd 65 specMk (tabAdd 63 specTL tabRo3)
theorem tabRo5_ok:PcOk Tryz.prog J0 tabRo5:=tabAdd_ok specMk_ok (tabAdd_ok specTL_ok tabRo3_ok)
noncomputable def bRo5:Base:=⟨Tryz.prog,J0,false,tabRo5,mtabRo4,200,xtN0⟩
theorem bRo5_ok:BaseOk bRo5:=⟨progOk,tabRo5_ok,mtabRo4_ok,xtN0_ok⟩
noncomputable abbrev XRo5:Cx:=bRo5.cx 10
end Go.Proofs.YtdgfhijnconaoaaGreatDoor
namespace Go.Proofs.YtdgfhijnconaoaaGreatDoor
open Go Go.RowKit Ev Wd VaS
def neP (d:List UInt8) (e:Int):Int:=IntKind.i64.wrap (Int.ofNat (trimL d).length+e)
abbrev neAz (hx:Bool) (d:List UInt8) (e n:Int):List Arg:=[.c (.v (pcV hx d e n)),iR 53,iR (-1074), .c (.v (.func (.func 32) ⟨[]⟩ ⟨[]⟩))]
section
variable (hx:Bool) (d:List UInt8) (e n:Int) (r:Nat) (z:Int)
theorem ne_1:semR XRo5 [] 200 31 (neAz hx d e n) [xR r,iR z] [true] =some [(trimL d==([] :List UInt8))=true,(48:UInt8)=48,Value.float .f64 0=Value.float .f64 r,Value.int .i64 0=Value.int .i64 z] :=by kernel_rfl
theorem ne_2:semR XRo5 [] 200 31 (neAz hx d e n) [xR r,iR z] [false,false,true] =some [decide (400 < neP d e)=true,hx=false,(trimL d==([] :List UInt8))=false,(48:UInt8)=48,Value.float .f64 9218868437227405312=Value.float .f64 r,Value.int .i64 0=Value.int .i64 z] :=by kernel_rfl
theorem ne_3:semR XRo5 [] 200 31 (neAz hx d e n) [xR r,iR z] [false,false,false,true] =some [decide (neP d e < Int.negSucc 399)=true,decide (400 < neP d e)=false,hx=false,(trimL d==([] :List UInt8))=false,(48:UInt8)=48,Value.float .f64 0=Value.float .f64 r,Value.int .i64 0=Value.int .i64 z] :=by kernel_rfl
theorem ne_4:semR XRo5 [] 200 31 (neAz hx d e n) [xR r,iR z] [false,false,false,false,true] =some [(mdE (trimL d) e !=0)=true,(trimL d).length≤140737488351232,allDB (trimL d)=true,decide (neP d e < Int.negSucc 399)=false,decide (400 < neP d e)=false,hx=false,(trimL d==([] :List UInt8))=false,(48:UInt8)=48,Value.float .f64 0=Value.float .f64 r,Value.int .i64 (mdE (trimL d) e)=Value.int .i64 z] :=by kernel_rfl
theorem ne_5:semR XRo5 [] 200 31 (neAz hx d e n) [xR r,iR z] [false,false,false,false,false] =some [raOk (mdN false (trimL d) e) false (mdD (trimL d) e) [49] (mdX (trimL d) e) 0,(mdE (trimL d) e !=0)=false,(trimL d).length≤140737488351232,allDB (trimL d)=true,decide (neP d e < Int.negSucc 399)=false,decide (400 < neP d e)=false,hx=false,(trimL d==([] :List UInt8))=false,(48:UInt8)=48,Value.float .f64 (raW (mdN false (trimL d) e !=false) (mdD (trimL d) e) [49] (mdX (trimL d) e-0))=Value.float .f64 r,Value.int .i64 0=Value.int .i64 z] :=by kernel_rfl
end
end Go.Proofs.YtdgfhijnconaoaaGreatDoor
namespace Go.Proofs.YtdgfhijnconaoaaGreatDoor
open Go Go.RowKit Ev Wd VaS
theorem allDB_mem {t:List UInt8} :allDB t=true↔∀ b∈t,48≤b.toNat∧b.toNat≤57:=by
 constructor
 ·intro h b hb
  obtain⟨i,hi,rfl⟩:=List.mem_iff_getElem.1 hb
  have:=allDB_all h i hi
  rw [List.getD_eq_getElem?_getD,List.getElem?_eq_getElem hi] at this
  exact this
 ·intro h
  unfold allDB
  refine List.all_eq_true.2 fun i hi=> ?_
  have hi:=List.mem_range.1 hi
  have hb:=h _ (List.getElem_mem hi)
  have e:chI t (i:Int)=((t[i].toNat:Nat):Int):=by
   show ((t.getD ((i:Int)).toNat 0).toNat:Int)=_
   rw [Int.toNat_natCast,List.getD_eq_getElem?_getD,List.getElem?_eq_getElem hi]
   rfl
  have:ndB t i=false:=by
   unfold ndB
   rw [e,decide_eq_false (by omega)]
   exact decide_eq_false (by omega)
  rw [this]
  rfl
theorem trimL_mem:∀ {t:List UInt8} {b:UInt8},b∈trimL t→b∈t
 | [],_,h=>h
 | c ::r,b,h=>by
  unfold trimL at h
  split at h
  ·exact List.mem_cons_of_mem _ (trimL_mem h)
  ·exact h
theorem trimL_head:∀ {t:List UInt8} {c:UInt8} {r:List UInt8},trimL t=c ::r→c≠48
 | [],_,_,h=>by cases h
 | a ::q,c,r,h=>by
  unfold trimL at h
  split at h
  ·exact trimL_head h
  ·cases h; assumption
theorem trimL_last {c:UInt8} (hc:c≠48):∀ (w:List UInt8),∃ w',trimL (w++[c])=w'++[c]
 | [] =>⟨[],by show (if c=48 then trimL [] else [c])=_; rw [if_neg hc]; rfl⟩
 | a ::q=>by
  by_cases ha:a=48
  ·obtain⟨w',h⟩:=trimL_last hc q
   exact⟨w',by show (if a=48 then trimL (q++[c]) else a ::(q++[c]))=_; rw [if_pos ha]; exact h⟩
  ·exact⟨a ::q,by show (if a=48 then trimL (q++[c]) else a ::(q++[c]))=_; rw [if_neg ha]; rfl⟩
theorem mdS_ends {t:List UInt8} (h:trimL t≠[]):∃ c r,mdS t=c ::r∧c≠48∧∃ a q,mdS t=q++[a] ∧a≠48:=by
 cases hu:trimL t with
 | nil=>exact absurd hu h
 | cons c r=>
  have hc:=trimL_head hu
  obtain⟨w',hw⟩:=trimL_last hc r.reverse
  have hS:mdS t=(w'++[c]).reverse:=by
   unfold mdS trimR
   rw [hu,List.reverse_cons,hw]
  refine⟨c,w'.reverse,by rw [hS]; simp,hc,?_⟩
  cases hq:w'++[c] with
  | nil=>simp at hq
  | cons a q=>
   rw [hq] at hw
   refine⟨a,q.reverse,by rw [hS,hq]; simp,trimL_head hw⟩
theorem mdS_mem {t:List UInt8} {b:UInt8} (h:b∈mdS t):b∈t:=by
 unfold mdS trimR at h
 exact trimL_mem (List.mem_reverse.1 (trimL_mem (List.mem_reverse.1 h)))
theorem made_ok {g:Bool} {t:List UInt8} {x:Int} (h:allDB t=true):decOk (mdN g t x) (mdD t x) (mdX t x)=true:=by
 unfold mdN mdD mdX
 cases hI:mdI t x with
 | false=>
  rw [if_neg (by decide),if_neg (by decide),if_neg (by decide)]
  rfl
 | true=>
  rw [if_pos rfl,if_pos rfl,if_pos rfl]
  unfold mdI at hI
  rw [Bool.and_eq_true] at hI
  have hn:trimL t≠[] :=of_decide_eq_true hI.1
  have hE:=of_decide_eq_true hI.2
  unfold mdE at hE
  rw [if_neg hn] at hE
  by_cases h1:8192 < (mdS t).length
  ·rw [if_pos h1] at hE; cases hE
  rw [if_neg h1] at hE
  by_cases h2:20000-mdB t < x∨x < -20000-mdB t
  ·rw [if_pos h2] at hE; cases hE
  obtain⟨c,r,e1,hc,a,q,e2,ha⟩:=mdS_ends hn
  unfold decOk
  rw [if_neg (by rw [e1]; simp)]
  have hc2:(chI (mdS t) 0 !=48)=true:=by
   rw [e1]
   show (((c.toNat:Nat):Int) !=48)=true
   have:c.toNat≠48:=fun h=>hc (UInt8.toNat_inj.1 h)
   rw [bne_iff_ne]
   omega
  have hl:lastI (mdS t)=(q.length:Int):=by
   unfold lastI
   rw [e2,List.length_append,List.length_singleton]
   have:=congrArg List.length e2
   rw [List.length_append,List.length_singleton] at this
   rw [wr (by omega) (by omega)]
   omega
  have ha2:(chI (mdS t) (lastI (mdS t)) !=48)=true:=by
   rw [hl,e2]
   show ((((q++[a]).getD ((q.length:Int)).toNat 0).toNat:Int) !=48)=true
   rw [Int.toNat_natCast,List.getD_eq_getElem?_getD,List.getElem?_append_right (Nat.le_refl _),Nat.sub_self]
   show (((a.toNat:Nat):Int) !=48)=true
   have:a.toNat≠48:=fun h=>ha (UInt8.toNat_inj.1 h)
   rw [bne_iff_ne]
   omega
  have hd:allDB (mdS t)=true:=allDB_mem.2 fun b hb=>allDB_mem.1 h b (mdS_mem hb)
  unfold vaB v3B v2B v1B
  rw [decide_eq_true (show ((mdS t).length:Int)≤8192 by omega),hc2,ha2,hd,decide_eq_true (show x+mdB t≥-20000 by omega)]
  exact decide_eq_true (by omega)
end Go.Proofs.YtdgfhijnconaoaaGreatDoor
namespace Go.Proofs.YtdgfhijnconaoaaGreatDoor
open Go Go.RowKit Ev Wd VaS
def neQ (d:List UInt8) (e:Int):Int:=((trimL d).length:Int)+e
def neW (d:List UInt8) (e:Int):Nat:=if trimL d=[] then 0 else if 400 < neQ d e then 9218868437227405312 else if neQ d e < -400 then 0 else if mdE (trimL d) e≠0 then 0 else raW false (mdD (trimL d) e) [49] (mdX (trimL d) e)
def neE (d:List UInt8) (e:Int):Int:=if trimL d=[] then 0 else if 400 < neQ d e then 0 else if neQ d e < -400 then 0 else mdE (trimL d) e
theorem trimL_twice {d:List UInt8} :trimL (trimL d)=trimL d:=by
 cases h:trimL d with
 | nil=>rfl
 | cons c r=>
  show (if c=48 then trimL r else c ::r)=_
  rw [if_neg (trimL_head h)]
theorem made_far {d:List UInt8} {e:Int} (h1:neQ d e≤400) (h2: -400≤neQ d e) (hne:mdD (trimL d) e≠[]): -1000≤((mdD (trimL d) e).length:Int)- ([49] :List UInt8).length+(mdX (trimL d) e-0)∧((mdD (trimL d) e).length:Int)- ([49] :List UInt8).length+(mdX (trimL d) e-0)≤1000:=by
 unfold mdD mdX at*
 cases hI:mdI (trimL d) e with
 | false=>
  rw [hI,if_neg (by decide)] at hne
  exact absurd rfl hne
 | true=>
  rw [if_pos rfl,if_pos rfl]
  unfold mdB
  rw [trimL_twice]
  unfold neQ at*
  rw [List.length_singleton]
  omega
theorem near_dec {d:List UInt8} {e n:Int} (hd:allDB d=true) (hl:d.length≤140737488351232) (he: -1000000000000000000≤e∧e≤1000000000000000000):Ev.Sem Tryz.prog J0 31 (neAz false d e n) [xR (neW d e),iR (neE d e)] :=by
 have hle:=trimL_len d
 have hP:neP d e=neQ d e:=by
  unfold neP neQ
  exact wr (by show -9223372036854775808≤((trimL d).length:Int)+e; omega) (by show ((trimL d).length:Int)+e≤9223372036854775807; omega)
 have hT:allDB (trimL d)=true:=allDB_mem.2 fun b hb=>allDB_mem.1 hd b (trimL_mem hb)
 unfold neW neE
 by_cases h0:trimL d=[]
 ·rw [if_pos h0,if_pos h0]
  refine sem_of bRo5_ok 10 _ _ (ne_1 false d e n _ _) ?_
  rw [h0]
  exact⟨rfl,rfl,rfl,rfl,trivial⟩
 have k0:(trimL d==([] :List UInt8))=false:=beq_false_of_ne h0
 rw [if_neg h0,if_neg h0]
 by_cases h1:400 < neQ d e
 ·rw [if_pos h1,if_pos h1]
  refine sem_of bRo5_ok 10 _ _ (ne_2 false d e n _ _) ?_
  rw [hP]
  exact⟨decide_eq_true h1,rfl,k0,rfl,rfl,rfl,trivial⟩
 have k1:decide (400 < neP d e)=false:=by rw [hP]; exact decide_eq_false h1
 rw [if_neg h1,if_neg h1]
 by_cases h2:neQ d e < -400
 ·rw [if_pos h2,if_pos h2]
  refine sem_of bRo5_ok 10 _ _ (ne_3 false d e n _ _) ?_
  exact⟨by rw [hP]; exact decide_eq_true h2,k1,rfl,k0,rfl,rfl,rfl,trivial⟩
 have k2:decide (neP d e < Int.negSucc 399)=false:=by rw [hP]; exact decide_eq_false h2
 rw [if_neg h2,if_neg h2]
 by_cases h3:mdE (trimL d) e=0
 ·rw [if_neg (by rw [h3]; decide)]
  refine sem_of bRo5_ok 10 _ _ (ne_5 false d e n _ _) ?_
  have hok:raOk (mdN false (trimL d) e) false (mdD (trimL d) e) [49] (mdX (trimL d) e) 0:=⟨made_ok hT,by decide,by decide,fun hn=>made_far (by omega) (by omega) hn⟩
  have hN:mdN false (trimL d) e=false:=by
   unfold mdN
   split <;> rfl
  have hR:Value.float .f64 (raW (mdN false (trimL d) e !=false) (mdD (trimL d) e) [49] (mdX (trimL d) e-0))=Value.float .f64 (raW false (mdD (trimL d) e) [49] (mdX (trimL d) e)):=by
   rw [hN,Int.sub_zero]
   rfl
  exact⟨hok,by rw [h3]; rfl,by omega,hT,k2,k1,rfl,k0,rfl,hR,by rw [h3],trivial⟩
 ·rw [if_pos h3]
  refine sem_of bRo5_ok 10 _ _ (ne_4 false d e n _ _) ?_
  exact⟨bne_iff_ne.2 h3,by omega,hT,k2,k1,rfl,k0,rfl,rfl,rfl,trivial⟩
end Go.Proofs.YtdgfhijnconaoaaGreatDoor
namespace Go.Proofs.YtdgfhijnconaoaaGreatDoor
open Go Go.RowKit Ev Wd VaS
def IsRnd (K:Nat) (L:Int) (N D:Nat) (e:Int):Prop:=L≤e∧flq N D e < 2 ^K∧(e=L∨2 ^(K-1)≤flq N D e)
theorem two_pos (k:Nat):0 < 2 ^k:=Nat.pow_pos (by decide)
theorem pow_dbl {K:Nat} (hK:0 < K):2 ^K=2*2 ^(K-1):=by
 obtain⟨k,rfl⟩:∃ k,K=k+1:=⟨K-1,by omega⟩
 rw [Nat.pow_succ,Nat.add_sub_cancel,Nat.mul_comm]
theorem flq_next {K:Nat} {N D:Nat} {e:Int} {s:Nat} (hK:0 < K) (h:2 ^(K-1)≤flq N D (e+((s+1:Nat):Int))):2 ^K≤flq N D e:=by
 rw [flq_shift,Nat.le_div_iff_mul_le (two_pos _)] at h
 have:2 ^K≤2 ^(K-1)*2 ^(s+1):=by
  rw [← Nat.pow_add]
  exact Nat.pow_le_pow_right (by decide) (by omega)
 omega
theorem isRnd_lt {K:Nat} {L:Int} {N D:Nat} {e e':Int} (hK:0 < K) (h:IsRnd K L N D e) (h':IsRnd K L N D e'):¬e < e':=by
 intro hlt
 obtain⟨s,hs⟩:∃ s:Nat,e'=e+((s+1:Nat):Int):=⟨(e'-e-1).toNat,by omega⟩
 obtain⟨h1,h2,_⟩:=h
 obtain⟨k1,_,k3⟩:=h'
 rcases k3 with k3 | k3
 ·omega
 ·rw [hs] at k3
  have:=flq_next hK k3
  omega
theorem isRnd_eq {K:Nat} {L:Int} {N D:Nat} {e e':Int} (hK:0 < K) (h:IsRnd K L N D e) (h':IsRnd K L N D e'):e=e':=by
 have h1:=isRnd_lt hK h h'
 have h2:=isRnd_lt hK h' h
 omega
theorem fle1_isRnd {K:Nat} {L:Int} {N D:Nat} (hK:0 < K) (hN:0 < N) (hD:0 < D):IsRnd K L N D (fle1 K L N D):=by
 refine⟨?_,flq_lt,?_⟩
 ·unfold fle1 fle0
  split <;> split <;> omega
 ·rcases Nat.lt_or_ge (flq N D (fle1 K L N D)) (2 ^(K-1)) with h | h
  ·exact .inl (flq_low hK hN hD h)
  ·exact .inr h
theorem atA_mul (N k:Nat) (e:Int):atA (N*k) e=atA N e*k:=by
 unfold atA
 split
 ·rfl
 ·rw [Nat.mul_right_comm]
theorem atB_mul (D k:Nat) (e:Int):atB (D*k) e=atB D e*k:=by
 unfold atB
 split
 ·rw [Nat.mul_right_comm]
 ·rfl
theorem flq_mul {N D k:Nat} (hk:0 < k) (e:Int):flq (N*k) (D*k) e=flq N D e:=by
 unfold flq
 rw [atA_mul,atB_mul,Nat.mul_div_mul_right _ _ hk]
theorem flr_mul {N D k:Nat} (e:Int):flr (N*k) (D*k) e=flr N D e*k:=by
 unfold flr
 rw [atA_mul,atB_mul,Nat.mul_mod_mul_right]
theorem cmN_mul (a b:Nat) {k:Nat} (hk:0 < k):cmN (a*k) (b*k)=cmN a b:=by
 unfold cmN
 have h1:a*k < b*k↔a < b:=Nat.mul_lt_mul_right hk
 have h2:a*k=b*k↔a=b:=⟨fun h=>Nat.eq_of_mul_eq_mul_right hk h,fun h=>by rw [h]⟩
 simp only [h1,h2]
theorem flm_mul {N D k:Nat} (hk:0 < k) (e:Int):flm (N*k) (D*k) e=flm N D e:=by
 have h1:flw (N*k) (D*k) e=flw N D e:=by
  unfold flw
  rw [flr_mul]
  refine decide_eq_decide.2 ⟨fun h=> ?_,fun h=>by rw [h,Nat.zero_mul]⟩
  rcases Nat.mul_eq_zero.1 h with h | h
  ·exact h
  ·omega
 have h2:flh (N*k) (D*k) e=flh N D e:=by
  unfold flh
  rw [flr_mul,atB_mul,Nat.mul_right_comm,cmN_mul _ _ hk]
 unfold flm flup
 rw [h1,h2,flq_mul hk]
theorem isRnd_mul {K:Nat} {L:Int} {N D k:Nat} (hk:0 < k) {e:Int} (h:IsRnd K L N D e):IsRnd K L (N*k) (D*k) e:=by
 unfold IsRnd at*
 rw [flq_mul hk]
 exact h
def rwd (K:Nat) (L:Int) (N D:Nat):Nat:=if N=0 then 0 else (fle1 K L N D-L).toNat*2 ^(K-1)+flm N D (fle1 K L N D)
theorem rwd_zero {K:Nat} {L:Int} {D:Nat} :rwd K L 0 D=0:=rfl
theorem rwd_of {K:Nat} {L:Int} {N D:Nat} {e:Int} (hK:0 < K) (hN:0 < N) (hD:0 < D) (h:IsRnd K L N D e):rwd K L N D=(e-L).toNat*2 ^(K-1)+flm N D e:=by
 unfold rwd
 rw [if_neg (by omega),isRnd_eq hK (fle1_isRnd hK hN hD) h]
theorem rwd_mul {K:Nat} {L:Int} {N D k:Nat} (hK:0 < K) (hD:0 < D) (hk:0 < k):rwd K L (N*k) (D*k)=rwd K L N D:=by
 rcases Nat.eq_zero_or_pos N with h | h
 ·subst h
  rw [Nat.zero_mul]
  rfl
 ·rw [rwd_of hK (Nat.mul_pos h hk) (Nat.mul_pos hD hk) (isRnd_mul hk (fle1_isRnd hK h hD)),flm_mul hk,rwd_of hK h hD (fle1_isRnd hK h hD)]
theorem rwd_ratio {K:Nat} {L:Int} {N D N' D':Nat} (hK:0 < K) (hD:0 < D) (hD':0 < D') (h:N*D'=N'*D):rwd K L N D=rwd K L N' D':=by
 rw [← rwd_mul hK hD hD',← rwd_mul (N:=N') hK hD' hD,h,Nat.mul_comm D D']
theorem atA_mono {N N':Nat} (h:N≤N') (e:Int):atA N e≤atA N' e:=by
 unfold atA
 split
 ·exact h
 ·exact Nat.mul_le_mul_right _ h
theorem flq_mono {N N':Nat} (h:N≤N') (D:Nat) (e:Int):flq N D e≤flq N' D e:=Nat.div_le_div_right (atA_mono h e)
theorem flm_range (N D:Nat) (e:Int):flq N D e≤flm N D e∧flm N D e≤flq N D e+1:=by
 unfold flm
 split <;> omega
theorem upB_mono {a a' b:Nat} {q:Nat} (h:a≤a') (hu:upB (cmN (a*2) b) q=true):upB (cmN (a'*2) b) q=true:=by
 unfold upB cmN at*
 by_cases h1:a'*2 < b
 ·rw [if_pos (show a*2 < b by omega)] at hu
  cases hu
 ·rw [if_neg h1]
  by_cases h2:a'*2=b
  ·rw [if_pos h2]
   by_cases h3:a*2 < b
   ·rw [if_pos h3] at hu
    cases hu
   ·rw [if_neg h3,if_pos (show a*2=b by omega)] at hu
    exact hu
  ·rw [if_neg h2]
   rfl
theorem flm_mono {N N':Nat} (h:N≤N') (D:Nat) (e:Int):flm N D e≤flm N' D e:=by
 have hq:=flq_mono h D e
 rcases Nat.lt_or_ge (flq N D e) (flq N' D e) with h1 | h1
 ·have h2:=flm_range N D e
  have h3:=flm_range N' D e
  omega
 ·have e1:flq N' D e=flq N D e:=by omega
  have hr:flr N D e≤flr N' D e:=by
   have a1:=Nat.div_add_mod (atA N e) (atB D e)
   have a2:=Nat.div_add_mod (atA N' e) (atB D e)
   have a3:=atA_mono h e
   have e2:atA N' e/atB D e=atA N e/atB D e:=e1
   unfold flr
   rw [e2] at a2
   omega
  have hu:flup N D e=true→flup N' D e=true:=by
   intro hu
   unfold flup at*
   cases hw:flw N D e with
   | true=>rw [hw] at hu; cases hu
   | false=>
    rw [hw] at hu
    have hw2:flw N' D e=false:=by
     unfold flw at*
     have:=of_decide_eq_false hw
     exact decide_eq_false (by omega)
    rw [hw2,e1]
    exact upB_mono hr hu
  unfold flm
  rw [e1]
  by_cases h2:flup N D e=true
  ·rw [if_pos h2,if_pos (hu h2)]
   exact Nat.le_refl _
  ·rw [if_neg h2]
   split <;> omega
theorem rwd_mono {K:Nat} {L:Int} {N N' D:Nat} (hK:0 < K) (hD:0 < D) (h:N≤N'):rwd K L N D≤rwd K L N' D:=by
 rcases Nat.eq_zero_or_pos N with hN | hN
 ·subst hN
  exact Nat.zero_le _
 ·have hN':0 < N':=by omega
  have i1:=fle1_isRnd (L:=L) hK hN hD
  have i2:=fle1_isRnd (L:=L) hK hN' hD
  rw [rwd_of hK hN hD i1,rwd_of hK hN' hD i2]
  generalize fle1 K L N D=e at*
  generalize fle1 K L N' D=e' at*
  obtain⟨a1,a2,a3⟩:=i1
  obtain⟨b1,b2,b3⟩:=i2
  have m1:=flm_range N D e
  have m2:=flm_range N' D e'
  have hK2:=pow_dbl hK
  rcases Int.lt_trichotomy e e' with hlt | heq | hgt
  ·obtain⟨s,hs⟩:∃ s:Nat,e'=e+((s+1:Nat):Int):=⟨(e'-e-1).toNat,by omega⟩
   have hb:2 ^(K-1)≤flq N' D e':=by
    rcases b3 with b3 | b3
    ·omega
    ·exact b3
   rw [show (e'-L).toNat=(e-L).toNat+1+s by omega,Nat.add_mul,Nat.add_mul]
   omega
  ·subst heq
   have:=flm_mono h D e
   omega
  ·exfalso
   obtain⟨s,hs⟩:∃ s:Nat,e=e'+((s+1:Nat):Int):=⟨(e-e'-1).toNat,by omega⟩
   have ha:2 ^(K-1)≤flq N D e:=by
    rcases a3 with a3 | a3
    ·omega
    ·exact a3
   have:=Nat.le_trans ha (flq_mono h D e)
   rw [hs] at this
   have:=flq_next hK this
   omega
theorem rwd_le {K:Nat} {L:Int} {N D N' D':Nat} (hK:0 < K) (hD:0 < D) (hD':0 < D') (h:N*D'≤N'*D):rwd K L N D≤rwd K L N' D':=by
 rw [← rwd_mul hK hD hD',← rwd_mul (N:=N') hK hD' hD,Nat.mul_comm D' D]
 exact rwd_mono hK (Nat.mul_pos hD hD') h
theorem inf_low {a b:Nat} (h:2046≤a) (hb:4503599627370496≤b):9218868437227405312≤a*4503599627370496+b:=by omega
theorem inf_low2 {a b:Nat} (h:2045≤a) (hb:9007199254740992≤b):9218868437227405312≤a*4503599627370496+b:=by omega
theorem inf_up {a b:Nat} (h:a≤2045) (hb:b < 9007199254740992):a*4503599627370496+b≤9218868437227405312:=by omega
theorem nuMag_eq {N D:Nat} (hD:0 < D):nuMag N D=min (rwd 53 (-1074) N D) 9218868437227405312:=by
 rcases Nat.eq_zero_or_pos N with hN | hN
 ·subst hN
  rw [rwd_zero,Nat.zero_min]
  have hq:∀ e,flq 0 D e=0:=by
   intro e
   unfold flq atA
   split <;> simp
  have hr:∀ e,flr 0 D e=0:=by
   intro e
   unfold flr atA
   split <;> simp
  have hm:∀ e,flm 0 D e=0:=by
   intro e
   unfold flm flup flw
   rw [hr,hq]
   rfl
  have he:fle1 53 (-1074) 0 D≤0:=by
   unfold fle1 fle0
   rw [hq,bl_zero]
   split <;> split <;> omega
  unfold nuMag flInf flMm flEe
  have k:¬2 ^53≤0:=by decide
  rw [hm]
  simp only [if_neg k]
  rw [decide_eq_false (by omega),if_neg (by decide),if_pos trivial]
 ·have i1:=fle1_isRnd (L:= -1074) (show 0 < 53 by decide) hN hD
  rw [rwd_of (by decide) hN hD i1]
  unfold nuMag flInf flMm flEe
  generalize fle1 53 (-1074) N D=e at*
  obtain⟨a1,a2,a3⟩:=i1
  have m1:=flm_range N D e
  rw [show (2:Nat) ^53=9007199254740992 by decide] at*
  rw [show (2:Nat) ^(53-1)=4503599627370496 by decide] at*
  rw [show (e- -1074).toNat=(e+1074).toNat by omega]
  by_cases hc:9007199254740992≤flm N D e
  ·rw [if_pos hc,if_pos hc]
   have hm:flm N D e=9007199254740992:=by omega
   by_cases hi:971 < e+1
   ·rw [decide_eq_true hi,if_pos rfl]
    exact (Nat.min_eq_right (inf_low2 (by omega) hc)).symm
   ·rw [decide_eq_false hi,if_neg (by decide),hm,if_neg (by decide)]
    rw [Nat.min_eq_left (by omega)]
    omega
  ·rw [if_neg hc,if_neg hc]
   by_cases hi:971 < e
   ·rw [decide_eq_true hi,if_pos rfl]
    refine (Nat.min_eq_right (inf_low (by omega) ?_)).symm
    rcases a3 with a3 | a3 <;> omega
   ·rw [decide_eq_false hi,if_neg (by decide)]
    by_cases h0:flm N D e=0
    ·rw [if_pos h0,h0]
     have:e= -1074:=by rcases a3 with a3 | a3 <;> omega
     rw [this]
     rfl
    ·rw [if_neg h0,Nat.min_eq_left (inf_up (by omega) (by omega))]
theorem one_up {T N D:Nat} (hD:0 < D) (h:D*T≤N):rwd 53 (-1074) T 1≤rwd 53 (-1074) N D:=rwd_le (by decide) (by decide) hD (by rw [Nat.mul_one,Nat.mul_comm]; exact h)
theorem rwd_inf {N D:Nat} (hD:0 < D) (h:D*2 ^1024≤N):9218868437227405312≤rwd 53 (-1074) N D:=by
 have h1:=one_up hD h
 have h2:IsRnd 53 (-1074) (2 ^1024) 1 972:=by
  refine⟨by decide,?_, .inr ?_⟩ <;> decide+kernel
 rw [rwd_of (by decide) (two_pos _) (by decide) h2] at h1
 have h3:4503599627370496≤flm (2 ^1024) 1 972:=Nat.le_trans (by decide+kernel) (flm_range _ _ _).1
 refine Nat.le_trans ?_ h1
 have e:((972:Int)- -1074).toNat*2 ^(53-1)=2046*4503599627370496:=by decide+kernel
 rw [e]
 generalize flm (2 ^1024) 1 972=x at*
 exact inf_low (Nat.le_refl _) h3
theorem rwd_small {K:Nat} {L:Int} {N D:Nat} (hK:0 < K) (hL:L≤0) (h:N*2 ^((-L).toNat+1) < D):rwd K L N D=0:=by
 rcases Nat.eq_zero_or_pos N with hN | hN
 ·subst hN; rfl
 have hD:0 < D:=by omega
 have hA:atA N L*2 < atB D L:=by
  unfold atA atB
  by_cases h0:0≤L
  ·have:L=0:=by omega
   subst this
   simpa using h
  ·rw [if_neg h0,if_neg h0,Nat.mul_assoc,← Nat.pow_succ]
   exact h
 have hq:flq N D L=0:=Nat.div_eq_of_lt (by omega)
 have hr:flr N D L=atA N L:=Nat.mod_eq_of_lt (by omega)
 have hm:flm N D L=0:=by
  unfold flm flup flh
  rw [hq,hr]
  unfold cmN
  rw [if_pos hA]
  have:upB (-1) 0=false:=by decide
  rw [this,Bool.and_false]
  rfl
 rw [rwd_of hK hN hD ⟨Int.le_refl _,by rw [hq]; exact two_pos _, .inl rfl⟩,hm,Int.sub_self]
 simp
end Go.Proofs.YtdgfhijnconaoaaGreatDoor
namespace Go.Proofs.YtdgfhijnconaoaaGreatDoor
open Go Go.RowKit Ev Wd VaS
def dcF (m:Nat) (c:UInt8):Nat:=10*m+(c.toNat-48)
def dcN (l:List UInt8):Nat:=l.foldl dcF 0
theorem dcF_fold:∀ (l:List UInt8) (m:Nat),l.foldl dcF m=m*10 ^l.length+dcN l
 | [],m=>by simp [dcN]
 | c ::r,m=>by
  unfold dcN
  rw [List.foldl_cons,List.foldl_cons,dcF_fold r,dcF_fold r (dcF 0 c)]
  unfold dcF
  rw [List.length_cons,Nat.pow_succ,Nat.add_mul,Nat.add_mul,← Nat.mul_assoc,Nat.mul_comm m (10 ^r.length),Nat.mul_zero,Nat.zero_mul,Nat.zero_add,Nat.mul_comm 10 m,Nat.mul_right_comm m 10,Nat.mul_comm m (10 ^r.length),Nat.mul_right_comm (10 ^r.length) m 10,Nat.add_assoc]
theorem dcN_append (a b:List UInt8):dcN (a++b)=dcN a*10 ^b.length+dcN b:=by
 unfold dcN
 rw [List.foldl_append,dcF_fold b]
 rfl
theorem dcN_cons (c:UInt8) (r:List UInt8):dcN (c ::r)=(c.toNat-48)*10 ^r.length+dcN r:=by
 have:=dcN_append [c] r
 rw [List.singleton_append] at this
 rw [this]
 unfold dcN dcF
 rw [List.foldl_cons,List.foldl_nil,Nat.mul_zero,Nat.zero_add]
theorem dcN_zeros:∀ n:Nat,dcN (List.replicate n 48)=0
 | 0=>rfl
 | n+1=>by
  rw [List.replicate_succ,dcN_cons,dcN_zeros n]
  show (48-48)*_+0=0
  rw [Nat.sub_self,Nat.zero_mul]
theorem allDB_cons {c:UInt8} {r:List UInt8} (h:allDB (c ::r)=true):(48≤c.toNat∧c.toNat≤57)∧allDB r=true:=
 ⟨allDB_mem.1 h c List.mem_cons_self,allDB_mem.2 fun b hb=>allDB_mem.1 h b (List.mem_cons_of_mem _ hb)⟩
theorem dgN_dc:∀ {l:List UInt8},allDB l=true→AllD l∧dgN l=dcN l
 | [],_=>⟨rfl,rfl⟩
 | c ::r,h=>by
  obtain⟨h1,h2⟩:=allDB_cons h
  obtain⟨h3,h4⟩:=dgN_dc h2
  obtain⟨h5,h6⟩:=allD_cons h1 h3
  exact⟨h5,by rw [h6,h4,dcN_cons]⟩
theorem trimL_pad:∀ l:List UInt8,l=List.replicate (l.length- (trimL l).length) 48++trimL l
 | [] =>rfl
 | c ::r=>by
  unfold trimL
  by_cases h:c=48
  ·rw [if_pos h]
   have h1:=trimL_pad r
   have h2:=trimL_len r
   rw [List.length_cons,show r.length+1- (trimL r).length=r.length- (trimL r).length+1 by omega,List.replicate_succ,List.cons_append,← h1,h]
  ·rw [if_neg h,Nat.sub_self]
   rfl
theorem trimR_pad (t:List UInt8):t=trimR t++List.replicate (t.length- (trimR t).length) 48:=by
 have h:=congrArg List.reverse (trimL_pad t.reverse)
 rw [List.reverse_reverse,List.reverse_append,List.reverse_replicate,List.length_reverse] at h
 unfold trimR
 rw [List.length_reverse]
 exact h
theorem dcN_trimL (l:List UInt8):dcN (trimL l)=dcN l:=by
 have h:=congrArg dcN (trimL_pad l)
 rw [dcN_append,dcN_zeros,Nat.zero_mul,Nat.zero_add] at h
 exact h.symm
theorem dcN_trimR (l:List UInt8):dcN l=dcN (trimR l)*10 ^(l.length- (trimR l).length):=by
 have h:=congrArg dcN (trimR_pad l)
 rw [dcN_append,dcN_zeros,Nat.add_zero,List.length_replicate] at h
 exact h
theorem dcN_lt:∀ {l:List UInt8},allDB l=true→dcN l < 10 ^l.length
 | [],_=>by decide
 | c ::r,h=>by
  obtain⟨h1,h2⟩:=allDB_cons h
  have h3:=dcN_lt h2
  rw [dcN_cons,List.length_cons,Nat.pow_succ]
  have:(c.toNat-48)*10 ^r.length≤9*10 ^r.length:=Nat.mul_le_mul_right _ (by omega)
  omega
theorem dcN_ge {l:List UInt8} {c:UInt8} {r:List UInt8} (h:allDB l=true) (ht:trimL l=c ::r):10 ^r.length≤dcN l:=by
 rw [← dcN_trimL,ht,dcN_cons]
 have hc:=trimL_head ht
 have h1:=allDB_mem.1 h c (trimL_mem (by rw [ht]; exact List.mem_cons_self))
 have h2:c.toNat≠48:=fun e=>hc (UInt8.toNat_inj.1 e)
 have:1*10 ^r.length≤(c.toNat-48)*10 ^r.length:=Nat.mul_le_mul_right _ (by omega)
 omega
def pN (B:Nat) (x:Int):Nat:=if 0≤x then B ^x.toNat else 1
def pD (B:Nat) (x:Int):Nat:=if 0≤x then 1 else B ^(-x).toNat
theorem pD_pos {B:Nat} (hB:0 < B) (x:Int):0 < pD B x:=by
 unfold pD
 split
 ·exact Nat.one_pos
 ·exact Nat.pow_pos hB
theorem pw_cross (B b:Nat) (x:Int):B ^b*pN B x*pD B (x+b)=pN B (x+b)*pD B x:=by
 unfold pN pD
 by_cases h:0≤x
 ·rw [if_pos h,if_pos h,if_pos (show 0≤x+(b:Int) by omega),if_pos (show 0≤x+(b:Int) by omega),← Nat.pow_add,show b+x.toNat=(x+(b:Int)).toNat by omega]
 ·rw [if_neg h,if_neg h]
  by_cases h2:0≤x+(b:Int)
  ·rw [if_pos h2,if_pos h2,← Nat.pow_add,show (x+(b:Int)).toNat+(-x).toNat=b by omega,Nat.mul_one,Nat.mul_one]
  ·rw [if_neg h2,if_neg h2,Nat.mul_one,Nat.one_mul,← Nat.pow_add,show b+(-(x+(b:Int))).toNat=(-x).toNat by omega]
def dcW (K:Nat) (L:Int) (n:Nat) (e:Int):Nat:=rwd K L (n*pN 10 e) (pD 10 e)
theorem dcW_zero {K:Nat} {L:Int} {e:Int} :dcW K L 0 e=0:=by
 unfold dcW
 rw [Nat.zero_mul]
 rfl
theorem dcW_shift {K:Nat} {L:Int} (hK:0 < K) (n b:Nat) (e:Int):dcW K L (n*10 ^b) e=dcW K L n (e+b):=by
 unfold dcW
 refine rwd_ratio hK (pD_pos (by decide) _) (pD_pos (by decide) _) ?_
 rw [Nat.mul_assoc n,Nat.mul_assoc n,pw_cross,Nat.mul_assoc]
theorem ten_400:2 ^1024≤10 ^400:=by decide+kernel
theorem ten_401:2 ^1075 < 10 ^400:=by decide+kernel
theorem ten_le {j k n:Nat} {e:Int} (h:10 ^k≤n) (hk:(j:Int)≤(k:Int)+e):10 ^j*pD 10 e≤n*pN 10 e:=by
 refine Nat.le_trans ?_ (Nat.mul_le_mul_right _ h)
 unfold pD pN
 by_cases he:0≤e
 ·rw [if_pos he,if_pos he,← Nat.pow_add,Nat.mul_one]
  exact Nat.pow_le_pow_right (by decide) (by omega)
 ·rw [if_neg he,if_neg he,← Nat.pow_add,Nat.mul_one]
  exact Nat.pow_le_pow_right (by decide) (by omega)
theorem ten_up {T j k n:Nat} {e:Int} (hT:T≤10 ^j) (h:10 ^k≤n) (hk:(j:Int)≤(k:Int)+e):pD 10 e*T≤n*pN 10 e:=by
 refine Nat.le_trans ?_ (ten_le h hk)
 rw [Nat.mul_comm]
 exact Nat.mul_le_mul_right _ hT
theorem dcW_inf {n:Nat} {k:Nat} {e:Int} (h:10 ^k≤n) (hk:400≤(k:Int)+e):9218868437227405312≤dcW 53 (-1074) n e:=rwd_inf (pD_pos (by decide) _) (ten_up ten_400 h hk)
theorem two_up {m k:Nat} (h:m≤k):2 ^m≤2 ^k:=Nat.pow_le_pow_right (by decide) h
theorem lt_mul_both {n a b T:Nat} (h:n < a) (h2:b < T):n*b < a*T:=Nat.mul_lt_mul'' h h2
theorem pow_cut {n k j:Nat} {b T:Nat} (hT:T=10 ^j) (h:n < 10 ^k) (h8:b < T):n*b < 10 ^(k+j):=by
 rw [Nat.pow_add,← hT]
 exact lt_mul_both h h8
theorem dcW_small {K:Nat} {L:Int} (hK:0 < K) (hL: -1074≤L∧L≤0) {n:Nat} {k:Nat} {e:Int} (h:n < 10 ^k) (hk:(k:Int)+e≤-400):dcW K L n e=0:=by
 refine rwd_small hK hL.2 ?_
 have h8:=Nat.lt_of_le_of_lt (two_up (m:=(-L).toNat+1) (k:=1075) (by omega)) ten_401
 unfold pN pD
 rw [if_neg (by omega),if_neg (by omega),Nat.mul_one]
 have h7:10 ^(k+400)≤10 ^(-e).toNat:=Nat.pow_le_pow_right (by decide) (by omega)
 refine Nat.lt_of_lt_of_le ?_ h7
 exact pow_cut rfl h h8
theorem one_worth:dgN [49] =1:=by decide
theorem neW_eq {d:List UInt8} {e:Int} (hd:allDB d=true) (hl:d.length≤8192):neW d e=min (dcW 53 (-1074) (dcN d) e) 9218868437227405312∧neE d e=0:=by
 have hT:allDB (trimL d)=true:=allDB_mem.2 fun b hb=>allDB_mem.1 hd b (trimL_mem hb)
 have hle:=trimL_len d
 unfold neW neE
 by_cases h0:trimL d=[]
 ·rw [if_pos h0,if_pos h0,← dcN_trimL,h0]
  refine⟨?_,rfl⟩
  show 0=min (dcW 53 (-1074) 0 e) _
  rw [dcW_zero,Nat.zero_min]
 ·rw [if_neg h0,if_neg h0]
  obtain⟨c,r,hcr⟩:∃ c r,trimL d=c ::r:=by
   cases h:trimL d with
   | nil=>exact absurd h h0
   | cons c r=>exact⟨c,r,rfl⟩
  have hlen:(trimL d).length=r.length+1:=by rw [hcr]; rfl
  have hge:=dcN_ge hd hcr
  have hlt:=dcN_lt hT
  rw [dcN_trimL] at hlt
  by_cases h1:400 < neQ d e
  ·rw [if_pos h1,if_pos h1]
   unfold neQ at h1
   exact⟨(Nat.min_eq_right (dcW_inf hge (by omega))).symm,rfl⟩
  ·rw [if_neg h1,if_neg h1]
   by_cases h2:neQ d e < -400
   ·rw [if_pos h2,if_pos h2]
    unfold neQ at h2
    rw [dcW_small (by decide) ⟨by decide,by decide⟩ hlt (by omega),Nat.zero_min]
    exact⟨rfl,rfl⟩
   ·rw [if_neg h2,if_neg h2]
    unfold neQ at h1 h2
    have hb:=mdB_range (t:=trimL d)
    have hmE:mdE (trimL d) e=0:=by
     unfold mdE
     rw [trimL_twice,if_neg h0,if_neg (by omega),if_neg (by omega)]
    rw [if_neg (by rw [hmE]; decide)]
    have hI:mdI (trimL d) e=true:=by
     unfold mdI
     rw [trimL_twice,hmE,decide_eq_true h0]
     rfl
    have hD:mdD (trimL d) e=mdS (trimL d):=by unfold mdD; rw [if_pos hI]
    have hX:mdX (trimL d) e=e+mdB (trimL d):=by unfold mdX; rw [if_pos hI]
    have hS:dcN d=dcN (mdS (trimL d))*10 ^(mdB (trimL d)).toNat:=by
     have h3:=dcN_trimR (trimL d)
     rw [dcN_trimL] at h3
     have h4:mdS (trimL d)=trimR (trimL d):=by unfold mdS; rw [trimL_twice]
     have h5:(mdB (trimL d)).toNat=(trimL d).length- (trimR (trimL d)).length:=by
      unfold mdB
      rw [trimL_twice,h4]
      omega
     rw [h4,h5]
     exact h3
    obtain⟨c2,r2,hc2,_⟩:=mdS_ends (t:=trimL d) (by rw [trimL_twice]; exact h0)
    have hSd:allDB (mdS (trimL d))=true:=allDB_mem.2 fun b hb=>allDB_mem.1 hT b (mdS_mem hb)
    obtain⟨_,hg⟩:=dgN_dc hSd
    refine⟨?_,hmE⟩
    rw [hD,hX]
    unfold raW
    rw [if_neg (by rw [hc2]; exact List.cons_ne_nil _ _)]
    have q1:qtN (mdS (trimL d)) (e+mdB (trimL d))=dcN (mdS (trimL d))*pN 10 (e+mdB (trimL d)):=by
     unfold qtN pN
     rw [hg]
     split
     ·rfl
     ·rw [Nat.mul_one]
    have q2:qtD [49] (e+mdB (trimL d))=pD 10 (e+mdB (trimL d)):=by
     unfold qtD pD
     rw [one_worth]
     split
     ·rfl
     ·rw [Nat.one_mul]
    have q3:nuW false (qtN (mdS (trimL d)) (e+mdB (trimL d))) (qtD [49] (e+mdB (trimL d)))=nuMag (qtN (mdS (trimL d)) (e+mdB (trimL d))) (qtD [49] (e+mdB (trimL d))):=rfl
    rw [q3,q1,q2,nuMag_eq (pD_pos (by decide) _)]
    have q4:=dcW_shift (K:=53) (L:= -1074) (by decide) (dcN (mdS (trimL d))) (mdB (trimL d)).toNat e
    rw [← hS,show e+(((mdB (trimL d)).toNat:Nat):Int)=e+mdB (trimL d) by omega] at q4
    rw [q4]
    rfl
end Go.Proofs.YtdgfhijnconaoaaGreatDoor
namespace Go.Proofs.YtdgfhijnconaoaaGreatDoor
open Go Go.RowKit Ev Wd
def dB (F:Nat→Int) (i:Nat):UInt8:=UInt8.ofNat (48+(F i).toNat%10)
def dgs (F:Nat→Int) (N:Nat):List UInt8:=(List.range N).map (dB F)
def dbI (b:UInt8):Int:=Int.ofNat b.toNat
def dgT (l:List UInt8):List UInt8:=match trimL l with
 | [] =>[55]
 | c ::r=>c ::r
theorem dB_nat (F:Nat→Int) (i:Nat):(dB F i).toNat=48+(F i).toNat%10:=by
 unfold dB
 rw [UInt8.toNat_ofNat']
 exact Nat.mod_eq_of_lt (by show _ < 256; omega)
theorem dgR_eq {F:Nat→Int} {o i:Nat} (h:0≤F i∧F i < 256):dgR F o i=dbI (dB F i):=by
 unfold dgR dbI
 rw [dB_nat,addO_eq,mulO_eq,famAt_mul (by decide)]
 have e:(F i).tmod 10=(((F i).toNat%10:Nat):Int):=by
  obtain⟨k,hk⟩:∃ k:Nat,F i=(k:Int):=⟨(F i).toNat,by omega⟩
  rw [hk,Int.toNat_natCast]
  exact (Int.ofNat_tmod k 10).symm
 rw [e,IntKind.wrap_u8]
 show _=((48+(F i).toNat%10:Nat):Int)
 omega
theorem dgs_succ (F:Nat→Int) (i:Nat):dgs F (i+1)=dgs F i++[dB F i] :=by
 unfold dgs
 rw [List.range_succ,List.map_append]
 rfl
theorem dgs_len (F:Nat→Int) (N:Nat):(dgs F N).length=N:=by unfold dgs; simp
theorem gB_true {n:Nat} {m i:Int} (h1:i < n) (h2:i < m):gB n m i=true:=by
 unfold gB
 rw [decide_eq_true h1]
 exact decide_eq_true h2
theorem gB_false {n:Nat} {m i:Int} (h:(n:Int)≤i∨m≤i):gB n m i=false:=by
 unfold gB
 by_cases h1:i < (n:Int)
 ·rw [decide_eq_true h1]
  exact decide_eq_false (by omega)
 ·rw [decide_eq_false h1]
section
variable {F:Nat→Int} {n o:Nat} {m:Nat} (hF:∀ i,i < n→0≤F i∧F i < 256) (hm:m≤1000)
noncomputable def sG (F:Nat→Int) (n o m:Nat) (i:Nat):St:=if i=0 then tGz F n o m 0 else tGn F n o m ((dgs F i).map dbI) i (i:Int)
include hF hm in
theorem dg_loop:LoopTo XDg cD1 (tGz F n o m 0) (.exit 0) (sG F n o m (min n m)):=by
 have h:=loop_run (X:=XDg) (c:=cD1) (sG F n o m) (min n m) (x:= .exit 0) (s':=sG F n o m (min n m)) (by intro e; cases e) (fun i hi=> ?_) ?_
 ·exact h
 ·have hin:i < n:=by omega
  have him:i < m:=by omega
  have hd:=hF i hin
  unfold sG
  rw [if_neg (by omega:¬i+1=0),dgs_succ,List.map_append]
  by_cases h0:i=0
  ·subst h0
   rw [if_pos rfl]
   have:=dg_first F n o m ⟨⟨by decide,by decide⟩,by rw [addO_eq]; exact famIn_mul (o:=o) (i:=0) (sz:=1) (by decide) hin,⟨⟨by decide,by omega⟩,hin⟩,gB_true (by omega) (by omega),trivial⟩
   rw [dgR_eq hd] at this
   exact this
  ·rw [if_neg h0]
   have hl:((dgs F i).map dbI).length=i:=by rw [List.length_map,dgs_len]
   have:=dg_next F n o m ((dgs F i).map dbI) i i ⟨by rw [hl]; exact⟨Nat.mul_one _,by omega,by omega⟩,by rw [addO_eq,mulO_eq]; exact famIn_mul (by decide) hin,⟨⟨by omega,by omega⟩,by omega⟩,gB_true (by omega) (by omega),trivial⟩
   rw [dgR_eq hd,wrap_succ (by omega)] at this
   exact this
 ·unfold sG
  by_cases h0:min n m=0
  ·rw [if_pos h0]
   exact dg_endz F n o m ⟨gB_false (by omega),trivial⟩
  ·rw [if_neg h0]
   exact dg_end F n o m _ _ _ ⟨gB_false (by omega),trivial⟩
end
theorem trimL_zeros {l:List UInt8} :trimL l=l.drop (l.length- (trimL l).length):=by
 have h:=trimL_pad l
 conv=>rhs; rw [h]
 rw [List.drop_append_of_le_length (by rw [List.length_replicate,← h]; exact Nat.le_refl _),List.drop_of_length_le (by rw [List.length_replicate,← h]; exact Nat.le_refl _),List.nil_append]
theorem zB_get {l:List UInt8} {j:Nat} (hj:j < l.length):zB (l.map dbI) j=decide (l[j] =48):=by
 unfold zB
 rw [addO_eq,Nat.add_zero,List.getD_eq_getElem?_getD,List.getElem?_map,List.getElem?_eq_getElem hj]
 show (dbI l[j] ==48)=_
 by_cases h:l[j] =48
 ·rw [h]; rfl
 ·rw [decide_eq_false h]
  refine beq_false_of_ne fun e=>h ?_
  have e:((l[j].toNat:Nat):Int)=48:=e
  exact UInt8.toNat_inj.1 (show l[j].toNat=48 by omega)
theorem pad_get {l:List UInt8} {j:Nat} (hj:j < l.length- (trimL l).length):∃ h:j < l.length,l[j] =48:=by
 refine⟨by omega,?_⟩
 have h:=trimL_pad l
 have h2:l[j]? =some 48:=by
  rw [h,List.getElem?_append_left (by rw [List.length_replicate]; exact hj),List.getElem?_replicate,if_pos hj]
 rw [List.getElem?_eq_getElem (by omega)] at h2
 exact Option.some.inj h2
section
variable (F:Nat→Int) (n o:Nat) (l:List UInt8) (hl:l.length≤1000)
include hl
theorem tm_loop {c:UInt8} {r:List UInt8} (ht:trimL l=c ::r):LoopTo XDg cD2 (tHn F n o (l.map dbI) l.length 0) (.exit 2) (tHn F n o (l.map dbI) (c ::r).length (l.length- (c ::r).length)):=by
 have hle:=trimL_len l
 rw [ht] at hle
 have hlm:(l.map dbI).length=l.length:=List.length_map _
 have hrl:(c ::r).length=r.length+1:=rfl
 have h:=loop_run (X:=XDg) (c:=cD2) (fun j=>tHn F n o (l.map dbI) (l.length-j) j) (l.length- (c ::r).length) (x:= .exit 2) (s':=tHn F n o (l.map dbI) (c ::r).length (l.length- (c ::r).length)) (by intro e; cases e) (fun j hj=> ?_) ?_
 ·exact h
 ·obtain⟨hj2,h48⟩:=pad_get (l:=l) (j:=j) (by rw [ht]; exact hj)
  obtain⟨k,hk⟩:∃ k,l.length-j=k+2:=⟨l.length-j-2,by omega⟩
  have hz:zB (l.map dbI) j=true:=by rw [zB_get hj2]; exact decide_eq_true h48
  have:=tm_go F n o (l.map dbI) k j ⟨⟨by omega,by decide,by omega, .inr (by omega),by omega⟩,by unfold zC kB; rw [decide_eq_true (by omega)]; exact hz,fun _=>by rw [addO_eq]; omega,fun _=>⟨⟨by decide,by omega⟩,by omega⟩,trivial⟩
  rw [addO_eq] at this
  show Step XDg cD2 (tHn F n o (l.map dbI) (l.length-j) j) .normal (tHn F n o (l.map dbI) (l.length- (j+1)) (j+1))
  rw [hk,show l.length- (j+1)=k+1 by omega]
  exact this
 ·show Step XDg cD2 (tHn F n o (l.map dbI) (l.length- (l.length- (c ::r).length)) (l.length- (c ::r).length)) (.exit 2) _
  rw [show l.length- (l.length- (c ::r).length)=(c ::r).length by omega]
  have hj2:l.length- (c ::r).length < l.length:=by omega
  have hg:l[l.length- (c ::r).length] =c:=by
   have h1:=trimL_zeros (l:=l)
   rw [ht,List.drop_eq_getElem_cons hj2] at h1
   injection h1 with h1 _
   exact h1.symm
  have hz:zB (l.map dbI) (l.length- (c ::r).length)=false:=by
   rw [zB_get hj2,hg]
   exact decide_eq_false (trimL_head ht)
  exact tm_no F n o (l.map dbI) _ _ ⟨by unfold zC kB; rw [decide_eq_true (by omega)]; exact hz,fun _=>by rw [addO_eq]; omega,fun _=>⟨⟨by decide,by omega⟩,by omega⟩,trivial⟩
theorem tm_loop0 (h0:l≠[]) (ht:trimL l=[]):LoopTo XDg cD2 (tHn F n o (l.map dbI) l.length 0) (.exit 2) (tHe F n o (l.map dbI) (l.length-1)):=by
 have hlm:(l.map dbI).length=l.length:=List.length_map _
 have hp:0 < l.length:=List.length_pos_iff.2 h0
 have h:=loop_run (X:=XDg) (c:=cD2) (fun j=>if j < l.length then tHn F n o (l.map dbI) (l.length-j) j else tHe F n o (l.map dbI) (l.length-1)) l.length (x:= .exit 2) (s':=tHe F n o (l.map dbI) (l.length-1)) (by intro e; cases e) (fun j hj=> ?_) ?_
 ·simp only [if_pos hp,Nat.sub_zero] at h
  exact h
 ·obtain⟨hj2,h48⟩:=pad_get (l:=l) (j:=j) (by rw [ht]; exact hj)
  have hz:zB (l.map dbI) j=true:=by rw [zB_get hj2]; exact decide_eq_true h48
  simp only [if_pos hj]
  by_cases h1:j+1 < l.length
  ·rw [if_pos h1]
   obtain⟨k,hk⟩:∃ k,l.length-j=k+2:=⟨l.length-j-2,by omega⟩
   have:=tm_go F n o (l.map dbI) k j ⟨⟨by omega,by decide,by omega, .inr (by omega),by omega⟩,by unfold zC kB; rw [decide_eq_true (by omega)]; exact hz,fun _=>by rw [addO_eq]; omega,fun _=>⟨⟨by decide,by omega⟩,by omega⟩,trivial⟩
   rw [addO_eq] at this
   rw [hk,show l.length- (j+1)=k+1 by omega]
   exact this
  ·rw [if_neg h1,show l.length-j=1 by omega,show l.length-1=j by omega]
   exact tm_last F n o (l.map dbI) j ⟨⟨rfl,by rw [List.length_map]; omega⟩,hz,fun _=>by rw [addO_eq]; omega,fun _=>⟨⟨by decide,by decide⟩,by omega⟩,trivial⟩
 ·simp only [if_neg (Nat.lt_irrefl _)]
  exact tm_e F n o _ _
end
theorem dgs_back (l:List UInt8):(l.map dbI).map (fun (n:Int)=>UInt8.ofNat n.toNat)=l:=by
 rw [List.map_map]
 conv=>rhs; rw [← List.map_id l]
 refine List.map_congr_left fun b _=> ?_
 show UInt8.ofNat ((b.toNat:Int)).toNat=b
 rw [Int.toNat_natCast]
 exact UInt8.ofNat_toNat
theorem digits_sem {F:Nat→Int} {n o m:Nat} (hF:∀ i,i < n→0≤F i∧F i < 256) (hm:m≤1000):Ev.Sem Tryz.prog J0 8 [dgA F n o,iR m] [tR (dgT (dgs F (min n m)))] :=by
 have h1:=dg_loop (o:=o) hF hm
 have hN:(dgs F (min n m)).length=min n m:=dgs_len _ _
 unfold sG at h1
 by_cases h0:min n m=0
 ·rw [if_pos h0] at h1
  have e:dgT (dgs F (min n m))=[55] :=by rw [h0]; rfl
  rw [e]
  exact sem_of bDg_ok 10 _ _ (dg_wz F n o m _) ⟨rfl,tm_intoz F n o m (loop_run (fun _=>tHz F n o) 0 (by intro e; cases e) (fun k hk=>absurd hk (Nat.not_lt_zero k)) (tm_z F n o)),dg_into F n o m _ h1,rfl,trivial⟩
 ·rw [if_neg h0] at h1
  have hne:dgs F (min n m)≠[] :=by
   intro e
   rw [e] at hN
   exact h0 hN.symm
  cases ht:trimL (dgs F (min n m)) with
  | nil=>
   have e:dgT (dgs F (min n m))=[55] :=by unfold dgT; rw [ht]
   rw [e]
   have h2:=tm_loop0 F n o (dgs F (min n m)) (by rw [hN]; omega) hne ht
   rw [hN] at h2
   exact sem_of bDg_ok 10 _ _ (dg_we F n o m _ (min n m) (min n m-1) (min n m) _) ⟨rfl,tm_into F n o m _ _ _ h2,dg_into F n o m _ h1,rfl,trivial⟩
  | cons c r=>
   have e:dgT (dgs F (min n m))=c ::r:=by unfold dgT; rw [ht]
   rw [e]
   have h2:=tm_loop F n o (dgs F (min n m)) (by rw [hN]; omega) ht
   have h3:=trimL_zeros (l:=dgs F (min n m))
   rw [ht] at h3
   have hd:((dgs F (min n m)).map dbI).drop ((dgs F (min n m)).length- (c ::r).length)=(c ::r).map dbI:=by rw [← List.map_drop,← h3]
   have hw:=dg_wn F n o m ((dgs F (min n m)).map dbI) (min n m) ((dgs F (min n m)).length- (c ::r).length) (min n m) (c ::r) (c ::r).length
   rw [hd,dgs_back] at hw
   rw [hN] at h2 hw
   refine sem_of bDg_ok 10 _ _ hw ⟨by rw [List.length_map],?_,tm_into F n o m _ _ _ h2,dg_into F n o m _ h1,rfl,trivial⟩
   unfold nB
   exact beq_false_of_ne (by rw [List.length_cons]; omega)
end Go.Proofs.YtdgfhijnconaoaaGreatDoor
