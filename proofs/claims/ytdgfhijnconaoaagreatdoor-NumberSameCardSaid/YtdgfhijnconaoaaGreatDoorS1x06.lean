/-
 NumberSame: a number read from several spellings of the same value is the same; no condition (a part of the proof).
-/
import Derived.Test.YtdgfhijnconaoaaGreatDoorS1x05
import Derived.Test.YtdgfhijnconaoaaGreatDoorS1x03
import Derived.Shelf.Strings.Search3
import Derived.Shelf.Pu.Clone
import Derived.Test.YtdgfhijnconaoaaGreatDoorS1x04
set_option maxRecDepth 1000000
namespace Go.Proofs.YtdgfhijnconaoaaGreatDoor
open Go Go.RowKit Ev Wd VaS
theorem e1s {m u:Nat} (h0:0 < m) (h:m*2 ^u < 4503599627370496):Ieee.double.nearest false m ((u:Int)-1074)=m*2 ^u:=by
 have hb:=tL (show m≠0 by omega)
 have hl:m.log2+u < 52:=by
  have h1:2 ^(m.log2+u)≤m*2 ^u:=by rw [Nat.pow_add]; exact Nat.mul_le_mul_right _ hb.1
  have h2:2 ^(m.log2+u) < 2 ^52:=Nat.lt_of_le_of_lt h1 h
  exact (Nat.pow_lt_pow_iff_right (a:=2) (by decide)).1 h2
 have hlast:max ((u:Int)-1074+(m.log2:Nat)- (Ieee.double.fractionBits:Nat)) Ieee.double.leastPlace= -1074:=by
  rw [I2,a0w]
  omega
 unfold Ieee.Format.nearest
 rw [if_neg (show m≠0 by omega)]
 simp only [hlast]
 have hm:0 < m*2 ^u:=Nat.mul_pos h0 (Nat.pow_pos (by decide))
 have e1:((u:Int)-1074- -1074).toNat=u:=by omega
 have e2:(-1074- ((u:Int)-1074)).toNat=0:=by omega
 rw [e1,e2,Nat.shiftLeft_eq,Z7 (M:=m*2 ^u) (k:=0) (by simp) hm,I2,d0d,u0v]
 have e3:((-1074:Int)- -1074).toNat=0:=rfl
 rw [e3,Nat.zero_mul,Nat.zero_add]
 exact Nat.min_eq_left (Nat.le_of_lt (Nat.lt_trans h (by decide)))
theorem over {k c:Nat} (hk:2046≤k) (hc:4503599627370496≤c):9218868437227405312≤k*4503599627370496+c:=by omega
theorem f1l {m t:Nat} {P:Int} (h1:4503599627370496≤m*2 ^t) (h53:m*2 ^t < 9007199254740992) (hT:971 < P-t):Ieee.double.nearest false m P=9218868437227405312:=by
 have h2:0 < 2 ^t:=Nat.pow_pos (by decide)
 have h0:m≠0:=by
  intro e
  subst e
  omega
 have hm:0 < m*2 ^t:=by omega
 have ht:t≤52:=by
  have h3:2 ^t≤m*2 ^t:=Nat.le_mul_of_pos_left _ (by omega)
  have h4:2 ^t < 2 ^53:=Nat.lt_of_le_of_lt h3 (by show _ < 9007199254740992; omega)
  have:=(Nat.pow_lt_pow_iff_right (a:=2) (by decide)).1 h4
  omega
 have hl:m.log2=52-t:=by
  refine bL ?_ ?_
  ·have:2 ^(52-t)*2 ^t≤m*2 ^t:=by rw [← Nat.pow_add,show 52-t+t=52 by omega]; exact h1
   exact Nat.le_of_mul_le_mul_right this h2
  ·have:m*2 ^t < 2 ^(52-t+1)*2 ^t:=by rw [← Nat.pow_add,show 52-t+1+t=53 by omega]; exact h53
   exact Nat.lt_of_mul_lt_mul_right this
 have hlast:max (P+(m.log2:Nat)- (Ieee.double.fractionBits:Nat)) Ieee.double.leastPlace=P-t:=by
  rw [hl,I2,a0w]
  omega
 unfold Ieee.Format.nearest
 rw [if_neg h0]
 simp only [hlast]
 have e1:(P- (P- (t:Int))).toNat=t:=by omega
 have e2:(P- (t:Int)-P).toNat=0:=by omega
 rw [e1,e2,Nat.shiftLeft_eq,Z7 (M:=m*2 ^t) (k:=0) (by simp) hm,I2,d0d,kU,u0v]
 exact Nat.min_eq_right (over (by omega) h1)
theorem x0k {x:Nat} {e:Int} (hx:x < 9218868437227405312) (he: -1000000000000000000≤e∧e≤1000000000000000000):plL x e=e+((x/4503599627370496:Nat):Int)-1023:=by
 unfold plL
 have hd:x/4503599627370496 < 2047:=(Nat.div_lt_iff_lt_mul (by decide)).2 (by omega)
 rw [t1w hx,Int.add_zero,R6 (n:=e) (by omega) (by omega),R6 (by omega) (by omega)]
 omega
theorem l0x {m:Nat} {e:Int} (h0:0 < m) (h53:m < 9007199254740992) (hE: -1074≤e) (hT:e≤1000000000000000000):Ev.Pure Tryz.prog J0 166 [.float .f64 (kF m), .int .i64 e] (.float .f64 (Ieee.double.nearest false m e)):=by
 obtain⟨t,ht,g1,g2,g3,g4,q1,q2,hx1,hx2⟩:=e0e h0 h53
 generalize kF m=x at*
 have hP:=x0k (x:=x) (e:=e) hx2 ⟨by omega,hT⟩
 rw [q1] at hP
 by_cases hi:971 < e-t
 ·rw [f1l g1 g2 hi]
  refine d6 tK 10 _ _ (r0c x e) ⟨?_,?_,?_,⟨hx1,hx2⟩,oF hx2,mL hx1 hx2,trivial⟩
  ·rw [z0r (by omega) (by omega)]; exact decide_eq_false (by omega)
  ·rw [hP]; exact decide_eq_true (by omega)
  ·rw [hP]; exact decide_eq_false (by show ¬_ < (-1075:Int); omega)
 by_cases hc:e-t < -1074
 ·obtain⟨u,hu⟩:=Int.eq_ofNat_of_zero_le (show 0≤e+1074 by omega)
  have he:e=(u:Int)-1074:=by omega
  have hut:u < t:=by omega
  have hpow:m*2 ^t=m*2 ^u*2 ^(t-u):=by rw [Nat.mul_assoc,← Nat.pow_add,show u+(t-u)=t by omega]
  have hsm:m*2 ^u < 4503599627370496:=by
   have h2:2*1≤2 ^(t-u):=by
    rw [show t-u=t-u-1+1 by omega,Nat.pow_succ,Nat.mul_comm]
    exact Nat.mul_le_mul_right 2 (Nat.pow_pos (by decide))
   have h3:=Nat.mul_le_mul_left (m*2 ^u) h2
   omega
  have hS:x1o (plL x e)=e+105-t:=by
   unfold x1o
   rw [hP,R6 (by omega) (by omega)]
   omega
  have hB:=z0s (x:=x) (P:=x1o (plL x e)) hx2 (by rw [hS]; omega) (by rw [hS]; omega)
  rw [hS,q2] at hB
  have hk:(e+105- (t:Int)+1023).toNat=54- (t-u):=by omega
  rw [hk] at hB
  have hmul:=t0f (w:=(54- (t-u))*4503599627370496+(m*2 ^t-4503599627370496)) (M:=m*2 ^u) (s:=t-u) (by omega) (by omega) (by rw [← hpow]; omega) hsm (by omega)
  rw [he,e1s h0 hsm,← he]
  have key:=l1x x e
  rw [hS,hB,hmul] at key
  refine d6 tK 10 _ _ key ⟨rfl,?_,?_,?_,⟨hx1,hx2⟩,oF hx2,mL hx1 hx2,trivial⟩
  ·rw [hP]; exact decide_eq_true (by show _ < (-1022:Int); omega)
  ·rw [hP]; exact decide_eq_false (by omega)
  ·rw [hP]; exact decide_eq_false (by show ¬_ < (-1075:Int); omega)
 ·rw [lN g1 g2 (by omega) (by omega)]
  have hB:=z0s (x:=x) (P:=plL x e) hx2 (by rw [hP]; omega) (by rw [hP]; omega)
  rw [hP,q2] at hB
  have hk:(e+((1074-t+1:Nat):Int)-1023+1023).toNat=(e-t+1074).toNat+1:=by omega
  rw [hk] at hB
  obtain⟨k,hk2⟩:∃ k,k=(e- (t:Int)+1074).toNat:=⟨_,rfl⟩
  rw [← hk2] at hB ⊢
  have hk3:k≤2045:=by omega
  have hmul:=mul_one (w:=(k+1)*4503599627370496+(m*2 ^t-4503599627370496)) (by omega) (by omega)
  have hR:(k+1)*4503599627370496+(m*2 ^t-4503599627370496)=k*4503599627370496+m*2 ^t:=by omega
  rw [hR] at hmul hB
  have key:=a1f x e
  rw [hP,hB,hmul] at key
  refine d6 tK 10 _ _ key ⟨rfl,?_,?_,?_,⟨hx1,hx2⟩,oF hx2,mL hx1 hx2,trivial⟩
  ·exact decide_eq_false (by show ¬_ < (-1022:Int); omega)
  ·exact decide_eq_false (by omega)
  ·exact decide_eq_false (by show ¬_ < (-1075:Int); omega)
theorem k1x:(9007199254740992:Nat)=4503599627370496*2 ^1:=by decide
theorem uB:kF 9007199254740992=4845873199050653696:=by decide
theorem g0x {e:Int} (hE: -1074≤e) (hT:e≤970):Ieee.double.nearest false 9007199254740992 e=(e+1+1074).toNat*4503599627370496+4503599627370496:=by
 have:=vL (M:=4503599627370496) (k:=1) (E:=e+1) (by decide) (by decide) (by omega) (.inl (Nat.le_refl _)) (by omega)
 rw [← k1x,show e+1- ((1:Nat):Int)=e by omega] at this
 exact this
theorem m1n:(9007199254740992:Nat).log2=53:=bL (by decide) (by decide)
theorem c0c {e:Int} (hT:970 < e):Ieee.double.nearest false 9007199254740992 e=9218868437227405312:=by
 have hlast:max (e+((9007199254740992:Nat).log2:Nat)- (Ieee.double.fractionBits:Nat)) Ieee.double.leastPlace=e+1:=by
  rw [m1n,I2,a0w]
  omega
 unfold Ieee.Format.nearest
 rw [if_neg (by decide)]
 simp only [hlast]
 have e1:(e- (e+1)).toNat=0:=by omega
 have e2:(e+1-e).toNat=1:=by omega
 rw [e1,e2,Nat.shiftLeft_zero,Z7 k1x (by decide),I2,d0d,kU,u0v]
 exact Nat.min_eq_right (over (by omega) (Nat.le_refl _))
theorem w0c {e:Int} (hE: -1074≤e) (hT:e≤1000000000000000000):Ev.Pure Tryz.prog J0 166 [.float .f64 4845873199050653696, .int .i64 e] (.float .f64 (Ieee.double.nearest false 9007199254740992 e)):=by
 have q1:4845873199050653696/4503599627370496=1076:=by decide
 have q2:4845873199050653696%4503599627370496=0:=by decide
 have hx1:4503599627370496≤4845873199050653696:=by decide
 have hx2:4845873199050653696 < 9218868437227405312:=by decide
 have hP:=x0k (x:=4845873199050653696) (e:=e) hx2 ⟨by omega,hT⟩
 rw [q1] at hP
 by_cases hi:970 < e
 ·rw [c0c hi]
  refine d6 tK 10 _ _ (r0c 4845873199050653696 e) ⟨?_,?_,?_,⟨hx1,hx2⟩,oF hx2,mL hx1 hx2,trivial⟩
  ·rw [z0r (Nat.le_of_lt hx2) (by decide)]; exact decide_eq_false (by decide)
  ·rw [hP]; exact decide_eq_true (by omega)
  ·rw [hP]; exact decide_eq_false (by show ¬_ < (-1075:Int); omega)
 ·rw [g0x hE (by omega)]
  have hB:=z0s (x:=4845873199050653696) (P:=plL 4845873199050653696 e) hx2 (by rw [hP]; omega) (by rw [hP]; omega)
  rw [hP,q2] at hB
  obtain⟨k,hk2⟩:∃ k,k=(e+1+1074).toNat:=⟨_,rfl⟩
  have hk:(e+((1076:Nat):Int)-1023+1023).toNat=k+1:=by omega
  rw [hk,Nat.add_zero] at hB
  rw [← hk2]
  have hk3:k≤2045:=by omega
  have hmul:=mul_one (w:=(k+1)*4503599627370496) (by omega) (by omega)
  have hR:(k+1)*4503599627370496=k*4503599627370496+4503599627370496:=by omega
  rw [hR] at hmul hB
  have key:=a1f 4845873199050653696 e
  rw [hP,hB,hmul] at key
  refine d6 tK 10 _ _ key ⟨rfl,?_,?_,?_,⟨hx1,hx2⟩,oF hx2,mL hx1 hx2,trivial⟩
  ·exact decide_eq_false (by show ¬_ < (-1022:Int); omega)
  ·exact decide_eq_false (by omega)
  ·exact decide_eq_false (by show ¬_ < (-1075:Int); omega)
theorem f1j {m:Nat} {e:Int} (h0:0 < m) (h53:m≤9007199254740992) (hE: -1074≤e) (hT:e≤1000000000000000000):Ev.Pure Tryz.prog J0 166 [.float .f64 (kF m), .int .i64 e] (.float .f64 (Ieee.double.nearest false m e)):=by
 by_cases h:m < 9007199254740992
 ·exact l0x h0 h hE hT
 ·obtain rfl:m=9007199254740992:=Nat.le_antisymm h53 (Nat.le_of_not_lt h)
  rw [uB]
  exact w0c hE hT
def p0m (K:Nat) (M:Int) (N D:Nat) (e:Int):Nat:=if B1 K M N D e=true then 0 else qG K N D e
def p0l (K:Nat) (M:Int) (N D:Nat) (e:Int):Int:=if B1 K M N D e=true then 0 else pC K N D e
def k0w (K:Nat) (M:Int) (N D:Nat) (e:Int):Bool:=B1 K M N D e || !flw N D e
theorem j0f (K:Nat) (M:Int) (N D:Nat) (e:Int):jT K M N D e=[uR (p0m K M N D e),iR (p0l K M N D e),bR (B1 K M N D e),fR (k0w K M N D e) (B1 K M N D e) (qT K N D e)] :=by
 unfold jT p0m p0l k0w
 cases h:B1 K M N D e
 ·rfl
 ·rfl
def xK:List Arg→Option (List Arg×List Prop)
 | [.a [.v (.bool _), .v (.bool false), .v (.bool false), .s 32 .u64 N, .v (.bool false), .s 32 .u64 D], .a [.v (.int .i64 53), .v (.int .i64 (-1074)), .v (.int .i64 971)], .c (.v (.int .i64 1))] =>
  some ([uR (p0m 53 971 (val W64 N) (val W64 D) (p9 53 (-1074) (val W64 N) (val W64 D))),iR (p0l 53 971 (val W64 N) (val W64 D) (p9 53 (-1074) (val W64 N) (val W64 D))),bR (B1 53 971 (val W64 N) (val W64 D) (p9 53 (-1074) (val W64 N) (val W64 D))),fR (k0w 53 971 (val W64 N) (val W64 D) (p9 53 (-1074) (val W64 N) (val W64 D))) (B1 53 971 (val W64 N) (val W64 D) (p9 53 (-1074) (val W64 N) (val W64 D))) (qT 53 (val W64 N) (val W64 D) (p9 53 (-1074) (val W64 N) (val W64 D)))],[Cn N∧Cn D∧0 < val W64 D∧bl (val W64 N)≤1000000∧bl (val W64 D)≤1000000])
 | _=>none
theorem g0t:∀ az rs l,xK az=some (rs,l)→d5 l→Ev.Sem Tryz.prog J0 77 az rs:=by
 intro az rs l h hl
 unfold xK at h
 split at h
 ·cases h
  rename_i n N D
  obtain⟨⟨c1,c2,hD,h1,h2⟩,_⟩:=hl
  unfold Cn at c1 c2
  have:=f0p n (N:=val W64 N) (D:=val W64 D) hD h1 h2
  rw [← c1,← c2,j0f] at this
  exact this
 ·cases h
def unF (x:Nat):Nat:=if x=4845873199050653696 then 9007199254740992 else (4503599627370496+x%4503599627370496)/2 ^(1075-x/4503599627370496)
theorem j0r {m:Nat} (h0:0 < m) (h53:m≤9007199254740992):unF (kF m)=m:=by
 by_cases h:m < 9007199254740992
 ·obtain⟨t,ht,g1,g2,g3,g4,q1,q2,hx1,hx2⟩:=e0e h0 h
  have hne:kF m≠4845873199050653696:=by
   intro e
   rw [e] at q1
   have:(4845873199050653696:Nat)/4503599627370496=1076:=by decide
   omega
  unfold unF
  rw [if_neg hne,q1,q2,show 4503599627370496+(m*2 ^t-4503599627370496)=m*2 ^t from Nat.add_sub_cancel' g1,show 1075- (1074-t+1)=t by omega]
  exact Nat.mul_div_cancel _ (Nat.pow_pos (by decide))
 ·obtain rfl:m=9007199254740992:=Nat.le_antisymm h53 (Nat.le_of_not_lt h)
  rw [uB]
  exact if_pos rfl
def ldW (x:Nat) (e:Int):Nat:=if x=0 then 0 else Ieee.double.nearest false (unF x) e
def r0j (x:Nat) (e:Int):Prop:=x=0∨(kF (unF x)=x∧0 < unF x∧unF x≤9007199254740992∧-1074≤e∧e≤1000000000000000000)
theorem r1a {x:Nat} {e:Int} (h:r0j x e):Ev.Pure Tryz.prog J0 166 [.float .f64 x, .int .i64 e] (.float .f64 (ldW x e)):=by
 by_cases hx:x=0
 ·subst hx
  exact d6 tK 10 _ _ (m1b 0 e) ⟨by decide,trivial⟩
 ·obtain⟨h1,h2,h3,h4,h5⟩:=h.resolve_left hx
  have:=f1j h2 h3 h4 h5
  rw [h1] at this
  unfold ldW
  rw [if_neg hx]
  exact this
theorem v1y {m:Nat} {e:Int} (h0:0 < m) (h53:m≤9007199254740992):ldW (kF m) e=Ieee.double.nearest false m e:=by
 have hx:kF m≠0:=by
  intro e0
  by_cases h:m < 9007199254740992
  ·obtain⟨t,ht,g1,g2,g3,g4,q1,q2,hx1,hx2⟩:=e0e h0 h
   rw [e0] at hx1
   exact absurd hx1 (by decide)
  ·obtain rfl:m=9007199254740992:=Nat.le_antisymm h53 (Nat.le_of_not_lt h)
   rw [uB] at e0
   cases e0
 unfold ldW
 rw [if_neg hx,j0r h0 h53]
theorem r0y {m:Nat} {e:Int} (h53:m≤9007199254740992) (h:m=0∨(-1074≤e∧e≤1000000000000000000)):r0j (kF m) e:=by
 rcases Nat.eq_zero_or_pos m with h0 | h0
 ·subst h0; exact .inl cK
 ·rcases h with h | h
  ·omega
  ·exact .inr ⟨by rw [j0r h0 h53],by rw [j0r h0 h53]; exact h0,by rw [j0r h0 h53]; exact h53,h.1,h.2⟩
def rC:List Value→Option (Value×List Prop)
 | [.float .f64 x, .int .i64 e] =>some (.float .f64 (ldW x e),[r0j x e])
 | _=>none
theorem s0z (args:List Value) (v:Value) (l:List Prop) (h:rC args=some (v,l)) (hl:d5 l):Ev.Pure Tryz.prog J0 166 args v:=by
 unfold rC at h
 split at h
 case h_2=>cases h
 cases h
 exact r1a hl.1
noncomputable def n1p:Tab:=i6 166 rC n1h
theorem k0c:N1 Tryz.prog J0 n1p:=b6 s0z i0w
noncomputable def bLe:Base:=⟨Tryz.prog,J0,false,n1p,nH,200,H8⟩
theorem t1k:BaseOk bLe:=⟨progOk,k0c,aB,i7⟩
theorem r0z (x:Nat) (e:Int):a6 (bLe.cx 10) [] 200 110 [.float .f64 x, .int .i64 e] [] =some (.float .f64 (ldW x e),[r0j x e]):=by kernel_rfl
theorem a1h (args:List Value) (v:Value) (l:List Prop) (h:rC args=some (v,l)) (hl:d5 l):Ev.Pure Tryz.prog J0 110 args v:=by
 unfold rC at h
 split at h
 case h_2=>cases h
 cases h
 exact d6 t1k 10 _ _ (r0z _ _) hl
noncomputable def n1m:Tab:=i6 110 rC n1p
theorem j0o:N1 Tryz.prog J0 n1m:=b6 a1h k0c
noncomputable def g0r:kM:=l5 77 (y3 [shM, .a [.v, .v, .v],shV] xK) nH
theorem sZ:kY Tryz.prog J0 g0r:=b8 (g9 _ g0t) aB
noncomputable def bRo2:Base:=⟨Tryz.prog,J0,false,n1m,g0r,200,H8⟩
theorem vY:BaseOk bRo2:=⟨progOk,j0o,sZ,i7⟩
noncomputable abbrev x1v:Cx:=bRo2.cx 10
theorem m1y {K:Nat} {N D:Nat} {e:Int} (hN:0 < N) (hD:0 < D) (he:e=(bl N:Int)-bl D-K-2):2 ^(K+1)≤flq N D e:=by
 have h1:2 ^(bl N-1)≤N:=by
  refine bl_ge.1 ?_
  have:0 < bl N:=bl_ge.2 (by show 1≤N; exact hN)
  omega
 have hb:0 < bl N:=bl_ge.2 (by show 1≤N; exact hN)
 have h2:D < 2 ^bl D:=uO D
 unfold flq
 rw [Nat.le_div_iff_mul_le (q1z hD e)]
 unfold atA atB
 by_cases h0:0≤e
 ·rw [if_pos h0,if_pos h0]
  refine Nat.le_trans ?_ h1
  refine Nat.le_trans (Nat.mul_le_mul_left _ (Nat.mul_le_mul_right _ (Nat.le_of_lt h2))) ?_
  rw [← Nat.pow_add,← Nat.pow_add]
  exact Nat.pow_le_pow_right (by decide) (by omega)
 ·rw [if_neg h0,if_neg h0]
  refine Nat.le_trans (Nat.mul_le_mul_left _ (Nat.le_of_lt h2)) ?_
  refine Nat.le_trans ?_ (Nat.mul_le_mul_right _ h1)
  rw [← Nat.pow_add,← Nat.pow_add]
  exact Nat.pow_le_pow_right (by decide) (by omega)
theorem s0d {K:Nat} {L:Int} {N D:Nat} (hK:0 < K) (hN:0 < N) (hD:0 < D) (h:flq N D (p9 K L N D) < 2 ^(K-1)):p9 K L N D=L:=by
 unfold p9 at h ⊢
 by_cases hb:K < bl (flq N D (w7 K L N D))
 ·rw [if_pos hb] at h
  exfalso
  obtain⟨s,hs⟩:∃ s,bl (flq N D (w7 K L N D))=K+s:=⟨bl (flq N D (w7 K L N D))-K,by omega⟩
  rw [hs,show ((K+s:Nat):Int)-K=(s:Int) by omega,lV,Nat.div_lt_iff_lt_mul (Nat.pow_pos (by decide)),← Nat.pow_add] at h
  have:=bl_le.2 h
  omega
 ·rw [if_neg hb]
  unfold w7
  by_cases hc:L < (bl N:Int)-bl D-K-2
  ·exfalso
   have h1:w7 K L N D=(bl N:Int)-bl D-K-2:=if_pos hc
   have h2:=m1y hN hD h1
   have:=bl_ge.2 h2
   omega
  ·rw [if_neg hc]
theorem fS {N D:Nat} (hD:0 < D):qG 53 N D (p9 53 (-1074) N D) < 9007199254740992∧-1074≤pC 53 N D (p9 53 (-1074) N D)∧(4503599627370496≤qG 53 N D (p9 53 (-1074) N D)∨pC 53 N D (p9 53 (-1074) N D)= -1074∨qG 53 N D (p9 53 (-1074) N D)=0):=by
 have h1:flq N D (p9 53 (-1074) N D) < 9007199254740992:=jB
 have h3: -1074≤p9 53 (-1074) N D:=by
  unfold p9 w7
  split <;> split <;> omega
 rcases Nat.eq_zero_or_pos N with hN | hN
 ·have hq:flq N D (p9 53 (-1074) N D)=0:=by
   rw [hN]
   unfold flq atA
   split <;> simp
  have hr:flr N D (p9 53 (-1074) N D)=0:=by
   rw [hN]
   unfold flr atA
   split <;> simp
  have hm:flm N D (p9 53 (-1074) N D)=0:=by
   unfold flm d0v flw
   rw [hr,hq]
   rfl
  unfold qG pC
  rw [hm]
  exact⟨by decide,h3, .inr (.inr (by decide))⟩
 have h2:=s0d (K:=53) (L:= -1074) (by decide) hN hD
 generalize p9 53 (-1074) N D=e at*
 have hm:flm N D e≤flq N D e+1∧flq N D e≤flm N D e:=by
  unfold flm
  split <;> omega
 have h4:flq N D e < 4503599627370496→e= -1074:=h2
 unfold qG pC
 rw [show 2 ^53=9007199254740992 by decide]
 by_cases hc:9007199254740992≤flm N D e
 ·rw [if_pos hc,if_pos hc]
  exact⟨by omega,by omega, .inl (by omega)⟩
 ·rw [if_neg hc,if_neg hc]
  refine⟨by omega,h3,?_⟩
  by_cases hd:4503599627370496≤flm N D e
  ·exact .inl hd
  ·exact .inr (.inl (h4 (by omega)))
theorem oS (m:Nat):FloatKind.f64.nearest (m:Int)=kF m:=by
 unfold FloatKind.nearest kF
 rw [decide_eq_false (by omega),Int.natAbs_natCast]
 rfl
def cF (N D:Nat):Nat:=if B1 53 971 N D (p9 53 (-1074) N D)=true then 9218868437227405312 else if qG 53 N D (p9 53 (-1074) N D)=0 then 0 else (pC 53 N D (p9 53 (-1074) N D)+1074).toNat*4503599627370496+qG 53 N D (p9 53 (-1074) N D)
def nuW (n:Bool) (N D:Nat):Nat:=if n=true then cF N D+9223372036854775808 else cF N D
theorem i1j (N D:Nat) (hD:0 < D):cF N D≤9218868437227405312:=by
 unfold cF
 obtain⟨h1,h2,h3⟩:=fS (N:=N) hD
 cases hi:B1 53 971 N D (p9 53 (-1074) N D)
 ·rw [if_neg (by decide)]
  split
  ·exact Nat.zero_le _
  ·unfold B1 at hi
   have:=of_decide_eq_false hi
   exact uL (by omega) h1
 ·rw [if_pos rfl]
  exact Nat.le_refl _
theorem b2z {N D:Nat} (hD:0 < D):r0j (FloatKind.f64.nearest ((p0m 53 971 N D (p9 53 (-1074) N D):Nat):Int)) (p0l 53 971 N D (p9 53 (-1074) N D)):=by
 obtain⟨h1,h2,h3⟩:=fS (N:=N) hD
 rw [oS]
 unfold p0m p0l
 cases hi:B1 53 971 N D (p9 53 (-1074) N D)
 ·rw [if_neg (by decide),if_neg (by decide)]
  unfold B1 at hi
  have hi:=of_decide_eq_false hi
  generalize qG 53 N D (p9 53 (-1074) N D)=m at*
  generalize pC 53 N D (p9 53 (-1074) N D)=e at*
  exact r0y (by omega) (.inr ⟨h2,by omega⟩)
 ·rw [if_pos rfl]
  exact .inl cK
theorem c2y {N D:Nat} (hD:0 < D) (hi:B1 53 971 N D (p9 53 (-1074) N D)=false):ldW (FloatKind.f64.nearest ((p0m 53 971 N D (p9 53 (-1074) N D):Nat):Int)) (p0l 53 971 N D (p9 53 (-1074) N D))=cF N D:=by
 obtain⟨h1,h2,h3⟩:=fS (N:=N) hD
 rw [oS]
 unfold p0m p0l cF
 rw [hi,if_neg (by decide),if_neg (by decide),if_neg (by decide)]
 have hi2:pC 53 N D (p9 53 (-1074) N D)≤971:=by
  unfold B1 at hi
  have:=of_decide_eq_false hi
  omega
 clear hi
 generalize qG 53 N D (p9 53 (-1074) N D)=m at*
 generalize pC 53 N D (p9 53 (-1074) N D)=e at*
 rcases Nat.eq_zero_or_pos m with h | h
 ·subst h
  rw [cK,if_pos rfl]
  unfold ldW
  rw [if_pos rfl]
 ·rw [v1y h (by omega),if_neg (by omega)]
  have:=vL (M:=m) (k:=0) (E:=e) h h1 h2 (by omega) hi2
  rw [Nat.pow_zero,Nat.mul_one,show e- ((0:Nat):Int)=e by omega] at this
  exact this
abbrev xR (x:Nat):Arg:= .c (.v (.float .f64 x))
def nuE (N D:List Int):Int:=p9 53 (-1074) (val W64 N) (val W64 D)
def nuI (N D:List Int):Bool:=B1 53 971 (val W64 N) (val W64 D) (nuE N D)
def nuX (N D:List Int):Nat:=ldW (FloatKind.f64.nearest ((p0m 53 971 (val W64 N) (val W64 D) (nuE N D):Nat):Int)) (p0l 53 971 (val W64 N) (val W64 D) (nuE N D))
def s1e (N D:List Int):Prop:=r0j (FloatKind.f64.nearest ((p0m 53 971 (val W64 N) (val W64 D) (nuE N D):Nat):Int)) (p0l 53 971 (val W64 N) (val W64 D) (nuE N D))
def nuO (N D:List Int):Prop:=Cn N∧Cn D∧0 < val W64 D∧bl (val W64 N)≤1000000∧bl (val W64 D)≤1000000
section
variable (n:Bool) (N D:List Int) (r:Nat) (a b c:Bool)
theorem f2f:n8 x1v [] 200 112 [vlA n false N false D,iR 1] [xR r,fR a b c] [false,false] =some [n=false,nuI N D=false,s1e N D,N.length=N.length,D.length=D.length,nuO N D,Value.float .f64 (nuX N D)=Value.float .f64 r,Value.bool (k0w 53 971 (val W64 N) (val W64 D) (nuE N D))=Value.bool a,Value.bool (nuI N D)=Value.bool b,Value.bool (qT 53 (val W64 N) (val W64 D) (nuE N D))=Value.bool c] :=by kernel_rfl
theorem f2h:n8 x1v [] 200 112 [vlA n false N false D,iR 1] [xR r,fR a b c] [false,true] =some [n=true,nuI N D=false,s1e N D,N.length=N.length,D.length=D.length,nuO N D,Value.float .f64 (nuX N D^^^2 ^(FloatKind.f64.format.exponentBits+FloatKind.f64.format.fractionBits))=Value.float .f64 r,Value.bool (k0w 53 971 (val W64 N) (val W64 D) (nuE N D))=Value.bool a,Value.bool (nuI N D)=Value.bool b,Value.bool (qT 53 (val W64 N) (val W64 D) (nuE N D))=Value.bool c] :=by kernel_rfl
theorem a2e:n8 x1v [] 200 112 [vlA n false N false D,iR 1] [xR r,fR a b c] [true,false] =some [n=false,nuI N D=true,s1e N D,N.length=N.length,D.length=D.length,nuO N D,Value.float .f64 (9218868437227405312)=Value.float .f64 r,Value.bool (k0w 53 971 (val W64 N) (val W64 D) (nuE N D))=Value.bool a,Value.bool (nuI N D)=Value.bool b,Value.bool (qT 53 (val W64 N) (val W64 D) (nuE N D))=Value.bool c] :=by kernel_rfl
theorem c2w:n8 x1v [] 200 112 [vlA n false N false D,iR 1] [xR r,fR a b c] [true,true] =some [n=true,nuI N D=true,s1e N D,N.length=N.length,D.length=D.length,nuO N D,Value.float .f64 (18442240474082181120)=Value.float .f64 r,Value.bool (k0w 53 971 (val W64 N) (val W64 D) (nuE N D))=Value.bool a,Value.bool (nuI N D)=Value.bool b,Value.bool (qT 53 (val W64 N) (val W64 D) (nuE N D))=Value.bool c] :=by kernel_rfl
end
theorem l0b {x:Nat} (h:x≤9218868437227405312):x^^^2 ^(FloatKind.f64.format.exponentBits+FloatKind.f64.format.fractionBits)=x+9223372036854775808:=by
 have e:FloatKind.f64.format.exponentBits+FloatKind.f64.format.fractionBits=63:=rfl
 rw [e]
 have hx:x < 2 ^63:=by show x < 9223372036854775808; omega
 have h1:=Nat.two_pow_add_eq_or_of_lt hx 1
 have h2:x^^^2 ^63=2 ^63||| x:=by
  refine Nat.eq_of_testBit_eq fun i=> ?_
  rw [Nat.testBit_xor,Nat.testBit_or,Nat.testBit_two_pow]
  by_cases hi:63=i
  ·subst hi
   rw [Nat.testBit_lt_two_pow hx]
   rfl
  ·rw [decide_eq_false hi]
   simp
 rw [h2]
 rw [Nat.mul_one] at h1
 rw [← h1,Nat.add_comm]
theorem m0p (n:Bool) {N D:Nat} (hD:0 < D) (h1:bl N≤1000000) (h2:bl D≤1000000):
  Ev.Sem Tryz.prog J0 112 [vlA n false (ws W64 N) false (ws W64 D),iR 1] [xR (nuW n N D),fR (k0w 53 971 N D (p9 53 (-1074) N D)) (B1 53 971 N D (p9 53 (-1074) N D)) (qT 53 N D (p9 53 (-1074) N D))] :=by
 have v1:val W64 (ws W64 N)=N:=t8 N
 have v2:val W64 (ws W64 D)=D:=t8 D
 have hE:nuE (ws W64 N) (ws W64 D)=p9 53 (-1074) N D:=by unfold nuE; rw [v1,v2]
 have hI:nuI (ws W64 N) (ws W64 D)=B1 53 971 N D (p9 53 (-1074) N D):=by unfold nuI; rw [v1,v2,hE]
 have hO:nuO (ws W64 N) (ws W64 D):=by
  unfold nuO
  rw [v1,v2]
  exact⟨Cn.ws _,Cn.ws _,hD,h1,h2⟩
 have hK:s1e (ws W64 N) (ws W64 D):=by
  unfold s1e
  rw [v1,v2,hE]
  exact b2z hD
 cases hi:B1 53 971 N D (p9 53 (-1074) N D) with
 | false=>
  have hX:nuX (ws W64 N) (ws W64 D)=cF N D:=by
   unfold nuX
   rw [v1,v2,hE]
   exact c2y hD hi
  cases n with
  | false=>
   refine d9 vY 10 _ _ (f2f false (ws W64 N) (ws W64 D) (nuW false N D) _ _ _) ?_
   rw [v1,v2,hE,hI,hX,hi]
   exact⟨rfl,rfl,hK,rfl,rfl,hO,rfl,rfl,rfl,rfl,trivial⟩
  | true=>
   refine d9 vY 10 _ _ (f2h true (ws W64 N) (ws W64 D) (nuW true N D) _ _ _) ?_
   rw [v1,v2,hE,hI,hX,hi,l0b (i1j N D hD)]
   exact⟨rfl,rfl,hK,rfl,rfl,hO,rfl,rfl,rfl,rfl,trivial⟩
 | true=>
  have hM:cF N D=9218868437227405312:=by
   unfold cF
   rw [hi]
   exact if_pos rfl
  cases n with
  | false=>
   have hW:nuW false N D=9218868437227405312:=hM
   refine d9 vY 10 _ _ (a2e false (ws W64 N) (ws W64 D) (nuW false N D) _ _ _) ?_
   rw [v1,v2,hE,hI,hi,hW]
   exact⟨rfl,rfl,hK,rfl,rfl,hO,rfl,rfl,rfl,rfl,trivial⟩
  | true=>
   have hW:nuW true N D=18442240474082181120:=by
    show cF N D+9223372036854775808=_
    rw [hM]
   refine d9 vY 10 _ _ (c2w true (ws W64 N) (ws W64 D) (nuW true N D) _ _ _) ?_
   rw [v1,v2,hE,hI,hi,hW]
   exact⟨rfl,rfl,hK,rfl,rfl,hO,rfl,rfl,rfl,rfl,trivial⟩
end Go.Proofs.YtdgfhijnconaoaaGreatDoor
namespace Go.Proofs
def Tryz.lays143_ren:Go.Shelf.Ren:=⟨fun | 143=>134 | 219=>184 | 217=>186 | 225=>217 | 224=>218 | 267=>219 | 266=>220 | 314=>238 | n=>n,fun | 9=>9 | 3=>3 | 4=>4 | 5=>5 | 46=>110 | 146=>229 | 51=>38 | n=>n,fun | 1=>2 | n=>n⟩
theorem Tryz.lays143:Go.Proofs.Lays.n143 Tryz.prog Tryz.lays143_ren where
 mixed:=by kernel_rfl
 f143:=Tryz.func134.trans (congrArg some (by kernel_rfl))
 f217:=Tryz.func186.trans (congrArg some (by kernel_rfl))
 f219:=Tryz.func184.trans (congrArg some (by kernel_rfl))
 f224:=Tryz.func218.trans (congrArg some (by kernel_rfl))
 f225:=Tryz.func217.trans (congrArg some (by kernel_rfl))
 f266:=Tryz.func220.trans (congrArg some (by kernel_rfl))
 f267:=Tryz.func219.trans (congrArg some (by kernel_rfl))
 f314:=Tryz.func238.trans (congrArg some (by kernel_rfl))
 t3:=Tryz.underlying3
 a3:=Tryz.isAgg3
 z3:=Tryz.sizeOf3
 v3:=Tryz.zeroValue3
 t4:=Tryz.underlying4
 a4:=Tryz.isAgg4
 z4:=Tryz.sizeOf4
 v4:=Tryz.zeroValue4
 t5:=Tryz.underlying5
 a5:=Tryz.isAgg5
 z5:=Tryz.sizeOf5
 v5:=Tryz.zeroValue5
 t9:=Tryz.underlying9
 a9:=Tryz.isAgg9
 z9:=Tryz.sizeOf9
 v9:=Tryz.zeroValue9
 t46:=Tryz.underlying110
 a46:=Tryz.isAgg110
 z46:=Tryz.sizeOf110
 v46:=Tryz.zeroValue110
 t51:=Tryz.underlying38
 a51:=Tryz.isAgg38
 z51:=Tryz.sizeOf38
 v51:=Tryz.zeroValue38
 t146:=Tryz.underlying229
 a146:=Tryz.isAgg229
 z146:=Tryz.sizeOf229
 v146:=Tryz.zeroValue229
 g1:=by kernel_rfl
namespace YtdgfhijnconaoaaGreatDoor
open Go Go.RowKit Ev
theorem sX (s t:List UInt8) (hs:s.length < 4294967281):Pure Tryz.prog J0 134 [.string ⟨⟨s⟩⟩, .string ⟨⟨t⟩⟩] (.int .i64 (Lib.index s t)):=by
 refine⟨rfl,rfl, .inl ⟨enters_of Tryz.func134 (by kernel_rfl) (c:=_) rfl,fun w hI=> ?_⟩⟩
 obtain⟨m,hm⟩:=hI.2.2.2.2.2.1
 exact (Any.strings_Index Tryz.lays143 ⟨⟨s⟩⟩ ⟨⟨t⟩⟩ m w hs hm).mono fun e w' ⟨h1,h2⟩=>⟨h1,h2 ▸ Below.refl _ _⟩
def mC:List Value→Option (Value×List Prop)
 | [.string ⟨⟨s⟩⟩, .string ⟨⟨t⟩⟩] =>match Nat.blt s.length 4294967281 with
  | true=>some (.int .i64 (Lib.index s t),[])
  | false=>none
 | _=>none
theorem c0f (args:List Value) (v:Value) (l:List Prop) (h:mC args=some (v,l)) (_:d5 l):Pure Tryz.prog J0 134 args v:=by
 unfold mC at h
 split at h
 case h_2=>cases h
 split at h
 case h_2=>cases h
 rename_i hl
 cases h
 exact sX _ _ (by simpa [Nat.blt_eq] using hl)
noncomputable def x1d:Tab:=i6 134 mC l0w
theorem c1p:N1 Tryz.prog J0 x1d:=b6 c0f dG
def atS:List (List Value×Value)→List Value→Option (Value×List Prop)
 | [],_=>none
 | (a,v) ::r,args=>match eqL args a with
  | true=>some (v,[])
  | false=>atS r args
theorem I5 {f:FuncId} :∀ {l:List (List Value×Value)},(∀ p∈l,Pure Tryz.prog J0 f p.1 p.2)→∀ (args:List Value) (v:Value) (o:List Prop),atS l args=some (v,o)→d5 o→Pure Tryz.prog J0 f args v
 | [],_,args,v,o,h,_=>by cases h
 | (a,x) ::r,hl,args,v,o,h,ho=>by
  unfold atS at h
  split at h
  ·rename_i he
   cases h
   rw [eqL_spec _ _ he]
   exact hl _ List.mem_cons_self
  ·exact I5 (fun p hp=>hl p (List.mem_cons_of_mem _ hp)) args v o h ho
end YtdgfhijnconaoaaGreatDoor
end Go.Proofs
namespace Go.Proofs.YtdgfhijnconaoaaGreatDoor
open Go Go.RowKit Ev
noncomputable def bKn:Base:=⟨Tryz.prog,J0,false,l0w,C4,2000,H8⟩
theorem k0l:BaseOk bKn:=⟨progOk,dG,m6 _ _,i7⟩
def m7 (c:Int):Int:=if 48≤c∧c≤57 then c-48 else if 97≤c∧c≤102 then c-87 else if 65≤c∧c≤70 then c-55 else 16
def inC (a b c:Int):Bool:=match decide (a≤c) with | true=>decide (c≤b) | false=>false
theorem inB_iff {a b c:Int} :inC a b c=true↔a≤c∧c≤b:=by
 unfold inC
 by_cases h:a≤c <;> simp [h]
theorem inB_not {a b c:Int} :inC a b c=false↔¬(a≤c∧c≤b):=by
 rw [← inB_iff]
 cases inC a b c <;> simp
section
variable (c:Int)
theorem e2v:a6 (bKn.cx 12) [] 200 108 [.int .u8 c] [true] =some (.int .i64 (IntKind.i64.wrap (IntKind.u8.wrap (c-Int.ofNat 48))),[inC 48 57 c=true]):=by kernel_rfl
theorem f2o:a6 (bKn.cx 12) [] 200 108 [.int .u8 c] [false,true] =some (.int .i64 (IntKind.i64.wrap (IntKind.i64.wrap (IntKind.u8.wrap (c-Int.ofNat 97))+Int.ofNat 10)),[inC 97 102 c=true,inC 48 57 c=false]):=by kernel_rfl
theorem g2a:a6 (bKn.cx 12) [] 200 108 [.int .u8 c] [false,false,true] =some (.int .i64 (IntKind.i64.wrap (IntKind.i64.wrap (IntKind.u8.wrap (c-Int.ofNat 65))+Int.ofNat 10)),[inC 65 70 c=true,inC 97 102 c=false,inC 48 57 c=false]):=by kernel_rfl
theorem f2i:a6 (bKn.cx 12) [] 200 108 [.int .u8 c] [false,false,false] =some (.int .i64 16,[inC 65 70 c=false,inC 97 102 c=false,inC 48 57 c=false]):=by kernel_rfl
end
theorem m0f {n:Int} (h0:0≤n) (h1:n < 256):IntKind.u8.wrap n=n:=by
 simp [IntKind.wrap,IntKind.bits,IntKind.signed]
 omega
theorem W3 {n:Int} (h0: -9223372036854775808≤n) (h1:n≤9223372036854775807):IntKind.i64.wrap n=n:=by
 simp [IntKind.wrap,IntKind.bits,IntKind.signed]
 omega
theorem u7 {b:Base} (hb:BaseOk b) {k:Nat} {L:O3} {fuel:Nat} {ds:List Bool} {f:FuncId} {args:List Value} {v:Value} {l:List Prop} (h:a6 (b.cx k) L fuel f args ds=some (v,l)) (hl:d5 l):Ev.Pure b.P b.J f args v:=by
 obtain⟨h1,h2⟩:=Base.cx_ok hb k
 have:=N3 h1 h2 h hl
 cases k with
 | zero=>exact this
 | succ k=>exact this
theorem aA {P:Program} {J:Ev.Inv P} {f:FuncId} {args:List Value} {x y:Int} (h:Ev.Pure P J f args (.int .i64 x)) (e:x=y):Ev.Pure P J f args (.int .i64 y):=e ▸ h
theorem o0f {c:Int} (h0:0≤c) (h1:c < 256):Ev.Pure Tryz.prog J0 108 [.int .u8 c] (.int .i64 (m7 c)):=by
 unfold m7
 by_cases a:48≤c∧c≤57
 ·rw [if_pos a]
  exact aA (u7 k0l (e2v c) ⟨inB_iff.2 a,trivial⟩) (by rw [show Int.ofNat 48=48 from rfl,m0f (by omega) (by omega),W3 (by omega) (by omega)])
 rw [if_neg a]
 by_cases b:97≤c∧c≤102
 ·rw [if_pos b]
  exact aA (u7 k0l (f2o c) ⟨inB_iff.2 b,inB_not.2 a,trivial⟩) (by rw [show Int.ofNat 97=97 from rfl,show Int.ofNat 10=10 from rfl,m0f (by omega) (by omega),W3 (n:=c-97) (by omega) (by omega),W3 (by omega) (by omega)]; omega)
 rw [if_neg b]
 by_cases d:65≤c∧c≤70
 ·rw [if_pos d]
  exact aA (u7 k0l (g2a c) ⟨inB_iff.2 d,inB_not.2 b,inB_not.2 a,trivial⟩) (by rw [show Int.ofNat 65=65 from rfl,show Int.ofNat 10=10 from rfl,m0f (by omega) (by omega),W3 (n:=c-65) (by omega) (by omega),W3 (by omega) (by omega)]; omega)
 rw [if_neg d]
 exact u7 k0l (f2i c) ⟨inB_not.2 d,inB_not.2 b,inB_not.2 a,trivial⟩
theorem worth_range {c:Int} :0≤m7 c∧m7 c≤16:=by
 unfold m7
 split
 ·omega
 split
 ·omega
 split <;> omega
def dT:List Value→Option (Value×List Prop)
 | [.int .u8 c] =>some (.int .i64 (m7 c),[0≤c∧c < 256])
 | _=>none
theorem iO (args:List Value) (v:Value) (l:List Prop) (h:dT args=some (v,l)) (hl:d5 l):Ev.Pure Tryz.prog J0 108 args v:=by
 unfold dT at h
 split at h
 ·cases h; exact o0f hl.1.1 hl.1.2
 ·cases h
noncomputable def v0g:Tab:=i6 108 dT l0w
theorem a0b:N1 Tryz.prog J0 v0g:=b6 iO dG
noncomputable def bNb0:Base:=⟨Tryz.prog,J0,false,v0g,C4,2000,H8⟩
theorem gK:BaseOk bNb0:=⟨progOk,a0b,m6 _ _,i7⟩
noncomputable abbrev d0r:=bNb0.cx 12
noncomputable def cMa:Code:=A2 Tryz.prog 79 0
noncomputable def tMt (t:List UInt8) (a b n p e i:Int):St:=⟨only 67 [(0, .string ⟨⟨t⟩⟩),(1, .int .i64 a),(2, .int .i64 b),(8, .int .i64 e),(9, .int .i64 p),(16, .int .i64 n),(17, .int .i64 i)],J0.tabs,11,[],[],0,none,[],11⟩
noncomputable def tMe (t:List UInt8) (a b p e:Int):St:=⟨only 67 [(0, .string ⟨⟨t⟩⟩),(1, .int .i64 a),(2, .int .i64 b),(8, .int .i64 e),(9, .int .i64 p)],J0.tabs,11,[],[],0,none,[],11⟩
abbrev chI (t:List UInt8) (k:Int):Int:=Int.ofNat (t.getD k.toNat 0).toNat
def e1z (t:List UInt8) (k p:Int):Bool:=match chI t k==46 with | true=>decide (p < 0) | false=>false
def chP (t:List UInt8) (k:Int):Prop:=Int.ofNat 0≤chI t k∧chI t k < Int.ofNat 256
def inP (t:List UInt8) (k:Int):Prop:=Int.ofNat 0≤k∧k.toNat < t.length
section
variable (t:List UInt8) (a b n p e i:Int)
theorem u1r (hl:d5 [decide (m7 (chI t (IntKind.i64.wrap (a+i))) < b)=true,chP t (IntKind.i64.wrap (a+i)),inP t (IntKind.i64.wrap (a+i)),decide (i < n)=true]):
  o9 d0r cMa (tMt t a b n p e i) .normal (tMt t a b n p (IntKind.i64.wrap (IntKind.i64.wrap (a+i)+1)) (IntKind.i64.wrap (i+1))):=
 b7 (Base.cx_ok gK 12).1 progOk.mixed [] 200 [true,true] [] (by kernel_rfl) hl (by kernel_rfl) (by kernel_rfl)
theorem w1d (hl:d5 [e1z t (IntKind.i64.wrap (a+i)) p=true,decide (m7 (chI t (IntKind.i64.wrap (a+i))) < b)=false,chP t (IntKind.i64.wrap (a+i)),inP t (IntKind.i64.wrap (a+i)),decide (i < n)=true]):
  o9 d0r cMa (tMt t a b n p e i) .normal (tMt t a b n (IntKind.i64.wrap (a+i)) (IntKind.i64.wrap (IntKind.i64.wrap (a+i)+1)) (IntKind.i64.wrap (i+1))):=
 b7 (Base.cx_ok gK 12).1 progOk.mixed [] 200 [true,false,true] [] (by kernel_rfl) hl (by kernel_rfl) (by kernel_rfl)
theorem x1g (hl:d5 [e1z t (IntKind.i64.wrap (a+i)) p=false,decide (m7 (chI t (IntKind.i64.wrap (a+i))) < b)=false,chP t (IntKind.i64.wrap (a+i)),inP t (IntKind.i64.wrap (a+i)),decide (i < n)=true]):
  o9 d0r cMa (tMt t a b n p e i) (.exit 0) (tMe t a b p e):=
 b7 (Base.cx_ok gK 12).1 progOk.mixed [] 200 [true,false,false] [] (by kernel_rfl) hl (by kernel_rfl) (by kernel_rfl)
theorem t1h (hl:d5 [decide (i < n)=false]):o9 d0r cMa (tMt t a b n p e i) (.exit 0) (tMe t a b p e):=
 b7 (Base.cx_ok gK 12).1 progOk.mixed [] 200 [false] [] (by kernel_rfl) hl (by kernel_rfl) (by kernel_rfl)
theorem d2f:a6 d0r [J5 (.exit 0) (fun _=>tMe t a b p e)] 200 79 [.string ⟨⟨t⟩⟩, .int .i64 a, .int .i64 b] [true] =some (.tuple ⟨[.string ⟨⟨List.drop a.toNat (List.take e.toNat t)⟩⟩, .int .i64 0, .int .i64 e]⟩,
 [(Int.ofNat 0≤e∧e≤Int.ofNat t.length)∧Int.ofNat 0≤a∧a≤e,decide (p < Int.ofNat 0)=true,a7 d0r cMa (o8 d0r 200 79 [.string ⟨⟨t⟩⟩, .int .i64 a, .int .i64 b] J0.tabs Tryz.prog.globals.size [true]) (.exit 0) (tMe t a b p e)]):=by kernel_rfl
theorem c2g:a6 d0r [J5 (.exit 0) (fun _=>tMe t a b p e)] 200 79 [.string ⟨⟨t⟩⟩, .int .i64 a, .int .i64 b] [false] =some (.tuple ⟨[.string ⟨⟨List.drop a.toNat (List.take p.toNat t)++List.drop (IntKind.i64.wrap (p+Int.ofNat 1)).toNat (List.take e.toNat t)⟩⟩, .int .i64 (IntKind.i64.wrap (IntKind.i64.wrap (e-p)-Int.ofNat 1)), .int .i64 e]⟩,
 [(List.drop a.toNat (List.take p.toNat t)).length+(List.drop (IntKind.i64.wrap (p+Int.ofNat 1)).toNat (List.take e.toNat t)).length≤9223372036854775807,(Int.ofNat 0≤e∧e≤Int.ofNat t.length)∧Int.ofNat 0≤IntKind.i64.wrap (p+Int.ofNat 1)∧IntKind.i64.wrap (p+Int.ofNat 1)≤e,(Int.ofNat 0≤p∧p≤Int.ofNat t.length)∧Int.ofNat 0≤a∧a≤p,decide (p < Int.ofNat 0)=false,
   a7 d0r cMa (o8 d0r 200 79 [.string ⟨⟨t⟩⟩, .int .i64 a, .int .i64 b] J0.tabs Tryz.prog.globals.size [false]) (.exit 0) (tMe t a b p e)]):=by kernel_rfl
theorem q1l (d:Bool) {x:AX} {s':St} (h:a7 d0r cMa (tMt t a b (IntKind.i64.wrap (Int.ofNat t.length-a)) (-1) a 0) x s'):a7 d0r cMa (o8 d0r 200 79 [.string ⟨⟨t⟩⟩, .int .i64 a, .int .i64 b] J0.tabs Tryz.prog.globals.size [d]) x s':=
 f9 h [] (by kernel_rfl) (by kernel_rfl) (by kernel_rfl)
end
def jU (t:List UInt8) (b:Int):Nat→Nat→Int→Int×Nat
 | 0,k,p=>(p,k)
 | f+1,k,p=>if m7 (chI t k) < b then jU t b f (k+1) p else if e1z t k p=true then jU t b f (k+1) k else (p,k)
theorem cL (t:List UInt8) (b:Int):∀ (f k:Nat) (p:Int),k+f=t.length→p < (k:Int)→k≤(jU t b f k p).2∧(jU t b f k p).2≤t.length∧((jU t b f k p).1=p∨(k:Int)≤(jU t b f k p).1)∧(jU t b f k p).1 < ((jU t b f k p).2:Int)
 | 0,k,p,h,hp=>⟨Nat.le_refl _,by show k≤_; omega, .inl rfl,hp⟩
 | f+1,k,p,h,hp=>by
  unfold jU
  split
  ·obtain⟨h1,h2,h3,h4⟩:=cL t b f (k+1) p (by omega) (by omega)
   exact⟨by omega,h2,h3.imp id (fun h=>by omega),h4⟩
  ·split
   ·obtain⟨h1,h2,h3,h4⟩:=cL t b f (k+1) (k:Int) (by omega) (by omega)
    exact⟨by omega,h2, .inr (by rcases h3 with h3 | h3 <;> omega),h4⟩
   ·exact⟨Nat.le_refl _,by show k≤_; omega, .inl rfl,hp⟩
theorem wr {n:Int} (h0: -9223372036854775808≤n) (h1:n≤9223372036854775807):IntKind.i64.wrap n=n:=W3 h0 h1
theorem q1i {t:List UInt8} {a:Nat} {b:Int} (hl:t.length < 9223372036854775807):∀ (f k:Nat) (p:Int),a≤k→k+f=t.length→
  a7 d0r cMa (tMt t a b ((t.length:Int)-a) p k ((k:Int)-a)) (.exit 0) (tMe t a b (jU t b f k p).1 ((jU t b f k p).2:Int)):=by
 intro f k p hak hkf
 obtain⟨r,hr⟩:∃ r,jU t b f k p=r:=⟨_,rfl⟩
 rw [hr]
 refine A8 (ι:=Nat×Int) (fun x=>tMt t a b ((t.length:Int)-a) x.2 x.1 ((x.1:Int)-a)) (fun x=>t.length-x.1) (fun x=>a≤x.1∧x.1≤t.length∧jU t b (t.length-x.1) x.1 x.2=r) (by intro e; cases e) (fun x hx=> ?_) (k,p) ⟨hak,by show k≤_; omega,by show jU t b (t.length-k) k p=r; rw [show t.length-k=f by omega]; exact hr⟩
 obtain⟨k',p'⟩:=x
 obtain⟨h1,h2,h3⟩:=hx
 simp only at h1 h2 h3 ⊢
 have ha:IntKind.i64.wrap ((a:Int)+((k':Int)-a))=(k':Int):=by rw [wr (by omega) (by omega)]; omega
 by_cases hlt:k' < t.length
 ·have hc:chP t (k':Int):=⟨Int.natCast_nonneg _,Int.ofNat_lt.2 (UInt8.toNat_lt _)⟩
  have hi:inP t (k':Int):=⟨Int.natCast_nonneg _,by rw [Int.toNat_natCast]; exact hlt⟩
  have hd:decide (((k':Int)-a) < ((t.length:Int)-a))=true:=decide_eq_true (by omega)
  have e1:IntKind.i64.wrap ((k':Int)+1)=((k'+1:Nat):Int):=by rw [wr (by omega) (by omega)]; omega
  have e2:IntKind.i64.wrap ((k':Int)-a+1)=((k'+1:Nat):Int)-a:=by rw [wr (by omega) (by omega)]; omega
  obtain⟨g,hg⟩:∃ g,t.length-k'=g+1:=⟨t.length-k'-1,by omega⟩
  have hg':t.length- (k'+1)=g:=by omega
  rw [hg] at h3
  unfold jU at h3
  by_cases hw:m7 (chI t (k':Int)) < b
  ·rw [if_pos hw] at h3
   refine .inl ⟨(k'+1,p'),⟨by omega,by omega,by rw [hg']; exact h3⟩,by show t.length- (k'+1) < t.length-k'; omega,?_⟩
   have:=u1r t a b ((t.length:Int)-a) p' k' ((k':Int)-a) (by rw [ha]; exact⟨decide_eq_true hw,hc,hi,hd,trivial⟩)
   rw [ha,e1,e2] at this
   exact this
  ·rw [if_neg hw] at h3
   by_cases hdot:e1z t (k':Int) p'=true
   ·rw [if_pos hdot] at h3
    refine .inl ⟨(k'+1,(k':Int)),⟨by omega,by omega,by rw [hg']; exact h3⟩,by show t.length- (k'+1) < t.length-k'; omega,?_⟩
    have:=w1d t a b ((t.length:Int)-a) p' k' ((k':Int)-a) (by rw [ha]; exact⟨hdot,decide_eq_false hw,hc,hi,hd,trivial⟩)
    rw [ha,e1,e2] at this
    exact this
   ·rw [if_neg hdot] at h3
    refine .inr ?_
    rw [← h3]
    exact x1g t a b ((t.length:Int)-a) p' k' ((k':Int)-a) (by rw [ha]; exact⟨by simpa using hdot,decide_eq_false hw,hc,hi,hd,trivial⟩)
 ·obtain rfl:k'=t.length:=by omega
  rw [Nat.sub_self] at h3
  refine .inr ?_
  rw [← h3]
  exact t1h t a b ((t.length:Int)-a) p' _ _ ⟨decide_eq_false (by omega),trivial⟩
def maP (t:List UInt8) (a:Nat) (b:Int):Int:=(jU t b (t.length-a) a (-1)).1
def maE (t:List UInt8) (a:Nat) (b:Int):Nat:=(jU t b (t.length-a) a (-1)).2
def maS (t:List UInt8) (a:Nat) (b:Int):List UInt8:=if maP t a b < 0 then (t.take (maE t a b)).drop a else (t.take (maP t a b).toNat).drop a++(t.take (maE t a b)).drop ((maP t a b).toNat+1)
def maB (t:List UInt8) (a:Nat) (b:Int):Int:=if maP t a b < 0 then 0 else (maE t a b:Int)-maP t a b-1
theorem yM {t:List UInt8} {a:Nat} {b:Int} (ha:a≤t.length):a≤maE t a b∧maE t a b≤t.length∧(maP t a b= -1∨(a:Int)≤maP t a b)∧maP t a b < (maE t a b:Int):=by
 unfold maE maP
 exact cL t b (t.length-a) a (-1) (by omega) (by omega)
theorem vP {t:List UInt8} {a:Nat} {b:Int} (hl:t.length < 9223372036854775807) (ha:a≤t.length):
  Ev.Pure Tryz.prog J0 79 [.string ⟨⟨t⟩⟩, .int .i64 a, .int .i64 b] (.tuple ⟨[.string ⟨⟨maS t a b⟩⟩, .int .i64 (maB t a b), .int .i64 (maE t a b)]⟩):=by
 obtain⟨r1,r2,r3,r4⟩:=yM (b:=b) ha
 have hloop:=q1i (a:=a) (b:=b) hl (t.length-a) a (-1) (Nat.le_refl _) (by omega)
 rw [Int.sub_self] at hloop
 have hn:IntKind.i64.wrap (Int.ofNat t.length- (a:Int))=(t.length:Int)-a:=by
  show IntKind.i64.wrap ((t.length:Int)-a)=_
  rw [wr (by omega) (by omega)]
 have hin:∀ d,a7 d0r cMa (o8 d0r 200 79 [.string ⟨⟨t⟩⟩, .int .i64 a, .int .i64 b] J0.tabs Tryz.prog.globals.size [d]) (.exit 0) (tMe t a b (maP t a b) (maE t a b:Int)):=fun d=>q1l t a b d (by rw [hn]; exact hloop)
 have hte:(Int.ofNat 0≤(maE t a b:Int)∧(maE t a b:Int)≤Int.ofNat t.length):=⟨Int.natCast_nonneg _,Int.ofNat_le.2 r2⟩
 unfold maS maB
 by_cases hp:maP t a b < 0
 ·rw [if_pos hp,if_pos hp]
  have:Ev.Pure Tryz.prog J0 _ _ _:=u7 gK (d2f t a b (maP t a b) (maE t a b:Int)) ⟨⟨hte,Int.natCast_nonneg _,Int.ofNat_le.2 r1⟩,decide_eq_true hp,hin true,trivial⟩
  simpa using this
 ·rw [if_neg hp,if_neg hp]
  have hpa:(a:Int)≤maP t a b:=by rcases r3 with h | h <;> omega
  obtain⟨q,hq⟩:=Int.eq_ofNat_of_zero_le (show 0≤maP t a b by omega)
  have e1:IntKind.i64.wrap ((q:Int)+Int.ofNat 1)=((q+1:Nat):Int):=by
   show IntKind.i64.wrap ((q:Int)+1)=_
   rw [wr (by omega) (by omega)]
   omega
  have e2:IntKind.i64.wrap (IntKind.i64.wrap ((maE t a b:Int)- (q:Int))-Int.ofNat 1)=(maE t a b:Int)-q-1:=by
   show IntKind.i64.wrap (IntKind.i64.wrap ((maE t a b:Int)- (q:Int))-1)=_
   rw [wr (n:=(maE t a b:Int)- (q:Int)) (by omega) (by omega),wr (by omega) (by omega)]
  have:Ev.Pure Tryz.prog J0 _ _ _:=u7 gK (c2g t a b (maP t a b) (maE t a b:Int)) (by
   rw [hq,e1]
   refine⟨?_,⟨hte,Int.natCast_nonneg _,by omega⟩,⟨⟨Int.natCast_nonneg _,by show (q:Int)≤(t.length:Int); omega⟩,Int.natCast_nonneg _,by omega⟩,decide_eq_false (by show ¬((q:Int) < 0); omega),by rw [← hq]; exact hin false,trivial⟩
   simp only [List.length_drop,List.length_take,Int.toNat_natCast]
   omega)
  rw [hq,e1,e2] at this
  rw [hq]
  simpa using this
def gF:List Value→Option (Value×List Prop)
 | [.string ⟨⟨s⟩⟩, .string ⟨⟨t⟩⟩] =>some (.int .i64 (Lib.index s t),[s.length < 4294967281])
 | _=>none
theorem vG (args:List Value) (v:Value) (l:List Prop) (h:gF args=some (v,l)) (hl:d5 l):Ev.Pure Tryz.prog J0 134 args v:=by
 unfold gF at h
 split at h
 ·cases h; exact sX _ _ hl.1
 ·cases h
noncomputable def bIx:Base:=⟨Tryz.prog,J0,false,i6 134 gF l0w,C4,2000,H8⟩
theorem t1i:BaseOk bIx:=⟨progOk,b6 vG dG,m6 _ _,i7⟩
def b2q (L s:List UInt8):Bool:=decide (Int.ofNat 0≤Lib.index L s)
theorem l1g (L s:List UInt8):a6 (bIx.cx 12) [] 200 132 [.string ⟨⟨L⟩⟩, .string ⟨⟨s⟩⟩] [] =some (.bool (b2q L s),[L.length < 4294967281]):=by kernel_rfl
def f0b:List Value→Option (Value×List Prop)
 | [.string ⟨⟨L⟩⟩, .string ⟨⟨s⟩⟩] =>some (.bool (b2q L s),[L.length < 4294967281])
 | _=>none
theorem p0h (args:List Value) (v:Value) (l:List Prop) (h:f0b args=some (v,l)) (hl:d5 l):Ev.Pure Tryz.prog J0 132 args v:=by
 unfold f0b at h
 split at h
 ·cases h; exact u7 t1i (l1g _ _) hl
 ·cases h
noncomputable def v0n:Tab:=i6 132 f0b v0g
theorem a0o:N1 Tryz.prog J0 v0n:=b6 p0h a0b
noncomputable def bNb1:Base:=⟨Tryz.prog,J0,false,v0n,C4,2000,H8⟩
theorem X4:BaseOk bNb1:=⟨progOk,a0o,m6 _ _,i7⟩
noncomputable abbrev fE:=bNb1.cx 12
noncomputable def cEx:Code:=A2 Tryz.prog 80 0
noncomputable def tEx (t:List UInt8) (a:Int) (g:Bool) (n f i:Int):St:=⟨only 82 [(0, .string ⟨⟨t⟩⟩),(1, .int .i64 a),(8, .int .i64 i),(9, .bool g),(10, .int .i64 n),(11, .int .i64 f)],J0.tabs,11,[],[],0,none,[],11⟩
def c2i (t:List UInt8) (a:Int):List UInt8:=List.drop a.toNat (List.take (IntKind.i64.wrap (a+1)).toNat t)
def geB (t:List UInt8) (a:Int):Bool:=decide (a≥(t.length:Int))
def ltE (t:List UInt8) (k:Int):Bool:=decide (k < (t.length:Int))
def hdB (t L:List UInt8) (a:Int):Bool:=match geB t a with | true=>true | false=> !b2q L (c2i t a)
def hdP (t:List UInt8) (a:Int):Prop:=A0 [(4,geB t a)] [(4,false)] →(0≤IntKind.i64.wrap (a+1)∧IntKind.i64.wrap (a+1)≤(t.length:Int))∧0≤a∧a≤IntKind.i64.wrap (a+1)
def hdL (t L:List UInt8) (a:Int):Prop:=A0 [(4,geB t a)] [(4,false)] →L.length < 4294967281
def sgB (t:List UInt8) (k:Int):Bool:=match ltE t k with | true=>(match chI t k==43 with | true=>true | false=>chI t k==45) | false=>false
def a2s (t:List UInt8) (k:Int):Prop:=A0 [(9,chI t k==43),(4,ltE t k)] [(9,false),(4,true)] →0≤k∧k.toNat < t.length
def t1j (t:List UInt8) (k:Int):Prop:=A0 [(4,ltE t k)] [(4,true)] →0≤k∧k.toNat < t.length
def exB (t:List UInt8) (i:Int):Bool:=match ltE t i with | true=>decide (m7 (chI t i) < 10) | false=>false
def z1q (t:List UInt8) (i:Int):Prop:=A0 [(4,ltE t i)] [(4,true)] →0≤chI t i∧chI t i < 256
def nxW (n w:Int):Int:=if IntKind.i64.wrap (IntKind.i64.wrap (n*Int.ofNat 10)+w) < Int.ofNat 1073741824 then IntKind.i64.wrap (IntKind.i64.wrap (n*Int.ofNat 10)+w) else Int.ofNat 1073741824
section
variable (t L:List UInt8) (a:Nat) (g:Bool) (n f i:Int)
theorem c2e (hl:d5 [chP t i,inP t i,exB t i=true,z1q t i,t1j t i]):o9 fE cEx (tEx t a g n f i) .normal (tEx t a g (nxW n (m7 (chI t i))) f (IntKind.i64.wrap (i+1))):=
 b7 (Base.cx_ok X4 12).1 progOk.mixed [] 200 [true] [] (by kernel_rfl) hl (by kernel_rfl) (by kernel_rfl)
theorem i1y (hl:d5 [exB t i=false,z1q t i,t1j t i]):o9 fE cEx (tEx t a g n f i) (.exit 0) (tEx t a g n f i):=
 b7 (Base.cx_ok X4 12).1 progOk.mixed [] 200 [false] [] (by kernel_rfl) hl (by kernel_rfl) (by kernel_rfl)
theorem q1d:a6 fE [] 200 80 [.string ⟨⟨t⟩⟩, .int .i64 a, .string ⟨⟨L⟩⟩] [true] =some (.tuple ⟨[.int .i64 0, .int .i64 a]⟩,[hdB t L a=true,hdL t L a,hdP t a]):=by kernel_rfl
def eQ0 (t L:List UInt8) (a:Int):List Prop:=[sgB t (IntKind.i64.wrap (a+1))=false,a2s t (IntKind.i64.wrap (a+1)),t1j t (IntKind.i64.wrap (a+1)),hdB t L a=false,hdL t L a,hdP t a]
def eQ1 (t L:List UInt8) (a:Int):List Prop:=[inP t (IntKind.i64.wrap (a+1)),sgB t (IntKind.i64.wrap (a+1))=true,a2s t (IntKind.i64.wrap (a+1)),t1j t (IntKind.i64.wrap (a+1)),hdB t L a=false,hdL t L a,hdP t a]
theorem b2e:a6 fE [J5 (.exit 0) (fun _=>tEx t a g n f i)] 200 80 [.string ⟨⟨t⟩⟩, .int .i64 a, .string ⟨⟨L⟩⟩] [false,false,true] =some (.tuple ⟨[.int .i64 0, .int .i64 a]⟩,((i==f)=true) ::a7 fE cEx (o8 fE 200 80 [.string ⟨⟨t⟩⟩, .int .i64 a, .string ⟨⟨L⟩⟩] J0.tabs Tryz.prog.globals.size [false,false,true]) (.exit 0) (tEx t a g n f i) ::eQ0 t L a):=by kernel_rfl
theorem a2t:a6 fE [J5 (.exit 0) (fun _=>tEx t a g n f i)] 200 80 [.string ⟨⟨t⟩⟩, .int .i64 a, .string ⟨⟨L⟩⟩] [false,false,false,false] =some (.tuple ⟨[.int .i64 n, .int .i64 i]⟩,(g=false) ::((i==f)=false) ::a7 fE cEx (o8 fE 200 80 [.string ⟨⟨t⟩⟩, .int .i64 a, .string ⟨⟨L⟩⟩] J0.tabs Tryz.prog.globals.size [false,false,false,false]) (.exit 0) (tEx t a g n f i) ::eQ0 t L a):=by kernel_rfl
theorem z1w:a6 fE [J5 (.exit 0) (fun _=>tEx t a g n f i)] 200 80 [.string ⟨⟨t⟩⟩, .int .i64 a, .string ⟨⟨L⟩⟩] [false,true,true] =some (.tuple ⟨[.int .i64 0, .int .i64 a]⟩,((i==f)=true) ::a7 fE cEx (o8 fE 200 80 [.string ⟨⟨t⟩⟩, .int .i64 a, .string ⟨⟨L⟩⟩] J0.tabs Tryz.prog.globals.size [false,true,true]) (.exit 0) (tEx t a g n f i) ::eQ1 t L a):=by kernel_rfl
theorem b2v:a6 fE [J5 (.exit 0) (fun _=>tEx t a g n f i)] 200 80 [.string ⟨⟨t⟩⟩, .int .i64 a, .string ⟨⟨L⟩⟩] [false,true,false,true] =some (.tuple ⟨[.int .i64 (IntKind.i64.wrap (Int.ofNat 0-n)), .int .i64 i]⟩,(g=true) ::((i==f)=false) ::a7 fE cEx (o8 fE 200 80 [.string ⟨⟨t⟩⟩, .int .i64 a, .string ⟨⟨L⟩⟩] J0.tabs Tryz.prog.globals.size [false,true,false,true]) (.exit 0) (tEx t a g n f i) ::eQ1 t L a):=by kernel_rfl
theorem b2y:a6 fE [J5 (.exit 0) (fun _=>tEx t a g n f i)] 200 80 [.string ⟨⟨t⟩⟩, .int .i64 a, .string ⟨⟨L⟩⟩] [false,true,false,false] =some (.tuple ⟨[.int .i64 n, .int .i64 i]⟩,(g=false) ::((i==f)=false) ::a7 fE cEx (o8 fE 200 80 [.string ⟨⟨t⟩⟩, .int .i64 a, .string ⟨⟨L⟩⟩] J0.tabs Tryz.prog.globals.size [false,true,false,false]) (.exit 0) (tEx t a g n f i) ::eQ1 t L a):=by kernel_rfl
theorem f1k (ds:List Bool) {x:AX} {s':St} (h:a7 fE cEx (tEx t a false 0 (IntKind.i64.wrap ((a:Int)+1)) (IntKind.i64.wrap ((a:Int)+1))) x s'):a7 fE cEx (o8 fE 200 80 [.string ⟨⟨t⟩⟩, .int .i64 a, .string ⟨⟨L⟩⟩] J0.tabs Tryz.prog.globals.size (false ::false ::ds)) x s':=
 f9 h [] (by kernel_rfl) (by kernel_rfl) (by kernel_rfl)
theorem h1e (ds:List Bool) {x:AX} {s':St} (h:a7 fE cEx (tEx t a (chI t (IntKind.i64.wrap ((a:Int)+1))==45) 0 (IntKind.i64.wrap (IntKind.i64.wrap ((a:Int)+1)+1)) (IntKind.i64.wrap (IntKind.i64.wrap ((a:Int)+1)+1))) x s'):a7 fE cEx (o8 fE 200 80 [.string ⟨⟨t⟩⟩, .int .i64 a, .string ⟨⟨L⟩⟩] J0.tabs Tryz.prog.globals.size (false ::true ::ds)) x s':=
 f9 h [] (by kernel_rfl) (by kernel_rfl) (by kernel_rfl)
end
def nxP (n w:Int):Int:=if n*10+w < 1073741824 then n*10+w else 1073741824
theorem c2x {n w:Int} (h0:0≤n) (h1:n≤1073741824) (w0:0≤w) (w1:w≤16):nxW n w=nxP n w:=by
 unfold nxW nxP
 rw [show (Int.ofNat 10:Int)=10 from rfl,show (Int.ofNat 1073741824:Int)=1073741824 from rfl,wr (n:=n*10) (by omega) (by omega),wr (by omega) (by omega)]
theorem j0s {n w:Int} (h0:0≤n) (w0:0≤w):0≤nxP n w∧nxP n w≤1073741824:=by
 unfold nxP
 split <;> omega
def d0u (t:List UInt8):Nat→Nat→Int→Int×Nat
 | 0,k,n=>(n,k)
 | f+1,k,n=>if m7 (chI t k) < 10 then d0u t f (k+1) (nxP n (m7 (chI t k))) else (n,k)
theorem cQ (t:List UInt8):∀ (f k:Nat) (n:Int),k+f=t.length→0≤n→n≤1073741824→k≤(d0u t f k n).2∧(d0u t f k n).2≤t.length∧0≤(d0u t f k n).1∧(d0u t f k n).1≤1073741824
 | 0,k,n,h,h0,h1=>⟨Nat.le_refl _,by show k≤_; omega,h0,h1⟩
 | f+1,k,n,h,h0,h1=>by
  unfold d0u
  split
  ·have hr:=j0s (w:=m7 (chI t k)) h0 worth_range.1
   obtain⟨a,b,c,d⟩:=cQ t f (k+1) _ (by omega) hr.1 hr.2
   exact⟨by omega,b,c,d⟩
  ·exact⟨Nat.le_refl _,by show k≤_; omega,h0,h1⟩
theorem i1l (t:List UInt8) (k:Int):chP t k:=⟨Int.natCast_nonneg _,Int.ofNat_lt.2 (UInt8.toNat_lt _)⟩
theorem g0o (t:List UInt8) (i:Int):z1q t i:=fun _=>⟨Int.natCast_nonneg _,Int.ofNat_lt.2 (UInt8.toNat_lt _)⟩
theorem oO (t:List UInt8) (i:Nat):t1j t (i:Int):=fun hc=>⟨Int.natCast_nonneg _,by
 have:(i:Int) < (t.length:Int):=by simpa [A0,kvP,ltE] using hc
 rw [Int.toNat_natCast]
 omega⟩
theorem v0o (t:List UInt8) (i:Nat):a2s t (i:Int):=fun hc=>⟨Int.natCast_nonneg _,by
 have:(i:Int) < (t.length:Int):=by
  have h:=hc.2
  simpa [A0,kvP,ltE] using h
 rw [Int.toNat_natCast]
 omega⟩
theorem x0d {t:List UInt8} {a:Nat} {g:Bool} {f0:Int} (hl:t.length < 9223372036854775807):∀ (f k:Nat) (n:Int),k+f=t.length→0≤n→n≤1073741824→
  a7 fE cEx (tEx t a g n f0 k) (.exit 0) (tEx t a g (d0u t f k n).1 f0 ((d0u t f k n).2:Int)):=by
 intro f k n hkf hn0 hn1
 obtain⟨r,hr⟩:∃ r,d0u t f k n=r:=⟨_,rfl⟩
 rw [hr]
 refine A8 (ι:=Nat×Int) (fun x=>tEx t a g x.2 f0 x.1) (fun x=>t.length-x.1) (fun x=>x.1≤t.length∧(0≤x.2∧x.2≤1073741824)∧d0u t (t.length-x.1) x.1 x.2=r) (by intro e; cases e) (fun x hx=> ?_) (k,n) ⟨by show k≤_; omega,⟨hn0,hn1⟩,by show d0u t (t.length-k) k n=r; rw [show t.length-k=f by omega]; exact hr⟩
 obtain⟨k',n'⟩:=x
 obtain⟨h1,h2,h3⟩:=hx
 simp only at h1 h2 h3 ⊢
 by_cases hlt:k' < t.length
 ·have hb:ltE t (k':Int)=true:=decide_eq_true (by omega)
  have hi:inP t (k':Int):=⟨Int.natCast_nonneg _,by rw [Int.toNat_natCast]; exact hlt⟩
  have e1:IntKind.i64.wrap ((k':Int)+1)=((k'+1:Nat):Int):=by rw [wr (by omega) (by omega)]; omega
  obtain⟨q,hq⟩:∃ q,t.length-k'=q+1:=⟨t.length-k'-1,by omega⟩
  rw [hq] at h3
  unfold d0u at h3
  by_cases hw:m7 (chI t (k':Int)) < 10
  ·rw [if_pos hw] at h3
   have hw0:=worth_range (c:=chI t (k':Int))
   have hnr:=j0s (w:=m7 (chI t (k':Int))) h2.1 hw0.1
   refine .inl ⟨(k'+1,nxP n' (m7 (chI t (k':Int)))),⟨by show k'+1≤_; omega,hnr,by show d0u t (t.length- (k'+1)) (k'+1) _=r; rw [show t.length- (k'+1)=q by omega]; exact h3⟩,by show t.length- (k'+1) < t.length-k'; omega,?_⟩
   have:=c2e t a g n' f0 (k':Int) ⟨i1l _ _,hi,by unfold exB; rw [hb]; exact decide_eq_true hw,g0o _ _,oO _ _,trivial⟩
   rw [e1,c2x h2.1 h2.2 hw0.1 hw0.2] at this
   exact this
  ·rw [if_neg hw] at h3
   refine .inr ?_
   rw [← h3]
   exact i1y t a g n' f0 (k':Int) ⟨by unfold exB; rw [hb]; exact decide_eq_false hw,g0o _ _,oO _ _,trivial⟩
 ·obtain rfl:k'=t.length:=by omega
  rw [Nat.sub_self] at h3
  refine .inr ?_
  rw [← h3]
  exact i1y t a g n' f0 _ ⟨by unfold exB ltE; rw [decide_eq_false (Int.lt_irrefl _)],g0o _ _,oO _ _,trivial⟩
def exK (t:List UInt8) (a:Nat):Nat:=if sgB t ((a+1:Nat):Int)=true then a+2 else a+1
def exR (t:List UInt8) (a:Nat):Int×Nat:=d0u t (t.length-exK t a) (exK t a) 0
def exN (t:List UInt8) (a:Nat):Bool:=sgB t ((a+1:Nat):Int) && (chI t ((a+1:Nat):Int)==45)
def exV (t L:List UInt8) (a:Nat):Int:=if hdB t L a=true then 0 else if (exR t a).2=exK t a then 0 else if exN t a=true then -(exR t a).1 else (exR t a).1
def exE (t L:List UInt8) (a:Nat):Nat:=if hdB t L a=true then a else if (exR t a).2=exK t a then a else (exR t a).2
theorem v1w {t:List UInt8} {a:Nat} (hl:t.length < 9223372036854775807):hdP t (a:Int):=fun hc=>by
 have:(a:Int) < (t.length:Int):=by simpa [A0,kvP,geB] using hc
 rw [wr (by omega) (by omega)]
 omega
theorem uW {t L:List UInt8} {a:Nat} (hl:t.length < 9223372036854775807) (hL:L.length < 4294967281):
  Ev.Pure Tryz.prog J0 80 [.string ⟨⟨t⟩⟩, .int .i64 a, .string ⟨⟨L⟩⟩] (.tuple ⟨[.int .i64 (exV t L a), .int .i64 (exE t L a)]⟩):=by
 have hq:hdL t L (a:Int):=fun _=>hL
 have hp:=v1w (a:=a) hl
 unfold exV exE
 cases hh:hdB t L a with
 | true=>
  simp only [if_true]
  exact u7 X4 (q1d t L a) ⟨hh,hq,hp,trivial⟩
 | false=>
  simp only [Bool.false_eq_true,if_false]
  have hlt:a < t.length:=by
   unfold hdB at hh
   cases hg:geB t (a:Int) with
   | true=>rw [hg] at hh; cases hh
   | false=>
    have:¬((a:Int)≥(t.length:Int)):=of_decide_eq_false hg
    omega
  have e1:IntKind.i64.wrap ((a:Int)+1)=((a+1:Nat):Int):=by rw [wr (by omega) (by omega)]; omega
  cases hs:sgB t ((a+1:Nat):Int) with
  | false=>
   have hK:exK t a=a+1:=by unfold exK; rw [hs]; rfl
   have hN:exN t a=false:=by unfold exN; rw [hs]; rfl
   obtain⟨r1,r2,r3,r4⟩:=cQ t (t.length-exK t a) (exK t a) 0 (by omega) (by decide) (by decide)
   have hloop:a7 fE cEx (tEx t a false 0 ((a+1:Nat):Int) ((a+1:Nat):Int)) (.exit 0) (tEx t a false (exR t a).1 ((a+1:Nat):Int) ((exR t a).2:Int)):=by
    have:=x0d (a:=a) (g:=false) (f0:=((a+1:Nat):Int)) hl (t.length-exK t a) (exK t a) 0 (by omega) (by decide) (by decide)
    rw [hK] at this
    unfold exR
    rw [hK]
    exact this
   have hi:=fun ds=>f1k t L a ds (by rw [e1]; exact hloop)
   have hq0:d5 (eQ0 t L a):=by
    unfold eQ0
    rw [e1]
    exact⟨hs,v0o _ _,oO _ _,hh,hq,hp,trivial⟩
   rw [hN]
   simp only [Bool.false_eq_true,if_false]
   by_cases he:(exR t a).2=exK t a
   ·rw [if_pos he,if_pos he]
    rw [hK] at he
    exact u7 X4 (b2e t L a false (exR t a).1 ((a+1:Nat):Int) ((exR t a).2:Int)) ⟨by rw [he]; exact beq_self_eq_true _,hi [true],hq0⟩
   ·rw [if_neg he,if_neg he]
    rw [hK] at he
    exact u7 X4 (a2t t L a false (exR t a).1 ((a+1:Nat):Int) ((exR t a).2:Int)) ⟨rfl,beq_false_of_ne (by omega),hi [false,false],hq0⟩
  | true=>
   have hk:a+1 < t.length:=by
    unfold sgB at hs
    cases hg:ltE t ((a+1:Nat):Int) with
    | false=>rw [hg] at hs; cases hs
    | true=>
     have:((a+1:Nat):Int) < (t.length:Int):=of_decide_eq_true hg
     omega
   have hK:exK t a=a+2:=by unfold exK; rw [hs]; rfl
   have hN:exN t a=(chI t ((a+1:Nat):Int)==45):=by unfold exN; rw [hs]; rfl
   have e2:IntKind.i64.wrap (((a+1:Nat):Int)+1)=((a+2:Nat):Int):=by rw [wr (by omega) (by omega)]; omega
   obtain⟨r1,r2,r3,r4⟩:=cQ t (t.length-exK t a) (exK t a) 0 (by omega) (by decide) (by decide)
   have hloop:a7 fE cEx (tEx t a (exN t a) 0 ((a+2:Nat):Int) ((a+2:Nat):Int)) (.exit 0) (tEx t a (exN t a) (exR t a).1 ((a+2:Nat):Int) ((exR t a).2:Int)):=by
    have:=x0d (a:=a) (g:=exN t a) (f0:=((a+2:Nat):Int)) hl (t.length-exK t a) (exK t a) 0 (by omega) (by decide) (by decide)
    rw [hK] at this
    unfold exR
    rw [hK]
    exact this
   have hi:=fun ds=>h1e t L a ds (by rw [e1,e2,← hN]; exact hloop)
   have hq1:d5 (eQ1 t L a):=by
    unfold eQ1
    rw [e1]
    exact⟨⟨Int.natCast_nonneg _,by rw [Int.toNat_natCast]; exact hk⟩,hs,v0o _ _,oO _ _,hh,hq,hp,trivial⟩
   by_cases he:(exR t a).2=exK t a
   ·rw [if_pos he,if_pos he]
    rw [hK] at he
    exact u7 X4 (z1w t L a (exN t a) (exR t a).1 ((a+2:Nat):Int) ((exR t a).2:Int)) ⟨by rw [he]; exact beq_self_eq_true _,hi [true],hq1⟩
   ·rw [if_neg he,if_neg he]
    rw [hK] at he
    cases hn:exN t a with
    | true=>
     rw [hn] at hi
     have:Ev.Pure Tryz.prog J0 _ _ _:=u7 X4 (b2v t L a true (exR t a).1 ((a+2:Nat):Int) ((exR t a).2:Int)) ⟨rfl,beq_false_of_ne (by omega),hi [false,true],hq1⟩
     rw [show IntKind.i64.wrap (Int.ofNat 0- (exR t a).1)= -(exR t a).1 by
      unfold exR
      rw [show (Int.ofNat 0:Int)=0 from rfl,wr (by omega) (by omega)]
      omega] at this
     simpa using this
    | false=>
     rw [hn] at hi
     have:Ev.Pure Tryz.prog J0 _ _ _:=u7 X4 (b2y t L a false (exR t a).1 ((a+2:Nat):Int) ((exR t a).2:Int)) ⟨rfl,beq_false_of_ne (by omega),hi [false,false],hq1⟩
     simpa using this
def t0y:List Value→Option (Value×List Prop)
 | [.string ⟨⟨t⟩⟩, .int .i64 a, .int .i64 b] =>some (.tuple ⟨[.string ⟨⟨maS t a.toNat b⟩⟩, .int .i64 (maB t a.toNat b), .int .i64 (maE t a.toNat b)]⟩,[t.length < 9223372036854775807∧0≤a∧a.toNat≤t.length])
 | _=>none
theorem w0h (args:List Value) (v:Value) (l:List Prop) (h:t0y args=some (v,l)) (hl:d5 l):Ev.Pure Tryz.prog J0 79 args v:=by
 unfold t0y at h
 split at h
 ·rename_i t a b
  cases h
  obtain⟨h1,h2,h3⟩:=hl.1
  obtain⟨q,rfl⟩:=Int.eq_ofNat_of_zero_le h2
  exact vP h1 h3
 ·cases h
def u0q:List Value→Option (Value×List Prop)
 | [.string ⟨⟨t⟩⟩, .int .i64 a, .string ⟨⟨L⟩⟩] =>some (.tuple ⟨[.int .i64 (exV t L a.toNat), .int .i64 (exE t L a.toNat)]⟩,[t.length < 9223372036854775807∧L.length < 4294967281∧0≤a])
 | _=>none
theorem u0f (args:List Value) (v:Value) (l:List Prop) (h:u0q args=some (v,l)) (hl:d5 l):Ev.Pure Tryz.prog J0 80 args v:=by
 unfold u0q at h
 split at h
 ·rename_i t a L
  cases h
  obtain⟨h1,h2,h3⟩:=hl.1
  obtain⟨q,rfl⟩:=Int.eq_ofNat_of_zero_le h3
  exact uW h1 h2
 ·cases h
noncomputable def a1z:Tab:=i6 79 t0y (i6 80 u0q v0n)
theorem c0j:N1 Tryz.prog J0 a1z:=b6 w0h (b6 u0f a0o)
noncomputable def bNb2:Base:=⟨Tryz.prog,J0,false,a1z,C4,2000,H8⟩
theorem lG:BaseOk bNb2:=⟨progOk,c0j,m6 _ _,i7⟩
noncomputable abbrev w1f:=bNb2.cx 12
abbrev pcV (h:Bool) (s:List UInt8) (e n:Int):Value:= .agg ⟨[.bool h, .string ⟨⟨s⟩⟩, .int .i64 e, .int .i64 n]⟩
def h0B (t:List UInt8):Bool:=match decide ((t.length:Int) > 1) with | true=>chI t 0==48 | false=>false
def hxB (t:List UInt8):Bool:=match h0B t with | true=>(match chI t 1==120 with | true=>true | false=>chI t 1==88) | false=>false
def hP1 (t:List UInt8):Prop:=A0 [(12,chI t 1==120),(8,h0B t),(3,decide ((t.length:Int) > 1))] [(12,false),(8,true)] →(0:Int)≤1∧(1:Int).toNat < t.length
def hP2 (t:List UInt8):Prop:=A0 [(8,h0B t),(3,decide ((t.length:Int) > 1))] [(8,true)] →(0:Int)≤1∧(1:Int).toNat < t.length
def hP3 (t:List UInt8):Prop:=A0 [(3,decide ((t.length:Int) > 1))] [(3,true)] →(0:Int)≤0∧(0:Int).toNat < t.length
def maQ (t:List UInt8) (a:Nat):Prop:=t.length < 9223372036854775807∧Int.ofNat 0≤Int.ofNat a∧a≤t.length
def exQ (t:List UInt8) (m:Nat):Prop:=t.length < 9223372036854775807∧2 < 4294967281∧Int.ofNat 0≤Int.ofNat m
abbrev pP:List UInt8:=[112,80]
abbrev eE:List UInt8:=[101,69]
section
variable (t:List UInt8)
theorem t1x:a6 w1f [] 200 46 [.string ⟨⟨t⟩⟩] [true,true] =some (pcV true (maS t 2 16) (IntKind.i64.wrap (exV t pP (maE t 2 16)-IntKind.i64.wrap (Int.ofNat 4*maB t 2 16))) (exE t pP (maE t 2 16)),
 [exQ t (maE t 2 16),(!(maS t 2 16==([] :List UInt8)))=true,maQ t 2,hxB t=true,hP1 t,hP2 t,hP3 t]):=by kernel_rfl
theorem w1z:a6 w1f [] 200 46 [.string ⟨⟨t⟩⟩] [true,false,true] =some (pcV false [] 0 0,
 [(maS t 0 10==([] :List UInt8))=true,maQ t 0,(!(maS t 2 16==([] :List UInt8)))=false,maQ t 2,hxB t=true,hP1 t,hP2 t,hP3 t]):=by kernel_rfl
theorem u1i:a6 w1f [] 200 46 [.string ⟨⟨t⟩⟩] [true,false,false] =some (pcV false (maS t 0 10) (IntKind.i64.wrap (exV t eE (maE t 0 10)-maB t 0 10)) (exE t eE (maE t 0 10)),
 [exQ t (maE t 0 10),(maS t 0 10==([] :List UInt8))=false,maQ t 0,(!(maS t 2 16==([] :List UInt8)))=false,maQ t 2,hxB t=true,hP1 t,hP2 t,hP3 t]):=by kernel_rfl
theorem z1z:a6 w1f [] 200 46 [.string ⟨⟨t⟩⟩] [false,true] =some (pcV false [] 0 0,
 [(maS t 0 10==([] :List UInt8))=true,maQ t 0,hxB t=false,hP1 t,hP2 t,hP3 t]):=by kernel_rfl
theorem c2d:a6 w1f [] 200 46 [.string ⟨⟨t⟩⟩] [false,false] =some (pcV false (maS t 0 10) (IntKind.i64.wrap (exV t eE (maE t 0 10)-maB t 0 10)) (exE t eE (maE t 0 10)),
 [exQ t (maE t 0 10),(maS t 0 10==([] :List UInt8))=false,maQ t 0,hxB t=false,hP1 t,hP2 t,hP3 t]):=by kernel_rfl
end
def L7 (t:List UInt8):Bool:=hxB t && !(maS t 2 16==([] :List UInt8))
def aD (t:List UInt8):List UInt8:=if L7 t=true then maS t 2 16 else maS t 0 10
def fG (t:List UInt8):Int:=if L7 t=true then exV t pP (maE t 2 16)-4*maB t 2 16 else if maS t 0 10=[] then 0 else exV t eE (maE t 0 10)-maB t 0 10
def T9 (t:List UInt8):Nat:=if L7 t=true then exE t pP (maE t 2 16) else if maS t 0 10=[] then 0 else exE t eE (maE t 0 10)
theorem eU (t L:List UInt8) (a:Nat): -1073741824≤exV t L a∧exV t L a≤1073741824:=by
 unfold exV
 split
 ·omega
 rename_i hh
 split
 ·omega
 have hlt:a < t.length:=by
  have hh:hdB t L a=false:=by simpa using hh
  unfold hdB at hh
  cases hg:geB t (a:Int) with
  | true=>rw [hg] at hh; cases hh
  | false=>
   have:¬((a:Int)≥(t.length:Int)):=of_decide_eq_false hg
   omega
 have hK:exK t a≤t.length:=by
  unfold exK
  split
  ·rename_i hs
   unfold sgB at hs
   cases hg:ltE t ((a+1:Nat):Int) with
   | false=>rw [hg] at hs; cases hs
   | true=>
    have:((a+1:Nat):Int) < (t.length:Int):=of_decide_eq_true hg
    omega
  ·omega
 obtain⟨_,_,r3,r4⟩:=cQ t (t.length-exK t a) (exK t a) 0 (by omega) (by decide) (by decide)
 unfold exR
 split <;> omega
theorem nR {t:List UInt8} {a:Nat} {b:Int} (ha:a≤t.length):0≤maB t a b∧maB t a b≤(t.length:Int):=by
 obtain⟨r1,r2,r3,r4⟩:=yM (b:=b) ha
 unfold maB
 split
 ·omega
 ·rcases r3 with r3 | r3 <;> omega
theorem z1m (t:List UInt8):hP1 t∧hP2 t∧hP3 t:=by
 have h8:h0B t=true→1 < t.length:=fun h=>by
  unfold h0B at h
  split at h
  ·rename_i hd
   have:=of_decide_eq_true hd
   omega
  ·cases h
 refine⟨fun hc=>⟨by decide,?_⟩,fun hc=>⟨by decide,?_⟩,fun hc=>⟨by decide,?_⟩⟩
 ·exact h8 (by simpa [A0,kvP] using hc.2)
 ·exact h8 (by simpa [A0,kvP] using hc)
 ·have:(t.length:Int) > 1:=by simpa [A0,kvP] using hc
  show 0 < t.length
  omega
theorem i0c {P:Program} {J:Ev.Inv P} {f:FuncId} {args:List Value} {h:Bool} {s:List UInt8} {e e' n:Int} (hp:Ev.Pure P J f args (pcV h s e n)) (he:e=e'):Ev.Pure P J f args (pcV h s e' n):=he ▸ hp
theorem u0w {t:List UInt8} (hl:t.length≤140737488351232):Ev.Pure Tryz.prog J0 46 [.string ⟨⟨t⟩⟩] (pcV (L7 t) (aD t) (fG t) (T9 t)):=by
 obtain⟨p1,p2,p3⟩:=z1m t
 have hl':t.length < 9223372036854775807:=by omega
 have q0:maQ t 0:=⟨hl',Int.le_refl _,Nat.zero_le _⟩
 have hx:∀ m,exQ t m:=fun m=>⟨hl',by decide,Int.natCast_nonneg _⟩
 have dec:∀ (hm:¬maS t 0 10=[]),IntKind.i64.wrap (exV t eE (maE t 0 10)-maB t 0 10)=exV t eE (maE t 0 10)-maB t 0 10:=fun _=>by
  have a1:=eU t eE (maE t 0 10)
  have a2:=nR (t:=t) (b:=10) (Nat.zero_le _)
  rw [wr (by omega) (by omega)]
 unfold aD fG T9
 cases hh:hxB t with
 | true=>
  have h2:2≤t.length:=by
   unfold hxB h0B at hh
   split at hh
   ·rename_i hd
    split at hd
    ·rename_i hd'
     have:=of_decide_eq_true hd'
     omega
    ·cases hd
   ·cases hh
  have q2:maQ t 2:=⟨hl',by decide,h2⟩
  cases hm:(maS t 2 16==([] :List UInt8)) with
  | false=>
   rw [show L7 t=true by unfold L7; rw [hh,hm]; rfl]
   simp only [if_true]
   refine i0c (u7 lG (t1x t) ⟨hx _,by rw [hm]; rfl,q2,hh,p1,p2,p3,trivial⟩) ?_
   have a1:=eU t pP (maE t 2 16)
   have a2:=nR (t:=t) (b:=16) h2
   rw [show (Int.ofNat 4:Int)=4 from rfl,wr (n:=4*maB t 2 16) (by omega) (by omega),wr (by omega) (by omega)]
  | true=>
   rw [show L7 t=false by unfold L7; rw [hh,hm]; rfl]
   simp only [Bool.false_eq_true,if_false]
   by_cases hs:maS t 0 10=[]
   ·rw [if_pos hs,if_pos hs,hs]
    exact u7 lG (w1z t) ⟨by rw [hs]; rfl,q0,by rw [hm]; rfl,q2,hh,p1,p2,p3,trivial⟩
   ·rw [if_neg hs,if_neg hs]
    exact i0c (u7 lG (u1i t) ⟨hx _,beq_false_of_ne hs,q0,by rw [hm]; rfl,q2,hh,p1,p2,p3,trivial⟩) (dec hs)
 | false=>
  rw [show L7 t=false by unfold L7; rw [hh]; rfl]
  simp only [Bool.false_eq_true,if_false]
  by_cases hs:maS t 0 10=[]
  ·rw [if_pos hs,if_pos hs,hs]
   exact u7 lG (z1z t) ⟨by rw [hs]; rfl,q0,hh,p1,p2,p3,trivial⟩
  ·rw [if_neg hs,if_neg hs]
   exact i0c (u7 lG (c2d t) ⟨hx _,beq_false_of_ne hs,q0,hh,p1,p2,p3,trivial⟩) (dec hs)
def kJ:List Value→Option (Value×List Prop)
 | [.string ⟨⟨t⟩⟩] =>some (pcV (L7 t) (aD t) (fG t) (T9 t),[t.length≤140737488351232])
 | _=>none
theorem oE (args:List Value) (v:Value) (l:List Prop) (h:kJ args=some (v,l)) (hl:d5 l):Ev.Pure Tryz.prog J0 46 args v:=by
 unfold kJ at h
 split at h
 ·cases h; exact u0w hl.1
 ·cases h
noncomputable def l0q:Tab:=i6 46 kJ a1z
theorem mY:N1 Tryz.prog J0 l0q:=b6 oE c0j
noncomputable def bNb3:Base:=⟨Tryz.prog,J0,false,l0q,C4,2000,H8⟩
theorem aU:BaseOk bNb3:=⟨progOk,mY,m6 _ _,i7⟩
noncomputable abbrev n1u:=bNb3.cx 12
theorem u1b (t:List UInt8):a6 n1u [] 200 21 [.string ⟨⟨t⟩⟩] [] =some (.int .i64 (T9 t),[t.length≤140737488351232]):=by kernel_rfl
theorem f0y {t:List UInt8} (hl:t.length≤140737488351232):Ev.Pure Tryz.prog J0 21 [.string ⟨⟨t⟩⟩] (.int .i64 (T9 t)):=
 u7 aU (u1b t) ⟨hl,trivial⟩
def neB (t:List UInt8):Bool:= !(t==([] :List UInt8))
def spB (t:List UInt8):Bool:=match neB t with | true=>(match chI t 0==45 with | true=>true | false=>chI t 0==43) | false=>false
def b2i (t:List UInt8):Prop:=A0 [(6,chI t 0==45),(2,neB t)] [(6,false),(2,true)] →(0:Int)≤0∧(0:Int).toNat < t.length
def z1e (t:List UInt8):Prop:=A0 [(2,neB t)] [(2,true)] →(0:Int)≤0∧(0:Int).toNat < t.length
theorem g2b (t:List UInt8):a6 n1u [] 200 61 [.string ⟨⟨t⟩⟩] [true] =some (.tuple ⟨[.bool (chI t 0==45), .string ⟨⟨t.drop 1⟩⟩]⟩,[Int.ofNat 0≤Int.ofNat 1∧Int.ofNat 1≤Int.ofNat t.length,Int.ofNat 0≤Int.ofNat 0∧0 < t.length,spB t=true,b2i t,z1e t]):=by kernel_rfl
theorem e2d (t:List UInt8):a6 n1u [] 200 61 [.string ⟨⟨t⟩⟩] [false] =some (.tuple ⟨[.bool false, .string ⟨⟨t⟩⟩]⟩,[spB t=false,b2i t,z1e t]):=by kernel_rfl
def pE (t:List UInt8):Bool:=spB t && (chI t 0==45)
def u9 (t:List UInt8):List UInt8:=if spB t=true then t.drop 1 else t
theorem sY {t:List UInt8} (h:neB t=true):0 < t.length:=by
 cases t with
 | nil=>cases h
 | cons c r=>simp
theorem m0v (t:List UInt8):Ev.Pure Tryz.prog J0 61 [.string ⟨⟨t⟩⟩] (.tuple ⟨[.bool (pE t), .string ⟨⟨u9 t⟩⟩]⟩):=by
 have p1:b2i t:=fun hc=>⟨by decide,sY (by simpa [A0,kvP] using hc.2)⟩
 have p2:z1e t:=fun hc=>⟨by decide,sY (by simpa [A0,kvP] using hc)⟩
 unfold pE u9
 cases hs:spB t with
 | true=>
  have h0:0 < t.length:=by
   unfold spB at hs
   cases hn:neB t with
   | true=>exact sY hn
   | false=>rw [hn] at hs; cases hs
  simp only [if_true,Bool.true_and]
  exact u7 aU (g2b t) ⟨⟨by decide,Int.ofNat_le.2 h0⟩,⟨Int.le_refl _,h0⟩,hs,p1,p2,trivial⟩
 | false=>
  simp only [Bool.false_eq_true,if_false,Bool.false_and]
  exact u7 aU (e2d t) ⟨hs,p1,p2,trivial⟩
def cE:List Value→Option (Value×List Prop)
 | [.string ⟨⟨t⟩⟩] =>some (.tuple ⟨[.bool (pE t), .string ⟨⟨u9 t⟩⟩]⟩,[])
 | _=>none
theorem jE (args:List Value) (v:Value) (l:List Prop) (h:cE args=some (v,l)) (_:d5 l):Ev.Pure Tryz.prog J0 61 args v:=by
 unfold cE at h
 split at h
 ·cases h; exact m0v _
 ·cases h
noncomputable def q0v:Tab:=i6 61 cE l0q
theorem c0b:N1 Tryz.prog J0 q0v:=b6 jE mY
noncomputable def bNb4:Base:=⟨Tryz.prog,J0,false,q0v,C4,2000,H8⟩
theorem T4:BaseOk bNb4:=⟨progOk,c0b,m6 _ _,i7⟩
noncomputable abbrev h0x:=bNb4.cx 12
abbrev j1l:List UInt8:=[78,97,78]
abbrev j1g:List UInt8:=[73,110,102]
def rdT (neg:Bool) (p:Value) (o:Nat) (i:Bool) (e:Int):Value:= .tuple ⟨[.bool neg,p, .float .f64 o, .bool i, .int .i64 e]⟩
abbrev pc0:Value:=pcV false [] 0 0
noncomputable abbrev pcT (t:List UInt8):Value:=pcV (L7 t) (aD t) (fG t) (T9 t)
def e1e (t:List UInt8):Bool:=match (T9 t:Int)==0 with | true=>true | false=>(T9 t:Int) !=(t.length:Int)
section
variable (t:List UInt8)
theorem r1d:a6 h0x [] 200 30 [.string ⟨⟨t⟩⟩] [true] =some (rdT false pc0 0 false 2,[decide (Int.ofNat 8192 < Int.ofNat t.length)=true]):=by kernel_rfl
theorem v1x:a6 h0x [] 200 30 [.string ⟨⟨t⟩⟩] [false,true] =some (rdT false pc0 9221120237041090560 true 0,[(t==j1l)=true,decide (Int.ofNat 8192 < Int.ofNat t.length)=false]):=by kernel_rfl
theorem p1i:a6 h0x [] 200 30 [.string ⟨⟨t⟩⟩] [false,false,true,true] =some (rdT (pE t) pc0 18442240474082181120 true 0,[pE t=true,(u9 t==j1g)=true,(t==j1l)=false,decide (Int.ofNat 8192 < Int.ofNat t.length)=false]):=by kernel_rfl
theorem n1a:a6 h0x [] 200 30 [.string ⟨⟨t⟩⟩] [false,false,true,false] =some (rdT (pE t) pc0 9218868437227405312 true 0,[pE t=false,(u9 t==j1g)=true,(t==j1l)=false,decide (Int.ofNat 8192 < Int.ofNat t.length)=false]):=by kernel_rfl
theorem n1k:a6 h0x [] 200 30 [.string ⟨⟨t⟩⟩] [false,false,false,true] =some (rdT false (pcT (u9 t)) 0 false 3,[e1e (u9 t)=true,(u9 t).length≤140737488351232,(u9 t==j1g)=false,(t==j1l)=false,decide (Int.ofNat 8192 < Int.ofNat t.length)=false]):=by kernel_rfl
theorem b2f:a6 h0x [] 200 30 [.string ⟨⟨t⟩⟩] [false,false,false,false] =some (rdT (pE t) (pcT (u9 t)) 0 false 0,[e1e (u9 t)=false,(u9 t).length≤140737488351232,(u9 t==j1g)=false,(t==j1l)=false,decide (Int.ofNat 8192 < Int.ofNat t.length)=false]):=by kernel_rfl
end
noncomputable def rdV (t:List UInt8):Value:=
 if 8192 < t.length then rdT false pc0 0 false 2
 else if t=j1l then rdT false pc0 9221120237041090560 true 0
 else if u9 t=j1g then rdT (pE t) pc0 (if pE t=true then 18442240474082181120 else 9218868437227405312) true 0
 else if e1e (u9 t)=true then rdT false (pcT (u9 t)) 0 false 3
 else rdT (pE t) (pcT (u9 t)) 0 false 0
theorem kV (t:List UInt8):Ev.Pure Tryz.prog J0 30 [.string ⟨⟨t⟩⟩] (rdV t):=by
 unfold rdV
 by_cases hl:8192 < t.length
 ·rw [if_pos hl]
  exact u7 T4 (r1d t) ⟨decide_eq_true (Int.ofNat_lt.2 hl),trivial⟩
 rw [if_neg hl]
 have hd:decide (Int.ofNat 8192 < Int.ofNat t.length)=false:=decide_eq_false fun h=>hl (Int.ofNat_lt.1 h)
 by_cases hn:t=j1l
 ·rw [if_pos hn]
  exact u7 T4 (v1x t) ⟨by rw [hn]; exact beq_self_eq_true _,hd,trivial⟩
 rw [if_neg hn]
 have hn':(t==j1l)=false:=beq_false_of_ne hn
 have hr:(u9 t).length≤140737488351232:=by
  unfold u9
  split
  ·rw [List.length_drop]; omega
  ·omega
 by_cases hi:u9 t=j1g
 ·rw [if_pos hi]
  have hi':(u9 t==j1g)=true:=by rw [hi]; exact beq_self_eq_true _
  cases hg:pE t with
  | true=>
   have:=u7 T4 (p1i t) ⟨hg,hi',hn',hd,trivial⟩
   rw [hg] at this
   exact this
  | false=>
   have:=u7 T4 (n1a t) ⟨hg,hi',hn',hd,trivial⟩
   rw [hg] at this
   exact this
 rw [if_neg hi]
 have hi':(u9 t==j1g)=false:=beq_false_of_ne hi
 cases hf:e1e (u9 t) with
 | true=>
  simp only [if_true]
  exact u7 T4 (n1k t) ⟨hf,hr,hi',hn',hd,trivial⟩
 | false=>
  simp only [Bool.false_eq_true,if_false]
  exact u7 T4 (b2f t) ⟨hf,hr,hi',hn',hd,trivial⟩
noncomputable def cTl:Code:=A2 Tryz.prog 105 0
noncomputable def cTr:Code:=A2 Tryz.prog 100 0
noncomputable def tTL (t:List UInt8):St:=⟨only 17 [(0, .string ⟨⟨t⟩⟩),(1, .int .u8 48)],J0.tabs,11,[],[],0,none,[],11⟩
def j1s (t:List UInt8):Bool:=decide ((t.length:Int) > 0)
def tlB (t:List UInt8):Bool:=match j1s t with | true=>chI t 0==48 | false=>false
def tlP (t:List UInt8):Prop:=A0 [(3,j1s t)] [(3,true)] →(0:Int)≤0∧(0:Int).toNat < t.length
section
variable (t s:List UInt8)
theorem a2q (hl:d5 [Int.ofNat 0≤Int.ofNat 1∧Int.ofNat 1≤Int.ofNat t.length,tlB t=true,tlP t]):o9 h0x cTl (tTL t) .normal (tTL (t.drop 1)):=
 b7 (Base.cx_ok T4 12).1 progOk.mixed [] 200 [true] [] (by kernel_rfl) hl (by kernel_rfl) (by kernel_rfl)
theorem j1t (hl:d5 [tlB t=false,tlP t]):o9 h0x cTl (tTL t) (.exit 0) (tTL t):=
 b7 (Base.cx_ok T4 12).1 progOk.mixed [] 200 [false] [] (by kernel_rfl) hl (by kernel_rfl) (by kernel_rfl)
theorem u1z:a6 h0x [J5 (.exit 0) (fun _=>tTL s)] 200 105 [.string ⟨⟨t⟩⟩, .int .u8 48] [] =some (.string ⟨⟨s⟩⟩,[a7 h0x cTl (o8 h0x 200 105 [.string ⟨⟨t⟩⟩, .int .u8 48] J0.tabs Tryz.prog.globals.size []) (.exit 0) (tTL s)]):=by kernel_rfl
theorem n1z {x:AX} {s':St} (h:a7 h0x cTl (tTL t) x s'):a7 h0x cTl (o8 h0x 200 105 [.string ⟨⟨t⟩⟩, .int .u8 48] J0.tabs Tryz.prog.globals.size []) x s':=
 f9 h [] (by kernel_rfl) (by kernel_rfl) (by kernel_rfl)
end
def a8:List UInt8→List UInt8
 | [] =>[]
 | c ::r=>if c=48 then a8 r else c ::r
theorem l0i (c:UInt8) (r:List UInt8):(chI (c ::r) 0==48)=decide (c=48):=by
 by_cases h:c=48
 ·subst h; rfl
 ·rw [decide_eq_false h]
  refine beq_false_of_ne fun e=>h ?_
  have e:(c.toNat:Int)=48:=e
  exact UInt8.toNat_inj.1 (show c.toNat=48 by omega)
theorem t0q (t:List UInt8):tlP t:=fun hc=>⟨by decide,by
 have:(t.length:Int) > 0:=by simpa [A0,kvP,j1s] using hc
 show 0 < t.length
 omega⟩
theorem wN (t:List UInt8):a7 h0x cTl (tTL t) (.exit 0) (tTL (a8 t)):=by
 obtain⟨r,hr⟩:∃ r,a8 t=r:=⟨_,rfl⟩
 rw [hr]
 refine A8 (ι:=List UInt8) tTL List.length (fun s=>a8 s=r) (by intro e; cases e) (fun s hs=> ?_) t hr
 cases s with
 | nil=>
  refine .inr ?_
  have:r=[] :=hs.symm
  rw [this]
  exact j1t [] ⟨rfl,t0q _,trivial⟩
 | cons c q=>
  have hp:j1s (c ::q)=true:=decide_eq_true (by simp only [List.length_cons]; omega)
  have hb:tlB (c ::q)=decide (c=48):=by unfold tlB; rw [hp,l0i]
  unfold a8 at hs
  by_cases h:c=48
  ·rw [if_pos h] at hs
   exact .inl ⟨q,hs,by simp,a2q (c ::q) ⟨⟨by decide,Int.ofNat_le.2 (by simp)⟩,by rw [hb]; exact decide_eq_true h,t0q _,trivial⟩⟩
  ·rw [if_neg h] at hs
   refine .inr ?_
   rw [← hs]
   exact j1t (c ::q) ⟨by rw [hb]; exact decide_eq_false h,t0q _,trivial⟩
theorem uG (t:List UInt8):Ev.Pure Tryz.prog J0 105 [.string ⟨⟨t⟩⟩, .int .u8 48] (.string ⟨⟨a8 t⟩⟩):=
 u7 T4 (u1z t (a8 t)) ⟨n1z t (wN t),trivial⟩
def y0q:List Value→Option (Value×List Prop)
 | [.string ⟨⟨t⟩⟩, .int .u8 n] =>some (.string ⟨⟨a8 t⟩⟩,[n=48])
 | _=>none
theorem q0j (args:List Value) (v:Value) (l:List Prop) (h:y0q args=some (v,l)) (hl:d5 l):Ev.Pure Tryz.prog J0 105 args v:=by
 unfold y0q at h
 split at h
 ·cases h
  obtain⟨rfl,_⟩:=hl
  exact uG _
 ·cases h
noncomputable def x0z:Tab:=i6 105 y0q q0v
theorem c0d:N1 Tryz.prog J0 x0z:=b6 q0j c0b
noncomputable def bNb5:Base:=⟨Tryz.prog,J0,false,x0z,C4,2000,H8⟩
theorem mJ:BaseOk bNb5:=⟨progOk,c0d,m6 _ _,i7⟩
noncomputable abbrev p0n:=bNb5.cx 12
noncomputable def tTR (t:List UInt8):St:=⟨only 23 [(0, .string ⟨⟨t⟩⟩),(1, .int .u8 48)],J0.tabs,11,[],[],0,none,[],11⟩
def U1 (t:List UInt8):Int:=IntKind.i64.wrap ((t.length:Int)-1)
def trB (t:List UInt8):Bool:=match j1s t with | true=>chI t (U1 t)==48 | false=>false
def trP (t:List UInt8):Prop:=A0 [(3,j1s t)] [(3,true)] →0≤U1 t∧(U1 t).toNat < t.length
def noB (t:List UInt8):Bool:=match t==([] :List UInt8) with | true=>true | false=>([48] :List UInt8)==[]
section
variable (t s:List UInt8)
theorem a2a (hl:d5 [Int.ofNat 0≤U1 t∧U1 t≤Int.ofNat t.length,trB t=true,trP t]):o9 p0n cTr (tTR t) .normal (tTR (t.take (U1 t).toNat)):=
 b7 (Base.cx_ok mJ 12).1 progOk.mixed [] 200 [true] [] (by kernel_rfl) hl (by kernel_rfl) (by kernel_rfl)
theorem l1b (hl:d5 [trB t=false,trP t]):o9 p0n cTr (tTR t) (.exit 0) (tTR t):=
 b7 (Base.cx_ok mJ 12).1 progOk.mixed [] 200 [false] [] (by kernel_rfl) hl (by kernel_rfl) (by kernel_rfl)
theorem v1o:a6 p0n [J5 (.exit 0) (fun _=>tTR s)] 200 100 [.string ⟨⟨t⟩⟩, .int .u8 48] [] =some (.string ⟨⟨s⟩⟩,[a7 p0n cTr (o8 p0n 200 100 [.string ⟨⟨t⟩⟩, .int .u8 48] J0.tabs Tryz.prog.globals.size []) (.exit 0) (tTR s)]):=by kernel_rfl
theorem p1m {x:AX} {s':St} (h:a7 p0n cTr (tTR t) x s'):a7 p0n cTr (o8 p0n 200 100 [.string ⟨⟨t⟩⟩, .int .u8 48] J0.tabs Tryz.prog.globals.size []) x s':=
 f9 h [] (by kernel_rfl) (by kernel_rfl) (by kernel_rfl)
theorem a2i:a6 p0n [] 200 63 [.string ⟨⟨t⟩⟩, .string ⟨⟨[48]⟩⟩] [true] =some (.string ⟨⟨t⟩⟩,[noB t=true]):=by kernel_rfl
theorem b2w:a6 p0n [] 200 63 [.string ⟨⟨t⟩⟩, .string ⟨⟨[48]⟩⟩] [false,true] =some (.string ⟨⟨a8 t⟩⟩,[(48:Int)=48,Int.ofNat 0≤Int.ofNat 0∧0 < 1,true=true,(A0 [(3,true)] [(3,true)] →(0:Int)≤0∧(0:Int).toNat < 1),noB t=false]):=by kernel_rfl
end
theorem r0g {t:List UInt8} :noB t=decide (t=[]):=by cases t <;> rfl
theorem t0w (t:List UInt8):Ev.Pure Tryz.prog J0 63 [.string ⟨⟨t⟩⟩, .string ⟨⟨[48]⟩⟩] (.string ⟨⟨a8 t⟩⟩):=by
 by_cases h:t=[]
 ·subst h
  exact u7 mJ (a2i []) ⟨rfl,trivial⟩
 ·exact u7 mJ (b2w t) ⟨rfl,⟨by decide,by decide⟩,rfl,fun _=>⟨by decide,by decide⟩,by rw [r0g,decide_eq_false h],trivial⟩
def M9 (t:List UInt8):List UInt8:=(a8 t.reverse).reverse
theorem B3:∀ t:List UInt8,(a8 t).length≤t.length
 | [] =>Nat.le_refl _
 | c ::r=>by
  have:=B3 r
  unfold a8
  split <;> simp only [List.length_cons] <;> omega
theorem pX {t:List UInt8} (hl:t.length≤9223372036854775807):a7 p0n cTr (tTR t) (.exit 0) (tTR (M9 t)):=by
 obtain⟨r,hr⟩:∃ r,M9 t=r:=⟨_,rfl⟩
 rw [hr]
 have key:a7 p0n cTr (tTR t.reverse.reverse) (.exit 0) (tTR r):=by
  refine A8 (ι:=List UInt8) (fun s=>tTR s.reverse) List.length (fun s=>s.length≤9223372036854775807∧(a8 s).reverse=r) (by intro e; cases e) (fun s hs=> ?_) t.reverse ⟨by rw [List.length_reverse]; exact hl,hr⟩
  obtain⟨h1,h2⟩:=hs
  cases s with
  | nil=>
   refine .inr ?_
   have:r=[] :=h2.symm
   rw [this]
   exact l1b [] ⟨rfl,fun hc=>by simp [A0,kvP,j1s] at hc,trivial⟩
  | cons c q=>
   have hn:((c ::q).reverse).length=q.length+1:=by simp
   have hla:U1 (c ::q).reverse=(q.length:Int):=by
    unfold U1
    rw [hn,wr (by omega) (by simp only [List.length_cons] at h1; omega)]
    omega
   have hp:j1s (c ::q).reverse=true:=decide_eq_true (by rw [hn]; omega)
   have hc:chI (c ::q).reverse (q.length:Int)=Int.ofNat c.toNat:=by
    unfold chI
    rw [Int.toNat_natCast,List.reverse_cons,List.getD,List.getElem?_append_right (by simp)]
    simp
   have hb:trB (c ::q).reverse=decide (c=48):=by
    unfold trB
    rw [hp,hla]
    simp only
    rw [hc]
    exact l0i c []
   have hP:trP (c ::q).reverse:=fun _=>by rw [hla,hn,Int.toNat_natCast]; omega
   unfold a8 at h2
   by_cases h:c=48
   ·rw [if_pos h] at h2
    refine .inl ⟨q,⟨by simp only [List.length_cons] at h1; omega,h2⟩,by simp,?_⟩
    have:=a2a (c ::q).reverse ⟨by rw [hla,hn]; exact⟨Int.natCast_nonneg _,Int.ofNat_le.2 (by omega)⟩,by rw [hb]; exact decide_eq_true h,hP,trivial⟩
    rw [hla,Int.toNat_natCast,List.reverse_cons,show q.length=q.reverse.length by simp,List.take_left] at this
    rw [List.reverse_cons]
    exact this
   ·rw [if_neg h] at h2
    refine .inr ?_
    rw [← h2]
    exact l1b (c ::q).reverse ⟨by rw [hb]; exact decide_eq_false h,hP,trivial⟩
 rw [List.reverse_reverse] at key
 exact key
theorem pZ {t:List UInt8} (hl:t.length≤9223372036854775807):Ev.Pure Tryz.prog J0 100 [.string ⟨⟨t⟩⟩, .int .u8 48] (.string ⟨⟨M9 t⟩⟩):=
 u7 mJ (v1o t (M9 t)) ⟨p1m t (pX hl),trivial⟩
def u0t:List Value→Option (Value×List Prop)
 | [.string ⟨⟨t⟩⟩, .int .u8 n] =>some (.string ⟨⟨M9 t⟩⟩,[n=48∧t.length≤9223372036854775807])
 | _=>none
theorem b1o (args:List Value) (v:Value) (l:List Prop) (h:u0t args=some (v,l)) (hl:d5 l):Ev.Pure Tryz.prog J0 100 args v:=by
 unfold u0t at h
 split at h
 ·cases h
  obtain⟨⟨rfl,h2⟩,_⟩:=hl
  exact pZ h2
 ·cases h
noncomputable def r0h:Tab:=i6 100 u0t x0z
theorem b0b:N1 Tryz.prog J0 r0h:=b6 b1o c0d
noncomputable def bNb6:Base:=⟨Tryz.prog,J0,false,r0h,C4,2000,H8⟩
theorem aZ:BaseOk bNb6:=⟨progOk,b0b,m6 _ _,i7⟩
noncomputable abbrev g0k:=bNb6.cx 12
theorem z1a (t:List UInt8):a6 g0k [] 200 58 [.string ⟨⟨t⟩⟩, .string ⟨⟨[48]⟩⟩] [true] =some (.string ⟨⟨t⟩⟩,[noB t=true]):=by kernel_rfl
theorem c2p (t:List UInt8):a6 g0k [] 200 58 [.string ⟨⟨t⟩⟩, .string ⟨⟨[48]⟩⟩] [false,true] =some (.string ⟨⟨M9 t⟩⟩,[(48:Int)=48∧t.length≤9223372036854775807,Int.ofNat 0≤Int.ofNat 0∧0 < 1,true=true,(A0 [(3,true)] [(3,true)] →(0:Int)≤0∧(0:Int).toNat < 1),noB t=false]):=by kernel_rfl
theorem m0b {t:List UInt8} (hl:t.length≤9223372036854775807):Ev.Pure Tryz.prog J0 58 [.string ⟨⟨t⟩⟩, .string ⟨⟨[48]⟩⟩] (.string ⟨⟨M9 t⟩⟩):=by
 by_cases h:t=[]
 ·subst h
  exact u7 aZ (z1a []) ⟨rfl,trivial⟩
 ·exact u7 aZ (c2p t) ⟨⟨rfl,hl⟩,⟨by decide,by decide⟩,rfl,fun _=>⟨by decide,by decide⟩,by rw [r0g,decide_eq_false h],trivial⟩
noncomputable def cDn:Code:=A2 Tryz.prog 111 0
noncomputable def tDn (t:List UInt8) (i:Int):St:=⟨only 20 [(0, .string ⟨⟨t⟩⟩),(5, .int .i64 t.length),(6, .int .i64 i)],J0.tabs,11,[],[],0,none,[],11⟩
noncomputable def tDr:St:=⟨only 20 [(2, .bool false)],J0.tabs,11,[],[],0,none,[],11⟩
def ndB (t:List UInt8) (i:Nat):Bool:=match decide (chI t i < 48) with | true=>true | false=>decide (chI t i > 57)
def ndP (t:List UInt8) (i:Nat):Prop:=A0 [(4,decide (chI t i < 48))] [(4,false)] →(0:Int)≤i∧(i:Int).toNat < t.length
section
variable (t:List UInt8) (i:Nat)
theorem a2l (hl:d5 [ndB t i=false,ndP t i,Int.ofNat 0≤Int.ofNat i∧i < t.length,decide (Int.ofNat i < Int.ofNat t.length)=true]):o9 g0k cDn (tDn t (i:Int)) .normal (tDn t (IntKind.i64.wrap ((i:Int)+1))):=
 b7 (Base.cx_ok aZ 12).1 progOk.mixed [] 200 [true,false] [] (by kernel_rfl) hl (by kernel_rfl) (by kernel_rfl)
theorem t1r (hl:d5 [ndB t i=true,ndP t i,Int.ofNat 0≤Int.ofNat i∧i < t.length,decide (Int.ofNat i < Int.ofNat t.length)=true]):o9 g0k cDn (tDn t (i:Int)) .ret tDr:=
 b7 (Base.cx_ok aZ 12).1 progOk.mixed [] 200 [true,true] [] (by kernel_rfl) hl (by kernel_rfl) (by kernel_rfl)
theorem u1p (hl:d5 [decide (Int.ofNat i < Int.ofNat t.length)=false]):o9 g0k cDn (tDn t (i:Int)) (.exit 0) (tDn t (i:Int)):=
 b7 (Base.cx_ok aZ 12).1 progOk.mixed [] 200 [false] [] (by kernel_rfl) hl (by kernel_rfl) (by kernel_rfl)
theorem u1d:a6 g0k [J5 (.exit 0) (fun _=>tDn t (i:Int))] 200 111 [.string ⟨⟨t⟩⟩] [] =some (.bool true,[a7 g0k cDn (o8 g0k 200 111 [.string ⟨⟨t⟩⟩] J0.tabs Tryz.prog.globals.size []) (.exit 0) (tDn t (i:Int))]):=by kernel_rfl
theorem c2l:a6 g0k [J5 .ret (fun _=>tDr)] 200 111 [.string ⟨⟨t⟩⟩] [] =some (.bool false,[a7 g0k cDn (o8 g0k 200 111 [.string ⟨⟨t⟩⟩] J0.tabs Tryz.prog.globals.size []) .ret tDr]):=by kernel_rfl
theorem v0s {x:AX} {s':St} (h:a7 g0k cDn (tDn t ((0:Nat):Int)) x s'):a7 g0k cDn (o8 g0k 200 111 [.string ⟨⟨t⟩⟩] J0.tabs Tryz.prog.globals.size []) x s':=
 f9 h [] (by kernel_rfl) (by kernel_rfl) (by kernel_rfl)
end
theorem j0j (p:Nat→Bool):∀ n,(∀ i,i < n→p i=false)∨∃ k,k < n∧p k=true∧∀ i,i < k→p i=false
 | 0=> .inl fun i hi=>by omega
 | n+1=>by
  rcases j0j p n with h | ⟨k,h1,h2,h3⟩
  ·cases hb:p n with
   | true=>exact .inr ⟨n,by omega,hb,h⟩
   | false=>
    refine .inl fun i hi=> ?_
    rcases Nat.lt_succ_iff_lt_or_eq.1 hi with h' | rfl
    ·exact h i h'
    ·exact hb
  ·exact .inr ⟨k,by omega,h2,h3⟩
def r8 (t:List UInt8):Bool:=(List.range t.length).all fun i=> !ndB t i
theorem e0j {t:List UInt8} (ht:t.length≤9223372036854775807):Ev.Pure Tryz.prog J0 111 [.string ⟨⟨t⟩⟩] (.bool (r8 t)):=by
 have hP:∀ i,i < t.length→ndP t i:=fun i hi _=>⟨Int.natCast_nonneg _,by rw [Int.toNat_natCast]; exact hi⟩
 have go:∀ k,k≤t.length→(∀ i,i < k→ndB t i=false)→∀ i,i < k→o9 g0k cDn (tDn t (i:Int)) .normal (tDn t ((i+1:Nat):Int)):=fun k hk h i hi=>by
  have:=a2l t i ⟨h i hi,hP i (by omega),⟨Int.natCast_nonneg _,by omega⟩,decide_eq_true (Int.ofNat_lt.2 (by omega)),trivial⟩
  rw [show IntKind.i64.wrap ((i:Int)+1)=((i+1:Nat):Int) by rw [wr (by omega) (by omega)]; omega] at this
  exact this
 rcases j0j (ndB t) t.length with h | ⟨k,h1,h2,h3⟩
 ·rw [show r8 t=true by
   unfold r8
   rw [List.all_eq_true]
   intro i hi
   rw [h i (List.mem_range.1 hi)]
   rfl]
  exact u7 aZ (u1d t t.length) ⟨v0s t (v8 (fun i=>tDn t (i:Int)) t.length (by intro e; cases e) (go _ (Nat.le_refl _) h) (u1p t _ ⟨decide_eq_false (Int.lt_irrefl _),trivial⟩)),trivial⟩
 ·rw [show r8 t=false by
   unfold r8
   rw [List.all_eq_false]
   exact⟨k,List.mem_range.2 h1,by rw [h2]; simp⟩]
  exact u7 aZ (c2l t) ⟨v0s t (v8 (fun i=>tDn t (i:Int)) k (by intro e; cases e) (go _ (by omega) h3) (t1r t k ⟨h2,hP k h1,⟨Int.natCast_nonneg _,h1⟩,decide_eq_true (Int.ofNat_lt.2 h1),trivial⟩)),trivial⟩
end Go.Proofs.YtdgfhijnconaoaaGreatDoor
namespace Go.Proofs
def Tryz.laysPu25_ren:Go.Shelf.Ren:=⟨fun | 25=>194 | n=>n,fun | 9=>9 | 3=>3 | 4=>4 | 37=>22 | 0=>0 | 47=>231 | 5=>5 | n=>n,fun | n=>n⟩
theorem Tryz.laysPu25:Go.Proofs.LaysPu.n25 Tryz.prog Tryz.laysPu25_ren where
 mixed:=by kernel_rfl
 f25:=Tryz.func194.trans (congrArg some (by kernel_rfl))
 t0:=Tryz.underlying0
 a0:=Tryz.isAgg0
 z0:=Tryz.sizeOf0
 v0:=Tryz.zeroValue0
 i0:=by kernel_rfl
 t3:=Tryz.underlying3
 a3:=Tryz.isAgg3
 z3:=Tryz.sizeOf3
 v3:=Tryz.zeroValue3
 i3:=by kernel_rfl
 t4:=Tryz.underlying4
 a4:=Tryz.isAgg4
 z4:=Tryz.sizeOf4
 v4:=Tryz.zeroValue4
 i4:=by kernel_rfl
 t5:=Tryz.underlying5
 a5:=Tryz.isAgg5
 z5:=Tryz.sizeOf5
 v5:=Tryz.zeroValue5
 i5:=by kernel_rfl
 t9:=Tryz.underlying9
 a9:=Tryz.isAgg9
 z9:=Tryz.sizeOf9
 v9:=Tryz.zeroValue9
 i9:=by kernel_rfl
 t37:=Tryz.underlying22
 a37:=Tryz.isAgg22
 z37:=Tryz.sizeOf22
 v37:=Tryz.zeroValue22
 i37:=by kernel_rfl
 t47:=Tryz.underlying231
 a47:=Tryz.isAgg231
 z47:=Tryz.sizeOf231
 v47:=Tryz.zeroValue231
 i47:=by kernel_rfl
namespace YtdgfhijnconaoaaGreatDoor
open Go Go.RowKit Ev
def nT:List Value→Option (Value×List Prop)
 | [.string ⟨⟨t⟩⟩] =>some (.string ⟨⟨t⟩⟩,[t.length≤281474976710656])
 | _=>none
theorem zA (args:List Value) (v:Value) (l:List Prop) (h:nT args=some (v,l)) (hl:d5 l):Ev.Pure Tryz.prog J0 194 args v:=by
 unfold nT at h
 split at h
 ·rename_i t
  cases h
  refine⟨rfl,rfl, .inl ⟨enters_of Tryz.func194 (by kernel_rfl) (c:=_) rfl,fun w _=> ?_⟩⟩
  exact AnyPu.stringslite_Clone Tryz.laysPu25 ⟨⟨t⟩⟩ w hl.1
 ·cases h
def j0y:List Value→Option (Value×List Prop)
 | [.string ⟨⟨t⟩⟩, .string ⟨⟨[c]⟩⟩] =>some (.string ⟨⟨a8 t⟩⟩,[c=48])
 | _=>none
theorem c0m (args:List Value) (v:Value) (l:List Prop) (h:j0y args=some (v,l)) (hl:d5 l):Ev.Pure Tryz.prog J0 63 args v:=by
 unfold j0y at h
 split at h
 ·cases h
  obtain⟨rfl,_⟩:=hl
  exact t0w _
 ·cases h
def a1g:List Value→Option (Value×List Prop)
 | [.string ⟨⟨t⟩⟩, .string ⟨⟨[c]⟩⟩] =>some (.string ⟨⟨M9 t⟩⟩,[c=48∧t.length≤9223372036854775807])
 | _=>none
theorem u0p (args:List Value) (v:Value) (l:List Prop) (h:a1g args=some (v,l)) (hl:d5 l):Ev.Pure Tryz.prog J0 58 args v:=by
 unfold a1g at h
 split at h
 ·cases h
  obtain⟨⟨rfl,h2⟩,_⟩:=hl
  exact m0b h2
 ·cases h
def b1q:List Value→Option (Value×List Prop)
 | [.string ⟨⟨t⟩⟩] =>some (.bool (r8 t),[t.length≤9223372036854775807])
 | _=>none
theorem w0b (args:List Value) (v:Value) (l:List Prop) (h:b1q args=some (v,l)) (hl:d5 l):Ev.Pure Tryz.prog J0 111 args v:=by
 unfold b1q at h
 split at h
 ·cases h; exact e0j hl.1
 ·cases h
noncomputable def z0o:Tab:=i6 194 nT (i6 63 j0y (i6 58 a1g (i6 111 b1q r0h)))
theorem zG:N1 Tryz.prog J0 z0o:=b6 zA (b6 c0m (b6 u0p (b6 w0b b0b)))
noncomputable def bNb7:Base:=⟨Tryz.prog,J0,false,z0o,C4,2000,H8⟩
theorem vU:BaseOk bNb7:=⟨progOk,zG,m6 _ _,i7⟩
noncomputable abbrev y1s:=bNb7.cx 12
end YtdgfhijnconaoaaGreatDoor
end Go.Proofs
namespace Go.Proofs.YtdgfhijnconaoaaGreatDoor
open Go Go.RowKit Ev
def mdS (t:List UInt8):List UInt8:=M9 (a8 t)
def mdW (t:List UInt8):Int:=IntKind.i64.wrap (((a8 t).length:Int)- ((mdS t).length:Int))
def mdR (t:List UInt8) (x:Int):Bool:=match decide (x > IntKind.i64.wrap (20000-mdW t)) with | true=>true | false=>decide (x < IntKind.i64.wrap (-20000-mdW t))
abbrev dcV (g:Bool) (s:List UInt8) (x:Int):Value:= .agg ⟨[.bool g, .string ⟨⟨s⟩⟩, .int .i64 x]⟩
section
variable (g:Bool) (t:List UInt8) (x:Int)
theorem c2j:a6 y1s [] 200 85 [.bool g, .string ⟨⟨t⟩⟩, .int .i64 x] [true] =some (.tuple ⟨[dcV false [] 0, .int .i64 0]⟩,[(a8 t==([] :List UInt8))=true,(48:UInt8)=48]):=by kernel_rfl
theorem n1f:a6 y1s [] 200 85 [.bool g, .string ⟨⟨t⟩⟩, .int .i64 x] [false,true] =some (.tuple ⟨[dcV false [] 0, .int .i64 12]⟩,[decide (Int.ofNat 8192 < Int.ofNat (mdS t).length)=true,(48:UInt8)=48∧(a8 t).length≤9223372036854775807,(a8 t==([] :List UInt8))=false,(48:UInt8)=48]):=by kernel_rfl
theorem i1g:a6 y1s [] 200 85 [.bool g, .string ⟨⟨t⟩⟩, .int .i64 x] [false,false,true] =some (.tuple ⟨[dcV false [] 0, .int .i64 11]⟩,[mdR t x=true,decide (Int.ofNat 8192 < Int.ofNat (mdS t).length)=false,(48:UInt8)=48∧(a8 t).length≤9223372036854775807,(a8 t==([] :List UInt8))=false,(48:UInt8)=48]):=by kernel_rfl
theorem c2m:a6 y1s [] 200 85 [.bool g, .string ⟨⟨t⟩⟩, .int .i64 x] [false,false,false] =some (.tuple ⟨[dcV g (mdS t) (IntKind.i64.wrap (x+mdW t)), .int .i64 0]⟩,[(mdS t).length≤281474976710656,mdR t x=false,decide (Int.ofNat 8192 < Int.ofNat (mdS t).length)=false,(48:UInt8)=48∧(a8 t).length≤9223372036854775807,(a8 t==([] :List UInt8))=false,(48:UInt8)=48]):=by kernel_rfl
end
def mdB (t:List UInt8):Int:=((a8 t).length:Int)- ((mdS t).length:Int)
def mdE (t:List UInt8) (x:Int):Int:=if a8 t=[] then 0 else if 8192 < (mdS t).length then 12 else if 20000-mdB t < x∨x < -20000-mdB t then 11 else 0
def mdI (t:List UInt8) (x:Int):Bool:=decide (a8 t≠[]) && decide (mdE t x=0)
def mdN (g:Bool) (t:List UInt8) (x:Int):Bool:=if mdI t x=true then g else false
def mdD (t:List UInt8) (x:Int):List UInt8:=if mdI t x=true then mdS t else []
def mdX (t:List UInt8) (x:Int):Int:=if mdI t x=true then x+mdB t else 0
abbrev mdV (g:Bool) (t:List UInt8) (x:Int):Value:= .tuple ⟨[dcV (mdN g t x) (mdD t x) (mdX t x), .int .i64 (mdE t x)]⟩
theorem mD {t:List UInt8} :0≤mdB t∧mdB t≤(t.length:Int)∧(mdS t).length≤t.length:=by
 have h1:=B3 t
 have h2:=B3 (a8 t).reverse
 rw [List.length_reverse] at h2
 have h3:(mdS t).length=(a8 (a8 t).reverse).length:=by unfold mdS M9; rw [List.length_reverse]
 unfold mdB
 omega
theorem z0c {g:Bool} {t:List UInt8} {x:Int} (h:mdI t x=false) {e:Int} (he:mdE t x=e):mdV g t x= .tuple ⟨[dcV false [] 0, .int .i64 e]⟩:=by
 unfold mdV mdN mdD mdX
 rw [h,he]
 rfl
theorem y0d {g:Bool} {t:List UInt8} {x:Int} (hl:t.length≤140737488351232):Ev.Pure Tryz.prog J0 85 [.bool g, .string ⟨⟨t⟩⟩, .int .i64 x] (mdV g t x):=by
 obtain⟨b0,b1,b2⟩:=mD (t:=t)
 have h1:=B3 t
 by_cases hn:a8 t=[]
 ·have hE:mdE t x=0:=by unfold mdE; rw [if_pos hn]
  rw [z0c (by unfold mdI; rw [decide_eq_false (by simpa using hn)]; rfl) hE]
  exact u7 vU (c2j g t x) ⟨by rw [hn]; rfl,rfl,trivial⟩
 have hn':(a8 t==([] :List UInt8))=false:=beq_false_of_ne hn
 have q:(48:UInt8)=48∧(a8 t).length≤9223372036854775807:=⟨rfl,by omega⟩
 by_cases hr:8192 < (mdS t).length
 ·have hE:mdE t x=12:=by unfold mdE; rw [if_neg hn,if_pos hr]
  rw [z0c (by unfold mdI; rw [hE]; simp) hE]
  exact u7 vU (n1f g t x) ⟨decide_eq_true (Int.ofNat_lt.2 hr),q,hn',rfl,trivial⟩
 have hr':decide (Int.ofNat 8192 < Int.ofNat (mdS t).length)=false:=decide_eq_false fun h=>hr (Int.ofNat_lt.1 h)
 have hW:mdW t=mdB t:=by unfold mdW; exact wr (by unfold mdB at b0; omega) (by unfold mdB at b1; omega)
 have hR:mdR t x=decide (20000-mdB t < x∨x < -20000-mdB t):=by
  unfold mdR
  rw [hW,wr (by omega) (by omega),wr (by omega) (by omega)]
  by_cases ha:20000-mdB t < x
  ·rw [decide_eq_true (show x > 20000-mdB t from ha),show decide (20000-mdB t < x∨x < -20000-mdB t)=true from decide_eq_true (Or.inl ha)]
  ·rw [decide_eq_false (show ¬x > 20000-mdB t from ha)]
   by_cases hb:x < -20000-mdB t
   ·simp [hb]
   ·simp [ha,hb]
 by_cases hx:20000-mdB t < x∨x < -20000-mdB t
 ·have hE:mdE t x=11:=by unfold mdE; rw [if_neg hn,if_neg hr,if_pos hx]
  rw [z0c (by unfold mdI; rw [hE]; simp) hE]
  exact u7 vU (i1g g t x) ⟨by rw [hR]; exact decide_eq_true hx,hr',q,hn',rfl,trivial⟩
 ·have hE:mdE t x=0:=by unfold mdE; rw [if_neg hn,if_neg hr,if_neg hx]
  have hI:mdI t x=true:=by unfold mdI; rw [hE,decide_eq_true (by simpa using hn)]; rfl
  have:=u7 vU (c2m g t x) ⟨by omega,by rw [hR]; exact decide_eq_false hx,hr',q,hn',rfl,trivial⟩
  rw [hW,wr (by omega) (by omega)] at this
  unfold mdV mdN mdD mdX
  rw [hI,hE]
  exact this
def e0v:List Value→Option (Value×List Prop)
 | [.bool g, .string ⟨⟨t⟩⟩, .int .i64 x] =>some (mdV g t x,[t.length≤140737488351232])
 | _=>none
theorem n0f (args:List Value) (v:Value) (l:List Prop) (h:e0v args=some (v,l)) (hl:d5 l):Ev.Pure Tryz.prog J0 85 args v:=by
 unfold e0v at h
 split at h
 ·cases h; exact y0d hl.1
 ·cases h
noncomputable def k1f:Tab:=i6 85 e0v z0o
theorem u0e:N1 Tryz.prog J0 k1f:=b6 n0f zG
noncomputable def bNb8:Base:=⟨Tryz.prog,J0,false,k1f,C4,2000,H8⟩
theorem xA:BaseOk bNb8:=⟨progOk,u0e,m6 _ _,i7⟩
noncomputable abbrev y1d:=bNb8.cx 12
theorem c2s (g:Bool) (t:List UInt8) (x:Int):a6 y1d [] 200 65 [.bool g, .string ⟨⟨t⟩⟩, .int .i64 x] [true] =some (.tuple ⟨[dcV false [] 0, .int .i64 3]⟩,[(!r8 t)=true,t.length≤9223372036854775807]):=by kernel_rfl
theorem a2v (g:Bool) (t:List UInt8) (x:Int):a6 y1d [] 200 65 [.bool g, .string ⟨⟨t⟩⟩, .int .i64 x] [false] =some (mdV g t x,[t.length≤140737488351232,(!r8 t)=false,t.length≤9223372036854775807]):=by kernel_rfl
theorem s0v {g:Bool} {t:List UInt8} {x:Int} (hl:t.length≤140737488351232):Ev.Pure Tryz.prog J0 65 [.bool g, .string ⟨⟨t⟩⟩, .int .i64 x] (if r8 t=true then mdV g t x else .tuple ⟨[dcV false [] 0, .int .i64 3]⟩):=by
 cases h:r8 t with
 | true=>
  simp only [if_true]
  exact u7 xA (a2v g t x) ⟨hl,by rw [h]; rfl,by omega,trivial⟩
 | false=>
  simp only [Bool.false_eq_true,if_false]
  exact u7 xA (c2s g t x) ⟨by rw [h]; rfl,by omega,trivial⟩
def v1B (t:List UInt8):Bool:=decide ((t.length:Int)≤8192)
def v2B (t:List UInt8):Bool:=match v1B t with | true=>r8 t | false=>false
def v3B (t:List UInt8):Bool:=match v2B t with | true=>chI t 0 !=48 | false=>false
def vaB (t:List UInt8) (x:Int):Bool:=match match match v3B t with | true=>chI t (U1 t) !=48 | false=>false with | true=>decide (x≥-20000) | false=>false with | true=>decide (x≤20000) | false=>false
def f2k (t:List UInt8):Prop:=A0 [(13,v3B t),(7,v2B t),(2,v1B t)] [(13,true)] →0≤U1 t∧(U1 t).toNat < t.length
def e2p (t:List UInt8):Prop:=A0 [(7,v2B t),(2,v1B t)] [(7,true)] →(0:Int)≤0∧(0:Int).toNat < t.length
def e2h (t:List UInt8):Prop:=A0 [(2,v1B t)] [(2,true)] →t.length≤9223372036854775807
section
variable (g:Bool) (t:List UInt8) (x:Int)
theorem z1r:a6 y1d [] 200 125 [dcV g t x] [true] =some (.bool (g==false && (t==([] :List UInt8) && (x==Int.ofNat 0 && true))),[(t==([] :List UInt8))=true]):=by kernel_rfl
theorem c2k:a6 y1d [] 200 125 [dcV g t x] [false] =some (.bool (vaB t x),[f2k t,e2p t,e2h t,(t==([] :List UInt8))=false]):=by kernel_rfl
end
def U0 (g:Bool) (t:List UInt8) (x:Int):Bool:=if t=[] then g==false && x==0 else vaB t x
theorem yA {g:Bool} {t:List UInt8} {x:Int} (hl:t.length≤9223372036854775807):Ev.Pure Tryz.prog J0 125 [dcV g t x] (.bool (U0 g t x)):=by
 unfold U0
 by_cases h:t=[]
 ·rw [if_pos h]
  subst h
  have:=u7 xA (z1r g [] x) ⟨rfl,trivial⟩
  rw [show (g==false && (([] :List UInt8)==[] && (x==Int.ofNat 0 && true)))=(g==false && x==0) by
   rw [show (([] :List UInt8)==[])=true from rfl,Bool.true_and,Bool.and_true]; rfl] at this
  exact this
 ·rw [if_neg h]
  have hp:0 < t.length:=List.length_pos_iff.2 h
  have hla:U1 t=((t.length-1:Nat):Int):=by unfold U1; rw [wr (by omega) (by omega)]; omega
  exact u7 xA (c2k g t x) ⟨fun _=>by rw [hla,Int.toNat_natCast]; omega,fun _=>⟨by decide,hp⟩,fun _=>hl,beq_false_of_ne h,trivial⟩
def fF:List Value→Option (Value×List Prop)
 | [.agg ⟨[.bool g, .string ⟨⟨t⟩⟩, .int .i64 x]⟩] =>some (.bool (U0 g t x),[t.length≤9223372036854775807])
 | _=>none
theorem uK (args:List Value) (v:Value) (l:List Prop) (h:fF args=some (v,l)) (hl:d5 l):Ev.Pure Tryz.prog J0 125 args v:=by
 unfold fF at h
 split at h
 ·cases h; exact yA hl.1
 ·cases h
open Go Go.RowKit Ev Wd VaS
def x0v:List Arg→Option (List Arg×List Prop)
 | [.c (.v (.agg ⟨[.bool n1, .string ⟨⟨d1⟩⟩, .int .i64 e1]⟩)), .c (.v (.agg ⟨[.bool n2, .string ⟨⟨d2⟩⟩, .int .i64 e2]⟩))] =>some ([vlA (n1 !=n2) false (ws W64 (qtN d1 (e1-e2))) false (ws W64 (qtD d2 (e1-e2)))],[P9 d1∧P9 d2∧d1.length≤100000∧d2.length≤100000∧(-1000000≤e1-e2∧e1-e2≤1000000)∧(-1000≤(d1.length:Int)-d2.length+(e1-e2)∧(d1.length:Int)-d2.length+(e1-e2)≤1000)])
 | _=>none
theorem r0o:∀ az rs l,x0v az=some (rs,l)→d5 l→Ev.Sem Tryz.prog J0 76 az rs:=by
 intro az rs l h hl
 unfold x0v at h
 split at h
 ·cases h
  obtain⟨⟨h1,h2,h3,h4,h5,h6⟩,_⟩:=hl
  exact b0l _ _ h1 h2 h3 h4 h5 h6
 ·cases h
def u0r:List Arg→Option (List Arg×List Prop)
 | [.a [.v (.bool n), .v (.bool false), .v (.bool false), .s 32 .u64 N, .v (.bool false), .s 32 .u64 D], .c (.v (.int .i64 1))] =>
  some ([xR (nuW n (val W64 N) (val W64 D)),fR (k0w 53 971 (val W64 N) (val W64 D) (p9 53 (-1074) (val W64 N) (val W64 D))) (B1 53 971 (val W64 N) (val W64 D) (p9 53 (-1074) (val W64 N) (val W64 D))) (qT 53 (val W64 N) (val W64 D) (p9 53 (-1074) (val W64 N) (val W64 D)))],[Cn N∧Cn D∧0 < val W64 D∧bl (val W64 N)≤1000000∧bl (val W64 D)≤1000000])
 | _=>none
theorem q0h:∀ az rs l,u0r az=some (rs,l)→d5 l→Ev.Sem Tryz.prog J0 112 az rs:=by
 intro az rs l h hl
 unfold u0r at h
 split at h
 ·cases h
  rename_i n N D
  obtain⟨⟨c1,c2,hD,h1,h2⟩,_⟩:=hl
  unfold Cn at c1 c2
  have:=m0p n (N:=val W64 N) (D:=val W64 D) hD h1 h2
  rw [← c1,← c2] at this
  exact this
 ·cases h
theorem r1o:Ev.Pure Tryz.prog J0 67 [.int .i64 1] (.agg ⟨[.bool false, .string ⟨⟨[49]⟩⟩, .int .i64 0]⟩):=
 d6 u1s 30 [] [] (l:=[]) (by kernel_rfl) trivial
noncomputable def a1k:Tab:=i6 125 fF (i6 67 (atS [([.int .i64 1], .agg ⟨[.bool false, .string ⟨⟨[49]⟩⟩, .int .i64 0]⟩)]) n1m)
theorem a0y:N1 Tryz.prog J0 a1k:=b6 uK (b6 (I5 (fun p hp=>by simp only [List.mem_cons,List.not_mem_nil,or_false] at hp; subst hp; exact r1o)) j0o)
noncomputable def fT:kM:=l5 112 (y3 [shM,shV] u0r) (l5 76 (y3 [shV,shV] x0v) g0r)
theorem Q3:kY Tryz.prog J0 fT:=b8 (g9 _ q0h) (b8 (g9 _ r0o) sZ)
noncomputable def bRo3:Base:=⟨Tryz.prog,J0,false,a1k,fT,200,H8⟩
theorem v0f:BaseOk bRo3:=⟨progOk,a0y,Q3,i7⟩
noncomputable abbrev d2y:Cx:=bRo3.cx 10
def tkW (N:Nat):List Int:=List.take (ws W64 N).length (ws W64 N)
def qv (N:Nat):Nat:=val W64 (tkW N)
theorem z0z (N:Nat):tkW N=ws W64 N:=List.take_length
theorem w1p (N:Nat):qv N=N:=by unfold qv; rw [z0z]; exact t8 N
section
variable (n1 n2:Bool) (d1 d2:List UInt8) (e1 e2:Int) (r:Nat) (a b c:Bool)
theorem y0v:n8 d2y [] 200 66 [dA n1 d1 e1,dA n2 d2 e2,iR 1] [xR r,fR a b c,iR 0] [true,false,true,false,false,false,false,false] =some [(ws W64 (qtN d1 (e1-e2))).length≤(ws W64 (qtN d1 (e1-e2))).length,(ws W64 (qtD d2 (e1-e2))).length≤(ws W64 (qtD d2 (e1-e2))).length,
 Cn (tkW (qtN d1 (e1-e2)))∧Cn (tkW (qtD d2 (e1-e2)))∧0 < (qv (qtD d2 (e1-e2)))∧bl (qv (qtN d1 (e1-e2)))≤1000000∧bl (qv (qtD d2 (e1-e2)))≤1000000,
 P9 d1∧P9 d2∧d1.length≤100000∧d2.length≤100000∧(-1000000≤e1-e2∧e1-e2≤1000000)∧(-1000≤(d1.length:Int)-d2.length+(e1-e2)∧(d1.length:Int)-d2.length+(e1-e2)≤1000),
 (d1==[])=false,(d2==[])=false,false=false,false=false,(!U0 n2 d2 e2)=false,d2.length≤9223372036854775807,(0:Int)≤1∧(1:Int) < 2,true=true,(!U0 n1 d1 e1)=false,d1.length≤9223372036854775807,(0:Int)≤0∧(0:Int) < 2,true=true,
 Value.float .f64 (nuW (n1 !=n2) (qv (qtN d1 (e1-e2))) (qv (qtD d2 (e1-e2))))=Value.float .f64 r,Value.bool (k0w 53 971 (qv (qtN d1 (e1-e2))) (qv (qtD d2 (e1-e2))) (p9 53 (-1074) (qv (qtN d1 (e1-e2))) (qv (qtD d2 (e1-e2)))))=Value.bool a,Value.bool (B1 53 971 (qv (qtN d1 (e1-e2))) (qv (qtD d2 (e1-e2))) (p9 53 (-1074) (qv (qtN d1 (e1-e2))) (qv (qtD d2 (e1-e2)))))=Value.bool b,Value.bool (qT 53 (qv (qtN d1 (e1-e2))) (qv (qtD d2 (e1-e2))) (p9 53 (-1074) (qv (qtN d1 (e1-e2))) (qv (qtD d2 (e1-e2)))))=Value.bool c,Value.int .i64 0=Value.int .i64 0] :=by kernel_rfl
end
theorem mX {b:UInt8} {r:List UInt8} (hb:48≤b.toNat∧b.toNat≤57) (hr:P9 r):P9 (b ::r)∧dgN (b ::r)=(b.toNat-48)*10 ^r.length+dgN r:=by
 have hd:Lib.digitVal b=some (b.toNat-48):=by
  unfold Lib.digitVal
  rw [if_pos hb]
 unfold P9 dgN at*
 simp only [Lib.decFrom,hd]
 rw [D7 r]
 cases h:Lib.decFrom 0 r with
 | none=>rw [h] at hr; cases hr
 | some n=>
  refine⟨rfl,?_⟩
  show (0*10+(b.toNat-48))*10 ^r.length+n=_
  rw [Nat.zero_mul,Nat.zero_add]
  rfl
theorem f0u:∀ {t:List UInt8},(∀ i,i < t.length→48≤(t.getD i 0).toNat∧(t.getD i 0).toNat≤57)→P9 t
 | [],_=>rfl
 | _ ::_,h=>(mX (h 0 (Nat.zero_lt_succ _)) (f0u fun i hi=>h (i+1) (Nat.succ_lt_succ hi))).1
theorem zS {t:List UInt8} (h:r8 t=true):∀ i,i < t.length→48≤(t.getD i 0).toNat∧(t.getD i 0).toNat≤57:=by
 intro i hi
 unfold r8 at h
 have h1:=List.all_eq_true.1 h i (List.mem_range.2 hi)
 have h2:ndB t i=false:=by simpa using h1
 unfold ndB at h2
 have e:chI t (i:Int)=((t.getD i 0).toNat:Int):=by
  show ((t.getD ((i:Int)).toNat 0).toNat:Int)=_
  rw [Int.toNat_natCast]
 rw [e] at h2
 generalize (t.getD i 0).toNat=c at*
 by_cases hc:(c:Int) < 48
 ·rw [decide_eq_true hc] at h2; cases h2
 ·rw [decide_eq_false hc] at h2
  have:=of_decide_eq_false h2
  omega
theorem T2 {g:Bool} {t:List UInt8} {x:Int} (h:U0 g t x=true):P9 t∧t.length≤8192∧-20000≤x∧x≤20000∧(t≠[] →0 < dgN t):=by
 unfold U0 at h
 by_cases h0:t=[]
 ·rw [if_pos h0] at h
  subst h0
  have hx:x=0:=by
   cases g
   ·simpa using h
   ·cases h
  exact⟨rfl,by decide,by omega,by omega,fun k=>absurd rfl k⟩
 ·rw [if_neg h0] at h
  cases h3:v3B t <;> cases h4:(chI t (U1 t) !=48) <;> cases h5:decide (x≥-20000) <;> simp only [vaB,h3,h4,h5] at h <;> try cases h
  have hx2:=of_decide_eq_true h
  have hx1:=of_decide_eq_true h5
  unfold v3B at h3
  cases h2:v2B t
  ·rw [h2] at h3; cases h3
  ·rw [h2] at h3
   unfold v2B at h2
   cases h1:v1B t
   ·rw [h1] at h2; cases h2
   ·rw [h1] at h2
    have hl:=of_decide_eq_true h1
    have ha:=zS h2
    refine⟨f0u ha,by omega,hx1,hx2,fun _=> ?_⟩
    cases t with
    | nil=>exact absurd rfl h0
    | cons b r=>
     have hb:48≤b.toNat∧b.toNat≤57:=ha 0 (Nat.zero_lt_succ _)
     have hr:P9 r:=f0u fun i hi=>ha (i+1) (Nat.succ_lt_succ hi)
     rw [(mX hb hr).2]
     have hb0:b.toNat≠48:=by
      intro e
      have e2:chI (b ::r) 0=48:=by
       show ((b.toNat:Nat):Int)=48
       rw [e]; rfl
      rw [e2] at h3
      cases h3
     have hb1:48≤b.toNat:=hb.1
     have h9:1*1≤(b.toNat-48)*10 ^r.length:=Nat.mul_le_mul (by omega) (Nat.pow_pos (by decide))
     omega
theorem j0h {n k:Nat} (h:n < 10 ^k):bl n≤4*k:=by
 refine bl_le.2 (Nat.lt_of_lt_of_le h ?_)
 rw [Nat.pow_mul]
 exact Nat.pow_le_pow_left (by decide) k
theorem j1v {d:List UInt8} {e:Int} (h:P9 d) (hl:d.length≤8192) (he:e≤40000):bl (qtN d e)≤1000000:=by
 have h1:=j0e h
 unfold qtN
 split
 ·have h2:dgN d*10 ^e.toNat < 10 ^(d.length+e.toNat):=by
   rw [Nat.pow_add]
   exact Nat.mul_lt_mul_of_pos_right h1 (Nat.pow_pos (by decide))
  have:=j0h h2
  omega
 ·have:=j0h h1
  omega
theorem j1z {d:List UInt8} {e:Int} (h:P9 d) (hl:d.length≤8192) (he: -40000≤e):bl (qtD d e)≤1000000:=by
 have h1:=j0e h
 unfold qtD
 split
 ·have:=j0h h1
  omega
 ·have h2:dgN d*10 ^(-e).toNat < 10 ^(d.length+(-e).toNat):=by
   rw [Nat.pow_add]
   exact Nat.mul_lt_mul_of_pos_right h1 (Nat.pow_pos (by decide))
  have:=j0h h2
  omega
theorem w0q {d:List UInt8} {e:Int} (h:0 < dgN d):0 < qtD d e:=by
 unfold qtD
 split
 ·exact h
 ·exact Nat.mul_pos h (Nat.pow_pos (by decide))
abbrev raV (n:Bool) (N D:Nat):List Arg:=[xR (nuW n N D),fR (k0w 53 971 N D (p9 53 (-1074) N D)) (B1 53 971 N D (p9 53 (-1074) N D)) (qT 53 N D (p9 53 (-1074) N D)),iR 0]
theorem a1u {n1 n2:Bool} {d1 d2:List UInt8} {e1 e2:Int} (h1:U0 n1 d1 e1=true) (h2:U0 n2 d2 e2=true) (k1:d1≠[]) (k2:d2≠[]) (hf: -1000≤(d1.length:Int)-d2.length+(e1-e2)∧(d1.length:Int)-d2.length+(e1-e2)≤1000):
  Ev.Sem Tryz.prog J0 66 [dA n1 d1 e1,dA n2 d2 e2,iR 1] (raV (n1 !=n2) (qtN d1 (e1-e2)) (qtD d2 (e1-e2))):=by
 obtain⟨a1,a2,a3,a4,a5⟩:=T2 h1
 obtain⟨b1,b2,b3,b4,b5⟩:=T2 h2
 refine d9 v0f 10 _ _ (y0v n1 n2 d1 d2 e1 e2 _ _ _ _) ?_
 rw [w1p,w1p,z0z,z0z,h1,h2]
 exact⟨Nat.le_refl _,Nat.le_refl _,⟨Cn.ws _,Cn.ws _,w0q (b5 k2),j1v a1 a2 (by omega),j1z b1 b2 (by omega)⟩,⟨a1,b1,by omega,by omega,⟨by omega,by omega⟩,hf⟩,beq_false_of_ne k1,beq_false_of_ne k2,rfl,rfl,rfl,by omega,⟨by decide,by decide⟩,rfl,rfl,by omega,⟨by decide,by decide⟩,rfl,rfl,rfl,rfl,rfl,rfl,trivial⟩
def raW (n:Bool) (d1 d2:List UInt8) (e:Int):Nat:=if d1=[] then 0 else nuW n (qtN d1 e) (qtD d2 e)
def raX (d1 d2:List UInt8) (e:Int):Bool:=if d1=[] then false else k0w 53 971 (qtN d1 e) (qtD d2 e) (p9 53 (-1074) (qtN d1 e) (qtD d2 e))
def raI (d1 d2:List UInt8) (e:Int):Bool:=if d1=[] then false else B1 53 971 (qtN d1 e) (qtD d2 e) (p9 53 (-1074) (qtN d1 e) (qtD d2 e))
def raU (d1 d2:List UInt8) (e:Int):Bool:=if d1=[] then false else qT 53 (qtN d1 e) (qtD d2 e) (p9 53 (-1074) (qtN d1 e) (qtD d2 e))
def y1i (n1 n2:Bool) (d1 d2:List UInt8) (e1 e2:Int):Prop:=U0 n1 d1 e1=true∧U0 n2 d2 e2=true∧d2≠[] ∧(d1≠[] →-1000≤(d1.length:Int)-d2.length+(e1-e2)∧(d1.length:Int)-d2.length+(e1-e2)≤1000)
theorem z0f (n1 n2:Bool) (d2:List UInt8) (e1 e2:Int):n8 d2y [] 200 66 [dA n1 [] e1,dA n2 d2 e2,iR 1] [xR 0,fR false false false,iR 0] [true,false,true,false,false,false,false,true] =some [true=true,(d2==[])=false,false=false,false=false,(!U0 n2 d2 e2)=false,d2.length≤9223372036854775807,(0:Int)≤1∧(1:Int) < 2,true=true,(!U0 n1 [] e1)=false,0≤9223372036854775807,(0:Int)≤0∧(0:Int) < 2,true=true,Value.float .f64 0=Value.float .f64 0,Value.bool false=Value.bool false,Value.bool false=Value.bool false,Value.bool false=Value.bool false,Value.int .i64 0=Value.int .i64 0] :=by kernel_rfl
theorem p1n {n1 n2:Bool} {d1 d2:List UInt8} {e1 e2:Int} (h:y1i n1 n2 d1 d2 e1 e2):Ev.Sem Tryz.prog J0 66 [dA n1 d1 e1,dA n2 d2 e2,iR 1] [xR (raW (n1 !=n2) d1 d2 (e1-e2)),fR (raX d1 d2 (e1-e2)) (raI d1 d2 (e1-e2)) (raU d1 d2 (e1-e2)),iR 0] :=by
 obtain⟨h1,h2,k2,h3⟩:=h
 unfold raW raX raI raU
 by_cases hd:d1=[]
 ·rw [if_pos hd,if_pos hd,if_pos hd,if_pos hd]
  subst hd
  refine d9 v0f 10 _ _ (z0f n1 n2 d2 e1 e2) ?_
  rw [h1,h2]
  obtain⟨b1,b2,b3,b4,b5⟩:=T2 h2
  exact⟨rfl,beq_false_of_ne k2,rfl,rfl,rfl,by omega,⟨by decide,by decide⟩,rfl,rfl,by decide,⟨by decide,by decide⟩,rfl,rfl,rfl,rfl,rfl,rfl,trivial⟩
 ·rw [if_neg hd,if_neg hd,if_neg hd,if_neg hd]
  exact a1u h1 h2 hd k2 (h3 hd)
def b1r:List Arg→Option (List Arg×List Prop)
 | [.c (.v (.agg ⟨[.bool n1, .string ⟨⟨d1⟩⟩, .int .i64 e1]⟩)), .c (.v (.agg ⟨[.bool n2, .string ⟨⟨d2⟩⟩, .int .i64 e2]⟩)), .c (.v (.int .i64 1))] =>some ([xR (raW (n1 !=n2) d1 d2 (e1-e2)),fR (raX d1 d2 (e1-e2)) (raI d1 d2 (e1-e2)) (raU d1 d2 (e1-e2)),iR 0],[y1i n1 n2 d1 d2 e1 e2])
 | _=>none
theorem b1h:∀ az rs l,b1r az=some (rs,l)→d5 l→Ev.Sem Tryz.prog J0 66 az rs:=by
 intro az rs l h hl
 unfold b1r at h
 split at h
 ·cases h
  exact p1n hl.1
 ·cases h
noncomputable def fI:kM:=l5 66 (y3 [shV,shV,shV] b1r) fT
theorem O8:kY Tryz.prog J0 fI:=b8 (g9 _ b1h) Q3
def t0d:List Value→Option (Value×List Prop)
 | [.bool g, .string ⟨⟨t⟩⟩, .int .i64 x] =>some (mdV g t x,[t.length≤140737488351232,r8 t=true])
 | _=>none
theorem w0l (args:List Value) (v:Value) (l:List Prop) (h:t0d args=some (v,l)) (hl:d5 l):Ev.Pure Tryz.prog J0 65 args v:=by
 unfold t0d at h
 split at h
 ·cases h
  obtain⟨h1,h2,_⟩:=hl
  have:=fun g x=>s0v (g:=g) (x:=x) h1
  simp only [if_pos h2] at this
  exact this _ _
 ·cases h
noncomputable def t0i:Tab:=i6 65 t0d (i6 63 j0y a1k)
theorem b0q:N1 Tryz.prog J0 t0i:=b6 w0l (b6 c0m a0y)
noncomputable def bRo5:Base:=⟨Tryz.prog,J0,false,t0i,fI,200,H8⟩
theorem mG:BaseOk bRo5:=⟨progOk,b0q,O8,i7⟩
noncomputable abbrev x1c:Cx:=bRo5.cx 10
def neP (d:List UInt8) (e:Int):Int:=IntKind.i64.wrap (Int.ofNat (a8 d).length+e)
abbrev p1f (hx:Bool) (d:List UInt8) (e n:Int):List Arg:=[.c (.v (pcV hx d e n)),iR 53,iR (-1074), .c (.v (.func (.func 32) ⟨[]⟩ ⟨[]⟩))]
section
variable (hx:Bool) (d:List UInt8) (e n:Int) (r:Nat) (z:Int)
theorem e2f:n8 x1c [] 200 31 (p1f hx d e n) [xR r,iR z] [true] =some [(a8 d==([] :List UInt8))=true,(48:UInt8)=48,Value.float .f64 0=Value.float .f64 r,Value.int .i64 0=Value.int .i64 z] :=by kernel_rfl
theorem e2i:n8 x1c [] 200 31 (p1f hx d e n) [xR r,iR z] [false,false,true] =some [decide (400 < neP d e)=true,hx=false,(a8 d==([] :List UInt8))=false,(48:UInt8)=48,Value.float .f64 9218868437227405312=Value.float .f64 r,Value.int .i64 0=Value.int .i64 z] :=by kernel_rfl
theorem e2u:n8 x1c [] 200 31 (p1f hx d e n) [xR r,iR z] [false,false,false,true] =some [decide (neP d e < Int.negSucc 399)=true,decide (400 < neP d e)=false,hx=false,(a8 d==([] :List UInt8))=false,(48:UInt8)=48,Value.float .f64 0=Value.float .f64 r,Value.int .i64 0=Value.int .i64 z] :=by kernel_rfl
theorem e2y:n8 x1c [] 200 31 (p1f hx d e n) [xR r,iR z] [false,false,false,false,true] =some [(mdE (a8 d) e !=0)=true,(a8 d).length≤140737488351232,r8 (a8 d)=true,decide (neP d e < Int.negSucc 399)=false,decide (400 < neP d e)=false,hx=false,(a8 d==([] :List UInt8))=false,(48:UInt8)=48,Value.float .f64 0=Value.float .f64 r,Value.int .i64 (mdE (a8 d) e)=Value.int .i64 z] :=by kernel_rfl
theorem f2w:n8 x1c [] 200 31 (p1f hx d e n) [xR r,iR z] [false,false,false,false,false] =some [y1i (mdN false (a8 d) e) false (mdD (a8 d) e) [49] (mdX (a8 d) e) 0,(mdE (a8 d) e !=0)=false,(a8 d).length≤140737488351232,r8 (a8 d)=true,decide (neP d e < Int.negSucc 399)=false,decide (400 < neP d e)=false,hx=false,(a8 d==([] :List UInt8))=false,(48:UInt8)=48,Value.float .f64 (raW (mdN false (a8 d) e !=false) (mdD (a8 d) e) [49] (mdX (a8 d) e-0))=Value.float .f64 r,Value.int .i64 0=Value.int .i64 z] :=by kernel_rfl
end
theorem allDB_mem {t:List UInt8} :r8 t=true↔∀ b∈t,48≤b.toNat∧b.toNat≤57:=by
 constructor
 ·intro h b hb
  obtain⟨i,hi,rfl⟩:=List.mem_iff_getElem.1 hb
  have:=zS h i hi
  rw [List.getD_eq_getElem?_getD,List.getElem?_eq_getElem hi] at this
  exact this
 ·intro h
  unfold r8
  refine List.all_eq_true.2 fun i hi=> ?_
  have hi:=List.mem_range.1 hi
  have hb:=h _ (List.getElem_mem hi)
  have e:chI t (i:Int)=((t[i].toNat:Nat):Int):=by
   show ((t.getD ((i:Int)).toNat 0).toNat:Int)=_
   rw [Int.toNat_natCast,List.getD_eq_getElem?_getD,List.getElem?_eq_getElem hi]
   rfl
  have:ndB t i=false:=by
   unfold ndB
   rw [e,decide_eq_false (by omega)]
   exact decide_eq_false (by omega)
  rw [this]
  rfl
theorem E1:∀ {t:List UInt8} {b:UInt8},b∈a8 t→b∈t
 | [],_,h=>h
 | c ::r,b,h=>by
  unfold a8 at h
  split at h
  ·exact List.mem_cons_of_mem _ (E1 h)
  ·exact h
theorem F6:∀ {t:List UInt8} {c:UInt8} {r:List UInt8},a8 t=c ::r→c≠48
 | [],_,_,h=>by cases h
 | a ::q,c,r,h=>by
  unfold a8 at h
  split at h
  ·exact F6 h
  ·cases h; assumption
theorem tM {c:UInt8} (hc:c≠48):∀ (w:List UInt8),∃ w',a8 (w++[c])=w'++[c]
 | [] =>⟨[],by show (if c=48 then a8 [] else [c])=_; rw [if_neg hc]; rfl⟩
 | a ::q=>by
  by_cases ha:a=48
  ·obtain⟨w',h⟩:=tM hc q
   exact⟨w',by show (if a=48 then a8 (q++[c]) else a ::(q++[c]))=_; rw [if_pos ha]; exact h⟩
  ·exact⟨a ::q,by show (if a=48 then a8 (q++[c]) else a ::(q++[c]))=_; rw [if_neg ha]; rfl⟩
theorem wB {t:List UInt8} (h:a8 t≠[]):∃ c r,mdS t=c ::r∧c≠48∧∃ a q,mdS t=q++[a] ∧a≠48:=by
 cases hu:a8 t with
 | nil=>exact absurd hu h
 | cons c r=>
  have hc:=F6 hu
  obtain⟨w',hw⟩:=tM hc r.reverse
  have hS:mdS t=(w'++[c]).reverse:=by
   unfold mdS M9
   rw [hu,List.reverse_cons,hw]
  refine⟨c,w'.reverse,by rw [hS]; simp,hc,?_⟩
  cases hq:w'++[c] with
  | nil=>simp at hq
  | cons a q=>
   rw [hq] at hw
   refine⟨a,q.reverse,by rw [hS,hq]; simp,F6 hw⟩
theorem h0v {t:List UInt8} {b:UInt8} (h:b∈mdS t):b∈t:=by
 unfold mdS M9 at h
 exact E1 (List.mem_reverse.1 (E1 (List.mem_reverse.1 h)))
theorem b1b {g:Bool} {t:List UInt8} {x:Int} (h:r8 t=true):U0 (mdN g t x) (mdD t x) (mdX t x)=true:=by
 unfold mdN mdD mdX
 cases hI:mdI t x with
 | false=>
  rw [if_neg (by decide),if_neg (by decide),if_neg (by decide)]
  rfl
 | true=>
  rw [if_pos rfl,if_pos rfl,if_pos rfl]
  unfold mdI at hI
  rw [Bool.and_eq_true] at hI
  have hn:a8 t≠[] :=of_decide_eq_true hI.1
  have hE:=of_decide_eq_true hI.2
  unfold mdE at hE
  rw [if_neg hn] at hE
  by_cases h1:8192 < (mdS t).length
  ·rw [if_pos h1] at hE; cases hE
  rw [if_neg h1] at hE
  by_cases h2:20000-mdB t < x∨x < -20000-mdB t
  ·rw [if_pos h2] at hE; cases hE
  obtain⟨c,r,e1,hc,a,q,e2,ha⟩:=wB hn
  unfold U0
  rw [if_neg (by rw [e1]; simp)]
  have hc2:(chI (mdS t) 0 !=48)=true:=by
   rw [e1]
   show (((c.toNat:Nat):Int) !=48)=true
   have:c.toNat≠48:=fun h=>hc (UInt8.toNat_inj.1 h)
   rw [bne_iff_ne]
   omega
  have hl:U1 (mdS t)=(q.length:Int):=by
   unfold U1
   rw [e2,List.length_append,List.length_singleton]
   have:=congrArg List.length e2
   rw [List.length_append,List.length_singleton] at this
   rw [wr (by omega) (by omega)]
   omega
  have ha2:(chI (mdS t) (U1 (mdS t)) !=48)=true:=by
   rw [hl,e2]
   show ((((q++[a]).getD ((q.length:Int)).toNat 0).toNat:Int) !=48)=true
   rw [Int.toNat_natCast,List.getD_eq_getElem?_getD,List.getElem?_append_right (Nat.le_refl _),Nat.sub_self]
   show (((a.toNat:Nat):Int) !=48)=true
   have:a.toNat≠48:=fun h=>ha (UInt8.toNat_inj.1 h)
   rw [bne_iff_ne]
   omega
  have hd:r8 (mdS t)=true:=allDB_mem.2 fun b hb=>allDB_mem.1 h b (h0v hb)
  unfold vaB v3B v2B v1B
  rw [decide_eq_true (show ((mdS t).length:Int)≤8192 by omega),hc2,ha2,hd,decide_eq_true (show x+mdB t≥-20000 by omega)]
  exact decide_eq_true (by omega)
def neQ (d:List UInt8) (e:Int):Int:=((a8 d).length:Int)+e
def neW (d:List UInt8) (e:Int):Nat:=if a8 d=[] then 0 else if 400 < neQ d e then 9218868437227405312 else if neQ d e < -400 then 0 else if mdE (a8 d) e≠0 then 0 else raW false (mdD (a8 d) e) [49] (mdX (a8 d) e)
def neE (d:List UInt8) (e:Int):Int:=if a8 d=[] then 0 else if 400 < neQ d e then 0 else if neQ d e < -400 then 0 else mdE (a8 d) e
theorem x8 {d:List UInt8} :a8 (a8 d)=a8 d:=by
 cases h:a8 d with
 | nil=>rfl
 | cons c r=>
  show (if c=48 then a8 r else c ::r)=_
  rw [if_neg (F6 h)]
theorem l0d {d:List UInt8} {e:Int} (h1:neQ d e≤400) (h2: -400≤neQ d e) (hne:mdD (a8 d) e≠[]): -1000≤((mdD (a8 d) e).length:Int)- ([49] :List UInt8).length+(mdX (a8 d) e-0)∧((mdD (a8 d) e).length:Int)- ([49] :List UInt8).length+(mdX (a8 d) e-0)≤1000:=by
 unfold mdD mdX at*
 cases hI:mdI (a8 d) e with
 | false=>
  rw [hI,if_neg (by decide)] at hne
  exact absurd rfl hne
 | true=>
  rw [if_pos rfl,if_pos rfl]
  unfold mdB
  rw [x8]
  unfold neQ at*
  rw [List.length_singleton]
  omega
theorem h1w {d:List UInt8} {e n:Int} (hd:r8 d=true) (hl:d.length≤140737488351232) (he: -1000000000000000000≤e∧e≤1000000000000000000):Ev.Sem Tryz.prog J0 31 (p1f false d e n) [xR (neW d e),iR (neE d e)] :=by
 have hle:=B3 d
 have hP:neP d e=neQ d e:=by
  unfold neP neQ
  exact wr (by show -9223372036854775808≤((a8 d).length:Int)+e; omega) (by show ((a8 d).length:Int)+e≤9223372036854775807; omega)
 have hT:r8 (a8 d)=true:=allDB_mem.2 fun b hb=>allDB_mem.1 hd b (E1 hb)
 unfold neW neE
 by_cases h0:a8 d=[]
 ·rw [if_pos h0,if_pos h0]
  refine d9 mG 10 _ _ (e2f false d e n _ _) ?_
  rw [h0]
  exact⟨rfl,rfl,rfl,rfl,trivial⟩
 have k0:(a8 d==([] :List UInt8))=false:=beq_false_of_ne h0
 rw [if_neg h0,if_neg h0]
 by_cases h1:400 < neQ d e
 ·rw [if_pos h1,if_pos h1]
  refine d9 mG 10 _ _ (e2i false d e n _ _) ?_
  rw [hP]
  exact⟨decide_eq_true h1,rfl,k0,rfl,rfl,rfl,trivial⟩
 have k1:decide (400 < neP d e)=false:=by rw [hP]; exact decide_eq_false h1
 rw [if_neg h1,if_neg h1]
 by_cases h2:neQ d e < -400
 ·rw [if_pos h2,if_pos h2]
  refine d9 mG 10 _ _ (e2u false d e n _ _) ?_
  exact⟨by rw [hP]; exact decide_eq_true h2,k1,rfl,k0,rfl,rfl,rfl,trivial⟩
 have k2:decide (neP d e < Int.negSucc 399)=false:=by rw [hP]; exact decide_eq_false h2
 rw [if_neg h2,if_neg h2]
 by_cases h3:mdE (a8 d) e=0
 ·rw [if_neg (by rw [h3]; decide)]
  refine d9 mG 10 _ _ (f2w false d e n _ _) ?_
  have hok:y1i (mdN false (a8 d) e) false (mdD (a8 d) e) [49] (mdX (a8 d) e) 0:=⟨b1b hT,by decide,by decide,fun hn=>l0d (by omega) (by omega) hn⟩
  have hN:mdN false (a8 d) e=false:=by
   unfold mdN
   split <;> rfl
  have hR:Value.float .f64 (raW (mdN false (a8 d) e !=false) (mdD (a8 d) e) [49] (mdX (a8 d) e-0))=Value.float .f64 (raW false (mdD (a8 d) e) [49] (mdX (a8 d) e)):=by
   rw [hN,Int.sub_zero]
   rfl
  exact⟨hok,by rw [h3]; rfl,by omega,hT,k2,k1,rfl,k0,rfl,hR,by rw [h3],trivial⟩
 ·rw [if_pos h3]
  refine d9 mG 10 _ _ (e2y false d e n _ _) ?_
  exact⟨bne_iff_ne.2 h3,by omega,hT,k2,k1,rfl,k0,rfl,rfl,rfl,trivial⟩
noncomputable def x0t:Tab:=i6 108 dT t0i
theorem c0o:N1 Tryz.prog J0 x0t:=b6 iO b0q
noncomputable def bRo6:Base:=⟨Tryz.prog,J0,false,x0t,fI,200,H8⟩
theorem V7:BaseOk bRo6:=⟨progOk,c0o,O8,i7⟩
noncomputable abbrev c1i:Cx:=bRo6.cx 10
noncomputable def cBi:Code:=A2 Tryz.prog 64 0
noncomputable def tBi (d:List UInt8) (e p l m:Int) (r:Bool) (i:Int):St:=⟨only 98 [(0, .string ⟨⟨d⟩⟩),(1, .int .i64 e),(2, .int .i64 p),(3, .int .i64 l),(8, .float .f64 0),(9, .int .u64 m),(10, .bool r),(18, .string ⟨⟨d⟩⟩),(19, .int .i64 d.length),(20, .int .i64 i)],J0.tabs,11,[],[],0,none,[],11⟩
def bim (d:List UInt8) (m i:Int):Int:=IntKind.u64.wrap ((BitVec.ofInt IntKind.u64.bits (IntKind.u64.wrap (m*2 ^min (Int.toNat 4) IntKind.u64.bits))||| BitVec.ofInt IntKind.u64.bits (IntKind.u64.wrap (m7 (chI d i)))).toNat:Nat)
def bir (d:List UInt8) (r:Bool) (i:Int):Bool:=match r with | true=>true | false=>chI d i !=48
section
variable (d:List UInt8) (e p l m:Int) (r:Bool) (i:Int)
theorem x1a (hl:d5 [0≤chI d i∧chI d i < 256,0≤i∧i.toNat < d.length,decide (i < 16)=true,decide (i < (d.length:Int))=true]):o9 c1i cBi (tBi d e p l m r i) .normal (tBi d e p l (bim d m i) r (IntKind.i64.wrap (i+1))):=
 b7 (Base.cx_ok V7 10).1 progOk.mixed [] 200 [true,true] [] (by kernel_rfl) hl (by kernel_rfl) (by kernel_rfl)
theorem q1o (hl:d5 [A0 [(1,r)] [(1,false)] →0≤i∧i.toNat < d.length,decide (i < 16)=false,decide (i < (d.length:Int))=true]):o9 c1i cBi (tBi d e p l m r i) .normal (tBi d (IntKind.i64.wrap (e+4)) p l m (bir d r i) (IntKind.i64.wrap (i+1))):=
 b7 (Base.cx_ok V7 10).1 progOk.mixed [] 200 [true,false] [] (by kernel_rfl) hl (by kernel_rfl) (by kernel_rfl)
theorem w1l (hl:d5 [decide (i < (d.length:Int))=false]):o9 c1i cBi (tBi d e p l m r i) (.exit 0) (tBi d e p l m r i):=
 b7 (Base.cx_ok V7 10).1 progOk.mixed [] 200 [false] [] (by kernel_rfl) hl (by kernel_rfl) (by kernel_rfl)
theorem q1f {x:AX} {s':St} (ds:List Bool) (h:a7 c1i cBi (tBi d e p l 0 false 0) x s'):a7 c1i cBi (o8 c1i 200 64 [.string ⟨⟨d⟩⟩, .int .i64 e, .int .i64 p, .int .i64 l] J0.tabs Tryz.prog.globals.size ds) x s':=
 f9 h [] (by kernel_rfl) (by kernel_rfl) (by kernel_rfl)
end
def bzN (M:Int):Int:=IntKind.i64.wrap (64-C1 M)
def bzE (E M:Int):Int:=IntKind.i64.wrap (E-bzN M)
def bzU (E M p l:Int):Int:=if IntKind.i64.wrap (IntKind.i64.wrap (bzE E M+64)-p) < l then l else IntKind.i64.wrap (IntKind.i64.wrap (bzE E M+64)-p)
def bzO (E M p l:Int):Int:=IntKind.i64.wrap (bzU E M p l-bzE E M)
def bzM (M:Int):Int:=IntKind.u64.wrap (M*2 ^min (bzN M).toNat IntKind.u64.bits)
def bqQ (E M p l:Int):Int:=(bzM M).fdiv (2 ^min (bzO E M p l).toNat IntKind.u64.bits)
def bqL (E M p l:Int):Int:=IntKind.u64.wrap (bzM M-IntKind.u64.wrap (bqQ E M p l*2 ^min (bzO E M p l).toNat IntKind.u64.bits))
def bqH (E M p l:Int):Int:=IntKind.u64.wrap (1*2 ^min (IntKind.i64.wrap (bzO E M p l-1)).toNat IntKind.u64.bits)
def bUp (left half q:Int) (R:Bool):Bool:=match decide (left > half) with | true=>true | false=>match left==half with | true=>(match R with | true=>true | false=>Int.tmod q 2==1) | false=>false
noncomputable abbrev loB (d:List UInt8) (e p l E M:Int) (R:Bool) (i:Int) (ds:List Bool):Prop:=a7 c1i cBi (o8 c1i 200 64 [.string ⟨⟨d⟩⟩, .int .i64 e, .int .i64 p, .int .i64 l] J0.tabs Tryz.prog.globals.size ds) (.exit 0) (tBi d E p l M R i)
noncomputable abbrev biC (d:List UInt8) (e p l E M:Int) (R:Bool) (i:Int) (ds:List Bool):=a6 c1i [J5 (.exit 0) (fun _=>tBi d E p l M R i)] 200 64 [.string ⟨⟨d⟩⟩, .int .i64 e, .int .i64 p, .int .i64 l] ds
section
variable (d:List UInt8) (e p l E M:Int) (R:Bool) (i:Int)
theorem u1u:biC d e p l E M R i [true] =some (.float .f64 0,[decide (64 < bzO E M p l)=true,0≤bzN M,0≤M∧M < 18446744073709551616,loB d e p l E M R i [true]]):=by kernel_rfl
theorem t1q:biC d e p l E M R i [false,false,false] =some (.float .f64 (ldW 0 (bzU E M p l)),[r0j 0 (bzU E M p l),bUp (bzM M) 9223372036854775808 0 R=false,decide (bzO E M p l < 64)=false,decide (64 < bzO E M p l)=false,0≤bzN M,0≤M∧M < 18446744073709551616,loB d e p l E M R i [false,false,false]]):=by kernel_rfl
theorem x1k:biC d e p l E M R i [false,false,true] =some (.float .f64 (ldW (FloatKind.f64.nearest 1) (bzU E M p l)),[r0j (FloatKind.f64.nearest 1) (bzU E M p l),bUp (bzM M) 9223372036854775808 0 R=true,decide (bzO E M p l < 64)=false,decide (64 < bzO E M p l)=false,0≤bzN M,0≤M∧M < 18446744073709551616,loB d e p l E M R i [false,false,true]]):=by kernel_rfl
theorem a2g:biC d e p l E M R i [false,true,false] =some (.float .f64 (ldW (FloatKind.f64.nearest (bqQ E M p l)) (bzU E M p l)),[r0j (FloatKind.f64.nearest (bqQ E M p l)) (bzU E M p l),bUp (bqL E M p l) (bqH E M p l) (bqQ E M p l) R=false,0≤IntKind.i64.wrap (bzO E M p l-1),0≤bzO E M p l,0≤bzO E M p l,decide (bzO E M p l < 64)=true,decide (64 < bzO E M p l)=false,0≤bzN M,0≤M∧M < 18446744073709551616,loB d e p l E M R i [false,true,false]]):=by kernel_rfl
theorem a2k:biC d e p l E M R i [false,true,true] =some (.float .f64 (ldW (FloatKind.f64.nearest (IntKind.u64.wrap (bqQ E M p l+1))) (bzU E M p l)),[r0j (FloatKind.f64.nearest (IntKind.u64.wrap (bqQ E M p l+1))) (bzU E M p l),bUp (bqL E M p l) (bqH E M p l) (bqQ E M p l) R=true,0≤IntKind.i64.wrap (bzO E M p l-1),0≤bzO E M p l,0≤bzO E M p l,decide (bzO E M p l < 64)=true,decide (64 < bzO E M p l)=false,0≤bzN M,0≤M∧M < 18446744073709551616,loB d e p l E M R i [false,true,true]]):=by kernel_rfl
end
def hxd (c:UInt8):Nat:=(m7 (c.toNat:Int)).toNat
def hxN (l:List UInt8):Nat:=l.foldl (fun m c=>16*m+hxd c) 0
def c1b (l:List UInt8):Prop:=∀ c∈l,m7 (c.toNat:Int) < 16
theorem k1r {c:UInt8} :((hxd c:Nat):Int)=m7 (c.toNat:Int):=by
 unfold hxd
 have:=worth_range (c:=(c.toNat:Int))
 omega
theorem k0o (l:List UInt8) (c:UInt8):hxN (l++[c])=16*hxN l+hxd c:=by
 unfold hxN
 rw [List.foldl_append]
 rfl
theorem b1d {l:List UInt8} (h:c1b l):∀ k,k≤l.length→hxN (l.take k) < 16 ^k:=by
 intro k
 induction k with
 | zero=>intro _; rw [List.take_zero]; exact Nat.one_pos
 | succ k ih=>
  intro hk
  have h1:=ih (by omega)
  rw [List.take_succ_eq_append_getElem (by omega),k0o,Nat.pow_succ]
  have h2:=h _ (List.getElem_mem (show k < l.length by omega))
  have h3:=k1r (c:=l[k])
  omega
theorem f2b {m w:Nat} (hw:w < 16):m*16||| w=m*16+w:=by
 have:=Nat.shiftLeft_add_eq_or_of_lt (i:=4) (show w < 2 ^4 from hw) m
 rw [Nat.shiftLeft_eq] at this
 exact this.symm
theorem k1y {m:Nat} (hm:m < 1152921504606846976):m*16 < 18446744073709551616:=by omega
theorem n1w {m w:Nat} (hm:m < 1152921504606846976) (hw:w < 16):m*16+w < 18446744073709551616:=by omega
theorem s1i {d:List UInt8} {m w:Nat} {i:Int} (hm:m < 1152921504606846976) (hw:w < 16) (h:m7 (chI d i)=(w:Int)):bim d (m:Int) i=((16*m+w:Nat):Int):=by
 unfold bim
 rw [h]
 have h3:(m:Int)*2 ^min (Int.toNat 4) IntKind.u64.bits=((m*16:Nat):Int):=by
  rw [Int.natCast_mul]
  rfl
 have hw2:w < 18446744073709551616:=Nat.lt_trans hw (by decide)
 rw [h3,h0n (k1y hm),h0n hw2,BitVec.toNat_or,s1a (k1y hm),s1a hw2,f2b hw,h0n (n1w hm hw),Nat.mul_comm]
noncomputable def biS (d:List UInt8) (e p l:Int) (i:Nat):St:=tBi d (e+((4*(i-16):Nat):Int)) p l ((hxN (d.take (min i 16)):Nat):Int) (((d.take i).drop 16).any fun c=>c !=48) (i:Int)
theorem f0q {d:List UInt8} {i:Nat} (hi:i < d.length):chI d (i:Int)=((d[i].toNat:Nat):Int):=by
 show ((d.getD ((i:Int)).toNat 0).toNat:Int)=_
 rw [Int.toNat_natCast,List.getD_eq_getElem?_getD,List.getElem?_eq_getElem hi]
 rfl
theorem f2y (c:UInt8):(((c.toNat:Nat):Int) !=48)=(c !=48):=by
 rw [Bool.eq_iff_iff,bne_iff_ne,bne_iff_ne]
 constructor
 ·intro h e; exact h (by rw [e]; rfl)
 ·intro h e; exact h (UInt8.toNat_inj.1 (show c.toNat=48 by omega))
theorem h1i {d:List UInt8} {e p l:Int} (hd:c1b d) (hl:d.length≤140737488351232) (he: -1000000000000000000≤e∧e≤1000000000000000000) {i:Nat} (hi:i < d.length):o9 c1i cBi (biS d e p l i) .normal (biS d e p l (i+1)):=by
 have hc:=f0q hi
 have hlt:d[i].toNat < 256:=d[i].toNat_lt
 have hi1:IntKind.i64.wrap ((i:Int)+1)=((i+1:Nat):Int):=by rw [wr (by omega) (by omega)]; omega
 have hin:(0:Int)≤(i:Int)∧((i:Int)).toNat < d.length:=⟨Int.natCast_nonneg _,by rw [Int.toNat_natCast]; exact hi⟩
 have hlen:decide ((i:Int) < (d.length:Int))=true:=decide_eq_true (Int.ofNat_lt.2 hi)
 by_cases h16:i < 16
 ·have:=x1a d (e+((4*(i-16):Nat):Int)) p l ((hxN (d.take (min i 16)):Nat):Int) (((d.take i).drop 16).any fun c=>c !=48) (i:Int) ⟨by rw [hc]; omega,hin,decide_eq_true (by omega),hlen,trivial⟩
  have hw:=hd _ (List.getElem_mem hi)
  have h3:=k1r (c:=d[i])
  have hm:hxN (d.take i) < 1152921504606846976:=Nat.lt_of_lt_of_le (b1d hd i (by omega)) (by
   have:16 ^i≤16 ^15:=Nat.pow_le_pow_right (by decide) (by omega)
   exact this)
  rw [Nat.min_eq_left (by omega),s1i (w:=hxd d[i]) hm (by omega) (by rw [hc]; exact h3.symm),hi1] at this
  unfold biS
  rw [Nat.min_eq_left (by omega),Nat.min_eq_left (by omega),List.take_succ_eq_append_getElem hi,k0o]
  have e1:i+1-16=i-16:=by omega
  have e2:(d.take i++[d[i]]).drop 16=(d.take i).drop 16:=by
   rw [List.drop_eq_nil_of_le (by rw [List.length_append,List.length_take,List.length_singleton]; omega),List.drop_eq_nil_of_le (by rw [List.length_take]; omega)]
  rw [e1,e2]
  exact this
 ·have:=q1o d (e+((4*(i-16):Nat):Int)) p l ((hxN (d.take (min i 16)):Nat):Int) (((d.take i).drop 16).any fun c=>c !=48) (i:Int) ⟨fun _=>hin,decide_eq_false (by omega),hlen,trivial⟩
  have hr:bir d (((d.take i).drop 16).any fun c=>c !=48) (i:Int)=(((d.take i).drop 16).any (fun c=>c !=48) || d[i] !=48):=by
   unfold bir
   rw [hc,f2y]
   cases ((d.take i).drop 16).any (fun c=>c !=48) <;> rfl
  have hE:IntKind.i64.wrap (e+((4*(i-16):Nat):Int)+4)=e+((4*(i+1-16):Nat):Int):=by
   rw [wr (by omega) (by omega)]
   omega
  rw [hi1,hr,hE,Nat.min_eq_right (by omega)] at this
  unfold biS
  rw [Nat.min_eq_right (by omega),Nat.min_eq_right (by omega),List.take_succ_eq_append_getElem hi,List.drop_append_of_le_length (by rw [List.length_take]; omega),List.any_append]
  rw [show [d[i]].any (fun c=>c !=48)=(d[i] !=48) by simp]
  exact this
theorem p1k {d:List UInt8} {e p l:Int} (hd:c1b d) (hl:d.length≤140737488351232) (he: -1000000000000000000≤e∧e≤1000000000000000000) (ds:List Bool):
  loB d e p l (e+((4*(d.length-16):Nat):Int)) ((hxN (d.take 16):Nat):Int) ((d.drop 16).any fun c=>c !=48) (d.length:Int) ds:=by
 have h:=v8 (biS d e p l) d.length (x:= .exit 0) (by intro e; cases e) (fun i hi=>h1i hd hl he hi) (w1l d _ p l _ _ (d.length:Int) ⟨decide_eq_false (Int.lt_irrefl _),trivial⟩)
 have e0:biS d e p l 0=tBi d e p l 0 false 0:=by
  unfold biS
  show tBi d (e+((0:Nat):Int)) p l ((0:Nat):Int) false ((0:Nat):Int)=_
  rw [show e+((0:Nat):Int)=e by omega]
  rfl
 rw [e0,List.take_length] at h
 have e1:d.take (min d.length 16)=d.take 16:=by
  rw [Nat.min_comm,← List.take_take,List.take_length]
 rw [e1] at h
 exact q1f d e p l ds h
def biX (M:Nat):Nat:=M*2 ^(64-bl M)
def biE (M:Nat) (E:Int):Int:=E- ((64-bl M:Nat):Int)
def biU (M:Nat) (E p l:Int):Int:=if biE M E+64-p < l then l else biE M E+64-p
def biO (M:Nat) (E p l:Int):Int:=biU M E p l-biE M E
def upT (X o:Nat) (R:Bool):Bool:=decide (2 ^(o-1) < X%2 ^o) || (decide (X%2 ^o=2 ^(o-1)) && (R || decide (X/2 ^o%2=1)))
def biQ (X o:Nat) (R:Bool):Nat:=if upT X o R=true then X/2 ^o+1 else X/2 ^o
def biW (M:Nat) (R:Bool) (E p l:Int):Nat:=if 64 < biO M E p l then 0 else ldW (kF (biQ (biX M) (biO M E p l).toNat R)) (biU M E p l)
theorem eI {M:Nat} (h0:0 < M) (h:M < 18446744073709551616):9223372036854775808≤biX M∧biX M < 18446744073709551616∧1≤bl M∧bl M≤64:=by
 have h1:0 < bl M:=bl_ge.2 (by show 1≤M; exact h0)
 have h2:bl M≤64:=bl_le.2 (by show M < 18446744073709551616; exact h)
 have h3:=uO M
 have h4:2 ^(bl M-1)≤M:=bl_ge.1 (by omega)
 refine⟨?_,?_,h1,h2⟩
 ·have:2 ^(bl M-1)*2 ^(64-bl M)≤M*2 ^(64-bl M):=Nat.mul_le_mul_right _ h4
  rw [← Nat.pow_add,show bl M-1+(64-bl M)=63 by omega] at this
  exact this
 ·have:M*2 ^(64-bl M) < 2 ^bl M*2 ^(64-bl M):=Nat.mul_lt_mul_of_pos_right h3 (Nat.pow_pos (by decide))
  rw [← Nat.pow_add,show bl M+(64-bl M)=64 by omega] at this
  exact this
theorem s1u {X o p:Nat} {R:Bool} (hX:X < 18446744073709551616) (ho:64≤o+p) (_:o≤64) (hp:p≤53):biQ X o R≤9007199254740992:=by
 have h1:X/2 ^o < 2 ^p:=by
  rw [Nat.div_lt_iff_lt_mul (Nat.pow_pos (by decide)),← Nat.pow_add]
  refine Nat.lt_of_lt_of_le (show X < 2 ^64 from hX) (Nat.pow_le_pow_right (by decide) (by omega))
 have h2:2 ^p≤2 ^53:=Nat.pow_le_pow_right (by decide) hp
 have h3:(2:Nat) ^53=9007199254740992:=by decide
 unfold biQ
 split <;> omega
theorem u0j {M:Nat} (h:bl M≤64):bzN (M:Int)=((64-bl M:Nat):Int):=by
 unfold bzN C1
 rw [Int.toNat_natCast,R6 (by omega) (by omega)]
 omega
theorem l0j {M:Nat} (h0:0 < M) (h:M < 18446744073709551616):bzM (M:Int)=((biX M:Nat):Int):=by
 obtain⟨h1,h2,h3,h4⟩:=eI h0 h
 unfold bzM
 rw [u0j h4,Int.toNat_natCast,show min (64-bl M) IntKind.u64.bits=64-bl M from Nat.min_eq_left (show 64-bl M≤64 by omega)]
 have e:(M:Int)*2 ^(64-bl M)=((biX M:Nat):Int):=by
  unfold biX
  rw [Int.natCast_mul,Int.natCast_pow]
  rfl
 rw [e]
 exact h0n h2
section
variable {M:Nat} {E p l:Int}
theorem u1f (h0:0 < M) (h:M < 18446744073709551616) (hE: -1000000000000000000≤E∧E≤1000000000000000000) (hp:0≤p∧p≤53) (hl: -1074≤l∧l≤0):bzE E (M:Int)=biE M E∧bzU E (M:Int) p l=biU M E p l∧bzO E (M:Int) p l=biO M E p l:=by
 obtain⟨h1,h2,h3,h4⟩:=eI h0 h
 have e1:bzE E (M:Int)=biE M E:=by
  unfold bzE biE
  rw [u0j h4,R6 (by omega) (by omega)]
 have hb: -1000000000000000064≤biE M E∧biE M E≤1000000000000000000:=by unfold biE; omega
 have e2:bzU E (M:Int) p l=biU M E p l:=by
  unfold bzU biU
  rw [e1,R6 (n:=biE M E+64) (by omega) (by omega),R6 (n:=biE M E+64-p) (by omega) (by omega)]
 refine⟨e1,e2,?_⟩
 unfold bzO biO
 rw [e1,e2]
 have hu: -1074≤biU M E p l∧biU M E p l≤1000000000000000064:=by
  unfold biU
  split <;> omega
 exact R6 (by omega) (by omega)
end
theorem y0p (a b q:Nat) (R:Bool):bUp (a:Int) (b:Int) (q:Int) R=(decide (b < a) || (decide (a=b) && (R || decide (q%2=1)))):=by
 have e1:decide ((a:Int) > (b:Int))=decide (b < a):=by
  by_cases h:b < a
  ·rw [decide_eq_true h]; exact decide_eq_true (by omega)
  ·rw [decide_eq_false h]; exact decide_eq_false (by omega)
 have e2:((a:Int)==(b:Int))=decide (a=b):=by
  by_cases h:a=b
  ·rw [decide_eq_true h,h]; exact beq_self_eq_true _
  ·rw [decide_eq_false h]; exact beq_false_of_ne (by omega)
 have e3:(Int.tmod (q:Int) 2==1)=decide (q%2=1):=by
  have:Int.tmod (q:Int) 2=((q%2:Nat):Int):=rfl
  rw [this]
  by_cases h:q%2=1
  ·rw [decide_eq_true h,h]; rfl
  ·rw [decide_eq_false h]; exact beq_false_of_ne (by omega)
 unfold bUp
 rw [e1,e2,e3]
 cases decide (b < a) <;> cases decide (a=b) <;> cases R <;> rfl
theorem v1e:((2:Nat) ^63)=9223372036854775808:=by decide
theorem x1n:((2:Nat) ^64)=18446744073709551616:=by decide
theorem q0q {X:Nat} (hX:X < 18446744073709551616) (R:Bool):bUp (X:Int) 9223372036854775808 0 R=upT X 64 R:=by
 have h:=y0p X 9223372036854775808 0 R
 unfold upT
 rw [show 64-1=63 from rfl,v1e,x1n,Nat.mod_eq_of_lt hX,Nat.div_eq_of_lt hX]
 exact h
theorem n1c {o:Nat} (h:o≤63):(2:Nat) ^o < 18446744073709551616:=by
 have h1:2 ^o≤2 ^63:=Nat.pow_le_pow_right (by decide) h
 rw [v1e] at h1
 exact Nat.lt_of_le_of_lt h1 (by decide)
theorem h1q {M:Nat} {E p l:Int} {o:Nat} (h0:0 < M) (h:M < 18446744073709551616) (ho:bzO E (M:Int) p l=(o:Int)) (h1:1≤o) (h2:o≤63):
  bqQ E (M:Int) p l=((biX M/2 ^o:Nat):Int)∧bqL E (M:Int) p l=((biX M%2 ^o:Nat):Int)∧bqH E (M:Int) p l=((2 ^(o-1):Nat):Int):=by
 obtain⟨r1,r2,r3,r4⟩:=eI h0 h
 have hmin:min o IntKind.u64.bits=o:=Nat.min_eq_left (show o≤64 by omega)
 have e1:bqQ E (M:Int) p l=((biX M/2 ^o:Nat):Int):=by
  unfold bqQ
  rw [l0j h0 h,ho,Int.toNat_natCast,hmin]
  have:=(Int.ofNat_fdiv (biX M) (2 ^o)).symm
  rw [Int.natCast_pow] at this
  exact this
 refine⟨e1,?_,?_⟩
 ·unfold bqL
  rw [e1,l0j h0 h,ho,Int.toNat_natCast,hmin]
  have h3:((biX M/2 ^o:Nat):Int)*2 ^o=((biX M/2 ^o*2 ^o:Nat):Int):=by
   rw [Int.natCast_mul,Int.natCast_pow]
   rfl
  have h4:biX M/2 ^o*2 ^o≤biX M:=Nat.div_mul_le_self _ _
  have h5:biX M/2 ^o*2 ^o+biX M%2 ^o=biX M:=Nat.div_add_mod' _ _
  generalize biX M/2 ^o*2 ^o=a at*
  generalize biX M%2 ^o=b at*
  rw [h3,h0n (by omega)]
  have h6:((biX M:Nat):Int)- (a:Int)=(b:Int):=by omega
  rw [h6]
  exact h0n (by omega)
 ·unfold bqH
  rw [ho,R6 (by omega) (by omega)]
  have h3:((o:Int)-1).toNat=o-1:=by omega
  rw [h3,show min (o-1) IntKind.u64.bits=o-1 from Nat.min_eq_left (show o-1≤64 by omega),Int.one_mul]
  have:=h0n (n1c (o:=o-1) (by omega))
  rw [Int.natCast_pow] at this ⊢
  exact this
theorem p1z {c:UInt8} {r:List UInt8} (h:0 < hxd c):0 < hxN (c ::r):=by
 have key:∀ (l:List UInt8) (a:Nat),0 < a→0 < l.foldl (fun m c=>16*m+hxd c) a:=by
  intro l
  induction l with
  | nil=>intro a ha; exact ha
  | cons b q ih=>intro a ha; exact ih _ (show 0 < 16*a+hxd b by omega)
 exact key r _ (show 0 < 16*0+hxd c by omega)
theorem h0p {d:List UInt8} {e p l:Int} (hd:c1b d) (hl:d.length≤140737488351232) (he: -100000000000000000≤e∧e≤100000000000000000) (hp:1≤p∧p≤53) (hlo: -1074≤l∧l≤0) (h0:0 < hxN (d.take 16)):
  Ev.Pure Tryz.prog J0 64 [.string ⟨⟨d⟩⟩, .int .i64 e, .int .i64 p, .int .i64 l] (.float .f64 (biW (hxN (d.take 16)) ((d.drop 16).any fun c=>c !=48) (e+((4*(d.length-16):Nat):Int)) p l)):=by
 have hM:hxN (d.take 16) < 18446744073709551616:=by
  by_cases h:16≤d.length
  ·exact b1d hd 16 h
  ·have h1:=b1d hd d.length (Nat.le_refl _)
   rw [List.take_of_length_le (by omega)]
   rw [List.take_length] at h1
   have:16 ^d.length≤16 ^16:=Nat.pow_le_pow_right (by decide) (by omega)
   exact Nat.lt_of_lt_of_le h1 this
 have hloop:=p1k (p:=p) (l:=l) hd hl (e:=e) ⟨by omega,by omega⟩
 obtain⟨E,hE⟩:∃ E,E=e+((4*(d.length-16):Nat):Int):=⟨_,rfl⟩
 have hEb: -1000000000000000000≤E∧E≤999999999999999000:=by omega
 rw [← hE] at hloop ⊢
 generalize hxN (d.take 16)=M at*
 generalize (d.drop 16).any (fun c=>c !=48)=R at*
 obtain⟨r1,r2,r3,r4⟩:=eI h0 hM
 obtain⟨b1,b2,b3⟩:=u1f (p:=p) (l:=l) h0 hM (E:=E) ⟨hEb.1,by omega⟩ ⟨by omega,hp.2⟩ hlo
 have hz:(0:Int)≤bzN (M:Int):=by rw [u0j r4]; exact Int.natCast_nonneg _
 have hm:(0:Int)≤(M:Int)∧(M:Int) < 18446744073709551616:=⟨Int.natCast_nonneg _,by omega⟩
 have hU: -1074≤biU M E p l∧biU M E p l≤1000000000000000000:=by
  unfold biU biE
  split <;> omega
 have hO:64-p≤biO M E p l:=by
  unfold biO biU
  split <;> omega
 by_cases c1:64 < biO M E p l
 ·have hW:biW M R E p l=0:=if_pos c1
  rw [hW]
  exact d6 V7 10 _ _ (u1u d e p l E M R d.length) ⟨by rw [b3]; exact decide_eq_true c1,hz,hm,hloop _,trivial⟩
 have hW:biW M R E p l=ldW (kF (biQ (biX M) (biO M E p l).toNat R)) (biU M E p l):=if_neg c1
 rw [hW]
 obtain⟨o,ho⟩:=Int.eq_ofNat_of_zero_le (show 0≤biO M E p l by omega)
 have ho2:bzO E (M:Int) p l=(o:Int):=by rw [b3]; exact ho
 have k1:decide (64 < bzO E (M:Int) p l)=false:=by rw [b3]; exact decide_eq_false c1
 have hQ:biQ (biX M) o R≤9007199254740992:=s1u (p:=p.toNat) r2 (by omega) (by omega) (by omega)
 rw [ho,Int.toNat_natCast]
 have hok:r0j (kF (biQ (biX M) o R)) (biU M E p l):=r0y hQ (.inr hU)
 by_cases c2:o=64
 ·subst c2
  have k2:decide (bzO E (M:Int) p l < 64)=false:=by rw [ho2]; exact decide_eq_false (by omega)
  have hq0:biX M/2 ^64=0:=Nat.div_eq_of_lt (by rw [x1n]; exact r2)
  cases hup:upT (biX M) 64 R with
  | false=>
   have hq:biQ (biX M) 64 R=0:=by unfold biQ; rw [hup,if_neg (by decide)]; exact hq0
   rw [hq,cK] at hok ⊢
   rw [← b2] at hok ⊢
   exact d6 V7 10 _ _ (t1q d e p l E M R d.length) ⟨hok,by rw [l0j h0 hM,q0q r2]; exact hup,k2,k1,hz,hm,hloop _,trivial⟩
  | true=>
   have hq:biQ (biX M) 64 R=1:=by unfold biQ; rw [hup,if_pos rfl,hq0]
   have hn:FloatKind.f64.nearest 1=kF 1:=oS 1
   rw [hq,← hn] at hok ⊢
   rw [← b2] at hok ⊢
   exact d6 V7 10 _ _ (x1k d e p l E M R d.length) ⟨hok,by rw [l0j h0 hM,q0q r2]; exact hup,k2,k1,hz,hm,hloop _,trivial⟩
 ·have k2:decide (bzO E (M:Int) p l < 64)=true:=by rw [ho2]; exact decide_eq_true (by omega)
  have k3:0≤bzO E (M:Int) p l:=by rw [ho2]; exact Int.natCast_nonneg _
  have k4:0≤IntKind.i64.wrap (bzO E (M:Int) p l-1):=by rw [ho2,R6 (by omega) (by omega)]; omega
  obtain⟨p1,p2,p3⟩:=h1q h0 hM ho2 (by omega) (by omega)
  have hU2:bUp (bqL E (M:Int) p l) (bqH E (M:Int) p l) (bqQ E (M:Int) p l) R=upT (biX M) o R:=by
   rw [p1,p2,p3]
   exact y0p _ _ _ _
  cases hup:upT (biX M) o R with
  | false=>
   have hq:biQ (biX M) o R=biX M/2 ^o:=by unfold biQ; rw [hup,if_neg (by decide)]
   have hn:FloatKind.f64.nearest (bqQ E (M:Int) p l)=kF (biQ (biX M) o R):=by rw [hq,p1]; exact oS _
   rw [← hn,← b2] at hok ⊢
   exact d6 V7 10 _ _ (a2g d e p l E M R d.length) ⟨hok,by rw [hU2]; exact hup,k4,k3,k3,k2,k1,hz,hm,hloop _,trivial⟩
  | true=>
   have hq:biQ (biX M) o R=biX M/2 ^o+1:=by unfold biQ; rw [hup,if_pos rfl]
   have hb:biX M/2 ^o+1 < 18446744073709551616:=by
    rw [hq] at hQ
    exact Nat.lt_of_le_of_lt hQ (by decide)
   have hw:IntKind.u64.wrap (bqQ E (M:Int) p l+1)=((biX M/2 ^o+1:Nat):Int):=by
    rw [p1]
    exact h0n hb
   have hn:FloatKind.f64.nearest (IntKind.u64.wrap (bqQ E (M:Int) p l+1))=kF (biQ (biX M) o R):=by rw [hq,hw]; exact oS _
   rw [← hn,← b2] at hok ⊢
   exact d6 V7 10 _ _ (a2k d e p l E M R d.length) ⟨hok,by rw [hU2]; exact hup,k4,k3,k3,k2,k1,hz,hm,hloop _,trivial⟩
def hxW (d:List UInt8) (e p l:Int):Nat:=biW (hxN (d.take 16)) ((d.drop 16).any fun c=>c !=48) (e+((4*(d.length-16):Nat):Int)) p l
def d2r (d:List UInt8) (e p l:Int):Prop:=c1b d∧d.length≤140737488351232∧(-100000000000000000≤e∧e≤100000000000000000)∧(1≤p∧p≤53)∧(-1074≤l∧l≤0)∧0 < hxN (d.take 16)
def h0u:List Value→Option (Value×List Prop)
 | [.string ⟨⟨d⟩⟩, .int .i64 e, .int .i64 p, .int .i64 l] =>some (.float .f64 (hxW d e p l),[d2r d e p l])
 | _=>none
theorem p0d (args:List Value) (v:Value) (l:List Prop) (h:h0u args=some (v,l)) (hl:d5 l):Ev.Pure Tryz.prog J0 64 args v:=by
 unfold h0u at h
 split at h
 ·cases h
  obtain⟨⟨h1,h2,h3,h4,h5,h6⟩,_⟩:=hl
  exact h0p h1 h2 h3 h4 h5 h6
 ·cases h
noncomputable def q0t:Tab:=i6 64 h0u x0t
theorem d0l:N1 Tryz.prog J0 q0t:=b6 p0d c0o
noncomputable def bRo7:Base:=⟨Tryz.prog,J0,false,q0t,fI,200,H8⟩
theorem z0g:BaseOk bRo7:=⟨progOk,d0l,O8,i7⟩
noncomputable abbrev d2w:Cx:=bRo7.cx 10
section
variable (hx:Bool) (d:List UInt8) (e n p l:Int) (f:FuncId) (r:Nat) (z:Int)
abbrev x1q (f:FuncId) (hx:Bool) (d:List UInt8) (e n p l:Int):List Arg:=[.c (.v (pcV hx d e n)),iR p,iR l, .c (.v (.func (.func f) ⟨[]⟩ ⟨[]⟩))]
theorem y1x:n8 d2w [] 200 31 (x1q f hx d e n p l) [xR r,iR z] [true] =some [(a8 d==([] :List UInt8))=true,(48:UInt8)=48,Value.float .f64 0=Value.float .f64 r,Value.int .i64 0=Value.int .i64 z] :=by kernel_rfl
theorem b2u:n8 d2w [] 200 31 (x1q f hx d e n p l) [xR r,iR z] [false,true] =some [d2r (a8 d) e p l,hx=true,(a8 d==([] :List UInt8))=false,(48:UInt8)=48,Value.float .f64 (hxW (a8 d) e p l)=Value.float .f64 r,Value.int .i64 0=Value.int .i64 z] :=by kernel_rfl
end
theorem i0v {f:FuncId} {d:List UInt8} {e n p l:Int} (hd:c1b d) (hl:d.length≤140737488351232) (he: -100000000000000000≤e∧e≤100000000000000000) (hp:1≤p∧p≤53) (hlo: -1074≤l∧l≤0):
  Ev.Sem Tryz.prog J0 31 (x1q f true d e n p l) [xR (if a8 d=[] then 0 else hxW (a8 d) e p l),iR 0] :=by
 by_cases h0:a8 d=[]
 ·rw [if_pos h0]
  refine d9 z0g 10 _ _ (y1x true d e n p l f _ _) ?_
  rw [h0]
  exact⟨rfl,rfl,rfl,rfl,trivial⟩
 ·rw [if_neg h0]
  have hT:c1b (a8 d):=fun c hc=>hd c (E1 hc)
  have hle:=B3 d
  have hpos:0 < hxN ((a8 d).take 16):=by
   cases hu:a8 d with
   | nil=>exact absurd hu h0
   | cons c r=>
    have hc:=F6 hu
    have hw:=hT c (by rw [hu]; exact List.mem_cons_self)
    have hc2:0 < hxd c:=by
     have h48:c.toNat≠48:=fun h=>hc (UInt8.toNat_inj.1 h)
     unfold hxd
     unfold m7 at hw ⊢
     split
     ·omega
     ·rename_i h1
      rw [if_neg h1] at hw
      split
      ·omega
      ·rename_i h2
       rw [if_neg h2] at hw
       split
       ·omega
       ·rename_i h3
        rw [if_neg h3] at hw
        omega
    exact p1z hc2
  refine d9 z0g 10 _ _ (b2u true d e n p l f _ _) ?_
  exact⟨⟨hT,by omega,he,hp,hlo,hpos⟩,rfl,beq_false_of_ne h0,rfl,rfl,rfl,trivial⟩
noncomputable def p0y:Tab:=i6 46 kJ (i6 61 cE q0t)
theorem d0i:N1 Tryz.prog J0 p0y:=b6 oE (b6 jE d0l)
noncomputable def bRp1:Base:=⟨Tryz.prog,J0,false,p0y,fI,200,H8⟩
theorem gD:BaseOk bRp1:=⟨progOk,d0i,O8,i7⟩
noncomputable abbrev r1s:Cx:=bRp1.cx 10
def l1y (t:List UInt8):Bool:=match ((T9 (u9 t):Nat):Int)==0 with | true=>true | false=>((T9 (u9 t):Nat):Int) !=(((u9 t).length:Nat):Int)
def rdF (t:List UInt8):Bool:=t==([78,97,78] :List UInt8)
def rdG (t:List UInt8):Bool:=u9 t==([73,110,102] :List UInt8)
def rdL (t:List UInt8):Bool:=decide (Int.ofNat 8192 < Int.ofNat t.length)
abbrev rdR (n:Bool) (p:Value) (x:Nat) (i:Bool) (e:Int):Value:= .tuple ⟨[.bool n,p, .float .f64 x, .bool i, .int .i64 e]⟩
section
variable (t:List UInt8)
theorem n1t:a6 r1s [] 200 30 [.string ⟨⟨t⟩⟩] [true] =some (rdR false (pcV false [] 0 0) 0 false 2,[rdL t=true]):=by kernel_rfl
theorem t1c:a6 r1s [] 200 30 [.string ⟨⟨t⟩⟩] [false,true] =some (rdR false (pcV false [] 0 0) 9221120237041090560 true 0,[rdF t=true,rdL t=false]):=by kernel_rfl
theorem s1j:a6 r1s [] 200 30 [.string ⟨⟨t⟩⟩] [false,false,true,false] =some (rdR (pE t) (pcV false [] 0 0) 9218868437227405312 true 0,[pE t=false,rdG t=true,rdF t=false,rdL t=false]):=by kernel_rfl
theorem r1l:a6 r1s [] 200 30 [.string ⟨⟨t⟩⟩] [false,false,true,true] =some (rdR (pE t) (pcV false [] 0 0) 18442240474082181120 true 0,[pE t=true,rdG t=true,rdF t=false,rdL t=false]):=by kernel_rfl
theorem z1n:a6 r1s [] 200 30 [.string ⟨⟨t⟩⟩] [false,false,false,true] =some (rdR false (pcV (L7 (u9 t)) (aD (u9 t)) (fG (u9 t)) (T9 (u9 t))) 0 false 3,[l1y t=true,(u9 t).length≤140737488351232,rdG t=false,rdF t=false,rdL t=false]):=by kernel_rfl
theorem t1d:a6 r1s [] 200 30 [.string ⟨⟨t⟩⟩] [false,false,false,false] =some (rdR (pE t) (pcV (L7 (u9 t)) (aD (u9 t)) (fG (u9 t)) (T9 (u9 t))) 0 false 0,[l1y t=false,(u9 t).length≤140737488351232,rdG t=false,rdF t=false,rdL t=false]):=by kernel_rfl
end
def rdP (t:List UInt8):Bool:= !rdL t && !rdF t && !rdG t
def x1w (t:List UInt8):Bool:=rdP t && !l1y t
def rdN (t:List UInt8):Bool:=if x1w t || (!rdL t && !rdF t && rdG t) then pE t else false
def d0y (t:List UInt8):Bool:=if rdP t then L7 (u9 t) else false
def d0z (t:List UInt8):List UInt8:=if rdP t then aD (u9 t) else []
def d0t (t:List UInt8):Int:=if rdP t then fG (u9 t) else 0
def z1t (t:List UInt8):Int:=if rdP t then ((T9 (u9 t):Nat):Int) else 0
def rdO (t:List UInt8):Nat:=if rdL t then 0 else if rdF t then 9221120237041090560 else if rdG t then (if pE t then 18442240474082181120 else 9218868437227405312) else 0
def rdI (t:List UInt8):Bool:= !rdL t && (rdF t || rdG t)
def rdE (t:List UInt8):Int:=if rdL t then 2 else if rdP t && l1y t then 3 else 0
theorem zH (t:List UInt8):(u9 t).length≤t.length:=by
 unfold u9
 split
 ·rw [List.length_drop]; omega
 ·exact Nat.le_refl _
theorem i1u (t:List UInt8):Ev.Pure Tryz.prog J0 30 [.string ⟨⟨t⟩⟩] (rdR (rdN t) (pcV (d0y t) (d0z t) (d0t t) (z1t t)) (rdO t) (rdI t) (rdE t)):=by
 unfold rdN d0y d0z d0t z1t rdO rdI rdE x1w rdP
 cases h1:rdL t with
 | true=>exact d6 gD 10 _ _ (n1t t) ⟨h1,trivial⟩
 | false=>
  cases h2:rdF t with
  | true=>exact d6 gD 10 _ _ (t1c t) ⟨h2,h1,trivial⟩
  | false=>
   cases h3:rdG t with
   | true=>
    cases h4:pE t with
    | true=>
     have:=r1l t
     rw [h4] at this
     exact d6 gD 10 _ _ this ⟨rfl,h3,h2,h1,trivial⟩
    | false=>
     have:=s1j t
     rw [h4] at this
     exact d6 gD 10 _ _ this ⟨rfl,h3,h2,h1,trivial⟩
   | false=>
    have hl:(u9 t).length≤140737488351232:=by
     have:=zH t
     have hL:=of_decide_eq_false h1
     have:t.length≤8192:=by
      have h9:¬((8192:Int) < (t.length:Int)):=hL
      omega
     omega
    cases h4:l1y t with
    | true=>exact d6 gD 10 _ _ (z1n t) ⟨h4,hl,h3,h2,h1,trivial⟩
    | false=>exact d6 gD 10 _ _ (t1d t) ⟨h4,hl,h3,h2,h1,trivial⟩
def q0k:List Value→Option (Value×List Prop)
 | [.string ⟨⟨t⟩⟩] =>some (rdR (rdN t) (pcV (d0y t) (d0z t) (d0t t) (z1t t)) (rdO t) (rdI t) (rdE t),[])
 | _=>none
theorem x0s (args:List Value) (v:Value) (l:List Prop) (h:q0k args=some (v,l)) (_:d5 l):Ev.Pure Tryz.prog J0 30 args v:=by
 unfold q0k at h
 split at h
 ·cases h
  exact i1u _
 ·cases h
noncomputable def a1q:Tab:=i6 30 q0k p0y
theorem a0a:N1 Tryz.prog J0 a1q:=b6 x0s d0i
def nrW (h:Bool) (d:List UInt8) (e:Int):Nat:=if h=true then (if a8 d=[] then 0 else hxW (a8 d) e 53 (-1074)) else neW d e
def nrE (h:Bool) (d:List UInt8) (e:Int):Int:=if h=true then 0 else neE d e
def y1t (h:Bool) (d:List UInt8) (e:Int):Prop:=d.length≤140737488351232∧(-100000000000000000≤e∧e≤100000000000000000)∧(if h=true then c1b d else r8 d=true)
theorem i1e {h:Bool} {d:List UInt8} {e n:Int} (hk:y1t h d e):Ev.Sem Tryz.prog J0 31 (p1f h d e n) [xR (nrW h d e),iR (nrE h d e)] :=by
 obtain⟨h1,h2,h3⟩:=hk
 unfold nrW nrE
 cases h with
 | true=>
  rw [if_pos rfl] at h3
  rw [if_pos rfl,if_pos rfl]
  exact i0v h3 h1 h2 ⟨by decide,by decide⟩ ⟨by decide,by decide⟩
 | false=>
  rw [if_neg (by decide)] at h3
  rw [if_neg (by decide),if_neg (by decide)]
  exact h1w h3 h1 ⟨by omega,by omega⟩
def b1i:List Arg→Option (List Arg×List Prop)
 | [.c (.v (.agg ⟨[.bool h, .string ⟨⟨d⟩⟩, .int .i64 e, .int .i64 _]⟩)), .c (.v (.int .i64 53)), .c (.v (.int .i64 (-1074))), .c (.v (.func (.func 32) ⟨[]⟩ ⟨[]⟩))] =>some ([xR (nrW h d e),iR (nrE h d e)],[y1t h d e])
 | _=>none
theorem w0a:∀ az rs l,b1i az=some (rs,l)→d5 l→Ev.Sem Tryz.prog J0 31 az rs:=by
 intro az rs l h hl
 unfold b1i at h
 split at h
 ·cases h
  exact i1e hl.1
 ·cases h
noncomputable def h0h:kM:=l5 31 (y3 [shV,shV,shV,shV] b1i) fI
theorem rR:kY Tryz.prog J0 h0h:=b8 (g9 _ w0a) O8
noncomputable def bRp2:Base:=⟨Tryz.prog,J0,false,a1q,h0h,200,H8⟩
theorem w0e:BaseOk bRp2:=⟨progOk,a0a,rR,i7⟩
noncomputable abbrev d2o:Cx:=bRp2.cx 10
def sgE (x:Nat):Nat:=(IntKind.u64.wrap ↑(BitVec.ofInt IntKind.u64.bits (IntKind.u64.wrap ↑(BitVec.ofInt IntKind.u64.bits ↑x&&& ~~~BitVec.ofInt IntKind.u64.bits 9223372036854775808).toNat)||| BitVec.ofInt IntKind.u64.bits (IntKind.u64.wrap ↑(BitVec.ofInt IntKind.u64.bits 13830554455654793216&&& BitVec.ofInt IntKind.u64.bits 9223372036854775808).toNat)).toNat).toNat
theorem f2x (x:Nat):a6 d2o [] 200 35 [.float .f64 x, .bool true] [true] =some (.float .f64 (sgE x),[true=true]):=by kernel_rfl
theorem e2m (x:Nat):a6 d2o [] 200 35 [.float .f64 x, .bool false] [false] =some (.float .f64 x,[false=false]):=by kernel_rfl
def sgV (x:Nat) (g:Bool):Nat:=if g=true then sgE x else x
theorem o1i (x:Nat) (g:Bool):Ev.Pure Tryz.prog J0 35 [.float .f64 x, .bool g] (.float .f64 (sgV x g)):=by
 cases g with
 | true=>exact d6 w0e 10 _ _ (f2x x) ⟨rfl,trivial⟩
 | false=>exact d6 w0e 10 _ _ (e2m x) ⟨rfl,trivial⟩
def y0l:List Value→Option (Value×List Prop)
 | [.float .f64 x, .bool g] =>some (.float .f64 (sgV x g),[])
 | _=>none
theorem x0b (args:List Value) (v:Value) (l:List Prop) (h:y0l args=some (v,l)) (_:d5 l):Ev.Pure Tryz.prog J0 35 args v:=by
 unfold y0l at h
 split at h
 ·cases h
  exact o1i _ _
 ·cases h
noncomputable def b1f:Tab:=i6 35 y0l a1q
theorem zZ:N1 Tryz.prog J0 b1f:=b6 x0b a0a
noncomputable def bRp3:Base:=⟨Tryz.prog,J0,false,b1f,h0h,200,H8⟩
theorem yP:BaseOk bRp3:=⟨progOk,zZ,rR,i7⟩
noncomputable abbrev y1h:Cx:=bRp3.cx 10
def paX (t:List UInt8):Nat:=nrW (d0y t) (d0z t) (d0t t)
def paZ (t:List UInt8):Int:=nrE (d0y t) (d0z t) (d0t t)
def paO (t:List UInt8):Prop:=y1t (d0y t) (d0z t) (d0t t)
def paB (t:List UInt8):Bool:=match rdE t !=0 with | true=>true | false=>rdI t
def paI (t:List UInt8):Bool:=match paZ t==0 with | true=>gtL (t1u (paX t)) 9218868437227405311 | false=>false
section
variable (t:List UInt8) (r:Nat) (z:Int)
abbrev tA (t:List UInt8):List Arg:=[.c (.v (.string ⟨⟨t⟩⟩))]
theorem f2n:n8 y1h [] 200 10 (tA t) [xR r,iR z] [true] =some [paB t=true,Value.float .f64 (rdO t)=Value.float .f64 r,Value.int .i64 (rdE t)=Value.int .i64 z] :=by kernel_rfl
theorem f2e:n8 y1h [] 200 10 (tA t) [xR r,iR z] [false,true,true] =some [true=true,paI t=true,paO t,paB t=false,Value.float .f64 0=Value.float .f64 r,Value.int .i64 15=Value.int .i64 z] :=by kernel_rfl
theorem f2j:n8 y1h [] 200 10 (tA t) [xR r,iR z] [false,false,true] =some [(paZ t !=0)=true,paI t=false,paO t,paB t=false,Value.float .f64 0=Value.float .f64 r,Value.int .i64 (paZ t)=Value.int .i64 z] :=by kernel_rfl
theorem e2x:n8 y1h [] 200 10 (tA t) [xR r,iR z] [false,false,false] =some [(paZ t !=0)=false,paI t=false,paO t,paB t=false,Value.float .f64 (sgV (paX t) (rdN t))=Value.float .f64 r,Value.int .i64 0=Value.int .i64 z] :=by kernel_rfl
end
def paW (t:List UInt8):Nat:=if paB t=true then rdO t else if paI t=true then 0 else if paZ t≠0 then 0 else sgV (paX t) (rdN t)
def paE (t:List UInt8):Int:=if paB t=true then rdE t else if paI t=true then 15 else paZ t
theorem yX {t:List UInt8} (h:paB t=false→paO t):Ev.Sem Tryz.prog J0 10 (tA t) [xR (paW t),iR (paE t)] :=by
 cases h1:paB t with
 | true=>
  have e1:paW t=rdO t:=by unfold paW; rw [h1]; exact if_pos rfl
  have e2:paE t=rdE t:=by unfold paE; rw [h1]; exact if_pos rfl
  rw [e1,e2]
  exact d9 yP 10 _ _ (f2n t _ _) ⟨h1,rfl,rfl,trivial⟩
 | false=>
  have ho:=h h1
  have n1:¬paB t=true:=by rw [h1]; decide
  cases h2:paI t with
  | true=>
   have e1:paW t=0:=by unfold paW; rw [if_neg n1,if_pos h2]
   have e2:paE t=15:=by unfold paE; rw [if_neg n1,if_pos h2]
   rw [e1,e2]
   exact d9 yP 10 _ _ (f2e t _ _) ⟨rfl,h2,ho,h1,rfl,rfl,trivial⟩
  | false=>
   have n2:¬paI t=true:=by rw [h2]; decide
   by_cases h3:paZ t=0
   ·have n3:¬paZ t≠0:=fun k=>k h3
    have e1:paW t=sgV (paX t) (rdN t):=by unfold paW; rw [if_neg n1,if_neg n2,if_neg n3]
    have e2:paE t=0:=by unfold paE; rw [if_neg n1,if_neg n2,h3]
    rw [e1,e2]
    exact d9 yP 10 _ _ (e2x t _ _) ⟨by rw [h3]; rfl,h2,ho,h1,rfl,rfl,trivial⟩
   ·have e1:paW t=0:=by unfold paW; rw [if_neg n1,if_neg n2,if_pos h3]
    have e2:paE t=paZ t:=by unfold paE; rw [if_neg n1,if_neg n2]
    rw [e1,e2]
    exact d9 yP 10 _ _ (f2j t _ _) ⟨bne_iff_ne.2 h3,h2,ho,h1,rfl,rfl,trivial⟩
theorem l0v (t:List UInt8) (b:Int):∀ (f k:Nat) (p:Int),0≤p→(jU t b f k p).1=p
 | 0,_,_,_=>rfl
 | f+1,k,p,hp=>by
  unfold jU
  have hd:e1z t k p=false:=by
   unfold e1z
   split
   ·exact decide_eq_false (by omega)
   ·rfl
  rw [hd]
  split
  ·exact l0v t b f (k+1) p hp
  ·rfl
theorem xM (t:List UInt8) (b:Int):∀ (f k:Nat) (p:Int) (i:Nat),k≤i→i < (jU t b f k p).2→m7 (chI t (i:Int)) < b∨(i:Int)=(jU t b f k p).1
 | 0,k,p,i,h1,h2=>absurd (show i < k from h2) (by omega)
 | f+1,k,p,i,h1,h2=>by
  unfold jU at h2 ⊢
  by_cases hw:m7 (chI t (k:Int)) < b
  ·rw [if_pos hw] at h2 ⊢
   rcases Nat.eq_or_lt_of_le h1 with h | h
   ·subst h; exact .inl hw
   ·exact xM t b f (k+1) p i h h2
  ·rw [if_neg hw] at h2 ⊢
   by_cases hd:e1z t k p=true
   ·rw [if_pos hd] at h2 ⊢
    rcases Nat.eq_or_lt_of_le h1 with h | h
    ·subst h
     exact .inr (l0v t b f (k+1) k (Int.natCast_nonneg _)).symm
    ·exact xM t b f (k+1) k i h h2
   ·rw [if_neg hd] at h2
    exact absurd (show i < k from h2) (by omega)
theorem wR {t:List UInt8} {a E:Nat} {c:UInt8} (h:c∈(t.take E).drop a):∃ i,a≤i∧i < E∧∃ hi:i < t.length,t[i] =c:=by
 obtain⟨j,hj,rfl⟩:=List.mem_iff_getElem.1 h
 rw [List.length_drop,List.length_take] at hj
 refine⟨a+j,by omega,by omega,by omega,?_⟩
 rw [List.getElem_drop,List.getElem_take]
theorem t0r {t:List UInt8} {a:Nat} {b:Int} {c:UInt8} (h:c∈maS t a b):m7 (c.toNat:Int) < b:=by
 have key:∀ i,a≤i→i < maE t a b→(i:Int)≠maP t a b→∀ hi:i < t.length,m7 ((t[i].toNat:Nat):Int) < b:=by
  intro i h1 h2 h3 hi
  unfold maE at h2
  unfold maP at h3
  have:=(xM t b (t.length-a) a (-1) i h1 h2).resolve_right h3
  rw [f0q hi] at this
  exact this
 unfold maS at h
 split at h
 ·rename_i hp
  obtain⟨i,h1,h2,hi,rfl⟩:=wR h
  exact key i h1 h2 (by omega) hi
 ·rename_i hp
  rcases List.mem_append.1 h with h | h
  ·obtain⟨i,h1,h2,hi,rfl⟩:=wR h
   by_cases hE:i < maE t a b
   ·exact key i h1 hE (by omega) hi
   ·exfalso
    have:=(cL t b (t.length-a) a (-1) (by omega) (by omega)).2.2.2
    unfold maE at hE
    unfold maP at h2 hp
    omega
  ·obtain⟨i,h1,h2,hi,rfl⟩:=wR h
   by_cases hA:a≤i
   ·exact key i hA h2 (by omega) hi
   ·exfalso
    by_cases ha:a≤t.length
    ·have:=(yM (b:=b) ha).2.2.1
     omega
    ·have:maP t a b= -1:=by
      unfold maP
      rw [show t.length-a=0 by omega]
      rfl
     omega
theorem q1c {c:UInt8} (h:m7 (c.toNat:Int) < 10):48≤c.toNat∧c.toNat≤57:=by
 unfold m7 at h
 split at h
 ·omega
 ·split at h
  ·omega
  ·split at h <;> omega
theorem b1g (t:List UInt8) (a:Nat) (b:Int):(maS t a b).length≤2*t.length:=by
 unfold maS
 split
 ·rw [List.length_drop,List.length_take]; omega
 ·rw [List.length_append,List.length_drop,List.length_take,List.length_drop,List.length_take]; omega
theorem t0z {t:List UInt8} (h:L7 t=true):c1b (aD t):=by
 intro c hc
 unfold aD at hc
 rw [if_pos h] at hc
 exact t0r hc
theorem s0o {t:List UInt8} (h:L7 t=false):r8 (aD t)=true:=by
 refine allDB_mem.2 fun c hc=> ?_
 unfold aD at hc
 rw [if_neg (by rw [h]; decide)] at hc
 exact q1c (t0r hc)
theorem u0z {t:List UInt8} {a:Nat} {b:Int} :0≤maB t a b∧maB t a b≤(t.length:Int):=by
 by_cases ha:a≤t.length
 ·exact nR ha
 ·have:maP t a b= -1:=by
   unfold maP
   rw [show t.length-a=0 by omega]
   rfl
  unfold maB
  rw [if_pos (by omega)]
  omega
theorem f0k (t:List UInt8): -1073741824-4*(t.length:Int)≤fG t∧fG t≤1073741824:=by
 have h1:=u0z (t:=t) (a:=2) (b:=16)
 have h2:=u0z (t:=t) (a:=0) (b:=10)
 have h3:=eU t pP (maE t 2 16)
 have h4:=eU t eE (maE t 0 10)
 unfold fG
 split
 ·omega
 ·split
  ·omega
  ·omega
theorem w1c {t:List UInt8} (h:paB t=false):paO t:=by
 unfold paB at h
 cases hE:(rdE t !=0) with
 | true=>rw [hE] at h; cases h
 | false=>
  rw [hE] at h
  have hI:rdI t=false:=h
  have hE2:rdE t=0:=by
   have:=hE
   rw [bne,Bool.not_eq_false'] at this
   exact eq_of_beq this
  cases h1:rdL t with
  | true=>
   unfold rdE at hE2
   rw [h1] at hE2
   cases hE2
  | false=>
   unfold rdI at hI
   rw [h1] at hI
   cases h2:rdF t with
   | true=>rw [h2] at hI; cases hI
   | false=>
    cases h3:rdG t with
    | true=>rw [h2,h3] at hI; cases hI
    | false=>
     have hP:rdP t=true:=by unfold rdP; rw [h1,h2,h3]; rfl
     have hlen:t.length≤8192:=by
      have hL:=of_decide_eq_false h1
      have h9:¬((8192:Int) < (t.length:Int)):=hL
      omega
     have hr:=zH t
     have hx:=f0k (u9 t)
     have hs:(aD (u9 t)).length≤2*(u9 t).length:=by
      unfold aD
      split
      ·exact b1g _ _ _
      ·exact b1g _ _ _
     have e1:d0y t=L7 (u9 t):=by unfold d0y; exact if_pos hP
     have e2:d0z t=aD (u9 t):=by unfold d0z; exact if_pos hP
     have e3:d0t t=fG (u9 t):=by unfold d0t; exact if_pos hP
     unfold paO y1t
     rw [e1,e2,e3]
     refine⟨by omega,⟨by omega,by omega⟩,?_⟩
     cases hH:L7 (u9 t) with
     | true=>rw [if_pos rfl]; exact t0z hH
     | false=>rw [if_neg (by decide)]; exact s0o hH
theorem b0j (t:List UInt8):Ev.Sem Tryz.prog J0 10 (tA t) [xR (paW t),iR (paE t)] :=yX w1c
def aT:List Value→Option (Value×List Prop)
 | [.int .u32 b] =>some (.float .f32 b.toNat,[])
 | _=>none
theorem pH (args:List Value) (v:Value) (l:List Prop) (h:aT args=some (v,l)) (_:d5 l):Ev.Pure Tryz.prog J0 40 args v:=by
 unfold aT at h
 split at h
 ·cases h; exact rO Tryz.func40 (by kernel_rfl) (by kernel_rfl) (by kernel_rfl) (e:=Extern.MathFloatBits.float32frombits) (by kernel_rfl) rfl rfl (fun _=>rfl)
 ·cases h
def Q9:List Value→Option (Value×List Prop)
 | [.float .f32 b] =>some (.int .u32 b,[])
 | _=>none
theorem aG (args:List Value) (v:Value) (l:List Prop) (h:Q9 args=some (v,l)) (_:d5 l):Ev.Pure Tryz.prog J0 16 args v:=by
 unfold Q9 at h
 split at h
 ·cases h; exact rO Tryz.func16 (by kernel_rfl) (by kernel_rfl) (by kernel_rfl) (e:=Extern.MathFloatBits.float32bits) (by kernel_rfl) rfl rfl (fun _=>rfl)
 ·cases h
def xC:List Arg→Option (List Arg×List Prop)
 | [.a [.v (.bool _), .v (.bool false), .v (.bool false), .s 32 .u64 N, .v (.bool false), .s 32 .u64 D], .a [.v (.int .i64 24), .v (.int .i64 (-149)), .v (.int .i64 104)], .c (.v (.int .i64 1))] =>
  some ([uR (p0m 24 104 (val W64 N) (val W64 D) (p9 24 (-149) (val W64 N) (val W64 D))),iR (p0l 24 104 (val W64 N) (val W64 D) (p9 24 (-149) (val W64 N) (val W64 D))),bR (B1 24 104 (val W64 N) (val W64 D) (p9 24 (-149) (val W64 N) (val W64 D))),fR (k0w 24 104 (val W64 N) (val W64 D) (p9 24 (-149) (val W64 N) (val W64 D))) (B1 24 104 (val W64 N) (val W64 D) (p9 24 (-149) (val W64 N) (val W64 D))) (qT 24 (val W64 N) (val W64 D) (p9 24 (-149) (val W64 N) (val W64 D)))],[Cn N∧Cn D∧0 < val W64 D∧bl (val W64 N)≤1000000∧bl (val W64 D)≤1000000])
 | _=>none
theorem e0h:∀ az rs l,xC az=some (rs,l)→d5 l→Ev.Sem Tryz.prog J0 77 az rs:=by
 intro az rs l h hl
 unfold xC at h
 split at h
 ·cases h
  rename_i n N D
  obtain⟨⟨c1,c2,hD,h1,h2⟩,_⟩:=hl
  unfold Cn at c1 c2
  have:=e0w n (N:=val W64 N) (D:=val W64 D) hD h1 h2
  rw [← c1,← c2,j0f] at this
  exact this
 ·cases h
noncomputable def j0m:Tab:=i6 16 Q9 (i6 40 aT b1f)
theorem mT:N1 Tryz.prog J0 j0m:=b6 aG (b6 pH zZ)
noncomputable def q0z:kM:=l5 77 (y3 [shM, .a [.v, .v, .v],shV] xC) fT
theorem m0o:kY Tryz.prog J0 q0z:=b8 (g9 _ e0h) Q3
noncomputable def bSi0:Base:=⟨Tryz.prog,J0,false,j0m,q0z,200,H8⟩
theorem wU:BaseOk bSi0:=⟨progOk,mT,m0o,i7⟩
noncomputable abbrev y1n:Cx:=bSi0.cx 10
abbrev yR (x:Nat):Arg:= .c (.v (.float .f32 x))
def sv (N:Nat):Nat:=val W64 (ws W64 N)
theorem w1v (N:Nat):sv N=N:=t8 N
def siM (N D:Nat):Nat:=p0m 24 104 N D (p9 24 (-149) N D)
def siE (N D:Nat):Int:=p0l 24 104 N D (p9 24 (-149) N D)
def siI (N D:Nat):Bool:=B1 24 104 N D (p9 24 (-149) N D)
def siX (N D:Nat):Bool:=k0w 24 104 N D (p9 24 (-149) N D)
def siU (N D:Nat):Bool:=qT 24 N D (p9 24 (-149) N D)
def siG (N D:Nat):Bool:=decide ((0:Int) < ((siM N D:Nat):Int).fdiv 8388608)
def siB (M:Nat) (E:Int):Nat:=(IntKind.u32.wrap ↑(BitVec.ofInt IntKind.u32.bits (IntKind.u32.wrap ((IntKind.u32.wrap (IntKind.i64.wrap (E+150)))*2 ^min (Int.toNat 23) IntKind.u32.bits))||| BitVec.ofInt IntKind.u32.bits (IntKind.u32.wrap ↑(BitVec.ofInt IntKind.u32.bits (IntKind.u32.wrap ((M:Nat):Int))&&& BitVec.ofInt IntKind.u32.bits 8388607).toNat)).toNat).toNat
def siL (M:Nat):Nat:=(IntKind.u32.wrap ((M:Nat):Int)).toNat
section
variable (n:Bool) (d:List UInt8) (e:Int) (r:Nat) (a b c:Bool)
abbrev siN (d:List UInt8) (e:Int):Nat:=sv (qtN d (e-0))
abbrev siD (e:Int):Nat:=sv (qtD [49] (e-0))
abbrev siP (d:List UInt8) (e:Int):List Prop:=[(ws W64 (qtN d (e-0))).length=(ws W64 (qtN d (e-0))).length,(ws W64 (qtD [49] (e-0))).length=(ws W64 (qtD [49] (e-0))).length,Cn (ws W64 (qtN d (e-0)))∧Cn (ws W64 (qtD [49] (e-0)))∧0 < siD e∧bl (siN d e)≤1000000∧bl (siD e)≤1000000,
 P9 d∧P9 [49] ∧d.length≤100000∧1≤100000∧(-1000000≤e-0∧e-0≤1000000)∧(-1000≤(d.length:Int)- ((1:Nat):Int)+(e-0)∧(d.length:Int)- ((1:Nat):Int)+(e-0)≤1000)]
abbrev siQ (d:List UInt8) (n:Bool) (e:Int):List Prop:=[false=false,false=false,(!U0 n d e)=false,d.length≤9223372036854775807,(0:Int)≤0∧(0:Int) < 1,true=true]
abbrev siV (d:List UInt8) (e:Int) (w r:Nat) (a b c:Bool):List Prop:=[Value.float .f32 w=Value.float .f32 r,Value.bool (siX (siN d e) (siD e))=Value.bool a,Value.bool (siI (siN d e) (siD e))=Value.bool b,Value.bool (siU (siN d e) (siD e))=Value.bool c,Value.int .i64 0=Value.int .i64 0]
theorem g2c:n8 y1n [] 200 42 [dA n d e,iR 1] [yR r,fR a b c,iR 0] [true,false,false,false,true] =some ([(d==[])=true] ++siQ d n e++[Value.float .f32 0=Value.float .f32 r,Value.bool false=Value.bool a,Value.bool false=Value.bool b,Value.bool false=Value.bool c,Value.int .i64 0=Value.int .i64 0]):=by kernel_rfl
theorem f2r:n8 y1n [] 200 42 [dA n d e,iR 1] [yR r,fR a b c,iR 0] [true,false,false,false,false,false,true,false] =some ([(n !=false)=false,siG (siN d e) (siD e)=true,siI (siN d e) (siD e)=false] ++siP d e++[(d==[])=false] ++siQ d n e++siV d e (siB (siM (siN d e) (siD e)) (siE (siN d e) (siD e))) r a b c):=by kernel_rfl
theorem e2l:n8 y1n [] 200 42 [dA n d e,iR 1] [yR r,fR a b c,iR 0] [true,false,false,false,false,false,false,false] =some ([(n !=false)=false,siG (siN d e) (siD e)=false,siI (siN d e) (siD e)=false] ++siP d e++[(d==[])=false] ++siQ d n e++siV d e (siL (siM (siN d e) (siD e))) r a b c):=by kernel_rfl
theorem f2g:n8 y1n [] 200 42 [dA n d e,iR 1] [yR r,fR a b c,iR 0] [true,false,false,false,false,true,false] =some ([(n !=false)=false,(floatToFloatBits .f64 9218868437227405312 .f32).isSome=true,siI (siN d e) (siD e)=true] ++siP d e++[(d==[])=false] ++siQ d n e++siV d e ((floatToFloatBits .f64 9218868437227405312 .f32).getD 0) r a b c):=by kernel_rfl
end
def lR (K:Nat) (L:Int) (N D:Nat) (e:Int):Prop:=L≤e∧flq N D e < 2 ^K∧(e=L∨2 ^(K-1)≤flq N D e)
theorem vQ (k:Nat):0 < 2 ^k:=Nat.pow_pos (by decide)
theorem p1e {K:Nat} (hK:0 < K):2 ^K=2*2 ^(K-1):=by
 obtain⟨k,rfl⟩:∃ k,K=k+1:=⟨K-1,by omega⟩
 rw [Nat.pow_succ,Nat.add_sub_cancel,Nat.mul_comm]
theorem k0u {K:Nat} {N D:Nat} {e:Int} {s:Nat} (hK:0 < K) (h:2 ^(K-1)≤flq N D (e+((s+1:Nat):Int))):2 ^K≤flq N D e:=by
 rw [lV,Nat.le_div_iff_mul_le (vQ _)] at h
 have:2 ^K≤2 ^(K-1)*2 ^(s+1):=by
  rw [← Nat.pow_add]
  exact Nat.pow_le_pow_right (by decide) (by omega)
 omega
theorem k0i {K:Nat} {L:Int} {N D:Nat} {e e':Int} (hK:0 < K) (h:lR K L N D e) (h':lR K L N D e'):¬e < e':=by
 intro hlt
 obtain⟨s,hs⟩:∃ s:Nat,e'=e+((s+1:Nat):Int):=⟨(e'-e-1).toNat,by omega⟩
 obtain⟨h1,h2,_⟩:=h
 obtain⟨k1,_,k3⟩:=h'
 rcases k3 with k3 | k3
 ·omega
 ·rw [hs] at k3
  have:=k0u hK k3
  omega
theorem h1b {K:Nat} {L:Int} {N D:Nat} {e e':Int} (hK:0 < K) (h:lR K L N D e) (h':lR K L N D e'):e=e':=by
 have h1:=k0i hK h h'
 have h2:=k0i hK h' h
 omega
theorem F8 {K:Nat} {L:Int} {N D:Nat} (hK:0 < K) (hN:0 < N) (hD:0 < D):lR K L N D (p9 K L N D):=by
 refine⟨?_,jB,?_⟩
 ·unfold p9 w7
  split <;> split <;> omega
 ·rcases Nat.lt_or_ge (flq N D (p9 K L N D)) (2 ^(K-1)) with h | h
  ·exact .inl (s0d hK hN hD h)
  ·exact .inr h
theorem q0a (N k:Nat) (e:Int):atA (N*k) e=atA N e*k:=by
 unfold atA
 split
 ·rfl
 ·rw [Nat.mul_right_comm]
theorem e0o (D k:Nat) (e:Int):atB (D*k) e=atB D e*k:=by
 unfold atB
 split
 ·rw [Nat.mul_right_comm]
 ·rfl
theorem q0o {N D k:Nat} (hk:0 < k) (e:Int):flq (N*k) (D*k) e=flq N D e:=by
 unfold flq
 rw [q0a,e0o,Nat.mul_div_mul_right _ _ hk]
theorem a1t {N D k:Nat} (e:Int):flr (N*k) (D*k) e=flr N D e*k:=by
 unfold flr
 rw [q0a,e0o,Nat.mul_mod_mul_right]
theorem q1w (a b:Nat) {k:Nat} (hk:0 < k):cmN (a*k) (b*k)=cmN a b:=by
 unfold cmN
 have h1:a*k < b*k↔a < b:=Nat.mul_lt_mul_right hk
 have h2:a*k=b*k↔a=b:=⟨fun h=>Nat.eq_of_mul_eq_mul_right hk h,fun h=>by rw [h]⟩
 simp only [h1,h2]
theorem r1b {N D k:Nat} (hk:0 < k) (e:Int):flm (N*k) (D*k) e=flm N D e:=by
 have h1:flw (N*k) (D*k) e=flw N D e:=by
  unfold flw
  rw [a1t]
  refine decide_eq_decide.2 ⟨fun h=> ?_,fun h=>by rw [h,Nat.zero_mul]⟩
  rcases Nat.mul_eq_zero.1 h with h | h
  ·exact h
  ·omega
 have h2:flh (N*k) (D*k) e=flh N D e:=by
  unfold flh
  rw [a1t,e0o,Nat.mul_right_comm,q1w _ _ hk]
 unfold flm d0v
 rw [h1,h2,q0o hk]
theorem y0m {K:Nat} {L:Int} {N D k:Nat} (hk:0 < k) {e:Int} (h:lR K L N D e):lR K L (N*k) (D*k) e:=by
 unfold lR at*
 rw [q0o hk]
 exact h
def rwd (K:Nat) (L:Int) (N D:Nat):Nat:=if N=0 then 0 else (p9 K L N D-L).toNat*2 ^(K-1)+flm N D (p9 K L N D)
theorem d1z {K:Nat} {L:Int} {D:Nat} :rwd K L 0 D=0:=rfl
theorem eZ {K:Nat} {L:Int} {N D:Nat} {e:Int} (hK:0 < K) (hN:0 < N) (hD:0 < D) (h:lR K L N D e):rwd K L N D=(e-L).toNat*2 ^(K-1)+flm N D e:=by
 unfold rwd
 rw [if_neg (by omega),h1b hK (F8 hK hN hD) h]
theorem vV {K:Nat} {L:Int} {N D k:Nat} (hK:0 < K) (hD:0 < D) (hk:0 < k):rwd K L (N*k) (D*k)=rwd K L N D:=by
 rcases Nat.eq_zero_or_pos N with h | h
 ·subst h
  rw [Nat.zero_mul]
  rfl
 ·rw [eZ hK (Nat.mul_pos h hk) (Nat.mul_pos hD hk) (y0m hk (F8 hK h hD)),r1b hk,eZ hK h hD (F8 hK h hD)]
theorem b1k {K:Nat} {L:Int} {N D N' D':Nat} (hK:0 < K) (hD:0 < D) (hD':0 < D') (h:N*D'=N'*D):rwd K L N D=rwd K L N' D':=by
 rw [← vV hK hD hD',← vV (N:=N') hK hD' hD,h,Nat.mul_comm D D']
theorem k0p {N N':Nat} (h:N≤N') (e:Int):atA N e≤atA N' e:=by
 unfold atA
 split
 ·exact h
 ·exact Nat.mul_le_mul_right _ h
theorem k0d {N N':Nat} (h:N≤N') (D:Nat) (e:Int):flq N D e≤flq N' D e:=Nat.div_le_div_right (k0p h e)
theorem G8 (N D:Nat) (e:Int):flq N D e≤flm N D e∧flm N D e≤flq N D e+1:=by
 unfold flm
 split <;> omega
theorem d1p {a a' b:Nat} {q:Nat} (h:a≤a') (hu:upB (cmN (a*2) b) q=true):upB (cmN (a'*2) b) q=true:=by
 unfold upB cmN at*
 by_cases h1:a'*2 < b
 ·rw [if_pos (show a*2 < b by omega)] at hu
  cases hu
 ·rw [if_neg h1]
  by_cases h2:a'*2=b
  ·rw [if_pos h2]
   by_cases h3:a*2 < b
   ·rw [if_pos h3] at hu
    cases hu
   ·rw [if_neg h3,if_pos (show a*2=b by omega)] at hu
    exact hu
  ·rw [if_neg h2]
   rfl
theorem g1p {N N':Nat} (h:N≤N') (D:Nat) (e:Int):flm N D e≤flm N' D e:=by
 have hq:=k0d h D e
 rcases Nat.lt_or_ge (flq N D e) (flq N' D e) with h1 | h1
 ·have h2:=G8 N D e
  have h3:=G8 N' D e
  omega
 ·have e1:flq N' D e=flq N D e:=by omega
  have hr:flr N D e≤flr N' D e:=by
   have a1:=Nat.div_add_mod (atA N e) (atB D e)
   have a2:=Nat.div_add_mod (atA N' e) (atB D e)
   have a3:=k0p h e
   have e2:atA N' e/atB D e=atA N e/atB D e:=e1
   unfold flr
   rw [e2] at a2
   omega
  have hu:d0v N D e=true→d0v N' D e=true:=by
   intro hu
   unfold d0v at*
   cases hw:flw N D e with
   | true=>rw [hw] at hu; cases hu
   | false=>
    rw [hw] at hu
    have hw2:flw N' D e=false:=by
     unfold flw at*
     have:=of_decide_eq_false hw
     exact decide_eq_false (by omega)
    rw [hw2,e1]
    exact d1p hr hu
  unfold flm
  rw [e1]
  by_cases h2:d0v N D e=true
  ·rw [if_pos h2,if_pos (hu h2)]
   exact Nat.le_refl _
  ·rw [if_neg h2]
   split <;> omega
theorem e1a {K:Nat} {L:Int} {N N' D:Nat} (hK:0 < K) (hD:0 < D) (h:N≤N'):rwd K L N D≤rwd K L N' D:=by
 rcases Nat.eq_zero_or_pos N with hN | hN
 ·subst hN
  exact Nat.zero_le _
 ·have hN':0 < N':=by omega
  have i1:=F8 (L:=L) hK hN hD
  have i2:=F8 (L:=L) hK hN' hD
  rw [eZ hK hN hD i1,eZ hK hN' hD i2]
  generalize p9 K L N D=e at*
  generalize p9 K L N' D=e' at*
  obtain⟨a1,a2,a3⟩:=i1
  obtain⟨b1,b2,b3⟩:=i2
  have m1:=G8 N D e
  have m2:=G8 N' D e'
  have hK2:=p1e hK
  rcases Int.lt_trichotomy e e' with hlt | heq | hgt
  ·obtain⟨s,hs⟩:∃ s:Nat,e'=e+((s+1:Nat):Int):=⟨(e'-e-1).toNat,by omega⟩
   have hb:2 ^(K-1)≤flq N' D e':=by
    rcases b3 with b3 | b3
    ·omega
    ·exact b3
   rw [show (e'-L).toNat=(e-L).toNat+1+s by omega,Nat.add_mul,Nat.add_mul]
   omega
  ·subst heq
   have:=g1p h D e
   omega
  ·exfalso
   obtain⟨s,hs⟩:∃ s:Nat,e=e'+((s+1:Nat):Int):=⟨(e-e'-1).toNat,by omega⟩
   have ha:2 ^(K-1)≤flq N D e:=by
    rcases a3 with a3 | a3
    ·omega
    ·exact a3
   have:=Nat.le_trans ha (k0d h D e)
   rw [hs] at this
   have:=k0u hK this
   omega
theorem j1e {K:Nat} {L:Int} {N D N' D':Nat} (hK:0 < K) (hD:0 < D) (hD':0 < D') (h:N*D'≤N'*D):rwd K L N D≤rwd K L N' D':=by
 rw [← vV hK hD hD',← vV (N:=N') hK hD' hD,Nat.mul_comm D' D]
 exact e1a hK (Nat.mul_pos hD hD') h
theorem r0k {a b:Nat} (h:2046≤a) (hb:4503599627370496≤b):9218868437227405312≤a*4503599627370496+b:=by omega
theorem g1s {a b:Nat} (h:2045≤a) (hb:9007199254740992≤b):9218868437227405312≤a*4503599627370496+b:=by omega
theorem x1i {a b:Nat} (h:a≤2045) (hb:b < 9007199254740992):a*4503599627370496+b≤9218868437227405312:=by omega
theorem d1w {N D:Nat} (hD:0 < D):cF N D=min (rwd 53 (-1074) N D) 9218868437227405312:=by
 rcases Nat.eq_zero_or_pos N with hN | hN
 ·subst hN
  rw [d1z,Nat.zero_min]
  have hq:∀ e,flq 0 D e=0:=by
   intro e
   unfold flq atA
   split <;> simp
  have hr:∀ e,flr 0 D e=0:=by
   intro e
   unfold flr atA
   split <;> simp
  have hm:∀ e,flm 0 D e=0:=by
   intro e
   unfold flm d0v flw
   rw [hr,hq]
   rfl
  have he:p9 53 (-1074) 0 D≤0:=by
   unfold p9 w7
   rw [hq,o1s]
   split <;> split <;> omega
  unfold cF B1 qG pC
  have k:¬2 ^53≤0:=by decide
  rw [hm]
  simp only [if_neg k]
  rw [decide_eq_false (by omega),if_neg (by decide),if_pos trivial]
 ·have i1:=F8 (L:= -1074) (show 0 < 53 by decide) hN hD
  rw [eZ (by decide) hN hD i1]
  unfold cF B1 qG pC
  generalize p9 53 (-1074) N D=e at*
  obtain⟨a1,a2,a3⟩:=i1
  have m1:=G8 N D e
  rw [show (2:Nat) ^53=9007199254740992 by decide] at*
  rw [show (2:Nat) ^(53-1)=4503599627370496 by decide] at*
  rw [show (e- -1074).toNat=(e+1074).toNat by omega]
  by_cases hc:9007199254740992≤flm N D e
  ·rw [if_pos hc,if_pos hc]
   have hm:flm N D e=9007199254740992:=by omega
   by_cases hi:971 < e+1
   ·rw [decide_eq_true hi,if_pos rfl]
    exact (Nat.min_eq_right (g1s (by omega) hc)).symm
   ·rw [decide_eq_false hi,if_neg (by decide),hm,if_neg (by decide)]
    rw [Nat.min_eq_left (by omega)]
    omega
  ·rw [if_neg hc,if_neg hc]
   by_cases hi:971 < e
   ·rw [decide_eq_true hi,if_pos rfl]
    refine (Nat.min_eq_right (r0k (by omega) ?_)).symm
    rcases a3 with a3 | a3 <;> omega
   ·rw [decide_eq_false hi,if_neg (by decide)]
    by_cases h0:flm N D e=0
    ·rw [if_pos h0,h0]
     have:e= -1074:=by rcases a3 with a3 | a3 <;> omega
     rw [this]
     rfl
    ·rw [if_neg h0,Nat.min_eq_left (x1i (by omega) (by omega))]
theorem u1g {T N D:Nat} (hD:0 < D) (h:D*T≤N):rwd 53 (-1074) T 1≤rwd 53 (-1074) N D:=j1e (by decide) (by decide) hD (by rw [Nat.mul_one,Nat.mul_comm]; exact h)
theorem m1g {N D:Nat} (hD:0 < D) (h:D*2 ^1024≤N):9218868437227405312≤rwd 53 (-1074) N D:=by
 have h1:=u1g hD h
 have h2:lR 53 (-1074) (2 ^1024) 1 972:=by
  refine⟨by decide,?_, .inr ?_⟩ <;> decide+kernel
 rw [eZ (by decide) (vQ _) (by decide) h2] at h1
 have h3:4503599627370496≤flm (2 ^1024) 1 972:=Nat.le_trans (by decide+kernel) (G8 _ _ _).1
 refine Nat.le_trans ?_ h1
 have e:((972:Int)- -1074).toNat*2 ^(53-1)=2046*4503599627370496:=by decide+kernel
 rw [e]
 generalize flm (2 ^1024) 1 972=x at*
 exact r0k (Nat.le_refl _) h3
theorem b1y {N D:Nat} (hD:0 < D) (h:D*2 ^128≤N):2139095040≤rwd 24 (-149) N D:=by
 have h1:rwd 24 (-149) (2 ^128) 1≤rwd 24 (-149) N D:=j1e (by decide) (by decide) hD (by rw [Nat.mul_one,Nat.mul_comm]; exact h)
 have h2:lR 24 (-149) (2 ^128) 1 105:=by
  refine⟨by decide,?_, .inr ?_⟩ <;> decide+kernel
 rw [eZ (by decide) (vQ _) (by decide) h2] at h1
 have h3:8388608≤flm (2 ^128) 1 105:=Nat.le_trans (by decide+kernel) (G8 _ _ _).1
 refine Nat.le_trans ?_ h1
 have e:((105:Int)- -149).toNat*2 ^(24-1)=2130706432:=by decide+kernel
 rw [e]
 generalize flm (2 ^128) 1 105=x at*
 omega
theorem v0j {K:Nat} {L:Int} {N D:Nat} (hK:0 < K) (hL:L≤0) (h:N*2 ^((-L).toNat+1) < D):rwd K L N D=0:=by
 rcases Nat.eq_zero_or_pos N with hN | hN
 ·subst hN; rfl
 have hD:0 < D:=by omega
 have hA:atA N L*2 < atB D L:=by
  unfold atA atB
  by_cases h0:0≤L
  ·have:L=0:=by omega
   subst this
   simpa using h
  ·rw [if_neg h0,if_neg h0,Nat.mul_assoc,← Nat.pow_succ]
   exact h
 have hq:flq N D L=0:=Nat.div_eq_of_lt (by omega)
 have hr:flr N D L=atA N L:=Nat.mod_eq_of_lt (by omega)
 have hm:flm N D L=0:=by
  unfold flm d0v flh
  rw [hq,hr]
  unfold cmN
  rw [if_pos hA]
  have:upB (-1) 0=false:=by decide
  rw [this,Bool.and_false]
  rfl
 rw [eZ hK hN hD ⟨Int.le_refl _,by rw [hq]; exact vQ _, .inl rfl⟩,hm,Int.sub_self]
 simp
def dcF (m:Nat) (c:UInt8):Nat:=10*m+(c.toNat-48)
def dcN (l:List UInt8):Nat:=l.foldl dcF 0
theorem yI:∀ (l:List UInt8) (m:Nat),l.foldl dcF m=m*10 ^l.length+dcN l
 | [],m=>by simp [dcN]
 | c ::r,m=>by
  unfold dcN
  rw [List.foldl_cons,List.foldl_cons,yI r,yI r (dcF 0 c)]
  unfold dcF
  rw [List.length_cons,Nat.pow_succ,Nat.add_mul,Nat.add_mul,← Nat.mul_assoc,Nat.mul_comm m (10 ^r.length),Nat.mul_zero,Nat.zero_mul,Nat.zero_add,Nat.mul_comm 10 m,Nat.mul_right_comm m 10,Nat.mul_comm m (10 ^r.length),Nat.mul_right_comm (10 ^r.length) m 10,Nat.add_assoc]
theorem P4 (a b:List UInt8):dcN (a++b)=dcN a*10 ^b.length+dcN b:=by
 unfold dcN
 rw [List.foldl_append,yI b]
 rfl
theorem I7 (c:UInt8) (r:List UInt8):dcN (c ::r)=(c.toNat-48)*10 ^r.length+dcN r:=by
 have:=P4 [c] r
 rw [List.singleton_append] at this
 rw [this]
 unfold dcN dcF
 rw [List.foldl_cons,List.foldl_nil,Nat.mul_zero,Nat.zero_add]
theorem oB:∀ n:Nat,dcN (List.replicate n 48)=0
 | 0=>rfl
 | n+1=>by
  rw [List.replicate_succ,I7,oB n]
  show (48-48)*_+0=0
  rw [Nat.sub_self,Nat.zero_mul]
theorem J7 {c:UInt8} {r:List UInt8} (h:r8 (c ::r)=true):(48≤c.toNat∧c.toNat≤57)∧r8 r=true:=
 ⟨allDB_mem.1 h c List.mem_cons_self,allDB_mem.2 fun b hb=>allDB_mem.1 h b (List.mem_cons_of_mem _ hb)⟩
theorem y0h:∀ {l:List UInt8},r8 l=true→P9 l∧dgN l=dcN l
 | [],_=>⟨rfl,rfl⟩
 | c ::r,h=>by
  obtain⟨h1,h2⟩:=J7 h
  obtain⟨h3,h4⟩:=y0h h2
  obtain⟨h5,h6⟩:=mX h1 h3
  exact⟨h5,by rw [h6,h4,I7]⟩
theorem W4:∀ l:List UInt8,l=List.replicate (l.length- (a8 l).length) 48++a8 l
 | [] =>rfl
 | c ::r=>by
  unfold a8
  by_cases h:c=48
  ·rw [if_pos h]
   have h1:=W4 r
   have h2:=B3 r
   rw [List.length_cons,show r.length+1- (a8 r).length=r.length- (a8 r).length+1 by omega,List.replicate_succ,List.cons_append,← h1,h]
  ·rw [if_neg h,Nat.sub_self]
   rfl
theorem t0s (t:List UInt8):t=M9 t++List.replicate (t.length- (M9 t).length) 48:=by
 have h:=congrArg List.reverse (W4 t.reverse)
 rw [List.reverse_reverse,List.reverse_append,List.reverse_replicate,List.length_reverse] at h
 unfold M9
 rw [List.length_reverse]
 exact h
theorem K3 (l:List UInt8):dcN (a8 l)=dcN l:=by
 have h:=congrArg dcN (W4 l)
 rw [P4,oB,Nat.zero_mul,Nat.zero_add] at h
 exact h.symm
theorem d0h (l:List UInt8):dcN l=dcN (M9 l)*10 ^(l.length- (M9 l).length):=by
 have h:=congrArg dcN (t0s l)
 rw [P4,oB,Nat.add_zero,List.length_replicate] at h
 exact h
theorem t0g:∀ {l:List UInt8},r8 l=true→dcN l < 10 ^l.length
 | [],_=>by decide
 | c ::r,h=>by
  obtain⟨h1,h2⟩:=J7 h
  have h3:=t0g h2
  rw [I7,List.length_cons,Nat.pow_succ]
  have:(c.toNat-48)*10 ^r.length≤9*10 ^r.length:=Nat.mul_le_mul_right _ (by omega)
  omega
theorem k1z {l:List UInt8} {c:UInt8} {r:List UInt8} (h:r8 l=true) (ht:a8 l=c ::r):10 ^r.length≤dcN l:=by
 rw [← K3,ht,I7]
 have hc:=F6 ht
 have h1:=allDB_mem.1 h c (E1 (by rw [ht]; exact List.mem_cons_self))
 have h2:c.toNat≠48:=fun e=>hc (UInt8.toNat_inj.1 e)
 have:1*10 ^r.length≤(c.toNat-48)*10 ^r.length:=Nat.mul_le_mul_right _ (by omega)
 omega
def pN (B:Nat) (x:Int):Nat:=if 0≤x then B ^x.toNat else 1
def pD (B:Nat) (x:Int):Nat:=if 0≤x then 1 else B ^(-x).toNat
theorem c0y {B:Nat} (hB:0 < B) (x:Int):0 < pD B x:=by
 unfold pD
 split
 ·exact Nat.one_pos
 ·exact Nat.pow_pos hB
theorem h1k (B b:Nat) (x:Int):B ^b*pN B x*pD B (x+b)=pN B (x+b)*pD B x:=by
 unfold pN pD
 by_cases h:0≤x
 ·rw [if_pos h,if_pos h,if_pos (show 0≤x+(b:Int) by omega),if_pos (show 0≤x+(b:Int) by omega),← Nat.pow_add,show b+x.toNat=(x+(b:Int)).toNat by omega]
 ·rw [if_neg h,if_neg h]
  by_cases h2:0≤x+(b:Int)
  ·rw [if_pos h2,if_pos h2,← Nat.pow_add,show (x+(b:Int)).toNat+(-x).toNat=b by omega,Nat.mul_one,Nat.mul_one]
  ·rw [if_neg h2,if_neg h2,Nat.mul_one,Nat.one_mul,← Nat.pow_add,show b+(-(x+(b:Int))).toNat=(-x).toNat by omega]
def dcW (K:Nat) (L:Int) (n:Nat) (e:Int):Nat:=rwd K L (n*pN 10 e) (pD 10 e)
theorem l0f {K:Nat} {L:Int} {e:Int} :dcW K L 0 e=0:=by
 unfold dcW
 rw [Nat.zero_mul]
 rfl
theorem lH {K:Nat} {L:Int} (hK:0 < K) (n b:Nat) (e:Int):dcW K L (n*10 ^b) e=dcW K L n (e+b):=by
 unfold dcW
 refine b1k hK (c0y (by decide) _) (c0y (by decide) _) ?_
 rw [Nat.mul_assoc n,Nat.mul_assoc n,h1k,Nat.mul_assoc]
theorem a1j:2 ^1024≤10 ^400:=by decide+kernel
theorem n1e:2 ^1075 < 10 ^400:=by decide+kernel
theorem w1n {j k n:Nat} {e:Int} (h:10 ^k≤n) (hk:(j:Int)≤(k:Int)+e):10 ^j*pD 10 e≤n*pN 10 e:=by
 refine Nat.le_trans ?_ (Nat.mul_le_mul_right _ h)
 unfold pD pN
 by_cases he:0≤e
 ·rw [if_pos he,if_pos he,← Nat.pow_add,Nat.mul_one]
  exact Nat.pow_le_pow_right (by decide) (by omega)
 ·rw [if_neg he,if_neg he,← Nat.pow_add,Nat.mul_one]
  exact Nat.pow_le_pow_right (by decide) (by omega)
theorem i1x {T j k n:Nat} {e:Int} (hT:T≤10 ^j) (h:10 ^k≤n) (hk:(j:Int)≤(k:Int)+e):pD 10 e*T≤n*pN 10 e:=by
 refine Nat.le_trans ?_ (w1n h hk)
 rw [Nat.mul_comm]
 exact Nat.mul_le_mul_right _ hT
theorem p1h {n:Nat} {k:Nat} {e:Int} (h:10 ^k≤n) (hk:400≤(k:Int)+e):9218868437227405312≤dcW 53 (-1074) n e:=m1g (c0y (by decide) _) (i1x a1j h hk)
theorem u1w {m k:Nat} (h:m≤k):2 ^m≤2 ^k:=Nat.pow_le_pow_right (by decide) h
theorem g0d {n a b T:Nat} (h:n < a) (h2:b < T):n*b < a*T:=Nat.mul_lt_mul'' h h2
theorem q1g {n k j:Nat} {b T:Nat} (hT:T=10 ^j) (h:n < 10 ^k) (h8:b < T):n*b < 10 ^(k+j):=by
 rw [Nat.pow_add,← hT]
 exact g0d h h8
theorem d0c {K:Nat} {L:Int} (hK:0 < K) (hL: -1074≤L∧L≤0) {n:Nat} {k:Nat} {e:Int} (h:n < 10 ^k) (hk:(k:Int)+e≤-400):dcW K L n e=0:=by
 refine v0j hK hL.2 ?_
 have h8:=Nat.lt_of_le_of_lt (u1w (m:=(-L).toNat+1) (k:=1075) (by omega)) n1e
 unfold pN pD
 rw [if_neg (by omega),if_neg (by omega),Nat.mul_one]
 have h7:10 ^(k+400)≤10 ^(-e).toNat:=Nat.pow_le_pow_right (by decide) (by omega)
 refine Nat.lt_of_lt_of_le ?_ h7
 exact q1g rfl h h8
theorem a0u:dgN [49] =1:=by decide
theorem v1b {d:List UInt8} {e:Int} (hd:r8 d=true) (hl:d.length≤8192):neW d e=min (dcW 53 (-1074) (dcN d) e) 9218868437227405312∧neE d e=0:=by
 have hT:r8 (a8 d)=true:=allDB_mem.2 fun b hb=>allDB_mem.1 hd b (E1 hb)
 have hle:=B3 d
 unfold neW neE
 by_cases h0:a8 d=[]
 ·rw [if_pos h0,if_pos h0,← K3,h0]
  refine⟨?_,rfl⟩
  show 0=min (dcW 53 (-1074) 0 e) _
  rw [l0f,Nat.zero_min]
 ·rw [if_neg h0,if_neg h0]
  obtain⟨c,r,hcr⟩:∃ c r,a8 d=c ::r:=by
   cases h:a8 d with
   | nil=>exact absurd h h0
   | cons c r=>exact⟨c,r,rfl⟩
  have hlen:(a8 d).length=r.length+1:=by rw [hcr]; rfl
  have hge:=k1z hd hcr
  have hlt:=t0g hT
  rw [K3] at hlt
  by_cases h1:400 < neQ d e
  ·rw [if_pos h1,if_pos h1]
   unfold neQ at h1
   exact⟨(Nat.min_eq_right (p1h hge (by omega))).symm,rfl⟩
  ·rw [if_neg h1,if_neg h1]
   by_cases h2:neQ d e < -400
   ·rw [if_pos h2,if_pos h2]
    unfold neQ at h2
    rw [d0c (by decide) ⟨by decide,by decide⟩ hlt (by omega),Nat.zero_min]
    exact⟨rfl,rfl⟩
   ·rw [if_neg h2,if_neg h2]
    unfold neQ at h1 h2
    have hb:=mD (t:=a8 d)
    have hmE:mdE (a8 d) e=0:=by
     unfold mdE
     rw [x8,if_neg h0,if_neg (by omega),if_neg (by omega)]
    rw [if_neg (by rw [hmE]; decide)]
    have hI:mdI (a8 d) e=true:=by
     unfold mdI
     rw [x8,hmE,decide_eq_true h0]
     rfl
    have hD:mdD (a8 d) e=mdS (a8 d):=by unfold mdD; rw [if_pos hI]
    have hX:mdX (a8 d) e=e+mdB (a8 d):=by unfold mdX; rw [if_pos hI]
    have hS:dcN d=dcN (mdS (a8 d))*10 ^(mdB (a8 d)).toNat:=by
     have h3:=d0h (a8 d)
     rw [K3] at h3
     have h4:mdS (a8 d)=M9 (a8 d):=by unfold mdS; rw [x8]
     have h5:(mdB (a8 d)).toNat=(a8 d).length- (M9 (a8 d)).length:=by
      unfold mdB
      rw [x8,h4]
      omega
     rw [h4,h5]
     exact h3
    obtain⟨c2,r2,hc2,_⟩:=wB (t:=a8 d) (by rw [x8]; exact h0)
    have hSd:r8 (mdS (a8 d))=true:=allDB_mem.2 fun b hb=>allDB_mem.1 hT b (h0v hb)
    obtain⟨_,hg⟩:=y0h hSd
    refine⟨?_,hmE⟩
    rw [hD,hX]
    unfold raW
    rw [if_neg (by rw [hc2]; exact List.cons_ne_nil _ _)]
    have q1:qtN (mdS (a8 d)) (e+mdB (a8 d))=dcN (mdS (a8 d))*pN 10 (e+mdB (a8 d)):=by
     unfold qtN pN
     rw [hg]
     split
     ·rfl
     ·rw [Nat.mul_one]
    have q2:qtD [49] (e+mdB (a8 d))=pD 10 (e+mdB (a8 d)):=by
     unfold qtD pD
     rw [a0u]
     split
     ·rfl
     ·rw [Nat.one_mul]
    have q3:nuW false (qtN (mdS (a8 d)) (e+mdB (a8 d))) (qtD [49] (e+mdB (a8 d)))=cF (qtN (mdS (a8 d)) (e+mdB (a8 d))) (qtD [49] (e+mdB (a8 d))):=rfl
    rw [q3,q1,q2,d1w (c0y (by decide) _)]
    have q4:=lH (K:=53) (L:= -1074) (by decide) (dcN (mdS (a8 d))) (mdB (a8 d)).toNat e
    rw [← hS,show e+(((mdB (a8 d)).toNat:Nat):Int)=e+mdB (a8 d) by omega] at q4
    rw [q4]
    rfl
theorem l1p {x:Nat} (hx:x < 4294967296):(BitVec.ofInt IntKind.u32.bits (x:Int)).toNat=x:=by
 show (BitVec.ofInt 32 (x:Int)).toNat=x
 rw [BitVec.ofInt_natCast,BitVec.toNat_ofNat]
 exact Nat.mod_eq_of_lt hx
theorem r1w {n:Nat} (h:n < 4294967296):IntKind.u32.wrap (n:Int)=(n:Int):=by
 rw [IntKind.wrap_u32]
 omega
theorem t1m {M:Nat} (h:M < 16777216):siL M=M:=by
 unfold siL
 rw [r1w (by omega),Int.toNat_natCast]
theorem v1u {M:Nat} {E:Int} (h1:8388608≤M) (h2:M < 16777216) (h3: -149≤E) (h4:E≤104):siB M E=(E+149).toNat*8388608+M:=by
 obtain⟨k,hk,hk2⟩:∃ k:Nat,E+150=(k:Int)∧k≤254:=⟨(E+150).toNat,by omega,by omega⟩
 have e1:IntKind.i64.wrap (E+150)=(k:Int):=by rw [hk]; exact R6 (by omega) (by omega)
 unfold siB
 rw [e1,r1w (n:=k) (by omega)]
 have e2:(k:Int)*2 ^min (Int.toNat 23) IntKind.u32.bits=((k*8388608:Nat):Int):=by
  rw [Int.natCast_mul]
  rfl
 have e3:(BitVec.ofInt IntKind.u32.bits (IntKind.u32.wrap ((M:Nat):Int))&&& BitVec.ofInt IntKind.u32.bits 8388607).toNat=M-8388608:=by
  rw [r1w (n:=M) (by omega),BitVec.toNat_and,l1p (x:=M) (by omega),show (BitVec.ofInt IntKind.u32.bits 8388607).toNat=2 ^23-1 by decide,Nat.and_two_pow_sub_one_eq_mod]
  show M%8388608=_
  omega
 rw [e2,r1w (n:=k*8388608) (by omega),e3,r1w (n:=M-8388608) (by omega)]
 have e4:(BitVec.ofInt IntKind.u32.bits ((k*8388608:Nat):Int)||| BitVec.ofInt IntKind.u32.bits ((M-8388608:Nat):Int)).toNat=k*8388608+(M-8388608):=by
  rw [BitVec.toNat_or,l1p (by omega),l1p (by omega)]
  have:=Nat.two_pow_add_eq_or_of_lt (i:=23) (b:=M-8388608) (by show M-8388608 < 8388608; omega) k
  rw [Nat.mul_comm] at this
  exact this.symm
 rw [e4,r1w (n:=k*8388608+(M-8388608)) (by omega),Int.toNat_natCast]
 omega
theorem j1d (N D:Nat):siG N D=decide (8388608≤siM N D):=by
 unfold siG
 have e:((siM N D:Nat):Int).fdiv 8388608=((siM N D/8388608:Nat):Int):=(Int.ofNat_fdiv (siM N D) 8388608).symm
 rw [e]
 refine decide_eq_decide.2 ?_
 omega
theorem u0b {N D:Nat} (hN:0 < N) (hD:0 < D):(siI N D=true∧2139095040≤rwd 24 (-149) N D)∨(siI N D=false∧rwd 24 (-149) N D < 2139095040∧siM N D < 16777216∧-149≤siE N D∧siE N D≤104∧(8388608≤siM N D∨siE N D= -149)∧rwd 24 (-149) N D=(siE N D+149).toNat*8388608+siM N D):=by
 have i1:=F8 (L:= -149) (show 0 < 24 by decide) hN hD
 rw [eZ (by decide) hN hD i1]
 unfold siI siM siE p0m p0l B1 qG pC
 generalize p9 24 (-149) N D=e at*
 obtain⟨a1,a2,a3⟩:=i1
 have m1:=G8 N D e
 rw [show (2:Nat) ^24=16777216 by decide] at*
 rw [show (2:Nat) ^(24-1)=8388608 by decide] at*
 rw [show (e- -149).toNat=(e+149).toNat by omega]
 by_cases hc:16777216≤flm N D e
 ·rw [if_pos hc,if_pos hc]
  have hm:flm N D e=16777216:=by omega
  by_cases hi:104 < e+1
  ·left
   refine⟨decide_eq_true hi,?_⟩
   omega
  ·right
   have hf:decide (104 < e+1)=false:=decide_eq_false hi
   rw [hf,if_neg (by decide),if_neg (by decide),hm]
   refine⟨rfl,by omega,by omega,by omega,by omega, .inl (by omega),by omega⟩
 ·rw [if_neg hc,if_neg hc]
  by_cases hi:104 < e
  ·left
   refine⟨decide_eq_true hi,?_⟩
   rcases a3 with a3 | a3
   ·omega
   ·omega
  ·right
   have hf:decide (104 < e)=false:=decide_eq_false hi
   rw [hf,if_neg (by decide),if_neg (by decide)]
   refine⟨rfl,by omega,by omega,by omega,by omega,?_,by omega⟩
   rcases a3 with a3 | a3
   ·exact .inr a3
   ·exact .inl (by omega)
def t3W (d:List UInt8) (e:Int):Nat:=if d=[] then 0 else min (rwd 24 (-149) (qtN d e) (qtD [49] e)) 2139095040
def t3X (d:List UInt8) (e:Int):Bool:=if d=[] then false else siX (qtN d e) (qtD [49] e)
def t3I (d:List UInt8) (e:Int):Bool:=if d=[] then false else siI (qtN d e) (qtD [49] e)
def t3U (d:List UInt8) (e:Int):Bool:=if d=[] then false else siU (qtN d e) (qtD [49] e)
def a2p (d:List UInt8) (e:Int):Prop:=U0 false d e=true∧(d≠[] →-1000≤(d.length:Int)- ((1:Nat):Int)+e∧(d.length:Int)- ((1:Nat):Int)+e≤1000)
theorem l1q {d:List UInt8} {e:Int} (h:0 < dgN d):0 < qtN d e:=by
 unfold qtN
 split
 ·exact Nat.mul_pos h (Nat.pow_pos (by decide))
 ·exact h
theorem j0c:P9 [49] :=rfl
theorem w1g {d:List UInt8} {e:Int} (h:a2p d e):Ev.Sem Tryz.prog J0 42 [dA false d e,iR 1] [yR (t3W d e),fR (t3X d e) (t3I d e) (t3U d e),iR 0] :=by
 obtain⟨h1,h2⟩:=h
 obtain⟨a1,a2,a3,a4,a5⟩:=T2 h1
 have hq:∀ (f:Bool),d5 (siQ d f e)↔True∧(!U0 f d e)=false:=fun f=>⟨fun q=>⟨trivial,q.2.2.1⟩,fun q=>⟨rfl,rfl,q.2,by omega,⟨by decide,by decide⟩,rfl,trivial⟩⟩
 have hQ:d5 (siQ d false e):=(hq false).2 ⟨trivial,by rw [h1]; rfl⟩
 unfold t3W t3X t3I t3U
 by_cases hd:d=[]
 ·rw [if_pos hd,if_pos hd,if_pos hd,if_pos hd]
  refine d9 wU 10 _ _ (g2c false d e 0 false false false) (ap2 (ap2 ⟨by rw [hd]; rfl,trivial⟩ hQ) ⟨rfl,rfl,rfl,rfl,rfl,trivial⟩)
 ·rw [if_neg hd,if_neg hd,if_neg hd,if_neg hd]
  obtain⟨f1,f2⟩:=h2 hd
  have hN:0 < qtN d e:=l1q (a5 hd)
  have hD:0 < qtD [49] e:=w0q (by decide)
  have eN:siN d e=qtN d e:=by unfold siN; rw [w1v,Int.sub_zero]
  have eD:siD e=qtD [49] e:=by unfold siD; rw [w1v,Int.sub_zero]
  have hP:d5 (siP d e):=by
   refine⟨rfl,rfl,⟨Cn.ws _,Cn.ws _,by rw [eD]; exact hD,by rw [eN]; exact j1v a1 a2 (by omega),by rw [eD]; exact j1z j0c (by decide) (by omega)⟩,⟨a1,j0c,by omega,by decide,⟨by omega,by omega⟩,⟨by omega,by omega⟩⟩,trivial⟩
  have hn:(d==[])=false:=beq_false_of_ne hd
  rcases u0b hN hD with ⟨g1,g2⟩ | ⟨g1,g2,g3,g4,g5,g6,g7⟩
  ·rw [Nat.min_eq_right g2]
   have hw:=f2g false d e 2139095040 (siX (qtN d e) (qtD [49] e)) (siI (qtN d e) (qtD [49] e)) (siU (qtN d e) (qtD [49] e))
   rw [eN,eD] at hw
   refine d9 wU 10 _ _ hw (ap2 (ap2 (ap2 (ap2 ⟨rfl,by decide+kernel,g1,trivial⟩ hP) ⟨hn,trivial⟩) hQ) ⟨by rw [show (floatToFloatBits .f64 9218868437227405312 .f32).getD 0=2139095040 by decide+kernel],?_,?_,?_,rfl,trivial⟩)
   ·rw [eN,eD]
   ·rw [eN,eD]
   ·rw [eN,eD]
  ·rw [Nat.min_eq_left (by omega)]
   by_cases hb:8388608≤siM (qtN d e) (qtD [49] e)
   ·have hw:=f2r false d e (rwd 24 (-149) (qtN d e) (qtD [49] e)) (siX (qtN d e) (qtD [49] e)) (siI (qtN d e) (qtD [49] e)) (siU (qtN d e) (qtD [49] e))
    rw [eN,eD,v1u hb g3 g4 g5,j1d,← g7] at hw
    refine d9 wU 10 _ _ hw (ap2 (ap2 (ap2 (ap2 ⟨rfl,decide_eq_true hb,g1,trivial⟩ hP) ⟨hn,trivial⟩) hQ) ⟨rfl,?_,?_,?_,rfl,trivial⟩)
    ·rw [eN,eD]
    ·rw [eN,eD]
    ·rw [eN,eD]
   ·have hE:siE (qtN d e) (qtD [49] e)= -149:=g6.resolve_left hb
    have e0:rwd 24 (-149) (qtN d e) (qtD [49] e)=siM (qtN d e) (qtD [49] e):=by
     rw [g7,hE]
     show 0*8388608+_=_
     rw [Nat.zero_mul,Nat.zero_add]
    have hw:=e2l false d e (rwd 24 (-149) (qtN d e) (qtD [49] e)) (siX (qtN d e) (qtD [49] e)) (siI (qtN d e) (qtD [49] e)) (siU (qtN d e) (qtD [49] e))
    rw [eN,eD,t1m g3,j1d] at hw
    refine d9 wU 10 _ _ hw (ap2 (ap2 (ap2 (ap2 ⟨rfl,decide_eq_false hb,g1,trivial⟩ hP) ⟨hn,trivial⟩) hQ) ⟨?_,?_,?_,?_,rfl,trivial⟩)
    ·rw [e0]
    ·rw [eN,eD]
    ·rw [eN,eD]
    ·rw [eN,eD]
def y0y:List Arg→Option (List Arg×List Prop)
 | [.c (.v (.agg ⟨[.bool n, .string ⟨⟨d⟩⟩, .int .i64 e]⟩)), .c (.v (.int .i64 1))] =>some ([yR (t3W d e),fR (t3X d e) (t3I d e) (t3U d e),iR 0],[n=false∧a2p d e])
 | _=>none
theorem t0j:∀ az rs l,y0y az=some (rs,l)→d5 l→Ev.Sem Tryz.prog J0 42 az rs:=by
 intro az rs l h hl
 unfold y0y at h
 split at h
 ·cases h
  obtain⟨⟨rfl,h1⟩,_⟩:=hl
  exact w1g h1
 ·cases h
theorem wF:Ieee.single.leastPlace= -149:=by decide
theorem xQ:Ieee.single.binade=8388608:=by decide
theorem n1i:Ieee.single.infRung=2139095040:=by decide
theorem e0y:Ieee.single.signWeight=2147483648:=by decide
theorem u1m:Ieee.single.fractionBits=23:=by decide
theorem w0w {n M k:Nat} (b:Bool) (h:n=M*2 ^k) (hM:0 < M):Ieee.Toward.even.cut b n k=M:=by
 have:=Z7 h hM
 exact this
theorem p0b {a b:Nat} (ha:a≤253) (hb:b < 16777216):a*8388608+b≤2139095040:=by omega
theorem x1f {M k:Nat} {E:Int} (b:Bool) (hM:0 < M) (h24:M < 16777216) (hE: -149≤E) (hn:8388608≤M∨E= -149) (hT:E≤104):Ieee.single.nearest b (M*2 ^k) (E-k)=Ieee.single.word b ((E+149).toNat*8388608+M):=by
 have h2:0 < 2 ^k:=Nat.pow_pos (by decide)
 have h0:M*2 ^k≠0:=by
  have:=Nat.mul_pos hM h2
  omega
 have hl:(M*2 ^k).log2=M.log2+k:=by
  have hb:=tL (show M≠0 by omega)
  refine bL ?_ ?_
  ·rw [Nat.pow_add]; exact Nat.mul_le_mul_right _ hb.1
  ·rw [show M.log2+k+1=M.log2+1+k by omega,Nat.pow_add]; exact Nat.mul_lt_mul_of_pos_right hb.2 h2
 have hlast:max (E- (k:Int)+((M*2 ^k).log2:Nat)- (Ieee.single.fractionBits:Nat)) Ieee.single.leastPlace=E:=by
  rw [hl,wF,u1m]
  by_cases hb:8388608≤M
  ·have:M.log2=23:=bL hb h24
   rw [this]
   omega
  ·have hlt:M.log2 < 23:=(Nat.log2_lt (by omega)).2 (by show M < 8388608; omega)
   rcases hn with hn | hn <;> omega
 unfold Ieee.Format.nearest
 rw [if_neg h0]
 simp only [hlast]
 have e1:(E- (k:Int)-E).toNat=0:=by omega
 have e2:(E- (E- (k:Int))).toNat=k:=by omega
 rw [e1,e2,Nat.shiftLeft_zero,w0w b rfl hM,wF,xQ,n1i]
 rw [show E- -149=E+149 by omega]
 rw [Nat.min_eq_left (p0b (by omega) h24)]
def dbl (W:Nat):Nat:=(floatToFloatBits .f32 W .f64).getD 0
def sgM (W:Nat):Nat:=if W < 8388608 then W else 8388608+W%8388608
def sgP (W:Nat):Int:=if W < 8388608 then -149 else -149+((W/8388608-1:Nat):Int)
theorem j1q {W:Nat} (h:W < 2139095040):Ieee.single.read W= .number false (sgM W) (sgP W):=by
 unfold Ieee.Format.read sgM sgP
 rw [e0y,xQ,n1i,wF]
 have e1:W%2147483648=W:=Nat.mod_eq_of_lt (by omega)
 simp only [e1]
 rw [show (W/2147483648%2==1)=false by rw [Nat.div_eq_of_lt (by omega)]; rfl]
 by_cases h1:W < 8388608
 ·rw [if_pos h1,if_pos h1,if_pos h1]
 ·rw [if_neg h1,if_neg h1,if_neg h1,if_pos h]
theorem xX {W:Nat} (h:W < 2139095040):sgM W < 16777216∧-149≤sgP W∧sgP W≤104∧(8388608≤sgM W∨sgP W= -149)∧(sgP W+149).toNat*8388608+sgM W=W∧(0 < W→0 < sgM W):=by
 unfold sgM sgP
 by_cases h1:W < 8388608
 ·rw [if_pos h1,if_pos h1]
  exact⟨by omega,by omega,by omega, .inr rfl,by omega,fun h=>h⟩
 ·rw [if_neg h1,if_neg h1]
  have hm:=Nat.mod_lt W (show 0 < 8388608 by decide)
  have hd:=Nat.div_add_mod W 8388608
  exact⟨by omega,by omega,by omega, .inl (by omega),by omega,fun _=>by omega⟩
theorem q1h {M:Nat} (h0:0 < M) (h24:M≤16777216):∃ t,28≤t∧t≤52∧4503599627370496≤M*2 ^t∧M*2 ^t < 9007199254740992∧(8388608≤M→t≤29)∧(M < 16777216→29≤t):=by
 have hb:=tL (show M≠0 by omega)
 have hl:M.log2≤24:=by
  rcases Nat.lt_or_ge 24 M.log2 with h | h
  ·have:2 ^25≤2 ^M.log2:=Nat.pow_le_pow_right (by decide) h
   have e:(2:Nat) ^25=33554432:=by decide
   omega
  ·exact h
 refine⟨52-M.log2,by omega,by omega,?_,?_,fun h8=> ?_,fun h16=> ?_⟩
 ·have:2 ^M.log2*2 ^(52-M.log2)≤M*2 ^(52-M.log2):=Nat.mul_le_mul_right _ hb.1
  rw [← Nat.pow_add,show M.log2+(52-M.log2)=52 by omega] at this
  exact this
 ·have:M*2 ^(52-M.log2) < 2 ^(M.log2+1)*2 ^(52-M.log2):=Nat.mul_lt_mul_of_pos_right hb.2 (Nat.pow_pos (by decide))
  rw [← Nat.pow_add,show M.log2+1+(52-M.log2)=53 by omega] at this
  exact this
 ·have:¬M.log2 < 23:=fun h=>by
   have h2:2 ^(M.log2+1)≤2 ^23:=Nat.pow_le_pow_right (by decide) h
   have e:(2:Nat) ^23=8388608:=by decide
   omega
  omega
 ·have:M.log2 < 24:=(Nat.log2_lt (by omega)).2 (by show M < 16777216; exact h16)
  omega
theorem v1h {w:Nat} (b:Bool) (h1:4503599627370496≤w) (h2:w < 9218868437227405312):Ieee.double.read (if b=true then w+9223372036854775808 else w)= .number b (4503599627370496+w%4503599627370496) (-1074+((w/4503599627370496-1:Nat):Int)):=by
 cases b with
 | false=>exact mM h1 h2
 | true=>
  unfold Ieee.Format.read
  have hb:Ieee.double.binade=4503599627370496:=by decide
  have hi:Ieee.double.infRung=9218868437227405312:=by decide
  rw [t1l,hb,hi,I2,if_pos rfl]
  have e1:(w+9223372036854775808)%9223372036854775808=w:=by omega
  have e2:(w+9223372036854775808)/9223372036854775808=1:=by omega
  simp only [e1,e2]
  rw [if_neg (by omega),if_pos h2]
  rfl
theorem n0t {k q:Nat} (h1:4503599627370496≤q) (h2:q < 9007199254740992):(k*4503599627370496+q)/4503599627370496=k+1∧4503599627370496+(k*4503599627370496+q)%4503599627370496=q:=by omega
theorem f1o {k q:Nat} (hk:k≤1178) (h1:4503599627370496≤q) (h2:q < 9007199254740992):4503599627370496≤k*4503599627370496+q∧k*4503599627370496+q < 9218868437227405312:=by omega
theorem k1j {k q:Nat} (b:Bool) (hk:k≤1178) (h1:4503599627370496≤q) (h2:q < 9007199254740992):Ieee.double.read (if b=true then k*4503599627370496+q+9223372036854775808 else k*4503599627370496+q)= .number b q (-1074+(k:Int)):=by
 obtain⟨l1,l2⟩:=f1o hk h1 h2
 obtain⟨e1,e2⟩:=n0t (k:=k) h1 h2
 have hr:=v1h b l1 l2
 rw [e1,e2,Nat.add_sub_cancel] at hr
 exact hr
theorem r1k {W:Nat} (b:Bool) (h:W < 2139095040):(Ieee.single.read (if b=true then W+2147483648 else W)).isInfinity=false:=by
 cases b with
 | false=>rw [if_neg (by decide),j1q h]; rfl
 | true=>
  rw [if_pos rfl]
  unfold Ieee.Format.read
  rw [e0y,xQ,n1i,wF]
  have q1:(W+2147483648)%2147483648=W:=by omega
  simp only [q1]
  by_cases h3:W < 8388608
  ·rw [if_pos h3]; rfl
  ·rw [if_neg h3,if_pos h]; rfl
theorem s1k (b:Bool) (W:Nat):Ieee.single.word b W=if b=true then W+2147483648 else W:=by
 unfold Ieee.Format.word
 rw [e0y]
 cases b
 ·rfl
 ·exact Nat.add_comm _ _
theorem n1b {k q W:Nat} {P:Int} {b:Bool} (hr:Ieee.double.read (if b=true then k*4503599627370496+q+9223372036854775808 else k*4503599627370496+q)= .number b q P) (hw:Ieee.single.nearest b q P=if b=true then W+2147483648 else W) (h:W < 2139095040):
  floatToFloatBits .f64 (if b=true then k*4503599627370496+q+9223372036854775808 else k*4503599627370496+q) .f32=some (if b=true then W+2147483648 else W):=by
 generalize (if b=true then k*4503599627370496+q+9223372036854775808 else k*4503599627370496+q)=X at*
 unfold floatToFloatBits
 rw [if_neg (by decide)]
 have hd:FloatKind.f64.decode X= .number b q P:=hr
 rw [hd]
 have hni:(FloatKind.f32.decode (FloatKind.f32.encode (.number b q P))).isInfinity=false:=by
  show (Ieee.single.read (Ieee.single.nearest b q P)).isInfinity=false
  rw [hw]
  exact r1k b h
 show (if (FloatKind.f32.decode (FloatKind.f32.encode (.number b q P))).isInfinity=true then none else some (Ieee.single.nearest b q P))=_
 rw [hni,if_neg (by decide),hw]
theorem s1x {M t k:Nat} {E:Int} (b:Bool) (hM:0 < M) (h24:M < 16777216) (hE: -149≤E) (hn:8388608≤M∨E= -149) (hT:E≤104) (h1:4503599627370496≤M*2 ^t) (h2:M*2 ^t < 9007199254740992) (ht:t≤52) (hk:E- (t:Int)+1074=(k:Int)) (hlt:(E+149).toNat*8388608+M < 2139095040):
  floatToFloatBits .f64 (if b=true then k*4503599627370496+M*2 ^t+9223372036854775808 else k*4503599627370496+M*2 ^t) .f32=some (if b=true then (E+149).toNat*8388608+M+2147483648 else (E+149).toNat*8388608+M):=by
 have hk2:k≤1178:=by omega
 have hr:=k1j b hk2 h1 h2
 rw [show (-1074:Int)+(k:Int)=E- (t:Int) by omega] at hr
 have hw:=x1f (k:=t) b hM h24 hE hn hT
 rw [s1k] at hw
 exact n1b hr hw hlt
theorem p1w {W k q:Nat} {P:Int} (hr:Ieee.single.read W= .number false q P) (hw:Ieee.double.nearest false q P=k) (hi:(Ieee.double.read k).isInfinity=false):floatToFloatBits .f32 W .f64=some k:=by
 unfold floatToFloatBits
 rw [if_neg (by decide)]
 have hd:FloatKind.f32.decode W= .number false q P:=hr
 rw [hd]
 show (if (Ieee.double.read (Ieee.double.nearest false q P)).isInfinity=true then none else some (Ieee.double.nearest false q P))=_
 rw [hw,hi,if_neg (by decide)]
theorem y0w {W:Nat} (h0:0 < W) (h:W < 2139095040):∃ t k:Nat,29≤t∧t≤52∧4503599627370496≤sgM W*2 ^t∧sgM W*2 ^t < 9007199254740992∧(8388608≤sgM W→t=29)∧sgP W- (t:Int)+1074=(k:Int)∧floatToFloatBits .f32 W .f64=some (k*4503599627370496+sgM W*2 ^t):=by
 obtain⟨p1,p2,p3,p4,p5,p6⟩:=xX h
 obtain⟨t,t1,t2,t3,t4,t5,t6⟩:=q1h (p6 h0) (by omega)
 obtain⟨k,hk⟩:∃ k:Nat,sgP W- (t:Int)+1074=(k:Int):=⟨(sgP W- (t:Int)+1074).toNat,by omega⟩
 have hn:=lN (m:=sgM W) (t:=t) (P:=sgP W) t3 t4 (by omega) (by omega)
 rw [hk,Int.toNat_natCast] at hn
 refine⟨t,k,t6 p1,t2,t3,t4,fun h8=>by have:=t5 h8; have:=t6 p1; omega,hk,p1w (j1q h) hn ?_⟩
 have:=k1j (k:=k) false (by omega) t3 t4
 rw [if_neg (by decide)] at this
 rw [this]
 rfl
theorem l0n:floatToFloatBits .f32 0 .f64=some 0:=by decide+kernel
theorem d1q:dbl 0=0:=by unfold dbl; rw [l0n]; rfl
theorem i1n {W:Nat} (h:W < 2139095040):floatToFloatBits .f32 W .f64=some (dbl W):=by
 unfold dbl
 rcases Nat.eq_zero_or_pos W with h0 | h0
 ·rw [h0,l0n]; rfl
 ·obtain⟨t,k,_,_,_,_,_,_,h6⟩:=y0w h0 h
  rw [h6]
  rfl
theorem w1b {k q:Nat} (hk:k≤1149) (hq:q < 16777216):k*4503599627370496+q*536870912≤5183643170566569984:=by omega
theorem t1v {k q:Nat} (hk:k≤896) (hq:q < 9007199254740992):k*4503599627370496+q≤5183643170566569984:=by omega
theorem j1c {W:Nat} (h:W < 2139095040):dbl W≤5183643170566569984:=by
 rcases Nat.eq_zero_or_pos W with h0 | h0
 ·rw [h0,d1q]
  exact Nat.zero_le _
 ·obtain⟨t,k,t1,t2,t3,t4,t5,hk,t6⟩:=y0w h0 h
  obtain⟨p1,p2,p3,p4,p5,p6⟩:=xX h
  have e:dbl W=k*4503599627370496+sgM W*2 ^t:=by unfold dbl; rw [t6]; rfl
  rw [e]
  rcases p4 with p4 | p4
  ·have:=t5 p4
   subst this
   exact w1b (by omega) p1
  ·exact t1v (by omega) t4
theorem f1v {W:Nat} (b:Bool) (h:W < 2139095040):floatToFloatBits .f64 (if b=true then dbl W+9223372036854775808 else dbl W) .f32=some (if b=true then W+2147483648 else W):=by
 rcases Nat.eq_zero_or_pos W with h0 | h0
 ·rw [h0,d1q]
  cases b <;> decide+kernel
 ·obtain⟨t,k,t1,t2,t3,t4,t5,hk,t6⟩:=y0w h0 h
  obtain⟨p1,p2,p3,p4,p5,p6⟩:=xX h
  have e:dbl W=k*4503599627370496+sgM W*2 ^t:=by unfold dbl; rw [t6]; rfl
  have:=s1x b (p6 h0) p1 p2 p4 p3 t3 t4 t2 hk (by rw [p5]; exact h)
  rw [p5,← e] at this
  exact this
noncomputable def w0i:kM:=l5 42 (y3 [shV,shV] y0y) fT
theorem n0q:kY Tryz.prog J0 w0i:=b8 (g9 _ t0j) Q3
noncomputable def bSi1:Base:=⟨Tryz.prog,J0,false,j0m,w0i,200,H8⟩
theorem wK:BaseOk bSi1:=⟨progOk,mT,n0q,i7⟩
noncomputable abbrev x1x:Cx:=bSi1.cx 10
section
variable (hx:Bool) (d:List UInt8) (e n:Int) (r:Nat) (z:Int)
abbrev nsA (hx:Bool) (d:List UInt8) (e n:Int):List Arg:=x1q 41 hx d e n 24 (-149)
theorem e2e:n8 x1x [] 200 31 (nsA hx d e n) [xR r,iR z] [true] =some [(a8 d==([] :List UInt8))=true,(48:UInt8)=48,Value.float .f64 0=Value.float .f64 r,Value.int .i64 0=Value.int .i64 z] :=by kernel_rfl
theorem f2s:n8 x1x [] 200 31 (nsA hx d e n) [xR r,iR z] [false,false,true] =some [decide (400 < neP d e)=true,hx=false,(a8 d==([] :List UInt8))=false,(48:UInt8)=48,Value.float .f64 9218868437227405312=Value.float .f64 r,Value.int .i64 0=Value.int .i64 z] :=by kernel_rfl
theorem e2s:n8 x1x [] 200 31 (nsA hx d e n) [xR r,iR z] [false,false,false,true] =some [decide (neP d e < Int.negSucc 399)=true,decide (400 < neP d e)=false,hx=false,(a8 d==([] :List UInt8))=false,(48:UInt8)=48,Value.float .f64 0=Value.float .f64 r,Value.int .i64 0=Value.int .i64 z] :=by kernel_rfl
def nsW (d:List UInt8) (e:Int):Nat:=t3W (mdD (a8 d) e) (mdX (a8 d) e)
end
section
variable (d:List UInt8) (e n:Int) (r:Nat) (z:Int)
theorem e2t:n8 x1x [] 200 31 (nsA false d e n) [xR r,iR z] [false,false,false,false,false] =some [(floatToFloatBits .f32 (nsW d e) .f64).isSome=true,mdN false (a8 d) e=false∧a2p (mdD (a8 d) e) (mdX (a8 d) e),(mdE (a8 d) e !=0)=false,(a8 d).length≤140737488351232,r8 (a8 d)=true,decide (neP d e < Int.negSucc 399)=false,decide (400 < neP d e)=false,false=false,(a8 d==([] :List UInt8))=false,(48:UInt8)=48,Value.float .f64 (dbl (nsW d e))=Value.float .f64 r,Value.int .i64 0=Value.int .i64 z] :=by kernel_rfl
end
theorem v0c:floatToFloatBits .f32 2139095040 .f64=some 9218868437227405312:=by decide+kernel
theorem i0u:dbl 2139095040=9218868437227405312:=by unfold dbl; rw [v0c]; rfl
theorem u1o {W:Nat} (h:W≤2139095040):(floatToFloatBits .f32 W .f64).isSome=true:=by
 rcases Nat.lt_or_ge W 2139095040 with h1 | h1
 ·rw [i1n h1]; rfl
 ·obtain rfl:W=2139095040:=by omega
  rw [v0c]; rfl
theorem c2z (W:Nat):min W 2139095040≤2139095040:=Nat.min_le_right _ _
theorem y0x {n:Nat} {k:Nat} {e:Int} (h:10 ^k≤n) (hk:400≤(k:Int)+e):2139095040≤dcW 24 (-149) n e:=b1y (c0y (by decide) _) (i1x (Nat.le_trans (by decide+kernel) a1j) h hk)
theorem n0x {d:List UInt8} {e n:Int} (hd:r8 d=true) (hl:d.length≤8192) (he: -1000000000000000000≤e∧e≤1000000000000000000):Ev.Sem Tryz.prog J0 31 (nsA false d e n) [xR (dbl (min (dcW 24 (-149) (dcN d) e) 2139095040)),iR 0] :=by
 have hle:=B3 d
 have hP:neP d e=neQ d e:=by
  unfold neP neQ
  exact wr (by show -9223372036854775808≤((a8 d).length:Int)+e; omega) (by show ((a8 d).length:Int)+e≤9223372036854775807; omega)
 have hT:r8 (a8 d)=true:=allDB_mem.2 fun b hb=>allDB_mem.1 hd b (E1 hb)
 by_cases h0:a8 d=[]
 ·have e1:dbl (min (dcW 24 (-149) (dcN d) e) 2139095040)=0:=by
   rw [← K3,h0,show dcN [] =0 from rfl,l0f,Nat.zero_min,d1q]
  rw [e1]
  refine d9 wK 10 _ _ (e2e false d e n _ _) ?_
  rw [h0]
  exact⟨rfl,rfl,rfl,rfl,trivial⟩
 have k0:(a8 d==([] :List UInt8))=false:=beq_false_of_ne h0
 obtain⟨c,r,hcr⟩:∃ c r,a8 d=c ::r:=by
  cases h:a8 d with
  | nil=>exact absurd h h0
  | cons c r=>exact⟨c,r,rfl⟩
 have hlen:(a8 d).length=r.length+1:=by rw [hcr]; rfl
 have hge:=k1z hd hcr
 have hlt:=t0g hT
 rw [K3] at hlt
 by_cases h1:400 < neQ d e
 ·have h1':=h1
  unfold neQ at h1'
  rw [Nat.min_eq_right (y0x hge (by omega)),i0u]
  refine d9 wK 10 _ _ (f2s false d e n _ _) ?_
  rw [hP]
  exact⟨decide_eq_true h1,rfl,k0,rfl,rfl,rfl,trivial⟩
 have k1:decide (400 < neP d e)=false:=by rw [hP]; exact decide_eq_false h1
 by_cases h2:neQ d e < -400
 ·have h2':=h2
  unfold neQ at h2'
  rw [d0c (by decide) ⟨by decide,by decide⟩ hlt (by omega),Nat.zero_min,d1q]
  refine d9 wK 10 _ _ (e2s false d e n _ _) ?_
  exact⟨by rw [hP]; exact decide_eq_true h2,k1,rfl,k0,rfl,rfl,rfl,trivial⟩
 have k2:decide (neP d e < Int.negSucc 399)=false:=by rw [hP]; exact decide_eq_false h2
 unfold neQ at h1 h2
 have hb:=mD (t:=a8 d)
 have hmE:mdE (a8 d) e=0:=by
  unfold mdE
  rw [x8,if_neg h0,if_neg (by omega),if_neg (by omega)]
 have hI:mdI (a8 d) e=true:=by
  unfold mdI
  rw [x8,hmE,decide_eq_true h0]
  rfl
 have hD:mdD (a8 d) e=mdS (a8 d):=by unfold mdD; rw [if_pos hI]
 have hX:mdX (a8 d) e=e+mdB (a8 d):=by unfold mdX; rw [if_pos hI]
 have hN:mdN false (a8 d) e=false:=by unfold mdN; rw [if_pos hI]
 have hS:dcN d=dcN (mdS (a8 d))*10 ^(mdB (a8 d)).toNat:=by
  have h3:=d0h (a8 d)
  rw [K3] at h3
  have h4:mdS (a8 d)=M9 (a8 d):=by unfold mdS; rw [x8]
  have h5:(mdB (a8 d)).toNat=(a8 d).length- (M9 (a8 d)).length:=by
   unfold mdB
   rw [x8,h4]
   omega
  rw [h4,h5]
  exact h3
 obtain⟨c2,r2,hc2,_⟩:=wB (t:=a8 d) (by rw [x8]; exact h0)
 have hSd:r8 (mdS (a8 d))=true:=allDB_mem.2 fun b hb=>allDB_mem.1 hT b (h0v hb)
 obtain⟨_,hg⟩:=y0h hSd
 have hW:nsW d e=min (dcW 24 (-149) (dcN d) e) 2139095040:=by
  unfold nsW t3W
  rw [hD,hX,if_neg (by rw [hc2]; exact List.cons_ne_nil _ _)]
  have q1:qtN (mdS (a8 d)) (e+mdB (a8 d))=dcN (mdS (a8 d))*pN 10 (e+mdB (a8 d)):=by
   unfold qtN pN
   rw [hg]
   split
   ·rfl
   ·rw [Nat.mul_one]
  have q2:qtD [49] (e+mdB (a8 d))=pD 10 (e+mdB (a8 d)):=by
   unfold qtD pD
   rw [a0u]
   split
   ·rfl
   ·rw [Nat.one_mul]
  rw [q1,q2]
  have q4:=lH (K:=24) (L:= -149) (by decide) (dcN (mdS (a8 d))) (mdB (a8 d)).toNat e
  rw [← hS,show e+(((mdB (a8 d)).toNat:Nat):Int)=e+mdB (a8 d) by omega] at q4
  rw [q4]
  rfl
 rw [← hW]
 refine d9 wK 10 _ _ (e2t d e n _ _) ?_
 exact⟨u1o (by rw [hW]; exact c2z _),⟨hN,by
  have:=b1b (g:=false) (x:=e) hT
  rw [hN] at this
  exact this,fun hne=>by
  have:=l0d (d:=d) (e:=e) (by unfold neQ; omega) (by unfold neQ; omega) hne
  rw [Int.sub_zero,List.length_singleton] at this
  exact this⟩,by rw [hmE]; rfl,by omega,hT,k2,k1,rfl,k0,rfl,rfl,rfl,trivial⟩
def nsX (h:Bool) (d:List UInt8) (e:Int):Nat:=if h=true then (if a8 d=[] then 0 else hxW (a8 d) e 24 (-149)) else dbl (min (dcW 24 (-149) (dcN d) e) 2139095040)
def m1w (h:Bool) (d:List UInt8) (e:Int):Prop:=d.length≤8192∧(-100000000000000000≤e∧e≤100000000000000000)∧(if h=true then c1b d else r8 d=true)
theorem m0r {h:Bool} {d:List UInt8} {e n:Int} (hk:m1w h d e):Ev.Sem Tryz.prog J0 31 (nsA h d e n) [xR (nsX h d e),iR 0] :=by
 obtain⟨h1,h2,h3⟩:=hk
 unfold nsX
 cases h with
 | true=>
  rw [if_pos rfl] at h3
  rw [if_pos rfl]
  exact i0v h3 (by omega) h2 ⟨by decide,by decide⟩ ⟨by decide,by decide⟩
 | false=>
  rw [if_neg (by decide)] at h3
  rw [if_neg (by decide)]
  exact n0x h3 h1 ⟨by omega,by omega⟩
def u0l:List Arg→Option (List Arg×List Prop)
 | [.c (.v (.agg ⟨[.bool h, .string ⟨⟨d⟩⟩, .int .i64 e, .int .i64 _]⟩)), .c (.v (.int .i64 24)), .c (.v (.int .i64 (-149))), .c (.v (.func (.func 41) ⟨[]⟩ ⟨[]⟩))] =>some ([xR (nsX h d e),iR 0],[m1w h d e])
 | _=>none
theorem v0i:∀ az rs l,u0l az=some (rs,l)→d5 l→Ev.Sem Tryz.prog J0 31 az rs:=by
 intro az rs l h hl
 unfold u0l at h
 split at h
 ·cases h
  exact m0r hl.1
 ·cases h
noncomputable def r0x:kM:=l5 31 (y3 [shV,shV,shV,shV] u0l) fT
theorem p0c:kY Tryz.prog J0 r0x:=b8 (g9 _ v0i) Q3
noncomputable def bSi2:Base:=⟨Tryz.prog,J0,false,j0m,r0x,200,H8⟩
theorem wX:BaseOk bSi2:=⟨progOk,mT,p0c,i7⟩
noncomputable abbrev x1p:Cx:=bSi2.cx 10
end Go.Proofs.YtdgfhijnconaoaaGreatDoor
namespace Go.Proofs.YtdgfhijnconaoaaGreatDoor
open Go Go.RowKit Ev Wd
abbrev dgA (F:Nat→Int) (n o:Nat):Arg:= .c (.f (fun i=> .int .u8 (F i)) n 1 o)
noncomputable def bDg:Base:=⟨Tryz.prog,J0,false,n1s,C4,200,H8⟩
theorem O9:BaseOk bDg:=⟨progOk,aW _ _,m6 _ _,i7⟩
noncomputable abbrev XDg:Cx:=bDg.cx 10
noncomputable def cD1:Code:=A2 Tryz.prog 8 0
noncomputable def cD2:Code:=A2 Tryz.prog 8 1
noncomputable def tGz (F:Nat→Int) (n o:Nat) (m i:Int):St:=⟨only 43 [(0, .slice (some ⟨11,o,some 12⟩) n 0),(1, .int .i64 m),(4, .string ⟨⟨[]⟩⟩),(5, .slice none 0 0),(6, .int .i64 i)],[(11,AObj.fam (fun i=> .int .u8 (F i)) n 1 o)],13,[],[],0,none,[],13⟩
noncomputable def tGn (F:Nat→Int) (n o:Nat) (m:Int) (ns:List Int) (k:Nat) (i:Int):St:=⟨only 43 [(0, .slice (some ⟨11,o,some 12⟩) n 0),(1, .int .i64 m),(4, .string ⟨⟨[]⟩⟩),(5, .slice (some ⟨13,0,some 14⟩) k 0),(6, .int .i64 i)],[(13, .row 5 1 (.ints .u8 ns) 14),(11,AObj.fam (fun i=> .int .u8 (F i)) n 1 o)],15,[],[],0,none,[],13⟩
noncomputable def tHz (F:Nat→Int) (n o:Nat):St:=⟨only 43 [(0, .slice (some ⟨11,o,some 12⟩) n 0),(4, .string ⟨⟨[]⟩⟩),(5, .slice none 0 0)],[(11,AObj.fam (fun i=> .int .u8 (F i)) n 1 o)],13,[],[],0,none,[],13⟩
noncomputable def tHn (F:Nat→Int) (n o:Nat) (ns:List Int) (k j:Nat):St:=⟨only 43 [(0, .slice (some ⟨11,o,some 12⟩) n 0),(4, .string ⟨⟨[]⟩⟩),(5, .slice (some ⟨13,j,some 14⟩) k j)],[(13, .row 5 1 (.ints .u8 ns) 14),(11,AObj.fam (fun i=> .int .u8 (F i)) n 1 o)],15,[],[],0,none,[],13⟩
noncomputable def tHe (F:Nat→Int) (n o:Nat) (ns:List Int) (j:Nat):St:=⟨only 43 [(0, .slice (some ⟨11,o,some 12⟩) n 0),(4, .string ⟨⟨[]⟩⟩),(5, .complex .f32 239807672958224171022 j)],[(13, .row 5 1 (.ints .u8 ns) 14),(11,AObj.fam (fun i=> .int .u8 (F i)) n 1 o)],15,[],[],0,none,[],13⟩
def dgR (F:Nat→Int) (o i:Nat):Int:=IntKind.u8.wrap (48+(F (bE (n7 o (L6 i 1)) o 1)).tmod 10)
def gB (n:Nat) (m i:Int):Bool:=match decide (i < (n:Int)) with | true=>decide (i < m) | false=>false
def apG (m k:Nat):Prop:=m*1=k∧(m+1)*1≤140737488355328∧m+1≤9223372036854775807
def zB (ns:List Int) (j:Nat):Bool:=ns.getD (n7 j 0) 0==48
def kB (k:Nat):Bool:=decide ((k:Int) > 0)
def zC (ns:List Int) (j k:Nat):Bool:=match kB k with | true=>zB ns j | false=>false
def zP (ns:List Int) (j k:Nat):Prop:=A0 [(3,kB k)] [(3,true)] →n7 j 0 < ns.length
def zQ (ns:List Int) (k:Nat):Prop:=A0 [(3,kB k)] [(3,true)] →((0:Int)≤0∧(0:Int) < (k:Int))∧0 < ns.length
section
variable (F:Nat→Int) (n o:Nat) (m:Int) (ns:List Int) (k j i:Nat)
theorem g1h (hl:d5 [1≤140737488355328∧1≤9223372036854775807,FamIn (n7 o 0) o 1 n,((0:Int)≤0∧(0:Int) < (n:Int))∧0 < n,gB n m 0=true]):o9 XDg cD1 (tGz F n o m 0) .normal (tGn F n o m [dgR F o 0] 1 1):=
 b7 (Base.cx_ok O9 10).1 progOk.mixed [] 200 [true] [(13,14),(14,15)] (by kernel_rfl) hl (by kernel_rfl) (by kernel_rfl)
theorem m1i (hl:d5 [apG k ns.length,FamIn (n7 o (L6 i 1)) o 1 n,((0:Int)≤(i:Int)∧(i:Int) < (n:Int))∧0 < n,gB n m i=true]):o9 XDg cD1 (tGn F n o m ns k (i:Int)) .normal (tGn F n o m (ns++[dgR F o i]) (k+1) (IntKind.i64.wrap ((i:Int)+1))):=
 b7 (Base.cx_ok O9 10).1 progOk.mixed [] 200 [true] [(13,16),(14,17)] (by kernel_rfl) hl (by kernel_rfl) (by kernel_rfl)
theorem o1r (hl:d5 [gB n m 0=false]):o9 XDg cD1 (tGz F n o m 0) (.exit 0) (tGz F n o m 0):=
 b7 (Base.cx_ok O9 10).1 progOk.mixed [] 200 [false] [] (by kernel_rfl) hl (by kernel_rfl) (by kernel_rfl)
theorem t1e (hl:d5 [gB n m i=false]):o9 XDg cD1 (tGn F n o m ns k (i:Int)) (.exit 0) (tGn F n o m ns k (i:Int)):=
 b7 (Base.cx_ok O9 10).1 progOk.mixed [] 200 [false] [] (by kernel_rfl) hl (by kernel_rfl) (by kernel_rfl)
theorem i0m {x:AX} {s':St} (ds:List Bool) (h:a7 XDg cD1 (tGz F n o m 0) x s'):a7 XDg cD1 (m5 XDg 200 8 [dgA F n o,iR m] ds) x s':=
 f9 h [] (by kernel_rfl) (by kernel_rfl) (by kernel_rfl)
theorem w1u (hl:d5 [j=j*1∧(0:Int)≤1∧(1:Int)≤((k+2:Nat):Int)∧((1:Int)=0∨(1:Int) < ((k+2:Nat):Int))∧j+(k+2)*1≤ns.length,zC ns j (k+2)=true,zP ns j (k+2),zQ ns (k+2)]):o9 XDg cD2 (tHn F n o ns (k+2) j) .normal (tHn F n o ns (k+1) (n7 j 1)):=
 b7 (Base.cx_ok O9 10).1 progOk.mixed [] 200 [true] [] (by kernel_rfl) hl (by kernel_rfl) (by kernel_rfl)
theorem l1u (hl:d5 [j=j∧j+1≤(ns.map (Value.int .u8)).length,zB ns j=true,zP ns j 1,zQ ns 1]):o9 XDg cD2 (tHn F n o ns 1 j) .normal (tHe F n o ns j):=
 b7 (Base.cx_ok O9 10).1 progOk.mixed [] 200 [true] [] (by kernel_rfl) hl (by kernel_rfl) (by kernel_rfl)
theorem a2n (hl:d5 [zC ns j k=false,zP ns j k,zQ ns k]):o9 XDg cD2 (tHn F n o ns k j) (.exit 2) (tHn F n o ns k j):=
 b7 (Base.cx_ok O9 10).1 progOk.mixed [] 200 [false] [] (by kernel_rfl) hl (by kernel_rfl) (by kernel_rfl)
theorem c2a:o9 (bDg.cxl 10) cD2 (tHe F n o ns j) (.exit 2) (tHe F n o ns j):=
 b7 (Base.cxl_ok O9 10).1 progOk.mixed [] 200 [false] [] (l:=[false=false]) (by kernel_rfl) ⟨rfl,trivial⟩ (by kernel_rfl) (by kernel_rfl)
theorem e2n:o9 XDg cD2 (tHe F n o ns j) (.exit 2) (tHe F n o ns j):=c2a F n o ns j
theorem z1c:o9 (bDg.cxl 10) cD2 (tHz F n o) (.exit 2) (tHz F n o):=
 b7 (Base.cxl_ok O9 10).1 progOk.mixed [] 200 [false] [] (l:=[false=false]) (by kernel_rfl) ⟨rfl,trivial⟩ (by kernel_rfl) (by kernel_rfl)
theorem e2o:o9 XDg cD2 (tHz F n o) (.exit 2) (tHz F n o):=z1c F n o
theorem z0w {x:AX} {s':St} (h:a7 XDg cD2 (tHn F n o ns k 0) x s'):a7 XDg cD2 (tGn F n o m ns k i) x s':=
 f9 h [] (by kernel_rfl) (by kernel_rfl) (by kernel_rfl)
theorem e1q {x:AX} {s':St} (h:a7 XDg cD2 (tHz F n o) x s'):a7 XDg cD2 (tGz F n o m 0) x s':=
 f9 h [] (by kernel_rfl) (by kernel_rfl) (by kernel_rfl)
abbrev tR (t:List UInt8):Arg:= .c (.v (.string ⟨⟨t⟩⟩))
theorem a2d (t:List UInt8):n8 XDg [J5 (.exit 0) (fun _=>tGz F n o m 0),J5 (.exit 2) (fun _=>tHz F n o)] 200 8 [dgA F n o,iR m] [tR t] [true] =some [true=true,a7 XDg cD2 (tGz F n o m 0) (.exit 2) (tHz F n o),a7 XDg cD1 (m5 XDg 200 8 [dgA F n o,iR m] [true]) (.exit 0) (tGz F n o m 0),Value.string ⟨⟨[55]⟩⟩=Value.string ⟨⟨t⟩⟩] :=by kernel_rfl
theorem z1l (t:List UInt8):n8 XDg [J5 (.exit 0) (fun _=>tGn F n o m ns k i),J5 (.exit 2) (fun _=>tHe F n o ns j)] 200 8 [dgA F n o,iR m] [tR t] [true] =some [true=true,a7 XDg cD2 (tGn F n o m ns k i) (.exit 2) (tHe F n o ns j),a7 XDg cD1 (m5 XDg 200 8 [dgA F n o,iR m] [true]) (.exit 0) (tGn F n o m ns k i),Value.string ⟨⟨[55]⟩⟩=Value.string ⟨⟨t⟩⟩] :=by kernel_rfl
def nB (k:Nat):Bool:=(k:Int)==0
theorem a2u (t:List UInt8) (k2:Nat):n8 XDg [J5 (.exit 0) (fun _=>tGn F n o m ns k i),J5 (.exit 2) (fun _=>tHn F n o ns k2 j)] 200 8 [dgA F n o,iR m] [tR t] [false] =some [k2=(ns.drop j).length,nB k2=false,a7 XDg cD2 (tGn F n o m ns k i) (.exit 2) (tHn F n o ns k2 j),a7 XDg cD1 (m5 XDg 200 8 [dgA F n o,iR m] [false]) (.exit 0) (tGn F n o m ns k i),Value.string ⟨⟨(ns.drop j).map fun n=>UInt8.ofNat n.toNat⟩⟩=Value.string ⟨⟨t⟩⟩] :=by kernel_rfl
end
end Go.Proofs.YtdgfhijnconaoaaGreatDoor
