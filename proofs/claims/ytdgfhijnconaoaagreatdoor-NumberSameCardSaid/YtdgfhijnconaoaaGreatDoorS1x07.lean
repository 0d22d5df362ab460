/-
 NumberSame: a number read from several spellings of the same value is the same; no condition (a part of the proof).
-/
import Derived.Test.YtdgfhijnconaoaaGreatDoorS1x06
import Derived.Test.YtdgfhijnconaoaaGreatDoorS1x05
import Derived.Test.YtdgfhijnconaoaaGreatDoorS1x03
import Derived.Lib.IndexBytes
import Derived.Test.YtdgfhijnconaoaaGreatDoorS1x04
set_option maxRecDepth 1000000
namespace Go.Proofs.YtdgfhijnconaoaaGreatDoor
open Go Go.RowKit Ev Wd
def dB (F:Nat→Int) (i:Nat):UInt8:=UInt8.ofNat (48+(F i).toNat%10)
def dgs (F:Nat→Int) (N:Nat):List UInt8:=(List.range N).map (dB F)
def dbI (b:UInt8):Int:=Int.ofNat b.toNat
def dgT (l:List UInt8):List UInt8:=match a8 l with
 | [] =>[55]
 | c ::r=>c ::r
theorem j1m (F:Nat→Int) (i:Nat):(dB F i).toNat=48+(F i).toNat%10:=by
 unfold dB
 rw [UInt8.toNat_ofNat']
 exact Nat.mod_eq_of_lt (by show _ < 256; omega)
theorem k1w {F:Nat→Int} {o i:Nat} (h:0≤F i∧F i < 256):dgR F o i=dbI (dB F i):=by
 unfold dgR dbI
 rw [j1m,v6,M8,a1e (by decide)]
 have e:(F i).tmod 10=(((F i).toNat%10:Nat):Int):=by
  obtain⟨k,hk⟩:∃ k:Nat,F i=(k:Int):=⟨(F i).toNat,by omega⟩
  rw [hk,Int.toNat_natCast]
  exact (Int.ofNat_tmod k 10).symm
 rw [e,IntKind.wrap_u8]
 show _=((48+(F i).toNat%10:Nat):Int)
 omega
theorem e1j (F:Nat→Int) (i:Nat):dgs F (i+1)=dgs F i++[dB F i] :=by
 unfold dgs
 rw [List.range_succ,List.map_append]
 rfl
theorem uZ (F:Nat→Int) (N:Nat):(dgs F N).length=N:=by unfold dgs; simp
theorem z0a {n:Nat} {m i:Int} (h1:i < n) (h2:i < m):gB n m i=true:=by
 unfold gB
 rw [decide_eq_true h1]
 exact decide_eq_true h2
theorem j0u {n:Nat} {m i:Int} (h:(n:Int)≤i∨m≤i):gB n m i=false:=by
 unfold gB
 by_cases h1:i < (n:Int)
 ·rw [decide_eq_true h1]
  exact decide_eq_false (by omega)
 ·rw [decide_eq_false h1]
section
variable {F:Nat→Int} {n o:Nat} {m:Nat} (hF:∀ i,i < n→0≤F i∧F i < 256) (hm:m≤1000)
noncomputable def sG (F:Nat→Int) (n o m:Nat) (i:Nat):St:=if i=0 then tGz F n o m 0 else tGn F n o m ((dgs F i).map dbI) i (i:Int)
include hF hm in
theorem l1t:a7 XDg cD1 (tGz F n o m 0) (.exit 0) (sG F n o m (min n m)):=by
 have h:=v8 (X:=XDg) (c:=cD1) (sG F n o m) (min n m) (x:= .exit 0) (s':=sG F n o m (min n m)) (by intro e; cases e) (fun i hi=> ?_) ?_
 ·exact h
 ·have hin:i < n:=by omega
  have him:i < m:=by omega
  have hd:=hF i hin
  unfold sG
  rw [if_neg (by omega:¬i+1=0),e1j,List.map_append]
  by_cases h0:i=0
  ·subst h0
   rw [if_pos rfl]
   have:=g1h F n o m ⟨⟨by decide,by decide⟩,by rw [v6]; exact b0d (o:=o) (i:=0) (sz:=1) (by decide) hin,⟨⟨by decide,by omega⟩,hin⟩,z0a (by omega) (by omega),trivial⟩
   rw [k1w hd] at this
   exact this
  ·rw [if_neg h0]
   have hl:((dgs F i).map dbI).length=i:=by rw [List.length_map,uZ]
   have:=m1i F n o m ((dgs F i).map dbI) i i ⟨by rw [hl]; exact⟨Nat.mul_one _,by omega,by omega⟩,by rw [v6,M8]; exact b0d (by decide) hin,⟨⟨by omega,by omega⟩,by omega⟩,z0a (by omega) (by omega),trivial⟩
   rw [k1w hd,C0 (by omega)] at this
   exact this
 ·unfold sG
  by_cases h0:min n m=0
  ·rw [if_pos h0]
   exact o1r F n o m ⟨j0u (by omega),trivial⟩
  ·rw [if_neg h0]
   exact t1e F n o m _ _ _ ⟨j0u (by omega),trivial⟩
end
theorem nU {l:List UInt8} :a8 l=l.drop (l.length- (a8 l).length):=by
 have h:=W4 l
 conv=>rhs; rw [h]
 rw [List.drop_append_of_le_length (by rw [List.length_replicate,← h]; exact Nat.le_refl _),List.drop_of_length_le (by rw [List.length_replicate,← h]; exact Nat.le_refl _),List.nil_append]
theorem t0c {l:List UInt8} {j:Nat} (hj:j < l.length):zB (l.map dbI) j=decide (l[j] =48):=by
 unfold zB
 rw [v6,Nat.add_zero,List.getD_eq_getElem?_getD,List.getElem?_map,List.getElem?_eq_getElem hj]
 show (dbI l[j] ==48)=_
 by_cases h:l[j] =48
 ·rw [h]; rfl
 ·rw [decide_eq_false h]
  refine beq_false_of_ne fun e=>h ?_
  have e:((l[j].toNat:Nat):Int)=48:=e
  exact UInt8.toNat_inj.1 (show l[j].toNat=48 by omega)
theorem a1c {l:List UInt8} {j:Nat} (hj:j < l.length- (a8 l).length):∃ h:j < l.length,l[j] =48:=by
 refine⟨by omega,?_⟩
 have h:=W4 l
 have h2:l[j]? =some 48:=by
  rw [h,List.getElem?_append_left (by rw [List.length_replicate]; exact hj),List.getElem?_replicate,if_pos hj]
 rw [List.getElem?_eq_getElem (by omega)] at h2
 exact Option.some.inj h2
section
variable (F:Nat→Int) (n o:Nat) (l:List UInt8) (hl:l.length≤1000)
include hl
theorem r1m {c:UInt8} {r:List UInt8} (ht:a8 l=c ::r):a7 XDg cD2 (tHn F n o (l.map dbI) l.length 0) (.exit 2) (tHn F n o (l.map dbI) (c ::r).length (l.length- (c ::r).length)):=by
 have hle:=B3 l
 rw [ht] at hle
 have hlm:(l.map dbI).length=l.length:=List.length_map _
 have hrl:(c ::r).length=r.length+1:=rfl
 have h:=v8 (X:=XDg) (c:=cD2) (fun j=>tHn F n o (l.map dbI) (l.length-j) j) (l.length- (c ::r).length) (x:= .exit 2) (s':=tHn F n o (l.map dbI) (c ::r).length (l.length- (c ::r).length)) (by intro e; cases e) (fun j hj=> ?_) ?_
 ·exact h
 ·obtain⟨hj2,h48⟩:=a1c (l:=l) (j:=j) (by rw [ht]; exact hj)
  obtain⟨k,hk⟩:∃ k,l.length-j=k+2:=⟨l.length-j-2,by omega⟩
  have hz:zB (l.map dbI) j=true:=by rw [t0c hj2]; exact decide_eq_true h48
  have:=w1u F n o (l.map dbI) k j ⟨⟨by omega,by decide,by omega, .inr (by omega),by omega⟩,by unfold zC kB; rw [decide_eq_true (by omega)]; exact hz,fun _=>by rw [v6]; omega,fun _=>⟨⟨by decide,by omega⟩,by omega⟩,trivial⟩
  rw [v6] at this
  show o9 XDg cD2 (tHn F n o (l.map dbI) (l.length-j) j) .normal (tHn F n o (l.map dbI) (l.length- (j+1)) (j+1))
  rw [hk,show l.length- (j+1)=k+1 by omega]
  exact this
 ·show o9 XDg cD2 (tHn F n o (l.map dbI) (l.length- (l.length- (c ::r).length)) (l.length- (c ::r).length)) (.exit 2) _
  rw [show l.length- (l.length- (c ::r).length)=(c ::r).length by omega]
  have hj2:l.length- (c ::r).length < l.length:=by omega
  have hg:l[l.length- (c ::r).length] =c:=by
   have h1:=nU (l:=l)
   rw [ht,List.drop_eq_getElem_cons hj2] at h1
   injection h1 with h1 _
   exact h1.symm
  have hz:zB (l.map dbI) (l.length- (c ::r).length)=false:=by
   rw [t0c hj2,hg]
   exact decide_eq_false (F6 ht)
  exact a2n F n o (l.map dbI) _ _ ⟨by unfold zC kB; rw [decide_eq_true (by omega)]; exact hz,fun _=>by rw [v6]; omega,fun _=>⟨⟨by decide,by omega⟩,by omega⟩,trivial⟩
theorem g1v (h0:l≠[]) (ht:a8 l=[]):a7 XDg cD2 (tHn F n o (l.map dbI) l.length 0) (.exit 2) (tHe F n o (l.map dbI) (l.length-1)):=by
 have hlm:(l.map dbI).length=l.length:=List.length_map _
 have hp:0 < l.length:=List.length_pos_iff.2 h0
 have h:=v8 (X:=XDg) (c:=cD2) (fun j=>if j < l.length then tHn F n o (l.map dbI) (l.length-j) j else tHe F n o (l.map dbI) (l.length-1)) l.length (x:= .exit 2) (s':=tHe F n o (l.map dbI) (l.length-1)) (by intro e; cases e) (fun j hj=> ?_) ?_
 ·simp only [if_pos hp,Nat.sub_zero] at h
  exact h
 ·obtain⟨hj2,h48⟩:=a1c (l:=l) (j:=j) (by rw [ht]; exact hj)
  have hz:zB (l.map dbI) j=true:=by rw [t0c hj2]; exact decide_eq_true h48
  simp only [if_pos hj]
  by_cases h1:j+1 < l.length
  ·rw [if_pos h1]
   obtain⟨k,hk⟩:∃ k,l.length-j=k+2:=⟨l.length-j-2,by omega⟩
   have:=w1u F n o (l.map dbI) k j ⟨⟨by omega,by decide,by omega, .inr (by omega),by omega⟩,by unfold zC kB; rw [decide_eq_true (by omega)]; exact hz,fun _=>by rw [v6]; omega,fun _=>⟨⟨by decide,by omega⟩,by omega⟩,trivial⟩
   rw [v6] at this
   rw [hk,show l.length- (j+1)=k+1 by omega]
   exact this
  ·rw [if_neg h1,show l.length-j=1 by omega,show l.length-1=j by omega]
   exact l1u F n o (l.map dbI) j ⟨⟨rfl,by rw [List.length_map]; omega⟩,hz,fun _=>by rw [v6]; omega,fun _=>⟨⟨by decide,by decide⟩,by omega⟩,trivial⟩
 ·simp only [if_neg (Nat.lt_irrefl _)]
  exact e2n F n o _ _
end
theorem d1n (l:List UInt8):(l.map dbI).map (fun (n:Int)=>UInt8.ofNat n.toNat)=l:=by
 rw [List.map_map]
 conv=>rhs; rw [← List.map_id l]
 refine List.map_congr_left fun b _=> ?_
 show UInt8.ofNat ((b.toNat:Int)).toNat=b
 rw [Int.toNat_natCast]
 exact UInt8.ofNat_toNat
theorem o0j {F:Nat→Int} {n o m:Nat} (hF:∀ i,i < n→0≤F i∧F i < 256) (hm:m≤1000):Ev.Sem Tryz.prog J0 8 [dgA F n o,iR m] [tR (dgT (dgs F (min n m)))] :=by
 have h1:=l1t (o:=o) hF hm
 have hN:(dgs F (min n m)).length=min n m:=uZ _ _
 unfold sG at h1
 by_cases h0:min n m=0
 ·rw [if_pos h0] at h1
  have e:dgT (dgs F (min n m))=[55] :=by rw [h0]; rfl
  rw [e]
  exact d9 O9 10 _ _ (a2d F n o m _) ⟨rfl,e1q F n o m (v8 (fun _=>tHz F n o) 0 (by intro e; cases e) (fun k hk=>absurd hk (Nat.not_lt_zero k)) (e2o F n o)),i0m F n o m _ h1,rfl,trivial⟩
 ·rw [if_neg h0] at h1
  have hne:dgs F (min n m)≠[] :=by
   intro e
   rw [e] at hN
   exact h0 hN.symm
  cases ht:a8 (dgs F (min n m)) with
  | nil=>
   have e:dgT (dgs F (min n m))=[55] :=by unfold dgT; rw [ht]
   rw [e]
   have h2:=g1v F n o (dgs F (min n m)) (by rw [hN]; omega) hne ht
   rw [hN] at h2
   exact d9 O9 10 _ _ (z1l F n o m _ (min n m) (min n m-1) (min n m) _) ⟨rfl,z0w F n o m _ _ _ h2,i0m F n o m _ h1,rfl,trivial⟩
  | cons c r=>
   have e:dgT (dgs F (min n m))=c ::r:=by unfold dgT; rw [ht]
   rw [e]
   have h2:=r1m F n o (dgs F (min n m)) (by rw [hN]; omega) ht
   have h3:=nU (l:=dgs F (min n m))
   rw [ht] at h3
   have hd:((dgs F (min n m)).map dbI).drop ((dgs F (min n m)).length- (c ::r).length)=(c ::r).map dbI:=by rw [← List.map_drop,← h3]
   have hw:=a2u F n o m ((dgs F (min n m)).map dbI) (min n m) ((dgs F (min n m)).length- (c ::r).length) (min n m) (c ::r) (c ::r).length
   rw [hd,d1n] at hw
   rw [hN] at h2 hw
   refine d9 O9 10 _ _ hw ⟨by rw [List.length_map],?_,z0w F n o m _ _ _ h2,i0m F n o m _ h1,rfl,trivial⟩
   unfold nB
   exact beq_false_of_ne (by rw [List.length_cons]; omega)
def dgU (n:Nat):UInt8:=UInt8.ofNat (48+n)
def inF:Nat→Nat→List UInt8
 | 0,n=>[dgU n]
 | f+1,n=>if n < 10 then [dgU n] else inF f (n/10)++[dgU (n%10)]
def aL (n:Nat):List UInt8:=inF n n
def z7 (e:Int):List UInt8:=if e < 0 then 45 ::aL (-e).toNat else aL e.toNat
theorem k0r:∀ (f g n:Nat),n≤f→n≤g→inF f n=inF g n
 | 0,0,n,_,_=>rfl
 | 0,g+1,n,h,_=>by
  obtain rfl:n=0:=by omega
  rfl
 | f+1,0,n,_,h=>by
  obtain rfl:n=0:=by omega
  rfl
 | f+1,g+1,n,h1,h2=>by
  unfold inF
  by_cases h:n < 10
  ·rw [if_pos h,if_pos h]
  ·rw [if_neg h,if_neg h,k0r f g (n/10) (by omega) (by omega)]
theorem h0l (n:Nat):aL n=if n < 10 then [dgU n] else aL (n/10)++[dgU (n%10)] :=by
 unfold aL
 by_cases h:n < 10
 ·rw [if_pos h]
  cases n with
  | zero=>rfl
  | succ n=>unfold inF; rw [if_pos h]
 ·rw [if_neg h]
  cases n with
  | zero=>omega
  | succ n=>
   rw [show inF (n+1) (n+1)=inF n ((n+1)/10)++[dgU ((n+1)%10)] from by
    conv=>lhs; unfold inF
    rw [if_neg h]]
   rw [k0r n ((n+1)/10) ((n+1)/10) (by omega) (Nat.le_refl _)]
theorem w0p:∀ f n,(inF f n).length≤f+1
 | 0,_=>Nat.le_refl _
 | f+1,n=>by
  unfold inF
  split
  ·simp
  ·rw [List.length_append]
   have:=w0p f (n/10)
   simp
   omega
theorem M0 (n:Nat):(aL n).length≤n+1:=w0p n n
def s0m (B:Int):List Value→Option (Value×List Prop)
 | [.int .i64 e] =>some (.string ⟨⟨z7 e⟩⟩,[0≤e∧e < B])
 | _=>none
noncomputable def b2s (B:Int):Tab:=i6 19 (s0m B) n1s
noncomputable def bIn (B:Int):Base:=⟨Tryz.prog,J0,false,b2s B,C4,200,H8⟩
def dgc (e:Int):UInt8:=UInt8.ofNat (IntKind.u8.wrap (IntKind.i64.wrap (48+e))).toNat
section
variable (B e:Int)
theorem f2m:a6 XDg [] 200 19 [.int .i64 e] [false,true] =some (.string ⟨⟨[dgc e]⟩⟩,[decide (e < 10)=true,decide (e < 0)=false]):=by kernel_rfl
theorem e2z:a6 ((bIn B).cx 10) [] 200 19 [.int .i64 e] [false,false] =some (.string ⟨⟨z7 (IntKind.i64.wrap (e.tdiv 10))++[dgc (e.tmod 10)]⟩⟩,[(z7 (IntKind.i64.wrap (e.tdiv 10))).length+1≤9223372036854775807,0≤IntKind.i64.wrap (e.tdiv 10)∧IntKind.i64.wrap (e.tdiv 10) < B,decide (e < 10)=false,decide (e < 0)=false]):=by kernel_rfl
theorem e2b:a6 ((bIn B).cx 10) [] 200 19 [.int .i64 e] [true] =some (.string ⟨⟨45 ::z7 (IntKind.i64.wrap (0-e))⟩⟩,[1+(z7 (IntKind.i64.wrap (0-e))).length≤9223372036854775807,0≤IntKind.i64.wrap (0-e)∧IntKind.i64.wrap (0-e) < B,decide (e < 0)=true]):=by kernel_rfl
end
theorem k1c {n:Nat} (h:n < 10):dgc (n:Int)=dgU n:=by
 unfold dgc dgU
 have h1:IntKind.i64.wrap (48+(n:Int))=48+(n:Int):=R6 (by omega) (by omega)
 rw [h1,IntKind.wrap_u8]
 congr 1
 omega
theorem dW (n:Nat):z7 (n:Int)=aL n:=by
 unfold z7
 rw [if_neg (by omega),Int.toNat_natCast]
theorem oI:∀ (k:Nat),k≤8→∀ n:Nat,n < 10 ^k→Ev.Pure Tryz.prog J0 19 [.int .i64 (n:Int)] (.string ⟨⟨aL n⟩⟩)
 | k,hk,n,hn=>by
  by_cases h:n < 10
  ·rw [h0l,if_pos h]
   have:=f2m (n:Int)
   rw [k1c h] at this
   exact d6 O9 10 _ _ this ⟨decide_eq_true (by omega),decide_eq_false (by omega),trivial⟩
  ·cases k with
   | zero=>omega
   | succ k=>
    have hok:BaseOk (bIn ((10 ^k:Nat):Int)):=by
     refine⟨progOk,b6 (fun args v l hs hl=> ?_) (aW _ _),m6 _ _,i7⟩
     unfold s0m at hs
     split at hs
     ·cases hs
      rename_i e
      obtain⟨h1,h2⟩:=hl.1
      obtain⟨m,rfl⟩:∃ m:Nat,e=(m:Int):=⟨e.toNat,by omega⟩
      rw [dW]
      exact oI k (by omega) m (by omega)
     ·cases hs
    have hn8:n < 100000000:=Nat.lt_of_lt_of_le hn (Nat.pow_le_pow_right (n:=10) (by decide) hk)
    have hq:IntKind.i64.wrap ((n:Int).tdiv 10)=((n/10:Nat):Int):=by
     rw [show (n:Int).tdiv 10=((n/10:Nat):Int) from (Int.ofNat_tdiv n 10).symm]
     exact R6 (by omega) (by omega)
    have hr:(n:Int).tmod 10=((n%10:Nat):Int):=(Int.ofNat_tmod n 10).symm
    have:=e2z ((10 ^k:Nat):Int) (n:Int)
    rw [hq,hr,k1c (by omega),dW] at this
    have hlen:=M0 (n/10)
    rw [h0l,if_neg h]
    have hlt:n/10 < 10 ^k:=by
     rw [Nat.pow_succ] at hn
     omega
    exact d6 hok 10 _ _ this ⟨by omega,⟨by omega,by omega⟩,decide_eq_false (by omega),decide_eq_false (by omega),trivial⟩
theorem g1j {e:Int} (h: -100000000 < e∧e < 100000000):Ev.Pure Tryz.prog J0 19 [.int .i64 e] (.string ⟨⟨z7 e⟩⟩):=by
 have hok:BaseOk (bIn 100000000):=by
  refine⟨progOk,b6 (fun args v l hs hl=> ?_) (aW _ _),m6 _ _,i7⟩
  unfold s0m at hs
  split at hs
  ·cases hs
   rename_i e
   obtain⟨h1,h2⟩:=hl.1
   obtain⟨m,rfl⟩:∃ m:Nat,e=(m:Int):=⟨e.toNat,by omega⟩
   rw [dW]
   exact oI 8 (Nat.le_refl _) m (by omega)
  ·cases hs
 by_cases h0:e < 0
 ·have hw:IntKind.i64.wrap (0-e)=(((-e).toNat:Nat):Int):=by rw [R6 (by omega) (by omega)]; omega
  have:=e2b 100000000 e
  rw [hw,dW] at this
  have e1:z7 e=45 ::aL (-e).toNat:=by unfold z7; rw [if_pos h0]
  have hlen:=M0 (-e).toNat
  rw [e1]
  exact d6 hok 10 _ _ this ⟨by omega,⟨by omega,by omega⟩,decide_eq_true h0,trivial⟩
 ·obtain⟨m,rfl⟩:∃ m:Nat,e=(m:Int):=⟨e.toNat,by omega⟩
  rw [dW]
  exact oI 8 (Nat.le_refl _) m (by omega)
def i0t:List Value→Option (Value×List Prop)
 | [.int .i64 e] =>some (.string ⟨⟨z7 e⟩⟩,[-100000000 < e∧e < 100000000])
 | _=>none
theorem b0e (args:List Value) (v:Value) (l:List Prop) (h:i0t args=some (v,l)) (hl:d5 l):Ev.Pure Tryz.prog J0 19 args v:=by
 unfold i0t at h
 split at h
 ·cases h
  exact g1j hl.1
 ·cases h
noncomputable def k1n:Tab:=i6 19 i0t n1s
theorem t0t:N1 Tryz.prog J0 k1n:=b6 b0e (aW _ _)
noncomputable def bDg1:Base:=⟨Tryz.prog,J0,false,k1n,C4,200,H8⟩
theorem v0v:BaseOk bDg1:=⟨progOk,t0t,m6 _ _,i7⟩
noncomputable abbrev d2p:Cx:=bDg1.cx 10
def xpV (e:Int) (m:Nat):Int:=if e < 0 then -(((-(e+1)).toNat%(m+1):Nat):Int) else ((e.toNat%(m+1):Nat):Int)
def xpM (e m:Int):Int:=IntKind.i64.wrap (0- (IntKind.i64.wrap (0-IntKind.i64.wrap (e+1))).tmod (IntKind.i64.wrap (m+1)))
def xpP (e m:Int):Int:=e.tmod (IntKind.i64.wrap (m+1))
section
variable (e m:Int)
theorem e2r:a6 d2p [] 200 9 [.int .i64 e, .int .i64 m] [true,true] =some (.string ⟨⟨z7 (xpM e m)⟩⟩,[-100000000 < xpM e m∧xpM e m < 100000000,decide (e < 0)=true,IntKind.i64.wrap (m+1)=0→False,decide (e < 0)=true]):=by kernel_rfl
theorem f2p:a6 d2p [] 200 9 [.int .i64 e, .int .i64 m] [false,false] =some (.string ⟨⟨z7 (xpP e m)⟩⟩,[-100000000 < xpP e m∧xpP e m < 100000000,decide (e < 0)=false,IntKind.i64.wrap (m+1)=0→False,decide (e < 0)=false]):=by kernel_rfl
end
theorem s0i {e:Int} {m:Nat} (he: -9223372036854775808≤e∧e≤9223372036854775807) (hm:m≤1000):Ev.Pure Tryz.prog J0 9 [.int .i64 e, .int .i64 (m:Int)] (.string ⟨⟨z7 (xpV e m)⟩⟩):=by
 have hm1:IntKind.i64.wrap ((m:Int)+1)=((m+1:Nat):Int):=by rw [R6 (by omega) (by omega)]; omega
 have hlt:∀ k:Nat,k%(m+1) < m+1:=fun k=>Nat.mod_lt _ (Nat.succ_pos m)
 by_cases h0:e < 0
 ·have e1:IntKind.i64.wrap (0-IntKind.i64.wrap (e+1))=(((-(e+1)).toNat:Nat):Int):=by
   rw [R6 (n:=e+1) (by omega) (by omega),R6 (by omega) (by omega)]
   omega
  have e2:xpM e m=xpV e m:=by
   unfold xpM xpV
   rw [e1,hm1,if_pos h0,show ((((-(e+1)).toNat:Nat):Int)).tmod ((m+1:Nat):Int)=(((-(e+1)).toNat%(m+1):Nat):Int) from (Int.ofNat_tmod _ _).symm]
   have:=hlt (-(e+1)).toNat
   rw [R6 (by omega) (by omega)]
   omega
  have:=e2r e m
  rw [e2] at this
  have hr: -100000000 < xpV e m∧xpV e m < 100000000:=by
   unfold xpV
   rw [if_pos h0]
   have:=hlt (-(e+1)).toNat
   omega
  exact d6 v0v 10 _ _ this ⟨hr,decide_eq_true h0,by rw [hm1]; intro h; omega,decide_eq_true h0,trivial⟩
 ·have e2:xpP e m=xpV e m:=by
   unfold xpP xpV
   rw [hm1,if_neg h0]
   obtain⟨k,hk⟩:∃ k:Nat,e=(k:Int):=⟨e.toNat,by omega⟩
   rw [hk,Int.toNat_natCast]
   exact (Int.ofNat_tmod _ _).symm
  have:=f2p e m
  rw [e2] at this
  have hr: -100000000 < xpV e m∧xpV e m < 100000000:=by
   unfold xpV
   rw [if_neg h0]
   have:=hlt e.toNat
   omega
  exact d6 v0v 10 _ _ this ⟨hr,decide_eq_false h0,by rw [hm1]; intro h; omega,decide_eq_false h0,trivial⟩
theorem c0h (e:Int) (m:Nat): -(m:Int)≤xpV e m∧xpV e m≤(m:Int):=by
 have hlt:∀ k:Nat,k%(m+1) < m+1:=fun k=>Nat.mod_lt _ (Nat.succ_pos m)
 unfold xpV
 split
 ·have:=hlt (-(e+1)).toNat
  omega
 ·have:=hlt e.toNat
  omega
def cI (c:UInt8):Int:=Int.ofNat c.toNat
def mgt (b:Int):List UInt8→Nat→Int→Int×Nat
 | [],k,p=>(p,k)
 | c ::r,k,p=>if m7 (cI c) < b then mgt b r (k+1) p else if c=46∧p < 0 then mgt b r (k+1) k else (p,k)
theorem Y2 {t:List UInt8} {k:Nat} {c:UInt8} {r:List UInt8} (h:t.drop k=c ::r):chI t (k:Int)=cI c∧t.drop (k+1)=r∧k < t.length:=by
 have hk:k < t.length:=by
  rcases Nat.lt_or_ge k t.length with h1 | h1
  ·exact h1
  ·rw [List.drop_eq_nil_of_le h1] at h
   cases h
 rw [List.drop_eq_getElem_cons hk] at h
 injection h with h1 h2
 refine⟨?_,h2,hk⟩
 rw [f0q hk,h1]
 rfl
theorem x0w (t:List UInt8) (b:Int):∀ (s:List UInt8) (k:Nat) (p:Int),t.drop k=s→jU t b s.length k p=mgt b s k p
 | [],k,p,_=>rfl
 | c ::r,k,p,h=>by
  obtain⟨h1,h2,h3⟩:=Y2 h
  rw [List.length_cons]
  unfold jU mgt
  have hd:e1z t k p=decide (c=46∧p < 0):=by
   unfold e1z
   rw [h1]
   unfold cI
   by_cases hc:c=46
   ·subst hc
    show decide (p < 0)=_
    refine decide_eq_decide.2 ⟨fun h=>⟨rfl,h⟩,fun h=>h.2⟩
   ·have:((Int.ofNat c.toNat)==46)=false:=by
     refine beq_false_of_ne fun e=>hc ?_
     have e:((c.toNat:Nat):Int)=46:=e
     exact UInt8.toNat_inj.1 (show c.toNat=46 by omega)
    rw [this]
    exact (decide_eq_false fun h=>hc h.1).symm
  rw [h1,hd,x0w t b r (k+1) p h2,x0w t b r (k+1) k h2]
  simp only [decide_eq_true_eq]
theorem bN {c:UInt8} (h:48≤c.toNat∧c.toNat≤57):m7 (cI c)=((c.toNat-48:Nat):Int):=by
 unfold m7 cI
 rw [if_pos ⟨by show (48:Int)≤((c.toNat:Nat):Int); omega,by show ((c.toNat:Nat):Int)≤57; omega⟩]
 show ((c.toNat:Nat):Int)-48=_
 omega
theorem Y7:∀ (d:List UInt8) (r:List UInt8) (k:Nat) (p:Int),r8 d=true→mgt 10 (d++r) k p=mgt 10 r (k+d.length) p
 | [],r,k,p,_=>rfl
 | c ::d,r,k,p,h=>by
  obtain⟨h1,h2⟩:=J7 h
  rw [List.cons_append]
  conv=>lhs; unfold mgt
  rw [if_pos (by rw [bN h1]; omega),Y7 d r (k+1) p h2,List.length_cons,show k+1+d.length=k+(d.length+1) by omega]
theorem m1s (r:List UInt8) (k:Nat):mgt 10 (46 ::r) k (-1)=mgt 10 r (k+1) k:=by
 conv=>lhs; unfold mgt
 rw [if_neg (by decide),if_pos ⟨rfl,by decide⟩]
theorem j0b {c:UInt8} (hc:c=101∨c=69) (r:List UInt8) (k:Nat) (p:Int):mgt 10 (c ::r) k p=(p,k):=by
 conv=>lhs; unfold mgt
 rcases hc with rfl | rfl
 ·rw [if_neg (by decide),if_neg (fun h=>absurd h.1 (by decide))]
 ·rw [if_neg (by decide),if_neg (fun h=>absurd h.1 (by decide))]
def egt:List UInt8→Nat→Int→Int×Nat
 | [],k,n=>(n,k)
 | c ::r,k,n=>if m7 (cI c) < 10 then egt r (k+1) (nxP n (m7 (cI c))) else (n,k)
theorem k1m (t:List UInt8):∀ (s:List UInt8) (k:Nat) (n:Int),t.drop k=s→d0u t s.length k n=egt s k n
 | [],k,n,_=>rfl
 | c ::r,k,n,h=>by
  obtain⟨h1,h2,h3⟩:=Y2 h
  rw [List.length_cons]
  unfold d0u egt
  rw [h1,k1m t r (k+1) _ h2]
theorem tP:∀ (d:List UInt8) (k m:Nat),r8 d=true→m*10 ^d.length+dcN d < 1073741824→egt d k (m:Int)=(((m*10 ^d.length+dcN d:Nat):Int),k+d.length)
 | [],k,m,_,_=>by
  show ((m:Int),k)=(((m*1+0:Nat):Int),k+0)
  rw [Nat.mul_one,Nat.add_zero]
  rfl
 | c ::d,k,m,h,hb=>by
  obtain⟨h1,h2⟩:=J7 h
  have e0:m*10 ^(c ::d).length+dcN (c ::d)=(m*10+(c.toNat-48))*10 ^d.length+dcN d:=by
   rw [I7,List.length_cons,Nat.pow_succ,Nat.add_mul,Nat.mul_assoc m 10,Nat.mul_comm 10,← Nat.add_assoc]
  have hlt:m*10+(c.toNat-48) < 1073741824:=by
   rw [e0] at hb
   have:(m*10+(c.toNat-48))*1≤(m*10+(c.toNat-48))*10 ^d.length:=Nat.mul_le_mul_left _ (Nat.pow_pos (by decide))
   omega
  conv=>lhs; unfold egt
  have hw:=bN h1
  rw [if_pos (by rw [hw]; omega)]
  have hn:nxP (m:Int) (m7 (cI c))=((m*10+(c.toNat-48):Nat):Int):=by
   unfold nxP
   rw [hw,if_pos (by omega)]
   omega
  rw [hn,tP d (k+1) _ h2 (by rw [← e0]; exact hb),e0,List.length_cons,show k+1+d.length=k+(d.length+1) by omega]
theorem yD {n:Nat} (h:n < 10):(dgU n).toNat=48+n:=by
 unfold dgU
 rw [UInt8.toNat_ofNat']
 exact Nat.mod_eq_of_lt (by show _ < 256; omega)
theorem V1 {a b:List UInt8} (h1:r8 a=true) (h2:r8 b=true):r8 (a++b)=true:=
 allDB_mem.2 fun c hc=>by
  rcases List.mem_append.1 hc with h | h
  ·exact allDB_mem.1 h1 c h
  ·exact allDB_mem.1 h2 c h
theorem P8:∀ n:Nat,r8 (aL n)=true∧dcN (aL n)=n∧aL n≠[]
 | n=>by
  rw [h0l]
  by_cases h:n < 10
  ·rw [if_pos h]
   refine⟨allDB_mem.2 fun b hb=> ?_,?_,List.cons_ne_nil _ _⟩
   ·rw [List.mem_singleton.1 hb,yD h]
    omega
   ·rw [I7,yD h]
    show (48+n-48)*1+0=n
    omega
  ·rw [if_neg h]
   obtain⟨h1,h2,_⟩:=P8 (n/10)
   have hm:n%10 < 10:=Nat.mod_lt _ (by decide)
   refine⟨V1 h1 (allDB_mem.2 fun b hb=> ?_),?_,by simp⟩
   ·rw [List.mem_singleton.1 hb,yD hm]
    omega
   ·rw [P4,h2,I7,yD hm]
    show n/10*10 ^1+((48+n%10-48)*1+0)=n
    omega
theorem v1c {t:List UInt8} {k:Nat} {c:UInt8} {r:List UInt8} (h:t.drop k=c ::r):sgB t (k:Int)=decide (c=43∨c=45)∧(chI t (k:Int)==45)=decide (c=45):=by
 obtain⟨h1,_,h3⟩:=Y2 h
 have q:∀ n:UInt8,((cI c)==cI n)=decide (c=n):=by
  intro n
  by_cases hc:c=n
  ·rw [hc,decide_eq_true rfl]
   exact beq_self_eq_true _
  ·rw [decide_eq_false hc]
   refine beq_false_of_ne fun e=>hc ?_
   have e:((c.toNat:Nat):Int)=((n.toNat:Nat):Int):=e
   exact UInt8.toNat_inj.1 (by omega)
 have q45:=q 45
 have q43:=q 43
 refine⟨?_,by rw [h1]; exact q45⟩
 unfold sgB
 rw [show ltE t (k:Int)=true from decide_eq_true (by omega),h1]
 have e43:(cI c==43)=decide (c=43):=q43
 have e45:(cI c==45)=decide (c=45):=q45
 show (match cI c==43 with | true=>true | false=>cI c==45)=_
 rw [e43,e45]
 by_cases h43:c=43
 ·rw [decide_eq_true h43,decide_eq_true (Or.inl h43)]
 ·rw [decide_eq_false h43]
  refine decide_eq_decide.2 ⟨Or.inr,fun h=>h.resolve_left h43⟩
theorem zX (n:Nat):∃ c r,aL n=c ::r∧48≤c.toNat∧c.toNat≤57:=by
 obtain⟨h1,_,h3⟩:=P8 n
 cases h:aL n with
 | nil=>exact absurd h h3
 | cons c r=>exact⟨c,r,rfl,allDB_mem.1 h1 c (by rw [h]; exact List.mem_cons_self)⟩
theorem k1s {t:List UInt8} {a k m:Nat} (hk:exK t a=k) (h:t.drop k=aL m) (hm:m < 1000000):(exR t a)=((m:Int),t.length)∧k < t.length:=by
 obtain⟨h1,h2,h3⟩:=P8 m
 have hlen:t.length-k=(aL m).length:=by rw [← h,List.length_drop]
 have hpos:0 < (aL m).length:=List.length_pos_iff.2 h3
 unfold exR
 rw [hk,hlen,k1m t (aL m) k 0 h]
 have:=tP (aL m) k 0 h1 (by rw [h2]; omega)
 rw [h2,Nat.zero_mul,Nat.zero_add] at this
 refine⟨?_,by omega⟩
 rw [show k+(aL m).length=t.length by omega] at this
 exact this
theorem r1e {u:List UInt8} {c:UInt8} {x:Int} (hc:c=101∨c=69) (hu:u.length≤1000000) (hx: -1000000 < x∧x < 1000000):exV (u++c ::z7 x) eE u.length=x∧exE (u++c ::z7 x) eE u.length=(u++c ::z7 x).length:=by
 have hd0:(u++c ::z7 x).drop u.length=c ::z7 x:=by rw [List.drop_left]
 have hd1:(u++c ::z7 x).drop (u.length+1)=z7 x:=(Y2 hd0).2.1
 have hlt0:=(Y2 hd0).2.2
 have htk:(u++c ::z7 x).take (u.length+1)=u++[c] :=by
  rw [show u++c ::z7 x=(u++[c])++z7 x by simp]
  exact List.take_left' (by simp)
 generalize u++c ::z7 x=t at*
 have hhd:hdB t eE (u.length:Int)=false:=by
  unfold hdB
  rw [show geB t (u.length:Int)=false from decide_eq_false (by omega)]
  have hs:c2i t (u.length:Int)=[c] :=by
   unfold c2i
   rw [wr (by omega) (by omega),Int.toNat_natCast,show (((u.length:Nat):Int)+1).toNat=u.length+1 by omega,htk,List.drop_left]
  rw [hs]
  rcases hc with rfl | rfl <;> decide
 have hh:¬hdB t eE (u.length:Int)=true:=by rw [hhd]; decide
 have V:¬(exR t u.length).2=exK t u.length→exV t eE u.length=if exN t u.length=true then -(exR t u.length).1 else (exR t u.length).1:=fun hne=>by unfold exV; rw [if_neg hh,if_neg hne]
 have E:¬(exR t u.length).2=exK t u.length→exE t eE u.length=(exR t u.length).2:=fun hne=>by unfold exE; rw [if_neg hh,if_neg hne]
 by_cases h0:x < 0
 ·have e1:z7 x=45 ::aL (-x).toNat:=by unfold z7; rw [if_pos h0]
  rw [e1] at hd1
  obtain⟨s1,s2⟩:=v1c hd1
  have hk:exK t u.length=u.length+2:=by unfold exK; rw [if_pos (by rw [s1]; decide)]
  obtain⟨g1,g2⟩:=k1s (m:=(-x).toNat) hk (Y2 hd1).2.1 (by omega)
  have hn:exN t u.length=true:=by
   unfold exN
   rw [s1,s2]
   decide
  rw [g1,hk] at V E
  have hne:¬t.length=u.length+2:=by omega
  refine⟨?_,E hne⟩
  rw [V hne,if_pos hn]
  show -(((-x).toNat:Nat):Int)=x
  omega
 ·have e1:z7 x=aL x.toNat:=by unfold z7; rw [if_neg h0]
  rw [e1] at hd1
  obtain⟨q,r,hq,q1,q2⟩:=zX x.toNat
  have hd2:=hd1
  rw [hq] at hd2
  obtain⟨s1,s2⟩:=v1c hd2
  have n1:¬(q=43∨q=45):=by
   rintro (h | h)
   ·rw [h] at q1; exact absurd q1 (by decide)
   ·rw [h] at q1; exact absurd q1 (by decide)
  have hsg:sgB t ((u.length+1:Nat):Int)=false:=by rw [s1]; exact decide_eq_false n1
  have hk:exK t u.length=u.length+1:=by unfold exK; rw [if_neg (by rw [hsg]; decide)]
  obtain⟨g1,g2⟩:=k1s (m:=x.toNat) hk hd1 (by omega)
  have hn:exN t u.length=false:=by
   unfold exN
   rw [hsg]
   rfl
  rw [g1,hk] at V E
  have hne:¬t.length=u.length+1:=by omega
  refine⟨?_,E hne⟩
  rw [V hne,if_neg (by rw [hn]; decide)]
  show ((x.toNat:Nat):Int)=x
  omega
structure Mant where
 d1:List UInt8
 d2:List UInt8
 pt:Bool
def Mant.text (m:Mant):List UInt8:=if m.pt=true then m.d1++46 ::m.d2 else m.d1
def Mant.digs (m:Mant):List UInt8:=if m.pt=true then m.d1++m.d2 else m.d1
def Mant.beh (m:Mant):Nat:=if m.pt=true then m.d2.length else 0
def Mant.ok (m:Mant):Prop:=r8 m.d1=true∧r8 m.d2=true∧m.digs≠[] ∧m.text.length≤1000
theorem Mant.run (m:Mant) (h:m.ok) {c:UInt8} (hc:c=101∨c=69) (r:List UInt8):mgt 10 (m.text++c ::r) 0 (-1)=(if m.pt=true then (m.d1.length:Int) else -1,m.text.length):=by
 obtain⟨h1,h2,_,_⟩:=h
 obtain⟨d1,d2,pt⟩:=m
 cases pt with
 | true=>
  show mgt 10 ((d1++46 ::d2)++c ::r) 0 (-1)=((d1.length:Int),(d1++46 ::d2).length)
  rw [List.append_assoc,Y7 d1 _ 0 (-1) h1,Nat.zero_add,List.cons_append,m1s,Y7 d2 _ _ _ h2,j0b hc,List.length_append,List.length_cons]
  congr 1
  omega
 | false=>
  show mgt 10 (d1++c ::r) 0 (-1)=(-1,d1.length)
  rw [Y7 d1 _ 0 (-1) h1,j0b hc,Nat.zero_add]
theorem e2c {t:List UInt8} (h:∀ c∈t,c≠120∧c≠88):hxB t=false:=by
 unfold hxB
 cases h0B t with
 | false=>rfl
 | true=>
  have q:∀ n:UInt8,n≠0→(∀ c∈t,c≠n)→(chI t 1==cI n)=false:=by
   intro n hn hne
   refine beq_false_of_ne fun e=> ?_
   have e:(((t.getD 1 0).toNat:Nat):Int)=((n.toNat:Nat):Int):=e
   have e2:t.getD 1 0=n:=UInt8.toNat_inj.1 (by omega)
   rw [List.getD_eq_getElem?_getD] at e2
   cases hg:t[1]? with
   | none=>rw [hg] at e2; exact hn e2.symm
   | some c=>
    rw [hg] at e2
    exact hne c (List.mem_of_getElem? hg) e2
  have q1:=q 120 (by decide) fun c hc=>(h c hc).1
  have q2:=q 88 (by decide) fun c hc=>(h c hc).2
  show (match chI t 1==cI 120 with | true=>true | false=>chI t 1==cI 88)=false
  rw [q1,q2]
theorem Mant.mem {m:Mant} (h:m.ok) {c:UInt8} (hc:c∈m.text):(48≤c.toNat∧c.toNat≤57)∨c=46:=by
 obtain⟨h1,h2,_,_⟩:=h
 unfold Mant.text at hc
 split at hc
 ·rcases List.mem_append.1 hc with h | h
  ·exact .inl (allDB_mem.1 h1 c h)
  ·rcases List.mem_cons.1 h with h | h
   ·exact .inr h
   ·exact .inl (allDB_mem.1 h2 c h)
 ·exact .inl (allDB_mem.1 h1 c hc)
theorem i1k {x:Int} {c:UInt8} (hc:c∈z7 x):(48≤c.toNat∧c.toNat≤57)∨c=45:=by
 unfold z7 at hc
 split at hc
 ·rcases List.mem_cons.1 hc with h | h
  ·exact .inr h
  ·exact .inl (allDB_mem.1 (P8 _).1 c h)
 ·exact .inl (allDB_mem.1 (P8 _).1 c hc)
def x9 (m:Mant) (c:UInt8) (x:Int):List UInt8:=m.text++c ::z7 x
theorem e1x {m:Mant} {e:UInt8} {x:Int} (h:m.ok) (he:e=101∨e=69) {c:UInt8} (hc:c∈x9 m e x):((48≤c.toNat∧c.toNat≤57)∨c=46)∨c=101∨c=69∨c=45:=by
 rcases List.mem_append.1 hc with h1 | h1
 ·exact .inl (Mant.mem h h1)
 ·rcases List.mem_cons.1 h1 with h2 | h2
  ·rcases he with rfl | rfl
   ·exact .inr (.inl h2)
   ·exact .inr (.inr (.inl h2))
  ·rcases i1k h2 with h3 | h3
   ·exact .inl (.inl h3)
   ·exact .inr (.inr (.inr h3))
theorem c0l {m:Mant} {c:UInt8} {x:Int} (h:m.ok) (hc:c=101∨c=69) (hx: -1000000 < x∧x < 1000000):
  L7 (x9 m c x)=false∧aD (x9 m c x)=m.digs∧fG (x9 m c x)=x- (m.beh:Int)∧T9 (x9 m c x)=(x9 m c x).length:=by
 have hxb:hxB (x9 m c x)=false:=e2c fun b hb=>by
  have key:∀ n:UInt8,((48≤n.toNat∧n.toNat≤57)∨n=46)∨n=101∨n=69∨n=45→n≠120∧n≠88:=by
   intro n hn
   refine⟨fun e=> ?_,fun e=> ?_⟩
   ·subst e; revert hn; decide
   ·subst e; revert hn; decide
  exact key b (e1x h hc hb)
 have hH:L7 (x9 m c x)=false:=by unfold L7; rw [hxb]; rfl
 have hrun:=Mant.run m h hc (z7 x)
 have hgo:jU (x9 m c x) 10 ((x9 m c x).length-0) 0 (-1)=(if m.pt=true then (m.d1.length:Int) else -1,m.text.length):=by
  rw [Nat.sub_zero,x0w (x9 m c x) 10 (x9 m c x) 0 (-1) rfl]
  exact hrun
 have hP:maP (x9 m c x) 0 10=if m.pt=true then (m.d1.length:Int) else -1:=by unfold maP; rw [hgo]
 have hE:maE (x9 m c x) 0 10=m.text.length:=by unfold maE; rw [hgo]
 have hS:maS (x9 m c x) 0 10=m.digs:=by
  unfold maS Mant.digs
  have htk:(x9 m c x).take m.text.length=m.text:=List.take_left
  cases hp:m.pt with
  | false=>
   rw [hp,if_neg (by decide)] at hP
   rw [hP,hE,htk,if_pos (by decide),if_neg (by decide),List.drop_zero]
   unfold Mant.text
   rw [hp,if_neg (by decide)]
  | true=>
   rw [hp,if_pos rfl] at hP
   rw [hP,hE,htk,if_neg (by omega),if_pos rfl,Int.toNat_natCast,List.drop_zero]
   have e1:m.text=m.d1++46 ::m.d2:=by unfold Mant.text; rw [hp,if_pos rfl]
   have e2:(x9 m c x).take m.d1.length=m.d1:=by
    unfold x9
    rw [e1,List.append_assoc]
    exact List.take_left
   rw [e2,e1,show m.d1++46 ::m.d2=(m.d1++[46])++m.d2 by simp]
   congr 1
   exact List.drop_left' (by simp)
 have hB:maB (x9 m c x) 0 10=(m.beh:Int):=by
  unfold maB Mant.beh
  cases hp:m.pt with
  | false=>
   rw [hp,if_neg (by decide)] at hP
   rw [hP,if_pos (by decide),if_neg (by decide)]
   rfl
  | true=>
   rw [hp,if_pos rfl] at hP
   rw [hP,hE,if_neg (by omega),if_pos rfl]
   have e1:m.text=m.d1++46 ::m.d2:=by unfold Mant.text; rw [hp,if_pos rfl]
   rw [e1,List.length_append,List.length_cons]
   omega
 obtain⟨r1,r2⟩:=r1e (u:=m.text) hc (by have:=h.2.2.2; omega) hx
 have hne:¬m.digs=[] :=h.2.2.1
 refine⟨hH,?_,?_,?_⟩
 ·unfold aD
  rw [if_neg (by rw [hH]; decide)]
  exact hS
 ·unfold fG
  rw [if_neg (by rw [hH]; decide),hS,if_neg hne,hE,hB]
  have r1:exV (x9 m c x) eE m.text.length=x:=r1
  rw [r1]
 ·unfold T9
  rw [if_neg (by rw [hH]; decide),hS,if_neg hne,hE]
  exact r2
theorem e1m {m:Mant} {c:UInt8} {x:Int} (h:m.ok) (hx: -1000 < x∧x < 1000):(x9 m c x).length≤2010:=by
 have h1:=h.2.2.2
 have h2:(z7 x).length≤1002:=by
  unfold z7
  split
  ·have:=M0 (-x).toNat
   rw [List.length_cons]
   omega
  ·have:=M0 x.toNat
   omega
 unfold x9
 rw [List.length_append,List.length_cons]
 omega
theorem b0p {m:Mant} {c:UInt8} {x:Int} (h:m.ok):∃ b r,x9 m c x=b ::r∧((48≤b.toNat∧b.toNat≤57)∨b=46):=by
 cases ht:m.text with
 | nil=>
  exfalso
  apply h.2.2.1
  unfold Mant.text at ht
  unfold Mant.digs
  split at ht
  ·exact absurd ht (by simp)
  ·rename_i hp
   rw [if_neg hp]
   exact ht
 | cons b r=>
  refine⟨b,r++c ::z7 x,?_,Mant.mem h (by rw [ht]; exact List.mem_cons_self)⟩
  unfold x9
  rw [ht]
  rfl
inductive Sgn where
 | no
 | plus
 | minus
def Sgn.text:Sgn→List UInt8
 | .no=>[]
 | .plus=>[43]
 | .minus=>[45]
def Sgn.neg:Sgn→Bool
 | .minus=>true
 | _=>false
theorem t0a {s:Sgn} {m:Mant} {c:UInt8} {x:Int} (h:m.ok):pE (s.text++x9 m c x)=s.neg∧u9 (s.text++x9 m c x)=x9 m c x:=by
 obtain⟨b,r,hb,hr⟩:=b0p (c:=c) (x:=x) h
 unfold pE u9 spB neB
 cases s with
 | no=>
  have n45:∀ n:UInt8,((48≤n.toNat∧n.toNat≤57)∨n=46)→(((n.toNat:Nat):Int)==45)=false∧(((n.toNat:Nat):Int)==43)=false:=by
   intro n hn
   have hn:(48≤n.toNat∧n.toNat≤57)∨n.toNat=46:=hn.imp id fun e=>by rw [e]; rfl
   exact⟨beq_false_of_ne (by omega),beq_false_of_ne (by omega)⟩
  obtain⟨q1,q2⟩:=n45 b hr
  show ((match !(x9 m c x==[]) with | true=>(match chI (x9 m c x) 0==45 with | true=>true | false=>chI (x9 m c x) 0==43) | false=>false) && _)=false∧(if (match !(x9 m c x==[]) with | true=>(match chI (x9 m c x) 0==45 with | true=>true | false=>chI (x9 m c x) 0==43) | false=>false)=true then _ else x9 m c x)=_
  have e0:chI (x9 m c x) 0=((b.toNat:Nat):Int):=by rw [hb]; rfl
  have e1:(x9 m c x==[])=false:=by rw [hb]; rfl
  rw [e0,e1,q1,q2]
  exact⟨rfl,rfl⟩
 | plus=>exact⟨rfl,rfl⟩
 | minus=>exact⟨rfl,rfl⟩
open Go Go.RowKit Ev Wd VaS
theorem g0g {x:Nat} (hx:x < 18446744073709551616):(BitVec.ofInt IntKind.u64.bits (x:Int)).toNat=x:=by
 show (BitVec.ofInt 64 (x:Int)).toNat=x
 rw [BitVec.ofInt_natCast,BitVec.toNat_ofNat]
 exact Nat.mod_eq_of_lt hx
theorem j1r {x:Nat} (hx:x < 9223372036854775808):sgE x=x+9223372036854775808:=by
 unfold sgE
 have h3:(BitVec.ofInt IntKind.u64.bits (x:Int)&&& ~~~BitVec.ofInt IntKind.u64.bits 9223372036854775808).toNat=x:=by
  rw [BitVec.toNat_and,g0g (by omega),show (~~~BitVec.ofInt IntKind.u64.bits 9223372036854775808).toNat=2 ^63-1 by decide]
  have:=Nat.and_two_pow_sub_one_eq_mod x 63
  rw [this]
  exact Nat.mod_eq_of_lt hx
 have hm:x < 2 ^63:=hx
 have h5:(BitVec.ofInt IntKind.u64.bits 13830554455654793216&&& BitVec.ofInt IntKind.u64.bits 9223372036854775808).toNat=9223372036854775808:=by decide
 rw [h3,h0n (n:=x) (by omega),h5]
 have h6:(BitVec.ofInt IntKind.u64.bits ((x:Nat):Int)||| BitVec.ofInt IntKind.u64.bits (IntKind.u64.wrap ((9223372036854775808:Nat):Int))).toNat=x+9223372036854775808:=by
  rw [BitVec.toNat_or,g0g (by omega),show (BitVec.ofInt IntKind.u64.bits (IntKind.u64.wrap ((9223372036854775808:Nat):Int))).toNat=2 ^63*1 by decide,Nat.or_comm,← Nat.two_pow_add_eq_or_of_lt hm]
  omega
 rw [h6,h0n (by omega),Int.toNat_natCast]
theorem r0s {t u:List UInt8} {b c:UInt8} {r q:List UInt8} (h1:t=b ::r) (h2:u=c ::q) (hn:b≠c):(t==u)=false:=by
 subst h1 h2
 refine beq_false_of_ne fun e=>hn ?_
 injection e
section
variable {s:Sgn} {m:Mant} {c:UInt8} {x:Int} (h:m.ok) (hc:c=101∨c=69) (hx: -1000 < x∧x < 1000)
include h hc hx
theorem j0d:rdE (s.text++x9 m c x)=0∧rdI (s.text++x9 m c x)=false∧rdN (s.text++x9 m c x)=s.neg∧d0y (s.text++x9 m c x)=false∧d0z (s.text++x9 m c x)=m.digs∧d0t (s.text++x9 m c x)=x- (m.beh:Int):=by
 obtain⟨g1,g2⟩:=t0a (s:=s) (c:=c) (x:=x) h
 obtain⟨r1,r2,r3,r4⟩:=c0l h hc (x:=x) ⟨by omega,by omega⟩
 obtain⟨b,r,hb,hr⟩:=b0p (c:=c) (x:=x) h
 have hlen:=e1m (c:=c) h hx
 have hsl:s.text.length≤1:=by cases s <;> decide
 have hL:rdL (s.text++x9 m c x)=false:=by
  unfold rdL
  rw [List.length_append]
  exact decide_eq_false (by show ¬((8192:Int) < ((s.text.length+(x9 m c x).length:Nat):Int)); omega)
 have hbn:∀ n:UInt8,n.toNat=78∨n.toNat=73→b≠n:=by
  intro n hn e
  rw [← e] at hn
  rcases hr with hr | hr
  ·omega
  ·rw [hr] at hn; revert hn; decide
 have hF:rdF (s.text++x9 m c x)=false:=by
  unfold rdF
  cases s with
  | no=>exact r0s (c:=78) (q:=[97,78]) (show [] ++x9 m c x=b ::r from hb) rfl (hbn 78 (.inl rfl))
  | plus=>rfl
  | minus=>rfl
 have hG:rdG (s.text++x9 m c x)=false:=by
  unfold rdG
  rw [g2]
  exact r0s (c:=73) (q:=[110,102]) hb rfl (hbn 73 (.inr rfl))
 have hP:rdP (s.text++x9 m c x)=true:=by unfold rdP; rw [hL,hF,hG]; rfl
 have hpos:0 < (x9 m c x).length:=by rw [hb]; exact Nat.zero_lt_succ _
 have hNo:l1y (s.text++x9 m c x)=false:=by
  unfold l1y
  rw [g2,r4]
  have e1:((((x9 m c x).length:Nat):Int)==0)=false:=beq_false_of_ne (by omega)
  rw [e1]
  simp
 have hOk:x1w (s.text++x9 m c x)=true:=by unfold x1w; rw [hP,hNo]; rfl
 refine⟨?_,?_,?_,?_,?_,?_⟩
 ·unfold rdE; rw [hL,hP,hNo]; rfl
 ·unfold rdI; rw [hL,hF,hG]; rfl
 ·unfold rdN; rw [hOk,g1]; rfl
 ·unfold d0y; rw [hP,g2,r1]; rfl
 ·unfold d0z; rw [hP,g2,r2]; rfl
 ·unfold d0t; rw [hP,g2,r3]; rfl
end
theorem b1u {m:Mant} (h:m.ok):r8 m.digs=true∧m.digs.length≤1000∧m.beh≤1000:=by
 obtain⟨h1,h2,_,h4⟩:=h
 unfold Mant.digs Mant.beh
 unfold Mant.text at h4
 split
 ·rename_i hp
  rw [if_pos hp,List.length_append,List.length_cons] at h4
  exact⟨V1 h1 h2,by rw [List.length_append]; omega,by omega⟩
 ·rename_i hp
  rw [if_neg hp] at h4
  exact⟨h1,h4,by omega⟩
def txW (K:Nat) (L:Int) (m:Mant) (x:Int):Nat:=dcW K L (dcN m.digs) (x- (m.beh:Int))
theorem n0i {W:Nat} (h:¬9218868437227405312≤W):min W 9218868437227405312=W:=Nat.min_eq_left (by omega)
theorem cT {s:Sgn} {m:Mant} {c:UInt8} {x:Int} (h:m.ok) (hc:c=101∨c=69) (hx: -1000 < x∧x < 1000):
  paE (s.text++x9 m c x)=(if 9218868437227405312≤txW 53 (-1074) m x then 15 else 0)∧paW (s.text++x9 m c x)=if 9218868437227405312≤txW 53 (-1074) m x then 0 else if s.neg=true then txW 53 (-1074) m x+9223372036854775808 else txW 53 (-1074) m x:=by
 obtain⟨r1,r2,r3,r4,r5,r6⟩:=j0d (s:=s) h hc hx
 obtain⟨d1,d2,d3⟩:=b1u h
 obtain⟨w1,w2⟩:=v1b (d:=m.digs) (e:=x- (m.beh:Int)) d1 (by omega)
 have hX:paX (s.text++x9 m c x)=min (txW 53 (-1074) m x) 9218868437227405312:=by
  unfold paX nrW
  rw [r4,r5,r6,if_neg (by decide)]
  exact w1
 have hZ:paZ (s.text++x9 m c x)=0:=by
  unfold paZ nrE
  rw [r4,r5,r6,if_neg (by decide)]
  exact w2
 have hB:paB (s.text++x9 m c x)=false:=by
  unfold paB
  rw [r1,r2]
  rfl
 have hle:paX (s.text++x9 m c x)≤9218868437227405312:=by rw [hX]; exact Nat.min_le_right _ _
 have hI:paI (s.text++x9 m c x)=decide (9218868437227405312≤txW 53 (-1074) m x):=by
  unfold paI
  rw [hZ,h0a (Nat.lt_of_le_of_lt hle (by decide)),j0x hle (by decide),hX]
  show decide (9218868437227405311 < min (txW 53 (-1074) m x) 9218868437227405312)=_
  refine decide_eq_decide.2 ⟨fun q=> ?_,fun q=> ?_⟩
  ·have:=Nat.lt_min.1 q
   omega
  ·exact Nat.lt_min.2 ⟨by omega,by omega⟩
 have hb:¬paB (s.text++x9 m c x)=true:=by rw [hB]; decide
 have hE:paE (s.text++x9 m c x)=if paI (s.text++x9 m c x)=true then 15 else paZ (s.text++x9 m c x):=by unfold paE; rw [if_neg hb]
 have hW:paW (s.text++x9 m c x)=if paI (s.text++x9 m c x)=true then 0 else if paZ (s.text++x9 m c x)≠0 then 0 else sgV (paX (s.text++x9 m c x)) (rdN (s.text++x9 m c x)):=by unfold paW; rw [if_neg hb]
 rw [hE,hW,hI,hZ]
 by_cases hi:9218868437227405312≤txW 53 (-1074) m x
 ·rw [decide_eq_true hi,if_pos hi,if_pos hi]
  exact⟨rfl,rfl⟩
 ·rw [decide_eq_false hi,if_neg hi,if_neg hi]
  refine⟨rfl,?_⟩
  show sgV (paX (s.text++x9 m c x)) (rdN (s.text++x9 m c x))=_
  rw [r3,hX,n0i hi]
  unfold sgV
  split
  ·exact j1r (by omega)
  ·rfl
def smX (t:List UInt8):Nat:=nsX (d0y t) (d0z t) (d0t t)
def smG (t:List UInt8):Bool:=gtL (smX t) 5183643170566569984
def smN (t:List UInt8):Bool:=Ieee.double.order (rdO t) (rdO t) !=some .eq
def smF (x:Nat):Nat:=(floatToFloatBits .f64 x .f32).getD 0
def smS (x:Nat):Prop:=(floatToFloatBits .f64 x .f32).isSome=true
section
variable (t:List UInt8) (r:Nat) (z:Int)
theorem e2q:n8 x1p [] 200 13 (tA t) [yR r,iR z] [true,true] =some [smN t=true,paB t=true,Value.float .f32 2143289344=Value.float .f32 r,Value.int .i64 (rdE t)=Value.int .i64 z] :=by kernel_rfl
theorem f2d:n8 x1p [] 200 13 (tA t) [yR r,iR z] [true,false] =some [smS (rdO t),smN t=false,paB t=true,Value.float .f32 (smF (rdO t))=Value.float .f32 r,Value.int .i64 (rdE t)=Value.int .i64 z] :=by kernel_rfl
theorem e2a:n8 x1p [] 200 13 (tA t) [yR r,iR z] [false,true,true] =some [true=true,smG t=true,m1w (d0y t) (d0z t) (d0t t),paB t=false,Value.float .f32 0=Value.float .f32 r,Value.int .i64 15=Value.int .i64 z] :=by kernel_rfl
theorem f2a:n8 x1p [] 200 13 (tA t) [yR r,iR z] [false,false,false] =some [smS (sgV (smX t) (rdN t)),false=false,smG t=false,m1w (d0y t) (d0z t) (d0t t),paB t=false,Value.float .f32 (smF (sgV (smX t) (rdN t)))=Value.float .f32 r,Value.int .i64 0=Value.int .i64 z] :=by kernel_rfl
end
def smW (t:List UInt8):Nat:=if paB t=true then (if smN t=true then 2143289344 else smF (rdO t)) else if smG t=true then 0 else smF (sgV (smX t) (rdN t))
def smE (t:List UInt8):Int:=if paB t=true then rdE t else if smG t=true then 15 else 0
def fD (t:List UInt8):Prop:=paB t=false→m1w (d0y t) (d0z t) (d0t t)∧(smG t=false→smS (sgV (smX t) (rdN t)))
theorem h1h (t:List UInt8):smN t=false→smS (rdO t):=by
 unfold smN smS rdO
 intro h
 split
 ·decide+kernel
 ·split
  ·rename_i h1 h2
   rw [if_neg h1,if_pos h2] at h
   revert h
   decide+kernel
  ·split
   ·split <;> decide+kernel
   ·decide+kernel
theorem xE {t:List UInt8} (h:fD t):Ev.Sem Tryz.prog J0 13 (tA t) [yR (smW t),iR (smE t)] :=by
 cases h1:paB t with
 | true=>
  have eE:smE t=rdE t:=by unfold smE; rw [h1]; exact if_pos rfl
  cases h2:smN t with
  | true=>
   have e:smW t=2143289344:=by unfold smW; rw [h1,h2]; rfl
   rw [e,eE]
   exact d9 wX 10 _ _ (e2q t _ _) ⟨h2,h1,rfl,rfl,trivial⟩
  | false=>
   have e:smW t=smF (rdO t):=by unfold smW; rw [h1,h2]; rfl
   rw [e,eE]
   exact d9 wX 10 _ _ (f2d t _ _) ⟨h1h t h2,h2,h1,rfl,rfl,trivial⟩
 | false=>
  obtain⟨k1,k2⟩:=h h1
  cases h2:smG t with
  | true=>
   have e:smW t=0:=by unfold smW; rw [h1,h2]; rfl
   have eE:smE t=15:=by unfold smE; rw [h1,h2]; rfl
   rw [e,eE]
   exact d9 wX 10 _ _ (e2a t _ _) ⟨rfl,h2,k1,h1,rfl,rfl,trivial⟩
  | false=>
   have e:smW t=smF (sgV (smX t) (rdN t)):=by unfold smW; rw [h1,h2]; rfl
   have eE:smE t=0:=by unfold smE; rw [h1,h2]; rfl
   rw [e,eE]
   exact d9 wX 10 _ _ (f2a t _ _) ⟨k2 h2,rfl,h2,k1,h1,rfl,rfl,trivial⟩
def t0n:List Arg→Option (List Arg×List Prop)
 | [.c (.v (.string ⟨⟨t⟩⟩))] =>some ([yR (smW t),iR (smE t)],[fD t])
 | _=>none
theorem y0b:∀ az rs l,t0n az=some (rs,l)→d5 l→Ev.Sem Tryz.prog J0 13 az rs:=by
 intro az rs l h hl
 unfold t0n at h
 split at h
 ·cases h
  exact xE hl.1
 ·cases h
theorem u0c:(5183643170566569984:Nat)≤9218868437227405312:=by decide
theorem u1l {W:Nat} (h:W < 2139095040):gtL (dbl W) 5183643170566569984=false:=by
 have h1:=j1c h
 rw [j0x (Nat.le_trans h1 u0c) u0c]
 exact decide_eq_false (Nat.not_lt.2 h1)
theorem w1x {W:Nat} (h:W < 2139095040):dbl W < 9223372036854775808:=Nat.lt_of_le_of_lt (j1c h) (by decide)
theorem a2j {t:List UInt8} {W:Nat} (hB:paB t=false) (hk:m1w (d0y t) (d0z t) (d0t t)) (h1:W < 2139095040→smX t=dbl W) (h2:2139095040≤W→smG t=true):
  fD t∧smE t=(if 2139095040≤W then 15 else 0)∧smW t=if 2139095040≤W then 0 else if rdN t=true then W+2147483648 else W:=by
 have nB:¬paB t=true:=by rw [hB]; decide
 by_cases hi:2139095040≤W
 ·have hg:=h2 hi
  refine⟨fun _=>⟨hk,fun k=>absurd hg (by rw [k]; decide)⟩,?_,?_⟩
  ·unfold smE
   rw [if_neg nB,if_pos hg,if_pos hi]
  ·unfold smW
   rw [if_neg nB,if_pos hg,if_pos hi]
 ·have hlt:W < 2139095040:=by omega
  have hx:=h1 hlt
  have hg:smG t=false:=by unfold smG; rw [hx]; exact u1l hlt
  have ng:¬smG t=true:=by rw [hg]; decide
  have hb:=f1v (rdN t) hlt
  have hs:sgV (smX t) (rdN t)=if rdN t=true then dbl W+9223372036854775808 else dbl W:=by
   unfold sgV
   rw [hx]
   split
   ·exact j1r (w1x hlt)
   ·rfl
  rw [← hs] at hb
  refine⟨fun _=>⟨hk,fun _=>by unfold smS; rw [hb]; rfl⟩,?_,?_⟩
  ·unfold smE
   rw [if_neg nB,if_neg ng,if_neg hi]
  ·unfold smW
   rw [if_neg nB,if_neg ng,if_neg hi]
   unfold smF
   rw [hb]
   rfl
theorem tF {s:Sgn} {m:Mant} {c:UInt8} {x:Int} (h:m.ok) (hc:c=101∨c=69) (hx: -1000 < x∧x < 1000):
  fD (s.text++x9 m c x)∧smE (s.text++x9 m c x)=(if 2139095040≤txW 24 (-149) m x then 15 else 0)∧smW (s.text++x9 m c x)=if 2139095040≤txW 24 (-149) m x then 0 else if s.neg=true then txW 24 (-149) m x+2147483648 else txW 24 (-149) m x:=by
 obtain⟨r1,r2,r3,r4,r5,r6⟩:=j0d (s:=s) h hc hx
 obtain⟨d1,d2,d3⟩:=b1u h
 have hB:paB (s.text++x9 m c x)=false:=by
  unfold paB
  rw [r1,r2]
  rfl
 have hX:smX (s.text++x9 m c x)=dbl (min (txW 24 (-149) m x) 2139095040):=by
  unfold smX nsX
  rw [r4,r5,r6,if_neg (by decide)]
  rfl
 have hk:m1w (d0y (s.text++x9 m c x)) (d0z (s.text++x9 m c x)) (d0t (s.text++x9 m c x)):=by
  rw [r4,r5,r6]
  exact⟨by omega,⟨by omega,by omega⟩,by rw [if_neg (by decide)]; exact d1⟩
 have:=a2j (W:=txW 24 (-149) m x) hB hk (fun hlt=>by rw [hX,Nat.min_eq_left (by omega)]) (fun hge=>by
  unfold smG
  rw [hX,Nat.min_eq_right hge,i0u,j0x (Nat.le_refl _) u0c]
  exact decide_eq_true (by decide))
 rw [r3] at this
 exact this
end Go.Proofs.YtdgfhijnconaoaaGreatDoor
namespace Go.Proofs.YtdgfhijnconaoaaGreatDoor
open Go Go.RowKit Ev VaS
end Go.Proofs.YtdgfhijnconaoaaGreatDoor
namespace Go.Proofs.YtdgfhijnconaoaaGreatDoor
open Go Go.RowKit Ev Wd
def k1i (g:Nat→Value) (i:Nat):Int:=match g i with
 | .int .u8 x=>x
 | _=>0
def w1r (g:Nat→Value) (off o k q:Nat) (m:Int):Prop:=g=(fun i=> .int .u8 (k1i g i))∧off=o∧k=q∧(0≤m∧m≤1000)∧∀ i,i < k→0≤k1i g i∧k1i g i < 256
def h0e (args:List Value) (H:Heap) (n:Nat) (ds:List Bool):Option CR:=
 match args with
 | [.slice (some ⟨id,off,some _⟩) k _, .int .i64 m] =>match H.get id with
  | some (.fam g q sz o)=>match Nat.beq sz 1 with
   | true=>some ⟨.string ⟨⟨dgT (dgs (k1i g) (min k m.toNat))⟩⟩,H,n,[w1r g off o k q m],ds⟩
   | false=>none
  | _=>none
 | _=>none
theorem o0i:aN Tryz.prog J0 8 h0e:=by
 intro args H n ds r hs hl
 unfold h0e at hs
 split at hs
 case h_2=>cases hs
 rename_i id off sp k c m
 split at hs
 case h_2=>cases hs
 rename_i g q sz o hget
 split at hs
 case h_2=>cases hs
 rename_i hsz
 have hsz:=Nat.eq_of_beq_eq_true hsz
 subst hsz
 cases hs
 obtain⟨⟨hg,rfl,rfl,hm,hF⟩,_⟩:=hl
 obtain⟨mm,rfl⟩:∃ mm:Nat,m=(mm:Int):=⟨m.toNat,by omega⟩
 obtain⟨hent,hsem⟩:=o0j (F:=k1i g) (n:=k) (o:=off) (m:=mm) hF (by omega)
 refine⟨Nat.le_refl _,hent,fun B M ρ w vs hp hB hI hS=> ?_⟩
 obtain⟨hS0,hvs⟩:=hS ρ (Agree.refl _ _)
 have hcel:CelIs w (.f (fun i=> .int .u8 (k1i g i)) k 1 off) (rv ρ (.slice (some ⟨id,off,some sp⟩) k c)):=by
  rw [← hg]
  rcases hS0.obj id _ hget with ⟨g1,g2⟩ | ⟨b,cs,t,fr,g1,g2,g3⟩
  ·exact .inl ⟨by simp [rv,rSl,g1,g2],g2⟩
  ·obtain⟨c',q⟩:=aJ (off:=off) (sp:=some sp) (n:=k) (c:=c) g1
   exact .inr ⟨b,c',cs,t,fr,q,g2,g3⟩
 have hint:rv ρ (.int .i64 (mm:Int))= .int .i64 (mm:Int):=by simp only [rv]
 rw [hvs]
 have hus:All2 (CelIs w) (n9 [dgA (k1i g) k off,iR (mm:Int)]) [rv ρ (.slice (some ⟨id,off,some sp⟩) k c), .int .i64 (mm:Int)] := .cons hcel (.cons ⟨rfl,rfl⟩ .nil)
 have hc:=hsem w _ hI hus
 have hargs:F3 [dgA (k1i g) k off,iR (mm:Int)] [rv ρ (.slice (some ⟨id,off,some sp⟩) k c), .int .i64 (mm:Int)] =rvL ρ [.slice (some ⟨id,off,some sp⟩) k c, .int .i64 (mm:Int)] :=by
  simp only [rvL,hint]
  rfl
 rw [hargs] at hc
 refine hc.mono fun e w' ⟨us',he,hb,hnew,_⟩=> ?_
 cases hnew with
 | cons h1 h2=>
  cases h2
  obtain⟨rfl,_⟩:=h1
  refine⟨ρ,_,Agree.refl _ _,he,Keeps.of_below hb hB,fun ρ' ha=>⟨?_,((hS ρ' ha).1).below hb⟩⟩
  simp only [rv,Int.toNat_natCast]
  rfl
def s0r:List Arg→Option (List Arg×List Prop)
 | [.c (.v (.string ⟨⟨t⟩⟩))] =>some ([xR (paW t),iR (paE t)],[])
 | _=>none
theorem u0u:∀ az rs l,s0r az=some (rs,l)→d5 l→Ev.Sem Tryz.prog J0 10 az rs:=by
 intro az rs l h _
 unfold s0r at h
 split at h
 ·cases h
  exact b0j _
 ·cases h
def u0n:List Value→Option (Value×List Prop)
 | [.int .i64 e, .int .i64 m] =>some (.string ⟨⟨z7 (xpV e m.toNat)⟩⟩,[(-9223372036854775808≤e∧e≤9223372036854775807)∧(0≤m∧m≤1000)])
 | _=>none
theorem b1a (args:List Value) (v:Value) (l:List Prop) (h:u0n args=some (v,l)) (hl:d5 l):Ev.Pure Tryz.prog J0 9 args v:=by
 unfold u0n at h
 split at h
 ·cases h
  rename_i e m
  obtain⟨⟨h1,h2⟩,_⟩:=hl
  obtain⟨k,rfl⟩:∃ k:Nat,m=(k:Int):=⟨m.toNat,by omega⟩
  rw [Int.toNat_natCast]
  exact s0i h1 (by omega)
 ·cases h
section
variable (x y:Nat)
end
open Go Go.RowKit Ev Wd VaS
noncomputable def v0u:Tab:=i6 20 L0 (i6 16 Q9 n1s)
theorem a0f:N1 Tryz.prog J0 v0u:=b6 N0 (b6 aG (aW _ _))
noncomputable def h0w:kM:=l5 10 (y3 [shV] s0r) (l5 13 (y3 [shV] t0n) C4)
theorem rT:kY Tryz.prog J0 h0w:=b8 (g9 _ u0u) (b8 (g9 _ y0b) (m6 _ _))
noncomputable def bSm0:Base:=⟨Tryz.prog,J0,false,v0u,h0w,200,H8⟩
theorem p1s:BaseOk bSm0:=⟨progOk,a0f,rT,i7⟩
noncomputable abbrev f2q:Cx:=bSm0.cx 10
end Go.Proofs.YtdgfhijnconaoaaGreatDoor
namespace Go.Proofs.YtdgfhijnconaoaaGreatDoor
open Go Go.RowKit Ev
def dgB (b:Int) (c:UInt8):Bool:=decide (m7 (Int.ofNat c.toNat) < b)
theorem e0q {t:List UInt8} {k:Nat} (h:k < t.length):t.drop k=t.getD k 0 ::t.drop (k+1):=by
 rw [List.drop_eq_getElem_cons h]
 simp [List.getD,List.getElem?_eq_getElem h]
def w2V (c:Int):Int:=if 48≤c∧c≤57 then c-48 else if 97≤c∧c≤102 then c-87 else if 65≤c∧c≤70 then c-55 else 99
section
variable (c:Int)
theorem e2w:a6 n1u [] 200 45 [.int .u8 c] [true] =some (.int .i64 (IntKind.i64.wrap (IntKind.u8.wrap (c-Int.ofNat 48))),[inC 48 57 c=true]):=by kernel_rfl
theorem f2t:a6 n1u [] 200 45 [.int .u8 c] [false,true] =some (.int .i64 (IntKind.i64.wrap (IntKind.i64.wrap (IntKind.u8.wrap (c-Int.ofNat 97))+Int.ofNat 10)),[inC 97 102 c=true,inC 48 57 c=false]):=by kernel_rfl
theorem e2g:a6 n1u [] 200 45 [.int .u8 c] [false,false,true] =some (.int .i64 (IntKind.i64.wrap (IntKind.i64.wrap (IntKind.u8.wrap (c-Int.ofNat 65))+Int.ofNat 10)),[inC 65 70 c=true,inC 97 102 c=false,inC 48 57 c=false]):=by kernel_rfl
theorem f2l:a6 n1u [] 200 45 [.int .u8 c] [false,false,false] =some (.int .i64 99,[inC 65 70 c=false,inC 97 102 c=false,inC 48 57 c=false]):=by kernel_rfl
end
theorem h0r {c:Int} (h0:0≤c) (h1:c < 256):Ev.Pure Tryz.prog J0 45 [.int .u8 c] (.int .i64 (w2V c)):=by
 unfold w2V
 by_cases a:48≤c∧c≤57
 ·rw [if_pos a]
  exact aA (u7 aU (e2w c) ⟨inB_iff.2 a,trivial⟩) (by rw [show Int.ofNat 48=48 from rfl,m0f (by omega) (by omega),W3 (by omega) (by omega)])
 rw [if_neg a]
 by_cases b:97≤c∧c≤102
 ·rw [if_pos b]
  exact aA (u7 aU (f2t c) ⟨inB_iff.2 b,inB_not.2 a,trivial⟩) (by rw [show Int.ofNat 97=97 from rfl,show Int.ofNat 10=10 from rfl,m0f (by omega) (by omega),W3 (n:=c-97) (by omega) (by omega),W3 (by omega) (by omega)]; omega)
 rw [if_neg b]
 by_cases d:65≤c∧c≤70
 ·rw [if_pos d]
  exact aA (u7 aU (e2g c) ⟨inB_iff.2 d,inB_not.2 b,inB_not.2 a,trivial⟩) (by rw [show Int.ofNat 65=65 from rfl,show Int.ofNat 10=10 from rfl,m0f (by omega) (by omega),W3 (n:=c-65) (by omega) (by omega),W3 (by omega) (by omega)]; omega)
 rw [if_neg d]
 exact u7 aU (f2l c) ⟨inB_not.2 d,inB_not.2 b,inB_not.2 a,trivial⟩
theorem t1z {c b:Int} (hb:b≤16):w2V c < b↔m7 c < b:=by
 unfold w2V m7
 split
 ·rfl
 split
 ·rfl
 split
 ·rfl
 ·omega
def w0f:List Value→Option (Value×List Prop)
 | [.int .u8 c] =>some (.int .i64 (w2V c),[0≤c∧c < 256])
 | _=>none
theorem t0h (args:List Value) (v:Value) (l:List Prop) (h:w0f args=some (v,l)) (hl:d5 l):Ev.Pure Tryz.prog J0 45 args v:=by
 unfold w0f at h
 split at h
 ·cases h; exact h0r hl.1.1 hl.1.2
 ·cases h
noncomputable def w0x:Tab:=i6 45 w0f l0q
theorem a0q:N1 Tryz.prog J0 w0x:=b6 t0h mY
noncomputable def bNc0:Base:=⟨Tryz.prog,J0,false,w0x,C4,2000,H8⟩
theorem pB:BaseOk bNc0:=⟨progOk,a0q,m6 _ _,i7⟩
noncomputable abbrev n0e:=bNc0.cx 12
noncomputable def cFi:Code:=A2 Tryz.prog 115 0
noncomputable def tFi (t:List UInt8) (a b i:Int):St:=⟨only 29 [(0, .string ⟨⟨t⟩⟩),(1, .int .u8 a),(2, .int .u8 b),(6, .int .i64 0),(7, .int .i64 i)],J0.tabs,11,[],[],0,none,[],11⟩
noncomputable def tFr (i:Int):St:=⟨only 29 [(6, .int .i64 i)],J0.tabs,11,[],[],0,none,[],11⟩
def fsB (t:List UInt8) (a b k:Int):Bool:=match chI t k==a with | true=>true | false=>chI t k==b
def fsP (t:List UInt8) (a k:Int):Prop:=A0 [(5,chI t k==a)] [(5,false)] →0≤k∧k.toNat < t.length
section
variable (t:List UInt8) (a b i:Int)
theorem t1y (hl:d5 [fsB t a b i=true,fsP t a i,inP t i,ltE t i=true]):o9 n0e cFi (tFi t a b i) .ret (tFr i):=
 b7 (Base.cx_ok pB 12).1 progOk.mixed [] 200 [true,true] [] (by kernel_rfl) hl (by kernel_rfl) (by kernel_rfl)
theorem b2d (hl:d5 [fsB t a b i=false,fsP t a i,inP t i,ltE t i=true]):o9 n0e cFi (tFi t a b i) .normal (tFi t a b (IntKind.i64.wrap (i+1))):=
 b7 (Base.cx_ok pB 12).1 progOk.mixed [] 200 [true,false] [] (by kernel_rfl) hl (by kernel_rfl) (by kernel_rfl)
theorem t1n (hl:d5 [ltE t i=false]):o9 n0e cFi (tFi t a b i) (.exit 0) (tFi t a b i):=
 b7 (Base.cx_ok pB 12).1 progOk.mixed [] 200 [false] [] (by kernel_rfl) hl (by kernel_rfl) (by kernel_rfl)
theorem z1y:a6 n0e [J5 .ret (fun _=>tFr i)] 200 115 [.string ⟨⟨t⟩⟩, .int .u8 a, .int .u8 b] [] =some (.int .i64 i,[a7 n0e cFi (o8 n0e 200 115 [.string ⟨⟨t⟩⟩, .int .u8 a, .int .u8 b] J0.tabs Tryz.prog.globals.size []) .ret (tFr i)]):=by kernel_rfl
theorem z1b:a6 n0e [J5 (.exit 0) (fun _=>tFi t a b i)] 200 115 [.string ⟨⟨t⟩⟩, .int .u8 a, .int .u8 b] [] =some (.int .i64 (Int.ofNat t.length),[a7 n0e cFi (o8 n0e 200 115 [.string ⟨⟨t⟩⟩, .int .u8 a, .int .u8 b] J0.tabs Tryz.prog.globals.size []) (.exit 0) (tFi t a b i)]):=by kernel_rfl
theorem y0u {x:AX} {s':St} (h:a7 n0e cFi (tFi t a b ((0:Nat):Int)) x s'):a7 n0e cFi (o8 n0e 200 115 [.string ⟨⟨t⟩⟩, .int .u8 a, .int .u8 b] J0.tabs Tryz.prog.globals.size []) x s':=
 f9 h [] (by kernel_rfl) (by kernel_rfl) (by kernel_rfl)
end
def fsN (a b:Int):List UInt8→Nat
 | [] =>0
 | c ::r=>if fsB (c ::r) a b 0=true then 0 else fsN a b r+1
theorem j0l (a b:Int):∀ t:List UInt8,fsN a b t≤t.length∧(∀ i:Nat,i < fsN a b t→fsB t a b (i:Int)=false)∧(fsN a b t < t.length→fsB t a b ((fsN a b t:Nat):Int)=true)
 | [] =>⟨Nat.le_refl _,fun i h=>by simp [fsN] at h,fun h=>by simp [fsN] at h⟩
 | c ::r=>by
  obtain⟨h1,h2,h3⟩:=j0l a b r
  unfold fsN
  by_cases hb:fsB (c ::r) a b 0=true
  ·rw [if_pos hb]
   exact⟨Nat.zero_le _,fun i h=>by omega,fun _=>hb⟩
  ·rw [if_neg hb]
   refine⟨by rw [List.length_cons]; omega,fun i h=> ?_,fun h=> ?_⟩
   ·cases i with
    | zero=>exact Bool.eq_false_iff.2 hb
    | succ i=>exact h2 i (by omega)
   ·exact h3 (by rw [List.length_cons] at h; omega)
theorem h1r {t:List UInt8} {i:Nat} (h:i < t.length):ltE t (i:Int)=true:=decide_eq_true (by omega)
theorem w1j {t:List UInt8} {i:Nat} (h:¬i < t.length):ltE t (i:Int)=false:=decide_eq_false (by omega)
theorem g0s {t:List UInt8} {i:Nat} (h:i < t.length):inP t (i:Int):=⟨Int.natCast_nonneg _,h⟩
theorem n0o {t:List UInt8} {a b:Int} (hl:t.length < 9223372036854775807):Ev.Pure Tryz.prog J0 115 [.string ⟨⟨t⟩⟩, .int .u8 a, .int .u8 b] (.int .i64 (fsN a b t)):=by
 obtain⟨h1,h2,h3⟩:=j0l a b t
 have go:∀ i,i < fsN a b t→o9 n0e cFi (tFi t a b ((i:Nat):Int)) .normal (tFi t a b ((i+1:Nat):Int)):=fun i hi=>by
  have:=b2d t a b i ⟨h2 i hi,fun _=>g0s (by omega),g0s (by omega),h1r (by omega),trivial⟩
  rw [wr (by omega) (by omega)] at this
  exact this
 by_cases hlt:fsN a b t < t.length
 ·exact u7 pB (z1y t a b (fsN a b t:Int)) ⟨y0u t a b (v8 (fun i=>tFi t a b ((i:Nat):Int)) (fsN a b t) (by intro e; cases e) go (t1y t a b _ ⟨h3 hlt,fun _=>g0s hlt,g0s hlt,h1r hlt,trivial⟩)),trivial⟩
 ·have he:fsN a b t=t.length:=by omega
  have:=u7 pB (z1b t a b (fsN a b t:Int)) ⟨y0u t a b (v8 (fun i=>tFi t a b ((i:Nat):Int)) (fsN a b t) (by intro e; cases e) go (t1n t a b _ ⟨w1j hlt,trivial⟩)),trivial⟩
  rw [he]
  exact this
def y0a:List Value→Option (Value×List Prop)
 | [.string ⟨⟨t⟩⟩, .int .u8 a, .int .u8 b] =>some (.int .i64 (fsN a b t),[t.length < 9223372036854775807])
 | _=>none
theorem t0x (args:List Value) (v:Value) (l:List Prop) (h:y0a args=some (v,l)) (hl:d5 l):Ev.Pure Tryz.prog J0 115 args v:=by
 unfold y0a at h
 split at h
 ·cases h; exact n0o hl.1
 ·cases h
def sgT (t:List UInt8) (k:Int):Bool:=match chI t k==43 with | true=>true | false=>chI t k==45
def m1 (t:List UInt8) (k:Int):Bool:=match chI t k==101 with | true=>true | false=>chI t k==69
def m2 (t:List UInt8) (k:Int):Bool:=match m1 t k with | true=>true | false=>chI t k==112
def n1 (t:List UInt8) (k:Int):Bool:=match decide (w2V (chI t k) < 99) with | true=>true | false=>chI t k==46
def n2 (t:List UInt8) (k:Int):Bool:=match n1 t k with | true=>true | false=>chI t k==120
def n3 (t:List UInt8) (k:Int):Bool:=match n2 t k with | true=>true | false=>chI t k==88
noncomputable def j1j:Tab:=i6 115 y0a w0x
theorem q0m:N1 Tryz.prog J0 j1j:=b6 t0x a0q
noncomputable def bNc1:Base:=⟨Tryz.prog,J0,false,j1j,C4,2000,H8⟩
theorem X1:BaseOk bNc1:=⟨progOk,q0m,m6 _ _,i7⟩
noncomputable abbrev wD:=bNc1.cx 12
noncomputable def cMn:Code:=A2 Tryz.prog 116 0
noncomputable def tMz (t:List UInt8) (b p i:Int):St:=⟨only 53 [(0, .string ⟨⟨t⟩⟩),(1, .int .i64 b),(4, .string ⟨⟨[]⟩⟩),(5, .int .i64 0),(6, .bool false),(7, .slice none 0 0),(8, .int .i64 p),(9, .int .i64 i)],J0.tabs,11,[],[],0,none,[],11⟩
noncomputable def tMn (t:List UInt8) (b:Int) (ns:List Int) (m:Nat) (p i:Int):St:=⟨only 53 [(0, .string ⟨⟨t⟩⟩),(1, .int .i64 b),(4, .string ⟨⟨[]⟩⟩),(5, .int .i64 0),(6, .bool false),(7, .slice (some ⟨12,0,some 13⟩) m 0),(8, .int .i64 p),(9, .int .i64 i)],[(12, .row 5 1 (.ints .u8 ns) 13)] ++J0.tabs,14,[],[],0,none,[],11⟩
noncomputable def tMr:St:=⟨only 53 [(4, .string ⟨⟨[]⟩⟩),(5, .int .i64 0),(6, .bool false)],J0.tabs,11,[],[],0,none,[],11⟩
section
variable (t:List UInt8) (b:Int) (ns:List Int) (m:Nat) (p i:Int)
end
def rmL (b:Int):List UInt8→List UInt8→Int→Option (List UInt8×Int)
 | [],acc,p=>some (acc,p)
 | c ::r,acc,p=>if c=46∧(!decide (p < 0))=false then rmL b r acc acc.length else if dgB b c=true then rmL b r (acc++[c]) p else none
def qU (c:UInt8):Int:=Int.ofNat c.toNat
noncomputable def sMn (t:List UInt8) (b:Int) (x:Nat×List UInt8×Int):St:=if x.2.1=[] then tMz t b x.2.2 x.1 else tMn t b (x.2.1.map qU) x.2.1.length x.2.2 x.1
def f2z (t:List UInt8) (b:Int) (R:Option (List UInt8×Int)) (x:Nat×List UInt8×Int):Prop:=x.1≤t.length∧rmL b (t.drop x.1) x.2.1 x.2.2=R∧x.2.1.length≤x.1∧(x.2.2= -1∨(0≤x.2.2∧x.2.2≤x.2.1.length))
inductive NxM (t:List UInt8) (b:Int) (R:Option (List UInt8×Int)) (x:Nat×List UInt8×Int):Prop
 | go (y:Nat×List UInt8×Int):f2z t b R y→y.1=x.1+1→o9 wD cMn (sMn t b x) .normal (sMn t b y)→NxM t b R x
 | bad:R=none→o9 wD cMn (sMn t b x) .ret tMr→NxM t b R x
 | fin:R=some x.2→x.1=t.length→o9 wD cMn (sMn t b x) (.exit 0) (sMn t b x)→NxM t b R x
noncomputable def cWh:Code:=A2 Tryz.prog 17 0
noncomputable def tWh (t:List UInt8) (g:Bool) (n i:Int):St:=⟨only 49 [(0, .string ⟨⟨t⟩⟩),(2, .int .i64 0),(3, .bool false),(4, .bool g),(5, .int .i64 n),(6, .int .i64 i)],J0.tabs,11,[],[],0,none,[],11⟩
noncomputable def tWr:St:=⟨only 49 [(2, .int .i64 0),(3, .bool false)],J0.tabs,11,[],[],0,none,[],11⟩
def d9B (t:List UInt8) (k:Int):Bool:=decide (Int.ofNat 9 < w2V (chI t k))
def nxQ (n w:Int):Int:=if IntKind.i64.wrap (IntKind.i64.wrap (Int.ofNat 10*n)+w) < Int.ofNat 1099511627776 then IntKind.i64.wrap (IntKind.i64.wrap (Int.ofNat 10*n)+w) else Int.ofNat 1099511627776
def wsB (t:List UInt8):Bool:=match neB t with | true=>sgT t 0 | false=>false
def b2h (t:List UInt8):Prop:=A0 [(6,chI t 0==43),(2,neB t)] [(6,false),(2,true)] →(0:Int)≤0∧(0:Int).toNat < t.length
def a2r (t:List UInt8):Prop:=A0 [(2,neB t)] [(2,true)] →(0:Int)≤0∧(0:Int).toNat < t.length
def h0j (t:List UInt8) (ds:List Bool) (x:AX) (s:St):Prop:=a7 wD cWh (o8 wD 200 17 [.string ⟨⟨t⟩⟩] J0.tabs Tryz.prog.globals.size ds) x s
def x1s (t:List UInt8):List Prop:=[Int.ofNat 0≤Int.ofNat 1∧Int.ofNat 1≤Int.ofNat t.length,Int.ofNat 0≤Int.ofNat 0∧0 < t.length,wsB t=true,b2h t,a2r t]
def b2o (t:List UInt8):List Prop:=[wsB t=false,b2h t,a2r t]
section
variable (t r:List UInt8) (g:Bool) (n i:Int)
theorem z1x (hl:d5 [chP t i,inP t i,d9B t i=false,chP t i,inP t i,ltE t i=true]):o9 wD cWh (tWh t g n i) .normal (tWh t g (nxQ n (w2V (chI t i))) (IntKind.i64.wrap (i+1))):=
 b7 (Base.cx_ok X1 12).1 progOk.mixed [] 200 [true,false] [] (by kernel_rfl) hl (by kernel_rfl) (by kernel_rfl)
theorem t1f (hl:d5 [d9B t i=true,chP t i,inP t i,ltE t i=true]):o9 wD cWh (tWh t g n i) .ret tWr:=
 b7 (Base.cx_ok X1 12).1 progOk.mixed [] 200 [true,true] [] (by kernel_rfl) hl (by kernel_rfl) (by kernel_rfl)
theorem v1l (hl:d5 [ltE t i=false]):o9 wD cWh (tWh t g n i) (.exit 0) (tWh t g n i):=
 b7 (Base.cx_ok X1 12).1 progOk.mixed [] 200 [false] [] (by kernel_rfl) hl (by kernel_rfl) (by kernel_rfl)
theorem b2r:a6 wD [J5 (.exit 0) (fun _=>tWh r g n i)] 200 17 [.string ⟨⟨t⟩⟩] [true,true] =some (.tuple ⟨[.int .i64 (IntKind.i64.wrap (0-n)), .bool (!(r==([] :List UInt8)))]⟩,(g=true) ::h0j t [true,true] (.exit 0) (tWh r g n i) ::x1s t):=by kernel_rfl
theorem z1h:a6 wD [J5 (.exit 0) (fun _=>tWh r g n i)] 200 17 [.string ⟨⟨t⟩⟩] [true,false] =some (.tuple ⟨[.int .i64 n, .bool (!(r==([] :List UInt8)))]⟩,(g=false) ::h0j t [true,false] (.exit 0) (tWh r g n i) ::x1s t):=by kernel_rfl
theorem c2h:a6 wD [J5 (.exit 0) (fun _=>tWh r g n i)] 200 17 [.string ⟨⟨t⟩⟩] [false,false] =some (.tuple ⟨[.int .i64 n, .bool (!(r==([] :List UInt8)))]⟩,(g=false) ::h0j t [false,false] (.exit 0) (tWh r g n i) ::b2o t):=by kernel_rfl
theorem a2f:a6 wD [J5 .ret (fun _=>tWr)] 200 17 [.string ⟨⟨t⟩⟩] [true] =some (.tuple ⟨[.int .i64 0, .bool false]⟩,h0j t [true] .ret tWr ::x1s t):=by kernel_rfl
theorem d2j:a6 wD [J5 .ret (fun _=>tWr)] 200 17 [.string ⟨⟨t⟩⟩] [false] =some (.tuple ⟨[.int .i64 0, .bool false]⟩,h0j t [false] .ret tWr ::b2o t):=by kernel_rfl
theorem uM (ds:List Bool) {x:AX} {s':St} (h:a7 wD cWh (tWh (t.drop 1) (chI t 0==45) 0 ((0:Nat):Int)) x s'):h0j t (true ::ds) x s':=
 f9 h [] (by kernel_rfl) (by kernel_rfl) (by kernel_rfl)
theorem l0s (ds:List Bool) {x:AX} {s':St} (h:a7 wD cWh (tWh t false 0 ((0:Nat):Int)) x s'):h0j t (false ::ds) x s':=
 f9 h [] (by kernel_rfl) (by kernel_rfl) (by kernel_rfl)
end
def nx2 (n w:Int):Int:=if 10*n+w < 1099511627776 then 10*n+w else 1099511627776
theorem u1t {n w:Int} (h0:0≤n) (h1:n≤1099511627776) (w0:0≤w) (w1:w≤99):nxQ n w=nx2 n w:=by
 unfold nxQ nx2
 rw [show Int.ofNat 10=10 from rfl,show Int.ofNat 1099511627776=1099511627776 from rfl,wr (n:=10*n) (by omega) (by omega),wr (by omega) (by omega)]
theorem lU {n w:Int} (h0:0≤n) (w0:0≤w):0≤nx2 n w∧nx2 n w≤1099511627776:=by
 unfold nx2
 split <;> omega
theorem b2b {c:UInt8} (h:dgB 10 c=true):w2V (Int.ofNat c.toNat)=m7 (Int.ofNat c.toNat):=by
 have:=of_decide_eq_true h
 revert this
 unfold w2V m7
 split
 ·intro _; rfl
 split
 ·intro _; rfl
 split
 ·intro _; rfl
 ·intro h; omega
def whN:List UInt8→Int→Option Int
 | [],n=>some n
 | c ::r,n=>if dgB 10 c=true then whN r (nx2 n (m7 (Int.ofNat c.toNat))) else none
theorem v0w {t:List UInt8} {g:Bool} (hl:t.length < 9223372036854775807):∀ (f k:Nat) (n:Int),k+f=t.length→0≤n→n≤1099511627776→
  (∀ N,whN (t.drop k) n=some N→a7 wD cWh (tWh t g n (k:Int)) (.exit 0) (tWh t g N (t.length:Int))∧0≤N∧N≤1099511627776)∧(whN (t.drop k) n=none→a7 wD cWh (tWh t g n (k:Int)) .ret tWr):=by
 intro f k n hkf h0 h1
 have key:∀ (f k:Nat) (n:Int),k+f=t.length→0≤n→n≤1099511627776→∀ N,whN (t.drop k) n=some N→0≤N∧N≤1099511627776:=by
  intro f
  induction f with
  | zero=>intro k n hk h0 h1 N e; rw [List.drop_of_length_le (by omega)] at e; cases e; exact⟨h0,h1⟩
  | succ f ih=>
   intro k n hk h0 h1 N e
   rw [e0q (show k < t.length by omega)] at e
   unfold whN at e
   split at e
   ·have hr:=lU (w:=m7 (Int.ofNat (t.getD k 0).toNat)) h0 worth_range.1
    exact ih (k+1) _ (by omega) hr.1 hr.2 N e
   ·cases e
 have step:∀ (k:Nat) (n:Int),k < t.length→0≤n→n≤1099511627776→(dgB 10 (t.getD k 0)=true→o9 wD cWh (tWh t g n (k:Int)) .normal (tWh t g (nx2 n (m7 (Int.ofNat (t.getD k 0).toNat))) ((k+1:Nat):Int)))∧(dgB 10 (t.getD k 0)=false→o9 wD cWh (tWh t g n (k:Int)) .ret tWr):=by
  intro k n hk h0 h1
  refine⟨fun hd=> ?_,fun hd=> ?_⟩
  ·have h9:d9B t (k:Int)=false:=decide_eq_false (by
    have:=(t1z (c:=chI t (k:Int)) (b:=10) (by decide)).2 (of_decide_eq_true hd)
    show ¬(9:Int) < _
    omega)
   have:=z1x t g n k ⟨i1l t _,g0s hk,h9,i1l t _,g0s hk,h1r hk,trivial⟩
   have hw:w2V (chI t (k:Int))=m7 (Int.ofNat (t.getD k 0).toNat):=b2b hd
   have hr:=worth_range (c:=Int.ofNat (t.getD k 0).toNat)
   rw [hw,u1t h0 h1 hr.1 (by omega),wr (by omega) (by omega)] at this
   exact this
  ·have h9:d9B t (k:Int)=true:=decide_eq_true (by
    have:¬w2V (chI t (k:Int)) < 10:=fun e=>of_decide_eq_false hd ((t1z (by decide)).1 e)
    show (9:Int) < _
    omega)
   exact t1f t g n k ⟨h9,i1l t _,g0s hk,h1r hk,trivial⟩
 refine⟨fun N hN=>⟨?_,key f k n hkf h0 h1 N hN⟩,fun hN=> ?_⟩
 ·refine A8 (ι:=Nat×Int) (fun x=>tWh t g x.2 x.1) (fun x=>t.length-x.1) (fun x=>x.1≤t.length∧0≤x.2∧x.2≤1099511627776∧whN (t.drop x.1) x.2=some N) (by intro e; cases e) (fun x hx=> ?_) (k,n) ⟨by show k≤_; omega,h0,h1,hN⟩
  obtain⟨k',n'⟩:=x
  obtain⟨a1,a2,a3,a4⟩:=hx
  simp only at a1 a2 a3 a4 ⊢
  by_cases hk:k' < t.length
  ·rw [e0q hk] at a4
   unfold whN at a4
   split at a4
   ·rename_i hd
    have hr:=lU (w:=m7 (Int.ofNat (t.getD k' 0).toNat)) a2 worth_range.1
    exact .inl ⟨(k'+1,_),⟨hk,hr.1,hr.2,a4⟩,by show t.length- (k'+1) < t.length-k'; omega,(step k' n' hk a2 a3).1 hd⟩
   ·cases a4
  ·obtain rfl:k'=t.length:=by omega
   rw [List.drop_length] at a4
   cases a4
   exact .inr (v1l t g _ _ ⟨w1j hk,trivial⟩)
 ·refine A8 (ι:=Nat×Int) (fun x=>tWh t g x.2 x.1) (fun x=>t.length-x.1) (fun x=>x.1≤t.length∧0≤x.2∧x.2≤1099511627776∧whN (t.drop x.1) x.2=none) (by intro e; cases e) (fun x hx=> ?_) (k,n) ⟨by show k≤_; omega,h0,h1,hN⟩
  obtain⟨k',n'⟩:=x
  obtain⟨a1,a2,a3,a4⟩:=hx
  simp only at a1 a2 a3 a4 ⊢
  by_cases hk:k' < t.length
  ·rw [e0q hk] at a4
   unfold whN at a4
   split at a4
   ·rename_i hd
    have hr:=lU (w:=m7 (Int.ofNat (t.getD k' 0).toNat)) a2 worth_range.1
    exact .inl ⟨(k'+1,_),⟨hk,hr.1,hr.2,a4⟩,by show t.length- (k'+1) < t.length-k'; omega,(step k' n' hk a2 a3).1 hd⟩
   ·rename_i hd
    exact .inr ((step k' n' hk a2 a3).2 (by simpa using hd))
  ·obtain rfl:k'=t.length:=by omega
   rw [List.drop_length] at a4
   cases a4
def whR (t:List UInt8):List UInt8:=if wsB t=true then t.drop 1 else t
def whG (t:List UInt8):Bool:=wsB t && (chI t 0==45)
def whV (t:List UInt8):Int×Bool:=match whN (whR t) 0 with
 | none=>(0,false)
 | some n=>(if whG t=true then -n else n,!(whR t==([] :List UInt8)))
theorem o0s {t:List UInt8} (hl:t.length < 9223372036854775807):Ev.Pure Tryz.prog J0 17 [.string ⟨⟨t⟩⟩] (.tuple ⟨[.int .i64 (whV t).1, .bool (whV t).2]⟩):=by
 have p1:b2h t:=fun hc=>⟨by decide,sY (by simpa [A0,kvP] using hc.2)⟩
 have p2:a2r t:=fun hc=>⟨by decide,sY (by simpa [A0,kvP] using hc)⟩
 unfold whV whR whG
 cases hs:wsB t with
 | true=>
  have h0:0 < t.length:=by
   unfold wsB at hs
   cases hn:neB t with
   | true=>exact sY hn
   | false=>rw [hn] at hs; cases hs
  have q:d5 (x1s t):=⟨⟨by decide,Int.ofNat_le.2 h0⟩,⟨Int.le_refl _,h0⟩,hs,p1,p2,trivial⟩
  simp only [if_true,Bool.true_and]
  have hl':(t.drop 1).length < 9223372036854775807:=by rw [List.length_drop]; omega
  obtain⟨k1,k2⟩:=v0w (g:=chI t 0==45) hl' (t.drop 1).length 0 0 (Nat.zero_add _) (Int.le_refl _) (by decide)
  rw [List.drop_zero] at k1 k2
  cases hN:whN (t.drop 1) 0 with
  | none=>exact u7 X1 (a2f t) ⟨uM t [] (k2 hN),q⟩
  | some N=>
   obtain⟨h1,h2,h3⟩:=k1 N hN
   simp only
   cases hg:(chI t 0==45) with
   | true=>
    rw [hg] at h1
    have:=u7 X1 (b2r t (t.drop 1) true N (t.drop 1).length) ⟨rfl,uM t _ (by rw [hg]; exact h1),q⟩
    rw [wr (by omega) (by omega),Int.zero_sub] at this
    exact this
   | false=>
    rw [hg] at h1
    exact u7 X1 (z1h t (t.drop 1) false N (t.drop 1).length) ⟨rfl,uM t _ (by rw [hg]; exact h1),q⟩
 | false=>
  have q:d5 (b2o t):=⟨hs,p1,p2,trivial⟩
  simp only [Bool.false_eq_true,if_false,Bool.false_and]
  obtain⟨k1,k2⟩:=v0w (g:=false) hl t.length 0 0 (Nat.zero_add _) (Int.le_refl _) (by decide)
  rw [List.drop_zero] at k1 k2
  cases hN:whN t 0 with
  | none=>exact u7 X1 (d2j t) ⟨l0s t [] (k2 hN),q⟩
  | some N=>
   obtain⟨h1,h2,h3⟩:=k1 N hN
   exact u7 X1 (c2h t t false N t.length) ⟨rfl,l0s t _ h1,q⟩
def w0t:List Value→Option (Value×List Prop)
 | [.string ⟨⟨t⟩⟩] =>some (.tuple ⟨[.int .i64 (whV t).1, .bool (whV t).2]⟩,[t.length < 9223372036854775807])
 | _=>none
theorem r0f (args:List Value) (v:Value) (l:List Prop) (h:w0t args=some (v,l)) (hl:d5 l):Ev.Pure Tryz.prog J0 17 args v:=by
 unfold w0t at h
 split at h
 ·cases h; exact o0s hl.1
 ·cases h
section
variable (t:List UInt8)
end
open Go Go.RowKit Ev Wd VaS
abbrev sR (t:List UInt8):Arg:= .c (.v (.string ⟨⟨t⟩⟩))
def alB (s t:List UInt8):Bool:=match (match (match paE s==paE t with | true=>((paW s:Nat):Int)==((paW t:Nat):Int) | false=>false) with | true=>smE s==smE t | false=>false) with | true=>((smW s:Nat):Int)==((smW t:Nat):Int) | false=>false
theorem t1b (s t:List UInt8) (r:Bool):n8 f2q [] 200 18 [sR s,sR t] [.c (.v (.bool r))] [] =some [fD t,fD s,Value.bool (alB s t)=Value.bool r] :=by kernel_rfl
def q0n:List Arg→Option (List Arg×List Prop)
 | [.c (.v (.string ⟨⟨s⟩⟩)), .c (.v (.string ⟨⟨t⟩⟩))] =>some ([.c (.v (.bool (alB s t)))],[fD s∧fD t])
 | _=>none
theorem a1b:∀ az rs l,q0n az=some (rs,l)→d5 l→Ev.Sem Tryz.prog J0 18 az rs:=by
 intro az rs l h hl
 unfold q0n at h
 split at h
 ·cases h
  obtain⟨⟨h1,h2⟩,_⟩:=hl
  exact d9 p1s 10 _ _ (t1b _ _ _) ⟨h2,h1,rfl,trivial⟩
 ·cases h
def x0y:List Value→Option (Value×List Prop)
 | [.string ⟨⟨t⟩⟩] =>some (.int .i64 (T9 t),[t.length≤140737488351232])
 | _=>none
theorem y0k (args:List Value) (v:Value) (l:List Prop) (h:x0y args=some (v,l)) (hl:d5 l):Ev.Pure Tryz.prog J0 21 args v:=by
 unfold x0y at h
 split at h
 ·cases h; exact f0y hl.1
 ·cases h
abbrev e0k:Prop:=Ev.Pure Tryz.prog J0 7 [] (.bool true)
noncomputable def k1l:Tab:=i6 7 (atS [([], .bool true)]) (i6 9 u0n (i6 19 i0t (i6 17 w0t (i6 21 x0y v0u))))
theorem r0d (ha:e0k):N1 Tryz.prog J0 k1l:=b6 (I5 (fun p hp=>by simp only [List.mem_cons,List.not_mem_nil,or_false] at hp; subst hp; exact ha)) (b6 b1a (b6 b0e (b6 r0f (b6 y0k a0f))))
noncomputable def r0w:kM:=l5 8 h0e (l5 18 (y3 [shV,shV] q0n) h0w)
theorem n0y:kY Tryz.prog J0 r0w:=b8 o0i (b8 (g9 _ a1b) rT)
noncomputable def bSm1:Base:=⟨Tryz.prog,J0,false,k1l,r0w,200,H8⟩
theorem q1t (ha:e0k):BaseOk bSm1:=⟨progOk,r0d ha,n0y,i7⟩
noncomputable abbrev f2v:Cx:=bSm1.cx 10
def cc (p q:List UInt8):Prop:=p.length+q.length≤9223372036854775807
abbrev nmS (A B:List UInt8):List UInt8:=((A++[46])++B)++[101]
abbrev nmA (A B T:List UInt8):List UInt8:=nmS A B++T
abbrev nmB (A B T:List UInt8):List UInt8:=([48,48] ++nmS A B)++T
abbrev nmC (A B T:List UInt8):List UInt8:=((([43] ++A)++[46])++B)++[48,48,48,69] ++T
abbrev nmM (A B:List UInt8):List UInt8:=(((A++B.take 1)++[46])++B.drop 1)++[69]
abbrev nmX (T:List UInt8):Int:=IntKind.i64.wrap ((whV T).1-1)
abbrev nmD (A B T:List UInt8):List UInt8:=nmM A B++z7 (nmX T)
abbrev nmE (A T:List UInt8):List UInt8:=(A++[101])++T
abbrev nmF (A T:List UInt8):List UInt8:=(A++[46,101])++T
abbrev nmG (B T:List UInt8):List UInt8:=(([46] ++B)++[101])++T
abbrev nmH (B T:List UInt8):List UInt8:=(([48,46] ++B)++[101])++T
abbrev nmN (A B T:List UInt8):List UInt8:=([45] ++nmS A B)++T
def nmO (x:Nat):Bool:=Ieee.double.order x 0==some .eq
def nm1 (t:List UInt8):Bool:=match paE t !=0 with | true=>nmO (paW t) | false=>false
def nm2 (t u:List UInt8):Bool:=match nm1 t with | true=>nmO (paW u) | false=>false
def nmT (t u:List UInt8):Bool:=((paW u:Nat):Int)==IntKind.u64.wrap ↑(BitVec.ofInt IntKind.u64.bits ((paW t:Nat):Int)^^^BitVec.ofInt IntKind.u64.bits 9223372036854775808).toNat
def nm3 (t u:List UInt8):Bool:=match nm2 t u with | true=>true | false=>(match paE t==0 with | true=>nmT t u | false=>false)
def nm4 (t u:List UInt8):Bool:=match paE t==paE u with | true=>nm3 t u | false=>false
def nm5 (t u:List UInt8):Bool:=match nm4 t u with | true=>((T9 t:Nat):Int)==((t.length:Nat):Int) | false=>false
def nmK (t u:List UInt8) (p:Prop):Prop:=A0 [(22,nm4 t u),(17,paE t==0),(14,nm2 t u),(10,nm1 t),(6,paE t !=0),(3,paE t==paE u)] [(22,true)] →p
def nmQ (A B T:List UInt8):Bool:=match (match (match (match (match !true with | true=>true | false=> !alB (nmA A B T) (nmB A B T)) with | true=>true | false=> !alB (nmA A B T) (nmC A B T)) with | true=>true | false=> !alB (nmA A B T) (nmD A B T)) with | true=>true | false=> !alB (nmE A T) (nmF A T)) with | true=>true | false=> !alB (nmG B T) (nmH B T)
abbrev nmL (e:Int) (n o m p:Nat) (F G:Nat→Int) (A B T:List UInt8):List Prop:=
 [nmK (nmA A B T) (nmN A B T) (cc (nmS A B) T),nmK (nmA A B T) (nmN A B T) ((nmA A B T).length≤140737488351232),nmK (nmA A B T) (nmN A B T) (cc (nmS A B) T),cc ([45] ++nmS A B) T,cc [45] (nmS A B),cc (nmS A B) T,nmQ A B T=false,
   fD (nmG B T)∧fD (nmH B T),cc (([48,46] ++B)++[101]) T,cc ([48,46] ++B) [101],cc [48,46] B,cc (([46] ++B)++[101]) T,cc ([46] ++B) [101],cc [46] B,
   fD (nmE A T)∧fD (nmF A T),cc (A++[46,101]) T,cc A [46,101],cc (A++[101]) T,cc A [101],
   fD (nmA A B T)∧fD (nmD A B T),cc (nmM A B) (z7 (nmX T)),-100000000 < nmX T∧nmX T < 100000000,cc (nmS A B) T,
   fD (nmA A B T)∧fD (nmC A B T),cc (((([43] ++A)++[46])++B)++[48,48,48,69]) T,cc ((([43] ++A)++[46])++B) [48,48,48,69],cc (([43] ++A)++[46]) B,cc ([43] ++A) [46],cc [43] A,cc (nmS A B) T,
   fD (nmA A B T)∧fD (nmB A B T),cc ([48,48] ++nmS A B) T,cc [48,48] (nmS A B),cc (nmS A B) T,
   cc (((A++B.take 1)++[46])++B.drop 1) [69],cc ((A++B.take 1)++[46]) (B.drop 1),(0:Int)≤1∧(1:Int)≤(B.length:Int),cc (A++B.take 1) [46],cc A (B.take 1),(0:Int)≤1∧(1:Int)≤(B.length:Int),cc ((A++[46])++B) [101],cc (A++[46]) B,cc A [46],T.length < 9223372036854775807,
   (-9223372036854775808≤e∧e≤9223372036854775807)∧((0:Int)≤400∧(400:Int)≤1000),w1r (fun i=> .int .u8 (G i)) p p m m 60,w1r (fun i=> .int .u8 (F i)) o o n n 60]
section
variable (F G:Nat→Int) (n o m p:Nat) (e:Int) (r:Bool)
abbrev nmZ (F G:Nat→Int) (n o m p:Nat) (e:Int):List Arg:=[dgA F n o,dgA G m p,iR e]
theorem s1v:n8 f2v [] 200 5 (nmZ F G n o m p e) [.c (.v (.bool r))] [false] =some (nmL e n o m p F G (dgT (dgs F (min n 60))) (dgT (dgs G (min m 60))) (z7 (xpV e 400))++[Value.bool (nm5 (nmA (dgT (dgs F (min n 60))) (dgT (dgs G (min m 60))) (z7 (xpV e 400))) (nmN (dgT (dgs F (min n 60))) (dgT (dgs G (min m 60))) (z7 (xpV e 400))))=Value.bool r]):=by kernel_rfl
end
end Go.Proofs.YtdgfhijnconaoaaGreatDoor
namespace Go.Proofs.YtdgfhijnconaoaaGreatDoor
open Go Go.RowKit Ev Wd
abbrev x1e:Prop:=Ev.Pure Tryz.prog J0 7 [] (.bool true)
section
variable (F G:Nat→Int) (n o m p:Nat) (e:Int) (a b c d:List UInt8) (r:Bool)
end
theorem q0b (F:Nat→Int) (N:Nat):r8 (dgs F N)=true:=allDB_mem.2 fun b hb=>by
 unfold dgs at hb
 obtain⟨i,_,rfl⟩:=List.mem_map.1 hb
 rw [j1m]
 have:=Nat.mod_lt (F i).toNat (show 0 < 10 by decide)
 omega
theorem r0v {l:List UInt8} (h:r8 l=true) (k:Nat) (hl:l.length≤k) (hk:1≤k):r8 (dgT l)=true∧dgT l≠[] ∧(dgT l).length≤k:=by
 unfold dgT
 have h1:=B3 l
 cases ht:a8 l with
 | nil=>exact⟨by decide,by decide,hk⟩
 | cons c r=>
  rw [ht] at h1
  exact⟨allDB_mem.2 fun b hb=>allDB_mem.1 h b (E1 (by rw [ht]; exact hb)),List.cons_ne_nil _ _,by show (c ::r).length≤k; omega⟩
abbrev dM (c:List UInt8):Mant:=⟨c,[],false⟩
section
variable {c d:List UInt8} {e:Int} (hc:r8 c=true) (hd:r8 d=true) (nc:c≠[]) (nd:d≠[]) (lc:c.length≤40) (ld:d.length≤40) (hle:dcN c≤dcN d)
include hc hd nc nd lc ld hle
end
theorem h1d (e:Int) (m:Nat) (hm:m≤1000):(z7 (xpV e m)).length≤2000:=by
 have hx:=c0h e m
 unfold z7
 split
 ·have:=M0 (-(xpV e m)).toNat
  rw [List.length_cons]
  omega
 ·have:=M0 (xpV e m).toNat
  omega
section
variable {F G:Nat→Int} {n o m p:Nat} {e:Int} (ha:x1e)
include ha
end
open Go Go.RowKit Ev Wd VaS
theorem s0l:∀ (d:List UInt8) (m:Nat),r8 d=true→m*10 ^d.length+dcN d < 1099511627776→whN d (m:Int)=some ((m*10 ^d.length+dcN d:Nat):Int)
 | [],m,_,_=>by
  show some (m:Int)=some ((m*1+0:Nat):Int)
  rw [Nat.mul_one,Nat.add_zero]
 | c ::d,m,h,hb=>by
  obtain⟨h1,h2⟩:=J7 h
  have e0:m*10 ^(c ::d).length+dcN (c ::d)=(m*10+(c.toNat-48))*10 ^d.length+dcN d:=by
   rw [I7,List.length_cons,Nat.pow_succ,Nat.add_mul,Nat.mul_assoc m 10,Nat.mul_comm 10,← Nat.add_assoc]
  have hlt:m*10+(c.toNat-48) < 1099511627776:=by
   rw [e0] at hb
   have:(m*10+(c.toNat-48))*1≤(m*10+(c.toNat-48))*10 ^d.length:=Nat.mul_le_mul_left _ (Nat.pow_pos (by decide))
   omega
  have hw:m7 (Int.ofNat c.toNat)=((c.toNat-48:Nat):Int):=bN h1
  unfold whN
  have hd:dgB 10 c=true:=decide_eq_true (by show m7 (Int.ofNat c.toNat) < 10; rw [hw]; omega)
  rw [if_pos hd]
  have hn:nx2 (m:Int) (m7 (Int.ofNat c.toNat))=((m*10+(c.toNat-48):Nat):Int):=by
   unfold nx2
   rw [hw,if_pos (by omega)]
   omega
  rw [hn,s0l d _ h2 (by rw [← e0]; exact hb),e0]
theorem a1v {x:Int} (hx: -1000000 < x∧x < 1000000):(whV (z7 x)).1=x:=by
 have key:∀ m:Nat,m < 1000000→whN (aL m) 0=some (m:Int):=by
  intro m hm
  obtain⟨h1,h2,_⟩:=P8 m
  have:=s0l (aL m) 0 h1 (by rw [h2]; omega)
  rw [h2,Nat.zero_mul,Nat.zero_add] at this
  exact this
 by_cases h0:x < 0
 ·have e:z7 x=45 ::aL (-x).toNat:=by unfold z7; rw [if_pos h0]
  rw [e]
  have hs:wsB (45 ::aL (-x).toNat)=true:=rfl
  have hg:whG (45 ::aL (-x).toNat)=true:=rfl
  unfold whV whR
  rw [if_pos hs,List.drop_one,List.tail_cons,key _ (by omega)]
  show (if whG (45 ::aL (-x).toNat)=true then -(((-x).toNat:Nat):Int) else (((-x).toNat:Nat):Int))=x
  rw [if_pos hg]
  omega
 ·have e:z7 x=aL x.toNat:=by unfold z7; rw [if_neg h0]
  rw [e]
  obtain⟨c,r,hc,c1,c2⟩:=zX x.toNat
  have hs:wsB (aL x.toNat)=false:=by
   rw [hc]
   have e43:(cI c==43)=false:=beq_false_of_ne (by show ((c.toNat:Nat):Int)≠43; omega)
   have e45:(cI c==45)=false:=beq_false_of_ne (by show ((c.toNat:Nat):Int)≠45; omega)
   show (match cI c==43 with | true=>true | false=>cI c==45)=false
   rw [e43,e45]
  have hg:whG (aL x.toNat)=false:=by unfold whG; rw [hs]; rfl
  unfold whV whR
  rw [if_neg (by rw [hs]; decide),key _ (by omega)]
  show (if whG (aL x.toNat)=true then -((x.toNat:Nat):Int) else ((x.toNat:Nat):Int))=x
  rw [if_neg (by rw [hg]; decide)]
  omega
theorem w0y {s1 s2:Sgn} {m1 m2:Mant} {c1 c2:UInt8} {x1 x2:Int} (h1:m1.ok) (h2:m2.ok) (k1:c1=101∨c1=69) (k2:c2=101∨c2=69) (r1: -1000 < x1∧x1 < 1000) (r2: -1000 < x2∧x2 < 1000) (hs:s1.neg=s2.neg) (hW:∀ K L,0 < K→txW K L m1 x1=txW K L m2 x2):
  alB (s1.text++x9 m1 c1 x1) (s2.text++x9 m2 c2 x2)=true∧fD (s1.text++x9 m1 c1 x1)∧fD (s2.text++x9 m2 c2 x2):=by
 obtain⟨p1,p2⟩:=cT (s:=s1) h1 k1 r1
 obtain⟨q1,q2⟩:=cT (s:=s2) h2 k2 r2
 obtain⟨u0,u1,u2⟩:=tF (s:=s1) h1 k1 r1
 obtain⟨v0,v1,v2⟩:=tF (s:=s2) h2 k2 r2
 refine⟨?_,u0,v0⟩
 rw [hW 53 (-1074) (by decide)] at p1 p2
 rw [hW 24 (-149) (by decide)] at u1 u2
 rw [hs] at p2 u2
 unfold alB
 rw [p1,q1,p2,q2,u1,v1,u2,v2,beq_self_eq_true,beq_self_eq_true,beq_self_eq_true,beq_self_eq_true]
theorem v1j {K:Nat} {L:Int} {m m':Mant} {x x':Int} (h:dcN m.digs=dcN m'.digs) (hx:x- (m.beh:Int)=x'- (m'.beh:Int)):txW K L m x=txW K L m' x':=by
 unfold txW
 rw [h,hx]
theorem a1s (a:List UInt8):dcN (48 ::a)=dcN a:=by
 rw [I7]
 show (48-48)*_+_=_
 rw [Nat.sub_self,Nat.zero_mul,Nat.zero_add]
theorem n1q {W:Nat} (h:W < 9218868437227405312):(IntKind.u64.wrap ↑(BitVec.ofInt IntKind.u64.bits ((W:Nat):Int)^^^BitVec.ofInt IntKind.u64.bits 9223372036854775808).toNat:Int)=((W+9223372036854775808:Nat):Int):=by
 have e:(BitVec.ofInt IntKind.u64.bits ((W:Nat):Int)^^^BitVec.ofInt IntKind.u64.bits 9223372036854775808).toNat=W+9223372036854775808:=by
  rw [BitVec.toNat_xor,g0g (by omega),show (BitVec.ofInt IntKind.u64.bits 9223372036854775808).toNat=2 ^63 by decide]
  exact l0b (Nat.le_of_lt h)
 rw [e]
 exact h0n (by omega)
theorem a2z:nmO 0=true:=by decide+kernel
section
variable {A B:List UInt8} {x:Int} (hA:r8 A=true) (hB:r8 B=true) (nA:A≠[]) (nB:B≠[]) (lA:A.length≤60) (lB:B.length≤60) (hx: -400≤x∧x≤400)
abbrev mP (a b:List UInt8):Mant:=⟨a,b,true⟩
theorem h0d {a b:List UInt8} (ha:r8 a=true) (hb:r8 b=true) (hne:a++b≠[]) (hl:a.length+b.length≤900):(mP a b).ok:=by
 refine⟨ha,hb,?_,?_⟩
 ·unfold Mant.digs
  rw [if_pos rfl]
  exact hne
 ·unfold Mant.text
  rw [if_pos rfl,List.length_append,List.length_cons]
  show a.length+(b.length+1)≤1000
  omega
theorem X7 (a b:List UInt8) (c:UInt8) (x:Int):x9 (mP a b) c x=a++46 ::(b++c ::z7 x):=by
 unfold x9 Mant.text
 rw [if_pos rfl,List.append_assoc]
 rfl
theorem k1a (K:Nat) (L:Int) (a b:List UInt8) (x:Int):txW K L (mP a b) x=dcW K L (dcN (a++b)) (x- (b.length:Int)):=rfl
include hA hB nA nB lA lB hx in
theorem d1t:nmQ A B (z7 x)=false∧nm5 (nmA A B (z7 x)) (nmN A B (z7 x))=true∧(fD (nmG B (z7 x))∧fD (nmH B (z7 x)))∧(fD (nmE A (z7 x))∧fD (nmF A (z7 x)))∧fD (nmA A B (z7 x))∧fD (nmD A B (z7 x))∧fD (nmC A B (z7 x))∧fD (nmB A B (z7 x)):=by
 have h1:(101:UInt8)=101∨(101:UInt8)=69:= .inl rfl
 have h2:(69:UInt8)=101∨(69:UInt8)=69:= .inr rfl
 have hr: -1000 < x∧x < 1000:=by omega
 have hr1: -1000 < x-1∧x-1 < 1000:=by omega
 obtain⟨b,q,hbq⟩:∃ b q,B=b ::q:=by
  cases h:B with
  | nil=>exact absurd h nB
  | cons b q=>exact⟨b,q,rfl⟩
 have okA:(mP A B).ok:=h0d hA hB (by simp [nA]) (by omega)
 have eA:nmA A B (z7 x)=Sgn.no.text++x9 (mP A B) 101 x:=by rw [X7]; simp [Sgn.text]
 have eN:nmN A B (z7 x)=Sgn.minus.text++x9 (mP A B) 101 x:=by rw [X7]; simp [Sgn.text]
 have z48:r8 [48] =true:=by decide
 have okB:(mP (48 ::48 ::A) B).ok:=h0d (V1 (a:=[48,48]) (by decide) hA) hB (by simp) (by simp only [List.length_cons]; omega)
 have eB:nmB A B (z7 x)=Sgn.no.text++x9 (mP (48 ::48 ::A) B) 101 x:=by rw [X7]; simp [Sgn.text]
 have okC:(mP A (B++[48,48,48])).ok:=h0d hA (V1 hB (by decide)) (by simp) (by rw [List.length_append]; show A.length+(B.length+3)≤900; omega)
 have eC:nmC A B (z7 x)=Sgn.plus.text++x9 (mP A (B++[48,48,48])) 69 x:=by rw [X7]; simp [Sgn.text]
 have eX:nmX (z7 x)=x-1:=by
  unfold nmX
  rw [a1v ⟨by omega,by omega⟩]
  exact wr (by omega) (by omega)
 have dB:r8 [b] =true∧r8 q=true:=by
  rw [hbq] at hB
  obtain⟨g1,g2⟩:=J7 hB
  exact⟨allDB_mem.2 fun c hc=>by rw [List.mem_singleton.1 hc]; exact g1,g2⟩
 have lq:q.length+1=B.length:=by rw [hbq]; rfl
 have okD:(mP (A++[b]) q).ok:=h0d (V1 hA dB.1) dB.2 (by simp) (by rw [List.length_append,List.length_singleton]; omega)
 have eD:nmD A B (z7 x)=Sgn.no.text++x9 (mP (A++[b]) q) 69 (x-1):=by
  unfold nmD
  rw [eX,X7,hbq]
  simp [Sgn.text]
 have okE:(dM A).ok:=by
  refine⟨hA,rfl,?_,?_⟩
  ·unfold Mant.digs
   rw [if_neg (by intro h; cases h)]
   exact nA
  ·unfold Mant.text
   rw [if_neg (by intro h; cases h)]
   show A.length≤1000
   omega
 have eE:nmE A (z7 x)=Sgn.no.text++x9 (dM A) 101 x:=by
  unfold x9 Mant.text
  rw [if_neg (by intro h; cases h)]
  simp [Sgn.text]
 have okF:(mP A []).ok:=h0d hA rfl (by simp [nA]) (by show A.length+0≤900; omega)
 have eF:nmF A (z7 x)=Sgn.no.text++x9 (mP A []) 101 x:=by rw [X7]; simp [Sgn.text]
 have okG:(mP [] B).ok:=h0d rfl hB (by simp [nB]) (by show 0+B.length≤900; omega)
 have eG:nmG B (z7 x)=Sgn.no.text++x9 (mP [] B) 101 x:=by rw [X7]; simp [Sgn.text]
 have okH:(mP [48] B).ok:=h0d z48 hB (by simp) (by show 1+B.length≤900; omega)
 have eH:nmH B (z7 x)=Sgn.no.text++x9 (mP [48] B) 101 x:=by rw [X7]; simp [Sgn.text]
 obtain⟨a1,sA,sB⟩:=w0y (s1:= .no) (s2:= .no) okA okB h1 h1 hr hr rfl (fun K L _=>by
  rw [k1a,k1a,List.cons_append,List.cons_append,a1s,a1s])
 obtain⟨a2,_,sC⟩:=w0y (s1:= .no) (s2:= .plus) okA okC h1 h2 hr hr rfl (fun K L hK=>by
  rw [k1a,k1a,← List.append_assoc,P4 (A++B) [48,48,48],show dcN [48,48,48] =0 by decide,Nat.add_zero,lH hK,List.length_append]
  congr 1
  show x- (B.length:Int)=x- ((B.length+3:Nat):Int)+((3:Nat):Int)
  omega)
 obtain⟨a3,_,sD⟩:=w0y (s1:= .no) (s2:= .no) okA okD h1 h2 hr hr1 rfl (fun K L _=>by
  rw [k1a,k1a,hbq,List.append_assoc,List.singleton_append,List.length_cons]
  congr 1
  omega)
 obtain⟨a4,sE,sF⟩:=w0y (s1:= .no) (s2:= .no) okE okF h1 h1 hr hr rfl (fun K L _=>v1j (by
  show dcN A=dcN (A++[])
  rw [List.append_nil]) rfl)
 obtain⟨a5,sG,sH⟩:=w0y (s1:= .no) (s2:= .no) okG okH h1 h1 hr hr rfl (fun K L _=>by
  rw [k1a,k1a,List.singleton_append,a1s,List.nil_append])
 rw [← eA,← eB] at a1
 rw [← eA,← eC] at a2
 rw [← eA,← eD] at a3
 rw [← eE,← eF] at a4
 rw [← eG,← eH] at a5
 refine⟨?_,?_,⟨by rw [eG]; exact sG,by rw [eH]; exact sH⟩,⟨by rw [eE]; exact sE,by rw [eF]; exact sF⟩,by rw [eA]; exact sA,by rw [eD]; exact sD,by rw [eC]; exact sC,by rw [eB]; exact sB⟩
 ·unfold nmQ
  rw [a1,a2,a3,a4,a5]
  rfl
 ·obtain⟨p1,p2⟩:=cT (s:= .no) okA h1 hr
  obtain⟨q1,q2⟩:=cT (s:= .minus) okA h1 hr
  rw [← eA] at p1 p2
  rw [← eN] at q1 q2
  have hn:T9 (nmA A B (z7 x))=(nmA A B (z7 x)).length:=by
   have:=(c0l okA h1 (x:=x) ⟨by omega,by omega⟩).2.2.2
   rw [eA]
   exact this
  have z1:∀ v w:Nat,(if Sgn.no.neg=true then v else w)=w:=fun _ _=>rfl
  have z2:∀ v w:Nat,(if Sgn.minus.neg=true then v else w)=v:=fun _ _=>rfl
  rw [z1] at p2
  rw [z2] at q2
  unfold nm5 nm4 nm3 nm2 nm1 nmT
  rw [hn,p1,q1,p2,q2]
  by_cases hi:9218868437227405312≤txW 53 (-1074) (mP A B) x
  ·rw [if_pos hi,if_pos hi,if_pos hi,a2z,beq_self_eq_true,beq_self_eq_true]
   rfl
  ·rw [if_neg hi,if_neg hi,if_neg hi,n1q (by omega),beq_self_eq_true,beq_self_eq_true,beq_self_eq_true]
   rfl
end
theorem o1a (x:Int):(z7 x).length≤x.natAbs+2:=by
 unfold z7
 split
 ·have:=M0 (-x).toNat
  rw [List.length_cons]
  omega
 ·have:=M0 x.toNat
  omega
theorem E5 {p q:List UInt8} (h:p.length+q.length≤9223372036854775807):cc p q:=h
section
variable {F G:Nat→Int} {n o m p:Nat} {e:Int} (ha:e0k)
include ha
theorem qJ (hF:∀ i,i < n→0≤F i∧F i < 256) (hG:∀ i,i < m→0≤G i∧G i < 256) (he: -9223372036854775808≤e∧e≤9223372036854775807):
  Ev.Sem Tryz.prog J0 5 (nmZ F G n o m p e) [.c (.v (.bool true))] :=by
 obtain⟨a1,a2,a3⟩:=r0v (q0b F (min n 60)) 60 (by rw [uZ]; exact Nat.min_le_right _ _) (by decide)
 obtain⟨b1,b2,b3⟩:=r0v (q0b G (min m 60)) 60 (by rw [uZ]; exact Nat.min_le_right _ _) (by decide)
 have hW:=s1v F G n o m p e true
 have hx:=c0h e 400
 have hT:=h1d e 400 (by decide)
 generalize dgT (dgs F (min n 60))=A at*
 generalize dgT (dgs G (min m 60))=B at*
 have hX: -100000000 < nmX (z7 (xpV e 400))∧nmX (z7 (xpV e 400)) < 100000000:=by
  have:nmX (z7 (xpV e 400))=xpV e 400-1:=by
   unfold nmX
   rw [a1v ⟨by omega,by omega⟩]
   exact wr (by omega) (by omega)
  rw [this]
  omega
 have hL:(z7 (nmX (z7 (xpV e 400)))).length≤200000001:=Nat.le_trans (o1a _) (by omega)
 obtain⟨s1,s2,s3,s4,sA,sD,sC,sB⟩:=d1t a1 b1 a2 b2 a3 b3 (x:=xpV e 400) ⟨by omega,by omega⟩
 have hB0:(0:Int)≤1∧(1:Int)≤(B.length:Int):=by
  have:=List.length_pos_iff.2 b2
  omega
 have hD:d5 [w1r (fun i=> .int .u8 (G i)) p p m m 60,w1r (fun i=> .int .u8 (F i)) o o n n 60] :=⟨⟨rfl,rfl,rfl,⟨by decide,by decide⟩,hG⟩,⟨rfl,rfl,rfl,⟨by decide,by decide⟩,hF⟩,trivial⟩
 have ht:(B.take 1).length≤1:=by rw [List.length_take]; omega
 have hd:(B.drop 1).length≤60:=by rw [List.length_drop]; omega
 refine d9 (q1t ha) 10 [] [false] hW (ap2 ?_ ⟨by rw [s2],trivial⟩)
 generalize hU:z7 (nmX (z7 (xpV e 400)))=U at*
 generalize z7 (xpV e 400)=T at*
 have l1:(nmS A B).length≤200:=by simp only [nmS,List.length_append,List.length_cons,List.length_nil]; omega
 have l2:(nmM A B).length≤200:=by simp only [nmM,List.length_append,List.length_cons,List.length_nil]; omega
 have c1:cc (nmS A B) T:=E5 (by omega)
 refine⟨fun _=>c1,fun _=> ?_,fun _=>c1,E5 ?_,E5 ?_,c1,s1,s3,E5 ?_,E5 ?_,E5 ?_,E5 ?_,E5 ?_,E5 ?_,s4,E5 ?_,E5 ?_,E5 ?_,E5 ?_,⟨sA,sD⟩,E5 ?_,hX,c1,⟨sA,sC⟩,E5 ?_,E5 ?_,E5 ?_,E5 ?_,E5 ?_,c1,⟨sA,sB⟩,E5 ?_,E5 ?_,c1,E5 ?_,E5 ?_,hB0,E5 ?_,E5 ?_,hB0,E5 ?_,E5 ?_,E5 ?_,?_,⟨he,by decide,by decide⟩,hD⟩ <;> first | omega | (simp only [nmA,List.length_append,List.length_cons,List.length_nil,hU]; omega)
end
end Go.Proofs.YtdgfhijnconaoaaGreatDoor
namespace Go.Proofs.YtdgfhijnconaoaaGreatDoor
open Go Go.RowKit Ev Wd
def inW (x:Int):Bool:=match x with
 | .ofNat n=>Nat.blt n 18446744073709551616
 | .negSucc _=>false
theorem bX {x:Int} (h:inW x=true):0≤x∧x < 18446744073709551616:=by
 unfold inW at h
 split at h
 ·simp only [Nat.blt_eq] at h
  constructor <;> simp <;> omega
 ·cases h
def t0o:List Value→Option (Value×List Prop)
 | [.int .u64 x, .int .u64 y] =>match inW x,inW y with
  | true,true=>some (.tuple ⟨[.int .u64 (Int.ofNat (x.toNat*y.toNat/18446744073709551616)), .int .u64 (Int.ofNat (x.toNat*y.toNat%18446744073709551616))]⟩,[])
  | _,_=>none
 | _=>none
def t0u:List Value→Option (Value×List Prop)
 | [.int .u64 hi, .int .u64 lo, .int .u64 y] =>match inW hi,inW lo,inW y,Nat.blt hi.toNat y.toNat with
  | true,true,true,true=>some (.tuple ⟨[.int .u64 (Int.ofNat ((hi.toNat*18446744073709551616+lo.toNat)/y.toNat)), .int .u64 (Int.ofNat ((hi.toNat*18446744073709551616+lo.toNat)%y.toNat))]⟩,[])
  | _,_,_,_=>none
 | _=>none
theorem t0e (args:List Value) (v:Value) (l:List Prop) (h:t0o args=some (v,l)) (_:d5 l):Pure Tryz.prog J0 145 args v:=by
 unfold t0o at h
 split at h
 case h_2=>cases h
 rename_i x y
 split at h
 case h_2=>cases h
 rename_i hx hy
 cases h
 have hx:=bX hx
 have hy:=bX hy
 have:=gP [.int .u64 x, .int .u64 y] _ _ rfl ⟨⟨hx,hy⟩,trivial⟩
 exact this
theorem t0l (args:List Value) (v:Value) (l:List Prop) (h:t0u args=some (v,l)) (_:d5 l):Pure Tryz.prog J0 196 args v:=by
 unfold t0u at h
 split at h
 case h_2=>cases h
 rename_i hi lo y
 split at h
 case h_2=>cases h
 rename_i h1 h2 h3 h4
 cases h
 have h1:=bX h1
 have h2:=bX h2
 have h3:=bX h3
 simp only [Nat.blt_eq] at h4
 have:=gV [.int .u64 hi, .int .u64 lo, .int .u64 y] _ _ rfl ⟨⟨⟨h1.1,by omega⟩,h2,h3.2⟩,trivial⟩
 exact this
noncomputable def m0w:Tab:=i6 145 t0o (i6 196 t0u x1d)
theorem dJ:N1 Tryz.prog J0 m0w:=b6 t0e (b6 t0l c1p)
noncomputable def bT1:Base:=⟨Tryz.prog,J0,true,m0w,C4,2000,H8⟩
theorem y6:BaseOk bT1:=⟨progOk,dJ,m6 _ _,i7⟩
end Go.Proofs.YtdgfhijnconaoaaGreatDoor
