/-
 NumberBack: the whole text, the short text, the hexadecimal text and seventeen figures of any number are read as just that number; nine figures of a single are read as that single. No condition.
-/
import Derived.Test.YtbdaebagmmmijaaGreatDoorB1x05
set_option maxRecDepth 1000000
open Nat renaming beq->zO0
open Int renaming ofNat->zO2
open Go.Value renaming int->zO3,float->zO4,bool->zO8
open List renaming replicate->zO6
open Go.Proofs.Tryz renaming prog->zO7
open BitVec renaming ofInt->zO10
open Go.Lib renaming decDigits->zO11
open Go.IntKind renaming i64->iI,u64->uI,u32->uJ
noncomputable section
namespace Go.Proofs.YtbdaebagmmmijaaGreatDoor
open Go Go.RowKit Ev Wd
def cI (c:UInt8):Int:=zO2 c.toNat
def mgt (b:Int):List UInt8->Nat->Int->Int×Nat
 | [],k,p=>(p,k)
 | c ::r,k,p=>if t7 (cI c) < b then mgt b r (k+1) p else if c=46∧p < 0 then mgt b r (k+1) k else (p,k)
theorem dO {t:List UInt8} {k:Nat} {c:UInt8} {r:List UInt8} (h:t.drop k=c ::r):chI t (k:Int)=cI c∧t.drop (k+1)=r∧k < t.length:=by
 have hk:k < t.length:=by
  rcases E0 k t.length with h1 | h1
  ·exact h1
  ·rw [List.drop_eq_nil_of_le h1] at h
   cases h
 rw [o1u hk] at h
 injection h with h1 h2
 refine⟨?_,h2,hk⟩
 rw [r0b hk,h1]
 rfl
theorem j0d (t:List UInt8) (b:Int):∀ (s:List UInt8) (k:Nat) (p:Int),t.drop k=s->mR t b s.length k p=mgt b s k p
 | [],k,p,_=>rfl
 | c ::r,k,p,h=>by
  obtain⟨h1,h2,h3⟩:=dO h
  rw [u6]
  unfold mR mgt
  have hd:w1h t k p=decide (c=46∧p < 0):=by
   unfold w1h
   rw [h1]
   unfold cI
   by_cases hc:c=46
   ·subst hc
    show decide (p < 0)=_
    refine zzA163.2 ⟨fun h=>⟨rfl,h⟩,fun h=>h.2⟩
   ·have:((zO2 c.toNat)==46)=false:=by
     refine x8 fun e=>hc ?_
     have e:((c.toNat:Nat):Int)=46:=e
     exact zzA132.1 (show c.toNat=46 by omega)
    rw [this]
    exact (b8 fun h=>hc h.1).symm
  rw [h1,hd,j0d t b r (k+1) p h2,j0d t b r (k+1) k h2]
  simp only [aO]
theorem sN {c:UInt8} (h:48<=c.toNat∧c.toNat<=57):t7 (cI c)=((c.toNat-48:Nat):Int):=by
 unfold t7 cI
 rw [b9 ⟨by show (48:Int)<=((c.toNat:Nat):Int); omega,by show ((c.toNat:Nat):Int)<=57; omega⟩]
 show ((c.toNat:Nat):Int)-48=_
 omega
theorem M1:∀ (d:List UInt8) (r:List UInt8) (k:Nat) (p:Int),n8 d=true->mgt 10 (d++r) k p=mgt 10 r (k+d.length) p
 | [],r,k,p,_=>rfl
 | c ::d,r,k,p,h=>by
  obtain⟨h1,h2⟩:=W7 h
  rw [dF]
  conv=>lhs; unfold mgt
  rw [b9 (by rw [sN h1]; omega),M1 d r (k+1) p h2,u6,show k+1+d.length=k+(d.length+1) by omega]
theorem d1k (r:List UInt8) (k:Nat):mgt 10 (46 ::r) k (-1)=mgt 10 r (k+1) k:=by
 conv=>lhs; unfold mgt
 rw [a6 (by decide),b9 ⟨rfl,by decide⟩]
theorem w0d {c:UInt8} (hc:c=101∨c=69) (r:List UInt8) (k:Nat) (p:Int):mgt 10 (c ::r) k p=(p,k):=by
 conv=>lhs; unfold mgt
 rcases hc with rfl | rfl
 ·rw [a6 (by decide),a6 (fun h=>absurd h.1 (by decide))]
 ·rw [a6 (by decide),a6 (fun h=>absurd h.1 (by decide))]
def egt:List UInt8->Nat->Int->Int×Nat
 | [],k,n=>(n,k)
 | c ::r,k,n=>if t7 (cI c) < 10 then egt r (k+1) (nxP n (t7 (cI c))) else (n,k)
theorem x1x (t:List UInt8):∀ (s:List UInt8) (k:Nat) (n:Int),t.drop k=s->n0f t s.length k n=egt s k n
 | [],k,n,_=>rfl
 | c ::r,k,n,h=>by
  obtain⟨h1,h2,h3⟩:=dO h
  rw [u6]
  unfold n0f egt
  rw [h1,x1x t r (k+1) _ h2]
theorem zZ:∀ (d:List UInt8) (k m:Nat),n8 d=true->m*10 ^d.length+dcN d < 1073741824->egt d k (m:Int)=(((m*10 ^d.length+dcN d:Nat):Int),k+d.length)
 | [],k,m,_,_=>by
  show ((m:Int),k)=(((m*1+0:Nat):Int),k+0)
  rw [s4,E4]
  rfl
 | c ::d,k,m,h,hb=>by
  obtain⟨h1,h2⟩:=W7 h
  have e0:m*10 ^(c ::d).length+dcN (c ::d)=(m*10+(c.toNat-48))*10 ^d.length+dcN d:=by
   rw [aH,u6,p9,u4,f9 m 10,n4 10,<- s1i]
  have hlt:m*10+(c.toNat-48) < 1073741824:=by
   rw [e0] at hb
   have:(m*10+(c.toNat-48))*1<=(m*10+(c.toNat-48))*10 ^d.length:=Y4 _ (p7 (by decide))
   omega
  conv=>lhs; unfold egt
  have hw:=sN h1
  rw [b9 (by rw [hw]; omega)]
  have hn:nxP (m:Int) (t7 (cI c))=((m*10+(c.toNat-48):Nat):Int):=by
   unfold nxP
   rw [hw,b9 (by omega)]
   omega
  rw [hn,zZ d (k+1) _ h2 (by rw [<- e0]; exact hb),e0,u6,show k+1+d.length=k+(d.length+1) by omega]
theorem g0j {n:Nat} (h:n < 10):(dgU n).toNat=48+n:=by
 unfold dgU
 rw [UInt8.toNat_ofNat']
 exact H3 (by show _ < 256; omega)
theorem cK {a b:List UInt8} (h1:n8 a=true) (h2:n8 b=true):n8 (a++b)=true:=
 allDB_mem.2 fun c hc=>by
  rcases zzA92.1 hc with h | h
  ·exact allDB_mem.1 h1 c h
  ·exact allDB_mem.1 h2 c h
theorem cY:∀ n:Nat,n8 (zD n)=true∧dcN (zD n)=n∧zD n≠[]
 | n=>by
  rw [p1a]
  by_cases h:n < 10
  ·rw [b9 h]
   refine⟨allDB_mem.2 fun b hb=> ?_,?_,List.cons_ne_nil _ _⟩
   ·rw [zzA130.1 hb,g0j h]
    omega
   ·rw [aH,g0j h]
    show (48+n-48)*1+0=n
    omega
  ·rw [a6 h]
   obtain⟨h1,h2,_⟩:=cY (n/10)
   have hm:n%10 < 10:=B0 _ (by decide)
   refine⟨cK h1 (allDB_mem.2 fun b hb=> ?_),?_,by simp⟩
   ·rw [zzA130.1 hb,g0j hm]
    omega
   ·rw [F3,h2,aH,g0j hm]
    show n/10*10 ^1+((48+n%10-48)*1+0)=n
    omega
theorem j2o {t:List UInt8} {k:Nat} {c:UInt8} {r:List UInt8} (h:t.drop k=c ::r):sgB t (k:Int)=decide (c=43∨c=45)∧(chI t (k:Int)==45)=decide (c=45):=by
 obtain⟨h1,_,h3⟩:=dO h
 have q:∀ n:UInt8,((cI c)==cI n)=decide (c=n):=by
  intro n
  by_cases hc:c=n
  ·rw [hc,d4 rfl]
   exact jG _
  ·rw [b8 hc]
   refine x8 fun e=>hc ?_
   have e:((c.toNat:Nat):Int)=((n.toNat:Nat):Int):=e
   exact zzA132.1 (by omega)
 have q45:=q 45
 have q43:=q 43
 refine⟨?_,by rw [h1]; exact q45⟩
 unfold sgB
 rw [show ltE t (k:Int)=true from d4 (by omega),h1]
 have e43:(cI c==43)=decide (c=43):=q43
 have e45:(cI c==45)=decide (c=45):=q45
 show (match cI c==43 with | true=>true | false=>cI c==45)=_
 rw [e43,e45]
 by_cases h43:c=43
 ·rw [d4 h43,d4 (Or.inl h43)]
 ·rw [b8 h43]
  refine zzA163.2 ⟨Or.inr,fun h=>h.resolve_left h43⟩
theorem o1j (n:Nat):∃ c r,zD n=c ::r∧48<=c.toNat∧c.toNat<=57:=by
 obtain⟨h1,_,h3⟩:=cY n
 cases h:zD n with
 | nil=>exact absurd h h3
 | cons c r=>exact⟨c,r,rfl,allDB_mem.1 h1 c (by rw [h]; exact X5)⟩
theorem z1x {t:List UInt8} {a k m:Nat} (hk:exK t a=k) (h:t.drop k=zD m) (hm:m < 1000000):(exR t a)=((m:Int),t.length)∧k < t.length:=by
 obtain⟨h1,h2,h3⟩:=cY m
 have hlen:t.length-k=(zD m).length:=by rw [<- h,D5]
 have hpos:0 < (zD m).length:=zzA214.2 h3
 unfold exR
 rw [hk,hlen,x1x t (zD m) k 0 h]
 have:=zZ (zD m) k 0 h1 (by rw [h2]; omega)
 rw [h2,C0,Q6] at this
 refine⟨?_,by omega⟩
 rw [show k+(zD m).length=t.length by omega] at this
 exact this
theorem u0g {u L:List UInt8} {c:UInt8} {x:Int} (hc:r2k L [c] =true) (hu:u.length<=1000000) (hx: -1000000 < x∧x < 1000000):exV (u++c ::V9 x) L u.length=x∧exE (u++c ::V9 x) L u.length=(u++c ::V9 x).length:=by
 have hd0:(u++c ::V9 x).drop u.length=c ::V9 x:=by rw [List.drop_left]
 have hd1:(u++c ::V9 x).drop (u.length+1)=V9 x:=(dO hd0).2.1
 have hlt0:=(dO hd0).2.2
 have htk:(u++c ::V9 x).take (u.length+1)=u++[c] :=by
  rw [show u++c ::V9 x=(u++[c])++V9 x by simp]
  exact List.take_left' (by simp)
 generalize u++c ::V9 x=t at*
 have hhd:hdB t L (u.length:Int)=false:=by
  unfold hdB
  rw [show geB t (u.length:Int)=false from b8 (by omega)]
  have hs:t2s t (u.length:Int)=[c] :=by
   unfold t2s
   rw [wr (by omega) (by omega),i8,show (((u.length:Nat):Int)+1).toNat=u.length+1 by omega,htk,List.drop_left]
  rw [hs,hc]
  rfl
 have hh:¬hdB t L (u.length:Int)=true:=by rw [hhd]; decide
 have V:¬(exR t u.length).2=exK t u.length->exV t L u.length=if exN t u.length=true then -(exR t u.length).1 else (exR t u.length).1:=fun hne=>by unfold exV; rw [a6 hh,a6 hne]
 have E:¬(exR t u.length).2=exK t u.length->exE t L u.length=(exR t u.length).2:=fun hne=>by unfold exE; rw [a6 hh,a6 hne]
 by_cases h0:x < 0
 ·have e1:V9 x=45 ::zD (-x).toNat:=by unfold V9; rw [b9 h0]
  rw [e1] at hd1
  obtain⟨s1,s2⟩:=j2o hd1
  have hk:exK t u.length=u.length+2:=by unfold exK; rw [b9 (by rw [s1]; decide)]
  obtain⟨g1,g2⟩:=z1x (m:=(-x).toNat) hk (dO hd1).2.1 (by omega)
  have hn:exN t u.length=true:=by
   unfold exN
   rw [s1,s2]
   decide
  rw [g1,hk] at V E
  have hne:¬t.length=u.length+2:=by omega
  refine⟨?_,E hne⟩
  rw [V hne,b9 hn]
  show -(((-x).toNat:Nat):Int)=x
  omega
 ·have e1:V9 x=zD x.toNat:=by unfold V9; rw [a6 h0]
  rw [e1] at hd1
  obtain⟨q,r,hq,q1,q2⟩:=o1j x.toNat
  have hd2:=hd1
  rw [hq] at hd2
  obtain⟨s1,s2⟩:=j2o hd2
  have n1:¬(q=43∨q=45):=by
   rintro (h | h)
   ·rw [h] at q1; exact absurd q1 (by decide)
   ·rw [h] at q1; exact absurd q1 (by decide)
  have hsg:sgB t ((u.length+1:Nat):Int)=false:=by rw [s1]; exact b8 n1
  have hk:exK t u.length=u.length+1:=by unfold exK; rw [a6 (by rw [hsg]; decide)]
  obtain⟨g1,g2⟩:=z1x (m:=x.toNat) hk hd1 (by omega)
  have hn:exN t u.length=false:=by
   unfold exN
   rw [hsg]
   rfl
  rw [g1,hk] at V E
  have hne:¬t.length=u.length+1:=by omega
  refine⟨?_,E hne⟩
  rw [V hne,a6 (by rw [hn]; decide)]
  show ((x.toNat:Nat):Int)=x
  omega
theorem b2l {u:List UInt8} {c:UInt8} {x:Int} (hc:c=101∨c=69) (hu:u.length<=1000000) (hx: -1000000 < x∧x < 1000000):exV (u++c ::V9 x) eE u.length=x∧exE (u++c ::V9 x) eE u.length=(u++c ::V9 x).length:=u0g (by rcases hc with rfl | rfl <;> decide) hu hx
structure Mant where
 d1:List UInt8
 d2:List UInt8
 pt:Bool
def Mant.text (m:Mant):List UInt8:=if m.pt=true then m.d1++46 ::m.d2 else m.d1
def Mant.digs (m:Mant):List UInt8:=if m.pt=true then m.d1++m.d2 else m.d1
def Mant.beh (m:Mant):Nat:=if m.pt=true then m.d2.length else 0
def Mant.ok (m:Mant):Prop:=n8 m.d1=true∧n8 m.d2=true∧m.digs≠[] ∧m.text.length<=4000
theorem Mant.run (m:Mant) (h:m.ok) {c:UInt8} (hc:c=101∨c=69) (r:List UInt8):mgt 10 (m.text++c ::r) 0 (-1)=(if m.pt=true then (m.d1.length:Int) else -1,m.text.length):=by
 obtain⟨h1,h2,_,_⟩:=h
 obtain⟨d1,d2,pt⟩:=m
 cases pt with
 | true=>
  show mgt 10 ((d1++46 ::d2)++c ::r) 0 (-1)=((d1.length:Int),(d1++46 ::d2).length)
  rw [uN,M1 d1 _ 0 (-1) h1,Q6,dF,d1k,M1 d2 _ _ _ h2,w0d hc,s9,u6]
  congr 1
  omega
 | false=>
  show mgt 10 (d1++c ::r) 0 (-1)=(-1,d1.length)
  rw [M1 d1 _ 0 (-1) h1,w0d hc,Q6]
theorem x2b {t:List UInt8} (h:∀ c∈t,c≠120∧c≠88):hxB t=false:=by
 unfold hxB
 cases h0B t with
 | false=>rfl
 | true=>
  have q:∀ n:UInt8,n≠0->(∀ c∈t,c≠n)->(chI t 1==cI n)=false:=by
   intro n hn hne
   refine x8 fun e=> ?_
   have e:(((t.getD 1 0).toNat:Nat):Int)=((n.toNat:Nat):Int):=e
   have e2:t.getD 1 0=n:=zzA132.1 (by omega)
   rw [pZ] at e2
   cases hg:t[1]? with
   | none=>rw [hg] at e2; exact hn e2.symm
   | some c=>
    rw [hg] at e2
    exact hne c (List.mem_of_getElem? hg) e2
  have q1:=q 120 (by decide) fun c hc=>(h c hc).1
  have q2:=q 88 (by decide) fun c hc=>(h c hc).2
  show (match chI t 1==cI 120 with | true=>true | false=>chI t 1==cI 88)=false
  rw [q1,q2]
theorem eG {m:Mant} (h:m.ok) {c:UInt8} (hc:c∈m.text):(48<=c.toNat∧c.toNat<=57)∨c=46:=by
 obtain⟨h1,h2,_,_⟩:=h
 unfold Mant.text at hc
 split at hc
 ·rcases zzA92.1 hc with h | h
  ·exact .inl (allDB_mem.1 h1 c h)
  ·rcases zzA84.1 h with h | h
   ·exact .inr h
   ·exact .inl (allDB_mem.1 h2 c h)
 ·exact .inl (allDB_mem.1 h1 c hc)
theorem s1u {x:Int} {c:UInt8} (hc:c∈V9 x):(48<=c.toNat∧c.toNat<=57)∨c=45:=by
 unfold V9 at hc
 split at hc
 ·rcases zzA84.1 hc with h | h
  ·exact .inr h
  ·exact .inl (allDB_mem.1 (cY _).1 c h)
 ·exact .inl (allDB_mem.1 (cY _).1 c hc)
def lP (m:Mant) (c:UInt8) (x:Int):List UInt8:=m.text++c ::V9 x
theorem s1q {m:Mant} {e:UInt8} {x:Int} (h:m.ok) (he:e=101∨e=69) {c:UInt8} (hc:c∈lP m e x):((48<=c.toNat∧c.toNat<=57)∨c=46)∨c=101∨c=69∨c=45:=by
 rcases zzA92.1 hc with h1 | h1
 ·exact .inl (eG h h1)
 ·rcases zzA84.1 h1 with h2 | h2
  ·rcases he with rfl | rfl
   ·exact .inr (.inl h2)
   ·exact .inr (.inr (.inl h2))
  ·rcases s1u h2 with h3 | h3
   ·exact .inl (.inl h3)
   ·exact .inr (.inr (.inr h3))
theorem i1a {m:Mant} {c:UInt8} {x:Int} (h:m.ok) (hc:c=101∨c=69) (hx: -1000000 < x∧x < 1000000):
  M3 (lP m c x)=false∧aF (lP m c x)=m.digs∧eO (lP m c x)=x- (m.beh:Int)∧fA (lP m c x)=(lP m c x).length:=by
 have hxb:hxB (lP m c x)=false:=x2b fun b hb=>by
  have key:∀ n:UInt8,((48<=n.toNat∧n.toNat<=57)∨n=46)∨n=101∨n=69∨n=45->n≠120∧n≠88:=by
   intro n hn
   refine⟨fun e=> ?_,fun e=> ?_⟩
   ·subst e; revert hn; decide
   ·subst e; revert hn; decide
  exact key b (s1q h hc hb)
 have hH:M3 (lP m c x)=false:=by unfold M3; rw [hxb]; rfl
 have hrun:=Mant.run m h hc (V9 x)
 have hgo:mR (lP m c x) 10 ((lP m c x).length-0) 0 (-1)=(if m.pt=true then (m.d1.length:Int) else -1,m.text.length):=by
  rw [y0t,j0d (lP m c x) 10 (lP m c x) 0 (-1) rfl]
  exact hrun
 have hP:maP (lP m c x) 0 10=if m.pt=true then (m.d1.length:Int) else -1:=by unfold maP; rw [hgo]
 have hE:maE (lP m c x) 0 10=m.text.length:=by unfold maE; rw [hgo]
 have hS:maS (lP m c x) 0 10=m.digs:=by
  unfold maS Mant.digs
  have htk:(lP m c x).take m.text.length=m.text:=fM
  cases hp:m.pt with
  | false=>
   rw [hp,a6 (by decide)] at hP
   rw [hP,hE,htk,b9 (by decide),a6 (by decide),sS]
   unfold Mant.text
   rw [hp,a6 (by decide)]
  | true=>
   rw [hp,b9 rfl] at hP
   rw [hP,hE,htk,a6 (by omega),b9 rfl,i8,sS]
   have e1:m.text=m.d1++46 ::m.d2:=by unfold Mant.text; rw [hp,b9 rfl]
   have e2:(lP m c x).take m.d1.length=m.d1:=by
    unfold lP
    rw [e1,uN]
    exact fM
   rw [e2,e1,show m.d1++46 ::m.d2=(m.d1++[46])++m.d2 by simp]
   congr 1
   exact List.drop_left' (by simp)
 have hB:maB (lP m c x) 0 10=(m.beh:Int):=by
  unfold maB Mant.beh
  cases hp:m.pt with
  | false=>
   rw [hp,a6 (by decide)] at hP
   rw [hP,b9 (by decide),a6 (by decide)]
   rfl
  | true=>
   rw [hp,b9 rfl] at hP
   rw [hP,hE,a6 (by omega),b9 rfl]
   have e1:m.text=m.d1++46 ::m.d2:=by unfold Mant.text; rw [hp,b9 rfl]
   rw [e1,s9,u6]
   omega
 obtain⟨r1,r2⟩:=b2l (u:=m.text) hc (by have:=h.2.2.2; omega) hx
 have hne:¬m.digs=[] :=h.2.2.1
 refine⟨hH,?_,?_,?_⟩
 ·unfold aF
  rw [a6 (by rw [hH]; decide)]
  exact hS
 ·unfold eO
  rw [a6 (by rw [hH]; decide),hS,a6 hne,hE,hB]
  have r1:exV (lP m c x) eE m.text.length=x:=r1
  rw [r1]
 ·unfold fA
  rw [a6 (by rw [hH]; decide),hS,a6 hne,hE]
  exact r2
theorem p1z {m:Mant} {c:UInt8} {x:Int} (h:m.ok) (hx: -1000 < x∧x < 1000):(lP m c x).length<=5010:=by
 have h1:=h.2.2.2
 have h2:(V9 x).length<=1002:=by
  unfold V9
  split
  ·have:=w0z (-x).toNat
   rw [u6]
   omega
  ·have:=w0z x.toNat
   omega
 unfold lP
 rw [s9,u6]
 omega
theorem o1y {m:Mant} {c:UInt8} {x:Int} (h:m.ok):∃ b r,lP m c x=b ::r∧((48<=b.toNat∧b.toNat<=57)∨b=46):=by
 cases ht:m.text with
 | nil=>
  exfalso
  apply h.2.2.1
  unfold Mant.text at ht
  unfold Mant.digs
  split at ht
  ·exact absurd ht (by simp)
  ·rename_i hp
   rw [a6 hp]
   exact ht
 | cons b r=>
  refine⟨b,r++c ::V9 x,?_,eG h (by rw [ht]; exact X5)⟩
  unfold lP
  rw [ht]
  rfl
inductive Sgn where
 | no
 | plus
 | minus
def Sgn.text:Sgn->List UInt8
 | .no=>[]
 | .plus=>[43]
 | .minus=>[45]
def Sgn.neg:Sgn->Bool
 | .minus=>true
 | _=>false
open Go Go.RowKit Ev Wd VaS
theorem k1t {t u:List UInt8} {b c:UInt8} {r q:List UInt8} (h1:t=b ::r) (h2:u=c ::q) (hn:b≠c):(t==u)=false:=by
 subst h1 h2
 refine x8 fun e=>hn ?_
 injection e
section
variable {s:Sgn} {m:Mant} {c:UInt8} {x:Int} (h:m.ok) (hc:c=101∨c=69) (hx: -1000 < x∧x < 1000)
include h hc hx
end
theorem r0q {m:Mant} (h:m.ok):n8 m.digs=true∧m.digs.length<=4000∧m.beh<=4000:=by
 obtain⟨h1,h2,_,h4⟩:=h
 unfold Mant.digs Mant.beh
 unfold Mant.text at h4
 split
 ·rename_i hp
  rw [b9 hp,s9,u6] at h4
  exact⟨cK h1 h2,by rw [s9]; omega,by omega⟩
 ·rename_i hp
  rw [a6 hp] at h4
  exact⟨h1,h4,by omega⟩
theorem z0y {W:Nat} (h:¬9218868437227405312<=W):min W 9218868437227405312=W:=B2 (by omega)
structure Bt (t:List UInt8) (h:Bool) (d:List UInt8) (x:Int):Prop where
 H:M3 t=h
 S:aF t=d
 X:eO t=x
 N:fA t=t.length
 head:∃ b r,t=b ::r∧((48<=b.toNat∧b.toNat<=57)∨b=46)
 len:t.length<=8000
theorem q1a {s:Sgn} {t d:List UInt8} {h:Bool} {x:Int} (k:Bt t h d x):wA (s.text++t)=s.neg∧y7 (s.text++t)=t:=by
 obtain⟨b,r,hb,hr⟩:=k.head
 unfold wA y7 spB neB
 cases s with
 | no=>
  have n45:∀ n:UInt8,((48<=n.toNat∧n.toNat<=57)∨n=46)->(((n.toNat:Nat):Int)==45)=false∧(((n.toNat:Nat):Int)==43)=false:=by
   intro n hn
   have hn:(48<=n.toNat∧n.toNat<=57)∨n.toNat=46:=hn.imp id fun e=>by rw [e]; rfl
   exact⟨x8 (by omega),x8 (by omega)⟩
  obtain⟨q1,q2⟩:=n45 b hr
  show ((match !(t==[]) with | true=>(match chI t 0==45 with | true=>true | false=>chI t 0==43) | false=>false) && _)=false∧(if (match !(t==[]) with | true=>(match chI t 0==45 with | true=>true | false=>chI t 0==43) | false=>false)=true then _ else t)=_
  have e0:chI t 0=((b.toNat:Nat):Int):=by rw [hb]; rfl
  have e1:(t==[])=false:=by rw [hb]; rfl
  rw [e0,e1,q1,q2]
  exact⟨rfl,rfl⟩
 | plus=>exact⟨rfl,rfl⟩
 | minus=>exact⟨rfl,rfl⟩
section
variable {s:Sgn} {t d:List UInt8} {h:Bool} {x:Int} (k:Bt t h d x)
include k
theorem i1o:rdE (s.text++t)=0∧rdI (s.text++t)=false∧rdN (s.text++t)=s.neg∧n0d (s.text++t)=h∧n0b (s.text++t)=d∧n0i (s.text++t)=x:=by
 obtain⟨g1,g2⟩:=q1a (s:=s) k
 obtain⟨r1,r2,r3,r4,⟨b,r,hb,hr⟩,hlen⟩:=k
 have hsl:s.text.length<=1:=by cases s <;> decide
 have hL:rdL (s.text++t)=false:=by
  unfold rdL
  rw [s9]
  exact b8 (by show ¬((8192:Int) < ((s.text.length+t.length:Nat):Int)); omega)
 have hbn:∀ n:UInt8,n.toNat=78∨n.toNat=73->b≠n:=by
  intro n hn e
  rw [<- e] at hn
  rcases hr with hr | hr
  ·omega
  ·rw [hr] at hn; revert hn; decide
 have hF:rdF (s.text++t)=false:=by
  unfold rdF
  cases s with
  | no=>exact k1t (c:=78) (q:=[97,78]) (show [] ++t=b ::r from hb) rfl (hbn 78 (.inl rfl))
  | plus=>rfl
  | minus=>rfl
 have hG:rdG (s.text++t)=false:=by
  unfold rdG
  rw [g2]
  exact k1t (c:=73) (q:=[110,102]) hb rfl (hbn 73 (.inr rfl))
 have hP:rdP (s.text++t)=true:=by unfold rdP; rw [hL,hF,hG]; rfl
 have hpos:0 < t.length:=by rw [hb]; exact Nat.zero_lt_succ _
 have hNo:e2c (s.text++t)=false:=by
  unfold e2c
  rw [g2,r4]
  have e1:(((t.length:Nat):Int)==0)=false:=x8 (by omega)
  rw [e1]
  simp
 have hOk:q2n (s.text++t)=true:=by unfold q2n; rw [hP,hNo]; rfl
 refine⟨?_,?_,?_,?_,?_,?_⟩
 ·unfold rdE; rw [hL,hP,hNo]; rfl
 ·unfold rdI; rw [hL,hF,hG]; rfl
 ·unfold rdN; rw [hOk,g1]; rfl
 ·unfold n0d; rw [hP,g2,r1]; rfl
 ·unfold n0b; rw [hP,g2,r2]; rfl
 ·unfold n0i; rw [hP,g2,r3]; rfl
theorem v0z {W:Nat} (hW:nrW h d x=min W 9218868437227405312) (hZ:nrE h d x=0) (hlt:W < 9218868437227405312):paE (s.text++t)=0∧paW (s.text++t)=if s.neg=true then W+9223372036854775808 else W:=by
 obtain⟨r1,r2,r3,r4,r5,r6⟩:=i1o (s:=s) k
 rw [B2 (by omega)] at hW
 have hX:paX (s.text++t)=W:=by unfold paX; rw [r4,r5,r6]; exact hW
 have hZ:paZ (s.text++t)=0:=by unfold paZ; rw [r4,r5,r6]; exact hZ
 have hB:paB (s.text++t)=false:=by unfold paB; rw [r1,r2]; rfl
 have hle:paX (s.text++t)<=9218868437227405312:=by rw [hX]; omega
 have hI:paI (s.text++t)=false:=by
  unfold paI
  rw [hZ,r0w (y4 hle (by decide)),m1u hle (by decide),hX]
  show decide (9218868437227405311 < W)=_
  exact b8 (by omega)
 have hb:¬paB (s.text++t)=true:=by rw [hB]; decide
 have hi:¬paI (s.text++t)=true:=by rw [hI]; decide
 have hE:paE (s.text++t)=paZ (s.text++t):=by unfold paE; rw [a6 hb,a6 hi]
 have hW:paW (s.text++t)=sgV (paX (s.text++t)) (rdN (s.text++t)):=by unfold paW; rw [a6 hb,a6 hi,a6 (by rw [hZ]; decide)]
 refine⟨by rw [hE,hZ],?_⟩
 rw [hW,r3,hX]
 unfold sgV
 split
 ·exact z1p (by omega)
 ·rfl
end
theorem p0o (m:Mant) (h:m.ok):mgt 10 m.text 0 (-1)=(if m.pt=true then (m.d1.length:Int) else -1,m.text.length):=by
 obtain⟨h1,h2,_,_⟩:=h
 obtain⟨d1,d2,pt⟩:=m
 cases pt with
 | true=>
  show mgt 10 (d1++46 ::d2) 0 (-1)=((d1.length:Int),(d1++46 ::d2).length)
  have e:=M1 d2 [] (0+d1.length+1) (d1.length:Int) h2
  rw [s0v] at e
  rw [M1 d1 _ 0 (-1) h1,d1k,Q6] at*
  rw [e]
  show ((d1.length:Int),d1.length+1+d2.length)=_
  rw [s9,u6]
  congr 1
  omega
 | false=>
  show mgt 10 d1 0 (-1)=(-1,d1.length)
  have e:=M1 d1 [] 0 (-1) h1
  rw [s0v] at e
  rw [e,Q6]
  rfl
theorem Mant.cons {m:Mant} (h:m.ok):∃ b r,m.text=b ::r∧((48<=b.toNat∧b.toNat<=57)∨b=46):=by
 cases ht:m.text with
 | nil=>
  exfalso
  apply h.2.2.1
  unfold Mant.text at ht
  unfold Mant.digs
  split at ht
  ·exact absurd ht (by simp)
  ·rename_i hp
   rw [a6 hp]
   exact ht
 | cons b r=>exact⟨b,r,rfl,eG h (by rw [ht]; exact X5)⟩
theorem e2u {m:Mant} (h:m.ok):Bt m.text false m.digs (-(m.beh:Int)):=by
 have hxb:hxB m.text=false:=x2b fun b hb=>by
  have key:∀ n:UInt8,((48<=n.toNat∧n.toNat<=57)∨n=46)->n≠120∧n≠88:=by
   intro n hn
   refine⟨fun e=> ?_,fun e=> ?_⟩
   ·subst e; revert hn; decide
   ·subst e; revert hn; decide
  exact key b (eG h hb)
 have hH:M3 m.text=false:=by unfold M3; rw [hxb]; rfl
 have hgo:mR m.text 10 (m.text.length-0) 0 (-1)=(if m.pt=true then (m.d1.length:Int) else -1,m.text.length):=by
  rw [y0t,j0d m.text 10 m.text 0 (-1) rfl]
  exact p0o m h
 have hP:maP m.text 0 10=if m.pt=true then (m.d1.length:Int) else -1:=by unfold maP; rw [hgo]
 have hE:maE m.text 0 10=m.text.length:=by unfold maE; rw [hgo]
 have hS:maS m.text 0 10=m.digs:=by
  unfold maS Mant.digs
  rw [hE,y5]
  cases hp:m.pt with
  | false=>
   rw [hp,a6 (by decide)] at hP
   rw [hP,b9 (by decide),a6 (by decide),sS]
   unfold Mant.text
   rw [hp,a6 (by decide)]
  | true=>
   rw [hp,b9 rfl] at hP
   rw [hP,a6 (by omega),b9 rfl,i8,sS]
   have e1:m.text=m.d1++46 ::m.d2:=by unfold Mant.text; rw [hp,b9 rfl]
   have e2:m.text.take m.d1.length=m.d1:=by rw [e1]; exact fM
   rw [e2,e1,show m.d1++46 ::m.d2=(m.d1++[46])++m.d2 by simp]
   congr 1
   exact List.drop_left' (by simp)
 have hB:maB m.text 0 10=(m.beh:Int):=by
  unfold maB Mant.beh
  cases hp:m.pt with
  | false=>
   rw [hp,a6 (by decide)] at hP
   rw [hP,b9 (by decide),a6 (by decide)]
   rfl
  | true=>
   rw [hp,b9 rfl] at hP
   rw [hP,hE,a6 (by omega),b9 rfl]
   have e1:m.text=m.d1++46 ::m.d2:=by unfold Mant.text; rw [hp,b9 rfl]
   rw [e1,s9,u6]
   omega
 have hhd:hdB m.text eE (m.text.length:Int)=true:=by
  unfold hdB
  rw [show geB m.text (m.text.length:Int)=true from d4 (by omega)]
 have hne:¬m.digs=[] :=h.2.2.1
 refine⟨hH,?_,?_,?_,Mant.cons h,by have:=h.2.2.2; omega⟩
 ·unfold aF
  rw [a6 (by rw [hH]; decide)]
  exact hS
 ·unfold eO
  rw [a6 (by rw [hH]; decide),hS,a6 hne,hE,hB]
  unfold exV
  rw [b9 hhd]
  omega
 ·unfold fA
  rw [a6 (by rw [hH]; decide),hS,a6 hne,hE]
  unfold exE
  rw [b9 hhd]
theorem j2t {m:Mant} {c:UInt8} {x:Int} (h:m.ok) (hc:c=101∨c=69) (hx: -1000 < x∧x < 1000):Bt (lP m c x) false m.digs (x- (m.beh:Int)):=by
 obtain⟨a,b,c',d⟩:=i1a h hc (x:=x) ⟨by omega,by omega⟩
 have:=p1z (c:=c) h hx
 exact⟨a,b,c',d,o1y h,by omega⟩
theorem u0m (n:Nat):zD n=zO11 n:=by
 induction n using Nat.strongRecOn with
 | _ n ih=>
  rw [p1a]
  by_cases h:n < 10
  ·rw [b9 h,N9 h]; rfl
  ·rw [a6 h,gW h,ih (n/10) (by omega)]; rfl
theorem iO (x:Int):V9 x=Lib.itoa x:=by
 unfold V9 Lib.itoa
 split
 ·rw [u0m,show (-x).toNat=x.natAbs by omega]
 ·rw [u0m]
def Rd (t:List UInt8) (n:Nat) (e:Int):Prop:=∃ d x,Bt t false d x∧n8 d=true∧(d.length<=8192∧-10000<=x∧x<=10000)∧∀ K L,0 < K->dcW K L (dcN d) x=dcW K L n e
theorem w0x {t:List UInt8} {n:Nat} {e:Int} (b:Nat) (h:Rd t (n*10 ^b) e):Rd t n (e+b):=by
 obtain⟨d,x,h1,h2,h3,h4⟩:=h
 exact⟨d,x,h1,h2,h3,fun K L hK=>by rw [h4 K L hK,sM hK]⟩
theorem x0q {m:Mant} (h:m.ok) {x:Int} (hx: -1000 < x∧x < 1000):m.digs.length<=8192∧-10000<=x- (m.beh:Int)∧x- (m.beh:Int)<=10000:=by have:=r0q h; omega
theorem p0x {m:Mant} (h:m.ok):Rd m.text (dcN m.digs) (-(m.beh:Int)):=⟨_,_,e2u h,(r0q h).1,by have:=x0q (x:=0) h (by decide); omega,fun _ _ _=>rfl⟩
theorem x1j {m:Mant} {c:UInt8} {x:Int} (h:m.ok) (hc:c=101∨c=69) (hx: -1000 < x∧x < 1000):Rd (lP m c x) (dcN m.digs) (x- (m.beh:Int)):=⟨_,_,j2t h hc hx,(r0q h).1,x0q h hx,fun _ _ _=>rfl⟩
theorem b0g (n:Nat):n8 (zO6 n 48)=true:=allDB_mem.2 fun b hb=>by rw [(List.mem_replicate.1 hb).2]; decide
section
variable {d:List UInt8} {k:Int} (ha:n8 d=true) (hl:1<=d.length∧d.length<=1200)
include ha hl
omit hl in
theorem h1v (n:Nat):n8 (d.take n)=true∧n8 (d.drop n)=true:=
 ⟨allDB_mem.2 fun b hb=>allDB_mem.1 ha b (List.mem_of_mem_take hb),allDB_mem.2 fun b hb=>allDB_mem.1 ha b (k1j hb)⟩
theorem f2f (hk: -1200<=k∧k<=1200):Rd (jV d k) (dcN d) (k+1- (d.length:Int)):=by
 have hd:d≠[] :=by intro h; rw [h] at hl; exact absurd hl.1 (by decide)
 unfold jV
 by_cases h1:k < 0
 ·rw [b9 h1]
  have hok:(Mant.mk [48] (zO6 (-k-1).toNat 48++d) true).ok:=by
   refine⟨show n8 [48] =true by decide,cK (b0g _) ha,by simp [Mant.digs],?_⟩
   show ([48] ++46 ::(zO6 (-k-1).toNat 48++d)).length<=4000
   simp only [s9,u6,G5,mE]
   omega
  have h:=p0x hok
  have e1:dcN (Mant.mk [48] (zO6 (-k-1).toNat 48++d) true).digs=dcN d:=by
   show dcN ([48] ++(zO6 (-k-1).toNat 48++d))=_
   rw [F3,F3,Y2,show dcN [48] =0 by rfl,C0,C0,Q6,Q6]
  have e2: -((Mant.mk [48] (zO6 (-k-1).toNat 48++d) true).beh:Int)=k+1- (d.length:Int):=by
   show -((zO6 (-k-1).toNat 48++d).length:Int)=_
   rw [s9,G5]
   omega
  rw [e1,e2] at h
  exact h
 ·rw [a6 h1]
  by_cases h2:(d.length:Int)<=k+1
  ·rw [b9 h2]
   have hok:(Mant.mk (d++zO6 (k+1- (d.length:Int)).toNat 48) [] false).ok:=by
    refine⟨cK ha (b0g _),rfl,by simp [Mant.digs,hd],?_⟩
    show (d++zO6 (k+1- (d.length:Int)).toNat 48).length<=4000
    rw [s9,G5]
    omega
   have h:=p0x hok
   have e1:dcN (Mant.mk (d++zO6 (k+1- (d.length:Int)).toNat 48) [] false).digs=dcN d*10 ^(k+1- (d.length:Int)).toNat:=by
    show dcN (d++zO6 (k+1- (d.length:Int)).toNat 48)=_
    rw [F3,Y2,G5,E4]
   rw [e1] at h
   have h:=w0x _ h
   have e2: -((Mant.mk (d++zO6 (k+1- (d.length:Int)).toNat 48) [] false).beh:Int)+((k+1- (d.length:Int)).toNat:Nat)=k+1- (d.length:Int):=by
    show -((0:Nat):Int)+_=_
    omega
   rw [e2] at h
   exact h
  ·rw [a6 h2]
   have t:=h1v ha (k+1).toNat
   have hok:(Mant.mk (d.take (k+1).toNat) (d.drop (k+1).toNat) true).ok:=by
    refine⟨t.1,t.2,by show d.take _++d.drop _≠[]; rw [l0g]; exact hd,?_⟩
    show (d.take (k+1).toNat++46 ::d.drop (k+1).toNat).length<=4000
    rw [s9,u6,A9,D5]
    omega
   have h:=p0x hok
   have e1:dcN (Mant.mk (d.take (k+1).toNat) (d.drop (k+1).toNat) true).digs=dcN d:=by
    show dcN (d.take _++d.drop _)=_
    rw [l0g]
   have e2: -((Mant.mk (d.take (k+1).toNat) (d.drop (k+1).toNat) true).beh:Int)=k+1- (d.length:Int):=by
    show -((d.drop (k+1).toNat).length:Int)=_
    rw [D5]
    omega
   rw [e1,e2] at h
   rw [uN]
   exact h
theorem f2a (hk: -900<=k∧k<=900):Rd (gB d k) (dcN d) (k+1- (d.length:Int)):=by
 have hd:d≠[] :=by intro h; rw [h] at hl; exact absurd hl.1 (by decide)
 unfold gB
 rw [<- iO]
 by_cases h1:1 < d.length
 ·rw [b9 h1]
  have t:=h1v ha 1
  have hok:(Mant.mk (d.take 1) (d.drop 1) true).ok:=by
   refine⟨t.1,t.2,by show d.take _++d.drop _≠[]; rw [l0g]; exact hd,?_⟩
   show (d.take 1++46 ::d.drop 1).length<=4000
   rw [s9,u6,A9,D5]
   omega
  have h:=x1j (c:=101) (x:=k) hok (.inl rfl) ⟨by omega,by omega⟩
  have e1:dcN (Mant.mk (d.take 1) (d.drop 1) true).digs=dcN d:=by
   show dcN (d.take _++d.drop _)=_
   rw [l0g]
  have e2:k- ((Mant.mk (d.take 1) (d.drop 1) true).beh:Int)=k+1- (d.length:Int):=by
   show k- ((d.drop 1).length:Int)=_
   rw [D5]
   omega
  rw [e1,e2] at h
  have e3:lP (Mant.mk (d.take 1) (d.drop 1) true) 101 k=raB d++[101] ++V9 k:=by
   show (d.take 1++46 ::d.drop 1)++101 ::V9 k=d.take 1++[46] ++d.drop 1++[101] ++V9 k
   simp
  rw [<- e3]
  exact h
 ·rw [a6 h1]
  have hok:(Mant.mk d [] false).ok:=⟨ha,rfl,hd,by show d.length<=4000; omega⟩
  have h:=x1j (c:=101) (x:=k) hok (.inl rfl) ⟨by omega,by omega⟩
  have e2:k- ((Mant.mk d [] false).beh:Int)=k+1- (d.length:Int):=by
   show k- ((0:Nat):Int)=_
   omega
  rw [e2] at h
  have e3:lP (Mant.mk d [] false) 101 k=d++[101] ++V9 k:=by
   show d++101 ::V9 k=_
   simp
  rw [<- e3]
  exact h
end
theorem w1p {t:List UInt8} {n:Nat} {e:Int} {y:Nat} (s:Sgn) (h:Rd t n e) (hv:dcW 53 (-1074) n e=y) (hy:y < 9218868437227405312):paE (s.text++t)=0∧paW (s.text++t)=if s.neg=true then y+9223372036854775808 else y:=by
 obtain⟨d,x,h1,h2,h3,h4⟩:=h
 obtain⟨w1,w2⟩:=k2e (d:=d) (e:=x) h2 h3.1
 rw [h4 53 (-1074) (by decide),hv] at w1
 exact v0z h1 (by unfold nrW; rw [a6 (by decide)]; exact w1) (by unfold nrE; rw [a6 (by decide)]; exact w2) hy
theorem z2k {S:Nat} {e:Int} (h:0<=e+S):pN 10 e*10 ^S=10 ^(e+S).toNat*pD 10 e:=by
 unfold pN pD
 by_cases h0:0<=e
 ·rw [b9 h0,b9 h0,<- i7,s4,show (e+S).toNat=e.toNat+S by omega]
 ·rw [a6 h0,a6 h0,V1,<- i7,show (e+S).toNat+(-e).toNat=S by omega]
theorem b2x {K S:Nat} {L:Int} {n:Nat} {e:Int} (hK:0 < K) (h:0<=e+S):dcW K L n e=rwd K L (n*10 ^(e+S).toNat) (10 ^S):=by
 unfold dcW
 refine vT hK (fN (by decide) _) (p7 (by decide)) ?_
 rw [f9,z2k h,f9]
theorem o1i {K:Nat} (hK:1 < K) (w:Nat):∃ m E:Nat,w=E*2 ^(K-1)+m∧m < 2 ^K∧(E=0∨2 ^(K-1)<=m)∧(0 < w->0 < m):=by
 have hp:=E6 (K-1)
 have hd:=e0p (K:=K) (by omega)
 by_cases h:w < 2 ^(K-1)
 ·exact⟨w,0,by omega,by omega, .inl rfl,id⟩
 ·have h1:=Y1 w (2 ^(K-1))
  have h2:=B0 w hp
  have h3:1<=w/2 ^(K-1):=(bW hp).2 (by omega)
  obtain⟨E,hE⟩:∃ E,w/2 ^(K-1)=E+1:=⟨w/2 ^(K-1)-1,by omega⟩
  refine⟨w%2 ^(K-1)+2 ^(K-1),E,?_,by omega, .inr (by omega),fun _=>by omega⟩
  rw [hE,O6,s4,n4] at h1
  omega
theorem q1p {y m E:Nat} (hy:y < 9218868437227405312) (h:y=E*2 ^(53-1)+m) (hm:m < 2 ^53) (hE:E=0∨2 ^(53-1)<=m):uW y=m*2 ^E:=
 y0j hy h (cJ hm) hE
section
variable {y:Nat} (hy:y < 9218868437227405312)
abbrev deM (S y:Nat):Nat:=dgN (deD y)*10 ^(deX y+S).toNat
include hy
theorem x1e {S:Nat} (hS:1075<=S):deM S y*2 ^1074=uW y*10 ^S:=x1r hS (w0m hy)
theorem m1h {S c N:Nat} (hS:1075<=S) (hc:2 ^54 < c) (hu:c*N<=c*deM S y+deM S y) (hl:c*deM S y<=c*N+deM S y):rwd 53 (-1074) N (10 ^S)=y:=by
 have hv:=x1e hy hS
 have hD:0 < 10 ^S:=p7 (by decide)
 obtain⟨T,hT⟩:∃ T,T=1074:=⟨_,rfl⟩
 obtain⟨m,E,h1,h2,h3,h4⟩:=o1i (K:=53) (by decide) y
 have hW:=q1p hy h1 h2 h3
 rw [hW,<- hT] at hv
 generalize deM S y=M at*
 have two:0 < 2 ^T:=E6 T
 by_cases h0:y=0
 ·have hm:m=0:=by omega
  rw [hm,C0,C0] at hv
  have hM:M=0:=by
   rcases zzA98.1 hv with h | h
   ·exact h
   ·omega
  rw [hM,eQ,E4] at hu
  have hN:N=0:=by
   rcases zzA98.1 (Nat.le_zero.1 hu) with h | h
   ·omega
   ·exact h
  rw [hN,d0f,h0]
 ·have hm0:=h4 (by omega)
  have hM0:0 < M:=by
   rcases F2 M with h | h
   ·exfalso
    rw [h,C0] at hv
    have:0 < m*2 ^E*10 ^S:=B6 (B6 hm0 (E6 E)) hD
    omega
   ·exact h
  have hN:0 < N:=by
   rcases F2 N with h | h
   ·exfalso
    rw [h,eQ,Q6] at hl
    have:2*M<=c*M:=o9 _ (by omega)
    omega
   ·exact h
  have hg:=q0q (K:=53) (T:=T) (N:=N) (D:=10 ^S) (m:=m) (E:=E) (c:=c) (by decide) hN hD h2 hm0 h3 hc
   (by
    rw [<- hv,<- f9,<- f9,<- u4]
    exact o9 _ hu)
   (by
    rw [<- hv,<- f9,<- f9,<- u4]
    exact o9 _ hl)
  rw [hT] at hg
  rw [h1]
  exact hg
theorem u0o:dcW 53 (-1074) (dgN (deD y)) (deX y)=y:=by
 obtain⟨f1,f2,f3⟩:=U4 y
 obtain⟨S,hS⟩:∃ S,S=1100:=⟨_,rfl⟩
 rw [b2x (S:=S) (by decide) (by omega)]
 exact m1h hy (c:=2 ^54+1) (by omega) (by decide) (fH _ _) (fH _ _)
end
theorem s1g (N U:Nat) (hU:0 < U):2*(rnQ false N U*U)<=2*N+U∧2*N<=2*(rnQ false N U*U)+U:=by
 have hd:=Y1 N U
 have hm:=B0 N hU
 rw [n4] at hd
 unfold rnQ
 cases hb:rnU false (N/U) (N%U) U with
 | true=>
  have:U<=2*(N%U):=by
   unfold rnU at hb
   rw [kX,x5] at hb
   rcases hb with h | ⟨h,_⟩
   ·have:=H8 h; omega
   ·have:=H8 h; omega
  rw [b9 rfl,u4,V1]
  generalize N/U*U=p at*
  omega
 | false=>
  have:2*(N%U)<=U:=by
   unfold rnU at hb
   rw [j0i] at hb
   have:=L4 hb.1
   omega
  rw [a6 A4,E4]
  generalize N/U*U=p at*
  omega
theorem v0t {c a b g P:Nat} (h:c*a<=c*b+g):c*(a*P)<=c*(b*P)+g*P:=by
 rw [<- f9,<- f9,<- u4]
 exact o9 _ h
theorem k1b {c a b g P:Nat} (h:c*g<=c*a+b):c*(g*P)<=c*(a*P)+b*P:=v0t h
theorem v1b {T U q g:Nat} (hg:T*U<=g) (h:2*q<=2*g+U):2*T*q<=2*T*g+g:=by
 have:=Y4 T h
 rw [O6,<- f9,<- f9,n4 T 2] at this
 omega
theorem j1y {T U q g:Nat} (hg:T*U<=g) (h:2*g<=2*q+U):2*T*g<=2*T*q+g:=by
 have:=Y4 T h
 rw [O6,<- f9,<- f9,n4 T 2] at this
 omega
theorem i1l {S y n:Nat} (hS:2200<=S) (hn:1<=n∧n<=30):∃ N,(∀ K L,0 < K->dcW K L (dgN (fqD y n)) (fqX y n)=rwd K L N (10 ^S))∧2*10 ^(n-1)*N<=2*10 ^(n-1)*deM S y+deM S y∧2*10 ^(n-1)*deM S y<=2*10 ^(n-1)*N+deM S y:=by
 obtain⟨f1,f2,f3⟩:=U4 y
 have ht:n8 (doT y)=true:=D8 (doN y)
 have hN:fqN y n=(n:Int)- ((deD y).length:Int)-deX y:=rfl
 by_cases e:0<=fqN y n+deX y
 ·have e1:fqD y n=deD y:=b9 e
  have e2:fqX y n=deX y:=b9 e
  rw [e1,e2]
  exact⟨deM S y,fun K L hK=>b2x hK (by omega),fH _ _,fH _ _⟩
 ·have e1:fqD y n=mdD (rnT (eaK 1) (deD y) (fqN y n) (deX y)) (-fqN y n):=a6 e
  have e2:fqX y n=mdX (rnT (eaK 1) (deD y) (fqN y n) (deX y)) (-fqN y n):=a6 e
  rw [e1,e2]
  obtain⟨j,hj⟩:∃ j:Nat,(deD y).length=n+j:=⟨(deD y).length-n,by omega⟩
  have hne:deD y≠[] :=by intro h; rw [h] at hj; have:(0:Nat)=n+j:=hj; omega
  have hg:10 ^((deD y).length-1)<=dgN (deD y):=x1l ht hne
  rw [show (deD y).length-1=(n-1)+j by omega,i7] at hg
  obtain⟨q,hq⟩:∃ q,q=rnQ false (dgN (deD y)) (10 ^j):=⟨_,rfl⟩
  have hT:rnT (eaK 1) (deD y) (fqN y n) (deX y)=zO11 q:=by
   unfold rnT
   rw [show (-fqN y n-deX y).toNat=j by omega,hq]
   rfl
  have hU:0 < 10 ^j:=p7 (by decide)
  obtain⟨r1,r2⟩:=s1g (dgN (deD y)) (10 ^j) hU
  rw [<- hq] at r1 r2
  have hql:(zO11 q).length<=8192:=by
   have hq2:q<=10 ^n:=by
    rw [hq]
    exact j1b _ (by rw [<- i7,<- hj]; exact iY (w9 (tQ y)).1)
   have:=I4 (y4 hq2 (zC (by decide) (show n < n+1 by omega))) (by omega)
   omega
  rw [hT]
  obtain⟨z,hz⟩:∃ z,z= -fqN y n:=⟨_,rfl⟩
  rw [<- hz]
  have hval:=x1c (S:=S) (t:=zO11 q) (x:=z) (D8 q) (j0g hql (by omega)) (by omega)
  rw [k1m] at hval
  have hX:0<=mdX (zO11 q) z+S:=by
   have:=W8 (t:=zO11 q)
   unfold mdX
   split <;> omega
  refine⟨dvS S (mdD (zO11 q) z) (mdX (zO11 q) z),fun K L hK=>b2x hK hX,?_,?_⟩
  ·rw [hval,show (z+S).toNat=j+(deX y+S).toNat by omega,i7,<- f9 q]
   exact v0t (v1b hg r1)
  ·rw [hval,show (z+S).toNat=j+(deX y+S).toNat by omega,i7,<- f9 q]
   exact k1b (j1y hg r2)
theorem w2a {y n:Nat} (hy:y < 9218868437227405312) (hn:17<=n∧n<=30):dcW 53 (-1074) (dgN (fqD y n)) (fqX y n)=y:=by
 obtain⟨S,hS⟩:∃ S,S=2200:=⟨_,rfl⟩
 obtain⟨N,h1,h2,h3⟩:=i1l (S:=S) (y:=y) (n:=n) (by omega) (by omega)
 rw [h1 _ _ (by decide)]
 refine m1h hy (by omega) ?_ h2 h3
 have:10 ^16<=10 ^(n-1):=w7 (by decide) (by omega)
 have h16:(2:Nat) ^54 < 2*10 ^16:=by decide
 omega
theorem z1v {t:List UInt8} {x:Int} (h:n8 t=true):n8 (mdD t x)=true:=by
 unfold mdD
 split
 ·exact allDB_mem.2 fun b hb=>allDB_mem.1 h b (uV hb)
 ·rfl
theorem v0i (y:Nat):n8 (deD y)=true:=z1v (D8 (doN y))
theorem l0h (y:Nat) (n:Int):n8 (fqD y n)=true:=by
 show n8 (j0a (eaK 1) (deD y) (fqN y n) (deX y))=true
 unfold j0a
 split
 ·exact v0i y
 ·exact z1v (D8 _)
theorem x1n {d:List UInt8} (h:n8 d=true):n8 (fgD d)=true:=by
 unfold fgD
 split
 ·decide
 ·exact h
def g1r (x:Nat):Sgn:=if p63<=x then .minus else .no
theorem o0j {x:Nat} (h:snW x=[]):P9 x=false:=by
 unfold snW at h
 cases hn:P9 x with
 | false=>rfl
 | true=>rw [hn,b9 rfl] at h; cases h
theorem g1d {x:Nat} (h:snW x=[]):snA x=(g1r x).text:=by
 unfold snA g1r
 rw [o0j h,a6 A4]
 split <;> rfl
theorem rG {x:Nat} (h:snW x≠[]):paE (snW x)=0∧paW (snW x)=mW x:=by
 unfold snW at h ⊢
 unfold mW
 cases hn:P9 x with
 | true=>
  rw [b9 rfl,b9 rfl]
  exact⟨by decide+kernel,by decide+kernel⟩
 | false=>
  rw [hn,a6 A4] at h
  rw [a6 A4,a6 A4]
  by_cases h1:x=9218868437227405312
  ·rw [b9 h1,h1]
   exact⟨by decide+kernel,by decide+kernel⟩
  ·rw [a6 h1] at h ⊢
   by_cases h2:x=18442240474082181120
   ·rw [b9 h2,h2]
    exact⟨by decide+kernel,by decide+kernel⟩
   ·rw [a6 h2] at h
    exact absurd rfl h
theorem k1q {x y:Nat} (hx:x < 18446744073709551616) (hy:ab x=y):(if (g1r x).neg=true then y+9223372036854775808 else y)=x:=by
 have hy:x%p63=y:=hy
 unfold g1r
 unfold p63 at*
 by_cases h:9223372036854775808<=x
 ·rw [b9 h]
  show y+9223372036854775808=x
  omega
 ·rw [a6 h]
  show y=x
  omega
theorem e0s {x n:Nat} {e:Int} {t:List UInt8} (hx:x < 18446744073709551616) (h:snW x=[]) (hr:Rd t n e) (hv:dcW 53 (-1074) n e=ab x):paE (snA x++t)=0∧paW (snA x++t)=mW x:=by
 obtain⟨h1,h2⟩:=w1p (g1r x) hr hv (V2 hx h)
 rw [g1d h]
 refine⟨h1,?_⟩
 rw [h2,k1q hx rfl]
 unfold mW
 rw [o0j h,a6 A4]
theorem l0s {K:Nat} {L:Int} {d:List UInt8} (h:n8 d=true) (x:Int):dcW K L (dcN (fgD d)) (fgK d x+1- ((fgD d).length:Int))=dcW K L (dgN d) x:=by
 rw [(zY h).2]
 unfold fgD fgK
 by_cases h0:d=[]
 ·rw [b9 h0,b9 h0,h0,show dcN [48] =0 by rfl,show dcN [] =0 by rfl,lJ,lJ]
 ·rw [a6 h0,a6 h0,show (d.length:Int)-1+x+1- (d.length:Int)=x by omega]
theorem y1q {d:List UInt8} {x:Int} (hl:d.length<=1200) (hp: -400<=(d.length:Int)+x∧(d.length:Int)+x<=400):(1<=(fgD d).length∧(fgD d).length<=1200)∧-401<=fgK d x∧fgK d x<=400:=by
 unfold fgD fgK
 by_cases h0:d=[]
 ·rw [b9 h0,b9 h0]
  exact⟨⟨by decide,by decide⟩,by decide,by decide⟩
 ·have:=zzA214.2 h0
  rw [a6 h0,a6 h0]
  omega
theorem l1f {d:List UInt8} {x:Int} (h:n8 d=true) (hl:d.length<=1200) (hp: -400<=(d.length:Int)+x∧(d.length:Int)+x<=400):Rd (jV (fgD d) (fgK d x)) (dcN (fgD d)) (fgK d x+1- ((fgD d).length:Int)):=by
 obtain⟨h1,h2,h3⟩:=y1q hl hp
 exact f2f (x1n h) h1 ⟨by omega,by omega⟩
theorem q0s {d:List UInt8} {x:Int} (j:Nat) (h:n8 d=true) (hl:d.length+j<=1199) (hp: -400<=(d.length:Int)+x∧(d.length:Int)+x<=400):Rd (gB (fgD d++zO6 j 48) (fgK d x)) (dcN (fgD d)) (fgK d x+1- ((fgD d).length:Int)):=by
 obtain⟨h1,h2,h3⟩:=y1q (x:=x) (show d.length<=1200 by omega) hp
 have h4:(fgD d).length<=d.length+1:=by
  unfold fgD
  split
  ·exact Nat.le_add_left _ _
  ·omega
 have hz:n8 (zO6 j 48)=true:=b0g j
 have:=f2a (d:=fgD d++zO6 j 48) (k:=fgK d x) (cK (x1n h) hz) (by rw [s9,G5]; omega) ⟨by omega,by omega⟩
 rw [F3,Y2,G5,E4] at this
 have:=w0x j this
 rw [s9,G5,show fgK d x+1- (((fgD d).length+j:Nat):Int)+(j:Int)=fgK d x+1- ((fgD d).length:Int) by omega] at this
 exact this
section
variable {x:Nat} (hx:x < 18446744073709551616)
include hx
theorem b1n:paE (exT x)=0∧paW (exT x)=mW x:=by
 unfold exT
 by_cases h:snW x=[]
 ·rw [b9 h]
  have hf:=V2 hx h
  obtain⟨p1,p2⟩:=g0a hf
  have p3:=(U4 (ab x)).1
  exact e0s hx h (l1f (v0i _) (by omega) ⟨by omega,by omega⟩) (by rw [l0s (v0i _),u0o hf])
 ·rw [a6 h]
  exact rG h
theorem i1n {n:Nat} (hn:17<=n∧n<=30):nfE n=0∧paE (nfT x n)=0∧paW (nfT x n)=mW x:=by
 have hb:fgB (n:Int)=false:=by
  unfold fgB
  rw [b8 (show ¬((n:Nat):Int) < 1 by omega),b8 (show ¬((n:Nat):Int) > 30 by omega)]
 unfold nfT nfE
 rw [hb,a6 A4,a6 A4]
 refine⟨rfl,?_⟩
 by_cases h:snW x=[]
 ·rw [b9 h]
  have hf:=V2 hx h
  obtain⟨q1,q2⟩:=rE (n:=n) hf (by omega)
  have q3:(fqD (ab x) n).length<=n:=d0t (w9 (tQ (ab x))).1 (by omega)
  exact e0s hx h (q0s _ (l0h _ _) (by omega) ⟨q1,q2⟩) (by rw [l0s (l0h _ _),w2a hf hn])
 ·rw [a6 h]
  exact rG h
theorem a1t:paE (srT x)=0∧paW (srT x)=mW x:=by
 unfold srT
 by_cases h:snW x=[]
 ·rw [b9 h]
  have hf:=V2 hx h
  obtain⟨_,h2,h3,h4⟩:=d0k (ab x) 17 0
  have key:∃ d z,sfW (ab x)=fgD d∧sfK (ab x)=fgK d z∧n8 d=true∧d.length<=1199∧(-400<=(d.length:Int)+z∧(d.length:Int)+z<=400)∧dcW 53 (-1074) (dgN d) z=ab x:=by
   unfold sfW sfK
   by_cases hlt:sfI (ab x) < 17
   ·rw [b9 hlt,b9 hlt]
    have q3:(fqD (ab x) ((sfI (ab x)+1:Nat):Int)).length<=sfI (ab x)+1:=d0t (w9 (tQ (ab x))).1 (by omega)
    have hw:=h4 (by unfold sfI at hlt; omega)
    have hw:toW (fqD (ab x) ((sfI (ab x)+1:Nat):Int)) (fqX (ab x) ((sfI (ab x)+1:Nat):Int))=ab x:=hw
    refine⟨_,_,rfl,rfl,l0h _ _,by omega,rE hf ⟨by omega,by omega⟩,?_⟩
    unfold toW at hw
    have hne:¬9218868437227405312<=dcW 53 (-1074) (dgN (fqD (ab x) ((sfI (ab x)+1:Nat):Int))) (fqX (ab x) ((sfI (ab x)+1:Nat):Int)):=fun k=>by
     rw [S5 k] at hw
     omega
    rw [z0y hne] at hw
    exact hw
   ·rw [a6 hlt,a6 hlt]
    obtain⟨p1,p2⟩:=g0a hf
    have p3:=(U4 (ab x)).1
    exact⟨_,_,rfl,rfl,v0i _,by omega,⟨by omega,by omega⟩,u0o hf⟩
  obtain⟨d,z,e1,e2,k1,k2,k3,k4⟩:=key
  rw [e1,e2]
  split
  ·have:=q0s 0 k1 (by omega) k3
   rw [List.replicate_zero,s0v] at this
   exact e0s hx h this (by rw [l0s k1,k4])
  ·exact e0s hx h (l1f k1 (by omega) k3) (by rw [l0s k1,k4])
 ·rw [a6 h]
  exact rG h
end
def toX (K:Nat) (L:Int) (N D:Nat) (E:Int):Int:=A2 K (L-E) N D+E
theorem o1b {K:Nat} {L:Int} {N D:Nat} {E:Int} (hK:0 < K) (hN:0 < N) (hD:0 < D):gG K (L-E) N D (toX K L N D E-E):=by
 unfold toX
 rw [Int.add_sub_cancel]
 exact I8 hK hN hD
def vlW (K:Nat) (L:Int) (N D:Nat) (E:Int):Nat:=(toX K L N D E-L).toNat*2 ^(K-1)+flm N D (toX K L N D E-E)
theorem t1d (N D:Nat) (E e:Int):∃ a b:Nat,0 < a∧0 < b∧atA (N*pN 2 E) e*a=atA N (e-E)*b∧atB (D*pD 2 E) e*a=atB D (e-E)*b:=by
 have two:∀ k:Nat,0 < (2:Nat) ^k:=fun k=>p7 (by decide)
 unfold atA atB pN pD
 by_cases h1:0<=E <;> by_cases h2:0<=e <;> by_cases h3:0<=e-E
 ·refine⟨1,2 ^E.toNat,Nat.one_pos,two _,?_,?_⟩ <;> simp only [b9 h1,b9 h2,b9 h3,s4]
  rw [f9,<- i7,show (e-E).toNat+E.toNat=e.toNat by omega]
 ·refine⟨1,2 ^e.toNat,Nat.one_pos,two _,?_,?_⟩ <;> simp only [b9 h1,b9 h2,a6 h3,s4]
  rw [f9,<- i7,show (-(e-E)).toNat+e.toNat=E.toNat by omega]
 ·omega
 ·refine⟨1,1,Nat.one_pos,Nat.one_pos,?_,?_⟩ <;> simp only [b9 h1,a6 h2,a6 h3,s4]
  rw [f9,<- i7,show E.toNat+(-e).toNat=(-(e-E)).toNat by omega]
 ·refine⟨1,1,Nat.one_pos,Nat.one_pos,?_,?_⟩ <;> simp only [a6 h1,b9 h2,b9 h3,s4]
  rw [f9,<- i7,show (-E).toNat+e.toNat=(e-E).toNat by omega]
 ·omega
 ·refine⟨1,2 ^(-e).toNat,Nat.one_pos,two _,?_,?_⟩ <;> simp only [a6 h1,a6 h2,b9 h3,s4]
  rw [f9,<- i7,show (e-E).toNat+(-e).toNat=(-E).toNat by omega]
 ·refine⟨1,2 ^(-E).toNat,Nat.one_pos,two _,?_,?_⟩ <;> simp only [a6 h1,a6 h2,a6 h3,s4]
  rw [f9,<- i7,show (-(e-E)).toNat+(-E).toNat=(-e).toNat by omega]
theorem n0n {a b c d x y:Nat} (hx:0 < x) (hy:0 < y) (h1:a*x=c*y) (h2:b*x=d*y):a/b=c/d∧cmN (a%b*2) b=cmN (c%d*2) d∧(a%b=0↔c%d=0):=by
 have e1:a/b=c/d:=by rw [<- jQ a b hx,h1,h2,jQ c d hy]
 have e2:a%b*x=c%d*y:=by rw [<- oF,h1,h2,oF]
 refine⟨e1,?_,?_⟩
 ·rw [<- q0u (a%b*2) b hx,<- q0u (c%d*2) d hy,J1,e2,h2,J1]
 ·constructor
  ·intro h
   rw [h,C0] at e2
   rcases zzA98.1 e2.symm with h | h
   ·exact h
   ·omega
  ·intro h
   rw [h,C0] at e2
   rcases zzA98.1 e2 with h | h
   ·exact h
   ·omega
theorem t0u (N D:Nat) (E e:Int):flq (N*pN 2 E) (D*pD 2 E) e=flq N D (e-E)∧flm (N*pN 2 E) (D*pD 2 E) e=flm N D (e-E):=by
 obtain⟨a,b,ha,hb,h1,h2⟩:=t1d N D E e
 obtain⟨g1,g2,g3⟩:=n0n ha hb h1 h2
 have e1:flq (N*pN 2 E) (D*pD 2 E) e=flq N D (e-E):=g1
 have e2:flh (N*pN 2 E) (D*pD 2 E) e=flh N D (e-E):=g2
 have e3:flw (N*pN 2 E) (D*pD 2 E) e=flw N D (e-E):=zzA163.2 g3
 refine⟨e1,?_⟩
 unfold flm tI
 rw [e1,e2,e3]
theorem o2o {K:Nat} {L:Int} {N D:Nat} {E:Int} (hK:0 < K) (hN:0 < N) (hD:0 < D):vlW K L N D E=rwd K L (N*pN 2 E) (D*pD 2 E):=by
 have h:=o1b (L:=L) (E:=E) hK hN hD
 have k:gG K L (N*pN 2 E) (D*pD 2 E) (toX K L N D E):=by
  obtain⟨h1,h2,h3⟩:=h
  refine⟨by omega,?_,?_⟩ <;> rw [(t0u N D E _).1]
  ·exact h2
  ·rcases h3 with h3 | h3
   ·exact .inl (by omega)
   ·exact .inr h3
 rw [W9 hK (B6 hN (y1p (by decide) _)) (B6 hD (fN (by decide) _)) k,(t0u N D E _).2]
 rfl
theorem t0e:∀ (l:List UInt8) (m:Nat),l.foldl (fun m c=>16*m+hxd c) m=m*16 ^l.length+hxN l
 | [],m=>by simp [hxN]
 | c ::r,m=>by
  unfold hxN
  rw [e0w,e0w,t0e r,t0e r (16*0+hxd c),u6,p9,eQ,Q6,u4,n4 (16 ^r.length) 16,<- f9 m,n4 m 16,s1i]
theorem dK (a b:List UInt8):hxN (a++b)=hxN a*16 ^b.length+hxN b:=by
 unfold hxN
 rw [List.foldl_append,t0e b]
 rfl
theorem dZ (c:UInt8) (r:List UInt8):hxN (c ::r)=hxd c*16 ^r.length+hxN r:=by
 have:=dK [c] r
 rw [t0y] at this
 rw [this]
 unfold hxN
 rw [e0w,List.foldl_nil,eQ,Q6]
theorem u1f (d:List UInt8):hxN d=hxN (d.take 16)*16 ^(d.length-16)+hxN (d.drop 16):=by
 have h:=dK (d.take 16) (d.drop 16)
 rw [l0g,D5] at h
 exact h
theorem l2h {l:List UInt8} (h:pX l):hxN l < 16 ^l.length:=by
 have:=h0h h l.length (d7 _)
 rw [y5] at this
 exact this
theorem r0y {c:UInt8} (h:t7 (c.toNat:Int) < 16):hxd c=0↔c=48:=by
 have h1:=g1i (c:=c)
 constructor
 ·intro h0
  have h2:t7 (c.toNat:Int)=0:=by omega
  unfold t7 at h2
  refine zzA132.1 ?_
  show c.toNat=48
  split at h2
  ·omega
  ·split at h2
   ·omega
   ·split at h2 <;> omega
 ·intro h0
  subst h0
  decide
theorem a2j:∀ {l:List UInt8},pX l->(l.any fun c=>c !=48)=decide (0 < hxN l)
 | [],_=>rfl
 | c ::r,h=>by
  have h1:=a2j (l:=r) fun b hb=>h b (R8 _ hb)
  have h2:=r0y (h c X5)
  have hp:0 < 16 ^r.length:=p7 (by decide)
  rw [List.any_cons,h1,dZ]
  by_cases hc:c=48
  ·rw [h2.2 hc,C0,Q6,hc]
   rfl
  ·have h3:0 < hxd c:=nR fun e=>hc (h2.1 e)
   have h4:0 < hxd c*16 ^r.length+hxN r:=by
    have:=B6 h3 hp
    omega
   rw [d4 h4,show (c !=48)=true from zzA216.2 hc]
   rfl
def i2w (A B:Nat):Nat:=if (!decide (A%B=0) && upB (cmN (A%B*2) B) (A/B))=true then A/B+1 else A/B
theorem b2d (N D:Nat) (e:Int):flm N D e=i2w (atA N e) (atB D e):=rfl
theorem u1l {a b c d x y:Nat} (hx:0 < x) (hy:0 < y) (h1:a*x=c*y) (h2:b*x=d*y):i2w a b=i2w c d:=by
 obtain⟨g1,g2,g3⟩:=n0n hx hy h1 h2
 unfold i2w
 rw [g1,g2,zzA163.2 g3]
theorem l2e {q b h:Nat} (R:Bool) (c B G:Nat) (hB:B=2*G) (h1:c < B)
  (hc:(R=false->(c=0↔b=0)∧(G < c↔h < b)∧(c=G↔b=h))∧(R=true->0 < c∧c≠G∧(G < c↔h<=b))):
  (!decide (c=0) && upB (cmN (c*2) B) q)=(decide (h < b) || (decide (b=h) && (R || decide (q%2=1)))):=by
 unfold upB cmN
 cases R with
 | false=>
  obtain⟨a1,a2,a3⟩:=hc.1 rfl
  rcases aR b h with g | g | g
  ·have:¬G < c:=fun k=>by have:=a2.1 k; omega
   have:c≠G:=fun k=>by have:=a3.1 k; omega
   rw [b9 (show c*2 < B by omega),b8 (show ¬h < b by omega),b8 (show ¬b=h by omega)]
   simp
  ·have:c=G:=a3.2 g
   have h0:c≠0:=fun k=>by have:=a1.1 k; omega
   rw [a6 (show ¬c*2 < B by omega),b9 (show c*2=B by omega),b8 (show ¬h < b by omega),d4 g,b8 h0]
   simp
  ·have:G < c:=a2.2 g
   rw [a6 (show ¬c*2 < B by omega),a6 (show ¬c*2=B by omega),d4 g,b8 (show ¬c=0 by omega)]
   simp
 | true=>
  obtain⟨a1,a2,a3⟩:=hc.2 rfl
  rcases E0 b h with g | g
  ·have:¬G < c:=fun k=>by have:=a3.1 k; omega
   rw [b9 (show c*2 < B by omega),b8 (show ¬h < b by omega),b8 (show ¬b=h by omega)]
   simp
  ·have:G < c:=a3.2 g
   rw [a6 (show ¬c*2 < B by omega),a6 (show ¬c*2=B by omega),b8 (show ¬c=0 by omega)]
   rcases E0 h b with k | k
   ·rw [d4 k]
    simp
   ·rw [b8 (show ¬h < b by omega),d4 (show b=h by omega)]
    simp
theorem o2d {X o t r s:Nat} (ho:1<=o) (hs:s < 16 ^r) (hX:X%2 ^t=0) (h:s=0∨t < o):i2w (X*16 ^r+s*2 ^t) (2 ^o*16 ^r)=biQ X o (decide (0 < s))∧(X*16 ^r+s*2 ^t)/ (2 ^o*16 ^r)=X/2 ^o:=by
 have hR:0 < 16 ^r:=p7 (by decide)
 have hO:0 < 2 ^o:=p7 (by decide)
 have hT:0 < 2 ^t:=p7 (by decide)
 have hhalf:2 ^o=2*2 ^(o-1):=by rw [<- Nat.pow_succ']; congr 1; omega
 have hB:2 ^o*16 ^r=2*(2 ^(o-1)*16 ^r):=by rw [hhalf,f9]
 have hXd:=Y1 X (2 ^o)
 have hb:X%2 ^o < 2 ^o:=B0 _ hO
 have hh:0 < 2 ^(o-1):=p7 (by decide)
 have hA:X*16 ^r+s*2 ^t=2 ^o*16 ^r*(X/2 ^o)+(X%2 ^o*16 ^r+s*2 ^t):=by
  have:X*16 ^r=2 ^o*16 ^r*(X/2 ^o)+X%2 ^o*16 ^r:=by
   rw [J1,<- u4,hXd]
  omega
 have key:X%2 ^o*16 ^r+s*2 ^t < 2 ^o*16 ^r∧((decide (0 < s)=false->(X%2 ^o*16 ^r+s*2 ^t=0↔X%2 ^o=0)∧(2 ^(o-1)*16 ^r < X%2 ^o*16 ^r+s*2 ^t↔2 ^(o-1) < X%2 ^o)∧(X%2 ^o*16 ^r+s*2 ^t=2 ^(o-1)*16 ^r↔X%2 ^o=2 ^(o-1)))∧
   (decide (0 < s)=true->0 < X%2 ^o*16 ^r+s*2 ^t∧X%2 ^o*16 ^r+s*2 ^t≠2 ^(o-1)*16 ^r∧(2 ^(o-1)*16 ^r < X%2 ^o*16 ^r+s*2 ^t↔2 ^(o-1)<=X%2 ^o))):=by
  generalize X%2 ^o=b at*
  rcases F2 s with h0 | h0
  ·subst h0
   rw [C0,E4]
   refine⟨F8 hb hR,fun _=>⟨?_,Nat.mul_lt_mul_right hR,⟨fun e=>u0k hR e,fun e=>by rw [e]⟩⟩,fun e=>by cases e⟩
   constructor
   ·intro e
    rcases zzA98.1 e with e | e
    ·exact e
    ·omega
   ·intro e
    rw [e,C0]
  ·have hto:t < o:=by omega
   have hdv:2 ^t ∣ 2 ^(o-1):=Nat.pow_dvd_pow 2 (by omega)
   obtain⟨g,hg⟩:=hdv
   have hbm:b%2 ^t=0:=by
    have h1:(2 ^o*(X/2 ^o)+b)%2 ^t=0:=by rw [hXd]; exact hX
    generalize X/2 ^o=Q at h1
    have e:2 ^o*Q=2 ^t*(2*g*Q):=by rw [hhalf,hg,S4 2,f9]
    rw [e,Nat.mul_add_mod_self_left] at h1
    exact h1
   obtain⟨c,hc⟩:=Nat.dvd_of_mod_eq_zero hbm
   have e1:b*16 ^r+s*2 ^t=(c*16 ^r+s)*2 ^t:=by rw [hc,u4,J1,n4 (2 ^t*16 ^r) c,n4 (2 ^t) (16 ^r),f9]
   have e2:2 ^(o-1)*16 ^r=(g*16 ^r)*2 ^t:=by rw [hg,n4 (2 ^t) g,J1]
   have e3:2 ^o*16 ^r=(2*(g*16 ^r))*2 ^t:=by rw [hB,e2,<- f9 2]
   have hcg:c < 2*g:=by
    rw [hhalf,hg,hc,S4 2] at hb
    exact yF hb
   have hle:∀ a b:Nat,a < b->a*16 ^r+16 ^r<=b*16 ^r:=fun a b hab=>by
    rw [<- Nat.succ_mul]
    exact o9 _ hab
   rw [e1,e2,e3]
   refine⟨F8 ?_ hT,(fun e=>by rw [d4 h0] at e; cases e),fun _=>⟨B6 (by omega) hT,fun e=> ?_,?_⟩⟩
   ·have:=hle c (2*g) hcg
    rw [f9] at this
    omega
   ·have:=u0k hT e
    rcases aR c g with k | k | k
    ·have:=hle c g k
     omega
    ·subst k
     omega
    ·have:=hle g c k
     omega
   ·rw [Nat.mul_lt_mul_right hT,hg,hc,Nat.mul_le_mul_left_iff hT]
    constructor
    ·intro k
     refine jI fun k2=> ?_
     have:=hle c g k2
     omega
    ·intro k
     have:=o9 (16 ^r) k
     omega
 obtain⟨k1,k2⟩:=key
 have hBp:0 < 2 ^o*16 ^r:=B6 hO hR
 have hdiv:(X*16 ^r+s*2 ^t)/ (2 ^o*16 ^r)=X/2 ^o:=by
  rw [hA,Nat.mul_add_div hBp,uE k1,E4]
 have hmod:(X*16 ^r+s*2 ^t)%(2 ^o*16 ^r)=X%2 ^o*16 ^r+s*2 ^t:=by
  rw [hA,Nat.mul_add_mod_self_left,H3 k1]
 refine⟨?_,hdiv⟩
 unfold i2w biQ upT
 rw [hdiv,hmod,l2e (decide (0 < s)) _ _ _ hB k1 k2]
section
variable {d:List UInt8} {e p l:Int}
abbrev hxM (d:List UInt8):Nat:=hxN (d.take 16)
abbrev hxE (d:List UInt8) (e:Int):Int:=e+((4*(d.length-16):Nat):Int)
abbrev hxU (d:List UInt8) (e p l:Int):Int:=biU (hxM d) (hxE d e) p l
abbrev hxO (d:List UInt8) (e p l:Int):Nat:=(biO (hxM d) (hxE d e) p l).toNat
abbrev c2m (d:List UInt8) (e p l:Int):Nat:=biQ (biX (hxM d)) (hxO d e p l) ((d.drop 16).any fun c=>c !=48)
theorem sE (hd:pX d):hxM d < 18446744073709551616:=by
 have h:=h0h hd (min 16 d.length) (Nat.min_le_right _ _)
 rw [<- List.take_take,y5] at h
 exact E3 h (x7 (w7 (by decide) (Nat.min_le_left _ _)) (by decide))
theorem e2j (hd:pX d) (hlen:16 < d.length) {c:UInt8} {r:List UInt8} (hc:d=c ::r) (h:c≠48):61<=bl (hxM d):=by
 refine bl_ge.2 ?_
 subst hc
 show 2 ^60<=hxN (c ::r.take 15)
 rw [dZ]
 have h1:(r.take 15).length=15:=by
  rw [A9]
  simp at hlen
  omega
 rw [h1]
 have h2:0 < hxd c:=nR fun e=>h ((r0y (hd c X5)).1 e)
 have:1*16 ^15<=hxd c*16 ^15:=o9 _ h2
 exact x7 (show 2 ^60<=1*16 ^15 by decide) (x7 this (fH _ _))
theorem z2y (M:Nat) (E:Int) (hp:p<=53):biO M E p l=((biO M E p l).toNat:Int)∧64-p<=((biO M E p l).toNat:Int)∧1<=(biO M E p l).toNat∧(64-bl M < 11->64-bl M < (biO M E p l).toNat):=by
 unfold biO biU
 split <;> omega
theorem z2x (d:List UInt8) (e p l:Int):hxU d e p l-e+((64-bl (hxM d):Nat):Int)=biO (hxM d) (hxE d e) p l+((4*(d.length-16):Nat):Int):=by
 show biU (hxM d) (e+((4*(d.length-16):Nat):Int)) p l-e+_=biO (hxM d) (e+((4*(d.length-16):Nat):Int)) p l+_
 unfold biO biE
 omega
theorem a2e (hd:pX d) (hp:1<=p∧p<=53) {c:UInt8} {r:List UInt8} (hc:d=c ::r) (h:c≠48) (h0:0 < hxM d):
  flm (hxN d) 1 (hxU d e p l-e)=c2m d e p l∧flq (hxN d) 1 (hxU d e p l-e)=biX (hxM d)/2 ^hxO d e p l∧biO (hxM d) (hxE d e) p l=(hxO d e p l:Int)∧64-p<=(hxO d e p l:Int):=by
 have hM:=sE hd
 obtain⟨x1,x2,x3,x4⟩:=R6 h0 hM
 obtain⟨o1,o2,o3,o4⟩:=z2y (p:=p) (l:=l) (hxM d) (hxE d e) hp.2
 have hu0:=z2x d e p l
 clear x1 x2
 refine⟨?_,?_,o1,o2⟩ <;>
 ·have hs:hxN (d.drop 16) < 16 ^(d.length-16):=by
   have:=l2h (l:=d.drop 16) fun b hb=>hd b (k1j hb)
   rw [D5] at this
   exact this
  have hX:biX (hxM d)%2 ^(64-bl (hxM d))=0:=Nat.mul_mod_left _ _
  have hor:hxN (d.drop 16)=0∨64-bl (hxM d) < hxO d e p l:=by
   by_cases hl:16 < d.length
   ·have:=e2j hd hl hc h
    exact .inr (o4 (by omega))
   ·rw [show d.length-16=0 by omega] at hs
    exact .inl (Nat.lt_one_iff.1 hs)
  obtain⟨k1,k2⟩:=o2d (o:=hxO d e p l) o3 hs hX hor
  have hR:((d.drop 16).any fun c=>c !=48)=decide (0 < hxN (d.drop 16)):=a2j fun b hb=>hd b (k1j hb)
  have hN:biX (hxM d)*16 ^(d.length-16)+hxN (d.drop 16)*2 ^(64-bl (hxM d))=hxN d*2 ^(64-bl (hxM d)):=by
   rw [u1f d,u4]
   unfold biX
   rw [J1]
  have h16:2 ^hxO d e p l*16 ^(d.length-16)=2 ^(hxO d e p l+4*(d.length-16)):=by
   rw [i7,rZ]
  have hu:hxU d e p l-e+((64-bl (hxM d):Nat):Int)=((hxO d e p l+4*(d.length-16):Nat):Int):=by
   rw [hu0,o1,Int.natCast_add]
  have two:∀ k:Nat,0 < (2:Nat) ^k:=fun k=>p7 (by decide)
  have hcross:∃ x y:Nat,0 < x∧0 < y∧atA (hxN d) (hxU d e p l-e)*x=(hxN d*2 ^(64-bl (hxM d)))*y∧atB 1 (hxU d e p l-e)*x=2 ^(hxO d e p l+4*(d.length-16))*y:=by
   unfold atA atB
   by_cases hge:0<=hxU d e p l-e
   ·refine⟨2 ^(64-bl (hxM d)),1,two _,Nat.one_pos,?_,?_⟩
    ·rw [b9 hge,s4]
    ·rw [b9 hge,s4,V1,<- i7,show (hxU d e p l-e).toNat+(64-bl (hxM d))=hxO d e p l+4*(d.length-16) by clear hs hX k1 k2 hN h16; omega]
   ·refine⟨2 ^(hxO d e p l+4*(d.length-16)),1,two _,Nat.one_pos,?_,?_⟩
    ·rw [a6 hge,s4,f9,<- i7,show (-(hxU d e p l-e)).toNat+(hxO d e p l+4*(d.length-16))=64-bl (hxM d) by clear hs hX k1 k2 hN h16; omega]
    ·rw [a6 hge,s4,V1]
  obtain⟨x,y,hx,hy,g1,g2⟩:=hcross
  rw [h16,hN] at k1 k2
  first
  | exact ((b2d _ _ _).trans (u1l hx hy g1 g2)).trans (by rw [k1]; show biQ _ _ _=biQ _ _ _; rw [hR])
  | exact (n0n hx hy g1 g2).1.trans k2
theorem n2z (hd:pX d) {P:Nat} (hP:p=(P:Int)) (hp:1<=P∧P<=53) {c:UInt8} {r:List UInt8} (hc:d=c ::r) (h:c≠48) (h0:0 < hxM d) (hN:0 < hxN d):
  vlW P l (hxN d) 1 e=(hxU d e p l-l).toNat*2 ^(P-1)+c2m d e p l∧l<=hxU d e p l∧c2m d e p l<=2 ^P∧(hxU d e p l=l∨2 ^(P-1)<=c2m d e p l):=by
 have hM:=sE hd
 obtain⟨x1,x2,x3,x4⟩:=R6 h0 hM
 obtain⟨k1,k2,k3,k4⟩:=a2e (e:=e) (l:=l) hd (p:=p) (by omega) hc h h0
 have two:∀ k:Nat,0 < (2:Nat) ^k:=fun k=>p7 (by decide)
 have hlt:biX (hxM d)/2 ^hxO d e p l < 2 ^P:=by
  rw [F6 (two _),<- i7]
  exact E3 (show _ < 2 ^64 from x2) (w7 (by decide) (by omega))
 have hge:hxU d e p l=l∨2 ^(P-1)<=biX (hxM d)/2 ^hxO d e p l:=by
  by_cases hu:biE (hxM d) (hxE d e)+64-p < l
  ·exact .inl (by show biU _ _ _ _=l; unfold biU; rw [b9 hu])
  ·right
   have:hxO d e p l=64-P:=by
    unfold hxO biO biU
    rw [a6 hu]
    omega
   rw [this,bW (two _),<- i7,show P-1+(64-P)=63 by omega]
   exact x1
 have hle:l<=hxU d e p l:=by
  show l<=biU _ _ _ _
  unfold biU
  split <;> omega
 have hge':hxU d e p l-e=l-e∨2 ^(P-1)<=biX (hxM d)/2 ^hxO d e p l:=by
  rcases hge with g | g
  ·exact .inl (by rw [g])
  ·exact .inr g
 have hr:gG P (l-e) (hxN d) 1 (hxU d e p l-e):=⟨Int.sub_le_sub_right hle e,by rw [k2]; exact hlt,by rw [k2]; exact hge'⟩
 have hX:=u0x (by omega) (o1b (K:=P) (L:=l) (E:=e) (by omega) hN Nat.one_pos) hr
 have hX:toX P l (hxN d) 1 e=hxU d e p l:=by omega
 have hm:=K6 (hxN d) 1 (hxU d e p l-e)
 rw [k1,k2] at hm
 refine⟨?_,hle,by omega,?_⟩
 ·unfold vlW
  rw [hX,k1]
 ·rcases hge with g | g
  ·exact .inl g
  ·exact .inr (by omega)
end
theorem m2v:lY 0=0:=by decide
theorem s2h (u:Int):ldW (lY 0) u=0:=by rw [m2v]; rfl
theorem g1j {q:Nat} {u:Int} (h0:0 < q) (hq:q<=9007199254740992) (hu: -1074<=u) (hn:u= -1074∨4503599627370496<=q):Ieee.double.nearest false q u=min ((u+1074).toNat*4503599627370496+q) 9218868437227405312:=by
 by_cases h1:q=9007199254740992
 ·subst h1
  by_cases h2:u<=970
  ·rw [uY hu h2,B2 (by omega)]
   omega
  ·rw [oS (by omega),S5 (by omega)]
 ·by_cases h2:u<=971
  ·have:=uS (k:=0) h0 (by omega) hu hn.symm h2
   rw [aW,s4,show u- ((0:Nat):Int)=u by omega] at this
   rw [this,B2 (z1e (by omega) (by omega))]
  ·have h3:4503599627370496<=q:=by rcases hn with h | h <;> omega
   have:=u0c (m:=q) (t:=0) (P:=u) (by rw [aW,s4]; exact h3) (by rw [aW,s4]; omega) (by omega)
   rw [this,S5 (n0t (by omega) h3)]
section
variable {d:List UInt8} {e:Int}
theorem q2e (hd:pX d) {c:UInt8} {r:List UInt8} (hc:d=c ::r) (h:c≠48) (h0:0 < hxM d) (hN:0 < hxN d):hxW d e 53 (-1074)=min (vlW 53 (-1074) (hxN d) 1 e) 9218868437227405312:=by
 obtain⟨v1,v2,v3,v4⟩:=n2z (e:=e) (l:= -1074) (p:=53) (P:=53) hd rfl ⟨by decide,by decide⟩ hc h h0 hN
 have hM:=sE hd
 obtain⟨x1,x2,x3,x4⟩:=R6 h0 hM
 obtain⟨_,k2,k3,_⟩:=a2e (e:=e) (l:= -1074) hd (p:=53) ⟨by decide,by decide⟩ hc h h0
 rw [v1]
 rw [show (2:Nat) ^(53-1)=4503599627370496 by decide] at*
 rw [show (2:Nat) ^53=9007199254740992 by decide] at*
 have e1:(hxU d e 53 (-1074)- -1074).toNat=(hxU d e 53 (-1074)+1074).toNat:=by omega
 rw [e1]
 show biW (hxM d) _ (hxE d e) 53 (-1074)=_
 unfold biW
 by_cases hbig:64 < biO (hxM d) (hxE d e) 53 (-1074)
 ·rw [b9 hbig]
  have hQ:c2m d e 53 (-1074)=0:=by
   have h65:65<=hxO d e 53 (-1074):=by omega
   have hp1:(2:Nat) ^64<=2 ^(hxO d e 53 (-1074)-1):=w7 (by decide) (by omega)
   have hp2:(2:Nat) ^(hxO d e 53 (-1074)-1)<=2 ^hxO d e 53 (-1074):=w7 (by decide) (by omega)
   have h64:biX (hxM d) < 2 ^64:=x2
   show biQ _ _ _=0
   unfold biQ upT
   rw [H3 (by omega),uE (by omega),b8 (by omega),b8 (by omega)]
   rfl
  have hU:hxU d e 53 (-1074)= -1074:=by
   rcases v4 with g | g
   ·exact g
   ·rw [hQ] at g
    omega
  rw [hQ,hU]
  rfl
 ·rw [a6 hbig]
  show ldW (lY (c2m d e 53 (-1074))) (hxU d e 53 (-1074))=_
  by_cases hQ:c2m d e 53 (-1074)=0
  ·have hU:hxU d e 53 (-1074)= -1074:=by
    rcases v4 with g | g
    ·exact g
    ·rw [hQ] at g
     omega
   rw [hQ,s2h,hU]
   rfl
  ·rw [y1l (nR hQ) v3,g1j (nR hQ) v3 v2 v4]
end
def hxc (k:Nat):UInt8:=UInt8.ofNat (if k < 10 then 48+k else 87+k)
def qA:Nat->Nat->List UInt8
 | 0,_=>[]
 | n+1,m=>qA n (m/16)++[hxc (m%16)]
theorem i1b:∀ k:Nat,k < 16->t7 ((hxc k).toNat:Int)=(k:Int)∧hxd (hxc k)=k:=by decide
theorem dV:∀ n m:Nat,(qA n m).length=n
 | 0,_=>rfl
 | n+1,m=>by unfold qA; rw [s9,dV n,bB]
theorem y0i:∀ n m:Nat,pX (qA n m)
 | 0,_=>fun c hc=>absurd hc T3
 | n+1,m=>fun c hc=>by
  unfold qA at hc
  rcases zzA92.1 hc with h | h
  ·exact y0i n _ c h
  ·rw [zzA130.1 h,(i1b _ (B0 _ (by decide))).1]
   have:=B0 m (show 0 < 16 by decide)
   omega
theorem d0r:∀ n m:Nat,m < 16 ^n->hxN (qA n m)=m
 | 0,m,h=>by
  have:m=0:=by rw [aW] at h; omega
  rw [this]; rfl
 | n+1,m,h=>by
  rw [p9] at h
  unfold qA
  rw [dK,d0r n (m/16) (by omega),bB,dZ,(i1b _ (B0 _ (by decide))).2]
  show m/16*16 ^1+(m%16*16 ^0+0)=m
  omega
theorem b0u:∀ j n m:Nat,m < 16 ^j->qA (n+j) m=zO6 n 48++qA j m
 | 0,0,_,_=>rfl
 | 0,n+1,m,h=>by
  have h0:m=0:=by rw [aW] at h; omega
  subst h0
  show qA n (0/16)++[hxc (0%16)] =_
  rw [Nat.zero_div,show qA n 0=zO6 n 48++qA 0 0 from b0u 0 n 0 (by decide)]
  show (zO6 n 48++[])++[48] =zO6 (n+1) 48++[]
  rw [s0v,s0v,List.replicate_succ']
 | j+1,n,m,h=>by
  rw [p9] at h
  show qA (n+j) (m/16)++[hxc (m%16)] =zO6 n 48++(qA j (m/16)++[hxc (m%16)])
  rw [b0u j n (m/16) (by omega),uN]
theorem v0p:∀ n:Nat,hxN (zO6 n 48)=0
 | 0=>rfl
 | n+1=>by
  rw [v0v,dZ,v0p n]
  show 0*_+0=0
  omega
theorem x0f (t:List UInt8):hxN t=hxN (D2 t)*16 ^(t.length- (D2 t).length):=by
 conv=>lhs; rw [m0m t]
 rw [dK,v0p,G5,E4]
theorem t0z:∀ t:List UInt8,hxN (d3 t)=hxN t
 | [] =>rfl
 | c ::r=>by
  unfold d3
  split
  ·rename_i h
   have:hxd 48=0:=by decide
   rw [t0z r,dZ,h,this,C0,Q6]
  ·rfl
theorem e1f {t:List UInt8} {b:UInt8} (h:b∈D2 t):b∈t:=by
 unfold D2 at h
 have:=D6 (zzA215.1 h)
 exact zzA215.1 this
theorem h0a (t:List UInt8):(D2 t).length<=t.length:=by
 unfold D2
 have:=B4 t.reverse
 rw [bQ] at this ⊢
 exact this
theorem r0l:∀ (d r:List UInt8) (k:Nat) (p:Int),pX d->mgt 16 (d++r) k p=mgt 16 r (k+d.length) p
 | [],_,_,_,_=>rfl
 | c ::d,r,k,p,h=>by
  rw [dF]
  conv=>lhs; unfold mgt
  have hc:t7 (cI c) < 16:=h c X5
  rw [b9 hc,r0l d r (k+1) p (fun b hb=>h b (R8 _ hb)),u6,show k+1+d.length=k+(d.length+1) by omega]
theorem t1n (r:List UInt8) (k:Nat):mgt 16 (46 ::r) k (-1)=mgt 16 r (k+1) k:=by
 conv=>lhs; unfold mgt
 rw [a6 (by decide),b9 ⟨rfl,by decide⟩]
theorem j0c (r:List UInt8) (k:Nat) (p:Int):mgt 16 (112 ::r) k p=(p,k):=by
 conv=>lhs; unfold mgt
 rw [a6 (by decide),a6 (fun h=>absurd h.1 (by decide))]
def d1b (f:List UInt8):List UInt8:=if f=[] then [] else 46 ::f
abbrev hzU (c1:UInt8) (f:List UInt8):List UInt8:=48 ::120 ::c1 ::d1b f
def qY (c1:UInt8) (f:List UInt8) (e:Int):List UInt8:=hzU c1 f++112 ::V9 e
section
variable {c1:UInt8} {f:List UInt8} {e:Int} (h:pX (c1 ::f)) (hl:f.length<=100) (he: -10000 < e∧e < 10000)
include h hl he
theorem a2n:Bt (qY c1 f e) true (c1 ::f) (e-4*(f.length:Int)):=by
 have hxb:hxB (qY c1 f e)=true:=by
  have h1:decide (((qY c1 f e).length:Int) > 1)=true:=by
   refine d4 ?_
   unfold qY
   rw [s9,u6,u6]
   omega
  unfold hxB h0B
  rw [h1]
  rfl
 have hc1:pX [c1] :=fun b hb=>h b (by rw [zzA130.1 hb]; exact X5)
 have hf:pX f:=fun b hb=>h b (R8 _ hb)
 have hd2:(qY c1 f e).drop 2=c1 ::(d1b f++112 ::V9 e):=rfl
 have hlen2:(qY c1 f e).length-2=(c1 ::(d1b f++112 ::V9 e)).length:=by rw [<- hd2,D5]
 have hrun:mgt 16 (c1 ::(d1b f++112 ::V9 e)) 2 (-1)=(if f=[] then -1 else 3,(hzU c1 f).length):=by
  have:=r0l [c1] (d1b f++112 ::V9 e) 2 (-1) hc1
  rw [t0y] at this
  rw [this]
  show mgt 16 (d1b f++112 ::V9 e) 3 (-1)=_
  unfold hzU d1b
  by_cases hf0:f=[]
  ·rw [b9 hf0,b9 hf0,nM,j0c]
   rfl
  ·rw [a6 hf0,a6 hf0,dF,t1n,r0l f _ _ _ hf,j0c]
   show ((3:Int),3+1+f.length)=(3,(48 ::120 ::c1 ::46 ::f).length)
   simp only [u6]
   congr 1
   omega
 have hgo:mR (qY c1 f e) 16 ((qY c1 f e).length-2) 2 (-1)=(if f=[] then -1 else 3,(hzU c1 f).length):=by
  rw [hlen2,j0d (qY c1 f e) 16 _ 2 (-1) hd2]
  exact hrun
 have hP:maP (qY c1 f e) 2 16=if f=[] then -1 else 3:=by unfold maP; rw [hgo]
 have hE:maE (qY c1 f e) 2 16=(hzU c1 f).length:=by unfold maE; rw [hgo]
 have htk:(qY c1 f e).take (hzU c1 f).length=hzU c1 f:=fM
 have hS:maS (qY c1 f e) 2 16=c1 ::f:=by
  unfold maS
  rw [hP,hE,htk]
  by_cases hf0:f=[]
  ·rw [b9 hf0,b9 (by decide),hf0]
   rfl
  ·rw [a6 hf0,a6 (by decide)]
   unfold hzU d1b
   rw [a6 hf0]
   rfl
 have hB:maB (qY c1 f e) 2 16=(f.length:Int):=by
  unfold maB
  rw [hP,hE]
  by_cases hf0:f=[]
  ·rw [b9 hf0,b9 (by decide),hf0]
   rfl
  ·rw [a6 hf0,a6 (by decide)]
   unfold hzU d1b
   rw [a6 hf0]
   simp only [u6]
   omega
 have hH:M3 (qY c1 f e)=true:=by unfold M3; rw [hxb,hS]; rfl
 have hul:(hzU c1 f).length<=104:=by
  unfold hzU d1b
  split
  ·simp
  ·simp only [u6]; omega
 obtain⟨r1,r2⟩:=u0g (u:=hzU c1 f) (L:=pP) (c:=112) (x:=e) (by decide) (by omega) ⟨by omega,by omega⟩
 have r1:exV (qY c1 f e) pP (hzU c1 f).length=e:=r1
 have r2:exE (qY c1 f e) pP (hzU c1 f).length=(qY c1 f e).length:=r2
 refine⟨hH,?_,?_,?_,⟨48,_,rfl, .inl ⟨by decide,by decide⟩⟩,?_⟩
 ·unfold aF
  rw [b9 hH]
  exact hS
 ·unfold eO
  rw [b9 hH,hE,hB,r1]
 ·unfold fA
  rw [b9 hH,hE]
  exact r2
 ·have hi:(V9 e).length<=7000:=by
   rw [iO]
   have:=g0v e (by omega) (by omega)
   omega
  show (hzU c1 f++112 ::V9 e).length<=8000
  rw [s9]
  have:(112 ::V9 e).length=(V9 e).length+1:=rfl
  omega
end
theorem x2m {B S:Nat} {e:Int} (h:0<=e+S):pN B e*B ^S=B ^(e+S).toNat*pD B e:=by
 unfold pN pD
 by_cases h0:0<=e
 ·rw [b9 h0,b9 h0,<- i7,s4,show (e+S).toNat=e.toNat+S by omega]
 ·rw [a6 h0,a6 h0,V1,<- i7,show (e+S).toNat+(-e).toNat=S by omega]
theorem k0r {K T M E:Nat} {z:Int} (hK:1 < K) (hM:M < 2 ^K) (h0:0 < M) (hz:z=(E:Int)-T) (hE:E=0∨2 ^(K-1)<=M):rwd K (-(T:Int)) (M*pN 2 z) (pD 2 z)=E*2 ^(K-1)+M:=by
 have hp:=x2m (B:=2) (S:=T) (e:=z) (by omega)
 rw [show (z+(T:Int)).toNat=E by omega] at hp
 have e1:M*pN 2 z*2 ^T=M*2 ^E*pD 2 z:=by rw [f9,hp,f9]
 exact q0q (c:=2 ^(K+1)+1) hK (B6 h0 (y1p (by decide) _)) (fN (by decide) _) hM h0 hE (aX _) (by rw [e1]; exact fH _ _) (by rw [e1]; exact fH _ _)
theorem j1w {K:Nat} {L:Int} (hK:0 < K) (n b:Nat) (e:Int):rwd K L (n*2 ^b*pN 2 e) (pD 2 e)=rwd K L (n*pN 2 (e+b)) (pD 2 (e+b)):=by
 refine vT hK (fN (by decide) _) (fN (by decide) _) ?_
 rw [f9,f9,f9]
 congr 1
 rw [<- f9]
 exact x0j 2 b e
theorem t0m (j:Nat):16 ^j=2 ^(4*j):=by rw [rZ]
section
variable {c1:UInt8} {f:List UInt8} {e:Int} (h:pX (c1 ::f)) (hl:f.length<=13)
include h hl
theorem n2f {W:Nat} {z:Int} (hz:z=e-52) (hW:(if hxN (c1 ::f)=0 then 0 else rwd 53 (-1074) (hxN (c1 ::f)*16 ^(13-f.length)*pN 2 z) (pD 2 z))=W):nrW true (c1 ::f) (e-4*(f.length:Int))=min W 9218868437227405312∧nrE true (c1 ::f) (e-4*(f.length:Int))=0:=by
 refine⟨?_,rfl⟩
 unfold nrW
 rw [b9 rfl,<- hW]
 have ht:=t0z (c1 ::f)
 by_cases h0:d3 (c1 ::f)=[]
 ·rw [b9 h0]
  rw [h0] at ht
  rw [b9 (by rw [<- ht]; rfl),uQ]
 ·rw [a6 h0]
  have hH:pX (d3 (c1 ::f)):=fun b hb=>h b (D6 hb)
  cases hh:d3 (c1 ::f) with
  | nil=>exact absurd hh h0
  | cons c r=>
   have hc:=M2 hh
   have hp:0 < hxd c:=nR fun e=>hc ((r0y (hH c (by rw [hh]; exact X5))).1 e)
   rw [hh] at hH ht
   have hN:0 < hxN (c ::r):=n0w hp
   have hM:0 < hxM (c ::r):=n0w hp
   rw [q2e hH rfl hc hM hN,o2o (by decide) hN (by decide),V1,ht]
   rw [ht] at hN
   rw [a6 (by omega),t0m,j1w (by decide),show z+((4*(13-f.length):Nat):Int)=e-4*(f.length:Int) by omega]
end
theorem z1t:∀ k:Nat,k < 16->x6B (k:Int)=hxc k:=by decide
theorem n1a (m:Nat):x6S (m:Int)=((m/16:Nat):Int):=by
 unfold x6S
 rw [aV _ (by decide)]
 rfl
theorem k2j {m:Nat} (h:m < 18446744073709551616):(zO10 uI.bits (m:Int)&&& zO10 uI.bits 15).toNat=m%16:=by
 have h1:(zO10 uI.bits (m:Int)).toNat=m:=kV h
 have h2:(zO10 uI.bits 15).toNat=2 ^4-1:=by decide
 rw [bV,h1,h2]
 exact W2 m 4
theorem f1z {m:Nat} (h:m < 18446744073709551616):x6I (m:Int)=((m%16:Nat):Int):=by
 unfold x6I
 rw [k2j h]
 have:=O3 ((m%16:Nat):Int)
 omega
theorem v0o:∀ (j m:Nat),m < 16 ^(j+1)->m < 18446744073709551616->x6L j (m:Int)=qA (j+1) m
 | 0,m,h,_=>by
  rw [Q6,oY] at h
  show [x6B (m:Int)] =[] ++[hxc (m%16)]
  rw [z1t m h,H3 h,nM]
 | j+1,m,h,h2=>by
  rw [p9] at h
  show x6L j (x6S (m:Int))++[x6B (x6I (m:Int))] =qA (j+1) (m/16)++[hxc (m%16)]
  rw [n1a,f1z h2,v0o j (m/16) (by omega) (by omega),z1t _ (B0 _ (by decide))]
theorem z1l:∀ (j:Nat) (i:Int) (m:Nat),(j:Int)+1<=i∧i<=65->m < 16 ^(j+1)->(j=0∨16 ^j<=m)->m < 18446744073709551616->d9 (x6O j i (m:Int))
 | 0,i,m,hi,h,_,_=>by
  rw [Q6,oY] at h
  exact⟨⟨by omega,by omega⟩,⟨by omega,by omega⟩,b8 (by omega),a7⟩
 | j+1,i,m,hi,h,hl,h2=>by
  rw [p9] at h
  have hl:16 ^(j+1)<=m:=hl.resolve_left (by omega)
  rw [p9] at hl
  have hp:0 < 16 ^j:=p7 (by decide)
  show d9 (x6O j (i-1) (x6S (m:Int))++_)
  rw [n1a]
  refine (i6 _ _).2 ⟨z1l j (i-1) (m/16) (by omega) (by omega) (.inr ((bW (by decide)).2 hl)) (by omega),⟨by decide,⟨by omega,by omega⟩,?_,d4 (by omega),a7⟩⟩
  rw [f1z h2]
  omega
def hxJ (m:Nat):Nat:=m.log2/4
def hxT (m:Nat):List UInt8:=qA (hxJ m+1) m
theorem g0x {m:Nat} (h:m < 4503599627370496):hxJ m < 13∧m < 16 ^(hxJ m+1)∧(hxJ m=0∨16 ^hxJ m<=m):=by
 by_cases h0:m=0
 ·subst h0
  exact⟨by decide,by decide, .inl (by decide)⟩
 ·obtain⟨h1,h2⟩:=jN h0
  have hl:m.log2 < 52:=(tM h0).2 h
  unfold hxJ
  refine⟨by omega,?_,?_⟩
  ·rw [t0m]
   exact E3 h2 (w7 (by decide) (by omega))
  ·right
   rw [t0m]
   exact x7 (w7 (by decide) (by omega)) h1
theorem o1e {m:Nat} (h:m < 4503599627370496):Ev.Pure zO7 J0 174 (x6A (m:Int)) (.tuple ⟨[.slice none 0 0, .string ⟨⟨hxT m⟩⟩]⟩):=by
 obtain⟨j1,j2,j3⟩:=g0x h
 have hw:=z2b (m:Int) ⟨hxJ m,j1⟩
 rw [v0o _ m j2 (by omega)] at hw
 refine d6 U5 10 _ _ hw ?_
 refine (i6 _ _).2 ⟨(i6 _ _).2 ⟨⟨⟨by omega,by omega,by omega⟩,rfl,rfl,a7⟩,z1l _ _ m (by omega) j2 j3 (by omega)⟩,⟨by decide,⟨by decide,by decide⟩,rfl,rfl,rfl,a7⟩⟩
def e1w:List Value->Option (Value×List Prop)
 | [.slice none 0 0, .int .u64 u, .int .i64 16, .bool false, .bool false] =>some (.tuple ⟨[.slice none 0 0, .string ⟨⟨hxT u.toNat⟩⟩]⟩,[0<=u∧u < 4503599627370496])
 | _=>none
theorem i1x (args:List Value) (v:Value) (l:List Prop) (h:e1w args=some (v,l)) (hl:d9 l):Ev.Pure zO7 J0 174 args v:=by
 unfold e1w at h
 split at h
 ·cases h
  rename_i u
  obtain⟨⟨h1,h2⟩,_⟩:=hl
  obtain⟨m,rfl⟩:∃ m:Nat,u=(m:Int):=⟨u.toNat,by omega⟩
  rw [i8]
  exact o1e (by omega)
 ·cases h
def z1n:Tab:=l5 174 e1w q1s
theorem h1s:Q0 zO7 J0 z1n:=b7 i1x d0e
def bTm0:Base:=⟨zO7,J0,false,z1n,F4,200,I6⟩
theorem f2y:BaseOk bTm0:=⟨progOk,h1s,n9 _ _,m0⟩
abbrev a3r:Cx:=bTm0.cx 10
theorem j2v (u:Int):b6 a3r [] 200 119 [.int .u64 u, .int .i64 16] [false] =some (.string ⟨⟨hxT u.toNat⟩⟩,[0<=u∧u < 4503599627370496,false=false]):=by kernel_rfl
def o0f:List Value->Option (Value×List Prop)
 | [.int .u64 u, .int .i64 16] =>some (.string ⟨⟨hxT u.toNat⟩⟩,[0<=u∧u < 4503599627370496])
 | _=>none
theorem c1f (args:List Value) (v:Value) (l:List Prop) (h:o0f args=some (v,l)) (hl:d9 l):Ev.Pure zO7 J0 119 args v:=by
 unfold o0f at h
 split at h
 ·cases h
  exact d6 f2y 10 _ _ (j2v _) ⟨hl.1,rfl,a7⟩
 ·cases h
def i1h:Tab:=l5 119 o0f (l5 69 x0p t1l)
theorem i0y:Q0 zO7 J0 i1h:=b7 c1f (b7 i0t b0x)
def bTm1:Base:=⟨zO7,J0,false,i1h,F4,200,I6⟩
theorem mS:BaseOk bTm1:=⟨progOk,i0y,n9 _ _,m0⟩
abbrev j2j:Cx:=bTm1.cx 10
def hfM (x:Nat):Int:=uI.wrap (zO10 uI.bits (x:Int)&&& zO10 uI.bits 4503599627370495).toNat
def hfE (x:Nat):Int:=iI.wrap (uI.wrap (zO10 uI.bits (Int.fdiv (x:Int) (2 ^min (52:Int).toNat uI.bits))&&& zO10 uI.bits 2047).toNat)
abbrev hfL (m:Int):Int:=iI.wrap (13- ((hxT m.toNat).length:Int))
abbrev hfR (m:Int):List UInt8:=Lib.repeatL [48] (hfL m).toNat
abbrev hfP (m:Int):List UInt8:=hfR m++hxT m.toNat
abbrev hfF (m:Int):List UInt8:=46 ::D2 (hfP m)
abbrev hfD (x:Nat) (c:UInt8):List UInt8:=snA x++[48,120,c]
abbrev s2a (x:Nat) (m:Int) (c:UInt8) (e:Int):List Prop:=[(hfD x c++hfF m++[112]).length+(Lib.itoa e).length<=9223372036854775807,-9223372036854775808<=e∧e<=9223372036854775807,(hfD x c++hfF m).length+1<=9223372036854775807,(hfD x c).length+(hfF m).length<=9223372036854775807,1+(D2 (hfP m)).length<=9223372036854775807,(48:UInt8)=48∧(hfP m).length<=9223372036854775807,(hfR m).length+(hxT m.toNat).length<=9223372036854775807,plO (hfL m),0<=m∧m < 4503599627370496,decide (0 < m)=true,(snA x).length+3<=9223372036854775807]
abbrev u2v (x:Nat) (m:Int) (c:UInt8) (e:Int):List Prop:=[(hfD x c++[112]).length+(Lib.itoa e).length<=9223372036854775807,-9223372036854775808<=e∧e<=9223372036854775807,(hfD x c).length+1<=9223372036854775807,decide (0 < m)=false,(snA x).length+3<=9223372036854775807]
abbrev hfZ (x:Nat):List Prop:=[(!(snW x==[]))=false,x < 18446744073709551616]
abbrev r2o (x:Nat) (m:Int) (c:UInt8) (e:Int):Value:= .string ⟨⟨hfD x c++hfF m++[112] ++Lib.itoa e⟩⟩
abbrev w2z (x:Nat) (c:UInt8) (e:Int):Value:= .string ⟨⟨hfD x c++[112] ++Lib.itoa e⟩⟩
section
variable (x:Nat)
theorem a3n:b6 j2j [] 200 25 [.float .f64 x] [true] =some (.string ⟨⟨snW x⟩⟩,[(!(snW x==[]))=true,x < 18446744073709551616]):=by kernel_rfl
theorem x2t:b6 j2j [] 200 25 [.float .f64 x] [false,true,true] =some (r2o x (hfM x) 49 (iI.wrap (hfE x-1023)),s2a x (hfM x) 49 (iI.wrap (hfE x-1023))++(decide (0 < hfE x)=true) ::hfZ x):=by kernel_rfl
theorem a3b:b6 j2j [] 200 25 [.float .f64 x] [false,true,false] =some (w2z x 49 (iI.wrap (hfE x-1023)),u2v x (hfM x) 49 (iI.wrap (hfE x-1023))++(decide (0 < hfE x)=true) ::hfZ x):=by kernel_rfl
theorem x2p:b6 j2j [] 200 25 [.float .f64 x] [false,false,true,true] =some (r2o x (hfM x) 48 (-1022),s2a x (hfM x) 48 (-1022)++(decide (0 < hfM x)=true) ::(decide (0 < hfE x)=false) ::hfZ x):=by kernel_rfl
theorem a3f:b6 j2j [] 200 25 [.float .f64 x] [false,false,false,false] =some (w2z x 48 (hfE x),u2v x (hfM x) 48 (hfE x)++(decide (0 < hfM x)=false) ::(decide (0 < hfE x)=false) ::hfZ x):=by kernel_rfl
end
theorem n1i {x:Nat} (k:Nat) (hx:x < 18446744073709551616) (hk:2 ^k-1 < 18446744073709551616):uI.wrap (zO10 uI.bits (x:Int)&&& zO10 uI.bits ((2 ^k-1:Nat):Int)).toNat=((x%2 ^k:Nat):Int):=by
 have h1:(zO10 uI.bits (x:Int)).toNat=x:=kV hx
 have h2:(zO10 uI.bits ((2 ^k-1:Nat):Int)).toNat=2 ^k-1:=kV hk
 rw [bV,h1,h2,W2]
 have:=O3 ((x%2 ^k:Nat):Int)
 have h3:x%2 ^k<=x:=Nat.mod_le _ _
 omega
abbrev heE (x:Nat):Nat:=ab x/4503599627370496
abbrev heM (x:Nat):Nat:=x%4503599627370496
section
variable {x:Nat} (hx:x < 18446744073709551616)
include hx
theorem w0f:hfM x=(heM x:Int):=n1i 52 hx (by decide)
theorem t0t:hfE x=(heE x:Int):=by
 have h0:Int.fdiv (x:Int) (2 ^min (52:Int).toNat uI.bits)=((x/4503599627370496:Nat):Int):=by
  rw [aV _ (by decide)]
  rfl
 have h1:=n1i (x:=x/4503599627370496) 11 (by omega) (by decide)
 have h2:hfE x=iI.wrap (((x/4503599627370496%2 ^11:Nat)):Int):=by
  unfold hfE
  rw [h0]
  exact H5 iI.wrap h1
 rw [h2,n0e (by omega)]
 show ((x/4503599627370496%2048:Nat):Int)=((x%p63/4503599627370496:Nat):Int)
 unfold p63
 omega
end
def heC (x:Nat):UInt8:=if 0 < heE x then 49 else 48
def heF (x:Nat):List UInt8:=if heM x=0 then [] else D2 (qA 13 (heM x))
def heX (x:Nat):Int:=if 0 < heE x then (heE x:Int)-1023 else if 0 < heM x then -1022 else 0
def z1j (x:Nat):List UInt8:=if snW x=[] then snA x++qY (heC x) (heF x) (heX x) else snW x
theorem y1a {m:Nat} (h:m < 4503599627370496):hfL (m:Int)=13- ((hxT m).length:Int)∧(hxT m).length<=13∧hfP (m:Int)=qA 13 m∧hfR (m:Int)=zO6 (13- (hxT m).length) 48:=by
 obtain⟨j1,j2,_⟩:=g0x h
 have hl:(hxT m).length=hxJ m+1:=dV _ _
 have e1:hfL (m:Int)=13- ((hxT m).length:Int):=by
  unfold hfL
  rw [i8,n0e (by omega)]
 have e2:hfR (m:Int)=zO6 (13- (hxT m).length) 48:=by
  unfold hfR
  rw [e1,I7]
  congr 1
  omega
 refine⟨e1,by omega,?_,e2⟩
 unfold hfP
 rw [e2,i8]
 have:=b0u (hxJ m+1) (13- (hxT m).length) m j2
 rw [show 13- (hxT m).length+(hxJ m+1)=13 by omega] at this
 exact this.symm
theorem l2p (x:Nat) (c:UInt8) {f:List UInt8} (h:f≠[]) (e:Int):snA x++qY c f e=snA x++[48,120,c] ++(46 ::f)++[112] ++Lib.itoa e:=by
 unfold qY hzU d1b
 rw [a6 h,iO]
 simp
theorem z1c (x:Nat) (c:UInt8) (e:Int):snA x++qY c [] e=snA x++[48,120,c] ++[112] ++Lib.itoa e:=by
 unfold qY hzU d1b
 rw [b9 rfl,iO]
 simp
theorem a1k {m:Nat} (h:m < 4503599627370496) (h0:0 < m):D2 (qA 13 m)≠[] :=by
 intro he
 have h1:=d0r 13 m h
 rw [x0f,he,show hxN [] =0 by rfl,C0] at h1
 omega
theorem x1f (x:Nat) (c:UInt8) (e:Int) {m:Nat} (h:m < 4503599627370496) (h0:0 < m):r2o x (m:Int) c e= .string ⟨⟨snA x++qY c (D2 (qA 13 m)) e⟩⟩:=by
 rw [l2p _ _ (a1k h h0)]
 unfold r2o hfF
 rw [(y1a h).2.2.1]
section
variable {x:Nat} (hx:x < 18446744073709551616)
include hx
theorem w1b:Ev.Pure zO7 J0 25 [.float .f64 x] (.string ⟨⟨z1j x⟩⟩):=by
 unfold z1j
 by_cases h:snW x=[]
 ·rw [b9 h]
  have hf:=V2 hx h
  have hE:heE x < 2048:=by
   have hf:x%p63 < 9218868437227405312:=hf
   show x%p63/4503599627370496 < 2048
   omega
  have hM:heM x < 4503599627370496:=B0 _ (by decide)
  obtain⟨r1,r2,r3,r4⟩:=y1a hM
  have hS:=g0k x
  have hD:∀ c,(hfD x c).length=(snA x).length+3:=fun c=>by unfold hfD; rw [s9]; rfl
  have hfl:(D2 (qA 13 (heM x))).length<=13:=by
   have:=h0a (qA 13 (heM x))
   rw [dV] at this
   exact this
  have hF:(hfF (heM x:Int)).length<=14:=by
   unfold hfF
   rw [r3,u6]
   omega
  have hz:d9 (hfZ x):=⟨snW_nil.2 h,hx,a7⟩
  have hO1:∀ c e,-5000<=e∧e<=5000->0 < heM x->d9 (s2a x (heM x:Int) c e):=by
   intro c e he h0
   have hi:=g0v e (by omega) (by omega)
   have hd:=hD c
   refine⟨?_,⟨by omega,by omega⟩,?_,by omega,?_,⟨rfl,?_⟩,?_,?_,⟨by omega,by omega⟩,d4 (by omega),by omega,a7⟩
   ·rw [s9,s9,bB]; omega
   ·rw [s9]; omega
   ·rw [r3]; omega
   ·rw [r3,dV]; omega
   ·rw [r4,i8,G5]; omega
   ·rw [r1]; exact⟨by omega,by omega,by omega⟩
  have hO0:∀ c e,-5000<=e∧e<=5000->heM x=0->d9 (u2v x (heM x:Int) c e):=by
   intro c e he h0
   have hi:=g0v e (by omega) (by omega)
   have hd:=hD c
   refine⟨?_,⟨by omega,by omega⟩,by omega,b8 (by omega),by omega,a7⟩
   rw [s9,bB]; omega
  have w1:iI.wrap ((heE x:Int)-1023)=(heE x:Int)-1023:=n0e (by omega)
  unfold heC heF heX
  by_cases c1:0 < heE x
  ·rw [b9 c1,b9 c1]
   by_cases c2:heM x=0
   ·have:=a3b x
    rw [w0f hx,t0t hx,w1] at this
    rw [b9 c2,z1c]
    exact d6 mS 10 _ _ this ((i6 _ _).2 ⟨hO0 _ _ (by omega) c2,d4 (by omega),hz⟩)
   ·have:=x2t x
    rw [w0f hx,t0t hx,w1] at this
    rw [a6 c2]
    rw [x1f x 49 _ hM (by omega)] at this
    exact d6 mS 10 _ _ this ((i6 _ _).2 ⟨hO1 49 ((heE x:Int)-1023) (by omega) (by omega),d4 (by omega),hz⟩)
  ·rw [a6 c1,a6 c1]
   by_cases c2:heM x=0
   ·have:=a3f x
    rw [w0f hx,t0t hx,show ((heE x:Nat):Int)=0 by omega] at this
    rw [b9 c2,a6 (by omega),z1c]
    exact d6 mS 10 _ _ this ((i6 _ _).2 ⟨hO0 _ _ (by omega) c2,b8 (by omega),b8 (by decide),hz⟩)
   ·have:=x2p x
    rw [w0f hx,t0t hx] at this
    rw [a6 c2,b9 (by omega)]
    rw [x1f x 48 _ hM (by omega)] at this
    exact d6 mS 10 _ _ this ((i6 _ _).2 ⟨hO1 48 (-1022) (by omega) (by omega),d4 (by omega),b8 (by omega),hz⟩)
 ·rw [a6 h]
  refine d6 mS 10 _ _ (a3n x) ⟨?_,hx,a7⟩
  cases hc:(!(snW x==[])) with
  | true=>rfl
  | false=>exact absurd (snW_nil.1 hc) h
omit hx in
theorem p2z:(heF x).length<=13∧pX (heC x ::heF x)∧hxN (heC x ::heF x)*16 ^(13- (heF x).length)=(if 0 < heE x then 4503599627370496 else 0)+heM x:=by
 have hM:heM x < 4503599627370496:=B0 _ (by decide)
 have hlen:(heF x).length<=13:=by
  unfold heF
  split
  ·exact n6 _
  ·have:=h0a (qA 13 (heM x))
   rw [dV] at this
   exact this
 have hf:hxN (heF x)*16 ^(13- (heF x).length)=heM x:=by
  unfold heF
  by_cases h:heM x=0
  ·rw [b9 h,h,show hxN [] =0 by rfl,C0]
  ·rw [a6 h]
   have h1:=x0f (qA 13 (heM x))
   rw [d0r 13 _ hM,dV] at h1
   exact h1.symm
 refine⟨hlen,fun c hc=> ?_,?_⟩
 ·rcases zzA84.1 hc with h | h
  ·rw [h]
   unfold heC
   split <;> decide
  ·unfold heF at h
   split at h
   ·cases h
   ·exact y0i 13 _ c (e1f h)
 ·rw [dZ,u4,hf,f9,<- i7,show (heF x).length+(13- (heF x).length)=13 by omega]
  congr 1
  unfold heC
  split
  ·decide
  ·decide
theorem u1v:paE (z1j x)=0∧paW (z1j x)=mW x:=by
 unfold z1j
 by_cases h:snW x=[]
 ·rw [b9 h]
  have hf:=V2 hx h
  obtain⟨v1,v2,v3⟩:=p2z (x:=x)
  have hy:ab x=heE x*4503599627370496+heM x:=by
   show x%p63=x%p63/4503599627370496*4503599627370496+x%4503599627370496
   unfold p63
   omega
  have hE:heE x<=2046:=by
   have hf:x%p63 < 9218868437227405312:=hf
   show x%p63/4503599627370496<=2046
   omega
  have hM:heM x < 4503599627370496:=B0 _ (by decide)
  have he: -10000 < heX x∧heX x < 10000:=by
   unfold heX
   split
   ·omega
   ·split <;> omega
  have hb:=a2n v2 (by omega) he
  obtain⟨z,hz⟩:∃ z,z=heX x-52:=⟨_,rfl⟩
  have hW:(if hxN (heC x ::heF x)=0 then 0 else rwd 53 (-1074) (hxN (heC x ::heF x)*16 ^(13- (heF x).length)*pN 2 z) (pD 2 z))=ab x:=by
   rw [v3]
   have h16:0 < 16 ^(13- (heF x).length):=p7 (by decide)
   by_cases c1:0 < heE x
   ·rw [b9 c1] at v3 ⊢
    have hne:¬hxN (heC x ::heF x)=0:=fun k=>by rw [k,C0] at v3; omega
    rw [a6 hne]
    have hzz:z=((heE x-1:Nat):Int)- ((1074:Nat):Int):=by
     rw [hz]
     unfold heX
     rw [b9 c1]
     omega
    have:=k0r (K:=53) (T:=1074) (M:=4503599627370496+heM x) (E:=heE x-1) (z:=z) (by decide) (by show _ < 9007199254740992; omega) (by omega) hzz (.inr (by show 4503599627370496<=_; omega))
    refine this.trans ?_
    rw [hy]
    show (heE x-1)*4503599627370496+(4503599627370496+heM x)=_
    omega
   ·rw [a6 c1] at v3 ⊢
    rw [Q6] at v3 ⊢
    by_cases c2:heM x=0
    ·have h0:hxN (heC x ::heF x)=0:=by
      rw [c2] at v3
      rcases zzA98.1 v3 with k | k
      ·exact k
      ·omega
     rw [b9 h0,hy,c2]
     omega
    ·have hne:¬hxN (heC x ::heF x)=0:=fun k=>by rw [k,C0] at v3; omega
     rw [a6 hne]
     have hzz:z=((0:Nat):Int)- ((1074:Nat):Int):=by
      rw [hz]
      unfold heX
      rw [a6 c1,b9 (by omega)]
      rfl
     have:=k0r (K:=53) (T:=1074) (M:=heM x) (E:=0) (z:=z) (by decide) (by show _ < 9007199254740992; omega) (by omega) hzz (.inl rfl)
     refine this.trans ?_
     rw [hy]
     omega
  obtain⟨n1,n2⟩:=n2f v2 v1 hz hW
  obtain⟨g1,g2⟩:=v0z (s:=g1r x) hb n1 n2 hf
  rw [g1d h]
  refine⟨g1,?_⟩
  rw [g2,k1q hx rfl]
  unfold mW
  rw [o0j h,a6 A4]
 ·rw [a6 h]
  exact rG h
end
def fX:List Value->Option (Value×List Prop)
 | [.int .u32 b] =>some (.float .f32 b.toNat,[])
 | _=>none
theorem xL (args:List Value) (v:Value) (l:List Prop) (h:fX args=some (v,l)) (_:d9 l):Ev.Pure zO7 J0 72 args v:=by
 unfold fX at h
 split at h
 ·cases h; exact yG Tryz.func72 (by kernel_rfl) (by kernel_rfl) (by kernel_rfl) (e:=Extern.MathFloatBits.float32frombits) (by kernel_rfl) rfl rfl (fun _=>rfl)
 ·cases h
def gK:List Value->Option (Value×List Prop)
 | [.float .f32 b] =>some (.int .u32 b,[])
 | _=>none
theorem xV (args:List Value) (v:Value) (l:List Prop) (h:gK args=some (v,l)) (_:d9 l):Ev.Pure zO7 J0 76 args v:=by
 unfold gK at h
 split at h
 ·cases h; exact yG Tryz.func76 (by kernel_rfl) (by kernel_rfl) (by kernel_rfl) (e:=Extern.MathFloatBits.float32bits) (by kernel_rfl) rfl rfl (fun _=>rfl)
 ·cases h
def d0a:List Arg->Option (List Arg×List Prop)
 | [.a [.v (.bool _), .v (.bool false), .v (.bool false), .s 39 .u64 N, .v (.bool false), .s 39 .u64 D], .a [.v (.int .i64 24), .v (.int .i64 (-149)), .v (.int .i64 104)], .c (.v (.int .i64 1))] =>
  some ([uR (c1z 24 104 (val W64 N) (val W64 D) (A2 24 (-149) (val W64 N) (val W64 D))),iR (c1v 24 104 (val W64 N) (val W64 D) (A2 24 (-149) (val W64 N) (val W64 D))),bR (E9 24 104 (val W64 N) (val W64 D) (A2 24 (-149) (val W64 N) (val W64 D))),fR (u0t 24 104 (val W64 N) (val W64 D) (A2 24 (-149) (val W64 N) (val W64 D))) (E9 24 104 (val W64 N) (val W64 D) (A2 24 (-149) (val W64 N) (val W64 D))) (j0f 24 (val W64 N) (val W64 D) (A2 24 (-149) (val W64 N) (val W64 D)))],[Cn N∧Cn D∧0 < val W64 D∧bl (val W64 N)<=1000000∧bl (val W64 D)<=1000000])
 | _=>none
theorem t0f:∀ az rs l,d0a az=some (rs,l)->d9 l->Ev.Sem zO7 J0 126 az rs:=by
 intro az rs l h hl
 unfold d0a at h
 split at h
 ·cases h
  rename_i n N D
  obtain⟨⟨c1,c2,hD,h1,h2⟩,_⟩:=hl
  unfold Cn at c1 c2
  have:=r0c n (N:=val W64 N) (D:=val W64 D) hD h1 h2
  rw [<- c1,<- c2,u0r] at this
  exact this
 ·cases h
def w0e:Tab:=l5 76 gK (l5 72 fX m1i)
theorem rU:Q0 zO7 J0 w0e:=b7 xV (b7 xL i0w)
def f1p:iG:=m4 126 (z6 [shM, .a [.v, .v, .v],shV] d0a) mF
theorem b1b:iD zO7 J0 f1p:=d8 (l7 _ t0f) W1
def bSi0:Base:=⟨zO7,J0,false,w0e,f1p,200,I6⟩
theorem f0a:BaseOk bSi0:=⟨progOk,rU,b1b,m0⟩
abbrev q2g:Cx:=bSi0.cx 10
abbrev yR (x:Nat):Arg:= .c (.v (.float .f32 x))
def sv (N:Nat):Nat:=val W64 (ws W64 N)
theorem o2r (N:Nat):sv N=N:=s7 N
def siM (N D:Nat):Nat:=c1z 24 104 N D (A2 24 (-149) N D)
def siE (N D:Nat):Int:=c1v 24 104 N D (A2 24 (-149) N D)
def siI (N D:Nat):Bool:=E9 24 104 N D (A2 24 (-149) N D)
def siX (N D:Nat):Bool:=u0t 24 104 N D (A2 24 (-149) N D)
def siU (N D:Nat):Bool:=j0f 24 N D (A2 24 (-149) N D)
def siG (N D:Nat):Bool:=decide ((0:Int) < ((siM N D:Nat):Int).fdiv 8388608)
def siB (M:Nat) (E:Int):Nat:=(uJ.wrap ↑(zO10 uJ.bits (uJ.wrap ((uJ.wrap (iI.wrap (E+150)))*2 ^min (Int.toNat 23) uJ.bits))||| zO10 uJ.bits (uJ.wrap ↑(zO10 uJ.bits (uJ.wrap ((M:Nat):Int))&&& zO10 uJ.bits 8388607).toNat)).toNat).toNat
def siL (M:Nat):Nat:=(uJ.wrap ((M:Nat):Int)).toNat
section
variable (n:Bool) (d:List UInt8) (e:Int) (r:Nat) (a b c:Bool)
abbrev siN (d:List UInt8) (e:Int):Nat:=sv (qtN d (e-0))
abbrev siD (e:Int):Nat:=sv (qtD [49] (e-0))
abbrev siP (d:List UInt8) (e:Int):List Prop:=[(ws W64 (qtN d (e-0))).length=(ws W64 (qtN d (e-0))).length,(ws W64 (qtD [49] (e-0))).length=(ws W64 (qtD [49] (e-0))).length,Cn (ws W64 (qtN d (e-0)))∧Cn (ws W64 (qtD [49] (e-0)))∧0 < siD e∧bl (siN d e)<=1000000∧bl (siD e)<=1000000,
 T6 d∧T6 [49] ∧d.length<=100000∧1<=100000∧(-1000000<=e-0∧e-0<=1000000)∧(-1000<=(d.length:Int)- ((1:Nat):Int)+(e-0)∧(d.length:Int)- ((1:Nat):Int)+(e-0)<=1000)]
abbrev siQ (d:List UInt8) (n:Bool) (e:Int):List Prop:=[false=false,false=false,(!G4 n d e)=false,d.length<=9223372036854775807,(0:Int)<=0∧(0:Int) < 1,true=true]
abbrev siV (d:List UInt8) (e:Int) (w r:Nat) (a b c:Bool):List Prop:=[zO4 .f32 w=zO4 .f32 r,zO8 (siX (siN d e) (siD e))=zO8 a,zO8 (siI (siN d e) (siD e))=zO8 b,zO8 (siU (siN d e) (siD e))=zO8 c,zO3 .i64 0=zO3 .i64 0]
theorem w2k:A7 q2g [] 200 74 [dA n d e,iR 1] [yR r,fR a b c,iR 0] [true,false,false,false,true] =some ([(d==[])=true] ++siQ d n e++[zO4 .f32 0=zO4 .f32 r,zO8 false=zO8 a,zO8 false=zO8 b,zO8 false=zO8 c,zO3 .i64 0=zO3 .i64 0]):=by kernel_rfl
theorem s2r:A7 q2g [] 200 74 [dA n d e,iR 1] [yR r,fR a b c,iR 0] [true,false,false,false,false,false,true,false] =some ([(n !=false)=false,siG (siN d e) (siD e)=true,siI (siN d e) (siD e)=false] ++siP d e++[(d==[])=false] ++siQ d n e++siV d e (siB (siM (siN d e) (siD e)) (siE (siN d e) (siD e))) r a b c):=by kernel_rfl
theorem v2i:A7 q2g [] 200 74 [dA n d e,iR 1] [yR r,fR a b c,iR 0] [true,false,false,false,false,false,false,false] =some ([(n !=false)=false,siG (siN d e) (siD e)=false,siI (siN d e) (siD e)=false] ++siP d e++[(d==[])=false] ++siQ d n e++siV d e (siL (siM (siN d e) (siD e))) r a b c):=by kernel_rfl
theorem t2x:A7 q2g [] 200 74 [dA n d e,iR 1] [yR r,fR a b c,iR 0] [true,false,false,false,false,true,false] =some ([(n !=false)=false,(floatToFloatBits .f64 9218868437227405312 .f32).isSome=true,siI (siN d e) (siD e)=true] ++siP d e++[(d==[])=false] ++siQ d n e++siV d e ((floatToFloatBits .f64 9218868437227405312 .f32).getD 0) r a b c):=by kernel_rfl
end
theorem e2s {x:Nat} (hx:x < 4294967296):(zO10 uJ.bits (x:Int)).toNat=x:=by
 show (zO10 32 (x:Int)).toNat=x
 rw [pG,oJ]
 exact H3 hx
theorem i2z {n:Nat} (h:n < 4294967296):uJ.wrap (n:Int)=(n:Int):=by
 rw [IntKind.wrap_u32]
 omega
theorem m2g {M:Nat} (h:M < 16777216):siL M=M:=by
 unfold siL
 rw [i2z (by omega),i8]
theorem j2r {M:Nat} {E:Int} (h1:8388608<=M) (h2:M < 16777216) (h3: -149<=E) (h4:E<=104):siB M E=(E+149).toNat*8388608+M:=by
 obtain⟨k,hk,hk2⟩:∃ k:Nat,E+150=(k:Int)∧k<=254:=⟨(E+150).toNat,by omega,by omega⟩
 have e1:iI.wrap (E+150)=(k:Int):=by rw [hk]; exact rA (by omega) (by omega)
 unfold siB
 rw [e1,i2z (n:=k) (by omega)]
 have e2:(k:Int)*2 ^min (Int.toNat 23) uJ.bits=((k*8388608:Nat):Int):=by
  rw [dE]
  rfl
 have e3:(zO10 uJ.bits (uJ.wrap ((M:Nat):Int))&&& zO10 uJ.bits 8388607).toNat=M-8388608:=by
  rw [i2z (n:=M) (by omega),bV,e2s (x:=M) (by omega),show (zO10 uJ.bits 8388607).toNat=2 ^23-1 by decide,W2]
  show M%8388608=_
  omega
 rw [e2,i2z (n:=k*8388608) (by omega),e3,i2z (n:=M-8388608) (by omega)]
 have e4:(zO10 uJ.bits ((k*8388608:Nat):Int)||| zO10 uJ.bits ((M-8388608:Nat):Int)).toNat=k*8388608+(M-8388608):=by
  rw [h0d,e2s (by omega),e2s (by omega)]
  have:=m0q (i:=23) (b:=M-8388608) (by show M-8388608 < 8388608; omega) k
  rw [n4] at this
  exact this.symm
 rw [e4,i2z (n:=k*8388608+(M-8388608)) (by omega),i8]
 omega
theorem y1g (N D:Nat):siG N D=decide (8388608<=siM N D):=by
 unfold siG
 have e:((siM N D:Nat):Int).fdiv 8388608=((siM N D/8388608:Nat):Int):=(l0o (siM N D) 8388608).symm
 rw [e]
 refine zzA163.2 ?_
 omega
theorem o1a {N D:Nat} (hN:0 < N) (hD:0 < D):(siI N D=true∧2139095040<=rwd 24 (-149) N D)∨(siI N D=false∧rwd 24 (-149) N D < 2139095040∧siM N D < 16777216∧-149<=siE N D∧siE N D<=104∧(8388608<=siM N D∨siE N D= -149)∧rwd 24 (-149) N D=(siE N D+149).toNat*8388608+siM N D):=by
 have i1:=I8 (L:= -149) (show 0 < 24 by decide) hN hD
 rw [W9 (by decide) hN hD i1]
 unfold siI siM siE c1z c1v E9 n0g h0w
 generalize A2 24 (-149) N D=e at*
 obtain⟨a1,a2,a3⟩:=i1
 have m1:=K6 N D e
 rw [show (2:Nat) ^24=16777216 by decide] at*
 rw [show (2:Nat) ^(24-1)=8388608 by decide] at*
 rw [show (e- -149).toNat=(e+149).toNat by omega]
 by_cases hc:16777216<=flm N D e
 ·rw [b9 hc,b9 hc]
  have hm:flm N D e=16777216:=by omega
  by_cases hi:104 < e+1
  ·left
   refine⟨d4 hi,?_⟩
   omega
  ·right
   have hf:decide (104 < e+1)=false:=b8 hi
   rw [hf,a6 (by decide),a6 (by decide),hm]
   refine⟨rfl,by omega,by omega,by omega,by omega, .inl (by omega),by omega⟩
 ·rw [a6 hc,a6 hc]
  by_cases hi:104 < e
  ·left
   refine⟨d4 hi,?_⟩
   rcases a3 with a3 | a3
   ·omega
   ·omega
  ·right
   have hf:decide (104 < e)=false:=b8 hi
   rw [hf,a6 (by decide),a6 (by decide)]
   refine⟨rfl,by omega,by omega,by omega,by omega,?_,by omega⟩
   rcases a3 with a3 | a3
   ·exact .inr a3
   ·exact .inl (by omega)
def t3W (d:List UInt8) (e:Int):Nat:=if d=[] then 0 else min (rwd 24 (-149) (qtN d e) (qtD [49] e)) 2139095040
def t3X (d:List UInt8) (e:Int):Bool:=if d=[] then false else siX (qtN d e) (qtD [49] e)
def t3I (d:List UInt8) (e:Int):Bool:=if d=[] then false else siI (qtN d e) (qtD [49] e)
def t3U (d:List UInt8) (e:Int):Bool:=if d=[] then false else siU (qtN d e) (qtD [49] e)
def t2n (d:List UInt8) (e:Int):Prop:=G4 false d e=true∧(d≠[] ->-1000<=(d.length:Int)- ((1:Nat):Int)+e∧(d.length:Int)- ((1:Nat):Int)+e<=1000)
theorem e2x {d:List UInt8} {e:Int} (h:0 < dgN d):0 < qtN d e:=by
 unfold qtN
 split
 ·exact B6 h (p7 (by decide))
 ·exact h
theorem x0e:T6 [49] :=rfl
theorem p2m {d:List UInt8} {e:Int} (h:t2n d e):Ev.Sem zO7 J0 74 [dA false d e,iR 1] [yR (t3W d e),fR (t3X d e) (t3I d e) (t3U d e),iR 0] :=by
 obtain⟨h1,h2⟩:=h
 obtain⟨a1,a2,a3,a4,a5⟩:=w9 h1
 have hq:∀ (f:Bool),d9 (siQ d f e)↔True∧(!G4 f d e)=false:=fun f=>⟨fun q=>⟨a7,q.2.2.1⟩,fun q=>⟨rfl,rfl,q.2,by omega,⟨by decide,by decide⟩,rfl,a7⟩⟩
 have hQ:d9 (siQ d false e):=(hq false).2 ⟨a7,by rw [h1]; rfl⟩
 unfold t3W t3X t3I t3U
 by_cases hd:d=[]
 ·rw [b9 hd,b9 hd,b9 hd,b9 hd]
  refine l6 f0a 10 _ _ (w2k false d e 0 false false false) (ap2 (ap2 ⟨by rw [hd]; rfl,a7⟩ hQ) ⟨rfl,rfl,rfl,rfl,rfl,a7⟩)
 ·rw [a6 hd,a6 hd,a6 hd,a6 hd]
  obtain⟨f1,f2⟩:=h2 hd
  have hN:0 < qtN d e:=e2x (a5 hd)
  have hD:0 < qtD [49] e:=m1w (by decide)
  have eN:siN d e=qtN d e:=by unfold siN; rw [o2r,Int.sub_zero]
  have eD:siD e=qtD [49] e:=by unfold siD; rw [o2r,Int.sub_zero]
  have hP:d9 (siP d e):=by
   refine⟨rfl,rfl,⟨Cn.ws _,Cn.ws _,by rw [eD]; exact hD,by rw [eN]; exact y1e a1 a2 (by omega),by rw [eD]; exact y1z x0e (by decide) (by omega)⟩,⟨a1,x0e,by omega,by decide,⟨by omega,by omega⟩,⟨by omega,by omega⟩⟩,a7⟩
  have hn:(d==[])=false:=x8 hd
  rcases o1a hN hD with ⟨g1,g2⟩ | ⟨g1,g2,g3,g4,g5,g6,g7⟩
  ·rw [S5 g2]
   have hw:=t2x false d e 2139095040 (siX (qtN d e) (qtD [49] e)) (siI (qtN d e) (qtD [49] e)) (siU (qtN d e) (qtD [49] e))
   rw [eN,eD] at hw
   refine l6 f0a 10 _ _ hw (ap2 (ap2 (ap2 (ap2 ⟨rfl,by decide+kernel,g1,a7⟩ hP) ⟨hn,a7⟩) hQ) ⟨by rw [show (floatToFloatBits .f64 9218868437227405312 .f32).getD 0=2139095040 by decide+kernel],?_,?_,?_,rfl,a7⟩)
   ·rw [eN,eD]
   ·rw [eN,eD]
   ·rw [eN,eD]
  ·rw [B2 (by omega)]
   by_cases hb:8388608<=siM (qtN d e) (qtD [49] e)
   ·have hw:=s2r false d e (rwd 24 (-149) (qtN d e) (qtD [49] e)) (siX (qtN d e) (qtD [49] e)) (siI (qtN d e) (qtD [49] e)) (siU (qtN d e) (qtD [49] e))
    rw [eN,eD,j2r hb g3 g4 g5,y1g,<- g7] at hw
    refine l6 f0a 10 _ _ hw (ap2 (ap2 (ap2 (ap2 ⟨rfl,d4 hb,g1,a7⟩ hP) ⟨hn,a7⟩) hQ) ⟨rfl,?_,?_,?_,rfl,a7⟩)
    ·rw [eN,eD]
    ·rw [eN,eD]
    ·rw [eN,eD]
   ·have hE:siE (qtN d e) (qtD [49] e)= -149:=g6.resolve_left hb
    have e0:rwd 24 (-149) (qtN d e) (qtD [49] e)=siM (qtN d e) (qtD [49] e):=by
     rw [g7,hE]
     show 0*8388608+_=_
     rw [C0,Q6]
    have hw:=v2i false d e (rwd 24 (-149) (qtN d e) (qtD [49] e)) (siX (qtN d e) (qtD [49] e)) (siI (qtN d e) (qtD [49] e)) (siU (qtN d e) (qtD [49] e))
    rw [eN,eD,m2g g3,y1g] at hw
    refine l6 f0a 10 _ _ hw (ap2 (ap2 (ap2 (ap2 ⟨rfl,b8 hb,g1,a7⟩ hP) ⟨hn,a7⟩) hQ) ⟨?_,?_,?_,?_,rfl,a7⟩)
    ·rw [e0]
    ·rw [eN,eD]
    ·rw [eN,eD]
    ·rw [eN,eD]
def i1e:List Arg->Option (List Arg×List Prop)
 | [.c (.v (.agg ⟨[.bool n, .string ⟨⟨d⟩⟩, .int .i64 e]⟩)), .c (.v (.int .i64 1))] =>some ([yR (t3W d e),fR (t3X d e) (t3I d e) (t3U d e),iR 0],[n=false∧t2n d e])
 | _=>none
theorem o1l:∀ az rs l,i1e az=some (rs,l)->d9 l->Ev.Sem zO7 J0 74 az rs:=by
 intro az rs l h hl
 unfold i1e at h
 split at h
 ·cases h
  obtain⟨⟨rfl,h1⟩,_⟩:=hl
  exact p2m h1
 ·cases h
theorem lT:Ieee.single.leastPlace= -149:=by decide
theorem qV:Ieee.single.binade=8388608:=by decide
theorem s1x:Ieee.single.infRung=2139095040:=by decide
theorem sU:Ieee.single.signWeight=2147483648:=by decide
theorem z1z:Ieee.single.fractionBits=23:=by decide
theorem i1f {n M k:Nat} (b:Bool) (h:n=M*2 ^k) (hM:0 < M):Ieee.Toward.even.cut b n k=M:=by
 have:=dJ h hM
 exact this
theorem c1j {a b:Nat} (ha:a<=253) (hb:b < 16777216):a*8388608+b<=2139095040:=by omega
theorem o2w {M k:Nat} {E:Int} (b:Bool) (hM:0 < M) (h24:M < 16777216) (hE: -149<=E) (hn:8388608<=M∨E= -149) (hT:E<=104):Ieee.single.nearest b (M*2 ^k) (E-k)=Ieee.single.word b ((E+149).toNat*8388608+M):=by
 have h2:0 < 2 ^k:=p7 (by decide)
 have h0:M*2 ^k≠0:=by
  have:=B6 hM h2
  omega
 have hl:(M*2 ^k).log2=M.log2+k:=by
  have hb:=jN (show M≠0 by omega)
  refine fV ?_ ?_
  ·rw [i7]; exact o9 _ hb.1
  ·rw [show M.log2+k+1=M.log2+1+k by omega,i7]; exact F8 hb.2 h2
 have hlast:max (E- (k:Int)+((M*2 ^k).log2:Nat)- (Ieee.single.fractionBits:Nat)) Ieee.single.leastPlace=E:=by
  rw [hl,lT,z1z]
  by_cases hb:8388608<=M
  ·have:M.log2=23:=fV hb h24
   rw [this]
   omega
  ·have hlt:M.log2 < 23:=(tM (by omega)).2 (by show M < 8388608; omega)
   rcases hn with hn | hn <;> omega
 unfold Ieee.Format.nearest
 rw [a6 h0]
 simp only [hlast]
 have e1:(E- (k:Int)-E).toNat=0:=by omega
 have e2:(E- (E- (k:Int))).toNat=k:=by omega
 rw [e1,e2,x0s,i1f b rfl hM,lT,qV,s1x]
 rw [show E- -149=E+149 by omega]
 rw [B2 (c1j (by omega) h24)]
def dbl (W:Nat):Nat:=(floatToFloatBits .f32 W .f64).getD 0
def sgM (W:Nat):Nat:=if W < 8388608 then W else 8388608+W%8388608
def sgP (W:Nat):Int:=if W < 8388608 then -149 else -149+((W/8388608-1:Nat):Int)
theorem i0p {W:Nat} (h:W < 2139095040):Ieee.single.read W= .number false (sgM W) (sgP W):=by
 unfold Ieee.Format.read sgM sgP
 rw [sU,qV,s1x,lT]
 have e1:W%2147483648=W:=H3 (by omega)
 simp only [e1]
 rw [show (W/2147483648%2==1)=false by rw [uE (by omega)]; rfl]
 by_cases h1:W < 8388608
 ·rw [b9 h1,b9 h1,b9 h1]
 ·rw [a6 h1,a6 h1,a6 h1,b9 h]
theorem rC {W:Nat} (h:W < 2139095040):sgM W < 16777216∧-149<=sgP W∧sgP W<=104∧(8388608<=sgM W∨sgP W= -149)∧(sgP W+149).toNat*8388608+sgM W=W∧(0 < W->0 < sgM W):=by
 unfold sgM sgP
 by_cases h1:W < 8388608
 ·rw [b9 h1,b9 h1]
  exact⟨by omega,by omega,by omega, .inr rfl,by omega,fun h=>h⟩
 ·rw [a6 h1,a6 h1]
  have hm:=B0 W (show 0 < 8388608 by decide)
  have hd:=Y1 W 8388608
  exact⟨by omega,by omega,by omega, .inl (by omega),by omega,fun _=>by omega⟩
theorem f2l {M:Nat} (h0:0 < M) (h24:M<=16777216):∃ t,28<=t∧t<=52∧4503599627370496<=M*2 ^t∧M*2 ^t < 9007199254740992∧(8388608<=M->t<=29)∧(M < 16777216->29<=t):=by
 have hb:=jN (show M≠0 by omega)
 have hl:M.log2<=24:=by
  rcases E0 24 M.log2 with h | h
  ·have:2 ^25<=2 ^M.log2:=w7 (by decide) h
   have e:(2:Nat) ^25=33554432:=by decide
   omega
  ·exact h
 refine⟨52-M.log2,by omega,by omega,?_,?_,fun h8=> ?_,fun h16=> ?_⟩
 ·have:2 ^M.log2*2 ^(52-M.log2)<=M*2 ^(52-M.log2):=o9 _ hb.1
  rw [<- i7,show M.log2+(52-M.log2)=52 by omega] at this
  exact this
 ·have:M*2 ^(52-M.log2) < 2 ^(M.log2+1)*2 ^(52-M.log2):=F8 hb.2 (p7 (by decide))
  rw [<- i7,show M.log2+1+(52-M.log2)=53 by omega] at this
  exact this
 ·have:¬M.log2 < 23:=fun h=>by
   have h2:2 ^(M.log2+1)<=2 ^23:=w7 (by decide) h
   have e:(2:Nat) ^23=8388608:=by decide
   omega
  omega
 ·have:M.log2 < 24:=(tM (by omega)).2 (by show M < 16777216; exact h16)
  omega
theorem p2j {w:Nat} (b:Bool) (h1:4503599627370496<=w) (h2:w < 9218868437227405312):Ieee.double.read (if b=true then w+9223372036854775808 else w)= .number b (4503599627370496+w%4503599627370496) (-1074+((w/4503599627370496-1:Nat):Int)):=by
 cases b with
 | false=>exact rJ h1 h2
 | true=>
  unfold Ieee.Format.read
  have hb:Ieee.double.binade=4503599627370496:=by decide
  have hi:Ieee.double.infRung=9218868437227405312:=by decide
  rw [z1s,hb,hi,P0,b9 rfl]
  have e1:(w+9223372036854775808)%9223372036854775808=w:=by omega
  have e2:(w+9223372036854775808)/9223372036854775808=1:=by omega
  simp only [e1,e2]
  rw [a6 (by omega),b9 h2]
  rfl
theorem c1b {k q:Nat} (h1:4503599627370496<=q) (h2:q < 9007199254740992):(k*4503599627370496+q)/4503599627370496=k+1∧4503599627370496+(k*4503599627370496+q)%4503599627370496=q:=by omega
theorem s1z {k q:Nat} (hk:k<=1178) (h1:4503599627370496<=q) (h2:q < 9007199254740992):4503599627370496<=k*4503599627370496+q∧k*4503599627370496+q < 9218868437227405312:=by omega
theorem a2f {k q:Nat} (b:Bool) (hk:k<=1178) (h1:4503599627370496<=q) (h2:q < 9007199254740992):Ieee.double.read (if b=true then k*4503599627370496+q+9223372036854775808 else k*4503599627370496+q)= .number b q (-1074+(k:Int)):=by
 obtain⟨l1,l2⟩:=s1z hk h1 h2
 obtain⟨e1,e2⟩:=c1b (k:=k) h1 h2
 have hr:=p2j b l1 l2
 rw [e1,e2,iV] at hr
 exact hr
theorem g2s {W:Nat} (b:Bool) (h:W < 2139095040):(Ieee.single.read (if b=true then W+2147483648 else W)).isInfinity=false:=by
 cases b with
 | false=>rw [a6 (by decide),i0p h]; rfl
 | true=>
  rw [b9 rfl]
  unfold Ieee.Format.read
  rw [sU,qV,s1x,lT]
  have q1:(W+2147483648)%2147483648=W:=by omega
  simp only [q1]
  by_cases h3:W < 8388608
  ·rw [b9 h3]; rfl
  ·rw [a6 h3,b9 h]; rfl
theorem m2d (b:Bool) (W:Nat):Ieee.single.word b W=if b=true then W+2147483648 else W:=by
 unfold Ieee.Format.word
 rw [sU]
 cases b
 ·rfl
 ·exact z0l _ _
theorem i2n {k q W:Nat} {P:Int} {b:Bool} (hr:Ieee.double.read (if b=true then k*4503599627370496+q+9223372036854775808 else k*4503599627370496+q)= .number b q P) (hw:Ieee.single.nearest b q P=if b=true then W+2147483648 else W) (h:W < 2139095040):
  floatToFloatBits .f64 (if b=true then k*4503599627370496+q+9223372036854775808 else k*4503599627370496+q) .f32=some (if b=true then W+2147483648 else W):=by
 generalize (if b=true then k*4503599627370496+q+9223372036854775808 else k*4503599627370496+q)=X at*
 unfold floatToFloatBits
 rw [a6 (by decide)]
 have hd:FloatKind.f64.decode X= .number b q P:=hr
 rw [hd]
 have hni:(FloatKind.f32.decode (FloatKind.f32.encode (.number b q P))).isInfinity=false:=by
  show (Ieee.single.read (Ieee.single.nearest b q P)).isInfinity=false
  rw [hw]
  exact g2s b h
 show (if (FloatKind.f32.decode (FloatKind.f32.encode (.number b q P))).isInfinity=true then none else some (Ieee.single.nearest b q P))=_
 rw [hni,a6 (by decide),hw]
theorem j2q {M t k:Nat} {E:Int} (b:Bool) (hM:0 < M) (h24:M < 16777216) (hE: -149<=E) (hn:8388608<=M∨E= -149) (hT:E<=104) (h1:4503599627370496<=M*2 ^t) (h2:M*2 ^t < 9007199254740992) (ht:t<=52) (hk:E- (t:Int)+1074=(k:Int)) (hlt:(E+149).toNat*8388608+M < 2139095040):
  floatToFloatBits .f64 (if b=true then k*4503599627370496+M*2 ^t+9223372036854775808 else k*4503599627370496+M*2 ^t) .f32=some (if b=true then (E+149).toNat*8388608+M+2147483648 else (E+149).toNat*8388608+M):=by
 have hk2:k<=1178:=by omega
 have hr:=a2f b hk2 h1 h2
 rw [show (-1074:Int)+(k:Int)=E- (t:Int) by omega] at hr
 have hw:=o2w (k:=t) b hM h24 hE hn hT
 rw [m2d] at hw
 exact i2n hr hw hlt
theorem i2e {W k q:Nat} {P:Int} (hr:Ieee.single.read W= .number false q P) (hw:Ieee.double.nearest false q P=k) (hi:(Ieee.double.read k).isInfinity=false):floatToFloatBits .f32 W .f64=some k:=by
 unfold floatToFloatBits
 rw [a6 (by decide)]
 have hd:FloatKind.f32.decode W= .number false q P:=hr
 rw [hd]
 show (if (Ieee.double.read (Ieee.double.nearest false q P)).isInfinity=true then none else some (Ieee.double.nearest false q P))=_
 rw [hw,hi,a6 (by decide)]
theorem u0a {W:Nat} (h0:0 < W) (h:W < 2139095040):∃ t k:Nat,29<=t∧t<=52∧4503599627370496<=sgM W*2 ^t∧sgM W*2 ^t < 9007199254740992∧(8388608<=sgM W->t=29)∧sgP W- (t:Int)+1074=(k:Int)∧floatToFloatBits .f32 W .f64=some (k*4503599627370496+sgM W*2 ^t):=by
 obtain⟨p1,p2,p3,p4,p5,p6⟩:=rC h
 obtain⟨t,t1,t2,t3,t4,t5,t6⟩:=f2l (p6 h0) (by omega)
 obtain⟨k,hk⟩:∃ k:Nat,sgP W- (t:Int)+1074=(k:Int):=⟨(sgP W- (t:Int)+1074).toNat,by omega⟩
 have hn:=uB (m:=sgM W) (t:=t) (P:=sgP W) t3 t4 (by omega) (by omega)
 rw [hk,i8] at hn
 refine⟨t,k,t6 p1,t2,t3,t4,fun h8=>by have:=t5 h8; have:=t6 p1; omega,hk,i2e (i0p h) hn ?_⟩
 have:=a2f (k:=k) false (by omega) t3 t4
 rw [a6 (by decide)] at this
 rw [this]
 rfl
theorem x0b:floatToFloatBits .f32 0 .f64=some 0:=by decide+kernel
theorem e1h:dbl 0=0:=by unfold dbl; rw [x0b]; rfl
theorem u0z {W:Nat} (h:W < 2139095040):floatToFloatBits .f32 W .f64=some (dbl W):=by
 unfold dbl
 rcases F2 W with h0 | h0
 ·rw [h0,x0b]; rfl
 ·obtain⟨t,k,_,_,_,_,_,_,h6⟩:=u0a h0 h
  rw [h6]
  rfl
theorem n2y {k q:Nat} (hk:k<=1149) (hq:q < 16777216):k*4503599627370496+q*536870912<=5183643170566569984:=by omega
theorem m2b {k q:Nat} (hk:k<=896) (hq:q < 9007199254740992):k*4503599627370496+q<=5183643170566569984:=by omega
theorem n1o {W:Nat} (h:W < 2139095040):dbl W<=5183643170566569984:=by
 rcases F2 W with h0 | h0
 ·rw [h0,e1h]
  exact n6 _
 ·obtain⟨t,k,t1,t2,t3,t4,t5,hk,t6⟩:=u0a h0 h
  obtain⟨p1,p2,p3,p4,p5,p6⟩:=rC h
  have e:dbl W=k*4503599627370496+sgM W*2 ^t:=by unfold dbl; rw [t6]; rfl
  rw [e]
  rcases p4 with p4 | p4
  ·have:=t5 p4
   subst this
   exact n2y (by omega) p1
  ·exact m2b (by omega) t4
theorem t1v {W:Nat} (b:Bool) (h:W < 2139095040):floatToFloatBits .f64 (if b=true then dbl W+9223372036854775808 else dbl W) .f32=some (if b=true then W+2147483648 else W):=by
 rcases F2 W with h0 | h0
 ·rw [h0,e1h]
  cases b <;> decide+kernel
 ·obtain⟨t,k,t1,t2,t3,t4,t5,hk,t6⟩:=u0a h0 h
  obtain⟨p1,p2,p3,p4,p5,p6⟩:=rC h
  have e:dbl W=k*4503599627370496+sgM W*2 ^t:=by unfold dbl; rw [t6]; rfl
  have:=j2q b (p6 h0) p1 p2 p4 p3 t3 t4 t2 hk (by rw [p5]; exact h)
  rw [p5,<- e] at this
  exact this
def i1s:iG:=m4 74 (z6 [shV,shV] i1e) mF
theorem c1e:iD zO7 J0 i1s:=d8 (l7 _ o1l) W1
def bSi1:Base:=⟨zO7,J0,false,w0e,i1s,200,I6⟩
theorem b0q:BaseOk bSi1:=⟨progOk,rU,c1e,m0⟩
abbrev q2x:Cx:=bSi1.cx 10
section
variable (hx:Bool) (d:List UInt8) (e n:Int) (r:Nat) (z:Int)
abbrev nsA (hx:Bool) (d:List UInt8) (e n:Int):List Arg:=q2w 73 hx d e n 24 (-149)
theorem z2o:A7 q2x [] 200 38 (nsA hx d e n) [xR r,iR z] [true] =some [(d3 d==([] :List UInt8))=true,(48:UInt8)=48,zO4 .f64 0=zO4 .f64 r,zO3 .i64 0=zO3 .i64 z] :=by kernel_rfl
theorem y2i:A7 q2x [] 200 38 (nsA hx d e n) [xR r,iR z] [false,false,true] =some [decide (400 < neP d e)=true,hx=false,(d3 d==([] :List UInt8))=false,(48:UInt8)=48,zO4 .f64 9218868437227405312=zO4 .f64 r,zO3 .i64 0=zO3 .i64 z] :=by kernel_rfl
theorem x2w:A7 q2x [] 200 38 (nsA hx d e n) [xR r,iR z] [false,false,false,true] =some [decide (neP d e < Int.negSucc 399)=true,decide (400 < neP d e)=false,hx=false,(d3 d==([] :List UInt8))=false,(48:UInt8)=48,zO4 .f64 0=zO4 .f64 r,zO3 .i64 0=zO3 .i64 z] :=by kernel_rfl
def nsW (d:List UInt8) (e:Int):Nat:=t3W (mdD (d3 d) e) (mdX (d3 d) e)
end
section
variable (d:List UInt8) (e n:Int) (r:Nat) (z:Int)
theorem z2g:A7 q2x [] 200 38 (nsA false d e n) [xR r,iR z] [false,false,false,false,false] =some [(floatToFloatBits .f32 (nsW d e) .f64).isSome=true,mdN false (d3 d) e=false∧t2n (mdD (d3 d) e) (mdX (d3 d) e),(mdE (d3 d) e !=0)=false,(d3 d).length<=140737488351232,n8 (d3 d)=true,decide (neP d e < Int.negSucc 399)=false,decide (400 < neP d e)=false,false=false,(d3 d==([] :List UInt8))=false,(48:UInt8)=48,zO4 .f64 (dbl (nsW d e))=zO4 .f64 r,zO3 .i64 0=zO3 .i64 z] :=by kernel_rfl
end
theorem e1d:floatToFloatBits .f32 2139095040 .f64=some 9218868437227405312:=by decide+kernel
theorem t1z:dbl 2139095040=9218868437227405312:=by unfold dbl; rw [e1d]; rfl
theorem l2o {W:Nat} (h:W<=2139095040):(floatToFloatBits .f32 W .f64).isSome=true:=by
 rcases E0 W 2139095040 with h1 | h1
 ·rw [u0z h1]; rfl
 ·obtain rfl:W=2139095040:=by omega
  rw [e1d]; rfl
theorem v2a (W:Nat):min W 2139095040<=2139095040:=Nat.min_le_right _ _
theorem g1t {n:Nat} {k:Nat} {e:Int} (h:10 ^k<=n) (hk:400<=(k:Int)+e):2139095040<=dcW 24 (-149) n e:=g1a (fN (by decide) _) (a2b (x7 (by decide+kernel) e1p) h hk)
theorem y0y {d:List UInt8} {e n:Int} (hd:n8 d=true) (hl:d.length<=8192) (he: -1000000000000000000<=e∧e<=1000000000000000000):Ev.Sem zO7 J0 38 (nsA false d e n) [xR (dbl (min (dcW 24 (-149) (dcN d) e) 2139095040)),iR 0] :=by
 have hle:=B4 d
 have hP:neP d e=neQ d e:=by
  unfold neP neQ
  exact wr (by show -9223372036854775808<=((d3 d).length:Int)+e; omega) (by show ((d3 d).length:Int)+e<=9223372036854775807; omega)
 have hT:n8 (d3 d)=true:=allDB_mem.2 fun b hb=>allDB_mem.1 hd b (D6 hb)
 by_cases h0:d3 d=[]
 ·have e1:dbl (min (dcW 24 (-149) (dcN d) e) 2139095040)=0:=by
   rw [<- K7,h0,show dcN [] =0 from rfl,lJ,uQ,e1h]
  rw [e1]
  refine l6 b0q 10 _ _ (z2o false d e n _ _) ?_
  rw [h0]
  exact⟨rfl,rfl,rfl,rfl,a7⟩
 have k0:(d3 d==([] :List UInt8))=false:=x8 h0
 obtain⟨c,r,hcr⟩:∃ c r,d3 d=c ::r:=by
  cases h:d3 d with
  | nil=>exact absurd h h0
  | cons c r=>exact⟨c,r,rfl⟩
 have hlen:(d3 d).length=r.length+1:=by rw [hcr]; rfl
 have hge:=f1o hd hcr
 have hlt:=j1c hT
 rw [K7] at hlt
 by_cases h1:400 < neQ d e
 ·have h1':=h1
  unfold neQ at h1'
  rw [S5 (g1t hge (by omega)),t1z]
  refine l6 b0q 10 _ _ (y2i false d e n _ _) ?_
  rw [hP]
  exact⟨d4 h1,rfl,k0,rfl,rfl,rfl,a7⟩
 have k1:decide (400 < neP d e)=false:=by rw [hP]; exact b8 h1
 by_cases h2:neQ d e < -400
 ·have h2':=h2
  unfold neQ at h2'
  rw [m0j (by decide) ⟨by decide,by decide⟩ hlt (by omega),uQ,e1h]
  refine l6 b0q 10 _ _ (x2w false d e n _ _) ?_
  exact⟨by rw [hP]; exact d4 h2,k1,rfl,k0,rfl,rfl,rfl,a7⟩
 have k2:decide (neP d e < Int.negSucc 399)=false:=by rw [hP]; exact b8 h2
 unfold neQ at h1 h2
 have hb:=W8 (t:=d3 d)
 have hmE:mdE (d3 d) e=0:=by
  unfold mdE
  rw [A5,a6 h0,a6 (by omega),a6 (by omega)]
 have hI:mdI (d3 d) e=true:=by
  unfold mdI
  rw [A5,hmE,d4 h0]
  rfl
 have hD:mdD (d3 d) e=mdS (d3 d):=by unfold mdD; rw [b9 hI]
 have hX:mdX (d3 d) e=e+mdB (d3 d):=by unfold mdX; rw [b9 hI]
 have hN:mdN false (d3 d) e=false:=by unfold mdN; rw [b9 hI]
 have hS:dcN d=dcN (mdS (d3 d))*10 ^(mdB (d3 d)).toNat:=by
  have h3:=sZ (d3 d)
  rw [K7] at h3
  have h4:mdS (d3 d)=D2 (d3 d):=by unfold mdS; rw [A5]
  have h5:(mdB (d3 d)).toNat=(d3 d).length- (D2 (d3 d)).length:=by
   unfold mdB
   rw [A5,h4]
   omega
  rw [h4,h5]
  exact h3
 obtain⟨c2,r2,hc2,_⟩:=jR (t:=d3 d) (by rw [A5]; exact h0)
 have hSd:n8 (mdS (d3 d))=true:=allDB_mem.2 fun b hb=>allDB_mem.1 hT b (uV hb)
 obtain⟨_,hg⟩:=zY hSd
 have hW:nsW d e=min (dcW 24 (-149) (dcN d) e) 2139095040:=by
  unfold nsW t3W
  rw [hD,hX,a6 (by rw [hc2]; exact List.cons_ne_nil _ _)]
  have q1:qtN (mdS (d3 d)) (e+mdB (d3 d))=dcN (mdS (d3 d))*pN 10 (e+mdB (d3 d)):=by
   unfold qtN pN
   rw [hg]
   split
   ·rfl
   ·rw [s4]
  have q2:qtD [49] (e+mdB (d3 d))=pD 10 (e+mdB (d3 d)):=by
   unfold qtD pD
   rw [j0u]
   split
   ·rfl
   ·rw [V1]
  rw [q1,q2]
  have q4:=sM (K:=24) (L:= -149) (by decide) (dcN (mdS (d3 d))) (mdB (d3 d)).toNat e
  rw [<- hS,show e+(((mdB (d3 d)).toNat:Nat):Int)=e+mdB (d3 d) by omega] at q4
  rw [q4]
  rfl
 rw [<- hW]
 refine l6 b0q 10 _ _ (z2g d e n _ _) ?_
 exact⟨l2o (by rw [hW]; exact v2a _),⟨hN,by
  have:=d0h (g:=false) (x:=e) hT
  rw [hN] at this
  exact this,fun hne=>by
  have:=w0u (d:=d) (e:=e) (by unfold neQ; omega) (by unfold neQ; omega) hne
  rw [Int.sub_zero,bB] at this
  exact this⟩,by rw [hmE]; rfl,by omega,hT,k2,k1,rfl,k0,rfl,rfl,rfl,a7⟩
def nsX (h:Bool) (d:List UInt8) (e:Int):Nat:=if h=true then (if d3 d=[] then 0 else hxW (d3 d) e 24 (-149)) else dbl (min (dcW 24 (-149) (dcN d) e) 2139095040)
def b2b (h:Bool) (d:List UInt8) (e:Int):Prop:=d.length<=8192∧(-100000000000000000<=e∧e<=100000000000000000)∧(if h=true then pX d else n8 d=true)
theorem a1o {h:Bool} {d:List UInt8} {e n:Int} (hk:b2b h d e):Ev.Sem zO7 J0 38 (nsA h d e n) [xR (nsX h d e),iR 0] :=by
 obtain⟨h1,h2,h3⟩:=hk
 unfold nsX
 cases h with
 | true=>
  rw [b9 rfl] at h3
  rw [b9 rfl]
  exact x0h h3 (by omega) h2 ⟨by decide,by decide⟩ ⟨by decide,by decide⟩
 | false=>
  rw [a6 (by decide)] at h3
  rw [a6 (by decide)]
  exact y0y h3 h1 ⟨by omega,by omega⟩
def e1n:List Arg->Option (List Arg×List Prop)
 | [.c (.v (.agg ⟨[.bool h, .string ⟨⟨d⟩⟩, .int .i64 e, .int .i64 _]⟩)), .c (.v (.int .i64 24)), .c (.v (.int .i64 (-149))), .c (.v (.func (.func 73) ⟨[]⟩ ⟨[]⟩))] =>some ([xR (nsX h d e),iR 0],[b2b h d e])
 | _=>none
theorem j1h:∀ az rs l,e1n az=some (rs,l)->d9 l->Ev.Sem zO7 J0 38 az rs:=by
 intro az rs l h hl
 unfold e1n at h
 split at h
 ·cases h
  exact a1o hl.1
 ·cases h
def j1i:iG:=m4 38 (z6 [shV,shV,shV,shV] e1n) mF
theorem a1n:iD zO7 J0 j1i:=d8 (l7 _ j1h) W1
def bSi2:Base:=⟨zO7,J0,false,w0e,j1i,200,I6⟩
theorem f0l:BaseOk bSi2:=⟨progOk,rU,a1n,m0⟩
abbrev q2y:Cx:=bSi2.cx 10
def smX (t:List UInt8):Nat:=nsX (n0d t) (n0b t) (n0i t)
def smG (t:List UInt8):Bool:=gtL (smX t) 5183643170566569984
def smN (t:List UInt8):Bool:=Ieee.double.order (rdO t) (rdO t) !=some .eq
def smF (x:Nat):Nat:=(floatToFloatBits .f64 x .f32).getD 0
def smS (x:Nat):Prop:=(floatToFloatBits .f64 x .f32).isSome=true
section
variable (t:List UInt8) (r:Nat) (z:Int)
theorem y2w:A7 q2y [] 200 29 (tA t) [yR r,iR z] [true,true] =some [smN t=true,paB t=true,zO4 .f32 2143289344=zO4 .f32 r,zO3 .i64 (rdE t)=zO3 .i64 z] :=by kernel_rfl
theorem z2u:A7 q2y [] 200 29 (tA t) [yR r,iR z] [true,false] =some [smS (rdO t),smN t=false,paB t=true,zO4 .f32 (smF (rdO t))=zO4 .f32 r,zO3 .i64 (rdE t)=zO3 .i64 z] :=by kernel_rfl
theorem x2s:A7 q2y [] 200 29 (tA t) [yR r,iR z] [false,true,true] =some [true=true,smG t=true,b2b (n0d t) (n0b t) (n0i t),paB t=false,zO4 .f32 0=zO4 .f32 r,zO3 .i64 15=zO3 .i64 z] :=by kernel_rfl
theorem z2d:A7 q2y [] 200 29 (tA t) [yR r,iR z] [false,false,false] =some [smS (sgV (smX t) (rdN t)),false=false,smG t=false,b2b (n0d t) (n0b t) (n0i t),paB t=false,zO4 .f32 (smF (sgV (smX t) (rdN t)))=zO4 .f32 r,zO3 .i64 0=zO3 .i64 z] :=by kernel_rfl
end
def smW (t:List UInt8):Nat:=if paB t=true then (if smN t=true then 2143289344 else smF (rdO t)) else if smG t=true then 0 else smF (sgV (smX t) (rdN t))
def smE (t:List UInt8):Int:=if paB t=true then rdE t else if smG t=true then 15 else 0
def h1r (t:List UInt8):Prop:=paB t=false->b2b (n0d t) (n0b t) (n0i t)∧(smG t=false->smS (sgV (smX t) (rdN t)))
theorem r1x (t:List UInt8):smN t=false->smS (rdO t):=by
 unfold smN smS rdO
 intro h
 split
 ·decide+kernel
 ·split
  ·rename_i h1 h2
   rw [a6 h1,b9 h2] at h
   revert h
   decide+kernel
  ·split
   ·split <;> decide+kernel
   ·decide+kernel
theorem c0r {t:List UInt8} (h:h1r t):Ev.Sem zO7 J0 29 (tA t) [yR (smW t),iR (smE t)] :=by
 cases h1:paB t with
 | true=>
  have eE:smE t=rdE t:=by unfold smE; rw [h1]; exact b9 rfl
  cases h2:smN t with
  | true=>
   have e:smW t=2143289344:=by unfold smW; rw [h1,h2]; rfl
   rw [e,eE]
   exact l6 f0l 10 _ _ (y2w t _ _) ⟨h2,h1,rfl,rfl,a7⟩
  | false=>
   have e:smW t=smF (rdO t):=by unfold smW; rw [h1,h2]; rfl
   rw [e,eE]
   exact l6 f0l 10 _ _ (z2u t _ _) ⟨r1x t h2,h2,h1,rfl,rfl,a7⟩
 | false=>
  obtain⟨k1,k2⟩:=h h1
  cases h2:smG t with
  | true=>
   have e:smW t=0:=by unfold smW; rw [h1,h2]; rfl
   have eE:smE t=15:=by unfold smE; rw [h1,h2]; rfl
   rw [e,eE]
   exact l6 f0l 10 _ _ (x2s t _ _) ⟨rfl,h2,k1,h1,rfl,rfl,a7⟩
  | false=>
   have e:smW t=smF (sgV (smX t) (rdN t)):=by unfold smW; rw [h1,h2]; rfl
   have eE:smE t=0:=by unfold smE; rw [h1,h2]; rfl
   rw [e,eE]
   exact l6 f0l 10 _ _ (z2d t _ _) ⟨k2 h2,rfl,h2,k1,h1,rfl,rfl,a7⟩
theorem z1f:(5183643170566569984:Nat)<=9218868437227405312:=by decide
theorem o2k {W:Nat} (h:W < 2139095040):gtL (dbl W) 5183643170566569984=false:=by
 have h1:=n1o h
 rw [m1u (x7 h1 z1f) z1f]
 exact b8 (Nat.not_lt.2 h1)
theorem l2t {W:Nat} (h:W < 2139095040):dbl W < 9223372036854775808:=y4 (n1o h) (by decide)
theorem u2n {t:List UInt8} {W:Nat} (hB:paB t=false) (hk:b2b (n0d t) (n0b t) (n0i t)) (h1:W < 2139095040->smX t=dbl W) (h2:2139095040<=W->smG t=true):
  h1r t∧smE t=(if 2139095040<=W then 15 else 0)∧smW t=if 2139095040<=W then 0 else if rdN t=true then W+2147483648 else W:=by
 have nB:¬paB t=true:=by rw [hB]; decide
 by_cases hi:2139095040<=W
 ·have hg:=h2 hi
  refine⟨fun _=>⟨hk,fun k=>absurd hg (by rw [k]; decide)⟩,?_,?_⟩
  ·unfold smE
   rw [a6 nB,b9 hg,b9 hi]
  ·unfold smW
   rw [a6 nB,b9 hg,b9 hi]
 ·have hlt:W < 2139095040:=by omega
  have hx:=h1 hlt
  have hg:smG t=false:=by unfold smG; rw [hx]; exact o2k hlt
  have ng:¬smG t=true:=by rw [hg]; decide
  have hb:=t1v (rdN t) hlt
  have hs:sgV (smX t) (rdN t)=if rdN t=true then dbl W+9223372036854775808 else dbl W:=by
   unfold sgV
   rw [hx]
   split
   ·exact z1p (l2t hlt)
   ·rfl
  rw [<- hs] at hb
  refine⟨fun _=>⟨hk,fun _=>by unfold smS; rw [hb]; rfl⟩,?_,?_⟩
  ·unfold smE
   rw [a6 nB,a6 ng,a6 hi]
  ·unfold smW
   rw [a6 nB,a6 ng,a6 hi]
   unfold smF
   rw [hb]
   rfl
theorem z1k {n B k:Nat} (b:Bool) (h:n<=B*2 ^k):Ieee.Toward.even.cut b n k<=B:=by
 have h2:=E6 k
 unfold Ieee.Toward.cut
 by_cases hk:k<=n.log2+2
 ·have hg:1 <<< min k (n.log2+2)=2 ^k:=by rw [B2 hk,Nat.one_shiftLeft]
  simp only [hg]
  rcases E0 n (B*2 ^k) with hlt | hge
  ·have:n/2 ^k < B:=Nat.div_lt_of_lt_mul (by rw [n4]; exact hlt)
   have hb:∀ c:Bool,c.toNat<=1:=by intro c; cases c <;> decide
   have:=hb (decide (2 ^k < 2*(n%2 ^k)) || 2 ^k==2*(n%2 ^k) && n/2 ^k%2==1)
   omega
  ·have he:n=B*2 ^k:=by omega
   rw [he,m0a _ h2,Nat.mul_mod_left]
   have e1:decide (2 ^k < 2*0)=false:=b8 (by omega)
   have e2:(2 ^k==2*0)=false:=x8 (by omega)
   rw [e1,e2]
   simp
 ·have hg:1 <<< min k (n.log2+2)=2 ^(n.log2+2):=by rw [S5 (by omega),Nat.one_shiftLeft]
  simp only [hg]
  have hn:2*n < 2 ^(n.log2+2):=by
   rcases F2 n with h0 | h0
   ·rw [h0]; exact E6 _
   ·have:=(jN (show n≠0 by omega)).2
    rw [show n.log2+2=n.log2+1+1 by omega,p9]
    omega
  rw [uE (by omega),H3 (by omega)]
  have e1:decide (2 ^(n.log2+2) < 2*n)=false:=b8 (by omega)
  have e2:(2 ^(n.log2+2)==2*n)=false:=x8 (by omega)
  rw [e1,e2]
  simp
theorem e1e {a b:Nat} (ha:a<=252) (hb:b<=16777216):a*8388608+b < 2139095040:=by omega
theorem f1h {b:Nat} (hb:b<=16777215):253*8388608+b < 2139095040:=by omega
theorem g2h {y:Nat} (hy:y<=5183643170566569984) (h:y/4503599627370496-1=1149):4503599627370496+y%4503599627370496<=16777215*2 ^29:=by omega
theorem g2p {y:Nat} (b:Bool) (hy:y<=5183643170566569984):∃ W,W < 2139095040∧Ieee.single.nearest b (VaS.magR y) (-1074+(VaS.plcR y:Nat))=Ieee.single.word b W:=by
 obtain⟨m,hm⟩:∃ m,m=VaS.magR y:=⟨_,rfl⟩
 obtain⟨p,hp⟩:∃ p:Nat,p=VaS.plcR y:=⟨_,rfl⟩
 have hd:y/4503599627370496<=1150:=by omega
 have hm53:m < 2 ^53:=by
  rw [hm]
  unfold VaS.magR
  split <;> omega
 have hp1:p<=1149:=by
  rw [hp]
  unfold VaS.plcR
  split <;> omega
 have hsub:p=0∨2 ^52<=m:=by
  rw [hm,hp]
  unfold VaS.magR VaS.plcR
  split
  ·exact .inl rfl
  ·exact .inr (fH _ _)
 have htop:p=1149->m<=16777215*2 ^29:=by
  intro h
  rw [hp] at h
  rw [hm]
  unfold VaS.plcR at h
  unfold VaS.magR
  split at h
  ·cases h
  ·rename_i h1
   rw [a6 h1]
   exact g2h hy h
 rw [<- hm,<- hp]
 clear hm hp
 unfold Ieee.Format.nearest
 by_cases h0:m=0
 ·rw [b9 h0]
  exact⟨0,by decide,rfl⟩
 ·rw [a6 h0]
  have hlb:=jN h0
  obtain⟨l,hl⟩:∃ l,m.log2=l:=⟨_,rfl⟩
  rw [hl] at hlb
  have hl52:l<=52:=by
   have:=(vJ (a:=2) (by decide)).1 (y4 hlb.1 hm53)
   omega
  have hln:2 ^52<=m->l=52:=fun h=>by
   have:=(vJ (a:=2) (by decide)).1 (y4 h hlb.2)
   omega
  obtain⟨last,hlast⟩:∃ last:Int,max (-1074+(p:Int)+((m.log2:Nat):Int)- ((Ieee.single.fractionBits:Nat):Int)) Ieee.single.leastPlace=last:=⟨_,rfl⟩
  simp only [hlast]
  rw [hl,z1z,lT] at hlast
  rw [lT,qV,s1x]
  have h23:((23:Nat):Int)=23:=rfl
  rw [h23] at hlast
  have hge: -149<=last∧-1074+(p:Int)<=last:=by
   rcases hsub with h | h
   ·omega
   ·have:=hln h
    omega
  obtain⟨D,hD⟩:∃ D:Nat,last- (-1074+(p:Int))=(D:Int):=⟨(last- (-1074+(p:Int))).toNat,by omega⟩
  rw [show (-1074+(p:Int)-last).toNat=0 by omega,hD,i8,x0s]
  have hcut:∃ c,Ieee.Toward.even.cut b m D=c∧(last- -149).toNat*8388608+c < 2139095040:=by
   by_cases hc:last<=103
   ·refine⟨_,rfl,e1e (by omega) (z1k b ?_)⟩
    have h24:m < 2 ^(l+1):=hlb.2
    have:2 ^(l+1)<=16777216*2 ^D:=by
     rw [show (16777216:Nat)=2 ^24 by decide,<- i7]
     exact w7 (by decide) (by omega)
    omega
   ·have hp9:p=1149∧l=52:=by
     rcases hsub with h | h
     ·omega
     ·have:=hln h; omega
    have hD29:D=29:=by omega
    refine⟨_,rfl,?_⟩
    rw [show (last- -149).toNat=253 by omega]
    refine f1h (z1k b ?_)
    rw [hD29]
    exact htop hp9.1
  obtain⟨c,hc,hlt⟩:=hcut
  rw [hc,B2 (cJ hlt)]
  exact⟨_,hlt,rfl⟩
def z0j (b:Bool) (W:Nat):Nat:=if b=true then W+2147483648 else W
def g0s (b:Bool) (W:Nat):Nat:=if b=true then W+9223372036854775808 else W
theorem y1y (W:Nat):z0j true W=W+2147483648:=b9 rfl
theorem z1y (W:Nat):z0j false W=W:=a6 A4
theorem u0w (W:Nat):g0s true W=W+9223372036854775808:=b9 rfl
theorem a0f (W:Nat):g0s false W=W:=a6 A4
theorem j2y (b:Bool) (W:Nat):Ieee.single.word b W=z0j b W:=by
 unfold Ieee.Format.word
 rw [sU]
 cases b with
 | false=>rw [a6 A4,z1y]
 | true=>rw [b9 rfl,y1y,z0l]
theorem d1j (b:Bool) (W:Nat):Ieee.double.word b W=g0s b W:=by
 unfold Ieee.Format.word
 rw [z1s]
 cases b with
 | false=>rw [a6 A4,a0f]
 | true=>rw [b9 rfl,u0w,z0l]
theorem r1p (m:Nat) (p:Int) (b:Bool):Ieee.double.nearest b m p=g0s b (Ieee.double.nearest false m p):=by
 unfold Ieee.Format.nearest
 by_cases h:m=0
 ·rw [b9 h,b9 h,d1j,d1j,a0f]
 ·rw [a6 h,a6 h]
  simp only [d1j,a0f]
  rfl
theorem i0i {m M:Nat} {p P:Int} (h:Ieee.Datum.number false m p= .number false M P):Ieee.Datum.number true m p= .number true M P:=by
 injection h with _ h2 h3
 rw [h2,h3]
theorem j1e {W:Nat} (b:Bool) (h:W < 2139095040):Ieee.single.read (z0j b W)= .number b (sgM W) (sgP W):=by
 cases b
 ·rw [z1y]; exact i0p h
 ·have hs:=i0p h
  rw [y1y]
  unfold Ieee.Format.read at hs ⊢
  rw [sU] at hs ⊢
  have e1:(W+2147483648)%2147483648=W%2147483648:=Nat.add_mod_right _ _
  have e2:((W+2147483648)/2147483648%2==1)=true:=by
   rw [Nat.add_div_right _ (by decide),uE (by omega)]
   rfl
  have e3:(W/2147483648%2==1)=false:=by rw [uE (by omega)]; rfl
  simp only [] at hs ⊢
  rw [e1,e2]
  rw [e3] at hs
  generalize W%2147483648=w at*
  clear e1 e2 e3 h
  generalize sgM W=M at*
  generalize sgP W=P at*
  by_cases c1:w < Ieee.single.binade
  ·rw [b9 c1] at hs
   rw [b9 c1]
   exact i0i hs
  ·rw [a6 c1] at hs
   rw [a6 c1]
   by_cases c2:w < Ieee.single.infRung
   ·rw [b9 c2] at hs
    rw [b9 c2]
    exact i0i hs
   ·rw [a6 c2] at hs
    split at hs <;> cases hs
theorem b0k {W:Nat} (h:W < 2139095040):Ieee.double.nearest false (sgM W) (sgP W)=dbl W∧dbl W < 9218868437227405312:=by
 refine⟨?_,y4 (n1o h) (by decide)⟩
 have hs:=u0z h
 unfold floatToFloatBits at hs
 rw [a6 (by decide)] at hs
 have hr:FloatKind.f32.decode W= .number false (sgM W) (sgP W):=i0p h
 rw [hr] at hs
 split at hs
 ·rename_i e; cases e
 ·rename_i e; cases e
 ·rename_i e
  cases e
  split at hs
  ·cases hs
  ·exact T7 hs
theorem v1h {y:Nat} (b:Bool) (h:y < 9218868437227405312):(Ieee.double.read (g0s b y)).isInfinity=false:=by
 have hp:g0s b y%p63=y∧g0s b y < 18446744073709551616:=by
  unfold p63
  cases b
  ·rw [a0f]
   exact⟨H3 (by omega),by omega⟩
  ·rw [u0w]
   exact⟨by omega,by omega⟩
 rw [VaS.read_num hp.2 (by rw [hp.1]; exact h)]
 rfl
theorem w1x {W:Nat} (b:Bool) (h:W < 2139095040):floatToFloatBits .f32 (z0j b W) .f64=some (g0s b (dbl W)):=by
 obtain⟨h1,h2⟩:=b0k h
 have hw:FloatKind.f64.encode (.number b (sgM W) (sgP W))=g0s b (dbl W):=(r1p _ _ _).trans (by rw [h1])
 unfold floatToFloatBits
 rw [a6 (by decide)]
 have hr:FloatKind.f32.decode (z0j b W)= .number b (sgM W) (sgP W):=j1e b h
 rw [hr]
 show (if (FloatKind.f64.decode (FloatKind.f64.encode (.number b (sgM W) (sgP W)))).isInfinity=true then none else some (FloatKind.f64.encode (.number b (sgM W) (sgP W))))=_
 rw [hw]
 have:(FloatKind.f64.decode (g0s b (dbl W))).isInfinity=false:=v1h b h2
 rw [this,a6 (by decide)]
def wC (x:Nat):Bool:=decide (p63<=x)
theorem g1v {x:Nat} (hx:x < 18446744073709551616):g0s (wC x) (x%p63)=x:=by
 show g0s (decide (p63<=x)) (x%p63)=x
 unfold p63
 by_cases h:9223372036854775808<=x
 ·rw [d4 h,u0w]; omega
 ·rw [b8 h,a0f]; omega
theorem d2x {x:Nat} (hx:x < 18446744073709551616) (hy:x%p63<=5183643170566569984):∃ W,W < 2139095040∧floatToFloatBits .f64 x .f32=some (z0j (wC x) W):=by
 obtain⟨W,hW,hn⟩:=g2p (wC x) hy
 refine⟨W,hW,?_⟩
 have hr:FloatKind.f64.decode x= .number (wC x) (VaS.magR (x%p63)) (-1074+(VaS.plcR (x%p63):Nat)):=VaS.read_num hx (y4 hy (by decide))
 have he:FloatKind.f32.encode (.number (wC x) (VaS.magR (x%p63)) (-1074+(VaS.plcR (x%p63):Nat)))=z0j (wC x) W:=hn.trans (j2y _ _)
 unfold floatToFloatBits
 rw [a6 (by decide),hr]
 show (if (FloatKind.f32.decode (FloatKind.f32.encode (.number (wC x) (VaS.magR (x%p63)) (-1074+(VaS.plcR (x%p63):Nat))))).isInfinity=true then none else some (FloatKind.f32.encode (.number (wC x) (VaS.magR (x%p63)) (-1074+(VaS.plcR (x%p63):Nat)))))=_
 rw [he]
 have:FloatKind.f32.decode (z0j (wC x) W)= .number (wC x) (sgM W) (sgP W):=j1e _ hW
 rw [this]
 rfl
theorem c2w {W:Nat} (h0:0 < W) (h:W < 2139095040):∃ m E:Nat,W=E*2 ^(24-1)+m∧m < 2 ^24∧0 < m∧(E=0∨2 ^(24-1)<=m)∧∀ V,V=925->uW (dbl W)=m*2 ^E*2 ^V:=by
 obtain⟨t,k,t1,t2,t3,t4,t5,hk,t6⟩:=u0a h0 h
 obtain⟨p1,p2,p3,p4,p5,p6⟩:=rC h
 have e:dbl W=k*4503599627370496+sgM W*2 ^t:=by unfold dbl; rw [t6]; rfl
 refine⟨sgM W,(sgP W+149).toNat,p5.symm,p1,p6 h0,p4.elim (fun h=> .inr h) (fun h=> .inl (by omega)),fun V hV=> ?_⟩
 rw [y0j (b0k h).2 e (cJ t4) (.inr t3),f9,f9,<- i7,<- i7,show t+k=(sgP W+149).toNat+V by omega]
theorem b2s {U S y:Nat} (hU:U=1074) (hy:y < 9218868437227405312) (hS:1075<=S):deM S y*2 ^U=uW y*10 ^S:=by
 rw [hU]
 exact x1e hy hS
theorem y2s {W n:Nat} (h:W < 2139095040) (hn:9<=n∧n<=30):dcW 24 (-149) (dgN (fqD (dbl W) n)) (fqX (dbl W) n)=W:=by
 have hy:=(b0k h).2
 obtain⟨S,hS⟩:∃ S,S=2200:=⟨_,rfl⟩
 obtain⟨N,h1,h2,h3⟩:=i1l (S:=S) (y:=dbl W) (n:=n) (by omega) (by omega)
 rw [h1 _ _ (by decide)]
 obtain⟨U,hU⟩:∃ U,U=1074:=⟨_,rfl⟩
 have hv:=b2s hU hy (S:=S) (by omega)
 have hc:2 ^(24+1) < 2*10 ^(n-1):=by
  have:10 ^8<=10 ^(n-1):=w7 (by decide) (by omega)
  have h8:(2:Nat) ^(24+1) < 2*10 ^8:=by decide
  omega
 generalize 2*10 ^(n-1)=c at*
 have hD:0 < 10 ^S:=p7 (by decide)
 generalize deM S (dbl W)=M at*
 rcases F2 W with h0 | h0
 ·have hu0:uW (dbl W)=0:=by
   rw [h0,e1h]
   unfold uW
   rw [show T4 0=0 by decide,C0]
  rw [hu0,C0] at hv
  have hM:M=0:=by
   rcases zzA98.1 hv with h | h
   ·exact h
   ·exact absurd h (Nat.pos_iff_ne_zero.1 (E6 U))
  rw [hM,eQ,E4] at h2
  have hN:N=0:=by
   rcases zzA98.1 (Nat.le_zero.1 h2) with h | h
   ·omega
   ·exact h
  rw [hN,d0f,h0]
 ·obtain⟨m,E,g1,g2,g3,g4,g5⟩:=c2w h0 h
  obtain⟨T,hT⟩:∃ T,T=149:=⟨_,rfl⟩
  have hv2:M*2 ^T=m*2 ^E*10 ^S:=by
   obtain⟨V,hV⟩:∃ V,V=925:=⟨_,rfl⟩
   rw [g5 V hV,show U=T+V by omega,i7,<- f9,J1 (m*2 ^E)] at hv
   exact u0k (E6 V) hv
  have hM0:0 < M:=by
   rcases F2 M with h | h
   ·exfalso
    rw [h,C0] at hv2
    have:0 < m*2 ^E*10 ^S:=B6 (B6 g3 (E6 E)) hD
    omega
   ·exact h
  have hN:0 < N:=by
   rcases F2 N with h | h
   ·exfalso
    rw [h,eQ,Q6] at h3
    have:2*M<=c*M:=o9 _ (by omega)
    omega
   ·exact h
  have hg:=q0q (K:=24) (T:=T) (N:=N) (D:=10 ^S) (m:=m) (E:=E) (c:=c) (by decide) hN hD g2 g3 g4 hc
   (by
    rw [<- hv2,<- f9,<- f9,<- u4]
    exact o9 _ h2)
   (by
    rw [<- hv2,<- f9,<- f9,<- u4]
    exact o9 _ h3)
  rw [hT] at hg
  rw [g1]
  exact hg
theorem m1p {t:List UInt8} {n:Nat} {e:Int} {W:Nat} (s:Sgn) (h:Rd t n e) (hv:dcW 24 (-149) n e=W) (hW:W < 2139095040):h1r (s.text++t)∧smE (s.text++t)=0∧smW (s.text++t)=z0j s.neg W:=by
 obtain⟨d,x,k,h2,h3,h4⟩:=h
 obtain⟨r1,r2,r3,r4,r5,r6⟩:=i1o (s:=s) k
 have hB:paB (s.text++t)=false:=by unfold paB; rw [r1,r2]; rfl
 have hX:smX (s.text++t)=dbl W:=by
  unfold smX nsX
  rw [r4,r5,r6,a6 (by decide),h4 24 (-149) (by decide),hv,B2 (by omega)]
 have hk:b2b (n0d (s.text++t)) (n0b (s.text++t)) (n0i (s.text++t)):=by
  rw [r4,r5,r6]
  exact⟨h3.1,⟨by omega,by omega⟩,by rw [a6 (by decide)]; exact h2⟩
 have:=u2n (W:=W) hB hk (fun _=>hX) (fun hge=>by omega)
 rw [r3,a6 (by omega),a6 (by omega)] at this
 exact this
def c0v:List Value->Option (Value×List Prop)
 | [.float .f64 x] =>some (.float .f64 (mW x),[x < 18446744073709551616])
 | _=>none
theorem t0j (args:List Value) (v:Value) (l:List Prop) (h:c0v args=some (v,l)) (hl:d9 l):Ev.Pure zO7 J0 31 args v:=by
 unfold c0v at h
 split at h
 ·cases h; exact v1j hl.1
 ·cases h
def y0d:Tab:=l5 31 c0v (l5 15 kU i1h)
theorem sO:Q0 zO7 J0 y0d:=b7 t0j (b7 oV i0y)
def bTn0:Base:=⟨zO7,J0,false,y0d,F4,200,I6⟩
theorem f1q:BaseOk bTn0:=⟨progOk,sO,n9 _ _,m0⟩
abbrev x2i:Cx:=bTn0.cx 10
def t1s (x:Nat):Bool:=FloatKind.f64.format.order (x%p63) 5183643170566569984==some Ordering.lt || FloatKind.f64.format.order (x%p63) 5183643170566569984==some Ordering.eq
def sgU (x:Nat):Nat:=(floatToFloatBits .f32 ((floatToFloatBits .f64 x .f32).getD 0) .f64).getD 0
def sgQ (x:Nat):Bool:=match t1s x with | true=>FloatKind.f64.format.order (sgU x) x==some Ordering.eq | false=>false
section
variable (x:Nat)
theorem s2j:b6 x2i [] 200 28 [.float .f64 x] [true] =some (.bool true,[decide (T8 x<=2)=true,x < 18446744073709551616,x < 18446744073709551616]):=by kernel_rfl
theorem v2q:b6 x2i [] 200 28 [.float .f64 x] [false] =some (.bool (sgQ x),[F0 [(2,t1s x)] [(2,true)] ->(floatToFloatBits .f32 ((floatToFloatBits .f64 x .f32).getD 0) .f64).isSome=true,F0 [(2,t1s x)] [(2,true)] ->(floatToFloatBits .f64 x .f32).isSome=true,decide (T8 x<=2)=false,x < 18446744073709551616,x < 18446744073709551616]):=by kernel_rfl
end
def sgK (x:Nat):Bool:=decide (T8 x<=2) || sgQ x
section
variable {x:Nat} (hx:x < 18446744073709551616)
include hx
omit hx in
theorem o0t (h:decide (T8 x<=2)=false):ab x < 9218868437227405312:=by
 have h:=L4 h
 unfold T8 at h
 show x%p63 < _
 by_cases hn:P9 x=true
 ·rw [hn,b9 rfl] at h
  exact absurd (by decide) h
 ·rw [a6 hn] at h
  have hn:¬9218868437227405312 < x%p63:=fun k=>hn (d4 k)
  by_cases h2:x%p63=9218868437227405312
  ·rw [b9 h2] at h
   exact absurd (by decide) h
  ·omega
omit hx in
theorem g2m (h:ab x < 9218868437227405312):t1s x=decide (ab x<=5183643170566569984):=by
 have ho:FloatKind.f64.format.order (x%p63) 5183643170566569984=some (compare ((x%p63:Nat):Int) ((5183643170566569984:Nat):Int)):=q0b (cJ h) (by decide)
 unfold t1s
 rw [ho]
 show _=decide (x%p63<=5183643170566569984)
 generalize x%p63=a
 rcases Int.lt_trichotomy (a:Int) ((5183643170566569984:Nat):Int) with k | k | k
 ·rw [Int.compare_eq_lt.2 k,d4 (by omega)]; rfl
 ·rw [zzA220.2 k,d4 (by omega)]; rfl
 ·rw [Int.compare_eq_gt.2 k,b8 (by omega)]; rfl
theorem o0v (h:t1s x=true) (hf:ab x < 9218868437227405312):∃ W,W < 2139095040∧floatToFloatBits .f64 x .f32=some (z0j (wC x) W)∧floatToFloatBits .f32 (z0j (wC x) W) .f64=some (g0s (wC x) (dbl W)):=by
 rw [g2m hf] at h
 obtain⟨W,h1,h2⟩:=d2x hx (H8 h)
 exact⟨W,h1,h2,w1x _ h1⟩
theorem q0r:Ev.Pure zO7 J0 28 [.float .f64 x] (.bool (sgK x)):=by
 unfold sgK
 cases hc:decide (T8 x<=2) with
 | true=>exact d6 f1q 10 _ _ (s2j x) ⟨hc,hx,hx,a7⟩
 | false=>
  have hf:=o0t hc
  rw [Bool.false_or]
  have hk:F0 [(2,t1s x)] [(2,true)] ->t1s x=true:=fun h=>h
  refine d6 f1q 10 _ _ (v2q x) ⟨fun k=> ?_,fun k=> ?_,hc,hx,hx,a7⟩
  ·obtain⟨W,_,h2,h3⟩:=o0v hx (hk k) hf
   rw [h2,T2,h3]
   rfl
  ·obtain⟨W,_,h2,h3⟩:=o0v hx (hk k) hf
   rw [h2]
   rfl
omit hx in
theorem g1e (b:Bool) {y:Nat} (hy:y < 9218868437227405312):w0q (g0s b y)=(if b=true then -(y:Int) else (y:Int))∧g0s b y < 18446744073709551616∧P9 (g0s b y)=false:=by
 unfold w0q P9 p63
 cases b with
 | true=>
  rw [u0w,b9 (by omega),b9 rfl,show (y+9223372036854775808)%9223372036854775808=y by omega]
  exact⟨rfl,by omega,b8 (by omega)⟩
 | false=>
  rw [a0f,a6 (by omega),a6 (by decide),H3 (by omega)]
  exact⟨rfl,by omega,b8 (by omega)⟩
theorem a2y (h:sgK x=true) (hc:decide (T8 x<=2)=false):∃ W,W < 2139095040∧ab x=dbl W:=by
 have hf:=o0t hc
 unfold sgK at h
 rw [hc,Bool.false_or] at h
 unfold sgQ at h
 cases h1:t1s x with
 | false=>rw [h1] at h; cases h
 | true=>
  rw [h1] at h
  obtain⟨W,hW,h2,h3⟩:=o0v hx h1 hf
  have hU:sgU x=g0s (wC x) (dbl W):=by
   unfold sgU
   rw [h2,T2,h3,T2]
  have h:(Ieee.double.order (sgU x) x==some Ordering.eq)=true:=h
  have hxx:=g1v hx
  obtain⟨a1,a2,a3⟩:=g1e (wC x) (b0k hW).2
  obtain⟨b1,b2,b3⟩:=g1e (wC x) hf
  have hxx:g0s (wC x) (ab x)=x:=hxx
  rw [hU,P8 a2 hx] at h
  rw [hxx] at b1 b3
  unfold n1v at h
  rw [a3,b3,a1,b1] at h
  refine⟨W,hW,?_⟩
  have h:(some (compare (if wC x=true then -((dbl W:Nat):Int) else ((dbl W:Nat):Int)) (if wC x=true then -((ab x:Nat):Int) else ((ab x:Nat):Int)))==some Ordering.eq)=true:=h
  have h:=zzA220.1 (T7 (eq_of_beq h))
  cases hb:wC x with
  | true=>rw [hb,b9 rfl,b9 rfl] at h; omega
  | false=>rw [hb,a6 (by decide),a6 (by decide)] at h; omega
end
abbrev f0b:Prop:=Ev.Pure zO7 J0 7 [] (.bool true)
structure NbV where
 W:List UInt8->Nat
 E:List UInt8->Int
 S:List UInt8->Nat
 F:List UInt8->Int
 X:Nat->List UInt8
 Y:Nat->List UInt8
 Z:Nat->List UInt8
 T:Nat->Int->List UInt8
def NbV.ok (V:NbV):Prop:=V.W=paW∧V.E=paE∧V.S=smW∧V.F=smE∧V.X=exT∧V.Y=srT∧V.Z=z1j∧V.T=nfT
def p0u (V:NbV):List Arg->Option (List Arg×List Prop)
 | [.c (.v (.string ⟨⟨t⟩⟩))] =>some ([xR (V.W t),iR (V.E t)],[])
 | _=>none
theorem z0v {V:NbV} (hV:V.ok):∀ az rs l,p0u V az=some (rs,l)->d9 l->Ev.Sem zO7 J0 10 az rs:=by
 intro az rs l h _
 unfold p0u at h
 split at h
 ·cases h
  rw [hV.1,hV.2.1]
  exact i0b _
 ·cases h
def p0z (V:NbV):List Arg->Option (List Arg×List Prop)
 | [.c (.v (.string ⟨⟨t⟩⟩))] =>some ([yR (V.S t),iR (V.F t)],[h1r t])
 | _=>none
theorem b1u {V:NbV} (hV:V.ok):∀ az rs l,p0z V az=some (rs,l)->d9 l->Ev.Sem zO7 J0 29 az rs:=by
 intro az rs l h hl
 unfold p0z at h
 split at h
 ·cases h
  rw [hV.2.2.1,hV.2.2.2.1]
  exact c0r hl.1
 ·cases h
def o0h (V:NbV):List Value->Option (Value×List Prop)
 | [.float .f64 x] =>some (.string ⟨⟨V.X x⟩⟩,[x < 18446744073709551616])
 | _=>none
theorem y0r {V:NbV} (hV:V.ok) (args:List Value) (v:Value) (l:List Prop) (h:o0h V args=some (v,l)) (hl:d9 l):Ev.Pure zO7 J0 21 args v:=by
 unfold o0h at h
 split at h
 ·cases h; rw [hV.2.2.2.2.1]; exact z0p hl.1
 ·cases h
def p0i (V:NbV):List Value->Option (Value×List Prop)
 | [.float .f64 x] =>some (.string ⟨⟨V.Y x⟩⟩,[x < 18446744073709551616])
 | _=>none
theorem a1p {V:NbV} (hV:V.ok) (args:List Value) (v:Value) (l:List Prop) (h:p0i V args=some (v,l)) (hl:d9 l):Ev.Pure zO7 J0 23 args v:=by
 unfold p0i at h
 split at h
 ·cases h; rw [hV.2.2.2.2.2.1]; exact a1x hl.1
 ·cases h
def s0k (V:NbV):List Value->Option (Value×List Prop)
 | [.float .f64 x] =>some (.string ⟨⟨V.Z x⟩⟩,[x < 18446744073709551616])
 | _=>none
theorem b1r {V:NbV} (hV:V.ok) (args:List Value) (v:Value) (l:List Prop) (h:s0k V args=some (v,l)) (hl:d9 l):Ev.Pure zO7 J0 25 args v:=by
 unfold s0k at h
 split at h
 ·cases h; rw [hV.2.2.2.2.2.2.1]; exact w1b hl.1
 ·cases h
def q0w (V:NbV):List Value->Option (Value×List Prop)
 | [.float .f64 x, .int .i64 n] =>some (.tuple ⟨[.string ⟨⟨V.T x n⟩⟩, .int .i64 0]⟩,[x < 18446744073709551616,nfE n=0])
 | _=>none
theorem z0b {V:NbV} (hV:V.ok) (args:List Value) (v:Value) (l:List Prop) (h:q0w V args=some (v,l)) (hl:d9 l):Ev.Pure zO7 J0 19 args v:=by
 unfold q0w at h
 split at h
 ·cases h
  rw [hV.2.2.2.2.2.2.2]
  have:=sG (x:= ‹_›) ‹_› hl.1
  rw [hl.2.1] at this
  exact this
 ·cases h
def s0h:List Value->Option (Value×List Prop)
 | [.float .f64 x] =>some (.bool (sgK x),[x < 18446744073709551616])
 | _=>none
theorem z0i (args:List Value) (v:Value) (l:List Prop) (h:s0h args=some (v,l)) (hl:d9 l):Ev.Pure zO7 J0 28 args v:=by
 unfold s0h at h
 split at h
 ·cases h; exact q0r hl.1
 ·cases h
def p0r (V:NbV):iG:=m4 10 (z6 [shV] (p0u V)) (m4 29 (z6 [shV] (p0z V)) F4)
theorem yQ {V:NbV} (hV:V.ok):iD zO7 J0 (p0r V):=d8 (l7 _ (z0v hV)) (d8 (l7 _ (b1u hV)) (n9 _ _))
def w2t (V:NbV):Base:=⟨zO7,J0,false,y0d,p0r V,200,I6⟩
theorem e2m {V:NbV} (hV:V.ok):BaseOk (w2t V):=⟨progOk,sO,yQ hV,m0⟩
abbrev y2n (V:NbV):Cx:=(w2t V).cx 10
abbrev bkE (V:NbV) (t:List UInt8) (x:Nat):Bool:=match V.E t==0 with | true=>((V.W t:Nat):Int)==((mW x:Nat):Int) | false=>false
section
variable (V:NbV) (t:List UInt8) (x:Nat) (r:Bool)
theorem q2b:A7 (y2n V) [] 200 27 [.c (.v (.string ⟨⟨t⟩⟩)),xR x] [.c (.v (.bool r))] [] =some [x < 18446744073709551616,zO8 (bkE V t x)=zO8 r] :=by kernel_rfl
end
def f1u:List Arg->Option (List Arg×List Prop)
 | [.c (.v (.string ⟨⟨t⟩⟩)), .c (.v (.float .f64 x))] =>some ([.c (.v (.bool true))],[x < 18446744073709551616∧paE t=0∧paW t=mW x])
 | _=>none
theorem x1v (W E S F X Y Z T):∃ V:NbV,V.W=W∧V.E=E∧V.S=S∧V.F=F∧V.X=X∧V.Y=Y∧V.Z=Z∧V.T=T:=⟨⟨W,E,S,F,X,Y,Z,T⟩,rfl,rfl,rfl,rfl,rfl,rfl,rfl,rfl⟩
theorem k1a:∀ az rs l,f1u az=some (rs,l)->d9 l->Ev.Sem zO7 J0 27 az rs:=by
 intro az rs l h hl
 unfold f1u at h
 split at h
 ·cases h
  rename_i t x
  obtain⟨⟨h1,h2,h3⟩,_⟩:=hl
  obtain⟨V,hV⟩:=x1v paW paE smW smE exT srT z1j nfT
  refine l6 (e2m (V:=V) hV) 10 _ _ (q2b V t x true) ⟨h1,?_,a7⟩
  unfold bkE
  rw [hV.1,hV.2.1,h2,h3,jG,show (((mW x:Nat):Int)==((mW x:Nat):Int))=true from jG _]
 ·cases h
def i2a (V:NbV):Tab:=l5 7 (atS [([], .bool true)]) (l5 21 (o0h V) (l5 23 (p0i V) (l5 25 (s0k V) (l5 19 (q0w V) (l5 28 s0h y0d)))))
theorem w0k (ha:f0b) {V:NbV} (hV:V.ok):Q0 zO7 J0 (i2a V):=b7 (O5 (fun p hp=>by simp only [zzA84,T3,V5] at hp; subst hp; exact ha)) (b7 (y0r hV) (b7 (a1p hV) (b7 (b1r hV) (b7 (z0b hV) (b7 z0i sO)))))
def o1q (V:NbV):iG:=m4 27 (z6 [shV,shV] f1u) (p0r V)
theorem l0a {V:NbV} (hV:V.ok):iD zO7 J0 (o1q V):=d8 (l7 _ k1a) (yQ hV)
def bTb (V:NbV):Base:=⟨zO7,J0,false,i2a V,o1q V,200,I6⟩
theorem x1h (ha:f0b) {V:NbV} (hV:V.ok):BaseOk (bTb V):=⟨progOk,w0k ha hV,l0a hV,m0⟩
abbrev XTb (V:NbV):Cx:=(bTb V).cx 10
theorem f0r (t:Nat):P9 (z1a t)=true∧z1a t < 18446744073709551616:=by
 have h1:z1a t=(t%2)*9223372036854775808+9218868437227405312+1+(t/2)%4503599627370495:=rfl
 have h2:t/2%4503599627370495 < 4503599627370495:=B0 _ (by decide)
 generalize t/2%4503599627370495=b at*
 rw [h1]
 unfold P9 p63
 have h3:t%2 < 2:=B0 _ (by decide)
 generalize t%2=a at*
 refine⟨d4 ?_,by omega⟩
 rcases (by omega:a=0∨a=1) with rfl | rfl
 ·omega
 ·omega
theorem c2q (x:Nat):A7 j2j [] 200 31 [xR x] [xR 9221120237041090560] [true] =some [c1B x=true,zO4 .f64 9221120237041090560=zO4 .f64 9221120237041090560] :=by kernel_rfl
def q0o (args:List Value) (H:Heap) (n:Nat) (ds:List Bool):Option CR:=match args with
 | [.complex .f64 _ _] =>some ⟨.float .f64 9221120237041090560,H,n,[],ds⟩
 | _=>none
theorem b1e:fK zO7 J0 31 q0o:=by
 intro args H n ds r h hl
 unfold q0o at h
 split at h
 case h_2=>cases h
 rename_i m b
 cases h
 have hsem:∀ x,P9 x=true->x < 18446744073709551616->Ev.Sem zO7 J0 31 [xR x] [xR 9221120237041090560] :=fun x hn hx=>l6 mS 10 _ _ (c2q x) ⟨by
  unfold c1B
  rw [P8 hx hx]
  unfold n1v
  rw [hn]
  rfl,rfl,a7⟩
 refine⟨d7 _,(hsem (z1a 0) (f0r 0).1 (f0r 0).2).1,fun B M ρ w vs hp hB hI hS=> ?_⟩
 obtain⟨hs,hv⟩:=hS ρ (Agree.refl _ _)
 subst hv
 obtain⟨k1,k2⟩:=f0r ((ρ m).getD 0)
 refine ((hsem _ k1 k2).2 w [.float .f64 (z1a ((ρ m).getD 0))] hI (.cons ⟨rfl,rfl⟩ .nil)).mono fun e w' ⟨us',he,hb,hc,_⟩=> ?_
 obtain⟨y,ys,rfl,hy,hnil⟩:=hc.cons_inv
 obtain rfl:=hnil.nil_inv
 obtain⟨rfl,_⟩:=hy
 exact⟨ρ,_,Agree.refl _ _,he,n5 hb hB,fun ρ' ha=>⟨by simp only [rv]; rfl,(hS ρ' ha).1.below hb⟩⟩
def v2k:FuncId->List Value->Heap->Nat->Option CR:=fun f args H n=>match zO0 f 4294967295 with
 | true=>some ⟨.tuple ⟨[]⟩,H,n,[False],[]⟩
 | false=>I6 f args H n
theorem d2b:a2v zO7 J0 v2k:=by
 intro f args H n r h hl
 unfold v2k at h
 split at h
 ·cases h
  exact absurd hl.1 id
 ·exact m0 f args H n r h hl
def a2c (V:NbV):iG:=m4 31 q0o (o1q V)
theorem f1v {V:NbV} (hV:V.ok):iD zO7 J0 (a2c V):=d8 b1e (l0a hV)
def bTc (V:NbV):Base:=⟨zO7,J0,false,i2a V,a2c V,200,v2k⟩
theorem o2n (ha:f0b) {V:NbV} (hV:V.ok):BaseOk (bTc V):=⟨progOk,w0k ha hV,f1v hV,d2b⟩
abbrev XTc (V:NbV):Cx:=(bTc V).cx 10
abbrev nbQ (V:NbV) (x:Nat):List Prop:=[false=false,x < 18446744073709551616∧paE (V.T x 17)=0∧paW (V.T x 17)=mW x,x < 18446744073709551616,nfE 17=0,x < 18446744073709551616∧paE (V.Z x)=0∧paW (V.Z x)=mW x,x < 18446744073709551616,x < 18446744073709551616∧paE (V.Y x)=0∧paW (V.Y x)=mW x,x < 18446744073709551616,x < 18446744073709551616∧paE (V.X x)=0∧paW (V.X x)=mW x,x < 18446744073709551616]
abbrev nbU (V:NbV) (x:Nat):Nat:=(floatToFloatBits .f32 (V.S (V.T x 9)) .f64).getD 0
abbrev nbR (V:NbV) (x w:Nat):Bool:=match (match (0:Int)==0 with | true=>V.F (V.T x 9)==0 | false=>false) with | true=>((w:Nat):Int)==((mW x:Nat):Int) | false=>false
abbrev nbN (W:Nat):Bool:=match FloatKind.f32.decode W with | .nan _ _=>true | _=>false
section
variable (V:NbV) (x:Nat) (r:Bool)
theorem y2b:A7 (XTb V) [] 200 5 [.c (.v (.int .u64 x))] [.c (.v (.bool r))] [false,true] =some ([(!sgK x)=true,x < 18446744073709551616] ++nbQ V x++[zO8 true=zO8 r]):=by kernel_rfl
theorem b3b:A7 (XTb V) [] 200 5 [.c (.v (.int .u64 x))] [.c (.v (.bool r))] [false,false] =some ([x < 18446744073709551616,nbU V x < 18446744073709551616,(floatToFloatBits .f32 (V.S (V.T x 9)) .f64).isSome=true,h1r (V.T x 9),x < 18446744073709551616,nfE 9=0,(!sgK x)=false,x < 18446744073709551616] ++nbQ V x++[zO8 (nbR V x (mW (nbU V x)))=zO8 r]):=by kernel_rfl
theorem z2s:A7 (XTc V) [] 200 5 [.c (.v (.int .u64 x))] [.c (.v (.bool r))] [false,false] =some ([x < 18446744073709551616,nbN (V.S (V.T x 9))=true,h1r (V.T x 9),x < 18446744073709551616,nfE 9=0,(!sgK x)=false,x < 18446744073709551616] ++nbQ V x++[zO8 (nbR V x 9221120237041090560)=zO8 r]):=by kernel_rfl
end
theorem t2k:(Ieee.double.order 9218868437227405312 9218868437227405312 !=some .eq)=false:=by decide+kernel
theorem v2u:(Ieee.double.order 18442240474082181120 18442240474082181120 !=some .eq)=false:=by decide+kernel
theorem w2n:(Ieee.double.order 9221120237041090560 9221120237041090560 !=some .eq)=true:=by decide+kernel
theorem t2c:smF 9218868437227405312=2139095040:=by decide+kernel
theorem t2u:smF 18442240474082181120=4286578688:=by decide+kernel
theorem d0q {t:List UInt8} (h:paB t=true):h1r t∧smE t=rdE t∧smW t=(if (Ieee.double.order (rdO t) (rdO t) !=some .eq)=true then 2143289344 else smF (rdO t)):=by
 refine⟨fun e=>(by rw [h] at e; cases e),by unfold smE; rw [b9 h],?_⟩
 unfold smW
 rw [b9 h]
 rfl
theorem q2c:h1r [78,97,78] ∧smE [78,97,78] =0∧nbN (smW [78,97,78])=true:=by
 obtain⟨h1,h2,h3⟩:=d0q (t:=[78,97,78]) (by decide)
 have h4:rdO [78,97,78] =9221120237041090560:=by decide
 rw [h4,w2n,b9 rfl] at h3
 refine⟨h1,by rw [h2]; decide,?_⟩
 rw [h3]
 decide
theorem o2l (b:Bool):h1r (if b=true then [45,73,110,102] else [73,110,102])∧smE (if b=true then [45,73,110,102] else [73,110,102])=0∧floatToFloatBits .f32 (smW (if b=true then [45,73,110,102] else [73,110,102])) .f64=some (if b=true then 18442240474082181120 else 9218868437227405312):=by
 cases b
 ·rw [a6 (by decide),a6 (by decide)]
  obtain⟨h1,h2,h3⟩:=d0q (t:=[73,110,102]) (by decide)
  have h4:rdO [73,110,102] =9218868437227405312:=by decide
  rw [h4,t2k,a6 (by decide),t2c] at h3
  refine⟨h1,by rw [h2]; decide,?_⟩
  rw [h3]
  decide+kernel
 ·rw [b9 rfl,b9 rfl]
  obtain⟨h1,h2,h3⟩:=d0q (t:=[45,73,110,102]) (by decide)
  have h4:rdO [45,73,110,102] =18442240474082181120:=by decide
  rw [h4,v2u,a6 (by decide),t2u] at h3
  refine⟨h1,by rw [h2]; decide,?_⟩
  rw [h3]
  decide+kernel
theorem m1d (x:Nat):nfE 9=0∧nfT x 9=if snW x=[] then snA x++gB (fqF (ab x) 9++zO6 (9- ((fqF (ab x) 9).length:Int)).toNat 48) (fqK (ab x) 9) else snW x:=by
 have hb:fgB 9=false:=by decide
 unfold nfT nfE
 rw [hb,a6 A4,a6 A4]
 exact⟨rfl,rfl⟩
section
variable {x:Nat} (hx:x < 18446744073709551616)
include hx
theorem n1d (h:snW x=[]) {W:Nat} (hW:W < 2139095040) (hd:ab x=dbl W):h1r (nfT x 9)∧smE (nfT x 9)=0∧floatToFloatBits .f32 (smW (nfT x 9)) .f64=some x:=by
 rw [(m1d x).2,b9 h]
 have hf:=V2 hx h
 obtain⟨q1,q2⟩:=rE (n:=9) hf (by omega)
 have q3:(fqD (ab x) (9:Nat)).length<=9:=d0t (w9 (tQ (ab x))).1 (by omega)
 have hr:=q0s (9- ((fqF (ab x) (9:Nat)).length:Int)).toNat (l0h (ab x) (9:Nat)) (by omega) ⟨q1,q2⟩
 have hv:dcW 24 (-149) (dcN (fgD (fqD (ab x) (9:Nat)))) (fgK (fqD (ab x) (9:Nat)) (fqX (ab x) (9:Nat))+1- ((fgD (fqD (ab x) (9:Nat))).length:Int))=W:=by
  rw [l0s (l0h _ _),hd]
  exact y2s hW (by omega)
 obtain⟨s1,s2,s3⟩:=m1p (g1r x) hr hv hW
 rw [g1d h]
 refine⟨s1,s2,?_⟩
 have s3:smW ((g1r x).text++gB (fqF (ab x) 9++zO6 (9- ((fqF (ab x) 9).length:Int)).toNat 48) (fqK (ab x) 9))=z0j (g1r x).neg W:=s3
 rw [s3,w1x _ hW,<- hd]
 have:(g1r x).neg=wC x:=by
  unfold g1r wC
  by_cases h:p63<=x
  ·rw [b9 h,d4 h]; rfl
  ·rw [a6 h,b8 h]; rfl
 rw [this]
 exact H5 some (g1v hx)
variable (ha:f0b)
include ha
theorem wL:Ev.Sem zO7 J0 5 [.c (.v (.int .u64 x))] [.c (.v (.bool true))] :=by
 obtain⟨V,hV⟩:=x1v paW paE smW smE exT srT z1j nfT
 have hVok:V.ok:=hV
 obtain⟨v1,v2,v3,v4,v5,v6,v7,v8⟩:=hV
 have hQ:d9 (nbQ V x):=by
  have e1:=b1n hx
  have e2:=a1t hx
  have e3:=u1v hx
  have e4:=i1n hx (n:=17) (by omega)
  exact⟨rfl,⟨hx,by rw [v8]; exact e4.2⟩,hx,e4.1,⟨hx,by rw [v7]; exact e3⟩,hx,⟨hx,by rw [v6]; exact e2⟩,hx,⟨hx,by rw [v5]; exact e1⟩,hx,a7⟩
 have hR:∀ w,smE (nfT x 9)=0->w=mW x->nbR V x w=true:=fun w h1 h2=>by
  unfold nbR
  rw [v4,v8,h1,h2]
  exact jG ((mW x:Nat):Int)
 cases hs:sgK x with
 | false=>exact l6 (x1h ha hVok) 10 _ _ (y2b V x true) (apx (apx ⟨by rw [hs]; rfl,hx,a7⟩ hQ) ⟨rfl,a7⟩)
 | true=>
  have fin:∀ W,h1r (nfT x 9)∧smE (nfT x 9)=0∧floatToFloatBits .f32 (smW (nfT x 9)) .f64=some W->W < 18446744073709551616->mW W=mW x->Ev.Sem zO7 J0 5 [.c (.v (.int .u64 x))] [.c (.v (.bool true))] :=by
   intro W ⟨k1,k2,k3⟩ hw h1
   have hU:nbU V x=W:=by unfold nbU; rw [v3,v8,k3]; rfl
   refine l6 (x1h ha hVok) 10 _ _ (b3b V x true) (apx (apx ⟨hx,?_,?_,?_,hx,(m1d x).1,by rw [hs]; rfl,hx,a7⟩ hQ) ⟨?_,a7⟩)
   ·rw [hU]; exact hw
   ·rw [v3,v8,k3]; rfl
   ·rw [v8]; exact k1
   ·rw [hR _ k2 (by rw [hU,h1])]
  cases hc:decide (T8 x<=2) with
  | false=>
   obtain⟨W,h1,h2⟩:=a2y hx hs hc
   have hf:=o0t hc
   have hn:P9 x=false:=by
    unfold P9
    exact b8 (by have:x%p63 < 9218868437227405312:=hf; omega)
   have hsn:snW x=[] :=by
    unfold snW
    have:x%p63 < 9218868437227405312:=hf
    unfold p63 at this
    rw [hn,a6 A4,a6 (by omega),a6 (by omega)]
   exact fin x (n1d hx hsn h1 h2) hx rfl
  | true=>
   have hc:=H8 hc
   cases hn:P9 x with
   | true=>
    have hT:nfT x 9=[78,97,78] :=by
     rw [(m1d x).2]
     unfold snW
     rw [hn,b9 rfl,a6 (by decide)]
    obtain⟨k1,k2,k3⟩:=q2c
    refine l6 (o2n ha hVok) 10 _ _ (z2s V x true) (apx (apx ⟨hx,?_,?_,hx,(m1d x).1,by rw [hs]; rfl,hx,a7⟩ hQ) ⟨?_,a7⟩)
    ·rw [v3,v8,hT]; exact k3
    ·rw [v8,hT]; exact k1
    ·rw [hR _ (by rw [hT]; exact k2) (by unfold mW; rw [hn]; rfl)]
   | false=>
    have h2:x%p63=9218868437227405312:=by
     unfold T8 at hc
     rw [hn,a6 A4] at hc
     by_cases h2:x%p63=9218868437227405312
     ·exact h2
     ·rw [a6 h2] at hc
      split at hc
      ·omega
      ·split at hc <;> omega
    have hT:∃ b,nfT x 9=(if b=true then [45,73,110,102] else [73,110,102])∧x=(if b=true then 18442240474082181120 else 9218868437227405312):=by
     rw [(m1d x).2]
     unfold snW
     rw [hn,a6 A4]
     unfold p63 at h2
     by_cases h3:x=9218868437227405312
     ·exact⟨false,by rw [b9 h3,a6 (by decide)]; rfl,h3⟩
     ·rw [a6 h3]
      have h4:x=18442240474082181120:=by omega
      exact⟨true,by rw [b9 h4,a6 (by decide)]; rfl,h4⟩
    obtain⟨b,t1,t2⟩:=hT
    obtain⟨k1,k2,k3⟩:=o2l b
    rw [<- t1,<- t2] at k3
    rw [<- t1] at k1 k2
    exact fin x ⟨k1,k2,k3⟩ hx rfl
end
end Go.Proofs.YtbdaebagmmmijaaGreatDoor
