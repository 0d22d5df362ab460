/-
 NumberNear: a decimal that is read as a finite number lies nowhere beyond the middle between it and its neighbours; no condition (a part of the proof).
-/
import Derived.Test.YtbdaebagmmmijaaGreatDoorN1x02
import Derived.Scope
import Derived.Test.YtbdaebagmmmijaaGreatDoorRows
import Derived.Laws.Externs
import Derived.Lib.Bytealg
import Derived.KernelRfl
import Derived.Lib.LaidTab
import Derived.Lib.ItoaMem
import Derived.Lib.MakeNoZero
import Derived.Shelf.Unicode.DecodeSlow
import GoSem.PinnedTables
import Derived.Test.YtbdaebagmmmijaaGreatDoorCards
import Derived.Test.YtbdaebagmmmijaaGreatDoorTie
import Derived.WalkKit
import Derived.ProofKit
import Derived.OpenShut
import Derived.Carry
import Derived.Deep.DeepHandedRow
import Derived.Lib.SmallJoins
import Derived.Deep.Strs
import Derived.Laws.Cover2
import Derived.Lib.LaidU8T
import Derived.Shelf.Vars
open Nat renaming beq->zO0,blt->zO1
open Int renaming ofNat->zO2
open Go.Value renaming int->zO3
open List renaming replicate->zO6
open Go.Region renaming ready->zO7
open Go.Proofs.Tryz renaming prog->zO8
open Go.IntKind renaming i64->iI,u64->uI,u8->uB
noncomputable section
namespace Go.Proofs
theorem zzA135:type_of%@UInt8.toNat_inj:=@UInt8.toNat_inj
theorem a0j:type_of%@List.mem_of_getElem?:=@List.mem_of_getElem?
theorem A9:type_of%@List.length_cons:=@List.length_cons
theorem i0v:type_of%@Go.wpIn_region_any:=@Go.wpIn_region_any
theorem yR:type_of%@List.reverse_cons:=@List.reverse_cons
theorem s0e:type_of%@List.getElem?_replicate:=@List.getElem?_replicate
theorem j0m:type_of%@Bool.and_true:=@Bool.and_true
theorem nY:type_of%@List.eq_nil_of_length_eq_zero:=@List.eq_nil_of_length_eq_zero
end Go.Proofs
namespace Go.Proofs.YtbdaebagmmmijaaGreatDoor.Ev
open Go Go.RowKit Go.Shelf
noncomputable section
def nZ (o:Oper):Option Nat:=
 match o.dst,o.guard with
 | none,none=>match o.op with
  | .store _ (.tmp d) _=>some d
  | _=>none
 | _,_=>none
def dG (tm:List TV):List Oper->Option (List Nat)
 | [] =>some []
 | o ::r=>match nZ o with
  | none=>none
  | some d=>match x4 tm d with
   | .v (.pointer (some ⟨id,_,_⟩))=>match dG tm r with
    | some l=>some (id ::l)
    | none=>none
   | _=>none
def uT (acc:List Nat) (t:Nat):Nat->List Oper->Bool
 | _,[] =>true
 | k,o ::r=>(match o.dst with
  | some d=> !(zO0 d t) || E9 k acc
  | none=>true) && uT acc t (k+1) r
theorem oC {acc:List Nat} {t:Nat} :∀ {r:List Oper} {k0:Nat},uT acc t k0 r=true->∀ k o,r[k]? =some o->o.dst=some t->(k0+k)∈acc
 | [],k0,_,k,o,ho,_=>by simp at ho
 | x ::r,k0,h,k,o,ho,hd=>by
  simp only [uT,u6] at h
  cases k with
  | zero=>
   simp only [I4,G3] at ho
   subst ho
   rw [hd] at h
   simp only [c0g,Bool.not_true,Bool.false_or,memN_iff] at h
   exact h.1
  | succ k=>
   simp only [M8] at ho
   have:=oC h.2 k o ho hd
   rw [show k0+(k+1)=k0+1+k by omega]
   exact this
def qC (hd:List Oper) (acc:List Nat):List Nat->Bool
 | [] =>true
 | t ::r=>uT acc t 0 hd && qC hd acc r
theorem jF {hd:List Oper} {acc:List Nat} :∀ {l:List Nat},qC hd acc l=true->∀ t∈l,uT acc t 0 hd=true
 | [],_,t,ht=>by cases ht
 | x ::r,h,t,ht=>by
  simp only [qC,u6] at h
  rcases zzA83.1 ht with rfl | ht
  ·exact h.1
  ·exact jF h.2 t ht
def iP (os hd:List Oper):List Nat->List Oper->Bool
 | _,[] =>true
 | acc,o ::r=>qC hd (m6 o++acc) (looks os o) && iP os hd (m6 o++acc) r
theorem fD {os hd:List Oper} {L:Nat->Prop} :∀ {r:List Oper} {acc:List Nat},iP os hd acc r=true->(∀ e∈acc,L e)->∀ (k:Nat) (o:Oper),r[k]? =some o->(∀ (j:Nat) (oj:Oper),j<=k->r[j]? =some oj->∀ e∈m6 oj,L e)->
  ∀ t∈looks os o,∀ (i:Nat) (oi:Oper),hd[i]? =some oi->oi.dst=some t->L i
 | [],acc,_,_,k,o,ho,_=>by simp at ho
 | x ::r,acc,h,ha,k,o,ho,hp=>by
  simp only [iP,u6] at h
  have hacc:∀ e∈m6 x++acc,L e:=fun e he=>by
   rcases zzA91.1 he with he | he
   ·exact hp 0 x (o8 _) rfl e he
   ·exact ha e he
  cases k with
  | zero=>
   simp only [I4,G3] at ho
   subst ho
   intro t ht i oi hi hd'
   have:=oC (jF h.1 t ht) i oi hi hd'
   rw [aW] at this
   exact hacc i this
  | succ k=>
   simp only [M8] at ho
   exact fD h.2 hacc k o ho (fun j oj hj hoj=>hp (j+1) oj (by omega) (by simpa using hoj))
def O0:List Oper->Nat
 | [] =>0
 | o ::r=>match nZ o with
  | some _=>0
  | none=>O0 r+1
def uJ (os:List Oper) (m:Nat):Bool:=
 Nat.ble m os.length && mP 0 os && h1k (os.take m) && tW os (os.take m) 0 (os.take m) && iP os (os.take m) [] (os.drop m) && bH (m+1) (os.drop (m+1)) && !(g0i m os)
structure Floats (os:List Oper) (m:Nat):Prop where
 le:m<=os.length
 fwd:∀ i o,os[i]? =some o->∀ e∈m6 o,e < i
 dup:∀ i k oi ok d,i < m->k < m->os[i]? =some oi->os[k]? =some ok->oi.dst=some d->ok.dst=some d->i=k
 slot:∀ i o,i < m->os[i]? =some o->∀ t∈looks os o,∀ k ok,k < m->os[k]? =some ok->ok.dst=some t->k=i∨k∈m6 o∨i∈m6 ok
 tail:∀ (L:Nat->Prop) t o,m<=t->os[t]? =some o->(∀ j oj,m<=j->j<=t->os[j]? =some oj->∀ e∈m6 oj,L e)->∀ x∈looks os o,∀ k ok,k < m->os[k]? =some ok->ok.dst=some x->L k
 chain:∀ t o,m < t->os[t]? =some o->(t-1)∈m6 o
 quiet:∀ i o,i < m->os[i]? =some o->eO o.op=false
theorem vL:∀ {m:Nat} {os:List Oper},g0i m os=false->∀ i o,i < m->os[i]? =some o->eO o.op=false
 | 0,_,_,i,o,hi,_=>by omega
 | m+1,[],_,i,o,_,ho=>by simp at ho
 | m+1,x ::r,h,i,o,hi,ho=>by
  simp only [g0i,r0t] at h
  cases i with
  | zero=>simp only [I4,G3] at ho; subst ho; exact h.1
  | succ i=>simp only [M8] at ho; exact vL h.2 i o (by omega) ho
theorem nG {os:List Oper} {m:Nat} (h:uJ os m=true):Floats os m:=by
 simp only [uJ,u6,q0i,H7] at h
 obtain⟨⟨⟨⟨⟨⟨h1,h2⟩,h3⟩,h4⟩,h5⟩,h6⟩,h7⟩:=h
 have fwd:∀ i o,os[i]? =some o->∀ e∈m6 o,e < i:=fun i o ho e he=>by
  have:=S8 h2 i o ho e he
  omega
 refine⟨h1,fwd,fun i k oi ok d hi hk hoi hok di dk=> ?_,fun i o hi ho t ht k ok hk hok hd=> ?_,fun L t o hmt ho hp x hx k ok hk hok hd=> ?_,fun t o ht ho=> ?_,vL h7⟩
 ·exact mI h3 i k oi ok d ((M1 hi).trans hoi) ((M1 hk).trans hok) di dk
 ·have:=cX h4 i o ((M1 hi).trans ho) t ht k ok ((M1 hk).trans hok) hd
  simpa using this
 ·refine fD (L:=L) h5 (fun e he=>by cases he) (t-m) o (by rw [Q6,show m+(t-m)=t by omega]; exact ho) (fun j oj hj hoj=> ?_) x hx k ok ((M1 hk).trans hok) hd
  rw [Q6] at hoj
  exact hp (m+j) oj (by omega) (by omega) hoj
 ·have:=U4 h6 (t- (m+1)) o (by rw [Q6,show m+1+(t- (m+1))=t by omega]; exact ho)
  rw [show m+1+(t- (m+1))-1=t-1 by omega] at this
  exact this
theorem jD {tm:List TV} :∀ {r:List Oper} {ws:List Nat},dG tm r=some ws->∀ (k:Nat) (o:Oper),r[k]? =some o->∃ d id off sp,nZ o=some d∧x4 tm d= .v (.pointer (some ⟨id,off,sp⟩))∧E9 id ws=true
 | [],ws,_,k,o,ho=>by simp at ho
 | x ::r,ws,h,k,o,ho=>by
  simp only [dG] at h
  split at h
  ·cases h
  rename_i d hd
  split at h
  ·rename_i id off sp hg
   split at h
   ·rename_i l hl
    cases h
    cases k with
    | zero=>
     simp only [I4,G3] at ho
     subst ho
     exact⟨d,id,off,sp,hd,hg,by simp [E9]⟩
    | succ k=>
     simp only [M8] at ho
     obtain⟨d',id',off',sp',h1,h2,h3⟩:=jD hl k o ho
     exact⟨d',id',off',sp',h1,h2,by simp [E9,h3]⟩
   ·cases h
  ·cases h
theorem gC {o:Oper} {d:Nat} (h:nZ o=some d):o.dst=none∧o.guard=none∧∃ t y,o.op= .store t (.tmp d) y:=by
 unfold nZ at h
 split at h
 ·rename_i h1 h2
  split at h
  ·rename_i t d' y ho
   cases h
   exact⟨h1,h2,t,y,ho⟩
  ·cases h
 ·cases h
theorem b0s {P:Program} {H H':Heap} {t:TypeId} {v:Value} {id off:Nat} {sp:Option Nat} (h:aJ P H t (.pointer (some ⟨id,off,sp⟩)) v=some H') (j:Nat) (hj:j≠id):H'.get j=H.get j:=by
 unfold aJ at h
 simp only [v8] at h
 split at h
 case h_2=>cases h
 rename_i heq
 cases heq
 split at h
 case h_1=>cases h
 split at h
 case h_4=>cases h
 ·rename_i hget
  split at h
  case h_2=>cases h
  cases h
  rw [m0 _ _ _ _ hget,a8 (fun e=>hj e.symm)]
 ·rename_i hget
  split at h
  case h_2=>cases h
  cases h
  rw [m0 _ _ _ _ hget,a8 (fun e=>hj e.symm)]
 ·rename_i hget
  split at h
  case h_2=>cases h
  split at h
  case h_2=>cases h
  cases h
  rw [m0 _ _ _ _ hget,a8 (fun e=>hj e.symm)]
theorem wY {P:Program} {auto:Bool} {H H':Heap} {t:TypeId} {v:Value} {id off:Nat} {sp:Option Nat} {l:List Prop} (h:jQ P auto H t (.pointer (some ⟨id,off,sp⟩)) v=some (H',l)) (j:Nat) (hj:j≠id):H'.get j=H.get j:=by
 unfold jQ at h
 simp only [v8] at h
 split at h
 ·cases h
 split at h
 case h_2=>cases h
 rename_i heq
 cases heq
 split at h
 case h_2=>cases h
 rename_i hget
 split at h
 case h_2=>cases h
 split at h
 case h_2=>cases h
 cases h
 rw [m0 _ _ _ _ hget,a8 (fun e=>hj e.symm)]
theorem nX {X:Cx} {os:List Oper} {o:Oper} {s s':St} {kv kv':KV} {d id off:Nat} {sp:Option Nat} (hd:nZ o=some d) (hg:x4 s.tmps d= .v (.pointer (some ⟨id,off,sp⟩))) (h:O5 X false os o s kv=some (s',kv')):
  s'.tmps=s.tmps∧kv'=kv∧∀ j,j≠id->s'.heap.get j=s.heap.get j:=by
 obtain⟨h1,h2,t,y,ho⟩:=gC hd
 rw [y6,A6] at h
 have hgu:I6 X.gd os o s.tmps kv=some (false,s.tmps,kv,[]):=by unfold I6; rw [h2]
 rw [hgu] at h
 simp only at h
 split at h
 ·cases h
 rename_i tmps' kv1 tv r he
 cases h
 split at he
 ·cases he
 rename_i r0' hand
 cases he
 rcases E2 hand with ⟨r0,hb,er⟩ | ⟨_,hc,_⟩
 case inr=>cases hc
 subst er
 refine⟨by show g0c s.tmps o.dst _=_; rw [h1]; rfl,rfl,fun j hj=> ?_⟩
 show r0.h.get j=_
 unfold D3 at hb
 split at hb
 ·cases hb
 rw [ho] at hb
 simp only [s2b] at hb
 split at hb
 case h_2=>cases hb
 rename_i r1 hr1
 have hr0:r0.h=r1.h:=by
  simp only [z0m,Bool.or_false] at hb
  cases hb
  rfl
 rw [hr0]
 unfold v0b at hr1
 simp only [u9] at hr1
 rw [ho] at hr1
 simp only at hr1
 split at hr1
 ·rename_i a v ha hv
  have:a= .pointer (some ⟨id,off,sp⟩):=by
   simp only [evo,hg,rd] at ha
   cases ha
   rfl
  subst this
  split at hr1
  ·rename_i H' l hst
   cases hr1
   exact wY hst j hj
  split at hr1
  ·rename_i H' hst
   cases hr1
   exact b0s hst j hj
  ·cases hr1
 ·cases hr1
theorem dI {X:Cx} {os:List Oper} {m:Nat} {s0:St} {kv0:KV} {ws:List Nat} (hst:∀ k o,os[m+k]? =some o->∃ d id off sp,nZ o=some d∧x4 s0.tmps d= .v (.pointer (some ⟨id,off,sp⟩))∧E9 id ws=true):
  ∀ {k:Nat} {s:St} {kv:KV},evT X os m (s0,kv0) k=some (s,kv)->s.tmps=s0.tmps∧kv=kv0∧(∀ j,E9 j ws=false->s.heap.get j=s0.heap.get j)∧s0.nid<=s.nid
 | 0,s,kv,h=>by simp only [evT] at h; cases h; exact⟨rfl,rfl,fun _ _=>rfl,d5 _⟩
 | k+1,s,kv,h=>by
  obtain⟨s1,k1,o,h1,ho,h2⟩:=dY h
  obtain⟨e1,e2,e3,e4⟩:=dI hst h1
  obtain⟨d,id,off,sp,g1,g2,g3⟩:=hst k o ho
  obtain⟨f1,f2,f3⟩:=nX g1 (by rw [e1]; exact g2) h2
  refine⟨f1.trans e1,f2.trans e2,fun j hj=>(f3 j (fun e=>by rw [e,g3] at hj; cases hj)).trans (e3 j hj),u7 e4 ?_⟩
  obtain⟨_,_,t,y,hop⟩:=gC g1
  rw [y6,A6] at h2
  split at h2
  ·cases h2
  rename_i he
  cases h2
  split at he
  ·cases he
  ·cases he; exact d5 _
  ·split at he
   ·cases he
   ·rename_i hand
    cases he
    rename_i r1 _ _ _ _
    have:∃ q' r0 cs ts,D3 X q' o cs ts s1.heap s1.nid s1.ds=some r0∧r1.n=r0.n:=by
     rcases E2 hand with ⟨r0,hb,er⟩ | ⟨_,_,_,r0,hb,er⟩
     ·exact⟨_,r0,_,_,hb,by rw [er]⟩
     ·exact⟨_,r0,_,_,hb,by rw [er]⟩
    obtain⟨q',r0,cs,ts,hb,e0⟩:=this
    show s1.nid<=r1.n
    rw [e0]
    unfold D3 at hb
    split at hb
    ·cases hb
    rw [hop] at hb
    simp only [s2b] at hb
    split at hb
    case h_2=>cases hb
    split at hb
    ·cases hb; exact d5 _
    ·split at hb
     ·cases hb; exact Nat.le_succ _
     ·cases hb
structure HalfF (X:Cx) (J:Inv X.P) (B:Nat) (M:Nat->Prop) (w0:Bas) (os:List Oper) (m t:Nat) (s0:St) (a0:Act) (ρ0:Num) (sm:HSt) (st:St) (listed:Array Bool) (a:Act) (w:World):Prop where
 size:listed.size=os.length
 closed:∀ j o,os[j]? =some o->Lst listed j->∀ e∈m6 o,Lst listed e
 mt:m<=t
 tn:t<=os.length
 tl:∀ j,m<=j->j < os.length->(Lst listed j↔j < t)
 asize:a.tmps.size=s0.tmps.length
 defers:a.defers=w0.dfs
 base:B<=w.heap.size
 inv:J.I w
 keeps:Keeps B M w0.w w
 old:∀ d,(∀ k o,k < m->Lst listed k->os[k]? =some o->o.dst≠some d)->a.tmps.getD d undef=a0.tmps.getD d undef
 rep:∃ ρ,Agree s0.nid ρ0 ρ∧∀ ρ',Agree st.nid ρ ρ'->Sim X.P B M ρ' st.heap w∧
  ∀ k o d,k < m->Lst listed k->os[k]? =some o->o.dst=some d->∀ β,KVok sm.kv β->D7 ρ' β (x4 sm.tm d) (a.tmps.getD d undef)
def HSt.toF (h:HSt) (s:St):St:=⟨h.tm,s.heap,s.nid,s.ds,h.obs,s.lp,s.rd,s.mks,s.bs⟩
section
variable {X:Cx} {J:Inv X.P} (hX:CxOk X J) {B:Nat} {M:Nat->Prop} (hp:Par X.P B M) {w0:Bas} {os:List Oper} {m:Nat} (hd:Floats os m) {s0:St} {a0:Act} {ρ0:Num} {sm:HSt} {nb:Nat} {ws:List Nat}
 (hm:aL X false os nb (G9 ws s0.heap) s0.ds s0.tmps s0.obs m=some sm) (hst:∀ k o,os[m+k]? =some o->∃ d id off sp,nZ o=some d∧x4 sm.tm d= .v (.pointer (some ⟨id,off,sp⟩))∧E9 id ws=true)
 (h0:∀ ρ',Agree s0.nid ρ0 ρ'->∀ β t,D7 ρ' β (x4 s0.tmps t) (a0.tmps.getD t undef))
include hX hp hd hm hst h0 in
theorem y0t (hl:d9 sm.obs) {t:Nat} {st:St} {kt:KV} (ht:evT X os m (sm.toF s0,sm.kv) (t-m)=some (st,kt)) {listed:Array Bool} {a:Act} {w:World} (h:HalfF X J B M w0 os m t s0 a0 ρ0 sm st listed a w) {i:Nat} (him:i < m) (hr:i∈zO7 .any ⟨os⟩ listed)
  {rb:Option Nat} {K:Act->World->Prop} {Q:Exit->Act->World->Prop} (hK:∀ a' w',HalfF X J B M w0 os m t s0 a0 ρ0 sm st (listed.setIfInBounds i true) a' w'->K a' w'):wpOpIn (Fl rb) 0 X.P ⟨os⟩ Q i K a w:=by
 obtain⟨⟨hi,hnl⟩,o,ho,hpre⟩:=ready_iff.1 hr
 obtain⟨s1,hq1⟩:=tE (i:=i+1) (by omega) hm
 obtain⟨si,o',tmps',tv,ob',hsi,ho',hop,e1,e3⟩:=B3 hq1
 rw [ho] at ho'
 cases ho'
 have hobs:=dK (by omega) hq1 hm hl
 rw [e3] at hobs
 simp only [m3] at hobs
 obtain⟨_,elen⟩:=y7 hsi
 have hsub:∀ β,KVok sm.kv β->KVok s1.kv β:=fun β hβ=>eD (by omega) hq1 hm hβ
 have hsubi:∀ β,KVok sm.kv β->KVok si.kv β:=fun β hβ=>eD (by omega) hsi hm hβ
 obtain⟨f1,f2,f3,f4⟩:=dI (s0:=sm.toF s0) (ws:=ws) hst ht
 have f4:s0.nid<=st.nid:=f4
 obtain⟨ρ,hρ0,hrep⟩:=h.rep
 have hisz:i < listed.size:=hi
 rcases H4 hop with ⟨r,he,hr2,_,q4,_⟩ | ⟨r,_,_,q2,_⟩ | ⟨hc,_⟩ | ⟨hc,_⟩
 case inr.inl=>rw [hd.quiet i o him ho] at q2; cases q2
 case inr.inr.inl=>cases hc
 case inr.inr.inr=>cases hc
 rw [<- hr2] at hobs
 have hla:si.la=[] :=by
  have key:∀ (n:Nat) (s:HSt),n<=m->aL X false os nb (G9 ws s0.heap) s0.ds s0.tmps s0.obs n=some s->s.la=[] :=by
   intro n
   induction n with
   | zero=>intro s _ hs; simp only [aL] at hs; cases hs; rfl
   | succ n ih=>
    intro s hn hs
    obtain⟨s2,o2,_,_,_,g1,g2,g5,_⟩:=B3 hs
    rcases H4 g5 with ⟨_,_,_,_,g3,_⟩ | ⟨_,_,_,g4,_⟩ | ⟨hc,_⟩ | ⟨hc,_⟩
    ·rw [g3]; exact ih s2 (by omega) g1
    ·rw [hd.quiet n o2 (by omega) g2] at g4; cases g4
    ·cases hc
    ·cases hc
  exact key i si (by omega) hsi
 generalize hHdef:y1t si.ef (sD os o si.la (G9 ws s0.heap))=H at he
 have hH:∀ j ob,H.get j=some ob->(G9 ws s0.heap).get j=some ob:=by
  intro j ob hj
  rw [<- hHdef,hla,a0r hsi] at hj
  exact s0w (la:=[]) hj
 have hrh:r.h=H:=by
  rw [A6] at he
  split at he
  ·cases he
  ·cases he; rfl
  ·split at he
   ·cases he
   ·rename_i hb
    cases he
    rcases E2 hb with ⟨r0,hb1,er⟩ | ⟨hq0,_⟩
    ·subst er; exact (N4 hb1).1
    ·cases hq0
 have hT:∀ ρ',Agree st.nid ρ ρ'->∀ β,KVok sm.kv β->∀ x∈looks os o,D7 ρ' β (x4 si.tm x) (a.tmps.getD x undef):=by
  intro ρ' ha β hβ x hx
  by_cases hw:∃ k ok,k < m∧Lst listed k∧os[k]? =some ok∧ok.dst=some x
  ·obtain⟨k,ok,hk,hlk,hok,hdk⟩:=hw
   have hki:k < i:=by
    rcases hd.slot i o him ho x hx k ok hk hok hdk with e | e | e
    ·subst e; exact absurd hlk hnl
    ·exact hd.fwd i o ho k e
    ·exact absurd (h.closed k ok hok hlk i e) hnl
   have:=(hrep ρ' ha).2 k ok x hk hlk hok hdk β hβ
   refine (F3 (by omega:i<=m) hsi hm hβ (fun k2 o2 hk1 hk2 ho2 hd2=> ?_)).2 this
   have:=hd.dup k k2 ok o2 x hk hk2 hok ho2 hdk hd2
   omega
  ·have hno:∀ k ok,k < m->Lst listed k->os[k]? =some ok->ok.dst≠some x:=fun k ok hk hlk hok e=>hw ⟨k,ok,hk,hlk,hok,e⟩
   rw [h.old x hno]
   refine (F3 (o8 i) rfl hsi (hsubi β hβ) (fun k ok _ hk hok hdk=> ?_)).1 (h0 ρ' (fun j hj=> ?_) β x)
   ·rcases hd.slot i o him ho x hx k ok (by omega) hok hdk with e | e | e
    ·omega
    ·exact hno k ok (by omega) (hpre k e) hok hdk
    ·have:=hd.fwd k ok hok i e
     omega
   ·rw [ha j (by omega)]; exact hρ0 j hj
 refine cO hX ho he (.inl rfl) hobs.1 hp (F:=fun ρ'=>Agree st.nid ρ ρ') (ρ:=ρ) (Agree.refl _ _) (Cβ:=KVok sm.kv) (y7 hm).1 hsub h.base h.inv (fun ρ' ha=> ?_) hT (fun hh=>by cases hh) (fun v w' hfin hk hbl=>hK _ _ ?_)
 ·refine (hrep ρ' ha).1.less fun j ob hj=> ?_
  obtain⟨g1,g2⟩:=G6 (hH j ob hj)
  rw [f3 j g2]
  exact g1
 refine⟨by simpa using h.size,fun j oj hoj hlj e he'=> ?_,h.mt,h.tn,fun j hj hjn=> ?_,by rw [S7]; exact h.asize,by rw [H3]; exact h.defers,u7 h.base hk.size,J.keeps hp hk h.inv,h.keeps.trans hk,fun d hno=> ?_,
  ρ,hρ0,fun ρ' ha=>⟨(hrep ρ' ha).1.below (hbl rfl),fun k ok d hkm hlk hok hdk β hβ=> ?_⟩⟩
 ·rw [p5 hisz] at hlj ⊢
  rcases hlj with rfl | hlj
  ·rw [ho] at hoj; cases hoj
   exact .inr (hpre e he')
  ·exact .inr (h.closed j oj hoj hlj e he')
 ·rw [p5 hisz,<- h.tl j hj hjn]
  exact⟨fun e=>e.elim (fun e=>by omega) id, .inr⟩
 ·rw [H9,a8 (fun hh=>hno i o him ((p5 hisz).2 (.inl rfl)) ho hh.1)]
  exact h.old d (fun k ok hkm hlk hok=>hno k ok hkm ((p5 hisz).2 (.inr hlk)) hok)
 ·rw [H9]
  by_cases hki:k=i
  ·subst hki
   rw [ho] at hok
   cases hok
   by_cases hds:d < a.tmps.size
   ·rw [i6 ⟨hdk,hds⟩]
    have hslot:=F3 (X:=X) (os:=os) (ρ:=ρ') (β:=β) (t:=d) (r:=v) (by omega:k+1<=m) hq1 hm hβ (fun k2 o2 hk1 hk2 ho2 hd2=>by
     have:=hd.dup k k2 o o2 d hkm hk2 ho ho2 hdk hd2
     omega)
    rw [<- hslot,e1]
    obtain⟨_,_,hl'⟩:=L6 he (y7 hsi).1
    rw [N1,i6 ⟨hdk,by rw [hl',elen,<- h.asize]; exact hds⟩]
    exact (hfin ρ' ha).2 β hβ
   ·have hnone:x4 sm.tm d= .unk:=by
     simp only [E1]
     have e7:sm.tm.length=s0.tmps.length:=(y7 hm).2
     have e8:a.tmps.size=s0.tmps.length:=h.asize
     have e9:a.tmps.size<=d:=mW hds
     rw [j0a (by omega)]
    rw [hnone]
    trivial
  ·have hlk':Lst listed k:=by
    rcases (p5 hisz).1 hlk with e | e
    ·exact absurd e hki
    ·exact e
   have hne:o.dst≠some d:=fun e=>hki (hd.dup k i ok o d hkm him hok ho hdk e)
   rw [a8 (fun hh=>hne hh.1)]
   exact (hrep ρ' ha).2 k ok d hkm hlk' hok hdk β hβ
include hX hp hd hm hst h0 in
theorem w0r {t:Nat} {st st':St} {kt kt':KV} (ht:evT X os m (sm.toF s0,sm.kv) (t-m)=some (st,kt)) {o:Oper} (ho:os[t]? =some o) (hop:O5 X false os o st kt=some (st',kt')) (hl:d9 st'.obs)
  {listed:Array Bool} {a:Act} {w:World} (h:HalfF X J B M w0 os m t s0 a0 ρ0 sm st listed a w) (hpre:∀ e∈m6 o,Lst listed e) (htn:t < os.length)
  {rb:Option Nat} {K:Act->World->Prop} {Q:Exit->Act->World->Prop} (hK:∀ a' w',HalfF X J B M w0 os m (t+1) s0 a0 ρ0 sm st' (listed.setIfInBounds t true) a' w'->K a' w'):wpOpIn (Fl rb) 0 X.P ⟨os⟩ Q t K a w:=by
 obtain⟨f1,f2,f3,f4⟩:=dI (s0:=sm.toF s0) (ws:=ws) hst ht
 have f4:s0.nid<=st.nid:=f4
 have f1:st.tmps=sm.tm:=f1
 have f2:kt=sm.kv:=f2
 subst f2
 obtain⟨d0,id,off,sp,g1,g2,g3⟩:=hst (t-m) o (by rw [show m+(t-m)=t by have:=h.mt; omega]; exact ho)
 obtain⟨z1,z2,z3⟩:=nX g1 (by rw [f1]; exact g2) hop
 obtain⟨y1,y2,_⟩:=gC g1
 obtain⟨ρ,hρ0,hrep⟩:=h.rep
 rw [y6] at hop
 split at hop
 ·cases hop
 rename_i tmps' kv1 tv r he
 cases hop
 simp only [m3] at hl
 have hlt:t < listed.size:=by rw [h.size]; exact htn
 subst z2
 refine P9 hX ho he hl.1 hp (ρ:=ρ) (Cβ:=KVok sm.kv) (y7 hm).1 (fun _ hh=>hh) h.base h.inv (fun ρ' ha=>(hrep ρ' ha).1) (fun ρ' ha β hβ x hx=> ?_) (fun v w' ρ1 ha hn hfin hk _=>hK _ _ ?_)
 ·rw [f1]
  by_cases hw:∃ k ok,k < m∧Lst listed k∧os[k]? =some ok∧ok.dst=some x
  ·obtain⟨k,ok,hk,hlk,hok,hdk⟩:=hw
   exact (hrep ρ' ha).2 k ok x hk hlk hok hdk β hβ
  ·have hno:∀ k ok,k < m->os[k]? =some ok->ok.dst≠some x:=fun k ok hk hok e=>by
    refine hw ⟨k,ok,hk,hd.tail (Lst listed) t o h.mt ho (fun j oj hmj hjt hoj e' he'=> ?_) x hx k ok hk hok e,hok,e⟩
    by_cases ejt:j=t
    ·subst ejt
     rw [ho] at hoj
     cases hoj
     exact hpre e' he'
    ·exact h.closed j oj hoj ((h.tl j hmj (by omega)).2 (by omega)) e' he'
   rw [h.old x (fun k ok hk _ hok=>hno k ok hk hok)]
   exact (F3 (o8 m) rfl hm hβ (fun k ok _ hk hok=>hno k ok hk hok)).1 (h0 ρ' (fun j hj=>by rw [ha j (by omega)]; exact hρ0 j hj) β x)
 ·have hput:∀ x,(a.put o.dst v).tmps.getD x undef=a.tmps.getD x undef:=fun x=>by rw [H9,y1,a8 (fun hh=>by cases hh.1)]
  refine⟨by simpa using h.size,fun j oj hoj hlj e he'=> ?_,by have:=h.mt; omega,by omega,fun j hj hjn=> ?_,by rw [S7]; exact h.asize,by rw [H3]; exact h.defers,u7 h.base hk.size,J.keeps hp hk h.inv,h.keeps.trans hk,fun d hno=> ?_,
   ρ1,hρ0.trans ha f4,fun ρ' ha'=>⟨(hfin ρ' ha').1,fun k ok d hkm hlk hok hdk β hβ=> ?_⟩⟩
  ·rw [p5 hlt] at hlj ⊢
   rcases hlj with rfl | hlj
   ·rw [ho] at hoj; cases hoj
    exact .inr (hpre e he')
   ·exact .inr (h.closed j oj hoj hlj e he')
  ·rw [p5 hlt,h.tl j hj hjn]
   omega
  ·rw [hput]
   exact h.old d (fun k ok hkm hlk hok=>hno k ok hkm ((p5 hlt).2 (.inr hlk)) hok)
  ·rw [hput]
   have hlk':Lst listed k:=by
    rcases (p5 hlt).1 hlk with e | e
    ·have:=h.mt; omega
    ·exact e
   exact (hrep ρ' (fun j hj=>(ha' j (B9 hj hn)).trans (ha j hj))).2 k ok d hkm hlk' hok hdk β hβ
include hX hp hd hm hst h0 in
theorem n0w (hρ0:w0.n<=s0.nid∧Agree w0.n w0.ρ ρ0) {sn:St} {kn:KV} (hn:evT X os m (sm.toF s0,sm.kv) (os.length-m)=some (sn,kn)) (hl:d9 sn.obs) {rb:Option Nat} {Q:Exit->Act->World->Prop} (hQ:∀ a w,RepR X.P J B M w0 kn sn a w->Q .normal a w):
  ∀ (fuel t:Nat) (st:St) (kt:KV) (listed:Array Bool) (a:Act) (w:World),unl listed os.length<=fuel->evT X os m (sm.toF s0,sm.kv) (t-m)=some (st,kt)->HalfF X J B M w0 os m t s0 a0 ρ0 sm st listed a w->wpAnyIn (Fl rb) 0 X.P .any ⟨os⟩ Q fuel listed a w:=by
 have hlm:d9 sm.obs:=cS (X:=X) (os:=os) (m:=m) (o8 _) rfl hn hl
 have fin:∀ (t:Nat) (st:St) (kt:KV) (listed:Array Bool) (a:Act) (w:World),evT X os m (sm.toF s0,sm.kv) (t-m)=some (st,kt)->HalfF X J B M w0 os m t s0 a0 ρ0 sm st listed a w->(∀ k,k < os.length->Lst listed k)->Q .normal a w:=by
  intro t st kt listed a w ht h hall
  have htn:t=os.length:=by
   rcases E0 t os.length with hlt | hge
   ·have:=(h.tl t h.mt hlt).1 (hall t hlt)
    omega
   ·have:=h.tn; omega
  subst htn
  rw [ht] at hn
  cases hn
  refine hQ a w ?_
  obtain⟨f1,f2,f3,f4⟩:=dI (s0:=sm.toF s0) (ws:=ws) hst ht
  have f1:sn.tmps=sm.tm:=f1
  have f2:kn=sm.kv:=f2
  have f4:s0.nid<=sn.nid:=f4
  obtain⟨ρ,hρ,hrep⟩:=h.rep
  obtain⟨k1,k2⟩:=y7 hm
  subst f2
  refine⟨by rw [f1,k2]; exact h.asize,h.defers,h.base,h.inv,h.keeps,k1,ρ,⟨u7 hρ0.1 f4,hρ0.2.trans hρ hρ0.1⟩,fun ρ' ha=>⟨(hrep ρ' ha).1,fun β hβ x=> ?_⟩⟩
  rw [f1]
  by_cases hw:∃ k o,k < m∧os[k]? =some o∧o.dst=some x
  ·obtain⟨k,o,hk,ho,hdk⟩:=hw
   exact (hrep ρ' ha).2 k o x hk (hall k (by have:=hd.le; omega)) ho hdk β hβ
  ·have hno:∀ k o,k < m->os[k]? =some o->o.dst≠some x:=fun k o hk ho e=>hw ⟨k,o,hk,ho,e⟩
   rw [h.old x (fun k o hk _ ho=>hno k o hk ho)]
   exact (F3 (o8 m) rfl hm hβ (fun k o _ hk ho=>hno k o hk ho)).1 (h0 ρ' (fun j hj=>by rw [ha j (by omega)]; exact hρ j hj) β x)
 intro fuel
 induction fuel with
 | zero=>
  intro t st kt listed a w hf ht h
  have hall:∀ k,k < os.length->Lst listed k:=fun k hk=>qB (by omega) hk
  refine⟨?_,fin t st kt listed a w ht h hall⟩
  cases hr:zO7 .any ⟨os⟩ listed with
  | nil=>rfl
  | cons x xs=>
   have:x∈zO7 .any ⟨os⟩ listed:=by rw [hr]; simp
   obtain⟨⟨h1,h2⟩,_⟩:=ready_iff.1 this
   exact absurd (hall x (by rw [<- h.size]; exact h1)) h2
 | succ fuel ih=>
  intro t st kt listed a w hf ht h
  refine⟨fun hr0=>fin t st kt listed a w ht h (fun k hk=>bP fun hnk=> ?_),fun i hi=> ?_⟩
  ·haveI:DecidablePred fun k=>¬ Lst listed k:=fun k=>Classical.propDecidable _
   obtain⟨k',hk',hnl,hmin⟩:=q0k (p:=fun k=>¬ Lst listed k) os.length ⟨k,hk,hnk⟩
   obtain⟨o,ho⟩:∃ o,os[k']? =some o:=⟨os[k'],by simp [hk']⟩
   have:k'∈zO7 .any ⟨os⟩ listed:=ready_iff.2 ⟨⟨by rw [h.size]; exact hk',hnl⟩,o,ho,fun e he=>bP fun hn'=>hmin e (hd.fwd k' o ho e he) hn'⟩
   rw [hr0] at this
   cases this
  ·obtain⟨⟨h1,h2⟩,o,ho,hpre⟩:=ready_iff.1 hi
   have hin:i < os.length:=by rw [<- h.size]; exact h1
   have hun:=c0s hin h.size h2
   by_cases him:i < m
   ·exact y0t hX hp hd hm hst h0 hlm ht h him hi (fun a' w' h'=>ih t st kt _ a' w' (by omega) ht h')
   ·have hit:i=t:=by
     rcases iG i t with h' | h' | h'
     ·exact absurd ((h.tl i (by omega) hin).2 h') h2
     ·exact h'
     ·have:=hpre (i-1) (hd.chain i o (by have:=h.mt; omega) ho)
      have:=(h.tl (i-1) (by have:=h.mt; omega) (by omega)).1 this
      omega
    subst hit
    obtain⟨⟨s1,k1⟩,hq1⟩:=f0e (i:=i-m+1) (by omega) hn
    obtain⟨s',kv',o',q1,q2,q3⟩:=dY hq1
    rw [ht] at q1
    cases q1
    rw [show m+(i-m)=i by omega] at q2
    rw [ho] at q2
    cases q2
    exact w0r hX hp hd hm hst h0 ht ho q3 (cS (by omega) hq1 hn hl) h hpre hin (fun a' w' h'=>ih (i+1) s1 k1 _ a' w' (by omega) (by rw [show i+1-m=i-m+1 by omega]; exact hq1) h')
end
def e1j:List Nat->List Nat->Bool
 | [],[] =>true
 | i ::r,j ::r'=>zO0 i j && e1j r r'
 | _,_=>false
def sY (X:Cx) (os:List Oper) (m:Nat) (s:St):Option St:=
 match s with
 | ⟨tm,hp,nid,ds,obs,lp,rd,mk,bs⟩=>match dG tm (os.drop m) with
  | none=>none
  | some ws=>match aL X false os nid (G9 ws hp) ds tm obs m with
   | none=>none
   | some ⟨tm',_,ob,kv,_,_⟩=>match dG tm' (os.drop m) with
    | none=>none
    | some ws'=>match e1j ws ws' with
     | false=>none
     | true=>match evT X os m (⟨tm',hp,nid,ds,ob,lp,rd,mk,bs⟩,kv) (os.length-m) with
      | none=>none
      | some (s',_)=>some s'
theorem a0x:∀ {l l':List Nat},e1j l l'=true->l=l'
 | [],[],_=>rfl
 | [],_ ::_,h=>by simp [e1j] at h
 | _ ::_,[],h=>by simp [e1j] at h
 | i ::r,j ::r',h=>by
  simp only [e1j,u6,y4] at h
  rw [h.1,a0x h.2]
theorem bJ {X:Cx} {os:List Oper} {m:Nat} {s s':St} (h:sY X os m s=some s'):
  ∃ ws hm kn,aL X false os s.nid (G9 ws s.heap) s.ds s.tmps s.obs m=some hm∧dG hm.tm (os.drop m)=some ws∧evT X os m (hm.toF s,hm.kv) (os.length-m)=some (s',kn):=by
 unfold sY at h
 dsimp only at h
 split at h
 ·cases h
 rename_i ws hws
 split at h
 ·cases h
 rename_i he
 split at h
 ·cases h
 rename_i ws' hws'
 split at h
 ·cases h
 rename_i hq
 have:=a0x hq
 subst this
 split at h
 ·cases h
 rename_i kn ht
 cases h
 exact⟨ws,_,_,he,hws',ht⟩
end
noncomputable section
def mH:List UInt8->List UInt8->Bool
 | [],[] =>true
 | a ::l,b ::m=>zO0 a.toNat b.toNat && mH l m
 | _,_=>false
theorem oN:∀ {l m:List UInt8},mH l m=true->l=m
 | [],[],_=>rfl
 | [],_ ::_,h=>by simp [mH] at h
 | _ ::_,[],h=>by simp [mH] at h
 | a ::l,b ::m,h=>by
  simp only [mH,u6,y4] at h
  rw [zzA135.1 h.1,oN h.2]
def v0r:Int->Int->Bool
 | .ofNat a, .ofNat b=>zO0 a b
 | .negSucc a, .negSucc b=>zO0 a b
 | _,_=>false
theorem w0y:∀ {a b:Int},v0r a b=true->a=b
 | .ofNat a, .ofNat b,h=>by simp only [v0r,y4] at h; rw [h]
 | .negSucc a, .negSucc b,h=>by simp only [v0r,y4] at h; rw [h]
 | .ofNat a, .negSucc b,h=>by simp [v0r] at h
 | .negSucc a, .ofNat b,h=>by simp [v0r] at h
def b0b:Option Nat->Option Nat->Bool
 | none,none=>true
 | some a,some b=>zO0 a b
 | _,_=>false
theorem sZ:∀ {a b:Option Nat},b0b a b=true->a=b
 | none,none,_=>rfl
 | some a,some b,h=>by simp only [b0b,y4] at h; rw [h]
 | none,some b,h=>by simp [b0b] at h
 | some a,none,h=>by simp [b0b] at h
def zL:Option Addr->Option Addr->Bool
 | none,none=>true
 | some ⟨b,o,s⟩,some ⟨b',o',s'⟩=>zO0 b b' && zO0 o o' && b0b s s'
 | _,_=>false
theorem rZ:∀ {a b:Option Addr},zL a b=true->a=b
 | none,none,_=>rfl
 | some ⟨b,o,s⟩,some ⟨b',o',s'⟩,h=>by
  simp only [zL,u6,y4] at h
  rw [h.1.1,h.1.2,sZ h.2]
 | none,some b,h=>by simp [zL] at h
 | some a,none,h=>by simp [zL] at h
def j2b:Fn->Fn->Bool
 | .func a, .func b=>zO0 a b
 | .yield a, .yield b=>zO0 a b
 | _,_=>false
theorem h1p:∀ {a b:Fn},j2b a b=true->a=b
 | .func a, .func b,h=>by simp only [j2b,y4] at h; rw [h]
 | .yield a, .yield b,h=>by simp only [j2b,y4] at h; rw [h]
 | a,b,h=>by
  unfold j2b at h
  split at h
  ·rw [y4] at h; rw [h]
  ·rw [y4] at h; rw [h]
  ·cases h
mutual
def eqV:Value->Value->Bool
 | .bool a,w=>match w with
  | .bool b=>v1o a b
  | _=>false
 | .int k a,w=>match w with
  | .int k' b=>decide (k=k') && v0r a b
  | _=>false
 | .float k a,w=>match w with
  | .float k' b=>decide (k=k') && zO0 a b
  | _=>false
 | .string ⟨⟨s⟩⟩,w=>match w with
  | .string ⟨⟨t⟩⟩=>mH s t
  | _=>false
 | .pointer a,w=>match w with
  | .pointer b=>zL a b
  | _=>false
 | .slice a n c,w=>match w with
  | .slice b n' c'=>zL a b && zO0 n n' && zO0 c c'
  | _=>false
 | .map a,w=>match w with
  | .map b=>b0b a b
  | _=>false
 | .func f a c,w=>match w with
  | .func f' a' c'=>j2b f f' && eqA a a' && eqA c c'
  | _=>false
 | .nilFunc,w=>match w with
  | .nilFunc=>true
  | _=>false
 | .iface t a,w=>match w with
  | .iface t' b=>zO0 t t' && eqV a b
  | _=>false
 | .nilIface,w=>match w with
  | .nilIface=>true
  | _=>false
 | .agg a,w=>match w with
  | .agg b=>eqA a b
  | _=>false
 | .tuple a,w=>match w with
  | .tuple b=>eqA a b
  | _=>false
 | .complex _ _ _,_=>false
 | .chan _,_=>false
def eqA:Array Value->Array Value->Bool
 | ⟨l⟩,w=>match w with
  | ⟨m⟩=>eqL l m
def eqL:List Value->List Value->Bool
 | [],w=>match w with
  | [] =>true
  | _=>false
 | v ::l,w=>match w with
  | [] =>false
  | x ::m=>eqV v x && eqL l m
end
theorem zJ {a b:Bool} (h:v1o a b=true):a=b:=by
 cases a <;> cases b <;> first | rfl | (cases h)
mutual
theorem qK:∀ (v w:Value),eqV v w=true->v=w
 | .bool a,w,h=>by
  unfold eqV at h
  split at h
  ·rw [zJ h]
  ·cases h
 | .int k a,w,h=>by
  unfold eqV at h
  split at h
  ·simp only [u6,V9] at h; rw [h.1,w0y h.2]
  ·cases h
 | .float k a,w,h=>by
  unfold eqV at h
  split at h
  ·simp only [u6,V9,y4] at h; rw [h.1,h.2]
  ·cases h
 | .string ⟨⟨s⟩⟩,w,h=>by
  unfold eqV at h
  split at h
  ·rw [oN h]
  ·cases h
 | .pointer a,w,h=>by
  unfold eqV at h
  split at h
  ·rw [rZ h]
  ·cases h
 | .slice a n c,w,h=>by
  unfold eqV at h
  split at h
  ·simp only [u6,y4] at h; rw [rZ h.1.1,h.1.2,h.2]
  ·cases h
 | .map a,w,h=>by
  unfold eqV at h
  split at h
  ·rw [sZ h]
  ·cases h
 | .func f a c,w,h=>by
  unfold eqV at h
  split at h
  ·simp only [u6] at h; rw [h1p h.1.1,eqA_spec _ _ h.1.2,eqA_spec _ _ h.2]
  ·cases h
 | .nilFunc,w,h=>by
  unfold eqV at h
  split at h
  ·rfl
  ·cases h
 | .iface t a,w,h=>by
  unfold eqV at h
  split at h
  ·simp only [u6,y4] at h; rw [h.1,qK _ _ h.2]
  ·cases h
 | .nilIface,w,h=>by
  unfold eqV at h
  split at h
  ·rfl
  ·cases h
 | .agg a,w,h=>by
  unfold eqV at h
  split at h
  ·rw [eqA_spec _ _ h]
  ·cases h
 | .tuple a,w,h=>by
  unfold eqV at h
  split at h
  ·rw [eqA_spec _ _ h]
  ·cases h
 | .complex _ _ _,w,h=>by unfold eqV at h; cases h
 | .chan _,w,h=>by unfold eqV at h; cases h
theorem eqA_spec:∀ (v w:Array Value),eqA v w=true->v=w
 | ⟨l⟩,⟨m⟩,h=>by
  unfold eqA at h
  rw [eqL_spec l m h]
theorem eqL_spec:∀ (v w:List Value),eqL v w=true->v=w
 | [],w,h=>by
  unfold eqL at h
  split at h
  ·rfl
  ·cases h
 | v ::l,w,h=>by
  unfold eqL at h
  split at h
  ·cases h
  ·simp only [u6] at h
   rw [qK _ _ h.1,eqL_spec _ _ h.2]
end
def d2v:List (Nat×Bool)->List (Nat×Bool)->Bool
 | [],[] =>true
 | (i,a) ::l,(j,b) ::m=>zO0 i j && v1o a b && d2v l m
 | _,_=>false
theorem g0z:∀ {l m:List (Nat×Bool)},d2v l m=true->l=m
 | [],[],_=>rfl
 | [],_ ::_,h=>by simp [d2v] at h
 | _ ::_,[],h=>by simp [d2v] at h
 | (i,a) ::l,(j,b) ::m,h=>by
  simp only [d2v,u6,y4] at h
  rw [h.1.1,zJ h.1.2,g0z h.2]
def eqT:TV->TV->Bool
 | .v a,t=>match t with
  | .v b=>eqV a b
  | _=>false
 | .sp l a,t=>match t with
  | .sp m b=>d2v l m && eqV a b
  | _=>false
 | _,_=>false
theorem o1x {a b:TV} (h:eqT a b=true):a=b:=by
 unfold eqT at h
 split at h
 ·split at h
  ·rw [qK _ _ h]
  ·cases h
 ·split at h
  ·simp only [u6] at h
   rw [g0z h.1,qK _ _ h.2]
  ·cases h
 ·cases h
theorem y0e {P:Program} {auto:Bool} {ev:Operand->Option Value} {o:Oper} (hb:aC o.op=true) (H H':Heap) (n n':Nat) (ds:List Bool) {r:R} (h:v0b P auto ev o H n ds=some r):
  ∃ h',v0b P auto ev o H' n' ds=some ⟨r.v,h',r.obs,r.ds⟩:=by
 have mk:∀ {x:Option Value},mkR H ds x=some r->∃ h',mkR H' ds x=some ⟨r.v,h',r.obs,r.ds⟩:=fun {x} hx=>by
  cases x with
  | none=>cases hx
  | some v=>cases hx; exact⟨H',rfl⟩
 have mk2:∀ {x:Option (Value×List Prop)},v0p H ds x=some r->∃ h',v0p H' ds x=some ⟨r.v,h',r.obs,r.ds⟩:=fun {x} hx=>by
  cases x with
  | none=>cases hx
  | some v=>cases hx; exact⟨H',rfl⟩
 unfold v0b at h ⊢
 cases ho:o.op with
 | move x=>rw [ho] at h; exact mk h
 | assign x=>rw [ho] at h; exact mk h
 | build t ps=>
  rw [ho] at h
  dsimp only at h ⊢
  cases hp:gV ev ps.toList with
  | none=>rw [hp] at h; cases h
  | some l=>rw [hp] at h; exact mk h
 | binOp op t x y k=>
  rw [ho] at h
  dsimp only at h ⊢
  cases h1:ev x with
  | none=>rw [h1] at h; cases h
  | some a=>
   cases h2:ev y with
   | none=>rw [h1,h2] at h; cases h
   | some b=>
    rw [h1,h2] at h
    have hn:p2x y=false:=by rw [ho] at hb; simpa [aC] using hb
    dsimp only at h ⊢
    rw [hn] at h ⊢
    dsimp only at h ⊢
    cases h3:t0p P op t a b with
    | none=>rw [h3] at h; exact mk2 h
    | some v=>rw [h3] at h; exact mk h
 | unOp op t x=>
  rw [ho] at h
  dsimp only at h ⊢
  cases h1:ev x with
  | none=>rw [h1] at h; cases h
  | some a=>
   rw [h1] at h
   dsimp only at h ⊢
   cases h2:pureV a with
   | false=>rw [h2] at h; cases h
   | true=>rw [h2] at h; exact mk h
 | makeInterface t x=>
  rw [ho] at h
  dsimp only at h ⊢
  split at h
  ·cases h; exact⟨H',rfl⟩
  ·cases h
 | makeFunc f a b=>
  rw [ho] at h
  dsimp only at h ⊢
  split at h
  ·cases h; exact⟨H',rfl⟩
  ·cases h
 | field t x f=>
  rw [ho] at h
  dsimp only at h ⊢
  cases h1:ev x with
  | none=>rw [h1] at h; cases h
  | some a=>rw [h1] at h; exact mk h
 | index t x ix=>
  rw [ho] at h
  dsimp only at h ⊢
  cases h1:ev x with
  | none=>rw [h1] at h; cases h
  | some a=>
   cases h2:ev ix with
   | none=>rw [h1,h2] at h; cases h
   | some b=>rw [h1,h2] at h; exact mk2 h
 | extract x i=>
  rw [ho] at h
  dsimp only at h ⊢
  cases h1:ev x with
  | none=>rw [h1] at h; cases h
  | some a=>rw [h1] at h; exact mk h
 | pick c x y=>rw [ho] at h; cases h
 | _=>rw [ho] at hb; cases hb
theorem m0m {o:Op} (h:aC o=true):(∃ c x y,o= .pick c x y)∨B1 o=true:=by
 cases o <;> first | (cases h; done) | (exact .inr rfl) | (exact .inl ⟨_,_,_,rfl⟩)
theorem i0x {X:Cx} {o:Oper} {conds:List (Nat×Bool)} {tm:List TV} {H:Heap} {n:Nat} {ds:List Bool} {r:CR} (hb:aC o.op=true) (h:D3 X true o conds tm H n ds=some r) (H':Heap) (n':Nat):
  D3 X true o conds tm H' n' ds=some ⟨r.v,H',n',r.obs,ds⟩:=by
 unfold D3 at h ⊢
 cases hg:mO X.P o with
 | false=>rw [hg] at h; cases h
 | true=>
 rw [hg] at h
 dsimp only at h ⊢
 cases hs:s2b X.P X.auto (evo tm conds) o.op with
 | some e=>rw [hs] at h; cases h
 | none=>
 rw [hs] at h
 dsimp only at h ⊢
 rcases m0m hb with ⟨c,x,y,ho⟩ | hst
 ·rw [ho] at h ⊢
  dsimp only at h ⊢
  cases h1:(X5 x && X5 y) with
  | false=>rw [h1] at h; cases h
  | true=>
   rw [h1] at h
   dsimp only at h ⊢
   cases h2:u0m X.gd tm conds c x y with
   | none=>rw [h2] at h; cases h
   | some v=>rw [h2] at h; cases h; rfl
 ·have hc:∀ c,o.op≠ .call c:=fun c e=>by rw [e] at hb; cases hb
  have hpk:∀ c x y,o.op≠ .pick c x y:=fun c x y e=>by rw [e] at hst; cases hst
  split at h
  ·rename_i e; exact absurd e (hpk _ _ _)
  ·rename_i e; exact absurd e (hc _)
  cases h1:v0b X.P X.auto (evo tm conds) o H n ds with
  | none=>rw [h1] at h; cases h
  | some r0=>
   rw [h1] at h
   obtain⟨h',e⟩:=y0e hb H H' n n' ds h1
   rw [e]
   dsimp only at h ⊢
   rw [hst] at h ⊢
   cases h
   rfl
theorem o0f {X:Cx} {os:List Oper} {o:Oper} {tm tm':List TV} {H:Heap} {n:Nat} {ds:List Bool} {kv kv':KV} {tv:TV} {r:CR} (hb:aC o.op=true) (h:M9 X true os o tm H n ds kv=some (tm',kv',tv,r)) (H':Heap) (n':Nat):
  M9 X true os o tm H' n' ds kv=some (tm',kv',tv,⟨r.v,H',n',r.obs,ds⟩):=by
 rw [A6] at h ⊢
 split at h
 ·cases h
 ·cases h; rfl
 ·split at h
  ·cases h
  ·rename_i r1 ha
   cases h
   rcases E2 ha with ⟨r0,hbd,e⟩ | ⟨hq,_⟩
   ·have:=i0x hb (by simpa using hbd) H' n'
    subst e
    unfold g0l
    rw [show (true || z0m _)=true from rfl,this]
   ·cases hq
theorem n0s {X:Cx} {q q':Bool} {os:List Oper} {o:Oper} {tm t1 t2:List TV} {H H':Heap} {n n':Nat} {ds ds':List Bool} {kv k1 k2:KV} {v1 v2:TV} {r1 r2:CR} (h:M9 X q os o tm H n ds kv=some (t1,k1,v1,r1)) (h':M9 X q' os o tm H' n' ds' kv=some (t2,k2,v2,r2)):t1=t2∧k1=k2:=by
 rw [A6] at h h'
 cases hg:I6 X.gd os o tm kv with
 | none=>rw [hg] at h; cases h
 | some p=>
  obtain⟨b,t,k,c⟩:=p
  rw [hg] at h h'
  cases b with
  | true=>cases h; cases h'; exact⟨rfl,rfl⟩
  | false=>
   dsimp only at h h'
   split at h
   ·cases h
   ·cases h
    split at h'
    ·cases h'
    ·cases h'; exact⟨rfl,rfl⟩
def flO (o:Oper):Bool:=match o.op with
 | .pick _ _ _=>true
 | .call c=>match c.callee with
  | .builtin b=>match b1m b with
   | true=>false
   | false=>match f2g b with
    | true=>false
    | false=>true
  | _=>false
 | p=>B1 p
def evF (X:Cx) (os:List Oper) (s0:St):Nat->Option (St×KV)
 | 0=>some (s0,[])
 | i+1=>match evF X os s0 i with
  | none=>none
  | some (s,kv)=>match h1h os i with
   | none=>none
   | some o=>O5 X (flO o) os o s kv
section
variable {X:Cx} {os:List Oper} {s0:St}
theorem T3 {i:Nat} {s':St} {kv':KV} (h:evF X os s0 (i+1)=some (s',kv')):∃ s kv o,evF X os s0 i=some (s,kv)∧os[i]? =some o∧O5 X (flO o) os o s kv=some (s',kv'):=by
 simp only [evF,U7] at h
 split at h
 ·cases h
 ·rename_i s kv hs
  split at h
  ·cases h
  ·rename_i o ho
   exact⟨s,kv,o,hs,ho,h⟩
theorem m1b {i:Nat} {s:St} {kv:KV} {o:Oper} (h:evF X os s0 i=some (s,kv)) (ho:os[i]? =some o):evF X os s0 (i+1)=O5 X (flO o) os o s kv:=by
 simp only [evF,U7,h,ho]
theorem m0l:∀ {j i:Nat} {si sj:St} {ki kj:KV},i<=j->evF X os s0 i=some (si,ki)->evF X os s0 j=some (sj,kj)->d9 sj.obs->d9 si.obs
 | 0,i,si,sj,ki,kj,hij,h1,h2,hl=>by
  obtain rfl:i=0:=by omega
  rw [h1] at h2; cases h2; exact hl
 | j+1,i,si,sj,ki,kj,hij,h1,h2,hl=>by
  by_cases e:i=j+1
  ·subst e; rw [h1] at h2; cases h2; exact hl
  ·obtain⟨s,kv,o,hs,_,ho⟩:=T3 h2
   exact m0l (by omega) h1 hs (mF ho hl)
theorem v0e:∀ {j i:Nat} {r:St×KV},i<=j->evF X os s0 j=some r->∃ q,evF X os s0 i=some q
 | 0,i,r,hij,h=>by
  obtain rfl:i=0:=by omega
  exact⟨r,h⟩
 | j+1,i,r,hij,h=>by
  by_cases e:i=j+1
  ·subst e; exact⟨r,h⟩
  ·obtain⟨s',kv'⟩:=r
   obtain⟨s,kv,o,hs,_,_⟩:=T3 h
   exact v0e (by omega) hs
theorem T2:∀ {i:Nat} {s:St} {kv:KV},evF X os s0 i=some (s,kv)->(∃ β,KVok kv β)∧s.tmps.length=s0.tmps.length
 | 0,s,kv,h=>by simp only [evF] at h; cases h; exact⟨⟨fun _=>false,fun p hp=>by cases hp⟩,rfl⟩
 | i+1,s,kv,h=>by
  obtain⟨s1,k1,o,h1,_,h2⟩:=T3 h
  obtain⟨e1,e2⟩:=T2 h1
  rw [y6] at h2
  split at h2
  ·cases h2
  ·rename_i he
   cases h2
   obtain⟨g1,_,g3⟩:=L6 he e1
   exact⟨g1,by rw [R3]; omega⟩
theorem f0f {β:Nat->Bool} :∀ {j i:Nat} {si sj:St} {ki kj:KV},i<=j->evF X os s0 i=some (si,ki)->evF X os s0 j=some (sj,kj)->KVok kj β->KVok ki β
 | 0,i,si,sj,ki,kj,hij,h1,h2,hk=>by
  obtain rfl:i=0:=by omega
  rw [h1] at h2; cases h2; exact hk
 | j+1,i,si,sj,ki,kj,hij,h1,h2,hk=>by
  by_cases e:i=j+1
  ·subst e; rw [h1] at h2; cases h2; exact hk
  ·obtain⟨s,kv,o,hs,_,ho⟩:=T3 h2
   rw [y6] at ho
   split at ho
   ·cases ho
   ·rename_i he
    cases ho
    exact f0f (by omega) h1 hs ((L6 he (T2 hs).1).2.1 β hk)
theorem jB {ρ:Num} {β:Nat->Bool} {t:Nat} {r:Value} :∀ {j i:Nat} {si sj:St} {ki kj:KV},i<=j->evF X os s0 i=some (si,ki)->evF X os s0 j=some (sj,kj)->KVok kj β->
  (∀ k o,i<=k->k < j->os[k]? =some o->o.dst≠some t)->(D7 ρ β (x4 si.tmps t) r↔D7 ρ β (x4 sj.tmps t) r)
 | 0,i,si,sj,ki,kj,hij,h1,h2,_,_=>by
  obtain rfl:i=0:=by omega
  rw [h1] at h2; cases h2; exact Q8
 | j+1,i,si,sj,ki,kj,hij,h1,h2,hk,hw=>by
  by_cases e:i=j+1
  ·subst e; rw [h1] at h2; cases h2; exact Q8
  ·obtain⟨s,kv,o,hs,hoj,ho⟩:=T3 h2
   have hkv:KVok kv β:=f0f (by omega) hs h2 hk
   exact (jB (by omega) h1 hs hkv (fun k o' hk1 hk2=>hw k o' hk1 (by omega))).trans (vR ho hk (hw j o (by omega) (by omega) hoj) r)
theorem h0b:∀ {i:Nat} {s:St} {kv:KV},evF X os s0 i=some (s,kv)->s.rd=s0.rd∧s.mks=s0.mks∧s.bs=s0.bs
 | 0,s,kv,h=>by simp only [evF] at h; cases h; exact⟨rfl,rfl,rfl⟩
 | i+1,s,kv,h=>by
  obtain⟨s1,k1,o,h1,_,h2⟩:=T3 h
  obtain⟨e1,e2,e3⟩:=h0b h1
  rw [y6] at h2
  split at h2
  ·cases h2
  ·cases h2; exact⟨e1,e2,e3⟩
theorem iQ:∀ {j i:Nat} {si sj:St} {ki kj:KV},i<=j->evF X os s0 i=some (si,ki)->evF X os s0 j=some (sj,kj)->(∀ k o,i<=k->k < j->os[k]? =some o->flO o=true)->sj.heap=si.heap∧sj.nid=si.nid
 | 0,i,si,sj,ki,kj,hij,h1,h2,_=>by
  obtain rfl:i=0:=by omega
  rw [h1] at h2; cases h2; exact⟨rfl,rfl⟩
 | j+1,i,si,sj,ki,kj,hij,h1,h2,hw=>by
  by_cases e:i=j+1
  ·subst e; rw [h1] at h2; cases h2; exact⟨rfl,rfl⟩
  ·obtain⟨s,kv,o,hs,hoj,ho⟩:=T3 h2
   rw [hw j o (by omega) (by omega) hoj] at ho
   obtain⟨q1,q2,_⟩:=oI ho
   obtain⟨g1,g2⟩:=iQ (by omega) h1 hs (fun k o' hk1 hk2=>hw k o' hk1 (by omega))
   exact⟨q1.trans g1,q2.trans g2⟩
end
def trF (X:Cx) (os:List Oper):List Oper->St->KV->Option (List (St×KV))
 | [],s,kv=>some [(s,kv)]
 | o ::r,s,kv=>match O5 X (flO o) os o s kv with
  | none=>none
  | some (s',kv')=>match trF X os r s' kv' with
   | none=>none
   | some l=>some ((s,kv) ::l)
theorem s0z {X:Cx} {os:List Oper} {s0:St} :∀ {r:List Oper} {i:Nat} {s:St} {kv:KV} {l:List (St×KV)},trF X os r s kv=some l->evF X os s0 i=some (s,kv)->r=os.drop i->l.length=r.length+1∧∀ k p,l[k]? =some p->evF X os s0 (i+k)=some p
 | [],i,s,kv,l,h,hs,_=>by
  simp only [trF] at h
  cases h
  refine⟨rfl,fun k p hk=> ?_⟩
  cases k with
  | zero=>simp only [I4,G3] at hk; subst hk; exact hs
  | succ k=>simp at hk
 | o ::r,i,s,kv,l,h,hs,hr=>by
  simp only [trF] at h
  have ho:os[i]? =some o:=by
   have:=G7 (fun q=>q[0]?) hr
   simp only [I4,Q6,I2] at this
   exact this.symm
  have hr':r=os.drop (i+1):=by
   have:=G7 List.tail hr
   simpa using this
  split at h
  ·cases h
  ·rename_i s' kv' he
   split at h
   ·cases h
   ·rename_i l' hl'
    cases h
    obtain⟨e1,e2⟩:=s0z hl' ((m1b hs ho).trans he) hr'
    refine⟨by simp [e1],fun k p hk=> ?_⟩
    cases k with
    | zero=>simp only [I4,G3] at hk; subst hk; exact hs
    | succ k=>
     simp only [M8] at hk
     rw [show i+(k+1)=i+1+k by omega]
     exact e2 k p hk
def v0m:Nat->List Oper->List (St×KV)->List (Nat×St)
 | _,[],_=>[]
 | _,_ ::_,[] =>[]
 | i,o ::r,_ ::l=>match flO o with
  | true=>v0m (i+1) r l
  | false=>match l with
   | [] =>[]
   | (s,_) ::_=>(i+1,s) ::v0m (i+1) r l
theorem b0f:∀ {r:List Oper} {i:Nat} {l:List (St×KV)},l.length=r.length+1->∀ k o p,r[k]? =some o->flO o=false->l[k+1]? =some p->(i+k+1,p.1)∈v0m i r l
 | [],i,l,_,k,o,p,ho,_,_=>by simp at ho
 | x ::r,i,[],hl,k,o,p,ho,hf,hp=>by simp at hl
 | x ::r,i,y ::l,hl,k,o,p,ho,hf,hp=>by
  have hl':l.length=r.length+1:=by simpa using hl
  simp only [M8] at hp
  unfold v0m
  cases k with
  | zero=>
   simp only [I4,G3] at ho
   subst ho
   rw [hf]
   cases l with
   | nil=>simp at hp
   | cons z l=>
    simp only [I4,G3] at hp
    subst hp
    simp
  | succ k=>
   simp only [M8] at ho
   have:=b0f (i:=i+1) hl' k o p ho hf hp
   rw [show i+(k+1)+1=i+1+k+1 by omega]
   split
   ·exact this
   ·cases l with
    | nil=>simp at hp
    | cons z l=>exact W2 _ this
def k2r:List (Nat×List Nat)->List Nat->Bool
 | [],_=>true
 | (i,_) ::r,l=>E9 i l && k2r r l
theorem h0w:∀ {a:List (Nat×List Nat)} {l:List Nat},k2r a l=true->∀ p∈a,p.1∈l
 | [],_,_,p,hp=>by cases hp
 | (i,x) ::r,l,h,p,hp=>by
  simp only [k2r,u6,memN_iff] at h
  rcases zzA83.1 hp with rfl | hp
  ·exact h.1
  ·exact h0w h.2 p hp
def spF (os:List Oper):Nat->List Oper->List (Nat×List Nat)->Option (List (Nat×List Nat))
 | _,[],acc=>some acc
 | i,o ::r,acc=>match flO o with
  | true=>spF os (i+1) r acc
  | false=>match k2r acc (G4 os o) with
   | false=>none
   | true=>spF os (i+1) r ((i,G4 os o) ::acc)
theorem d0t {os:List Oper} :∀ {r:List Oper} {i:Nat} {acc z:List (Nat×List Nat)},spF os i r acc=some z->r=os.drop i->
  (∀ p∈acc,p.1 < i∧∃ o,os[p.1]? =some o∧flO o=false∧p.2=G4 os o)->(∀ j o,j < i->os[j]? =some o->flO o=false->(j,G4 os o)∈acc)->
  (∀ j k oj ok,j < k->k < i->os[j]? =some oj->os[k]? =some ok->flO oj=false->flO ok=false->j∈G4 os ok)->
  (∀ p∈z,∃ o,os[p.1]? =some o∧flO o=false∧p.2=G4 os o)∧(∀ j o,os[j]? =some o->flO o=false->(j,G4 os o)∈z)∧
  (∀ j k oj ok,j < k->os[j]? =some oj->os[k]? =some ok->flO oj=false->flO ok=false->j∈G4 os ok)
 | [],i,acc,z,h,hr,h1,h2,h3=>by
  simp only [spF] at h
  cases h
  have hi:os.length<=i:=by
   have:=G7 List.length hr
   simp only [mJ,K3] at this
   omega
  have lt:∀ {j o},os[j]? =some o->j < i:=fun {j o} hj=>by
   have:=(zzA1.1 hj).1
   omega
  exact⟨fun p hp=>(h1 p hp).2,fun j o hj hf=>h2 j o (lt hj) hj hf,fun j k oj ok hjk hj hk fj fk=>h3 j k oj ok hjk (lt hk) hj hk fj fk⟩
 | o ::r,i,acc,z,h,hr,h1,h2,h3=>by
  have ho:os[i]? =some o:=by
   have:=G7 (fun q=>q[0]?) hr
   simp only [I4,Q6,I2] at this
   exact this.symm
  have hr':r=os.drop (i+1):=by
   have:=G7 List.tail hr
   simpa using this
  simp only [spF] at h
  split at h
  ·rename_i hf
   refine d0t h hr' (fun p hp=>⟨by have:=(h1 p hp).1; omega,(h1 p hp).2⟩) (fun j oj hj hoj fj=> ?_) (fun j k oj ok hjk hk hoj hok fj fk=> ?_)
   ·by_cases e:j=i
    ·subst e; rw [ho] at hoj; cases hoj; rw [hf] at fj; cases fj
    ·exact h2 j oj (by omega) hoj fj
   ·by_cases e:k=i
    ·subst e; rw [ho] at hok; cases hok; rw [hf] at fk; cases fk
    ·exact h3 j k oj ok hjk (by omega) hoj hok fj fk
  ·rename_i hf
   split at h
   ·cases h
   ·rename_i hs
    refine d0t h hr' (fun p hp=> ?_) (fun j oj hj hoj fj=> ?_) (fun j k oj ok hjk hk hoj hok fj fk=> ?_)
    ·rcases zzA83.1 hp with rfl | hp
     ·exact⟨by show i < i+1; omega,o,ho,hf,rfl⟩
     ·exact⟨by have:=(h1 p hp).1; omega,(h1 p hp).2⟩
    ·by_cases e:j=i
     ·subst e; rw [ho] at hoj; cases hoj; exact kG
     ·exact W2 _ (h2 j oj (by omega) hoj fj)
    ·by_cases e:k=i
     ·subst e
      rw [ho] at hok
      cases hok
      exact h0w hs _ (h2 j oj hjk hoj fj)
     ·exact h3 j k oj ok hjk (by omega) hoj hok fj fk
def l0f (p k:Nat):List (Nat×List Nat)->Bool
 | [] =>true
 | (d,_) ::r=>(zO1 d p || Nat.ble k d) && l0f p k r
theorem rR {p k:Nat} :∀ {l:List (Nat×List Nat)},l0f p k l=true->∀ q∈l,q.1 < p∨k<=q.1
 | [],_,q,hq=>by cases hq
 | (d,x) ::r,h,q,hq=>by
  simp only [l0f,u6,lC,C0,H7] at h
  rcases zzA83.1 hq with rfl | hq
  ·exact h.1
  ·exact rR h.2 q hq
def x0z (k p:Nat):List (Nat×List Nat)->Bool
 | [] =>false
 | (d,rd) ::r=>(zO1 d p && E9 k rd) || x0z k p r
theorem b0g {k p:Nat} :∀ {l:List (Nat×List Nat)},x0z k p l=true->∃ q∈l,q.1 < p∧k∈q.2
 | [],h=>by simp [x0z] at h
 | (d,rd) ::r,h=>by
  simp only [x0z,lC,u6,C0,memN_iff] at h
  rcases h with h | h
  ·exact⟨_,kG,h⟩
  ·obtain⟨q,hq,h'⟩:=b0g h
   exact⟨q,W2 _ hq,h'⟩
def yU (re:List Nat) (p:Nat):List (Nat×List Nat)->Bool
 | [] =>false
 | (d,_) ::r=>(Nat.ble p d && E9 d re) || yU re p r
theorem sP {re:List Nat} {p:Nat} :∀ {l:List (Nat×List Nat)},yU re p l=true->∃ q∈l,p<=q.1∧q.1∈re
 | [],h=>by simp [yU] at h
 | (d,x) ::r,h=>by
  simp only [yU,lC,u6,H7,memN_iff] at h
  rcases h with h | h
  ·exact⟨_,kG,h⟩
  ·obtain⟨q,hq,h'⟩:=sP h
   exact⟨q,W2 _ hq,h'⟩
def n0k (re:List Nat) (k:Nat) (sp:List (Nat×List Nat)):List (Nat×St)->List (Nat×St)
 | [] =>[]
 | (p,s) ::r=>match Nat.ble p k && l0f p k sp with
  | true=>n0k re k sp r
  | false=>match x0z k p sp with
   | true=>n0k re k sp r
   | false=>match yU re p sp with
    | true=>n0k re k sp r
    | false=>(p,s) ::n0k re k sp r
theorem yC {re:List Nat} {k:Nat} {sp:List (Nat×List Nat)} :∀ {l:List (Nat×St)} {p:Nat} {s:St},(p,s)∈l->(p<=k∧l0f p k sp=true)∨x0z k p sp=true∨yU re p sp=true∨(p,s)∈n0k re k sp l
 | [],p,s,h=>by cases h
 | (p',s') ::r,p,s,h=>by
  unfold n0k
  rcases zzA83.1 h with e | h
  ·cases e
   split
   ·rename_i c
    simp only [u6,H7] at c
    exact .inl c
   ·split
    ·rename_i c; exact .inr (.inl c)
    ·split
     ·rename_i c; exact .inr (.inr (.inl c))
     ·exact .inr (.inr (.inr kG))
  ·rcases yC (re:=re) (k:=k) (sp:=sp) h with h1 | h1 | h1 | h1
   ·exact .inl h1
   ·exact .inr (.inl h1)
   ·exact .inr (.inr (.inl h1))
   ·refine .inr (.inr (.inr ?_))
    split
    ·exact h1
    ·split
     ·exact h1
     ·split
      ·exact h1
      ·exact W2 _ h1
def l2n (X:Cx) (os:List Oper) (o:Oper) (tm:List TV) (ds:List Bool) (kv:KV) (tv:TV):St->Option (List Prop)
 | ⟨_,hp,nid,_,_,_,_,_,_⟩=>match M9 X true os o tm hp nid ds kv with
  | none=>none
  | some (_,_,tv',⟨_,_,_,ob,_⟩)=>match X.auto with
   | true=>match eqT tv' tv with
    | true=>some ob
    | false=>none
   | false=>some ((tv'=tv) ::ob)
theorem b1b {X:Cx} {os:List Oper} {o:Oper} {tm:List TV} {ds:List Bool} {kv:KV} {tv:TV} {s:St} {ob:List Prop} (h:l2n X os o tm ds kv tv s=some ob) (hl:d9 ob):∃ t k r,M9 X true os o tm s.heap s.nid ds kv=some (t,k,tv,r)∧d9 r.obs:=by
 unfold l2n at h
 dsimp only at h
 split at h
 ·cases h
 ·rename_i he
  split at h
  ·split at h
   ·rename_i hq
    cases h
    rw [o1x hq] at he
    exact⟨_,_,_,he,hl⟩
   ·cases h
  ·cases h
   rw [hl.1] at he
   exact⟨_,_,_,he,hl.2⟩
def u0r (X:Cx) (os:List Oper) (o:Oper) (tm:List TV) (ds:List Bool) (kv:KV) (tv:TV):List (Nat×St)->Option (List Prop)
 | [] =>some []
 | (_,s) ::r=>match l2n X os o tm ds kv tv s with
  | none=>none
  | some ob=>match u0r X os o tm ds kv tv r with
   | none=>none
   | some ob'=>some (ob++ob')
theorem sK {X:Cx} {os:List Oper} {o:Oper} {tm:List TV} {ds:List Bool} {kv:KV} {tv:TV} :∀ {l:List (Nat×St)} {ob:List Prop},u0r X os o tm ds kv tv l=some ob->d9 ob->∀ p∈l,∃ t k r,M9 X true os o tm p.2.heap p.2.nid ds kv=some (t,k,tv,r)∧d9 r.obs
 | [],_,_,_,p,hp=>by cases hp
 | (i,s) ::r,ob,h,hl,p,hp=>by
  simp only [u0r] at h
  split at h
  ·cases h
  ·rename_i ob1 h1
   split at h
   ·cases h
   ·rename_i ob2 h2
    cases h
    rw [m3] at hl
    rcases zzA83.1 hp with rfl | hp
    ·exact b1b h1 hl.1
    ·exact sK h2 hl.2 p hp
def a2k (X:Cx) (os:List Oper) (cuts:List (Nat×St)) (sp:List (Nat×List Nat)) (k:Nat) (o:Oper) (kv:KV):St->Option (List Prop)
 | ⟨tm,hp,nid,ds,_,_,_,_,_⟩=>match n0k (G4 os o) k sp cuts with
  | [] =>some []
  | c ::cs=>match M9 X true os o tm hp nid ds kv with
   | none=>none
   | some (_,_,tv,_)=>u0r X os o tm ds kv tv (c ::cs)
def i1k (X:Cx) (os:List Oper) (cuts:List (Nat×St)) (sp:List (Nat×List Nat)):Nat->List Oper->List (St×KV)->Option (List Prop)
 | _,[],_=>some []
 | _,_ ::_,[] =>some []
 | k,o ::r,(s,kv) ::l=>match flO o && !aC o.op with
  | false=>i1k X os cuts sp (k+1) r l
  | true=>match a2k X os cuts sp k o kv s with
   | none=>none
   | some ob=>match i1k X os cuts sp (k+1) r l with
    | none=>none
    | some ob'=>some (ob++ob')
theorem mQ {X:Cx} {os:List Oper} {cuts:List (Nat×St)} {sp:List (Nat×List Nat)} :∀ {r:List Oper} {k0:Nat} {l:List (St×KV)} {ob:List Prop},i1k X os cuts sp k0 r l=some ob->d9 ob->l.length=r.length+1->
  ∀ k o p,r[k]? =some o->l[k]? =some p->flO o=true->aC o.op=false->∃ ob',a2k X os cuts sp (k0+k) o p.2 p.1=some ob'∧d9 ob'
 | [],_,_,_,_,_,_,k,o,p,ho,_,_,_=>by simp at ho
 | _ ::_,_,[],_,_,_,hl,k,o,p,ho,hp,_,_=>by simp at hl
 | x ::r,k0,(s,kv) ::l,ob,h,ha,hl,k,o,p,ho,hp,hf,hb=>by
  have hl':l.length=r.length+1:=by simpa using hl
  simp only [i1k] at h
  split at h
  ·rename_i hc
   cases k with
   | zero=>
    simp only [I4,G3] at ho
    subst ho
    rw [hf,hb] at hc
    cases hc
   | succ k=>
    simp only [M8] at ho hp
    rw [show k0+(k+1)=k0+1+k by omega]
    exact mQ h ha hl' k o p ho hp hf hb
  ·split at h
   ·cases h
   ·rename_i ob1 h1
    split at h
    ·cases h
    ·rename_i ob2 h2
     cases h
     rw [m3] at ha
     cases k with
     | zero=>
      simp only [I4,G3] at ho hp
      subst ho hp
      exact⟨ob1,h1,ha.1⟩
     | succ k=>
      simp only [M8] at ho hp
      rw [show k0+(k+1)=k0+1+k by omega]
      exact mQ h2 ha.2 hl' k o p ho hp hf hb
def a2b:List (St×KV)->Option St
 | [] =>none
 | [(s,_)] =>some s
 | _ ::x ::r=>a2b (x ::r)
theorem a0a:∀ {l:List (St×KV)} {s:St},a2b l=some s->∃ kv,l[l.length-1]? =some (s,kv)
 | [],s,h=>by cases h
 | [(s',kv)],s,h=>by cases h; exact⟨kv,rfl⟩
 | x ::y ::r,s,h=>by
  obtain⟨kv,e⟩:=a0a (l:=y ::r) h
  exact⟨kv,by simpa using e⟩
def St.more:St->List Prop->St
 | ⟨tm,hp,nid,ds,obs,lp,rd,mq,bs⟩,ob=>⟨tm,hp,nid,ds,ob++obs,lp,rd,mq,bs⟩
def tK (os:List Oper):Option (List (Nat×List Nat)):=match u0f os os.length with
 | false=>none
 | true=>spF os 0 os []
def n0c (X:Cx) (os:List Oper) (sp:List (Nat×List Nat)) (s:St):Option St:=
 match trF X os os s [] with
 | none=>none
 | some l=>match i1k X os ((0,s) ::v0m 0 os l) sp 0 os l with
  | none=>none
  | some ob=>match a2b l with
   | none=>none
   | some sn=>some (sn.more ob)
structure Spine (X:Cx) (os:List Oper) (s0 sn:St) (kn:KV):Prop where
 draws:Draws os os.length
 last:evF X os s0 os.length=some (sn,kn)
 obs:d9 sn.obs
 chain:∀ j k oj ok,j < k->os[j]? =some oj->os[k]? =some ok->flO oj=false->flO ok=false->j∈G4 os ok
 float:∀ k o s kv t1 k1 tv r p sp kp,os[k]? =some o->flO o=true->evF X os s0 k=some (s,kv)->M9 X true os o s.tmps s.heap s.nid s.ds kv=some (t1,k1,tv,r)->d9 r.obs->
  evF X os s0 p=some (sp,kp)->p<=os.length->(p=0∨∃ q op,p=q+1∧os[q]? =some op∧flO op=false)->
  (∀ d od,os[d]? =some od->flO od=false->d < p->k ∉ G4 os od)->(∀ d od,os[d]? =some od->flO od=false->p<=d->d ∉ G4 os o)->
  ∃ t2 k2 r2,M9 X true os o s.tmps sp.heap sp.nid s.ds kv=some (t2,k2,tv,r2)∧d9 r2.obs
theorem mZ {X:Cx} {os:List Oper} {sp:List (Nat×List Nat)} {s s':St} (hsp:tK os=some sp) (h:n0c X os sp s=some s') (hl:d9 s'.obs):∃ sn kn ob,s'=sn.more ob∧Spine X os s sn kn:=by
 unfold tK at hsp
 split at hsp
 ·cases hsp
 rename_i hd
 obtain⟨z1,z2,z3⟩:=d0t hsp rfl (fun p hp=>by cases hp) (fun j o hj=>by omega) (fun j k oj ok hjk hk=>by omega)
 unfold n0c at h
 split at h
 ·cases h
 rename_i l htr
 split at h
 ·cases h
 rename_i ob hck
 split at h
 ·cases h
 rename_i sn hlast
 cases h
 obtain⟨kn,hln⟩:=a0a hlast
 obtain⟨e1,e2⟩:=s0z (s0:=s) (i:=0) htr rfl rfl
 have hob:d9 ob∧d9 sn.obs:=by
  have:(sn.more ob).obs=ob++sn.obs:=by cases sn; rfl
  rw [this,m3] at hl
  exact hl
 have hlast':evF X os s os.length=some (sn,kn):=by
  have:=e2 _ _ hln
  rw [show 0+(l.length-1)=os.length by omega] at this
  exact this
 refine⟨sn,kn,ob,rfl,vD hd,hlast',hob.2,z3,fun k o sk kv t1 k1 tv r p sq kp ho hf hs he hr hp hpn hcut hlate hearly=> ?_⟩
 have hkn:k < os.length:=(zzA1.1 ho).1
 cases hb:aC o.op with
 | true=>exact⟨_,_,_,o0f hb he _ _,hr⟩
 | false=>
  have atl:∀ i q,evF X os s i=some q->i<=os.length->l[i]? =some q:=fun i q hq hi=>by
   have hil:i < l.length:=by omega
   have:l[i]? =some l[i] :=by simp [hil]
   have h2:=e2 i _ this
   rw [aW,hq] at h2
   rw [this,h2]
  obtain⟨ob',hone,hob'⟩:=mQ hck hob.1 e1 k o _ ho (atl k _ hs (by omega)) hf hb
  have hin:(p,sq)∈(0,s) ::v0m 0 os l:=by
   rcases hcut with rfl | ⟨q,oq,rfl,hoq,hfq⟩
   ·have:evF X os s 0=some (s,[]):=rfl
    rw [this] at hp
    cases hp
    exact kG
   ·refine W2 _ ?_
    have:=b0f (i:=0) e1 q oq _ hoq hfq (atl (q+1) _ hp hpn)
    simpa using this
  rcases yC (re:=G4 os o) (k:=k) (sp:=sp) hin with hc | hc | hc | hc
  ·
   obtain⟨hpk,hno⟩:=hc
   have hq:=iQ hpk hp hs (fun j oj hj1 hj2 hoj=>by
    cases hfj:flO oj with
    | true=>rfl
    | false=>
     have:=rR hno _ (z2 j oj hoj hfj)
     simp only at this
     omega)
   rw [<- hq.1,<- hq.2]
   exact⟨_,_,_,he,hr⟩
  ·obtain⟨q,hq,h1,h2⟩:=b0g hc
   obtain⟨oq,hoq,hfq,e⟩:=z1 q hq
   rw [e] at h2
   exact absurd h2 (hlate q.1 oq hoq hfq h1)
  ·obtain⟨q,hq,h1,h2⟩:=sP hc
   obtain⟨oq,hoq,hfq,e⟩:=z1 q hq
   exact absurd h2 (hearly q.1 oq hoq hfq h1)
  ·simp only [aW] at hone
   unfold a2k at hone
   dsimp only at hone
   split at hone
   ·rename_i hn
    rw [hn] at hc
    cases hc
   ·rename_i hn
    rw [hn] at hc
    rw [he] at hone
    dsimp only at hone
    obtain⟨t2,k2,r2,g1,g2⟩:=sK hone hob' _ hc
    exact⟨t2,k2,r2,g1,g2⟩
structure HalfS (X:Cx) (J:Inv X.P) (B:Nat) (M:Nat->Prop) (w0:Bas) (os:List Oper) (s0:St) (a0:Act) (ρ0:Num) (sn:St) (kn:KV) (listed:Array Bool) (a:Act) (w:World):Prop where
 size:listed.size=os.length
 closed:∀ j o,os[j]? =some o->Lst listed j->∀ e∈m6 o,Lst listed e
 asize:a.tmps.size=s0.tmps.length
 defers:a.defers=w0.dfs
 base:B<=w.heap.size
 inv:J.I w
 keeps:Keeps B M w0.w w
 old:∀ t,(∀ k o,Lst listed k->os[k]? =some o->o.dst≠some t)->a.tmps.getD t undef=a0.tmps.getD t undef
 cut:∃ p sp kp ρ,evF X os s0 p=some (sp,kp)∧p<=os.length∧(p=0∨∃ q op,p=q+1∧os[q]? =some op∧flO op=false)∧(∀ j o,os[j]? =some o->flO o=false->(Lst listed j↔j < p))∧Agree s0.nid ρ0 ρ∧s0.nid<=sp.nid∧
  ∀ ρ',Agree sp.nid ρ ρ'->Sim X.P B M ρ' sp.heap w∧∀ k o d,Lst listed k->os[k]? =some o->o.dst=some d->∀ β,KVok kn β->D7 ρ' β (x4 sn.tmps d) (a.tmps.getD d undef)
theorem pE {os:List Oper} {listed:Array Bool} (hcl:∀ j o,os[j]? =some o->Lst listed j->∀ e∈m6 o,Lst listed e) {o:Oper} (hpre:∀ e∈m6 o,Lst listed e):∀ e∈G4 os o,Lst listed e:=by
 refine aX (L:=fun j=>Lst listed j) (fun p hp e he=> ?_) 400 (m6 o) [] hpre (fun p hp=>by cases hp)
 unfold uH at he
 split at he
 ·rename_i op hop; exact hcl p op hop hp e he
 ·cases he
theorem v0n {X:Cx} {J:Inv X.P} (hX:CxOk X J) {B:Nat} {M:Nat->Prop} (hp:Par X.P B M) {w0:Bas} {os:List Oper} {s0 sn:St} {kn:KV} (hd:Spine X os s0 sn kn) {a0:Act} {ρ0:Num}
  (h0:∀ ρ',Agree s0.nid ρ0 ρ'->∀ β t,D7 ρ' β (x4 s0.tmps t) (a0.tmps.getD t undef)) {listed:Array Bool} {a:Act} {w:World}
  (h:HalfS X J B M w0 os s0 a0 ρ0 sn kn listed a w) {i:Nat} (hr:i∈zO7 .any ⟨os⟩ listed) {rb:Option Nat} {K:Act->World->Prop} {Q:Exit->Act->World->Prop}
  (hK:∀ a' w',HalfS X J B M w0 os s0 a0 ρ0 sn kn (listed.setIfInBounds i true) a' w'->K a' w'):wpOpIn (Fl rb) 0 X.P ⟨os⟩ Q i K a w:=by
 obtain⟨⟨hi,hnl⟩,o,ho,hpre⟩:=ready_iff.1 hr
 have hin:i < os.length:=(zzA1.1 ho).1
 have hisz:i < listed.size:=hi
 obtain⟨p,sp,kp,ρ,hsp,hpn,hcut,hL,hag,hnid,hρ⟩:=h.cut
 obtain⟨⟨s1,k1⟩,hq1⟩:=v0e (i:=i+1) (by omega) hd.last
 obtain⟨si,ki,o',hsi,ho',hop⟩:=T3 hq1
 rw [ho] at ho'
 cases ho'
 have hobs:=m0l (by omega) hq1 hd.last hd.obs
 obtain⟨_,elen⟩:=T2 hsi
 rw [y6] at hop
 split at hop
 ·cases hop
 rename_i tmps' kv1 tv r he
 cases hop
 simp only [m3] at hobs
 have hsub:∀ β,KVok kn β->KVok k1 β:=fun β hβ=>f0f (by omega) hq1 hd.last hβ
 have hsubi:∀ β,KVok kn β->KVok ki β:=fun β hβ=>f0f (by omega) hsi hd.last hβ
 have hre:=pE h.closed hpre
 have wr:∀ k ok t,t∈looks os o->os[k]? =some ok->ok.dst=some t->k=i∨k∈m6 o∨i∈m6 ok:=fun k ok t ht hok hdk=>
  hd.draws.slot i o hin ho t ht k ok (zzA1.1 hok).1 hok hdk
 have hT:∀ ρ',Agree sp.nid ρ ρ'->∀ β,KVok kn β->∀ t∈looks os o,D7 ρ' β (x4 si.tmps t) (a.tmps.getD t undef):=by
  intro ρ' ha β hβ t ht
  by_cases hw:∃ k ok,Lst listed k∧os[k]? =some ok∧ok.dst=some t
  ·obtain⟨k,ok,hlk,hok,hdk⟩:=hw
   have hk:k < os.length:=(zzA1.1 hok).1
   have hki:k < i:=by
    rcases wr k ok t ht hok hdk with e | e | e
    ·subst e; exact absurd hlk hnl
    ·exact hd.draws.fwd i o ho k e
    ·exact absurd (h.closed k ok hok hlk i e) hnl
   have:=(hρ ρ' ha).2 k ok t hlk hok hdk β hβ
   refine (jB (by omega:i<=os.length) hsi hd.last hβ (fun k2 o2 hk1 hk2 ho2 hd2=> ?_)).2 this
   have:=hd.draws.dup k k2 ok o2 t hk hk2 hok ho2 hdk hd2
   omega
  ·have hno:∀ k ok,Lst listed k->os[k]? =some ok->ok.dst≠some t:=fun k ok hlk hok e=>hw ⟨k,ok,hlk,hok,e⟩
   rw [h.old t hno]
   refine (jB (o8 i) rfl hsi (hsubi β hβ) (fun k ok _ hk hok hdk=> ?_)).1 (h0 ρ' (fun j hj=>(ha j (by omega)).trans (hag j hj)) β t)
   rcases wr k ok t ht hok hdk with e | e | e
   ·omega
   ·exact hno k ok (hpre k e) hok hdk
   ·have:=hd.draws.fwd k ok hok i e
    omega
 have mkOld:∀ v:Value,∀ t,(∀ k ok,Lst (listed.setIfInBounds i true) k->os[k]? =some ok->ok.dst≠some t)->(a.put o.dst v).tmps.getD t undef=a0.tmps.getD t undef:=fun v t hno=>by
  rw [H9,a8 (fun hh=>hno i o ((p5 hisz).2 (.inl rfl)) ho hh.1)]
  exact h.old t (fun k ok hlk hok=>hno k ok ((p5 hisz).2 (.inr hlk)) hok)
 have mkClosed:∀ j oj,os[j]? =some oj->Lst (listed.setIfInBounds i true) j->∀ e∈m6 oj,Lst (listed.setIfInBounds i true) e:=fun j oj hoj hlj e he'=>by
  rw [p5 hisz] at hlj ⊢
  rcases hlj with rfl | hlj
  ·rw [ho] at hoj; cases hoj
   exact .inr (hpre e he')
  ·exact .inr (h.closed j oj hoj hlj e he')
 have mkNew:∀ (v:Value) (ρ':Num),(∀ β,KVok kn β->D7 ρ' β tv v)->(∀ k ok d,Lst listed k->os[k]? =some ok->ok.dst=some d->∀ β,KVok kn β->D7 ρ' β (x4 sn.tmps d) (a.tmps.getD d undef))->
   ∀ k ok d,Lst (listed.setIfInBounds i true) k->os[k]? =some ok->ok.dst=some d->∀ β,KVok kn β->D7 ρ' β (x4 sn.tmps d) ((a.put o.dst v).tmps.getD d undef):=fun v ρ' hv hbefore k ok d hlk hok hdk β hβ=>by
  have hkm:k < os.length:=(zzA1.1 hok).1
  rw [H9]
  by_cases hki:k=i
  ·subst hki
   rw [ho] at hok
   cases hok
   by_cases hds:d < a.tmps.size
   ·rw [i6 ⟨hdk,hds⟩]
    have hslot:=jB (X:=X) (os:=os) (s0:=s0) (ρ:=ρ') (β:=β) (t:=d) (r:=v) (by omega:k+1<=os.length) hq1 hd.last hβ (fun k2 o2 hk1 hk2 ho2 hd2=>by
     have:=hd.draws.dup k k2 o o2 d hkm hk2 ho ho2 hdk hd2
     omega)
    rw [<- hslot]
    show D7 ρ' β (x4 (g0c tmps' o.dst tv) d) v
    obtain⟨_,_,hl'⟩:=L6 he (T2 hsi).1
    rw [N1,i6 ⟨hdk,by rw [hl',elen,<- h.asize]; exact hds⟩]
    exact hv β hβ
   ·have hnone:x4 sn.tmps d= .unk:=by
     simp only [E1]
     have e7:sn.tmps.length=s0.tmps.length:=(T2 hd.last).2
     have e8:a.tmps.size=s0.tmps.length:=h.asize
     have e9:a.tmps.size<=d:=mW hds
     rw [j0a (by omega)]
    rw [hnone]
    trivial
  ·have hlk':Lst listed k:=by
    rcases (p5 hisz).1 hlk with e | e
    ·exact absurd e hki
    ·exact e
   have hne:o.dst≠some d:=fun e=>hki (hd.draws.dup k i ok o d hkm hin hok ho hdk e)
   rw [a8 (fun hh=>hne hh.1)]
   exact hbefore k ok d hlk' hok hdk β hβ
 cases hf:flO o with
 | true=>
  rw [hf] at he
  obtain⟨t2,k2,r2,he2,hob2⟩:=hd.float i o si ki tmps' k1 tv r p sp kp ho hf hsi he hobs.1 hsp hpn hcut (fun d od hod hfd hdp hmem=>by
   have hld:=(hL d od hod hfd).2 hdp
   exact hnl (pE h.closed (h.closed d od hod hld) i hmem)) (fun d od hod hfd hpd hmem=>by
   have:=(hL d od hod hfd).1 (hre d hmem)
   omega)
  obtain⟨rfl,rfl⟩:=n0s he he2
  refine P9 hX ho he2 hob2 hp (ρ:=ρ) (Cβ:=KVok kn) (T2 hd.last).1 hsub h.base h.inv (fun ρ' ha=>(hρ ρ' ha).1) hT (fun v w' ρ1 ha hn hfin hk hq=>hK _ _ ?_)
  obtain⟨g1,g2,g3,g4,g5⟩:=hq rfl
  subst g5
  rw [g1,g3] at hfin
  refine⟨by simpa using h.size,mkClosed,by rw [S7]; exact h.asize,by rw [H3]; exact h.defers,u7 h.base hk.size,J.keeps hp hk h.inv,h.keeps.trans hk,mkOld v,p,sp,kp,ρ1,hsp,hpn,hcut,fun j oj hoj hfj=> ?_,hag,hnid,fun ρ' ha'=>⟨(hfin ρ' ha').1,mkNew v ρ' (hfin ρ' ha').2 (hρ ρ' ha').2⟩⟩
  rw [p5 hisz]
  constructor
  ·rintro (rfl | e)
   ·rw [ho] at hoj; cases hoj; rw [hf] at hfj; cases hfj
   ·exact (hL j oj hoj hfj).1 e
  ·intro e; exact .inr ((hL j oj hoj hfj).2 e)
 | false=>
  rw [hf] at he
  have hpi:p<=i:=by
   rcases E0 i p with c | c
   ·exact absurd ((hL i o ho hf).2 c) hnl
   ·exact c
  have hq:=iQ hpi hsp hsi (fun j oj hj1 hj2 hoj=>by
   cases hfj:flO oj with
   | true=>rfl
   | false=>
    have:=(hL j oj hoj hfj).1 (hre j (hd.chain j i oj o hj2 hoj ho hfj hf))
    omega)
  refine P9 hX ho he hobs.1 hp (ρ:=ρ) (Cβ:=KVok kn) (T2 hd.last).1 hsub h.base h.inv (fun ρ' ha=>by rw [hq.1]; rw [hq.2] at ha; exact (hρ ρ' ha).1) (fun ρ' ha β hβ t ht=>hT ρ' (by rw [hq.2] at ha; exact ha) β hβ t ht) (fun v w' ρ1 ha hn hfin hk _=>hK _ _ ?_)
  rw [hq.2] at ha hn
  refine⟨by simpa using h.size,mkClosed,by rw [S7]; exact h.asize,by rw [H3]; exact h.defers,u7 h.base hk.size,J.keeps hp hk h.inv,h.keeps.trans hk,mkOld v,i+1,_,_,ρ1,hq1,by omega, .inr ⟨i,o,rfl,ho,hf⟩,fun j oj hoj hfj=> ?_,
   fun j hj=>(ha j (by omega)).trans (hag j hj),by show s0.nid<=r.n; omega,fun ρ' ha'=>⟨(hfin ρ' ha').1,mkNew v ρ' (hfin ρ' ha').2 (hρ ρ' (fun j hj=>(ha' j (B9 hj hn)).trans (ha j hj))).2⟩⟩
  rw [p5 hisz]
  constructor
  ·rintro (rfl | e)
   ·omega
   ·have:=(hL j oj hoj hfj).1 e; omega
  ·intro e
   by_cases e2:j=i
   ·exact .inl e2
   ·exact .inr (hre j (hd.chain j i oj o (by omega) hoj ho hfj hf))
theorem k0b {X:Cx} {J:Inv X.P} {B:Nat} {M:Nat->Prop} {w0:Bas} {os:List Oper} {s0 sn:St} {kn:KV} (hd:Spine X os s0 sn kn) {a0:Act} {ρ0:Num} (h0:∀ ρ',Agree s0.nid ρ0 ρ'->∀ β t,D7 ρ' β (x4 s0.tmps t) (a0.tmps.getD t undef)) {listed:Array Bool} {a:Act} {w:World}
  (h:HalfS X J B M w0 os s0 a0 ρ0 sn kn listed a w) (hρ0:w0.n<=s0.nid∧Agree w0.n w0.ρ ρ0) (hall:∀ k,k < os.length->Lst listed k):RepR X.P J B M w0 kn sn a w:=by
 obtain⟨p,sp,kp,ρ,hsp,hpn,hcut,hL,hag,hnid,hρ⟩:=h.cut
 obtain⟨e4,e5⟩:=T2 hd.last
 have hq:=iQ hpn hsp hd.last (fun j oj hj1 hj2 hoj=>by
  cases hfj:flO oj with
  | true=>rfl
  | false=>
   have:=(hL j oj hoj hfj).1 (hall j hj2)
   omega)
 refine⟨by rw [e5]; exact h.asize,h.defers,h.base,h.inv,h.keeps,e4,ρ,⟨by rw [hq.2]; omega,fun j hj=>(hag j (by omega)).trans (hρ0.2 j hj)⟩,fun ρ' ha=> ?_⟩
 rw [hq.2] at ha
 rw [hq.1]
 refine⟨(hρ ρ' ha).1,fun β hβ t=> ?_⟩
 by_cases hw:∃ (k:Nat) (o:Oper),os[k]? =some o∧o.dst=some t
 ·obtain⟨k,o,ho,hdst⟩:=hw
  exact (hρ ρ' ha).2 k o t (hall k (zzA1.1 ho).1) ho hdst β hβ
 ·have hno:∀ (k:Nat) (o:Oper),os[k]? =some o->o.dst≠some t:=fun k o ho e=>hw ⟨k,o,ho,e⟩
  rw [h.old t (fun k o _ ho=>hno k o ho)]
  exact (jB (o8 os.length) rfl hd.last hβ (fun k o _ _ ho=>hno k o ho)).1 (h0 ρ' (fun j hj=>(ha j (by omega)).trans (hag j hj)) β t)
theorem m0i {X:Cx} {J:Inv X.P} (hX:CxOk X J) {B:Nat} {M:Nat->Prop} (hp:Par X.P B M) {w0:Bas} {os:List Oper} {s0 sn:St} {kn:KV} (hd:Spine X os s0 sn kn) {a0:Act} {ρ0:Num}
  (h0:∀ ρ',Agree s0.nid ρ0 ρ'->∀ β t,D7 ρ' β (x4 s0.tmps t) (a0.tmps.getD t undef)) (hρ0:w0.n<=s0.nid∧Agree w0.n w0.ρ ρ0)
  {rb:Option Nat} {Q:Exit->Act->World->Prop} (hQ:∀ a w,RepR X.P J B M w0 kn sn a w->Q .normal a w):
  ∀ (fuel:Nat) (listed:Array Bool) (a:Act) (w:World),unl listed os.length<=fuel->HalfS X J B M w0 os s0 a0 ρ0 sn kn listed a w->wpAnyIn (Fl rb) 0 X.P .any ⟨os⟩ Q fuel listed a w:=by
 intro fuel
 induction fuel with
 | zero=>
  intro listed a w hf h
  have hall:∀ k,k < os.length->Lst listed k:=fun k hk=>qB (by omega) hk
  refine⟨?_,hQ a w (k0b hd h0 h hρ0 hall)⟩
  cases hr:zO7 .any ⟨os⟩ listed with
  | nil=>rfl
  | cons x xs=>
   have:x∈zO7 .any ⟨os⟩ listed:=by rw [hr]; simp
   obtain⟨⟨h1,h2⟩,_⟩:=ready_iff.1 this
   exact absurd (hall x (by rw [<- h.size]; exact h1)) h2
 | succ fuel ih=>
  intro listed a w hf h
  refine⟨fun hr0=> ?_,fun i hi=> ?_⟩
  ·have hall:∀ k,k < os.length->Lst listed k:=by
    haveI:DecidablePred fun k=>¬ Lst listed k:=fun k=>Classical.propDecidable _
    intro k hk
    refine bP fun hn=> ?_
    obtain⟨k,hk,hnl,hmin⟩:=q0k (p:=fun k=>¬ Lst listed k) os.length ⟨k,hk,hn⟩
    obtain⟨o,ho⟩:∃ o,os[k]? =some o:=⟨os[k],by simp [hk]⟩
    have:k∈zO7 .any ⟨os⟩ listed:=ready_iff.2 ⟨⟨by rw [h.size]; exact hk,hnl⟩,o,ho,fun e he=>bP fun hn=>hmin e (hd.draws.fwd k o ho e he) hn⟩
    rw [hr0] at this
    cases this
   exact hQ a w (k0b hd h0 h hρ0 hall)
  ·obtain⟨⟨h1,h2⟩,o,ho,hpre⟩:=ready_iff.1 hi
   have hin:i < os.length:=by rw [<- h.size]; exact h1
   refine v0n hX hp hd h0 h hi (fun a' w' h'=>ih _ a' w' ?_ h')
   have:=c0s hin h.size h2
   omega
end
noncomputable section
def u0c:List (List Nat)->Nat->Nat
 | [],_=>0
 | p ::r,t=>match E9 (t-1) p with
  | true=>u0c r (t-1)+1
  | false=>0
def p2z (os:List Oper) (m:Nat):Bool:=iV (os.take (m+1)) m
def sC (os:List Oper):Nat->Nat->Nat
 | m,0=>m
 | m,k+1=>match p2z os m with
  | true=>m
  | false=>sC os (m+1) k
def o2s (os:List Oper):Nat:=
 match os.length with
 | 0=>0
 | n+1=>
  match u0c ((os.map m6).reverse) n with
  | 0=>sC os n 1
  | c+1=>sC os (n- (c+1)) (c+2)
def St.clean:St->St
 | ⟨tm,hp,nid,ds,obs,lp,rd,mq,bs⟩=>⟨tm.map uS,hp,nid,ds,obs,lp,rd,mq,bs⟩
def St.bit:St->List Bool->Prop->St
 | ⟨tm,hp,nid,_,obs,lp,rd,mq,bs⟩,ds,p=>⟨tm,hp,nid,ds,p ::obs,lp,rd,mq,bs⟩
def St.looped:St->Nat->List Prop->St
 | ⟨tm,hp,nid,ds,_,_,rd,mq,bs⟩,k,o=>⟨tm,hp,nid,ds,o,k,rd,mq,bs⟩
def lQ (X:Cx) (os:List Oper) (m:Nat) (s:St):Option St:=
 match u0f os m with
 | false=>none
 | true=>match g0i m os with
  | true=>a0h X os m s
  | false=>match evN X m os s os.length with
   | some (s',_)=>some s'
   | none=>a0h X os m s
def i2y (X:Cx) (os:List Oper) (s:St):Option St:=lQ X os (o2s os) s
def o2i (P:Program) (t:TypeId):Bool:=match R7 P t with
 | some (.func _ _ _)=>true
 | _=>false
def u1f (d:Nat):List Oper->Bool
 | [] =>false
 | o ::r=>(match o.op with
  | .store _ _ (.tmp k)=>zO0 k d
  | _=>false) || u1f d r
def s0s (P:Program) (os:List Oper):List Oper->Bool
 | [] =>false
 | o ::r=>(match o.op,o.dst with
  | .call c,some d=>c.argTypes.toList.any (o2i P) && u1f d os
  | _,_=>false) || s0s P os r
def o0c (X:Cx) (os:List Oper):Option (List (Nat×List Nat)):=match X.auto with
 | true=>tK os
 | false=>match s0s X.P os os with
  | true=>tK os
  | false=>none
theorem oF {X:Cx} {os:List Oper} {sp:List (Nat×List Nat)} (h:o0c X os=some sp):tK os=some sp:=by
 unfold o0c at h
 split at h
 ·exact h
 ·split at h
  ·exact h
  ·cases h
def rU (o:Oper):Bool:=match o.guard with
 | none=>true
 | some _=>false
def b0z (l:List Nat):Nat->Bool
 | 0=>true
 | n+1=>E9 n l && b0z l n
theorem oX {l:List Nat} :∀ {n:Nat},b0z l n=true->∀ i,i < n->i∈l
 | n+1,h,i,hi=>by
  simp only [b0z,u6] at h
  by_cases e:i=n
  ·rw [e]; exact memN_iff.1 h.1
  ·exact oX h.2 i (by omega)
theorem cB {o:Oper} (h:rU o=true):o.guard=none:=by
 unfold rU at h
 split at h
 ·assumption
 ·cases h
theorem eB {F:Fence} {n:Nat} {P:Program} {o:Oper} {a:Act} {w:World} {K K':Act->World->Prop} {Q1 Q:Exit->Act->World->Prop} (hQ:∀ e a w,Q1 e a w->e= .normal) (h:∀ a w,K a w->K' a w)
  (hh:o.wpIn F n P a w K Q1):o.wpIn F n P a w K' Q:=by
 unfold Oper.wpIn at*
 refine⟨hh.1,?_⟩
 have hh:=hh.2
 have hout:¬LetsOut Q1:=fun ⟨a,w,hq⟩=>by have:=hQ _ _ _ hq; cases this
 generalize (o.semAt F.round a.eval).run P w=r at*
 cases r with
 | ok x w'=>
  cases x <;> simp only [Oper.uponIn] at hh ⊢ <;>
   first
    | exact h _ _ hh
    | exact⟨hh.1,CallsIn.mono hh.2 (fun e w'' he=>by cases e <;> first | exact h _ _ he | exact absurd he hout | (have:=hQ _ _ _ he; cases this))⟩
    | exact⟨hh.1,RowsIn.mono hh.2 (fun _ _ he=>h _ _ he)⟩
    | exact⟨hh.1,RoundIn.mono hh.2 (fun e w'' he=>by cases e <;> first | exact h _ _ he | exact absurd he hout | (have:=hQ _ _ _ he; cases this))⟩
 | halt x w'=>cases x <;> simp only [Oper.uponIn] at hh ⊢ <;> first | exact hh | (have:=hQ _ _ _ hh; cases this)
theorem o1o {F:Fence} {n:Nat} {P:Program} {os:List Oper} {z:Oper} {Q:Exit->Act->World->Prop} {R:Act->World->Prop} (hg:∀ o∈os,o.guard=none) (hz:∀ i,i < os.length->i∈m6 z)
  (hf:∀ i o,(os++[z])[i]? =some o->∀ e∈m6 o,e < i) (hR:∀ a w,R a w->wpOpIn F n P ⟨os++[z]⟩ Q os.length (fun a w=>Q .normal a w) a w):
  ∀ (fuel:Nat) (listed l2:Array Bool) (a:Act) (w:World),listed.size=os.length->l2.size=os.length+1->(∀ i,i < os.length->(Lst l2 i↔Lst listed i))->¬Lst l2 os.length->
   wpAnyIn F n P .any ⟨os⟩ (fun e a w=>e= .normal∧R a w) fuel listed a w->wpAnyIn F n P .any ⟨os++[z]⟩ Q (fuel+1) l2 a w:=by
 have hzl:(os++[z])[os.length]? =some z:=by simp
 have hol:∀ i,i < os.length->(os++[z])[i]? =os[i]? :=fun i hi=>y0i hi
 have some_ready:∀ (l2:Array Bool),l2.size=os.length+1->¬Lst l2 os.length->zO7 .any ⟨os++[z]⟩ l2≠[] :=by
  intro l2 h2 hn h0
  haveI:DecidablePred fun k=>¬ Lst l2 k:=fun k=>Classical.propDecidable _
  obtain⟨k,hk,hnl,hmin⟩:=q0k (p:=fun k=>¬ Lst l2 k) (os.length+1) ⟨os.length,by omega,hn⟩
  obtain⟨o,ho⟩:∃ o,(os++[z])[k]? =some o:=⟨(os++[z])[k]'(by simp; omega),by simp⟩
  have:k∈zO7 .any ⟨os++[z]⟩ l2:=ready_iff.2 ⟨⟨by rw [h2]; exact hk,hnl⟩,o,ho,fun e he=>bP fun hn'=>hmin e (hf k o ho e he) hn'⟩
  rw [h0] at this
  cases this
 have all_of:∀ (listed:Array Bool),listed.size=os.length->zO7 .any ⟨os⟩ listed=[] ->∀ i,i < os.length->Lst listed i:=by
  intro listed h1 h0 i hi
  refine bP fun hn=> ?_
  haveI:DecidablePred fun k=>¬ Lst listed k:=fun k=>Classical.propDecidable _
  obtain⟨k,hk,hnl,hmin⟩:=q0k (p:=fun k=>¬ Lst listed k) os.length ⟨i,hi,hn⟩
  obtain⟨o,ho⟩:∃ o,os[k]? =some o:=⟨os[k],by simp⟩
  have:k∈zO7 .any ⟨os⟩ listed:=ready_iff.2 ⟨⟨by rw [h1]; exact hk,hnl⟩,o,ho,fun e he=>bP fun hn'=>hmin e (hf k o ((hol k hk).trans ho) e he) hn'⟩
  rw [h0] at this
  cases this
 have done:∀ (l2:Array Bool),l2.size=os.length+1->(∀ i,i < os.length->Lst l2 i)->zO7 .any ⟨os++[z]⟩ (l2.setIfInBounds os.length true)=[] :=by
  intro l2 h2 hall
  cases hr:zO7 .any ⟨os++[z]⟩ (l2.setIfInBounds os.length true) with
  | nil=>rfl
  | cons x xs=>
   have:x∈zO7 .any ⟨os++[z]⟩ (l2.setIfInBounds os.length true):=by rw [hr]; simp
   obtain⟨⟨h3,h4⟩,_⟩:=ready_iff.1 this
   rw [p5 (by omega)] at h4
   have h3:x < os.length+1:=by simpa [h2] using h3
   exact absurd (if e:x=os.length then .inl e else .inr (hall x (by omega))) h4
 have last:∀ (fuel:Nat) (l2:Array Bool) (a:Act) (w:World),l2.size=os.length+1->(∀ i,i < os.length->Lst l2 i)->R a w->wpOpIn F n P ⟨os++[z]⟩ Q os.length (wpAnyIn F n P .any ⟨os++[z]⟩ Q fuel (l2.setIfInBounds os.length true)) a w:=by
  intro fuel l2 a w h2 hall hRa
  refine wpOpIn_mono (fun a' w' hq=> ?_) (hR a w hRa)
  have hd:=done l2 h2 hall
  cases fuel with
  | zero=>exact⟨hd,hq⟩
  | succ fuel=>exact⟨fun _=>hq,fun i hi=>by rw [hd] at hi; cases hi⟩
 intro fuel
 induction fuel with
 | zero=>
  intro listed l2 a w h1 h2 hiff hn h
  have hall:=all_of listed h1 h.1
  refine⟨fun h0=>absurd h0 (some_ready l2 h2 hn),fun i hi=> ?_⟩
  obtain⟨⟨h3,h4⟩,_⟩:=ready_iff.1 hi
  have hin:i=os.length:=by
   rcases E0 i os.length with h5 | h5
   ·exact absurd ((hiff i h5).2 (hall i h5)) h4
   ·omega
  subst hin
  exact last 0 l2 a w h2 (fun j hj=>(hiff j hj).2 (hall j hj)) h.2.2
 | succ fuel ih=>
  intro listed l2 a w h1 h2 hiff hn h
  obtain⟨q1,q2⟩:=h
  refine⟨fun h0=>absurd h0 (some_ready l2 h2 hn),fun i hi=> ?_⟩
  obtain⟨⟨h3,h4⟩,o,ho,hpre⟩:=ready_iff.1 hi
  by_cases hin:i=os.length
  ·subst hin
   rw [hzl] at ho
   cases ho
   have hall:∀ j,j < os.length->Lst l2 j:=fun j hj=>hpre j (hz j hj)
   have hr:zO7 .any ⟨os⟩ listed=[] :=by
    cases hr:zO7 .any ⟨os⟩ listed with
    | nil=>rfl
    | cons x xs=>
     have:x∈zO7 .any ⟨os⟩ listed:=by rw [hr]; simp
     obtain⟨⟨h5,h6⟩,_⟩:=ready_iff.1 this
     exact absurd ((hiff x (by omega)).1 (hall x (by omega))) h6
   exact last (fuel+1) l2 a w h2 hall (q1 hr).2
  ·have hi':i < os.length:=by omega
   rw [hol i hi'] at ho
   have hgo:o.guard=none:=hg o (a0j ho)
   have hrdy:i∈zO7 .any ⟨os⟩ listed:=ready_iff.2 ⟨⟨by omega,fun hh=>h4 ((hiff i hi').2 hh)⟩,o,ho,fun e he=>(hiff e (by have:=hf i o ((hol i hi').trans ho) e he; omega)).1 (hpre e he)⟩
   have h5:=q2 i hrdy
   have hwant:∀ (ops:Array Oper),Region.wanted o (yielded ops a.tmps)=true:=fun ops=>by unfold Region.wanted; rw [hgo]
   unfold wpOpIn at h5 ⊢
   have e1:(⟨os⟩:Array Oper)[i]? =some o:=by rw [lS]; exact ho
   have e2:(⟨os++[z]⟩:Array Oper)[i]? =some o:=by rw [lS,hol i hi']; exact ho
   rw [e1] at h5
   rw [e2]
   simp only [hwant,C6] at h5 ⊢
   refine eB (fun e a w he=>he.1) (fun a' w' hk=>ih _ _ a' w' (by simpa using h1) (by simpa using h2) (fun j hj=> ?_) ?_ hk) h5
   ·rw [p5 (by omega),p5 (by omega),hiff j hj]
   ·rw [p5 (by omega)]
    intro hh
    rcases hh with hh | hh
    ·omega
    ·exact hn hh
def v1b (os:List Oper) (z:Oper):Bool:=os.all rU && rU z && b0z (m6 z) os.length && mP 0 (os++[z]) && uJ os (O0 os)
def t0o (X:Cx) (os:List Oper) (s:St):Option St:=
 match os.reverse with
 | [] =>none
 | z ::r=>match v1b r.reverse z with
  | false=>none
  | true=>match sY X r.reverse (O0 r.reverse) s with
   | none=>none
   | some s1=>match evN X 0 [z] s1.clean 1 with
    | some (s2,_)=>some s2.clean
    | none=>none
def h1b (o:Oper):Bool:=match o.op,o.guard,m6 o with
 | .move (.tmp _),none,[] =>true
 | _,_,_=>false
def t0i (k:Nat):List Oper->Bool
 | [] =>true
 | [_] =>true
 | o ::r=> !(E9 k (m6 o)) && t0i k r
def u1v (os:List Oper):Nat->List Oper->Option Nat
 | _,[] =>none
 | i,o ::r=>match h1b o && t0i i os with
  | true=>some i
  | false=>u1v os (i+1) r
def xB (k:Nat):Nat->List Oper->List Oper
 | _,[] =>[]
 | 0,o ::r=>{ o with after:=o.after.push ⟨k, .data⟩} ::r
 | m+1,o ::r=>o ::xB k m r
def e1s (os:List Oper) (k m:Nat):Bool:=
 zO1 k os.length && zO1 k m && os.all rU && Region.noSelect ⟨os⟩ && Region.free .any ⟨os⟩ (Array.replicate os.length false) k && (match os[k]? with
  | some o=>h1b o
  | none=>false)
def h1e (X:Cx) (os:List Oper) (s:St):Option St:=
 match s.rd with
 | some _=>none
 | none=>match u1v os 0 os with
  | none=>none
  | some k=>match e1s os k (O0 os) with
   | false=>none
   | true=>match lQ X (xB k (O0 os) os) (O0 os) s with
    | some s'=>some s'.clean
    | none=>none
theorem r0q (k:Nat):∀ (m:Nat) (os:List Oper),(xB k m os).length=os.length
 | 0,[] =>rfl
 | _+1,[] =>rfl
 | 0,_ ::_=>rfl
 | m+1,o ::r=>by simp only [xB,A9,r0q k m r]
theorem kJ (k:Nat):∀ (m:Nat) (os:List Oper) (i:Nat),(xB k m os)[i]? =if i=m then (os[i]?).map (fun o=>{ o with after:=o.after.push ⟨k, .data⟩}) else os[i]?
 | _,[],i=>by simp [xB]
 | 0,o ::r,i=>by cases i <;> simp [xB]
 | m+1,o ::r,i=>by
  cases i with
  | zero=>simp [xB]
  | succ i=>simp [xB,kJ k m r i]
theorem preds_push {o:Oper} {k e:Nat} :e∈m6 { o with after:=o.after.push ⟨k, .data⟩} ↔e∈m6 o∨e=k:=by
 rw [predsOf_iff,predsOf_iff]
 constructor
 ·rintro ⟨x,hx,hb,rfl⟩
  rcases Array.mem_push.1 hx with hx | rfl
  ·exact .inl ⟨x,hx,hb,rfl⟩
  ·exact .inr rfl
 ·rintro (⟨x,hx,hb,rfl⟩ | rfl)
  ·exact⟨x,Array.mem_push.2 (.inl hx),hb,rfl⟩
  ·exact⟨⟨e, .data⟩,Array.mem_push.2 (.inr rfl),rfl,rfl⟩
theorem lR {os:List Oper} {m k:Nat} {listed:Array Bool} (hk:Lst listed k) (j:Nat):j∈zO7 .any ⟨xB k m os⟩ listed↔j∈zO7 .any ⟨os⟩ listed:=by
 rw [ready_iff,ready_iff]
 refine and_congr_right fun _=> ?_
 rw [kJ]
 by_cases hj:j=m
 ·rw [i6 hj]
  constructor
  ·rintro ⟨o,ho,h⟩
   cases hx:os[j]? with
   | none=>rw [hx] at ho; cases ho
   | some x=>
    rw [hx] at ho
    cases ho
    exact⟨x,rfl,fun e he=>h e (preds_push.2 (.inl he))⟩
  ·rintro ⟨o,ho,h⟩
   refine⟨_,by rw [ho]; rfl,fun e he=> ?_⟩
   rcases preds_push.1 he with he | rfl
   ·exact h e he
   ·exact hk
 ·rw [a8 hj]
theorem fC {os:List Oper} {m k:Nat} {listed:Array Bool} (hk:Lst listed k):zO7 .any ⟨xB k m os⟩ listed=[] ↔zO7 .any ⟨os⟩ listed=[] :=by
 constructor
 ·intro h
  cases hr:zO7 .any ⟨os⟩ listed with
  | nil=>rfl
  | cons x xs=>
   have:x∈zO7 .any ⟨xB k m os⟩ listed:=(lR hk x).2 (by rw [hr]; simp)
   rw [h] at this; cases this
 ·intro h
  cases hr:zO7 .any ⟨xB k m os⟩ listed with
  | nil=>rfl
  | cons x xs=>
   have:x∈zO7 .any ⟨os⟩ listed:=(lR hk x).1 (by rw [hr]; simp)
   rw [h] at this; cases this
theorem K7 {o:Oper} (h:o.guard=none) (f:Nat->Option Bool):Region.wanted o f=true:=by unfold Region.wanted; rw [h]
theorem s0l {F:Fence} {n:Nat} {P:Program} {os:List Oper} {m k:Nat} {Q1 Q:Exit->Act->World->Prop} (hg:∀ o∈os,o.guard=none) (hQ:∀ e a w,Q1 e a w->e= .normal) (hQQ:∀ a w,Q1 .normal a w->Q .normal a w):
  ∀ (fuel:Nat) (listed:Array Bool) (a:Act) (w:World),Lst listed k->wpAnyIn F n P .any ⟨xB k m os⟩ Q1 fuel listed a w->wpAnyIn F n P .any ⟨os⟩ Q fuel listed a w
 | 0,listed,a,w,hk,h=>⟨(fC hk).1 h.1,hQQ _ _ h.2⟩
 | fuel+1,listed,a,w,hk,h=>by
  refine⟨fun h0=>hQQ _ _ (h.1 ((fC hk).2 h0)),fun i hi=> ?_⟩
  have h5:=h.2 i ((lR hk i).2 hi)
  obtain⟨⟨h3,h4⟩,o,ho,_⟩:=ready_iff.1 hi
  have hgo:o.guard=none:=hg o (a0j ho)
  have next:∀ (a':Act) (w':World),wpAnyIn F n P .any ⟨xB k m os⟩ Q1 fuel (listed.setIfInBounds i true) a' w'->wpAnyIn F n P .any ⟨os⟩ Q fuel (listed.setIfInBounds i true) a' w':=
   fun a' w' hk'=>s0l hg hQ hQQ fuel _ a' w' ((p5 h3).2 (.inr hk)) hk'
  unfold wpOpIn at h5 ⊢
  have e2:(⟨os⟩:Array Oper)[i]? =some o:=by rw [lS]; exact ho
  rw [e2]
  simp only [K7 hgo,C6]
  by_cases hm:i=m
  ·have e1:(⟨xB k m os⟩:Array Oper)[i]? =some { o with after:=o.after.push ⟨k, .data⟩} :=by rw [lS,kJ,i6 hm,ho]; rfl
   rw [e1] at h5
   have hw':∀ f,Region.wanted { o with after:=o.after.push ⟨k, .data⟩} f=true:=fun f=>K7 (o:={ o with after:=o.after.push ⟨k, .data⟩}) hgo f
   simp only [hw',C6] at h5
   exact eB (o:=o) hQ next h5
  ·have e1:(⟨xB k m os⟩:Array Oper)[i]? =some o:=by rw [lS,kJ,a8 hm]; exact ho
   rw [e1] at h5
   simp only [K7 hgo,C6] at h5
   exact eB hQ next h5
theorem i0n {F:Fence} {n:Nat} {P:Program} {os:List Oper} {Q1 Q:Exit->Act->World->Prop} (hg:∀ o∈os,o.guard=none) (hQ:∀ e a w,Q1 e a w->e= .normal) (hQQ:∀ a w,Q1 .normal a w->Q .normal a w):
  ∀ (fuel:Nat) (listed:Array Bool) (a:Act) (w:World),wpAnyIn F n P .any ⟨os⟩ Q1 fuel listed a w->wpAnyIn F n P .any ⟨os⟩ Q fuel listed a w
 | 0,listed,a,w,h=>⟨h.1,hQQ _ _ h.2⟩
 | fuel+1,listed,a,w,h=>by
  refine⟨fun h0=>hQQ _ _ (h.1 h0),fun i hi=> ?_⟩
  have h5:=h.2 i hi
  obtain⟨_,o,ho,_⟩:=ready_iff.1 hi
  have hgo:o.guard=none:=hg o (a0j ho)
  unfold wpOpIn at h5 ⊢
  have e2:(⟨os⟩:Array Oper)[i]? =some o:=by rw [lS]; exact ho
  rw [e2] at h5 ⊢
  simp only [K7 hgo,C6] at h5 ⊢
  exact eB hQ (fun a' w' hk'=>i0n hg hQ hQQ fuel _ a' w' hk') h5
theorem m1y {P:Program} {os:List Oper} {m k:Nat} {Q1 Q:Exit->Act->World->Prop} (hok:e1s os k m=true) (hQ:∀ e a w,Q1 e a w->e= .normal) (hQQ:∀ a w,Q1 .normal a w->Q .normal a w) {a:Act} {w:World}
  (h:wpAnyIn (Fl none) 0 P .any ⟨xB k m os⟩ Q1 os.length (Array.replicate os.length false) a w):wpAnyIn (Fl none) 0 P .any ⟨os⟩ Q os.length (Array.replicate os.length false) a w:=by
 simp only [e1s,u6,C0] at hok
 obtain⟨⟨⟨⟨⟨h1,h2⟩,h3⟩,h4⟩,h5⟩,h6⟩:=hok
 have hg:∀ o∈os,o.guard=none:=fun o ho=>cB (zzA10.1 h3 o ho)
 obtain⟨f,hf⟩:∃ f,os[k]? =some f:=⟨os[k],by simp⟩
 rw [hf] at h6
 simp only [h1b] at h6
 split at h6
 case h_2=>cases h6
 rename_i t hop hgd hpr
 have hno:∀ i,¬ Lst (Array.replicate os.length false) i:=fun i hi=>by
  unfold Lst at hi
  rcases E0 i os.length with h' | h'
  ·simp [h'] at hi
  ·simp [h'] at hi
 have hr:k∈zO7 .any ⟨os⟩ (Array.replicate os.length false):=ready_iff.2 ⟨⟨by simpa using h1,hno k⟩,f,hf,fun e he=>by rw [hpr] at he; cases he⟩
 have hf':(xB k m os)[k]? =some f:=by rw [kJ,a8 (by omega)]; exact hf
 have hr':k∈zO7 .any ⟨xB k m os⟩ (Array.replicate os.length false):=ready_iff.2 ⟨⟨by simpa using h1,hno k⟩,f,hf',fun e he=>by rw [hpr] at he; cases he⟩
 have hrun:∀ (a:Act) (w:World),(execOp a.eval f).run P w= .ok (.value (a.eval (.tmp t))) w:=fun a w=>by
  unfold execOp
  rw [hop]
  rfl
 obtain⟨n,hn⟩:∃ n,os.length=n+1:=⟨os.length-1,by omega⟩
 have hy:YieldsFenced P ⟨os⟩ f (a.eval (.tmp t)) a:=⟨.inl ⟨K7 hgd _,fun w=>hrun a w⟩,fun w=>by unfold Oper.about; rw [hop]⟩
 have hks:k < (Array.replicate os.length false).size:=by simpa using h1
 generalize Array.replicate os.length false=L at*
 rw [hn] at h ⊢
 have hk:=h.2 k hr'
 unfold wpOpIn at hk
 have e1:(⟨xB k m os⟩:Array Oper)[k]? =some f:=by rw [lS]; exact hf'
 rw [e1] at hk
 simp only [K7 hgd,C6] at hk
 have hk2:=hk.2
 rw [show f.semAt (Fl none).round a.eval=execOp a.eval f from rfl,hrun,lG] at hk2
 have h7:=s0l (Q:=fun e a w=>e= .normal∧Q .normal a w) hg hQ (fun a w hq=>⟨rfl,hQQ a w hq⟩) n (L.setIfInBounds k true) _ w ((p5 hks).2 (.inl rfl)) hk2
 have h8:=wpAnyIn_take (fuel:=n) (Q:=fun e a w=>e= .normal∧Q .normal a w) rfl (by rw [lS]; exact hf) h4 h5 (by simpa using hr) (fun c a w hq=>by cases hq.1) hy h7
 exact i0n hg (fun e a w hq=>hq.1) (fun a w hq=>hq.2) _ _ _ _ h8
def jR (X:Cx) (os:List Oper) (draw:Bool) (s:St):Option St:=
 match draw with
 | false=>match evN X 0 os s os.length with
  | some (s',_)=>some s'.clean
  | none=>none
 | true=>match o0c X os with
  | some sp=>match n0c X os sp s with
   | some s'=>some s'.clean
   | none=>none
  | none=>match i2y X os s with
   | some s'=>some s'.clean
   | none=>match uJ os (O0 os) with
    | false=>none
    | true=>match sY X os (O0 os) s with
     | some s'=>some s'.clean
     | none=>match t0o X os s with
      | some s'=>some s'
      | none=>h1e X os s
theorem Rep.drew {P:Program} {J:Inv P} {B:Nat} {M:Nat->Prop} {w0:Bas} {rb:Option Nat} {s:St} {a:Act} {w:World} (h:Rep P J B M w0 rb s a w):Rep P J B M w0 rb s a { w with drawn:=w.drawn+1 } :=by
 obtain⟨ρ,hρ0,hρ⟩:=h.rep
 have hb:Below w.heap.size w { w with drawn:=w.drawn+1 } :=⟨rfl,rfl,rfl,d5 _,fun _ _=>rfl⟩
 exact⟨h.low,h.plain,h.size,h.base,J.st w _ (fun _ _=>rfl) (d5 _) h.inv,⟨h.keeps.os,h.keeps.tape,h.keeps.output,h.keeps.size,h.keeps.block⟩,ρ,hρ0,fun ρ' ha=>⟨(hρ ρ' ha).1.below hb,(hρ ρ' ha).2⟩⟩
theorem j0u {X:Cx} (hX:CxOk X X.J) {os:List Oper} {s sn:St} (hd:uJ os (O0 os)=true) (hn:sY X os (O0 os) s=some sn) (hl:d9 sn.obs) {B:Nat} {M:Nat->Prop} (hp:Par X.P B M) {w0:Bas} {rb:Option Nat} {a:Act} {w:World}
  (hR2:Rep X.P X.J B M w0 rb s a w) (h0:∀ ρ',Agree s.nid hR2.rep.choose ρ'->∀ β t,D7 ρ' β (x4 s.tmps t) (a.tmps.getD t undef)) {Q:Exit->Act->World->Prop} (hQ:∀ a' w',Rep X.P X.J B M w0 rb sn.clean a' w'->Q .normal a' w'):
  wpAnyIn (Fl rb) 0 X.P .any ⟨os⟩ Q os.length (Array.replicate os.length false) a w:=by
 obtain⟨hρ0,hρ⟩:=hR2.rep.choose_spec
 have hunl:unl (Array.replicate os.length false) os.length<=os.length:=by
  unfold unl
  have:=List.countP_le_length (p:=fun i=> !(Array.replicate os.length false).getD i false) (l:=List.range os.length)
  simpa using this
 have hno:∀ i,¬ Lst (Array.replicate os.length false) i:=fun i hi=>by
  unfold Lst at hi
  rcases E0 i os.length with h' | h'
  ·simp [h'] at hi
  ·simp [h'] at hi
 have hD:=nG hd
 obtain⟨ws,hm',kn,hhd,hws,htl⟩:=bJ hn
 obtain⟨f1,f2,f3⟩:=sQ htl
 refine n0w hX hp hD hhd (fun k o ho=>jD hws k o (by rw [Q6]; exact ho)) h0 (w0:=⟨_,s.nid,hR2.rep.choose,a.defers⟩) ⟨d5 _,Agree.refl _ _⟩ htl hl (fun a' w' hR'=>hQ a' w' (RepR.clean hR2 hR' f1 f2 f3)) _ (O0 os) _ _ _ a _ hunl (by rw [sW]; rfl) ?_
 exact⟨by simp,fun j o _ hj=>absurd hj (hno j),d5 _,hD.le,fun j hj _=>⟨fun e=>absurd e (hno j),fun e=>by omega⟩,hR2.size,rfl,hR2.base,hR2.inv,Keeps.refl _ _ _,fun t _=>rfl,hR2.rep.choose,Agree.refl _ _,fun ρ' ha=>⟨(hρ ρ' ha).1,fun k o d _ hk=>absurd hk (hno k)⟩⟩
theorem s0f {X:Cx} (hX:CxOk X X.J) {os:List Oper} {m:Nat} {s sn:St} (hdr:lQ X os m s=some sn) (hl:d9 sn.obs) {B:Nat} {M:Nat->Prop} (hp:Par X.P B M) {w0:Bas} {rb:Option Nat} {a:Act} {w:World}
  (hR2:Rep X.P X.J B M w0 rb s a w) (h0:∀ ρ',Agree s.nid hR2.rep.choose ρ'->∀ β t,D7 ρ' β (x4 s.tmps t) (a.tmps.getD t undef)) {Q:Exit->Act->World->Prop} (hQ:∀ a' w',Rep X.P X.J B M w0 rb sn.clean a' w'->Q .normal a' w'):
  wpAnyIn (Fl rb) 0 X.P .any ⟨os⟩ Q os.length (Array.replicate os.length false) a w:=by
 obtain⟨hρ0,hρ⟩:=hR2.rep.choose_spec
 have hunl:unl (Array.replicate os.length false) os.length<=os.length:=by
  unfold unl
  have:=List.countP_le_length (p:=fun i=> !(Array.replicate os.length false).getD i false) (l:=List.range os.length)
  simpa using this
 have hno:∀ i,¬ Lst (Array.replicate os.length false) i:=fun i hi=>by
  unfold Lst at hi
  rcases E0 i os.length with h' | h'
  ·simp [h'] at hi
  ·simp [h'] at hi
 unfold lQ at hdr
 split at hdr
 ·cases hdr
 rename_i hd
 have hD:=vD hd
 have laidCase:a0h X os m s=some sn->wpAnyIn (Fl rb) 0 X.P .any ⟨os⟩ Q os.length (Array.replicate os.length false) a w:=by
  intro hdr
  obtain⟨hlow,hm',kn,hhd,htl⟩:=tO hdr
  obtain⟨f1,f2,f3⟩:=sQ htl
  refine q0h hX hp hD hlow hhd htl hl (w0:=⟨_,s.nid,hR2.rep.choose,a.defers⟩) (a0:=a) (ρ:=hR2.rep.choose) h0 ⟨d5 _,Agree.refl _ _⟩ (fun a' w' hR'=>hQ a' w' (RepR.clean hR2 hR' f1 f2 f3)) _ _ a _ hunl ?_
  refine⟨by simp,fun j o _ hj=>absurd hj (hno j),fun t _=>hno t,hR2.size,rfl,hR2.base,hR2.inv,Keeps.refl _ _ _,fun t _=>rfl,hR2.rep.choose,Agree.refl _ _,fun ρ' ha=>⟨?_,fun k o d _ hk=>absurd hk (hno k)⟩⟩
  refine (hρ ρ' (fun j hj=>ha j (.inl hj))).1.less fun j o hj=> ?_
  replace hj:=uX (g:=fun _=>false) (H2:=gX (W9 (Array.replicate os.length false)) hm'.la s.heap) (fun e _ _ _=>by
   cases hq:W9 (Array.replicate os.length false) e with
   | false=>rfl
   | true=>exact absurd hq (hno e)) (fun _ _ hh=>hh) j o hj
  replace hj:(gX (W9 (Array.replicate os.length false)) hm'.la s.heap).get j=some o:=by
   cases hq:hm'.ef with
   | none=>rw [hq] at hj; exact hj
   | some q=>rw [hq] at hj; exact hj
  rcases N3 hj with hj' | ⟨e,_,hk,_⟩
  ·exact hj'
  ·exact absurd hk (hno e.k)
 split at hdr
 ·exact laidCase hdr
 ·split at hdr
  case h_2=>exact laidCase hdr
  rename_i sn' kn hn
  cases hdr
  obtain⟨f1,f2,f3⟩:=bT hn
  obtain⟨⟨sm,km⟩,hmm⟩:=cY hD.le hn
  refine v0o hX hp hD hn hl hmm (w0:=⟨_,s.nid,hR2.rep.choose,a.defers⟩) (a0:=a) (ρ:=hR2.rep.choose) h0 ⟨d5 _,Agree.refl _ _⟩ (fun a' w' hR'=>hQ a' w' (RepR.clean hR2 hR' f1 f2 f3)) _ _ a _ hunl ?_
  exact⟨by simp,fun j o _ hj=>absurd hj (hno j),fun t _=>hno t,hR2.size,rfl,hR2.base,hR2.inv,Keeps.refl _ _ _,fun ρ' ha=>(hρ ρ' ha).1,fun t _=>rfl,fun k o d _ hk=>absurd hk (hno k)⟩
theorem xA {X:Cx} (hX:CxOk X X.J) (hm:X.P.follows .mixedOrders=true) {os:List Oper} {draw:Bool} {s s':St} (h:jR X os draw s=some s') (hl:d9 s'.obs) {B:Nat} {M:Nat->Prop} (hp:Par X.P B M) {w0:Bas} {rb:Option Nat} {a:Act} {w:World}
  (hR:Rep X.P X.J B M w0 rb s a w) {id:Nat} {Q:Exit->Act->World->Prop} (hQ:∀ a' w',Rep X.P X.J B M w0 rb s' a' w'->Q .normal a' w'):(Code.region id ⟨os⟩ draw).wpIn (Fl rb) 0 X.P Q a w:=by
 unfold jR at h
 split at h
 ·split at h
  case h_2=>cases h
  rename_i sn kn hn
  cases h
  obtain⟨f1,f2,f3⟩:=bT hn
  refine wpIn_region ?_
  have:=i0z hX hp (rb:=rb) (Q:=Q) hn hl (fun a' w' hR'=>hQ a' w' (RepR.clean hR hR' f1 f2 f3)) os.length 0 s [] a w (by omega) rfl hR.toR
  rw [List.range_eq_range']
  exact this
 ·have hR2:=hR.drew
  obtain⟨hρ0,hρ⟩:=hR2.rep.choose_spec
  have h0:∀ ρ',Agree s.nid hR2.rep.choose ρ'->∀ β t,D7 ρ' β (x4 s.tmps t) (a.tmps.getD t undef):=fun ρ' ha β t=>by
   have h1:=(hρ ρ' ha).2.2 t
   have h2:=hR2.plain t
   generalize x4 s.tmps t=tv at*
   cases tv with
   | unk=>trivial
   | v y=>exact h1 y rfl
   | sp l y=>cases h2
   | key j l b=>cases h2
  have hunl:unl (Array.replicate os.length false) os.length<=os.length:=by
   unfold unl
   have:=List.countP_le_length (p:=fun i=> !(Array.replicate os.length false).getD i false) (l:=List.range os.length)
   simpa using this
  have hno:∀ i,¬ Lst (Array.replicate os.length false) i:=fun i hi=>by
   unfold Lst at hi
   rcases E0 i os.length with h' | h'
   ·simp [h'] at hi
   ·simp [h'] at hi
  split at h
  ·rename_i hsp
   split at h
   case h_2=>cases h
   rename_i s1 hs1
   cases h
   have hl1:d9 s1.obs:=by cases s1; exact hl
   obtain⟨sn,kn,ob,rfl,hS⟩:=mZ (oF hsp) hs1 hl1
   obtain⟨f1,f2,f3⟩:=h0b hS.last
   have hQ':∀ a' w',RepR X.P X.J B M ⟨{ w with drawn:=w.drawn+1 },s.nid,hR2.rep.choose,a.defers⟩ kn sn a' w'->Q .normal a' w':=fun a' w' hR'=>by
    have hRn:RepR X.P X.J B M ⟨{ w with drawn:=w.drawn+1 },s.nid,hR2.rep.choose,a.defers⟩ kn (sn.more ob) a' w':=by cases sn; exact⟨hR'.size,hR'.defers,hR'.base,hR'.inv,hR'.keeps,hR'.keys,hR'.rep⟩
    exact hQ a' w' (RepR.clean hR2 hRn (by cases sn; exact f1) (by cases sn; exact f2) (by cases sn; exact f3))
   refine i0v hm ?_
   refine m0i hX hp hS h0 ⟨d5 _,Agree.refl _ _⟩ hQ' _ _ a _ hunl ?_
   exact⟨by simp,fun j o _ hj=>absurd hj (hno j),hR2.size,rfl,hR2.base,hR2.inv,Keeps.refl _ _ _,fun t _=>rfl,0,s,[],hR2.rep.choose,rfl,o8 _, .inl rfl,fun j o _ _=>⟨fun e=>absurd e (hno j),fun e=>by omega⟩,Agree.refl _ _,d5 _,fun ρ' ha=>⟨(hρ ρ' ha).1,fun k o d hk=>absurd hk (hno k)⟩⟩
  split at h
  ·rename_i sn hdr
   cases h
   exact i0v hm (s0f hX hdr (by cases sn; exact hl) hp hR2 h0 hQ)
  ·split at h
   ·cases h
   rename_i hd
   have hD:=nG hd
   split at h
   ·rename_i sn hn
    cases h
    exact i0v hm (j0u hX hd hn hl hp hR2 h0 hQ)
   split at h
   ·rename_i hsk
    cases h
    unfold t0o at hsk
    rename_i s9
    have h:=hsk
    clear hsk
    split at h
    ·cases h
    rename_i z r hrev
    split at h
    ·cases h
    rename_i hs
    split at h
    ·cases h
    rename_i s1 hn1
    split at h
    case h_2=>cases h
    rename_i s2 k2 hn2
    cases h
    simp only [v1b,u6] at hs
    obtain⟨⟨⟨⟨z1,z2⟩,z3⟩,z4⟩,z5⟩:=hs
    have hos:os=r.reverse++[z] :=by
     have:=G7 List.reverse hrev
     rw [List.reverse_reverse,yR] at this
     exact this
    have hl2:d9 s2.obs:=by cases s2; exact hl
    have hl1:d9 s1.clean.obs:=R5 (o8 1) rfl hn2 hl2
    have hl1':d9 s1.obs:=by cases s1; exact hl1
    obtain⟨f1,f2,f3⟩:=bT hn2
    have hfl:=j0u (Q:=fun e a' w'=>e= .normal∧Rep X.P X.J B M w0 rb s1.clean a' w') hX z5 hn1 hl1' hp hR2 h0 (fun a' w' hR'=>⟨rfl,hR'⟩)
    refine i0v hm ?_
    rw [hos]
    have hsz:(⟨r.reverse++[z]⟩:Array Oper).size=r.reverse.length+1:=by simp
    rw [hsz]
    refine o1o (fun o ho=>cB (zzA10.1 z1 o ho)) (oX z3) (fun i o ho e he=>by have:=S8 z4 i o ho e he; omega) (fun a' w' hR'=> ?_) _ _ _ _ _ (by simp) (by simp) (fun i hi=> ?_) ?_ hfl
    ·have:=i0z hX hp (rb:=rb) (Q:=Q) hn2 hl2 (fun a'' w'' hR''=>hQ a'' w'' (RepR.clean hR' hR'' f1 f2 f3)) 1 0 s1.clean [] a' w' (by omega) rfl hR'.toR
     rw [List.range'_succ,wpOpsIn_cons] at this
     unfold wpOpIn at this ⊢
     have e1:(⟨[z]⟩:Array Oper)[0]? =some z:=by rw [lS]; rfl
     have e2:(⟨r.reverse++[z]⟩:Array Oper)[r.reverse.length]? =some z:=by rw [lS]; simp
     have hwant:∀ (ops:Array Oper),Region.wanted z (yielded ops a'.tmps)=true:=fun ops=>by unfold Region.wanted; rw [cB z2]
     rw [e1] at this
     rw [e2]
     simp only [hwant,C6] at this ⊢
     exact this
    ·unfold Lst
     have h1:i < r.length:=by simpa using hi
     simp [h1,Nat.lt_succ_of_lt h1]
    ·unfold Lst
     simp
   ·unfold h1e at h
    split at h
    ·cases h
    rename_i hrd
    split at h
    ·cases h
    rename_i k hk
    split at h
    ·cases h
    rename_i hok
    split at h
    case h_2=>cases h
    rename_i sn hdr
    cases h
    have hrb:rb=none:=by
     have:=(hR.rep.choose_spec.2 _ (Agree.refl _ _)).2.1.round
     rw [hrd] at this
     exact this
    subst hrb
    refine i0v hm ?_
    have hlen:=r0q k (O0 os) os
    have:=s0f (Q:=fun e a' w'=>e= .normal∧Rep X.P X.J B M w0 none sn.clean a' w') hX hdr (by cases sn; exact hl) hp hR2 h0 (fun a' w' hR'=>⟨rfl,hR'⟩)
    rw [hlen] at this
    exact m1y hok (fun e a' w' he=>he.1) (fun a' w' he=>hQ a' w' he.2) this
def rN (X:Cx) (os:List Oper) (s:St):Option St:=
 match os.length with
 | 0=>none
 | m+1=>match h1h os m with
  | none=>none
  | some o=>match o.op with
   | .defer c=>match o.guard,c.callee,s.rd with
    | none, .value f,none=>match evN X 0 os s m with
     | some (⟨tm,hp,nid,ds,obs,lp,rd,mk,bs⟩,_)=>match X5 f && c.args.toList.all X5,evo tm [] f,cG (evo tm []) c.args.toList with
      | true,some (.func (.func fid) ⟨first⟩ ⟨cap⟩),some args=>some (St.clean ⟨g0c tm o.dst .unk,hp,nid,ds,obs,lp,rd,Mk.call fid cap (first++args) ::mk,bs⟩)
      | _,_,_=>none
     | none=>none
    | _,_,_=>none
   | _=>none
theorem x0v {X:Cx} {J:Inv X.P} (hX:CxOk X J) {m:Nat} {os:List Oper} {s0 sn:St} {kn:KV} {B:Nat} {M:Nat->Prop} (hp:Par X.P B M) {w0:Bas} {rb:Option Nat} {Q:Exit->Act->World->Prop} {n:Nat} {tl:List Nat}
  (hn:evN X m os s0 n=some (sn,kn)) (hl:d9 sn.obs) (hQ:∀ a w,RepR X.P J B M w0 kn sn a w->wpOpsIn (Fl rb) 0 X.P ⟨os⟩ Q tl a w):
  ∀ (k i:Nat) (s:St) (kv:KV) (a:Act) (w:World),i+k=n->evN X m os s0 i=some (s,kv)->RepR X.P J B M w0 kv s a w->wpOpsIn (Fl rb) 0 X.P ⟨os⟩ Q (List.range' i k++tl) a w:=by
 intro k
 induction k with
 | zero=>
  intro i s kv a w hik hs hR
  obtain rfl:i=n:=by omega
  rw [hs] at hn
  cases hn
  simp only [List.range'_zero,nH]
  exact hQ a w hR
 | succ k ih=>
  intro i s kv a w hik hs hR
  rw [List.range'_succ,oQ,wpOpsIn_cons]
  obtain⟨q1,hq1⟩:=cY (i:=i+1) (by omega) hn
  obtain⟨s1,k1⟩:=q1
  obtain⟨s',kv',o,h1,h2,h3⟩:=I1 hq1
  rw [hs] at h1
  cases h1
  exact T8 hX h2 h3 (R5 (by omega) hq1 hn hl) hp hR (fun a' w' hR'=>ih (i+1) s1 k1 a' w' (by omega) hq1 hR')
theorem o0p {P:Program} {a:Act} {c:Call} {f:Operand} {ty:TypeId} {fn:Fn} {first cap:Array Value} (hc:c.callee= .value f) (hf:a.eval f= .func fn first cap) (w:World):
  (resolve a.eval c ty).run P w= .ok ⟨.fn fn cap,first++c.args.map a.eval⟩ w:=by
 unfold resolve
 rw [hc]
 simp only [hf,Deferred.ofValue]
 rfl
theorem c0k {X:Cx} (hX:CxOk X X.J) {os:List Oper} {s s':St} (h:rN X os s=some s') (hl:d9 s'.obs) {B:Nat} {M:Nat->Prop} (hp:Par X.P B M) {w0:Bas} {rb:Option Nat} {a:Act} {w:World}
  (hR:Rep X.P X.J B M w0 rb s a w) {id:Nat} {Q:Exit->Act->World->Prop} (hQ:∀ a' w',Rep X.P X.J B M w0 rb s' a' w'->Q .normal a' w'):(Code.region id ⟨os⟩ false).wpIn (Fl rb) 0 X.P Q a w:=by
 unfold rN at h
 split at h
 case h_1=>cases h
 rename_i m hm
 split at h
 case h_1=>cases h
 rename_i o ho
 rw [U7] at ho
 split at h
 case h_2=>cases h
 rename_i c hop
 split at h
 case h_2=>cases h
 rename_i f hg hcal hrd
 split at h
 case h_2=>cases h
 rename_i tm hpq nid ds obs lp rd mk bs kv hn
 split at h
 case h_2=>cases h
 rename_i fid first cap args hng hf hargs
 cases h
 rw [u6] at hng
 obtain⟨f1,f2,f3⟩:=bT hn
 have hrb:rb=none:=by
  have:=(hR.rep.choose_spec.2 _ (Agree.refl _ _)).2.1.round
  rw [hrd] at this
  exact this
 subst hrb
 refine wpIn_region ?_
 rw [show (⟨os⟩:Array Oper).size=m+1 from hm,l0m,List.range_eq_range']
 refine x0v hX hp (Q:=Q) hn hl (fun a1 w1 hR1=> ?_) m 0 s [] a w (by omega) rfl hR.toR
 rw [wpOpsIn_cons]
 unfold wpOpIn
 rw [show (⟨os⟩:Array Oper)[m]? =some o by simpa using ho]
 simp only [Region.wanted,hg,C6]
 obtain⟨ρ2,hρ20,hρ2⟩:=hR1.rep
 obtain⟨β,hβ⟩:=hR1.keys
 have val:∀ ρ',Agree nid ρ2 ρ'->a1.eval f=rv ρ' (.func (.func fid) ⟨first⟩ ⟨cap⟩)∧c.args.toList.map a1.eval=rvL ρ' args:=fun ρ' ha=>by
  have hS:=(hρ2 ρ' ha).1
  have hT:=(hρ2 ρ' ha).2 β hβ
  refine⟨I3 (P:=X.P) hS (bE β) hf (fun t _=>hT t) (fun g e=>by subst e; cases hng.1),q9 _ _ (fun x hx y hy=>I3 (P:=X.P) hS (bE β) hy (fun t _=>hT t) (fun g e=> ?_)) hargs⟩
  have:=zzA10.1 hng.2 x hx
  subst e
  cases this
 obtain⟨v1,v2⟩:=val ρ2 (Agree.refl _ _)
 refine⟨fun _ _=>trivial,?_⟩
 have hrun:(Oper.semAt none a1.eval o).run X.P w1= .ok (.defer ⟨.fn (.func fid) ⟨rvL ρ2 cap⟩,(⟨rvL ρ2 first⟩:Array Value)++⟨rvL ρ2 args⟩⟩) w1:=by
  rw [Oper.semAt_none]
  unfold execOp
  rw [hop]
  simp only [rv,rvA] at v1
  have hr:=o0p (P:=X.P) (ty:=o.type) hcal v1 w1
  have e2:c.args.map a1.eval=⟨rvL ρ2 args⟩:=by
   rw [<- v2]
   apply cV
   simp
  rw [e2] at hr
  simp only
  rw [o7,hr]
  rfl
 show o.uponIn _ _ _ _ _ _ ((Oper.semAt none a1.eval o).run X.P w1)
 rw [hrun,Oper.uponIn_defer]
 show Q .normal _ _
 refine hQ _ _ ?_
 obtain⟨hρ0,hρ⟩:=hR.rep.choose_spec
 have hdef:=hR1.defers
 have hkp:=hR1.keeps
 simp only at hρ20 hdef hkp f1 f2 f3
 have hsz:=hR1.size
 refine⟨?_,fun t=> ?_,?_,hR1.base,hR1.inv,hR.keeps.trans hkp,ρ2,⟨u7 hρ0.1 hρ20.1,hρ0.2.trans hρ20.2 hρ0.1⟩,fun ρ' ha=>⟨(hρ2 ρ' ha).1,?_,fun t x hx=> ?_⟩⟩
 ·show w0.n=bs
  rw [f3]
  exact hR.low
 ·show yI (x4 (List.map uS (g0c tm o.dst .unk)) t)=true
  rw [gZ]
  generalize x4 (g0c tm o.dst .unk) t=tv
  cases tv with
  | key j l b=>cases l <;> rfl
  | _=>rfl
 ·show _=(List.map uS (g0c tm o.dst .unk)).length
  rw [S7,z6,R3]
  exact hsz
 ·have g:=(hρ ρ' (fun i hi=>(ha i (B9 hi hρ20.1)).trans (hρ20.2 i hi))).2.1
  refine⟨?_,by show none=rd.bind ρ'; rw [f1]; exact g.round⟩
  rw [H3]
  show _ ::a1.defers=mkD ρ' (.call fid cap (first++args)) ::mk.map (mkD ρ')
  rw [hdef,f2,g.defers]
  congr 1
  obtain⟨u1,u2⟩:=val ρ' ha
  rw [v1] at u1
  rw [v2] at u2
  simp only [rv,rvA,Value.func.injEq,Array.mk.injEq] at u1
  simp only [mkD,Deferred.mk.injEq,Target.fn.injEq,Array.mk.injEq,true_and]
  refine⟨u1.2.2,?_⟩
  rw [u1.2.1,u2]
  apply cV
  simp [l5]
 ·have ht:=(hρ2 ρ' ha).2 β hβ t
  replace hx:x4 (List.map uS (g0c tm o.dst .unk)) t= .v x:=hx
  rw [gZ,N1] at hx
  rw [H9]
  split at hx
  ·cases hx
  ·rename_i hne
   have hne':¬ (o.dst=some t∧t < a1.tmps.size):=fun hh=>hne ⟨hh.1,by have:=hh.2; rw [hsz] at this; exact this⟩
   rw [a8 hne']
   generalize x4 tm t=tv at*
   cases tv with
   | unk=>cases hx
   | v y=>cases hx; exact ht
   | sp l y=>cases hx
   | key j l b=>
    cases l with
    | nil=>
     cases hx
     simp only [rv]
     exact ht.2.1 (bE β)
    | cons _ _=>cases hx
def I9 (body:St->Option (AX×St)):Nat->St->Option (AX×St)
 | 0,_=>none
 | n+1,s=>match body s with
  | some (.normal,s1)=>I9 body n s1
  | r=>r
def b9 (X:Cx) (c:Code) (s:St) (x:AX) (s':St):Prop:=
 ∀ (B:Nat) (M:Nat->Prop) (w0:Bas) (rb:Option Nat) (a:Act) (w:World),Par X.P B M->Rep X.P X.J B M w0 rb s a w->(Code.loop c).wpIn (Fl rb) 0 X.P (fun e a' w'=>e=x.toExit∧Rep X.P X.J B M w0 rb s' a' w') a w
def St.core (s:St):St:=⟨s.tmps,s.heap,s.nid,[],[],0,s.rd,s.mks,s.bs⟩
abbrev V0:=List (St->Option (AX×St))
def v1j:V0->Nat->Option (St->Option (AX×St))
 | [],_=>none
 | h ::r,n=>match n with
  | 0=>some h
  | k+1=>v1j r k
def x0t:TV->Option Value
 | .v x=>some x
 | _=>none
def u1u:LoopState->Bool
 | .busy=>true
 | _=>false
def mT (s:St) (ps:List Nat) (asg bd:Code):Option (Nat×St):=
 match s with
 | ⟨tm,hp,nid,ds,obs,lp,rd,mk,bs⟩=>match rd with
  | none=>some (nid+1,⟨tm,(nid+1, .loop .ready none (tm.map x0t) ps asg bd) ::(nid, .defr) ::hp,nid+2,ds,obs,lp,none,Mk.mark nid ::mk,bs⟩)
  | some l0=>match hp.get l0 with
   | some (.loop _ _ _ _ _ _)=>some (nid,⟨tm,(nid, .loop .ready none (tm.map x0t) ps asg bd) ::hp,nid+1,ds,obs,lp,some l0,mk,bs⟩)
   | _=>none
theorem iA (s:St) (ps:List Nat) (asg bd:Code):mT s ps asg bd=
  match s.rd with
  | none=>some (s.nid+1,⟨s.tmps,(s.nid+1, .loop .ready none (s.tmps.map x0t) ps asg bd) ::(s.nid, .defr) ::s.heap,s.nid+2,s.ds,s.obs,s.lp,none,Mk.mark s.nid ::s.mks,s.bs⟩)
  | some l0=>match s.heap.get l0 with
   | some (.loop _ _ _ _ _ _)=>some (s.nid,⟨s.tmps,(s.nid, .loop .ready none (s.tmps.map x0t) ps asg bd) ::s.heap,s.nid+1,s.ds,s.obs,s.lp,some l0,s.mks,s.bs⟩)
   | _=>none:=by
 unfold mT
 dsimp only
def yS (s:St) (l:Nat) (r:CR):Option (AX×St):=
 match s,r with
 | ⟨tm,_,_,_,obs,lp,rd,mk,bs⟩,⟨_,h,n,ob,ds'⟩=>match h.get l with
  | some (.loop st pn ts ps asg bd)=>match u1u st with
   | true=>none
   | false=>match pn with
    | none=>some (.normal,⟨tm,h.set l (.loop .exhausted pn ts ps asg bd),n,ds',ob++obs,lp,rd,mk,bs⟩)
    | some .ret=>some (.ret,⟨tm,h.set l (.loop .exhausted pn ts ps asg bd),n,ds',ob++obs,lp,rd,mk,bs⟩)
    | some (.exit id)=>some (.exit id,⟨tm,h.set l (.loop .exhausted pn ts ps asg bd),n,ds',ob++obs,lp,rd,mk,bs⟩)
    | _=>none
  | _=>none
theorem g0y (s:St) (l:Nat) (r:CR):yS s l r=
  match r.h.get l with
  | some (.loop st pn ts ps asg bd)=>match u1u st with
   | true=>none
   | false=>
    let s2:St:=⟨s.tmps,r.h.set l (.loop .exhausted pn ts ps asg bd),r.n,r.ds,r.obs++s.obs,s.lp,s.rd,s.mks,s.bs⟩
    match pn with
    | none=>some (.normal,s2)
    | some .ret=>some (.ret,s2)
    | some (.exit id)=>some (.exit id,s2)
    | _=>none
  | _=>none:=by
 unfold yS
 dsimp only
def m2c (X:Cx) (fid:FuncId) (args:List Value) (s:St):Option CR:=
 match s with
 | ⟨_,hp,n,ds,_,_,_,_,_⟩=>X.cl fid args hp n ds
def D9 (X:Cx) (L:V0):Nat->Code->St->Option (AX×St)
 | 0,_,_=>none
 | f+1,c,s=>
  match c with
  | .skip=>some (.normal,s)
  | .label _=>some (.normal,s)
  | .region _ ⟨os⟩ draw=>match jR X os draw s with
   | some s'=>some (.normal,s')
   | none=>match draw with
    | false=>match rN X os s with
     | some s'=>some (.normal,s')
     | none=>none
    | true=>none
  | .seq c1 c2=>match D9 X L f c1 s with
   | some (.normal,s1)=>D9 X L f c2 s1
   | r=>r
  | .cond o c1 c2=>match evo s.tmps [] o with
   | some (.bool b)=>match s.ds with
    | d ::ds=>match d with
     | true=>D9 X L f c1 (s.bit ds (b=true))
     | false=>D9 X L f c2 (s.bit ds (b=false))
    | [] =>match b with
     | true=>D9 X L f c1 s
     | false=>D9 X L f c2 s
   | _=>none
  | .block id c1=>match D9 X L f c1 s with
   | some (.exit i,s1)=>match zO0 i id with
    | true=>some (.normal,s1)
    | false=>some (.exit i,s1)
   | r=>r
  | .scope c1=>D9 X L f c1 s
  | .loop c1=>match v1j L s.lp with
   | some h=>match h s with
    | some (x,s')=>some (x,s'.looped (s.lp+1) (b9 X c1 s.core x s'.core ::s.obs))
    | none=>none
   | none=>I9 (D9 X L f c1) f s
  | .exit id=>some (.exit id,s)
  | .ret=>some (.ret,s)
  | .rangeFunc g ⟨ps⟩ asg bd=>match X5 g,evo s.tmps [] g with
   | true,some (.func (.func fid) ⟨first⟩ ⟨cap⟩)=>match mT s ps asg bd with
    | none=>none
    | some (l,s1)=>match m2c X fid (first++[.func (.yield l) ⟨[]⟩ ⟨[]⟩] ++cap) s1 with
     | none=>none
     | some r=>yS s1 l r
   | _,_=>none
  | _=>none
theorem Rep.same {P:Program} {J:Inv P} {B:Nat} {M:Nat->Prop} {w0:Bas} {rb:Option Nat} {s s':St} {a:Act} {w:World} (h:Rep P J B M w0 rb s a w) (h1:s'.tmps=s.tmps) (h2:s'.heap=s.heap) (h3:s'.nid=s.nid) (h4:s'.rd=s.rd) (h5:s'.mks=s.mks) (h6:s'.bs=s.bs):Rep P J B M w0 rb s' a w:=by
 obtain⟨ρ,hρ0,hρ⟩:=h.rep
 exact⟨by rw [h6]; exact h.low,by rw [h1]; exact h.plain,by rw [h1]; exact h.size,h.base,h.inv,h.keeps,ρ,by rw [h3]; exact hρ0,fun ρ' ha=>by
  rw [h3] at ha
  obtain⟨g1,g2,g3⟩:=hρ ρ' ha
  rw [h1,h2]
  exact⟨g1,⟨by rw [h5]; exact g2.defers,by rw [h4]; exact g2.round⟩,g3⟩⟩
theorem z0a {s s1:St} {ps:List Nat} {asg bd:Code} {l:Nat} (h:mT s ps asg bd=some (l,s1)):s1.obs=s.obs:=by
 rw [iA] at h
 split at h
 ·cases h; rfl
 ·split at h
  ·cases h; rfl
  ·cases h
theorem zA {s s2:St} {l:Nat} {r:CR} {x:AX} (h:yS s l r=some (x,s2)):s2.obs=r.obs++s.obs:=by
 rw [g0y] at h
 split at h
 ·split at h
  ·cases h
  ·simp only [] at h
   split at h <;> first | (cases h; rfl) | cases h
 ·cases h
theorem k0i {X:Cx} {os:List Oper} {m:Nat} {s s':St} (hdr:lQ X os m s=some s') (hl:d9 s'.obs):d9 s.obs:=by
 unfold lQ at hdr
 split at hdr
 ·cases hdr
 have laidCase:a0h X os m s=some s'->d9 s.obs:=fun hdr=>by
  obtain⟨_,hm',kn,hhd,htl⟩:=tO hdr
  exact dK (o8 _) rfl hhd (cS (o8 _) rfl htl hl)
 split at hdr
 ·exact laidCase hdr
 ·split at hdr
  ·rename_i hn; cases hdr; exact R5 (o8 _) rfl hn hl
  ·exact laidCase hdr
theorem q1y {X:Cx} {os:List Oper} {s s':St} (h:t0o X os s=some s') (hl:d9 s'.obs):d9 s.obs:=by
 unfold t0o at h
 split at h
 ·cases h
 split at h
 ·cases h
 split at h
 ·cases h
 rename_i s1 hn1
 split at h
 case h_2=>cases h
 rename_i s2 k2 hn2
 have hl2:d9 s2.obs:=by cases h; cases s2; exact hl
 have hl1:d9 s1.clean.obs:=R5 (o8 1) rfl hn2 hl2
 have hl1':d9 s1.obs:=by cases s1; exact hl1
 obtain⟨_,hm',kn,hhd,_,htl⟩:=bJ hn1
 exact dK (o8 _) rfl hhd (cS (o8 _) rfl htl hl1')
theorem k0r {X:Cx} {os:List Oper} {draw:Bool} {s s':St} (h:jR X os draw s=some s') (hl:d9 s'.obs):d9 s.obs:=by
 unfold jR at h
 split at h
 ·split at h
  ·rename_i hn; cases h; exact R5 (o8 _) rfl hn hl
  ·cases h
 ·split at h
  ·rename_i hsp
   split at h
   case h_2=>cases h
   rename_i s1 hs1
   cases h
   have hl1:d9 s1.obs:=by cases s1; exact hl
   obtain⟨sn,kn,ob,rfl,hS⟩:=mZ (oF hsp) hs1 hl1
   exact m0l (o8 _) rfl hS.last hS.obs
  split at h
  ·rename_i sn hdr
   cases h
   exact k0i hdr (by cases sn; exact hl)
  ·split at h
   ·cases h
   ·split at h
    ·rename_i hn
     cases h
     obtain⟨_,hm',kn,hhd,_,htl⟩:=bJ hn
     exact dK (o8 _) rfl hhd (cS (o8 _) rfl htl hl)
    ·split at h
     ·rename_i hsk
      cases h
      exact q1y hsk hl
     ·unfold h1e at h
      split at h
      ·cases h
      split at h
      ·cases h
      split at h
      ·cases h
      split at h
      case h_2=>cases h
      rename_i sn hdr
      cases h
      exact k0i hdr (by cases sn; exact hl)
theorem q0z {X:Cx} {os:List Oper} {s s':St} (h:rN X os s=some s') (hl:d9 s'.obs):d9 s.obs:=by
 unfold rN at h
 split at h
 case h_1=>cases h
 split at h
 case h_1=>cases h
 split at h
 case h_2=>cases h
 split at h
 case h_2=>cases h
 split at h
 case h_2=>cases h
 rename_i hn
 split at h
 case h_2=>cases h
 cases h
 exact R5 (o8 _) rfl hn hl
theorem bS {body:St->Option (AX×St)} (hb:∀ s x s',body s=some (x,s')->d9 s'.obs->d9 s.obs):∀ (n:Nat) (s:St) (x:AX) (s':St),I9 body n s=some (x,s')->d9 s'.obs->d9 s.obs
 | 0,s,x,s',h,_=>by simp [I9] at h
 | n+1,s,x,s',h,hl=>by
  simp only [I9] at h
  split at h
  ·rename_i s1 h1
   exact hb _ _ _ h1 (bS hb n s1 x s' h hl)
  ·exact hb _ _ _ h hl
theorem V4 {X:Cx} {L:V0} :∀ (f:Nat) (c:Code) (s:St) (x:AX) (s':St),D9 X L f c s=some (x,s')->d9 s'.obs->d9 s.obs:=by
 intro f
 induction f with
 | zero=>intro c s x s' h; simp [D9] at h
 | succ f ih=>
  intro c s x s' h hl
  unfold D9 at h
  split at h
  ·cases h; exact hl
  ·cases h; exact hl
  ·split at h
   ·rename_i hr; cases h; exact k0r hr hl
   ·split at h
    ·split at h
     ·rename_i hr; cases h; exact q0z hr hl
     ·cases h
    ·cases h
  ·split at h
   ·rename_i s1 h1; exact ih _ _ _ _ h1 (ih _ _ _ _ h hl)
   ·exact ih _ _ _ _ h hl
  ·split at h
   ·split at h
    ·split at h
     ·exact (ih _ _ _ _ h hl).2
     ·exact (ih _ _ _ _ h hl).2
    ·split at h
     ·exact ih _ _ _ _ h hl
     ·exact ih _ _ _ _ h hl
   ·cases h
  ·split at h
   ·rename_i i s1 h1
    split at h <;> (cases h; exact ih _ _ _ _ h1 hl)
   ·exact ih _ _ _ _ h hl
  ·exact ih _ _ _ _ h hl
  ·split at h
   ·split at h
    ·cases h; exact hl.2
    ·cases h
   ·exact bS (fun s x s'=>ih _ s x s') f s x s' h hl
  ·cases h; exact hl
  ·cases h; exact hl
  ·split at h
   ·split at h
    ·cases h
    ·rename_i l s1 he
     split at h
     ·cases h
     ·rw [zA h,m3,z0a he] at hl
      exact hl.2
   ·cases h
  ·cases h
theorem fL {P:Program} {rb:Option Nat} {c:Code} {body:St->Option (AX×St)} {Q:Exit->Act->World->Prop} {R:St->Act->World->Prop} (hobs:∀ s x s',body s=some (x,s')->d9 s'.obs->d9 s.obs)
  (hb:∀ s x s',body s=some (x,s')->d9 s'.obs->∀ a w,R s a w->∀ Q':Exit->Act->World->Prop,(∀ a' w',R s' a' w'->Q' x.toExit a' w')->c.wpIn (Fl rb) 0 P Q' a w):
  ∀ (n:Nat) (s:St) (x:AX) (s':St),I9 body n s=some (x,s')->d9 s'.obs->(∀ a' w',R s' a' w'->Q x.toExit a' w')->∀ a w,R s a w->x≠ .normal∧Code.roundsIn (Fl rb) 0 P c Q n a w
 | 0,s,x,s',h,_,_,_,_,_=>by simp [I9] at h
 | n+1,s,x,s',h,hl,hQ,a,w,hR=>by
  simp only [I9] at h
  split at h
  ·rename_i s1 h1
   have ih:=fL hobs hb n s1 x s' h hl hQ
   have hl1:=bS hobs n s1 x s' h hl
   refine⟨?_,?_⟩
   ·
    have hne:∀ (n:Nat) (s:St) (x:AX) (s':St),I9 body n s=some (x,s')->x≠ .normal:=by
     intro n
     induction n with
     | zero=>intro s x s' h; simp [I9] at h
     | succ n ihn=>
      intro s x s' h
      simp only [I9] at h
      split at h
      ·exact ihn _ _ _ h
      ·rename_i hno
       rw [h] at hno
       intro e
       subst e
       exact hno _ rfl
    exact hne n s1 x s' h
   ·rw [roundsIn_succ]
    refine hb s .normal s1 h1 hl1 a w hR _ (fun a' w' hR'=> ?_)
    exact (ih a' w' hR').2
  ·rename_i hno
   have hxn:x≠ .normal:=fun e=>by subst e; exact hno s' h
   refine⟨hxn,?_⟩
   rw [roundsIn_succ]
   refine hb s x s' h hl a w hR _ (fun a' w' hR'=> ?_)
   cases x with
   | normal=>exact absurd rfl hxn
   | exit id=>exact hQ a' w' hR'
   | ret=>exact hQ a' w' hR'
theorem g1p {P:Program} {J:Inv P} {B:Nat} {M:Nat->Prop} {w0:Bas} {rb:Option Nat} {s:St} {a:Act} {w:World} (hR:Rep P J B M w0 rb s a w) {o:Operand} (hg:X5 o=true) {v:Value} (h:evo s.tmps [] o=some v):
  ∀ ρ',Agree s.nid hR.rep.choose ρ'->a.eval o=rv ρ' v:=by
 obtain⟨_,hρ⟩:=hR.rep.choose_spec
 intro ρ' ha
 refine I3 (β:=fun _=>false) (hρ ρ' ha).1 (bE _) h (fun t _=> ?_) (fun g e=>by subst e; cases hg)
 have:=(hρ ρ' ha).2.2 t
 have hp:=hR.plain t
 generalize x4 s.tmps t=tv at*
 cases tv with
 | unk=>trivial
 | v y=>exact this y rfl
 | sp l y=>cases hp
 | key j l b=>cases hp
theorem gK {P:Program} {w:World} {l:Nat} {r:Loop} (h:w.heap[l]? =some (.loop r)) (fn:FuncId) (tmps:Array Value) (ps:Array Tmp) (assign body:Code):
  (Instr.enterLoop fn tmps ps assign body (some l)).run P w=
   .ok (w.heap.size,[]) (w.alloc (.loop { state:= .ready,pending:=none,fn,tmps,params:=ps,assign,body,defers:=r.defers })):=by
 unfold Instr.enterLoop
 simp only [o7,run_getLoop h,run_newObj_alloc,Result.andThen,J4]
theorem s0j {ts:List TV} {t:Nat} {x:Value} (h:(ts.map x0t)[t]? =some (some x)):x4 ts t= .v x:=by
 rw [N6] at h
 simp only [E1]
 cases hg:ts[t]? with
 | none=>rw [hg] at h; cases h
 | some tv=>
  rw [hg] at h
  simp only [A4,G3] at h
  cases tv with
  | v y=>simp only [x0t] at h; cases h; rfl
  | unk=>cases h
  | sp l y=>cases h
  | key j l b=>cases h
theorem j0g {P:Program} {J:Inv P} {B:Nat} {M:Nat->Prop} (hp:Par P B M) {w0:Bas} {rb:Option Nat} {s s1:St} {a:Act} {w:World} (hR:Rep P J B M w0 rb s a w) {ps:List Nat} {asg bd:Code} {l:Nat} (h:mT s ps asg bd=some (l,s1)) (fn:FuncId):
  ∃ b mark w1 ρ1,(Instr.enterLoop fn a.tmps ⟨ps⟩ asg bd (Fl rb).round).run P w= .ok (b,mark) w1∧Agree s.nid hR.rep.choose ρ1∧s.nid<=s1.nid∧s1.tmps=s.tmps∧ρ1 l=some b∧B<=w1.heap.size∧J.I w1∧Keeps B M w0.w w1∧
   ∀ ρ',Agree s1.nid ρ1 ρ'->Sim P B M ρ' s1.heap w1∧FR ρ' rb s1 { a with defers:=mark++a.defers } :=by
 obtain⟨hρ0,hρ⟩:=hR.rep.choose_spec
 generalize hR.rep.choose=ρ at*
 have fin:∀ (w1:World) (ρ1:Num),Below w.heap.size w w1->B<=w1.heap.size∧J.I w1∧Keeps B M w0.w w1:=fun w1 ρ1 hb=>by
  have hk:=n5 (M:=M) hb hR.base
  exact⟨u7 hR.base hk.size,J.keeps hp hk hR.inv,hR.keeps.trans hk⟩
 rw [iA] at h
 split at h
 ·rename_i hrd
  cases h
  have hrb:rb=none:=by
   have:=(hρ ρ (Agree.refl _ _)).2.1.round
   rw [hrd] at this
   exact this
  subst hrb
  have hb1:Below w.heap.size w (w.alloc (.deferred (some []))):=(O9 _ _).alloc (d5 _) _
  have hb2:∀ o,Below w.heap.size w ((w.alloc (.deferred (some []))).alloc o):=fun o=>hb1.alloc (by simp) o
  let ρ1:Num:=fun i=>if i=s.nid then some w.heap.size else if i=s.nid+1 then some (w.heap.size+1) else ρ i
  obtain⟨f1,f2,f3⟩:=fin _ ρ1 (hb2 (.loop { state:= .ready,pending:=none,fn,tmps:=a.tmps,params:=⟨ps⟩,assign:=asg,body:=bd,defers:=w.heap.size }))
  refine⟨_,_,_,ρ1,run_enterLoop_outer fn a.tmps ⟨ps⟩ asg bd,?_,by simp,rfl,by simp [ρ1],f1,f2,f3,fun ρ' ha=> ?_⟩
  ·intro i hi
   simp [ρ1,show i≠s.nid by omega,show i≠s.nid+1 by omega]
  ·simp only at ha
   have ha0:Agree s.nid ρ ρ':=fun i hi=>by rw [ha i (by omega)]; simp [ρ1,show i≠s.nid by omega,show i≠s.nid+1 by omega]
   have e1:ρ' s.nid=some w.heap.size:=by rw [ha _ (by omega)]; simp [ρ1]
   have e2:ρ' (s.nid+1)=some (w.alloc (.deferred (some []))).heap.size:=by rw [ha _ (by omega)]; simp [ρ1]
   obtain⟨g1,g2,g3⟩:=hρ ρ' ha0
   refine⟨?_,⟨?_,rfl⟩⟩
   ·refine Sim.new (g1.new e1 (ob:= .deferred (some [])) (o:= .defr) ⟨_,rfl,World.alloc_heap_new _ _, .inl hR.base⟩) e2 ?_
    refine⟨_,_,rfl,World.alloc_heap_new _ _,⟨rfl,rfl,rfl,rfl,rfl,by simpa using hR.size,fun t x hx=>g3 t x (s0j hx)⟩, .inl ?_⟩
    have:=hR.base
    simp
    omega
   ·show [_] ++a.defers=mkD ρ' (.mark s.nid) ::s.mks.map (mkD ρ')
    rw [g2.defers]
    simp [mkD,e1]
 ·rename_i l0 hrd
  split at h
  case h_2=>cases h
  rename_i st pn ts ps0 asg0 bd0 hget
  cases h
  obtain⟨b0,r0,hb0,hw0,_⟩:=(hρ ρ (Agree.refl _ _)).1.obj l0 _ hget
  have hrb:rb=some b0:=by
   have:=(hρ ρ (Agree.refl _ _)).2.1.round
   rw [hrd] at this
   rw [this]
   exact hb0
  subst hrb
  have hb1:∀ o,Below w.heap.size w (w.alloc o):=fun o=>(O9 _ _).alloc (d5 _) o
  let ρ1:Num:=fun i=>if i=s.nid then some w.heap.size else ρ i
  obtain⟨f1,f2,f3⟩:=fin _ ρ1 (hb1 (.loop { state:= .ready,pending:=none,fn,tmps:=a.tmps,params:=⟨ps⟩,assign:=asg,body:=bd,defers:=r0.defers }))
  refine⟨_,_,_,ρ1,gK hw0 fn a.tmps ⟨ps⟩ asg bd,?_,by simp,rfl,by simp [ρ1],f1,f2,f3,fun ρ' ha=> ?_⟩
  ·intro i hi
   simp [ρ1,show i≠s.nid by omega]
  ·simp only at ha
   have ha0:Agree s.nid ρ ρ':=fun i hi=>by rw [ha i (by omega)]; simp [ρ1,show i≠s.nid by omega]
   have e1:ρ' s.nid=some w.heap.size:=by rw [ha _ (by omega)]; simp [ρ1]
   obtain⟨g1,g2,g3⟩:=hρ ρ' ha0
   refine⟨?_,⟨g2.defers,by have:=g2.round; rw [hrd] at this; exact this⟩⟩
   refine g1.new e1 ?_
   exact⟨_,_,rfl,World.alloc_heap_new _ _,⟨rfl,rfl,rfl,rfl,rfl,by simpa using hR.size,fun t x hx=>g3 t x (s0j hx)⟩, .inl hR.base⟩
theorem g0o {X:Cx} {B:Nat} {M:Nat->Prop} (hp:Par X.P B M) {w0:Bas} {rb:Option Nat} {s1 s2:St} {a:Act} {w:World} {l b:Nat} {r:CR} {x:AX} (h:yS s1 l r=some (x,s2)) {ρ2:Num}
  (hR:Rep X.P X.J B M w0 rb ⟨s1.tmps,r.h,r.n,r.ds,r.obs++s1.obs,s1.lp,s1.rd,s1.mks,s1.bs⟩ a w) (hρ0:w0.n<=r.n∧Agree w0.n w0.ρ ρ2) (hρ:∀ ρ',Agree r.n ρ2 ρ'->Sim X.P B M ρ' r.h w∧FR ρ' rb (⟨s1.tmps,r.h,r.n,r.ds,r.obs++s1.obs,s1.lp,s1.rd,s1.mks,s1.bs⟩:St) a∧∀ t x,x4 s1.tmps t= .v x->a.tmps.getD t undef=rv ρ' x) (hb:ρ2 l=some b) {Q:Exit->Act->World->Prop} (hQ:∀ a' w',Rep X.P X.J B M w0 rb s2 a' w'->Q x.toExit a' w'):
  ∃ jump w4,(Instr.endLoop b).run X.P w= .ok jump w4∧(match jump with | none=>Q .normal a w4 | some c=>c.wpIn (Fl rb) 0 X.P Q a w4):=by
 rw [g0y] at h
 split at h
 case h_2=>cases h
 rename_i st pn ts ps asg bd hget
 split at h
 ·cases h
 rename_i hbusy
 obtain⟨b',r',hw,e1,e2,_,_,_,hb',hlt,hturn⟩:=hR.loop' hp hρ0 hρ hget
 have hbb:b'=b:=by
  have:=hb' _ (Agree.refl _ _)
  rw [hb] at this
  exact (J8 this).symm
 subst hbb
 refine⟨_,_,run_endLoop hw (by rw [e1]; intro e; subst e; cases hbusy),?_⟩
 have hR2:=hturn .exhausted pn ⟨s1.tmps,r.h.set l (.loop .exhausted pn ts ps asg bd),r.n,r.ds,r.obs++s1.obs,s1.lp,s1.rd,s1.mks,s1.bs⟩ rfl rfl rfl rfl rfl rfl
 subst e2
 simp only [] at h
 split at h
 ·rename_i hp0
  cases h
  simp only [hp0] at hR2 ⊢
  have:=hQ a _ (by rw [hp0]; exact hR2)
  exact this
 ·rename_i hp0
  cases h
  simp only [hp0] at hR2 ⊢
  exact wpIn_ret (hQ a _ (by rw [hp0]; exact hR2))
 ·rename_i id hp0
  cases h
  simp only [hp0] at hR2 ⊢
  exact wpIn_exit (hQ a _ (by rw [hp0]; exact hR2))
 ·cases h
theorem f1q {s s1:St} {ps:List Nat} {asg bd:Code} {l:Nat} (h:mT s ps asg bd=some (l,s1)):l < s1.nid:=by
 rw [iA] at h
 split at h
 ·cases h; simp
 ·split at h
  ·cases h; simp
  ·cases h
theorem k1d {s s1:St} {ps:List Nat} {asg bd:Code} {l:Nat} (h:mT s ps asg bd=some (l,s1)):s1.bs=s.bs:=by
 rw [iA] at h
 split at h
 ·cases h; rfl
 ·split at h
  ·cases h; rfl
  ·cases h
theorem vE {X:Cx} (hX:CxOk X X.J) {B:Nat} {M:Nat->Prop} (hp:Par X.P B M) {w0:Bas} {rb:Option Nat} {s s1 s':St} {x:AX} {g:Operand} {ps:List Nat} {asg bd:Code} {fid l:Nat} {first cap:List Value} {r:CR}
  (hng:X5 g=true) (hg:evo s.tmps [] g=some (.func (.func fid) ⟨first⟩ ⟨cap⟩)) (hent:mT s ps asg bd=some (l,s1)) (hcl:X.cl fid (first++[.func (.yield l) ⟨[]⟩ ⟨[]⟩] ++cap) s1.heap s1.nid s1.ds=some r) (h:yS s1 l r=some (x,s')) (hl:d9 r.obs)
  {a:Act} {w:World} (hR:Rep X.P X.J B M w0 rb s a w) {Q:Exit->Act->World->Prop} (hQ:∀ a' w',Rep X.P X.J B M w0 rb s' a' w'->Q x.toExit a' w'):(Code.rangeFunc g ⟨ps⟩ asg bd).wpIn (Fl rb) 0 X.P Q a w:=by
 obtain⟨hn,hfent,hcalls⟩:=hX.cl _ _ _ _ _ _ hcl hl
 refine wpIn_rangeFunc (fun fn _=> ?_)
 obtain⟨b,mark,w1,ρ1,hrun,ha1,hnid,htm,hb,hB1,hI1,hK1,hsim⟩:=j0g hp hR hent fn
 have hlt:=f1q hent
 have hgv:=g1p hR hng hg
 obtain⟨hρ0,hρ⟩:=hR.rep.choose_spec
 generalize hR.rep.choose=ρ at*
 have hgv1:=hgv ρ1 ha1
 simp only [rv,rvA,rFn] at hgv1
 have hargs:∀ ρ',Agree s1.nid ρ1 ρ'->(⟨rvL ρ' (first++[.func (.yield l) ⟨[]⟩ ⟨[]⟩] ++cap)⟩:Array Value)=(⟨rvL ρ1 first⟩:Array Value)++ #[.func (.yield b) #[] #[]] ++⟨rvL ρ1 cap⟩:=fun ρ' ha=>by
  have hgv2:=hgv ρ' (fun i hi=>(ha i (B9 hi hnid)).trans (ha1 i hi))
  rw [hgv1] at hgv2
  simp only [rv,rvA,rFn] at hgv2
  injection hgv2 with _ e1 e2
  injection e1 with e1
  injection e2 with e2
  have hlb:ρ' l=some b:=by rw [ha l hlt,hb]
  rw [e1,e2]
  simp [l5,rv,rvA,rvL,rFn,hlb]
 have hres:(resolve a.eval (rangeCall g b) 0).run X.P w1= .ok ⟨.fn (.func fid) ⟨rvL ρ1 cap⟩,(⟨rvL ρ1 first⟩:Array Value)++ #[.func (.yield b) #[] #[]]⟩ w1:=by
  simp only [resolve,hgv1,Deferred.ofValue,J4]
  simp [Act.eval]
 have hinv:(invoke (.fn (.func fid) ⟨rvL ρ1 cap⟩) ((⟨rvL ρ1 first⟩:Array Value)++ #[.func (.yield b) #[] #[]])).run X.P w1= .ok (.enter fid ⟨rvL ρ1 (first++[.func (.yield l) ⟨[]⟩ ⟨[]⟩] ++cap)⟩) w1:=by
  rw [hargs ρ1 (Agree.refl _ _)]
  exact hfent _ _
 have hcall:=hcalls B M ρ1 w1 (rvL ρ1 (first++[.func (.yield l) ⟨[]⟩ ⟨[]⟩] ++cap)) hp hB1 hI1 (fun ρ' ha=>⟨(hsim ρ' ha).1,by
  have e1:=hargs ρ' ha
  rw [<- hargs ρ1 (Agree.refl _ _)] at e1
  injection e1 with e1
  exact e1.symm⟩)
 refine⟨b,mark,w1,_,w1,fid,_,w1,hrun,hres,fun _ _=>trivial,hinv,fun h=>(by cases h),dT (hcall.mono fun e w' hh=> ?_)⟩
 obtain⟨ρ2,v,ha2,he,hk,hfin⟩:=hh
 subst he
 have hag:∀ ρ',Agree r.n ρ2 ρ'->Agree s1.nid ρ1 ρ':=fun ρ' ha i hi=>(ha i (B9 hi hn)).trans (ha2 i hi)
 have h0:w0.n<=r.n∧Agree w0.n w0.ρ ρ2:=⟨u7 hρ0.1 (u7 hnid hn),fun i hi=>by
  have h1:i < s.nid:=B9 hi hρ0.1
  rw [ha2 i (by omega),ha1 i h1]
  exact hρ0.2 i hi⟩
 have h1:∀ ρ',Agree r.n ρ2 ρ'->Sim X.P B M ρ' r.h w'∧FR ρ' rb (⟨s1.tmps,r.h,r.n,r.ds,r.obs++s1.obs,s1.lp,s1.rd,s1.mks,s1.bs⟩:St) { a with defers:=mark++a.defers } ∧∀ t x,x4 s1.tmps t= .v x->a.tmps.getD t undef=rv ρ' x:=fun ρ' ha=>by
  refine⟨(hfin ρ' ha).2,?_,?_⟩
  ·have:=(hsim ρ' (hag ρ' ha)).2
   exact⟨this.defers,this.round⟩
  ·rw [htm]
   exact (hρ ρ' (fun i hi=>(hag ρ' ha i (B9 hi hnid)).trans (ha1 i hi))).2.2
 have hR1:Rep X.P X.J B M w0 rb ⟨s1.tmps,r.h,r.n,r.ds,r.obs++s1.obs,s1.lp,s1.rd,s1.mks,s1.bs⟩ { a with defers:=mark++a.defers } w':=
  ⟨by show w0.n=s1.bs; rw [k1d hent]; exact hR.low,by rw [htm]; exact hR.plain,by rw [htm]; exact hR.size,u7 hB1 hk.size,X.J.keeps hp hk hI1,hK1.trans hk,ρ2,h0,h1⟩
 exact g0o hp h hR1 h0 h1 (by rw [ha2 l hlt,hb]) hQ
theorem K5 {P:Program} {b:Frame} {a:Act} {k:List Item} {cs:List Frame} {w:World} {c:Code} :step P (lone (b.atR a (.code (.scope c) ::k)) cs w)= .next (lone (b.atR a (.code c :: .inScope c ::k)) cs w):=
 step_lone_go (by simp [stepG,stepG.exec,Frame.atR])
theorem d0a {P:Program} {b:Frame} {a:Act} {k:List Item} {cs:List Frame} {w:World} {c:Code} :step P (lone (b.atR a (.inScope c ::k)) cs w)= .next (lone (b.atR a k) cs w):=
 step_lone_go (by simp [stepG,stepG.exec,Frame.atR])
theorem x0x {F:Fence} {n:Nat} {P:Program} {Q:Exit->Act->World->Prop} {a:Act} {w:World} {c:Code} (h:c.wpIn F n P (Exit.noGoto Q) a w):(Code.scope c).wpIn F n P Q a w:=by
 intro b k cs hro hb hr
 have h0:(lone (b.atR a (.code (.scope c) ::k)) cs w).fenced P F:=fenced_calm hb hr rfl
 obtain⟨e,a₁,w₁,hq,harr⟩:=h b (.inScope c ::k) cs hro hb hr
 cases e with
 | normal=>exact⟨.normal,a₁,w₁,hq, .head h0 K5 (StepsIn.trans harr (.one (fenced_calm hb hr rfl) d0a))⟩
 | exit id=>
  have hx:exitTo id (.inScope c ::k)=exitTo id k:=by simp [exitTo]
  exact⟨.exit id,a₁,w₁,hq,fun k' hk=> .head h0 K5 (harr.1 k' (by rw [hx]; exact hk)),
   fun hr' hk=>let ⟨k₁,h1,h2⟩:=harr.2 hr' (by rw [hx]; exact hk); ⟨k₁,h1, .head h0 K5 h2⟩⟩
 | goto l=>exact hq.elim
 | ret=>exact⟨_,a₁,w₁,hq, .of_steps (.one h0 K5) harr⟩
 | panic ch=>exact⟨_,a₁,w₁,hq, .of_steps (.one h0 K5) harr⟩
 | outgrown=>exact⟨_,a₁,w₁,hq, .of_steps (.one h0 K5) harr⟩
theorem bU {X:Cx} {L:V0} (hX:CxOk X X.J) (hm:X.P.follows .mixedOrders=true) {B:Nat} {M:Nat->Prop} (hp:Par X.P B M) {w0:Bas} {rb:Option Nat} :∀ (f:Nat) (c:Code) (s:St) (x:AX) (s':St),D9 X L f c s=some (x,s')->d9 s'.obs->
  ∀ a w,Rep X.P X.J B M w0 rb s a w->∀ Q:Exit->Act->World->Prop,(∀ a' w',Rep X.P X.J B M w0 rb s' a' w'->Q x.toExit a' w')->c.wpIn (Fl rb) 0 X.P Q a w:=by
 intro f
 induction f with
 | zero=>intro c s x s' h; simp [D9] at h
 | succ f ih=>
  intro c s x s' h hl a w hR Q hQ
  unfold D9 at h
  split at h
  ·cases h; exact wpIn_skip (hQ a w hR)
  ·cases h; exact wpIn_label (hQ a w hR)
  ·split at h
   ·rename_i s1 hr; cases h; exact xA hX hm hr hl hp hR hQ
   ·split at h
    ·split at h
     ·rename_i s1 hr; cases h; exact c0k hX hr hl hp hR hQ
     ·cases h
    ·cases h
  ·split at h
   ·rename_i s1 h1
    exact wpIn_seq (ih _ _ _ _ h1 (V4 _ _ _ _ _ h hl) a w hR _ (fun a' w' hR'=>ih _ _ _ _ h hl a' w' hR' Q hQ))
   ·rename_i hno
    have hxn:x≠ .normal:=fun e=>by subst e; exact hno s' h
    refine wpIn_seq (ih _ _ _ _ h hl a w hR _ (fun a' w' hR'=> ?_))
    cases x with
    | normal=>exact absurd rfl hxn
    | exit id=>exact hQ a' w' hR'
    | ret=>exact hQ a' w' hR'
  ·rename_i o c1 c2
   split at h
   case h_2=>cases h
   rename_i b hb
   have hval:X5 o=true->a.eval o= .bool b:=fun hg=>by
    have:=g1p hR hg hb _ (Agree.refl _ _)
    simpa [rv] using this
   have hg:X5 o=true:=by
    cases o with
    | global g=>simp [evo] at hb
    | _=>rfl
   have hv:=hval hg
   split at h
   ·rename_i d ds hds
    split at h
    ·have hob:=V4 _ _ _ _ _ h hl
     have hb':b=true:=hob.1
     subst hb'
     exact wpIn_cond_true hv (ih _ _ _ _ h hl a w (hR.same rfl rfl rfl rfl rfl rfl) Q hQ)
    ·have hob:=V4 _ _ _ _ _ h hl
     have hb':b=false:=hob.1
     subst hb'
     exact wpIn_cond_false hv (ih _ _ _ _ h hl a w (hR.same rfl rfl rfl rfl rfl rfl) Q hQ)
   ·split at h
    ·exact wpIn_cond_true hv (ih _ _ _ _ h hl a w hR Q hQ)
    ·exact wpIn_cond_false hv (ih _ _ _ _ h hl a w hR Q hQ)
  ·rename_i id c1
   split at h
   ·rename_i i s1 h1
    split at h
    ·rename_i hi
     have hi:=N8 hi
     subst hi
     cases h
     refine wpIn_block (ih _ _ _ _ h1 hl a w hR _ (fun a' w' hR'=> ?_))
     simp only [AX.toExit,Exit.inBlock,C6]
     exact hQ a' w' hR'
    ·rename_i hi
     cases h
     refine wpIn_block (ih _ _ _ _ h1 hl a w hR _ (fun a' w' hR'=> ?_))
     simp only [AX.toExit,Exit.inBlock]
     rw [a8 (fun e=>by subst e; rw [c0g] at hi; cases hi)]
     exact hQ a' w' hR'
   ·rename_i hno
    refine wpIn_block (ih _ _ _ _ h hl a w hR _ (fun a' w' hR'=> ?_))
    cases x with
    | normal=>exact hQ a' w' hR'
    | exit id=>exact absurd h (hno id s')
    | ret=>exact hQ a' w' hR'
  ·refine x0x (ih _ _ _ _ h hl a w hR _ (fun a' w' hR'=> ?_))
   cases x with
   | normal=>exact hQ a' w' hR'
   | exit id=>exact hQ a' w' hR'
   | ret=>exact hQ a' w' hR'
  ·rename_i c1
   split at h
   ·split at h
    ·rename_i x1 s1 hs1
     cases h
     have hlt:b9 X c1 s.core x s1.core:=hl.1
     refine wpIn_mono (hlt B M w0 rb a w hp (hR.same rfl rfl rfl rfl rfl rfl)) (fun e a' w' ⟨he,hR'⟩=> ?_)
     subst he
     exact hQ a' w' (hR'.same rfl rfl rfl rfl rfl rfl)
    ·cases h
   ·exact wpIn_loop_rounds f (fL (fun s x s'=>V4 f c1 s x s') (fun s x s' hs hls a w hR Q' hQ'=>ih c1 s x s' hs hls a w hR Q' hQ') f s x s' h hl hQ a w hR).2
  ·cases h; exact wpIn_exit (hQ a w hR)
  ·cases h; exact wpIn_ret (hQ a w hR)
  ·rename_i g ps asg bd
   split at h
   case h_2=>cases h
   rename_i fid first cap hng hg
   split at h
   ·cases h
   rename_i l s1 hent
   split at h
   ·cases h
   rename_i r hcl
   have hlr:=hl
   rw [zA h,m3] at hlr
   exact vE hX hp hng hg hent hcl h hlr.1 hR hQ
  ·cases h
def L7 (P:Program) (auto:Bool) (ts:List TV) (H:Heap):List ResultVar->Option (List Value×List Prop)
 | [] =>some ([],[])
 | .tmp t ::r=>match rd [] (x4 ts t),L7 P auto ts H r with
  | some v,some (vs,l)=>some (v ::vs,l)
  | _,_=>none
 | .cell t ty ::r=>match rd [] (x4 ts t) with
  | some x=>match yF P auto H ty x,L7 P auto ts H r with
   | some (v,l),some (vs,l')=>some (v ::vs,l++l')
   | _,_=>none
  | none=>none
def N2:List Value->Value
 | [v] =>v
 | vs=> .tuple ⟨vs⟩
theorem u0b {ts:List TV} {a:Act} (hR:∀ t,yI (x4 ts t)=true) {ρ:Num} (hv:∀ t x,x4 ts t= .v x->a.tmps.getD t undef=rv ρ x) {t:Nat} {v:Value} (h:rd [] (x4 ts t)=some v):
  a.tmps.getD t undef=rv ρ v:=by
 have hp:=hR t
 have h1:=hv t
 generalize x4 ts t=tv at*
 cases tv with
 | unk=>simp [rd] at h
 | v y=>simp only [rd] at h; cases h; exact h1 _ rfl
 | sp l y=>cases hp
 | key j l b=>cases hp
theorem x0l {P:Program} {auto:Bool} {H:Heap} {t:TypeId} {x v:Value} {l:List Prop} (h:yF P auto H t x=some (v,l)):∃ id off,x= .pointer (some ⟨id,off,none⟩):=by
 unfold yF at h
 simp only [u9,v8] at h
 split at h
 ·exact⟨_,_,rfl⟩
 ·cases h
theorem U3 {P:Program} {auto:Bool} {B:Nat} {M:Nat->Prop} {ts:List TV} {H:Heap} {a:Act} {w:World} (hR:∀ t,yI (x4 ts t)=true) {ρ:Num} (hS:Sim P B M ρ H w) (hv:∀ t x,x4 ts t= .v x->a.tmps.getD t undef=rv ρ x):
  ∀ (l:List ResultVar) (vs:List Value) (ob:List Prop),L7 P auto ts H l=some (vs,ob)->d9 ob->
   (l.mapM fun (r:ResultVar)=>(match r with | .tmp t=>pure (a.tmps.getD t undef) | .cell p ty=>do loadVar ty (<- asAddr (a.tmps.getD p undef)):Sem Value)).run P w= .ok (rvL ρ vs) w
 | [],vs,ob,h,_=>by simp only [L7] at h; cases h; rfl
 | .tmp t ::r,vs,ob,h,hl=>by
  simp only [L7] at h
  split at h
  case h_2=>cases h
  rename_i v vs' l' h1 h2
  cases h
  have ih:=U3 hR hS hv r vs' _ h2 hl
  simp only [List.mapM_cons,o7,J4,p7,u0b hR hv h1]
  rw [ih]
  rfl
 | .cell t ty ::r,vs,ob,h,hl=>by
  simp only [L7] at h
  split at h
  case h_2=>cases h
  rename_i x h1
  split at h
  case h_2=>cases h
  rename_i v l1 vs' l2 h2 h3
  cases h
  rw [m3] at hl
  have ih:=U3 hR hS hv r vs' l2 h3 hl.2
  have hld:=nM hS h2 hl.1
  simp only [List.mapM_cons,o7,u0b hR hv h1]
  obtain⟨id,off,rfl⟩:=x0l h2
  have hadr:((asAddr (rv ρ (.pointer (some ⟨id,off,none⟩)))).run P w).andThen (fun a w'=>(loadVar ty a).run P w')= .ok (rv ρ v) w:=by
   simp only [rv,p6] at hld ⊢
   cases hid:ρ id with
   | none=>rw [hid] at hld; simp [Instr.loadAt,Instr.sureAddr,stuck,Sem.run] at hld
   | some b=>
    rw [hid] at hld
    simp only [A4,Instr.loadAt,Instr.sureAddr,pure_bind] at hld
    simp only [A4,asAddr,J4,p7]
    exact hld
  rw [hadr]
  simp only [p7]
  rw [ih]
  rfl
def a2u (n:Nat):Fn->Bool
 | .yield l=>zO1 l n
 | _=>true
mutual
def rD (n:Nat):Value->Bool
 | .pointer (some a)=>zO1 a.block n
 | .slice (some a) _ _=>zO1 a.block n && (match a.spot with | none=>true | some k=>zO1 k n)
 | .map (some r)=>zO1 r n
 | .func fn f c=>a2u n fn && lowA n f && lowA n c
 | .chan (some _)=>false
 | .complex _ _ _=>false
 | .iface _ v=>rD n v
 | .agg cs=>lowA n cs
 | .tuple vs=>lowA n vs
 | _=>true
def lowA (n:Nat):Array Value->Bool
 | ⟨l⟩=>lowL n l
def lowL (n:Nat):List Value->Bool
 | [] =>true
 | v ::l=>rD n v && lowL n l
end
def k2y (n:Nat):Heap->Bool
 | [] =>true
 | (i,o) ::r=>match zO1 i n with
  | false=>k2y n r
  | true=>match o with
   | .cells cs _=>lowL n cs && k2y n r
   | _=>k2y n r
def gcH (v:Value) (n:Nat) (h:Heap):Heap:=
 match k2y n h with
 | false=>h
 | true=>match pureV v with
  | true=>h.filter fun p=>zO1 p.1 n
  | false=>match a0k h 400 (d2h v []) [] with
   | keep=>h.filter fun p=>zO1 p.1 n || E9 p.1 keep
theorem aD (f:Nat->Bool):∀ (h:Heap) (i:Nat) (o:AObj),Heap.get (h.filter fun p=>f p.1) i=some o->Heap.get h i=some o
 | [],_,_,hi=>hi
 | (j,q) ::h,i,o,hi=>by
  rw [List.filter_cons] at hi
  rw [b6]
  split at hi
  ·rw [b6] at hi
   split at hi
   ·rename_i e; rw [i6 e]; exact hi
   ·rename_i e; rw [a8 e]; exact aD f h i o hi
  ·rename_i hb
   split
   ·rename_i e
    subst e
    exfalso
    have hlt:∀ (l:Heap) (o:AObj),Heap.get (l.filter fun p=>f p.1) j=some o->f j=true:=by
     intro l
     induction l with
     | nil=>intro o h; simp [Heap.get] at h
     | cons p l ihl=>
      obtain⟨k,q'⟩:=p
      intro o h
      rw [List.filter_cons] at h
      split at h
      ·rename_i hk
       rw [b6] at h
       split at h
       ·rename_i e; subst e; exact hk
       ·exact ihl o h
      ·exact ihl o h
    exact hb (hlt h o hi)
   ·exact aD f h i o hi
theorem p1a (v:Value) (n:Nat) (h:Heap):∀ i o,(gcH v n h).get i=some o->h.get i=some o:=by
 intro i o hi
 unfold gcH at hi
 split at hi
 ·exact hi
 ·split at hi
  ·exact aD (fun k=>zO1 k n) h i o hi
  ·exact aD (fun k=>zO1 k n || E9 k _) h i o hi
def U8:List Mk->Heap->Option Heap
 | [],H=>some H
 | .mark i ::r,H=>match H.get i with
  | some .defr=>U8 r (H.set i .dead)
  | _=>none
 | .call _ _ _ ::r,H=>U8 r H
def y1f (P:Program) (f:FuncId) (k:Nat):Prop:=
 ∀ (args:Array Value) (w:World),args.size=k->(callFunc f args).run P w= .ok (.enter f args) w∧
  ∃ w1,Below w.heap.size w w1∧CallsDIn Fence.wide 0 P f args .returning w fun e u' w'=>(∃ v,e= .returned v)∧u'= .returning∧w'=w1
def tY (P:Program):List Mk->List Prop->List Prop
 | [],l=>l
 | .mark _ ::r,l=>tY P r l
 | .call f cap args ::r,l=>y1f P f (args.length+cap.length) ::tY P r l
theorem gS {P:Program} :∀ {mks:List Mk} {l:List Prop},d9 (tY P mks l)->(∀ f cap args,Mk.call f cap args∈mks->y1f P f (args.length+cap.length))∧d9 l
 | [],l,h=>⟨(fun _ _ _ hm=>by cases hm),h⟩
 | .mark _ ::r,l,h=>by
  obtain⟨h1,h2⟩:=gS (mks:=r) h
  exact⟨fun f cap args hm=>h1 f cap args (by simpa using hm),h2⟩
 | .call f0 _ _ ::r,l,h=>by
  obtain⟨h1,h2⟩:=gS (mks:=r) h.2
  refine⟨fun f cap args hm=> ?_,h2⟩
  rcases zzA83.1 hm with e | hm
  ·cases e; exact h.1
  ·exact h1 f cap args hm
def s0u (X:Cx) (L:V0) (fuel:Nat) (f:FuncId) (args:List Value) (H:Heap) (n:Nat) (ds:List Bool):Option CR:=
 match h1h X.P.funcs.toList f with
 | none=>none
 | some fn=>match fn.body with
  | none=>none
  | some c=>match D9 X L fuel c ⟨args.map .v++zO6 (fn.ntmps-args.length) (.v undef),H,n,ds,[],0,none,[],n⟩ with
   | none=>none
   | some (x,⟨tm,hp,nid,ds',obs,_,_,mk,_⟩)=>match x with
    | .exit _=>none
    | _=>match Nat.ble n nid with
     | false=>none
     | true=>match U8 mk hp with
      | none=>none
      | some H'=>match L7 X.P X.auto tm H' fn.results.toList with
       | none=>none
       | some (vs,l)=>some ⟨N2 vs,gcH (N2 vs) n H',nid,tY X.P mk (l++obs),ds'⟩
theorem m0v (X:Cx) (L:V0) (fuel:Nat) (f:FuncId) (args:List Value) (H:Heap) (n:Nat) (ds:List Bool):s0u X L fuel f args H n ds=
  match X.P.funcs[f]? with
  | none=>none
  | some fn=>match fn.body with
   | none=>none
   | some c=>match D9 X L fuel c ⟨args.map .v++zO6 (fn.ntmps-args.length) (.v undef),H,n,ds,[],0,none,[],n⟩ with
    | none=>none
    | some (x,s)=>match x with
     | .exit _=>none
     | _=>match Nat.ble n s.nid with
      | false=>none
      | true=>match U8 s.mks s.heap with
       | none=>none
       | some H'=>match L7 X.P X.auto s.tmps H' fn.results.toList with
        | none=>none
        | some (vs,l)=>some ⟨N2 vs,gcH (N2 vs) n H',s.nid,tY X.P s.mks (l++s.obs),s.ds⟩:=by
 unfold s0u
 rw [U7,show X.P.funcs.toList[f]? =X.P.funcs[f]? by simp]
 cases X.P.funcs[f]? with
 | none=>rfl
 | some fn=>
  dsimp only
  cases fn.body with
  | none=>rfl
  | some c=>
   dsimp only
   generalize D9 X L fuel c _=z
   cases z with
   | none=>rfl
   | some p=>
    obtain⟨x,s⟩:=p
    cases x <;> rfl
theorem bQ {P:Program} {fn:Func} {tmps:Array Value} {R:Ending->World->Prop} {B:Nat} {M:Nat->Prop} :∀ (mks:List Mk) (H H':Heap) (w:World),(∀ f cap args,Mk.call f cap args∈mks->y1f P f (args.length+cap.length))->B<=w.heap.size->U8 mks H=some H'->∀ ρ,Sim P B M ρ H w->
  ∃ w',Keeps B M w w'∧(∀ ρ',(∀ i,H.get i=some .defr->ρ' i=ρ i)->Sim P B M ρ' H w->Sim P B M ρ' H' w')∧(LeavesInM Fence.wide 0 P fn tmps R [] .returning w'->LeavesInM Fence.wide 0 P fn tmps R (mks.map (mkD ρ)) .returning w)
 | [],H,H',w,_,_,h,ρ,hS=>by
  simp only [U8] at h
  cases h
  exact⟨w,Keeps.refl _ _ _,fun _ _ h=>h,fun h=>h⟩
 | .call f cap args ::r,H,H',w,hq,hB,h,ρ,hS=>by
  simp only [U8] at h
  obtain⟨q1,w1,q2,q3⟩:=hq f cap args (by simp) ((⟨rvL ρ args⟩:Array Value)++⟨rvL ρ cap⟩) w (by simp [l5])
  have hk:Keeps B M w w1:=⟨q2.os,q2.tape,q2.output,q2.size,fun k hk _=>q2.block k (B9 hk hB)⟩
  obtain⟨w',k1,k2,k3⟩:=bQ (fn:=fn) (tmps:=tmps) (R:=R) r H H' w1 (fun f cap args hm=>hq f cap args (W2 _ hm)) (u7 hB q2.size) h ρ (hS.below q2)
  refine⟨w',hk.trans k1,fun ρ' he hS'=>k2 ρ' he (hS'.below q2),fun hh=> ?_⟩
  simp only [j0y]
  refine⟨by simp, .inr ⟨(fun hd=>by cases hd), .func f,⟨rvL ρ cap⟩,f,_,rfl,q1,fun _ _=>trivial,?_⟩⟩
  refine⟨q3.1,fun c cs hu hro=> ?_⟩
  obtain⟨e,u',w2,fr,⟨⟨v,hv⟩,hu',hw'⟩,hs⟩:=q3.2 c cs hu hro
  subst hv hu' hw'
  exact⟨_,_,_,fr,k3 hh,hs⟩
 | .mark i ::r,H,H',w,hq,hB,h,ρ,hS=>by
  simp only [U8] at h
  split at h
  case h_2=>cases h
  rename_i hget
  have turn:∀ ρ',Sim P B M ρ' H w->∀ b,ρ' i=some b->w.heap[b]? =some (.deferred (some []))->(B<=b∨M b)->Sim P B M ρ' (H.set i .dead) (w.putObj b (.deferred none)):=fun ρ' hS' b hb hw hown=>
   hS'.turn hget rfl hb ⟨b,_,rfl,World.putObj_heap_same (i8 hw),hown⟩ (fun k hk=>b0d hk)
  obtain⟨b,hb,hw,hown⟩:=hS.obj i _ hget
  have hk:Keeps B M w (w.putObj b (.deferred none)):=
   ⟨rfl,rfl,rfl,by simp,fun k hk hm=>b0d (fun e=>by subst e; exact hown.elim (fun h=>by omega) (fun h=>hm h))⟩
  obtain⟨w',k1,k2,k3⟩:=bQ r _ H' _ (fun f cap args hm=>hq f cap args (W2 _ hm)) (by simpa using hB) h ρ (turn ρ hS b hb hw hown)
  refine⟨w',hk.trans k1,fun ρ' he hS'=>k2 ρ' (fun j hj=> ?_) (turn ρ' hS' b ((he i hget).trans hb) hw hown),fun hh=> ?_⟩
  ·rw [m0 H i .dead .defr hget] at hj
   split at hj
   ·cases hj
   ·exact he j hj
  ·simp only [j0y,mkD,hb,W4]
   exact⟨by simp, .inl ⟨b,_,rfl,run_takeDeferred hw,k3 hh⟩⟩
theorem g2q {ts:List Value} {k t:Nat} {x:Value} (h:x4 (ts.map .v++zO6 k (.v undef)) t= .v x) (ρ:Num):(((⟨rvL ρ ts⟩:Array Value)++Array.replicate k undef)).getD t undef=rv ρ x:=by
 simp only [E1] at h
 rw [Array.getD_eq_getD_getElem?]
 have e:((⟨rvL ρ ts⟩:Array Value)++Array.replicate k undef)[t]? =(rvL ρ ts++zO6 k undef)[t]? :=by
  rw [<- Array.getElem?_toList]
  simp
 rw [e]
 by_cases ht:t < ts.length
 ·rw [y0i (by simpa using ht)] at h
  rw [y0i (by rw [l5]; simpa using ht)]
  simp only [N6,l5] at h ⊢
  have hs:ts[t]? =some ts[t] :=by simp [ht]
  rw [hs] at h ⊢
  simp only [A4,W4] at h ⊢
  cases h
  rfl
 ·rw [x0b (by simpa using ht)] at h
  rw [x0b (by rw [l5]; simpa using ht)]
  simp only [l5,z6] at h ⊢
  by_cases hk:t-ts.length < k
  ·rw [s0e,i6 hk] at h ⊢
   simp only [W4] at h ⊢
   cases h
   rw [T9]
  ·rw [s0e,a8 hk] at h
   cases h
theorem n0z {P:Program} {fn:Func} {tmps:Array Value} {w:World} {vs:List Value} (h:(fn.results.toList.mapM fun (r:ResultVar)=>(match r with | .tmp t=>pure (tmps.getD t undef) | .cell p ty=>do loadVar ty (<- asAddr (tmps.getD p undef)):Sem Value)).run P w= .ok vs w):
  (results fn tmps).run P w= .ok (N2 vs) w:=by
 unfold results
 rw [Array.mapM_eq_mapM_toList,o7,Sem.run_map]
 refine Eq.trans (G7 (fun r:Result (List Value)=>(r.andThen fun a w'=> .ok a.toArray w').andThen fun (a:Array Value) w'=>Sem.run P (pure (if h:a.size=1 then a[0] else Value.tuple a)) w') h) ?_
 simp only [p7,J4]
 congr 1
 cases vs with
 | nil=>rfl
 | cons v vs=>
  cases vs with
  | nil=>rfl
  | cons u vs=>rfl
theorem L4 {X:Cx} {L:V0} (hX:CxOk X X.J) (hm:X.P.follows .mixedOrders=true) {fuel f n:Nat} {args:List Value} {H:Heap} {ds:List Bool} {r:CR} (h:s0u X L fuel f args H n ds=some r) (hl:d9 r.obs)
  {B:Nat} {M:Nat->Prop} {ρ:Num} {w:World} {vs:List Value} (hp:Par X.P B M) (hB:B<=w.heap.size) (hI:X.J.I w) (hS:∀ ρ',Agree n ρ ρ'->Sim X.P B M ρ' H w∧vs=rvL ρ' args):
  n<=r.n∧Calls X.P f ⟨vs⟩ w fun e w'=>∃ ρ1 v,Agree n ρ ρ1∧e= .returned v∧Keeps B M w w'∧∀ ρ',Agree r.n ρ1 ρ'->v=rv ρ' r.v∧Sim X.P B M ρ' r.h w':=by
 rw [m0v] at h
 split at h
 case h_1=>cases h
 rename_i fn hfn
 split at h
 case h_1=>cases h
 rename_i c hc
 split at h
 case h_1=>cases h
 rename_i x s hcode
 have key:(∀ id,x≠ .exit id)->∀ (hn:n<=s.nid) (H':Heap) (us:List Value) (l:List Prop),U8 s.mks s.heap=some H'->L7 X.P X.auto s.tmps H' fn.results.toList=some (us,l)->r=⟨N2 us,gcH (N2 us) n H',s.nid,tY X.P s.mks (l++s.obs),s.ds⟩->
   Calls X.P f ⟨vs⟩ w fun e w'=>∃ ρ1 v,Agree n ρ ρ1∧e= .returned v∧Keeps B M w w'∧∀ ρ',Agree r.n ρ1 ρ'->v=rv ρ' r.v∧Sim X.P B M ρ' r.h w':=by
  intro hne hn H' us l hkill hres hr
  subst hr
  obtain⟨hqu,hl⟩:=gS hl
  rw [m3] at hl
  refine callsIn_wide.1 (callsIn_of_wp_marks (n:=0) hfn hc trivial ?_)
  have hR0:Rep X.P X.J B M ⟨w,n,ρ,[]⟩ none ⟨args.map .v++zO6 (fn.ntmps-args.length) (.v undef),H,n,ds,[],0,none,[],n⟩ { tmps:=(⟨vs⟩:Array Value)++Array.replicate (fn.ntmps- (⟨vs⟩:Array Value).size) undef,defers:=[]} w:=by
   have hlen:vs.length=args.length:=by rw [(hS ρ (Agree.refl _ _)).2,l5]; simp
   refine⟨rfl,fun t=> ?_,by simp [hlen],hB,hI,Keeps.refl _ _ _,ρ,⟨d5 _,Agree.refl _ _⟩,fun ρ' ha=>⟨(hS ρ' ha).1,⟨rfl,rfl⟩,fun t x hx=> ?_⟩⟩
   ·simp only [E1]
    rcases hgt:(args.map TV.v++zO6 (fn.ntmps-args.length) (TV.v undef))[t]? with _ | tv
    ·rfl
    ·have hmem:=a0j hgt
     simp only [zzA91,zzA41,List.mem_replicate] at hmem
     rcases hmem with ⟨y,_,rfl⟩ | ⟨_,rfl⟩ <;> rfl
   ·have:=g2q hx ρ'
    rw [<- (hS ρ' ha).2] at this
    simpa [hlen] using this
  refine bU (rb:=none) hX hm hp fuel c _ x s hcode hl.2 _ w hR0 _ (fun a' w' hR'=> ?_)
  obtain⟨ρ2,hρ20,hρ2⟩:=hR'.rep
  have hfin:∀ R:Ending->World->Prop,(∀ e w',(∃ ρ1 v,Agree n ρ ρ1∧e= .returned v∧Keeps B M w w'∧∀ ρ',Agree s.nid ρ1 ρ'->v=rv ρ' (N2 us)∧Sim X.P B M ρ' (gcH (N2 us) n H') w')->R e w')->LeavesInM Fence.wide 0 X.P fn a'.tmps R a'.defers .returning w':=by
   intro R hRR
   obtain⟨hS2,hF2,hv2⟩:=hρ2 ρ2 (Agree.refl _ _)
   obtain⟨w2,k1,k2,k3⟩:=bQ (fn:=fn) (tmps:=a'.tmps) (R:=R) s.mks _ H' w' hqu hR'.base hkill ρ2 hS2
   rw [hF2.defers]
   refine k3 ?_
   have hsim:∀ ρ',Agree s.nid ρ2 ρ'->Sim X.P B M ρ' H' w2:=fun ρ' ha=>by
    refine k2 ρ' (fun i hi=> ?_) (hρ2 ρ' ha).1
    exact ha i ((hR'.known hi).elim id (fun h=>by rcases h with ⟨_,_,h⟩ | ⟨_,h⟩ | ⟨_,_,_,_,h⟩ | ⟨_,_,_,_,h⟩ <;> cases h))
   have each:∀ ρ',Agree s.nid ρ2 ρ'->(results fn a'.tmps).run X.P w2= .ok (rv ρ' (N2 us)) w2:=fun ρ' ha=>by
    have:=n0z (U3 hR'.plain (hsim ρ' ha) (hρ2 ρ' ha).2.2 _ us l hres hl.1)
    rw [this]
    congr 1
    cases us with
    | nil=>simp [N2,rvL,rv,rvA]
    | cons u us=>
     cases us with
     | nil=>simp [N2,rvL]
     | cons u2 us=>simp [N2,rvL,rv,rvA]
   have e0:=each ρ2 (Agree.refl _ _)
   refine⟨_,e0,hRR _ _ ⟨ρ2,_,hρ20.2,rfl,hR'.keeps.trans k1,fun ρ' ha=>⟨?_,(hsim ρ' ha).less (p1a _ _ _)⟩⟩⟩
   have e1:=each ρ' ha
   rw [e0] at e1
   injection e1
  cases x with
  | normal=>exact hfin _ (fun _ _ h=>h)
  | ret=>exact hfin _ (fun _ _ h=>h)
  | exit id=>exact absurd rfl (hne id)
 have fin:(∀ id,x≠ .exit id)->(match Nat.ble n s.nid with
     | false=>none
     | true=>match U8 s.mks s.heap with
      | none=>none
      | some H'=>match L7 X.P X.auto s.tmps H' fn.results.toList with
       | none=>none
       | some (vs,l)=>some (⟨N2 vs,gcH (N2 vs) n H',s.nid,tY X.P s.mks (l++s.obs),s.ds⟩:CR))=some r->
   n<=r.n∧Calls X.P f ⟨vs⟩ w fun e w'=>∃ ρ1 v,Agree n ρ ρ1∧e= .returned v∧Keeps B M w w'∧∀ ρ',Agree r.n ρ1 ρ'->v=rv ρ' r.v∧Sim X.P B M ρ' r.h w':=by
  intro hne h
  split at h
  ·cases h
  rename_i hb
  have hn:=fX hb
  split at h
  case h_1=>cases h
  rename_i H' hkill
  split at h
  case h_1=>cases h
  rename_i us l hres
  have hr:=(J8 h).symm
  refine⟨by rw [hr]; exact hn,key hne hn H' us l hkill hres hr⟩
 cases x with
 | normal=>exact fin (fun _ e=>by cases e) h
 | ret=>exact fin (fun _ e=>by cases e) h
 | exit id=>cases h
end
noncomputable section
def b7 (X:Cx) (L:V0) (fuel:Nat) (f:FuncId) (args:List Value) (ds:List Bool):Option (Value×List Prop):=
 match pureL args with
 | false=>none
 | true=>match s0u X L fuel f args X.J.tabs X.P.globals.size ds with
  | none=>none
  | some r=>match pureV r.v with
   | true=>some (r.v,r.obs)
   | false=>none
abbrev Tab:=FuncId->List Value->Option (Value×List Prop)
abbrev qV:=FuncId->List Value->Heap->Nat->List Bool->Option CR
structure Base where
 P:Program
 J:Inv P
 auto:Bool
 tab:Tab
 mtab:qV
 fuel:Nat
 xt:FuncId->List Value->Heap->Nat->Option CR
def Base.cx (b:Base):Nat->Cx
 | 0=>⟨b.P,b.J,b.auto,b.tab,b.mtab,b.xt,fun _ _=>none,b.auto⟩
 | k+1=>⟨b.P,b.J,b.auto,
   fun f args=>match b.tab f args with
    | some r=>some r
    | none=>match b.mtab f args [] 0 [] with
     | some _=>none
     | none=>b7 (b.cx k) [] b.fuel f args [],
   fun f args H n ds=>match b.mtab f args H n ds with
    | some r=>some r
    | none=>s0u (b.cx k) [] b.fuel f args H n ds,
   b.xt,
   fun c s=>D9 (b.cx k) [] b.fuel c s,b.auto⟩
def Base.cxl (b:Base) (k:Nat):Cx:=⟨(b.cx k).P,(b.cx k).J,(b.cx k).auto,(b.cx k).pc,(b.cx k).cl,(b.cx k).xt,(b.cx k).rd,true⟩
structure ProgOk (P:Program):Prop where
 mixed:P.follows .mixedOrders=true
 names:∀ (f:FuncId) (fn:Func),P.funcs[f]? =some fn->(fn.name== "runtime.NumGoroutine")=false
structure BaseOk (b:Base):Prop where
 prog:ProgOk b.P
 tab:R8 b.P b.J b.tab
 mtab:qZ b.P b.J b.mtab
 xt:e2b b.P b.J b.xt
theorem G5 {X:Cx} (hng:ProgOk X.P) {L:V0} {fuel f n:Nat} {args:List Value} {H:Heap} {ds:List Bool} {r:CR} (h:s0u X L fuel f args H n ds=some r):Enters X.P f:=by
 rw [m0v] at h
 split at h
 case h_1=>cases h
 rename_i fn hfn
 split at h
 case h_1=>cases h
 rename_i c hc
 exact enters_of hfn (hng.names f fn hfn) hc
theorem r1x {X:Cx} {L:V0} {fuel f n:Nat} {args:List Value} {H:Heap} {ds:List Bool} {r:CR} (h:s0u X L fuel f args H n ds=some r):n<=r.n:=by
 rw [m0v] at h
 split at h
 ·cases h
 split at h
 ·cases h
 split at h
 ·cases h
 split at h
 ·cases h
 split at h
 ·cases h
 rename_i hb
 split at h
 ·cases h
 split at h
 ·cases h
 cases h
 exact fX hb
theorem F7 {X:Cx} (hX:CxOk X X.J) (hng:ProgOk X.P) {L:V0} {fuel f:Nat} {args:List Value} {ds:List Bool} {v:Value} {l:List Prop} (h:b7 X L fuel f args ds=some (v,l)) (hl:d9 l):
  Pure X.P X.J f args v:=by
 unfold b7 at h
 split at h
 case h_1=>cases h
 rename_i hpa
 split at h
 case h_1=>cases h
 rename_i r hr
 split at h
 case h_2=>cases h
 rename_i hpv
 cases h
 refine⟨hpa,hpv, .inl ⟨G5 hng hr,fun w hI=> ?_⟩⟩
 have hp:Par X.P w.heap.size (fun _=>False):=⟨X.J.room w hI,fun _ _ h=>h⟩
 have:=(L4 hX hng.mixed hr hl (ρ:=fun i=>if i < X.P.globals.size then some i else none) (vs:=args) hp (d5 _) hI (fun ρ' ha=>⟨X.J.tabsOk w ρ' _ _ hI (fun g hg=>by rw [ha g hg]; simp [hg]),(rvL_pure ρ' args hpa).symm⟩)).2
 refine this.mono fun e w' ⟨ρ1,u,_,he,hk,hfin⟩=>⟨?_,hk.below⟩
 have:=(hfin ρ1 (Agree.refl _ _)).1
 rw [A1 ρ1 _ hpv] at this
 rw [he,this]
theorem a6 {b:Base} (hb:BaseOk b):∀ k,CxOk (b.cx k) (b.cx k).J∧ProgOk (b.cx k).P
 | 0=>⟨⟨hb.tab,hb.mtab,hb.xt,(fun _ _ _ _ h=>by cases h),b.J.tabsOk,b.J.tabsRo⟩,hb.prog⟩
 | k+1=>by
  obtain⟨ih,hng⟩:=a6 hb k
  have eP:(b.cx k).P=b.P:=by cases k <;> rfl
  refine⟨⟨fun f args v l h hl=> ?_,fun f args H n ds r h hl=> ?_,hb.xt,fun c s x s' h hl=>⟨V4 _ _ _ _ _ h hl,?_⟩,b.J.tabsOk,b.J.tabsRo⟩,hb.prog⟩
  ·simp only [Base.cx] at h
   split at h
   ·rename_i r hr
    cases h
    exact hb.tab f args v l hr hl
   ·split at h
    ·cases h
    have:=F7 ih hng h hl
    clear ih hng h
    cases k with
    | zero=>exact this
    | succ k=>exact this
  ·simp only [Base.cx] at h
   split at h
   ·rename_i r' hr
    cases h
    exact hb.mtab f args H n ds r hr hl
   ·have h1:=r1x h
    have h2:=G5 hng h
    have h3:=fun (B:Nat) (M:Nat->Prop) (ρ:Num) (w:World) (vs:List Value) hp hB hI hS=>(L4 ih hng.mixed h hl (B:=B) (M:=M) (ρ:=ρ) (w:=w) (vs:=vs) hp hB hI hS).2
    clear ih hng h
    cases k with
    | zero=>exact⟨h1,h2,h3⟩
    | succ k=>exact⟨h1,h2,h3⟩
  ·have h1:=fun (B:Nat) (M:Nat->Prop) (w0:Bas) (rb:Option Nat) (a:Act) (w:World) hp hR Q hQ=>bU ih hng.mixed (B:=B) (M:=M) (w0:=w0) (rb:=rb) hp _ _ _ _ _ h hl a w hR Q hQ
   clear ih hng h
   cases k with
   | zero=>exact h1
   | succ k=>exact h1
theorem g9 {b:Base} (hb:BaseOk b) (k:Nat) (L:V0) (ds:List Bool) {f:FuncId} {args:List Value} {v:Value} {l:List Prop} (h:b7 (b.cx k) L b.fuel f args ds=some (v,l)) (hl:d9 l):Pure b.P b.J f args v:=by
 obtain⟨h1,h2⟩:=a6 hb k
 have:=F7 h1 h2 h hl
 clear h1 h2 h
 cases k with
 | zero=>exact this
 | succ k=>exact this
def z1h:Tab:=fun _ _=>none
def D1:qV:=fun _ _ _ _ _=>none
def xt0:FuncId->List Value->Heap->Nat->Option CR:=fun _ _ _ _=>none
theorem i2m (P:Program) (J:Inv P):e2b P J xt0:=fun _ _ _ _ _ h=>by cases h
def m1u (f:FuncId) (spec:List Value->Heap->Nat->Option CR) (t:FuncId->List Value->Heap->Nat->Option CR):FuncId->List Value->Heap->Nat->Option CR:=fun g args H n=>
 match zO0 g f with
 | true=>spec args H n
 | false=>t g args H n
def l2o (P:Program) (J:Inv P) (f:FuncId) (spec:List Value->Heap->Nat->Option CR):Prop:=
 ∀ args H n r,spec args H n=some r->d9 r.obs->n<=r.n∧∀ (B:Nat) (M:Nat->Prop) (ρ:Num) (w:World) (vs:List Value),Par P B M->B<=w.heap.size->J.I w->
  (∀ ρ',Agree n ρ ρ'->Sim P B M ρ' H w∧vs=rvL ρ' args)->
  ∃ ρ1 v w',Agree n ρ ρ1∧(callFunc f ⟨vs⟩).run P w= .ok (.value v) w'∧Keeps B M w w'∧∀ ρ',Agree r.n ρ1 ρ'->v=rv ρ' r.v∧Sim P B M ρ' r.h w'
theorem t0m {P:Program} {J:Inv P} {f:FuncId} {spec:List Value->Heap->Nat->Option CR} {t:FuncId->List Value->Heap->Nat->Option CR} (h:l2o P J f spec) (ht:e2b P J t):e2b P J (m1u f spec t):=by
 intro g args H n r hs hl
 unfold m1u at hs
 split at hs
 ·rename_i hg
  have:=N8 hg
  subst this
  exact h args H n r hs hl
 ·exact ht g args H n r hs hl
theorem gJ (P:Program) (J:Inv P):R8 P J z1h:=fun _ _ _ _ h=>by cases h
theorem n8 (P:Program) (J:Inv P):qZ P J D1:=fun _ _ _ _ _ _ h=>by cases h
def l7 (f:FuncId) (spec:List Value->Option (Value×List Prop)) (t:Tab):Tab:=fun g args=>
 match zO0 g f with
 | true=>spec args
 | false=>t g args
theorem b8 {P:Program} {J:Inv P} {f:FuncId} {spec:List Value->Option (Value×List Prop)} {t:Tab} (h:∀ args v l,spec args=some (v,l)->d9 l->Pure P J f args v) (ht:R8 P J t):R8 P J (l7 f spec t):=by
 intro g args v l hs hl
 unfold l7 at hs
 split at hs
 ·rename_i hg
  have:=N8 hg
  subst this
  exact h args v l hs hl
 ·exact ht g args v l hs hl
end
noncomputable section
theorem b2h {ρ ρ':Num} {n:Nat} (h:Agree n ρ ρ') (f:Fn) (hf:a2u n f=true):rFn ρ' f=rFn ρ f:=by
 cases f <;> first | rfl | skip
 rename_i l
 simp only [a2u,C0] at hf
 simp only [rFn,h l hf]
mutual
theorem o0q {n:Nat} :∀ v:Value,rD n v=true->noE v=true
 | .chan (some _),h=>by simp only [rD] at h; cases h
 | .chan none,_=>by simp only [noE]
 | .func _ f c,h=>by
   simp only [rD,u6] at h
   simp only [noE,low_noEA f h.1.2,low_noEA c h.2,j0m]
 | .iface _ v,h=>by simp only [rD] at h; simp only [noE]; exact o0q v h
 | .agg cs,h=>by simp only [rD] at h; simp only [noE]; exact low_noEA cs h
 | .tuple vs,h=>by simp only [rD] at h; simp only [noE]; exact low_noEA vs h
 | .bool _,_=>by simp only [noE]
 | .int _ _,_=>by simp only [noE]
 | .float _ _,_=>by simp only [noE]
 | .complex _ _ _,h=>by simp only [rD] at h; cases h
 | .string _,_=>by simp only [noE]
 | .pointer _,_=>by simp only [noE]
 | .slice _ _ _,_=>by simp only [noE]
 | .map _,_=>by simp only [noE]
 | .nilFunc,_=>by simp only [noE]
 | .nilIface,_=>by simp only [noE]
theorem low_noEA {n:Nat} :∀ v:Array Value,lowA n v=true->noEA v=true
 | ⟨l⟩,h=>by simp only [lowA] at h; simp only [noEA]; exact low_noEL l h
theorem low_noEL {n:Nat} :∀ v:List Value,lowL n v=true->noEL v=true
 | [],_=>by simp only [noEL]
 | v ::l,h=>by
   simp only [lowL,u6] at h
   simp only [noEL,o0q v h.1,low_noEL l h.2,j0m]
end
mutual
theorem s0r {ρ ρ':Num} {n:Nat} (h:Agree n ρ ρ'):∀ v:Value,rD n v=true->rv ρ' v=rv ρ v
 | .pointer (some a),hv=>by simp only [rD,C0] at hv; simp only [rv,p6,h _ hv]
 | .slice (some ⟨j,off,none⟩) _ _,hv=>by simp only [rD,j0m,C0] at hv; simp only [rv,rSl,p6,h _ hv]
 | .slice (some ⟨j,off,some k⟩) _ _,hv=>by simp only [rD,u6,C0] at hv; simp only [rv,rSl,h _ hv.1,h _ hv.2]
 | .map (some r),hv=>by simp only [rD,C0] at hv; simp only [rv,h _ hv]
 | .func fn f c,hv=>by
   simp only [rD,u6] at hv
   simp only [rv,b2h h fn hv.1.1,rvA_low h f hv.1.2,rvA_low h c hv.2]
 | .iface t v,hv=>by simp only [rD] at hv; simp only [rv,s0r h v hv]
 | .agg cs,hv=>by simp only [rD] at hv; simp only [rv,rvA_low h cs hv]
 | .tuple vs,hv=>by simp only [rD] at hv; simp only [rv,rvA_low h vs hv]
 | .bool _,_=>by simp only [rv]
 | .int _ _,_=>by simp only [rv]
 | .float _ _,_=>by simp only [rv]
 | .complex _ _ _,h=>by simp only [rD] at h; cases h
 | .string _,_=>by simp only [rv]
 | .pointer none,_=>by simp only [rv]
 | .slice none _ _,_=>by simp only [rv]
 | .map none,_=>by simp only [rv]
 | .chan none,_=>by simp only [rv]
 | .chan (some m),hv=>by simp only [rD] at hv; cases hv
 | .nilFunc,_=>by simp only [rv]
 | .nilIface,_=>by simp only [rv]
theorem rvA_low {ρ ρ':Num} {n:Nat} (h:Agree n ρ ρ'):∀ v:Array Value,lowA n v=true->rvA ρ' v=rvA ρ v
 | ⟨l⟩,hv=>by simp only [lowA] at hv; simp only [rvA,rvL_low h l hv]
theorem rvL_low {ρ ρ':Num} {n:Nat} (h:Agree n ρ ρ'):∀ v:List Value,lowL n v=true->rvL ρ' v=rvL ρ v
 | [],_=>by simp only [rvL]
 | v ::l,hv=>by
   simp only [lowL,u6] at hv
   simp only [rvL,s0r h v hv.1,rvL_low h l hv.2]
end
structure Pairs where
 xs:List Value
 ys:List Value
 os:List AObj
 qs:List AObj
def Pairs.add (a b:Pairs):Pairs:=⟨a.xs++b.xs,a.ys++b.ys,a.os++b.os,a.qs++b.qs⟩
def t0y (σ:Ren) (n:Nat):List TV->List TV->Option (List Value×List Value)
 | [],[] =>some ([],[])
 | _ ::ys, .unk ::zs=>t0y σ n ys zs
 | .v x ::ys, .v x' ::zs=>match x' with
  | .complex _ a' b'=>match x with
   | .complex _ a b=>match zO0 (σ.to (a'/18446744073709551616)) (a/18446744073709551616) && zO0 (σ.to (a'%18446744073709551616)) (a%18446744073709551616) && zO1 (a'/18446744073709551616) n && zO1 (a'%18446744073709551616) n,t0y σ n ys zs with
    | true,some (l,l')=>some (.int .u8 b ::l, .int .u8 b' ::l')
    | _,_=>none
   | _=>none
  | x'=>match rD n x',t0y σ n ys zs with
   | true,some (l,l')=>some (x ::l,rn σ x' ::l')
   | _,_=>none
 | _,_=>none
def y0k (b:Nat):List (Option Value)->Bool
 | [] =>true
 | some x ::r=>rD b x && y0k b r
 | none ::r=>y0k b r
def i0k (σ:Ren) (n:Nat):Row->Row->Option Pairs
 | .vals xs, .vals xs'=>match lowL n xs' && zO0 xs.length xs'.length with
  | true=>some ⟨xs,rnL σ xs',[],[]⟩
  | false=>none
 | .ints k ns, .ints k' ns'=>some ⟨[],[],[.ints k ns],[.ints k' ns']⟩
 | .vals xs, .fam f m=>match pureL xs with
  | true=>some ⟨[],[],[.ro xs],[.ro (rA f m)]⟩
  | false=>none
 | .ints .u8 ns, .bytes l=>some ⟨[],[],[.ints .u8 ns],[.ints .u8 (V5 l)]⟩
 | .bytes l, .bytes l'=>some ⟨[],[],[.ro (Row.bytes l).list],[.ro (Row.bytes l').list]⟩
 | .fam f m, .fam f' m'=>some ⟨[],[],[.ro (rA f m)],[.ro (rA f' m')]⟩
 | _,_=>none
def xV (b:Nat) (σ:Ren) (n:Nat):AObj->AObj->Option Pairs
 | .row e sz r k, .row e' sz' r' k'=>match zO0 e e' && zO0 sz sz' && zO0 (σ.to k') k && zO1 k' n with
  | true=>i0k σ n r r'
  | false=>none
 | .cells cs t, .cells cs' t'=>match zO0 t t' && lowL n cs' && zO0 cs.length cs'.length with
  | true=>some ⟨cs,rnL σ cs',[],[]⟩
  | false=>none
 | .iter s p, .iter s' p'=>some ⟨[],[],[.iter s p],[.iter s' p']⟩
 | .ints k xs, .ints k' xs'=>some ⟨[],[],[.ints k xs],[.ints k' xs']⟩
 | .fam f m sz o, .fam f' m' sz' o'=>some ⟨[],[],[.fam f m sz o],[.fam f' m' sz' o']⟩
 | .loop st pn ts ps asg bd, .loop st' pn' ts' ps' asg' bd'=>match y0k b ts' with
  | true=>some ⟨[],[],[.loop st pn ts ps asg bd],[.loop st' pn' ts' ps' asg' bd']⟩
  | false=>none
 | .defr, .defr=>some ⟨[],[],[],[]⟩
 | .dead, .dead=>some ⟨[],[],[],[]⟩
 | _,_=>none
def l2h (σ:Ren) (i:Nat):Heap->Bool
 | [] =>true
 | (j,_) ::r=> !(zO0 (σ.to i) (σ.to j)) && l2h σ i r
def l2l (b:Nat) (σ:Ren) (n:Nat) (H:Heap):Heap->Option Pairs
 | [] =>some ⟨[],[],[],[]⟩
 | (i,o') ::r=>match H.get (σ.to i),zO1 i n,l2h σ i r with
  | some o,true,true=>match xV b σ n o o',l2l b σ n H r with
   | some l,some l'=>some (l.add l')
   | _,_=>none
  | _,_,_=>none
def q1o (σ:Ren):List Nat->Bool
 | [] =>true
 | i ::r=>zO0 (σ.to i) i && q1o σ r
def eqO:Option Nat->Option Nat->Bool
 | none,none=>true
 | some i,some j=>zO0 i j
 | _,_=>false
def qW (b:Nat):Ren->Bool
 | [] =>true
 | (j,_) ::r=>Nat.ble b j && qW b r
def gE:List Mk->Option (List Nat)
 | [] =>some []
 | .mark i ::r=>match gE r with
  | some l=>some (i ::l)
  | none=>none
 | .call _ _ _ ::_=>none
theorem cM:∀ {l:List Mk} {m:List Nat},gE l=some m->l=m.map .mark
 | [],m,h=>by simp only [gE] at h; cases h; rfl
 | .mark i ::r,m,h=>by
  simp only [gE] at h
  split at h
  ·rename_i l hl
   cases h
   rw [j0y,<- cM hl]
  ·cases h
 | .call _ _ _ ::_,m,h=>by simp only [gE] at h; cases h
def fit (P:Program) (σ:Ren) (s s':St):Option Pairs:=
 match s,s' with
 | ⟨tm,hp,_,_,_,_,rd,mk,bs⟩,⟨tm',hp',n',_,_,_,rd',mk',bs'⟩=>match gE mk,gE mk' with
  | some mq,some mq'=>
   match qW bs σ && q1o σ mq && e1j mq mq' && eqO rd rd' && zO0 bs bs' && Nat.ble bs n' && Nat.ble P.globals.size bs && mq.all (fun i=>zO1 i n') && (match rd with | some l=>zO1 l bs | none=>true) with
   | false=>none
   | true=>match t0y σ n' tm tm',l2l bs σ n' hp hp' with
    | some (l,l'),some q=>some ⟨l++q.xs,l'++q.ys,q.os,q.qs⟩
    | _,_=>none
  | _,_=>none
theorem fO {b:Nat} :∀ {σ:Ren},qW b σ=true->∀ i,i < b->σ.to i=i
 | [],_,i,_=>rfl
 | (j,k) ::r,h,i,hi=>by
  simp only [qW,u6,H7] at h
  simp only [Ren.to]
  rw [sI (by omega)]
  exact fO h.2 i hi
theorem a0b {σ:Ren} :∀ {l:List Nat},q1o σ l=true->∀ i∈l,σ.to i=i
 | [],_,i,hi=>by cases hi
 | j ::r,h,i,hi=>by
  simp only [q1o,u6,y4] at h
  rcases zzA83.1 hi with rfl | hi
  ·exact h.1
  ·exact a0b h.2 i hi
theorem l0e:∀ {l l':List Nat},e1j l l'=true->l=l'
 | [],[],_=>rfl
 | [],_ ::_,h=>by simp [e1j] at h
 | _ ::_,[],h=>by simp [e1j] at h
 | i ::r,j ::r',h=>by
  simp only [e1j,u6,y4] at h
  rw [h.1,l0e h.2]
theorem n1d {a b:Option Nat} (h:eqO a b=true):a=b:=by
 cases a <;> cases b <;> simp_all [eqO]
theorem jI {σ:Ren} {n:Nat} :∀ {ts ts':List TV} {l l':List Value},t0y σ n ts ts'=some (l,l')->l.length=l'.length∧(l=l'->ts'.length=ts.length∧(∀ t,yI (x4 ts' t)=true)∧∀ t x',x4 ts' t= .v x'->∃ x,x4 ts t= .v x∧∀ ρ ρ':Num,Agree n (fun i=>ρ (σ.to i)) ρ'->rv ρ' x'=rv ρ x)
 | [],[],l,l',h=>by
  simp only [t0y] at h; cases h
  exact⟨rfl,fun _=>⟨rfl,fun t=>by simp [E1,yI],fun t x' h=>by simp [E1] at h⟩⟩
 | [],z ::zs,l,l',h=>by cases z <;> simp [t0y] at h
 | y ::ys,[],l,l',h=>by cases y <;> simp [t0y] at h
 | y ::ys,z ::zs,l,l',h=>by
  have get0:∀ (u:TV) (us:List TV),x4 (u ::us) 0=u:=fun u us=>rfl
  have getS:∀ (u:TV) (us:List TV) (t:Nat),x4 (u ::us) (t+1)=x4 us t:=fun u us t=>by simp [E1]
  cases z with
  | unk=>
   have h:t0y σ n ys zs=some (l,l'):=by cases y <;> simpa [t0y] using h
   obtain⟨h0,hh⟩:=jI h
   refine⟨h0,fun he=> ?_⟩
   obtain⟨h1,h2,h3⟩:=hh he
   refine⟨by simp [h1],fun t=> ?_,fun t x' hx=> ?_⟩
   ·cases t with
    | zero=>rfl
    | succ t=>rw [getS]; exact h2 t
   ·cases t with
    | zero=>rw [get0] at hx; cases hx
    | succ t=>rw [getS] at hx ⊢; exact h3 t x' hx
  | v x0=>
   cases y with
   | v y0=>
    simp only [t0y] at h
    split at h
    ·rename_i kk a' b'
     split at h
     case h_2=>cases h
     rename_i kq a b
     split at h
     ·rename_i l0 l0' hck hr
      cases h
      simp only [u6,y4,C0] at hck
      obtain⟨⟨⟨q1,q2⟩,q3⟩,q4⟩:=hck
      obtain⟨h0,hh⟩:=jI hr
      refine⟨by simp [h0],fun he=> ?_⟩
      injection he with e1 e2
      injection e1 with _ e1
      have e1:b=b':=zO2.inj e1
      obtain⟨h1,h2,h3⟩:=hh e2
      refine⟨by simp [h1],fun t=> ?_,fun t x' hx=> ?_⟩
      ·cases t with
       | zero=>rfl
       | succ t=>rw [getS]; exact h2 t
      ·cases t with
       | zero=>
        rw [get0] at hx ⊢
        cases hx
        refine⟨_,rfl,fun ρ ρ' ha=> ?_⟩
        simp only [rv,d2m]
        rw [ha _ q3,ha _ q4,e1]
        show t1y (ρ (σ.to (a'/18446744073709551616))) (ρ (σ.to (a'%18446744073709551616))) b' 1 1=_
        rw [q1,q2]
       | succ t=>rw [getS] at hx ⊢; exact h3 t x' hx
     ·cases h
    split at h
    ·rename_i l0 l0' hlow hr
     cases h
     obtain⟨h0,hh⟩:=jI hr
     refine⟨by simp [h0],fun he=> ?_⟩
     injection he with e1 e2
     obtain⟨h1,h2,h3⟩:=hh e2
     refine⟨by simp [h1],fun t=> ?_,fun t x' hx=> ?_⟩
     ·cases t with
      | zero=>rfl
      | succ t=>rw [getS]; exact h2 t
     ·cases t with
      | zero=>
       rw [get0] at hx ⊢
       cases hx
       refine⟨_,rfl,fun ρ ρ' ha=> ?_⟩
       rw [s0r ha _ hlow,<- z1b _ _ _ (o0q _ hlow),e1]
      | succ t=>rw [getS] at hx ⊢; exact h3 t x' hx
    ·cases h
   | _=>simp [t0y] at h
  | sp l0 x0=>cases y <;> simp [t0y] at h
  | key j l0 b=>cases y <;> simp [t0y] at h
theorem mL {b:Nat} :∀ {ts:List (Option Value)},y0k b ts=true->∀ (t:Nat) (x:Value),ts[t]? =some (some x)->rD b x=true
 | [],_,t,x,h=>by simp at h
 | some y ::r,h,t,x,hx=>by
  simp only [y0k,u6] at h
  cases t with
  | zero=>simp at hx; subst hx; exact h.1
  | succ t=>exact mL h.2 t x (by simpa using hx)
 | none ::r,h,t,x,hx=>by
  simp only [y0k] at h
  cases t with
  | zero=>simp at hx
  | succ t=>exact mL h t x (by simpa using hx)
theorem p0t {σ:Ren} {n:Nat} {r r':Row} {l:Pairs} (h:i0k σ n r r'=some l) (hl:l.xs=l.ys∧l.os=l.qs) {ρ ρ':Num} (ha:Agree n (fun i=>ρ (σ.to i)) ρ'):rvL ρ' r'.list=rvL ρ r.list∧r'.list.length=r.list.length:=by
 unfold i0k at h
 split at h
 ·rename_i xs xs'
  split at h
  ·rename_i hc
   simp only [u6,y4] at hc
   cases h
   have e:xs=rnL σ xs':=hl.1
   simp only [Row.list]
   refine⟨?_,hc.2.symm⟩
   rw [rvL_low ha xs' hc.1,<- rvL_rn _ _ _ (low_noEL _ hc.1),<- e]
  ·cases h
 ·cases h
  have e:=hl.2
  simp only [J7,AObj.ints.injEq,F1] at e
  obtain⟨e1,e2⟩:=e
  subst e1 e2
  simp only [Row.list]
  refine⟨?_,a7⟩
  rename_i k ns
  have:pureL (ns.map (zO3 k))=true:=by rw [C3]; simp [pureV]
  rw [rvL_pure ρ' _ this,rvL_pure ρ _ this]
 ·rename_i xs f m
  split at h
  ·cases h
   have e:=hl.2
   simp only [J7,AObj.ro.injEq,F1] at e
   subst e
   simp only [Row.list]
   exact⟨by rw [rvL_pure ρ' _ (bN f m),rvL_pure ρ _ (bN f m)],a7⟩
  ·cases h
 ·rename_i ns l0
  cases h
  have e:=hl.2
  simp only [J7,AObj.ints.injEq,F1,true_and] at e
  subst e
  simp only [Row.list]
  have hp:pureL (W6 l0)=true:=by rw [C3,D8]; simp [pureV]
  rw [fV,<- D8,rvL_pure ρ' _ hp,rvL_pure ρ _ hp]
  exact⟨rfl,rfl⟩
 ·rename_i l0 l1
  cases h
  have e:=hl.2
  simp only [J7,AObj.ro.injEq,F1] at e
  have hp:∀ q:List UInt8,pureL (Row.bytes q).list=true:=fun q=>by rw [C3]; simp [pureV,Row.list]
  rw [e,rvL_pure ρ' _ (hp _),rvL_pure ρ _ (hp _)]
  exact⟨rfl,rfl⟩
 ·rename_i f m f' m'
  cases h
  have e:=hl.2
  simp only [J7,AObj.ro.injEq,F1] at e
  simp only [Row.list]
  rw [e]
  exact⟨by rw [rvL_pure ρ' _ (bN f' m'),rvL_pure ρ _ (bN f' m')],rfl⟩
 ·cases h
theorem x0y {σ:Ren} {n:Nat} {r r':Row} {l:Pairs} (h:i0k σ n r r'=some l):l.xs.length=l.ys.length∧l.os.length=l.qs.length:=by
 unfold i0k at h
 split at h
 ·split at h
  ·rename_i hc
   simp only [u6,y4] at hc
   cases h
   exact⟨by rw [lN]; exact hc.2,rfl⟩
  ·cases h
 ·cases h; exact⟨rfl,rfl⟩
 ·split at h
  ·cases h; exact⟨rfl,rfl⟩
  ·cases h
 ·cases h; exact⟨rfl,rfl⟩
 ·cases h; exact⟨rfl,rfl⟩
 ·cases h; exact⟨rfl,rfl⟩
 ·cases h
theorem g0g {b:Nat} {B:Nat} {M:Nat->Prop} {σ:Ren} {n:Nat} {o o':AObj} {l:Pairs} (h:xV b σ n o o'=some l) (hl:l.xs=l.ys∧l.os=l.qs) {ρ ρ':Num} {w:World} {i:Nat} (ha:Agree n (fun i=>ρ (σ.to i)) ρ') (hb:Agree b ρ ρ') (hi:i < n) (ho:ORep B M ρ w (ρ (σ.to i)) o):ORep B M ρ' w (ρ' i) o'∧o'.rw=o.rw:=by
 rw [show ρ' i=ρ (σ.to i) from ha i hi]
 cases o' with
 | row e' sz' r' k'=>
  cases o with
  | row e sz r k=>
   simp only [xV] at h
   split at h
   ·rename_i hc
    simp only [u6,y4,C0] at hc
    obtain⟨⟨⟨c1,c2⟩,c3⟩,c4⟩:=hc
    subst c1 c2 c3
    obtain⟨f1,f2⟩:=p0t h hl ha
    refine⟨?_,rfl⟩
    rcases ho with ⟨h1,h2⟩ | ⟨bb,cap,cur,h1,h2,h3,h4,h5,h6,h7,h8⟩
    ·exact .inl ⟨h1,nY (by rw [f2,h2]; rfl)⟩
    ·exact .inr ⟨bb,cap,cur,h1,by rw [ha k' c4]; exact h2,h3,h4,h5,h6,by rw [f2]; exact h7,by rw [f2,f1]; exact h8⟩
   ·cases h
  | _=>simp [xV] at h
 | cells cs' t'=>
  cases o with
  | cells cs t=>
   simp only [xV] at h
   split at h
   ·rename_i ht
    simp only [u6,y4] at ht
    obtain⟨⟨ht,h1⟩,_⟩:=ht
    subst ht
    cases h
    have h2:cs=rnL σ cs':=hl.1
    obtain⟨b,hb,hw,hown⟩:=ho
    refine⟨⟨b,hb,?_,hown⟩,rfl⟩
    rw [rvL_low ha cs' h1,<- rvL_rn _ _ _ (low_noEL _ h1),<- h2]
    exact hw
   ·cases h
  | _=>simp [xV] at h
 | iter s' p'=>
  cases o with
  | iter s p=>simp only [xV] at h; cases h; have e:=hl.2; simp only [J7,AObj.iter.injEq,F1] at e; obtain⟨e1,e2⟩:=e; subst e1; subst e2; exact⟨ho,rfl⟩
  | _=>simp [xV] at h
 | ints k' xs'=>
  cases o with
  | ints k xs=>simp only [xV] at h; cases h; have e:=hl.2; simp only [J7,AObj.ints.injEq,F1] at e; obtain⟨e1,e2⟩:=e; subst e1; subst e2; exact⟨ho,rfl⟩
  | _=>simp [xV] at h
 | loop st pn ts ps asg bd=>
  cases o with
  | loop st0 pn0 ts0 ps0 asg0 bd0=>
   simp only [xV] at h
   split at h
   ·rename_i hlow
    cases h
    have e:AObj.loop st0 pn0 ts0 ps0 asg0 bd0=AObj.loop st pn ts ps asg bd:=List.head_eq_of_cons_eq hl.2
    cases e
    obtain⟨b1,r1,h1,h2,h3,h4⟩:=ho
    refine⟨⟨b1,r1,h1,h2,⟨h3.1,h3.2.1,h3.2.2.1,h3.2.2.2.1,h3.2.2.2.2.1,h3.2.2.2.2.2.1,fun t x hx=> ?_⟩,h4⟩,rfl⟩
    rw [h3.2.2.2.2.2.2 t x hx,s0r hb x (mL hlow t x hx)]
   ·cases h
  | _=>simp [xV] at h
 | defr=>
  cases o with
  | defr=>exact⟨ho,rfl⟩
  | _=>simp [xV] at h
 | dead=>
  cases o with
  | dead=>exact⟨ho,rfl⟩
  | _=>simp [xV] at h
 | ro xs=>cases o <;> simp [xV] at h
 | fam f' m' sz' o'=>
  cases o with
  | fam f m sz o=>simp only [xV] at h; cases h; have e:=hl.2; simp only [J7,AObj.fam.injEq,F1] at e; obtain⟨e1,e2,e3,e4⟩:=e; subst e1; subst e2; subst e3; subst e4; exact⟨ho,rfl⟩
  | _=>simp [xV] at h
 | map es=>cases o <;> simp [xV] at h
theorem uP {σ:Ren} {i:Nat} :∀ {H:Heap},l2h σ i H=true->∀ j o,H.get j=some o->σ.to i≠σ.to j
 | [],_,j,o,h=>by simp [Heap.get] at h
 | (k,q) ::r,h,j,o,hj=>by
  simp only [l2h,u6,q0i] at h
  rw [b6] at hj
  split at hj
  ·rename_i e; subst e
   intro e
   rw [e,c0g] at h
   cases h.1
  ·exact uP h.2 j o hj
theorem wE {a b:Pairs} (h:(a.add b).xs=(a.add b).ys∧(a.add b).os=(a.add b).qs) (h1:a.xs.length=a.ys.length) (h2:a.os.length=a.qs.length):(a.xs=a.ys∧a.os=a.qs)∧b.xs=b.ys∧b.os=b.qs:=by
 obtain⟨e1,e2⟩:=List.append_inj h.1 h1
 obtain⟨e3,e4⟩:=List.append_inj h.2 h2
 exact⟨⟨e1,e3⟩,e2,e4⟩
theorem o1k {b:Nat} {σ:Ren} {n:Nat} {o o':AObj} {l:Pairs} (h:xV b σ n o o'=some l):l.xs.length=l.ys.length∧l.os.length=l.qs.length:=by
 unfold xV at h
 split at h
 ·split at h
  ·exact x0y h
  ·cases h
 ·split at h
  ·rename_i ht
   simp only [u6,y4] at ht
   cases h
   exact⟨by rw [lN]; exact ht.2,rfl⟩
  ·cases h
 ·cases h; exact⟨rfl,rfl⟩
 ·cases h; exact⟨rfl,rfl⟩
 ·cases h; exact⟨rfl,rfl⟩
 ·split at h
  ·cases h; exact⟨rfl,rfl⟩
  ·cases h
 ·cases h; exact⟨rfl,rfl⟩
 ·cases h; exact⟨rfl,rfl⟩
 ·cases h
theorem g0d {b:Nat} {σ:Ren} {n:Nat} {H:Heap} :∀ {H':Heap} {l:Pairs},l2l b σ n H H'=some l->(l.xs=l.ys∧l.os=l.qs)->
  (∀ i o',H'.get i=some o'->i < n∧∃ o l0,H.get (σ.to i)=some o∧xV b σ n o o'=some l0∧(l0.xs=l0.ys∧l0.os=l0.qs))∧∀ i j o o',H'.get i=some o->H'.get j=some o'->i≠j->σ.to i≠σ.to j
 | [],l,_,_=>⟨fun i o' h=>by simp [Heap.get] at h,fun i j o o' h=>by simp [Heap.get] at h⟩
 | (k,q) ::r,l,h,hl=>by
  simp only [l2l] at h
  split at h
  ·rename_i o hg hlt hout
   split at h
   ·rename_i l1 l2 h1 h2
    cases h
    obtain⟨n1,n2⟩:=o1k h1
    obtain⟨hl1,hl2⟩:=wE hl n1 n2
    obtain⟨g1,g2⟩:=g0d h2 hl2
    refine⟨fun i o' hi=> ?_,fun i j oi oj hi hj hij=> ?_⟩
    ·rw [b6] at hi
     split at hi
     ·rename_i e; subst e; cases hi
      exact⟨by simpa [Nat.blt_eq] using hlt,o,l1,hg,h1,hl1⟩
     ·exact g1 i o' hi
    ·rw [b6] at hi hj
     split at hi <;> split at hj
     ·rename_i e1 e2; exact absurd (e1.symm.trans e2) hij
     ·rename_i e1 e2; subst e1; exact uP hout j oj hj
     ·rename_i e1 e2; subst e2; exact fun e=>uP hout i oi hi e.symm
     ·exact g2 i j oi oj hi hj hij
   ·cases h
  ·cases h
theorem Rep.fit {P:Program} {J:Inv P} {B:Nat} {M:Nat->Prop} {w0:Bas} {rb:Option Nat} {s s':St} {a:Act} {w:World} (hR:Rep P J B M w0 rb s a w) {σ:Ren} {l:Pairs} (h:fit P σ s s'=some l) (hl:l.xs=l.ys∧l.os=l.qs):Rep P J B M w0 rb s' a w:=by
 unfold Ev.fit at h
 dsimp only at h
 split at h
 case h_2=>cases h
 rename_i mq mq' hmq hmq'
 split at h
 ·cases h
 rename_i hc
 simp only [u6,zzA10,C0,H7,y4] at hc
 obtain⟨⟨⟨⟨⟨⟨⟨⟨c1,c2⟩,c3⟩,c4⟩,c5⟩,c6⟩,c7⟩,c8⟩,c9⟩:=hc
 split at h
 case h_2=>cases h
 rename_i l1 l1' q h1 h2
 cases h
 obtain⟨tl,hT0⟩:=jI h1
 obtain⟨hx1,hx2⟩:=List.append_inj hl.1 tl
 obtain⟨t1,t2,t3⟩:=hT0 hx1
 obtain⟨g1,g2⟩:=g0d h2 ⟨hx2,hl.2⟩
 have e3:=l0e c3
 have e4:=n1d c4
 obtain⟨ρ,hρ0,hρ⟩:=hR.rep
 obtain⟨hS,hF,hT⟩:=hρ ρ (Agree.refl _ _)
 have below:∀ i,i < s.bs->σ.to i=i:=fun i hi=>fO c1 i hi
 have hbb:∀ ρ',Agree s'.nid (fun i=>ρ (σ.to i)) ρ'->Agree s.bs ρ ρ':=fun ρ' ha i hi=>by
  rw [ha i (by omega)]
  show ρ (σ.to i)=_
  rw [below i hi]
 refine⟨by rw [<- c5]; exact hR.low,t2,by rw [t1]; exact hR.size,hR.base,hR.inv,hR.keeps,fun i=>ρ (σ.to i),⟨by rw [hR.low]; exact c6,fun i hi=> ?_⟩,fun ρ' ha=>⟨⟨fun g hg=> ?_,fun i o hi=> ?_,fun i j o o' hi hr hj hij hne=> ?_⟩,⟨?_,?_⟩,fun t x hx=> ?_⟩⟩
 ·show ρ (σ.to i)=_
  rw [below i (by rw [<- hR.low]; exact hi)]
  exact hρ0.2 i hi
 ·rw [ha g (by omega)]
  show ρ (σ.to g)=_
  rw [below g (by omega)]
  exact hS.glob g hg
 ·obtain⟨hlt,o1,l0,k1,k2,k3⟩:=g1 i o hi
  exact (g0g k2 k3 ha (hbb _ ha) hlt (hS.obj _ _ k1)).1
 ·obtain⟨hlt,o1,l0,k1,k2,k3⟩:=g1 i o hi
  obtain⟨hlt',o1',l0',k1',k2',k3'⟩:=g1 j o' hj
  have hrw:=(g0g k2 k3 ha (hbb _ ha) hlt (hS.obj _ _ k1)).2
  rw [ha i hlt] at hne ⊢
  rw [ha j hlt']
  exact hS.inj _ _ _ _ k1 (by rw [<- hrw]; exact hr) k1' (g2 i j o o' hi hj hij) hne
 ·rw [hF.defers,cM hmq,cM hmq',<- e3,zU,zU]
  refine v0d (fun i hi=> ?_)
  simp only [Function.comp]
  show Deferred.mk (.collected ((ρ i).getD 0)) #[] =Deferred.mk (.collected ((ρ' i).getD 0)) #[]
  rw [ha i (c8 i hi)]
  show _=Deferred.mk (.collected ((ρ (σ.to i)).getD 0)) #[]
  rw [a0b c2 i hi]
 ·rw [hF.round,<- e4]
  cases hrd:s.rd with
  | none=>rfl
  | some l=>
   rw [hrd] at c9
   simp only [C0] at c9
   show ρ l=ρ' l
   rw [ha l (by omega)]
   show _=ρ (σ.to l)
   rw [below l c9]
 ·obtain⟨x0,k1,k2⟩:=t3 t x hx
  rw [hT t _ k1,k2 ρ ρ' ha]
def r7 (X:Cx) (c:Code) (s:St) (x:AX) (s':St):Prop:=
 ∀ (B:Nat) (M:Nat->Prop) (w0:Bas) (rb:Option Nat) (a:Act) (w:World),Par X.P B M->Rep X.P X.J B M w0 rb s a w->c.wpIn (Fl rb) 0 X.P (fun e a' w'=>e=x.toExit∧Rep X.P X.J B M w0 rb s' a' w') a w
def q2e:AX->AX->Bool
 | .normal, .normal=>true
 | .ret, .ret=>true
 | .exit i, .exit j=>zO0 i j
 | _,_=>false
theorem d1t {x y:AX} (h:q2e x y=true):x=y:=by
 cases x <;> cases y <;> simp_all [q2e]
def p0g (X:Cx) (L:V0) (fuel:Nat) (c:Code) (ds:List Bool) (σ:Ren) (s:St) (x:AX) (s':St):Option (Pairs×List Prop):=
 match s with
 | ⟨tm,hp,n,_,_,_,rd,mq,bs⟩=>match D9 X L fuel c ⟨tm,hp,n,ds,[],0,rd,mq,bs⟩ with
  | none=>none
  | some (x1,s1)=>match q2e x1 x,fit X.P σ s1 s' with
   | true,some l=>some (l,s1.obs)
   | _,_=>none
def p2d:Option (Pairs×List Prop)->List Prop
 | some (_,l)=>l
 | none=>[False]
def r2a:Option (Pairs×List Prop)->List Value
 | some (p,_)=>p.xs
 | none=>[]
def q2x:Option (Pairs×List Prop)->List Value
 | some (p,_)=>p.ys
 | none=>[]
def r2c:Option (Pairs×List Prop)->List AObj
 | some (p,_)=>p.os
 | none=>[]
def q2u:Option (Pairs×List Prop)->List AObj
 | some (p,_)=>p.qs
 | none=>[]
theorem d6 {X:Cx} (hX:CxOk X X.J) (hm:X.P.follows .mixedOrders=true) (L:V0) (fuel:Nat) {c:Code} (ds:List Bool) (σ:Ren) {s s':St} {x:AX} {l:List Prop} (h:p2d (p0g X L fuel c ds σ s x s')=l) (hl:d9 l)
  (h1:r2a (p0g X L fuel c ds σ s x s')=q2x (p0g X L fuel c ds σ s x s')) (h2:r2c (p0g X L fuel c ds σ s x s')=q2u (p0g X L fuel c ds σ s x s')):r7 X c s x s':=by
 subst h
 cases hr:p0g X L fuel c ds σ s x s' with
 | none=>rw [hr] at hl; exact absurd hl.1 id
 | some r=>
  obtain⟨p,o⟩:=r
  rw [hr] at hl h1 h2
  unfold p0g at hr
  dsimp only at hr
  split at hr
  ·cases hr
  rename_i x1 s1 he
  split at hr
  ·rename_i l0 hx hf
   cases hr
   have:=d1t hx
   subst this
   intro B M w0 rb a w hp hR
   exact bU hX hm hp fuel c _ x1 s1 he hl a w (hR.same rfl rfl rfl rfl rfl rfl) _ (fun a' w' hR'=>⟨rfl,hR'.fit hf ⟨h1,h2⟩⟩)
  ·cases hr
theorem D2 {ι:Type} {X:Cx} {c:Code} (T:ι->St) (μ:ι->Nat) (Good:ι->Prop) {x:AX} (hx:x≠ .normal) {s':St} (h:∀ i,Good i->(∃ j,Good j∧μ j < μ i∧r7 X c (T i) .normal (T j))∨r7 X c (T i) x s') (i:ι) (hi:Good i):b9 X c (T i) x s':=by
 intro B M w0 rb a w hp hR
 refine wpIn_loop_rounds (μ i+1) ?_
 have key:∀ (n:Nat) (i:ι),Good i->μ i < n->∀ a w,Rep X.P X.J B M w0 rb (T i) a w->Code.roundsIn (Fl rb) 0 X.P c (fun e a' w'=>e=x.toExit∧Rep X.P X.J B M w0 rb s' a' w') n a w:=by
  intro n
  induction n with
  | zero=>intro i _ h; omega
  | succ n ih=>
   intro i hi hn a w hR
   rw [roundsIn_succ]
   rcases h i hi with ⟨j,hj,hlt,hs⟩ | hs
   ·refine wpIn_mono (hs B M w0 rb a w hp hR) (fun e a' w' ⟨he,hR'⟩=> ?_)
    subst he
    exact ih j hj (by omega) a' w' hR'
   ·refine wpIn_mono (hs B M w0 rb a w hp hR) (fun e a' w' ⟨he,hR'⟩=> ?_)
    subst he
    cases x with
    | normal=>exact absurd rfl hx
    | exit id=>exact⟨rfl,hR'⟩
    | ret=>exact⟨rfl,hR'⟩
 exact key _ i hi (by omega) a w hR
theorem e1v {X:Cx} {c:Code} {s s1 s':St} {x:AX} (h:b9 X c s1 x s') (σ:Ren) {l:Pairs} (hf:fit X.P σ s s1=some l) (hl:l.xs=l.ys∧l.os=l.qs):b9 X c s x s':=
 fun B M w0 rb a w hp hR=>h B M w0 rb a w hp (hR.fit hf hl)
theorem l9 {X:Cx} {c:Code} {s s1 s':St} {x:AX} (h:b9 X c s1 x s') (σ:Ren) (h0:(fit X.P σ s s1).isSome=true) (h1:r2a ((fit X.P σ s s1).map fun p=>(p,[]))=q2x ((fit X.P σ s s1).map fun p=>(p,[]))) (h2:r2c ((fit X.P σ s s1).map fun p=>(p,[]))=q2u ((fit X.P σ s s1).map fun p=>(p,[]))):b9 X c s x s':=by
 cases hf:fit X.P σ s s1 with
 | none=>rw [hf] at h0; cases h0
 | some p=>
  rw [hf] at h1 h2
  exact e1v h σ hf ⟨h1,h2⟩
def bI:Code->List Code
 | .seq a b=>bI a++bI b
 | .cond _ a b=>bI a++bI b
 | .block _ a=>bI a
 | .scope a=>bI a
 | .loop a=>a ::bI a
 | _=>[]
def A3 (P:Program) (f k:Nat):Code:=match P.funcs[f]? with
 | some fn=>match fn.body with
  | some c=>match (bI c)[k]? with
   | some r=>r
   | none=> .skip
  | none=> .skip
 | none=> .skip
def t7 (X:Cx) (fuel f:Nat) (args:List Value) (H:Heap) (n:Nat) (ds:List Bool):St:=
 match X.P.funcs[f]? with
 | some fn=>match fn.body with
  | some c=>match D9 X [fun s=>some (.exit 1000000,s)] fuel c ⟨args.map .v++zO6 (fn.ntmps-args.length) (.v undef),H,n,ds,[],0,none,[],n⟩ with
   | some (_,s)=>s.core
   | none=>⟨[],[],0,[],[],0,none,[],0⟩
  | none=>⟨[],[],0,[],[],0,none,[],0⟩
 | none=>⟨[],[],0,[],[],0,none,[],0⟩
def only (k:Nat) (l:List (Nat×Value)):List TV:=(List.range k).map fun i=>match l.find? (fun p=>zO0 p.1 i) with
 | some p=> .v p.2
 | none=> .unk
def N5 (x:AX) (f:St->St):St->Option (AX×St):=fun s=>
 match s with
 | ⟨tm,hp,n,ds,o,lp,rd,mq,b⟩=>match f ⟨tm,hp,n,[],[],0,rd,mq,b⟩ with
  | ⟨tm',hp',n',_,_,_,rd',mq',b'⟩=>some (x,⟨tm',hp',n',ds,o,lp,rd',mq',b'⟩)
end
end Go.Proofs.YtbdaebagmmmijaaGreatDoor.Ev
namespace Go.Proofs.YtbdaebagmmmijaaGreatDoor
open Go Go.RowKit Ev
def g2p:List Int:=[0,1,28,2,29,14,24,3,30,22,20,15,25,17,4,8,31,27,13,23,21,19,16,7,26,12,18,6,11,5,10,9]
def g2y:List Int:=[0,1,56,2,57,49,28,3,61,58,42,50,38,29,17,4,62,47,59,36,45,43,51,22,53,39,33,30,24,18,12,5,63,55,48,27,60,41,37,16,46,35,44,21,52,32,23,11,54,26,40,15,34,20,31,10,25,14,19,9,13,8,7,6]
def VarIs (w:World) (g:Nat) (k:IntKind) (zs:List Int):Prop:=∃ t fr,w.heap[g]? =some (.cells (zs.map (zO3 k)).toArray t fr)
def HasInts (w:World) (g:Nat) (k:IntKind) (zs:List Int):Prop:=∃ cs t fr,w.heap[g]? =some (.cells cs t fr)∧∀ i,i < zs.length->cs[i]? =some (.int k (zs.getD i 0))
theorem HasInts.orep {w:World} {g:Nat} {k:IntKind} {zs:List Int} (h:HasInts w g k zs) (B:Nat) (M:Nat->Prop) (ρ:Num):ORep B M ρ w (some g) (.ints k zs):=by
 obtain⟨cs,t,fr,h1,h2⟩:=h
 exact .inr ⟨g,cs,t,fr,rfl,h1,h2⟩
theorem VarIs.has {w:World} {g:Nat} {k:IntKind} {zs:List Int} (h:VarIs w g k zs):HasInts w g k zs:=by
 obtain⟨t,fr,h⟩:=h
 exact⟨_,t,fr,h,fun i hi=>by simp [List.getD,hi]⟩
def firstZ:List Int:=Go.Pinned.utf8FirstZ.map zO2
def acceptZ:List Int:=[128,191,160,191,128,159,144,191,128,143,0,0,0,0,0,0,0,0,0,0,0,0,0,0,0,0,0,0,0,0,0,0]
theorem i0s {w:World} {g:Nat} {zs:List Int} (h0:0 < zs.length) (h:∀ i,i < zs.length->w.cell? ⟨g,i,none⟩=some (.int .u8 (zs.getD i 0))):HasInts w g .u8 zs:=by
 have hb:∀ i v,w.cell? ⟨g,i,none⟩=some v->∃ cs t fr,w.heap[g]? =some (.cells cs t fr)∧cs[i]? =some v:=by
  intro i v hv
  unfold World.cell? at hv
  split at hv
  ·rename_i cs t fr hc
   exact⟨cs,t,fr,hc,by simpa using hv⟩
  ·cases hv
 obtain⟨cs,t,fr,h1,_⟩:=hb 0 _ (h 0 h0)
 refine⟨cs,t,fr,h1,fun i hi=> ?_⟩
 obtain⟨cs',t',fr',h1',h2⟩:=hb i _ (h i hi)
 rw [h1] at h1'
 cases h1'
 exact h2
theorem q1w:(List.range 256).all (fun c=>decide (firstZ.getD c 0=(Lib.firstT c:Int)))=true:=by decide+kernel
theorem g1b:(List.range 16).all (fun i=>decide (acceptZ.getD (2*i) 0=(Lib.accLo i:Int)) && decide (acceptZ.getD (2*i+1) 0=(Lib.accHi i:Int)))=true:=by decide+kernel
theorem first_len:firstZ.length=256:=by kernel_rfl
theorem q1r {g h:Nat} {w:World} (t:Lib.Utf8Tabs g h w):HasInts w g .u8 firstZ∧HasInts w h .u8 acceptZ:=by
 obtain⟨t1,t2⟩:=t
 refine⟨i0s (show 0 < firstZ.length from Nat.lt_of_lt_of_eq (by decide:0 < 256) first_len.symm) fun i hi=> ?_,i0s (by decide) fun i hi=> ?_⟩
 ·have hi':i < 256:=Nat.lt_of_lt_of_eq hi first_len
  rw [t1 i hi',G1 (zzA10.1 q1w i (zzA126.2 hi'))]
 ·have hi':i < 32:=hi
  have:=zzA10.1 g1b (i/2) (zzA126.2 (by omega))
  simp only [u6,V9] at this
  obtain⟨q1,q2⟩:=t2 (i/2) (by omega)
  rcases Nat.mod_two_eq_zero_or_one i with e | e
  ·have e2:i=2*(i/2):=by omega
   rw [e2,q1,this.1]
  ·have e2:i=2*(i/2)+1:=by omega
   rw [e2,q2,this.2]
theorem a1x {g h n:Nat} {w w':World} (hg:g < n) (hh:h < n) (hk:∀ k,k < n->w'.heap[k]? =w.heap[k]?) (t:Lib.Utf8Tabs g h w):Lib.Utf8Tabs g h w':=by
 have e:∀ b c,b < n->w'.cell? ⟨b,c,none⟩=w.cell? ⟨b,c,none⟩:=fun b c hb=>by unfold World.cell?; simp only [hk b hb]
 exact⟨fun c hc=>by rw [e g c hg]; exact t.1 c hc,fun i hi=>by rw [e h _ hh,e h _ hh]; exact t.2 i hi⟩
def e2z:Heap:=[(1, .ints .u64 Lib.pow10Tab),(7, .ints .u8 g2p),(8, .ints .u8 g2y),(5, .ints .u8 firstZ),(6, .ints .u8 acceptZ)]
theorem tabs_in:1 < zO8.globals.size∧7 < zO8.globals.size∧8 < zO8.globals.size∧5 < zO8.globals.size∧6 < zO8.globals.size:=G1 (by kernel_rfl)
def o0n (w:World) (g:Nat):Prop:=∃ m,w.cell? ⟨g,0,none⟩=some (.int .i64 m)
theorem i1h:4 < zO8.globals.size:=G1 (by kernel_rfl)
def kZ (w:World) (g:Nat):Prop:=∃ ev,w.cell? ⟨g,0,none⟩=some ev∧(ev= .nilIface∨∃ te pe,ev= .iface te pe)
theorem errs_in:9 < zO8.globals.size∧10 < zO8.globals.size:=⟨G1 (by kernel_rfl),G1 (by kernel_rfl)⟩
theorem a1d {P:Program} {ρ:Num} (hg:∀ g,g < P.globals.size->ρ g=some g) (B:Nat) (M:Nat->Prop) (w:World):∀ (L:List (Nat×IntKind×List Int)),(∀ x∈L,x.1 < P.globals.size∧HasInts w x.1 x.2.1 x.2.2)->
  ∀ i o,Heap.get (L.map fun x=>(x.1,AObj.ints x.2.1 x.2.2)) i=some o->ORep B M ρ w (ρ i) o∧o.rw=false
 | [],_,i,o,h=>by simp [Heap.get] at h
 | x ::L,hL,i,o,h=>by
  rw [j0y,b6] at h
  split at h
  ·rename_i e
   subst e
   cases h
   obtain⟨h1,h2⟩:=hL x (by simp)
   rw [hg _ h1]
   exact⟨h2.orep B M ρ,rfl⟩
  ·exact a1d hg B M w L (fun y hy=>hL y (W2 _ hy)) i o h
def J0:Inv zO8 where
 I w:=zO8.globals.size<=w.heap.size∧VarIs w 1 .u64 Lib.pow10Tab∧VarIs w 7 .u8 g2p∧VarIs w 8 .u8 g2y∧Lib.Utf8Tabs 5 6 w∧o0n w 4∧kZ w 9∧kZ w 10
 st w w' h1 h2 h3:=by
  obtain⟨g0,g1,g2,g3,g4,g5,g6,g7⟩:=h3
  exact⟨u7 g0 h2,by unfold VarIs; rw [h1 _ tabs_in.1]; exact g1,by unfold VarIs; rw [h1 _ tabs_in.2.1]; exact g2,by unfold VarIs; rw [h1 _ tabs_in.2.2.1]; exact g3,a1x tabs_in.2.2.2.1 tabs_in.2.2.2.2 h1 g4,by unfold o0n World.cell?; rw [h1 _ i1h]; exact g5,by unfold kZ World.cell?; rw [h1 _ errs_in.1]; exact g6,by unfold kZ World.cell?; rw [h1 _ errs_in.2]; exact g7⟩
 room _ h:=h.1
 tabs:=e2z
 tabsOk w ρ B M h hg:=by
  obtain⟨g0,g1,g2,g3,g4,g5,g6,g7⟩:=h
  obtain⟨q1,q2⟩:=q1r g4
  have key:=a1d (P:=zO8) hg B M w [(1, .u64,Lib.pow10Tab),(7, .u8,g2p),(8, .u8,g2y),(5, .u8,firstZ),(6, .u8,acceptZ)] (fun x hx=>by
   simp only [zzA83,S5,S0] at hx
   rcases hx with rfl | rfl | rfl | rfl | rfl
   ·exact⟨tabs_in.1,g1.has⟩
   ·exact⟨tabs_in.2.1,g2.has⟩
   ·exact⟨tabs_in.2.2.1,g3.has⟩
   ·exact⟨tabs_in.2.2.2.1,q1⟩
   ·exact⟨tabs_in.2.2.2.2,q2⟩)
  refine⟨hg,fun i o hi=>(key i o hi).1,fun i j oi oj hi hr _ _ _=> ?_⟩
  rw [(key i oi hi).2] at hr
  cases hr
 tabsRo i o hi:=by
  unfold e2z at hi
  rw [b6,b6,b6,b6,b6] at hi
  split at hi
  ·cases hi; rfl
  ·split at hi
   ·cases hi; rfl
   ·split at hi
    ·cases hi; rfl
    ·split at hi
     ·cases hi; rfl
     ·split at hi
      ·cases hi; rfl
      ·simp [Heap.get] at hi
theorem progOk:ProgOk zO8:=by
 refine⟨by kernel_rfl,fun f fn h=> ?_⟩
 have hall:(zO8.funcs.toList.all fun fn=> !(fn.name== "runtime.NumGoroutine"))=true:=by kernel_rfl
 have:=zzA10.1 hall fn (by
  have:=Array.mem_of_getElem? h
  simpa using this)
 simpa using this
theorem gD (s:ByteArray) (c:Int):Pure zO8 J0 247 [.string s, .int .u8 c] (.int .i64 (Lib.indexByte s.data.toList c.toNat.toUInt8)):=by
 refine⟨rfl,rfl, .inr fun w _=> ?_⟩
 rw [run_callFunc_extern Tryz.func247 (by kernel_rfl) (by kernel_rfl) (by kernel_rfl) (e:=Extern.BytealgIndexByte.indexByte) (by kernel_rfl),Lib.run_indexByteString]
 rfl
def Y4:List Value->Option (Value×List Prop)
 | [.string s, .int .u8 c] =>some (.int .i64 (Lib.indexByte s.data.toList c.toNat.toUInt8),[])
 | _=>none
theorem pQ (args:List Value) (v:Value) (l:List Prop) (h:Y4 args=some (v,l)) (_:d9 l):Pure zO8 J0 247 args v:=by
 unfold Y4 at h
 split at h
 ·cases h; exact gD _ _
 ·cases h
theorem u0s {f:FuncId} {fn:Func} (hf:zO8.funcs[f]? =some fn) (h1:(fn.name== "runtime.NumGoroutine")=false) (h2:fn.body.isNone=true) (h3:Extern.findNext fn=none) {e:Array Value->Sem Value} (h4:Extern.find fn=some e)
  {args:List Value} {v:Value} (hp:pureL args=true) (hv:pureV v=true) (hr:∀ w,(e ⟨args⟩).run zO8 w= .ok v w):Pure zO8 J0 f args v:=by
 refine⟨hp,hv, .inr fun w _=> ?_⟩
 rw [run_callFunc_extern hf h1 h2 h3 h4]
 simp [hr]
def Q9:List Value->Option (Value×List Prop)
 | [.float .f64 b] =>some (.int .u64 b,[])
 | _=>none
theorem U9 (args:List Value) (v:Value) (l:List Prop) (h:Q9 args=some (v,l)) (_:d9 l):Pure zO8 J0 17 args v:=by
 unfold Q9 at h
 split at h
 ·cases h; exact u0s Tryz.func17 (by kernel_rfl) (by kernel_rfl) (by kernel_rfl) (e:=Extern.MathFloatBits.float64bits) (by kernel_rfl) rfl rfl (fun _=>rfl)
 ·cases h
def aH:List Value->Option (Value×List Prop)
 | [.int .u64 b] =>some (.float .f64 b.toNat,[])
 | _=>none
theorem eZ (args:List Value) (v:Value) (l:List Prop) (h:aH args=some (v,l)) (_:d9 l):Pure zO8 J0 18 args v:=by
 unfold aH at h
 split at h
 ·cases h; exact u0s Tryz.func18 (by kernel_rfl) (by kernel_rfl) (by kernel_rfl) (e:=Extern.MathFloatBits.float64frombits) (by kernel_rfl) rfl rfl (fun _=>rfl)
 ·cases h
theorem j0d (name:String) {x y c:Int} (hc:c.toNat<=1) (w:World):(Extern.MathBitsCarry.three name #[.int .u64 x, .int .u64 y, .int .u64 c]).run zO8 w= .ok (x.toNat,y.toNat,c.toNat) w:=by
 have hdef:Extern.MathBitsCarry.three name #[.int .u64 x, .int .u64 y, .int .u64 c] =(do
  let c0 <- asInt (.int .u64 c)
  if c0.toNat > 1 then unsupported (.noEntry ("extern/math/bits." ++name++ ": a carry that is neither 0 nor 1"))
  pure ((<- asInt (.int .u64 x)).toNat,(<- asInt (.int .u64 y)).toNat,c0.toNat)):=rfl
 rw [hdef]
 simp [asInt,asIntOf]
 omega
def jZ:List Value->Option (Value×List Prop)
 | [.int .u64 x, .int .u64 y, .int .u64 c] =>match Nat.ble c.toNat 1 with
  | true=>some (.tuple ⟨[.int .u64 (zO2 ((x.toNat+y.toNat+c.toNat)%18446744073709551616)), .int .u64 (zO2 ((x.toNat+y.toNat+c.toNat)/18446744073709551616))]⟩,[])
  | false=>none
 | _=>none
theorem nF (args:List Value) (v:Value) (l:List Prop) (h:jZ args=some (v,l)) (_:d9 l):Pure zO8 J0 148 args v:=by
 unfold jZ at h
 split at h
 case h_2=>cases h
 rename_i x y c
 split at h
 case h_2=>cases h
 rename_i hc
 have hc:=fX hc
 cases h
 refine u0s Tryz.func148 (by kernel_rfl) (by kernel_rfl) (by kernel_rfl) (e:=fun args=>do
  let (x,y,c) <- Extern.MathBitsCarry.three "Add64" args
  pure (Extern.MathBitsCarry.pair ((x+y+c)%Extern.MathBitsCarry.m64) ((x+y+c)/Extern.MathBitsCarry.m64))) (by kernel_rfl) rfl rfl (fun w=> ?_)
 simp [j0d _ hc,Extern.MathBitsCarry.pair,Extern.MathBitsCarry.m64]
def iH:List Value->Option (Value×List Prop)
 | [.int .u64 x, .int .u64 y, .int .u64 c] =>match Nat.ble c.toNat 1 with
  | true=>some (.tuple ⟨[.int .u64 (zO2 ((x.toNat+18446744073709551616-y.toNat-c.toNat)%18446744073709551616)), .int .u64 (zO2 (match zO1 x.toNat (y.toNat+c.toNat) with | true=>1 | false=>0))]⟩,[])
  | false=>none
 | _=>none
theorem pC (args:List Value) (v:Value) (l:List Prop) (h:iH args=some (v,l)) (_:d9 l):Pure zO8 J0 194 args v:=by
 unfold iH at h
 split at h
 case h_2=>cases h
 rename_i x y c
 split at h
 case h_2=>cases h
 rename_i hc
 have hc:=fX hc
 cases h
 refine u0s Tryz.func194 (by kernel_rfl) (by kernel_rfl) (by kernel_rfl) (e:=fun args=>do
  let (x,y,b) <- Extern.MathBitsCarry.three "Sub64" args
  pure (Extern.MathBitsCarry.pair ((x+Extern.MathBitsCarry.m64-y-b)%Extern.MathBitsCarry.m64) (if x < y+b then 1 else 0))) (by kernel_rfl) rfl rfl (fun w=> ?_)
 have hb:(if x.toNat < y.toNat+c.toNat then 1 else 0)=(match zO1 x.toNat (y.toNat+c.toNat) with | true=>1 | false=>0):=by
  by_cases hlt:x.toNat < y.toNat+c.toNat
  ·rw [i6 hlt,show zO1 x.toNat (y.toNat+c.toNat)=true by simp [Nat.blt_eq]; exact hlt]
  ·rw [a8 hlt,show zO1 x.toNat (y.toNat+c.toNat)=false by cases hb:zO1 x.toNat (y.toNat+c.toNat) <;> first | rfl | exact absurd (by simpa [Nat.blt_eq] using hb) hlt]
 rw [<- hb]
 simp [j0d _ hc,Extern.MathBitsCarry.pair,Extern.MathBitsCarry.m64]
def c0a:List Value->Heap->Nat->Option CR
 | [x],H,n=>some ⟨x,H,n,[],[]⟩
 | _,_,_=>none
theorem m0n {f:FuncId} {fn:Func} (hf:zO8.funcs[f]? =some fn) (h1:(fn.name== "runtime.NumGoroutine")=false) (h2:fn.body.isNone=true) (h3:Extern.findNext fn=none) (h4:Extern.find fn=some Extern.AbiNoEscape.same):l2o zO8 J0 f c0a:=by
 intro args H n r h _
 unfold c0a at h
 split at h
 case h_2=>cases h
 rename_i x
 cases h
 refine⟨d5 _,fun B M ρ w vs _ _ _ hS=>⟨ρ,rv ρ x,w,Agree.refl _ _,?_,Keeps.refl _ _ _,fun ρ' ha=>⟨?_,(hS ρ' ha).1⟩⟩⟩
 ·rw [run_callFunc_extern hf h1 h2 h3 h4,(hS ρ (Agree.refl _ _)).2]
  rfl
 ·have e1:=(hS ρ (Agree.refl _ _)).2
  have e2:=(hS ρ' ha).2
  rw [e1] at e2
  simpa [rvL] using e2
def lZ (e:TypeId):List Value->Heap->Nat->Option CR
 | [.int .i64 m],H,n=>match m with
  | .ofNat m=>match Nat.ble m 281474976710656 with
   | true=>some ⟨.slice (some ⟨n,0,some (n+1)⟩) m 0,(n, .row e 1 (.ints .u8 []) (n+1)) ::H,n+2,[],[]⟩
   | false=>none
  | .negSucc _=>none
 | _,_,_=>none
theorem d0o:l2o zO8 J0 205 (lZ 5):=by
 intro args H n r h _
 unfold lZ at h
 split at h
 case h_2=>cases h
 split at h
 case h_2=>cases h
 rename_i m
 split at h
 case h_2=>cases h
 rename_i hm
 have hm:=fX hm
 cases h
 refine⟨Nat.le_add_right _ _,fun B M ρ w vs _ hB _ hS=> ?_⟩
 obtain⟨cs,hrun,hle,hmax⟩:=Lib.run_makeNoZero (P:=zO8) w #[3] 22 5 (by kernel_rfl) m hm
 refine⟨fun i=>if i=n then some w.heap.size else if i=n+1 then some cs.size else ρ i, .slice (some ⟨w.heap.size,0,none⟩) m cs.size,w.drew.drew.alloc (.cells cs 5),fun i hi=> ?_,?_,?_,fun ρ' ha=> ?_⟩
 ·show (if i=n then some w.heap.size else if i=n+1 then some cs.size else ρ i)=ρ i
  simp only [show i≠n by omega,show i≠n+1 by omega,C5]
 ·rw [run_callFunc_extern Tryz.func205 (by kernel_rfl) (by kernel_rfl) (by kernel_rfl) (e:=Extern.BytealgMakeNoZero.makeNoZero #[3] #[22]) (by kernel_rfl),(hS ρ (Agree.refl _ _)).2]
  have e1:(⟨rvL ρ [.int .i64 (zO2 m)]⟩:Array Value)= #[.int .i64 m] :=by simp [rvL,rv]
  rw [e1,hrun]
  rfl
 ·exact⟨rfl,rfl,rfl,by simp,fun k hk _=>by rw [heap_alloc_old _ _ (by simpa using B9 hk hB)]; rfl⟩
 ·have h1:=ha n (by simp)
  have h2:=ha (n+1) (by simp)
  simp only [C6] at h1
  simp only [show n+1≠n by omega,C5,C6] at h2
  refine⟨by simp [rv,rSl,h1,h2],Sim.row (hS ρ' (fun i hi=> ?_)).1 (fun i o _ hi=>⟨hi,fun e=> ?_⟩) h1 h2 (.of (h0i _ _)) (.inl (by simpa using hB)) (hmax (by unfold maxLen; omega)) (by omega) (by simp [Row.list]) (by simp [Row.list,rvL]) (fun k hk _=>by rw [heap_alloc_old _ _ (by simpa using hk)]; rfl)⟩
  ·have:=ha i (by simp; omega)
   simp only [show i≠n by omega,show i≠n+1 by omega,C5] at this
   exact this
  ·have:=((hS ρ' (fun i hi=>by
    have:=ha i (by simp; omega)
    simp only [show i≠n by omega,show i≠n+1 by omega,C5] at this
    exact this)).1).obj i o hi
   rw [e] at this
   exact absurd this.lt (m0r _)
def J2:FuncId->List Value->Heap->Nat->Option CR:=m1u 204 c0a (m1u 205 (lZ 5) xt0)
theorem m4:e2b zO8 J0 J2:=t0m (m0n Tryz.func204 (by kernel_rfl) (by kernel_rfl) (by kernel_rfl) (by kernel_rfl)) (t0m d0o (i2m _ _))
def tL:Tab:=l7 148 jZ (l7 194 iH (l7 17 Q9 (l7 18 aH (l7 247 Y4 z1h))))
theorem M3:R8 zO8 J0 tL:=b8 nF (b8 pC (b8 U9 (b8 eZ (b8 pQ (gJ _ _)))))
def bN0:Base:=⟨zO8,J0,true,tL,D1,2000,J2⟩
theorem g1t:BaseOk bN0:=⟨progOk,M3,n8 _ _,m4⟩
end Go.Proofs.YtbdaebagmmmijaaGreatDoor
namespace Go.Proofs.YtbdaebagmmmijaaGreatDoor
open Go.ChangeShapes Go.WideShapes Go.ChangeAt Go.RowKit Go.Joins
theorem own:ownKnob zO8.godebug=none:=by kernel_rfl
theorem e0f {W:World} {n:String} {g:Nat} {cs:Array Value} {k:IntKind} {zs:List Int} (e:zO8.globalNamed n=some g) (hv:W.var? zO8 n=some cs) (hc:cs.toList=zs.map fun z=>zO3 k z):VarIs W g k zs:=by
 unfold World.var? at hv
 rw [e] at hv
 simp only [Option.bind_some] at hv
 split at hv
 ·rename_i c t fr hb
  cases hv
  refine⟨t,fr,?_⟩
  rw [hb,<- hc]
 ·cases hv
theorem VarIs.lt {W:World} {g:Nat} {k:IntKind} {zs:List Int} (h:VarIs W g k zs):g < W.heap.size:=by
 obtain⟨t,fr,h⟩:=h
 exact (zzA14.1 h).1
theorem q1t:(Rows.laid_internal_strconv_uint64pow10:DataW Unit)=Lib.tabData .u64 Lib.pow10Tab:=by kernel_rfl
theorem q1s:(Rows.laid_math_bits_deBruijn32tab:DataW Unit)=Lib.tabData .u8 g2p:=by kernel_rfl
theorem r1l:(Rows.laid_math_bits_deBruijn64tab:DataW Unit)=Lib.tabData .u8 g2y:=by kernel_rfl
theorem x0h:(Rows.laid_unicode_utf8_first:DataW Unit)=Lib.firstData:=by kernel_rfl
theorem r0c:(Rows.laid_unicode_utf8_acceptRanges:DataW Unit)=Lib.acceptData:=by kernel_rfl
def i2a:Go.Shelf.Ren:=⟨fun n=>n,fun | 5=>5 | 119=>263 | 138=>265 | 139=>266 | n=>n,fun | 3=>5 | 4=>6 | n=>n⟩
theorem a2i:U8Types zO8 i2a:=⟨Tryz.underlying5,Tryz.underlying263,Tryz.underlying265,Tryz.underlying266⟩
theorem b2q:U8Extra zO8 i2a:=⟨by kernel_rfl,by kernel_rfl,by kernel_rfl,by kernel_rfl,by kernel_rfl,by kernel_rfl,by kernel_rfl⟩
theorem o0o {w:World} (h:w.ShapedOpen zO8):o0n w 4:=
 Go.Proofs.cell_of_shapedOpen_int (zero:= #[.int .i64 0]) (t:=3) h (G1 (by kernel_rfl)) (by kernel_rfl) rfl (by kernel_rfl) (by kernel_rfl) Tryz.underlying3
theorem uY {w:World} {n name:String} {g:Nat} {t:TypeId} {d:DataW Unit} {ms:_} (hr:Lib.VarReads zO8 w n (.iface name d)) (hg:zO8.globalNamed n=some g) (hty:(zO8.globals[g]?).map (·.type)=some t)
  (hu:zO8.underlying t=some (.interface ms)):kZ w g:=by
 obtain⟨g',t',cs,fuel,p,h1,h2,h3,h4⟩:=hr
 obtain rfl:=J8 (hg.symm.trans h1)
 obtain rfl:=J8 (hty.symm.trans h2)
 cases fuel with
 | zero=>simp [DataW.trod] at h4
 | succ n=>
  unfold DataW.trod at h4
  rw [hu] at h4
  have hc:=World.var?_cell hg h3 0
  obtain⟨l⟩:=cs
  simp only at h4
  split at h4 <;> first | (simp_all; done) | skip
  all_goals first
   | (rename_i u v _ _; exact⟨.iface u v,by rw [hc]; simp_all, .inr ⟨u,v,rfl⟩⟩)
   | (rename_i u v _; exact⟨.iface u v,by rw [hc]; simp_all, .inr ⟨u,v,rfl⟩⟩)
   | (rename_i u v; exact⟨.iface u v,by rw [hc]; simp_all, .inr ⟨u,v,rfl⟩⟩)
   | cases h4
theorem n0f {W:World} (h:laidMetH zO8 Rows.numberNearRow.laid W) (hsh:W.ShapedOpen zO8):J0.I W:=by
 have h':laidMet zO8 Rows.numberNearRow.laid W:=h
 obtain⟨ps,⟨g1,t1,cs1,f1,p1,q1,hg1,ht1,hvar1,hd1,⟨g2,t2,cs2,f2,p2,q2,hg2,ht2,hvar2,hd2,⟨g3,t3,cs3,f3,p3,q3,hg3,ht3,hvar3,hd3,_⟩,_⟩,_⟩,_⟩:=h'
 have e1:zO8.globalNamed "math/bits.deBruijn32tab" =some 7:=by kernel_rfl
 have e2:zO8.globalNamed "math/bits.deBruijn64tab" =some 8:=by kernel_rfl
 have e3:zO8.globalNamed "internal/strconv.uint64pow10" =some 1:=by kernel_rfl
 obtain rfl:=J8 (e1.symm.trans hg1)
 obtain rfl:=J8 (e2.symm.trans hg2)
 obtain rfl:=J8 (e3.symm.trans hg3)
 have et1:(zO8.globals[7]?).map (·.type)=some 272:=by kernel_rfl
 have et2:(zO8.globals[8]?).map (·.type)=some 273:=by kernel_rfl
 have et3:(zO8.globals[1]?).map (·.type)=some 244:=by kernel_rfl
 obtain rfl:=J8 (et1.symm.trans ht1)
 obtain rfl:=J8 (et2.symm.trans ht2)
 obtain rfl:=J8 (et3.symm.trans ht3)
 rw [show (Rows.laid_math_bits_deBruijn32tab:DataW Unit)=Lib.tabData .u8 g2p from q1s] at hd1
 rw [show (Rows.laid_math_bits_deBruijn64tab:DataW Unit)=Lib.tabData .u8 g2y from r1l] at hd2
 rw [show (Rows.laid_internal_strconv_uint64pow10:DataW Unit)=Lib.tabData .u64 Lib.pow10Tab from q1t] at hd3
 have c1:=Lib.cells_of_tab (n:=32) Tryz.underlying272 Tryz.underlying5 (by kernel_rfl) (by kernel_rfl) hd1
 have c2:=Lib.cells_of_tab (n:=64) Tryz.underlying273 Tryz.underlying5 (by kernel_rfl) (by kernel_rfl) hd2
 have c3:=Lib.cells_of_tab (n:=20) Tryz.underlying244 Tryz.underlying39 (by kernel_rfl) (by kernel_rfl) hd3
 have v1:=e0f e1 hvar1 c1
 have v2:=e0f e2 hvar2 c2
 have v3:=e0f e3 hvar3 c3
 have w1:=uY (g:=9) (t:=132) (Lib.laidMet.reads h (n:= "strconv.ErrSyntax") (d:=Rows.laid_strconv_ErrSyntax) (by simp [Rows.numberNearRow])) (by kernel_rfl) (by kernel_rfl) Tryz.underlying132
 have w2:=uY (g:=10) (t:=132) (Lib.laidMet.reads h (n:= "strconv.ErrRange") (d:=Rows.laid_strconv_ErrRange) (by simp [Rows.numberNearRow])) (by kernel_rfl) (by kernel_rfl) Tryz.underlying132
 refine⟨?_,v3,v1,v2,?_,o0o hsh,w1,w2⟩
 case refine_2=>exact utf8Tabs_of_readsT a2i b2q (Lib.laidMet.reads h (n:= "unicode/utf8.first") (by rw [<- x0h]; simp [Rows.numberNearRow])) (Lib.laidMet.reads h (n:= "unicode/utf8.acceptRanges") (by rw [<- r0c]; simp [Rows.numberNearRow]))
 have hpos:zO8.globals.size-1 < zO8.globals.size:=G1 (by kernel_rfl)
 have hr:(((begin zO8 (fun _ _=>0) default).world.heap[zO8.globals.size-1]?).bind Obj.row?).isSome=true:=by kernel_rfl
 obtain⟨⟨zero,t⟩,h0⟩:=Option.isSome_iff_exists.1 hr
 obtain⟨cs,hh,_⟩:=hsh.1 _ zero t hpos h0
 have:=(zzA14.1 hh).1
 omega
def a0u:Nat->DataW Unit->List Value
 | 0,_=>[]
 | _+1, .lit (.int k n)=>[.int k n]
 | f+1, .agg l=>l.flatMap (a0u f)
 | _+1,_=>[]
def z1d (g:Nat) (cs:List Value) (h:Array Obj):Array Obj:=h.modify g fun
 | .cells _ t frozen=> .cells cs.toArray t frozen
 | o=>o
def i2x:ByteArray:=⟨#[118,97,108,117,101,32,111,117,116,32,111,102,32,114,97,110,103,101]⟩
def z1m:ByteArray:=⟨#[105,110,118,97,108,105,100,32,115,121,110,116,97,120]⟩
def low:Nat:=(World.holding zO8 default ⟨#[],#[],[]⟩).heap.size
def uU (os:Os):World:=
 let w0:=World.holding zO8 os ⟨#[.cells #[.string i2x] 280, .cells #[.string z1m] 280],#[],[]⟩
 { w0 with heap:=z1d 10 [.iface 278 (.pointer (some ⟨low,0,none⟩))] (z1d 9 [.iface 278 (.pointer (some ⟨low+1,0,none⟩))]
   (z1d 5 (a0u 4 Rows.laid_unicode_utf8_first) (z1d 6 (a0u 4 Rows.laid_unicode_utf8_acceptRanges) (z1d 1 (a0u 4 Rows.laid_internal_strconv_uint64pow10)
   (z1d 7 (a0u 4 Rows.laid_math_bits_deBruijn32tab) (z1d 8 (a0u 4 Rows.laid_math_bits_deBruijn64tab) w0.heap))))))}
end Go.Proofs.YtbdaebagmmmijaaGreatDoor
