/-
 NumberSame: a number read from several spellings of the same value is the same; no condition (a part of the proof).
-/
import Derived.Test.YtdgfhijnconaoaaGreatDoorS1x02
import Derived.Scope
import Derived.Test.YtdgfhijnconaoaaGreatDoorRows
import Derived.Laws.Externs
import Derived.Lib.Bytealg
import Derived.KernelRfl
import Derived.Lib.LaidTab
import Derived.Lib.ItoaMem
import Derived.Lib.MakeNoZero
import Derived.Shelf.Unicode.DecodeSlow
import GoSem.PinnedTables
import Derived.Shelf.Unicode.ValidAny
import Derived.Test.YtdgfhijnconaoaaGreatDoorCards
import Derived.Test.YtdgfhijnconaoaaGreatDoorTie
import Derived.WalkKit
import Derived.ProofKit
import Derived.OpenShut
import Derived.Carry
import Derived.Deep.DeepHandedRow
import Derived.Lib.SmallJoins
import Derived.Deep.Strs
import Derived.Laws.Cover2
import Derived.Lib.LaidU8T
import Derived.Shelf.Vars
namespace Go.Proofs.YtdgfhijnconaoaaGreatDoor.Ev
open Go Go.RowKit Go.Shelf
noncomputable section
def iT (o:Oper):Option Nat:=
 match o.dst,o.guard with
 | none,none=>match o.op with
  | .store _ (.tmp d) _=>some d
  | _=>none
 | _,_=>none
def Z6 (tm:List TV):List Oper→Option (List Nat)
 | [] =>some []
 | o ::r=>match iT o with
  | none=>none
  | some d=>match v7 tm d with
   | .v (.pointer (some ⟨id,_,_⟩))=>match Z6 tm r with
    | some l=>some (id ::l)
    | none=>none
   | _=>none
def nZ (acc:List Nat) (t:Nat):Nat→List Oper→Bool
 | _,[] =>true
 | k,o ::r=>(match o.dst with
  | some d=> !(Nat.beq d t) || C8 k acc
  | none=>true) && nZ acc t (k+1) r
theorem iQ {acc:List Nat} {t:Nat} :∀ {r:List Oper} {k0:Nat},nZ acc t k0 r=true→∀ k o,r[k]? =some o→o.dst=some t→(k0+k)∈acc
 | [],k0,_,k,o,ho,_=>by simp at ho
 | x ::r,k0,h,k,o,ho,hd=>by
  simp only [nZ,Bool.and_eq_true] at h
  cases k with
  | zero=>
   simp only [List.getElem?_cons_zero,Option.some.injEq] at ho
   subst ho
   rw [hd] at h
   simp only [Nat.beq_refl,Bool.not_true,Bool.false_or,memN_iff] at h
   exact h.1
  | succ k=>
   simp only [List.getElem?_cons_succ] at ho
   have:=iQ h.2 k o ho hd
   rw [show k0+(k+1)=k0+1+k by omega]
   exact this
def kC (hd:List Oper) (acc:List Nat):List Nat→Bool
 | [] =>true
 | t ::r=>nZ acc t 0 hd && kC hd acc r
theorem dZ {hd:List Oper} {acc:List Nat} :∀ {l:List Nat},kC hd acc l=true→∀ t∈l,nZ acc t 0 hd=true
 | [],_,t,ht=>by cases ht
 | x ::r,h,t,ht=>by
  simp only [kC,Bool.and_eq_true] at h
  rcases List.mem_cons.1 ht with rfl | ht
  ·exact h.1
  ·exact dZ h.2 t ht
def dD (os hd:List Oper):List Nat→List Oper→Bool
 | _,[] =>true
 | acc,o ::r=>kC hd (l7 o++acc) (looks os o) && dD os hd (l7 o++acc) r
theorem aO {os hd:List Oper} {L:Nat→Prop} :∀ {r:List Oper} {acc:List Nat},dD os hd acc r=true→(∀ e∈acc,L e)→∀ (k:Nat) (o:Oper),r[k]? =some o→(∀ (j:Nat) (oj:Oper),j≤k→r[j]? =some oj→∀ e∈l7 oj,L e)→
  ∀ t∈looks os o,∀ (i:Nat) (oi:Oper),hd[i]? =some oi→oi.dst=some t→L i
 | [],acc,_,_,k,o,ho,_=>by simp at ho
 | x ::r,acc,h,ha,k,o,ho,hp=>by
  simp only [dD,Bool.and_eq_true] at h
  have hacc:∀ e∈l7 x++acc,L e:=fun e he=>by
   rcases List.mem_append.1 he with he | he
   ·exact hp 0 x (Nat.zero_le _) rfl e he
   ·exact ha e he
  cases k with
  | zero=>
   simp only [List.getElem?_cons_zero,Option.some.injEq] at ho
   subst ho
   intro t ht i oi hi hd'
   have:=iQ (dZ h.1 t ht) i oi hi hd'
   rw [Nat.zero_add] at this
   exact hacc i this
  | succ k=>
   simp only [List.getElem?_cons_succ] at ho
   exact aO h.2 hacc k o ho (fun j oj hj hoj=>hp (j+1) oj (by omega) (by simpa using hoj))
def uV:List Oper→Nat
 | [] =>0
 | o ::r=>match iT o with
  | some _=>0
  | none=>uV r+1
def g0y (os:List Oper) (m:Nat):Bool:=
 Nat.ble m os.length && oG 0 os && a1d (os.take m) && nL os (os.take m) 0 (os.take m) && dD os (os.take m) [] (os.drop m) && U5 (m+1) (os.drop (m+1)) && !(b0k m os)
structure Floats (os:List Oper) (m:Nat):Prop where
 le:m≤os.length
 fwd:∀ i o,os[i]? =some o→∀ e∈l7 o,e < i
 dup:∀ i k oi ok d,i < m→k < m→os[i]? =some oi→os[k]? =some ok→oi.dst=some d→ok.dst=some d→i=k
 slot:∀ i o,i < m→os[i]? =some o→∀ t∈looks os o,∀ k ok,k < m→os[k]? =some ok→ok.dst=some t→k=i∨k∈l7 o∨i∈l7 ok
 tail:∀ (L:Nat→Prop) t o,m≤t→os[t]? =some o→(∀ j oj,m≤j→j≤t→os[j]? =some oj→∀ e∈l7 oj,L e)→∀ x∈looks os o,∀ k ok,k < m→os[k]? =some ok→ok.dst=some x→L k
 chain:∀ t o,m < t→os[t]? =some o→(t-1)∈l7 o
 quiet:∀ i o,i < m→os[i]? =some o→aE o.op=false
theorem mF:∀ {m:Nat} {os:List Oper},b0k m os=false→∀ i o,i < m→os[i]? =some o→aE o.op=false
 | 0,_,_,i,o,hi,_=>by omega
 | m+1,[],_,i,o,_,ho=>by simp at ho
 | m+1,x ::r,h,i,o,hi,ho=>by
  simp only [b0k,Bool.or_eq_false_iff] at h
  cases i with
  | zero=>simp only [List.getElem?_cons_zero,Option.some.injEq] at ho; subst ho; exact h.1
  | succ i=>simp only [List.getElem?_cons_succ] at ho; exact mF h.2 i o (by omega) ho
theorem c0a {os:List Oper} {m:Nat} (h:g0y os m=true):Floats os m:=by
 simp only [g0y,Bool.and_eq_true,Bool.not_eq_true',Nat.ble_eq] at h
 obtain⟨⟨⟨⟨⟨⟨h1,h2⟩,h3⟩,h4⟩,h5⟩,h6⟩,h7⟩:=h
 have fwd:∀ i o,os[i]? =some o→∀ e∈l7 o,e < i:=fun i o ho e he=>by
  have:=V2 h2 i o ho e he
  omega
 refine⟨h1,fwd,fun i k oi ok d hi hk hoi hok di dk=> ?_,fun i o hi ho t ht k ok hk hok hd=> ?_,fun L t o hmt ho hp x hx k ok hk hok hd=> ?_,fun t o ht ho=> ?_,mF h7⟩
 ·exact fP h3 i k oi ok d ((F9 hi).trans hoi) ((F9 hk).trans hok) di dk
 ·have:=V9 h4 i o ((F9 hi).trans ho) t ht k ok ((F9 hk).trans hok) hd
  simpa using this
 ·refine aO (L:=L) h5 (fun e he=>by cases he) (t-m) o (by rw [List.getElem?_drop,show m+(t-m)=t by omega]; exact ho) (fun j oj hj hoj=> ?_) x hx k ok ((F9 hk).trans hok) hd
  rw [List.getElem?_drop] at hoj
  exact hp (m+j) oj (by omega) (by omega) hoj
 ·have:=O0 h6 (t- (m+1)) o (by rw [List.getElem?_drop,show m+1+(t- (m+1))=t by omega]; exact ho)
  rw [show m+1+(t- (m+1))-1=t-1 by omega] at this
  exact this
theorem cH {tm:List TV} :∀ {r:List Oper} {ws:List Nat},Z6 tm r=some ws→∀ (k:Nat) (o:Oper),r[k]? =some o→∃ d id off sp,iT o=some d∧v7 tm d= .v (.pointer (some ⟨id,off,sp⟩))∧C8 id ws=true
 | [],ws,_,k,o,ho=>by simp at ho
 | x ::r,ws,h,k,o,ho=>by
  simp only [Z6] at h
  split at h
  ·cases h
  rename_i d hd
  split at h
  ·rename_i id off sp hg
   split at h
   ·rename_i l hl
    cases h
    cases k with
    | zero=>
     simp only [List.getElem?_cons_zero,Option.some.injEq] at ho
     subst ho
     exact⟨d,id,off,sp,hd,hg,by simp [C8]⟩
    | succ k=>
     simp only [List.getElem?_cons_succ] at ho
     obtain⟨d',id',off',sp',h1,h2,h3⟩:=cH hl k o ho
     exact⟨d',id',off',sp',h1,h2,by simp [C8,h3]⟩
   ·cases h
  ·cases h
theorem bO {o:Oper} {d:Nat} (h:iT o=some d):o.dst=none∧o.guard=none∧∃ t y,o.op= .store t (.tmp d) y:=by
 unfold iT at h
 split at h
 ·rename_i h1 h2
  split at h
  ·rename_i t d' y ho
   cases h
   exact⟨h1,h2,t,y,ho⟩
  ·cases h
 ·cases h
theorem yE {P:Program} {H H':Heap} {t:TypeId} {v:Value} {id off:Nat} {sp:Option Nat} (h:Q4 P H t (.pointer (some ⟨id,off,sp⟩)) v=some H') (j:Nat) (hj:j≠id):H'.get j=H.get j:=by
 unfold Q4 at h
 simp only [q9] at h
 split at h
 case h_2=>cases h
 rename_i heq
 cases heq
 split at h
 case h_1=>cases h
 split at h
 case h_4=>cases h
 ·rename_i hget
  split at h
  case h_2=>cases h
  cases h
  rw [Heap.get_set _ _ _ _ hget,if_neg (fun e=>hj e.symm)]
 ·rename_i hget
  split at h
  case h_2=>cases h
  cases h
  rw [Heap.get_set _ _ _ _ hget,if_neg (fun e=>hj e.symm)]
 ·rename_i hget
  split at h
  case h_2=>cases h
  split at h
  case h_2=>cases h
  cases h
  rw [Heap.get_set _ _ _ _ hget,if_neg (fun e=>hj e.symm)]
theorem qE {P:Program} {auto:Bool} {H H':Heap} {t:TypeId} {v:Value} {id off:Nat} {sp:Option Nat} {l:List Prop} (h:cR P auto H t (.pointer (some ⟨id,off,sp⟩)) v=some (H',l)) (j:Nat) (hj:j≠id):H'.get j=H.get j:=by
 unfold cR at h
 simp only [q9] at h
 split at h
 ·cases h
 split at h
 case h_2=>cases h
 rename_i heq
 cases heq
 split at h
 case h_2=>cases h
 rename_i hget
 split at h
 case h_2=>cases h
 split at h
 case h_2=>cases h
 cases h
 rw [Heap.get_set _ _ _ _ hget,if_neg (fun e=>hj e.symm)]
theorem hC {X:Cx} {os:List Oper} {o:Oper} {s s':St} {kv kv':KV} {d id off:Nat} {sp:Option Nat} (hd:iT o=some d) (hg:v7 s.tmps d= .v (.pointer (some ⟨id,off,sp⟩))) (h:I4 X false os o s kv=some (s',kv')):
  s'.tmps=s.tmps∧kv'=kv∧∀ j,j≠id→s'.heap.get j=s.heap.get j:=by
 obtain⟨h1,h2,t,y,ho⟩:=bO hd
 rw [w8,y4] at h
 have hgu:D4 X.gd os o s.tmps kv=some (false,s.tmps,kv,[]):=by unfold D4; rw [h2]
 rw [hgu] at h
 simp only at h
 split at h
 ·cases h
 rename_i tmps' kv1 tv r he
 cases h
 split at he
 ·cases he
 rename_i r0' hand
 cases he
 rcases B4 hand with ⟨r0,hb,er⟩ | ⟨_,hc,_⟩
 case inr=>cases hc
 subst er
 refine⟨by show yU s.tmps o.dst _=_; rw [h1]; rfl,rfl,fun j hj=> ?_⟩
 show r0.h.get j=_
 unfold B0 at hb
 split at hb
 ·cases hb
 rw [ho] at hb
 simp only [s2b] at hb
 split at hb
 case h_2=>cases hb
 rename_i r1 hr1
 have hr0:r0.h=r1.h:=by
  simp only [p0i,Bool.or_false] at hb
  cases hb
  rfl
 rw [hr0]
 unfold j0n at hr1
 simp only [p7] at hr1
 rw [ho] at hr1
 simp only at hr1
 split at hr1
 ·rename_i a v ha hv
  have:a= .pointer (some ⟨id,off,sp⟩):=by
   simp only [evo,hg,rd] at ha
   cases ha
   rfl
  subst this
  split at hr1
  ·rename_i H' l hst
   cases hr1
   exact qE hst j hj
  split at hr1
  ·rename_i H' hst
   cases hr1
   exact yE hst j hj
  ·cases hr1
 ·cases hr1
theorem Z4 {X:Cx} {os:List Oper} {m:Nat} {s0:St} {kv0:KV} {ws:List Nat} (hst:∀ k o,os[m+k]? =some o→∃ d id off sp,iT o=some d∧v7 s0.tmps d= .v (.pointer (some ⟨id,off,sp⟩))∧C8 id ws=true):
  ∀ {k:Nat} {s:St} {kv:KV},evT X os m (s0,kv0) k=some (s,kv)→s.tmps=s0.tmps∧kv=kv0∧(∀ j,C8 j ws=false→s.heap.get j=s0.heap.get j)∧s0.nid≤s.nid
 | 0,s,kv,h=>by simp only [evT] at h; cases h; exact⟨rfl,rfl,fun _ _=>rfl,Nat.le_refl _⟩
 | k+1,s,kv,h=>by
  obtain⟨s1,k1,o,h1,ho,h2⟩:=Z9 h
  obtain⟨e1,e2,e3,e4⟩:=Z4 hst h1
  obtain⟨d,id,off,sp,g1,g2,g3⟩:=hst k o ho
  obtain⟨f1,f2,f3⟩:=hC g1 (by rw [e1]; exact g2) h2
  refine⟨f1.trans e1,f2.trans e2,fun j hj=>(f3 j (fun e=>by rw [e,g3] at hj; cases hj)).trans (e3 j hj),Nat.le_trans e4 ?_⟩
  obtain⟨_,_,t,y,hop⟩:=bO g1
  rw [w8,y4] at h2
  split at h2
  ·cases h2
  rename_i he
  cases h2
  split at he
  ·cases he
  ·cases he; exact Nat.le_refl _
  ·split at he
   ·cases he
   ·rename_i hand
    cases he
    rename_i r1 _ _ _ _
    have:∃ q' r0 cs ts,B0 X q' o cs ts s1.heap s1.nid s1.ds=some r0∧r1.n=r0.n:=by
     rcases B4 hand with ⟨r0,hb,er⟩ | ⟨_,_,_,r0,hb,er⟩
     ·exact⟨_,r0,_,_,hb,by rw [er]⟩
     ·exact⟨_,r0,_,_,hb,by rw [er]⟩
    obtain⟨q',r0,cs,ts,hb,e0⟩:=this
    show s1.nid≤r1.n
    rw [e0]
    unfold B0 at hb
    split at hb
    ·cases hb
    rw [hop] at hb
    simp only [s2b] at hb
    split at hb
    case h_2=>cases hb
    split at hb
    ·cases hb; exact Nat.le_refl _
    ·split at hb
     ·cases hb; exact Nat.le_succ _
     ·cases hb
structure HalfF (X:Cx) (J:Inv X.P) (B:Nat) (M:Nat→Prop) (w0:Bas) (os:List Oper) (m t:Nat) (s0:St) (a0:Act) (ρ0:Num) (sm:HSt) (st:St) (listed:Array Bool) (a:Act) (w:World):Prop where
 size:listed.size=os.length
 closed:∀ j o,os[j]? =some o→Lst listed j→∀ e∈l7 o,Lst listed e
 mt:m≤t
 tn:t≤os.length
 tl:∀ j,m≤j→j < os.length→(Lst listed j↔j < t)
 asize:a.tmps.size=s0.tmps.length
 defers:a.defers=w0.dfs
 base:B≤w.heap.size
 inv:J.I w
 keeps:Keeps B M w0.w w
 old:∀ d,(∀ k o,k < m→Lst listed k→os[k]? =some o→o.dst≠some d)→a.tmps.getD d undef=a0.tmps.getD d undef
 rep:∃ ρ,Agree s0.nid ρ0 ρ∧∀ ρ',Agree st.nid ρ ρ'→Sim X.P B M ρ' st.heap w∧
  ∀ k o d,k < m→Lst listed k→os[k]? =some o→o.dst=some d→∀ β,KVok sm.kv β→B7 ρ' β (v7 sm.tm d) (a.tmps.getD d undef)
def HSt.toF (h:HSt) (s:St):St:=⟨h.tm,s.heap,s.nid,s.ds,h.obs,s.lp,s.rd,s.mks,s.bs⟩
section
variable {X:Cx} {J:Inv X.P} (hX:CxOk X J) {B:Nat} {M:Nat→Prop} (hp:Par X.P B M) {w0:Bas} {os:List Oper} {m:Nat} (hd:Floats os m) {s0:St} {a0:Act} {ρ0:Num} {sm:HSt} {nb:Nat} {ws:List Nat}
 (hm:T7 X false os nb (C7 ws s0.heap) s0.ds s0.tmps s0.obs m=some sm) (hst:∀ k o,os[m+k]? =some o→∃ d id off sp,iT o=some d∧v7 sm.tm d= .v (.pointer (some ⟨id,off,sp⟩))∧C8 id ws=true)
 (h0:∀ ρ',Agree s0.nid ρ0 ρ'→∀ β t,B7 ρ' β (v7 s0.tmps t) (a0.tmps.getD t undef))
include hX hp hd hm hst h0 in
theorem o0y (hl:d5 sm.obs) {t:Nat} {st:St} {kt:KV} (ht:evT X os m (sm.toF s0,sm.kv) (t-m)=some (st,kt)) {listed:Array Bool} {a:Act} {w:World} (h:HalfF X J B M w0 os m t s0 a0 ρ0 sm st listed a w) {i:Nat} (him:i < m) (hr:i∈Region.ready .any ⟨os⟩ listed)
  {rb:Option Nat} {K:Act→World→Prop} {Q:Exit→Act→World→Prop} (hK:∀ a' w',HalfF X J B M w0 os m t s0 a0 ρ0 sm st (listed.setIfInBounds i true) a' w'→K a' w'):wpOpIn (Fl rb) 0 X.P ⟨os⟩ Q i K a w:=by
 obtain⟨⟨hi,hnl⟩,o,ho,hpre⟩:=ready_iff.1 hr
 obtain⟨s1,hq1⟩:=mQ (i:=i+1) (by omega) hm
 obtain⟨si,o',tmps',tv,ob',hsi,ho',hop,e1,e3⟩:=z8 hq1
 rw [ho] at ho'
 cases ho'
 have hobs:=dX (by omega) hq1 hm hl
 rw [e3] at hobs
 simp only [l6] at hobs
 obtain⟨_,elen⟩:=w9 hsi
 have hsub:∀ β,KVok sm.kv β→KVok s1.kv β:=fun β hβ=>Z5 (by omega) hq1 hm hβ
 have hsubi:∀ β,KVok sm.kv β→KVok si.kv β:=fun β hβ=>Z5 (by omega) hsi hm hβ
 obtain⟨f1,f2,f3,f4⟩:=Z4 (s0:=sm.toF s0) (ws:=ws) hst ht
 have f4:s0.nid≤st.nid:=f4
 obtain⟨ρ,hρ0,hrep⟩:=h.rep
 have hisz:i < listed.size:=hi
 rcases D0 hop with ⟨r,he,hr2,_,q4,_⟩ | ⟨r,_,_,q2,_⟩ | ⟨hc,_⟩ | ⟨hc,_⟩
 case inr.inl=>rw [hd.quiet i o him ho] at q2; cases q2
 case inr.inr.inl=>cases hc
 case inr.inr.inr=>cases hc
 rw [← hr2] at hobs
 have hla:si.la=[] :=by
  have key:∀ (n:Nat) (s:HSt),n≤m→T7 X false os nb (C7 ws s0.heap) s0.ds s0.tmps s0.obs n=some s→s.la=[] :=by
   intro n
   induction n with
   | zero=>intro s _ hs; simp only [T7] at hs; cases hs; rfl
   | succ n ih=>
    intro s hn hs
    obtain⟨s2,o2,_,_,_,g1,g2,g5,_⟩:=z8 hs
    rcases D0 g5 with ⟨_,_,_,_,g3,_⟩ | ⟨_,_,_,g4,_⟩ | ⟨hc,_⟩ | ⟨hc,_⟩
    ·rw [g3]; exact ih s2 (by omega) g1
    ·rw [hd.quiet n o2 (by omega) g2] at g4; cases g4
    ·cases hc
    ·cases hc
  exact key i si (by omega) hsi
 generalize hHdef:n1g si.ef (nO os o si.la (C7 ws s0.heap))=H at he
 have hH:∀ j ob,H.get j=some ob→(C7 ws s0.heap).get j=some ob:=by
  intro j ob hj
  rw [← hHdef,hla,sV hsi] at hj
  exact k0s (la:=[]) hj
 have hrh:r.h=H:=by
  rw [y4] at he
  split at he
  ·cases he
  ·cases he; rfl
  ·split at he
   ·cases he
   ·rename_i hb
    cases he
    rcases B4 hb with ⟨r0,hb1,er⟩ | ⟨hq0,_⟩
    ·subst er; exact (G9 hb1).1
    ·cases hq0
 have hT:∀ ρ',Agree st.nid ρ ρ'→∀ β,KVok sm.kv β→∀ x∈looks os o,B7 ρ' β (v7 si.tm x) (a.tmps.getD x undef):=by
  intro ρ' ha β hβ x hx
  by_cases hw:∃ k ok,k < m∧Lst listed k∧os[k]? =some ok∧ok.dst=some x
  ·obtain⟨k,ok,hk,hlk,hok,hdk⟩:=hw
   have hki:k < i:=by
    rcases hd.slot i o him ho x hx k ok hk hok hdk with e | e | e
    ·subst e; exact absurd hlk hnl
    ·exact hd.fwd i o ho k e
    ·exact absurd (h.closed k ok hok hlk i e) hnl
   have:=(hrep ρ' ha).2 k ok x hk hlk hok hdk β hβ
   refine (B9 (by omega:i≤m) hsi hm hβ (fun k2 o2 hk1 hk2 ho2 hd2=> ?_)).2 this
   have:=hd.dup k k2 ok o2 x hk hk2 hok ho2 hdk hd2
   omega
  ·have hno:∀ k ok,k < m→Lst listed k→os[k]? =some ok→ok.dst≠some x:=fun k ok hk hlk hok e=>hw ⟨k,ok,hk,hlk,hok,e⟩
   rw [h.old x hno]
   refine (B9 (Nat.zero_le i) rfl hsi (hsubi β hβ) (fun k ok _ hk hok hdk=> ?_)).1 (h0 ρ' (fun j hj=> ?_) β x)
   ·rcases hd.slot i o him ho x hx k ok (by omega) hok hdk with e | e | e
    ·omega
    ·exact hno k ok (by omega) (hpre k e) hok hdk
    ·have:=hd.fwd k ok hok i e
     omega
   ·rw [ha j (by omega)]; exact hρ0 j hj
 refine V6 hX ho he (.inl rfl) hobs.1 hp (F:=fun ρ'=>Agree st.nid ρ ρ') (ρ:=ρ) (Agree.refl _ _) (Cβ:=KVok sm.kv) (w9 hm).1 hsub h.base h.inv (fun ρ' ha=> ?_) hT (fun hh=>by cases hh) (fun v w' hfin hk hbl=>hK _ _ ?_)
 ·refine (hrep ρ' ha).1.less fun j ob hj=> ?_
  obtain⟨g1,g2⟩:=C5 (hH j ob hj)
  rw [f3 j g2]
  exact g1
 refine⟨by simpa using h.size,fun j oj hoj hlj e he'=> ?_,h.mt,h.tn,fun j hj hjn=> ?_,by rw [M3]; exact h.asize,by rw [D2]; exact h.defers,Nat.le_trans h.base hk.size,J.keeps hp hk h.inv,h.keeps.trans hk,fun d hno=> ?_,
  ρ,hρ0,fun ρ' ha=>⟨(hrep ρ' ha).1.below (hbl rfl),fun k ok d hkm hlk hok hdk β hβ=> ?_⟩⟩
 ·rw [n6 hisz] at hlj ⊢
  rcases hlj with rfl | hlj
  ·rw [ho] at hoj; cases hoj
   exact .inr (hpre e he')
  ·exact .inr (h.closed j oj hoj hlj e he')
 ·rw [n6 hisz,← h.tl j hj hjn]
  exact⟨fun e=>e.elim (fun e=>by omega) id, .inr⟩
 ·rw [D6,if_neg (fun hh=>hno i o him ((n6 hisz).2 (.inl rfl)) ho hh.1)]
  exact h.old d (fun k ok hkm hlk hok=>hno k ok hkm ((n6 hisz).2 (.inr hlk)) hok)
 ·rw [D6]
  by_cases hki:k=i
  ·subst hki
   rw [ho] at hok
   cases hok
   by_cases hds:d < a.tmps.size
   ·rw [if_pos ⟨hdk,hds⟩]
    have hslot:=B9 (X:=X) (os:=os) (ρ:=ρ') (β:=β) (t:=d) (r:=v) (by omega:k+1≤m) hq1 hm hβ (fun k2 o2 hk1 hk2 ho2 hd2=>by
     have:=hd.dup k k2 o o2 d hkm hk2 ho ho2 hdk hd2
     omega)
    rw [← hslot,e1]
    obtain⟨_,_,hl'⟩:=G1 he (w9 hsi).1
    rw [H4,if_pos ⟨hdk,by rw [hl',elen,← h.asize]; exact hds⟩]
    exact (hfin ρ' ha).2 β hβ
   ·have hnone:v7 sm.tm d= .unk:=by
     simp only [B5]
     have e7:sm.tm.length=s0.tmps.length:=(w9 hm).2
     have e8:a.tmps.size=s0.tmps.length:=h.asize
     have e9:a.tmps.size≤d:=Nat.le_of_not_lt hds
     rw [List.getElem?_eq_none (by omega)]
    rw [hnone]
    trivial
  ·have hlk':Lst listed k:=by
    rcases (n6 hisz).1 hlk with e | e
    ·exact absurd e hki
    ·exact e
   have hne:o.dst≠some d:=fun e=>hki (hd.dup k i ok o d hkm him hok ho hdk e)
   rw [if_neg (fun hh=>hne hh.1)]
   exact (hrep ρ' ha).2 k ok d hkm hlk' hok hdk β hβ
include hX hp hd hm hst h0 in
theorem n0u {t:Nat} {st st':St} {kt kt':KV} (ht:evT X os m (sm.toF s0,sm.kv) (t-m)=some (st,kt)) {o:Oper} (ho:os[t]? =some o) (hop:I4 X false os o st kt=some (st',kt')) (hl:d5 st'.obs)
  {listed:Array Bool} {a:Act} {w:World} (h:HalfF X J B M w0 os m t s0 a0 ρ0 sm st listed a w) (hpre:∀ e∈l7 o,Lst listed e) (htn:t < os.length)
  {rb:Option Nat} {K:Act→World→Prop} {Q:Exit→Act→World→Prop} (hK:∀ a' w',HalfF X J B M w0 os m (t+1) s0 a0 ρ0 sm st' (listed.setIfInBounds t true) a' w'→K a' w'):wpOpIn (Fl rb) 0 X.P ⟨os⟩ Q t K a w:=by
 obtain⟨f1,f2,f3,f4⟩:=Z4 (s0:=sm.toF s0) (ws:=ws) hst ht
 have f4:s0.nid≤st.nid:=f4
 have f1:st.tmps=sm.tm:=f1
 have f2:kt=sm.kv:=f2
 subst f2
 obtain⟨d0,id,off,sp,g1,g2,g3⟩:=hst (t-m) o (by rw [show m+(t-m)=t by have:=h.mt; omega]; exact ho)
 obtain⟨z1,z2,z3⟩:=hC g1 (by rw [f1]; exact g2) hop
 obtain⟨y1,y2,_⟩:=bO g1
 obtain⟨ρ,hρ0,hrep⟩:=h.rep
 rw [w8] at hop
 split at hop
 ·cases hop
 rename_i tmps' kv1 tv r he
 cases hop
 simp only [l6] at hl
 have hlt:t < listed.size:=by rw [h.size]; exact htn
 subst z2
 refine K5 hX ho he hl.1 hp (ρ:=ρ) (Cβ:=KVok sm.kv) (w9 hm).1 (fun _ hh=>hh) h.base h.inv (fun ρ' ha=>(hrep ρ' ha).1) (fun ρ' ha β hβ x hx=> ?_) (fun v w' ρ1 ha hn hfin hk _=>hK _ _ ?_)
 ·rw [f1]
  by_cases hw:∃ k ok,k < m∧Lst listed k∧os[k]? =some ok∧ok.dst=some x
  ·obtain⟨k,ok,hk,hlk,hok,hdk⟩:=hw
   exact (hrep ρ' ha).2 k ok x hk hlk hok hdk β hβ
  ·have hno:∀ k ok,k < m→os[k]? =some ok→ok.dst≠some x:=fun k ok hk hok e=>by
    refine hw ⟨k,ok,hk,hd.tail (Lst listed) t o h.mt ho (fun j oj hmj hjt hoj e' he'=> ?_) x hx k ok hk hok e,hok,e⟩
    by_cases ejt:j=t
    ·subst ejt
     rw [ho] at hoj
     cases hoj
     exact hpre e' he'
    ·exact h.closed j oj hoj ((h.tl j hmj (by omega)).2 (by omega)) e' he'
   rw [h.old x (fun k ok hk _ hok=>hno k ok hk hok)]
   exact (B9 (Nat.zero_le m) rfl hm hβ (fun k ok _ hk hok=>hno k ok hk hok)).1 (h0 ρ' (fun j hj=>by rw [ha j (by omega)]; exact hρ0 j hj) β x)
 ·have hput:∀ x,(a.put o.dst v).tmps.getD x undef=a.tmps.getD x undef:=fun x=>by rw [D6,y1,if_neg (fun hh=>by cases hh.1)]
  refine⟨by simpa using h.size,fun j oj hoj hlj e he'=> ?_,by have:=h.mt; omega,by omega,fun j hj hjn=> ?_,by rw [M3]; exact h.asize,by rw [D2]; exact h.defers,Nat.le_trans h.base hk.size,J.keeps hp hk h.inv,h.keeps.trans hk,fun d hno=> ?_,
   ρ1,hρ0.trans ha f4,fun ρ' ha'=>⟨(hfin ρ' ha').1,fun k ok d hkm hlk hok hdk β hβ=> ?_⟩⟩
  ·rw [n6 hlt] at hlj ⊢
   rcases hlj with rfl | hlj
   ·rw [ho] at hoj; cases hoj
    exact .inr (hpre e he')
   ·exact .inr (h.closed j oj hoj hlj e he')
  ·rw [n6 hlt,h.tl j hj hjn]
   omega
  ·rw [hput]
   exact h.old d (fun k ok hkm hlk hok=>hno k ok hkm ((n6 hlt).2 (.inr hlk)) hok)
  ·rw [hput]
   have hlk':Lst listed k:=by
    rcases (n6 hlt).1 hlk with e | e
    ·have:=h.mt; omega
    ·exact e
   exact (hrep ρ' (fun j hj=>(ha' j (Nat.lt_of_lt_of_le hj hn)).trans (ha j hj))).2 k ok d hkm hlk' hok hdk β hβ
include hX hp hd hm hst h0 in
theorem e0m (hρ0:w0.n≤s0.nid∧Agree w0.n w0.ρ ρ0) {sn:St} {kn:KV} (hn:evT X os m (sm.toF s0,sm.kv) (os.length-m)=some (sn,kn)) (hl:d5 sn.obs) {rb:Option Nat} {Q:Exit→Act→World→Prop} (hQ:∀ a w,RepR X.P J B M w0 kn sn a w→Q .normal a w):
  ∀ (fuel t:Nat) (st:St) (kt:KV) (listed:Array Bool) (a:Act) (w:World),unl listed os.length≤fuel→evT X os m (sm.toF s0,sm.kv) (t-m)=some (st,kt)→HalfF X J B M w0 os m t s0 a0 ρ0 sm st listed a w→wpAnyIn (Fl rb) 0 X.P .any ⟨os⟩ Q fuel listed a w:=by
 have hlm:d5 sm.obs:=bT (X:=X) (os:=os) (m:=m) (Nat.zero_le _) rfl hn hl
 have fin:∀ (t:Nat) (st:St) (kt:KV) (listed:Array Bool) (a:Act) (w:World),evT X os m (sm.toF s0,sm.kv) (t-m)=some (st,kt)→HalfF X J B M w0 os m t s0 a0 ρ0 sm st listed a w→(∀ k,k < os.length→Lst listed k)→Q .normal a w:=by
  intro t st kt listed a w ht h hall
  have htn:t=os.length:=by
   rcases Nat.lt_or_ge t os.length with hlt | hge
   ·have:=(h.tl t h.mt hlt).1 (hall t hlt)
    omega
   ·have:=h.tn; omega
  subst htn
  rw [ht] at hn
  cases hn
  refine hQ a w ?_
  obtain⟨f1,f2,f3,f4⟩:=Z4 (s0:=sm.toF s0) (ws:=ws) hst ht
  have f1:sn.tmps=sm.tm:=f1
  have f2:kn=sm.kv:=f2
  have f4:s0.nid≤sn.nid:=f4
  obtain⟨ρ,hρ,hrep⟩:=h.rep
  obtain⟨k1,k2⟩:=w9 hm
  subst f2
  refine⟨by rw [f1,k2]; exact h.asize,h.defers,h.base,h.inv,h.keeps,k1,ρ,⟨Nat.le_trans hρ0.1 f4,hρ0.2.trans hρ hρ0.1⟩,fun ρ' ha=>⟨(hrep ρ' ha).1,fun β hβ x=> ?_⟩⟩
  rw [f1]
  by_cases hw:∃ k o,k < m∧os[k]? =some o∧o.dst=some x
  ·obtain⟨k,o,hk,ho,hdk⟩:=hw
   exact (hrep ρ' ha).2 k o x hk (hall k (by have:=hd.le; omega)) ho hdk β hβ
  ·have hno:∀ k o,k < m→os[k]? =some o→o.dst≠some x:=fun k o hk ho e=>hw ⟨k,o,hk,ho,e⟩
   rw [h.old x (fun k o hk _ ho=>hno k o hk ho)]
   exact (B9 (Nat.zero_le m) rfl hm hβ (fun k o _ hk ho=>hno k o hk ho)).1 (h0 ρ' (fun j hj=>by rw [ha j (by omega)]; exact hρ j hj) β x)
 intro fuel
 induction fuel with
 | zero=>
  intro t st kt listed a w hf ht h
  have hall:∀ k,k < os.length→Lst listed k:=fun k hk=>jZ (by omega) hk
  refine⟨?_,fin t st kt listed a w ht h hall⟩
  cases hr:Region.ready .any ⟨os⟩ listed with
  | nil=>rfl
  | cons x xs=>
   have:x∈Region.ready .any ⟨os⟩ listed:=by rw [hr]; simp
   obtain⟨⟨h1,h2⟩,_⟩:=ready_iff.1 this
   exact absurd (hall x (by rw [← h.size]; exact h1)) h2
 | succ fuel ih=>
  intro t st kt listed a w hf ht h
  refine⟨fun hr0=>fin t st kt listed a w ht h (fun k hk=>Classical.byContradiction fun hnk=> ?_),fun i hi=> ?_⟩
  ·haveI:DecidablePred fun k=>¬ Lst listed k:=fun k=>Classical.propDecidable _
   obtain⟨k',hk',hnl,hmin⟩:=a1a (p:=fun k=>¬ Lst listed k) os.length ⟨k,hk,hnk⟩
   obtain⟨o,ho⟩:∃ o,os[k']? =some o:=⟨os[k'],by simp [hk']⟩
   have:k'∈Region.ready .any ⟨os⟩ listed:=ready_iff.2 ⟨⟨by rw [h.size]; exact hk',hnl⟩,o,ho,fun e he=>Classical.byContradiction fun hn'=>hmin e (hd.fwd k' o ho e he) hn'⟩
   rw [hr0] at this
   cases this
  ·obtain⟨⟨h1,h2⟩,o,ho,hpre⟩:=ready_iff.1 hi
   have hin:i < os.length:=by rw [← h.size]; exact h1
   have hun:=vK hin h.size h2
   by_cases him:i < m
   ·exact o0y hX hp hd hm hst h0 hlm ht h him hi (fun a' w' h'=>ih t st kt _ a' w' (by omega) ht h')
   ·have hit:i=t:=by
     rcases Nat.lt_trichotomy i t with h' | h' | h'
     ·exact absurd ((h.tl i (by omega) hin).2 h') h2
     ·exact h'
     ·have:=hpre (i-1) (hd.chain i o (by have:=h.mt; omega) ho)
      have:=(h.tl (i-1) (by have:=h.mt; omega) (by omega)).1 this
      omega
    subst hit
    obtain⟨⟨s1,k1⟩,hq1⟩:=xF (i:=i-m+1) (by omega) hn
    obtain⟨s',kv',o',q1,q2,q3⟩:=Z9 hq1
    rw [ht] at q1
    cases q1
    rw [show m+(i-m)=i by omega] at q2
    rw [ho] at q2
    cases q2
    exact n0u hX hp hd hm hst h0 ht ho q3 (bT (by omega) hq1 hn hl) h hpre hin (fun a' w' h'=>ih (i+1) s1 k1 _ a' w' (by omega) (by rw [show i+1-m=i-m+1 by omega]; exact hq1) h')
end
def w0z:List Nat→List Nat→Bool
 | [],[] =>true
 | i ::r,j ::r'=>Nat.beq i j && w0z r r'
 | _,_=>false
def f0d (X:Cx) (os:List Oper) (m:Nat) (s:St):Option St:=
 match s with
 | ⟨tm,hp,nid,ds,obs,lp,rd,mk,bs⟩=>match Z6 tm (os.drop m) with
  | none=>none
  | some ws=>match T7 X false os nid (C7 ws hp) ds tm obs m with
   | none=>none
   | some ⟨tm',_,ob,kv,_,_⟩=>match Z6 tm' (os.drop m) with
    | none=>none
    | some ws'=>match w0z ws ws' with
     | false=>none
     | true=>match evT X os m (⟨tm',hp,nid,ds,ob,lp,rd,mk,bs⟩,kv) (os.length-m) with
      | none=>none
      | some (s',_)=>some s'
theorem rM:∀ {l l':List Nat},w0z l l'=true→l=l'
 | [],[],_=>rfl
 | [],_ ::_,h=>by simp [w0z] at h
 | _ ::_,[],h=>by simp [w0z] at h
 | i ::r,j ::r',h=>by
  simp only [w0z,Bool.and_eq_true,Nat.beq_eq] at h
  rw [h.1,rM h.2]
theorem gY {X:Cx} {os:List Oper} {m:Nat} {s s':St} (h:f0d X os m s=some s'):
  ∃ ws hm kn,T7 X false os s.nid (C7 ws s.heap) s.ds s.tmps s.obs m=some hm∧Z6 hm.tm (os.drop m)=some ws∧evT X os m (hm.toF s,hm.kv) (os.length-m)=some (s',kn):=by
 unfold f0d at h
 dsimp only at h
 split at h
 ·cases h
 rename_i ws hws
 split at h
 ·cases h
 rename_i he
 split at h
 ·cases h
 rename_i ws' hws'
 split at h
 ·cases h
 rename_i hq
 have:=rM hq
 subst this
 split at h
 ·cases h
 rename_i kn ht
 cases h
 exact⟨ws,_,_,he,hws',ht⟩
end
noncomputable section
def fY:List UInt8→List UInt8→Bool
 | [],[] =>true
 | a ::l,b ::m=>Nat.beq a.toNat b.toNat && fY l m
 | _,_=>false
theorem iA:∀ {l m:List UInt8},fY l m=true→l=m
 | [],[],_=>rfl
 | [],_ ::_,h=>by simp [fY] at h
 | _ ::_,[],h=>by simp [fY] at h
 | a ::l,b ::m,h=>by
  simp only [fY,Bool.and_eq_true,Nat.beq_eq] at h
  rw [UInt8.toNat_inj.1 h.1,iA h.2]
def m0c:Int→Int→Bool
 | .ofNat a, .ofNat b=>Nat.beq a b
 | .negSucc a, .negSucc b=>Nat.beq a b
 | _,_=>false
theorem m0y:∀ {a b:Int},m0c a b=true→a=b
 | .ofNat a, .ofNat b,h=>by simp only [m0c,Nat.beq_eq] at h; rw [h]
 | .negSucc a, .negSucc b,h=>by simp only [m0c,Nat.beq_eq] at h; rw [h]
 | .ofNat a, .negSucc b,h=>by simp [m0c] at h
 | .negSucc a, .ofNat b,h=>by simp [m0c] at h
def sI:Option Nat→Option Nat→Bool
 | none,none=>true
 | some a,some b=>Nat.beq a b
 | _,_=>false
theorem kZ:∀ {a b:Option Nat},sI a b=true→a=b
 | none,none,_=>rfl
 | some a,some b,h=>by simp only [sI,Nat.beq_eq] at h; rw [h]
 | none,some b,h=>by simp [sI] at h
 | some a,none,h=>by simp [sI] at h
def tO:Option Addr→Option Addr→Bool
 | none,none=>true
 | some ⟨b,o,s⟩,some ⟨b',o',s'⟩=>Nat.beq b b' && Nat.beq o o' && sI s s'
 | _,_=>false
theorem lM:∀ {a b:Option Addr},tO a b=true→a=b
 | none,none,_=>rfl
 | some ⟨b,o,s⟩,some ⟨b',o',s'⟩,h=>by
  simp only [tO,Bool.and_eq_true,Nat.beq_eq] at h
  rw [h.1.1,h.1.2,kZ h.2]
 | none,some b,h=>by simp [tO] at h
 | some a,none,h=>by simp [tO] at h
def u1j:Fn→Fn→Bool
 | .func a, .func b=>Nat.beq a b
 | .yield a, .yield b=>Nat.beq a b
 | _,_=>false
theorem x0a:∀ {a b:Fn},u1j a b=true→a=b
 | .func a, .func b,h=>by simp only [u1j,Nat.beq_eq] at h; rw [h]
 | .yield a, .yield b,h=>by simp only [u1j,Nat.beq_eq] at h; rw [h]
 | a,b,h=>by
  unfold u1j at h
  split at h
  ·rw [Nat.beq_eq] at h; rw [h]
  ·rw [Nat.beq_eq] at h; rw [h]
  ·cases h
mutual
def eqV:Value→Value→Bool
 | .bool a,w=>match w with
  | .bool b=>j1p a b
  | _=>false
 | .int k a,w=>match w with
  | .int k' b=>decide (k=k') && m0c a b
  | _=>false
 | .float k a,w=>match w with
  | .float k' b=>decide (k=k') && Nat.beq a b
  | _=>false
 | .string ⟨⟨s⟩⟩,w=>match w with
  | .string ⟨⟨t⟩⟩=>fY s t
  | _=>false
 | .pointer a,w=>match w with
  | .pointer b=>tO a b
  | _=>false
 | .slice a n c,w=>match w with
  | .slice b n' c'=>tO a b && Nat.beq n n' && Nat.beq c c'
  | _=>false
 | .map a,w=>match w with
  | .map b=>sI a b
  | _=>false
 | .func f a c,w=>match w with
  | .func f' a' c'=>u1j f f' && eqA a a' && eqA c c'
  | _=>false
 | .nilFunc,w=>match w with
  | .nilFunc=>true
  | _=>false
 | .iface t a,w=>match w with
  | .iface t' b=>Nat.beq t t' && eqV a b
  | _=>false
 | .nilIface,w=>match w with
  | .nilIface=>true
  | _=>false
 | .agg a,w=>match w with
  | .agg b=>eqA a b
  | _=>false
 | .tuple a,w=>match w with
  | .tuple b=>eqA a b
  | _=>false
 | .complex _ _ _,_=>false
 | .chan _,_=>false
def eqA:Array Value→Array Value→Bool
 | ⟨l⟩,w=>match w with
  | ⟨m⟩=>eqL l m
def eqL:List Value→List Value→Bool
 | [],w=>match w with
  | [] =>true
  | _=>false
 | v ::l,w=>match w with
  | [] =>false
  | x ::m=>eqV v x && eqL l m
end
theorem tI {a b:Bool} (h:j1p a b=true):a=b:=by
 cases a <;> cases b <;> first | rfl | (cases h)
mutual
theorem kK:∀ (v w:Value),eqV v w=true→v=w
 | .bool a,w,h=>by
  unfold eqV at h
  split at h
  ·rw [tI h]
  ·cases h
 | .int k a,w,h=>by
  unfold eqV at h
  split at h
  ·simp only [Bool.and_eq_true,decide_eq_true_eq] at h; rw [h.1,m0y h.2]
  ·cases h
 | .float k a,w,h=>by
  unfold eqV at h
  split at h
  ·simp only [Bool.and_eq_true,decide_eq_true_eq,Nat.beq_eq] at h; rw [h.1,h.2]
  ·cases h
 | .string ⟨⟨s⟩⟩,w,h=>by
  unfold eqV at h
  split at h
  ·rw [iA h]
  ·cases h
 | .pointer a,w,h=>by
  unfold eqV at h
  split at h
  ·rw [lM h]
  ·cases h
 | .slice a n c,w,h=>by
  unfold eqV at h
  split at h
  ·simp only [Bool.and_eq_true,Nat.beq_eq] at h; rw [lM h.1.1,h.1.2,h.2]
  ·cases h
 | .map a,w,h=>by
  unfold eqV at h
  split at h
  ·rw [kZ h]
  ·cases h
 | .func f a c,w,h=>by
  unfold eqV at h
  split at h
  ·simp only [Bool.and_eq_true] at h; rw [x0a h.1.1,eqA_spec _ _ h.1.2,eqA_spec _ _ h.2]
  ·cases h
 | .nilFunc,w,h=>by
  unfold eqV at h
  split at h
  ·rfl
  ·cases h
 | .iface t a,w,h=>by
  unfold eqV at h
  split at h
  ·simp only [Bool.and_eq_true,Nat.beq_eq] at h; rw [h.1,kK _ _ h.2]
  ·cases h
 | .nilIface,w,h=>by
  unfold eqV at h
  split at h
  ·rfl
  ·cases h
 | .agg a,w,h=>by
  unfold eqV at h
  split at h
  ·rw [eqA_spec _ _ h]
  ·cases h
 | .tuple a,w,h=>by
  unfold eqV at h
  split at h
  ·rw [eqA_spec _ _ h]
  ·cases h
 | .complex _ _ _,w,h=>by unfold eqV at h; cases h
 | .chan _,w,h=>by unfold eqV at h; cases h
theorem eqA_spec:∀ (v w:Array Value),eqA v w=true→v=w
 | ⟨l⟩,⟨m⟩,h=>by
  unfold eqA at h
  rw [eqL_spec l m h]
theorem eqL_spec:∀ (v w:List Value),eqL v w=true→v=w
 | [],w,h=>by
  unfold eqL at h
  split at h
  ·rfl
  ·cases h
 | v ::l,w,h=>by
  unfold eqL at h
  split at h
  ·cases h
  ·simp only [Bool.and_eq_true] at h
   rw [kK _ _ h.1,eqL_spec _ _ h.2]
end
def r1t:List (Nat×Bool)→List (Nat×Bool)→Bool
 | [],[] =>true
 | (i,a) ::l,(j,b) ::m=>Nat.beq i j && j1p a b && r1t l m
 | _,_=>false
theorem b0u:∀ {l m:List (Nat×Bool)},r1t l m=true→l=m
 | [],[],_=>rfl
 | [],_ ::_,h=>by simp [r1t] at h
 | _ ::_,[],h=>by simp [r1t] at h
 | (i,a) ::l,(j,b) ::m,h=>by
  simp only [r1t,Bool.and_eq_true,Nat.beq_eq] at h
  rw [h.1.1,tI h.1.2,b0u h.2]
def eqT:TV→TV→Bool
 | .v a,t=>match t with
  | .v b=>eqV a b
  | _=>false
 | .sp l a,t=>match t with
  | .sp m b=>r1t l m && eqV a b
  | _=>false
 | _,_=>false
theorem e1h {a b:TV} (h:eqT a b=true):a=b:=by
 unfold eqT at h
 split at h
 ·split at h
  ·rw [kK _ _ h]
  ·cases h
 ·split at h
  ·simp only [Bool.and_eq_true] at h
   rw [b0u h.1,kK _ _ h.2]
  ·cases h
 ·cases h
theorem o0u {P:Program} {auto:Bool} {ev:Operand→Option Value} {o:Oper} (hb:R4 o.op=true) (H H':Heap) (n n':Nat) (ds:List Bool) {r:R} (h:j0n P auto ev o H n ds=some r):
  ∃ h',j0n P auto ev o H' n' ds=some ⟨r.v,h',r.obs,r.ds⟩:=by
 have mk:∀ {x:Option Value},mkR H ds x=some r→∃ h',mkR H' ds x=some ⟨r.v,h',r.obs,r.ds⟩:=fun {x} hx=>by
  cases x with
  | none=>cases hx
  | some v=>cases hx; exact⟨H',rfl⟩
 have mk2:∀ {x:Option (Value×List Prop)},o0p H ds x=some r→∃ h',o0p H' ds x=some ⟨r.v,h',r.obs,r.ds⟩:=fun {x} hx=>by
  cases x with
  | none=>cases hx
  | some v=>cases hx; exact⟨H',rfl⟩
 unfold j0n at h ⊢
 cases ho:o.op with
 | move x=>rw [ho] at h; exact mk h
 | assign x=>rw [ho] at h; exact mk h
 | build t ps=>
  rw [ho] at h
  dsimp only at h ⊢
  cases hp:bJ ev ps.toList with
  | none=>rw [hp] at h; cases h
  | some l=>rw [hp] at h; exact mk h
 | binOp op t x y k=>
  rw [ho] at h
  dsimp only at h ⊢
  cases h1:ev x with
  | none=>rw [h1] at h; cases h
  | some a=>
   cases h2:ev y with
   | none=>rw [h1,h2] at h; cases h
   | some b=>
    rw [h1,h2] at h
    have hn:d2g y=false:=by rw [ho] at hb; simpa [R4] using hb
    dsimp only at h ⊢
    rw [hn] at h ⊢
    dsimp only at h ⊢
    cases h3:i0s P op t a b with
    | none=>rw [h3] at h; exact mk2 h
    | some v=>rw [h3] at h; exact mk h
 | unOp op t x=>
  rw [ho] at h
  dsimp only at h ⊢
  cases h1:ev x with
  | none=>rw [h1] at h; cases h
  | some a=>
   rw [h1] at h
   dsimp only at h ⊢
   cases h2:pureV a with
   | false=>rw [h2] at h; cases h
   | true=>rw [h2] at h; exact mk h
 | makeInterface t x=>
  rw [ho] at h
  dsimp only at h ⊢
  split at h
  ·cases h; exact⟨H',rfl⟩
  ·cases h
 | makeFunc f a b=>
  rw [ho] at h
  dsimp only at h ⊢
  split at h
  ·cases h; exact⟨H',rfl⟩
  ·cases h
 | field t x f=>
  rw [ho] at h
  dsimp only at h ⊢
  cases h1:ev x with
  | none=>rw [h1] at h; cases h
  | some a=>rw [h1] at h; exact mk h
 | index t x ix=>
  rw [ho] at h
  dsimp only at h ⊢
  cases h1:ev x with
  | none=>rw [h1] at h; cases h
  | some a=>
   cases h2:ev ix with
   | none=>rw [h1,h2] at h; cases h
   | some b=>rw [h1,h2] at h; exact mk2 h
 | extract x i=>
  rw [ho] at h
  dsimp only at h ⊢
  cases h1:ev x with
  | none=>rw [h1] at h; cases h
  | some a=>rw [h1] at h; exact mk h
 | pick c x y=>rw [ho] at h; cases h
 | _=>rw [ho] at hb; cases hb
theorem h0k {o:Op} (h:R4 o=true):(∃ c x y,o= .pick c x y)∨y9 o=true:=by
 cases o <;> first | (cases h; done) | (exact .inr rfl) | (exact .inl ⟨_,_,_,rfl⟩)
theorem zO {X:Cx} {o:Oper} {conds:List (Nat×Bool)} {tm:List TV} {H:Heap} {n:Nat} {ds:List Bool} {r:CR} (hb:R4 o.op=true) (h:B0 X true o conds tm H n ds=some r) (H':Heap) (n':Nat):
  B0 X true o conds tm H' n' ds=some ⟨r.v,H',n',r.obs,ds⟩:=by
 unfold B0 at h ⊢
 cases hg:fJ X.P o with
 | false=>rw [hg] at h; cases h
 | true=>
 rw [hg] at h
 dsimp only at h ⊢
 cases hs:s2b X.P X.auto (evo tm conds) o.op with
 | some e=>rw [hs] at h; cases h
 | none=>
 rw [hs] at h
 dsimp only at h ⊢
 rcases h0k hb with ⟨c,x,y,ho⟩ | hst
 ·rw [ho] at h ⊢
  dsimp only at h ⊢
  cases h1:(P0 x && P0 y) with
  | false=>rw [h1] at h; cases h
  | true=>
   rw [h1] at h
   dsimp only at h ⊢
   cases h2:j0q X.gd tm conds c x y with
   | none=>rw [h2] at h; cases h
   | some v=>rw [h2] at h; cases h; rfl
 ·have hc:∀ c,o.op≠ .call c:=fun c e=>by rw [e] at hb; cases hb
  have hpk:∀ c x y,o.op≠ .pick c x y:=fun c x y e=>by rw [e] at hst; cases hst
  split at h
  ·rename_i e; exact absurd e (hpk _ _ _)
  ·rename_i e; exact absurd e (hc _)
  cases h1:j0n X.P X.auto (evo tm conds) o H n ds with
  | none=>rw [h1] at h; cases h
  | some r0=>
   rw [h1] at h
   obtain⟨h',e⟩:=o0u hb H H' n n' ds h1
   rw [e]
   dsimp only at h ⊢
   rw [hst] at h ⊢
   cases h
   rfl
theorem f0g {X:Cx} {os:List Oper} {o:Oper} {tm tm':List TV} {H:Heap} {n:Nat} {ds:List Bool} {kv kv':KV} {tv:TV} {r:CR} (hb:R4 o.op=true) (h:H6 X true os o tm H n ds kv=some (tm',kv',tv,r)) (H':Heap) (n':Nat):
  H6 X true os o tm H' n' ds kv=some (tm',kv',tv,⟨r.v,H',n',r.obs,ds⟩):=by
 rw [y4] at h ⊢
 split at h
 ·cases h
 ·cases h; rfl
 ·split at h
  ·cases h
  ·rename_i r1 ha
   cases h
   rcases B4 ha with ⟨r0,hbd,e⟩ | ⟨hq,_⟩
   ·have:=zO hb (by simpa using hbd) H' n'
    subst e
    unfold c0t
    rw [show (true || p0i _)=true from rfl,this]
   ·cases hq
theorem g0a {X:Cx} {q q':Bool} {os:List Oper} {o:Oper} {tm t1 t2:List TV} {H H':Heap} {n n':Nat} {ds ds':List Bool} {kv k1 k2:KV} {v1 v2:TV} {r1 r2:CR} (h:H6 X q os o tm H n ds kv=some (t1,k1,v1,r1)) (h':H6 X q' os o tm H' n' ds' kv=some (t2,k2,v2,r2)):t1=t2∧k1=k2:=by
 rw [y4] at h h'
 cases hg:D4 X.gd os o tm kv with
 | none=>rw [hg] at h; cases h
 | some p=>
  obtain⟨b,t,k,c⟩:=p
  rw [hg] at h h'
  cases b with
  | true=>cases h; cases h'; exact⟨rfl,rfl⟩
  | false=>
   dsimp only at h h'
   split at h
   ·cases h
   ·cases h
    split at h'
    ·cases h'
    ·cases h'; exact⟨rfl,rfl⟩
def flO (o:Oper):Bool:=match o.op with
 | .pick _ _ _=>true
 | .call c=>match c.callee with
  | .builtin b=>match w0g b with
   | true=>false
   | false=>match u1q b with
    | true=>false
    | false=>true
  | _=>false
 | p=>y9 p
def evF (X:Cx) (os:List Oper) (s0:St):Nat→Option (St×KV)
 | 0=>some (s0,[])
 | i+1=>match evF X os s0 i with
  | none=>none
  | some (s,kv)=>match u0h os i with
   | none=>none
   | some o=>I4 X (flO o) os o s kv
section
variable {X:Cx} {os:List Oper} {s0:St}
theorem M5 {i:Nat} {s':St} {kv':KV} (h:evF X os s0 (i+1)=some (s',kv')):∃ s kv o,evF X os s0 i=some (s,kv)∧os[i]? =some o∧I4 X (flO o) os o s kv=some (s',kv'):=by
 simp only [evF,O2] at h
 split at h
 ·cases h
 ·rename_i s kv hs
  split at h
  ·cases h
  ·rename_i o ho
   exact⟨s,kv,o,hs,ho,h⟩
theorem h1y {i:Nat} {s:St} {kv:KV} {o:Oper} (h:evF X os s0 i=some (s,kv)) (ho:os[i]? =some o):evF X os s0 (i+1)=I4 X (flO o) os o s kv:=by
 simp only [evF,O2,h,ho]
theorem e0x:∀ {j i:Nat} {si sj:St} {ki kj:KV},i≤j→evF X os s0 i=some (si,ki)→evF X os s0 j=some (sj,kj)→d5 sj.obs→d5 si.obs
 | 0,i,si,sj,ki,kj,hij,h1,h2,hl=>by
  obtain rfl:i=0:=by omega
  rw [h1] at h2; cases h2; exact hl
 | j+1,i,si,sj,ki,kj,hij,h1,h2,hl=>by
  by_cases e:i=j+1
  ·subst e; rw [h1] at h2; cases h2; exact hl
  ·obtain⟨s,kv,o,hs,_,ho⟩:=M5 h2
   exact e0x (by omega) h1 hs (gJ ho hl)
theorem k0b:∀ {j i:Nat} {r:St×KV},i≤j→evF X os s0 j=some r→∃ q,evF X os s0 i=some q
 | 0,i,r,hij,h=>by
  obtain rfl:i=0:=by omega
  exact⟨r,h⟩
 | j+1,i,r,hij,h=>by
  by_cases e:i=j+1
  ·subst e; exact⟨r,h⟩
  ·obtain⟨s',kv'⟩:=r
   obtain⟨s,kv,o,hs,_,_⟩:=M5 h
   exact k0b (by omega) hs
theorem M7:∀ {i:Nat} {s:St} {kv:KV},evF X os s0 i=some (s,kv)→(∃ β,KVok kv β)∧s.tmps.length=s0.tmps.length
 | 0,s,kv,h=>by simp only [evF] at h; cases h; exact⟨⟨fun _=>false,fun p hp=>by cases hp⟩,rfl⟩
 | i+1,s,kv,h=>by
  obtain⟨s1,k1,o,h1,_,h2⟩:=M5 h
  obtain⟨e1,e2⟩:=M7 h1
  rw [w8] at h2
  split at h2
  ·cases h2
  ·rename_i he
   cases h2
   obtain⟨g1,_,g3⟩:=G1 he e1
   exact⟨g1,by rw [L4]; omega⟩
theorem tZ {β:Nat→Bool} :∀ {j i:Nat} {si sj:St} {ki kj:KV},i≤j→evF X os s0 i=some (si,ki)→evF X os s0 j=some (sj,kj)→KVok kj β→KVok ki β
 | 0,i,si,sj,ki,kj,hij,h1,h2,hk=>by
  obtain rfl:i=0:=by omega
  rw [h1] at h2; cases h2; exact hk
 | j+1,i,si,sj,ki,kj,hij,h1,h2,hk=>by
  by_cases e:i=j+1
  ·subst e; rw [h1] at h2; cases h2; exact hk
  ·obtain⟨s,kv,o,hs,_,ho⟩:=M5 h2
   rw [w8] at ho
   split at ho
   ·cases ho
   ·rename_i he
    cases ho
    exact tZ (by omega) h1 hs ((G1 he (M7 hs).1).2.1 β hk)
theorem cZ {ρ:Num} {β:Nat→Bool} {t:Nat} {r:Value} :∀ {j i:Nat} {si sj:St} {ki kj:KV},i≤j→evF X os s0 i=some (si,ki)→evF X os s0 j=some (sj,kj)→KVok kj β→
  (∀ k o,i≤k→k < j→os[k]? =some o→o.dst≠some t)→(B7 ρ β (v7 si.tmps t) r↔B7 ρ β (v7 sj.tmps t) r)
 | 0,i,si,sj,ki,kj,hij,h1,h2,_,_=>by
  obtain rfl:i=0:=by omega
  rw [h1] at h2; cases h2; exact Iff.rfl
 | j+1,i,si,sj,ki,kj,hij,h1,h2,hk,hw=>by
  by_cases e:i=j+1
  ·subst e; rw [h1] at h2; cases h2; exact Iff.rfl
  ·obtain⟨s,kv,o,hs,hoj,ho⟩:=M5 h2
   have hkv:KVok kv β:=tZ (by omega) hs h2 hk
   exact (cZ (by omega) h1 hs hkv (fun k o' hk1 hk2=>hw k o' hk1 (by omega))).trans (nS ho hk (hw j o (by omega) (by omega) hoj) r)
theorem zM:∀ {i:Nat} {s:St} {kv:KV},evF X os s0 i=some (s,kv)→s.rd=s0.rd∧s.mks=s0.mks∧s.bs=s0.bs
 | 0,s,kv,h=>by simp only [evF] at h; cases h; exact⟨rfl,rfl,rfl⟩
 | i+1,s,kv,h=>by
  obtain⟨s1,k1,o,h1,_,h2⟩:=M5 h
  obtain⟨e1,e2,e3⟩:=zM h1
  rw [w8] at h2
  split at h2
  ·cases h2
  ·cases h2; exact⟨e1,e2,e3⟩
theorem cB:∀ {j i:Nat} {si sj:St} {ki kj:KV},i≤j→evF X os s0 i=some (si,ki)→evF X os s0 j=some (sj,kj)→(∀ k o,i≤k→k < j→os[k]? =some o→flO o=true)→sj.heap=si.heap∧sj.nid=si.nid
 | 0,i,si,sj,ki,kj,hij,h1,h2,_=>by
  obtain rfl:i=0:=by omega
  rw [h1] at h2; cases h2; exact⟨rfl,rfl⟩
 | j+1,i,si,sj,ki,kj,hij,h1,h2,hw=>by
  by_cases e:i=j+1
  ·subst e; rw [h1] at h2; cases h2; exact⟨rfl,rfl⟩
  ·obtain⟨s,kv,o,hs,hoj,ho⟩:=M5 h2
   rw [hw j o (by omega) (by omega) hoj] at ho
   obtain⟨q1,q2,_⟩:=iJ ho
   obtain⟨g1,g2⟩:=cB (by omega) h1 hs (fun k o' hk1 hk2=>hw k o' hk1 (by omega))
   exact⟨q1.trans g1,q2.trans g2⟩
end
def trF (X:Cx) (os:List Oper):List Oper→St→KV→Option (List (St×KV))
 | [],s,kv=>some [(s,kv)]
 | o ::r,s,kv=>match I4 X (flO o) os o s kv with
  | none=>none
  | some (s',kv')=>match trF X os r s' kv' with
   | none=>none
   | some l=>some ((s,kv) ::l)
theorem i0r {X:Cx} {os:List Oper} {s0:St} :∀ {r:List Oper} {i:Nat} {s:St} {kv:KV} {l:List (St×KV)},trF X os r s kv=some l→evF X os s0 i=some (s,kv)→r=os.drop i→l.length=r.length+1∧∀ k p,l[k]? =some p→evF X os s0 (i+k)=some p
 | [],i,s,kv,l,h,hs,_=>by
  simp only [trF] at h
  cases h
  refine⟨rfl,fun k p hk=> ?_⟩
  cases k with
  | zero=>simp only [List.getElem?_cons_zero,Option.some.injEq] at hk; subst hk; exact hs
  | succ k=>simp at hk
 | o ::r,i,s,kv,l,h,hs,hr=>by
  simp only [trF] at h
  have ho:os[i]? =some o:=by
   have:=congrArg (fun q=>q[0]?) hr
   simp only [List.getElem?_cons_zero,List.getElem?_drop,Nat.add_zero] at this
   exact this.symm
  have hr':r=os.drop (i+1):=by
   have:=congrArg List.tail hr
   simpa using this
  split at h
  ·cases h
  ·rename_i s' kv' he
   split at h
   ·cases h
   ·rename_i l' hl'
    cases h
    obtain⟨e1,e2⟩:=i0r hl' ((h1y hs ho).trans he) hr'
    refine⟨by simp [e1],fun k p hk=> ?_⟩
    cases k with
    | zero=>simp only [List.getElem?_cons_zero,Option.some.injEq] at hk; subst hk; exact hs
    | succ k=>
     simp only [List.getElem?_cons_succ] at hk
     rw [show i+(k+1)=i+1+k by omega]
     exact e2 k p hk
def p0g:Nat→List Oper→List (St×KV)→List (Nat×St)
 | _,[],_=>[]
 | _,_ ::_,[] =>[]
 | i,o ::r,_ ::l=>match flO o with
  | true=>p0g (i+1) r l
  | false=>match l with
   | [] =>[]
   | (s,_) ::_=>(i+1,s) ::p0g (i+1) r l
theorem rX:∀ {r:List Oper} {i:Nat} {l:List (St×KV)},l.length=r.length+1→∀ k o p,r[k]? =some o→flO o=false→l[k+1]? =some p→(i+k+1,p.1)∈p0g i r l
 | [],i,l,_,k,o,p,ho,_,_=>by simp at ho
 | x ::r,i,[],hl,k,o,p,ho,hf,hp=>by simp at hl
 | x ::r,i,y ::l,hl,k,o,p,ho,hf,hp=>by
  have hl':l.length=r.length+1:=by simpa using hl
  simp only [List.getElem?_cons_succ] at hp
  unfold p0g
  cases k with
  | zero=>
   simp only [List.getElem?_cons_zero,Option.some.injEq] at ho
   subst ho
   rw [hf]
   cases l with
   | nil=>simp at hp
   | cons z l=>
    simp only [List.getElem?_cons_zero,Option.some.injEq] at hp
    subst hp
    simp
  | succ k=>
   simp only [List.getElem?_cons_succ] at ho
   have:=rX (i:=i+1) hl' k o p ho hf hp
   rw [show i+(k+1)+1=i+1+k+1 by omega]
   split
   ·exact this
   ·cases l with
    | nil=>simp at hp
    | cons z l=>exact List.mem_cons_of_mem _ this
def y1g:List (Nat×List Nat)→List Nat→Bool
 | [],_=>true
 | (i,_) ::r,l=>C8 i l && y1g r l
theorem zL:∀ {a:List (Nat×List Nat)} {l:List Nat},y1g a l=true→∀ p∈a,p.1∈l
 | [],_,_,p,hp=>by cases hp
 | (i,x) ::r,l,h,p,hp=>by
  simp only [y1g,Bool.and_eq_true,memN_iff] at h
  rcases List.mem_cons.1 hp with rfl | hp
  ·exact h.1
  ·exact zL h.2 p hp
def spF (os:List Oper):Nat→List Oper→List (Nat×List Nat)→Option (List (Nat×List Nat))
 | _,[],acc=>some acc
 | i,o ::r,acc=>match flO o with
  | true=>spF os (i+1) r acc
  | false=>match y1g acc (C9 os o) with
   | false=>none
   | true=>spF os (i+1) r ((i,C9 os o) ::acc)
theorem uS {os:List Oper} :∀ {r:List Oper} {i:Nat} {acc z:List (Nat×List Nat)},spF os i r acc=some z→r=os.drop i→
  (∀ p∈acc,p.1 < i∧∃ o,os[p.1]? =some o∧flO o=false∧p.2=C9 os o)→(∀ j o,j < i→os[j]? =some o→flO o=false→(j,C9 os o)∈acc)→
  (∀ j k oj ok,j < k→k < i→os[j]? =some oj→os[k]? =some ok→flO oj=false→flO ok=false→j∈C9 os ok)→
  (∀ p∈z,∃ o,os[p.1]? =some o∧flO o=false∧p.2=C9 os o)∧(∀ j o,os[j]? =some o→flO o=false→(j,C9 os o)∈z)∧
  (∀ j k oj ok,j < k→os[j]? =some oj→os[k]? =some ok→flO oj=false→flO ok=false→j∈C9 os ok)
 | [],i,acc,z,h,hr,h1,h2,h3=>by
  simp only [spF] at h
  cases h
  have hi:os.length≤i:=by
   have:=congrArg List.length hr
   simp only [List.length_nil,List.length_drop] at this
   omega
  have lt:∀ {j o},os[j]? =some o→j < i:=fun {j o} hj=>by
   have:=(List.getElem?_eq_some_iff.1 hj).1
   omega
  exact⟨fun p hp=>(h1 p hp).2,fun j o hj hf=>h2 j o (lt hj) hj hf,fun j k oj ok hjk hj hk fj fk=>h3 j k oj ok hjk (lt hk) hj hk fj fk⟩
 | o ::r,i,acc,z,h,hr,h1,h2,h3=>by
  have ho:os[i]? =some o:=by
   have:=congrArg (fun q=>q[0]?) hr
   simp only [List.getElem?_cons_zero,List.getElem?_drop,Nat.add_zero] at this
   exact this.symm
  have hr':r=os.drop (i+1):=by
   have:=congrArg List.tail hr
   simpa using this
  simp only [spF] at h
  split at h
  ·rename_i hf
   refine uS h hr' (fun p hp=>⟨by have:=(h1 p hp).1; omega,(h1 p hp).2⟩) (fun j oj hj hoj fj=> ?_) (fun j k oj ok hjk hk hoj hok fj fk=> ?_)
   ·by_cases e:j=i
    ·subst e; rw [ho] at hoj; cases hoj; rw [hf] at fj; cases fj
    ·exact h2 j oj (by omega) hoj fj
   ·by_cases e:k=i
    ·subst e; rw [ho] at hok; cases hok; rw [hf] at fk; cases fk
    ·exact h3 j k oj ok hjk (by omega) hoj hok fj fk
  ·rename_i hf
   split at h
   ·cases h
   ·rename_i hs
    refine uS h hr' (fun p hp=> ?_) (fun j oj hj hoj fj=> ?_) (fun j k oj ok hjk hk hoj hok fj fk=> ?_)
    ·rcases List.mem_cons.1 hp with rfl | hp
     ·exact⟨by show i < i+1; omega,o,ho,hf,rfl⟩
     ·exact⟨by have:=(h1 p hp).1; omega,(h1 p hp).2⟩
    ·by_cases e:j=i
     ·subst e; rw [ho] at hoj; cases hoj; exact List.mem_cons_self
     ·exact List.mem_cons_of_mem _ (h2 j oj (by omega) hoj fj)
    ·by_cases e:k=i
     ·subst e
      rw [ho] at hok
      cases hok
      exact zL hs _ (h2 j oj hjk hoj fj)
     ·exact h3 j k oj ok hjk (by omega) hoj hok fj fk
def c0q (p k:Nat):List (Nat×List Nat)→Bool
 | [] =>true
 | (d,_) ::r=>(Nat.blt d p || Nat.ble k d) && c0q p k r
theorem mB {p k:Nat} :∀ {l:List (Nat×List Nat)},c0q p k l=true→∀ q∈l,q.1 < p∨k≤q.1
 | [],_,q,hq=>by cases hq
 | (d,x) ::r,h,q,hq=>by
  simp only [c0q,Bool.and_eq_true,Bool.or_eq_true,Nat.blt_eq,Nat.ble_eq] at h
  rcases List.mem_cons.1 hq with rfl | hq
  ·exact h.1
  ·exact mB h.2 q hq
def p0f (k p:Nat):List (Nat×List Nat)→Bool
 | [] =>false
 | (d,rd) ::r=>(Nat.blt d p && C8 k rd) || p0f k p r
theorem rB {k p:Nat} :∀ {l:List (Nat×List Nat)},p0f k p l=true→∃ q∈l,q.1 < p∧k∈q.2
 | [],h=>by simp [p0f] at h
 | (d,rd) ::r,h=>by
  simp only [p0f,Bool.or_eq_true,Bool.and_eq_true,Nat.blt_eq,memN_iff] at h
  rcases h with h | h
  ·exact⟨_,List.mem_cons_self,h⟩
  ·obtain⟨q,hq,h'⟩:=rB h
   exact⟨q,List.mem_cons_of_mem _ hq,h'⟩
def rK (re:List Nat) (p:Nat):List (Nat×List Nat)→Bool
 | [] =>false
 | (d,_) ::r=>(Nat.ble p d && C8 d re) || rK re p r
theorem lI {re:List Nat} {p:Nat} :∀ {l:List (Nat×List Nat)},rK re p l=true→∃ q∈l,p≤q.1∧q.1∈re
 | [],h=>by simp [rK] at h
 | (d,x) ::r,h=>by
  simp only [rK,Bool.or_eq_true,Bool.and_eq_true,Nat.ble_eq,memN_iff] at h
  rcases h with h | h
  ·exact⟨_,List.mem_cons_self,h⟩
  ·obtain⟨q,hq,h'⟩:=lI h
   exact⟨q,List.mem_cons_of_mem _ hq,h'⟩
def e0l (re:List Nat) (k:Nat) (sp:List (Nat×List Nat)):List (Nat×St)→List (Nat×St)
 | [] =>[]
 | (p,s) ::r=>match Nat.ble p k && c0q p k sp with
  | true=>e0l re k sp r
  | false=>match p0f k p sp with
   | true=>e0l re k sp r
   | false=>match rK re p sp with
    | true=>e0l re k sp r
    | false=>(p,s) ::e0l re k sp r
theorem rH {re:List Nat} {k:Nat} {sp:List (Nat×List Nat)} :∀ {l:List (Nat×St)} {p:Nat} {s:St},(p,s)∈l→(p≤k∧c0q p k sp=true)∨p0f k p sp=true∨rK re p sp=true∨(p,s)∈e0l re k sp l
 | [],p,s,h=>by cases h
 | (p',s') ::r,p,s,h=>by
  unfold e0l
  rcases List.mem_cons.1 h with e | h
  ·cases e
   split
   ·rename_i c
    simp only [Bool.and_eq_true,Nat.ble_eq] at c
    exact .inl c
   ·split
    ·rename_i c; exact .inr (.inl c)
    ·split
     ·rename_i c; exact .inr (.inr (.inl c))
     ·exact .inr (.inr (.inr List.mem_cons_self))
  ·rcases rH (re:=re) (k:=k) (sp:=sp) h with h1 | h1 | h1 | h1
   ·exact .inl h1
   ·exact .inr (.inl h1)
   ·exact .inr (.inr (.inl h1))
   ·refine .inr (.inr (.inr ?_))
    split
    ·exact h1
    ·split
     ·exact h1
     ·split
      ·exact h1
      ·exact List.mem_cons_of_mem _ h1
def c2o (X:Cx) (os:List Oper) (o:Oper) (tm:List TV) (ds:List Bool) (kv:KV) (tv:TV):St→Option (List Prop)
 | ⟨_,hp,nid,_,_,_,_,_,_⟩=>match H6 X true os o tm hp nid ds kv with
  | none=>none
  | some (_,_,tv',⟨_,_,_,ob,_⟩)=>match eqT tv' tv with
   | true=>some ob
   | false=>none
theorem b1e {X:Cx} {os:List Oper} {o:Oper} {tm:List TV} {ds:List Bool} {kv:KV} {tv:TV} {s:St} {ob:List Prop} (h:c2o X os o tm ds kv tv s=some ob):∃ t k r,H6 X true os o tm s.heap s.nid ds kv=some (t,k,tv,r)∧r.obs=ob:=by
 unfold c2o at h
 dsimp only at h
 split at h
 ·cases h
 ·rename_i he
  split at h
  ·rename_i hq
   cases h
   rw [e1h hq] at he
   exact⟨_,_,_,he,rfl⟩
  ·cases h
def k0x (X:Cx) (os:List Oper) (o:Oper) (tm:List TV) (ds:List Bool) (kv:KV) (tv:TV):List (Nat×St)→Option (List Prop)
 | [] =>some []
 | (_,s) ::r=>match c2o X os o tm ds kv tv s with
  | none=>none
  | some ob=>match k0x X os o tm ds kv tv r with
   | none=>none
   | some ob'=>some (ob++ob')
theorem oJ {X:Cx} {os:List Oper} {o:Oper} {tm:List TV} {ds:List Bool} {kv:KV} {tv:TV} :∀ {l:List (Nat×St)} {ob:List Prop},k0x X os o tm ds kv tv l=some ob→d5 ob→∀ p∈l,∃ t k r,H6 X true os o tm p.2.heap p.2.nid ds kv=some (t,k,tv,r)∧d5 r.obs
 | [],_,_,_,p,hp=>by cases hp
 | (i,s) ::r,ob,h,hl,p,hp=>by
  simp only [k0x] at h
  split at h
  ·cases h
  ·rename_i ob1 h1
   split at h
   ·cases h
   ·rename_i ob2 h2
    cases h
    rw [l6] at hl
    rcases List.mem_cons.1 hp with rfl | hp
    ·obtain⟨t,k,r',e1,e2⟩:=b1e h1
     exact⟨t,k,r',e1,by rw [e2]; exact hl.1⟩
    ·exact oJ h2 hl.2 p hp
def m1c (X:Cx) (os:List Oper) (cuts:List (Nat×St)) (sp:List (Nat×List Nat)) (k:Nat) (o:Oper) (kv:KV):St→Option (List Prop)
 | ⟨tm,hp,nid,ds,_,_,_,_,_⟩=>match e0l (C9 os o) k sp cuts with
  | [] =>some []
  | c ::cs=>match H6 X true os o tm hp nid ds kv with
   | none=>none
   | some (_,_,tv,_)=>k0x X os o tm ds kv tv (c ::cs)
def s0g (X:Cx) (os:List Oper) (cuts:List (Nat×St)) (sp:List (Nat×List Nat)):Nat→List Oper→List (St×KV)→Option (List Prop)
 | _,[],_=>some []
 | _,_ ::_,[] =>some []
 | k,o ::r,(s,kv) ::l=>match flO o && !R4 o.op with
  | false=>s0g X os cuts sp (k+1) r l
  | true=>match m1c X os cuts sp k o kv s with
   | none=>none
   | some ob=>match s0g X os cuts sp (k+1) r l with
    | none=>none
    | some ob'=>some (ob++ob')
theorem gG {X:Cx} {os:List Oper} {cuts:List (Nat×St)} {sp:List (Nat×List Nat)} :∀ {r:List Oper} {k0:Nat} {l:List (St×KV)} {ob:List Prop},s0g X os cuts sp k0 r l=some ob→d5 ob→l.length=r.length+1→
  ∀ k o p,r[k]? =some o→l[k]? =some p→flO o=true→R4 o.op=false→∃ ob',m1c X os cuts sp (k0+k) o p.2 p.1=some ob'∧d5 ob'
 | [],_,_,_,_,_,_,k,o,p,ho,_,_,_=>by simp at ho
 | _ ::_,_,[],_,_,_,hl,k,o,p,ho,hp,_,_=>by simp at hl
 | x ::r,k0,(s,kv) ::l,ob,h,ha,hl,k,o,p,ho,hp,hf,hb=>by
  have hl':l.length=r.length+1:=by simpa using hl
  simp only [s0g] at h
  split at h
  ·rename_i hc
   cases k with
   | zero=>
    simp only [List.getElem?_cons_zero,Option.some.injEq] at ho
    subst ho
    rw [hf,hb] at hc
    cases hc
   | succ k=>
    simp only [List.getElem?_cons_succ] at ho hp
    rw [show k0+(k+1)=k0+1+k by omega]
    exact gG h ha hl' k o p ho hp hf hb
  ·split at h
   ·cases h
   ·rename_i ob1 h1
    split at h
    ·cases h
    ·rename_i ob2 h2
     cases h
     rw [l6] at ha
     cases k with
     | zero=>
      simp only [List.getElem?_cons_zero,Option.some.injEq] at ho hp
      subst ho hp
      exact⟨ob1,h1,ha.1⟩
     | succ k=>
      simp only [List.getElem?_cons_succ] at ho hp
      rw [show k0+(k+1)=k0+1+k by omega]
      exact gG h2 ha.2 hl' k o p ho hp hf hb
def m1t:List (St×KV)→Option St
 | [] =>none
 | [(s,_)] =>some s
 | _ ::x ::r=>m1t (x ::r)
theorem rW:∀ {l:List (St×KV)} {s:St},m1t l=some s→∃ kv,l[l.length-1]? =some (s,kv)
 | [],s,h=>by cases h
 | [(s',kv)],s,h=>by cases h; exact⟨kv,rfl⟩
 | x ::y ::r,s,h=>by
  obtain⟨kv,e⟩:=rW (l:=y ::r) h
  exact⟨kv,by simpa using e⟩
def St.more:St→List Prop→St
 | ⟨tm,hp,nid,ds,obs,lp,rd,mq,bs⟩,ob=>⟨tm,hp,nid,ds,ob++obs,lp,rd,mq,bs⟩
def uI (os:List Oper):Option (List (Nat×List Nat)):=match k0g os os.length with
 | false=>none
 | true=>spF os 0 os []
def f0i (X:Cx) (os:List Oper) (sp:List (Nat×List Nat)) (s:St):Option St:=
 match trF X os os s [] with
 | none=>none
 | some l=>match s0g X os ((0,s) ::p0g 0 os l) sp 0 os l with
  | none=>none
  | some ob=>match m1t l with
   | none=>none
   | some sn=>some (sn.more ob)
structure Spine (X:Cx) (os:List Oper) (s0 sn:St) (kn:KV):Prop where
 draws:Draws os os.length
 last:evF X os s0 os.length=some (sn,kn)
 obs:d5 sn.obs
 chain:∀ j k oj ok,j < k→os[j]? =some oj→os[k]? =some ok→flO oj=false→flO ok=false→j∈C9 os ok
 float:∀ k o s kv t1 k1 tv r p sp kp,os[k]? =some o→flO o=true→evF X os s0 k=some (s,kv)→H6 X true os o s.tmps s.heap s.nid s.ds kv=some (t1,k1,tv,r)→d5 r.obs→
  evF X os s0 p=some (sp,kp)→p≤os.length→(p=0∨∃ q op,p=q+1∧os[q]? =some op∧flO op=false)→
  (∀ d od,os[d]? =some od→flO od=false→d < p→k ∉ C9 os od)→(∀ d od,os[d]? =some od→flO od=false→p≤d→d ∉ C9 os o)→
  ∃ t2 k2 r2,H6 X true os o s.tmps sp.heap sp.nid s.ds kv=some (t2,k2,tv,r2)∧d5 r2.obs
theorem jF {X:Cx} {os:List Oper} {sp:List (Nat×List Nat)} {s s':St} (hsp:uI os=some sp) (h:f0i X os sp s=some s') (hl:d5 s'.obs):∃ sn kn ob,s'=sn.more ob∧Spine X os s sn kn:=by
 unfold uI at hsp
 split at hsp
 ·cases hsp
 rename_i hd
 obtain⟨z1,z2,z3⟩:=uS hsp rfl (fun p hp=>by cases hp) (fun j o hj=>by omega) (fun j k oj ok hjk hk=>by omega)
 unfold f0i at h
 split at h
 ·cases h
 rename_i l htr
 split at h
 ·cases h
 rename_i ob hck
 split at h
 ·cases h
 rename_i sn hlast
 cases h
 obtain⟨kn,hln⟩:=rW hlast
 obtain⟨e1,e2⟩:=i0r (s0:=s) (i:=0) htr rfl rfl
 have hob:d5 ob∧d5 sn.obs:=by
  have:(sn.more ob).obs=ob++sn.obs:=by cases sn; rfl
  rw [this,l6] at hl
  exact hl
 have hlast':evF X os s os.length=some (sn,kn):=by
  have:=e2 _ _ hln
  rw [show 0+(l.length-1)=os.length by omega] at this
  exact this
 refine⟨sn,kn,ob,rfl,oN hd,hlast',hob.2,z3,fun k o sk kv t1 k1 tv r p sq kp ho hf hs he hr hp hpn hcut hlate hearly=> ?_⟩
 have hkn:k < os.length:=(List.getElem?_eq_some_iff.1 ho).1
 cases hb:R4 o.op with
 | true=>exact⟨_,_,_,f0g hb he _ _,hr⟩
 | false=>
  have atl:∀ i q,evF X os s i=some q→i≤os.length→l[i]? =some q:=fun i q hq hi=>by
   have hil:i < l.length:=by omega
   have:l[i]? =some l[i] :=by simp [hil]
   have h2:=e2 i _ this
   rw [Nat.zero_add,hq] at h2
   rw [this,h2]
  obtain⟨ob',hone,hob'⟩:=gG hck hob.1 e1 k o _ ho (atl k _ hs (by omega)) hf hb
  have hin:(p,sq)∈(0,s) ::p0g 0 os l:=by
   rcases hcut with rfl | ⟨q,oq,rfl,hoq,hfq⟩
   ·have:evF X os s 0=some (s,[]):=rfl
    rw [this] at hp
    cases hp
    exact List.mem_cons_self
   ·refine List.mem_cons_of_mem _ ?_
    have:=rX (i:=0) e1 q oq _ hoq hfq (atl (q+1) _ hp hpn)
    simpa using this
  rcases rH (re:=C9 os o) (k:=k) (sp:=sp) hin with hc | hc | hc | hc
  ·
   obtain⟨hpk,hno⟩:=hc
   have hq:=cB hpk hp hs (fun j oj hj1 hj2 hoj=>by
    cases hfj:flO oj with
    | true=>rfl
    | false=>
     have:=mB hno _ (z2 j oj hoj hfj)
     simp only at this
     omega)
   rw [← hq.1,← hq.2]
   exact⟨_,_,_,he,hr⟩
  ·obtain⟨q,hq,h1,h2⟩:=rB hc
   obtain⟨oq,hoq,hfq,e⟩:=z1 q hq
   rw [e] at h2
   exact absurd h2 (hlate q.1 oq hoq hfq h1)
  ·obtain⟨q,hq,h1,h2⟩:=lI hc
   obtain⟨oq,hoq,hfq,e⟩:=z1 q hq
   exact absurd h2 (hearly q.1 oq hoq hfq h1)
  ·simp only [Nat.zero_add] at hone
   unfold m1c at hone
   dsimp only at hone
   split at hone
   ·rename_i hn
    rw [hn] at hc
    cases hc
   ·rename_i hn
    rw [hn] at hc
    rw [he] at hone
    dsimp only at hone
    obtain⟨t2,k2,r2,g1,g2⟩:=oJ hone hob' _ hc
    exact⟨t2,k2,r2,g1,g2⟩
structure HalfS (X:Cx) (J:Inv X.P) (B:Nat) (M:Nat→Prop) (w0:Bas) (os:List Oper) (s0:St) (a0:Act) (ρ0:Num) (sn:St) (kn:KV) (listed:Array Bool) (a:Act) (w:World):Prop where
 size:listed.size=os.length
 closed:∀ j o,os[j]? =some o→Lst listed j→∀ e∈l7 o,Lst listed e
 asize:a.tmps.size=s0.tmps.length
 defers:a.defers=w0.dfs
 base:B≤w.heap.size
 inv:J.I w
 keeps:Keeps B M w0.w w
 old:∀ t,(∀ k o,Lst listed k→os[k]? =some o→o.dst≠some t)→a.tmps.getD t undef=a0.tmps.getD t undef
 cut:∃ p sp kp ρ,evF X os s0 p=some (sp,kp)∧p≤os.length∧(p=0∨∃ q op,p=q+1∧os[q]? =some op∧flO op=false)∧(∀ j o,os[j]? =some o→flO o=false→(Lst listed j↔j < p))∧Agree s0.nid ρ0 ρ∧s0.nid≤sp.nid∧
  ∀ ρ',Agree sp.nid ρ ρ'→Sim X.P B M ρ' sp.heap w∧∀ k o d,Lst listed k→os[k]? =some o→o.dst=some d→∀ β,KVok kn β→B7 ρ' β (v7 sn.tmps d) (a.tmps.getD d undef)
theorem gS {os:List Oper} {listed:Array Bool} (hcl:∀ j o,os[j]? =some o→Lst listed j→∀ e∈l7 o,Lst listed e) {o:Oper} (hpre:∀ e∈l7 o,Lst listed e):∀ e∈C9 os o,Lst listed e:=by
 refine U3 (L:=fun j=>Lst listed j) (fun p hp e he=> ?_) 400 (l7 o) [] hpre (fun p hp=>by cases hp)
 unfold nC at he
 split at he
 ·rename_i op hop; exact hcl p op hop hp e he
 ·cases he
theorem o0c {X:Cx} {J:Inv X.P} (hX:CxOk X J) {B:Nat} {M:Nat→Prop} (hp:Par X.P B M) {w0:Bas} {os:List Oper} {s0 sn:St} {kn:KV} (hd:Spine X os s0 sn kn) {a0:Act} {ρ0:Num}
  (h0:∀ ρ',Agree s0.nid ρ0 ρ'→∀ β t,B7 ρ' β (v7 s0.tmps t) (a0.tmps.getD t undef)) {listed:Array Bool} {a:Act} {w:World}
  (h:HalfS X J B M w0 os s0 a0 ρ0 sn kn listed a w) {i:Nat} (hr:i∈Region.ready .any ⟨os⟩ listed) {rb:Option Nat} {K:Act→World→Prop} {Q:Exit→Act→World→Prop}
  (hK:∀ a' w',HalfS X J B M w0 os s0 a0 ρ0 sn kn (listed.setIfInBounds i true) a' w'→K a' w'):wpOpIn (Fl rb) 0 X.P ⟨os⟩ Q i K a w:=by
 obtain⟨⟨hi,hnl⟩,o,ho,hpre⟩:=ready_iff.1 hr
 have hin:i < os.length:=(List.getElem?_eq_some_iff.1 ho).1
 have hisz:i < listed.size:=hi
 obtain⟨p,sp,kp,ρ,hsp,hpn,hcut,hL,hag,hnid,hρ⟩:=h.cut
 obtain⟨⟨s1,k1⟩,hq1⟩:=k0b (i:=i+1) (by omega) hd.last
 obtain⟨si,ki,o',hsi,ho',hop⟩:=M5 hq1
 rw [ho] at ho'
 cases ho'
 have hobs:=e0x (by omega) hq1 hd.last hd.obs
 obtain⟨_,elen⟩:=M7 hsi
 rw [w8] at hop
 split at hop
 ·cases hop
 rename_i tmps' kv1 tv r he
 cases hop
 simp only [l6] at hobs
 have hsub:∀ β,KVok kn β→KVok k1 β:=fun β hβ=>tZ (by omega) hq1 hd.last hβ
 have hsubi:∀ β,KVok kn β→KVok ki β:=fun β hβ=>tZ (by omega) hsi hd.last hβ
 have hre:=gS h.closed hpre
 have wr:∀ k ok t,t∈looks os o→os[k]? =some ok→ok.dst=some t→k=i∨k∈l7 o∨i∈l7 ok:=fun k ok t ht hok hdk=>
  hd.draws.slot i o hin ho t ht k ok (List.getElem?_eq_some_iff.1 hok).1 hok hdk
 have hT:∀ ρ',Agree sp.nid ρ ρ'→∀ β,KVok kn β→∀ t∈looks os o,B7 ρ' β (v7 si.tmps t) (a.tmps.getD t undef):=by
  intro ρ' ha β hβ t ht
  by_cases hw:∃ k ok,Lst listed k∧os[k]? =some ok∧ok.dst=some t
  ·obtain⟨k,ok,hlk,hok,hdk⟩:=hw
   have hk:k < os.length:=(List.getElem?_eq_some_iff.1 hok).1
   have hki:k < i:=by
    rcases wr k ok t ht hok hdk with e | e | e
    ·subst e; exact absurd hlk hnl
    ·exact hd.draws.fwd i o ho k e
    ·exact absurd (h.closed k ok hok hlk i e) hnl
   have:=(hρ ρ' ha).2 k ok t hlk hok hdk β hβ
   refine (cZ (by omega:i≤os.length) hsi hd.last hβ (fun k2 o2 hk1 hk2 ho2 hd2=> ?_)).2 this
   have:=hd.draws.dup k k2 ok o2 t hk hk2 hok ho2 hdk hd2
   omega
  ·have hno:∀ k ok,Lst listed k→os[k]? =some ok→ok.dst≠some t:=fun k ok hlk hok e=>hw ⟨k,ok,hlk,hok,e⟩
   rw [h.old t hno]
   refine (cZ (Nat.zero_le i) rfl hsi (hsubi β hβ) (fun k ok _ hk hok hdk=> ?_)).1 (h0 ρ' (fun j hj=>(ha j (by omega)).trans (hag j hj)) β t)
   rcases wr k ok t ht hok hdk with e | e | e
   ·omega
   ·exact hno k ok (hpre k e) hok hdk
   ·have:=hd.draws.fwd k ok hok i e
    omega
 have mkOld:∀ v:Value,∀ t,(∀ k ok,Lst (listed.setIfInBounds i true) k→os[k]? =some ok→ok.dst≠some t)→(a.put o.dst v).tmps.getD t undef=a0.tmps.getD t undef:=fun v t hno=>by
  rw [D6,if_neg (fun hh=>hno i o ((n6 hisz).2 (.inl rfl)) ho hh.1)]
  exact h.old t (fun k ok hlk hok=>hno k ok ((n6 hisz).2 (.inr hlk)) hok)
 have mkClosed:∀ j oj,os[j]? =some oj→Lst (listed.setIfInBounds i true) j→∀ e∈l7 oj,Lst (listed.setIfInBounds i true) e:=fun j oj hoj hlj e he'=>by
  rw [n6 hisz] at hlj ⊢
  rcases hlj with rfl | hlj
  ·rw [ho] at hoj; cases hoj
   exact .inr (hpre e he')
  ·exact .inr (h.closed j oj hoj hlj e he')
 have mkNew:∀ (v:Value) (ρ':Num),(∀ β,KVok kn β→B7 ρ' β tv v)→(∀ k ok d,Lst listed k→os[k]? =some ok→ok.dst=some d→∀ β,KVok kn β→B7 ρ' β (v7 sn.tmps d) (a.tmps.getD d undef))→
   ∀ k ok d,Lst (listed.setIfInBounds i true) k→os[k]? =some ok→ok.dst=some d→∀ β,KVok kn β→B7 ρ' β (v7 sn.tmps d) ((a.put o.dst v).tmps.getD d undef):=fun v ρ' hv hbefore k ok d hlk hok hdk β hβ=>by
  have hkm:k < os.length:=(List.getElem?_eq_some_iff.1 hok).1
  rw [D6]
  by_cases hki:k=i
  ·subst hki
   rw [ho] at hok
   cases hok
   by_cases hds:d < a.tmps.size
   ·rw [if_pos ⟨hdk,hds⟩]
    have hslot:=cZ (X:=X) (os:=os) (s0:=s0) (ρ:=ρ') (β:=β) (t:=d) (r:=v) (by omega:k+1≤os.length) hq1 hd.last hβ (fun k2 o2 hk1 hk2 ho2 hd2=>by
     have:=hd.draws.dup k k2 o o2 d hkm hk2 ho ho2 hdk hd2
     omega)
    rw [← hslot]
    show B7 ρ' β (v7 (yU tmps' o.dst tv) d) v
    obtain⟨_,_,hl'⟩:=G1 he (M7 hsi).1
    rw [H4,if_pos ⟨hdk,by rw [hl',elen,← h.asize]; exact hds⟩]
    exact hv β hβ
   ·have hnone:v7 sn.tmps d= .unk:=by
     simp only [B5]
     have e7:sn.tmps.length=s0.tmps.length:=(M7 hd.last).2
     have e8:a.tmps.size=s0.tmps.length:=h.asize
     have e9:a.tmps.size≤d:=Nat.le_of_not_lt hds
     rw [List.getElem?_eq_none (by omega)]
    rw [hnone]
    trivial
  ·have hlk':Lst listed k:=by
    rcases (n6 hisz).1 hlk with e | e
    ·exact absurd e hki
    ·exact e
   have hne:o.dst≠some d:=fun e=>hki (hd.draws.dup k i ok o d hkm hin hok ho hdk e)
   rw [if_neg (fun hh=>hne hh.1)]
   exact hbefore k ok d hlk' hok hdk β hβ
 cases hf:flO o with
 | true=>
  rw [hf] at he
  obtain⟨t2,k2,r2,he2,hob2⟩:=hd.float i o si ki tmps' k1 tv r p sp kp ho hf hsi he hobs.1 hsp hpn hcut (fun d od hod hfd hdp hmem=>by
   have hld:=(hL d od hod hfd).2 hdp
   exact hnl (gS h.closed (h.closed d od hod hld) i hmem)) (fun d od hod hfd hpd hmem=>by
   have:=(hL d od hod hfd).1 (hre d hmem)
   omega)
  obtain⟨rfl,rfl⟩:=g0a he he2
  refine K5 hX ho he2 hob2 hp (ρ:=ρ) (Cβ:=KVok kn) (M7 hd.last).1 hsub h.base h.inv (fun ρ' ha=>(hρ ρ' ha).1) hT (fun v w' ρ1 ha hn hfin hk hq=>hK _ _ ?_)
  obtain⟨g1,g2,g3,g4,g5⟩:=hq rfl
  subst g5
  rw [g1,g3] at hfin
  refine⟨by simpa using h.size,mkClosed,by rw [M3]; exact h.asize,by rw [D2]; exact h.defers,Nat.le_trans h.base hk.size,J.keeps hp hk h.inv,h.keeps.trans hk,mkOld v,p,sp,kp,ρ1,hsp,hpn,hcut,fun j oj hoj hfj=> ?_,hag,hnid,fun ρ' ha'=>⟨(hfin ρ' ha').1,mkNew v ρ' (hfin ρ' ha').2 (hρ ρ' ha').2⟩⟩
  rw [n6 hisz]
  constructor
  ·rintro (rfl | e)
   ·rw [ho] at hoj; cases hoj; rw [hf] at hfj; cases hfj
   ·exact (hL j oj hoj hfj).1 e
  ·intro e; exact .inr ((hL j oj hoj hfj).2 e)
 | false=>
  rw [hf] at he
  have hpi:p≤i:=by
   rcases Nat.lt_or_ge i p with c | c
   ·exact absurd ((hL i o ho hf).2 c) hnl
   ·exact c
  have hq:=cB hpi hsp hsi (fun j oj hj1 hj2 hoj=>by
   cases hfj:flO oj with
   | true=>rfl
   | false=>
    have:=(hL j oj hoj hfj).1 (hre j (hd.chain j i oj o hj2 hoj ho hfj hf))
    omega)
  refine K5 hX ho he hobs.1 hp (ρ:=ρ) (Cβ:=KVok kn) (M7 hd.last).1 hsub h.base h.inv (fun ρ' ha=>by rw [hq.1]; rw [hq.2] at ha; exact (hρ ρ' ha).1) (fun ρ' ha β hβ t ht=>hT ρ' (by rw [hq.2] at ha; exact ha) β hβ t ht) (fun v w' ρ1 ha hn hfin hk _=>hK _ _ ?_)
  rw [hq.2] at ha hn
  refine⟨by simpa using h.size,mkClosed,by rw [M3]; exact h.asize,by rw [D2]; exact h.defers,Nat.le_trans h.base hk.size,J.keeps hp hk h.inv,h.keeps.trans hk,mkOld v,i+1,_,_,ρ1,hq1,by omega, .inr ⟨i,o,rfl,ho,hf⟩,fun j oj hoj hfj=> ?_,
   fun j hj=>(ha j (by omega)).trans (hag j hj),by show s0.nid≤r.n; omega,fun ρ' ha'=>⟨(hfin ρ' ha').1,mkNew v ρ' (hfin ρ' ha').2 (hρ ρ' (fun j hj=>(ha' j (Nat.lt_of_lt_of_le hj hn)).trans (ha j hj))).2⟩⟩
  rw [n6 hisz]
  constructor
  ·rintro (rfl | e)
   ·omega
   ·have:=(hL j oj hoj hfj).1 e; omega
  ·intro e
   by_cases e2:j=i
   ·exact .inl e2
   ·exact .inr (hre j (hd.chain j i oj o (by omega) hoj ho hfj hf))
theorem b0r {X:Cx} {J:Inv X.P} {B:Nat} {M:Nat→Prop} {w0:Bas} {os:List Oper} {s0 sn:St} {kn:KV} (hd:Spine X os s0 sn kn) {a0:Act} {ρ0:Num} (h0:∀ ρ',Agree s0.nid ρ0 ρ'→∀ β t,B7 ρ' β (v7 s0.tmps t) (a0.tmps.getD t undef)) {listed:Array Bool} {a:Act} {w:World}
  (h:HalfS X J B M w0 os s0 a0 ρ0 sn kn listed a w) (hρ0:w0.n≤s0.nid∧Agree w0.n w0.ρ ρ0) (hall:∀ k,k < os.length→Lst listed k):RepR X.P J B M w0 kn sn a w:=by
 obtain⟨p,sp,kp,ρ,hsp,hpn,hcut,hL,hag,hnid,hρ⟩:=h.cut
 obtain⟨e4,e5⟩:=M7 hd.last
 have hq:=cB hpn hsp hd.last (fun j oj hj1 hj2 hoj=>by
  cases hfj:flO oj with
  | true=>rfl
  | false=>
   have:=(hL j oj hoj hfj).1 (hall j hj2)
   omega)
 refine⟨by rw [e5]; exact h.asize,h.defers,h.base,h.inv,h.keeps,e4,ρ,⟨by rw [hq.2]; omega,fun j hj=>(hag j (by omega)).trans (hρ0.2 j hj)⟩,fun ρ' ha=> ?_⟩
 rw [hq.2] at ha
 rw [hq.1]
 refine⟨(hρ ρ' ha).1,fun β hβ t=> ?_⟩
 by_cases hw:∃ (k:Nat) (o:Oper),os[k]? =some o∧o.dst=some t
 ·obtain⟨k,o,ho,hdst⟩:=hw
  exact (hρ ρ' ha).2 k o t (hall k (List.getElem?_eq_some_iff.1 ho).1) ho hdst β hβ
 ·have hno:∀ (k:Nat) (o:Oper),os[k]? =some o→o.dst≠some t:=fun k o ho e=>hw ⟨k,o,ho,e⟩
  rw [h.old t (fun k o _ ho=>hno k o ho)]
  exact (cZ (Nat.zero_le os.length) rfl hd.last hβ (fun k o _ _ ho=>hno k o ho)).1 (h0 ρ' (fun j hj=>(ha j (by omega)).trans (hag j hj)) β t)
theorem h0b {X:Cx} {J:Inv X.P} (hX:CxOk X J) {B:Nat} {M:Nat→Prop} (hp:Par X.P B M) {w0:Bas} {os:List Oper} {s0 sn:St} {kn:KV} (hd:Spine X os s0 sn kn) {a0:Act} {ρ0:Num}
  (h0:∀ ρ',Agree s0.nid ρ0 ρ'→∀ β t,B7 ρ' β (v7 s0.tmps t) (a0.tmps.getD t undef)) (hρ0:w0.n≤s0.nid∧Agree w0.n w0.ρ ρ0)
  {rb:Option Nat} {Q:Exit→Act→World→Prop} (hQ:∀ a w,RepR X.P J B M w0 kn sn a w→Q .normal a w):
  ∀ (fuel:Nat) (listed:Array Bool) (a:Act) (w:World),unl listed os.length≤fuel→HalfS X J B M w0 os s0 a0 ρ0 sn kn listed a w→wpAnyIn (Fl rb) 0 X.P .any ⟨os⟩ Q fuel listed a w:=by
 intro fuel
 induction fuel with
 | zero=>
  intro listed a w hf h
  have hall:∀ k,k < os.length→Lst listed k:=fun k hk=>jZ (by omega) hk
  refine⟨?_,hQ a w (b0r hd h0 h hρ0 hall)⟩
  cases hr:Region.ready .any ⟨os⟩ listed with
  | nil=>rfl
  | cons x xs=>
   have:x∈Region.ready .any ⟨os⟩ listed:=by rw [hr]; simp
   obtain⟨⟨h1,h2⟩,_⟩:=ready_iff.1 this
   exact absurd (hall x (by rw [← h.size]; exact h1)) h2
 | succ fuel ih=>
  intro listed a w hf h
  refine⟨fun hr0=> ?_,fun i hi=> ?_⟩
  ·have hall:∀ k,k < os.length→Lst listed k:=by
    haveI:DecidablePred fun k=>¬ Lst listed k:=fun k=>Classical.propDecidable _
    intro k hk
    refine Classical.byContradiction fun hn=> ?_
    obtain⟨k,hk,hnl,hmin⟩:=a1a (p:=fun k=>¬ Lst listed k) os.length ⟨k,hk,hn⟩
    obtain⟨o,ho⟩:∃ o,os[k]? =some o:=⟨os[k],by simp [hk]⟩
    have:k∈Region.ready .any ⟨os⟩ listed:=ready_iff.2 ⟨⟨by rw [h.size]; exact hk,hnl⟩,o,ho,fun e he=>Classical.byContradiction fun hn=>hmin e (hd.draws.fwd k o ho e he) hn⟩
    rw [hr0] at this
    cases this
   exact hQ a w (b0r hd h0 h hρ0 hall)
  ·obtain⟨⟨h1,h2⟩,o,ho,hpre⟩:=ready_iff.1 hi
   have hin:i < os.length:=by rw [← h.size]; exact h1
   refine o0c hX hp hd h0 h hi (fun a' w' h'=>ih _ a' w' ?_ h')
   have:=vK hin h.size h2
   omega
end
noncomputable section
def i0x:List (List Nat)→Nat→Nat
 | [],_=>0
 | p ::r,t=>match C8 (t-1) p with
  | true=>i0x r (t-1)+1
  | false=>0
def b2c (os:List Oper) (m:Nat):Bool:=eQ (os.take (m+1)) m
def lD (os:List Oper):Nat→Nat→Nat
 | m,0=>m
 | m,k+1=>match b2c os m with
  | true=>m
  | false=>lD os (m+1) k
def h0g (os:List Oper):Nat:=
 match os.length with
 | 0=>0
 | n+1=>
  match i0x ((os.map l7).reverse) n with
  | 0=>lD os n 1
  | c+1=>lD os (n- (c+1)) (c+2)
def St.clean:St→St
 | ⟨tm,hp,nid,ds,obs,lp,rd,mq,bs⟩=>⟨tm.map lY,hp,nid,ds,obs,lp,rd,mq,bs⟩
def St.bit:St→List Bool→Prop→St
 | ⟨tm,hp,nid,_,obs,lp,rd,mq,bs⟩,ds,p=>⟨tm,hp,nid,ds,p ::obs,lp,rd,mq,bs⟩
def St.looped:St→Nat→List Prop→St
 | ⟨tm,hp,nid,ds,_,_,rd,mq,bs⟩,k,o=>⟨tm,hp,nid,ds,o,k,rd,mq,bs⟩
def r0t (X:Cx) (os:List Oper) (s:St):Option St:=
 match k0g os (h0g os) with
 | false=>none
 | true=>match b0k (h0g os) os with
  | true=>rP X os (h0g os) s
  | false=>match evN X (h0g os) os s os.length with
   | some (s',_)=>some s'
   | none=>rP X os (h0g os) s
def f0n (X:Cx) (os:List Oper):Option (List (Nat×List Nat)):=match X.auto with
 | true=>uI os
 | false=>none
theorem jD {X:Cx} {os:List Oper} {sp:List (Nat×List Nat)} (h:f0n X os=some sp):uI os=some sp:=by
 unfold f0n at h
 split at h
 ·exact h
 ·cases h
def cS (X:Cx) (os:List Oper) (draw:Bool) (s:St):Option St:=
 match draw with
 | false=>match evN X 0 os s os.length with
  | some (s',_)=>some s'.clean
  | none=>none
 | true=>match f0n X os with
  | some sp=>match f0i X os sp s with
   | some s'=>some s'.clean
   | none=>none
  | none=>match r0t X os s with
   | some s'=>some s'.clean
   | none=>match g0y os (uV os) with
    | false=>none
    | true=>match f0d X os (uV os) s with
     | some s'=>some s'.clean
     | none=>none
theorem Rep.drew {P:Program} {J:Inv P} {B:Nat} {M:Nat→Prop} {w0:Bas} {rb:Option Nat} {s:St} {a:Act} {w:World} (h:Rep P J B M w0 rb s a w):Rep P J B M w0 rb s a { w with drawn:=w.drawn+1 } :=by
 obtain⟨ρ,hρ0,hρ⟩:=h.rep
 have hb:Below w.heap.size w { w with drawn:=w.drawn+1 } :=⟨rfl,rfl,rfl,Nat.le_refl _,fun _ _=>rfl⟩
 exact⟨h.low,h.plain,h.size,h.base,J.st w _ (fun _ _=>rfl) (Nat.le_refl _) h.inv,⟨h.keeps.os,h.keeps.tape,h.keeps.output,h.keeps.size,h.keeps.block⟩,ρ,hρ0,fun ρ' ha=>⟨(hρ ρ' ha).1.below hb,(hρ ρ' ha).2⟩⟩
theorem qR {X:Cx} (hX:CxOk X X.J) (hm:X.P.follows .mixedOrders=true) {os:List Oper} {draw:Bool} {s s':St} (h:cS X os draw s=some s') (hl:d5 s'.obs) {B:Nat} {M:Nat→Prop} (hp:Par X.P B M) {w0:Bas} {rb:Option Nat} {a:Act} {w:World}
  (hR:Rep X.P X.J B M w0 rb s a w) {id:Nat} {Q:Exit→Act→World→Prop} (hQ:∀ a' w',Rep X.P X.J B M w0 rb s' a' w'→Q .normal a' w'):(Code.region id ⟨os⟩ draw).wpIn (Fl rb) 0 X.P Q a w:=by
 unfold cS at h
 split at h
 ·split at h
  case h_2=>cases h
  rename_i sn kn hn
  cases h
  obtain⟨f1,f2,f3⟩:=cM hn
  refine wpIn_region ?_
  have:=v0k hX hp (rb:=rb) (Q:=Q) hn hl (fun a' w' hR'=>hQ a' w' (RepR.clean hR hR' f1 f2 f3)) os.length 0 s [] a w (by omega) rfl hR.toR
  rw [List.range_eq_range']
  exact this
 ·have hR2:=hR.drew
  obtain⟨hρ0,hρ⟩:=hR2.rep.choose_spec
  have h0:∀ ρ',Agree s.nid hR2.rep.choose ρ'→∀ β t,B7 ρ' β (v7 s.tmps t) (a.tmps.getD t undef):=fun ρ' ha β t=>by
   have h1:=(hρ ρ' ha).2.2 t
   have h2:=hR2.plain t
   generalize v7 s.tmps t=tv at*
   cases tv with
   | unk=>trivial
   | v y=>exact h1 y rfl
   | sp l y=>cases h2
   | key j l b=>cases h2
  have hunl:unl (Array.replicate os.length false) os.length≤os.length:=by
   unfold unl
   have:=List.countP_le_length (p:=fun i=> !(Array.replicate os.length false).getD i false) (l:=List.range os.length)
   simpa using this
  have hno:∀ i,¬ Lst (Array.replicate os.length false) i:=fun i hi=>by
   unfold Lst at hi
   rcases Nat.lt_or_ge i os.length with h' | h'
   ·simp [h'] at hi
   ·simp [h'] at hi
  split at h
  ·rename_i hsp
   split at h
   case h_2=>cases h
   rename_i s1 hs1
   cases h
   have hl1:d5 s1.obs:=by cases s1; exact hl
   obtain⟨sn,kn,ob,rfl,hS⟩:=jF (jD hsp) hs1 hl1
   obtain⟨f1,f2,f3⟩:=zM hS.last
   have hQ':∀ a' w',RepR X.P X.J B M ⟨{ w with drawn:=w.drawn+1 },s.nid,hR2.rep.choose,a.defers⟩ kn sn a' w'→Q .normal a' w':=fun a' w' hR'=>by
    have hRn:RepR X.P X.J B M ⟨{ w with drawn:=w.drawn+1 },s.nid,hR2.rep.choose,a.defers⟩ kn (sn.more ob) a' w':=by cases sn; exact⟨hR'.size,hR'.defers,hR'.base,hR'.inv,hR'.keeps,hR'.keys,hR'.rep⟩
    exact hQ a' w' (RepR.clean hR2 hRn (by cases sn; exact f1) (by cases sn; exact f2) (by cases sn; exact f3))
   refine wpIn_region_any hm ?_
   refine h0b hX hp hS h0 ⟨Nat.le_refl _,Agree.refl _ _⟩ hQ' _ _ a _ hunl ?_
   exact⟨by simp,fun j o _ hj=>absurd hj (hno j),hR2.size,rfl,hR2.base,hR2.inv,Keeps.refl _ _ _,fun t _=>rfl,0,s,[],hR2.rep.choose,rfl,Nat.zero_le _, .inl rfl,fun j o _ _=>⟨fun e=>absurd e (hno j),fun e=>by omega⟩,Agree.refl _ _,Nat.le_refl _,fun ρ' ha=>⟨(hρ ρ' ha).1,fun k o d hk=>absurd hk (hno k)⟩⟩
  split at h
  ·rename_i sn hdr
   cases h
   unfold r0t at hdr
   split at hdr
   ·cases hdr
   rename_i hd
   have hD:=oN hd
   have laidCase:rP X os (h0g os) s=some sn→(Code.region id ⟨os⟩ true).wpIn (Fl rb) 0 X.P Q a w:=by
    intro hdr
    obtain⟨hlow,hm',kn,hhd,htl⟩:=nM hdr
    obtain⟨f1,f2,f3⟩:=oY htl
    refine wpIn_region_any hm ?_
    refine h0f hX hp hD hlow hhd htl hl (w0:=⟨_,s.nid,hR2.rep.choose,a.defers⟩) (a0:=a) (ρ:=hR2.rep.choose) h0 ⟨Nat.le_refl _,Agree.refl _ _⟩ (fun a' w' hR'=>hQ a' w' (RepR.clean hR2 hR' f1 f2 f3)) _ _ a _ hunl ?_
    refine⟨by simp,fun j o _ hj=>absurd hj (hno j),fun t _=>hno t,hR2.size,rfl,hR2.base,hR2.inv,Keeps.refl _ _ _,fun t _=>rfl,hR2.rep.choose,Agree.refl _ _,fun ρ' ha=>⟨?_,fun k o d _ hk=>absurd hk (hno k)⟩⟩
    refine (hρ ρ' (fun j hj=>ha j (.inl hj))).1.less fun j o hj=> ?_
    replace hj:=nJ (g:=fun _=>false) (H2:=bV (P2 (Array.replicate os.length false)) hm'.la s.heap) (fun e _ _ _=>by
     cases hq:P2 (Array.replicate os.length false) e with
     | false=>rfl
     | true=>exact absurd hq (hno e)) (fun _ _ hh=>hh) j o hj
    replace hj:(bV (P2 (Array.replicate os.length false)) hm'.la s.heap).get j=some o:=by
     cases hq:hm'.ef with
     | none=>rw [hq] at hj; exact hj
     | some q=>rw [hq] at hj; exact hj
    rcases G6 hj with hj' | ⟨e,_,hk,_⟩
    ·exact hj'
    ·exact absurd hk (hno e.k)
   split at hdr
   ·exact laidCase hdr
   ·split at hdr
    case h_2=>exact laidCase hdr
    rename_i sn' kn hn
    cases hdr
    obtain⟨f1,f2,f3⟩:=cM hn
    obtain⟨⟨sm,km⟩,hmm⟩:=Y6 hD.le hn
    refine wpIn_region_any hm ?_
    refine m0u hX hp hD hn hl hmm (w0:=⟨_,s.nid,hR2.rep.choose,a.defers⟩) (a0:=a) (ρ:=hR2.rep.choose) h0 ⟨Nat.le_refl _,Agree.refl _ _⟩ (fun a' w' hR'=>hQ a' w' (RepR.clean hR2 hR' f1 f2 f3)) _ _ a _ hunl ?_
    exact⟨by simp,fun j o _ hj=>absurd hj (hno j),fun t _=>hno t,hR2.size,rfl,hR2.base,hR2.inv,Keeps.refl _ _ _,fun ρ' ha=>(hρ ρ' ha).1,fun t _=>rfl,fun k o d _ hk=>absurd hk (hno k)⟩
  ·split at h
   ·cases h
   rename_i hd
   have hD:=c0a hd
   split at h
   case h_2=>cases h
   rename_i sn hn
   cases h
   obtain⟨ws,hm',kn,hhd,hws,htl⟩:=gY hn
   obtain⟨f1,f2,f3⟩:=oY htl
   refine wpIn_region_any hm ?_
   refine e0m hX hp hD hhd (fun k o ho=>cH hws k o (by rw [List.getElem?_drop]; exact ho)) h0 (w0:=⟨_,s.nid,hR2.rep.choose,a.defers⟩) ⟨Nat.le_refl _,Agree.refl _ _⟩ htl hl (fun a' w' hR'=>hQ a' w' (RepR.clean hR2 hR' f1 f2 f3)) _ (uV os) _ _ _ a _ hunl (by rw [Nat.sub_self]; rfl) ?_
   exact⟨by simp,fun j o _ hj=>absurd hj (hno j),Nat.le_refl _,hD.le,fun j hj _=>⟨fun e=>absurd e (hno j),fun e=>by omega⟩,hR2.size,rfl,hR2.base,hR2.inv,Keeps.refl _ _ _,fun t _=>rfl,hR2.rep.choose,Agree.refl _ _,fun ρ' ha=>⟨(hρ ρ' ha).1,fun k o d _ hk=>absurd hk (hno k)⟩⟩
def lP (X:Cx) (os:List Oper) (s:St):Option St:=
 match os.length with
 | 0=>none
 | m+1=>match u0h os m with
  | none=>none
  | some o=>match o.op with
   | .defer c=>match o.guard,c.callee,s.rd with
    | none, .value f,none=>match evN X 0 os s m with
     | some (⟨tm,hp,nid,ds,obs,lp,rd,mk,bs⟩,_)=>match P0 f && c.args.toList.all P0,evo tm [] f,X2 (evo tm []) c.args.toList with
      | true,some (.func (.func fid) ⟨first⟩ ⟨cap⟩),some args=>some (St.clean ⟨yU tm o.dst .unk,hp,nid,ds,obs,lp,rd,Mk.call fid cap (first++args) ::mk,bs⟩)
      | _,_,_=>none
     | none=>none
    | _,_,_=>none
   | _=>none
theorem m0n {X:Cx} {J:Inv X.P} (hX:CxOk X J) {m:Nat} {os:List Oper} {s0 sn:St} {kn:KV} {B:Nat} {M:Nat→Prop} (hp:Par X.P B M) {w0:Bas} {rb:Option Nat} {Q:Exit→Act→World→Prop} {n:Nat} {tl:List Nat}
  (hn:evN X m os s0 n=some (sn,kn)) (hl:d5 sn.obs) (hQ:∀ a w,RepR X.P J B M w0 kn sn a w→wpOpsIn (Fl rb) 0 X.P ⟨os⟩ Q tl a w):
  ∀ (k i:Nat) (s:St) (kv:KV) (a:Act) (w:World),i+k=n→evN X m os s0 i=some (s,kv)→RepR X.P J B M w0 kv s a w→wpOpsIn (Fl rb) 0 X.P ⟨os⟩ Q (List.range' i k++tl) a w:=by
 intro k
 induction k with
 | zero=>
  intro i s kv a w hik hs hR
  obtain rfl:i=n:=by omega
  rw [hs] at hn
  cases hn
  simp only [List.range'_zero,List.nil_append]
  exact hQ a w hR
 | succ k ih=>
  intro i s kv a w hik hs hR
  rw [List.range'_succ,List.cons_append,wpOpsIn_cons]
  obtain⟨q1,hq1⟩:=Y6 (i:=i+1) (by omega) hn
  obtain⟨s1,k1⟩:=q1
  obtain⟨s',kv',o,h1,h2,h3⟩:=D9 hq1
  rw [hs] at h1
  cases h1
  exact L9 hX h2 h3 (S4 (by omega) hq1 hn hl) hp hR (fun a' w' hR'=>ih (i+1) s1 k1 a' w' (by omega) hq1 hR')
theorem f0w {P:Program} {a:Act} {c:Call} {f:Operand} {ty:TypeId} {fn:Fn} {first cap:Array Value} (hc:c.callee= .value f) (hf:a.eval f= .func fn first cap) (w:World):
  (resolve a.eval c ty).run P w= .ok ⟨.fn fn cap,first++c.args.map a.eval⟩ w:=by
 unfold resolve
 rw [hc]
 simp only [hf,Deferred.ofValue]
 rfl
theorem yB {X:Cx} (hX:CxOk X X.J) {os:List Oper} {s s':St} (h:lP X os s=some s') (hl:d5 s'.obs) {B:Nat} {M:Nat→Prop} (hp:Par X.P B M) {w0:Bas} {rb:Option Nat} {a:Act} {w:World}
  (hR:Rep X.P X.J B M w0 rb s a w) {id:Nat} {Q:Exit→Act→World→Prop} (hQ:∀ a' w',Rep X.P X.J B M w0 rb s' a' w'→Q .normal a' w'):(Code.region id ⟨os⟩ false).wpIn (Fl rb) 0 X.P Q a w:=by
 unfold lP at h
 split at h
 case h_1=>cases h
 rename_i m hm
 split at h
 case h_1=>cases h
 rename_i o ho
 rw [O2] at ho
 split at h
 case h_2=>cases h
 rename_i c hop
 split at h
 case h_2=>cases h
 rename_i f hg hcal hrd
 split at h
 case h_2=>cases h
 rename_i tm hpq nid ds obs lp rd mk bs kv hn
 split at h
 case h_2=>cases h
 rename_i fid first cap args hng hf hargs
 cases h
 rw [Bool.and_eq_true] at hng
 obtain⟨f1,f2,f3⟩:=cM hn
 have hrb:rb=none:=by
  have:=(hR.rep.choose_spec.2 _ (Agree.refl _ _)).2.1.round
  rw [hrd] at this
  exact this
 subst hrb
 refine wpIn_region ?_
 rw [show (⟨os⟩:Array Oper).size=m+1 from hm,List.range_succ,List.range_eq_range']
 refine m0n hX hp (Q:=Q) hn hl (fun a1 w1 hR1=> ?_) m 0 s [] a w (by omega) rfl hR.toR
 rw [wpOpsIn_cons]
 unfold wpOpIn
 rw [show (⟨os⟩:Array Oper)[m]? =some o by simpa using ho]
 simp only [Region.wanted,hg,if_true]
 obtain⟨ρ2,hρ20,hρ2⟩:=hR1.rep
 obtain⟨β,hβ⟩:=hR1.keys
 have val:∀ ρ',Agree nid ρ2 ρ'→a1.eval f=rv ρ' (.func (.func fid) ⟨first⟩ ⟨cap⟩)∧c.args.toList.map a1.eval=rvL ρ' args:=fun ρ' ha=>by
  have hS:=(hρ2 ρ' ha).1
  have hT:=(hρ2 ρ' ha).2 β hβ
  refine⟨D5 (P:=X.P) hS (U4 β) hf (fun t _=>hT t) (fun g e=>by subst e; cases hng.1),n5 _ _ (fun x hx y hy=>D5 (P:=X.P) hS (U4 β) hy (fun t _=>hT t) (fun g e=> ?_)) hargs⟩
  have:=List.all_eq_true.1 hng.2 x hx
  subst e
  cases this
 obtain⟨v1,v2⟩:=val ρ2 (Agree.refl _ _)
 refine⟨fun _ _=>trivial,?_⟩
 have hrun:(Oper.semAt none a1.eval o).run X.P w1= .ok (.defer ⟨.fn (.func fid) ⟨rvL ρ2 cap⟩,(⟨rvL ρ2 first⟩:Array Value)++⟨rvL ρ2 args⟩⟩) w1:=by
  rw [Oper.semAt_none]
  unfold execOp
  rw [hop]
  simp only [rv,rvA] at v1
  have hr:=f0w (P:=X.P) (ty:=o.type) hcal v1 w1
  have e2:c.args.map a1.eval=⟨rvL ρ2 args⟩:=by
   rw [← v2]
   apply Array.ext'
   simp
  rw [e2] at hr
  simp only
  rw [Sem.run_bind,hr]
  rfl
 show o.uponIn _ _ _ _ _ _ ((Oper.semAt none a1.eval o).run X.P w1)
 rw [hrun,Oper.uponIn_defer]
 show Q .normal _ _
 refine hQ _ _ ?_
 obtain⟨hρ0,hρ⟩:=hR.rep.choose_spec
 have hdef:=hR1.defers
 have hkp:=hR1.keeps
 simp only at hρ20 hdef hkp f1 f2 f3
 have hsz:=hR1.size
 refine⟨?_,fun t=> ?_,?_,hR1.base,hR1.inv,hR.keeps.trans hkp,ρ2,⟨Nat.le_trans hρ0.1 hρ20.1,hρ0.2.trans hρ20.2 hρ0.1⟩,fun ρ' ha=>⟨(hρ2 ρ' ha).1,?_,fun t x hx=> ?_⟩⟩
 ·show w0.n=bs
  rw [f3]
  exact hR.low
 ·show tQ (v7 (List.map lY (yU tm o.dst .unk)) t)=true
  rw [dK]
  generalize v7 (yU tm o.dst .unk) t=tv
  cases tv with
  | key j l b=>cases l <;> rfl
  | _=>rfl
 ·show _=(List.map lY (yU tm o.dst .unk)).length
  rw [M3,List.length_map,L4]
  exact hsz
 ·have g:=(hρ ρ' (fun i hi=>(ha i (Nat.lt_of_lt_of_le hi hρ20.1)).trans (hρ20.2 i hi))).2.1
  refine⟨?_,by show none=rd.bind ρ'; rw [f1]; exact g.round⟩
  rw [D2]
  show _ ::a1.defers=mkD ρ' (.call fid cap (first++args)) ::mk.map (mkD ρ')
  rw [hdef,f2,g.defers]
  congr 1
  obtain⟨u1,u2⟩:=val ρ' ha
  rw [v1] at u1
  rw [v2] at u2
  simp only [rv,rvA,Value.func.injEq,Array.mk.injEq] at u1
  simp only [mkD,Deferred.mk.injEq,Target.fn.injEq,Array.mk.injEq,true_and]
  refine⟨u1.2.2,?_⟩
  rw [u1.2.1,u2]
  apply Array.ext'
  simp [d8]
 ·have ht:=(hρ2 ρ' ha).2 β hβ t
  replace hx:v7 (List.map lY (yU tm o.dst .unk)) t= .v x:=hx
  rw [dK,H4] at hx
  rw [D6]
  split at hx
  ·cases hx
  ·rename_i hne
   have hne':¬ (o.dst=some t∧t < a1.tmps.size):=fun hh=>hne ⟨hh.1,by have:=hh.2; rw [hsz] at this; exact this⟩
   rw [if_neg hne']
   generalize v7 tm t=tv at*
   cases tv with
   | unk=>cases hx
   | v y=>cases hx; exact ht
   | sp l y=>cases hx
   | key j l b=>
    cases l with
    | nil=>
     cases hx
     simp only [rv]
     exact ht.2.1 (U4 β)
    | cons _ _=>cases hx
def D3 (body:St→Option (AX×St)):Nat→St→Option (AX×St)
 | 0,_=>none
 | n+1,s=>match body s with
  | some (.normal,s1)=>D3 body n s1
  | r=>r
def a7 (X:Cx) (c:Code) (s:St) (x:AX) (s':St):Prop:=
 ∀ (B:Nat) (M:Nat→Prop) (w0:Bas) (rb:Option Nat) (a:Act) (w:World),Par X.P B M→Rep X.P X.J B M w0 rb s a w→(Code.loop c).wpIn (Fl rb) 0 X.P (fun e a' w'=>e=x.toExit∧Rep X.P X.J B M w0 rb s' a' w') a w
def St.core (s:St):St:=⟨s.tmps,s.heap,s.nid,[],[],0,s.rd,s.mks,s.bs⟩
abbrev O3:=List (St→Option (AX×St))
def j1k:O3→Nat→Option (St→Option (AX×St))
 | [],_=>none
 | h ::r,n=>match n with
  | 0=>some h
  | k+1=>j1k r k
def o0m:TV→Option Value
 | .v x=>some x
 | _=>none
def l1d:LoopState→Bool
 | .busy=>true
 | _=>false
def iB (s:St) (ps:List Nat) (asg bd:Code):Option (Nat×St):=
 match s with
 | ⟨tm,hp,nid,ds,obs,lp,rd,mk,bs⟩=>match rd with
  | none=>some (nid+1,⟨tm,(nid+1, .loop .ready none (tm.map o0m) ps asg bd) ::(nid, .defr) ::hp,nid+2,ds,obs,lp,none,Mk.mark nid ::mk,bs⟩)
  | some l0=>match hp.get l0 with
   | some (.loop _ _ _ _ _ _)=>some (nid,⟨tm,(nid, .loop .ready none (tm.map o0m) ps asg bd) ::hp,nid+1,ds,obs,lp,some l0,mk,bs⟩)
   | _=>none
theorem eO (s:St) (ps:List Nat) (asg bd:Code):iB s ps asg bd=
  match s.rd with
  | none=>some (s.nid+1,⟨s.tmps,(s.nid+1, .loop .ready none (s.tmps.map o0m) ps asg bd) ::(s.nid, .defr) ::s.heap,s.nid+2,s.ds,s.obs,s.lp,none,Mk.mark s.nid ::s.mks,s.bs⟩)
  | some l0=>match s.heap.get l0 with
   | some (.loop _ _ _ _ _ _)=>some (s.nid,⟨s.tmps,(s.nid, .loop .ready none (s.tmps.map o0m) ps asg bd) ::s.heap,s.nid+1,s.ds,s.obs,s.lp,some l0,s.mks,s.bs⟩)
   | _=>none:=by
 unfold iB
 dsimp only
def rI (s:St) (l:Nat) (r:CR):Option (AX×St):=
 match s,r with
 | ⟨tm,_,_,_,obs,lp,rd,mk,bs⟩,⟨_,h,n,ob,ds'⟩=>match h.get l with
  | some (.loop st pn ts ps asg bd)=>match l1d st with
   | true=>none
   | false=>match pn with
    | none=>some (.normal,⟨tm,h.set l (.loop .exhausted pn ts ps asg bd),n,ds',ob++obs,lp,rd,mk,bs⟩)
    | some .ret=>some (.ret,⟨tm,h.set l (.loop .exhausted pn ts ps asg bd),n,ds',ob++obs,lp,rd,mk,bs⟩)
    | some (.exit id)=>some (.exit id,⟨tm,h.set l (.loop .exhausted pn ts ps asg bd),n,ds',ob++obs,lp,rd,mk,bs⟩)
    | _=>none
  | _=>none
theorem b0n (s:St) (l:Nat) (r:CR):rI s l r=
  match r.h.get l with
  | some (.loop st pn ts ps asg bd)=>match l1d st with
   | true=>none
   | false=>
    let s2:St:=⟨s.tmps,r.h.set l (.loop .exhausted pn ts ps asg bd),r.n,r.ds,r.obs++s.obs,s.lp,s.rd,s.mks,s.bs⟩
    match pn with
    | none=>some (.normal,s2)
    | some .ret=>some (.ret,s2)
    | some (.exit id)=>some (.exit id,s2)
    | _=>none
  | _=>none:=by
 unfold rI
 dsimp only
def y1v (X:Cx) (fid:FuncId) (args:List Value) (s:St):Option CR:=
 match s with
 | ⟨_,hp,n,ds,_,_,_,_,_⟩=>X.cl fid args hp n ds
def B2 (X:Cx) (L:O3):Nat→Code→St→Option (AX×St)
 | 0,_,_=>none
 | f+1,c,s=>
  match c with
  | .skip=>some (.normal,s)
  | .label _=>some (.normal,s)
  | .region _ ⟨os⟩ draw=>match cS X os draw s with
   | some s'=>some (.normal,s')
   | none=>match draw with
    | false=>match lP X os s with
     | some s'=>some (.normal,s')
     | none=>none
    | true=>none
  | .seq c1 c2=>match B2 X L f c1 s with
   | some (.normal,s1)=>B2 X L f c2 s1
   | r=>r
  | .cond o c1 c2=>match evo s.tmps [] o with
   | some (.bool b)=>match s.ds with
    | d ::ds=>match d with
     | true=>B2 X L f c1 (s.bit ds (b=true))
     | false=>B2 X L f c2 (s.bit ds (b=false))
    | [] =>match b with
     | true=>B2 X L f c1 s
     | false=>B2 X L f c2 s
   | _=>none
  | .block id c1=>match B2 X L f c1 s with
   | some (.exit i,s1)=>match Nat.beq i id with
    | true=>some (.normal,s1)
    | false=>some (.exit i,s1)
   | r=>r
  | .scope c1=>B2 X L f c1 s
  | .loop c1=>match j1k L s.lp with
   | some h=>match h s with
    | some (x,s')=>some (x,s'.looped (s.lp+1) (a7 X c1 s.core x s'.core ::s.obs))
    | none=>none
   | none=>D3 (B2 X L f c1) f s
  | .exit id=>some (.exit id,s)
  | .ret=>some (.ret,s)
  | .rangeFunc g ⟨ps⟩ asg bd=>match P0 g,evo s.tmps [] g with
   | true,some (.func (.func fid) ⟨first⟩ ⟨cap⟩)=>match iB s ps asg bd with
    | none=>none
    | some (l,s1)=>match y1v X fid (first++[.func (.yield l) ⟨[]⟩ ⟨[]⟩] ++cap) s1 with
     | none=>none
     | some r=>rI s1 l r
   | _,_=>none
  | _=>none
theorem Rep.same {P:Program} {J:Inv P} {B:Nat} {M:Nat→Prop} {w0:Bas} {rb:Option Nat} {s s':St} {a:Act} {w:World} (h:Rep P J B M w0 rb s a w) (h1:s'.tmps=s.tmps) (h2:s'.heap=s.heap) (h3:s'.nid=s.nid) (h4:s'.rd=s.rd) (h5:s'.mks=s.mks) (h6:s'.bs=s.bs):Rep P J B M w0 rb s' a w:=by
 obtain⟨ρ,hρ0,hρ⟩:=h.rep
 exact⟨by rw [h6]; exact h.low,by rw [h1]; exact h.plain,by rw [h1]; exact h.size,h.base,h.inv,h.keeps,ρ,by rw [h3]; exact hρ0,fun ρ' ha=>by
  rw [h3] at ha
  obtain⟨g1,g2,g3⟩:=hρ ρ' ha
  rw [h1,h2]
  exact⟨g1,⟨by rw [h5]; exact g2.defers,by rw [h4]; exact g2.round⟩,g3⟩⟩
theorem n0b {s s1:St} {ps:List Nat} {asg bd:Code} {l:Nat} (h:iB s ps asg bd=some (l,s1)):s1.obs=s.obs:=by
 rw [eO] at h
 split at h
 ·cases h; rfl
 ·split at h
  ·cases h; rfl
  ·cases h
theorem sU {s s2:St} {l:Nat} {r:CR} {x:AX} (h:rI s l r=some (x,s2)):s2.obs=r.obs++s.obs:=by
 rw [b0n] at h
 split at h
 ·split at h
  ·cases h
  ·simp only [] at h
   split at h <;> first | (cases h; rfl) | cases h
 ·cases h
theorem zD {X:Cx} {os:List Oper} {draw:Bool} {s s':St} (h:cS X os draw s=some s') (hl:d5 s'.obs):d5 s.obs:=by
 unfold cS at h
 split at h
 ·split at h
  ·rename_i hn; cases h; exact S4 (Nat.zero_le _) rfl hn hl
  ·cases h
 ·split at h
  ·rename_i hsp
   split at h
   case h_2=>cases h
   rename_i s1 hs1
   cases h
   have hl1:d5 s1.obs:=by cases s1; exact hl
   obtain⟨sn,kn,ob,rfl,hS⟩:=jF (jD hsp) hs1 hl1
   exact e0x (Nat.zero_le _) rfl hS.last hS.obs
  split at h
  ·rename_i sn hdr
   cases h
   unfold r0t at hdr
   split at hdr
   ·cases hdr
   have laidCase:rP X os (h0g os) s=some sn→d5 s.obs:=fun hdr=>by
    obtain⟨_,hm',kn,hhd,htl⟩:=nM hdr
    exact dX (Nat.zero_le _) rfl hhd (bT (Nat.zero_le _) rfl htl hl)
   split at hdr
   ·exact laidCase hdr
   ·split at hdr
    ·rename_i hn; cases hdr; exact S4 (Nat.zero_le _) rfl hn hl
    ·exact laidCase hdr
  ·split at h
   ·cases h
   ·split at h
    ·rename_i hn
     cases h
     obtain⟨_,hm',kn,hhd,_,htl⟩:=gY hn
     exact dX (Nat.zero_le _) rfl hhd (bT (Nat.zero_le _) rfl htl hl)
    ·cases h
theorem i0e {X:Cx} {os:List Oper} {s s':St} (h:lP X os s=some s') (hl:d5 s'.obs):d5 s.obs:=by
 unfold lP at h
 split at h
 case h_1=>cases h
 split at h
 case h_1=>cases h
 split at h
 case h_2=>cases h
 split at h
 case h_2=>cases h
 split at h
 case h_2=>cases h
 rename_i hn
 split at h
 case h_2=>cases h
 cases h
 exact S4 (Nat.zero_le _) rfl hn hl
theorem W0 {body:St→Option (AX×St)} (hb:∀ s x s',body s=some (x,s')→d5 s'.obs→d5 s.obs):∀ (n:Nat) (s:St) (x:AX) (s':St),D3 body n s=some (x,s')→d5 s'.obs→d5 s.obs
 | 0,s,x,s',h,_=>by simp [D3] at h
 | n+1,s,x,s',h,hl=>by
  simp only [D3] at h
  split at h
  ·rename_i s1 h1
   exact hb _ _ _ h1 (W0 hb n s1 x s' h hl)
  ·exact hb _ _ _ h hl
theorem Q0 {X:Cx} {L:O3} :∀ (f:Nat) (c:Code) (s:St) (x:AX) (s':St),B2 X L f c s=some (x,s')→d5 s'.obs→d5 s.obs:=by
 intro f
 induction f with
 | zero=>intro c s x s' h; simp [B2] at h
 | succ f ih=>
  intro c s x s' h hl
  unfold B2 at h
  split at h
  ·cases h; exact hl
  ·cases h; exact hl
  ·split at h
   ·rename_i hr; cases h; exact zD hr hl
   ·split at h
    ·split at h
     ·rename_i hr; cases h; exact i0e hr hl
     ·cases h
    ·cases h
  ·split at h
   ·rename_i s1 h1; exact ih _ _ _ _ h1 (ih _ _ _ _ h hl)
   ·exact ih _ _ _ _ h hl
  ·split at h
   ·split at h
    ·split at h
     ·exact (ih _ _ _ _ h hl).2
     ·exact (ih _ _ _ _ h hl).2
    ·split at h
     ·exact ih _ _ _ _ h hl
     ·exact ih _ _ _ _ h hl
   ·cases h
  ·split at h
   ·rename_i i s1 h1
    split at h <;> (cases h; exact ih _ _ _ _ h1 hl)
   ·exact ih _ _ _ _ h hl
  ·exact ih _ _ _ _ h hl
  ·split at h
   ·split at h
    ·cases h; exact hl.2
    ·cases h
   ·exact W0 (fun s x s'=>ih _ s x s') f s x s' h hl
  ·cases h; exact hl
  ·cases h; exact hl
  ·split at h
   ·split at h
    ·cases h
    ·rename_i l s1 he
     split at h
     ·cases h
     ·rw [sU h,l6,n0b he] at hl
      exact hl.2
   ·cases h
  ·cases h
theorem aI {P:Program} {rb:Option Nat} {c:Code} {body:St→Option (AX×St)} {Q:Exit→Act→World→Prop} {R:St→Act→World→Prop} (hobs:∀ s x s',body s=some (x,s')→d5 s'.obs→d5 s.obs)
  (hb:∀ s x s',body s=some (x,s')→d5 s'.obs→∀ a w,R s a w→∀ Q':Exit→Act→World→Prop,(∀ a' w',R s' a' w'→Q' x.toExit a' w')→c.wpIn (Fl rb) 0 P Q' a w):
  ∀ (n:Nat) (s:St) (x:AX) (s':St),D3 body n s=some (x,s')→d5 s'.obs→(∀ a' w',R s' a' w'→Q x.toExit a' w')→∀ a w,R s a w→x≠ .normal∧Code.roundsIn (Fl rb) 0 P c Q n a w
 | 0,s,x,s',h,_,_,_,_,_=>by simp [D3] at h
 | n+1,s,x,s',h,hl,hQ,a,w,hR=>by
  simp only [D3] at h
  split at h
  ·rename_i s1 h1
   have ih:=aI hobs hb n s1 x s' h hl hQ
   have hl1:=W0 hobs n s1 x s' h hl
   refine⟨?_,?_⟩
   ·
    have hne:∀ (n:Nat) (s:St) (x:AX) (s':St),D3 body n s=some (x,s')→x≠ .normal:=by
     intro n
     induction n with
     | zero=>intro s x s' h; simp [D3] at h
     | succ n ihn=>
      intro s x s' h
      simp only [D3] at h
      split at h
      ·exact ihn _ _ _ h
      ·rename_i hno
       rw [h] at hno
       intro e
       subst e
       exact hno _ rfl
    exact hne n s1 x s' h
   ·rw [roundsIn_succ]
    refine hb s .normal s1 h1 hl1 a w hR _ (fun a' w' hR'=> ?_)
    exact (ih a' w' hR').2
  ·rename_i hno
   have hxn:x≠ .normal:=fun e=>by subst e; exact hno s' h
   refine⟨hxn,?_⟩
   rw [roundsIn_succ]
   refine hb s x s' h hl a w hR _ (fun a' w' hR'=> ?_)
   cases x with
   | normal=>exact absurd rfl hxn
   | exit id=>exact hQ a' w' hR'
   | ret=>exact hQ a' w' hR'
theorem v0b {P:Program} {J:Inv P} {B:Nat} {M:Nat→Prop} {w0:Bas} {rb:Option Nat} {s:St} {a:Act} {w:World} (hR:Rep P J B M w0 rb s a w) {o:Operand} (hg:P0 o=true) {v:Value} (h:evo s.tmps [] o=some v):
  ∀ ρ',Agree s.nid hR.rep.choose ρ'→a.eval o=rv ρ' v:=by
 obtain⟨_,hρ⟩:=hR.rep.choose_spec
 intro ρ' ha
 refine D5 (β:=fun _=>false) (hρ ρ' ha).1 (U4 _) h (fun t _=> ?_) (fun g e=>by subst e; cases hg)
 have:=(hρ ρ' ha).2.2 t
 have hp:=hR.plain t
 generalize v7 s.tmps t=tv at*
 cases tv with
 | unk=>trivial
 | v y=>exact this y rfl
 | sp l y=>cases hp
 | key j l b=>cases hp
theorem bI {P:Program} {w:World} {l:Nat} {r:Loop} (h:w.heap[l]? =some (.loop r)) (fn:FuncId) (tmps:Array Value) (ps:Array Tmp) (assign body:Code):
  (Instr.enterLoop fn tmps ps assign body (some l)).run P w=
   .ok (w.heap.size,[]) (w.alloc (.loop { state:= .ready,pending:=none,fn,tmps,params:=ps,assign,body,defers:=r.defers })):=by
 unfold Instr.enterLoop
 simp only [Sem.run_bind,run_getLoop h,run_newObj_alloc,Result.andThen,Sem.run_pure]
theorem l0h {ts:List TV} {t:Nat} {x:Value} (h:(ts.map o0m)[t]? =some (some x)):v7 ts t= .v x:=by
 rw [List.getElem?_map] at h
 simp only [B5]
 cases hg:ts[t]? with
 | none=>rw [hg] at h; cases h
 | some tv=>
  rw [hg] at h
  simp only [Option.map_some,Option.some.injEq] at h
  cases tv with
  | v y=>simp only [o0m] at h; cases h; rfl
  | unk=>cases h
  | sp l y=>cases h
  | key j l b=>cases h
theorem a0g {P:Program} {J:Inv P} {B:Nat} {M:Nat→Prop} (hp:Par P B M) {w0:Bas} {rb:Option Nat} {s s1:St} {a:Act} {w:World} (hR:Rep P J B M w0 rb s a w) {ps:List Nat} {asg bd:Code} {l:Nat} (h:iB s ps asg bd=some (l,s1)) (fn:FuncId):
  ∃ b mark w1 ρ1,(Instr.enterLoop fn a.tmps ⟨ps⟩ asg bd (Fl rb).round).run P w= .ok (b,mark) w1∧Agree s.nid hR.rep.choose ρ1∧s.nid≤s1.nid∧s1.tmps=s.tmps∧ρ1 l=some b∧B≤w1.heap.size∧J.I w1∧Keeps B M w0.w w1∧
   ∀ ρ',Agree s1.nid ρ1 ρ'→Sim P B M ρ' s1.heap w1∧FR ρ' rb s1 { a with defers:=mark++a.defers } :=by
 obtain⟨hρ0,hρ⟩:=hR.rep.choose_spec
 generalize hR.rep.choose=ρ at*
 have fin:∀ (w1:World) (ρ1:Num),Below w.heap.size w w1→B≤w1.heap.size∧J.I w1∧Keeps B M w0.w w1:=fun w1 ρ1 hb=>by
  have hk:=Keeps.of_below (M:=M) hb hR.base
  exact⟨Nat.le_trans hR.base hk.size,J.keeps hp hk hR.inv,hR.keeps.trans hk⟩
 rw [eO] at h
 split at h
 ·rename_i hrd
  cases h
  have hrb:rb=none:=by
   have:=(hρ ρ (Agree.refl _ _)).2.1.round
   rw [hrd] at this
   exact this
  subst hrb
  have hb1:Below w.heap.size w (w.alloc (.deferred (some []))):=(Below.refl _ _).alloc (Nat.le_refl _) _
  have hb2:∀ o,Below w.heap.size w ((w.alloc (.deferred (some []))).alloc o):=fun o=>hb1.alloc (by simp) o
  let ρ1:Num:=fun i=>if i=s.nid then some w.heap.size else if i=s.nid+1 then some (w.heap.size+1) else ρ i
  obtain⟨f1,f2,f3⟩:=fin _ ρ1 (hb2 (.loop { state:= .ready,pending:=none,fn,tmps:=a.tmps,params:=⟨ps⟩,assign:=asg,body:=bd,defers:=w.heap.size }))
  refine⟨_,_,_,ρ1,run_enterLoop_outer fn a.tmps ⟨ps⟩ asg bd,?_,by simp,rfl,by simp [ρ1],f1,f2,f3,fun ρ' ha=> ?_⟩
  ·intro i hi
   simp [ρ1,show i≠s.nid by omega,show i≠s.nid+1 by omega]
  ·simp only at ha
   have ha0:Agree s.nid ρ ρ':=fun i hi=>by rw [ha i (by omega)]; simp [ρ1,show i≠s.nid by omega,show i≠s.nid+1 by omega]
   have e1:ρ' s.nid=some w.heap.size:=by rw [ha _ (by omega)]; simp [ρ1]
   have e2:ρ' (s.nid+1)=some (w.alloc (.deferred (some []))).heap.size:=by rw [ha _ (by omega)]; simp [ρ1]
   obtain⟨g1,g2,g3⟩:=hρ ρ' ha0
   refine⟨?_,⟨?_,rfl⟩⟩
   ·refine Sim.new (g1.new e1 (ob:= .deferred (some [])) (o:= .defr) ⟨_,rfl,World.alloc_heap_new _ _, .inl hR.base⟩) e2 ?_
    refine⟨_,_,rfl,World.alloc_heap_new _ _,⟨rfl,rfl,rfl,rfl,rfl,by simpa using hR.size,fun t x hx=>g3 t x (l0h hx)⟩, .inl ?_⟩
    have:=hR.base
    simp
    omega
   ·show [_] ++a.defers=mkD ρ' (.mark s.nid) ::s.mks.map (mkD ρ')
    rw [g2.defers]
    simp [mkD,e1]
 ·rename_i l0 hrd
  split at h
  case h_2=>cases h
  rename_i st pn ts ps0 asg0 bd0 hget
  cases h
  obtain⟨b0,r0,hb0,hw0,_⟩:=(hρ ρ (Agree.refl _ _)).1.obj l0 _ hget
  have hrb:rb=some b0:=by
   have:=(hρ ρ (Agree.refl _ _)).2.1.round
   rw [hrd] at this
   rw [this]
   exact hb0
  subst hrb
  have hb1:∀ o,Below w.heap.size w (w.alloc o):=fun o=>(Below.refl _ _).alloc (Nat.le_refl _) o
  let ρ1:Num:=fun i=>if i=s.nid then some w.heap.size else ρ i
  obtain⟨f1,f2,f3⟩:=fin _ ρ1 (hb1 (.loop { state:= .ready,pending:=none,fn,tmps:=a.tmps,params:=⟨ps⟩,assign:=asg,body:=bd,defers:=r0.defers }))
  refine⟨_,_,_,ρ1,bI hw0 fn a.tmps ⟨ps⟩ asg bd,?_,by simp,rfl,by simp [ρ1],f1,f2,f3,fun ρ' ha=> ?_⟩
  ·intro i hi
   simp [ρ1,show i≠s.nid by omega]
  ·simp only at ha
   have ha0:Agree s.nid ρ ρ':=fun i hi=>by rw [ha i (by omega)]; simp [ρ1,show i≠s.nid by omega]
   have e1:ρ' s.nid=some w.heap.size:=by rw [ha _ (by omega)]; simp [ρ1]
   obtain⟨g1,g2,g3⟩:=hρ ρ' ha0
   refine⟨?_,⟨g2.defers,by have:=g2.round; rw [hrd] at this; exact this⟩⟩
   refine g1.new e1 ?_
   exact⟨_,_,rfl,World.alloc_heap_new _ _,⟨rfl,rfl,rfl,rfl,rfl,by simpa using hR.size,fun t x hx=>g3 t x (l0h hx)⟩, .inl hR.base⟩
theorem d0g {X:Cx} {B:Nat} {M:Nat→Prop} (hp:Par X.P B M) {w0:Bas} {rb:Option Nat} {s1 s2:St} {a:Act} {w:World} {l b:Nat} {r:CR} {x:AX} (h:rI s1 l r=some (x,s2)) {ρ2:Num}
  (hR:Rep X.P X.J B M w0 rb ⟨s1.tmps,r.h,r.n,r.ds,r.obs++s1.obs,s1.lp,s1.rd,s1.mks,s1.bs⟩ a w) (hρ0:w0.n≤r.n∧Agree w0.n w0.ρ ρ2) (hρ:∀ ρ',Agree r.n ρ2 ρ'→Sim X.P B M ρ' r.h w∧FR ρ' rb (⟨s1.tmps,r.h,r.n,r.ds,r.obs++s1.obs,s1.lp,s1.rd,s1.mks,s1.bs⟩:St) a∧∀ t x,v7 s1.tmps t= .v x→a.tmps.getD t undef=rv ρ' x) (hb:ρ2 l=some b) {Q:Exit→Act→World→Prop} (hQ:∀ a' w',Rep X.P X.J B M w0 rb s2 a' w'→Q x.toExit a' w'):
  ∃ jump w4,(Instr.endLoop b).run X.P w= .ok jump w4∧(match jump with | none=>Q .normal a w4 | some c=>c.wpIn (Fl rb) 0 X.P Q a w4):=by
 rw [b0n] at h
 split at h
 case h_2=>cases h
 rename_i st pn ts ps asg bd hget
 split at h
 ·cases h
 rename_i hbusy
 obtain⟨b',r',hw,e1,e2,_,_,_,hb',hlt,hturn⟩:=hR.loop' hp hρ0 hρ hget
 have hbb:b'=b:=by
  have:=hb' _ (Agree.refl _ _)
  rw [hb] at this
  exact (Option.some.inj this).symm
 subst hbb
 refine⟨_,_,run_endLoop hw (by rw [e1]; intro e; subst e; cases hbusy),?_⟩
 have hR2:=hturn .exhausted pn ⟨s1.tmps,r.h.set l (.loop .exhausted pn ts ps asg bd),r.n,r.ds,r.obs++s1.obs,s1.lp,s1.rd,s1.mks,s1.bs⟩ rfl rfl rfl rfl rfl rfl
 subst e2
 simp only [] at h
 split at h
 ·rename_i hp0
  cases h
  simp only [hp0] at hR2 ⊢
  have:=hQ a _ (by rw [hp0]; exact hR2)
  exact this
 ·rename_i hp0
  cases h
  simp only [hp0] at hR2 ⊢
  exact wpIn_ret (hQ a _ (by rw [hp0]; exact hR2))
 ·rename_i id hp0
  cases h
  simp only [hp0] at hR2 ⊢
  exact wpIn_exit (hQ a _ (by rw [hp0]; exact hR2))
 ·cases h
theorem s0s {s s1:St} {ps:List Nat} {asg bd:Code} {l:Nat} (h:iB s ps asg bd=some (l,s1)):l < s1.nid:=by
 rw [eO] at h
 split at h
 ·cases h; simp
 ·split at h
  ·cases h; simp
  ·cases h
theorem v0m {s s1:St} {ps:List Nat} {asg bd:Code} {l:Nat} (h:iB s ps asg bd=some (l,s1)):s1.bs=s.bs:=by
 rw [eO] at h
 split at h
 ·cases h; rfl
 ·split at h
  ·cases h; rfl
  ·cases h
theorem mZ {X:Cx} (hX:CxOk X X.J) {B:Nat} {M:Nat→Prop} (hp:Par X.P B M) {w0:Bas} {rb:Option Nat} {s s1 s':St} {x:AX} {g:Operand} {ps:List Nat} {asg bd:Code} {fid l:Nat} {first cap:List Value} {r:CR}
  (hng:P0 g=true) (hg:evo s.tmps [] g=some (.func (.func fid) ⟨first⟩ ⟨cap⟩)) (hent:iB s ps asg bd=some (l,s1)) (hcl:X.cl fid (first++[.func (.yield l) ⟨[]⟩ ⟨[]⟩] ++cap) s1.heap s1.nid s1.ds=some r) (h:rI s1 l r=some (x,s')) (hl:d5 r.obs)
  {a:Act} {w:World} (hR:Rep X.P X.J B M w0 rb s a w) {Q:Exit→Act→World→Prop} (hQ:∀ a' w',Rep X.P X.J B M w0 rb s' a' w'→Q x.toExit a' w'):(Code.rangeFunc g ⟨ps⟩ asg bd).wpIn (Fl rb) 0 X.P Q a w:=by
 obtain⟨hn,hfent,hcalls⟩:=hX.cl _ _ _ _ _ _ hcl hl
 refine wpIn_rangeFunc (fun fn _=> ?_)
 obtain⟨b,mark,w1,ρ1,hrun,ha1,hnid,htm,hb,hB1,hI1,hK1,hsim⟩:=a0g hp hR hent fn
 have hlt:=s0s hent
 have hgv:=v0b hR hng hg
 obtain⟨hρ0,hρ⟩:=hR.rep.choose_spec
 generalize hR.rep.choose=ρ at*
 have hgv1:=hgv ρ1 ha1
 simp only [rv,rvA,rFn] at hgv1
 have hargs:∀ ρ',Agree s1.nid ρ1 ρ'→(⟨rvL ρ' (first++[.func (.yield l) ⟨[]⟩ ⟨[]⟩] ++cap)⟩:Array Value)=(⟨rvL ρ1 first⟩:Array Value)++ #[.func (.yield b) #[] #[]] ++⟨rvL ρ1 cap⟩:=fun ρ' ha=>by
  have hgv2:=hgv ρ' (fun i hi=>(ha i (Nat.lt_of_lt_of_le hi hnid)).trans (ha1 i hi))
  rw [hgv1] at hgv2
  simp only [rv,rvA,rFn] at hgv2
  injection hgv2 with _ e1 e2
  injection e1 with e1
  injection e2 with e2
  have hlb:ρ' l=some b:=by rw [ha l hlt,hb]
  rw [e1,e2]
  simp [d8,rv,rvA,rvL,rFn,hlb]
 have hres:(resolve a.eval (rangeCall g b) 0).run X.P w1= .ok ⟨.fn (.func fid) ⟨rvL ρ1 cap⟩,(⟨rvL ρ1 first⟩:Array Value)++ #[.func (.yield b) #[] #[]]⟩ w1:=by
  simp only [resolve,hgv1,Deferred.ofValue,Sem.run_pure]
  simp [Act.eval]
 have hinv:(invoke (.fn (.func fid) ⟨rvL ρ1 cap⟩) ((⟨rvL ρ1 first⟩:Array Value)++ #[.func (.yield b) #[] #[]])).run X.P w1= .ok (.enter fid ⟨rvL ρ1 (first++[.func (.yield l) ⟨[]⟩ ⟨[]⟩] ++cap)⟩) w1:=by
  rw [hargs ρ1 (Agree.refl _ _)]
  exact hfent _ _
 have hcall:=hcalls B M ρ1 w1 (rvL ρ1 (first++[.func (.yield l) ⟨[]⟩ ⟨[]⟩] ++cap)) hp hB1 hI1 (fun ρ' ha=>⟨(hsim ρ' ha).1,by
  have e1:=hargs ρ' ha
  rw [← hargs ρ1 (Agree.refl _ _)] at e1
  injection e1 with e1
  exact e1.symm⟩)
 refine⟨b,mark,w1,_,w1,fid,_,w1,hrun,hres,fun _ _=>trivial,hinv,fun h=>(by cases h),Z2 (hcall.mono fun e w' hh=> ?_)⟩
 obtain⟨ρ2,v,ha2,he,hk,hfin⟩:=hh
 subst he
 have hag:∀ ρ',Agree r.n ρ2 ρ'→Agree s1.nid ρ1 ρ':=fun ρ' ha i hi=>(ha i (Nat.lt_of_lt_of_le hi hn)).trans (ha2 i hi)
 have h0:w0.n≤r.n∧Agree w0.n w0.ρ ρ2:=⟨Nat.le_trans hρ0.1 (Nat.le_trans hnid hn),fun i hi=>by
  have h1:i < s.nid:=Nat.lt_of_lt_of_le hi hρ0.1
  rw [ha2 i (by omega),ha1 i h1]
  exact hρ0.2 i hi⟩
 have h1:∀ ρ',Agree r.n ρ2 ρ'→Sim X.P B M ρ' r.h w'∧FR ρ' rb (⟨s1.tmps,r.h,r.n,r.ds,r.obs++s1.obs,s1.lp,s1.rd,s1.mks,s1.bs⟩:St) { a with defers:=mark++a.defers } ∧∀ t x,v7 s1.tmps t= .v x→a.tmps.getD t undef=rv ρ' x:=fun ρ' ha=>by
  refine⟨(hfin ρ' ha).2,?_,?_⟩
  ·have:=(hsim ρ' (hag ρ' ha)).2
   exact⟨this.defers,this.round⟩
  ·rw [htm]
   exact (hρ ρ' (fun i hi=>(hag ρ' ha i (Nat.lt_of_lt_of_le hi hnid)).trans (ha1 i hi))).2.2
 have hR1:Rep X.P X.J B M w0 rb ⟨s1.tmps,r.h,r.n,r.ds,r.obs++s1.obs,s1.lp,s1.rd,s1.mks,s1.bs⟩ { a with defers:=mark++a.defers } w':=
  ⟨by show w0.n=s1.bs; rw [v0m hent]; exact hR.low,by rw [htm]; exact hR.plain,by rw [htm]; exact hR.size,Nat.le_trans hB1 hk.size,X.J.keeps hp hk hI1,hK1.trans hk,ρ2,h0,h1⟩
 exact d0g hp h hR1 h0 h1 (by rw [ha2 l hlt,hb]) hQ
theorem E9 {P:Program} {b:Frame} {a:Act} {k:List Item} {cs:List Frame} {w:World} {c:Code} :step P (lone (b.atR a (.code (.scope c) ::k)) cs w)= .next (lone (b.atR a (.code c :: .inScope c ::k)) cs w):=
 step_lone_go (by simp [stepG,stepG.exec,Frame.atR])
theorem yN {P:Program} {b:Frame} {a:Act} {k:List Item} {cs:List Frame} {w:World} {c:Code} :step P (lone (b.atR a (.inScope c ::k)) cs w)= .next (lone (b.atR a k) cs w):=
 step_lone_go (by simp [stepG,stepG.exec,Frame.atR])
theorem o0z {F:Fence} {n:Nat} {P:Program} {Q:Exit→Act→World→Prop} {a:Act} {w:World} {c:Code} (h:c.wpIn F n P (Exit.noGoto Q) a w):(Code.scope c).wpIn F n P Q a w:=by
 intro b k cs hro hb hr
 have h0:(lone (b.atR a (.code (.scope c) ::k)) cs w).fenced P F:=fenced_calm hb hr rfl
 obtain⟨e,a₁,w₁,hq,harr⟩:=h b (.inScope c ::k) cs hro hb hr
 cases e with
 | normal=>exact⟨.normal,a₁,w₁,hq, .head h0 E9 (StepsIn.trans harr (.one (fenced_calm hb hr rfl) yN))⟩
 | exit id=>
  have hx:exitTo id (.inScope c ::k)=exitTo id k:=by simp [exitTo]
  exact⟨.exit id,a₁,w₁,hq,fun k' hk=> .head h0 E9 (harr.1 k' (by rw [hx]; exact hk)),
   fun hr' hk=>let ⟨k₁,h1,h2⟩:=harr.2 hr' (by rw [hx]; exact hk); ⟨k₁,h1, .head h0 E9 h2⟩⟩
 | goto l=>exact hq.elim
 | ret=>exact⟨_,a₁,w₁,hq, .of_steps (.one h0 E9) harr⟩
 | panic ch=>exact⟨_,a₁,w₁,hq, .of_steps (.one h0 E9) harr⟩
 | outgrown=>exact⟨_,a₁,w₁,hq, .of_steps (.one h0 E9) harr⟩
theorem V3 {X:Cx} {L:O3} (hX:CxOk X X.J) (hm:X.P.follows .mixedOrders=true) {B:Nat} {M:Nat→Prop} (hp:Par X.P B M) {w0:Bas} {rb:Option Nat} :∀ (f:Nat) (c:Code) (s:St) (x:AX) (s':St),B2 X L f c s=some (x,s')→d5 s'.obs→
  ∀ a w,Rep X.P X.J B M w0 rb s a w→∀ Q:Exit→Act→World→Prop,(∀ a' w',Rep X.P X.J B M w0 rb s' a' w'→Q x.toExit a' w')→c.wpIn (Fl rb) 0 X.P Q a w:=by
 intro f
 induction f with
 | zero=>intro c s x s' h; simp [B2] at h
 | succ f ih=>
  intro c s x s' h hl a w hR Q hQ
  unfold B2 at h
  split at h
  ·cases h; exact wpIn_skip (hQ a w hR)
  ·cases h; exact wpIn_label (hQ a w hR)
  ·split at h
   ·rename_i s1 hr; cases h; exact qR hX hm hr hl hp hR hQ
   ·split at h
    ·split at h
     ·rename_i s1 hr; cases h; exact yB hX hr hl hp hR hQ
     ·cases h
    ·cases h
  ·split at h
   ·rename_i s1 h1
    exact wpIn_seq (ih _ _ _ _ h1 (Q0 _ _ _ _ _ h hl) a w hR _ (fun a' w' hR'=>ih _ _ _ _ h hl a' w' hR' Q hQ))
   ·rename_i hno
    have hxn:x≠ .normal:=fun e=>by subst e; exact hno s' h
    refine wpIn_seq (ih _ _ _ _ h hl a w hR _ (fun a' w' hR'=> ?_))
    cases x with
    | normal=>exact absurd rfl hxn
    | exit id=>exact hQ a' w' hR'
    | ret=>exact hQ a' w' hR'
  ·rename_i o c1 c2
   split at h
   case h_2=>cases h
   rename_i b hb
   have hval:P0 o=true→a.eval o= .bool b:=fun hg=>by
    have:=v0b hR hg hb _ (Agree.refl _ _)
    simpa [rv] using this
   have hg:P0 o=true:=by
    cases o with
    | global g=>simp [evo] at hb
    | _=>rfl
   have hv:=hval hg
   split at h
   ·rename_i d ds hds
    split at h
    ·have hob:=Q0 _ _ _ _ _ h hl
     have hb':b=true:=hob.1
     subst hb'
     exact wpIn_cond_true hv (ih _ _ _ _ h hl a w (hR.same rfl rfl rfl rfl rfl rfl) Q hQ)
    ·have hob:=Q0 _ _ _ _ _ h hl
     have hb':b=false:=hob.1
     subst hb'
     exact wpIn_cond_false hv (ih _ _ _ _ h hl a w (hR.same rfl rfl rfl rfl rfl rfl) Q hQ)
   ·split at h
    ·exact wpIn_cond_true hv (ih _ _ _ _ h hl a w hR Q hQ)
    ·exact wpIn_cond_false hv (ih _ _ _ _ h hl a w hR Q hQ)
  ·rename_i id c1
   split at h
   ·rename_i i s1 h1
    split at h
    ·rename_i hi
     have hi:=Nat.eq_of_beq_eq_true hi
     subst hi
     cases h
     refine wpIn_block (ih _ _ _ _ h1 hl a w hR _ (fun a' w' hR'=> ?_))
     simp only [AX.toExit,Exit.inBlock,if_true]
     exact hQ a' w' hR'
    ·rename_i hi
     cases h
     refine wpIn_block (ih _ _ _ _ h1 hl a w hR _ (fun a' w' hR'=> ?_))
     simp only [AX.toExit,Exit.inBlock]
     rw [if_neg (fun e=>by subst e; rw [Nat.beq_refl] at hi; cases hi)]
     exact hQ a' w' hR'
   ·rename_i hno
    refine wpIn_block (ih _ _ _ _ h hl a w hR _ (fun a' w' hR'=> ?_))
    cases x with
    | normal=>exact hQ a' w' hR'
    | exit id=>exact absurd h (hno id s')
    | ret=>exact hQ a' w' hR'
  ·refine o0z (ih _ _ _ _ h hl a w hR _ (fun a' w' hR'=> ?_))
   cases x with
   | normal=>exact hQ a' w' hR'
   | exit id=>exact hQ a' w' hR'
   | ret=>exact hQ a' w' hR'
  ·rename_i c1
   split at h
   ·split at h
    ·rename_i x1 s1 hs1
     cases h
     have hlt:a7 X c1 s.core x s1.core:=hl.1
     refine wpIn_mono (hlt B M w0 rb a w hp (hR.same rfl rfl rfl rfl rfl rfl)) (fun e a' w' ⟨he,hR'⟩=> ?_)
     subst he
     exact hQ a' w' (hR'.same rfl rfl rfl rfl rfl rfl)
    ·cases h
   ·exact wpIn_loop_rounds f (aI (fun s x s'=>Q0 f c1 s x s') (fun s x s' hs hls a w hR Q' hQ'=>ih c1 s x s' hs hls a w hR Q' hQ') f s x s' h hl hQ a w hR).2
  ·cases h; exact wpIn_exit (hQ a w hR)
  ·cases h; exact wpIn_ret (hQ a w hR)
  ·rename_i g ps asg bd
   split at h
   case h_2=>cases h
   rename_i fid first cap hng hg
   split at h
   ·cases h
   rename_i l s1 hent
   split at h
   ·cases h
   rename_i r hcl
   have hlr:=hl
   rw [sU h,l6] at hlr
   exact mZ hX hp hng hg hent hcl h hlr.1 hR hQ
  ·cases h
def G3 (P:Program) (auto:Bool) (ts:List TV) (H:Heap):List ResultVar→Option (List Value×List Prop)
 | [] =>some ([],[])
 | .tmp t ::r=>match rd [] (v7 ts t),G3 P auto ts H r with
  | some v,some (vs,l)=>some (v ::vs,l)
  | _,_=>none
 | .cell t ty ::r=>match rd [] (v7 ts t) with
  | some x=>match rL P auto H ty x,G3 P auto ts H r with
   | some (v,l),some (vs,l')=>some (v ::vs,l++l')
   | _,_=>none
  | none=>none
def H3:List Value→Value
 | [v] =>v
 | vs=> .tuple ⟨vs⟩
theorem k0q {ts:List TV} {a:Act} (hR:∀ t,tQ (v7 ts t)=true) {ρ:Num} (hv:∀ t x,v7 ts t= .v x→a.tmps.getD t undef=rv ρ x) {t:Nat} {v:Value} (h:rd [] (v7 ts t)=some v):
  a.tmps.getD t undef=rv ρ v:=by
 have hp:=hR t
 have h1:=hv t
 generalize v7 ts t=tv at*
 cases tv with
 | unk=>simp [rd] at h
 | v y=>simp only [rd] at h; cases h; exact h1 _ rfl
 | sp l y=>cases hp
 | key j l b=>cases hp
theorem m0g {P:Program} {auto:Bool} {H:Heap} {t:TypeId} {x v:Value} {l:List Prop} (h:rL P auto H t x=some (v,l)):∃ id off,x= .pointer (some ⟨id,off,none⟩):=by
 unfold rL at h
 simp only [p7,q9] at h
 split at h
 ·exact⟨_,_,rfl⟩
 ·cases h
theorem N4 {P:Program} {auto:Bool} {B:Nat} {M:Nat→Prop} {ts:List TV} {H:Heap} {a:Act} {w:World} (hR:∀ t,tQ (v7 ts t)=true) {ρ:Num} (hS:Sim P B M ρ H w) (hv:∀ t x,v7 ts t= .v x→a.tmps.getD t undef=rv ρ x):
  ∀ (l:List ResultVar) (vs:List Value) (ob:List Prop),G3 P auto ts H l=some (vs,ob)→d5 ob→
   (l.mapM fun (r:ResultVar)=>(match r with | .tmp t=>pure (a.tmps.getD t undef) | .cell p ty=>do loadVar ty (← asAddr (a.tmps.getD p undef)):Sem Value)).run P w= .ok (rvL ρ vs) w
 | [],vs,ob,h,_=>by simp only [G3] at h; cases h; rfl
 | .tmp t ::r,vs,ob,h,hl=>by
  simp only [G3] at h
  split at h
  case h_2=>cases h
  rename_i v vs' l' h1 h2
  cases h
  have ih:=N4 hR hS hv r vs' _ h2 hl
  simp only [List.mapM_cons,Sem.run_bind,Sem.run_pure,Result.andThen_ok,k0q hR hv h1]
  rw [ih]
  rfl
 | .cell t ty ::r,vs,ob,h,hl=>by
  simp only [G3] at h
  split at h
  case h_2=>cases h
  rename_i x h1
  split at h
  case h_2=>cases h
  rename_i v l1 vs' l2 h2 h3
  cases h
  rw [l6] at hl
  have ih:=N4 hR hS hv r vs' l2 h3 hl.2
  have hld:=gW hS h2 hl.1
  simp only [List.mapM_cons,Sem.run_bind,k0q hR hv h1]
  obtain⟨id,off,rfl⟩:=m0g h2
  have hadr:((asAddr (rv ρ (.pointer (some ⟨id,off,none⟩)))).run P w).andThen (fun a w'=>(loadVar ty a).run P w')= .ok (rv ρ v) w:=by
   simp only [rv,m8] at hld ⊢
   cases hid:ρ id with
   | none=>rw [hid] at hld; simp [Instr.loadAt,Instr.sureAddr,stuck,Sem.run] at hld
   | some b=>
    rw [hid] at hld
    simp only [Option.map_some,Instr.loadAt,Instr.sureAddr,pure_bind] at hld
    simp only [Option.map_some,asAddr,Sem.run_pure,Result.andThen_ok]
    exact hld
  rw [hadr]
  simp only [Result.andThen_ok]
  rw [ih]
  rfl
def q1a (n:Nat):Fn→Bool
 | .yield l=>Nat.blt l n
 | _=>true
mutual
def lF (n:Nat):Value→Bool
 | .pointer (some a)=>Nat.blt a.block n
 | .slice (some a) _ _=>Nat.blt a.block n && (match a.spot with | none=>true | some k=>Nat.blt k n)
 | .map (some r)=>Nat.blt r n
 | .func fn f c=>q1a n fn && lowA n f && lowA n c
 | .chan (some _)=>false
 | .complex _ _ _=>false
 | .iface _ v=>lF n v
 | .agg cs=>lowA n cs
 | .tuple vs=>lowA n vs
 | _=>true
def lowA (n:Nat):Array Value→Bool
 | ⟨l⟩=>lowL n l
def lowL (n:Nat):List Value→Bool
 | [] =>true
 | v ::l=>lF n v && lowL n l
end
def x1y (n:Nat):Heap→Bool
 | [] =>true
 | (i,o) ::r=>match Nat.blt i n with
  | false=>x1y n r
  | true=>match o with
   | .cells cs _=>lowL n cs && x1y n r
   | _=>x1y n r
def gcH (v:Value) (n:Nat) (h:Heap):Heap:=
 match x1y n h with
 | false=>h
 | true=>match pureV v with
  | true=>h.filter fun p=>Nat.blt p.1 n
  | false=>match rD h 400 (o1u v []) [] with
   | keep=>h.filter fun p=>Nat.blt p.1 n || C8 p.1 keep
theorem Q5 (f:Nat→Bool):∀ (h:Heap) (i:Nat) (o:AObj),Heap.get (h.filter fun p=>f p.1) i=some o→Heap.get h i=some o
 | [],_,_,hi=>hi
 | (j,q) ::h,i,o,hi=>by
  rw [List.filter_cons] at hi
  rw [Heap.get_cons]
  split at hi
  ·rw [Heap.get_cons] at hi
   split at hi
   ·rename_i e; rw [if_pos e]; exact hi
   ·rename_i e; rw [if_neg e]; exact Q5 f h i o hi
  ·rename_i hb
   split
   ·rename_i e
    subst e
    exfalso
    have hlt:∀ (l:Heap) (o:AObj),Heap.get (l.filter fun p=>f p.1) j=some o→f j=true:=by
     intro l
     induction l with
     | nil=>intro o h; simp [Heap.get] at h
     | cons p l ihl=>
      obtain⟨k,q'⟩:=p
      intro o h
      rw [List.filter_cons] at h
      split at h
      ·rename_i hk
       rw [Heap.get_cons] at h
       split at h
       ·rename_i e; subst e; exact hk
       ·exact ihl o h
      ·exact ihl o h
    exact hb (hlt h o hi)
   ·exact Q5 f h i o hi
theorem d1d (v:Value) (n:Nat) (h:Heap):∀ i o,(gcH v n h).get i=some o→h.get i=some o:=by
 intro i o hi
 unfold gcH at hi
 split at hi
 ·exact hi
 ·split at hi
  ·exact Q5 (fun k=>Nat.blt k n) h i o hi
  ·exact Q5 (fun k=>Nat.blt k n || C8 k _) h i o hi
def N2:List Mk→Heap→Option Heap
 | [],H=>some H
 | .mark i ::r,H=>match H.get i with
  | some .defr=>N2 r (H.set i .dead)
  | _=>none
 | .call _ _ _ ::r,H=>N2 r H
def p1y (P:Program) (f:FuncId) (k:Nat):Prop:=
 ∀ (args:Array Value) (w:World),args.size=k→(callFunc f args).run P w= .ok (.enter f args) w∧
  ∃ w1,Below w.heap.size w w1∧CallsDIn Fence.wide 0 P f args .returning w fun e u' w'=>(∃ v,e= .returned v)∧u'= .returning∧w'=w1
def nQ (P:Program):List Mk→List Prop→List Prop
 | [],l=>l
 | .mark _ ::r,l=>nQ P r l
 | .call f cap args ::r,l=>p1y P f (args.length+cap.length) ::nQ P r l
theorem bS {P:Program} :∀ {mks:List Mk} {l:List Prop},d5 (nQ P mks l)→(∀ f cap args,Mk.call f cap args∈mks→p1y P f (args.length+cap.length))∧d5 l
 | [],l,h=>⟨(fun _ _ _ hm=>by cases hm),h⟩
 | .mark _ ::r,l,h=>by
  obtain⟨h1,h2⟩:=bS (mks:=r) h
  exact⟨fun f cap args hm=>h1 f cap args (by simpa using hm),h2⟩
 | .call f0 _ _ ::r,l,h=>by
  obtain⟨h1,h2⟩:=bS (mks:=r) h.2
  refine⟨fun f cap args hm=> ?_,h2⟩
  rcases List.mem_cons.1 hm with e | hm
  ·cases e; exact h.1
  ·exact h1 f cap args hm
def k0a (X:Cx) (L:O3) (fuel:Nat) (f:FuncId) (args:List Value) (H:Heap) (n:Nat) (ds:List Bool):Option CR:=
 match u0h X.P.funcs.toList f with
 | none=>none
 | some fn=>match fn.body with
  | none=>none
  | some c=>match B2 X L fuel c ⟨args.map .v++List.replicate (fn.ntmps-args.length) (.v undef),H,n,ds,[],0,none,[],n⟩ with
   | none=>none
   | some (x,⟨tm,hp,nid,ds',obs,_,_,mk,_⟩)=>match x with
    | .exit _=>none
    | _=>match Nat.ble n nid with
     | false=>none
     | true=>match N2 mk hp with
      | none=>none
      | some H'=>match G3 X.P X.auto tm H' fn.results.toList with
       | none=>none
       | some (vs,l)=>some ⟨H3 vs,gcH (H3 vs) n H',nid,nQ X.P mk (l++obs),ds'⟩
theorem i0d (X:Cx) (L:O3) (fuel:Nat) (f:FuncId) (args:List Value) (H:Heap) (n:Nat) (ds:List Bool):k0a X L fuel f args H n ds=
  match X.P.funcs[f]? with
  | none=>none
  | some fn=>match fn.body with
   | none=>none
   | some c=>match B2 X L fuel c ⟨args.map .v++List.replicate (fn.ntmps-args.length) (.v undef),H,n,ds,[],0,none,[],n⟩ with
    | none=>none
    | some (x,s)=>match x with
     | .exit _=>none
     | _=>match Nat.ble n s.nid with
      | false=>none
      | true=>match N2 s.mks s.heap with
       | none=>none
       | some H'=>match G3 X.P X.auto s.tmps H' fn.results.toList with
        | none=>none
        | some (vs,l)=>some ⟨H3 vs,gcH (H3 vs) n H',s.nid,nQ X.P s.mks (l++s.obs),s.ds⟩:=by
 unfold k0a
 rw [O2,show X.P.funcs.toList[f]? =X.P.funcs[f]? by simp]
 cases X.P.funcs[f]? with
 | none=>rfl
 | some fn=>
  dsimp only
  cases fn.body with
  | none=>rfl
  | some c=>
   dsimp only
   generalize B2 X L fuel c _=z
   cases z with
   | none=>rfl
   | some p=>
    obtain⟨x,s⟩:=p
    cases x <;> rfl
theorem X9 {P:Program} {fn:Func} {tmps:Array Value} {R:Ending→World→Prop} {B:Nat} {M:Nat→Prop} :∀ (mks:List Mk) (H H':Heap) (w:World),(∀ f cap args,Mk.call f cap args∈mks→p1y P f (args.length+cap.length))→B≤w.heap.size→N2 mks H=some H'→∀ ρ,Sim P B M ρ H w→
  ∃ w',Keeps B M w w'∧(∀ ρ',(∀ i,H.get i=some .defr→ρ' i=ρ i)→Sim P B M ρ' H w→Sim P B M ρ' H' w')∧(LeavesInM Fence.wide 0 P fn tmps R [] .returning w'→LeavesInM Fence.wide 0 P fn tmps R (mks.map (mkD ρ)) .returning w)
 | [],H,H',w,_,_,h,ρ,hS=>by
  simp only [N2] at h
  cases h
  exact⟨w,Keeps.refl _ _ _,fun _ _ h=>h,fun h=>h⟩
 | .call f cap args ::r,H,H',w,hq,hB,h,ρ,hS=>by
  simp only [N2] at h
  obtain⟨q1,w1,q2,q3⟩:=hq f cap args (by simp) ((⟨rvL ρ args⟩:Array Value)++⟨rvL ρ cap⟩) w (by simp [d8])
  have hk:Keeps B M w w1:=⟨q2.os,q2.tape,q2.output,q2.size,fun k hk _=>q2.block k (Nat.lt_of_lt_of_le hk hB)⟩
  obtain⟨w',k1,k2,k3⟩:=X9 (fn:=fn) (tmps:=tmps) (R:=R) r H H' w1 (fun f cap args hm=>hq f cap args (List.mem_cons_of_mem _ hm)) (Nat.le_trans hB q2.size) h ρ (hS.below q2)
  refine⟨w',hk.trans k1,fun ρ' he hS'=>k2 ρ' he (hS'.below q2),fun hh=> ?_⟩
  simp only [List.map_cons]
  refine⟨by simp, .inr ⟨(fun hd=>by cases hd), .func f,⟨rvL ρ cap⟩,f,_,rfl,q1,fun _ _=>trivial,?_⟩⟩
  refine⟨q3.1,fun c cs hu hro=> ?_⟩
  obtain⟨e,u',w2,fr,⟨⟨v,hv⟩,hu',hw'⟩,hs⟩:=q3.2 c cs hu hro
  subst hv hu' hw'
  exact⟨_,_,_,fr,k3 hh,hs⟩
 | .mark i ::r,H,H',w,hq,hB,h,ρ,hS=>by
  simp only [N2] at h
  split at h
  case h_2=>cases h
  rename_i hget
  have turn:∀ ρ',Sim P B M ρ' H w→∀ b,ρ' i=some b→w.heap[b]? =some (.deferred (some []))→(B≤b∨M b)→Sim P B M ρ' (H.set i .dead) (w.putObj b (.deferred none)):=fun ρ' hS' b hb hw hown=>
   hS'.turn hget rfl hb ⟨b,_,rfl,World.putObj_heap_same (d4 hw),hown⟩ (fun k hk=>World.putObj_heap_other hk)
  obtain⟨b,hb,hw,hown⟩:=hS.obj i _ hget
  have hk:Keeps B M w (w.putObj b (.deferred none)):=
   ⟨rfl,rfl,rfl,by simp,fun k hk hm=>World.putObj_heap_other (fun e=>by subst e; exact hown.elim (fun h=>by omega) (fun h=>hm h))⟩
  obtain⟨w',k1,k2,k3⟩:=X9 r _ H' _ (fun f cap args hm=>hq f cap args (List.mem_cons_of_mem _ hm)) (by simpa using hB) h ρ (turn ρ hS b hb hw hown)
  refine⟨w',hk.trans k1,fun ρ' he hS'=>k2 ρ' (fun j hj=> ?_) (turn ρ' hS' b ((he i hget).trans hb) hw hown),fun hh=> ?_⟩
  ·rw [Heap.get_set H i .dead .defr hget] at hj
   split at hj
   ·cases hj
   ·exact he j hj
  ·simp only [List.map_cons,mkD,hb,Option.getD_some]
   exact⟨by simp, .inl ⟨b,_,rfl,run_takeDeferred hw,k3 hh⟩⟩
theorem s1w {ts:List Value} {k t:Nat} {x:Value} (h:v7 (ts.map .v++List.replicate k (.v undef)) t= .v x) (ρ:Num):(((⟨rvL ρ ts⟩:Array Value)++Array.replicate k undef)).getD t undef=rv ρ x:=by
 simp only [B5] at h
 rw [Array.getD_eq_getD_getElem?]
 have e:((⟨rvL ρ ts⟩:Array Value)++Array.replicate k undef)[t]? =(rvL ρ ts++List.replicate k undef)[t]? :=by
  rw [← Array.getElem?_toList]
  simp
 rw [e]
 by_cases ht:t < ts.length
 ·rw [List.getElem?_append_left (by simpa using ht)] at h
  rw [List.getElem?_append_left (by rw [d8]; simpa using ht)]
  simp only [List.getElem?_map,d8] at h ⊢
  have hs:ts[t]? =some ts[t] :=by simp [ht]
  rw [hs] at h ⊢
  simp only [Option.map_some,Option.getD_some] at h ⊢
  cases h
  rfl
 ·rw [List.getElem?_append_right (by simpa using ht)] at h
  rw [List.getElem?_append_right (by rw [d8]; simpa using ht)]
  simp only [d8,List.length_map] at h ⊢
  by_cases hk:t-ts.length < k
  ·rw [List.getElem?_replicate,if_pos hk] at h ⊢
   simp only [Option.getD_some] at h ⊢
   cases h
   rw [M4]
  ·rw [List.getElem?_replicate,if_neg hk] at h
   cases h
theorem f0v {P:Program} {fn:Func} {tmps:Array Value} {w:World} {vs:List Value} (h:(fn.results.toList.mapM fun (r:ResultVar)=>(match r with | .tmp t=>pure (tmps.getD t undef) | .cell p ty=>do loadVar ty (← asAddr (tmps.getD p undef)):Sem Value)).run P w= .ok vs w):
  (results fn tmps).run P w= .ok (H3 vs) w:=by
 unfold results
 rw [Array.mapM_eq_mapM_toList,Sem.run_bind,Sem.run_map]
 refine Eq.trans (congrArg (fun r:Result (List Value)=>(r.andThen fun a w'=> .ok a.toArray w').andThen fun (a:Array Value) w'=>Sem.run P (pure (if h:a.size=1 then a[0] else Value.tuple a)) w') h) ?_
 simp only [Result.andThen_ok,Sem.run_pure]
 congr 1
 cases vs with
 | nil=>rfl
 | cons v vs=>
  cases vs with
  | nil=>rfl
  | cons u vs=>rfl
theorem F2 {X:Cx} {L:O3} (hX:CxOk X X.J) (hm:X.P.follows .mixedOrders=true) {fuel f n:Nat} {args:List Value} {H:Heap} {ds:List Bool} {r:CR} (h:k0a X L fuel f args H n ds=some r) (hl:d5 r.obs)
  {B:Nat} {M:Nat→Prop} {ρ:Num} {w:World} {vs:List Value} (hp:Par X.P B M) (hB:B≤w.heap.size) (hI:X.J.I w) (hS:∀ ρ',Agree n ρ ρ'→Sim X.P B M ρ' H w∧vs=rvL ρ' args):
  n≤r.n∧Calls X.P f ⟨vs⟩ w fun e w'=>∃ ρ1 v,Agree n ρ ρ1∧e= .returned v∧Keeps B M w w'∧∀ ρ',Agree r.n ρ1 ρ'→v=rv ρ' r.v∧Sim X.P B M ρ' r.h w':=by
 rw [i0d] at h
 split at h
 case h_1=>cases h
 rename_i fn hfn
 split at h
 case h_1=>cases h
 rename_i c hc
 split at h
 case h_1=>cases h
 rename_i x s hcode
 have key:(∀ id,x≠ .exit id)→∀ (hn:n≤s.nid) (H':Heap) (us:List Value) (l:List Prop),N2 s.mks s.heap=some H'→G3 X.P X.auto s.tmps H' fn.results.toList=some (us,l)→r=⟨H3 us,gcH (H3 us) n H',s.nid,nQ X.P s.mks (l++s.obs),s.ds⟩→
   Calls X.P f ⟨vs⟩ w fun e w'=>∃ ρ1 v,Agree n ρ ρ1∧e= .returned v∧Keeps B M w w'∧∀ ρ',Agree r.n ρ1 ρ'→v=rv ρ' r.v∧Sim X.P B M ρ' r.h w':=by
  intro hne hn H' us l hkill hres hr
  subst hr
  obtain⟨hqu,hl⟩:=bS hl
  rw [l6] at hl
  refine callsIn_wide.1 (callsIn_of_wp_marks (n:=0) hfn hc trivial ?_)
  have hR0:Rep X.P X.J B M ⟨w,n,ρ,[]⟩ none ⟨args.map .v++List.replicate (fn.ntmps-args.length) (.v undef),H,n,ds,[],0,none,[],n⟩ { tmps:=(⟨vs⟩:Array Value)++Array.replicate (fn.ntmps- (⟨vs⟩:Array Value).size) undef,defers:=[]} w:=by
   have hlen:vs.length=args.length:=by rw [(hS ρ (Agree.refl _ _)).2,d8]; simp
   refine⟨rfl,fun t=> ?_,by simp [hlen],hB,hI,Keeps.refl _ _ _,ρ,⟨Nat.le_refl _,Agree.refl _ _⟩,fun ρ' ha=>⟨(hS ρ' ha).1,⟨rfl,rfl⟩,fun t x hx=> ?_⟩⟩
   ·simp only [B5]
    rcases hgt:(args.map TV.v++List.replicate (fn.ntmps-args.length) (TV.v undef))[t]? with _ | tv
    ·rfl
    ·have hmem:=List.mem_of_getElem? hgt
     simp only [List.mem_append,List.mem_map,List.mem_replicate] at hmem
     rcases hmem with ⟨y,_,rfl⟩ | ⟨_,rfl⟩ <;> rfl
   ·have:=s1w hx ρ'
    rw [← (hS ρ' ha).2] at this
    simpa [hlen] using this
  refine V3 (rb:=none) hX hm hp fuel c _ x s hcode hl.2 _ w hR0 _ (fun a' w' hR'=> ?_)
  obtain⟨ρ2,hρ20,hρ2⟩:=hR'.rep
  have hfin:∀ R:Ending→World→Prop,(∀ e w',(∃ ρ1 v,Agree n ρ ρ1∧e= .returned v∧Keeps B M w w'∧∀ ρ',Agree s.nid ρ1 ρ'→v=rv ρ' (H3 us)∧Sim X.P B M ρ' (gcH (H3 us) n H') w')→R e w')→LeavesInM Fence.wide 0 X.P fn a'.tmps R a'.defers .returning w':=by
   intro R hRR
   obtain⟨hS2,hF2,hv2⟩:=hρ2 ρ2 (Agree.refl _ _)
   obtain⟨w2,k1,k2,k3⟩:=X9 (fn:=fn) (tmps:=a'.tmps) (R:=R) s.mks _ H' w' hqu hR'.base hkill ρ2 hS2
   rw [hF2.defers]
   refine k3 ?_
   have hsim:∀ ρ',Agree s.nid ρ2 ρ'→Sim X.P B M ρ' H' w2:=fun ρ' ha=>by
    refine k2 ρ' (fun i hi=> ?_) (hρ2 ρ' ha).1
    exact ha i ((hR'.known hi).elim id (fun h=>by rcases h with ⟨_,_,h⟩ | ⟨_,h⟩ | ⟨_,_,_,_,h⟩ | ⟨_,_,_,_,h⟩ <;> cases h))
   have each:∀ ρ',Agree s.nid ρ2 ρ'→(results fn a'.tmps).run X.P w2= .ok (rv ρ' (H3 us)) w2:=fun ρ' ha=>by
    have:=f0v (N4 hR'.plain (hsim ρ' ha) (hρ2 ρ' ha).2.2 _ us l hres hl.1)
    rw [this]
    congr 1
    cases us with
    | nil=>simp [H3,rvL,rv,rvA]
    | cons u us=>
     cases us with
     | nil=>simp [H3,rvL]
     | cons u2 us=>simp [H3,rvL,rv,rvA]
   have e0:=each ρ2 (Agree.refl _ _)
   refine⟨_,e0,hRR _ _ ⟨ρ2,_,hρ20.2,rfl,hR'.keeps.trans k1,fun ρ' ha=>⟨?_,(hsim ρ' ha).less (d1d _ _ _)⟩⟩⟩
   have e1:=each ρ' ha
   rw [e0] at e1
   injection e1
  cases x with
  | normal=>exact hfin _ (fun _ _ h=>h)
  | ret=>exact hfin _ (fun _ _ h=>h)
  | exit id=>exact absurd rfl (hne id)
 have fin:(∀ id,x≠ .exit id)→(match Nat.ble n s.nid with
     | false=>none
     | true=>match N2 s.mks s.heap with
      | none=>none
      | some H'=>match G3 X.P X.auto s.tmps H' fn.results.toList with
       | none=>none
       | some (vs,l)=>some (⟨H3 vs,gcH (H3 vs) n H',s.nid,nQ X.P s.mks (l++s.obs),s.ds⟩:CR))=some r→
   n≤r.n∧Calls X.P f ⟨vs⟩ w fun e w'=>∃ ρ1 v,Agree n ρ ρ1∧e= .returned v∧Keeps B M w w'∧∀ ρ',Agree r.n ρ1 ρ'→v=rv ρ' r.v∧Sim X.P B M ρ' r.h w':=by
  intro hne h
  split at h
  ·cases h
  rename_i hb
  have hn:=Nat.le_of_ble_eq_true hb
  split at h
  case h_1=>cases h
  rename_i H' hkill
  split at h
  case h_1=>cases h
  rename_i us l hres
  have hr:=(Option.some.inj h).symm
  refine⟨by rw [hr]; exact hn,key hne hn H' us l hkill hres hr⟩
 cases x with
 | normal=>exact fin (fun _ e=>by cases e) h
 | ret=>exact fin (fun _ e=>by cases e) h
 | exit id=>cases h
end
noncomputable section
def a6 (X:Cx) (L:O3) (fuel:Nat) (f:FuncId) (args:List Value) (ds:List Bool):Option (Value×List Prop):=
 match pureL args with
 | false=>none
 | true=>match k0a X L fuel f args X.J.tabs X.P.globals.size ds with
  | none=>none
  | some r=>match pureV r.v with
   | true=>some (r.v,r.obs)
   | false=>none
abbrev Tab:=FuncId→List Value→Option (Value×List Prop)
abbrev kM:=FuncId→List Value→Heap→Nat→List Bool→Option CR
structure Base where
 P:Program
 J:Inv P
 auto:Bool
 tab:Tab
 mtab:kM
 fuel:Nat
 xt:FuncId→List Value→Heap→Nat→Option CR
def Base.cx (b:Base):Nat→Cx
 | 0=>⟨b.P,b.J,b.auto,b.tab,b.mtab,b.xt,fun _ _=>none,b.auto⟩
 | k+1=>⟨b.P,b.J,b.auto,
   fun f args=>match b.tab f args with
    | some r=>some r
    | none=>match b.mtab f args [] 0 [] with
     | some _=>none
     | none=>a6 (b.cx k) [] b.fuel f args [],
   fun f args H n ds=>match b.mtab f args H n ds with
    | some r=>some r
    | none=>k0a (b.cx k) [] b.fuel f args H n ds,
   b.xt,
   fun c s=>B2 (b.cx k) [] b.fuel c s,b.auto⟩
def Base.cxl (b:Base) (k:Nat):Cx:=⟨(b.cx k).P,(b.cx k).J,(b.cx k).auto,(b.cx k).pc,(b.cx k).cl,(b.cx k).xt,(b.cx k).rd,true⟩
structure ProgOk (P:Program):Prop where
 mixed:P.follows .mixedOrders=true
 names:∀ (f:FuncId) (fn:Func),P.funcs[f]? =some fn→(fn.name== "runtime.NumGoroutine")=false
structure BaseOk (b:Base):Prop where
 prog:ProgOk b.P
 tab:N1 b.P b.J b.tab
 mtab:kY b.P b.J b.mtab
 xt:r1v b.P b.J b.xt
theorem C6 {X:Cx} (hng:ProgOk X.P) {L:O3} {fuel f n:Nat} {args:List Value} {H:Heap} {ds:List Bool} {r:CR} (h:k0a X L fuel f args H n ds=some r):Enters X.P f:=by
 rw [i0d] at h
 split at h
 case h_1=>cases h
 rename_i fn hfn
 split at h
 case h_1=>cases h
 rename_i c hc
 exact enters_of hfn (hng.names f fn hfn) hc
theorem d1e {X:Cx} {L:O3} {fuel f n:Nat} {args:List Value} {H:Heap} {ds:List Bool} {r:CR} (h:k0a X L fuel f args H n ds=some r):n≤r.n:=by
 rw [i0d] at h
 split at h
 ·cases h
 split at h
 ·cases h
 split at h
 ·cases h
 split at h
 ·cases h
 split at h
 ·cases h
 rename_i hb
 split at h
 ·cases h
 split at h
 ·cases h
 cases h
 exact Nat.le_of_ble_eq_true hb
theorem N3 {X:Cx} (hX:CxOk X X.J) (hng:ProgOk X.P) {L:O3} {fuel f:Nat} {args:List Value} {ds:List Bool} {v:Value} {l:List Prop} (h:a6 X L fuel f args ds=some (v,l)) (hl:d5 l):
  Pure X.P X.J f args v:=by
 unfold a6 at h
 split at h
 case h_1=>cases h
 rename_i hpa
 split at h
 case h_1=>cases h
 rename_i r hr
 split at h
 case h_2=>cases h
 rename_i hpv
 cases h
 refine⟨hpa,hpv, .inl ⟨C6 hng hr,fun w hI=> ?_⟩⟩
 have hp:Par X.P w.heap.size (fun _=>False):=⟨X.J.room w hI,fun _ _ h=>h⟩
 have:=(F2 hX hng.mixed hr hl (ρ:=fun i=>if i < X.P.globals.size then some i else none) (vs:=args) hp (Nat.le_refl _) hI (fun ρ' ha=>⟨X.J.tabsOk w ρ' _ _ hI (fun g hg=>by rw [ha g hg]; simp [hg]),(rvL_pure ρ' args hpa).symm⟩)).2
 refine this.mono fun e w' ⟨ρ1,u,_,he,hk,hfin⟩=>⟨?_,hk.below⟩
 have:=(hfin ρ1 (Agree.refl _ _)).1
 rw [x7 ρ1 _ hpv] at this
 rw [he,this]
theorem Base.cx_ok {b:Base} (hb:BaseOk b):∀ k,CxOk (b.cx k) (b.cx k).J∧ProgOk (b.cx k).P
 | 0=>⟨⟨hb.tab,hb.mtab,hb.xt,(fun _ _ _ _ h=>by cases h),b.J.tabsOk,b.J.tabsRo⟩,hb.prog⟩
 | k+1=>by
  obtain⟨ih,hng⟩:=Base.cx_ok hb k
  have eP:(b.cx k).P=b.P:=by cases k <;> rfl
  refine⟨⟨fun f args v l h hl=> ?_,fun f args H n ds r h hl=> ?_,hb.xt,fun c s x s' h hl=>⟨Q0 _ _ _ _ _ h hl,?_⟩,b.J.tabsOk,b.J.tabsRo⟩,hb.prog⟩
  ·simp only [Base.cx] at h
   split at h
   ·rename_i r hr
    cases h
    exact hb.tab f args v l hr hl
   ·split at h
    ·cases h
    have:=N3 ih hng h hl
    clear ih hng h
    cases k with
    | zero=>exact this
    | succ k=>exact this
  ·simp only [Base.cx] at h
   split at h
   ·rename_i r' hr
    cases h
    exact hb.mtab f args H n ds r hr hl
   ·have h1:=d1e h
    have h2:=C6 hng h
    have h3:=fun (B:Nat) (M:Nat→Prop) (ρ:Num) (w:World) (vs:List Value) hp hB hI hS=>(F2 ih hng.mixed h hl (B:=B) (M:=M) (ρ:=ρ) (w:=w) (vs:=vs) hp hB hI hS).2
    clear ih hng h
    cases k with
    | zero=>exact⟨h1,h2,h3⟩
    | succ k=>exact⟨h1,h2,h3⟩
  ·have h1:=fun (B:Nat) (M:Nat→Prop) (w0:Bas) (rb:Option Nat) (a:Act) (w:World) hp hR Q hQ=>V3 ih hng.mixed (B:=B) (M:=M) (w0:=w0) (rb:=rb) hp _ _ _ _ _ h hl a w hR Q hQ
   clear ih hng h
   cases k with
   | zero=>exact h1
   | succ k=>exact h1
theorem d6 {b:Base} (hb:BaseOk b) (k:Nat) (L:O3) (ds:List Bool) {f:FuncId} {args:List Value} {v:Value} {l:List Prop} (h:a6 (b.cx k) L b.fuel f args ds=some (v,l)) (hl:d5 l):Pure b.P b.J f args v:=by
 obtain⟨h1,h2⟩:=Base.cx_ok hb k
 have:=N3 h1 h2 h hl
 clear h1 h2 h
 cases k with
 | zero=>exact this
 | succ k=>exact this
def n1s:Tab:=fun _ _=>none
def C4:kM:=fun _ _ _ _ _=>none
def xt0:FuncId→List Value→Heap→Nat→Option CR:=fun _ _ _ _=>none
theorem v1n (P:Program) (J:Inv P):r1v P J xt0:=fun _ _ _ _ _ h=>by cases h
def g1u (f:FuncId) (spec:List Value→Heap→Nat→Option CR) (t:FuncId→List Value→Heap→Nat→Option CR):FuncId→List Value→Heap→Nat→Option CR:=fun g args H n=>
 match Nat.beq g f with
 | true=>spec args H n
 | false=>t g args H n
def y1z (P:Program) (J:Inv P) (f:FuncId) (spec:List Value→Heap→Nat→Option CR):Prop:=
 ∀ args H n r,spec args H n=some r→d5 r.obs→n≤r.n∧∀ (B:Nat) (M:Nat→Prop) (ρ:Num) (w:World) (vs:List Value),Par P B M→B≤w.heap.size→J.I w→
  (∀ ρ',Agree n ρ ρ'→Sim P B M ρ' H w∧vs=rvL ρ' args)→
  ∃ ρ1 v w',Agree n ρ ρ1∧(callFunc f ⟨vs⟩).run P w= .ok (.value v) w'∧Keeps B M w w'∧∀ ρ',Agree r.n ρ1 ρ'→v=rv ρ' r.v∧Sim P B M ρ' r.h w'
theorem l0l {P:Program} {J:Inv P} {f:FuncId} {spec:List Value→Heap→Nat→Option CR} {t:FuncId→List Value→Heap→Nat→Option CR} (h:y1z P J f spec) (ht:r1v P J t):r1v P J (g1u f spec t):=by
 intro g args H n r hs hl
 unfold g1u at hs
 split at hs
 ·rename_i hg
  have:=Nat.eq_of_beq_eq_true hg
  subst this
  exact h args H n r hs hl
 ·exact ht g args H n r hs hl
theorem aW (P:Program) (J:Inv P):N1 P J n1s:=fun _ _ _ _ h=>by cases h
theorem m6 (P:Program) (J:Inv P):kY P J C4:=fun _ _ _ _ _ _ h=>by cases h
def i6 (f:FuncId) (spec:List Value→Option (Value×List Prop)) (t:Tab):Tab:=fun g args=>
 match Nat.beq g f with
 | true=>spec args
 | false=>t g args
theorem b6 {P:Program} {J:Inv P} {f:FuncId} {spec:List Value→Option (Value×List Prop)} {t:Tab} (h:∀ args v l,spec args=some (v,l)→d5 l→Pure P J f args v) (ht:N1 P J t):N1 P J (i6 f spec t):=by
 intro g args v l hs hl
 unfold i6 at hs
 split at hs
 ·rename_i hg
  have:=Nat.eq_of_beq_eq_true hg
  subst this
  exact h args v l hs hl
 ·exact ht g args v l hs hl
end
noncomputable section
theorem q1r {ρ ρ':Num} {n:Nat} (h:Agree n ρ ρ') (f:Fn) (hf:q1a n f=true):rFn ρ' f=rFn ρ f:=by
 cases f <;> first | rfl | skip
 rename_i l
 simp only [q1a,Nat.blt_eq] at hf
 simp only [rFn,h l hf]
mutual
theorem e0z {n:Nat} :∀ v:Value,lF n v=true→noE v=true
 | .chan (some _),h=>by simp only [lF] at h; cases h
 | .chan none,_=>by simp only [noE]
 | .func _ f c,h=>by
   simp only [lF,Bool.and_eq_true] at h
   simp only [noE,low_noEA f h.1.2,low_noEA c h.2,Bool.and_true]
 | .iface _ v,h=>by simp only [lF] at h; simp only [noE]; exact e0z v h
 | .agg cs,h=>by simp only [lF] at h; simp only [noE]; exact low_noEA cs h
 | .tuple vs,h=>by simp only [lF] at h; simp only [noE]; exact low_noEA vs h
 | .bool _,_=>by simp only [noE]
 | .int _ _,_=>by simp only [noE]
 | .float _ _,_=>by simp only [noE]
 | .complex _ _ _,h=>by simp only [lF] at h; cases h
 | .string _,_=>by simp only [noE]
 | .pointer _,_=>by simp only [noE]
 | .slice _ _ _,_=>by simp only [noE]
 | .map _,_=>by simp only [noE]
 | .nilFunc,_=>by simp only [noE]
 | .nilIface,_=>by simp only [noE]
theorem low_noEA {n:Nat} :∀ v:Array Value,lowA n v=true→noEA v=true
 | ⟨l⟩,h=>by simp only [lowA] at h; simp only [noEA]; exact low_noEL l h
theorem low_noEL {n:Nat} :∀ v:List Value,lowL n v=true→noEL v=true
 | [],_=>by simp only [noEL]
 | v ::l,h=>by
   simp only [lowL,Bool.and_eq_true] at h
   simp only [noEL,e0z v h.1,low_noEL l h.2,Bool.and_true]
end
mutual
theorem l0g {ρ ρ':Num} {n:Nat} (h:Agree n ρ ρ'):∀ v:Value,lF n v=true→rv ρ' v=rv ρ v
 | .pointer (some a),hv=>by simp only [lF,Nat.blt_eq] at hv; simp only [rv,m8,h _ hv]
 | .slice (some ⟨j,off,none⟩) _ _,hv=>by simp only [lF,Bool.and_true,Nat.blt_eq] at hv; simp only [rv,rSl,m8,h _ hv]
 | .slice (some ⟨j,off,some k⟩) _ _,hv=>by simp only [lF,Bool.and_eq_true,Nat.blt_eq] at hv; simp only [rv,rSl,h _ hv.1,h _ hv.2]
 | .map (some r),hv=>by simp only [lF,Nat.blt_eq] at hv; simp only [rv,h _ hv]
 | .func fn f c,hv=>by
   simp only [lF,Bool.and_eq_true] at hv
   simp only [rv,q1r h fn hv.1.1,rvA_low h f hv.1.2,rvA_low h c hv.2]
 | .iface t v,hv=>by simp only [lF] at hv; simp only [rv,l0g h v hv]
 | .agg cs,hv=>by simp only [lF] at hv; simp only [rv,rvA_low h cs hv]
 | .tuple vs,hv=>by simp only [lF] at hv; simp only [rv,rvA_low h vs hv]
 | .bool _,_=>by simp only [rv]
 | .int _ _,_=>by simp only [rv]
 | .float _ _,_=>by simp only [rv]
 | .complex _ _ _,h=>by simp only [lF] at h; cases h
 | .string _,_=>by simp only [rv]
 | .pointer none,_=>by simp only [rv]
 | .slice none _ _,_=>by simp only [rv]
 | .map none,_=>by simp only [rv]
 | .chan none,_=>by simp only [rv]
 | .chan (some m),hv=>by simp only [lF] at hv; cases hv
 | .nilFunc,_=>by simp only [rv]
 | .nilIface,_=>by simp only [rv]
theorem rvA_low {ρ ρ':Num} {n:Nat} (h:Agree n ρ ρ'):∀ v:Array Value,lowA n v=true→rvA ρ' v=rvA ρ v
 | ⟨l⟩,hv=>by simp only [lowA] at hv; simp only [rvA,rvL_low h l hv]
theorem rvL_low {ρ ρ':Num} {n:Nat} (h:Agree n ρ ρ'):∀ v:List Value,lowL n v=true→rvL ρ' v=rvL ρ v
 | [],_=>by simp only [rvL]
 | v ::l,hv=>by
   simp only [lowL,Bool.and_eq_true] at hv
   simp only [rvL,l0g h v hv.1,rvL_low h l hv.2]
end
structure Pairs where
 xs:List Value
 ys:List Value
 os:List AObj
 qs:List AObj
def Pairs.add (a b:Pairs):Pairs:=⟨a.xs++b.xs,a.ys++b.ys,a.os++b.os,a.qs++b.qs⟩
def l0t (σ:Ren) (n:Nat):List TV→List TV→Option (List Value×List Value)
 | [],[] =>some ([],[])
 | _ ::ys, .unk ::zs=>l0t σ n ys zs
 | .v x ::ys, .v x' ::zs=>match x' with
  | .complex _ a' b'=>match x with
   | .complex _ a b=>match Nat.beq (σ.to (a'/18446744073709551616)) (a/18446744073709551616) && Nat.beq (σ.to (a'%18446744073709551616)) (a%18446744073709551616) && Nat.blt (a'/18446744073709551616) n && Nat.blt (a'%18446744073709551616) n,l0t σ n ys zs with
    | true,some (l,l')=>some (.int .u8 b ::l, .int .u8 b' ::l')
    | _,_=>none
   | _=>none
  | x'=>match lF n x',l0t σ n ys zs with
   | true,some (l,l')=>some (x ::l,rn σ x' ::l')
   | _,_=>none
 | _,_=>none
def n0h (b:Nat):List (Option Value)→Bool
 | [] =>true
 | some x ::r=>lF b x && n0h b r
 | none ::r=>n0h b r
def zF (σ:Ren) (n:Nat):Row→Row→Option Pairs
 | .vals xs, .vals xs'=>match lowL n xs' && Nat.beq xs.length xs'.length with
  | true=>some ⟨xs,rnL σ xs',[],[]⟩
  | false=>none
 | .ints k ns, .ints k' ns'=>some ⟨[],[],[.ints k ns],[.ints k' ns']⟩
 | _,_=>none
def qM (b:Nat) (σ:Ren) (n:Nat):AObj→AObj→Option Pairs
 | .row e sz r k, .row e' sz' r' k'=>match Nat.beq e e' && Nat.beq sz sz' && Nat.beq (σ.to k') k && Nat.blt k' n with
  | true=>zF σ n r r'
  | false=>none
 | .cells cs t, .cells cs' t'=>match Nat.beq t t' && lowL n cs' && Nat.beq cs.length cs'.length with
  | true=>some ⟨cs,rnL σ cs',[],[]⟩
  | false=>none
 | .iter s p, .iter s' p'=>some ⟨[],[],[.iter s p],[.iter s' p']⟩
 | .ints k xs, .ints k' xs'=>some ⟨[],[],[.ints k xs],[.ints k' xs']⟩
 | .fam f m sz o, .fam f' m' sz' o'=>some ⟨[],[],[.fam f m sz o],[.fam f' m' sz' o']⟩
 | .loop st pn ts ps asg bd, .loop st' pn' ts' ps' asg' bd'=>match n0h b ts' with
  | true=>some ⟨[],[],[.loop st pn ts ps asg bd],[.loop st' pn' ts' ps' asg' bd']⟩
  | false=>none
 | .defr, .defr=>some ⟨[],[],[],[]⟩
 | .dead, .dead=>some ⟨[],[],[],[]⟩
 | _,_=>none
def y1f (σ:Ren) (i:Nat):Heap→Bool
 | [] =>true
 | (j,_) ::r=> !(Nat.beq (σ.to i) (σ.to j)) && y1f σ i r
def y1q (b:Nat) (σ:Ren) (n:Nat) (H:Heap):Heap→Option Pairs
 | [] =>some ⟨[],[],[],[]⟩
 | (i,o') ::r=>match H.get (σ.to i),Nat.blt i n,y1f σ i r with
  | some o,true,true=>match qM b σ n o o',y1q b σ n H r with
   | some l,some l'=>some (l.add l')
   | _,_=>none
  | _,_,_=>none
def h1c (σ:Ren):List Nat→Bool
 | [] =>true
 | i ::r=>Nat.beq (σ.to i) i && h1c σ r
def eqO:Option Nat→Option Nat→Bool
 | none,none=>true
 | some i,some j=>Nat.beq i j
 | _,_=>false
def kL (b:Nat):Ren→Bool
 | [] =>true
 | (j,_) ::r=>Nat.ble b j && kL b r
def bB:List Mk→Option (List Nat)
 | [] =>some []
 | .mark i ::r=>match bB r with
  | some l=>some (i ::l)
  | none=>none
 | .call _ _ _ ::_=>none
theorem X5:∀ {l:List Mk} {m:List Nat},bB l=some m→l=m.map .mark
 | [],m,h=>by simp only [bB] at h; cases h; rfl
 | .mark i ::r,m,h=>by
  simp only [bB] at h
  split at h
  ·rename_i l hl
   cases h
   rw [List.map_cons,← X5 hl]
  ·cases h
 | .call _ _ _ ::_,m,h=>by simp only [bB] at h; cases h
def fit (P:Program) (σ:Ren) (s s':St):Option Pairs:=
 match s,s' with
 | ⟨tm,hp,_,_,_,_,rd,mk,bs⟩,⟨tm',hp',n',_,_,_,rd',mk',bs'⟩=>match bB mk,bB mk' with
  | some mq,some mq'=>
   match kL bs σ && h1c σ mq && w0z mq mq' && eqO rd rd' && Nat.beq bs bs' && Nat.ble bs n' && Nat.ble P.globals.size bs && mq.all (fun i=>Nat.blt i n') && (match rd with | some l=>Nat.blt l bs | none=>true) with
   | false=>none
   | true=>match l0t σ n' tm tm',y1q bs σ n' hp hp' with
    | some (l,l'),some q=>some ⟨l++q.xs,l'++q.ys,q.os,q.qs⟩
    | _,_=>none
  | _,_=>none
theorem Ren.to_below {b:Nat} :∀ {σ:Ren},kL b σ=true→∀ i,i < b→σ.to i=i
 | [],_,i,_=>rfl
 | (j,k) ::r,h,i,hi=>by
  simp only [kL,Bool.and_eq_true,Nat.ble_eq] at h
  simp only [Ren.to]
  rw [nF (by omega)]
  exact Ren.to_below h.2 i hi
theorem tH {σ:Ren} :∀ {l:List Nat},h1c σ l=true→∀ i∈l,σ.to i=i
 | [],_,i,hi=>by cases hi
 | j ::r,h,i,hi=>by
  simp only [h1c,Bool.and_eq_true,Nat.beq_eq] at h
  rcases List.mem_cons.1 hi with rfl | hi
  ·exact h.1
  ·exact tH h.2 i hi
theorem a0j:∀ {l l':List Nat},w0z l l'=true→l=l'
 | [],[],_=>rfl
 | [],_ ::_,h=>by simp [w0z] at h
 | _ ::_,[],h=>by simp [w0z] at h
 | i ::r,j ::r',h=>by
  simp only [w0z,Bool.and_eq_true,Nat.beq_eq] at h
  rw [h.1,a0j h.2]
theorem h1t {a b:Option Nat} (h:eqO a b=true):a=b:=by
 cases a <;> cases b <;> simp_all [eqO]
theorem fA {σ:Ren} {n:Nat} :∀ {ts ts':List TV} {l l':List Value},l0t σ n ts ts'=some (l,l')→l.length=l'.length∧(l=l'→ts'.length=ts.length∧(∀ t,tQ (v7 ts' t)=true)∧∀ t x',v7 ts' t= .v x'→∃ x,v7 ts t= .v x∧∀ ρ ρ':Num,Agree n (fun i=>ρ (σ.to i)) ρ'→rv ρ' x'=rv ρ x)
 | [],[],l,l',h=>by
  simp only [l0t] at h; cases h
  exact⟨rfl,fun _=>⟨rfl,fun t=>by simp [B5,tQ],fun t x' h=>by simp [B5] at h⟩⟩
 | [],z ::zs,l,l',h=>by cases z <;> simp [l0t] at h
 | y ::ys,[],l,l',h=>by cases y <;> simp [l0t] at h
 | y ::ys,z ::zs,l,l',h=>by
  have get0:∀ (u:TV) (us:List TV),v7 (u ::us) 0=u:=fun u us=>rfl
  have getS:∀ (u:TV) (us:List TV) (t:Nat),v7 (u ::us) (t+1)=v7 us t:=fun u us t=>by simp [B5]
  cases z with
  | unk=>
   have h:l0t σ n ys zs=some (l,l'):=by cases y <;> simpa [l0t] using h
   obtain⟨h0,hh⟩:=fA h
   refine⟨h0,fun he=> ?_⟩
   obtain⟨h1,h2,h3⟩:=hh he
   refine⟨by simp [h1],fun t=> ?_,fun t x' hx=> ?_⟩
   ·cases t with
    | zero=>rfl
    | succ t=>rw [getS]; exact h2 t
   ·cases t with
    | zero=>rw [get0] at hx; cases hx
    | succ t=>rw [getS] at hx ⊢; exact h3 t x' hx
  | v x0=>
   cases y with
   | v y0=>
    simp only [l0t] at h
    split at h
    ·rename_i kk a' b'
     split at h
     case h_2=>cases h
     rename_i kq a b
     split at h
     ·rename_i l0 l0' hck hr
      cases h
      simp only [Bool.and_eq_true,Nat.beq_eq,Nat.blt_eq] at hck
      obtain⟨⟨⟨q1,q2⟩,q3⟩,q4⟩:=hck
      obtain⟨h0,hh⟩:=fA hr
      refine⟨by simp [h0],fun he=> ?_⟩
      injection he with e1 e2
      injection e1 with _ e1
      have e1:b=b':=Int.ofNat.inj e1
      obtain⟨h1,h2,h3⟩:=hh e2
      refine⟨by simp [h1],fun t=> ?_,fun t x' hx=> ?_⟩
      ·cases t with
       | zero=>rfl
       | succ t=>rw [getS]; exact h2 t
      ·cases t with
       | zero=>
        rw [get0] at hx ⊢
        cases hx
        refine⟨_,rfl,fun ρ ρ' ha=> ?_⟩
        simp only [rv,s1b]
        rw [ha _ q3,ha _ q4,e1]
        show j1f (ρ (σ.to (a'/18446744073709551616))) (ρ (σ.to (a'%18446744073709551616))) b' 1 1=_
        rw [q1,q2]
       | succ t=>rw [getS] at hx ⊢; exact h3 t x' hx
     ·cases h
    split at h
    ·rename_i l0 l0' hlow hr
     cases h
     obtain⟨h0,hh⟩:=fA hr
     refine⟨by simp [h0],fun he=> ?_⟩
     injection he with e1 e2
     obtain⟨h1,h2,h3⟩:=hh e2
     refine⟨by simp [h1],fun t=> ?_,fun t x' hx=> ?_⟩
     ·cases t with
      | zero=>rfl
      | succ t=>rw [getS]; exact h2 t
     ·cases t with
      | zero=>
       rw [get0] at hx ⊢
       cases hx
       refine⟨_,rfl,fun ρ ρ' ha=> ?_⟩
       rw [l0g ha _ hlow,← l1k _ _ _ (e0z _ hlow),e1]
      | succ t=>rw [getS] at hx ⊢; exact h3 t x' hx
    ·cases h
   | _=>simp [l0t] at h
  | sp l0 x0=>cases y <;> simp [l0t] at h
  | key j l0 b=>cases y <;> simp [l0t] at h
theorem gA {b:Nat} :∀ {ts:List (Option Value)},n0h b ts=true→∀ (t:Nat) (x:Value),ts[t]? =some (some x)→lF b x=true
 | [],_,t,x,h=>by simp at h
 | some y ::r,h,t,x,hx=>by
  simp only [n0h,Bool.and_eq_true] at h
  cases t with
  | zero=>simp at hx; subst hx; exact h.1
  | succ t=>exact gA h.2 t x (by simpa using hx)
 | none ::r,h,t,x,hx=>by
  simp only [n0h] at h
  cases t with
  | zero=>simp at hx
  | succ t=>exact gA h t x (by simpa using hx)
theorem h0z {σ:Ren} {n:Nat} {r r':Row} {l:Pairs} (h:zF σ n r r'=some l) (hl:l.xs=l.ys∧l.os=l.qs) {ρ ρ':Num} (ha:Agree n (fun i=>ρ (σ.to i)) ρ'):rvL ρ' r'.list=rvL ρ r.list∧r'.list.length=r.list.length:=by
 unfold zF at h
 split at h
 ·rename_i xs xs'
  split at h
  ·rename_i hc
   simp only [Bool.and_eq_true,Nat.beq_eq] at hc
   cases h
   have e:xs=rnL σ xs':=hl.1
   simp only [Row.list]
   refine⟨?_,hc.2.symm⟩
   rw [rvL_low ha xs' hc.1,← rvL_rn _ _ _ (low_noEL _ hc.1),← e]
  ·cases h
 ·cases h
  have e:=hl.2
  simp only [List.cons.injEq,AObj.ints.injEq,and_true] at e
  obtain⟨e1,e2⟩:=e
  subst e1 e2
  simp only [Row.list]
  refine⟨?_,trivial⟩
  rename_i k ns
  have:pureL (ns.map (Value.int k))=true:=by rw [C2]; simp [pureV]
  rw [rvL_pure ρ' _ this,rvL_pure ρ _ this]
 ·cases h
theorem n0s {σ:Ren} {n:Nat} {r r':Row} {l:Pairs} (h:zF σ n r r'=some l):l.xs.length=l.ys.length∧l.os.length=l.qs.length:=by
 unfold zF at h
 split at h
 ·split at h
  ·rename_i hc
   simp only [Bool.and_eq_true,Nat.beq_eq] at hc
   cases h
   exact⟨by rw [fW]; exact hc.2,rfl⟩
  ·cases h
 ·cases h; exact⟨rfl,rfl⟩
 ·cases h
theorem zY {b:Nat} {B:Nat} {M:Nat→Prop} {σ:Ren} {n:Nat} {o o':AObj} {l:Pairs} (h:qM b σ n o o'=some l) (hl:l.xs=l.ys∧l.os=l.qs) {ρ ρ':Num} {w:World} {i:Nat} (ha:Agree n (fun i=>ρ (σ.to i)) ρ') (hb:Agree b ρ ρ') (hi:i < n) (ho:ORep B M ρ w (ρ (σ.to i)) o):ORep B M ρ' w (ρ' i) o'∧o'.rw=o.rw:=by
 rw [show ρ' i=ρ (σ.to i) from ha i hi]
 cases o' with
 | row e' sz' r' k'=>
  cases o with
  | row e sz r k=>
   simp only [qM] at h
   split at h
   ·rename_i hc
    simp only [Bool.and_eq_true,Nat.beq_eq,Nat.blt_eq] at hc
    obtain⟨⟨⟨c1,c2⟩,c3⟩,c4⟩:=hc
    subst c1 c2 c3
    obtain⟨f1,f2⟩:=h0z h hl ha
    refine⟨?_,rfl⟩
    rcases ho with ⟨h1,h2⟩ | ⟨bb,cap,cur,h1,h2,h3,h4,h5,h6,h7,h8⟩
    ·exact .inl ⟨h1,List.eq_nil_of_length_eq_zero (by rw [f2,h2]; rfl)⟩
    ·exact .inr ⟨bb,cap,cur,h1,by rw [ha k' c4]; exact h2,h3,h4,h5,h6,by rw [f2]; exact h7,by rw [f2,f1]; exact h8⟩
   ·cases h
  | _=>simp [qM] at h
 | cells cs' t'=>
  cases o with
  | cells cs t=>
   simp only [qM] at h
   split at h
   ·rename_i ht
    simp only [Bool.and_eq_true,Nat.beq_eq] at ht
    obtain⟨⟨ht,h1⟩,_⟩:=ht
    subst ht
    cases h
    have h2:cs=rnL σ cs':=hl.1
    obtain⟨b,hb,hw,hown⟩:=ho
    refine⟨⟨b,hb,?_,hown⟩,rfl⟩
    rw [rvL_low ha cs' h1,← rvL_rn _ _ _ (low_noEL _ h1),← h2]
    exact hw
   ·cases h
  | _=>simp [qM] at h
 | iter s' p'=>
  cases o with
  | iter s p=>simp only [qM] at h; cases h; have e:=hl.2; simp only [List.cons.injEq,AObj.iter.injEq,and_true] at e; obtain⟨e1,e2⟩:=e; subst e1; subst e2; exact⟨ho,rfl⟩
  | _=>simp [qM] at h
 | ints k' xs'=>
  cases o with
  | ints k xs=>simp only [qM] at h; cases h; have e:=hl.2; simp only [List.cons.injEq,AObj.ints.injEq,and_true] at e; obtain⟨e1,e2⟩:=e; subst e1; subst e2; exact⟨ho,rfl⟩
  | _=>simp [qM] at h
 | loop st pn ts ps asg bd=>
  cases o with
  | loop st0 pn0 ts0 ps0 asg0 bd0=>
   simp only [qM] at h
   split at h
   ·rename_i hlow
    cases h
    have e:AObj.loop st0 pn0 ts0 ps0 asg0 bd0=AObj.loop st pn ts ps asg bd:=List.head_eq_of_cons_eq hl.2
    cases e
    obtain⟨b1,r1,h1,h2,h3,h4⟩:=ho
    refine⟨⟨b1,r1,h1,h2,⟨h3.1,h3.2.1,h3.2.2.1,h3.2.2.2.1,h3.2.2.2.2.1,h3.2.2.2.2.2.1,fun t x hx=> ?_⟩,h4⟩,rfl⟩
    rw [h3.2.2.2.2.2.2 t x hx,l0g hb x (gA hlow t x hx)]
   ·cases h
  | _=>simp [qM] at h
 | defr=>
  cases o with
  | defr=>exact⟨ho,rfl⟩
  | _=>simp [qM] at h
 | dead=>
  cases o with
  | dead=>exact⟨ho,rfl⟩
  | _=>simp [qM] at h
 | ro xs=>cases o <;> simp [qM] at h
 | fam f' m' sz' o'=>
  cases o with
  | fam f m sz o=>simp only [qM] at h; cases h; have e:=hl.2; simp only [List.cons.injEq,AObj.fam.injEq,and_true] at e; obtain⟨e1,e2,e3,e4⟩:=e; subst e1; subst e2; subst e3; subst e4; exact⟨ho,rfl⟩
  | _=>simp [qM] at h
 | map es=>cases o <;> simp [qM] at h
theorem lS {σ:Ren} {i:Nat} :∀ {H:Heap},y1f σ i H=true→∀ j o,H.get j=some o→σ.to i≠σ.to j
 | [],_,j,o,h=>by simp [Heap.get] at h
 | (k,q) ::r,h,j,o,hj=>by
  simp only [y1f,Bool.and_eq_true,Bool.not_eq_true'] at h
  rw [Heap.get_cons] at hj
  split at hj
  ·rename_i e; subst e
   intro e
   rw [e,Nat.beq_refl] at h
   cases h.1
  ·exact lS h.2 j o hj
theorem Pairs.add_eq {a b:Pairs} (h:(a.add b).xs=(a.add b).ys∧(a.add b).os=(a.add b).qs) (h1:a.xs.length=a.ys.length) (h2:a.os.length=a.qs.length):(a.xs=a.ys∧a.os=a.qs)∧b.xs=b.ys∧b.os=b.qs:=by
 obtain⟨e1,e2⟩:=List.append_inj h.1 h1
 obtain⟨e3,e4⟩:=List.append_inj h.2 h2
 exact⟨⟨e1,e3⟩,e2,e4⟩
theorem f1m {b:Nat} {σ:Ren} {n:Nat} {o o':AObj} {l:Pairs} (h:qM b σ n o o'=some l):l.xs.length=l.ys.length∧l.os.length=l.qs.length:=by
 unfold qM at h
 split at h
 ·split at h
  ·exact n0s h
  ·cases h
 ·split at h
  ·rename_i ht
   simp only [Bool.and_eq_true,Nat.beq_eq] at ht
   cases h
   exact⟨by rw [fW]; exact ht.2,rfl⟩
  ·cases h
 ·cases h; exact⟨rfl,rfl⟩
 ·cases h; exact⟨rfl,rfl⟩
 ·cases h; exact⟨rfl,rfl⟩
 ·split at h
  ·cases h; exact⟨rfl,rfl⟩
  ·cases h
 ·cases h; exact⟨rfl,rfl⟩
 ·cases h; exact⟨rfl,rfl⟩
 ·cases h
theorem zI {b:Nat} {σ:Ren} {n:Nat} {H:Heap} :∀ {H':Heap} {l:Pairs},y1q b σ n H H'=some l→(l.xs=l.ys∧l.os=l.qs)→
  (∀ i o',H'.get i=some o'→i < n∧∃ o l0,H.get (σ.to i)=some o∧qM b σ n o o'=some l0∧(l0.xs=l0.ys∧l0.os=l0.qs))∧∀ i j o o',H'.get i=some o→H'.get j=some o'→i≠j→σ.to i≠σ.to j
 | [],l,_,_=>⟨fun i o' h=>by simp [Heap.get] at h,fun i j o o' h=>by simp [Heap.get] at h⟩
 | (k,q) ::r,l,h,hl=>by
  simp only [y1q] at h
  split at h
  ·rename_i o hg hlt hout
   split at h
   ·rename_i l1 l2 h1 h2
    cases h
    obtain⟨n1,n2⟩:=f1m h1
    obtain⟨hl1,hl2⟩:=Pairs.add_eq hl n1 n2
    obtain⟨g1,g2⟩:=zI h2 hl2
    refine⟨fun i o' hi=> ?_,fun i j oi oj hi hj hij=> ?_⟩
    ·rw [Heap.get_cons] at hi
     split at hi
     ·rename_i e; subst e; cases hi
      exact⟨by simpa [Nat.blt_eq] using hlt,o,l1,hg,h1,hl1⟩
     ·exact g1 i o' hi
    ·rw [Heap.get_cons] at hi hj
     split at hi <;> split at hj
     ·rename_i e1 e2; exact absurd (e1.symm.trans e2) hij
     ·rename_i e1 e2; subst e1; exact lS hout j oj hj
     ·rename_i e1 e2; subst e2; exact fun e=>lS hout i oi hi e.symm
     ·exact g2 i j oi oj hi hj hij
   ·cases h
  ·cases h
theorem Rep.fit {P:Program} {J:Inv P} {B:Nat} {M:Nat→Prop} {w0:Bas} {rb:Option Nat} {s s':St} {a:Act} {w:World} (hR:Rep P J B M w0 rb s a w) {σ:Ren} {l:Pairs} (h:fit P σ s s'=some l) (hl:l.xs=l.ys∧l.os=l.qs):Rep P J B M w0 rb s' a w:=by
 unfold Ev.fit at h
 dsimp only at h
 split at h
 case h_2=>cases h
 rename_i mq mq' hmq hmq'
 split at h
 ·cases h
 rename_i hc
 simp only [Bool.and_eq_true,List.all_eq_true,Nat.blt_eq,Nat.ble_eq,Nat.beq_eq] at hc
 obtain⟨⟨⟨⟨⟨⟨⟨⟨c1,c2⟩,c3⟩,c4⟩,c5⟩,c6⟩,c7⟩,c8⟩,c9⟩:=hc
 split at h
 case h_2=>cases h
 rename_i l1 l1' q h1 h2
 cases h
 obtain⟨tl,hT0⟩:=fA h1
 obtain⟨hx1,hx2⟩:=List.append_inj hl.1 tl
 obtain⟨t1,t2,t3⟩:=hT0 hx1
 obtain⟨g1,g2⟩:=zI h2 ⟨hx2,hl.2⟩
 have e3:=a0j c3
 have e4:=h1t c4
 obtain⟨ρ,hρ0,hρ⟩:=hR.rep
 obtain⟨hS,hF,hT⟩:=hρ ρ (Agree.refl _ _)
 have below:∀ i,i < s.bs→σ.to i=i:=fun i hi=>Ren.to_below c1 i hi
 have hbb:∀ ρ',Agree s'.nid (fun i=>ρ (σ.to i)) ρ'→Agree s.bs ρ ρ':=fun ρ' ha i hi=>by
  rw [ha i (by omega)]
  show ρ (σ.to i)=_
  rw [below i hi]
 refine⟨by rw [← c5]; exact hR.low,t2,by rw [t1]; exact hR.size,hR.base,hR.inv,hR.keeps,fun i=>ρ (σ.to i),⟨by rw [hR.low]; exact c6,fun i hi=> ?_⟩,fun ρ' ha=>⟨⟨fun g hg=> ?_,fun i o hi=> ?_,fun i j o o' hi hr hj hij hne=> ?_⟩,⟨?_,?_⟩,fun t x hx=> ?_⟩⟩
 ·show ρ (σ.to i)=_
  rw [below i (by rw [← hR.low]; exact hi)]
  exact hρ0.2 i hi
 ·rw [ha g (by omega)]
  show ρ (σ.to g)=_
  rw [below g (by omega)]
  exact hS.glob g hg
 ·obtain⟨hlt,o1,l0,k1,k2,k3⟩:=g1 i o hi
  exact (zY k2 k3 ha (hbb _ ha) hlt (hS.obj _ _ k1)).1
 ·obtain⟨hlt,o1,l0,k1,k2,k3⟩:=g1 i o hi
  obtain⟨hlt',o1',l0',k1',k2',k3'⟩:=g1 j o' hj
  have hrw:=(zY k2 k3 ha (hbb _ ha) hlt (hS.obj _ _ k1)).2
  rw [ha i hlt] at hne ⊢
  rw [ha j hlt']
  exact hS.inj _ _ _ _ k1 (by rw [← hrw]; exact hr) k1' (g2 i j o o' hi hj hij) hne
 ·rw [hF.defers,X5 hmq,X5 hmq',← e3,List.map_map,List.map_map]
  refine List.map_congr_left (fun i hi=> ?_)
  simp only [Function.comp]
  show Deferred.mk (.collected ((ρ i).getD 0)) #[] =Deferred.mk (.collected ((ρ' i).getD 0)) #[]
  rw [ha i (c8 i hi)]
  show _=Deferred.mk (.collected ((ρ (σ.to i)).getD 0)) #[]
  rw [tH c2 i hi]
 ·rw [hF.round,← e4]
  cases hrd:s.rd with
  | none=>rfl
  | some l=>
   rw [hrd] at c9
   simp only [Nat.blt_eq] at c9
   show ρ l=ρ' l
   rw [ha l (by omega)]
   show _=ρ (σ.to l)
   rw [below l c9]
 ·obtain⟨x0,k1,k2⟩:=t3 t x hx
  rw [hT t _ k1,k2 ρ ρ' ha]
def o9 (X:Cx) (c:Code) (s:St) (x:AX) (s':St):Prop:=
 ∀ (B:Nat) (M:Nat→Prop) (w0:Bas) (rb:Option Nat) (a:Act) (w:World),Par X.P B M→Rep X.P X.J B M w0 rb s a w→c.wpIn (Fl rb) 0 X.P (fun e a' w'=>e=x.toExit∧Rep X.P X.J B M w0 rb s' a' w') a w
def c2c:AX→AX→Bool
 | .normal, .normal=>true
 | .ret, .ret=>true
 | .exit i, .exit j=>Nat.beq i j
 | _,_=>false
theorem q0i {x y:AX} (h:c2c x y=true):x=y:=by
 cases x <;> cases y <;> simp_all [c2c]
def g0i (X:Cx) (L:O3) (fuel:Nat) (c:Code) (ds:List Bool) (σ:Ren) (s:St) (x:AX) (s':St):Option (Pairs×List Prop):=
 match s with
 | ⟨tm,hp,n,_,_,_,rd,mq,bs⟩=>match B2 X L fuel c ⟨tm,hp,n,ds,[],0,rd,mq,bs⟩ with
  | none=>none
  | some (x1,s1)=>match c2c x1 x,fit X.P σ s1 s' with
   | true,some l=>some (l,s1.obs)
   | _,_=>none
def d2d:Option (Pairs×List Prop)→List Prop
 | some (_,l)=>l
 | none=>[False]
def d2s:Option (Pairs×List Prop)→List Value
 | some (p,_)=>p.xs
 | none=>[]
def d2z:Option (Pairs×List Prop)→List Value
 | some (p,_)=>p.ys
 | none=>[]
def d2n:Option (Pairs×List Prop)→List AObj
 | some (p,_)=>p.os
 | none=>[]
def d2v:Option (Pairs×List Prop)→List AObj
 | some (p,_)=>p.qs
 | none=>[]
theorem b7 {X:Cx} (hX:CxOk X X.J) (hm:X.P.follows .mixedOrders=true) (L:O3) (fuel:Nat) {c:Code} (ds:List Bool) (σ:Ren) {s s':St} {x:AX} {l:List Prop} (h:d2d (g0i X L fuel c ds σ s x s')=l) (hl:d5 l)
  (h1:d2s (g0i X L fuel c ds σ s x s')=d2z (g0i X L fuel c ds σ s x s')) (h2:d2n (g0i X L fuel c ds σ s x s')=d2v (g0i X L fuel c ds σ s x s')):o9 X c s x s':=by
 subst h
 cases hr:g0i X L fuel c ds σ s x s' with
 | none=>rw [hr] at hl; exact absurd hl.1 id
 | some r=>
  obtain⟨p,o⟩:=r
  rw [hr] at hl h1 h2
  unfold g0i at hr
  dsimp only at hr
  split at hr
  ·cases hr
  rename_i x1 s1 he
  split at hr
  ·rename_i l0 hx hf
   cases hr
   have:=q0i hx
   subst this
   intro B M w0 rb a w hp hR
   exact V3 hX hm hp fuel c _ x1 s1 he hl a w (hR.same rfl rfl rfl rfl rfl rfl) _ (fun a' w' hR'=>⟨rfl,hR'.fit hf ⟨h1,h2⟩⟩)
  ·cases hr
theorem A8 {ι:Type} {X:Cx} {c:Code} (T:ι→St) (μ:ι→Nat) (Good:ι→Prop) {x:AX} (hx:x≠ .normal) {s':St} (h:∀ i,Good i→(∃ j,Good j∧μ j < μ i∧o9 X c (T i) .normal (T j))∨o9 X c (T i) x s') (i:ι) (hi:Good i):a7 X c (T i) x s':=by
 intro B M w0 rb a w hp hR
 refine wpIn_loop_rounds (μ i+1) ?_
 have key:∀ (n:Nat) (i:ι),Good i→μ i < n→∀ a w,Rep X.P X.J B M w0 rb (T i) a w→Code.roundsIn (Fl rb) 0 X.P c (fun e a' w'=>e=x.toExit∧Rep X.P X.J B M w0 rb s' a' w') n a w:=by
  intro n
  induction n with
  | zero=>intro i _ h; omega
  | succ n ih=>
   intro i hi hn a w hR
   rw [roundsIn_succ]
   rcases h i hi with ⟨j,hj,hlt,hs⟩ | hs
   ·refine wpIn_mono (hs B M w0 rb a w hp hR) (fun e a' w' ⟨he,hR'⟩=> ?_)
    subst he
    exact ih j hj (by omega) a' w' hR'
   ·refine wpIn_mono (hs B M w0 rb a w hp hR) (fun e a' w' ⟨he,hR'⟩=> ?_)
    subst he
    cases x with
    | normal=>exact absurd rfl hx
    | exit id=>exact⟨rfl,hR'⟩
    | ret=>exact⟨rfl,hR'⟩
 exact key _ i hi (by omega) a w hR
theorem r0n {X:Cx} {c:Code} {s s1 s':St} {x:AX} (h:a7 X c s1 x s') (σ:Ren) {l:Pairs} (hf:fit X.P σ s s1=some l) (hl:l.xs=l.ys∧l.os=l.qs):a7 X c s x s':=
 fun B M w0 rb a w hp hR=>h B M w0 rb a w hp (hR.fit hf hl)
theorem f9 {X:Cx} {c:Code} {s s1 s':St} {x:AX} (h:a7 X c s1 x s') (σ:Ren) (h0:(fit X.P σ s s1).isSome=true) (h1:d2s ((fit X.P σ s s1).map fun p=>(p,[]))=d2z ((fit X.P σ s s1).map fun p=>(p,[]))) (h2:d2n ((fit X.P σ s s1).map fun p=>(p,[]))=d2v ((fit X.P σ s s1).map fun p=>(p,[]))):a7 X c s x s':=by
 cases hf:fit X.P σ s s1 with
 | none=>rw [hf] at h0; cases h0
 | some p=>
  rw [hf] at h1 h2
  exact r0n h σ hf ⟨h1,h2⟩
def V5:Code→List Code
 | .seq a b=>V5 a++V5 b
 | .cond _ a b=>V5 a++V5 b
 | .block _ a=>V5 a
 | .scope a=>V5 a
 | .loop a=>a ::V5 a
 | _=>[]
def A2 (P:Program) (f k:Nat):Code:=match P.funcs[f]? with
 | some fn=>match fn.body with
  | some c=>match (V5 c)[k]? with
   | some r=>r
   | none=> .skip
  | none=> .skip
 | none=> .skip
def o8 (X:Cx) (fuel f:Nat) (args:List Value) (H:Heap) (n:Nat) (ds:List Bool):St:=
 match X.P.funcs[f]? with
 | some fn=>match fn.body with
  | some c=>match B2 X [fun s=>some (.exit 1000000,s)] fuel c ⟨args.map .v++List.replicate (fn.ntmps-args.length) (.v undef),H,n,ds,[],0,none,[],n⟩ with
   | some (_,s)=>s.core
   | none=>⟨[],[],0,[],[],0,none,[],0⟩
  | none=>⟨[],[],0,[],[],0,none,[],0⟩
 | none=>⟨[],[],0,[],[],0,none,[],0⟩
def only (k:Nat) (l:List (Nat×Value)):List TV:=(List.range k).map fun i=>match l.find? (fun p=>Nat.beq p.1 i) with
 | some p=> .v p.2
 | none=> .unk
def J5 (x:AX) (f:St→St):St→Option (AX×St):=fun s=>
 match s with
 | ⟨tm,hp,n,ds,o,lp,rd,mq,b⟩=>match f ⟨tm,hp,n,[],[],0,rd,mq,b⟩ with
  | ⟨tm',hp',n',_,_,_,rd',mq',b'⟩=>some (x,⟨tm',hp',n',ds,o,lp,rd',mq',b'⟩)
end
end Go.Proofs.YtdgfhijnconaoaaGreatDoor.Ev
namespace Go.Proofs.YtdgfhijnconaoaaGreatDoor
open Go Go.RowKit Ev
def s1l:List Int:=[0,1,28,2,29,14,24,3,30,22,20,15,25,17,4,8,31,27,13,23,21,19,16,7,26,12,18,6,11,5,10,9]
def v1q:List Int:=[0,1,56,2,57,49,28,3,61,58,42,50,38,29,17,4,62,47,59,36,45,43,51,22,53,39,33,30,24,18,12,5,63,55,48,27,60,41,37,16,46,35,44,21,52,32,23,11,54,26,40,15,34,20,31,10,25,14,19,9,13,8,7,6]
def VarIs (w:World) (g:Nat) (k:IntKind) (zs:List Int):Prop:=∃ t fr,w.heap[g]? =some (.cells (zs.map (Value.int k)).toArray t fr)
def HasInts (w:World) (g:Nat) (k:IntKind) (zs:List Int):Prop:=∃ cs t fr,w.heap[g]? =some (.cells cs t fr)∧∀ i,i < zs.length→cs[i]? =some (.int k (zs.getD i 0))
theorem HasInts.orep {w:World} {g:Nat} {k:IntKind} {zs:List Int} (h:HasInts w g k zs) (B:Nat) (M:Nat→Prop) (ρ:Num):ORep B M ρ w (some g) (.ints k zs):=by
 obtain⟨cs,t,fr,h1,h2⟩:=h
 exact .inr ⟨g,cs,t,fr,rfl,h1,h2⟩
theorem VarIs.has {w:World} {g:Nat} {k:IntKind} {zs:List Int} (h:VarIs w g k zs):HasInts w g k zs:=by
 obtain⟨t,fr,h⟩:=h
 exact⟨_,t,fr,h,fun i hi=>by simp [List.getD,hi]⟩
def firstZ:List Int:=Go.Pinned.utf8FirstZ.map Int.ofNat
def acceptZ:List Int:=[128,191,160,191,128,159,144,191,128,143,0,0,0,0,0,0,0,0,0,0,0,0,0,0,0,0,0,0,0,0,0,0]
theorem d0e {w:World} {g:Nat} {zs:List Int} (h0:0 < zs.length) (h:∀ i,i < zs.length→w.cell? ⟨g,i,none⟩=some (.int .u8 (zs.getD i 0))):HasInts w g .u8 zs:=by
 have hb:∀ i v,w.cell? ⟨g,i,none⟩=some v→∃ cs t fr,w.heap[g]? =some (.cells cs t fr)∧cs[i]? =some v:=by
  intro i v hv
  unfold World.cell? at hv
  split at hv
  ·rename_i cs t fr hc
   exact⟨cs,t,fr,hc,by simpa using hv⟩
  ·cases hv
 obtain⟨cs,t,fr,h1,_⟩:=hb 0 _ (h 0 h0)
 refine⟨cs,t,fr,h1,fun i hi=> ?_⟩
 obtain⟨cs',t',fr',h1',h2⟩:=hb i _ (h i hi)
 rw [h1] at h1'
 cases h1'
 exact h2
theorem i1t:(List.range 256).all (fun c=>decide (firstZ.getD c 0=(Lib.firstT c:Int)))=true:=by decide+kernel
theorem r0e:(List.range 16).all (fun i=>decide (acceptZ.getD (2*i) 0=(Lib.accLo i:Int)) && decide (acceptZ.getD (2*i+1) 0=(Lib.accHi i:Int)))=true:=by decide+kernel
theorem first_len:firstZ.length=256:=by kernel_rfl
theorem i1c {g h:Nat} {w:World} (t:Lib.Utf8Tabs g h w):HasInts w g .u8 firstZ∧HasInts w h .u8 acceptZ:=by
 obtain⟨t1,t2⟩:=t
 refine⟨d0e (show 0 < firstZ.length from Nat.lt_of_lt_of_eq (by decide:0 < 256) first_len.symm) fun i hi=> ?_,d0e (by decide) fun i hi=> ?_⟩
 ·have hi':i < 256:=Nat.lt_of_lt_of_eq hi first_len
  rw [t1 i hi',of_decide_eq_true (List.all_eq_true.1 i1t i (List.mem_range.2 hi'))]
 ·have hi':i < 32:=hi
  have:=List.all_eq_true.1 r0e (i/2) (List.mem_range.2 (by omega))
  simp only [Bool.and_eq_true,decide_eq_true_eq] at this
  obtain⟨q1,q2⟩:=t2 (i/2) (by omega)
  rcases Nat.mod_two_eq_zero_or_one i with e | e
  ·have e2:i=2*(i/2):=by omega
   rw [e2,q1,this.1]
  ·have e2:i=2*(i/2)+1:=by omega
   rw [e2,q2,this.2]
theorem v0y {g h n:Nat} {w w':World} (hg:g < n) (hh:h < n) (hk:∀ k,k < n→w'.heap[k]? =w.heap[k]?) (t:Lib.Utf8Tabs g h w):Lib.Utf8Tabs g h w':=by
 have e:∀ b c,b < n→w'.cell? ⟨b,c,none⟩=w.cell? ⟨b,c,none⟩:=fun b c hb=>by unfold World.cell?; simp only [hk b hb]
 exact⟨fun c hc=>by rw [e g c hg]; exact t.1 c hc,fun i hi=>by rw [e h _ hh,e h _ hh]; exact t.2 i hi⟩
def t1a:Heap:=[(1, .ints .u64 Lib.pow10Tab),(7, .ints .u8 s1l),(8, .ints .u8 v1q),(3, .ints .u8 firstZ),(4, .ints .u8 acceptZ)]
theorem tabs_in:1 < Tryz.prog.globals.size∧7 < Tryz.prog.globals.size∧8 < Tryz.prog.globals.size∧3 < Tryz.prog.globals.size∧4 < Tryz.prog.globals.size:=of_decide_eq_true (by kernel_rfl)
def h0y (w:World) (g:Nat):Prop:=∃ m,w.cell? ⟨g,0,none⟩=some (.int .i64 m)
theorem v0q:2 < Tryz.prog.globals.size:=of_decide_eq_true (by kernel_rfl)
def dY (w:World) (g:Nat):Prop:=∃ ev,w.cell? ⟨g,0,none⟩=some ev∧(ev= .nilIface∨∃ te pe,ev= .iface te pe)
theorem errs_in:9 < Tryz.prog.globals.size∧10 < Tryz.prog.globals.size:=⟨of_decide_eq_true (by kernel_rfl),of_decide_eq_true (by kernel_rfl)⟩
theorem y0e {P:Program} {ρ:Num} (hg:∀ g,g < P.globals.size→ρ g=some g) (B:Nat) (M:Nat→Prop) (w:World):∀ (L:List (Nat×IntKind×List Int)),(∀ x∈L,x.1 < P.globals.size∧HasInts w x.1 x.2.1 x.2.2)→
  ∀ i o,Heap.get (L.map fun x=>(x.1,AObj.ints x.2.1 x.2.2)) i=some o→ORep B M ρ w (ρ i) o∧o.rw=false
 | [],_,i,o,h=>by simp [Heap.get] at h
 | x ::L,hL,i,o,h=>by
  rw [List.map_cons,Heap.get_cons] at h
  split at h
  ·rename_i e
   subst e
   cases h
   obtain⟨h1,h2⟩:=hL x (by simp)
   rw [hg _ h1]
   exact⟨h2.orep B M ρ,rfl⟩
  ·exact y0e hg B M w L (fun y hy=>hL y (List.mem_cons_of_mem _ hy)) i o h
def J0:Inv Tryz.prog where
 I w:=Tryz.prog.globals.size≤w.heap.size∧VarIs w 1 .u64 Lib.pow10Tab∧VarIs w 7 .u8 s1l∧VarIs w 8 .u8 v1q∧Lib.Utf8Tabs 3 4 w∧h0y w 2∧dY w 9∧dY w 10
 st w w' h1 h2 h3:=by
  obtain⟨g0,g1,g2,g3,g4,g5,g6,g7⟩:=h3
  exact⟨Nat.le_trans g0 h2,by unfold VarIs; rw [h1 _ tabs_in.1]; exact g1,by unfold VarIs; rw [h1 _ tabs_in.2.1]; exact g2,by unfold VarIs; rw [h1 _ tabs_in.2.2.1]; exact g3,v0y tabs_in.2.2.2.1 tabs_in.2.2.2.2 h1 g4,by unfold h0y World.cell?; rw [h1 _ v0q]; exact g5,by unfold dY World.cell?; rw [h1 _ errs_in.1]; exact g6,by unfold dY World.cell?; rw [h1 _ errs_in.2]; exact g7⟩
 room _ h:=h.1
 tabs:=t1a
 tabsOk w ρ B M h hg:=by
  obtain⟨g0,g1,g2,g3,g4,g5,g6,g7⟩:=h
  obtain⟨q1,q2⟩:=i1c g4
  have key:=y0e (P:=Tryz.prog) hg B M w [(1, .u64,Lib.pow10Tab),(7, .u8,s1l),(8, .u8,v1q),(3, .u8,firstZ),(4, .u8,acceptZ)] (fun x hx=>by
   simp only [List.mem_cons,List.not_mem_nil,or_false] at hx
   rcases hx with rfl | rfl | rfl | rfl | rfl
   ·exact⟨tabs_in.1,g1.has⟩
   ·exact⟨tabs_in.2.1,g2.has⟩
   ·exact⟨tabs_in.2.2.1,g3.has⟩
   ·exact⟨tabs_in.2.2.2.1,q1⟩
   ·exact⟨tabs_in.2.2.2.2,q2⟩)
  refine⟨hg,fun i o hi=>(key i o hi).1,fun i j oi oj hi hr _ _ _=> ?_⟩
  rw [(key i oi hi).2] at hr
  cases hr
 tabsRo i o hi:=by
  unfold t1a at hi
  rw [Heap.get_cons,Heap.get_cons,Heap.get_cons,Heap.get_cons,Heap.get_cons] at hi
  split at hi
  ·cases hi; rfl
  ·split at hi
   ·cases hi; rfl
   ·split at hi
    ·cases hi; rfl
    ·split at hi
     ·cases hi; rfl
     ·split at hi
      ·cases hi; rfl
      ·simp [Heap.get] at hi
theorem progOk:ProgOk Tryz.prog:=by
 refine⟨by kernel_rfl,fun f fn h=> ?_⟩
 have hall:(Tryz.prog.funcs.toList.all fun fn=> !(fn.name== "runtime.NumGoroutine"))=true:=by kernel_rfl
 have:=List.all_eq_true.1 hall fn (by
  have:=Array.mem_of_getElem? h
  simpa using this)
 simpa using this
theorem aR (s:ByteArray) (c:Int):Pure Tryz.prog J0 220 [.string s, .int .u8 c] (.int .i64 (Lib.indexByte s.data.toList c.toNat.toUInt8)):=by
 refine⟨rfl,rfl, .inr fun w _=> ?_⟩
 rw [run_callFunc_extern Tryz.func220 (by kernel_rfl) (by kernel_rfl) (by kernel_rfl) (e:=Extern.BytealgIndexByte.indexByte) (by kernel_rfl),Lib.run_indexByteString]
 rfl
def R3:List Value→Option (Value×List Prop)
 | [.string s, .int .u8 c] =>some (.int .i64 (Lib.indexByte s.data.toList c.toNat.toUInt8),[])
 | _=>none
theorem jX (args:List Value) (v:Value) (l:List Prop) (h:R3 args=some (v,l)) (_:d5 l):Pure Tryz.prog J0 220 args v:=by
 unfold R3 at h
 split at h
 ·cases h; exact aR _ _
 ·cases h
theorem rO {f:FuncId} {fn:Func} (hf:Tryz.prog.funcs[f]? =some fn) (h1:(fn.name== "runtime.NumGoroutine")=false) (h2:fn.body.isNone=true) (h3:Extern.findNext fn=none) {e:Array Value→Sem Value} (h4:Extern.find fn=some e)
  {args:List Value} {v:Value} (hp:pureL args=true) (hv:pureV v=true) (hr:∀ w,(e ⟨args⟩).run Tryz.prog w= .ok v w):Pure Tryz.prog J0 f args v:=by
 refine⟨hp,hv, .inr fun w _=> ?_⟩
 rw [run_callFunc_extern hf h1 h2 h3 h4]
 simp [hr]
def L0:List Value→Option (Value×List Prop)
 | [.float .f64 b] =>some (.int .u64 b,[])
 | _=>none
theorem N0 (args:List Value) (v:Value) (l:List Prop) (h:L0 args=some (v,l)) (_:d5 l):Pure Tryz.prog J0 20 args v:=by
 unfold L0 at h
 split at h
 ·cases h; exact rO Tryz.func20 (by kernel_rfl) (by kernel_rfl) (by kernel_rfl) (e:=Extern.MathFloatBits.float64bits) (by kernel_rfl) rfl rfl (fun _=>rfl)
 ·cases h
def Q8:List Value→Option (Value×List Prop)
 | [.int .u64 b] =>some (.float .f64 b.toNat,[])
 | _=>none
theorem aP (args:List Value) (v:Value) (l:List Prop) (h:Q8 args=some (v,l)) (_:d5 l):Pure Tryz.prog J0 91 args v:=by
 unfold Q8 at h
 split at h
 ·cases h; exact rO Tryz.func91 (by kernel_rfl) (by kernel_rfl) (by kernel_rfl) (e:=Extern.MathFloatBits.float64frombits) (by kernel_rfl) rfl rfl (fun _=>rfl)
 ·cases h
theorem c0w (name:String) {x y c:Int} (hc:c.toNat≤1) (w:World):(Extern.MathBitsCarry.three name #[.int .u64 x, .int .u64 y, .int .u64 c]).run Tryz.prog w= .ok (x.toNat,y.toNat,c.toNat) w:=by
 have hdef:Extern.MathBitsCarry.three name #[.int .u64 x, .int .u64 y, .int .u64 c] =(do
  let c0 ← asInt (.int .u64 c)
  if c0.toNat > 1 then unsupported (.noEntry ("extern/math/bits." ++name++ ": a carry that is neither 0 nor 1"))
  pure ((← asInt (.int .u64 x)).toNat,(← asInt (.int .u64 y)).toNat,c0.toNat)):=rfl
 rw [hdef]
 simp [asInt,asIntOf]
 omega
def cJ:List Value→Option (Value×List Prop)
 | [.int .u64 x, .int .u64 y, .int .u64 c] =>match Nat.ble c.toNat 1 with
  | true=>some (.tuple ⟨[.int .u64 (Int.ofNat ((x.toNat+y.toNat+c.toNat)%18446744073709551616)), .int .u64 (Int.ofNat ((x.toNat+y.toNat+c.toNat)/18446744073709551616))]⟩,[])
  | false=>none
 | _=>none
theorem jH (args:List Value) (v:Value) (l:List Prop) (h:cJ args=some (v,l)) (_:d5 l):Pure Tryz.prog J0 146 args v:=by
 unfold cJ at h
 split at h
 case h_2=>cases h
 rename_i x y c
 split at h
 case h_2=>cases h
 rename_i hc
 have hc:=Nat.le_of_ble_eq_true hc
 cases h
 refine rO Tryz.func146 (by kernel_rfl) (by kernel_rfl) (by kernel_rfl) (e:=fun args=>do
  let (x,y,c) ← Extern.MathBitsCarry.three "Add64" args
  pure (Extern.MathBitsCarry.pair ((x+y+c)%Extern.MathBitsCarry.m64) ((x+y+c)/Extern.MathBitsCarry.m64))) (by kernel_rfl) rfl rfl (fun w=> ?_)
 simp [c0w _ hc,Extern.MathBitsCarry.pair,Extern.MathBitsCarry.m64]
def cY:List Value→Option (Value×List Prop)
 | [.int .u64 x, .int .u64 y, .int .u64 c] =>match Nat.ble c.toNat 1 with
  | true=>some (.tuple ⟨[.int .u64 (Int.ofNat ((x.toNat+18446744073709551616-y.toNat-c.toNat)%18446744073709551616)), .int .u64 (Int.ofNat (match Nat.blt x.toNat (y.toNat+c.toNat) with | true=>1 | false=>0))]⟩,[])
  | false=>none
 | _=>none
theorem iP (args:List Value) (v:Value) (l:List Prop) (h:cY args=some (v,l)) (_:d5 l):Pure Tryz.prog J0 228 args v:=by
 unfold cY at h
 split at h
 case h_2=>cases h
 rename_i x y c
 split at h
 case h_2=>cases h
 rename_i hc
 have hc:=Nat.le_of_ble_eq_true hc
 cases h
 refine rO Tryz.func228 (by kernel_rfl) (by kernel_rfl) (by kernel_rfl) (e:=fun args=>do
  let (x,y,b) ← Extern.MathBitsCarry.three "Sub64" args
  pure (Extern.MathBitsCarry.pair ((x+Extern.MathBitsCarry.m64-y-b)%Extern.MathBitsCarry.m64) (if x < y+b then 1 else 0))) (by kernel_rfl) rfl rfl (fun w=> ?_)
 have hb:(if x.toNat < y.toNat+c.toNat then 1 else 0)=(match Nat.blt x.toNat (y.toNat+c.toNat) with | true=>1 | false=>0):=by
  by_cases hlt:x.toNat < y.toNat+c.toNat
  ·rw [if_pos hlt,show Nat.blt x.toNat (y.toNat+c.toNat)=true by simp [Nat.blt_eq]; exact hlt]
  ·rw [if_neg hlt,show Nat.blt x.toNat (y.toNat+c.toNat)=false by cases hb:Nat.blt x.toNat (y.toNat+c.toNat) <;> first | rfl | exact absurd (by simpa [Nat.blt_eq] using hb) hlt]
 rw [← hb]
 simp [c0w _ hc,Extern.MathBitsCarry.pair,Extern.MathBitsCarry.m64]
def wH:List Value→Heap→Nat→Option CR
 | [x],H,n=>some ⟨x,H,n,[],[]⟩
 | _,_,_=>none
theorem g0b {f:FuncId} {fn:Func} (hf:Tryz.prog.funcs[f]? =some fn) (h1:(fn.name== "runtime.NumGoroutine")=false) (h2:fn.body.isNone=true) (h3:Extern.findNext fn=none) (h4:Extern.find fn=some Extern.AbiNoEscape.same):y1z Tryz.prog J0 f wH:=by
 intro args H n r h _
 unfold wH at h
 split at h
 case h_2=>cases h
 rename_i x
 cases h
 refine⟨Nat.le_refl _,fun B M ρ w vs _ _ _ hS=>⟨ρ,rv ρ x,w,Agree.refl _ _,?_,Keeps.refl _ _ _,fun ρ' ha=>⟨?_,(hS ρ' ha).1⟩⟩⟩
 ·rw [run_callFunc_extern hf h1 h2 h3 h4,(hS ρ (Agree.refl _ _)).2]
  rfl
 ·have e1:=(hS ρ (Agree.refl _ _)).2
  have e2:=(hS ρ' ha).2
  rw [e1] at e2
  simpa [rvL] using e2
def fH (e:TypeId):List Value→Heap→Nat→Option CR
 | [.int .i64 m],H,n=>match m with
  | .ofNat m=>match Nat.ble m 281474976710656 with
   | true=>some ⟨.slice (some ⟨n,0,some (n+1)⟩) m 0,(n, .row e 1 (.ints .u8 []) (n+1)) ::H,n+2,[],[]⟩
   | false=>none
  | .negSucc _=>none
 | _,_,_=>none
theorem wW:y1z Tryz.prog J0 204 (fH 5):=by
 intro args H n r h _
 unfold fH at h
 split at h
 case h_2=>cases h
 split at h
 case h_2=>cases h
 rename_i m
 split at h
 case h_2=>cases h
 rename_i hm
 have hm:=Nat.le_of_ble_eq_true hm
 cases h
 refine⟨Nat.le_add_right _ _,fun B M ρ w vs _ hB _ hS=> ?_⟩
 obtain⟨cs,hrun,hle,hmax⟩:=Lib.run_makeNoZero (P:=Tryz.prog) w #[3] 22 5 (by kernel_rfl) m hm
 refine⟨fun i=>if i=n then some w.heap.size else if i=n+1 then some cs.size else ρ i, .slice (some ⟨w.heap.size,0,none⟩) m cs.size,w.drew.drew.alloc (.cells cs 5),fun i hi=> ?_,?_,?_,fun ρ' ha=> ?_⟩
 ·show (if i=n then some w.heap.size else if i=n+1 then some cs.size else ρ i)=ρ i
  simp only [show i≠n by omega,show i≠n+1 by omega,if_false]
 ·rw [run_callFunc_extern Tryz.func204 (by kernel_rfl) (by kernel_rfl) (by kernel_rfl) (e:=Extern.BytealgMakeNoZero.makeNoZero #[3] #[22]) (by kernel_rfl),(hS ρ (Agree.refl _ _)).2]
  have e1:(⟨rvL ρ [.int .i64 (Int.ofNat m)]⟩:Array Value)= #[.int .i64 m] :=by simp [rvL,rv]
  rw [e1,hrun]
  rfl
 ·exact⟨rfl,rfl,rfl,by simp,fun k hk _=>by rw [heap_alloc_old _ _ (by simpa using Nat.lt_of_lt_of_le hk hB)]; rfl⟩
 ·have h1:=ha n (by simp)
  have h2:=ha (n+1) (by simp)
  simp only [if_true] at h1
  simp only [show n+1≠n by omega,if_false,if_true] at h2
  refine⟨by simp [rv,rSl,h1,h2],Sim.row (hS ρ' (fun i hi=> ?_)).1 (fun i o _ hi=>⟨hi,fun e=> ?_⟩) h1 h2 (.of (heap_alloc_new _ _)) (.inl (by simpa using hB)) (hmax (by unfold maxLen; omega)) (by omega) (by simp [Row.list]) (by simp [Row.list,rvL]) (fun k hk _=>by rw [heap_alloc_old _ _ (by simpa using hk)]; rfl)⟩
  ·have:=ha i (by simp; omega)
   simp only [show i≠n by omega,show i≠n+1 by omega,if_false] at this
   exact this
  ·have:=((hS ρ' (fun i hi=>by
    have:=ha i (by simp; omega)
    simp only [show i≠n by omega,show i≠n+1 by omega,if_false] at this
    exact this)).1).obj i o hi
   rw [e] at this
   exact absurd this.lt (Nat.lt_irrefl _)
noncomputable def H8:FuncId→List Value→Heap→Nat→Option CR:=g1u 203 wH (g1u 204 (fH 5) xt0)
theorem i7:r1v Tryz.prog J0 H8:=l0l (g0b Tryz.func203 (by kernel_rfl) (by kernel_rfl) (by kernel_rfl) (by kernel_rfl)) (l0l wW (v1n _ _))
noncomputable def l0w:Tab:=i6 146 cJ (i6 228 cY (i6 20 L0 (i6 91 Q8 (i6 220 R3 n1s))))
theorem dG:N1 Tryz.prog J0 l0w:=b6 jH (b6 iP (b6 N0 (b6 aP (b6 jX (aW _ _)))))
noncomputable def bN0:Base:=⟨Tryz.prog,J0,true,l0w,C4,2000,H8⟩
theorem u1s:BaseOk bN0:=⟨progOk,dG,m6 _ _,i7⟩
end Go.Proofs.YtdgfhijnconaoaaGreatDoor
namespace Go.Proofs
def Tryz.lays196_ren:Go.Shelf.Ren:=⟨fun | 196=>226 | 259=>240 | n=>n,fun | 9=>9 | 4=>4 | 3=>3 | 5=>5 | 12=>12 | 119=>264 | 0=>0 | 46=>110 | 139=>267 | 138=>266 | 53=>32 | n=>n,fun | 3=>3 | 4=>4 | n=>n⟩
theorem Tryz.lays196:Go.Proofs.Lays.n196 Tryz.prog Tryz.lays196_ren where
 mixed:=by kernel_rfl
 f196:=Tryz.func226.trans (congrArg some (by kernel_rfl))
 f259:=Tryz.func240.trans (congrArg some (by kernel_rfl))
 t0:=Tryz.underlying0
 a0:=Tryz.isAgg0
 z0:=Tryz.sizeOf0
 v0:=Tryz.zeroValue0
 t3:=Tryz.underlying3
 a3:=Tryz.isAgg3
 z3:=Tryz.sizeOf3
 v3:=Tryz.zeroValue3
 t4:=Tryz.underlying4
 a4:=Tryz.isAgg4
 z4:=Tryz.sizeOf4
 v4:=Tryz.zeroValue4
 t5:=Tryz.underlying5
 a5:=Tryz.isAgg5
 z5:=Tryz.sizeOf5
 v5:=Tryz.zeroValue5
 t9:=Tryz.underlying9
 a9:=Tryz.isAgg9
 z9:=Tryz.sizeOf9
 v9:=Tryz.zeroValue9
 t12:=Tryz.underlying12
 a12:=Tryz.isAgg12
 z12:=Tryz.sizeOf12
 v12:=Tryz.zeroValue12
 t46:=Tryz.underlying110
 a46:=Tryz.isAgg110
 z46:=Tryz.sizeOf110
 v46:=Tryz.zeroValue110
 t53:=Tryz.underlying32
 a53:=Tryz.isAgg32
 z53:=Tryz.sizeOf32
 v53:=Tryz.zeroValue32
 t119:=Tryz.underlying264
 a119:=Tryz.isAgg264
 z119:=Tryz.sizeOf264
 t138:=Tryz.underlying266
 a138:=Tryz.isAgg266
 z138:=Tryz.sizeOf266
 v138:=Tryz.zeroValue266
 t139:=Tryz.underlying267
 a139:=Tryz.isAgg267
 z139:=Tryz.sizeOf267
 v139:=Tryz.zeroValue267
 g3:=by kernel_rfl
 g4:=by kernel_rfl
namespace YtdgfhijnconaoaaGreatDoor
open Go Go.RowKit Ev
end YtdgfhijnconaoaaGreatDoor
end Go.Proofs
namespace Go.Proofs.YtdgfhijnconaoaaGreatDoor
open Go.ChangeShapes Go.WideShapes Go.ChangeAt Go.RowKit Go.Joins
theorem own:ownKnob Tryz.prog.godebug=none:=by kernel_rfl
theorem vH {W:World} {n:String} {g:Nat} {cs:Array Value} {k:IntKind} {zs:List Int} (e:Tryz.prog.globalNamed n=some g) (hv:W.var? Tryz.prog n=some cs) (hc:cs.toList=zs.map fun z=>Value.int k z):VarIs W g k zs:=by
 unfold World.var? at hv
 rw [e] at hv
 simp only [Option.bind_some] at hv
 split at hv
 ·rename_i c t fr hb
  cases hv
  refine⟨t,fr,?_⟩
  rw [hb,← hc]
 ·cases hv
theorem VarIs.lt {W:World} {g:Nat} {k:IntKind} {zs:List Int} (h:VarIs W g k zs):g < W.heap.size:=by
 obtain⟨t,fr,h⟩:=h
 exact (Array.getElem?_eq_some_iff.1 h).1
theorem f1p:(Rows.laid_internal_strconv_uint64pow10:DataW Unit)=Lib.tabData .u64 Lib.pow10Tab:=by kernel_rfl
theorem g1z:(Rows.laid_math_bits_deBruijn32tab:DataW Unit)=Lib.tabData .u8 s1l:=by kernel_rfl
theorem g1m:(Rows.laid_math_bits_deBruijn64tab:DataW Unit)=Lib.tabData .u8 v1q:=by kernel_rfl
theorem m0q:(Rows.laid_unicode_utf8_first:DataW Unit)=Lib.firstData:=by kernel_rfl
theorem i0i:(Rows.laid_unicode_utf8_acceptRanges:DataW Unit)=Lib.acceptData:=by kernel_rfl
theorem m1j:U8Extra Tryz.prog Tryz.lays196_ren:=⟨by kernel_rfl,by kernel_rfl,by kernel_rfl,by kernel_rfl,by kernel_rfl,by kernel_rfl,by kernel_rfl⟩
theorem f0j {w:World} (h:w.ShapedOpen Tryz.prog):h0y w 2:=
 Go.Proofs.cell_of_shapedOpen_int (zero:= #[.int .i64 0]) (t:=3) h (of_decide_eq_true (by kernel_rfl)) (by kernel_rfl) rfl (by kernel_rfl) (by kernel_rfl) Tryz.underlying3
theorem nP {w:World} {n name:String} {g:Nat} {t:TypeId} {d:DataW Unit} {ms:_} (hr:Lib.VarReads Tryz.prog w n (.iface name d)) (hg:Tryz.prog.globalNamed n=some g) (hty:(Tryz.prog.globals[g]?).map (·.type)=some t)
  (hu:Tryz.prog.underlying t=some (.interface ms)):dY w g:=by
 obtain⟨g',t',cs,fuel,p,h1,h2,h3,h4⟩:=hr
 obtain rfl:=Option.some.inj (hg.symm.trans h1)
 obtain rfl:=Option.some.inj (hty.symm.trans h2)
 cases fuel with
 | zero=>simp [DataW.trod] at h4
 | succ n=>
  unfold DataW.trod at h4
  rw [hu] at h4
  have hc:=World.var?_cell hg h3 0
  obtain⟨l⟩:=cs
  simp only at h4
  split at h4 <;> first | (simp_all; done) | skip
  all_goals first
   | (rename_i u v _ _; exact⟨.iface u v,by rw [hc]; simp_all, .inr ⟨u,v,rfl⟩⟩)
   | (rename_i u v _; exact⟨.iface u v,by rw [hc]; simp_all, .inr ⟨u,v,rfl⟩⟩)
   | (rename_i u v; exact⟨.iface u v,by rw [hc]; simp_all, .inr ⟨u,v,rfl⟩⟩)
   | cases h4
theorem f0r {W:World} (h:laidMetH Tryz.prog Rows.numberRisesRow.laid W) (hsh:W.ShapedOpen Tryz.prog):J0.I W:=by
 have h':laidMet Tryz.prog Rows.numberRisesRow.laid W:=h
 obtain⟨ps,⟨g1,t1,cs1,f1,p1,q1,hg1,ht1,hvar1,hd1,⟨g2,t2,cs2,f2,p2,q2,hg2,ht2,hvar2,hd2,⟨g3,t3,cs3,f3,p3,q3,hg3,ht3,hvar3,hd3,_⟩,_⟩,_⟩,_⟩:=h'
 have e1:Tryz.prog.globalNamed "math/bits.deBruijn32tab" =some 7:=by kernel_rfl
 have e2:Tryz.prog.globalNamed "math/bits.deBruijn64tab" =some 8:=by kernel_rfl
 have e3:Tryz.prog.globalNamed "internal/strconv.uint64pow10" =some 1:=by kernel_rfl
 obtain rfl:=Option.some.inj (e1.symm.trans hg1)
 obtain rfl:=Option.some.inj (e2.symm.trans hg2)
 obtain rfl:=Option.some.inj (e3.symm.trans hg3)
 have et1:(Tryz.prog.globals[7]?).map (·.type)=some 282:=by kernel_rfl
 have et2:(Tryz.prog.globals[8]?).map (·.type)=some 283:=by kernel_rfl
 have et3:(Tryz.prog.globals[1]?).map (·.type)=some 256:=by kernel_rfl
 obtain rfl:=Option.some.inj (et1.symm.trans ht1)
 obtain rfl:=Option.some.inj (et2.symm.trans ht2)
 obtain rfl:=Option.some.inj (et3.symm.trans ht3)
 rw [show (Rows.laid_math_bits_deBruijn32tab:DataW Unit)=Lib.tabData .u8 s1l from g1z] at hd1
 rw [show (Rows.laid_math_bits_deBruijn64tab:DataW Unit)=Lib.tabData .u8 v1q from g1m] at hd2
 rw [show (Rows.laid_internal_strconv_uint64pow10:DataW Unit)=Lib.tabData .u64 Lib.pow10Tab from f1p] at hd3
 have c1:=Lib.cells_of_tab (n:=32) Tryz.underlying282 Tryz.underlying5 (by kernel_rfl) (by kernel_rfl) hd1
 have c2:=Lib.cells_of_tab (n:=64) Tryz.underlying283 Tryz.underlying5 (by kernel_rfl) (by kernel_rfl) hd2
 have c3:=Lib.cells_of_tab (n:=20) Tryz.underlying256 Tryz.underlying32 (by kernel_rfl) (by kernel_rfl) hd3
 have v1:=vH e1 hvar1 c1
 have v2:=vH e2 hvar2 c2
 have v3:=vH e3 hvar3 c3
 have w1:=nP (g:=9) (t:=170) (Lib.laidMet.reads h (n:= "strconv.ErrSyntax") (d:=Rows.laid_strconv_ErrSyntax) (by simp [Rows.numberRisesRow])) (by kernel_rfl) (by kernel_rfl) Tryz.underlying170
 have w2:=nP (g:=10) (t:=170) (Lib.laidMet.reads h (n:= "strconv.ErrRange") (d:=Rows.laid_strconv_ErrRange) (by simp [Rows.numberRisesRow])) (by kernel_rfl) (by kernel_rfl) Tryz.underlying170
 refine⟨?_,v3,v1,v2,?_,f0j hsh,w1,w2⟩
 case refine_2=>exact utf8Tabs_of_readsT (.of196 Tryz.lays196) m1j (Lib.laidMet.reads h (n:= "unicode/utf8.first") (by rw [← m0q]; simp [Rows.numberRisesRow])) (Lib.laidMet.reads h (n:= "unicode/utf8.acceptRanges") (by rw [← i0i]; simp [Rows.numberRisesRow]))
 have hpos:Tryz.prog.globals.size-1 < Tryz.prog.globals.size:=of_decide_eq_true (by kernel_rfl)
 have hr:(((begin Tryz.prog (fun _ _=>0) default).world.heap[Tryz.prog.globals.size-1]?).bind Obj.row?).isSome=true:=by kernel_rfl
 obtain⟨⟨zero,t⟩,h0⟩:=Option.isSome_iff_exists.1 hr
 obtain⟨cs,hh,_⟩:=hsh.1 _ zero t hpos h0
 have:=(Array.getElem?_eq_some_iff.1 hh).1
 omega
def sJ:Nat→DataW Unit→List Value
 | 0,_=>[]
 | _+1, .lit (.int k n)=>[.int k n]
 | f+1, .agg l=>l.flatMap (sJ f)
 | _+1,_=>[]
def q1m (g:Nat) (cs:List Value) (h:Array Obj):Array Obj:=h.modify g fun
 | .cells _ t frozen=> .cells cs.toArray t frozen
 | o=>o
def s1r:ByteArray:=⟨#[118,97,108,117,101,32,111,117,116,32,111,102,32,114,97,110,103,101]⟩
def p1v:ByteArray:=⟨#[105,110,118,97,108,105,100,32,115,121,110,116,97,120]⟩
noncomputable def low:Nat:=(World.holding Tryz.prog default ⟨#[],#[],[]⟩).heap.size
noncomputable def lK (os:Os):World:=
 let w0:=World.holding Tryz.prog os ⟨#[.cells #[.string s1r] 289, .cells #[.string p1v] 289],#[],[]⟩
 { w0 with heap:=q1m 10 [.iface 287 (.pointer (some ⟨low,0,none⟩))] (q1m 9 [.iface 287 (.pointer (some ⟨low+1,0,none⟩))]
   (q1m 3 (sJ 4 Rows.laid_unicode_utf8_first) (q1m 4 (sJ 4 Rows.laid_unicode_utf8_acceptRanges) (q1m 1 (sJ 4 Rows.laid_internal_strconv_uint64pow10)
   (q1m 7 (sJ 4 Rows.laid_math_bits_deBruijn32tab) (q1m 8 (sJ 4 Rows.laid_math_bits_deBruijn64tab) w0.heap))))))}
end Go.Proofs.YtdgfhijnconaoaaGreatDoor
namespace Go.Proofs.YtdgfhijnconaoaaGreatDoor.Ev
open Go Go.RowKit
noncomputable section
inductive Cel where
 | v (x:Value)
 | s (e:TypeId) (k:IntKind) (xs:List Int)
 | o (k:IntKind) (ys:List Int) (off n:Nat)
 | f (g:Nat→Value) (m sz off:Nat)
inductive Arg where
 | c (x:Cel)
 | a (l:List Cel)
def Arg.cells:Arg→List Cel
 | .c x=>[x]
 | .a l=>l
def n9:List Arg→List Cel
 | [] =>[]
 | a ::r=>a.cells++n9 r
def Arg.pack:Arg→List Value→Value
 | .c _,us=>match us with
  | u ::_=>u
  | [] =>undef
 | .a _,us=> .agg ⟨us⟩
def F3:List Arg→List Value→List Value
 | [],_=>[]
 | a ::r,us=>a.pack (us.take a.cells.length) ::F3 r (us.drop a.cells.length)
inductive All2 {α β:Type} (R:α→β→Prop):List α→List β→Prop
 | nil:All2 R [] []
 | cons {x y xs ys} :R x y→All2 R xs ys→All2 R (x ::xs) (y ::ys)
theorem All2.length {α β:Type} {R:α→β→Prop} {l:List α} {m:List β} (h:All2 R l m):l.length=m.length:=by
 induction h with
 | nil=>rfl
 | cons _ _ ih=>simp [ih]
theorem All2.append {α β:Type} {R:α→β→Prop} {l l':List α} {m m':List β} (h:All2 R l m) (k:All2 R l' m'):All2 R (l++l') (m++m'):=by
 induction h with
 | nil=>exact k
 | cons a _ ih=>exact .cons a ih
theorem All2.nil_inv {α β:Type} {R:α→β→Prop} {m:List β} (h:All2 R ([] :List α) m):m=[] :=by cases h; rfl
theorem All2.cons_inv {α β:Type} {R:α→β→Prop} {x:α} {xs:List α} {m:List β} (h:All2 R (x ::xs) m):∃ y ys,m=y ::ys∧R x y∧All2 R xs ys:=by
 cases h with
 | cons a b=>exact⟨_,_,rfl,a,b⟩
def CelIs (w:World):Cel→Value→Prop
 | .v x,u=>u=x∧pureV x=true
 | .s _ k xs,u=>(u= .slice none 0 0∧xs=[])∨∃ g cap cs t fr,u= .slice (some ⟨g,0,none⟩) xs.length cap∧w.heap[g]? =some (.cells cs t fr)∧∀ i,i < xs.length→cs[i]? =some (.int k (xs.getD i 0))
 | .o k ys off n,u=>(u= .slice none 0 0∧ys=[] ∧off=0∧n=0)∨∃ g cap cs t fr,u= .slice (some ⟨g,off,none⟩) n cap∧w.heap[g]? =some (.cells cs t fr)∧∀ i,i < ys.length→cs[i]? =some (.int k (ys.getD i 0))
 | .f g m sz off,u=>(u= .slice none 0 0∧m=0)∨∃ b cap cs t fr,u= .slice (some ⟨b,off,none⟩) m cap∧w.heap[b]? =some (.cells cs t fr)∧∀ i,i < m→(g i).cells.toList.length=sz∧pureV (g i)=true∧∀ (j:Nat) (v:Value),(g i).cells.toList[j]? =some v→cs[off+i*sz+j]? =some v
def i0p (w w':World):Cel→Value→Prop
 | .v x,u=>u=x∧pureV x=true
 | .s e k xs,u=>(u= .slice none 0 0∧xs=[])∨∃ g cap cur,u= .slice (some ⟨g,0,none⟩) xs.length cap∧w.heap.size≤g∧RowAt w' g cur e∧cap≤maxLen∧cur.size=cap∧xs.length≤cap∧cur.toList.take xs.length=xs.map (Value.int k)
 | .o _ _ _ _,_=>False
 | .f _ _ _ _,_=>False
def blk:Value→Option Nat
 | .slice (some a) _ _=>some a.block
 | _=>none
def Sem (P:Program) (J:Inv P) (f:FuncId) (az rs:List Arg):Prop:=
 Enters P f∧∀ (w:World) (us:List Value),J.I w→All2 (CelIs w) (n9 az) us→
  Calls P f ⟨F3 az us⟩ w fun e w'=>∃ us',e= .returned (H3 (F3 rs us'))∧Below w.heap.size w w'∧All2 (i0p w w') (n9 rs) us'∧(us'.filterMap blk).Nodup
def E4 (n:Nat):List Cel→List Value×Heap×Nat
 | [] =>([],[],n)
 | .v x ::r=>match E4 n r with
  | (vs,h,m)=>(x ::vs,h,m)
 | .s _ k xs ::r=>match E4 (n+2) r with
  | (vs,h,m)=>(.slice (some ⟨n,0,some (n+1)⟩) xs.length 0 ::vs,(n, .ints k xs) ::h,m)
 | .o k ys off l ::r=>match E4 (n+2) r with
  | (vs,h,m)=>(.slice (some ⟨n,off,some (n+1)⟩) l 0 ::vs,(n, .ints k ys) ::h,m)
 | .f g m sz off ::r=>match E4 (n+2) r with
  | (vs,h,k)=>(.slice (some ⟨n,off,some (n+1)⟩) m 0 ::vs,(n, .fam g m sz off) ::h,k)
theorem H9:∀ (cs:List Cel) (n:Nat),n≤(E4 n cs).2.2
 | [],n=>Nat.le_refl _
 | .v x ::r,n=>H9 r n
 | .s _ k xs ::r,n=>by
  have:=H9 r (n+2)
  show n≤(E4 (n+2) r).2.2
  omega
 | .o k ys off l ::r,n=>by
  have:=H9 r (n+2)
  show n≤(E4 (n+2) r).2.2
  omega
 | .f g m sz off ::r,n=>by
  have:=H9 r (n+2)
  show n≤(E4 (n+2) r).2.2
  omega
theorem Y5:∀ (cs:List Cel) (n:Nat) (i:Nat) (o:AObj),(E4 n cs).2.1.get i=some o→n≤i∧i < (E4 n cs).2.2∧o.rw=false
 | [],n,i,o,h=>by cases h
 | .v x ::r,n,i,o,h=>Y5 r n i o h
 | .s _ k xs ::r,n,i,o,h=>by
  change Heap.get ((n, .ints k xs) ::(E4 (n+2) r).2.1) i=some o at h
  rw [Heap.get_cons] at h
  have hle:=H9 r (n+2)
  show n≤i∧i < (E4 (n+2) r).2.2∧o.rw=false
  split at h
  ·rename_i e
   cases h
   exact⟨by omega,by omega,rfl⟩
  ·have:=Y5 r (n+2) i o h
   exact⟨by omega,by omega,this.2.2⟩
 | .o k xs off l ::r,n,i,o,h=>by
  change Heap.get ((n, .ints k xs) ::(E4 (n+2) r).2.1) i=some o at h
  rw [Heap.get_cons] at h
  have hle:=H9 r (n+2)
  show n≤i∧i < (E4 (n+2) r).2.2∧o.rw=false
  split at h
  ·rename_i e
   cases h
   exact⟨by omega,by omega,rfl⟩
  ·have:=Y5 r (n+2) i o h
   exact⟨by omega,by omega,this.2.2⟩
 | .f g m sz off ::r,n,i,o,h=>by
  change Heap.get ((n, .fam g m sz off) ::(E4 (n+2) r).2.1) i=some o at h
  rw [Heap.get_cons] at h
  have hle:=H9 r (n+2)
  show n≤i∧i < (E4 (n+2) r).2.2∧o.rw=false
  split at h
  ·rename_i e
   cases h
   exact⟨by omega,by omega,rfl⟩
  ·have:=Y5 r (n+2) i o h
   exact⟨by omega,by omega,this.2.2⟩
theorem r0m (B:Nat) (M:Nat→Prop) (w:World):∀ (cs:List Cel) (us:List Value),All2 (CelIs w) cs us→∀ (n:Nat) (ρ0:Num),∃ ρ,Agree n ρ0 ρ∧∀ ρ',Agree (E4 n cs).2.2 ρ ρ'→
  us=rvL ρ' (E4 n cs).1∧∀ i o,(E4 n cs).2.1.get i=some o→ORep B M ρ' w (ρ' i) o:=by
 intro cs us h
 induction h with
 | nil=>exact fun n ρ0=>⟨ρ0,Agree.refl _ _,fun ρ' _=>⟨rfl,fun i o h=>by cases h⟩⟩
 | @cons c u cs us hc _ ih=>
  intro n ρ0
  cases c with
  | v x=>
   obtain⟨rfl,hp⟩:=hc
   obtain⟨ρ,ha,hρ⟩:=ih n ρ0
   refine⟨ρ,ha,fun ρ' ha'=> ?_⟩
   obtain⟨h1,h2⟩:=hρ ρ' ha'
   refine⟨?_,h2⟩
   show u ::us=rvL ρ' (u ::(E4 n cs).1)
   simp only [rvL,x7 ρ' u hp,← h1]
  | s e k xs=>
   have key:∀ (ob:Option Nat) (cap:Nat),(u=match ob with | none=> .slice none xs.length 0 | some g=> .slice (some ⟨g,0,none⟩) xs.length cap)→(∀ ρ',ORep B M ρ' w ob (.ints k xs))→∃ ρ,Agree n ρ0 ρ∧∀ ρ',Agree (E4 n (.s e k xs ::cs)).2.2 ρ ρ'→
     u ::us=rvL ρ' (E4 n (.s e k xs ::cs)).1∧∀ i o,(E4 n (.s e k xs ::cs)).2.1.get i=some o→ORep B M ρ' w (ρ' i) o:=by
    intro ob cap hu ho
    obtain⟨ρ,ha,hρ⟩:=ih (n+2) (fun i=>if i=n then ob else if i=n+1 then some cap else ρ0 i)
    refine⟨ρ,fun i hi=> ?_,fun ρ' ha'=> ?_⟩
    ·rw [ha i (by omega)]
     show (if i=n then ob else if i=n+1 then some cap else ρ0 i)=ρ0 i
     rw [if_neg (by omega),if_neg (by omega)]
    ·obtain⟨h1,h2⟩:=hρ ρ' ha'
     have hle:=H9 cs (n+2)
     have hn:ρ' n=ob:=by
      rw [ha' n (by show n < (E4 (n+2) cs).2.2; omega),ha n (by omega)]
      simp
     have hk:ρ' (n+1)=some cap:=by
      rw [ha' (n+1) (by show n+1 < (E4 (n+2) cs).2.2; omega),ha (n+1) (by omega)]
      simp
     refine⟨?_,fun i o hi=> ?_⟩
     ·show u ::us=rvL ρ' (.slice (some ⟨n,0,some (n+1)⟩) xs.length 0 ::(E4 (n+2) cs).1)
      rw [rvL,← h1,hu]
      cases ob with
      | none=>simp [rv,rSl,hn]
      | some g=>simp [rv,rSl,hn,hk]
     ·change Heap.get ((n, .ints k xs) ::(E4 (n+2) cs).2.1) i=some o at hi
      rw [Heap.get_cons] at hi
      split at hi
      ·rename_i e'
       subst e'
       cases hi
       rw [hn]
       exact ho ρ'
      ·exact h2 i o hi
   rcases hc with ⟨rfl,rfl⟩ | ⟨g,cap,cs',t,fr,rfl,h2,h3⟩
   ·exact key none 0 rfl (fun ρ'=> .inl ⟨rfl,rfl⟩)
   ·exact key (some g) cap rfl (fun ρ'=> .inr ⟨g,cs',t,fr,rfl,h2,h3⟩)
  | o k xs off l=>
   have key:∀ (ob:Option Nat) (cap:Nat),(u=match ob with | none=> .slice none l 0 | some g=> .slice (some ⟨g,off,none⟩) l cap)→(∀ ρ',ORep B M ρ' w ob (.ints k xs))→∃ ρ,Agree n ρ0 ρ∧∀ ρ',Agree (E4 n (.o k xs off l ::cs)).2.2 ρ ρ'→
     u ::us=rvL ρ' (E4 n (.o k xs off l ::cs)).1∧∀ i o,(E4 n (.o k xs off l ::cs)).2.1.get i=some o→ORep B M ρ' w (ρ' i) o:=by
    intro ob cap hu ho
    obtain⟨ρ,ha,hρ⟩:=ih (n+2) (fun i=>if i=n then ob else if i=n+1 then some cap else ρ0 i)
    refine⟨ρ,fun i hi=> ?_,fun ρ' ha'=> ?_⟩
    ·rw [ha i (by omega)]
     show (if i=n then ob else if i=n+1 then some cap else ρ0 i)=ρ0 i
     rw [if_neg (by omega),if_neg (by omega)]
    ·obtain⟨h1,h2⟩:=hρ ρ' ha'
     have hle:=H9 cs (n+2)
     have hn:ρ' n=ob:=by
      rw [ha' n (by show n < (E4 (n+2) cs).2.2; omega),ha n (by omega)]
      simp
     have hk:ρ' (n+1)=some cap:=by
      rw [ha' (n+1) (by show n+1 < (E4 (n+2) cs).2.2; omega),ha (n+1) (by omega)]
      simp
     refine⟨?_,fun i o hi=> ?_⟩
     ·show u ::us=rvL ρ' (.slice (some ⟨n,off,some (n+1)⟩) l 0 ::(E4 (n+2) cs).1)
      rw [rvL,← h1,hu]
      cases ob with
      | none=>simp [rv,rSl,hn]
      | some g=>simp [rv,rSl,hn,hk]
     ·change Heap.get ((n, .ints k xs) ::(E4 (n+2) cs).2.1) i=some o at hi
      rw [Heap.get_cons] at hi
      split at hi
      ·rename_i e'
       subst e'
       cases hi
       rw [hn]
       exact ho ρ'
      ·exact h2 i o hi
   rcases hc with ⟨rfl,rfl,rfl,rfl⟩ | ⟨g,cap,cs',t,fr,rfl,h2,h3⟩
   ·exact key none 0 rfl (fun ρ'=> .inl ⟨rfl,rfl⟩)
   ·exact key (some g) cap rfl (fun ρ'=> .inr ⟨g,cs',t,fr,rfl,h2,h3⟩)
  | f g m sz off=>
   have key:∀ (ob:Option Nat) (cap:Nat),(u=match ob with | none=> .slice none m 0 | some b=> .slice (some ⟨b,off,none⟩) m cap)→(∀ ρ',ORep B M ρ' w ob (.fam g m sz off))→∃ ρ,Agree n ρ0 ρ∧∀ ρ',Agree (E4 n (.f g m sz off ::cs)).2.2 ρ ρ'→
     u ::us=rvL ρ' (E4 n (.f g m sz off ::cs)).1∧∀ i o,(E4 n (.f g m sz off ::cs)).2.1.get i=some o→ORep B M ρ' w (ρ' i) o:=by
    intro ob cap hu ho
    obtain⟨ρ,ha,hρ⟩:=ih (n+2) (fun i=>if i=n then ob else if i=n+1 then some cap else ρ0 i)
    refine⟨ρ,fun i hi=> ?_,fun ρ' ha'=> ?_⟩
    ·rw [ha i (by omega)]
     show (if i=n then ob else if i=n+1 then some cap else ρ0 i)=ρ0 i
     rw [if_neg (by omega),if_neg (by omega)]
    ·obtain⟨h1,h2⟩:=hρ ρ' ha'
     have hle:=H9 cs (n+2)
     have hn:ρ' n=ob:=by
      rw [ha' n (by show n < (E4 (n+2) cs).2.2; omega),ha n (by omega)]
      simp
     have hk:ρ' (n+1)=some cap:=by
      rw [ha' (n+1) (by show n+1 < (E4 (n+2) cs).2.2; omega),ha (n+1) (by omega)]
      simp
     refine⟨?_,fun i o hi=> ?_⟩
     ·show u ::us=rvL ρ' (.slice (some ⟨n,off,some (n+1)⟩) m 0 ::(E4 (n+2) cs).1)
      rw [rvL,← h1,hu]
      cases ob with
      | none=>simp [rv,rSl,hn]
      | some b=>simp [rv,rSl,hn,hk]
     ·change Heap.get ((n, .fam g m sz off) ::(E4 (n+2) cs).2.1) i=some o at hi
      rw [Heap.get_cons] at hi
      split at hi
      ·rename_i e'
       subst e'
       cases hi
       rw [hn]
       exact ho ρ'
      ·exact h2 i o hi
   rcases hc with ⟨rfl,rfl⟩ | ⟨b,cap,cs',t,fr,rfl,h2,h3⟩
   ·exact key none 0 rfl (fun ρ'=> .inl ⟨rfl,rfl⟩)
   ·exact key (some b) cap rfl (fun ρ'=> .inr ⟨b,cs',t,fr,rfl,h2,h3⟩)
def Arg.unpack:Arg→Value→Option (List Value)
 | .c _,v=>some [v]
 | .a l, .agg ⟨us⟩=>match Nat.beq us.length l.length with
  | true=>some us
  | false=>none
 | .a _,_=>none
def tW:List Arg→List Value→Option (List Value)
 | [],[] =>some []
 | a ::r,v ::vs=>match a.unpack v,tW r vs with
  | some us,some us'=>some (us++us')
  | _,_=>none
 | _,_=>none
def i0n (rs:List Arg) (v:Value):Option (List Value):=
 match rs with
 | [a] =>a.unpack v
 | rs=>match v with
  | .tuple ⟨vs⟩=>tW rs vs
  | _=>none
theorem nI {a:Arg} {v:Value} {us:List Value} (h:a.unpack v=some us) (ρ:Num):us.length=a.cells.length∧rv ρ v=a.pack (rvL ρ us):=by
 unfold Arg.unpack at h
 split at h
 ·cases h; exact⟨rfl,rfl⟩
 ·split at h
  case h_2=>cases h
  rename_i hl
  cases h
  exact⟨Nat.eq_of_beq_eq_true hl,by simp [rv,rvA,Arg.pack]⟩
 ·cases h
theorem O4 (ρ:Num) (l:List Value):(rvL ρ l).length=l.length:=by rw [d8,List.length_map]
theorem m1x (ρ:Num) (a b:List Value):rvL ρ (a++b)=rvL ρ a++rvL ρ b:=by rw [d8,d8,d8,List.map_append]
theorem gT (ρ:Num):∀ {rs:List Arg} {vs us:List Value},tW rs vs=some us→us.length=(n9 rs).length∧rvL ρ vs=F3 rs (rvL ρ us)
 | [],[],us,h=>by cases h; exact⟨rfl,rfl⟩
 | a ::r,v ::vs,us,h=>by
  unfold tW at h
  split at h
  case h_2=>cases h
  rename_i u1 u2 h1 h2
  cases h
  obtain⟨g1,g2⟩:=nI h1 ρ
  obtain⟨g3,g4⟩:=gT ρ h2
  refine⟨by simp [n9,g1,g3],?_⟩
  simp only [rvL,F3]
  rw [m1x,← g1,← O4 ρ u1,List.take_left,List.drop_left,g2,g4]
 | [],_ ::_,us,h=>by cases h
 | _ ::_,[],us,h=>by cases h
theorem a0c {rs:List Arg} {v:Value} {us:List Value} (h:i0n rs v=some us) (ρ:Num):us.length=(n9 rs).length∧rv ρ v=H3 (F3 rs (rvL ρ us)):=by
 unfold i0n at h
 split at h
 ·rename_i a
  obtain⟨h1,h2⟩:=nI h ρ
  refine⟨by simp [n9,h1],?_⟩
  rw [h2]
  simp only [F3,H3]
  rw [← h1,← O4 ρ us,List.take_length]
 ·rename_i hne
  split at h
  case h_2=>cases h
  rename_i vs
  obtain⟨h1,h2⟩:=gT ρ h
  refine⟨h1,?_⟩
  simp only [rv,rvA,h2]
  cases rs with
  | nil=>rfl
  | cons a r=>
   cases r with
   | nil=>exact absurd rfl (hne a)
   | cons a2 r2=>rfl
def y1c (h:Heap):Cel→Value→Option (List Nat×List Prop)
 | .v x,u=>match pureV u with
  | true=>some ([],[u=x])
  | false=>none
 | .s e k xs,u=>match u with
  | .slice none 0 0=>some ([],[xs=[]])
  | .slice (some ⟨id,0,some kk⟩) n 0=>match h.get id with
   | some (.row e' sz (.ints k' ys) kk')=>match Nat.beq e' e && Nat.beq sz 1 && Nat.beq kk kk' && decide (k'=k) with
    | true=>some ([id],[n=xs.length∧n≤ys.length∧ys.take n=xs])
    | false=>none
   | _=>none
  | .slice (some ⟨id,0,none⟩) n c=>match h.get id with
   | some (.cells cs e')=>match Nat.beq e' e,fC k cs with
    | true,some l=>some ([id],[n=xs.length∧n≤l.length∧l.take n=xs∧c=l.length∧c≤maxLen])
    | _,_=>none
   | _=>none
  | _=>none
 | .o _ _ _ _,_=>none
 | .f _ _ _ _,_=>none
def x1z (h:Heap):List Cel→List Value→Option (List Nat×List Prop)
 | [],[] =>some ([],[])
 | c ::cs,u ::us=>match y1c h c u,x1z h cs us with
  | some (i,l),some (i',l')=>some (i++i',l++l')
  | _,_=>none
 | _,_=>none
theorem n0n {P:Program} {w w':World} {ρ:Num} {h:Heap} (hS:Sim P w.heap.size (fun _=>False) ρ h w') {c:Cel} {u:Value} {ids:List Nat} {l:List Prop} (hd:y1c h c u=some (ids,l)) (hl:d5 l):
  i0p w w' c (rv ρ u)∧∀ g,blk (rv ρ u)=some g→∃ i∈ids,(∃ o,h.get i=some o∧o.rw=true)∧ρ i=some g:=by
 cases c with
 | v x=>
  simp only [y1c] at hd
  split at hd
  case h_2=>cases hd
  rename_i hp
  cases hd
  obtain rfl:u=x:=hl.1
  refine⟨⟨x7 ρ u hp,hp⟩,fun g hg=> ?_⟩
  rw [x7 ρ u hp] at hg
  unfold blk at hg
  split at hg
  ·simp [pureV] at hp
  ·cases hg
 | s e k xs=>
  simp only [y1c] at hd
  split at hd
  ·cases hd
   obtain rfl:xs=[] :=hl.1
   exact⟨.inl ⟨by simp [rv],rfl⟩,fun g hg=>by simp [rv,blk] at hg⟩
  ·rename_i id kk n
   split at hd
   case h_2=>cases hd
   rename_i e' sz k' ys kk' hget
   split at hd
   case h_2=>cases hd
   rename_i hc
   simp only [Bool.and_eq_true,Nat.beq_eq,decide_eq_true_eq] at hc
   obtain⟨⟨⟨rfl,rfl⟩,rfl⟩,rfl⟩:=hc
   cases hd
   obtain⟨h1,h2,h3⟩:=hl.1
   rcases hS.obj id _ hget with ⟨g1,g2⟩ | ⟨b,cap,cur,g1,g2,g3,g4,g5,g6,g7,g8⟩
   ·have hy:ys=[] :=by simpa [Row.list] using g2
    subst hy
    have hn:n=0:=by simpa using h2
    subst hn
    have hx:xs=[] :=by simpa using h3.symm
    subst hx
    exact⟨.inl ⟨by simp [rv,rSl,g1],rfl⟩,fun g hg=>by simp [rv,rSl,g1,blk] at hg⟩
   ·have e1:rvL ρ (ys.map (Value.int k'))=ys.map (Value.int k'):=rvL_pure _ _ (by rw [C2,List.all_eq_true]; intro x hx; obtain⟨y,_,rfl⟩:=List.mem_map.1 hx; rfl)
    simp only [Row.list,List.length_map,Nat.mul_one] at g6 g7 g8
    refine⟨.inr ⟨b,cap,cur,by simp [rv,rSl,g1,g2,h1],g4.elim (fun h=>h) False.elim,g3,g5,g6,by omega,?_⟩,fun g hg=>⟨id,List.mem_singleton.2 rfl,⟨_,hget,rfl⟩,?_⟩⟩
    ·rw [← h1,← h3,List.map_take,← e1,← g8,List.take_take,Nat.min_eq_left h2]
    ·simp [rv,rSl,g1,blk] at hg
     rw [g1,hg]
  ·rename_i id n c
   split at hd
   case h_2=>cases hd
   rename_i cs e' hget
   split at hd
   case h_2=>cases hd
   rename_i l' he ht
   have he:=Nat.eq_of_beq_eq_true he
   subst he
   cases hd
   obtain⟨h1,h2,h3,h4,h5⟩:=hl.1
   obtain⟨b,g1,g2,g3⟩:=hS.obj id _ hget
   have g3:w.heap.size≤b:=g3.elim (fun h=>h) (fun h=>h.elim)
   have hcs:=F5 ht
   have e1:rvL ρ cs=l'.map (Value.int k):=by rw [hcs]; exact rvL_pure _ _ (by rw [C2,List.all_eq_true]; intro x hx; obtain⟨y,_,rfl⟩:=List.mem_map.1 hx; rfl)
   rw [e1] at g2
   refine⟨.inr ⟨b,c,_,by simp [rv,rSl,m8,g1,h1],g3, .of g2,h5,by simp [h4],by omega,?_⟩,fun g hg=>⟨id,List.mem_singleton.2 rfl,⟨_,hget,rfl⟩,?_⟩⟩
   ·rw [← h1,← h3]
    simp [List.map_take]
   ·simp [rv,rSl,m8,g1,blk] at hg
    rw [g1,hg]
  ·cases hd
 | o k ys off n=>cases hd
 | f g m sz off=>cases hd
def k0f:List Nat→Bool
 | [] =>true
 | i ::r=> !(C8 i r) && k0f r
theorem j0z {i:Nat} :∀ {l:List Nat},C8 i l=false→i ∉ l
 | [],_,h=>by cases h
 | j ::r,h,hm=>by
  simp only [C8,Bool.or_eq_false_iff] at h
  rcases List.mem_cons.1 hm with rfl | hm
  ·simp at h
  ·exact j0z h.2 hm
theorem jK:∀ {l:List Nat},k0f l=true→l.Nodup
 | [],_=>List.nodup_nil
 | i ::r,h=>by
  simp only [k0f,Bool.and_eq_true,Bool.not_eq_true'] at h
  exact List.nodup_cons.2 ⟨j0z h.1,jK h.2⟩
theorem sS {P:Program} {w w':World} {ρ:Num} {h:Heap} (hS:Sim P w.heap.size (fun _=>False) ρ h w'):∀ {cs:List Cel} {us:List Value} {ids:List Nat} {l:List Prop},x1z h cs us=some (ids,l)→d5 l→ids.Nodup→
  All2 (i0p w w') cs (rvL ρ us)∧((rvL ρ us).filterMap blk).Nodup∧∀ g∈(rvL ρ us).filterMap blk,∃ i∈ids,(∃ o,h.get i=some o∧o.rw=true)∧ρ i=some g
 | [],[],ids,l,hd,_,_=>by cases hd; exact⟨.nil,List.nodup_nil,fun g hg=>by cases hg⟩
 | c ::cs,u ::us,ids,l,hd,hl,hn=>by
  unfold x1z at hd
  split at hd
  case h_2=>cases hd
  rename_i i1 l1 i2 l2 h1 h2
  cases hd
  obtain⟨hl1,hl2⟩:=(l6 _ _).1 hl
  obtain⟨n1,n2,n3⟩:=List.nodup_append.1 hn
  obtain⟨a1,a2⟩:=n0n hS h1 hl1
  obtain⟨b1,b2,b3⟩:=sS hS h2 hl2 n2
  refine⟨.cons a1 b1,?_,?_⟩
  ·simp only [rvL,List.filterMap_cons]
   split
   ·exact b2
   ·rename_i g hg
    refine List.nodup_cons.2 ⟨fun hm=> ?_,b2⟩
    obtain⟨i,hi,⟨o,ho,hr⟩,hb⟩:=a2 g hg
    obtain⟨j,hj,⟨o',ho',hr'⟩,hb'⟩:=b3 g hm
    exact hS.inj i j o o' ho hr ho' (n3 i hi j hj) (by rw [hb]; simp) (hb.trans hb'.symm)
  ·intro g hg
   simp only [rvL,List.filterMap_cons] at hg
   split at hg
   ·obtain⟨i,hi,hr⟩:=b3 g hg
    exact⟨i,List.mem_append_right _ hi,hr⟩
   ·rename_i g' hg'
    rcases List.mem_cons.1 hg with rfl | hg
    ·obtain⟨i,hi,hr⟩:=a2 g hg'
     exact⟨i,List.mem_append_left _ hi,hr⟩
    ·obtain⟨i,hi,hr⟩:=b3 g hg
     exact⟨i,List.mem_append_right _ hi,hr⟩
 | [],_ ::_,_,_,hd,_,_=>by cases hd
 | _ ::_,[],_,_,hd,_,_=>by cases hd
def n8 (X:Cx) (L:O3) (fuel f:Nat) (az rs:List Arg) (ds:List Bool):Option (List Prop):=
 match E4 X.P.globals.size (n9 az) with
 | (us,H,n)=>match k0a X L fuel f (F3 az us) H n ds with
  | none=>none
  | some r=>match i0n rs r.v with
   | none=>none
   | some us'=>match x1z r.h (n9 rs) us' with
    | none=>none
    | some (ids,l)=>match k0f ids with
     | true=>some (r.obs++l)
     | false=>none
theorem kH (ρ:Num):∀ (az:List Arg) (us:List Value),us.length=(n9 az).length→rvL ρ (F3 az us)=F3 az (rvL ρ us)
 | [],us,_=>rfl
 | a ::r,us,h=>by
  simp only [F3,rvL]
  have h:us.length=a.cells.length+(n9 r).length:=by simpa [n9] using h
  rw [kH ρ r (us.drop a.cells.length) (by rw [List.length_drop]; omega)]
  have e1:rvL ρ (us.drop a.cells.length)=(rvL ρ us).drop a.cells.length:=by rw [d8,d8,List.map_drop]
  have e2:rvL ρ (us.take a.cells.length)=(rvL ρ us).take a.cells.length:=by rw [d8,d8,List.map_take]
  rw [e1,← e2]
  congr 1
  cases a with
  | c x=>
   cases us with
   | nil=>simp [Arg.cells] at h; omega
   | cons u us=>simp [Arg.pack,Arg.cells,rvL]
  | a l=>simp [Arg.pack,rv,rvA]
theorem s0e {X:Cx} (hX:CxOk X X.J) (hng:ProgOk X.P) (L:O3) (fuel:Nat) (ds:List Bool) {f:FuncId} {az rs:List Arg} {l:List Prop} (h:n8 X L fuel f az rs ds=some l) (hl:d5 l):Sem X.P X.J f az rs:=by
 unfold n8 at h
 simp only at h
 split at h
 case h_1=>cases h
 rename_i r hev
 split at h
 case h_1=>cases h
 rename_i us' hun
 split at h
 case h_1=>cases h
 rename_i ids l' hdec
 split at h
 case h_2=>cases h
 rename_i hnd
 cases h
 obtain⟨hl1,hl2⟩:=(l6 _ _).1 hl
 refine⟨C6 hng hev,fun w us hI hA=> ?_⟩
 obtain⟨ρ,ha,hρ⟩:=r0m w.heap.size (fun _=>False) w (n9 az) us hA X.P.globals.size (fun i=>some i)
 have hp:Par X.P w.heap.size (fun _=>False):=⟨X.J.room w hI,fun _ _ h=>h⟩
 have hlen:(E4 X.P.globals.size (n9 az)).1.length=(n9 az).length:=by
  have:=congrArg List.length (hρ ρ (Agree.refl _ _)).1
  rw [O4] at this
  rw [← this,hA.length]
 have hS:∀ ρ',Agree (E4 X.P.globals.size (n9 az)).2.2 ρ ρ'→Sim X.P w.heap.size (fun _=>False) ρ' (E4 X.P.globals.size (n9 az)).2.1 w∧F3 az us=rvL ρ' (F3 az (E4 X.P.globals.size (n9 az)).1):=by
  intro ρ' ha'
  obtain⟨h1,h2⟩:=hρ ρ' ha'
  have hle:=H9 (n9 az) X.P.globals.size
  refine⟨⟨fun g hg=>by rw [ha' g (by omega),ha g hg],h2,fun i j o o' hi hr _ _=> ?_⟩,?_⟩
  ·rw [(Y5 _ _ _ _ hi).2.2] at hr
   cases hr
  ·rw [kH ρ' az _ hlen,← h1]
 refine (F2 hX hng.mixed hev hl1 hp (Nat.le_refl _) hI hS).2.mono fun e w' ⟨ρ1,v,_,he,hk,hfin⟩=> ?_
 obtain⟨hv,hsim⟩:=hfin ρ1 (Agree.refl _ _)
 obtain⟨_,hpack⟩:=a0c hun ρ1
 obtain⟨d1,d2,_⟩:=sS hsim hdec hl2 (jK hnd)
 exact⟨rvL ρ1 us',by rw [he,hv,hpack],hk.below,d1,d2⟩
theorem d9 {b:Base} (hb:BaseOk b) (k:Nat) (L:O3) (ds:List Bool) {f:FuncId} {az rs:List Arg} {l:List Prop} (h:n8 (b.cx k) L b.fuel f az rs ds=some l) (hl:d5 l):Sem b.P b.J f az rs:=by
 obtain⟨hX,hng⟩:=Base.cx_ok hb k
 have:=s0e hX hng L b.fuel ds h hl
 cases k <;> exact this
theorem Base.cxl_ok {b:Base} (hb:BaseOk b) (k:Nat):CxOk (b.cxl k) (b.cxl k).J∧ProgOk (b.cxl k).P:=by
 obtain⟨hX,hng⟩:=Base.cx_ok hb k
 exact⟨⟨hX.pc,hX.cl,hX.xt,hX.rd,hX.tabs,hX.ro⟩,hng⟩
theorem l9 {b:Base} (hb:BaseOk b) (k:Nat) (L:O3) (ds:List Bool) {f:FuncId} {az rs:List Arg} {l:List Prop} (h:n8 (b.cxl k) L b.fuel f az rs ds=some l) (hl:d5 l):Sem b.P b.J f az rs:=by
 obtain⟨hX,hng⟩:=Base.cxl_ok hb k
 have:=s0e hX hng L b.fuel ds h hl
 cases k <;> exact this
inductive CS where
 | v
 | s (e:TypeId) (k:IntKind)
 | o (k:IntKind)
inductive AS where
 | c (x:CS)
 | a (l:List CS)
def j1x (H:Heap) (k:IntKind) (x:Value):Option (List Int×List Prop):=
 match x with
 | .slice none 0 0=>some ([],[])
 | .slice (some ⟨id,0,some _⟩) n 0=>match H.get id with
  | some (.ints k' xs)=>match decide (k'=k) with
   | true=>some (xs,[n=xs.length])
   | false=>none
  | some (.row _ sz (.ints k' xs) _)=>match decide (k'=k) && Nat.beq sz 1 with
   | true=>some (xs.take n,[n≤xs.length])
   | false=>none
  | _=>none
 | .slice (some ⟨id,0,none⟩) n _=>match H.get id with
  | some (.cells cs _)=>match fC k cs with
   | some l=>some (l.take n,[n≤l.length])
   | none=>none
  | _=>none
 | _=>none
def y1e (H:Heap):CS→Value→Option (Cel×List Prop)
 | .v,x=>match pureV x with
  | true=>some (.v x,[])
  | false=>none
 | .s e k,x=>match j1x H k x with
  | some (xs,l)=>some (.s e k xs,l)
  | none=>none
 | .o k,x=>match x with
  | .slice (some ⟨id,off,some _⟩) n _=>match H.get id with
   | some (.row _ sz (.ints k' ys) _)=>match decide (k'=k) && Nat.beq sz 1 with
    | true=>some (.o k ys off n,[off+n≤ys.length])
    | false=>none
   | _=>none
  | _=>none
def h1a (H:Heap):List CS→List Value→Option (List Cel×List Prop)
 | [],[] =>some ([],[])
 | s ::ss,x ::xs=>match y1e H s x,h1a H ss xs with
  | some (c,l),some (cs,l')=>some (c ::cs,l++l')
  | _,_=>none
 | _,_=>none
def d2m (H:Heap):AS→Value→Option (Arg×List Prop)
 | .c s,x=>match y1e H s x with
  | some (c,l)=>some (.c c,l)
  | none=>none
 | .a ss, .agg ⟨xs⟩=>match h1a H ss xs with
  | some (cs,l)=>some (.a cs,l)
  | none=>none
 | .a _,_=>none
def y1a (H:Heap):List AS→List Value→Option (List Arg×List Prop)
 | [],[] =>some ([],[])
 | s ::ss,x ::xs=>match d2m H s x,y1a H ss xs with
  | some (c,l),some (cs,l')=>some (c ::cs,l++l')
  | _,_=>none
 | _,_=>none
theorem O1 (ρ:Num) (k:IntKind) (xs:List Int):rvL ρ (xs.map (Value.int k))=xs.map (Value.int k):=
 rvL_pure _ _ (by rw [C2,List.all_eq_true]; intro x hx; obtain⟨y,_,rfl⟩:=List.mem_map.1 hx; rfl)
theorem Y0 {xs:List Int} {n i:Nat} (h:i < n) (k:IntKind) (hi:i < xs.length):(xs.map (Value.int k))[i]? =some (.int k ((xs.take n).getD i 0)):=by
 simp [List.getD,h,hi]
theorem Z8 {P:Program} {B:Nat} {M:Nat→Prop} {ρ:Num} {H:Heap} {w:World} (hS:Sim P B M ρ H w) {e:TypeId} {k:IntKind} {x:Value} {xs:List Int} {l:List Prop} (h:j1x H k x=some (xs,l)) (hl:d5 l):CelIs w (.s e k xs) (rv ρ x):=by
 unfold j1x at h
 split at h
 ·cases h
  exact .inl ⟨by simp [rv],rfl⟩
 ·rename_i id kk n
  split at h
  ·rename_i k' ys hget
   split at h
   case h_2=>cases h
   rename_i hk
   have hk:=of_decide_eq_true hk
   subst hk
   cases h
   obtain rfl:n=xs.length:=hl.1
   rcases hS.obj id _ hget with ⟨g1,g2⟩ | ⟨b,cs,t,fr,g1,g2,g3⟩
   ·subst g2
    exact .inl ⟨by simp [rv,rSl,g1],rfl⟩
   ·obtain⟨c',q⟩:=aJ (off:=0) (sp:=some kk) (n:=xs.length) (c:=0) g1
    exact .inr ⟨b,c',cs,t,fr,q,g2,g3⟩
  ·rename_i e' sz k' ys kk' hget
   split at h
   case h_2=>cases h
   rename_i hc
   simp only [Bool.and_eq_true,Nat.beq_eq,decide_eq_true_eq] at hc
   obtain⟨rfl,rfl⟩:=hc
   cases h
   have hn:n≤ys.length:=hl.1
   rcases hS.obj id _ hget with ⟨g1,g2⟩ | ⟨b,cap,cur,g1,g2,⟨fr,g3,_⟩,g4,g5,g6,g7,g8⟩
   ·have hy:ys=[] :=by simpa [Row.list] using g2
    subst hy
    have hn:n=0:=by simpa using hn
    subst hn
    exact .inl ⟨by simp [rv,rSl,g1],rfl⟩
   ·obtain⟨c',q⟩:=aJ (off:=0) (sp:=some kk) (n:=n) (c:=0) g1
    have hlen:(ys.take n).length=n:=by rw [List.length_take,Nat.min_eq_left hn]
    refine .inr ⟨b,c',cur,e',fr,by rw [hlen]; exact q,g3,fun i hi=> ?_⟩
    rw [hlen] at hi
    simp only [Row.list] at g8
    rw [O1,List.length_map] at g8
    rw [← Y0 hi k' (by omega),← g8,List.getElem?_take,if_pos (by omega)]
    simp
  ·cases h
 ·rename_i id n c
  split at h
  case h_2=>cases h
  rename_i cs e' hget
  split at h
  case h_2=>cases h
  rename_i l' ht
  cases h
  have hn:n≤l'.length:=hl.1
  obtain⟨b,g1,g2,_⟩:=hS.obj id _ hget
  have hcs:=F5 ht
  subst hcs
  rw [O1] at g2
  have hlen:(l'.take n).length=n:=by rw [List.length_take,Nat.min_eq_left hn]
  refine .inr ⟨b,c,_,e',(0,0),by rw [hlen]; simp [rv,rSl,m8,g1],g2,fun i hi=> ?_⟩
  rw [hlen] at hi
  rw [← Y0 hi k (by omega)]
  simp
 ·cases h
theorem sQ {P:Program} {B:Nat} {M:Nat→Prop} {ρ:Num} {H:Heap} {w:World} (hS:Sim P B M ρ H w) {sh:CS} {x:Value} {c:Cel} {l:List Prop} (h:y1e H sh x=some (c,l)) (hl:d5 l):CelIs w c (rv ρ x):=by
 unfold y1e at h
 split at h
 ·split at h
  case h_2=>cases h
  rename_i hp
  cases h
  exact⟨x7 ρ x hp,hp⟩
 ·split at h
  case h_2=>cases h
  rename_i hs
  cases h
  exact Z8 hS hs hl
 ·split at h
  case h_2=>cases h
  rename_i id off kk n c
  split at h
  case h_2=>cases h
  rename_i e' sz k' ys kk' hget
  split at h
  case h_2=>cases h
  rename_i hc
  simp only [Bool.and_eq_true,Nat.beq_eq,decide_eq_true_eq] at hc
  obtain⟨rfl,rfl⟩:=hc
  cases h
  have hn:off+n≤ys.length:=hl.1
  rcases hS.obj id _ hget with ⟨g1,g2⟩ | ⟨b,cap,cur,g1,g2,⟨fr,g3,_⟩,g4,g5,g6,g7,g8⟩
  ·have hy:ys=[] :=by simpa [Row.list] using g2
   subst hy
   simp only [List.length_nil] at hn
   obtain rfl:off=0:=by omega
   obtain rfl:n=0:=by omega
   exact .inl ⟨by simp [rv,rSl,g1],rfl,rfl,rfl⟩
  ·obtain⟨c',q⟩:=aJ (off:=off) (sp:=some kk) (n:=n) (c:=c) g1
   refine .inr ⟨b,c',cur,e',fr,q,g3,fun i hi=> ?_⟩
   simp only [Row.list] at g8
   rw [O1,List.length_map] at g8
   have:=Y0 (xs:=ys) (n:=ys.length) hi k' hi
   rw [List.take_length,← g8,List.getElem?_take,if_pos hi] at this
   simpa using this
theorem lL {P:Program} {B:Nat} {M:Nat→Prop} {ρ:Num} {H:Heap} {w:World} (hS:Sim P B M ρ H w):∀ {sh:List CS} {xs:List Value} {cs:List Cel} {l:List Prop},h1a H sh xs=some (cs,l)→d5 l→All2 (CelIs w) cs (rvL ρ xs)
 | [],[],cs,l,h,_=>by cases h; exact .nil
 | s ::ss,x ::xs,cs,l,h,hl=>by
  unfold h1a at h
  split at h
  case h_2=>cases h
  rename_i c l1 cs' l2 h1 h2
  cases h
  obtain⟨hl1,hl2⟩:=(l6 _ _).1 hl
  exact .cons (sQ hS h1 hl1) (lL hS h2 hl2)
 | [],_ ::_,_,_,h,_=>by cases h
 | _ ::_,[],_,_,h,_=>by cases h
theorem sP {P:Program} {B:Nat} {M:Nat→Prop} {ρ:Num} {H:Heap} {w:World} (hS:Sim P B M ρ H w):∀ {sh:List AS} {xs:List Value} {az:List Arg} {l:List Prop},y1a H sh xs=some (az,l)→d5 l→∃ us,All2 (CelIs w) (n9 az) us∧rvL ρ xs=F3 az us
 | [],[],az,l,h,_=>by cases h; exact⟨[], .nil,rfl⟩
 | s ::ss,x ::xs,az,l,h,hl=>by
  unfold y1a at h
  split at h
  case h_2=>cases h
  rename_i a l1 az' l2 h1 h2
  cases h
  obtain⟨hl1,hl2⟩:=(l6 _ _).1 hl
  obtain⟨us,g1,g2⟩:=sP hS h2 hl2
  unfold d2m at h1
  split at h1
  ·split at h1
   case h_2=>cases h1
   rename_i c l0 hc
   cases h1
   refine⟨rv ρ x ::us, .cons (sQ hS hc hl1) g1,?_⟩
   simp [rvL,F3,Arg.cells,Arg.pack,g2]
  ·split at h1
   case h_2=>cases h1
   rename_i cs l0 hc
   cases h1
   have hcs:=lL hS hc hl1
   refine⟨rvL ρ _++us,hcs.append g1,?_⟩
   simp only [rvL,F3,Arg.cells,Arg.pack]
   rw [hcs.length,List.take_left,List.drop_left,g2]
   simp [rv,rvA]
  ·cases h1
 | [],_ ::_,_,_,h,_=>by cases h
 | _ ::_,[],_,_,h,_=>by cases h
def fO (n:Nat):List Cel→List Value×Heap×Nat
 | [] =>([],[],n)
 | .v x ::r=>match fO n r with
  | (vs,h,m)=>(x ::vs,h,m)
 | .s e k xs ::r=>match fO (n+2) r with
  | (vs,h,m)=>(.slice (some ⟨n,0,some (n+1)⟩) xs.length 0 ::vs,(n, .row e 1 (.ints k xs) (n+1)) ::h,m)
 | .o _ _ _ _ ::r=>fO n r
 | .f _ _ _ _ ::r=>fO n r
theorem bG:∀ (cs:List Cel) (n:Nat),n≤(fO n cs).2.2
 | [],n=>Nat.le_refl _
 | .v x ::r,n=>bG r n
 | .s e k xs ::r,n=>by
  have:=bG r (n+2)
  show n≤(fO (n+2) r).2.2
  omega
 | .o _ _ _ _ ::r,n=>bG r n
 | .f _ _ _ _ ::r,n=>bG r n
theorem l1r {B:Nat} (M:Nat→Prop) {w w':World} (hB:B≤w.heap.size):∀ (cs:List Cel) (us:List Value),All2 (i0p w w') cs us→(us.filterMap blk).Nodup→∀ (n:Nat) (ρ0:Num),∃ ρ,Agree n ρ0 ρ∧∀ ρ',Agree (fO n cs).2.2 ρ ρ'→
  us=rvL ρ' (fO n cs).1∧(∀ i o,(fO n cs).2.1.get i=some o→ORep B M ρ' w' (ρ' i) o∧(∀ g,ρ' i=some g→w.heap.size≤g∧g∈us.filterMap blk))∧∀ i j o o',(fO n cs).2.1.get i=some o→(fO n cs).2.1.get j=some o'→i≠j→ρ' i≠none→ρ' i≠ρ' j:=by
 intro cs us h
 induction h with
 | nil=>exact fun _ n ρ0=>⟨ρ0,Agree.refl _ _,fun ρ' _=>⟨rfl,(fun i o h=>by cases h),(fun i j o o' h=>by cases h)⟩⟩
 | @cons c u cs us hc _ ih=>
  intro hnd n ρ0
  have hnd2:(us.filterMap blk).Nodup:=by
   rw [List.filterMap_cons] at hnd
   split at hnd
   ·exact hnd
   ·exact (List.nodup_cons.1 hnd).2
  cases c with
  | v x=>
   obtain⟨rfl,hp⟩:=hc
   obtain⟨ρ,ha,hρ⟩:=ih hnd2 n ρ0
   refine⟨ρ,ha,fun ρ' ha'=> ?_⟩
   obtain⟨h1,h2,h3⟩:=hρ ρ' ha'
   refine⟨?_,fun i o hi=>⟨(h2 i o hi).1,fun g hg=>⟨((h2 i o hi).2 g hg).1,?_⟩⟩,h3⟩
   ·show u ::us=rvL ρ' (u ::(fO n cs).1)
    simp only [rvL,x7 ρ' u hp,← h1]
   ·have:=((h2 i o hi).2 g hg).2
    rw [List.filterMap_cons]
    split
    ·exact this
    ·exact List.mem_cons_of_mem _ this
  | s e k xs=>
   have key:∀ (ob:Option Nat) (cap:Nat),(u=match ob with | none=> .slice none xs.length 0 | some g=> .slice (some ⟨g,0,none⟩) xs.length cap)→(∀ ρ',ρ' (n+1)=some cap→ORep B M ρ' w' ob (.row e 1 (.ints k xs) (n+1)))→(∀ g,ob=some g→w.heap.size≤g)→∃ ρ,Agree n ρ0 ρ∧∀ ρ',Agree (fO n (.s e k xs ::cs)).2.2 ρ ρ'→
     u ::us=rvL ρ' (fO n (.s e k xs ::cs)).1∧(∀ i o,(fO n (.s e k xs ::cs)).2.1.get i=some o→ORep B M ρ' w' (ρ' i) o∧(∀ g,ρ' i=some g→w.heap.size≤g∧g∈(u ::us).filterMap blk))∧
     ∀ i j o o',(fO n (.s e k xs ::cs)).2.1.get i=some o→(fO n (.s e k xs ::cs)).2.1.get j=some o'→i≠j→ρ' i≠none→ρ' i≠ρ' j:=by
    intro ob cap hu ho hge
    obtain⟨ρ,ha,hρ⟩:=ih hnd2 (n+2) (fun i=>if i=n then ob else if i=n+1 then some cap else ρ0 i)
    refine⟨ρ,fun i hi=> ?_,fun ρ' ha'=> ?_⟩
    ·rw [ha i (by omega)]
     show (if i=n then ob else if i=n+1 then some cap else ρ0 i)=ρ0 i
     rw [if_neg (by omega),if_neg (by omega)]
    ·obtain⟨h1,h2,h3⟩:=hρ ρ' ha'
     have hle:=bG cs (n+2)
     have hn:ρ' n=ob:=by
      rw [ha' n (by show n < (fO (n+2) cs).2.2; omega),ha n (by omega)]
      simp
     have hk:ρ' (n+1)=some cap:=by
      rw [ha' (n+1) (by show n+1 < (fO (n+2) cs).2.2; omega),ha (n+1) (by omega)]
      simp
     have hbu:∀ g,ob=some g→blk u=some g:=fun g hg=>by rw [hu,hg]; rfl
     have hne:∀ j o',(fO (n+2) cs).2.1.get j=some o'→∀ g,ob=some g→ρ' j≠some g:=fun j o' hj g hg e=>by
      have hm:=((h2 j o' hj).2 g e).2
      rw [List.filterMap_cons,hbu g hg] at hnd
      exact (List.nodup_cons.1 hnd).1 hm
     refine⟨?_,fun i o hi=> ?_,fun i j o o' hi hj hij hnn=> ?_⟩
     ·show u ::us=rvL ρ' (.slice (some ⟨n,0,some (n+1)⟩) xs.length 0 ::(fO (n+2) cs).1)
      rw [rvL,← h1,hu]
      cases ob with
      | none=>simp [rv,rSl,hn]
      | some g=>simp [rv,rSl,hn,hk]
     ·change Heap.get ((n, .row e 1 (.ints k xs) (n+1)) ::(fO (n+2) cs).2.1) i=some o at hi
      rw [Heap.get_cons] at hi
      split at hi
      ·rename_i e'
       subst e'
       cases hi
       rw [hn]
       refine⟨ho ρ' hk,fun g hg=>⟨hge g hg,?_⟩⟩
       rw [List.filterMap_cons,hbu g hg]
       exact List.mem_cons_self ..
      ·refine⟨(h2 i o hi).1,fun g hg=>⟨((h2 i o hi).2 g hg).1,?_⟩⟩
       have:=((h2 i o hi).2 g hg).2
       rw [List.filterMap_cons]
       split
       ·exact this
       ·exact List.mem_cons_of_mem _ this
     ·change Heap.get ((n, .row e 1 (.ints k xs) (n+1)) ::(fO (n+2) cs).2.1) i=some o at hi
      change Heap.get ((n, .row e 1 (.ints k xs) (n+1)) ::(fO (n+2) cs).2.1) j=some o' at hj
      rw [Heap.get_cons] at hi hj
      split at hi <;> split at hj
      ·omega
      ·rename_i e1 _
       subst e1
       rw [hn] at hnn ⊢
       cases ob with
       | none=>exact absurd rfl hnn
       | some g=>exact fun e=>hne j o' hj g rfl e.symm
      ·rename_i _ e1
       subst e1
       rw [hn]
       cases ob with
       | none=>exact hnn
       | some g=>exact hne i o hi g rfl
      ·exact h3 i j o o' hi hj hij hnn
   rcases hc with ⟨rfl,rfl⟩ | ⟨g,cap,cur,rfl,h1,h2,h3,h4,h5,h6⟩
   ·exact key none 0 rfl (fun ρ' _=> .inl ⟨rfl,rfl⟩) (fun g hg=>by cases hg)
   ·refine key (some g) cap rfl (fun ρ' hk=> .inr ⟨g,cap,cur,rfl,hk,h2, .inl (by omega),h3,by omega,by simpa [Row.list] using h5,?_⟩) (fun g' hg=>by cases hg; exact h1)
    simp only [Row.list]
    rw [O1,List.length_map]
    exact h6
  | o k ys off n=>exact hc.elim
  | f g m sz off=>exact hc.elim
def y3 (sh:List AS) (spec:List Arg→Option (List Arg×List Prop)) (args:List Value) (H:Heap) (n:Nat) (ds:List Bool):Option CR:=
 match y1a H sh args with
 | none=>none
 | some (az,l)=>match spec az with
  | none=>none
  | some (rs,l')=>match fO n (n9 rs) with
   | (us,h,m)=>some ⟨H3 (F3 rs us),h++H,m,l++l',ds⟩
theorem Heap.get_app (F H:Heap) (i:Nat):Heap.get (F++H) i=match F.get i with | some o=>some o | none=>H.get i:=by
 induction F with
 | nil=>rfl
 | cons x F ih=>
  obtain⟨j,o⟩:=x
  rw [List.cons_append,Heap.get_cons,Heap.get_cons,ih]
  split <;> rfl
theorem o1h {P:Program} {B:Nat} {M:Nat→Prop} {ρ:Num} {F H:Heap} {w w':World} (hS:Sim P B M ρ H w) (hb:Below w.heap.size w w')
  (hF:∀ i o,F.get i=some o→ORep B M ρ w' (ρ i) o∧∀ g,ρ i=some g→w.heap.size≤g) (hinj:∀ i j o o',F.get i=some o→F.get j=some o'→i≠j→ρ i≠none→ρ i≠ρ j):Sim P B M ρ (F++H) w':=by
 have low:∀ k ok,H.get k=some ok→∀ g,ρ k=some g→g < w.heap.size:=fun k ok hk g hg=>by
  have:=hS.obj k ok hk
  rw [hg] at this
  exact this.lt
 have hold:=hS.below hb
 refine⟨hS.glob,fun i o hi=> ?_,fun i j o o' hi hr hj hij hnn=> ?_⟩
 ·rw [Heap.get_app] at hi
  split at hi
  ·rename_i h; cases hi; exact (hF i _ h).1
  ·exact hold.obj i o hi
 ·rw [Heap.get_app] at hi hj
  cases h1:F.get i with
  | some q=>
   cases h2:F.get j with
   | some q'=>exact hinj i j q q' h1 h2 hij hnn
   | none=>
    rw [h2] at hj
    intro e
    cases hq:ρ i with
    | none=>exact hnn hq
    | some g=>
     have a:=(hF i _ h1).2 g hq
     have b:=low j o' hj g (by rw [← e]; exact hq)
     omega
  | none=>
   rw [h1] at hi
   cases h2:F.get j with
   | some q'=>
    intro e
    cases hq:ρ i with
    | none=>exact hnn hq
    | some g=>
     have a:=(hF j _ h2).2 g (by rw [← e]; exact hq)
     have b:=low i o hi g hq
     omega
   | none=>
    rw [h2] at hj
    exact hold.inj i j o o' hi hr hj hij hnn
def aN (P:Program) (J:Inv P) (f:FuncId) (spec:List Value→Heap→Nat→List Bool→Option CR):Prop:=
 ∀ args H n ds r,spec args H n ds=some r→d5 r.obs→n≤r.n∧Enters P f∧∀ (B:Nat) (M:Nat→Prop) (ρ:Num) (w:World) (vs:List Value),Par P B M→B≤w.heap.size→J.I w→
  (∀ ρ',Agree n ρ ρ'→Sim P B M ρ' H w∧vs=rvL ρ' args)→
  Calls P f ⟨vs⟩ w fun e w'=>∃ ρ1 v,Agree n ρ ρ1∧e= .returned v∧Keeps B M w w'∧∀ ρ',Agree r.n ρ1 ρ'→v=rv ρ' r.v∧Sim P B M ρ' r.h w'
def l5 (f:FuncId) (spec:List Value→Heap→Nat→List Bool→Option CR) (t:kM):kM:=fun g args H n ds=>
 match Nat.beq g f with
 | true=>spec args H n ds
 | false=>t g args H n ds
theorem b8 {P:Program} {J:Inv P} {f:FuncId} {spec:List Value→Heap→Nat→List Bool→Option CR} {t:kM} (h:aN P J f spec) (ht:kY P J t):kY P J (l5 f spec t):=by
 intro g args H n ds r hs hl
 unfold l5 at hs
 split at hs
 ·rename_i hg
  have:=Nat.eq_of_beq_eq_true hg
  subst this
  exact h args H n ds r hs hl
 ·exact ht g args H n ds r hs hl
theorem f1x (ρ:Num) (l:List Value):rv ρ (H3 l)=H3 (rvL ρ l):=by
 cases l with
 | nil=>simp [H3,rv,rvA,rvL]
 | cons v l=>
  cases l with
  | nil=>simp [H3,rvL]
  | cons u l=>simp [H3,rv,rvA,rvL]
theorem g9 {P:Program} {J:Inv P} {f:FuncId} (sh:List AS) {spec:List Arg→Option (List Arg×List Prop)} (h:∀ az rs l,spec az=some (rs,l)→d5 l→Sem P J f az rs):aN P J f (y3 sh spec):=by
 intro args H n ds r hs hl
 unfold y3 at hs
 split at hs
 ·cases hs
 rename_i az l hpar
 split at hs
 ·cases hs
 rename_i rs l' hspec
 cases hs
 obtain⟨hl1,hl2⟩:=(l6 _ _).1 hl
 obtain⟨hent,hsem⟩:=h az rs l' hspec hl2
 refine⟨bG _ _,hent,fun B M ρ w vs hp hB hI hS=> ?_⟩
 obtain⟨hS0,hvs⟩:=hS ρ (Agree.refl _ _)
 obtain⟨us,hus,hpack⟩:=sP hS0 hpar hl1
 rw [hvs,hpack]
 refine (hsem w us hI hus).mono fun e w' ⟨us',he,hb,hnew,hnd⟩=> ?_
 obtain⟨ρ1,ha1,hρ1⟩:=l1r M hB _ _ hnew hnd n ρ
 refine⟨ρ1,_,ha1,he,Keeps.of_below hb hB,fun ρ' ha'=> ?_⟩
 obtain⟨q1,q2,q3⟩:=hρ1 ρ' ha'
 have hag:Agree n ρ ρ':=fun i hi=>by rw [ha' i (Nat.lt_of_lt_of_le hi (bG _ _)),ha1 i hi]
 refine⟨?_,o1h (hS ρ' hag).1 hb (fun i o hi=>⟨(q2 i o hi).1,fun g hg=>((q2 i o hi).2 g hg).1⟩) q3⟩
 show H3 (F3 rs us')=rv ρ' (H3 (F3 rs (fO n (n9 rs)).1))
 have hlen:(fO n (n9 rs)).1.length=(n9 rs).length:=by
  have:=congrArg List.length q1
  rw [O4] at this
  rw [← this,hnew.length]
 rw [f1x,kH ρ' rs _ hlen,← q1]
def m5 (X:Cx) (fuel f:Nat) (az:List Arg) (ds:List Bool):St:=
 match E4 X.P.globals.size (n9 az) with
 | (us,H,n)=>o8 X fuel f (F3 az us) H n ds
def itr {α:Type} (f:α→α):Nat→α→α
 | 0,a=>a
 | n+1,a=>f (itr f n a)
theorem v8 {X:Cx} {c:Code} (S:Nat→St) (n:Nat) {x:AX} (hx:x≠ .normal) {s':St} (h:∀ k,k < n→o9 X c (S k) .normal (S (k+1))) (ho:o9 X c (S n) x s'):a7 X c (S 0) x s':=
 A8 S (fun k=>n-k) (fun k=>k≤n) hx (fun k hk=>if hlt:k < n then .inl ⟨k+1,hlt,by omega,h k hlt⟩ else by
  obtain rfl:k=n:=by omega
  exact .inr ho) 0 (Nat.zero_le _)
end
end Go.Proofs.YtdgfhijnconaoaaGreatDoor.Ev
