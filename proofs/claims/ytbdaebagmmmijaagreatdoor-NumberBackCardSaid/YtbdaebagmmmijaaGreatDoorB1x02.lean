/-
 NumberBack: the whole text, the short text, the hexadecimal text and seventeen figures of any number are read as just that number; nine figures of a single are read as that single. No condition.
-/
import Derived.Test.YtbdaebagmmmijaaGreatDoorB1x01
import Derived.Scope
open Nat renaming beq->zO0,blt->zO1
open Go.Op renaming operands->zO5
open List renaming replicate->zO6
open Go.IntKind renaming i64->iI,u64->uI,u32->uJ
noncomputable section
namespace Go.Proofs
theorem j0i:type_of%@Bool.or_eq_false_iff:=@Bool.or_eq_false_iff
theorem K5:type_of%@List.getElem?_cons_zero:=@List.getElem?_cons_zero
theorem O0:type_of%@List.getElem?_cons_succ:=@List.getElem?_cons_succ
theorem zzA124:type_of%@List.mem_range:=@List.mem_range
theorem n6:type_of%@Nat.zero_le:=@Nat.zero_le
theorem jI:type_of%@Nat.le_of_not_lt:=@Nat.le_of_not_lt
theorem aR:type_of%@Nat.lt_trichotomy:=@Nat.lt_trichotomy
theorem pL:type_of%@Classical.byContradiction:=@Classical.byContradiction
theorem dF:type_of%@List.cons_append:=@List.cons_append
theorem zzA130:type_of%@List.mem_singleton:=@List.mem_singleton
theorem aX:type_of%@Nat.lt_succ_self:=@Nat.lt_succ_self
theorem zzA132:type_of%@UInt8.toNat_inj:=@UInt8.toNat_inj
theorem T7:type_of%@Option.some.inj:=@Option.some.inj
end Go.Proofs
namespace Go.Proofs.YtbdaebagmmmijaaGreatDoor.Ev
open Go Go.RowKit Go.Shelf
noncomputable section
def kvP:KV->Nat->Bool->Prop
 | [],_,_=>True
 | (j,b) ::r,i,want=>match zO0 j i with
  | true=>b=want
  | false=>kvP r i want
def F0 (kv:KV):List (Nat×Bool)->Prop
 | [] =>True
 | [(j,want)] =>kvP kv j want
 | (j,want) ::r=>kvP kv j want∧F0 kv r
def e0o (kv:KV) (conds:List (Nat×Bool)) (obs:List Prop):List Prop:=
 match conds with
 | [] =>obs
 | _=>obs.map fun p=>F0 kv conds->p
theorem x1t {kv:KV} {β:Nat->Bool} (h:KVok kv β) {j:Nat} {want:Bool} (hv:β j=want):kvP kv j want:=by
 induction kv with
 | nil=>trivial
 | cons p kv ih=>
  obtain⟨i,b⟩:=p
  obtain⟨h1,h2⟩:=h.cons
  simp only [kvP]
  split
  ·rename_i hb
   have:=S6 hb
   subst this
   rw [<- h1,hv]
  ·exact ih h2
theorem v0f {kv:KV} {β:Nat->Bool} (h:KVok kv β):∀ {l:List (Nat×Bool)},V β l->F0 kv l
 | [],_=>trivial
 | [(j,want)],hv=>x1t h (hv (j,want) (by simp))
 | (j,want) ::q ::r,hv=>by
  obtain⟨h1,h2⟩:=V_cons.1 hv
  exact⟨x1t h h1,v0f h h2⟩
theorem jA {kv:KV} {β:Nat->Bool} (h:KVok kv β) {conds:List (Nat×Bool)} (hv:V β conds) {obs:List Prop} (ho:d9 (e0o kv conds obs)):d9 obs:=by
 unfold e0o at ho
 split at ho
 ·exact ho
 ·rename_i hne
  clear hne
  induction obs with
  | nil=>trivial
  | cons p obs ih=>
   simp only [b1i,d9] at ho
   exact⟨ho.1 (v0f h hv),ih ho.2⟩
def a1y (ts:List TV) (d:Option Nat) (x:TV):List TV:=match d with
 | none=>ts
 | some d=>gU ts d x
def q1i (conds:List (Nat×Bool)) (v:Value):TV:=match conds with
 | [] => .v v
 | l=> .sp l v
def c1x (conds:List (Nat×Bool)):Bool:=match conds with
 | [] =>false
 | _=>true
def kvH:KV->Nat->Bool->Prop
 | [],_,_=>False
 | (j,b) ::r,i,want=>match zO0 j i with
  | true=>b=want
  | false=>kvH r i want
def y0s (kv:KV):List (Nat×Bool)->Prop
 | [] =>True
 | [(j,want)] =>kvH kv j want
 | (j,want) ::r=>kvH kv j want∧y0s kv r
theorem z1h {kv:KV} {β:Nat->Bool} (h:KVok kv β) {j:Nat} {want:Bool} (hv:kvH kv j want):β j=want:=by
 induction kv with
 | nil=>exact hv.elim
 | cons p kv ih=>
  obtain⟨i,b⟩:=p
  obtain⟨h1,h2⟩:=h.cons
  simp only [kvH] at hv
  split at hv
  ·rename_i hb
   have:=S6 hb
   subst this
   rw [h1,hv]
  ·exact ih h2 hv
theorem qZ {kv:KV} {β:Nat->Bool} (h:KVok kv β):∀ {l:List (Nat×Bool)},y0s kv l->V β l
 | [],_=>lK _
 | [(_,_)],hv=>V_cons.2 ⟨z1h h hv,lK _⟩
 | (_,_) ::_ ::_,hv=>V_cons.2 ⟨z1h h hv.1,qZ h hv.2⟩
def i0r (X:Cx) (q:Bool) (o:Oper) (conds:List (Nat×Bool)) (tmps:List TV) (H:Heap) (n:Nat) (ds:List Bool) (kv:KV):Option CR:=
 match E2 X (q || c1x conds) o conds tmps H n ds with
 | some ⟨v,h,n',ob,ds'⟩=>some ⟨v,h,n',e0o kv conds ob,ds'⟩
 | none=>match !q && c1x conds with
  | false=>none
  | true=>match E2 X false o conds tmps H n ds with
   | none=>none
   | some ⟨v,h,n',ob,ds'⟩=>some ⟨v,h,n',y0s kv conds ::ob,ds'⟩
theorem F5 {X:Cx} {q:Bool} {o:Oper} {conds:List (Nat×Bool)} {tmps:List TV} {H:Heap} {n:Nat} {ds:List Bool} {kv:KV} {r:CR} (h:i0r X q o conds tmps H n ds kv=some r):
  (∃ r0,E2 X (q || c1x conds) o conds tmps H n ds=some r0∧r=⟨r0.v,r0.h,r0.n,e0o kv conds r0.obs,r0.ds⟩)∨
  (q=false∧c1x conds=true∧E2 X true o conds tmps H n ds=none∧∃ r0,E2 X false o conds tmps H n ds=some r0∧r=⟨r0.v,r0.h,r0.n,y0s kv conds ::r0.obs,r0.ds⟩):=by
 unfold i0r at h
 split at h
 ·rename_i hb
  cases h
  exact .inl ⟨_,hb,rfl⟩
 ·rename_i hb
  split at h
  ·cases h
  ·rename_i hq
   simp only [x5,r0n] at hq
   split at h
   ·cases h
   ·rename_i hb2
    cases h
    rw [hq.1,hq.2] at hb
    exact .inr ⟨hq.1,hq.2,hb,_,hb2,rfl⟩
def O7 (X:Cx) (q:Bool) (os:List Oper) (o:Oper) (tmps:List TV) (H:Heap) (n:Nat) (ds:List Bool) (kv:KV):Option (List TV×KV×TV×CR):=
 match J9 X.gd os o tmps kv with
 | none=>none
 | some (true,tmps',kv',_)=>some (tmps',kv', .v undef,⟨undef,H,n,[],ds⟩)
 | some (false,tmps',kv',conds)=>
  match i0r X q o conds tmps' H n ds kv' with
  | none=>none
  | some ⟨v,h,n',ob,ds'⟩=>some (tmps',kv',q1i conds v,⟨v,h,n',ob,ds'⟩)
theorem B3 (X:Cx) (q:Bool) (os:List Oper) (o:Oper) (tmps:List TV) (H:Heap) (n:Nat) (ds:List Bool) (kv:KV):O7 X q os o tmps H n ds kv=
  match J9 X.gd os o tmps kv with
  | none=>none
  | some (true,tmps',kv',_)=>some (tmps',kv', .v undef,⟨undef,H,n,[],ds⟩)
  | some (false,tmps',kv',conds)=>
   match i0r X q o conds tmps' H n ds kv' with
   | none=>none
   | some r=>some (tmps',kv',q1i conds r.v,r):=by
 unfold O7
 cases J9 X.gd os o tmps kv with
 | none=>rfl
 | some p=>
  obtain⟨b,t,k,c⟩:=p
  cases b with
  | false=>
   dsimp only
   generalize i0r X _ o c t H n ds k=z
   cases z <;> rfl
  | true=>rfl
theorem O9 {X:Cx} {o:Oper} {conds:List (Nat×Bool)} {tmps:List TV} {H:Heap} {n:Nat} {ds:List Bool} {r:CR} (h:E2 X true o conds tmps H n ds=some r):r.h=H∧r.n=n∧r.ds=ds:=by
 unfold E2 at h
 split at h
 case h_1=>cases h
 cases hnc:p1w X (evo tmps conds) o.op with
 | some l=>rw [hnc] at h; cases h
 | none=>
 rw [hnc] at h
 dsimp only at h
 cases hsb:s2b X.P X.auto (evo tmps conds) o.op with
 | some eb=>rw [hsb] at h; cases h
 | none=>
 rw [hsb] at h
 dsimp only at h
 split at h
 ·split at h
  ·cases h
  ·split at h
   ·cases h; exact⟨rfl,rfl,rfl⟩
   ·cases h
 ·split at h
  ·split at h
   ·split at h
    ·cases h; exact⟨rfl,rfl,rfl⟩
    ·cases h
   ·cases h
   ·cases h
  ·split at h
   ·split at h
    ·cases h
    ·split at h
     ·cases h
     ·split at h
      ·cases h; exact⟨rfl,rfl,rfl⟩
      ·split at h
       ·cases h; exact⟨rfl,rfl,rfl⟩
       ·cases h
   ·cases h
  ·cases h
 ·split at h
  ·split at h
   ·cases h; exact⟨rfl,rfl,rfl⟩
   ·cases h
  ·cases h
theorem Q1 {os:List Oper} {o:Oper} {t:Nat} (h:Operand.tmp t∈o.op.operands.toList):t∈looks os o:=by
 unfold looks Oper.looksAt
 exact w0h _ (List.mem_filterMap.2 ⟨.tmp t,h,rfl⟩)
theorem S7 {X:Cx} {J:Inv X.P} (hX:CxOk X J) {q:Bool} {os:List Oper} {i:Nat} {o:Oper} (hi:os[i]? =some o) {tmps tmps':List TV} {H:Heap} {n:Nat} {ds:List Bool} {kv kv':KV} {tv:TV} {r:CR}
  (h:O7 X q os o tmps H n ds kv=some (tmps',kv',tv,r)) (hl:d9 r.obs)
  {B:Nat} {M:Nat->Prop} (hp:Par X.P B M) {ρ:Num} {Cβ:(Nat->Bool)->Prop} (hne:∃ β,Cβ β) (hCβ:∀ β,Cβ β->KVok kv' β) {a:Act} {w:World} (hB:B<=w.heap.size) (hI:J.I w)
  (hS:∀ ρ',Agree n ρ ρ'->Sim X.P B M ρ' H w) (hT:∀ ρ',Agree n ρ ρ'->∀ β,Cβ β->∀ t∈looks os o,E7 ρ' β (A1 tmps t) (a.tmps.getD t undef))
  {rb:Option Nat} {K:Act->World->Prop} {Q:Exit->Act->World->Prop}
  (hK:∀ v w' ρ1,Agree n ρ ρ1->n<=r.n->(∀ ρ',Agree r.n ρ1 ρ'->Sim X.P B M ρ' r.h w'∧∀ β,Cβ β->E7 ρ' β tv v)->Keeps B M w w'->
   (q=true->r.h=H∧r.ds=ds∧r.n=n∧Below w.heap.size w w'∧ρ1=ρ)->K (a.put o.dst v) w'):
  wpOpIn (Fl rb) 0 X.P ⟨os⟩ Q i K a w:=by
 have hoi:(⟨os⟩:Array Oper)[i]? =some o:=by simpa using hi
 unfold wpOpIn
 rw [hoi]
 simp only []
 obtain⟨β0,hβ0⟩:=hne
 rw [B3] at h
 split at h
 ·cases h
 ·
  rename_i tmps1 kv1 conds1 hg
  cases h
  have g:=C7 hg (hCβ β0 hβ0) (fun t ht _=>hT ρ (Agree.refl _ _) β0 hβ0 t ht)
  rw [a6 (by rw [g.2.1 rfl]; simp)]
  refine⟨kB,?_⟩
  exact hK undef w ρ (Agree.refl _ _) (d7 _) (fun ρ' ha=>⟨hS ρ' ha,fun β _=>(dP ρ').symm⟩) (Keeps.refl _ _ _) (fun _=>⟨rfl,rfl,rfl,X1 _ _,rfl⟩)
 ·rename_i tmps1 kv1 conds hg
  split at h
  ·cases h
  ·rename_i r1 hand
   cases h
   have g:∀ ρ',Agree n ρ ρ'->∀ β,Cβ β->_:=fun ρ' ha β hβ=>C7 hg (hCβ β hβ) (fun t ht _=>hT ρ' ha β hβ t ht)
   have hw:∀ β,Cβ β->(Region.wanted o (yielded ⟨os⟩ a.tmps)=true↔V β conds):=fun β hβ=>(g ρ (Agree.refl _ _) β hβ).2.2.1 rfl
   have run:∀ (q':Bool) (r0:CR),(q=true->q'=true)->r.v=r0.v->r.h=r0.h->r.n=r0.n->r.ds=r0.ds->E2 X q' o conds tmps' H n ds=some r0->d9 r0.obs->V β0 conds->
     (if Region.wanted o (yielded ⟨os⟩ a.tmps)=true then o.wpIn (Fl rb) 0 X.P a w K Q else (∀ f,o.about X.P w a.eval=some f->(Fl rb).fn f)∧K (a.put o.dst undef) w):=by
    intro q' r0 hqq e1 e2 e3 e4 hb hl0 hV
    have hwt:=(hw β0 hβ0).2 hV
    rw [b9 hwt]
    refine l0l hX hb hl0 hp (ρ:=ρ) (β:=β0) hV hB hI hS (fun ρ' ha t ht=> ?_) (fun v w' ρ1 ha hn hfin hk hq=> ?_)
    ·exact ((g ρ' ha β0 hβ0).2.2.2 t _).1 (hT ρ' ha β0 hβ0 t (Q1 ht))
    ·refine hK v w' ρ1 ha (by omega) (fun ρ' ha'=> ?_) hk (fun hq'=> ?_)
     ·rw [e3] at ha'
      rw [e2,e1]
      refine⟨(hfin ρ' ha').2,fun β hβ=> ?_⟩
      have hVβ:=(hw β hβ).1 hwt
      unfold q1i
      split
      ·exact (hfin ρ' ha').1
      ·exact⟨fun _=>(hfin ρ' ha').1,fun hn=>absurd hVβ hn⟩
     ·obtain⟨f1,f2,f3,f4,f5⟩:=hq (hqq hq')
      exact⟨e2.trans f1,e4.trans f2,e3.trans f3,f4,f5⟩
   rcases F5 hand with ⟨r0,hb,er⟩ | ⟨hq0,hc,_,r0,hb,er⟩
   ·subst er
    by_cases hV:V β0 conds
    ·exact run _ r0 (fun h=>by simp [h]) rfl rfl rfl rfl hb (jA (hCβ β0 hβ0) hV hl) hV
    ·have hwt:Region.wanted o (yielded ⟨os⟩ a.tmps)=false:=by
      cases hw':Region.wanted o (yielded ⟨os⟩ a.tmps)
      ·rfl
      ·exact absurd ((hw β0 hβ0).1 hw') hV
     have hcne:conds≠[] :=fun e=>by subst e; exact hV (lK _)
     have hq1:(q || c1x conds)=true:=by
      cases conds with
      | nil=>exact absurd rfl hcne
      | cons _ _=>simp [c1x]
     rw [hq1] at hb
     obtain⟨e1,e2,e3⟩:=O9 hb
     rw [a6 (by rw [hwt]; simp)]
     refine⟨kB,?_⟩
     refine hK undef w ρ (Agree.refl _ _) (by show n<=r0.n; omega) (fun ρ' ha=>⟨?_,fun β hβ=> ?_⟩) (Keeps.refl _ _ _) (fun _=>⟨e1,e3,e2,X1 _ _,rfl⟩)
     ·show Sim X.P B M ρ' r0.h w
      rw [e1]
      exact hS ρ' (by rw [show r0.n=n from e2] at ha; exact ha)
     ·unfold q1i
      split
      ·exact absurd rfl hcne
      ·refine⟨fun hv=> ?_,fun _=>rfl⟩
       have:=(hw β hβ).2 hv
       rw [hwt] at this
       cases this
   ·subst er
    exact run false r0 (fun h=>by rw [hq0] at h; cases h) rfl rfl rfl rfl hb hl.2 (qZ (hCβ β0 hβ0) hl.1)
theorem mA {auto:Bool} {os:List Oper} {o:Oper} {tmps tmps':List TV} {kv kv':KV} {sk:Bool} {conds:List (Nat×Bool)} (h:J9 auto os o tmps kv=some (sk,tmps',kv',conds))
  (hk:∃ β,KVok kv β):(∃ β,KVok kv' β)∧(∀ β,KVok kv' β->KVok kv β)∧tmps'.length=tmps.length:=by
 have new:∀ (j:Nat) (b:Bool),c1o kv j=false->∃ β,KVok ((j,b) ::kv) β:=by
  intro j b hj
  obtain⟨β,hβ⟩:=hk
  refine⟨fun i=>if i=j then b else β i,fun p hp=> ?_⟩
  rcases zzA84.1 hp with rfl | hp
  ·simp
  ·have hne:p.1≠j:=by
    intro e
    have:∀ (l:KV),p∈l->c1o l j=false->False:=by
     intro l
     induction l with
     | nil=>intro hp; cases hp
     | cons x l ih=>
      obtain⟨i,c⟩:=x
      intro hp hl
      simp only [c1o,j0i] at hl
      rcases zzA84.1 hp with rfl | hp
      ·simp only at e; subst e; simp at hl
      ·exact ih hp hl.2
    exact this kv hp hj
   simp [hne,hβ p hp]
 unfold J9 at h
 simp only [B5] at h
 split at h
 ·cases h; exact⟨hk,fun _ h=>h,rfl⟩
 ·split at h
  case h_1=>cases h
  split at h
  ·split at h
   ·split at h
    ·split at h <;> (cases h; exact⟨hk,fun _ h=>h,rfl⟩)
    ·cases h; exact⟨hk,fun _ h=>h,rfl⟩
    ·cases h
   ·split at h
    ·split at h
     ·rename_i hj; cases h; exact⟨new _ _ hj,fun _ h=>h.cons.2,by simp⟩
     ·cases h
    ·cases h
  ·split at h
   ·split at h
    ·rename_i hj; cases h; exact⟨new _ _ hj,fun _ h=>h.cons.2,by simp⟩
    ·cases h
   ·cases h
  ·split at h
   ·cases h; exact⟨hk,fun _ h=>h,rfl⟩
   ·cases h
  ·cases h
theorem N0 {X:Cx} {q:Bool} {os:List Oper} {o:Oper} {tmps tmps':List TV} {H:Heap} {n:Nat} {ds:List Bool} {kv kv':KV} {tv:TV} {r:CR}
  (h:O7 X q os o tmps H n ds kv=some (tmps',kv',tv,r)) (hk:∃ β,KVok kv β):(∃ β,KVok kv' β)∧(∀ β,KVok kv' β->KVok kv β)∧tmps'.length=tmps.length:=by
 rw [B3] at h
 split at h
 ·cases h
 ·rename_i hg; cases h; exact mA hg hk
 ·rename_i hg
  split at h
  ·cases h
  ·cases h; exact mA hg hk
theorem z0w {X:Cx} {q:Bool} {os:List Oper} {o:Oper} {tmps tmps':List TV} {H:Heap} {n:Nat} {ds:List Bool} {kv kv':KV} {tv:TV} {r:CR}
  (h:O7 X q os o tmps H n ds kv=some (tmps',kv',tv,r)) {ρ:Num} {β:Nat->Bool} (hk:KVok kv' β) {a:Array Value} (hT:∀ t∈looks os o,E7 ρ β (A1 tmps t) (a.getD t undef)) (t:Nat) (x:Value):
  E7 ρ β (A1 tmps t) x↔E7 ρ β (A1 tmps' t) x:=by
 rw [B3] at h
 split at h
 ·cases h
 ·rename_i hg; cases h; exact (C7 hg hk (fun t ht _=>hT t ht)).2.2.2 t x
 ·rename_i hg
  split at h
  ·cases h
  ·cases h; exact (C7 hg hk (fun t ht _=>hT t ht)).2.2.2 t x
def P5 (X:Cx) (q:Bool) (os:List Oper) (o:Oper) (s:St) (kv:KV):Option (St×KV):=
 match s with
 | ⟨tm,hp,nid,ds,obs,lp,rd,mk,bs⟩=>match O7 X q os o tm hp nid ds kv with
  | none=>none
  | some (tmps',kv',tv,⟨_,h,n,ob,ds'⟩)=>some (⟨a1y tmps' o.dst tv,h,n,ds',ob++obs,lp,rd,mk,bs⟩,kv')
theorem z8 (X:Cx) (q:Bool) (os:List Oper) (o:Oper) (s:St) (kv:KV):P5 X q os o s kv=
  match O7 X q os o s.tmps s.heap s.nid s.ds kv with
  | none=>none
  | some (tmps',kv',tv,r)=>some (⟨a1y tmps' o.dst tv,r.h,r.n,r.ds,r.obs++s.obs,s.lp,s.rd,s.mks,s.bs⟩,kv'):=by
 unfold P5
 dsimp only
 generalize O7 X q os o _ _ _ _ kv=z
 cases z <;> rfl
structure RepR (P:Program) (J:Inv P) (B:Nat) (M:Nat->Prop) (w0:Bas) (kv:KV) (s:St) (a:Act) (w:World):Prop where
 size:a.tmps.size=s.tmps.length
 defers:a.defers=w0.dfs
 base:B<=w.heap.size
 inv:J.I w
 keeps:Keeps B M w0.w w
 keys:∃ β,KVok kv β
 rep:∃ ρ,(w0.n<=s.nid∧Agree w0.n w0.ρ ρ)∧∀ ρ',Agree s.nid ρ ρ'->Sim P B M ρ' s.heap w∧∀ β,KVok kv β->∀ t,E7 ρ' β (A1 s.tmps t) (a.tmps.getD t undef)
theorem Y9 (a:Act) (d:Option Nat) (v:Value):(a.put d v).tmps.size=a.tmps.size:=by
 cases d <;> simp [Act.put]
theorem L7 (a:Act) (d:Option Nat) (v:Value):(a.put d v).defers=a.defers:=by
 cases d <;> simp [Act.put]
theorem Z3 (ts:List TV) (d:Option Nat) (x:TV):(a1y ts d x).length=ts.length:=by
 cases d <;> simp [a1y,B5]
theorem M9 (a:Act) (d:Option Nat) (v:Value) (t:Nat):(a.put d v).tmps.getD t undef=if d=some t∧t < a.tmps.size then v else a.tmps.getD t undef:=by
 cases d with
 | none=>simp [Act.put]
 | some d=>
  simp only [Act.put,L3]
  by_cases h:d=t
  ·subst h
   by_cases hl:d < a.tmps.size
   ·simp [hl]
   ·simp [hl]
  ·simp [h]
theorem R7 (ts:List TV) (d:Option Nat) (x:TV) (t:Nat):A1 (a1y ts d x) t=if d=some t∧t < ts.length then x else A1 ts t:=by
 cases d with
 | none=>simp [a1y]
 | some d=>
  simp only [a1y,B5,L3]
  by_cases h:d=t
  ·subst h
   by_cases hl:d < ts.length
   ·rw [N1 _ _ _ _ hl]; simp [hl]
   ·rw [fL (by omega)]; simp [hl]
  ·by_cases hl:d < ts.length
   ·rw [N1 _ _ _ _ hl]; simp [h]
   ·rw [fL (by omega)]; simp [h]
theorem bN {X:Cx} {J:Inv X.P} (hX:CxOk X J) {os:List Oper} {i:Nat} {o:Oper} (hi:os[i]? =some o) {q:Bool} {s s':St} {kv kv':KV} (h:P5 X q os o s kv=some (s',kv')) (hl:d9 s'.obs)
  {B:Nat} {M:Nat->Prop} (hp:Par X.P B M) {w0:Bas} {a:Act} {w:World} (hR:RepR X.P J B M w0 kv s a w) {rb:Option Nat} {K:Act->World->Prop} {Q:Exit->Act->World->Prop}
  (hK:∀ a' w',RepR X.P J B M w0 kv' s' a' w'->K a' w'):wpOpIn (Fl rb) 0 X.P ⟨os⟩ Q i K a w:=by
 rw [z8] at h
 split at h
 ·cases h
 rename_i tmps' kv1 tv r he
 cases h
 simp only [i6] at hl
 obtain⟨hex,hsub,hlen⟩:=N0 he hR.keys
 obtain⟨ρ,hρ0,hρ⟩:=hR.rep
 refine S7 hX hi he hl.1 hp (ρ:=ρ) (Cβ:=KVok kv') hex (fun _ h=>h) hR.base hR.inv (fun ρ' ha=>(hρ ρ' ha).1) (fun ρ' ha β hβ t _=>(hρ ρ' ha).2 β (hsub β hβ) t) (fun v w' ρ1 ha hn hfin hk _=>hK _ _ ?_)
 refine⟨by rw [Y9,Z3,hlen]; exact hR.size,by rw [L7]; exact hR.defers,x7 hR.base hk.size,J.keeps hp hk hR.inv,hR.keeps.trans hk,hex,ρ1,⟨x7 hρ0.1 hn,hρ0.2.trans ha hρ0.1⟩,fun ρ' ha'=>⟨(hfin ρ' ha').1,fun β hβ t=> ?_⟩⟩
 rw [M9,R7,hlen,hR.size]
 split
 ·exact (hfin ρ' ha').2 β hβ
 ·have ha0:Agree s.nid ρ ρ':=fun j hj=>(ha' j (E3 hj hn)).trans (ha j hj)
  have hTt:=fun t=>(hρ ρ' ha0).2 β (hsub β hβ) t
  exact (z0w he hβ (fun t _=>hTt t) t _).1 (hTt t)
def evN (X:Cx) (m:Nat) (os:List Oper) (s0:St):Nat->Option (St×KV)
 | 0=>some (s0,[])
 | i+1=>match evN X m os s0 i with
  | none=>none
  | some (s,kv)=>match p1r os i with
   | none=>none
   | some o=>P5 X (zO1 i m) os o s kv
theorem N6 {X:Cx} {m:Nat} {os:List Oper} {s0:St} {i:Nat} {s':St} {kv':KV} (h:evN X m os s0 (i+1)=some (s',kv')):
  ∃ s kv o,evN X m os s0 i=some (s,kv)∧os[i]? =some o∧P5 X (zO1 i m) os o s kv=some (s',kv'):=by
 simp only [evN,Z0] at h
 split at h
 ·cases h
 ·rename_i s kv hs
  split at h
  ·cases h
  ·rename_i o ho
   exact⟨s,kv,o,hs,ho,h⟩
theorem lW {X:Cx} {q:Bool} {os:List Oper} {o:Oper} {s s':St} {kv kv':KV} (h:P5 X q os o s kv=some (s',kv')) (hl:d9 s'.obs):d9 s.obs:=by
 rw [z8] at h
 split at h
 ·cases h
 ·cases h; exact ((i6 _ _).1 hl).2
theorem gC {X:Cx} {m:Nat} {os:List Oper} {s0:St} :∀ {j i:Nat} {si sj:St} {ki kj:KV},i<=j->evN X m os s0 i=some (si,ki)->evN X m os s0 j=some (sj,kj)->d9 sj.obs->d9 si.obs
 | 0,i,si,sj,ki,kj,hij,h1,h2,hl=>by
  obtain rfl:i=0:=by omega
  rw [h1] at h2; cases h2; exact hl
 | j+1,i,si,sj,ki,kj,hij,h1,h2,hl=>by
  by_cases e:i=j+1
  ·subst e; rw [h1] at h2; cases h2; exact hl
  ·obtain⟨s,kv,o,hs,_,ho⟩:=N6 h2
   exact gC (by omega) h1 hs (lW ho hl)
theorem jB {X:Cx} {m:Nat} {os:List Oper} {s0:St} :∀ {j i:Nat} {r:St×KV},i<=j->evN X m os s0 j=some r->∃ q,evN X m os s0 i=some q
 | 0,i,r,hij,h=>by
  obtain rfl:i=0:=by omega
  exact⟨r,h⟩
 | j+1,i,r,hij,h=>by
  by_cases e:i=j+1
  ·subst e; exact⟨r,h⟩
  ·obtain⟨s',kv'⟩:=r
   obtain⟨s,kv,o,hs,_,_⟩:=N6 h
   exact jB (by omega) hs
theorem e1s {X:Cx} {J:Inv X.P} (hX:CxOk X J) {m:Nat} {os:List Oper} {s0 sn:St} {kn:KV} {B:Nat} {M:Nat->Prop} (hp:Par X.P B M) {w0:Bas} {rb:Option Nat} {Q:Exit->Act->World->Prop} {n:Nat}
  (hn:evN X m os s0 n=some (sn,kn)) (hl:d9 sn.obs) (hQ:∀ a w,RepR X.P J B M w0 kn sn a w->Q .normal a w):
  ∀ (k i:Nat) (s:St) (kv:KV) (a:Act) (w:World),i+k=n->evN X m os s0 i=some (s,kv)->RepR X.P J B M w0 kv s a w->wpOpsIn (Fl rb) 0 X.P ⟨os⟩ Q (List.range' i k) a w:=by
 intro k
 induction k with
 | zero=>
  intro i s kv a w hik hs hR
  obtain rfl:i=n:=by omega
  rw [hs] at hn
  cases hn
  simp only [List.range'_zero,wpOpsIn]
  exact hQ a w hR
 | succ k ih=>
  intro i s kv a w hik hs hR
  rw [List.range'_succ,wpOpsIn_cons]
  obtain⟨q1,hq1⟩:=jB (i:=i+1) (by omega) hn
  obtain⟨s1,k1⟩:=q1
  obtain⟨s',kv',o,h1,h2,h3⟩:=N6 hq1
  rw [hs] at h1
  cases h1
  exact bN hX h2 h3 (gC (by omega) hq1 hn hl) hp hR (fun a' w' hR'=>ih (i+1) s1 k1 a' w' (by omega) hq1 hR')
def w0i:TV->TV
 | .v x=> .v x
 | .key _ [] b=> .v (.bool b)
 | _=> .unk
theorem l0b (ts:List TV) (t:Nat):A1 (ts.map w0i) t=w0i (A1 ts t):=by
 simp only [K1]
 rw [S8]
 cases ts[t]? <;> rfl
theorem sT {X:Cx} {m:Nat} {os:List Oper} {s0:St} :∀ {i:Nat} {s:St} {kv:KV},evN X m os s0 i=some (s,kv)->s.rd=s0.rd∧s.mks=s0.mks∧s.bs=s0.bs
 | 0,s,kv,h=>by simp only [evN] at h; cases h; exact⟨rfl,rfl,rfl⟩
 | i+1,s,kv,h=>by
  obtain⟨s1,k1,o,h1,_,h2⟩:=N6 h
  obtain⟨e1,e2,e3⟩:=sT h1
  rw [z8] at h2
  split at h2
  ·cases h2
  ·cases h2; exact⟨e1,e2,e3⟩
theorem Rep.toR {P:Program} {J:Inv P} {B:Nat} {M:Nat->Prop} {w0:Bas} {rb:Option Nat} {s:St} {a:Act} {w:World} (h:Rep P J B M w0 rb s a w):RepR P J B M ⟨w,s.nid,h.rep.choose,a.defers⟩ [] s a w:=by
 obtain⟨hρ0,hρ⟩:=h.rep.choose_spec
 generalize h.rep.choose=ρ at*
 refine⟨h.size,rfl,h.base,h.inv,Keeps.refl _ _ _,⟨fun _=>false,fun p hp=>by cases hp⟩,ρ,⟨d7 _,Agree.refl _ _⟩,fun ρ' ha=>⟨(hρ ρ' ha).1,fun β _ t=> ?_⟩⟩
 have:=(hρ ρ' ha).2.2 t
 have hp:=h.plain t
 generalize A1 s.tmps t=tv at*
 cases tv with
 | unk=>trivial
 | v y=>exact this y rfl
 | sp l y=>cases hp
 | key j l b=>cases hp
theorem RepR.clean {P:Program} {J:Inv P} {B:Nat} {M:Nat->Prop} {w0:Bas} {rb:Option Nat} {kv:KV} {s0 s:St} {a0 a:Act} {w1 w:World} (h0:Rep P J B M w0 rb s0 a0 w1) (h:RepR P J B M ⟨w1,s0.nid,h0.rep.choose,a0.defers⟩ kv s a w)
  (e1:s.rd=s0.rd) (e2:s.mks=s0.mks) (e3:s.bs=s0.bs):Rep P J B M w0 rb { s with tmps:=s.tmps.map w0i } a w:=by
 obtain⟨hρ0,hρ⟩:=h0.rep.choose_spec
 obtain⟨ρ2,hρ20,hρ2⟩:=h.rep
 have hdef:=h.defers
 have hkp:=h.keeps
 simp only at hρ20 hdef hkp
 generalize h0.rep.choose=ρ at*
 obtain⟨β,hβ⟩:=h.keys
 refine⟨by show w0.n=s.bs; rw [e3]; exact h0.low,fun t=> ?_,by simpa using h.size,h.base,h.inv,h0.keeps.trans hkp,ρ2,⟨x7 hρ0.1 hρ20.1,hρ0.2.trans hρ20.2 hρ0.1⟩,fun ρ' ha=>⟨(hρ2 ρ' ha).1,?_,fun t x hx=> ?_⟩⟩
 ·rw [l0b]
  generalize A1 s.tmps t=tv
  cases tv with
  | key j l b=>cases l <;> rfl
  | _=>rfl
 ·have g:=(hρ ρ' (fun i hi=>(ha i (E3 hi hρ20.1)).trans (hρ20.2 i hi))).2.1
  exact⟨by rw [hdef]; show _=s.mks.map _; rw [e2]; exact g.defers,by show rb=s.rd.bind ρ'; rw [e1]; exact g.round⟩
 have ht:=(hρ2 ρ' ha).2 β hβ t
 rw [l0b] at hx
 generalize A1 s.tmps t=tv at*
 cases tv with
 | unk=>cases hx
 | v y=>cases hx; exact ht
 | sp l y=>cases hx
 | key j l b=>
  cases l with
  | nil=>
   cases hx
   simp only [rv]
   exact ht.2.1 (lK β)
  | cons _ _=>cases hx
end
noncomputable section
def H9 (x:Nat):List Nat->Bool
 | [] =>false
 | y ::r=>zO0 x y || H9 x r
theorem memN_iff {x:Nat} :∀ {l:List Nat},H9 x l=true↔x∈l
 | [] =>by simp [H9]
 | y ::r=>by
  simp only [H9,kX,zzA84,memN_iff (l:=r),y8]
def m0e:List Edge->List Nat
 | [] =>[]
 | e ::r=>match Region.binds .any e with
  | true=>e.on ::m0e r
  | false=>m0e r
def m8 (o:Oper):List Nat:=m0e o.after.toList
theorem predsOf_iff {o:Oper} {k:Nat} :k∈m8 o↔∃ e∈o.after,Region.binds .any e=true∧e.on=k:=by
 unfold m8
 rw [show (∃ e∈o.after,Region.binds .any e=true∧e.on=k)↔∃ e∈o.after.toList,Region.binds .any e=true∧e.on=k by simp]
 induction o.after.toList with
 | nil=>simp [m0e]
 | cons e r ih=>
  simp only [m0e]
  split
  ·rename_i hb
   simp only [zzA84,ih]
   constructor
   ·rintro (h | ⟨x,hx,h1,h2⟩)
    ·exact⟨e, .inl rfl,hb,h.symm⟩
    ·exact⟨x, .inr hx,h1,h2⟩
   ·rintro ⟨x,rfl | hx,h1,h2⟩
    ·exact .inl h2.symm
    ·exact .inr ⟨x,hx,h1,h2⟩
  ·rename_i hb
   rw [ih]
   simp only [zzA84]
   constructor
   ·rintro ⟨x,hx,h1,h2⟩; exact⟨x, .inr hx,h1,h2⟩
   ·rintro ⟨x,rfl | hx,h1,h2⟩
    ·rw [hb] at h1; cases h1
    ·exact⟨x,hx,h1,h2⟩
def s1f (n:Nat):List Nat->Bool
 | [] =>true
 | x ::r=>zO1 x n && s1f n r
theorem a0t {n:Nat} :∀ {l:List Nat},s1f n l=true->∀ x∈l,x < n
 | [],_,x,hx=>by cases hx
 | y ::r,h,x,hx=>by
  simp only [s1f,x5,D1] at h
  rcases zzA84.1 hx with rfl | hx
  ·exact h.1
  ·exact a0t h.2 x hx
def vW:Nat->List Oper->Bool
 | _,[] =>true
 | i,o ::r=>s1f i (m8 o) && vW (i+1) r
theorem cF:∀ {r:List Oper} {i:Nat},vW i r=true->∀ k o,r[k]? =some o->∀ e∈m8 o,e < i+k
 | [],i,_,k,o,ho=>by simp at ho
 | x ::r,i,h,k,o,ho=>by
  simp only [vW,x5] at h
  cases k with
  | zero=>simp only [K5,L3] at ho; subst ho; exact a0t h.1
  | succ k=>
   simp only [O0] at ho
   intro e he
   have:=cF h.2 k o ho e he
   omega
def r2d (d:Nat):List Oper->Bool
 | [] =>false
 | o ::r=>(match o.dst with
  | some e=>zO0 d e
  | none=>false) || r2d d r
def h1w:List Oper->Bool
 | [] =>true
 | o ::r=>(match o.dst with
  | some d=> !r2d d r
  | none=>true) && h1w r
theorem mT {d:Nat} :∀ {r:List Oper},r2d d r=false->∀ (k:Nat) (o:Oper),r[k]? =some o->o.dst≠some d
 | [],_,k,o,ho=>by simp at ho
 | x ::r,h,k,o,ho=>by
  simp only [r2d,j0i] at h
  cases k with
  | zero=>
   simp only [K5,L3] at ho
   subst ho
   intro e
   rw [e] at h
   simp at h
  | succ k=>simp only [O0] at ho; exact mT h.2 k o ho
theorem mL:∀ {r:List Oper},h1w r=true->∀ (i k:Nat) (oi ok:Oper) (d:Nat),r[i]? =some oi->r[k]? =some ok->oi.dst=some d->ok.dst=some d->i=k
 | [],_,i,k,oi,ok,d,hi,_,_,_=>by simp at hi
 | x ::r,h,i,k,oi,ok,d,hi,hk,di,dk=>by
  simp only [h1w,x5] at h
  cases i with
  | zero=>
   cases k with
   | zero=>rfl
   | succ k=>
    simp only [K5,L3] at hi
    subst hi
    rw [di] at h
    simp only [r0n] at h
    simp only [O0] at hk
    exact absurd dk (mT h.1 k ok hk)
  | succ i=>
   cases k with
   | zero=>
    simp only [K5,L3] at hk
    subst hk
    rw [dk] at h
    simp only [r0n] at h
    simp only [O0] at hi
    exact absurd di (mT h.1 i oi hi)
   | succ k=>
    simp only [O0] at hi hk
    rw [mL h.2 i k oi ok d hi hk di dk]
def k0f (i:Nat) (pi:List Nat) (t:Nat):Nat->List Oper->Bool
 | _,[] =>true
 | k,o ::r=>(match o.dst with
  | some d=> !(zO0 d t) || zO0 k i || H9 k pi || H9 i (m8 o)
  | none=>true) && k0f i pi t (k+1) r
theorem sV {i:Nat} {pi:List Nat} {t:Nat} :∀ {r:List Oper} {k0:Nat},k0f i pi t k0 r=true->∀ k o,r[k]? =some o->o.dst=some t->k0+k=i∨(k0+k)∈pi∨i∈m8 o
 | [],k0,_,k,o,ho,_=>by simp at ho
 | x ::r,k0,h,k,o,ho,hd=>by
  simp only [k0f,x5] at h
  cases k with
  | zero=>
   simp only [K5,L3] at ho
   subst ho
   rw [hd] at h
   simp only [e0x,Bool.not_true,Bool.false_or,kX,y8,memN_iff] at h
   rcases h.1 with (h1 | h1) | h1
   ·exact .inl h1
   ·exact .inr (.inl h1)
   ·exact .inr (.inr h1)
  | succ k=>
   simp only [O0] at ho
   have:=sV h.2 k o ho hd
   rw [show k0+(k+1)=k0+1+k by omega]
   exact this
def c0y (hd:List Oper) (i:Nat) (pi:List Nat):List Nat->Bool
 | [] =>true
 | t ::r=>k0f i pi t 0 hd && c0y hd i pi r
theorem oQ {hd:List Oper} {i:Nat} {pi:List Nat} :∀ {l:List Nat},c0y hd i pi l=true->∀ t∈l,k0f i pi t 0 hd=true
 | [],_,t,ht=>by cases ht
 | x ::r,h,t,ht=>by
  simp only [c0y,x5] at h
  rcases zzA84.1 ht with rfl | ht
  ·exact h.1
  ·exact oQ h.2 t ht
def rO (os hd:List Oper):Nat->List Oper->Bool
 | _,[] =>true
 | i,o ::r=>c0y hd i (m8 o) (looks os o) && rO os hd (i+1) r
theorem bO {os hd:List Oper} :∀ {r:List Oper} {i0:Nat},rO os hd i0 r=true->∀ i o,r[i]? =some o->∀ t∈looks os o,∀ k ok,hd[k]? =some ok->ok.dst=some t->k=i0+i∨k∈m8 o∨(i0+i)∈m8 ok
 | [],i0,_,i,o,ho=>by simp at ho
 | x ::r,i0,h,i,o,ho=>by
  simp only [rO,x5] at h
  cases i with
  | zero=>
   simp only [K5,L3] at ho
   subst ho
   intro t ht k ok hk hd
   have:=sV (oQ h.1 t ht) k ok hk hd
   simpa using this
  | succ i=>
   simp only [O0] at ho
   intro t ht k ok hk hd
   have:=bO h.2 i o ho t ht k ok hk hd
   rw [show i0+(i+1)=i0+1+i by omega]
   exact this
def dI (i:Nat):List Oper->Bool
 | [] =>false
 | o ::r=>H9 i (m8 o) || dI i r
theorem kL {i:Nat} :∀ {r:List Oper},dI i r=true->∃ (k:Nat) (o:Oper),r[k]? =some o∧i∈m8 o
 | [],h=>by simp [dI] at h
 | x ::r,h=>by
  simp only [dI,kX,memN_iff] at h
  rcases h with h | h
  ·exact⟨0,x,by simp,h⟩
  ·obtain⟨k,o,h1,h2⟩:=kL h
   exact⟨k+1,o,by simpa using h1,h2⟩
def lE (hd:List Oper):Nat->Bool
 | 0=>true
 | i+1=>dI i hd && lE hd i
theorem jM {hd:List Oper} :∀ {m:Nat},lE hd m=true->∀ i < m,dI i hd=true
 | 0,_,i,hi=>by omega
 | m+1,h,i,hi=>by
  simp only [lE,x5] at h
  by_cases e:i=m
  ·subst e; exact h.1
  ·exact jM h.2 i (by omega)
def cQ:Nat->List Oper->Bool
 | _,[] =>true
 | t,o ::r=>H9 (t-1) (m8 o) && cQ (t+1) r
theorem V6:∀ {r:List Oper} {t:Nat},cQ t r=true->∀ k o,r[k]? =some o->(t+k-1)∈m8 o
 | [],t,_,k,o,ho=>by simp at ho
 | x ::r,t,h,k,o,ho=>by
  simp only [cQ,x5,memN_iff] at h
  cases k with
  | zero=>simp only [K5,L3] at ho; subst ho; exact h.1
  | succ k=>
   simp only [O0] at ho
   rw [show t+(k+1)-1=t+1+k-1 by omega]
   exact V6 h.2 k o ho
def u0u (os:List Oper) (m:Nat):Bool:=
 Nat.ble m os.length && vW 0 os && h1w (os.take m) && rO os (os.take m) 0 (os.take m) &&
 (zO0 m os.length || (lE (os.take (m+1)) m && cQ (m+1) (os.drop (m+1))))
structure Draws (os:List Oper) (m:Nat):Prop where
 le:m<=os.length
 fwd:∀ i o,os[i]? =some o->∀ e∈m8 o,e < i
 dup:∀ i k oi ok d,i < m->k < m->os[i]? =some oi->os[k]? =some ok->oi.dst=some d->ok.dst=some d->i=k
 slot:∀ i o,i < m->os[i]? =some o->∀ t∈looks os o,∀ k ok,k < m->os[k]? =some ok->ok.dst=some t->k=i∨k∈m8 o∨i∈m8 ok
 sink:m < os.length->∀ i < m,∃ j o,i < j∧j<=m∧os[j]? =some o∧i∈m8 o
 chain:∀ t o,m < t->os[t]? =some o->(t-1)∈m8 o
theorem N2 {os:List Oper} {m i:Nat} (h:i < m):(os.take m)[i]? =os[i]? :=by
 rw [T5,b9 h]
theorem tH {os:List Oper} {m:Nat} (h:u0u os m=true):Draws os m:=by
 simp only [u0u,x5,kX,M8,y8] at h
 obtain⟨⟨⟨⟨h1,h2⟩,h3⟩,h4⟩,h5⟩:=h
 have fwd:∀ i o,os[i]? =some o->∀ e∈m8 o,e < i:=fun i o ho e he=>by
  have:=cF h2 i o ho e he
  omega
 refine⟨h1,fwd,fun i k oi ok d hi hk hoi hok di dk=> ?_,fun i o hi ho t ht k ok hk hok hd=> ?_,fun hlt i hi=> ?_,fun t o ht ho=> ?_⟩
 ·exact mL h3 i k oi ok d ((N2 hi).trans hoi) ((N2 hk).trans hok) di dk
 ·have:=bO h4 i o ((N2 hi).trans ho) t ht k ok ((N2 hk).trans hok) hd
  simpa using this
 ·rcases h5 with h5 | h5
  ·omega
  ·obtain⟨k,o,hk,hin⟩:=kL (jM h5.1 i hi)
   have hkm:k < m+1:=by
    rcases E0 k (m+1) with h | h
    ·exact h
    ·rw [T5,a6 (by omega)] at hk; cases hk
   rw [N2 hkm] at hk
   exact⟨k,o,fwd k o hk i hin,by omega,hk,hin⟩
 ·rcases h5 with h5 | h5
  ·have:t < os.length:=(zzA1.1 ho).1
   omega
  ·have:=V6 h5.2 (t- (m+1)) o (by rw [S3]; rw [show m+1+(t- (m+1))=t by omega]; exact ho)
   rw [show m+1+(t- (m+1))-1=t-1 by omega] at this
   exact this
theorem nH {X:Cx} {os:List Oper} {o:Oper} {s s':St} {kv kv':KV} (h:P5 X true os o s kv=some (s',kv')):s'.heap=s.heap∧s'.nid=s.nid∧s'.ds=s.ds:=by
 rw [z8,B3] at h
 split at h
 ·cases h
 ·rename_i tmps' kv1 tv r he
  cases h
  split at he
  ·cases he
  ·cases he; exact⟨rfl,rfl,rfl⟩
  ·split at he
   ·cases he
   ·rename_i r0 hb
    cases he
    rcases F5 hb with ⟨r1,hb1,e⟩ | ⟨hq,_⟩
    ·subst e
     exact O9 (by simpa using hb1)
    ·cases hq
theorem rL {X:Cx} {m:Nat} {os:List Oper} {s0:St} :∀ {i:Nat} {s:St} {kv:KV},i<=m->evN X m os s0 i=some (s,kv)->s.heap=s0.heap∧s.nid=s0.nid∧s.ds=s0.ds
 | 0,s,kv,_,h=>by simp only [evN] at h; cases h; exact⟨rfl,rfl,rfl⟩
 | i+1,s,kv,hi,h=>by
  obtain⟨s1,k1,o,h1,_,h2⟩:=N6 h
  obtain⟨e1,e2,e3⟩:=rL (by omega) h1
  rw [show zO1 i m=true by simp [Nat.blt_eq]; omega] at h2
  obtain⟨g1,g2,g3⟩:=nH h2
  exact⟨g1.trans e1,g2.trans e2,g3.trans e3⟩
theorem aC {X:Cx} {m:Nat} {os:List Oper} {s0:St} :∀ {i:Nat} {s:St} {kv:KV},evN X m os s0 i=some (s,kv)->(∃ β,KVok kv β)∧s.tmps.length=s0.tmps.length
 | 0,s,kv,h=>by simp only [evN] at h; cases h; exact⟨⟨fun _=>false,fun p hp=>by cases hp⟩,rfl⟩
 | i+1,s,kv,h=>by
  obtain⟨s1,k1,o,h1,_,h2⟩:=N6 h
  obtain⟨e1,e2⟩:=aC h1
  rw [z8] at h2
  split at h2
  ·cases h2
  ·rename_i he
   cases h2
   obtain⟨g1,_,g3⟩:=N0 he e1
   exact⟨g1,by rw [Z3]; omega⟩
theorem d0b {X:Cx} {m:Nat} {os:List Oper} {s0:St} {β:Nat->Bool} :∀ {j i:Nat} {si sj:St} {ki kj:KV},i<=j->evN X m os s0 i=some (si,ki)->evN X m os s0 j=some (sj,kj)->KVok kj β->KVok ki β
 | 0,i,si,sj,ki,kj,hij,h1,h2,hk=>by
  obtain rfl:i=0:=by omega
  rw [h1] at h2; cases h2; exact hk
 | j+1,i,si,sj,ki,kj,hij,h1,h2,hk=>by
  by_cases e:i=j+1
  ·subst e; rw [h1] at h2; cases h2; exact hk
  ·obtain⟨s,kv,o,hs,_,ho⟩:=N6 h2
   rw [z8] at ho
   split at ho
   ·cases ho
   ·rename_i he
    cases ho
    exact d0b (by omega) h1 hs ((N0 he (aC hs).1).2.1 β hk)
theorem O2 {auto:Bool} {os:List Oper} {o:Oper} {tmps tmps':List TV} {kv kv':KV} {sk:Bool} {conds:List (Nat×Bool)} (h:J9 auto os o tmps kv=some (sk,tmps',kv',conds))
  {ρ:Num} {β:Nat->Bool} (hk:KVok kv' β) (t:Nat) (r:Value):E7 ρ β (A1 tmps t) r↔E7 ρ β (A1 tmps' t) r:=by
 unfold J9 at h
 simp only [B5] at h
 split at h
 ·cases h; exact Q8
 ·rename_i j want hg
  split at h
  case h_1=>cases h
  rename_i d hd
  split at h
  ·rename_i x hx
   split at h
   ·split at h
    ·split at h <;> (cases h; exact Q8)
    ·cases h; exact Q8
    ·cases h
   ·split at h
    ·rename_i b
     split at h
     case h_2=>cases h
     cases h
     obtain⟨hj,hkv⟩:=hk.cons
     by_cases hdt:d=t
     ·subst hdt
      by_cases hlen:d < tmps.length
      ·rw [N1 _ _ _ _ hlen,b9 rfl,hx]
       constructor
       ·intro ht; exact⟨hj,fun _=>by simpa [E7,rv] using ht,fun hn=>absurd (lK β) hn⟩
       ·intro ht; have:=ht.2.1 (lK β); simpa [E7,rv] using this
      ·rw [fL (by omega)]
     ·by_cases hlen:d < tmps.length
      ·rw [N1 _ _ _ _ hlen,a6 hdt]
      ·rw [fL (by omega)]
    ·cases h
  ·rename_i l x hx
   split at h
   case h_2=>cases h
   rename_i b
   split at h
   case h_2=>cases h
   cases h
   obtain⟨hj,hkv⟩:=hk.cons
   by_cases hdt:d=t
   ·subst hdt
    by_cases hlen:d < tmps.length
    ·rw [N1 _ _ _ _ hlen,b9 rfl,hx]
     simp only [E7,rv]
     constructor
     ·intro ht; exact⟨hj,ht.1,ht.2⟩
     ·intro ht; exact⟨ht.2.1,ht.2.2⟩
    ·rw [fL (by omega)]
   ·by_cases hlen:d < tmps.length
    ·rw [N1 _ _ _ _ hlen,a6 hdt]
    ·rw [fL (by omega)]
  ·split at h
   ·cases h; exact Q8
   ·cases h
  ·cases h
theorem tT {X:Cx} {q:Bool} {os:List Oper} {o:Oper} {s s':St} {kv kv':KV} (h:P5 X q os o s kv=some (s',kv')) {ρ:Num} {β:Nat->Bool} (hk:KVok kv' β) {t:Nat} (ht:o.dst≠some t) (r:Value):
  E7 ρ β (A1 s.tmps t) r↔E7 ρ β (A1 s'.tmps t) r:=by
 rw [z8] at h
 split at h
 ·cases h
 ·rename_i tmps' kv1 tv r0 he
  cases h
  show _↔E7 ρ β (A1 (a1y tmps' o.dst tv) t) r
  rw [R7,a6 (fun hh=>ht hh.1)]
  rw [B3] at he
  split at he
  ·cases he
  ·rename_i hg; cases he; exact O2 hg hk t r
  ·rename_i hg
   split at he
   ·cases he
   ·cases he; exact O2 hg hk t r
theorem jE {X:Cx} {m:Nat} {os:List Oper} {s0:St} {ρ:Num} {β:Nat->Bool} {t:Nat} {r:Value} :∀ {j i:Nat} {si sj:St} {ki kj:KV},i<=j->evN X m os s0 i=some (si,ki)->evN X m os s0 j=some (sj,kj)->KVok kj β->
  (∀ k o,i<=k->k < j->os[k]? =some o->o.dst≠some t)->(E7 ρ β (A1 si.tmps t) r↔E7 ρ β (A1 sj.tmps t) r)
 | 0,i,si,sj,ki,kj,hij,h1,h2,_,_=>by
  obtain rfl:i=0:=by omega
  rw [h1] at h2; cases h2; exact Q8
 | j+1,i,si,sj,ki,kj,hij,h1,h2,hk,hw=>by
  by_cases e:i=j+1
  ·subst e; rw [h1] at h2; cases h2; exact Q8
  ·obtain⟨s,kv,o,hs,hoj,ho⟩:=N6 h2
   have hkv:KVok kv β:=d0b (by omega) hs h2 hk
   exact (jE (by omega) h1 hs hkv (fun k o' hk1 hk2=>hw k o' hk1 (by omega))).trans (tT ho hk (hw j o (by omega) (by omega) hoj) r)
def Lst (listed:Array Bool) (i:Nat):Prop:=listed.getD i false=true
theorem t1o {listed:Array Bool} {i:Nat} :listed.getD i true=false↔i < listed.size∧¬ Lst listed i:=by
 unfold Lst
 rcases E0 i listed.size with h | h
 ·simp [h]
 ·simp [Array.getElem?_eq_none h]; omega
theorem s5 {listed:Array Bool} {i j:Nat} (hi:i < listed.size):Lst (listed.setIfInBounds i true) j↔j=i∨Lst listed j:=by
 unfold Lst
 by_cases h:i=j
 ·subst h; simp [hi]
 ·rw [getD_set_ne false h]
  constructor
  ·exact .inr
  ·rintro (rfl | h')
   ·exact absurd rfl h
   ·exact h'
theorem ready_iff {os:List Oper} {listed:Array Bool} {j:Nat} :j∈Region.ready .any ⟨os⟩ listed↔(j < listed.size∧¬ Lst listed j)∧∃ o,os[j]? =some o∧∀ e∈m8 o,Lst listed e:=by
 rw [mem_ready,t1o]
 simp only [List.getElem?_toArray]
 constructor
 ·rintro ⟨h1,o,ho,h⟩
  refine⟨h1,o,ho,fun e he=> ?_⟩
  obtain⟨x,hx,hb,rfl⟩:=predsOf_iff.1 he
  exact h x hx hb
 ·rintro ⟨h1,o,ho,h⟩
  exact⟨h1,o,ho,fun e he hb=>h e.on (predsOf_iff.2 ⟨e,he,hb,rfl⟩)⟩
def unl (listed:Array Bool) (n:Nat):Nat:=(List.range n).countP fun i=> !listed.getD i false
theorem h0y {p q:Nat->Bool} {x:Nat} :∀ {l:List Nat},(∀ y,q y=true->p y=true)->x∈l->p x=true->q x=false->l.countP q < l.countP p
 | [],_,hx,_,_=>by cases hx
 | y ::l,h,hx,hp,hq=>by
  have hle:l.countP q<=l.countP p:=List.countP_mono_left (fun z _ hz=>h z hz)
  rw [List.countP_cons,List.countP_cons]
  rcases zzA84.1 hx with rfl | hx
  ·simp [hp,hq]; omega
  ·have:=h0y h hx hp hq
   by_cases hqy:q y=true
   ·simp [hqy,h y hqy]; exact this
   ·simp [hqy]; split <;> omega
theorem g0e {listed:Array Bool} {n i:Nat} (hi:i < n) (hs:listed.size=n) (hl:¬ Lst listed i):unl (listed.setIfInBounds i true) n < unl listed n:=by
 refine h0y (x:=i) (fun y hy=> ?_) (zzA124.2 hi) ?_ ?_
 ·simp only [r0n] at hy ⊢
  cases h:listed.getD y false
  ·rfl
  ·have:Lst (listed.setIfInBounds i true) y:=(s5 (by omega)).2 (.inr h)
   rw [this] at hy; cases hy
 ·simp only [r0n]
  cases h:listed.getD i false
  ·rfl
  ·exact absurd h hl
 ·have:Lst (listed.setIfInBounds i true) i:=(s5 (by omega)).2 (.inl rfl)
  rw [this]; rfl
theorem rH {listed:Array Bool} {n i:Nat} (h:unl listed n=0) (hi:i < n):Lst listed i:=by
 unfold unl at h
 rw [List.countP_eq_zero] at h
 have:=h i (zzA124.2 hi)
 simpa [Lst] using this
structure Half (X:Cx) (J:Inv X.P) (B:Nat) (M:Nat->Prop) (w0:Bas) (os:List Oper) (m:Nat) (s0:St) (a0:Act) (ρ:Num) (sm:St) (km:KV) (listed:Array Bool) (a:Act) (w:World):Prop where
 size:listed.size=os.length
 closed:∀ j o,os[j]? =some o->Lst listed j->∀ e∈m8 o,Lst listed e
 late:∀ t,m<=t->¬ Lst listed t
 asize:a.tmps.size=s0.tmps.length
 defers:a.defers=w0.dfs
 base:B<=w.heap.size
 inv:J.I w
 keeps:Keeps B M w0.w w
 sim:∀ ρ',Agree s0.nid ρ ρ'->Sim X.P B M ρ' s0.heap w
 old:∀ t,(∀ k o,k < m->Lst listed k->os[k]? =some o->o.dst≠some t)->a.tmps.getD t undef=a0.tmps.getD t undef
 new:∀ k o d,k < m->Lst listed k->os[k]? =some o->o.dst=some d->∀ ρ',Agree s0.nid ρ ρ'->∀ β,KVok km β->E7 ρ' β (A1 sm.tmps d) (a.tmps.getD d undef)
theorem l1o {p:Nat->Prop} [DecidablePred p] :∀ (n:Nat),(∃ i,i < n∧p i)->∃ i,i < n∧p i∧∀ j,j < i->¬ p j
 | 0,h=>by obtain⟨i,hi,_⟩:=h; omega
 | n+1,h=>by
  by_cases hn:∃ i,i < n∧p i
  ·obtain⟨i,h1,h2,h3⟩:=l1o n hn
   exact⟨i,by omega,h2,h3⟩
  ·obtain⟨i,hi,hp⟩:=h
   have:i=n:=by
    rcases E0 i n with h | h
    ·exact absurd ⟨i,h,hp⟩ hn
    ·omega
   subst this
   exact⟨i,by omega,hp,fun j hj hpj=>hn ⟨j,hj,hpj⟩⟩
theorem t0o {X:Cx} {J:Inv X.P} {B:Nat} {M:Nat->Prop} {w0:Bas} {os:List Oper} {m:Nat} {s0:St} {a0:Act} {ρ:Num} {sm:St} {km:KV} (hm:evN X m os s0 m=some (sm,km))
  (h0:∀ ρ',Agree s0.nid ρ ρ'->∀ β t,E7 ρ' β (A1 s0.tmps t) (a0.tmps.getD t undef)) {listed:Array Bool} {a:Act} {w:World}
  (h:Half X J B M w0 os m s0 a0 ρ sm km listed a w) (hρ0:w0.n<=s0.nid∧Agree w0.n w0.ρ ρ) (hall:∀ k,k < m->Lst listed k):RepR X.P J B M w0 km sm a w:=by
 obtain⟨e1,e2,_⟩:=rL (d7 _) hm
 obtain⟨e4,e5⟩:=aC hm
 refine⟨by rw [e5]; exact h.asize,h.defers,h.base,h.inv,h.keeps,e4,ρ,by rw [e2]; exact hρ0,fun ρ' ha=> ?_⟩
 rw [e2] at ha
 rw [e1]
 refine⟨h.sim ρ' ha,fun β hβ t=> ?_⟩
 by_cases hw:∃ k o,k < m∧os[k]? =some o∧o.dst=some t
 ·obtain⟨k,o,hk,ho,hdst⟩:=hw
  exact h.new k o t hk (hall k hk) ho hdst ρ' ha β hβ
 ·have hno:∀ k o,k < m->os[k]? =some o->o.dst≠some t:=fun k o hk ho e=>hw ⟨k,o,hk,ho,e⟩
  rw [h.old t (fun k o hk _ ho=>hno k o hk ho)]
  exact (jE (n6 m) rfl hm hβ (fun k o _ hk ho=>hno k o hk ho)).1 (h0 ρ' ha β t)
theorem g1z {X:Cx} {J:Inv X.P} (hX:CxOk X J) {B:Nat} {M:Nat->Prop} (hp:Par X.P B M) {w0:Bas} {os:List Oper} {m:Nat} (hd:Draws os m) {s0:St} {a0:Act} {ρ:Num} {sm:St} {km:KV} (hm:evN X m os s0 m=some (sm,km)) (hl:d9 sm.obs)
  (h0:∀ ρ',Agree s0.nid ρ ρ'->∀ β t,E7 ρ' β (A1 s0.tmps t) (a0.tmps.getD t undef)) {listed:Array Bool} {a:Act} {w:World}
  (h:Half X J B M w0 os m s0 a0 ρ sm km listed a w) {i:Nat} (him:i < m) (hr:i∈Region.ready .any ⟨os⟩ listed) {rb:Option Nat} {K:Act->World->Prop} {Q:Exit->Act->World->Prop}
  (hK:∀ a' w',Half X J B M w0 os m s0 a0 ρ sm km (listed.setIfInBounds i true) a' w'->K a' w'):wpOpIn (Fl rb) 0 X.P ⟨os⟩ Q i K a w:=by
 obtain⟨⟨hi,hnl⟩,o,ho,hpre⟩:=ready_iff.1 hr
 obtain⟨⟨s1,k1⟩,hq1⟩:=jB (i:=i+1) (by omega) hm
 obtain⟨si,ki,o',hsi,ho',hop⟩:=N6 hq1
 rw [ho] at ho'
 cases ho'
 rw [show zO1 i m=true by simp [Nat.blt_eq]; exact him] at hop
 have hobs:=gC (by omega) hq1 hm hl
 obtain⟨e1,e2,e3⟩:=rL (by omega:i<=m) hsi
 obtain⟨_,elen⟩:=aC hsi
 rw [z8] at hop
 split at hop
 ·cases hop
 rename_i tmps' kv1 tv r he
 cases hop
 simp only [i6] at hobs
 have hsub:∀ β,KVok km β->KVok k1 β:=fun β hβ=>d0b (by omega) hq1 hm hβ
 have hsubi:∀ β,KVok km β->KVok ki β:=fun β hβ=>d0b (by omega) hsi hm hβ
 have hT:∀ ρ',Agree s0.nid ρ ρ'->∀ β,KVok km β->∀ t∈looks os o,E7 ρ' β (A1 si.tmps t) (a.tmps.getD t undef):=by
  intro ρ' ha β hβ t ht
  by_cases hw:∃ k ok,k < m∧Lst listed k∧os[k]? =some ok∧ok.dst=some t
  ·obtain⟨k,ok,hk,hlk,hok,hdk⟩:=hw
   have hki:k < i:=by
    rcases hd.slot i o him ho t ht k ok hk hok hdk with e | e | e
    ·subst e; exact absurd hlk hnl
    ·exact hd.fwd i o ho k e
    ·exact absurd (h.closed k ok hok hlk i e) hnl
   have:=h.new k ok t hk hlk hok hdk ρ' ha β hβ
   refine (jE (by omega:i<=m) hsi hm hβ (fun k2 o2 hk1 hk2 ho2 hd2=> ?_)).2 this
   have:=hd.dup k k2 ok o2 t hk hk2 hok ho2 hdk hd2
   omega
  ·have hno:∀ k ok,k < m->Lst listed k->os[k]? =some ok->ok.dst≠some t:=fun k ok hk hlk hok e=>hw ⟨k,ok,hk,hlk,hok,e⟩
   rw [h.old t hno]
   refine (jE (n6 i) rfl hsi (hsubi β hβ) (fun k ok _ hk hok hdk=> ?_)).1 (h0 ρ' ha β t)
   rcases hd.slot i o him ho t ht k ok (by omega) hok hdk with e | e | e
   ·omega
   ·exact hno k ok (by omega) (hpre k e) hok hdk
   ·have:=hd.fwd k ok hok i e
    omega
 refine S7 hX ho he hobs.1 hp (ρ:=ρ) (Cβ:=KVok km) (aC hm).1 hsub h.base h.inv (fun ρ' ha=>by rw [e1]; rw [e2] at ha; exact h.sim ρ' ha)
  (fun ρ' ha β hβ t ht=>hT ρ' (by rw [e2] at ha; exact ha) β hβ t ht) (fun v w' ρ1 ha hn hfin hk hq=>hK _ _ ?_)
 obtain⟨g1,g2,g3,g4,g5⟩:=hq rfl
 subst g5
 have hfin':∀ ρ',Agree s0.nid ρ1 ρ'->Sim X.P B M ρ' s0.heap w'∧∀ β,KVok km β->E7 ρ' β tv v:=fun ρ' ha'=>by
  have:=hfin ρ' (by rw [g3,e2]; exact ha')
  rw [g1,e1] at this
  exact this
 have hisz:i < listed.size:=hi
 refine⟨by simpa using h.size,fun j oj hoj hlj e he'=> ?_,fun t ht hlt'=> ?_,by rw [Y9]; exact h.asize,by rw [L7]; exact h.defers,x7 h.base hk.size,J.keeps hp hk h.inv,h.keeps.trans hk,
  fun ρ' ha'=>(hfin' ρ' ha').1,fun t hno=> ?_,fun k ok d hkm hlk hok hdk ρ' ha' β hβ=> ?_⟩
 ·rw [s5 hisz] at hlj ⊢
  rcases hlj with rfl | hlj
  ·rw [ho] at hoj; cases hoj
   exact .inr (hpre e he')
  ·exact .inr (h.closed j oj hoj hlj e he')
 ·rw [s5 hisz] at hlt'
  rcases hlt' with rfl | hlt'
  ·omega
  ·exact h.late t ht hlt'
 ·rw [M9,a6 (fun hh=>hno i o him ((s5 hisz).2 (.inl rfl)) ho hh.1)]
  exact h.old t (fun k ok hkm hlk hok=>hno k ok hkm ((s5 hisz).2 (.inr hlk)) hok)
 ·rw [M9]
  by_cases hki:k=i
  ·subst hki
   rw [ho] at hok
   cases hok
   by_cases hds:d < a.tmps.size
   ·rw [b9 ⟨hdk,hds⟩]
    have hslot:=jE (X:=X) (m:=m) (os:=os) (s0:=s0) (ρ:=ρ') (β:=β) (t:=d) (r:=v) (by omega:k+1<=m) hq1 hm hβ (fun k2 o2 hk1 hk2 ho2 hd2=>by
     have:=hd.dup k k2 o o2 d hkm hk2 ho ho2 hdk hd2
     omega)
    rw [<- hslot]
    show E7 ρ' β (A1 (a1y tmps' o.dst tv) d) v
    obtain⟨_,_,hl'⟩:=N0 he (aC hsi).1
    rw [R7,b9 ⟨hdk,by rw [hl',elen,<- h.asize]; exact hds⟩]
    exact (hfin' ρ' ha').2 β hβ
   ·
    have hnone:A1 sm.tmps d= .unk:=by
     simp only [K1]
     have e7:sm.tmps.length=s0.tmps.length:=(aC hm).2
     have e8:a.tmps.size=s0.tmps.length:=h.asize
     have e9:a.tmps.size<=d:=jI hds
     rw [k0s (by omega)]
    rw [hnone]
    trivial
  ·have hlk':Lst listed k:=by
    rcases (s5 hisz).1 hlk with e | e
    ·exact absurd e hki
    ·exact e
   have hne:o.dst≠some d:=fun e=>hki (hd.dup k i ok o d hkm him hok ho hdk e)
   rw [a6 (fun hh=>hne hh.1)]
   exact h.new k ok d hkm hlk' hok hdk ρ' ha' β hβ
theorem yO {X:Cx} {J:Inv X.P} (hX:CxOk X J) {B:Nat} {M:Nat->Prop} (hp:Par X.P B M) {w0:Bas} {os:List Oper} {m:Nat} (hd:Draws os m) {s0 sn:St} {kn:KV} (hn:evN X m os s0 os.length=some (sn,kn)) (hl:d9 sn.obs)
  {rb:Option Nat} {Q:Exit->Act->World->Prop} (hQ:∀ a w,RepR X.P J B M w0 kn sn a w->Q .normal a w):
  ∀ (fuel t:Nat) (listed:Array Bool) (s:St) (kv:KV) (a:Act) (w:World),m<=t->t<=os.length->os.length<=t+fuel->listed.size=os.length->(∀ j,j < os.length->(Lst listed j↔j < t))->
   evN X m os s0 t=some (s,kv)->RepR X.P J B M w0 kv s a w->wpAnyIn (Fl rb) 0 X.P .any ⟨os⟩ Q fuel listed a w:=by
 intro fuel
 induction fuel with
 | zero=>
  intro t listed s kv a w hmt htn hf hsz hL hs hR
  obtain rfl:t=os.length:=by omega
  rw [hs] at hn
  cases hn
  refine⟨?_,hQ a w hR⟩
  cases hr:Region.ready .any ⟨os⟩ listed with
  | nil=>rfl
  | cons x xs=>
   have:x∈Region.ready .any ⟨os⟩ listed:=by rw [hr]; simp
   obtain⟨⟨h1,h2⟩,_⟩:=ready_iff.1 this
   exact absurd ((hL x (by omega)).2 (by omega)) h2
 | succ fuel ih=>
  intro t listed s kv a w hmt htn hf hsz hL hs hR
  by_cases htl:t=os.length
  ·subst htl
   rw [hs] at hn
   cases hn
   refine⟨fun _=>hQ a w hR,fun i hi=> ?_⟩
   obtain⟨⟨h1,h2⟩,_⟩:=ready_iff.1 hi
   exact absurd ((hL i (by omega)).2 (by omega)) h2
  ·have htlt:t < os.length:=by omega
   obtain⟨ot,hot⟩:∃ o,os[t]? =some o:=⟨os[t],by simp [htlt]⟩
   refine⟨fun h0=> ?_,fun i hi=> ?_⟩
   ·exfalso
    have:t∈Region.ready .any ⟨os⟩ listed:=ready_iff.2 ⟨⟨by omega,fun h=>by have:=(hL t htlt).1 h; omega⟩,ot,hot,fun e he=>by
     have:=hd.fwd t ot hot e he
     exact (hL e (by omega)).2 this⟩
    rw [h0] at this
    cases this
   ·obtain⟨⟨h1,h2⟩,o,ho,hpre⟩:=ready_iff.1 hi
    have hit:i=t:=by
     rcases aR i t with h | h | h
     ·exact absurd ((hL i (by omega)).2 h) h2
     ·exact h
     ·exfalso
      have:=hpre (i-1) (hd.chain i o (by omega) ho)
      have:=(hL (i-1) (by omega)).1 this
      omega
    subst hit
    obtain⟨⟨s1,k1⟩,hq1⟩:=jB (i:=i+1) (by omega) hn
    obtain⟨s',kv',o',g1,g2,g3⟩:=N6 hq1
    rw [hs] at g1
    cases g1
    exact bN hX g2 g3 (gC (by omega) hq1 hn hl) hp hR (fun a' w' hR'=>ih (i+1) _ s1 k1 a' w' (by omega) (by omega) (by omega) (by simpa using hsz) (fun j hj=>by
     rw [s5 (by omega)]
     constructor
     ·rintro (rfl | h)
      ·omega
      ·have:=(hL j hj).1 h; omega
     ·intro h
      by_cases e:j=i
      ·exact .inl e
      ·exact .inr ((hL j hj).2 (by omega))) hq1 hR')
theorem yW {os:List Oper} {m:Nat} (hd:Draws os m) (hm:m < os.length) {listed:Array Bool} (hcl:∀ j o,os[j]? =some o->Lst listed j->∀ e∈m8 o,Lst listed e) {om:Oper} (hom:os[m]? =some om) (hpre:∀ e∈m8 om,Lst listed e):
  ∀ (g i:Nat),m-i<=g->i < m->Lst listed i:=by
 intro g
 induction g with
 | zero=>intro i h1 h2; omega
 | succ g ih=>
  intro i h1 h2
  obtain⟨j,o,hij,hjm,hoj,hin⟩:=hd.sink hm i h2
  by_cases e:j=m
  ·subst e
   rw [hom] at hoj
   cases hoj
   exact hpre i hin
  ·exact hcl j o hoj (ih j (by omega) (by omega)) i hin
theorem y0v {X:Cx} {J:Inv X.P} (hX:CxOk X J) {B:Nat} {M:Nat->Prop} (hp:Par X.P B M) {w0:Bas} {os:List Oper} {m:Nat} (hd:Draws os m) {s0 sn:St} {kn:KV} (hn:evN X m os s0 os.length=some (sn,kn)) (hl:d9 sn.obs)
  {a0:Act} {ρ:Num} {sm:St} {km:KV} (hm:evN X m os s0 m=some (sm,km)) (h0:∀ ρ',Agree s0.nid ρ ρ'->∀ β t,E7 ρ' β (A1 s0.tmps t) (a0.tmps.getD t undef)) (hρ0:w0.n<=s0.nid∧Agree w0.n w0.ρ ρ)
  {rb:Option Nat} {Q:Exit->Act->World->Prop} (hQ:∀ a w,RepR X.P J B M w0 kn sn a w->Q .normal a w):
  ∀ (fuel:Nat) (listed:Array Bool) (a:Act) (w:World),unl listed os.length<=fuel->Half X J B M w0 os m s0 a0 ρ sm km listed a w->wpAnyIn (Fl rb) 0 X.P .any ⟨os⟩ Q fuel listed a w:=by
 intro fuel
 induction fuel with
 | zero=>
  intro listed a w hf h
  have hall:∀ k,k < os.length->Lst listed k:=fun k hk=>rH (by omega) hk
  have hmn:m=os.length:=by
   rcases E0 m os.length with hlt | hge
   ·exact absurd (hall m hlt) (h.late m (d7 _))
   ·have:=hd.le; omega
  subst hmn
  exact yO hX hp hd hn hl hQ 0 os.length listed sm km a w (d7 _) (d7 _) (by omega) h.size (fun j hj=>⟨fun _=>hj,fun _=>hall j hj⟩) hm (t0o hm h0 h hρ0 (fun k hk=>hall k hk))
 | succ fuel ih=>
  intro listed a w hf h
  by_cases hall:∀ k,k < m->Lst listed k
  ·refine yO hX hp hd hn hl hQ (fuel+1) m listed sm km a w (d7 _) hd.le ?_ h.size (fun j hj=>⟨fun hlj=> ?_,fun hj'=>hall j hj'⟩) hm (t0o hm h0 h hρ0 hall)
   ·have hc:(List.range os.length).countP (fun i=> !Nat.blt i m)<=unl listed os.length:=by
     refine List.countP_mono_left (fun z _ hz=> ?_)
     simp only [r0n] at hz ⊢
     cases hzl:listed.getD z false
     ·rfl
     ·exfalso
      refine h.late z ?_ hzl
      rcases E0 z m with h' | h'
      ·rw [show zO1 z m=true by simp [Nat.blt_eq]; exact h'] at hz; cases hz
      ·exact h'
    have hc2:∀ n,(List.range n).countP (fun i=> !Nat.blt i m)=n-m:=by
     intro n
     induction n with
     | zero=>simp
     | succ n ihn=>
      rw [List.range_succ,List.countP_append,ihn]
      simp only [List.countP_cons,List.countP_nil,Q6,r0n]
      by_cases hnm:n < m
      ·rw [a6 (by rw [show zO1 n m=true by simp [Nat.blt_eq]; exact hnm]; simp)]; omega
      ·rw [b9 (by cases hb:zO1 n m; rfl; exact absurd (by simpa [Nat.blt_eq] using hb) hnm)]; omega
    rw [hc2] at hc
    omega
   ·rcases E0 j m with h' | h'
    ·exact h'
    ·exact absurd hlj (h.late j h')
  ·have hex:∃ k,k < m∧¬ Lst listed k:=by
    rcases Classical.em (∃ k,k < m∧¬ Lst listed k) with h' | h'
    ·exact h'
    ·exact absurd (fun k hk=>pL fun hn=>h' ⟨k,hk,hn⟩) hall
   refine⟨fun hr0=> ?_,fun i hi=> ?_⟩
   ·exfalso
    haveI:DecidablePred fun k=>¬ Lst listed k:=fun k=>Classical.propDecidable _
    obtain⟨k,hk,hnl,hmin⟩:=l1o m hex
    obtain⟨o,ho⟩:∃ o,os[k]? =some o:=⟨os[k]'(by have:=hd.le; omega),by have:=hd.le; simp [show k < os.length by omega]⟩
    have:k∈Region.ready .any ⟨os⟩ listed:=ready_iff.2 ⟨⟨by rw [h.size]; have:=hd.le; omega,hnl⟩,o,ho,fun e he=>pL fun hn=>hmin e (hd.fwd k o ho e he) hn⟩
    rw [hr0] at this
    cases this
   ·obtain⟨⟨h1,h2⟩,o,ho,hpre⟩:=ready_iff.1 hi
    have hin:i < os.length:=by rw [<- h.size]; exact h1
    have him:i < m:=by
     rcases aR i m with h' | h' | h'
     ·exact h'
     ·subst h'
      obtain⟨k,hk,hnk⟩:=hex
      exact absurd (yW hd hin h.closed ho hpre (i-k) k (d7 _) hk) hnk
     ·exact absurd (hpre (i-1) (hd.chain i o h' ho)) (h.late (i-1) (by omega))
    refine g1z hX hp hd hm (gC hd.le hm hn hl) h0 h him hi (fun a' w' h'=>ih _ a' w' ?_ h')
    have:=g0e hin h.size h2
    omega
end
noncomputable section
abbrev Ren:=List (Nat×Nat)
def Ren.to:Ren->Nat->Nat
 | [],i=>i
 | (j,k) ::r,i=>match zO0 j i with
  | true=>k
  | false=>Ren.to r i
def x2e (σ:Ren):Fn->Fn
 | .yield l=> .yield (σ.to l)
 | f=>f
mutual
def rn (σ:Ren):Value->Value
 | .pointer (some a)=> .pointer (some { a with block:=σ.to a.block })
 | .slice (some ⟨j,off,none⟩) n c=> .slice (some ⟨σ.to j,off,none⟩) n c
 | .slice (some ⟨j,off,some k⟩) n c=> .slice (some ⟨σ.to j,off,some (σ.to k)⟩) n c
 | .map (some r)=> .map (some (σ.to r))
 | .func fn f c=> .func (x2e σ fn) (rnA σ f) (rnA σ c)
 | .iface t v=> .iface t (rn σ v)
 | .agg cs=> .agg (rnA σ cs)
 | .tuple vs=> .tuple (rnA σ vs)
 | .bool b=> .bool b
 | .int k n=> .int k n
 | .float k n=> .float k n
 | .complex k a b=> .complex k a b
 | .string s=> .string s
 | .pointer none=> .pointer none
 | .slice none n c=> .slice none n c
 | .map none=> .map none
 | .chan r=> .chan r
 | .nilFunc=> .nilFunc
 | .nilIface=> .nilIface
def rnA (σ:Ren):Array Value->Array Value
 | ⟨l⟩=>⟨rnL σ l⟩
def rnL (σ:Ren):List Value->List Value
 | [] =>[]
 | v ::l=>rn σ v ::rnL σ l
end
theorem mI (σ:Ren):∀ l:List Value,(rnL σ l).length=l.length
 | [] =>by simp [rnL]
 | v ::l=>by simp [rnL,mI σ l]
theorem l2a (ρ:Num) (σ:Ren) (f:Fn):rFn ρ (x2e σ f)=rFn (fun i=>ρ (σ.to i)) f:=by
 cases f <;> rfl
mutual
def noE:Value->Bool
 | .chan (some _)=>false
 | .complex _ _ _=>false
 | .func _ f c=>noEA f && noEA c
 | .iface _ v=>noE v
 | .agg cs=>noEA cs
 | .tuple vs=>noEA vs
 | _=>true
def noEA:Array Value->Bool
 | ⟨l⟩=>noEL l
def noEL:List Value->Bool
 | [] =>true
 | v ::l=>noE v && noEL l
end
mutual
theorem b2f (ρ:Num) (σ:Ren):∀ v:Value,noE v=true->rv ρ (rn σ v)=rv (fun i=>ρ (σ.to i)) v
 | .pointer (some a),_=>by simp [rv,rn,r8]
 | .slice (some ⟨j,off,none⟩) n c,_=>by simp [rv,rn,rSl,r8]
 | .slice (some ⟨j,off,some k⟩) n c,_=>by simp [rv,rn,rSl]
 | .map (some r),_=>by simp [rv,rn]
 | .func fn f c,h=>by simp only [noE,x5] at h; simp only [rv,rn,l2a,rvA_rn ρ σ f h.1,rvA_rn ρ σ c h.2]
 | .iface t v,h=>by simp only [noE] at h; simp only [rv,rn,b2f ρ σ v h]
 | .agg cs,h=>by simp only [noE] at h; simp only [rv,rn,rvA_rn ρ σ cs h]
 | .tuple vs,h=>by simp only [noE] at h; simp only [rv,rn,rvA_rn ρ σ vs h]
 | .bool _,_=>by simp only [rv,rn]
 | .int _ _,_=>by simp only [rv,rn]
 | .float _ _,_=>by simp only [rv,rn]
 | .complex _ _ _,h=>by simp only [noE] at h; cases h
 | .string _,_=>by simp only [rv,rn]
 | .pointer none,_=>by simp only [rv,rn]
 | .slice none _ _,_=>by simp only [rv,rn]
 | .map none,_=>by simp only [rv,rn]
 | .chan none,_=>by simp only [rv,rn]
 | .chan (some _),h=>by simp only [noE] at h; cases h
 | .nilFunc,_=>by simp only [rv,rn]
 | .nilIface,_=>by simp only [rv,rn]
theorem rvA_rn (ρ:Num) (σ:Ren):∀ v:Array Value,noEA v=true->rvA ρ (rnA σ v)=rvA (fun i=>ρ (σ.to i)) v
 | ⟨l⟩,h=>by simp only [noEA] at h; simp only [rvA,rnA,rvL_rn ρ σ l h]
theorem rvL_rn (ρ:Num) (σ:Ren):∀ v:List Value,noEL v=true->rvL ρ (rnL σ v)=rvL (fun i=>ρ (σ.to i)) v
 | [],_=>by simp only [rvL,rnL]
 | v ::l,h=>by simp only [noEL,x5] at h; simp only [rvL,rnL,b2f ρ σ v h.1,rvL_rn ρ σ l h.2]
end
def eU:Op->Bool
 | .alloc _=>true
 | .box _ _=>true
 | .buildSlice _ _ _=>true
 | _=>false
theorem w1k {P:Program} {auto:Bool} {ev:Operand->Option Value} {o:Oper} {n:Nat} {ds:List Bool} {r:R} (hlay:eU o.op=true) (h:x0g P auto ev o [] n ds=some r):
  ∃ ob,r.h=[(n,ob)] ∧r.obs=[] ∧r.ds=ds∧∀ H,x0g P auto ev o H n ds=some ⟨r.v,(n,ob) ::H,[],ds⟩:=by
 unfold x0g at h ⊢
 cases ho:o.op with
 | alloc t=>
  rw [ho] at h
  simp only at h ⊢
  split at h
  ·rename_i z hz; cases h; exact⟨_,rfl,rfl,rfl,fun _=>rfl⟩
  ·cases h
 | box t x=>
  rw [ho] at h
  simp only at h ⊢
  split at h
  ·rename_i z hz; cases h; exact⟨_,rfl,rfl,rfl,fun _=>rfl⟩
  ·cases h
 | buildSlice t len ps=>
  rw [ho] at h
  simp only at h ⊢
  split at h
  ·rename_i l hl
   split at h
   ·rename_i e cs hz; cases h; exact⟨_,rfl,rfl,rfl,fun _=>rfl⟩
   ·cases h
  ·cases h
 | _=>rw [ho] at hlay; cases hlay
theorem e1c {o:Oper} (h:eU o.op=true):I3 o.op=false:=by
 cases ho:o.op <;> rw [ho] at h <;> first | (cases h; done) | rfl
theorem Z7 {X:Cx} {q:Bool} {o:Oper} {conds:List (Nat×Bool)} {tmps:List TV} {H:Heap} {n:Nat} {ds:List Bool} (hlay:eU o.op=true):E2 X q o conds tmps H n ds=
  match mK X.P o with
  | false=>none
  | true=>match x0g X.P X.auto (evo tmps conds) o H n ds with
   | some r=>match q with
    | false=>some ⟨r.v,r.h,n+1,r.obs,r.ds⟩
    | true=>none
   | none=>none:=by
 have hst:=e1c hlay
 unfold E2
 cases mK X.P o with
 | false=>rfl
 | true=>
  have hsb:s2b X.P X.auto (evo tmps conds) o.op=none:=by
   cases ho:o.op <;> rw [ho] at hlay <;> first | (cases hlay; done) | rfl
  have hnc:p1w X (evo tmps conds) o.op=none:=by
   cases ho:o.op <;> rw [ho] at hlay <;> first | (cases hlay; done) | rfl
  dsimp only
  rw [hnc]
  dsimp only
  rw [hsb]
  cases ho:o.op <;> rw [ho] at hlay hst <;> first | (cases hlay; done) | (cases q <;> rfl)
theorem yK {X:Cx} {o:Oper} {conds:List (Nat×Bool)} {tmps:List TV} {n:Nat} {ds:List Bool} {r:CR} (hlay:eU o.op=true) (h:E2 X false o conds tmps [] n ds=some r):
  ∃ ob,r.h=[(n,ob)] ∧r.ds=ds∧∀ H,E2 X false o conds tmps H n ds=some ⟨r.v,(n,ob) ::H,r.n,r.obs,r.ds⟩:=by
 rw [Z7 hlay] at h
 split at h
 ·cases h
 ·rename_i hg
  split at h
  case h_2=>cases h
  rename_i r0 hr0
  cases h
  obtain⟨ob,e1,e2,e3,e4⟩:=w1k hlay hr0
  refine⟨ob,e1,e3,fun H=> ?_⟩
  rw [Z7 hlay,hg]
  simp only [e4 H,e2,e3]
theorem oB {X:Cx} {o:Oper} {conds:List (Nat×Bool)} {tmps:List TV} {H:Heap} {n:Nat} {ds:List Bool} (hlay:eU o.op=true):E2 X true o conds tmps H n ds=none:=by
 rw [Z7 hlay]
 split
 ·rfl
 ·split <;> rfl
theorem i0k {X:Cx} {os:List Oper} {o:Oper} {tmps tmps':List TV} {n:Nat} {ds:List Bool} {kv kv':KV} {tv:TV} {r:CR} (hlay:eU o.op=true)
  (h:O7 X false os o tmps [] n ds kv=some (tmps',kv',tv,r)):r.ds=ds∧(r.h=[] ∨∃ ob,r.h=[(n,ob)])∧∀ H,O7 X false os o tmps H n ds kv=some (tmps',kv',tv,⟨r.v,r.h++H,r.n,r.obs,r.ds⟩):=by
 rw [B3] at h
 split at h
 ·cases h
 ·rename_i hg
  cases h
  refine⟨rfl, .inl rfl,fun H=> ?_⟩
  rw [B3,hg]
  rfl
 ·rename_i conds hg
  split at h
  ·cases h
  ·rename_i r1 hand
   cases h
   rcases F5 hand with ⟨r0,hb,er⟩ | ⟨_,hc,_,r0,hb,er⟩
   ·subst er
    cases hc:c1x conds with
    | true=>
     rw [hc] at hb
     rw [show (false || true)=true from rfl,oB hlay] at hb
     cases hb
    | false=>
     rw [hc] at hb
     obtain⟨ob,e1,e2,e3⟩:=yK hlay hb
     refine⟨e2, .inr ⟨ob,e1⟩,fun H=> ?_⟩
     rw [B3,hg]
     simp only [i0r,hc]
     have:=e3 H
     rw [show (false || false)=false from rfl,this]
     simp only [e1]
     rfl
   ·subst er
    obtain⟨ob,e1,e2,e3⟩:=yK hlay hb
    refine⟨e2, .inr ⟨ob,e1⟩,fun H=> ?_⟩
    rw [B3,hg]
    simp only [i0r,hc]
    rw [show (false || true)=true from rfl,oB hlay,e3 H]
    simp only [e1]
    rfl
theorem g0n {X:Cx} {J:Inv X.P} (hX:CxOk X J) {q:Bool} {o:Oper} {conds:List (Nat×Bool)} {tmps:List TV} {H:Heap} {n:Nat} {ds:List Bool} {r:CR} (h:E2 X q o conds tmps H n ds=some r) (hq:q=true∨eU o.op=true) (hl:d9 r.obs)
  {B:Nat} {M:Nat->Prop} (_hp:Par X.P B M) {F:Num->Prop} {ρ:Num} (hF:F ρ) {β:Nat->Bool} (hc:V β conds) {a:Act} {w:World} (hB:B<=w.heap.size) (hI:J.I w)
  (hS:∀ ρ',F ρ'->Sim X.P B M ρ' H w) (hT:∀ ρ',F ρ'->∀ t, .tmp t∈o.op.operands.toList->E7 ρ' β (A1 tmps t) (a.tmps.getD t undef)) (hnew:q=false->∀ ρ',F ρ'->ρ' n=some w.heap.size)
  {rb:Option Nat} {K:Act->World->Prop} {Q:Exit->Act->World->Prop}
  (hK:∀ v w',(∀ ρ',F ρ'->v=rv ρ' r.v∧Sim X.P B M ρ' r.h w')->Keeps B M w w'->(q=true->Below w.heap.size w w')->K (a.put o.dst v) w'):
  o.wpIn (Fl rb) 0 X.P a w K Q:=by
 unfold E2 at h
 split at h
 case h_1=>cases h
 rename_i hglob
 have hglob':∀ x∈o.op.operands.toList,∀ g,x= .global g->g < X.P.globals.size:=by
  intro x hx g e
  subst e
  have:=zzA10.1 hglob _ hx
  simpa [Nat.blt_eq] using this
 have hev:∀ ρ',F ρ'->∀ x∈o.op.operands.toList,∀ y,evo tmps conds x=some y->a.eval x=rv ρ' y:=fun ρ' ha x hx y hy=>
  R4 (hS ρ' ha) hc hy (fun t e=>hT ρ' ha t (e ▸ hx)) (hglob' x hx)
 have still:∀ {v:Value},(∀ ρ',F ρ'->(execOp a.eval o).run X.P w= .ok (.value (rv ρ' v)) w)->(∀ c,o.op≠ .defer c)->r.v=v->r.h=H->o.wpIn (Fl rb) 0 X.P a w K Q:=by
  intro v h1 hnd h2 h3
  refine G0 hnd ?_
  rw [h1 ρ hF,mH]
  refine hK _ w (fun ρ' ha=>⟨?_,by rw [h3]; exact hS ρ' ha⟩) (Keeps.refl _ _ _) (fun _=>X1 _ _)
  have e1:=h1 ρ hF
  rw [h1 ρ' ha] at e1
  rw [h2]
  injection e1 with e1
  injection e1 with e1
  exact e1.symm
 have hnc:p1w X (evo tmps conds) o.op=none:=by
  rcases hq with hq | hq
  ·subst hq
   cases hnc:p1w X (evo tmps conds) o.op with
   | none=>rfl
   | some eb=>rw [hnc] at h; cases h
  ·cases ho:o.op <;> rw [ho] at hq <;> first | (cases hq; done) | rfl
 rw [hnc] at h
 dsimp only at h
 have hsb:s2b X.P X.auto (evo tmps conds) o.op=none:=by
  rcases hq with hq | hq
  ·subst hq
   cases hsb:s2b X.P X.auto (evo tmps conds) o.op with
   | none=>rfl
   | some eb=>rw [hsb] at h; cases h
  ·cases ho:o.op <;> rw [ho] at hq <;> first | (cases hq; done) | rfl
 rw [hsb] at h
 dsimp only at h
 split at h
 ·
  rename_i c x y ho
  split at h
  case h_1=>cases h
  rename_i hng
  simp only [x5] at hng
  split at h
  case h_2=>cases h
  rename_i v hv
  cases h
  refine still (v:=v) (fun ρ' ha=> ?_) (by rw [ho]; intro c hc; cases hc) rfl rfl
  have:=oG (a:=a) (hS ρ' ha) hc hv (fun t e=>hT ρ' ha t (by
   rw [ho]; simp only [zO5]
   rcases e with e | e | e <;> simp [e])) hng.1 hng.2
  simp only [execOp,ho]
  exact this
 ·
  rename_i c ho
  have hq:q=true:=by
   rcases hq with hq | hq
   ·exact hq
   ·rw [ho] at hq; cases hq
  subst hq
  split at h
  ·rename_i f hcal
   split at h
   case h_3=>cases h
   case h_2=>cases h
   rename_i fid first cap args hf hargs
   have hfm:f∈o.op.operands.toList:=by rw [ho]; simp [zO5,Call.operands,hcal]
   have ham:∀ x∈c.args.toList,x∈o.op.operands.toList:=fun x hx=>by rw [ho]; simp [zO5,Call.operands,hcal]; exact .inr (by simpa using hx)
   have hrunx:∀ ρ',F ρ'->(execOp a.eval o).run X.P w=(callFunc fid ⟨rvL ρ' (first++args++cap)⟩).run X.P w:=by
    intro ρ' ha
    have e1:=hev ρ' ha f hfm _ hf
    have e2:=u5 (a:=a.eval) (ρ:=ρ') c.args.toList args (fun x hx y hy=>hev ρ' ha x (ham x hx) y hy) hargs
    have e3:c.args.map a.eval=⟨rvL ρ' args⟩:=by apply gX; simpa using e2
    simp only [execOp,ho,resolve,hcal,e1,e3,rv,rvA,rFn,Deferred.ofValue,pure_bind,invoke]
    have e4:((⟨rvL ρ' first⟩:Array Value)++(⟨rvL ρ' args⟩:Array Value)++(⟨rvL ρ' cap⟩:Array Value))=⟨rvL ρ' (first++args++cap)⟩:=by
     simp [l9]
    rw [e4]
   have hrun:∀ ρ',F ρ'->Enters X.P fid->(execOp a.eval o).run X.P w= .ok (.enter fid ⟨rvL ρ' (first++args++cap)⟩) w:=by
    intro ρ' ha hent
    rw [hrunx ρ' ha]
    exact hent _ _
   split at h
   case h_2=>cases h
   rename_i v l hpc
   cases h
   obtain⟨hpl,hpv,⟨hent,hcalls⟩ | hext⟩:=hX.pc _ _ _ _ hpc hl
   ·refine G0 (by rw [ho]; intro c hc; cases hc) ?_
    rw [hrun ρ hF hent,Oper.uponIn_enter,rvL_pure ρ _ hpl]
    refine⟨fun h=>(by cases h),mJ ((hcalls w hI).mono fun e w' ⟨he,hb⟩=> ?_)⟩
    subst he
    refine hK v w' (fun ρ' ha=>⟨(B1 ρ' v hpv).symm,(hS ρ' ha).below hb⟩) (n5 hb hB) (fun _=>hb)
   ·refine G0 (by rw [ho]; intro c hc; cases hc) ?_
    rw [hrunx ρ hF,rvL_pure ρ _ hpl,hext w hI,mH]
    exact hK v w (fun ρ' ha=>⟨(B1 ρ' v hpv).symm,hS ρ' ha⟩) (Keeps.refl _ _ _) (fun _=>X1 _ _)
  ·rename_i b hcal
   split at h
   case h_2=>cases h
   rename_i args hargs
   split at h
   ·cases h
   split at h
   ·cases h
   have ham:∀ x∈c.args.toList,x∈o.op.operands.toList:=fun x hx=>by rw [ho]; simp [zO5,Call.operands,hcal]; simpa using hx
   have e3:∀ ρ',F ρ'->c.args.map a.eval=⟨rvL ρ' args⟩:=fun ρ' ha=>by
    have e2:=u5 (a:=a.eval) (ρ:=ρ') c.args.toList args (fun x hx y hy=>hev ρ' ha x (ham x hx) y hy) hargs
    apply gX; simpa using e2
   split at h
   ·rename_i v hv
    cases h
    refine still (v:=v) (fun ρ' ha=> ?_) (by rw [ho]; intro c hc; cases hc) rfl rfl
    simp only [execOp,ho,resolve,hcal,e3 ρ' ha,pure_bind,invoke]
    exact bG hv ρ' w _ _
   ·split at h
    case h_2=>cases h
    rename_i v hv
    cases h
    refine still (v:=v) (fun ρ' ha=> ?_) (by rw [ho]; intro c hc; cases hc) rfl rfl
    simp only [execOp,ho,resolve,hcal,e3 ρ' ha,pure_bind,invoke]
    exact pF (hS ρ' ha) hv _ _ _
  ·cases h
 ·
  split at h
  case h_2=>cases h
  rename_i r0 hr0
  have hrr:r.v=r0.v∧r.h=r0.h∧r.obs=r0.obs∧(q=true->I3 o.op=true):=by
   split at h
   ·rename_i hst
    cases h
    refine⟨rfl,?_,rfl,fun _=>hst⟩
    have:=dX (a:=a.eval) (hS ρ hF) hB (fun hs=>by rw [hst] at hs; cases hs) (fun x hx y hy=>hev ρ hF x hx y hy) hr0 hl
    obtain⟨_,_,_,_,_,_,h5⟩:=this
    exact (h5 hst).1.symm
   ·split at h
    ·cases h; exact⟨rfl,rfl,rfl,fun h=>by cases h⟩
    ·cases h
  obtain⟨e1,e2,e3,e4⟩:=hrr
  rw [e3] at hl
  have each:∀ ρ',F ρ'->_:=fun ρ' ha=>
   dX (a:=a.eval) (hS ρ' ha) hB (fun hs=>by
    cases q with
    | true=>rw [e4 rfl] at hs; cases hs
    | false=>exact hnew rfl ρ' ha) (fun x hx y hy=>hev ρ' ha x hx y hy) hr0 hl
  obtain⟨nx,w',h1,h2,h3,h4,h5⟩:=each ρ hF
  have all:∀ ρ',F ρ'->lZ nx (rv ρ' r0.v)∧Sim X.P B M ρ' r0.h w':=by
   intro ρ' ha
   obtain⟨nx2,w2,g1,g2,g3,_⟩:=each ρ' ha
   rw [h1] at g1
   cases g1
   exact⟨g2,g3⟩
  refine G0 (cS hr0) ?_
  rw [e1,e2] at hK
  have hbel:q=true->Below w.heap.size w w':=fun hq'=>by rw [(h5 (e4 hq')).2.2]; exact X1 _ _
  rcases h2 with hnx | ⟨hnx,hu⟩
  ·rw [h1,hnx,mH]
   refine hK _ w' (fun ρ' ha=>⟨?_,(all ρ' ha).2⟩) h4 hbel
   rcases (all ρ' ha).1 with e | ⟨e,_⟩
   ·rw [hnx] at e; injection e
   ·rw [hnx] at e; cases e
  ·rw [h1,hnx,Oper.uponIn_skip]
   refine hK _ w' (fun ρ' ha=>⟨?_,(all ρ' ha).2⟩) h4 hbel
   rcases (all ρ' ha).1 with e | ⟨_,e⟩
   ·rw [hnx] at e; cases e
   ·exact e.symm
theorem cG {X:Cx} {J:Inv X.P} (hX:CxOk X J) {q:Bool} {os:List Oper} {i:Nat} {o:Oper} (hi:os[i]? =some o) {tmps tmps':List TV} {H:Heap} {n:Nat} {ds:List Bool} {kv kv':KV} {tv:TV} {r:CR}
  (h:O7 X q os o tmps H n ds kv=some (tmps',kv',tv,r)) (hq:q=true∨eU o.op=true) (hl:d9 r.obs)
  {B:Nat} {M:Nat->Prop} (hp:Par X.P B M) {F:Num->Prop} {ρ:Num} (hF:F ρ) {Cβ:(Nat->Bool)->Prop} (hne:∃ β,Cβ β) (hCβ:∀ β,Cβ β->KVok kv' β) {a:Act} {w:World} (hB:B<=w.heap.size) (hI:J.I w)
  (hS:∀ ρ',F ρ'->Sim X.P B M ρ' H w) (hT:∀ ρ',F ρ'->∀ β,Cβ β->∀ t∈looks os o,E7 ρ' β (A1 tmps t) (a.tmps.getD t undef)) (hnew:q=false->∀ ρ',F ρ'->ρ' n=some w.heap.size)
  {rb:Option Nat} {K:Act->World->Prop} {Q:Exit->Act->World->Prop}
  (hK:∀ v w',(∀ ρ',F ρ'->Sim X.P B M ρ' r.h w'∧∀ β,Cβ β->E7 ρ' β tv v)->Keeps B M w w'->(q=true->Below w.heap.size w w')->K (a.put o.dst v) w'):
  wpOpIn (Fl rb) 0 X.P ⟨os⟩ Q i K a w:=by
 have hoi:(⟨os⟩:Array Oper)[i]? =some o:=by simpa using hi
 unfold wpOpIn
 rw [hoi]
 simp only []
 obtain⟨β0,hβ0⟩:=hne
 rw [B3] at h
 split at h
 ·cases h
 ·
  rename_i tmps1 kv1 conds1 hg
  cases h
  have g:=C7 hg (hCβ β0 hβ0) (fun t ht _=>hT ρ hF β0 hβ0 t ht)
  rw [a6 (by rw [g.2.1 rfl]; simp)]
  refine⟨kB,?_⟩
  exact hK undef w (fun ρ' ha=>⟨hS ρ' ha,fun β _=>(dP ρ').symm⟩) (Keeps.refl _ _ _) (fun _=>X1 _ _)
 ·rename_i tmps1 kv1 conds hg
  split at h
  ·cases h
  ·rename_i r1 hand
   cases h
   have g:∀ ρ',F ρ'->∀ β,Cβ β->_:=fun ρ' ha β hβ=>C7 hg (hCβ β hβ) (fun t ht _=>hT ρ' ha β hβ t ht)
   have hw:∀ β,Cβ β->(Region.wanted o (yielded ⟨os⟩ a.tmps)=true↔V β conds):=fun β hβ=>(g ρ hF β hβ).2.2.1 rfl
   have run:∀ (q':Bool) (r0:CR),(q'=true∨eU o.op=true)->(q=true->q'=true)->(q'=false->q=false)->r.v=r0.v->r.h=r0.h->E2 X q' o conds tmps' H n ds=some r0->d9 r0.obs->V β0 conds->
     (if Region.wanted o (yielded ⟨os⟩ a.tmps)=true then o.wpIn (Fl rb) 0 X.P a w K Q else (∀ f,o.about X.P w a.eval=some f->(Fl rb).fn f)∧K (a.put o.dst undef) w):=by
    intro q' r0 hqq hq1 hq2 e1 e2 hb hl0 hV
    have hwt:=(hw β0 hβ0).2 hV
    rw [b9 hwt]
    refine g0n hX hb hqq hl0 hp hF (β:=β0) hV hB hI hS (fun ρ' ha t ht=> ?_) (fun h=>hnew (hq2 h)) (fun v w' hfin hk hbl=> ?_)
    ·exact ((g ρ' ha β0 hβ0).2.2.2 t _).1 (hT ρ' ha β0 hβ0 t (Q1 ht))
    ·refine hK v w' (fun ρ' ha'=> ?_) hk (fun hq'=>hbl (hq1 hq'))
     rw [e2,e1]
     refine⟨(hfin ρ' ha').2,fun β hβ=> ?_⟩
     have hVβ:=(hw β hβ).1 hwt
     unfold q1i
     split
     ·exact (hfin ρ' ha').1
     ·exact⟨fun _=>(hfin ρ' ha').1,fun hn=>absurd hVβ hn⟩
   rcases F5 hand with ⟨r0,hb,er⟩ | ⟨hq0,hc,_,r0,hb,er⟩
   ·subst er
    by_cases hV:V β0 conds
    ·exact run _ r0 (by rcases hq with hq | hq; exact .inl (by simp [hq]); exact .inr hq) (fun h=>by simp [h]) (fun h=>by cases q <;> simp_all) rfl rfl hb (jA (hCβ β0 hβ0) hV hl) hV
    ·have hwt:Region.wanted o (yielded ⟨os⟩ a.tmps)=false:=by
      cases hw':Region.wanted o (yielded ⟨os⟩ a.tmps)
      ·rfl
      ·exact absurd ((hw β0 hβ0).1 hw') hV
     have hcne:conds≠[] :=fun e=>by subst e; exact hV (lK _)
     have hq1:(q || c1x conds)=true:=by
      cases conds with
      | nil=>exact absurd rfl hcne
      | cons _ _=>simp [c1x]
     rw [hq1] at hb
     obtain⟨e1,e2,e3⟩:=O9 hb
     rw [a6 (by rw [hwt]; simp)]
     refine⟨kB,?_⟩
     refine hK undef w (fun ρ' ha=>⟨?_,fun β hβ=> ?_⟩) (Keeps.refl _ _ _) (fun _=>X1 _ _)
     ·show Sim X.P B M ρ' r0.h w
      rw [e1]
      exact hS ρ' ha
     ·unfold q1i
      split
      ·exact absurd rfl hcne
      ·refine⟨fun hv=> ?_,fun _=>rfl⟩
       have:=(hw β hβ).2 hv
       rw [hwt] at this
       cases this
   ·subst er
    have hlay:eU o.op=true:=hq.elim (fun h=>by rw [hq0] at h; cases h) id
    exact run false r0 (.inr hlay) (fun h=>by rw [hq0] at h; cases h) (fun _=>hq0) rfl rfl hb hl.2 (qZ (hCβ β0 hβ0) hl.1)
mutual
def g2z:Value->List Nat->List Nat
 | .pointer (some a),l=>a.block ::l
 | .slice (some a) _ _,l=>a.block ::l
 | .map (some r),l=>r ::l
 | .func _ f c,l=>numsA f (numsA c l)
 | .iface _ v,l=>g2z v l
 | .agg cs,l=>numsA cs l
 | .tuple vs,l=>numsA vs l
 | _,l=>l
def numsA:Array Value->List Nat->List Nat
 | ⟨x⟩,l=>numsL x l
def numsL:List Value->List Nat->List Nat
 | [],l=>l
 | v ::r,l=>g2z v (numsL r l)
end
def w2o:AObj->List Nat->List Nat
 | .cells cs _,l=>numsL cs l
 | .row _ _ (.vals xs) _,l=>numsL xs l
 | .ro xs,l=>numsL xs l
 | _,l=>l
def zO (H:Heap):Nat->List Nat->List Nat->List Nat
 | 0,_,acc=>acc
 | f+1,work,acc=>match work with
  | [] =>acc
  | x ::r=>match H9 x acc with
   | true=>zO H f r acc
   | false=>match H.get x with
    | some o=>zO H f (w2o o r) (x ::acc)
    | none=>zO H f r acc
def y1o (H:Heap):List Nat->Heap
 | [] =>[]
 | j ::r=>match H.get j with
  | some o=>match roO o with
   | some o'=>(j,o') ::y1o H r
   | none=>y1o H r
  | none=>y1o H r
theorem kJ {H:Heap} :∀ {l:List Nat} {j:Nat} {o':AObj},(y1o H l).get j=some o'->∃ o,H.get j=some o∧roO o=some o'
 | [],j,o',h=>by simp [y1o,Heap.get] at h
 | i ::r,j,o',h=>by
  unfold y1o at h
  split at h
  ·rename_i o ho
   split at h
   ·rename_i o2 hr
    rw [a8] at h
    split at h
    ·rename_i e; subst e; cases h; exact⟨o,ho,hr⟩
    ·exact kJ h
   ·exact kJ h
  ·exact kJ h
def k1y (p:Nat->Bool):Heap->Bool
 | [] =>true
 | (j,o) ::r=>p j && q2r p o && k1y p r
theorem cL {p:Nat->Bool} :∀ {H:Heap} {j:Nat} {o:AObj},k1y p H=true->H.get j=some o->p j=true∧q2r p o=true
 | [],j,o,_,h=>by simp [Heap.get] at h
 | (i,q) ::r,j,o,hp,h=>by
  simp only [k1y,x5] at hp
  rw [a8] at h
  split at h
  ·rename_i e; subst e; cases h; exact hp.1
  ·exact cL hp.2 h
def p0v (n n':Nat):Heap->Heap
 | [] =>[]
 | (j,o) ::r=>match Nat.ble n j && zO1 j n' with
  | true=>(j,o) ::p0v n n' r
  | false=>p0v n n' r
theorem R9 {n n':Nat} :∀ {H:Heap} {j:Nat} {o:AObj},(p0v n n' H).get j=some o->H.get j=some o∧n<=j∧j < n'
 | [],j,o,h=>by simp [p0v,Heap.get] at h
 | (i,q) ::r,j,o,h=>by
  unfold p0v at h
  rw [a8]
  split at h
  ·rename_i hb
   simp only [x5,M8,D1] at hb
   rw [a8] at h
   split at h
   ·rename_i e; subst e; rw [b9 rfl]; exact⟨h,hb⟩
   ·rename_i e; rw [a6 e]; exact R9 h
  ·rename_i hb
   obtain⟨h1,h2,h3⟩:=R9 h
   refine⟨?_,h2,h3⟩
   rw [a6 (fun e=>by
    subst e
    have:(Nat.ble n i && zO1 i n')=true:=by simp [Nat.blt_eq,h2]; exact h3
    rw [this] at hb; cases hb)]
   exact h1
def u1i:Heap->Bool
 | [] =>true
 | (_,o) ::r=>o.rw && u1i r
theorem i0e:∀ {H:Heap} {j:Nat} {o:AObj},u1i H=true->H.get j=some o->o.rw=true
 | [],j,o,_,h=>by simp [Heap.get] at h
 | (i,q) ::r,j,o,hp,h=>by
  simp only [u1i,x5] at hp
  rw [a8] at h
  split at h
  ·cases h; exact hp.1
  ·exact i0e hp.2 h
theorem u3 (h H:Heap) (j:Nat):Heap.get (h++H) j=match Heap.get h j with
  | some o=>some o
  | none=>Heap.get H j:=by
 induction h with
 | nil=>rfl
 | cons x r ih=>
  obtain⟨i,o⟩:=x
  rw [dF,a8,a8]
  by_cases e:i=j
  ·rw [b9 e,b9 e]
  ·rw [a6 e,a6 e,ih]
def r1l (p:Nat->Bool) (n n' j:Nat):Bool:=p j || (Nat.ble n j && zO1 j n')
def mG (X:Cx) (o:Oper) (conds:List (Nat×Bool)) (tmps:List TV) (H:Heap) (p:Nat->Bool) (n:Nat):Option (Value×Heap×Nat×List Prop):=
 match mK X.P o && Nat.ble X.P.globals.size n with
 | false=>none
 | true=>match o.op with
  | .call c=>match c.callee with
   | .value f=>match evo tmps conds f,fB (evo tmps conds) c.args.toList with
    | some (.func (.func fid) ⟨first⟩ ⟨cap⟩),some args=>match y1o H (zO H 400 (numsL (first++args++cap) []) []) with
     | V=>match allL p (first++args++cap) && k1y p V with
      | false=>none
      | true=>match X.call fid (first++args++cap) (V++X.J.tabs) n [] with
       | none=>none
       | some ⟨v,h,n',obs,_⟩=>match p0v n n' h with
        | fr=>match Nat.ble n n' && (t0h (r1l p n n') v && k1y (r1l p n n') fr && u1i fr) with
         | true=>some (v,fr,n',obs)
         | false=>none
    | _,_=>none
   | _=>none
  | _=>none
theorem ORep.owned {B:Nat} {M:Nat->Prop} {B':Nat} {ρ:Num} {w:World} {ob:Option Nat} {o:AObj} (h:ORep B' (fun _=>False) ρ w ob o) (hle:B<=B') (hrw:o.rw=true):ORep B M ρ w ob o∧∀ b,ob=some b->B'<=b:=by
 cases o with
 | row e sz r k=>
  rcases h with h | ⟨b,cap,cur,h1,h2,h3,h4,h5⟩
  ·exact⟨.inl h,fun b hb=>by rw [h.1] at hb; cases hb⟩
  ·have h4:B'<=b:=h4.elim id False.elim
   exact⟨.inr ⟨b,cap,cur,h1,h2,h3, .inl (x7 hle h4),h5⟩,fun b' hb=>by rw [h1] at hb; cases hb; exact h4⟩
 | cells cs t=>
  obtain⟨b,h1,h2,h3⟩:=h
  have h3:B'<=b:=h3.elim id False.elim
  exact⟨⟨b,h1,h2, .inl (x7 hle h3)⟩,fun b' hb=>by rw [h1] at hb; cases hb; exact h3⟩
 | iter s p=>
  obtain⟨b,h1,h2,h3⟩:=h
  have h3:B'<=b:=h3.elim id False.elim
  exact⟨⟨b,h1,h2, .inl (x7 hle h3)⟩,fun b' hb=>by rw [h1] at hb; cases hb; exact h3⟩
 | ints k xs=>cases hrw
 | loop st pn ts ps asg bd=>
  obtain⟨b,r,h1,h2,h3,h4⟩:=h
  have h4:B'<=b:=h4.elim id False.elim
  exact⟨⟨b,r,h1,h2,h3, .inl (x7 hle h4)⟩,fun b' hb=>by rw [h1] at hb; cases hb; exact h4⟩
 | defr=>
  obtain⟨b,h1,h2,h3⟩:=h
  have h3:B'<=b:=h3.elim id False.elim
  exact⟨⟨b,h1,h2, .inl (x7 hle h3)⟩,fun b' hb=>by rw [h1] at hb; cases hb; exact h3⟩
 | dead=>
  obtain⟨b,q,h1,h2,h3⟩:=h
  have h3:B'<=b:=h3.elim id False.elim
  exact⟨⟨b,q,h1,h2, .inl (x7 hle h3)⟩,fun b' hb=>by rw [h1] at hb; cases hb; exact h3⟩
 | ro xs=>cases hrw
 | fam f n sz o=>cases hrw
 | map es=>
  obtain⟨b,mes,ck,h1,h2,h3,h4⟩:=h
  have h4:B'<=b:=h4.elim id False.elim
  exact⟨⟨b,mes,ck,h1,h2,h3, .inl (x7 hle h4)⟩,fun b' hb=>by rw [h1] at hb; cases hb; exact h4⟩
theorem e0t {X:Cx} {J:Inv X.P} (hX:CxOk X J) {o:Oper} {conds:List (Nat×Bool)} {tmps:List TV} {H:Heap} {p:Nat->Bool} {n n':Nat} {v0:Value} {fr:Heap} {obs:List Prop} (h:mG X o conds tmps H p n=some (v0,fr,n',obs)) (hl:d9 obs)
  {B:Nat} {M:Nat->Prop} {F:Num->Prop} {ρ:Num} (hF:F ρ) (hFp:∀ ρ',F ρ'->∀ j,p j=true->ρ' j=ρ j) (hpn:∀ j,p j=true->j < n) {β:Nat->Bool} (hc:V β conds) {a:Act} {w:World} (hB:B<=w.heap.size) (hI:J.I w) {Hb:Heap}
  (hS:∀ ρ',F ρ'->Sim X.P B M ρ' Hb w) (hH:∀ j o,H.get j=some o->Hb.get j=some o) (hT:∀ ρ',F ρ'->∀ t, .tmp t∈o.op.operands.toList->E7 ρ' β (A1 tmps t) (a.tmps.getD t undef))
  {rb:Option Nat} {K:Act->World->Prop} {Q:Exit->Act->World->Prop}
  (hK:∀ v w' (ρn:Num),n<=n'->(∀ j o,fr.get j=some o->n<=j∧j < n')->(∀ ρ',F ρ'->(∀ j,n<=j->j < n'->ρ' j=ρn j)->v=rv ρ' v0∧Sim X.P B M ρ' (fr++Hb) w')->Keeps B M w w'->K (a.put o.dst v) w'):
  o.wpIn (Fl rb) 0 X.P a w K Q:=by
 unfold mG at h
 split at h
 case h_1=>cases h
 rename_i hglob
 simp only [x5,M8] at hglob
 obtain⟨hglob,hgn⟩:=hglob
 have hglob':∀ x∈o.op.operands.toList,∀ g,x= .global g->g < X.P.globals.size:=by
  intro x hx g e
  subst e
  have:=zzA10.1 hglob _ hx
  simpa [Nat.blt_eq] using this
 split at h
 case h_2=>cases h
 rename_i c ho
 split at h
 case h_2=>cases h
 rename_i f hcal
 split at h
 case h_2=>cases h
 rename_i fid first cap args hf hargs
 dsimp only at h
 generalize hV:y1o H (zO H 400 (numsL (first++args++cap) []) [])=V at h
 split at h
 case h_1=>cases h
 rename_i hall
 simp only [x5] at hall
 obtain⟨hpa,hpV⟩:=hall
 split at h
 case h_1=>cases h
 rename_i v h' n1 obs' ds' hcl
 split at h
 case h_2=>cases h
 rename_i hres
 simp only [x5] at hres
 obtain⟨_,⟨hpv,hpf⟩,hrw⟩:=hres
 cases h
 have hev:∀ x∈o.op.operands.toList,∀ y,evo tmps conds x=some y->a.eval x=rv ρ y:=fun x hx y hy=>
  R4 (hS ρ hF) hc hy (fun t e=>hT ρ hF t (e ▸ hx)) (hglob' x hx)
 have hfm:f∈o.op.operands.toList:=by rw [ho]; simp [zO5,Call.operands,hcal]
 have ham:∀ x∈c.args.toList,x∈o.op.operands.toList:=fun x hx=>by rw [ho]; simp [zO5,Call.operands,hcal]; exact .inr (by simpa using hx)
 obtain⟨hnn,hcalls⟩:=yH hX hcl hl
 have hnn:n<=n':=hnn
 have hrun:(execOp a.eval o).run X.P w=(callFunc fid ⟨rvL ρ (first++args++cap)⟩).run X.P w:=by
  have e1:=hev f hfm _ hf
  have e2:=u5 (a:=a.eval) (ρ:=ρ) c.args.toList args (fun x hx y hy=>hev x (ham x hx) y hy) hargs
  have e3:c.args.map a.eval=⟨rvL ρ args⟩:=by apply gX; simpa using e2
  simp only [execOp,ho,resolve,hcal,e1,e3,rv,rvA,rFn,Deferred.ofValue,pure_bind,invoke]
  have e4:((⟨rvL ρ first⟩:Array Value)++(⟨rvL ρ args⟩:Array Value)++(⟨rvL ρ cap⟩:Array Value))=⟨rvL ρ (first++args++cap)⟩:=by simp [l9]
  rw [e4]
 have hS0:=hS ρ hF
 have hp':Par X.P w.heap.size (fun _=>False):=⟨J.room w hI,fun _ _ h=>h⟩
 have hVS:∀ ρ',Agree n ρ ρ'->Sim X.P w.heap.size (fun _=>False) ρ' (V++X.J.tabs) w∧rvL ρ (first++args++cap)=rvL ρ' (first++args++cap):=by
  intro ρ' ha
  have hag:∀ j,p j=true->ρ' j=ρ j:=fun j hj=>ha j (hpn j hj)
  have hgl:∀ g,g < X.P.globals.size->ρ' g=some g:=fun g hg=>by rw [ha g (by omega)]; exact hS0.glob g hg
  have hts:=hX.tabs w ρ' w.heap.size (fun _=>False) hI hgl
  refine⟨⟨hgl,fun j o' hj=> ?_,fun i j oi oj hi hr _ _ _=> ?_⟩,(rvL_all hag _ hpa).symm⟩
  ·rw [u3] at hj
   split at hj
   case h_2=>exact hts.obj j o' hj
   rename_i o2 hj2
   cases hj
   have hj:=hj2
   obtain⟨hk1,hk2⟩:=cL hpV hj
   have hj':=hj
   rw [<- hV] at hj'
   obtain⟨o1,ho1,hro⟩:=kJ hj'
   have:=(hS0.obj j o1 (hH j o1 ho1)).ro (B':=w.heap.size) (M':=fun _=>False) hro
   rw [hag j hk1]
   exact this.1.all hag hk2
  ·rw [u3] at hi
   split at hi
   case h_2=>rw [hX.ro i oi hi] at hr; cases hr
   rename_i o2 hi2
   cases hi
   have hi:=hi2
   have hi':=hi
   rw [<- hV] at hi'
   obtain⟨o1,ho1,hro⟩:=kJ hi'
   have:=(hS0.obj i o1 (hH i o1 ho1)).ro (B':=w.heap.size) (M':=fun _=>False) hro
   rw [this.2] at hr
   cases hr
 have hc1:=hcalls w.heap.size (fun _=>False) ρ w (rvL ρ (first++args++cap)) hp' (d7 _) hI hVS
 refine l0m (by rw [ho]; intro c hc; cases hc) hrun (hc1.mono fun e w' hh=> ?_)
 obtain⟨ρ1,v1,ha1,he,hk,hfin⟩:=hh
 refine⟨v1,he,?_⟩
 have hbel:Below w.heap.size w w':=hk.below
 refine hK v1 w' ρ1 hnn (fun j o hj=>(R9 hj).2) (fun ρ' ha hnew=> ?_) (n5 hbel hB)
 let ρ2:Num:=fun j=>if j < n then ρ1 j else ρ' j
 have h2:Agree n' ρ1 ρ2:=fun j hj=>by
  show (if j < n then ρ1 j else ρ' j)=ρ1 j
  by_cases hlt:j < n
  ·rw [b9 hlt]
  ·rw [a6 hlt]; exact hnew j (by omega) hj
 have hag:∀ j,r1l p n n' j=true->ρ' j=ρ2 j:=fun j hj=>by
  show ρ' j=(if j < n then ρ1 j else ρ' j)
  simp only [r1l,kX,x5,M8,D1] at hj
  by_cases hlt:j < n
  ·rw [b9 hlt]
   rcases hj with hj | hj
   ·rw [hFp ρ' ha j hj,ha1 j hlt]
   ·omega
  ·rw [a6 hlt]
 obtain⟨g1,g2⟩:=hfin ρ2 h2
 refine⟨by rw [g1,f1d hag _ hpv],?_⟩
 have hold:=(hS ρ' ha).below hbel
 have key:∀ j o',(p0v n n' h').get j=some o'->o'.rw=true∧ORep B M ρ' w' (ρ' j) o'∧∀ b,ρ' j=some b->w.heap.size<=b:=fun j o' hj=>by
  obtain⟨k1,k2⟩:=cL hpf hj
  have k3:=i0e hrw hj
  have k4:=(g2.obj j o' (R9 hj).1).all hag k2
  rw [<- hag j k1] at k4
  have:=k4.owned hB k3 (M:=M)
  exact⟨k3,this.1,this.2⟩
 have low:∀ k ok,Hb.get k=some ok->∀ b,ρ' k=some b->b < w.heap.size:=fun k ok hk b hb'=>by
  have:=(hS ρ' ha).obj k ok hk
  rw [hb'] at this
  exact this.lt
 refine⟨hold.glob,fun i o' hi=> ?_,fun i j oi oj hi hr hj hij hne=> ?_⟩
 ·rw [u3] at hi
  split at hi
  ·rename_i o2 ho2; cases hi; exact (key i o' ho2).2.1
  ·exact hold.obj i o' hi
 ·rw [u3] at hi hj
  split at hi <;> split at hj
  ·rename_i ho2 _ _ ho3
   cases hi; cases hj
   have k1:=cL hpf ho2
   have k2:=cL hpf ho3
   have:=g2.inj i j oi oj (R9 ho2).1 hr (R9 ho3).1 hij
   rw [<- hag i k1.1,<- hag j k2.1] at this
   exact this hne
  ·rename_i ho2 _ _
   cases hi
   intro e
   cases hq:ρ' i with
   | none=>exact hne hq
   | some b=>
    have h1:=(key i oi ho2).2.2 b hq
    have h2:=low j oj hj b (by rw [<- e]; exact hq)
    omega
  ·rename_i ho3
   cases hj
   intro e
   cases hq:ρ' i with
   | none=>exact hne hq
   | some b=>
    have h1:=(key j oj ho3).2.2 b (by rw [<- e]; exact hq)
    have h2:=low i oi hi b hq
    omega
  ·exact hold.inj i j oi oj hi hr hj hij hne
def z0q (X:Cx) (os:List Oper) (o:Oper) (tmps:List TV) (H:Heap) (p:Nat->Bool) (n:Nat) (kv:KV):Option (List TV×KV×TV×Heap×Nat×List Prop):=
 match J9 X.gd os o tmps kv with
 | some (false,tmps',kv',conds)=>match mG X o conds tmps' H p n with
  | none=>none
  | some (v,fr,n',obs)=>some (tmps',kv',q1i conds v,fr,n',match c1x conds with
   | true=>y0s kv' conds ::obs
   | false=>obs)
 | _=>none
theorem eJ {X:Cx} {os:List Oper} {o:Oper} {tmps tmps':List TV} {H:Heap} {p:Nat->Bool} {n n':Nat} {kv kv':KV} {tv:TV} {fr:Heap} {obs:List Prop} (h:z0q X os o tmps H p n kv=some (tmps',kv',tv,fr,n',obs)):
  ∃ conds v obs0,J9 X.gd os o tmps kv=some (false,tmps',kv',conds)∧mG X o conds tmps' H p n=some (v,fr,n',obs0)∧tv=q1i conds v∧(d9 obs->d9 obs0∧y0s kv' conds):=by
 unfold z0q at h
 split at h
 case h_2=>cases h
 rename_i conds hg
 split at h
 ·cases h
 rename_i v fr' n1 obs0 hc
 cases h
 refine⟨conds,v,obs0,hg,hc,rfl,fun hl=> ?_⟩
 cases conds with
 | nil=>exact⟨hl,a7⟩
 | cons x r=>exact⟨hl.2,hl.1⟩
theorem k0q {X:Cx} {o:Oper} {conds:List (Nat×Bool)} {tmps:List TV} {H:Heap} {p:Nat->Bool} {n n':Nat} {v:Value} {fr:Heap} {obs:List Prop} (h:mG X o conds tmps H p n=some (v,fr,n',obs)):
  n<=n'∧∀ j o,fr.get j=some o->n<=j∧j < n':=by
 unfold mG at h
 split at h
 case h_1=>cases h
 split at h
 case h_2=>cases h
 split at h
 case h_2=>cases h
 split at h
 case h_2=>cases h
 dsimp only at h
 split at h
 case h_1=>cases h
 split at h
 case h_1=>cases h
 split at h
 case h_2=>cases h
 rename_i hres
 simp only [x5,M8] at hres
 cases h
 exact⟨hres.1,fun j o hj=>(R9 hj).2⟩
theorem b1d {X:Cx} {os:List Oper} {o:Oper} {tmps tmps':List TV} {H:Heap} {p:Nat->Bool} {n n':Nat} {kv kv':KV} {tv:TV} {fr:Heap} {obs:List Prop} (h:z0q X os o tmps H p n kv=some (tmps',kv',tv,fr,n',obs)):
  n<=n'∧∀ j o,fr.get j=some o->n<=j∧j < n':=by
 obtain⟨_,_,_,_,hc,_⟩:=eJ h
 exact k0q hc
theorem o0d {X:Cx} {J:Inv X.P} (hX:CxOk X J) {os:List Oper} {i:Nat} {o:Oper} (hi:os[i]? =some o) {tmps tmps':List TV} {H:Heap} {p:Nat->Bool} {n n':Nat} {kv kv':KV} {tv:TV} {fr:Heap} {obs:List Prop}
  (h:z0q X os o tmps H p n kv=some (tmps',kv',tv,fr,n',obs)) (hl:d9 obs)
  {B:Nat} {M:Nat->Prop} {F:Num->Prop} {ρ:Num} (hF:F ρ) (hFp:∀ ρ',F ρ'->∀ j,p j=true->ρ' j=ρ j) (hpn:∀ j,p j=true->j < n) {Cβ:(Nat->Bool)->Prop} (hne:∃ β,Cβ β) (hCβ:∀ β,Cβ β->KVok kv' β) {a:Act} {w:World} (hB:B<=w.heap.size) (hI:J.I w) {Hb:Heap}
  (hS:∀ ρ',F ρ'->Sim X.P B M ρ' Hb w) (hH:∀ j o,H.get j=some o->Hb.get j=some o) (hT:∀ ρ',F ρ'->∀ β,Cβ β->∀ t∈looks os o,E7 ρ' β (A1 tmps t) (a.tmps.getD t undef))
  {rb:Option Nat} {K:Act->World->Prop} {Q:Exit->Act->World->Prop}
  (hK:∀ v w' (ρn:Num),n<=n'->(∀ j o,fr.get j=some o->n<=j∧j < n')->(∀ ρ',F ρ'->(∀ j,n<=j->j < n'->ρ' j=ρn j)->Sim X.P B M ρ' (fr++Hb) w'∧∀ β,Cβ β->E7 ρ' β tv v)->Keeps B M w w'->K (a.put o.dst v) w'):
  wpOpIn (Fl rb) 0 X.P ⟨os⟩ Q i K a w:=by
 have hoi:(⟨os⟩:Array Oper)[i]? =some o:=by simpa using hi
 unfold wpOpIn
 rw [hoi]
 simp only []
 obtain⟨β0,hβ0⟩:=hne
 obtain⟨conds,v0,obs0,hg,hc,etv,hobs⟩:=eJ h
 obtain⟨hl0,hcond⟩:=hobs hl
 have hV:V β0 conds:=qZ (hCβ β0 hβ0) hcond
 have g:∀ ρ',F ρ'->∀ β,Cβ β->_:=fun ρ' ha β hβ=>C7 hg (hCβ β hβ) (fun t ht _=>hT ρ' ha β hβ t ht)
 have hw:∀ β,Cβ β->(Region.wanted o (yielded ⟨os⟩ a.tmps)=true↔V β conds):=fun β hβ=>(g ρ hF β hβ).2.2.1 rfl
 have hwt:=(hw β0 hβ0).2 hV
 rw [b9 hwt]
 refine e0t hX hc hl0 hF hFp hpn hV hB hI hS hH (fun ρ' ha t ht=> ?_) (fun v w' ρn hn hfr hfin hk=> ?_)
 ·exact ((g ρ' ha β0 hβ0).2.2.2 t _).1 (hT ρ' ha β0 hβ0 t (Q1 ht))
 ·refine hK v w' ρn hn hfr (fun ρ' ha hnew=> ?_) hk
  obtain⟨g1,g2⟩:=hfin ρ' ha hnew
  refine⟨g2,fun β hβ=> ?_⟩
  have hVβ:=(hw β hβ).1 hwt
  rw [etv]
  unfold q1i
  split
  ·exact g1
  ·exact⟨fun _=>g1,fun hn=>absurd hVβ hn⟩
def tJ (os:List Oper) (p:Nat):List Nat:=match os[p]? with
 | some o=>m8 o
 | none=>[]
def a0l (os:List Oper):Nat->List Nat->List Nat->List Nat
 | 0,_,acc=>acc
 | f+1,work,acc=>match work with
  | [] =>acc
  | p ::r=>match H9 p acc with
   | true=>a0l os f r acc
   | false=>a0l os f (tJ os p++r) (p ::acc)
theorem cA {os:List Oper} {L:Nat->Prop} (hL:∀ p,L p->∀ e∈tJ os p,L e):∀ (f:Nat) (work acc:List Nat),(∀ p∈work,L p)->(∀ p∈acc,L p)->∀ p∈a0l os f work acc,L p
 | 0,_,acc,_,ha=>by simpa only [a0l] using ha
 | f+1,work,acc,hw,ha=>by
  unfold a0l
  split
  ·exact ha
  ·rename_i p r
   split
   ·exact cA hL f r acc (fun q hq=>hw q (by simp [hq])) ha
   ·refine cA hL f _ _ (fun q hq=> ?_) (fun q hq=> ?_)
    ·rcases zzA92.1 hq with hq | hq
     ·exact hL p (hw p (by simp)) q hq
     ·exact hw q (by simp [hq])
    ·rcases zzA84.1 hq with rfl | hq
     ·exact hw q (by simp)
     ·exact ha q hq
def I0 (os:List Oper) (o:Oper):List Nat:=a0l os 400 (m8 o) []
structure LaE where
 k:Nat
 lo:Nat
 hi:Nat
 h:Heap
def iH (f:Nat->Bool):List LaE->Heap->Heap
 | [],H0=>H0
 | ⟨k,_,_,h⟩ ::r,H0=>match f k with
  | true=>h++iH f r H0
  | false=>iH f r H0
def U9 (n0:Nat):Heap->Bool
 | [] =>true
 | (j,_) ::r=>zO1 j n0 && U9 n0 r
theorem gV {n0:Nat} :∀ {H:Heap},U9 n0 H=true->∀ {j:Nat} {o:AObj},H.get j=some o->j < n0
 | [],_,j,o,h=>by simp [Heap.get] at h
 | (k,ob) ::r,hk,j,o,h=>by
  simp only [U9,x5,D1] at hk
  rw [a8] at h
  split at h
  ·rename_i e; subst e; exact hk.1
  ·exact gV hk.2 h
def WF (n0:Nat):List LaE->Nat->Prop
 | [],b=>n0<=b
 | e ::r,b=>WF n0 r e.lo∧e.lo<=e.hi∧e.hi<=b∧∀ j o,e.h.get j=some o->e.lo<=j∧j < e.hi
theorem WF.le {n0:Nat} :∀ {la:List LaE} {b:Nat},WF n0 la b->n0<=b
 | [],_,h=>h
 | _ ::_,_,h=>x7 h.1.le (x7 h.2.1 h.2.2.1)
theorem WF.mono {n0:Nat} {la:List LaE} {b b':Nat} (h:WF n0 la b) (hb:b<=b'):WF n0 la b':=by
 cases la with
 | nil=>exact x7 h hb
 | cons e r=>exact⟨h.1,h.2.1,x7 h.2.2.1 hb,h.2.2.2⟩
theorem WF.span {n0:Nat} :∀ {la:List LaE} {b:Nat},WF n0 la b->∀ e∈la,n0<=e.lo∧e.lo<=e.hi∧e.hi<=b∧∀ j o,e.h.get j=some o->e.lo<=j∧j < e.hi
 | [],_,_,e,he=>by cases he
 | x ::r,b,h,e,he=>by
  rcases zzA84.1 he with rfl | he
  ·exact⟨h.1.le,h.2.1,h.2.2.1,h.2.2.2⟩
  ·obtain⟨h1,h2,h3,h4⟩:=h.1.span e he
   exact⟨h1,h2,x7 h3 (x7 h.2.1 h.2.2.1),h4⟩
theorem O8 {f:Nat->Bool} {H0:Heap} :∀ {la:List LaE} {j:Nat} {o:AObj},(iH f la H0).get j=some o->H0.get j=some o∨∃ e∈la,f e.k=true∧e.h.get j=some o
 | [],j,o,h=> .inl h
 | e ::r,j,o,h=>by
  unfold iH at h
  split at h
  ·rename_i hf
   rw [u3] at h
   split at h
   ·rename_i o2 ho2
    cases h
    exact .inr ⟨e,by simp,hf,ho2⟩
   ·rcases O8 h with h | ⟨e',he',h1,h2⟩
    ·exact .inl h
    ·exact .inr ⟨e',by simp [he'],h1,h2⟩
  ·rcases O8 h with h | ⟨e',he',h1,h2⟩
   ·exact .inl h
   ·exact .inr ⟨e',by simp [he'],h1,h2⟩
theorem gY {n0:Nat} {f:Nat->Bool} {H0:Heap} (hlow:U9 n0 H0=true):∀ {la:List LaE} {b:Nat} {j:Nat} {o:AObj},WF n0 la b->(H0.get j=some o∨∃ e∈la,f e.k=true∧e.h.get j=some o)->(iH f la H0).get j=some o
 | [],b,j,o,_,h=>by
  rcases h with h | ⟨e,he,_⟩
  ·exact h
  ·cases he
 | e ::r,b,j,o,hwf,h=>by
  have ih:(H0.get j=some o∨∃ e∈r,f e.k=true∧e.h.get j=some o)->(iH f r H0).get j=some o:=gY hlow hwf.1
  have far:(H0.get j=some o∨∃ e∈r,f e.k=true∧e.h.get j=some o)->e.h.get j=none:=by
   intro hh
   cases hq:e.h.get j with
   | none=>rfl
   | some o2=>
    have hr:=hwf.2.2.2 j o2 hq
    rcases hh with hh | ⟨e',he',_,h2⟩
    ·have:=gV hlow hh
     have:=hwf.1.le
     omega
    ·obtain⟨_,_,h3,h4⟩:=hwf.1.span e' he'
     have:=h4 j o h2
     omega
  unfold iH
  split
  ·rename_i hf
   rw [u3]
   rcases h with h | ⟨e',he',h1,h2⟩
   ·rw [far (.inl h)]; exact ih (.inl h)
   ·rcases zzA84.1 he' with rfl | he'
    ·rw [h2]
    ·rw [far (.inr ⟨e',he',h1,h2⟩)]; exact ih (.inr ⟨e',he',h1,h2⟩)
  ·rename_i hf
   rcases h with h | ⟨e',he',h1,h2⟩
   ·exact ih (.inl h)
   ·rcases zzA84.1 he' with rfl | he'
    ·have hf:f e'.k=false:=hf
     rw [hf] at h1; cases h1
    ·exact ih (.inr ⟨e',he',h1,h2⟩)
def c1s (f:Nat->Bool) (n0:Nat):List LaE->Nat->Bool
 | [],j=>zO1 j n0
 | e ::r,j=>(f e.k && Nat.ble e.lo j && zO1 j e.hi) || c1s f n0 r j
theorem iS {f:Nat->Bool} {n0:Nat} :∀ {la:List LaE} {j:Nat},c1s f n0 la j=true->j < n0∨∃ e∈la,f e.k=true∧e.lo<=j∧j < e.hi
 | [],j,h=> .inl (by simpa [c1s,Nat.blt_eq] using h)
 | e ::r,j,h=>by
  simp only [c1s,kX,x5,M8,D1] at h
  rcases h with h | h
  ·exact .inr ⟨e,by simp,h.1.1,h.1.2,h.2⟩
  ·rcases iS h with h | ⟨e',he',h'⟩
   ·exact .inl h
   ·exact .inr ⟨e',by simp [he'],h'⟩
def I1 (ws:List Nat):Heap->Heap
 | [] =>[]
 | (j,o) ::r=>match H9 j ws with
  | true=>I1 ws r
  | false=>(j,o) ::I1 ws r
theorem I2 {ws:List Nat} :∀ {H:Heap} {j:Nat} {o:AObj},(I1 ws H).get j=some o->H.get j=some o∧H9 j ws=false
 | [],j,o,h=>by simp [I1,Heap.get] at h
 | (k,q) ::r,j,o,h=>by
  unfold I1 at h
  split at h
  ·rename_i hk
   obtain⟨h1,h2⟩:=I2 h
   rw [a8]
   by_cases e:k=j
   ·subst e; rw [hk] at h2; cases h2
   ·rw [a6 e]; exact⟨h1,h2⟩
  ·rename_i hk
   rw [a8] at h ⊢
   split at h
   ·rename_i e; subst e; exact⟨by rw [b9 rfl]; exact h,hk⟩
   ·rename_i e
    obtain⟨h1,h2⟩:=I2 h
    exact⟨by rw [a6 e]; exact h1,h2⟩
theorem W4 {ws:List Nat} :∀ {H:Heap} {j:Nat} {o:AObj},H.get j=some o->H9 j ws=false->(I1 ws H).get j=some o
 | [],j,o,h,_=>by simp [Heap.get] at h
 | (k,q) ::r,j,o,h,hj=>by
  rw [a8] at h
  unfold I1
  split
  ·rename_i hk
   split at h
   ·rename_i e; subst e; rw [hk] at hj; cases hj
   ·exact W4 h hj
  ·rw [a8]
   split at h
   ·rename_i e; rw [b9 e]; exact h
   ·rename_i e; rw [a6 e]; exact W4 h hj
def P2 (H:Heap):List Nat->Heap
 | [] =>[]
 | j ::r=>match H.get j with
  | some o=>(j,o) ::P2 H r
  | none=>P2 H r
theorem R3 {H:Heap} :∀ {ws:List Nat} {j:Nat} {o:AObj},(P2 H ws).get j=some o->H.get j=some o∧H9 j ws=true
 | [],j,o,h=>by simp [P2,Heap.get] at h
 | i ::r,j,o,h=>by
  unfold P2 at h
  split at h
  ·rename_i q hq
   rw [a8] at h
   split at h
   ·rename_i e; subst e; cases h; exact⟨hq,memN_iff.2 (by simp)⟩
   ·obtain⟨h1,h2⟩:=R3 h
    exact⟨h1,memN_iff.2 (R8 _ (memN_iff.1 h2))⟩
  ·obtain⟨h1,h2⟩:=R3 h
   exact⟨h1,memN_iff.2 (R8 _ (memN_iff.1 h2))⟩
theorem j0b {H:Heap} {ws:List Nat} {j:Nat} (h:H9 j ws=false):(P2 H ws).get j=none:=by
 cases hq:(P2 H ws).get j with
 | none=>rfl
 | some o=>rw [(R3 hq).2] at h; cases h
structure Ef where
 e:Nat
 ws:List Nat
 hw:Heap
def yV (f:Nat->Bool):Option Ef->Heap->Heap
 | none,H=>H
 | some ⟨e,ws,hw⟩,H=>match f e with
  | true=>hw++I1 ws H
  | false=>H
def a2s:Option Ef->Heap->Heap
 | none,H=>H
 | some ⟨_,ws,_⟩,H=>I1 ws H
def x2z:Op->Bool
 | .store _ _ _=>true
 | .call c=>match c.callee with
  | .builtin b=>d1v b
  | _=>false
 | _=>false
def evE (X:Cx) (o:Oper) (tm:List TV) (H:Heap) (n:Nat):Option (Value×Heap×Nat×List Nat×List Prop):=
 match o.guard with
 | some _=>none
 | none=>match mK X.P o with
  | false=>none
  | true=>match o.op with
   | .store t x y=>match evo tm [] x,evo tm [] y with
    | some (.pointer (some ⟨id,off,sp⟩)),some v=>match aQ X.P H t (.pointer (some ⟨id,off,sp⟩)) v with
     | some H'=>some (undef,H',n,[id],[])
     | none=>none
    | _,_=>none
   | .call c=>match c.callee with
    | .builtin b=>match d1v b with
     | false=>none
     | true=>match fB (evo tm []) c.args.toList with
      | some args=>match T9 X.P X.auto c.argTypes.toList H n args with
       | some (v,H',l)=>some (v,H',n+2,n ::cC args,l)
       | none=>none
      | none=>none
    | _=>none
   | _=>none
theorem j0m {P:Program} {H H' H2:Heap} {t:TypeId} {v:Value} {id off:Nat} {sp:Option Nat} (h:aQ P H t (.pointer (some ⟨id,off,sp⟩)) v=some H') (hs:∀ i o,H.get i=some o->H2.get i=some o):
  ∃ H2',aQ P H2 t (.pointer (some ⟨id,off,sp⟩)) v=some H2'∧(∀ o,H'.get id=some o->H2'.get id=some o)∧(∀ i,i≠id->H2'.get i=H2.get i):=by
 unfold aQ at h ⊢
 split at h
 case h_2=>cases h
 rename_i heq
 cases heq
 split at h
 case h_1=>cases h
 rename_i i hi
 split at h
 case h_4=>cases h
 ·rename_i cs ty hget
  simp only [hs _ _ hget]
  split at h
  case h_2=>cases h
  rename_i hc
  cases h
  try simp only [hc]
  refine⟨_,rfl,fun o ho=> ?_,fun i hi=> ?_⟩
  ·rw [m3 _ _ _ _ hget,b9 rfl] at ho
   rw [m3 _ _ _ _ (hs _ _ hget),b9 rfl]; exact ho
  ·rw [m3 _ _ _ _ (hs _ _ hget),a6 (fun e=>hi e.symm)]
 ·rename_i hget
  simp only [hs _ _ hget]
  split at h
  case h_2=>cases h
  rename_i hc
  cases h
  try simp only [hc]
  refine⟨_,rfl,fun o ho=> ?_,fun i hi=> ?_⟩
  ·rw [m3 _ _ _ _ hget,b9 rfl] at ho
   rw [m3 _ _ _ _ (hs _ _ hget),b9 rfl]; exact ho
  ·rw [m3 _ _ _ _ (hs _ _ hget),a6 (fun e=>hi e.symm)]
 ·rename_i hget
  simp only [hs _ _ hget]
  split at h
  case h_2=>cases h
  split at h
  case h_2=>cases h
  rename_i hc
  cases h
  try simp only [hc]
  refine⟨_,rfl,fun o ho=> ?_,fun i hi=> ?_⟩
  ·rw [m3 _ _ _ _ hget,b9 rfl] at ho
   rw [m3 _ _ _ _ (hs _ _ hget),b9 rfl]; exact ho
  ·rw [m3 _ _ _ _ (hs _ _ hget),a6 (fun e=>hi e.symm)]
theorem l1b {X:Cx} {o:Oper} {tm:List TV} {H H' H2:Heap} {n n':Nat} {v:Value} {ws:List Nat} {l:List Prop} (h:evE X o tm H n=some (v,H',n',ws,l)) (hs:∀ i o,H.get i=some o->H2.get i=some o):
  ∃ H2',evE X o tm H2 n=some (v,H2',n',ws,l)∧(∀ i o,H9 i ws=true->H'.get i=some o->H2'.get i=some o)∧(∀ i,H9 i ws=false->H2'.get i=H2.get i):=by
 unfold evE at h ⊢
 split at h
 ·cases h
 split at h
 ·cases h
 split at h
 case h_3=>cases h
 ·split at h
  case h_2=>cases h
  split at h
  case h_2=>cases h
  rename_i hst
  cases h
  obtain⟨H2',g1,g2,g3⟩:=j0m hst hs
  simp only [g1]
  refine⟨_,rfl,fun i o hi=> ?_,fun i hi=>g3 i (fun e=> ?_)⟩
  ·have:=memN_iff.1 hi
   simp only [zzA130] at this
   subst this
   exact g2 o
  ·subst e; rw [memN_iff.2 (by simp)] at hi; cases hi
 ·split at h
  case h_2=>cases h
  split at h
  ·cases h
  split at h
  case h_2=>cases h
  split at h
  case h_2=>cases h
  rename_i hap
  cases h
  obtain⟨H2',g1,g2,g3⟩:=yA hap hs
  simp only [g1]
  refine⟨_,rfl,fun i o hi=>g2 i o ?_,fun i hi=>g3 i (fun e=> ?_) (fun e=> ?_)⟩
  ·have:=memN_iff.1 hi
   simpa using this
  ·rw [memN_iff.2 (by simp [e])] at hi; cases hi
  ·rw [memN_iff.2 (by simp [e])] at hi; cases hi
theorem u1o {X:Cx} {o:Oper} {tm:List TV} {H H':Heap} {n n':Nat} {v:Value} {ws:List Nat} {l:List Prop} (h:evE X o tm H n=some (v,H',n',ws,l)):o.guard=none∧(n'=n∨n'=n+2):=by
 unfold evE at h
 split at h
 ·cases h
 rename_i hg
 refine⟨hg,?_⟩
 split at h
 ·cases h
 split at h
 case h_3=>cases h
 ·split at h
  case h_2=>cases h
  split at h
  case h_2=>cases h
  cases h
  exact .inl rfl
 ·split at h
  case h_2=>cases h
  split at h
  ·cases h
  split at h
  case h_2=>cases h
  split at h
  case h_2=>cases h
  cases h
  exact .inr rfl
theorem l1d {X:Cx} {os:List Oper} {i:Nat} {o:Oper} (hi:os[i]? =some o) {tm:List TV} {H H':Heap} {n n':Nat} {v0:Value} {ws:List Nat} {l:List Prop} (h:evE X o tm H n=some (v0,H',n',ws,l)) (hl:d9 l)
  {B:Nat} {M:Nat->Prop} {F:Num->Prop} {ρ:Num} (hF:F ρ) {a:Act} {w:World} (hB:B<=w.heap.size) (hS:∀ ρ',F ρ'->Sim X.P B M ρ' H w) {β:Nat->Bool} (hT:∀ ρ',F ρ'->∀ t∈looks os o,E7 ρ' β (A1 tm t) (a.tmps.getD t undef))
  {rb:Option Nat} {K:Act->World->Prop} {Q:Exit->Act->World->Prop}
  (hK:∀ v w' (bn bk:Option Nat),(∀ ρ',F ρ'->(n'=n+2->ρ' n=bn∧ρ' (n+1)=bk)->v=rv ρ' v0∧Sim X.P B M ρ' H' w')->Keeps B M w w'->K (a.put o.dst v) w'):wpOpIn (Fl rb) 0 X.P ⟨os⟩ Q i K a w:=by
 have hoi:(⟨os⟩:Array Oper)[i]? =some o:=by simpa using hi
 unfold wpOpIn
 rw [hoi]
 simp only []
 unfold evE at h
 split at h
 ·cases h
 rename_i hg
 have hwt:Region.wanted o (yielded ⟨os⟩ a.tmps)=true:=by simp [Region.wanted,hg]
 rw [b9 hwt]
 split at h
 ·cases h
 rename_i hglob
 have hglob':∀ x∈o.op.operands.toList,∀ g,x= .global g->g < X.P.globals.size:=by
  intro x hx g e
  subst e
  have:=zzA10.1 hglob _ hx
  simpa [Nat.blt_eq] using this
 have hev:∀ ρ',F ρ'->∀ x∈o.op.operands.toList,∀ y,evo tm [] x=some y->a.eval x=rv ρ' y:=fun ρ' ha x hx y hy=>
  R4 (hS ρ' ha) (lK β) hy (fun t e=>hT ρ' ha t (Q1 (e ▸ hx))) (hglob' x hx)
 split at h
 case h_3=>cases h
 ·rename_i t x y ho
  split at h
  case h_2=>cases h
  rename_i id off sp v hx hy
  split at h
  case h_2=>cases h
  rename_i hst
  cases h
  obtain⟨w',h1,h2,h3,_⟩:=Z2 (hS ρ hF) hst
  have e1:=hev ρ hF x (by simp [ho,zO5]) _ hx
  have e2:=hev ρ hF y (by simp [ho,zO5]) _ hy
  refine G0 (by rw [ho]; intro c hc; cases hc) ?_
  have hex:(execOp a.eval o).run X.P w= .ok .skip w':=by
   simp only [execOp,ho,p8]
   rw [e1,e2,h1]
   rfl
  rw [hex,Oper.uponIn_skip]
  refine hK _ w' none none (fun ρ' ha _=>⟨(dP ρ').symm,?_⟩) h3
  obtain⟨w2,g1,g2,_⟩:=Z2 (hS ρ' ha) hst
  have f1:=hev ρ' ha x (by simp [ho,zO5]) _ hx
  have f2:=hev ρ' ha y (by simp [ho,zO5]) _ hy
  rw [<- f1,<- f2,e1,e2,h1] at g1
  cases g1
  exact g2
 ·rename_i c ho
  split at h
  case h_2=>cases h
  rename_i b hcal
  split at h
  ·cases h
  rename_i happ
  have happ:=yY happ
  subst happ
  split at h
  case h_2=>cases h
  rename_i args hargs
  split at h
  case h_2=>cases h
  rename_i v H1 l1 hv
  cases h
  have ham:∀ x∈c.args.toList,x∈o.op.operands.toList:=fun x hx=>by rw [ho]; simp [zO5,Call.operands,hcal]; simpa using hx
  have e2:∀ ρ',F ρ'->(c.args.map a.eval).toList=rvL ρ' args:=fun ρ' ha=>by
   have:=u5 (a:=a.eval) (ρ:=ρ') c.args.toList args (fun x hx y hy=>hev ρ' ha x (ham x hx) y hy) hargs
   simpa using this
  have e3:c.args.map a.eval=(rvL ρ args).toArray:=by apply gX; exact e2 ρ hF
  obtain⟨v',w',bn,bk,hrun,hk,hfin⟩:=bK hv hl hF hB hS (fun ρ' ha=>(e2 ρ' ha).symm.trans (e2 ρ hF)) o.type
  refine G0 (by rw [ho]; intro c hc; cases hc) ?_
  have hex:(execOp a.eval o).run X.P w= .ok (.value v') w':=by
   simp only [execOp,ho,resolve,hcal,e3,pure_bind,invoke,builtin]
   have:(c.argTypes.toList.toArray:Array TypeId)=c.argTypes:=by simp
   rw [this] at hrun
   simp [hrun]
  rw [hex,mH]
  exact hK v' w' bn bk (fun ρ' ha hn=>hfin ρ' ha (hn rfl).1 (hn rfl).2) hk
def aB:Op->Bool
 | .move _=>true
 | .assign _=>true
 | .build _ _=>true
 | .binOp _ _ _ y _=> !u2x y
 | .unOp _ _ _=>true
 | .makeInterface _ _=>true
 | .makeFunc _ _ _=>true
 | .field _ _ _=>true
 | .index _ _ _=>true
 | .extract _ _=>true
 | .pick _ _ _=>true
 | _=>false
def tP (os:List Oper) (o:Oper) (la:List LaE) (H:Heap):Heap:=match aB o.op with
 | true=>[]
 | false=>iH (fun k=>H9 k (I0 os o)) la H
theorem w0o {os:List Oper} {o:Oper} {la:List LaE} {H:Heap} {j:Nat} {ob:AObj} (h:(tP os o la H).get j=some ob):(iH (fun k=>H9 k (I0 os o)) la H).get j=some ob:=by
 unfold tP at h
 split at h
 ·simp [Heap.get] at h
 ·exact h
theorem l1e {os:List Oper} {o:Oper} {la:List LaE} {H:Heap} {j:Nat} {ob:AObj} (h:(tP os o la H).get j=some ob):H.get j=some ob∨∃ e∈la,H9 e.k (I0 os o)=true∧e.h.get j=some ob:=O8 (w0o h)
theorem a2l {os:List Oper} {o:Oper} {n0 n:Nat} {H:Heap} (hlow:U9 n0 H=true) {la la':List LaE} (hwf:WF n0 la' n) (hsub:∀ e∈la,e∈la') {j:Nat} {ob:AObj} (h:(tP os o la H).get j=some ob):(tP os o la' H).get j=some ob:=by
 unfold tP at h ⊢
 split at h
 ·simp [Heap.get] at h
 ·refine gY hlow hwf ?_
  rcases O8 h with h | ⟨e,he,hk,h⟩
  ·exact .inl h
  ·exact .inr ⟨e,hsub e he,hk,h⟩
def oN (H:Heap):List Nat->Bool
 | [] =>true
 | j ::r=>match H.get j with
  | some _=>false
  | none=>oN H r
theorem zL {H:Heap} :∀ {ws:List Nat} {j:Nat} {o:AObj},oN H ws=true->H.get j=some o->H9 j ws=false
 | [],j,o,_,_=>rfl
 | i ::r,j,o,h,hj=>by
  unfold oN at h
  split at h
  ·cases h
  ·rename_i hi
   have ih:=zL h hj
   cases hm:H9 j (i ::r) with
   | false=>rfl
   | true=>
    exfalso
    rcases zzA84.1 (memN_iff.1 hm) with e | e
    ·subst e; rw [hi] at hj; cases hj
    ·rw [memN_iff.2 e] at ih; cases ih
def e0f (os:List Oper) (re:List Nat) (la:List LaE) (H0:Heap) (ws:List Nat):Nat->Bool
 | 0=>true
 | k+1=>(H9 k re || (match p1r os k with
  | none=>true
  | some o=>oN (tP os o la H0) ws)) && e0f os re la H0 ws k
theorem nN {os:List Oper} {re:List Nat} {la:List LaE} {H0:Heap} {ws:List Nat} :∀ {i:Nat},e0f os re la H0 ws i=true->∀ k o,k < i->os[k]? =some o->H9 k re=true∨oN (tP os o la H0) ws=true
 | 0,_,k,o,hk,_=>by omega
 | i+1,h,k,o,hk,ho=>by
  simp only [e0f,Z0,x5,kX] at h
  by_cases e:k=i
  ·subst e
   rw [ho] at h
   exact h.1
  ·exact nN h.2 k o (by omega) ho
def v1y (p:Nat->Bool):List Nat->Bool
 | [] =>true
 | j ::r=>p j && v1y p r
theorem a0n {p:Nat->Bool} :∀ {l:List Nat},v1y p l=true->∀ j,H9 j l=true->p j=true
 | [],_,j,hj=>by simp [H9] at hj
 | i ::r,h,j,hj=>by
  simp only [v1y,x5] at h
  rcases zzA84.1 (memN_iff.1 hj) with e | e
  ·subst e; exact h.1
  ·exact a0n h.2 j (memN_iff.2 e)
structure HSt where
 tm:List TV
 la:List LaE
 obs:List Prop
 kv:KV
 nid:Nat
 ef:Option Ef
def x1y (X:Cx) (c:Bool) (os:List Oper) (o:Oper) (n0 i:Nat) (H0:Heap) (ds:List Bool) (tm:List TV) (la:List LaE) (kv:KV) (nid:Nat) (ef:Option Ef):Option (List TV×KV×TV×List LaE×Nat×Option Ef×List Prop):=
 match eU o.op with
 | true=>match O7 X false os o tm [] nid ds kv with
  | none=>none
  | some (tm',kv',tv,⟨_,h,_,ob',_⟩)=>some (tm',kv',tv,⟨i,nid,nid+1,h⟩ ::la,nid+1,ef,ob')
 | false=>match O7 X true os o tm (a2s ef (tP os o la H0)) nid ds kv with
  | some (tm',kv',tv,⟨_,_,_,ob',_⟩)=>some (tm',kv',tv,la,nid,ef,ob')
  | none=>match c with
   | false=>none
   | true=>match x2z o.op with
    | false=>match z0q X os o tm (a2s ef (tP os o la H0)) (c1s (fun k=>H9 k (I0 os o)) n0 la) nid kv with
     | none=>none
     | some (tm',kv',tv,fr,n',ob')=>some (tm',kv',tv,⟨i,nid,n',fr⟩ ::la,n',ef,ob')
    | true=>match ef with
     | some _=>none
     | none=>match evE X o tm (tP os o la H0) nid with
      | none=>none
      | some (v,H',n',ws,ob')=>match v1y (r1l (c1s (fun k=>H9 k (I0 os o)) n0 la) nid n') ws && e0f os (I0 os o) la H0 ws i with
       | false=>none
       | true=>some (tm,kv, .v v,⟨i,nid,n',[]⟩ ::la,n',some ⟨i,ws,P2 H' ws⟩,ob')
section
variable {X:Cx} {c:Bool} {os:List Oper} {o:Oper} {n0 i:Nat} {H0:Heap} {ds:List Bool} {tm tm':List TV} {la la':List LaE} {kv kv':KV} {tv:TV} {nid nid':Nat} {ef ef':Option Ef} {ob':List Prop}
theorem I5 (h:x1y X c os o n0 i H0 ds tm la kv nid ef=some (tm',kv',tv,la',nid',ef',ob')):
  (∃ r,O7 X true os o tm (a2s ef (tP os o la H0)) nid ds kv=some (tm',kv',tv,r)∧r.obs=ob'∧eU o.op=false∧la'=la∧nid'=nid∧ef'=ef)∨
  (∃ r,O7 X false os o tm [] nid ds kv=some (tm',kv',tv,r)∧r.obs=ob'∧eU o.op=true∧la'=⟨i,nid,nid+1,r.h⟩ ::la∧nid'=nid+1∧ef'=ef)∨
  (c=true∧∃ fr,z0q X os o tm (a2s ef (tP os o la H0)) (c1s (fun k=>H9 k (I0 os o)) n0 la) nid kv=some (tm',kv',tv,fr,nid',ob')∧la'=⟨i,nid,nid',fr⟩ ::la∧ef'=ef)∨
  (c=true∧ef=none∧∃ v H' ws,evE X o tm (tP os o la H0) nid=some (v,H',nid',ws,ob')∧tm'=tm∧kv'=kv∧tv= .v v∧la'=⟨i,nid,nid',[]⟩ ::la∧ef'=some ⟨i,ws,P2 H' ws⟩∧
   (∀ j,H9 j ws=true->r1l (c1s (fun k=>H9 k (I0 os o)) n0 la) nid nid' j=true)∧(∀ k ok,k < i->os[k]? =some ok->H9 k (I0 os o)=true∨oN (tP os ok la H0) ws=true)):=by
 unfold x1y at h
 split at h
 ·rename_i hlay
  split at h
  ·cases h
  ·rename_i he
   cases h
   exact .inr (.inl ⟨_,he,rfl,hlay,rfl,rfl,rfl⟩)
 ·rename_i hlay
  split at h
  ·rename_i he
   cases h
   exact .inl ⟨_,he,rfl,hlay,rfl,rfl,rfl⟩
  ·split at h
   ·cases h
   ·split at h
    ·split at h
     ·cases h
     ·rename_i he
      cases h
      exact .inr (.inr (.inl ⟨rfl,_,he,rfl,rfl⟩))
    ·split at h
     ·cases h
     ·split at h
      ·cases h
      ·rename_i he
       split at h
       ·cases h
       ·rename_i hok
        simp only [x5] at hok
        cases h
        exact .inr (.inr (.inr ⟨rfl,rfl,_,_,_,he,rfl,rfl,rfl,rfl,rfl,a0n hok.1,nN hok.2⟩))
theorem o0z (h:x1y X c os o n0 i H0 ds tm la kv nid ef=some (tm',kv',tv,la',nid',ef',ob'))
  (hk:∃ β,KVok kv β):(∃ β,KVok kv' β)∧(∀ β,KVok kv' β->KVok kv β)∧tm'.length=tm.length:=by
 rcases I5 h with ⟨r,he,_⟩ | ⟨r,he,_⟩ | ⟨_,fr,he,_⟩ | ⟨_,_,_,_,_,_,e1,e2,_⟩
 ·exact N0 he hk
 ·exact N0 he hk
 ·obtain⟨conds,v,obs0,hg,_⟩:=eJ he
  exact mA hg hk
 ·subst e1 e2
  exact⟨hk,fun _ h=>h,rfl⟩
theorem tS {q:Bool} {tmps tmps':List TV} {H:Heap} {n:Nat} {r:CR}
  (h:O7 X q os o tmps H n ds kv=some (tmps',kv',tv,r)) {ρ:Num} {β:Nat->Bool} (hk:KVok kv' β) (t:Nat) (x:Value):E7 ρ β (A1 tmps t) x↔E7 ρ β (A1 tmps' t) x:=by
 rw [B3] at h
 split at h
 ·cases h
 ·rename_i hg; cases h; exact O2 hg hk t x
 ·rename_i hg
  split at h
  ·cases h
  ·cases h; exact O2 hg hk t x
theorem n1n (h:x1y X c os o n0 i H0 ds tm la kv nid ef=some (tm',kv',tv,la',nid',ef',ob'))
  {ρ:Num} {β:Nat->Bool} (hk:KVok kv' β) (t:Nat) (x:Value):E7 ρ β (A1 tm t) x↔E7 ρ β (A1 tm' t) x:=by
 rcases I5 h with ⟨r,he,_⟩ | ⟨r,he,_⟩ | ⟨_,fr,he,_⟩ | ⟨_,_,_,_,_,_,e1,e2,_⟩
 ·exact tS he hk t x
 ·exact tS he hk t x
 ·obtain⟨conds,v,obs0,hg,_⟩:=eJ he
  exact O2 hg hk t x
 ·rw [e1]
theorem p0a (h:x1y X c os o n0 i H0 ds tm la kv nid ef=some (tm',kv',tv,la',nid',ef',ob')):
  nid<=nid'∧(la'=la∨∃ fr,la'=⟨i,nid,nid',fr⟩ ::la∧∀ j o,fr.get j=some o->nid<=j∧j < nid'):=by
 rcases I5 h with ⟨r,he,_,_,e1,e2,_⟩ | ⟨r,he,_,hl,e1,e2,_⟩ | ⟨_,fr,he,e1,_⟩ | ⟨_,_,_,_,_,he,_,_,_,e1,_⟩
 ·exact⟨by omega, .inl e1⟩
 ·refine⟨by omega, .inr ⟨r.h,by rw [e1,e2],fun j o hj=> ?_⟩⟩
  obtain⟨_,hsh,_⟩:=i0k hl he
  rcases hsh with e | ⟨ob,e⟩
  ·rw [e] at hj; simp [Heap.get] at hj
  ·rw [e,a8] at hj
   split at hj
   ·omega
   ·simp [Heap.get] at hj
 ·obtain⟨h1,h2⟩:=b1d he
  exact⟨h1, .inr ⟨fr,e1,h2⟩⟩
 ·obtain⟨_,h1⟩:=u1o he
  exact⟨by omega, .inr ⟨[],e1,fun j o hj=>by simp [Heap.get] at hj⟩⟩
theorem i1k (h:x1y X c os o n0 i H0 ds tm la kv nid ef=some (tm',kv',tv,la',nid',ef',ob')):ef'=ef∨(c=true∧ef=none∧∃ ws hw,ef'=some ⟨i,ws,hw⟩):=by
 rcases I5 h with ⟨r,_,_,_,_,_,e⟩ | ⟨r,_,_,_,_,_,e⟩ | ⟨_,fr,_,_,e⟩ | ⟨hc,e0,_,_,_,_,_,_,_,_,e,_⟩
 ·exact .inl e
 ·exact .inl e
 ·exact .inl e
 ·exact .inr ⟨hc,e0,_,_,e⟩
end
def aU (X:Cx) (c:Bool) (os:List Oper) (n0:Nat) (H0:Heap) (ds:List Bool) (tm0:List TV) (ob0:List Prop):Nat->Option HSt
 | 0=>some ⟨tm0,[],ob0,[],n0,none⟩
 | i+1=>match aU X c os n0 H0 ds tm0 ob0 i with
  | none=>none
  | some ⟨tm,la,ob,kv,nid,ef⟩=>match p1r os i with
   | none=>none
   | some o=>match x1y X c os o n0 i H0 ds tm la kv nid ef with
    | none=>none
    | some (tm',kv',tv,la',nid',ef',ob')=>some ⟨a1y tm' o.dst tv,la',ob'++ob,kv',nid',ef'⟩
section
variable {X:Cx} {c:Bool} {os:List Oper} {n0:Nat} {H0:Heap} {ds:List Bool} {tm0:List TV} {ob0:List Prop}
theorem C2 {i:Nat} {s':HSt} (h:aU X c os n0 H0 ds tm0 ob0 (i+1)=some s'):
  ∃ s o tm' tv ob',aU X c os n0 H0 ds tm0 ob0 i=some s∧os[i]? =some o∧x1y X c os o n0 i H0 ds s.tm s.la s.kv s.nid s.ef=some (tm',s'.kv,tv,s'.la,s'.nid,s'.ef,ob')∧s'.tm=a1y tm' o.dst tv∧s'.obs=ob'++s.obs:=by
 simp only [aU,Z0] at h
 split at h
 ·cases h
 rename_i tm la ob kv nid ef hs
 split at h
 ·cases h
 rename_i o ho
 split at h
 ·cases h
 rename_i he
 cases h
 exact⟨_,o,_,_,_,hs,ho,he,rfl,rfl⟩
theorem rP:∀ {j i:Nat} {r:HSt},i<=j->aU X c os n0 H0 ds tm0 ob0 j=some r->∃ q,aU X c os n0 H0 ds tm0 ob0 i=some q
 | 0,i,r,hij,h=>by
  obtain rfl:i=0:=by omega
  exact⟨r,h⟩
 | j+1,i,r,hij,h=>by
  by_cases e:i=j+1
  ·subst e; exact⟨r,h⟩
  ·obtain⟨s,o,_,_,_,hs,_⟩:=C2 h
   exact rP (by omega) hs
theorem lN:∀ {j i:Nat} {si sj:HSt},i<=j->aU X c os n0 H0 ds tm0 ob0 i=some si->aU X c os n0 H0 ds tm0 ob0 j=some sj->d9 sj.obs->d9 si.obs
 | 0,i,si,sj,hij,h1,h2,hl=>by
  obtain rfl:i=0:=by omega
  rw [h1] at h2; cases h2; exact hl
 | j+1,i,si,sj,hij,h1,h2,hl=>by
  by_cases e:i=j+1
  ·subst e; rw [h1] at h2; cases h2; exact hl
  ·obtain⟨s,o,_,_,_,hs,_,_,_,ho⟩:=C2 h2
   rw [ho] at hl
   exact lN (by omega) h1 hs ((i6 _ _).1 hl).2
theorem A0:∀ {i:Nat} {s:HSt},aU X c os n0 H0 ds tm0 ob0 i=some s->(∃ β,KVok s.kv β)∧s.tm.length=tm0.length
 | 0,s,h=>by simp only [aU] at h; cases h; exact⟨⟨fun _=>false,fun p hp=>by cases hp⟩,rfl⟩
 | i+1,s,h=>by
  obtain⟨s1,o,_,_,_,hs,_,he,h1,_⟩:=C2 h
  obtain⟨e1,e2⟩:=A0 hs
  obtain⟨g1,_,g3⟩:=o0z he e1
  exact⟨g1,by rw [h1,Z3]; omega⟩
theorem eI {β:Nat->Bool} :∀ {j i:Nat} {si sj:HSt},i<=j->aU X c os n0 H0 ds tm0 ob0 i=some si->aU X c os n0 H0 ds tm0 ob0 j=some sj->KVok sj.kv β->KVok si.kv β
 | 0,i,si,sj,hij,h1,h2,hk=>by
  obtain rfl:i=0:=by omega
  rw [h1] at h2; cases h2; exact hk
 | j+1,i,si,sj,hij,h1,h2,hk=>by
  by_cases e:i=j+1
  ·subst e; rw [h1] at h2; cases h2; exact hk
  ·obtain⟨s,o,_,_,_,hs,_,he,_⟩:=C2 h2
   exact eI (by omega) h1 hs ((o0z he (A0 hs).1).2.1 β hk)
theorem G8 {ρ:Num} {β:Nat->Bool} {t:Nat} {r:Value} :∀ {j i:Nat} {si sj:HSt},i<=j->aU X c os n0 H0 ds tm0 ob0 i=some si->aU X c os n0 H0 ds tm0 ob0 j=some sj->KVok sj.kv β->
  (∀ k o,i<=k->k < j->os[k]? =some o->o.dst≠some t)->(E7 ρ β (A1 si.tm t) r↔E7 ρ β (A1 sj.tm t) r)
 | 0,i,si,sj,hij,h1,h2,_,_=>by
  obtain rfl:i=0:=by omega
  rw [h1] at h2; cases h2; exact Q8
 | j+1,i,si,sj,hij,h1,h2,hk,hw=>by
  by_cases e:i=j+1
  ·subst e; rw [h1] at h2; cases h2; exact Q8
  ·obtain⟨s,o,tm',tv,ob',hs,hoj,he,e1,_⟩:=C2 h2
   have hkv:KVok s.kv β:=eI (by omega) hs h2 hk
   refine (G8 (by omega) h1 hs hkv (fun k o' hk1 hk2=>hw k o' hk1 (by omega))).trans ?_
   rw [e1,R7,a6 (fun hh=>hw j o (by omega) (by omega) hoj hh.1)]
   exact n1n he hk t r
theorem mN:∀ {i:Nat} {s:HSt},aU X c os n0 H0 ds tm0 ob0 i=some s->WF n0 s.la s.nid∧∀ e∈s.la,e.k < i
 | 0,s,h=>by simp only [aU] at h; cases h; exact⟨d7 _,fun e he=>by cases he⟩
 | i+1,s,h=>by
  obtain⟨s1,o,_,_,_,hs,_,he,_⟩:=C2 h
  obtain⟨h1,h2⟩:=mN hs
  obtain⟨g1,g2⟩:=p0a he
  rcases g2 with g2 | ⟨fr,g2,g3⟩
  ·rw [g2]
   exact⟨h1.mono g1,fun e he=>Nat.lt_succ_of_lt (h2 e he)⟩
  ·rw [g2]
   refine⟨⟨h1,g1,d7 _,g3⟩,fun e he=> ?_⟩
   rcases zzA84.1 he with rfl | he
   ·exact aX _
   ·exact Nat.lt_succ_of_lt (h2 e he)
theorem qM:∀ {j i:Nat} {si sj:HSt},i<=j->aU X c os n0 H0 ds tm0 ob0 i=some si->aU X c os n0 H0 ds tm0 ob0 j=some sj->si.nid<=sj.nid∧∃ ex,sj.la=ex++si.la∧∀ e∈ex,i<=e.k∧si.nid<=e.lo
 | 0,i,si,sj,hij,h1,h2=>by
  obtain rfl:i=0:=by omega
  rw [h1] at h2; cases h2
  exact⟨d7 _,[],rfl,fun e he=>by cases he⟩
 | j+1,i,si,sj,hij,h1,h2=>by
  by_cases e:i=j+1
  ·subst e; rw [h1] at h2; cases h2
   exact⟨d7 _,[],rfl,fun e he=>by cases he⟩
  ·obtain⟨s1,o,_,_,_,hs,_,he,_⟩:=C2 h2
   obtain⟨f1,ex,f2,f3⟩:=qM (by omega) h1 hs
   obtain⟨g1,g2⟩:=p0a he
   refine⟨x7 f1 g1,?_⟩
   rcases g2 with g2 | ⟨fr,g2,_⟩
   ·exact⟨ex,by rw [g2,f2],f3⟩
   ·refine⟨⟨j,s1.nid,sj.nid,fr⟩ ::ex,by rw [g2,f2]; rfl,fun e he=> ?_⟩
    rcases zzA84.1 he with rfl | he
    ·exact⟨by show i<=j; omega,f1⟩
    ·exact f3 e he
end
theorem rK {f g:Nat->Bool} {ef:Option Ef} (hf:∀ e ws hw,ef=some ⟨e,ws,hw⟩->f e=g e) {H H2:Heap} (hs:∀ j o,H.get j=some o->H2.get j=some o):∀ j o,(yV f ef H).get j=some o->(yV g ef H2).get j=some o:=by
 intro j o h
 cases ef with
 | none=>exact hs j o h
 | some q=>
  obtain⟨e,ws,hw⟩:=q
  have he:=hf e ws hw rfl
  simp only [yV,<- he] at h ⊢
  split at h
  ·rw [u3] at h ⊢
   split at h
   ·exact h
   ·obtain⟨h1,h2⟩:=I2 h
    exact W4 (hs j o h1) h2
  ·exact hs j o h
section
variable {X:Cx} {c:Bool} {os:List Oper} {n0:Nat} {H0:Heap} {ds:List Bool} {tm0:List TV} {ob0:List Prop}
theorem tU:∀ {j i:Nat} {si sj:HSt},i<=j->aU X c os n0 H0 ds tm0 ob0 i=some si->aU X c os n0 H0 ds tm0 ob0 j=some sj->sj.ef=si.ef∨si.ef=none
 | 0,i,si,sj,hij,h1,h2=>by
  obtain rfl:i=0:=by omega
  rw [h1] at h2; cases h2
  exact .inl rfl
 | j+1,i,si,sj,hij,h1,h2=>by
  by_cases e:i=j+1
  ·subst e; rw [h1] at h2; cases h2
   exact .inl rfl
  ·obtain⟨s1,o,_,_,_,hs,_,he,_⟩:=C2 h2
   have ih:=tU (by omega) h1 hs
   rcases i1k he with g | ⟨_,g,_⟩
   ·rw [g]; exact ih
   ·rcases ih with e' | e'
    ·exact .inr (e'.symm.trans g)
    ·exact .inr e'
theorem a0m:∀ {j:Nat} {sj:HSt},aU X false os n0 H0 ds tm0 ob0 j=some sj->sj.ef=none
 | 0,sj,h=>by simp only [aU] at h; cases h; rfl
 | j+1,sj,h=>by
  obtain⟨s1,o,_,_,_,hs,_,he,_⟩:=C2 h
  rcases i1k he with g | ⟨g,_⟩
  ·rw [g]; exact a0m hs
  ·cases g
theorem mV:∀ {m:Nat} {sm:HSt},aU X c os n0 H0 ds tm0 ob0 m=some sm->∀ {e:Nat} {ws:List Nat} {hw:Heap},sm.ef=some ⟨e,ws,hw⟩->
  ∃ se s1 oe H',e < m∧aU X c os n0 H0 ds tm0 ob0 e=some se∧aU X c os n0 H0 ds tm0 ob0 (e+1)=some s1∧os[e]? =some oe∧se.ef=none∧s1.ef=some ⟨e,ws,hw⟩∧s1.la=⟨e,se.nid,s1.nid,[]⟩ ::se.la∧hw=P2 H' ws∧
   (∀ j,H9 j ws=true->r1l (c1s (fun k=>H9 k (I0 os oe)) n0 se.la) se.nid s1.nid j=true)∧(∀ k ok,k < e->os[k]? =some ok->H9 k (I0 os oe)=true∨oN (tP os ok se.la H0) ws=true)
 | 0,sm,h,e,ws,hw,he=>by simp only [aU] at h; cases h; cases he
 | m+1,sm,h,e,ws,hw,he=>by
  obtain⟨s1,o,tm',tv,ob',hs,ho,hop,_⟩:=C2 h
  have old:sm.ef=s1.ef->_:=fun g=>mV hs (g ▸ he)
  have lift:sm.ef=s1.ef->∃ se s1 oe H',e < m+1∧aU X c os n0 H0 ds tm0 ob0 e=some se∧aU X c os n0 H0 ds tm0 ob0 (e+1)=some s1∧os[e]? =some oe∧se.ef=none∧s1.ef=some ⟨e,ws,hw⟩∧s1.la=⟨e,se.nid,s1.nid,[]⟩ ::se.la∧hw=P2 H' ws∧
   (∀ j,H9 j ws=true->r1l (c1s (fun k=>H9 k (I0 os oe)) n0 se.la) se.nid s1.nid j=true)∧(∀ k ok,k < e->os[k]? =some ok->H9 k (I0 os oe)=true∨oN (tP os ok se.la H0) ws=true):=fun g=>by
   obtain⟨se,s1',oe,H',g0,g1⟩:=old g
   exact⟨se,s1',oe,H',by omega,g1⟩
  rcases I5 hop with ⟨r,_,_,_,_,_,g⟩ | ⟨r,_,_,_,_,_,g⟩ | ⟨_,fr,_,_,g⟩ | ⟨_,g0,v,H',ws',hev,_,_,_,gla,gef,g1,g2⟩
  ·exact lift g
  ·exact lift g
  ·exact lift g
  ·rw [he] at gef
   cases gef
   exact⟨s1,sm,o,H',by omega,hs,h,ho,g0,he,gla,rfl,g1,g2⟩
end
def AgL (la:List LaE) (n0:Nat) (listed:Array Bool) (ρ ρ':Num):Prop:=∀ j,(j < n0∨∃ e∈la,Lst listed e.k∧e.lo<=j∧j < e.hi)->ρ' j=ρ j
def X2 (listed:Array Bool) (k:Nat):Bool:=listed.getD k false
structure HalfL (X:Cx) (J:Inv X.P) (B:Nat) (M:Nat->Prop) (w0:Bas) (os:List Oper) (m:Nat) (s0:St) (a0:Act) (ρ0:Num) (sm:HSt) (listed:Array Bool) (a:Act) (w:World):Prop where
 size:listed.size=os.length
 closed:∀ j o,os[j]? =some o->Lst listed j->∀ e∈m8 o,Lst listed e
 late:∀ t,m<=t->¬ Lst listed t
 asize:a.tmps.size=s0.tmps.length
 defers:a.defers=w0.dfs
 base:B<=w.heap.size
 inv:J.I w
 keeps:Keeps B M w0.w w
 old:∀ t,(∀ k o,k < m->Lst listed k->os[k]? =some o->o.dst≠some t)->a.tmps.getD t undef=a0.tmps.getD t undef
 rep:∃ ρ,Agree s0.nid ρ0 ρ∧∀ ρ',AgL sm.la s0.nid listed ρ ρ'->Sim X.P B M ρ' (yV (X2 listed) sm.ef (iH (X2 listed) sm.la s0.heap)) w∧
  ∀ k o d,k < m->Lst listed k->os[k]? =some o->o.dst=some d->∀ β,KVok sm.kv β->E7 ρ' β (A1 sm.tm d) (a.tmps.getD d undef)
def HSt.toSt (h:HSt) (s:St):St:=⟨h.tm,yV (fun _=>true) h.ef (iH (fun _=>true) h.la s.heap),h.nid,s.ds,h.obs,s.lp,s.rd,s.mks,s.bs⟩
theorem h0i {X:Cx} {J:Inv X.P} {c:Bool} {B:Nat} {M:Nat->Prop} {w0:Bas} {os:List Oper} {m:Nat} {s0:St} {a0:Act} {ρ:Num} {sm:HSt} (hm:aU X c os s0.nid s0.heap s0.ds s0.tmps s0.obs m=some sm) (hlow:U9 s0.nid s0.heap=true)
  (h0:∀ ρ',Agree s0.nid ρ ρ'->∀ β t,E7 ρ' β (A1 s0.tmps t) (a0.tmps.getD t undef)) {listed:Array Bool} {a:Act} {w:World}
  (h:HalfL X J B M w0 os m s0 a0 ρ sm listed a w) (hρ0:w0.n<=s0.nid∧Agree w0.n w0.ρ ρ) (hall:∀ k,k < m->Lst listed k):RepR X.P J B M w0 sm.kv (sm.toSt s0) a w:=by
 obtain⟨e4,e5⟩:=A0 hm
 obtain⟨hwf,hlt⟩:=mN hm
 obtain⟨ρ1,hρ1,hrep⟩:=h.rep
 have hle:s0.nid<=sm.nid:=hwf.le
 refine⟨by show _=sm.tm.length; rw [e5]; exact h.asize,h.defers,h.base,h.inv,h.keeps,e4,ρ1,⟨by show _<=sm.nid; omega,hρ0.2.trans hρ1 hρ0.1⟩,fun ρ' ha=> ?_⟩
 have ha:Agree sm.nid ρ1 ρ':=ha
 have hL:AgL sm.la s0.nid listed ρ1 ρ':=fun j hj=>ha j (by
  rcases hj with hj | ⟨e,he,_,_,h2⟩
  ·omega
  ·have:=(hwf.span e he).2.2.1
   omega)
 obtain⟨hsim,hnew⟩:=hrep ρ' hL
 refine⟨hsim.less fun j o hj=> ?_,fun β hβ t=> ?_⟩
 ·refine rK (f:=fun _=>true) (fun e ws hw he=> ?_) (fun j o hj=> ?_) j o hj
  ·obtain⟨_,_,_,_,hem,_⟩:=mV hm he
   exact (hall e hem).symm
  refine gY hlow hwf ?_
  rcases O8 (f:=fun _=>true) (la:=sm.la) (H0:=s0.heap) hj with hj | ⟨e,he,_,hj⟩
  ·exact .inl hj
  ·exact .inr ⟨e,he,hall e.k (hlt e he),hj⟩
 ·by_cases hw:∃ k o,k < m∧os[k]? =some o∧o.dst=some t
  ·obtain⟨k,o,hk,ho,hdst⟩:=hw
   exact hnew k o t hk (hall k hk) ho hdst β hβ
  ·have hno:∀ k o,k < m->os[k]? =some o->o.dst≠some t:=fun k o hk ho e=>hw ⟨k,o,hk,ho,e⟩
   rw [h.old t (fun k o hk _ ho=>hno k o hk ho)]
   exact (G8 (n6 m) rfl hm hβ (fun k o _ hk ho=>hno k o hk ho)).1 (h0 ρ' (hρ1.trans (fun i hi=>ha i (by omega)) (d7 _)) β t)
theorem b1q {X:Cx} {J:Inv X.P} (hX:CxOk X J) {c:Bool} {B:Nat} {M:Nat->Prop} (hp:Par X.P B M) {w0:Bas} {os:List Oper} {m:Nat} (hd:Draws os m) {s0:St} {a0:Act} {ρ0:Num} {sm:HSt} (hm:aU X c os s0.nid s0.heap s0.ds s0.tmps s0.obs m=some sm) (hlow:U9 s0.nid s0.heap=true) (hl:d9 sm.obs)
  (h0:∀ ρ',Agree s0.nid ρ0 ρ'->∀ β t,E7 ρ' β (A1 s0.tmps t) (a0.tmps.getD t undef)) {listed:Array Bool} {a:Act} {w:World}
  (h:HalfL X J B M w0 os m s0 a0 ρ0 sm listed a w) {i:Nat} (him:i < m) (hr:i∈Region.ready .any ⟨os⟩ listed) {rb:Option Nat} {K:Act->World->Prop} {Q:Exit->Act->World->Prop}
  (hK:∀ a' w',HalfL X J B M w0 os m s0 a0 ρ0 sm (listed.setIfInBounds i true) a' w'->K a' w'):wpOpIn (Fl rb) 0 X.P ⟨os⟩ Q i K a w:=by
 obtain⟨⟨hi,hnl⟩,o,ho,hpre⟩:=ready_iff.1 hr
 obtain⟨s1,hq1⟩:=rP (i:=i+1) (by omega) hm
 obtain⟨si,o',tmps',tv,ob',hsi,ho',he,e1,e3⟩:=C2 hq1
 rw [ho] at ho'
 cases ho'
 have hobs:=lN (by omega) hq1 hm hl
 rw [e3] at hobs
 obtain⟨_,elen⟩:=A0 hsi
 simp only [i6] at hobs
 have hsub:∀ β,KVok sm.kv β->KVok s1.kv β:=fun β hβ=>eI (by omega) hq1 hm hβ
 have hsubi:∀ β,KVok sm.kv β->KVok si.kv β:=fun β hβ=>eI (by omega) hsi hm hβ
 obtain⟨hwf,_⟩:=mN hm
 obtain⟨hwfi,hlti⟩:=mN hsi
 obtain⟨hwf1,_⟩:=mN hq1
 obtain⟨hn1,hla1⟩:=p0a he
 obtain⟨_,ex,hex1,hex2⟩:=qM (by omega:i+1<=m) hq1 hm
 have hn0:s0.nid<=si.nid:=hwfi.le
 have hsi_sm:∀ e∈si.la,e∈sm.la:=fun e he'=>by
  rw [hex1]
  refine a0d _ ?_
  rcases hla1 with g | ⟨fr,g,_⟩
  ·rw [g]; exact he'
  ·rw [g]; exact R8 _ he'
 have entry:∀ e∈sm.la,(e∈si.la)∨(e.k=i∧e∈s1.la)∨(i < e.k∧s1.nid<=e.lo):=fun e he'=>by
  rw [hex1] at he'
  rcases zzA92.1 he' with he' | he'
  ·have:=hex2 e he'
   exact .inr (.inr ⟨by omega,this.2⟩)
  ·rcases hla1 with g | ⟨fr,g,_⟩
   ·rw [g] at he'; exact .inl he'
   ·have he2:=he'
    rw [g] at he'
    rcases zzA84.1 he' with e' | he'
    ·exact .inr (.inl ⟨by rw [e'],he2⟩)
    ·exact .inl he'
 have apart:∀ e∈sm.la,e.k≠i->∀ j,e.lo<=j->j < e.hi->¬ (si.nid<=j∧j < s1.nid):=fun e he' hne j h1 h2 h3=>by
  rcases entry e he' with h' | h' | h'
  ·have:=(hwfi.span e h').2.2.1
   omega
  ·exact hne h'.1
  ·omega
 obtain⟨ρ,hρ0,hrep⟩:=h.rep
 have hisz:i < listed.size:=hi
 have hback:∀ ρ1:Num,(∀ j,¬ (si.nid<=j∧j < s1.nid)->ρ1 j=ρ j)->∀ ρ',AgL sm.la s0.nid (listed.setIfInBounds i true) ρ1 ρ'->AgL sm.la s0.nid listed ρ ρ':=fun ρ1 hρ1 ρ' ha j hj=>by
  have h1:=ha j (by
   rcases hj with hj | ⟨e,he',hle,hjk⟩
   ·exact .inl hj
   ·exact .inr ⟨e,he',(s5 hisz).2 (.inr hle),hjk⟩)
  rw [h1]
  refine hρ1 j ?_
  rcases hj with hj | ⟨e,he',hle,h2,h3⟩
  ·omega
  ·exact apart e he' (fun e'=>hnl (by rw [<- e']; exact hle)) j h2 h3
 have hT:∀ ρ',AgL sm.la s0.nid listed ρ ρ'->∀ β,KVok sm.kv β->∀ t∈looks os o,E7 ρ' β (A1 si.tm t) (a.tmps.getD t undef):=by
  intro ρ' ha β hβ t ht
  obtain⟨_,hnw⟩:=hrep ρ' ha
  by_cases hw:∃ k ok,k < m∧Lst listed k∧os[k]? =some ok∧ok.dst=some t
  ·obtain⟨k,ok,hk,hlk,hok,hdk⟩:=hw
   have hki:k < i:=by
    rcases hd.slot i o him ho t ht k ok hk hok hdk with e | e | e
    ·subst e; exact absurd hlk hnl
    ·exact hd.fwd i o ho k e
    ·exact absurd (h.closed k ok hok hlk i e) hnl
   have:=hnw k ok t hk hlk hok hdk β hβ
   refine (G8 (by omega:i<=m) hsi hm hβ (fun k2 o2 hk1 hk2 ho2 hd2=> ?_)).2 this
   have:=hd.dup k k2 ok o2 t hk hk2 hok ho2 hdk hd2
   omega
  ·have hno:∀ k ok,k < m->Lst listed k->os[k]? =some ok->ok.dst≠some t:=fun k ok hk hlk hok e=>hw ⟨k,ok,hk,hlk,hok,e⟩
   rw [h.old t hno]
   refine (G8 (n6 i) rfl hsi (hsubi β hβ) (fun k ok _ hk hok hdk=> ?_)).1 (h0 ρ' (fun j hj=> ?_) β t)
   ·rcases hd.slot i o him ho t ht k ok (by omega) hok hdk with e | e | e
    ·omega
    ·exact hno k ok (by omega) (hpre k e) hok hdk
    ·have:=hd.fwd k ok hok i e
     omega
   ·rw [ha j (.inl hj)]; exact hρ0 j hj
 have hreach:∀ k,H9 k (I0 os o)=true->Lst listed k:=by
  intro k hk
  refine cA (L:=Lst listed) (fun p hp e he=> ?_) 400 (m8 o) [] hpre (fun p hp=>by cases hp) k (memN_iff.1 hk)
  unfold tJ at he
  split at he
  ·rename_i op hop; exact h.closed p op hop hp e he
  ·cases he
 have hSeen:∀ k,X2 (listed.setIfInBounds i true) k=true↔k=i∨X2 listed k=true:=fun k=>s5 hisz
 have hsee:∀ j ob,(tP os o si.la s0.heap).get j=some ob->(iH (X2 listed) sm.la s0.heap).get j=some ob:=fun j ob hj=>by
  refine gY hlow hwf ?_
  rcases l1e hj with hj | ⟨e,he',hk,hj⟩
  ·exact .inl hj
  ·exact .inr ⟨e,hsi_sm e he',hreach e.k hk,hj⟩
 have fin:∀ (ρ1:Num),(∀ j,¬ (si.nid<=j∧j < s1.nid)->ρ1 j=ρ j)->∀ (Hr:Heap) (v:Value) (w':World),(∀ j ob,(yV (X2 (listed.setIfInBounds i true)) sm.ef (iH (X2 (listed.setIfInBounds i true)) sm.la s0.heap)).get j=some ob->Hr.get j=some ob)->
   (∀ ρ',AgL sm.la s0.nid (listed.setIfInBounds i true) ρ1 ρ'->Sim X.P B M ρ' Hr w'∧∀ β,KVok sm.kv β->E7 ρ' β tv v)->Keeps B M w w'->K (a.put o.dst v) w':=by
  intro ρ1 hρ1 Hr v w' hHr hfin hk
  have hag1:Agree s0.nid ρ0 ρ1:=fun j hj=>by rw [hρ1 j (by omega)]; exact hρ0 j hj
  refine hK _ _ ?_
  refine⟨by simpa using h.size,fun j oj hoj hlj e he'=> ?_,fun t ht hlt'=> ?_,by rw [Y9]; exact h.asize,by rw [L7]; exact h.defers,x7 h.base hk.size,J.keeps hp hk h.inv,h.keeps.trans hk,
   fun t hno=> ?_,ρ1,hag1,fun ρ' ha'=>⟨(hfin ρ' ha').1.less hHr,fun k ok d hkm hlk hok hdk β hβ=> ?_⟩⟩
  ·rw [s5 hisz] at hlj ⊢
   rcases hlj with rfl | hlj
   ·rw [ho] at hoj; cases hoj
    exact .inr (hpre e he')
   ·exact .inr (h.closed j oj hoj hlj e he')
  ·rw [s5 hisz] at hlt'
   rcases hlt' with rfl | hlt'
   ·omega
   ·exact h.late t ht hlt'
  ·rw [M9,a6 (fun hh=>hno i o him ((s5 hisz).2 (.inl rfl)) ho hh.1)]
   exact h.old t (fun k ok hkm hlk hok=>hno k ok hkm ((s5 hisz).2 (.inr hlk)) hok)
  ·rw [M9]
   by_cases hki:k=i
   ·subst hki
    rw [ho] at hok
    cases hok
    by_cases hds:d < a.tmps.size
    ·rw [b9 ⟨hdk,hds⟩]
     have hslot:=G8 (X:=X) (os:=os) (ρ:=ρ') (β:=β) (t:=d) (r:=v) (by omega:k+1<=m) hq1 hm hβ (fun k2 o2 hk1 hk2 ho2 hd2=>by
      have:=hd.dup k k2 o o2 d hkm hk2 ho ho2 hdk hd2
      omega)
     rw [<- hslot,e1]
     obtain⟨_,_,hl'⟩:=o0z he (A0 hsi).1
     rw [R7,b9 ⟨hdk,by rw [hl',elen,<- h.asize]; exact hds⟩]
     exact (hfin ρ' ha').2 β hβ
    ·
     have hnone:A1 sm.tm d= .unk:=by
      simp only [K1]
      have e7:sm.tm.length=s0.tmps.length:=(A0 hm).2
      have e8:a.tmps.size=s0.tmps.length:=h.asize
      have e9:a.tmps.size<=d:=jI hds
      rw [k0s (by omega)]
     rw [hnone]
     trivial
   ·have hlk':Lst listed k:=by
     rcases (s5 hisz).1 hlk with e | e
     ·exact absurd e hki
     ·exact e
    have hne:o.dst≠some d:=fun e=>hki (hd.dup k i ok o d hkm him hok ho hdk e)
    rw [a6 (fun hh=>hne hh.1)]
    exact (hrep ρ' (hback ρ1 hρ1 ρ' ha')).2 k ok d hkm hlk' hok hdk β hβ
 have front:∀ (fr:Heap),s1.la=⟨i,si.nid,s1.nid,fr⟩ ::si.la->∀ j ob,(iH (X2 (listed.setIfInBounds i true)) sm.la s0.heap).get j=some ob->Heap.get (fr++iH (X2 listed) sm.la s0.heap) j=some ob:=by
  intro fr hfr j ob hj
  have hkeys:∀ j o,fr.get j=some o->si.nid<=j∧j < s1.nid:=by
   rw [hfr] at hwf1
   exact hwf1.2.2.2
  have far:(j < s0.nid∨∃ e∈sm.la,e.k≠i∧e.lo<=j∧j < e.hi)->fr.get j=none:=fun hj'=>by
   cases hq:fr.get j with
   | none=>rfl
   | some o2=>
    have:=hkeys j o2 hq
    rcases hj' with h' | ⟨e,he',hne,h2,h3⟩
    ·omega
    ·exact absurd this (apart e he' hne j h2 h3)
  rw [u3]
  rcases O8 hj with hj' | ⟨e,he',hk,hj'⟩
  ·rw [far (.inl (gV hlow hj'))]
   exact gY hlow hwf (.inl hj')
  ·by_cases hki:e.k=i
   ·have:e=⟨i,si.nid,s1.nid,fr⟩:=by
     rcases entry e he' with h' | h' | h'
     ·have:=hlti e h'; omega
     ·have h2:=h'.2
      rw [hfr] at h2
      rcases zzA84.1 h2 with h2 | h2
      ·exact h2
      ·have:=hlti e h2; omega
     ·omega
    rw [this] at hj'
    rw [hj']
   ·obtain⟨_,_,_,h4⟩:=hwf.span e he'
    have:=h4 j ob hj'
    rw [far (.inr ⟨e,he',hki,this.1,this.2⟩)]
    rcases (hSeen e.k).1 hk with h' | h'
    ·exact absurd h' hki
    ·exact gY hlow hwf (.inr ⟨e,he',h',hj'⟩)
 have calm:s1.la=si.la->∀ j ob,(iH (X2 (listed.setIfInBounds i true)) sm.la s0.heap).get j=some ob->(iH (X2 listed) sm.la s0.heap).get j=some ob:=by
  intro hno j ob hj
  refine gY hlow hwf ?_
  rcases O8 hj with hj' | ⟨e,he',hk,hj'⟩
  ·exact .inl hj'
  ·refine .inr ⟨e,he',?_,hj'⟩
   rcases (hSeen e.k).1 hk with h' | h'
   ·exfalso
    rcases entry e he' with g | g | g
    ·have:=hlti e g; omega
    ·have g2:=g.2
     rw [hno] at g2
     have:=hlti e g2; omega
    ·omega
   ·exact h'
 have wrote:∀ {e ws hw},sm.ef=some ⟨e,ws,hw⟩->s1.ef=si.ef->e≠i∧(∀ j o,H9 j ws=false->hw.get j=some o->False)∧(∀ j o,hw.get j=some o->H9 j ws=true)∧(e < i->si.ef=some ⟨e,ws,hw⟩)∧(i < e->si.ef=none)∧
   (X2 listed e=true->∀ j,H9 j ws=true->¬ (si.nid<=j∧j < s1.nid))∧(i < e->X2 listed e=true->∀ j ob,(tP os o si.la s0.heap).get j=some ob->H9 j ws=false):=by
  intro e ws hw hsm hns
  obtain⟨se,sx,oe,H',hem,hse,hsx,hoe,g1,g2,g3,g4,g5,g6⟩:=mV hm hsm
  have hei:e≠i:=fun e'=>by
   subst e'
   rw [hsi] at hse; cases hse
   rw [hq1] at hsx; cases hsx
   rw [hns,g1] at g2
   cases g2
  obtain⟨_,exx,hexx1,_⟩:=qM (by omega:e+1<=m) hsx hm
  have hse_sm:∀ e'∈se.la,e'∈sm.la:=fun e' he'=>by
   rw [hexx1,g3]
   exact a0d _ (R8 _ he')
  have hreachE:X2 listed e=true->∀ k,H9 k (I0 os oe)=true->Lst listed k:=by
   intro hle k hk
   refine cA (L:=Lst listed) (fun p hp e he=> ?_) 400 (m8 oe) [] (fun p hp=>h.closed e oe hoe hle p hp) (fun p hp=>by cases hp) k (memN_iff.1 hk)
   unfold tJ at he
   split at he
   ·rename_i op hop; exact h.closed p op hop hp e he
   ·cases he
  refine⟨hei,fun j o hj hg=> ?_,fun j o hg=> ?_,fun hlt=> ?_,fun hlt=> ?_,fun hle j hj hcon=> ?_,fun hlt hle j ob hj=> ?_⟩
  ·rw [g4,j0b hj] at hg; cases hg
  ·rw [g4] at hg; exact (R3 hg).2
  ·rcases tU (by omega:e+1<=i) hsx hsi with e' | e'
   ·rw [e',g2]
   ·rw [g2] at e'; cases e'
  ·rcases tU (by omega:i<=e) hsi hse with e' | e'
   ·rw [<- e',g1]
   ·exact e'
  ·have:=g5 j hj
   simp only [r1l,kX,x5,M8,D1] at this
   rcases this with h' | h'
   ·rcases iS h' with h' | ⟨e',he',hk,h2,h3⟩
    ·omega
    ·exact apart e' (hse_sm e' he') (fun e''=>hnl (by rw [<- e'']; exact hreachE hle e'.k hk)) j h2 h3 hcon
   ·exact apart ⟨e,se.nid,sx.nid,[]⟩ (by rw [hexx1,g3]; simp) hei j h'.1 h'.2 hcon
  ·obtain⟨hwfs,_⟩:=mN hse
   obtain⟨_,exy,hexy,_⟩:=qM (by omega:i<=e) hsi hse
   rcases g6 i o hlt ho with h' | h'
   ·exact absurd (hreachE hle i h') hnl
   ·exact zL h' (j:=j) (o:=ob) (a2l hlow hwfs (fun e' he'=>by rw [hexy]; exact a0d _ he') hj)
 have same:∀ {e},e≠i->X2 (listed.setIfInBounds i true) e=X2 listed e:=fun {e} hne=>by
  have h1:=hSeen e
  cases hs:X2 listed e with
  | true=>exact h1.2 (.inr hs)
  | false=>
   cases hs':X2 (listed.setIfInBounds i true) e with
   | false=>rfl
   | true=>
    rcases h1.1 hs' with h' | h'
    ·exact absurd h' hne
    ·rw [hs] at h'; cases h'
 have hseeE:s1.ef=si.ef->∀ j ob,(a2s si.ef (tP os o si.la s0.heap)).get j=some ob->(yV (X2 listed) sm.ef (iH (X2 listed) sm.la s0.heap)).get j=some ob:=by
  intro hns j ob hj
  cases hsm:sm.ef with
  | none=>
   have:si.ef=none:=by
    rcases tU (by omega:i<=m) hsi hm with e | e
    ·rw [<- e,hsm]
    ·exact e
   rw [this] at hj
   exact hsee j ob hj
  | some q=>
   obtain⟨e,ws,hw⟩:=q
   obtain⟨hei,w1,w2,w3,w4,w5,w6⟩:=wrote hsm hns
   have key:∀ j ob,(tP os o si.la s0.heap).get j=some ob->(X2 listed e=true->H9 j ws=false)->(yV (X2 listed) (some ⟨e,ws,hw⟩) (iH (X2 listed) sm.la s0.heap)).get j=some ob:=by
    intro j ob g1 g2
    simp only [yV]
    split
    ·rename_i hse
     rw [u3]
     split
     ·rename_i o2 ho2
      exact absurd ho2 (fun hh=>w1 j o2 (g2 hse) hh)
     ·exact W4 (hsee j ob g1) (g2 hse)
    ·exact hsee j ob g1
   rcases Nat.lt_or_gt_of_ne hei with hlt | hlt
   ·rw [w3 hlt] at hj
    obtain⟨g1,g2⟩:=I2 hj
    exact key j ob g1 (fun _=>g2)
   ·rw [w4 hlt] at hj
    exact key j ob hj (fun hse=>w6 hlt hse j ob hj)
 have frontE:∀ (fr:Heap),s1.la=⟨i,si.nid,s1.nid,fr⟩ ::si.la->s1.ef=si.ef->∀ j ob,(yV (X2 (listed.setIfInBounds i true)) sm.ef (iH (X2 (listed.setIfInBounds i true)) sm.la s0.heap)).get j=some ob->
   Heap.get (fr++yV (X2 listed) sm.ef (iH (X2 listed) sm.la s0.heap)) j=some ob:=by
  intro fr hfr hns j ob hj
  cases hsm:sm.ef with
  | none=>rw [hsm] at hj; exact front fr hfr j ob hj
  | some q=>
   obtain⟨e,ws,hw⟩:=q
   obtain⟨hei,w1,w2,w3,w4,w5,w6⟩:=wrote hsm hns
   rw [hsm] at hj
   simp only [yV,same hei] at hj ⊢
   split at hj
   ·rename_i hse
    rw [u3] at hj
    split at hj
    ·rename_i o2 ho2
     cases hj
     rw [u3,u3,ho2]
     cases hq:fr.get j with
     | none=>rfl
     | some o3=>
      exfalso
      have hkeys:∀ j o,fr.get j=some o->si.nid<=j∧j < s1.nid:=by
       rw [hfr] at hwf1
       exact hwf1.2.2.2
      exact w5 hse j (w2 j _ ho2) (hkeys j o3 hq)
    ·obtain⟨g1,g2⟩:=I2 hj
     have:=front fr hfr j ob g1
     rw [u3] at this ⊢
     split at this
     ·exact this
     ·rw [u3]
      split
      ·rename_i o2 ho2
       exact absurd ho2 (fun hh=>w1 j o2 g2 hh)
      ·exact W4 this g2
   ·exact front fr hfr j ob hj
 have calmE:s1.la=si.la->s1.ef=si.ef->∀ j ob,(yV (X2 (listed.setIfInBounds i true)) sm.ef (iH (X2 (listed.setIfInBounds i true)) sm.la s0.heap)).get j=some ob->(yV (X2 listed) sm.ef (iH (X2 listed) sm.la s0.heap)).get j=some ob:=by
  intro hno hns
  refine rK (fun e ws hw hsm=> ?_) (calm hno)
  exact same (wrote hsm hns).1
 rcases I5 he with ⟨r,hr1,hr2,_,hr4,hr5,hr6⟩ | ⟨r,hr1,hr2,hr3,hr4,hr5,hr6⟩ | ⟨_,fr,hr1,hr4,hr6⟩ | ⟨_,hr0,v0,H',ws,hr1,_,_,htv,hr4,hr6,_⟩
 ·have hrh:r.h=a2s si.ef (tP os o si.la s0.heap):=by
   rw [B3] at hr1
   split at hr1
   ·cases hr1
   ·cases hr1; rfl
   ·split at hr1
    ·cases hr1
    ·rename_i hb
     cases hr1
     rcases F5 hb with ⟨r0,hb1,er⟩ | ⟨hq0,_⟩
     ·subst er; exact (O9 hb1).1
     ·cases hq0
  rw [<- hr2] at hobs
  refine cG hX ho hr1 (.inl rfl) hobs.1 hp (F:=AgL sm.la s0.nid (listed.setIfInBounds i true) ρ) (ρ:=ρ) (fun _ _=>rfl) (Cβ:=KVok sm.kv) (A0 hm).1 hsub h.base h.inv (fun ρ' ha=>(hrep ρ' (hback ρ (fun _ _=>rfl) ρ' ha)).1.less (hseeE hr6)) (fun ρ' ha=>hT ρ' (hback ρ (fun _ _=>rfl) ρ' ha)) (fun h=>by cases h)
   (fun v w' hfin hk hbl=>fin ρ (fun _ _=>rfl) _ v w' (calmE hr4 hr6) (fun ρ' ha=>⟨((hrep ρ' (hback ρ (fun _ _=>rfl) ρ' ha)).1).below (hbl rfl),(hfin ρ' ha).2⟩) hk)
 ·rw [<- hr2] at hobs
  let ρ1:Num:=fun j=>if j=si.nid then some w.heap.size else ρ j
  have hρ1:∀ j,¬ (si.nid<=j∧j < s1.nid)->ρ1 j=ρ j:=fun j hj=>by
   show (if j=si.nid then _ else ρ j)=_
   rw [a6 (by omega)]
  have hnw1:∀ ρ',AgL sm.la s0.nid (listed.setIfInBounds i true) ρ1 ρ'->ρ' si.nid=some w.heap.size:=fun ρ' ha=>by
   rw [ha si.nid (.inr ⟨⟨i,si.nid,si.nid+1,r.h⟩,by rw [hex1,hr4]; simp,(s5 hisz).2 (.inl rfl),d7 _,aX _⟩)]
   show (if _=_ then _ else _)=_
   rw [b9 rfl]
  obtain⟨_,_,hall⟩:=i0k hr3 hr1
  have he':=hall (yV (X2 listed) sm.ef (iH (X2 listed) sm.la s0.heap))
  refine cG hX ho he' (.inr hr3) hobs.1 hp (F:=AgL sm.la s0.nid (listed.setIfInBounds i true) ρ1) (ρ:=ρ1) (fun _ _=>rfl) (Cβ:=KVok sm.kv) (A0 hm).1 hsub h.base h.inv (fun ρ' ha=>(hrep ρ' (hback ρ1 hρ1 ρ' ha)).1) (fun ρ' ha=>hT ρ' (hback ρ1 hρ1 ρ' ha)) (fun _=>hnw1)
   (fun v w' hfin hk _=>fin ρ1 hρ1 (r.h++yV (X2 listed) sm.ef (iH (X2 listed) sm.la s0.heap)) v w' (frontE r.h (by rw [hr4,hr5]) hr6) hfin hk)
 ·have hFp:∀ ρ',AgL sm.la s0.nid listed ρ ρ'->∀ j,c1s (fun k=>H9 k (I0 os o)) s0.nid si.la j=true->ρ' j=ρ j:=fun ρ' ha j hj=>by
   refine ha j ?_
   rcases iS hj with h' | ⟨e,he',hk,h2⟩
   ·exact .inl h'
   ·exact .inr ⟨e,hsi_sm e he',hreach e.k hk,h2⟩
  have hpn:∀ j,c1s (fun k=>H9 k (I0 os o)) s0.nid si.la j=true->j < si.nid:=fun j hj=>by
   rcases iS hj with h' | ⟨e,he',_,h2⟩
   ·omega
   ·have:=(hwfi.span e he').2.2.1
    omega
  refine o0d hX ho hr1 hobs.1 (F:=AgL sm.la s0.nid listed ρ) (ρ:=ρ) (fun _ _=>rfl) hFp hpn (Cβ:=KVok sm.kv) (A0 hm).1 hsub h.base h.inv (fun ρ' ha=>(hrep ρ' ha).1) (hseeE hr6) hT
   (fun v w' ρn hnn hfr hfin hk=> ?_)
  let ρ2:Num:=fun j=>if si.nid<=j∧j < s1.nid then ρn j else ρ j
  have hρ2:∀ j,¬ (si.nid<=j∧j < s1.nid)->ρ2 j=ρ j:=fun j hj=>a6 hj
  refine fin ρ2 hρ2 _ v w' (frontE fr hr4 hr6) (fun ρ' ha=>hfin ρ' (hback ρ2 hρ2 ρ' ha) (fun j h1 h2=> ?_)) hk
  rw [ha j (.inr ⟨⟨i,si.nid,s1.nid,fr⟩,by rw [hex1,hr4]; simp,(s5 hisz).2 (.inl rfl),h1,h2⟩)]
  exact b9 ⟨h1,h2⟩
 ·
  have hsm:sm.ef=some ⟨i,ws,P2 H' ws⟩:=by
   rcases tU (by omega:i+1<=m) hq1 hm with e | e
   ·rw [e,hr6]
   ·rw [hr6] at e; cases e
  have hcur:yV (X2 listed) sm.ef (iH (X2 listed) sm.la s0.heap)=iH (X2 listed) sm.la s0.heap:=by
   rw [hsm]
   simp only [yV]
   split
   ·rename_i hs; exact absurd hs hnl
   ·rfl
  obtain⟨H2,hr2,g2,g3⟩:=l1b hr1 hsee
  obtain⟨β0,hβ0⟩:=(A0 hm).1
  refine l1d ho hr2 hobs.1 (F:=AgL sm.la s0.nid listed ρ) (ρ:=ρ) (fun _ _=>rfl) h.base (fun ρ' ha=>hcur ▸ (hrep ρ' ha).1) (β:=β0) (fun ρ' ha=>hT ρ' ha β0 hβ0) (fun v w' bn bk hfin hk=> ?_)
  let ρ2:Num:=fun j=>if si.nid<=j∧j < s1.nid then (if j=si.nid then bn else bk) else ρ j
  have hρ2:∀ j,¬ (si.nid<=j∧j < s1.nid)->ρ2 j=ρ j:=fun j hj=>a6 hj
  have hin:∀ ρ',AgL sm.la s0.nid (listed.setIfInBounds i true) ρ2 ρ'->∀ j,si.nid<=j->j < s1.nid->ρ' j=if j=si.nid then bn else bk:=fun ρ' ha j h1 h2=>by
   rw [ha j (.inr ⟨⟨i,si.nid,s1.nid,[]⟩,by rw [hex1,hr4]; simp,(s5 hisz).2 (.inl rfl),h1,h2⟩)]
   exact b9 ⟨h1,h2⟩
  refine fin ρ2 hρ2 H2 v w' (fun j ob hj=> ?_) (fun ρ' ha=> ?_) hk
  ·rw [hsm] at hj
   simp only [yV] at hj
   rw [(hSeen i).2 (.inl rfl)] at hj
   simp only at hj
   rw [u3] at hj
   split at hj
   ·rename_i o2 ho2
    cases hj
    obtain⟨k1,k2⟩:=R3 ho2
    exact g2 j _ k2 k1
   ·obtain⟨k1,k2⟩:=I2 hj
    rw [g3 j k2]
    exact front [] hr4 j ob k1
  ·obtain⟨k1,k2⟩:=hfin ρ' (hback ρ2 hρ2 ρ' ha) (fun hn=>⟨by rw [hin ρ' ha si.nid (d7 _) (by omega),b9 rfl],by rw [hin ρ' ha (si.nid+1) (by omega) (by omega),a6 (by omega)]⟩)
   exact⟨k2,fun β _=>by rw [htv]; exact k1⟩
def evT (X:Cx) (os:List Oper) (m:Nat) (st:St×KV):Nat->Option (St×KV)
 | 0=>some st
 | k+1=>match evT X os m st k with
  | none=>none
  | some (s,kv)=>match p1r os (m+k) with
   | none=>none
   | some o=>P5 X false os o s kv
theorem dL {X:Cx} {os:List Oper} {m:Nat} {st:St×KV} {k:Nat} {s':St} {kv':KV} (h:evT X os m st (k+1)=some (s',kv')):
  ∃ s kv o,evT X os m st k=some (s,kv)∧os[m+k]? =some o∧P5 X false os o s kv=some (s',kv'):=by
 simp only [evT,Z0] at h
 split at h
 ·cases h
 ·rename_i s kv hs
  split at h
  ·cases h
  ·rename_i o ho
   exact⟨s,kv,o,hs,ho,h⟩
theorem iB {X:Cx} {os:List Oper} {m:Nat} {st:St×KV} :∀ {j i:Nat} {si sj:St} {ki kj:KV},i<=j->evT X os m st i=some (si,ki)->evT X os m st j=some (sj,kj)->d9 sj.obs->d9 si.obs
 | 0,i,si,sj,ki,kj,hij,h1,h2,hl=>by
  obtain rfl:i=0:=by omega
  rw [h1] at h2; cases h2; exact hl
 | j+1,i,si,sj,ki,kj,hij,h1,h2,hl=>by
  by_cases e:i=j+1
  ·subst e; rw [h1] at h2; cases h2; exact hl
  ·obtain⟨s,kv,o,hs,_,ho⟩:=dL h2
   exact iB (by omega) h1 hs (lW ho hl)
theorem c0a {X:Cx} {os:List Oper} {m:Nat} {st:St×KV} :∀ {j i:Nat} {r:St×KV},i<=j->evT X os m st j=some r->∃ q,evT X os m st i=some q
 | 0,i,r,hij,h=>by
  obtain rfl:i=0:=by omega
  exact⟨r,h⟩
 | j+1,i,r,hij,h=>by
  by_cases e:i=j+1
  ·subst e; exact⟨r,h⟩
  ·obtain⟨s',kv'⟩:=r
   obtain⟨s,kv,o,hs,_,_⟩:=dL h
   exact c0a (by omega) hs
theorem tL {X:Cx} {os:List Oper} {m:Nat} {st:St×KV} :∀ {i:Nat} {s:St} {kv:KV},evT X os m st i=some (s,kv)->s.rd=st.1.rd∧s.mks=st.1.mks∧s.bs=st.1.bs
 | 0,s,kv,h=>by simp only [evT] at h; cases h; exact⟨rfl,rfl,rfl⟩
 | i+1,s,kv,h=>by
  obtain⟨s1,k1,o,h1,_,h2⟩:=dL h
  obtain⟨e1,e2,e3⟩:=tL h1
  rw [z8] at h2
  split at h2
  ·cases h2
  ·cases h2; exact⟨e1,e2,e3⟩
theorem rQ {X:Cx} {J:Inv X.P} (hX:CxOk X J) {B:Nat} {M:Nat->Prop} (hp:Par X.P B M) {w0:Bas} {os:List Oper} {m:Nat} (hd:Draws os m) {st:St×KV} {sn:St} {kn:KV} (hn:evT X os m st (os.length-m)=some (sn,kn)) (hl:d9 sn.obs)
  {rb:Option Nat} {Q:Exit->Act->World->Prop} (hQ:∀ a w,RepR X.P J B M w0 kn sn a w->Q .normal a w):
  ∀ (fuel t:Nat) (listed:Array Bool) (s:St) (kv:KV) (a:Act) (w:World),m<=t->t<=os.length->os.length<=t+fuel->listed.size=os.length->(∀ j,j < os.length->(Lst listed j↔j < t))->
   evT X os m st (t-m)=some (s,kv)->RepR X.P J B M w0 kv s a w->wpAnyIn (Fl rb) 0 X.P .any ⟨os⟩ Q fuel listed a w:=by
 intro fuel
 induction fuel with
 | zero=>
  intro t listed s kv a w hmt htn hf hsz hL hs hR
  obtain rfl:t=os.length:=by omega
  rw [hs] at hn
  cases hn
  refine⟨?_,hQ a w hR⟩
  cases hr:Region.ready .any ⟨os⟩ listed with
  | nil=>rfl
  | cons x xs=>
   have:x∈Region.ready .any ⟨os⟩ listed:=by rw [hr]; simp
   obtain⟨⟨h1,h2⟩,_⟩:=ready_iff.1 this
   exact absurd ((hL x (by omega)).2 (by omega)) h2
 | succ fuel ih=>
  intro t listed s kv a w hmt htn hf hsz hL hs hR
  by_cases htl:t=os.length
  ·subst htl
   rw [hs] at hn
   cases hn
   refine⟨fun _=>hQ a w hR,fun i hi=> ?_⟩
   obtain⟨⟨h1,h2⟩,_⟩:=ready_iff.1 hi
   exact absurd ((hL i (by omega)).2 (by omega)) h2
  ·have htlt:t < os.length:=by omega
   obtain⟨ot,hot⟩:∃ o,os[t]? =some o:=⟨os[t],by simp [htlt]⟩
   refine⟨fun h0=> ?_,fun i hi=> ?_⟩
   ·exfalso
    have:t∈Region.ready .any ⟨os⟩ listed:=ready_iff.2 ⟨⟨by omega,fun h=>by have:=(hL t htlt).1 h; omega⟩,ot,hot,fun e he=>by
     have:=hd.fwd t ot hot e he
     exact (hL e (by omega)).2 this⟩
    rw [h0] at this
    cases this
   ·obtain⟨⟨h1,h2⟩,o,ho,hpre⟩:=ready_iff.1 hi
    have hit:i=t:=by
     rcases aR i t with h | h | h
     ·exact absurd ((hL i (by omega)).2 h) h2
     ·exact h
     ·exfalso
      have:=hpre (i-1) (hd.chain i o (by omega) ho)
      have:=(hL (i-1) (by omega)).1 this
      omega
    subst hit
    obtain⟨⟨s1,k1⟩,hq1⟩:=c0a (i:=i-m+1) (by omega) hn
    obtain⟨s',kv',o',g1,g2,g3⟩:=dL hq1
    rw [hs] at g1
    cases g1
    rw [show m+(i-m)=i by omega] at g2
    exact bN hX g2 g3 (iB (by omega) hq1 hn hl) hp hR (fun a' w' hR'=>ih (i+1) _ s1 k1 a' w' (by omega) (by omega) (by omega) (by simpa using hsz) (fun j hj=>by
     rw [s5 (by omega)]
     constructor
     ·rintro (rfl | h)
      ·omega
      ·have:=(hL j hj).1 h; omega
     ·intro h
      by_cases e:j=i
      ·exact .inl e
      ·exact .inr ((hL j hj).2 (by omega))) (by rw [show i+1-m=i-m+1 by omega]; exact hq1) hR')
theorem o0i {X:Cx} {J:Inv X.P} (hX:CxOk X J) {c:Bool} {B:Nat} {M:Nat->Prop} (hp:Par X.P B M) {w0:Bas} {os:List Oper} {m:Nat} (hd:Draws os m) {s0 sn:St} {kn:KV} {sm:HSt} (hlow:U9 s0.nid s0.heap=true)
  (hm:aU X c os s0.nid s0.heap s0.ds s0.tmps s0.obs m=some sm) (hn:evT X os m (sm.toSt s0,sm.kv) (os.length-m)=some (sn,kn)) (hl:d9 sn.obs)
  {a0:Act} {ρ:Num} (h0:∀ ρ',Agree s0.nid ρ ρ'->∀ β t,E7 ρ' β (A1 s0.tmps t) (a0.tmps.getD t undef)) (hρ0:w0.n<=s0.nid∧Agree w0.n w0.ρ ρ)
  {rb:Option Nat} {Q:Exit->Act->World->Prop} (hQ:∀ a w,RepR X.P J B M w0 kn sn a w->Q .normal a w):
  ∀ (fuel:Nat) (listed:Array Bool) (a:Act) (w:World),unl listed os.length<=fuel->HalfL X J B M w0 os m s0 a0 ρ sm listed a w->wpAnyIn (Fl rb) 0 X.P .any ⟨os⟩ Q fuel listed a w:=by
 have hlm:d9 sm.obs:=iB (X:=X) (os:=os) (m:=m) (n6 _) rfl hn hl
 have ht0:evT X os m (sm.toSt s0,sm.kv) (m-m)=some (sm.toSt s0,sm.kv):=by rw [bD]; rfl
 intro fuel
 induction fuel with
 | zero=>
  intro listed a w hf h
  have hall:∀ k,k < os.length->Lst listed k:=fun k hk=>rH (by omega) hk
  have hmn:m=os.length:=by
   rcases E0 m os.length with hlt | hge
   ·exact absurd (hall m hlt) (h.late m (d7 _))
   ·have:=hd.le; omega
  subst hmn
  exact rQ hX hp hd hn hl hQ 0 os.length listed _ sm.kv a w (d7 _) (d7 _) (by omega) h.size (fun j hj=>⟨fun _=>hj,fun _=>hall j hj⟩) ht0 (h0i hm hlow h0 h hρ0 (fun k hk=>hall k hk))
 | succ fuel ih=>
  intro listed a w hf h
  by_cases hall:∀ k,k < m->Lst listed k
  ·refine rQ hX hp hd hn hl hQ (fuel+1) m listed _ sm.kv a w (d7 _) hd.le ?_ h.size (fun j hj=>⟨fun hlj=> ?_,fun hj'=>hall j hj'⟩) ht0 (h0i hm hlow h0 h hρ0 hall)
   ·have hc:(List.range os.length).countP (fun i=> !Nat.blt i m)<=unl listed os.length:=by
     refine List.countP_mono_left (fun z _ hz=> ?_)
     simp only [r0n] at hz ⊢
     cases hzl:listed.getD z false
     ·rfl
     ·exfalso
      refine h.late z ?_ hzl
      rcases E0 z m with h' | h'
      ·rw [show zO1 z m=true by simp [Nat.blt_eq]; exact h'] at hz; cases hz
      ·exact h'
    have hc2:∀ n,(List.range n).countP (fun i=> !Nat.blt i m)=n-m:=by
     intro n
     induction n with
     | zero=>simp
     | succ n ihn=>
      rw [List.range_succ,List.countP_append,ihn]
      simp only [List.countP_cons,List.countP_nil,Q6,r0n]
      by_cases hnm:n < m
      ·rw [a6 (by rw [show zO1 n m=true by simp [Nat.blt_eq]; exact hnm]; simp)]; omega
      ·rw [b9 (by cases hb:zO1 n m; rfl; exact absurd (by simpa [Nat.blt_eq] using hb) hnm)]; omega
    rw [hc2] at hc
    omega
   ·rcases E0 j m with h' | h'
    ·exact h'
    ·exact absurd hlj (h.late j h')
  ·have hex:∃ k,k < m∧¬ Lst listed k:=by
    rcases Classical.em (∃ k,k < m∧¬ Lst listed k) with h' | h'
    ·exact h'
    ·exact absurd (fun k hk=>pL fun hn=>h' ⟨k,hk,hn⟩) hall
   refine⟨fun hr0=> ?_,fun i hi=> ?_⟩
   ·exfalso
    haveI:DecidablePred fun k=>¬ Lst listed k:=fun k=>Classical.propDecidable _
    obtain⟨k,hk,hnl,hmin⟩:=l1o m hex
    obtain⟨o,ho⟩:∃ o,os[k]? =some o:=⟨os[k]'(by have:=hd.le; omega),by have:=hd.le; simp [show k < os.length by omega]⟩
    have:k∈Region.ready .any ⟨os⟩ listed:=ready_iff.2 ⟨⟨by rw [h.size]; have:=hd.le; omega,hnl⟩,o,ho,fun e he=>pL fun hn=>hmin e (hd.fwd k o ho e he) hn⟩
    rw [hr0] at this
    cases this
   ·obtain⟨⟨h1,h2⟩,o,ho,hpre⟩:=ready_iff.1 hi
    have hin:i < os.length:=by rw [<- h.size]; exact h1
    have him:i < m:=by
     rcases aR i m with h' | h' | h'
     ·exact h'
     ·subst h'
      obtain⟨k,hk,hnk⟩:=hex
      exact absurd (yW hd hin h.closed ho hpre (i-k) k (d7 _) hk) hnk
     ·exact absurd (hpre (i-1) (hd.chain i o h' ho)) (h.late (i-1) (by omega))
    refine b1q hX hp hd hm hlow hlm h0 h him hi (fun a' w' h'=>ih _ a' w' ?_ h')
    have:=g0e hin h.size h2
    omega
def h0s:Nat->List Oper->Bool
 | 0,_=>false
 | _,[] =>false
 | m+1,o ::r=>eU o.op || h0s m r
def zK (X:Cx) (os:List Oper) (m:Nat) (s:St):Option St:=
 match s with
 | ⟨tm,hp,nid,ds,obs,lp,rd,mk,bs⟩=>match U9 nid hp with
  | false=>none
  | true=>match aU X true os nid hp ds tm obs m with
   | none=>none
   | some ⟨tm',la,ob,kv,nid',ef⟩=>match evT X os m (⟨tm',yV (fun _=>true) ef (iH (fun _=>true) la hp),nid',ds,ob,lp,rd,mk,bs⟩,kv) (os.length-m) with
    | none=>none
    | some (s',_)=>some s'
theorem uH {X:Cx} {os:List Oper} {m:Nat} {s s':St} (h:zK X os m s=some s'):
  U9 s.nid s.heap=true∧∃ hm kn,aU X true os s.nid s.heap s.ds s.tmps s.obs m=some hm∧evT X os m (hm.toSt s,hm.kv) (os.length-m)=some (s',kn):=by
 unfold zK at h
 dsimp only at h
 split at h
 ·cases h
 ·rename_i hlow
  split at h
  ·cases h
  ·rename_i he
   split at h
   ·cases h
   ·rename_i kn ht
    cases h
    exact⟨hlow,_,_,he,ht⟩
end
noncomputable section
def oC (o:Oper):Option Nat:=
 match o.dst,o.guard with
 | none,none=>match o.op with
  | .store _ (.tmp d) _=>some d
  | _=>none
 | _,_=>none
def eH (tm:List TV):List Oper->Option (List Nat)
 | [] =>some []
 | o ::r=>match oC o with
  | none=>none
  | some d=>match A1 tm d with
   | .v (.pointer (some ⟨id,_,_⟩))=>match eH tm r with
    | some l=>some (id ::l)
    | none=>none
   | _=>none
def vN (acc:List Nat) (t:Nat):Nat->List Oper->Bool
 | _,[] =>true
 | k,o ::r=>(match o.dst with
  | some d=> !(zO0 d t) || H9 k acc
  | none=>true) && vN acc t (k+1) r
theorem nW {acc:List Nat} {t:Nat} :∀ {r:List Oper} {k0:Nat},vN acc t k0 r=true->∀ k o,r[k]? =some o->o.dst=some t->(k0+k)∈acc
 | [],k0,_,k,o,ho,_=>by simp at ho
 | x ::r,k0,h,k,o,ho,hd=>by
  simp only [vN,x5] at h
  cases k with
  | zero=>
   simp only [K5,L3] at ho
   subst ho
   rw [hd] at h
   simp only [e0x,Bool.not_true,Bool.false_or,memN_iff] at h
   exact h.1
  | succ k=>
   simp only [O0] at ho
   have:=nW h.2 k o ho hd
   rw [show k0+(k+1)=k0+1+k by omega]
   exact this
def qU (hd:List Oper) (acc:List Nat):List Nat->Bool
 | [] =>true
 | t ::r=>vN acc t 0 hd && qU hd acc r
theorem lL {hd:List Oper} {acc:List Nat} :∀ {l:List Nat},qU hd acc l=true->∀ t∈l,vN acc t 0 hd=true
 | [],_,t,ht=>by cases ht
 | x ::r,h,t,ht=>by
  simp only [qU,x5] at h
  rcases zzA84.1 ht with rfl | ht
  ·exact h.1
  ·exact lL h.2 t ht
def jT (os hd:List Oper):List Nat->List Oper->Bool
 | _,[] =>true
 | acc,o ::r=>qU hd (m8 o++acc) (looks os o) && jT os hd (m8 o++acc) r
theorem fD {os hd:List Oper} {L:Nat->Prop} :∀ {r:List Oper} {acc:List Nat},jT os hd acc r=true->(∀ e∈acc,L e)->∀ (k:Nat) (o:Oper),r[k]? =some o->(∀ (j:Nat) (oj:Oper),j<=k->r[j]? =some oj->∀ e∈m8 oj,L e)->
  ∀ t∈looks os o,∀ (i:Nat) (oi:Oper),hd[i]? =some oi->oi.dst=some t->L i
 | [],acc,_,_,k,o,ho,_=>by simp at ho
 | x ::r,acc,h,ha,k,o,ho,hp=>by
  simp only [jT,x5] at h
  have hacc:∀ e∈m8 x++acc,L e:=fun e he=>by
   rcases zzA92.1 he with he | he
   ·exact hp 0 x (n6 _) rfl e he
   ·exact ha e he
  cases k with
  | zero=>
   simp only [K5,L3] at ho
   subst ho
   intro t ht i oi hi hd'
   have:=nW (lL h.1 t ht) i oi hi hd'
   rw [Q6] at this
   exact hacc i this
  | succ k=>
   simp only [O0] at ho
   exact fD h.2 hacc k o ho (fun j oj hj hoj=>hp (j+1) oj (by omega) (by simpa using hoj))
def lQ:List Oper->Nat
 | [] =>0
 | o ::r=>match oC o with
  | some _=>0
  | none=>lQ r+1
def g0g (os:List Oper) (m:Nat):Bool:=
 Nat.ble m os.length && vW 0 os && h1w (os.take m) && rO os (os.take m) 0 (os.take m) && jT os (os.take m) [] (os.drop m) && cQ (m+1) (os.drop (m+1)) && !(h0s m os)
structure Floats (os:List Oper) (m:Nat):Prop where
 le:m<=os.length
 fwd:∀ i o,os[i]? =some o->∀ e∈m8 o,e < i
 dup:∀ i k oi ok d,i < m->k < m->os[i]? =some oi->os[k]? =some ok->oi.dst=some d->ok.dst=some d->i=k
 slot:∀ i o,i < m->os[i]? =some o->∀ t∈looks os o,∀ k ok,k < m->os[k]? =some ok->ok.dst=some t->k=i∨k∈m8 o∨i∈m8 ok
 tail:∀ (L:Nat->Prop) t o,m<=t->os[t]? =some o->(∀ j oj,m<=j->j<=t->os[j]? =some oj->∀ e∈m8 oj,L e)->∀ x∈looks os o,∀ k ok,k < m->os[k]? =some ok->ok.dst=some x->L k
 chain:∀ t o,m < t->os[t]? =some o->(t-1)∈m8 o
 quiet:∀ i o,i < m->os[i]? =some o->eU o.op=false
theorem vD:∀ {m:Nat} {os:List Oper},h0s m os=false->∀ i o,i < m->os[i]? =some o->eU o.op=false
 | 0,_,_,i,o,hi,_=>by omega
 | m+1,[],_,i,o,_,ho=>by simp at ho
 | m+1,x ::r,h,i,o,hi,ho=>by
  simp only [h0s,j0i] at h
  cases i with
  | zero=>simp only [K5,L3] at ho; subst ho; exact h.1
  | succ i=>simp only [O0] at ho; exact vD h.2 i o (by omega) ho
theorem pJ {os:List Oper} {m:Nat} (h:g0g os m=true):Floats os m:=by
 simp only [g0g,x5,r0n,M8] at h
 obtain⟨⟨⟨⟨⟨⟨h1,h2⟩,h3⟩,h4⟩,h5⟩,h6⟩,h7⟩:=h
 have fwd:∀ i o,os[i]? =some o->∀ e∈m8 o,e < i:=fun i o ho e he=>by
  have:=cF h2 i o ho e he
  omega
 refine⟨h1,fwd,fun i k oi ok d hi hk hoi hok di dk=> ?_,fun i o hi ho t ht k ok hk hok hd=> ?_,fun L t o hmt ho hp x hx k ok hk hok hd=> ?_,fun t o ht ho=> ?_,vD h7⟩
 ·exact mL h3 i k oi ok d ((N2 hi).trans hoi) ((N2 hk).trans hok) di dk
 ·have:=bO h4 i o ((N2 hi).trans ho) t ht k ok ((N2 hk).trans hok) hd
  simpa using this
 ·refine fD (L:=L) h5 (fun e he=>by cases he) (t-m) o (by rw [S3,show m+(t-m)=t by omega]; exact ho) (fun j oj hj hoj=> ?_) x hx k ok ((N2 hk).trans hok) hd
  rw [S3] at hoj
  exact hp (m+j) oj (by omega) (by omega) hoj
 ·have:=V6 h6 (t- (m+1)) o (by rw [S3,show m+1+(t- (m+1))=t by omega]; exact ho)
  rw [show m+1+(t- (m+1))-1=t-1 by omega] at this
  exact this
theorem jP {tm:List TV} :∀ {r:List Oper} {ws:List Nat},eH tm r=some ws->∀ (k:Nat) (o:Oper),r[k]? =some o->∃ d id off sp,oC o=some d∧A1 tm d= .v (.pointer (some ⟨id,off,sp⟩))∧H9 id ws=true
 | [],ws,_,k,o,ho=>by simp at ho
 | x ::r,ws,h,k,o,ho=>by
  simp only [eH] at h
  split at h
  ·cases h
  rename_i d hd
  split at h
  ·rename_i id off sp hg
   split at h
   ·rename_i l hl
    cases h
    cases k with
    | zero=>
     simp only [K5,L3] at ho
     subst ho
     exact⟨d,id,off,sp,hd,hg,by simp [H9]⟩
    | succ k=>
     simp only [O0] at ho
     obtain⟨d',id',off',sp',h1,h2,h3⟩:=jP hl k o ho
     exact⟨d',id',off',sp',h1,h2,by simp [H9,h3]⟩
   ·cases h
  ·cases h
theorem gR {o:Oper} {d:Nat} (h:oC o=some d):o.dst=none∧o.guard=none∧∃ t y,o.op= .store t (.tmp d) y:=by
 unfold oC at h
 split at h
 ·rename_i h1 h2
  split at h
  ·rename_i t d' y ho
   cases h
   exact⟨h1,h2,t,y,ho⟩
  ·cases h
 ·cases h
theorem b0o {P:Program} {H H':Heap} {t:TypeId} {v:Value} {id off:Nat} {sp:Option Nat} (h:aQ P H t (.pointer (some ⟨id,off,sp⟩)) v=some H') (j:Nat) (hj:j≠id):H'.get j=H.get j:=by
 unfold aQ at h
 simp only [x6] at h
 split at h
 case h_2=>cases h
 rename_i heq
 cases heq
 split at h
 case h_1=>cases h
 split at h
 case h_4=>cases h
 ·rename_i hget
  split at h
  case h_2=>cases h
  cases h
  rw [m3 _ _ _ _ hget,a6 (fun e=>hj e.symm)]
 ·rename_i hget
  split at h
  case h_2=>cases h
  cases h
  rw [m3 _ _ _ _ hget,a6 (fun e=>hj e.symm)]
 ·rename_i hget
  split at h
  case h_2=>cases h
  split at h
  case h_2=>cases h
  cases h
  rw [m3 _ _ _ _ hget,a6 (fun e=>hj e.symm)]
theorem wP {P:Program} {auto:Bool} {H H':Heap} {t:TypeId} {v:Value} {id off:Nat} {sp:Option Nat} {l:List Prop} (h:jD P auto H t (.pointer (some ⟨id,off,sp⟩)) v=some (H',l)) (j:Nat) (hj:j≠id):H'.get j=H.get j:=by
 unfold jD at h
 simp only [x6] at h
 split at h
 ·cases h
 split at h
 case h_2=>cases h
 rename_i heq
 cases heq
 split at h
 case h_2=>cases h
 rename_i hget
 split at h
 case h_2=>cases h
 split at h
 case h_2=>cases h
 cases h
 rw [m3 _ _ _ _ hget,a6 (fun e=>hj e.symm)]
theorem nX {X:Cx} {os:List Oper} {o:Oper} {s s':St} {kv kv':KV} {d id off:Nat} {sp:Option Nat} (hd:oC o=some d) (hg:A1 s.tmps d= .v (.pointer (some ⟨id,off,sp⟩))) (h:P5 X false os o s kv=some (s',kv')):
  s'.tmps=s.tmps∧kv'=kv∧∀ j,j≠id->s'.heap.get j=s.heap.get j:=by
 obtain⟨h1,h2,t,y,ho⟩:=gR hd
 rw [z8,B3] at h
 have hgu:J9 X.gd os o s.tmps kv=some (false,s.tmps,kv,[]):=by unfold J9; rw [h2]
 rw [hgu] at h
 simp only at h
 split at h
 ·cases h
 rename_i tmps' kv1 tv r he
 cases h
 split at he
 ·cases he
 rename_i r0' hand
 cases he
 rcases F5 hand with ⟨r0,hb,er⟩ | ⟨_,hc,_⟩
 case inr=>cases hc
 subst er
 refine⟨by show a1y s.tmps o.dst _=_; rw [h1]; rfl,rfl,fun j hj=> ?_⟩
 show r0.h.get j=_
 unfold E2 at hb
 split at hb
 ·cases hb
 rw [ho] at hb
 simp only [s2b,p1w] at hb
 split at hb
 case h_2=>cases hb
 rename_i r1 hr1
 have hr0:r0.h=r1.h:=by
  simp only [c1x,Bool.or_false] at hb
  cases hb
  rfl
 rw [hr0]
 unfold x0g at hr1
 simp only [w8] at hr1
 rw [ho] at hr1
 simp only at hr1
 split at hr1
 ·rename_i a v ha hv
  have:a= .pointer (some ⟨id,off,sp⟩):=by
   simp only [evo,hg,rd] at ha
   cases ha
   rfl
  subst this
  split at hr1
  ·rename_i H' l hst
   cases hr1
   exact wP hst j hj
  split at hr1
  ·rename_i H' hst
   cases hr1
   exact b0o hst j hj
  ·cases hr1
 ·cases hr1
theorem eK {X:Cx} {os:List Oper} {m:Nat} {s0:St} {kv0:KV} {ws:List Nat} (hst:∀ k o,os[m+k]? =some o->∃ d id off sp,oC o=some d∧A1 s0.tmps d= .v (.pointer (some ⟨id,off,sp⟩))∧H9 id ws=true):
  ∀ {k:Nat} {s:St} {kv:KV},evT X os m (s0,kv0) k=some (s,kv)->s.tmps=s0.tmps∧kv=kv0∧(∀ j,H9 j ws=false->s.heap.get j=s0.heap.get j)∧s0.nid<=s.nid
 | 0,s,kv,h=>by simp only [evT] at h; cases h; exact⟨rfl,rfl,fun _ _=>rfl,d7 _⟩
 | k+1,s,kv,h=>by
  obtain⟨s1,k1,o,h1,ho,h2⟩:=dL h
  obtain⟨e1,e2,e3,e4⟩:=eK hst h1
  obtain⟨d,id,off,sp,g1,g2,g3⟩:=hst k o ho
  obtain⟨f1,f2,f3⟩:=nX g1 (by rw [e1]; exact g2) h2
  refine⟨f1.trans e1,f2.trans e2,fun j hj=>(f3 j (fun e=>by rw [e,g3] at hj; cases hj)).trans (e3 j hj),x7 e4 ?_⟩
  obtain⟨_,_,t,y,hop⟩:=gR g1
  rw [z8,B3] at h2
  split at h2
  ·cases h2
  rename_i he
  cases h2
  split at he
  ·cases he
  ·cases he; exact d7 _
  ·split at he
   ·cases he
   ·rename_i hand
    cases he
    rename_i r1 _ _ _ _
    have:∃ q' r0 cs ts,E2 X q' o cs ts s1.heap s1.nid s1.ds=some r0∧r1.n=r0.n:=by
     rcases F5 hand with ⟨r0,hb,er⟩ | ⟨_,_,_,r0,hb,er⟩
     ·exact⟨_,r0,_,_,hb,by rw [er]⟩
     ·exact⟨_,r0,_,_,hb,by rw [er]⟩
    obtain⟨q',r0,cs,ts,hb,e0⟩:=this
    show s1.nid<=r1.n
    rw [e0]
    unfold E2 at hb
    split at hb
    ·cases hb
    rw [hop] at hb
    simp only [s2b,p1w] at hb
    split at hb
    case h_2=>cases hb
    split at hb
    ·cases hb; exact d7 _
    ·split at hb
     ·cases hb; exact Nat.le_succ _
     ·cases hb
structure HalfF (X:Cx) (J:Inv X.P) (B:Nat) (M:Nat->Prop) (w0:Bas) (os:List Oper) (m t:Nat) (s0:St) (a0:Act) (ρ0:Num) (sm:HSt) (st:St) (listed:Array Bool) (a:Act) (w:World):Prop where
 size:listed.size=os.length
 closed:∀ j o,os[j]? =some o->Lst listed j->∀ e∈m8 o,Lst listed e
 mt:m<=t
 tn:t<=os.length
 tl:∀ j,m<=j->j < os.length->(Lst listed j↔j < t)
 asize:a.tmps.size=s0.tmps.length
 defers:a.defers=w0.dfs
 base:B<=w.heap.size
 inv:J.I w
 keeps:Keeps B M w0.w w
 old:∀ d,(∀ k o,k < m->Lst listed k->os[k]? =some o->o.dst≠some d)->a.tmps.getD d undef=a0.tmps.getD d undef
 rep:∃ ρ,Agree s0.nid ρ0 ρ∧∀ ρ',Agree st.nid ρ ρ'->Sim X.P B M ρ' st.heap w∧
  ∀ k o d,k < m->Lst listed k->os[k]? =some o->o.dst=some d->∀ β,KVok sm.kv β->E7 ρ' β (A1 sm.tm d) (a.tmps.getD d undef)
def HSt.toF (h:HSt) (s:St):St:=⟨h.tm,s.heap,s.nid,s.ds,h.obs,s.lp,s.rd,s.mks,s.bs⟩
section
variable {X:Cx} {J:Inv X.P} (hX:CxOk X J) {B:Nat} {M:Nat->Prop} (hp:Par X.P B M) {w0:Bas} {os:List Oper} {m:Nat} (hd:Floats os m) {s0:St} {a0:Act} {ρ0:Num} {sm:HSt} {nb:Nat} {ws:List Nat}
 (hm:aU X false os nb (I1 ws s0.heap) s0.ds s0.tmps s0.obs m=some sm) (hst:∀ k o,os[m+k]? =some o->∃ d id off sp,oC o=some d∧A1 sm.tm d= .v (.pointer (some ⟨id,off,sp⟩))∧H9 id ws=true)
 (h0:∀ ρ',Agree s0.nid ρ0 ρ'->∀ β t,E7 ρ' β (A1 s0.tmps t) (a0.tmps.getD t undef))
include hX hp hd hm hst h0 in
theorem c1l (hl:d9 sm.obs) {t:Nat} {st:St} {kt:KV} (ht:evT X os m (sm.toF s0,sm.kv) (t-m)=some (st,kt)) {listed:Array Bool} {a:Act} {w:World} (h:HalfF X J B M w0 os m t s0 a0 ρ0 sm st listed a w) {i:Nat} (him:i < m) (hr:i∈Region.ready .any ⟨os⟩ listed)
  {rb:Option Nat} {K:Act->World->Prop} {Q:Exit->Act->World->Prop} (hK:∀ a' w',HalfF X J B M w0 os m t s0 a0 ρ0 sm st (listed.setIfInBounds i true) a' w'->K a' w'):wpOpIn (Fl rb) 0 X.P ⟨os⟩ Q i K a w:=by
 obtain⟨⟨hi,hnl⟩,o,ho,hpre⟩:=ready_iff.1 hr
 obtain⟨s1,hq1⟩:=rP (i:=i+1) (by omega) hm
 obtain⟨si,o',tmps',tv,ob',hsi,ho',hop,e1,e3⟩:=C2 hq1
 rw [ho] at ho'
 cases ho'
 have hobs:=lN (by omega) hq1 hm hl
 rw [e3] at hobs
 simp only [i6] at hobs
 obtain⟨_,elen⟩:=A0 hsi
 have hsub:∀ β,KVok sm.kv β->KVok s1.kv β:=fun β hβ=>eI (by omega) hq1 hm hβ
 have hsubi:∀ β,KVok sm.kv β->KVok si.kv β:=fun β hβ=>eI (by omega) hsi hm hβ
 obtain⟨f1,f2,f3,f4⟩:=eK (s0:=sm.toF s0) (ws:=ws) hst ht
 have f4:s0.nid<=st.nid:=f4
 obtain⟨ρ,hρ0,hrep⟩:=h.rep
 have hisz:i < listed.size:=hi
 rcases I5 hop with ⟨r,he,hr2,_,q4,_⟩ | ⟨r,_,_,q2,_⟩ | ⟨hc,_⟩ | ⟨hc,_⟩
 case inr.inl=>rw [hd.quiet i o him ho] at q2; cases q2
 case inr.inr.inl=>cases hc
 case inr.inr.inr=>cases hc
 rw [<- hr2] at hobs
 have hla:si.la=[] :=by
  have key:∀ (n:Nat) (s:HSt),n<=m->aU X false os nb (I1 ws s0.heap) s0.ds s0.tmps s0.obs n=some s->s.la=[] :=by
   intro n
   induction n with
   | zero=>intro s _ hs; simp only [aU] at hs; cases hs; rfl
   | succ n ih=>
    intro s hn hs
    obtain⟨s2,o2,_,_,_,g1,g2,g5,_⟩:=C2 hs
    rcases I5 g5 with ⟨_,_,_,_,g3,_⟩ | ⟨_,_,_,g4,_⟩ | ⟨hc,_⟩ | ⟨hc,_⟩
    ·rw [g3]; exact ih s2 (by omega) g1
    ·rw [hd.quiet n o2 (by omega) g2] at g4; cases g4
    ·cases hc
    ·cases hc
  exact key i si (by omega) hsi
 generalize hHdef:a2s si.ef (tP os o si.la (I1 ws s0.heap))=H at he
 have hH:∀ j ob,H.get j=some ob->(I1 ws s0.heap).get j=some ob:=by
  intro j ob hj
  rw [<- hHdef,hla,a0m hsi] at hj
  exact w0o (la:=[]) hj
 have hrh:r.h=H:=by
  rw [B3] at he
  split at he
  ·cases he
  ·cases he; rfl
  ·split at he
   ·cases he
   ·rename_i hb
    cases he
    rcases F5 hb with ⟨r0,hb1,er⟩ | ⟨hq0,_⟩
    ·subst er; exact (O9 hb1).1
    ·cases hq0
 have hT:∀ ρ',Agree st.nid ρ ρ'->∀ β,KVok sm.kv β->∀ x∈looks os o,E7 ρ' β (A1 si.tm x) (a.tmps.getD x undef):=by
  intro ρ' ha β hβ x hx
  by_cases hw:∃ k ok,k < m∧Lst listed k∧os[k]? =some ok∧ok.dst=some x
  ·obtain⟨k,ok,hk,hlk,hok,hdk⟩:=hw
   have hki:k < i:=by
    rcases hd.slot i o him ho x hx k ok hk hok hdk with e | e | e
    ·subst e; exact absurd hlk hnl
    ·exact hd.fwd i o ho k e
    ·exact absurd (h.closed k ok hok hlk i e) hnl
   have:=(hrep ρ' ha).2 k ok x hk hlk hok hdk β hβ
   refine (G8 (by omega:i<=m) hsi hm hβ (fun k2 o2 hk1 hk2 ho2 hd2=> ?_)).2 this
   have:=hd.dup k k2 ok o2 x hk hk2 hok ho2 hdk hd2
   omega
  ·have hno:∀ k ok,k < m->Lst listed k->os[k]? =some ok->ok.dst≠some x:=fun k ok hk hlk hok e=>hw ⟨k,ok,hk,hlk,hok,e⟩
   rw [h.old x hno]
   refine (G8 (n6 i) rfl hsi (hsubi β hβ) (fun k ok _ hk hok hdk=> ?_)).1 (h0 ρ' (fun j hj=> ?_) β x)
   ·rcases hd.slot i o him ho x hx k ok (by omega) hok hdk with e | e | e
    ·omega
    ·exact hno k ok (by omega) (hpre k e) hok hdk
    ·have:=hd.fwd k ok hok i e
     omega
   ·rw [ha j (by omega)]; exact hρ0 j hj
 refine cG hX ho he (.inl rfl) hobs.1 hp (F:=fun ρ'=>Agree st.nid ρ ρ') (ρ:=ρ) (Agree.refl _ _) (Cβ:=KVok sm.kv) (A0 hm).1 hsub h.base h.inv (fun ρ' ha=> ?_) hT (fun hh=>by cases hh) (fun v w' hfin hk hbl=>hK _ _ ?_)
 ·refine (hrep ρ' ha).1.less fun j ob hj=> ?_
  obtain⟨g1,g2⟩:=I2 (hH j ob hj)
  rw [f3 j g2]
  exact g1
 refine⟨by simpa using h.size,fun j oj hoj hlj e he'=> ?_,h.mt,h.tn,fun j hj hjn=> ?_,by rw [Y9]; exact h.asize,by rw [L7]; exact h.defers,x7 h.base hk.size,J.keeps hp hk h.inv,h.keeps.trans hk,fun d hno=> ?_,
  ρ,hρ0,fun ρ' ha=>⟨(hrep ρ' ha).1.below (hbl rfl),fun k ok d hkm hlk hok hdk β hβ=> ?_⟩⟩
 ·rw [s5 hisz] at hlj ⊢
  rcases hlj with rfl | hlj
  ·rw [ho] at hoj; cases hoj
   exact .inr (hpre e he')
  ·exact .inr (h.closed j oj hoj hlj e he')
 ·rw [s5 hisz,<- h.tl j hj hjn]
  exact⟨fun e=>e.elim (fun e=>by omega) id, .inr⟩
 ·rw [M9,a6 (fun hh=>hno i o him ((s5 hisz).2 (.inl rfl)) ho hh.1)]
  exact h.old d (fun k ok hkm hlk hok=>hno k ok hkm ((s5 hisz).2 (.inr hlk)) hok)
 ·rw [M9]
  by_cases hki:k=i
  ·subst hki
   rw [ho] at hok
   cases hok
   by_cases hds:d < a.tmps.size
   ·rw [b9 ⟨hdk,hds⟩]
    have hslot:=G8 (X:=X) (os:=os) (ρ:=ρ') (β:=β) (t:=d) (r:=v) (by omega:k+1<=m) hq1 hm hβ (fun k2 o2 hk1 hk2 ho2 hd2=>by
     have:=hd.dup k k2 o o2 d hkm hk2 ho ho2 hdk hd2
     omega)
    rw [<- hslot,e1]
    obtain⟨_,_,hl'⟩:=N0 he (A0 hsi).1
    rw [R7,b9 ⟨hdk,by rw [hl',elen,<- h.asize]; exact hds⟩]
    exact (hfin ρ' ha).2 β hβ
   ·have hnone:A1 sm.tm d= .unk:=by
     simp only [K1]
     have e7:sm.tm.length=s0.tmps.length:=(A0 hm).2
     have e8:a.tmps.size=s0.tmps.length:=h.asize
     have e9:a.tmps.size<=d:=jI hds
     rw [k0s (by omega)]
    rw [hnone]
    trivial
  ·have hlk':Lst listed k:=by
    rcases (s5 hisz).1 hlk with e | e
    ·exact absurd e hki
    ·exact e
   have hne:o.dst≠some d:=fun e=>hki (hd.dup k i ok o d hkm him hok ho hdk e)
   rw [a6 (fun hh=>hne hh.1)]
   exact (hrep ρ' ha).2 k ok d hkm hlk' hok hdk β hβ
include hX hp hd hm hst h0 in
theorem b1a {t:Nat} {st st':St} {kt kt':KV} (ht:evT X os m (sm.toF s0,sm.kv) (t-m)=some (st,kt)) {o:Oper} (ho:os[t]? =some o) (hop:P5 X false os o st kt=some (st',kt')) (hl:d9 st'.obs)
  {listed:Array Bool} {a:Act} {w:World} (h:HalfF X J B M w0 os m t s0 a0 ρ0 sm st listed a w) (hpre:∀ e∈m8 o,Lst listed e) (htn:t < os.length)
  {rb:Option Nat} {K:Act->World->Prop} {Q:Exit->Act->World->Prop} (hK:∀ a' w',HalfF X J B M w0 os m (t+1) s0 a0 ρ0 sm st' (listed.setIfInBounds t true) a' w'->K a' w'):wpOpIn (Fl rb) 0 X.P ⟨os⟩ Q t K a w:=by
 obtain⟨f1,f2,f3,f4⟩:=eK (s0:=sm.toF s0) (ws:=ws) hst ht
 have f4:s0.nid<=st.nid:=f4
 have f1:st.tmps=sm.tm:=f1
 have f2:kt=sm.kv:=f2
 subst f2
 obtain⟨d0,id,off,sp,g1,g2,g3⟩:=hst (t-m) o (by rw [show m+(t-m)=t by have:=h.mt; omega]; exact ho)
 obtain⟨z1,z2,z3⟩:=nX g1 (by rw [f1]; exact g2) hop
 obtain⟨y1,y2,_⟩:=gR g1
 obtain⟨ρ,hρ0,hrep⟩:=h.rep
 rw [z8] at hop
 split at hop
 ·cases hop
 rename_i tmps' kv1 tv r he
 cases hop
 simp only [i6] at hl
 have hlt:t < listed.size:=by rw [h.size]; exact htn
 subst z2
 refine S7 hX ho he hl.1 hp (ρ:=ρ) (Cβ:=KVok sm.kv) (A0 hm).1 (fun _ hh=>hh) h.base h.inv (fun ρ' ha=>(hrep ρ' ha).1) (fun ρ' ha β hβ x hx=> ?_) (fun v w' ρ1 ha hn hfin hk _=>hK _ _ ?_)
 ·rw [f1]
  by_cases hw:∃ k ok,k < m∧Lst listed k∧os[k]? =some ok∧ok.dst=some x
  ·obtain⟨k,ok,hk,hlk,hok,hdk⟩:=hw
   exact (hrep ρ' ha).2 k ok x hk hlk hok hdk β hβ
  ·have hno:∀ k ok,k < m->os[k]? =some ok->ok.dst≠some x:=fun k ok hk hok e=>by
    refine hw ⟨k,ok,hk,hd.tail (Lst listed) t o h.mt ho (fun j oj hmj hjt hoj e' he'=> ?_) x hx k ok hk hok e,hok,e⟩
    by_cases ejt:j=t
    ·subst ejt
     rw [ho] at hoj
     cases hoj
     exact hpre e' he'
    ·exact h.closed j oj hoj ((h.tl j hmj (by omega)).2 (by omega)) e' he'
   rw [h.old x (fun k ok hk _ hok=>hno k ok hk hok)]
   exact (G8 (n6 m) rfl hm hβ (fun k ok _ hk hok=>hno k ok hk hok)).1 (h0 ρ' (fun j hj=>by rw [ha j (by omega)]; exact hρ0 j hj) β x)
 ·have hput:∀ x,(a.put o.dst v).tmps.getD x undef=a.tmps.getD x undef:=fun x=>by rw [M9,y1,a6 (fun hh=>by cases hh.1)]
  refine⟨by simpa using h.size,fun j oj hoj hlj e he'=> ?_,by have:=h.mt; omega,by omega,fun j hj hjn=> ?_,by rw [Y9]; exact h.asize,by rw [L7]; exact h.defers,x7 h.base hk.size,J.keeps hp hk h.inv,h.keeps.trans hk,fun d hno=> ?_,
   ρ1,hρ0.trans ha f4,fun ρ' ha'=>⟨(hfin ρ' ha').1,fun k ok d hkm hlk hok hdk β hβ=> ?_⟩⟩
  ·rw [s5 hlt] at hlj ⊢
   rcases hlj with rfl | hlj
   ·rw [ho] at hoj; cases hoj
    exact .inr (hpre e he')
   ·exact .inr (h.closed j oj hoj hlj e he')
  ·rw [s5 hlt,h.tl j hj hjn]
   omega
  ·rw [hput]
   exact h.old d (fun k ok hkm hlk hok=>hno k ok hkm ((s5 hlt).2 (.inr hlk)) hok)
  ·rw [hput]
   have hlk':Lst listed k:=by
    rcases (s5 hlt).1 hlk with e | e
    ·have:=h.mt; omega
    ·exact e
   exact (hrep ρ' (fun j hj=>(ha' j (E3 hj hn)).trans (ha j hj))).2 k ok d hkm hlk' hok hdk β hβ
include hX hp hd hm hst h0 in
theorem t0d (hρ0:w0.n<=s0.nid∧Agree w0.n w0.ρ ρ0) {sn:St} {kn:KV} (hn:evT X os m (sm.toF s0,sm.kv) (os.length-m)=some (sn,kn)) (hl:d9 sn.obs) {rb:Option Nat} {Q:Exit->Act->World->Prop} (hQ:∀ a w,RepR X.P J B M w0 kn sn a w->Q .normal a w):
  ∀ (fuel t:Nat) (st:St) (kt:KV) (listed:Array Bool) (a:Act) (w:World),unl listed os.length<=fuel->evT X os m (sm.toF s0,sm.kv) (t-m)=some (st,kt)->HalfF X J B M w0 os m t s0 a0 ρ0 sm st listed a w->wpAnyIn (Fl rb) 0 X.P .any ⟨os⟩ Q fuel listed a w:=by
 have hlm:d9 sm.obs:=iB (X:=X) (os:=os) (m:=m) (n6 _) rfl hn hl
 have fin:∀ (t:Nat) (st:St) (kt:KV) (listed:Array Bool) (a:Act) (w:World),evT X os m (sm.toF s0,sm.kv) (t-m)=some (st,kt)->HalfF X J B M w0 os m t s0 a0 ρ0 sm st listed a w->(∀ k,k < os.length->Lst listed k)->Q .normal a w:=by
  intro t st kt listed a w ht h hall
  have htn:t=os.length:=by
   rcases E0 t os.length with hlt | hge
   ·have:=(h.tl t h.mt hlt).1 (hall t hlt)
    omega
   ·have:=h.tn; omega
  subst htn
  rw [ht] at hn
  cases hn
  refine hQ a w ?_
  obtain⟨f1,f2,f3,f4⟩:=eK (s0:=sm.toF s0) (ws:=ws) hst ht
  have f1:sn.tmps=sm.tm:=f1
  have f2:kn=sm.kv:=f2
  have f4:s0.nid<=sn.nid:=f4
  obtain⟨ρ,hρ,hrep⟩:=h.rep
  obtain⟨k1,k2⟩:=A0 hm
  subst f2
  refine⟨by rw [f1,k2]; exact h.asize,h.defers,h.base,h.inv,h.keeps,k1,ρ,⟨x7 hρ0.1 f4,hρ0.2.trans hρ hρ0.1⟩,fun ρ' ha=>⟨(hrep ρ' ha).1,fun β hβ x=> ?_⟩⟩
  rw [f1]
  by_cases hw:∃ k o,k < m∧os[k]? =some o∧o.dst=some x
  ·obtain⟨k,o,hk,ho,hdk⟩:=hw
   exact (hrep ρ' ha).2 k o x hk (hall k (by have:=hd.le; omega)) ho hdk β hβ
  ·have hno:∀ k o,k < m->os[k]? =some o->o.dst≠some x:=fun k o hk ho e=>hw ⟨k,o,hk,ho,e⟩
   rw [h.old x (fun k o hk _ ho=>hno k o hk ho)]
   exact (G8 (n6 m) rfl hm hβ (fun k o _ hk ho=>hno k o hk ho)).1 (h0 ρ' (fun j hj=>by rw [ha j (by omega)]; exact hρ j hj) β x)
 intro fuel
 induction fuel with
 | zero=>
  intro t st kt listed a w hf ht h
  have hall:∀ k,k < os.length->Lst listed k:=fun k hk=>rH (by omega) hk
  refine⟨?_,fin t st kt listed a w ht h hall⟩
  cases hr:Region.ready .any ⟨os⟩ listed with
  | nil=>rfl
  | cons x xs=>
   have:x∈Region.ready .any ⟨os⟩ listed:=by rw [hr]; simp
   obtain⟨⟨h1,h2⟩,_⟩:=ready_iff.1 this
   exact absurd (hall x (by rw [<- h.size]; exact h1)) h2
 | succ fuel ih=>
  intro t st kt listed a w hf ht h
  refine⟨fun hr0=>fin t st kt listed a w ht h (fun k hk=>pL fun hnk=> ?_),fun i hi=> ?_⟩
  ·haveI:DecidablePred fun k=>¬ Lst listed k:=fun k=>Classical.propDecidable _
   obtain⟨k',hk',hnl,hmin⟩:=l1o (p:=fun k=>¬ Lst listed k) os.length ⟨k,hk,hnk⟩
   obtain⟨o,ho⟩:∃ o,os[k']? =some o:=⟨os[k'],by simp [hk']⟩
   have:k'∈Region.ready .any ⟨os⟩ listed:=ready_iff.2 ⟨⟨by rw [h.size]; exact hk',hnl⟩,o,ho,fun e he=>pL fun hn'=>hmin e (hd.fwd k' o ho e he) hn'⟩
   rw [hr0] at this
   cases this
  ·obtain⟨⟨h1,h2⟩,o,ho,hpre⟩:=ready_iff.1 hi
   have hin:i < os.length:=by rw [<- h.size]; exact h1
   have hun:=g0e hin h.size h2
   by_cases him:i < m
   ·exact c1l hX hp hd hm hst h0 hlm ht h him hi (fun a' w' h'=>ih t st kt _ a' w' (by omega) ht h')
   ·have hit:i=t:=by
     rcases aR i t with h' | h' | h'
     ·exact absurd ((h.tl i (by omega) hin).2 h') h2
     ·exact h'
     ·have:=hpre (i-1) (hd.chain i o (by have:=h.mt; omega) ho)
      have:=(h.tl (i-1) (by have:=h.mt; omega) (by omega)).1 this
      omega
    subst hit
    obtain⟨⟨s1,k1⟩,hq1⟩:=c0a (i:=i-m+1) (by omega) hn
    obtain⟨s',kv',o',q1,q2,q3⟩:=dL hq1
    rw [ht] at q1
    cases q1
    rw [show m+(i-m)=i by omega] at q2
    rw [ho] at q2
    cases q2
    exact b1a hX hp hd hm hst h0 ht ho q3 (iB (by omega) hq1 hn hl) h hpre hin (fun a' w' h'=>ih (i+1) s1 k1 _ a' w' (by omega) (by rw [show i+1-m=i-m+1 by omega]; exact hq1) h')
end
def g1x:List Nat->List Nat->Bool
 | [],[] =>true
 | i ::r,j ::r'=>zO0 i j && g1x r r'
 | _,_=>false
def g0f (X:Cx) (os:List Oper) (m:Nat) (s:St):Option St:=
 match s with
 | ⟨tm,hp,nid,ds,obs,lp,rd,mk,bs⟩=>match eH tm (os.drop m) with
  | none=>none
  | some ws=>match aU X false os nid (I1 ws hp) ds tm obs m with
   | none=>none
   | some ⟨tm',_,ob,kv,_,_⟩=>match eH tm' (os.drop m) with
    | none=>none
    | some ws'=>match g1x ws ws' with
     | false=>none
     | true=>match evT X os m (⟨tm',hp,nid,ds,ob,lp,rd,mk,bs⟩,kv) (os.length-m) with
      | none=>none
      | some (s',_)=>some s'
theorem a0y:∀ {l l':List Nat},g1x l l'=true->l=l'
 | [],[],_=>rfl
 | [],_ ::_,h=>by simp [g1x] at h
 | _ ::_,[],h=>by simp [g1x] at h
 | i ::r,j ::r',h=>by
  simp only [g1x,x5,y8] at h
  rw [h.1,a0y h.2]
theorem pA {X:Cx} {os:List Oper} {m:Nat} {s s':St} (h:g0f X os m s=some s'):
  ∃ ws hm kn,aU X false os s.nid (I1 ws s.heap) s.ds s.tmps s.obs m=some hm∧eH hm.tm (os.drop m)=some ws∧evT X os m (hm.toF s,hm.kv) (os.length-m)=some (s',kn):=by
 unfold g0f at h
 dsimp only at h
 split at h
 ·cases h
 rename_i ws hws
 split at h
 ·cases h
 rename_i he
 split at h
 ·cases h
 rename_i ws' hws'
 split at h
 ·cases h
 rename_i hq
 have:=a0y hq
 subst this
 split at h
 ·cases h
 rename_i kn ht
 cases h
 exact⟨ws,_,_,he,hws',ht⟩
end
noncomputable section
def mY:List UInt8->List UInt8->Bool
 | [],[] =>true
 | a ::l,b ::m=>zO0 a.toNat b.toNat && mY l m
 | _,_=>false
theorem nQ:∀ {l m:List UInt8},mY l m=true->l=m
 | [],[],_=>rfl
 | [],_ ::_,h=>by simp [mY] at h
 | _ ::_,[],h=>by simp [mY] at h
 | a ::l,b ::m,h=>by
  simp only [mY,x5,y8] at h
  rw [zzA132.1 h.1,nQ h.2]
def z0d:Int->Int->Bool
 | .ofNat a, .ofNat b=>zO0 a b
 | .negSucc a, .negSucc b=>zO0 a b
 | _,_=>false
theorem z0e:∀ {a b:Int},z0d a b=true->a=b
 | .ofNat a, .ofNat b,h=>by simp only [z0d,y8] at h; rw [h]
 | .negSucc a, .negSucc b,h=>by simp only [z0d,y8] at h; rw [h]
 | .ofNat a, .negSucc b,h=>by simp [z0d] at h
 | .negSucc a, .ofNat b,h=>by simp [z0d] at h
def a0a:Option Nat->Option Nat->Bool
 | none,none=>true
 | some a,some b=>zO0 a b
 | _,_=>false
theorem sH:∀ {a b:Option Nat},a0a a b=true->a=b
 | none,none,_=>rfl
 | some a,some b,h=>by simp only [a0a,y8] at h; rw [h]
 | none,some b,h=>by simp [a0a] at h
 | some a,none,h=>by simp [a0a] at h
def zH:Option Addr->Option Addr->Bool
 | none,none=>true
 | some ⟨b,o,s⟩,some ⟨b',o',s'⟩=>zO0 b b' && zO0 o o' && a0a s s'
 | _,_=>false
theorem vO:∀ {a b:Option Addr},zH a b=true->a=b
 | none,none,_=>rfl
 | some ⟨b,o,s⟩,some ⟨b',o',s'⟩,h=>by
  simp only [zH,x5,y8] at h
  rw [h.1.1,h.1.2,sH h.2]
 | none,some b,h=>by simp [zH] at h
 | some a,none,h=>by simp [zH] at h
def j2s:Fn->Fn->Bool
 | .func a, .func b=>zO0 a b
 | .yield a, .yield b=>zO0 a b
 | _,_=>false
theorem n1x:∀ {a b:Fn},j2s a b=true->a=b
 | .func a, .func b,h=>by simp only [j2s,y8] at h; rw [h]
 | .yield a, .yield b,h=>by simp only [j2s,y8] at h; rw [h]
 | a,b,h=>by
  unfold j2s at h
  split at h
  ·rw [y8] at h; rw [h]
  ·rw [y8] at h; rw [h]
  ·cases h
mutual
def eqV:Value->Value->Bool
 | .bool a,w=>match w with
  | .bool b=>w1z a b
  | _=>false
 | .int k a,w=>match w with
  | .int k' b=>decide (k=k') && z0d a b
  | _=>false
 | .float k a,w=>match w with
  | .float k' b=>decide (k=k') && zO0 a b
  | _=>false
 | .string ⟨⟨s⟩⟩,w=>match w with
  | .string ⟨⟨t⟩⟩=>mY s t
  | _=>false
 | .pointer a,w=>match w with
  | .pointer b=>zH a b
  | _=>false
 | .slice a n c,w=>match w with
  | .slice b n' c'=>zH a b && zO0 n n' && zO0 c c'
  | _=>false
 | .map a,w=>match w with
  | .map b=>a0a a b
  | _=>false
 | .func f a c,w=>match w with
  | .func f' a' c'=>j2s f f' && eqA a a' && eqA c c'
  | _=>false
 | .nilFunc,w=>match w with
  | .nilFunc=>true
  | _=>false
 | .iface t a,w=>match w with
  | .iface t' b=>zO0 t t' && eqV a b
  | _=>false
 | .nilIface,w=>match w with
  | .nilIface=>true
  | _=>false
 | .agg a,w=>match w with
  | .agg b=>eqA a b
  | _=>false
 | .tuple a,w=>match w with
  | .tuple b=>eqA a b
  | _=>false
 | .complex _ _ _,_=>false
 | .chan _,_=>false
def eqA:Array Value->Array Value->Bool
 | ⟨l⟩,w=>match w with
  | ⟨m⟩=>eqL l m
def eqL:List Value->List Value->Bool
 | [],w=>match w with
  | [] =>true
  | _=>false
 | v ::l,w=>match w with
  | [] =>false
  | x ::m=>eqV v x && eqL l m
end
theorem yU {a b:Bool} (h:w1z a b=true):a=b:=by
 cases a <;> cases b <;> first | rfl | (cases h)
mutual
theorem qX:∀ (v w:Value),eqV v w=true->v=w
 | .bool a,w,h=>by
  unfold eqV at h
  split at h
  ·rw [yU h]
  ·cases h
 | .int k a,w,h=>by
  unfold eqV at h
  split at h
  ·simp only [x5,aO] at h; rw [h.1,z0e h.2]
  ·cases h
 | .float k a,w,h=>by
  unfold eqV at h
  split at h
  ·simp only [x5,aO,y8] at h; rw [h.1,h.2]
  ·cases h
 | .string ⟨⟨s⟩⟩,w,h=>by
  unfold eqV at h
  split at h
  ·rw [nQ h]
  ·cases h
 | .pointer a,w,h=>by
  unfold eqV at h
  split at h
  ·rw [vO h]
  ·cases h
 | .slice a n c,w,h=>by
  unfold eqV at h
  split at h
  ·simp only [x5,y8] at h; rw [vO h.1.1,h.1.2,h.2]
  ·cases h
 | .map a,w,h=>by
  unfold eqV at h
  split at h
  ·rw [sH h]
  ·cases h
 | .func f a c,w,h=>by
  unfold eqV at h
  split at h
  ·simp only [x5] at h; rw [n1x h.1.1,eqA_spec _ _ h.1.2,eqA_spec _ _ h.2]
  ·cases h
 | .nilFunc,w,h=>by
  unfold eqV at h
  split at h
  ·rfl
  ·cases h
 | .iface t a,w,h=>by
  unfold eqV at h
  split at h
  ·simp only [x5,y8] at h; rw [h.1,qX _ _ h.2]
  ·cases h
 | .nilIface,w,h=>by
  unfold eqV at h
  split at h
  ·rfl
  ·cases h
 | .agg a,w,h=>by
  unfold eqV at h
  split at h
  ·rw [eqA_spec _ _ h]
  ·cases h
 | .tuple a,w,h=>by
  unfold eqV at h
  split at h
  ·rw [eqA_spec _ _ h]
  ·cases h
 | .complex _ _ _,w,h=>by unfold eqV at h; cases h
 | .chan _,w,h=>by unfold eqV at h; cases h
theorem eqA_spec:∀ (v w:Array Value),eqA v w=true->v=w
 | ⟨l⟩,⟨m⟩,h=>by
  unfold eqA at h
  rw [eqL_spec l m h]
theorem eqL_spec:∀ (v w:List Value),eqL v w=true->v=w
 | [],w,h=>by
  unfold eqL at h
  split at h
  ·rfl
  ·cases h
 | v ::l,w,h=>by
  unfold eqL at h
  split at h
  ·cases h
  ·simp only [x5] at h
   rw [qX _ _ h.1,eqL_spec _ _ h.2]
end
def j2c:List (Nat×Bool)->List (Nat×Bool)->Bool
 | [],[] =>true
 | (i,a) ::l,(j,b) ::m=>zO0 i j && w1z a b && j2c l m
 | _,_=>false
theorem m0d:∀ {l m:List (Nat×Bool)},j2c l m=true->l=m
 | [],[],_=>rfl
 | [],_ ::_,h=>by simp [j2c] at h
 | _ ::_,[],h=>by simp [j2c] at h
 | (i,a) ::l,(j,b) ::m,h=>by
  simp only [j2c,x5,y8] at h
  rw [h.1.1,yU h.1.2,m0d h.2]
def eqT:TV->TV->Bool
 | .v a,t=>match t with
  | .v b=>eqV a b
  | _=>false
 | .sp l a,t=>match t with
  | .sp m b=>j2c l m && eqV a b
  | _=>false
 | _,_=>false
theorem q1f {a b:TV} (h:eqT a b=true):a=b:=by
 unfold eqT at h
 split at h
 ·split at h
  ·rw [qX _ _ h]
  ·cases h
 ·split at h
  ·simp only [x5] at h
   rw [m0d h.1,qX _ _ h.2]
  ·cases h
 ·cases h
theorem a1e {P:Program} {auto:Bool} {ev:Operand->Option Value} {o:Oper} (hb:aB o.op=true) (H H':Heap) (n n':Nat) (ds:List Bool) {r:R} (h:x0g P auto ev o H n ds=some r):
  ∃ h',x0g P auto ev o H' n' ds=some ⟨r.v,h',r.obs,r.ds⟩:=by
 have mk:∀ {x:Option Value},mkR H ds x=some r->∃ h',mkR H' ds x=some ⟨r.v,h',r.obs,r.ds⟩:=fun {x} hx=>by
  cases x with
  | none=>cases hx
  | some v=>cases hx; exact⟨H',rfl⟩
 have mk2:∀ {x:Option (Value×List Prop)},a1h H ds x=some r->∃ h',a1h H' ds x=some ⟨r.v,h',r.obs,r.ds⟩:=fun {x} hx=>by
  cases x with
  | none=>cases hx
  | some v=>cases hx; exact⟨H',rfl⟩
 unfold x0g at h ⊢
 cases ho:o.op with
 | move x=>rw [ho] at h; exact mk h
 | assign x=>rw [ho] at h; exact mk h
 | build t ps=>
  rw [ho] at h
  dsimp only at h ⊢
  cases hp:fZ ev ps.toList with
  | none=>rw [hp] at h; cases h
  | some l=>rw [hp] at h; exact mk h
 | binOp op t x y k=>
  rw [ho] at h
  dsimp only at h ⊢
  cases h1:ev x with
  | none=>rw [h1] at h; cases h
  | some a=>
   cases h2:ev y with
   | none=>rw [h1,h2] at h; cases h
   | some b=>
    rw [h1,h2] at h
    have hn:u2x y=false:=by rw [ho] at hb; simpa [aB] using hb
    dsimp only at h ⊢
    rw [hn] at h ⊢
    dsimp only at h ⊢
    cases h3:u0i P op t a b with
    | none=>rw [h3] at h; exact mk2 h
    | some v=>rw [h3] at h; exact mk h
 | unOp op t x=>
  rw [ho] at h
  dsimp only at h ⊢
  cases h1:ev x with
  | none=>rw [h1] at h; cases h
  | some a=>
   rw [h1] at h
   dsimp only at h ⊢
   cases h2:z7 a with
   | false=>rw [h2] at h; cases h
   | true=>rw [h2] at h; exact mk h
 | makeInterface t x=>
  rw [ho] at h
  dsimp only at h ⊢
  split at h
  ·cases h; exact⟨H',rfl⟩
  ·cases h
 | makeFunc f a b=>
  rw [ho] at h
  dsimp only at h ⊢
  split at h
  ·cases h; exact⟨H',rfl⟩
  ·cases h
 | field t x f=>
  rw [ho] at h
  dsimp only at h ⊢
  cases h1:ev x with
  | none=>rw [h1] at h; cases h
  | some a=>rw [h1] at h; exact mk h
 | index t x ix=>
  rw [ho] at h
  dsimp only at h ⊢
  cases h1:ev x with
  | none=>rw [h1] at h; cases h
  | some a=>
   cases h2:ev ix with
   | none=>rw [h1,h2] at h; cases h
   | some b=>rw [h1,h2] at h; exact mk2 h
 | extract x i=>
  rw [ho] at h
  dsimp only at h ⊢
  cases h1:ev x with
  | none=>rw [h1] at h; cases h
  | some a=>rw [h1] at h; exact mk h
 | pick c x y=>rw [ho] at h; cases h
 | _=>rw [ho] at hb; cases hb
theorem s0d {o:Op} (h:aB o=true):(∃ c x y,o= .pick c x y)∨I3 o=true:=by
 cases o <;> first | (cases h; done) | (exact .inr rfl) | (exact .inl ⟨_,_,_,rfl⟩)
theorem i0j {X:Cx} {o:Oper} {conds:List (Nat×Bool)} {tm:List TV} {H:Heap} {n:Nat} {ds:List Bool} {r:CR} (hb:aB o.op=true) (h:E2 X true o conds tm H n ds=some r) (H':Heap) (n':Nat):
  E2 X true o conds tm H' n' ds=some ⟨r.v,H',n',r.obs,ds⟩:=by
 unfold E2 at h ⊢
 cases hg:mK X.P o with
 | false=>rw [hg] at h; cases h
 | true=>
 rw [hg] at h
 dsimp only at h ⊢
 cases hnc:p1w X (evo tm conds) o.op with
 | some l=>rw [hnc] at h; cases h
 | none=>
 rw [hnc] at h
 dsimp only at h ⊢
 cases hs:s2b X.P X.auto (evo tm conds) o.op with
 | some e=>rw [hs] at h; cases h
 | none=>
 rw [hs] at h
 dsimp only at h ⊢
 rcases s0d hb with ⟨c,x,y,ho⟩ | hst
 ·rw [ho] at h ⊢
  dsimp only at h ⊢
  cases h1:(jS x && jS y) with
  | false=>rw [h1] at h; cases h
  | true=>
   rw [h1] at h
   dsimp only at h ⊢
   cases h2:v0h X.gd tm conds c x y with
   | none=>rw [h2] at h; cases h
   | some v=>rw [h2] at h; cases h; rfl
 ·have hc:∀ c,o.op≠ .call c:=fun c e=>by rw [e] at hb; cases hb
  have hpk:∀ c x y,o.op≠ .pick c x y:=fun c x y e=>by rw [e] at hst; cases hst
  split at h
  ·rename_i e; exact absurd e (hpk _ _ _)
  ·rename_i e; exact absurd e (hc _)
  cases h1:x0g X.P X.auto (evo tm conds) o H n ds with
  | none=>rw [h1] at h; cases h
  | some r0=>
   rw [h1] at h
   obtain⟨h',e⟩:=a1e hb H H' n n' ds h1
   rw [e]
   dsimp only at h ⊢
   rw [hst] at h ⊢
   cases h
   rfl
theorem p0k {X:Cx} {os:List Oper} {o:Oper} {tm tm':List TV} {H:Heap} {n:Nat} {ds:List Bool} {kv kv':KV} {tv:TV} {r:CR} (hb:aB o.op=true) (h:O7 X true os o tm H n ds kv=some (tm',kv',tv,r)) (H':Heap) (n':Nat):
  O7 X true os o tm H' n' ds kv=some (tm',kv',tv,⟨r.v,H',n',r.obs,ds⟩):=by
 rw [B3] at h ⊢
 split at h
 ·cases h
 ·cases h; rfl
 ·split at h
  ·cases h
  ·rename_i r1 ha
   cases h
   rcases F5 ha with ⟨r0,hbd,e⟩ | ⟨hq,_⟩
   ·have:=i0j hb (by simpa using hbd) H' n'
    subst e
    unfold i0r
    rw [show (true || c1x _)=true from rfl,this]
   ·cases hq
theorem n0q {X:Cx} {q q':Bool} {os:List Oper} {o:Oper} {tm t1 t2:List TV} {H H':Heap} {n n':Nat} {ds ds':List Bool} {kv k1 k2:KV} {v1 v2:TV} {r1 r2:CR} (h:O7 X q os o tm H n ds kv=some (t1,k1,v1,r1)) (h':O7 X q' os o tm H' n' ds' kv=some (t2,k2,v2,r2)):t1=t2∧k1=k2:=by
 rw [B3] at h h'
 cases hg:J9 X.gd os o tm kv with
 | none=>rw [hg] at h; cases h
 | some p=>
  obtain⟨b,t,k,c⟩:=p
  rw [hg] at h h'
  cases b with
  | true=>cases h; cases h'; exact⟨rfl,rfl⟩
  | false=>
   dsimp only at h h'
   split at h
   ·cases h
   ·cases h
    split at h'
    ·cases h'
    ·cases h'; exact⟨rfl,rfl⟩
def flO (o:Oper):Bool:=match o.op with
 | .pick _ _ _=>true
 | .call c=>match c.callee with
  | .builtin b=>match d1v b with
   | true=>false
   | false=>match l2l b with
    | true=>false
    | false=>true
  | _=>false
 | p=>I3 p
def evF (X:Cx) (os:List Oper) (s0:St):Nat->Option (St×KV)
 | 0=>some (s0,[])
 | i+1=>match evF X os s0 i with
  | none=>none
  | some (s,kv)=>match p1r os i with
   | none=>none
   | some o=>P5 X (flO o) os o s kv
section
variable {X:Cx} {os:List Oper} {s0:St}
theorem U6 {i:Nat} {s':St} {kv':KV} (h:evF X os s0 (i+1)=some (s',kv')):∃ s kv o,evF X os s0 i=some (s,kv)∧os[i]? =some o∧P5 X (flO o) os o s kv=some (s',kv'):=by
 simp only [evF,Z0] at h
 split at h
 ·cases h
 ·rename_i s kv hs
  split at h
  ·cases h
  ·rename_i o ho
   exact⟨s,kv,o,hs,ho,h⟩
theorem u1q {i:Nat} {s:St} {kv:KV} {o:Oper} (h:evF X os s0 i=some (s,kv)) (ho:os[i]? =some o):evF X os s0 (i+1)=P5 X (flO o) os o s kv:=by
 simp only [evF,Z0,h,ho]
theorem s0z:∀ {j i:Nat} {si sj:St} {ki kj:KV},i<=j->evF X os s0 i=some (si,ki)->evF X os s0 j=some (sj,kj)->d9 sj.obs->d9 si.obs
 | 0,i,si,sj,ki,kj,hij,h1,h2,hl=>by
  obtain rfl:i=0:=by omega
  rw [h1] at h2; cases h2; exact hl
 | j+1,i,si,sj,ki,kj,hij,h1,h2,hl=>by
  by_cases e:i=j+1
  ·subst e; rw [h1] at h2; cases h2; exact hl
  ·obtain⟨s,kv,o,hs,_,ho⟩:=U6 h2
   exact s0z (by omega) h1 hs (lW ho hl)
theorem u0p:∀ {j i:Nat} {r:St×KV},i<=j->evF X os s0 j=some r->∃ q,evF X os s0 i=some q
 | 0,i,r,hij,h=>by
  obtain rfl:i=0:=by omega
  exact⟨r,h⟩
 | j+1,i,r,hij,h=>by
  by_cases e:i=j+1
  ·subst e; exact⟨r,h⟩
  ·obtain⟨s',kv'⟩:=r
   obtain⟨s,kv,o,hs,_,_⟩:=U6 h
   exact u0p (by omega) hs
theorem U2:∀ {i:Nat} {s:St} {kv:KV},evF X os s0 i=some (s,kv)->(∃ β,KVok kv β)∧s.tmps.length=s0.tmps.length
 | 0,s,kv,h=>by simp only [evF] at h; cases h; exact⟨⟨fun _=>false,fun p hp=>by cases hp⟩,rfl⟩
 | i+1,s,kv,h=>by
  obtain⟨s1,k1,o,h1,_,h2⟩:=U6 h
  obtain⟨e1,e2⟩:=U2 h1
  rw [z8] at h2
  split at h2
  ·cases h2
  ·rename_i he
   cases h2
   obtain⟨g1,_,g3⟩:=N0 he e1
   exact⟨g1,by rw [Z3]; omega⟩
theorem c0c {β:Nat->Bool} :∀ {j i:Nat} {si sj:St} {ki kj:KV},i<=j->evF X os s0 i=some (si,ki)->evF X os s0 j=some (sj,kj)->KVok kj β->KVok ki β
 | 0,i,si,sj,ki,kj,hij,h1,h2,hk=>by
  obtain rfl:i=0:=by omega
  rw [h1] at h2; cases h2; exact hk
 | j+1,i,si,sj,ki,kj,hij,h1,h2,hk=>by
  by_cases e:i=j+1
  ·subst e; rw [h1] at h2; cases h2; exact hk
  ·obtain⟨s,kv,o,hs,_,ho⟩:=U6 h2
   rw [z8] at ho
   split at ho
   ·cases ho
   ·rename_i he
    cases ho
    exact c0c (by omega) h1 hs ((N0 he (U2 hs).1).2.1 β hk)
theorem lF {ρ:Num} {β:Nat->Bool} {t:Nat} {r:Value} :∀ {j i:Nat} {si sj:St} {ki kj:KV},i<=j->evF X os s0 i=some (si,ki)->evF X os s0 j=some (sj,kj)->KVok kj β->
  (∀ k o,i<=k->k < j->os[k]? =some o->o.dst≠some t)->(E7 ρ β (A1 si.tmps t) r↔E7 ρ β (A1 sj.tmps t) r)
 | 0,i,si,sj,ki,kj,hij,h1,h2,_,_=>by
  obtain rfl:i=0:=by omega
  rw [h1] at h2; cases h2; exact Q8
 | j+1,i,si,sj,ki,kj,hij,h1,h2,hk,hw=>by
  by_cases e:i=j+1
  ·subst e; rw [h1] at h2; cases h2; exact Q8
  ·obtain⟨s,kv,o,hs,hoj,ho⟩:=U6 h2
   have hkv:KVok kv β:=c0c (by omega) hs h2 hk
   exact (lF (by omega) h1 hs hkv (fun k o' hk1 hk2=>hw k o' hk1 (by omega))).trans (tT ho hk (hw j o (by omega) (by omega) hoj) r)
theorem i0h:∀ {i:Nat} {s:St} {kv:KV},evF X os s0 i=some (s,kv)->s.rd=s0.rd∧s.mks=s0.mks∧s.bs=s0.bs
 | 0,s,kv,h=>by simp only [evF] at h; cases h; exact⟨rfl,rfl,rfl⟩
 | i+1,s,kv,h=>by
  obtain⟨s1,k1,o,h1,_,h2⟩:=U6 h
  obtain⟨e1,e2,e3⟩:=i0h h1
  rw [z8] at h2
  split at h2
  ·cases h2
  ·cases h2; exact⟨e1,e2,e3⟩
theorem iJ:∀ {j i:Nat} {si sj:St} {ki kj:KV},i<=j->evF X os s0 i=some (si,ki)->evF X os s0 j=some (sj,kj)->(∀ k o,i<=k->k < j->os[k]? =some o->flO o=true)->sj.heap=si.heap∧sj.nid=si.nid
 | 0,i,si,sj,ki,kj,hij,h1,h2,_=>by
  obtain rfl:i=0:=by omega
  rw [h1] at h2; cases h2; exact⟨rfl,rfl⟩
 | j+1,i,si,sj,ki,kj,hij,h1,h2,hw=>by
  by_cases e:i=j+1
  ·subst e; rw [h1] at h2; cases h2; exact⟨rfl,rfl⟩
  ·obtain⟨s,kv,o,hs,hoj,ho⟩:=U6 h2
   rw [hw j o (by omega) (by omega) hoj] at ho
   obtain⟨q1,q2,_⟩:=nH ho
   obtain⟨g1,g2⟩:=iJ (by omega) h1 hs (fun k o' hk1 hk2=>hw k o' hk1 (by omega))
   exact⟨q1.trans g1,q2.trans g2⟩
end
def trF (X:Cx) (os:List Oper):List Oper->St->KV->Option (List (St×KV))
 | [],s,kv=>some [(s,kv)]
 | o ::r,s,kv=>match P5 X (flO o) os o s kv with
  | none=>none
  | some (s',kv')=>match trF X os r s' kv' with
   | none=>none
   | some l=>some ((s,kv) ::l)
theorem v0x {X:Cx} {os:List Oper} {s0:St} :∀ {r:List Oper} {i:Nat} {s:St} {kv:KV} {l:List (St×KV)},trF X os r s kv=some l->evF X os s0 i=some (s,kv)->r=os.drop i->l.length=r.length+1∧∀ k p,l[k]? =some p->evF X os s0 (i+k)=some p
 | [],i,s,kv,l,h,hs,_=>by
  simp only [trF] at h
  cases h
  refine⟨rfl,fun k p hk=> ?_⟩
  cases k with
  | zero=>simp only [K5,L3] at hk; subst hk; exact hs
  | succ k=>simp at hk
 | o ::r,i,s,kv,l,h,hs,hr=>by
  simp only [trF] at h
  have ho:os[i]? =some o:=by
   have:=H5 (fun q=>q[0]?) hr
   simp only [K5,S3,E4] at this
   exact this.symm
  have hr':r=os.drop (i+1):=by
   have:=H5 List.tail hr
   simpa using this
  split at h
  ·cases h
  ·rename_i s' kv' he
   split at h
   ·cases h
   ·rename_i l' hl'
    cases h
    obtain⟨e1,e2⟩:=v0x hl' ((u1q hs ho).trans he) hr'
    refine⟨by simp [e1],fun k p hk=> ?_⟩
    cases k with
    | zero=>simp only [K5,L3] at hk; subst hk; exact hs
    | succ k=>
     simp only [O0] at hk
     rw [show i+(k+1)=i+1+k by omega]
     exact e2 k p hk
def b1g:Nat->List Oper->List (St×KV)->List (Nat×St)
 | _,[],_=>[]
 | _,_ ::_,[] =>[]
 | i,o ::r,_ ::l=>match flO o with
  | true=>b1g (i+1) r l
  | false=>match l with
   | [] =>[]
   | (s,_) ::_=>(i+1,s) ::b1g (i+1) r l
theorem b0c:∀ {r:List Oper} {i:Nat} {l:List (St×KV)},l.length=r.length+1->∀ k o p,r[k]? =some o->flO o=false->l[k+1]? =some p->(i+k+1,p.1)∈b1g i r l
 | [],i,l,_,k,o,p,ho,_,_=>by simp at ho
 | x ::r,i,[],hl,k,o,p,ho,hf,hp=>by simp at hl
 | x ::r,i,y ::l,hl,k,o,p,ho,hf,hp=>by
  have hl':l.length=r.length+1:=by simpa using hl
  simp only [O0] at hp
  unfold b1g
  cases k with
  | zero=>
   simp only [K5,L3] at ho
   subst ho
   rw [hf]
   cases l with
   | nil=>simp at hp
   | cons z l=>
    simp only [K5,L3] at hp
    subst hp
    simp
  | succ k=>
   simp only [O0] at ho
   have:=b0c (i:=i+1) hl' k o p ho hf hp
   rw [show i+(k+1)+1=i+1+k+1 by omega]
   split
   ·exact this
   ·cases l with
    | nil=>simp at hp
    | cons z l=>exact R8 _ this
def q2s:List (Nat×List Nat)->List Nat->Bool
 | [],_=>true
 | (i,_) ::r,l=>H9 i l && q2s r l
theorem k0g:∀ {a:List (Nat×List Nat)} {l:List Nat},q2s a l=true->∀ p∈a,p.1∈l
 | [],_,_,p,hp=>by cases hp
 | (i,x) ::r,l,h,p,hp=>by
  simp only [q2s,x5,memN_iff] at h
  rcases zzA84.1 hp with rfl | hp
  ·exact h.1
  ·exact k0g h.2 p hp
def spF (os:List Oper):Nat->List Oper->List (Nat×List Nat)->Option (List (Nat×List Nat))
 | _,[],acc=>some acc
 | i,o ::r,acc=>match flO o with
  | true=>spF os (i+1) r acc
  | false=>match q2s acc (I0 os o) with
   | false=>none
   | true=>spF os (i+1) r ((i,I0 os o) ::acc)
theorem e0y {os:List Oper} :∀ {r:List Oper} {i:Nat} {acc z:List (Nat×List Nat)},spF os i r acc=some z->r=os.drop i->
  (∀ p∈acc,p.1 < i∧∃ o,os[p.1]? =some o∧flO o=false∧p.2=I0 os o)->(∀ j o,j < i->os[j]? =some o->flO o=false->(j,I0 os o)∈acc)->
  (∀ j k oj ok,j < k->k < i->os[j]? =some oj->os[k]? =some ok->flO oj=false->flO ok=false->j∈I0 os ok)->
  (∀ p∈z,∃ o,os[p.1]? =some o∧flO o=false∧p.2=I0 os o)∧(∀ j o,os[j]? =some o->flO o=false->(j,I0 os o)∈z)∧
  (∀ j k oj ok,j < k->os[j]? =some oj->os[k]? =some ok->flO oj=false->flO ok=false->j∈I0 os ok)
 | [],i,acc,z,h,hr,h1,h2,h3=>by
  simp only [spF] at h
  cases h
  have hi:os.length<=i:=by
   have:=H5 List.length hr
   simp only [mE,D5] at this
   omega
  have lt:∀ {j o},os[j]? =some o->j < i:=fun {j o} hj=>by
   have:=(zzA1.1 hj).1
   omega
  exact⟨fun p hp=>(h1 p hp).2,fun j o hj hf=>h2 j o (lt hj) hj hf,fun j k oj ok hjk hj hk fj fk=>h3 j k oj ok hjk (lt hk) hj hk fj fk⟩
 | o ::r,i,acc,z,h,hr,h1,h2,h3=>by
  have ho:os[i]? =some o:=by
   have:=H5 (fun q=>q[0]?) hr
   simp only [K5,S3,E4] at this
   exact this.symm
  have hr':r=os.drop (i+1):=by
   have:=H5 List.tail hr
   simpa using this
  simp only [spF] at h
  split at h
  ·rename_i hf
   refine e0y h hr' (fun p hp=>⟨by have:=(h1 p hp).1; omega,(h1 p hp).2⟩) (fun j oj hj hoj fj=> ?_) (fun j k oj ok hjk hk hoj hok fj fk=> ?_)
   ·by_cases e:j=i
    ·subst e; rw [ho] at hoj; cases hoj; rw [hf] at fj; cases fj
    ·exact h2 j oj (by omega) hoj fj
   ·by_cases e:k=i
    ·subst e; rw [ho] at hok; cases hok; rw [hf] at fk; cases fk
    ·exact h3 j k oj ok hjk (by omega) hoj hok fj fk
  ·rename_i hf
   split at h
   ·cases h
   ·rename_i hs
    refine e0y h hr' (fun p hp=> ?_) (fun j oj hj hoj fj=> ?_) (fun j k oj ok hjk hk hoj hok fj fk=> ?_)
    ·rcases zzA84.1 hp with rfl | hp
     ·exact⟨by show i < i+1; omega,o,ho,hf,rfl⟩
     ·exact⟨by have:=(h1 p hp).1; omega,(h1 p hp).2⟩
    ·by_cases e:j=i
     ·subst e; rw [ho] at hoj; cases hoj; exact X5
     ·exact R8 _ (h2 j oj (by omega) hoj fj)
    ·by_cases e:k=i
     ·subst e
      rw [ho] at hok
      cases hok
      exact k0g hs _ (h2 j oj hjk hoj fj)
     ·exact h3 j k oj ok hjk (by omega) hoj hok fj fk
def i0o (p k:Nat):List (Nat×List Nat)->Bool
 | [] =>true
 | (d,_) ::r=>(zO1 d p || Nat.ble k d) && i0o p k r
theorem tZ {p k:Nat} :∀ {l:List (Nat×List Nat)},i0o p k l=true->∀ q∈l,q.1 < p∨k<=q.1
 | [],_,q,hq=>by cases hq
 | (d,x) ::r,h,q,hq=>by
  simp only [i0o,x5,kX,D1,M8] at h
  rcases zzA84.1 hq with rfl | hq
  ·exact h.1
  ·exact tZ h.2 q hq
def z0s (k p:Nat):List (Nat×List Nat)->Bool
 | [] =>false
 | (d,rd) ::r=>(zO1 d p && H9 k rd) || z0s k p r
theorem a0q {k p:Nat} :∀ {l:List (Nat×List Nat)},z0s k p l=true->∃ q∈l,q.1 < p∧k∈q.2
 | [],h=>by simp [z0s] at h
 | (d,rd) ::r,h=>by
  simp only [z0s,kX,x5,D1,memN_iff] at h
  rcases h with h | h
  ·exact⟨_,X5,h⟩
  ·obtain⟨q,hq,h'⟩:=a0q h
   exact⟨q,R8 _ hq,h'⟩
def a0r (re:List Nat) (p:Nat):List (Nat×List Nat)->Bool
 | [] =>false
 | (d,_) ::r=>(Nat.ble p d && H9 d re) || a0r re p r
theorem sX {re:List Nat} {p:Nat} :∀ {l:List (Nat×List Nat)},a0r re p l=true->∃ q∈l,p<=q.1∧q.1∈re
 | [],h=>by simp [a0r] at h
 | (d,x) ::r,h=>by
  simp only [a0r,kX,x5,M8,memN_iff] at h
  rcases h with h | h
  ·exact⟨_,X5,h⟩
  ·obtain⟨q,hq,h'⟩:=sX h
   exact⟨q,R8 _ hq,h'⟩
def q0h (re:List Nat) (k:Nat) (sp:List (Nat×List Nat)):List (Nat×St)->List (Nat×St)
 | [] =>[]
 | (p,s) ::r=>match Nat.ble p k && i0o p k sp with
  | true=>q0h re k sp r
  | false=>match z0s k p sp with
   | true=>q0h re k sp r
   | false=>match a0r re p sp with
    | true=>q0h re k sp r
    | false=>(p,s) ::q0h re k sp r
theorem yM {re:List Nat} {k:Nat} {sp:List (Nat×List Nat)} :∀ {l:List (Nat×St)} {p:Nat} {s:St},(p,s)∈l->(p<=k∧i0o p k sp=true)∨z0s k p sp=true∨a0r re p sp=true∨(p,s)∈q0h re k sp l
 | [],p,s,h=>by cases h
 | (p',s') ::r,p,s,h=>by
  unfold q0h
  rcases zzA84.1 h with e | h
  ·cases e
   split
   ·rename_i c
    simp only [x5,M8] at c
    exact .inl c
   ·split
    ·rename_i c; exact .inr (.inl c)
    ·split
     ·rename_i c; exact .inr (.inr (.inl c))
     ·exact .inr (.inr (.inr X5))
  ·rcases yM (re:=re) (k:=k) (sp:=sp) h with h1 | h1 | h1 | h1
   ·exact .inl h1
   ·exact .inr (.inl h1)
   ·exact .inr (.inr (.inl h1))
   ·refine .inr (.inr (.inr ?_))
    split
    ·exact h1
    ·split
     ·exact h1
     ·split
      ·exact h1
      ·exact R8 _ h1
def r2u (X:Cx) (os:List Oper) (o:Oper) (tm:List TV) (ds:List Bool) (kv:KV) (tv:TV):St->Option (List Prop)
 | ⟨_,hp,nid,_,_,_,_,_,_⟩=>match O7 X true os o tm hp nid ds kv with
  | none=>none
  | some (_,_,tv',⟨_,_,_,ob,_⟩)=>match X.auto with
   | true=>match eqT tv' tv with
    | true=>some ob
    | false=>none
   | false=>some ((tv'=tv) ::ob)
theorem l1r {X:Cx} {os:List Oper} {o:Oper} {tm:List TV} {ds:List Bool} {kv:KV} {tv:TV} {s:St} {ob:List Prop} (h:r2u X os o tm ds kv tv s=some ob) (hl:d9 ob):∃ t k r,O7 X true os o tm s.heap s.nid ds kv=some (t,k,tv,r)∧d9 r.obs:=by
 unfold r2u at h
 dsimp only at h
 split at h
 ·cases h
 ·rename_i he
  split at h
  ·split at h
   ·rename_i hq
    cases h
    rw [q1f hq] at he
    exact⟨_,_,_,he,hl⟩
   ·cases h
  ·cases h
   rw [hl.1] at he
   exact⟨_,_,_,he,hl.2⟩
def x0w (X:Cx) (os:List Oper) (o:Oper) (tm:List TV) (ds:List Bool) (kv:KV) (tv:TV):List (Nat×St)->Option (List Prop)
 | [] =>some []
 | (_,s) ::r=>match r2u X os o tm ds kv tv s with
  | none=>none
  | some ob=>match x0w X os o tm ds kv tv r with
   | none=>none
   | some ob'=>some (ob++ob')
theorem uO {X:Cx} {os:List Oper} {o:Oper} {tm:List TV} {ds:List Bool} {kv:KV} {tv:TV} :∀ {l:List (Nat×St)} {ob:List Prop},x0w X os o tm ds kv tv l=some ob->d9 ob->∀ p∈l,∃ t k r,O7 X true os o tm p.2.heap p.2.nid ds kv=some (t,k,tv,r)∧d9 r.obs
 | [],_,_,_,p,hp=>by cases hp
 | (i,s) ::r,ob,h,hl,p,hp=>by
  simp only [x0w] at h
  split at h
  ·cases h
  ·rename_i ob1 h1
   split at h
   ·cases h
   ·rename_i ob2 h2
    cases h
    rw [i6] at hl
    rcases zzA84.1 hp with rfl | hp
    ·exact l1r h1 hl.1
    ·exact uO h2 hl.2 p hp
def f2g (X:Cx) (os:List Oper) (cuts:List (Nat×St)) (sp:List (Nat×List Nat)) (k:Nat) (o:Oper) (kv:KV):St->Option (List Prop)
 | ⟨tm,hp,nid,ds,_,_,_,_,_⟩=>match q0h (I0 os o) k sp cuts with
  | [] =>some []
  | c ::cs=>match O7 X true os o tm hp nid ds kv with
   | none=>none
   | some (_,_,tv,_)=>x0w X os o tm ds kv tv (c ::cs)
def h1q (X:Cx) (os:List Oper) (cuts:List (Nat×St)) (sp:List (Nat×List Nat)):Nat->List Oper->List (St×KV)->Option (List Prop)
 | _,[],_=>some []
 | _,_ ::_,[] =>some []
 | k,o ::r,(s,kv) ::l=>match flO o && !aB o.op with
  | false=>h1q X os cuts sp (k+1) r l
  | true=>match f2g X os cuts sp k o kv s with
   | none=>none
   | some ob=>match h1q X os cuts sp (k+1) r l with
    | none=>none
    | some ob'=>some (ob++ob')
theorem nA {X:Cx} {os:List Oper} {cuts:List (Nat×St)} {sp:List (Nat×List Nat)} :∀ {r:List Oper} {k0:Nat} {l:List (St×KV)} {ob:List Prop},h1q X os cuts sp k0 r l=some ob->d9 ob->l.length=r.length+1->
  ∀ k o p,r[k]? =some o->l[k]? =some p->flO o=true->aB o.op=false->∃ ob',f2g X os cuts sp (k0+k) o p.2 p.1=some ob'∧d9 ob'
 | [],_,_,_,_,_,_,k,o,p,ho,_,_,_=>by simp at ho
 | _ ::_,_,[],_,_,_,hl,k,o,p,ho,hp,_,_=>by simp at hl
 | x ::r,k0,(s,kv) ::l,ob,h,ha,hl,k,o,p,ho,hp,hf,hb=>by
  have hl':l.length=r.length+1:=by simpa using hl
  simp only [h1q] at h
  split at h
  ·rename_i hc
   cases k with
   | zero=>
    simp only [K5,L3] at ho
    subst ho
    rw [hf,hb] at hc
    cases hc
   | succ k=>
    simp only [O0] at ho hp
    rw [show k0+(k+1)=k0+1+k by omega]
    exact nA h ha hl' k o p ho hp hf hb
  ·split at h
   ·cases h
   ·rename_i ob1 h1
    split at h
    ·cases h
    ·rename_i ob2 h2
     cases h
     rw [i6] at ha
     cases k with
     | zero=>
      simp only [K5,L3] at ho hp
      subst ho hp
      exact⟨ob1,h1,ha.1⟩
     | succ k=>
      simp only [O0] at ho hp
      rw [show k0+(k+1)=k0+1+k by omega]
      exact nA h2 ha.2 hl' k o p ho hp hf hb
def f2r:List (St×KV)->Option St
 | [] =>none
 | [(s,_)] =>some s
 | _ ::x ::r=>f2r (x ::r)
theorem a0c:∀ {l:List (St×KV)} {s:St},f2r l=some s->∃ kv,l[l.length-1]? =some (s,kv)
 | [],s,h=>by cases h
 | [(s',kv)],s,h=>by cases h; exact⟨kv,rfl⟩
 | x ::y ::r,s,h=>by
  obtain⟨kv,e⟩:=a0c (l:=y ::r) h
  exact⟨kv,by simpa using e⟩
def St.more:St->List Prop->St
 | ⟨tm,hp,nid,ds,obs,lp,rd,mq,bs⟩,ob=>⟨tm,hp,nid,ds,ob++obs,lp,rd,mq,bs⟩
def sD (os:List Oper):Option (List (Nat×List Nat)):=match u0u os os.length with
 | false=>none
 | true=>spF os 0 os []
def q0a (X:Cx) (os:List Oper) (sp:List (Nat×List Nat)) (s:St):Option St:=
 match trF X os os s [] with
 | none=>none
 | some l=>match h1q X os ((0,s) ::b1g 0 os l) sp 0 os l with
  | none=>none
  | some ob=>match f2r l with
   | none=>none
   | some sn=>some (sn.more ob)
structure Spine (X:Cx) (os:List Oper) (s0 sn:St) (kn:KV):Prop where
 draws:Draws os os.length
 last:evF X os s0 os.length=some (sn,kn)
 obs:d9 sn.obs
 chain:∀ j k oj ok,j < k->os[j]? =some oj->os[k]? =some ok->flO oj=false->flO ok=false->j∈I0 os ok
 float:∀ k o s kv t1 k1 tv r p sp kp,os[k]? =some o->flO o=true->evF X os s0 k=some (s,kv)->O7 X true os o s.tmps s.heap s.nid s.ds kv=some (t1,k1,tv,r)->d9 r.obs->
  evF X os s0 p=some (sp,kp)->p<=os.length->(p=0∨∃ q op,p=q+1∧os[q]? =some op∧flO op=false)->
  (∀ d od,os[d]? =some od->flO od=false->d < p->k ∉ I0 os od)->(∀ d od,os[d]? =some od->flO od=false->p<=d->d ∉ I0 os o)->
  ∃ t2 k2 r2,O7 X true os o s.tmps sp.heap sp.nid s.ds kv=some (t2,k2,tv,r2)∧d9 r2.obs
theorem nK {X:Cx} {os:List Oper} {sp:List (Nat×List Nat)} {s s':St} (hsp:sD os=some sp) (h:q0a X os sp s=some s') (hl:d9 s'.obs):∃ sn kn ob,s'=sn.more ob∧Spine X os s sn kn:=by
 unfold sD at hsp
 split at hsp
 ·cases hsp
 rename_i hd
 obtain⟨z1,z2,z3⟩:=e0y hsp rfl (fun p hp=>by cases hp) (fun j o hj=>by omega) (fun j k oj ok hjk hk=>by omega)
 unfold q0a at h
 split at h
 ·cases h
 rename_i l htr
 split at h
 ·cases h
 rename_i ob hck
 split at h
 ·cases h
 rename_i sn hlast
 cases h
 obtain⟨kn,hln⟩:=a0c hlast
 obtain⟨e1,e2⟩:=v0x (s0:=s) (i:=0) htr rfl rfl
 have hob:d9 ob∧d9 sn.obs:=by
  have:(sn.more ob).obs=ob++sn.obs:=by cases sn; rfl
  rw [this,i6] at hl
  exact hl
 have hlast':evF X os s os.length=some (sn,kn):=by
  have:=e2 _ _ hln
  rw [show 0+(l.length-1)=os.length by omega] at this
  exact this
 refine⟨sn,kn,ob,rfl,tH hd,hlast',hob.2,z3,fun k o sk kv t1 k1 tv r p sq kp ho hf hs he hr hp hpn hcut hlate hearly=> ?_⟩
 have hkn:k < os.length:=(zzA1.1 ho).1
 cases hb:aB o.op with
 | true=>exact⟨_,_,_,p0k hb he _ _,hr⟩
 | false=>
  have atl:∀ i q,evF X os s i=some q->i<=os.length->l[i]? =some q:=fun i q hq hi=>by
   have hil:i < l.length:=by omega
   have:l[i]? =some l[i] :=by simp [hil]
   have h2:=e2 i _ this
   rw [Q6,hq] at h2
   rw [this,h2]
  obtain⟨ob',hone,hob'⟩:=nA hck hob.1 e1 k o _ ho (atl k _ hs (by omega)) hf hb
  have hin:(p,sq)∈(0,s) ::b1g 0 os l:=by
   rcases hcut with rfl | ⟨q,oq,rfl,hoq,hfq⟩
   ·have:evF X os s 0=some (s,[]):=rfl
    rw [this] at hp
    cases hp
    exact X5
   ·refine R8 _ ?_
    have:=b0c (i:=0) e1 q oq _ hoq hfq (atl (q+1) _ hp hpn)
    simpa using this
  rcases yM (re:=I0 os o) (k:=k) (sp:=sp) hin with hc | hc | hc | hc
  ·
   obtain⟨hpk,hno⟩:=hc
   have hq:=iJ hpk hp hs (fun j oj hj1 hj2 hoj=>by
    cases hfj:flO oj with
    | true=>rfl
    | false=>
     have:=tZ hno _ (z2 j oj hoj hfj)
     simp only at this
     omega)
   rw [<- hq.1,<- hq.2]
   exact⟨_,_,_,he,hr⟩
  ·obtain⟨q,hq,h1,h2⟩:=a0q hc
   obtain⟨oq,hoq,hfq,e⟩:=z1 q hq
   rw [e] at h2
   exact absurd h2 (hlate q.1 oq hoq hfq h1)
  ·obtain⟨q,hq,h1,h2⟩:=sX hc
   obtain⟨oq,hoq,hfq,e⟩:=z1 q hq
   exact absurd h2 (hearly q.1 oq hoq hfq h1)
  ·simp only [Q6] at hone
   unfold f2g at hone
   dsimp only at hone
   split at hone
   ·rename_i hn
    rw [hn] at hc
    cases hc
   ·rename_i hn
    rw [hn] at hc
    rw [he] at hone
    dsimp only at hone
    obtain⟨t2,k2,r2,g1,g2⟩:=uO hone hob' _ hc
    exact⟨t2,k2,r2,g1,g2⟩
structure HalfS (X:Cx) (J:Inv X.P) (B:Nat) (M:Nat->Prop) (w0:Bas) (os:List Oper) (s0:St) (a0:Act) (ρ0:Num) (sn:St) (kn:KV) (listed:Array Bool) (a:Act) (w:World):Prop where
 size:listed.size=os.length
 closed:∀ j o,os[j]? =some o->Lst listed j->∀ e∈m8 o,Lst listed e
 asize:a.tmps.size=s0.tmps.length
 defers:a.defers=w0.dfs
 base:B<=w.heap.size
 inv:J.I w
 keeps:Keeps B M w0.w w
 old:∀ t,(∀ k o,Lst listed k->os[k]? =some o->o.dst≠some t)->a.tmps.getD t undef=a0.tmps.getD t undef
 cut:∃ p sp kp ρ,evF X os s0 p=some (sp,kp)∧p<=os.length∧(p=0∨∃ q op,p=q+1∧os[q]? =some op∧flO op=false)∧(∀ j o,os[j]? =some o->flO o=false->(Lst listed j↔j < p))∧Agree s0.nid ρ0 ρ∧s0.nid<=sp.nid∧
  ∀ ρ',Agree sp.nid ρ ρ'->Sim X.P B M ρ' sp.heap w∧∀ k o d,Lst listed k->os[k]? =some o->o.dst=some d->∀ β,KVok kn β->E7 ρ' β (A1 sn.tmps d) (a.tmps.getD d undef)
theorem oZ {os:List Oper} {listed:Array Bool} (hcl:∀ j o,os[j]? =some o->Lst listed j->∀ e∈m8 o,Lst listed e) {o:Oper} (hpre:∀ e∈m8 o,Lst listed e):∀ e∈I0 os o,Lst listed e:=by
 refine cA (L:=fun j=>Lst listed j) (fun p hp e he=> ?_) 400 (m8 o) [] hpre (fun p hp=>by cases hp)
 unfold tJ at he
 split at he
 ·rename_i op hop; exact hcl p op hop hp e he
 ·cases he
theorem y0z {X:Cx} {J:Inv X.P} (hX:CxOk X J) {B:Nat} {M:Nat->Prop} (hp:Par X.P B M) {w0:Bas} {os:List Oper} {s0 sn:St} {kn:KV} (hd:Spine X os s0 sn kn) {a0:Act} {ρ0:Num}
  (h0:∀ ρ',Agree s0.nid ρ0 ρ'->∀ β t,E7 ρ' β (A1 s0.tmps t) (a0.tmps.getD t undef)) {listed:Array Bool} {a:Act} {w:World}
  (h:HalfS X J B M w0 os s0 a0 ρ0 sn kn listed a w) {i:Nat} (hr:i∈Region.ready .any ⟨os⟩ listed) {rb:Option Nat} {K:Act->World->Prop} {Q:Exit->Act->World->Prop}
  (hK:∀ a' w',HalfS X J B M w0 os s0 a0 ρ0 sn kn (listed.setIfInBounds i true) a' w'->K a' w'):wpOpIn (Fl rb) 0 X.P ⟨os⟩ Q i K a w:=by
 obtain⟨⟨hi,hnl⟩,o,ho,hpre⟩:=ready_iff.1 hr
 have hin:i < os.length:=(zzA1.1 ho).1
 have hisz:i < listed.size:=hi
 obtain⟨p,sp,kp,ρ,hsp,hpn,hcut,hL,hag,hnid,hρ⟩:=h.cut
 obtain⟨⟨s1,k1⟩,hq1⟩:=u0p (i:=i+1) (by omega) hd.last
 obtain⟨si,ki,o',hsi,ho',hop⟩:=U6 hq1
 rw [ho] at ho'
 cases ho'
 have hobs:=s0z (by omega) hq1 hd.last hd.obs
 obtain⟨_,elen⟩:=U2 hsi
 rw [z8] at hop
 split at hop
 ·cases hop
 rename_i tmps' kv1 tv r he
 cases hop
 simp only [i6] at hobs
 have hsub:∀ β,KVok kn β->KVok k1 β:=fun β hβ=>c0c (by omega) hq1 hd.last hβ
 have hsubi:∀ β,KVok kn β->KVok ki β:=fun β hβ=>c0c (by omega) hsi hd.last hβ
 have hre:=oZ h.closed hpre
 have wr:∀ k ok t,t∈looks os o->os[k]? =some ok->ok.dst=some t->k=i∨k∈m8 o∨i∈m8 ok:=fun k ok t ht hok hdk=>
  hd.draws.slot i o hin ho t ht k ok (zzA1.1 hok).1 hok hdk
 have hT:∀ ρ',Agree sp.nid ρ ρ'->∀ β,KVok kn β->∀ t∈looks os o,E7 ρ' β (A1 si.tmps t) (a.tmps.getD t undef):=by
  intro ρ' ha β hβ t ht
  by_cases hw:∃ k ok,Lst listed k∧os[k]? =some ok∧ok.dst=some t
  ·obtain⟨k,ok,hlk,hok,hdk⟩:=hw
   have hk:k < os.length:=(zzA1.1 hok).1
   have hki:k < i:=by
    rcases wr k ok t ht hok hdk with e | e | e
    ·subst e; exact absurd hlk hnl
    ·exact hd.draws.fwd i o ho k e
    ·exact absurd (h.closed k ok hok hlk i e) hnl
   have:=(hρ ρ' ha).2 k ok t hlk hok hdk β hβ
   refine (lF (by omega:i<=os.length) hsi hd.last hβ (fun k2 o2 hk1 hk2 ho2 hd2=> ?_)).2 this
   have:=hd.draws.dup k k2 ok o2 t hk hk2 hok ho2 hdk hd2
   omega
  ·have hno:∀ k ok,Lst listed k->os[k]? =some ok->ok.dst≠some t:=fun k ok hlk hok e=>hw ⟨k,ok,hlk,hok,e⟩
   rw [h.old t hno]
   refine (lF (n6 i) rfl hsi (hsubi β hβ) (fun k ok _ hk hok hdk=> ?_)).1 (h0 ρ' (fun j hj=>(ha j (by omega)).trans (hag j hj)) β t)
   rcases wr k ok t ht hok hdk with e | e | e
   ·omega
   ·exact hno k ok (hpre k e) hok hdk
   ·have:=hd.draws.fwd k ok hok i e
    omega
 have mkOld:∀ v:Value,∀ t,(∀ k ok,Lst (listed.setIfInBounds i true) k->os[k]? =some ok->ok.dst≠some t)->(a.put o.dst v).tmps.getD t undef=a0.tmps.getD t undef:=fun v t hno=>by
  rw [M9,a6 (fun hh=>hno i o ((s5 hisz).2 (.inl rfl)) ho hh.1)]
  exact h.old t (fun k ok hlk hok=>hno k ok ((s5 hisz).2 (.inr hlk)) hok)
 have mkClosed:∀ j oj,os[j]? =some oj->Lst (listed.setIfInBounds i true) j->∀ e∈m8 oj,Lst (listed.setIfInBounds i true) e:=fun j oj hoj hlj e he'=>by
  rw [s5 hisz] at hlj ⊢
  rcases hlj with rfl | hlj
  ·rw [ho] at hoj; cases hoj
   exact .inr (hpre e he')
  ·exact .inr (h.closed j oj hoj hlj e he')
 have mkNew:∀ (v:Value) (ρ':Num),(∀ β,KVok kn β->E7 ρ' β tv v)->(∀ k ok d,Lst listed k->os[k]? =some ok->ok.dst=some d->∀ β,KVok kn β->E7 ρ' β (A1 sn.tmps d) (a.tmps.getD d undef))->
   ∀ k ok d,Lst (listed.setIfInBounds i true) k->os[k]? =some ok->ok.dst=some d->∀ β,KVok kn β->E7 ρ' β (A1 sn.tmps d) ((a.put o.dst v).tmps.getD d undef):=fun v ρ' hv hbefore k ok d hlk hok hdk β hβ=>by
  have hkm:k < os.length:=(zzA1.1 hok).1
  rw [M9]
  by_cases hki:k=i
  ·subst hki
   rw [ho] at hok
   cases hok
   by_cases hds:d < a.tmps.size
   ·rw [b9 ⟨hdk,hds⟩]
    have hslot:=lF (X:=X) (os:=os) (s0:=s0) (ρ:=ρ') (β:=β) (t:=d) (r:=v) (by omega:k+1<=os.length) hq1 hd.last hβ (fun k2 o2 hk1 hk2 ho2 hd2=>by
     have:=hd.draws.dup k k2 o o2 d hkm hk2 ho ho2 hdk hd2
     omega)
    rw [<- hslot]
    show E7 ρ' β (A1 (a1y tmps' o.dst tv) d) v
    obtain⟨_,_,hl'⟩:=N0 he (U2 hsi).1
    rw [R7,b9 ⟨hdk,by rw [hl',elen,<- h.asize]; exact hds⟩]
    exact hv β hβ
   ·have hnone:A1 sn.tmps d= .unk:=by
     simp only [K1]
     have e7:sn.tmps.length=s0.tmps.length:=(U2 hd.last).2
     have e8:a.tmps.size=s0.tmps.length:=h.asize
     have e9:a.tmps.size<=d:=jI hds
     rw [k0s (by omega)]
    rw [hnone]
    trivial
  ·have hlk':Lst listed k:=by
    rcases (s5 hisz).1 hlk with e | e
    ·exact absurd e hki
    ·exact e
   have hne:o.dst≠some d:=fun e=>hki (hd.draws.dup k i ok o d hkm hin hok ho hdk e)
   rw [a6 (fun hh=>hne hh.1)]
   exact hbefore k ok d hlk' hok hdk β hβ
 cases hf:flO o with
 | true=>
  rw [hf] at he
  obtain⟨t2,k2,r2,he2,hob2⟩:=hd.float i o si ki tmps' k1 tv r p sp kp ho hf hsi he hobs.1 hsp hpn hcut (fun d od hod hfd hdp hmem=>by
   have hld:=(hL d od hod hfd).2 hdp
   exact hnl (oZ h.closed (h.closed d od hod hld) i hmem)) (fun d od hod hfd hpd hmem=>by
   have:=(hL d od hod hfd).1 (hre d hmem)
   omega)
  obtain⟨rfl,rfl⟩:=n0q he he2
  refine S7 hX ho he2 hob2 hp (ρ:=ρ) (Cβ:=KVok kn) (U2 hd.last).1 hsub h.base h.inv (fun ρ' ha=>(hρ ρ' ha).1) hT (fun v w' ρ1 ha hn hfin hk hq=>hK _ _ ?_)
  obtain⟨g1,g2,g3,g4,g5⟩:=hq rfl
  subst g5
  rw [g1,g3] at hfin
  refine⟨by simpa using h.size,mkClosed,by rw [Y9]; exact h.asize,by rw [L7]; exact h.defers,x7 h.base hk.size,J.keeps hp hk h.inv,h.keeps.trans hk,mkOld v,p,sp,kp,ρ1,hsp,hpn,hcut,fun j oj hoj hfj=> ?_,hag,hnid,fun ρ' ha'=>⟨(hfin ρ' ha').1,mkNew v ρ' (hfin ρ' ha').2 (hρ ρ' ha').2⟩⟩
  rw [s5 hisz]
  constructor
  ·rintro (rfl | e)
   ·rw [ho] at hoj; cases hoj; rw [hf] at hfj; cases hfj
   ·exact (hL j oj hoj hfj).1 e
  ·intro e; exact .inr ((hL j oj hoj hfj).2 e)
 | false=>
  rw [hf] at he
  have hpi:p<=i:=by
   rcases E0 i p with c | c
   ·exact absurd ((hL i o ho hf).2 c) hnl
   ·exact c
  have hq:=iJ hpi hsp hsi (fun j oj hj1 hj2 hoj=>by
   cases hfj:flO oj with
   | true=>rfl
   | false=>
    have:=(hL j oj hoj hfj).1 (hre j (hd.chain j i oj o hj2 hoj ho hfj hf))
    omega)
  refine S7 hX ho he hobs.1 hp (ρ:=ρ) (Cβ:=KVok kn) (U2 hd.last).1 hsub h.base h.inv (fun ρ' ha=>by rw [hq.1]; rw [hq.2] at ha; exact (hρ ρ' ha).1) (fun ρ' ha β hβ t ht=>hT ρ' (by rw [hq.2] at ha; exact ha) β hβ t ht) (fun v w' ρ1 ha hn hfin hk _=>hK _ _ ?_)
  rw [hq.2] at ha hn
  refine⟨by simpa using h.size,mkClosed,by rw [Y9]; exact h.asize,by rw [L7]; exact h.defers,x7 h.base hk.size,J.keeps hp hk h.inv,h.keeps.trans hk,mkOld v,i+1,_,_,ρ1,hq1,by omega, .inr ⟨i,o,rfl,ho,hf⟩,fun j oj hoj hfj=> ?_,
   fun j hj=>(ha j (by omega)).trans (hag j hj),by show s0.nid<=r.n; omega,fun ρ' ha'=>⟨(hfin ρ' ha').1,mkNew v ρ' (hfin ρ' ha').2 (hρ ρ' (fun j hj=>(ha' j (E3 hj hn)).trans (ha j hj))).2⟩⟩
  rw [s5 hisz]
  constructor
  ·rintro (rfl | e)
   ·omega
   ·have:=(hL j oj hoj hfj).1 e; omega
  ·intro e
   by_cases e2:j=i
   ·exact .inl e2
   ·exact .inr (hre j (hd.chain j i oj o (by omega) hoj ho hfj hf))
theorem h0u {X:Cx} {J:Inv X.P} {B:Nat} {M:Nat->Prop} {w0:Bas} {os:List Oper} {s0 sn:St} {kn:KV} (hd:Spine X os s0 sn kn) {a0:Act} {ρ0:Num} (h0:∀ ρ',Agree s0.nid ρ0 ρ'->∀ β t,E7 ρ' β (A1 s0.tmps t) (a0.tmps.getD t undef)) {listed:Array Bool} {a:Act} {w:World}
  (h:HalfS X J B M w0 os s0 a0 ρ0 sn kn listed a w) (hρ0:w0.n<=s0.nid∧Agree w0.n w0.ρ ρ0) (hall:∀ k,k < os.length->Lst listed k):RepR X.P J B M w0 kn sn a w:=by
 obtain⟨p,sp,kp,ρ,hsp,hpn,hcut,hL,hag,hnid,hρ⟩:=h.cut
 obtain⟨e4,e5⟩:=U2 hd.last
 have hq:=iJ hpn hsp hd.last (fun j oj hj1 hj2 hoj=>by
  cases hfj:flO oj with
  | true=>rfl
  | false=>
   have:=(hL j oj hoj hfj).1 (hall j hj2)
   omega)
 refine⟨by rw [e5]; exact h.asize,h.defers,h.base,h.inv,h.keeps,e4,ρ,⟨by rw [hq.2]; omega,fun j hj=>(hag j (by omega)).trans (hρ0.2 j hj)⟩,fun ρ' ha=> ?_⟩
 rw [hq.2] at ha
 rw [hq.1]
 refine⟨(hρ ρ' ha).1,fun β hβ t=> ?_⟩
 by_cases hw:∃ (k:Nat) (o:Oper),os[k]? =some o∧o.dst=some t
 ·obtain⟨k,o,ho,hdst⟩:=hw
  exact (hρ ρ' ha).2 k o t (hall k (zzA1.1 ho).1) ho hdst β hβ
 ·have hno:∀ (k:Nat) (o:Oper),os[k]? =some o->o.dst≠some t:=fun k o ho e=>hw ⟨k,o,ho,e⟩
  rw [h.old t (fun k o _ ho=>hno k o ho)]
  exact (lF (n6 os.length) rfl hd.last hβ (fun k o _ _ ho=>hno k o ho)).1 (h0 ρ' (fun j hj=>(ha j (by omega)).trans (hag j hj)) β t)
theorem p0d {X:Cx} {J:Inv X.P} (hX:CxOk X J) {B:Nat} {M:Nat->Prop} (hp:Par X.P B M) {w0:Bas} {os:List Oper} {s0 sn:St} {kn:KV} (hd:Spine X os s0 sn kn) {a0:Act} {ρ0:Num}
  (h0:∀ ρ',Agree s0.nid ρ0 ρ'->∀ β t,E7 ρ' β (A1 s0.tmps t) (a0.tmps.getD t undef)) (hρ0:w0.n<=s0.nid∧Agree w0.n w0.ρ ρ0)
  {rb:Option Nat} {Q:Exit->Act->World->Prop} (hQ:∀ a w,RepR X.P J B M w0 kn sn a w->Q .normal a w):
  ∀ (fuel:Nat) (listed:Array Bool) (a:Act) (w:World),unl listed os.length<=fuel->HalfS X J B M w0 os s0 a0 ρ0 sn kn listed a w->wpAnyIn (Fl rb) 0 X.P .any ⟨os⟩ Q fuel listed a w:=by
 intro fuel
 induction fuel with
 | zero=>
  intro listed a w hf h
  have hall:∀ k,k < os.length->Lst listed k:=fun k hk=>rH (by omega) hk
  refine⟨?_,hQ a w (h0u hd h0 h hρ0 hall)⟩
  cases hr:Region.ready .any ⟨os⟩ listed with
  | nil=>rfl
  | cons x xs=>
   have:x∈Region.ready .any ⟨os⟩ listed:=by rw [hr]; simp
   obtain⟨⟨h1,h2⟩,_⟩:=ready_iff.1 this
   exact absurd (hall x (by rw [<- h.size]; exact h1)) h2
 | succ fuel ih=>
  intro listed a w hf h
  refine⟨fun hr0=> ?_,fun i hi=> ?_⟩
  ·have hall:∀ k,k < os.length->Lst listed k:=by
    haveI:DecidablePred fun k=>¬ Lst listed k:=fun k=>Classical.propDecidable _
    intro k hk
    refine pL fun hn=> ?_
    obtain⟨k,hk,hnl,hmin⟩:=l1o (p:=fun k=>¬ Lst listed k) os.length ⟨k,hk,hn⟩
    obtain⟨o,ho⟩:∃ o,os[k]? =some o:=⟨os[k],by simp [hk]⟩
    have:k∈Region.ready .any ⟨os⟩ listed:=ready_iff.2 ⟨⟨by rw [h.size]; exact hk,hnl⟩,o,ho,fun e he=>pL fun hn=>hmin e (hd.draws.fwd k o ho e he) hn⟩
    rw [hr0] at this
    cases this
   exact hQ a w (h0u hd h0 h hρ0 hall)
  ·obtain⟨⟨h1,h2⟩,o,ho,hpre⟩:=ready_iff.1 hi
   have hin:i < os.length:=by rw [<- h.size]; exact h1
   refine y0z hX hp hd h0 h hi (fun a' w' h'=>ih _ a' w' ?_ h')
   have:=g0e hin h.size h2
   omega
end
noncomputable section
def w0y:List (List Nat)->Nat->Nat
 | [],_=>0
 | p ::r,t=>match H9 (t-1) p with
  | true=>w0y r (t-1)+1
  | false=>0
def s2k (os:List Oper) (m:Nat):Bool:=lE (os.take (m+1)) m
def tD (os:List Oper):Nat->Nat->Nat
 | m,0=>m
 | m,k+1=>match s2k os m with
  | true=>m
  | false=>tD os (m+1) k
def v2d (os:List Oper):Nat:=
 match os.length with
 | 0=>0
 | n+1=>
  match w0y ((os.map m8).reverse) n with
  | 0=>tD os n 1
  | c+1=>tD os (n- (c+1)) (c+2)
def St.clean:St->St
 | ⟨tm,hp,nid,ds,obs,lp,rd,mq,bs⟩=>⟨tm.map w0i,hp,nid,ds,obs,lp,rd,mq,bs⟩
def St.bit:St->List Bool->Prop->St
 | ⟨tm,hp,nid,_,obs,lp,rd,mq,bs⟩,ds,p=>⟨tm,hp,nid,ds,p ::obs,lp,rd,mq,bs⟩
def St.looped:St->Nat->List Prop->St
 | ⟨tm,hp,nid,ds,_,_,rd,mq,bs⟩,k,o=>⟨tm,hp,nid,ds,o,k,rd,mq,bs⟩
def tN (X:Cx) (os:List Oper) (m:Nat) (s:St):Option St:=
 match u0u os m with
 | false=>none
 | true=>match h0s m os with
  | true=>zK X os m s
  | false=>match evN X m os s os.length with
   | some (s',_)=>some s'
   | none=>zK X os m s
def n2q (X:Cx) (os:List Oper) (s:St):Option St:=tN X os (v2d os) s
def u2d (P:Program) (t:TypeId):Bool:=match W0 P t with
 | some (.func _ _ _)=>true
 | _=>false
def h1x (d:Nat):List Oper->Bool
 | [] =>false
 | o ::r=>(match o.op with
  | .store _ _ (.tmp k)=>zO0 k d
  | _=>false) || h1x d r
def w0w (P:Program) (os:List Oper):List Oper->Bool
 | [] =>false
 | o ::r=>(match o.op,o.dst with
  | .call c,some d=>c.argTypes.toList.any (u2d P) && h1x d os
  | _,_=>false) || w0w P os r
def q0g (os:List Oper) (i:Nat):List Oper->Bool
 | [] =>false
 | o ::r=>(match o.op,o.dst with
  | .extract (.tmp _) k,some d=>zO0 k i && h1x d os
  | _,_=>false) || q0g os i r
def g2i (o:Oper):Bool:=match o.op with
 | .alloc _=>false
 | _=>true
def u1p (os:List Oper):Bool:=os.all g2i && q0g os 0 os && q0g os 1 os
def o0u (X:Cx) (os:List Oper):Option (List (Nat×List Nat)):=match X.auto with
 | true=>sD os
 | false=>match w0w X.P os os || u1p os with
  | true=>sD os
  | false=>none
theorem oO {X:Cx} {os:List Oper} {sp:List (Nat×List Nat)} (h:o0u X os=some sp):sD os=some sp:=by
 unfold o0u at h
 split at h
 ·exact h
 ·split at h
  ·exact h
  ·cases h
def jO (X:Cx) (os:List Oper) (draw:Bool) (s:St):Option St:=
 match draw with
 | false=>match evN X 0 os s os.length with
  | some (s',_)=>some s'.clean
  | none=>none
 | true=>match o0u X os with
  | some sp=>match q0a X os sp s with
   | some s'=>some s'.clean
   | none=>none
  | none=>match n2q X os s with
   | some s'=>some s'.clean
   | none=>match g0g os (lQ os) with
    | false=>none
    | true=>match g0f X os (lQ os) s with
     | some s'=>some s'.clean
     | none=>none
theorem Rep.drew {P:Program} {J:Inv P} {B:Nat} {M:Nat->Prop} {w0:Bas} {rb:Option Nat} {s:St} {a:Act} {w:World} (h:Rep P J B M w0 rb s a w):Rep P J B M w0 rb s a { w with drawn:=w.drawn+1 } :=by
 obtain⟨ρ,hρ0,hρ⟩:=h.rep
 have hb:Below w.heap.size w { w with drawn:=w.drawn+1 } :=⟨rfl,rfl,rfl,d7 _,fun _ _=>rfl⟩
 exact⟨h.low,h.plain,h.size,h.base,J.st w _ (fun _ _=>rfl) (d7 _) h.inv,⟨h.keeps.os,h.keeps.tape,h.keeps.output,h.keeps.size,h.keeps.block⟩,ρ,hρ0,fun ρ' ha=>⟨(hρ ρ' ha).1.below hb,(hρ ρ' ha).2⟩⟩
theorem k1x {X:Cx} (hX:CxOk X X.J) {os:List Oper} {s sn:St} (hd:g0g os (lQ os)=true) (hn:g0f X os (lQ os) s=some sn) (hl:d9 sn.obs) {B:Nat} {M:Nat->Prop} (hp:Par X.P B M) {w0:Bas} {rb:Option Nat} {a:Act} {w:World}
  (hR2:Rep X.P X.J B M w0 rb s a w) (h0:∀ ρ',Agree s.nid hR2.rep.choose ρ'->∀ β t,E7 ρ' β (A1 s.tmps t) (a.tmps.getD t undef)) {Q:Exit->Act->World->Prop} (hQ:∀ a' w',Rep X.P X.J B M w0 rb sn.clean a' w'->Q .normal a' w'):
  wpAnyIn (Fl rb) 0 X.P .any ⟨os⟩ Q os.length (Array.replicate os.length false) a w:=by
 obtain⟨hρ0,hρ⟩:=hR2.rep.choose_spec
 have hunl:unl (Array.replicate os.length false) os.length<=os.length:=by
  unfold unl
  have:=List.countP_le_length (p:=fun i=> !(Array.replicate os.length false).getD i false) (l:=List.range os.length)
  simpa using this
 have hno:∀ i,¬ Lst (Array.replicate os.length false) i:=fun i hi=>by
  unfold Lst at hi
  rcases E0 i os.length with h' | h'
  ·simp [h'] at hi
  ·simp [h'] at hi
 have hD:=pJ hd
 obtain⟨ws,hm',kn,hhd,hws,htl⟩:=pA hn
 obtain⟨f1,f2,f3⟩:=tL htl
 refine t0d hX hp hD hhd (fun k o ho=>jP hws k o (by rw [S3]; exact ho)) h0 (w0:=⟨_,s.nid,hR2.rep.choose,a.defers⟩) ⟨d7 _,Agree.refl _ _⟩ htl hl (fun a' w' hR'=>hQ a' w' (RepR.clean hR2 hR' f1 f2 f3)) _ (lQ os) _ _ _ a _ hunl (by rw [bD]; rfl) ?_
 exact⟨by simp,fun j o _ hj=>absurd hj (hno j),d7 _,hD.le,fun j hj _=>⟨fun e=>absurd e (hno j),fun e=>by omega⟩,hR2.size,rfl,hR2.base,hR2.inv,Keeps.refl _ _ _,fun t _=>rfl,hR2.rep.choose,Agree.refl _ _,fun ρ' ha=>⟨(hρ ρ' ha).1,fun k o d _ hk=>absurd hk (hno k)⟩⟩
theorem s1o {X:Cx} (hX:CxOk X X.J) {os:List Oper} {m:Nat} {s sn:St} (hdr:tN X os m s=some sn) (hl:d9 sn.obs) {B:Nat} {M:Nat->Prop} (hp:Par X.P B M) {w0:Bas} {rb:Option Nat} {a:Act} {w:World}
  (hR2:Rep X.P X.J B M w0 rb s a w) (h0:∀ ρ',Agree s.nid hR2.rep.choose ρ'->∀ β t,E7 ρ' β (A1 s.tmps t) (a.tmps.getD t undef)) {Q:Exit->Act->World->Prop} (hQ:∀ a' w',Rep X.P X.J B M w0 rb sn.clean a' w'->Q .normal a' w'):
  wpAnyIn (Fl rb) 0 X.P .any ⟨os⟩ Q os.length (Array.replicate os.length false) a w:=by
 obtain⟨hρ0,hρ⟩:=hR2.rep.choose_spec
 have hunl:unl (Array.replicate os.length false) os.length<=os.length:=by
  unfold unl
  have:=List.countP_le_length (p:=fun i=> !(Array.replicate os.length false).getD i false) (l:=List.range os.length)
  simpa using this
 have hno:∀ i,¬ Lst (Array.replicate os.length false) i:=fun i hi=>by
  unfold Lst at hi
  rcases E0 i os.length with h' | h'
  ·simp [h'] at hi
  ·simp [h'] at hi
 unfold tN at hdr
 split at hdr
 ·cases hdr
 rename_i hd
 have hD:=tH hd
 have laidCase:zK X os m s=some sn->wpAnyIn (Fl rb) 0 X.P .any ⟨os⟩ Q os.length (Array.replicate os.length false) a w:=by
  intro hdr
  obtain⟨hlow,hm',kn,hhd,htl⟩:=uH hdr
  obtain⟨f1,f2,f3⟩:=tL htl
  refine o0i hX hp hD hlow hhd htl hl (w0:=⟨_,s.nid,hR2.rep.choose,a.defers⟩) (a0:=a) (ρ:=hR2.rep.choose) h0 ⟨d7 _,Agree.refl _ _⟩ (fun a' w' hR'=>hQ a' w' (RepR.clean hR2 hR' f1 f2 f3)) _ _ a _ hunl ?_
  refine⟨by simp,fun j o _ hj=>absurd hj (hno j),fun t _=>hno t,hR2.size,rfl,hR2.base,hR2.inv,Keeps.refl _ _ _,fun t _=>rfl,hR2.rep.choose,Agree.refl _ _,fun ρ' ha=>⟨?_,fun k o d _ hk=>absurd hk (hno k)⟩⟩
  refine (hρ ρ' (fun j hj=>ha j (.inl hj))).1.less fun j o hj=> ?_
  replace hj:=rK (g:=fun _=>false) (H2:=iH (X2 (Array.replicate os.length false)) hm'.la s.heap) (fun e _ _ _=>by
   cases hq:X2 (Array.replicate os.length false) e with
   | false=>rfl
   | true=>exact absurd hq (hno e)) (fun _ _ hh=>hh) j o hj
  replace hj:(iH (X2 (Array.replicate os.length false)) hm'.la s.heap).get j=some o:=by
   cases hq:hm'.ef with
   | none=>rw [hq] at hj; exact hj
   | some q=>rw [hq] at hj; exact hj
  rcases O8 hj with hj' | ⟨e,_,hk,_⟩
  ·exact hj'
  ·exact absurd hk (hno e.k)
 split at hdr
 ·exact laidCase hdr
 ·split at hdr
  case h_2=>exact laidCase hdr
  rename_i sn' kn hn
  cases hdr
  obtain⟨f1,f2,f3⟩:=sT hn
  obtain⟨⟨sm,km⟩,hmm⟩:=jB hD.le hn
  refine y0v hX hp hD hn hl hmm (w0:=⟨_,s.nid,hR2.rep.choose,a.defers⟩) (a0:=a) (ρ:=hR2.rep.choose) h0 ⟨d7 _,Agree.refl _ _⟩ (fun a' w' hR'=>hQ a' w' (RepR.clean hR2 hR' f1 f2 f3)) _ _ a _ hunl ?_
  exact⟨by simp,fun j o _ hj=>absurd hj (hno j),fun t _=>hno t,hR2.size,rfl,hR2.base,hR2.inv,Keeps.refl _ _ _,fun ρ' ha=>(hρ ρ' ha).1,fun t _=>rfl,fun k o d _ hk=>absurd hk (hno k)⟩
theorem xW {X:Cx} (hX:CxOk X X.J) (hm:X.P.follows .mixedOrders=true) {os:List Oper} {draw:Bool} {s s':St} (h:jO X os draw s=some s') (hl:d9 s'.obs) {B:Nat} {M:Nat->Prop} (hp:Par X.P B M) {w0:Bas} {rb:Option Nat} {a:Act} {w:World}
  (hR:Rep X.P X.J B M w0 rb s a w) {id:Nat} {Q:Exit->Act->World->Prop} (hQ:∀ a' w',Rep X.P X.J B M w0 rb s' a' w'->Q .normal a' w'):(Code.region id ⟨os⟩ draw).wpIn (Fl rb) 0 X.P Q a w:=by
 unfold jO at h
 split at h
 ·split at h
  case h_2=>cases h
  rename_i sn kn hn
  cases h
  obtain⟨f1,f2,f3⟩:=sT hn
  refine wpIn_region ?_
  have:=e1s hX hp (rb:=rb) (Q:=Q) hn hl (fun a' w' hR'=>hQ a' w' (RepR.clean hR hR' f1 f2 f3)) os.length 0 s [] a w (by omega) rfl hR.toR
  rw [List.range_eq_range']
  exact this
 ·have hR2:=hR.drew
  obtain⟨hρ0,hρ⟩:=hR2.rep.choose_spec
  have h0:∀ ρ',Agree s.nid hR2.rep.choose ρ'->∀ β t,E7 ρ' β (A1 s.tmps t) (a.tmps.getD t undef):=fun ρ' ha β t=>by
   have h1:=(hρ ρ' ha).2.2 t
   have h2:=hR2.plain t
   generalize A1 s.tmps t=tv at*
   cases tv with
   | unk=>trivial
   | v y=>exact h1 y rfl
   | sp l y=>cases h2
   | key j l b=>cases h2
  have hunl:unl (Array.replicate os.length false) os.length<=os.length:=by
   unfold unl
   have:=List.countP_le_length (p:=fun i=> !(Array.replicate os.length false).getD i false) (l:=List.range os.length)
   simpa using this
  have hno:∀ i,¬ Lst (Array.replicate os.length false) i:=fun i hi=>by
   unfold Lst at hi
   rcases E0 i os.length with h' | h'
   ·simp [h'] at hi
   ·simp [h'] at hi
  split at h
  ·rename_i hsp
   split at h
   case h_2=>cases h
   rename_i s1 hs1
   cases h
   have hl1:d9 s1.obs:=by cases s1; exact hl
   obtain⟨sn,kn,ob,rfl,hS⟩:=nK (oO hsp) hs1 hl1
   obtain⟨f1,f2,f3⟩:=i0h hS.last
   have hQ':∀ a' w',RepR X.P X.J B M ⟨{ w with drawn:=w.drawn+1 },s.nid,hR2.rep.choose,a.defers⟩ kn sn a' w'->Q .normal a' w':=fun a' w' hR'=>by
    have hRn:RepR X.P X.J B M ⟨{ w with drawn:=w.drawn+1 },s.nid,hR2.rep.choose,a.defers⟩ kn (sn.more ob) a' w':=by cases sn; exact⟨hR'.size,hR'.defers,hR'.base,hR'.inv,hR'.keeps,hR'.keys,hR'.rep⟩
    exact hQ a' w' (RepR.clean hR2 hRn (by cases sn; exact f1) (by cases sn; exact f2) (by cases sn; exact f3))
   refine wpIn_region_any hm ?_
   refine p0d hX hp hS h0 ⟨d7 _,Agree.refl _ _⟩ hQ' _ _ a _ hunl ?_
   exact⟨by simp,fun j o _ hj=>absurd hj (hno j),hR2.size,rfl,hR2.base,hR2.inv,Keeps.refl _ _ _,fun t _=>rfl,0,s,[],hR2.rep.choose,rfl,n6 _, .inl rfl,fun j o _ _=>⟨fun e=>absurd e (hno j),fun e=>by omega⟩,Agree.refl _ _,d7 _,fun ρ' ha=>⟨(hρ ρ' ha).1,fun k o d hk=>absurd hk (hno k)⟩⟩
  split at h
  ·rename_i sn hdr
   cases h
   exact wpIn_region_any hm (s1o hX hdr (by cases sn; exact hl) hp hR2 h0 hQ)
  ·split at h
   ·cases h
   rename_i hd
   have hD:=pJ hd
   split at h
   ·rename_i sn hn
    cases h
    exact wpIn_region_any hm (k1x hX hd hn hl hp hR2 h0 hQ)
   cases h
def K3 (body:St->Option (AX×St)):Nat->St->Option (AX×St)
 | 0,_=>none
 | n+1,s=>match body s with
  | some (.normal,s1)=>K3 body n s1
  | r=>r
def d5 (X:Cx) (c:Code) (s:St) (x:AX) (s':St):Prop:=
 ∀ (B:Nat) (M:Nat->Prop) (w0:Bas) (rb:Option Nat) (a:Act) (w:World),Par X.P B M->Rep X.P X.J B M w0 rb s a w->(Code.loop c).wpIn (Fl rb) 0 X.P (fun e a' w'=>e=x.toExit∧Rep X.P X.J B M w0 rb s' a' w') a w
def St.core (s:St):St:=⟨s.tmps,s.heap,s.nid,[],[],0,s.rd,s.mks,s.bs⟩
abbrev V4:=List (St->Option (AX×St))
def a2i:V4->Nat->Option (St->Option (AX×St))
 | [],_=>none
 | h ::r,n=>match n with
  | 0=>some h
  | k+1=>a2i r k
def E5 (X:Cx) (L:V4):Nat->Code->St->Option (AX×St)
 | 0,_,_=>none
 | f+1,c,s=>
  match c with
  | .skip=>some (.normal,s)
  | .label _=>some (.normal,s)
  | .region _ ⟨os⟩ draw=>match jO X os draw s with
   | some s'=>some (.normal,s')
   | none=>none
  | .seq c1 c2=>match E5 X L f c1 s with
   | some (.normal,s1)=>E5 X L f c2 s1
   | r=>r
  | .cond o c1 c2=>match evo s.tmps [] o with
   | some (.bool b)=>match s.ds with
    | d ::ds=>match d with
     | true=>E5 X L f c1 (s.bit ds (b=true))
     | false=>E5 X L f c2 (s.bit ds (b=false))
    | [] =>match b with
     | true=>E5 X L f c1 s
     | false=>E5 X L f c2 s
   | _=>none
  | .block id c1=>match E5 X L f c1 s with
   | some (.exit i,s1)=>match zO0 i id with
    | true=>some (.normal,s1)
    | false=>some (.exit i,s1)
   | r=>r
  | .scope c1=>E5 X L f c1 s
  | .loop c1=>match a2i L s.lp with
   | some h=>match h s with
    | some (x,s')=>some (x,s'.looped (s.lp+1) (d5 X c1 s.core x s'.core ::s.obs))
    | none=>none
   | none=>K3 (E5 X L f c1) f s
  | .exit id=>some (.exit id,s)
  | .ret=>some (.ret,s)
  | _=>none
theorem Rep.same {P:Program} {J:Inv P} {B:Nat} {M:Nat->Prop} {w0:Bas} {rb:Option Nat} {s s':St} {a:Act} {w:World} (h:Rep P J B M w0 rb s a w) (h1:s'.tmps=s.tmps) (h2:s'.heap=s.heap) (h3:s'.nid=s.nid) (h4:s'.rd=s.rd) (h5:s'.mks=s.mks) (h6:s'.bs=s.bs):Rep P J B M w0 rb s' a w:=by
 obtain⟨ρ,hρ0,hρ⟩:=h.rep
 exact⟨by rw [h6]; exact h.low,by rw [h1]; exact h.plain,by rw [h1]; exact h.size,h.base,h.inv,h.keeps,ρ,by rw [h3]; exact hρ0,fun ρ' ha=>by
  rw [h3] at ha
  obtain⟨g1,g2,g3⟩:=hρ ρ' ha
  rw [h1,h2]
  exact⟨g1,⟨by rw [h5]; exact g2.defers,by rw [h4]; exact g2.round⟩,g3⟩⟩
theorem h1z {X:Cx} {os:List Oper} {m:Nat} {s s':St} (hdr:tN X os m s=some s') (hl:d9 s'.obs):d9 s.obs:=by
 unfold tN at hdr
 split at hdr
 ·cases hdr
 have laidCase:zK X os m s=some s'->d9 s.obs:=fun hdr=>by
  obtain⟨_,hm',kn,hhd,htl⟩:=uH hdr
  exact lN (n6 _) rfl hhd (iB (n6 _) rfl htl hl)
 split at hdr
 ·exact laidCase hdr
 ·split at hdr
  ·rename_i hn; cases hdr; exact gC (n6 _) rfl hn hl
  ·exact laidCase hdr
theorem m0k {X:Cx} {os:List Oper} {draw:Bool} {s s':St} (h:jO X os draw s=some s') (hl:d9 s'.obs):d9 s.obs:=by
 unfold jO at h
 split at h
 ·split at h
  ·rename_i hn; cases h; exact gC (n6 _) rfl hn hl
  ·cases h
 ·split at h
  ·rename_i hsp
   split at h
   case h_2=>cases h
   rename_i s1 hs1
   cases h
   have hl1:d9 s1.obs:=by cases s1; exact hl
   obtain⟨sn,kn,ob,rfl,hS⟩:=nK (oO hsp) hs1 hl1
   exact s0z (n6 _) rfl hS.last hS.obs
  split at h
  ·rename_i sn hdr
   cases h
   exact h1z hdr (by cases sn; exact hl)
  ·split at h
   ·cases h
   ·split at h
    ·rename_i hn
     cases h
     obtain⟨_,hm',kn,hhd,_,htl⟩:=pA hn
     exact lN (n6 _) rfl hhd (iB (n6 _) rfl htl hl)
    ·cases h
theorem bH {body:St->Option (AX×St)} (hb:∀ s x s',body s=some (x,s')->d9 s'.obs->d9 s.obs):∀ (n:Nat) (s:St) (x:AX) (s':St),K3 body n s=some (x,s')->d9 s'.obs->d9 s.obs
 | 0,s,x,s',h,_=>by simp [K3] at h
 | n+1,s,x,s',h,hl=>by
  simp only [K3] at h
  split at h
  ·rename_i s1 h1
   exact hb _ _ _ h1 (bH hb n s1 x s' h hl)
  ·exact hb _ _ _ h hl
theorem X7 {X:Cx} {L:V4} :∀ (f:Nat) (c:Code) (s:St) (x:AX) (s':St),E5 X L f c s=some (x,s')->d9 s'.obs->d9 s.obs:=by
 intro f
 induction f with
 | zero=>intro c s x s' h; simp [E5] at h
 | succ f ih=>
  intro c s x s' h hl
  unfold E5 at h
  split at h
  ·cases h; exact hl
  ·cases h; exact hl
  ·split at h
   ·rename_i hr; cases h; exact m0k hr hl
   ·cases h
  ·split at h
   ·rename_i s1 h1; exact ih _ _ _ _ h1 (ih _ _ _ _ h hl)
   ·exact ih _ _ _ _ h hl
  ·split at h
   ·split at h
    ·split at h
     ·exact (ih _ _ _ _ h hl).2
     ·exact (ih _ _ _ _ h hl).2
    ·split at h
     ·exact ih _ _ _ _ h hl
     ·exact ih _ _ _ _ h hl
   ·cases h
  ·split at h
   ·rename_i i s1 h1
    split at h <;> (cases h; exact ih _ _ _ _ h1 hl)
   ·exact ih _ _ _ _ h hl
  ·exact ih _ _ _ _ h hl
  ·split at h
   ·split at h
    ·cases h; exact hl.2
    ·cases h
   ·exact bH (fun s x s'=>ih _ s x s') f s x s' h hl
  ·cases h; exact hl
  ·cases h; exact hl
  ·cases h
theorem fT {P:Program} {rb:Option Nat} {c:Code} {body:St->Option (AX×St)} {Q:Exit->Act->World->Prop} {R:St->Act->World->Prop} (hobs:∀ s x s',body s=some (x,s')->d9 s'.obs->d9 s.obs)
  (hb:∀ s x s',body s=some (x,s')->d9 s'.obs->∀ a w,R s a w->∀ Q':Exit->Act->World->Prop,(∀ a' w',R s' a' w'->Q' x.toExit a' w')->c.wpIn (Fl rb) 0 P Q' a w):
  ∀ (n:Nat) (s:St) (x:AX) (s':St),K3 body n s=some (x,s')->d9 s'.obs->(∀ a' w',R s' a' w'->Q x.toExit a' w')->∀ a w,R s a w->x≠ .normal∧Code.roundsIn (Fl rb) 0 P c Q n a w
 | 0,s,x,s',h,_,_,_,_,_=>by simp [K3] at h
 | n+1,s,x,s',h,hl,hQ,a,w,hR=>by
  simp only [K3] at h
  split at h
  ·rename_i s1 h1
   have ih:=fT hobs hb n s1 x s' h hl hQ
   have hl1:=bH hobs n s1 x s' h hl
   refine⟨?_,?_⟩
   ·
    have hne:∀ (n:Nat) (s:St) (x:AX) (s':St),K3 body n s=some (x,s')->x≠ .normal:=by
     intro n
     induction n with
     | zero=>intro s x s' h; simp [K3] at h
     | succ n ihn=>
      intro s x s' h
      simp only [K3] at h
      split at h
      ·exact ihn _ _ _ h
      ·rename_i hno
       rw [h] at hno
       intro e
       subst e
       exact hno _ rfl
    exact hne n s1 x s' h
   ·rw [roundsIn_succ]
    refine hb s .normal s1 h1 hl1 a w hR _ (fun a' w' hR'=> ?_)
    exact (ih a' w' hR').2
  ·rename_i hno
   have hxn:x≠ .normal:=fun e=>by subst e; exact hno s' h
   refine⟨hxn,?_⟩
   rw [roundsIn_succ]
   refine hb s x s' h hl a w hR _ (fun a' w' hR'=> ?_)
   cases x with
   | normal=>exact absurd rfl hxn
   | exit id=>exact hQ a' w' hR'
   | ret=>exact hQ a' w' hR'
theorem e2w {P:Program} {J:Inv P} {B:Nat} {M:Nat->Prop} {w0:Bas} {rb:Option Nat} {s:St} {a:Act} {w:World} (hR:Rep P J B M w0 rb s a w) {o:Operand} (hg:jS o=true) {v:Value} (h:evo s.tmps [] o=some v):
  ∀ ρ',Agree s.nid hR.rep.choose ρ'->a.eval o=rv ρ' v:=by
 obtain⟨_,hρ⟩:=hR.rep.choose_spec
 intro ρ' ha
 refine R4 (β:=fun _=>false) (hρ ρ' ha).1 (lK _) h (fun t _=> ?_) (fun g e=>by subst e; cases hg)
 have:=(hρ ρ' ha).2.2 t
 have hp:=hR.plain t
 generalize A1 s.tmps t=tv at*
 cases tv with
 | unk=>trivial
 | v y=>exact this y rfl
 | sp l y=>cases hp
 | key j l b=>cases hp
theorem L9 {P:Program} {b:Frame} {a:Act} {k:List Item} {cs:List Frame} {w:World} {c:Code} :step P (lone (b.atR a (.code (.scope c) ::k)) cs w)= .next (lone (b.atR a (.code c :: .inScope c ::k)) cs w):=
 step_lone_go (by simp [stepG,stepG.exec,Frame.atR])
theorem c0k {P:Program} {b:Frame} {a:Act} {k:List Item} {cs:List Frame} {w:World} {c:Code} :step P (lone (b.atR a (.inScope c ::k)) cs w)= .next (lone (b.atR a k) cs w):=
 step_lone_go (by simp [stepG,stepG.exec,Frame.atR])
theorem a1w {F:Fence} {n:Nat} {P:Program} {Q:Exit->Act->World->Prop} {a:Act} {w:World} {c:Code} (h:c.wpIn F n P (Exit.noGoto Q) a w):(Code.scope c).wpIn F n P Q a w:=by
 intro b k cs hro hb hr
 have h0:(lone (b.atR a (.code (.scope c) ::k)) cs w).fenced P F:=fenced_calm hb hr rfl
 obtain⟨e,a₁,w₁,hq,harr⟩:=h b (.inScope c ::k) cs hro hb hr
 cases e with
 | normal=>exact⟨.normal,a₁,w₁,hq, .head h0 L9 (StepsIn.trans harr (.one (fenced_calm hb hr rfl) c0k))⟩
 | exit id=>
  have hx:exitTo id (.inScope c ::k)=exitTo id k:=by simp [exitTo]
  exact⟨.exit id,a₁,w₁,hq,fun k' hk=> .head h0 L9 (harr.1 k' (by rw [hx]; exact hk)),
   fun hr' hk=>let ⟨k₁,h1,h2⟩:=harr.2 hr' (by rw [hx]; exact hk); ⟨k₁,h1, .head h0 L9 h2⟩⟩
 | goto l=>exact hq.elim
 | ret=>exact⟨_,a₁,w₁,hq, .of_steps (.one h0 L9) harr⟩
 | panic ch=>exact⟨_,a₁,w₁,hq, .of_steps (.one h0 L9) harr⟩
 | outgrown=>exact⟨_,a₁,w₁,hq, .of_steps (.one h0 L9) harr⟩
theorem dB {X:Cx} {L:V4} (hX:CxOk X X.J) (hm:X.P.follows .mixedOrders=true) {B:Nat} {M:Nat->Prop} (hp:Par X.P B M) {w0:Bas} {rb:Option Nat} :∀ (f:Nat) (c:Code) (s:St) (x:AX) (s':St),E5 X L f c s=some (x,s')->d9 s'.obs->
  ∀ a w,Rep X.P X.J B M w0 rb s a w->∀ Q:Exit->Act->World->Prop,(∀ a' w',Rep X.P X.J B M w0 rb s' a' w'->Q x.toExit a' w')->c.wpIn (Fl rb) 0 X.P Q a w:=by
 intro f
 induction f with
 | zero=>intro c s x s' h; simp [E5] at h
 | succ f ih=>
  intro c s x s' h hl a w hR Q hQ
  unfold E5 at h
  split at h
  ·cases h; exact wpIn_skip (hQ a w hR)
  ·cases h; exact wpIn_label (hQ a w hR)
  ·split at h
   ·rename_i s1 hr; cases h; exact xW hX hm hr hl hp hR hQ
   ·cases h
  ·split at h
   ·rename_i s1 h1
    exact wpIn_seq (ih _ _ _ _ h1 (X7 _ _ _ _ _ h hl) a w hR _ (fun a' w' hR'=>ih _ _ _ _ h hl a' w' hR' Q hQ))
   ·rename_i hno
    have hxn:x≠ .normal:=fun e=>by subst e; exact hno s' h
    refine wpIn_seq (ih _ _ _ _ h hl a w hR _ (fun a' w' hR'=> ?_))
    cases x with
    | normal=>exact absurd rfl hxn
    | exit id=>exact hQ a' w' hR'
    | ret=>exact hQ a' w' hR'
  ·rename_i o c1 c2
   split at h
   case h_2=>cases h
   rename_i b hb
   have hval:jS o=true->a.eval o= .bool b:=fun hg=>by
    have:=e2w hR hg hb _ (Agree.refl _ _)
    simpa [rv] using this
   have hg:jS o=true:=by
    cases o with
    | global g=>simp [evo] at hb
    | _=>rfl
   have hv:=hval hg
   split at h
   ·rename_i d ds hds
    split at h
    ·have hob:=X7 _ _ _ _ _ h hl
     have hb':b=true:=hob.1
     subst hb'
     exact wpIn_cond_true hv (ih _ _ _ _ h hl a w (hR.same rfl rfl rfl rfl rfl rfl) Q hQ)
    ·have hob:=X7 _ _ _ _ _ h hl
     have hb':b=false:=hob.1
     subst hb'
     exact wpIn_cond_false hv (ih _ _ _ _ h hl a w (hR.same rfl rfl rfl rfl rfl rfl) Q hQ)
   ·split at h
    ·exact wpIn_cond_true hv (ih _ _ _ _ h hl a w hR Q hQ)
    ·exact wpIn_cond_false hv (ih _ _ _ _ h hl a w hR Q hQ)
  ·rename_i id c1
   split at h
   ·rename_i i s1 h1
    split at h
    ·rename_i hi
     have hi:=S6 hi
     subst hi
     cases h
     refine wpIn_block (ih _ _ _ _ h1 hl a w hR _ (fun a' w' hR'=> ?_))
     simp only [AX.toExit,Exit.inBlock,J3]
     exact hQ a' w' hR'
    ·rename_i hi
     cases h
     refine wpIn_block (ih _ _ _ _ h1 hl a w hR _ (fun a' w' hR'=> ?_))
     simp only [AX.toExit,Exit.inBlock]
     rw [a6 (fun e=>by subst e; rw [e0x] at hi; cases hi)]
     exact hQ a' w' hR'
   ·rename_i hno
    refine wpIn_block (ih _ _ _ _ h hl a w hR _ (fun a' w' hR'=> ?_))
    cases x with
    | normal=>exact hQ a' w' hR'
    | exit id=>exact absurd h (hno id s')
    | ret=>exact hQ a' w' hR'
  ·refine a1w (ih _ _ _ _ h hl a w hR _ (fun a' w' hR'=> ?_))
   cases x with
   | normal=>exact hQ a' w' hR'
   | exit id=>exact hQ a' w' hR'
   | ret=>exact hQ a' w' hR'
  ·rename_i c1
   split at h
   ·split at h
    ·rename_i x1 s1 hs1
     cases h
     have hlt:d5 X c1 s.core x s1.core:=hl.1
     refine wpIn_mono (hlt B M w0 rb a w hp (hR.same rfl rfl rfl rfl rfl rfl)) (fun e a' w' ⟨he,hR'⟩=> ?_)
     subst he
     exact hQ a' w' (hR'.same rfl rfl rfl rfl rfl rfl)
    ·cases h
   ·exact wpIn_loop_rounds f (fT (fun s x s'=>X7 f c1 s x s') (fun s x s' hs hls a w hR Q' hQ'=>ih c1 s x s' hs hls a w hR Q' hQ') f s x s' h hl hQ a w hR).2
  ·cases h; exact wpIn_exit (hQ a w hR)
  ·cases h; exact wpIn_ret (hQ a w hR)
  ·cases h
def N5 (P:Program) (auto:Bool) (ts:List TV) (H:Heap):List ResultVar->Option (List Value×List Prop)
 | [] =>some ([],[])
 | .tmp t ::r=>match rd [] (A1 ts t),N5 P auto ts H r with
  | some v,some (vs,l)=>some (v ::vs,l)
  | _,_=>none
 | .cell t ty ::r=>match rd [] (A1 ts t) with
  | some x=>match zN P auto H ty x,N5 P auto ts H r with
   | some (v,l),some (vs,l')=>some (v ::vs,l++l')
   | _,_=>none
  | none=>none
def O1:List Value->Value
 | [v] =>v
 | vs=> .tuple ⟨vs⟩
theorem u0b {ts:List TV} {a:Act} (hR:∀ t,k0p (A1 ts t)=true) {ρ:Num} (hv:∀ t x,A1 ts t= .v x->a.tmps.getD t undef=rv ρ x) {t:Nat} {v:Value} (h:rd [] (A1 ts t)=some v):
  a.tmps.getD t undef=rv ρ v:=by
 have hp:=hR t
 have h1:=hv t
 generalize A1 ts t=tv at*
 cases tv with
 | unk=>simp [rd] at h
 | v y=>simp only [rd] at h; cases h; exact h1 _ rfl
 | sp l y=>cases hp
 | key j l b=>cases hp
theorem c1c {P:Program} {auto:Bool} {H:Heap} {t:TypeId} {x v:Value} {l:List Prop} (h:zN P auto H t x=some (v,l)):∃ id off,x= .pointer (some ⟨id,off,none⟩):=by
 unfold zN at h
 simp only [w8,x6] at h
 split at h
 ·exact⟨_,_,rfl⟩
 ·cases h
theorem V8 {P:Program} {auto:Bool} {B:Nat} {M:Nat->Prop} {ts:List TV} {H:Heap} {a:Act} {w:World} (hR:∀ t,k0p (A1 ts t)=true) {ρ:Num} (hS:Sim P B M ρ H w) (hv:∀ t x,A1 ts t= .v x->a.tmps.getD t undef=rv ρ x):
  ∀ (l:List ResultVar) (vs:List Value) (ob:List Prop),N5 P auto ts H l=some (vs,ob)->d9 ob->
   (l.mapM fun (r:ResultVar)=>(match r with | .tmp t=>pure (a.tmps.getD t undef) | .cell p ty=>do loadVar ty (<- asAddr (a.tmps.getD p undef)):Sem Value)).run P w= .ok (rvL ρ vs) w
 | [],vs,ob,h,_=>by simp only [N5] at h; cases h; rfl
 | .tmp t ::r,vs,ob,h,hl=>by
  simp only [N5] at h
  split at h
  case h_2=>cases h
  rename_i v vs' l' h1 h2
  cases h
  have ih:=V8 hR hS hv r vs' _ h2 hl
  simp only [List.mapM_cons,p8,S9,r9,u0b hR hv h1]
  rw [ih]
  rfl
 | .cell t ty ::r,vs,ob,h,hl=>by
  simp only [N5] at h
  split at h
  case h_2=>cases h
  rename_i x h1
  split at h
  case h_2=>cases h
  rename_i v l1 vs' l2 h2 h3
  cases h
  rw [i6] at hl
  have ih:=V8 hR hS hv r vs' l2 h3 hl.2
  have hld:=nU hS h2 hl.1
  simp only [List.mapM_cons,p8,u0b hR hv h1]
  obtain⟨id,off,rfl⟩:=c1c h2
  have hadr:((asAddr (rv ρ (.pointer (some ⟨id,off,none⟩)))).run P w).andThen (fun a w'=>(loadVar ty a).run P w')= .ok (rv ρ v) w:=by
   simp only [rv,r8] at hld ⊢
   cases hid:ρ id with
   | none=>rw [hid] at hld; simp [Instr.loadAt,Instr.sureAddr,stuck,Sem.run] at hld
   | some b=>
    rw [hid] at hld
    simp only [C8,Instr.loadAt,Instr.sureAddr,pure_bind] at hld
    simp only [C8,asAddr,S9,r9]
    exact hld
  rw [hadr]
  simp only [r9]
  rw [ih]
  rfl
def b2g (n:Nat):Fn->Bool
 | .yield l=>zO1 l n
 | _=>true
mutual
def uF (n:Nat):Value->Bool
 | .pointer (some a)=>zO1 a.block n
 | .slice (some a) _ _=>zO1 a.block n && (match a.spot with | none=>true | some k=>zO1 k n)
 | .map (some r)=>zO1 r n
 | .func fn f c=>b2g n fn && lowA n f && lowA n c
 | .chan (some _)=>false
 | .complex _ _ _=>false
 | .iface _ v=>uF n v
 | .agg cs=>lowA n cs
 | .tuple vs=>lowA n vs
 | _=>true
def lowA (n:Nat):Array Value->Bool
 | ⟨l⟩=>lowL n l
def lowL (n:Nat):List Value->Bool
 | [] =>true
 | v ::l=>uF n v && lowL n l
end
def q2v (n:Nat):Heap->Bool
 | [] =>true
 | (i,o) ::r=>match zO1 i n with
  | false=>q2v n r
  | true=>match o with
   | .cells cs _=>lowL n cs && q2v n r
   | _=>q2v n r
def gcH (v:Value) (n:Nat) (h:Heap):Heap:=
 match q2v n h with
 | false=>h
 | true=>match z7 v with
  | true=>h.filter fun p=>zO1 p.1 n
  | false=>match zO h 400 (g2z v []) [] with
   | keep=>h.filter fun p=>zO1 p.1 n || H9 p.1 keep
theorem aM (f:Nat->Bool):∀ (h:Heap) (i:Nat) (o:AObj),Heap.get (h.filter fun p=>f p.1) i=some o->Heap.get h i=some o
 | [],_,_,hi=>hi
 | (j,q) ::h,i,o,hi=>by
  rw [List.filter_cons] at hi
  rw [a8]
  split at hi
  ·rw [a8] at hi
   split at hi
   ·rename_i e; rw [b9 e]; exact hi
   ·rename_i e; rw [a6 e]; exact aM f h i o hi
  ·rename_i hb
   split
   ·rename_i e
    subst e
    exfalso
    have hlt:∀ (l:Heap) (o:AObj),Heap.get (l.filter fun p=>f p.1) j=some o->f j=true:=by
     intro l
     induction l with
     | nil=>intro o h; simp [Heap.get] at h
     | cons p l ihl=>
      obtain⟨k,q'⟩:=p
      intro o h
      rw [List.filter_cons] at h
      split at h
      ·rename_i hk
       rw [a8] at h
       split at h
       ·rename_i e; subst e; exact hk
       ·exact ihl o h
      ·exact ihl o h
    exact hb (hlt h o hi)
   ·exact aM f h i o hi
theorem w1f (v:Value) (n:Nat) (h:Heap):∀ i o,(gcH v n h).get i=some o->h.get i=some o:=by
 intro i o hi
 unfold gcH at hi
 split at hi
 ·exact hi
 ·split at hi
  ·exact aM (fun k=>zO1 k n) h i o hi
  ·exact aM (fun k=>zO1 k n || H9 k _) h i o hi
def V7:List Mk->Heap->Option Heap
 | [],H=>some H
 | .mark i ::r,H=>match H.get i with
  | some .defr=>V7 r (H.set i .dead)
  | _=>none
 | .call _ _ _ ::r,H=>V7 r H
def f2t (P:Program) (f:FuncId) (k:Nat):Prop:=
 ∀ (args:Array Value) (w:World),args.size=k->(callFunc f args).run P w= .ok (.enter f args) w∧
  ∃ w1,Below w.heap.size w w1∧CallsDIn Fence.wide 0 P f args .returning w fun e u' w'=>(∃ v,e= .returned v)∧u'= .returning∧w'=w1
def tR (P:Program):List Mk->List Prop->List Prop
 | [],l=>l
 | .mark _ ::r,l=>tR P r l
 | .call f cap args ::r,l=>f2t P f (args.length+cap.length) ::tR P r l
theorem gL {P:Program} :∀ {mks:List Mk} {l:List Prop},d9 (tR P mks l)->(∀ f cap args,Mk.call f cap args∈mks->f2t P f (args.length+cap.length))∧d9 l
 | [],l,h=>⟨(fun _ _ _ hm=>by cases hm),h⟩
 | .mark _ ::r,l,h=>by
  obtain⟨h1,h2⟩:=gL (mks:=r) h
  exact⟨fun f cap args hm=>h1 f cap args (by simpa using hm),h2⟩
 | .call f0 _ _ ::r,l,h=>by
  obtain⟨h1,h2⟩:=gL (mks:=r) h.2
  refine⟨fun f cap args hm=> ?_,h2⟩
  rcases zzA84.1 hm with e | hm
  ·cases e; exact h.1
  ·exact h1 f cap args hm
def y0f (X:Cx) (L:V4) (fuel:Nat) (f:FuncId) (args:List Value) (H:Heap) (n:Nat) (ds:List Bool):Option CR:=
 match p1r X.P.funcs.toList f with
 | none=>none
 | some fn=>match fn.body with
  | none=>none
  | some c=>match E5 X L fuel c ⟨args.map .v++zO6 (fn.ntmps-args.length) (.v undef),H,n,ds,[],0,none,[],n⟩ with
   | none=>none
   | some (x,⟨tm,hp,nid,ds',obs,_,_,mk,_⟩)=>match x with
    | .exit _=>none
    | _=>match Nat.ble n nid with
     | false=>none
     | true=>match V7 mk hp with
      | none=>none
      | some H'=>match N5 X.P X.auto tm H' fn.results.toList with
       | none=>none
       | some (vs,l)=>some ⟨O1 vs,gcH (O1 vs) n H',nid,tR X.P mk (l++obs),ds'⟩
theorem r0e (X:Cx) (L:V4) (fuel:Nat) (f:FuncId) (args:List Value) (H:Heap) (n:Nat) (ds:List Bool):y0f X L fuel f args H n ds=
  match X.P.funcs[f]? with
  | none=>none
  | some fn=>match fn.body with
   | none=>none
   | some c=>match E5 X L fuel c ⟨args.map .v++zO6 (fn.ntmps-args.length) (.v undef),H,n,ds,[],0,none,[],n⟩ with
    | none=>none
    | some (x,s)=>match x with
     | .exit _=>none
     | _=>match Nat.ble n s.nid with
      | false=>none
      | true=>match V7 s.mks s.heap with
       | none=>none
       | some H'=>match N5 X.P X.auto s.tmps H' fn.results.toList with
        | none=>none
        | some (vs,l)=>some ⟨O1 vs,gcH (O1 vs) n H',s.nid,tR X.P s.mks (l++s.obs),s.ds⟩:=by
 unfold y0f
 rw [Z0,show X.P.funcs.toList[f]? =X.P.funcs[f]? by simp]
 cases X.P.funcs[f]? with
 | none=>rfl
 | some fn=>
  dsimp only
  cases fn.body with
  | none=>rfl
  | some c=>
   dsimp only
   generalize E5 X L fuel c _=z
   cases z with
   | none=>rfl
   | some p=>
    obtain⟨x,s⟩:=p
    cases x <;> rfl
theorem bU {P:Program} {fn:Func} {tmps:Array Value} {R:Ending->World->Prop} {B:Nat} {M:Nat->Prop} :∀ (mks:List Mk) (H H':Heap) (w:World),(∀ f cap args,Mk.call f cap args∈mks->f2t P f (args.length+cap.length))->B<=w.heap.size->V7 mks H=some H'->∀ ρ,Sim P B M ρ H w->
  ∃ w',Keeps B M w w'∧(∀ ρ',(∀ i,H.get i=some .defr->ρ' i=ρ i)->Sim P B M ρ' H w->Sim P B M ρ' H' w')∧(LeavesInM Fence.wide 0 P fn tmps R [] .returning w'->LeavesInM Fence.wide 0 P fn tmps R (mks.map (mkD ρ)) .returning w)
 | [],H,H',w,_,_,h,ρ,hS=>by
  simp only [V7] at h
  cases h
  exact⟨w,Keeps.refl _ _ _,fun _ _ h=>h,fun h=>h⟩
 | .call f cap args ::r,H,H',w,hq,hB,h,ρ,hS=>by
  simp only [V7] at h
  obtain⟨q1,w1,q2,q3⟩:=hq f cap args (by simp) ((⟨rvL ρ args⟩:Array Value)++⟨rvL ρ cap⟩) w (by simp [l9])
  have hk:Keeps B M w w1:=⟨q2.os,q2.tape,q2.output,q2.size,fun k hk _=>q2.block k (E3 hk hB)⟩
  obtain⟨w',k1,k2,k3⟩:=bU (fn:=fn) (tmps:=tmps) (R:=R) r H H' w1 (fun f cap args hm=>hq f cap args (R8 _ hm)) (x7 hB q2.size) h ρ (hS.below q2)
  refine⟨w',hk.trans k1,fun ρ' he hS'=>k2 ρ' he (hS'.below q2),fun hh=> ?_⟩
  simp only [b1i]
  refine⟨by simp, .inr ⟨(fun hd=>by cases hd), .func f,⟨rvL ρ cap⟩,f,_,rfl,q1,fun _ _=>trivial,?_⟩⟩
  refine⟨q3.1,fun c cs hu hro=> ?_⟩
  obtain⟨e,u',w2,fr,⟨⟨v,hv⟩,hu',hw'⟩,hs⟩:=q3.2 c cs hu hro
  subst hv hu' hw'
  exact⟨_,_,_,fr,k3 hh,hs⟩
 | .mark i ::r,H,H',w,hq,hB,h,ρ,hS=>by
  simp only [V7] at h
  split at h
  case h_2=>cases h
  rename_i hget
  have turn:∀ ρ',Sim P B M ρ' H w->∀ b,ρ' i=some b->w.heap[b]? =some (.deferred (some []))->(B<=b∨M b)->Sim P B M ρ' (H.set i .dead) (w.putObj b (.deferred none)):=fun ρ' hS' b hb hw hown=>
   hS'.turn hget rfl hb ⟨b,_,rfl,World.putObj_heap_same (l4 hw),hown⟩ (fun k hk=>x0d hk)
  obtain⟨b,hb,hw,hown⟩:=hS.obj i _ hget
  have hk:Keeps B M w (w.putObj b (.deferred none)):=
   ⟨rfl,rfl,rfl,by simp,fun k hk hm=>x0d (fun e=>by subst e; exact hown.elim (fun h=>by omega) (fun h=>hm h))⟩
  obtain⟨w',k1,k2,k3⟩:=bU r _ H' _ (fun f cap args hm=>hq f cap args (R8 _ hm)) (by simpa using hB) h ρ (turn ρ hS b hb hw hown)
  refine⟨w',hk.trans k1,fun ρ' he hS'=>k2 ρ' (fun j hj=> ?_) (turn ρ' hS' b ((he i hget).trans hb) hw hown),fun hh=> ?_⟩
  ·rw [m3 H i .dead .defr hget] at hj
   split at hj
   ·cases hj
   ·exact he j hj
  ·simp only [b1i,mkD,hb,T2]
   exact⟨by simp, .inl ⟨b,_,rfl,run_takeDeferred hw,k3 hh⟩⟩
theorem l2d {ts:List Value} {k t:Nat} {x:Value} (h:A1 (ts.map .v++zO6 k (.v undef)) t= .v x) (ρ:Num):(((⟨rvL ρ ts⟩:Array Value)++Array.replicate k undef)).getD t undef=rv ρ x:=by
 simp only [K1] at h
 rw [Array.getD_eq_getD_getElem?]
 have e:((⟨rvL ρ ts⟩:Array Value)++Array.replicate k undef)[t]? =(rvL ρ ts++zO6 k undef)[t]? :=by
  rw [<- Array.getElem?_toList]
  simp
 rw [e]
 by_cases ht:t < ts.length
 ·rw [u1m (by simpa using ht)] at h
  rw [u1m (by rw [l9]; simpa using ht)]
  simp only [S8,l9] at h ⊢
  have hs:ts[t]? =some ts[t] :=by simp [ht]
  rw [hs] at h ⊢
  simp only [C8,T2] at h ⊢
  cases h
  rfl
 ·rw [c1i (by simpa using ht)] at h
  rw [c1i (by rw [l9]; simpa using ht)]
  simp only [l9,B9] at h ⊢
  by_cases hk:t-ts.length < k
  ·rw [List.getElem?_replicate,b9 hk] at h ⊢
   simp only [T2] at h ⊢
   cases h
   rw [dP]
  ·rw [List.getElem?_replicate,a6 hk] at h
   cases h
theorem s0u {P:Program} {fn:Func} {tmps:Array Value} {w:World} {vs:List Value} (h:(fn.results.toList.mapM fun (r:ResultVar)=>(match r with | .tmp t=>pure (tmps.getD t undef) | .cell p ty=>do loadVar ty (<- asAddr (tmps.getD p undef)):Sem Value)).run P w= .ok vs w):
  (results fn tmps).run P w= .ok (O1 vs) w:=by
 unfold results
 rw [Array.mapM_eq_mapM_toList,p8,Sem.run_map]
 refine Eq.trans (H5 (fun r:Result (List Value)=>(r.andThen fun a w'=> .ok a.toArray w').andThen fun (a:Array Value) w'=>Sem.run P (pure (if h:a.size=1 then a[0] else Value.tuple a)) w') h) ?_
 simp only [r9,S9]
 congr 1
 cases vs with
 | nil=>rfl
 | cons v vs=>
  cases vs with
  | nil=>rfl
  | cons u vs=>rfl
theorem L6 {X:Cx} {L:V4} (hX:CxOk X X.J) (hm:X.P.follows .mixedOrders=true) {fuel f n:Nat} {args:List Value} {H:Heap} {ds:List Bool} {r:CR} (h:y0f X L fuel f args H n ds=some r) (hl:d9 r.obs)
  {B:Nat} {M:Nat->Prop} {ρ:Num} {w:World} {vs:List Value} (hp:Par X.P B M) (hB:B<=w.heap.size) (hI:X.J.I w) (hS:∀ ρ',Agree n ρ ρ'->Sim X.P B M ρ' H w∧vs=rvL ρ' args):
  n<=r.n∧Calls X.P f ⟨vs⟩ w fun e w'=>∃ ρ1 v,Agree n ρ ρ1∧e= .returned v∧Keeps B M w w'∧∀ ρ',Agree r.n ρ1 ρ'->v=rv ρ' r.v∧Sim X.P B M ρ' r.h w':=by
 rw [r0e] at h
 split at h
 case h_1=>cases h
 rename_i fn hfn
 split at h
 case h_1=>cases h
 rename_i c hc
 split at h
 case h_1=>cases h
 rename_i x s hcode
 have key:(∀ id,x≠ .exit id)->∀ (hn:n<=s.nid) (H':Heap) (us:List Value) (l:List Prop),V7 s.mks s.heap=some H'->N5 X.P X.auto s.tmps H' fn.results.toList=some (us,l)->r=⟨O1 us,gcH (O1 us) n H',s.nid,tR X.P s.mks (l++s.obs),s.ds⟩->
   Calls X.P f ⟨vs⟩ w fun e w'=>∃ ρ1 v,Agree n ρ ρ1∧e= .returned v∧Keeps B M w w'∧∀ ρ',Agree r.n ρ1 ρ'->v=rv ρ' r.v∧Sim X.P B M ρ' r.h w':=by
  intro hne hn H' us l hkill hres hr
  subst hr
  obtain⟨hqu,hl⟩:=gL hl
  rw [i6] at hl
  refine callsIn_wide.1 (callsIn_of_wp_marks (n:=0) hfn hc trivial ?_)
  have hR0:Rep X.P X.J B M ⟨w,n,ρ,[]⟩ none ⟨args.map .v++zO6 (fn.ntmps-args.length) (.v undef),H,n,ds,[],0,none,[],n⟩ { tmps:=(⟨vs⟩:Array Value)++Array.replicate (fn.ntmps- (⟨vs⟩:Array Value).size) undef,defers:=[]} w:=by
   have hlen:vs.length=args.length:=by rw [(hS ρ (Agree.refl _ _)).2,l9]; simp
   refine⟨rfl,fun t=> ?_,by simp [hlen],hB,hI,Keeps.refl _ _ _,ρ,⟨d7 _,Agree.refl _ _⟩,fun ρ' ha=>⟨(hS ρ' ha).1,⟨rfl,rfl⟩,fun t x hx=> ?_⟩⟩
   ·simp only [K1]
    rcases hgt:(args.map TV.v++zO6 (fn.ntmps-args.length) (TV.v undef))[t]? with _ | tv
    ·rfl
    ·have hmem:=List.mem_of_getElem? hgt
     simp only [zzA92,zzA43,List.mem_replicate] at hmem
     rcases hmem with ⟨y,_,rfl⟩ | ⟨_,rfl⟩ <;> rfl
   ·have:=l2d hx ρ'
    rw [<- (hS ρ' ha).2] at this
    simpa [hlen] using this
  refine dB (rb:=none) hX hm hp fuel c _ x s hcode hl.2 _ w hR0 _ (fun a' w' hR'=> ?_)
  obtain⟨ρ2,hρ20,hρ2⟩:=hR'.rep
  have hfin:∀ R:Ending->World->Prop,(∀ e w',(∃ ρ1 v,Agree n ρ ρ1∧e= .returned v∧Keeps B M w w'∧∀ ρ',Agree s.nid ρ1 ρ'->v=rv ρ' (O1 us)∧Sim X.P B M ρ' (gcH (O1 us) n H') w')->R e w')->LeavesInM Fence.wide 0 X.P fn a'.tmps R a'.defers .returning w':=by
   intro R hRR
   obtain⟨hS2,hF2,hv2⟩:=hρ2 ρ2 (Agree.refl _ _)
   obtain⟨w2,k1,k2,k3⟩:=bU (fn:=fn) (tmps:=a'.tmps) (R:=R) s.mks _ H' w' hqu hR'.base hkill ρ2 hS2
   rw [hF2.defers]
   refine k3 ?_
   have hsim:∀ ρ',Agree s.nid ρ2 ρ'->Sim X.P B M ρ' H' w2:=fun ρ' ha=>by
    refine k2 ρ' (fun i hi=> ?_) (hρ2 ρ' ha).1
    exact ha i ((hR'.known hi).elim id (fun h=>by rcases h with ⟨_,_,h⟩ | ⟨_,h⟩ | ⟨_,_,_,_,h⟩ | ⟨_,_,_,_,h⟩ <;> cases h))
   have each:∀ ρ',Agree s.nid ρ2 ρ'->(results fn a'.tmps).run X.P w2= .ok (rv ρ' (O1 us)) w2:=fun ρ' ha=>by
    have:=s0u (V8 hR'.plain (hsim ρ' ha) (hρ2 ρ' ha).2.2 _ us l hres hl.1)
    rw [this]
    congr 1
    cases us with
    | nil=>simp [O1,rvL,rv,rvA]
    | cons u us=>
     cases us with
     | nil=>simp [O1,rvL]
     | cons u2 us=>simp [O1,rvL,rv,rvA]
   have e0:=each ρ2 (Agree.refl _ _)
   refine⟨_,e0,hRR _ _ ⟨ρ2,_,hρ20.2,rfl,hR'.keeps.trans k1,fun ρ' ha=>⟨?_,(hsim ρ' ha).less (w1f _ _ _)⟩⟩⟩
   have e1:=each ρ' ha
   rw [e0] at e1
   injection e1
  cases x with
  | normal=>exact hfin _ (fun _ _ h=>h)
  | ret=>exact hfin _ (fun _ _ h=>h)
  | exit id=>exact absurd rfl (hne id)
 have fin:(∀ id,x≠ .exit id)->(match Nat.ble n s.nid with
     | false=>none
     | true=>match V7 s.mks s.heap with
      | none=>none
      | some H'=>match N5 X.P X.auto s.tmps H' fn.results.toList with
       | none=>none
       | some (vs,l)=>some (⟨O1 vs,gcH (O1 vs) n H',s.nid,tR X.P s.mks (l++s.obs),s.ds⟩:CR))=some r->
   n<=r.n∧Calls X.P f ⟨vs⟩ w fun e w'=>∃ ρ1 v,Agree n ρ ρ1∧e= .returned v∧Keeps B M w w'∧∀ ρ',Agree r.n ρ1 ρ'->v=rv ρ' r.v∧Sim X.P B M ρ' r.h w':=by
  intro hne h
  split at h
  ·cases h
  rename_i hb
  have hn:=iU hb
  split at h
  case h_1=>cases h
  rename_i H' hkill
  split at h
  case h_1=>cases h
  rename_i us l hres
  have hr:=(T7 h).symm
  refine⟨by rw [hr]; exact hn,key hne hn H' us l hkill hres hr⟩
 cases x with
 | normal=>exact fin (fun _ e=>by cases e) h
 | ret=>exact fin (fun _ e=>by cases e) h
 | exit id=>cases h
end
end Go.Proofs.YtbdaebagmmmijaaGreatDoor.Ev
