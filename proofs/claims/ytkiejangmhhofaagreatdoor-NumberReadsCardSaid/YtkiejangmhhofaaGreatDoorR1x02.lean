/-
 NumberReads: any text is read as the document reads it; no condition (a part of the proof).
-/
import Derived.Test.YtkiejangmhhofaaGreatDoorR1x01
import Derived.Scope
import Derived.Test.YtkiejangmhhofaaGreatDoorRows
import Derived.Laws.Externs
import Derived.Lib.Bytealg
import Derived.KernelRfl
import Derived.Lib.LaidTab
import Derived.Lib.ItoaMem
import Derived.Lib.MakeNoZero
import Derived.Shelf.Unicode.DecodeSlow
import GoSem.PinnedTables
open Nat renaming beq->zO0,blt->zO1
open Go.Value renaming int->zO2
open Go.Op renaming operands->zO5
open Int renaming ofNat->zO6
open List renaming replicate->zO7
open Go.Proofs.Tryz renaming prog->zO8
open Go.IntKind renaming i64->iI,u64->uI,u32->uJ,u8->uB
noncomputable section
namespace Go.Proofs
theorem h0u:type_of%@Bool.or_eq_false_iff:=@Bool.or_eq_false_iff
theorem dF:type_of%@List.getElem?_cons_zero:=@List.getElem?_cons_zero
theorem bK:type_of%@List.getElem?_cons_succ:=@List.getElem?_cons_succ
theorem zzA124:type_of%@List.mem_range:=@List.mem_range
theorem s6:type_of%@Nat.zero_le:=@Nat.zero_le
theorem gD:type_of%@Nat.le_of_not_lt:=@Nat.le_of_not_lt
theorem Z8:type_of%@Nat.lt_trichotomy:=@Nat.lt_trichotomy
theorem a0s:type_of%@Classical.byContradiction:=@Classical.byContradiction
theorem k0k:type_of%@List.cons_append:=@List.cons_append
theorem zzA130:type_of%@List.mem_singleton:=@List.mem_singleton
theorem Q7:type_of%@Nat.lt_succ_self:=@Nat.lt_succ_self
theorem zzA132:type_of%@UInt8.toNat_inj:=@UInt8.toNat_inj
theorem bM:type_of%@Option.some.inj:=@Option.some.inj
theorem zW:type_of%@Bool.and_true:=@Bool.and_true
theorem cJ:type_of%@List.eq_nil_of_length_eq_zero:=@List.eq_nil_of_length_eq_zero
theorem a0n:type_of%@Nat.le_add_right:=@Nat.le_add_right
end Go.Proofs
namespace Go.Proofs.YtkiejangmhhofaaGreatDoor.Ev
open Go Go.RowKit Go.Shelf
noncomputable section
def kvP:KV->Nat->Bool->Prop
 | [],_,_=>True
 | (j,b) ::r,i,want=>match zO0 j i with
  | true=>b=want
  | false=>kvP r i want
def C9 (kv:KV):List (Nat×Bool)->Prop
 | [] =>True
 | [(j,want)] =>kvP kv j want
 | (j,want) ::r=>kvP kv j want∧C9 kv r
def d0r (kv:KV) (conds:List (Nat×Bool)) (obs:List Prop):List Prop:=
 match conds with
 | [] =>obs
 | _=>obs.map fun p=>C9 kv conds->p
theorem w1o {kv:KV} {O:Nat->Bool} (h:KVok kv O) {j:Nat} {want:Bool} (hv:O j=want):kvP kv j want:=by
 induction kv with
 | nil=>trivial
 | cons p kv ih=>
  obtain⟨i,b⟩:=p
  obtain⟨h1,h2⟩:=h.cons
  simp only [kvP]
  split
  ·rename_i hb
   have:=xY hb
   subst this
   rw [<- h1,hv]
  ·exact ih h2
theorem s0k {kv:KV} {O:Nat->Bool} (h:KVok kv O):∀ {l:List (Nat×Bool)},V O l->C9 kv l
 | [],_=>trivial
 | [(j,want)],hv=>w1o h (hv (j,want) (by simp))
 | (j,want) ::q ::r,hv=>by
  obtain⟨h1,h2⟩:=V_cons.1 hv
  exact⟨w1o h h1,s0k h h2⟩
theorem kS {kv:KV} {O:Nat->Bool} (h:KVok kv O) {conds:List (Nat×Bool)} (hv:V O conds) {obs:List Prop} (ho:l5 (d0r kv conds obs)):l5 obs:=by
 unfold d0r at ho
 split at ho
 ·exact ho
 ·rename_i hne
  clear hne
  induction obs with
  | nil=>trivial
  | cons p obs ih=>
   simp only [p0v,l5] at ho
   exact⟨ho.1 (s0k h hv),ih ho.2⟩
def a1l (ts:List TV) (d:Option Nat) (x:TV):List TV:=match d with
 | none=>ts
 | some d=>S5 ts d x
def p1e (conds:List (Nat×Bool)) (v:Value):TV:=match conds with
 | [] => .v v
 | l=> .sp l v
def o1l (conds:List (Nat×Bool)):Bool:=match conds with
 | [] =>false
 | _=>true
def kvH:KV->Nat->Bool->Prop
 | [],_,_=>False
 | (j,b) ::r,i,want=>match zO0 j i with
  | true=>b=want
  | false=>kvH r i want
def x0n (kv:KV):List (Nat×Bool)->Prop
 | [] =>True
 | [(j,want)] =>kvH kv j want
 | (j,want) ::r=>kvH kv j want∧x0n kv r
theorem x1s {kv:KV} {O:Nat->Bool} (h:KVok kv O) {j:Nat} {want:Bool} (hv:kvH kv j want):O j=want:=by
 induction kv with
 | nil=>exact hv.elim
 | cons p kv ih=>
  obtain⟨i,b⟩:=p
  obtain⟨h1,h2⟩:=h.cons
  simp only [kvH] at hv
  split at hv
  ·rename_i hb
   have:=xY hb
   subst this
   rw [h1,hv]
  ·exact ih h2 hv
theorem sF {kv:KV} {O:Nat->Bool} (h:KVok kv O):∀ {l:List (Nat×Bool)},x0n kv l->V O l
 | [],_=>mI _
 | [(_,_)],hv=>V_cons.2 ⟨x1s h hv,mI _⟩
 | (_,_) ::_ ::_,hv=>V_cons.2 ⟨x1s h hv.1,sF h hv.2⟩
def r0a (X:Cx) (q:Bool) (o:Oper) (conds:List (Nat×Bool)) (tmps:List TV) (H:Heap) (n:Nat) (ds:List Bool) (kv:KV):Option CR:=
 match I2 X (q || o1l conds) o conds tmps H n ds with
 | some ⟨v,h,n',ob,ds'⟩=>some ⟨v,h,n',d0r kv conds ob,ds'⟩
 | none=>match !q && o1l conds with
  | false=>none
  | true=>match I2 X false o conds tmps H n ds with
   | none=>none
   | some ⟨v,h,n',ob,ds'⟩=>some ⟨v,h,n',x0n kv conds ::ob,ds'⟩
theorem K2 {X:Cx} {q:Bool} {o:Oper} {conds:List (Nat×Bool)} {tmps:List TV} {H:Heap} {n:Nat} {ds:List Bool} {kv:KV} {r:CR} (h:r0a X q o conds tmps H n ds kv=some r):
  (∃ r0,I2 X (q || o1l conds) o conds tmps H n ds=some r0∧r=⟨r0.v,r0.h,r0.n,d0r kv conds r0.obs,r0.ds⟩)∨
  (q=false∧o1l conds=true∧I2 X true o conds tmps H n ds=none∧∃ r0,I2 X false o conds tmps H n ds=some r0∧r=⟨r0.v,r0.h,r0.n,x0n kv conds ::r0.obs,r0.ds⟩):=by
 unfold r0a at h
 split at h
 ·rename_i hb
  cases h
  exact .inl ⟨_,hb,rfl⟩
 ·rename_i hb
  split at h
  ·cases h
  ·rename_i hq
   simp only [A9,o0s] at hq
   split at h
   ·cases h
   ·rename_i hb2
    cases h
    rw [hq.1,hq.2] at hb
    exact .inr ⟨hq.1,hq.2,hb,_,hb2,rfl⟩
def bS (X:Cx) (q:Bool) (os:List Oper) (o:Oper) (tmps:List TV) (H:Heap) (n:Nat) (ds:List Bool) (kv:KV):Option (List TV×KV×TV×CR):=
 match N4 X.gd os o tmps kv with
 | none=>none
 | some (true,tmps',kv',_)=>some (tmps',kv', .v undef,⟨undef,H,n,[],ds⟩)
 | some (false,tmps',kv',conds)=>
  match r0a X q o conds tmps' H n ds kv' with
  | none=>none
  | some ⟨v,h,n',ob,ds'⟩=>some (tmps',kv',p1e conds v,⟨v,h,n',ob,ds'⟩)
theorem F4 (X:Cx) (q:Bool) (os:List Oper) (o:Oper) (tmps:List TV) (H:Heap) (n:Nat) (ds:List Bool) (kv:KV):bS X q os o tmps H n ds kv=
  match N4 X.gd os o tmps kv with
  | none=>none
  | some (true,tmps',kv',_)=>some (tmps',kv', .v undef,⟨undef,H,n,[],ds⟩)
  | some (false,tmps',kv',conds)=>
   match r0a X q o conds tmps' H n ds kv' with
   | none=>none
   | some r=>some (tmps',kv',p1e conds r.v,r):=by
 unfold bS
 cases N4 X.gd os o tmps kv with
 | none=>rfl
 | some p=>
  obtain⟨b,t,k,c⟩:=p
  cases b with
  | false=>
   dsimp only
   generalize r0a X _ o c t H n ds k=z
   cases z <;> rfl
  | true=>rfl
theorem P5 {X:Cx} {o:Oper} {conds:List (Nat×Bool)} {tmps:List TV} {H:Heap} {n:Nat} {ds:List Bool} {r:CR} (h:I2 X true o conds tmps H n ds=some r):r.h=H∧r.n=n∧r.ds=ds:=by
 unfold I2 at h
 split at h
 case h_1=>cases h
 cases hsb:s2b X.P X.auto (evo tmps conds) o.op with
 | some eb=>rw [hsb] at h; cases h
 | none=>
 rw [hsb] at h
 dsimp only at h
 split at h
 ·split at h
  ·cases h
  ·split at h
   ·cases h; exact⟨rfl,rfl,rfl⟩
   ·cases h
 ·split at h
  ·split at h
   ·split at h
    ·cases h; exact⟨rfl,rfl,rfl⟩
    ·cases h
   ·cases h
   ·cases h
  ·split at h
   ·split at h
    ·cases h
    ·split at h
     ·cases h
     ·split at h
      ·cases h; exact⟨rfl,rfl,rfl⟩
      ·split at h
       ·cases h; exact⟨rfl,rfl,rfl⟩
       ·cases h
   ·cases h
  ·cases h
 ·split at h
  ·split at h
   ·cases h; exact⟨rfl,rfl,rfl⟩
   ·cases h
  ·cases h
theorem S4 {os:List Oper} {o:Oper} {t:Nat} (h:Operand.tmp t∈o.op.operands.toList):t∈looks os o:=by
 unfold looks Oper.looksAt
 exact u0h _ (List.mem_filterMap.2 ⟨.tmp t,h,rfl⟩)
theorem gW {X:Cx} {J:Inv X.P} (hX:CxOk X J) {q:Bool} {os:List Oper} {i:Nat} {o:Oper} (hi:os[i]? =some o) {tmps tmps':List TV} {H:Heap} {n:Nat} {ds:List Bool} {kv kv':KV} {tv:TV} {r:CR}
  (h:bS X q os o tmps H n ds kv=some (tmps',kv',tv,r)) (hl:l5 r.obs)
  {B:Nat} {M:Nat->Prop} (hp:Par X.P B M) {E:Num} {Cβ:(Nat->Bool)->Prop} (hne:∃ O,Cβ O) (hCβ:∀ O,Cβ O->KVok kv' O) {a:Act} {w:World} (hB:B<=w.heap.size) (hI:J.I w)
  (hS:∀ E',Agree n E E'->Sim X.P B M E' H w) (hT:∀ E',Agree n E E'->∀ O,Cβ O->∀ t∈looks os o,M0 E' O (D5 tmps t) (a.tmps.getD t undef))
  {rb:Option Nat} {K:Act->World->Prop} {Q:Exit->Act->World->Prop}
  (hK:∀ v w' ρ1,Agree n E ρ1->n<=r.n->(∀ E',Agree r.n ρ1 E'->Sim X.P B M E' r.h w'∧∀ O,Cβ O->M0 E' O tv v)->Keeps B M w w'->
   (q=true->r.h=H∧r.ds=ds∧r.n=n∧Below w.heap.size w w'∧ρ1=E)->K (a.put o.dst v) w'):
  wpOpIn (Fl rb) 0 X.P ⟨os⟩ Q i K a w:=by
 have hoi:(⟨os⟩:Array Oper)[i]? =some o:=by simpa using hi
 unfold wpOpIn
 rw [hoi]
 simp only []
 obtain⟨β0,hβ0⟩:=hne
 rw [F4] at h
 split at h
 ·cases h
 ·
  rename_i tmps1 kv1 conds1 hg
  cases h
  have g:=F3 hg (hCβ β0 hβ0) (fun t ht _=>hT E (Agree.refl _ _) β0 hβ0 t ht)
  rw [a7 (by rw [g.2.1 rfl]; simp)]
  refine⟨lI,?_⟩
  exact hK undef w E (Agree.refl _ _) (d9 _) (fun E' ha=>⟨hS E' ha,fun O _=>(fA E').symm⟩) (Keeps.refl _ _ _) (fun _=>⟨rfl,rfl,rfl,Z9 _ _,rfl⟩)
 ·rename_i tmps1 kv1 conds hg
  split at h
  ·cases h
  ·rename_i r1 hand
   cases h
   have g:∀ E',Agree n E E'->∀ O,Cβ O->_:=fun E' ha O hβ=>F3 hg (hCβ O hβ) (fun t ht _=>hT E' ha O hβ t ht)
   have hw:∀ O,Cβ O->(Region.wanted o (yielded ⟨os⟩ a.tmps)=true↔V O conds):=fun O hβ=>(g E (Agree.refl _ _) O hβ).2.2.1 rfl
   have run:∀ (q':Bool) (r0:CR),(q=true->q'=true)->r.v=r0.v->r.h=r0.h->r.n=r0.n->r.ds=r0.ds->I2 X q' o conds tmps' H n ds=some r0->l5 r0.obs->V β0 conds->
     (if Region.wanted o (yielded ⟨os⟩ a.tmps)=true then o.wpIn (Fl rb) 0 X.P a w K Q else (∀ f,o.about X.P w a.eval=some f->(Fl rb).fn f)∧K (a.put o.dst undef) w):=by
    intro q' r0 hqq e1 e2 e3 e4 hb hl0 hV
    have hwt:=(hw β0 hβ0).2 hV
    rw [f9 hwt]
    refine i0d hX hb hl0 hp (E:=E) (O:=β0) hV hB hI hS (fun E' ha t ht=> ?_) (fun v w' ρ1 ha hn hfin hk hq=> ?_)
    ·exact ((g E' ha β0 hβ0).2.2.2 t _).1 (hT E' ha β0 hβ0 t (S4 ht))
    ·refine hK v w' ρ1 ha (by omega) (fun E' ha'=> ?_) hk (fun hq'=> ?_)
     ·rw [e3] at ha'
      rw [e2,e1]
      refine⟨(hfin E' ha').2,fun O hβ=> ?_⟩
      have hVβ:=(hw O hβ).1 hwt
      unfold p1e
      split
      ·exact (hfin E' ha').1
      ·exact⟨fun _=>(hfin E' ha').1,fun hn=>absurd hVβ hn⟩
     ·obtain⟨f1,f2,f3,f4,f5⟩:=hq (hqq hq')
      exact⟨e2.trans f1,e4.trans f2,e3.trans f3,f4,f5⟩
   rcases K2 hand with ⟨r0,hb,er⟩ | ⟨hq0,hc,_,r0,hb,er⟩
   ·subst er
    by_cases hV:V β0 conds
    ·exact run _ r0 (fun h=>by simp [h]) rfl rfl rfl rfl hb (kS (hCβ β0 hβ0) hV hl) hV
    ·have hwt:Region.wanted o (yielded ⟨os⟩ a.tmps)=false:=by
      cases hw':Region.wanted o (yielded ⟨os⟩ a.tmps)
      ·rfl
      ·exact absurd ((hw β0 hβ0).1 hw') hV
     have hcne:conds≠[] :=fun e=>by subst e; exact hV (mI _)
     have hq1:(q || o1l conds)=true:=by
      cases conds with
      | nil=>exact absurd rfl hcne
      | cons _ _=>simp [o1l]
     rw [hq1] at hb
     obtain⟨e1,e2,e3⟩:=P5 hb
     rw [a7 (by rw [hwt]; simp)]
     refine⟨lI,?_⟩
     refine hK undef w E (Agree.refl _ _) (by show n<=r0.n; omega) (fun E' ha=>⟨?_,fun O hβ=> ?_⟩) (Keeps.refl _ _ _) (fun _=>⟨e1,e3,e2,Z9 _ _,rfl⟩)
     ·show Sim X.P B M E' r0.h w
      rw [e1]
      exact hS E' (by rw [show r0.n=n from e2] at ha; exact ha)
     ·unfold p1e
      split
      ·exact absurd rfl hcne
      ·refine⟨fun hv=> ?_,fun _=>rfl⟩
       have:=(hw O hβ).2 hv
       rw [hwt] at this
       cases this
   ·subst er
    exact run false r0 (fun h=>by rw [hq0] at h; cases h) rfl rfl rfl rfl hb hl.2 (sF (hCβ β0 hβ0) hl.1)
theorem mR {auto:Bool} {os:List Oper} {o:Oper} {tmps tmps':List TV} {kv kv':KV} {sk:Bool} {conds:List (Nat×Bool)} (h:N4 auto os o tmps kv=some (sk,tmps',kv',conds))
  (hk:∃ O,KVok kv O):(∃ O,KVok kv' O)∧(∀ O,KVok kv' O->KVok kv O)∧tmps'.length=tmps.length:=by
 have new:∀ (j:Nat) (b:Bool),y0d kv j=false->∃ O,KVok ((j,b) ::kv) O:=by
  intro j b hj
  obtain⟨O,hβ⟩:=hk
  refine⟨fun i=>if i=j then b else O i,fun p hp=> ?_⟩
  rcases zzA86.1 hp with rfl | hp
  ·simp
  ·have hne:p.1≠j:=by
    intro e
    have:∀ (l:KV),p∈l->y0d l j=false->False:=by
     intro l
     induction l with
     | nil=>intro hp; cases hp
     | cons x l ih=>
      obtain⟨i,c⟩:=x
      intro hp hl
      simp only [y0d,h0u] at hl
      rcases zzA86.1 hp with rfl | hp
      ·simp only at e; subst e; simp at hl
      ·exact ih hp hl.2
    exact this kv hp hj
   simp [hne,hβ p hp]
 unfold N4 at h
 simp only [A0] at h
 split at h
 ·cases h; exact⟨hk,fun _ h=>h,rfl⟩
 ·split at h
  case h_1=>cases h
  split at h
  ·split at h
   ·split at h
    ·split at h <;> (cases h; exact⟨hk,fun _ h=>h,rfl⟩)
    ·cases h; exact⟨hk,fun _ h=>h,rfl⟩
    ·cases h
   ·split at h
    ·split at h
     ·rename_i hj; cases h; exact⟨new _ _ hj,fun _ h=>h.cons.2,by simp⟩
     ·cases h
    ·cases h
  ·split at h
   ·split at h
    ·rename_i hj; cases h; exact⟨new _ _ hj,fun _ h=>h.cons.2,by simp⟩
    ·cases h
   ·cases h
  ·split at h
   ·cases h; exact⟨hk,fun _ h=>h,rfl⟩
   ·cases h
  ·cases h
theorem aE {X:Cx} {q:Bool} {os:List Oper} {o:Oper} {tmps tmps':List TV} {H:Heap} {n:Nat} {ds:List Bool} {kv kv':KV} {tv:TV} {r:CR}
  (h:bS X q os o tmps H n ds kv=some (tmps',kv',tv,r)) (hk:∃ O,KVok kv O):(∃ O,KVok kv' O)∧(∀ O,KVok kv' O->KVok kv O)∧tmps'.length=tmps.length:=by
 rw [F4] at h
 split at h
 ·cases h
 ·rename_i hg; cases h; exact mR hg hk
 ·rename_i hg
  split at h
  ·cases h
  ·cases h; exact mR hg hk
theorem x0d {X:Cx} {q:Bool} {os:List Oper} {o:Oper} {tmps tmps':List TV} {H:Heap} {n:Nat} {ds:List Bool} {kv kv':KV} {tv:TV} {r:CR}
  (h:bS X q os o tmps H n ds kv=some (tmps',kv',tv,r)) {E:Num} {O:Nat->Bool} (hk:KVok kv' O) {a:Array Value} (hT:∀ t∈looks os o,M0 E O (D5 tmps t) (a.getD t undef)) (t:Nat) (x:Value):
  M0 E O (D5 tmps t) x↔M0 E O (D5 tmps' t) x:=by
 rw [F4] at h
 split at h
 ·cases h
 ·rename_i hg; cases h; exact (F3 hg hk (fun t ht _=>hT t ht)).2.2.2 t x
 ·rename_i hg
  split at h
  ·cases h
  ·cases h; exact (F3 hg hk (fun t ht _=>hT t ht)).2.2.2 t x
def X7 (X:Cx) (q:Bool) (os:List Oper) (o:Oper) (s:St) (kv:KV):Option (St×KV):=
 match s with
 | ⟨tm,hp,nid,ds,obs,lp,rd,mk,bs⟩=>match bS X q os o tm hp nid ds kv with
  | none=>none
  | some (tmps',kv',tv,⟨_,h,n,ob,ds'⟩)=>some (⟨a1l tmps' o.dst tv,h,n,ds',ob++obs,lp,rd,mk,bs⟩,kv')
theorem F8 (X:Cx) (q:Bool) (os:List Oper) (o:Oper) (s:St) (kv:KV):X7 X q os o s kv=
  match bS X q os o s.tmps s.heap s.nid s.ds kv with
  | none=>none
  | some (tmps',kv',tv,r)=>some (⟨a1l tmps' o.dst tv,r.h,r.n,r.ds,r.obs++s.obs,s.lp,s.rd,s.mks,s.bs⟩,kv'):=by
 unfold X7
 dsimp only
 generalize bS X q os o _ _ _ _ kv=z
 cases z <;> rfl
structure RepR (P:Program) (J:Inv P) (B:Nat) (M:Nat->Prop) (w0:Bas) (kv:KV) (s:St) (a:Act) (w:World):Prop where
 size:a.tmps.size=s.tmps.length
 defers:a.defers=w0.dfs
 base:B<=w.heap.size
 inv:J.I w
 keeps:Keeps B M w0.w w
 keys:∃ O,KVok kv O
 rep:∃ E,(w0.n<=s.nid∧Agree w0.n w0.E E)∧∀ E',Agree s.nid E E'->Sim P B M E' s.heap w∧∀ O,KVok kv O->∀ t,M0 E' O (D5 s.tmps t) (a.tmps.getD t undef)
theorem jY (a:Act) (d:Option Nat) (v:Value):(a.put d v).tmps.size=a.tmps.size:=by
 cases d <;> simp [Act.put]
theorem Y1 (a:Act) (d:Option Nat) (v:Value):(a.put d v).defers=a.defers:=by
 cases d <;> simp [Act.put]
theorem gY (ts:List TV) (d:Option Nat) (x:TV):(a1l ts d x).length=ts.length:=by
 cases d <;> simp [a1l,A0]
theorem V4 (a:Act) (d:Option Nat) (v:Value) (t:Nat):(a.put d v).tmps.getD t undef=if d=some t∧t < a.tmps.size then v else a.tmps.getD t undef:=by
 cases d with
 | none=>simp [Act.put]
 | some d=>
  simp only [Act.put,U9]
  by_cases h:d=t
  ·subst h
   by_cases hl:d < a.tmps.size
   ·simp [hl]
   ·simp [hl]
  ·simp [h]
theorem aA (ts:List TV) (d:Option Nat) (x:TV) (t:Nat):D5 (a1l ts d x) t=if d=some t∧t < ts.length then x else D5 ts t:=by
 cases d with
 | none=>simp [a1l]
 | some d=>
  simp only [a1l,A0,U9]
  by_cases h:d=t
  ·subst h
   by_cases hl:d < ts.length
   ·rw [O0 _ _ _ _ hl]; simp [hl]
   ·rw [fY (by omega)]; simp [hl]
  ·by_cases hl:d < ts.length
   ·rw [O0 _ _ _ _ hl]; simp [h]
   ·rw [fY (by omega)]; simp [h]
theorem cH {X:Cx} {J:Inv X.P} (hX:CxOk X J) {os:List Oper} {i:Nat} {o:Oper} (hi:os[i]? =some o) {q:Bool} {s s':St} {kv kv':KV} (h:X7 X q os o s kv=some (s',kv')) (hl:l5 s'.obs)
  {B:Nat} {M:Nat->Prop} (hp:Par X.P B M) {w0:Bas} {a:Act} {w:World} (hR:RepR X.P J B M w0 kv s a w) {rb:Option Nat} {K:Act->World->Prop} {Q:Exit->Act->World->Prop}
  (hK:∀ a' w',RepR X.P J B M w0 kv' s' a' w'->K a' w'):wpOpIn (Fl rb) 0 X.P ⟨os⟩ Q i K a w:=by
 rw [F8] at h
 split at h
 ·cases h
 rename_i tmps' kv1 tv r he
 cases h
 simp only [a8] at hl
 obtain⟨hex,hsub,hlen⟩:=aE he hR.keys
 obtain⟨E,hρ0,hρ⟩:=hR.rep
 refine gW hX hi he hl.1 hp (E:=E) (Cβ:=KVok kv') hex (fun _ h=>h) hR.base hR.inv (fun E' ha=>(hρ E' ha).1) (fun E' ha O hβ t _=>(hρ E' ha).2 O (hsub O hβ) t) (fun v w' ρ1 ha hn hfin hk _=>hK _ _ ?_)
 refine⟨by rw [jY,gY,hlen]; exact hR.size,by rw [Y1]; exact hR.defers,x7 hR.base hk.size,J.keeps hp hk hR.inv,hR.keeps.trans hk,hex,ρ1,⟨x7 hρ0.1 hn,hρ0.2.trans ha hρ0.1⟩,fun E' ha'=>⟨(hfin E' ha').1,fun O hβ t=> ?_⟩⟩
 rw [V4,aA,hlen,hR.size]
 split
 ·exact (hfin E' ha').2 O hβ
 ·have ha0:Agree s.nid E E':=fun j hj=>(ha' j (C8 hj hn)).trans (ha j hj)
  have hTt:=fun t=>(hρ E' ha0).2 O (hsub O hβ) t
  exact (x0d he hβ (fun t _=>hTt t) t _).1 (hTt t)
def evN (X:Cx) (m:Nat) (os:List Oper) (s0:St):Nat->Option (St×KV)
 | 0=>some (s0,[])
 | i+1=>match evN X m os s0 i with
  | none=>none
  | some (s,kv)=>match p1c os i with
   | none=>none
   | some o=>X7 X (zO1 i m) os o s kv
theorem O1 {X:Cx} {m:Nat} {os:List Oper} {s0:St} {i:Nat} {s':St} {kv':KV} (h:evN X m os s0 (i+1)=some (s',kv')):
  ∃ s kv o,evN X m os s0 i=some (s,kv)∧os[i]? =some o∧X7 X (zO1 i m) os o s kv=some (s',kv'):=by
 simp only [evN,gM] at h
 split at h
 ·cases h
 ·rename_i s kv hs
  split at h
  ·cases h
  ·rename_i o ho
   exact⟨s,kv,o,hs,ho,h⟩
theorem zP {X:Cx} {q:Bool} {os:List Oper} {o:Oper} {s s':St} {kv kv':KV} (h:X7 X q os o s kv=some (s',kv')) (hl:l5 s'.obs):l5 s.obs:=by
 rw [F8] at h
 split at h
 ·cases h
 ·cases h; exact ((a8 _ _).1 hl).2
theorem gV {X:Cx} {m:Nat} {os:List Oper} {s0:St} :∀ {j i:Nat} {si sj:St} {ki kj:KV},i<=j->evN X m os s0 i=some (si,ki)->evN X m os s0 j=some (sj,kj)->l5 sj.obs->l5 si.obs
 | 0,i,si,sj,ki,kj,hij,h1,h2,hl=>by
  obtain rfl:i=0:=by omega
  rw [h1] at h2; cases h2; exact hl
 | j+1,i,si,sj,ki,kj,hij,h1,h2,hl=>by
  by_cases e:i=j+1
  ·subst e; rw [h1] at h2; cases h2; exact hl
  ·obtain⟨s,kv,o,hs,_,ho⟩:=O1 h2
   exact gV (by omega) h1 hs (zP ho hl)
theorem lE {X:Cx} {m:Nat} {os:List Oper} {s0:St} :∀ {j i:Nat} {r:St×KV},i<=j->evN X m os s0 j=some r->∃ q,evN X m os s0 i=some q
 | 0,i,r,hij,h=>by
  obtain rfl:i=0:=by omega
  exact⟨r,h⟩
 | j+1,i,r,hij,h=>by
  by_cases e:i=j+1
  ·subst e; exact⟨r,h⟩
  ·obtain⟨s',kv'⟩:=r
   obtain⟨s,kv,o,hs,_,_⟩:=O1 h
   exact lE (by omega) hs
theorem m1s {X:Cx} {J:Inv X.P} (hX:CxOk X J) {m:Nat} {os:List Oper} {s0 sn:St} {kn:KV} {B:Nat} {M:Nat->Prop} (hp:Par X.P B M) {w0:Bas} {rb:Option Nat} {Q:Exit->Act->World->Prop} {n:Nat}
  (hn:evN X m os s0 n=some (sn,kn)) (hl:l5 sn.obs) (hQ:∀ a w,RepR X.P J B M w0 kn sn a w->Q .normal a w):
  ∀ (k i:Nat) (s:St) (kv:KV) (a:Act) (w:World),i+k=n->evN X m os s0 i=some (s,kv)->RepR X.P J B M w0 kv s a w->wpOpsIn (Fl rb) 0 X.P ⟨os⟩ Q (List.range' i k) a w:=by
 intro k
 induction k with
 | zero=>
  intro i s kv a w hik hs hR
  obtain rfl:i=n:=by omega
  rw [hs] at hn
  cases hn
  simp only [List.range'_zero,wpOpsIn]
  exact hQ a w hR
 | succ k ih=>
  intro i s kv a w hik hs hR
  rw [List.range'_succ,wpOpsIn_cons]
  obtain⟨q1,hq1⟩:=lE (i:=i+1) (by omega) hn
  obtain⟨s1,k1⟩:=q1
  obtain⟨s',kv',o,h1,h2,h3⟩:=O1 hq1
  rw [hs] at h1
  cases h1
  exact cH hX h2 h3 (gV (by omega) hq1 hn hl) hp hR (fun a' w' hR'=>ih (i+1) s1 k1 a' w' (by omega) hq1 hR')
def u0z:TV->TV
 | .v x=> .v x
 | .key _ [] b=> .v (.bool b)
 | _=> .unk
theorem j0e (ts:List TV) (t:Nat):D5 (ts.map u0z) t=u0z (D5 ts t):=by
 simp only [N8]
 rw [Z3]
 cases ts[t]? <;> rfl
theorem tD {X:Cx} {m:Nat} {os:List Oper} {s0:St} :∀ {i:Nat} {s:St} {kv:KV},evN X m os s0 i=some (s,kv)->s.rd=s0.rd∧s.mks=s0.mks∧s.bs=s0.bs
 | 0,s,kv,h=>by simp only [evN] at h; cases h; exact⟨rfl,rfl,rfl⟩
 | i+1,s,kv,h=>by
  obtain⟨s1,k1,o,h1,_,h2⟩:=O1 h
  obtain⟨e1,e2,e3⟩:=tD h1
  rw [F8] at h2
  split at h2
  ·cases h2
  ·cases h2; exact⟨e1,e2,e3⟩
theorem Rep.toR {P:Program} {J:Inv P} {B:Nat} {M:Nat->Prop} {w0:Bas} {rb:Option Nat} {s:St} {a:Act} {w:World} (h:Rep P J B M w0 rb s a w):RepR P J B M ⟨w,s.nid,h.rep.choose,a.defers⟩ [] s a w:=by
 obtain⟨hρ0,hρ⟩:=h.rep.choose_spec
 generalize h.rep.choose=E at*
 refine⟨h.size,rfl,h.base,h.inv,Keeps.refl _ _ _,⟨fun _=>false,fun p hp=>by cases hp⟩,E,⟨d9 _,Agree.refl _ _⟩,fun E' ha=>⟨(hρ E' ha).1,fun O _ t=> ?_⟩⟩
 have:=(hρ E' ha).2.2 t
 have hp:=h.plain t
 generalize D5 s.tmps t=tv at*
 cases tv with
 | unk=>trivial
 | v y=>exact this y rfl
 | sp l y=>cases hp
 | key j l b=>cases hp
theorem RepR.clean {P:Program} {J:Inv P} {B:Nat} {M:Nat->Prop} {w0:Bas} {rb:Option Nat} {kv:KV} {s0 s:St} {a0 a:Act} {w1 w:World} (h0:Rep P J B M w0 rb s0 a0 w1) (h:RepR P J B M ⟨w1,s0.nid,h0.rep.choose,a0.defers⟩ kv s a w)
  (e1:s.rd=s0.rd) (e2:s.mks=s0.mks) (e3:s.bs=s0.bs):Rep P J B M w0 rb { s with tmps:=s.tmps.map u0z } a w:=by
 obtain⟨hρ0,hρ⟩:=h0.rep.choose_spec
 obtain⟨ρ2,hρ20,hρ2⟩:=h.rep
 have hdef:=h.defers
 have hkp:=h.keeps
 simp only at hρ20 hdef hkp
 generalize h0.rep.choose=E at*
 obtain⟨O,hβ⟩:=h.keys
 refine⟨by show w0.n=s.bs; rw [e3]; exact h0.low,fun t=> ?_,by simpa using h.size,h.base,h.inv,h0.keeps.trans hkp,ρ2,⟨x7 hρ0.1 hρ20.1,hρ0.2.trans hρ20.2 hρ0.1⟩,fun E' ha=>⟨(hρ2 E' ha).1,?_,fun t x hx=> ?_⟩⟩
 ·rw [j0e]
  generalize D5 s.tmps t=tv
  cases tv with
  | key j l b=>cases l <;> rfl
  | _=>rfl
 ·have g:=(hρ E' (fun i hi=>(ha i (C8 hi hρ20.1)).trans (hρ20.2 i hi))).2.1
  exact⟨by rw [hdef]; show _=s.mks.map _; rw [e2]; exact g.defers,by show rb=s.rd.bind E'; rw [e1]; exact g.round⟩
 have ht:=(hρ2 E' ha).2 O hβ t
 rw [j0e] at hx
 generalize D5 s.tmps t=tv at*
 cases tv with
 | unk=>cases hx
 | v y=>cases hx; exact ht
 | sp l y=>cases hx
 | key j l b=>
  cases l with
  | nil=>
   cases hx
   simp only [rv]
   exact ht.2.1 (mI O)
  | cons _ _=>cases hx
end
noncomputable section
def K9 (x:Nat):List Nat->Bool
 | [] =>false
 | y ::r=>zO0 x y || K9 x r
theorem memN_iff {x:Nat} :∀ {l:List Nat},K9 x l=true↔x∈l
 | [] =>by simp [K9]
 | y ::r=>by
  simp only [K9,xX,zzA86,memN_iff (l:=r),B7]
def h0c:List Edge->List Nat
 | [] =>[]
 | e ::r=>match Region.binds .any e with
  | true=>e.on ::h0c r
  | false=>h0c r
def u5 (o:Oper):List Nat:=h0c o.after.toList
theorem predsOf_iff {o:Oper} {k:Nat} :k∈u5 o↔∃ e∈o.after,Region.binds .any e=true∧e.on=k:=by
 unfold u5
 rw [show (∃ e∈o.after,Region.binds .any e=true∧e.on=k)↔∃ e∈o.after.toList,Region.binds .any e=true∧e.on=k by simp]
 induction o.after.toList with
 | nil=>simp [h0c]
 | cons e r ih=>
  simp only [h0c]
  split
  ·rename_i hb
   simp only [zzA86,ih]
   constructor
   ·rintro (h | ⟨x,hx,h1,h2⟩)
    ·exact⟨e, .inl rfl,hb,h.symm⟩
    ·exact⟨x, .inr hx,h1,h2⟩
   ·rintro ⟨x,rfl | hx,h1,h2⟩
    ·exact .inl h2.symm
    ·exact .inr ⟨x,hx,h1,h2⟩
  ·rename_i hb
   rw [ih]
   simp only [zzA86]
   constructor
   ·rintro ⟨x,hx,h1,h2⟩; exact⟨x, .inr hx,h1,h2⟩
   ·rintro ⟨x,rfl | hx,h1,h2⟩
    ·rw [hb] at h1; cases h1
    ·exact⟨x,hx,h1,h2⟩
def s1a (n:Nat):List Nat->Bool
 | [] =>true
 | x ::r=>zO1 x n && s1a n r
theorem a0d {n:Nat} :∀ {l:List Nat},s1a n l=true->∀ x∈l,x < n
 | [],_,x,hx=>by cases hx
 | y ::r,h,x,hx=>by
  simp only [s1a,A9,G1] at h
  rcases zzA86.1 hx with rfl | hx
  ·exact h.1
  ·exact a0d h.2 x hx
def vE:Nat->List Oper->Bool
 | _,[] =>true
 | i,o ::r=>s1a i (u5 o) && vE (i+1) r
theorem cW:∀ {r:List Oper} {i:Nat},vE i r=true->∀ k o,r[k]? =some o->∀ e∈u5 o,e < i+k
 | [],i,_,k,o,ho=>by simp at ho
 | x ::r,i,h,k,o,ho=>by
  simp only [vE,A9] at h
  cases k with
  | zero=>simp only [dF,U9] at ho; subst ho; exact a0d h.1
  | succ k=>
   simp only [bK] at ho
   intro e he
   have:=cW h.2 k o ho e he
   omega
def t2c (d:Nat):List Oper->Bool
 | [] =>false
 | o ::r=>(match o.dst with
  | some e=>zO0 d e
  | none=>false) || t2c d r
def g1t:List Oper->Bool
 | [] =>true
 | o ::r=>(match o.dst with
  | some d=> !t2c d r
  | none=>true) && g1t r
theorem oC {d:Nat} :∀ {r:List Oper},t2c d r=false->∀ (k:Nat) (o:Oper),r[k]? =some o->o.dst≠some d
 | [],_,k,o,ho=>by simp at ho
 | x ::r,h,k,o,ho=>by
  simp only [t2c,h0u] at h
  cases k with
  | zero=>
   simp only [dF,U9] at ho
   subst ho
   intro e
   rw [e] at h
   simp at h
  | succ k=>simp only [bK] at ho; exact oC h.2 k o ho
theorem nH:∀ {r:List Oper},g1t r=true->∀ (i k:Nat) (oi ok:Oper) (d:Nat),r[i]? =some oi->r[k]? =some ok->oi.dst=some d->ok.dst=some d->i=k
 | [],_,i,k,oi,ok,d,hi,_,_,_=>by simp at hi
 | x ::r,h,i,k,oi,ok,d,hi,hk,di,dk=>by
  simp only [g1t,A9] at h
  cases i with
  | zero=>
   cases k with
   | zero=>rfl
   | succ k=>
    simp only [dF,U9] at hi
    subst hi
    rw [di] at h
    simp only [o0s] at h
    simp only [bK] at hk
    exact absurd dk (oC h.1 k ok hk)
  | succ i=>
   cases k with
   | zero=>
    simp only [dF,U9] at hk
    subst hk
    rw [dk] at h
    simp only [o0s] at h
    simp only [bK] at hi
    exact absurd di (oC h.1 i oi hi)
   | succ k=>
    simp only [bK] at hi hk
    rw [nH h.2 i k oi ok d hi hk di dk]
def i0z (i:Nat) (pi:List Nat) (t:Nat):Nat->List Oper->Bool
 | _,[] =>true
 | k,o ::r=>(match o.dst with
  | some d=> !(zO0 d t) || zO0 k i || K9 k pi || K9 i (u5 o)
  | none=>true) && i0z i pi t (k+1) r
theorem uO {i:Nat} {pi:List Nat} {t:Nat} :∀ {r:List Oper} {k0:Nat},i0z i pi t k0 r=true->∀ k o,r[k]? =some o->o.dst=some t->k0+k=i∨(k0+k)∈pi∨i∈u5 o
 | [],k0,_,k,o,ho,_=>by simp at ho
 | x ::r,k0,h,k,o,ho,hd=>by
  simp only [i0z,A9] at h
  cases k with
  | zero=>
   simp only [dF,U9] at ho
   subst ho
   rw [hd] at h
   simp only [f0e,Bool.not_true,Bool.false_or,xX,B7,memN_iff] at h
   rcases h.1 with (h1 | h1) | h1
   ·exact .inl h1
   ·exact .inr (.inl h1)
   ·exact .inr (.inr h1)
  | succ k=>
   simp only [bK] at ho
   have:=uO h.2 k o ho hd
   rw [show k0+(k+1)=k0+1+k by omega]
   exact this
def d0t (hd:List Oper) (i:Nat) (pi:List Nat):List Nat->Bool
 | [] =>true
 | t ::r=>i0z i pi t 0 hd && d0t hd i pi r
theorem oZ {hd:List Oper} {i:Nat} {pi:List Nat} :∀ {l:List Nat},d0t hd i pi l=true->∀ t∈l,i0z i pi t 0 hd=true
 | [],_,t,ht=>by cases ht
 | x ::r,h,t,ht=>by
  simp only [d0t,A9] at h
  rcases zzA86.1 ht with rfl | ht
  ·exact h.1
  ·exact oZ h.2 t ht
def wW (os hd:List Oper):Nat->List Oper->Bool
 | _,[] =>true
 | i,o ::r=>d0t hd i (u5 o) (looks os o) && wW os hd (i+1) r
theorem cM {os hd:List Oper} :∀ {r:List Oper} {i0:Nat},wW os hd i0 r=true->∀ i o,r[i]? =some o->∀ t∈looks os o,∀ k ok,hd[k]? =some ok->ok.dst=some t->k=i0+i∨k∈u5 o∨(i0+i)∈u5 ok
 | [],i0,_,i,o,ho=>by simp at ho
 | x ::r,i0,h,i,o,ho=>by
  simp only [wW,A9] at h
  cases i with
  | zero=>
   simp only [dF,U9] at ho
   subst ho
   intro t ht k ok hk hd
   have:=uO (oZ h.1 t ht) k ok hk hd
   simpa using this
  | succ i=>
   simp only [bK] at ho
   intro t ht k ok hk hd
   have:=cM h.2 i o ho t ht k ok hk hd
   rw [show i0+(i+1)=i0+1+i by omega]
   exact this
def fH (i:Nat):List Oper->Bool
 | [] =>false
 | o ::r=>K9 i (u5 o) || fH i r
theorem kT {i:Nat} :∀ {r:List Oper},fH i r=true->∃ (k:Nat) (o:Oper),r[k]? =some o∧i∈u5 o
 | [],h=>by simp [fH] at h
 | x ::r,h=>by
  simp only [fH,xX,memN_iff] at h
  rcases h with h | h
  ·exact⟨0,x,by simp,h⟩
  ·obtain⟨k,o,h1,h2⟩:=kT h
   exact⟨k+1,o,by simpa using h1,h2⟩
def mA (hd:List Oper):Nat->Bool
 | 0=>true
 | i+1=>fH i hd && mA hd i
theorem kL {hd:List Oper} :∀ {m:Nat},mA hd m=true->∀ i < m,fH i hd=true
 | 0,_,i,hi=>by omega
 | m+1,h,i,hi=>by
  simp only [mA,A9] at h
  by_cases e:i=m
  ·subst e; exact h.1
  ·exact kL h.2 i (by omega)
def dJ:Nat->List Oper->Bool
 | _,[] =>true
 | t,o ::r=>K9 (t-1) (u5 o) && dJ (t+1) r
theorem X2:∀ {r:List Oper} {t:Nat},dJ t r=true->∀ k o,r[k]? =some o->(t+k-1)∈u5 o
 | [],t,_,k,o,ho=>by simp at ho
 | x ::r,t,h,k,o,ho=>by
  simp only [dJ,A9,memN_iff] at h
  cases k with
  | zero=>simp only [dF,U9] at ho; subst ho; exact h.1
  | succ k=>
   simp only [bK] at ho
   rw [show t+(k+1)-1=t+1+k-1 by omega]
   exact X2 h.2 k o ho
def m1a (os:List Oper) (m:Nat):Bool:=
 Nat.ble m os.length && vE 0 os && g1t (os.take m) && wW os (os.take m) 0 (os.take m) &&
 (zO0 m os.length || (mA (os.take (m+1)) m && dJ (m+1) (os.drop (m+1))))
structure Draws (os:List Oper) (m:Nat):Prop where
 le:m<=os.length
 fwd:∀ i o,os[i]? =some o->∀ e∈u5 o,e < i
 dup:∀ i k oi ok d,i < m->k < m->os[i]? =some oi->os[k]? =some ok->oi.dst=some d->ok.dst=some d->i=k
 slot:∀ i o,i < m->os[i]? =some o->∀ t∈looks os o,∀ k ok,k < m->os[k]? =some ok->ok.dst=some t->k=i∨k∈u5 o∨i∈u5 ok
 sink:m < os.length->∀ i < m,∃ j o,i < j∧j<=m∧os[j]? =some o∧i∈u5 o
 chain:∀ t o,m < t->os[t]? =some o->(t-1)∈u5 o
theorem O3 {os:List Oper} {m i:Nat} (h:i < m):(os.take m)[i]? =os[i]? :=by
 rw [T6,f9 h]
theorem m0z {os:List Oper} {m:Nat} (h:m1a os m=true):Draws os m:=by
 simp only [m1a,A9,xX,V1,B7] at h
 obtain⟨⟨⟨⟨h1,h2⟩,h3⟩,h4⟩,h5⟩:=h
 have fwd:∀ i o,os[i]? =some o->∀ e∈u5 o,e < i:=fun i o ho e he=>by
  have:=cW h2 i o ho e he
  omega
 refine⟨h1,fwd,fun i k oi ok d hi hk hoi hok di dk=> ?_,fun i o hi ho t ht k ok hk hok hd=> ?_,fun hlt i hi=> ?_,fun t o ht ho=> ?_⟩
 ·exact nH h3 i k oi ok d ((O3 hi).trans hoi) ((O3 hk).trans hok) di dk
 ·have:=cM h4 i o ((O3 hi).trans ho) t ht k ok ((O3 hk).trans hok) hd
  simpa using this
 ·rcases h5 with h5 | h5
  ·omega
  ·obtain⟨k,o,hk,hin⟩:=kT (kL h5.1 i hi)
   have hkm:k < m+1:=by
    rcases J4 k (m+1) with h | h
    ·exact h
    ·rw [T6,a7 (by omega)] at hk; cases hk
   rw [O3 hkm] at hk
   exact⟨k,o,fwd k o hk i hin,by omega,hk,hin⟩
 ·rcases h5 with h5 | h5
  ·have:t < os.length:=(zzA1.1 ho).1
   omega
  ·have:=X2 h5.2 (t- (m+1)) o (by rw [W3]; rw [show m+1+(t- (m+1))=t by omega]; exact ho)
   rw [show m+1+(t- (m+1))-1=t-1 by omega] at this
   exact this
theorem l0s {X:Cx} {os:List Oper} {o:Oper} {s s':St} {kv kv':KV} (h:X7 X true os o s kv=some (s',kv')):s'.heap=s.heap∧s'.nid=s.nid∧s'.ds=s.ds:=by
 rw [F8,F4] at h
 split at h
 ·cases h
 ·rename_i tmps' kv1 tv r he
  cases h
  split at he
  ·cases he
  ·cases he; exact⟨rfl,rfl,rfl⟩
  ·split at he
   ·cases he
   ·rename_i r0 hb
    cases he
    rcases K2 hb with ⟨r1,hb1,e⟩ | ⟨hq,_⟩
    ·subst e
     exact P5 (by simpa using hb1)
    ·cases hq
theorem wR {X:Cx} {m:Nat} {os:List Oper} {s0:St} :∀ {i:Nat} {s:St} {kv:KV},i<=m->evN X m os s0 i=some (s,kv)->s.heap=s0.heap∧s.nid=s0.nid∧s.ds=s0.ds
 | 0,s,kv,_,h=>by simp only [evN] at h; cases h; exact⟨rfl,rfl,rfl⟩
 | i+1,s,kv,hi,h=>by
  obtain⟨s1,k1,o,h1,_,h2⟩:=O1 h
  obtain⟨e1,e2,e3⟩:=wR (by omega) h1
  rw [show zO1 i m=true by simp [Nat.blt_eq]; omega] at h2
  obtain⟨g1,g2,g3⟩:=l0s h2
  exact⟨g1.trans e1,g2.trans e2,g3.trans e3⟩
theorem aH {X:Cx} {m:Nat} {os:List Oper} {s0:St} :∀ {i:Nat} {s:St} {kv:KV},evN X m os s0 i=some (s,kv)->(∃ O,KVok kv O)∧s.tmps.length=s0.tmps.length
 | 0,s,kv,h=>by simp only [evN] at h; cases h; exact⟨⟨fun _=>false,fun p hp=>by cases hp⟩,rfl⟩
 | i+1,s,kv,h=>by
  obtain⟨s1,k1,o,h1,_,h2⟩:=O1 h
  obtain⟨e1,e2⟩:=aH h1
  rw [F8] at h2
  split at h2
  ·cases h2
  ·rename_i he
   cases h2
   obtain⟨g1,_,g3⟩:=aE he e1
   exact⟨g1,by rw [gY]; omega⟩
theorem c0q {X:Cx} {m:Nat} {os:List Oper} {s0:St} {O:Nat->Bool} :∀ {j i:Nat} {si sj:St} {ki kj:KV},i<=j->evN X m os s0 i=some (si,ki)->evN X m os s0 j=some (sj,kj)->KVok kj O->KVok ki O
 | 0,i,si,sj,ki,kj,hij,h1,h2,hk=>by
  obtain rfl:i=0:=by omega
  rw [h1] at h2; cases h2; exact hk
 | j+1,i,si,sj,ki,kj,hij,h1,h2,hk=>by
  by_cases e:i=j+1
  ·subst e; rw [h1] at h2; cases h2; exact hk
  ·obtain⟨s,kv,o,hs,_,ho⟩:=O1 h2
   rw [F8] at ho
   split at ho
   ·cases ho
   ·rename_i he
    cases ho
    exact c0q (by omega) h1 hs ((aE he (aH hs).1).2.1 O hk)
theorem O5 {auto:Bool} {os:List Oper} {o:Oper} {tmps tmps':List TV} {kv kv':KV} {sk:Bool} {conds:List (Nat×Bool)} (h:N4 auto os o tmps kv=some (sk,tmps',kv',conds))
  {E:Num} {O:Nat->Bool} (hk:KVok kv' O) (t:Nat) (r:Value):M0 E O (D5 tmps t) r↔M0 E O (D5 tmps' t) r:=by
 unfold N4 at h
 simp only [A0] at h
 split at h
 ·cases h; exact Z4
 ·rename_i j want hg
  split at h
  case h_1=>cases h
  rename_i d hd
  split at h
  ·rename_i x hx
   split at h
   ·split at h
    ·split at h <;> (cases h; exact Z4)
    ·cases h; exact Z4
    ·cases h
   ·split at h
    ·rename_i b
     split at h
     case h_2=>cases h
     cases h
     obtain⟨hj,hkv⟩:=hk.cons
     by_cases hdt:d=t
     ·subst hdt
      by_cases hlen:d < tmps.length
      ·rw [O0 _ _ _ _ hlen,f9 rfl,hx]
       constructor
       ·intro ht; exact⟨hj,fun _=>by simpa [M0,rv] using ht,fun hn=>absurd (mI O) hn⟩
       ·intro ht; have:=ht.2.1 (mI O); simpa [M0,rv] using this
      ·rw [fY (by omega)]
     ·by_cases hlen:d < tmps.length
      ·rw [O0 _ _ _ _ hlen,a7 hdt]
      ·rw [fY (by omega)]
    ·cases h
  ·rename_i l x hx
   split at h
   case h_2=>cases h
   rename_i b
   split at h
   case h_2=>cases h
   cases h
   obtain⟨hj,hkv⟩:=hk.cons
   by_cases hdt:d=t
   ·subst hdt
    by_cases hlen:d < tmps.length
    ·rw [O0 _ _ _ _ hlen,f9 rfl,hx]
     simp only [M0,rv]
     constructor
     ·intro ht; exact⟨hj,ht.1,ht.2⟩
     ·intro ht; exact⟨ht.2.1,ht.2.2⟩
    ·rw [fY (by omega)]
   ·by_cases hlen:d < tmps.length
    ·rw [O0 _ _ _ _ hlen,a7 hdt]
    ·rw [fY (by omega)]
  ·split at h
   ·cases h; exact Z4
   ·cases h
  ·cases h
theorem o0f {X:Cx} {q:Bool} {os:List Oper} {o:Oper} {s s':St} {kv kv':KV} (h:X7 X q os o s kv=some (s',kv')) {E:Num} {O:Nat->Bool} (hk:KVok kv' O) {t:Nat} (ht:o.dst≠some t) (r:Value):
  M0 E O (D5 s.tmps t) r↔M0 E O (D5 s'.tmps t) r:=by
 rw [F8] at h
 split at h
 ·cases h
 ·rename_i tmps' kv1 tv r0 he
  cases h
  show _↔M0 E O (D5 (a1l tmps' o.dst tv) t) r
  rw [aA,a7 (fun hh=>ht hh.1)]
  rw [F4] at he
  split at he
  ·cases he
  ·rename_i hg; cases he; exact O5 hg hk t r
  ·rename_i hg
   split at he
   ·cases he
   ·cases he; exact O5 hg hk t r
theorem kE {X:Cx} {m:Nat} {os:List Oper} {s0:St} {E:Num} {O:Nat->Bool} {t:Nat} {r:Value} :∀ {j i:Nat} {si sj:St} {ki kj:KV},i<=j->evN X m os s0 i=some (si,ki)->evN X m os s0 j=some (sj,kj)->KVok kj O->
  (∀ k o,i<=k->k < j->os[k]? =some o->o.dst≠some t)->(M0 E O (D5 si.tmps t) r↔M0 E O (D5 sj.tmps t) r)
 | 0,i,si,sj,ki,kj,hij,h1,h2,_,_=>by
  obtain rfl:i=0:=by omega
  rw [h1] at h2; cases h2; exact Z4
 | j+1,i,si,sj,ki,kj,hij,h1,h2,hk,hw=>by
  by_cases e:i=j+1
  ·subst e; rw [h1] at h2; cases h2; exact Z4
  ·obtain⟨s,kv,o,hs,hoj,ho⟩:=O1 h2
   have hkv:KVok kv O:=c0q (by omega) hs h2 hk
   exact (kE (by omega) h1 hs hkv (fun k o' hk1 hk2=>hw k o' hk1 (by omega))).trans (o0f ho hk (hw j o (by omega) (by omega) hoj) r)
def Lst (listed:Array Bool) (i:Nat):Prop:=listed.getD i false=true
theorem v1k {listed:Array Bool} {i:Nat} :listed.getD i true=false↔i < listed.size∧¬ Lst listed i:=by
 unfold Lst
 rcases J4 i listed.size with h | h
 ·simp [h]
 ·simp [Array.getElem?_eq_none h]; omega
theorem A6 {listed:Array Bool} {i j:Nat} (hi:i < listed.size):Lst (listed.setIfInBounds i true) j↔j=i∨Lst listed j:=by
 unfold Lst
 by_cases h:i=j
 ·subst h; simp [hi]
 ·rw [getD_set_ne false h]
  constructor
  ·exact .inr
  ·rintro (rfl | h')
   ·exact absurd rfl h
   ·exact h'
theorem ready_iff {os:List Oper} {listed:Array Bool} {j:Nat} :j∈Region.ready .any ⟨os⟩ listed↔(j < listed.size∧¬ Lst listed j)∧∃ o,os[j]? =some o∧∀ e∈u5 o,Lst listed e:=by
 rw [mem_ready,v1k]
 simp only [List.getElem?_toArray]
 constructor
 ·rintro ⟨h1,o,ho,h⟩
  refine⟨h1,o,ho,fun e he=> ?_⟩
  obtain⟨x,hx,hb,rfl⟩:=predsOf_iff.1 he
  exact h x hx hb
 ·rintro ⟨h1,o,ho,h⟩
  exact⟨h1,o,ho,fun e he hb=>h e.on (predsOf_iff.2 ⟨e,he,hb,rfl⟩)⟩
def unl (listed:Array Bool) (n:Nat):Nat:=(List.range n).countP fun i=> !listed.getD i false
theorem j0p {p q:Nat->Bool} {x:Nat} :∀ {l:List Nat},(∀ y,q y=true->p y=true)->x∈l->p x=true->q x=false->l.countP q < l.countP p
 | [],_,hx,_,_=>by cases hx
 | y ::l,h,hx,hp,hq=>by
  have hle:l.countP q<=l.countP p:=List.countP_mono_left (fun z _ hz=>h z hz)
  rw [List.countP_cons,List.countP_cons]
  rcases zzA86.1 hx with rfl | hx
  ·simp [hp,hq]; omega
  ·have:=j0p h hx hp hq
   by_cases hqy:q y=true
   ·simp [hqy,h y hqy]; exact this
   ·simp [hqy]; split <;> omega
theorem q0u {listed:Array Bool} {n i:Nat} (hi:i < n) (hs:listed.size=n) (hl:¬ Lst listed i):unl (listed.setIfInBounds i true) n < unl listed n:=by
 refine j0p (x:=i) (fun y hy=> ?_) (zzA124.2 hi) ?_ ?_
 ·simp only [o0s] at hy ⊢
  cases h:listed.getD y false
  ·rfl
  ·have:Lst (listed.setIfInBounds i true) y:=(A6 (by omega)).2 (.inr h)
   rw [this] at hy; cases hy
 ·simp only [o0s]
  cases h:listed.getD i false
  ·rfl
  ·exact absurd h hl
 ·have:Lst (listed.setIfInBounds i true) i:=(A6 (by omega)).2 (.inl rfl)
  rw [this]; rfl
theorem e0e {listed:Array Bool} {n i:Nat} (h:unl listed n=0) (hi:i < n):Lst listed i:=by
 unfold unl at h
 rw [List.countP_eq_zero] at h
 have:=h i (zzA124.2 hi)
 simpa [Lst] using this
structure Half (X:Cx) (J:Inv X.P) (B:Nat) (M:Nat->Prop) (w0:Bas) (os:List Oper) (m:Nat) (s0:St) (a0:Act) (E:Num) (sm:St) (km:KV) (listed:Array Bool) (a:Act) (w:World):Prop where
 size:listed.size=os.length
 closed:∀ j o,os[j]? =some o->Lst listed j->∀ e∈u5 o,Lst listed e
 late:∀ t,m<=t->¬ Lst listed t
 asize:a.tmps.size=s0.tmps.length
 defers:a.defers=w0.dfs
 base:B<=w.heap.size
 inv:J.I w
 keeps:Keeps B M w0.w w
 sim:∀ E',Agree s0.nid E E'->Sim X.P B M E' s0.heap w
 old:∀ t,(∀ k o,k < m->Lst listed k->os[k]? =some o->o.dst≠some t)->a.tmps.getD t undef=a0.tmps.getD t undef
 new:∀ k o d,k < m->Lst listed k->os[k]? =some o->o.dst=some d->∀ E',Agree s0.nid E E'->∀ O,KVok km O->M0 E' O (D5 sm.tmps d) (a.tmps.getD d undef)
theorem r1d {p:Nat->Prop} [DecidablePred p] :∀ (n:Nat),(∃ i,i < n∧p i)->∃ i,i < n∧p i∧∀ j,j < i->¬ p j
 | 0,h=>by obtain⟨i,hi,_⟩:=h; omega
 | n+1,h=>by
  by_cases hn:∃ i,i < n∧p i
  ·obtain⟨i,h1,h2,h3⟩:=r1d n hn
   exact⟨i,by omega,h2,h3⟩
  ·obtain⟨i,hi,hp⟩:=h
   have:i=n:=by
    rcases J4 i n with h | h
    ·exact absurd ⟨i,h,hp⟩ hn
    ·omega
   subst this
   exact⟨i,by omega,hp,fun j hj hpj=>hn ⟨j,hj,hpj⟩⟩
theorem u0g {X:Cx} {J:Inv X.P} {B:Nat} {M:Nat->Prop} {w0:Bas} {os:List Oper} {m:Nat} {s0:St} {a0:Act} {E:Num} {sm:St} {km:KV} (hm:evN X m os s0 m=some (sm,km))
  (h0:∀ E',Agree s0.nid E E'->∀ O t,M0 E' O (D5 s0.tmps t) (a0.tmps.getD t undef)) {listed:Array Bool} {a:Act} {w:World}
  (h:Half X J B M w0 os m s0 a0 E sm km listed a w) (hρ0:w0.n<=s0.nid∧Agree w0.n w0.E E) (hall:∀ k,k < m->Lst listed k):RepR X.P J B M w0 km sm a w:=by
 obtain⟨e1,e2,_⟩:=wR (d9 _) hm
 obtain⟨e4,e5⟩:=aH hm
 refine⟨by rw [e5]; exact h.asize,h.defers,h.base,h.inv,h.keeps,e4,E,by rw [e2]; exact hρ0,fun E' ha=> ?_⟩
 rw [e2] at ha
 rw [e1]
 refine⟨h.sim E' ha,fun O hβ t=> ?_⟩
 by_cases hw:∃ k o,k < m∧os[k]? =some o∧o.dst=some t
 ·obtain⟨k,o,hk,ho,hdst⟩:=hw
  exact h.new k o t hk (hall k hk) ho hdst E' ha O hβ
 ·have hno:∀ k o,k < m->os[k]? =some o->o.dst≠some t:=fun k o hk ho e=>hw ⟨k,o,hk,ho,e⟩
  rw [h.old t (fun k o hk _ ho=>hno k o hk ho)]
  exact (kE (s6 m) rfl hm hβ (fun k o _ hk ho=>hno k o hk ho)).1 (h0 E' ha O t)
theorem l1z {X:Cx} {J:Inv X.P} (hX:CxOk X J) {B:Nat} {M:Nat->Prop} (hp:Par X.P B M) {w0:Bas} {os:List Oper} {m:Nat} (hd:Draws os m) {s0:St} {a0:Act} {E:Num} {sm:St} {km:KV} (hm:evN X m os s0 m=some (sm,km)) (hl:l5 sm.obs)
  (h0:∀ E',Agree s0.nid E E'->∀ O t,M0 E' O (D5 s0.tmps t) (a0.tmps.getD t undef)) {listed:Array Bool} {a:Act} {w:World}
  (h:Half X J B M w0 os m s0 a0 E sm km listed a w) {i:Nat} (him:i < m) (hr:i∈Region.ready .any ⟨os⟩ listed) {rb:Option Nat} {K:Act->World->Prop} {Q:Exit->Act->World->Prop}
  (hK:∀ a' w',Half X J B M w0 os m s0 a0 E sm km (listed.setIfInBounds i true) a' w'->K a' w'):wpOpIn (Fl rb) 0 X.P ⟨os⟩ Q i K a w:=by
 obtain⟨⟨hi,hnl⟩,o,ho,hpre⟩:=ready_iff.1 hr
 obtain⟨⟨s1,k1⟩,hq1⟩:=lE (i:=i+1) (by omega) hm
 obtain⟨si,ki,o',hsi,ho',hop⟩:=O1 hq1
 rw [ho] at ho'
 cases ho'
 rw [show zO1 i m=true by simp [Nat.blt_eq]; exact him] at hop
 have hobs:=gV (by omega) hq1 hm hl
 obtain⟨e1,e2,e3⟩:=wR (by omega:i<=m) hsi
 obtain⟨_,elen⟩:=aH hsi
 rw [F8] at hop
 split at hop
 ·cases hop
 rename_i tmps' kv1 tv r he
 cases hop
 simp only [a8] at hobs
 have hsub:∀ O,KVok km O->KVok k1 O:=fun O hβ=>c0q (by omega) hq1 hm hβ
 have hsubi:∀ O,KVok km O->KVok ki O:=fun O hβ=>c0q (by omega) hsi hm hβ
 have hT:∀ E',Agree s0.nid E E'->∀ O,KVok km O->∀ t∈looks os o,M0 E' O (D5 si.tmps t) (a.tmps.getD t undef):=by
  intro E' ha O hβ t ht
  by_cases hw:∃ k ok,k < m∧Lst listed k∧os[k]? =some ok∧ok.dst=some t
  ·obtain⟨k,ok,hk,hlk,hok,hdk⟩:=hw
   have hki:k < i:=by
    rcases hd.slot i o him ho t ht k ok hk hok hdk with e | e | e
    ·subst e; exact absurd hlk hnl
    ·exact hd.fwd i o ho k e
    ·exact absurd (h.closed k ok hok hlk i e) hnl
   have:=h.new k ok t hk hlk hok hdk E' ha O hβ
   refine (kE (by omega:i<=m) hsi hm hβ (fun k2 o2 hk1 hk2 ho2 hd2=> ?_)).2 this
   have:=hd.dup k k2 ok o2 t hk hk2 hok ho2 hdk hd2
   omega
  ·have hno:∀ k ok,k < m->Lst listed k->os[k]? =some ok->ok.dst≠some t:=fun k ok hk hlk hok e=>hw ⟨k,ok,hk,hlk,hok,e⟩
   rw [h.old t hno]
   refine (kE (s6 i) rfl hsi (hsubi O hβ) (fun k ok _ hk hok hdk=> ?_)).1 (h0 E' ha O t)
   rcases hd.slot i o him ho t ht k ok (by omega) hok hdk with e | e | e
   ·omega
   ·exact hno k ok (by omega) (hpre k e) hok hdk
   ·have:=hd.fwd k ok hok i e
    omega
 refine gW hX ho he hobs.1 hp (E:=E) (Cβ:=KVok km) (aH hm).1 hsub h.base h.inv (fun E' ha=>by rw [e1]; rw [e2] at ha; exact h.sim E' ha)
  (fun E' ha O hβ t ht=>hT E' (by rw [e2] at ha; exact ha) O hβ t ht) (fun v w' ρ1 ha hn hfin hk hq=>hK _ _ ?_)
 obtain⟨g1,g2,g3,g4,g5⟩:=hq rfl
 subst g5
 have hfin':∀ E',Agree s0.nid ρ1 E'->Sim X.P B M E' s0.heap w'∧∀ O,KVok km O->M0 E' O tv v:=fun E' ha'=>by
  have:=hfin E' (by rw [g3,e2]; exact ha')
  rw [g1,e1] at this
  exact this
 have hisz:i < listed.size:=hi
 refine⟨by simpa using h.size,fun j oj hoj hlj e he'=> ?_,fun t ht hlt'=> ?_,by rw [jY]; exact h.asize,by rw [Y1]; exact h.defers,x7 h.base hk.size,J.keeps hp hk h.inv,h.keeps.trans hk,
  fun E' ha'=>(hfin' E' ha').1,fun t hno=> ?_,fun k ok d hkm hlk hok hdk E' ha' O hβ=> ?_⟩
 ·rw [A6 hisz] at hlj ⊢
  rcases hlj with rfl | hlj
  ·rw [ho] at hoj; cases hoj
   exact .inr (hpre e he')
  ·exact .inr (h.closed j oj hoj hlj e he')
 ·rw [A6 hisz] at hlt'
  rcases hlt' with rfl | hlt'
  ·omega
  ·exact h.late t ht hlt'
 ·rw [V4,a7 (fun hh=>hno i o him ((A6 hisz).2 (.inl rfl)) ho hh.1)]
  exact h.old t (fun k ok hkm hlk hok=>hno k ok hkm ((A6 hisz).2 (.inr hlk)) hok)
 ·rw [V4]
  by_cases hki:k=i
  ·subst hki
   rw [ho] at hok
   cases hok
   by_cases hds:d < a.tmps.size
   ·rw [f9 ⟨hdk,hds⟩]
    have hslot:=kE (X:=X) (m:=m) (os:=os) (s0:=s0) (E:=E') (O:=O) (t:=d) (r:=v) (by omega:k+1<=m) hq1 hm hβ (fun k2 o2 hk1 hk2 ho2 hd2=>by
     have:=hd.dup k k2 o o2 d hkm hk2 ho ho2 hdk hd2
     omega)
    rw [<- hslot]
    show M0 E' O (D5 (a1l tmps' o.dst tv) d) v
    obtain⟨_,_,hl'⟩:=aE he (aH hsi).1
    rw [aA,f9 ⟨hdk,by rw [hl',elen,<- h.asize]; exact hds⟩]
    exact (hfin' E' ha').2 O hβ
   ·
    have hnone:D5 sm.tmps d= .unk:=by
     simp only [N8]
     have e7:sm.tmps.length=s0.tmps.length:=(aH hm).2
     have e8:a.tmps.size=s0.tmps.length:=h.asize
     have e9:a.tmps.size<=d:=gD hds
     rw [e0l (by omega)]
    rw [hnone]
    trivial
  ·have hlk':Lst listed k:=by
    rcases (A6 hisz).1 hlk with e | e
    ·exact absurd e hki
    ·exact e
   have hne:o.dst≠some d:=fun e=>hki (hd.dup k i ok o d hkm him hok ho hdk e)
   rw [a7 (fun hh=>hne hh.1)]
   exact h.new k ok d hkm hlk' hok hdk E' ha' O hβ
theorem c0g {X:Cx} {J:Inv X.P} (hX:CxOk X J) {B:Nat} {M:Nat->Prop} (hp:Par X.P B M) {w0:Bas} {os:List Oper} {m:Nat} (hd:Draws os m) {s0 sn:St} {kn:KV} (hn:evN X m os s0 os.length=some (sn,kn)) (hl:l5 sn.obs)
  {rb:Option Nat} {Q:Exit->Act->World->Prop} (hQ:∀ a w,RepR X.P J B M w0 kn sn a w->Q .normal a w):
  ∀ (fuel t:Nat) (listed:Array Bool) (s:St) (kv:KV) (a:Act) (w:World),m<=t->t<=os.length->os.length<=t+fuel->listed.size=os.length->(∀ j,j < os.length->(Lst listed j↔j < t))->
   evN X m os s0 t=some (s,kv)->RepR X.P J B M w0 kv s a w->wpAnyIn (Fl rb) 0 X.P .any ⟨os⟩ Q fuel listed a w:=by
 intro fuel
 induction fuel with
 | zero=>
  intro t listed s kv a w hmt htn hf hsz hL hs hR
  obtain rfl:t=os.length:=by omega
  rw [hs] at hn
  cases hn
  refine⟨?_,hQ a w hR⟩
  cases hr:Region.ready .any ⟨os⟩ listed with
  | nil=>rfl
  | cons x xs=>
   have:x∈Region.ready .any ⟨os⟩ listed:=by rw [hr]; simp
   obtain⟨⟨h1,h2⟩,_⟩:=ready_iff.1 this
   exact absurd ((hL x (by omega)).2 (by omega)) h2
 | succ fuel ih=>
  intro t listed s kv a w hmt htn hf hsz hL hs hR
  by_cases htl:t=os.length
  ·subst htl
   rw [hs] at hn
   cases hn
   refine⟨fun _=>hQ a w hR,fun i hi=> ?_⟩
   obtain⟨⟨h1,h2⟩,_⟩:=ready_iff.1 hi
   exact absurd ((hL i (by omega)).2 (by omega)) h2
  ·have htlt:t < os.length:=by omega
   obtain⟨ot,hot⟩:∃ o,os[t]? =some o:=⟨os[t],by simp [htlt]⟩
   refine⟨fun h0=> ?_,fun i hi=> ?_⟩
   ·exfalso
    have:t∈Region.ready .any ⟨os⟩ listed:=ready_iff.2 ⟨⟨by omega,fun h=>by have:=(hL t htlt).1 h; omega⟩,ot,hot,fun e he=>by
     have:=hd.fwd t ot hot e he
     exact (hL e (by omega)).2 this⟩
    rw [h0] at this
    cases this
   ·obtain⟨⟨h1,h2⟩,o,ho,hpre⟩:=ready_iff.1 hi
    have hit:i=t:=by
     rcases Z8 i t with h | h | h
     ·exact absurd ((hL i (by omega)).2 h) h2
     ·exact h
     ·exfalso
      have:=hpre (i-1) (hd.chain i o (by omega) ho)
      have:=(hL (i-1) (by omega)).1 this
      omega
    subst hit
    obtain⟨⟨s1,k1⟩,hq1⟩:=lE (i:=i+1) (by omega) hn
    obtain⟨s',kv',o',g1,g2,g3⟩:=O1 hq1
    rw [hs] at g1
    cases g1
    exact cH hX g2 g3 (gV (by omega) hq1 hn hl) hp hR (fun a' w' hR'=>ih (i+1) _ s1 k1 a' w' (by omega) (by omega) (by omega) (by simpa using hsz) (fun j hj=>by
     rw [A6 (by omega)]
     constructor
     ·rintro (rfl | h)
      ·omega
      ·have:=(hL j hj).1 h; omega
     ·intro h
      by_cases e:j=i
      ·exact .inl e
      ·exact .inr ((hL j hj).2 (by omega))) hq1 hR')
theorem c0h {os:List Oper} {m:Nat} (hd:Draws os m) (hm:m < os.length) {listed:Array Bool} (hcl:∀ j o,os[j]? =some o->Lst listed j->∀ e∈u5 o,Lst listed e) {om:Oper} (hom:os[m]? =some om) (hpre:∀ e∈u5 om,Lst listed e):
  ∀ (g i:Nat),m-i<=g->i < m->Lst listed i:=by
 intro g
 induction g with
 | zero=>intro i h1 h2; omega
 | succ g ih=>
  intro i h1 h2
  obtain⟨j,o,hij,hjm,hoj,hin⟩:=hd.sink hm i h2
  by_cases e:j=m
  ·subst e
   rw [hom] at hoj
   cases hoj
   exact hpre i hin
  ·exact hcl j o hoj (ih j (by omega) (by omega)) i hin
theorem x0y {X:Cx} {J:Inv X.P} (hX:CxOk X J) {B:Nat} {M:Nat->Prop} (hp:Par X.P B M) {w0:Bas} {os:List Oper} {m:Nat} (hd:Draws os m) {s0 sn:St} {kn:KV} (hn:evN X m os s0 os.length=some (sn,kn)) (hl:l5 sn.obs)
  {a0:Act} {E:Num} {sm:St} {km:KV} (hm:evN X m os s0 m=some (sm,km)) (h0:∀ E',Agree s0.nid E E'->∀ O t,M0 E' O (D5 s0.tmps t) (a0.tmps.getD t undef)) (hρ0:w0.n<=s0.nid∧Agree w0.n w0.E E)
  {rb:Option Nat} {Q:Exit->Act->World->Prop} (hQ:∀ a w,RepR X.P J B M w0 kn sn a w->Q .normal a w):
  ∀ (fuel:Nat) (listed:Array Bool) (a:Act) (w:World),unl listed os.length<=fuel->Half X J B M w0 os m s0 a0 E sm km listed a w->wpAnyIn (Fl rb) 0 X.P .any ⟨os⟩ Q fuel listed a w:=by
 intro fuel
 induction fuel with
 | zero=>
  intro listed a w hf h
  have hall:∀ k,k < os.length->Lst listed k:=fun k hk=>e0e (by omega) hk
  have hmn:m=os.length:=by
   rcases J4 m os.length with hlt | hge
   ·exact absurd (hall m hlt) (h.late m (d9 _))
   ·have:=hd.le; omega
  subst hmn
  exact c0g hX hp hd hn hl hQ 0 os.length listed sm km a w (d9 _) (d9 _) (by omega) h.size (fun j hj=>⟨fun _=>hj,fun _=>hall j hj⟩) hm (u0g hm h0 h hρ0 (fun k hk=>hall k hk))
 | succ fuel ih=>
  intro listed a w hf h
  by_cases hall:∀ k,k < m->Lst listed k
  ·refine c0g hX hp hd hn hl hQ (fuel+1) m listed sm km a w (d9 _) hd.le ?_ h.size (fun j hj=>⟨fun hlj=> ?_,fun hj'=>hall j hj'⟩) hm (u0g hm h0 h hρ0 hall)
   ·have hc:(List.range os.length).countP (fun i=> !Nat.blt i m)<=unl listed os.length:=by
     refine List.countP_mono_left (fun z _ hz=> ?_)
     simp only [o0s] at hz ⊢
     cases hzl:listed.getD z false
     ·rfl
     ·exfalso
      refine h.late z ?_ hzl
      rcases J4 z m with h' | h'
      ·rw [show zO1 z m=true by simp [Nat.blt_eq]; exact h'] at hz; cases hz
      ·exact h'
    have hc2:∀ n,(List.range n).countP (fun i=> !Nat.blt i m)=n-m:=by
     intro n
     induction n with
     | zero=>simp
     | succ n ihn=>
      rw [List.range_succ,List.countP_append,ihn]
      simp only [List.countP_cons,List.countP_nil,I0,o0s]
      by_cases hnm:n < m
      ·rw [a7 (by rw [show zO1 n m=true by simp [Nat.blt_eq]; exact hnm]; simp)]; omega
      ·rw [f9 (by cases hb:zO1 n m; rfl; exact absurd (by simpa [Nat.blt_eq] using hb) hnm)]; omega
    rw [hc2] at hc
    omega
   ·rcases J4 j m with h' | h'
    ·exact h'
    ·exact absurd hlj (h.late j h')
  ·have hex:∃ k,k < m∧¬ Lst listed k:=by
    rcases Classical.em (∃ k,k < m∧¬ Lst listed k) with h' | h'
    ·exact h'
    ·exact absurd (fun k hk=>a0s fun hn=>h' ⟨k,hk,hn⟩) hall
   refine⟨fun hr0=> ?_,fun i hi=> ?_⟩
   ·exfalso
    haveI:DecidablePred fun k=>¬ Lst listed k:=fun k=>Classical.propDecidable _
    obtain⟨k,hk,hnl,hmin⟩:=r1d m hex
    obtain⟨o,ho⟩:∃ o,os[k]? =some o:=⟨os[k]'(by have:=hd.le; omega),by have:=hd.le; simp [show k < os.length by omega]⟩
    have:k∈Region.ready .any ⟨os⟩ listed:=ready_iff.2 ⟨⟨by rw [h.size]; have:=hd.le; omega,hnl⟩,o,ho,fun e he=>a0s fun hn=>hmin e (hd.fwd k o ho e he) hn⟩
    rw [hr0] at this
    cases this
   ·obtain⟨⟨h1,h2⟩,o,ho,hpre⟩:=ready_iff.1 hi
    have hin:i < os.length:=by rw [<- h.size]; exact h1
    have him:i < m:=by
     rcases Z8 i m with h' | h' | h'
     ·exact h'
     ·subst h'
      obtain⟨k,hk,hnk⟩:=hex
      exact absurd (c0h hd hin h.closed ho hpre (i-k) k (d9 _) hk) hnk
     ·exact absurd (hpre (i-1) (hd.chain i o h' ho)) (h.late (i-1) (by omega))
    refine l1z hX hp hd hm (gV hd.le hm hn hl) h0 h him hi (fun a' w' h'=>ih _ a' w' ?_ h')
    have:=q0u hin h.size h2
    omega
end
noncomputable section
abbrev Ren:=List (Nat×Nat)
def Ren.to:Ren->Nat->Nat
 | [],i=>i
 | (j,k) ::r,i=>match zO0 j i with
  | true=>k
  | false=>Ren.to r i
def b3n (A:Ren):Fn->Fn
 | .yield l=> .yield (A.to l)
 | f=>f
mutual
def rn (A:Ren):Value->Value
 | .pointer (some a)=> .pointer (some { a with block:=A.to a.block })
 | .slice (some ⟨j,off,none⟩) n c=> .slice (some ⟨A.to j,off,none⟩) n c
 | .slice (some ⟨j,off,some k⟩) n c=> .slice (some ⟨A.to j,off,some (A.to k)⟩) n c
 | .map (some r)=> .map (some (A.to r))
 | .func fn f c=> .func (b3n A fn) (rnA A f) (rnA A c)
 | .iface t v=> .iface t (rn A v)
 | .agg cs=> .agg (rnA A cs)
 | .tuple vs=> .tuple (rnA A vs)
 | .bool b=> .bool b
 | .int k n=> .int k n
 | .float k n=> .float k n
 | .complex k a b=> .complex k a b
 | .string s=> .string s
 | .pointer none=> .pointer none
 | .slice none n c=> .slice none n c
 | .map none=> .map none
 | .chan r=> .chan r
 | .nilFunc=> .nilFunc
 | .nilIface=> .nilIface
def rnA (A:Ren):Array Value->Array Value
 | ⟨l⟩=>⟨rnL A l⟩
def rnL (A:Ren):List Value->List Value
 | [] =>[]
 | v ::l=>rn A v ::rnL A l
end
theorem nW (A:Ren):∀ l:List Value,(rnL A l).length=l.length
 | [] =>by simp [rnL]
 | v ::l=>by simp [rnL,nW A l]
theorem k2g (E:Num) (A:Ren) (f:Fn):rFn E (b3n A f)=rFn (fun i=>E (A.to i)) f:=by
 cases f <;> rfl
mutual
def noE:Value->Bool
 | .chan (some _)=>false
 | .complex _ _ _=>false
 | .func _ f c=>noEA f && noEA c
 | .iface _ v=>noE v
 | .agg cs=>noEA cs
 | .tuple vs=>noEA vs
 | _=>true
def noEA:Array Value->Bool
 | ⟨l⟩=>noEL l
def noEL:List Value->Bool
 | [] =>true
 | v ::l=>noE v && noEL l
end
mutual
theorem d2o (E:Num) (A:Ren):∀ v:Value,noE v=true->rv E (rn A v)=rv (fun i=>E (A.to i)) v
 | .pointer (some a),_=>by simp [rv,rn,w8]
 | .slice (some ⟨j,off,none⟩) n c,_=>by simp [rv,rn,rSl,w8]
 | .slice (some ⟨j,off,some k⟩) n c,_=>by simp [rv,rn,rSl]
 | .map (some r),_=>by simp [rv,rn]
 | .func fn f c,h=>by simp only [noE,A9] at h; simp only [rv,rn,k2g,rvA_rn E A f h.1,rvA_rn E A c h.2]
 | .iface t v,h=>by simp only [noE] at h; simp only [rv,rn,d2o E A v h]
 | .agg cs,h=>by simp only [noE] at h; simp only [rv,rn,rvA_rn E A cs h]
 | .tuple vs,h=>by simp only [noE] at h; simp only [rv,rn,rvA_rn E A vs h]
 | .bool _,_=>by simp only [rv,rn]
 | .int _ _,_=>by simp only [rv,rn]
 | .float _ _,_=>by simp only [rv,rn]
 | .complex _ _ _,h=>by simp only [noE] at h; cases h
 | .string _,_=>by simp only [rv,rn]
 | .pointer none,_=>by simp only [rv,rn]
 | .slice none _ _,_=>by simp only [rv,rn]
 | .map none,_=>by simp only [rv,rn]
 | .chan none,_=>by simp only [rv,rn]
 | .chan (some _),h=>by simp only [noE] at h; cases h
 | .nilFunc,_=>by simp only [rv,rn]
 | .nilIface,_=>by simp only [rv,rn]
theorem rvA_rn (E:Num) (A:Ren):∀ v:Array Value,noEA v=true->rvA E (rnA A v)=rvA (fun i=>E (A.to i)) v
 | ⟨l⟩,h=>by simp only [noEA] at h; simp only [rvA,rnA,rvL_rn E A l h]
theorem rvL_rn (E:Num) (A:Ren):∀ v:List Value,noEL v=true->rvL E (rnL A v)=rvL (fun i=>E (A.to i)) v
 | [],_=>by simp only [rvL,rnL]
 | v ::l,h=>by simp only [noEL,A9] at h; simp only [rvL,rnL,d2o E A v h.1,rvL_rn E A l h.2]
end
def fL:Op->Bool
 | .alloc _=>true
 | .box _ _=>true
 | .buildSlice _ _ _=>true
 | _=>false
theorem r1a {P:Program} {auto:Bool} {ev:Operand->Option Value} {o:Oper} {n:Nat} {ds:List Bool} {r:R} (hlay:fL o.op=true) (h:o1z P auto ev o [] n ds=some r):
  ∃ ob,r.h=[(n,ob)] ∧r.obs=[] ∧r.ds=ds∧∀ H,o1z P auto ev o H n ds=some ⟨r.v,(n,ob) ::H,[],ds⟩:=by
 unfold o1z at h ⊢
 cases ho:o.op with
 | alloc t=>
  rw [ho] at h
  simp only at h ⊢
  split at h
  ·rename_i z hz; cases h; exact⟨_,rfl,rfl,rfl,fun _=>rfl⟩
  ·cases h
 | box t x=>
  rw [ho] at h
  simp only at h ⊢
  split at h
  ·rename_i z hz; cases h; exact⟨_,rfl,rfl,rfl,fun _=>rfl⟩
  ·cases h
 | buildSlice t len ps=>
  rw [ho] at h
  simp only at h ⊢
  split at h
  ·rename_i l hl
   split at h
   ·rename_i e cs hz; cases h; exact⟨_,rfl,rfl,rfl,fun _=>rfl⟩
   ·cases h
  ·cases h
 | _=>rw [ho] at hlay; cases hlay
theorem k1c {o:Oper} (h:fL o.op=true):M3 o.op=false:=by
 cases ho:o.op <;> rw [ho] at h <;> first | (cases h; done) | rfl
theorem aZ {X:Cx} {q:Bool} {o:Oper} {conds:List (Nat×Bool)} {tmps:List TV} {H:Heap} {n:Nat} {ds:List Bool} (hlay:fL o.op=true):I2 X q o conds tmps H n ds=
  match wQ X.P o with
  | false=>none
  | true=>match o1z X.P X.auto (evo tmps conds) o H n ds with
   | some r=>match q with
    | false=>some ⟨r.v,r.h,n+1,r.obs,r.ds⟩
    | true=>none
   | none=>none:=by
 have hst:=k1c hlay
 unfold I2
 cases wQ X.P o with
 | false=>rfl
 | true=>
  have hsb:s2b X.P X.auto (evo tmps conds) o.op=none:=by
   cases ho:o.op <;> rw [ho] at hlay <;> first | (cases hlay; done) | rfl
  dsimp only
  rw [hsb]
  cases ho:o.op <;> rw [ho] at hlay hst <;> first | (cases hlay; done) | (cases q <;> rfl)
theorem a0t {X:Cx} {o:Oper} {conds:List (Nat×Bool)} {tmps:List TV} {n:Nat} {ds:List Bool} {r:CR} (hlay:fL o.op=true) (h:I2 X false o conds tmps [] n ds=some r):
  ∃ ob,r.h=[(n,ob)] ∧r.ds=ds∧∀ H,I2 X false o conds tmps H n ds=some ⟨r.v,(n,ob) ::H,r.n,r.obs,r.ds⟩:=by
 rw [aZ hlay] at h
 split at h
 ·cases h
 ·rename_i hg
  split at h
  case h_2=>cases h
  rename_i r0 hr0
  cases h
  obtain⟨ob,e1,e2,e3,e4⟩:=r1a hlay hr0
  refine⟨ob,e1,e3,fun H=> ?_⟩
  rw [aZ hlay,hg]
  simp only [e4 H,e2,e3]
theorem pM {X:Cx} {o:Oper} {conds:List (Nat×Bool)} {tmps:List TV} {H:Heap} {n:Nat} {ds:List Bool} (hlay:fL o.op=true):I2 X true o conds tmps H n ds=none:=by
 rw [aZ hlay]
 split
 ·rfl
 ·split <;> rfl
theorem j0v {X:Cx} {os:List Oper} {o:Oper} {tmps tmps':List TV} {n:Nat} {ds:List Bool} {kv kv':KV} {tv:TV} {r:CR} (hlay:fL o.op=true)
  (h:bS X false os o tmps [] n ds kv=some (tmps',kv',tv,r)):r.ds=ds∧(r.h=[] ∨∃ ob,r.h=[(n,ob)])∧∀ H,bS X false os o tmps H n ds kv=some (tmps',kv',tv,⟨r.v,r.h++H,r.n,r.obs,r.ds⟩):=by
 rw [F4] at h
 split at h
 ·cases h
 ·rename_i hg
  cases h
  refine⟨rfl, .inl rfl,fun H=> ?_⟩
  rw [F4,hg]
  rfl
 ·rename_i conds hg
  split at h
  ·cases h
  ·rename_i r1 hand
   cases h
   rcases K2 hand with ⟨r0,hb,er⟩ | ⟨_,hc,_,r0,hb,er⟩
   ·subst er
    cases hc:o1l conds with
    | true=>
     rw [hc] at hb
     rw [show (false || true)=true from rfl,pM hlay] at hb
     cases hb
    | false=>
     rw [hc] at hb
     obtain⟨ob,e1,e2,e3⟩:=a0t hlay hb
     refine⟨e2, .inr ⟨ob,e1⟩,fun H=> ?_⟩
     rw [F4,hg]
     simp only [r0a,hc]
     have:=e3 H
     rw [show (false || false)=false from rfl,this]
     simp only [e1]
     rfl
   ·subst er
    obtain⟨ob,e1,e2,e3⟩:=a0t hlay hb
    refine⟨e2, .inr ⟨ob,e1⟩,fun H=> ?_⟩
    rw [F4,hg]
    simp only [r0a,hc]
    rw [show (false || true)=true from rfl,pM hlay,e3 H]
    simp only [e1]
    rfl
theorem f0n {X:Cx} {J:Inv X.P} (hX:CxOk X J) {q:Bool} {o:Oper} {conds:List (Nat×Bool)} {tmps:List TV} {H:Heap} {n:Nat} {ds:List Bool} {r:CR} (h:I2 X q o conds tmps H n ds=some r) (hq:q=true∨fL o.op=true) (hl:l5 r.obs)
  {B:Nat} {M:Nat->Prop} (_hp:Par X.P B M) {F:Num->Prop} {E:Num} (hF:F E) {O:Nat->Bool} (hc:V O conds) {a:Act} {w:World} (hB:B<=w.heap.size) (hI:J.I w)
  (hS:∀ E',F E'->Sim X.P B M E' H w) (hT:∀ E',F E'->∀ t, .tmp t∈o.op.operands.toList->M0 E' O (D5 tmps t) (a.tmps.getD t undef)) (hnew:q=false->∀ E',F E'->E' n=some w.heap.size)
  {rb:Option Nat} {K:Act->World->Prop} {Q:Exit->Act->World->Prop}
  (hK:∀ v w',(∀ E',F E'->v=rv E' r.v∧Sim X.P B M E' r.h w')->Keeps B M w w'->(q=true->Below w.heap.size w w')->K (a.put o.dst v) w'):
  o.wpIn (Fl rb) 0 X.P a w K Q:=by
 unfold I2 at h
 split at h
 case h_1=>cases h
 rename_i hglob
 have hglob':∀ x∈o.op.operands.toList,∀ g,x= .global g->g < X.P.globals.size:=by
  intro x hx g e
  subst e
  have:=zzA41.1 hglob _ hx
  simpa [Nat.blt_eq] using this
 have hev:∀ E',F E'->∀ x∈o.op.operands.toList,∀ y,evo tmps conds x=some y->a.eval x=rv E' y:=fun E' ha x hx y hy=>
  T7 (hS E' ha) hc hy (fun t e=>hT E' ha t (e ▸ hx)) (hglob' x hx)
 have still:∀ {v:Value},(∀ E',F E'->(execOp a.eval o).run X.P w= .ok (.value (rv E' v)) w)->(∀ c,o.op≠ .defer c)->r.v=v->r.h=H->o.wpIn (Fl rb) 0 X.P a w K Q:=by
  intro v h1 hnd h2 h3
  refine J5 hnd ?_
  rw [h1 E hF,qV]
  refine hK _ w (fun E' ha=>⟨?_,by rw [h3]; exact hS E' ha⟩) (Keeps.refl _ _ _) (fun _=>Z9 _ _)
  have e1:=h1 E hF
  rw [h1 E' ha] at e1
  rw [h2]
  injection e1 with e1
  injection e1 with e1
  exact e1.symm
 have hsb:s2b X.P X.auto (evo tmps conds) o.op=none:=by
  rcases hq with hq | hq
  ·subst hq
   cases hsb:s2b X.P X.auto (evo tmps conds) o.op with
   | none=>rfl
   | some eb=>rw [hsb] at h; cases h
  ·cases ho:o.op <;> rw [ho] at hq <;> first | (cases hq; done) | rfl
 rw [hsb] at h
 dsimp only at h
 split at h
 ·
  rename_i c x y ho
  split at h
  case h_1=>cases h
  rename_i hng
  simp only [A9] at hng
  split at h
  case h_2=>cases h
  rename_i v hv
  cases h
  refine still (v:=v) (fun E' ha=> ?_) (by rw [ho]; intro c hc; cases hc) rfl rfl
  have:=qM (a:=a) (hS E' ha) hc hv (fun t e=>hT E' ha t (by
   rw [ho]; simp only [zO5]
   rcases e with e | e | e <;> simp [e])) hng.1 hng.2
  simp only [execOp,ho]
  exact this
 ·
  rename_i c ho
  have hq:q=true:=by
   rcases hq with hq | hq
   ·exact hq
   ·rw [ho] at hq; cases hq
  subst hq
  split at h
  ·rename_i f hcal
   split at h
   case h_3=>cases h
   case h_2=>cases h
   rename_i fid first cap args hf hargs
   have hfm:f∈o.op.operands.toList:=by rw [ho]; simp [zO5,Call.operands,hcal]
   have ham:∀ x∈c.args.toList,x∈o.op.operands.toList:=fun x hx=>by rw [ho]; simp [zO5,Call.operands,hcal]; exact .inr (by simpa using hx)
   have hrunx:∀ E',F E'->(execOp a.eval o).run X.P w=(callFunc fid ⟨rvL E' (first++args++cap)⟩).run X.P w:=by
    intro E' ha
    have e1:=hev E' ha f hfm _ hf
    have e2:=z7 (a:=a.eval) (E:=E') c.args.toList args (fun x hx y hy=>hev E' ha x (ham x hx) y hy) hargs
    have e3:c.args.map a.eval=⟨rvL E' args⟩:=by apply gZ; simpa using e2
    simp only [execOp,ho,resolve,hcal,e1,e3,rv,rvA,rFn,Deferred.ofValue,pure_bind,invoke]
    have e4:((⟨rvL E' first⟩:Array Value)++(⟨rvL E' args⟩:Array Value)++(⟨rvL E' cap⟩:Array Value))=⟨rvL E' (first++args++cap)⟩:=by
     simp [o9]
    rw [e4]
   have hrun:∀ E',F E'->Enters X.P fid->(execOp a.eval o).run X.P w= .ok (.enter fid ⟨rvL E' (first++args++cap)⟩) w:=by
    intro E' ha hent
    rw [hrunx E' ha]
    exact hent _ _
   split at h
   case h_2=>cases h
   rename_i v l hpc
   cases h
   obtain⟨hpl,hpv,⟨hent,hcalls⟩ | hext⟩:=hX.pc _ _ _ _ hpc hl
   ·refine J5 (by rw [ho]; intro c hc; cases hc) ?_
    rw [hrun E hF hent,Oper.uponIn_enter,rvL_pure E _ hpl]
    refine⟨fun h=>(by cases h),nI ((hcalls w hI).mono fun e w' ⟨he,hb⟩=> ?_)⟩
    subst he
    refine hK v w' (fun E' ha=>⟨(D0 E' v hpv).symm,(hS E' ha).below hb⟩) (u3 hb hB) (fun _=>hb)
   ·refine J5 (by rw [ho]; intro c hc; cases hc) ?_
    rw [hrunx E hF,rvL_pure E _ hpl,hext w hI,qV]
    exact hK v w (fun E' ha=>⟨(D0 E' v hpv).symm,hS E' ha⟩) (Keeps.refl _ _ _) (fun _=>Z9 _ _)
  ·rename_i b hcal
   split at h
   case h_2=>cases h
   rename_i args hargs
   split at h
   ·cases h
   split at h
   ·cases h
   have ham:∀ x∈c.args.toList,x∈o.op.operands.toList:=fun x hx=>by rw [ho]; simp [zO5,Call.operands,hcal]; simpa using hx
   have e3:∀ E',F E'->c.args.map a.eval=⟨rvL E' args⟩:=fun E' ha=>by
    have e2:=z7 (a:=a.eval) (E:=E') c.args.toList args (fun x hx y hy=>hev E' ha x (ham x hx) y hy) hargs
    apply gZ; simpa using e2
   split at h
   ·rename_i v hv
    cases h
    refine still (v:=v) (fun E' ha=> ?_) (by rw [ho]; intro c hc; cases hc) rfl rfl
    simp only [execOp,ho,resolve,hcal,e3 E' ha,pure_bind,invoke]
    exact dP hv E' w _ _
   ·split at h
    case h_2=>cases h
    rename_i v hv
    cases h
    refine still (v:=v) (fun E' ha=> ?_) (by rw [ho]; intro c hc; cases hc) rfl rfl
    simp only [execOp,ho,resolve,hcal,e3 E' ha,pure_bind,invoke]
    exact oX (hS E' ha) hv _ _ _
  ·cases h
 ·
  split at h
  case h_2=>cases h
  rename_i r0 hr0
  have hrr:r.v=r0.v∧r.h=r0.h∧r.obs=r0.obs∧(q=true->M3 o.op=true):=by
   split at h
   ·rename_i hst
    cases h
    refine⟨rfl,?_,rfl,fun _=>hst⟩
    have:=eZ (a:=a.eval) (hS E hF) hB (fun hs=>by rw [hst] at hs; cases hs) (fun x hx y hy=>hev E hF x hx y hy) hr0 hl
    obtain⟨_,_,_,_,_,_,h5⟩:=this
    exact (h5 hst).1.symm
   ·split at h
    ·cases h; exact⟨rfl,rfl,rfl,fun h=>by cases h⟩
    ·cases h
  obtain⟨e1,e2,e3,e4⟩:=hrr
  rw [e3] at hl
  have each:∀ E',F E'->_:=fun E' ha=>
   eZ (a:=a.eval) (hS E' ha) hB (fun hs=>by
    cases q with
    | true=>rw [e4 rfl] at hs; cases hs
    | false=>exact hnew rfl E' ha) (fun x hx y hy=>hev E' ha x hx y hy) hr0 hl
  obtain⟨nx,w',h1,h2,h3,h4,h5⟩:=each E hF
  have all:∀ E',F E'->oJ nx (rv E' r0.v)∧Sim X.P B M E' r0.h w':=by
   intro E' ha
   obtain⟨nx2,w2,g1,g2,g3,_⟩:=each E' ha
   rw [h1] at g1
   cases g1
   exact⟨g2,g3⟩
  refine J5 (dH hr0) ?_
  rw [e1,e2] at hK
  have hbel:q=true->Below w.heap.size w w':=fun hq'=>by rw [(h5 (e4 hq')).2.2]; exact Z9 _ _
  rcases h2 with hnx | ⟨hnx,hu⟩
  ·rw [h1,hnx,qV]
   refine hK _ w' (fun E' ha=>⟨?_,(all E' ha).2⟩) h4 hbel
   rcases (all E' ha).1 with e | ⟨e,_⟩
   ·rw [hnx] at e; injection e
   ·rw [hnx] at e; cases e
  ·rw [h1,hnx,Oper.uponIn_skip]
   refine hK _ w' (fun E' ha=>⟨?_,(all E' ha).2⟩) h4 hbel
   rcases (all E' ha).1 with e | ⟨_,e⟩
   ·rw [hnx] at e; cases e
   ·exact e.symm
theorem cY {X:Cx} {J:Inv X.P} (hX:CxOk X J) {q:Bool} {os:List Oper} {i:Nat} {o:Oper} (hi:os[i]? =some o) {tmps tmps':List TV} {H:Heap} {n:Nat} {ds:List Bool} {kv kv':KV} {tv:TV} {r:CR}
  (h:bS X q os o tmps H n ds kv=some (tmps',kv',tv,r)) (hq:q=true∨fL o.op=true) (hl:l5 r.obs)
  {B:Nat} {M:Nat->Prop} (hp:Par X.P B M) {F:Num->Prop} {E:Num} (hF:F E) {Cβ:(Nat->Bool)->Prop} (hne:∃ O,Cβ O) (hCβ:∀ O,Cβ O->KVok kv' O) {a:Act} {w:World} (hB:B<=w.heap.size) (hI:J.I w)
  (hS:∀ E',F E'->Sim X.P B M E' H w) (hT:∀ E',F E'->∀ O,Cβ O->∀ t∈looks os o,M0 E' O (D5 tmps t) (a.tmps.getD t undef)) (hnew:q=false->∀ E',F E'->E' n=some w.heap.size)
  {rb:Option Nat} {K:Act->World->Prop} {Q:Exit->Act->World->Prop}
  (hK:∀ v w',(∀ E',F E'->Sim X.P B M E' r.h w'∧∀ O,Cβ O->M0 E' O tv v)->Keeps B M w w'->(q=true->Below w.heap.size w w')->K (a.put o.dst v) w'):
  wpOpIn (Fl rb) 0 X.P ⟨os⟩ Q i K a w:=by
 have hoi:(⟨os⟩:Array Oper)[i]? =some o:=by simpa using hi
 unfold wpOpIn
 rw [hoi]
 simp only []
 obtain⟨β0,hβ0⟩:=hne
 rw [F4] at h
 split at h
 ·cases h
 ·
  rename_i tmps1 kv1 conds1 hg
  cases h
  have g:=F3 hg (hCβ β0 hβ0) (fun t ht _=>hT E hF β0 hβ0 t ht)
  rw [a7 (by rw [g.2.1 rfl]; simp)]
  refine⟨lI,?_⟩
  exact hK undef w (fun E' ha=>⟨hS E' ha,fun O _=>(fA E').symm⟩) (Keeps.refl _ _ _) (fun _=>Z9 _ _)
 ·rename_i tmps1 kv1 conds hg
  split at h
  ·cases h
  ·rename_i r1 hand
   cases h
   have g:∀ E',F E'->∀ O,Cβ O->_:=fun E' ha O hβ=>F3 hg (hCβ O hβ) (fun t ht _=>hT E' ha O hβ t ht)
   have hw:∀ O,Cβ O->(Region.wanted o (yielded ⟨os⟩ a.tmps)=true↔V O conds):=fun O hβ=>(g E hF O hβ).2.2.1 rfl
   have run:∀ (q':Bool) (r0:CR),(q'=true∨fL o.op=true)->(q=true->q'=true)->(q'=false->q=false)->r.v=r0.v->r.h=r0.h->I2 X q' o conds tmps' H n ds=some r0->l5 r0.obs->V β0 conds->
     (if Region.wanted o (yielded ⟨os⟩ a.tmps)=true then o.wpIn (Fl rb) 0 X.P a w K Q else (∀ f,o.about X.P w a.eval=some f->(Fl rb).fn f)∧K (a.put o.dst undef) w):=by
    intro q' r0 hqq hq1 hq2 e1 e2 hb hl0 hV
    have hwt:=(hw β0 hβ0).2 hV
    rw [f9 hwt]
    refine f0n hX hb hqq hl0 hp hF (O:=β0) hV hB hI hS (fun E' ha t ht=> ?_) (fun h=>hnew (hq2 h)) (fun v w' hfin hk hbl=> ?_)
    ·exact ((g E' ha β0 hβ0).2.2.2 t _).1 (hT E' ha β0 hβ0 t (S4 ht))
    ·refine hK v w' (fun E' ha'=> ?_) hk (fun hq'=>hbl (hq1 hq'))
     rw [e2,e1]
     refine⟨(hfin E' ha').2,fun O hβ=> ?_⟩
     have hVβ:=(hw O hβ).1 hwt
     unfold p1e
     split
     ·exact (hfin E' ha').1
     ·exact⟨fun _=>(hfin E' ha').1,fun hn=>absurd hVβ hn⟩
   rcases K2 hand with ⟨r0,hb,er⟩ | ⟨hq0,hc,_,r0,hb,er⟩
   ·subst er
    by_cases hV:V β0 conds
    ·exact run _ r0 (by rcases hq with hq | hq; exact .inl (by simp [hq]); exact .inr hq) (fun h=>by simp [h]) (fun h=>by cases q <;> simp_all) rfl rfl hb (kS (hCβ β0 hβ0) hV hl) hV
    ·have hwt:Region.wanted o (yielded ⟨os⟩ a.tmps)=false:=by
      cases hw':Region.wanted o (yielded ⟨os⟩ a.tmps)
      ·rfl
      ·exact absurd ((hw β0 hβ0).1 hw') hV
     have hcne:conds≠[] :=fun e=>by subst e; exact hV (mI _)
     have hq1:(q || o1l conds)=true:=by
      cases conds with
      | nil=>exact absurd rfl hcne
      | cons _ _=>simp [o1l]
     rw [hq1] at hb
     obtain⟨e1,e2,e3⟩:=P5 hb
     rw [a7 (by rw [hwt]; simp)]
     refine⟨lI,?_⟩
     refine hK undef w (fun E' ha=>⟨?_,fun O hβ=> ?_⟩) (Keeps.refl _ _ _) (fun _=>Z9 _ _)
     ·show Sim X.P B M E' r0.h w
      rw [e1]
      exact hS E' ha
     ·unfold p1e
      split
      ·exact absurd rfl hcne
      ·refine⟨fun hv=> ?_,fun _=>rfl⟩
       have:=(hw O hβ).2 hv
       rw [hwt] at this
       cases this
   ·subst er
    have hlay:fL o.op=true:=hq.elim (fun h=>by rw [hq0] at h; cases h) id
    exact run false r0 (.inr hlay) (fun h=>by rw [hq0] at h; cases h) (fun _=>hq0) rfl rfl hb hl.2 (sF (hCβ β0 hβ0) hl.1)
mutual
def e2x:Value->List Nat->List Nat
 | .pointer (some a),l=>a.block ::l
 | .slice (some a) _ _,l=>a.block ::l
 | .map (some r),l=>r ::l
 | .func _ f c,l=>numsA f (numsA c l)
 | .iface _ v,l=>e2x v l
 | .agg cs,l=>numsA cs l
 | .tuple vs,l=>numsA vs l
 | _,l=>l
def numsA:Array Value->List Nat->List Nat
 | ⟨x⟩,l=>numsL x l
def numsL:List Value->List Nat->List Nat
 | [],l=>l
 | v ::r,l=>e2x v (numsL r l)
end
def u2o:AObj->List Nat->List Nat
 | .cells cs _,l=>numsL cs l
 | .row _ _ (.vals xs) _,l=>numsL xs l
 | .ro xs,l=>numsL xs l
 | _,l=>l
def a0o (H:Heap):Nat->List Nat->List Nat->List Nat
 | 0,_,acc=>acc
 | f+1,work,acc=>match work with
  | [] =>acc
  | x ::r=>match K9 x acc with
   | true=>a0o H f r acc
   | false=>match H.get x with
    | some o=>a0o H f (u2o o r) (x ::acc)
    | none=>a0o H f r acc
def y1r (H:Heap):List Nat->Heap
 | [] =>[]
 | j ::r=>match H.get j with
  | some o=>match roO o with
   | some o'=>(j,o') ::y1r H r
   | none=>y1r H r
  | none=>y1r H r
theorem lP {H:Heap} :∀ {l:List Nat} {j:Nat} {o':AObj},(y1r H l).get j=some o'->∃ o,H.get j=some o∧roO o=some o'
 | [],j,o',h=>by simp [y1r,Heap.get] at h
 | i ::r,j,o',h=>by
  unfold y1r at h
  split at h
  ·rename_i o ho
   split at h
   ·rename_i o2 hr
    rw [b6] at h
    split at h
    ·rename_i e; subst e; cases h; exact⟨o,ho,hr⟩
    ·exact lP h
   ·exact lP h
  ·exact lP h
def b1l (p:Nat->Bool):Heap->Bool
 | [] =>true
 | (j,o) ::r=>p j && t2j p o && b1l p r
theorem cO {p:Nat->Bool} :∀ {H:Heap} {j:Nat} {o:AObj},b1l p H=true->H.get j=some o->p j=true∧t2j p o=true
 | [],j,o,_,h=>by simp [Heap.get] at h
 | (i,q) ::r,j,o,hp,h=>by
  simp only [b1l,A9] at hp
  rw [b6] at h
  split at h
  ·rename_i e; subst e; cases h; exact hp.1
  ·exact cO hp.2 h
def r0c (n n':Nat):Heap->Heap
 | [] =>[]
 | (j,o) ::r=>match Nat.ble n j && zO1 j n' with
  | true=>(j,o) ::r0c n n' r
  | false=>r0c n n' r
theorem U4 {n n':Nat} :∀ {H:Heap} {j:Nat} {o:AObj},(r0c n n' H).get j=some o->H.get j=some o∧n<=j∧j < n'
 | [],j,o,h=>by simp [r0c,Heap.get] at h
 | (i,q) ::r,j,o,h=>by
  unfold r0c at h
  rw [b6]
  split at h
  ·rename_i hb
   simp only [A9,V1,G1] at hb
   rw [b6] at h
   split at h
   ·rename_i e; subst e; rw [f9 rfl]; exact⟨h,hb⟩
   ·rename_i e; rw [a7 e]; exact U4 h
  ·rename_i hb
   obtain⟨h1,h2,h3⟩:=U4 h
   refine⟨?_,h2,h3⟩
   rw [a7 (fun e=>by
    subst e
    have:(Nat.ble n i && zO1 i n')=true:=by simp [Nat.blt_eq,h2]; exact h3
    rw [this] at hb; cases hb)]
   exact h1
def u1c:Heap->Bool
 | [] =>true
 | (_,o) ::r=>o.rw && u1c r
theorem l0u:∀ {H:Heap} {j:Nat} {o:AObj},u1c H=true->H.get j=some o->o.rw=true
 | [],j,o,_,h=>by simp [Heap.get] at h
 | (i,q) ::r,j,o,hp,h=>by
  simp only [u1c,A9] at hp
  rw [b6] at h
  split at h
  ·cases h; exact hp.1
  ·exact l0u hp.2 h
theorem z6 (h H:Heap) (j:Nat):Heap.get (h++H) j=match Heap.get h j with
  | some o=>some o
  | none=>Heap.get H j:=by
 induction h with
 | nil=>rfl
 | cons x r ih=>
  obtain⟨i,o⟩:=x
  rw [k0k,b6,b6]
  by_cases e:i=j
  ·rw [f9 e,f9 e]
  ·rw [a7 e,a7 e,ih]
def p1q (p:Nat->Bool) (n n' j:Nat):Bool:=p j || (Nat.ble n j && zO1 j n')
def nS (X:Cx) (o:Oper) (conds:List (Nat×Bool)) (tmps:List TV) (H:Heap) (p:Nat->Bool) (n:Nat):Option (Value×Heap×Nat×List Prop):=
 match wQ X.P o && Nat.ble X.P.globals.size n with
 | false=>none
 | true=>match o.op with
  | .call c=>match c.callee with
   | .value f=>match evo tmps conds f,fX (evo tmps conds) c.args.toList with
    | some (.func (.func fid) ⟨first⟩ ⟨cap⟩),some args=>match y1r H (a0o H 400 (numsL (first++args++cap) []) []) with
     | V=>match allL p (first++args++cap) && b1l p V with
      | false=>none
      | true=>match X.call fid (first++args++cap) (V++X.J.tabs) n [] with
       | none=>none
       | some ⟨v,h,n',obs,_⟩=>match r0c n n' h with
        | fr=>match Nat.ble n n' && (s0u (p1q p n n') v && b1l (p1q p n n') fr && u1c fr) with
         | true=>some (v,fr,n',obs)
         | false=>none
    | _,_=>none
   | _=>none
  | _=>none
theorem ORep.owned {B:Nat} {M:Nat->Prop} {B':Nat} {E:Num} {w:World} {ob:Option Nat} {o:AObj} (h:ORep B' (fun _=>False) E w ob o) (hle:B<=B') (hrw:o.rw=true):ORep B M E w ob o∧∀ b,ob=some b->B'<=b:=by
 cases o with
 | row e sz r k=>
  rcases h with h | ⟨b,cap,cur,h1,h2,h3,h4,h5⟩
  ·exact⟨.inl h,fun b hb=>by rw [h.1] at hb; cases hb⟩
  ·have h4:B'<=b:=h4.elim id False.elim
   exact⟨.inr ⟨b,cap,cur,h1,h2,h3, .inl (x7 hle h4),h5⟩,fun b' hb=>by rw [h1] at hb; cases hb; exact h4⟩
 | cells cs t=>
  obtain⟨b,h1,h2,h3⟩:=h
  have h3:B'<=b:=h3.elim id False.elim
  exact⟨⟨b,h1,h2, .inl (x7 hle h3)⟩,fun b' hb=>by rw [h1] at hb; cases hb; exact h3⟩
 | iter s p=>
  obtain⟨b,h1,h2,h3⟩:=h
  have h3:B'<=b:=h3.elim id False.elim
  exact⟨⟨b,h1,h2, .inl (x7 hle h3)⟩,fun b' hb=>by rw [h1] at hb; cases hb; exact h3⟩
 | ints k xs=>cases hrw
 | loop st pn ts ps asg bd=>
  obtain⟨b,r,h1,h2,h3,h4⟩:=h
  have h4:B'<=b:=h4.elim id False.elim
  exact⟨⟨b,r,h1,h2,h3, .inl (x7 hle h4)⟩,fun b' hb=>by rw [h1] at hb; cases hb; exact h4⟩
 | defr=>
  obtain⟨b,h1,h2,h3⟩:=h
  have h3:B'<=b:=h3.elim id False.elim
  exact⟨⟨b,h1,h2, .inl (x7 hle h3)⟩,fun b' hb=>by rw [h1] at hb; cases hb; exact h3⟩
 | dead=>
  obtain⟨b,q,h1,h2,h3⟩:=h
  have h3:B'<=b:=h3.elim id False.elim
  exact⟨⟨b,q,h1,h2, .inl (x7 hle h3)⟩,fun b' hb=>by rw [h1] at hb; cases hb; exact h3⟩
 | ro xs=>cases hrw
 | fam f n sz o=>cases hrw
 | map es=>
  obtain⟨b,mes,ck,h1,h2,h3,h4⟩:=h
  have h4:B'<=b:=h4.elim id False.elim
  exact⟨⟨b,mes,ck,h1,h2,h3, .inl (x7 hle h4)⟩,fun b' hb=>by rw [h1] at hb; cases hb; exact h4⟩
theorem g0f {X:Cx} {J:Inv X.P} (hX:CxOk X J) {o:Oper} {conds:List (Nat×Bool)} {tmps:List TV} {H:Heap} {p:Nat->Bool} {n n':Nat} {v0:Value} {fr:Heap} {obs:List Prop} (h:nS X o conds tmps H p n=some (v0,fr,n',obs)) (hl:l5 obs)
  {B:Nat} {M:Nat->Prop} {F:Num->Prop} {E:Num} (hF:F E) (hFp:∀ E',F E'->∀ j,p j=true->E' j=E j) (hpn:∀ j,p j=true->j < n) {O:Nat->Bool} (hc:V O conds) {a:Act} {w:World} (hB:B<=w.heap.size) (hI:J.I w) {Hb:Heap}
  (hS:∀ E',F E'->Sim X.P B M E' Hb w) (hH:∀ j o,H.get j=some o->Hb.get j=some o) (hT:∀ E',F E'->∀ t, .tmp t∈o.op.operands.toList->M0 E' O (D5 tmps t) (a.tmps.getD t undef))
  {rb:Option Nat} {K:Act->World->Prop} {Q:Exit->Act->World->Prop}
  (hK:∀ v w' (ρn:Num),n<=n'->(∀ j o,fr.get j=some o->n<=j∧j < n')->(∀ E',F E'->(∀ j,n<=j->j < n'->E' j=ρn j)->v=rv E' v0∧Sim X.P B M E' (fr++Hb) w')->Keeps B M w w'->K (a.put o.dst v) w'):
  o.wpIn (Fl rb) 0 X.P a w K Q:=by
 unfold nS at h
 split at h
 case h_1=>cases h
 rename_i hglob
 simp only [A9,V1] at hglob
 obtain⟨hglob,hgn⟩:=hglob
 have hglob':∀ x∈o.op.operands.toList,∀ g,x= .global g->g < X.P.globals.size:=by
  intro x hx g e
  subst e
  have:=zzA41.1 hglob _ hx
  simpa [Nat.blt_eq] using this
 split at h
 case h_2=>cases h
 rename_i c ho
 split at h
 case h_2=>cases h
 rename_i f hcal
 split at h
 case h_2=>cases h
 rename_i fid first cap args hf hargs
 dsimp only at h
 generalize hV:y1r H (a0o H 400 (numsL (first++args++cap) []) [])=V at h
 split at h
 case h_1=>cases h
 rename_i hall
 simp only [A9] at hall
 obtain⟨hpa,hpV⟩:=hall
 split at h
 case h_1=>cases h
 rename_i v h' n1 obs' ds' hcl
 split at h
 case h_2=>cases h
 rename_i hres
 simp only [A9] at hres
 obtain⟨_,⟨hpv,hpf⟩,hrw⟩:=hres
 cases h
 have hev:∀ x∈o.op.operands.toList,∀ y,evo tmps conds x=some y->a.eval x=rv E y:=fun x hx y hy=>
  T7 (hS E hF) hc hy (fun t e=>hT E hF t (e ▸ hx)) (hglob' x hx)
 have hfm:f∈o.op.operands.toList:=by rw [ho]; simp [zO5,Call.operands,hcal]
 have ham:∀ x∈c.args.toList,x∈o.op.operands.toList:=fun x hx=>by rw [ho]; simp [zO5,Call.operands,hcal]; exact .inr (by simpa using hx)
 obtain⟨hnn,hcalls⟩:=b0i hX hcl hl
 have hnn:n<=n':=hnn
 have hrun:(execOp a.eval o).run X.P w=(callFunc fid ⟨rvL E (first++args++cap)⟩).run X.P w:=by
  have e1:=hev f hfm _ hf
  have e2:=z7 (a:=a.eval) (E:=E) c.args.toList args (fun x hx y hy=>hev x (ham x hx) y hy) hargs
  have e3:c.args.map a.eval=⟨rvL E args⟩:=by apply gZ; simpa using e2
  simp only [execOp,ho,resolve,hcal,e1,e3,rv,rvA,rFn,Deferred.ofValue,pure_bind,invoke]
  have e4:((⟨rvL E first⟩:Array Value)++(⟨rvL E args⟩:Array Value)++(⟨rvL E cap⟩:Array Value))=⟨rvL E (first++args++cap)⟩:=by simp [o9]
  rw [e4]
 have hS0:=hS E hF
 have hp':Par X.P w.heap.size (fun _=>False):=⟨J.room w hI,fun _ _ h=>h⟩
 have hVS:∀ E',Agree n E E'->Sim X.P w.heap.size (fun _=>False) E' (V++X.J.tabs) w∧rvL E (first++args++cap)=rvL E' (first++args++cap):=by
  intro E' ha
  have hag:∀ j,p j=true->E' j=E j:=fun j hj=>ha j (hpn j hj)
  have hgl:∀ g,g < X.P.globals.size->E' g=some g:=fun g hg=>by rw [ha g (by omega)]; exact hS0.glob g hg
  have hts:=hX.tabs w E' w.heap.size (fun _=>False) hI hgl
  refine⟨⟨hgl,fun j o' hj=> ?_,fun i j oi oj hi hr _ _ _=> ?_⟩,(rvL_all hag _ hpa).symm⟩
  ·rw [z6] at hj
   split at hj
   case h_2=>exact hts.obj j o' hj
   rename_i o2 hj2
   cases hj
   have hj:=hj2
   obtain⟨hk1,hk2⟩:=cO hpV hj
   have hj':=hj
   rw [<- hV] at hj'
   obtain⟨o1,ho1,hro⟩:=lP hj'
   have:=(hS0.obj j o1 (hH j o1 ho1)).ro (B':=w.heap.size) (M':=fun _=>False) hro
   rw [hag j hk1]
   exact this.1.all hag hk2
  ·rw [z6] at hi
   split at hi
   case h_2=>rw [hX.ro i oi hi] at hr; cases hr
   rename_i o2 hi2
   cases hi
   have hi:=hi2
   have hi':=hi
   rw [<- hV] at hi'
   obtain⟨o1,ho1,hro⟩:=lP hi'
   have:=(hS0.obj i o1 (hH i o1 ho1)).ro (B':=w.heap.size) (M':=fun _=>False) hro
   rw [this.2] at hr
   cases hr
 have hc1:=hcalls w.heap.size (fun _=>False) E w (rvL E (first++args++cap)) hp' (d9 _) hI hVS
 refine i0h (by rw [ho]; intro c hc; cases hc) hrun (hc1.mono fun e w' hh=> ?_)
 obtain⟨ρ1,v1,ha1,he,hk,hfin⟩:=hh
 refine⟨v1,he,?_⟩
 have hbel:Below w.heap.size w w':=hk.below
 refine hK v1 w' ρ1 hnn (fun j o hj=>(U4 hj).2) (fun E' ha hnew=> ?_) (u3 hbel hB)
 let ρ2:Num:=fun j=>if j < n then ρ1 j else E' j
 have h2:Agree n' ρ1 ρ2:=fun j hj=>by
  show (if j < n then ρ1 j else E' j)=ρ1 j
  by_cases hlt:j < n
  ·rw [f9 hlt]
  ·rw [a7 hlt]; exact hnew j (by omega) hj
 have hag:∀ j,p1q p n n' j=true->E' j=ρ2 j:=fun j hj=>by
  show E' j=(if j < n then ρ1 j else E' j)
  simp only [p1q,xX,A9,V1,G1] at hj
  by_cases hlt:j < n
  ·rw [f9 hlt]
   rcases hj with hj | hj
   ·rw [hFp E' ha j hj,ha1 j hlt]
   ·omega
  ·rw [a7 hlt]
 obtain⟨g1,g2⟩:=hfin ρ2 h2
 refine⟨by rw [g1,e1b hag _ hpv],?_⟩
 have hold:=(hS E' ha).below hbel
 have key:∀ j o',(r0c n n' h').get j=some o'->o'.rw=true∧ORep B M E' w' (E' j) o'∧∀ b,E' j=some b->w.heap.size<=b:=fun j o' hj=>by
  obtain⟨k1,k2⟩:=cO hpf hj
  have k3:=l0u hrw hj
  have k4:=(g2.obj j o' (U4 hj).1).all hag k2
  rw [<- hag j k1] at k4
  have:=k4.owned hB k3 (M:=M)
  exact⟨k3,this.1,this.2⟩
 have low:∀ k ok,Hb.get k=some ok->∀ b,E' k=some b->b < w.heap.size:=fun k ok hk b hb'=>by
  have:=(hS E' ha).obj k ok hk
  rw [hb'] at this
  exact this.lt
 refine⟨hold.glob,fun i o' hi=> ?_,fun i j oi oj hi hr hj hij hne=> ?_⟩
 ·rw [z6] at hi
  split at hi
  ·rename_i o2 ho2; cases hi; exact (key i o' ho2).2.1
  ·exact hold.obj i o' hi
 ·rw [z6] at hi hj
  split at hi <;> split at hj
  ·rename_i ho2 _ _ ho3
   cases hi; cases hj
   have k1:=cO hpf ho2
   have k2:=cO hpf ho3
   have:=g2.inj i j oi oj (U4 ho2).1 hr (U4 ho3).1 hij
   rw [<- hag i k1.1,<- hag j k2.1] at this
   exact this hne
  ·rename_i ho2 _ _
   cases hi
   intro e
   cases hq:E' i with
   | none=>exact hne hq
   | some b=>
    have h1:=(key i oi ho2).2.2 b hq
    have h2:=low j oj hj b (by rw [<- e]; exact hq)
    omega
  ·rename_i ho3
   cases hj
   intro e
   cases hq:E' i with
   | none=>exact hne hq
   | some b=>
    have h1:=(key j oj ho3).2.2 b (by rw [<- e]; exact hq)
    have h2:=low i oi hi b hq
    omega
  ·exact hold.inj i j oi oj hi hr hj hij hne
def y0o (X:Cx) (os:List Oper) (o:Oper) (tmps:List TV) (H:Heap) (p:Nat->Bool) (n:Nat) (kv:KV):Option (List TV×KV×TV×Heap×Nat×List Prop):=
 match N4 X.gd os o tmps kv with
 | some (false,tmps',kv',conds)=>match nS X o conds tmps' H p n with
  | none=>none
  | some (v,fr,n',obs)=>some (tmps',kv',p1e conds v,fr,n',match o1l conds with
   | true=>x0n kv' conds ::obs
   | false=>obs)
 | _=>none
theorem eQ {X:Cx} {os:List Oper} {o:Oper} {tmps tmps':List TV} {H:Heap} {p:Nat->Bool} {n n':Nat} {kv kv':KV} {tv:TV} {fr:Heap} {obs:List Prop} (h:y0o X os o tmps H p n kv=some (tmps',kv',tv,fr,n',obs)):
  ∃ conds v obs0,N4 X.gd os o tmps kv=some (false,tmps',kv',conds)∧nS X o conds tmps' H p n=some (v,fr,n',obs0)∧tv=p1e conds v∧(l5 obs->l5 obs0∧x0n kv' conds):=by
 unfold y0o at h
 split at h
 case h_2=>cases h
 rename_i conds hg
 split at h
 ·cases h
 rename_i v fr' n1 obs0 hc
 cases h
 refine⟨conds,v,obs0,hg,hc,rfl,fun hl=> ?_⟩
 cases conds with
 | nil=>exact⟨hl,a6⟩
 | cons x r=>exact⟨hl.2,hl.1⟩
theorem h0m {X:Cx} {o:Oper} {conds:List (Nat×Bool)} {tmps:List TV} {H:Heap} {p:Nat->Bool} {n n':Nat} {v:Value} {fr:Heap} {obs:List Prop} (h:nS X o conds tmps H p n=some (v,fr,n',obs)):
  n<=n'∧∀ j o,fr.get j=some o->n<=j∧j < n':=by
 unfold nS at h
 split at h
 case h_1=>cases h
 split at h
 case h_2=>cases h
 split at h
 case h_2=>cases h
 split at h
 case h_2=>cases h
 dsimp only at h
 split at h
 case h_1=>cases h
 split at h
 case h_1=>cases h
 split at h
 case h_2=>cases h
 rename_i hres
 simp only [A9,V1] at hres
 cases h
 exact⟨hres.1,fun j o hj=>(U4 hj).2⟩
theorem w0f {X:Cx} {os:List Oper} {o:Oper} {tmps tmps':List TV} {H:Heap} {p:Nat->Bool} {n n':Nat} {kv kv':KV} {tv:TV} {fr:Heap} {obs:List Prop} (h:y0o X os o tmps H p n kv=some (tmps',kv',tv,fr,n',obs)):
  n<=n'∧∀ j o,fr.get j=some o->n<=j∧j < n':=by
 obtain⟨_,_,_,_,hc,_⟩:=eQ h
 exact h0m hc
theorem p0o {X:Cx} {J:Inv X.P} (hX:CxOk X J) {os:List Oper} {i:Nat} {o:Oper} (hi:os[i]? =some o) {tmps tmps':List TV} {H:Heap} {p:Nat->Bool} {n n':Nat} {kv kv':KV} {tv:TV} {fr:Heap} {obs:List Prop}
  (h:y0o X os o tmps H p n kv=some (tmps',kv',tv,fr,n',obs)) (hl:l5 obs)
  {B:Nat} {M:Nat->Prop} {F:Num->Prop} {E:Num} (hF:F E) (hFp:∀ E',F E'->∀ j,p j=true->E' j=E j) (hpn:∀ j,p j=true->j < n) {Cβ:(Nat->Bool)->Prop} (hne:∃ O,Cβ O) (hCβ:∀ O,Cβ O->KVok kv' O) {a:Act} {w:World} (hB:B<=w.heap.size) (hI:J.I w) {Hb:Heap}
  (hS:∀ E',F E'->Sim X.P B M E' Hb w) (hH:∀ j o,H.get j=some o->Hb.get j=some o) (hT:∀ E',F E'->∀ O,Cβ O->∀ t∈looks os o,M0 E' O (D5 tmps t) (a.tmps.getD t undef))
  {rb:Option Nat} {K:Act->World->Prop} {Q:Exit->Act->World->Prop}
  (hK:∀ v w' (ρn:Num),n<=n'->(∀ j o,fr.get j=some o->n<=j∧j < n')->(∀ E',F E'->(∀ j,n<=j->j < n'->E' j=ρn j)->Sim X.P B M E' (fr++Hb) w'∧∀ O,Cβ O->M0 E' O tv v)->Keeps B M w w'->K (a.put o.dst v) w'):
  wpOpIn (Fl rb) 0 X.P ⟨os⟩ Q i K a w:=by
 have hoi:(⟨os⟩:Array Oper)[i]? =some o:=by simpa using hi
 unfold wpOpIn
 rw [hoi]
 simp only []
 obtain⟨β0,hβ0⟩:=hne
 obtain⟨conds,v0,obs0,hg,hc,etv,hobs⟩:=eQ h
 obtain⟨hl0,hcond⟩:=hobs hl
 have hV:V β0 conds:=sF (hCβ β0 hβ0) hcond
 have g:∀ E',F E'->∀ O,Cβ O->_:=fun E' ha O hβ=>F3 hg (hCβ O hβ) (fun t ht _=>hT E' ha O hβ t ht)
 have hw:∀ O,Cβ O->(Region.wanted o (yielded ⟨os⟩ a.tmps)=true↔V O conds):=fun O hβ=>(g E hF O hβ).2.2.1 rfl
 have hwt:=(hw β0 hβ0).2 hV
 rw [f9 hwt]
 refine g0f hX hc hl0 hF hFp hpn hV hB hI hS hH (fun E' ha t ht=> ?_) (fun v w' ρn hn hfr hfin hk=> ?_)
 ·exact ((g E' ha β0 hβ0).2.2.2 t _).1 (hT E' ha β0 hβ0 t (S4 ht))
 ·refine hK v w' ρn hn hfr (fun E' ha hnew=> ?_) hk
  obtain⟨g1,g2⟩:=hfin E' ha hnew
  refine⟨g2,fun O hβ=> ?_⟩
  have hVβ:=(hw O hβ).1 hwt
  rw [etv]
  unfold p1e
  split
  ·exact g1
  ·exact⟨fun _=>g1,fun hn=>absurd hVβ hn⟩
def g0l (os:List Oper) (p:Nat):List Nat:=match os[p]? with
 | some o=>u5 o
 | none=>[]
def c0i (os:List Oper):Nat->List Nat->List Nat->List Nat
 | 0,_,acc=>acc
 | f+1,work,acc=>match work with
  | [] =>acc
  | p ::r=>match K9 p acc with
   | true=>c0i os f r acc
   | false=>c0i os f (g0l os p++r) (p ::acc)
theorem lQ {os:List Oper} {L:Nat->Prop} (hL:∀ p,L p->∀ e∈g0l os p,L e):∀ (f:Nat) (work acc:List Nat),(∀ p∈work,L p)->(∀ p∈acc,L p)->∀ p∈c0i os f work acc,L p
 | 0,_,acc,_,ha=>by simpa only [c0i] using ha
 | f+1,work,acc,hw,ha=>by
  unfold c0i
  split
  ·exact ha
  ·rename_i p r
   split
   ·exact lQ hL f r acc (fun q hq=>hw q (by simp [hq])) ha
   ·refine lQ hL f _ _ (fun q hq=> ?_) (fun q hq=> ?_)
    ·rcases zzA94.1 hq with hq | hq
     ·exact hL p (hw p (by simp)) q hq
     ·exact hw q (by simp [hq])
    ·rcases zzA86.1 hq with rfl | hq
     ·exact hw q (by simp)
     ·exact ha q hq
def Y7 (os:List Oper) (o:Oper):List Nat:=c0i os 400 (u5 o) []
structure LaE where
 k:Nat
 lo:Nat
 hi:Nat
 h:Heap
def iU (f:Nat->Bool):List LaE->Heap->Heap
 | [],H0=>H0
 | ⟨k,_,_,h⟩ ::r,H0=>match f k with
  | true=>h++iU f r H0
  | false=>iU f r H0
def X0 (n0:Nat):Heap->Bool
 | [] =>true
 | (j,_) ::r=>zO1 j n0 && X0 n0 r
theorem iK {n0:Nat} :∀ {H:Heap},X0 n0 H=true->∀ {j:Nat} {o:AObj},H.get j=some o->j < n0
 | [],_,j,o,h=>by simp [Heap.get] at h
 | (k,ob) ::r,hk,j,o,h=>by
  simp only [X0,A9,G1] at hk
  rw [b6] at h
  split at h
  ·rename_i e; subst e; exact hk.1
  ·exact iK hk.2 h
def WF (n0:Nat):List LaE->Nat->Prop
 | [],b=>n0<=b
 | e ::r,b=>WF n0 r e.lo∧e.lo<=e.hi∧e.hi<=b∧∀ j o,e.h.get j=some o->e.lo<=j∧j < e.hi
theorem WF.le {n0:Nat} :∀ {la:List LaE} {b:Nat},WF n0 la b->n0<=b
 | [],_,h=>h
 | _ ::_,_,h=>x7 h.1.le (x7 h.2.1 h.2.2.1)
theorem WF.mono {n0:Nat} {la:List LaE} {b b':Nat} (h:WF n0 la b) (hb:b<=b'):WF n0 la b':=by
 cases la with
 | nil=>exact x7 h hb
 | cons e r=>exact⟨h.1,h.2.1,x7 h.2.2.1 hb,h.2.2.2⟩
theorem WF.span {n0:Nat} :∀ {la:List LaE} {b:Nat},WF n0 la b->∀ e∈la,n0<=e.lo∧e.lo<=e.hi∧e.hi<=b∧∀ j o,e.h.get j=some o->e.lo<=j∧j < e.hi
 | [],_,_,e,he=>by cases he
 | x ::r,b,h,e,he=>by
  rcases zzA86.1 he with rfl | he
  ·exact⟨h.1.le,h.2.1,h.2.2.1,h.2.2.2⟩
  ·obtain⟨h1,h2,h3,h4⟩:=h.1.span e he
   exact⟨h1,h2,x7 h3 (x7 h.2.1 h.2.2.1),h4⟩
theorem O7 {f:Nat->Bool} {H0:Heap} :∀ {la:List LaE} {j:Nat} {o:AObj},(iU f la H0).get j=some o->H0.get j=some o∨∃ e∈la,f e.k=true∧e.h.get j=some o
 | [],j,o,h=> .inl h
 | e ::r,j,o,h=>by
  unfold iU at h
  split at h
  ·rename_i hf
   rw [z6] at h
   split at h
   ·rename_i o2 ho2
    cases h
    exact .inr ⟨e,by simp,hf,ho2⟩
   ·rcases O7 h with h | ⟨e',he',h1,h2⟩
    ·exact .inl h
    ·exact .inr ⟨e',by simp [he'],h1,h2⟩
  ·rcases O7 h with h | ⟨e',he',h1,h2⟩
   ·exact .inl h
   ·exact .inr ⟨e',by simp [he'],h1,h2⟩
theorem gI {n0:Nat} {f:Nat->Bool} {H0:Heap} (hlow:X0 n0 H0=true):∀ {la:List LaE} {b:Nat} {j:Nat} {o:AObj},WF n0 la b->(H0.get j=some o∨∃ e∈la,f e.k=true∧e.h.get j=some o)->(iU f la H0).get j=some o
 | [],b,j,o,_,h=>by
  rcases h with h | ⟨e,he,_⟩
  ·exact h
  ·cases he
 | e ::r,b,j,o,hwf,h=>by
  have ih:(H0.get j=some o∨∃ e∈r,f e.k=true∧e.h.get j=some o)->(iU f r H0).get j=some o:=gI hlow hwf.1
  have far:(H0.get j=some o∨∃ e∈r,f e.k=true∧e.h.get j=some o)->e.h.get j=none:=by
   intro hh
   cases hq:e.h.get j with
   | none=>rfl
   | some o2=>
    have hr:=hwf.2.2.2 j o2 hq
    rcases hh with hh | ⟨e',he',_,h2⟩
    ·have:=iK hlow hh
     have:=hwf.1.le
     omega
    ·obtain⟨_,_,h3,h4⟩:=hwf.1.span e' he'
     have:=h4 j o h2
     omega
  unfold iU
  split
  ·rename_i hf
   rw [z6]
   rcases h with h | ⟨e',he',h1,h2⟩
   ·rw [far (.inl h)]; exact ih (.inl h)
   ·rcases zzA86.1 he' with rfl | he'
    ·rw [h2]
    ·rw [far (.inr ⟨e',he',h1,h2⟩)]; exact ih (.inr ⟨e',he',h1,h2⟩)
  ·rename_i hf
   rcases h with h | ⟨e',he',h1,h2⟩
   ·exact ih (.inl h)
   ·rcases zzA86.1 he' with rfl | he'
    ·have hf:f e'.k=false:=hf
     rw [hf] at h1; cases h1
    ·exact ih (.inr ⟨e',he',h1,h2⟩)
def a1k (f:Nat->Bool) (n0:Nat):List LaE->Nat->Bool
 | [],j=>zO1 j n0
 | e ::r,j=>(f e.k && Nat.ble e.lo j && zO1 j e.hi) || a1k f n0 r j
theorem lL {f:Nat->Bool} {n0:Nat} :∀ {la:List LaE} {j:Nat},a1k f n0 la j=true->j < n0∨∃ e∈la,f e.k=true∧e.lo<=j∧j < e.hi
 | [],j,h=> .inl (by simpa [a1k,Nat.blt_eq] using h)
 | e ::r,j,h=>by
  simp only [a1k,xX,A9,V1,G1] at h
  rcases h with h | h
  ·exact .inr ⟨e,by simp,h.1.1,h.1.2,h.2⟩
  ·rcases lL h with h | ⟨e',he',h'⟩
   ·exact .inl h
   ·exact .inr ⟨e',by simp [he'],h'⟩
def J3 (ws:List Nat):Heap->Heap
 | [] =>[]
 | (j,o) ::r=>match K9 j ws with
  | true=>J3 ws r
  | false=>(j,o) ::J3 ws r
theorem J7 {ws:List Nat} :∀ {H:Heap} {j:Nat} {o:AObj},(J3 ws H).get j=some o->H.get j=some o∧K9 j ws=false
 | [],j,o,h=>by simp [J3,Heap.get] at h
 | (k,q) ::r,j,o,h=>by
  unfold J3 at h
  split at h
  ·rename_i hk
   obtain⟨h1,h2⟩:=J7 h
   rw [b6]
   by_cases e:k=j
   ·subst e; rw [hk] at h2; cases h2
   ·rw [a7 e]; exact⟨h1,h2⟩
  ·rename_i hk
   rw [b6] at h ⊢
   split at h
   ·rename_i e; subst e; exact⟨by rw [f9 rfl]; exact h,hk⟩
   ·rename_i e
    obtain⟨h1,h2⟩:=J7 h
    exact⟨by rw [a7 e]; exact h1,h2⟩
theorem X8 {ws:List Nat} :∀ {H:Heap} {j:Nat} {o:AObj},H.get j=some o->K9 j ws=false->(J3 ws H).get j=some o
 | [],j,o,h,_=>by simp [Heap.get] at h
 | (k,q) ::r,j,o,h,hj=>by
  rw [b6] at h
  unfold J3
  split
  ·rename_i hk
   split at h
   ·rename_i e; subst e; rw [hk] at hj; cases hj
   ·exact X8 h hj
  ·rw [b6]
   split at h
   ·rename_i e; rw [f9 e]; exact h
   ·rename_i e; rw [a7 e]; exact X8 h hj
def Q2 (H:Heap):List Nat->Heap
 | [] =>[]
 | j ::r=>match H.get j with
  | some o=>(j,o) ::Q2 H r
  | none=>Q2 H r
theorem T4 {H:Heap} :∀ {ws:List Nat} {j:Nat} {o:AObj},(Q2 H ws).get j=some o->H.get j=some o∧K9 j ws=true
 | [],j,o,h=>by simp [Q2,Heap.get] at h
 | i ::r,j,o,h=>by
  unfold Q2 at h
  split at h
  ·rename_i q hq
   rw [b6] at h
   split at h
   ·rename_i e; subst e; cases h; exact⟨hq,memN_iff.2 (by simp)⟩
   ·obtain⟨h1,h2⟩:=T4 h
    exact⟨h1,memN_iff.2 (gK _ (memN_iff.1 h2))⟩
  ·obtain⟨h1,h2⟩:=T4 h
   exact⟨h1,memN_iff.2 (gK _ (memN_iff.1 h2))⟩
theorem l0c {H:Heap} {ws:List Nat} {j:Nat} (h:K9 j ws=false):(Q2 H ws).get j=none:=by
 cases hq:(Q2 H ws).get j with
 | none=>rfl
 | some o=>rw [(T4 hq).2] at h; cases h
structure Ef where
 e:Nat
 ws:List Nat
 hw:Heap
def b0r (f:Nat->Bool):Option Ef->Heap->Heap
 | none,H=>H
 | some ⟨e,ws,hw⟩,H=>match f e with
  | true=>hw++J3 ws H
  | false=>H
def f2r:Option Ef->Heap->Heap
 | none,H=>H
 | some ⟨_,ws,_⟩,H=>J3 ws H
def e3q:Op->Bool
 | .store _ _ _=>true
 | .call c=>match c.callee with
  | .builtin b=>o1e b
  | _=>false
 | _=>false
def evE (X:Cx) (o:Oper) (tm:List TV) (H:Heap) (n:Nat):Option (Value×Heap×Nat×List Nat×List Prop):=
 match o.guard with
 | some _=>none
 | none=>match wQ X.P o with
  | false=>none
  | true=>match o.op with
   | .store t x y=>match evo tm [] x,evo tm [] y with
    | some (.pointer (some ⟨id,off,sp⟩)),some v=>match aK X.P H t (.pointer (some ⟨id,off,sp⟩)) v with
     | some H'=>some (undef,H',n,[id],[])
     | none=>none
    | _,_=>none
   | .call c=>match c.callee with
    | .builtin b=>match o1e b with
     | false=>none
     | true=>match fX (evo tm []) c.args.toList with
      | some args=>match W0 X.P X.auto c.argTypes.toList H n args with
       | some (v,H',l)=>some (v,H',n+2,n ::dD args,l)
       | none=>none
      | none=>none
    | _=>none
   | _=>none
theorem k0x {P:Program} {H H' H2:Heap} {t:TypeId} {v:Value} {id off:Nat} {sp:Option Nat} (h:aK P H t (.pointer (some ⟨id,off,sp⟩)) v=some H') (hs:∀ i o,H.get i=some o->H2.get i=some o):
  ∃ H2',aK P H2 t (.pointer (some ⟨id,off,sp⟩)) v=some H2'∧(∀ o,H'.get id=some o->H2'.get id=some o)∧(∀ i,i≠id->H2'.get i=H2.get i):=by
 unfold aK at h ⊢
 split at h
 case h_2=>cases h
 rename_i heq
 cases heq
 split at h
 case h_1=>cases h
 rename_i i hi
 split at h
 case h_4=>cases h
 ·rename_i cs ty hget
  simp only [hs _ _ hget]
  split at h
  case h_2=>cases h
  rename_i hc
  cases h
  try simp only [hc]
  refine⟨_,rfl,fun o ho=> ?_,fun i hi=> ?_⟩
  ·rw [p9 _ _ _ _ hget,f9 rfl] at ho
   rw [p9 _ _ _ _ (hs _ _ hget),f9 rfl]; exact ho
  ·rw [p9 _ _ _ _ (hs _ _ hget),a7 (fun e=>hi e.symm)]
 ·rename_i hget
  simp only [hs _ _ hget]
  split at h
  case h_2=>cases h
  rename_i hc
  cases h
  try simp only [hc]
  refine⟨_,rfl,fun o ho=> ?_,fun i hi=> ?_⟩
  ·rw [p9 _ _ _ _ hget,f9 rfl] at ho
   rw [p9 _ _ _ _ (hs _ _ hget),f9 rfl]; exact ho
  ·rw [p9 _ _ _ _ (hs _ _ hget),a7 (fun e=>hi e.symm)]
 ·rename_i hget
  simp only [hs _ _ hget]
  split at h
  case h_2=>cases h
  split at h
  case h_2=>cases h
  rename_i hc
  cases h
  try simp only [hc]
  refine⟨_,rfl,fun o ho=> ?_,fun i hi=> ?_⟩
  ·rw [p9 _ _ _ _ hget,f9 rfl] at ho
   rw [p9 _ _ _ _ (hs _ _ hget),f9 rfl]; exact ho
  ·rw [p9 _ _ _ _ (hs _ _ hget),a7 (fun e=>hi e.symm)]
theorem m1y {X:Cx} {o:Oper} {tm:List TV} {H H' H2:Heap} {n n':Nat} {v:Value} {ws:List Nat} {l:List Prop} (h:evE X o tm H n=some (v,H',n',ws,l)) (hs:∀ i o,H.get i=some o->H2.get i=some o):
  ∃ H2',evE X o tm H2 n=some (v,H2',n',ws,l)∧(∀ i o,K9 i ws=true->H'.get i=some o->H2'.get i=some o)∧(∀ i,K9 i ws=false->H2'.get i=H2.get i):=by
 unfold evE at h ⊢
 split at h
 ·cases h
 split at h
 ·cases h
 split at h
 case h_3=>cases h
 ·split at h
  case h_2=>cases h
  split at h
  case h_2=>cases h
  rename_i hst
  cases h
  obtain⟨H2',g1,g2,g3⟩:=k0x hst hs
  simp only [g1]
  refine⟨_,rfl,fun i o hi=> ?_,fun i hi=>g3 i (fun e=> ?_)⟩
  ·have:=memN_iff.1 hi
   simp only [zzA130] at this
   subst this
   exact g2 o
  ·subst e; rw [memN_iff.2 (by simp)] at hi; cases hi
 ·split at h
  case h_2=>cases h
  split at h
  ·cases h
  split at h
  case h_2=>cases h
  split at h
  case h_2=>cases h
  rename_i hap
  cases h
  obtain⟨H2',g1,g2,g3⟩:=zF hap hs
  simp only [g1]
  refine⟨_,rfl,fun i o hi=>g2 i o ?_,fun i hi=>g3 i (fun e=> ?_) (fun e=> ?_)⟩
  ·have:=memN_iff.1 hi
   simpa using this
  ·rw [memN_iff.2 (by simp [e])] at hi; cases hi
  ·rw [memN_iff.2 (by simp [e])] at hi; cases hi
theorem q1d {X:Cx} {o:Oper} {tm:List TV} {H H':Heap} {n n':Nat} {v:Value} {ws:List Nat} {l:List Prop} (h:evE X o tm H n=some (v,H',n',ws,l)):o.guard=none∧(n'=n∨n'=n+2):=by
 unfold evE at h
 split at h
 ·cases h
 rename_i hg
 refine⟨hg,?_⟩
 split at h
 ·cases h
 split at h
 case h_3=>cases h
 ·split at h
  case h_2=>cases h
  split at h
  case h_2=>cases h
  cases h
  exact .inl rfl
 ·split at h
  case h_2=>cases h
  split at h
  ·cases h
  split at h
  case h_2=>cases h
  split at h
  case h_2=>cases h
  cases h
  exact .inr rfl
theorem g1q {X:Cx} {os:List Oper} {i:Nat} {o:Oper} (hi:os[i]? =some o) {tm:List TV} {H H':Heap} {n n':Nat} {v0:Value} {ws:List Nat} {l:List Prop} (h:evE X o tm H n=some (v0,H',n',ws,l)) (hl:l5 l)
  {B:Nat} {M:Nat->Prop} {F:Num->Prop} {E:Num} (hF:F E) {a:Act} {w:World} (hB:B<=w.heap.size) (hS:∀ E',F E'->Sim X.P B M E' H w) {O:Nat->Bool} (hT:∀ E',F E'->∀ t∈looks os o,M0 E' O (D5 tm t) (a.tmps.getD t undef))
  {rb:Option Nat} {K:Act->World->Prop} {Q:Exit->Act->World->Prop}
  (hK:∀ v w' (bn bk:Option Nat),(∀ E',F E'->(n'=n+2->E' n=bn∧E' (n+1)=bk)->v=rv E' v0∧Sim X.P B M E' H' w')->Keeps B M w w'->K (a.put o.dst v) w'):wpOpIn (Fl rb) 0 X.P ⟨os⟩ Q i K a w:=by
 have hoi:(⟨os⟩:Array Oper)[i]? =some o:=by simpa using hi
 unfold wpOpIn
 rw [hoi]
 simp only []
 unfold evE at h
 split at h
 ·cases h
 rename_i hg
 have hwt:Region.wanted o (yielded ⟨os⟩ a.tmps)=true:=by simp [Region.wanted,hg]
 rw [f9 hwt]
 split at h
 ·cases h
 rename_i hglob
 have hglob':∀ x∈o.op.operands.toList,∀ g,x= .global g->g < X.P.globals.size:=by
  intro x hx g e
  subst e
  have:=zzA41.1 hglob _ hx
  simpa [Nat.blt_eq] using this
 have hev:∀ E',F E'->∀ x∈o.op.operands.toList,∀ y,evo tm [] x=some y->a.eval x=rv E' y:=fun E' ha x hx y hy=>
  T7 (hS E' ha) (mI O) hy (fun t e=>hT E' ha t (S4 (e ▸ hx))) (hglob' x hx)
 split at h
 case h_3=>cases h
 ·rename_i t x y ho
  split at h
  case h_2=>cases h
  rename_i id off sp v hx hy
  split at h
  case h_2=>cases h
  rename_i hst
  cases h
  obtain⟨w',h1,h2,h3,_⟩:=aN (hS E hF) hst
  have e1:=hev E hF x (by simp [ho,zO5]) _ hx
  have e2:=hev E hF y (by simp [ho,zO5]) _ hy
  refine J5 (by rw [ho]; intro c hc; cases hc) ?_
  have hex:(execOp a.eval o).run X.P w= .ok .skip w':=by
   simp only [execOp,ho,v7]
   rw [e1,e2,h1]
   rfl
  rw [hex,Oper.uponIn_skip]
  refine hK _ w' none none (fun E' ha _=>⟨(fA E').symm,?_⟩) h3
  obtain⟨w2,g1,g2,_⟩:=aN (hS E' ha) hst
  have f1:=hev E' ha x (by simp [ho,zO5]) _ hx
  have f2:=hev E' ha y (by simp [ho,zO5]) _ hy
  rw [<- f1,<- f2,e1,e2,h1] at g1
  cases g1
  exact g2
 ·rename_i c ho
  split at h
  case h_2=>cases h
  rename_i b hcal
  split at h
  ·cases h
  rename_i happ
  have happ:=a0r happ
  subst happ
  split at h
  case h_2=>cases h
  rename_i args hargs
  split at h
  case h_2=>cases h
  rename_i v H1 l1 hv
  cases h
  have ham:∀ x∈c.args.toList,x∈o.op.operands.toList:=fun x hx=>by rw [ho]; simp [zO5,Call.operands,hcal]; simpa using hx
  have e2:∀ E',F E'->(c.args.map a.eval).toList=rvL E' args:=fun E' ha=>by
   have:=z7 (a:=a.eval) (E:=E') c.args.toList args (fun x hx y hy=>hev E' ha x (ham x hx) y hy) hargs
   simpa using this
  have e3:c.args.map a.eval=(rvL E args).toArray:=by apply gZ; exact e2 E hF
  obtain⟨v',w',bn,bk,hrun,hk,hfin⟩:=cA hv hl hF hB hS (fun E' ha=>(e2 E' ha).symm.trans (e2 E hF)) o.type
  refine J5 (by rw [ho]; intro c hc; cases hc) ?_
  have hex:(execOp a.eval o).run X.P w= .ok (.value v') w':=by
   simp only [execOp,ho,resolve,hcal,e3,pure_bind,invoke,builtin]
   have:(c.argTypes.toList.toArray:Array TypeId)=c.argTypes:=by simp
   rw [this] at hrun
   simp [hrun]
  rw [hex,qV]
  exact hK v' w' bn bk (fun E' ha hn=>hfin E' ha (hn rfl).1 (hn rfl).2) hk
def g2b:Op->Bool
 | .move _=>true
 | .assign _=>true
 | .build _ _=>true
 | .binOp _ _ _ y _=> !b3p y
 | .unOp _ _ _=>true
 | .makeInterface _ _=>true
 | .makeFunc _ _ _=>true
 | .field _ _ _=>true
 | .index _ _ _=>true
 | .extract _ _=>true
 | .pick _ _ _=>true
 | _=>false
def wT (os:List Oper) (o:Oper) (la:List LaE) (H:Heap):Heap:=match g2b o.op with
 | true=>[]
 | false=>iU (fun k=>K9 k (Y7 os o)) la H
theorem v0a {os:List Oper} {o:Oper} {la:List LaE} {H:Heap} {j:Nat} {ob:AObj} (h:(wT os o la H).get j=some ob):(iU (fun k=>K9 k (Y7 os o)) la H).get j=some ob:=by
 unfold wT at h
 split at h
 ·simp [Heap.get] at h
 ·exact h
theorem l1y {os:List Oper} {o:Oper} {la:List LaE} {H:Heap} {j:Nat} {ob:AObj} (h:(wT os o la H).get j=some ob):H.get j=some ob∨∃ e∈la,K9 e.k (Y7 os o)=true∧e.h.get j=some ob:=O7 (v0a h)
theorem c2m {os:List Oper} {o:Oper} {n0 n:Nat} {H:Heap} (hlow:X0 n0 H=true) {la la':List LaE} (hwf:WF n0 la' n) (hsub:∀ e∈la,e∈la') {j:Nat} {ob:AObj} (h:(wT os o la H).get j=some ob):(wT os o la' H).get j=some ob:=by
 unfold wT at h ⊢
 split at h
 ·simp [Heap.get] at h
 ·refine gI hlow hwf ?_
  rcases O7 h with h | ⟨e,he,hk,h⟩
  ·exact .inl h
  ·exact .inr ⟨e,hsub e he,hk,h⟩
def qN (H:Heap):List Nat->Bool
 | [] =>true
 | j ::r=>match H.get j with
  | some _=>false
  | none=>qN H r
theorem b0u {H:Heap} :∀ {ws:List Nat} {j:Nat} {o:AObj},qN H ws=true->H.get j=some o->K9 j ws=false
 | [],j,o,_,_=>rfl
 | i ::r,j,o,h,hj=>by
  unfold qN at h
  split at h
  ·cases h
  ·rename_i hi
   have ih:=b0u h hj
   cases hm:K9 j (i ::r) with
   | false=>rfl
   | true=>
    exfalso
    rcases zzA86.1 (memN_iff.1 hm) with e | e
    ·subst e; rw [hi] at hj; cases hj
    ·rw [memN_iff.2 e] at ih; cases ih
def g0k (os:List Oper) (re:List Nat) (la:List LaE) (H0:Heap) (ws:List Nat):Nat->Bool
 | 0=>true
 | k+1=>(K9 k re || (match p1c os k with
  | none=>true
  | some o=>qN (wT os o la H0) ws)) && g0k os re la H0 ws k
theorem qC {os:List Oper} {re:List Nat} {la:List LaE} {H0:Heap} {ws:List Nat} :∀ {i:Nat},g0k os re la H0 ws i=true->∀ k o,k < i->os[k]? =some o->K9 k re=true∨qN (wT os o la H0) ws=true
 | 0,_,k,o,hk,_=>by omega
 | i+1,h,k,o,hk,ho=>by
  simp only [g0k,gM,A9,xX] at h
  by_cases e:k=i
  ·subst e
   rw [ho] at h
   exact h.1
  ·exact qC h.2 k o (by omega) ho
def v1z (p:Nat->Bool):List Nat->Bool
 | [] =>true
 | j ::r=>p j && v1z p r
theorem b0m {p:Nat->Bool} :∀ {l:List Nat},v1z p l=true->∀ j,K9 j l=true->p j=true
 | [],_,j,hj=>by simp [K9] at hj
 | i ::r,h,j,hj=>by
  simp only [v1z,A9] at h
  rcases zzA86.1 (memN_iff.1 hj) with e | e
  ·subst e; exact h.1
  ·exact b0m h.2 j (memN_iff.2 e)
structure HSt where
 tm:List TV
 la:List LaE
 obs:List Prop
 kv:KV
 nid:Nat
 ef:Option Ef
def x1i (X:Cx) (c:Bool) (os:List Oper) (o:Oper) (n0 i:Nat) (H0:Heap) (ds:List Bool) (tm:List TV) (la:List LaE) (kv:KV) (nid:Nat) (ef:Option Ef):Option (List TV×KV×TV×List LaE×Nat×Option Ef×List Prop):=
 match fL o.op with
 | true=>match bS X false os o tm [] nid ds kv with
  | none=>none
  | some (tm',kv',tv,⟨_,h,_,ob',_⟩)=>some (tm',kv',tv,⟨i,nid,nid+1,h⟩ ::la,nid+1,ef,ob')
 | false=>match bS X true os o tm (f2r ef (wT os o la H0)) nid ds kv with
  | some (tm',kv',tv,⟨_,_,_,ob',_⟩)=>some (tm',kv',tv,la,nid,ef,ob')
  | none=>match c with
   | false=>none
   | true=>match e3q o.op with
    | false=>match y0o X os o tm (f2r ef (wT os o la H0)) (a1k (fun k=>K9 k (Y7 os o)) n0 la) nid kv with
     | none=>none
     | some (tm',kv',tv,fr,n',ob')=>some (tm',kv',tv,⟨i,nid,n',fr⟩ ::la,n',ef,ob')
    | true=>match ef with
     | some _=>none
     | none=>match evE X o tm (wT os o la H0) nid with
      | none=>none
      | some (v,H',n',ws,ob')=>match v1z (p1q (a1k (fun k=>K9 k (Y7 os o)) n0 la) nid n') ws && g0k os (Y7 os o) la H0 ws i with
       | false=>none
       | true=>some (tm,kv, .v v,⟨i,nid,n',[]⟩ ::la,n',some ⟨i,ws,Q2 H' ws⟩,ob')
section
variable {X:Cx} {c:Bool} {os:List Oper} {o:Oper} {n0 i:Nat} {H0:Heap} {ds:List Bool} {tm tm':List TV} {la la':List LaE} {kv kv':KV} {tv:TV} {nid nid':Nat} {ef ef':Option Ef} {ob':List Prop}
theorem K6 (h:x1i X c os o n0 i H0 ds tm la kv nid ef=some (tm',kv',tv,la',nid',ef',ob')):
  (∃ r,bS X true os o tm (f2r ef (wT os o la H0)) nid ds kv=some (tm',kv',tv,r)∧r.obs=ob'∧fL o.op=false∧la'=la∧nid'=nid∧ef'=ef)∨
  (∃ r,bS X false os o tm [] nid ds kv=some (tm',kv',tv,r)∧r.obs=ob'∧fL o.op=true∧la'=⟨i,nid,nid+1,r.h⟩ ::la∧nid'=nid+1∧ef'=ef)∨
  (c=true∧∃ fr,y0o X os o tm (f2r ef (wT os o la H0)) (a1k (fun k=>K9 k (Y7 os o)) n0 la) nid kv=some (tm',kv',tv,fr,nid',ob')∧la'=⟨i,nid,nid',fr⟩ ::la∧ef'=ef)∨
  (c=true∧ef=none∧∃ v H' ws,evE X o tm (wT os o la H0) nid=some (v,H',nid',ws,ob')∧tm'=tm∧kv'=kv∧tv= .v v∧la'=⟨i,nid,nid',[]⟩ ::la∧ef'=some ⟨i,ws,Q2 H' ws⟩∧
   (∀ j,K9 j ws=true->p1q (a1k (fun k=>K9 k (Y7 os o)) n0 la) nid nid' j=true)∧(∀ k ok,k < i->os[k]? =some ok->K9 k (Y7 os o)=true∨qN (wT os ok la H0) ws=true)):=by
 unfold x1i at h
 split at h
 ·rename_i hlay
  split at h
  ·cases h
  ·rename_i he
   cases h
   exact .inr (.inl ⟨_,he,rfl,hlay,rfl,rfl,rfl⟩)
 ·rename_i hlay
  split at h
  ·rename_i he
   cases h
   exact .inl ⟨_,he,rfl,hlay,rfl,rfl,rfl⟩
  ·split at h
   ·cases h
   ·split at h
    ·split at h
     ·cases h
     ·rename_i he
      cases h
      exact .inr (.inr (.inl ⟨rfl,_,he,rfl,rfl⟩))
    ·split at h
     ·cases h
     ·split at h
      ·cases h
      ·rename_i he
       split at h
       ·cases h
       ·rename_i hok
        simp only [A9] at hok
        cases h
        exact .inr (.inr (.inr ⟨rfl,rfl,_,_,_,he,rfl,rfl,rfl,rfl,rfl,b0m hok.1,qC hok.2⟩))
theorem o0r (h:x1i X c os o n0 i H0 ds tm la kv nid ef=some (tm',kv',tv,la',nid',ef',ob'))
  (hk:∃ O,KVok kv O):(∃ O,KVok kv' O)∧(∀ O,KVok kv' O->KVok kv O)∧tm'.length=tm.length:=by
 rcases K6 h with ⟨r,he,_⟩ | ⟨r,he,_⟩ | ⟨_,fr,he,_⟩ | ⟨_,_,_,_,_,_,e1,e2,_⟩
 ·exact aE he hk
 ·exact aE he hk
 ·obtain⟨conds,v,obs0,hg,_⟩:=eQ he
  exact mR hg hk
 ·subst e1 e2
  exact⟨hk,fun _ h=>h,rfl⟩
theorem wP {q:Bool} {tmps tmps':List TV} {H:Heap} {n:Nat} {r:CR}
  (h:bS X q os o tmps H n ds kv=some (tmps',kv',tv,r)) {E:Num} {O:Nat->Bool} (hk:KVok kv' O) (t:Nat) (x:Value):M0 E O (D5 tmps t) x↔M0 E O (D5 tmps' t) x:=by
 rw [F4] at h
 split at h
 ·cases h
 ·rename_i hg; cases h; exact O5 hg hk t x
 ·rename_i hg
  split at h
  ·cases h
  ·cases h; exact O5 hg hk t x
theorem c1o (h:x1i X c os o n0 i H0 ds tm la kv nid ef=some (tm',kv',tv,la',nid',ef',ob'))
  {E:Num} {O:Nat->Bool} (hk:KVok kv' O) (t:Nat) (x:Value):M0 E O (D5 tm t) x↔M0 E O (D5 tm' t) x:=by
 rcases K6 h with ⟨r,he,_⟩ | ⟨r,he,_⟩ | ⟨_,fr,he,_⟩ | ⟨_,_,_,_,_,_,e1,e2,_⟩
 ·exact wP he hk t x
 ·exact wP he hk t x
 ·obtain⟨conds,v,obs0,hg,_⟩:=eQ he
  exact O5 hg hk t x
 ·rw [e1]
theorem p0q (h:x1i X c os o n0 i H0 ds tm la kv nid ef=some (tm',kv',tv,la',nid',ef',ob')):
  nid<=nid'∧(la'=la∨∃ fr,la'=⟨i,nid,nid',fr⟩ ::la∧∀ j o,fr.get j=some o->nid<=j∧j < nid'):=by
 rcases K6 h with ⟨r,he,_,_,e1,e2,_⟩ | ⟨r,he,_,hl,e1,e2,_⟩ | ⟨_,fr,he,e1,_⟩ | ⟨_,_,_,_,_,he,_,_,_,e1,_⟩
 ·exact⟨by omega, .inl e1⟩
 ·refine⟨by omega, .inr ⟨r.h,by rw [e1,e2],fun j o hj=> ?_⟩⟩
  obtain⟨_,hsh,_⟩:=j0v hl he
  rcases hsh with e | ⟨ob,e⟩
  ·rw [e] at hj; simp [Heap.get] at hj
  ·rw [e,b6] at hj
   split at hj
   ·omega
   ·simp [Heap.get] at hj
 ·obtain⟨h1,h2⟩:=w0f he
  exact⟨h1, .inr ⟨fr,e1,h2⟩⟩
 ·obtain⟨_,h1⟩:=q1d he
  exact⟨by omega, .inr ⟨[],e1,fun j o hj=>by simp [Heap.get] at hj⟩⟩
theorem l1c (h:x1i X c os o n0 i H0 ds tm la kv nid ef=some (tm',kv',tv,la',nid',ef',ob')):ef'=ef∨(c=true∧ef=none∧∃ ws hw,ef'=some ⟨i,ws,hw⟩):=by
 rcases K6 h with ⟨r,_,_,_,_,_,e⟩ | ⟨r,_,_,_,_,_,e⟩ | ⟨_,fr,_,_,e⟩ | ⟨hc,e0,_,_,_,_,_,_,_,_,e,_⟩
 ·exact .inl e
 ·exact .inl e
 ·exact .inl e
 ·exact .inr ⟨hc,e0,_,_,e⟩
end
def bJ (X:Cx) (c:Bool) (os:List Oper) (n0:Nat) (H0:Heap) (ds:List Bool) (tm0:List TV) (ob0:List Prop):Nat->Option HSt
 | 0=>some ⟨tm0,[],ob0,[],n0,none⟩
 | i+1=>match bJ X c os n0 H0 ds tm0 ob0 i with
  | none=>none
  | some ⟨tm,la,ob,kv,nid,ef⟩=>match p1c os i with
   | none=>none
   | some o=>match x1i X c os o n0 i H0 ds tm la kv nid ef with
    | none=>none
    | some (tm',kv',tv,la',nid',ef',ob')=>some ⟨a1l tm' o.dst tv,la',ob'++ob,kv',nid',ef'⟩
section
variable {X:Cx} {c:Bool} {os:List Oper} {n0:Nat} {H0:Heap} {ds:List Bool} {tm0:List TV} {ob0:List Prop}
theorem E5 {i:Nat} {s':HSt} (h:bJ X c os n0 H0 ds tm0 ob0 (i+1)=some s'):
  ∃ s o tm' tv ob',bJ X c os n0 H0 ds tm0 ob0 i=some s∧os[i]? =some o∧x1i X c os o n0 i H0 ds s.tm s.la s.kv s.nid s.ef=some (tm',s'.kv,tv,s'.la,s'.nid,s'.ef,ob')∧s'.tm=a1l tm' o.dst tv∧s'.obs=ob'++s.obs:=by
 simp only [bJ,gM] at h
 split at h
 ·cases h
 rename_i tm la ob kv nid ef hs
 split at h
 ·cases h
 rename_i o ho
 split at h
 ·cases h
 rename_i he
 cases h
 exact⟨_,o,_,_,_,hs,ho,he,rfl,rfl⟩
theorem wD:∀ {j i:Nat} {r:HSt},i<=j->bJ X c os n0 H0 ds tm0 ob0 j=some r->∃ q,bJ X c os n0 H0 ds tm0 ob0 i=some q
 | 0,i,r,hij,h=>by
  obtain rfl:i=0:=by omega
  exact⟨r,h⟩
 | j+1,i,r,hij,h=>by
  by_cases e:i=j+1
  ·subst e; exact⟨r,h⟩
  ·obtain⟨s,o,_,_,_,hs,_⟩:=E5 h
   exact wD (by omega) hs
theorem iX:∀ {j i:Nat} {si sj:HSt},i<=j->bJ X c os n0 H0 ds tm0 ob0 i=some si->bJ X c os n0 H0 ds tm0 ob0 j=some sj->l5 sj.obs->l5 si.obs
 | 0,i,si,sj,hij,h1,h2,hl=>by
  obtain rfl:i=0:=by omega
  rw [h1] at h2; cases h2; exact hl
 | j+1,i,si,sj,hij,h1,h2,hl=>by
  by_cases e:i=j+1
  ·subst e; rw [h1] at h2; cases h2; exact hl
  ·obtain⟨s,o,_,_,_,hs,_,_,_,ho⟩:=E5 h2
   rw [ho] at hl
   exact iX (by omega) h1 hs ((a8 _ _).1 hl).2
theorem B8:∀ {i:Nat} {s:HSt},bJ X c os n0 H0 ds tm0 ob0 i=some s->(∃ O,KVok s.kv O)∧s.tm.length=tm0.length
 | 0,s,h=>by simp only [bJ] at h; cases h; exact⟨⟨fun _=>false,fun p hp=>by cases hp⟩,rfl⟩
 | i+1,s,h=>by
  obtain⟨s1,o,_,_,_,hs,_,he,h1,_⟩:=E5 h
  obtain⟨e1,e2⟩:=B8 hs
  obtain⟨g1,_,g3⟩:=o0r he e1
  exact⟨g1,by rw [h1,gY]; omega⟩
theorem eU {O:Nat->Bool} :∀ {j i:Nat} {si sj:HSt},i<=j->bJ X c os n0 H0 ds tm0 ob0 i=some si->bJ X c os n0 H0 ds tm0 ob0 j=some sj->KVok sj.kv O->KVok si.kv O
 | 0,i,si,sj,hij,h1,h2,hk=>by
  obtain rfl:i=0:=by omega
  rw [h1] at h2; cases h2; exact hk
 | j+1,i,si,sj,hij,h1,h2,hk=>by
  by_cases e:i=j+1
  ·subst e; rw [h1] at h2; cases h2; exact hk
  ·obtain⟨s,o,_,_,_,hs,_,he,_⟩:=E5 h2
   exact eU (by omega) h1 hs ((o0r he (B8 hs).1).2.1 O hk)
theorem I3 {E:Num} {O:Nat->Bool} {t:Nat} {r:Value} :∀ {j i:Nat} {si sj:HSt},i<=j->bJ X c os n0 H0 ds tm0 ob0 i=some si->bJ X c os n0 H0 ds tm0 ob0 j=some sj->KVok sj.kv O->
  (∀ k o,i<=k->k < j->os[k]? =some o->o.dst≠some t)->(M0 E O (D5 si.tm t) r↔M0 E O (D5 sj.tm t) r)
 | 0,i,si,sj,hij,h1,h2,_,_=>by
  obtain rfl:i=0:=by omega
  rw [h1] at h2; cases h2; exact Z4
 | j+1,i,si,sj,hij,h1,h2,hk,hw=>by
  by_cases e:i=j+1
  ·subst e; rw [h1] at h2; cases h2; exact Z4
  ·obtain⟨s,o,tm',tv,ob',hs,hoj,he,e1,_⟩:=E5 h2
   have hkv:KVok s.kv O:=eU (by omega) hs h2 hk
   refine (I3 (by omega) h1 hs hkv (fun k o' hk1 hk2=>hw k o' hk1 (by omega))).trans ?_
   rw [e1,aA,a7 (fun hh=>hw j o (by omega) (by omega) hoj hh.1)]
   exact c1o he hk t r
theorem nU:∀ {i:Nat} {s:HSt},bJ X c os n0 H0 ds tm0 ob0 i=some s->WF n0 s.la s.nid∧∀ e∈s.la,e.k < i
 | 0,s,h=>by simp only [bJ] at h; cases h; exact⟨d9 _,fun e he=>by cases he⟩
 | i+1,s,h=>by
  obtain⟨s1,o,_,_,_,hs,_,he,_⟩:=E5 h
  obtain⟨h1,h2⟩:=nU hs
  obtain⟨g1,g2⟩:=p0q he
  rcases g2 with g2 | ⟨fr,g2,g3⟩
  ·rw [g2]
   exact⟨h1.mono g1,fun e he=>Nat.lt_succ_of_lt (h2 e he)⟩
  ·rw [g2]
   refine⟨⟨h1,g1,d9 _,g3⟩,fun e he=> ?_⟩
   rcases zzA86.1 he with rfl | he
   ·exact Q7 _
   ·exact Nat.lt_succ_of_lt (h2 e he)
theorem rL:∀ {j i:Nat} {si sj:HSt},i<=j->bJ X c os n0 H0 ds tm0 ob0 i=some si->bJ X c os n0 H0 ds tm0 ob0 j=some sj->si.nid<=sj.nid∧∃ ex,sj.la=ex++si.la∧∀ e∈ex,i<=e.k∧si.nid<=e.lo
 | 0,i,si,sj,hij,h1,h2=>by
  obtain rfl:i=0:=by omega
  rw [h1] at h2; cases h2
  exact⟨d9 _,[],rfl,fun e he=>by cases he⟩
 | j+1,i,si,sj,hij,h1,h2=>by
  by_cases e:i=j+1
  ·subst e; rw [h1] at h2; cases h2
   exact⟨d9 _,[],rfl,fun e he=>by cases he⟩
  ·obtain⟨s1,o,_,_,_,hs,_,he,_⟩:=E5 h2
   obtain⟨f1,ex,f2,f3⟩:=rL (by omega) h1 hs
   obtain⟨g1,g2⟩:=p0q he
   refine⟨x7 f1 g1,?_⟩
   rcases g2 with g2 | ⟨fr,g2,_⟩
   ·exact⟨ex,by rw [g2,f2],f3⟩
   ·refine⟨⟨j,s1.nid,sj.nid,fr⟩ ::ex,by rw [g2,f2]; rfl,fun e he=> ?_⟩
    rcases zzA86.1 he with rfl | he
    ·exact⟨by show i<=j; omega,f1⟩
    ·exact f3 e he
end
theorem vH {f g:Nat->Bool} {ef:Option Ef} (hf:∀ e ws hw,ef=some ⟨e,ws,hw⟩->f e=g e) {H H2:Heap} (hs:∀ j o,H.get j=some o->H2.get j=some o):∀ j o,(b0r f ef H).get j=some o->(b0r g ef H2).get j=some o:=by
 intro j o h
 cases ef with
 | none=>exact hs j o h
 | some q=>
  obtain⟨e,ws,hw⟩:=q
  have he:=hf e ws hw rfl
  simp only [b0r,<- he] at h ⊢
  split at h
  ·rw [z6] at h ⊢
   split at h
   ·exact h
   ·obtain⟨h1,h2⟩:=J7 h
    exact X8 (hs j o h1) h2
  ·exact hs j o h
section
variable {X:Cx} {c:Bool} {os:List Oper} {n0:Nat} {H0:Heap} {ds:List Bool} {tm0:List TV} {ob0:List Prop}
theorem xC:∀ {j i:Nat} {si sj:HSt},i<=j->bJ X c os n0 H0 ds tm0 ob0 i=some si->bJ X c os n0 H0 ds tm0 ob0 j=some sj->sj.ef=si.ef∨si.ef=none
 | 0,i,si,sj,hij,h1,h2=>by
  obtain rfl:i=0:=by omega
  rw [h1] at h2; cases h2
  exact .inl rfl
 | j+1,i,si,sj,hij,h1,h2=>by
  by_cases e:i=j+1
  ·subst e; rw [h1] at h2; cases h2
   exact .inl rfl
  ·obtain⟨s1,o,_,_,_,hs,_,he,_⟩:=E5 h2
   have ih:=xC (by omega) h1 hs
   rcases l1c he with g | ⟨_,g,_⟩
   ·rw [g]; exact ih
   ·rcases ih with e' | e'
    ·exact .inr (e'.symm.trans g)
    ·exact .inr e'
theorem zS:∀ {j:Nat} {sj:HSt},bJ X false os n0 H0 ds tm0 ob0 j=some sj->sj.ef=none
 | 0,sj,h=>by simp only [bJ] at h; cases h; rfl
 | j+1,sj,h=>by
  obtain⟨s1,o,_,_,_,hs,_,he,_⟩:=E5 h
  rcases l1c he with g | ⟨g,_⟩
  ·rw [g]; exact zS hs
  ·cases g
theorem mU:∀ {m:Nat} {sm:HSt},bJ X c os n0 H0 ds tm0 ob0 m=some sm->∀ {e:Nat} {ws:List Nat} {hw:Heap},sm.ef=some ⟨e,ws,hw⟩->
  ∃ se s1 oe H',e < m∧bJ X c os n0 H0 ds tm0 ob0 e=some se∧bJ X c os n0 H0 ds tm0 ob0 (e+1)=some s1∧os[e]? =some oe∧se.ef=none∧s1.ef=some ⟨e,ws,hw⟩∧s1.la=⟨e,se.nid,s1.nid,[]⟩ ::se.la∧hw=Q2 H' ws∧
   (∀ j,K9 j ws=true->p1q (a1k (fun k=>K9 k (Y7 os oe)) n0 se.la) se.nid s1.nid j=true)∧(∀ k ok,k < e->os[k]? =some ok->K9 k (Y7 os oe)=true∨qN (wT os ok se.la H0) ws=true)
 | 0,sm,h,e,ws,hw,he=>by simp only [bJ] at h; cases h; cases he
 | m+1,sm,h,e,ws,hw,he=>by
  obtain⟨s1,o,tm',tv,ob',hs,ho,hop,_⟩:=E5 h
  have old:sm.ef=s1.ef->_:=fun g=>mU hs (g ▸ he)
  have lift:sm.ef=s1.ef->∃ se s1 oe H',e < m+1∧bJ X c os n0 H0 ds tm0 ob0 e=some se∧bJ X c os n0 H0 ds tm0 ob0 (e+1)=some s1∧os[e]? =some oe∧se.ef=none∧s1.ef=some ⟨e,ws,hw⟩∧s1.la=⟨e,se.nid,s1.nid,[]⟩ ::se.la∧hw=Q2 H' ws∧
   (∀ j,K9 j ws=true->p1q (a1k (fun k=>K9 k (Y7 os oe)) n0 se.la) se.nid s1.nid j=true)∧(∀ k ok,k < e->os[k]? =some ok->K9 k (Y7 os oe)=true∨qN (wT os ok se.la H0) ws=true):=fun g=>by
   obtain⟨se,s1',oe,H',g0,g1⟩:=old g
   exact⟨se,s1',oe,H',by omega,g1⟩
  rcases K6 hop with ⟨r,_,_,_,_,_,g⟩ | ⟨r,_,_,_,_,_,g⟩ | ⟨_,fr,_,_,g⟩ | ⟨_,g0,v,H',ws',hev,_,_,_,gla,gef,g1,g2⟩
  ·exact lift g
  ·exact lift g
  ·exact lift g
  ·rw [he] at gef
   cases gef
   exact⟨s1,sm,o,H',by omega,hs,h,ho,g0,he,gla,rfl,g1,g2⟩
end
def AgL (la:List LaE) (n0:Nat) (listed:Array Bool) (E E':Num):Prop:=∀ j,(j < n0∨∃ e∈la,Lst listed e.k∧e.lo<=j∧j < e.hi)->E' j=E j
def X6 (listed:Array Bool) (k:Nat):Bool:=listed.getD k false
structure HalfL (X:Cx) (J:Inv X.P) (B:Nat) (M:Nat->Prop) (w0:Bas) (os:List Oper) (m:Nat) (s0:St) (a0:Act) (ρ0:Num) (sm:HSt) (listed:Array Bool) (a:Act) (w:World):Prop where
 size:listed.size=os.length
 closed:∀ j o,os[j]? =some o->Lst listed j->∀ e∈u5 o,Lst listed e
 late:∀ t,m<=t->¬ Lst listed t
 asize:a.tmps.size=s0.tmps.length
 defers:a.defers=w0.dfs
 base:B<=w.heap.size
 inv:J.I w
 keeps:Keeps B M w0.w w
 old:∀ t,(∀ k o,k < m->Lst listed k->os[k]? =some o->o.dst≠some t)->a.tmps.getD t undef=a0.tmps.getD t undef
 rep:∃ E,Agree s0.nid ρ0 E∧∀ E',AgL sm.la s0.nid listed E E'->Sim X.P B M E' (b0r (X6 listed) sm.ef (iU (X6 listed) sm.la s0.heap)) w∧
  ∀ k o d,k < m->Lst listed k->os[k]? =some o->o.dst=some d->∀ O,KVok sm.kv O->M0 E' O (D5 sm.tm d) (a.tmps.getD d undef)
def HSt.toSt (h:HSt) (s:St):St:=⟨h.tm,b0r (fun _=>true) h.ef (iU (fun _=>true) h.la s.heap),h.nid,s.ds,h.obs,s.lp,s.rd,s.mks,s.bs⟩
theorem h0z {X:Cx} {J:Inv X.P} {c:Bool} {B:Nat} {M:Nat->Prop} {w0:Bas} {os:List Oper} {m:Nat} {s0:St} {a0:Act} {E:Num} {sm:HSt} (hm:bJ X c os s0.nid s0.heap s0.ds s0.tmps s0.obs m=some sm) (hlow:X0 s0.nid s0.heap=true)
  (h0:∀ E',Agree s0.nid E E'->∀ O t,M0 E' O (D5 s0.tmps t) (a0.tmps.getD t undef)) {listed:Array Bool} {a:Act} {w:World}
  (h:HalfL X J B M w0 os m s0 a0 E sm listed a w) (hρ0:w0.n<=s0.nid∧Agree w0.n w0.E E) (hall:∀ k,k < m->Lst listed k):RepR X.P J B M w0 sm.kv (sm.toSt s0) a w:=by
 obtain⟨e4,e5⟩:=B8 hm
 obtain⟨hwf,hlt⟩:=nU hm
 obtain⟨ρ1,hρ1,hrep⟩:=h.rep
 have hle:s0.nid<=sm.nid:=hwf.le
 refine⟨by show _=sm.tm.length; rw [e5]; exact h.asize,h.defers,h.base,h.inv,h.keeps,e4,ρ1,⟨by show _<=sm.nid; omega,hρ0.2.trans hρ1 hρ0.1⟩,fun E' ha=> ?_⟩
 have ha:Agree sm.nid ρ1 E':=ha
 have hL:AgL sm.la s0.nid listed ρ1 E':=fun j hj=>ha j (by
  rcases hj with hj | ⟨e,he,_,_,h2⟩
  ·omega
  ·have:=(hwf.span e he).2.2.1
   omega)
 obtain⟨hsim,hnew⟩:=hrep E' hL
 refine⟨hsim.less fun j o hj=> ?_,fun O hβ t=> ?_⟩
 ·refine vH (f:=fun _=>true) (fun e ws hw he=> ?_) (fun j o hj=> ?_) j o hj
  ·obtain⟨_,_,_,_,hem,_⟩:=mU hm he
   exact (hall e hem).symm
  refine gI hlow hwf ?_
  rcases O7 (f:=fun _=>true) (la:=sm.la) (H0:=s0.heap) hj with hj | ⟨e,he,_,hj⟩
  ·exact .inl hj
  ·exact .inr ⟨e,he,hall e.k (hlt e he),hj⟩
 ·by_cases hw:∃ k o,k < m∧os[k]? =some o∧o.dst=some t
  ·obtain⟨k,o,hk,ho,hdst⟩:=hw
   exact hnew k o t hk (hall k hk) ho hdst O hβ
  ·have hno:∀ k o,k < m->os[k]? =some o->o.dst≠some t:=fun k o hk ho e=>hw ⟨k,o,hk,ho,e⟩
   rw [h.old t (fun k o hk _ ho=>hno k o hk ho)]
   exact (I3 (s6 m) rfl hm hβ (fun k o _ hk ho=>hno k o hk ho)).1 (h0 E' (hρ1.trans (fun i hi=>ha i (by omega)) (d9 _)) O t)
theorem z0e {X:Cx} {J:Inv X.P} (hX:CxOk X J) {c:Bool} {B:Nat} {M:Nat->Prop} (hp:Par X.P B M) {w0:Bas} {os:List Oper} {m:Nat} (hd:Draws os m) {s0:St} {a0:Act} {ρ0:Num} {sm:HSt} (hm:bJ X c os s0.nid s0.heap s0.ds s0.tmps s0.obs m=some sm) (hlow:X0 s0.nid s0.heap=true) (hl:l5 sm.obs)
  (h0:∀ E',Agree s0.nid ρ0 E'->∀ O t,M0 E' O (D5 s0.tmps t) (a0.tmps.getD t undef)) {listed:Array Bool} {a:Act} {w:World}
  (h:HalfL X J B M w0 os m s0 a0 ρ0 sm listed a w) {i:Nat} (him:i < m) (hr:i∈Region.ready .any ⟨os⟩ listed) {rb:Option Nat} {K:Act->World->Prop} {Q:Exit->Act->World->Prop}
  (hK:∀ a' w',HalfL X J B M w0 os m s0 a0 ρ0 sm (listed.setIfInBounds i true) a' w'->K a' w'):wpOpIn (Fl rb) 0 X.P ⟨os⟩ Q i K a w:=by
 obtain⟨⟨hi,hnl⟩,o,ho,hpre⟩:=ready_iff.1 hr
 obtain⟨s1,hq1⟩:=wD (i:=i+1) (by omega) hm
 obtain⟨si,o',tmps',tv,ob',hsi,ho',he,e1,e3⟩:=E5 hq1
 rw [ho] at ho'
 cases ho'
 have hobs:=iX (by omega) hq1 hm hl
 rw [e3] at hobs
 obtain⟨_,elen⟩:=B8 hsi
 simp only [a8] at hobs
 have hsub:∀ O,KVok sm.kv O->KVok s1.kv O:=fun O hβ=>eU (by omega) hq1 hm hβ
 have hsubi:∀ O,KVok sm.kv O->KVok si.kv O:=fun O hβ=>eU (by omega) hsi hm hβ
 obtain⟨hwf,_⟩:=nU hm
 obtain⟨hwfi,hlti⟩:=nU hsi
 obtain⟨hwf1,_⟩:=nU hq1
 obtain⟨hn1,hla1⟩:=p0q he
 obtain⟨_,ex,hex1,hex2⟩:=rL (by omega:i+1<=m) hq1 hm
 have hn0:s0.nid<=si.nid:=hwfi.le
 have hsi_sm:∀ e∈si.la,e∈sm.la:=fun e he'=>by
  rw [hex1]
  refine b0v _ ?_
  rcases hla1 with g | ⟨fr,g,_⟩
  ·rw [g]; exact he'
  ·rw [g]; exact gK _ he'
 have entry:∀ e∈sm.la,(e∈si.la)∨(e.k=i∧e∈s1.la)∨(i < e.k∧s1.nid<=e.lo):=fun e he'=>by
  rw [hex1] at he'
  rcases zzA94.1 he' with he' | he'
  ·have:=hex2 e he'
   exact .inr (.inr ⟨by omega,this.2⟩)
  ·rcases hla1 with g | ⟨fr,g,_⟩
   ·rw [g] at he'; exact .inl he'
   ·have he2:=he'
    rw [g] at he'
    rcases zzA86.1 he' with e' | he'
    ·exact .inr (.inl ⟨by rw [e'],he2⟩)
    ·exact .inl he'
 have apart:∀ e∈sm.la,e.k≠i->∀ j,e.lo<=j->j < e.hi->¬ (si.nid<=j∧j < s1.nid):=fun e he' hne j h1 h2 h3=>by
  rcases entry e he' with h' | h' | h'
  ·have:=(hwfi.span e h').2.2.1
   omega
  ·exact hne h'.1
  ·omega
 obtain⟨E,hρ0,hrep⟩:=h.rep
 have hisz:i < listed.size:=hi
 have hback:∀ ρ1:Num,(∀ j,¬ (si.nid<=j∧j < s1.nid)->ρ1 j=E j)->∀ E',AgL sm.la s0.nid (listed.setIfInBounds i true) ρ1 E'->AgL sm.la s0.nid listed E E':=fun ρ1 hρ1 E' ha j hj=>by
  have h1:=ha j (by
   rcases hj with hj | ⟨e,he',hle,hjk⟩
   ·exact .inl hj
   ·exact .inr ⟨e,he',(A6 hisz).2 (.inr hle),hjk⟩)
  rw [h1]
  refine hρ1 j ?_
  rcases hj with hj | ⟨e,he',hle,h2,h3⟩
  ·omega
  ·exact apart e he' (fun e'=>hnl (by rw [<- e']; exact hle)) j h2 h3
 have hT:∀ E',AgL sm.la s0.nid listed E E'->∀ O,KVok sm.kv O->∀ t∈looks os o,M0 E' O (D5 si.tm t) (a.tmps.getD t undef):=by
  intro E' ha O hβ t ht
  obtain⟨_,hnw⟩:=hrep E' ha
  by_cases hw:∃ k ok,k < m∧Lst listed k∧os[k]? =some ok∧ok.dst=some t
  ·obtain⟨k,ok,hk,hlk,hok,hdk⟩:=hw
   have hki:k < i:=by
    rcases hd.slot i o him ho t ht k ok hk hok hdk with e | e | e
    ·subst e; exact absurd hlk hnl
    ·exact hd.fwd i o ho k e
    ·exact absurd (h.closed k ok hok hlk i e) hnl
   have:=hnw k ok t hk hlk hok hdk O hβ
   refine (I3 (by omega:i<=m) hsi hm hβ (fun k2 o2 hk1 hk2 ho2 hd2=> ?_)).2 this
   have:=hd.dup k k2 ok o2 t hk hk2 hok ho2 hdk hd2
   omega
  ·have hno:∀ k ok,k < m->Lst listed k->os[k]? =some ok->ok.dst≠some t:=fun k ok hk hlk hok e=>hw ⟨k,ok,hk,hlk,hok,e⟩
   rw [h.old t hno]
   refine (I3 (s6 i) rfl hsi (hsubi O hβ) (fun k ok _ hk hok hdk=> ?_)).1 (h0 E' (fun j hj=> ?_) O t)
   ·rcases hd.slot i o him ho t ht k ok (by omega) hok hdk with e | e | e
    ·omega
    ·exact hno k ok (by omega) (hpre k e) hok hdk
    ·have:=hd.fwd k ok hok i e
     omega
   ·rw [ha j (.inl hj)]; exact hρ0 j hj
 have hreach:∀ k,K9 k (Y7 os o)=true->Lst listed k:=by
  intro k hk
  refine lQ (L:=Lst listed) (fun p hp e he=> ?_) 400 (u5 o) [] hpre (fun p hp=>by cases hp) k (memN_iff.1 hk)
  unfold g0l at he
  split at he
  ·rename_i op hop; exact h.closed p op hop hp e he
  ·cases he
 have hSeen:∀ k,X6 (listed.setIfInBounds i true) k=true↔k=i∨X6 listed k=true:=fun k=>A6 hisz
 have hsee:∀ j ob,(wT os o si.la s0.heap).get j=some ob->(iU (X6 listed) sm.la s0.heap).get j=some ob:=fun j ob hj=>by
  refine gI hlow hwf ?_
  rcases l1y hj with hj | ⟨e,he',hk,hj⟩
  ·exact .inl hj
  ·exact .inr ⟨e,hsi_sm e he',hreach e.k hk,hj⟩
 have fin:∀ (ρ1:Num),(∀ j,¬ (si.nid<=j∧j < s1.nid)->ρ1 j=E j)->∀ (Hr:Heap) (v:Value) (w':World),(∀ j ob,(b0r (X6 (listed.setIfInBounds i true)) sm.ef (iU (X6 (listed.setIfInBounds i true)) sm.la s0.heap)).get j=some ob->Hr.get j=some ob)->
   (∀ E',AgL sm.la s0.nid (listed.setIfInBounds i true) ρ1 E'->Sim X.P B M E' Hr w'∧∀ O,KVok sm.kv O->M0 E' O tv v)->Keeps B M w w'->K (a.put o.dst v) w':=by
  intro ρ1 hρ1 Hr v w' hHr hfin hk
  have hag1:Agree s0.nid ρ0 ρ1:=fun j hj=>by rw [hρ1 j (by omega)]; exact hρ0 j hj
  refine hK _ _ ?_
  refine⟨by simpa using h.size,fun j oj hoj hlj e he'=> ?_,fun t ht hlt'=> ?_,by rw [jY]; exact h.asize,by rw [Y1]; exact h.defers,x7 h.base hk.size,J.keeps hp hk h.inv,h.keeps.trans hk,
   fun t hno=> ?_,ρ1,hag1,fun E' ha'=>⟨(hfin E' ha').1.less hHr,fun k ok d hkm hlk hok hdk O hβ=> ?_⟩⟩
  ·rw [A6 hisz] at hlj ⊢
   rcases hlj with rfl | hlj
   ·rw [ho] at hoj; cases hoj
    exact .inr (hpre e he')
   ·exact .inr (h.closed j oj hoj hlj e he')
  ·rw [A6 hisz] at hlt'
   rcases hlt' with rfl | hlt'
   ·omega
   ·exact h.late t ht hlt'
  ·rw [V4,a7 (fun hh=>hno i o him ((A6 hisz).2 (.inl rfl)) ho hh.1)]
   exact h.old t (fun k ok hkm hlk hok=>hno k ok hkm ((A6 hisz).2 (.inr hlk)) hok)
  ·rw [V4]
   by_cases hki:k=i
   ·subst hki
    rw [ho] at hok
    cases hok
    by_cases hds:d < a.tmps.size
    ·rw [f9 ⟨hdk,hds⟩]
     have hslot:=I3 (X:=X) (os:=os) (E:=E') (O:=O) (t:=d) (r:=v) (by omega:k+1<=m) hq1 hm hβ (fun k2 o2 hk1 hk2 ho2 hd2=>by
      have:=hd.dup k k2 o o2 d hkm hk2 ho ho2 hdk hd2
      omega)
     rw [<- hslot,e1]
     obtain⟨_,_,hl'⟩:=o0r he (B8 hsi).1
     rw [aA,f9 ⟨hdk,by rw [hl',elen,<- h.asize]; exact hds⟩]
     exact (hfin E' ha').2 O hβ
    ·
     have hnone:D5 sm.tm d= .unk:=by
      simp only [N8]
      have e7:sm.tm.length=s0.tmps.length:=(B8 hm).2
      have e8:a.tmps.size=s0.tmps.length:=h.asize
      have e9:a.tmps.size<=d:=gD hds
      rw [e0l (by omega)]
     rw [hnone]
     trivial
   ·have hlk':Lst listed k:=by
     rcases (A6 hisz).1 hlk with e | e
     ·exact absurd e hki
     ·exact e
    have hne:o.dst≠some d:=fun e=>hki (hd.dup k i ok o d hkm him hok ho hdk e)
    rw [a7 (fun hh=>hne hh.1)]
    exact (hrep E' (hback ρ1 hρ1 E' ha')).2 k ok d hkm hlk' hok hdk O hβ
 have front:∀ (fr:Heap),s1.la=⟨i,si.nid,s1.nid,fr⟩ ::si.la->∀ j ob,(iU (X6 (listed.setIfInBounds i true)) sm.la s0.heap).get j=some ob->Heap.get (fr++iU (X6 listed) sm.la s0.heap) j=some ob:=by
  intro fr hfr j ob hj
  have hkeys:∀ j o,fr.get j=some o->si.nid<=j∧j < s1.nid:=by
   rw [hfr] at hwf1
   exact hwf1.2.2.2
  have far:(j < s0.nid∨∃ e∈sm.la,e.k≠i∧e.lo<=j∧j < e.hi)->fr.get j=none:=fun hj'=>by
   cases hq:fr.get j with
   | none=>rfl
   | some o2=>
    have:=hkeys j o2 hq
    rcases hj' with h' | ⟨e,he',hne,h2,h3⟩
    ·omega
    ·exact absurd this (apart e he' hne j h2 h3)
  rw [z6]
  rcases O7 hj with hj' | ⟨e,he',hk,hj'⟩
  ·rw [far (.inl (iK hlow hj'))]
   exact gI hlow hwf (.inl hj')
  ·by_cases hki:e.k=i
   ·have:e=⟨i,si.nid,s1.nid,fr⟩:=by
     rcases entry e he' with h' | h' | h'
     ·have:=hlti e h'; omega
     ·have h2:=h'.2
      rw [hfr] at h2
      rcases zzA86.1 h2 with h2 | h2
      ·exact h2
      ·have:=hlti e h2; omega
     ·omega
    rw [this] at hj'
    rw [hj']
   ·obtain⟨_,_,_,h4⟩:=hwf.span e he'
    have:=h4 j ob hj'
    rw [far (.inr ⟨e,he',hki,this.1,this.2⟩)]
    rcases (hSeen e.k).1 hk with h' | h'
    ·exact absurd h' hki
    ·exact gI hlow hwf (.inr ⟨e,he',h',hj'⟩)
 have calm:s1.la=si.la->∀ j ob,(iU (X6 (listed.setIfInBounds i true)) sm.la s0.heap).get j=some ob->(iU (X6 listed) sm.la s0.heap).get j=some ob:=by
  intro hno j ob hj
  refine gI hlow hwf ?_
  rcases O7 hj with hj' | ⟨e,he',hk,hj'⟩
  ·exact .inl hj'
  ·refine .inr ⟨e,he',?_,hj'⟩
   rcases (hSeen e.k).1 hk with h' | h'
   ·exfalso
    rcases entry e he' with g | g | g
    ·have:=hlti e g; omega
    ·have g2:=g.2
     rw [hno] at g2
     have:=hlti e g2; omega
    ·omega
   ·exact h'
 have wrote:∀ {e ws hw},sm.ef=some ⟨e,ws,hw⟩->s1.ef=si.ef->e≠i∧(∀ j o,K9 j ws=false->hw.get j=some o->False)∧(∀ j o,hw.get j=some o->K9 j ws=true)∧(e < i->si.ef=some ⟨e,ws,hw⟩)∧(i < e->si.ef=none)∧
   (X6 listed e=true->∀ j,K9 j ws=true->¬ (si.nid<=j∧j < s1.nid))∧(i < e->X6 listed e=true->∀ j ob,(wT os o si.la s0.heap).get j=some ob->K9 j ws=false):=by
  intro e ws hw hsm hns
  obtain⟨se,sx,oe,H',hem,hse,hsx,hoe,g1,g2,g3,g4,g5,g6⟩:=mU hm hsm
  have hei:e≠i:=fun e'=>by
   subst e'
   rw [hsi] at hse; cases hse
   rw [hq1] at hsx; cases hsx
   rw [hns,g1] at g2
   cases g2
  obtain⟨_,exx,hexx1,_⟩:=rL (by omega:e+1<=m) hsx hm
  have hse_sm:∀ e'∈se.la,e'∈sm.la:=fun e' he'=>by
   rw [hexx1,g3]
   exact b0v _ (gK _ he')
  have hreachE:X6 listed e=true->∀ k,K9 k (Y7 os oe)=true->Lst listed k:=by
   intro hle k hk
   refine lQ (L:=Lst listed) (fun p hp e he=> ?_) 400 (u5 oe) [] (fun p hp=>h.closed e oe hoe hle p hp) (fun p hp=>by cases hp) k (memN_iff.1 hk)
   unfold g0l at he
   split at he
   ·rename_i op hop; exact h.closed p op hop hp e he
   ·cases he
  refine⟨hei,fun j o hj hg=> ?_,fun j o hg=> ?_,fun hlt=> ?_,fun hlt=> ?_,fun hle j hj hcon=> ?_,fun hlt hle j ob hj=> ?_⟩
  ·rw [g4,l0c hj] at hg; cases hg
  ·rw [g4] at hg; exact (T4 hg).2
  ·rcases xC (by omega:e+1<=i) hsx hsi with e' | e'
   ·rw [e',g2]
   ·rw [g2] at e'; cases e'
  ·rcases xC (by omega:i<=e) hsi hse with e' | e'
   ·rw [<- e',g1]
   ·exact e'
  ·have:=g5 j hj
   simp only [p1q,xX,A9,V1,G1] at this
   rcases this with h' | h'
   ·rcases lL h' with h' | ⟨e',he',hk,h2,h3⟩
    ·omega
    ·exact apart e' (hse_sm e' he') (fun e''=>hnl (by rw [<- e'']; exact hreachE hle e'.k hk)) j h2 h3 hcon
   ·exact apart ⟨e,se.nid,sx.nid,[]⟩ (by rw [hexx1,g3]; simp) hei j h'.1 h'.2 hcon
  ·obtain⟨hwfs,_⟩:=nU hse
   obtain⟨_,exy,hexy,_⟩:=rL (by omega:i<=e) hsi hse
   rcases g6 i o hlt ho with h' | h'
   ·exact absurd (hreachE hle i h') hnl
   ·exact b0u h' (j:=j) (o:=ob) (c2m hlow hwfs (fun e' he'=>by rw [hexy]; exact b0v _ he') hj)
 have same:∀ {e},e≠i->X6 (listed.setIfInBounds i true) e=X6 listed e:=fun {e} hne=>by
  have h1:=hSeen e
  cases hs:X6 listed e with
  | true=>exact h1.2 (.inr hs)
  | false=>
   cases hs':X6 (listed.setIfInBounds i true) e with
   | false=>rfl
   | true=>
    rcases h1.1 hs' with h' | h'
    ·exact absurd h' hne
    ·rw [hs] at h'; cases h'
 have hseeE:s1.ef=si.ef->∀ j ob,(f2r si.ef (wT os o si.la s0.heap)).get j=some ob->(b0r (X6 listed) sm.ef (iU (X6 listed) sm.la s0.heap)).get j=some ob:=by
  intro hns j ob hj
  cases hsm:sm.ef with
  | none=>
   have:si.ef=none:=by
    rcases xC (by omega:i<=m) hsi hm with e | e
    ·rw [<- e,hsm]
    ·exact e
   rw [this] at hj
   exact hsee j ob hj
  | some q=>
   obtain⟨e,ws,hw⟩:=q
   obtain⟨hei,w1,w2,w3,w4,w5,w6⟩:=wrote hsm hns
   have key:∀ j ob,(wT os o si.la s0.heap).get j=some ob->(X6 listed e=true->K9 j ws=false)->(b0r (X6 listed) (some ⟨e,ws,hw⟩) (iU (X6 listed) sm.la s0.heap)).get j=some ob:=by
    intro j ob g1 g2
    simp only [b0r]
    split
    ·rename_i hse
     rw [z6]
     split
     ·rename_i o2 ho2
      exact absurd ho2 (fun hh=>w1 j o2 (g2 hse) hh)
     ·exact X8 (hsee j ob g1) (g2 hse)
    ·exact hsee j ob g1
   rcases Nat.lt_or_gt_of_ne hei with hlt | hlt
   ·rw [w3 hlt] at hj
    obtain⟨g1,g2⟩:=J7 hj
    exact key j ob g1 (fun _=>g2)
   ·rw [w4 hlt] at hj
    exact key j ob hj (fun hse=>w6 hlt hse j ob hj)
 have frontE:∀ (fr:Heap),s1.la=⟨i,si.nid,s1.nid,fr⟩ ::si.la->s1.ef=si.ef->∀ j ob,(b0r (X6 (listed.setIfInBounds i true)) sm.ef (iU (X6 (listed.setIfInBounds i true)) sm.la s0.heap)).get j=some ob->
   Heap.get (fr++b0r (X6 listed) sm.ef (iU (X6 listed) sm.la s0.heap)) j=some ob:=by
  intro fr hfr hns j ob hj
  cases hsm:sm.ef with
  | none=>rw [hsm] at hj; exact front fr hfr j ob hj
  | some q=>
   obtain⟨e,ws,hw⟩:=q
   obtain⟨hei,w1,w2,w3,w4,w5,w6⟩:=wrote hsm hns
   rw [hsm] at hj
   simp only [b0r,same hei] at hj ⊢
   split at hj
   ·rename_i hse
    rw [z6] at hj
    split at hj
    ·rename_i o2 ho2
     cases hj
     rw [z6,z6,ho2]
     cases hq:fr.get j with
     | none=>rfl
     | some o3=>
      exfalso
      have hkeys:∀ j o,fr.get j=some o->si.nid<=j∧j < s1.nid:=by
       rw [hfr] at hwf1
       exact hwf1.2.2.2
      exact w5 hse j (w2 j _ ho2) (hkeys j o3 hq)
    ·obtain⟨g1,g2⟩:=J7 hj
     have:=front fr hfr j ob g1
     rw [z6] at this ⊢
     split at this
     ·exact this
     ·rw [z6]
      split
      ·rename_i o2 ho2
       exact absurd ho2 (fun hh=>w1 j o2 g2 hh)
      ·exact X8 this g2
   ·exact front fr hfr j ob hj
 have calmE:s1.la=si.la->s1.ef=si.ef->∀ j ob,(b0r (X6 (listed.setIfInBounds i true)) sm.ef (iU (X6 (listed.setIfInBounds i true)) sm.la s0.heap)).get j=some ob->(b0r (X6 listed) sm.ef (iU (X6 listed) sm.la s0.heap)).get j=some ob:=by
  intro hno hns
  refine vH (fun e ws hw hsm=> ?_) (calm hno)
  exact same (wrote hsm hns).1
 rcases K6 he with ⟨r,hr1,hr2,_,hr4,hr5,hr6⟩ | ⟨r,hr1,hr2,hr3,hr4,hr5,hr6⟩ | ⟨_,fr,hr1,hr4,hr6⟩ | ⟨_,hr0,v0,H',ws,hr1,_,_,htv,hr4,hr6,_⟩
 ·have hrh:r.h=f2r si.ef (wT os o si.la s0.heap):=by
   rw [F4] at hr1
   split at hr1
   ·cases hr1
   ·cases hr1; rfl
   ·split at hr1
    ·cases hr1
    ·rename_i hb
     cases hr1
     rcases K2 hb with ⟨r0,hb1,er⟩ | ⟨hq0,_⟩
     ·subst er; exact (P5 hb1).1
     ·cases hq0
  rw [<- hr2] at hobs
  refine cY hX ho hr1 (.inl rfl) hobs.1 hp (F:=AgL sm.la s0.nid (listed.setIfInBounds i true) E) (E:=E) (fun _ _=>rfl) (Cβ:=KVok sm.kv) (B8 hm).1 hsub h.base h.inv (fun E' ha=>(hrep E' (hback E (fun _ _=>rfl) E' ha)).1.less (hseeE hr6)) (fun E' ha=>hT E' (hback E (fun _ _=>rfl) E' ha)) (fun h=>by cases h)
   (fun v w' hfin hk hbl=>fin E (fun _ _=>rfl) _ v w' (calmE hr4 hr6) (fun E' ha=>⟨((hrep E' (hback E (fun _ _=>rfl) E' ha)).1).below (hbl rfl),(hfin E' ha).2⟩) hk)
 ·rw [<- hr2] at hobs
  let ρ1:Num:=fun j=>if j=si.nid then some w.heap.size else E j
  have hρ1:∀ j,¬ (si.nid<=j∧j < s1.nid)->ρ1 j=E j:=fun j hj=>by
   show (if j=si.nid then _ else E j)=_
   rw [a7 (by omega)]
  have hnw1:∀ E',AgL sm.la s0.nid (listed.setIfInBounds i true) ρ1 E'->E' si.nid=some w.heap.size:=fun E' ha=>by
   rw [ha si.nid (.inr ⟨⟨i,si.nid,si.nid+1,r.h⟩,by rw [hex1,hr4]; simp,(A6 hisz).2 (.inl rfl),d9 _,Q7 _⟩)]
   show (if _=_ then _ else _)=_
   rw [f9 rfl]
  obtain⟨_,_,hall⟩:=j0v hr3 hr1
  have he':=hall (b0r (X6 listed) sm.ef (iU (X6 listed) sm.la s0.heap))
  refine cY hX ho he' (.inr hr3) hobs.1 hp (F:=AgL sm.la s0.nid (listed.setIfInBounds i true) ρ1) (E:=ρ1) (fun _ _=>rfl) (Cβ:=KVok sm.kv) (B8 hm).1 hsub h.base h.inv (fun E' ha=>(hrep E' (hback ρ1 hρ1 E' ha)).1) (fun E' ha=>hT E' (hback ρ1 hρ1 E' ha)) (fun _=>hnw1)
   (fun v w' hfin hk _=>fin ρ1 hρ1 (r.h++b0r (X6 listed) sm.ef (iU (X6 listed) sm.la s0.heap)) v w' (frontE r.h (by rw [hr4,hr5]) hr6) hfin hk)
 ·have hFp:∀ E',AgL sm.la s0.nid listed E E'->∀ j,a1k (fun k=>K9 k (Y7 os o)) s0.nid si.la j=true->E' j=E j:=fun E' ha j hj=>by
   refine ha j ?_
   rcases lL hj with h' | ⟨e,he',hk,h2⟩
   ·exact .inl h'
   ·exact .inr ⟨e,hsi_sm e he',hreach e.k hk,h2⟩
  have hpn:∀ j,a1k (fun k=>K9 k (Y7 os o)) s0.nid si.la j=true->j < si.nid:=fun j hj=>by
   rcases lL hj with h' | ⟨e,he',_,h2⟩
   ·omega
   ·have:=(hwfi.span e he').2.2.1
    omega
  refine p0o hX ho hr1 hobs.1 (F:=AgL sm.la s0.nid listed E) (E:=E) (fun _ _=>rfl) hFp hpn (Cβ:=KVok sm.kv) (B8 hm).1 hsub h.base h.inv (fun E' ha=>(hrep E' ha).1) (hseeE hr6) hT
   (fun v w' ρn hnn hfr hfin hk=> ?_)
  let ρ2:Num:=fun j=>if si.nid<=j∧j < s1.nid then ρn j else E j
  have hρ2:∀ j,¬ (si.nid<=j∧j < s1.nid)->ρ2 j=E j:=fun j hj=>a7 hj
  refine fin ρ2 hρ2 _ v w' (frontE fr hr4 hr6) (fun E' ha=>hfin E' (hback ρ2 hρ2 E' ha) (fun j h1 h2=> ?_)) hk
  rw [ha j (.inr ⟨⟨i,si.nid,s1.nid,fr⟩,by rw [hex1,hr4]; simp,(A6 hisz).2 (.inl rfl),h1,h2⟩)]
  exact f9 ⟨h1,h2⟩
 ·
  have hsm:sm.ef=some ⟨i,ws,Q2 H' ws⟩:=by
   rcases xC (by omega:i+1<=m) hq1 hm with e | e
   ·rw [e,hr6]
   ·rw [hr6] at e; cases e
  have hcur:b0r (X6 listed) sm.ef (iU (X6 listed) sm.la s0.heap)=iU (X6 listed) sm.la s0.heap:=by
   rw [hsm]
   simp only [b0r]
   split
   ·rename_i hs; exact absurd hs hnl
   ·rfl
  obtain⟨H2,hr2,g2,g3⟩:=m1y hr1 hsee
  obtain⟨β0,hβ0⟩:=(B8 hm).1
  refine g1q ho hr2 hobs.1 (F:=AgL sm.la s0.nid listed E) (E:=E) (fun _ _=>rfl) h.base (fun E' ha=>hcur ▸ (hrep E' ha).1) (O:=β0) (fun E' ha=>hT E' ha β0 hβ0) (fun v w' bn bk hfin hk=> ?_)
  let ρ2:Num:=fun j=>if si.nid<=j∧j < s1.nid then (if j=si.nid then bn else bk) else E j
  have hρ2:∀ j,¬ (si.nid<=j∧j < s1.nid)->ρ2 j=E j:=fun j hj=>a7 hj
  have hin:∀ E',AgL sm.la s0.nid (listed.setIfInBounds i true) ρ2 E'->∀ j,si.nid<=j->j < s1.nid->E' j=if j=si.nid then bn else bk:=fun E' ha j h1 h2=>by
   rw [ha j (.inr ⟨⟨i,si.nid,s1.nid,[]⟩,by rw [hex1,hr4]; simp,(A6 hisz).2 (.inl rfl),h1,h2⟩)]
   exact f9 ⟨h1,h2⟩
  refine fin ρ2 hρ2 H2 v w' (fun j ob hj=> ?_) (fun E' ha=> ?_) hk
  ·rw [hsm] at hj
   simp only [b0r] at hj
   rw [(hSeen i).2 (.inl rfl)] at hj
   simp only at hj
   rw [z6] at hj
   split at hj
   ·rename_i o2 ho2
    cases hj
    obtain⟨k1,k2⟩:=T4 ho2
    exact g2 j _ k2 k1
   ·obtain⟨k1,k2⟩:=J7 hj
    rw [g3 j k2]
    exact front [] hr4 j ob k1
  ·obtain⟨k1,k2⟩:=hfin E' (hback ρ2 hρ2 E' ha) (fun hn=>⟨by rw [hin E' ha si.nid (d9 _) (by omega),f9 rfl],by rw [hin E' ha (si.nid+1) (by omega) (by omega),a7 (by omega)]⟩)
   exact⟨k2,fun O _=>by rw [htv]; exact k1⟩
def evT (X:Cx) (os:List Oper) (m:Nat) (st:St×KV):Nat->Option (St×KV)
 | 0=>some st
 | k+1=>match evT X os m st k with
  | none=>none
  | some (s,kv)=>match p1c os (m+k) with
   | none=>none
   | some o=>X7 X false os o s kv
theorem fF {X:Cx} {os:List Oper} {m:Nat} {st:St×KV} {k:Nat} {s':St} {kv':KV} (h:evT X os m st (k+1)=some (s',kv')):
  ∃ s kv o,evT X os m st k=some (s,kv)∧os[m+k]? =some o∧X7 X false os o s kv=some (s',kv'):=by
 simp only [evT,gM] at h
 split at h
 ·cases h
 ·rename_i s kv hs
  split at h
  ·cases h
  ·rename_i o ho
   exact⟨s,kv,o,hs,ho,h⟩
theorem gS {X:Cx} {os:List Oper} {m:Nat} {st:St×KV} :∀ {j i:Nat} {si sj:St} {ki kj:KV},i<=j->evT X os m st i=some (si,ki)->evT X os m st j=some (sj,kj)->l5 sj.obs->l5 si.obs
 | 0,i,si,sj,ki,kj,hij,h1,h2,hl=>by
  obtain rfl:i=0:=by omega
  rw [h1] at h2; cases h2; exact hl
 | j+1,i,si,sj,ki,kj,hij,h1,h2,hl=>by
  by_cases e:i=j+1
  ·subst e; rw [h1] at h2; cases h2; exact hl
  ·obtain⟨s,kv,o,hs,_,ho⟩:=fF h2
   exact gS (by omega) h1 hs (zP ho hl)
theorem d0h {X:Cx} {os:List Oper} {m:Nat} {st:St×KV} :∀ {j i:Nat} {r:St×KV},i<=j->evT X os m st j=some r->∃ q,evT X os m st i=some q
 | 0,i,r,hij,h=>by
  obtain rfl:i=0:=by omega
  exact⟨r,h⟩
 | j+1,i,r,hij,h=>by
  by_cases e:i=j+1
  ·subst e; exact⟨r,h⟩
  ·obtain⟨s',kv'⟩:=r
   obtain⟨s,kv,o,hs,_,_⟩:=fF h
   exact d0h (by omega) hs
theorem uD {X:Cx} {os:List Oper} {m:Nat} {st:St×KV} :∀ {i:Nat} {s:St} {kv:KV},evT X os m st i=some (s,kv)->s.rd=st.1.rd∧s.mks=st.1.mks∧s.bs=st.1.bs
 | 0,s,kv,h=>by simp only [evT] at h; cases h; exact⟨rfl,rfl,rfl⟩
 | i+1,s,kv,h=>by
  obtain⟨s1,k1,o,h1,_,h2⟩:=fF h
  obtain⟨e1,e2,e3⟩:=uD h1
  rw [F8] at h2
  split at h2
  ·cases h2
  ·cases h2; exact⟨e1,e2,e3⟩
theorem vP {X:Cx} {J:Inv X.P} (hX:CxOk X J) {B:Nat} {M:Nat->Prop} (hp:Par X.P B M) {w0:Bas} {os:List Oper} {m:Nat} (hd:Draws os m) {st:St×KV} {sn:St} {kn:KV} (hn:evT X os m st (os.length-m)=some (sn,kn)) (hl:l5 sn.obs)
  {rb:Option Nat} {Q:Exit->Act->World->Prop} (hQ:∀ a w,RepR X.P J B M w0 kn sn a w->Q .normal a w):
  ∀ (fuel t:Nat) (listed:Array Bool) (s:St) (kv:KV) (a:Act) (w:World),m<=t->t<=os.length->os.length<=t+fuel->listed.size=os.length->(∀ j,j < os.length->(Lst listed j↔j < t))->
   evT X os m st (t-m)=some (s,kv)->RepR X.P J B M w0 kv s a w->wpAnyIn (Fl rb) 0 X.P .any ⟨os⟩ Q fuel listed a w:=by
 intro fuel
 induction fuel with
 | zero=>
  intro t listed s kv a w hmt htn hf hsz hL hs hR
  obtain rfl:t=os.length:=by omega
  rw [hs] at hn
  cases hn
  refine⟨?_,hQ a w hR⟩
  cases hr:Region.ready .any ⟨os⟩ listed with
  | nil=>rfl
  | cons x xs=>
   have:x∈Region.ready .any ⟨os⟩ listed:=by rw [hr]; simp
   obtain⟨⟨h1,h2⟩,_⟩:=ready_iff.1 this
   exact absurd ((hL x (by omega)).2 (by omega)) h2
 | succ fuel ih=>
  intro t listed s kv a w hmt htn hf hsz hL hs hR
  by_cases htl:t=os.length
  ·subst htl
   rw [hs] at hn
   cases hn
   refine⟨fun _=>hQ a w hR,fun i hi=> ?_⟩
   obtain⟨⟨h1,h2⟩,_⟩:=ready_iff.1 hi
   exact absurd ((hL i (by omega)).2 (by omega)) h2
  ·have htlt:t < os.length:=by omega
   obtain⟨ot,hot⟩:∃ o,os[t]? =some o:=⟨os[t],by simp [htlt]⟩
   refine⟨fun h0=> ?_,fun i hi=> ?_⟩
   ·exfalso
    have:t∈Region.ready .any ⟨os⟩ listed:=ready_iff.2 ⟨⟨by omega,fun h=>by have:=(hL t htlt).1 h; omega⟩,ot,hot,fun e he=>by
     have:=hd.fwd t ot hot e he
     exact (hL e (by omega)).2 this⟩
    rw [h0] at this
    cases this
   ·obtain⟨⟨h1,h2⟩,o,ho,hpre⟩:=ready_iff.1 hi
    have hit:i=t:=by
     rcases Z8 i t with h | h | h
     ·exact absurd ((hL i (by omega)).2 h) h2
     ·exact h
     ·exfalso
      have:=hpre (i-1) (hd.chain i o (by omega) ho)
      have:=(hL (i-1) (by omega)).1 this
      omega
    subst hit
    obtain⟨⟨s1,k1⟩,hq1⟩:=d0h (i:=i-m+1) (by omega) hn
    obtain⟨s',kv',o',g1,g2,g3⟩:=fF hq1
    rw [hs] at g1
    cases g1
    rw [show m+(i-m)=i by omega] at g2
    exact cH hX g2 g3 (gS (by omega) hq1 hn hl) hp hR (fun a' w' hR'=>ih (i+1) _ s1 k1 a' w' (by omega) (by omega) (by omega) (by simpa using hsz) (fun j hj=>by
     rw [A6 (by omega)]
     constructor
     ·rintro (rfl | h)
      ·omega
      ·have:=(hL j hj).1 h; omega
     ·intro h
      by_cases e:j=i
      ·exact .inl e
      ·exact .inr ((hL j hj).2 (by omega))) (by rw [show i+1-m=i-m+1 by omega]; exact hq1) hR')
theorem r0h {X:Cx} {J:Inv X.P} (hX:CxOk X J) {c:Bool} {B:Nat} {M:Nat->Prop} (hp:Par X.P B M) {w0:Bas} {os:List Oper} {m:Nat} (hd:Draws os m) {s0 sn:St} {kn:KV} {sm:HSt} (hlow:X0 s0.nid s0.heap=true)
  (hm:bJ X c os s0.nid s0.heap s0.ds s0.tmps s0.obs m=some sm) (hn:evT X os m (sm.toSt s0,sm.kv) (os.length-m)=some (sn,kn)) (hl:l5 sn.obs)
  {a0:Act} {E:Num} (h0:∀ E',Agree s0.nid E E'->∀ O t,M0 E' O (D5 s0.tmps t) (a0.tmps.getD t undef)) (hρ0:w0.n<=s0.nid∧Agree w0.n w0.E E)
  {rb:Option Nat} {Q:Exit->Act->World->Prop} (hQ:∀ a w,RepR X.P J B M w0 kn sn a w->Q .normal a w):
  ∀ (fuel:Nat) (listed:Array Bool) (a:Act) (w:World),unl listed os.length<=fuel->HalfL X J B M w0 os m s0 a0 E sm listed a w->wpAnyIn (Fl rb) 0 X.P .any ⟨os⟩ Q fuel listed a w:=by
 have hlm:l5 sm.obs:=gS (X:=X) (os:=os) (m:=m) (s6 _) rfl hn hl
 have ht0:evT X os m (sm.toSt s0,sm.kv) (m-m)=some (sm.toSt s0,sm.kv):=by rw [L0]; rfl
 intro fuel
 induction fuel with
 | zero=>
  intro listed a w hf h
  have hall:∀ k,k < os.length->Lst listed k:=fun k hk=>e0e (by omega) hk
  have hmn:m=os.length:=by
   rcases J4 m os.length with hlt | hge
   ·exact absurd (hall m hlt) (h.late m (d9 _))
   ·have:=hd.le; omega
  subst hmn
  exact vP hX hp hd hn hl hQ 0 os.length listed _ sm.kv a w (d9 _) (d9 _) (by omega) h.size (fun j hj=>⟨fun _=>hj,fun _=>hall j hj⟩) ht0 (h0z hm hlow h0 h hρ0 (fun k hk=>hall k hk))
 | succ fuel ih=>
  intro listed a w hf h
  by_cases hall:∀ k,k < m->Lst listed k
  ·refine vP hX hp hd hn hl hQ (fuel+1) m listed _ sm.kv a w (d9 _) hd.le ?_ h.size (fun j hj=>⟨fun hlj=> ?_,fun hj'=>hall j hj'⟩) ht0 (h0z hm hlow h0 h hρ0 hall)
   ·have hc:(List.range os.length).countP (fun i=> !Nat.blt i m)<=unl listed os.length:=by
     refine List.countP_mono_left (fun z _ hz=> ?_)
     simp only [o0s] at hz ⊢
     cases hzl:listed.getD z false
     ·rfl
     ·exfalso
      refine h.late z ?_ hzl
      rcases J4 z m with h' | h'
      ·rw [show zO1 z m=true by simp [Nat.blt_eq]; exact h'] at hz; cases hz
      ·exact h'
    have hc2:∀ n,(List.range n).countP (fun i=> !Nat.blt i m)=n-m:=by
     intro n
     induction n with
     | zero=>simp
     | succ n ihn=>
      rw [List.range_succ,List.countP_append,ihn]
      simp only [List.countP_cons,List.countP_nil,I0,o0s]
      by_cases hnm:n < m
      ·rw [a7 (by rw [show zO1 n m=true by simp [Nat.blt_eq]; exact hnm]; simp)]; omega
      ·rw [f9 (by cases hb:zO1 n m; rfl; exact absurd (by simpa [Nat.blt_eq] using hb) hnm)]; omega
    rw [hc2] at hc
    omega
   ·rcases J4 j m with h' | h'
    ·exact h'
    ·exact absurd hlj (h.late j h')
  ·have hex:∃ k,k < m∧¬ Lst listed k:=by
    rcases Classical.em (∃ k,k < m∧¬ Lst listed k) with h' | h'
    ·exact h'
    ·exact absurd (fun k hk=>a0s fun hn=>h' ⟨k,hk,hn⟩) hall
   refine⟨fun hr0=> ?_,fun i hi=> ?_⟩
   ·exfalso
    haveI:DecidablePred fun k=>¬ Lst listed k:=fun k=>Classical.propDecidable _
    obtain⟨k,hk,hnl,hmin⟩:=r1d m hex
    obtain⟨o,ho⟩:∃ o,os[k]? =some o:=⟨os[k]'(by have:=hd.le; omega),by have:=hd.le; simp [show k < os.length by omega]⟩
    have:k∈Region.ready .any ⟨os⟩ listed:=ready_iff.2 ⟨⟨by rw [h.size]; have:=hd.le; omega,hnl⟩,o,ho,fun e he=>a0s fun hn=>hmin e (hd.fwd k o ho e he) hn⟩
    rw [hr0] at this
    cases this
   ·obtain⟨⟨h1,h2⟩,o,ho,hpre⟩:=ready_iff.1 hi
    have hin:i < os.length:=by rw [<- h.size]; exact h1
    have him:i < m:=by
     rcases Z8 i m with h' | h' | h'
     ·exact h'
     ·subst h'
      obtain⟨k,hk,hnk⟩:=hex
      exact absurd (c0h hd hin h.closed ho hpre (i-k) k (d9 _) hk) hnk
     ·exact absurd (hpre (i-1) (hd.chain i o h' ho)) (h.late (i-1) (by omega))
    refine z0e hX hp hd hm hlow hlm h0 h him hi (fun a' w' h'=>ih _ a' w' ?_ h')
    have:=q0u hin h.size h2
    omega
def k0w:Nat->List Oper->Bool
 | 0,_=>false
 | _,[] =>false
 | m+1,o ::r=>fL o.op || k0w m r
def b0c (X:Cx) (os:List Oper) (m:Nat) (s:St):Option St:=
 match s with
 | ⟨tm,hp,nid,ds,obs,lp,rd,mk,bs⟩=>match X0 nid hp with
  | false=>none
  | true=>match bJ X true os nid hp ds tm obs m with
   | none=>none
   | some ⟨tm',la,ob,kv,nid',ef⟩=>match evT X os m (⟨tm',b0r (fun _=>true) ef (iU (fun _=>true) la hp),nid',ds,ob,lp,rd,mk,bs⟩,kv) (os.length-m) with
    | none=>none
    | some (s',_)=>some s'
theorem sW {X:Cx} {os:List Oper} {m:Nat} {s s':St} (h:b0c X os m s=some s'):
  X0 s.nid s.heap=true∧∃ hm kn,bJ X true os s.nid s.heap s.ds s.tmps s.obs m=some hm∧evT X os m (hm.toSt s,hm.kv) (os.length-m)=some (s',kn):=by
 unfold b0c at h
 dsimp only at h
 split at h
 ·cases h
 ·rename_i hlow
  split at h
  ·cases h
  ·rename_i he
   split at h
   ·cases h
   ·rename_i kn ht
    cases h
    exact⟨hlow,_,_,he,ht⟩
end
noncomputable section
def pZ (o:Oper):Option Nat:=
 match o.dst,o.guard with
 | none,none=>match o.op with
  | .store _ (.tmp d) _=>some d
  | _=>none
 | _,_=>none
def eF (tm:List TV):List Oper->Option (List Nat)
 | [] =>some []
 | o ::r=>match pZ o with
  | none=>none
  | some d=>match D5 tm d with
   | .v (.pointer (some ⟨id,_,_⟩))=>match eF tm r with
    | some l=>some (id ::l)
    | none=>none
   | _=>none
def tG (acc:List Nat) (t:Nat):Nat->List Oper->Bool
 | _,[] =>true
 | k,o ::r=>(match o.dst with
  | some d=> !(zO0 d t) || K9 k acc
  | none=>true) && tG acc t (k+1) r
theorem qO {acc:List Nat} {t:Nat} :∀ {r:List Oper} {k0:Nat},tG acc t k0 r=true->∀ k o,r[k]? =some o->o.dst=some t->(k0+k)∈acc
 | [],k0,_,k,o,ho,_=>by simp at ho
 | x ::r,k0,h,k,o,ho,hd=>by
  simp only [tG,A9] at h
  cases k with
  | zero=>
   simp only [dF,U9] at ho
   subst ho
   rw [hd] at h
   simp only [f0e,Bool.not_true,Bool.false_or,memN_iff] at h
   exact h.1
  | succ k=>
   simp only [bK] at ho
   have:=qO h.2 k o ho hd
   rw [show k0+(k+1)=k0+1+k by omega]
   exact this
def sI (hd:List Oper) (acc:List Nat):List Nat->Bool
 | [] =>true
 | t ::r=>tG acc t 0 hd && sI hd acc r
theorem kY {hd:List Oper} {acc:List Nat} :∀ {l:List Nat},sI hd acc l=true->∀ t∈l,tG acc t 0 hd=true
 | [],_,t,ht=>by cases ht
 | x ::r,h,t,ht=>by
  simp only [sI,A9] at h
  rcases zzA86.1 ht with rfl | ht
  ·exact h.1
  ·exact kY h.2 t ht
def mC (os hd:List Oper):List Nat->List Oper->Bool
 | _,[] =>true
 | acc,o ::r=>sI hd (u5 o++acc) (looks os o) && mC os hd (u5 o++acc) r
theorem fV {os hd:List Oper} {L:Nat->Prop} :∀ {r:List Oper} {acc:List Nat},mC os hd acc r=true->(∀ e∈acc,L e)->∀ (k:Nat) (o:Oper),r[k]? =some o->(∀ (j:Nat) (oj:Oper),j<=k->r[j]? =some oj->∀ e∈u5 oj,L e)->
  ∀ t∈looks os o,∀ (i:Nat) (oi:Oper),hd[i]? =some oi->oi.dst=some t->L i
 | [],acc,_,_,k,o,ho,_=>by simp at ho
 | x ::r,acc,h,ha,k,o,ho,hp=>by
  simp only [mC,A9] at h
  have hacc:∀ e∈u5 x++acc,L e:=fun e he=>by
   rcases zzA94.1 he with he | he
   ·exact hp 0 x (s6 _) rfl e he
   ·exact ha e he
  cases k with
  | zero=>
   simp only [dF,U9] at ho
   subst ho
   intro t ht i oi hi hd'
   have:=qO (kY h.1 t ht) i oi hi hd'
   rw [I0] at this
   exact hacc i this
  | succ k=>
   simp only [bK] at ho
   exact fV h.2 hacc k o ho (fun j oj hj hoj=>hp (j+1) oj (by omega) (by simpa using hoj))
def f0a:List Oper->Nat
 | [] =>0
 | o ::r=>match pZ o with
  | some _=>0
  | none=>f0a r+1
def q0v (os:List Oper) (m:Nat):Bool:=
 Nat.ble m os.length && vE 0 os && g1t (os.take m) && wW os (os.take m) 0 (os.take m) && mC os (os.take m) [] (os.drop m) && dJ (m+1) (os.drop (m+1)) && !(k0w m os)
structure Floats (os:List Oper) (m:Nat):Prop where
 le:m<=os.length
 fwd:∀ i o,os[i]? =some o->∀ e∈u5 o,e < i
 dup:∀ i k oi ok d,i < m->k < m->os[i]? =some oi->os[k]? =some ok->oi.dst=some d->ok.dst=some d->i=k
 slot:∀ i o,i < m->os[i]? =some o->∀ t∈looks os o,∀ k ok,k < m->os[k]? =some ok->ok.dst=some t->k=i∨k∈u5 o∨i∈u5 ok
 tail:∀ (L:Nat->Prop) t o,m<=t->os[t]? =some o->(∀ j oj,m<=j->j<=t->os[j]? =some oj->∀ e∈u5 oj,L e)->∀ x∈looks os o,∀ k ok,k < m->os[k]? =some ok->ok.dst=some x->L k
 chain:∀ t o,m < t->os[t]? =some o->(t-1)∈u5 o
 quiet:∀ i o,i < m->os[i]? =some o->fL o.op=false
theorem sQ:∀ {m:Nat} {os:List Oper},k0w m os=false->∀ i o,i < m->os[i]? =some o->fL o.op=false
 | 0,_,_,i,o,hi,_=>by omega
 | m+1,[],_,i,o,_,ho=>by simp at ho
 | m+1,x ::r,h,i,o,hi,ho=>by
  simp only [k0w,h0u] at h
  cases i with
  | zero=>simp only [dF,U9] at ho; subst ho; exact h.1
  | succ i=>simp only [bK] at ho; exact sQ h.2 i o (by omega) ho
theorem i0k {os:List Oper} {m:Nat} (h:q0v os m=true):Floats os m:=by
 simp only [q0v,A9,o0s,V1] at h
 obtain⟨⟨⟨⟨⟨⟨h1,h2⟩,h3⟩,h4⟩,h5⟩,h6⟩,h7⟩:=h
 have fwd:∀ i o,os[i]? =some o->∀ e∈u5 o,e < i:=fun i o ho e he=>by
  have:=cW h2 i o ho e he
  omega
 refine⟨h1,fwd,fun i k oi ok d hi hk hoi hok di dk=> ?_,fun i o hi ho t ht k ok hk hok hd=> ?_,fun L t o hmt ho hp x hx k ok hk hok hd=> ?_,fun t o ht ho=> ?_,sQ h7⟩
 ·exact nH h3 i k oi ok d ((O3 hi).trans hoi) ((O3 hk).trans hok) di dk
 ·have:=cM h4 i o ((O3 hi).trans ho) t ht k ok ((O3 hk).trans hok) hd
  simpa using this
 ·refine fV (L:=L) h5 (fun e he=>by cases he) (t-m) o (by rw [W3,show m+(t-m)=t by omega]; exact ho) (fun j oj hj hoj=> ?_) x hx k ok ((O3 hk).trans hok) hd
  rw [W3] at hoj
  exact hp (m+j) oj (by omega) (by omega) hoj
 ·have:=X2 h6 (t- (m+1)) o (by rw [W3,show m+1+(t- (m+1))=t by omega]; exact ho)
  rw [show m+1+(t- (m+1))-1=t-1 by omega] at this
  exact this
theorem jE {tm:List TV} :∀ {r:List Oper} {ws:List Nat},eF tm r=some ws->∀ (k:Nat) (o:Oper),r[k]? =some o->∃ d id off sp,pZ o=some d∧D5 tm d= .v (.pointer (some ⟨id,off,sp⟩))∧K9 id ws=true
 | [],ws,_,k,o,ho=>by simp at ho
 | x ::r,ws,h,k,o,ho=>by
  simp only [eF] at h
  split at h
  ·cases h
  rename_i d hd
  split at h
  ·rename_i id off sp hg
   split at h
   ·rename_i l hl
    cases h
    cases k with
    | zero=>
     simp only [dF,U9] at ho
     subst ho
     exact⟨d,id,off,sp,hd,hg,by simp [K9]⟩
    | succ k=>
     simp only [bK] at ho
     obtain⟨d',id',off',sp',h1,h2,h3⟩:=jE hl k o ho
     exact⟨d',id',off',sp',h1,h2,by simp [K9,h3]⟩
   ·cases h
  ·cases h
theorem gN {o:Oper} {d:Nat} (h:pZ o=some d):o.dst=none∧o.guard=none∧∃ t y,o.op= .store t (.tmp d) y:=by
 unfold pZ at h
 split at h
 ·rename_i h1 h2
  split at h
  ·rename_i t d' y ho
   cases h
   exact⟨h1,h2,t,y,ho⟩
  ·cases h
 ·cases h
theorem c0m {P:Program} {H H':Heap} {t:TypeId} {v:Value} {id off:Nat} {sp:Option Nat} (h:aK P H t (.pointer (some ⟨id,off,sp⟩)) v=some H') (j:Nat) (hj:j≠id):H'.get j=H.get j:=by
 unfold aK at h
 simp only [B0] at h
 split at h
 case h_2=>cases h
 rename_i heq
 cases heq
 split at h
 case h_1=>cases h
 split at h
 case h_4=>cases h
 ·rename_i hget
  split at h
  case h_2=>cases h
  cases h
  rw [p9 _ _ _ _ hget,a7 (fun e=>hj e.symm)]
 ·rename_i hget
  split at h
  case h_2=>cases h
  cases h
  rw [p9 _ _ _ _ hget,a7 (fun e=>hj e.symm)]
 ·rename_i hget
  split at h
  case h_2=>cases h
  split at h
  case h_2=>cases h
  cases h
  rw [p9 _ _ _ _ hget,a7 (fun e=>hj e.symm)]
theorem yG {P:Program} {auto:Bool} {H H':Heap} {t:TypeId} {v:Value} {id off:Nat} {sp:Option Nat} {l:List Prop} (h:jO P auto H t (.pointer (some ⟨id,off,sp⟩)) v=some (H',l)) (j:Nat) (hj:j≠id):H'.get j=H.get j:=by
 unfold jO at h
 simp only [B0] at h
 split at h
 ·cases h
 split at h
 case h_2=>cases h
 rename_i heq
 cases heq
 split at h
 case h_2=>cases h
 rename_i hget
 split at h
 case h_2=>cases h
 split at h
 case h_2=>cases h
 cases h
 rw [p9 _ _ _ _ hget,a7 (fun e=>hj e.symm)]
theorem pQ {X:Cx} {os:List Oper} {o:Oper} {s s':St} {kv kv':KV} {d id off:Nat} {sp:Option Nat} (hd:pZ o=some d) (hg:D5 s.tmps d= .v (.pointer (some ⟨id,off,sp⟩))) (h:X7 X false os o s kv=some (s',kv')):
  s'.tmps=s.tmps∧kv'=kv∧∀ j,j≠id->s'.heap.get j=s.heap.get j:=by
 obtain⟨h1,h2,t,y,ho⟩:=gN hd
 rw [F8,F4] at h
 have hgu:N4 X.gd os o s.tmps kv=some (false,s.tmps,kv,[]):=by unfold N4; rw [h2]
 rw [hgu] at h
 simp only at h
 split at h
 ·cases h
 rename_i tmps' kv1 tv r he
 cases h
 split at he
 ·cases he
 rename_i r0' hand
 cases he
 rcases K2 hand with ⟨r0,hb,er⟩ | ⟨_,hc,_⟩
 case inr=>cases hc
 subst er
 refine⟨by show a1l s.tmps o.dst _=_; rw [h1]; rfl,rfl,fun j hj=> ?_⟩
 show r0.h.get j=_
 unfold I2 at hb
 split at hb
 ·cases hb
 rw [ho] at hb
 simp only [s2b] at hb
 split at hb
 case h_2=>cases hb
 rename_i r1 hr1
 have hr0:r0.h=r1.h:=by
  simp only [o1l,Bool.or_false] at hb
  cases hb
  rfl
 rw [hr0]
 unfold o1z at hr1
 simp only [A8] at hr1
 rw [ho] at hr1
 simp only at hr1
 split at hr1
 ·rename_i a v ha hv
  have:a= .pointer (some ⟨id,off,sp⟩):=by
   simp only [evo,hg,rd] at ha
   cases ha
   rfl
  subst this
  split at hr1
  ·rename_i H' l hst
   cases hr1
   exact yG hst j hj
  split at hr1
  ·rename_i H' hst
   cases hr1
   exact c0m hst j hj
  ·cases hr1
 ·cases hr1
theorem fK {X:Cx} {os:List Oper} {m:Nat} {s0:St} {kv0:KV} {ws:List Nat} (hst:∀ k o,os[m+k]? =some o->∃ d id off sp,pZ o=some d∧D5 s0.tmps d= .v (.pointer (some ⟨id,off,sp⟩))∧K9 id ws=true):
  ∀ {k:Nat} {s:St} {kv:KV},evT X os m (s0,kv0) k=some (s,kv)->s.tmps=s0.tmps∧kv=kv0∧(∀ j,K9 j ws=false->s.heap.get j=s0.heap.get j)∧s0.nid<=s.nid
 | 0,s,kv,h=>by simp only [evT] at h; cases h; exact⟨rfl,rfl,fun _ _=>rfl,d9 _⟩
 | k+1,s,kv,h=>by
  obtain⟨s1,k1,o,h1,ho,h2⟩:=fF h
  obtain⟨e1,e2,e3,e4⟩:=fK hst h1
  obtain⟨d,id,off,sp,g1,g2,g3⟩:=hst k o ho
  obtain⟨f1,f2,f3⟩:=pQ g1 (by rw [e1]; exact g2) h2
  refine⟨f1.trans e1,f2.trans e2,fun j hj=>(f3 j (fun e=>by rw [e,g3] at hj; cases hj)).trans (e3 j hj),x7 e4 ?_⟩
  obtain⟨_,_,t,y,hop⟩:=gN g1
  rw [F8,F4] at h2
  split at h2
  ·cases h2
  rename_i he
  cases h2
  split at he
  ·cases he
  ·cases he; exact d9 _
  ·split at he
   ·cases he
   ·rename_i hand
    cases he
    rename_i r1 _ _ _ _
    have:∃ q' r0 cs ts,I2 X q' o cs ts s1.heap s1.nid s1.ds=some r0∧r1.n=r0.n:=by
     rcases K2 hand with ⟨r0,hb,er⟩ | ⟨_,_,_,r0,hb,er⟩
     ·exact⟨_,r0,_,_,hb,by rw [er]⟩
     ·exact⟨_,r0,_,_,hb,by rw [er]⟩
    obtain⟨q',r0,cs,ts,hb,e0⟩:=this
    show s1.nid<=r1.n
    rw [e0]
    unfold I2 at hb
    split at hb
    ·cases hb
    rw [hop] at hb
    simp only [s2b] at hb
    split at hb
    case h_2=>cases hb
    split at hb
    ·cases hb; exact d9 _
    ·split at hb
     ·cases hb; exact Nat.le_succ _
     ·cases hb
structure HalfF (X:Cx) (J:Inv X.P) (B:Nat) (M:Nat->Prop) (w0:Bas) (os:List Oper) (m t:Nat) (s0:St) (a0:Act) (ρ0:Num) (sm:HSt) (st:St) (listed:Array Bool) (a:Act) (w:World):Prop where
 size:listed.size=os.length
 closed:∀ j o,os[j]? =some o->Lst listed j->∀ e∈u5 o,Lst listed e
 mt:m<=t
 tn:t<=os.length
 tl:∀ j,m<=j->j < os.length->(Lst listed j↔j < t)
 asize:a.tmps.size=s0.tmps.length
 defers:a.defers=w0.dfs
 base:B<=w.heap.size
 inv:J.I w
 keeps:Keeps B M w0.w w
 old:∀ d,(∀ k o,k < m->Lst listed k->os[k]? =some o->o.dst≠some d)->a.tmps.getD d undef=a0.tmps.getD d undef
 rep:∃ E,Agree s0.nid ρ0 E∧∀ E',Agree st.nid E E'->Sim X.P B M E' st.heap w∧
  ∀ k o d,k < m->Lst listed k->os[k]? =some o->o.dst=some d->∀ O,KVok sm.kv O->M0 E' O (D5 sm.tm d) (a.tmps.getD d undef)
def HSt.toF (h:HSt) (s:St):St:=⟨h.tm,s.heap,s.nid,s.ds,h.obs,s.lp,s.rd,s.mks,s.bs⟩
section
variable {X:Cx} {J:Inv X.P} (hX:CxOk X J) {B:Nat} {M:Nat->Prop} (hp:Par X.P B M) {w0:Bas} {os:List Oper} {m:Nat} (hd:Floats os m) {s0:St} {a0:Act} {ρ0:Num} {sm:HSt} {nb:Nat} {ws:List Nat}
 (hm:bJ X false os nb (J3 ws s0.heap) s0.ds s0.tmps s0.obs m=some sm) (hst:∀ k o,os[m+k]? =some o->∃ d id off sp,pZ o=some d∧D5 sm.tm d= .v (.pointer (some ⟨id,off,sp⟩))∧K9 id ws=true)
 (h0:∀ E',Agree s0.nid ρ0 E'->∀ O t,M0 E' O (D5 s0.tmps t) (a0.tmps.getD t undef))
include hX hp hd hm hst h0 in
theorem z0r (hl:l5 sm.obs) {t:Nat} {st:St} {kt:KV} (ht:evT X os m (sm.toF s0,sm.kv) (t-m)=some (st,kt)) {listed:Array Bool} {a:Act} {w:World} (h:HalfF X J B M w0 os m t s0 a0 ρ0 sm st listed a w) {i:Nat} (him:i < m) (hr:i∈Region.ready .any ⟨os⟩ listed)
  {rb:Option Nat} {K:Act->World->Prop} {Q:Exit->Act->World->Prop} (hK:∀ a' w',HalfF X J B M w0 os m t s0 a0 ρ0 sm st (listed.setIfInBounds i true) a' w'->K a' w'):wpOpIn (Fl rb) 0 X.P ⟨os⟩ Q i K a w:=by
 obtain⟨⟨hi,hnl⟩,o,ho,hpre⟩:=ready_iff.1 hr
 obtain⟨s1,hq1⟩:=wD (i:=i+1) (by omega) hm
 obtain⟨si,o',tmps',tv,ob',hsi,ho',hop,e1,e3⟩:=E5 hq1
 rw [ho] at ho'
 cases ho'
 have hobs:=iX (by omega) hq1 hm hl
 rw [e3] at hobs
 simp only [a8] at hobs
 obtain⟨_,elen⟩:=B8 hsi
 have hsub:∀ O,KVok sm.kv O->KVok s1.kv O:=fun O hβ=>eU (by omega) hq1 hm hβ
 have hsubi:∀ O,KVok sm.kv O->KVok si.kv O:=fun O hβ=>eU (by omega) hsi hm hβ
 obtain⟨f1,f2,f3,f4⟩:=fK (s0:=sm.toF s0) (ws:=ws) hst ht
 have f4:s0.nid<=st.nid:=f4
 obtain⟨E,hρ0,hrep⟩:=h.rep
 have hisz:i < listed.size:=hi
 rcases K6 hop with ⟨r,he,hr2,_,q4,_⟩ | ⟨r,_,_,q2,_⟩ | ⟨hc,_⟩ | ⟨hc,_⟩
 case inr.inl=>rw [hd.quiet i o him ho] at q2; cases q2
 case inr.inr.inl=>cases hc
 case inr.inr.inr=>cases hc
 rw [<- hr2] at hobs
 have hla:si.la=[] :=by
  have key:∀ (n:Nat) (s:HSt),n<=m->bJ X false os nb (J3 ws s0.heap) s0.ds s0.tmps s0.obs n=some s->s.la=[] :=by
   intro n
   induction n with
   | zero=>intro s _ hs; simp only [bJ] at hs; cases hs; rfl
   | succ n ih=>
    intro s hn hs
    obtain⟨s2,o2,_,_,_,g1,g2,g5,_⟩:=E5 hs
    rcases K6 g5 with ⟨_,_,_,_,g3,_⟩ | ⟨_,_,_,g4,_⟩ | ⟨hc,_⟩ | ⟨hc,_⟩
    ·rw [g3]; exact ih s2 (by omega) g1
    ·rw [hd.quiet n o2 (by omega) g2] at g4; cases g4
    ·cases hc
    ·cases hc
  exact key i si (by omega) hsi
 generalize hHdef:f2r si.ef (wT os o si.la (J3 ws s0.heap))=H at he
 have hH:∀ j ob,H.get j=some ob->(J3 ws s0.heap).get j=some ob:=by
  intro j ob hj
  rw [<- hHdef,hla,zS hsi] at hj
  exact v0a (la:=[]) hj
 have hrh:r.h=H:=by
  rw [F4] at he
  split at he
  ·cases he
  ·cases he; rfl
  ·split at he
   ·cases he
   ·rename_i hb
    cases he
    rcases K2 hb with ⟨r0,hb1,er⟩ | ⟨hq0,_⟩
    ·subst er; exact (P5 hb1).1
    ·cases hq0
 have hT:∀ E',Agree st.nid E E'->∀ O,KVok sm.kv O->∀ x∈looks os o,M0 E' O (D5 si.tm x) (a.tmps.getD x undef):=by
  intro E' ha O hβ x hx
  by_cases hw:∃ k ok,k < m∧Lst listed k∧os[k]? =some ok∧ok.dst=some x
  ·obtain⟨k,ok,hk,hlk,hok,hdk⟩:=hw
   have hki:k < i:=by
    rcases hd.slot i o him ho x hx k ok hk hok hdk with e | e | e
    ·subst e; exact absurd hlk hnl
    ·exact hd.fwd i o ho k e
    ·exact absurd (h.closed k ok hok hlk i e) hnl
   have:=(hrep E' ha).2 k ok x hk hlk hok hdk O hβ
   refine (I3 (by omega:i<=m) hsi hm hβ (fun k2 o2 hk1 hk2 ho2 hd2=> ?_)).2 this
   have:=hd.dup k k2 ok o2 x hk hk2 hok ho2 hdk hd2
   omega
  ·have hno:∀ k ok,k < m->Lst listed k->os[k]? =some ok->ok.dst≠some x:=fun k ok hk hlk hok e=>hw ⟨k,ok,hk,hlk,hok,e⟩
   rw [h.old x hno]
   refine (I3 (s6 i) rfl hsi (hsubi O hβ) (fun k ok _ hk hok hdk=> ?_)).1 (h0 E' (fun j hj=> ?_) O x)
   ·rcases hd.slot i o him ho x hx k ok (by omega) hok hdk with e | e | e
    ·omega
    ·exact hno k ok (by omega) (hpre k e) hok hdk
    ·have:=hd.fwd k ok hok i e
     omega
   ·rw [ha j (by omega)]; exact hρ0 j hj
 refine cY hX ho he (.inl rfl) hobs.1 hp (F:=fun E'=>Agree st.nid E E') (E:=E) (Agree.refl _ _) (Cβ:=KVok sm.kv) (B8 hm).1 hsub h.base h.inv (fun E' ha=> ?_) hT (fun hh=>by cases hh) (fun v w' hfin hk hbl=>hK _ _ ?_)
 ·refine (hrep E' ha).1.less fun j ob hj=> ?_
  obtain⟨g1,g2⟩:=J7 (hH j ob hj)
  rw [f3 j g2]
  exact g1
 refine⟨by simpa using h.size,fun j oj hoj hlj e he'=> ?_,h.mt,h.tn,fun j hj hjn=> ?_,by rw [jY]; exact h.asize,by rw [Y1]; exact h.defers,x7 h.base hk.size,J.keeps hp hk h.inv,h.keeps.trans hk,fun d hno=> ?_,
  E,hρ0,fun E' ha=>⟨(hrep E' ha).1.below (hbl rfl),fun k ok d hkm hlk hok hdk O hβ=> ?_⟩⟩
 ·rw [A6 hisz] at hlj ⊢
  rcases hlj with rfl | hlj
  ·rw [ho] at hoj; cases hoj
   exact .inr (hpre e he')
  ·exact .inr (h.closed j oj hoj hlj e he')
 ·rw [A6 hisz,<- h.tl j hj hjn]
  exact⟨fun e=>e.elim (fun e=>by omega) id, .inr⟩
 ·rw [V4,a7 (fun hh=>hno i o him ((A6 hisz).2 (.inl rfl)) ho hh.1)]
  exact h.old d (fun k ok hkm hlk hok=>hno k ok hkm ((A6 hisz).2 (.inr hlk)) hok)
 ·rw [V4]
  by_cases hki:k=i
  ·subst hki
   rw [ho] at hok
   cases hok
   by_cases hds:d < a.tmps.size
   ·rw [f9 ⟨hdk,hds⟩]
    have hslot:=I3 (X:=X) (os:=os) (E:=E') (O:=O) (t:=d) (r:=v) (by omega:k+1<=m) hq1 hm hβ (fun k2 o2 hk1 hk2 ho2 hd2=>by
     have:=hd.dup k k2 o o2 d hkm hk2 ho ho2 hdk hd2
     omega)
    rw [<- hslot,e1]
    obtain⟨_,_,hl'⟩:=aE he (B8 hsi).1
    rw [aA,f9 ⟨hdk,by rw [hl',elen,<- h.asize]; exact hds⟩]
    exact (hfin E' ha).2 O hβ
   ·have hnone:D5 sm.tm d= .unk:=by
     simp only [N8]
     have e7:sm.tm.length=s0.tmps.length:=(B8 hm).2
     have e8:a.tmps.size=s0.tmps.length:=h.asize
     have e9:a.tmps.size<=d:=gD hds
     rw [e0l (by omega)]
    rw [hnone]
    trivial
  ·have hlk':Lst listed k:=by
    rcases (A6 hisz).1 hlk with e | e
    ·exact absurd e hki
    ·exact e
   have hne:o.dst≠some d:=fun e=>hki (hd.dup k i ok o d hkm him hok ho hdk e)
   rw [a7 (fun hh=>hne hh.1)]
   exact (hrep E' ha).2 k ok d hkm hlk' hok hdk O hβ
include hX hp hd hm hst h0 in
theorem x0e {t:Nat} {st st':St} {kt kt':KV} (ht:evT X os m (sm.toF s0,sm.kv) (t-m)=some (st,kt)) {o:Oper} (ho:os[t]? =some o) (hop:X7 X false os o st kt=some (st',kt')) (hl:l5 st'.obs)
  {listed:Array Bool} {a:Act} {w:World} (h:HalfF X J B M w0 os m t s0 a0 ρ0 sm st listed a w) (hpre:∀ e∈u5 o,Lst listed e) (htn:t < os.length)
  {rb:Option Nat} {K:Act->World->Prop} {Q:Exit->Act->World->Prop} (hK:∀ a' w',HalfF X J B M w0 os m (t+1) s0 a0 ρ0 sm st' (listed.setIfInBounds t true) a' w'->K a' w'):wpOpIn (Fl rb) 0 X.P ⟨os⟩ Q t K a w:=by
 obtain⟨f1,f2,f3,f4⟩:=fK (s0:=sm.toF s0) (ws:=ws) hst ht
 have f4:s0.nid<=st.nid:=f4
 have f1:st.tmps=sm.tm:=f1
 have f2:kt=sm.kv:=f2
 subst f2
 obtain⟨d0,id,off,sp,g1,g2,g3⟩:=hst (t-m) o (by rw [show m+(t-m)=t by have:=h.mt; omega]; exact ho)
 obtain⟨z1,z2,z3⟩:=pQ g1 (by rw [f1]; exact g2) hop
 obtain⟨y1,y2,_⟩:=gN g1
 obtain⟨E,hρ0,hrep⟩:=h.rep
 rw [F8] at hop
 split at hop
 ·cases hop
 rename_i tmps' kv1 tv r he
 cases hop
 simp only [a8] at hl
 have hlt:t < listed.size:=by rw [h.size]; exact htn
 subst z2
 refine gW hX ho he hl.1 hp (E:=E) (Cβ:=KVok sm.kv) (B8 hm).1 (fun _ hh=>hh) h.base h.inv (fun E' ha=>(hrep E' ha).1) (fun E' ha O hβ x hx=> ?_) (fun v w' ρ1 ha hn hfin hk _=>hK _ _ ?_)
 ·rw [f1]
  by_cases hw:∃ k ok,k < m∧Lst listed k∧os[k]? =some ok∧ok.dst=some x
  ·obtain⟨k,ok,hk,hlk,hok,hdk⟩:=hw
   exact (hrep E' ha).2 k ok x hk hlk hok hdk O hβ
  ·have hno:∀ k ok,k < m->os[k]? =some ok->ok.dst≠some x:=fun k ok hk hok e=>by
    refine hw ⟨k,ok,hk,hd.tail (Lst listed) t o h.mt ho (fun j oj hmj hjt hoj e' he'=> ?_) x hx k ok hk hok e,hok,e⟩
    by_cases ejt:j=t
    ·subst ejt
     rw [ho] at hoj
     cases hoj
     exact hpre e' he'
    ·exact h.closed j oj hoj ((h.tl j hmj (by omega)).2 (by omega)) e' he'
   rw [h.old x (fun k ok hk _ hok=>hno k ok hk hok)]
   exact (I3 (s6 m) rfl hm hβ (fun k ok _ hk hok=>hno k ok hk hok)).1 (h0 E' (fun j hj=>by rw [ha j (by omega)]; exact hρ0 j hj) O x)
 ·have hput:∀ x,(a.put o.dst v).tmps.getD x undef=a.tmps.getD x undef:=fun x=>by rw [V4,y1,a7 (fun hh=>by cases hh.1)]
  refine⟨by simpa using h.size,fun j oj hoj hlj e he'=> ?_,by have:=h.mt; omega,by omega,fun j hj hjn=> ?_,by rw [jY]; exact h.asize,by rw [Y1]; exact h.defers,x7 h.base hk.size,J.keeps hp hk h.inv,h.keeps.trans hk,fun d hno=> ?_,
   ρ1,hρ0.trans ha f4,fun E' ha'=>⟨(hfin E' ha').1,fun k ok d hkm hlk hok hdk O hβ=> ?_⟩⟩
  ·rw [A6 hlt] at hlj ⊢
   rcases hlj with rfl | hlj
   ·rw [ho] at hoj; cases hoj
    exact .inr (hpre e he')
   ·exact .inr (h.closed j oj hoj hlj e he')
  ·rw [A6 hlt,h.tl j hj hjn]
   omega
  ·rw [hput]
   exact h.old d (fun k ok hkm hlk hok=>hno k ok hkm ((A6 hlt).2 (.inr hlk)) hok)
  ·rw [hput]
   have hlk':Lst listed k:=by
    rcases (A6 hlt).1 hlk with e | e
    ·have:=h.mt; omega
    ·exact e
   exact (hrep E' (fun j hj=>(ha' j (C8 hj hn)).trans (ha j hj))).2 k ok d hkm hlk' hok hdk O hβ
include hX hp hd hm hst h0 in
theorem n0y (hρ0:w0.n<=s0.nid∧Agree w0.n w0.E ρ0) {sn:St} {kn:KV} (hn:evT X os m (sm.toF s0,sm.kv) (os.length-m)=some (sn,kn)) (hl:l5 sn.obs) {rb:Option Nat} {Q:Exit->Act->World->Prop} (hQ:∀ a w,RepR X.P J B M w0 kn sn a w->Q .normal a w):
  ∀ (fuel t:Nat) (st:St) (kt:KV) (listed:Array Bool) (a:Act) (w:World),unl listed os.length<=fuel->evT X os m (sm.toF s0,sm.kv) (t-m)=some (st,kt)->HalfF X J B M w0 os m t s0 a0 ρ0 sm st listed a w->wpAnyIn (Fl rb) 0 X.P .any ⟨os⟩ Q fuel listed a w:=by
 have hlm:l5 sm.obs:=gS (X:=X) (os:=os) (m:=m) (s6 _) rfl hn hl
 have fin:∀ (t:Nat) (st:St) (kt:KV) (listed:Array Bool) (a:Act) (w:World),evT X os m (sm.toF s0,sm.kv) (t-m)=some (st,kt)->HalfF X J B M w0 os m t s0 a0 ρ0 sm st listed a w->(∀ k,k < os.length->Lst listed k)->Q .normal a w:=by
  intro t st kt listed a w ht h hall
  have htn:t=os.length:=by
   rcases J4 t os.length with hlt | hge
   ·have:=(h.tl t h.mt hlt).1 (hall t hlt)
    omega
   ·have:=h.tn; omega
  subst htn
  rw [ht] at hn
  cases hn
  refine hQ a w ?_
  obtain⟨f1,f2,f3,f4⟩:=fK (s0:=sm.toF s0) (ws:=ws) hst ht
  have f1:sn.tmps=sm.tm:=f1
  have f2:kn=sm.kv:=f2
  have f4:s0.nid<=sn.nid:=f4
  obtain⟨E,hρ,hrep⟩:=h.rep
  obtain⟨k1,k2⟩:=B8 hm
  subst f2
  refine⟨by rw [f1,k2]; exact h.asize,h.defers,h.base,h.inv,h.keeps,k1,E,⟨x7 hρ0.1 f4,hρ0.2.trans hρ hρ0.1⟩,fun E' ha=>⟨(hrep E' ha).1,fun O hβ x=> ?_⟩⟩
  rw [f1]
  by_cases hw:∃ k o,k < m∧os[k]? =some o∧o.dst=some x
  ·obtain⟨k,o,hk,ho,hdk⟩:=hw
   exact (hrep E' ha).2 k o x hk (hall k (by have:=hd.le; omega)) ho hdk O hβ
  ·have hno:∀ k o,k < m->os[k]? =some o->o.dst≠some x:=fun k o hk ho e=>hw ⟨k,o,hk,ho,e⟩
   rw [h.old x (fun k o hk _ ho=>hno k o hk ho)]
   exact (I3 (s6 m) rfl hm hβ (fun k o _ hk ho=>hno k o hk ho)).1 (h0 E' (fun j hj=>by rw [ha j (by omega)]; exact hρ j hj) O x)
 intro fuel
 induction fuel with
 | zero=>
  intro t st kt listed a w hf ht h
  have hall:∀ k,k < os.length->Lst listed k:=fun k hk=>e0e (by omega) hk
  refine⟨?_,fin t st kt listed a w ht h hall⟩
  cases hr:Region.ready .any ⟨os⟩ listed with
  | nil=>rfl
  | cons x xs=>
   have:x∈Region.ready .any ⟨os⟩ listed:=by rw [hr]; simp
   obtain⟨⟨h1,h2⟩,_⟩:=ready_iff.1 this
   exact absurd (hall x (by rw [<- h.size]; exact h1)) h2
 | succ fuel ih=>
  intro t st kt listed a w hf ht h
  refine⟨fun hr0=>fin t st kt listed a w ht h (fun k hk=>a0s fun hnk=> ?_),fun i hi=> ?_⟩
  ·haveI:DecidablePred fun k=>¬ Lst listed k:=fun k=>Classical.propDecidable _
   obtain⟨k',hk',hnl,hmin⟩:=r1d (p:=fun k=>¬ Lst listed k) os.length ⟨k,hk,hnk⟩
   obtain⟨o,ho⟩:∃ o,os[k']? =some o:=⟨os[k'],by simp [hk']⟩
   have:k'∈Region.ready .any ⟨os⟩ listed:=ready_iff.2 ⟨⟨by rw [h.size]; exact hk',hnl⟩,o,ho,fun e he=>a0s fun hn'=>hmin e (hd.fwd k' o ho e he) hn'⟩
   rw [hr0] at this
   cases this
  ·obtain⟨⟨h1,h2⟩,o,ho,hpre⟩:=ready_iff.1 hi
   have hin:i < os.length:=by rw [<- h.size]; exact h1
   have hun:=q0u hin h.size h2
   by_cases him:i < m
   ·exact z0r hX hp hd hm hst h0 hlm ht h him hi (fun a' w' h'=>ih t st kt _ a' w' (by omega) ht h')
   ·have hit:i=t:=by
     rcases Z8 i t with h' | h' | h'
     ·exact absurd ((h.tl i (by omega) hin).2 h') h2
     ·exact h'
     ·have:=hpre (i-1) (hd.chain i o (by have:=h.mt; omega) ho)
      have:=(h.tl (i-1) (by have:=h.mt; omega) (by omega)).1 this
      omega
    subst hit
    obtain⟨⟨s1,k1⟩,hq1⟩:=d0h (i:=i-m+1) (by omega) hn
    obtain⟨s',kv',o',q1,q2,q3⟩:=fF hq1
    rw [ht] at q1
    cases q1
    rw [show m+(i-m)=i by omega] at q2
    rw [ho] at q2
    cases q2
    exact x0e hX hp hd hm hst h0 ht ho q3 (gS (by omega) hq1 hn hl) h hpre hin (fun a' w' h'=>ih (i+1) s1 k1 _ a' w' (by omega) (by rw [show i+1-m=i-m+1 by omega]; exact hq1) h')
end
def b1v:List Nat->List Nat->Bool
 | [],[] =>true
 | i ::r,j ::r'=>zO0 i j && b1v r r'
 | _,_=>false
def r0k (X:Cx) (os:List Oper) (m:Nat) (s:St):Option St:=
 match s with
 | ⟨tm,hp,nid,ds,obs,lp,rd,mk,bs⟩=>match eF tm (os.drop m) with
  | none=>none
  | some ws=>match bJ X false os nid (J3 ws hp) ds tm obs m with
   | none=>none
   | some ⟨tm',_,ob,kv,_,_⟩=>match eF tm' (os.drop m) with
    | none=>none
    | some ws'=>match b1v ws ws' with
     | false=>none
     | true=>match evT X os m (⟨tm',hp,nid,ds,ob,lp,rd,mk,bs⟩,kv) (os.length-m) with
      | none=>none
      | some (s',_)=>some s'
theorem a0a:∀ {l l':List Nat},b1v l l'=true->l=l'
 | [],[],_=>rfl
 | [],_ ::_,h=>by simp [b1v] at h
 | _ ::_,[],h=>by simp [b1v] at h
 | i ::r,j ::r',h=>by
  simp only [b1v,A9,B7] at h
  rw [h.1,a0a h.2]
theorem qD {X:Cx} {os:List Oper} {m:Nat} {s s':St} (h:r0k X os m s=some s'):
  ∃ ws hm kn,bJ X false os s.nid (J3 ws s.heap) s.ds s.tmps s.obs m=some hm∧eF hm.tm (os.drop m)=some ws∧evT X os m (hm.toF s,hm.kv) (os.length-m)=some (s',kn):=by
 unfold r0k at h
 dsimp only at h
 split at h
 ·cases h
 rename_i ws hws
 split at h
 ·cases h
 rename_i he
 split at h
 ·cases h
 rename_i ws' hws'
 split at h
 ·cases h
 rename_i hq
 have:=a0a hq
 subst this
 split at h
 ·cases h
 rename_i kn ht
 cases h
 exact⟨ws,_,_,he,hws',ht⟩
end
noncomputable section
def nG:List UInt8->List UInt8->Bool
 | [],[] =>true
 | a ::l,b ::m=>zO0 a.toNat b.toNat && nG l m
 | _,_=>false
theorem qL:∀ {l m:List UInt8},nG l m=true->l=m
 | [],[],_=>rfl
 | [],_ ::_,h=>by simp [nG] at h
 | _ ::_,[],h=>by simp [nG] at h
 | a ::l,b ::m,h=>by
  simp only [nG,A9,B7] at h
  rw [zzA132.1 h.1,qL h.2]
def w0y:Int->Int->Bool
 | .ofNat a, .ofNat b=>zO0 a b
 | .negSucc a, .negSucc b=>zO0 a b
 | _,_=>false
theorem z0w:∀ {a b:Int},w0y a b=true->a=b
 | .ofNat a, .ofNat b,h=>by simp only [w0y,B7] at h; rw [h]
 | .negSucc a, .negSucc b,h=>by simp only [w0y,B7] at h; rw [h]
 | .ofNat a, .negSucc b,h=>by simp [w0y] at h
 | .negSucc a, .ofNat b,h=>by simp [w0y] at h
def a0q:Option Nat->Option Nat->Bool
 | none,none=>true
 | some a,some b=>zO0 a b
 | _,_=>false
theorem tU:∀ {a b:Option Nat},a0q a b=true->a=b
 | none,none,_=>rfl
 | some a,some b,h=>by simp only [a0q,B7] at h; rw [h]
 | none,some b,h=>by simp [a0q] at h
 | some a,none,h=>by simp [a0q] at h
def b0d:Option Addr->Option Addr->Bool
 | none,none=>true
 | some ⟨b,o,s⟩,some ⟨b',o',s'⟩=>zO0 b b' && zO0 o o' && a0q s s'
 | _,_=>false
theorem uM:∀ {a b:Option Addr},b0d a b=true->a=b
 | none,none,_=>rfl
 | some ⟨b,o,s⟩,some ⟨b',o',s'⟩,h=>by
  simp only [b0d,A9,B7] at h
  rw [h.1.1,h.1.2,tU h.2]
 | none,some b,h=>by simp [b0d] at h
 | some a,none,h=>by simp [b0d] at h
def l2v:Fn->Fn->Bool
 | .func a, .func b=>zO0 a b
 | .yield a, .yield b=>zO0 a b
 | _,_=>false
theorem n1w:∀ {a b:Fn},l2v a b=true->a=b
 | .func a, .func b,h=>by simp only [l2v,B7] at h; rw [h]
 | .yield a, .yield b,h=>by simp only [l2v,B7] at h; rw [h]
 | a,b,h=>by
  unfold l2v at h
  split at h
  ·rw [B7] at h; rw [h]
  ·rw [B7] at h; rw [h]
  ·cases h
mutual
def eqV:Value->Value->Bool
 | .bool a,w=>match w with
  | .bool b=>b2j a b
  | _=>false
 | .int k a,w=>match w with
  | .int k' b=>decide (k=k') && w0y a b
  | _=>false
 | .float k a,w=>match w with
  | .float k' b=>decide (k=k') && zO0 a b
  | _=>false
 | .string ⟨⟨s⟩⟩,w=>match w with
  | .string ⟨⟨t⟩⟩=>nG s t
  | _=>false
 | .pointer a,w=>match w with
  | .pointer b=>b0d a b
  | _=>false
 | .slice a n c,w=>match w with
  | .slice b n' c'=>b0d a b && zO0 n n' && zO0 c c'
  | _=>false
 | .map a,w=>match w with
  | .map b=>a0q a b
  | _=>false
 | .func f a c,w=>match w with
  | .func f' a' c'=>l2v f f' && eqA a a' && eqA c c'
  | _=>false
 | .nilFunc,w=>match w with
  | .nilFunc=>true
  | _=>false
 | .iface t a,w=>match w with
  | .iface t' b=>zO0 t t' && eqV a b
  | _=>false
 | .nilIface,w=>match w with
  | .nilIface=>true
  | _=>false
 | .agg a,w=>match w with
  | .agg b=>eqA a b
  | _=>false
 | .tuple a,w=>match w with
  | .tuple b=>eqA a b
  | _=>false
 | .complex _ _ _,_=>false
 | .chan _,_=>false
def eqA:Array Value->Array Value->Bool
 | ⟨l⟩,w=>match w with
  | ⟨m⟩=>eqL l m
def eqL:List Value->List Value->Bool
 | [],w=>match w with
  | [] =>true
  | _=>false
 | v ::l,w=>match w with
  | [] =>false
  | x ::m=>eqV v x && eqL l m
end
theorem z0s {a b:Bool} (h:b2j a b=true):a=b:=by
 cases a <;> cases b <;> first | rfl | (cases h)
mutual
theorem s0q:∀ (v w:Value),eqV v w=true->v=w
 | .bool a,w,h=>by
  unfold eqV at h
  split at h
  ·rw [z0s h]
  ·cases h
 | .int k a,w,h=>by
  unfold eqV at h
  split at h
  ·simp only [A9,aI] at h; rw [h.1,z0w h.2]
  ·cases h
 | .float k a,w,h=>by
  unfold eqV at h
  split at h
  ·simp only [A9,aI,B7] at h; rw [h.1,h.2]
  ·cases h
 | .string ⟨⟨s⟩⟩,w,h=>by
  unfold eqV at h
  split at h
  ·rw [qL h]
  ·cases h
 | .pointer a,w,h=>by
  unfold eqV at h
  split at h
  ·rw [uM h]
  ·cases h
 | .slice a n c,w,h=>by
  unfold eqV at h
  split at h
  ·simp only [A9,B7] at h; rw [uM h.1.1,h.1.2,h.2]
  ·cases h
 | .map a,w,h=>by
  unfold eqV at h
  split at h
  ·rw [tU h]
  ·cases h
 | .func f a c,w,h=>by
  unfold eqV at h
  split at h
  ·simp only [A9] at h; rw [n1w h.1.1,eqA_spec _ _ h.1.2,eqA_spec _ _ h.2]
  ·cases h
 | .nilFunc,w,h=>by
  unfold eqV at h
  split at h
  ·rfl
  ·cases h
 | .iface t a,w,h=>by
  unfold eqV at h
  split at h
  ·simp only [A9,B7] at h; rw [h.1,s0q _ _ h.2]
  ·cases h
 | .nilIface,w,h=>by
  unfold eqV at h
  split at h
  ·rfl
  ·cases h
 | .agg a,w,h=>by
  unfold eqV at h
  split at h
  ·rw [eqA_spec _ _ h]
  ·cases h
 | .tuple a,w,h=>by
  unfold eqV at h
  split at h
  ·rw [eqA_spec _ _ h]
  ·cases h
 | .complex _ _ _,w,h=>by unfold eqV at h; cases h
 | .chan _,w,h=>by unfold eqV at h; cases h
theorem eqA_spec:∀ (v w:Array Value),eqA v w=true->v=w
 | ⟨l⟩,⟨m⟩,h=>by
  unfold eqA at h
  rw [eqL_spec l m h]
theorem eqL_spec:∀ (v w:List Value),eqL v w=true->v=w
 | [],w,h=>by
  unfold eqL at h
  split at h
  ·rfl
  ·cases h
 | v ::l,w,h=>by
  unfold eqL at h
  split at h
  ·cases h
  ·simp only [A9] at h
   rw [s0q _ _ h.1,eqL_spec _ _ h.2]
end
def flO (o:Oper):Bool:=match o.op with
 | .pick _ _ _=>true
 | .call c=>match c.callee with
  | .builtin b=>match o1e b with
   | true=>false
   | false=>match l2a b with
    | true=>false
    | false=>true
  | _=>false
 | p=>M3 p
def evF (X:Cx) (os:List Oper) (s0:St):Nat->Option (St×KV)
 | 0=>some (s0,[])
 | i+1=>match evF X os s0 i with
  | none=>none
  | some (s,kv)=>match p1c os i with
   | none=>none
   | some o=>X7 X (flO o) os o s kv
section
variable {X:Cx} {os:List Oper} {s0:St}
end
structure Spine (X:Cx) (os:List Oper) (s0 sn:St) (kn:KV):Prop where
 draws:Draws os os.length
 last:evF X os s0 os.length=some (sn,kn)
 obs:l5 sn.obs
 chain:∀ j k oj ok,j < k->os[j]? =some oj->os[k]? =some ok->flO oj=false->flO ok=false->j∈Y7 os ok
 float:∀ k o s kv t1 k1 tv r p sp kp,os[k]? =some o->flO o=true->evF X os s0 k=some (s,kv)->bS X true os o s.tmps s.heap s.nid s.ds kv=some (t1,k1,tv,r)->l5 r.obs->
  evF X os s0 p=some (sp,kp)->p<=os.length->(p=0∨∃ q op,p=q+1∧os[q]? =some op∧flO op=false)->
  (∀ d od,os[d]? =some od->flO od=false->d < p->k ∉ Y7 os od)->(∀ d od,os[d]? =some od->flO od=false->p<=d->d ∉ Y7 os o)->
  ∃ t2 k2 r2,bS X true os o s.tmps sp.heap sp.nid s.ds kv=some (t2,k2,tv,r2)∧l5 r2.obs
structure HalfS (X:Cx) (J:Inv X.P) (B:Nat) (M:Nat->Prop) (w0:Bas) (os:List Oper) (s0:St) (a0:Act) (ρ0:Num) (sn:St) (kn:KV) (listed:Array Bool) (a:Act) (w:World):Prop where
 size:listed.size=os.length
 closed:∀ j o,os[j]? =some o->Lst listed j->∀ e∈u5 o,Lst listed e
 asize:a.tmps.size=s0.tmps.length
 defers:a.defers=w0.dfs
 base:B<=w.heap.size
 inv:J.I w
 keeps:Keeps B M w0.w w
 old:∀ t,(∀ k o,Lst listed k->os[k]? =some o->o.dst≠some t)->a.tmps.getD t undef=a0.tmps.getD t undef
 cut:∃ p sp kp E,evF X os s0 p=some (sp,kp)∧p<=os.length∧(p=0∨∃ q op,p=q+1∧os[q]? =some op∧flO op=false)∧(∀ j o,os[j]? =some o->flO o=false->(Lst listed j↔j < p))∧Agree s0.nid ρ0 E∧s0.nid<=sp.nid∧
  ∀ E',Agree sp.nid E E'->Sim X.P B M E' sp.heap w∧∀ k o d,Lst listed k->os[k]? =some o->o.dst=some d->∀ O,KVok kn O->M0 E' O (D5 sn.tmps d) (a.tmps.getD d undef)
end
noncomputable section
def t0z:List (List Nat)->Nat->Nat
 | [],_=>0
 | p ::r,t=>match K9 (t-1) p with
  | true=>t0z r (t-1)+1
  | false=>0
def y2g (os:List Oper) (m:Nat):Bool:=mA (os.take (m+1)) m
def wN (os:List Oper):Nat->Nat->Nat
 | m,0=>m
 | m,k+1=>match y2g os m with
  | true=>m
  | false=>wN os (m+1) k
def p0a (os:List Oper):Nat:=
 match os.length with
 | 0=>0
 | n+1=>
  match t0z ((os.map u5).reverse) n with
  | 0=>wN os n 1
  | c+1=>wN os (n- (c+1)) (c+2)
def St.clean:St->St
 | ⟨tm,hp,nid,ds,obs,lp,rd,mq,bs⟩=>⟨tm.map u0z,hp,nid,ds,obs,lp,rd,mq,bs⟩
def St.bit:St->List Bool->Prop->St
 | ⟨tm,hp,nid,_,obs,lp,rd,mq,bs⟩,ds,p=>⟨tm,hp,nid,ds,p ::obs,lp,rd,mq,bs⟩
def St.looped:St->Nat->List Prop->St
 | ⟨tm,hp,nid,ds,_,_,rd,mq,bs⟩,k,o=>⟨tm,hp,nid,ds,o,k,rd,mq,bs⟩
def d1t (X:Cx) (os:List Oper) (s:St):Option St:=
 match m1a os (p0a os) with
 | false=>none
 | true=>match k0w (p0a os) os with
  | true=>b0c X os (p0a os) s
  | false=>match evN X (p0a os) os s os.length with
   | some (s',_)=>some s'
   | none=>b0c X os (p0a os) s
def lW (X:Cx) (os:List Oper) (draw:Bool) (s:St):Option St:=
 match draw with
 | false=>match evN X 0 os s os.length with
  | some (s',_)=>some s'.clean
  | none=>none
 | true=>match d1t X os s with
   | some s'=>some s'.clean
   | none=>match q0v os (f0a os) with
    | false=>none
    | true=>match r0k X os (f0a os) s with
     | some s'=>some s'.clean
     | none=>none
theorem Rep.drew {P:Program} {J:Inv P} {B:Nat} {M:Nat->Prop} {w0:Bas} {rb:Option Nat} {s:St} {a:Act} {w:World} (h:Rep P J B M w0 rb s a w):Rep P J B M w0 rb s a { w with drawn:=w.drawn+1 } :=by
 obtain⟨E,hρ0,hρ⟩:=h.rep
 have hb:Below w.heap.size w { w with drawn:=w.drawn+1 } :=⟨rfl,rfl,rfl,d9 _,fun _ _=>rfl⟩
 exact⟨h.low,h.plain,h.size,h.base,J.st w _ (fun _ _=>rfl) (d9 _) h.inv,⟨h.keeps.os,h.keeps.tape,h.keeps.output,h.keeps.size,h.keeps.block⟩,E,hρ0,fun E' ha=>⟨(hρ E' ha).1.below hb,(hρ E' ha).2⟩⟩
theorem yQ {X:Cx} (hX:CxOk X X.J) (hm:X.P.follows .mixedOrders=true) {os:List Oper} {draw:Bool} {s s':St} (h:lW X os draw s=some s') (hl:l5 s'.obs) {B:Nat} {M:Nat->Prop} (hp:Par X.P B M) {w0:Bas} {rb:Option Nat} {a:Act} {w:World}
  (hR:Rep X.P X.J B M w0 rb s a w) {id:Nat} {Q:Exit->Act->World->Prop} (hQ:∀ a' w',Rep X.P X.J B M w0 rb s' a' w'->Q .normal a' w'):(Code.region id ⟨os⟩ draw).wpIn (Fl rb) 0 X.P Q a w:=by
 unfold lW at h
 split at h
 ·split at h
  case h_2=>cases h
  rename_i sn kn hn
  cases h
  obtain⟨f1,f2,f3⟩:=tD hn
  refine wpIn_region ?_
  have:=m1s hX hp (rb:=rb) (Q:=Q) hn hl (fun a' w' hR'=>hQ a' w' (RepR.clean hR hR' f1 f2 f3)) os.length 0 s [] a w (by omega) rfl hR.toR
  rw [List.range_eq_range']
  exact this
 ·have hR2:=hR.drew
  obtain⟨hρ0,hρ⟩:=hR2.rep.choose_spec
  have h0:∀ E',Agree s.nid hR2.rep.choose E'->∀ O t,M0 E' O (D5 s.tmps t) (a.tmps.getD t undef):=fun E' ha O t=>by
   have h1:=(hρ E' ha).2.2 t
   have h2:=hR2.plain t
   generalize D5 s.tmps t=tv at*
   cases tv with
   | unk=>trivial
   | v y=>exact h1 y rfl
   | sp l y=>cases h2
   | key j l b=>cases h2
  have hunl:unl (Array.replicate os.length false) os.length<=os.length:=by
   unfold unl
   have:=List.countP_le_length (p:=fun i=> !(Array.replicate os.length false).getD i false) (l:=List.range os.length)
   simpa using this
  have hno:∀ i,¬ Lst (Array.replicate os.length false) i:=fun i hi=>by
   unfold Lst at hi
   rcases J4 i os.length with h' | h'
   ·simp [h'] at hi
   ·simp [h'] at hi
  split at h
  ·rename_i sn hdr
   cases h
   unfold d1t at hdr
   split at hdr
   ·cases hdr
   rename_i hd
   have hD:=m0z hd
   have laidCase:b0c X os (p0a os) s=some sn->(Code.region id ⟨os⟩ true).wpIn (Fl rb) 0 X.P Q a w:=by
    intro hdr
    obtain⟨hlow,hm',kn,hhd,htl⟩:=sW hdr
    obtain⟨f1,f2,f3⟩:=uD htl
    refine wpIn_region_any hm ?_
    refine r0h hX hp hD hlow hhd htl hl (w0:=⟨_,s.nid,hR2.rep.choose,a.defers⟩) (a0:=a) (E:=hR2.rep.choose) h0 ⟨d9 _,Agree.refl _ _⟩ (fun a' w' hR'=>hQ a' w' (RepR.clean hR2 hR' f1 f2 f3)) _ _ a _ hunl ?_
    refine⟨by simp,fun j o _ hj=>absurd hj (hno j),fun t _=>hno t,hR2.size,rfl,hR2.base,hR2.inv,Keeps.refl _ _ _,fun t _=>rfl,hR2.rep.choose,Agree.refl _ _,fun E' ha=>⟨?_,fun k o d _ hk=>absurd hk (hno k)⟩⟩
    refine (hρ E' (fun j hj=>ha j (.inl hj))).1.less fun j o hj=> ?_
    replace hj:=vH (g:=fun _=>false) (H2:=iU (X6 (Array.replicate os.length false)) hm'.la s.heap) (fun e _ _ _=>by
     cases hq:X6 (Array.replicate os.length false) e with
     | false=>rfl
     | true=>exact absurd hq (hno e)) (fun _ _ hh=>hh) j o hj
    replace hj:(iU (X6 (Array.replicate os.length false)) hm'.la s.heap).get j=some o:=by
     cases hq:hm'.ef with
     | none=>rw [hq] at hj; exact hj
     | some q=>rw [hq] at hj; exact hj
    rcases O7 hj with hj' | ⟨e,_,hk,_⟩
    ·exact hj'
    ·exact absurd hk (hno e.k)
   split at hdr
   ·exact laidCase hdr
   ·split at hdr
    case h_2=>exact laidCase hdr
    rename_i sn' kn hn
    cases hdr
    obtain⟨f1,f2,f3⟩:=tD hn
    obtain⟨⟨sm,km⟩,hmm⟩:=lE hD.le hn
    refine wpIn_region_any hm ?_
    refine x0y hX hp hD hn hl hmm (w0:=⟨_,s.nid,hR2.rep.choose,a.defers⟩) (a0:=a) (E:=hR2.rep.choose) h0 ⟨d9 _,Agree.refl _ _⟩ (fun a' w' hR'=>hQ a' w' (RepR.clean hR2 hR' f1 f2 f3)) _ _ a _ hunl ?_
    exact⟨by simp,fun j o _ hj=>absurd hj (hno j),fun t _=>hno t,hR2.size,rfl,hR2.base,hR2.inv,Keeps.refl _ _ _,fun E' ha=>(hρ E' ha).1,fun t _=>rfl,fun k o d _ hk=>absurd hk (hno k)⟩
  ·split at h
   ·cases h
   rename_i hd
   have hD:=i0k hd
   split at h
   case h_2=>cases h
   rename_i sn hn
   cases h
   obtain⟨ws,hm',kn,hhd,hws,htl⟩:=qD hn
   obtain⟨f1,f2,f3⟩:=uD htl
   refine wpIn_region_any hm ?_
   refine n0y hX hp hD hhd (fun k o ho=>jE hws k o (by rw [W3]; exact ho)) h0 (w0:=⟨_,s.nid,hR2.rep.choose,a.defers⟩) ⟨d9 _,Agree.refl _ _⟩ htl hl (fun a' w' hR'=>hQ a' w' (RepR.clean hR2 hR' f1 f2 f3)) _ (f0a os) _ _ _ a _ hunl (by rw [L0]; rfl) ?_
   exact⟨by simp,fun j o _ hj=>absurd hj (hno j),d9 _,hD.le,fun j hj _=>⟨fun e=>absurd e (hno j),fun e=>by omega⟩,hR2.size,rfl,hR2.base,hR2.inv,Keeps.refl _ _ _,fun t _=>rfl,hR2.rep.choose,Agree.refl _ _,fun E' ha=>⟨(hρ E' ha).1,fun k o d _ hk=>absurd hk (hno k)⟩⟩
def L9 (body:St->Option (AX×St)):Nat->St->Option (AX×St)
 | 0,_=>none
 | n+1,s=>match body s with
  | some (.normal,s1)=>L9 body n s1
  | r=>r
def b9 (X:Cx) (c:Code) (s:St) (x:AX) (s':St):Prop:=
 ∀ (B:Nat) (M:Nat->Prop) (w0:Bas) (rb:Option Nat) (a:Act) (w:World),Par X.P B M->Rep X.P X.J B M w0 rb s a w->(Code.loop c).wpIn (Fl rb) 0 X.P (fun e a' w'=>e=x.toExit∧Rep X.P X.J B M w0 rb s' a' w') a w
def St.core (s:St):St:=⟨s.tmps,s.heap,s.nid,[],[],0,s.rd,s.mks,s.bs⟩
abbrev U5:=List (St->Option (AX×St))
def x1y:U5->Nat->Option (St->Option (AX×St))
 | [],_=>none
 | h ::r,n=>match n with
  | 0=>some h
  | k+1=>x1y r k
def H3 (X:Cx) (L:U5):Nat->Code->St->Option (AX×St)
 | 0,_,_=>none
 | f+1,c,s=>
  match c with
  | .skip=>some (.normal,s)
  | .label _=>some (.normal,s)
  | .region _ ⟨os⟩ draw=>match lW X os draw s with
   | some s'=>some (.normal,s')
   | none=>none
  | .seq c1 c2=>match H3 X L f c1 s with
   | some (.normal,s1)=>H3 X L f c2 s1
   | r=>r
  | .cond o c1 c2=>match evo s.tmps [] o with
   | some (.bool b)=>match s.ds with
    | d ::ds=>match d with
     | true=>H3 X L f c1 (s.bit ds (b=true))
     | false=>H3 X L f c2 (s.bit ds (b=false))
    | [] =>match b with
     | true=>H3 X L f c1 s
     | false=>H3 X L f c2 s
   | _=>none
  | .block id c1=>match H3 X L f c1 s with
   | some (.exit i,s1)=>match zO0 i id with
    | true=>some (.normal,s1)
    | false=>some (.exit i,s1)
   | r=>r
  | .scope c1=>H3 X L f c1 s
  | .loop c1=>match x1y L s.lp with
   | some h=>match h s with
    | some (x,s')=>some (x,s'.looped (s.lp+1) (b9 X c1 s.core x s'.core ::s.obs))
    | none=>none
   | none=>L9 (H3 X L f c1) f s
  | .exit id=>some (.exit id,s)
  | .ret=>some (.ret,s)
  | _=>none
theorem Rep.same {P:Program} {J:Inv P} {B:Nat} {M:Nat->Prop} {w0:Bas} {rb:Option Nat} {s s':St} {a:Act} {w:World} (h:Rep P J B M w0 rb s a w) (h1:s'.tmps=s.tmps) (h2:s'.heap=s.heap) (h3:s'.nid=s.nid) (h4:s'.rd=s.rd) (h5:s'.mks=s.mks) (h6:s'.bs=s.bs):Rep P J B M w0 rb s' a w:=by
 obtain⟨E,hρ0,hρ⟩:=h.rep
 exact⟨by rw [h6]; exact h.low,by rw [h1]; exact h.plain,by rw [h1]; exact h.size,h.base,h.inv,h.keeps,E,by rw [h3]; exact hρ0,fun E' ha=>by
  rw [h3] at ha
  obtain⟨g1,g2,g3⟩:=hρ E' ha
  rw [h1,h2]
  exact⟨g1,⟨by rw [h5]; exact g2.defers,by rw [h4]; exact g2.round⟩,g3⟩⟩
theorem h0h {X:Cx} {os:List Oper} {draw:Bool} {s s':St} (h:lW X os draw s=some s') (hl:l5 s'.obs):l5 s.obs:=by
 unfold lW at h
 split at h
 ·split at h
  ·rename_i hn; cases h; exact gV (s6 _) rfl hn hl
  ·cases h
 ·split at h
  ·rename_i sn hdr
   cases h
   unfold d1t at hdr
   split at hdr
   ·cases hdr
   have laidCase:b0c X os (p0a os) s=some sn->l5 s.obs:=fun hdr=>by
    obtain⟨_,hm',kn,hhd,htl⟩:=sW hdr
    exact iX (s6 _) rfl hhd (gS (s6 _) rfl htl hl)
   split at hdr
   ·exact laidCase hdr
   ·split at hdr
    ·rename_i hn; cases hdr; exact gV (s6 _) rfl hn hl
    ·exact laidCase hdr
  ·split at h
   ·cases h
   ·split at h
    ·rename_i hn
     cases h
     obtain⟨_,hm',kn,hhd,_,htl⟩:=qD hn
     exact iX (s6 _) rfl hhd (gS (s6 _) rfl htl hl)
    ·cases h
theorem cZ {body:St->Option (AX×St)} (hb:∀ s x s',body s=some (x,s')->l5 s'.obs->l5 s.obs):∀ (n:Nat) (s:St) (x:AX) (s':St),L9 body n s=some (x,s')->l5 s'.obs->l5 s.obs
 | 0,s,x,s',h,_=>by simp [L9] at h
 | n+1,s,x,s',h,hl=>by
  simp only [L9] at h
  split at h
  ·rename_i s1 h1
   exact hb _ _ _ h1 (cZ hb n s1 x s' h hl)
  ·exact hb _ _ _ h hl
theorem Y3 {X:Cx} {L:U5} :∀ (f:Nat) (c:Code) (s:St) (x:AX) (s':St),H3 X L f c s=some (x,s')->l5 s'.obs->l5 s.obs:=by
 intro f
 induction f with
 | zero=>intro c s x s' h; simp [H3] at h
 | succ f ih=>
  intro c s x s' h hl
  unfold H3 at h
  split at h
  ·cases h; exact hl
  ·cases h; exact hl
  ·split at h
   ·rename_i hr; cases h; exact h0h hr hl
   ·cases h
  ·split at h
   ·rename_i s1 h1; exact ih _ _ _ _ h1 (ih _ _ _ _ h hl)
   ·exact ih _ _ _ _ h hl
  ·split at h
   ·split at h
    ·split at h
     ·exact (ih _ _ _ _ h hl).2
     ·exact (ih _ _ _ _ h hl).2
    ·split at h
     ·exact ih _ _ _ _ h hl
     ·exact ih _ _ _ _ h hl
   ·cases h
  ·split at h
   ·rename_i i s1 h1
    split at h <;> (cases h; exact ih _ _ _ _ h1 hl)
   ·exact ih _ _ _ _ h hl
  ·exact ih _ _ _ _ h hl
  ·split at h
   ·split at h
    ·cases h; exact hl.2
    ·cases h
   ·exact cZ (fun s x s'=>ih _ s x s') f s x s' h hl
  ·cases h; exact hl
  ·cases h; exact hl
  ·cases h
theorem gE {P:Program} {rb:Option Nat} {c:Code} {body:St->Option (AX×St)} {Q:Exit->Act->World->Prop} {R:St->Act->World->Prop} (hobs:∀ s x s',body s=some (x,s')->l5 s'.obs->l5 s.obs)
  (hb:∀ s x s',body s=some (x,s')->l5 s'.obs->∀ a w,R s a w->∀ Q':Exit->Act->World->Prop,(∀ a' w',R s' a' w'->Q' x.toExit a' w')->c.wpIn (Fl rb) 0 P Q' a w):
  ∀ (n:Nat) (s:St) (x:AX) (s':St),L9 body n s=some (x,s')->l5 s'.obs->(∀ a' w',R s' a' w'->Q x.toExit a' w')->∀ a w,R s a w->x≠ .normal∧Code.roundsIn (Fl rb) 0 P c Q n a w
 | 0,s,x,s',h,_,_,_,_,_=>by simp [L9] at h
 | n+1,s,x,s',h,hl,hQ,a,w,hR=>by
  simp only [L9] at h
  split at h
  ·rename_i s1 h1
   have ih:=gE hobs hb n s1 x s' h hl hQ
   have hl1:=cZ hobs n s1 x s' h hl
   refine⟨?_,?_⟩
   ·
    have hne:∀ (n:Nat) (s:St) (x:AX) (s':St),L9 body n s=some (x,s')->x≠ .normal:=by
     intro n
     induction n with
     | zero=>intro s x s' h; simp [L9] at h
     | succ n ihn=>
      intro s x s' h
      simp only [L9] at h
      split at h
      ·exact ihn _ _ _ h
      ·rename_i hno
       rw [h] at hno
       intro e
       subst e
       exact hno _ rfl
    exact hne n s1 x s' h
   ·rw [roundsIn_succ]
    refine hb s .normal s1 h1 hl1 a w hR _ (fun a' w' hR'=> ?_)
    exact (ih a' w' hR').2
  ·rename_i hno
   have hxn:x≠ .normal:=fun e=>by subst e; exact hno s' h
   refine⟨hxn,?_⟩
   rw [roundsIn_succ]
   refine hb s x s' h hl a w hR _ (fun a' w' hR'=> ?_)
   cases x with
   | normal=>exact absurd rfl hxn
   | exit id=>exact hQ a' w' hR'
   | ret=>exact hQ a' w' hR'
theorem f2a {P:Program} {J:Inv P} {B:Nat} {M:Nat->Prop} {w0:Bas} {rb:Option Nat} {s:St} {a:Act} {w:World} (hR:Rep P J B M w0 rb s a w) {o:Operand} (hg:uC o=true) {v:Value} (h:evo s.tmps [] o=some v):
  ∀ E',Agree s.nid hR.rep.choose E'->a.eval o=rv E' v:=by
 obtain⟨_,hρ⟩:=hR.rep.choose_spec
 intro E' ha
 refine T7 (O:=fun _=>false) (hρ E' ha).1 (mI _) h (fun t _=> ?_) (fun g e=>by subst e; cases hg)
 have:=(hρ E' ha).2.2 t
 have hp:=hR.plain t
 generalize D5 s.tmps t=tv at*
 cases tv with
 | unk=>trivial
 | v y=>exact this y rfl
 | sp l y=>cases hp
 | key j l b=>cases hp
theorem N3 {P:Program} {b:Frame} {a:Act} {k:List Item} {cs:List Frame} {w:World} {c:Code} :step P (lone (b.atR a (.code (.scope c) ::k)) cs w)= .next (lone (b.atR a (.code c :: .inScope c ::k)) cs w):=
 step_lone_go (by simp [stepG,stepG.exec,Frame.atR])
theorem d0i {P:Program} {b:Frame} {a:Act} {k:List Item} {cs:List Frame} {w:World} {c:Code} :step P (lone (b.atR a (.inScope c ::k)) cs w)= .next (lone (b.atR a k) cs w):=
 step_lone_go (by simp [stepG,stepG.exec,Frame.atR])
theorem z0f {F:Fence} {n:Nat} {P:Program} {Q:Exit->Act->World->Prop} {a:Act} {w:World} {c:Code} (h:c.wpIn F n P (Exit.noGoto Q) a w):(Code.scope c).wpIn F n P Q a w:=by
 intro b k cs hro hb hr
 have h0:(lone (b.atR a (.code (.scope c) ::k)) cs w).fenced P F:=fenced_calm hb hr rfl
 obtain⟨e,a₁,w₁,hq,harr⟩:=h b (.inScope c ::k) cs hro hb hr
 cases e with
 | normal=>exact⟨.normal,a₁,w₁,hq, .head h0 N3 (StepsIn.trans harr (.one (fenced_calm hb hr rfl) d0i))⟩
 | exit id=>
  have hx:exitTo id (.inScope c ::k)=exitTo id k:=by simp [exitTo]
  exact⟨.exit id,a₁,w₁,hq,fun k' hk=> .head h0 N3 (harr.1 k' (by rw [hx]; exact hk)),
   fun hr' hk=>let ⟨k₁,h1,h2⟩:=harr.2 hr' (by rw [hx]; exact hk); ⟨k₁,h1, .head h0 N3 h2⟩⟩
 | goto l=>exact hq.elim
 | ret=>exact⟨_,a₁,w₁,hq, .of_steps (.one h0 N3) harr⟩
 | panic ch=>exact⟨_,a₁,w₁,hq, .of_steps (.one h0 N3) harr⟩
 | outgrown=>exact⟨_,a₁,w₁,hq, .of_steps (.one h0 N3) harr⟩
theorem dW {X:Cx} {L:U5} (hX:CxOk X X.J) (hm:X.P.follows .mixedOrders=true) {B:Nat} {M:Nat->Prop} (hp:Par X.P B M) {w0:Bas} {rb:Option Nat} :∀ (f:Nat) (c:Code) (s:St) (x:AX) (s':St),H3 X L f c s=some (x,s')->l5 s'.obs->
  ∀ a w,Rep X.P X.J B M w0 rb s a w->∀ Q:Exit->Act->World->Prop,(∀ a' w',Rep X.P X.J B M w0 rb s' a' w'->Q x.toExit a' w')->c.wpIn (Fl rb) 0 X.P Q a w:=by
 intro f
 induction f with
 | zero=>intro c s x s' h; simp [H3] at h
 | succ f ih=>
  intro c s x s' h hl a w hR Q hQ
  unfold H3 at h
  split at h
  ·cases h; exact wpIn_skip (hQ a w hR)
  ·cases h; exact wpIn_label (hQ a w hR)
  ·split at h
   ·rename_i s1 hr; cases h; exact yQ hX hm hr hl hp hR hQ
   ·cases h
  ·split at h
   ·rename_i s1 h1
    exact wpIn_seq (ih _ _ _ _ h1 (Y3 _ _ _ _ _ h hl) a w hR _ (fun a' w' hR'=>ih _ _ _ _ h hl a' w' hR' Q hQ))
   ·rename_i hno
    have hxn:x≠ .normal:=fun e=>by subst e; exact hno s' h
    refine wpIn_seq (ih _ _ _ _ h hl a w hR _ (fun a' w' hR'=> ?_))
    cases x with
    | normal=>exact absurd rfl hxn
    | exit id=>exact hQ a' w' hR'
    | ret=>exact hQ a' w' hR'
  ·rename_i o c1 c2
   split at h
   case h_2=>cases h
   rename_i b hb
   have hval:uC o=true->a.eval o= .bool b:=fun hg=>by
    have:=f2a hR hg hb _ (Agree.refl _ _)
    simpa [rv] using this
   have hg:uC o=true:=by
    cases o with
    | global g=>simp [evo] at hb
    | _=>rfl
   have hv:=hval hg
   split at h
   ·rename_i d ds hds
    split at h
    ·have hob:=Y3 _ _ _ _ _ h hl
     have hb':b=true:=hob.1
     subst hb'
     exact wpIn_cond_true hv (ih _ _ _ _ h hl a w (hR.same rfl rfl rfl rfl rfl rfl) Q hQ)
    ·have hob:=Y3 _ _ _ _ _ h hl
     have hb':b=false:=hob.1
     subst hb'
     exact wpIn_cond_false hv (ih _ _ _ _ h hl a w (hR.same rfl rfl rfl rfl rfl rfl) Q hQ)
   ·split at h
    ·exact wpIn_cond_true hv (ih _ _ _ _ h hl a w hR Q hQ)
    ·exact wpIn_cond_false hv (ih _ _ _ _ h hl a w hR Q hQ)
  ·rename_i id c1
   split at h
   ·rename_i i s1 h1
    split at h
    ·rename_i hi
     have hi:=xY hi
     subst hi
     cases h
     refine wpIn_block (ih _ _ _ _ h1 hl a w hR _ (fun a' w' hR'=> ?_))
     simp only [AX.toExit,Exit.inBlock,H9]
     exact hQ a' w' hR'
    ·rename_i hi
     cases h
     refine wpIn_block (ih _ _ _ _ h1 hl a w hR _ (fun a' w' hR'=> ?_))
     simp only [AX.toExit,Exit.inBlock]
     rw [a7 (fun e=>by subst e; rw [f0e] at hi; cases hi)]
     exact hQ a' w' hR'
   ·rename_i hno
    refine wpIn_block (ih _ _ _ _ h hl a w hR _ (fun a' w' hR'=> ?_))
    cases x with
    | normal=>exact hQ a' w' hR'
    | exit id=>exact absurd h (hno id s')
    | ret=>exact hQ a' w' hR'
  ·refine z0f (ih _ _ _ _ h hl a w hR _ (fun a' w' hR'=> ?_))
   cases x with
   | normal=>exact hQ a' w' hR'
   | exit id=>exact hQ a' w' hR'
   | ret=>exact hQ a' w' hR'
  ·rename_i c1
   split at h
   ·split at h
    ·rename_i x1 s1 hs1
     cases h
     have hlt:b9 X c1 s.core x s1.core:=hl.1
     refine wpIn_mono (hlt B M w0 rb a w hp (hR.same rfl rfl rfl rfl rfl rfl)) (fun e a' w' ⟨he,hR'⟩=> ?_)
     subst he
     exact hQ a' w' (hR'.same rfl rfl rfl rfl rfl rfl)
    ·cases h
   ·exact wpIn_loop_rounds f (gE (fun s x s'=>Y3 f c1 s x s') (fun s x s' hs hls a w hR Q' hQ'=>ih c1 s x s' hs hls a w hR Q' hQ') f s x s' h hl hQ a w hR).2
  ·cases h; exact wpIn_exit (hQ a w hR)
  ·cases h; exact wpIn_ret (hQ a w hR)
  ·cases h
def N9 (P:Program) (auto:Bool) (ts:List TV) (H:Heap):List ResultVar->Option (List Value×List Prop)
 | [] =>some ([],[])
 | .tmp t ::r=>match rd [] (D5 ts t),N9 P auto ts H r with
  | some v,some (vs,l)=>some (v ::vs,l)
  | _,_=>none
 | .cell t ty ::r=>match rd [] (D5 ts t) with
  | some x=>match b0p P auto H ty x,N9 P auto ts H r with
   | some (v,l),some (vs,l')=>some (v ::vs,l++l')
   | _,_=>none
  | none=>none
def P1:List Value->Value
 | [v] =>v
 | vs=> .tuple ⟨vs⟩
theorem t0p {ts:List TV} {a:Act} (hR:∀ t,j0i (D5 ts t)=true) {E:Num} (hv:∀ t x,D5 ts t= .v x->a.tmps.getD t undef=rv E x) {t:Nat} {v:Value} (h:rd [] (D5 ts t)=some v):
  a.tmps.getD t undef=rv E v:=by
 have hp:=hR t
 have h1:=hv t
 generalize D5 ts t=tv at*
 cases tv with
 | unk=>simp [rd] at h
 | v y=>simp only [rd] at h; cases h; exact h1 _ rfl
 | sp l y=>cases hp
 | key j l b=>cases hp
theorem y0u {P:Program} {auto:Bool} {H:Heap} {t:TypeId} {x v:Value} {l:List Prop} (h:b0p P auto H t x=some (v,l)):∃ id off,x= .pointer (some ⟨id,off,none⟩):=by
 unfold b0p at h
 simp only [A8,B0] at h
 split at h
 ·exact⟨_,_,rfl⟩
 ·cases h
theorem W7 {P:Program} {auto:Bool} {B:Nat} {M:Nat->Prop} {ts:List TV} {H:Heap} {a:Act} {w:World} (hR:∀ t,j0i (D5 ts t)=true) {E:Num} (hS:Sim P B M E H w) (hv:∀ t x,D5 ts t= .v x->a.tmps.getD t undef=rv E x):
  ∀ (l:List ResultVar) (vs:List Value) (ob:List Prop),N9 P auto ts H l=some (vs,ob)->l5 ob->
   (l.mapM fun (r:ResultVar)=>(match r with | .tmp t=>pure (a.tmps.getD t undef) | .cell p ty=>do loadVar ty (<- asAddr (a.tmps.getD p undef)):Sem Value)).run P w= .ok (rvL E vs) w
 | [],vs,ob,h,_=>by simp only [N9] at h; cases h; rfl
 | .tmp t ::r,vs,ob,h,hl=>by
  simp only [N9] at h
  split at h
  case h_2=>cases h
  rename_i v vs' l' h1 h2
  cases h
  have ih:=W7 hR hS hv r vs' _ h2 hl
  simp only [List.mapM_cons,v7,V3,y4,t0p hR hv h1]
  rw [ih]
  rfl
 | .cell t ty ::r,vs,ob,h,hl=>by
  simp only [N9] at h
  split at h
  case h_2=>cases h
  rename_i x h1
  split at h
  case h_2=>cases h
  rename_i v l1 vs' l2 h2 h3
  cases h
  rw [a8] at hl
  have ih:=W7 hR hS hv r vs' l2 h3 hl.2
  have hld:=pU hS h2 hl.1
  simp only [List.mapM_cons,v7,t0p hR hv h1]
  obtain⟨id,off,rfl⟩:=y0u h2
  have hadr:((asAddr (rv E (.pointer (some ⟨id,off,none⟩)))).run P w).andThen (fun a w'=>(loadVar ty a).run P w')= .ok (rv E v) w:=by
   simp only [rv,w8] at hld ⊢
   cases hid:E id with
   | none=>rw [hid] at hld; simp [Instr.loadAt,Instr.sureAddr,stuck,Sem.run] at hld
   | some b=>
    rw [hid] at hld
    simp only [E6,Instr.loadAt,Instr.sureAddr,pure_bind] at hld
    simp only [E6,asAddr,V3,y4]
    exact hld
  rw [hadr]
  simp only [y4]
  rw [ih]
  rfl
def h2q (n:Nat):Fn->Bool
 | .yield l=>zO1 l n
 | _=>true
mutual
def tT (n:Nat):Value->Bool
 | .pointer (some a)=>zO1 a.block n
 | .slice (some a) _ _=>zO1 a.block n && (match a.spot with | none=>true | some k=>zO1 k n)
 | .map (some r)=>zO1 r n
 | .func fn f c=>h2q n fn && lowA n f && lowA n c
 | .chan (some _)=>false
 | .complex _ _ _=>false
 | .iface _ v=>tT n v
 | .agg cs=>lowA n cs
 | .tuple vs=>lowA n vs
 | _=>true
def lowA (n:Nat):Array Value->Bool
 | ⟨l⟩=>lowL n l
def lowL (n:Nat):List Value->Bool
 | [] =>true
 | v ::l=>tT n v && lowL n l
end
def s2k (n:Nat):Heap->Bool
 | [] =>true
 | (i,o) ::r=>match zO1 i n with
  | false=>s2k n r
  | true=>match o with
   | .cells cs _=>lowL n cs && s2k n r
   | _=>s2k n r
def gcH (v:Value) (n:Nat) (h:Heap):Heap:=
 match s2k n h with
 | false=>h
 | true=>match D3 v with
  | true=>h.filter fun p=>zO1 p.1 n
  | false=>match a0o h 400 (e2x v []) [] with
   | keep=>h.filter fun p=>zO1 p.1 n || K9 p.1 keep
theorem aR (f:Nat->Bool):∀ (h:Heap) (i:Nat) (o:AObj),Heap.get (h.filter fun p=>f p.1) i=some o->Heap.get h i=some o
 | [],_,_,hi=>hi
 | (j,q) ::h,i,o,hi=>by
  rw [List.filter_cons] at hi
  rw [b6]
  split at hi
  ·rw [b6] at hi
   split at hi
   ·rename_i e; rw [f9 e]; exact hi
   ·rename_i e; rw [a7 e]; exact aR f h i o hi
  ·rename_i hb
   split
   ·rename_i e
    subst e
    exfalso
    have hlt:∀ (l:Heap) (o:AObj),Heap.get (l.filter fun p=>f p.1) j=some o->f j=true:=by
     intro l
     induction l with
     | nil=>intro o h; simp [Heap.get] at h
     | cons p l ihl=>
      obtain⟨k,q'⟩:=p
      intro o h
      rw [List.filter_cons] at h
      split at h
      ·rename_i hk
       rw [b6] at h
       split at h
       ·rename_i e; subst e; exact hk
       ·exact ihl o h
      ·exact ihl o h
    exact hb (hlt h o hi)
   ·exact aR f h i o hi
theorem t1g (v:Value) (n:Nat) (h:Heap):∀ i o,(gcH v n h).get i=some o->h.get i=some o:=by
 intro i o hi
 unfold gcH at hi
 split at hi
 ·exact hi
 ·split at hi
  ·exact aR (fun k=>zO1 k n) h i o hi
  ·exact aR (fun k=>zO1 k n || K9 k _) h i o hi
def W9:List Mk->Heap->Option Heap
 | [],H=>some H
 | .mark i ::r,H=>match H.get i with
  | some .defr=>W9 r (H.set i .dead)
  | _=>none
 | .call _ _ _ ::r,H=>W9 r H
def h2h (P:Program) (f:FuncId) (k:Nat):Prop:=
 ∀ (args:Array Value) (w:World),args.size=k->(callFunc f args).run P w= .ok (.enter f args) w∧
  ∃ w1,Below w.heap.size w w1∧CallsDIn Fence.wide 0 P f args .returning w fun e u' w'=>(∃ v,e= .returned v)∧u'= .returning∧w'=w1
def xQ (P:Program):List Mk->List Prop->List Prop
 | [],l=>l
 | .mark _ ::r,l=>xQ P r l
 | .call f cap args ::r,l=>h2h P f (args.length+cap.length) ::xQ P r l
theorem iH {P:Program} :∀ {mks:List Mk} {l:List Prop},l5 (xQ P mks l)->(∀ f cap args,Mk.call f cap args∈mks->h2h P f (args.length+cap.length))∧l5 l
 | [],l,h=>⟨(fun _ _ _ hm=>by cases hm),h⟩
 | .mark _ ::r,l,h=>by
  obtain⟨h1,h2⟩:=iH (mks:=r) h
  exact⟨fun f cap args hm=>h1 f cap args (by simpa using hm),h2⟩
 | .call f0 _ _ ::r,l,h=>by
  obtain⟨h1,h2⟩:=iH (mks:=r) h.2
  refine⟨fun f cap args hm=> ?_,h2⟩
  rcases zzA86.1 hm with e | hm
  ·cases e; exact h.1
  ·exact h1 f cap args hm
def m0k (X:Cx) (L:U5) (fuel:Nat) (f:FuncId) (args:List Value) (H:Heap) (n:Nat) (ds:List Bool):Option CR:=
 match p1c X.P.funcs.toList f with
 | none=>none
 | some fn=>match fn.body with
  | none=>none
  | some c=>match H3 X L fuel c ⟨args.map .v++zO7 (fn.ntmps-args.length) (.v undef),H,n,ds,[],0,none,[],n⟩ with
   | none=>none
   | some (x,⟨tm,hp,nid,ds',obs,_,_,mk,_⟩)=>match x with
    | .exit _=>none
    | _=>match Nat.ble n nid with
     | false=>none
     | true=>match W9 mk hp with
      | none=>none
      | some H'=>match N9 X.P X.auto tm H' fn.results.toList with
       | none=>none
       | some (vs,l)=>some ⟨P1 vs,gcH (P1 vs) n H',nid,xQ X.P mk (l++obs),ds'⟩
theorem q0h (X:Cx) (L:U5) (fuel:Nat) (f:FuncId) (args:List Value) (H:Heap) (n:Nat) (ds:List Bool):m0k X L fuel f args H n ds=
  match X.P.funcs[f]? with
  | none=>none
  | some fn=>match fn.body with
   | none=>none
   | some c=>match H3 X L fuel c ⟨args.map .v++zO7 (fn.ntmps-args.length) (.v undef),H,n,ds,[],0,none,[],n⟩ with
    | none=>none
    | some (x,s)=>match x with
     | .exit _=>none
     | _=>match Nat.ble n s.nid with
      | false=>none
      | true=>match W9 s.mks s.heap with
       | none=>none
       | some H'=>match N9 X.P X.auto s.tmps H' fn.results.toList with
        | none=>none
        | some (vs,l)=>some ⟨P1 vs,gcH (P1 vs) n H',s.nid,xQ X.P s.mks (l++s.obs),s.ds⟩:=by
 unfold m0k
 rw [gM,show X.P.funcs.toList[f]? =X.P.funcs[f]? by simp]
 cases X.P.funcs[f]? with
 | none=>rfl
 | some fn=>
  dsimp only
  cases fn.body with
  | none=>rfl
  | some c=>
   dsimp only
   generalize H3 X L fuel c _=z
   cases z with
   | none=>rfl
   | some p=>
    obtain⟨x,s⟩:=p
    cases x <;> rfl
theorem cI {P:Program} {fn:Func} {tmps:Array Value} {R:Ending->World->Prop} {B:Nat} {M:Nat->Prop} :∀ (mks:List Mk) (H H':Heap) (w:World),(∀ f cap args,Mk.call f cap args∈mks->h2h P f (args.length+cap.length))->B<=w.heap.size->W9 mks H=some H'->∀ E,Sim P B M E H w->
  ∃ w',Keeps B M w w'∧(∀ E',(∀ i,H.get i=some .defr->E' i=E i)->Sim P B M E' H w->Sim P B M E' H' w')∧(LeavesInM Fence.wide 0 P fn tmps R [] .returning w'->LeavesInM Fence.wide 0 P fn tmps R (mks.map (mkD E)) .returning w)
 | [],H,H',w,_,_,h,E,hS=>by
  simp only [W9] at h
  cases h
  exact⟨w,Keeps.refl _ _ _,fun _ _ h=>h,fun h=>h⟩
 | .call f cap args ::r,H,H',w,hq,hB,h,E,hS=>by
  simp only [W9] at h
  obtain⟨q1,w1,q2,q3⟩:=hq f cap args (by simp) ((⟨rvL E args⟩:Array Value)++⟨rvL E cap⟩) w (by simp [o9])
  have hk:Keeps B M w w1:=⟨q2.os,q2.tape,q2.output,q2.size,fun k hk _=>q2.block k (C8 hk hB)⟩
  obtain⟨w',k1,k2,k3⟩:=cI (fn:=fn) (tmps:=tmps) (R:=R) r H H' w1 (fun f cap args hm=>hq f cap args (gK _ hm)) (x7 hB q2.size) h E (hS.below q2)
  refine⟨w',hk.trans k1,fun E' he hS'=>k2 E' he (hS'.below q2),fun hh=> ?_⟩
  simp only [p0v]
  refine⟨by simp, .inr ⟨(fun hd=>by cases hd), .func f,⟨rvL E cap⟩,f,_,rfl,q1,fun _ _=>trivial,?_⟩⟩
  refine⟨q3.1,fun c cs hu hro=> ?_⟩
  obtain⟨e,u',w2,fr,⟨⟨v,hv⟩,hu',hw'⟩,hs⟩:=q3.2 c cs hu hro
  subst hv hu' hw'
  exact⟨_,_,_,fr,k3 hh,hs⟩
 | .mark i ::r,H,H',w,hq,hB,h,E,hS=>by
  simp only [W9] at h
  split at h
  case h_2=>cases h
  rename_i hget
  have turn:∀ E',Sim P B M E' H w->∀ b,E' i=some b->w.heap[b]? =some (.deferred (some []))->(B<=b∨M b)->Sim P B M E' (H.set i .dead) (w.putObj b (.deferred none)):=fun E' hS' b hb hw hown=>
   hS'.turn hget rfl hb ⟨b,_,rfl,World.putObj_heap_same (n5 hw),hown⟩ (fun k hk=>w0c hk)
  obtain⟨b,hb,hw,hown⟩:=hS.obj i _ hget
  have hk:Keeps B M w (w.putObj b (.deferred none)):=
   ⟨rfl,rfl,rfl,by simp,fun k hk hm=>w0c (fun e=>by subst e; exact hown.elim (fun h=>by omega) (fun h=>hm h))⟩
  obtain⟨w',k1,k2,k3⟩:=cI r _ H' _ (fun f cap args hm=>hq f cap args (gK _ hm)) (by simpa using hB) h E (turn E hS b hb hw hown)
  refine⟨w',hk.trans k1,fun E' he hS'=>k2 E' (fun j hj=> ?_) (turn E' hS' b ((he i hget).trans hb) hw hown),fun hh=> ?_⟩
  ·rw [p9 H i .dead .defr hget] at hj
   split at hj
   ·cases hj
   ·exact he j hj
  ·simp only [p0v,mkD,hb,aF]
   exact⟨by simp, .inl ⟨b,_,rfl,run_takeDeferred hw,k3 hh⟩⟩
theorem m2l {ts:List Value} {k t:Nat} {x:Value} (h:D5 (ts.map .v++zO7 k (.v undef)) t= .v x) (E:Num):(((⟨rvL E ts⟩:Array Value)++Array.replicate k undef)).getD t undef=rv E x:=by
 simp only [N8] at h
 rw [Array.getD_eq_getD_getElem?]
 have e:((⟨rvL E ts⟩:Array Value)++Array.replicate k undef)[t]? =(rvL E ts++zO7 k undef)[t]? :=by
  rw [<- Array.getElem?_toList]
  simp
 rw [e]
 by_cases ht:t < ts.length
 ·rw [i1h (by simpa using ht)] at h
  rw [i1h (by rw [o9]; simpa using ht)]
  simp only [Z3,o9] at h ⊢
  have hs:ts[t]? =some ts[t] :=by simp [ht]
  rw [hs] at h ⊢
  simp only [E6,aF] at h ⊢
  cases h
  rfl
 ·rw [e0d (by simpa using ht)] at h
  rw [e0d (by rw [o9]; simpa using ht)]
  simp only [o9,D1] at h ⊢
  by_cases hk:t-ts.length < k
  ·rw [List.getElem?_replicate,f9 hk] at h ⊢
   simp only [aF] at h ⊢
   cases h
   rw [fA]
  ·rw [List.getElem?_replicate,a7 hk] at h
   cases h
theorem r0w {P:Program} {fn:Func} {tmps:Array Value} {w:World} {vs:List Value} (h:(fn.results.toList.mapM fun (r:ResultVar)=>(match r with | .tmp t=>pure (tmps.getD t undef) | .cell p ty=>do loadVar ty (<- asAddr (tmps.getD p undef)):Sem Value)).run P w= .ok vs w):
  (results fn tmps).run P w= .ok (P1 vs) w:=by
 unfold results
 rw [Array.mapM_eq_mapM_toList,v7,Sem.run_map]
 refine Eq.trans (aP (fun r:Result (List Value)=>(r.andThen fun a w'=> .ok a.toArray w').andThen fun (a:Array Value) w'=>Sem.run P (pure (if h:a.size=1 then a[0] else Value.tuple a)) w') h) ?_
 simp only [y4,V3]
 congr 1
 cases vs with
 | nil=>rfl
 | cons v vs=>
  cases vs with
  | nil=>rfl
  | cons u vs=>rfl
theorem K3 {X:Cx} {L:U5} (hX:CxOk X X.J) (hm:X.P.follows .mixedOrders=true) {fuel f n:Nat} {args:List Value} {H:Heap} {ds:List Bool} {r:CR} (h:m0k X L fuel f args H n ds=some r) (hl:l5 r.obs)
  {B:Nat} {M:Nat->Prop} {E:Num} {w:World} {vs:List Value} (hp:Par X.P B M) (hB:B<=w.heap.size) (hI:X.J.I w) (hS:∀ E',Agree n E E'->Sim X.P B M E' H w∧vs=rvL E' args):
  n<=r.n∧Calls X.P f ⟨vs⟩ w fun e w'=>∃ ρ1 v,Agree n E ρ1∧e= .returned v∧Keeps B M w w'∧∀ E',Agree r.n ρ1 E'->v=rv E' r.v∧Sim X.P B M E' r.h w':=by
 rw [q0h] at h
 split at h
 case h_1=>cases h
 rename_i fn hfn
 split at h
 case h_1=>cases h
 rename_i c hc
 split at h
 case h_1=>cases h
 rename_i x s hcode
 have key:(∀ id,x≠ .exit id)->∀ (hn:n<=s.nid) (H':Heap) (us:List Value) (l:List Prop),W9 s.mks s.heap=some H'->N9 X.P X.auto s.tmps H' fn.results.toList=some (us,l)->r=⟨P1 us,gcH (P1 us) n H',s.nid,xQ X.P s.mks (l++s.obs),s.ds⟩->
   Calls X.P f ⟨vs⟩ w fun e w'=>∃ ρ1 v,Agree n E ρ1∧e= .returned v∧Keeps B M w w'∧∀ E',Agree r.n ρ1 E'->v=rv E' r.v∧Sim X.P B M E' r.h w':=by
  intro hne hn H' us l hkill hres hr
  subst hr
  obtain⟨hqu,hl⟩:=iH hl
  rw [a8] at hl
  refine callsIn_wide.1 (callsIn_of_wp_marks (n:=0) hfn hc trivial ?_)
  have hR0:Rep X.P X.J B M ⟨w,n,E,[]⟩ none ⟨args.map .v++zO7 (fn.ntmps-args.length) (.v undef),H,n,ds,[],0,none,[],n⟩ { tmps:=(⟨vs⟩:Array Value)++Array.replicate (fn.ntmps- (⟨vs⟩:Array Value).size) undef,defers:=[]} w:=by
   have hlen:vs.length=args.length:=by rw [(hS E (Agree.refl _ _)).2,o9]; simp
   refine⟨rfl,fun t=> ?_,by simp [hlen],hB,hI,Keeps.refl _ _ _,E,⟨d9 _,Agree.refl _ _⟩,fun E' ha=>⟨(hS E' ha).1,⟨rfl,rfl⟩,fun t x hx=> ?_⟩⟩
   ·simp only [N8]
    rcases hgt:(args.map TV.v++zO7 (fn.ntmps-args.length) (TV.v undef))[t]? with _ | tv
    ·rfl
    ·have hmem:=List.mem_of_getElem? hgt
     simp only [zzA94,zzA43,List.mem_replicate] at hmem
     rcases hmem with ⟨y,_,rfl⟩ | ⟨_,rfl⟩ <;> rfl
   ·have:=m2l hx E'
    rw [<- (hS E' ha).2] at this
    simpa [hlen] using this
  refine dW (rb:=none) hX hm hp fuel c _ x s hcode hl.2 _ w hR0 _ (fun a' w' hR'=> ?_)
  obtain⟨ρ2,hρ20,hρ2⟩:=hR'.rep
  have hfin:∀ R:Ending->World->Prop,(∀ e w',(∃ ρ1 v,Agree n E ρ1∧e= .returned v∧Keeps B M w w'∧∀ E',Agree s.nid ρ1 E'->v=rv E' (P1 us)∧Sim X.P B M E' (gcH (P1 us) n H') w')->R e w')->LeavesInM Fence.wide 0 X.P fn a'.tmps R a'.defers .returning w':=by
   intro R hRR
   obtain⟨hS2,hF2,hv2⟩:=hρ2 ρ2 (Agree.refl _ _)
   obtain⟨w2,k1,k2,k3⟩:=cI (fn:=fn) (tmps:=a'.tmps) (R:=R) s.mks _ H' w' hqu hR'.base hkill ρ2 hS2
   rw [hF2.defers]
   refine k3 ?_
   have hsim:∀ E',Agree s.nid ρ2 E'->Sim X.P B M E' H' w2:=fun E' ha=>by
    refine k2 E' (fun i hi=> ?_) (hρ2 E' ha).1
    exact ha i ((hR'.known hi).elim id (fun h=>by rcases h with ⟨_,_,h⟩ | ⟨_,h⟩ | ⟨_,_,_,_,h⟩ | ⟨_,_,_,_,h⟩ <;> cases h))
   have each:∀ E',Agree s.nid ρ2 E'->(results fn a'.tmps).run X.P w2= .ok (rv E' (P1 us)) w2:=fun E' ha=>by
    have:=r0w (W7 hR'.plain (hsim E' ha) (hρ2 E' ha).2.2 _ us l hres hl.1)
    rw [this]
    congr 1
    cases us with
    | nil=>simp [P1,rvL,rv,rvA]
    | cons u us=>
     cases us with
     | nil=>simp [P1,rvL]
     | cons u2 us=>simp [P1,rvL,rv,rvA]
   have e0:=each ρ2 (Agree.refl _ _)
   refine⟨_,e0,hRR _ _ ⟨ρ2,_,hρ20.2,rfl,hR'.keeps.trans k1,fun E' ha=>⟨?_,(hsim E' ha).less (t1g _ _ _)⟩⟩⟩
   have e1:=each E' ha
   rw [e0] at e1
   injection e1
  cases x with
  | normal=>exact hfin _ (fun _ _ h=>h)
  | ret=>exact hfin _ (fun _ _ h=>h)
  | exit id=>exact absurd rfl (hne id)
 have fin:(∀ id,x≠ .exit id)->(match Nat.ble n s.nid with
     | false=>none
     | true=>match W9 s.mks s.heap with
      | none=>none
      | some H'=>match N9 X.P X.auto s.tmps H' fn.results.toList with
       | none=>none
       | some (vs,l)=>some (⟨P1 vs,gcH (P1 vs) n H',s.nid,xQ X.P s.mks (l++s.obs),s.ds⟩:CR))=some r->
   n<=r.n∧Calls X.P f ⟨vs⟩ w fun e w'=>∃ ρ1 v,Agree n E ρ1∧e= .returned v∧Keeps B M w w'∧∀ E',Agree r.n ρ1 E'->v=rv E' r.v∧Sim X.P B M E' r.h w':=by
  intro hne h
  split at h
  ·cases h
  rename_i hb
  have hn:=dL hb
  split at h
  case h_1=>cases h
  rename_i H' hkill
  split at h
  case h_1=>cases h
  rename_i us l hres
  have hr:=(bM h).symm
  refine⟨by rw [hr]; exact hn,key hne hn H' us l hkill hres hr⟩
 cases x with
 | normal=>exact fin (fun _ e=>by cases e) h
 | ret=>exact fin (fun _ e=>by cases e) h
 | exit id=>cases h
end
noncomputable section
def b7 (X:Cx) (L:U5) (fuel:Nat) (f:FuncId) (args:List Value) (ds:List Bool):Option (Value×List Prop):=
 match pureL args with
 | false=>none
 | true=>match m0k X L fuel f args X.J.tabs X.P.globals.size ds with
  | none=>none
  | some r=>match D3 r.v with
   | true=>some (r.v,r.obs)
   | false=>none
abbrev Tab:=FuncId->List Value->Option (Value×List Prop)
abbrev iV:=FuncId->List Value->Heap->Nat->List Bool->Option CR
structure Base where
 P:Program
 J:Inv P
 auto:Bool
 tab:Tab
 mtab:iV
 fuel:Nat
 xt:FuncId->List Value->Heap->Nat->Option CR
def Base.cx (b:Base):Nat->Cx
 | 0=>⟨b.P,b.J,b.auto,b.tab,b.mtab,b.xt,fun _ _=>none,b.auto⟩
 | k+1=>⟨b.P,b.J,b.auto,
   fun f args=>match b.tab f args with
    | some r=>some r
    | none=>match b.mtab f args [] 0 [] with
     | some _=>none
     | none=>b7 (b.cx k) [] b.fuel f args [],
   fun f args H n ds=>match b.mtab f args H n ds with
    | some r=>some r
    | none=>m0k (b.cx k) [] b.fuel f args H n ds,
   b.xt,
   fun c s=>H3 (b.cx k) [] b.fuel c s,b.auto⟩
def Base.cxl (b:Base) (k:Nat):Cx:=⟨(b.cx k).P,(b.cx k).J,(b.cx k).auto,(b.cx k).pc,(b.cx k).cl,(b.cx k).xt,(b.cx k).rd,true⟩
structure ProgOk (P:Program):Prop where
 mixed:P.follows .mixedOrders=true
 names:∀ (f:FuncId) (fn:Func),P.funcs[f]? =some fn->(fn.name== "runtime.NumGoroutine")=false
structure BaseOk (b:Base):Prop where
 prog:ProgOk b.P
 tab:U6 b.P b.J b.tab
 mtab:iS b.P b.J b.mtab
 xt:i2e b.P b.J b.xt
theorem F2 {X:Cx} (hng:ProgOk X.P) {L:U5} {fuel f n:Nat} {args:List Value} {H:Heap} {ds:List Bool} {r:CR} (h:m0k X L fuel f args H n ds=some r):Enters X.P f:=by
 rw [q0h] at h
 split at h
 case h_1=>cases h
 rename_i fn hfn
 split at h
 case h_1=>cases h
 rename_i c hc
 exact enters_of hfn (hng.names f fn hfn) hc
theorem q1n {X:Cx} {L:U5} {fuel f n:Nat} {args:List Value} {H:Heap} {ds:List Bool} {r:CR} (h:m0k X L fuel f args H n ds=some r):n<=r.n:=by
 rw [q0h] at h
 split at h
 ·cases h
 split at h
 ·cases h
 split at h
 ·cases h
 split at h
 ·cases h
 split at h
 ·cases h
 rename_i hb
 split at h
 ·cases h
 split at h
 ·cases h
 cases h
 exact dL hb
theorem X1 {X:Cx} (hX:CxOk X X.J) (hng:ProgOk X.P) {L:U5} {fuel f:Nat} {args:List Value} {ds:List Bool} {v:Value} {l:List Prop} (h:b7 X L fuel f args ds=some (v,l)) (hl:l5 l):
  Pure X.P X.J f args v:=by
 unfold b7 at h
 split at h
 case h_1=>cases h
 rename_i hpa
 split at h
 case h_1=>cases h
 rename_i r hr
 split at h
 case h_2=>cases h
 rename_i hpv
 cases h
 refine⟨hpa,hpv, .inl ⟨F2 hng hr,fun w hI=> ?_⟩⟩
 have hp:Par X.P w.heap.size (fun _=>False):=⟨X.J.room w hI,fun _ _ h=>h⟩
 have:=(K3 hX hng.mixed hr hl (E:=fun i=>if i < X.P.globals.size then some i else none) (vs:=args) hp (d9 _) hI (fun E' ha=>⟨X.J.tabsOk w E' _ _ hI (fun g hg=>by rw [ha g hg]; simp [hg]),(rvL_pure E' args hpa).symm⟩)).2
 refine this.mono fun e w' ⟨ρ1,u,_,he,hk,hfin⟩=>⟨?_,hk.below⟩
 have:=(hfin ρ1 (Agree.refl _ _)).1
 rw [D0 ρ1 _ hpv] at this
 rw [he,this]
theorem u6 {b:Base} (hb:BaseOk b):∀ k,CxOk (b.cx k) (b.cx k).J∧ProgOk (b.cx k).P
 | 0=>⟨⟨hb.tab,hb.mtab,hb.xt,(fun _ _ _ _ h=>by cases h),b.J.tabsOk,b.J.tabsRo⟩,hb.prog⟩
 | k+1=>by
  obtain⟨ih,hng⟩:=u6 hb k
  have eP:(b.cx k).P=b.P:=by cases k <;> rfl
  refine⟨⟨fun f args v l h hl=> ?_,fun f args H n ds r h hl=> ?_,hb.xt,fun c s x s' h hl=>⟨Y3 _ _ _ _ _ h hl,?_⟩,b.J.tabsOk,b.J.tabsRo⟩,hb.prog⟩
  ·simp only [Base.cx] at h
   split at h
   ·rename_i r hr
    cases h
    exact hb.tab f args v l hr hl
   ·split at h
    ·cases h
    have:=X1 ih hng h hl
    clear ih hng h
    cases k with
    | zero=>exact this
    | succ k=>exact this
  ·simp only [Base.cx] at h
   split at h
   ·rename_i r' hr
    cases h
    exact hb.mtab f args H n ds r hr hl
   ·have h1:=q1n h
    have h2:=F2 hng h
    have h3:=fun (B:Nat) (M:Nat->Prop) (E:Num) (w:World) (vs:List Value) hp hB hI hS=>(K3 ih hng.mixed h hl (B:=B) (M:=M) (E:=E) (w:=w) (vs:=vs) hp hB hI hS).2
    clear ih hng h
    cases k with
    | zero=>exact⟨h1,h2,h3⟩
    | succ k=>exact⟨h1,h2,h3⟩
  ·have h1:=fun (B:Nat) (M:Nat->Prop) (w0:Bas) (rb:Option Nat) (a:Act) (w:World) hp hR Q hQ=>dW ih hng.mixed (B:=B) (M:=M) (w0:=w0) (rb:=rb) hp _ _ _ _ _ h hl a w hR Q hQ
   clear ih hng h
   cases k with
   | zero=>exact h1
   | succ k=>exact h1
theorem i7 {b:Base} (hb:BaseOk b) (k:Nat) (L:U5) (ds:List Bool) {f:FuncId} {args:List Value} {v:Value} {l:List Prop} (h:b7 (b.cx k) L b.fuel f args ds=some (v,l)) (hl:l5 l):Pure b.P b.J f args v:=by
 obtain⟨h1,h2⟩:=u6 hb k
 have:=X1 h1 h2 h hl
 clear h1 h2 h
 cases k with
 | zero=>exact this
 | succ k=>exact this
def s2t:Tab:=fun _ _=>none
def I4:iV:=fun _ _ _ _ _=>none
def xt0:FuncId->List Value->Heap->Nat->Option CR:=fun _ _ _ _=>none
theorem o2v (P:Program) (J:Inv P):i2e P J xt0:=fun _ _ _ _ _ h=>by cases h
def t1f (f:FuncId) (spec:List Value->Heap->Nat->Option CR) (t:FuncId->List Value->Heap->Nat->Option CR):FuncId->List Value->Heap->Nat->Option CR:=fun g args H n=>
 match zO0 g f with
 | true=>spec args H n
 | false=>t g args H n
def a3n (P:Program) (J:Inv P) (f:FuncId) (spec:List Value->Heap->Nat->Option CR):Prop:=
 ∀ args H n r,spec args H n=some r->l5 r.obs->n<=r.n∧∀ (B:Nat) (M:Nat->Prop) (E:Num) (w:World) (vs:List Value),Par P B M->B<=w.heap.size->J.I w->
  (∀ E',Agree n E E'->Sim P B M E' H w∧vs=rvL E' args)->
  ∃ ρ1 v w',Agree n E ρ1∧(callFunc f ⟨vs⟩).run P w= .ok (.value v) w'∧Keeps B M w w'∧∀ E',Agree r.n ρ1 E'->v=rv E' r.v∧Sim P B M E' r.h w'
theorem v0i {P:Program} {J:Inv P} {f:FuncId} {spec:List Value->Heap->Nat->Option CR} {t:FuncId->List Value->Heap->Nat->Option CR} (h:a3n P J f spec) (ht:i2e P J t):i2e P J (t1f f spec t):=by
 intro g args H n r hs hl
 unfold t1f at hs
 split at hs
 ·rename_i hg
  have:=xY hg
  subst this
  exact h args H n r hs hl
 ·exact ht g args H n r hs hl
theorem n0h (P:Program) (J:Inv P):U6 P J s2t:=fun _ _ _ _ h=>by cases h
theorem v6 (P:Program) (J:Inv P):iS P J I4:=fun _ _ _ _ _ _ h=>by cases h
def r6 (f:FuncId) (spec:List Value->Option (Value×List Prop)) (t:Tab):Tab:=fun g args=>
 match zO0 g f with
 | true=>spec args
 | false=>t g args
theorem i8 {P:Program} {J:Inv P} {f:FuncId} {spec:List Value->Option (Value×List Prop)} {t:Tab} (h:∀ args v l,spec args=some (v,l)->l5 l->Pure P J f args v) (ht:U6 P J t):U6 P J (r6 f spec t):=by
 intro g args v l hs hl
 unfold r6 at hs
 split at hs
 ·rename_i hg
  have:=xY hg
  subst this
  exact h args v l hs hl
 ·exact ht g args v l hs hl
end
noncomputable section
theorem d2r {E E':Num} {n:Nat} (h:Agree n E E') (f:Fn) (hf:h2q n f=true):rFn E' f=rFn E f:=by
 cases f <;> first | rfl | skip
 rename_i l
 simp only [h2q,G1] at hf
 simp only [rFn,h l hf]
mutual
theorem p0s {n:Nat} :∀ v:Value,tT n v=true->noE v=true
 | .chan (some _),h=>by simp only [tT] at h; cases h
 | .chan none,_=>by simp only [noE]
 | .func _ f c,h=>by
   simp only [tT,A9] at h
   simp only [noE,low_noEA f h.1.2,low_noEA c h.2,zW]
 | .iface _ v,h=>by simp only [tT] at h; simp only [noE]; exact p0s v h
 | .agg cs,h=>by simp only [tT] at h; simp only [noE]; exact low_noEA cs h
 | .tuple vs,h=>by simp only [tT] at h; simp only [noE]; exact low_noEA vs h
 | .bool _,_=>by simp only [noE]
 | .int _ _,_=>by simp only [noE]
 | .float _ _,_=>by simp only [noE]
 | .complex _ _ _,h=>by simp only [tT] at h; cases h
 | .string _,_=>by simp only [noE]
 | .pointer _,_=>by simp only [noE]
 | .slice _ _ _,_=>by simp only [noE]
 | .map _,_=>by simp only [noE]
 | .nilFunc,_=>by simp only [noE]
 | .nilIface,_=>by simp only [noE]
theorem low_noEA {n:Nat} :∀ v:Array Value,lowA n v=true->noEA v=true
 | ⟨l⟩,h=>by simp only [lowA] at h; simp only [noEA]; exact low_noEL l h
theorem low_noEL {n:Nat} :∀ v:List Value,lowL n v=true->noEL v=true
 | [],_=>by simp only [noEL]
 | v ::l,h=>by
   simp only [lowL,A9] at h
   simp only [noEL,p0s v h.1,low_noEL l h.2,zW]
end
mutual
theorem v0q {E E':Num} {n:Nat} (h:Agree n E E'):∀ v:Value,tT n v=true->rv E' v=rv E v
 | .pointer (some a),hv=>by simp only [tT,G1] at hv; simp only [rv,w8,h _ hv]
 | .slice (some ⟨j,off,none⟩) _ _,hv=>by simp only [tT,zW,G1] at hv; simp only [rv,rSl,w8,h _ hv]
 | .slice (some ⟨j,off,some k⟩) _ _,hv=>by simp only [tT,A9,G1] at hv; simp only [rv,rSl,h _ hv.1,h _ hv.2]
 | .map (some r),hv=>by simp only [tT,G1] at hv; simp only [rv,h _ hv]
 | .func fn f c,hv=>by
   simp only [tT,A9] at hv
   simp only [rv,d2r h fn hv.1.1,rvA_low h f hv.1.2,rvA_low h c hv.2]
 | .iface t v,hv=>by simp only [tT] at hv; simp only [rv,v0q h v hv]
 | .agg cs,hv=>by simp only [tT] at hv; simp only [rv,rvA_low h cs hv]
 | .tuple vs,hv=>by simp only [tT] at hv; simp only [rv,rvA_low h vs hv]
 | .bool _,_=>by simp only [rv]
 | .int _ _,_=>by simp only [rv]
 | .float _ _,_=>by simp only [rv]
 | .complex _ _ _,h=>by simp only [tT] at h; cases h
 | .string _,_=>by simp only [rv]
 | .pointer none,_=>by simp only [rv]
 | .slice none _ _,_=>by simp only [rv]
 | .map none,_=>by simp only [rv]
 | .chan none,_=>by simp only [rv]
 | .chan (some m),hv=>by simp only [tT] at hv; cases hv
 | .nilFunc,_=>by simp only [rv]
 | .nilIface,_=>by simp only [rv]
theorem rvA_low {E E':Num} {n:Nat} (h:Agree n E E'):∀ v:Array Value,lowA n v=true->rvA E' v=rvA E v
 | ⟨l⟩,hv=>by simp only [lowA] at hv; simp only [rvA,rvL_low h l hv]
theorem rvL_low {E E':Num} {n:Nat} (h:Agree n E E'):∀ v:List Value,lowL n v=true->rvL E' v=rvL E v
 | [],_=>by simp only [rvL]
 | v ::l,hv=>by
   simp only [lowL,A9] at hv
   simp only [rvL,v0q h v hv.1,rvL_low h l hv.2]
end
structure Pairs where
 xs:List Value
 ys:List Value
 os:List AObj
 qs:List AObj
def Pairs.add (a b:Pairs):Pairs:=⟨a.xs++b.xs,a.ys++b.ys,a.os++b.os,a.qs++b.qs⟩
def t0b (A:Ren) (n:Nat):List TV->List TV->Option (List Value×List Value)
 | [],[] =>some ([],[])
 | _ ::ys, .unk ::zs=>t0b A n ys zs
 | .v x ::ys, .v x' ::zs=>match x' with
  | .complex _ a' b'=>match x with
   | .complex _ a b=>match zO0 (A.to (a'/18446744073709551616)) (a/18446744073709551616) && zO0 (A.to (a'%18446744073709551616)) (a%18446744073709551616) && zO1 (a'/18446744073709551616) n && zO1 (a'%18446744073709551616) n,t0b A n ys zs with
    | true,some (l,l')=>some (.int .u8 b ::l, .int .u8 b' ::l')
    | _,_=>none
   | _=>none
  | x'=>match tT n x',t0b A n ys zs with
   | true,some (l,l')=>some (x ::l,rn A x' ::l')
   | _,_=>none
 | _,_=>none
def x0l (b:Nat):List (Option Value)->Bool
 | [] =>true
 | some x ::r=>tT b x && x0l b r
 | none ::r=>x0l b r
def j0t (A:Ren) (n:Nat):Row->Row->Option Pairs
 | .vals xs, .vals xs'=>match lowL n xs' && zO0 xs.length xs'.length with
  | true=>some ⟨xs,rnL A xs',[],[]⟩
  | false=>none
 | .ints k ns, .ints k' ns'=>some ⟨[],[],[.ints k ns],[.ints k' ns']⟩
 | _,_=>none
def yL (b:Nat) (A:Ren) (n:Nat):AObj->AObj->Option Pairs
 | .row e sz r k, .row e' sz' r' k'=>match zO0 e e' && zO0 sz sz' && zO0 (A.to k') k && zO1 k' n with
  | true=>j0t A n r r'
  | false=>none
 | .cells cs t, .cells cs' t'=>match zO0 t t' && lowL n cs' && zO0 cs.length cs'.length with
  | true=>some ⟨cs,rnL A cs',[],[]⟩
  | false=>none
 | .iter s p, .iter s' p'=>some ⟨[],[],[.iter s p],[.iter s' p']⟩
 | .ints k xs, .ints k' xs'=>some ⟨[],[],[.ints k xs],[.ints k' xs']⟩
 | .fam f m sz o, .fam f' m' sz' o'=>some ⟨[],[],[.fam f m sz o],[.fam f' m' sz' o']⟩
 | .loop st pn ts ps asg bd, .loop st' pn' ts' ps' asg' bd'=>match x0l b ts' with
  | true=>some ⟨[],[],[.loop st pn ts ps asg bd],[.loop st' pn' ts' ps' asg' bd']⟩
  | false=>none
 | .defr, .defr=>some ⟨[],[],[],[]⟩
 | .dead, .dead=>some ⟨[],[],[],[]⟩
 | _,_=>none
def s2e (A:Ren) (i:Nat):Heap->Bool
 | [] =>true
 | (j,_) ::r=> !(zO0 (A.to i) (A.to j)) && s2e A i r
def t2l (b:Nat) (A:Ren) (n:Nat) (H:Heap):Heap->Option Pairs
 | [] =>some ⟨[],[],[],[]⟩
 | (i,o') ::r=>match H.get (A.to i),zO1 i n,s2e A i r with
  | some o,true,true=>match yL b A n o o',t2l b A n H r with
   | some l,some l'=>some (l.add l')
   | _,_=>none
  | _,_,_=>none
def w1i (A:Ren):List Nat->Bool
 | [] =>true
 | i ::r=>zO0 (A.to i) i && w1i A r
def eqO:Option Nat->Option Nat->Bool
 | none,none=>true
 | some i,some j=>zO0 i j
 | _,_=>false
def sC (b:Nat):Ren->Bool
 | [] =>true
 | (j,_) ::r=>Nat.ble b j && sC b r
def iB:List Mk->Option (List Nat)
 | [] =>some []
 | .mark i ::r=>match iB r with
  | some l=>some (i ::l)
  | none=>none
 | .call _ _ _ ::_=>none
theorem cE:∀ {l:List Mk} {m:List Nat},iB l=some m->l=m.map .mark
 | [],m,h=>by simp only [iB] at h; cases h; rfl
 | .mark i ::r,m,h=>by
  simp only [iB] at h
  split at h
  ·rename_i l hl
   cases h
   rw [p0v,<- cE hl]
  ·cases h
 | .call _ _ _ ::_,m,h=>by simp only [iB] at h; cases h
def fit (P:Program) (A:Ren) (s s':St):Option Pairs:=
 match s,s' with
 | ⟨tm,hp,_,_,_,_,rd,mk,bs⟩,⟨tm',hp',n',_,_,_,rd',mk',bs'⟩=>match iB mk,iB mk' with
  | some mq,some mq'=>
   match sC bs A && w1i A mq && b1v mq mq' && eqO rd rd' && zO0 bs bs' && Nat.ble bs n' && Nat.ble P.globals.size bs && mq.all (fun i=>zO1 i n') && (match rd with | some l=>zO1 l bs | none=>true) with
   | false=>none
   | true=>match t0b A n' tm tm',t2l bs A n' hp hp' with
    | some (l,l'),some q=>some ⟨l++q.xs,l'++q.ys,q.os,q.qs⟩
    | _,_=>none
  | _,_=>none
theorem fU {b:Nat} :∀ {A:Ren},sC b A=true->∀ i,i < b->A.to i=i
 | [],_,i,_=>rfl
 | (j,k) ::r,h,i,hi=>by
  simp only [sC,A9,V1] at h
  simp only [Ren.to]
  rw [sN (by omega)]
  exact fU h.2 i hi
theorem b0s {A:Ren} :∀ {l:List Nat},w1i A l=true->∀ i∈l,A.to i=i
 | [],_,i,hi=>by cases hi
 | j ::r,h,i,hi=>by
  simp only [w1i,A9,B7] at h
  rcases zzA86.1 hi with rfl | hi
  ·exact h.1
  ·exact b0s h.2 i hi
theorem i0b:∀ {l l':List Nat},b1v l l'=true->l=l'
 | [],[],_=>rfl
 | [],_ ::_,h=>by simp [b1v] at h
 | _ ::_,[],h=>by simp [b1v] at h
 | i ::r,j ::r',h=>by
  simp only [b1v,A9,B7] at h
  rw [h.1,i0b h.2]
theorem s1g {a b:Option Nat} (h:eqO a b=true):a=b:=by
 cases a <;> cases b <;> simp_all [eqO]
theorem mG {A:Ren} {n:Nat} :∀ {ts ts':List TV} {l l':List Value},t0b A n ts ts'=some (l,l')->l.length=l'.length∧(l=l'->ts'.length=ts.length∧(∀ t,j0i (D5 ts' t)=true)∧∀ t x',D5 ts' t= .v x'->∃ x,D5 ts t= .v x∧∀ E E':Num,Agree n (fun i=>E (A.to i)) E'->rv E' x'=rv E x)
 | [],[],l,l',h=>by
  simp only [t0b] at h; cases h
  exact⟨rfl,fun _=>⟨rfl,fun t=>by simp [N8,j0i],fun t x' h=>by simp [N8] at h⟩⟩
 | [],z ::zs,l,l',h=>by cases z <;> simp [t0b] at h
 | y ::ys,[],l,l',h=>by cases y <;> simp [t0b] at h
 | y ::ys,z ::zs,l,l',h=>by
  have get0:∀ (u:TV) (us:List TV),D5 (u ::us) 0=u:=fun u us=>rfl
  have getS:∀ (u:TV) (us:List TV) (t:Nat),D5 (u ::us) (t+1)=D5 us t:=fun u us t=>by simp [N8]
  cases z with
  | unk=>
   have h:t0b A n ys zs=some (l,l'):=by cases y <;> simpa [t0b] using h
   obtain⟨h0,hh⟩:=mG h
   refine⟨h0,fun he=> ?_⟩
   obtain⟨h1,h2,h3⟩:=hh he
   refine⟨by simp [h1],fun t=> ?_,fun t x' hx=> ?_⟩
   ·cases t with
    | zero=>rfl
    | succ t=>rw [getS]; exact h2 t
   ·cases t with
    | zero=>rw [get0] at hx; cases hx
    | succ t=>rw [getS] at hx ⊢; exact h3 t x' hx
  | v x0=>
   cases y with
   | v y0=>
    simp only [t0b] at h
    split at h
    ·rename_i kk a' b'
     split at h
     case h_2=>cases h
     rename_i kq a b
     split at h
     ·rename_i l0 l0' hck hr
      cases h
      simp only [A9,B7,G1] at hck
      obtain⟨⟨⟨q1,q2⟩,q3⟩,q4⟩:=hck
      obtain⟨h0,hh⟩:=mG hr
      refine⟨by simp [h0],fun he=> ?_⟩
      injection he with e1 e2
      injection e1 with _ e1
      have e1:b=b':=zO6.inj e1
      obtain⟨h1,h2,h3⟩:=hh e2
      refine⟨by simp [h1],fun t=> ?_,fun t x' hx=> ?_⟩
      ·cases t with
       | zero=>rfl
       | succ t=>rw [getS]; exact h2 t
      ·cases t with
       | zero=>
        rw [get0] at hx ⊢
        cases hx
        refine⟨_,rfl,fun E E' ha=> ?_⟩
        simp only [rv,j2a]
        rw [ha _ q3,ha _ q4,e1]
        show w1j (E (A.to (a'/18446744073709551616))) (E (A.to (a'%18446744073709551616))) b' 1 1=_
        rw [q1,q2]
       | succ t=>rw [getS] at hx ⊢; exact h3 t x' hx
     ·cases h
    split at h
    ·rename_i l0 l0' hlow hr
     cases h
     obtain⟨h0,hh⟩:=mG hr
     refine⟨by simp [h0],fun he=> ?_⟩
     injection he with e1 e2
     obtain⟨h1,h2,h3⟩:=hh e2
     refine⟨by simp [h1],fun t=> ?_,fun t x' hx=> ?_⟩
     ·cases t with
      | zero=>rfl
      | succ t=>rw [getS]; exact h2 t
     ·cases t with
      | zero=>
       rw [get0] at hx ⊢
       cases hx
       refine⟨_,rfl,fun E E' ha=> ?_⟩
       rw [v0q ha _ hlow,<- d2o _ _ _ (p0s _ hlow),e1]
      | succ t=>rw [getS] at hx ⊢; exact h3 t x' hx
    ·cases h
   | _=>simp [t0b] at h
  | sp l0 x0=>cases y <;> simp [t0b] at h
  | key j l0 b=>cases y <;> simp [t0b] at h
theorem nY {b:Nat} :∀ {ts:List (Option Value)},x0l b ts=true->∀ (t:Nat) (x:Value),ts[t]? =some (some x)->tT b x=true
 | [],_,t,x,h=>by simp at h
 | some y ::r,h,t,x,hx=>by
  simp only [x0l,A9] at h
  cases t with
  | zero=>simp at hx; subst hx; exact h.1
  | succ t=>exact nY h.2 t x (by simpa using hx)
 | none ::r,h,t,x,hx=>by
  simp only [x0l] at h
  cases t with
  | zero=>simp at hx
  | succ t=>exact nY h t x (by simpa using hx)
theorem q0j {A:Ren} {n:Nat} {r r':Row} {l:Pairs} (h:j0t A n r r'=some l) (hl:l.xs=l.ys∧l.os=l.qs) {E E':Num} (ha:Agree n (fun i=>E (A.to i)) E'):rvL E' r'.list=rvL E r.list∧r'.list.length=r.list.length:=by
 unfold j0t at h
 split at h
 ·rename_i xs xs'
  split at h
  ·rename_i hc
   simp only [A9,B7] at hc
   cases h
   have e:xs=rnL A xs':=hl.1
   simp only [Row.list]
   refine⟨?_,hc.2.symm⟩
   rw [rvL_low ha xs' hc.1,<- rvL_rn _ _ _ (low_noEL _ hc.1),<- e]
  ·cases h
 ·cases h
  have e:=hl.2
  simp only [Z7,AObj.ints.injEq,P3] at e
  obtain⟨e1,e2⟩:=e
  subst e1 e2
  simp only [Row.list]
  refine⟨?_,a6⟩
  rename_i k ns
  have:pureL (ns.map (zO2 k))=true:=by rw [J1]; simp [D3]
  rw [rvL_pure E' _ this,rvL_pure E _ this]
 ·cases h
theorem w0o {A:Ren} {n:Nat} {r r':Row} {l:Pairs} (h:j0t A n r r'=some l):l.xs.length=l.ys.length∧l.os.length=l.qs.length:=by
 unfold j0t at h
 split at h
 ·split at h
  ·rename_i hc
   simp only [A9,B7] at hc
   cases h
   exact⟨by rw [nW]; exact hc.2,rfl⟩
  ·cases h
 ·cases h; exact⟨rfl,rfl⟩
 ·cases h
theorem l0i {b:Nat} {B:Nat} {M:Nat->Prop} {A:Ren} {n:Nat} {o o':AObj} {l:Pairs} (h:yL b A n o o'=some l) (hl:l.xs=l.ys∧l.os=l.qs) {E E':Num} {w:World} {i:Nat} (ha:Agree n (fun i=>E (A.to i)) E') (hb:Agree b E E') (hi:i < n) (ho:ORep B M E w (E (A.to i)) o):ORep B M E' w (E' i) o'∧o'.rw=o.rw:=by
 rw [show E' i=E (A.to i) from ha i hi]
 cases o' with
 | row e' sz' r' k'=>
  cases o with
  | row e sz r k=>
   simp only [yL] at h
   split at h
   ·rename_i hc
    simp only [A9,B7,G1] at hc
    obtain⟨⟨⟨c1,c2⟩,c3⟩,c4⟩:=hc
    subst c1 c2 c3
    obtain⟨f1,f2⟩:=q0j h hl ha
    refine⟨?_,rfl⟩
    rcases ho with ⟨h1,h2⟩ | ⟨bb,cap,cur,h1,h2,h3,h4,h5,h6,h7,h8⟩
    ·exact .inl ⟨h1,cJ (by rw [f2,h2]; rfl)⟩
    ·exact .inr ⟨bb,cap,cur,h1,by rw [ha k' c4]; exact h2,h3,h4,h5,h6,by rw [f2]; exact h7,by rw [f2,f1]; exact h8⟩
   ·cases h
  | _=>simp [yL] at h
 | cells cs' t'=>
  cases o with
  | cells cs t=>
   simp only [yL] at h
   split at h
   ·rename_i ht
    simp only [A9,B7] at ht
    obtain⟨⟨ht,h1⟩,_⟩:=ht
    subst ht
    cases h
    have h2:cs=rnL A cs':=hl.1
    obtain⟨b,hb,hw,hown⟩:=ho
    refine⟨⟨b,hb,?_,hown⟩,rfl⟩
    rw [rvL_low ha cs' h1,<- rvL_rn _ _ _ (low_noEL _ h1),<- h2]
    exact hw
   ·cases h
  | _=>simp [yL] at h
 | iter s' p'=>
  cases o with
  | iter s p=>simp only [yL] at h; cases h; have e:=hl.2; simp only [Z7,AObj.iter.injEq,P3] at e; obtain⟨e1,e2⟩:=e; subst e1; subst e2; exact⟨ho,rfl⟩
  | _=>simp [yL] at h
 | ints k' xs'=>
  cases o with
  | ints k xs=>simp only [yL] at h; cases h; have e:=hl.2; simp only [Z7,AObj.ints.injEq,P3] at e; obtain⟨e1,e2⟩:=e; subst e1; subst e2; exact⟨ho,rfl⟩
  | _=>simp [yL] at h
 | loop st pn ts ps asg bd=>
  cases o with
  | loop st0 pn0 ts0 ps0 asg0 bd0=>
   simp only [yL] at h
   split at h
   ·rename_i hlow
    cases h
    have e:AObj.loop st0 pn0 ts0 ps0 asg0 bd0=AObj.loop st pn ts ps asg bd:=List.head_eq_of_cons_eq hl.2
    cases e
    obtain⟨b1,r1,h1,h2,h3,h4⟩:=ho
    refine⟨⟨b1,r1,h1,h2,⟨h3.1,h3.2.1,h3.2.2.1,h3.2.2.2.1,h3.2.2.2.2.1,h3.2.2.2.2.2.1,fun t x hx=> ?_⟩,h4⟩,rfl⟩
    rw [h3.2.2.2.2.2.2 t x hx,v0q hb x (nY hlow t x hx)]
   ·cases h
  | _=>simp [yL] at h
 | defr=>
  cases o with
  | defr=>exact⟨ho,rfl⟩
  | _=>simp [yL] at h
 | dead=>
  cases o with
  | dead=>exact⟨ho,rfl⟩
  | _=>simp [yL] at h
 | ro xs=>cases o <;> simp [yL] at h
 | fam f' m' sz' o'=>
  cases o with
  | fam f m sz o=>simp only [yL] at h; cases h; have e:=hl.2; simp only [Z7,AObj.fam.injEq,P3] at e; obtain⟨e1,e2,e3,e4⟩:=e; subst e1; subst e2; subst e3; subst e4; exact⟨ho,rfl⟩
  | _=>simp [yL] at h
 | map es=>cases o <;> simp [yL] at h
theorem vW {A:Ren} {i:Nat} :∀ {H:Heap},s2e A i H=true->∀ j o,H.get j=some o->A.to i≠A.to j
 | [],_,j,o,h=>by simp [Heap.get] at h
 | (k,q) ::r,h,j,o,hj=>by
  simp only [s2e,A9,o0s] at h
  rw [b6] at hj
  split at hj
  ·rename_i e; subst e
   intro e
   rw [e,f0e] at h
   cases h.1
  ·exact vW h.2 j o hj
theorem yK {a b:Pairs} (h:(a.add b).xs=(a.add b).ys∧(a.add b).os=(a.add b).qs) (h1:a.xs.length=a.ys.length) (h2:a.os.length=a.qs.length):(a.xs=a.ys∧a.os=a.qs)∧b.xs=b.ys∧b.os=b.qs:=by
 obtain⟨e1,e2⟩:=List.append_inj h.1 h1
 obtain⟨e3,e4⟩:=List.append_inj h.2 h2
 exact⟨⟨e1,e3⟩,e2,e4⟩
theorem q1s {b:Nat} {A:Ren} {n:Nat} {o o':AObj} {l:Pairs} (h:yL b A n o o'=some l):l.xs.length=l.ys.length∧l.os.length=l.qs.length:=by
 unfold yL at h
 split at h
 ·split at h
  ·exact w0o h
  ·cases h
 ·split at h
  ·rename_i ht
   simp only [A9,B7] at ht
   cases h
   exact⟨by rw [nW]; exact ht.2,rfl⟩
  ·cases h
 ·cases h; exact⟨rfl,rfl⟩
 ·cases h; exact⟨rfl,rfl⟩
 ·cases h; exact⟨rfl,rfl⟩
 ·split at h
  ·cases h; exact⟨rfl,rfl⟩
  ·cases h
 ·cases h; exact⟨rfl,rfl⟩
 ·cases h; exact⟨rfl,rfl⟩
 ·cases h
theorem l0x {b:Nat} {A:Ren} {n:Nat} {H:Heap} :∀ {H':Heap} {l:Pairs},t2l b A n H H'=some l->(l.xs=l.ys∧l.os=l.qs)->
  (∀ i o',H'.get i=some o'->i < n∧∃ o l0,H.get (A.to i)=some o∧yL b A n o o'=some l0∧(l0.xs=l0.ys∧l0.os=l0.qs))∧∀ i j o o',H'.get i=some o->H'.get j=some o'->i≠j->A.to i≠A.to j
 | [],l,_,_=>⟨fun i o' h=>by simp [Heap.get] at h,fun i j o o' h=>by simp [Heap.get] at h⟩
 | (k,q) ::r,l,h,hl=>by
  simp only [t2l] at h
  split at h
  ·rename_i o hg hlt hout
   split at h
   ·rename_i l1 l2 h1 h2
    cases h
    obtain⟨n1,n2⟩:=q1s h1
    obtain⟨hl1,hl2⟩:=yK hl n1 n2
    obtain⟨g1,g2⟩:=l0x h2 hl2
    refine⟨fun i o' hi=> ?_,fun i j oi oj hi hj hij=> ?_⟩
    ·rw [b6] at hi
     split at hi
     ·rename_i e; subst e; cases hi
      exact⟨by simpa [Nat.blt_eq] using hlt,o,l1,hg,h1,hl1⟩
     ·exact g1 i o' hi
    ·rw [b6] at hi hj
     split at hi <;> split at hj
     ·rename_i e1 e2; exact absurd (e1.symm.trans e2) hij
     ·rename_i e1 e2; subst e1; exact vW hout j oj hj
     ·rename_i e1 e2; subst e2; exact fun e=>vW hout i oi hi e.symm
     ·exact g2 i j oi oj hi hj hij
   ·cases h
  ·cases h
theorem Rep.fit {P:Program} {J:Inv P} {B:Nat} {M:Nat->Prop} {w0:Bas} {rb:Option Nat} {s s':St} {a:Act} {w:World} (hR:Rep P J B M w0 rb s a w) {A:Ren} {l:Pairs} (h:fit P A s s'=some l) (hl:l.xs=l.ys∧l.os=l.qs):Rep P J B M w0 rb s' a w:=by
 unfold Ev.fit at h
 dsimp only at h
 split at h
 case h_2=>cases h
 rename_i mq mq' hmq hmq'
 split at h
 ·cases h
 rename_i hc
 simp only [A9,zzA41,G1,V1,B7] at hc
 obtain⟨⟨⟨⟨⟨⟨⟨⟨c1,c2⟩,c3⟩,c4⟩,c5⟩,c6⟩,c7⟩,c8⟩,c9⟩:=hc
 split at h
 case h_2=>cases h
 rename_i l1 l1' q h1 h2
 cases h
 obtain⟨tl,hT0⟩:=mG h1
 obtain⟨hx1,hx2⟩:=List.append_inj hl.1 tl
 obtain⟨t1,t2,t3⟩:=hT0 hx1
 obtain⟨g1,g2⟩:=l0x h2 ⟨hx2,hl.2⟩
 have e3:=i0b c3
 have e4:=s1g c4
 obtain⟨E,hρ0,hρ⟩:=hR.rep
 obtain⟨hS,hF,hT⟩:=hρ E (Agree.refl _ _)
 have below:∀ i,i < s.bs->A.to i=i:=fun i hi=>fU c1 i hi
 have hbb:∀ E',Agree s'.nid (fun i=>E (A.to i)) E'->Agree s.bs E E':=fun E' ha i hi=>by
  rw [ha i (by omega)]
  show E (A.to i)=_
  rw [below i hi]
 refine⟨by rw [<- c5]; exact hR.low,t2,by rw [t1]; exact hR.size,hR.base,hR.inv,hR.keeps,fun i=>E (A.to i),⟨by rw [hR.low]; exact c6,fun i hi=> ?_⟩,fun E' ha=>⟨⟨fun g hg=> ?_,fun i o hi=> ?_,fun i j o o' hi hr hj hij hne=> ?_⟩,⟨?_,?_⟩,fun t x hx=> ?_⟩⟩
 ·show E (A.to i)=_
  rw [below i (by rw [<- hR.low]; exact hi)]
  exact hρ0.2 i hi
 ·rw [ha g (by omega)]
  show E (A.to g)=_
  rw [below g (by omega)]
  exact hS.glob g hg
 ·obtain⟨hlt,o1,l0,k1,k2,k3⟩:=g1 i o hi
  exact (l0i k2 k3 ha (hbb _ ha) hlt (hS.obj _ _ k1)).1
 ·obtain⟨hlt,o1,l0,k1,k2,k3⟩:=g1 i o hi
  obtain⟨hlt',o1',l0',k1',k2',k3'⟩:=g1 j o' hj
  have hrw:=(l0i k2 k3 ha (hbb _ ha) hlt (hS.obj _ _ k1)).2
  rw [ha i hlt] at hne ⊢
  rw [ha j hlt']
  exact hS.inj _ _ _ _ k1 (by rw [<- hrw]; exact hr) k1' (g2 i j o o' hi hj hij) hne
 ·rw [hF.defers,cE hmq,cE hmq',<- e3,List.map_map,List.map_map]
  refine List.map_congr_left (fun i hi=> ?_)
  simp only [Function.comp]
  show Deferred.mk (.collected ((E i).getD 0)) #[] =Deferred.mk (.collected ((E' i).getD 0)) #[]
  rw [ha i (c8 i hi)]
  show _=Deferred.mk (.collected ((E (A.to i)).getD 0)) #[]
  rw [b0s c2 i hi]
 ·rw [hF.round,<- e4]
  cases hrd:s.rd with
  | none=>rfl
  | some l=>
   rw [hrd] at c9
   simp only [G1] at c9
   show E l=E' l
   rw [ha l (by omega)]
   show _=E (A.to l)
   rw [below l c9]
 ·obtain⟨x0,k1,k2⟩:=t3 t x hx
  rw [hT t _ k1,k2 E E' ha]
def u4 (X:Cx) (c:Code) (s:St) (x:AX) (s':St):Prop:=
 ∀ (B:Nat) (M:Nat->Prop) (w0:Bas) (rb:Option Nat) (a:Act) (w:World),Par X.P B M->Rep X.P X.J B M w0 rb s a w->c.wpIn (Fl rb) 0 X.P (fun e a' w'=>e=x.toExit∧Rep X.P X.J B M w0 rb s' a' w') a w
def w2u:AX->AX->Bool
 | .normal, .normal=>true
 | .ret, .ret=>true
 | .exit i, .exit j=>zO0 i j
 | _,_=>false
theorem o1a {x y:AX} (h:w2u x y=true):x=y:=by
 cases x <;> cases y <;> simp_all [w2u]
def rB (X:Cx) (L:U5) (fuel:Nat) (c:Code) (ds:List Bool) (A:Ren) (s:St) (x:AX) (s':St):Option (Pairs×List Prop):=
 match s with
 | ⟨tm,hp,n,_,_,_,rd,mq,bs⟩=>match H3 X L fuel c ⟨tm,hp,n,ds,[],0,rd,mq,bs⟩ with
  | none=>none
  | some (x1,s1)=>match w2u x1 x,fit X.P A s1 s' with
   | true,some l=>some (l,s1.obs)
   | _,_=>none
def p2f:Option (Pairs×List Prop)->List Prop
 | some (_,l)=>l
 | none=>[False]
def u2i:Option (Pairs×List Prop)->List Value
 | some (p,_)=>p.xs
 | none=>[]
def t2s:Option (Pairs×List Prop)->List Value
 | some (p,_)=>p.ys
 | none=>[]
def t2t:Option (Pairs×List Prop)->List AObj
 | some (p,_)=>p.os
 | none=>[]
def v2x:Option (Pairs×List Prop)->List AObj
 | some (p,_)=>p.qs
 | none=>[]
theorem q0e {X:Cx} (hX:CxOk X X.J) (hm:X.P.follows .mixedOrders=true) (L:U5) (fuel:Nat) {c:Code} (ds:List Bool) (A:Ren) {s s':St} {x:AX} {l:List Prop} (h:p2f (rB X L fuel c ds A s x s')=l) (hl:l5 l)
  (h1:u2i (rB X L fuel c ds A s x s')=t2s (rB X L fuel c ds A s x s')) (h2:t2t (rB X L fuel c ds A s x s')=v2x (rB X L fuel c ds A s x s')):u4 X c s x s':=by
 subst h
 cases hr:rB X L fuel c ds A s x s' with
 | none=>rw [hr] at hl; exact absurd hl.1 id
 | some r=>
  obtain⟨p,o⟩:=r
  rw [hr] at hl h1 h2
  unfold rB at hr
  dsimp only at hr
  split at hr
  ·cases hr
  rename_i x1 s1 he
  split at hr
  ·rename_i l0 hx hf
   cases hr
   have:=o1a hx
   subst this
   intro B M w0 rb a w hp hR
   exact dW hX hm hp fuel c _ x1 s1 he hl a w (hR.same rfl rfl rfl rfl rfl rfl) _ (fun a' w' hR'=>⟨rfl,hR'.fit hf ⟨h1,h2⟩⟩)
  ·cases hr
theorem stp {b:Base} (hb:BaseOk b) (k:Nat) (hm:(b.cx k).P.follows .mixedOrders=true) {c:Code} (ds:List Bool) (A:Ren) {s s':St} {x:AX} {l:List Prop} (h:p2f (rB (b.cx k) [] 200 c ds A s x s')=l) (hl:l5 l)
  (h1:u2i (rB (b.cx k) [] 200 c ds A s x s')=t2s (rB (b.cx k) [] 200 c ds A s x s'):=by kernel_rfl) (h2:t2t (rB (b.cx k) [] 200 c ds A s x s')=v2x (rB (b.cx k) [] 200 c ds A s x s'):=by kernel_rfl):u4 (b.cx k) c s x s':=
 q0e (u6 hb k).1 hm [] 200 ds A h hl h1 h2
theorem C0 {ι:Type} {X:Cx} {c:Code} (T:ι->St) (μ:ι->Nat) (Good:ι->Prop) {x:AX} (hx:x≠ .normal) {s':St} (h:∀ i,Good i->(∃ j,Good j∧μ j < μ i∧u4 X c (T i) .normal (T j))∨u4 X c (T i) x s') (i:ι) (hi:Good i):b9 X c (T i) x s':=by
 intro B M w0 rb a w hp hR
 refine wpIn_loop_rounds (μ i+1) ?_
 have key:∀ (n:Nat) (i:ι),Good i->μ i < n->∀ a w,Rep X.P X.J B M w0 rb (T i) a w->Code.roundsIn (Fl rb) 0 X.P c (fun e a' w'=>e=x.toExit∧Rep X.P X.J B M w0 rb s' a' w') n a w:=by
  intro n
  induction n with
  | zero=>intro i _ h; omega
  | succ n ih=>
   intro i hi hn a w hR
   rw [roundsIn_succ]
   rcases h i hi with ⟨j,hj,hlt,hs⟩ | hs
   ·refine wpIn_mono (hs B M w0 rb a w hp hR) (fun e a' w' ⟨he,hR'⟩=> ?_)
    subst he
    exact ih j hj (by omega) a' w' hR'
   ·refine wpIn_mono (hs B M w0 rb a w hp hR) (fun e a' w' ⟨he,hR'⟩=> ?_)
    subst he
    cases x with
    | normal=>exact absurd rfl hx
    | exit id=>exact⟨rfl,hR'⟩
    | ret=>exact⟨rfl,hR'⟩
 exact key _ i hi (by omega) a w hR
theorem d1b {X:Cx} {c:Code} {s s1 s':St} {x:AX} (h:b9 X c s1 x s') (A:Ren) {l:Pairs} (hf:fit X.P A s s1=some l) (hl:l.xs=l.ys∧l.os=l.qs):b9 X c s x s':=
 fun B M w0 rb a w hp hR=>h B M w0 rb a w hp (hR.fit hf hl)
theorem l9 {X:Cx} {c:Code} {s s1 s':St} {x:AX} (h:b9 X c s1 x s') (A:Ren) (h0:(fit X.P A s s1).isSome=true:=by kernel_rfl) (h1:u2i ((fit X.P A s s1).map fun p=>(p,[]))=t2s ((fit X.P A s s1).map fun p=>(p,[])):=by kernel_rfl) (h2:t2t ((fit X.P A s s1).map fun p=>(p,[]))=v2x ((fit X.P A s s1).map fun p=>(p,[])):=by kernel_rfl):b9 X c s x s':=by
 cases hf:fit X.P A s s1 with
 | none=>rw [hf] at h0; cases h0
 | some p=>
  rw [hf] at h1 h2
  exact d1b h A hf ⟨h1,h2⟩
def dT:Code->List Code
 | .seq a b=>dT a++dT b
 | .cond _ a b=>dT a++dT b
 | .block _ a=>dT a
 | .scope a=>dT a
 | .loop a=>a ::dT a
 | _=>[]
def z8 (P:Program) (f k:Nat):Code:=match P.funcs[f]? with
 | some fn=>match fn.body with
  | some c=>match (dT c)[k]? with
   | some r=>r
   | none=> .skip
  | none=> .skip
 | none=> .skip
def x9 (X:Cx) (fuel f:Nat) (args:List Value) (H:Heap) (n:Nat) (ds:List Bool):St:=
 match X.P.funcs[f]? with
 | some fn=>match fn.body with
  | some c=>match H3 X [fun s=>some (.exit 1000000,s)] fuel c ⟨args.map .v++zO7 (fn.ntmps-args.length) (.v undef),H,n,ds,[],0,none,[],n⟩ with
   | some (_,s)=>s.core
   | none=>⟨[],[],0,[],[],0,none,[],0⟩
  | none=>⟨[],[],0,[],[],0,none,[],0⟩
 | none=>⟨[],[],0,[],[],0,none,[],0⟩
def only (k:Nat) (l:List (Nat×Value)):List TV:=(List.range k).map fun i=>match l.find? (fun p=>zO0 p.1 i) with
 | some p=> .v p.2
 | none=> .unk
def H7 (x:AX) (f:St->St):St->Option (AX×St):=fun s=>
 match s with
 | ⟨tm,hp,n,ds,o,lp,rd,mq,b⟩=>match f ⟨tm,hp,n,[],[],0,rd,mq,b⟩ with
  | ⟨tm',hp',n',_,_,_,rd',mq',b'⟩=>some (x,⟨tm',hp',n',ds,o,lp,rd',mq',b'⟩)
end
end Go.Proofs.YtkiejangmhhofaaGreatDoor.Ev
namespace Go.Proofs.YtkiejangmhhofaaGreatDoor
open Go Go.RowKit Ev
def j2r:List Int:=[0,1,28,2,29,14,24,3,30,22,20,15,25,17,4,8,31,27,13,23,21,19,16,7,26,12,18,6,11,5,10,9]
def q2m:List Int:=[0,1,56,2,57,49,28,3,61,58,42,50,38,29,17,4,62,47,59,36,45,43,51,22,53,39,33,30,24,18,12,5,63,55,48,27,60,41,37,16,46,35,44,21,52,32,23,11,54,26,40,15,34,20,31,10,25,14,19,9,13,8,7,6]
def VarIs (w:World) (g:Nat) (k:IntKind) (zs:List Int):Prop:=∃ t fr,w.heap[g]? =some (.cells (zs.map (zO2 k)).toArray t fr)
def HasInts (w:World) (g:Nat) (k:IntKind) (zs:List Int):Prop:=∃ cs t fr,w.heap[g]? =some (.cells cs t fr)∧∀ i,i < zs.length->cs[i]? =some (.int k (zs.getD i 0))
theorem HasInts.orep {w:World} {g:Nat} {k:IntKind} {zs:List Int} (h:HasInts w g k zs) (B:Nat) (M:Nat->Prop) (E:Num):ORep B M E w (some g) (.ints k zs):=by
 obtain⟨cs,t,fr,h1,h2⟩:=h
 exact .inr ⟨g,cs,t,fr,rfl,h1,h2⟩
theorem VarIs.has {w:World} {g:Nat} {k:IntKind} {zs:List Int} (h:VarIs w g k zs):HasInts w g k zs:=by
 obtain⟨t,fr,h⟩:=h
 exact⟨_,t,fr,h,fun i hi=>by simp [List.getD,hi]⟩
def firstZ:List Int:=Go.Pinned.utf8FirstZ.map zO6
def acceptZ:List Int:=[128,191,160,191,128,159,144,191,128,143,0,0,0,0,0,0,0,0,0,0,0,0,0,0,0,0,0,0,0,0,0,0]
theorem i0m {w:World} {g:Nat} {zs:List Int} (h0:0 < zs.length) (h:∀ i,i < zs.length->w.cell? ⟨g,i,none⟩=some (.int .u8 (zs.getD i 0))):HasInts w g .u8 zs:=by
 have hb:∀ i v,w.cell? ⟨g,i,none⟩=some v->∃ cs t fr,w.heap[g]? =some (.cells cs t fr)∧cs[i]? =some v:=by
  intro i v hv
  unfold World.cell? at hv
  split at hv
  ·rename_i cs t fr hc
   exact⟨cs,t,fr,hc,by simpa using hv⟩
  ·cases hv
 obtain⟨cs,t,fr,h1,_⟩:=hb 0 _ (h 0 h0)
 refine⟨cs,t,fr,h1,fun i hi=> ?_⟩
 obtain⟨cs',t',fr',h1',h2⟩:=hb i _ (h i hi)
 rw [h1] at h1'
 cases h1'
 exact h2
theorem v1v:(List.range 256).all (fun c=>decide (firstZ.getD c 0=(Lib.firstT c:Int)))=true:=by decide+kernel
theorem g1f:(List.range 16).all (fun i=>decide (acceptZ.getD (2*i) 0=(Lib.accLo i:Int)) && decide (acceptZ.getD (2*i+1) 0=(Lib.accHi i:Int)))=true:=by decide+kernel
theorem first_len:firstZ.length=256:=by kernel_rfl
theorem s1v {g h:Nat} {w:World} (t:Lib.Utf8Tabs g h w):HasInts w g .u8 firstZ∧HasInts w h .u8 acceptZ:=by
 obtain⟨t1,t2⟩:=t
 refine⟨i0m (show 0 < firstZ.length from Nat.lt_of_lt_of_eq (by decide:0 < 256) first_len.symm) fun i hi=> ?_,i0m (by decide) fun i hi=> ?_⟩
 ·have hi':i < 256:=Nat.lt_of_lt_of_eq hi first_len
  rw [t1 i hi',G5 (zzA41.1 v1v i (zzA124.2 hi'))]
 ·have hi':i < 32:=hi
  have:=zzA41.1 g1f (i/2) (zzA124.2 (by omega))
  simp only [A9,aI] at this
  obtain⟨q1,q2⟩:=t2 (i/2) (by omega)
  rcases Nat.mod_two_eq_zero_or_one i with e | e
  ·have e2:i=2*(i/2):=by omega
   rw [e2,q1,this.1]
  ·have e2:i=2*(i/2)+1:=by omega
   rw [e2,q2,this.2]
theorem m1i {g h n:Nat} {w w':World} (hg:g < n) (hh:h < n) (hk:∀ k,k < n->w'.heap[k]? =w.heap[k]?) (t:Lib.Utf8Tabs g h w):Lib.Utf8Tabs g h w':=by
 have e:∀ b c,b < n->w'.cell? ⟨b,c,none⟩=w.cell? ⟨b,c,none⟩:=fun b c hb=>by unfold World.cell?; simp only [hk b hb]
 exact⟨fun c hc=>by rw [e g c hg]; exact t.1 c hc,fun i hi=>by rw [e h _ hh,e h _ hh]; exact t.2 i hi⟩
def q2n:Heap:=[(3, .ints .u64 Lib.pow10Tab),(7, .ints .u8 j2r),(8, .ints .u8 q2m),(1, .ints .u8 firstZ),(2, .ints .u8 acceptZ)]
theorem tabs_in:3 < zO8.globals.size∧7 < zO8.globals.size∧8 < zO8.globals.size∧1 < zO8.globals.size∧2 < zO8.globals.size:=G5 (by kernel_rfl)
def n0d (w:World) (g:Nat):Prop:=∃ m,w.cell? ⟨g,0,none⟩=some (.int .i64 m)
theorem b1i:6 < zO8.globals.size:=G5 (by kernel_rfl)
def jI (w:World) (g:Nat):Prop:=∃ ev,w.cell? ⟨g,0,none⟩=some ev∧(ev= .nilIface∨∃ te pe,ev= .iface te pe)
theorem errs_in:9 < zO8.globals.size∧10 < zO8.globals.size:=⟨G5 (by kernel_rfl),G5 (by kernel_rfl)⟩
theorem n1e {P:Program} {E:Num} (hg:∀ g,g < P.globals.size->E g=some g) (B:Nat) (M:Nat->Prop) (w:World):∀ (L:List (Nat×IntKind×List Int)),(∀ x∈L,x.1 < P.globals.size∧HasInts w x.1 x.2.1 x.2.2)->
  ∀ i o,Heap.get (L.map fun x=>(x.1,AObj.ints x.2.1 x.2.2)) i=some o->ORep B M E w (E i) o∧o.rw=false
 | [],_,i,o,h=>by simp [Heap.get] at h
 | x ::L,hL,i,o,h=>by
  rw [p0v,b6] at h
  split at h
  ·rename_i e
   subst e
   cases h
   obtain⟨h1,h2⟩:=hL x (by simp)
   rw [hg _ h1]
   exact⟨h2.orep B M E,rfl⟩
  ·exact n1e hg B M w L (fun y hy=>hL y (gK _ hy)) i o h
def J0:Inv zO8 where
 I w:=zO8.globals.size<=w.heap.size∧VarIs w 3 .u64 Lib.pow10Tab∧VarIs w 7 .u8 j2r∧VarIs w 8 .u8 q2m∧Lib.Utf8Tabs 1 2 w∧n0d w 6∧jI w 9∧jI w 10
 st w w' h1 h2 h3:=by
  obtain⟨g0,g1,g2,g3,g4,g5,g6,g7⟩:=h3
  exact⟨x7 g0 h2,by unfold VarIs; rw [h1 _ tabs_in.1]; exact g1,by unfold VarIs; rw [h1 _ tabs_in.2.1]; exact g2,by unfold VarIs; rw [h1 _ tabs_in.2.2.1]; exact g3,m1i tabs_in.2.2.2.1 tabs_in.2.2.2.2 h1 g4,by unfold n0d World.cell?; rw [h1 _ b1i]; exact g5,by unfold jI World.cell?; rw [h1 _ errs_in.1]; exact g6,by unfold jI World.cell?; rw [h1 _ errs_in.2]; exact g7⟩
 room _ h:=h.1
 tabs:=q2n
 tabsOk w E B M h hg:=by
  obtain⟨g0,g1,g2,g3,g4,g5,g6,g7⟩:=h
  obtain⟨q1,q2⟩:=s1v g4
  have key:=n1e (P:=zO8) hg B M w [(3, .u64,Lib.pow10Tab),(7, .u8,j2r),(8, .u8,q2m),(1, .u8,firstZ),(2, .u8,acceptZ)] (fun x hx=>by
   simp only [zzA86,V2,U7] at hx
   rcases hx with rfl | rfl | rfl | rfl | rfl
   ·exact⟨tabs_in.1,g1.has⟩
   ·exact⟨tabs_in.2.1,g2.has⟩
   ·exact⟨tabs_in.2.2.1,g3.has⟩
   ·exact⟨tabs_in.2.2.2.1,q1⟩
   ·exact⟨tabs_in.2.2.2.2,q2⟩)
  refine⟨hg,fun i o hi=>(key i o hi).1,fun i j oi oj hi hr _ _ _=> ?_⟩
  rw [(key i oi hi).2] at hr
  cases hr
 tabsRo i o hi:=by
  unfold q2n at hi
  rw [b6,b6,b6,b6,b6] at hi
  split at hi
  ·cases hi; rfl
  ·split at hi
   ·cases hi; rfl
   ·split at hi
    ·cases hi; rfl
    ·split at hi
     ·cases hi; rfl
     ·split at hi
      ·cases hi; rfl
      ·simp [Heap.get] at hi
theorem progOk:ProgOk zO8:=by
 refine⟨by kernel_rfl,fun f fn h=> ?_⟩
 have hall:(zO8.funcs.toList.all fun fn=> !(fn.name== "runtime.NumGoroutine"))=true:=by kernel_rfl
 have:=zzA41.1 hall fn (by
  have:=Array.mem_of_getElem? h
  simpa using this)
 simpa using this
theorem gJ (s:ByteArray) (c:Int):Pure zO8 J0 287 [.string s, .int .u8 c] (.int .i64 (Lib.indexByte s.data.toList c.toNat.toUInt8)):=by
 refine⟨rfl,rfl, .inr fun w _=> ?_⟩
 rw [run_callFunc_extern Tryz.func287 (by kernel_rfl) (by kernel_rfl) (by kernel_rfl) (e:=Extern.BytealgIndexByte.indexByte) (by kernel_rfl),Lib.run_indexByteString]
 rfl
def aG:List Value->Option (Value×List Prop)
 | [.string s, .int .u8 c] =>some (.int .i64 (Lib.indexByte s.data.toList c.toNat.toUInt8),[])
 | _=>none
theorem qX (args:List Value) (v:Value) (l:List Prop) (h:aG args=some (v,l)) (_:l5 l):Pure zO8 J0 287 args v:=by
 unfold aG at h
 split at h
 ·cases h; exact gJ _ _
 ·cases h
theorem a0w {f:FuncId} {fn:Func} (hf:zO8.funcs[f]? =some fn) (h1:(fn.name== "runtime.NumGoroutine")=false) (h2:fn.body.isNone=true) (h3:Extern.findNext fn=none) {e:Array Value->Sem Value} (h4:Extern.find fn=some e)
  {args:List Value} {v:Value} (hp:pureL args=true) (hv:D3 v=true) (hr:∀ w,(e ⟨args⟩).run zO8 w= .ok v w):Pure zO8 J0 f args v:=by
 refine⟨hp,hv, .inr fun w _=> ?_⟩
 rw [run_callFunc_extern hf h1 h2 h3 h4]
 simp [hr]
def U1:List Value->Option (Value×List Prop)
 | [.float .f64 b] =>some (.int .u64 b,[])
 | _=>none
theorem W5 (args:List Value) (v:Value) (l:List Prop) (h:U1 args=some (v,l)) (_:l5 l):Pure zO8 J0 53 args v:=by
 unfold U1 at h
 split at h
 ·cases h; exact a0w Tryz.func53 (by kernel_rfl) (by kernel_rfl) (by kernel_rfl) (e:=Extern.MathFloatBits.float64bits) (by kernel_rfl) rfl rfl (fun _=>rfl)
 ·cases h
def aO:List Value->Option (Value×List Prop)
 | [.int .u64 b] =>some (.float .f64 b.toNat,[])
 | _=>none
theorem fP (args:List Value) (v:Value) (l:List Prop) (h:aO args=some (v,l)) (_:l5 l):Pure zO8 J0 129 args v:=by
 unfold aO at h
 split at h
 ·cases h; exact a0w Tryz.func129 (by kernel_rfl) (by kernel_rfl) (by kernel_rfl) (e:=Extern.MathFloatBits.float64frombits) (by kernel_rfl) rfl rfl (fun _=>rfl)
 ·cases h
theorem k0l (name:String) {x y c:Int} (hc:c.toNat<=1) (w:World):(Extern.MathBitsCarry.three name #[.int .u64 x, .int .u64 y, .int .u64 c]).run zO8 w= .ok (x.toNat,y.toNat,c.toNat) w:=by
 have hdef:Extern.MathBitsCarry.three name #[.int .u64 x, .int .u64 y, .int .u64 c] =(do
  let c0 <- asInt (.int .u64 c)
  if c0.toNat > 1 then unsupported (.noEntry ("extern/math/bits." ++name++ ": a carry that is neither 0 nor 1"))
  pure ((<- asInt (.int .u64 x)).toNat,(<- asInt (.int .u64 y)).toNat,c0.toNat)):=rfl
 rw [hdef]
 simp [asInt,asIntOf]
 omega
def mB:List Value->Option (Value×List Prop)
 | [.int .u64 x, .int .u64 y, .int .u64 c] =>match Nat.ble c.toNat 1 with
  | true=>some (.tuple ⟨[.int .u64 (zO6 ((x.toNat+y.toNat+c.toNat)%18446744073709551616)), .int .u64 (zO6 ((x.toNat+y.toNat+c.toNat)/18446744073709551616))]⟩,[])
  | false=>none
 | _=>none
theorem pX (args:List Value) (v:Value) (l:List Prop) (h:mB args=some (v,l)) (_:l5 l):Pure zO8 J0 200 args v:=by
 unfold mB at h
 split at h
 case h_2=>cases h
 rename_i x y c
 split at h
 case h_2=>cases h
 rename_i hc
 have hc:=dL hc
 cases h
 refine a0w Tryz.func200 (by kernel_rfl) (by kernel_rfl) (by kernel_rfl) (e:=fun args=>do
  let (x,y,c) <- Extern.MathBitsCarry.three "Add64" args
  pure (Extern.MathBitsCarry.pair ((x+y+c)%Extern.MathBitsCarry.m64) ((x+y+c)/Extern.MathBitsCarry.m64))) (by kernel_rfl) rfl rfl (fun w=> ?_)
 simp [k0l _ hc,Extern.MathBitsCarry.pair,Extern.MathBitsCarry.m64]
def kJ:List Value->Option (Value×List Prop)
 | [.int .u64 x, .int .u64 y, .int .u64 c] =>match Nat.ble c.toNat 1 with
  | true=>some (.tuple ⟨[.int .u64 (zO6 ((x.toNat+18446744073709551616-y.toNat-c.toNat)%18446744073709551616)), .int .u64 (zO6 (match zO1 x.toNat (y.toNat+c.toNat) with | true=>1 | false=>0))]⟩,[])
  | false=>none
 | _=>none
theorem qJ (args:List Value) (v:Value) (l:List Prop) (h:kJ args=some (v,l)) (_:l5 l):Pure zO8 J0 300 args v:=by
 unfold kJ at h
 split at h
 case h_2=>cases h
 rename_i x y c
 split at h
 case h_2=>cases h
 rename_i hc
 have hc:=dL hc
 cases h
 refine a0w Tryz.func300 (by kernel_rfl) (by kernel_rfl) (by kernel_rfl) (e:=fun args=>do
  let (x,y,b) <- Extern.MathBitsCarry.three "Sub64" args
  pure (Extern.MathBitsCarry.pair ((x+Extern.MathBitsCarry.m64-y-b)%Extern.MathBitsCarry.m64) (if x < y+b then 1 else 0))) (by kernel_rfl) rfl rfl (fun w=> ?_)
 have hb:(if x.toNat < y.toNat+c.toNat then 1 else 0)=(match zO1 x.toNat (y.toNat+c.toNat) with | true=>1 | false=>0):=by
  by_cases hlt:x.toNat < y.toNat+c.toNat
  ·rw [f9 hlt,show zO1 x.toNat (y.toNat+c.toNat)=true by simp [Nat.blt_eq]; exact hlt]
  ·rw [a7 hlt,show zO1 x.toNat (y.toNat+c.toNat)=false by cases hb:zO1 x.toNat (y.toNat+c.toNat) <;> first | rfl | exact absurd (by simpa [Nat.blt_eq] using hb) hlt]
 rw [<- hb]
 simp [k0l _ hc,Extern.MathBitsCarry.pair,Extern.MathBitsCarry.m64]
def g0c:List Value->Heap->Nat->Option CR
 | [x],H,n=>some ⟨x,H,n,[],[]⟩
 | _,_,_=>none
theorem r0o {f:FuncId} {fn:Func} (hf:zO8.funcs[f]? =some fn) (h1:(fn.name== "runtime.NumGoroutine")=false) (h2:fn.body.isNone=true) (h3:Extern.findNext fn=none) (h4:Extern.find fn=some Extern.AbiNoEscape.same):a3n zO8 J0 f g0c:=by
 intro args H n r h _
 unfold g0c at h
 split at h
 case h_2=>cases h
 rename_i x
 cases h
 refine⟨d9 _,fun B M E w vs _ _ _ hS=>⟨E,rv E x,w,Agree.refl _ _,?_,Keeps.refl _ _ _,fun E' ha=>⟨?_,(hS E' ha).1⟩⟩⟩
 ·rw [run_callFunc_extern hf h1 h2 h3 h4,(hS E (Agree.refl _ _)).2]
  rfl
 ·have e1:=(hS E (Agree.refl _ _)).2
  have e2:=(hS E' ha).2
  rw [e1] at e2
  simpa [rvL] using e2
def mQ (e:TypeId):List Value->Heap->Nat->Option CR
 | [.int .i64 m],H,n=>match m with
  | .ofNat m=>match Nat.ble m 281474976710656 with
   | true=>some ⟨.slice (some ⟨n,0,some (n+1)⟩) m 0,(n, .row e 1 (.ints .u8 []) (n+1)) ::H,n+2,[],[]⟩
   | false=>none
  | .negSucc _=>none
 | _,_,_=>none
theorem e0s:a3n zO8 J0 272 (mQ 5):=by
 intro args H n r h _
 unfold mQ at h
 split at h
 case h_2=>cases h
 split at h
 case h_2=>cases h
 rename_i m
 split at h
 case h_2=>cases h
 rename_i hm
 have hm:=dL hm
 cases h
 refine⟨a0n _ _,fun B M E w vs _ hB _ hS=> ?_⟩
 obtain⟨cs,hrun,hle,hmax⟩:=Lib.run_makeNoZero (P:=zO8) w #[3] 200 5 (by kernel_rfl) m hm
 refine⟨fun i=>if i=n then some w.heap.size else if i=n+1 then some cs.size else E i, .slice (some ⟨w.heap.size,0,none⟩) m cs.size,w.drew.drew.alloc (.cells cs 5),fun i hi=> ?_,?_,?_,fun E' ha=> ?_⟩
 ·show (if i=n then some w.heap.size else if i=n+1 then some cs.size else E i)=E i
  simp only [show i≠n by omega,show i≠n+1 by omega,E7]
 ·rw [run_callFunc_extern Tryz.func272 (by kernel_rfl) (by kernel_rfl) (by kernel_rfl) (e:=Extern.BytealgMakeNoZero.makeNoZero #[3] #[200]) (by kernel_rfl),(hS E (Agree.refl _ _)).2]
  have e1:(⟨rvL E [.int .i64 (zO6 m)]⟩:Array Value)= #[.int .i64 m] :=by simp [rvL,rv]
  rw [e1,hrun]
  rfl
 ·exact⟨rfl,rfl,rfl,by simp,fun k hk _=>by rw [heap_alloc_old _ _ (by simpa using C8 hk hB)]; rfl⟩
 ·have h1:=ha n (by simp)
  have h2:=ha (n+1) (by simp)
  simp only [H9] at h1
  simp only [show n+1≠n by omega,E7,H9] at h2
  refine⟨by simp [rv,rSl,h1,h2],Sim.row (hS E' (fun i hi=> ?_)).1 (fun i o _ hi=>⟨hi,fun e=> ?_⟩) h1 h2 (.of (x0m _ _)) (.inl (by simpa using hB)) (hmax (by unfold maxLen; omega)) (by omega) (by simp [Row.list]) (by simp [Row.list,rvL]) (fun k hk _=>by rw [heap_alloc_old _ _ (by simpa using hk)]; rfl)⟩
  ·have:=ha i (by simp; omega)
   simp only [show i≠n by omega,show i≠n+1 by omega,E7] at this
   exact this
  ·have:=((hS E' (fun i hi=>by
    have:=ha i (by simp; omega)
    simp only [show i≠n by omega,show i≠n+1 by omega,E7] at this
    exact this)).1).obj i o hi
   rw [e] at this
   exact absurd this.lt (w0u _)
def L7:FuncId->List Value->Heap->Nat->Option CR:=t1f 271 g0c (t1f 272 (mQ 5) xt0)
theorem r5:i2e zO8 J0 L7:=v0i (r0o Tryz.func271 (by kernel_rfl) (by kernel_rfl) (by kernel_rfl) (by kernel_rfl)) (v0i e0s (o2v _ _))
def rH:Tab:=r6 200 mB (r6 300 kJ (r6 53 U1 (r6 129 aO (r6 287 aG s2t))))
theorem M6:U6 zO8 J0 rH:=i8 pX (i8 qJ (i8 W5 (i8 fP (i8 qX (n0h _ _)))))
def bN0:Base:=⟨zO8,J0,true,rH,I4,2000,L7⟩
theorem k2s:BaseOk bN0:=⟨progOk,M6,v6 _ _,r5⟩
end Go.Proofs.YtkiejangmhhofaaGreatDoor
