/-
 NumberRises: of two texts the one with the greater value is never read as the lesser number; no condition (a part of the proof).
-/
import Derived.Test.YtdgfhijnconaoaaGreatDoorR1x01
import Derived.Orders
import Derived.OrdersIn
import Derived.LoopNIn
import Derived.RangeFuncRecord
import Derived.RangeFuncCalls
import Derived.Shelf.Abstract
import Derived.Laws.MakeOwn
import Derived.Lib.Builder
import Derived.Laws.FloatArith
import Derived.Laws.AppendOwn
import Derived.Deep.AppendSrc
import Derived.Lib.ConvBytes
import Derived.Lib.UnsafeStr
namespace Go.Proofs.YtdgfhijnconaoaaGreatDoor.Ev
open Go Go.RowKit Go.Shelf
noncomputable section
inductive TV where
 | unk
 | v (x:Value)
 | sp (l:List (Nat×Bool)) (x:Value)
 | key (j:Nat) (l:List (Nat×Bool)) (b:Bool)
def getT (ts:List TV) (t:Nat):TV:=match nthF ts t with
 | some x=>x
 | none=> .unk
theorem getT_def (ts:List TV) (t:Nat):getT ts t=match ts[t]? with
 | some x=>x
 | none=> .unk:=by
 unfold getT
 rw [nthF_eq]
def beqB (a b:Bool):Bool:=match a,b with
 | true,true=>true
 | false,false=>true
 | _,_=>false
def memC (p:Nat×Bool):List (Nat×Bool)→Bool
 | [] =>false
 | q ::r=>(Nat.beq p.1 q.1 && beqB p.2 q.2) || memC p r
def subC:List (Nat×Bool)→List (Nat×Bool)→Bool
 | [],_=>true
 | p ::r,c=>memC p c && subC r c
def rd (c:List (Nat×Bool)):TV→Option Value
 | .unk=>none
 | .v x=>some x
 | .sp l x=>match subC l c with
  | true=>some x
  | false=>none
 | .key _ l b=>match subC l c with
  | true=>some (.bool b)
  | false=>none
def evo (ts:List TV) (c:List (Nat×Bool)):Operand→Option Value
 | .tmp t=>rd c (getT ts t)
 | .const v=>match pureV v with
  | true=>some v
  | false=>none
 | .global g=>some (.pointer (some ⟨g,0,none⟩))
 | .func f=>some (.func (.func f) #[] #[])
def V (β:Nat→Bool) (l:List (Nat×Bool)):Prop:=∀ p∈l,β p.1=p.2
def TRel (ρ:Num) (β:Nat→Bool):TV→Value→Prop
 | .unk,_=>True
 | .v x,r=>r=rv ρ x
 | .sp l x,r=>(V β l→r=rv ρ x)∧(¬ V β l→r=undef)
 | .key j l b,r=>β j=b∧(V β l→r= .bool b)∧(¬ V β l→r=undef)
theorem beqB_eq {a b:Bool} (h:beqB a b=true):a=b:=by cases a <;> cases b <;> simp_all [beqB]
theorem memC_sound {p:Nat×Bool} :∀ {c:List (Nat×Bool)},memC p c=true→p∈c
 | [],h=>by simp [memC] at h
 | q ::r,h=>by
  simp only [memC,Bool.or_eq_true,Bool.and_eq_true] at h
  rcases h with ⟨h1,h2⟩ | h
  ·have e:p=q:=Prod.ext (Nat.eq_of_beq_eq_true h1) (beqB_eq h2)
   rw [e]; exact List.mem_cons_self
  ·exact List.mem_cons_of_mem _ (memC_sound h)
theorem subC_sound {β:Nat→Bool} {c:List (Nat×Bool)} :∀ {l:List (Nat×Bool)},subC l c=true→V β c→V β l
 | [],_,_=>fun p hp=>by cases hp
 | q ::r,h,hc=>by
  simp only [subC,Bool.and_eq_true] at h
  intro p hp
  rcases List.mem_cons.1 hp with rfl | hp
  ·exact hc _ (memC_sound h.1)
  ·exact subC_sound h.2 hc p hp
theorem rd_sound {ρ:Num} {β:Nat→Bool} {c:List (Nat×Bool)} {x:TV} {v r:Value} (h:rd c x=some v) (hc:V β c) (hr:TRel ρ β x r):r=rv ρ v:=by
 cases x with
 | unk=>simp [rd] at h
 | v y=>simp only [rd] at h; cases h; exact hr
 | sp l y=>
  simp only [rd] at h
  split at h
  ·rename_i hs; cases h; exact hr.1 (subC_sound hs hc)
  ·cases h
 | key j l b=>
  simp only [rd] at h
  split at h
  ·rename_i hs; cases h; simp only [rv]; exact hr.2.1 (subC_sound hs hc)
  ·cases h
def Agree (n:Nat) (ρ ρ':Num):Prop:=∀ i,i < n→ρ' i=ρ i
theorem Agree.refl (n:Nat) (ρ:Num):Agree n ρ ρ:=fun _ _=>rfl
theorem Agree.trans {n m:Nat} {a b c:Num} (h:Agree n a b) (k:Agree m b c) (hnm:n≤m):Agree n a c:=fun i hi=>(k i (by omega)).trans (h i hi)
structure CR where
 v:Value
 h:Heap
 n:Nat
 obs:List Prop
 ds:List Bool
structure Inv (P:Program) where
 I:World→Prop
 st:∀ w w':World,(∀ k,k < P.globals.size→w'.heap[k]? =w.heap[k]?)→w.heap.size≤w'.heap.size→I w→I w'
 room:∀ w,I w→P.globals.size≤w.heap.size
 tabs:Heap
 tabsOk:∀ (w:World) (ρ:Num) (B:Nat) (M:Nat→Prop),I w→(∀ g,g < P.globals.size→ρ g=some g)→Sim P B M ρ tabs w
 tabsRo:∀ i o,tabs.get i=some o→o.rw=false
inductive Mk where
 | mark (i:Nat)
 | call (f:FuncId) (cap args:List Value)
structure St where
 tmps:List TV
 heap:Heap
 nid:Nat
 ds:List Bool
 obs:List Prop
 lp:Nat
 rd:Option Nat
 mks:List Mk
 bs:Nat
inductive AX where
 | normal
 | exit (id:Nat)
 | ret
def AX.toExit:AX→Exit
 | .normal=> .normal
 | .exit id=> .exit id
 | .ret=> .ret
structure Cx where
 P:Program
 J:Inv P
 auto:Bool
 pc:FuncId→List Value→Option (Value×List Prop)
 cl:FuncId→List Value→Heap→Nat→List Bool→Option CR
 xt:FuncId→List Value→Heap→Nat→Option CR
 rd:Code→St→Option (AX×St)
 gd:Bool
structure Par (P:Program) (B:Nat) (M:Nat→Prop):Prop where
 glo:P.globals.size≤B
 free:∀ k,k < P.globals.size→¬ M k
theorem Inv.keeps {P:Program} (J:Inv P) {B:Nat} {M:Nat→Prop} (hp:Par P B M) {w w':World} (h:Keeps B M w w') (hi:J.I w):J.I w':=
 J.st w w' (fun k hk=>h.block k (Nat.lt_of_lt_of_le hk hp.glo) (hp.free k hk)) h.size hi
def Pure (P:Program) (J:Inv P) (f:FuncId) (args:List Value) (v:Value):Prop:=
 pureL args=true∧pureV v=true∧((Enters P f∧∀ w,J.I w→Calls P f ⟨args⟩ w fun e w'=>e= .returned v∧Below w.heap.size w w')∨∀ w,J.I w→(callFunc f ⟨args⟩).run P w= .ok (.value v) w)
def PcOk (P:Program) (J:Inv P) (pc:FuncId→List Value→Option (Value×List Prop)):Prop:=
 ∀ f args v l,pc f args=some (v,l)→allP l→Pure P J f args v
def ClOk (P:Program) (J:Inv P) (cl:FuncId→List Value→Heap→Nat→List Bool→Option CR):Prop:=
 ∀ f args H n ds r,cl f args H n ds=some r→allP r.obs→n≤r.n∧Enters P f∧∀ (B:Nat) (M:Nat→Prop) (ρ:Num) (w:World) (vs:List Value),Par P B M→B≤w.heap.size→J.I w→
  (∀ ρ',Agree n ρ ρ'→Sim P B M ρ' H w∧vs=rvL ρ' args)→
  Calls P f ⟨vs⟩ w fun e w'=>∃ ρ1 v,Agree n ρ ρ1∧e= .returned v∧Keeps B M w w'∧∀ ρ',Agree r.n ρ1 ρ'→v=rv ρ' r.v∧Sim P B M ρ' r.h w'
def XtOk (P:Program) (J:Inv P) (xt:FuncId→List Value→Heap→Nat→Option CR):Prop:=
 ∀ f args H n r,xt f args H n=some r→allP r.obs→n≤r.n∧∀ (B:Nat) (M:Nat→Prop) (ρ:Num) (w:World) (vs:List Value),Par P B M→B≤w.heap.size→J.I w→
  (∀ ρ',Agree n ρ ρ'→Sim P B M ρ' H w∧vs=rvL ρ' args)→
  ∃ ρ1 v w',Agree n ρ ρ1∧(callFunc f ⟨vs⟩).run P w= .ok (.value v) w'∧Keeps B M w w'∧∀ ρ',Agree r.n ρ1 ρ'→v=rv ρ' r.v∧Sim P B M ρ' r.h w'
def Cx.call (X:Cx) (f:FuncId) (args:List Value) (H:Heap) (n:Nat) (ds:List Bool):Option CR:=
 match X.xt f args H n with
 | some ⟨v,h,n',ob,_⟩=>some ⟨v,h,n',ob,ds⟩
 | none=>X.cl f args H n ds
def Does (P:Program) (f:FuncId) (vs:List Value) (w:World) (R:Ending→World→Prop):Prop:=
 (Enters P f∧Calls P f ⟨vs⟩ w R)∨∃ v w',(callFunc f ⟨vs⟩).run P w= .ok (.value v) w'∧R (.returned v) w'
structure Bas where
 w:World
 n:Nat
 ρ:Num
 dfs:List Deferred
def plainT:TV→Bool
 | .unk=>true
 | .v _=>true
 | _=>false
def Fl (rb:Option Nat):Fence:={ Fence.wide with round:=rb }
def mkD (ρ:Num):Mk→Deferred
 | .mark i=>⟨.collected ((ρ i).getD 0),#[]⟩
 | .call f cap args=>⟨.fn (.func f) ⟨rvL ρ cap⟩,⟨rvL ρ args⟩⟩
structure FR (ρ:Num) (rb:Option Nat) (s:St) (a:Act):Prop where
 defers:a.defers=s.mks.map (mkD ρ)
 round:rb=s.rd.bind ρ
structure Rep (P:Program) (J:Inv P) (B:Nat) (M:Nat→Prop) (w0:Bas) (rb:Option Nat) (s:St) (a:Act) (w:World):Prop where
 low:w0.n=s.bs
 plain:∀ t,plainT (getT s.tmps t)=true
 size:a.tmps.size=s.tmps.length
 base:B≤w.heap.size
 inv:J.I w
 keeps:Keeps B M w0.w w
 rep:∃ ρ,(w0.n≤s.nid∧Agree w0.n w0.ρ ρ)∧∀ ρ',Agree s.nid ρ ρ'→Sim P B M ρ' s.heap w∧FR ρ' rb s a∧∀ t x,getT s.tmps t= .v x→a.tmps.getD t undef=rv ρ' x
def RdOk (P:Program) (J:Inv P) (rd:Code→St→Option (AX×St)):Prop:=
 ∀ c s x s',rd c s=some (x,s')→allP s'.obs→allP s.obs∧∀ (B:Nat) (M:Nat→Prop) (w0:Bas) (rb:Option Nat) (a:Act) (w:World),Par P B M→Rep P J B M w0 rb s a w→
  ∀ Q:Exit→Act→World→Prop,(∀ a' w',Rep P J B M w0 rb s' a' w'→Q x.toExit a' w')→c.wpIn (Fl rb) 0 P Q a w
structure CxOk (X:Cx) (J:Inv X.P):Prop where
 pc:PcOk X.P J X.pc
 cl:ClOk X.P J X.cl
 xt:XtOk X.P J X.xt
 rd:RdOk X.P J X.rd
 tabs:∀ (w:World) (ρ:Num) (B:Nat) (M:Nat→Prop),J.I w→(∀ g,g < X.P.globals.size→ρ g=some g)→Sim X.P B M ρ X.J.tabs w
 ro:∀ i o,X.J.tabs.get i=some o→o.rw=false
theorem callsIn_Fl {rb:Option Nat} {n:Nat} {P:Program} {f:FuncId} {args:Array Value} {w:World} {R:Ending→World→Prop} (h:Calls P f args w R):CallsIn (Fl rb) n P f args w R:=by
 cases rb with
 | none=>exact callsIn_wide.2 h
 | some l=>exact CallsIn.inRound l (callsIn_wide.2 h)
theorem about_Fl {rb:Option Nat} {P:Program} {o:Oper} {w:World} {ρ:Operand→Value} :∀ f,o.about P w ρ=some f→(Fl rb).fn f:=fun _ _=>trivial
theorem wpIn_Fl {rb:Option Nat} {P:Program} {o:Oper} {a:Act} {w:World} {K:Act→World→Prop} {Q:Exit→Act→World→Prop} (hnd:∀ c,o.op≠ .defer c)
  (h:o.uponIn (Fl rb) 0 P a K Q ((execOp a.eval o).run P w)):o.wpIn (Fl rb) 0 P a w K Q:=
 ⟨about_Fl,by rw [Oper.semAt_eq _ _ _ hnd]; exact h⟩
theorem call_sound {X:Cx} {J:Inv X.P} (hX:CxOk X J) {f:FuncId} {args:List Value} {H:Heap} {n:Nat} {ds:List Bool} {r:CR} (h:X.call f args H n ds=some r) (hl:allP r.obs):
  n≤r.n∧∀ (B:Nat) (M:Nat→Prop) (ρ:Num) (w:World) (vs:List Value),Par X.P B M→B≤w.heap.size→J.I w→(∀ ρ',Agree n ρ ρ'→Sim X.P B M ρ' H w∧vs=rvL ρ' args)→
  Does X.P f vs w fun e w'=>∃ ρ1 v,Agree n ρ ρ1∧e= .returned v∧Keeps B M w w'∧∀ ρ',Agree r.n ρ1 ρ'→v=rv ρ' r.v∧Sim X.P B M ρ' r.h w':=by
 unfold Cx.call at h
 split at h
 ·rename_i v0 h0 n' ob ds' hx
  cases h
  obtain⟨h1,h2⟩:=hX.xt _ _ _ _ _ hx hl
  refine⟨h1,fun B M ρ w vs hp hB hI hS=> ?_⟩
  obtain⟨ρ1,v,w',q1,q2,q3,q4⟩:=h2 B M ρ w vs hp hB hI hS
  exact .inr ⟨v,w',q2,ρ1,v,q1,rfl,q3,q4⟩
 ·obtain⟨h1,h2,h3⟩:=hX.cl _ _ _ _ _ _ h hl
  exact⟨h1,fun B M ρ w vs hp hB hI hS=> .inl ⟨h2,h3 B M ρ w vs hp hB hI hS⟩⟩
theorem Does.mono {P:Program} {f:FuncId} {vs:List Value} {w:World} {R R':Ending→World→Prop} (h:Does P f vs w R) (hh:∀ e w',R e w'→R' e w'):Does P f vs w R':=by
 rcases h with ⟨h1,h2⟩ | ⟨v,w',h1,h2⟩
 ·exact .inl ⟨h1,h2.mono hh⟩
 ·exact .inr ⟨v,w',h1,hh _ _ h2⟩
theorem wpIn_does {rb:Option Nat} {P:Program} {o:Oper} {a:Act} {w:World} {K:Act→World→Prop} {Q:Exit→Act→World→Prop} {f:FuncId} {vs:List Value} (hnd:∀ c,o.op≠ .defer c)
  (hrun:(execOp a.eval o).run P w=(callFunc f ⟨vs⟩).run P w) (hd:Does P f vs w fun e w'=>∃ v,e= .returned v∧K (a.put o.dst v) w'):o.wpIn (Fl rb) 0 P a w K Q:=by
 refine wpIn_Fl hnd ?_
 rcases hd with ⟨hent,hc⟩ | ⟨v,w',h1,h2⟩
 ·rw [hrun,hent _ _,Oper.uponIn_enter]
  refine⟨fun h=>(by cases h),callsIn_Fl (hc.mono fun e w' hh=> ?_)⟩
  obtain⟨v,he,hk⟩:=hh
  subst he
  exact hk
 ·rw [hrun,h1,Oper.uponIn_value]
  obtain⟨v',he,hk⟩:=h2
  cases he
  exact hk
def stillOp:Op→Bool
 | .move _=>true
 | .assign _=>true
 | .build _ _=>true
 | .load _ _=>true
 | .nilCheck _=>true
 | .binOp _ _ _ _ _=>true
 | .unOp _ _ _=>true
 | .convert _ _ _=>true
 | .makeInterface _ _=>true
 | .makeFunc _ _ _=>true
 | .slice _ _ _ _ _=>true
 | .fieldAddr _ _ _=>true
 | .field _ _ _=>true
 | .indexAddr _ _ _=>true
 | .index _ _ _=>true
 | .extract _ _=>true
 | .lookup _ _ _ _=>true
 | _=>false
structure R where
 v:Value
 h:Heap
 obs:List Prop
 ds:List Bool
def mkR (H:Heap) (ds:List Bool) (x:Option Value):Option R:=
 match x with
 | some v=>some ⟨v,H,[],ds⟩
 | none=>none
def mkR2 (H:Heap) (ds:List Bool) (x:Option (Value×List Prop)):Option R:=
 match x with
 | some (v,l)=>some ⟨v,H,l,ds⟩
 | none=>none
def concreteT (P:Program) (t:TypeId):Bool:=
 match undF P t with
 | none=>false
 | some (.interface _)=>false
 | some _=>true
def optO (ev:Operand→Option Value):Option Operand→Option (Option Value)
 | none=>some none
 | some x=>match ev x with
  | some v=>some (some v)
  | none=>none
def bnd (v:Option Value) (d:Nat):Option Int:=
 match v with
 | none=>some d
 | some (.int _ i)=>some i
 | _=>none
theorem bnd_rv (ρ:Num) {v:Option Value} {d:Nat} {i:Int} (h:bnd v d=some i):v.map (rv ρ)=v:=by
 unfold bnd at h
 split at h
 ·rfl
 ·simp [rv]
 ·cases h
theorem pure_cells {v:Value} (h:pureV v=true):∀ x∈v.cells.toList,pureV x=true:=by
 cases v with
 | agg cs=>
  obtain⟨l⟩:=cs
  simp only [pureV,pureA] at h
  rw [pureL_eq,List.all_eq_true] at h
  exact h
 | _=>intro x hx; simp only [Value.cells,List.mem_cons,List.not_mem_nil,or_false] at hx; subst hx; exact h
def evSliceL (P:Program) (auto:Bool) (H:Heap) (e:TypeId) (a:Option Addr) (n c:Nat) (lo hi:Option Value):Option (Value×List Prop):=
 match bnd lo 0,bnd hi n,infF P e with
 | some l,some h,some inf=>match a with
  | none=>match need auto (0≤l∧l≤h∧h≤c) with
   | some ob=>some (.slice none (h.toNat-l.toNat) (c-l.toNat),ob)
   | none=>none
  | some ⟨id,off,none⟩=>match need auto (0≤l∧l≤h∧h≤c) with
   | some ob=>match lo with
    | none=>some (.slice (some ⟨id,off,none⟩) h.toNat c,ob)
    | some _=>match Nat.beq c l.toNat with
     | true=>some (.slice (some ⟨id,off,none⟩) (h.toNat-l.toNat) (c-l.toNat),ob)
     | false=>some (.slice (some ⟨id,addO off (mulO l.toNat inf.size),none⟩) (h.toNat-l.toNat) (c-l.toNat),ob)
   | none=>none
  | some ⟨id,off,some k⟩=>match auto with
   | true=>match off,c,H.get id with
    | 0,0,some (.row _ sz r k')=>match Nat.beq k k' && Nat.blt 0 sz,need true (l=0∧0≤h∧h≤n∧h.toNat*sz≤r.list.length) with
     | true,some ob=>some (.slice (some ⟨id,0,some k⟩) h.toNat 0,ob)
     | _,_=>none
    | _,_,_=>none
   | false=>match H.get id with
    | some (.row _ sz r k')=>match Nat.beq k k' && Nat.blt 0 sz && Nat.beq inf.size sz with
     | true=>match lo with
      | none=>some (.slice (some ⟨id,off,some k⟩) h.toNat c,[off=c*sz∧0≤h∧off+h.toNat*sz≤r.len])
      | some _=>some (.slice (some ⟨id,addO off (mulO l.toNat sz),some k⟩) (h.toNat-l.toNat) (addO c l.toNat),[off=c*sz∧0≤l∧l≤h∧(l=0∨l < h)∧off+h.toNat*sz≤r.len])
     | false=>none
    | _=>none
 | _,_,_=>none
theorem evSliceL_bnd {P:Program} {auto:Bool} {H:Heap} {e:TypeId} {a:Option Addr} {n c:Nat} {lo hi:Option Value} {r:Value×List Prop} {ρ:Num} (h:evSliceL P auto H e a n c lo hi=some r):lo.map (rv ρ)=lo∧hi.map (rv ρ)=hi:=by
 unfold evSliceL at h
 simp only [infF_eq] at h
 split at h
 case h_2=>cases h
 rename_i hlo hhi _
 exact⟨bnd_rv ρ hlo,bnd_rv ρ hhi⟩
def madeL (z:List Value):Nat→List Value
 | 0=>[]
 | c+1=>z++madeL z c
def evMake (P:Program) (auto:Bool) (t:TypeId) (l c:Int):Option (TypeId×List Value×List Prop):=
 match undF P t with
 | some (.slice e)=>match infF P e with
  | some inf=>match inf.zero with
   | some z=>match pureV z && Nat.beq z.cells.size inf.size,need auto (0≤l∧l≤c∧(inf.bytes:Int)*c≤281474976710656∧c≤9223372036854775807) with
    | true,some ob=>some (e,madeL z.cells.toList c.toNat,ob)
    | _,_=>none
   | none=>none
  | none=>none
 | _=>none
theorem madeL_length (z:List Value):∀ c,(madeL z c).length=c*z.length
 | 0=>by simp [madeL]
 | c+1=>by rw [madeL,List.length_append,madeL_length z c,Nat.add_mul,Nat.one_mul,Nat.add_comm]
theorem madeL_get (z:List Value):∀ (c j:Nat),j < c*z.length→(madeL z c)[j]? =z[j%z.length]?
 | 0,j,h=>by omega
 | c+1,j,h=>by
  rw [madeL]
  rcases Nat.lt_or_ge j z.length with hj | hj
  ·rw [List.getElem?_append_left hj,Nat.mod_eq_of_lt hj]
  ·rw [List.getElem?_append_right hj,madeL_get z c _ (by rw [Nat.add_mul,Nat.one_mul] at h; omega),← Nat.mod_eq_sub_mod hj]
theorem madeL_eq {z:Array Value} {s c:Nat} (hs:z.size=s):madeCells z (c*s)=(madeL z.toList c).toArray:=by
 subst hs
 apply Array.ext'
 apply List.ext_getElem?
 intro j
 simp only [madeCells,Array.toList_map,Array.toList_range,List.getElem?_map]
 rcases Nat.lt_or_ge j (c*z.size) with hj | hj
 ·rw [List.getElem?_range hj,madeL_get _ _ _ (by simpa using hj)]
  have hz:0 < z.size:=by
   rcases Nat.eq_zero_or_pos z.size with h | h
   ·rw [h,Nat.mul_zero] at hj; omega
   ·exact h
  have hm:j%z.size < z.size:=Nat.mod_lt _ hz
  simp [hm,getElem!_pos]
 ·rw [List.getElem?_eq_none (by simpa using hj),List.getElem?_eq_none (by rw [madeL_length]; simpa using hj)]
  rfl
theorem evMake_sound {P:Program} {auto:Bool} {t e:TypeId} {l c:Int} {cs:List Value} {ob:List Prop} (h:evMake P auto t l c=some (e,cs,ob)) (hl:allP ob) (kl kc:IntKind) (w:World):
  (Instr.makeSlice t (.int kl l) (.int kc c)).run P w= .ok (.slice (some ⟨w.heap.size,0,none⟩) l.toNat c.toNat) (w.alloc (.cells cs.toArray e))∧∀ ρ,rvL ρ cs=cs:=by
 unfold evMake at h
 simp only [undF_eq,infF_eq] at h
 split at h
 case h_2=>cases h
 rename_i e' ht
 split at h
 case h_2=>cases h
 rename_i inf hi
 split at h
 case h_2=>cases h
 rename_i z hz
 split at h
 case h_2=>cases h
 rename_i ob' hp hneed
 cases h
 simp only [Bool.and_eq_true,Nat.beq_eq] at hp
 obtain⟨h1,h2,h3,h4⟩:=need_sound hneed hl
 have:=run_make (P:=P) w t e inf z ht hi hz kl kc l c h1 h2 h3 h4
 rw [madeL_eq hp.2] at this
 refine⟨this,fun ρ=>rvL_pure ρ _ ?_⟩
 have hz:∀ x∈z.cells.toList,pureV x=true:=pure_cells hp.1
 rw [pureL_eq,List.all_eq_true]
 intro x hx
 generalize c.toNat=k at hx
 induction k with
 | zero=>cases hx
 | succ k ih=>
  rw [madeL] at hx
  rcases List.mem_append.1 hx with hx | hx
  ·exact hz x hx
  ·exact ih hx
theorem run_sliceBound' {P:Program} {w:World} {k:IntKind} {i:Int} {y:Nat} {code:BoundsCode} (h:0≤i∧i≤y):(Instr.sliceBound (.int k i) y code).run P w= .ok i.toNat w:=by
 simp [Instr.sliceBound,asIntOf,h]
theorem run_sliceBounds {P:Program} {w:World} {len cap:Nat} {lo hi:Option Value} {l h:Int} (hlo:bnd lo 0=some l) (hhi:bnd hi len=some h) (hb:0≤l∧l≤h∧h≤cap) (hlen:hi=none→True) (isS:Bool):
  (Instr.sliceBounds isS len cap lo hi none).run P w= .ok (l.toNat,h.toNat,cap) w:=by
 unfold Instr.sliceBounds
 cases lo with
 | none=>
  simp only [bnd] at hlo
  cases hlo
  cases hi with
  | none=>
   simp only [bnd] at hhi
   cases hhi
   simp
  | some v=>
   cases v <;> simp only [bnd] at hhi <;> first | (cases hhi; done) | skip
   cases hhi
   simp [run_sliceBound' (P:=P) (w:=w) (show 0≤h∧h≤(cap:Int) by omega)]
 | some v0=>
  cases v0 <;> simp only [bnd] at hlo <;> first | (cases hlo; done) | skip
  cases hlo
  cases hi with
  | none=>
   simp only [bnd] at hhi
   cases hhi
   simp [run_sliceBound' (P:=P) (w:=w) (show 0≤l∧l≤(len:Int) by omega)]
  | some v=>
   cases v <;> simp only [bnd] at hhi <;> first | (cases hhi; done) | skip
   cases hhi
   simp [run_sliceBound' (P:=P) (w:=w) (show 0≤h∧h≤(cap:Int) by omega),run_sliceBound' (P:=P) (w:=w) (y:=h.toNat) (i:=l) (show 0≤l∧l≤((h.toNat:Nat):Int) by omega)]
theorem evSliceL_sound {P:Program} {auto:Bool} {B:Nat} {M:Nat→Prop} {ρ:Num} {H:Heap} {w:World} (hS:Sim P B M ρ H w) {t e:TypeId} {a:Option Addr} {n c:Nat} {lo hi:Option Value} {v:Value} {ob:List Prop}
  (h:evSliceL P auto H e a n c lo hi=some (v,ob)) (hl:allP ob) (ht:P.underlying t=some (.slice e)):(Instr.sliceAt t (rv ρ (.slice a n c)) lo hi none).run P w= .ok (rv ρ v) w:=by
 unfold evSliceL at h
 simp only [infF_eq] at h
 split at h
 case h_2=>cases h
 rename_i l hh inf hlo hhi hinf
 have key:∀ (a':Option Addr) (cap:Nat),0≤l∧l≤hh∧hh≤cap→(Instr.sliceAt t (.slice a' n cap) lo hi none).run P w= .ok (.slice (if cap=l.toNat then a' else a'.map (·.add (l.toNat*inf.size))) (hh.toNat-l.toNat) (cap-l.toNat)) w:=by
  intro a' cap hb
  simp only [Instr.sliceAt,Instr.slice,Sem.run_bind,run_underlying ht,Result.andThen_ok,run_sliceBounds (P:=P) (w:=w) hlo hhi hb (fun _=>trivial) true,run_sizeOf' hinf,Sem.run_pure]
 split at h
 ·split at h
  case h_2=>cases h
  rename_i ob' hneed
  cases h
  have:=key none c (need_sound hneed hl)
  simp only [rv]
  rw [this]
  simp
 ·rename_i id off
  split at h
  case h_2=>cases h
  rename_i ob' hneed
  have hb:=need_sound (l:=ob') hneed (by
   split at h
   ·cases h; exact hl
   ·split at h <;> (cases h; exact hl))
  have hk:=key ((ρ id).map fun b=>⟨b,off,none⟩) c hb
  have hrv:rv ρ (.slice (some ⟨id,off,none⟩) n c)= .slice ((ρ id).map fun b=>⟨b,off,none⟩) n c:=by simp only [rv,rSl,rAddr]
  rw [hrv,hk]
  split at h
  ·cases h
   simp only [bnd] at hlo
   cases hlo
   simp only [rv,rSl,rAddr]
   cases hq:ρ id with
   | none=>simp
   | some b=>simp [addr_add]
  split at h
  ·rename_i hc
   have hc:=Nat.eq_of_beq_eq_true hc
   cases h
   rw [if_pos hc]
   simp only [rv,rSl,rAddr]
  ·rename_i hc
   have hc:c≠l.toNat:=fun e=>by rw [e,Nat.beq_refl] at hc; cases hc
   cases h
   rw [if_neg hc]
   cases hq:ρ id with
   | none=>simp [rv,rSl,rAddr,hq]
   | some b=>simp [rv,rSl,rAddr,hq,addr_add]
 ·rename_i id off k
  split at h
  ·split at h
   case h_2=>cases h
   rename_i e' sz r k' hget
   split at h
   case h_2=>cases h
   rename_i ob' hck hneed
   simp only [Bool.and_eq_true,Nat.beq_eq,Nat.blt_eq] at hck
   obtain⟨hkk,hsz⟩:=hck
   subst hkk
   cases h
   obtain⟨h1,h2,h3,h4⟩:=need_sound hneed hl
   subst h1
   rcases hS.obj id _ hget with ⟨g1,g2⟩ | ⟨b,cap,cur,g1,g2,g3,g4,g5,g6,g7,g8⟩
   ·rw [g2] at h4
    have hn0:hh.toNat=0:=by
     rcases Nat.eq_zero_or_pos hh.toNat with h0 | h0
     ·exact h0
     ·have:=Nat.mul_le_mul h0 hsz
      simp only [List.length_nil] at h4
      omega
    have hh0:hh=0:=by omega
    subst hh0
    have:=key none 0 (by omega)
    simp only [rv,rSl,g1]
    rw [this]
    simp
   ·have hcap:hh.toNat≤cap:=Nat.le_of_mul_le_mul_right (Nat.le_trans h4 g7) hsz
    have:=key (some ⟨b,0,none⟩) cap (by omega)
    simp only [rv,rSl,g1,g2,Option.getD_some,Nat.sub_zero]
    rw [this]
    simp [addr_add]
  ·split at h
   case h_2=>cases h
   rename_i e' sz r k' hget
   split at h
   case h_2=>cases h
   rename_i hck
   simp only [Bool.and_eq_true,Nat.beq_eq,Nat.blt_eq] at hck
   obtain⟨⟨hkk,hsz⟩,hsz2⟩:=hck
   subst hkk hsz2
   have hl':off=c*inf.size∧0≤l∧l≤hh∧(l=0∨l < hh)∧off+hh.toNat*inf.size≤r.len:=by
    split at h
    ·cases h
     obtain⟨q1,q2,q3⟩:=hl.1
     simp only [bnd] at hlo
     cases hlo
     exact⟨q1,Int.le_refl _,q2, .inl rfl,q3⟩
    ·cases h
     exact hl.1
   have hv:rv ρ v=rv ρ (.slice (some ⟨id,addO off (mulO l.toNat inf.size),some k⟩) (hh.toNat-l.toNat) (addO c l.toNat)):=by
    split at h
    ·cases h
     simp only [bnd] at hlo
     cases hlo
     simp
    ·cases h
     rfl
   rw [hv]
   clear hv h
   obtain⟨h1,h2,h3,h4,h5⟩:=hl'
   subst h1
   rw [Row.len_eq] at h5
   rcases hS.obj id _ hget with ⟨g1,g2⟩ | ⟨b,cap,cur,g1,g2,g3,g4,g5,g6,g7,g8⟩
   ·rw [g2] at h5
    simp only [List.length_nil] at h5
    have hz1:c*inf.size=0:=by omega
    have hz2:hh.toNat*inf.size=0:=by omega
    have hc0:c=0:=by rcases Nat.mul_eq_zero.1 hz1 with h | h <;> omega
    have hh0:hh.toNat=0:=by rcases Nat.mul_eq_zero.1 hz2 with h | h <;> omega
    have hl0:l.toNat=0:=by omega
    have:=key none 0 (by omega)
    simp only [rv,rSl,g1]
    rw [this,hl0,hh0]
    simp
   ·have hcap:c+hh.toNat≤cap:=by
     have:(c+hh.toNat)*inf.size≤cap*inf.size:=by rw [Nat.add_mul]; exact Nat.le_trans h5 g7
     exact Nat.le_of_mul_le_mul_right this hsz
    have:=key (some ⟨b,c*inf.size,none⟩) (cap-c) (by omega)
    simp only [rv,rSl,g1,g2,Option.getD_some]
    rw [this]
    simp only [addO_eq,mulO_eq,Nat.sub_sub]
    rcases h4 with h4 | h4
    ·subst h4
     simp [addr_add]
    ·rw [if_neg (by omega)]
     simp [addr_add]
def evCut (P:Program) (H:Heap) (e:TypeId) (id off k n c l:Nat):Option Value:=
 match infF P e,H.get id with
 | some inf,some (.row _ sz r k')=>match Nat.beq k k' && Nat.blt 0 sz && Nat.beq inf.size sz && Nat.beq off (c*sz) && Nat.ble (c*sz+n*sz) r.list.length && Nat.blt 0 l && Nat.ble l n with
  | true=>match Nat.blt l n with
   | true=>some (.slice (some ⟨id,c*sz+l*sz,some k⟩) (n-l) (c+l))
   | false=>match Nat.blt k 18446744073709551616 && Nat.blt c 18446744073709551616 && Nat.blt l 18446744073709551616 && Nat.blt sz 18446744073709551616 with
    | true=>some (.chan (some (encE id k c l sz)))
    | false=>none
  | false=>none
 | _,_=>none
theorem evCut_sound {P:Program} {B:Nat} {M:Nat→Prop} {ρ:Num} {H:Heap} {w:World} (hS:Sim P B M ρ H w) {t e:TypeId} {id off k n c l:Nat} {kd:IntKind} {v:Value}
  (h:evCut P H e id off k n c l=some v) (ht:P.underlying t=some (.slice e)):(Instr.sliceAt t (rv ρ (.slice (some ⟨id,off,some k⟩) n c)) (some (.int kd (l:Int))) none none).run P w= .ok (rv ρ v) w:=by
 unfold evCut at h
 simp only [infF_eq] at h
 split at h
 case h_2=>cases h
 rename_i inf _ sz r k' hinf hget
 split at h
 case h_2=>cases h
 rename_i hck
 simp only [Bool.and_eq_true,Nat.beq_eq,Nat.blt_eq,Nat.ble_eq] at hck
 obtain⟨⟨⟨⟨⟨⟨h1,h2⟩,h3⟩,h4⟩,h5⟩,h6⟩,h7⟩:=hck
 subst h1 h3 h4
 have key:∀ (a':Option Addr) (cap:Nat),n≤cap→(Instr.sliceAt t (.slice a' n cap) (some (.int kd (l:Int))) none none).run P w= .ok (.slice (if cap=l then a' else a'.map (·.add (l*inf.size))) (n-l) (cap-l)) w:=by
  intro a' cap hb
  have hbd:(0:Int)≤(l:Int)∧(l:Int)≤(n:Int)∧(n:Int)≤cap:=⟨by omega,by omega,by omega⟩
  have:=run_sliceBounds (P:=P) (w:=w) (lo:=some (.int kd (l:Int))) (hi:=none) (l:=(l:Int)) (h:=(n:Int)) (len:=n) rfl rfl hbd (fun _=>trivial) true
  simp only [Instr.sliceAt,Instr.slice,Sem.run_bind,run_underlying ht,Result.andThen_ok,this,run_sizeOf' hinf,Sem.run_pure,Int.toNat_natCast]
 rcases hS.obj id _ hget with ⟨g1,g2⟩ | ⟨b,cap,cur,g1,g2,g3,g4,g5,g6,g7,g8⟩
 ·rw [g2] at h5
  simp only [List.length_nil] at h5
  have:n*inf.size=0:=by omega
  rcases Nat.mul_eq_zero.1 this with h | h <;> omega
 ·have hcap:c+n≤cap:=by
   have:(c+n)*inf.size≤cap*inf.size:=by rw [Nat.add_mul]; exact Nat.le_trans h5 g7
   exact Nat.le_of_mul_le_mul_right this h2
  have hk:=key (some ⟨b,c*inf.size,none⟩) (cap-c) (by omega)
  have hr:rv ρ (.slice (some ⟨id,c*inf.size,some k⟩) n c)= .slice (some ⟨b,c*inf.size,none⟩) n (cap-c):=by simp only [rv,rSl,g1,g2,Option.getD_some]
  rw [hr,hk]
  split at h
  ·rename_i hlt
   rw [Nat.blt_eq] at hlt
   cases h
   rw [if_neg (by omega)]
   simp only [rv,rSl,g1,g2,Option.getD_some,Nat.sub_sub]
   simp [addr_add]
  ·rename_i hlt
   have hln:l=n:=by
    have:¬ l < n:=fun hh=>by rw [show Nat.blt l n=true by rw [Nat.blt_eq]; exact hh] at hlt; cases hlt
    omega
   split at h
   case h_2=>cases h
   rename_i hb
   simp only [Bool.and_eq_true,Nat.blt_eq] at hb
   obtain⟨⟨⟨b1,b2⟩,b3⟩,b4⟩:=hb
   cases h
   simp only [rv]
   rw [endE_enc ρ b1 b2 b3 b4]
   unfold endV
   simp only [g1,g2,Option.getD_some,hln,Nat.sub_self]
   by_cases hq:cap-c=n
   ·rw [if_pos hq,if_pos hq]
   ·rw [if_neg hq,if_neg hq]
    simp [addr_add]
def evClip (P:Program) (H:Heap) (e:TypeId) (a:Option Addr) (n c h m:Nat):Option Value:=
 match infF P e with
 | none=>none
 | some _=>match a with
  | none=>match Nat.ble h m && Nat.ble m c with
   | true=>some (.slice none h m)
   | false=>none
  | some ⟨id,off,none⟩=>match Nat.ble h m && Nat.ble m c with
   | true=>some (.slice (some ⟨id,off,none⟩) h m)
   | false=>none
  | some ⟨id,off,some k⟩=>match H.get id with
   | some (.row _ sz r k')=>match Nat.beq k k' && Nat.blt 0 sz && Nat.beq off (c*sz) && Nat.beq h n && Nat.beq m n && Nat.ble (c*sz+n*sz) r.list.length with
    | true=>some (.slice (some ⟨id,off,none⟩) n n)
    | false=>none
   | _=>none
theorem run_clip {P:Program} {t e:TypeId} {inf:TypeInfo} (ht:P.underlying t=some (.slice e)) (hinf:P.info? e=some inf) {kh km:IntKind} {n cap h m:Nat} (h1:h≤m) (h2:m≤cap) (a':Option Addr) (w:World):
  (Instr.sliceAt t (.slice a' n cap) none (some (.int kh (h:Int))) (some (.int km (m:Int)))).run P w= .ok (.slice a' h m) w:=by
 have b1:=run_sliceBound (P:=P) (k:=km) (y:=cap) (i:=(m:Int)) (code:= .slice3Acap) (by omega) (by omega) w
 have b2:=run_sliceBound (P:=P) (k:=kh) (y:=m) (i:=(h:Int)) (code:= .slice3B) (by omega) (by omega) w
 simp only [Int.toNat_natCast] at b1 b2
 simp [Instr.sliceAt,Instr.slice,Sem.run_bind,run_underlying ht,Instr.sliceBounds,b1,b2,run_sizeOf' hinf]
 cases a' with
 | none=>simp
 | some a=>
  obtain⟨b,o,sp⟩:=a
  simp [Addr.add]
theorem evClip_sound {P:Program} {B:Nat} {M:Nat→Prop} {ρ:Num} {H:Heap} {w:World} (hS:Sim P B M ρ H w) {t e:TypeId} {a:Option Addr} {n c h m:Nat} {kh km:IntKind} {v:Value}
  (hv:evClip P H e a n c h m=some v) (ht:P.underlying t=some (.slice e)):(Instr.sliceAt t (rv ρ (.slice a n c)) none (some (.int kh (h:Int))) (some (.int km (m:Int)))).run P w= .ok (rv ρ v) w:=by
 unfold evClip at hv
 simp only [infF_eq] at hv
 split at hv
 case h_1=>cases hv
 rename_i inf hinf
 split at hv
 ·split at hv
  case h_2=>cases hv
  rename_i hck
  simp only [Bool.and_eq_true,Nat.ble_eq] at hck
  cases hv
  simp only [rv]
  exact run_clip ht hinf hck.1 hck.2 _ w
 ·split at hv
  case h_2=>cases hv
  rename_i hck
  simp only [Bool.and_eq_true,Nat.ble_eq] at hck
  cases hv
  simp only [rv,rSl]
  exact run_clip ht hinf hck.1 hck.2 _ w
 ·split at hv
  case h_2=>cases hv
  rename_i sz r k' hget
  split at hv
  case h_2=>cases hv
  rename_i hck
  simp only [Bool.and_eq_true,Nat.beq_eq,Nat.blt_eq,Nat.ble_eq] at hck
  obtain⟨⟨⟨⟨⟨h1,h2⟩,h3⟩,h4⟩,h5⟩,h6⟩:=hck
  subst h1 h3 h4 h5
  cases hv
  rcases hS.obj _ _ hget with ⟨g1,g2⟩ | ⟨b,cap,cur,g1,g2,g3,g4,g5,g6,g7,g8⟩
  ·rw [g2] at h6
   simp only [List.length_nil] at h6
   have hz:m*sz=0:=by omega
   have hh:m=0:=by rcases Nat.mul_eq_zero.1 hz with q | q <;> omega
   subst hh
   simp only [rv,rSl,rAddr,g1,Option.map_none]
   exact run_clip (h:=0) (m:=0) ht hinf (Nat.le_refl _) (Nat.le_refl _) _ w
  ·have hcap:c+m≤cap:=by
    have:(c+m)*sz≤cap*sz:=by rw [Nat.add_mul]; exact Nat.le_trans h6 g7
    exact Nat.le_of_mul_le_mul_right this h2
   simp only [rv,rSl,rAddr,g1,g2,Option.getD_some,Option.map_some]
   exact run_clip ht hinf (Nat.le_refl _) (by omega) _ w
def evSliceC (P:Program) (auto:Bool) (H:Heap) (e:TypeId) (a:Option Addr) (n c:Nat) (lo hi:Option Value):Option (Value×List Prop):=
 match evSliceL P auto H e a n c lo hi with
 | some r=>some r
 | none=>match auto with
  | true=>match a,lo,hi with
   | some ⟨id,off,some k⟩,some (.int _ (.ofNat l)),none=>match evCut P H e id off k n c l with
    | some v=>some (v,[])
    | none=>none
   | _,_,_=>none
  | false=>none
theorem evSliceC_bnd {P:Program} {auto:Bool} {H:Heap} {e:TypeId} {a:Option Addr} {n c:Nat} {lo hi:Option Value} {r:Value×List Prop} {ρ:Num} (h:evSliceC P auto H e a n c lo hi=some r):lo.map (rv ρ)=lo∧hi.map (rv ρ)=hi:=by
 unfold evSliceC at h
 split at h
 ·rename_i hq; exact evSliceL_bnd hq
 ·split at h
  ·split at h
   ·simp [rv]
   ·cases h
  ·cases h
theorem evSliceC_sound {P:Program} {auto:Bool} {B:Nat} {M:Nat→Prop} {ρ:Num} {H:Heap} {w:World} (hS:Sim P B M ρ H w) {t e:TypeId} {a:Option Addr} {n c:Nat} {lo hi:Option Value} {v:Value} {ob:List Prop}
  (h:evSliceC P auto H e a n c lo hi=some (v,ob)) (hl:allP ob) (ht:P.underlying t=some (.slice e)):(Instr.sliceAt t (rv ρ (.slice a n c)) lo hi none).run P w= .ok (rv ρ v) w:=by
 unfold evSliceC at h
 split at h
 ·rename_i hq
  cases h
  exact evSliceL_sound hS hq hl ht
 ·split at h
  ·split at h
   ·split at h
    ·rename_i hv
     cases h
     exact evCut_sound hS hv ht
    ·cases h
   ·cases h
  ·cases h
def oneC (lo hi:Option Operand):Bool:=
 match lo,hi with
 | some (.const (.int _ (.ofNat l))),none=>Nat.beq l 1
 | _,_=>false
def evSliceX (P:Program) (auto one:Bool) (H:Heap) (e:TypeId) (a:Option Addr) (n c:Nat) (lo hi:Option Value):Option (Value×List Prop):=
 match one && !auto with
 | false=>evSliceC P auto H e a n c lo hi
 | true=>match a,lo,hi with
  | some ⟨id,off,some k⟩,some (.int _ (.ofNat l)),none=>match Nat.beq n 1 with
   | false=>evSliceC P auto H e a n c lo hi
   | true=>match infF P e,H.get id with
    | some inf,some (.row _ sz r k')=>match Nat.beq k k' && Nat.beq 1 sz && Nat.beq inf.size sz && Nat.beq l 1 && Nat.blt k 18446744073709551616 with
     | true=>some (.complex .f32 (id*18446744073709551616+k) c,[off=c∧c+1≤r.list.length])
     | false=>none
    | _,_=>none
  | _,_,_=>evSliceC P auto H e a n c lo hi
theorem evSliceX_bnd {P:Program} {auto one:Bool} {H:Heap} {e:TypeId} {a:Option Addr} {n c:Nat} {lo hi:Option Value} {r:Value×List Prop} {ρ:Num} (h:evSliceX P auto one H e a n c lo hi=some r):lo.map (rv ρ)=lo∧hi.map (rv ρ)=hi:=by
 unfold evSliceX at h
 split at h
 ·exact evSliceC_bnd h
 ·split at h
  ·split at h
   ·exact evSliceC_bnd h
   ·simp [rv]
  ·exact evSliceC_bnd h
theorem evSliceX_sound {P:Program} {auto one:Bool} {B:Nat} {M:Nat→Prop} {ρ:Num} {H:Heap} {w:World} (hS:Sim P B M ρ H w) {t e:TypeId} {a:Option Addr} {n c:Nat} {lo hi:Option Value} {v:Value} {ob:List Prop}
  (h:evSliceX P auto one H e a n c lo hi=some (v,ob)) (hl:allP ob) (ht:P.underlying t=some (.slice e)):(Instr.sliceAt t (rv ρ (.slice a n c)) lo hi none).run P w= .ok (rv ρ v) w:=by
 unfold evSliceX at h
 split at h
 ·exact evSliceC_sound hS h hl ht
 ·split at h
  case h_2=>exact evSliceC_sound hS h hl ht
  rename_i id off k kd l
  split at h
  ·exact evSliceC_sound hS h hl ht
  rename_i hn
  have hn:=Nat.eq_of_beq_eq_true hn
  subst hn
  simp only [infF_eq] at h
  split at h
  case h_2=>cases h
  rename_i inf e' sz r k' hinf hget
  split at h
  case h_2=>cases h
  rename_i hck
  simp only [Bool.and_eq_true,Nat.beq_eq,Nat.blt_eq] at hck
  obtain⟨⟨⟨⟨h1,h2⟩,h3⟩,h4⟩,h5⟩:=hck
  subst h1 h4
  cases h
  obtain⟨o1,o2⟩:=hl.1
  subst o1
  subst h2
  have hbd:(0:Int)≤(1:Int)∧(1:Int)≤((1:Nat):Int)∧((1:Nat):Int)≤((1:Nat):Int):=⟨by omega,by omega,by omega⟩
  have key:∀ (a':Option Addr) (cap:Nat),1≤cap→(Instr.sliceAt t (.slice a' 1 cap) (some (.int kd ((1:Nat):Int))) none none).run P w= .ok (.slice (if cap=1 then a' else a'.map (·.add (1*inf.size))) (1-1) (cap-1)) w:=by
   intro a' cap hb
   have hbd:(0:Int)≤((1:Nat):Int)∧((1:Nat):Int)≤((1:Nat):Int)∧((1:Nat):Int)≤cap:=⟨by omega,by omega,by omega⟩
   have:=run_sliceBounds (P:=P) (w:=w) (lo:=some (.int kd ((1:Nat):Int))) (hi:=none) (l:=((1:Nat):Int)) (h:=((1:Nat):Int)) (len:=1) rfl rfl hbd (fun _=>trivial) true
   simp only [Instr.sliceAt,Instr.slice,Sem.run_bind,run_underlying ht,Result.andThen_ok,this,run_sizeOf' hinf,Sem.run_pure,Int.toNat_natCast]
  rcases hS.obj id _ hget with ⟨g1,g2⟩ | ⟨b,cap,cur,g1,g2,g3,g4,g5,g6,g7,g8⟩
  ·rw [g2] at o2
   exact absurd o2 (by simp)
  ·have hcap:off+1≤cap:=by omega
   have hk:=key (some ⟨b,off,none⟩) (cap-off) (by omega)
   have hr:rv ρ (.slice (some ⟨id,off,some k⟩) 1 off)= .slice (some ⟨b,off,none⟩) 1 (cap-off):=by simp only [rv,rSl,g1,g2,Option.getD_some]
   rw [hr]
   refine hk.trans ?_
   simp only [rv,endC,(divmod_enc h5).1,(divmod_enc h5).2,endV,g1,g2,Option.getD_some,h3,Nat.mul_one,Nat.sub_self]
   by_cases hq:cap-off=1
   ·rw [if_pos hq,if_pos hq]
   ·rw [if_neg hq,if_neg hq]
    simp [addr_add]
def evSliceA (P:Program) (auto:Bool) (H:Heap) (n:Nat) (e:TypeId) (id off:Nat) (lo hi:Option Value):Option (Value×List Prop):=
 match known P H id with
 | true=>match bnd lo 0,bnd hi n,infF P e with
  | some l,some h,some inf=>match need auto (0≤l∧l≤h∧h≤n) with
   | some ob=>match Nat.beq n l.toNat with
    | true=>some (.slice (some ⟨id,off,none⟩) (h.toNat-l.toNat) (n-l.toNat),ob)
    | false=>some (.slice (some ⟨id,addO off (mulO l.toNat inf.size),none⟩) (h.toNat-l.toNat) (n-l.toNat),ob)
   | none=>none
  | _,_,_=>none
 | false=>none
theorem evSliceA_bnd {P:Program} {auto:Bool} {H:Heap} {n:Nat} {e:TypeId} {id off:Nat} {lo hi:Option Value} {r:Value×List Prop} {ρ:Num} (h:evSliceA P auto H n e id off lo hi=some r):lo.map (rv ρ)=lo∧hi.map (rv ρ)=hi:=by
 unfold evSliceA at h
 simp only [infF_eq] at h
 split at h
 case h_2=>cases h
 split at h
 case h_2=>cases h
 rename_i hlo hhi _
 exact⟨bnd_rv ρ hlo,bnd_rv ρ hhi⟩
theorem evSliceA_sound {P:Program} {auto:Bool} {B:Nat} {M:Nat→Prop} {ρ:Num} {H:Heap} {w:World} (hS:Sim P B M ρ H w) {t e:TypeId} {n id off:Nat} {lo hi:Option Value} {v:Value} {ob:List Prop}
  (h:evSliceA P auto H n e id off lo hi=some (v,ob)) (hl:allP ob) (ht:P.underlying t=some (.array n e)):(Instr.sliceAt t (rv ρ (.pointer (some ⟨id,off,none⟩))) lo hi none).run P w= .ok (rv ρ v) w:=by
 unfold evSliceA at h
 simp only [infF_eq] at h
 split at h
 case h_2=>cases h
 rename_i hkn
 split at h
 case h_2=>cases h
 rename_i l hh inf hlo hhi hinf
 split at h
 case h_2=>cases h
 rename_i ob' hneed
 have hb:=need_sound (l:=ob') hneed (by split at h <;> (cases h; exact hl))
 obtain⟨b,hb1⟩:=known_sound hS hkn
 have hrv:rv ρ (.pointer (some ⟨id,off,none⟩))= .pointer (some ⟨b,off,none⟩):=by simp [rv,rAddr,hb1]
 have hk:(Instr.sliceAt t (.pointer (some ⟨b,off,none⟩)) lo hi none).run P w= .ok (.slice (some (if n=l.toNat then ⟨b,off,none⟩ else (⟨b,off,none⟩:Addr).add (l.toNat*inf.size))) (hh.toNat-l.toNat) (n-l.toNat)) w:=by
  simp only [Instr.sliceAt,Sem.run_bind,run_underlying ht,Result.andThen_ok,run_sliceBounds (P:=P) (w:=w) hlo hhi hb (fun _=>trivial) false,run_sizeOf' hinf,Sem.run_pure,Instr.sureAddr,pure_bind]
 rw [hrv,hk]
 split at h
 ·rename_i hc
  have hc:=Nat.eq_of_beq_eq_true hc
  cases h
  rw [if_pos hc]
  simp only [rv,rSl,rAddr,hb1,Option.map_some]
 ·rename_i hc
  have hc:n≠l.toNat:=fun e=>by rw [e,Nat.beq_refl] at hc; cases hc
  cases h
  rw [if_neg hc]
  simp [rv,rSl,rAddr,hb1,addr_add]
def evUns (P:Program) (H:Heap) (s d:TypeId) (x:Value):Option Value:=
 match x with
 | .pointer (some ⟨id,off,none⟩)=>match undF P s,undF P d,H.get id with
  | some (.pointer t),some .unsafePointer,some (.cells cs _)=>match infF P t with
   | some i=>match Nat.blt 0 i.size && Nat.blt off cs.length with
    | true=>some (.pointer (some ⟨id,off,none⟩))
    | false=>none
   | none=>none
  | some .unsafePointer,some (.pointer u),some (.cells cs ty)=>match infF P u with
   | some _=>match liesAt P P.depth ty (cs.length/P.cellsOf ty) off u 1 with
    | true=>some (.pointer (some ⟨id,off,none⟩))
    | false=>none
   | none=>none
  | _,_,_=>none
 | _=>none
theorem evUns_sound {P:Program} {B:Nat} {M:Nat→Prop} {ρ:Num} {H:Heap} {w:World} (hS:Sim P B M ρ H w) {s d:TypeId} {x v:Value} (h:evUns P H s d x=some v):(convert s d (rv ρ x)).run P w= .ok (rv ρ v) w:=by
 unfold evUns at h
 simp only [undF_eq,infF_eq] at h
 split at h
 case h_2=>cases h
 rename_i id off
 split at h
 ·rename_i t cs ty hs hd hget
  split at h
  case h_2=>cases h
  rename_i i hi
  split at h
  case h_2=>cases h
  rename_i hc
  simp only [Bool.and_eq_true,Nat.blt_eq] at hc
  cases h
  obtain⟨b,hb,hw,_⟩:=hS.obj id _ hget
  simp only [rv,rAddr,hb,Option.map_some]
  exact Lib.run_to_unsafe w ⟨b,off,none⟩ hs hd hi (by omega) (e:=ty) (cells:=(rvL ρ cs).toArray.size) (by simp [World.shape?,hw]) (by simpa [rvL_eq] using hc.2)
 ·rename_i u cs ty hs hd hget
  split at h
  case h_2=>cases h
  rename_i i hi
  split at h
  case h_2=>cases h
  rename_i hc
  cases h
  obtain⟨b,hb,hw,_⟩:=hS.obj id _ hget
  simp only [rv,rAddr,hb,Option.map_some]
  exact Lib.run_from_unsafe w ⟨b,off,none⟩ hs hd hi (e:=ty) (cells:=(rvL ρ cs).toArray.size) (by simp [World.shape?,hw]) (by simpa [rvL_eq] using hc)
 ·cases h
def evConv (P:Program) (H:Heap) (s d:TypeId) (x:Value):Option Value:=
 match evUns P H s d x with
 | some v=>some v
 | none=>evBytes P H s d x
theorem evConv_sound {P:Program} {B:Nat} {M:Nat→Prop} {ρ:Num} {H:Heap} {w:World} (hS:Sim P B M ρ H w) {s d:TypeId} {x v:Value} (h:evConv P H s d x=some v):(convert s d (rv ρ x)).run P w= .ok (rv ρ v) w:=by
 unfold evConv at h
 split at h
 ·rename_i hu; cases h; exact evUns_sound hS hu
 ·exact evBytes_sound hS h
def evB2s (P:Program) (auto:Bool) (H:Heap) (s d:TypeId) (x:Value):Option (Value×List Prop):=
 match auto with
 | true=>none
 | false=>match x with
  | .slice (some ⟨j,off,some k⟩) n _=>match H.get j with
   | some (.row _ sz (.ints .u8 ns) k')=>match undF P s,undF P d with
    | some (.slice e),some .string=>match undF P e with
     | some (.int .u8)=>match Nat.beq sz 1 && Nat.beq k k' with
      | true=>some (.string ⟨⟨(ns.drop off).map fun n=>UInt8.ofNat n.toNat⟩⟩,[n=(ns.drop off).length])
      | false=>none
     | _=>none
    | _,_=>none
   | _=>none
  | _=>none
def evFF (P:Program) (auto:Bool) (s d:TypeId) (x:Value):Option (Value×List Prop):=
 match auto with
 | true=>none
 | false=>match x with
  | .float k n=>match undF P s,undF P d with
   | some _,some (.float k')=>match decide (k=k') with
    | true=>none
    | false=>some (.float k' ((floatToFloatBits k n k').getD 0),[(floatToFloatBits k n k').isSome=true])
   | _,_=>none
  | _=>none
theorem evFF_sound {P:Program} {auto:Bool} {s d:TypeId} {x v:Value} {l:List Prop} (h:evFF P auto s d x=some (v,l)) (hl:allP l) (ρ:Num) (w:World):
  (convert s d (rv ρ x)).run P w= .ok (rv ρ v) w:=by
 unfold evFF at h
 simp only [undF_eq] at h
 split at h
 ·cases h
 split at h
 case h_2=>cases h
 rename_i k n
 split at h
 case h_2=>cases h
 rename_i u k' hs hd
 split at h
 ·cases h
 cases h
 have h1:=hl.1
 cases hb:floatToFloatBits k n k' with
 | none=>rw [hb] at h1; cases h1
 | some r=>
  simp only [rv,Option.getD_some]
  exact run_convert_float_float w s d k k' n r (by rw [hs]; rfl) hd hb
theorem evB2s_sound {P:Program} {auto:Bool} {B:Nat} {M:Nat→Prop} {ρ:Num} {H:Heap} {w:World} (hS:Sim P B M ρ H w) {s d:TypeId} {x v:Value} {l:List Prop} (h:evB2s P auto H s d x=some (v,l)) (hl:allP l):
  (convert s d (rv ρ x)).run P w= .ok (rv ρ v) w:=by
 unfold evB2s at h
 simp only [undF_eq] at h
 split at h
 ·cases h
 split at h
 case h_2=>cases h
 rename_i j off k n c
 split at h
 case h_2=>cases h
 rename_i e' sz ns k' hget
 split at h
 case h_2=>cases h
 rename_i e hs hd
 split at h
 case h_2=>cases h
 rename_i he
 split at h
 case h_2=>cases h
 rename_i hc
 simp only [Bool.and_eq_true,Nat.beq_eq] at hc
 obtain⟨h1,h2⟩:=hc
 subst h1 h2
 cases h
 obtain rfl:=hl.1
 rcases hS.obj j _ hget with ⟨g1,g2⟩ | ⟨b,cap,cur,g1,g2,g3,g4,g5,g6,g7,g8⟩
 ·have hn:ns=[] :=by simpa [Row.list] using g2
  subst hn
  have:(convert s d (.slice none 0 0)).run P w= .ok (.string .empty) w:=by
   unfold convert
   simp [run_underlying hs,run_underlying hd,run_underlying he,Conv.bytesToString]
  simp only [rv,rSl,g1,List.drop_nil,List.length_nil,List.map_nil]
  exact this
 ·have e1:rvL ρ (ns.map (Value.int .u8))=ns.map (Value.int .u8):=rvL_pure _ _ (by rw [pureL_eq]; simp [pureV])
  obtain⟨fr,q1,_⟩:=g3
  have hc:=run_loadCells_list (P:=P) w ⟨b,off,none⟩ ((ns.drop off).map (Value.int .u8)) (fun i v hi=>by
   rw [addr_add]
   simp only [Row.list] at g8
   rw [e1] at g8
   rw [List.map_drop,List.getElem?_drop,← g8,List.getElem?_take] at hi
   split at hi
   ·simp only [World.cell?,q1]
    simpa using hi
   ·cases hi)
  rw [List.length_map] at hc
  simp only [rv,rSl,g1,g2,Option.getD_some]
  rw [run_convert_bytes_string w s d e _ _ _ hs he hd,run_bytesToString w _ _ _ (ns.drop off) hc,foldl_push]
  simp
def keyT:TypeDesc→Bool
 | .int _=>true
 | .string=>true
 | _=>false
def sameA (d:TypeDesc) (a b:Value):Option Bool:=
 match d with
 | .int _=>match a,b with
  | .int k x, .int k' y=>match decide (k=k') with
   | true=>some (x==y)
   | false=>none
  | _,_=>none
 | .string=>match a,b with
  | .string x, .string y=>some (x.data.toList==y.data.toList)
  | _,_=>none
 | _=>none
theorem sameA_sound {d:TypeDesc} {a b:Value} {r:Bool} (h:sameA d a b=some r) (ρ:Num):keyT d=true∧Instr.sameNow d (rv ρ a) (rv ρ b)=some r∧rv ρ a=a:=by
 unfold sameA at h
 split at h
 ·split at h
  ·rename_i k x k' y
   split at h
   ·rename_i hk
    have hk:=of_decide_eq_true hk
    subst hk
    cases h
    refine⟨rfl,?_,by simp only [rv]⟩
    simp [rv,Instr.sameNow]
   ·cases h
  ·cases h
 ·split at h
  ·cases h
   refine⟨rfl,?_,by simp only [rv]⟩
   simp only [rv,Instr.sameNow,Option.some.injEq]
   rename_i x y
   obtain⟨⟨x⟩⟩:=x
   obtain⟨⟨y⟩⟩:=y
   show ((⟨x⟩:Array UInt8)==⟨y⟩)=(x==y)
   simp
  ·cases h
 ·cases h
def findA (d:TypeDesc) (k:Value):List (Value×Value)→Option (Option Value)
 | [] =>some none
 | (k',v) ::r=>match sameA d k k' with
  | some true=>some (some v)
  | some false=>findA d k r
  | none=>none
theorem findA_sound {d:TypeDesc} {k:Value} {ρ:Num} :∀ {es:List (Value×Value)} {mes:List MapEntry} {i:Nat} {r:Option Value},findA d k es=some r→mes.map (fun e=>(e.key,e.val))=es.map (fun p=>(rv ρ p.1,rv ρ p.2))→
  match r with
  | none=>Instr.findNow d (rv ρ k) mes i=some none
  | some v=>∃ j,Instr.findNow d (rv ρ k) mes i=some (some (j,rv ρ v))
 | [],mes,i,r,h,he=>by
  cases h
  cases mes with
  | nil=>rfl
  | cons e mes=>simp at he
 | (k',v) ::es,mes,i,r,h,he=>by
  cases mes with
  | nil=>simp at he
  | cons e mes=>
   simp only [List.map_cons,List.cons.injEq,Prod.mk.injEq] at he
   obtain⟨⟨e1,e2⟩,e3⟩:=he
   simp only [findA] at h
   split at h
   ·rename_i hs
    cases h
    have:=(sameA_sound hs ρ).2.1
    exact⟨i,by simp only [Instr.findNow,e1,this,e2]⟩
   ·rename_i hs
    have h1:=(sameA_sound hs ρ).2.1
    have ih:=findA_sound (i:=i+1) h e3
    cases r with
    | none=>simp only [Instr.findNow,e1,h1]; exact ih
    | some v'=>obtain⟨j,ih⟩:=ih; exact⟨j,by simp only [Instr.findNow,e1,h1]; exact ih⟩
   ·cases h
theorem run_checkKey {P:Program} {t:TypeId} {d:TypeDesc} (hu:P.underlying t=some d) (hd:keyT d=true) (b:Bool) (v:Value) (w:World):(Instr.checkKey b 10000 t v).run P w= .ok () w:=by
 unfold Instr.checkKey
 rw [Sem.run_bind,run_underlying hu]
 cases d <;> first | (cases hd; done) | rfl
theorem gotMap {P:Program} {w:World} {b:Nat} {es:Array MapEntry} {ck:Nat} (hw:w.heap[b]? =some (.map es ck)):(getObj b).run P w= .ok (.map es ck) w:=by simp [getObj,Sem.run,hw]
def evLookup (P:Program) (H:Heap) (t:TypeId) (m k:Value) (comma:Bool):Option Value:=
 match m,undF P t with
 | .map (some id),some (.map kt e)=>match undF P kt,H.get id with
  | some d,some (.map es)=>match findA d k es,sameA d k k with
   | some (some v),some _=>some (match comma with
    | true=> .tuple ⟨[v, .bool true]⟩
    | false=>v)
   | some none,some _=>match zeroV P e with
    | some z=>some (match comma with
     | true=> .tuple ⟨[z, .bool false]⟩
     | false=>z)
    | none=>none
   | _,_=>none
  | _,_=>none
 | _,_=>none
theorem evLookup_sound {P:Program} {B:Nat} {M:Nat→Prop} {ρ:Num} {H:Heap} {w:World} (hS:Sim P B M ρ H w) {t:TypeId} {m k v:Value} {comma:Bool} (h:evLookup P H t m k comma=some v):
  (Instr.lookup t (rv ρ m) (rv ρ k) comma).run P w= .ok (rv ρ v) w:=by
 unfold evLookup at h
 simp only [undF_eq] at h
 split at h
 case h_2=>cases h
 rename_i id kt e ht
 split at h
 case h_2=>cases h
 rename_i d es hd hget
 obtain⟨b,mes,ck,hb,hw,hes,_⟩:=hS.obj id _ hget
 have main:∀ (q:Option (Nat×Value)) (x:Value),keyT d=true→Instr.findNow d (rv ρ k) mes.toList 0=some q→
   (match q with
    | some (_,v)=>v=x
    | none=>(zeroValue e).run P w= .ok x w)→(Instr.lookup t (rv ρ (.map (some id))) (rv ρ k) comma).run P w= .ok (if comma then .tuple #[x, .bool q.isSome] else x) w:=by
  intro q x hkd hf hq
  unfold Instr.lookup
  simp only [rv,hb,Sem.run_bind,run_underlying ht,Result.andThen_ok,gotMap hw,Sem.run_pure,run_checkKey hd hkd,Instr.findKey,run_underlying hd,hf]
  cases q with
  | none=>simp only at hq; simp only [Sem.run_bind,hq,Result.andThen_ok,Sem.run_pure,Option.isSome_none]
  | some p=>obtain⟨j,u⟩:=p; simp only at hq; subst hq; simp only [Sem.run_bind,Result.andThen_ok,Sem.run_pure,Option.isSome_some]
 split at h
 ·rename_i v0 r0 hf hs
  cases h
  obtain⟨j,hj⟩:=findA_sound (i:=0) hf hes
  rw [main _ _ (sameA_sound hs ρ).1 hj rfl]
  cases comma <;> simp [rv,rvA,rvL]
 ·rename_i r0 hf hs
  split at h
  case h_2=>cases h
  rename_i z hz
  cases h
  obtain⟨hz1,hz2⟩:=zeroV_sound hz
  rw [main none z (sameA_sound hs ρ).1 (findA_sound (i:=0) hf hes) (hz1 w)]
  cases comma <;> simp [rv,rvA,rvL,rv_pure ρ z hz2]
 ·cases h
def evInsert (P:Program) (H:Heap) (t:TypeId) (m k v:Value):Option Heap:=
 match m,undF P t with
 | .map (some id),some (.map kt _)=>match undF P kt,H.get id with
  | some d,some (.map es)=>match findA d k es,sameA d k k with
   | some none,some _=>some (H.set id (.map (es++[(k,v)])))
   | _,_=>none
  | _,_=>none
 | _,_=>none
theorem evInsert_sound {P:Program} {B:Nat} {M:Nat→Prop} {ρ:Num} {H H':Heap} {w:World} (hS:Sim P B M ρ H w) {t:TypeId} {m k v:Value} (h:evInsert P H t m k v=some H'):
  ∃ w',(Instr.mapUpdate t (rv ρ m) (rv ρ k) (rv ρ v)).run P w= .ok () w'∧Sim P B M ρ H' w'∧Keeps B M w w':=by
 unfold evInsert at h
 simp only [undF_eq] at h
 split at h
 case h_2=>cases h
 rename_i id kt e ht
 split at h
 case h_2=>cases h
 rename_i d es hd hget
 split at h
 case h_2=>cases h
 rename_i r0 hf hs
 cases h
 obtain⟨b,mes,ck,hb,hw,hes,hown⟩:=hS.obj id _ hget
 have hkd:=(sameA_sound hs ρ).1
 have hj:Instr.findNow d (rv ρ k) mes.toList 0=some none:=findA_sound (i:=0) hf hes
 refine⟨w.putObj b (.map (mes.push { key:=rv ρ k,val:=rv ρ v,born:=ck }) (ck+1)),?_,?_,?_⟩
 ·unfold Instr.mapUpdate
  simp only [rv,hb,Sem.run_bind,run_underlying ht,Result.andThen_ok,gotMap hw,run_checkKey hd hkd,Instr.findKey,run_underlying hd,hj,Sem.run_pure]
  simp [setObj,Sem.run,hw,World.putObj]
 ·refine hS.turn hget rfl hb ⟨b,_,_,rfl,World.putObj_heap_same (getElem?_lt_size hw),?_,hown⟩ (fun k hk=>World.putObj_heap_other hk)
  unfold mapIs at hes ⊢
  simp only [Array.toList_push,List.map_append,hes,List.map_cons,List.map_nil]
 ·refine⟨rfl,rfl,rfl,by simp [World.putObj],fun k hk hm=>World.putObj_heap_other (fun e=> ?_)⟩
  subst e
  rcases hown with h | h
  ·omega
  ·exact hm h
def nilC:Operand→Bool
 | .const v=>match v with
  | .pointer none=>true
  | .slice none _ _=>true
  | .nilIface=>true
  | _=>false
 | _=>false
def cmpB:BinOp→Bool→Option Value
 | .eql,b=>some (.bool b)
 | .neq,b=>some (.bool (!b))
 | _,_=>none
def evNil (P:Program) (H:Heap) (op:BinOp) (t:TypeId) (a b:Value):Option Value:=
 match undF P t with
 | some (.pointer _)=>match a,b with
  | .pointer (some ⟨id,_,_⟩), .pointer none=>match known P H id with
   | true=>cmpB op false
   | false=>none
  | _,_=>none
 | some (.slice _)=>match a,b with
  | .slice (some ⟨id,_,none⟩) _ _, .slice none _ _=>match known P H id with
   | true=>cmpB op false
   | false=>none
  | _,_=>none
 | some (.interface _)=>match a,b with
  | .iface _ _, .nilIface=>cmpB op false
  | _,_=>none
 | _=>none
def evSame (P:Program) (op:BinOp) (t:TypeId) (a b:Value):Option Value:=
 match a,b with
 | .pointer (some ⟨i,o,none⟩), .pointer (some ⟨j,o',none⟩)=>match Nat.beq i j && Nat.beq o o' with
  | true=>match undF P t with
   | some (.pointer e)=>match P.info? e with
    | some _=>cmpB op true
    | none=>none
   | _=>none
  | false=>none
 | _,_=>none
theorem equalIn_ptrnil {P:Program} {w:World} (D:Nat) {t e:TypeId} {a:Addr} (h:P.underlying t=some (.pointer e)):(Op.equalIn (D+1) t (.pointer (some a)) (.pointer none)).run P w= .ok false w:=by
 simp only [Op.equalIn,Sem.run_bind,run_underlying h,Result.andThen_ok]
 rfl
theorem equalIn_slicenil {P:Program} {w:World} (D:Nat) {t e:TypeId} {a:Addr} {n c n' c':Nat} (h:P.underlying t=some (.slice e)):(Op.equalIn (D+1) t (.slice (some a) n c) (.slice none n' c')).run P w= .ok false w:=by
 simp only [Op.equalIn,Sem.run_bind,run_underlying h,Result.andThen_ok]
 rfl
theorem equalIn_ifacenil {P:Program} {w:World} (D:Nat) {t t':TypeId} {v':Value} (h:(P.underlying t).map (fun d=>match d with | .interface _=>true | _=>false)=some true):(Op.equalIn (D+1) t (.iface t' v') .nilIface).run P w= .ok false w:=by
 cases hu:P.underlying t with
 | none=>rw [hu] at h; cases h
 | some d=>
  rw [hu] at h
  cases d <;> first | (cases h; done) | (simp only [Op.equalIn,Sem.run_bind,run_underlying hu,Result.andThen_ok]; rfl)
theorem equalIn_ptrsame {P:Program} {w:World} (D:Nat) {t e:TypeId} {inf:TypeInfo} {b o:Nat} (h:P.underlying t=some (.pointer e)) (hi:P.info? e=some inf):(Op.equalIn (D+1) t (.pointer (some ⟨b,o,none⟩)) (.pointer (some ⟨b,o,none⟩))).run P w= .ok true w:=by
 simp only [Op.equalIn,Sem.run_bind,run_underlying h,run_sizeOf' hi,Result.andThen_ok]
 by_cases hz:inf.size=0
 ·simp [hz]
 ·simp [hz,sameAddr]
theorem equalIn_ptrnone {P:Program} {w:World} (D:Nat) {t e:TypeId} (h:P.underlying t=some (.pointer e)):(Op.equalIn (D+1) t (.pointer none) (.pointer none)).run P w= .ok true w:=by
 simp only [Op.equalIn,Sem.run_bind,run_underlying h,Result.andThen_ok]
 rfl
theorem cmpB_sound {P:Program} {op:BinOp} {t:TypeId} {xo yo:Operand} {x y v:Value} {b:Bool} (h:cmpB op b=some v) (h1:¬ (x= .nilIface∧y= .nilIface)) (h2:¬ ((∃ a,x= .agg a)∧∃ b,y= .agg b)) (ρ:Num) (w:World)
  (he:(Op.equalIn 10000 t x y).run P w= .ok b w) (hb:∀ op',op'=BinOp.eql∨op'=BinOp.neq→binOp op' t x y=(do let r ← Op.equal t x y; pure (.bool (if op'=BinOp.eql then r else !r)))):
  (do eqGuard op t xo yo x y; binOp op t x y:Sem Value).run P w= .ok (rv ρ v) w:=by
 rw [Sem.run_bind,run_eqGuard_plain h1 h2]
 simp only [Result.andThen_ok]
 unfold cmpB at h
 split at h
 ·cases h
  rw [hb _ (.inl rfl)]
  simp only [Sem.run_bind,Op.equal,Op.maxDepth,he,Result.andThen_ok,rv]
  rfl
 ·cases h
  rw [hb _ (.inr rfl)]
  simp only [Sem.run_bind,Op.equal,Op.maxDepth,he,Result.andThen_ok,rv]
  rfl
 ·cases h
theorem evNil_sound {P:Program} {B:Nat} {M:Nat→Prop} {ρ:Num} {H:Heap} {w:World} (hS:Sim P B M ρ H w) {op:BinOp} {t:TypeId} {xo yo:Operand} {a b v:Value} (h:evNil P H op t a b=some v):
  (do eqGuard op t xo yo (rv ρ a) (rv ρ b); binOp op t (rv ρ a) (rv ρ b):Sem Value).run P w= .ok (rv ρ v) w:=by
 unfold evNil at h
 simp only [undF_eq] at h
 split at h
 ·rename_i e hu
  split at h
  case h_2=>cases h
  rename_i id off sp
  split at h
  case h_2=>cases h
  rename_i hk
  obtain⟨b,hb⟩:=known_sound hS hk
  refine cmpB_sound h (by simp [rv]) (by simp [rv]) ρ w ?_ (fun op' ho=> ?_)
  ·simp only [rv,rAddr,hb,Option.map_some]
   exact equalIn_ptrnil 9999 hu
  ·simp only [rv,rAddr,hb,Option.map_some]
   rcases ho with rfl | rfl <;> rfl
 ·rename_i e hu
  split at h
  case h_2=>cases h
  rename_i id off n c n' c'
  split at h
  case h_2=>cases h
  rename_i hk
  obtain⟨b,hb⟩:=known_sound hS hk
  refine cmpB_sound h (by simp [rv,rSl]) (by simp [rv,rSl]) ρ w ?_ (fun op' ho=> ?_)
  ·simp only [rv,rSl,rAddr,hb,Option.map_some]
   exact equalIn_slicenil 9999 hu
  ·simp only [rv,rSl,rAddr,hb,Option.map_some]
   rcases ho with rfl | rfl <;> rfl
 ·rename_i e hu
  split at h
  case h_2=>cases h
  rename_i t' v'
  refine cmpB_sound h (by simp [rv]) (by simp [rv]) ρ w ?_ (fun op' ho=> ?_)
  ·simp only [rv]
   exact equalIn_ifacenil 9999 (by rw [hu]; rfl)
  ·simp only [rv]
   rcases ho with rfl | rfl <;> rfl
 ·cases h
theorem evSame_sound {P:Program} (ρ:Num) (w:World) {op:BinOp} {t:TypeId} {xo yo:Operand} {a b v:Value} (h:evSame P op t a b=some v):
  (do eqGuard op t xo yo (rv ρ a) (rv ρ b); binOp op t (rv ρ a) (rv ρ b):Sem Value).run P w= .ok (rv ρ v) w:=by
 unfold evSame at h
 simp only [undF_eq] at h
 split at h
 case h_2=>cases h
 rename_i i o j o'
 split at h
 case h_2=>cases h
 rename_i hq
 simp only [Bool.and_eq_true,Nat.beq_eq] at hq
 obtain⟨rfl,rfl⟩:=hq
 split at h
 case h_2=>cases h
 rename_i e hu
 split at h
 case h_2=>cases h
 rename_i inf hi
 refine cmpB_sound h (by simp [rv]) (by simp [rv]) ρ w ?_ (fun op' ho=> ?_)
 ·cases hb:ρ i with
  | none=>
   simp only [rv,rAddr,hb,Option.map_none]
   exact equalIn_ptrnone 9999 hu
  | some b=>
   simp only [rv,rAddr,hb,Option.map_some]
   exact equalIn_ptrsame 9999 hu hi
 ·simp only [rv]
  rcases ho with rfl | rfl <;> rfl
def evOp (P:Program) (auto:Bool) (ev:Operand→Option Value) (o:Oper) (H:Heap) (n:Nat) (ds:List Bool):Option R:=
 match o.op with
 | .move x=>mkR H ds (ev x)
 | .assign x=>mkR H ds (ev x)
 | .alloc t=>match zeroV P t with
  | some z=>some ⟨.pointer (some ⟨n,0,none⟩),(n, .cells z.cells.toList t) ::H,[],ds⟩
  | none=>none
 | .box t x=>match ev x with
  | some v=>some ⟨.pointer (some ⟨n,0,none⟩),(n, .cells v.cells.toList t) ::H,[],ds⟩
  | none=>none
 | .build t ps=>match evParts ev ps.toList with
  | some l=>mkR H ds (evBuild P t l)
  | none=>none
 | .buildSlice t len ps=>match evParts ev ps.toList with
  | some l=>match evBuildSlice P t len l with
   | some (e,cs)=>some ⟨.slice (some ⟨n,0,none⟩) len len,(n, .cells cs e) ::H,[],ds⟩
   | none=>none
  | none=>none
 | .load t x=>match ev x with
  | some v=>mkR2 H ds (evLoad P auto H t v)
  | none=>none
 | .store t x y=>match ev x,ev y with
  | some a,some v=>match evStoreI P auto H t a v with
   | some (H',l)=>some ⟨undef,H',l,ds⟩
   | none=>match evStore P H t a v with
    | some H'=>some ⟨undef,H',[],ds⟩
    | none=>none
  | _,_=>none
 | .nilCheck x=>match ev x with
  | some (.pointer (some ⟨id,off,sp⟩))=>match known P H id with
   | true=>some ⟨.pointer (some ⟨id,off,sp⟩),H,[],ds⟩
   | false=>none
  | some (.func (.func f) a b)=>some ⟨.func (.func f) a b,H,[],ds⟩
  | some (.func (.yield f) a b)=>some ⟨.func (.yield f) a b,H,[],ds⟩
  | _=>none
 | .binOp op t x y _=>match ev x,ev y with
  | some a,some b=>match nilC y with
   | true=>match evNil P H op t a b with
    | some v=>mkR H ds (some v)
    | none=>mkR2 H ds (evBin P auto op t x y a b)
   | false=>match evSame P op t a b with
    | some v=>mkR H ds (some v)
    | none=>mkR2 H ds (evBin P auto op t x y a b)
  | _,_=>none
 | .unOp op _ x=>match ev x with
  | some a=>match pureV a with
   | true=>mkR H ds (pureOnly (pureRun P (Op.unary op a)))
   | false=>none
  | none=>none
 | .convert s d x=>match ev x with
  | some a=>match pureV a with
   | true=>match evFF P auto s d a with
    | some (v,l)=>some ⟨v,H,l,ds⟩
    | none=>mkR H ds (pureOnly (pureRun P (convert s d a)))
   | false=>match evB2s P auto H s d a with
    | some (v,l)=>some ⟨v,H,l,ds⟩
    | none=>mkR H ds (evConv P H s d a)
  | none=>none
 | .makeInterface t x=>match ev x,concreteT P t with
  | some a,true=>some ⟨.iface t a,H,[],ds⟩
  | _,_=>none
 | .makeFunc fn first cap=>match evArgs ev first.toList,evArgs ev cap.toList,isYield fn with
  | some a,some b,false=>some ⟨.func fn ⟨a⟩ ⟨b⟩,H,[],ds⟩
  | _,_,_=>none
 | .slice t x lo hi none=>match ev x,optO ev lo,optO ev hi,undF P t with
  | some (.string s),some l,some h,some .string=>mkR2 H ds (evSliceS auto s l h)
  | some (.slice a n c),some l,some h,some (.slice e)=>mkR2 H ds (evSliceX P auto (oneC lo hi) H e a n c l h)
  | some (.pointer (some ⟨id,off,none⟩)),some l,some h,some (.array len e)=>mkR2 H ds (evSliceA P auto H len e id off l h)
  | _,_,_,_=>none
 | .slice t x none (some hi) (some mx)=>match ev x,ev hi,ev mx,undF P t with
  | some (.slice a n c),some (.int _ (.ofNat h)),some (.int _ (.ofNat m)),some (.slice e)=>match auto with
   | true=>mkR H ds (evClip P H e a n c h m)
   | false=>none
  | _,_,_,_=>none
 | .makeSlice t len cap=>match ev len,ev cap with
  | some (.int _ l),some (.int _ c)=>match evMake P auto t l c with
   | some (e,cs,ob)=>some ⟨.slice (some ⟨n,0,none⟩) l.toNat c.toNat,(n, .cells cs e) ::H,ob,ds⟩
   | none=>none
  | _,_=>none
 | .fieldAddr s x f=>match ev x with
  | some a=>mkR H ds (evFieldAddr P H s a f)
  | none=>none
 | .field t x f=>match ev x with
  | some a=>mkR H ds (evField P t a f)
  | none=>none
 | .indexAddr t x ix=>match ev x,ev ix with
  | some a,some i=>mkR2 H ds (evIndexAddr P auto H t a i)
  | _,_=>none
 | .index t x ix=>match ev x,ev ix with
  | some a,some i=>mkR2 H ds (evIndex P auto t a i)
  | _,_=>none
 | .extract x i=>match ev x with
  | some a=>mkR H ds (evExtract a i)
  | none=>none
 | .range t x=>match ev x,undF P t with
  | some (.string s),some .string=>some ⟨.pointer (some ⟨n,0,none⟩),(n, .iter s 0) ::H,[],ds⟩
  | _,_=>none
 | .next x true=>match ev x with
  | some a=>match evNext auto H a ds with
   | some (v,H',l,ds')=>some ⟨v,H',l,ds'⟩
   | none=>none
  | none=>none
 | .makeMap _ none=>some ⟨.map (some n),(n, .map []) ::H,[],ds⟩
 | .lookup t m k comma=>match ev m,ev k with
  | some a,some b=>mkR H ds (evLookup P H t a b comma)
  | _,_=>none
 | .insert t m k x=>match ev m,ev k,ev x with
  | some a,some b,some v=>match evInsert P H t a b v with
   | some H'=>some ⟨undef,H',[],ds⟩
   | none=>none
  | _,_,_=>none
 | .mapUpdate t m k x=>match ev m,ev k,ev x with
  | some a,some b,some v=>match evInsert P H t a b v with
   | some H'=>some ⟨undef,H',[],ds⟩
   | none=>none
  | _,_,_=>none
 | _=>none
def NextVal (nx:Next) (v:Value):Prop:=nx= .value v∨(nx= .skip∧v=undef)
theorem evOp_nodefer {P:Program} {auto:Bool} {ev:Operand→Option Value} {o:Oper} {H:Heap} {n:Nat} {ds:List Bool} {r:R} (h:evOp P auto ev o H n ds=some r):∀ c,o.op≠ .defer c:=by
 intro c hc
 unfold evOp at h
 simp only [undF_eq] at h
 rw [hc] at h
 cases h
theorem mkR_some {H:Heap} {ds:List Bool} {x:Option Value} {r:R} (h:mkR H ds x=some r):x=some r.v∧r.h=H∧r.obs=[] ∧r.ds=ds:=by
 unfold mkR at h
 split at h
 ·cases h; exact⟨rfl,rfl,rfl,rfl⟩
 ·cases h
theorem mkR2_some {H:Heap} {ds:List Bool} {x:Option (Value×List Prop)} {r:R} (h:mkR2 H ds x=some r):x=some (r.v,r.obs)∧r.h=H∧r.ds=ds:=by
 unfold mkR2 at h
 split at h
 ·cases h; exact⟨rfl,rfl,rfl⟩
 ·cases h
theorem rv_undef (ρ:Num):rv ρ undef=undef:=by simp [undef,rv,rvA,rvL]
theorem evOp_sound {P:Program} {auto:Bool} {B:Nat} {M:Nat→Prop} {ρ:Num} {H:Heap} {w:World} (hS:Sim P B M ρ H w) {n:Nat} (hB:B≤w.heap.size)
  {ev:Operand→Option Value} {a:Operand→Value} {o:Oper} (hn':stillOp o.op=false→ρ n=some w.heap.size) (he:∀ x∈o.op.operands.toList,∀ y,ev x=some y→a x=rv ρ y) {ds:List Bool} {r:R} (h:evOp P auto ev o H n ds=some r) (hl:allP r.obs):
  ∃ nx w',(execOp a o).run P w= .ok nx w'∧NextVal nx (rv ρ r.v)∧Sim P B M ρ r.h w'∧Keeps B M w w'∧(stillOp o.op=true→r.h=H∧r.ds=ds∧w'=w):=by
 have still:∀ {v:Value} {s:Sem Value},execOp a o=(do pure (.value (← s)))→s.run P w= .ok (rv ρ r.v) w→r.h=H→r.ds=ds→
   ∃ nx w',(execOp a o).run P w= .ok nx w'∧NextVal nx (rv ρ r.v)∧Sim P B M ρ r.h w'∧Keeps B M w w'∧(stillOp o.op=true→r.h=H∧r.ds=ds∧w'=w):=by
  intro v s h1 h2 h3 h4
  refine⟨.value (rv ρ r.v),w,?_, .inl rfl,by rw [h3]; exact hS,Keeps.refl _ _ _,fun _=>⟨h3,h4,rfl⟩⟩
  rw [h1,Sem.run_bind,h2]
  rfl
 unfold evOp at h
 simp only [undF_eq] at h
 split at h
 ·rename_i x ho
  obtain⟨h1,h2,h3,h4⟩:=mkR_some h
  refine⟨.value (rv ρ r.v),w,?_, .inl rfl,by rw [h2]; exact hS,Keeps.refl _ _ _,fun _=>⟨h2,h4,rfl⟩⟩
  simp only [execOp,ho]
  rw [he x (by simp [ho,Op.operands]) _ h1]
  rfl
 ·rename_i x ho
  obtain⟨h1,h2,h3,h4⟩:=mkR_some h
  refine⟨.value (rv ρ r.v),w,?_, .inl rfl,by rw [h2]; exact hS,Keeps.refl _ _ _,fun _=>⟨h2,h4,rfl⟩⟩
  simp only [execOp,ho]
  rw [he x (by simp [ho,Op.operands]) _ h1]
  rfl
 ·rename_i t ho
  have hn:=hn' (by rw [ho]; rfl)
  split at h
  case h_2=>cases h
  rename_i z hz
  cases h
  obtain⟨hz1,hz2⟩:=zeroV_sound hz
  have hs:=newVar_sound hS hn hB t z
  rw [rv_pure ρ z hz2] at hs
  refine⟨.value (.pointer (some ⟨w.heap.size,0,none⟩)),_,?_, .inl (by simp [rv,rAddr,hn]),hs,Keeps.of_below ((Below.refl _ _).alloc (Nat.le_refl _) _) hB,fun hst=>by simp [ho,stillOp] at hst⟩
  simp only [execOp,ho,Instr.alloc,Sem.run_bind,hz1,Result.andThen_ok,run_newVar',Sem.run_pure]
 ·rename_i t x ho
  have hn:=hn' (by rw [ho]; rfl)
  split at h
  case h_2=>cases h
  rename_i v hv
  cases h
  have hs:=newVar_sound hS hn hB t v
  refine⟨.value (.pointer (some ⟨w.heap.size,0,none⟩)),_,?_, .inl (by simp [rv,rAddr,hn]),hs,Keeps.of_below ((Below.refl _ _).alloc (Nat.le_refl _) _) hB,fun hst=>by simp [ho,stillOp] at hst⟩
  simp only [execOp,ho,Instr.box,Sem.run_bind,run_newVar',Result.andThen_ok,Sem.run_pure]
  rw [he x (by simp [ho,Op.operands]) _ hv]
 ·rename_i t ps ho
  split at h
  case h_2=>cases h
  rename_i l hp
  obtain⟨h1,h2,h3,h4⟩:=mkR_some h
  have hps:=evParts_sound (a:=a) (ρ:=ρ) ps.toList l (fun q hq=>he q.2 (by simp only [ho,Op.operands]; exact List.mem_map.2 ⟨q,hq,rfl⟩)) hp
  have hb:=evBuild_sound h1 ρ w
  have hpe:(ps.map fun p:Nat×Operand=>(p.1,a p.2))=(l.map fun p=>(p.1,rv ρ p.2)).toArray:=by
   rw [← hps]
   apply Array.ext'
   simp
  refine still (v:=r.v) (s:=Instr.build t (ps.map fun p:Nat×Operand=>(p.1,a p.2))) (by simp only [execOp,ho]) ?_ h2 h4
  rw [hpe]
  exact hb
 ·rename_i t len ps ho
  have hn:=hn' (by rw [ho]; rfl)
  split at h
  case h_2=>cases h
  rename_i l hp
  split at h
  case h_2=>cases h
  rename_i e cs hbs
  cases h
  have hps:=evParts_sound (a:=a) (ρ:=ρ) ps.toList l (fun q hq=>he q.2 (by simp only [ho,Op.operands]; exact List.mem_map.2 ⟨q,hq,rfl⟩)) hp
  have hb:=evBuildSlice_sound hbs ρ w
  have hpe:(ps.map fun p:Nat×Operand=>(p.1,a p.2))=(l.map fun p=>(p.1,rv ρ p.2)).toArray:=by
   rw [← hps]
   apply Array.ext'
   simp
  have hs:Sim P B M ρ ((n, .cells cs e) ::H) (w.alloc (.cells (rvL ρ cs).toArray e)):=
   hS.new hn ⟨w.heap.size,rfl,heap_alloc_new _ _, .inl hB⟩
  refine⟨.value (.slice (some ⟨w.heap.size,0,none⟩) len len),_,?_, .inl (by simp [rv,rSl,rAddr,hn]),hs,Keeps.of_below ((Below.refl _ _).alloc (Nat.le_refl _) _) hB,fun hst=>by simp [ho,stillOp] at hst⟩
  simp only [execOp,ho,Sem.run_bind]
  rw [hpe,hb]
  rfl
 ·rename_i t x ho
  split at h
  case h_2=>cases h
  rename_i v hv
  obtain⟨h1,h2,h3⟩:=mkR2_some h
  refine still (v:=r.v) (s:=Instr.loadAt t (a x)) (by simp only [execOp,ho]) ?_ h2 h3
  rw [he x (by simp [ho,Op.operands]) _ hv]
  exact evLoad_sound hS h1 hl
 ·rename_i t x y ho
  split at h
  case h_2=>cases h
  rename_i p v hp hv
  split at h
  ·rename_i H' l hst
   cases h
   obtain⟨w',h1,h2,h3⟩:=evStoreI_sound hS hst hl
   refine⟨.skip,w',?_, .inr ⟨rfl,rv_undef ρ⟩,h2,h3,fun hst=>by simp [ho,stillOp] at hst⟩
   simp only [execOp,ho,Sem.run_bind]
   rw [he x (by simp [ho,Op.operands]) _ hp,he y (by simp [ho,Op.operands]) _ hv,h1]
   rfl
  split at h
  case h_2=>cases h
  rename_i H' hst
  cases h
  obtain⟨w',h1,h2,h3,_⟩:=evStore_sound hS hst
  refine⟨.skip,w',?_, .inr ⟨rfl,rv_undef ρ⟩,h2,h3,fun hst=>by simp [ho,stillOp] at hst⟩
  simp only [execOp,ho,Sem.run_bind]
  rw [he x (by simp [ho,Op.operands]) _ hp,he y (by simp [ho,Op.operands]) _ hv,h1]
  rfl
 ·rename_i x ho
  split at h
  ·rename_i id off sp hv
   split at h
   case h_2=>cases h
   rename_i hk
   cases h
   obtain⟨b,hb⟩:=known_sound hS hk
   refine⟨.value (rv ρ (.pointer (some ⟨id,off,sp⟩))),w,?_, .inl rfl,hS,Keeps.refl _ _ _,fun _=>⟨rfl,rfl,rfl⟩⟩
   simp only [execOp,ho]
   rw [he x (by simp [ho,Op.operands]) _ hv]
   simp only [rv,rAddr,hb,Option.map_some]
   rfl
  ·rename_i f c d hv
   cases h
   refine⟨.value (rv ρ (.func (.func f) c d)),w,?_, .inl rfl,hS,Keeps.refl _ _ _,fun _=>⟨rfl,rfl,rfl⟩⟩
   simp only [execOp,ho]
   rw [he x (by simp [ho,Op.operands]) _ hv]
   simp only [rv,rFn]
   rfl
  ·rename_i f c d hv
   cases h
   refine⟨.value (rv ρ (.func (.yield f) c d)),w,?_, .inl rfl,hS,Keeps.refl _ _ _,fun _=>⟨rfl,rfl,rfl⟩⟩
   simp only [execOp,ho]
   rw [he x (by simp [ho,Op.operands]) _ hv]
   simp only [rv,rFn]
   rfl
  ·cases h
 ·rename_i op t x y yt ho
  split at h
  case h_2=>cases h
  rename_i u v hu hv
  have bin:mkR2 H ds (evBin P auto op t x y u v)=some r→∃ nx w',(execOp a o).run P w= .ok nx w'∧NextVal nx (rv ρ r.v)∧Sim P B M ρ r.h w'∧Keeps B M w w'∧(stillOp o.op=true→r.h=H∧r.ds=ds∧w'=w):=fun h=>by
   obtain⟨h1,h2,h3⟩:=mkR2_some h
   refine still (v:=r.v) (s:=do eqGuard op t x y (a x) (a y); binOp op t (a x) (a y)) (by simp only [execOp,ho]) ?_ h2 h3
   rw [he x (by simp [ho,Op.operands]) _ hu,he y (by simp [ho,Op.operands]) _ hv]
   exact evBin_sound h1 hl ρ w
  split at h
  ·split at h
   ·rename_i z hz
    obtain⟨h1,h2,h3,h4⟩:=mkR_some h
    cases h1
    refine still (v:=r.v) (s:=do eqGuard op t x y (a x) (a y); binOp op t (a x) (a y)) (by simp only [execOp,ho]) ?_ h2 h4
    rw [he x (by simp [ho,Op.operands]) _ hu,he y (by simp [ho,Op.operands]) _ hv]
    exact evNil_sound hS hz
   ·exact bin h
  ·split at h
   ·rename_i z hz
    obtain⟨h1,h2,h3,h4⟩:=mkR_some h
    cases h1
    refine still (v:=r.v) (s:=do eqGuard op t x y (a x) (a y); binOp op t (a x) (a y)) (by simp only [execOp,ho]) ?_ h2 h4
    rw [he x (by simp [ho,Op.operands]) _ hu,he y (by simp [ho,Op.operands]) _ hv]
    exact evSame_sound ρ w hz
   ·exact bin h
 ·rename_i op t x ho
  split at h
  case h_2=>cases h
  rename_i u hu
  split at h
  case h_2=>cases h
  rename_i hp
  obtain⟨h1,h2,h3,h4⟩:=mkR_some h
  refine still (v:=r.v) (s:=Op.unary op (a x)) (by simp only [execOp,ho]) ?_ h2 h4
  rw [he x (by simp [ho,Op.operands]) _ hu,rv_pure ρ _ hp]
  exact pureOnly_sound h1 ρ w
 ·rename_i s d x ho
  split at h
  case h_2=>cases h
  rename_i u hu
  split at h
  ·rename_i hp
   split at h
   ·rename_i v l hff
    cases h
    refine still (v:=v) (s:=convert s d (a x)) (by simp only [execOp,ho]) ?_ rfl rfl
    rw [he x (by simp [ho,Op.operands]) _ hu]
    exact evFF_sound hff hl ρ w
   obtain⟨h1,h2,h3,h4⟩:=mkR_some h
   refine still (v:=r.v) (s:=convert s d (a x)) (by simp only [execOp,ho]) ?_ h2 h4
   rw [he x (by simp [ho,Op.operands]) _ hu,rv_pure ρ _ hp]
   exact pureOnly_sound h1 ρ w
  ·split at h
   ·rename_i v l hb2
    cases h
    refine still (v:=v) (s:=convert s d (a x)) (by simp only [execOp,ho]) ?_ rfl rfl
    rw [he x (by simp [ho,Op.operands]) _ hu]
    exact evB2s_sound hS hb2 hl
   obtain⟨h1,h2,h3,h4⟩:=mkR_some h
   refine still (v:=r.v) (s:=convert s d (a x)) (by simp only [execOp,ho]) ?_ h2 h4
   rw [he x (by simp [ho,Op.operands]) _ hu]
   exact evConv_sound hS h1
 ·rename_i t x ho
  split at h
  case h_2=>cases h
  rename_i u hu hc
  cases h
  refine still (v:=u) (s:=Instr.makeInterface t (a x)) (by simp only [execOp,ho]) ?_ rfl rfl
  rw [he x (by simp [ho,Op.operands]) _ hu]
  unfold concreteT at hc
  simp only [undF_eq] at hc
  split at hc
  ·cases hc
  ·cases hc
  ·rename_i d hni hd
   simp only [Instr.makeInterface,Sem.run_bind,run_underlying hd,Result.andThen_ok,rv]
   cases d <;> first | (exact absurd rfl (hni _)) | rfl
 ·rename_i fn first cap ho
  split at h
  case h_2=>cases h
  rename_i l1 l2 h1 h2 h3
  cases h
  have e1:=evArgs_sound (a:=a) (ρ:=ρ) first.toList l1 (fun q hq=>he q (by simp only [ho,Op.operands,Array.toList_append]; exact List.mem_append_left _ hq)) h1
  have e2:=evArgs_sound (a:=a) (ρ:=ρ) cap.toList l2 (fun q hq=>he q (by simp only [ho,Op.operands,Array.toList_append]; exact List.mem_append_right _ hq)) h2
  refine still (v:= .nilIface) (s:=Instr.makeFunc fn (first.map a) (cap.map a)) (by simp only [execOp,ho]) ?_ rfl rfl
  have f1:first.map a=⟨rvL ρ l1⟩:=by apply Array.ext'; simpa using e1
  have f2:cap.map a=⟨rvL ρ l2⟩:=by apply Array.ext'; simpa using e2
  rw [f1,f2]
  simp [Instr.makeFunc,rv,rvA,rFn_plain ρ fn h3]
 ·rename_i t x lo hi ho
  have memo:∀ (z:Operand),(some z=lo∨some z=hi)→z∈o.op.operands.toList:=by
   intro z hz
   simp only [ho,Op.operands]
   rcases hz with hz | hz <;> (rw [← hz]; simp)
  have oo:∀ (z:Option Operand) (r:Option Value),(z=lo∨z=hi)→optO ev z=some r→z.map a=r.map (rv ρ):=by
   intro z r hz hr
   cases z with
   | none=>simp only [optO] at hr; cases hr; rfl
   | some z=>
    simp only [optO] at hr
    split at hr
    ·rename_i v hv; cases hr; simp [he z (memo z hz) v hv]
    ·cases hr
  split at h
  ·rename_i s l hh hv hlo hhi hu
   obtain⟨h1,h2,h3⟩:=mkR2_some h
   refine still (v:=r.v) (s:=Instr.sliceAt t (a x) (lo.map a) (hi.map a) none) (by simp only [execOp,ho,Option.map_none]) ?_ h2 h3
   rw [he x (by simp [ho,Op.operands]) _ hv,oo lo l (.inl rfl) hlo,oo hi hh (.inr rfl) hhi]
   simp only [rv]
   exact evSliceS_sound hu h1 hl ρ w
  ·rename_i a0 n0 c0 l hh e hv hlo hhi hu
   obtain⟨h1,h2,h3⟩:=mkR2_some h
   refine still (v:=r.v) (s:=Instr.sliceAt t (a x) (lo.map a) (hi.map a) none) (by simp only [execOp,ho,Option.map_none]) ?_ h2 h3
   obtain⟨b1,b2⟩:=evSliceX_bnd (ρ:=ρ) h1
   rw [he x (by simp [ho,Op.operands]) _ hv,oo lo l (.inl rfl) hlo,oo hi hh (.inr rfl) hhi,b1,b2]
   exact evSliceX_sound hS h1 hl hu
  ·rename_i id off l hh len e hv hlo hhi hu
   obtain⟨h1,h2,h3⟩:=mkR2_some h
   refine still (v:=r.v) (s:=Instr.sliceAt t (a x) (lo.map a) (hi.map a) none) (by simp only [execOp,ho,Option.map_none]) ?_ h2 h3
   obtain⟨b1,b2⟩:=evSliceA_bnd (ρ:=ρ) h1
   rw [he x (by simp [ho,Op.operands]) _ hv,oo lo l (.inl rfl) hlo,oo hi hh (.inr rfl) hhi,b1,b2]
   exact evSliceA_sound hS h1 hl hu
  ·cases h
 ·rename_i t x hi mx ho
  split at h
  case h_2=>cases h
  rename_i a0 n0 c0 kh hh km mm e hv hhi hmx hu
  split at h
  case h_2=>cases h
  obtain⟨h1,h2,_,h3⟩:=mkR_some h
  refine still (v:=r.v) (s:=Instr.sliceAt t (a x) none (some (a hi)) (some (a mx))) (by simp only [execOp,ho,Option.map_none,Option.map_some]) ?_ h2 h3
  rw [he x (by simp [ho,Op.operands]) _ hv,he hi (by simp [ho,Op.operands]) _ hhi,he mx (by simp [ho,Op.operands]) _ hmx]
  simp only [rv]
  exact evClip_sound hS h1 hu
 ·rename_i t len cap ho
  have hn:=hn' (by rw [ho]; rfl)
  split at h
  case h_2=>cases h
  rename_i kl l kc c hlen hcap
  split at h
  case h_2=>cases h
  rename_i e cs ob hm
  cases h
  obtain⟨m1,m2⟩:=evMake_sound hm hl kl kc w
  have hs:Sim P B M ρ ((n, .cells cs e) ::H) (w.alloc (.cells cs.toArray e)):=hS.new hn ⟨w.heap.size,rfl,by rw [heap_alloc_new,m2], .inl hB⟩
  refine⟨.value (.slice (some ⟨w.heap.size,0,none⟩) l.toNat c.toNat),_,?_, .inl (by simp [rv,rSl,rAddr,hn]),hs,Keeps.of_below ((Below.refl _ _).alloc (Nat.le_refl _) _) hB,fun hst=>by simp [ho,stillOp] at hst⟩
  simp only [execOp,ho]
  rw [he len (by simp [ho,Op.operands]) _ hlen,he cap (by simp [ho,Op.operands]) _ hcap]
  simp only [rv]
  rw [Sem.run_bind,m1]
  rfl
 ·rename_i s x f ho
  split at h
  case h_2=>cases h
  rename_i u hu
  obtain⟨h1,h2,h3,h4⟩:=mkR_some h
  refine still (v:=r.v) (s:=Instr.fieldAt s (a x) f) (by simp only [execOp,ho]) ?_ h2 h4
  rw [he x (by simp [ho,Op.operands]) _ hu]
  exact evFieldAddr_sound hS h1
 ·rename_i t x f ho
  split at h
  case h_2=>cases h
  rename_i u hu
  obtain⟨h1,h2,h3,h4⟩:=mkR_some h
  refine still (v:=r.v) (s:=Instr.field t (a x) f) (by simp only [execOp,ho]) ?_ h2 h4
  rw [he x (by simp [ho,Op.operands]) _ hu]
  exact evField_sound h1 ρ w
 ·rename_i t x ix ho
  split at h
  case h_2=>cases h
  rename_i u v hu hv
  obtain⟨h1,h2,h3⟩:=mkR2_some h
  refine still (v:=r.v) (s:=Instr.indexAt t (a x) (a ix)) (by simp only [execOp,ho]) ?_ h2 h3
  rw [he x (by simp [ho,Op.operands]) _ hu,he ix (by simp [ho,Op.operands]) _ hv]
  exact evIndexAddr_sound hS h1 hl
 ·rename_i t x ix ho
  split at h
  case h_2=>cases h
  rename_i u v hu hv
  obtain⟨h1,h2,h3⟩:=mkR2_some h
  refine still (v:=r.v) (s:=Instr.index t (a x) (a ix)) (by simp only [execOp,ho]) ?_ h2 h3
  rw [he x (by simp [ho,Op.operands]) _ hu,he ix (by simp [ho,Op.operands]) _ hv]
  exact evIndex_sound h1 hl ρ w
 ·rename_i x i ho
  split at h
  case h_2=>cases h
  rename_i u hu
  obtain⟨h1,h2,h3,h4⟩:=mkR_some h
  refine still (v:=r.v) (s:=Instr.extract (a x) i) (by simp only [execOp,ho]) ?_ h2 h4
  rw [he x (by simp [ho,Op.operands]) _ hu]
  exact evExtract_sound h1 ρ w
 ·rename_i t x ho
  have hn:=hn' (by rw [ho]; rfl)
  split at h
  case h_2=>cases h
  rename_i s hv hu
  cases h
  have hs:Sim P B M ρ ((n, .iter s 0) ::H) (w.alloc (.stringIter s 0)):=
   hS.new hn ⟨w.heap.size,rfl,heap_alloc_new _ _, .inl hB⟩
  refine⟨.value (.pointer (some ⟨w.heap.size,0,none⟩)),_,?_, .inl (by simp [rv,rAddr,hn]),hs,Keeps.of_below ((Below.refl _ _).alloc (Nat.le_refl _) _) hB,fun hst=>by simp [ho,stillOp] at hst⟩
  simp only [execOp,ho,Sem.run_bind]
  rw [he x (by simp [ho,Op.operands]) _ hv]
  simp only [rv,run_range_string w t s hu]
  rfl
 ·rename_i x ho
  split at h
  case h_2=>cases h
  rename_i u hu
  split at h
  case h_2=>cases h
  rename_i v H' l ds' hnx
  cases h
  obtain⟨w',h1,h2,h3,_⟩:=evNext_sound (ty:=o.type) hS hnx hl
  refine⟨.value (rv ρ v),w',?_, .inl rfl,h2,h3,fun hst=>by simp [ho,stillOp] at hst⟩
  simp only [execOp,ho,Sem.run_bind]
  rw [he x (by simp [ho,Op.operands]) _ hu,h1]
  rfl
 ·rename_i t ho
  have hn:=hn' (by rw [ho]; rfl)
  cases h
  have hs:Sim P B M ρ ((n, .map []) ::H) (w.alloc (.map #[] 0)):=
   hS.new hn ⟨w.heap.size,#[],0,rfl,heap_alloc_new _ _,rfl, .inl hB⟩
  refine⟨.value (.map (some w.heap.size)),_,?_, .inl (by simp [rv,hn]),hs,Keeps.of_below ((Below.refl _ _).alloc (Nat.le_refl _) _) hB,fun hst=>by simp [ho,stillOp] at hst⟩
  simp only [execOp,ho,Sem.run_bind,Instr.makeMap]
  rfl
 ·rename_i t m k comma ho
  split at h
  case h_2=>cases h
  rename_i u v hu hv
  obtain⟨h1,h2,h3,h4⟩:=mkR_some h
  refine still (v:=r.v) (s:=Instr.lookup t (a m) (a k) comma) (by simp only [execOp,ho]) ?_ h2 h4
  rw [he m (by simp [ho,Op.operands]) _ hu,he k (by simp [ho,Op.operands]) _ hv]
  exact evLookup_sound hS h1
 ·rename_i t m k x ho
  split at h
  case h_2=>cases h
  rename_i u v q hu hv hq
  split at h
  case h_2=>cases h
  rename_i H' hst
  cases h
  obtain⟨w',h1,h2,h3⟩:=evInsert_sound hS hst
  refine⟨.skip,w',?_, .inr ⟨rfl,rv_undef ρ⟩,h2,h3,fun hst=>by simp [ho,stillOp] at hst⟩
  simp only [execOp,ho,Sem.run_bind]
  rw [he m (by simp [ho,Op.operands]) _ hu,he k (by simp [ho,Op.operands]) _ hv,he x (by simp [ho,Op.operands]) _ hq,h1]
  rfl
 ·rename_i t m k x ho
  split at h
  case h_2=>cases h
  rename_i u v q hu hv hq
  split at h
  case h_2=>cases h
  rename_i H' hst
  cases h
  obtain⟨w',h1,h2,h3⟩:=evInsert_sound hS hst
  refine⟨.skip,w',?_, .inr ⟨rfl,rv_undef ρ⟩,h2,h3,fun hst=>by simp [ho,stillOp] at hst⟩
  simp only [execOp,ho,Sem.run_bind]
  rw [he m (by simp [ho,Op.operands]) _ hu,he k (by simp [ho,Op.operands]) _ hv,he x (by simp [ho,Op.operands]) _ hq,h1]
  rfl
 ·cases h
end
end Go.Proofs.YtdgfhijnconaoaaGreatDoor.Ev
namespace Go.Proofs.YtdgfhijnconaoaaGreatDoor.Ev
open Go Go.RowKit Go.Shelf
noncomputable section
def Heap.del (j:Nat):Heap→Heap
 | [] =>[]
 | (i,o) ::r=>match Nat.beq i j with
  | true=>Heap.del j r
  | false=>(i,o) ::Heap.del j r
theorem Heap.get_del (j:Nat):∀ (H:Heap) (i:Nat) (o:AObj),(Heap.del j H).get i=some o→H.get i=some o∧i≠j
 | [],i,o,h=>by simp [Heap.del,Heap.get] at h
 | (k,q) ::r,i,o,h=>by
  unfold Heap.del at h
  split at h
  ·rename_i hk
   have hk:=Nat.eq_of_beq_eq_true hk
   subst hk
   obtain⟨h1,h2⟩:=Heap.get_del k r i o h
   rw [Heap.get_cons,if_neg (fun e=>h2 e.symm)]
   exact⟨h1,h2⟩
  ·rename_i hk
   rw [Heap.get_cons] at h ⊢
   split at h
   ·rename_i e; subst e
    refine⟨by rw [if_pos rfl]; exact h,fun e=> ?_⟩
    rw [e,Nat.beq_refl] at hk
    cases hk
   ·rename_i e
    obtain⟨h1,h2⟩:=Heap.get_del j r i o h
    exact⟨by rw [if_neg e]; exact h1,h2⟩
theorem Heap.get_del_of (j:Nat):∀ (H:Heap) (i:Nat),i≠j→(Heap.del j H).get i=H.get i
 | [],_,_=>rfl
 | (k,q) ::r,i,hi=>by
  unfold Heap.del
  split
  ·rename_i hk
   have hk:=Nat.eq_of_beq_eq_true hk
   subst hk
   rw [Heap.get_cons,if_neg (fun e=>hi e.symm)]
   exact Heap.get_del_of k r i hi
  ·rw [Heap.get_cons,Heap.get_cons,Heap.get_del_of j r i hi]
def toInts (k:IntKind):List Value→Option (List Int)
 | [] =>some []
 | v ::r=>match v with
  | .int k' n=>if k'=k then (match toInts k r with
   | some l=>some (n ::l)
   | none=>none) else none
  | _=>none
theorem toInts_spec {k:IntKind} :∀ {vs:List Value} {l:List Int},toInts k vs=some l→vs=l.map (Value.int k)
 | [],l,h=>by simp only [toInts] at h; cases h; rfl
 | v ::r,l,h=>by
  simp only [toInts] at h
  split at h
  ·split at h
   ·rename_i hk
    subst hk
    split at h
    ·rename_i l' hl
     cases h
     rw [toInts_spec hl]
     rfl
    ·cases h
   ·cases h
  ·cases h
def addRow (r:Row) (news:List Value):Option Row:=
 match r with
 | .vals xs=>some (.vals (xs++news))
 | .ints k ns=>match toInts k news with
  | some l=>some (.ints k (ns++l))
  | none=>none
theorem addRow_spec {r r':Row} {news:List Value} (h:addRow r news=some r'):r'.list=r.list++news:=by
 unfold addRow at h
 split at h
 ·cases h; rfl
 ·split at h
  ·rename_i l hl
   cases h
   rw [toInts_spec hl]
   simp [Row.list]
  ·cases h
def newRow' (news:List Value):Row:=
 match news with
 | .int k _ ::_=>match toInts k news with
  | some l=> .ints k l
  | none=> .vals news
 | _=> .vals news
theorem newRow'_spec (news:List Value):(newRow' news).list=news:=by
 unfold newRow'
 split
 ·split
  ·rename_i l hl; rw [Row.list]; exact (toInts_spec hl).symm
  ·rfl
 ·rfl
def byteVs:List UInt8→List Value
 | [] =>[]
 | b ::r=> .int .u8 b.toNat ::byteVs r
theorem byteVs_eq (l:List UInt8):byteVs l=l.map fun b=>Value.int .u8 b.toNat:=by
 induction l with
 | nil=>rfl
 | cons b r ih=>simp [byteVs,ih]
def newsOf (H:Heap) (sz:Nat) (x:Value):Option (Nat×List Value):=
 match x with
 | .slice (some ⟨p,o,_⟩) m _=>match cellsAt H p o (m*sz) with
  | some cs=>match cs.all one1 && Nat.blt 0 m with
   | true=>some (m,cs)
   | false=>none
  | none=>none
 | .string s=>match Nat.beq sz 1 && Nat.blt 0 s.data.toList.length with
  | true=>some (s.data.toList.length,byteVs s.data.toList)
  | false=>none
 | _=>none
def noNews (x:Value):Bool:=
 match x with
 | .slice none 0 _=>true
 | .slice (some ⟨_,_,none⟩) 0 _=>true
 | .string s=>Nat.beq s.data.toList.length 0
 | _=>false
def srcT (d:TypeDesc):Bool:=
 match d with
 | .slice _=>true
 | .string=>true
 | _=>false
def rowLen:Row→Nat
 | .vals xs=>xs.length
 | .ints _ ns=>ns.length
theorem rowLen_eq (r:Row):rowLen r=r.list.length:=by cases r <;> simp [rowLen,Row.list]
def evAppend (P:Program) (auto:Bool) (ts:List TypeId) (H:Heap) (n:Nat) (args:List Value):Option (Value×Heap×List Prop):=
 match ts,args with
 | [t,t2],[s,x] =>match undF P t,undF P t2 with
  | some (.slice e),some d=>match srcT d,infF P e with
   | true,some i=>match i.zero with
    | none=>none
    | some z=>match Nat.blt 0 i.size && Nat.beq z.cells.size i.size,newsOf H i.size x with
     | true,some (m,news)=>match s with
      | .slice none 0 0=>match need auto (m*i.bytes≤140737488355328∧m≤9223372036854775807) with
       | some l=>some (.slice (some ⟨n,0,some (n+1)⟩) m 0,(n, .row e i.size (newRow' news) (n+1)) ::H,l)
       | none=>none
      | .slice (some ⟨j,0,some k⟩) n0 0=>match H.get j with
       | some (.row e' sz r k')=>match Nat.beq e' e && Nat.beq sz i.size && Nat.beq k' k,addRow r news,need auto (n0*i.size=rowLen r∧(n0+m)*i.bytes≤140737488355328∧n0+m≤9223372036854775807) with
        | true,some r',some l=>some (.slice (some ⟨n,0,some (n+1)⟩) (n0+m) 0,(n, .row e i.size r' (n+1)) ::Heap.del j H,l)
        | _,_,_=>none
       | _=>none
      | .slice (some ⟨j,off,none⟩) n0 c=>match H.get j with
       | some (.cells cs e')=>match Nat.ble (n0+m) c with
        | true=>match Nat.ble (off+n0*i.size+news.length) cs.length with
         | true=>some (.slice (some ⟨j,off,none⟩) (n0+m) c,H.set j (.cells (cs.take (off+n0*i.size)++news++cs.drop (off+n0*i.size+news.length)) e'),[])
         | false=>none
        | false=>match Nat.ble (off+n0*i.size) cs.length,need auto ((n0+m)*i.bytes≤140737488355328∧n0+m≤9223372036854775807∧c≤n0+m) with
         | true,some l=>some (.slice (some ⟨n,0,some (n+1)⟩) (n0+m) 0,(n, .row e i.size (newRow' (((cs.drop off).take (n0*i.size))++news)) (n+1)) ::H,l)
         | _,_=>none
       | _=>none
      | _=>none
     | true,none=>match noNews x with
      | true=>match s with
       | .slice none 0 0=>some (s,H,[])
       | .slice (some ⟨_,_,none⟩) n0 c=>match Nat.ble n0 c with
        | true=>some (s,H,[])
        | false=>none
       | _=>none
      | false=>none
     | _,_=>none
   | _,_=>none
  | _,_=>none
 | _,_=>none
def isApp:Builtin→Bool
 | .append=>true
 | _=>false
theorem isApp_spec {b:Builtin} (h:isApp b=true):b= .append:=by
 cases b <;> first | rfl | (cases h; done)
theorem ORep.same {B:Nat} {M:Nat→Prop} {ρ:Num} {w w':World} {ob:Option Nat} {o:AObj} (h:ORep B M ρ w ob o) (hb:∀ b,ob=some b→w'.heap[b]? =w.heap[b]?):ORep B M ρ w' ob o:=by
 cases o with
 | row e sz r k=>
  rcases h with h | ⟨b,cap,cur,h1,h2,h3,h4⟩
  ·exact .inl h
  ·exact .inr ⟨b,cap,cur,h1,h2,h3.to (hb b h1),h4⟩
 | cells cs t=>obtain⟨b,h1,h2,h3⟩:=h; exact⟨b,h1,(hb b h1).trans h2,h3⟩
 | iter s pos=>obtain⟨b,h1,h2,h3⟩:=h; exact⟨b,h1,(hb b h1).trans h2,h3⟩
 | ints k xs=>
  rcases h with h | ⟨b,cs,t,fr,h1,h2,h3⟩
  ·exact .inl h
  ·exact .inr ⟨b,cs,t,fr,h1,(hb b h1).trans h2,h3⟩
 | loop st pn ts ps asg bd=>obtain⟨b,r,h1,h2,h3⟩:=h; exact⟨b,r,h1,(hb b h1).trans h2,h3⟩
 | defr=>obtain⟨b,h1,h2,h3⟩:=h; exact⟨b,h1,(hb b h1).trans h2,h3⟩
 | dead=>obtain⟨b,o,h1,h2,h3⟩:=h; exact⟨b,o,h1,(hb b h1).trans h2,h3⟩
 | ro xs=>
  rcases h with h | ⟨b,cs,t,fr,h1,h2,h3⟩
  ·exact .inl h
  ·exact .inr ⟨b,cs,t,fr,h1,(hb b h1).trans h2,h3⟩
 | map es=>obtain⟨b,mes,ck,h1,h2,h3⟩:=h; exact⟨b,mes,ck,h1,(hb b h1).trans h2,h3⟩
 | fam f n sz o=>
  rcases h with h | ⟨b,cs,t,fr,h1,h2,h3⟩
  ·exact .inl h
  ·exact .inr ⟨b,cs,t,fr,h1,(hb b h1).trans h2,h3⟩
theorem Sim.row {P:Program} {B:Nat} {M:Nat→Prop} {ρ:Num} {H H':Heap} {w w':World} (h:Sim P B M ρ H w) {n g cap:Nat} {e:TypeId} {sz:Nat} {r:Row} {cur:Array Value}
  (hH:∀ i o,i≠n→H'.get i=some o→H.get i=some o∧ρ i≠some g) (hn:ρ n=some g) (hc:ρ (n+1)=some cap) (hg:RowAt w' g cur e) (hB:B≤g∨M g) (hcm:cap≤maxLen) (hcs:cur.size=cap*sz)
  (hln:r.list.length≤cap*sz) (htake:cur.toList.take r.list.length=rvL ρ r.list) (hk:∀ k,k < w.heap.size→k≠g→w'.heap[k]? =w.heap[k]?):Sim P B M ρ ((n, .row e sz r (n+1)) ::H') w':=by
 refine⟨h.glob,fun i o hi=> ?_,fun i j oi oj hi hr hj hij hne=> ?_⟩
 ·rw [Heap.get_cons] at hi
  split at hi
  ·rename_i e; subst e; cases hi
   rw [hn]
   exact .inr ⟨g,cap,cur,rfl,hc,hg,hB,hcm,hcs,hln,htake⟩
  ·rename_i hni
   obtain⟨h1,h2⟩:=hH i o (fun e=>hni e.symm) hi
   have ho:=h.obj i o h1
   refine ho.same fun b hb=>hk b ?_ (fun e=>h2 (by rw [hb,e]))
   rw [hb] at ho
   exact ho.lt
 ·rw [Heap.get_cons] at hi hj
  split at hi <;> split at hj
  ·rename_i e1 e2; exact absurd (e1.symm.trans e2) hij
  ·rename_i e1 e2; subst e1
   intro e
   exact (hH j oj (fun e=>e2 e.symm) hj).2 (by rw [← e,hn])
  ·rename_i e1 e2; subst e2
   intro e
   exact (hH i oi (fun e=>e1 e.symm) hi).2 (by rw [e,hn])
  ·rename_i e1 e2
   exact h.inj i j oi oj (hH i oi (fun e=>e1 e.symm) hi).1 hr (hH j oj (fun e=>e2 e.symm) hj).1 hij hne
theorem rvL_byteVs (ρ:Num) (l:List UInt8):rvL ρ (byteVs l)=byteVs l:=rvL_pure ρ _ (by rw [pureL_eq,byteVs_eq]; simp [pureV])
theorem newsOf_sound {P:Program} {B:Nat} {M:Nat→Prop} {ρ:Num} {H:Heap} {w:World} (hS:Sim P B M ρ H w) {sz:Nat} {x:Value} {m:Nat} {news:List Value} (h:newsOf H sz x=some (m,news)) {tx:TypeId} {d:TypeDesc} (ht:P.underlying tx=some d) (hd:srcT d=true):
  Src P sz tx (rv ρ x) m (rvL ρ news) w∧0 < m:=by
 have hk:(∃ e',P.underlying tx=some (.slice e'))∨P.underlying tx=some .string:=by
  unfold srcT at hd
  split at hd
  ·exact .inl ⟨_,ht⟩
  ·exact .inr ht
  ·cases hd
 unfold newsOf at h
 split at h
 ·rename_i p o sp m' c
  split at h
  case h_2=>cases h
  rename_i cs hcs
  split at h
  case h_2=>cases h
  rename_i hc
  cases h
  simp only [Bool.and_eq_true,Nat.blt_eq,List.all_eq_true] at hc
  obtain⟨h2,h3⟩:=hc
  obtain⟨b,hb,hlen,hcell⟩:=cellsAt_sound hS hcs
  have hrv:∃ c',rv ρ (.slice (some ⟨p,o,sp⟩) m c)= .slice (some ⟨b,o,none⟩) m c':=by
   cases sp with
   | none=>exact⟨c,by simp [rv,rSl,rAddr,hb]⟩
   | some k=>exact⟨_,by simp [rv,rSl,hb]; rfl⟩
  obtain⟨c',hrv⟩:=hrv
  have hone:∀ u∈rvL ρ news,u.oneCell'=true:=fun u hu=>by
   rw [rvL_eq] at hu
   obtain⟨u0,hu0,rfl⟩:=List.mem_map.1 hu
   exact one1_rv ρ u0 (h2 u0 hu0)
  have hl:(rvL ρ news).length=m*sz:=by rw [rvL_eq,List.length_map]; exact hlen
  rw [hrv]
  have hnews:∀ j u,(rvL ρ news)[j]? =some u→w.cell? ((⟨b,o,none⟩:Addr).add j)=some u:=fun j u hj=>by rw [addr_add]; exact hcell j u hj
  exact⟨⟨hk,fun _=>rfl,run_firstCells_some w sz m _ m c' _ hl hnews,run_firstCells_some w.drew sz m _ m c' _ hl (by simpa using hnews),hl,hone⟩,h3⟩
 ·rename_i s
  split at h
  case h_2=>cases h
  rename_i hc
  simp only [Bool.and_eq_true,Nat.beq_eq,Nat.blt_eq] at hc
  obtain⟨h1,h2⟩:=hc
  subst h1
  cases h
  rw [rvL_byteVs]
  have hb:byteVs s.data.toList=byteCells s:=byteVs_eq _
  have hsz:s.data.toList.length=s.size:=by rw [Array.length_toList]; rfl
  rw [hb,hsz]
  have he:rv ρ (.string s)= .string s:=by simp [rv]
  rw [he]
  refine⟨⟨hk,fun _=>rfl,firstCells_string s w,firstCells_string s w.drew,by rw [byteCells_length,Nat.mul_one],fun u hu=> ?_⟩,by rw [← hsz]; exact h2⟩
  obtain⟨_,_,rfl⟩:=List.mem_map.1 hu
  rfl
 ·cases h
theorem run_append_room_row {P:Program} (w:World) (t tx ty e e2:TypeId) (i:TypeInfo) (ht:P.underlying t=some (.slice e)) (hi:P.info? e=some i) (g off sLen sCap:Nat) (cur:Array Value) (hg:RowAt w g cur e2)
  (x:Value) (m:Nat) (news:List Value) (hs:Src P i.size tx x m news w) (hroom:sLen+m≤sCap) (hfit:off+sLen*i.size+news.length≤cur.size):
  (Builtin.append_ #[t,tx] ty #[.slice (some ⟨g,off,none⟩) sLen sCap,x]).run P w=
   .ok (.slice (some ⟨g,off,none⟩) (sLen+m) sCap) (w.setRow g (cur.toList.take (off+sLen*i.size)++news++cur.toList.drop (off+sLen*i.size+news.length)).toArray):=by
 have hst:=run_storeCells_free P g (off+sLen*i.size) e2 news 0 cur w hg (by simpa using hfit) hs.one
 simp only [Nat.add_zero] at hst
 rcases hs.kind with ⟨e',hk⟩ | hk <;> simp [Builtin.append_,run_underlying ht,run_underlying hk,sizeOf,typeInfo,hi,hs.len,hroom,hs.cells,Addr.add_lit,hst]
theorem run_append_none {P:Program} (w:World) (t tx ty e:TypeId) (i:TypeInfo) (ht:P.underlying t=some (.slice e)) (hi:P.info? e=some i) (hk:(∃ e',P.underlying tx=some (.slice e'))∨P.underlying tx=some .string) (base:Option Addr) (sLen sCap:Nat)
  (x:Value) (hl:∀ w':World,(Builtin.lenOf x).run P w'= .ok 0 w') (hc:(Builtin.firstCells i.size 0 x).run P w= .ok #[] w) (hroom:sLen≤sCap):
  (Builtin.append_ #[t,tx] ty #[.slice base sLen sCap,x]).run P w= .ok (.slice base sLen sCap) w:=by
 rcases hk with ⟨e',hk⟩ | hk <;> cases base <;> simp [Builtin.append_,run_underlying ht,run_underlying hk,sizeOf,typeInfo,hi,hl,hroom,hc,storeCells]
theorem noNews_sound {P:Program} {ρ:Num} {w:World} {sz:Nat} {x:Value} (h:noNews x=true):(∀ w':World,(Builtin.lenOf (rv ρ x)).run P w'= .ok 0 w')∧(Builtin.firstCells sz 0 (rv ρ x)).run P w= .ok #[] w:=by
 unfold noNews at h
 split at h
 ·simp only [rv]
  exact⟨fun _=>rfl,run_firstCells_none w sz 0 0 _⟩
 ·rename_i p o c
  simp only [rv,rSl,rAddr]
  cases ρ p with
  | none=>exact⟨fun _=>rfl,run_firstCells_none w sz 0 0 _⟩
  | some b=>exact⟨fun _=>rfl,run_firstCells_some w sz 0 ⟨b,o,none⟩ 0 c [] (by simp) (fun j u hj=>by simp at hj)⟩
 ·rename_i s
  have h:=Nat.eq_of_beq_eq_true h
  have hsz:s.size=0:=by rw [← h,Array.length_toList]; rfl
  simp only [rv]
  refine⟨fun _=>by simp [Builtin.lenOf,hsz],?_⟩
  simp [Builtin.firstCells]
 ·cases h
theorem rvL_append (ρ:Num) (a b:List Value):rvL ρ (a++b)=rvL ρ a++rvL ρ b:=by simp [rvL_eq]
theorem grown_row {w:World} {e:TypeId} {z:Value} {sz need old:Nat} (hz:z.cells.size=sz) {olds news:List Value} (hl:(olds++news).length=need*sz) (hm:need≤maxLen):
  ∃ cur:Array Value,cur=olds.toArray++news.toArray++Builtin.zeroCells z.cells (grownCap w need old e-need)∧cur.size=grownCap w need old e*sz∧grownCap w need old e≤maxLen∧need≤grownCap w need old e∧cur.toList.take (olds++news).length=olds++news:=by
 have hge:=grownCap_ge w need old e
 refine⟨_,rfl,?_,grownCap_le_maxLen w need old e hm,hge,?_⟩
 ·have:olds.length+news.length=need*sz:=by rw [← List.length_append]; exact hl
  simp only [Array.size_append,List.size_toArray,size_zeroCells,hz,this,← Nat.add_mul]
  congr 1
  omega
 ·simp only [Array.toList_append]
  exact List.take_left
theorem evAppendF_sound {P:Program} {auto:Bool} {ts:List TypeId} {H H':Heap} {n:Nat} {args:List Value} {v:Value} {l:List Prop} (h:evAppend P auto ts H n args=some (v,H',l)) (hl:allP l)
  {B:Nat} {M:Nat→Prop} {F:Num→Prop} {ρ:Num} (hF:F ρ) {w:World} (hB:B≤w.heap.size) (hS:∀ ρ',F ρ'→Sim P B M ρ' H w) (hA:∀ ρ',F ρ'→rvL ρ' args=rvL ρ args) (ty:TypeId):
  ∃ v' w' bn bk,(Builtin.append_ ts.toArray ty (rvL ρ args).toArray).run P w= .ok v' w'∧Keeps B M w w'∧∀ ρ',F ρ'→ρ' n=bn→ρ' (n+1)=bk→v'=rv ρ' v∧Sim P B M ρ' H' w':=by
 unfold evAppend at h
 simp only [undF_eq,infF_eq] at h
 split at h
 case h_2=>cases h
 rename_i t t2 s x
 split at h
 case h_2=>cases h
 rename_i e d hu hu2
 split at h
 case h_2=>cases h
 rename_i i hd hi
 split at h
 ·cases h
 rename_i z hz
 have hs2:∀ ρ',F ρ'→rv ρ' s=rv ρ s∧rv ρ' x=rv ρ x:=fun ρ' ha=>by
  have:=hA ρ' ha
  simp only [rvL,List.cons.injEq,and_true] at this
  exact this
 have hkind:(∃ e',P.underlying t2=some (.slice e'))∨P.underlying t2=some .string:=by
  unfold srcT at hd
  split at hd
  ·exact .inl ⟨_,hu2⟩
  ·exact .inr hu2
  ·cases hd
 split at h
 case h_3=>cases h
 case h_2=>
  split at h
  case h_2=>cases h
  rename_i hnn
  obtain⟨q1,q2⟩:=noNews_sound (P:=P) (ρ:=ρ) (w:=w) (sz:=i.size) hnn
  have fin:∀ base sLen sCap,rv ρ s= .slice base sLen sCap→sLen≤sCap→∃ v' w' bn bk,(Builtin.append_ #[t,t2] ty (rvL ρ [s,x]).toArray).run P w= .ok v' w'∧Keeps B M w w'∧∀ ρ',F ρ'→ρ' n=bn→ρ' (n+1)=bk→v'=rv ρ' s∧Sim P B M ρ' H w':=by
   intro base sLen sCap hs hle
   refine⟨rv ρ s,w,ρ n,ρ (n+1),?_,Keeps.refl _ _ _,fun ρ' ha _ _=> ?_⟩
   ·have:=run_append_none (P:=P) w t t2 ty e i hu hi hkind base sLen sCap (rv ρ x) q1 q2 hle
    simp only [rvL,hs]
    exact this
   ·exact⟨(hs2 ρ' ha).1.symm,hS ρ' ha⟩
  split at h
  ·cases h
   exact fin none 0 0 (by simp [rv]) (Nat.le_refl _)
  ·rename_i j off n0 c
   split at h
   case h_2=>cases h
   rename_i hle
   cases h
   exact fin _ n0 c (by simp [rv,rSl]; rfl) (Nat.le_of_ble_eq_true hle)
  ·cases h
 rename_i m news hsz hnews
 simp only [Bool.and_eq_true,Nat.blt_eq,Nat.beq_eq] at hsz
 obtain⟨hpos,hzs⟩:=hsz
 obtain⟨hsrc,hm⟩:=newsOf_sound (hS ρ hF) hnews hu2 hd
 have hsame:∀ ρ',F ρ'→rvL ρ' news=rvL ρ news:=by
  intro ρ' ha
  obtain⟨hsrc',_⟩:=newsOf_sound (hS ρ' ha) hnews hu2 hd
  have h1:=hsrc'.cells
  rw [(hs2 ρ' ha).2,hsrc.cells] at h1
  injection h1 with h1
  have:=congrArg Array.toList h1
  simpa using this.symm
 have hnl:=hsrc.newsLen
 have fresh:∀ (N old:Nat) (rl:List Value) (r':Row) (H2:Heap),r'.list=rl++news→(∀ ρ',F ρ'→rvL ρ' rl=rvL ρ rl)→(rvL ρ rl++rvL ρ news).length=N*i.size→N≤maxLen→(∀ i o,H2.get i=some o→H.get i=some o)→
   (Builtin.append_ #[t,t2] ty (rvL ρ [s,x]).toArray).run P w= .ok (.slice (some ⟨w.heap.size,0,none⟩) N (grownCap w N old e)) (w.drew.alloc (.cells ((rvL ρ rl++rvL ρ news).toArray++Builtin.zeroCells z.cells (grownCap w N old e-N)) e))→
   ∃ v' w' bn bk,(Builtin.append_ #[t,t2] ty (rvL ρ [s,x]).toArray).run P w= .ok v' w'∧Keeps B M w w'∧∀ ρ',F ρ'→ρ' n=bn→ρ' (n+1)=bk→v'=rv ρ' (.slice (some ⟨n,0,some (n+1)⟩) N 0)∧Sim P B M ρ' ((n, .row e i.size r' (n+1)) ::H2) w':=by
  intro N old rl r' H2 hr' hrl hlen hN hH2 hrun
  have hcat:(rvL ρ rl++rvL ρ news).toArray=(rvL ρ rl).toArray++(rvL ρ news).toArray:=by simp
  rw [hcat] at hrun
  obtain⟨cur,hcur,hcs,hcm,hge,htake⟩:=grown_row (w:=w) (e:=e) (z:=z) (old:=old) hzs hlen hN
  rw [← hcur] at hrun
  refine⟨_,_,some w.heap.size,some (grownCap w N old e),hrun,⟨rfl,rfl,rfl,by simp,fun k hk _=>heap_alloc_old w.drew _ (by simpa using Nat.lt_of_lt_of_le hk hB)⟩,fun ρ' ha0 g1 g2=> ?_⟩
  refine⟨by simp [rv,rSl,g1,g2],Sim.row (hS ρ' ha0) (fun i o _ hi=> ?_) g1 g2 (.of (heap_alloc_new w.drew _)) (.inl hB) hcm hcs ?_ ?_ (fun k hk _=>heap_alloc_old w.drew _ (by simpa using hk))⟩
  ·refine⟨hH2 i o hi,fun e=> ?_⟩
   have:=(hS ρ' ha0).obj i o (hH2 i o hi)
   rw [e] at this
   exact absurd this.lt (Nat.lt_irrefl _)
  ·have e1:r'.list.length=N*i.size:=by rw [hr',← hlen]; simp [rvL_eq]
   rw [e1]
   exact Nat.mul_le_mul_right _ hge
  ·rw [hr',rvL_append,hrl ρ' ha0,hsame ρ' ha0]
   have e1:(rl++news).length=(rvL ρ rl++rvL ρ news).length:=by simp [rvL_eq]
   rw [e1]
   exact htake
 split at h
 ·
  split at h
  case h_2=>cases h
  rename_i l' hneed
  cases h
  obtain⟨q1,q2⟩:=need_sound hneed hl
  refine fresh m 0 [] _ H (newRow'_spec news) (fun _ _=>rfl) (by simpa [rvL] using hnl) (by unfold maxLen; omega) (fun _ _ h=>h) ?_
  have:=run_append_grow_src (P:=P) w t t2 ty e i z hu hi hz none 0 0 [] (run_firstCells_none w.drew i.size 0 0 0) (rv ρ x) m (rvL ρ news) hsrc (by omega) (by omega) (growslice_fits (by omega) (by simpa using q1))
  simp only [rvL,rv,Nat.zero_add,List.nil_append] at this ⊢
  exact this
 ·rename_i j k n0
  split at h
  case h_2=>cases h
  rename_i e' sz r k' hget
  split at h
  case h_2=>cases h
  rename_i r' l' hck hadd hneed
  cases h
  simp only [Bool.and_eq_true,Nat.beq_eq] at hck
  obtain⟨⟨c1,c2⟩,c3⟩:=hck
  subst c1 c2 c3
  obtain⟨q1,q2,q3⟩:=need_sound hneed hl
  rw [rowLen_eq] at q1
  have hr':=addRow_spec hadd
  have hdel:∀ i o,(Heap.del j H).get i=some o→H.get i=some o:=fun i o hh=>(Heap.get_del j H i o hh).1
  have hss:∀ ρ',F ρ'→rv ρ' (.slice (some ⟨j,0,some k'⟩) n0 0)=rv ρ (.slice (some ⟨j,0,some k'⟩) n0 0):=fun ρ' ha=>(hs2 ρ' ha).1
  have hob:=(hS ρ hF).obj j _ hget
  rcases hob with ⟨hj,hlist⟩ | ⟨b,cap,cur,hb,hcap,hcells,hbB,hcm,hcs,hln,htake⟩
  ·
   have hn0:n0=0:=by
    rw [hlist] at q1
    simp only [List.length_nil] at q1
    rcases Nat.eq_zero_or_pos n0 with h0 | h0
    ·exact h0
    ·have:=Nat.mul_le_mul h0 hpos
     omega
   subst hn0
   rw [Nat.zero_add] at q2 q3 ⊢
   refine fresh m 0 [] r' _ (by rw [hr',hlist]) (fun _ _=>rfl) (by simpa [rvL] using hnl) (by unfold maxLen; omega) hdel ?_
   have:=run_append_grow_src (P:=P) w t t2 ty e' i z hu hi hz none 0 0 [] (run_firstCells_none w.drew i.size 0 0 0) (rv ρ x) m (rvL ρ news) hsrc (by omega) (by omega) (growslice_fits (by omega) (by simpa using q2))
   simp only [rvL,rv,rSl,hj,Nat.zero_add,List.nil_append] at this ⊢
   exact this
  ·have hnews':∀ ρ',F ρ'→ρ' j=some b:=fun ρ' ha=>by
    have:=hss ρ' ha
    simp only [rv,rSl,hb] at this
    split at this
    ·cases this
    ·rename_i b' hb'
     simp only [Value.slice.injEq,Option.some.injEq,Addr.mk.injEq,and_true,true_and] at this
     rw [hb',this.1]
   have hrl:∀ ρ',F ρ'→rvL ρ' r.list=rvL ρ r.list:=fun ρ' ha=>by
    rcases (hS ρ' ha).obj j _ hget with ⟨h1,_⟩ | ⟨b',cap',cur',h1,_,h3,_,_,_,_,h8⟩
    ·rw [hnews' ρ' ha] at h1; cases h1
    ·rw [hnews' ρ' ha] at h1
     cases h1
     obtain⟨_,hc1,_⟩:=hcells
     obtain⟨_,hc2,_⟩:=h3
     rw [hc1] at hc2
     cases hc2
     rw [← h8,htake]
   have hs:rv ρ (.slice (some ⟨j,0,some k'⟩) n0 0)= .slice (some ⟨b,0,none⟩) n0 cap:=by simp [rv,rSl,hb,hcap]
   have hlen:(rvL ρ r.list).length=n0*i.size:=by rw [rvL_eq]; simp; exact q1.symm
   by_cases hroom:n0+m≤cap
   ·have hfit:n0*i.size+(rvL ρ news).length≤cur.size:=by rw [hnl,hcs,← Nat.add_mul]; exact Nat.mul_le_mul_right _ hroom
    have hrun:=run_append_room_row (P:=P) w t t2 ty e' e' i hu hi b 0 n0 cap cur hcells (rv ρ x) m (rvL ρ news) hsrc hroom (by simpa using hfit)
    simp only [Nat.zero_add] at hrun
    refine⟨_,w.setRow b (cur.toList.take (n0*i.size)++rvL ρ news++cur.toList.drop (n0*i.size+(rvL ρ news).length)).toArray,some b,some cap,by simp only [rvL,hs]; exact hrun,⟨rfl,rfl,rfl,by simp,fun k hk hm=>setRow_other w b k _ (fun e=>by subst e; exact hbB.elim (fun h=>by omega) hm)⟩,fun ρ' ha0 g1 g2=> ?_⟩
    have hl2:r'.list.length=n0*i.size+(rvL ρ news).length:=by rw [hr',List.length_append,← q1]; simp [rvL_eq]
    have hsize:(cur.toList.take (n0*i.size)++rvL ρ news++cur.toList.drop (n0*i.size+(rvL ρ news).length)).toArray.size=cur.size:=by
     simp only [List.size_toArray,List.length_append,List.length_take,List.length_drop,Array.length_toList]
     rw [Nat.min_eq_left (by omega)]
     omega
    refine⟨by simp [rv,rSl,g1,g2],Sim.row (hS ρ' ha0) (fun i' o _ hi'=> ?_) g1 g2 (hcells.set _ hsize) hbB hcm (hsize.trans hcs) ?_ ?_ (fun k _ hk=>setRow_other w b k _ hk)⟩
    ·obtain⟨d1,d2⟩:=Heap.get_del j H i' o hi'
     refine⟨d1,fun e=> ?_⟩
     exact (hS ρ' ha0).inj j i' _ _ hget rfl d1 (fun e=>d2 e.symm) (by rw [hnews' ρ' ha0]; simp) (by rw [hnews' ρ' ha0,e])
    ·rw [hl2,hnl,← Nat.add_mul]; exact Nat.mul_le_mul_right _ hroom
    ·rw [hl2,hr',rvL_append,hrl ρ' ha0,hsame ρ' ha0,← htake]
     rw [← q1]
     have e1:(cur.toList.take (n0*i.size)).length=n0*i.size:=by rw [List.length_take,Array.length_toList]; omega
     rw [show n0*i.size+(rvL ρ news).length=(cur.toList.take (n0*i.size)++rvL ρ news).length by rw [List.length_append,e1]]
     exact List.take_left
   ·have holds:∀ q u,(rvL ρ r.list)[q]? =some u→w.cell? ((⟨b,0,none⟩:Addr).add q)=some u:=fun q u hq=>by
     rw [rvL_eq,List.getElem?_map] at hq
     cases hxq:r.list[q]? with
     | none=>rw [hxq] at hq; cases hq
     | some u0=>
      rw [hxq] at hq
      cases hq
      rw [addr_add,Nat.zero_add]
      exact row_cell hcells htake hxq
    have hrun:=run_append_grow_src (P:=P) w t t2 ty e' i z hu hi hz (some ⟨b,0,none⟩) n0 cap (rvL ρ r.list) (run_firstCells_some w.drew i.size n0 _ n0 cap _ hlen (by simpa using holds)) (rv ρ x) m (rvL ρ news) hsrc (by omega) (by omega) (growslice_fits (by omega) q2)
    refine fresh (n0+m) cap r.list r' _ hr' hrl (by rw [List.length_append,hlen,hnl,← Nat.add_mul]) (by unfold maxLen; omega) hdel ?_
    simp only [rvL,hs]
    exact hrun
 ·rename_i j off n0 c
  split at h
  case h_2=>cases h
  rename_i cs e2 hget
  obtain⟨b,hb,hcells,hown⟩:=(hS ρ hF).obj j _ hget
  have hs:rv ρ (.slice (some ⟨j,off,none⟩) n0 c)= .slice (some ⟨b,off,none⟩) n0 c:=by simp [rv,rSl,rAddr,hb]
  have hbj:∀ ρ',F ρ'→ρ' j=some b:=fun ρ' ha=>by
   have:=(hs2 ρ' ha).1
   rw [hs] at this
   simp only [rv,rSl,rAddr] at this
   cases hq:ρ' j with
   | none=>rw [hq] at this; cases this
   | some b'=>
    rw [hq] at this
    simp only [Option.map_some,Value.slice.injEq,Option.some.injEq,Addr.mk.injEq,and_true] at this
    rw [this]
  have hcsame:∀ ρ',F ρ'→rvL ρ' cs=rvL ρ cs:=fun ρ' ha=>by
   obtain⟨b',h1,h2,_⟩:=(hS ρ' ha).obj j _ hget
   rw [hbj ρ' ha] at h1
   cases h1
   rw [hcells] at h2
   injection h2 with h2
   injection h2 with h2
   have:=congrArg Array.toList h2
   simpa using this.symm
  have hclen:(rvL ρ cs).length=cs.length:=by rw [rvL_eq,List.length_map]
  split at h
  ·rename_i hroom
   have hroom:=Nat.le_of_ble_eq_true hroom
   split at h
   case h_2=>cases h
   rename_i hfit
   have hfit:=Nat.le_of_ble_eq_true hfit
   cases h
   have hnlen:(rvL ρ news).length=news.length:=by rw [rvL_eq,List.length_map]
   have hrun:=run_append_room_row (P:=P) w t t2 ty e e2 i hu hi b off n0 c (rvL ρ cs).toArray (.of hcells) (rv ρ x) m (rvL ρ news) hsrc hroom (by simp only [List.size_toArray]; omega)
   refine⟨_,w.setRow b ((rvL ρ cs).toArray.toList.take (off+n0*i.size)++rvL ρ news++(rvL ρ cs).toArray.toList.drop (off+n0*i.size+(rvL ρ news).length)).toArray,ρ n,ρ (n+1),by simp only [rvL,hs]; exact hrun,⟨rfl,rfl,rfl,by simp,fun k hk hm=>setRow_other w b k _ (fun e=>by subst e; exact hown.elim (fun h=>by omega) hm)⟩,fun ρ' ha0 _ _=> ?_⟩
   refine⟨by simp [rv,rSl,rAddr,hbj ρ' ha0],(hS ρ' ha0).turn hget rfl (hbj ρ' ha0) ⟨b,rfl,?_,hown⟩ (fun k hk=>setRow_other w b k _ hk)⟩
   rw [setRow_heap w b _ _ e2 _ hcells]
   congr 2
   have e1:=hcsame ρ' ha0
   have e2:=hsame ρ' ha0
   rw [rvL_eq,rvL_eq] at e1 e2
   simp only [rvL_eq,List.map_append,List.map_take,List.map_drop,List.length_map]
   rw [e1,e2]
  ·rename_i hnr
   have hnr:c < n0+m:=by
    rcases Nat.lt_or_ge c (n0+m) with h' | h'
    ·exact h'
    ·rw [Nat.ble_eq_true_of_le h'] at hnr; cases hnr
   split at h
   case h_2=>cases h
   rename_i l' hle hneed
   have hle:=Nat.le_of_ble_eq_true hle
   cases h
   obtain⟨q2,q3,_⟩:=need_sound hneed hl
   have hlen:(rvL ρ ((cs.drop off).take (n0*i.size))).length=n0*i.size:=by rw [rvL_eq,List.length_map,List.length_take,List.length_drop]; omega
   have holds:∀ q u,(rvL ρ ((cs.drop off).take (n0*i.size)))[q]? =some u→w.cell? ((⟨b,off,none⟩:Addr).add q)=some u:=fun q u hq=>by
    rw [addr_add,cell_of_row w b (off+q) _ _ _ hcells]
    rw [rvL_eq,List.getElem?_map,List.getElem?_take] at hq
    split at hq
    ·rw [List.getElem?_drop] at hq
     simpa [rvL_eq] using hq
    ·cases hq
   have hrun:=run_append_grow_src (P:=P) w t t2 ty e i z hu hi hz (some ⟨b,off,none⟩) n0 c (rvL ρ ((cs.drop off).take (n0*i.size))) (run_firstCells_some w.drew i.size n0 _ n0 c _ hlen (by simpa using holds)) (rv ρ x) m (rvL ρ news) hsrc (by omega) (by omega) (growslice_fits (by omega) q2)
   refine fresh (n0+m) c ((cs.drop off).take (n0*i.size)) _ _ (newRow'_spec _) (fun ρ' ha=> ?_) (by rw [List.length_append,hlen,hnl,← Nat.add_mul]) (by unfold maxLen; omega) (fun _ _ h=>h) ?_
   ·have:=hcsame ρ' ha
    rw [rvL_eq,rvL_eq] at this
    rw [rvL_eq,rvL_eq,List.map_take,List.map_drop,this,List.map_take,List.map_drop]
   ·simp only [rvL,hs]
    exact hrun
 ·cases h
theorem evAppend_sound {P:Program} {auto:Bool} {ts:List TypeId} {H H':Heap} {n:Nat} {args:List Value} {v:Value} {l:List Prop} (h:evAppend P auto ts H n args=some (v,H',l)) (hl:allP l)
  {B:Nat} {M:Nat→Prop} {ρ:Num} {w:World} (hB:B≤w.heap.size) (hS:∀ ρ',Agree n ρ ρ'→Sim P B M ρ' H w) (hA:∀ ρ',Agree n ρ ρ'→rvL ρ' args=rvL ρ args) (ty:TypeId):
  ∃ v' w' ρ1,Agree n ρ ρ1∧(Builtin.append_ ts.toArray ty (rvL ρ args).toArray).run P w= .ok v' w'∧Keeps B M w w'∧∀ ρ',Agree (n+2) ρ1 ρ'→v'=rv ρ' v∧Sim P B M ρ' H' w':=by
 obtain⟨v',w',bn,bk,h1,h2,h3⟩:=evAppendF_sound h hl (F:=Agree n ρ) (Agree.refl _ _) hB hS hA ty
 refine⟨v',w',fun i=>if i=n then bn else if i=n+1 then bk else ρ i,fun i hi=>by simp only; rw [if_neg (by omega),if_neg (by omega)],h1,h2,fun ρ' ha=>h3 ρ' (fun i hi=> ?_) ?_ ?_⟩
 ·rw [ha i (by omega)]; simp only; rw [if_neg (by omega),if_neg (by omega)]
 ·rw [ha n (by omega)]; simp
 ·rw [ha (n+1) (by omega)]; simp
def baseOf (args:List Value):List Nat:=
 match args with
 | .slice (some ⟨j,_,_⟩) _ _ ::_=>[j]
 | _=>[]
theorem cellsAt_mono {H H2:Heap} (hs:∀ i o,H.get i=some o→H2.get i=some o) {p o k:Nat} {cs:List Value} (h:cellsAt H p o k=some cs):cellsAt H2 p o k=some cs:=by
 unfold cellsAt at h ⊢
 cases hq:H.get p with
 | none=>rw [hq] at h; cases h
 | some ob=>rw [hq] at h; rw [hs p ob hq]; exact h
theorem newsOf_mono {H H2:Heap} (hs:∀ i o,H.get i=some o→H2.get i=some o) {sz:Nat} {x:Value} {q:Nat×List Value} (h:newsOf H sz x=some q):newsOf H2 sz x=some q:=by
 unfold newsOf at h ⊢
 split at h
 ·rename_i p o sp m c
  split at h
  ·rename_i cs hcs
   simp only [cellsAt_mono hs hcs]
   exact h
  ·cases h
 ·exact h
 ·cases h
theorem newsOf_none {H:Heap} {sz:Nat} {x:Value} (h:noNews x=true):newsOf H sz x=none:=by
 unfold noNews at h
 split at h
 ·rfl
 ·simp [newsOf]
  split
  ·rw [show Nat.blt 0 0=false from rfl,Bool.and_false]
  ·rfl
 ·rename_i s
  have:=Nat.eq_of_beq_eq_true h
  simp only [newsOf,this]
  rw [show Nat.blt 0 0=false from rfl,Bool.and_false]
 ·cases h
theorem evAppend_local {P:Program} {auto:Bool} {ts:List TypeId} {H H' H2:Heap} {n:Nat} {args:List Value} {v:Value} {l:List Prop} (h:evAppend P auto ts H n args=some (v,H',l)) (hs:∀ i o,H.get i=some o→H2.get i=some o):
  ∃ H2',evAppend P auto ts H2 n args=some (v,H2',l)∧(∀ i o,(i=n∨i∈baseOf args)→H'.get i=some o→H2'.get i=some o)∧(∀ i,i≠n→i ∉ baseOf args→H2'.get i=H2.get i):=by
 have same:∀ i o,(i=n∨i∈baseOf args)→H.get i=some o→H2.get i=some o:=fun i o _=>hs i o
 unfold evAppend at h ⊢
 split at h
 case h_2=>cases h
 rename_i t t2 s x
 split at h
 case h_2=>cases h
 rename_i e d hu hu2
 try simp only [hu,hu2]
 split at h
 case h_2=>cases h
 rename_i i hd hi
 try simp only [hd,hi]
 split at h
 ·cases h
 rename_i z hz
 split at h
 case h_3=>cases h
 case h_2=>
  rename_i hsz hnews
  split at h
  case h_2=>cases h
  rename_i hnn
  try simp only [hsz,newsOf_none hnn]
  split at h
  ·cases h; exact⟨H2,rfl,same,fun _ _ _=>rfl⟩
  ·split at h
   case h_2=>cases h
   rename_i hle
   cases h
   try simp only [hle]
   exact⟨H2,rfl,same,fun _ _ _=>rfl⟩
  ·cases h
 rename_i m news hsz hnews
 try simp only [hsz,newsOf_mono hs hnews]
 have front:∀ (ob:AObj) (G G2:Heap),(∀ i o,i≠n→G.get i=some o→i∈baseOf [s,x] →G2.get i=some o)→(∀ i,i≠n→i ∉ baseOf [s,x] →G2.get i=H2.get i)→
   (∀ i o,(i=n∨i∈baseOf [s,x])→Heap.get ((n,ob) ::G) i=some o→Heap.get ((n,ob) ::G2) i=some o)∧(∀ i,i≠n→i ∉ baseOf [s,x] →Heap.get ((n,ob) ::G2) i=H2.get i):=by
  intro ob G G2 h1 h2
  refine⟨fun i o hi hg=> ?_,fun i h3 h4=> ?_⟩
  ·rw [Heap.get_cons] at hg ⊢
   split at hg
   ·rename_i e; rw [if_pos e]; exact hg
   ·rename_i e
    rw [if_neg e]
    exact h1 i o (fun e'=>e e'.symm) hg (hi.resolve_left (fun e'=>e e'.symm))
  ·rw [Heap.get_cons,if_neg (fun e=>h3 e.symm)]
   exact h2 i h3 h4
 split at h
 ·split at h
  case h_2=>cases h
  rename_i l' hneed
  cases h
  try simp only [hneed]
  exact⟨_,rfl,front _ _ _ (fun i o _ hg _=>hs i o hg) (fun _ _ _=>rfl)⟩
 ·rename_i j k n0
  split at h
  case h_2=>cases h
  rename_i e' sz r k' hget
  try simp only [hs _ _ hget]
  split at h
  case h_2=>cases h
  rename_i r' l' hck hadd hneed
  cases h
  try simp only [hck,hadd,hneed]
  refine⟨_,rfl,front _ _ _ (fun i o _ hg hb=> ?_) (fun i _ hb=> ?_)⟩
  ·simp only [baseOf,List.mem_cons,List.not_mem_nil,or_false] at hb
   exact absurd hb (Heap.get_del j H i o hg).2
  ·simp only [baseOf,List.mem_cons,List.not_mem_nil,or_false] at hb
   exact Heap.get_del_of j H2 i hb
 ·rename_i j off n0 c
  split at h
  case h_2=>cases h
  rename_i cs e2 hget
  try simp only [hs _ _ hget]
  split at h
  ·rename_i hroom
   try simp only [hroom]
   split at h
   case h_2=>cases h
   rename_i hfit
   cases h
   try simp only [hfit]
   refine⟨_,rfl,fun i o hi hg=> ?_,fun i h1 h2=> ?_⟩
   ·rw [Heap.get_set _ _ _ _ (hs _ _ hget)]
    rw [Heap.get_set _ _ _ _ hget] at hg
    split at hg
    ·rename_i e; rw [if_pos e]; exact hg
    ·rename_i e; rw [if_neg e]; exact hs i o hg
   ·rw [Heap.get_set _ _ _ _ (hs _ _ hget),if_neg (fun e=>h2 (by rw [← e]; simp [baseOf]))]
  ·rename_i hnr
   try simp only [hnr]
   split at h
   case h_2=>cases h
   rename_i l' hle hneed
   cases h
   try simp only [hle,hneed]
   exact⟨_,rfl,front _ _ _ (fun i o _ hg _=>hs i o hg) (fun _ _ _=>rfl)⟩
 ·cases h
end
end Go.Proofs.YtdgfhijnconaoaaGreatDoor.Ev
namespace Go.Proofs.YtdgfhijnconaoaaGreatDoor.Ev
open Go Go.RowKit Go.Shelf
noncomputable section
def minN (a b:Nat):Nat:=match Nat.ble a b with
 | true=>a
 | false=>b
theorem minN_eq (a b:Nat):minN a b=Nat.min a b:=by
 unfold minN
 split
 ·rename_i h; exact (Nat.min_eq_left (Nat.le_of_ble_eq_true h)).symm
 ·rename_i h
  have:b≤a:=by
   rcases Nat.lt_or_ge b a with h' | h'
   ·omega
   ·rw [Nat.ble_eq_true_of_le h'] at h; cases h
  exact (Nat.min_eq_right this).symm
def copyOf (H:Heap) (sz dn:Nat) (x:Value):Option (Nat×List Value):=
 match x with
 | .slice none n _=>match Nat.beq (minN n dn) 0 with
  | true=>some (0,[])
  | false=>none
 | .slice (some ⟨p,o,_⟩) m _=>match cellsAt H p o (minN m dn*sz) with
  | some cs=>match cs.all one1 with
   | true=>some (minN m dn,cs)
   | false=>none
  | none=>none
 | .string s=>match Nat.beq sz 1 with
  | true=>some (minN s.data.toList.length dn,byteVs (s.data.toList.take (minN s.data.toList.length dn)))
  | false=>none
 | _=>none
theorem copyOf_sound {P:Program} {B:Nat} {M:Nat→Prop} {ρ:Num} {H:Heap} {w:World} (hS:Sim P B M ρ H w) {sz dn:Nat} {x:Value} {k:Nat} {news:List Value} (h:copyOf H sz dn x=some (k,news)):
  (∃ xl,(∀ w':World,(Builtin.lenOf (rv ρ x)).run P w'= .ok xl w')∧k=Nat.min xl dn)∧(Builtin.firstCells sz k (rv ρ x)).run P w= .ok (rvL ρ news).toArray w∧(∀ u∈rvL ρ news,u.oneCell'=true)∧news.length=k*sz:=by
 unfold copyOf at h
 split at h
 ·rename_i n c
  split at h
  case h_2=>cases h
  rename_i hz
  have hz:=Nat.eq_of_beq_eq_true hz
  rw [minN_eq] at hz
  cases h
  simp only [rv]
  exact⟨⟨n,fun _=>rfl,hz.symm⟩,run_firstCells_none w sz 0 n c,fun u hu=>by simp [rvL] at hu,by simp⟩
 ·rename_i p o sp m c
  split at h
  case h_2=>cases h
  rename_i cs hcs
  split at h
  case h_2=>cases h
  rename_i hone
  cases h
  obtain⟨b,hb,hlen,hcell⟩:=cellsAt_sound hS hcs
  have hrv:∃ c',rv ρ (.slice (some ⟨p,o,sp⟩) m c)= .slice (some ⟨b,o,none⟩) m c':=by
   cases sp with
   | none=>exact⟨c,by simp [rv,rSl,rAddr,hb]⟩
   | some k=>exact⟨_,by simp [rv,rSl,hb]; rfl⟩
  obtain⟨c',hrv⟩:=hrv
  rw [hrv]
  refine⟨⟨m,fun _=>rfl,minN_eq _ _⟩,run_firstCells_some w sz _ ⟨b,o,none⟩ m c' _ (by rw [rvL_eq,List.length_map]; exact hlen) (fun j u hj=>by rw [addr_add]; exact hcell j u hj),fun u hu=> ?_,hlen⟩
  rw [rvL_eq] at hu
  obtain⟨u0,hu0,rfl⟩:=List.mem_map.1 hu
  exact one1_rv ρ u0 (List.all_eq_true.1 hone u0 hu0)
 ·rename_i s
  split at h
  case h_2=>cases h
  rename_i hz
  have hz:=Nat.eq_of_beq_eq_true hz
  subst hz
  cases h
  have hsz:s.data.toList.length=s.size:=by rw [Array.length_toList]; rfl
  simp only [rv]
  rw [rvL_byteVs,hsz,minN_eq]
  refine⟨⟨s.size,fun _=>rfl,rfl⟩,?_,fun u hu=> ?_,?_⟩
  ·simp only [Builtin.firstCells,Sem.run_pure]
   congr 1
   apply Array.ext'
   rw [Array.toList_map,ByteArray.data_extract,Array.toList_extract,byteVs_eq]
   simp [List.extract]
  ·rw [byteVs_eq] at hu
   obtain⟨_,_,rfl⟩:=List.mem_map.1 hu
   rfl
  ·rw [byteVs_eq,List.length_map,List.length_take,hsz,Nat.mul_one]
   exact Nat.min_eq_left (Nat.min_le_left _ _)
 ·cases h
def evCopy (P:Program) (ts:List TypeId) (H:Heap) (args:List Value):Option (Value×Heap):=
 match ts,args with
 | [t,_],[.slice da dn _,x] =>match undF P t with
  | some (.slice e)=>match infF P e with
   | some i=>match copyOf H i.size dn x with
    | some (k,news)=>match da with
     | none=>match news with
      | [] =>some (.int .i64 k,H)
      | _=>none
     | some ⟨j,off,none⟩=>match H.get j with
      | some (.cells cs e')=>match Nat.ble (off+news.length) cs.length with
       | true=>some (.int .i64 k,H.set j (.cells (cs.take off++news++cs.drop (off+news.length)) e'))
       | false=>none
      | _=>none
     | some ⟨_,_,some _⟩=>match news with
      | [] =>some (.int .i64 k,H)
      | _=>none
    | none=>none
   | none=>none
  | _=>none
 | _,_=>none
theorem run_copy_any {P:Program} (w w':World) (t t2 ty e:TypeId) (i:TypeInfo) (hu:P.underlying t=some (.slice e)) (hi:P.info? e=some i) (x:Value) (xl dn dc:Nat) (hl:(Builtin.lenOf x).run P w= .ok xl w) (news:List Value)
  (hc:(Builtin.firstCells i.size (Nat.min xl dn) x).run P w= .ok news.toArray w) (base:Option Addr) (hst:∀ a,base=some a→(storeCells a news).run P w= .ok () w') (hno:base=none→w'=w):
  (Builtin.copy_ #[t,t2] ty #[.slice base dn dc,x]).run P w= .ok (.int .i64 (Nat.min xl dn:Nat)) w':=by
 cases base with
 | none=>
  obtain rfl:=hno rfl
  simp [Builtin.copy_,run_underlying hu,hl,sizeOf,typeInfo,hi,hc,goInt]
 | some a=>
  have:=hst a rfl
  simp [Builtin.copy_,run_underlying hu,hl,sizeOf,typeInfo,hi,hc,goInt,this]
theorem evCopy_sound {P:Program} {ts:List TypeId} {H H':Heap} {n:Nat} {args:List Value} {v:Value} (h:evCopy P ts H args=some (v,H'))
  {B:Nat} {M:Nat→Prop} {ρ:Num} {w:World} (hS:∀ ρ',Agree n ρ ρ'→Sim P B M ρ' H w) (hA:∀ ρ',Agree n ρ ρ'→rvL ρ' args=rvL ρ args) (ty:TypeId):
  ∃ v' w' ρ1,Agree n ρ ρ1∧(Builtin.copy_ ts.toArray ty (rvL ρ args).toArray).run P w= .ok v' w'∧Keeps B M w w'∧∀ ρ',Agree n ρ1 ρ'→v'=rv ρ' v∧Sim P B M ρ' H' w':=by
 unfold evCopy at h
 simp only [undF_eq,infF_eq] at h
 split at h
 case h_2=>cases h
 rename_i t t2 da dn dc x
 split at h
 case h_2=>cases h
 rename_i e hu
 split at h
 case h_2=>cases h
 rename_i i hi
 split at h
 case h_2=>cases h
 rename_i k news hcp
 have hs2:∀ ρ',Agree n ρ ρ'→rv ρ' (.slice da dn dc)=rv ρ (.slice da dn dc)∧rv ρ' x=rv ρ x:=fun ρ' ha=>by
  have:=hA ρ' ha
  simp only [rvL,List.cons.injEq,and_true] at this
  exact this
 obtain⟨⟨xl,hl,hk⟩,hc,hone,hlen⟩:=copyOf_sound (hS ρ (Agree.refl _ _)) hcp
 rw [hk] at hc
 split at h
 ·split at h
  case h_2=>cases h
  cases h
  refine⟨.int .i64 (Nat.min xl dn:Nat),w,ρ,Agree.refl _ _,?_,Keeps.refl _ _ _,fun ρ' ha=>⟨?_,hS ρ' ha⟩⟩
  ·simp only [rvL,rv]
   exact run_copy_any w w t t2 ty e i hu hi (rv ρ x) xl dn dc (hl w) _ hc none (fun a ha=>by cases ha) (fun _=>rfl)
  ·simp only [rv,hk]
 ·rename_i j off
  split at h
  case h_2=>cases h
  rename_i cs e2 hget
  split at h
  case h_2=>cases h
  rename_i hfit
  have hfit:=Nat.le_of_ble_eq_true hfit
  cases h
  obtain⟨b,hb,hcells,hown⟩:=(hS ρ (Agree.refl _ _)).obj j _ hget
  have hs:rv ρ (.slice (some ⟨j,off,none⟩) dn dc)= .slice (some ⟨b,off,none⟩) dn dc:=by simp [rv,rSl,rAddr,hb]
  have hbj:∀ ρ',Agree n ρ ρ'→ρ' j=some b:=fun ρ' ha=>by
   have:=(hs2 ρ' ha).1
   rw [hs] at this
   simp only [rv,rSl,rAddr] at this
   cases hq:ρ' j with
   | none=>rw [hq] at this; cases this
   | some b'=>
    rw [hq] at this
    simp only [Option.map_some,Value.slice.injEq,Option.some.injEq,Addr.mk.injEq,and_true] at this
    rw [this]
  have hcsame:∀ ρ',Agree n ρ ρ'→rvL ρ' cs=rvL ρ cs:=fun ρ' ha=>by
   obtain⟨b',h1,h2,_⟩:=(hS ρ' ha).obj j _ hget
   rw [hbj ρ' ha] at h1
   cases h1
   rw [hcells] at h2
   injection h2 with h2
   injection h2 with h2
   have:=congrArg Array.toList h2
   simpa using this.symm
  have hsame:∀ ρ',Agree n ρ ρ'→rvL ρ' news=rvL ρ news:=fun ρ' ha=>by
   obtain⟨⟨xl',hl',hk'⟩,hc',_,_⟩:=copyOf_sound (hS ρ' ha) hcp
   rw [(hs2 ρ' ha).2,hk] at hc'
   rw [hc] at hc'
   injection hc' with hc'
   have:=congrArg Array.toList hc'
   simpa using this.symm
  have hnlen:(rvL ρ news).length=news.length:=by rw [rvL_eq,List.length_map]
  have hclen:(rvL ρ cs).length=cs.length:=by rw [rvL_eq,List.length_map]
  have hst:=run_storeCells_at P b off e2 (rvL ρ news) 0 (rvL ρ cs).toArray w hcells (by simp only [List.size_toArray]; omega) hone
  simp only [Nat.add_zero] at hst
  refine⟨.int .i64 (Nat.min xl dn:Nat),w.setRow b ((rvL ρ cs).toArray.toList.take off++rvL ρ news++(rvL ρ cs).toArray.toList.drop (off+(rvL ρ news).length)).toArray,ρ,Agree.refl _ _,?_,⟨rfl,rfl,rfl,by simp,fun k hk hm=>setRow_other w b k _ (fun e=>by subst e; exact hown.elim (fun h=>by omega) hm)⟩,fun ρ' ha=>⟨?_,(hS ρ' ha).turn hget rfl (hbj ρ' ha) ⟨b,rfl,?_,hown⟩ (fun k hk=>setRow_other w b k _ hk)⟩⟩
  ·simp only [rvL,hs]
   exact run_copy_any w _ t t2 ty e i hu hi (rv ρ x) xl dn dc (hl w) _ hc (some ⟨b,off,none⟩) (fun a ha=>by cases ha; exact hst) (fun h=>by cases h)
  ·simp only [rv,hk]
  ·rw [setRow_heap w b _ _ e2 _ hcells]
   congr 2
   have e1:=hcsame ρ' ha
   have e2:=hsame ρ' ha
   rw [rvL_eq,rvL_eq] at e1 e2
   simp only [rvL_eq,List.map_append,List.map_take,List.map_drop,List.length_map]
   rw [e1,e2]
 ·rename_i j off kk
  split at h
  case h_2=>cases h
  cases h
  refine⟨.int .i64 (Nat.min xl dn:Nat),w,ρ,Agree.refl _ _,?_,Keeps.refl _ _ _,fun ρ' ha=>⟨?_,hS ρ' ha⟩⟩
  ·simp only [rvL,rv,rSl]
   cases hq:ρ j with
   | none=>exact run_copy_any w w t t2 ty e i hu hi (rv ρ x) xl dn 0 (hl w) _ hc none (fun a ha=>by cases ha) (fun _=>rfl)
   | some b=>exact run_copy_any w w t t2 ty e i hu hi (rv ρ x) xl dn _ (hl w) _ hc (some ⟨b,off,none⟩) (fun a ha=>by cases ha; rfl) (fun h=>by cases h)
  ·simp only [rv,hk]
def toBytes:List Value→Option (List UInt8)
 | [] =>some []
 | v ::r=>match v with
  | .int .u8 (.ofNat n)=>match Nat.blt n 256,toBytes r with
   | true,some l=>some (UInt8.ofNat n ::l)
   | _,_=>none
  | _=>none
theorem toBytes_spec:∀ {l:List Value} {bs:List UInt8},toBytes l=some bs→l=byteVs bs
 | [],bs,h=>by simp only [toBytes] at h; cases h; rfl
 | v ::r,bs,h=>by
  simp only [toBytes] at h
  split at h
  ·rename_i n
   split at h
   ·rename_i l hn hl
    cases h
    rw [toBytes_spec hl,byteVs]
    have hn:n < 256:=by simpa [Nat.blt_eq] using hn
    have:(UInt8.ofNat n).toNat=n:=by simp [UInt8.toNat_ofNat']; omega
    rw [this]
    rfl
   ·cases h
  ·cases h
def byteRow (H:Heap) (j n:Nat):Option (TypeId×List UInt8):=
 match H.get j with
 | some (.cells cs e)=>match Nat.ble n cs.length,toBytes (cs.take n) with
  | true,some l=>some (e,l)
  | _,_=>none
 | some (.row e _ (.ints .u8 ns) _)=>match Nat.ble n ns.length,toBytes ((ns.take n).map (.int .u8)) with
  | true,some l=>some (e,l)
  | _,_=>none
 | some (.row e _ (.vals xs) _)=>match Nat.ble n xs.length,toBytes (xs.take n) with
  | true,some l=>some (e,l)
  | _,_=>none
 | _=>none
def evUnsStr (P:Program) (ts:List TypeId) (H:Heap) (args:List Value):Option (Value×Heap):=
 match ts,args with
 | [t,_],[.pointer p, .int .i64 (.ofNat n)] =>match n with
  | 0=>some (.string ⟨⟨[]⟩⟩,H)
  | n+1=>match p with
   | some ⟨j,0,none⟩=>match byteRow H j (n+1),undF P t with
    | some (e,l),some (.pointer e2)=>match Nat.beq e e2 && Nat.beq (P.cellsOf e) 1 && Nat.ble (n+1) 9223372036854775807 with
     | true=>some (.string ⟨⟨l⟩⟩,H.set j .dead)
     | false=>none
    | _,_=>none
   | _=>none
 | _,_=>none
theorem byteRow_sound {P:Program} {B:Nat} {M:Nat→Prop} {ρ:Num} {H:Heap} {w:World} (hS:Sim P B M ρ H w) {j n:Nat} {e:TypeId} {l:List UInt8} (h:byteRow H j (n+1)=some (e,l)):
  ∃ b cur o0,ρ j=some b∧H.get j=some o0∧o0.rw=true∧RowAt w b cur e∧(B≤b∨M b)∧n+1≤cur.size∧l.length=n+1∧∀ k x,l[k]? =some x→w.cell? ((⟨b,0,none⟩:Addr).add k)=some (.int .u8 x.toNat):=by
 have fin:∀ (xs:List Value),toBytes (xs.take (n+1))=some l→n+1≤xs.length→l.length=n+1∧∀ (k:Nat) (x:UInt8),l[k]? =some x→xs[k]? =some (Value.int .u8 x.toNat):=by
  intro xs hb hle
  have h1:=toBytes_spec hb
  have h2:=congrArg List.length h1
  rw [byteVs_eq,List.length_map,List.length_take] at h2
  refine⟨by omega,fun k x hk=> ?_⟩
  have h3:(xs.take (n+1))[k]? =some (.int .u8 x.toNat):=by rw [h1,byteVs_eq,List.getElem?_map,hk]; rfl
  have hlt:k < l.length:=(List.getElem?_eq_some_iff.1 hk).1
  rwa [List.getElem?_take,if_pos (by omega)] at h3
 unfold byteRow at h
 split at h
 ·rename_i cs e' hget
  split at h
  case h_2=>cases h
  rename_i hle hb
  have hle:=Nat.le_of_ble_eq_true hle
  cases h
  obtain⟨b,hb1,hcells,hown⟩:=hS.obj j _ hget
  obtain⟨h1,h2⟩:=fin cs hb hle
  refine⟨b,_,_,hb1,hget,rfl, .of hcells,hown,by simp [rvL_eq]; omega,h1,fun k x hk=> ?_⟩
  rw [addr_add,Nat.zero_add,cell_of_row w b k _ _ _ hcells]
  simp [rvL_eq,h2 k x hk,rv]
 ·rename_i e' sz ns kk hget
  split at h
  case h_2=>cases h
  rename_i hle hb
  have hle:=Nat.le_of_ble_eq_true hle
  cases h
  obtain⟨b,cap,cur,hb1,_,hcells,hB,_,hcs,hln,htake⟩:=(hS.obj j _ hget).row_some (by simp only [Row.list,List.length_map]; omega)
  rw [List.map_take] at hb
  obtain⟨h1,h2⟩:=fin (ns.map (.int .u8)) hb (by simpa using hle)
  simp only [Row.list,List.length_map] at hln
  refine⟨b,cur,_,hb1,hget,rfl,hcells,hB,by omega,h1,fun k x hk=> ?_⟩
  rw [addr_add,Nat.zero_add]
  have:=row_cell hcells htake (i:=k) (v:= .int .u8 x.toNat) (h2 k x hk)
  simpa [rv] using this
 ·rename_i e' sz xs kk hget
  split at h
  case h_2=>cases h
  rename_i hle hb
  have hle:=Nat.le_of_ble_eq_true hle
  cases h
  obtain⟨b,cap,cur,hb1,_,hcells,hB,_,hcs,hln,htake⟩:=(hS.obj j _ hget).row_some (by simp only [Row.list]; omega)
  obtain⟨h1,h2⟩:=fin xs hb hle
  simp only [Row.list] at hln
  refine⟨b,cur,_,hb1,hget,rfl,hcells,hB,by omega,h1,fun k x hk=> ?_⟩
  rw [addr_add,Nat.zero_add]
  have:=row_cell hcells htake (i:=k) (v:= .int .u8 x.toNat) (h2 k x hk)
  simpa [rv] using this
 ·cases h
theorem freeze_other (w:World) (b k n:Nat) (h:k≠b):(w.freeze ⟨b,0,none⟩ n).heap[k]? =w.heap[k]? :=by
 unfold World.freeze
 split
 ·rfl
 ·simp only [Array.getElem?_modify]
  rw [if_neg (fun e=>h e.symm)]
theorem freeze_there (w:World) (b n:Nat) {o:Obj} (h:w.heap[b]? =some o):∃ o',(w.freeze ⟨b,0,none⟩ n).heap[b]? =some o':=by
 unfold World.freeze
 split
 ·exact⟨o,h⟩
 ·simp only [Array.getElem?_modify,if_pos]
  rw [h]
  exact⟨_,rfl⟩
theorem evUnsStr_sound {P:Program} {ts:List TypeId} {H H':Heap} {n:Nat} {args:List Value} {v:Value} (h:evUnsStr P ts H args=some (v,H'))
  {B:Nat} {M:Nat→Prop} {ρ:Num} {w:World} (hS:∀ ρ',Agree n ρ ρ'→Sim P B M ρ' H w) (hA:∀ ρ',Agree n ρ ρ'→rvL ρ' args=rvL ρ args) (ty:TypeId):
  ∃ v' w' ρ1,Agree n ρ ρ1∧(Builtin.unsafeString_ ts.toArray ty (rvL ρ args).toArray).run P w= .ok v' w'∧Keeps B M w w'∧∀ ρ',Agree n ρ1 ρ'→v'=rv ρ' v∧Sim P B M ρ' H' w':=by
 unfold evUnsStr at h
 simp only [undF_eq] at h
 split at h
 case h_2=>cases h
 rename_i t t2 p m
 split at h
 ·cases h
  refine⟨.string .empty,w,ρ,Agree.refl _ _,?_,Keeps.refl _ _ _,fun ρ' ha=>⟨by simp [rv]; rfl,hS ρ' ha⟩⟩
  simp only [rvL,rv]
  cases p with
  | none=>simp only [rv]; exact Lib.run_unsafeString_none w t t2 ty none
  | some a=>simp only [rv]; exact Lib.run_unsafeString_none w t t2 ty _
 ·rename_i m
  split at h
  case h_2=>cases h
  rename_i j
  split at h
  case h_2=>cases h
  rename_i e l e2 hrow hu
  split at h
  case h_2=>cases h
  rename_i hck
  simp only [Bool.and_eq_true,Nat.beq_eq,Nat.ble_eq] at hck
  obtain⟨⟨c1,c2⟩,c3⟩:=hck
  subst c1
  cases h
  obtain⟨b,cur,o0,hb,hget,hrw,hcells,hown,hsz,hlen,hcell⟩:=byteRow_sound (hS ρ (Agree.refl _ _)) hrow
  have hbj:∀ ρ',Agree n ρ ρ'→ρ' j=some b:=fun ρ' ha=>by
   have:=hA ρ' ha
   simp only [rvL,rv,rAddr,hb,Option.map_some,List.cons.injEq,and_true,Value.pointer.injEq] at this
   cases hq:ρ' j with
   | none=>rw [hq] at this; cases this
   | some b'=>
    rw [hq] at this
    simp only [Option.map_some,Option.some.injEq,Addr.mk.injEq,and_true] at this
    rw [this]
  obtain⟨fr,hcells,_⟩:=hcells
  have hrun:=Lib.run_unsafeString_row (P:=P) w t t2 ty e hu c2 b cur.size (by simp [World.shape?,hcells]) l (by intro e; rw [e] at hlen; cases hlen) (by omega) (by omega) hcell
  refine⟨.string ⟨l.toArray⟩,w.freeze ⟨b,0,none⟩ l.length,ρ,Agree.refl _ _,?_,⟨?_,?_,?_,?_,fun k hk hm=>freeze_other w b k _ (fun e=>by subst e; exact hown.elim (fun h=>by omega) hm)⟩,fun ρ' ha=>⟨by simp [rv],(hS ρ' ha).turn hget hrw (hbj ρ' ha) ?_ (fun k hk=>freeze_other w b k _ hk)⟩⟩
  ·simp only [rvL,rv,rAddr,hb,Option.map_some]
   have e3:(Int.ofNat (m+1))=((l.length:Nat):Int):=by rw [hlen]; rfl
   rw [e3]
   exact hrun
  ·unfold World.freeze; split <;> rfl
  ·unfold World.freeze; split <;> rfl
  ·unfold World.freeze; split <;> rfl
  ·unfold World.freeze; split <;> simp
  ·obtain⟨o',ho'⟩:=freeze_there w b l.length hcells
   exact⟨b,o',rfl,ho',hown⟩
def evLook (H:Heap) (b:Builtin) (args:List Value):Option Value:=
 match b,args with
 | .unsafeSliceData,[x] =>match x with
  | .slice none _ _=>some (.pointer none)
  | .slice (some ⟨j,off,none⟩) _ c=>match Nat.beq c 0,H.get j with
   | false,some (.cells _ _)=>some (.pointer (some ⟨j,off,none⟩))
   | _,_=>none
  | .slice (some ⟨j,0,some k⟩) n 0=>match H.get j with
   | some (.row _ sz r k')=>match Nat.beq k k' && Nat.blt 0 n && Nat.blt 0 sz && Nat.ble (n*sz) r.list.length with
    | true=>some (.pointer (some ⟨j,0,none⟩))
    | false=>none
   | _=>none
  | _=>none
 | _,_=>none
theorem evLook_sound {P:Program} {B:Nat} {M:Nat→Prop} {ρ:Num} {H:Heap} {w:World} (hS:Sim P B M ρ H w) {b:Builtin} {args:List Value} {v:Value} (h:evLook H b args=some v) (ats:Array TypeId) (ty:TypeId) (cs:Array Bool):
  (builtin b ats ty cs ⟨rvL ρ args⟩).run P w= .ok (.value (rv ρ v)) w:=by
 unfold evLook at h
 split at h
 case h_2=>cases h
 rename_i x
 have red:∀ y,(builtin .unsafeSliceData ats ty cs #[y]).run P w=((Builtin.unsafeSliceData_ ats ty #[y]).run P w).andThen fun a w'=> .ok (.value a) w':=by
  intro y
  simp only [builtin,Sem.run_bind,Sem.run_pure]
 have some_:∀ (a:Addr) (n c:Nat),c≠0→(Builtin.unsafeSliceData_ ats ty #[.slice (some a) n c]).run P w= .ok (.pointer (some a)) w:=by
  intro a n c hc
  have hdef:Builtin.unsafeSliceData_ ats ty #[.slice (some a) n c] =
    (do
     if c≠0 then pure (.pointer (some a))
     else if (← viewAt a.block).isSome then pure (.pointer (some a))
     else pure (.pointer (some ⟨← newObj (.view a (← elemOf ty)),0,none⟩))):=rfl
  rw [hdef]
  simp [hc]
 split at h
 ·cases h
  simp only [rvL,rv]
  rw [red]
  rfl
 ·rename_i j off n c
  split at h
  case h_2=>cases h
  rename_i hc hget
  have hc:c≠0:=fun e=>by rw [e] at hc; cases hc
  cases h
  obtain⟨g,hg,_⟩:=hS.obj j _ hget
  simp only [rvL,rv,rSl,rAddr,hg,Option.map_some]
  rw [red,some_ _ _ _ hc]
  rfl
 ·rename_i j k n
  split at h
  case h_2=>cases h
  rename_i e sz r k' hget
  split at h
  case h_2=>cases h
  rename_i hck
  simp only [Bool.and_eq_true,Nat.beq_eq,Nat.blt_eq,Nat.ble_eq] at hck
  obtain⟨⟨⟨c1,c2⟩,c3⟩,c4⟩:=hck
  subst c1
  cases h
  have hpos:0 < n*sz:=Nat.mul_pos c2 c3
  obtain⟨g,cap,cur,h1,h2,_,_,_,_,h7,_⟩:=(hS.obj j _ hget).row_some (by omega)
  have hcap:cap≠0:=fun e=>by rw [e,Nat.zero_mul] at h7; omega
  simp only [rvL,rv,rSl,rAddr,h1,h2,Option.map_some,Option.getD_some,Nat.sub_zero]
  rw [red,some_ _ _ _ hcap]
  rfl
 ·cases h
def intsIn:AObj→Option (IntKind×List Int)
 | .ints k xs=>some (k,xs)
 | .row _ sz (.ints k ns) _=>match Nat.beq sz 1 with
  | true=>some (k,ns)
  | false=>none
 | _=>none
theorem intsIn_sound {B:Nat} {M:Nat→Prop} {ρ:Num} {w:World} {ob:Option Nat} {o:AObj} {k:IntKind} {xs:List Int} (ho:ORep B M ρ w ob o) (h:intsIn o=some (k,xs)) (hx:0 < xs.length):
  ∃ b,ob=some b∧∀ i,i < xs.length→w.cell? ⟨b,i,none⟩=some (.int k (xs.getD i 0)):=by
 unfold intsIn at h
 split at h
 ·cases h
  rcases ho with ⟨_,h2⟩ | ⟨b,cs,t,fr,h1,h2,h3⟩
  ·rw [h2] at hx; simp at hx
  ·exact⟨b,h1,fun i hi=>by simp only [World.cell?,h2]; exact h3 i hi⟩
 ·split at h
  case h_2=>cases h
  cases h
  rcases ho with ⟨_,h2⟩ | ⟨b,cap,cur,h1,h2,h3,h4,h5,h6,h7,h8⟩
  ·have:xs=[] :=by simpa [Row.list] using h2
   rw [this] at hx; simp at hx
  ·refine⟨b,h1,fun i hi=> ?_⟩
   have:=row_cell (ρ:=ρ) (i:=i) (v:= .int k (xs.getD i 0)) h3 h8 (by simp [Row.list,List.getD,hi])
   simpa [rv] using this
 ·cases h
def evCopyI (P:Program) (auto:Bool) (ts:List TypeId) (H:Heap) (args:List Value):Option (Value×Heap×List Prop):=
 match auto with
 | true=>none
 | false=>match ts,args with
  | [t,_],[.slice (some ⟨j,off,some _⟩) dn _, .slice (some ⟨p,o,_⟩) m _] =>match undF P t with
   | some (.slice e)=>match infF P e with
    | some i=>match H.get j,H.get p with
     | some (.row e' sz (.ints kd ns) k'),some src=>match intsIn src with
      | some (kd',xs)=>match decide (kd'=kd) && Nat.beq i.size 1 && Nat.beq sz 1 with
       | true=>some (.int .i64 m,H.set j (.row e' sz (.ints kd (ns.take off++(xs.drop o).take m++ns.drop (off+m))) k'),[0 < m∧m≤dn∧off+m≤ns.length∧o+m≤xs.length])
       | false=>none
      | none=>none
     | _,_=>none
    | none=>none
   | _=>none
  | _,_=>none
theorem rSl_at {ρ:Num} {j off:Nat} {sp:Option Nat} {n c b:Nat} (h:ρ j=some b):∃ c',rv ρ (.slice (some ⟨j,off,sp⟩) n c)= .slice (some ⟨b,off,none⟩) n c':=by
 cases sp with
 | none=>exact⟨c,by simp [rv,rSl,rAddr,h]⟩
 | some k=>exact⟨_,by simp [rv,rSl,h]; rfl⟩
theorem evCopyI_sound {P:Program} {auto:Bool} {ts:List TypeId} {H H':Heap} {n:Nat} {args:List Value} {v:Value} {l:List Prop} (h:evCopyI P auto ts H args=some (v,H',l)) (hl:allP l)
  {B:Nat} {M:Nat→Prop} {ρ:Num} {w:World} (hS:∀ ρ',Agree n ρ ρ'→Sim P B M ρ' H w) (hA:∀ ρ',Agree n ρ ρ'→rvL ρ' args=rvL ρ args) (ty:TypeId):
  ∃ v' w' ρ1,Agree n ρ ρ1∧(Builtin.copy_ ts.toArray ty (rvL ρ args).toArray).run P w= .ok v' w'∧Keeps B M w w'∧∀ ρ',Agree n ρ1 ρ'→v'=rv ρ' v∧Sim P B M ρ' H' w':=by
 unfold evCopyI at h
 simp only [undF_eq,infF_eq] at h
 split at h
 ·cases h
 split at h
 case h_2=>cases h
 rename_i t t2 j off kk dn dc p o sp m mc
 split at h
 case h_2=>cases h
 rename_i e hu
 split at h
 case h_2=>cases h
 rename_i i hi
 split at h
 case h_2=>cases h
 rename_i e' sz kd ns k' src hget hsrc
 split at h
 case h_2=>cases h
 rename_i kd' xs hin
 split at h
 case h_2=>cases h
 rename_i hc
 simp only [Bool.and_eq_true,decide_eq_true_eq,Nat.beq_eq] at hc
 obtain⟨⟨rfl,hs1⟩,hs2⟩:=hc
 subst hs2
 cases h
 obtain⟨hm0,hmd,hmn,hmx⟩:=hl.1
 have hr0:0 < (Row.ints kd' ns).list.length:=by simp [Row.list]; omega
 have hat:∀ ρ',Agree n ρ ρ'→ρ' j=ρ j∧ρ' p=ρ p:=fun ρ' ha=>by
  have e:=hA ρ' ha
  simp only [rvL,List.cons.injEq,and_true] at e
  obtain⟨b1,cap1,cur1,g1,_⟩:=((hS ρ (Agree.refl _ _)).obj j _ hget).row_some hr0
  obtain⟨b2,cap2,cur2,g2,_⟩:=((hS ρ' ha).obj j _ hget).row_some hr0
  obtain⟨b3,g3,_⟩:=intsIn_sound ((hS ρ (Agree.refl _ _)).obj p _ hsrc) hin (by omega)
  obtain⟨b4,g4,_⟩:=intsIn_sound ((hS ρ' ha).obj p _ hsrc) hin (by omega)
  obtain⟨c1,q1⟩:=rSl_at (off:=off) (sp:=some kk) (n:=dn) (c:=dc) g1
  obtain⟨c2,q2⟩:=rSl_at (off:=off) (sp:=some kk) (n:=dn) (c:=dc) g2
  obtain⟨c3,q3⟩:=rSl_at (off:=o) (sp:=sp) (n:=m) (c:=mc) g3
  obtain⟨c4,q4⟩:=rSl_at (off:=o) (sp:=sp) (n:=m) (c:=mc) g4
  have e1:=e.1
  have e2:=e.2
  rw [q1,q2] at e1
  rw [q3,q4] at e2
  simp only [Value.slice.injEq,Option.some.injEq,Addr.mk.injEq] at e1 e2
  rw [g1,g2,g3,g4,e1.1.1,e2.1.1]
  exact⟨rfl,rfl⟩
 obtain⟨b1,cap1,cur1,g1,_,⟨fr1,gc,_⟩,_⟩:=((hS ρ (Agree.refl _ _)).obj j _ hget).row_some hr0
 obtain⟨b3,g3,gx⟩:=intsIn_sound ((hS ρ (Agree.refl _ _)).obj p _ hsrc) hin (by omega)
 obtain⟨c1,q1⟩:=rSl_at (off:=off) (sp:=some kk) (n:=dn) (c:=dc) g1
 obtain⟨c3,q3⟩:=rSl_at (off:=o) (sp:=sp) (n:=m) (c:=mc) g3
 have hlen:((xs.drop o).take m).length=m:=by simp; omega
 have hput:=fun (ρ':Num) (ha:Agree n ρ ρ')=>rowPut (off:=off) (r':= .ints kd' (ns.take off++(xs.drop o).take m++ns.drop (off+m))) (news:=((xs.drop o).take m).map (Value.int kd')) (hS ρ' ha)
  (rvL_pure _ _ (by rw [pureL_eq,List.all_eq_true]; intro x hx; obtain⟨y,_,rfl⟩:=List.mem_map.1 hx; rfl)) hget (by simp only [List.length_map,hlen,Row.list]; omega) (fun x hx=>by
   obtain⟨y,_,rfl⟩:=List.mem_map.1 hx
   rfl) hr0 (by simp only [Row.list,List.map_append,List.map_take,List.map_drop,List.length_map,List.length_take,List.length_drop]; congr 2; omega) ((hat ρ' ha).1.trans g1) gc
 have hcs:(Builtin.firstCells i.size (Nat.min m dn) (.slice (some ⟨b3,o,none⟩) m c3)).run P w= .ok (((xs.drop o).take m).map (Value.int kd')).toArray w:=by
  have hmm:Nat.min m dn=m:=Nat.min_eq_left hmd
  rw [hmm,hs1]
  have:=run_loadCells_list (P:=P) w ⟨b3,o,none⟩ (((xs.drop o).take m).map (Value.int kd')) (fun q v hq=>by
   rw [addr_add]
   rw [List.getElem?_map] at hq
   cases hv:((xs.drop o).take m)[q]? with
   | none=>rw [hv] at hq; cases hq
   | some y=>
    rw [hv] at hq
    cases hq
    rw [List.getElem?_take] at hv
    split at hv
    case isFalse=>cases hv
    rw [List.getElem?_drop] at hv
    have hlt:=(List.getElem?_eq_some_iff.1 hv).1
    rw [gx (o+q) hlt]
    simp [List.getD,hv])
  rw [List.length_map,hlen] at this
  simpa [Builtin.firstCells] using this
 have hrun:=run_copy_any (P:=P) w _ t t2 ty e i hu hi (.slice (some ⟨b3,o,none⟩) m c3) m dn c1 (by simp [Builtin.lenOf]) _ hcs (some ⟨b1,off,none⟩) (fun a ha=>by cases ha; exact (hput ρ (Agree.refl _ _)).1) (fun h=>by cases h)
 refine⟨.int .i64 (Nat.min m dn:Nat),_,ρ,Agree.refl _ _,?_,(hput ρ (Agree.refl _ _)).2.2,fun ρ' ha=>⟨?_,(hput ρ' ha).2.1⟩⟩
 ·simp only [rvL,q1,q3]
  exact hrun
 ·have hmm:Nat.min m dn=m:=Nat.min_eq_left hmd
  simp only [rv,hmm]
def isEff:Builtin→Bool
 | .copy=>true
 | .unsafeString=>true
 | _=>false
def evEffB (P:Program) (auto:Bool) (b:Builtin) (ts:List TypeId) (H:Heap) (args:List Value):Option (Value×Heap×List Prop):=
 match b with
 | .copy=>match evCopyI P auto ts H args with
  | some r=>some r
  | none=>match evCopy P ts H args with
   | some (v,h)=>some (v,h,[])
   | none=>none
 | .unsafeString=>match evUnsStr P ts H args with
  | some (v,h)=>some (v,h,[])
  | none=>none
 | _=>none
theorem evEffB_sound {P:Program} {auto:Bool} {b:Builtin} {ts:Array TypeId} {H H':Heap} {n:Nat} {args:List Value} {v:Value} {l:List Prop} (h:evEffB P auto b ts.toList H args=some (v,H',l)) (hl:allP l)
  {B:Nat} {M:Nat→Prop} {ρ:Num} {w:World} (hS:∀ ρ',Agree n ρ ρ'→Sim P B M ρ' H w) (hA:∀ ρ',Agree n ρ ρ'→rvL ρ' args=rvL ρ args) (ty:TypeId) (cs:Array Bool):
  ∃ v' w' ρ1,Agree n ρ ρ1∧(builtin b ts ty cs (rvL ρ args).toArray).run P w= .ok (.value v') w'∧Keeps B M w w'∧∀ ρ',Agree n ρ1 ρ'→v'=rv ρ' v∧Sim P B M ρ' H' w':=by
 have:(ts.toList.toArray:Array TypeId)=ts:=by simp
 unfold evEffB at h
 split at h
 ·split at h
  ·rename_i hc
   cases h
   obtain⟨v',w',ρ1,h1,h2,h3,h4⟩:=evCopyI_sound hc hl hS hA ty
   refine⟨v',w',ρ1,h1,?_,h3,h4⟩
   rw [this] at h2
   simp [builtin,h2]
  split at h
  case h_2=>cases h
  rename_i hc
  cases h
  obtain⟨v',w',ρ1,h1,h2,h3,h4⟩:=evCopy_sound hc hS hA ty
  refine⟨v',w',ρ1,h1,?_,h3,h4⟩
  rw [this] at h2
  simp [builtin,h2]
 ·split at h
  case h_2=>cases h
  rename_i hc
  cases h
  obtain⟨v',w',ρ1,h1,h2,h3,h4⟩:=evUnsStr_sound hc hS hA ty
  refine⟨v',w',ρ1,h1,?_,h3,h4⟩
  rw [this] at h2
  simp [builtin,h2]
 ·cases h
def bytesI:List UInt8→List Int
 | [] =>[]
 | b ::r=>Int.ofNat b.toNat ::bytesI r
theorem bytesI_eq (l:List UInt8):bytesI l=l.map fun b=>Int.ofNat b.toNat:=by
 induction l with
 | nil=>rfl
 | cons b r ih=>simp [bytesI,ih]
def s2b (P:Program) (auto:Bool) (ev:Operand→Option Value) (o:Op):Option (TypeId×IntKind×List Int×Nat×List Prop):=
 match o with
 | .convert s d x=>match ev x with
  | some (.string b)=>match undF P s,undF P d with
   | some .string,some (.slice e)=>match undF P e with
    | some (.int .u8)=>match auto with
     | true=>match Nat.ble b.data.toList.length 9223372036854775807 with
      | true=>some (e, .u8,bytesI b.data.toList,b.data.toList.length,[])
      | false=>none
     | false=>some (e, .u8,bytesI b.data.toList,b.data.toList.length,[b.data.toList.length≤9223372036854775807])
    | _=>none
   | _,_=>none
  | _=>none
 | .makeSlice t len cap=>match auto with
  | true=>none
  | false=>match ev len,ev cap with
   | some (.int _ l),some (.int _ c)=>match undF P t with
    | some (.slice e)=>match undF P e,infF P e with
     | some (.int k),some inf=>match inf.zero with
      | some z=>match z with
       | .int k' (.ofNat 0)=>match decide (k'=k) && Nat.beq inf.size 1 with
        | true=>some (e,k,List.replicate l.toNat 0,l.toNat,[0≤l∧c=l∧(inf.bytes:Int)*l≤281474976710656∧l≤9223372036854775807])
        | false=>none
       | _=>none
      | none=>none
     | _,_=>none
    | _=>none
   | _,_=>none
 | _=>none
theorem s2b_sound {P:Program} {s d e:TypeId} {b:ByteArray} (hs:P.underlying s=some .string) (hd:P.underlying d=some (.slice e)) (he:P.underlying e=some (.int .u8)) (hl:b.size≤maxLen)
  {B:Nat} {M:Nat→Prop} {w:World} (hB:B≤w.heap.size) (n:Nat):
  ∃ w' cap,(convert s d (.string b)).run P w= .ok (.slice (some ⟨w.heap.size,0,none⟩) b.size cap) w'∧Keeps B M w w'∧∀ (ρ':Num) (H:Heap),Sim P B M ρ' H w→ρ' n=some w.heap.size→ρ' (n+1)=some cap→
   Sim P B M ρ' ((n, .row e 1 (.ints .u8 (bytesI b.data.toList)) (n+1)) ::H) w':=by
 refine⟨Lib.bytesWorld w e b,_,Lib.run_convert_string_bytes w s d e b hs hd he,⟨?_,?_,?_,?_,fun k hk _=>Lib.bytesWorld_at_old w e b k (by omega)⟩,fun ρ' H hS h1 h2=> ?_⟩
 ·unfold Lib.bytesWorld World.freeze; split <;> rfl
 ·unfold Lib.bytesWorld World.freeze; split <;> rfl
 ·unfold Lib.bytesWorld World.freeze; split <;> rfl
 ·rw [Lib.bytesWorld_size]; omega
 have hge:=grownCap_ge w b.size 0 e
 have hsz:(Lib.bytesCells w e b).size=grownCap w b.size 0 e*1:=by
  have hbs:b.data.size=b.size:=rfl
  simp only [Lib.bytesCells,Array.size_append,Array.size_map,Array.size_replicate,hbs]
  omega
 have hll:(bytesI b.data.toList).length=b.size:=by rw [bytesI_eq,List.length_map,Array.length_toList]; rfl
 refine Sim.row hS (fun i o _ hi=>⟨hi,fun e=> ?_⟩) h1 h2 ⟨_,Lib.bytesWorld_at_new w e b, .inr (Nat.le_refl _)⟩ (.inl hB) (grownCap_le_maxLen w _ _ e hl) hsz ?_ ?_ (fun k hk _=>Lib.bytesWorld_at_old w _ b k hk)
 ·have:=hS.obj i o hi
  rw [e] at this
  exact absurd this.lt (Nat.lt_irrefl _)
 ·simp only [Row.list,List.length_map,hll]; omega
 ·simp only [Row.list,List.length_map,hll]
  have e1:rvL ρ' ((bytesI b.data.toList).map (Value.int .u8))=(b.data.map fun c=>Value.int .u8 c.toNat).toList:=by
   rw [bytesI_eq,rvL_eq,Array.toList_map,List.map_map,List.map_map]
   refine List.map_congr_left fun c _=> ?_
   simp [rv]
  rw [e1,Lib.bytesCells,Array.toList_append]
  have e2:b.size=(b.data.map fun c=>Value.int .u8 c.toNat).toList.length:=by rw [Array.length_toList,Array.size_map]; rfl
  rw [e2]
  exact List.take_left
theorem madeL_ints (k:IntKind):∀ c,madeL [Value.int k 0] c=(List.replicate c 0).map (Value.int k)
 | 0=>rfl
 | c+1=>by simp [madeL,madeL_ints k c,List.replicate_succ]
theorem s2b_run {P:Program} {auto:Bool} {ev:Operand→Option Value} {a:Operand→Value} {o:Oper} {e:TypeId} {k:IntKind} {ns:List Int} {m:Nat} {ob:List Prop} (h:s2b P auto ev o.op=some (e,k,ns,m,ob)) (hl:allP ob)
  {ρ:Num} (he:∀ x∈o.op.operands.toList,∀ y,ev x=some y→a x=rv ρ y) {B:Nat} {M:Nat→Prop} {w:World} (hB:B≤w.heap.size) (n:Nat):
  (∀ c,o.op≠ .defer c)∧∃ w' cap,(execOp a o).run P w= .ok (.value (.slice (some ⟨w.heap.size,0,none⟩) m cap)) w'∧Keeps B M w w'∧∀ (ρ':Num) (H:Heap),Sim P B M ρ' H w→ρ' n=some w.heap.size→ρ' (n+1)=some cap→
   Sim P B M ρ' ((n, .row e 1 (.ints k ns) (n+1)) ::H) w':=by
 unfold s2b at h
 simp only [undF_eq,infF_eq] at h
 split at h
 ·rename_i s d x ho
  split at h
  case h_2=>cases h
  rename_i b hx
  split at h
  case h_2=>cases h
  rename_i e0 hs hd
  split at h
  case h_2=>cases h
  rename_i he0
  have hb:b.size≤maxLen∧e0=e∧IntKind.u8=k∧bytesI b.data.toList=ns∧b.data.toList.length=m:=by
   split at h
   ·split at h
    case h_2=>cases h
    rename_i hle
    cases h
    have hle:=Nat.le_of_ble_eq_true hle
    rw [Array.length_toList] at hle
    exact⟨hle,rfl,rfl,rfl,rfl⟩
   ·cases h
    have hle:b.data.toList.length≤9223372036854775807:=hl.1
    rw [Array.length_toList] at hle
    exact⟨hle,rfl,rfl,rfl,rfl⟩
  obtain⟨hle,rfl,rfl,rfl,rfl⟩:=hb
  obtain⟨w',cap,hrun,hk,hsim⟩:=s2b_sound (P:=P) (M:=M) hs hd he0 hle hB n
  refine⟨(by rw [ho]; intro c hc; cases hc),w',cap,?_,hk,hsim⟩
  simp only [execOp,ho,Sem.run_bind]
  rw [he x (by rw [ho]; simp [Op.operands]) _ hx]
  simp only [rv,hrun,Array.length_toList]
  rfl
 ·rename_i t len cap ho
  split at h
  ·cases h
  split at h
  case h_2=>cases h
  rename_i kl l kc c hlen hcap
  split at h
  case h_2=>cases h
  rename_i e0 ht
  split at h
  case h_2=>cases h
  rename_i k0 inf hk hinf
  split at h
  case h_2=>cases h
  rename_i z hz
  split at h
  case h_2=>cases h
  rename_i k'
  split at h
  case h_2=>cases h
  rename_i hc
  simp only [Bool.and_eq_true,decide_eq_true_eq,Nat.beq_eq] at hc
  obtain⟨rfl,hsz⟩:=hc
  cases h
  obtain⟨h0,rfl,h1,h2⟩:=hl.1
  have hrun:=run_make (P:=P) w t e inf (.int k 0) ht hinf hz kl kc c c h0 (Int.le_refl _) h1 h2
  rw [madeL_eq (z:=(Value.int k 0).cells) (by rw [hsz]; rfl)] at hrun
  have hml:madeL (Value.int k 0).cells.toList c.toNat=(List.replicate c.toNat 0).map (Value.int k):=madeL_ints k c.toNat
  rw [hml] at hrun
  refine⟨(by rw [ho]; intro c hc; cases hc),w.alloc (.cells ((List.replicate c.toNat 0).map (Value.int k)).toArray e),c.toNat,?_,Keeps.of_below ((Below.refl _ _).alloc (Nat.le_refl _) _) hB,fun ρ' H hS g1 g2=> ?_⟩
  ·simp only [execOp,ho]
   rw [he len (by simp [ho,Op.operands]) _ hlen,he cap (by simp [ho,Op.operands]) _ hcap]
   simp only [rv,Sem.run_bind,hrun]
   rfl
  ·have e1:rvL ρ' ((List.replicate c.toNat (0:Int)).map (Value.int k))=(List.replicate c.toNat (0:Int)).map (Value.int k):=rvL_pure _ _ (by rw [pureL_eq]; simp [pureV])
   refine Sim.row hS (fun i o _ hi=>⟨hi,fun e=> ?_⟩) g1 g2 (.of (heap_alloc_new _ _)) (.inl hB) (by unfold maxLen; omega) (by simp) (by simp [Row.list]) ?_ (fun k hk _=>heap_alloc_old _ _ hk)
   ·have:=hS.obj i o hi
    rw [e] at this
    exact absurd this.lt (Nat.lt_irrefl _)
   ·simp only [Row.list]
    rw [e1]
    simp
 ·cases h
end
end Go.Proofs.YtdgfhijnconaoaaGreatDoor.Ev
