/-
 NumberRises: of two texts the one with the greater value is never read as the lesser number; no condition (a part of the proof).
-/
import Derived.Test.YtdgfhijnconaoaaGreatDoorR1x02
namespace Go.Proofs.YtdgfhijnconaoaaGreatDoor.Ev
open Go Go.RowKit Go.Shelf
noncomputable section
abbrev KV:=List (Nat×Bool)
def kvGet:KV→Nat→Bool
 | [],_=>false
 | (j,_) ::r,i=>Nat.beq j i || kvGet r i
def KVok (kv:KV) (β:Nat→Bool):Prop:=∀ p∈kv,β p.1=p.2
theorem KVok.cons {j:Nat} {b:Bool} {kv:KV} {β:Nat→Bool} (h:KVok ((j,b) ::kv) β):β j=b∧KVok kv β:=
 ⟨h (j,b) (by simp),fun p hp=>h p (by simp [hp])⟩
def dstOf (os:List Oper) (j:Nat):Option Nat:=match os[j]? with
 | some o=>o.dst
 | none=>none
def evGuard (auto:Bool) (os:List Oper) (o:Oper) (tmps:List TV) (kv:KV):Option (Bool×List TV×KV×List (Nat×Bool)):=
 match o.guard with
 | none=>some (false,tmps,kv,[])
 | some (j,want)=>
  match dstOf os j with
  | none=>none
  | some d=>
   match getT tmps d with
   | .v x=>match auto with
    | true=>match x with
     | .bool b=>match beqB b want with
      | true=>some (false,tmps,kv,[])
      | false=>some (true,tmps,kv,[])
     | .tuple _=>some (true,tmps,kv,[])
     | _=>none
    | false=>match x with
     | .bool b=>match kvGet kv j with
      | false=>some (false,setF tmps d (.key j [] b),(j,b) ::kv,[(j,want)])
      | true=>none
     | _=>none
   | .sp l x=>match x with
    | .bool b=>match kvGet kv j with
     | false=>some (false,setF tmps d (.key j l b),(j,b) ::kv,(j,want) ::l)
     | true=>none
    | _=>none
   | .key j' l _=>match Nat.beq j' j with
    | true=>some (false,tmps,kv,(j,want) ::l)
    | false=>none
   | .unk=>none
theorem dstOf_eq (os:List Oper) (j:Nat):((⟨os⟩:Array Oper)[j]?).bind (·.dst)=dstOf os j:=by
 unfold dstOf
 simp only [List.getElem?_toArray]
 cases os[j]? <;> rfl
theorem yielded_eq {os:List Oper} {tmps:Array Value} {j d:Nat} (h:dstOf os j=some d):yielded ⟨os⟩ tmps j=(match tmps.getD d undef with | .bool b=>some b | _=>none):=by
 unfold yielded
 rw [dstOf_eq,h]
 simp only [Option.bind_some]
 rw [Array.getD_eq_getD_getElem?]
 cases tmps[d]? with
 | none=>rfl
 | some v=>cases v <;> rfl
theorem V_nil (β:Nat→Bool):V β [] :=fun _ h=>by cases h
theorem V_cons {β:Nat→Bool} {p:Nat×Bool} {l:List (Nat×Bool)} :V β (p ::l)↔β p.1=p.2∧V β l:=
 ⟨fun h=>⟨h p (by simp),fun q hq=>h q (by simp [hq])⟩,fun ⟨h1,h2⟩ q hq=>by
  rcases List.mem_cons.1 hq with rfl | hq
  ·exact h1
  ·exact h2 q hq⟩
def looks (os:List Oper) (o:Oper):List Nat:=o.looksAt ⟨os⟩
theorem guard_looks {os:List Oper} {o:Oper} {j d:Nat} {want:Bool} (hg:o.guard=some (j,want)) (hd:dstOf os j=some d):d∈looks os o:=by
 unfold looks Oper.looksAt
 rw [hg]
 simp only [dstOf_eq,hd]
 simp
theorem getT_set (ts:List TV) (d t:Nat) (x:TV) (hd:d < ts.length):getT (ts.set d x) t=if d=t then x else getT ts t:=by
 simp only [getT_def]
 by_cases h:d=t
 ·subst h; simp [hd]
 ·simp [h]
theorem evGuard_sound {auto:Bool} {os:List Oper} {o:Oper} {tmps tmps':List TV} {kv kv':KV} {sk:Bool} {conds:List (Nat×Bool)} (h:evGuard auto os o tmps kv=some (sk,tmps',kv',conds))
  {ρ:Num} {β:Nat→Bool} (hk:KVok kv' β) {a:Array Value} (hT:∀ t∈looks os o,KVok kv β→TRel ρ β (getT tmps t) (a.getD t undef)):
  KVok kv β∧(sk=true→Region.wanted o (yielded ⟨os⟩ a)=false)∧(sk=false→(Region.wanted o (yielded ⟨os⟩ a)=true↔V β conds))∧
  (∀ t r,TRel ρ β (getT tmps t) r↔TRel ρ β (getT tmps' t) r):=by
 unfold evGuard at h
 simp only [setF_eq] at h
 split at h
 ·rename_i hg
  cases h
  exact⟨hk,(fun h=>by cases h),fun _=>⟨fun _=>V_nil β,fun _=>by simp [Region.wanted,hg]⟩,fun _ _=>Iff.rfl⟩
 ·rename_i j want hg
  split at h
  case h_1=>cases h
  rename_i d hd
  have hmem:=guard_looks hg hd
  have hw:Region.wanted o (yielded ⟨os⟩ a)=((match a.getD d undef with | .bool b=>some b | _=>none)==some want):=by
   unfold Region.wanted
   rw [hg]
   simp only []
   rw [yielded_eq hd]
  split at h
  ·rename_i x hx
   have hdx:KVok kv β→a.getD d undef=rv ρ x:=fun hkv=>by
    have:=hT d hmem hkv; rw [hx] at this; exact this
   split at h
   ·split at h
    ·rename_i b
     split at h
     ·rename_i hb
      cases h
      have e:=hdx hk
      simp only [rv] at e
      refine⟨hk,(fun h=>by cases h),fun _=>⟨fun _=>V_nil β,fun _=> ?_⟩,fun _ _=>Iff.rfl⟩
      rw [hw,e,beqB_eq hb]; simp
     ·rename_i hb
      cases h
      have e:=hdx hk
      simp only [rv] at e
      refine⟨hk,fun _=> ?_,(fun h=>by cases h),fun _ _=>Iff.rfl⟩
      rw [hw,e]
      revert hb
      cases b <;> cases want <;> simp [beqB]
    ·rename_i y
     cases h
     have e:=hdx hk
     simp only [rv] at e
     refine⟨hk,fun _=> ?_,(fun h=>by cases h),fun _ _=>Iff.rfl⟩
     rw [hw,e]; rfl
    ·cases h
   ·split at h
    ·rename_i b
     split at h
     case h_2=>cases h
     cases h
     obtain⟨hj,hkv⟩:=hk.cons
     have e:=hdx hkv
     simp only [rv] at e
     refine⟨hkv,(fun h=>by cases h),fun _=> ?_,fun t r=> ?_⟩
     ·rw [hw,e,V_cons]
      simp only [hj]
      constructor
      ·intro hh; exact⟨by simpa using hh,V_nil β⟩
      ·intro hh; simpa using hh.1
     ·by_cases hdt:d=t
      ·subst hdt
       by_cases hlen:d < tmps.length
       ·rw [getT_set _ _ _ _ hlen,if_pos rfl,hx]
        constructor
        ·intro ht; exact⟨hj,fun _=>by simpa [TRel,rv] using ht,fun hn=>absurd (V_nil β) hn⟩
        ·intro ht; have:=ht.2.1 (V_nil β); simpa [TRel,rv] using this
       ·rw [List.set_eq_of_length_le (by omega)]
      ·by_cases hlen:d < tmps.length
       ·rw [getT_set _ _ _ _ hlen,if_neg hdt]
       ·rw [List.set_eq_of_length_le (by omega)]
    ·cases h
  ·rename_i l x hx
   split at h
   case h_2=>cases h
   rename_i b
   split at h
   case h_2=>cases h
   cases h
   obtain⟨hj,hkv⟩:=hk.cons
   have e:=hT d hmem hkv
   rw [hx] at e
   simp only [TRel,rv] at e
   refine⟨hkv,(fun h=>by cases h),fun _=> ?_,fun t r=> ?_⟩
   ·rw [hw,V_cons]
    simp only [hj]
    by_cases hV:V β l
    ·rw [e.1 hV]
     constructor
     ·intro hh; exact⟨by simpa using hh,hV⟩
     ·intro hh; simpa using hh.1
    ·rw [e.2 hV]
     constructor
     ·intro hh; simp [undef] at hh
     ·intro hh; exact absurd hh.2 hV
   ·by_cases hdt:d=t
    ·subst hdt
     by_cases hlen:d < tmps.length
     ·rw [getT_set _ _ _ _ hlen,if_pos rfl,hx]
      simp only [TRel,rv]
      constructor
      ·intro ht; exact⟨hj,ht.1,ht.2⟩
      ·intro ht; exact⟨ht.2.1,ht.2.2⟩
     ·rw [List.set_eq_of_length_le (by omega)]
    ·by_cases hlen:d < tmps.length
     ·rw [getT_set _ _ _ _ hlen,if_neg hdt]
     ·rw [List.set_eq_of_length_le (by omega)]
  ·rename_i j' l b hx
   split at h
   case h_2=>cases h
   rename_i hjj
   cases h
   have hjj:=Nat.eq_of_beq_eq_true hjj
   subst hjj
   have e:=hT d hmem hk
   rw [hx] at e
   obtain⟨e0,e1,e2⟩:=e
   refine⟨hk,(fun h=>by cases h),fun _=> ?_,fun _ _=>Iff.rfl⟩
   rw [hw,V_cons]
   simp only [e0]
   by_cases hV:V β l
   ·rw [e1 hV]
    constructor
    ·intro hh; exact⟨by simpa using hh,hV⟩
    ·intro hh; simpa using hh.1
   ·rw [e2 hV]
    constructor
    ·intro hh; simp [undef] at hh
    ·intro hh; exact absurd hh.2 hV
  ·cases h
def isBoolV (x:Option Value):Option Bool:=match x with
 | some (.bool b)=>some b
 | _=>none
def evPick (auto:Bool) (tmps:List TV) (g:List (Nat×Bool)) (c x y:Operand):Option Value:=
 match c with
 | .tmp t=>
  match getT tmps t with
  | .key j l bc=>match subC l g with
   | false=>none
   | true=>match isBoolV (evo tmps ((j,true) ::g) x),isBoolV (evo tmps ((j,false) ::g) y) with
    | some p,some q=>some (.bool (match bc with | true=>p | false=>q))
    | _,_=>none
  | .v z=>match z with
   | .bool bc=>match auto with
    | true=>match bc with
     | true=>evo tmps g x
     | false=>evo tmps g y
    | false=>match isBoolV (evo tmps g x),isBoolV (evo tmps g y) with
     | some p,some q=>some (.bool (match bc with | true=>p | false=>q))
     | _,_=>none
   | _=>none
  | .sp l z=>match z with
   | .bool bc=>match subC l g with
    | false=>none
    | true=>match isBoolV (evo tmps g x),isBoolV (evo tmps g y) with
     | some p,some q=>some (.bool (match bc with | true=>p | false=>q))
     | _,_=>none
   | _=>none
  | .unk=>none
 | _=>none
theorem evo_sound {ρ:Num} {β:Nat→Bool} {tmps:List TV} {c:List (Nat×Bool)} {a:Act} {P:Program} {B:Nat} {M:Nat→Prop} {H:Heap} {w:World} (hS:Sim P B M ρ H w) (hc:V β c) {x:Operand} {y:Value} (h:evo tmps c x=some y)
  (hT:∀ t,x= .tmp t→TRel ρ β (getT tmps t) (a.tmps.getD t undef)) (hg:∀ g,x= .global g→g < P.globals.size):a.eval x=rv ρ y:=by
 cases x with
 | tmp t=>exact rd_sound h hc (hT t rfl)
 | const v=>
  simp only [evo] at h
  split at h
  ·rename_i hp; cases h; exact (rv_pure ρ _ hp).symm
  ·cases h
 | global g=>
  simp only [evo] at h
  cases h
  simp [Act.eval,rv,rAddr,hS.glob g (hg g rfl)]
 | func f=>simp only [evo] at h; cases h; simp [Act.eval,rv,rvA,rvL,rFn]
theorem isBoolV_some {x:Option Value} {b:Bool} (h:isBoolV x=some b):x=some (.bool b):=by
 unfold isBoolV at h
 split at h
 ·cases h; rfl
 ·cases h
def noGlob:Operand→Bool
 | .global _=>false
 | _=>true
theorem evPick_sound {P:Program} {B:Nat} {M:Nat→Prop} {H:Heap} {auto:Bool} {ρ:Num} {β:Nat→Bool} {tmps:List TV} {g:List (Nat×Bool)} {a:Act} {w:World} (hS:Sim P B M ρ H w) (hc:V β g) {c x y:Operand} {v:Value}
  (h:evPick auto tmps g c x y=some v) (hT:∀ t,(c= .tmp t∨x= .tmp t∨y= .tmp t)→TRel ρ β (getT tmps t) (a.tmps.getD t undef)) (hx:noGlob x=true) (hy:noGlob y=true):
  ((do pure (.value (if ← asBool (a.eval c) then a.eval x else a.eval y)):Sem Next)).run P w= .ok (.value (rv ρ v)) w:=by
 have hgx:∀ g,x= .global g→g < P.globals.size:=fun g e=>by subst e; cases hx
 have hgy:∀ g,y= .global g→g < P.globals.size:=fun g e=>by subst e; cases hy
 have ex:∀ {G:List (Nat×Bool)} {z:Value},V β G→evo tmps G x=some z→a.eval x=rv ρ z:=fun hG he=>evo_sound hS hG he (fun t e=>hT t (.inr (.inl e))) hgx
 have ey:∀ {G:List (Nat×Bool)} {z:Value},V β G→evo tmps G y=some z→a.eval y=rv ρ z:=fun hG he=>evo_sound hS hG he (fun t e=>hT t (.inr (.inr e))) hgy
 have fin:∀ b:Bool,a.eval c= .bool b→(if b then a.eval x else a.eval y)=rv ρ v→((do pure (.value (if ← asBool (a.eval c) then a.eval x else a.eval y)):Sem Next)).run P w= .ok (.value (rv ρ v)) w:=by
  intro b hb hv
  rw [hb,← hv]
  rfl
 unfold evPick at h
 split at h
 case h_2=>cases h
 rename_i t
 have hTc:=hT t (.inl rfl)
 split at h
 ·rename_i j l bc hx'
  rw [hx'] at hTc
  obtain⟨h0,h1,h2⟩:=hTc
  split at h
  case h_1=>cases h
  rename_i hs
  have hcb:a.eval (.tmp t)= .bool bc:=h1 (subC_sound hs hc)
  split at h
  case h_2=>cases h
  rename_i p q hp hq
  cases h
  refine fin bc hcb ?_
  cases bc
  ·have:=ey (G:=(j,false) ::g) (V_cons.2 ⟨h0,hc⟩) (isBoolV_some hq)
   simp [this]
  ·have:=ex (G:=(j,true) ::g) (V_cons.2 ⟨h0,hc⟩) (isBoolV_some hp)
   simp [this]
 ·rename_i z hx'
  rw [hx'] at hTc
  split at h
  case h_2=>cases h
  rename_i bc
  have hcb:a.eval (.tmp t)= .bool bc:=by
   simp only [TRel,rv] at hTc
   exact hTc
  split at h
  ·split at h
   ·exact fin true hcb (by simpa using ex hc h)
   ·exact fin false hcb (by simpa using ey hc h)
  ·split at h
   case h_2=>cases h
   rename_i p q hp hq
   cases h
   refine fin bc hcb ?_
   cases bc
   ·have:=ey hc (isBoolV_some hq)
    simp [this]
   ·have:=ex hc (isBoolV_some hp)
    simp [this]
 ·rename_i l z hx'
  rw [hx'] at hTc
  split at h
  case h_2=>cases h
  rename_i bc
  split at h
  case h_1=>cases h
  rename_i hs
  have hcb:a.eval (.tmp t)= .bool bc:=by
   have:=hTc.1 (subC_sound hs hc)
   simp only [rv] at this
   exact this
  split at h
  case h_2=>cases h
  rename_i p q hp hq
  cases h
  refine fin bc hcb ?_
  cases bc
  ·have:=ey hc (isBoolV_some hq)
   simp [this]
  ·have:=ex hc (isBoolV_some hp)
   simp [this]
 ·cases h
def globsOk (P:Program) (o:Oper):Bool:=o.op.operands.toList.all fun x=>match x with
 | .global g=>Nat.blt g P.globals.size
 | _=>true
def setPs:List (Option Value)→List Nat→List Value→List (Option Value)
 | ts,p ::ps,v ::vs=>setPs (ts.set p (some v)) ps vs
 | ts,_,_=>ts
def ofOpt:Option Value→TV
 | some x=> .v x
 | none=> .unk
def jumpOf:AX→Option Code
 | .normal=>none
 | .ret=>some .ret
 | .exit id=>some (.exit id)
def goesOn:AX→Bool
 | .normal=>true
 | .ret=>false
 | .exit _=>false
def stateOf:AX→LoopState
 | .normal=> .ready
 | .ret=> .done
 | .exit _=> .done
def evYield (X:Cx) (l:Nat) (args:List Value) (H:Heap) (n:Nat) (ds:List Bool):Option CR:=
 match H.get l with
 | some (.loop _ _ ts ps asg bd)=>match Nat.beq args.length ps.length with
  | false=>none
  | true=>match X.rd asg ⟨(setPs ts ps args).map ofOpt,H,n,ds,[],0,some l,[],n⟩ with
   | some (.normal,⟨tm1,h1,n1,d1,o1,lp1,rd1,mk1,b1⟩)=>match h1.get l with
    | some (.loop .ready pn ts1 ps1 as1 bd1)=>
     match X.rd bd ⟨tm1,h1.set l (.loop .busy pn ts1 ps1 as1 bd1),n1,d1,o1,lp1,rd1,mk1,b1⟩ with
     | some (x,⟨_,h2,n2,d2,o2,_,_,_,_⟩)=>match h2.get l with
      | some (.loop _ _ ts2 ps2 as2 bd2)=>match Nat.ble n n2 with
       | true=>some ⟨.bool (goesOn x),h2.set l (.loop (stateOf x) (jumpOf x) ts2 ps2 as2 bd2),n2,o2,d2⟩
       | false=>none
      | _=>none
     | none=>none
    | _=>none
   | _=>none
 | _=>none
theorem evYield_eq (X:Cx) (l:Nat) (args:List Value) (H:Heap) (n:Nat) (ds:List Bool):evYield X l args H n ds=
  match H.get l with
  | some (.loop _ _ ts ps asg bd)=>match Nat.beq args.length ps.length with
   | false=>none
   | true=>match X.rd asg ⟨(setPs ts ps args).map ofOpt,H,n,ds,[],0,some l,[],n⟩ with
    | some (.normal,s1)=>match s1.heap.get l with
     | some (.loop .ready pn ts1 ps1 as1 bd1)=>
      match X.rd bd ⟨s1.tmps,s1.heap.set l (.loop .busy pn ts1 ps1 as1 bd1),s1.nid,s1.ds,s1.obs,s1.lp,s1.rd,s1.mks,s1.bs⟩ with
      | some (x,s2)=>match s2.heap.get l with
       | some (.loop _ _ ts2 ps2 as2 bd2)=>match Nat.ble n s2.nid with
        | true=>some ⟨.bool (goesOn x),s2.heap.set l (.loop (stateOf x) (jumpOf x) ts2 ps2 as2 bd2),s2.nid,s2.obs,s2.ds⟩
        | false=>none
       | _=>none
      | none=>none
     | _=>none
    | _=>none
  | _=>none:=by
 unfold evYield
 cases H.get l with
 | none=>rfl
 | some ob=>
  cases ob with
  | loop st pn ts ps asg bd=>
   dsimp only
   cases Nat.beq args.length ps.length with
   | false=>rfl
   | true=>
    dsimp only
    generalize X.rd asg _=z
    cases z with
    | none=>rfl
    | some p=>
     obtain⟨x,s1⟩:=p
     cases x with
     | normal=>
      cases s1 with
      | mk tm1 h1 n1 d1 o1 lp1 rd1 mk1 b1=>
       dsimp only
       cases h1.get l with
       | none=>rfl
       | some ob1=>
        cases ob1 with
        | loop st1 pn1 ts1 ps1 as1 bd1=>
         cases st1 with
         | ready=>
          dsimp only
          generalize X.rd bd _=z2
          cases z2 with
          | none=>rfl
          | some p2=>rfl
         | _=>rfl
        | _=>rfl
     | _=>rfl
  | _=>rfl
theorem get_ofOpt (ts:List (Option Value)) (t:Nat):getT (ts.map ofOpt) t=match ts[t]? with
  | some (some x)=> .v x
  | _=> .unk:=by
 simp only [getT_def]
 rw [List.getElem?_map]
 cases h:ts[t]? with
 | none=>rfl
 | some o=>cases o <;> rfl
theorem setPs_spec (ρ:Num):∀ (ps:List Nat) (vs:List Value) (ts:List (Option Value)) (a:Array Value),a.size=ts.length→(∀ t x,ts[t]? =some (some x)→a.getD t undef=rv ρ x)→
  (((ps.zip (rvL ρ vs)).foldl (fun (tmps:Array Value) (p:Nat×Value)=>tmps.setIfInBounds p.1 p.2) a).size=(setPs ts ps vs).length∧
   ∀ t x,(setPs ts ps vs)[t]? =some (some x)→((ps.zip (rvL ρ vs)).foldl (fun (tmps:Array Value) (p:Nat×Value)=>tmps.setIfInBounds p.1 p.2) a).getD t undef=rv ρ x)
 | [],vs,ts,a,hsz,h=>by simp only [setPs,List.zip_nil_left,List.foldl_nil]; exact⟨hsz,h⟩
 | p ::ps,[],ts,a,hsz,h=>by simp only [setPs,rvL,List.zip_nil_right,List.foldl_nil]; exact⟨hsz,h⟩
 | p ::ps,v ::vs,ts,a,hsz,h=>by
  simp only [rvL,List.zip_cons_cons,List.foldl_cons,setPs]
  refine setPs_spec ρ ps vs (ts.set p (some v)) (a.setIfInBounds p (rv ρ v)) (by simpa using hsz) (fun t x hx=> ?_)
  by_cases hpt:p=t
  ·subst hpt
   rw [List.getElem?_set] at hx
   simp only [if_true] at hx
   split at hx
   ·rename_i hlt
    simp only [Option.some.injEq] at hx
    subst hx
    simp [hsz,hlt]
   ·cases hx
  ·rw [List.getElem?_set_ne hpt] at hx
   have:=h t x hx
   rw [Array.getD_eq_getD_getElem?] at this ⊢
   rw [Array.getElem?_setIfInBounds_ne hpt]
   exact this
theorem Rep.known {P:Program} {J:Inv P} {B:Nat} {M:Nat→Prop} {w0:Bas} {rb:Option Nat} {s:St} {a:Act} {w:World} (h:Rep P J B M w0 rb s a w) {l:Nat} {o:AObj} (hl:s.heap.get l=some o):l < s.nid∨(∃ xs k,o= .ints k xs)∨(∃ xs,o= .ro xs)∨(∃ f m sz b,o= .fam f m sz b)∨∃ e sz r k,o= .row e sz r k:=by
 obtain⟨ρ,_,hρ⟩:=h.rep
 rcases Nat.lt_or_ge l s.nid with h1 | h1
 ·exact .inl h1
 ·have:=(hρ (fun i=>if i=l then none else ρ i) (fun i hi=>by simp [show i≠l by omega])).1.obj l o hl
  simp only [if_true] at this
  cases o with
  | row e sz r k=>exact .inr (.inr (.inr (.inr ⟨e,sz,r,k,rfl⟩)))
  | fam f m sz b=>exact .inr (.inr (.inr (.inl ⟨f,m,sz,b,rfl⟩)))
  | ro xs=>exact .inr (.inr (.inl ⟨xs,rfl⟩))
  | ints k xs=>exact .inr (.inl ⟨xs,k,rfl⟩)
  | cells cs t=>obtain⟨b,h,_⟩:=this; cases h
  | iter s p=>obtain⟨b,h,_⟩:=this; cases h
  | loop st pn ts ps asg bd=>obtain⟨b,r,h,_⟩:=this; cases h
  | defr=>obtain⟨b,h,_⟩:=this; cases h
  | dead=>obtain⟨b,r,h,_⟩:=this; cases h
  | map es=>obtain⟨b,mes,ck,h,_⟩:=this; cases h
theorem Rep.loop' {P:Program} {J:Inv P} {B:Nat} {M:Nat→Prop} (hp:Par P B M) {w0:Bas} {rb:Option Nat} {s:St} {a:Act} {w:World} (h:Rep P J B M w0 rb s a w) {ρ:Num} (hρ0:w0.n≤s.nid∧Agree w0.n w0.ρ ρ) (hρ:∀ ρ',Agree s.nid ρ ρ'→Sim P B M ρ' s.heap w∧FR ρ' rb s a∧∀ t x,getT s.tmps t= .v x→a.tmps.getD t undef=rv ρ' x) {l:Nat} {st:LoopState} {pn:Option Code} {ts:List (Option Value)} {ps:List Nat} {asg bd:Code} (hl:s.heap.get l=some (.loop st pn ts ps asg bd)):
  ∃ b r,w.heap[b]? =some (.loop r)∧r.state=st∧r.pending=pn∧r.params=⟨ps⟩∧r.assign=asg∧r.body=bd∧(∀ ρ',Agree s.nid ρ ρ'→ρ' l=some b)∧l < s.nid∧
   ∀ st' pn' (s':St),s'.tmps=s.tmps→s'.heap=s.heap.set l (.loop st' pn' ts ps asg bd)→s'.nid=s.nid→s'.rd=s.rd→s'.mks=s.mks→s'.bs=s.bs→Rep P J B M w0 rb s' a (w.putObj b (.loop { r with state:=st',pending:=pn' })):=by
 have hlt:l < s.nid:=(h.known hl).elim id (fun h=>by rcases h with ⟨_,_,h⟩ | ⟨_,h⟩ | ⟨_,_,_,_,h⟩ | ⟨_,_,_,_,h⟩ <;> cases h)
 obtain⟨b,r,hb,hw,hr,hown⟩:=(hρ ρ (Agree.refl _ _)).1.obj l _ hl
 have hbl:∀ ρ',Agree s.nid ρ ρ'→ρ' l=some b:=fun ρ' ha=>(ha l hlt).trans hb
 refine⟨b,r,hw,hr.1,hr.2.1,hr.2.2.1,hr.2.2.2.1,hr.2.2.2.2.1,hbl,hlt,fun st' pn' s' e1 e2 e3 e4 e5 e6=> ?_⟩
 have hk:Keeps B M w (w.putObj b (.loop { r with state:=st',pending:=pn' })):=
  ⟨rfl,rfl,rfl,by simp,fun k hk hm=>World.putObj_heap_other (fun e=>by subst e; exact hown.elim (fun h=>by omega) (fun h=>hm h))⟩
 refine⟨by rw [e6]; exact h.low,by rw [e1]; exact h.plain,by rw [e1]; exact h.size,Nat.le_trans h.base hk.size,J.keeps hp hk h.inv,h.keeps.trans hk,ρ,by rw [e3]; exact hρ0,fun ρ' ha=> ?_⟩
 rw [e3] at ha
 obtain⟨g1,g2,g3⟩:=hρ ρ' ha
 refine⟨?_,⟨by rw [e5]; exact g2.defers,by rw [e4]; exact g2.round⟩,by rw [e1]; exact g3⟩
 rw [e2]
 refine g1.turn hl rfl (hbl ρ' ha) ?_ (fun k hk=>World.putObj_heap_other hk)
 obtain⟨b',r',hb',hw',hr',_⟩:=g1.obj l _ hl
 rw [hbl ρ' ha] at hb'
 cases hb'
 rw [hw] at hw'
 cases hw'
 exact⟨b,_,rfl,World.putObj_heap_same (getElem?_lt_size hw),⟨rfl,rfl,hr'.2.2⟩,hown⟩
theorem Rep.loop {P:Program} {J:Inv P} {B:Nat} {M:Nat→Prop} (hp:Par P B M) {w0:Bas} {rb:Option Nat} {s:St} {a:Act} {w:World} (h:Rep P J B M w0 rb s a w) {l:Nat} {st:LoopState} {pn:Option Code} {ts:List (Option Value)} {ps:List Nat} {asg bd:Code} (hl:s.heap.get l=some (.loop st pn ts ps asg bd)):
  ∃ b r,w.heap[b]? =some (.loop r)∧r.state=st∧r.pending=pn∧r.params=⟨ps⟩∧r.assign=asg∧r.body=bd∧(∀ ρ',Agree s.nid h.rep.choose ρ'→ρ' l=some b)∧l < s.nid∧
   ∀ st' pn' (s':St),s'.tmps=s.tmps→s'.heap=s.heap.set l (.loop st' pn' ts ps asg bd)→s'.nid=s.nid→s'.rd=s.rd→s'.mks=s.mks→s'.bs=s.bs→Rep P J B M w0 rb s' a (w.putObj b (.loop { r with state:=st',pending:=pn' })):=
 h.loop' hp h.rep.choose_spec.1 h.rep.choose_spec.2 hl
theorem evYield_sound {X:Cx} {J:Inv X.P} (hX:CxOk X J) {l:Nat} {args:List Value} {H:Heap} {n:Nat} {ds:List Bool} {r:CR} (h:evYield X l args H n ds=some r) (hl:allP r.obs)
  {B:Nat} {M:Nat→Prop} (hp:Par X.P B M) {ρ:Num} {w:World} (hB:B≤w.heap.size) (hI:J.I w) {vs:List Value} (hS:∀ ρ',Agree n ρ ρ'→Sim X.P B M ρ' H w∧vs=rvL ρ' args) {rb:Option Nat} :
  n≤r.n∧∃ b fn tmps asg bd,ρ l=some b∧(Instr.yield b ⟨vs⟩).run X.P w= .ok (.round b fn tmps asg bd) w∧
   RoundIn (Fl rb) 0 X.P b fn tmps asg bd w (fun e w'=>∃ ρ1 v,Agree n ρ ρ1∧e= .returned v∧Keeps B M w w'∧∀ ρ',Agree r.n ρ1 ρ'→v=rv ρ' r.v∧Sim X.P B M ρ' r.h w'):=by
 rw [evYield_eq] at h
 split at h
 case h_2=>cases h
 rename_i st pn ts ps asg bd hget
 split at h
 case h_1=>cases h
 rename_i hlen
 have hlen:=Nat.eq_of_beq_eq_true hlen
 split at h
 case h_2=>cases h
 rename_i s1 hs1
 split at h
 case h_2=>cases h
 rename_i pn1 ts1 ps1 as1 bd1 hget1
 split at h
 case h_2=>cases h
 rename_i x s2 hs2
 split at h
 case h_2=>cases h
 rename_i st2 pn2 ts2 ps2 as2 bd2 hget2
 split at h
 case h_2=>cases h
 rename_i hble
 have hble:=Nat.le_of_ble_eq_true hble
 cases h
 refine⟨hble,?_⟩
 obtain⟨b,rr,hb,hw,⟨q1,q2,q3,q4,q5,q6,q7⟩,hown⟩:=(hS ρ (Agree.refl _ _)).1.obj l _ hget
 have hlt:l < n:=by
  rcases Nat.lt_or_ge l n with h1 | h1
  ·exact h1
  ·obtain⟨_,_,h,_⟩:=(hS (fun i=>if i=l then none else ρ i) (fun i hi=>by simp [show i≠l by omega])).1.obj l _ hget
   simp at h
 have hvs:vs.length=args.length:=by rw [(hS ρ (Agree.refl _ _)).2,rvL_eq]; simp
 have hrun:=run_yield (P:=X.P) (args:=⟨vs⟩) hw (by rw [q3]; simp [hvs,hlen])
 refine⟨b,rr.fn,_,rr.assign,rr.body,hb,hrun,?_⟩
 obtain⟨hl2,h2⟩:=hX.rd _ _ _ _ hs2 hl
 obtain⟨_,h1⟩:=hX.rd _ _ _ _ hs1 hl2
 rw [q4,q5]
 refine roundIn_of_wpIn trivial ?_
 have hR0:Rep X.P J B M ⟨w,n,ρ,[]⟩ (some b) ⟨(setPs ts ps args).map ofOpt,H,n,ds,[],0,some l,[],n⟩
   { tmps:=(rr.params.zip (⟨vs⟩:Array Value)).foldl (fun tmps (t,a)=>tmps.setIfInBounds t a) rr.tmps,defers:=[]} w:=by
  have spec:∀ ρ',Agree n ρ ρ'→_:=fun ρ' ha=>setPs_spec ρ' ps args ts rr.tmps q6 (fun t x hx=>by
   obtain⟨b',r',hb',hw',hr',_⟩:=(hS ρ' ha).1.obj l _ hget
   rw [ha l hlt,hb] at hb'
   cases hb'
   rw [hw] at hw'
   cases hw'
   exact hr'.2.2.2.2.2.2 t x hx)
  have efold:∀ ρ',Agree n ρ ρ'→(rr.params.zip (⟨vs⟩:Array Value)).foldl (fun tmps (t,a)=>tmps.setIfInBounds t a) rr.tmps=(ps.zip (rvL ρ' args)).foldl (fun (tmps:Array Value) (p:Nat×Value)=>tmps.setIfInBounds p.1 p.2) rr.tmps:=fun ρ' ha=>by
   rw [q3,← (hS ρ' ha).2,← Array.foldl_toList]
   simp
  refine⟨rfl,fun t=> ?_,?_,hB,hI,Keeps.refl _ _ _,ρ,⟨Nat.le_refl _,Agree.refl _ _⟩,fun ρ' ha=>⟨(hS ρ' ha).1,⟨rfl,?_⟩,fun t x hx=> ?_⟩⟩
  ·rw [get_ofOpt]
   split <;> rfl
  ·rw [efold ρ (Agree.refl _ _)]
   simpa using (spec ρ (Agree.refl _ _)).1
  ·show some b=ρ' l
   rw [ha l hlt,hb]
  ·rw [efold ρ' ha]
   rw [get_ofOpt] at hx
   split at hx
   ·rename_i y hy
    cases hx
    exact (spec ρ' ha).2 t _ hy
   ·cases hx
 refine h1 B M _ _ _ _ hp hR0 _ (fun a1 w1 hR1=> ?_)
 obtain⟨b1,r1,hw1,t1,t2,t3,t4,t5,hb1,hlt1,hturn1⟩:=hR1.loop hp hget1
 have hbe:b1=b:=by
  have e1:=hb1 _ (Agree.refl _ _)
  obtain⟨hr0,_⟩:=hR1.rep.choose_spec
  rw [hr0.2 l hlt] at e1
  exact (Option.some.inj (hb.symm.trans e1)).symm
 subst hbe
 refine⟨_,run_beginRound hw1 t1,?_⟩
 have hR2:=hturn1 .busy pn1 ⟨s1.tmps,s1.heap.set l (.loop .busy pn1 ts1 ps1 as1 bd1),s1.nid,s1.ds,s1.obs,s1.lp,s1.rd,s1.mks,s1.bs⟩ rfl rfl rfl rfl rfl rfl
 subst t2
 refine h2 B M _ _ _ _ hp hR2 _ (fun a2 w2 hR3=> ?_)
 obtain⟨b3,r3,hw3,u1,u2,u3,u4,u5,hb3,hlt3,hturn3⟩:=hR3.loop hp hget2
 have hbe:b3=b1:=by
  have e1:=hb3 _ (Agree.refl _ _)
  obtain⟨hr0,_⟩:=hR3.rep.choose_spec
  rw [hr0.2 l hlt] at e1
  exact (Option.some.inj (hb.symm.trans e1)).symm
 subst hbe
 have fin:∃ v w',(Instr.endRound b3 (jumpOf x)).run X.P w2= .ok v w'∧∃ ρ1 v',Agree n ρ ρ1∧Ending.returned v= .returned v'∧Keeps B M w w'∧∀ ρ',Agree s2.nid ρ1 ρ'→v'=rv ρ' (.bool (goesOn x))∧Sim X.P B M ρ' (s2.heap.set l (.loop (stateOf x) (jumpOf x) ts2 ps2 as2 bd2)) w':=by
  have hR4:=hturn3 (stateOf x) (jumpOf x) ⟨s2.tmps,s2.heap.set l (.loop (stateOf x) (jumpOf x) ts2 ps2 as2 bd2),s2.nid,s2.ds,s2.obs,s2.lp,s2.rd,s2.mks,s2.bs⟩ rfl rfl rfl rfl rfl rfl
  obtain⟨ρ1,hρ0,hρ1⟩:=hR4.rep
  refine⟨_,_,run_endRound (jumpOf x) hw3,ρ1,_,hρ0.2,rfl,?_,fun ρ' ha=>⟨?_,?_⟩⟩
  ·have:=hR4.keeps
   cases x <;> exact this
  ·cases x <;> simp [rv,jumpOf,goesOn]
  ·have:=(hρ1 ρ' ha).1
   cases x <;> exact this
 cases x with
 | normal=>exact fin
 | ret=>exact fin
 | exit id=>exact fin
def evBody (X:Cx) (q:Bool) (o:Oper) (conds:List (Nat×Bool)) (tmps:List TV) (H:Heap) (n:Nat) (ds:List Bool):Option CR:=
 match globsOk X.P o with
 | false=>none
 | true=>
  match s2b X.P X.auto (evo tmps conds) o.op with
  | some (e,k,ns,m,ob)=>match q with
   | true=>none
   | false=>some ⟨.slice (some ⟨n,0,some (n+1)⟩) m 0,(n, .row e 1 (.ints k ns) (n+1)) ::H,n+2,ob,ds⟩
  | none=>
  match o.op with
  | .pick c x y=>match noGlob x && noGlob y with
   | false=>none
   | true=>match evPick X.gd tmps conds c x y with
    | some v=>some ⟨v,H,n,[],ds⟩
    | none=>none
  | .call c=>match c.callee with
   | .value f=>match evo tmps conds f,evArgs (evo tmps conds) c.args.toList with
    | some (.func (.func fid) ⟨first⟩ ⟨cap⟩),some args=>
     match X.pc fid (first++args++cap) with
     | some (v,l)=>some ⟨v,H,n,l,ds⟩
     | none=>match q with
      | true=>none
      | false=>X.call fid (first++args++cap) H n ds
    | some (.func (.yield l) ⟨[]⟩ _),some args=>match q with
     | true=>none
     | false=>evYield X l args H n ds
    | _,_=>none
   | .builtin b=>match evArgs (evo tmps conds) c.args.toList with
    | some args=>match isApp b with
     | true=>match q with
      | true=>none
      | false=>match evAppend X.P X.auto c.argTypes.toList H n args with
       | some (v,H',l)=>some ⟨v,H',n+2,l,ds⟩
       | none=>none
     | false=>match isEff b with
      | true=>match q with
       | true=>none
       | false=>match evEffB X.P X.auto b c.argTypes.toList H args with
        | some (v,H',l)=>some ⟨v,H',n,l,ds⟩
        | none=>none
      | false=>match evBuiltin X.P b c.argTypes.toList args with
       | some v=>some ⟨v,H,n,[],ds⟩
       | none=>match evLook H b args with
        | some v=>some ⟨v,H,n,[],ds⟩
        | none=>none
    | none=>none
   | _=>none
  | _=>match evOp X.P X.auto (evo tmps conds) o H n ds with
   | some r=>match stillOp o.op with
    | true=>some ⟨r.v,H,n,r.obs,ds⟩
    | false=>match q with
     | false=>some ⟨r.v,r.h,n+1,r.obs,r.ds⟩
     | true=>none
   | none=>none
theorem Agree.succ {n:Nat} {ρ ρ':Num} (h:Agree (n+1) ρ ρ'):Agree n ρ ρ':=fun i hi=>h i (by omega)
theorem evBody_sound {X:Cx} {J:Inv X.P} (hX:CxOk X J) {q:Bool} {o:Oper} {conds:List (Nat×Bool)} {tmps:List TV} {H:Heap} {n:Nat} {ds:List Bool} {r:CR} (h:evBody X q o conds tmps H n ds=some r) (hl:allP r.obs)
  {B:Nat} {M:Nat→Prop} (hp:Par X.P B M) {ρ:Num} {β:Nat→Bool} (hc:V β conds) {a:Act} {w:World} (hB:B≤w.heap.size) (hI:J.I w)
  (hS:∀ ρ',Agree n ρ ρ'→Sim X.P B M ρ' H w) (hT:∀ ρ',Agree n ρ ρ'→∀ t, .tmp t∈o.op.operands.toList→TRel ρ' β (getT tmps t) (a.tmps.getD t undef))
  {rb:Option Nat} {K:Act→World→Prop} {Q:Exit→Act→World→Prop}
  (hK:∀ v w' ρ1,Agree n ρ ρ1→n≤r.n→(∀ ρ',Agree r.n ρ1 ρ'→v=rv ρ' r.v∧Sim X.P B M ρ' r.h w')→Keeps B M w w'→
   (q=true→r.h=H∧r.ds=ds∧r.n=n∧Below w.heap.size w w'∧ρ1=ρ)→K (a.put o.dst v) w'):
  o.wpIn (Fl rb) 0 X.P a w K Q:=by
 unfold evBody at h
 split at h
 case h_1=>cases h
 rename_i hglob
 have hglob':∀ x∈o.op.operands.toList,∀ g,x= .global g→g < X.P.globals.size:=by
  intro x hx g e
  subst e
  have:=List.all_eq_true.1 hglob _ hx
  simpa [Nat.blt_eq] using this
 have hev:∀ ρ',Agree n ρ ρ'→∀ x∈o.op.operands.toList,∀ y,evo tmps conds x=some y→a.eval x=rv ρ' y:=fun ρ' ha x hx y hy=>
  evo_sound (hS ρ' ha) hc hy (fun t e=>hT ρ' ha t (e ▸ hx)) (hglob' x hx)
 have still:∀ {v:Value},(∀ ρ',Agree n ρ ρ'→(execOp a.eval o).run X.P w= .ok (.value (rv ρ' v)) w)→(∀ c,o.op≠ .defer c)→r.v=v→r.h=H→r.n=n→r.ds=ds→o.wpIn (Fl rb) 0 X.P a w K Q:=by
  intro v h1 hnd h2 h3 h4 h5
  refine wpIn_Fl hnd ?_
  rw [h1 ρ (Agree.refl _ _),Oper.uponIn_value]
  refine hK _ w ρ (Agree.refl _ _) (by omega) (fun ρ' ha=> ?_) (Keeps.refl _ _ _) (fun _=>⟨h3,h5,h4,Below.refl _ _,rfl⟩)
  have ha':Agree n ρ ρ':=fun i hi=>ha i (by omega)
  refine⟨?_,by rw [h3]; exact hS ρ' ha'⟩
  have e1:=h1 ρ (Agree.refl _ _)
  rw [h1 ρ' ha'] at e1
  rw [h2]
  injection e1 with e1
  injection e1 with e1
  exact e1.symm
 split at h
 ·
  rename_i e k ns m ob hs2
  split at h
  ·cases h
  cases h
  obtain⟨hnd,w',cap,hex,hk,hsim⟩:=s2b_run (a:=a.eval) (M:=M) hs2 hl (hev ρ (Agree.refl _ _)) hB n
  refine wpIn_Fl hnd ?_
  rw [hex,Oper.uponIn_value]
  refine hK _ w' (fun i=>if i=n then some w.heap.size else if i=n+1 then some cap else ρ i) (fun i hi=> ?_) (by simp) (fun ρ' ha=> ?_) hk (fun h=>by cases h)
  ·show (if i=n then some w.heap.size else if i=n+1 then some cap else ρ i)=ρ i
   rw [if_neg (by omega),if_neg (by omega)]
  ·have h1:=ha n (by simp)
   have h2:=ha (n+1) (by simp)
   simp only [if_true] at h1
   simp only [show n+1≠n by omega,if_false,if_true] at h2
   refine⟨?_,hsim ρ' H (hS ρ' (fun i hi=> ?_)) h1 h2⟩
   ·simp only [rv,rSl,h1,h2,Option.getD_some,Nat.sub_zero]
   ·have:=ha i (by simp; omega)
    simp only [show i≠n by omega,show i≠n+1 by omega,if_false] at this
    exact this
 split at h
 ·
  rename_i c x y ho
  split at h
  case h_1=>cases h
  rename_i hng
  simp only [Bool.and_eq_true] at hng
  split at h
  case h_2=>cases h
  rename_i v hv
  cases h
  refine still (v:=v) (fun ρ' ha=> ?_) (by rw [ho]; intro c hc; cases hc) rfl rfl rfl rfl
  have:=evPick_sound (a:=a) (hS ρ' ha) hc hv (fun t e=>hT ρ' ha t (by
   rw [ho]; simp only [Op.operands]
   rcases e with e | e | e <;> simp [e])) hng.1 hng.2
  simp only [execOp,ho]
  exact this
 ·
  rename_i c ho
  split at h
  ·rename_i f hcal
   split at h
   case h_3=>cases h
   case h_2=>
    rename_i l cap args hf hargs
    split at h
    case h_1=>cases h
    have hfm:f∈o.op.operands.toList:=by rw [ho]; simp [Op.operands,Call.operands,hcal]
    have ham:∀ x∈c.args.toList,x∈o.op.operands.toList:=fun x hx=>by rw [ho]; simp [Op.operands,Call.operands,hcal]; exact .inr (by simpa using hx)
    have e2:∀ ρ',Agree n ρ ρ'→(c.args.map a.eval).toList=rvL ρ' args:=fun ρ' ha=>by
     have:=evArgs_sound (a:=a.eval) (ρ:=ρ') c.args.toList args (fun x hx y hy=>hev ρ' ha x (ham x hx) y hy) hargs
     simpa using this
    obtain⟨hn,b,fn,tmps1,asg,bd,hb,hrun,hround⟩:=evYield_sound hX h hl hp hB hI (vs:=(c.args.map a.eval).toList) (rb:=rb) (fun ρ' ha=>⟨hS ρ' ha,e2 ρ' ha⟩)
    refine wpIn_Fl (by rw [ho]; intro c hc; cases hc) ?_
    have hex:(execOp a.eval o).run X.P w= .ok (.round b fn tmps1 asg bd) w:=by
     have e1:=hev ρ (Agree.refl _ _) f hfm _ hf
     simp only [execOp,ho,resolve,hcal,e1,rv,rvA,rvL,rFn,hb,Option.getD_some,Deferred.ofValue,pure_bind,invoke]
     have e0:(⟨(c.args.map a.eval).toList⟩:Array Value)=c.args.map a.eval:=rfl
     rw [e0] at hrun
     simpa using hrun
    rw [hex,Oper.uponIn_round]
    refine⟨fun h=>(by cases h),hround.mono fun e w' hh=> ?_⟩
    obtain⟨ρ1,v,ha1,he,hk,hfin⟩:=hh
    subst he
    exact hK v w' ρ1 ha1 hn hfin hk (fun hq'=>by cases hq')
   rename_i fid first cap args hf hargs
   have hfm:f∈o.op.operands.toList:=by rw [ho]; simp [Op.operands,Call.operands,hcal]
   have ham:∀ x∈c.args.toList,x∈o.op.operands.toList:=fun x hx=>by rw [ho]; simp [Op.operands,Call.operands,hcal]; exact .inr (by simpa using hx)
   have hrunx:∀ ρ',Agree n ρ ρ'→(execOp a.eval o).run X.P w=(callFunc fid ⟨rvL ρ' (first++args++cap)⟩).run X.P w:=by
    intro ρ' ha
    have e1:=hev ρ' ha f hfm _ hf
    have e2:=evArgs_sound (a:=a.eval) (ρ:=ρ') c.args.toList args (fun x hx y hy=>hev ρ' ha x (ham x hx) y hy) hargs
    have e3:c.args.map a.eval=⟨rvL ρ' args⟩:=by apply Array.ext'; simpa using e2
    simp only [execOp,ho,resolve,hcal,e1,e3,rv,rvA,rFn,Deferred.ofValue,pure_bind,invoke]
    have e4:((⟨rvL ρ' first⟩:Array Value)++(⟨rvL ρ' args⟩:Array Value)++(⟨rvL ρ' cap⟩:Array Value))=⟨rvL ρ' (first++args++cap)⟩:=by
     simp [rvL_eq]
    rw [e4]
   have hrun:∀ ρ',Agree n ρ ρ'→Enters X.P fid→(execOp a.eval o).run X.P w= .ok (.enter fid ⟨rvL ρ' (first++args++cap)⟩) w:=by
    intro ρ' ha hent
    rw [hrunx ρ' ha]
    exact hent _ _
   split at h
   ·rename_i v l hpc
    cases h
    obtain⟨hpl,hpv,⟨hent,hcalls⟩ | hext⟩:=hX.pc _ _ _ _ hpc hl
    ·refine wpIn_Fl (by rw [ho]; intro c hc; cases hc) ?_
     rw [hrun ρ (Agree.refl _ _) hent,Oper.uponIn_enter,rvL_pure ρ _ hpl]
     refine⟨fun h=>(by cases h),callsIn_Fl ((hcalls w hI).mono fun e w' ⟨he,hb⟩=> ?_)⟩
     subst he
     refine hK v w' ρ (Agree.refl _ _) (Nat.le_refl _) (fun ρ' ha=>⟨(rv_pure ρ' v hpv).symm,(hS ρ' ha).below hb⟩) (Keeps.of_below hb hB) (fun _=>⟨rfl,rfl,rfl,hb,rfl⟩)
    ·refine wpIn_Fl (by rw [ho]; intro c hc; cases hc) ?_
     rw [hrunx ρ (Agree.refl _ _),rvL_pure ρ _ hpl,hext w hI,Oper.uponIn_value]
     exact hK v w ρ (Agree.refl _ _) (Nat.le_refl _) (fun ρ' ha=>⟨(rv_pure ρ' v hpv).symm,hS ρ' ha⟩) (Keeps.refl _ _ _) (fun _=>⟨rfl,rfl,rfl,Below.refl _ _,rfl⟩)
   ·split at h
    ·cases h
    ·rename_i hq
     obtain⟨hn,hcl⟩:=call_sound hX h hl
     refine wpIn_does (by rw [ho]; intro c hc; cases hc) (hrunx ρ (Agree.refl _ _)) ((hcl B M ρ w _ hp hB hI (fun ρ' ha=>⟨hS ρ' ha,?_⟩)).mono fun e w' hh=> ?_)
     ·have e1:=hev ρ (Agree.refl _ _) f hfm _ hf
      have e1':=hev ρ' ha f hfm _ hf
      have e2:=evArgs_sound (a:=a.eval) (ρ:=ρ) c.args.toList args (fun x hx y hy=>hev ρ (Agree.refl _ _) x (ham x hx) y hy) hargs
      have e2':=evArgs_sound (a:=a.eval) (ρ:=ρ') c.args.toList args (fun x hx y hy=>hev ρ' ha x (ham x hx) y hy) hargs
      rw [e1] at e1'
      simp only [rv,rvA] at e1'
      injection e1' with _ g1 g2
      injection g1 with g1
      injection g2 with g2
      rw [e2] at e2'
      rw [rvL_append,rvL_append,rvL_append,rvL_append,g1,g2,e2']
     ·obtain⟨ρ1,v,ha1,he,hk,hfin⟩:=hh
      exact⟨v,he,hK v w' ρ1 ha1 hn hfin hk (fun hq'=>by cases hq')⟩
  ·rename_i b hcal
   split at h
   case h_2=>cases h
   rename_i args hargs
   have ham:∀ x∈c.args.toList,x∈o.op.operands.toList:=fun x hx=>by rw [ho]; simp [Op.operands,Call.operands,hcal]; simpa using hx
   split at h
   ·rename_i happ
    have happ:=isApp_spec happ
    subst happ
    split at h
    ·cases h
    rename_i hq
    split at h
    case h_2=>cases h
    rename_i v H' l hv
    cases h
    have e2:∀ ρ',Agree n ρ ρ'→(c.args.map a.eval).toList=rvL ρ' args:=fun ρ' ha=>by
     have:=evArgs_sound (a:=a.eval) (ρ:=ρ') c.args.toList args (fun x hx y hy=>hev ρ' ha x (ham x hx) y hy) hargs
     simpa using this
    have e3:c.args.map a.eval=(rvL ρ args).toArray:=by apply Array.ext'; exact e2 ρ (Agree.refl _ _)
    obtain⟨v',w',ρ1,ha1,hrun,hk,hfin⟩:=evAppend_sound hv hl hB hS (fun ρ' ha=>(e2 ρ' ha).symm.trans (e2 ρ (Agree.refl _ _))) o.type
    refine wpIn_Fl (by rw [ho]; intro c hc; cases hc) ?_
    have hex:(execOp a.eval o).run X.P w= .ok (.value v') w':=by
     simp only [execOp,ho,resolve,hcal,e3,pure_bind,invoke,builtin]
     have:(c.argTypes.toList.toArray:Array TypeId)=c.argTypes:=by simp
     rw [this] at hrun
     simp [hrun]
    rw [hex,Oper.uponIn_value]
    exact hK v' w' ρ1 ha1 (by simp) hfin hk (fun hq'=>by cases hq')
   split at h
   ·split at h
    ·cases h
    split at h
    case h_2=>cases h
    rename_i v H' l hv
    cases h
    have e2:∀ ρ',Agree n ρ ρ'→(c.args.map a.eval).toList=rvL ρ' args:=fun ρ' ha=>by
     have:=evArgs_sound (a:=a.eval) (ρ:=ρ') c.args.toList args (fun x hx y hy=>hev ρ' ha x (ham x hx) y hy) hargs
     simpa using this
    have e3:c.args.map a.eval=(rvL ρ args).toArray:=by apply Array.ext'; exact e2 ρ (Agree.refl _ _)
    obtain⟨v',w',ρ1,ha1,hrun,hk,hfin⟩:=evEffB_sound hv hl hS (fun ρ' ha=>(e2 ρ' ha).symm.trans (e2 ρ (Agree.refl _ _))) o.type (c.args.map fun | .const _=>true | _=>false)
    refine wpIn_Fl (by rw [ho]; intro c hc; cases hc) ?_
    have hex:(execOp a.eval o).run X.P w= .ok (.value v') w':=by
     simp only [execOp,ho,resolve,hcal,e3,pure_bind,invoke]
     exact hrun
    rw [hex,Oper.uponIn_value]
    exact hK v' w' ρ1 ha1 (Nat.le_refl _) hfin hk (fun hq'=>by cases hq')
   have e3:∀ ρ',Agree n ρ ρ'→c.args.map a.eval=⟨rvL ρ' args⟩:=fun ρ' ha=>by
    have e2:=evArgs_sound (a:=a.eval) (ρ:=ρ') c.args.toList args (fun x hx y hy=>hev ρ' ha x (ham x hx) y hy) hargs
    apply Array.ext'; simpa using e2
   split at h
   ·rename_i v hv
    cases h
    refine still (v:=v) (fun ρ' ha=> ?_) (by rw [ho]; intro c hc; cases hc) rfl rfl rfl rfl
    simp only [execOp,ho,resolve,hcal,e3 ρ' ha,pure_bind,invoke]
    exact evBuiltin_sound hv ρ' w _ _
   ·split at h
    case h_2=>cases h
    rename_i v hv
    cases h
    refine still (v:=v) (fun ρ' ha=> ?_) (by rw [ho]; intro c hc; cases hc) rfl rfl rfl rfl
    simp only [execOp,ho,resolve,hcal,e3 ρ' ha,pure_bind,invoke]
    exact evLook_sound (hS ρ' ha) hv _ _ _
  ·cases h
 ·
  split at h
  case h_2=>cases h
  rename_i r0 hr0
  split at h
  ·rename_i hst
   cases h
   have each:∀ ρ',Agree n ρ ρ'→_:=fun ρ' ha=>
    evOp_sound (a:=a.eval) (hS ρ' ha) hB (fun hs=>by rw [hst] at hs; cases hs) (fun x hx y hy=>hev ρ' ha x hx y hy) hr0 hl
   obtain⟨nx,w',h1,h2,h3,h4,h5⟩:=each _ (Agree.refl _ _)
   obtain⟨h6,h7,h8⟩:=h5 hst
   subst h8
   have all:∀ ρ',Agree n ρ ρ'→NextVal nx (rv ρ' r0.v):=by
    intro ρ' ha
    obtain⟨nx2,w2,g1,g2,g3,_⟩:=each ρ' ha
    rw [h1] at g1
    cases g1
    exact g2
   refine wpIn_Fl (evOp_nodefer hr0) ?_
   rcases h2 with hnx | ⟨hnx,hu⟩
   ·rw [h1,hnx,Oper.uponIn_value]
    refine hK _ _ ρ (Agree.refl _ _) (Nat.le_refl _) (fun ρ' ha=>⟨?_,hS ρ' ha⟩) (Keeps.refl _ _ _) (fun _=>⟨rfl,rfl,rfl,Below.refl _ _,rfl⟩)
    rcases all ρ' ha with e | ⟨e,_⟩
    ·rw [hnx] at e; injection e
    ·rw [hnx] at e; cases e
   ·rw [h1,hnx,Oper.uponIn_skip]
    refine hK _ _ ρ (Agree.refl _ _) (Nat.le_refl _) (fun ρ' ha=>⟨?_,hS ρ' ha⟩) (Keeps.refl _ _ _) (fun _=>⟨rfl,rfl,rfl,Below.refl _ _,rfl⟩)
    rcases all ρ' ha with e | ⟨_,e⟩
    ·rw [hnx] at e; cases e
    ·exact e.symm
  ·split at h
   case h_2=>cases h
   cases h
   have each:∀ ρ',Agree (n+1) (fun i=>if i=n then some w.heap.size else ρ i) ρ'→_:=fun ρ' ha=>
    evOp_sound (a:=a.eval) (hS ρ' (fun i hi=>by rw [ha i (by omega)]; simp [Nat.ne_of_lt hi])) hB (fun _=>by rw [ha n (by omega)]; simp)
     (fun x hx y hy=>hev ρ' (fun i hi=>by rw [ha i (by omega)]; simp [Nat.ne_of_lt hi]) x hx y hy) hr0 hl
   obtain⟨nx,w',h1,h2,h3,h4,h5⟩:=each _ (Agree.refl _ _)
   have all:∀ ρ',Agree (n+1) (fun i=>if i=n then some w.heap.size else ρ i) ρ'→NextVal nx (rv ρ' r0.v)∧Sim X.P B M ρ' r0.h w':=by
    intro ρ' ha
    obtain⟨nx2,w2,g1,g2,g3,_⟩:=each ρ' ha
    rw [h1] at g1
    cases g1
    exact⟨g2,g3⟩
   have hag:Agree n ρ (fun i=>if i=n then some w.heap.size else ρ i):=fun i hi=>by simp [Nat.ne_of_lt hi]
   refine wpIn_Fl (evOp_nodefer hr0) ?_
   rcases h2 with hnx | ⟨hnx,hu⟩
   ·rw [h1,hnx,Oper.uponIn_value]
    refine hK _ w' _ hag (by simp) (fun ρ' ha=>⟨?_,(all ρ' ha).2⟩) h4 (fun hq'=>by cases hq')
    rcases (all ρ' ha).1 with e | ⟨e,_⟩
    ·rw [hnx] at e; injection e
    ·rw [hnx] at e; cases e
   ·rw [h1,hnx,Oper.uponIn_skip]
    refine hK _ w' _ hag (by simp) (fun ρ' ha=>⟨?_,(all ρ' ha).2⟩) h4 (fun hq'=>by cases hq')
    rcases (all ρ' ha).1 with e | ⟨_,e⟩
    ·rw [hnx] at e; cases e
    ·exact e.symm
end
end Go.Proofs.YtdgfhijnconaoaaGreatDoor.Ev
namespace Go.Proofs.YtdgfhijnconaoaaGreatDoor.Ev
open Go Go.RowKit Go.Shelf
noncomputable section
def kvP:KV→Nat→Bool→Prop
 | [],_,_=>True
 | (j,b) ::r,i,want=>match Nat.beq j i with
  | true=>b=want
  | false=>kvP r i want
def condP (kv:KV):List (Nat×Bool)→Prop
 | [] =>True
 | [(j,want)] =>kvP kv j want
 | (j,want) ::r=>kvP kv j want∧condP kv r
def wrapObs (kv:KV) (conds:List (Nat×Bool)) (obs:List Prop):List Prop:=
 match conds with
 | [] =>obs
 | _=>obs.map fun p=>condP kv conds→p
theorem kvP_of {kv:KV} {β:Nat→Bool} (h:KVok kv β) {j:Nat} {want:Bool} (hv:β j=want):kvP kv j want:=by
 induction kv with
 | nil=>trivial
 | cons p kv ih=>
  obtain⟨i,b⟩:=p
  obtain⟨h1,h2⟩:=h.cons
  simp only [kvP]
  split
  ·rename_i hb
   have:=Nat.eq_of_beq_eq_true hb
   subst this
   rw [← h1,hv]
  ·exact ih h2
theorem condP_of {kv:KV} {β:Nat→Bool} (h:KVok kv β):∀ {l:List (Nat×Bool)},V β l→condP kv l
 | [],_=>trivial
 | [(j,want)],hv=>kvP_of h (hv (j,want) (by simp))
 | (j,want) ::q ::r,hv=>by
  obtain⟨h1,h2⟩:=V_cons.1 hv
  exact⟨kvP_of h h1,condP_of h h2⟩
theorem wrapObs_sound {kv:KV} {β:Nat→Bool} (h:KVok kv β) {conds:List (Nat×Bool)} (hv:V β conds) {obs:List Prop} (ho:allP (wrapObs kv conds obs)):allP obs:=by
 unfold wrapObs at ho
 split at ho
 ·exact ho
 ·rename_i hne
  clear hne
  induction obs with
  | nil=>trivial
  | cons p obs ih=>
   simp only [List.map_cons,allP] at ho
   exact⟨ho.1 (condP_of h hv),ih ho.2⟩
def setT (ts:List TV) (d:Option Nat) (x:TV):List TV:=match d with
 | none=>ts
 | some d=>setF ts d x
def resT (conds:List (Nat×Bool)) (v:Value):TV:=match conds with
 | [] => .v v
 | l=> .sp l v
def hasC (conds:List (Nat×Bool)):Bool:=match conds with
 | [] =>false
 | _=>true
def kvH:KV→Nat→Bool→Prop
 | [],_,_=>False
 | (j,b) ::r,i,want=>match Nat.beq j i with
  | true=>b=want
  | false=>kvH r i want
def condH (kv:KV):List (Nat×Bool)→Prop
 | [] =>True
 | [(j,want)] =>kvH kv j want
 | (j,want) ::r=>kvH kv j want∧condH kv r
theorem kvH_of {kv:KV} {β:Nat→Bool} (h:KVok kv β) {j:Nat} {want:Bool} (hv:kvH kv j want):β j=want:=by
 induction kv with
 | nil=>exact hv.elim
 | cons p kv ih=>
  obtain⟨i,b⟩:=p
  obtain⟨h1,h2⟩:=h.cons
  simp only [kvH] at hv
  split at hv
  ·rename_i hb
   have:=Nat.eq_of_beq_eq_true hb
   subst this
   rw [h1,hv]
  ·exact ih h2 hv
theorem condH_of {kv:KV} {β:Nat→Bool} (h:KVok kv β):∀ {l:List (Nat×Bool)},condH kv l→V β l
 | [],_=>V_nil _
 | [(_,_)],hv=>V_cons.2 ⟨kvH_of h hv,V_nil _⟩
 | (_,_) ::_ ::_,hv=>V_cons.2 ⟨kvH_of h hv.1,condH_of h hv.2⟩
def evAnd (X:Cx) (q:Bool) (o:Oper) (conds:List (Nat×Bool)) (tmps:List TV) (H:Heap) (n:Nat) (ds:List Bool) (kv:KV):Option CR:=
 match evBody X (q || hasC conds) o conds tmps H n ds with
 | some ⟨v,h,n',ob,ds'⟩=>some ⟨v,h,n',wrapObs kv conds ob,ds'⟩
 | none=>match !q && hasC conds with
  | false=>none
  | true=>match evBody X false o conds tmps H n ds with
   | none=>none
   | some ⟨v,h,n',ob,ds'⟩=>some ⟨v,h,n',condH kv conds ::ob,ds'⟩
theorem evAnd_some {X:Cx} {q:Bool} {o:Oper} {conds:List (Nat×Bool)} {tmps:List TV} {H:Heap} {n:Nat} {ds:List Bool} {kv:KV} {r:CR} (h:evAnd X q o conds tmps H n ds kv=some r):
  (∃ r0,evBody X (q || hasC conds) o conds tmps H n ds=some r0∧r=⟨r0.v,r0.h,r0.n,wrapObs kv conds r0.obs,r0.ds⟩)∨
  (q=false∧hasC conds=true∧evBody X true o conds tmps H n ds=none∧∃ r0,evBody X false o conds tmps H n ds=some r0∧r=⟨r0.v,r0.h,r0.n,condH kv conds ::r0.obs,r0.ds⟩):=by
 unfold evAnd at h
 split at h
 ·rename_i hb
  cases h
  exact .inl ⟨_,hb,rfl⟩
 ·rename_i hb
  split at h
  ·cases h
  ·rename_i hq
   simp only [Bool.and_eq_true,Bool.not_eq_true'] at hq
   split at h
   ·cases h
   ·rename_i hb2
    cases h
    rw [hq.1,hq.2] at hb
    exact .inr ⟨hq.1,hq.2,hb,_,hb2,rfl⟩
def evEff (X:Cx) (q:Bool) (os:List Oper) (o:Oper) (tmps:List TV) (H:Heap) (n:Nat) (ds:List Bool) (kv:KV):Option (List TV×KV×TV×CR):=
 match evGuard X.gd os o tmps kv with
 | none=>none
 | some (true,tmps',kv',_)=>some (tmps',kv', .v undef,⟨undef,H,n,[],ds⟩)
 | some (false,tmps',kv',conds)=>
  match evAnd X q o conds tmps' H n ds kv' with
  | none=>none
  | some ⟨v,h,n',ob,ds'⟩=>some (tmps',kv',resT conds v,⟨v,h,n',ob,ds'⟩)
theorem evEff_eq (X:Cx) (q:Bool) (os:List Oper) (o:Oper) (tmps:List TV) (H:Heap) (n:Nat) (ds:List Bool) (kv:KV):evEff X q os o tmps H n ds kv=
  match evGuard X.gd os o tmps kv with
  | none=>none
  | some (true,tmps',kv',_)=>some (tmps',kv', .v undef,⟨undef,H,n,[],ds⟩)
  | some (false,tmps',kv',conds)=>
   match evAnd X q o conds tmps' H n ds kv' with
   | none=>none
   | some r=>some (tmps',kv',resT conds r.v,r):=by
 unfold evEff
 cases evGuard X.gd os o tmps kv with
 | none=>rfl
 | some p=>
  obtain⟨b,t,k,c⟩:=p
  cases b with
  | false=>
   dsimp only
   generalize evAnd X _ o c t H n ds k=z
   cases z <;> rfl
  | true=>rfl
theorem evBody_quiet {X:Cx} {o:Oper} {conds:List (Nat×Bool)} {tmps:List TV} {H:Heap} {n:Nat} {ds:List Bool} {r:CR} (h:evBody X true o conds tmps H n ds=some r):r.h=H∧r.n=n∧r.ds=ds:=by
 unfold evBody at h
 split at h
 case h_1=>cases h
 cases hsb:s2b X.P X.auto (evo tmps conds) o.op with
 | some eb=>rw [hsb] at h; cases h
 | none=>
 rw [hsb] at h
 dsimp only at h
 split at h
 ·split at h
  ·cases h
  ·split at h
   ·cases h; exact⟨rfl,rfl,rfl⟩
   ·cases h
 ·split at h
  ·split at h
   ·split at h
    ·cases h; exact⟨rfl,rfl,rfl⟩
    ·cases h
   ·cases h
   ·cases h
  ·split at h
   ·split at h
    ·cases h
    ·split at h
     ·cases h
     ·split at h
      ·cases h; exact⟨rfl,rfl,rfl⟩
      ·split at h
       ·cases h; exact⟨rfl,rfl,rfl⟩
       ·cases h
   ·cases h
  ·cases h
 ·split at h
  ·split at h
   ·cases h; exact⟨rfl,rfl,rfl⟩
   ·cases h
  ·cases h
theorem operand_looks {os:List Oper} {o:Oper} {t:Nat} (h:Operand.tmp t∈o.op.operands.toList):t∈looks os o:=by
 unfold looks Oper.looksAt
 exact List.mem_append_left _ (List.mem_filterMap.2 ⟨.tmp t,h,rfl⟩)
theorem evEff_sound {X:Cx} {J:Inv X.P} (hX:CxOk X J) {q:Bool} {os:List Oper} {i:Nat} {o:Oper} (hi:os[i]? =some o) {tmps tmps':List TV} {H:Heap} {n:Nat} {ds:List Bool} {kv kv':KV} {tv:TV} {r:CR}
  (h:evEff X q os o tmps H n ds kv=some (tmps',kv',tv,r)) (hl:allP r.obs)
  {B:Nat} {M:Nat→Prop} (hp:Par X.P B M) {ρ:Num} {Cβ:(Nat→Bool)→Prop} (hne:∃ β,Cβ β) (hCβ:∀ β,Cβ β→KVok kv' β) {a:Act} {w:World} (hB:B≤w.heap.size) (hI:J.I w)
  (hS:∀ ρ',Agree n ρ ρ'→Sim X.P B M ρ' H w) (hT:∀ ρ',Agree n ρ ρ'→∀ β,Cβ β→∀ t∈looks os o,TRel ρ' β (getT tmps t) (a.tmps.getD t undef))
  {rb:Option Nat} {K:Act→World→Prop} {Q:Exit→Act→World→Prop}
  (hK:∀ v w' ρ1,Agree n ρ ρ1→n≤r.n→(∀ ρ',Agree r.n ρ1 ρ'→Sim X.P B M ρ' r.h w'∧∀ β,Cβ β→TRel ρ' β tv v)→Keeps B M w w'→
   (q=true→r.h=H∧r.ds=ds∧r.n=n∧Below w.heap.size w w'∧ρ1=ρ)→K (a.put o.dst v) w'):
  wpOpIn (Fl rb) 0 X.P ⟨os⟩ Q i K a w:=by
 have hoi:(⟨os⟩:Array Oper)[i]? =some o:=by simpa using hi
 unfold wpOpIn
 rw [hoi]
 simp only []
 obtain⟨β0,hβ0⟩:=hne
 rw [evEff_eq] at h
 split at h
 ·cases h
 ·
  rename_i tmps1 kv1 conds1 hg
  cases h
  have g:=evGuard_sound hg (hCβ β0 hβ0) (fun t ht _=>hT ρ (Agree.refl _ _) β0 hβ0 t ht)
  rw [if_neg (by rw [g.2.1 rfl]; simp)]
  refine⟨about_Fl,?_⟩
  exact hK undef w ρ (Agree.refl _ _) (Nat.le_refl _) (fun ρ' ha=>⟨hS ρ' ha,fun β _=>(rv_undef ρ').symm⟩) (Keeps.refl _ _ _) (fun _=>⟨rfl,rfl,rfl,Below.refl _ _,rfl⟩)
 ·rename_i tmps1 kv1 conds hg
  split at h
  ·cases h
  ·rename_i r1 hand
   cases h
   have g:∀ ρ',Agree n ρ ρ'→∀ β,Cβ β→_:=fun ρ' ha β hβ=>evGuard_sound hg (hCβ β hβ) (fun t ht _=>hT ρ' ha β hβ t ht)
   have hw:∀ β,Cβ β→(Region.wanted o (yielded ⟨os⟩ a.tmps)=true↔V β conds):=fun β hβ=>(g ρ (Agree.refl _ _) β hβ).2.2.1 rfl
   have run:∀ (q':Bool) (r0:CR),(q=true→q'=true)→r.v=r0.v→r.h=r0.h→r.n=r0.n→r.ds=r0.ds→evBody X q' o conds tmps' H n ds=some r0→allP r0.obs→V β0 conds→
     (if Region.wanted o (yielded ⟨os⟩ a.tmps)=true then o.wpIn (Fl rb) 0 X.P a w K Q else (∀ f,o.about X.P w a.eval=some f→(Fl rb).fn f)∧K (a.put o.dst undef) w):=by
    intro q' r0 hqq e1 e2 e3 e4 hb hl0 hV
    have hwt:=(hw β0 hβ0).2 hV
    rw [if_pos hwt]
    refine evBody_sound hX hb hl0 hp (ρ:=ρ) (β:=β0) hV hB hI hS (fun ρ' ha t ht=> ?_) (fun v w' ρ1 ha hn hfin hk hq=> ?_)
    ·exact ((g ρ' ha β0 hβ0).2.2.2 t _).1 (hT ρ' ha β0 hβ0 t (operand_looks ht))
    ·refine hK v w' ρ1 ha (by omega) (fun ρ' ha'=> ?_) hk (fun hq'=> ?_)
     ·rw [e3] at ha'
      rw [e2,e1]
      refine⟨(hfin ρ' ha').2,fun β hβ=> ?_⟩
      have hVβ:=(hw β hβ).1 hwt
      unfold resT
      split
      ·exact (hfin ρ' ha').1
      ·exact⟨fun _=>(hfin ρ' ha').1,fun hn=>absurd hVβ hn⟩
     ·obtain⟨f1,f2,f3,f4,f5⟩:=hq (hqq hq')
      exact⟨e2.trans f1,e4.trans f2,e3.trans f3,f4,f5⟩
   rcases evAnd_some hand with ⟨r0,hb,er⟩ | ⟨hq0,hc,_,r0,hb,er⟩
   ·subst er
    by_cases hV:V β0 conds
    ·exact run _ r0 (fun h=>by simp [h]) rfl rfl rfl rfl hb (wrapObs_sound (hCβ β0 hβ0) hV hl) hV
    ·have hwt:Region.wanted o (yielded ⟨os⟩ a.tmps)=false:=by
      cases hw':Region.wanted o (yielded ⟨os⟩ a.tmps)
      ·rfl
      ·exact absurd ((hw β0 hβ0).1 hw') hV
     have hcne:conds≠[] :=fun e=>by subst e; exact hV (V_nil _)
     have hq1:(q || hasC conds)=true:=by
      cases conds with
      | nil=>exact absurd rfl hcne
      | cons _ _=>simp [hasC]
     rw [hq1] at hb
     obtain⟨e1,e2,e3⟩:=evBody_quiet hb
     rw [if_neg (by rw [hwt]; simp)]
     refine⟨about_Fl,?_⟩
     refine hK undef w ρ (Agree.refl _ _) (by show n≤r0.n; omega) (fun ρ' ha=>⟨?_,fun β hβ=> ?_⟩) (Keeps.refl _ _ _) (fun _=>⟨e1,e3,e2,Below.refl _ _,rfl⟩)
     ·show Sim X.P B M ρ' r0.h w
      rw [e1]
      exact hS ρ' (by rw [show r0.n=n from e2] at ha; exact ha)
     ·unfold resT
      split
      ·exact absurd rfl hcne
      ·refine⟨fun hv=> ?_,fun _=>rfl⟩
       have:=(hw β hβ).2 hv
       rw [hwt] at this
       cases this
   ·subst er
    exact run false r0 (fun h=>by rw [hq0] at h; cases h) rfl rfl rfl rfl hb hl.2 (condH_of (hCβ β0 hβ0) hl.1)
theorem evGuard_ex {auto:Bool} {os:List Oper} {o:Oper} {tmps tmps':List TV} {kv kv':KV} {sk:Bool} {conds:List (Nat×Bool)} (h:evGuard auto os o tmps kv=some (sk,tmps',kv',conds))
  (hk:∃ β,KVok kv β):(∃ β,KVok kv' β)∧(∀ β,KVok kv' β→KVok kv β)∧tmps'.length=tmps.length:=by
 have new:∀ (j:Nat) (b:Bool),kvGet kv j=false→∃ β,KVok ((j,b) ::kv) β:=by
  intro j b hj
  obtain⟨β,hβ⟩:=hk
  refine⟨fun i=>if i=j then b else β i,fun p hp=> ?_⟩
  rcases List.mem_cons.1 hp with rfl | hp
  ·simp
  ·have hne:p.1≠j:=by
    intro e
    have:∀ (l:KV),p∈l→kvGet l j=false→False:=by
     intro l
     induction l with
     | nil=>intro hp; cases hp
     | cons x l ih=>
      obtain⟨i,c⟩:=x
      intro hp hl
      simp only [kvGet,Bool.or_eq_false_iff] at hl
      rcases List.mem_cons.1 hp with rfl | hp
      ·simp only at e; subst e; simp at hl
      ·exact ih hp hl.2
    exact this kv hp hj
   simp [hne,hβ p hp]
 unfold evGuard at h
 simp only [setF_eq] at h
 split at h
 ·cases h; exact⟨hk,fun _ h=>h,rfl⟩
 ·split at h
  case h_1=>cases h
  split at h
  ·split at h
   ·split at h
    ·split at h <;> (cases h; exact⟨hk,fun _ h=>h,rfl⟩)
    ·cases h; exact⟨hk,fun _ h=>h,rfl⟩
    ·cases h
   ·split at h
    ·split at h
     ·rename_i hj; cases h; exact⟨new _ _ hj,fun _ h=>h.cons.2,by simp⟩
     ·cases h
    ·cases h
  ·split at h
   ·split at h
    ·rename_i hj; cases h; exact⟨new _ _ hj,fun _ h=>h.cons.2,by simp⟩
    ·cases h
   ·cases h
  ·split at h
   ·cases h; exact⟨hk,fun _ h=>h,rfl⟩
   ·cases h
  ·cases h
theorem evEff_ex {X:Cx} {q:Bool} {os:List Oper} {o:Oper} {tmps tmps':List TV} {H:Heap} {n:Nat} {ds:List Bool} {kv kv':KV} {tv:TV} {r:CR}
  (h:evEff X q os o tmps H n ds kv=some (tmps',kv',tv,r)) (hk:∃ β,KVok kv β):(∃ β,KVok kv' β)∧(∀ β,KVok kv' β→KVok kv β)∧tmps'.length=tmps.length:=by
 rw [evEff_eq] at h
 split at h
 ·cases h
 ·rename_i hg; cases h; exact evGuard_ex hg hk
 ·rename_i hg
  split at h
  ·cases h
  ·cases h; exact evGuard_ex hg hk
theorem evEff_slot {X:Cx} {q:Bool} {os:List Oper} {o:Oper} {tmps tmps':List TV} {H:Heap} {n:Nat} {ds:List Bool} {kv kv':KV} {tv:TV} {r:CR}
  (h:evEff X q os o tmps H n ds kv=some (tmps',kv',tv,r)) {ρ:Num} {β:Nat→Bool} (hk:KVok kv' β) {a:Array Value} (hT:∀ t∈looks os o,TRel ρ β (getT tmps t) (a.getD t undef)) (t:Nat) (x:Value):
  TRel ρ β (getT tmps t) x↔TRel ρ β (getT tmps' t) x:=by
 rw [evEff_eq] at h
 split at h
 ·cases h
 ·rename_i hg; cases h; exact (evGuard_sound hg hk (fun t ht _=>hT t ht)).2.2.2 t x
 ·rename_i hg
  split at h
  ·cases h
  ·cases h; exact (evGuard_sound hg hk (fun t ht _=>hT t ht)).2.2.2 t x
def evOper (X:Cx) (q:Bool) (os:List Oper) (o:Oper) (s:St) (kv:KV):Option (St×KV):=
 match s with
 | ⟨tm,hp,nid,ds,obs,lp,rd,mk,bs⟩=>match evEff X q os o tm hp nid ds kv with
  | none=>none
  | some (tmps',kv',tv,⟨_,h,n,ob,ds'⟩)=>some (⟨setT tmps' o.dst tv,h,n,ds',ob++obs,lp,rd,mk,bs⟩,kv')
theorem evOper_eq (X:Cx) (q:Bool) (os:List Oper) (o:Oper) (s:St) (kv:KV):evOper X q os o s kv=
  match evEff X q os o s.tmps s.heap s.nid s.ds kv with
  | none=>none
  | some (tmps',kv',tv,r)=>some (⟨setT tmps' o.dst tv,r.h,r.n,r.ds,r.obs++s.obs,s.lp,s.rd,s.mks,s.bs⟩,kv'):=by
 unfold evOper
 dsimp only
 generalize evEff X q os o _ _ _ _ kv=z
 cases z <;> rfl
structure RepR (P:Program) (J:Inv P) (B:Nat) (M:Nat→Prop) (w0:Bas) (kv:KV) (s:St) (a:Act) (w:World):Prop where
 size:a.tmps.size=s.tmps.length
 defers:a.defers=w0.dfs
 base:B≤w.heap.size
 inv:J.I w
 keeps:Keeps B M w0.w w
 keys:∃ β,KVok kv β
 rep:∃ ρ,(w0.n≤s.nid∧Agree w0.n w0.ρ ρ)∧∀ ρ',Agree s.nid ρ ρ'→Sim P B M ρ' s.heap w∧∀ β,KVok kv β→∀ t,TRel ρ' β (getT s.tmps t) (a.tmps.getD t undef)
theorem put_size (a:Act) (d:Option Nat) (v:Value):(a.put d v).tmps.size=a.tmps.size:=by
 cases d <;> simp [Act.put]
theorem put_defers (a:Act) (d:Option Nat) (v:Value):(a.put d v).defers=a.defers:=by
 cases d <;> simp [Act.put]
theorem setT_length (ts:List TV) (d:Option Nat) (x:TV):(setT ts d x).length=ts.length:=by
 cases d <;> simp [setT,setF_eq]
theorem put_getD (a:Act) (d:Option Nat) (v:Value) (t:Nat):(a.put d v).tmps.getD t undef=if d=some t∧t < a.tmps.size then v else a.tmps.getD t undef:=by
 cases d with
 | none=>simp [Act.put]
 | some d=>
  simp only [Act.put,Option.some.injEq]
  by_cases h:d=t
  ·subst h
   by_cases hl:d < a.tmps.size
   ·simp [hl]
   ·simp [hl]
  ·simp [h]
theorem setT_getT (ts:List TV) (d:Option Nat) (x:TV) (t:Nat):getT (setT ts d x) t=if d=some t∧t < ts.length then x else getT ts t:=by
 cases d with
 | none=>simp [setT]
 | some d=>
  simp only [setT,setF_eq,Option.some.injEq]
  by_cases h:d=t
  ·subst h
   by_cases hl:d < ts.length
   ·rw [getT_set _ _ _ _ hl]; simp [hl]
   ·rw [List.set_eq_of_length_le (by omega)]; simp [hl]
  ·by_cases hl:d < ts.length
   ·rw [getT_set _ _ _ _ hl]; simp [h]
   ·rw [List.set_eq_of_length_le (by omega)]; simp [h]
theorem evOper_sound {X:Cx} {J:Inv X.P} (hX:CxOk X J) {os:List Oper} {i:Nat} {o:Oper} (hi:os[i]? =some o) {q:Bool} {s s':St} {kv kv':KV} (h:evOper X q os o s kv=some (s',kv')) (hl:allP s'.obs)
  {B:Nat} {M:Nat→Prop} (hp:Par X.P B M) {w0:Bas} {a:Act} {w:World} (hR:RepR X.P J B M w0 kv s a w) {rb:Option Nat} {K:Act→World→Prop} {Q:Exit→Act→World→Prop}
  (hK:∀ a' w',RepR X.P J B M w0 kv' s' a' w'→K a' w'):wpOpIn (Fl rb) 0 X.P ⟨os⟩ Q i K a w:=by
 rw [evOper_eq] at h
 split at h
 ·cases h
 rename_i tmps' kv1 tv r he
 cases h
 simp only [allP_append] at hl
 obtain⟨hex,hsub,hlen⟩:=evEff_ex he hR.keys
 obtain⟨ρ,hρ0,hρ⟩:=hR.rep
 refine evEff_sound hX hi he hl.1 hp (ρ:=ρ) (Cβ:=KVok kv') hex (fun _ h=>h) hR.base hR.inv (fun ρ' ha=>(hρ ρ' ha).1) (fun ρ' ha β hβ t _=>(hρ ρ' ha).2 β (hsub β hβ) t) (fun v w' ρ1 ha hn hfin hk _=>hK _ _ ?_)
 refine⟨by rw [put_size,setT_length,hlen]; exact hR.size,by rw [put_defers]; exact hR.defers,Nat.le_trans hR.base hk.size,J.keeps hp hk hR.inv,hR.keeps.trans hk,hex,ρ1,⟨Nat.le_trans hρ0.1 hn,hρ0.2.trans ha hρ0.1⟩,fun ρ' ha'=>⟨(hfin ρ' ha').1,fun β hβ t=> ?_⟩⟩
 rw [put_getD,setT_getT,hlen,hR.size]
 split
 ·exact (hfin ρ' ha').2 β hβ
 ·have ha0:Agree s.nid ρ ρ':=fun j hj=>(ha' j (Nat.lt_of_lt_of_le hj hn)).trans (ha j hj)
  have hTt:=fun t=>(hρ ρ' ha0).2 β (hsub β hβ) t
  exact (evEff_slot he hβ (fun t _=>hTt t) t _).1 (hTt t)
def evN (X:Cx) (m:Nat) (os:List Oper) (s0:St):Nat→Option (St×KV)
 | 0=>some (s0,[])
 | i+1=>match evN X m os s0 i with
  | none=>none
  | some (s,kv)=>match nthF os i with
   | none=>none
   | some o=>evOper X (Nat.blt i m) os o s kv
theorem evN_succ {X:Cx} {m:Nat} {os:List Oper} {s0:St} {i:Nat} {s':St} {kv':KV} (h:evN X m os s0 (i+1)=some (s',kv')):
  ∃ s kv o,evN X m os s0 i=some (s,kv)∧os[i]? =some o∧evOper X (Nat.blt i m) os o s kv=some (s',kv'):=by
 simp only [evN,nthF_eq] at h
 split at h
 ·cases h
 ·rename_i s kv hs
  split at h
  ·cases h
  ·rename_i o ho
   exact⟨s,kv,o,hs,ho,h⟩
theorem evOper_obs {X:Cx} {q:Bool} {os:List Oper} {o:Oper} {s s':St} {kv kv':KV} (h:evOper X q os o s kv=some (s',kv')) (hl:allP s'.obs):allP s.obs:=by
 rw [evOper_eq] at h
 split at h
 ·cases h
 ·cases h; exact ((allP_append _ _).1 hl).2
theorem evN_obs {X:Cx} {m:Nat} {os:List Oper} {s0:St} :∀ {j i:Nat} {si sj:St} {ki kj:KV},i≤j→evN X m os s0 i=some (si,ki)→evN X m os s0 j=some (sj,kj)→allP sj.obs→allP si.obs
 | 0,i,si,sj,ki,kj,hij,h1,h2,hl=>by
  obtain rfl:i=0:=by omega
  rw [h1] at h2; cases h2; exact hl
 | j+1,i,si,sj,ki,kj,hij,h1,h2,hl=>by
  by_cases e:i=j+1
  ·subst e; rw [h1] at h2; cases h2; exact hl
  ·obtain⟨s,kv,o,hs,_,ho⟩:=evN_succ h2
   exact evN_obs (by omega) h1 hs (evOper_obs ho hl)
theorem evN_some {X:Cx} {m:Nat} {os:List Oper} {s0:St} :∀ {j i:Nat} {r:St×KV},i≤j→evN X m os s0 j=some r→∃ q,evN X m os s0 i=some q
 | 0,i,r,hij,h=>by
  obtain rfl:i=0:=by omega
  exact⟨r,h⟩
 | j+1,i,r,hij,h=>by
  by_cases e:i=j+1
  ·subst e; exact⟨r,h⟩
  ·obtain⟨s',kv'⟩:=r
   obtain⟨s,kv,o,hs,_,_⟩:=evN_succ h
   exact evN_some (by omega) hs
theorem wpOps_seq {X:Cx} {J:Inv X.P} (hX:CxOk X J) {m:Nat} {os:List Oper} {s0 sn:St} {kn:KV} {B:Nat} {M:Nat→Prop} (hp:Par X.P B M) {w0:Bas} {rb:Option Nat} {Q:Exit→Act→World→Prop} {n:Nat}
  (hn:evN X m os s0 n=some (sn,kn)) (hl:allP sn.obs) (hQ:∀ a w,RepR X.P J B M w0 kn sn a w→Q .normal a w):
  ∀ (k i:Nat) (s:St) (kv:KV) (a:Act) (w:World),i+k=n→evN X m os s0 i=some (s,kv)→RepR X.P J B M w0 kv s a w→wpOpsIn (Fl rb) 0 X.P ⟨os⟩ Q (List.range' i k) a w:=by
 intro k
 induction k with
 | zero=>
  intro i s kv a w hik hs hR
  obtain rfl:i=n:=by omega
  rw [hs] at hn
  cases hn
  simp only [List.range'_zero,wpOpsIn]
  exact hQ a w hR
 | succ k ih=>
  intro i s kv a w hik hs hR
  rw [List.range'_succ,wpOpsIn_cons]
  obtain⟨q1,hq1⟩:=evN_some (i:=i+1) (by omega) hn
  obtain⟨s1,k1⟩:=q1
  obtain⟨s',kv',o,h1,h2,h3⟩:=evN_succ hq1
  rw [hs] at h1
  cases h1
  exact evOper_sound hX h2 h3 (evN_obs (by omega) hq1 hn hl) hp hR (fun a' w' hR'=>ih (i+1) s1 k1 a' w' (by omega) hq1 hR')
def cleanT:TV→TV
 | .v x=> .v x
 | .key _ [] b=> .v (.bool b)
 | _=> .unk
theorem clean_get (ts:List TV) (t:Nat):getT (ts.map cleanT) t=cleanT (getT ts t):=by
 simp only [getT_def]
 rw [List.getElem?_map]
 cases ts[t]? <;> rfl
theorem evN_frame {X:Cx} {m:Nat} {os:List Oper} {s0:St} :∀ {i:Nat} {s:St} {kv:KV},evN X m os s0 i=some (s,kv)→s.rd=s0.rd∧s.mks=s0.mks∧s.bs=s0.bs
 | 0,s,kv,h=>by simp only [evN] at h; cases h; exact⟨rfl,rfl,rfl⟩
 | i+1,s,kv,h=>by
  obtain⟨s1,k1,o,h1,_,h2⟩:=evN_succ h
  obtain⟨e1,e2,e3⟩:=evN_frame h1
  rw [evOper_eq] at h2
  split at h2
  ·cases h2
  ·cases h2; exact⟨e1,e2,e3⟩
theorem Rep.toR {P:Program} {J:Inv P} {B:Nat} {M:Nat→Prop} {w0:Bas} {rb:Option Nat} {s:St} {a:Act} {w:World} (h:Rep P J B M w0 rb s a w):RepR P J B M ⟨w,s.nid,h.rep.choose,a.defers⟩ [] s a w:=by
 obtain⟨hρ0,hρ⟩:=h.rep.choose_spec
 generalize h.rep.choose=ρ at*
 refine⟨h.size,rfl,h.base,h.inv,Keeps.refl _ _ _,⟨fun _=>false,fun p hp=>by cases hp⟩,ρ,⟨Nat.le_refl _,Agree.refl _ _⟩,fun ρ' ha=>⟨(hρ ρ' ha).1,fun β _ t=> ?_⟩⟩
 have:=(hρ ρ' ha).2.2 t
 have hp:=h.plain t
 generalize getT s.tmps t=tv at*
 cases tv with
 | unk=>trivial
 | v y=>exact this y rfl
 | sp l y=>cases hp
 | key j l b=>cases hp
theorem RepR.clean {P:Program} {J:Inv P} {B:Nat} {M:Nat→Prop} {w0:Bas} {rb:Option Nat} {kv:KV} {s0 s:St} {a0 a:Act} {w1 w:World} (h0:Rep P J B M w0 rb s0 a0 w1) (h:RepR P J B M ⟨w1,s0.nid,h0.rep.choose,a0.defers⟩ kv s a w)
  (e1:s.rd=s0.rd) (e2:s.mks=s0.mks) (e3:s.bs=s0.bs):Rep P J B M w0 rb { s with tmps:=s.tmps.map cleanT } a w:=by
 obtain⟨hρ0,hρ⟩:=h0.rep.choose_spec
 obtain⟨ρ2,hρ20,hρ2⟩:=h.rep
 have hdef:=h.defers
 have hkp:=h.keeps
 simp only at hρ20 hdef hkp
 generalize h0.rep.choose=ρ at*
 obtain⟨β,hβ⟩:=h.keys
 refine⟨by show w0.n=s.bs; rw [e3]; exact h0.low,fun t=> ?_,by simpa using h.size,h.base,h.inv,h0.keeps.trans hkp,ρ2,⟨Nat.le_trans hρ0.1 hρ20.1,hρ0.2.trans hρ20.2 hρ0.1⟩,fun ρ' ha=>⟨(hρ2 ρ' ha).1,?_,fun t x hx=> ?_⟩⟩
 ·rw [clean_get]
  generalize getT s.tmps t=tv
  cases tv with
  | key j l b=>cases l <;> rfl
  | _=>rfl
 ·have g:=(hρ ρ' (fun i hi=>(ha i (Nat.lt_of_lt_of_le hi hρ20.1)).trans (hρ20.2 i hi))).2.1
  exact⟨by rw [hdef]; show _=s.mks.map _; rw [e2]; exact g.defers,by show rb=s.rd.bind ρ'; rw [e1]; exact g.round⟩
 have ht:=(hρ2 ρ' ha).2 β hβ t
 rw [clean_get] at hx
 generalize getT s.tmps t=tv at*
 cases tv with
 | unk=>cases hx
 | v y=>cases hx; exact ht
 | sp l y=>cases hx
 | key j l b=>
  cases l with
  | nil=>
   cases hx
   simp only [rv]
   exact ht.2.1 (V_nil β)
  | cons _ _=>cases hx
end
end Go.Proofs.YtdgfhijnconaoaaGreatDoor.Ev
namespace Go.Proofs.YtdgfhijnconaoaaGreatDoor.Ev
open Go Go.RowKit Go.Shelf
noncomputable section
def memN (x:Nat):List Nat→Bool
 | [] =>false
 | y ::r=>Nat.beq x y || memN x r
theorem memN_iff {x:Nat} :∀ {l:List Nat},memN x l=true↔x∈l
 | [] =>by simp [memN]
 | y ::r=>by
  simp only [memN,Bool.or_eq_true,List.mem_cons,memN_iff (l:=r),Nat.beq_eq]
def predsL:List Edge→List Nat
 | [] =>[]
 | e ::r=>match Region.binds .any e with
  | true=>e.on ::predsL r
  | false=>predsL r
def predsOf (o:Oper):List Nat:=predsL o.after.toList
theorem predsOf_iff {o:Oper} {k:Nat} :k∈predsOf o↔∃ e∈o.after,Region.binds .any e=true∧e.on=k:=by
 unfold predsOf
 rw [show (∃ e∈o.after,Region.binds .any e=true∧e.on=k)↔∃ e∈o.after.toList,Region.binds .any e=true∧e.on=k by simp]
 induction o.after.toList with
 | nil=>simp [predsL]
 | cons e r ih=>
  simp only [predsL]
  split
  ·rename_i hb
   simp only [List.mem_cons,ih]
   constructor
   ·rintro (h | ⟨x,hx,h1,h2⟩)
    ·exact⟨e, .inl rfl,hb,h.symm⟩
    ·exact⟨x, .inr hx,h1,h2⟩
   ·rintro ⟨x,rfl | hx,h1,h2⟩
    ·exact .inl h2.symm
    ·exact .inr ⟨x,hx,h1,h2⟩
  ·rename_i hb
   rw [ih]
   simp only [List.mem_cons]
   constructor
   ·rintro ⟨x,hx,h1,h2⟩; exact⟨x, .inr hx,h1,h2⟩
   ·rintro ⟨x,rfl | hx,h1,h2⟩
    ·rw [hb] at h1; cases h1
    ·exact⟨x,hx,h1,h2⟩
def allLt (n:Nat):List Nat→Bool
 | [] =>true
 | x ::r=>Nat.blt x n && allLt n r
theorem allLt_spec {n:Nat} :∀ {l:List Nat},allLt n l=true→∀ x∈l,x < n
 | [],_,x,hx=>by cases hx
 | y ::r,h,x,hx=>by
  simp only [allLt,Bool.and_eq_true,Nat.blt_eq] at h
  rcases List.mem_cons.1 hx with rfl | hx
  ·exact h.1
  ·exact allLt_spec h.2 x hx
def fwdFrom:Nat→List Oper→Bool
 | _,[] =>true
 | i,o ::r=>allLt i (predsOf o) && fwdFrom (i+1) r
theorem fwdFrom_spec:∀ {r:List Oper} {i:Nat},fwdFrom i r=true→∀ k o,r[k]? =some o→∀ e∈predsOf o,e < i+k
 | [],i,_,k,o,ho=>by simp at ho
 | x ::r,i,h,k,o,ho=>by
  simp only [fwdFrom,Bool.and_eq_true] at h
  cases k with
  | zero=>simp only [List.getElem?_cons_zero,Option.some.injEq] at ho; subst ho; exact allLt_spec h.1
  | succ k=>
   simp only [List.getElem?_cons_succ] at ho
   intro e he
   have:=fwdFrom_spec h.2 k o ho e he
   omega
def memO (d:Nat):List Oper→Bool
 | [] =>false
 | o ::r=>(match o.dst with
  | some e=>Nat.beq d e
  | none=>false) || memO d r
def noDup:List Oper→Bool
 | [] =>true
 | o ::r=>(match o.dst with
  | some d=> !memO d r
  | none=>true) && noDup r
theorem memO_false {d:Nat} :∀ {r:List Oper},memO d r=false→∀ (k:Nat) (o:Oper),r[k]? =some o→o.dst≠some d
 | [],_,k,o,ho=>by simp at ho
 | x ::r,h,k,o,ho=>by
  simp only [memO,Bool.or_eq_false_iff] at h
  cases k with
  | zero=>
   simp only [List.getElem?_cons_zero,Option.some.injEq] at ho
   subst ho
   intro e
   rw [e] at h
   simp at h
  | succ k=>simp only [List.getElem?_cons_succ] at ho; exact memO_false h.2 k o ho
theorem noDup_spec:∀ {r:List Oper},noDup r=true→∀ (i k:Nat) (oi ok:Oper) (d:Nat),r[i]? =some oi→r[k]? =some ok→oi.dst=some d→ok.dst=some d→i=k
 | [],_,i,k,oi,ok,d,hi,_,_,_=>by simp at hi
 | x ::r,h,i,k,oi,ok,d,hi,hk,di,dk=>by
  simp only [noDup,Bool.and_eq_true] at h
  cases i with
  | zero=>
   cases k with
   | zero=>rfl
   | succ k=>
    simp only [List.getElem?_cons_zero,Option.some.injEq] at hi
    subst hi
    rw [di] at h
    simp only [Bool.not_eq_true'] at h
    simp only [List.getElem?_cons_succ] at hk
    exact absurd dk (memO_false h.1 k ok hk)
  | succ i=>
   cases k with
   | zero=>
    simp only [List.getElem?_cons_zero,Option.some.injEq] at hk
    subst hk
    rw [dk] at h
    simp only [Bool.not_eq_true'] at h
    simp only [List.getElem?_cons_succ] at hi
    exact absurd di (memO_false h.1 i oi hi)
   | succ k=>
    simp only [List.getElem?_cons_succ] at hi hk
    rw [noDup_spec h.2 i k oi ok d hi hk di dk]
def slotOk (i:Nat) (pi:List Nat) (t:Nat):Nat→List Oper→Bool
 | _,[] =>true
 | k,o ::r=>(match o.dst with
  | some d=> !(Nat.beq d t) || Nat.beq k i || memN k pi || memN i (predsOf o)
  | none=>true) && slotOk i pi t (k+1) r
theorem slotOk_spec {i:Nat} {pi:List Nat} {t:Nat} :∀ {r:List Oper} {k0:Nat},slotOk i pi t k0 r=true→∀ k o,r[k]? =some o→o.dst=some t→k0+k=i∨(k0+k)∈pi∨i∈predsOf o
 | [],k0,_,k,o,ho,_=>by simp at ho
 | x ::r,k0,h,k,o,ho,hd=>by
  simp only [slotOk,Bool.and_eq_true] at h
  cases k with
  | zero=>
   simp only [List.getElem?_cons_zero,Option.some.injEq] at ho
   subst ho
   rw [hd] at h
   simp only [Nat.beq_refl,Bool.not_true,Bool.false_or,Bool.or_eq_true,Nat.beq_eq,memN_iff] at h
   rcases h.1 with (h1 | h1) | h1
   ·exact .inl h1
   ·exact .inr (.inl h1)
   ·exact .inr (.inr h1)
  | succ k=>
   simp only [List.getElem?_cons_succ] at ho
   have:=slotOk_spec h.2 k o ho hd
   rw [show k0+(k+1)=k0+1+k by omega]
   exact this
def slotsOk (hd:List Oper) (i:Nat) (pi:List Nat):List Nat→Bool
 | [] =>true
 | t ::r=>slotOk i pi t 0 hd && slotsOk hd i pi r
theorem slotsOk_spec {hd:List Oper} {i:Nat} {pi:List Nat} :∀ {l:List Nat},slotsOk hd i pi l=true→∀ t∈l,slotOk i pi t 0 hd=true
 | [],_,t,ht=>by cases ht
 | x ::r,h,t,ht=>by
  simp only [slotsOk,Bool.and_eq_true] at h
  rcases List.mem_cons.1 ht with rfl | ht
  ·exact h.1
  ·exact slotsOk_spec h.2 t ht
def looksOk (os hd:List Oper):Nat→List Oper→Bool
 | _,[] =>true
 | i,o ::r=>slotsOk hd i (predsOf o) (looks os o) && looksOk os hd (i+1) r
theorem looksOk_spec {os hd:List Oper} :∀ {r:List Oper} {i0:Nat},looksOk os hd i0 r=true→∀ i o,r[i]? =some o→∀ t∈looks os o,∀ k ok,hd[k]? =some ok→ok.dst=some t→k=i0+i∨k∈predsOf o∨(i0+i)∈predsOf ok
 | [],i0,_,i,o,ho=>by simp at ho
 | x ::r,i0,h,i,o,ho=>by
  simp only [looksOk,Bool.and_eq_true] at h
  cases i with
  | zero=>
   simp only [List.getElem?_cons_zero,Option.some.injEq] at ho
   subst ho
   intro t ht k ok hk hd
   have:=slotOk_spec (slotsOk_spec h.1 t ht) k ok hk hd
   simpa using this
  | succ i=>
   simp only [List.getElem?_cons_succ] at ho
   intro t ht k ok hk hd
   have:=looksOk_spec h.2 i o ho t ht k ok hk hd
   rw [show i0+(i+1)=i0+1+i by omega]
   exact this
def waitedBy (i:Nat):List Oper→Bool
 | [] =>false
 | o ::r=>memN i (predsOf o) || waitedBy i r
theorem waitedBy_spec {i:Nat} :∀ {r:List Oper},waitedBy i r=true→∃ (k:Nat) (o:Oper),r[k]? =some o∧i∈predsOf o
 | [],h=>by simp [waitedBy] at h
 | x ::r,h=>by
  simp only [waitedBy,Bool.or_eq_true,memN_iff] at h
  rcases h with h | h
  ·exact⟨0,x,by simp,h⟩
  ·obtain⟨k,o,h1,h2⟩:=waitedBy_spec h
   exact⟨k+1,o,by simpa using h1,h2⟩
def sinkFrom (hd:List Oper):Nat→Bool
 | 0=>true
 | i+1=>waitedBy i hd && sinkFrom hd i
theorem sinkFrom_spec {hd:List Oper} :∀ {m:Nat},sinkFrom hd m=true→∀ i < m,waitedBy i hd=true
 | 0,_,i,hi=>by omega
 | m+1,h,i,hi=>by
  simp only [sinkFrom,Bool.and_eq_true] at h
  by_cases e:i=m
  ·subst e; exact h.1
  ·exact sinkFrom_spec h.2 i (by omega)
def chainFrom:Nat→List Oper→Bool
 | _,[] =>true
 | t,o ::r=>memN (t-1) (predsOf o) && chainFrom (t+1) r
theorem chainFrom_spec:∀ {r:List Oper} {t:Nat},chainFrom t r=true→∀ k o,r[k]? =some o→(t+k-1)∈predsOf o
 | [],t,_,k,o,ho=>by simp at ho
 | x ::r,t,h,k,o,ho=>by
  simp only [chainFrom,Bool.and_eq_true,memN_iff] at h
  cases k with
  | zero=>simp only [List.getElem?_cons_zero,Option.some.injEq] at ho; subst ho; exact h.1
  | succ k=>
   simp only [List.getElem?_cons_succ] at ho
   rw [show t+(k+1)-1=t+1+k-1 by omega]
   exact chainFrom_spec h.2 k o ho
def drawOk (os:List Oper) (m:Nat):Bool:=
 Nat.ble m os.length && fwdFrom 0 os && noDup (os.take m) && looksOk os (os.take m) 0 (os.take m) &&
 (Nat.beq m os.length || (sinkFrom (os.take (m+1)) m && chainFrom (m+1) (os.drop (m+1))))
structure Draws (os:List Oper) (m:Nat):Prop where
 le:m≤os.length
 fwd:∀ i o,os[i]? =some o→∀ e∈predsOf o,e < i
 dup:∀ i k oi ok d,i < m→k < m→os[i]? =some oi→os[k]? =some ok→oi.dst=some d→ok.dst=some d→i=k
 slot:∀ i o,i < m→os[i]? =some o→∀ t∈looks os o,∀ k ok,k < m→os[k]? =some ok→ok.dst=some t→k=i∨k∈predsOf o∨i∈predsOf ok
 sink:m < os.length→∀ i < m,∃ j o,i < j∧j≤m∧os[j]? =some o∧i∈predsOf o
 chain:∀ t o,m < t→os[t]? =some o→(t-1)∈predsOf o
theorem take_get {os:List Oper} {m i:Nat} (h:i < m):(os.take m)[i]? =os[i]? :=by
 rw [List.getElem?_take,if_pos h]
theorem drawOk_spec {os:List Oper} {m:Nat} (h:drawOk os m=true):Draws os m:=by
 simp only [drawOk,Bool.and_eq_true,Bool.or_eq_true,Nat.ble_eq,Nat.beq_eq] at h
 obtain⟨⟨⟨⟨h1,h2⟩,h3⟩,h4⟩,h5⟩:=h
 have fwd:∀ i o,os[i]? =some o→∀ e∈predsOf o,e < i:=fun i o ho e he=>by
  have:=fwdFrom_spec h2 i o ho e he
  omega
 refine⟨h1,fwd,fun i k oi ok d hi hk hoi hok di dk=> ?_,fun i o hi ho t ht k ok hk hok hd=> ?_,fun hlt i hi=> ?_,fun t o ht ho=> ?_⟩
 ·exact noDup_spec h3 i k oi ok d ((take_get hi).trans hoi) ((take_get hk).trans hok) di dk
 ·have:=looksOk_spec h4 i o ((take_get hi).trans ho) t ht k ok ((take_get hk).trans hok) hd
  simpa using this
 ·rcases h5 with h5 | h5
  ·omega
  ·obtain⟨k,o,hk,hin⟩:=waitedBy_spec (sinkFrom_spec h5.1 i hi)
   have hkm:k < m+1:=by
    rcases Nat.lt_or_ge k (m+1) with h | h
    ·exact h
    ·rw [List.getElem?_take,if_neg (by omega)] at hk; cases hk
   rw [take_get hkm] at hk
   exact⟨k,o,fwd k o hk i hin,by omega,hk,hin⟩
 ·rcases h5 with h5 | h5
  ·have:t < os.length:=(List.getElem?_eq_some_iff.1 ho).1
   omega
  ·have:=chainFrom_spec h5.2 (t- (m+1)) o (by rw [List.getElem?_drop]; rw [show m+1+(t- (m+1))=t by omega]; exact ho)
   rw [show m+1+(t- (m+1))-1=t-1 by omega] at this
   exact this
theorem evOper_quiet {X:Cx} {os:List Oper} {o:Oper} {s s':St} {kv kv':KV} (h:evOper X true os o s kv=some (s',kv')):s'.heap=s.heap∧s'.nid=s.nid∧s'.ds=s.ds:=by
 rw [evOper_eq,evEff_eq] at h
 split at h
 ·cases h
 ·rename_i tmps' kv1 tv r he
  cases h
  split at he
  ·cases he
  ·cases he; exact⟨rfl,rfl,rfl⟩
  ·split at he
   ·cases he
   ·rename_i r0 hb
    cases he
    rcases evAnd_some hb with ⟨r1,hb1,e⟩ | ⟨hq,_⟩
    ·subst e
     exact evBody_quiet (by simpa using hb1)
    ·cases hq
theorem evN_quiet {X:Cx} {m:Nat} {os:List Oper} {s0:St} :∀ {i:Nat} {s:St} {kv:KV},i≤m→evN X m os s0 i=some (s,kv)→s.heap=s0.heap∧s.nid=s0.nid∧s.ds=s0.ds
 | 0,s,kv,_,h=>by simp only [evN] at h; cases h; exact⟨rfl,rfl,rfl⟩
 | i+1,s,kv,hi,h=>by
  obtain⟨s1,k1,o,h1,_,h2⟩:=evN_succ h
  obtain⟨e1,e2,e3⟩:=evN_quiet (by omega) h1
  rw [show Nat.blt i m=true by simp [Nat.blt_eq]; omega] at h2
  obtain⟨g1,g2,g3⟩:=evOper_quiet h2
  exact⟨g1.trans e1,g2.trans e2,g3.trans e3⟩
theorem evN_keys {X:Cx} {m:Nat} {os:List Oper} {s0:St} :∀ {i:Nat} {s:St} {kv:KV},evN X m os s0 i=some (s,kv)→(∃ β,KVok kv β)∧s.tmps.length=s0.tmps.length
 | 0,s,kv,h=>by simp only [evN] at h; cases h; exact⟨⟨fun _=>false,fun p hp=>by cases hp⟩,rfl⟩
 | i+1,s,kv,h=>by
  obtain⟨s1,k1,o,h1,_,h2⟩:=evN_succ h
  obtain⟨e1,e2⟩:=evN_keys h1
  rw [evOper_eq] at h2
  split at h2
  ·cases h2
  ·rename_i he
   cases h2
   obtain⟨g1,_,g3⟩:=evEff_ex he e1
   exact⟨g1,by rw [setT_length]; omega⟩
theorem evN_sub {X:Cx} {m:Nat} {os:List Oper} {s0:St} {β:Nat→Bool} :∀ {j i:Nat} {si sj:St} {ki kj:KV},i≤j→evN X m os s0 i=some (si,ki)→evN X m os s0 j=some (sj,kj)→KVok kj β→KVok ki β
 | 0,i,si,sj,ki,kj,hij,h1,h2,hk=>by
  obtain rfl:i=0:=by omega
  rw [h1] at h2; cases h2; exact hk
 | j+1,i,si,sj,ki,kj,hij,h1,h2,hk=>by
  by_cases e:i=j+1
  ·subst e; rw [h1] at h2; cases h2; exact hk
  ·obtain⟨s,kv,o,hs,_,ho⟩:=evN_succ h2
   rw [evOper_eq] at ho
   split at ho
   ·cases ho
   ·rename_i he
    cases ho
    exact evN_sub (by omega) h1 hs ((evEff_ex he (evN_keys hs).1).2.1 β hk)
theorem evGuard_slot {auto:Bool} {os:List Oper} {o:Oper} {tmps tmps':List TV} {kv kv':KV} {sk:Bool} {conds:List (Nat×Bool)} (h:evGuard auto os o tmps kv=some (sk,tmps',kv',conds))
  {ρ:Num} {β:Nat→Bool} (hk:KVok kv' β) (t:Nat) (r:Value):TRel ρ β (getT tmps t) r↔TRel ρ β (getT tmps' t) r:=by
 unfold evGuard at h
 simp only [setF_eq] at h
 split at h
 ·cases h; exact Iff.rfl
 ·rename_i j want hg
  split at h
  case h_1=>cases h
  rename_i d hd
  split at h
  ·rename_i x hx
   split at h
   ·split at h
    ·split at h <;> (cases h; exact Iff.rfl)
    ·cases h; exact Iff.rfl
    ·cases h
   ·split at h
    ·rename_i b
     split at h
     case h_2=>cases h
     cases h
     obtain⟨hj,hkv⟩:=hk.cons
     by_cases hdt:d=t
     ·subst hdt
      by_cases hlen:d < tmps.length
      ·rw [getT_set _ _ _ _ hlen,if_pos rfl,hx]
       constructor
       ·intro ht; exact⟨hj,fun _=>by simpa [TRel,rv] using ht,fun hn=>absurd (V_nil β) hn⟩
       ·intro ht; have:=ht.2.1 (V_nil β); simpa [TRel,rv] using this
      ·rw [List.set_eq_of_length_le (by omega)]
     ·by_cases hlen:d < tmps.length
      ·rw [getT_set _ _ _ _ hlen,if_neg hdt]
      ·rw [List.set_eq_of_length_le (by omega)]
    ·cases h
  ·rename_i l x hx
   split at h
   case h_2=>cases h
   rename_i b
   split at h
   case h_2=>cases h
   cases h
   obtain⟨hj,hkv⟩:=hk.cons
   by_cases hdt:d=t
   ·subst hdt
    by_cases hlen:d < tmps.length
    ·rw [getT_set _ _ _ _ hlen,if_pos rfl,hx]
     simp only [TRel,rv]
     constructor
     ·intro ht; exact⟨hj,ht.1,ht.2⟩
     ·intro ht; exact⟨ht.2.1,ht.2.2⟩
    ·rw [List.set_eq_of_length_le (by omega)]
   ·by_cases hlen:d < tmps.length
    ·rw [getT_set _ _ _ _ hlen,if_neg hdt]
    ·rw [List.set_eq_of_length_le (by omega)]
  ·split at h
   ·cases h; exact Iff.rfl
   ·cases h
  ·cases h
theorem evOper_slot {X:Cx} {q:Bool} {os:List Oper} {o:Oper} {s s':St} {kv kv':KV} (h:evOper X q os o s kv=some (s',kv')) {ρ:Num} {β:Nat→Bool} (hk:KVok kv' β) {t:Nat} (ht:o.dst≠some t) (r:Value):
  TRel ρ β (getT s.tmps t) r↔TRel ρ β (getT s'.tmps t) r:=by
 rw [evOper_eq] at h
 split at h
 ·cases h
 ·rename_i tmps' kv1 tv r0 he
  cases h
  show _↔TRel ρ β (getT (setT tmps' o.dst tv) t) r
  rw [setT_getT,if_neg (fun hh=>ht hh.1)]
  rw [evEff_eq] at he
  split at he
  ·cases he
  ·rename_i hg; cases he; exact evGuard_slot hg hk t r
  ·rename_i hg
   split at he
   ·cases he
   ·cases he; exact evGuard_slot hg hk t r
theorem evN_slot {X:Cx} {m:Nat} {os:List Oper} {s0:St} {ρ:Num} {β:Nat→Bool} {t:Nat} {r:Value} :∀ {j i:Nat} {si sj:St} {ki kj:KV},i≤j→evN X m os s0 i=some (si,ki)→evN X m os s0 j=some (sj,kj)→KVok kj β→
  (∀ k o,i≤k→k < j→os[k]? =some o→o.dst≠some t)→(TRel ρ β (getT si.tmps t) r↔TRel ρ β (getT sj.tmps t) r)
 | 0,i,si,sj,ki,kj,hij,h1,h2,_,_=>by
  obtain rfl:i=0:=by omega
  rw [h1] at h2; cases h2; exact Iff.rfl
 | j+1,i,si,sj,ki,kj,hij,h1,h2,hk,hw=>by
  by_cases e:i=j+1
  ·subst e; rw [h1] at h2; cases h2; exact Iff.rfl
  ·obtain⟨s,kv,o,hs,hoj,ho⟩:=evN_succ h2
   have hkv:KVok kv β:=evN_sub (by omega) hs h2 hk
   exact (evN_slot (by omega) h1 hs hkv (fun k o' hk1 hk2=>hw k o' hk1 (by omega))).trans (evOper_slot ho hk (hw j o (by omega) (by omega) hoj) r)
def Lst (listed:Array Bool) (i:Nat):Prop:=listed.getD i false=true
theorem lst_true {listed:Array Bool} {i:Nat} :listed.getD i true=false↔i < listed.size∧¬ Lst listed i:=by
 unfold Lst
 rcases Nat.lt_or_ge i listed.size with h | h
 ·simp [h]
 ·simp [Array.getElem?_eq_none h]; omega
theorem lst_set {listed:Array Bool} {i j:Nat} (hi:i < listed.size):Lst (listed.setIfInBounds i true) j↔j=i∨Lst listed j:=by
 unfold Lst
 by_cases h:i=j
 ·subst h; simp [hi]
 ·rw [getD_set_ne false h]
  constructor
  ·exact .inr
  ·rintro (rfl | h')
   ·exact absurd rfl h
   ·exact h'
theorem ready_iff {os:List Oper} {listed:Array Bool} {j:Nat} :j∈Region.ready .any ⟨os⟩ listed↔(j < listed.size∧¬ Lst listed j)∧∃ o,os[j]? =some o∧∀ e∈predsOf o,Lst listed e:=by
 rw [mem_ready,lst_true]
 simp only [List.getElem?_toArray]
 constructor
 ·rintro ⟨h1,o,ho,h⟩
  refine⟨h1,o,ho,fun e he=> ?_⟩
  obtain⟨x,hx,hb,rfl⟩:=predsOf_iff.1 he
  exact h x hx hb
 ·rintro ⟨h1,o,ho,h⟩
  exact⟨h1,o,ho,fun e he hb=>h e.on (predsOf_iff.2 ⟨e,he,hb,rfl⟩)⟩
def unl (listed:Array Bool) (n:Nat):Nat:=(List.range n).countP fun i=> !listed.getD i false
theorem countP_lt {p q:Nat→Bool} {x:Nat} :∀ {l:List Nat},(∀ y,q y=true→p y=true)→x∈l→p x=true→q x=false→l.countP q < l.countP p
 | [],_,hx,_,_=>by cases hx
 | y ::l,h,hx,hp,hq=>by
  have hle:l.countP q≤l.countP p:=List.countP_mono_left (fun z _ hz=>h z hz)
  rw [List.countP_cons,List.countP_cons]
  rcases List.mem_cons.1 hx with rfl | hx
  ·simp [hp,hq]; omega
  ·have:=countP_lt h hx hp hq
   by_cases hqy:q y=true
   ·simp [hqy,h y hqy]; exact this
   ·simp [hqy]; split <;> omega
theorem unl_set {listed:Array Bool} {n i:Nat} (hi:i < n) (hs:listed.size=n) (hl:¬ Lst listed i):unl (listed.setIfInBounds i true) n < unl listed n:=by
 refine countP_lt (x:=i) (fun y hy=> ?_) (List.mem_range.2 hi) ?_ ?_
 ·simp only [Bool.not_eq_true'] at hy ⊢
  cases h:listed.getD y false
  ·rfl
  ·have:Lst (listed.setIfInBounds i true) y:=(lst_set (by omega)).2 (.inr h)
   rw [this] at hy; cases hy
 ·simp only [Bool.not_eq_true']
  cases h:listed.getD i false
  ·rfl
  ·exact absurd h hl
 ·have:Lst (listed.setIfInBounds i true) i:=(lst_set (by omega)).2 (.inl rfl)
  rw [this]; rfl
theorem unl_zero {listed:Array Bool} {n i:Nat} (h:unl listed n=0) (hi:i < n):Lst listed i:=by
 unfold unl at h
 rw [List.countP_eq_zero] at h
 have:=h i (List.mem_range.2 hi)
 simpa [Lst] using this
structure Half (X:Cx) (J:Inv X.P) (B:Nat) (M:Nat→Prop) (w0:Bas) (os:List Oper) (m:Nat) (s0:St) (a0:Act) (ρ:Num) (sm:St) (km:KV) (listed:Array Bool) (a:Act) (w:World):Prop where
 size:listed.size=os.length
 closed:∀ j o,os[j]? =some o→Lst listed j→∀ e∈predsOf o,Lst listed e
 late:∀ t,m≤t→¬ Lst listed t
 asize:a.tmps.size=s0.tmps.length
 defers:a.defers=w0.dfs
 base:B≤w.heap.size
 inv:J.I w
 keeps:Keeps B M w0.w w
 sim:∀ ρ',Agree s0.nid ρ ρ'→Sim X.P B M ρ' s0.heap w
 old:∀ t,(∀ k o,k < m→Lst listed k→os[k]? =some o→o.dst≠some t)→a.tmps.getD t undef=a0.tmps.getD t undef
 new:∀ k o d,k < m→Lst listed k→os[k]? =some o→o.dst=some d→∀ ρ',Agree s0.nid ρ ρ'→∀ β,KVok km β→TRel ρ' β (getT sm.tmps d) (a.tmps.getD d undef)
theorem least {p:Nat→Prop} [DecidablePred p] :∀ (n:Nat),(∃ i,i < n∧p i)→∃ i,i < n∧p i∧∀ j,j < i→¬ p j
 | 0,h=>by obtain⟨i,hi,_⟩:=h; omega
 | n+1,h=>by
  by_cases hn:∃ i,i < n∧p i
  ·obtain⟨i,h1,h2,h3⟩:=least n hn
   exact⟨i,by omega,h2,h3⟩
  ·obtain⟨i,hi,hp⟩:=h
   have:i=n:=by
    rcases Nat.lt_or_ge i n with h | h
    ·exact absurd ⟨i,h,hp⟩ hn
    ·omega
   subst this
   exact⟨i,by omega,hp,fun j hj hpj=>hn ⟨j,hj,hpj⟩⟩
theorem half_all {X:Cx} {J:Inv X.P} {B:Nat} {M:Nat→Prop} {w0:Bas} {os:List Oper} {m:Nat} {s0:St} {a0:Act} {ρ:Num} {sm:St} {km:KV} (hm:evN X m os s0 m=some (sm,km))
  (h0:∀ ρ',Agree s0.nid ρ ρ'→∀ β t,TRel ρ' β (getT s0.tmps t) (a0.tmps.getD t undef)) {listed:Array Bool} {a:Act} {w:World}
  (h:Half X J B M w0 os m s0 a0 ρ sm km listed a w) (hρ0:w0.n≤s0.nid∧Agree w0.n w0.ρ ρ) (hall:∀ k,k < m→Lst listed k):RepR X.P J B M w0 km sm a w:=by
 obtain⟨e1,e2,_⟩:=evN_quiet (Nat.le_refl _) hm
 obtain⟨e4,e5⟩:=evN_keys hm
 refine⟨by rw [e5]; exact h.asize,h.defers,h.base,h.inv,h.keeps,e4,ρ,by rw [e2]; exact hρ0,fun ρ' ha=> ?_⟩
 rw [e2] at ha
 rw [e1]
 refine⟨h.sim ρ' ha,fun β hβ t=> ?_⟩
 by_cases hw:∃ k o,k < m∧os[k]? =some o∧o.dst=some t
 ·obtain⟨k,o,hk,ho,hdst⟩:=hw
  exact h.new k o t hk (hall k hk) ho hdst ρ' ha β hβ
 ·have hno:∀ k o,k < m→os[k]? =some o→o.dst≠some t:=fun k o hk ho e=>hw ⟨k,o,hk,ho,e⟩
  rw [h.old t (fun k o hk _ ho=>hno k o hk ho)]
  exact (evN_slot (Nat.zero_le m) rfl hm hβ (fun k o _ hk ho=>hno k o hk ho)).1 (h0 ρ' ha β t)
theorem half_step {X:Cx} {J:Inv X.P} (hX:CxOk X J) {B:Nat} {M:Nat→Prop} (hp:Par X.P B M) {w0:Bas} {os:List Oper} {m:Nat} (hd:Draws os m) {s0:St} {a0:Act} {ρ:Num} {sm:St} {km:KV} (hm:evN X m os s0 m=some (sm,km)) (hl:allP sm.obs)
  (h0:∀ ρ',Agree s0.nid ρ ρ'→∀ β t,TRel ρ' β (getT s0.tmps t) (a0.tmps.getD t undef)) {listed:Array Bool} {a:Act} {w:World}
  (h:Half X J B M w0 os m s0 a0 ρ sm km listed a w) {i:Nat} (him:i < m) (hr:i∈Region.ready .any ⟨os⟩ listed) {rb:Option Nat} {K:Act→World→Prop} {Q:Exit→Act→World→Prop}
  (hK:∀ a' w',Half X J B M w0 os m s0 a0 ρ sm km (listed.setIfInBounds i true) a' w'→K a' w'):wpOpIn (Fl rb) 0 X.P ⟨os⟩ Q i K a w:=by
 obtain⟨⟨hi,hnl⟩,o,ho,hpre⟩:=ready_iff.1 hr
 obtain⟨⟨s1,k1⟩,hq1⟩:=evN_some (i:=i+1) (by omega) hm
 obtain⟨si,ki,o',hsi,ho',hop⟩:=evN_succ hq1
 rw [ho] at ho'
 cases ho'
 rw [show Nat.blt i m=true by simp [Nat.blt_eq]; exact him] at hop
 have hobs:=evN_obs (by omega) hq1 hm hl
 obtain⟨e1,e2,e3⟩:=evN_quiet (by omega:i≤m) hsi
 obtain⟨_,elen⟩:=evN_keys hsi
 rw [evOper_eq] at hop
 split at hop
 ·cases hop
 rename_i tmps' kv1 tv r he
 cases hop
 simp only [allP_append] at hobs
 have hsub:∀ β,KVok km β→KVok k1 β:=fun β hβ=>evN_sub (by omega) hq1 hm hβ
 have hsubi:∀ β,KVok km β→KVok ki β:=fun β hβ=>evN_sub (by omega) hsi hm hβ
 have hT:∀ ρ',Agree s0.nid ρ ρ'→∀ β,KVok km β→∀ t∈looks os o,TRel ρ' β (getT si.tmps t) (a.tmps.getD t undef):=by
  intro ρ' ha β hβ t ht
  by_cases hw:∃ k ok,k < m∧Lst listed k∧os[k]? =some ok∧ok.dst=some t
  ·obtain⟨k,ok,hk,hlk,hok,hdk⟩:=hw
   have hki:k < i:=by
    rcases hd.slot i o him ho t ht k ok hk hok hdk with e | e | e
    ·subst e; exact absurd hlk hnl
    ·exact hd.fwd i o ho k e
    ·exact absurd (h.closed k ok hok hlk i e) hnl
   have:=h.new k ok t hk hlk hok hdk ρ' ha β hβ
   refine (evN_slot (by omega:i≤m) hsi hm hβ (fun k2 o2 hk1 hk2 ho2 hd2=> ?_)).2 this
   have:=hd.dup k k2 ok o2 t hk hk2 hok ho2 hdk hd2
   omega
  ·have hno:∀ k ok,k < m→Lst listed k→os[k]? =some ok→ok.dst≠some t:=fun k ok hk hlk hok e=>hw ⟨k,ok,hk,hlk,hok,e⟩
   rw [h.old t hno]
   refine (evN_slot (Nat.zero_le i) rfl hsi (hsubi β hβ) (fun k ok _ hk hok hdk=> ?_)).1 (h0 ρ' ha β t)
   rcases hd.slot i o him ho t ht k ok (by omega) hok hdk with e | e | e
   ·omega
   ·exact hno k ok (by omega) (hpre k e) hok hdk
   ·have:=hd.fwd k ok hok i e
    omega
 refine evEff_sound hX ho he hobs.1 hp (ρ:=ρ) (Cβ:=KVok km) (evN_keys hm).1 hsub h.base h.inv (fun ρ' ha=>by rw [e1]; rw [e2] at ha; exact h.sim ρ' ha)
  (fun ρ' ha β hβ t ht=>hT ρ' (by rw [e2] at ha; exact ha) β hβ t ht) (fun v w' ρ1 ha hn hfin hk hq=>hK _ _ ?_)
 obtain⟨g1,g2,g3,g4,g5⟩:=hq rfl
 subst g5
 have hfin':∀ ρ',Agree s0.nid ρ1 ρ'→Sim X.P B M ρ' s0.heap w'∧∀ β,KVok km β→TRel ρ' β tv v:=fun ρ' ha'=>by
  have:=hfin ρ' (by rw [g3,e2]; exact ha')
  rw [g1,e1] at this
  exact this
 have hisz:i < listed.size:=hi
 refine⟨by simpa using h.size,fun j oj hoj hlj e he'=> ?_,fun t ht hlt'=> ?_,by rw [put_size]; exact h.asize,by rw [put_defers]; exact h.defers,Nat.le_trans h.base hk.size,J.keeps hp hk h.inv,h.keeps.trans hk,
  fun ρ' ha'=>(hfin' ρ' ha').1,fun t hno=> ?_,fun k ok d hkm hlk hok hdk ρ' ha' β hβ=> ?_⟩
 ·rw [lst_set hisz] at hlj ⊢
  rcases hlj with rfl | hlj
  ·rw [ho] at hoj; cases hoj
   exact .inr (hpre e he')
  ·exact .inr (h.closed j oj hoj hlj e he')
 ·rw [lst_set hisz] at hlt'
  rcases hlt' with rfl | hlt'
  ·omega
  ·exact h.late t ht hlt'
 ·rw [put_getD,if_neg (fun hh=>hno i o him ((lst_set hisz).2 (.inl rfl)) ho hh.1)]
  exact h.old t (fun k ok hkm hlk hok=>hno k ok hkm ((lst_set hisz).2 (.inr hlk)) hok)
 ·rw [put_getD]
  by_cases hki:k=i
  ·subst hki
   rw [ho] at hok
   cases hok
   by_cases hds:d < a.tmps.size
   ·rw [if_pos ⟨hdk,hds⟩]
    have hslot:=evN_slot (X:=X) (m:=m) (os:=os) (s0:=s0) (ρ:=ρ') (β:=β) (t:=d) (r:=v) (by omega:k+1≤m) hq1 hm hβ (fun k2 o2 hk1 hk2 ho2 hd2=>by
     have:=hd.dup k k2 o o2 d hkm hk2 ho ho2 hdk hd2
     omega)
    rw [← hslot]
    show TRel ρ' β (getT (setT tmps' o.dst tv) d) v
    obtain⟨_,_,hl'⟩:=evEff_ex he (evN_keys hsi).1
    rw [setT_getT,if_pos ⟨hdk,by rw [hl',elen,← h.asize]; exact hds⟩]
    exact (hfin' ρ' ha').2 β hβ
   ·
    have hnone:getT sm.tmps d= .unk:=by
     simp only [getT_def]
     have e7:sm.tmps.length=s0.tmps.length:=(evN_keys hm).2
     have e8:a.tmps.size=s0.tmps.length:=h.asize
     have e9:a.tmps.size≤d:=Nat.le_of_not_lt hds
     rw [List.getElem?_eq_none (by omega)]
    rw [hnone]
    trivial
  ·have hlk':Lst listed k:=by
    rcases (lst_set hisz).1 hlk with e | e
    ·exact absurd e hki
    ·exact e
   have hne:o.dst≠some d:=fun e=>hki (hd.dup k i ok o d hkm him hok ho hdk e)
   rw [if_neg (fun hh=>hne hh.1)]
   exact h.new k ok d hkm hlk' hok hdk ρ' ha' β hβ
theorem tail_sound {X:Cx} {J:Inv X.P} (hX:CxOk X J) {B:Nat} {M:Nat→Prop} (hp:Par X.P B M) {w0:Bas} {os:List Oper} {m:Nat} (hd:Draws os m) {s0 sn:St} {kn:KV} (hn:evN X m os s0 os.length=some (sn,kn)) (hl:allP sn.obs)
  {rb:Option Nat} {Q:Exit→Act→World→Prop} (hQ:∀ a w,RepR X.P J B M w0 kn sn a w→Q .normal a w):
  ∀ (fuel t:Nat) (listed:Array Bool) (s:St) (kv:KV) (a:Act) (w:World),m≤t→t≤os.length→os.length≤t+fuel→listed.size=os.length→(∀ j,j < os.length→(Lst listed j↔j < t))→
   evN X m os s0 t=some (s,kv)→RepR X.P J B M w0 kv s a w→wpAnyIn (Fl rb) 0 X.P .any ⟨os⟩ Q fuel listed a w:=by
 intro fuel
 induction fuel with
 | zero=>
  intro t listed s kv a w hmt htn hf hsz hL hs hR
  obtain rfl:t=os.length:=by omega
  rw [hs] at hn
  cases hn
  refine⟨?_,hQ a w hR⟩
  cases hr:Region.ready .any ⟨os⟩ listed with
  | nil=>rfl
  | cons x xs=>
   have:x∈Region.ready .any ⟨os⟩ listed:=by rw [hr]; simp
   obtain⟨⟨h1,h2⟩,_⟩:=ready_iff.1 this
   exact absurd ((hL x (by omega)).2 (by omega)) h2
 | succ fuel ih=>
  intro t listed s kv a w hmt htn hf hsz hL hs hR
  by_cases htl:t=os.length
  ·subst htl
   rw [hs] at hn
   cases hn
   refine⟨fun _=>hQ a w hR,fun i hi=> ?_⟩
   obtain⟨⟨h1,h2⟩,_⟩:=ready_iff.1 hi
   exact absurd ((hL i (by omega)).2 (by omega)) h2
  ·have htlt:t < os.length:=by omega
   obtain⟨ot,hot⟩:∃ o,os[t]? =some o:=⟨os[t],by simp [htlt]⟩
   refine⟨fun h0=> ?_,fun i hi=> ?_⟩
   ·exfalso
    have:t∈Region.ready .any ⟨os⟩ listed:=ready_iff.2 ⟨⟨by omega,fun h=>by have:=(hL t htlt).1 h; omega⟩,ot,hot,fun e he=>by
     have:=hd.fwd t ot hot e he
     exact (hL e (by omega)).2 this⟩
    rw [h0] at this
    cases this
   ·obtain⟨⟨h1,h2⟩,o,ho,hpre⟩:=ready_iff.1 hi
    have hit:i=t:=by
     rcases Nat.lt_trichotomy i t with h | h | h
     ·exact absurd ((hL i (by omega)).2 h) h2
     ·exact h
     ·exfalso
      have:=hpre (i-1) (hd.chain i o (by omega) ho)
      have:=(hL (i-1) (by omega)).1 this
      omega
    subst hit
    obtain⟨⟨s1,k1⟩,hq1⟩:=evN_some (i:=i+1) (by omega) hn
    obtain⟨s',kv',o',g1,g2,g3⟩:=evN_succ hq1
    rw [hs] at g1
    cases g1
    exact evOper_sound hX g2 g3 (evN_obs (by omega) hq1 hn hl) hp hR (fun a' w' hR'=>ih (i+1) _ s1 k1 a' w' (by omega) (by omega) (by omega) (by simpa using hsz) (fun j hj=>by
     rw [lst_set (by omega)]
     constructor
     ·rintro (rfl | h)
      ·omega
      ·have:=(hL j hj).1 h; omega
     ·intro h
      by_cases e:j=i
      ·exact .inl e
      ·exact .inr ((hL j hj).2 (by omega))) hq1 hR')
theorem sink_reach {os:List Oper} {m:Nat} (hd:Draws os m) (hm:m < os.length) {listed:Array Bool} (hcl:∀ j o,os[j]? =some o→Lst listed j→∀ e∈predsOf o,Lst listed e) {om:Oper} (hom:os[m]? =some om) (hpre:∀ e∈predsOf om,Lst listed e):
  ∀ (g i:Nat),m-i≤g→i < m→Lst listed i:=by
 intro g
 induction g with
 | zero=>intro i h1 h2; omega
 | succ g ih=>
  intro i h1 h2
  obtain⟨j,o,hij,hjm,hoj,hin⟩:=hd.sink hm i h2
  by_cases e:j=m
  ·subst e
   rw [hom] at hoj
   cases hoj
   exact hpre i hin
  ·exact hcl j o hoj (ih j (by omega) (by omega)) i hin
theorem draw_sound {X:Cx} {J:Inv X.P} (hX:CxOk X J) {B:Nat} {M:Nat→Prop} (hp:Par X.P B M) {w0:Bas} {os:List Oper} {m:Nat} (hd:Draws os m) {s0 sn:St} {kn:KV} (hn:evN X m os s0 os.length=some (sn,kn)) (hl:allP sn.obs)
  {a0:Act} {ρ:Num} {sm:St} {km:KV} (hm:evN X m os s0 m=some (sm,km)) (h0:∀ ρ',Agree s0.nid ρ ρ'→∀ β t,TRel ρ' β (getT s0.tmps t) (a0.tmps.getD t undef)) (hρ0:w0.n≤s0.nid∧Agree w0.n w0.ρ ρ)
  {rb:Option Nat} {Q:Exit→Act→World→Prop} (hQ:∀ a w,RepR X.P J B M w0 kn sn a w→Q .normal a w):
  ∀ (fuel:Nat) (listed:Array Bool) (a:Act) (w:World),unl listed os.length≤fuel→Half X J B M w0 os m s0 a0 ρ sm km listed a w→wpAnyIn (Fl rb) 0 X.P .any ⟨os⟩ Q fuel listed a w:=by
 intro fuel
 induction fuel with
 | zero=>
  intro listed a w hf h
  have hall:∀ k,k < os.length→Lst listed k:=fun k hk=>unl_zero (by omega) hk
  have hmn:m=os.length:=by
   rcases Nat.lt_or_ge m os.length with hlt | hge
   ·exact absurd (hall m hlt) (h.late m (Nat.le_refl _))
   ·have:=hd.le; omega
  subst hmn
  exact tail_sound hX hp hd hn hl hQ 0 os.length listed sm km a w (Nat.le_refl _) (Nat.le_refl _) (by omega) h.size (fun j hj=>⟨fun _=>hj,fun _=>hall j hj⟩) hm (half_all hm h0 h hρ0 (fun k hk=>hall k hk))
 | succ fuel ih=>
  intro listed a w hf h
  by_cases hall:∀ k,k < m→Lst listed k
  ·refine tail_sound hX hp hd hn hl hQ (fuel+1) m listed sm km a w (Nat.le_refl _) hd.le ?_ h.size (fun j hj=>⟨fun hlj=> ?_,fun hj'=>hall j hj'⟩) hm (half_all hm h0 h hρ0 hall)
   ·have hc:(List.range os.length).countP (fun i=> !Nat.blt i m)≤unl listed os.length:=by
     refine List.countP_mono_left (fun z _ hz=> ?_)
     simp only [Bool.not_eq_true'] at hz ⊢
     cases hzl:listed.getD z false
     ·rfl
     ·exfalso
      refine h.late z ?_ hzl
      rcases Nat.lt_or_ge z m with h' | h'
      ·rw [show Nat.blt z m=true by simp [Nat.blt_eq]; exact h'] at hz; cases hz
      ·exact h'
    have hc2:∀ n,(List.range n).countP (fun i=> !Nat.blt i m)=n-m:=by
     intro n
     induction n with
     | zero=>simp
     | succ n ihn=>
      rw [List.range_succ,List.countP_append,ihn]
      simp only [List.countP_cons,List.countP_nil,Nat.zero_add,Bool.not_eq_true']
      by_cases hnm:n < m
      ·rw [if_neg (by rw [show Nat.blt n m=true by simp [Nat.blt_eq]; exact hnm]; simp)]; omega
      ·rw [if_pos (by cases hb:Nat.blt n m; rfl; exact absurd (by simpa [Nat.blt_eq] using hb) hnm)]; omega
    rw [hc2] at hc
    omega
   ·rcases Nat.lt_or_ge j m with h' | h'
    ·exact h'
    ·exact absurd hlj (h.late j h')
  ·have hex:∃ k,k < m∧¬ Lst listed k:=by
    rcases Classical.em (∃ k,k < m∧¬ Lst listed k) with h' | h'
    ·exact h'
    ·exact absurd (fun k hk=>Classical.byContradiction fun hn=>h' ⟨k,hk,hn⟩) hall
   refine⟨fun hr0=> ?_,fun i hi=> ?_⟩
   ·exfalso
    haveI:DecidablePred fun k=>¬ Lst listed k:=fun k=>Classical.propDecidable _
    obtain⟨k,hk,hnl,hmin⟩:=least m hex
    obtain⟨o,ho⟩:∃ o,os[k]? =some o:=⟨os[k]'(by have:=hd.le; omega),by have:=hd.le; simp [show k < os.length by omega]⟩
    have:k∈Region.ready .any ⟨os⟩ listed:=ready_iff.2 ⟨⟨by rw [h.size]; have:=hd.le; omega,hnl⟩,o,ho,fun e he=>Classical.byContradiction fun hn=>hmin e (hd.fwd k o ho e he) hn⟩
    rw [hr0] at this
    cases this
   ·obtain⟨⟨h1,h2⟩,o,ho,hpre⟩:=ready_iff.1 hi
    have hin:i < os.length:=by rw [← h.size]; exact h1
    have him:i < m:=by
     rcases Nat.lt_trichotomy i m with h' | h' | h'
     ·exact h'
     ·subst h'
      obtain⟨k,hk,hnk⟩:=hex
      exact absurd (sink_reach hd hin h.closed ho hpre (i-k) k (Nat.le_refl _) hk) hnk
     ·exact absurd (hpre (i-1) (hd.chain i o h' ho)) (h.late (i-1) (by omega))
    refine half_step hX hp hd hm (evN_obs hd.le hm hn hl) h0 h him hi (fun a' w' h'=>ih _ a' w' ?_ h')
    have:=unl_set hin h.size h2
    omega
end
end Go.Proofs.YtdgfhijnconaoaaGreatDoor.Ev
