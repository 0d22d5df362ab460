/-
 NumberNear: a decimal that is read as a finite number lies nowhere beyond the middle between it and its neighbours; no condition (a part of the proof).
-/
import Derived.Test.YtbdaebagmmmijaaGreatDoorN1x03
import Derived.Deep.Strs
import Derived.ChangeStays
import Derived.ReadAgain
import Init
import Derived.Shelf.Bits.Mul64
set_option maxRecDepth 1000000
open Nat renaming beq->zO0,blt->zO1
open Int renaming ofNat->zO2
open Go.Value renaming int->zO3,bool->zO9
open List renaming replicate->zO6,take->zO10
open Go.Proofs.Tryz renaming prog->zO8
open Go.IntKind renaming i64->iI,u64->uI,u8->uB
noncomputable section
namespace Go.Proofs
theorem uL:type_of%@List.filterMap_cons:=@List.filterMap_cons
theorem v6:type_of%@Nat.pow_succ:=@Nat.pow_succ
theorem aY:type_of%@Nat.mul_add:=@Nat.mul_add
theorem m7:type_of%@Nat.mul_assoc:=@Nat.mul_assoc
theorem aQ:type_of%@Nat.mul_le_mul_left:=@Nat.mul_le_mul_left
theorem i0h:type_of%@Nat.add_mul_mod_self_left:=@Nat.add_mul_mod_self_left
theorem a0i:type_of%@Nat.pow_zero:=@Nat.pow_zero
theorem nO:type_of%@Nat.div_div_eq_div_mul:=@Nat.div_div_eq_div_mul
theorem l0i:type_of%@Nat.add_mul_div_left:=@Nat.add_mul_div_left
theorem q2m:type_of%@Nat.mod_one:=@Nat.mod_one
theorem k0l:type_of%@Nat.mod_add_div:=@Nat.mod_add_div
theorem y9:type_of%@Nat.pow_le_pow_right:=@Nat.pow_le_pow_right
theorem F4:type_of%@Nat.div_lt_iff_lt_mul:=@Nat.div_lt_iff_lt_mul
theorem C8:type_of%@Go.IntKind.wrap_i64:=@Go.IntKind.wrap_i64
theorem X6:type_of%@Nat.mul_right_comm:=@Nat.mul_right_comm
theorem w9:type_of%@Int.ofNat_eq_natCast:=@Int.ofNat_eq_natCast
theorem w8:type_of%@Int.natCast_nonneg:=@Int.natCast_nonneg
theorem i0o:type_of%@Int.toNat_zero:=@Int.toNat_zero
theorem aU:type_of%@List.take_of_length_le:=@List.take_of_length_le
theorem aR:type_of%@List.length_reverse:=@List.length_reverse
theorem zE:type_of%@Nat.sub_add_cancel:=@Nat.sub_add_cancel
theorem yQ:type_of%@List.drop_length:=@List.drop_length
theorem A5:type_of%@Nat.lt_of_le_of_lt:=@Nat.lt_of_le_of_lt
theorem m9:type_of%@Nat.pow_add:=@Nat.pow_add
theorem zzA167:type_of%@decide_eq_decide:=@decide_eq_decide
theorem T5:type_of%@Int.toNat_of_nonneg:=@Int.toNat_of_nonneg
theorem O4:type_of%@Go.IntKind.wrap_u64:=@Go.IntKind.wrap_u64
theorem E6:type_of%@Nat.two_pow_pos:=@Nat.two_pow_pos
theorem tC:type_of%@Nat.le_antisymm:=@Nat.le_antisymm
theorem rI:type_of%@Nat.le_of_lt:=@Nat.le_of_lt
theorem eU:type_of%@Int.fdiv_eq_ediv_of_nonneg:=@Int.fdiv_eq_ediv_of_nonneg
theorem oS:type_of%@Nat.le_div_iff_mul_le:=@Nat.le_div_iff_mul_le
theorem fM:type_of%@Int.natCast_mul:=@Int.natCast_mul
theorem fH:type_of%@Nat.and_two_pow_sub_one_eq_mod:=@Nat.and_two_pow_sub_one_eq_mod
theorem zM:type_of%@Int.ofNat_tdiv:=@Int.ofNat_tdiv
theorem nV:type_of%@Nat.div_le_self:=@Nat.div_le_self
theorem fN:type_of%@Int.natCast_pow:=@Int.natCast_pow
theorem j0i:type_of%@Nat.shiftLeft_add_eq_or_of_lt:=@Nat.shiftLeft_add_eq_or_of_lt
theorem kP:type_of%@Nat.shiftLeft_eq:=@Nat.shiftLeft_eq
theorem nR:type_of%@Int.ofNat_tmod:=@Int.ofNat_tmod
theorem T6:type_of%@Nat.mul_lt_mul_of_pos_right:=@Nat.mul_lt_mul_of_pos_right
theorem sF:type_of%@Nat.mul_div_mul_right:=@Nat.mul_div_mul_right
theorem zF:type_of%@Nat.mul_mod_mul_right:=@Nat.mul_mod_mul_right
theorem b0e:type_of%@Nat.add_sub_cancel:=@Nat.add_sub_cancel
end Go.Proofs
namespace Go.Proofs.YtbdaebagmmmijaaGreatDoor.Ev
open Go Go.RowKit
noncomputable section
inductive Cel where
 | v (x:Value)
 | s (e:TypeId) (k:IntKind) (xs:List Int)
 | o (k:IntKind) (ys:List Int) (off n:Nat)
 | f (g:Nat->Value) (m sz off:Nat)
inductive Arg where
 | c (x:Cel)
 | a (l:List Cel)
def Arg.cells:Arg->List Cel
 | .c x=>[x]
 | .a l=>l
def t6:List Arg->List Cel
 | [] =>[]
 | a ::r=>a.cells++t6 r
def Arg.pack:Arg->List Value->Value
 | .c _,us=>match us with
  | u ::_=>u
  | [] =>undef
 | .a _,us=> .agg ⟨us⟩
def J9:List Arg->List Value->List Value
 | [],_=>[]
 | a ::r,us=>a.pack (us.take a.cells.length) ::J9 r (us.drop a.cells.length)
inductive All2 {α β:Type} (R:α->β->Prop):List α->List β->Prop
 | nil:All2 R [] []
 | cons {x y xs ys} :R x y->All2 R xs ys->All2 R (x ::xs) (y ::ys)
theorem All2.length {α β:Type} {R:α->β->Prop} {l:List α} {m:List β} (h:All2 R l m):l.length=m.length:=by
 induction h with
 | nil=>rfl
 | cons _ _ ih=>simp [ih]
theorem All2.append {α β:Type} {R:α->β->Prop} {l l':List α} {m m':List β} (h:All2 R l m) (k:All2 R l' m'):All2 R (l++l') (m++m'):=by
 induction h with
 | nil=>exact k
 | cons a _ ih=>exact .cons a ih
theorem All2.nil_inv {α β:Type} {R:α->β->Prop} {m:List β} (h:All2 R ([] :List α) m):m=[] :=by cases h; rfl
theorem All2.cons_inv {α β:Type} {R:α->β->Prop} {x:α} {xs:List α} {m:List β} (h:All2 R (x ::xs) m):∃ y ys,m=y ::ys∧R x y∧All2 R xs ys:=by
 cases h with
 | cons a b=>exact⟨_,_,rfl,a,b⟩
def CelIs (w:World):Cel->Value->Prop
 | .v x,u=>u=x∧pureV x=true
 | .s _ k xs,u=>(u= .slice none 0 0∧xs=[])∨∃ g cap cs t fr,u= .slice (some ⟨g,0,none⟩) xs.length cap∧w.heap[g]? =some (.cells cs t fr)∧∀ i,i < xs.length->cs[i]? =some (.int k (xs.getD i 0))
 | .o k ys off n,u=>(u= .slice none 0 0∧ys=[] ∧off=0∧n=0)∨∃ g cap cs t fr,u= .slice (some ⟨g,off,none⟩) n cap∧w.heap[g]? =some (.cells cs t fr)∧∀ i,i < ys.length->cs[i]? =some (.int k (ys.getD i 0))
 | .f g m sz off,u=>(u= .slice none 0 0∧m=0)∨∃ b cap cs t fr,u= .slice (some ⟨b,off,none⟩) m cap∧w.heap[b]? =some (.cells cs t fr)∧∀ i,i < m->(g i).cells.toList.length=sz∧pureV (g i)=true∧∀ (j:Nat) (v:Value),(g i).cells.toList[j]? =some v->cs[off+i*sz+j]? =some v
def s0i (w w':World):Cel->Value->Prop
 | .v x,u=>u=x∧pureV x=true
 | .s e k xs,u=>(u= .slice none 0 0∧xs=[])∨∃ g cap cur,u= .slice (some ⟨g,0,none⟩) xs.length cap∧w.heap.size<=g∧RowAt w' g cur e∧cap<=maxLen∧cur.size=cap∧xs.length<=cap∧cur.toList.take xs.length=xs.map (zO3 k)
 | .o _ _ _ _,_=>False
 | .f _ _ _ _,_=>False
def blk:Value->Option Nat
 | .slice (some a) _ _=>some a.block
 | _=>none
def Sem (P:Program) (J:Inv P) (f:FuncId) (az rs:List Arg):Prop:=
 Enters P f∧∀ (w:World) (us:List Value),J.I w->All2 (CelIs w) (t6 az) us->
  Calls P f ⟨J9 az us⟩ w fun e w'=>∃ us',e= .returned (N2 (J9 rs us'))∧Below w.heap.size w w'∧All2 (s0i w w') (t6 rs) us'∧(us'.filterMap blk).Nodup
def J3 (n:Nat):List Cel->List Value×Heap×Nat
 | [] =>([],[],n)
 | .v x ::r=>match J3 n r with
  | (vs,h,m)=>(x ::vs,h,m)
 | .s _ k xs ::r=>match J3 (n+2) r with
  | (vs,h,m)=>(.slice (some ⟨n,0,some (n+1)⟩) xs.length 0 ::vs,(n, .ints k xs) ::h,m)
 | .o k ys off l ::r=>match J3 (n+2) r with
  | (vs,h,m)=>(.slice (some ⟨n,off,some (n+1)⟩) l 0 ::vs,(n, .ints k ys) ::h,m)
 | .f g m sz off ::r=>match J3 (n+2) r with
  | (vs,h,k)=>(.slice (some ⟨n,off,some (n+1)⟩) m 0 ::vs,(n, .fam g m sz off) ::h,k)
theorem N7:∀ (cs:List Cel) (n:Nat),n<=(J3 n cs).2.2
 | [],n=>d5 _
 | .v x ::r,n=>N7 r n
 | .s _ k xs ::r,n=>by
  have:=N7 r (n+2)
  show n<=(J3 (n+2) r).2.2
  omega
 | .o k ys off l ::r,n=>by
  have:=N7 r (n+2)
  show n<=(J3 (n+2) r).2.2
  omega
 | .f g m sz off ::r,n=>by
  have:=N7 r (n+2)
  show n<=(J3 (n+2) r).2.2
  omega
theorem eG:∀ (cs:List Cel) (n:Nat) (i:Nat) (o:AObj),(J3 n cs).2.1.get i=some o->n<=i∧i < (J3 n cs).2.2∧o.rw=false
 | [],n,i,o,h=>by cases h
 | .v x ::r,n,i,o,h=>eG r n i o h
 | .s _ k xs ::r,n,i,o,h=>by
  change Heap.get ((n, .ints k xs) ::(J3 (n+2) r).2.1) i=some o at h
  rw [b6] at h
  have hle:=N7 r (n+2)
  show n<=i∧i < (J3 (n+2) r).2.2∧o.rw=false
  split at h
  ·rename_i e
   cases h
   exact⟨by omega,by omega,rfl⟩
  ·have:=eG r (n+2) i o h
   exact⟨by omega,by omega,this.2.2⟩
 | .o k xs off l ::r,n,i,o,h=>by
  change Heap.get ((n, .ints k xs) ::(J3 (n+2) r).2.1) i=some o at h
  rw [b6] at h
  have hle:=N7 r (n+2)
  show n<=i∧i < (J3 (n+2) r).2.2∧o.rw=false
  split at h
  ·rename_i e
   cases h
   exact⟨by omega,by omega,rfl⟩
  ·have:=eG r (n+2) i o h
   exact⟨by omega,by omega,this.2.2⟩
 | .f g m sz off ::r,n,i,o,h=>by
  change Heap.get ((n, .fam g m sz off) ::(J3 (n+2) r).2.1) i=some o at h
  rw [b6] at h
  have hle:=N7 r (n+2)
  show n<=i∧i < (J3 (n+2) r).2.2∧o.rw=false
  split at h
  ·rename_i e
   cases h
   exact⟨by omega,by omega,rfl⟩
  ·have:=eG r (n+2) i o h
   exact⟨by omega,by omega,this.2.2⟩
theorem h1i (B:Nat) (M:Nat->Prop) (w:World):∀ (cs:List Cel) (us:List Value),All2 (CelIs w) cs us->∀ (n:Nat) (ρ0:Num),∃ ρ,Agree n ρ0 ρ∧∀ ρ',Agree (J3 n cs).2.2 ρ ρ'->
  us=rvL ρ' (J3 n cs).1∧∀ i o,(J3 n cs).2.1.get i=some o->ORep B M ρ' w (ρ' i) o:=by
 intro cs us h
 induction h with
 | nil=>exact fun n ρ0=>⟨ρ0,Agree.refl _ _,fun ρ' _=>⟨rfl,fun i o h=>by cases h⟩⟩
 | @cons c u cs us hc _ ih=>
  intro n ρ0
  cases c with
  | v x=>
   obtain⟨rfl,hp⟩:=hc
   obtain⟨ρ,ha,hρ⟩:=ih n ρ0
   refine⟨ρ,ha,fun ρ' ha'=> ?_⟩
   obtain⟨h1,h2⟩:=hρ ρ' ha'
   refine⟨?_,h2⟩
   show u ::us=rvL ρ' (u ::(J3 n cs).1)
   simp only [rvL,A1 ρ' u hp,<- h1]
  | s e k xs=>
   have key:∀ (ob:Option Nat) (cap:Nat),(u=match ob with | none=> .slice none xs.length 0 | some g=> .slice (some ⟨g,0,none⟩) xs.length cap)->(∀ ρ',ORep B M ρ' w ob (.ints k xs))->∃ ρ,Agree n ρ0 ρ∧∀ ρ',Agree (J3 n (.s e k xs ::cs)).2.2 ρ ρ'->
     u ::us=rvL ρ' (J3 n (.s e k xs ::cs)).1∧∀ i o,(J3 n (.s e k xs ::cs)).2.1.get i=some o->ORep B M ρ' w (ρ' i) o:=by
    intro ob cap hu ho
    obtain⟨ρ,ha,hρ⟩:=ih (n+2) (fun i=>if i=n then ob else if i=n+1 then some cap else ρ0 i)
    refine⟨ρ,fun i hi=> ?_,fun ρ' ha'=> ?_⟩
    ·rw [ha i (by omega)]
     show (if i=n then ob else if i=n+1 then some cap else ρ0 i)=ρ0 i
     rw [a8 (by omega),a8 (by omega)]
    ·obtain⟨h1,h2⟩:=hρ ρ' ha'
     have hle:=N7 cs (n+2)
     have hn:ρ' n=ob:=by
      rw [ha' n (by show n < (J3 (n+2) cs).2.2; omega),ha n (by omega)]
      simp
     have hk:ρ' (n+1)=some cap:=by
      rw [ha' (n+1) (by show n+1 < (J3 (n+2) cs).2.2; omega),ha (n+1) (by omega)]
      simp
     refine⟨?_,fun i o hi=> ?_⟩
     ·show u ::us=rvL ρ' (.slice (some ⟨n,0,some (n+1)⟩) xs.length 0 ::(J3 (n+2) cs).1)
      rw [rvL,<- h1,hu]
      cases ob with
      | none=>simp [rv,rSl,hn]
      | some g=>simp [rv,rSl,hn,hk]
     ·change Heap.get ((n, .ints k xs) ::(J3 (n+2) cs).2.1) i=some o at hi
      rw [b6] at hi
      split at hi
      ·rename_i e'
       subst e'
       cases hi
       rw [hn]
       exact ho ρ'
      ·exact h2 i o hi
   rcases hc with ⟨rfl,rfl⟩ | ⟨g,cap,cs',t,fr,rfl,h2,h3⟩
   ·exact key none 0 rfl (fun ρ'=> .inl ⟨rfl,rfl⟩)
   ·exact key (some g) cap rfl (fun ρ'=> .inr ⟨g,cs',t,fr,rfl,h2,h3⟩)
  | o k xs off l=>
   have key:∀ (ob:Option Nat) (cap:Nat),(u=match ob with | none=> .slice none l 0 | some g=> .slice (some ⟨g,off,none⟩) l cap)->(∀ ρ',ORep B M ρ' w ob (.ints k xs))->∃ ρ,Agree n ρ0 ρ∧∀ ρ',Agree (J3 n (.o k xs off l ::cs)).2.2 ρ ρ'->
     u ::us=rvL ρ' (J3 n (.o k xs off l ::cs)).1∧∀ i o,(J3 n (.o k xs off l ::cs)).2.1.get i=some o->ORep B M ρ' w (ρ' i) o:=by
    intro ob cap hu ho
    obtain⟨ρ,ha,hρ⟩:=ih (n+2) (fun i=>if i=n then ob else if i=n+1 then some cap else ρ0 i)
    refine⟨ρ,fun i hi=> ?_,fun ρ' ha'=> ?_⟩
    ·rw [ha i (by omega)]
     show (if i=n then ob else if i=n+1 then some cap else ρ0 i)=ρ0 i
     rw [a8 (by omega),a8 (by omega)]
    ·obtain⟨h1,h2⟩:=hρ ρ' ha'
     have hle:=N7 cs (n+2)
     have hn:ρ' n=ob:=by
      rw [ha' n (by show n < (J3 (n+2) cs).2.2; omega),ha n (by omega)]
      simp
     have hk:ρ' (n+1)=some cap:=by
      rw [ha' (n+1) (by show n+1 < (J3 (n+2) cs).2.2; omega),ha (n+1) (by omega)]
      simp
     refine⟨?_,fun i o hi=> ?_⟩
     ·show u ::us=rvL ρ' (.slice (some ⟨n,off,some (n+1)⟩) l 0 ::(J3 (n+2) cs).1)
      rw [rvL,<- h1,hu]
      cases ob with
      | none=>simp [rv,rSl,hn]
      | some g=>simp [rv,rSl,hn,hk]
     ·change Heap.get ((n, .ints k xs) ::(J3 (n+2) cs).2.1) i=some o at hi
      rw [b6] at hi
      split at hi
      ·rename_i e'
       subst e'
       cases hi
       rw [hn]
       exact ho ρ'
      ·exact h2 i o hi
   rcases hc with ⟨rfl,rfl,rfl,rfl⟩ | ⟨g,cap,cs',t,fr,rfl,h2,h3⟩
   ·exact key none 0 rfl (fun ρ'=> .inl ⟨rfl,rfl⟩)
   ·exact key (some g) cap rfl (fun ρ'=> .inr ⟨g,cs',t,fr,rfl,h2,h3⟩)
  | f g m sz off=>
   have key:∀ (ob:Option Nat) (cap:Nat),(u=match ob with | none=> .slice none m 0 | some b=> .slice (some ⟨b,off,none⟩) m cap)->(∀ ρ',ORep B M ρ' w ob (.fam g m sz off))->∃ ρ,Agree n ρ0 ρ∧∀ ρ',Agree (J3 n (.f g m sz off ::cs)).2.2 ρ ρ'->
     u ::us=rvL ρ' (J3 n (.f g m sz off ::cs)).1∧∀ i o,(J3 n (.f g m sz off ::cs)).2.1.get i=some o->ORep B M ρ' w (ρ' i) o:=by
    intro ob cap hu ho
    obtain⟨ρ,ha,hρ⟩:=ih (n+2) (fun i=>if i=n then ob else if i=n+1 then some cap else ρ0 i)
    refine⟨ρ,fun i hi=> ?_,fun ρ' ha'=> ?_⟩
    ·rw [ha i (by omega)]
     show (if i=n then ob else if i=n+1 then some cap else ρ0 i)=ρ0 i
     rw [a8 (by omega),a8 (by omega)]
    ·obtain⟨h1,h2⟩:=hρ ρ' ha'
     have hle:=N7 cs (n+2)
     have hn:ρ' n=ob:=by
      rw [ha' n (by show n < (J3 (n+2) cs).2.2; omega),ha n (by omega)]
      simp
     have hk:ρ' (n+1)=some cap:=by
      rw [ha' (n+1) (by show n+1 < (J3 (n+2) cs).2.2; omega),ha (n+1) (by omega)]
      simp
     refine⟨?_,fun i o hi=> ?_⟩
     ·show u ::us=rvL ρ' (.slice (some ⟨n,off,some (n+1)⟩) m 0 ::(J3 (n+2) cs).1)
      rw [rvL,<- h1,hu]
      cases ob with
      | none=>simp [rv,rSl,hn]
      | some b=>simp [rv,rSl,hn,hk]
     ·change Heap.get ((n, .fam g m sz off) ::(J3 (n+2) cs).2.1) i=some o at hi
      rw [b6] at hi
      split at hi
      ·rename_i e'
       subst e'
       cases hi
       rw [hn]
       exact ho ρ'
      ·exact h2 i o hi
   rcases hc with ⟨rfl,rfl⟩ | ⟨b,cap,cs',t,fr,rfl,h2,h3⟩
   ·exact key none 0 rfl (fun ρ'=> .inl ⟨rfl,rfl⟩)
   ·exact key (some b) cap rfl (fun ρ'=> .inr ⟨b,cs',t,fr,rfl,h2,h3⟩)
def Arg.unpack:Arg->Value->Option (List Value)
 | .c _,v=>some [v]
 | .a l, .agg ⟨us⟩=>match zO0 us.length l.length with
  | true=>some us
  | false=>none
 | .a _,_=>none
def d0g:List Arg->List Value->Option (List Value)
 | [],[] =>some []
 | a ::r,v ::vs=>match a.unpack v,d0g r vs with
  | some us,some us'=>some (us++us')
  | _,_=>none
 | _,_=>none
def p0y (rs:List Arg) (v:Value):Option (List Value):=
 match rs with
 | [a] =>a.unpack v
 | rs=>match v with
  | .tuple ⟨vs⟩=>d0g rs vs
  | _=>none
theorem uM {a:Arg} {v:Value} {us:List Value} (h:a.unpack v=some us) (ρ:Num):us.length=a.cells.length∧rv ρ v=a.pack (rvL ρ us):=by
 unfold Arg.unpack at h
 split at h
 ·cases h; exact⟨rfl,rfl⟩
 ·split at h
  case h_2=>cases h
  rename_i hl
  cases h
  exact⟨N8 hl,by simp [rv,rvA,Arg.pack]⟩
 ·cases h
theorem X2 (ρ:Num) (l:List Value):(rvL ρ l).length=l.length:=by rw [l5,z6]
theorem b2j (ρ:Num) (a b:List Value):rvL ρ (a++b)=rvL ρ a++rvL ρ b:=by rw [l5,l5,l5,bK]
theorem nP (ρ:Num):∀ {rs:List Arg} {vs us:List Value},d0g rs vs=some us->us.length=(t6 rs).length∧rvL ρ vs=J9 rs (rvL ρ us)
 | [],[],us,h=>by cases h; exact⟨rfl,rfl⟩
 | a ::r,v ::vs,us,h=>by
  unfold d0g at h
  split at h
  case h_2=>cases h
  rename_i u1 u2 h1 h2
  cases h
  obtain⟨g1,g2⟩:=uM h1 ρ
  obtain⟨g3,g4⟩:=nP ρ h2
  refine⟨by simp [t6,g1,g3],?_⟩
  simp only [rvL,J9]
  rw [b2j,<- g1,<- X2 ρ u1,pA,List.drop_left,g2,g4]
 | [],_ ::_,us,h=>by cases h
 | _ ::_,[],us,h=>by cases h
theorem g0t {rs:List Arg} {v:Value} {us:List Value} (h:p0y rs v=some us) (ρ:Num):us.length=(t6 rs).length∧rv ρ v=N2 (J9 rs (rvL ρ us)):=by
 unfold p0y at h
 split at h
 ·rename_i a
  obtain⟨h1,h2⟩:=uM h ρ
  refine⟨by simp [t6,h1],?_⟩
  rw [h2]
  simp only [J9,N2]
  rw [<- h1,<- X2 ρ us,y3]
 ·rename_i hne
  split at h
  case h_2=>cases h
  rename_i vs
  obtain⟨h1,h2⟩:=nP ρ h
  refine⟨h1,?_⟩
  simp only [rv,rvA,h2]
  cases rs with
  | nil=>rfl
  | cons a r=>
   cases r with
   | nil=>exact absurd rfl (hne a)
   | cons a2 r2=>rfl
def k2j (h:Heap):Cel->Value->Option (List Nat×List Prop)
 | .v x,u=>match pureV u with
  | true=>some ([],[u=x])
  | false=>none
 | .s e k xs,u=>match u with
  | .slice none 0 0=>some ([],[xs=[]])
  | .slice (some ⟨id,0,some kk⟩) n 0=>match h.get id with
   | some (.row e' sz (.ints k' ys) kk')=>match zO0 e' e && zO0 sz 1 && zO0 kk kk' && decide (k'=k) with
    | true=>some ([id],[n=xs.length∧n<=ys.length∧ys.take n=xs])
    | false=>none
   | _=>none
  | .slice (some ⟨id,0,none⟩) n c=>match h.get id with
   | some (.cells cs e')=>match zO0 e' e,kK k cs with
    | true,some l=>some ([id],[n=xs.length∧n<=l.length∧l.take n=xs∧c=l.length∧c<=maxLen])
    | _,_=>none
   | _=>none
  | _=>none
 | .o _ _ _ _,_=>none
 | .f _ _ _ _,_=>none
def l2b (h:Heap):List Cel->List Value->Option (List Nat×List Prop)
 | [],[] =>some ([],[])
 | c ::cs,u ::us=>match k2j h c u,l2b h cs us with
  | some (i,l),some (i',l')=>some (i++i',l++l')
  | _,_=>none
 | _,_=>none
theorem x0j {P:Program} {w w':World} {ρ:Num} {h:Heap} (hS:Sim P w.heap.size (fun _=>False) ρ h w') {c:Cel} {u:Value} {ids:List Nat} {l:List Prop} (hd:k2j h c u=some (ids,l)) (hl:d9 l):
  s0i w w' c (rv ρ u)∧∀ g,blk (rv ρ u)=some g->∃ i∈ids,(∃ o,h.get i=some o∧o.rw=true)∧ρ i=some g:=by
 cases c with
 | v x=>
  simp only [k2j] at hd
  split at hd
  case h_2=>cases hd
  rename_i hp
  cases hd
  obtain rfl:u=x:=hl.1
  refine⟨⟨A1 ρ u hp,hp⟩,fun g hg=> ?_⟩
  rw [A1 ρ u hp] at hg
  unfold blk at hg
  split at hg
  ·simp [pureV] at hp
  ·cases hg
 | s e k xs=>
  simp only [k2j] at hd
  split at hd
  ·cases hd
   obtain rfl:xs=[] :=hl.1
   exact⟨.inl ⟨by simp [rv],rfl⟩,fun g hg=>by simp [rv,blk] at hg⟩
  ·rename_i id kk n
   split at hd
   case h_2=>cases hd
   rename_i e' sz k' ys kk' hget
   split at hd
   case h_2=>cases hd
   rename_i hc
   simp only [u6,y4,V9] at hc
   obtain⟨⟨⟨rfl,rfl⟩,rfl⟩,rfl⟩:=hc
   cases hd
   obtain⟨h1,h2,h3⟩:=hl.1
   rcases hS.obj id _ hget with ⟨g1,g2⟩ | ⟨b,cap,cur,g1,g2,g3,g4,g5,g6,g7,g8⟩
   ·have hy:ys=[] :=by simpa [Row.list] using g2
    subst hy
    have hn:n=0:=by simpa using h2
    subst hn
    have hx:xs=[] :=by simpa using h3.symm
    subst hx
    exact⟨.inl ⟨by simp [rv,rSl,g1],rfl⟩,fun g hg=>by simp [rv,rSl,g1,blk] at hg⟩
   ·have e1:rvL ρ (ys.map (zO3 k'))=ys.map (zO3 k'):=rvL_pure _ _ (by rw [C3,zzA10]; intro x hx; obtain⟨y,_,rfl⟩:=zzA41.1 hx; rfl)
    simp only [Row.list,z6,y8] at g6 g7 g8
    refine⟨.inr ⟨b,cap,cur,by simp [rv,rSl,g1,g2,h1],g4.elim (fun h=>h) False.elim,g3,g5,g6,by omega,?_⟩,fun g hg=>⟨id,zzA133.2 rfl,⟨_,hget,rfl⟩,?_⟩⟩
    ·rw [<- h1,<- h3,eK,<- e1,<- g8,List.take_take,D4 h2]
    ·simp [rv,rSl,g1,blk] at hg
     rw [g1,hg]
  ·rename_i id n c
   split at hd
   case h_2=>cases hd
   rename_i cs e' hget
   split at hd
   case h_2=>cases hd
   rename_i l' he ht
   have he:=N8 he
   subst he
   cases hd
   obtain⟨h1,h2,h3,h4,h5⟩:=hl.1
   obtain⟨b,g1,g2,g3⟩:=hS.obj id _ hget
   have g3:w.heap.size<=b:=g3.elim (fun h=>h) (fun h=>h.elim)
   have hcs:=L5 ht
   have e1:rvL ρ cs=l'.map (zO3 k):=by rw [hcs]; exact rvL_pure _ _ (by rw [C3,zzA10]; intro x hx; obtain⟨y,_,rfl⟩:=zzA41.1 hx; rfl)
   rw [e1] at g2
   refine⟨.inr ⟨b,c,_,by simp [rv,rSl,p6,g1,h1],g3, .of g2,h5,by simp [h4],by omega,?_⟩,fun g hg=>⟨id,zzA133.2 rfl,⟨_,hget,rfl⟩,?_⟩⟩
   ·rw [<- h1,<- h3]
    simp [List.map_take]
   ·simp [rv,rSl,p6,g1,blk] at hg
    rw [g1,hg]
  ·cases hd
 | o k ys off n=>cases hd
 | f g m sz off=>cases hd
def t0u:List Nat->Bool
 | [] =>true
 | i ::r=> !(E9 i r) && t0u r
theorem t0r {i:Nat} :∀ {l:List Nat},E9 i l=false->i ∉ l
 | [],_,h=>by cases h
 | j ::r,h,hm=>by
  simp only [E9,r0t] at h
  rcases zzA83.1 hm with rfl | hm
  ·simp at h
  ·exact t0r h.2 hm
theorem nJ:∀ {l:List Nat},t0u l=true->l.Nodup
 | [],_=>List.nodup_nil
 | i ::r,h=>by
  simp only [t0u,u6,q0i] at h
  exact List.nodup_cons.2 ⟨t0r h.1,nJ h.2⟩
theorem zR {P:Program} {w w':World} {ρ:Num} {h:Heap} (hS:Sim P w.heap.size (fun _=>False) ρ h w'):∀ {cs:List Cel} {us:List Value} {ids:List Nat} {l:List Prop},l2b h cs us=some (ids,l)->d9 l->ids.Nodup->
  All2 (s0i w w') cs (rvL ρ us)∧((rvL ρ us).filterMap blk).Nodup∧∀ g∈(rvL ρ us).filterMap blk,∃ i∈ids,(∃ o,h.get i=some o∧o.rw=true)∧ρ i=some g
 | [],[],ids,l,hd,_,_=>by cases hd; exact⟨.nil,List.nodup_nil,fun g hg=>by cases hg⟩
 | c ::cs,u ::us,ids,l,hd,hl,hn=>by
  unfold l2b at hd
  split at hd
  case h_2=>cases hd
  rename_i i1 l1 i2 l2 h1 h2
  cases hd
  obtain⟨hl1,hl2⟩:=(m3 _ _).1 hl
  obtain⟨n1,n2,n3⟩:=List.nodup_append.1 hn
  obtain⟨a1,a2⟩:=x0j hS h1 hl1
  obtain⟨b1,b2,b3⟩:=zR hS h2 hl2 n2
  refine⟨.cons a1 b1,?_,?_⟩
  ·simp only [rvL,uL]
   split
   ·exact b2
   ·rename_i g hg
    refine List.nodup_cons.2 ⟨fun hm=> ?_,b2⟩
    obtain⟨i,hi,⟨o,ho,hr⟩,hb⟩:=a2 g hg
    obtain⟨j,hj,⟨o',ho',hr'⟩,hb'⟩:=b3 g hm
    exact hS.inj i j o o' ho hr ho' (n3 i hi j hj) (by rw [hb]; simp) (hb.trans hb'.symm)
  ·intro g hg
   simp only [rvL,uL] at hg
   split at hg
   ·obtain⟨i,hi,hr⟩:=b3 g hg
    exact⟨i,pJ _ hi,hr⟩
   ·rename_i g' hg'
    rcases zzA83.1 hg with rfl | hg
    ·obtain⟨i,hi,hr⟩:=a2 g hg'
     exact⟨i,oU _ hi,hr⟩
    ·obtain⟨i,hi,hr⟩:=b3 g hg
     exact⟨i,pJ _ hi,hr⟩
 | [],_ ::_,_,_,hd,_,_=>by cases hd
 | _ ::_,[],_,_,hd,_,_=>by cases hd
def B7 (X:Cx) (L:V0) (fuel f:Nat) (az rs:List Arg) (ds:List Bool):Option (List Prop):=
 match J3 X.P.globals.size (t6 az) with
 | (us,H,n)=>match s0u X L fuel f (J9 az us) H n ds with
  | none=>none
  | some r=>match p0y rs r.v with
   | none=>none
   | some us'=>match l2b r.h (t6 rs) us' with
    | none=>none
    | some (ids,l)=>match t0u ids with
     | true=>some (r.obs++l)
     | false=>none
theorem qT (ρ:Num):∀ (az:List Arg) (us:List Value),us.length=(t6 az).length->rvL ρ (J9 az us)=J9 az (rvL ρ us)
 | [],us,_=>rfl
 | a ::r,us,h=>by
  simp only [J9,rvL]
  have h:us.length=a.cells.length+(t6 r).length:=by simpa [t6] using h
  rw [qT ρ r (us.drop a.cells.length) (by rw [K3]; omega)]
  have e1:rvL ρ (us.drop a.cells.length)=(rvL ρ us).drop a.cells.length:=by rw [l5,l5,eI]
  have e2:rvL ρ (us.take a.cells.length)=(rvL ρ us).take a.cells.length:=by rw [l5,l5,eK]
  rw [e1,<- e2]
  congr 1
  cases a with
  | c x=>
   cases us with
   | nil=>simp [Arg.cells] at h; omega
   | cons u us=>simp [Arg.pack,Arg.cells,rvL]
  | a l=>simp [Arg.pack,rv,rvA]
theorem j1r {X:Cx} (hX:CxOk X X.J) (hng:ProgOk X.P) (L:V0) (fuel:Nat) (ds:List Bool) {f:FuncId} {az rs:List Arg} {l:List Prop} (h:B7 X L fuel f az rs ds=some l) (hl:d9 l):Sem X.P X.J f az rs:=by
 unfold B7 at h
 simp only at h
 split at h
 case h_1=>cases h
 rename_i r hev
 split at h
 case h_1=>cases h
 rename_i us' hun
 split at h
 case h_1=>cases h
 rename_i ids l' hdec
 split at h
 case h_2=>cases h
 rename_i hnd
 cases h
 obtain⟨hl1,hl2⟩:=(m3 _ _).1 hl
 refine⟨G5 hng hev,fun w us hI hA=> ?_⟩
 obtain⟨ρ,ha,hρ⟩:=h1i w.heap.size (fun _=>False) w (t6 az) us hA X.P.globals.size (fun i=>some i)
 have hp:Par X.P w.heap.size (fun _=>False):=⟨X.J.room w hI,fun _ _ h=>h⟩
 have hlen:(J3 X.P.globals.size (t6 az)).1.length=(t6 az).length:=by
  have:=G7 List.length (hρ ρ (Agree.refl _ _)).1
  rw [X2] at this
  rw [<- this,hA.length]
 have hS:∀ ρ',Agree (J3 X.P.globals.size (t6 az)).2.2 ρ ρ'->Sim X.P w.heap.size (fun _=>False) ρ' (J3 X.P.globals.size (t6 az)).2.1 w∧J9 az us=rvL ρ' (J9 az (J3 X.P.globals.size (t6 az)).1):=by
  intro ρ' ha'
  obtain⟨h1,h2⟩:=hρ ρ' ha'
  have hle:=N7 (t6 az) X.P.globals.size
  refine⟨⟨fun g hg=>by rw [ha' g (by omega),ha g hg],h2,fun i j o o' hi hr _ _=> ?_⟩,?_⟩
  ·rw [(eG _ _ _ _ hi).2.2] at hr
   cases hr
  ·rw [qT ρ' az _ hlen,<- h1]
 refine (L4 hX hng.mixed hev hl1 hp (d5 _) hI hS).2.mono fun e w' ⟨ρ1,v,_,he,hk,hfin⟩=> ?_
 obtain⟨hv,hsim⟩:=hfin ρ1 (Agree.refl _ _)
 obtain⟨_,hpack⟩:=g0t hun ρ1
 obtain⟨d1,d2,_⟩:=zR hsim hdec hl2 (nJ hnd)
 exact⟨rvL ρ1 us',by rw [he,hv,hpack],hk.below,d1,d2⟩
theorem l6 {b:Base} (hb:BaseOk b) (k:Nat) (L:V0) (ds:List Bool) {f:FuncId} {az rs:List Arg} {l:List Prop} (h:B7 (b.cx k) L b.fuel f az rs ds=some l) (hl:d9 l):Sem b.P b.J f az rs:=by
 obtain⟨hX,hng⟩:=a6 hb k
 have:=j1r hX hng L b.fuel ds h hl
 cases k <;> exact this
theorem Y5 {b:Base} (hb:BaseOk b) (k:Nat):CxOk (b.cxl k) (b.cxl k).J∧ProgOk (b.cxl k).P:=by
 obtain⟨hX,hng⟩:=a6 hb k
 exact⟨⟨hX.pc,hX.cl,hX.xt,hX.rd,hX.tabs,hX.ro⟩,hng⟩
theorem h1v {b:Base} (hb:BaseOk b) (k:Nat) (L:V0) (ds:List Bool) {f:FuncId} {az rs:List Arg} {l:List Prop} (h:B7 (b.cxl k) L b.fuel f az rs ds=some l) (hl:d9 l):Sem b.P b.J f az rs:=by
 obtain⟨hX,hng⟩:=Y5 hb k
 have:=j1r hX hng L b.fuel ds h hl
 cases k <;> exact this
inductive CS where
 | v
 | s (e:TypeId) (k:IntKind)
 | o (k:IntKind)
inductive AS where
 | c (x:CS)
 | a (l:List CS)
def t1o (H:Heap) (k:IntKind) (x:Value):Option (List Int×List Prop):=
 match x with
 | .slice none 0 0=>some ([],[])
 | .slice (some ⟨id,0,some _⟩) n 0=>match H.get id with
  | some (.ints k' xs)=>match decide (k'=k) with
   | true=>some (xs,[n=xs.length])
   | false=>none
  | some (.row _ sz (.ints k' xs) _)=>match decide (k'=k) && zO0 sz 1 with
   | true=>some (xs.take n,[n<=xs.length])
   | false=>none
  | _=>none
 | .slice (some ⟨id,0,none⟩) n _=>match H.get id with
  | some (.cells cs _)=>match kK k cs with
   | some l=>some (l.take n,[n<=l.length])
   | none=>none
  | _=>none
 | _=>none
def l2g (H:Heap):CS->Value->Option (Cel×List Prop)
 | .v,x=>match pureV x with
  | true=>some (.v x,[])
  | false=>none
 | .s e k,x=>match t1o H k x with
  | some (xs,l)=>some (.s e k xs,l)
  | none=>none
 | .o k,x=>match x with
  | .slice (some ⟨id,off,some _⟩) n _=>match H.get id with
   | some (.row _ sz (.ints k' ys) _)=>match decide (k'=k) && zO0 sz 1 with
    | true=>some (.o k ys off n,[off+n<=ys.length])
    | false=>none
   | _=>none
  | _=>none
def o1v (H:Heap):List CS->List Value->Option (List Cel×List Prop)
 | [],[] =>some ([],[])
 | s ::ss,x ::xs=>match l2g H s x,o1v H ss xs with
  | some (c,l),some (cs,l')=>some (c ::cs,l++l')
  | _,_=>none
 | _,_=>none
def q2t (H:Heap):AS->Value->Option (Arg×List Prop)
 | .c s,x=>match l2g H s x with
  | some (c,l)=>some (.c c,l)
  | none=>none
 | .a ss, .agg ⟨xs⟩=>match o1v H ss xs with
  | some (cs,l)=>some (.a cs,l)
  | none=>none
 | .a _,_=>none
def l2e (H:Heap):List AS->List Value->Option (List Arg×List Prop)
 | [],[] =>some ([],[])
 | s ::ss,x ::xs=>match q2t H s x,l2e H ss xs with
  | some (c,l),some (cs,l')=>some (c ::cs,l++l')
  | _,_=>none
 | _,_=>none
theorem U1 (ρ:Num) (k:IntKind) (xs:List Int):rvL ρ (xs.map (zO3 k))=xs.map (zO3 k):=
 rvL_pure _ _ (by rw [C3,zzA10]; intro x hx; obtain⟨y,_,rfl⟩:=zzA41.1 hx; rfl)
theorem bM {xs:List Int} {n i:Nat} (h:i < n) (k:IntKind) (hi:i < xs.length):(xs.map (zO3 k))[i]? =some (.int k ((xs.take n).getD i 0)):=by
 simp [List.getD,h,hi]
theorem dX {P:Program} {B:Nat} {M:Nat->Prop} {ρ:Num} {H:Heap} {w:World} (hS:Sim P B M ρ H w) {e:TypeId} {k:IntKind} {x:Value} {xs:List Int} {l:List Prop} (h:t1o H k x=some (xs,l)) (hl:d9 l):CelIs w (.s e k xs) (rv ρ x):=by
 unfold t1o at h
 split at h
 ·cases h
  exact .inl ⟨by simp [rv],rfl⟩
 ·rename_i id kk n
  split at h
  ·rename_i k' ys hget
   split at h
   case h_2=>cases h
   rename_i hk
   have hk:=G1 hk
   subst hk
   cases h
   obtain rfl:n=xs.length:=hl.1
   rcases hS.obj id _ hget with ⟨g1,g2⟩ | ⟨b,cs,t,fr,g1,g2,g3⟩
   ·subst g2
    exact .inl ⟨by simp [rv,rSl,g1],rfl⟩
   ·obtain⟨c',q⟩:=fK (off:=0) (sp:=some kk) (n:=xs.length) (c:=0) g1
    exact .inr ⟨b,c',cs,t,fr,q,g2,g3⟩
  ·rename_i e' sz k' ys kk' hget
   split at h
   case h_2=>cases h
   rename_i hc
   simp only [u6,y4,V9] at hc
   obtain⟨rfl,rfl⟩:=hc
   cases h
   have hn:n<=ys.length:=hl.1
   rcases hS.obj id _ hget with ⟨g1,g2⟩ | ⟨b,cap,cur,g1,g2,⟨fr,g3,_⟩,g4,g5,g6,g7,g8⟩
   ·have hy:ys=[] :=by simpa [Row.list] using g2
    subst hy
    have hn:n=0:=by simpa using hn
    subst hn
    exact .inl ⟨by simp [rv,rSl,g1],rfl⟩
   ·obtain⟨c',q⟩:=fK (off:=0) (sp:=some kk) (n:=n) (c:=0) g1
    have hlen:(ys.take n).length=n:=by rw [D5,D4 hn]
    refine .inr ⟨b,c',cur,e',fr,by rw [hlen]; exact q,g3,fun i hi=> ?_⟩
    rw [hlen] at hi
    simp only [Row.list] at g8
    rw [U1,z6] at g8
    rw [<- bM hi k' (by omega),<- g8,R9,i6 (by omega)]
    simp
  ·cases h
 ·rename_i id n c
  split at h
  case h_2=>cases h
  rename_i cs e' hget
  split at h
  case h_2=>cases h
  rename_i l' ht
  cases h
  have hn:n<=l'.length:=hl.1
  obtain⟨b,g1,g2,_⟩:=hS.obj id _ hget
  have hcs:=L5 ht
  subst hcs
  rw [U1] at g2
  have hlen:(l'.take n).length=n:=by rw [D5,D4 hn]
  refine .inr ⟨b,c,_,e',(0,0),by rw [hlen]; simp [rv,rSl,p6,g1],g2,fun i hi=> ?_⟩
  rw [hlen] at hi
  rw [<- bM hi k (by omega)]
  simp
 ·cases h
theorem yL {P:Program} {B:Nat} {M:Nat->Prop} {ρ:Num} {H:Heap} {w:World} (hS:Sim P B M ρ H w) {sh:CS} {x:Value} {c:Cel} {l:List Prop} (h:l2g H sh x=some (c,l)) (hl:d9 l):CelIs w c (rv ρ x):=by
 unfold l2g at h
 split at h
 ·split at h
  case h_2=>cases h
  rename_i hp
  cases h
  exact⟨A1 ρ x hp,hp⟩
 ·split at h
  case h_2=>cases h
  rename_i hs
  cases h
  exact dX hS hs hl
 ·split at h
  case h_2=>cases h
  rename_i id off kk n c
  split at h
  case h_2=>cases h
  rename_i e' sz k' ys kk' hget
  split at h
  case h_2=>cases h
  rename_i hc
  simp only [u6,y4,V9] at hc
  obtain⟨rfl,rfl⟩:=hc
  cases h
  have hn:off+n<=ys.length:=hl.1
  rcases hS.obj id _ hget with ⟨g1,g2⟩ | ⟨b,cap,cur,g1,g2,⟨fr,g3,_⟩,g4,g5,g6,g7,g8⟩
  ·have hy:ys=[] :=by simpa [Row.list] using g2
   subst hy
   simp only [mJ] at hn
   obtain rfl:off=0:=by omega
   obtain rfl:n=0:=by omega
   exact .inl ⟨by simp [rv,rSl,g1],rfl,rfl,rfl⟩
  ·obtain⟨c',q⟩:=fK (off:=off) (sp:=some kk) (n:=n) (c:=c) g1
   refine .inr ⟨b,c',cur,e',fr,q,g3,fun i hi=> ?_⟩
   simp only [Row.list] at g8
   rw [U1,z6] at g8
   have:=bM (xs:=ys) (n:=ys.length) hi k' hi
   rw [y3,<- g8,R9,i6 hi] at this
   simpa using this
theorem tJ {P:Program} {B:Nat} {M:Nat->Prop} {ρ:Num} {H:Heap} {w:World} (hS:Sim P B M ρ H w):∀ {sh:List CS} {xs:List Value} {cs:List Cel} {l:List Prop},o1v H sh xs=some (cs,l)->d9 l->All2 (CelIs w) cs (rvL ρ xs)
 | [],[],cs,l,h,_=>by cases h; exact .nil
 | s ::ss,x ::xs,cs,l,h,hl=>by
  unfold o1v at h
  split at h
  case h_2=>cases h
  rename_i c l1 cs' l2 h1 h2
  cases h
  obtain⟨hl1,hl2⟩:=(m3 _ _).1 hl
  exact .cons (yL hS h1 hl1) (tJ hS h2 hl2)
 | [],_ ::_,_,_,h,_=>by cases h
 | _ ::_,[],_,_,h,_=>by cases h
theorem zI {P:Program} {B:Nat} {M:Nat->Prop} {ρ:Num} {H:Heap} {w:World} (hS:Sim P B M ρ H w):∀ {sh:List AS} {xs:List Value} {az:List Arg} {l:List Prop},l2e H sh xs=some (az,l)->d9 l->∃ us,All2 (CelIs w) (t6 az) us∧rvL ρ xs=J9 az us
 | [],[],az,l,h,_=>by cases h; exact⟨[], .nil,rfl⟩
 | s ::ss,x ::xs,az,l,h,hl=>by
  unfold l2e at h
  split at h
  case h_2=>cases h
  rename_i a l1 az' l2 h1 h2
  cases h
  obtain⟨hl1,hl2⟩:=(m3 _ _).1 hl
  obtain⟨us,g1,g2⟩:=zI hS h2 hl2
  unfold q2t at h1
  split at h1
  ·split at h1
   case h_2=>cases h1
   rename_i c l0 hc
   cases h1
   refine⟨rv ρ x ::us, .cons (yL hS hc hl1) g1,?_⟩
   simp [rvL,J9,Arg.cells,Arg.pack,g2]
  ·split at h1
   case h_2=>cases h1
   rename_i cs l0 hc
   cases h1
   have hcs:=tJ hS hc hl1
   refine⟨rvL ρ _++us,hcs.append g1,?_⟩
   simp only [rvL,J9,Arg.cells,Arg.pack]
   rw [hcs.length,pA,List.drop_left,g2]
   simp [rv,rvA]
  ·cases h1
 | [],_ ::_,_,_,h,_=>by cases h
 | _ ::_,[],_,_,h,_=>by cases h
def mC (n:Nat):List Cel->List Value×Heap×Nat
 | [] =>([],[],n)
 | .v x ::r=>match mC n r with
  | (vs,h,m)=>(x ::vs,h,m)
 | .s e k xs ::r=>match mC (n+2) r with
  | (vs,h,m)=>(.slice (some ⟨n,0,some (n+1)⟩) xs.length 0 ::vs,(n, .row e 1 (.ints k xs) (n+1)) ::h,m)
 | .o _ _ _ _ ::r=>mC n r
 | .f _ _ _ _ ::r=>mC n r
theorem gN:∀ (cs:List Cel) (n:Nat),n<=(mC n cs).2.2
 | [],n=>d5 _
 | .v x ::r,n=>gN r n
 | .s e k xs ::r,n=>by
  have:=gN r (n+2)
  show n<=(mC (n+2) r).2.2
  omega
 | .o _ _ _ _ ::r,n=>gN r n
 | .f _ _ _ _ ::r,n=>gN r n
theorem c2a {B:Nat} (M:Nat->Prop) {w w':World} (hB:B<=w.heap.size):∀ (cs:List Cel) (us:List Value),All2 (s0i w w') cs us->(us.filterMap blk).Nodup->∀ (n:Nat) (ρ0:Num),∃ ρ,Agree n ρ0 ρ∧∀ ρ',Agree (mC n cs).2.2 ρ ρ'->
  us=rvL ρ' (mC n cs).1∧(∀ i o,(mC n cs).2.1.get i=some o->ORep B M ρ' w' (ρ' i) o∧(∀ g,ρ' i=some g->w.heap.size<=g∧g∈us.filterMap blk))∧∀ i j o o',(mC n cs).2.1.get i=some o->(mC n cs).2.1.get j=some o'->i≠j->ρ' i≠none->ρ' i≠ρ' j:=by
 intro cs us h
 induction h with
 | nil=>exact fun _ n ρ0=>⟨ρ0,Agree.refl _ _,fun ρ' _=>⟨rfl,(fun i o h=>by cases h),(fun i j o o' h=>by cases h)⟩⟩
 | @cons c u cs us hc _ ih=>
  intro hnd n ρ0
  have hnd2:(us.filterMap blk).Nodup:=by
   rw [uL] at hnd
   split at hnd
   ·exact hnd
   ·exact (List.nodup_cons.1 hnd).2
  cases c with
  | v x=>
   obtain⟨rfl,hp⟩:=hc
   obtain⟨ρ,ha,hρ⟩:=ih hnd2 n ρ0
   refine⟨ρ,ha,fun ρ' ha'=> ?_⟩
   obtain⟨h1,h2,h3⟩:=hρ ρ' ha'
   refine⟨?_,fun i o hi=>⟨(h2 i o hi).1,fun g hg=>⟨((h2 i o hi).2 g hg).1,?_⟩⟩,h3⟩
   ·show u ::us=rvL ρ' (u ::(mC n cs).1)
    simp only [rvL,A1 ρ' u hp,<- h1]
   ·have:=((h2 i o hi).2 g hg).2
    rw [uL]
    split
    ·exact this
    ·exact W2 _ this
  | s e k xs=>
   have key:∀ (ob:Option Nat) (cap:Nat),(u=match ob with | none=> .slice none xs.length 0 | some g=> .slice (some ⟨g,0,none⟩) xs.length cap)->(∀ ρ',ρ' (n+1)=some cap->ORep B M ρ' w' ob (.row e 1 (.ints k xs) (n+1)))->(∀ g,ob=some g->w.heap.size<=g)->∃ ρ,Agree n ρ0 ρ∧∀ ρ',Agree (mC n (.s e k xs ::cs)).2.2 ρ ρ'->
     u ::us=rvL ρ' (mC n (.s e k xs ::cs)).1∧(∀ i o,(mC n (.s e k xs ::cs)).2.1.get i=some o->ORep B M ρ' w' (ρ' i) o∧(∀ g,ρ' i=some g->w.heap.size<=g∧g∈(u ::us).filterMap blk))∧
     ∀ i j o o',(mC n (.s e k xs ::cs)).2.1.get i=some o->(mC n (.s e k xs ::cs)).2.1.get j=some o'->i≠j->ρ' i≠none->ρ' i≠ρ' j:=by
    intro ob cap hu ho hge
    obtain⟨ρ,ha,hρ⟩:=ih hnd2 (n+2) (fun i=>if i=n then ob else if i=n+1 then some cap else ρ0 i)
    refine⟨ρ,fun i hi=> ?_,fun ρ' ha'=> ?_⟩
    ·rw [ha i (by omega)]
     show (if i=n then ob else if i=n+1 then some cap else ρ0 i)=ρ0 i
     rw [a8 (by omega),a8 (by omega)]
    ·obtain⟨h1,h2,h3⟩:=hρ ρ' ha'
     have hle:=gN cs (n+2)
     have hn:ρ' n=ob:=by
      rw [ha' n (by show n < (mC (n+2) cs).2.2; omega),ha n (by omega)]
      simp
     have hk:ρ' (n+1)=some cap:=by
      rw [ha' (n+1) (by show n+1 < (mC (n+2) cs).2.2; omega),ha (n+1) (by omega)]
      simp
     have hbu:∀ g,ob=some g->blk u=some g:=fun g hg=>by rw [hu,hg]; rfl
     have hne:∀ j o',(mC (n+2) cs).2.1.get j=some o'->∀ g,ob=some g->ρ' j≠some g:=fun j o' hj g hg e=>by
      have hm:=((h2 j o' hj).2 g e).2
      rw [uL,hbu g hg] at hnd
      exact (List.nodup_cons.1 hnd).1 hm
     refine⟨?_,fun i o hi=> ?_,fun i j o o' hi hj hij hnn=> ?_⟩
     ·show u ::us=rvL ρ' (.slice (some ⟨n,0,some (n+1)⟩) xs.length 0 ::(mC (n+2) cs).1)
      rw [rvL,<- h1,hu]
      cases ob with
      | none=>simp [rv,rSl,hn]
      | some g=>simp [rv,rSl,hn,hk]
     ·change Heap.get ((n, .row e 1 (.ints k xs) (n+1)) ::(mC (n+2) cs).2.1) i=some o at hi
      rw [b6] at hi
      split at hi
      ·rename_i e'
       subst e'
       cases hi
       rw [hn]
       refine⟨ho ρ' hk,fun g hg=>⟨hge g hg,?_⟩⟩
       rw [uL,hbu g hg]
       exact kG ..
      ·refine⟨(h2 i o hi).1,fun g hg=>⟨((h2 i o hi).2 g hg).1,?_⟩⟩
       have:=((h2 i o hi).2 g hg).2
       rw [uL]
       split
       ·exact this
       ·exact W2 _ this
     ·change Heap.get ((n, .row e 1 (.ints k xs) (n+1)) ::(mC (n+2) cs).2.1) i=some o at hi
      change Heap.get ((n, .row e 1 (.ints k xs) (n+1)) ::(mC (n+2) cs).2.1) j=some o' at hj
      rw [b6] at hi hj
      split at hi <;> split at hj
      ·omega
      ·rename_i e1 _
       subst e1
       rw [hn] at hnn ⊢
       cases ob with
       | none=>exact absurd rfl hnn
       | some g=>exact fun e=>hne j o' hj g rfl e.symm
      ·rename_i _ e1
       subst e1
       rw [hn]
       cases ob with
       | none=>exact hnn
       | some g=>exact hne i o hi g rfl
      ·exact h3 i j o o' hi hj hij hnn
   rcases hc with ⟨rfl,rfl⟩ | ⟨g,cap,cur,rfl,h1,h2,h3,h4,h5,h6⟩
   ·exact key none 0 rfl (fun ρ' _=> .inl ⟨rfl,rfl⟩) (fun g hg=>by cases hg)
   ·refine key (some g) cap rfl (fun ρ' hk=> .inr ⟨g,cap,cur,rfl,hk,h2, .inl (by omega),h3,by omega,by simpa [Row.list] using h5,?_⟩) (fun g' hg=>by cases hg; exact h1)
    simp only [Row.list]
    rw [U1,z6]
    exact h6
  | o k ys off n=>exact hc.elim
  | f g m sz off=>exact hc.elim
def z7 (sh:List AS) (spec:List Arg->Option (List Arg×List Prop)) (args:List Value) (H:Heap) (n:Nat) (ds:List Bool):Option CR:=
 match l2e H sh args with
 | none=>none
 | some (az,l)=>match spec az with
  | none=>none
  | some (rs,l')=>match mC n (t6 rs) with
   | (us,h,m)=>some ⟨N2 (J9 rs us),h++H,m,l++l',ds⟩
theorem fE (F H:Heap) (i:Nat):Heap.get (F++H) i=match F.get i with | some o=>some o | none=>H.get i:=by
 induction F with
 | nil=>rfl
 | cons x F ih=>
  obtain⟨j,o⟩:=x
  rw [oQ,b6,b6,ih]
  split <;> rfl
theorem x1j {P:Program} {B:Nat} {M:Nat->Prop} {ρ:Num} {F H:Heap} {w w':World} (hS:Sim P B M ρ H w) (hb:Below w.heap.size w w')
  (hF:∀ i o,F.get i=some o->ORep B M ρ w' (ρ i) o∧∀ g,ρ i=some g->w.heap.size<=g) (hinj:∀ i j o o',F.get i=some o->F.get j=some o'->i≠j->ρ i≠none->ρ i≠ρ j):Sim P B M ρ (F++H) w':=by
 have low:∀ k ok,H.get k=some ok->∀ g,ρ k=some g->g < w.heap.size:=fun k ok hk g hg=>by
  have:=hS.obj k ok hk
  rw [hg] at this
  exact this.lt
 have hold:=hS.below hb
 refine⟨hS.glob,fun i o hi=> ?_,fun i j o o' hi hr hj hij hnn=> ?_⟩
 ·rw [fE] at hi
  split at hi
  ·rename_i h; cases hi; exact (hF i _ h).1
  ·exact hold.obj i o hi
 ·rw [fE] at hi hj
  cases h1:F.get i with
  | some q=>
   cases h2:F.get j with
   | some q'=>exact hinj i j q q' h1 h2 hij hnn
   | none=>
    rw [h2] at hj
    intro e
    cases hq:ρ i with
    | none=>exact hnn hq
    | some g=>
     have a:=(hF i _ h1).2 g hq
     have b:=low j o' hj g (by rw [<- e]; exact hq)
     omega
  | none=>
   rw [h1] at hi
   cases h2:F.get j with
   | some q'=>
    intro e
    cases hq:ρ i with
    | none=>exact hnn hq
    | some g=>
     have a:=(hF j _ h2).2 g (by rw [<- e]; exact hq)
     have b:=low i o hi g hq
     omega
   | none=>
    rw [h2] at hj
    exact hold.inj i j o o' hi hr hj hij hnn
def fP (P:Program) (J:Inv P) (f:FuncId) (spec:List Value->Heap->Nat->List Bool->Option CR):Prop:=
 ∀ args H n ds r,spec args H n ds=some r->d9 r.obs->n<=r.n∧Enters P f∧∀ (B:Nat) (M:Nat->Prop) (ρ:Num) (w:World) (vs:List Value),Par P B M->B<=w.heap.size->J.I w->
  (∀ ρ',Agree n ρ ρ'->Sim P B M ρ' H w∧vs=rvL ρ' args)->
  Calls P f ⟨vs⟩ w fun e w'=>∃ ρ1 v,Agree n ρ ρ1∧e= .returned v∧Keeps B M w w'∧∀ ρ',Agree r.n ρ1 ρ'->v=rv ρ' r.v∧Sim P B M ρ' r.h w'
def m8 (f:FuncId) (spec:List Value->Heap->Nat->List Bool->Option CR) (t:qV):qV:=fun g args H n ds=>
 match zO0 g f with
 | true=>spec args H n ds
 | false=>t g args H n ds
theorem d7 {P:Program} {J:Inv P} {f:FuncId} {spec:List Value->Heap->Nat->List Bool->Option CR} {t:qV} (h:fP P J f spec) (ht:qZ P J t):qZ P J (m8 f spec t):=by
 intro g args H n ds r hs hl
 unfold m8 at hs
 split at hs
 ·rename_i hg
  have:=N8 hg
  subst this
  exact h args H n ds r hs hl
 ·exact ht g args H n ds r hs hl
theorem s1g (ρ:Num) (l:List Value):rv ρ (N2 l)=N2 (rvL ρ l):=by
 cases l with
 | nil=>simp [N2,rv,rvA,rvL]
 | cons v l=>
  cases l with
  | nil=>simp [N2,rvL]
  | cons u l=>simp [N2,rv,rvA,rvL]
theorem m5 {P:Program} {J:Inv P} {f:FuncId} (sh:List AS) {spec:List Arg->Option (List Arg×List Prop)} (h:∀ az rs l,spec az=some (rs,l)->d9 l->Sem P J f az rs):fP P J f (z7 sh spec):=by
 intro args H n ds r hs hl
 unfold z7 at hs
 split at hs
 ·cases hs
 rename_i az l hpar
 split at hs
 ·cases hs
 rename_i rs l' hspec
 cases hs
 obtain⟨hl1,hl2⟩:=(m3 _ _).1 hl
 obtain⟨hent,hsem⟩:=h az rs l' hspec hl2
 refine⟨gN _ _,hent,fun B M ρ w vs hp hB hI hS=> ?_⟩
 obtain⟨hS0,hvs⟩:=hS ρ (Agree.refl _ _)
 obtain⟨us,hus,hpack⟩:=zI hS0 hpar hl1
 rw [hvs,hpack]
 refine (hsem w us hI hus).mono fun e w' ⟨us',he,hb,hnew,hnd⟩=> ?_
 obtain⟨ρ1,ha1,hρ1⟩:=c2a M hB _ _ hnew hnd n ρ
 refine⟨ρ1,_,ha1,he,n5 hb hB,fun ρ' ha'=> ?_⟩
 obtain⟨q1,q2,q3⟩:=hρ1 ρ' ha'
 have hag:Agree n ρ ρ':=fun i hi=>by rw [ha' i (B9 hi (gN _ _)),ha1 i hi]
 refine⟨?_,x1j (hS ρ' hag).1 hb (fun i o hi=>⟨(q2 i o hi).1,fun g hg=>((q2 i o hi).2 g hg).1⟩) q3⟩
 show N2 (J9 rs us')=rv ρ' (N2 (J9 rs (mC n (t6 rs)).1))
 have hlen:(mC n (t6 rs)).1.length=(t6 rs).length:=by
  have:=G7 List.length q1
  rw [X2] at this
  rw [<- this,hnew.length]
 rw [s1g,qT ρ' rs _ hlen,<- q1]
def n9 (X:Cx) (fuel f:Nat) (az:List Arg) (ds:List Bool):St:=
 match J3 X.P.globals.size (t6 az) with
 | (us,H,n)=>t7 X fuel f (J9 az us) H n ds
def itr {α:Type} (f:α->α):Nat->α->α
 | 0,a=>a
 | n+1,a=>f (itr f n a)
theorem v7 {X:Cx} {c:Code} (S:Nat->St) (n:Nat) {x:AX} (hx:x≠ .normal) {s':St} (h:∀ k,k < n->r7 X c (S k) .normal (S (k+1))) (ho:r7 X c (S n) x s'):b9 X c (S 0) x s':=
 D2 S (fun k=>n-k) (fun k=>k<=n) hx (fun k hk=>if hlt:k < n then .inl ⟨k+1,hlt,by omega,h k hlt⟩ else by
  obtain rfl:k=n:=by omega
  exact .inr ho) 0 (o8 _)
end
end Go.Proofs.YtbdaebagmmmijaaGreatDoor.Ev
namespace Go.Proofs.YtbdaebagmmmijaaGreatDoor
open Go.ChangeShapes Go.WideShapes Go.ChangeAt Go.RowKit Go.Joins
section
variable {H:Type} {enc:TypeId×Value->H} {P:Program} {T:TypeId->Prop}
theorem p0d {W W':World} {sp:Nat->Bool} (K:Kids P T) (hz:∀ t e,T t->P.underlying t=some (.slice e)->0 < P.cellsOf e) {t:TypeId} (hT:T t) {v:Value} {d:DataW H} {ps:List MemPlace}
  (h:DataW.Trod enc P W 0 (fun _=>true) true t v d ps) (hs:∀ p∈ps,W.sameAt W' p) (hp:∀ p∈ps,sp p.block=true):DataW.Trod enc P W' 0 sp true t v d ps:=by
 obtain⟨n,hn⟩:=h
 exact⟨n,DataW.trod_stays K (fun {t e} =>hz t e) (fun e=>by cases e) hT hn hs hp⟩
theorem kD {W W':World} {sp:Nat->Bool} (K:Kids P T) (hz:∀ t e,T t->P.underlying t=some (.slice e)->0 < P.cellsOf e):∀ {ts:List TypeId} {vs:List Value} {ds:List (DataW H)} {ps:List MemPlace},
  (∀ t∈ts,T t)->DataW.TrodAll enc P W 0 (fun _=>true) true ts vs ds ps->(∀ p∈ps,W.sameAt W' p)->(∀ p∈ps,sp p.block=true)->DataW.TrodAll enc P W' 0 sp true ts vs ds ps
 | [],[],[],_,_,h,_,_=>h
 | _ ::_,_ ::_,_ ::_,_,hT,⟨p,q,h1,h2,e⟩,hs,hp=>⟨p,q,p0d K hz (hT _ (zzA83.2 (Or.inl rfl))) h1 (fun x hx=>hs x (by rw [e]; exact oU _ hx)) (fun x hx=>hp x (by rw [e]; exact oU _ hx)),
   kD K hz (fun t ht=>hT t (zzA83.2 (Or.inr ht))) h2 (fun x hx=>hs x (by rw [e]; exact pJ _ hx)) (fun x hx=>hp x (by rw [e]; exact pJ _ hx)),e⟩
theorem i0c {W W':World} (h:Below W.heap.size W W') {b off:Nat} (hb:b < W.heap.size):W'.frozen? ⟨b,off,none⟩=W.frozen? ⟨b,off,none⟩:=by
 unfold World.frozen?
 rw [h.block b hb]
theorem b0w {f:Func} {s:ChangeSpec} {apart fresh handsOn again:Bool} {W W':World} {args:Array Value} {v:Value} {ds:List (DataW H)} {before:List MemPlace}
  (K:Kids P T) (hz:∀ t e,T t->P.underlying t=some (.slice e)->0 < P.cellsOf e) (hT:∀ t∈f.params.toList,T t) (hv:s.vars=[])
  (hW:DataW.Whole enc P f.params.toList s.vars apart W args.toList ds [] before)
  (hres:∀ (b:Nat) (sp:Nat->Bool) (hd:Bool),DataW.TrodAll enc P W' b sp hd f.resultTypes.toList (v.resultList f.resultTypes.size) (s.fn H (ds++[])).results [])
  (ha:(s.fn H (ds++[])).args=ds) (hvs:(s.fn H (ds++[])).vars=[])
  (hk:Below W.heap.size W W')
  (hok:∀ (j:Nat) (t:TypeId) (r:Value),f.resultTypes[j]? =some t->(v.resultList f.resultTypes.size)[j]? =some r->Value.okWide P W' .any 0 t r):
  s.post enc P f apart fresh handsOn again W args v W':=by
 have hlt:=hW.lt
 have hW':=hW
 obtain⟨p,q,hA,hV,rfl,hfz,hn⟩:=hW'
 rw [hv] at hV
 obtain⟨_,rfl⟩:=trodVars_none hV
 have hargs:∀ sp:Nat->Bool,(∀ x∈p,sp x.block=true)->DataW.TrodAll enc P W' 0 sp true f.params.toList args.toList (s.fn H (ds++[])).args p:=fun sp hsp=>by
  rw [ha]
  exact kD K hz hT hA (fun x hx=>hk.same (hlt x (oU _ hx))) hsp
 have hvars:∀ sp:Nat->Bool,DataW.TrodVars enc P W' sp s.vars (s.fn H (ds++[])).vars [] :=fun sp=>by rw [hv,hvs]; rfl
 refine⟨ds,[],p++[],[],p,[],hW,hres _ _ _,hargs _ (fun x hx=>by simpa using hlt x (oU _ hx)),hvars _,World.keptBut_mono (fun x hx=>⟨by simpa using hx, .inr (.inl hx)⟩) (hk.frame (· ∈p)),fun _=> ?_⟩
 refine⟨hok,_,_,([] ++p)++[],⟨[] ++p,[],trodAll_append (hargs _ (fun _ _=>rfl)) (hres _ _ _),hvars _,rfl,?_,?_⟩,?_⟩
 ·intro b off hp
  have hp':MemPlace.cell b off∈p++[] :=by simpa using hp
  rw [i0c hk (b:=b) (off:=off) (hlt _ hp')]
  exact hfz b off hp'
 ·intro ha'
  simpa using hn ha'
 ·intro x hx _
  simpa using hx
theorem n0b {w:World} {r:Reach} {b0:Nat} {t e:TypeId} {a:Addr} {len cap:Nat} (ht:P.underlying t=some (.slice e)) (h:Value.okWide P w r b0 t (.slice (some a) len cap)):a.spot=none∧∃ cs ty fr,w.heap[a.block]? =some (.cells cs ty fr):=by
 unfold Value.okWide at h
 rw [ht] at h
 simp only [Cell.okWide,Cell.ok,ht] at h
 obtain⟨_,_,_,h2,row,cells,h3,_⟩:=h
 refine⟨h2,?_⟩
 unfold World.shape? at h3
 split at h3
 ·rename_i c el fr hc; exact⟨c,el,fr,hc⟩
 ·cases h3
theorem r1h {α:Type} [Inhabited α] (mk:α->Value) (rd:α->DataW H) (Q:α->Prop) {W:World} {r:Reach} {b0:Nat} {t e:TypeId} {sz:Nat} (ht:P.underlying t=some (.slice e)) (hsz:P.cellsOf e=sz) {v:Value} {d:DataW H} {p:List MemPlace}
  (hv:Value.okWide P W r b0 t v) (h:DataW.Trod enc P W 0 (fun _=>true) true t v d p)
  (he:∀ (cs:List Value) (n:Nat) (y:DataW H×List MemPlace),cs.length=sz->DataW.trod enc P W 0 (fun _=>true) true n e cs=some y->∃ x,(mk x).cells.toList=cs∧Ev.pureV (mk x)=true∧y.1=rd x∧Q x):
  ∃ (F:Nat->α) (n off:Nat),Ev.CelIs W (.f (fun i=>mk (F i)) n sz off) v∧n<=maxLen∧(∀ i,i < n->Q (F i))∧(d= .nil∧n=0∨∃ rest,d= .slice ((List.range n).map fun i=>rd (F i)) rest):=by
 obtain⟨a,len,cap,rfl⟩:=okWide_slice ht hv
 obtain⟨fuel,hf⟩:=h
 rcases Deep.open_slice ht hf with ⟨h1,h2⟩ | ⟨a,len,cap,m,n,D,Pl,h1,_,hl,hm,hmm,hx,hel⟩
 ·simp only [Value.cells,J7,F1] at h1
  rw [h1]
  cases h2
  exact⟨fun _=>default,0,0, .inl ⟨rfl,rfl⟩,o8 _,fun i hi=>by omega, .inl ⟨rfl,rfl⟩⟩
 ·simp only [Value.cells,J7,F1] at h1
  rw [h1] at hv ⊢
  obtain⟨hsp,cs,ty,fr,hb⟩:=n0b ht hv
  obtain⟨b,off,sp⟩:=a
  simp only at hsp hb
  subst hsp
  have hmc:m=cap:=by rw [hmm]; rfl
  subst hmc
  have each:∀ i,i < m->∃ x,(mk x).cells.toList.length=sz∧Ev.pureV (mk x)=true∧D i=rd x∧Q x∧∀ (j:Nat) (u:Value),(mk x).cells.toList[j]? =some u->cs[off+i*sz+j]? =some u:=by
   intro i hi
   obtain⟨cs',hc,hy⟩:=hel i hi
   rw [hsz] at hc
   obtain⟨_,hlen,hcell⟩:=World.cells?_some hc
   obtain⟨x,q1,q2,q3,q4⟩:=he cs' n _ hlen hy
   refine⟨x,by rw [q1]; exact hlen,q2,q3,q4,fun j u hj=> ?_⟩
   rw [q1] at hj
   have hjl:j < sz:=by rw [<- hlen]; exact (zzA1.1 hj).1
   have:=hcell j hjl
   rw [hj,Ev.addr_add,Ev.addr_add,fW W b (off+i*sz+j) _ _ _ hb] at this
   exact this
  obtain⟨F,hF⟩:=Deep.choose_lt each
  simp only [Prod.mk.injEq] at hx
  refine⟨F,len,off, .inr ⟨b,m,cs,ty,fr,rfl,hb,fun i hi=> ?_⟩,by omega,fun i hi=>(hF i (by omega)).2.2.2.1, .inr ⟨(List.range (m-len)).map fun j=>D (len+j),?_⟩⟩
  ·obtain⟨g1,g2,_,_,g5⟩:=hF i (by omega)
   exact⟨g1,g2,g5⟩
  ·rw [hx.1]
   congr 1
   exact v0d fun i hi=>(hF i (by have:=zzA126.1 hi; omega)).2.2.1
end
abbrev d2j (x:Int):Value:= .int .u8 x
abbrev e2s {H:Type} (x:Int):DataW H:= .lit (.int .u8 x)
section
variable {H:Type} {enc:TypeId×Value->H} {W:World}
theorem c1k (cs:List Value) (n:Nat) (y:DataW H×List MemPlace) (_:cs.length=1) (h:DataW.trod enc zO8 W 0 (fun _=>true) true n 5 cs=some y):∃ x,(d2j x).cells.toList=cs∧Ev.pureV (d2j x)=true∧y.1=e2s x∧(0<=x∧x < 256):=by
 obtain⟨x,rfl,rfl,w⟩:=DataW.trod_int Tryz.underlying5 h
 refine⟨x,rfl,rfl,rfl,?_⟩
 simp only [Lit.wf,u6,V9] at w
 have h1:(0:Int)<=x:=w.1
 have h2:x<=255:=w.2
 exact⟨h1,by omega⟩
end
theorem f1r {a:Int} (w:(Lit.int .i64 a).wf=true): -9223372036854775808<=a∧a<=9223372036854775807:=by
 simp only [Lit.wf,u6,V9] at w
 exact w
theorem o1a:laidOutB zO8=true:=by kernel_rfl
theorem x0r:mapsRowed zO8=true:=by kernel_rfl
theorem p0v:∀ t e,t < zO8.types.size->zO8.underlying t=some (.slice e)->0 < zO8.cellsOf e:=slices_full_of zO8 (by kernel_rfl)
theorem s2d:Kids zO8 (· < zO8.types.size):=kids_rows o1a x0r
end Go.Proofs.YtbdaebagmmmijaaGreatDoor
namespace Go.Proofs.YtbdaebagmmmijaaGreatDoor.Wd
def val (b:Nat):List Int->Nat
 | [] =>0
 | x ::r=>x.toNat+b*val b r
def Dg (b:Nat) (l:List Int):Prop:=∀ x∈l,0<=x∧x < (b:Int)
theorem Dg.nil (b:Nat):Dg b [] :=fun _ h=>by cases h
theorem Dg.cons {b:Nat} {x:Int} {l:List Int} (h:0<=x∧x < (b:Int)) (k:Dg b l):Dg b (x ::l):=by
 intro y hy
 rcases zzA83.1 hy with rfl | hy
 ·exact h
 ·exact k y hy
theorem Dg.head {b:Nat} {x:Int} {l:List Int} (h:Dg b (x ::l)):0<=x∧x < (b:Int):=h x (kG ..)
theorem Dg.tail {b:Nat} {x:Int} {l:List Int} (h:Dg b (x ::l)):Dg b l:=fun y hy=>h y (W2 _ hy)
theorem Dg.get {b:Nat} (hb:0 < b) {l:List Int} (h:Dg b l) (i:Nat):0<=l.getD i 0∧l.getD i 0 < (b:Int):=by
 rw [mE]
 cases e:l[i]? with
 | none=>simp; omega
 | some x=>simpa using h x (a0j e)
theorem Dg.set {b:Nat} {l:List Int} (h:Dg b l) {x:Int} (hx:0<=x∧x < (b:Int)) (i:Nat):Dg b (l.set i x):=by
 intro y hy
 rcases List.mem_or_eq_of_mem_set hy with hy | rfl
 ·exact h y hy
 ·exact hx
theorem Dg.append {b:Nat} {l m:List Int} (h:Dg b l) (k:Dg b m):Dg b (l++m):=by
 intro y hy
 rcases zzA91.1 hy with hy | hy
 ·exact h y hy
 ·exact k y hy
theorem Dg.take {b:Nat} {l:List Int} (h:Dg b l) (i:Nat):Dg b (l.take i):=fun y hy=>h y (List.mem_of_mem_take hy)
theorem Dg.drop {b:Nat} {l:List Int} (h:Dg b l) (i:Nat):Dg b (l.drop i):=fun y hy=>h y (List.mem_of_mem_drop hy)
theorem K0 (b:Nat) (hb:0 < b) (n:Nat):Dg b (zO6 n 0):=by
 intro y hy
 have:=List.eq_of_mem_replicate hy
 subst this
 omega
theorem X0 (b:Nat):∀ l m:List Int,val b (l++m)=val b l+b ^l.length*val b m
 | [],m=>by simp [val]
 | x ::l,m=>by
  simp only [oQ,val,X0 b l m,A9,v6]
  rw [aY,<- m7,p4 b (b ^l.length)]
  omega
theorem W3 (b:Nat):∀ n,val b (zO6 n 0)=0
 | 0=>rfl
 | n+1=>by simp [List.replicate_succ,val,W3 b n]
theorem O3 {b:Nat} (hb:0 < b):∀ {l:List Int},Dg b l->val b l < b ^l.length
 | [],_=>by simp [val]
 | x ::l,h=>by
  have h1:=h.head
  have h2:=O3 hb h.tail
  simp only [val,A9,v6]
  have h3:b*val b l+b<=b*b ^l.length:=by
   rw [<- Nat.mul_succ]
   exact aQ b h2
  rw [p4 (b ^l.length) b]
  omega
theorem f0g {b:Nat} (hb:0 < b):∀ {l m:List Int},Dg b l->Dg b m->l.length=m.length->val b l=val b m->l=m
 | [],[],_,_,_,_=>rfl
 | [],_ ::_,_,_,h,_=>by simp at h
 | _ ::_,[],_,_,h,_=>by simp at h
 | x ::l,y ::m,hl,hm,hn,hv=>by
  have h1:=hl.head
  have h2:=hm.head
  simp only [val] at hv
  have e1:(x.toNat+b*val b l)%b=x.toNat:=by rw [i0h]; exact J5 (by omega)
  have e2:(y.toNat+b*val b m)%b=y.toNat:=by rw [i0h]; exact J5 (by omega)
  have e:x.toNat=y.toNat:=by rw [<- e1,<- e2,hv]
  have hv2:b*val b l=b*val b m:=by omega
  have:=f0g hb hl.tail hm.tail (by simpa using hn) (Nat.eq_of_mul_eq_mul_left hb hv2)
  subst this
  congr 1
  omega
def dig (b m i:Nat):Nat:=m/b ^i%b
theorem cJ {b:Nat} (hb:0 < b) (m i:Nat):dig b m i < b:=C7 _ hb
theorem F9 {b:Nat} (hb:0 < b):∀ {l:List Int},Dg b l->∀ i,l.getD i 0=(dig b (val b l) i:Int)
 | [],_,i=>by simp [dig,val]
 | x ::l,h,0=>by
  have h1:=h.head
  simp only [List.getD_cons_zero,dig,val,a0i,Nat.div_one,i0h]
  rw [J5 (by omega)]
  omega
 | x ::l,h,i+1=>by
  have h1:=h.head
  rw [List.getD_cons_succ,F9 hb h.tail i]
  simp only [dig,val]
  rw [v6,p4 (b ^i) b,<- nO,l0i _ _ hb,p0e (show x.toNat < b by omega),aW]
def dl (b:Nat):Nat->Nat->List Int
 | 0,_=>[]
 | n+1,m=>((m%b:Nat):Int) ::dl b n (m/b)
theorem p9 (b:Nat):∀ n m,(dl b n m).length=n
 | 0,_=>rfl
 | n+1,m=>by simp [dl,p9 b n]
theorem b1y {b:Nat} (hb:0 < b):∀ n m,Dg b (dl b n m)
 | 0,_=>Dg.nil b
 | n+1,m=>Dg.cons (by have:=C7 m hb; omega) (b1y hb n _)
theorem i0u (b:Nat):∀ n m,val b (dl b n m)=m%b ^n
 | 0,m=>by simp [dl,val,Nat.mod_one]
 | n+1,m=>by
  simp only [dl,val,i0u b n]
  rw [v6,p4 (b ^n) b,Nat.mod_mul,l4]
theorem e2q {b:Nat} (hb:0 < b) {l:List Int} (h:Dg b l) {n m:Nat} (hn:l.length=n) (hm:val b l=m):l=dl b n m:=by
 subst hn hm
 exact f0g hb h (b1y hb _ _) (p9 b _ _).symm (by rw [i0u,J5 (O3 hb h)])
theorem bO {b:Nat} :∀ {l:List Int} {i:Nat} (x:Int),i < l.length->val b (l.set i x)+(l.getD i 0).toNat*b ^i=val b l+x.toNat*b ^i
 | [],_,_,h=>by simp at h
 | y ::l,0,x,_=>by simp [val]; omega
 | y ::l,i+1,x,h=>by
  have ih:=bO (b:=b) (l:=l) (i:=i) x (by simpa using h)
  simp only [List.set_cons_succ,val,List.getD_cons_succ,v6]
  have h1:b*val b (l.set i x)+b*((l.getD i 0).toNat*b ^i)=b*val b l+b*(x.toNat*b ^i):=by rw [<- aY,<- aY,ih]
  have h2:(l.getD i 0).toNat*(b ^i*b)=b*((l.getD i 0).toNat*b ^i):=by rw [p4 b,m7]
  have h3:x.toNat*(b ^i*b)=b*(x.toNat*b ^i):=by rw [p4 b,m7]
  omega
theorem x3 (b:Nat) (l:List Int) (i:Nat) (h:i<=l.length):val b l=val b (l.take i)+b ^i*val b (l.drop i):=by
 have:=X0 b (l.take i) (l.drop i)
 rw [List.take_append_drop,D5,D4 h] at this
 exact this
theorem gO (b m i:Nat):m%b ^(i+1)=m%b ^i+dig b m i*b ^i:=by
 rw [v6,Nat.mod_mul]
 unfold dig
 rw [p4 (b ^i)]
theorem z1o {b:Nat} (m i:Nat):m/b ^i=dig b m i+b*(m/b ^(i+1)):=by
 unfold dig
 rw [v6,<- nO]
 exact (k0l _ _).symm
def wsF (b:Nat):Nat->Nat->List Int
 | 0,_=>[]
 | f+1,m=>match m with
  | 0=>[]
  | m+1=>(((m+1)%b:Nat):Int) ::wsF b f ((m+1)/b)
def ws (b m:Nat):List Int:=wsF b m m
theorem n1j {b:Nat} (hb:2<=b):∀ f m,m<=f->∀ g,m<=g->wsF b f m=wsF b g m:=by
 intro f
 induction f with
 | zero=>
  intro m hm g _
  obtain rfl:m=0:=by omega
  cases g <;> rfl
 | succ f ih=>
  intro m hm g hg
  cases m with
  | zero=>cases g <;> rfl
  | succ m=>
   cases g with
   | zero=>omega
   | succ g=>
    have hlt:(m+1)/b < m+1:=Nat.div_lt_self (by omega) hb
    simp only [wsF]
    rw [ih _ (by omega) g (by omega)]
theorem c0d (b:Nat):ws b 0=[] :=rfl
theorem k0g {b:Nat} (hb:2<=b) {m:Nat} (hm:0 < m):ws b m=((m%b:Nat):Int) ::ws b (m/b):=by
 cases m with
 | zero=>omega
 | succ m=>
  have hlt:(m+1)/b < m+1:=Nat.div_lt_self (by omega) hb
  unfold ws
  conv=>lhs; unfold wsF
  simp only
  rw [n1j hb m _ (by omega) ((m+1)/b) (d5 _)]
theorem a2z {b:Nat} (hb:2<=b) (m:Nat):Dg b (ws b m):=by
 induction m using Nat.strongRecOn with
 | ind m ih=>
  by_cases hm:m=0
  ·subst hm; exact Dg.nil b
  ·rw [k0g hb (by omega)]
   exact Dg.cons (by have:=C7 m (show 0 < b by omega); omega) (ih _ (Nat.div_lt_self (by omega) hb))
theorem j1u {b:Nat} (hb:2<=b) (m:Nat):val b (ws b m)=m:=by
 induction m using Nat.strongRecOn with
 | ind m ih=>
  by_cases hm:m=0
  ·subst hm; rfl
  ·rw [k0g hb (by omega)]
   simp only [val]
   rw [ih _ (Nat.div_lt_self (by omega) hb)]
   have:=k0l m b
   omega
def j2a (l:List Int):Prop:=∀ x,l.getLast? =some x->x≠0
theorem f2i {b:Nat} (hb:2<=b):∀ {l:List Int},Dg b l->j2a l->l=ws b (val b l)
 | [],_,_=>rfl
 | x ::l,h,hc=>by
  have h1:=h.head
  have hct:j2a l:=by
   intro y hy
   cases l with
   | nil=>cases hy
   | cons z l=>exact hc y (by rw [List.getLast?_cons_cons]; exact hy)
  have ih:=f2i hb h.tail hct
  have hpos:0 < val b (x ::l):=by
   simp only [val]
   cases l with
   | nil=>
    have:=hc x rfl
    simp [val]
    omega
   | cons z l=>
    have:0 < val b (z ::l):=by
     rcases R2 (val b (z ::l)) with h0 | h0
     ·rw [h0] at ih; cases ih
     ·exact h0
    have:=M6 (show 0 < b by omega) this
    omega
  rw [k0g hb hpos]
  simp only [val]
  rw [i0h,J5 (by omega),l0i _ _ (by omega),p0e (by omega),aW,<- ih]
  congr 1
  omega
theorem nA {b:Nat} (hb:2<=b) (m n:Nat):(ws b m).length<=n↔m < b ^n:=by
 constructor
 ·intro h
  have h1:=O3 (by omega) (a2z hb m)
  rw [j1u hb] at h1
  exact B9 h1 (y9 (by omega) h)
 ·induction n generalizing m with
  | zero=>
   intro h
   obtain rfl:m=0:=by simpa using h
   simp [c0d]
  | succ n ih=>
   intro h
   by_cases hm:m=0
   ·subst hm; simp [c0d]
   ·rw [k0g hb (by omega),A9]
    have:m/b < b ^n:=by
     rw [F4 (by omega),<- v6]
     exact h
    have:=ih _ this
    omega
theorem b1c {b:Nat} (hb:2<=b) {m:Nat} :(ws b m).length=0↔m=0:=by
 have:=nA hb m 0
 simp only [a0i] at this
 omega
theorem b1i {b:Nat} (hb:2<=b) (m i:Nat):(ws b m).getD i 0=(dig b m i:Int):=by
 rw [F9 (by omega) (a2z hb m),j1u hb]
def n7 (l:List Int):List Int:=(l.reverse.dropWhile (· ==0)).reverse
theorem V7 (l:List Int) (x:Int):n7 (l++[x])=if x=0 then n7 l else l++[x] :=by
 unfold n7
 rw [List.reverse_append]
 simp only [yR,List.reverse_nil,nH,List.singleton_append]
 rw [List.dropWhile_cons]
 by_cases h:x=0
 ·subst h; simp
 ·have:(x==0)=false:=by simpa using h
  simp [this,h]
theorem c0h (b:Nat) (l:List Int):val b (l++[0])=val b l:=by rw [X0]; simp [val]
theorem G0 {b:Nat} (hb:2<=b) {l:List Int} (h:Dg b l):n7 l=ws b (val b l):=by
 induction hn:l.length generalizing l with
 | zero=>
  have:=nY hn
  subst this
  rfl
 | succ n ih=>
  have hne:l≠[] :=by intro e; subst e; cases hn
  obtain⟨m,x,rfl⟩:∃ m x,l=m++[x] :=⟨l.dropLast,l.getLast hne,(List.dropLast_concat_getLast hne).symm⟩
  rw [V7]
  split
  ·rename_i hx
   subst hx
   rw [c0h]
   exact ih (fun y hy=>h y (oU _ hy)) (by simp at hn; omega)
  ·rename_i hx
   refine f2i hb h fun y hy=> ?_
   simp at hy
   omega
end Go.Proofs.YtbdaebagmmmijaaGreatDoor.Wd
namespace Go.Proofs.YtbdaebagmmmijaaGreatDoor
open Go Go.RowKit Ev Wd
def d0w:List Value->Option (Value×List Prop)
 | [.int .u64 x, .int .u64 y, .int .u64 c] =>some (.tuple ⟨[.int .u64 (zO2 ((x.toNat+y.toNat+c.toNat)%18446744073709551616)), .int .u64 (zO2 ((x.toNat+y.toNat+c.toNat)/18446744073709551616))]⟩,[c.toNat<=1])
 | _=>none
theorem m0y (args:List Value) (v:Value) (l:List Prop) (h:d0w args=some (v,l)) (hl:d9 l):Pure zO8 J0 148 args v:=by
 unfold d0w at h
 split at h
 case h_2=>cases h
 rename_i x y c
 cases h
 have hc:c.toNat<=1:=hl.1
 refine nF [.int .u64 x, .int .u64 y, .int .u64 c] _ [] ?_ trivial
 simp only [jZ,t0f hc]
def e0x (x y c:Int):Int:=zO2 ((x.toNat+18446744073709551616-y.toNat-c.toNat)%18446744073709551616)
def c0i (x y c:Int):Int:=zO2 (match zO1 x.toNat (y.toNat+c.toNat) with | true=>1 | false=>0)
def f0n:List Value->Option (Value×List Prop)
 | [.int .u64 x, .int .u64 y, .int .u64 c] =>some (.tuple ⟨[.int .u64 (e0x x y c), .int .u64 (c0i x y c)]⟩,[c.toNat<=1])
 | _=>none
theorem r0h (args:List Value) (v:Value) (l:List Prop) (h:f0n args=some (v,l)) (hl:d9 l):Pure zO8 J0 194 args v:=by
 unfold f0n at h
 split at h
 case h_2=>cases h
 rename_i x y c
 cases h
 have hc:c.toNat<=1:=hl.1
 refine pC [.int .u64 x, .int .u64 y, .int .u64 c] _ [] ?_ trivial
 simp only [iH,t0f hc]
 rfl
def r1m:Tab:=l7 148 d0w (l7 194 f0n (l7 17 Q9 (l7 18 aH z1h)))
theorem f0m:R8 zO8 J0 r1m:=b8 m0y (b8 r0h (b8 U9 (b8 eZ (gJ _ _))))
def bW0:Base:=⟨zO8,J0,false,r1m,D1,200,J2⟩
theorem w7:BaseOk bW0:=⟨progOk,f0m,n8 _ _,m4⟩
abbrev XW0:Cx:=bW0.cx 10
abbrev W64:Nat:=18446744073709551616
theorem i7:0 < W64:=by decide
theorem A8:2<=W64:=by decide
abbrev slV (j n:Nat):Value:= .slice (some ⟨j,0,some (j+1)⟩) n 0
abbrev Y8:TypeId:=39
theorem o9 {n:Nat} (h:n < 9223372036854775808):iI.wrap (n:Int)=(n:Int):=by
 have:=C8 (n:Int)
 omega
def xD:Code:=A3 zO8 152 0
def gP (p q:Nat) (xs ys L:List Int) (na nb N:Nat) (la c i:Int):St:=
 ⟨only 53 [(0,slV p na),(1,slV q nb),(5,slV 15 N),(6, .int .u64 c),(20,slV p na),(21, .int .i64 la),(22, .int .i64 i)],[(15, .row Y8 1 (.ints .u64 L) 16),(p, .ints .u64 xs),(q, .ints .u64 ys)],17,[],[],0,none,[],15⟩
section
variable (xs ys L:List Int) (na nb N:Nat) (la c i:Int)
theorem j1h (p q:Nat) (hpq:(p=11∧q=13)∨(p=13∧q=11)) (h0:decide (i < la)=true) (h1:decide (i < zO2 nb)=true) (h2:((zO2 0<=i∧i < zO2 nb)∧0 < ys.length)∧i.toNat < ys.length)
  (h3:((zO2 0<=i∧i < zO2 na)∧0 < xs.length)∧i.toNat < xs.length) (h4:c.toNat<=1) (h5:((zO2 0<=i∧i < zO2 N)∧0 < L.length)∧i.toNat < L.length):
  r7 XW0 xD (gP p q xs ys L na nb N la c i) .normal (gP p q xs ys (gR L i.toNat (zO2 (((xs.getD i.toNat 0).toNat+(ys.getD i.toNat 0).toNat+c.toNat)%18446744073709551616))) na nb N la
   (zO2 (((xs.getD i.toNat 0).toNat+(ys.getD i.toNat 0).toNat+c.toNat)/18446744073709551616)) (iI.wrap (i+1))):=by
 have hl:d9 [i.toNat < L.length,(zO2 0<=i∧i < zO2 N)∧0 < L.length,c.toNat<=1,i.toNat < xs.length,(zO2 0<=i∧i < zO2 na)∧0 < xs.length,i.toNat < ys.length,
   (zO2 0<=i∧i < zO2 nb)∧0 < ys.length,decide (i < zO2 nb)=true,decide (i < la)=true] :=⟨h5.2,h5.1,h4,h3.2,h3.1,h2.2,h2.1,h1,h0,a7⟩
 rcases hpq with ⟨rfl,rfl⟩ | ⟨rfl,rfl⟩
 ·exact d6 (a6 w7 10).1 progOk.mixed [] 200 [true,true] [] (by kernel_rfl) hl (by kernel_rfl) (by kernel_rfl)
 ·exact d6 (a6 w7 10).1 progOk.mixed [] 200 [true,true] [] (by kernel_rfl) hl (by kernel_rfl) (by kernel_rfl)
theorem r1b (p q:Nat) (hpq:(p=11∧q=13)∨(p=13∧q=11)) (h0:decide (i < la)=true) (h1:decide (i < zO2 nb)=false)
  (h3:((zO2 0<=i∧i < zO2 na)∧0 < xs.length)∧i.toNat < xs.length) (h4:c.toNat<=1) (h5:((zO2 0<=i∧i < zO2 N)∧0 < L.length)∧i.toNat < L.length):
  r7 XW0 xD (gP p q xs ys L na nb N la c i) .normal (gP p q xs ys (gR L i.toNat (zO2 (((xs.getD i.toNat 0).toNat+Int.toNat 0+c.toNat)%18446744073709551616))) na nb N la
   (zO2 (((xs.getD i.toNat 0).toNat+Int.toNat 0+c.toNat)/18446744073709551616)) (iI.wrap (i+1))):=by
 have hl:d9 [i.toNat < L.length,(zO2 0<=i∧i < zO2 N)∧0 < L.length,c.toNat<=1,i.toNat < xs.length,(zO2 0<=i∧i < zO2 na)∧0 < xs.length,decide (i < zO2 nb)=false,decide (i < la)=true] :=⟨h5.2,h5.1,h4,h3.2,h3.1,h1,h0,a7⟩
 rcases hpq with ⟨rfl,rfl⟩ | ⟨rfl,rfl⟩
 ·exact d6 (a6 w7 10).1 progOk.mixed [] 200 [true,false] [] (by kernel_rfl) hl (by kernel_rfl) (by kernel_rfl)
 ·exact d6 (a6 w7 10).1 progOk.mixed [] 200 [true,false] [] (by kernel_rfl) hl (by kernel_rfl) (by kernel_rfl)
theorem m1x (p q:Nat) (hpq:(p=11∧q=13)∨(p=13∧q=11)) (h0:decide (i < la)=false):r7 XW0 xD (gP p q xs ys L na nb N la c i) (.exit 0) (gP p q xs ys L na nb N la c i):=by
 rcases hpq with ⟨rfl,rfl⟩ | ⟨rfl,rfl⟩
 ·exact d6 (a6 w7 10).1 progOk.mixed [] 200 [false] [] (l:=[decide (i < la)=false]) (by kernel_rfl) ⟨h0,a7⟩ (by kernel_rfl) (by kernel_rfl)
 ·exact d6 (a6 w7 10).1 progOk.mixed [] 200 [false] [] (l:=[decide (i < la)=false]) (by kernel_rfl) ⟨h0,a7⟩ (by kernel_rfl) (by kernel_rfl)
end
theorem w1l {A B V c i a b:Nat} {w:Nat} (h:V+c*w ^i=A%w ^i+B%w ^i) (ha:dig w A i=a) (hb:dig w B i=b):
  V+(a+b+c)%w*w ^i+(a+b+c)/w*w ^(i+1)=A%w ^(i+1)+B%w ^(i+1):=by
 rw [gO,gO,ha,hb]
 have e:(a+b+c)%w*w ^i+(a+b+c)/w*w ^(i+1)=(a+b+c)*w ^i:=by
  rw [v6,<- m7,X6,<- x6]
  congr 1
  have:=k0l (a+b+c) w
  rw [p4] at this
  omega
 have e2:(a+b+c)*w ^i=a*w ^i+b*w ^i+c*w ^i:=by rw [x6,x6]
 omega
structure IPl where
 i:Nat
 c:Int
 L:List Int
def n1o (n A B:Nat) (p:IPl):Prop:=
 p.i<=n∧p.L.length=n+1∧Dg W64 p.L∧0<=p.c∧p.c<=1∧(∀ j,p.i<=j->p.L.getD j 0=0)∧val W64 p.L+p.c.toNat*W64 ^p.i=A%W64 ^p.i+B%W64 ^p.i
def sR (xs ys:List Int) (p:IPl):IPl:=
 ⟨p.i+1,zO2 (((xs.getD p.i 0).toNat+(ys.getD p.i 0).toNat+p.c.toNat)/18446744073709551616),gR p.L p.i (zO2 (((xs.getD p.i 0).toNat+(ys.getD p.i 0).toNat+p.c.toNat)%18446744073709551616))⟩
def O1 (n:Nat):IPl:=⟨0,0,zO6 n 0⟩
theorem getD_set_ne {l:List Int} {i j:Nat} (h:i≠j) (x:Int):(l.set i x).getD j 0=l.getD j 0:=by
 rw [mE,mE,List.getElem?_set_ne h]
theorem X9 (n j:Nat):(zO6 n (0:Int)).getD j 0=0:=by
 rw [mE,s0e]
 split <;> rfl
theorem Z5 {l:List Int} {i:Nat} (h:l.length<=i):l.getD i 0=0:=by
 rw [mE,j0a h]
 rfl
theorem b2r (n:Nat):0<=zO2 (n%18446744073709551616)∧zO2 (n%18446744073709551616) < ((W64:Nat):Int):=by
 have:=C7 n i7
 simp only [w9]
 exact⟨by omega,by exact_mod_cast this⟩
theorem o0w {a b c:Nat} (ha:a < W64) (hb:b < W64) (hc:c<=1):(a+b+c)/18446744073709551616<=1:=by
 have:a < 18446744073709551616:=ha
 have:b < 18446744073709551616:=hb
 omega
theorem x0o {n:Nat} {xs ys:List Int} (hx:Dg W64 xs) (hy:Dg W64 ys) {p:IPl} (h:n1o n (val W64 xs) (val W64 ys) p) (hi:p.i < n):n1o n (val W64 xs) (val W64 ys) (sR xs ys p):=by
 obtain⟨h1,h2,h3,h4,h5,h6,h7⟩:=h
 have gx:=F9 i7 hx p.i
 have gy:=F9 i7 hy p.i
 have ex:(xs.getD p.i 0).toNat=dig W64 (val W64 xs) p.i:=by rw [gx,l4]
 have ey:(ys.getD p.i 0).toNat=dig W64 (val W64 ys) p.i:=by rw [gy,l4]
 have la:=cJ i7 (val W64 xs) p.i
 have lb:=cJ i7 (val W64 ys) p.i
 unfold sR
 rw [A7,ex,ey]
 have hs:=o0w la lb (show p.c.toNat<=1 by omega)
 refine⟨hi,by simp [h2],h3.set (b2r _) _,w8 _,?_,fun j hj=> ?_,?_⟩
 ·simp only [w9]
  omega
 ·simp only at hj
  rw [getD_set_ne (by omega)]
  exact h6 j (by omega)
 ·have hv:=bO (b:=W64) (zO2 ((dig W64 (val W64 xs) p.i+dig W64 (val W64 ys) p.i+p.c.toNat)%18446744073709551616)) (show p.i < p.L.length by omega)
  rw [h6 p.i (d5 _)] at hv
  simp only [i0o,K6,I2,w9,l4] at hv
  simp only [w9,l4]
  rw [hv]
  exact w1l h7 rfl rfl
theorem iU {xs ys:List Int} (hx:Dg W64 xs) (hy:Dg W64 ys) (n:Nat):∀ k,k<=n->n1o n (val W64 xs) (val W64 ys) (itr (sR xs ys) k (O1 (n+1)))∧(itr (sR xs ys) k (O1 (n+1))).i=k
 | 0,_=>⟨⟨o8 _,by simp [itr,O1],K0 _ i7 _,uV _,by simp [itr,O1],fun j _=>X9 _ _,by simp [itr,O1,W3,Nat.mod_one]⟩,rfl⟩
 | k+1,hk=>by
  obtain⟨h1,h2⟩:=iU hx hy n k (by omega)
  exact⟨x0o hx hy h1 (by omega),by show (itr (sR xs ys) k _).i+1=k+1; rw [h2]⟩
theorem zG {xs ys:List Int} (hx:Dg W64 xs) (hy:Dg W64 ys) {n:Nat} (h1:xs.length<=n) (h2:ys.length<=n) {p:IPl} (h:n1o n (val W64 xs) (val W64 ys) p) (hi:p.i=n):p.L.set n p.c=dl W64 (n+1) (val W64 xs+val W64 ys):=by
 obtain⟨f1,f2,f3,f4,f5,f6,f7⟩:=h
 rw [hi] at f6 f7
 have hv:=bO (b:=W64) p.c (show n < p.L.length by omega)
 rw [f6 n (d5 _)] at hv
 simp only [i0o,K6,I2] at hv
 have l1:=B9 (O3 i7 hx) (y9 i7 h1)
 have l2:=B9 (O3 i7 hy) (y9 i7 h2)
 rw [J5 l1,J5 l2] at f7
 exact e2q i7 (f3.set ⟨f4,Int.lt_of_le_of_lt f5 (by decide)⟩ _) (by simp [f2]) (by omega)
theorem k0a (p q:Nat) (hpq:(p=11∧q=13)∨(p=13∧q=11)) {xs ys:List Int} (hx:Dg W64 xs) (hy:Dg W64 ys) (hb:xs.length < 1099511627776):
  b9 XW0 xD (gP p q xs ys (zO6 (xs.length+1) 0) xs.length ys.length (xs.length+1) xs.length 0 0) (.exit 0)
   (gP p q xs ys (itr (sR xs ys) xs.length (O1 (xs.length+1))).L xs.length ys.length (xs.length+1) xs.length (itr (sR xs ys) xs.length (O1 (xs.length+1))).c xs.length):=by
 refine v7 (fun k=>gP p q xs ys (itr (sR xs ys) k (O1 (xs.length+1))).L xs.length ys.length (xs.length+1) xs.length (itr (sR xs ys) k (O1 (xs.length+1))).c k) xs.length (by intro e; cases e) (fun k hk=> ?_)
  (m1x xs ys _ xs.length ys.length (xs.length+1) xs.length _ xs.length p q hpq (by simp))
 obtain⟨hg,hi⟩:=iU hx hy xs.length k (by omega)
 simp only [itr]
 generalize itr (sR xs ys) k (O1 (xs.length+1))=s at*
 obtain⟨h1,h2,h3,h4,h5,h6,h7⟩:=hg
 have hw:iI.wrap ((k:Int)+1)=((k+1:Nat):Int):=by
  have:=o9 (n:=k+1) (by omega)
  simpa using this
 subst hi
 by_cases hlt2:s.i < ys.length
 ·have:=j1h xs ys s.L xs.length ys.length (xs.length+1) xs.length s.c s.i p q hpq (by simpa using hk) (by simpa using hlt2) ⟨⟨⟨by simp,by simpa using hlt2⟩,by omega⟩,by simpa using hlt2⟩ ⟨⟨⟨by simp,by simpa using hk⟩,by omega⟩,by simpa using hk⟩ (by omega) ⟨⟨⟨by simp,by simp only [w9]; omega⟩,by omega⟩,by simp only [l4]; omega⟩
  rw [hw] at this
  exact this
 ·have:=r1b xs ys s.L xs.length ys.length (xs.length+1) xs.length s.c s.i p q hpq (by simpa using hk) (by simpa using hlt2) ⟨⟨⟨by simp,by simpa using hk⟩,by omega⟩,by simpa using hk⟩ (by omega) ⟨⟨⟨by simp,by simp only [w9]; omega⟩,by omega⟩,by simp only [l4]; omega⟩
  rw [hw] at this
  unfold sR
  rw [Z5 (l:=ys) (i:=s.i) (by omega)]
  exact this
abbrev wS (xs:List Int):Arg:= .c (.s Y8 .u64 xs)
section
variable (xs ys L R:List Int) (na nb N:Nat) (la c i:Int)
theorem e1w:B7 XW0 [N5 (.exit 0) (fun _=>gP 11 13 xs ys L na nb N la c i)] 200 152 [wS xs,wS ys] [wS R] [false] =some [na < L.length,((0:Int)<=(na:Int)∧(na:Int) < (N:Int))∧0 < L.length,
  b9 XW0 xD (n9 XW0 200 152 [wS xs,wS ys] [false]) (.exit 0) (gP 11 13 xs ys L na nb N la c i),
  0<=iI.wrap ((xs.length:Int)+1)∧iI.wrap ((xs.length:Int)+1)=iI.wrap ((xs.length:Int)+1)∧8*iI.wrap ((xs.length:Int)+1)<=281474976710656∧iI.wrap ((xs.length:Int)+1)<=9223372036854775807,
  decide ((xs.length:Int) < ys.length)=false,N=R.length∧N<=(gR L na c).length∧(gR L na c).take N=R] :=by kernel_rfl
theorem c1z:B7 XW0 [N5 (.exit 0) (fun _=>gP 13 11 ys xs L na nb N la c i)] 200 152 [wS xs,wS ys] [wS R] [true] =some [na < L.length,((0:Int)<=(na:Int)∧(na:Int) < (N:Int))∧0 < L.length,
  b9 XW0 xD (n9 XW0 200 152 [wS xs,wS ys] [true]) (.exit 0) (gP 13 11 ys xs L na nb N la c i),
  0<=iI.wrap ((ys.length:Int)+1)∧iI.wrap ((ys.length:Int)+1)=iI.wrap ((ys.length:Int)+1)∧8*iI.wrap ((ys.length:Int)+1)<=281474976710656∧iI.wrap ((ys.length:Int)+1)<=9223372036854775807,
  decide ((xs.length:Int) < ys.length)=true,N=R.length∧N<=(gR L na c).length∧(gR L na c).take N=R] :=by kernel_rfl
theorem w0e (x:AX) (s':St) (hw:iI.wrap ((xs.length:Int)+1)=((xs.length+1:Nat):Int)) (h:b9 XW0 xD (gP 11 13 xs ys (zO6 (xs.length+1) 0) xs.length ys.length (xs.length+1) xs.length 0 0) x s'):
  b9 XW0 xD (n9 XW0 200 152 [wS xs,wS ys] [false]) x s':=by
 have hw2:(iI.wrap ((xs.length:Int)+1)).toNat=xs.length+1:=by rw [hw]; rfl
 rw [<- hw2] at h
 exact l9 h [] (by kernel_rfl) (by kernel_rfl) (by kernel_rfl)
theorem y0y (x:AX) (s':St) (hw:iI.wrap ((ys.length:Int)+1)=((ys.length+1:Nat):Int)) (h:b9 XW0 xD (gP 13 11 ys xs (zO6 (ys.length+1) 0) ys.length xs.length (ys.length+1) ys.length 0 0) x s'):
  b9 XW0 xD (n9 XW0 200 152 [wS xs,wS ys] [true]) x s':=by
 have hw2:(iI.wrap ((ys.length:Int)+1)).toNat=ys.length+1:=by rw [hw]; rfl
 rw [<- hw2] at h
 exact l9 h [] (by kernel_rfl) (by kernel_rfl) (by kernel_rfl)
end
theorem F5 {n:Nat} (h:n < 1099511627776):iI.wrap ((n:Int)+1)=((n+1:Nat):Int):=by
 have:=o9 (n:=n+1) (by omega)
 simpa using this
theorem r1s {xs ys:List Int} (hx:Dg W64 xs) (hy:Dg W64 ys) (h1:xs.length < 1099511627776) (h2:ys.length < 1099511627776):
  Ev.Sem zO8 J0 152 [wS xs,wS ys] [wS (dl W64 (max xs.length ys.length+1) (val W64 xs+val W64 ys))] :=by
 by_cases hlt:xs.length < ys.length
 ·have hL:=k0a 13 11 (.inr ⟨rfl,rfl⟩) hy hx h2
  have hw:=F5 h2
  obtain⟨hg,hi⟩:=iU hy hx ys.length ys.length (d5 _)
  have hlast:=zG hy hx (d5 _) (by omega) hg hi
  rw [Nat.max_eq_right (by omega),l1n (val W64 xs)]
  refine l6 w7 10 _ _ (c1z xs ys _ _ ys.length xs.length (ys.length+1) ys.length _ ys.length) ⟨?_,⟨⟨by omega,by omega⟩,?_⟩,y0y xs ys _ _ hw hL,⟨?_,rfl,?_,?_⟩,by simpa using hlt,⟨?_,?_,?_⟩,a7⟩
  ·have:=hg.2.1; omega
  ·have:=hg.2.1; omega
  ·rw [hw]; omega
  ·rw [hw]; omega
  ·rw [hw]; omega
  ·rw [p9]
  ·rw [A7,hlast,p9]; exact d5 _
  ·rw [A7,hlast]; exact aU (by rw [p9]; exact d5 _)
 ·have hL:=k0a 11 13 (.inl ⟨rfl,rfl⟩) hx hy h1
  have hw:=F5 h1
  obtain⟨hg,hi⟩:=iU hx hy xs.length xs.length (d5 _)
  have hlast:=zG hx hy (d5 _) (by omega) hg hi
  rw [Nat.max_eq_left (by omega)]
  refine l6 w7 10 _ _ (e1w xs ys _ _ xs.length ys.length (xs.length+1) xs.length _ xs.length) ⟨?_,⟨⟨by omega,by omega⟩,?_⟩,w0e xs ys _ _ hw hL,⟨?_,rfl,?_,?_⟩,by simp; omega,⟨?_,?_,?_⟩,a7⟩
  ·have:=hg.2.1; omega
  ·have:=hg.2.1; omega
  ·rw [hw]; omega
  ·rw [hw]; omega
  ·rw [hw]; omega
  ·rw [p9]
  ·rw [A7,hlast,p9]; exact d5 _
  ·rw [A7,hlast]; exact aU (by rw [p9]; exact d5 _)
abbrev qR:TypeId:=113
def l0u:Code:=A3 zO8 143 0
abbrev slO (off n c:Nat):Value:= .slice (some ⟨11,off,none⟩) n c
def gH (xs:List Int) (neg:Bool) (off m c:Nat):St:=
 ⟨only 30 [(0, .bool neg),(1,slO off m c),(4, .pointer (some ⟨12,0,none⟩))],[(12, .cells [.bool false, .slice none 0 0] qR),(11, .ints .u64 xs)],13,[],[],0,none,[],12⟩
def o0z (xs:List Int) (off m:Nat):Bool:=match decide ((m:Int) > 0) with
 | true=>xs.getD (r8 off (P8 (iI.wrap ((m:Int)-1)).toNat 1)) 0==0
 | false=>false
section
variable (xs:List Int) (neg:Bool) (off m c:Nat)
theorem k1w (h0:o0z xs off m=true) (h1:decide ((m:Int) > 0)=true->r8 off (P8 (iI.wrap ((m:Int)-1)).toNat 1) < xs.length) (h2:decide ((m:Int) > 0)=true->(0<=iI.wrap ((m:Int)-1)∧iI.wrap ((m:Int)-1) < m)∧m<=xs.length)
  (h3:(0:Int)<=0∧0<=iI.wrap ((m:Int)-1)∧iI.wrap ((m:Int)-1)<=c):
  r7 XW0 l0u (gH xs neg off m c) .normal (gH xs neg off (iI.wrap ((m:Int)-1)).toNat c):=
 d6 (a6 w7 10).1 progOk.mixed [] 200 [true] [] (l:=[(0:Int)<=0∧0<=iI.wrap ((m:Int)-1)∧iI.wrap ((m:Int)-1)<=c,o0z xs off m=true,
  decide ((m:Int) > 0)=true->r8 off (P8 (iI.wrap ((m:Int)-1)).toNat 1) < xs.length,decide ((m:Int) > 0)=true->(0<=iI.wrap ((m:Int)-1)∧iI.wrap ((m:Int)-1) < m)∧m<=xs.length]) (by kernel_rfl) ⟨h3,h0,h1,h2,a7⟩ (by kernel_rfl) (by kernel_rfl)
theorem f0s (h0:o0z xs off m=false) (h1:decide ((m:Int) > 0)=true->r8 off (P8 (iI.wrap ((m:Int)-1)).toNat 1) < xs.length) (h2:decide ((m:Int) > 0)=true->(0<=iI.wrap ((m:Int)-1)∧iI.wrap ((m:Int)-1) < m)∧m<=xs.length):
  r7 XW0 l0u (gH xs neg off m c) (.exit 0) (gH xs neg off m c):=
 d6 (a6 w7 10).1 progOk.mixed [] 200 [false] [] (l:=[o0z xs off m=false,
  decide ((m:Int) > 0)=true->r8 off (P8 (iI.wrap ((m:Int)-1)).toNat 1) < xs.length,decide ((m:Int) > 0)=true->(0<=iI.wrap ((m:Int)-1)∧iI.wrap ((m:Int)-1) < m)∧m<=xs.length]) (by kernel_rfl) ⟨h0,h1,h2,a7⟩ (by kernel_rfl) (by kernel_rfl)
def j2x (n:Nat):St:=t7 XW0 200 143 [.bool neg,slO off n c] [(11, .ints .u64 xs)] 12 []
theorem p0z (n:Nat):s0u XW0 [N5 (.exit 0) (fun _=>gH xs neg off m c)] 200 143 [.bool neg,slO off n c] [(11, .ints .u64 xs)] 12 [] =
  some ⟨.agg ⟨[.bool (match neg with | true=>decide ((m:Int) > 0) | false=>false),slO off m c]⟩,[(11, .ints .u64 xs)],14,[b9 XW0 l0u (j2x xs neg off c n) (.exit 0) (gH xs neg off m c)],[]⟩:=by kernel_rfl
theorem h0e (n:Nat) (x:AX) (s':St) (h:b9 XW0 l0u (gH xs neg off n c) x s'):b9 XW0 l0u (j2x xs neg off c n) x s':=
 l9 h [] (by kernel_rfl) (by kernel_rfl) (by kernel_rfl)
end
theorem tH {l:List Int} {m:Nat} (h:m < l.length):l.take (m+1)=l.take m++[l.getD m 0] :=by
 rw [List.take_add_one,q0r h]
 simp [List.getD,h]
theorem e1t (xs:List Int) (neg:Bool) (off c n:Nat) (hn:off+n<=xs.length) (hc:n<=c) (hb:xs.length < 1099511627776):b9 XW0 l0u (gH xs neg off n c) (.exit 0) (gH xs neg off (n7 ((xs.drop off).take n)).length c):=by
 refine D2 (fun m=>gH xs neg off m c) id (fun m=>m<=n∧n7 ((xs.drop off).take m)=n7 ((xs.drop off).take n)) (by intro e; cases e) (fun m hm=> ?_) n ⟨d5 _,rfl⟩
 obtain⟨hle,he⟩:=hm
 rw [<- he]
 cases m with
 | zero=>
  right
  have:=f0s xs neg off 0 c rfl (fun e=>by simp at e) (fun e=>by simp at e)
  simpa [n7] using this
 | succ m=>
  have hw:iI.wrap (((m+1:Nat):Int)-1)=(m:Int):=by
   have:=o9 (n:=m) (by omega)
   rw [<- this]
   congr 1
   omega
  have hpos:decide (((m+1:Nat):Int) > 0)=true:=by simp
  have ha:r8 off (P8 (iI.wrap (((m+1:Nat):Int)-1)).toNat 1)=off+m:=by rw [hw]; simp
  have h1:decide (((m+1:Nat):Int) > 0)=true->r8 off (P8 (iI.wrap (((m+1:Nat):Int)-1)).toNat 1) < xs.length:=fun _=>by rw [ha]; omega
  have h2:decide (((m+1:Nat):Int) > 0)=true->(0<=iI.wrap (((m+1:Nat):Int)-1)∧iI.wrap (((m+1:Nat):Int)-1) < ((m+1:Nat):Int))∧m+1<=xs.length:=fun _=>by rw [hw]; omega
  have hlz:o0z xs off (m+1)=(xs.getD (off+m) 0==0):=by unfold o0z; rw [hpos,ha]
  have hg:(xs.drop off).getD m 0=xs.getD (off+m) 0:=by simp [List.getD,List.getElem?_drop]
  have ht:=tH (l:=xs.drop off) (m:=m) (by rw [K3]; omega)
  rw [hg] at ht
  by_cases hz:xs.getD (off+m) 0=0
  ·left
   have hs:=k1w xs neg off (m+1) c (by rw [hlz,hz]; rfl) h1 h2 (by rw [hw]; omega)
   rw [hw] at hs
   refine⟨m,⟨by omega,?_⟩,cP _,hs⟩
   rw [ht,hz,V7,i6 rfl]
  ·right
   have hs:=f0s xs neg off (m+1) c (by rw [hlz]; simpa using hz) h1 h2
   rw [ht,V7,a8 hz,<- ht,D5,K3,D4 (by omega)]
   exact hs
theorem Y2:Enters zO8 143:=G5 (a6 w7 10).2 (p0z [] false 0 0 0 0)
theorem dF (neg:Bool) (b:Option Nat) (off n c:Nat) (xs:List Int) (w:World) (hI:J0.I w) (hn:off+n<=xs.length) (hc:n<=c) (hb:xs.length < 1099511627776)
  (h:(b=none∧xs=[])∨∃ g cs t fr,b=some g∧w.heap[g]? =some (.cells cs t fr)∧∀ i,i < xs.length->cs[i]? =some (.int .u64 (xs.getD i 0))):
  Calls zO8 143 ⟨[.bool neg, .slice (b.map fun g=>⟨g,off,none⟩) n c]⟩ w fun e w'=>
   e= .returned (.agg ⟨[.bool (match neg with | true=>decide (((n7 ((xs.drop off).take n)).length:Int) > 0) | false=>false), .slice (b.map fun g=>⟨g,off,none⟩) (n7 ((xs.drop off).take n)).length c]⟩)∧Below w.heap.size w w':=by
 have hp:Par zO8 w.heap.size (fun _=>False):=⟨hI.1,fun _ _ h=>h⟩
 have hG:zO8.globals.size=11:=by kernel_rfl
 obtain⟨hX,_⟩:=a6 w7 10
 have hS:∀ ρ':Num,Agree 12 (fun i=>if i=11 then b else some i) ρ'->Sim zO8 w.heap.size (fun _=>False) ρ' [(11, .ints .u64 xs)] w∧([.bool neg, .slice (b.map fun g=>⟨g,off,none⟩) n c] :List Value)=rvL ρ' [.bool neg,slO off n c] :=by
  intro ρ' ha
  have h11:ρ' 11=b:=by rw [ha 11 (by omega)]; simp
  refine⟨⟨fun g hg=>by rw [ha g (by omega)]; simp; omega,fun i o hi=> ?_,fun i j o o' hi hr=> ?_⟩,?_⟩
  ·rw [b6] at hi
   split at hi
   ·rename_i e
    subst e
    cases hi
    rw [h11]
    exact h
   ·simp [Heap.get] at hi
  ·rw [b6] at hi
   split at hi
   ·cases hi; cases hr
   ·simp [Heap.get] at hi
  ·simp only [rvL,rv,rSl,p6,h11]
 refine (L4 hX progOk.mixed (p0z xs neg off _ c n) ⟨h0e xs neg off c n _ _ (e1t xs neg off c n hn hc hb),a7⟩ hp (d5 _) hI hS).2.mono fun e w' ⟨ρ1,v,ha,he,hk,hfin⟩=>⟨?_,hk.below⟩
 obtain⟨hv,_⟩:=hfin ρ1 (Agree.refl _ _)
 have h11:ρ1 11=b:=by rw [ha 11 (by omega)]; simp
 rw [he,hv]
 simp only [rv,rvA,rvL,rSl,p6,h11]
def kT (args:List Value) (H:Heap) (n:Nat) (ds:List Bool):Option CR:=
 match args with
 | [.bool neg, .slice (some ⟨id,off,some kk⟩) m c] =>match H.get id with
  | some (.row _ sz (.ints .u64 xs) kk')=>match zO0 kk kk' && zO0 sz 1 with
   | true=>some ⟨.agg ⟨[.bool (neg && decide (0 < (n7 ((xs.drop off).take m)).length)), .slice (some ⟨id,off,some kk⟩) (n7 ((xs.drop off).take m)).length c]⟩,H,n,[off=c∧off+m<=xs.length∧xs.length < 1099511627776],ds⟩
   | false=>none
  | some (.ints .u64 xs)=>match off,c with
   | 0,0=>some ⟨.agg ⟨[.bool (neg && decide (0 < xs.length)), .slice (some ⟨id,0,some kk⟩) m 0]⟩,H,n,[m=xs.length∧xs.length < 1099511627776∧n7 xs=xs],ds⟩
   | _,_=>none
  | _=>none
 | [.bool neg, .slice (some ⟨id,0,none⟩) m c] =>match H.get id with
  | some (.cells cs _)=>match kK .u64 cs with
   | some xs=>some ⟨.agg ⟨[.bool (neg && decide (0 < (n7 (xs.take m)).length)), .slice (some ⟨id,0,none⟩) (n7 (xs.take m)).length c]⟩,H,n,[m<=xs.length∧m<=c∧xs.length < 1099511627776],ds⟩
   | none=>none
  | _=>none
 | [.bool _, .slice none 0 0] =>some ⟨.agg ⟨[.bool false, .slice none 0 0]⟩,H,n,[],ds⟩
 | _=>none
theorem c0f (neg:Bool) (k:Nat):(match neg with | true=>decide ((k:Int) > 0) | false=>false)=(neg && decide (0 < k)):=by
 cases neg
 ·rfl
 ·simp only [c2i]
  congr 1
  simp
theorem B5 (l:List Int):(n7 l).length<=l.length:=by
 unfold n7
 rw [aR]
 have:=(List.dropWhile_sublist (l:=l.reverse) (fun x=>x==0)).length_le
 simpa using this
theorem v0s {xs:List Int} (h:n7 xs=xs) (hp:0 < xs.length):xs.getD (xs.length-1) 0≠0:=by
 intro hz
 have ht:=tH (l:=xs) (m:=xs.length-1) (by omega)
 rw [zE hp,y3,hz] at ht
 rw [ht,V7,i6 rfl] at h
 have h1:=B5 (xs.take (xs.length-1))
 rw [h] at h1
 simp at h1
 omega
theorem pX (neg:Bool) (b:Option Nat) (c:Nat) (xs:List Int) (w:World) (hI:J0.I w) (hb:xs.length < 1099511627776) (ht:n7 xs=xs)
  (h:(b=none∧xs=[])∨∃ g cs t fr,b=some g∧w.heap[g]? =some (.cells cs t fr)∧∀ i,i < xs.length->cs[i]? =some (.int .u64 (xs.getD i 0))):
  Calls zO8 143 ⟨[.bool neg, .slice (b.map fun g=>⟨g,0,none⟩) xs.length c]⟩ w fun e w'=>
   e= .returned (.agg ⟨[.bool (match neg with | true=>decide ((xs.length:Int) > 0) | false=>false), .slice (b.map fun g=>⟨g,0,none⟩) xs.length c]⟩)∧Below w.heap.size w w':=by
 have hp:Par zO8 w.heap.size (fun _=>False):=⟨hI.1,fun _ _ h=>h⟩
 have hG:zO8.globals.size=11:=by kernel_rfl
 obtain⟨hX,_⟩:=a6 w7 10
 have hS:∀ ρ':Num,Agree 12 (fun i=>if i=11 then b else some i) ρ'->Sim zO8 w.heap.size (fun _=>False) ρ' [(11, .ints .u64 xs)] w∧([.bool neg, .slice (b.map fun g=>⟨g,0,none⟩) xs.length c] :List Value)=rvL ρ' [.bool neg,slO 0 xs.length c] :=by
  intro ρ' ha
  have h11:ρ' 11=b:=by rw [ha 11 (by omega)]; simp
  refine⟨⟨fun g hg=>by rw [ha g (by omega)]; simp; omega,fun i o hi=> ?_,fun i j o o' hi hr=> ?_⟩,?_⟩
  ·rw [b6] at hi
   split at hi
   ·rename_i e
    subst e
    cases hi
    rw [h11]
    exact h
   ·simp [Heap.get] at hi
  ·rw [b6] at hi
   split at hi
   ·cases hi; cases hr
   ·simp [Heap.get] at hi
  ·simp only [rvL,rv,rSl,p6,h11]
 have hout:r7 XW0 l0u (gH xs neg 0 xs.length c) (.exit 0) (gH xs neg 0 xs.length c):=by
  have hw:0 < xs.length->iI.wrap ((xs.length:Int)-1)=((xs.length-1:Nat):Int):=fun h0=>by
   have:=o9 (n:=xs.length-1) (by omega)
   rw [<- this]
   congr 1
   omega
  refine f0s xs neg 0 xs.length c ?_ (fun e=> ?_) (fun e=> ?_)
  ·unfold o0z
   split
   ·rename_i e
    have h0:0 < xs.length:=by simpa using e
    rw [hw h0]
    have:=v0s ht h0
    simpa [r8] using this
   ·rfl
  ·have h0:0 < xs.length:=by simpa using e
   rw [hw h0]
   simp
   omega
  ·have h0:0 < xs.length:=by simpa using e
   rw [hw h0]
   omega
 have hL:b9 XW0 l0u (gH xs neg 0 xs.length c) (.exit 0) (gH xs neg 0 xs.length c):=v7 (fun _=>gH xs neg 0 xs.length c) 0 (by intro e; cases e) (fun k hk=>by omega) hout
 refine (L4 hX progOk.mixed (p0z xs neg 0 xs.length c xs.length) ⟨h0e xs neg 0 c xs.length _ _ hL,a7⟩ hp (d5 _) hI hS).2.mono fun e w' ⟨ρ1,v,ha,he,hk,hfin⟩=>⟨?_,hk.below⟩
 obtain⟨hv,_⟩:=hfin ρ1 (Agree.refl _ _)
 have h11:ρ1 11=b:=by rw [ha 11 (by omega)]; simp
 rw [he,hv]
 simp only [rv,rvA,rvL,rSl,p6,h11]
theorem gQ:fP zO8 J0 143 kT:=by
 intro args H n ds r h hl
 have fin:∀ {B:Nat} {M:Nat->Prop} {ρ:Num} {w:World} {vs:List Value} {neg:Bool} {u:Value} {v:Value},B<=w.heap.size->(∀ ρ',Agree n ρ ρ'->Sim zO8 B M ρ' H w∧vs=rvL ρ' [.bool neg,u])->
   (Calls zO8 143 ⟨vs⟩ w fun e w'=>(∃ x,e= .returned x∧∀ ρ',Agree n ρ ρ'->x=rv ρ' v)∧Below w.heap.size w w')->
   Calls zO8 143 ⟨vs⟩ w fun e w'=>∃ ρ1 x,Agree n ρ ρ1∧e= .returned x∧Keeps B M w w'∧∀ ρ',Agree n ρ1 ρ'->x=rv ρ' v∧Sim zO8 B M ρ' H w':=by
  intro B M ρ w vs neg u v hB hS hc
  exact hc.mono fun e w' ⟨⟨x,he,hx⟩,hb⟩=>⟨ρ,x,Agree.refl _ _,he,n5 hb hB,fun ρ' ha=>⟨hx ρ' ha,(hS ρ' ha).1.below hb⟩⟩
 unfold kT at h
 split at h
 ·rename_i neg id off kk m c
  split at h
  ·rename_i e sz xs kk' hget
   split at h
   case h_2=>cases h
   rename_i hc
   simp only [u6,y4] at hc
   obtain⟨rfl,rfl⟩:=hc
   cases h
   obtain⟨rfl,h2,h3⟩:=hl.1
   refine⟨d5 _,Y2,fun B M ρ w vs hp hB hI hS=>fin hB hS ?_⟩
   have hvs:=(hS ρ (Agree.refl _ _)).2
   rcases (hS ρ (Agree.refl _ _)).1.obj id _ hget with ⟨g1,g2⟩ | ⟨b,cap,cur,g1,g2,⟨fr,g3,_⟩,g4,g5,g6,g7,g8⟩
   ·have hx:xs=[] :=by simpa [Row.list] using g2
    subst hx
    have h0:off=0:=by simp at h2; omega
    have hm:m=0:=by simp at h2; omega
    subst h0 hm
    have:=dF neg none 0 0 0 [] w hI (by simp) (d5 _) (by simp) (.inl ⟨rfl,rfl⟩)
    have e1:vs=[.bool neg, .slice none 0 0] :=by rw [hvs]; simp [rvL,rv,rSl,g1]
    rw [e1]
    refine this.mono fun e w' ⟨he,hb⟩=>⟨⟨_,he,fun ρ' ha=> ?_⟩,hb⟩
    have e2:=(hS ρ' ha).2
    rw [e1] at e2
    simp only [rvL,rv,J7,F1] at e2
    simp only [rv,rvA,rvL,c0f]
    have:rSl ρ' ⟨id,0,some kk⟩ (n7 (([] :List Int).drop 0 |>.take 0)).length 0=rSl ρ' ⟨id,0,some kk⟩ 0 0:=rfl
    rw [this,<- e2.2]
    rfl
   ·simp only [Row.list,z6,y8] at g6 g7 g8
    rw [U1] at g8
    have hxs:∀ i,i < xs.length->cur[i]? =some (.int .u64 (xs.getD i 0)):=fun i hi=>by
     have:=bM (xs:=xs) (n:=xs.length) hi .u64 hi
     rw [y3,<- g8,R9,i6 hi] at this
     simpa using this
    have:=dF neg (some b) off m (cap-off) xs w hI h2 (by omega) h3 (.inr ⟨b,cur,e,fr,rfl,g3,hxs⟩)
    have e1:vs=[.bool neg, .slice (some ⟨b,off,none⟩) m (cap-off)] :=by rw [hvs]; simp [rvL,rv,rSl,g1,g2]
    rw [e1]
    refine this.mono fun e w' ⟨he,hb⟩=>⟨⟨_,he,fun ρ' ha=> ?_⟩,hb⟩
    rcases (hS ρ' ha).1.obj id _ hget with ⟨q1,q2⟩ | ⟨b',cap',cur',q1,q2,⟨fr',q3,_⟩,_⟩
    ·have hx:xs=[] :=by simpa [Row.list] using q2
     have e2:=(hS ρ' ha).2
     rw [e1] at e2
     simp [rvL,rv,rSl,q1] at e2
    ·have e2:=(hS ρ' ha).2
     rw [e1] at e2
     simp [rvL,rv,rSl,q1,q2] at e2
     simp only [rv,rvA,rvL,rSl,q1,q2,c0f,W4,A4,<- e2.1,<- e2.2]
  ·rename_i xs hget
   split at h
   case h_2=>cases h
   cases h
   obtain⟨rfl,h2,h3⟩:=hl.1
   refine⟨d5 _,Y2,fun B M ρ w vs hp hB hI hS=>fin hB hS ?_⟩
   have hvs:=(hS ρ (Agree.refl _ _)).2
   have hobj:(ρ id=none∧xs=[])∨∃ g cs t fr,ρ id=some g∧w.heap[g]? =some (.cells cs t fr)∧∀ i,i < xs.length->cs[i]? =some (.int .u64 (xs.getD i 0)):=(hS ρ (Agree.refl _ _)).1.obj id _ hget
   have e1:∃ cap,vs=[.bool neg, .slice ((ρ id).map fun g=>⟨g,0,none⟩) xs.length cap] :=by
    cases hq:ρ id with
    | none=>exact⟨0,by rw [hvs]; simp [rvL,rv,rSl,hq]⟩
    | some g=>exact⟨_,by rw [hvs]; simp [rvL,rv,rSl,hq]; rfl⟩
   obtain⟨cap,e1⟩:=e1
   have:=pX neg (ρ id) cap xs w hI h2 h3 hobj
   rw [<- e1] at this
   refine this.mono fun e w' ⟨he,hb⟩=>⟨⟨_,he,fun ρ' ha=> ?_⟩,hb⟩
   have e2:=(hS ρ' ha).2
   rw [e1] at e2
   simp only [rvL,rv,J7,F1] at e2
   simp only [rv,rvA,rvL,c0f,<- e2.2]
  ·cases h
 ·rename_i neg id m c
  split at h
  case h_2=>cases h
  rename_i cs e hget
  split at h
  case h_2=>cases h
  rename_i xs ht
  cases h
  obtain⟨h1,h2,h3⟩:=hl.1
  have hcs:=L5 ht
  subst hcs
  refine⟨d5 _,Y2,fun B M ρ w vs hp hB hI hS=>fin hB hS ?_⟩
  have hvs:=(hS ρ (Agree.refl _ _)).2
  obtain⟨b,g1,g2,_⟩:=(hS ρ (Agree.refl _ _)).1.obj id _ hget
  rw [U1] at g2
  have hxs:∀ i,i < xs.length->(xs.map (zO3 .u64)).toArray[i]? =some (.int .u64 (xs.getD i 0)):=fun i hi=>by
   have:=bM (xs:=xs) (n:=xs.length) hi .u64 hi
   rw [y3] at this
   simpa using this
  have:=dF neg (some b) 0 m c xs w hI (by omega) h2 h3 (.inr ⟨b,_,e,(0,0),rfl,g2,hxs⟩)
  have e1:vs=[.bool neg, .slice (some ⟨b,0,none⟩) m c] :=by rw [hvs]; simp [rvL,rv,rSl,p6,g1]
  rw [e1]
  refine this.mono fun e w' ⟨he,hb⟩=>⟨⟨_,he,fun ρ' ha=> ?_⟩,hb⟩
  obtain⟨b',q1,q2,_⟩:=(hS ρ' ha).1.obj id _ hget
  have e2:=(hS ρ' ha).2
  rw [e1] at e2
  simp [rvL,rv,rSl,p6,q1] at e2
  simp only [rv,rvA,rvL,rSl,p6,q1,c0f,A4,<- e2,sU]
 ·rename_i neg
  cases h
  refine⟨d5 _,Y2,fun B M ρ w vs hp hB hI hS=>fin hB hS ?_⟩
  have hvs:=(hS ρ (Agree.refl _ _)).2
  have:=dF neg none 0 0 0 [] w hI (by simp) (d5 _) (by simp) (.inl ⟨rfl,rfl⟩)
  have e1:vs=[.bool neg, .slice none 0 0] :=by rw [hvs]; simp [rvL,rv]
  rw [e1]
  refine this.mono fun e w' ⟨he,hb⟩=>⟨⟨_,he,fun ρ' ha=> ?_⟩,hb⟩
  simp only [rv,rvA,rvL]
  cases neg <;> rfl
 ·cases h
def l0y:Code:=A3 zO8 154 0
def z0k (xs ys L:List Int) (na nb N:Nat) (la c i:Int):St:=
 ⟨only 40 [(0,slV 11 na),(1,slV 13 nb),(5,slV 15 N),(6, .int .u64 c),(12,slV 11 na),(13, .int .i64 la),(14, .int .i64 i)],[(15, .row Y8 1 (.ints .u64 L) 16),(11, .ints .u64 xs),(13, .ints .u64 ys)],17,[],[],0,none,[],15⟩
section
variable (xs ys L R:List Int) (na nb N:Nat) (la c i:Int)
theorem o1g (h0:decide (i < la)=true) (h1:decide (i < zO2 nb)=true) (h2:((zO2 0<=i∧i < zO2 nb)∧0 < ys.length)∧i.toNat < ys.length)
  (h3:((zO2 0<=i∧i < zO2 na)∧0 < xs.length)∧i.toNat < xs.length) (h4:c.toNat<=1) (h5:((zO2 0<=i∧i < zO2 N)∧0 < L.length)∧i.toNat < L.length):
  r7 XW0 l0y (z0k xs ys L na nb N la c i) .normal (z0k xs ys (gR L i.toNat (e0x (xs.getD i.toNat 0) (ys.getD i.toNat 0) c)) na nb N la (c0i (xs.getD i.toNat 0) (ys.getD i.toNat 0) c) (iI.wrap (i+1))):=
 d6 (a6 w7 10).1 progOk.mixed [] 200 [true,true] [] (l:=[i.toNat < L.length,(zO2 0<=i∧i < zO2 N)∧0 < L.length,c.toNat<=1,i.toNat < xs.length,(zO2 0<=i∧i < zO2 na)∧0 < xs.length,i.toNat < ys.length,
   (zO2 0<=i∧i < zO2 nb)∧0 < ys.length,decide (i < zO2 nb)=true,decide (i < la)=true]) (by kernel_rfl) ⟨h5.2,h5.1,h4,h3.2,h3.1,h2.2,h2.1,h1,h0,a7⟩ (by kernel_rfl) (by kernel_rfl)
theorem y1a (h0:decide (i < la)=true) (h1:decide (i < zO2 nb)=false)
  (h3:((zO2 0<=i∧i < zO2 na)∧0 < xs.length)∧i.toNat < xs.length) (h4:c.toNat<=1) (h5:((zO2 0<=i∧i < zO2 N)∧0 < L.length)∧i.toNat < L.length):
  r7 XW0 l0y (z0k xs ys L na nb N la c i) .normal (z0k xs ys (gR L i.toNat (e0x (xs.getD i.toNat 0) 0 c)) na nb N la (c0i (xs.getD i.toNat 0) 0 c) (iI.wrap (i+1))):=
 d6 (a6 w7 10).1 progOk.mixed [] 200 [true,false] [] (l:=[i.toNat < L.length,(zO2 0<=i∧i < zO2 N)∧0 < L.length,c.toNat<=1,i.toNat < xs.length,(zO2 0<=i∧i < zO2 na)∧0 < xs.length,
   decide (i < zO2 nb)=false,decide (i < la)=true]) (by kernel_rfl) ⟨h5.2,h5.1,h4,h3.2,h3.1,h1,h0,a7⟩ (by kernel_rfl) (by kernel_rfl)
theorem x1t (h0:decide (i < la)=false):r7 XW0 l0y (z0k xs ys L na nb N la c i) (.exit 0) (z0k xs ys L na nb N la c i):=
 d6 (a6 w7 10).1 progOk.mixed [] 200 [false] [] (l:=[decide (i < la)=false]) (by kernel_rfl) ⟨h0,a7⟩ (by kernel_rfl) (by kernel_rfl)
theorem z1a:B7 XW0 [N5 (.exit 0) (fun _=>z0k xs ys L na nb N la c i)] 200 154 [wS xs,wS ys] [wS R] [] =some [
  b9 XW0 l0y (n9 XW0 200 154 [wS xs,wS ys] []) (.exit 0) (z0k xs ys L na nb N la c i),
  (0:Int)<=xs.length∧(xs.length:Int)=xs.length∧(8:Int)*xs.length<=281474976710656∧(xs.length:Int)<=9223372036854775807,N=R.length∧N<=L.length∧L.take N=R] :=by kernel_rfl
theorem n1g (x:AX) (s':St) (h:b9 XW0 l0y (z0k xs ys (zO6 xs.length 0) xs.length ys.length xs.length xs.length 0 0) x s'):
  b9 XW0 l0y (n9 XW0 200 154 [wS xs,wS ys] []) x s':=
 l9 h [] (by kernel_rfl) (by kernel_rfl) (by kernel_rfl)
end
theorem o1f {a b c:Nat} (ha:a < W64) (hb:b < W64) (hc:c<=1):∃ lo hi:Nat,e0x a b c=lo∧c0i a b c=hi∧lo < W64∧hi<=1∧lo+b+c=a+W64*hi:=by
 have ha:a < 18446744073709551616:=ha
 have hb:b < 18446744073709551616:=hb
 refine⟨_,_,rfl,rfl,C7 _ i7,?_,?_⟩
 ·split <;> omega
 ·simp only [l4]
  have hW:W64=18446744073709551616:=rfl
  rw [hW]
  split
  ·rename_i h
   have h:a < b+c:=by simpa [Nat.blt_eq] using h
   omega
  ·rename_i h
   have h:¬ a < b+c:=fun hlt=>by
    have:zO1 a (b+c)=true:=by simpa [Nat.blt_eq] using hlt
    rw [this] at h
    cases h
   omega
def r1v (n A B:Nat) (p:IPl):Prop:=
 p.i<=n∧p.L.length=n∧Dg W64 p.L∧0<=p.c∧p.c<=1∧(∀ j,p.i<=j->p.L.getD j 0=0)∧val W64 p.L+B%W64 ^p.i=A%W64 ^p.i+p.c.toNat*W64 ^p.i
def pV (xs ys:List Int) (p:IPl):IPl:=
 ⟨p.i+1,c0i (xs.getD p.i 0) (ys.getD p.i 0) p.c,gR p.L p.i (e0x (xs.getD p.i 0) (ys.getD p.i 0) p.c)⟩
theorem v0k {n:Nat} {xs ys:List Int} (hx:Dg W64 xs) (hy:Dg W64 ys) {p:IPl} (h:r1v n (val W64 xs) (val W64 ys) p) (hi:p.i < n):r1v n (val W64 xs) (val W64 ys) (pV xs ys p):=by
 obtain⟨h1,h2,h3,h4,h5,h6,h7⟩:=h
 have gx:=F9 i7 hx p.i
 have gy:=F9 i7 hy p.i
 obtain⟨lo,hi',e1,e2,e3,e4,e5⟩:=o1f (cJ i7 (val W64 xs) p.i) (cJ i7 (val W64 ys) p.i) (show p.c.toNat<=1 by omega)
 have ec:p.c=(p.c.toNat:Int):=by omega
 unfold pV
 rw [A7,gx,gy,ec,e1,e2]
 refine⟨hi,by simp [h2],h3.set ⟨by omega,by exact_mod_cast e3⟩ _,by simp only; omega,by simp only; omega,fun j hj=> ?_,?_⟩
 ·simp only at hj
  rw [getD_set_ne (by omega)]
  exact h6 j (by omega)
 ·have hv:=bO (b:=W64) (lo:Int) (show p.i < p.L.length by omega)
  rw [h6 p.i (d5 _)] at hv
  simp only [i0o,K6,I2,l4] at hv
  simp only [l4]
  rw [hv,gO,gO,v6]
  have q1:(lo+dig W64 (val W64 ys) p.i+p.c.toNat)*W64 ^p.i=(dig W64 (val W64 xs) p.i+W64*hi')*W64 ^p.i:=by rw [e5]
  rw [x6,x6,x6] at q1
  have q2:hi'*(W64 ^p.i*W64)=W64*hi'*W64 ^p.i:=by rw [p4 (W64 ^p.i),<- m7,p4 hi']
  omega
theorem cC {xs ys:List Int} (hx:Dg W64 xs) (hy:Dg W64 ys) (n:Nat):∀ k,k<=n->r1v n (val W64 xs) (val W64 ys) (itr (pV xs ys) k (O1 n))∧(itr (pV xs ys) k (O1 n)).i=k
 | 0,_=>⟨⟨o8 _,by simp [itr,O1],K0 _ i7 _,uV _,by simp [itr,O1],fun j _=>X9 _ _,by simp [itr,O1,W3,Nat.mod_one]⟩,rfl⟩
 | k+1,hk=>by
  obtain⟨h1,h2⟩:=cC hx hy n k (by omega)
  exact⟨v0k hx hy h1 (by omega),by show (itr (pV xs ys) k _).i+1=k+1; rw [h2]⟩
theorem zS {xs ys:List Int} (hx:Dg W64 xs) (hy:Dg W64 ys) {n:Nat} (h1:xs.length<=n) (h2:ys.length<=n) (hle:val W64 ys<=val W64 xs) {p:IPl} (h:r1v n (val W64 xs) (val W64 ys) p) (hi:p.i=n):p.L=dl W64 n (val W64 xs-val W64 ys):=by
 obtain⟨f1,f2,f3,f4,f5,f6,f7⟩:=h
 rw [hi] at f7
 have l1:=B9 (O3 i7 hx) (y9 i7 h1)
 have l2:=B9 (O3 i7 hy) (y9 i7 h2)
 have l3:=O3 i7 f3
 rw [f2] at l3
 rw [J5 l1,J5 l2] at f7
 have hc:p.c.toNat=0:=by
  rcases E0 p.c.toNat 1 with h | h
  ·omega
  ·have:p.c.toNat=1:=by omega
   rw [this] at f7
   omega
 rw [hc] at f7
 exact e2q i7 f3 f2 (by omega)
theorem f1p {xs ys:List Int} (hx:Dg W64 xs) (hy:Dg W64 ys) (hle:val W64 ys<=val W64 xs) (h1:xs.length < 1099511627776) (h2:ys.length<=xs.length):
  Ev.Sem zO8 J0 154 [wS xs,wS ys] [wS (dl W64 xs.length (val W64 xs-val W64 ys))] :=by
 obtain⟨hg,hi⟩:=cC hx hy xs.length xs.length (d5 _)
 have hlast:=zS hx hy (d5 _) h2 hle hg hi
 have hL:b9 XW0 l0y (z0k xs ys (zO6 xs.length 0) xs.length ys.length xs.length xs.length 0 0) (.exit 0)
   (z0k xs ys (itr (pV xs ys) xs.length (O1 xs.length)).L xs.length ys.length xs.length xs.length (itr (pV xs ys) xs.length (O1 xs.length)).c xs.length):=by
  refine v7 (fun k=>z0k xs ys (itr (pV xs ys) k (O1 xs.length)).L xs.length ys.length xs.length xs.length (itr (pV xs ys) k (O1 xs.length)).c k) xs.length (by intro e; cases e) (fun k hk=> ?_)
   (x1t xs ys _ xs.length ys.length xs.length _ _ xs.length (by simp))
  obtain⟨hg,hi⟩:=cC hx hy xs.length k (by omega)
  simp only [itr]
  generalize itr (pV xs ys) k (O1 xs.length)=s at*
  obtain⟨h1',h2',h3,h4,h5,h6,h7⟩:=hg
  have hw:=F5 (n:=k) (by omega)
  subst hi
  by_cases hlt2:s.i < ys.length
  ·have:=o1g xs ys s.L xs.length ys.length xs.length xs.length s.c s.i (by simpa using hk) (by simpa using hlt2) ⟨⟨⟨by simp,by simpa using hlt2⟩,by omega⟩,by simpa using hlt2⟩ ⟨⟨⟨by simp,by simpa using hk⟩,by omega⟩,by simpa using hk⟩ (by omega) ⟨⟨⟨by simp,by simp only [w9]; omega⟩,by omega⟩,by simp only [l4]; omega⟩
   rw [hw] at this
   exact this
  ·have:=y1a xs ys s.L xs.length ys.length xs.length xs.length s.c s.i (by simpa using hk) (by simpa using hlt2) ⟨⟨⟨by simp,by simpa using hk⟩,by omega⟩,by simpa using hk⟩ (by omega) ⟨⟨⟨by simp,by simp only [w9]; omega⟩,by omega⟩,by simp only [l4]; omega⟩
   rw [hw] at this
   unfold pV
   rw [Z5 (l:=ys) (i:=s.i) (by omega)]
   exact this
 refine l6 w7 10 _ _ (z1a xs ys _ _ _ _ _ _ _ _) ⟨n1g xs ys _ _ hL,⟨by omega,rfl,by omega,by omega⟩,⟨?_,?_,?_⟩,a7⟩
 ·rw [p9]
 ·rw [hg.2.1]; exact d5 _
 ·rw [hlast]
  exact aU (by rw [p9]; exact d5 _)
def gG:Code:=A3 zO8 153 0
def yX (xs ys:List Int) (na nb:Nat) (i:Int):St:=⟨only 43 [(0,slV 11 na),(1,slV 13 nb),(5, .int .i64 i)],[(11, .ints .u64 xs),(13, .ints .u64 ys)],15,[],[],0,none,[],15⟩
def v1p (xs ys:List Int) (na nb:Nat) (r:Int):St:=⟨only 43 [(0,slV 11 na),(1,slV 13 nb),(4, .int .i64 r)],[(11, .ints .u64 xs),(13, .ints .u64 ys)],15,[],[],0,none,[],15⟩
section
variable (xs ys:List Int) (na nb:Nat) (i r:Int)
abbrev inB (ys:List Int) (nb:Nat) (i:Int):Prop:=((zO2 0<=i∧i < zO2 nb)∧0 < ys.length)∧i.toNat < ys.length
theorem m1r (h0:decide (0<=i)=true) (hx:inB xs na i) (hy:inB ys nb i) (h1:decide (xs.getD i.toNat 0 < ys.getD i.toNat 0)=true):r7 XW0 gG (yX xs ys na nb i) .ret (v1p xs ys na nb (-1)):=
 d6 (a6 w7 10).1 progOk.mixed [] 200 [true,true] [] (l:=[decide (xs.getD i.toNat 0 < ys.getD i.toNat 0)=true,i.toNat < ys.length,(zO2 0<=i∧i < zO2 nb)∧0 < ys.length,i.toNat < xs.length,(zO2 0<=i∧i < zO2 na)∧0 < xs.length,decide (0<=i)=true])
  (by kernel_rfl) ⟨h1,hy.2,hy.1,hx.2,hx.1,h0,a7⟩ (by kernel_rfl) (by kernel_rfl)
theorem n1s (h0:decide (0<=i)=true) (hx:inB xs na i) (hy:inB ys nb i) (h1:decide (xs.getD i.toNat 0 < ys.getD i.toNat 0)=false) (h2:decide (ys.getD i.toNat 0 < xs.getD i.toNat 0)=true):r7 XW0 gG (yX xs ys na nb i) .ret (v1p xs ys na nb 1):=
 d6 (a6 w7 10).1 progOk.mixed [] 200 [true,false,true] [] (l:=[decide (ys.getD i.toNat 0 < xs.getD i.toNat 0)=true,i.toNat < ys.length,(zO2 0<=i∧i < zO2 nb)∧0 < ys.length,i.toNat < xs.length,(zO2 0<=i∧i < zO2 na)∧0 < xs.length,
  decide (xs.getD i.toNat 0 < ys.getD i.toNat 0)=false,i.toNat < ys.length,(zO2 0<=i∧i < zO2 nb)∧0 < ys.length,i.toNat < xs.length,(zO2 0<=i∧i < zO2 na)∧0 < xs.length,decide (0<=i)=true])
  (by kernel_rfl) ⟨h2,hy.2,hy.1,hx.2,hx.1,h1,hy.2,hy.1,hx.2,hx.1,h0,a7⟩ (by kernel_rfl) (by kernel_rfl)
theorem o1y (h0:decide (0<=i)=true) (hx:inB xs na i) (hy:inB ys nb i) (h1:decide (xs.getD i.toNat 0 < ys.getD i.toNat 0)=false) (h2:decide (ys.getD i.toNat 0 < xs.getD i.toNat 0)=false):r7 XW0 gG (yX xs ys na nb i) .normal (yX xs ys na nb (iI.wrap (i-1))):=
 d6 (a6 w7 10).1 progOk.mixed [] 200 [true,false,false] [] (l:=[decide (ys.getD i.toNat 0 < xs.getD i.toNat 0)=false,i.toNat < ys.length,(zO2 0<=i∧i < zO2 nb)∧0 < ys.length,i.toNat < xs.length,(zO2 0<=i∧i < zO2 na)∧0 < xs.length,
  decide (xs.getD i.toNat 0 < ys.getD i.toNat 0)=false,i.toNat < ys.length,(zO2 0<=i∧i < zO2 nb)∧0 < ys.length,i.toNat < xs.length,(zO2 0<=i∧i < zO2 na)∧0 < xs.length,decide (0<=i)=true])
  (by kernel_rfl) ⟨h2,hy.2,hy.1,hx.2,hx.1,h1,hy.2,hy.1,hx.2,hx.1,h0,a7⟩ (by kernel_rfl) (by kernel_rfl)
theorem w1n (h0:decide (0<=i)=false):r7 XW0 gG (yX xs ys na nb i) (.exit 0) (yX xs ys na nb i):=
 d6 (a6 w7 10).1 progOk.mixed [] 200 [false] [] (l:=[decide (0<=i)=false]) (by kernel_rfl) ⟨h0,a7⟩ (by kernel_rfl) (by kernel_rfl)
theorem s1b:B7 XW0 [] 200 153 [wS xs,wS ys] [.c (.v (.int .i64 r))] [true] =some [((xs.length:Int) !=ys.length)=true,zO3 .i64 (iI.wrap ((xs.length:Int)-ys.length))=zO3 .i64 r] :=by kernel_rfl
theorem q1u:B7 XW0 [N5 (.exit 0) (fun _=>yX xs ys na nb i)] 200 153 [wS xs,wS ys] [.c (.v (.int .i64 r))] [false] =some [b9 XW0 gG (n9 XW0 200 153 [wS xs,wS ys] [false]) (.exit 0) (yX xs ys na nb i),
  ((xs.length:Int) !=ys.length)=false,zO3 .i64 0=zO3 .i64 r] :=by kernel_rfl
theorem t0q (q:Int):B7 XW0 [N5 .ret (fun _=>v1p xs ys na nb q)] 200 153 [wS xs,wS ys] [.c (.v (.int .i64 r))] [false] =some [b9 XW0 gG (n9 XW0 200 153 [wS xs,wS ys] [false]) .ret (v1p xs ys na nb q),
  ((xs.length:Int) !=ys.length)=false,zO3 .i64 q=zO3 .i64 r] :=by kernel_rfl
theorem b0x (x:AX) (s':St) (h:b9 XW0 gG (yX xs ys xs.length ys.length (iI.wrap ((xs.length:Int)-1))) x s'):b9 XW0 gG (n9 XW0 200 153 [wS xs,wS ys] [false]) x s':=
 l9 h [] (by kernel_rfl) (by kernel_rfl) (by kernel_rfl)
end
def mM (xs ys:List Int):Int:=
 if xs.length≠ys.length then (xs.length:Int)-ys.length else if val W64 xs < val W64 ys then -1 else if val W64 ys < val W64 xs then 1 else 0
theorem B6 {l:List Int} {m:Nat} (h:m < l.length):l.drop m=l.getD m 0 ::l.drop (m+1):=by
 rw [m0x h]
 simp [List.getD,h]
theorem e0k {l l':List Int} (hl:Dg W64 l) {m:Nat} (h1:m < l.length) (h2:m < l'.length) (hd:l.drop (m+1)=l'.drop (m+1)) (hlt:l.getD m 0 < l'.getD m 0):val W64 l < val W64 l':=by
 rw [x3 W64 l m (by omega),x3 W64 l' m (by omega),B6 h1,B6 h2,hd]
 simp only [val]
 have a1:=O3 i7 (hl.take m)
 rw [D5,D4 (by omega)] at a1
 have g1:=(hl.get i7 m).1
 have:(l.getD m 0).toNat+1<=(l'.getD m 0).toNat:=by omega
 generalize val W64 (l'.drop (m+1))=D at*
 have a2:W64 ^m*((l.getD m 0).toNat+1+W64*D)<=W64 ^m*((l'.getD m 0).toNat+W64*D):=aQ _ (by omega)
 have a3:W64 ^m*((l.getD m 0).toNat+1+W64*D)=W64 ^m*((l.getD m 0).toNat+W64*D)+W64 ^m:=by rw [Nat.add_right_comm,aY,y8]
 omega
theorem r0b {xs ys:List Int} (hx:Dg W64 xs) (hy:Dg W64 ys) (h1:xs.length < 1099511627776) (h2:ys.length < 1099511627776):
  Ev.Sem zO8 J0 153 [wS xs,wS ys] [.c (.v (.int .i64 (mM xs ys)))] :=by
 by_cases hn:xs.length=ys.length
 case neg=>
  refine l6 w7 10 _ _ (s1b xs ys _) ⟨by simp; omega,?_,a7⟩
  unfold mM
  rw [i6 hn]
  have:=C8 ((xs.length:Int)-ys.length)
  congr 1
  omega
 have hw:∀ m:Nat,m < xs.length->iI.wrap (((m+1:Nat):Int)-1)=(m:Int):=fun m hm=>by
  have:=o9 (n:=m) (by omega)
  rw [<- this]
  congr 1
  omega
 have hw1:iI.wrap ((xs.length:Int)-1)=(xs.length:Int)-1:=by
  have:=C8 ((xs.length:Int)-1)
  omega
 have hws:∀ m:Nat,m < xs.length->iI.wrap ((m:Int)-1)=(m:Int)-1:=fun m hm=>by
  have:=C8 ((m:Int)-1)
  omega
 have step:∀ m,m < xs.length->xs.drop (m+1)=ys.drop (m+1)->
   (val W64 xs < val W64 ys∧r7 XW0 gG (yX xs ys xs.length ys.length m) .ret (v1p xs ys xs.length ys.length (-1)))∨
   (val W64 ys < val W64 xs∧r7 XW0 gG (yX xs ys xs.length ys.length m) .ret (v1p xs ys xs.length ys.length 1))∨
   (xs.drop m=ys.drop m∧r7 XW0 gG (yX xs ys xs.length ys.length m) .normal (yX xs ys xs.length ys.length ((m:Int)-1))):=by
  intro m hm hd
  have bx:inB xs xs.length (m:Int):=⟨⟨⟨by simp,by simpa using hm⟩,by omega⟩,by simpa using hm⟩
  have bY:inB ys ys.length (m:Int):=⟨⟨⟨by simp,by simp only [w9]; omega⟩,by omega⟩,by simp only [l4]; omega⟩
  rcases Int.lt_trichotomy (xs.getD m 0) (ys.getD m 0) with h | h | h
  ·exact .inl ⟨e0k hx hm (by omega) hd h,m1r xs ys _ _ m (by simp) bx bY (by simpa using h)⟩
  ·right; right
   refine⟨by rw [B6 (l:=xs) (m:=m) hm,B6 (l:=ys) (m:=m) (by omega),h,hd],?_⟩
   have:=o1y xs ys xs.length ys.length m (by simp) bx bY (by simp only [l4,i0y]; omega) (by simp only [l4,i0y]; omega)
   rw [hws m hm] at this
   exact this
  ·exact .inr (.inl ⟨e0k hy (by omega) hm hd.symm h,n1s xs ys _ _ m (by simp) bx bY (by simp only [l4,i0y]; omega) (by simpa using h)⟩)
 have good:∀ m,m<=xs.length->xs.drop m=ys.drop m->
   (val W64 xs < val W64 ys∧b9 XW0 gG (yX xs ys xs.length ys.length ((m:Int)-1)) .ret (v1p xs ys xs.length ys.length (-1)))∨
   (val W64 ys < val W64 xs∧b9 XW0 gG (yX xs ys xs.length ys.length ((m:Int)-1)) .ret (v1p xs ys xs.length ys.length 1))∨
   (xs=ys∧b9 XW0 gG (yX xs ys xs.length ys.length ((m:Int)-1)) (.exit 0) (yX xs ys xs.length ys.length (-1))):=by
  intro m hm hd
  rcases iG (val W64 xs) (val W64 ys) with h | h | h
  ·refine .inl ⟨h,?_⟩
   refine D2 (fun m:Nat=>yX xs ys xs.length ys.length ((m:Int)-1)) id (fun m=>m<=xs.length∧xs.drop m=ys.drop m) (by intro e; cases e) (fun k hk=> ?_) m ⟨hm,hd⟩
   cases k with
   | zero=>
    have:xs=ys:=by simpa using hk.2
    rw [this] at h
    omega
   | succ k=>
    have e:(((k+1:Nat):Int)-1)=(k:Int):=by omega
    simp only [e]
    rcases step k (by omega) hk.2 with ⟨_,s⟩ | ⟨q,_⟩ | ⟨q,s⟩
    ·exact .inr s
    ·omega
    ·exact .inl ⟨k,⟨by omega,q⟩,cP _,s⟩
  ·refine .inr (.inr ?_)
   have he:=f0g i7 hx hy hn h
   refine⟨he,?_⟩
   refine D2 (fun m:Nat=>yX xs ys xs.length ys.length ((m:Int)-1)) id (fun m=>m<=xs.length∧xs.drop m=ys.drop m) (by intro e; cases e) (fun k hk=> ?_) m ⟨hm,hd⟩
   cases k with
   | zero=>
    right
    exact w1n xs ys xs.length ys.length (-1) (by decide)
   | succ k=>
    have e:(((k+1:Nat):Int)-1)=(k:Int):=by omega
    simp only [e]
    rcases step k (by omega) hk.2 with ⟨q,_⟩ | ⟨q,_⟩ | ⟨q,s⟩
    ·omega
    ·omega
    ·exact .inl ⟨k,⟨by omega,q⟩,cP _,s⟩
  ·refine .inr (.inl ⟨h,?_⟩)
   refine D2 (fun m:Nat=>yX xs ys xs.length ys.length ((m:Int)-1)) id (fun m=>m<=xs.length∧xs.drop m=ys.drop m) (by intro e; cases e) (fun k hk=> ?_) m ⟨hm,hd⟩
   cases k with
   | zero=>
    have:xs=ys:=by simpa using hk.2
    rw [this] at h
    omega
   | succ k=>
    have e:(((k+1:Nat):Int)-1)=(k:Int):=by omega
    simp only [e]
    rcases step k (by omega) hk.2 with ⟨q,_⟩ | ⟨_,s⟩ | ⟨q,s⟩
    ·omega
    ·exact .inr s
    ·exact .inl ⟨k,⟨by omega,q⟩,cP _,s⟩
 have hne:((xs.length:Int) !=ys.length)=false:=by simp [hn]
 rcases good xs.length (d5 _) (by rw [yQ,hn,yQ]) with ⟨h,s⟩ | ⟨h,s⟩ | ⟨h,s⟩
 ·rw [<- hw1] at s
  refine l6 w7 10 _ _ (t0q xs ys _ _ _ (-1)) ⟨b0x xs ys _ _ s,hne,?_,a7⟩
  unfold mM
  rw [a8 (by simp [hn]),i6 h]
 ·rw [<- hw1] at s
  refine l6 w7 10 _ _ (t0q xs ys _ _ _ 1) ⟨b0x xs ys _ _ s,hne,?_,a7⟩
  unfold mM
  rw [a8 (by simp [hn]),a8 (by omega),i6 h]
 ·rw [<- hw1] at s
  refine l6 w7 10 _ _ (q1u xs ys _ _ (-1) _) ⟨b0x xs ys _ _ s,hne,?_,a7⟩
  unfold mM
  rw [a8 (by simp [hn]),a8 (by rw [h]; omega),a8 (by rw [h]; omega)]
abbrev shW:AS:= .c (.s Y8 .u64)
abbrev shI:AS:= .a [.v, .s Y8 .u64]
abbrev shV:AS:= .c .v
def g0b (xs ys:List Int):List Int:=dl W64 (1+max xs.length ys.length) (val W64 xs+val W64 ys)
def P2 (xs ys:List Int):List Int:=dl W64 xs.length (val W64 xs-val W64 ys)
def qG:List Arg->Option (List Arg×List Prop)
 | [.c (.s 39 .u64 xs), .c (.s 39 .u64 ys)] =>some ([wS (g0b xs ys)],[Dg W64 xs,Dg W64 ys,xs.length < 1099511627776,ys.length < 1099511627776])
 | _=>none
def iS:List Arg->Option (List Arg×List Prop)
 | [.c (.s 39 .u64 xs), .c (.s 39 .u64 ys)] =>some ([wS (P2 xs ys)],[Dg W64 xs,Dg W64 ys,val W64 ys<=val W64 xs,xs.length < 1099511627776,ys.length<=xs.length])
 | _=>none
def Y9:List Arg->Option (List Arg×List Prop)
 | [.c (.s 39 .u64 xs), .c (.s 39 .u64 ys)] =>some ([.c (.v (.int .i64 (mM xs ys)))],[Dg W64 xs,Dg W64 ys,xs.length < 1099511627776,ys.length < 1099511627776])
 | _=>none
theorem tU:∀ az rs l,qG az=some (rs,l)->d9 l->Ev.Sem zO8 J0 152 az rs:=by
 intro az rs l h hl
 unfold qG at h
 split at h
 ·cases h
  obtain⟨h1,h2,h3,h4,_⟩:=hl
  have:=r1s h1 h2 h3 h4
  rw [l1n] at this
  exact this
 ·cases h
theorem oB:∀ az rs l,iS az=some (rs,l)->d9 l->Ev.Sem zO8 J0 154 az rs:=by
 intro az rs l h hl
 unfold iS at h
 split at h
 ·cases h
  obtain⟨h1,h2,h3,h4,h5,_⟩:=hl
  exact f1p h1 h2 h3 h4 h5
 ·cases h
theorem fF:∀ az rs l,Y9 az=some (rs,l)->d9 l->Ev.Sem zO8 J0 153 az rs:=by
 intro az rs l h hl
 unfold Y9 at h
 split at h
 ·cases h
  obtain⟨h1,h2,h3,h4,_⟩:=hl
  exact r0b h1 h2 h3 h4
 ·cases h
def h0k:qV:=m8 143 kT (m8 152 (z7 [shW,shW] qG) (m8 154 (z7 [shW,shW] iS) (m8 153 (z7 [shW,shW] Y9) D1)))
theorem iZ:qZ zO8 J0 h0k:=d7 gQ (d7 (m5 _ tU) (d7 (m5 _ oB) (d7 (m5 _ fF) (n8 _ _))))
def bW1:Base:=⟨zO8,J0,false,r1m,h0k,200,J2⟩
theorem kL:BaseOk bW1:=⟨progOk,f0m,iZ,m4⟩
abbrev XW1:Cx:=bW1.cx 10
abbrev iN (neg:Bool) (m:Nat):Arg:= .a [.v (.bool neg), .s Y8 .u64 (ws W64 m)]
abbrev iL (neg:Bool) (xs:List Int):Arg:= .a [.v (.bool neg), .s Y8 .u64 xs]
abbrev iR (r:Int):Arg:= .c (.v (.int .i64 r))
abbrev uR (r:Int):Arg:= .c (.v (.int .u64 r))
theorem m1m (n:Int) (s:Bool) (R:List Int):B7 XW1 [] 200 89 [uR n] [iL s R] [] =some [1<=1∧1<=1∧1 < 1099511627776,zO9 false=zO9 s,(n7 [n]).length=R.length∧(n7 [n]).length<=1∧zO10 (n7 [n]).length [n] =R∧1=1∧1<=9223372036854775807] :=by kernel_rfl
theorem q1a (a b s:Bool) (xs ys R:List Int):B7 XW1 [] 200 97 [iL a xs,iL b ys] [iL s R] [true] =some [0=0∧0+(g0b xs ys).length<=(g0b xs ys).length∧(g0b xs ys).length < 1099511627776,xs.length=xs.length,ys.length=ys.length,Dg 18446744073709551616 xs,Dg 18446744073709551616 ys,xs.length < 1099511627776,ys.length < 1099511627776,(a==b)=true,zO9 (a && decide (0 < (n7 (zO10 (g0b xs ys).length (List.drop 0 (g0b xs ys)))).length))=zO9 s,(n7 (zO10 (g0b xs ys).length (List.drop 0 (g0b xs ys)))).length=R.length∧(n7 (zO10 (g0b xs ys).length (List.drop 0 (g0b xs ys)))).length<=(g0b xs ys).length∧zO10 (n7 (zO10 (g0b xs ys).length (List.drop 0 (g0b xs ys)))).length (g0b xs ys)=R] :=by kernel_rfl
theorem r1a (a b s:Bool) (xs ys R:List Int):B7 XW1 [] 200 97 [iL a xs,iL b ys] [iL s R] [false,true] =some [0=0∧0+(P2 xs ys).length<=(P2 xs ys).length∧(P2 xs ys).length < 1099511627776,xs.length=xs.length,ys.length=ys.length,Dg 18446744073709551616 xs,Dg 18446744073709551616 ys,val 18446744073709551616 ys<=val 18446744073709551616 xs,xs.length < 1099511627776,ys.length<=xs.length,decide (zO2 0<=mM xs ys)=true,xs.length=xs.length,ys.length=ys.length,Dg 18446744073709551616 xs,Dg 18446744073709551616 ys,xs.length < 1099511627776,ys.length < 1099511627776,(a==b)=false,zO9 (a && decide (0 < (n7 (zO10 (P2 xs ys).length (List.drop 0 (P2 xs ys)))).length))=zO9 s,(n7 (zO10 (P2 xs ys).length (List.drop 0 (P2 xs ys)))).length=R.length∧(n7 (zO10 (P2 xs ys).length (List.drop 0 (P2 xs ys)))).length<=(P2 xs ys).length∧zO10 (n7 (zO10 (P2 xs ys).length (List.drop 0 (P2 xs ys)))).length (P2 xs ys)=R] :=by kernel_rfl
theorem s1e (a b s:Bool) (xs ys R:List Int):B7 XW1 [] 200 97 [iL a xs,iL b ys] [iL s R] [false,false] =some [0=0∧0+(P2 ys xs).length<=(P2 ys xs).length∧(P2 ys xs).length < 1099511627776,ys.length=ys.length,xs.length=xs.length,Dg 18446744073709551616 ys,Dg 18446744073709551616 xs,val 18446744073709551616 xs<=val 18446744073709551616 ys,ys.length < 1099511627776,xs.length<=ys.length,decide (zO2 0<=mM xs ys)=false,xs.length=xs.length,ys.length=ys.length,Dg 18446744073709551616 xs,Dg 18446744073709551616 ys,xs.length < 1099511627776,ys.length < 1099511627776,(a==b)=false,zO9 (b && decide (0 < (n7 (zO10 (P2 ys xs).length (List.drop 0 (P2 ys xs)))).length))=zO9 s,(n7 (zO10 (P2 ys xs).length (List.drop 0 (P2 ys xs)))).length=R.length∧(n7 (zO10 (P2 ys xs).length (List.drop 0 (P2 ys xs)))).length<=(P2 ys xs).length∧zO10 (n7 (zO10 (P2 ys xs).length (List.drop 0 (P2 ys xs)))).length (P2 ys xs)=R] :=by kernel_rfl
theorem f1n (a:Bool) (xs:List Int) (r:Int):B7 XW1 [] 200 151 [iL a xs] [iR r] [true] =some [(zO2 xs.length==zO2 0)=true,zO3 iI (zO2 0)=zO3 iI r] :=by kernel_rfl
theorem d1k (a:Bool) (xs:List Int) (r:Int):B7 XW1 [] 200 151 [iL a xs] [iR r] [false,true] =some [a=true,(zO2 xs.length==zO2 0)=false,zO3 iI (Int.negSucc 0)=zO3 iI r] :=by kernel_rfl
theorem z0t (a:Bool) (xs:List Int) (r:Int):B7 XW1 [] 200 151 [iL a xs] [iR r] [false,false] =some [a=false,(zO2 xs.length==zO2 0)=false,zO3 iI (zO2 1)=zO3 iI r] :=by kernel_rfl
theorem n1v (a:Bool) (xs:List Int) (r:Int):B7 XW1 [] 200 181 [iL a xs] [uR r] [true] =some [(zO2 xs.length==zO2 0)=true,zO3 uI (zO2 0)=zO3 uI r] :=by kernel_rfl
theorem m1z (a:Bool) (xs:List Int) (r:Int):B7 XW1 [] 200 181 [iL a xs] [uR r] [false] =some [0 < xs.length,(zO2 0<=zO2 0∧zO2 0 < zO2 xs.length)∧0 < xs.length,(zO2 xs.length==zO2 0)=false,zO3 uI (xs.getD 0 (zO2 0))=zO3 uI r] :=by kernel_rfl
abbrev wl (m:Nat):Nat:=(ws W64 m).length
theorem f0b (m:Nat):Dg W64 (ws W64 m):=a2z A8 m
theorem r9 (m:Nat):val W64 (ws W64 m)=m:=j1u A8 m
theorem c0m {n m:Nat} (h:m < W64 ^n):n7 (dl W64 n m)=ws W64 m:=by rw [G0 A8 (b1y i7 n m),i0u,J5 h]
theorem wl_le {m n:Nat} :wl m<=n↔m < W64 ^n:=nA A8 m n
theorem wl_pos {m:Nat} :0 < wl m↔0 < m:=by
 have:=b1c A8 (m:=m)
 show 0 < (ws W64 m).length↔0 < m
 omega
theorem bV {a b:Nat} (h:a<=b):wl a<=wl b:=wl_le.2 (A5 h (wl_le.1 (d5 _)))
theorem f0r {m n:Nat} (h:m<=n):W64 ^m<=W64 ^n:=y9 i7 h
theorem i0a (m:Nat):m < W64 ^wl m:=wl_le.1 (d5 _)
theorem h2i (a b:Nat):wl (a+b)<=max (wl a) (wl b)+1:=by
 rw [wl_le,v6]
 have h1:=B9 (i0a a) (f0r (Nat.le_max_left (wl a) (wl b)))
 have h2:=B9 (i0a b) (f0r (Nat.le_max_right (wl a) (wl b)))
 generalize W64 ^max (wl a) (wl b)=p at*
 show a+b < p*18446744073709551616
 omega
theorem j2o (a b:Nat):a+b < W64 ^(1+max (wl a) (wl b)):=by
 have:=h2i a b
 rw [l1n (max (wl a) (wl b))] at this
 exact wl_le.1 this
theorem a1e (a b:Nat):wl (a*b)<=wl a+wl b:=by
 rw [wl_le,m9]
 exact Nat.mul_lt_mul'' (i0a a) (i0a b)
theorem v0f (a b:Nat):n7 (g0b (ws W64 a) (ws W64 b))=ws W64 (a+b):=by
 unfold g0b
 rw [r9,r9]
 exact c0m (j2o a b)
theorem qX (a b:Nat):n7 (P2 (ws W64 a) (ws W64 b))=ws W64 (a-b):=by
 unfold P2
 rw [r9,r9]
 exact c0m (A5 (Nat.sub_le a b) (i0a a))
theorem r1y (a b:Nat):(g0b (ws W64 a) (ws W64 b)).length=1+max (wl a) (wl b):=by unfold g0b; rw [p9]
theorem r0l (a b:Nat):(P2 (ws W64 a) (ws W64 b)).length=wl a:=by unfold P2; rw [p9]
theorem e2i {a b:Nat} (h:wl a < wl b):a < b:=by
 rcases E0 a b with h' | h'
 ·exact h'
 ·have:=bV h'
  omega
theorem qF (a b:Nat):0<=mM (ws W64 a) (ws W64 b)↔b<=a:=by
 unfold mM
 rw [r9,r9]
 split
 ·rename_i h
  constructor
  ·intro h2
   have:wl b < wl a:=by show (ws W64 b).length < (ws W64 a).length; omega
   have:=e2i this
   omega
  ·intro h2
   have:wl b<=wl a:=bV h2
   have:(ws W64 b).length<=(ws W64 a).length:=this
   omega
 ·split
  ·constructor <;> intro h <;> omega
  ·split <;> constructor <;> intro h <;> omega
theorem p1x (a b:Nat):mM (ws W64 a) (ws W64 b) < 0↔a < b:=by
 have:=qF a b
 omega
theorem I0 {l:List Int} {m:Nat} (h:n7 l=ws W64 m):(n7 l).length=(ws W64 m).length∧(n7 l).length<=l.length∧l.take (n7 l).length=ws W64 m:=by
 refine⟨by rw [h],B5 l,?_⟩
 have key:∀ (l:List Int),l.take (n7 l).length=n7 l:=by
  intro l
  induction hn:l.length generalizing l with
  | zero=>have:=nY hn; subst this; rfl
  | succ n ih=>
   have hne:l≠[] :=by intro e; subst e; cases hn
   obtain⟨m,x,rfl⟩:∃ m x,l=m++[x] :=⟨l.dropLast,l.getLast hne,(List.dropLast_concat_getLast hne).symm⟩
   rw [V7]
   split
   ·rw [List.take_append_of_le_length (B5 m)]
    exact ih m (by simp at hn; omega)
   ·exact y3
 rw [key,h]
theorem m1i (n:Nat) (hn:n < W64):Ev.Sem zO8 J0 89 [uR n] [iN false n] :=by
 have ht:n7 [(n:Int)] =ws W64 n:=by
  have hd:Dg W64 [(n:Int)] :=Dg.cons ⟨by omega,by exact_mod_cast hn⟩ (Dg.nil _)
  rw [G0 A8 hd]
  simp [val]
 refine l6 kL 10 _ _ (m1m n false (ws W64 n)) ⟨⟨by omega,by omega,by omega⟩,rfl,⟨by rw [ht],?_,?_,rfl,by omega⟩,a7⟩
 ·have:=B5 [(n:Int)]
  simpa using this
 ·rw [ht]
  by_cases h0:n=0
  ·subst h0; rfl
  ·rw [k0g A8 (by omega),J5 hn,p0e hn,c0d]
   rfl
def m1k (a b:Bool) (A B:Nat):Nat:=if a=b then A+B else if B<=A then A-B else B-A
def v1m (a b:Bool) (A B:Nat):Bool:=if a=b then a && decide (0 < A+B) else if B<=A then a && decide (0 < A-B) else b && decide (0 < B-A)
theorem y0r (l:List Int):zO10 l.length (List.drop 0 l)=l:=by simp
theorem c2n (a b:Bool) {A B:Nat} (hA:wl A < 549755813888) (hB:wl B < 549755813888):Ev.Sem zO8 J0 97 [iN a A,iN b B] [iN (v1m a b A B) (m1k a b A B)] :=by
 have hA:(ws W64 A).length < 549755813888:=hA
 have hB:(ws W64 B).length < 549755813888:=hB
 by_cases hab:a=b
 ·have e1:m1k a b A B=A+B:=i6 hab
  have e2:v1m a b A B=(a && decide (0 < A+B)):=i6 hab
  rw [e1,e2]
  obtain⟨q1,q2,q3⟩:=I0 (v0f A B)
  have hlen:=r1y A B
  refine l6 kL 10 _ _ (q1a a b _ (ws W64 A) (ws W64 B) (ws W64 (A+B))) ⟨⟨rfl,by omega,by rw [hlen]; omega⟩,rfl,rfl,f0b A,f0b B,by omega,by omega,by simpa using hab,?_,?_,a7⟩
  ·rw [y0r,v0f]
   have:=wl_pos (m:=A+B)
   congr 2
   simp only [zzA167]
   exact this
  ·rw [y0r]
   exact⟨q1,q2,q3⟩
 ·by_cases hle:B<=A
  ·have e1:m1k a b A B=A-B:=by unfold m1k; rw [a8 hab,i6 hle]
   have e2:v1m a b A B=(a && decide (0 < A-B)):=by unfold v1m; rw [a8 hab,i6 hle]
   rw [e1,e2]
   obtain⟨q1,q2,q3⟩:=I0 (qX A B)
   have hlen:=r0l A B
   have hl:(ws W64 B).length<=(ws W64 A).length:=bV hle
   refine l6 kL 10 _ _ (r1a a b _ (ws W64 A) (ws W64 B) (ws W64 (A-B))) ⟨⟨rfl,by omega,by rw [hlen]; omega⟩,rfl,rfl,f0b A,f0b B,by rw [r9,r9]; exact hle,by omega,hl,?_,rfl,rfl,f0b A,f0b B,by omega,by omega,by simpa using hab,?_,?_,a7⟩
   ·simpa using (qF A B).2 hle
   ·rw [y0r,qX]
    have:=wl_pos (m:=A-B)
    congr 2
    simp only [zzA167]
    exact this
   ·rw [y0r]
    exact⟨q1,q2,q3⟩
  ·have e1:m1k a b A B=B-A:=by unfold m1k; rw [a8 hab,a8 hle]
   have e2:v1m a b A B=(b && decide (0 < B-A)):=by unfold v1m; rw [a8 hab,a8 hle]
   rw [e1,e2]
   obtain⟨q1,q2,q3⟩:=I0 (qX B A)
   have hlen:=r0l B A
   have hl:(ws W64 A).length<=(ws W64 B).length:=bV (by omega)
   refine l6 kL 10 _ _ (s1e a b _ (ws W64 A) (ws W64 B) (ws W64 (B-A))) ⟨⟨rfl,by omega,by rw [hlen]; omega⟩,rfl,rfl,f0b B,f0b A,by rw [r9,r9]; omega,by omega,hl,?_,rfl,rfl,f0b A,f0b B,by omega,by omega,by simpa using hab,?_,?_,a7⟩
   ·have:=qF A B
    simp only [i0y]
    exact fun h=>hle (this.1 h)
   ·rw [y0r,qX]
    have:=wl_pos (m:=B-A)
    congr 2
    simp only [zzA167]
    exact this
   ·rw [y0r]
    exact⟨q1,q2,q3⟩
def a2c (a:Bool) (A:Nat):Int:=if A=0 then 0 else if a then -1 else 1
theorem q1p (a:Bool) (A:Nat):Ev.Sem zO8 J0 151 [iN a A] [iR (a2c a A)] :=by
 have h0:=b1c A8 (m:=A)
 unfold a2c
 by_cases hA:A=0
 ·rw [i6 hA]
  exact l6 kL 10 _ _ (f1n a (ws W64 A) 0) ⟨by have:=h0.2 hA; simp [this],rfl,a7⟩
 ·have hne:(zO2 (ws W64 A).length==zO2 0)=false:=by
   have:(ws W64 A).length≠0:=fun e=>hA (h0.1 e)
   simpa using this
  rw [a8 hA]
  cases a
  ·exact l6 kL 10 _ _ (z0t false (ws W64 A) 1) ⟨rfl,hne,rfl,a7⟩
  ·exact l6 kL 10 _ _ (d1k true (ws W64 A) (-1)) ⟨rfl,hne,rfl,a7⟩
theorem d1x (a:Bool) (A:Nat):Ev.Sem zO8 J0 181 [iN a A] [uR ((A%W64:Nat):Int)] :=by
 have h0:=b1c A8 (m:=A)
 by_cases hA:A=0
 ·refine l6 kL 10 _ _ (n1v a (ws W64 A) _) ⟨by have:=h0.2 hA; simp [this],?_,a7⟩
  rw [hA]
  rfl
 ·have hp:0 < (ws W64 A).length:=by omega
  refine l6 kL 10 _ _ (m1z a (ws W64 A) _) ⟨hp,⟨⟨by simp,by simpa using hp⟩,hp⟩,by have:(ws W64 A).length≠0:=(by omega); simpa using this,?_,a7⟩
  have:=b1i A8 A 0
  have e:(ws W64 A).getD 0 (zO2 0)=(ws W64 A).getD 0 0:=rfl
  rw [e,this]
  simp [dig]
abbrev dgA (F:Nat->Int) (n o:Nat):Arg:= .c (.f (fun i=> .int .u8 (F i)) n 1 o)
def bDg:Base:=⟨zO8,J0,false,z1h,D1,200,J2⟩
theorem X4:BaseOk bDg:=⟨progOk,gJ _ _,n8 _ _,m4⟩
abbrev XDg:Cx:=bDg.cx 10
def cD1:Code:=A3 zO8 8 0
def cD2:Code:=A3 zO8 8 1
def tGz (F:Nat->Int) (n o:Nat) (m i:Int):St:=⟨only 43 [(0, .slice (some ⟨11,o,some 12⟩) n 0),(1, .int .i64 m),(4, .string ⟨⟨[]⟩⟩),(5, .slice none 0 0),(6, .int .i64 i)],[(11,AObj.fam (fun i=> .int .u8 (F i)) n 1 o)],13,[],[],0,none,[],13⟩
def tGn (F:Nat->Int) (n o:Nat) (m:Int) (ns:List Int) (k:Nat) (i:Int):St:=⟨only 43 [(0, .slice (some ⟨11,o,some 12⟩) n 0),(1, .int .i64 m),(4, .string ⟨⟨[]⟩⟩),(5, .slice (some ⟨13,0,some 14⟩) k 0),(6, .int .i64 i)],[(13, .row 5 1 (.ints .u8 ns) 14),(11,AObj.fam (fun i=> .int .u8 (F i)) n 1 o)],15,[],[],0,none,[],13⟩
def tHz (F:Nat->Int) (n o:Nat):St:=⟨only 43 [(0, .slice (some ⟨11,o,some 12⟩) n 0),(4, .string ⟨⟨[]⟩⟩),(5, .slice none 0 0)],[(11,AObj.fam (fun i=> .int .u8 (F i)) n 1 o)],13,[],[],0,none,[],13⟩
def tHn (F:Nat->Int) (n o:Nat) (ns:List Int) (k j:Nat):St:=⟨only 43 [(0, .slice (some ⟨11,o,some 12⟩) n 0),(4, .string ⟨⟨[]⟩⟩),(5, .slice (some ⟨13,j,some 14⟩) k j)],[(13, .row 5 1 (.ints .u8 ns) 14),(11,AObj.fam (fun i=> .int .u8 (F i)) n 1 o)],15,[],[],0,none,[],13⟩
def tHe (F:Nat->Int) (n o:Nat) (ns:List Int) (j:Nat):St:=⟨only 43 [(0, .slice (some ⟨11,o,some 12⟩) n 0),(4, .string ⟨⟨[]⟩⟩),(5, .complex .f32 239807672958224171022 j)],[(13, .row 5 1 (.ints .u8 ns) 14),(11,AObj.fam (fun i=> .int .u8 (F i)) n 1 o)],15,[],[],0,none,[],13⟩
def dgR (F:Nat->Int) (o i:Nat):Int:=uB.wrap (48+(F (U0 (r8 o (P8 i 1)) o 1)).tmod 10)
def gB (n:Nat) (m i:Int):Bool:=match decide (i < (n:Int)) with | true=>decide (i < m) | false=>false
def apG (m k:Nat):Prop:=m*1=k∧(m+1)*1<=140737488355328∧m+1<=9223372036854775807
def zB (ns:List Int) (j:Nat):Bool:=ns.getD (r8 j 0) 0==48
def kB (k:Nat):Bool:=decide ((k:Int) > 0)
def zC (ns:List Int) (j k:Nat):Bool:=match kB k with | true=>zB ns j | false=>false
def zP (ns:List Int) (j k:Nat):Prop:=B8 [(3,kB k)] [(3,true)] ->r8 j 0 < ns.length
def zQ (ns:List Int) (k:Nat):Prop:=B8 [(3,kB k)] [(3,true)] ->((0:Int)<=0∧(0:Int) < (k:Int))∧0 < ns.length
section
variable (F:Nat->Int) (n o:Nat) (m:Int) (ns:List Int) (k j i:Nat)
theorem n1y (hl:d9 [1<=140737488355328∧1<=9223372036854775807,FamIn (r8 o 0) o 1 n,((0:Int)<=0∧(0:Int) < (n:Int))∧0 < n,gB n m 0=true]):r7 XDg cD1 (tGz F n o m 0) .normal (tGn F n o m [dgR F o 0] 1 1):=
 d6 (a6 X4 10).1 progOk.mixed [] 200 [true] [(13,14),(14,15)] (by kernel_rfl) hl (by kernel_rfl) (by kernel_rfl)
theorem v1w (hl:d9 [apG k ns.length,FamIn (r8 o (P8 i 1)) o 1 n,((0:Int)<=(i:Int)∧(i:Int) < (n:Int))∧0 < n,gB n m i=true]):r7 XDg cD1 (tGn F n o m ns k (i:Int)) .normal (tGn F n o m (ns++[dgR F o i]) (k+1) (iI.wrap ((i:Int)+1))):=
 d6 (a6 X4 10).1 progOk.mixed [] 200 [true] [(13,16),(14,17)] (by kernel_rfl) hl (by kernel_rfl) (by kernel_rfl)
theorem b2e (hl:d9 [gB n m 0=false]):r7 XDg cD1 (tGz F n o m 0) (.exit 0) (tGz F n o m 0):=
 d6 (a6 X4 10).1 progOk.mixed [] 200 [false] [] (by kernel_rfl) hl (by kernel_rfl) (by kernel_rfl)
theorem g2s (hl:d9 [gB n m i=false]):r7 XDg cD1 (tGn F n o m ns k (i:Int)) (.exit 0) (tGn F n o m ns k (i:Int)):=
 d6 (a6 X4 10).1 progOk.mixed [] 200 [false] [] (by kernel_rfl) hl (by kernel_rfl) (by kernel_rfl)
theorem r0i {x:AX} {s':St} (ds:List Bool) (h:b9 XDg cD1 (tGz F n o m 0) x s'):b9 XDg cD1 (n9 XDg 200 8 [dgA F n o,iR m] ds) x s':=
 l9 h [] (by kernel_rfl) (by kernel_rfl) (by kernel_rfl)
theorem j2i (hl:d9 [j=j*1∧(0:Int)<=1∧(1:Int)<=((k+2:Nat):Int)∧((1:Int)=0∨(1:Int) < ((k+2:Nat):Int))∧j+(k+2)*1<=ns.length,zC ns j (k+2)=true,zP ns j (k+2),zQ ns (k+2)]):r7 XDg cD2 (tHn F n o ns (k+2) j) .normal (tHn F n o ns (k+1) (r8 j 1)):=
 d6 (a6 X4 10).1 progOk.mixed [] 200 [true] [] (by kernel_rfl) hl (by kernel_rfl) (by kernel_rfl)
theorem b2l (hl:d9 [j=j∧j+1<=(ns.map (zO3 .u8)).length,zB ns j=true,zP ns j 1,zQ ns 1]):r7 XDg cD2 (tHn F n o ns 1 j) .normal (tHe F n o ns j):=
 d6 (a6 X4 10).1 progOk.mixed [] 200 [true] [] (by kernel_rfl) hl (by kernel_rfl) (by kernel_rfl)
theorem n2l (hl:d9 [zC ns j k=false,zP ns j k,zQ ns k]):r7 XDg cD2 (tHn F n o ns k j) (.exit 2) (tHn F n o ns k j):=
 d6 (a6 X4 10).1 progOk.mixed [] 200 [false] [] (by kernel_rfl) hl (by kernel_rfl) (by kernel_rfl)
theorem n2b:r7 (bDg.cxl 10) cD2 (tHe F n o ns j) (.exit 2) (tHe F n o ns j):=
 d6 (Y5 X4 10).1 progOk.mixed [] 200 [false] [] (l:=[false=false]) (by kernel_rfl) ⟨rfl,a7⟩ (by kernel_rfl) (by kernel_rfl)
theorem s2n:r7 XDg cD2 (tHe F n o ns j) (.exit 2) (tHe F n o ns j):=n2b F n o ns j
theorem o2m:r7 (bDg.cxl 10) cD2 (tHz F n o) (.exit 2) (tHz F n o):=
 d6 (Y5 X4 10).1 progOk.mixed [] 200 [false] [] (l:=[false=false]) (by kernel_rfl) ⟨rfl,a7⟩ (by kernel_rfl) (by kernel_rfl)
theorem r2q:r7 XDg cD2 (tHz F n o) (.exit 2) (tHz F n o):=o2m F n o
theorem k1k {x:AX} {s':St} (h:b9 XDg cD2 (tHn F n o ns k 0) x s'):b9 XDg cD2 (tGn F n o m ns k i) x s':=
 l9 h [] (by kernel_rfl) (by kernel_rfl) (by kernel_rfl)
theorem n1q {x:AX} {s':St} (h:b9 XDg cD2 (tHz F n o) x s'):b9 XDg cD2 (tGz F n o m 0) x s':=
 l9 h [] (by kernel_rfl) (by kernel_rfl) (by kernel_rfl)
abbrev tR (t:List UInt8):Arg:= .c (.v (.string ⟨⟨t⟩⟩))
theorem n2y (t:List UInt8):B7 XDg [N5 (.exit 0) (fun _=>tGz F n o m 0),N5 (.exit 2) (fun _=>tHz F n o)] 200 8 [dgA F n o,iR m] [tR t] [true] =some [true=true,b9 XDg cD2 (tGz F n o m 0) (.exit 2) (tHz F n o),b9 XDg cD1 (n9 XDg 200 8 [dgA F n o,iR m] [true]) (.exit 0) (tGz F n o m 0),Value.string ⟨⟨[55]⟩⟩=Value.string ⟨⟨t⟩⟩] :=by kernel_rfl
theorem m2y (t:List UInt8):B7 XDg [N5 (.exit 0) (fun _=>tGn F n o m ns k i),N5 (.exit 2) (fun _=>tHe F n o ns j)] 200 8 [dgA F n o,iR m] [tR t] [true] =some [true=true,b9 XDg cD2 (tGn F n o m ns k i) (.exit 2) (tHe F n o ns j),b9 XDg cD1 (n9 XDg 200 8 [dgA F n o,iR m] [true]) (.exit 0) (tGn F n o m ns k i),Value.string ⟨⟨[55]⟩⟩=Value.string ⟨⟨t⟩⟩] :=by kernel_rfl
def nB (k:Nat):Bool:=(k:Int)==0
theorem p2a (t:List UInt8) (k2:Nat):B7 XDg [N5 (.exit 0) (fun _=>tGn F n o m ns k i),N5 (.exit 2) (fun _=>tHn F n o ns k2 j)] 200 8 [dgA F n o,iR m] [tR t] [false] =some [k2=(ns.drop j).length,nB k2=false,b9 XDg cD2 (tGn F n o m ns k i) (.exit 2) (tHn F n o ns k2 j),b9 XDg cD1 (n9 XDg 200 8 [dgA F n o,iR m] [false]) (.exit 0) (tGn F n o m ns k i),Value.string ⟨⟨(ns.drop j).map fun n=>UInt8.ofNat n.toNat⟩⟩=Value.string ⟨⟨t⟩⟩] :=by kernel_rfl
end
end Go.Proofs.YtbdaebagmmmijaaGreatDoor
namespace Go.Proofs
def jA:Go.Shelf.Ren:=⟨fun | 264=>147 | n=>n,fun | 53=>39 | 46=>90 | n=>n,fun | n=>n⟩
theorem xY:Go.Proofs.Lays.n264 zO8 jA where
 mixed:=by kernel_rfl
 f264:=Tryz.func147.trans (G7 some (by kernel_rfl))
 t46:=Tryz.underlying90
 a46:=Tryz.isAgg90
 z46:=Tryz.sizeOf90
 v46:=Tryz.zeroValue90
 t53:=Tryz.underlying39
 a53:=Tryz.isAgg39
 z53:=Tryz.sizeOf39
 v53:=Tryz.zeroValue39
namespace YtbdaebagmmmijaaGreatDoor
open Go Go.RowKit Ev Wd
def c2v (x y:Int):Int:=((x.toNat*y.toNat/18446744073709551616:Nat):Int)
def i1r (x y:Int):Int:=((x.toNat*y.toNat%18446744073709551616:Nat):Int)
def vO:List Value->Option (Value×List Prop)
 | [.int .u64 x, .int .u64 y] =>some (.tuple ⟨[.int .u64 (c2v x y), .int .u64 (i1r x y)]⟩,[(0<=x∧x < 18446744073709551616)∧0<=y∧y < 18446744073709551616])
 | _=>none
theorem nT (args:List Value) (v:Value) (l:List Prop) (h:vO args=some (v,l)) (hl:d9 l):Pure zO8 J0 147 args v:=by
 unfold vO at h
 split at h
 case h_2=>cases h
 rename_i x y
 cases h
 obtain⟨⟨h1,h2⟩,h3,h4⟩:=hl.1
 refine⟨rfl,rfl, .inl ⟨enters_of Tryz.func147 (by kernel_rfl) (c:=_) rfl,fun w hI=> ?_⟩⟩
 have:=Any.bits_Mul64 xY x.toNat y.toNat (by omega) (by omega) w
 rw [T5 h1,T5 h3] at this
 exact this.mono fun e w' ⟨q1,q2⟩=>⟨q1,q2 ▸ O9 _ _⟩
def n0t:List Arg->Option (List Arg×List Prop)
 | [.a [.v (.bool _), .s 39 .u64 xs]] =>some ([uR ((val W64 xs%W64:Nat):Int)],[xs=ws W64 (val W64 xs)])
 | _=>none
theorem v0u:∀ az rs l,n0t az=some (rs,l)->d9 l->Ev.Sem zO8 J0 181 az rs:=by
 intro az rs l h hl
 unfold n0t at h
 split at h
 ·rename_i a xs
  cases h
  have h1:xs=ws W64 (val W64 xs):=hl.1
  have:=d1x a (val W64 xs)
  unfold iN at this
  rw [<- h1] at this
  exact this
 ·cases h
def a2a:Tab:=l7 147 vO r1m
theorem u0l:R8 zO8 J0 a2a:=b8 nT f0m
def bW2:Base:=⟨zO8,J0,false,a2a,h0k,200,J2⟩
theorem W1:BaseOk bW2:=⟨progOk,u0l,iZ,m4⟩
abbrev XW2:Cx:=bW2.cx 10
end YtbdaebagmmmijaaGreatDoor
end Go.Proofs
namespace Go.Proofs.YtbdaebagmmmijaaGreatDoor
open Go Go.RowKit Ev Wd
def l0h:Code:=A3 zO8 92 0
def y0a:Code:=A3 zO8 92 1
def q2y (a b:Bool) (xs ys L:List Int) (na nb:Nat):Heap:=[(18, .row Y8 1 (.ints .u64 L) 19),(17, .cells [.bool false, .slice none 0 0] qR),(16, .cells [.bool b,slV 13 nb] qR),(15, .cells [.bool a,slV 11 na] qR),(11, .ints .u64 xs),(13, .ints .u64 ys)]
def TMo (a b:Bool) (xs ys L:List Int) (na nb N:Nat) (la i:Int):St:=
 ⟨only 89 [(2, .pointer (some ⟨15,0,none⟩)),(3, .pointer (some ⟨16,0,none⟩)),(4, .pointer (some ⟨17,0,none⟩)),(5,slV 18 N),(23,slV 11 na),(24, .int .i64 la),(25, .int .i64 i)],q2y a b xs ys L na nb,20,[],[],0,none,[],15⟩
def TMi (a b:Bool) (xs ys L:List Int) (na nb N:Nat) (la i w c lb j:Int):St:=
 ⟨only 89 [(2, .pointer (some ⟨15,0,none⟩)),(3, .pointer (some ⟨16,0,none⟩)),(4, .pointer (some ⟨17,0,none⟩)),(5,slV 18 N),(6, .int .i64 i),(7, .int .u64 w),(8, .int .u64 c),(23,slV 11 na),(24, .int .i64 la),(25, .int .i64 i),(31,slV 13 nb),(32, .int .i64 lb),(33, .int .i64 j)],
  q2y a b xs ys L na nb,20,[],[],0,none,[],15⟩
def k2s (w y p c:Int):Int:=zO2 ((p.toNat+(zO2 (((i1r w y).toNat+c.toNat+0)%18446744073709551616)).toNat+0)%18446744073709551616)
def l2a (w y p c:Int):Int:=uI.wrap (uI.wrap (c2v w y+zO2 (((i1r w y).toNat+c.toNat+0)/18446744073709551616))+zO2 ((p.toNat+(zO2 (((i1r w y).toNat+c.toNat+0)%18446744073709551616)).toNat+0)/18446744073709551616))
def r2b (X:Cx) (c:Code) (s:St) (ds:List Bool):St:=match s with
 | ⟨tm,hp,n,_,_,_,rd,mq,b⟩=>match D9 X [fun s=>some (.exit 1000000,s)] 200 c ⟨tm,hp,n,ds,[],0,rd,mq,b⟩ with
  | some (_,s1)=>s1.core
  | none=>s
abbrev iL' (neg:Bool) (xs:List Int):Arg:= .a [.v (.bool neg), .s Y8 .u64 xs]
theorem c1c (a b:Bool) (xs ys L:List Int) (na nb N:Nat) (la i w c lb j:Int) (hl:d9 [(iI.wrap (i+j)).toNat < L.length,(zO2 0<=iI.wrap (i+j)∧iI.wrap (i+j) < zO2 N)∧0 < L.length,0<=1,(iI.wrap (i+j)).toNat < L.length,(zO2 0<=iI.wrap (i+j)∧iI.wrap (i+j) < zO2 N)∧0 < L.length,0<=1,(zO2 0<=w∧w < zO2 18446744073709551616)∧zO2 0<=ys.getD j.toNat (zO2 0)∧ys.getD j.toNat (zO2 0) < zO2 18446744073709551616,j.toNat < ys.length,(zO2 0<=j∧j < zO2 nb)∧0 < ys.length,decide (j < lb)=true]):r7 XW2 y0a (TMi a b xs ys L na nb N la i w c lb j) .normal (TMi a b xs ys (gR L (iI.wrap (i+j)).toNat (k2s w (ys.getD j.toNat 0) (L.getD (iI.wrap (i+j)).toNat 0) c)) na nb N la i w (l2a w (ys.getD j.toNat 0) (L.getD (iI.wrap (i+j)).toNat 0) c) lb (iI.wrap (j+1))):=
 d6 (a6 W1 10).1 progOk.mixed [] 200 [true] [] (by kernel_rfl) hl (by kernel_rfl) (by kernel_rfl)
theorem n1a (a b:Bool) (xs ys L:List Int) (na nb N:Nat) (la i w c lb j:Int) (hl:d9 [decide (j < lb)=false]):r7 XW2 y0a (TMi a b xs ys L na nb N la i w c lb j) (.exit 2) (TMi a b xs ys L na nb N la i w c lb j):=
 d6 (a6 W1 10).1 progOk.mixed [] 200 [false] [] (by kernel_rfl) hl (by kernel_rfl) (by kernel_rfl)
theorem d1o (a b:Bool) (xs ys L M:List Int) (na nb N:Nat) (la i w c lb j:Int) (hl:d9 [(iI.wrap (i+zO2 nb)).toNat < M.length,(zO2 0<=iI.wrap (i+zO2 nb)∧iI.wrap (i+zO2 nb) < zO2 N)∧0 < M.length,b9 XW2 y0a (r2b XW2 l0h (TMo a b xs ys L na nb N la i) [true]) (.exit 2) (TMi a b xs ys M na nb N la i w c lb j),i.toNat < xs.length,(zO2 0<=i∧i < zO2 na)∧0 < xs.length,decide (i < la)=true]):r7 XW2 l0h (TMo a b xs ys L na nb N la i) .normal (TMo a b xs ys (gR M (iI.wrap (i+(nb:Int))).toNat c) na nb N la (iI.wrap (i+1))):=
 d6 (a6 W1 10).1 progOk.mixed [N5 (.exit 2) (fun _=>TMi a b xs ys M na nb N la i w c lb j)] 200 [true] [] (by kernel_rfl) hl (by kernel_rfl) (by kernel_rfl)
theorem p1g (a b:Bool) (xs ys L:List Int) (na nb N:Nat) (la i:Int) (hl:d9 [decide (i < la)=false]):r7 XW2 l0h (TMo a b xs ys L na nb N la i) (.exit 0) (TMo a b xs ys L na nb N la i):=
 d6 (a6 W1 10).1 progOk.mixed [] 200 [false] [] (by kernel_rfl) hl (by kernel_rfl) (by kernel_rfl)
theorem y1j (a b s:Bool) (xs ys L R:List Int) (na nb N:Nat) (la i:Int):B7 XW2 [N5 (.exit 0) (fun _=>TMo a b xs ys L na nb N la i)] 200 92 [iL' a xs,iL' b ys] [iL' s R] [] =some [0=0∧0+N<=L.length∧L.length < 1099511627776,b9 XW2 l0h (n9 XW2 200 92 [iL' a xs,iL' b ys] []) (.exit 0) (TMo a b xs ys L na nb N la i),zO2 0<=iI.wrap (zO2 (xs.length+ys.length))∧iI.wrap (zO2 (xs.length+ys.length))=iI.wrap (zO2 (xs.length+ys.length))∧zO2 8*iI.wrap (zO2 (xs.length+ys.length))<=zO2 281474976710656∧iI.wrap (zO2 (xs.length+ys.length))<=zO2 9223372036854775807,zO9 (!a==b && decide (0 < (n7 (zO10 N L)).length))=zO9 s,(n7 (zO10 N L)).length=R.length∧(n7 (zO10 N L)).length<=L.length∧zO10 (n7 (zO10 N L)).length L=R] :=by kernel_rfl
theorem p1j {w y p c:Nat} (hw:w < W64) (hy:y < W64) (hp:p < W64) (hc:c < W64):∃ D C:Nat,k2s w y p c=D∧l2a w y p c=C∧D < W64∧C < W64∧D+W64*C=p+w*y+c:=by
 have hm:w*y<=18446744073709551615*18446744073709551615:=w0z (by have:w < 18446744073709551616:=hw; omega) (by have:y < 18446744073709551616:=hy; omega)
 have hp:p < 18446744073709551616:=hp
 have hc:c < 18446744073709551616:=hc
 unfold k2s l2a i1r c2v
 simp only [l4,w9]
 generalize w*y=m at*
 simp only [O4]
 refine⟨(p+m+c)%18446744073709551616,(p+m+c)/18446744073709551616,?_,?_,C7 _ i7,?_,?_⟩
 ·congr 1
  omega
 ·omega
 ·show _ < 18446744073709551616
  omega
 ·show _+18446744073709551616*_=_
  omega
structure IMu where
 j:Nat
 c:Int
 L:List Int
def n1t (w:Int) (ys:List Int) (i:Nat) (p:IMu):IMu:=
 ⟨p.j+1,l2a w (ys.getD p.j 0) (p.L.getD (i+p.j) 0) p.c,gR p.L (i+p.j) (k2s w (ys.getD p.j 0) (p.L.getD (i+p.j) 0) p.c)⟩
def J6 (w:Int) (ys:List Int) (i:Nat) (L:List Int) (j:Nat):IMu:=itr (n1t w ys i) j ⟨0,0,L⟩
def I5 (xs ys:List Int):Nat->List Int
 | 0=>zO6 (xs.length+ys.length) 0
 | i+1=>gR (J6 (xs.getD i 0) ys i (I5 xs ys i) ys.length).L (i+ys.length) (J6 (xs.getD i 0) ys i (I5 xs ys i) ys.length).c
def z1f (n i ny w B P:Nat) (p:IMu):Prop:=
 p.j<=ny∧p.L.length=n∧Dg W64 p.L∧(0<=p.c∧p.c < (W64:Int))∧(∀ t,i+ny<=t->p.L.getD t 0=0)∧val W64 p.L+p.c.toNat*W64 ^(i+p.j)=P+w*(B%W64 ^p.j)*W64 ^i
theorem w0q {n i w P:Nat} {ys:List Int} (hw:w < W64) (hy:Dg W64 ys) (hn:i+ys.length<=n) {p:IMu} (h:z1f n i ys.length w (val W64 ys) P p) (hj:p.j < ys.length):z1f n i ys.length w (val W64 ys) P (n1t w ys i p):=by
 obtain⟨h1,h2,h3,h4,h5,h6⟩:=h
 have gy:=F9 i7 hy p.j
 have gp:=h3.get i7 (i+p.j)
 have ep:p.L.getD (i+p.j) 0=((p.L.getD (i+p.j) 0).toNat:Int):=by omega
 have ec:p.c=(p.c.toNat:Int):=by omega
 obtain⟨D,C,e1,e2,e3,e4,e5⟩:=p1j hw (cJ i7 (val W64 ys) p.j) (show (p.L.getD (i+p.j) 0).toNat < W64 by have:=gp.2; omega) (show p.c.toNat < W64 by have:=h4.2; omega)
 unfold n1t
 rw [A7,gy,ec,ep,e1,e2]
 refine⟨hj,by simp [h2],h3.set ⟨by omega,by exact_mod_cast e3⟩ _,⟨by simp only; omega,by simp only; exact_mod_cast e4⟩,fun t ht=> ?_,?_⟩
 ·rw [getD_set_ne (by omega)]
  exact h5 t ht
 ·have hv:=bO (b:=W64) (D:Int) (show i+p.j < p.L.length by omega)
  simp only [l4] at hv
  simp only [l4]
  rw [gO,<- p1c,v6]
  have q:(D+W64*C)*W64 ^(i+p.j)=((p.L.getD (i+p.j) 0).toNat+w*dig W64 (val W64 ys) p.j+p.c.toNat)*W64 ^(i+p.j):=by rw [e5]
  rw [x6,x6,x6] at q
  have q2:C*(W64 ^(i+p.j)*W64)=W64*C*W64 ^(i+p.j):=by rw [p4 (W64 ^(i+p.j)),<- m7,p4 C]
  have q3:w*(val W64 ys%W64 ^p.j+dig W64 (val W64 ys) p.j*W64 ^p.j)*W64 ^i=w*(val W64 ys%W64 ^p.j)*W64 ^i+w*dig W64 (val W64 ys) p.j*W64 ^(i+p.j):=by
   rw [aY,x6,m9]
   congr 1
   rw [<- m7,m7,p4 (W64 ^p.j)]
  rw [q3,q2]
  omega
theorem kO {n i w P:Nat} {ys L:List Int} (hw:w < W64) (hy:Dg W64 ys) (hn:i+ys.length<=n) (hL:L.length=n) (hD:Dg W64 L) (hz:∀ t,i+ys.length<=t->L.getD t 0=0) (hP:val W64 L=P):
  ∀ k,k<=ys.length->z1f n i ys.length w (val W64 ys) P (J6 w ys i L k)∧(J6 w ys i L k).j=k
 | 0,_=>⟨⟨o8 _,hL,hD,⟨uV _,(show (0:Int) < ((18446744073709551616:Nat):Int) by decide)⟩,hz,by simp [J6,itr,hP,Nat.mod_one]⟩,rfl⟩
 | k+1,hk=>by
  obtain⟨h1,h2⟩:=kO hw hy hn hL hD hz hP k (by omega)
  have h3:(J6 w ys i L k).j < ys.length:=by rw [h2]; omega
  exact⟨w0q hw hy hn h1 h3,by show (J6 w ys i L k).j+1=k+1; rw [h2]⟩
def p2u (xs ys:List Int) (i:Nat) (L:List Int):Prop:=
 L.length=xs.length+ys.length∧Dg W64 L∧(∀ t,i+ys.length<=t->L.getD t 0=0)∧val W64 L=val W64 xs%W64 ^i*val W64 ys
theorem uN {xs ys:List Int} (hx:Dg W64 xs) (hy:Dg W64 ys):∀ i,i<=xs.length->p2u xs ys i (I5 xs ys i)
 | 0,_=>⟨by simp [I5],K0 _ i7 _,fun t _=>X9 _ _,by simp [I5,W3,Nat.mod_one]⟩
 | i+1,hi=>by
  obtain⟨h1,h2,h3,h4⟩:=uN hx hy i (by omega)
  have gx:=F9 i7 hx i
  have:=(kO (cJ i7 (val W64 xs) i) hy (by omega) h1 h2 h3 h4 ys.length (d5 _))
  unfold I5
  rw [gx,A7]
  generalize J6 (dig W64 (val W64 xs) i) ys i (I5 xs ys i) ys.length=p at*
  obtain⟨⟨q1,q2,q3,q4,q5,q6⟩,q7⟩:=this
  rw [q7] at q6
  refine⟨by simp [q2],q3.set q4 _,fun t ht=> ?_,?_⟩
  ·rw [getD_set_ne (by omega)]
   exact q5 t (by omega)
  ·have hv:=bO (b:=W64) p.c (show i+ys.length < p.L.length by omega)
   rw [q5 (i+ys.length) (d5 _)] at hv
   simp only [i0o,K6,I2] at hv
   rw [hv,q6,J5 (O3 i7 hy),gO,x6]
   congr 1
   rw [X6]
theorem g1e (a b:Bool) {xs ys L:List Int} (N:Nat) (hx:Dg W64 xs) (hy:Dg W64 ys) {i:Nat} (hi:i < xs.length) (hb:xs.length+ys.length < 1099511627776) (hL:L.length=xs.length+ys.length) (hN:N=xs.length+ys.length) (hD:Dg W64 L) (hz:∀ t,i+ys.length<=t->L.getD t 0=0):
  b9 XW2 y0a (TMi a b xs ys L xs.length ys.length N xs.length i (xs.getD i 0) 0 ys.length 0) (.exit 2)
   (TMi a b xs ys (J6 (xs.getD i 0) ys i L ys.length).L xs.length ys.length N xs.length i (xs.getD i 0) (J6 (xs.getD i 0) ys i L ys.length).c ys.length ys.length):=by
 subst hN
 refine v7 (fun k=>TMi a b xs ys (J6 (xs.getD i 0) ys i L k).L xs.length ys.length (xs.length+ys.length) xs.length i (xs.getD i 0) (J6 (xs.getD i 0) ys i L k).c ys.length k) ys.length (by intro e; cases e) (fun k hk=> ?_)
  (n1a a b xs ys _ xs.length ys.length (xs.length+ys.length) xs.length i (xs.getD i 0) _ ys.length ys.length ⟨by simp,a7⟩)
 have gx:=F9 i7 hx i
 have:=kO (cJ i7 (val W64 xs) i) hy (by omega) hL hD hz rfl k (by omega)
 have e:J6 (xs.getD i 0) ys i L (k+1)=n1t (xs.getD i 0) ys i (J6 (xs.getD i 0) ys i L k):=rfl
 simp only [e]
 rw [<- gx] at this
 generalize J6 (xs.getD i 0) ys i L k=p at*
 obtain⟨⟨q1,q2,q3,q4,q5,q6⟩,q7⟩:=this
 subst q7
 have hw:iI.wrap ((i:Int)+(p.j:Int))=((i+p.j:Nat):Int):=by
  have:=o9 (n:=i+p.j) (by omega)
  simpa using this
 have hw2:=F5 (n:=p.j) (by omega)
 have gw:=hx.get i7 i
 have gy:=hy.get i7 p.j
 have hW:((W64:Nat):Int)=18446744073709551616:=rfl
 rw [hW] at gw gy
 have:=c1c a b xs ys p.L xs.length ys.length (xs.length+ys.length) xs.length i (xs.getD i 0) p.c ys.length p.j
 rw [hw,hw2] at this
 simp only [l4] at this
 have bnd:((zO2 0<=((i+p.j:Nat):Int)∧((i+p.j:Nat):Int) < zO2 (xs.length+ys.length))∧0 < p.L.length):=⟨⟨by simp only [w9]; omega,by simp only [w9]; omega⟩,by omega⟩
 exact this ⟨by omega,bnd,by omega,by omega,bnd,by omega,⟨gw,gy⟩,hk,⟨⟨by simp,by simpa using hk⟩,by omega⟩,by simpa using hk,a7⟩
theorem r1q (a b:Bool) (xs ys L:List Int) (na nb N:Nat) (la i:Int) (x:AX) (s':St) (h:b9 XW2 y0a (TMi a b xs ys L na nb N la i (xs.getD i.toNat 0) 0 nb 0) x s'):b9 XW2 y0a (r2b XW2 l0h (TMo a b xs ys L na nb N la i) [true]) x s':=
 l9 h [] (by kernel_rfl) (by kernel_rfl) (by kernel_rfl)
theorem d1c (a b:Bool) (xs ys:List Int) (x:AX) (s':St) (h:b9 XW2 l0h (TMo a b xs ys (zO6 (iI.wrap ((xs.length:Int)+ys.length)).toNat 0) xs.length ys.length (iI.wrap ((xs.length:Int)+ys.length)).toNat xs.length 0) x s'):
  b9 XW2 l0h (n9 XW2 200 92 [iL' a xs,iL' b ys] []) x s':=
 l9 h [] (by kernel_rfl) (by kernel_rfl) (by kernel_rfl)
theorem y1z (a b:Bool) {A B:Nat} (hA:wl A < 274877906944) (hB:wl B < 274877906944):Ev.Sem zO8 J0 92 [iN a A,iN b B] [iN ((a !=b) && decide (0 < A*B)) (A*B)] :=by
 have hA:(ws W64 A).length < 274877906944:=hA
 have hB:(ws W64 B).length < 274877906944:=hB
 have hx:=f0b A
 have hy:=f0b B
 have vA:=r9 A
 have vB:=r9 B
 have hR:n7 (I5 (ws W64 A) (ws W64 B) (ws W64 A).length)=ws W64 (A*B)∧(I5 (ws W64 A) (ws W64 B) (ws W64 A).length).length=(ws W64 A).length+(ws W64 B).length:=by
  obtain⟨h1,h2,h3,h4⟩:=uN hx hy (ws W64 A).length (d5 _)
  refine⟨?_,h1⟩
  rw [G0 A8 h2,h4,J5 (O3 i7 hx),vA,vB]
 have hL:b9 XW2 l0h (TMo a b (ws W64 A) (ws W64 B) (zO6 ((ws W64 A).length+(ws W64 B).length) 0) (ws W64 A).length (ws W64 B).length ((ws W64 A).length+(ws W64 B).length) (ws W64 A).length 0) (.exit 0)
   (TMo a b (ws W64 A) (ws W64 B) (I5 (ws W64 A) (ws W64 B) (ws W64 A).length) (ws W64 A).length (ws W64 B).length ((ws W64 A).length+(ws W64 B).length) (ws W64 A).length (ws W64 A).length):=by
  generalize ws W64 A=xs at*
  generalize ws W64 B=ys at*
  refine v7 (fun k=>TMo a b xs ys (I5 xs ys k) xs.length ys.length (xs.length+ys.length) xs.length k) xs.length (by intro e; cases e) (fun k hk=> ?_) (p1g a b xs ys _ xs.length ys.length (xs.length+ys.length) xs.length xs.length ⟨by simp,a7⟩)
  obtain⟨h1,h2,h3,h4⟩:=uN hx hy k (by omega)
  have hi:=g1e a b (xs.length+ys.length) hx hy hk (by omega) h1 rfl h2 h3
  have hi2:=r1q a b xs ys (I5 xs ys k) xs.length ys.length (xs.length+ys.length) xs.length k _ _ (by rw [l4]; exact hi)
  have hw:iI.wrap ((k:Int)+zO2 ys.length)=((k+ys.length:Nat):Int):=by
   have:=o9 (n:=k+ys.length) (by omega)
   simpa using this
  have hw':iI.wrap ((k:Int)+(ys.length:Int))=((k+ys.length:Nat):Int):=hw
  have hw2:=F5 (n:=k) (by omega)
  have hlen:(J6 (xs.getD k 0) ys k (I5 xs ys k) ys.length).L.length=xs.length+ys.length:=by
   have gx:=F9 i7 hx k
   have:=(kO (cJ i7 (val W64 xs) k) hy (by omega) h1 h2 h3 rfl ys.length (d5 _)).1.2.1
   rw [gx]
   exact this
  have:=d1o a b xs ys (I5 xs ys k) (J6 (xs.getD k 0) ys k (I5 xs ys k) ys.length).L xs.length ys.length (xs.length+ys.length) xs.length k (xs.getD k 0) (J6 (xs.getD k 0) ys k (I5 xs ys k) ys.length).c ys.length ys.length
  rw [hw,hw',hw2] at this
  simp only [l4] at this
  exact this ⟨by omega,⟨⟨by simp only [w9]; omega,by simp only [w9]; omega⟩,by omega⟩,hi2,hk,⟨⟨by simp,by simpa using hk⟩,by omega⟩,by simpa using hk,a7⟩
 have hw:iI.wrap (((ws W64 A).length:Int)+(ws W64 B).length)=(((ws W64 A).length+(ws W64 B).length:Nat):Int):=by
  have:=o9 (n:=(ws W64 A).length+(ws W64 B).length) (by omega)
  simpa using this
 have hw':iI.wrap (zO2 ((ws W64 A).length+(ws W64 B).length))=(((ws W64 A).length+(ws W64 B).length:Nat):Int):=o9 (by omega)
 have ht:zO10 ((ws W64 A).length+(ws W64 B).length) (I5 (ws W64 A) (ws W64 B) (ws W64 A).length)=I5 (ws W64 A) (ws W64 B) (ws W64 A).length:=aU (by rw [hR.2]; exact d5 _)
 obtain⟨q1,q2,q3⟩:=I0 hR.1
 refine l6 W1 10 _ _ (y1j a b _ (ws W64 A) (ws W64 B) (I5 (ws W64 A) (ws W64 B) (ws W64 A).length) (ws W64 (A*B)) _ _ ((ws W64 A).length+(ws W64 B).length) _ _) ⟨⟨rfl,by rw [hR.2]; omega,by rw [hR.2]; omega⟩,d1c a b _ _ _ _ (by rw [hw]; exact hL),⟨by rw [hw']; simp only [w9]; omega,rfl,by rw [hw']; simp only [w9]; omega,by rw [hw']; simp only [w9]; omega⟩,?_,?_,a7⟩
 ·rw [ht,hR.1]
  have:=wl_pos (m:=A*B)
  have e1:(!a==b)=(a !=b):=by cases a <;> cases b <;> rfl
  rw [e1]
  congr 2
  simp only [zzA167]
  exact this
 ·rw [ht]
  exact⟨q1,q2,q3⟩
end Go.Proofs.YtbdaebagmmmijaaGreatDoor
namespace Go.Proofs.YtbdaebagmmmijaaGreatDoor.Wd
def bl (n:Nat):Nat:=match n with
 | 0=>0
 | n+1=>(n+1).log2+1
theorem bl_le {n k:Nat} :bl n<=k↔n < 2 ^k:=by
 cases n with
 | zero=>simp [bl,Nat.two_pow_pos]
 | succ n=>
  have:=Nat.log2_lt (n:=n+1) (k:=k) (by omega)
  simp only [bl]
  omega
theorem c0p (n:Nat):n < 2 ^bl n:=bl_le.1 (d5 _)
theorem bl_ge {n k:Nat} :k < bl n↔2 ^k<=n:=by
 have:=bl_le (n:=n) (k:=k)
 omega
theorem y1q:bl 0=0:=rfl
theorem bl_pos {n:Nat} :0 < bl n↔0 < n:=by
 rw [bl_ge]
 simp
 omega
theorem u1z {n:Nat} (h:0 < n):2 ^(bl n-1)<=n:=bl_ge.1 (by have:=bl_pos.2 h; omega)
theorem b2z {a b:Nat} (h:a<=b):bl a<=bl b:=bl_le.2 (A5 h (c0p b))
theorem qD {n k:Nat} (h:2 ^k<=n):bl n=k+bl (n/2 ^k):=by
 have h1:k < bl n:=bl_ge.2 h
 apply tC
 ·rw [bl_le,m9,p4,<- F4 (E6 k)]
  exact c0p _
 ·have:bl (n/2 ^k)<=bl n-k:=by
   rw [bl_le,F4 (E6 k),<- m9]
   rw [zE (rI h1)]
   exact c0p n
  omega
end Go.Proofs.YtbdaebagmmmijaaGreatDoor.Wd
namespace Go.Proofs.YtbdaebagmmmijaaGreatDoor
open Go Go.RowKit Ev Wd
def l8:ByteArray:=⟨⟨(List.range 256).map fun i=>UInt8.ofNat (bl i)⟩⟩
theorem m2u (i:Nat) (h:i < 256):mA l8 i=bl i:=by
 have:∀ i:Fin 256,mA l8 i.val=bl i.val:=by decide+kernel
 exact this ⟨i,h⟩
def h1l (k:Nat) (y:Int):Value:= .int .i64 (iI.wrap ((k:Int)+iI.wrap ((mA l8 (uB.wrap y).toNat:Nat):Int)))
abbrev f32 (x:Int):Int:=x.fdiv 4294967296
abbrev f16 (x:Int):Int:=x.fdiv 65536
abbrev f8 (x:Int):Int:=x.fdiv 256
def l1r (y:Int):Prop:=0<=uB.wrap y∧(uB.wrap y).toNat < 256
section
variable (x:Int)
theorem z1l:b7 XW2 [] 200 188 [.int .u64 x] [true,true,true] =some (h1l 56 (f8 (f16 (f32 x))),[l1r (f8 (f16 (f32 x))),decide (f16 (f32 x)>=256)=true,decide (f32 x>=65536)=true,decide (x>=4294967296)=true]):=by kernel_rfl
theorem a2r:b7 XW2 [] 200 188 [.int .u64 x] [true,true,false] =some (h1l 48 (f16 (f32 x)),[l1r (f16 (f32 x)),decide (f16 (f32 x)>=256)=false,decide (f32 x>=65536)=true,decide (x>=4294967296)=true]):=by kernel_rfl
theorem y1g:b7 XW2 [] 200 188 [.int .u64 x] [true,false,true] =some (h1l 40 (f8 (f32 x)),[l1r (f8 (f32 x)),decide (f32 x>=256)=true,decide (f32 x>=65536)=false,decide (x>=4294967296)=true]):=by kernel_rfl
theorem a2x:b7 XW2 [] 200 188 [.int .u64 x] [true,false,false] =some (h1l 32 (f32 x),[l1r (f32 x),decide (f32 x>=256)=false,decide (f32 x>=65536)=false,decide (x>=4294967296)=true]):=by kernel_rfl
theorem y1r:b7 XW2 [] 200 188 [.int .u64 x] [false,true,true] =some (h1l 24 (f8 (f16 x)),[l1r (f8 (f16 x)),decide (f16 x>=256)=true,decide (x>=65536)=true,decide (x>=4294967296)=false]):=by kernel_rfl
theorem a2o:b7 XW2 [] 200 188 [.int .u64 x] [false,true,false] =some (h1l 16 (f16 x),[l1r (f16 x),decide (f16 x>=256)=false,decide (x>=65536)=true,decide (x>=4294967296)=false]):=by kernel_rfl
theorem x1x:b7 XW2 [] 200 188 [.int .u64 x] [false,false,true] =some (h1l 8 (f8 x),[l1r (f8 x),decide (x>=256)=true,decide (x>=65536)=false,decide (x>=4294967296)=false]):=by kernel_rfl
theorem d2c:b7 XW2 [] 200 188 [.int .u64 x] [false,false,false] =some (h1l 0 x,[l1r x,decide (x>=256)=false,decide (x>=65536)=false,decide (x>=4294967296)=false]):=by kernel_rfl
end
theorem cT {k n m:Nat} (hn:n < 256) (h:k+bl n=m) (hm:m<=64):h1l k n= .int .i64 m:=by
 unfold h1l
 have e:uB.wrap (n:Int)=n:=by
  have:=IntKind.wrap_u8 (n:Int)
  omega
 rw [e,l4,m2u n hn,o9 (by omega)]
 have:=o9 (n:=k+bl n) (by omega)
 congr 1
 rw [<- h]
 simpa using this
theorem bZ {n:Nat} (hn:n < 256):l1r n:=by
 unfold l1r
 have e:uB.wrap (n:Int)=n:=by
  have:=IntKind.wrap_u8 (n:Int)
  omega
 rw [e]
 omega
theorem y0u (n:Nat) (h:n < W64):Pure zO8 J0 188 [.int .u64 n] (.int .i64 (bl n)):=by
 have h:n < 18446744073709551616:=h
 have e32:f32 n=((n/4294967296:Nat):Int):=by unfold f32; rw [eU _ (by omega)]; omega
 have e16:∀ m:Nat,f16 m=((m/65536:Nat):Int):=fun m=>by unfold f16; rw [eU _ (by omega)]; omega
 have e8:∀ m:Nat,f8 m=((m/256:Nat):Int):=fun m=>by unfold f8; rw [eU _ (by omega)]; omega
 have s32:4294967296<=n->bl n=32+bl (n/4294967296):=fun h=>qD (k:=32) h
 have s16:∀ m,65536<=m->bl m=16+bl (m/65536):=fun m h=>qD (k:=16) h
 have s8:∀ m,256<=m->bl m=8+bl (m/256):=fun m h=>qD (k:=8) h
 have hb:bl n<=64:=bl_le.2 h
 by_cases h1:4294967296<=n
 ·have q1:=s32 h1
  by_cases h2:65536<=n/4294967296
  ·have q2:=s16 _ h2
   by_cases h3:256<=n/4294967296/65536
   ·have q3:=s8 _ h3
    have:=z1l n
    rw [e32,e16,e8] at this
    rw [cT (k:=56) (m:=bl n) (by omega) (by omega) hb] at this
    exact g9 W1 10 [] _ this ⟨bZ (by omega),by simp; omega,by simp; omega,by simp; omega,a7⟩
   ·have:=a2r n
    rw [e32,e16] at this
    rw [cT (k:=48) (m:=bl n) (by omega) (by omega) hb] at this
    exact g9 W1 10 [] _ this ⟨bZ (by omega),by simp; omega,by simp; omega,by simp; omega,a7⟩
  ·by_cases h3:256<=n/4294967296
   ·have q3:=s8 _ h3
    have:=y1g n
    rw [e32,e8] at this
    rw [cT (k:=40) (m:=bl n) (by omega) (by omega) hb] at this
    exact g9 W1 10 [] _ this ⟨bZ (by omega),by simp; omega,by simp; omega,by simp; omega,a7⟩
   ·have:=a2x n
    rw [e32] at this
    rw [cT (k:=32) (m:=bl n) (by omega) (by omega) hb] at this
    exact g9 W1 10 [] _ this ⟨bZ (by omega),by simp; omega,by simp; omega,by simp; omega,a7⟩
 ·by_cases h2:65536<=n
  ·have q2:=s16 _ h2
   by_cases h3:256<=n/65536
   ·have q3:=s8 _ h3
    have:=y1r n
    rw [e16,e8] at this
    rw [cT (k:=24) (m:=bl n) (by omega) (by omega) hb] at this
    exact g9 W1 10 [] _ this ⟨bZ (by omega),by simp; omega,by simp; omega,by simp; omega,a7⟩
   ·have:=a2o n
    rw [e16] at this
    rw [cT (k:=16) (m:=bl n) (by omega) (by omega) hb] at this
    exact g9 W1 10 [] _ this ⟨bZ (by omega),by simp; omega,by simp; omega,by simp; omega,a7⟩
  ·by_cases h3:256<=n
   ·have q3:=s8 _ h3
    have:=x1x n
    rw [e8] at this
    rw [cT (k:=8) (m:=bl n) (by omega) (by omega) hb] at this
    exact g9 W1 10 [] _ this ⟨bZ (by omega),by simp; omega,by simp; omega,by simp; omega,a7⟩
   ·have:=d2c n
    rw [show h1l 0 n= .int .i64 (bl n) from cT (k:=0) (m:=bl n) (by omega) (by omega) hb] at this
    exact g9 W1 10 [] _ this ⟨bZ (by omega),by simp; omega,by simp; omega,by simp; omega,a7⟩
def F8 (x:Int):Int:=((bl x.toNat:Nat):Int)
def rJ:List Value->Option (Value×List Prop)
 | [.int .u64 x] =>some (.int .i64 (F8 x),[0<=x∧x < 18446744073709551616])
 | _=>none
theorem l0r (args:List Value) (v:Value) (l:List Prop) (h:rJ args=some (v,l)) (hl:d9 l):Pure zO8 J0 188 args v:=by
 unfold rJ at h
 split at h
 case h_2=>cases h
 rename_i x
 cases h
 obtain⟨h1,h2⟩:=hl.1
 have:=y0u x.toNat (by show x.toNat < 18446744073709551616; omega)
 rw [T5 h1] at this
 exact this
def y1w:Tab:=l7 188 rJ a2a
theorem t0x:R8 zO8 J0 y1w:=b8 l0r u0l
def bW3:Base:=⟨zO8,J0,false,y1w,h0k,200,J2⟩
theorem pB:BaseOk bW3:=⟨progOk,t0x,iZ,m4⟩
abbrev XW3:Cx:=bW3.cx 10
def p0k:Code:=A3 zO8 192 0
def r0g:Code:=A3 zO8 192 1
def TD1 (y s yn1 yn0 un32 un10 un1 un0 q r:Int):St:=⟨only 135 [(2, .int .u64 y),(8, .int .u64 s),(9, .int .u64 yn1),(10, .int .u64 yn0),(11, .int .u64 un32),(12, .int .u64 un10),(13, .int .u64 un1),(14, .int .u64 un0),(15, .int .u64 q),(16, .int .u64 r)],[],11,[],[],0,none,[],11⟩
def TE1 (y s yn1 yn0 un32 un10 un1 un0 q:Int):St:=⟨only 135 [(2, .int .u64 y),(8, .int .u64 s),(9, .int .u64 yn1),(10, .int .u64 yn0),(11, .int .u64 un32),(12, .int .u64 un10),(13, .int .u64 un1),(14, .int .u64 un0),(15, .int .u64 q)],[],11,[],[],0,none,[],11⟩
def TD2 (y s yn1 yn0 un0 q1 un21 q r:Int):St:=⟨only 135 [(2, .int .u64 y),(8, .int .u64 s),(9, .int .u64 yn1),(10, .int .u64 yn0),(14, .int .u64 un0),(15, .int .u64 q1),(16, .int .u64 r),(17, .int .u64 un21),(18, .int .u64 q)],[],11,[],[],0,none,[],11⟩
def TE2 (y s yn1 yn0 un0 q1 un21 q:Int):St:=⟨only 135 [(2, .int .u64 y),(8, .int .u64 s),(9, .int .u64 yn1),(10, .int .u64 yn0),(14, .int .u64 un0),(15, .int .u64 q1),(17, .int .u64 un21),(18, .int .u64 q)],[],11,[],[],0,none,[],11⟩
def S1 (hi lo y:Int):St:=t7 XW3 200 192 [.int .u64 hi, .int .u64 lo, .int .u64 y] J0.tabs 11 [false,false,false]
def dC (yn0 u q r:Int):Bool:=match decide (q>=4294967296) with
 | true=>true
 | false=>decide (uI.wrap (q*yn0) > uI.wrap (uI.wrap (4294967296*r)+u))
section
variable (y s yn1 yn0 un32 un10 un1 un0 q r q1 un21:Int)
theorem n1i (h:dC yn0 un1 q r=true) (h2:decide ((4294967296:Int)<=uI.wrap (r+yn1))=true):r7 XW3 p0k (TD1 y s yn1 yn0 un32 un10 un1 un0 q r) (.exit 0) (TE1 y s yn1 yn0 un32 un10 un1 un0 (uI.wrap (q-1))):=
 d6 (a6 pB 10).1 progOk.mixed [] 200 [true,true] [] (l:=[decide ((4294967296:Int)<=uI.wrap (r+yn1))=true,dC yn0 un1 q r=true]) (by kernel_rfl) ⟨h2,h,a7⟩ (by kernel_rfl) (by kernel_rfl)
theorem z1s (h:dC yn0 un1 q r=true) (h2:decide ((4294967296:Int)<=uI.wrap (r+yn1))=false):r7 XW3 p0k (TD1 y s yn1 yn0 un32 un10 un1 un0 q r) .normal (TD1 y s yn1 yn0 un32 un10 un1 un0 (uI.wrap (q-1)) (uI.wrap (r+yn1))):=
 d6 (a6 pB 10).1 progOk.mixed [] 200 [true,false] [] (l:=[decide ((4294967296:Int)<=uI.wrap (r+yn1))=false,dC yn0 un1 q r=true]) (by kernel_rfl) ⟨h2,h,a7⟩ (by kernel_rfl) (by kernel_rfl)
theorem k2e (h:dC yn0 un1 q r=false):r7 XW3 p0k (TD1 y s yn1 yn0 un32 un10 un1 un0 q r) (.exit 0) (TE1 y s yn1 yn0 un32 un10 un1 un0 q):=
 d6 (a6 pB 10).1 progOk.mixed [] 200 [false] [] (l:=[dC yn0 un1 q r=false]) (by kernel_rfl) ⟨h,a7⟩ (by kernel_rfl) (by kernel_rfl)
theorem r1n (h:dC yn0 un0 q r=true) (h2:decide ((4294967296:Int)<=uI.wrap (r+yn1))=true):r7 XW3 r0g (TD2 y s yn1 yn0 un0 q1 un21 q r) (.exit 2) (TE2 y s yn1 yn0 un0 q1 un21 (uI.wrap (q-1))):=
 d6 (a6 pB 10).1 progOk.mixed [] 200 [true,true] [] (l:=[decide ((4294967296:Int)<=uI.wrap (r+yn1))=true,dC yn0 un0 q r=true]) (by kernel_rfl) ⟨h2,h,a7⟩ (by kernel_rfl) (by kernel_rfl)
theorem x1o (h:dC yn0 un0 q r=true) (h2:decide ((4294967296:Int)<=uI.wrap (r+yn1))=false):r7 XW3 r0g (TD2 y s yn1 yn0 un0 q1 un21 q r) .normal (TD2 y s yn1 yn0 un0 q1 un21 (uI.wrap (q-1)) (uI.wrap (r+yn1))):=
 d6 (a6 pB 10).1 progOk.mixed [] 200 [true,false] [] (l:=[decide ((4294967296:Int)<=uI.wrap (r+yn1))=false,dC yn0 un0 q r=true]) (by kernel_rfl) ⟨h2,h,a7⟩ (by kernel_rfl) (by kernel_rfl)
theorem k2a (h:dC yn0 un0 q r=false):r7 XW3 r0g (TD2 y s yn1 yn0 un0 q1 un21 q r) (.exit 2) (TE2 y s yn1 yn0 un0 q1 un21 q):=
 d6 (a6 pB 10).1 progOk.mixed [] 200 [false] [] (l:=[dC yn0 un0 q r=false]) (by kernel_rfl) ⟨h,a7⟩ (by kernel_rfl) (by kernel_rfl)
end
def dS (y:Int):Int:=uI.wrap (iI.wrap (64-F8 y))
def dSh (x s:Int):Int:=uI.wrap (x*2 ^(min s.toNat 64))
def dHi (x:Int):Int:=x.fdiv 4294967296
def dLo (x:Int):Int:=bits .and .u64 x 4294967295
def dU (hi lo s:Int):Int:=bits .or .u64 (dSh hi s) (lo.fdiv (2 ^(min (uI.wrap (64-s)).toNat 64)))
def dQ (u v:Int):Int:=uI.wrap (u.tdiv v)
def dR (u v:Int):Int:=uI.wrap (u-uI.wrap (dQ u v*v))
def dN (u a q y:Int):Int:=uI.wrap (uI.wrap (uI.wrap (u*4294967296)+a)-uI.wrap (q*y))
section
variable (hi lo y s q yv yn1 yn0 un32 un10 un1 un0 q1 un21 q0:Int)
theorem z1i (x:AX) (s':St) (h:b9 XW3 p0k (TD1 (dSh y (dS y)) (dS y) (dHi (dSh y (dS y))) (dLo (dSh y (dS y))) (dU hi lo (dS y)) (dSh lo (dS y)) (dHi (dSh lo (dS y))) (dLo (dSh lo (dS y))) (dQ (dU hi lo (dS y)) (dHi (dSh y (dS y)))) (dR (dU hi lo (dS y)) (dHi (dSh y (dS y))))) x s'):
  b9 XW3 p0k (S1 hi lo y) x s':=l9 h [] (by kernel_rfl) (by kernel_rfl) (by kernel_rfl)
end
def h2p (f:Nat):Code:=match h1h zO8.funcs.toList f with
 | some fn=>match fn.body with
  | some c=>c
  | none=> .skip
 | none=> .skip
def S2 (hi lo y:Int) (e:St):St:=match D9 XW3 [N5 (.exit 0) (fun _=>e),fun s=>some (.exit 1000000,s)] 200 (h2p 192) ⟨([.int .u64 hi, .int .u64 lo, .int .u64 y] :List Value).map .v++zO6 132 (.v undef),J0.tabs,11,[false,false,false],[],0,none,[],11⟩ with
 | some (_,s)=>s.core
 | none=>e
theorem o1s (hi lo y:Int):b7 XW3 [] 200 192 [.int .u64 hi, .int .u64 lo, .int .u64 y] [false,false,true] =some (Value.tuple { toList:=[zO3 uI (uI.wrap (lo.tdiv y)),zO3 uI (lo.tmod y)]},[y=0->False,y=0->False,(hi==zO2 0)=true,decide (y<=hi)=false,(y==zO2 0)=false]):=by kernel_rfl
theorem w1j (hi lo y yv s yn1 yn0 un32 un10 un1 un0 q1 un21 q0:Int):b7 XW3 [N5 (.exit 0) (fun _=>TE1 yv s yn1 yn0 un32 un10 un1 un0 q1),N5 (.exit 2) (fun _=>TE2 yv s yn1 yn0 un0 q1 un21 q0)] 200 192 [.int .u64 hi, .int .u64 lo, .int .u64 y] [false,false,false] =some (Value.tuple { toList:=[zO3 uI (uI.wrap (uI.wrap (q1*zO2 4294967296)+q0)),zO3 uI ((uI.wrap (uI.wrap (uI.wrap (un21*zO2 4294967296)+un0)-uI.wrap (q0*yv))).fdiv (zO2 (2 ^min s.toNat 64)))]},[zO2 0<=s,b9 XW3 r0g (S2 hi lo y (TE1 yv s yn1 yn0 un32 un10 un1 un0 q1)) (.exit 2) (TE2 yv s yn1 yn0 un0 q1 un21 q0),yn1=0->False,b9 XW3 p0k (S1 hi lo y) (.exit 0) (TE1 yv s yn1 yn0 un32 un10 un1 un0 q1),(uI.wrap (y*2 ^min (uI.wrap (iI.wrap (64-F8 y))).toNat uI.bits)).fdiv (2 ^min (Int.toNat 32) uI.bits)=0->False,zO2 0<=uI.wrap (iI.wrap (zO2 64-F8 y)),zO2 0<=uI.wrap (zO2 64-uI.wrap (iI.wrap (zO2 64-F8 y))),zO2 0<=uI.wrap (iI.wrap (zO2 64-F8 y)),zO2 0<=uI.wrap (iI.wrap (zO2 64-F8 y)),zO2 0<=y∧y < zO2 18446744073709551616,(hi==zO2 0)=false,decide (y<=hi)=false,(y==zO2 0)=false]):=by kernel_rfl
theorem b2p (hi lo y yv s yn1 yn0 un32 un10 un1 un0 q1:Int) (x:AX) (s':St) (h:b9 XW3 r0g (TD2 yv s yn1 yn0 un0 q1 (dN un32 un1 q1 yv) (dQ (dN un32 un1 q1 yv) yn1) (dR (dN un32 un1 q1 yv) yn1)) x s'):
  b9 XW3 r0g (S2 hi lo y (TE1 yv s yn1 yn0 un32 un10 un1 un0 q1)) x s':=l9 h [] (by kernel_rfl) (by kernel_rfl) (by kernel_rfl)
theorem bC {n:Nat} (h:n < 18446744073709551616):uI.wrap (n:Int)=n:=by
 have:=O4 (n:Int)
 omega
theorem e2j {X:Cx} {c:Code} {x:AX} (hx:x≠ .normal) (S:Int->Int->St) (E:Int->St) {Y y1 y0 U u:Nat} (hY:Y=y1*4294967296+y0) (h1:2147483648<=y1) (h2:y1 < 4294967296) (h3:y0 < 4294967296) (hU:U < Y) (hu:u < 4294967296)
  (s1:∀ q r:Int,dC y0 u q r=true->decide ((4294967296:Int)<=uI.wrap (r+(y1:Int)))=true->r7 X c (S q r) x (E (uI.wrap (q-1))))
  (s2:∀ q r:Int,dC y0 u q r=true->decide ((4294967296:Int)<=uI.wrap (r+(y1:Int)))=false->r7 X c (S q r) .normal (S (uI.wrap (q-1)) (uI.wrap (r+(y1:Int)))))
  (s3:∀ q r:Int,dC y0 u q r=false->r7 X c (S q r) x (E q)):
  b9 X c (S ((U/y1:Nat):Int) ((U%y1:Nat):Int)) x (E (((U*4294967296+u)/Y:Nat):Int)):=by
 have hYp:0 < Y:=by omega
 have hT:∀ q:Nat,q*Y<=U*4294967296+u↔q<=(U*4294967296+u)/Y:=fun q=>(oS hYp).symm
 have hTB:(U*4294967296+u)/Y < 4294967296:=by
  rw [F4 hYp]
  have:(U+1)*4294967296<=Y*4294967296:=s5 _ hU
  omega
 have hT0:∀ q:Nat,U*4294967296+u < (q+1)*Y->(U*4294967296+u)/Y<=q:=fun q h=>by
  have:=(F4 hYp).2 h
  omega
 generalize (U*4294967296+u)/Y=t at*
 have hmul:∀ q:Nat,q*Y=q*y1*4294967296+q*y0:=fun q=>by rw [hY,aY,m7]
 have e0:U-U/y1*y1=U%y1:=by
  have hd:=eJ U y1
  rw [p4] at hd
  omega
 rw [<- e0]
 refine D2 (fun q:Nat=>S q ((U-q*y1:Nat):Int)) id (fun q=>t<=q∧q*y1<=U∧U-q*y1 < 4294967296) hx (fun q hq=> ?_) (U/y1) ?_
 ·obtain⟨g1,g2,g3⟩:=hq
  have hle:q<=4294967300:=by
   rcases E0 4294967300 q with h | h
   ·have:4294967301*y1<=q*y1:=s5 _ h
    omega
   ·exact h
  have em:=hmul q
  have hqt:=hT q
  generalize hm:q*y1=m at*
  have hq0:q < 4294967296->q*y0 < 18446744073709551616:=fun h=>by
   have:q*y0<=4294967295*4294967295:=w0z (by omega) (by omega)
   omega
  have hwr:uI.wrap (uI.wrap (4294967296*((U-m:Nat):Int))+(u:Int))=((4294967296*(U-m)+u:Nat):Int):=by
   have e1:(4294967296:Int)*((U-m:Nat):Int)=((4294967296*(U-m):Nat):Int):=by omega
   rw [e1,bC (by omega)]
   have e2:((4294967296*(U-m):Nat):Int)+(u:Int)=((4294967296*(U-m)+u:Nat):Int):=by omega
   rw [e2,bC (by omega)]
  have hc:dC y0 u (q:Int) ((U-m:Nat):Int)=true↔t < q:=by
   unfold dC
   by_cases hb:4294967296<=q
   ·have:decide ((q:Int)>=4294967296)=true:=by simp; omega
    rw [this]
    simp only [true_iff]
    omega
   ·have:decide ((q:Int)>=4294967296)=false:=by simp; omega
    rw [this,hwr]
    have e3:(q:Int)*(y0:Int)=((q*y0:Nat):Int):=by rw [fM]
    rw [e3,bC (hq0 (by omega))]
    simp only [V9]
    omega
  by_cases hcond:dC y0 u (q:Int) ((U-m:Nat):Int)=true
  ·have hlt:=hc.1 hcond
   have ew:uI.wrap ((q:Int)-1)=((q-1:Nat):Int):=by
    have:(q:Int)-1=((q-1:Nat):Int):=by omega
    rw [this,bC (by omega)]
   have er:uI.wrap (((U-m:Nat):Int)+(y1:Int))=((U-m+y1:Nat):Int):=by
    have:((U-m:Nat):Int)+(y1:Int)=((U-m+y1:Nat):Int):=by omega
    rw [this,bC (by omega)]
   have hm1:(q-1)*y1+y1=m:=by
    rw [<- hm,<- Nat.succ_mul]
    congr 1
    omega
   have em1:=hmul (q-1)
   have hqt1:=hT (q-1)
   generalize hm2:(q-1)*y1=m1 at*
   by_cases hbr:4294967296<=U-m+y1
   ·right
    have:=s1 q ((U-m:Nat):Int) hcond (by rw [er]; simp only [V9]; omega)
    rw [ew] at this
    have hqB:q-1 < 4294967296:=by
     rcases E0 (q-1) 4294967296 with h | h
     ·exact h
     ·have:4294967296*y1<=(q-1)*y1:=s5 _ h
      omega
    have hq1:(q-1)*y0<=4294967295*4294967295:=w0z (by omega) (by omega)
    have he:q-1=t:=by
     apply tC
     ·rw [<- hqt1]
      omega
     ·omega
    rw [<- he]
    exact this
   ·left
    have:=s2 q ((U-m:Nat):Int) hcond (by rw [er]; simp only [i0y]; omega)
    rw [ew,er] at this
    refine⟨q-1,⟨by omega,by rw [hm2]; omega,by rw [hm2]; omega⟩,by simp only [id]; omega,?_⟩
    rw [hm2]
    have e:U-m1=U-m+y1:=by omega
    rw [e]
    exact this
  ·right
   have hcond':dC y0 u (q:Int) ((U-m:Nat):Int)=false:=by simpa using hcond
   have he:q=t:=by
    have:¬ t < q:=fun h=>hcond (hc.2 h)
    omega
   rw [<- he]
   exact s3 q _ hcond'
 ·have hd:=eJ U y1
  have hmd:U%y1 < y1:=C7 _ (by omega)
  rw [p4] at hd
  refine⟨?_,by omega,by omega⟩
  refine hT0 _ ?_
  have:(U*4294967296+u) < (U/y1+1)*Y:=by
   have e:=hmul (U/y1+1)
   have e2:(U/y1+1)*y1=U/y1*y1+y1:=by rw [x6,rK]
   omega
  exact this
theorem q0v (n:Nat):dHi n=((n/4294967296:Nat):Int):=by unfold dHi; rw [eU _ (by omega)]; omega
theorem b1a {n:Nat} (h:n < 18446744073709551616):dLo n=((n%4294967296:Nat):Int):=by
 unfold dLo
 have:=bits_and_u64_nat n 4294967295 h (by omega)
 have e:n&&& 4294967295=n%4294967296:=fH n 32
 rw [e] at this
 exact this
theorem k1l {u v:Nat} (hu:u < 18446744073709551616):dQ u v=((u/v:Nat):Int):=by
 unfold dQ
 have:(u:Int).tdiv (v:Int)=((u/v:Nat):Int):=(zM u v).symm
 rw [this,bC (A5 (nV u v) hu)]
theorem u1i {u v:Nat} (hu:u < 18446744073709551616) (hv:v < 18446744073709551616) (hv0:0 < v):dR u v=((u%v:Nat):Int):=by
 unfold dR
 rw [k1l hu]
 have hd:=eJ u v
 rw [p4] at hd
 have e:((u/v:Nat):Int)*(v:Int)=((u/v*v:Nat):Int):=by rw [fM]
 have hm:=C7 u hv0
 rw [e,bC (by omega)]
 have e2:(u:Int)- ((u/v*v:Nat):Int)=((u%v:Nat):Int):=by omega
 rw [e2,bC (by omega)]
theorem t1h {u a q y r:Nat} (h:u*4294967296+a=q*y+r) (hr:r < 18446744073709551616):dN u a q y=(r:Int):=by
 unfold dN
 simp only [O4]
 have e1:(q:Int)*(y:Int)=((q*y:Nat):Int):=by rw [fM]
 rw [e1]
 generalize q*y=m at*
 omega
theorem q0s {x s:Nat} (hs:s<=64):dSh x s=((x*2 ^s%18446744073709551616:Nat):Int):=by
 unfold dSh
 rw [l4,D4 hs,O4]
 have:(x:Int)*2 ^s=((x*2 ^s:Nat):Int):=by rw [fM,fN]; rfl
 rw [this]
 omega
theorem j2z {hi lo s:Nat} (hs:s<=64) (h1:hi*2 ^s < 18446744073709551616) (h2:lo < 18446744073709551616):dU hi lo s=((hi*2 ^s+lo/2 ^(64-s):Nat):Int):=by
 unfold dU
 rw [q0s hs,J5 h1]
 have e1:uI.wrap (64- (s:Int))=((64-s:Nat):Int):=by
  have:(64:Int)- (s:Int)=((64-s:Nat):Int):=by omega
  rw [this,bC (by omega)]
 have e2:(lo:Int).fdiv (2 ^(min (uI.wrap (64- (s:Int))).toNat 64))=((lo/2 ^(64-s):Nat):Int):=by
  rw [e1,l4,D4 (by omega),eU _ (by
   have:(0:Int) < 2 ^(64-s):=Int.pow_pos (by decide)
   omega),Int.natCast_ediv,fN]
  rfl
 rw [e2]
 have hlt:lo/2 ^(64-s) < 2 ^s:=by
  rw [F4 (E6 _),<- m9]
  have:s+(64-s)=64:=by omega
  rw [this]
  exact h2
 have hlt2:lo/2 ^(64-s) < 18446744073709551616:=A5 (nV _ _) h2
 rw [bits_or_u64_nat _ _ h1 hlt2]
 have:=j0i hlt hi
 rw [kP] at this
 rw [this]
theorem x0q {hi lo y:Nat} (h1:hi < y) (h2:lo < 18446744073709551616) (h3:y < 18446744073709551616):
  Pure zO8 J0 192 [.int .u64 hi, .int .u64 lo, .int .u64 y] (.tuple ⟨[.int .u64 (((hi*18446744073709551616+lo)/y:Nat):Int), .int .u64 (((hi*18446744073709551616+lo)%y:Nat):Int)]⟩):=by
 have hy0:0 < y:=by omega
 have d1:((y:Int)==zO2 0)=false:=by simp; omega
 have d2:decide ((y:Int)<=(hi:Int))=false:=by simp; omega
 by_cases hh:hi=0
 ·subst hh
  have:=g9 pB 10 [] _ (o1s ((0:Nat):Int) lo y) ⟨by omega,by omega,rfl,d2,d1,a7⟩
  have e1:uI.wrap ((lo:Int).tdiv (y:Int))=((lo/y:Nat):Int):=by
   have:(lo:Int).tdiv (y:Int)=((lo/y:Nat):Int):=(zM lo y).symm
   rw [this,bC (A5 (nV _ _) h2)]
  have e2:(lo:Int).tmod (y:Int)=((lo%y:Nat):Int):=(nR lo y).symm
  rw [e1,e2] at this
  have e3:0*18446744073709551616+lo=lo:=by omega
  rw [e3]
  exact this
 ·have hd0:((hi:Int)==zO2 0)=false:=by simp; omega
  have hbl:=bl_le.2 (show y < 2 ^64 from h3)
  have hbp:=bl_pos.2 hy0
  obtain⟨s,hs⟩:∃ s,s=64-bl y:=⟨_,rfl⟩
  have hs64:s<=64:=by omega
  have hsV:dS y=(s:Int):=by
   unfold dS F8
   rw [l4]
   have e:(64:Int)- ((bl y:Nat):Int)=(s:Int):=by omega
   rw [e,o9 (by omega),bC (by omega)]
  have hp:2 ^64=(18446744073709551616:Nat):=by decide
  have hYlt:y*2 ^s < 18446744073709551616:=by
   have:=c0p y
   have:y*2 ^s < 2 ^bl y*2 ^s:=T6 this (E6 s)
   rw [<- m9,show bl y+s=64 by omega,hp] at this
   exact this
  have hYge:9223372036854775808<=y*2 ^s:=by
   have:=u1z hy0
   have:2 ^(bl y-1)*2 ^s<=y*2 ^s:=s5 _ this
   rw [<- m9,show bl y-1+s=63 by omega] at this
   exact this
  have hyV:dSh y s=((y*2 ^s:Nat):Int):=by rw [q0s hs64,J5 hYlt]
  have hhiS:hi*2 ^s+2 ^s<=y*2 ^s:=by
   have:(hi+1)*2 ^s<=y*2 ^s:=s5 _ h1
   rw [x6,rK] at this
   exact this
  have hloS:lo/2 ^(64-s) < 2 ^s:=by
   rw [F4 (E6 _),<- m9,show s+(64-s)=64 by omega]
   exact h2
  have hU:dU hi lo s=((hi*2 ^s+lo/2 ^(64-s):Nat):Int):=j2z hs64 (A5 (Nat.le_add_right _ _) (A5 hhiS hYlt)) h2
  have hL:dSh lo s=((lo*2 ^s%18446744073709551616:Nat):Int):=q0s hs64
  have hN:(hi*18446744073709551616+lo)*2 ^s=(hi*2 ^s+lo/2 ^(64-s))*18446744073709551616+lo*2 ^s%18446744073709551616:=by
   have e1:lo*2 ^s/18446744073709551616=lo/2 ^(64-s):=by
    have:(18446744073709551616:Nat)=2 ^(64-s)*2 ^s:=by rw [<- m9,show 64-s+s=64 by omega]
    rw [this,sF _ _ (E6 s)]
   have:=eJ (lo*2 ^s) 18446744073709551616
   rw [e1] at this
   rw [x6,x6,X6]
   omega
  generalize hYe:y*2 ^s=Y at*
  generalize hUe:hi*2 ^s+lo/2 ^(64-s)=U at*
  generalize hLe:lo*2 ^s%18446744073709551616=L at*
  have hLlt:L < 18446744073709551616:=by rw [<- hLe]; exact C7 _ (by decide)
  have hUY:U < Y:=by omega
  have hY1:Y=Y/4294967296*4294967296+Y%4294967296:=by omega
  have L1:=e2j (X:=XW3) (c:=p0k) (x:= .exit 0) (by intro e; cases e) (fun q r=>TD1 Y s (Y/4294967296:Nat) (Y%4294967296:Nat) U L (L/4294967296:Nat) (L%4294967296:Nat) q r) (fun q=>TE1 Y s (Y/4294967296:Nat) (Y%4294967296:Nat) U L (L/4294967296:Nat) (L%4294967296:Nat) q)
   (Y:=Y) (y1:=Y/4294967296) (y0:=Y%4294967296) (U:=U) (u:=L/4294967296) hY1 (by omega) (by omega) (by omega) hUY (by omega) (fun q r=>n1i _ _ _ _ _ _ _ _ q r) (fun q r=>z1s _ _ _ _ _ _ _ _ q r) (fun q r=>k2e _ _ _ _ _ _ _ _ q r)
  have hq1:(U*4294967296+L/4294967296)/Y*Y+(U*4294967296+L/4294967296)%Y=U*4294967296+L/4294967296:=by
   have:=eJ (U*4294967296+L/4294967296) Y
   rw [p4] at this
   exact this
  have hR1:(U*4294967296+L/4294967296)%Y < Y:=C7 _ (by omega)
  have hT1:(U*4294967296+L/4294967296)/Y < 4294967296:=by
   rw [F4 (by omega)]
   have:(U+1)*4294967296<=Y*4294967296:=s5 _ hUY
   omega
  obtain⟨q1,hq1e⟩:∃ q1,q1=(U*4294967296+L/4294967296)/Y:=⟨_,rfl⟩
  obtain⟨R1,hR1e⟩:∃ R1,R1=(U*4294967296+L/4294967296)%Y:=⟨_,rfl⟩
  rw [<- hq1e] at L1 hq1 hT1
  rw [<- hR1e] at hq1 hR1
  have L2:=e2j (X:=XW3) (c:=r0g) (x:= .exit 2) (by intro e; cases e) (fun q r=>TD2 Y s (Y/4294967296:Nat) (Y%4294967296:Nat) (L%4294967296:Nat) q1 R1 q r) (fun q=>TE2 Y s (Y/4294967296:Nat) (Y%4294967296:Nat) (L%4294967296:Nat) q1 R1 q)
   (Y:=Y) (y1:=Y/4294967296) (y0:=Y%4294967296) (U:=R1) (u:=L%4294967296) hY1 (by omega) (by omega) (by omega) hR1 (by omega) (fun q r=>r1n _ _ _ _ _ q r _ _) (fun q r=>x1o _ _ _ _ _ q r _ _) (fun q r=>k2a _ _ _ _ _ q r _ _)
  have hq0:(R1*4294967296+L%4294967296)/Y*Y+(R1*4294967296+L%4294967296)%Y=R1*4294967296+L%4294967296:=by
   have:=eJ (R1*4294967296+L%4294967296) Y
   rw [p4] at this
   exact this
  have hR0:(R1*4294967296+L%4294967296)%Y < Y:=C7 _ (by omega)
  have hT0:(R1*4294967296+L%4294967296)/Y < 4294967296:=by
   rw [F4 (by omega)]
   have:(R1+1)*4294967296<=Y*4294967296:=s5 _ hR1
   omega
  obtain⟨q0,hq0e⟩:∃ q0,q0=(R1*4294967296+L%4294967296)/Y:=⟨_,rfl⟩
  obtain⟨R0,hR0e⟩:∃ R0,R0=(R1*4294967296+L%4294967296)%Y:=⟨_,rfl⟩
  rw [<- hq0e] at L2 hq0 hT0
  rw [<- hR0e] at hq0 hR0
  have hall:(hi*18446744073709551616+lo)*2 ^s=(q1*4294967296+q0)*Y+R0:=by
   rw [hN,x6,X6]
   omega
  have hres:(hi*18446744073709551616+lo)/y=q1*4294967296+q0∧R0=(hi*18446744073709551616+lo)%y*2 ^s:=by
   have e1:(hi*18446744073709551616+lo)*2 ^s/ (y*2 ^s)=(hi*18446744073709551616+lo)/y:=sF _ _ (E6 s)
   have e2:(hi*18446744073709551616+lo)*2 ^s%(y*2 ^s)=(hi*18446744073709551616+lo)%y*2 ^s:=zF _ _ _
   have hall':(hi*18446744073709551616+lo)*2 ^s=Y*(q1*4294967296+q0)+R0:=by rw [hall,p4 Y]
   have hY0:0 < Y:=by omega
   rw [hYe,hall'] at e1 e2
   rw [Nat.mul_add_div hY0,p0e hR0,I2] at e1
   rw [Nat.mul_add_mod,J5 hR0] at e2
   exact⟨e1.symm,e2⟩
  have hin1:=z1i hi lo y (.exit 0) (TE1 Y s (Y/4294967296:Nat) (Y%4294967296:Nat) U L (L/4294967296:Nat) (L%4294967296:Nat) q1) (by
   rw [hsV,hyV,hU,hL,q0v,b1a hYlt,q0v,b1a hLlt,k1l (by omega),u1i (by omega) (by omega) (by omega)]
   exact L1)
  have hdn:dN U (L/4294967296:Nat) q1 Y=(R1:Int):=t1h hq1.symm (by omega)
  have hin2:=b2p hi lo y Y s (Y/4294967296:Nat) (Y%4294967296:Nat) U L (L/4294967296:Nat) (L%4294967296:Nat) q1 (.exit 2) (TE2 Y s (Y/4294967296:Nat) (Y%4294967296:Nat) (L%4294967296:Nat) q1 R1 q0) (by
   rw [hdn,k1l (by omega),u1i (by omega) (by omega) (by omega)]
   exact L2)
  have hyn1:(uI.wrap ((y:Int)*2 ^min (uI.wrap (iI.wrap (64-F8 y))).toNat uI.bits)).fdiv (2 ^min (Int.toNat 32) uI.bits)=((Y/4294967296:Nat):Int):=by
   have:dHi (dSh y (dS y))=((Y/4294967296:Nat):Int):=by rw [hsV,hyV,q0v]
   exact this
  have hsx:zO2 0<=uI.wrap (iI.wrap (zO2 64-F8 y)):=by
   have:dS y=(s:Int):=hsV
   show (0:Int)<=dS y
   omega
  have hsx2:zO2 0<=uI.wrap (zO2 64-uI.wrap (iI.wrap (zO2 64-F8 y))):=by
   show (0:Int)<=uI.wrap (64-dS y)
   rw [hsV]
   have:=O4 (64- (s:Int))
   omega
  have:=g9 pB 10 _ _ (w1j hi lo y Y s (Y/4294967296:Nat) (Y%4294967296:Nat) U L (L/4294967296:Nat) (L%4294967296:Nat) q1 R1 q0) ⟨by simp,hin2,by omega,hin1,by rw [hyn1]; omega,hsx,hsx2,hsx,hsx,⟨by simp,by simp only [w9]; omega⟩,hd0,d2,d1,a7⟩
  have f1:uI.wrap (uI.wrap ((q1:Int)*zO2 4294967296)+(q0:Int))=(((hi*18446744073709551616+lo)/y:Nat):Int):=by
   rw [hres.1]
   simp only [O4,w9]
   omega
  have f2:(uI.wrap (uI.wrap (uI.wrap ((R1:Int)*zO2 4294967296)+((L%4294967296:Nat):Int))-uI.wrap ((q0:Int)*(Y:Int)))).fdiv (zO2 (2 ^min (s:Int).toNat 64))=(((hi*18446744073709551616+lo)%y:Nat):Int):=by
   have e:dN R1 (L%4294967296:Nat) q0 Y=(R0:Int):=t1h hq0.symm (by omega)
   have e':uI.wrap (uI.wrap (uI.wrap ((R1:Int)*zO2 4294967296)+((L%4294967296:Nat):Int))-uI.wrap ((q0:Int)*(Y:Int)))=(R0:Int):=e
   rw [e',l4,D4 hs64,eU (R0:Int) (show (0:Int)<=zO2 (2 ^s) from w8 _),hres.2]
   have:=z0c ((hi*18446744073709551616+lo)%y) (E6 s)
   show (((hi*18446744073709551616+lo)%y*2 ^s:Nat):Int)/ ((2 ^s:Nat):Int)=_
   rw [<- Int.natCast_ediv,this]
  rw [f1,f2] at this
  exact this
def d2s (hi lo y:Int):Int:=(((hi.toNat*18446744073709551616+lo.toNat)/y.toNat:Nat):Int)
def l2c (hi lo y:Int):Int:=(((hi.toNat*18446744073709551616+lo.toNat)%y.toNat:Nat):Int)
def tI:List Value->Option (Value×List Prop)
 | [.int .u64 hi, .int .u64 lo, .int .u64 y] =>some (.tuple ⟨[.int .u64 (d2s hi lo y), .int .u64 (l2c hi lo y)]⟩,[(0<=hi∧hi < y)∧(0<=lo∧lo < 18446744073709551616)∧y < 18446744073709551616])
 | _=>none
theorem mY (args:List Value) (v:Value) (l:List Prop) (h:tI args=some (v,l)) (hl:d9 l):Pure zO8 J0 192 args v:=by
 unfold tI at h
 split at h
 case h_2=>cases h
 rename_i hi lo y
 cases h
 obtain⟨⟨h1,h2⟩,⟨h3,h4⟩,h5⟩:=hl.1
 have:=x0q (hi:=hi.toNat) (lo:=lo.toNat) (y:=y.toNat) (by omega) (by omega) (by omega)
 rw [T5 h1,T5 h3,T5 (by omega:0<=y)] at this
 exact this
def w0p:Tab:=l7 192 tI y1w
theorem iD:R8 zO8 J0 w0p:=b8 mY t0x
def bW4:Base:=⟨zO8,J0,false,w0p,h0k,200,J2⟩
theorem W7:BaseOk bW4:=⟨progOk,iD,iZ,m4⟩
abbrev XW4:Cx:=bW4.cx 10
def w1t:Code:=A3 zO8 145 0
def z0o (a:Bool) (xs L:List Int) (na N:Nat) (d r i:Int):St:=
 ⟨only 38 [(1, .int .u64 d),(2, .pointer (some ⟨13,0,none⟩)),(4, .pointer (some ⟨14,0,none⟩)),(6,slV 15 N),(7, .int .u64 r),(8, .int .i64 i)],[(15, .row Y8 1 (.ints .u64 L) 16),(14, .cells [.bool false, .slice none 0 0] qR),(13, .cells [.bool a,slV 11 na] qR),(11, .ints .u64 xs)],17,[],[],0,none,[],13⟩
theorem m1n (a:Bool) (xs L:List Int) (na N:Nat) (d r i:Int) (hl:d9 [i.toNat < L.length,(zO2 0<=i∧i < zO2 N)∧0 < L.length,(zO2 0<=r∧r < d)∧(zO2 0<=xs.getD i.toNat (zO2 0)∧xs.getD i.toNat (zO2 0) < zO2 18446744073709551616)∧d < zO2 18446744073709551616,i.toNat < xs.length,(zO2 0<=i∧i < zO2 na)∧0 < xs.length,decide (zO2 0<=i)=true]):r7 XW4 w1t (z0o a xs L na N d r i) .normal (z0o a xs (gR L i.toNat (d2s r (xs.getD i.toNat 0) d)) na N d (l2c r (xs.getD i.toNat 0) d) (iI.wrap (i-1))):=
 d6 (a6 W7 10).1 progOk.mixed [] 200 [true] [] (by kernel_rfl) hl (by kernel_rfl) (by kernel_rfl)
theorem b2a (a:Bool) (xs L:List Int) (na N:Nat) (d r i:Int) (hl:d9 [decide (zO2 0<=i)=false]):r7 XW4 w1t (z0o a xs L na N d r i) (.exit 0) (z0o a xs L na N d r i):=
 d6 (a6 W7 10).1 progOk.mixed [] 200 [false] [] (by kernel_rfl) hl (by kernel_rfl) (by kernel_rfl)
theorem a2f (a s:Bool) (xs L R:List Int) (na N:Nat) (d r i q:Int):B7 XW4 [N5 (.exit 0) (fun _=>z0o a xs L na N d r i)] 200 145 [iL a xs,uR d] [iL s R,uR q] [] =some [0=0∧0+N<=L.length∧L.length < 1099511627776,b9 XW4 w1t (n9 XW4 200 145 [iL a xs,uR d] []) (.exit 0) (z0o a xs L na N d r i),zO2 0<=zO2 xs.length∧zO2 xs.length=zO2 xs.length∧zO2 (8*xs.length)<=zO2 281474976710656∧zO2 xs.length<=zO2 9223372036854775807,zO9 false=zO9 s,(n7 (zO10 N L)).length=R.length∧(n7 (zO10 N L)).length<=L.length∧zO10 (n7 (zO10 N L)).length L=R,zO3 uI r=zO3 uI q] :=by kernel_rfl
theorem s1p (a:Bool) (xs:List Int) (d:Int) (x:AX) (s':St) (h:b9 XW4 w1t (z0o a xs (zO6 xs.length 0) xs.length xs.length d 0 (iI.wrap ((xs.length:Int)-1))) x s'):b9 XW4 w1t (n9 XW4 200 145 [iL a xs,uR d] []) x s':=
 l9 h [] (by kernel_rfl) (by kernel_rfl) (by kernel_rfl)
structure ISh where
 m:Nat
 r:Nat
 L:List Int
def z1z (xs:List Int) (d:Nat) (p:ISh):Prop:=
 p.m<=xs.length∧p.L.length=xs.length∧Dg W64 p.L∧val W64 (p.L.drop p.m)=val W64 (xs.drop p.m)/d∧p.r=val W64 (xs.drop p.m)%d
theorem h0z {n:Nat} (h:n < 1099511627776):iI.wrap ((n:Int)-1)=(n:Int)-1:=by
 have:=C8 ((n:Int)-1)
 omega
theorem drop_set {l:List Int} {m:Nat} (h:m < l.length) (x:Int):(l.set m x).drop m=x ::l.drop (m+1):=by
 rw [m0x (by simpa using h)]
 congr 1
 ·simp
 ·apply c1j
  intro j
  rw [Q6,Q6,List.getElem?_set_ne (by omega)]
def shN (xs:List Int) (d:Nat) (p:ISh):ISh:=
 ⟨p.m-1,(p.r*18446744073709551616+(xs.getD (p.m-1) 0).toNat)%d,p.L.set (p.m-1) (((p.r*18446744073709551616+(xs.getD (p.m-1) 0).toNat)/d:Nat):Int)⟩
theorem w0n (a:Bool) {xs:List Int} (hx:Dg W64 xs) (hb:xs.length < 1099511627776) {d:Nat} (hd0:0 < d) (hd:d < W64):
  b9 XW4 w1t (z0o a xs (zO6 xs.length 0) xs.length xs.length d 0 ((xs.length:Int)-1)) (.exit 0) (z0o a xs (itr (shN xs d) xs.length ⟨xs.length,0,zO6 xs.length 0⟩).L xs.length xs.length d ((val W64 xs%d:Nat):Int) (-1))∧
  (itr (shN xs d) xs.length ⟨xs.length,0,zO6 xs.length 0⟩).L.length=xs.length∧n7 (itr (shN xs d) xs.length ⟨xs.length,0,zO6 xs.length 0⟩).L=ws W64 (val W64 xs/d):=by
 have hd':d < 18446744073709551616:=hd
 have step:∀ p:ISh,z1z xs d p->0 < p.m->z1z xs d (shN xs d p)∧r7 XW4 w1t (z0o a xs p.L xs.length xs.length d p.r ((p.m:Int)-1)) .normal (z0o a xs (shN xs d p).L xs.length xs.length d (shN xs d p).r (((shN xs d p).m:Int)-1)):=by
  intro p ⟨h1,h2,h3,h4,h5⟩ hm
  obtain⟨m,hmm⟩:∃ m,p.m=m+1:=⟨p.m-1,by omega⟩
  have hml:m < xs.length:=by omega
  have gx:=hx.get i7 m
  have hr:p.r < d:=by rw [h5]; exact C7 _ hd0
  have hW:((W64:Nat):Int)=18446744073709551616:=rfl
  rw [hW] at gx
  obtain⟨x,hxe⟩:∃ x:Nat,xs.getD m 0=(x:Int):=⟨(xs.getD m 0).toNat,by omega⟩
  have hxl:x < 18446744073709551616:=by omega
  have hq:(p.r*18446744073709551616+x)/d < 18446744073709551616:=by
   rw [F4 hd0]
   have:(p.r+1)*18446744073709551616<=d*18446744073709551616:=s5 _ hr
   rw [p4 18446744073709551616]
   omega
  have e1:d2s p.r x d=(((p.r*18446744073709551616+x)/d:Nat):Int):=by unfold d2s; rw [l4,l4,l4]
  have e2:l2c p.r x d=(((p.r*18446744073709551616+x)%d:Nat):Int):=by unfold l2c; rw [l4,l4,l4]
  have hsh:shN xs d p=⟨m,(p.r*18446744073709551616+x)%d,p.L.set m (((p.r*18446744073709551616+x)/d:Nat):Int)⟩:=by
   unfold shN
   rw [hmm,b0e,hxe,l4]
  rw [hsh]
  refine⟨⟨by simp only; omega,by simp [h2],h3.set ⟨w8 _,by exact_mod_cast hq⟩ _,?_,?_⟩,?_⟩
  ·simp only
   rw [drop_set (by omega),B6 (l:=xs) (m:=m) hml,hxe]
   simp only [val,l4]
   rw [hmm] at h4 h5
   rw [h4]
   have hdm:=eJ (val W64 (xs.drop (m+1))) d
   rw [<- h5] at hdm
   have:x+W64*val W64 (xs.drop (m+1))=(p.r*18446744073709551616+x)+d*(W64*(val W64 (xs.drop (m+1))/d)):=by
    rw [<- hdm]
    have e:(d*(val W64 (xs.drop (m+1))/d)+p.r)/d=val W64 (xs.drop (m+1))/d:=by rw [Nat.mul_add_div hd0,p0e hr,I2]
    rw [e,aY,<- m7,<- m7,p4 W64 d,p4 W64 p.r]
    show _=p.r*W64+x+_
    omega
   rw [this,l0i _ _ hd0]
  ·simp only
   rw [B6 (l:=xs) (m:=m) hml,hxe]
   simp only [val,l4]
   rw [hmm] at h5
   rw [h5]
   show (_*W64+x)%d=_
   rw [Nat.add_mod,Nat.mul_mod,Nat.mod_mod,<- Nat.mul_mod,<- Nat.add_mod,p4 W64,l1n]
  ·have:=m1n a xs p.L xs.length xs.length d p.r (m:Int)
   rw [l4,hxe,e1,e2,h0z (by omega),A7] at this
   have e3:(p.m:Int)-1=(m:Int):=by omega
   rw [e3]
   have bnd:(zO2 0<=(m:Int)∧(m:Int) < zO2 xs.length):=⟨by simp,by simpa using hml⟩
   have hz:xs.getD m (zO2 0)=(x:Int):=hxe
   refine this ⟨by omega,⟨bnd,by omega⟩,⟨⟨by simp,by exact_mod_cast hr⟩,⟨by rw [hz]; simp,by rw [hz]; simp only [w9]; omega⟩,by simp only [w9]; omega⟩,hml,⟨bnd,by omega⟩,by simp,a7⟩
 have all:∀ k,k<=xs.length->z1z xs d (itr (shN xs d) k ⟨xs.length,0,zO6 xs.length 0⟩)∧(itr (shN xs d) k ⟨xs.length,0,zO6 xs.length 0⟩).m=xs.length-k:=by
  intro k
  induction k with
  | zero=>exact fun _=>⟨⟨d5 _,by simp [itr],K0 _ i7 _,by simp [itr,val],by simp [itr,val]⟩,rfl⟩
  | succ k ih=>
   intro hk
   obtain⟨g1,g2⟩:=ih (by omega)
   refine⟨(step _ g1 (by rw [g2]; omega)).1,?_⟩
   show (itr (shN xs d) k _).m-1=_
   rw [g2]
   omega
 obtain⟨g1,g2⟩:=all xs.length (d5 _)
 rw [sW] at g2
 have hout:=b2a a xs (itr (shN xs d) xs.length ⟨xs.length,0,zO6 xs.length 0⟩).L xs.length xs.length d (itr (shN xs d) xs.length ⟨xs.length,0,zO6 xs.length 0⟩).r (-1) ⟨by decide,a7⟩
 have hrun:=v7 (fun k=>z0o a xs (itr (shN xs d) k ⟨xs.length,0,zO6 xs.length 0⟩).L xs.length xs.length d (itr (shN xs d) k ⟨xs.length,0,zO6 xs.length 0⟩).r (((itr (shN xs d) k ⟨xs.length,0,zO6 xs.length 0⟩).m:Int)-1)) xs.length (x:= .exit 0) (by intro e; cases e) (fun k hk=>by
  obtain⟨q1,q2⟩:=all k (by omega)
  exact (step _ q1 (by rw [q2]; omega)).2) (by rw [g2]; exact hout)
 obtain⟨q1,q2,q3,q4,q5⟩:=g1
 rw [g2] at q4 q5
 simp only [sU] at q4 q5
 rw [q5] at hrun
 refine⟨hrun,q2,?_⟩
 rw [G0 A8 q3,q4]
theorem f1f (a:Bool) {A d:Nat} (hA:wl A < 549755813888) (hd0:0 < d) (hd:d < W64):Ev.Sem zO8 J0 145 [iN a A,uR d] [iN false (A/d),uR ((A%d:Nat):Int)] :=by
 have hA:(ws W64 A).length < 549755813888:=hA
 obtain⟨h1,h2,h3⟩:=w0n a (f0b A) (by omega) hd0 hd
 rw [r9] at h1 h3
 have hw:=h0z (n:=(ws W64 A).length) (by omega)
 rw [<- hw] at h1
 obtain⟨q1,q2,q3⟩:=I0 h3
 have ht:zO10 (ws W64 A).length (itr (shN (ws W64 A) d) (ws W64 A).length ⟨(ws W64 A).length,0,zO6 (ws W64 A).length 0⟩).L=(itr (shN (ws W64 A) d) (ws W64 A).length ⟨(ws W64 A).length,0,zO6 (ws W64 A).length 0⟩).L:=aU (by rw [h2]; exact d5 _)
 refine l6 W7 10 _ _ (a2f a false (ws W64 A) (itr (shN (ws W64 A) d) (ws W64 A).length ⟨(ws W64 A).length,0,zO6 (ws W64 A).length 0⟩).L (ws W64 (A/d)) (ws W64 A).length (ws W64 A).length d ((A%d:Nat):Int) (-1) _) ?_
 rw [ht]
 have hi:=s1p a (ws W64 A) d _ _ h1
 refine⟨⟨rfl,by rw [h2]; omega,by rw [h2]; omega⟩,hi,⟨by simp,rfl,by simp only [w9]; omega,by simp only [w9]; omega⟩,rfl,⟨q1,q2,q3⟩,rfl,a7⟩
def d2q:Code:=A3 zO8 90 0
def l1s (a:Bool) (xs L:List Int) (na N:Nat) (n la i:Int):St:=⟨only 58 [(1, .int .i64 n),(2, .pointer (some ⟨13,0,none⟩)),(4, .pointer (some ⟨14,0,none⟩)),(5,slV 15 N),(17,slV 11 na),(18, .int .i64 la),(19, .int .i64 i)],
 [(15, .row Y8 1 (.ints .u64 L) 16),(14, .cells [.bool false, .slice none 0 0] qR),(13, .cells [.bool a,slV 11 na] qR),(11, .ints .u64 xs)],17,[],[],0,none,[],13⟩
def fB (n:Int):Int:=iI.wrap (n.tdiv 64)
def u0p (i n:Int):Int:=iI.wrap (i+fB n)
def x0f (i n:Int):Int:=iI.wrap (u0p i n+1)
def a2l (w n:Int):Int:=uI.wrap (w*2 ^min (n.tmod 64).toNat 64)
def z1g (w n:Int):Int:=(w.fdiv (2 ^min (Int.toNat 1) 64)).fdiv (2 ^min (iI.wrap (63-n.tmod 64)).toNat 64)
def m0d (xs L:List Int) (n i:Int):List Int:=gR L (u0p i n).toNat (bits .or .u64 (L.getD (u0p i n).toNat 0) (a2l (xs.getD i.toNat 0) n))
def k2c (xs L:List Int) (n i:Int):List Int:=gR (m0d xs L n i) (x0f i n).toNat (bits .or .u64 ((m0d xs L n i).getD (x0f i n).toNat 0) (z1g (xs.getD i.toNat 0) n))
section
variable (a:Bool) (xs L:List Int) (na N:Nat) (n la i:Int)
theorem n1l (hJ:((x0f i n).toNat < (m0d xs L n i).length)∧((0:Int)<=x0f i n∧x0f i n < N)∧0 < (m0d xs L n i).length) (h63:0<=iI.wrap (63-n.tmod 64)) (hI:((u0p i n).toNat < L.length)∧((0:Int)<=u0p i n∧u0p i n < N)∧0 < L.length) (h64:0<=n.tmod 64)
  (hx:i.toNat < xs.length∧((0:Int)<=i∧i < na)∧0 < xs.length) (h0:decide (i < la)=true):r7 XW4 d2q (l1s a xs L na N n la i) .normal (l1s a xs (k2c xs L n i) na N n la (iI.wrap (i+1))):=
 d6 (a6 W7 10).1 progOk.mixed [] 200 [true] [] (l:=[(x0f i n).toNat < (m0d xs L n i).length,((0:Int)<=x0f i n∧x0f i n < N)∧0 < (m0d xs L n i).length,0<=iI.wrap (63-n.tmod 64),(x0f i n).toNat < (m0d xs L n i).length,((0:Int)<=x0f i n∧x0f i n < N)∧0 < (m0d xs L n i).length,
  (u0p i n).toNat < L.length,((0:Int)<=u0p i n∧u0p i n < N)∧0 < L.length,0<=n.tmod 64,(u0p i n).toNat < L.length,((0:Int)<=u0p i n∧u0p i n < N)∧0 < L.length,i.toNat < xs.length,((0:Int)<=i∧i < na)∧0 < xs.length,decide (i < la)=true])
  (by kernel_rfl) ⟨hJ.1,hJ.2,h63,hJ.1,hJ.2,hI.1,hI.2,h64,hI.1,hI.2,hx.1,hx.2,h0,a7⟩ (by kernel_rfl) (by kernel_rfl)
theorem x1u (h0:decide (i < la)=false):r7 XW4 d2q (l1s a xs L na N n la i) (.exit 0) (l1s a xs L na N n la i):=
 d6 (a6 W7 10).1 progOk.mixed [] 200 [false] [] (l:=[decide (i < la)=false]) (by kernel_rfl) ⟨h0,a7⟩ (by kernel_rfl) (by kernel_rfl)
end
theorem x1b (a s:Bool) (xs L R:List Int) (na N:Nat) (n m la i:Int):B7 XW4 [N5 (.exit 0) (fun _=>l1s a xs L na N n la i)] 200 90 [iL a xs,iR m] [iL s R] [] =some [0=0∧0+N<=L.length∧L.length < 1099511627776,b9 XW4 d2q (n9 XW4 200 90 [iL a xs,iR m] []) (.exit 0) (l1s a xs L na N n la i),zO2 0<=iI.wrap (iI.wrap (zO2 xs.length+iI.wrap (m.tdiv (zO2 64)))+zO2 1)∧iI.wrap (iI.wrap (zO2 xs.length+iI.wrap (m.tdiv (zO2 64)))+zO2 1)=iI.wrap (iI.wrap (zO2 xs.length+iI.wrap (m.tdiv (zO2 64)))+zO2 1)∧zO2 8*iI.wrap (iI.wrap (zO2 xs.length+iI.wrap (m.tdiv (zO2 64)))+zO2 1)<=zO2 281474976710656∧iI.wrap (iI.wrap (zO2 xs.length+iI.wrap (m.tdiv (zO2 64)))+zO2 1)<=zO2 9223372036854775807,zO9 (a && decide (0 < (n7 (zO10 N L)).length))=zO9 s,(n7 (zO10 N L)).length=R.length∧(n7 (zO10 N L)).length<=L.length∧zO10 (n7 (zO10 N L)).length L=R] :=by kernel_rfl
theorem r1d (a:Bool) (xs:List Int) (n:Int) (x:AX) (s':St) (h:b9 XW4 d2q (l1s a xs (zO6 (iI.wrap (iI.wrap ((xs.length:Int)+fB n)+1)).toNat 0) xs.length (iI.wrap (iI.wrap ((xs.length:Int)+fB n)+1)).toNat n xs.length 0) x s'):
  b9 XW4 d2q (n9 XW4 200 90 [iL a xs,iR n] []) x s':=
 l9 h [] (by kernel_rfl) (by kernel_rfl) (by kernel_rfl)
theorem q1h {w r low:Nat} (hw:w < W64) (hr:r < 64) (hl:low < 2 ^r):
  bits .or .u64 (low:Int) (a2l w ((r:Nat):Int))=((low+w*2 ^r%W64:Nat):Int)∧z1g w ((r:Nat):Int)=((w*2 ^r/W64:Nat):Int)∧w*2 ^r/W64 < 2 ^r∧low+w*2 ^r%W64 < W64:=by
 have hp:(2:Nat) ^64=W64:=by decide
 have hW:W64=18446744073709551616:=rfl
 have hw':w < 18446744073709551616:=hw
 have hrt:((r:Nat):Int).tmod 64=(r:Int):=by
  have:=(nR r 64).symm
  rw [J5 hr] at this
  exact this
 have hpr:=E6 r
 have hA:a2l w r=((w*2 ^r%W64:Nat):Int):=by
  unfold a2l
  rw [hrt,l4,D4 (by omega),O4]
  have:(w:Int)*2 ^r=((w*2 ^r:Nat):Int):=by rw [fM,fN]; rfl
  rw [this,hW]
  omega
 have hsplit:W64=2 ^(64-r)*2 ^r:=by rw [<- m9,show 64-r+r=64 by omega,hp]
 have hhi:w*2 ^r/W64=w/2 ^(64-r):=by rw [hsplit,sF _ _ hpr]
 have hB:z1g w r=((w*2 ^r/W64:Nat):Int):=by
  unfold z1g
  rw [hrt,hhi]
  have e1:iI.wrap (63- (r:Int))=((63-r:Nat):Int):=by
   have:(63:Int)- (r:Int)=((63-r:Nat):Int):=by omega
   rw [this,o9 (by omega)]
  have e2:(w:Int).fdiv (2 ^min (Int.toNat 1) 64)=((w/2:Nat):Int):=by
   rw [show ((2:Int) ^min (Int.toNat 1) 64)=2 by decide,eU _ (by omega)]
   omega
  rw [e2,e1,l4,D4 (by omega)]
  rw [eU _ (by
   have:(0:Int) < 2 ^(63-r):=Int.pow_pos (by decide)
   omega)]
  have e3:((w/2:Nat):Int)/2 ^(63-r)=((w/2/2 ^(63-r):Nat):Int):=by rw [Int.natCast_ediv (w/2),fN]; rfl
  rw [e3,nO,show 64-r=63-r+1 by omega,v6,p4 (2 ^(63-r))]
 have hhl:w*2 ^r/W64 < 2 ^r:=by
  rw [F4 i7,p4 (2 ^r)]
  exact T6 hw hpr
 have hfree:w*2 ^r%W64=w%2 ^(64-r)*2 ^r:=by rw [hsplit,zF]
 have hlt:low+w*2 ^r%W64 < W64:=by
  rw [hfree]
  have:(w%2 ^(64-r)+1)*2 ^r<=2 ^(64-r)*2 ^r:=s5 _ (C7 _ (E6 _))
  rw [x6,rK,<- hsplit] at this
  omega
 refine⟨?_,hB,hhl,hlt⟩
 rw [hA]
 have h1:low < 18446744073709551616:=by omega
 have h2:w*2 ^r%W64 < 18446744073709551616:=by omega
 rw [bits_or_u64_nat _ _ h1 h2,Nat.or_comm,hfree]
 have:=j0i hl (w%2 ^(64-r))
 rw [kP] at this
 rw [<- this,l1n]
def z1e (xs:List Int) (q r i:Nat) (L:List Int):Prop:=
 L.length=xs.length+q+1∧Dg W64 L∧(L.getD (i+q) 0).toNat < 2 ^r∧(∀ t,i+q+1<=t->L.getD t 0=0)∧val W64 L=val W64 xs%W64 ^i*2 ^r*W64 ^q
def aN (xs:List Int) (n:Nat):Nat->List Int
 | 0=>zO6 (xs.length+n/64+1) 0
 | i+1=>k2c xs (aN xs n i) n i
theorem e0v {n:Nat} (hn:n < 1099511627776):fB n=((n/64:Nat):Int):=by
 unfold fB
 have:=(zM n 64).symm
 have e:((n:Nat):Int).tdiv 64=((n/64:Nat):Int):=this
 rw [e,o9 (by omega)]
theorem c0u {i n:Nat} (hn:n < 1099511627776) (hi:i < 1099511627776):u0p i n=((i+n/64:Nat):Int):=by
 unfold u0p
 rw [e0v hn]
 have:=o9 (n:=i+n/64) (by omega)
 simpa using this
theorem u0g {i n:Nat} (hn:n < 1099511627776) (hi:i < 1099511627776):x0f i n=((i+n/64+1:Nat):Int):=by
 unfold x0f
 rw [c0u hn hi]
 have:=o9 (n:=i+n/64+1) (by omega)
 simpa using this
theorem T4 (n:Nat):((n:Nat):Int).tmod 64=((n%64:Nat):Int):=(nR n 64).symm
theorem q1e (w:Int) (n:Nat):a2l w n=a2l w ((n%64:Nat):Int):=by unfold a2l; rw [T4,T4,Nat.mod_mod]
theorem q1z (w:Int) (n:Nat):z1g w n=z1g w ((n%64:Nat):Int):=by unfold z1g; rw [T4,T4,Nat.mod_mod]
theorem n0n {l:List Int} {i:Nat} (h:i < l.length) (x:Int):(l.set i x).getD i 0=x:=by
 rw [mE,List.getElem?_set_self h]
 rfl
theorem yE {xs L:List Int} (hx:Dg W64 xs) {n i:Nat} (hn:n < 1099511627776) (hi:i < xs.length) (hb:xs.length < 549755813888) (h:z1e xs (n/64) (n%64) i L):z1e xs (n/64) (n%64) (i+1) (k2c xs L n i)∧(m0d xs L n i).length=L.length:=by
 obtain⟨h1,h2,h3,h4,h5⟩:=h
 have gx:=F9 i7 hx i
 have hwl:=cJ i7 (val W64 xs) i
 have gl:=h2.get i7 (i+n/64)
 obtain⟨low,hlow⟩:∃ low:Nat,L.getD (i+n/64) 0=(low:Int):=⟨(L.getD (i+n/64) 0).toNat,by omega⟩
 rw [hlow,l4] at h3
 obtain⟨e1,e2,e3,e4⟩:=q1h hwl (C7 n (by decide)) h3
 have hl1:m0d xs L n i=L.set (i+n/64) ((low+dig W64 (val W64 xs) i*2 ^(n%64)%W64:Nat):Int):=by
  unfold m0d
  rw [c0u hn (by omega),A7,l4,l4,hlow,gx,q1e,e1]
 have hlen1:(m0d xs L n i).length=L.length:=by rw [hl1,List.length_set]
 have hz:(m0d xs L n i).getD (i+n/64+1) 0=0:=by rw [hl1,getD_set_ne (by omega)]; exact h4 _ (d5 _)
 have hhW:dig W64 (val W64 xs) i*2 ^(n%64)/W64 < 18446744073709551616:=by
  refine B9 e3 ?_
  have:2 ^(n%64)<=2 ^64:=y9 (by decide) (by omega)
  exact u7 this (by decide)
 have hl2:k2c xs L n i=(m0d xs L n i).set (i+n/64+1) ((dig W64 (val W64 xs) i*2 ^(n%64)/W64:Nat):Int):=by
  unfold k2c
  rw [u0g hn (by omega),A7,l4,l4,hz,gx,q1z,e2]
  have:=bits_or_u64_nat 0 (dig W64 (val W64 xs) i*2 ^(n%64)/W64) (by decide) hhW
  rw [Nat.zero_or] at this
  congr 1
 have hD1:Dg W64 (m0d xs L n i):=by rw [hl1]; exact h2.set ⟨w8 _,by exact_mod_cast e4⟩ _
 refine⟨⟨by rw [hl2,List.length_set,hlen1,h1],by rw [hl2]; exact hD1.set ⟨w8 _,by exact_mod_cast hhW⟩ _,?_,fun t ht=> ?_,?_⟩,hlen1⟩
 ·rw [hl2,show i+1+n/64=i+n/64+1 by omega,n0n (by rw [hlen1]; omega),l4]
  exact e3
 ·rw [hl2,getD_set_ne (by omega),hl1,getD_set_ne (by omega)]
  exact h4 t (by omega)
 ·have v1:=bO (b:=W64) (((low+dig W64 (val W64 xs) i*2 ^(n%64)%W64:Nat):Int)) (show i+n/64 < L.length by omega)
  rw [<- hl1,hlow,l4,l4,x6] at v1
  have v2:=bO (b:=W64) (((dig W64 (val W64 xs) i*2 ^(n%64)/W64:Nat):Int)) (show i+n/64+1 < (m0d xs L n i).length by omega)
  rw [<- hl2,hz,l4] at v2
  simp only [i0o,K6,I2] at v2
  rw [v2,gO]
  have e5:dig W64 (val W64 xs) i*2 ^(n%64)%W64*W64 ^(i+n/64)+dig W64 (val W64 xs) i*2 ^(n%64)/W64*W64 ^(i+n/64+1)=dig W64 (val W64 xs) i*2 ^(n%64)*W64 ^(i+n/64):=by
   rw [v6,<- m7,X6,<- x6]
   congr 1
   have:=k0l (dig W64 (val W64 xs) i*2 ^(n%64)) W64
   rw [p4 W64] at this
   exact this
  have e6:(val W64 xs%W64 ^i+dig W64 (val W64 xs) i*W64 ^i)*2 ^(n%64)*W64 ^(n/64)=val W64 xs%W64 ^i*2 ^(n%64)*W64 ^(n/64)+dig W64 (val W64 xs) i*2 ^(n%64)*W64 ^(i+n/64):=by
   rw [x6,x6,m9]
   congr 1
   rw [X6 (dig W64 (val W64 xs) i),m7]
  rw [e6,<- h5]
  omega
theorem sV {xs:List Int} (hx:Dg W64 xs) {n:Nat} (hn:n < 1099511627776) (hb:xs.length < 549755813888):∀ i,i<=xs.length->z1e xs (n/64) (n%64) i (aN xs n i)
 | 0,_=>⟨by simp [aN],K0 _ i7 _,by
   show ((zO6 _ (0:Int)).getD _ 0).toNat < _
   rw [X9]
   exact E6 _,fun t _=>X9 _ _,by simp [aN,W3,Nat.mod_one]⟩
 | i+1,hi=>(yE hx hn (by omega) hb (sV hx hn hb i (by omega))).1
theorem q1m (a:Bool) {A n:Nat} (hA:wl A < 549755813888) (hn:n < 549755813888):Ev.Sem zO8 J0 90 [iN a A,iR (n:Int)] [iN (a && decide (0 < A*2 ^n)) (A*2 ^n)] :=by
 have hA:(ws W64 A).length < 549755813888:=hA
 have hx:=f0b A
 have vA:=r9 A
 have hpow:2 ^(n%64)*W64 ^(n/64)=2 ^n:=by
  have:W64=2 ^64:=by decide
  rw [this,<- Nat.pow_mul,<- m9,k0l]
 have hR:n7 (aN (ws W64 A) n (ws W64 A).length)=ws W64 (A*2 ^n)∧(aN (ws W64 A) n (ws W64 A).length).length=(ws W64 A).length+n/64+1:=by
  obtain⟨h1,h2,h3,h4,h5⟩:=sV hx (n:=n) (by omega) hA (ws W64 A).length (d5 _)
  refine⟨?_,h1⟩
  rw [G0 A8 h2,h5,J5 (O3 i7 hx),vA,m7,hpow]
 have hQ:=e0v (n:=n) (by omega)
 have hN:iI.wrap (iI.wrap (((ws W64 A).length:Int)+fB n)+1)=(((ws W64 A).length+n/64+1:Nat):Int):=by
  rw [hQ]
  have e1:((ws W64 A).length:Int)+((n/64:Nat):Int)=(((ws W64 A).length+n/64:Nat):Int):=by omega
  rw [e1,o9 (by omega)]
  have e2:(((ws W64 A).length+n/64:Nat):Int)+1=(((ws W64 A).length+n/64+1:Nat):Int):=by omega
  rw [e2,o9 (by omega)]
 have hL:b9 XW4 d2q (l1s a (ws W64 A) (zO6 ((ws W64 A).length+n/64+1) 0) (ws W64 A).length ((ws W64 A).length+n/64+1) n (ws W64 A).length 0) (.exit 0)
   (l1s a (ws W64 A) (aN (ws W64 A) n (ws W64 A).length) (ws W64 A).length ((ws W64 A).length+n/64+1) n (ws W64 A).length (ws W64 A).length):=by
  generalize ws W64 A=xs at*
  refine v7 (fun k=>l1s a xs (aN xs n k) xs.length (xs.length+n/64+1) n xs.length k) xs.length (by intro e; cases e) (fun k hk=> ?_) (x1u a xs _ xs.length (xs.length+n/64+1) n xs.length xs.length (by simp))
  have hg:=sV hx (n:=n) (by omega) hA k (by omega)
  obtain⟨_,hl1⟩:=yE hx (by omega) hk hA hg
  have hlen:=hg.1
  have:=n1l a xs (aN xs n k) xs.length (xs.length+n/64+1) n xs.length k
  rw [c0u (by omega) (by omega),u0g (by omega) (by omega),T4,F5 (n:=k) (by omega),hl1] at this
  have h63:(0:Int)<=iI.wrap (63- ((n%64:Nat):Int)):=by
   have e:(63:Int)- ((n%64:Nat):Int)=((63-n%64:Nat):Int):=by omega
   rw [e,o9 (by omega)]
   omega
  exact this ⟨by rw [l4]; omega,⟨by omega,by omega⟩,by omega⟩ h63 ⟨by rw [l4]; omega,⟨by omega,by omega⟩,by omega⟩ (by omega) ⟨by simpa using hk,⟨by omega,by omega⟩,by omega⟩ (by simpa using hk)
 have hN':iI.wrap (iI.wrap (zO2 (ws W64 A).length+iI.wrap ((n:Int).tdiv (zO2 64)))+zO2 1)=(((ws W64 A).length+n/64+1:Nat):Int):=hN
 obtain⟨q1,q2,q3⟩:=I0 hR.1
 have ht:zO10 ((ws W64 A).length+n/64+1) (aN (ws W64 A) n (ws W64 A).length)=aN (ws W64 A) n (ws W64 A).length:=aU (by rw [hR.2]; exact d5 _)
 refine l6 W7 10 _ _ (x1b a _ (ws W64 A) (aN (ws W64 A) n (ws W64 A).length) (ws W64 (A*2 ^n)) (ws W64 A).length ((ws W64 A).length+n/64+1) n n (ws W64 A).length (ws W64 A).length) ?_
 rw [ht,hN']
 refine⟨⟨rfl,by rw [hR.2]; omega,by rw [hR.2]; omega⟩,r1d a _ n _ _ (by rw [hN]; exact hL),⟨by simp only [w9]; omega,rfl,by simp only [w9]; omega,by simp only [w9]; omega⟩,?_,⟨q1,q2,q3⟩,a7⟩
 rw [hR.1]
 have:=wl_pos (m:=A*2 ^n)
 congr 2
 simp only [zzA167]
 exact this
def l1u:Code:=A3 zO8 197 0
def l0z (a:Bool) (xs L:List Int) (na N:Nat) (n i:Int):St:=⟨only 52 [(1, .int .i64 n),(2, .pointer (some ⟨13,0,none⟩)),(4, .pointer (some ⟨14,0,none⟩)),(5,slV 15 N),(6, .int .i64 i)],
 [(15, .row Y8 1 (.ints .u64 L) 16),(14, .cells [.bool false, .slice none 0 0] qR),(13, .cells [.bool a,slV 11 na] qR),(11, .ints .u64 xs)],17,[],[],0,none,[],13⟩
def t1t (x n:Int):Int:=x.fdiv (2 ^min (n.tmod 64).toNat 64)
def k2g (y n:Int):Int:=uI.wrap (uI.wrap (y*2 ^min (Int.toNat 1) 64)*2 ^min (iI.wrap (63-n.tmod 64)).toNat 64)
def l2d (xs:List Int) (n i:Int):Int:=bits .or .u64 (t1t (xs.getD i.toNat 0) n) (k2g (xs.getD (iI.wrap (i+1)).toNat 0) n)
abbrev inX (xs:List Int) (na:Nat) (i:Int):Prop:=i.toNat < xs.length∧((0:Int)<=i∧i < na)∧0 < xs.length
def d2p (a:Bool) (xs:List Int) (n:Int):St:=n9 XW4 200 197 [iL a xs,iR n] []
section
variable (a:Bool) (xs L:List Int) (na N:Nat) (n i:Int)
theorem n1b (hN:N*1=L.length∧(N+1)*8<=140737488355328∧N+1<=9223372036854775807) (h63:0<=iI.wrap (63-n.tmod 64)) (h2:inX xs na (iI.wrap (i+1))) (h3:decide (iI.wrap (i+1) < na)=true) (h64:0<=n.tmod 64) (h1:inX xs na i) (h0:decide (i < na)=true):
  r7 XW4 l1u (l0z a xs L na N n i) .normal (l0z a xs (L++[l2d xs n i]) na (N+1) n (iI.wrap (i+1))):=
 d6 (a6 W7 10).1 progOk.mixed [] 200 [true,true] [(15,18),(16,19)] (l:=[N*1=L.length∧(N+1)*8<=140737488355328∧N+1<=9223372036854775807,0<=iI.wrap (63-n.tmod 64),(iI.wrap (i+1)).toNat < xs.length,((0:Int)<=iI.wrap (i+1)∧iI.wrap (i+1) < na)∧0 < xs.length,
  decide (iI.wrap (i+1) < na)=true,0<=n.tmod 64,i.toNat < xs.length,((0:Int)<=i∧i < na)∧0 < xs.length,decide (i < na)=true]) (by kernel_rfl) ⟨hN,h63,h2.1,h2.2,h3,h64,h1.1,h1.2,h0,a7⟩ (by kernel_rfl) (by kernel_rfl)
theorem y1n (hN:N*1=L.length∧(N+1)*8<=140737488355328∧N+1<=9223372036854775807) (h3:decide (iI.wrap (i+1) < na)=false) (h64:0<=n.tmod 64) (h1:inX xs na i) (h0:decide (i < na)=true):
  r7 XW4 l1u (l0z a xs L na N n i) .normal (l0z a xs (L++[t1t (xs.getD i.toNat 0) n]) na (N+1) n (iI.wrap (i+1))):=
 d6 (a6 W7 10).1 progOk.mixed [] 200 [true,false] [(15,18),(16,19)] (l:=[N*1=L.length∧(N+1)*8<=140737488355328∧N+1<=9223372036854775807,decide (iI.wrap (i+1) < na)=false,0<=n.tmod 64,i.toNat < xs.length,((0:Int)<=i∧i < na)∧0 < xs.length,decide (i < na)=true])
  (by kernel_rfl) ⟨hN,h3,h64,h1.1,h1.2,h0,a7⟩ (by kernel_rfl) (by kernel_rfl)
theorem z1c (h0:decide (i < na)=false):r7 XW4 l1u (l0z a xs L na N n i) (.exit 0) (l0z a xs L na N n i):=
 d6 (a6 W7 10).1 progOk.mixed [] 200 [false] [] (l:=[decide (i < na)=false]) (by kernel_rfl) ⟨h0,a7⟩ (by kernel_rfl) (by kernel_rfl)
theorem v0t (h63:0<=iI.wrap (63-n.tmod 64)) (h2:inX xs xs.length (iI.wrap (fB n+1))) (h3:decide (iI.wrap (fB n+1) < xs.length)=true) (h64:0<=n.tmod 64) (h1:inX xs xs.length (fB n)) (h0:decide (fB n < xs.length)=true):
  r7 XW4 l1u (d2p a xs n) .normal (l0z a xs [l2d xs n (fB n)] xs.length 1 n (iI.wrap (fB n+1))):=
 d6 (a6 W7 10).1 progOk.mixed [] 200 [true,true] [(15,16),(16,17)] (l:=[8<=140737488355328∧1<=9223372036854775807,0<=iI.wrap (63-n.tmod 64),(iI.wrap (fB n+1)).toNat < xs.length,((0:Int)<=iI.wrap (fB n+1)∧iI.wrap (fB n+1) < xs.length)∧0 < xs.length,
  decide (iI.wrap (fB n+1) < xs.length)=true,0<=n.tmod 64,(fB n).toNat < xs.length,((0:Int)<=fB n∧fB n < xs.length)∧0 < xs.length,decide (fB n < xs.length)=true]) (by kernel_rfl) ⟨by omega,h63,h2.1,h2.2,h3,h64,h1.1,h1.2,h0,a7⟩ (by kernel_rfl) (by kernel_rfl)
theorem w0l (h3:decide (iI.wrap (fB n+1) < xs.length)=false) (h64:0<=n.tmod 64) (h1:inX xs xs.length (fB n)) (h0:decide (fB n < xs.length)=true):
  r7 XW4 l1u (d2p a xs n) .normal (l0z a xs [t1t (xs.getD (fB n).toNat 0) n] xs.length 1 n (iI.wrap (fB n+1))):=
 d6 (a6 W7 10).1 progOk.mixed [] 200 [true,false] [(15,16),(16,17)] (l:=[8<=140737488355328∧1<=9223372036854775807,decide (iI.wrap (fB n+1) < xs.length)=false,0<=n.tmod 64,(fB n).toNat < xs.length,((0:Int)<=fB n∧fB n < xs.length)∧0 < xs.length,decide (fB n < xs.length)=true])
  (by kernel_rfl) ⟨by omega,h3,h64,h1.1,h1.2,h0,a7⟩ (by kernel_rfl) (by kernel_rfl)
end
theorem v1x (a s:Bool) (xs L R:List Int) (na N:Nat) (n m i:Int):B7 XW4 [N5 (.exit 0) (fun _=>l0z a xs L na N n i)] 200 197 [iL a xs,iR m] [iL s R] [] =some [0=0∧0+N<=L.length∧L.length < 1099511627776,b9 XW4 l1u (d2p a xs m) (.exit 0) (l0z a xs L na N n i),zO9 (a && decide (0 < (n7 (zO10 N L)).length))=zO9 s,(n7 (zO10 N L)).length=R.length∧(n7 (zO10 N L)).length<=L.length∧zO10 (n7 (zO10 N L)).length L=R] :=by kernel_rfl
theorem q1l (a s:Bool) (xs R:List Int) (m:Int):B7 XW4 [] 200 197 [iL a xs,iR m] [iL s R] [false] =some [decide (iI.wrap (m.tdiv (zO2 64)) < zO2 xs.length)=false,zO9 false=zO9 s,R=[]] :=by kernel_rfl
theorem q1f {A r k:Nat} (hr:r < 64):t1t (dig W64 A k) ((r:Nat):Int)=((dig W64 A k/2 ^r:Nat):Int)∧bits .or .u64 (t1t (dig W64 A k) ((r:Nat):Int)) (k2g (dig W64 A (k+1)) ((r:Nat):Int))=(dig W64 (A/2 ^r) k:Int)∧
  (dig W64 A (k+1)=0->dig W64 A k/2 ^r=dig W64 (A/2 ^r) k):=by
 have hp:(2:Nat) ^64=W64:=by decide
 have hx:=cJ i7 A k
 have hy:=cJ i7 A (k+1)
 have hrt:((r:Nat):Int).tmod 64=(r:Int):=by
  have:=T4 r
  rw [J5 hr] at this
  exact this
 have hpr:=E6 r
 have hsplit:W64=2 ^r*2 ^(64-r):=by rw [<- m9,show r+(64-r)=64 by omega,hp]
 have hA:∀ x:Nat,t1t x r=((x/2 ^r:Nat):Int):=fun x=>by
  unfold t1t
  rw [hrt,l4,D4 (by omega),eU _ (by
   have:(0:Int) < 2 ^r:=Int.pow_pos (by decide)
   omega),Int.natCast_ediv,fN]
  rfl
 have hB:∀ y:Nat,y < W64->k2g y r=((y*2 ^(64-r)%W64:Nat):Int):=fun y hy=>by
  unfold k2g
  rw [hrt]
  have e1:iI.wrap (63- (r:Int))=((63-r:Nat):Int):=by
   have:(63:Int)- (r:Int)=((63-r:Nat):Int):=by omega
   rw [this,o9 (by omega)]
  have e2:uI.wrap ((y:Int)*2 ^min (Int.toNat 1) 64)=((y*2%W64:Nat):Int):=by
   rw [show ((2:Int) ^min (Int.toNat 1) 64)=2 by decide,O4]
   show _=((y*2%18446744073709551616:Nat):Int)
   omega
  rw [e2,e1,l4,D4 (by omega),O4]
  have e3:((y*2%W64:Nat):Int)*2 ^(63-r)=((y*2%W64*2 ^(63-r):Nat):Int):=by rw [fM,fN]; rfl
  rw [e3]
  have e4:y*2%W64*2 ^(63-r)%W64=y*2 ^(64-r)%W64:=by
   rw [Nat.mod_mul_mod,m7,<- Nat.pow_succ',show (63-r).succ=64-r by omega]
  rw [<- e4]
  show _=((_%18446744073709551616:Nat):Int)
  omega
 have hdig:dig W64 (A/2 ^r) k=dig W64 A k/2 ^r+dig W64 A (k+1)*2 ^(64-r)%W64:=by
  have hlow:dig W64 A k/2 ^r < 2 ^(64-r):=by
   rw [F4 hpr,p4,<- hsplit]
   exact hx
  have hm:dig W64 A (k+1)*2 ^(64-r)%W64=dig W64 A (k+1)%2 ^r*2 ^(64-r):=by rw [hsplit,zF]
  have hlt:dig W64 A k/2 ^r+dig W64 A (k+1)*2 ^(64-r)%W64 < W64:=by
   rw [hm]
   have:(dig W64 A (k+1)%2 ^r+1)*2 ^(64-r)<=2 ^r*2 ^(64-r):=s5 _ (C7 _ hpr)
   rw [x6,rK,<- hsplit] at this
   omega
  have e1:A/2 ^r/W64 ^k=(dig W64 A k+W64*(A/W64 ^(k+1)))/2 ^r:=by
   rw [<- z1o,nO,nO,p4]
  have e2:(dig W64 A k+W64*(A/W64 ^(k+1)))/2 ^r=dig W64 A k/2 ^r+2 ^(64-r)*(A/W64 ^(k+1)):=by
   rw [hsplit,m7,l0i _ _ hpr]
  have e3:2 ^(64-r)*(A/W64 ^(k+1))%W64=dig W64 A (k+1)*2 ^(64-r)%W64:=by
   unfold dig
   rw [Nat.mod_mul_mod,p4]
  show A/2 ^r/W64 ^k%W64=_
  rw [e1,e2,Nat.add_mod,e3,J5 (show dig W64 A k/2 ^r < W64 from A5 (nV _ _) hx),J5 hlt]
 refine⟨hA _,?_,fun h0=>by rw [hdig,h0]; simp⟩
 have hlow:dig W64 A k/2 ^r < 2 ^(64-r):=by
  rw [F4 hpr,p4,<- hsplit]
  exact hx
 have hm:dig W64 A (k+1)*2 ^(64-r)%W64=dig W64 A (k+1)%2 ^r*2 ^(64-r):=by rw [hsplit,zF]
 have b1:dig W64 A k/2 ^r < 18446744073709551616:=A5 (nV _ _) hx
 have b2:dig W64 A (k+1)*2 ^(64-r)%W64 < 18446744073709551616:=C7 _ i7
 rw [hA,hB _ hy,bits_or_u64_nat _ _ b1 b2,hdig,Nat.or_comm,hm]
 have:=j0i hlow (dig W64 A (k+1)%2 ^r)
 rw [kP] at this
 rw [<- this,l1n]
theorem b2g {n m i:Nat} (h:m < W64 ^n):(dl W64 n m).getD i 0=(dig W64 m i:Int):=by
 rw [F9 i7 (b1y i7 n m),i0u,J5 h]
theorem c1o (a:Bool) {A n:Nat} (hA:wl A < 549755813888) (hn:n < 64):Ev.Sem zO8 J0 197 [iN a A,iR (n:Int)] [iN (a && decide (0 < A/2 ^n)) (A/2 ^n)] :=by
 have hA:(ws W64 A).length < 549755813888:=hA
 have hQ:fB (n:Int)=0:=by
  rw [e0v (by omega)]
  omega
 have hlt:A/2 ^n < W64 ^(ws W64 A).length:=A5 (nV _ _) (i0a A)
 by_cases h0:A=0
 ·subst h0
  refine l6 W7 10 _ _ (q1l a _ (ws W64 0) (ws W64 (0/2 ^n)) n) ⟨?_,?_,?_,a7⟩
  ·show decide (fB n < (0:Int))=false
   rw [hQ]
   rfl
  ·simp
  ·rw [Nat.zero_div,c0d]
 have hpos:0 < (ws W64 A).length:=wl_pos.2 (by omega)
 have h64:(0:Int)<=((n:Nat):Int).tmod 64:=by rw [T4]; omega
 have h63:(0:Int)<=iI.wrap (63- ((n:Nat):Int).tmod 64):=by
  rw [T4]
  have e:(63:Int)- ((n%64:Nat):Int)=((63-n%64:Nat):Int):=by omega
  rw [e,o9 (by omega)]
  omega
 have hget:∀ i,(ws W64 A).getD i 0=(dig W64 A i:Int):=fun i=>b1i A8 A i
 have hlast:∀ i,(ws W64 A).length<=i->dig W64 A i=0:=fun i hi=>by
  have:=hget i
  rw [Z5 hi] at this
  omega
 have word:∀ k,k < (ws W64 A).length->(k+1 < (ws W64 A).length->l2d (ws W64 A) n k=(dig W64 (A/2 ^n) k:Int))∧(¬ k+1 < (ws W64 A).length->t1t ((ws W64 A).getD k 0) n=(dig W64 (A/2 ^n) k:Int)):=by
  intro k hk
  obtain⟨w1,w2,w3⟩:=q1f (A:=A) (r:=n) (k:=k) hn
  refine⟨fun h=> ?_,fun h=> ?_⟩
  ·unfold l2d
   rw [F5 (by omega),l4,l4,hget,hget]
   exact w2
  ·rw [hget,w1,w3 (hlast _ (by omega))]
 have T:∀ k,k < (ws W64 A).length->(dl W64 (ws W64 A).length (A/2 ^n)).take (k+1)=(dl W64 (ws W64 A).length (A/2 ^n)).take k++[(dig W64 (A/2 ^n) k:Int)] :=fun k hk=>by
  rw [tH (by rw [p9]; exact hk),b2g hlt]
 have inx:∀ k:Nat,k < (ws W64 A).length->inX (ws W64 A) (ws W64 A).length (k:Int):=fun k hk=>⟨by simpa using hk,⟨by omega,by omega⟩,hpos⟩
 have step:∀ k,0 < k->k < (ws W64 A).length->r7 XW4 l1u (l0z a (ws W64 A) ((dl W64 (ws W64 A).length (A/2 ^n)).take k) (ws W64 A).length k n k) .normal (l0z a (ws W64 A) ((dl W64 (ws W64 A).length (A/2 ^n)).take (k+1)) (ws W64 A).length (k+1) n ((k+1:Nat):Int)):=by
  intro k _ hk
  have hlen:k*1=((dl W64 (ws W64 A).length (A/2 ^n)).take k).length:=by rw [D5,p9]; omega
  have hw:=F5 (n:=k) (by omega)
  rw [T k hk]
  by_cases h2:k+1 < (ws W64 A).length
  ·have:=n1b a (ws W64 A) ((dl W64 (ws W64 A).length (A/2 ^n)).take k) (ws W64 A).length k n k ⟨hlen,by omega,by omega⟩ h63 (by rw [hw]; exact inx _ h2) (by rw [hw]; simp only [V9]; omega) h64 (inx k hk) (by simpa using hk)
   rw [hw,(word k hk).1 h2] at this
   exact this
  ·have:=y1n a (ws W64 A) ((dl W64 (ws W64 A).length (A/2 ^n)).take k) (ws W64 A).length k n k ⟨hlen,by omega,by omega⟩ (by rw [hw]; simp only [i0y]; omega) h64 (inx k hk) (by simpa using hk)
   rw [hw,l4,(word k hk).2 h2] at this
   exact this
 have first:r7 XW4 l1u (d2p a (ws W64 A) n) .normal (l0z a (ws W64 A) ((dl W64 (ws W64 A).length (A/2 ^n)).take 1) (ws W64 A).length 1 n 1):=by
  have t1:=T 0 hpos
  rw [List.take_zero,nH] at t1
  rw [t1]
  have hw:iI.wrap (0+1)=1:=by decide
  by_cases h2:0+1 < (ws W64 A).length
  ·have:=v0t a (ws W64 A) n h63
   rw [hQ,hw] at this
   have w:=(word 0 hpos).1 h2
   have e0:((0:Nat):Int)=0:=rfl
   rw [e0] at w
   rw [w] at this
   exact this (inx 1 h2) (by simp only [V9]; omega) h64 (inx 0 hpos) (by simp only [V9]; omega)
  ·have:=w0l a (ws W64 A) n
   rw [hQ,hw] at this
   have w:=(word 0 hpos).2 h2
   have e0:(0:Int).toNat=0:=rfl
   rw [e0,w] at this
   exact this (by simp only [i0y]; omega) h64 (inx 0 hpos) (by simp only [V9]; omega)
 have hL:b9 XW4 l1u (d2p a (ws W64 A) n) (.exit 0) (l0z a (ws W64 A) (dl W64 (ws W64 A).length (A/2 ^n)) (ws W64 A).length (ws W64 A).length n (ws W64 A).length):=by
  have hend:(dl W64 (ws W64 A).length (A/2 ^n)).take (ws W64 A).length=dl W64 (ws W64 A).length (A/2 ^n):=aU (by rw [p9]; exact d5 _)
  have:=v7 (X:=XW4) (c:=l1u) (fun k=>match k with
    | 0=>d2p a (ws W64 A) n
    | k+1=>l0z a (ws W64 A) ((dl W64 (ws W64 A).length (A/2 ^n)).take (k+1)) (ws W64 A).length (k+1) n ((k+1:Nat):Int)) (ws W64 A).length (x:= .exit 0) (by intro e; cases e) (s':=l0z a (ws W64 A) (dl W64 (ws W64 A).length (A/2 ^n)) (ws W64 A).length (ws W64 A).length n (ws W64 A).length) (fun k hk=> ?_) ?_
  ·exact this
  ·cases k with
   | zero=>exact first
   | succ k=>exact step (k+1) (by omega) hk
  ·obtain⟨m,hm⟩:∃ m,(ws W64 A).length=m+1:=⟨(ws W64 A).length-1,by omega⟩
   have:=z1c a (ws W64 A) (dl W64 (ws W64 A).length (A/2 ^n)) (ws W64 A).length (ws W64 A).length n (ws W64 A).length (by simp)
   rw [hm] at this hend ⊢
   simp only
   rw [hend]
   exact this
 obtain⟨q1,q2,q3⟩:=I0 (c0m hlt)
 have ht:zO10 (ws W64 A).length (dl W64 (ws W64 A).length (A/2 ^n))=dl W64 (ws W64 A).length (A/2 ^n):=aU (by rw [p9]; exact d5 _)
 refine l6 W7 10 _ _ (v1x a _ (ws W64 A) (dl W64 (ws W64 A).length (A/2 ^n)) (ws W64 (A/2 ^n)) (ws W64 A).length (ws W64 A).length n n (ws W64 A).length) ?_
 rw [ht]
 refine⟨⟨rfl,by rw [p9]; omega,by rw [p9]; omega⟩,hL,?_,⟨q1,q2,q3⟩,a7⟩
 rw [c0m hlt]
 have:=wl_pos (m:=A/2 ^n)
 congr 2
 simp only [zzA167]
 exact this
end Go.Proofs.YtbdaebagmmmijaaGreatDoor
