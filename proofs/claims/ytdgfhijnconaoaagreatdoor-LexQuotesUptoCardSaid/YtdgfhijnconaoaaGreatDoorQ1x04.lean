/-
 LexQuotes: a quoted text is one word, which says it, unless it is too long or no right UTF-8; cut off it ends too early; texts of ordinary size (a part of the proof).
-/
import Derived.Test.YtdgfhijnconaoaaGreatDoorQ1x03
import Derived.Shelf.Pu.Clone
import Init
import Derived.Shelf.Bits.Mul64
set_option maxRecDepth 1000000
namespace Go.Proofs.YtdgfhijnconaoaaGreatDoor.Ev
open Go Go.RowKit
noncomputable section
inductive Cel where
 | v (x:Value)
 | s (e:TypeId) (k:IntKind) (xs:List Int)
 | o (k:IntKind) (ys:List Int) (off n:Nat)
 | f (g:Nat→Value) (m sz off:Nat)
inductive Arg where
 | c (x:Cel)
 | a (l:List Cel)
def Arg.cells:Arg→List Cel
 | .c x=>[x]
 | .a l=>l
def cellsA:List Arg→List Cel
 | [] =>[]
 | a ::r=>a.cells++cellsA r
def Arg.pack:Arg→List Value→Value
 | .c _,us=>match us with
  | u ::_=>u
  | [] =>undef
 | .a _,us=> .agg ⟨us⟩
def packL:List Arg→List Value→List Value
 | [],_=>[]
 | a ::r,us=>a.pack (us.take a.cells.length) ::packL r (us.drop a.cells.length)
inductive All2 {α β:Type} (R:α→β→Prop):List α→List β→Prop
 | nil:All2 R [] []
 | cons {x y xs ys} :R x y→All2 R xs ys→All2 R (x ::xs) (y ::ys)
theorem All2.length {α β:Type} {R:α→β→Prop} {l:List α} {m:List β} (h:All2 R l m):l.length=m.length:=by
 induction h with
 | nil=>rfl
 | cons _ _ ih=>simp [ih]
theorem All2.append {α β:Type} {R:α→β→Prop} {l l':List α} {m m':List β} (h:All2 R l m) (k:All2 R l' m'):All2 R (l++l') (m++m'):=by
 induction h with
 | nil=>exact k
 | cons a _ ih=>exact .cons a ih
def CelIs (w:World):Cel→Value→Prop
 | .v x,u=>u=x∧pureV x=true
 | .s _ k xs,u=>(u= .slice none 0 0∧xs=[])∨∃ g cap cs t fr,u= .slice (some ⟨g,0,none⟩) xs.length cap∧w.heap[g]? =some (.cells cs t fr)∧∀ i,i < xs.length→cs[i]? =some (.int k (xs.getD i 0))
 | .o k ys off n,u=>(u= .slice none 0 0∧ys=[] ∧off=0∧n=0)∨∃ g cap cs t fr,u= .slice (some ⟨g,off,none⟩) n cap∧w.heap[g]? =some (.cells cs t fr)∧∀ i,i < ys.length→cs[i]? =some (.int k (ys.getD i 0))
 | .f g m sz off,u=>(u= .slice none 0 0∧m=0)∨∃ b cap cs t fr,u= .slice (some ⟨b,off,none⟩) m cap∧w.heap[b]? =some (.cells cs t fr)∧∀ i,i < m→(g i).cells.toList.length=sz∧pureV (g i)=true∧∀ (j:Nat) (v:Value),(g i).cells.toList[j]? =some v→cs[off+i*sz+j]? =some v
def CelNew (w w':World):Cel→Value→Prop
 | .v x,u=>u=x∧pureV x=true
 | .s e k xs,u=>(u= .slice none 0 0∧xs=[])∨∃ g cap cur,u= .slice (some ⟨g,0,none⟩) xs.length cap∧w.heap.size≤g∧RowAt w' g cur e∧cap≤maxLen∧cur.size=cap∧xs.length≤cap∧cur.toList.take xs.length=xs.map (Value.int k)
 | .o _ _ _ _,_=>False
 | .f _ _ _ _,_=>False
def blk:Value→Option Nat
 | .slice (some a) _ _=>some a.block
 | _=>none
def Sem (P:Program) (J:Inv P) (f:FuncId) (az rs:List Arg):Prop:=
 Enters P f∧∀ (w:World) (us:List Value),J.I w→All2 (CelIs w) (cellsA az) us→
  Calls P f ⟨packL az us⟩ w fun e w'=>∃ us',e= .returned (oneOf (packL rs us'))∧Below w.heap.size w w'∧All2 (CelNew w w') (cellsA rs) us'∧(us'.filterMap blk).Nodup
def encA (n:Nat):List Cel→List Value×Heap×Nat
 | [] =>([],[],n)
 | .v x ::r=>match encA n r with
  | (vs,h,m)=>(x ::vs,h,m)
 | .s _ k xs ::r=>match encA (n+2) r with
  | (vs,h,m)=>(.slice (some ⟨n,0,some (n+1)⟩) xs.length 0 ::vs,(n, .ints k xs) ::h,m)
 | .o k ys off l ::r=>match encA (n+2) r with
  | (vs,h,m)=>(.slice (some ⟨n,off,some (n+1)⟩) l 0 ::vs,(n, .ints k ys) ::h,m)
 | .f g m sz off ::r=>match encA (n+2) r with
  | (vs,h,k)=>(.slice (some ⟨n,off,some (n+1)⟩) m 0 ::vs,(n, .fam g m sz off) ::h,k)
theorem encA_le:∀ (cs:List Cel) (n:Nat),n≤(encA n cs).2.2
 | [],n=>Nat.le_refl _
 | .v x ::r,n=>encA_le r n
 | .s _ k xs ::r,n=>by
  have:=encA_le r (n+2)
  show n≤(encA (n+2) r).2.2
  omega
 | .o k ys off l ::r,n=>by
  have:=encA_le r (n+2)
  show n≤(encA (n+2) r).2.2
  omega
 | .f g m sz off ::r,n=>by
  have:=encA_le r (n+2)
  show n≤(encA (n+2) r).2.2
  omega
theorem encA_low:∀ (cs:List Cel) (n:Nat) (i:Nat) (o:AObj),(encA n cs).2.1.get i=some o→n≤i∧i < (encA n cs).2.2∧o.rw=false
 | [],n,i,o,h=>by cases h
 | .v x ::r,n,i,o,h=>encA_low r n i o h
 | .s _ k xs ::r,n,i,o,h=>by
  change Heap.get ((n, .ints k xs) ::(encA (n+2) r).2.1) i=some o at h
  rw [Heap.get_cons] at h
  have hle:=encA_le r (n+2)
  show n≤i∧i < (encA (n+2) r).2.2∧o.rw=false
  split at h
  ·rename_i e
   cases h
   exact⟨by omega,by omega,rfl⟩
  ·have:=encA_low r (n+2) i o h
   exact⟨by omega,by omega,this.2.2⟩
 | .o k xs off l ::r,n,i,o,h=>by
  change Heap.get ((n, .ints k xs) ::(encA (n+2) r).2.1) i=some o at h
  rw [Heap.get_cons] at h
  have hle:=encA_le r (n+2)
  show n≤i∧i < (encA (n+2) r).2.2∧o.rw=false
  split at h
  ·rename_i e
   cases h
   exact⟨by omega,by omega,rfl⟩
  ·have:=encA_low r (n+2) i o h
   exact⟨by omega,by omega,this.2.2⟩
 | .f g m sz off ::r,n,i,o,h=>by
  change Heap.get ((n, .fam g m sz off) ::(encA (n+2) r).2.1) i=some o at h
  rw [Heap.get_cons] at h
  have hle:=encA_le r (n+2)
  show n≤i∧i < (encA (n+2) r).2.2∧o.rw=false
  split at h
  ·rename_i e
   cases h
   exact⟨by omega,by omega,rfl⟩
  ·have:=encA_low r (n+2) i o h
   exact⟨by omega,by omega,this.2.2⟩
theorem encA_ok (B:Nat) (M:Nat→Prop) (w:World):∀ (cs:List Cel) (us:List Value),All2 (CelIs w) cs us→∀ (n:Nat) (ρ0:Num),∃ ρ,Agree n ρ0 ρ∧∀ ρ',Agree (encA n cs).2.2 ρ ρ'→
  us=rvL ρ' (encA n cs).1∧∀ i o,(encA n cs).2.1.get i=some o→ORep B M ρ' w (ρ' i) o:=by
 intro cs us h
 induction h with
 | nil=>exact fun n ρ0=>⟨ρ0,Agree.refl _ _,fun ρ' _=>⟨rfl,fun i o h=>by cases h⟩⟩
 | @cons c u cs us hc _ ih=>
  intro n ρ0
  cases c with
  | v x=>
   obtain⟨rfl,hp⟩:=hc
   obtain⟨ρ,ha,hρ⟩:=ih n ρ0
   refine⟨ρ,ha,fun ρ' ha'=> ?_⟩
   obtain⟨h1,h2⟩:=hρ ρ' ha'
   refine⟨?_,h2⟩
   show u ::us=rvL ρ' (u ::(encA n cs).1)
   simp only [rvL,rv_pure ρ' u hp,← h1]
  | s e k xs=>
   have key:∀ (ob:Option Nat) (cap:Nat),(u=match ob with | none=> .slice none xs.length 0 | some g=> .slice (some ⟨g,0,none⟩) xs.length cap)→(∀ ρ',ORep B M ρ' w ob (.ints k xs))→∃ ρ,Agree n ρ0 ρ∧∀ ρ',Agree (encA n (.s e k xs ::cs)).2.2 ρ ρ'→
     u ::us=rvL ρ' (encA n (.s e k xs ::cs)).1∧∀ i o,(encA n (.s e k xs ::cs)).2.1.get i=some o→ORep B M ρ' w (ρ' i) o:=by
    intro ob cap hu ho
    obtain⟨ρ,ha,hρ⟩:=ih (n+2) (fun i=>if i=n then ob else if i=n+1 then some cap else ρ0 i)
    refine⟨ρ,fun i hi=> ?_,fun ρ' ha'=> ?_⟩
    ·rw [ha i (by omega)]
     show (if i=n then ob else if i=n+1 then some cap else ρ0 i)=ρ0 i
     rw [if_neg (by omega),if_neg (by omega)]
    ·obtain⟨h1,h2⟩:=hρ ρ' ha'
     have hle:=encA_le cs (n+2)
     have hn:ρ' n=ob:=by
      rw [ha' n (by show n < (encA (n+2) cs).2.2; omega),ha n (by omega)]
      simp
     have hk:ρ' (n+1)=some cap:=by
      rw [ha' (n+1) (by show n+1 < (encA (n+2) cs).2.2; omega),ha (n+1) (by omega)]
      simp
     refine⟨?_,fun i o hi=> ?_⟩
     ·show u ::us=rvL ρ' (.slice (some ⟨n,0,some (n+1)⟩) xs.length 0 ::(encA (n+2) cs).1)
      rw [rvL,← h1,hu]
      cases ob with
      | none=>simp [rv,rSl,hn]
      | some g=>simp [rv,rSl,hn,hk]
     ·change Heap.get ((n, .ints k xs) ::(encA (n+2) cs).2.1) i=some o at hi
      rw [Heap.get_cons] at hi
      split at hi
      ·rename_i e'
       subst e'
       cases hi
       rw [hn]
       exact ho ρ'
      ·exact h2 i o hi
   rcases hc with ⟨rfl,rfl⟩ | ⟨g,cap,cs',t,fr,rfl,h2,h3⟩
   ·exact key none 0 rfl (fun ρ'=> .inl ⟨rfl,rfl⟩)
   ·exact key (some g) cap rfl (fun ρ'=> .inr ⟨g,cs',t,fr,rfl,h2,h3⟩)
  | o k xs off l=>
   have key:∀ (ob:Option Nat) (cap:Nat),(u=match ob with | none=> .slice none l 0 | some g=> .slice (some ⟨g,off,none⟩) l cap)→(∀ ρ',ORep B M ρ' w ob (.ints k xs))→∃ ρ,Agree n ρ0 ρ∧∀ ρ',Agree (encA n (.o k xs off l ::cs)).2.2 ρ ρ'→
     u ::us=rvL ρ' (encA n (.o k xs off l ::cs)).1∧∀ i o,(encA n (.o k xs off l ::cs)).2.1.get i=some o→ORep B M ρ' w (ρ' i) o:=by
    intro ob cap hu ho
    obtain⟨ρ,ha,hρ⟩:=ih (n+2) (fun i=>if i=n then ob else if i=n+1 then some cap else ρ0 i)
    refine⟨ρ,fun i hi=> ?_,fun ρ' ha'=> ?_⟩
    ·rw [ha i (by omega)]
     show (if i=n then ob else if i=n+1 then some cap else ρ0 i)=ρ0 i
     rw [if_neg (by omega),if_neg (by omega)]
    ·obtain⟨h1,h2⟩:=hρ ρ' ha'
     have hle:=encA_le cs (n+2)
     have hn:ρ' n=ob:=by
      rw [ha' n (by show n < (encA (n+2) cs).2.2; omega),ha n (by omega)]
      simp
     have hk:ρ' (n+1)=some cap:=by
      rw [ha' (n+1) (by show n+1 < (encA (n+2) cs).2.2; omega),ha (n+1) (by omega)]
      simp
     refine⟨?_,fun i o hi=> ?_⟩
     ·show u ::us=rvL ρ' (.slice (some ⟨n,off,some (n+1)⟩) l 0 ::(encA (n+2) cs).1)
      rw [rvL,← h1,hu]
      cases ob with
      | none=>simp [rv,rSl,hn]
      | some g=>simp [rv,rSl,hn,hk]
     ·change Heap.get ((n, .ints k xs) ::(encA (n+2) cs).2.1) i=some o at hi
      rw [Heap.get_cons] at hi
      split at hi
      ·rename_i e'
       subst e'
       cases hi
       rw [hn]
       exact ho ρ'
      ·exact h2 i o hi
   rcases hc with ⟨rfl,rfl,rfl,rfl⟩ | ⟨g,cap,cs',t,fr,rfl,h2,h3⟩
   ·exact key none 0 rfl (fun ρ'=> .inl ⟨rfl,rfl⟩)
   ·exact key (some g) cap rfl (fun ρ'=> .inr ⟨g,cs',t,fr,rfl,h2,h3⟩)
  | f g m sz off=>
   have key:∀ (ob:Option Nat) (cap:Nat),(u=match ob with | none=> .slice none m 0 | some b=> .slice (some ⟨b,off,none⟩) m cap)→(∀ ρ',ORep B M ρ' w ob (.fam g m sz off))→∃ ρ,Agree n ρ0 ρ∧∀ ρ',Agree (encA n (.f g m sz off ::cs)).2.2 ρ ρ'→
     u ::us=rvL ρ' (encA n (.f g m sz off ::cs)).1∧∀ i o,(encA n (.f g m sz off ::cs)).2.1.get i=some o→ORep B M ρ' w (ρ' i) o:=by
    intro ob cap hu ho
    obtain⟨ρ,ha,hρ⟩:=ih (n+2) (fun i=>if i=n then ob else if i=n+1 then some cap else ρ0 i)
    refine⟨ρ,fun i hi=> ?_,fun ρ' ha'=> ?_⟩
    ·rw [ha i (by omega)]
     show (if i=n then ob else if i=n+1 then some cap else ρ0 i)=ρ0 i
     rw [if_neg (by omega),if_neg (by omega)]
    ·obtain⟨h1,h2⟩:=hρ ρ' ha'
     have hle:=encA_le cs (n+2)
     have hn:ρ' n=ob:=by
      rw [ha' n (by show n < (encA (n+2) cs).2.2; omega),ha n (by omega)]
      simp
     have hk:ρ' (n+1)=some cap:=by
      rw [ha' (n+1) (by show n+1 < (encA (n+2) cs).2.2; omega),ha (n+1) (by omega)]
      simp
     refine⟨?_,fun i o hi=> ?_⟩
     ·show u ::us=rvL ρ' (.slice (some ⟨n,off,some (n+1)⟩) m 0 ::(encA (n+2) cs).1)
      rw [rvL,← h1,hu]
      cases ob with
      | none=>simp [rv,rSl,hn]
      | some b=>simp [rv,rSl,hn,hk]
     ·change Heap.get ((n, .fam g m sz off) ::(encA (n+2) cs).2.1) i=some o at hi
      rw [Heap.get_cons] at hi
      split at hi
      ·rename_i e'
       subst e'
       cases hi
       rw [hn]
       exact ho ρ'
      ·exact h2 i o hi
   rcases hc with ⟨rfl,rfl⟩ | ⟨b,cap,cs',t,fr,rfl,h2,h3⟩
   ·exact key none 0 rfl (fun ρ'=> .inl ⟨rfl,rfl⟩)
   ·exact key (some b) cap rfl (fun ρ'=> .inr ⟨b,cs',t,fr,rfl,h2,h3⟩)
def Arg.unpack:Arg→Value→Option (List Value)
 | .c _,v=>some [v]
 | .a l, .agg ⟨us⟩=>match Nat.beq us.length l.length with
  | true=>some us
  | false=>none
 | .a _,_=>none
def unpackL:List Arg→List Value→Option (List Value)
 | [],[] =>some []
 | a ::r,v ::vs=>match a.unpack v,unpackL r vs with
  | some us,some us'=>some (us++us')
  | _,_=>none
 | _,_=>none
def unpackV (rs:List Arg) (v:Value):Option (List Value):=
 match rs with
 | [a] =>a.unpack v
 | rs=>match v with
  | .tuple ⟨vs⟩=>unpackL rs vs
  | _=>none
theorem unpack_pack {a:Arg} {v:Value} {us:List Value} (h:a.unpack v=some us) (ρ:Num):us.length=a.cells.length∧rv ρ v=a.pack (rvL ρ us):=by
 unfold Arg.unpack at h
 split at h
 ·cases h; exact⟨rfl,rfl⟩
 ·split at h
  case h_2=>cases h
  rename_i hl
  cases h
  exact⟨Nat.eq_of_beq_eq_true hl,by simp [rv,rvA,Arg.pack]⟩
 ·cases h
theorem rvL_length (ρ:Num) (l:List Value):(rvL ρ l).length=l.length:=by rw [rvL_eq,List.length_map]
theorem rvL_app (ρ:Num) (a b:List Value):rvL ρ (a++b)=rvL ρ a++rvL ρ b:=by rw [rvL_eq,rvL_eq,rvL_eq,List.map_append]
theorem unpackL_pack (ρ:Num):∀ {rs:List Arg} {vs us:List Value},unpackL rs vs=some us→us.length=(cellsA rs).length∧rvL ρ vs=packL rs (rvL ρ us)
 | [],[],us,h=>by cases h; exact⟨rfl,rfl⟩
 | a ::r,v ::vs,us,h=>by
  unfold unpackL at h
  split at h
  case h_2=>cases h
  rename_i u1 u2 h1 h2
  cases h
  obtain⟨g1,g2⟩:=unpack_pack h1 ρ
  obtain⟨g3,g4⟩:=unpackL_pack ρ h2
  refine⟨by simp [cellsA,g1,g3],?_⟩
  simp only [rvL,packL]
  rw [rvL_app,← g1,← rvL_length ρ u1,List.take_left,List.drop_left,g2,g4]
 | [],_ ::_,us,h=>by cases h
 | _ ::_,[],us,h=>by cases h
theorem unpackV_pack {rs:List Arg} {v:Value} {us:List Value} (h:unpackV rs v=some us) (ρ:Num):us.length=(cellsA rs).length∧rv ρ v=oneOf (packL rs (rvL ρ us)):=by
 unfold unpackV at h
 split at h
 ·rename_i a
  obtain⟨h1,h2⟩:=unpack_pack h ρ
  refine⟨by simp [cellsA,h1],?_⟩
  rw [h2]
  simp only [packL,oneOf]
  rw [← h1,← rvL_length ρ us,List.take_length]
 ·rename_i hne
  split at h
  case h_2=>cases h
  rename_i vs
  obtain⟨h1,h2⟩:=unpackL_pack ρ h
  refine⟨h1,?_⟩
  simp only [rv,rvA,h2]
  cases rs with
  | nil=>rfl
  | cons a r=>
   cases r with
   | nil=>exact absurd rfl (hne a)
   | cons a2 r2=>rfl
def decC (h:Heap):Cel→Value→Option (List Nat×List Prop)
 | .v x,u=>match pureV u with
  | true=>some ([],[u=x])
  | false=>none
 | .s e k xs,u=>match u with
  | .slice none 0 0=>some ([],[xs=[]])
  | .slice (some ⟨id,0,some kk⟩) n 0=>match h.get id with
   | some (.row e' sz (.ints k' ys) kk')=>match Nat.beq e' e && Nat.beq sz 1 && Nat.beq kk kk' && decide (k'=k) with
    | true=>some ([id],[n=xs.length∧n≤ys.length∧ys.take n=xs])
    | false=>none
   | _=>none
  | .slice (some ⟨id,0,none⟩) n c=>match h.get id with
   | some (.cells cs e')=>match Nat.beq e' e,toInts k cs with
    | true,some l=>some ([id],[n=xs.length∧n≤l.length∧l.take n=xs∧c=l.length∧c≤maxLen])
    | _,_=>none
   | _=>none
  | _=>none
 | .o _ _ _ _,_=>none
 | .f _ _ _ _,_=>none
def decL (h:Heap):List Cel→List Value→Option (List Nat×List Prop)
 | [],[] =>some ([],[])
 | c ::cs,u ::us=>match decC h c u,decL h cs us with
  | some (i,l),some (i',l')=>some (i++i',l++l')
  | _,_=>none
 | _,_=>none
theorem decC_sound {P:Program} {w w':World} {ρ:Num} {h:Heap} (hS:Sim P w.heap.size (fun _=>False) ρ h w') {c:Cel} {u:Value} {ids:List Nat} {l:List Prop} (hd:decC h c u=some (ids,l)) (hl:allP l):
  CelNew w w' c (rv ρ u)∧∀ g,blk (rv ρ u)=some g→∃ i∈ids,(∃ o,h.get i=some o∧o.rw=true)∧ρ i=some g:=by
 cases c with
 | v x=>
  simp only [decC] at hd
  split at hd
  case h_2=>cases hd
  rename_i hp
  cases hd
  obtain rfl:u=x:=hl.1
  refine⟨⟨rv_pure ρ u hp,hp⟩,fun g hg=> ?_⟩
  rw [rv_pure ρ u hp] at hg
  unfold blk at hg
  split at hg
  ·simp [pureV] at hp
  ·cases hg
 | s e k xs=>
  simp only [decC] at hd
  split at hd
  ·cases hd
   obtain rfl:xs=[] :=hl.1
   exact⟨.inl ⟨by simp [rv],rfl⟩,fun g hg=>by simp [rv,blk] at hg⟩
  ·rename_i id kk n
   split at hd
   case h_2=>cases hd
   rename_i e' sz k' ys kk' hget
   split at hd
   case h_2=>cases hd
   rename_i hc
   simp only [Bool.and_eq_true,Nat.beq_eq,decide_eq_true_eq] at hc
   obtain⟨⟨⟨rfl,rfl⟩,rfl⟩,rfl⟩:=hc
   cases hd
   obtain⟨h1,h2,h3⟩:=hl.1
   rcases hS.obj id _ hget with ⟨g1,g2⟩ | ⟨b,cap,cur,g1,g2,g3,g4,g5,g6,g7,g8⟩
   ·have hy:ys=[] :=by simpa [Row.list] using g2
    subst hy
    have hn:n=0:=by simpa using h2
    subst hn
    have hx:xs=[] :=by simpa using h3.symm
    subst hx
    exact⟨.inl ⟨by simp [rv,rSl,g1],rfl⟩,fun g hg=>by simp [rv,rSl,g1,blk] at hg⟩
   ·have e1:rvL ρ (ys.map (Value.int k'))=ys.map (Value.int k'):=rvL_pure _ _ (by rw [pureL_eq,List.all_eq_true]; intro x hx; obtain⟨y,_,rfl⟩:=List.mem_map.1 hx; rfl)
    simp only [Row.list,List.length_map,Nat.mul_one] at g6 g7 g8
    refine⟨.inr ⟨b,cap,cur,by simp [rv,rSl,g1,g2,h1],g4.elim (fun h=>h) False.elim,g3,g5,g6,by omega,?_⟩,fun g hg=>⟨id,List.mem_singleton.2 rfl,⟨_,hget,rfl⟩,?_⟩⟩
    ·rw [← h1,← h3,List.map_take,← e1,← g8,List.take_take,Nat.min_eq_left h2]
    ·simp [rv,rSl,g1,blk] at hg
     rw [g1,hg]
  ·rename_i id n c
   split at hd
   case h_2=>cases hd
   rename_i cs e' hget
   split at hd
   case h_2=>cases hd
   rename_i l' he ht
   have he:=Nat.eq_of_beq_eq_true he
   subst he
   cases hd
   obtain⟨h1,h2,h3,h4,h5⟩:=hl.1
   obtain⟨b,g1,g2,g3⟩:=hS.obj id _ hget
   have g3:w.heap.size≤b:=g3.elim (fun h=>h) (fun h=>h.elim)
   have hcs:=toInts_spec ht
   have e1:rvL ρ cs=l'.map (Value.int k):=by rw [hcs]; exact rvL_pure _ _ (by rw [pureL_eq,List.all_eq_true]; intro x hx; obtain⟨y,_,rfl⟩:=List.mem_map.1 hx; rfl)
   rw [e1] at g2
   refine⟨.inr ⟨b,c,_,by simp [rv,rSl,rAddr,g1,h1],g3, .of g2,h5,by simp [h4],by omega,?_⟩,fun g hg=>⟨id,List.mem_singleton.2 rfl,⟨_,hget,rfl⟩,?_⟩⟩
   ·rw [← h1,← h3]
    simp [List.map_take]
   ·simp [rv,rSl,rAddr,g1,blk] at hg
    rw [g1,hg]
  ·cases hd
 | o k ys off n=>cases hd
 | f g m sz off=>cases hd
def nodupN:List Nat→Bool
 | [] =>true
 | i ::r=> !(memN i r) && nodupN r
theorem memN_mem {i:Nat} :∀ {l:List Nat},memN i l=false→i ∉ l
 | [],_,h=>by cases h
 | j ::r,h,hm=>by
  simp only [memN,Bool.or_eq_false_iff] at h
  rcases List.mem_cons.1 hm with rfl | hm
  ·simp at h
  ·exact memN_mem h.2 hm
theorem nodupN_sound:∀ {l:List Nat},nodupN l=true→l.Nodup
 | [],_=>List.nodup_nil
 | i ::r,h=>by
  simp only [nodupN,Bool.and_eq_true,Bool.not_eq_true'] at h
  exact List.nodup_cons.2 ⟨memN_mem h.1,nodupN_sound h.2⟩
theorem decL_sound {P:Program} {w w':World} {ρ:Num} {h:Heap} (hS:Sim P w.heap.size (fun _=>False) ρ h w'):∀ {cs:List Cel} {us:List Value} {ids:List Nat} {l:List Prop},decL h cs us=some (ids,l)→allP l→ids.Nodup→
  All2 (CelNew w w') cs (rvL ρ us)∧((rvL ρ us).filterMap blk).Nodup∧∀ g∈(rvL ρ us).filterMap blk,∃ i∈ids,(∃ o,h.get i=some o∧o.rw=true)∧ρ i=some g
 | [],[],ids,l,hd,_,_=>by cases hd; exact⟨.nil,List.nodup_nil,fun g hg=>by cases hg⟩
 | c ::cs,u ::us,ids,l,hd,hl,hn=>by
  unfold decL at hd
  split at hd
  case h_2=>cases hd
  rename_i i1 l1 i2 l2 h1 h2
  cases hd
  obtain⟨hl1,hl2⟩:=(allP_append _ _).1 hl
  obtain⟨n1,n2,n3⟩:=List.nodup_append.1 hn
  obtain⟨a1,a2⟩:=decC_sound hS h1 hl1
  obtain⟨b1,b2,b3⟩:=decL_sound hS h2 hl2 n2
  refine⟨.cons a1 b1,?_,?_⟩
  ·simp only [rvL,List.filterMap_cons]
   split
   ·exact b2
   ·rename_i g hg
    refine List.nodup_cons.2 ⟨fun hm=> ?_,b2⟩
    obtain⟨i,hi,⟨o,ho,hr⟩,hb⟩:=a2 g hg
    obtain⟨j,hj,⟨o',ho',hr'⟩,hb'⟩:=b3 g hm
    exact hS.inj i j o o' ho hr ho' (n3 i hi j hj) (by rw [hb]; simp) (hb.trans hb'.symm)
  ·intro g hg
   simp only [rvL,List.filterMap_cons] at hg
   split at hg
   ·obtain⟨i,hi,hr⟩:=b3 g hg
    exact⟨i,List.mem_append_right _ hi,hr⟩
   ·rename_i g' hg'
    rcases List.mem_cons.1 hg with rfl | hg
    ·obtain⟨i,hi,hr⟩:=a2 g hg'
     exact⟨i,List.mem_append_left _ hi,hr⟩
    ·obtain⟨i,hi,hr⟩:=b3 g hg
     exact⟨i,List.mem_append_right _ hi,hr⟩
 | [],_ ::_,_,_,hd,_,_=>by cases hd
 | _ ::_,[],_,_,hd,_,_=>by cases hd
def semR (X:Cx) (L:Hints) (fuel f:Nat) (az rs:List Arg) (ds:List Bool):Option (List Prop):=
 match encA X.P.globals.size (cellsA az) with
 | (us,H,n)=>match evFn X L fuel f (packL az us) H n ds with
  | none=>none
  | some r=>match unpackV rs r.v with
   | none=>none
   | some us'=>match decL r.h (cellsA rs) us' with
    | none=>none
    | some (ids,l)=>match nodupN ids with
     | true=>some (r.obs++l)
     | false=>none
theorem packL_rv (ρ:Num):∀ (az:List Arg) (us:List Value),us.length=(cellsA az).length→rvL ρ (packL az us)=packL az (rvL ρ us)
 | [],us,_=>rfl
 | a ::r,us,h=>by
  simp only [packL,rvL]
  have h:us.length=a.cells.length+(cellsA r).length:=by simpa [cellsA] using h
  rw [packL_rv ρ r (us.drop a.cells.length) (by rw [List.length_drop]; omega)]
  have e1:rvL ρ (us.drop a.cells.length)=(rvL ρ us).drop a.cells.length:=by rw [rvL_eq,rvL_eq,List.map_drop]
  have e2:rvL ρ (us.take a.cells.length)=(rvL ρ us).take a.cells.length:=by rw [rvL_eq,rvL_eq,List.map_take]
  rw [e1,← e2]
  congr 1
  cases a with
  | c x=>
   cases us with
   | nil=>simp [Arg.cells] at h; omega
   | cons u us=>simp [Arg.pack,Arg.cells,rvL]
  | a l=>simp [Arg.pack,rv,rvA]
theorem sem_ofX {X:Cx} (hX:CxOk X X.J) (hng:ProgOk X.P) (L:Hints) (fuel:Nat) (ds:List Bool) {f:FuncId} {az rs:List Arg} {l:List Prop} (h:semR X L fuel f az rs ds=some l) (hl:allP l):Sem X.P X.J f az rs:=by
 unfold semR at h
 simp only at h
 split at h
 case h_1=>cases h
 rename_i r hev
 split at h
 case h_1=>cases h
 rename_i us' hun
 split at h
 case h_1=>cases h
 rename_i ids l' hdec
 split at h
 case h_2=>cases h
 rename_i hnd
 cases h
 obtain⟨hl1,hl2⟩:=(allP_append _ _).1 hl
 refine⟨evFn_enters hng hev,fun w us hI hA=> ?_⟩
 obtain⟨ρ,ha,hρ⟩:=encA_ok w.heap.size (fun _=>False) w (cellsA az) us hA X.P.globals.size (fun i=>some i)
 have hp:Par X.P w.heap.size (fun _=>False):=⟨X.J.room w hI,fun _ _ h=>h⟩
 have hlen:(encA X.P.globals.size (cellsA az)).1.length=(cellsA az).length:=by
  have:=congrArg List.length (hρ ρ (Agree.refl _ _)).1
  rw [rvL_length] at this
  rw [← this,hA.length]
 have hS:∀ ρ',Agree (encA X.P.globals.size (cellsA az)).2.2 ρ ρ'→Sim X.P w.heap.size (fun _=>False) ρ' (encA X.P.globals.size (cellsA az)).2.1 w∧packL az us=rvL ρ' (packL az (encA X.P.globals.size (cellsA az)).1):=by
  intro ρ' ha'
  obtain⟨h1,h2⟩:=hρ ρ' ha'
  have hle:=encA_le (cellsA az) X.P.globals.size
  refine⟨⟨fun g hg=>by rw [ha' g (by omega),ha g hg],h2,fun i j o o' hi hr _ _=> ?_⟩,?_⟩
  ·rw [(encA_low _ _ _ _ hi).2.2] at hr
   cases hr
  ·rw [packL_rv ρ' az _ hlen,← h1]
 refine (evFn_sound hX hng.mixed hev hl1 hp (Nat.le_refl _) hI hS).2.mono fun e w' ⟨ρ1,v,_,he,hk,hfin⟩=> ?_
 obtain⟨hv,hsim⟩:=hfin ρ1 (Agree.refl _ _)
 obtain⟨_,hpack⟩:=unpackV_pack hun ρ1
 obtain⟨d1,d2,_⟩:=decL_sound hsim hdec hl2 (nodupN_sound hnd)
 exact⟨rvL ρ1 us',by rw [he,hv,hpack],hk.below,d1,d2⟩
theorem sem_of {b:Base} (hb:BaseOk b) (k:Nat) (L:Hints) (ds:List Bool) {f:FuncId} {az rs:List Arg} {l:List Prop} (h:semR (b.cx k) L b.fuel f az rs ds=some l) (hl:allP l):Sem b.P b.J f az rs:=by
 obtain⟨hX,hng⟩:=Base.cx_ok hb k
 have:=sem_ofX hX hng L b.fuel ds h hl
 cases k <;> exact this
inductive CS where
 | v
 | s (e:TypeId) (k:IntKind)
 | o (k:IntKind)
inductive AS where
 | c (x:CS)
 | a (l:List CS)
def slOf (H:Heap) (k:IntKind) (x:Value):Option (List Int×List Prop):=
 match x with
 | .slice none 0 0=>some ([],[])
 | .slice (some ⟨id,0,some _⟩) n 0=>match H.get id with
  | some (.ints k' xs)=>match decide (k'=k) with
   | true=>some (xs,[n=xs.length])
   | false=>none
  | some (.row _ sz (.ints k' xs) _)=>match decide (k'=k) && Nat.beq sz 1 with
   | true=>some (xs.take n,[n≤xs.length])
   | false=>none
  | _=>none
 | .slice (some ⟨id,0,none⟩) n _=>match H.get id with
  | some (.cells cs _)=>match toInts k cs with
   | some l=>some (l.take n,[n≤l.length])
   | none=>none
  | _=>none
 | _=>none
def parC (H:Heap):CS→Value→Option (Cel×List Prop)
 | .v,x=>match pureV x with
  | true=>some (.v x,[])
  | false=>none
 | .s e k,x=>match slOf H k x with
  | some (xs,l)=>some (.s e k xs,l)
  | none=>none
 | .o k,x=>match x with
  | .slice (some ⟨id,off,some _⟩) n _=>match H.get id with
   | some (.row _ sz (.ints k' ys) _)=>match decide (k'=k) && Nat.beq sz 1 with
    | true=>some (.o k ys off n,[off+n≤ys.length])
    | false=>none
   | _=>none
  | _=>none
def parCs (H:Heap):List CS→List Value→Option (List Cel×List Prop)
 | [],[] =>some ([],[])
 | s ::ss,x ::xs=>match parC H s x,parCs H ss xs with
  | some (c,l),some (cs,l')=>some (c ::cs,l++l')
  | _,_=>none
 | _,_=>none
def parA (H:Heap):AS→Value→Option (Arg×List Prop)
 | .c s,x=>match parC H s x with
  | some (c,l)=>some (.c c,l)
  | none=>none
 | .a ss, .agg ⟨xs⟩=>match parCs H ss xs with
  | some (cs,l)=>some (.a cs,l)
  | none=>none
 | .a _,_=>none
def parL (H:Heap):List AS→List Value→Option (List Arg×List Prop)
 | [],[] =>some ([],[])
 | s ::ss,x ::xs=>match parA H s x,parL H ss xs with
  | some (c,l),some (cs,l')=>some (c ::cs,l++l')
  | _,_=>none
 | _,_=>none
theorem ints_rv (ρ:Num) (k:IntKind) (xs:List Int):rvL ρ (xs.map (Value.int k))=xs.map (Value.int k):=
 rvL_pure _ _ (by rw [pureL_eq,List.all_eq_true]; intro x hx; obtain⟨y,_,rfl⟩:=List.mem_map.1 hx; rfl)
theorem getD_take {xs:List Int} {n i:Nat} (h:i < n) (k:IntKind) (hi:i < xs.length):(xs.map (Value.int k))[i]? =some (.int k ((xs.take n).getD i 0)):=by
 simp [List.getD,h,hi]
theorem slOf_sound {P:Program} {B:Nat} {M:Nat→Prop} {ρ:Num} {H:Heap} {w:World} (hS:Sim P B M ρ H w) {e:TypeId} {k:IntKind} {x:Value} {xs:List Int} {l:List Prop} (h:slOf H k x=some (xs,l)) (hl:allP l):CelIs w (.s e k xs) (rv ρ x):=by
 unfold slOf at h
 split at h
 ·cases h
  exact .inl ⟨by simp [rv],rfl⟩
 ·rename_i id kk n
  split at h
  ·rename_i k' ys hget
   split at h
   case h_2=>cases h
   rename_i hk
   have hk:=of_decide_eq_true hk
   subst hk
   cases h
   obtain rfl:n=xs.length:=hl.1
   rcases hS.obj id _ hget with ⟨g1,g2⟩ | ⟨b,cs,t,fr,g1,g2,g3⟩
   ·subst g2
    exact .inl ⟨by simp [rv,rSl,g1],rfl⟩
   ·obtain⟨c',q⟩:=rSl_at (off:=0) (sp:=some kk) (n:=xs.length) (c:=0) g1
    exact .inr ⟨b,c',cs,t,fr,q,g2,g3⟩
  ·rename_i e' sz k' ys kk' hget
   split at h
   case h_2=>cases h
   rename_i hc
   simp only [Bool.and_eq_true,Nat.beq_eq,decide_eq_true_eq] at hc
   obtain⟨rfl,rfl⟩:=hc
   cases h
   have hn:n≤ys.length:=hl.1
   rcases hS.obj id _ hget with ⟨g1,g2⟩ | ⟨b,cap,cur,g1,g2,⟨fr,g3,_⟩,g4,g5,g6,g7,g8⟩
   ·have hy:ys=[] :=by simpa [Row.list] using g2
    subst hy
    have hn:n=0:=by simpa using hn
    subst hn
    exact .inl ⟨by simp [rv,rSl,g1],rfl⟩
   ·obtain⟨c',q⟩:=rSl_at (off:=0) (sp:=some kk) (n:=n) (c:=0) g1
    have hlen:(ys.take n).length=n:=by rw [List.length_take,Nat.min_eq_left hn]
    refine .inr ⟨b,c',cur,e',fr,by rw [hlen]; exact q,g3,fun i hi=> ?_⟩
    rw [hlen] at hi
    simp only [Row.list] at g8
    rw [ints_rv,List.length_map] at g8
    rw [← getD_take hi k' (by omega),← g8,List.getElem?_take,if_pos (by omega)]
    simp
  ·cases h
 ·rename_i id n c
  split at h
  case h_2=>cases h
  rename_i cs e' hget
  split at h
  case h_2=>cases h
  rename_i l' ht
  cases h
  have hn:n≤l'.length:=hl.1
  obtain⟨b,g1,g2,_⟩:=hS.obj id _ hget
  have hcs:=toInts_spec ht
  subst hcs
  rw [ints_rv] at g2
  have hlen:(l'.take n).length=n:=by rw [List.length_take,Nat.min_eq_left hn]
  refine .inr ⟨b,c,_,e',(0,0),by rw [hlen]; simp [rv,rSl,rAddr,g1],g2,fun i hi=> ?_⟩
  rw [hlen] at hi
  rw [← getD_take hi k (by omega)]
  simp
 ·cases h
theorem parC_sound {P:Program} {B:Nat} {M:Nat→Prop} {ρ:Num} {H:Heap} {w:World} (hS:Sim P B M ρ H w) {sh:CS} {x:Value} {c:Cel} {l:List Prop} (h:parC H sh x=some (c,l)) (hl:allP l):CelIs w c (rv ρ x):=by
 unfold parC at h
 split at h
 ·split at h
  case h_2=>cases h
  rename_i hp
  cases h
  exact⟨rv_pure ρ x hp,hp⟩
 ·split at h
  case h_2=>cases h
  rename_i hs
  cases h
  exact slOf_sound hS hs hl
 ·split at h
  case h_2=>cases h
  rename_i id off kk n c
  split at h
  case h_2=>cases h
  rename_i e' sz k' ys kk' hget
  split at h
  case h_2=>cases h
  rename_i hc
  simp only [Bool.and_eq_true,Nat.beq_eq,decide_eq_true_eq] at hc
  obtain⟨rfl,rfl⟩:=hc
  cases h
  have hn:off+n≤ys.length:=hl.1
  rcases hS.obj id _ hget with ⟨g1,g2⟩ | ⟨b,cap,cur,g1,g2,⟨fr,g3,_⟩,g4,g5,g6,g7,g8⟩
  ·have hy:ys=[] :=by simpa [Row.list] using g2
   subst hy
   simp only [List.length_nil] at hn
   obtain rfl:off=0:=by omega
   obtain rfl:n=0:=by omega
   exact .inl ⟨by simp [rv,rSl,g1],rfl,rfl,rfl⟩
  ·obtain⟨c',q⟩:=rSl_at (off:=off) (sp:=some kk) (n:=n) (c:=c) g1
   refine .inr ⟨b,c',cur,e',fr,q,g3,fun i hi=> ?_⟩
   simp only [Row.list] at g8
   rw [ints_rv,List.length_map] at g8
   have:=getD_take (xs:=ys) (n:=ys.length) hi k' hi
   rw [List.take_length,← g8,List.getElem?_take,if_pos hi] at this
   simpa using this
theorem parCs_sound {P:Program} {B:Nat} {M:Nat→Prop} {ρ:Num} {H:Heap} {w:World} (hS:Sim P B M ρ H w):∀ {sh:List CS} {xs:List Value} {cs:List Cel} {l:List Prop},parCs H sh xs=some (cs,l)→allP l→All2 (CelIs w) cs (rvL ρ xs)
 | [],[],cs,l,h,_=>by cases h; exact .nil
 | s ::ss,x ::xs,cs,l,h,hl=>by
  unfold parCs at h
  split at h
  case h_2=>cases h
  rename_i c l1 cs' l2 h1 h2
  cases h
  obtain⟨hl1,hl2⟩:=(allP_append _ _).1 hl
  exact .cons (parC_sound hS h1 hl1) (parCs_sound hS h2 hl2)
 | [],_ ::_,_,_,h,_=>by cases h
 | _ ::_,[],_,_,h,_=>by cases h
theorem parL_sound {P:Program} {B:Nat} {M:Nat→Prop} {ρ:Num} {H:Heap} {w:World} (hS:Sim P B M ρ H w):∀ {sh:List AS} {xs:List Value} {az:List Arg} {l:List Prop},parL H sh xs=some (az,l)→allP l→∃ us,All2 (CelIs w) (cellsA az) us∧rvL ρ xs=packL az us
 | [],[],az,l,h,_=>by cases h; exact⟨[], .nil,rfl⟩
 | s ::ss,x ::xs,az,l,h,hl=>by
  unfold parL at h
  split at h
  case h_2=>cases h
  rename_i a l1 az' l2 h1 h2
  cases h
  obtain⟨hl1,hl2⟩:=(allP_append _ _).1 hl
  obtain⟨us,g1,g2⟩:=parL_sound hS h2 hl2
  unfold parA at h1
  split at h1
  ·split at h1
   case h_2=>cases h1
   rename_i c l0 hc
   cases h1
   refine⟨rv ρ x ::us, .cons (parC_sound hS hc hl1) g1,?_⟩
   simp [rvL,packL,Arg.cells,Arg.pack,g2]
  ·split at h1
   case h_2=>cases h1
   rename_i cs l0 hc
   cases h1
   have hcs:=parCs_sound hS hc hl1
   refine⟨rvL ρ _++us,hcs.append g1,?_⟩
   simp only [rvL,packL,Arg.cells,Arg.pack]
   rw [hcs.length,List.take_left,List.drop_left,g2]
   simp [rv,rvA]
  ·cases h1
 | [],_ ::_,_,_,h,_=>by cases h
 | _ ::_,[],_,_,h,_=>by cases h
def encR (n:Nat):List Cel→List Value×Heap×Nat
 | [] =>([],[],n)
 | .v x ::r=>match encR n r with
  | (vs,h,m)=>(x ::vs,h,m)
 | .s e k xs ::r=>match encR (n+2) r with
  | (vs,h,m)=>(.slice (some ⟨n,0,some (n+1)⟩) xs.length 0 ::vs,(n, .row e 1 (.ints k xs) (n+1)) ::h,m)
 | .o _ _ _ _ ::r=>encR n r
 | .f _ _ _ _ ::r=>encR n r
theorem encR_le:∀ (cs:List Cel) (n:Nat),n≤(encR n cs).2.2
 | [],n=>Nat.le_refl _
 | .v x ::r,n=>encR_le r n
 | .s e k xs ::r,n=>by
  have:=encR_le r (n+2)
  show n≤(encR (n+2) r).2.2
  omega
 | .o _ _ _ _ ::r,n=>encR_le r n
 | .f _ _ _ _ ::r,n=>encR_le r n
theorem encR_ok {B:Nat} (M:Nat→Prop) {w w':World} (hB:B≤w.heap.size):∀ (cs:List Cel) (us:List Value),All2 (CelNew w w') cs us→(us.filterMap blk).Nodup→∀ (n:Nat) (ρ0:Num),∃ ρ,Agree n ρ0 ρ∧∀ ρ',Agree (encR n cs).2.2 ρ ρ'→
  us=rvL ρ' (encR n cs).1∧(∀ i o,(encR n cs).2.1.get i=some o→ORep B M ρ' w' (ρ' i) o∧(∀ g,ρ' i=some g→w.heap.size≤g∧g∈us.filterMap blk))∧∀ i j o o',(encR n cs).2.1.get i=some o→(encR n cs).2.1.get j=some o'→i≠j→ρ' i≠none→ρ' i≠ρ' j:=by
 intro cs us h
 induction h with
 | nil=>exact fun _ n ρ0=>⟨ρ0,Agree.refl _ _,fun ρ' _=>⟨rfl,(fun i o h=>by cases h),(fun i j o o' h=>by cases h)⟩⟩
 | @cons c u cs us hc _ ih=>
  intro hnd n ρ0
  have hnd2:(us.filterMap blk).Nodup:=by
   rw [List.filterMap_cons] at hnd
   split at hnd
   ·exact hnd
   ·exact (List.nodup_cons.1 hnd).2
  cases c with
  | v x=>
   obtain⟨rfl,hp⟩:=hc
   obtain⟨ρ,ha,hρ⟩:=ih hnd2 n ρ0
   refine⟨ρ,ha,fun ρ' ha'=> ?_⟩
   obtain⟨h1,h2,h3⟩:=hρ ρ' ha'
   refine⟨?_,fun i o hi=>⟨(h2 i o hi).1,fun g hg=>⟨((h2 i o hi).2 g hg).1,?_⟩⟩,h3⟩
   ·show u ::us=rvL ρ' (u ::(encR n cs).1)
    simp only [rvL,rv_pure ρ' u hp,← h1]
   ·have:=((h2 i o hi).2 g hg).2
    rw [List.filterMap_cons]
    split
    ·exact this
    ·exact List.mem_cons_of_mem _ this
  | s e k xs=>
   have key:∀ (ob:Option Nat) (cap:Nat),(u=match ob with | none=> .slice none xs.length 0 | some g=> .slice (some ⟨g,0,none⟩) xs.length cap)→(∀ ρ',ρ' (n+1)=some cap→ORep B M ρ' w' ob (.row e 1 (.ints k xs) (n+1)))→(∀ g,ob=some g→w.heap.size≤g)→∃ ρ,Agree n ρ0 ρ∧∀ ρ',Agree (encR n (.s e k xs ::cs)).2.2 ρ ρ'→
     u ::us=rvL ρ' (encR n (.s e k xs ::cs)).1∧(∀ i o,(encR n (.s e k xs ::cs)).2.1.get i=some o→ORep B M ρ' w' (ρ' i) o∧(∀ g,ρ' i=some g→w.heap.size≤g∧g∈(u ::us).filterMap blk))∧
     ∀ i j o o',(encR n (.s e k xs ::cs)).2.1.get i=some o→(encR n (.s e k xs ::cs)).2.1.get j=some o'→i≠j→ρ' i≠none→ρ' i≠ρ' j:=by
    intro ob cap hu ho hge
    obtain⟨ρ,ha,hρ⟩:=ih hnd2 (n+2) (fun i=>if i=n then ob else if i=n+1 then some cap else ρ0 i)
    refine⟨ρ,fun i hi=> ?_,fun ρ' ha'=> ?_⟩
    ·rw [ha i (by omega)]
     show (if i=n then ob else if i=n+1 then some cap else ρ0 i)=ρ0 i
     rw [if_neg (by omega),if_neg (by omega)]
    ·obtain⟨h1,h2,h3⟩:=hρ ρ' ha'
     have hle:=encR_le cs (n+2)
     have hn:ρ' n=ob:=by
      rw [ha' n (by show n < (encR (n+2) cs).2.2; omega),ha n (by omega)]
      simp
     have hk:ρ' (n+1)=some cap:=by
      rw [ha' (n+1) (by show n+1 < (encR (n+2) cs).2.2; omega),ha (n+1) (by omega)]
      simp
     have hbu:∀ g,ob=some g→blk u=some g:=fun g hg=>by rw [hu,hg]; rfl
     have hne:∀ j o',(encR (n+2) cs).2.1.get j=some o'→∀ g,ob=some g→ρ' j≠some g:=fun j o' hj g hg e=>by
      have hm:=((h2 j o' hj).2 g e).2
      rw [List.filterMap_cons,hbu g hg] at hnd
      exact (List.nodup_cons.1 hnd).1 hm
     refine⟨?_,fun i o hi=> ?_,fun i j o o' hi hj hij hnn=> ?_⟩
     ·show u ::us=rvL ρ' (.slice (some ⟨n,0,some (n+1)⟩) xs.length 0 ::(encR (n+2) cs).1)
      rw [rvL,← h1,hu]
      cases ob with
      | none=>simp [rv,rSl,hn]
      | some g=>simp [rv,rSl,hn,hk]
     ·change Heap.get ((n, .row e 1 (.ints k xs) (n+1)) ::(encR (n+2) cs).2.1) i=some o at hi
      rw [Heap.get_cons] at hi
      split at hi
      ·rename_i e'
       subst e'
       cases hi
       rw [hn]
       refine⟨ho ρ' hk,fun g hg=>⟨hge g hg,?_⟩⟩
       rw [List.filterMap_cons,hbu g hg]
       exact List.mem_cons_self ..
      ·refine⟨(h2 i o hi).1,fun g hg=>⟨((h2 i o hi).2 g hg).1,?_⟩⟩
       have:=((h2 i o hi).2 g hg).2
       rw [List.filterMap_cons]
       split
       ·exact this
       ·exact List.mem_cons_of_mem _ this
     ·change Heap.get ((n, .row e 1 (.ints k xs) (n+1)) ::(encR (n+2) cs).2.1) i=some o at hi
      change Heap.get ((n, .row e 1 (.ints k xs) (n+1)) ::(encR (n+2) cs).2.1) j=some o' at hj
      rw [Heap.get_cons] at hi hj
      split at hi <;> split at hj
      ·omega
      ·rename_i e1 _
       subst e1
       rw [hn] at hnn ⊢
       cases ob with
       | none=>exact absurd rfl hnn
       | some g=>exact fun e=>hne j o' hj g rfl e.symm
      ·rename_i _ e1
       subst e1
       rw [hn]
       cases ob with
       | none=>exact hnn
       | some g=>exact hne i o hi g rfl
      ·exact h3 i j o o' hi hj hij hnn
   rcases hc with ⟨rfl,rfl⟩ | ⟨g,cap,cur,rfl,h1,h2,h3,h4,h5,h6⟩
   ·exact key none 0 rfl (fun ρ' _=> .inl ⟨rfl,rfl⟩) (fun g hg=>by cases hg)
   ·refine key (some g) cap rfl (fun ρ' hk=> .inr ⟨g,cap,cur,rfl,hk,h2, .inl (by omega),h3,by omega,by simpa [Row.list] using h5,?_⟩) (fun g' hg=>by cases hg; exact h1)
    simp only [Row.list]
    rw [ints_rv,List.length_map]
    exact h6
  | o k ys off n=>exact hc.elim
  | f g m sz off=>exact hc.elim
def liftS (sh:List AS) (spec:List Arg→Option (List Arg×List Prop)) (args:List Value) (H:Heap) (n:Nat) (ds:List Bool):Option CR:=
 match parL H sh args with
 | none=>none
 | some (az,l)=>match spec az with
  | none=>none
  | some (rs,l')=>match encR n (cellsA rs) with
   | (us,h,m)=>some ⟨oneOf (packL rs us),h++H,m,l++l',ds⟩
theorem Heap.get_app (F H:Heap) (i:Nat):Heap.get (F++H) i=match F.get i with | some o=>some o | none=>H.get i:=by
 induction F with
 | nil=>rfl
 | cons x F ih=>
  obtain⟨j,o⟩:=x
  rw [List.cons_append,Heap.get_cons,Heap.get_cons,ih]
  split <;> rfl
theorem sim_app {P:Program} {B:Nat} {M:Nat→Prop} {ρ:Num} {F H:Heap} {w w':World} (hS:Sim P B M ρ H w) (hb:Below w.heap.size w w')
  (hF:∀ i o,F.get i=some o→ORep B M ρ w' (ρ i) o∧∀ g,ρ i=some g→w.heap.size≤g) (hinj:∀ i j o o',F.get i=some o→F.get j=some o'→i≠j→ρ i≠none→ρ i≠ρ j):Sim P B M ρ (F++H) w':=by
 have low:∀ k ok,H.get k=some ok→∀ g,ρ k=some g→g < w.heap.size:=fun k ok hk g hg=>by
  have:=hS.obj k ok hk
  rw [hg] at this
  exact this.lt
 have hold:=hS.below hb
 refine⟨hS.glob,fun i o hi=> ?_,fun i j o o' hi hr hj hij hnn=> ?_⟩
 ·rw [Heap.get_app] at hi
  split at hi
  ·rename_i h; cases hi; exact (hF i _ h).1
  ·exact hold.obj i o hi
 ·rw [Heap.get_app] at hi hj
  cases h1:F.get i with
  | some q=>
   cases h2:F.get j with
   | some q'=>exact hinj i j q q' h1 h2 hij hnn
   | none=>
    rw [h2] at hj
    intro e
    cases hq:ρ i with
    | none=>exact hnn hq
    | some g=>
     have a:=(hF i _ h1).2 g hq
     have b:=low j o' hj g (by rw [← e]; exact hq)
     omega
  | none=>
   rw [h1] at hi
   cases h2:F.get j with
   | some q'=>
    intro e
    cases hq:ρ i with
    | none=>exact hnn hq
    | some g=>
     have a:=(hF j _ h2).2 g (by rw [← e]; exact hq)
     have b:=low i o hi g hq
     omega
   | none=>
    rw [h2] at hj
    exact hold.inj i j o o' hi hr hj hij hnn
def SpecOk (P:Program) (J:Inv P) (f:FuncId) (spec:List Value→Heap→Nat→List Bool→Option CR):Prop:=
 ∀ args H n ds r,spec args H n ds=some r→allP r.obs→n≤r.n∧Enters P f∧∀ (B:Nat) (M:Nat→Prop) (ρ:Num) (w:World) (vs:List Value),Par P B M→B≤w.heap.size→J.I w→
  (∀ ρ',Agree n ρ ρ'→Sim P B M ρ' H w∧vs=rvL ρ' args)→
  Calls P f ⟨vs⟩ w fun e w'=>∃ ρ1 v,Agree n ρ ρ1∧e= .returned v∧Keeps B M w w'∧∀ ρ',Agree r.n ρ1 ρ'→v=rv ρ' r.v∧Sim P B M ρ' r.h w'
def mtabAdd (f:FuncId) (spec:List Value→Heap→Nat→List Bool→Option CR) (t:MTab):MTab:=fun g args H n ds=>
 match Nat.beq g f with
 | true=>spec args H n ds
 | false=>t g args H n ds
theorem mtabAdd_ok {P:Program} {J:Inv P} {f:FuncId} {spec:List Value→Heap→Nat→List Bool→Option CR} {t:MTab} (h:SpecOk P J f spec) (ht:ClOk P J t):ClOk P J (mtabAdd f spec t):=by
 intro g args H n ds r hs hl
 unfold mtabAdd at hs
 split at hs
 ·rename_i hg
  have:=Nat.eq_of_beq_eq_true hg
  subst this
  exact h args H n ds r hs hl
 ·exact ht g args H n ds r hs hl
theorem oneOf_rv (ρ:Num) (l:List Value):rv ρ (oneOf l)=oneOf (rvL ρ l):=by
 cases l with
 | nil=>simp [oneOf,rv,rvA,rvL]
 | cons v l=>
  cases l with
  | nil=>simp [oneOf,rvL]
  | cons u l=>simp [oneOf,rv,rvA,rvL]
theorem liftS_ok {P:Program} {J:Inv P} {f:FuncId} (sh:List AS) {spec:List Arg→Option (List Arg×List Prop)} (h:∀ az rs l,spec az=some (rs,l)→allP l→Sem P J f az rs):SpecOk P J f (liftS sh spec):=by
 intro args H n ds r hs hl
 unfold liftS at hs
 split at hs
 ·cases hs
 rename_i az l hpar
 split at hs
 ·cases hs
 rename_i rs l' hspec
 cases hs
 obtain⟨hl1,hl2⟩:=(allP_append _ _).1 hl
 obtain⟨hent,hsem⟩:=h az rs l' hspec hl2
 refine⟨encR_le _ _,hent,fun B M ρ w vs hp hB hI hS=> ?_⟩
 obtain⟨hS0,hvs⟩:=hS ρ (Agree.refl _ _)
 obtain⟨us,hus,hpack⟩:=parL_sound hS0 hpar hl1
 rw [hvs,hpack]
 refine (hsem w us hI hus).mono fun e w' ⟨us',he,hb,hnew,hnd⟩=> ?_
 obtain⟨ρ1,ha1,hρ1⟩:=encR_ok M hB _ _ hnew hnd n ρ
 refine⟨ρ1,_,ha1,he,Keeps.of_below hb hB,fun ρ' ha'=> ?_⟩
 obtain⟨q1,q2,q3⟩:=hρ1 ρ' ha'
 have hag:Agree n ρ ρ':=fun i hi=>by rw [ha' i (Nat.lt_of_lt_of_le hi (encR_le _ _)),ha1 i hi]
 refine⟨?_,sim_app (hS ρ' hag).1 hb (fun i o hi=>⟨(q2 i o hi).1,fun g hg=>((q2 i o hi).2 g hg).1⟩) q3⟩
 show oneOf (packL rs us')=rv ρ' (oneOf (packL rs (encR n (cellsA rs)).1))
 have hlen:(encR n (cellsA rs)).1.length=(cellsA rs).length:=by
  have:=congrArg List.length q1
  rw [rvL_length] at this
  rw [← this,hnew.length]
 rw [oneOf_rv,packL_rv ρ' rs _ hlen,← q1]
def semStart (X:Cx) (fuel f:Nat) (az:List Arg) (ds:List Bool):St:=
 match encA X.P.globals.size (cellsA az) with
 | (us,H,n)=>startAt X fuel f (packL az us) H n ds
def itr {α:Type} (f:α→α):Nat→α→α
 | 0,a=>a
 | n+1,a=>f (itr f n a)
theorem loop_run {X:Cx} {c:Code} (S:Nat→St) (n:Nat) {x:AX} (hx:x≠ .normal) {s':St} (h:∀ k,k < n→Step X c (S k) .normal (S (k+1))) (ho:Step X c (S n) x s'):LoopTo X c (S 0) x s':=
 loop_of S (fun k=>n-k) (fun k=>k≤n) hx (fun k hk=>if hlt:k < n then .inl ⟨k+1,hlt,by omega,h k hlt⟩ else by
  obtain rfl:k=n:=by omega
  exact .inr ho) 0 (Nat.zero_le _)
end
end Go.Proofs.YtdgfhijnconaoaaGreatDoor.Ev
namespace Go.Proofs.YtdgfhijnconaoaaGreatDoor
open Go Go.RowKit Ev
def qe:List UInt8→Option Nat
 | [] =>none
 | [c] =>if c=34 then some 1 else none
 | c ::d ::r=>if c=34 then (if d=34 then (qe r).map (· +2) else some 1) else (qe (d ::r)).map (· +1)
theorem qe_skip {c:UInt8} (h:c≠34):∀ r:List UInt8,qe (c ::r)=(qe r).map (· +1)
 | [] =>by simp [qe,h]
 | d ::r=>by rw [qe,if_neg h]
theorem qe_quote:∀ r:List UInt8,qe (34 ::r)=if hq r=true then (qe (r.drop 1)).map (· +2) else some 1
 | [] =>rfl
 | d ::r=>by
  rw [qe,if_pos rfl]
  by_cases hd:d=34
  ·rw [if_pos hd,if_pos (show hq (d ::r)=true from beq_iff_eq.2 hd)]
   rfl
  ·rw [if_neg hd,if_neg (show ¬hq (d ::r)=true from fun e=>hd (beq_iff_eq.1 e))]
theorem ib_cases:∀ r:List UInt8,(Lib.indexByte r 34= -1∧qe r=none)∨∃ i:Nat,Lib.indexByte r 34=(i:Int)∧i < r.length∧qe r=if hq (r.drop (i+1))=true then (qe (r.drop (i+2))).map (· +(i+2)) else some (i+1)
 | [] => .inl ⟨rfl,rfl⟩
 | c ::r=>by
  by_cases hc:c=34
  ·subst hc
   refine .inr ⟨0,?_,by simp,?_⟩
   ·rw [Lib.indexByte,if_pos (beq_self_eq_true _)]
    rfl
   ·rw [qe_quote]
    rfl
  ·have hb:(c==34)=false:=beq_false_of_ne hc
   rw [Lib.indexByte,hb,qe_skip hc]
   rcases ib_cases r with ⟨h1,h2⟩ | ⟨i,h1,h2,h3⟩
   ·refine .inl ⟨?_,by rw [h2]; rfl⟩
    rw [h1]
    rfl
   ·have hne:(Lib.indexByte r 34== -1)=false:=beq_false_of_ne (by omega)
    refine .inr ⟨i+1,?_,by simpa using h2,?_⟩
    ·rw [hne]
     show Lib.indexByte r 34+1=_
     omega
    ·rw [h3]
     show _=if hq (r.drop (i+1))=true then (qe (r.drop (i+2))).map (· +(i+1+2)) else _
     split
     ·cases qe (r.drop (i+2)) with
      | none=>rfl
      | some k=>show some (k+(i+2)+1)=some (k+(i+1+2)); congr 1
     ·rfl
theorem qe_le:∀ (r:List UInt8) (k:Nat),qe r=some k→1≤k∧k≤r.length
 | [],k,h=>by cases h
 | [c],k,h=>by
  rw [qe] at h
  split at h
  ·cases h; exact⟨Nat.le_refl _,Nat.le_refl _⟩
  ·cases h
 | c ::d ::r,k,h=>by
  rw [qe] at h
  split at h
  ·split at h
   ·cases hk:qe r with
    | none=>rw [hk] at h; cases h
    | some j=>
     rw [hk] at h
     obtain⟨h1,h2⟩:=qe_le r j hk
     cases h
     simp only [List.length_cons]
     omega
   ·cases h; simp only [List.length_cons]; omega
  ·cases hk:qe (d ::r) with
   | none=>rw [hk] at h; cases h
   | some j=>
    rw [hk] at h
    obtain⟨h1,h2⟩:=qe_le (d ::r) j hk
    cases h
    simp only [List.length_cons] at*
    omega
abbrev tok (k:Int) (t s:List UInt8):Value:= .agg ⟨[.int .i64 k, .string ⟨⟨t⟩⟩, .int .i64 0, .float .f64 0, .string ⟨⟨s⟩⟩, .int .i64 0, .int .i64 0, .bool false, .bool false, .int .i64 0]⟩
noncomputable def cQd:Code:=loopAt Tryz.prog 191 0
noncomputable abbrev hQd:Heap:=[(11, .cells [.int .i64 0, .string ⟨⟨[]⟩⟩, .int .i64 0, .float .f64 0, .string ⟨⟨[]⟩⟩, .int .i64 0, .int .i64 0, .bool false, .bool false, .int .i64 0] 61)] ++J0.tabs
noncomputable def tQd (t:List UInt8) (n:Int):St:=⟨only 45 [(0, .string ⟨⟨t⟩⟩),(2, .pointer (some ⟨11,0,none⟩)),(3, .int .i64 0),(4, .int .i64 n)],hQd,12,[],[],0,none,[],11⟩
noncomputable def tQr:St:=⟨only 45 [(2, .pointer (some ⟨11,0,none⟩)),(3, .int .i64 32),(13,tok 0 [] [])],hQd,13,[],[],0,none,[],11⟩
abbrev ixQ (t:List UInt8) (n:Nat):Int:=Lib.indexByte (t.drop n) 34
abbrev nxQ (t:List UInt8) (n:Nat):Int:=IntKind.i64.wrap ((n:Int)+IntKind.i64.wrap (ixQ t n+1))
section
variable (t:List UInt8) (n:Nat)
theorem qd_end (hl:allP [decide (ixQ t n < 0)=true,(0:Int)≤n∧(n:Int)≤t.length]):Step XLq0 cQd (tQd t (n:Int)) .ret tQr:=
 step_of (Base.cx_ok bLq0_ok 12).1 progOk.mixed [] 200 [true] [] (by kernel_rfl) hl (by kernel_rfl) (by kernel_rfl)
theorem qd_brk (hl:allP [(!hq (t.drop (nxQ t n).toNat))=true,0≤nxQ t n∧nxQ t n≤t.length,decide (ixQ t n < 0)=false,(0:Int)≤n∧(n:Int)≤t.length]):Step XLq0 cQd (tQd t (n:Int)) (.exit 0) (tQd t (nxQ t n)):=
 step_of (Base.cx_ok bLq0_ok 12).1 progOk.mixed [] 200 [false,true] [] (by kernel_rfl) hl (by kernel_rfl) (by kernel_rfl)
theorem qd_go (hl:allP [(!hq (t.drop (nxQ t n).toNat))=false,0≤nxQ t n∧nxQ t n≤t.length,decide (ixQ t n < 0)=false,(0:Int)≤n∧(n:Int)≤t.length]):Step XLq0 cQd (tQd t (n:Int)) .normal (tQd t (IntKind.i64.wrap (nxQ t n+1))):=
 step_of (Base.cx_ok bLq0_ok 12).1 progOk.mixed [] 200 [false,false] [] (by kernel_rfl) hl (by kernel_rfl) (by kernel_rfl)
theorem qd_into {ds:List Bool} {x:AX} {s':St} (h:LoopTo XLq0 cQd (tQd t ((1:Nat):Int)) x s'):LoopTo XLq0 cQd (startAt XLq0 200 191 [.string ⟨⟨t⟩⟩] J0.tabs Tryz.prog.globals.size ds) x s':=
 loop_into' h [] (by kernel_rfl) (by kernel_rfl) (by kernel_rfl)
def inQ (t:List UInt8) (n:Int):List UInt8:=(t.take (IntKind.i64.wrap (n-1)).toNat).drop 1
abbrev inP (t:List UInt8) (n:Int):List Prop:=[(ud (inQ t n)).length≤9223372036854775807,(inQ t n).length≤1048576∧(-1:Int)= -1,(0≤IntKind.i64.wrap (n-1)∧IntKind.i64.wrap (n-1)≤t.length)∧(0:Int)≤1∧1≤IntKind.i64.wrap (n-1)]
theorem qd_w0:pureCall XLq0 [told .ret (fun _=>tQr)] 200 191 [.string ⟨⟨t⟩⟩] [] =some (.tuple ⟨[tok 0 [] [], .int .i64 32]⟩,[LoopTo XLq0 cQd (startAt XLq0 200 191 [.string ⟨⟨t⟩⟩] J0.tabs Tryz.prog.globals.size []) .ret tQr]):=by kernel_rfl
theorem qd_w1:pureCall XLq0 [told (.exit 0) (fun _=>tQd t (n:Int))] 200 191 [.string ⟨⟨t⟩⟩] [true] =some (.tuple ⟨[tok 0 [] [], .int .i64 3]⟩,[(!Lib.validD (ud (inQ t n)))=true] ++inP t n++[LoopTo XLq0 cQd (startAt XLq0 200 191 [.string ⟨⟨t⟩⟩] J0.tabs Tryz.prog.globals.size [true]) (.exit 0) (tQd t (n:Int))]):=by kernel_rfl
theorem qd_w2:pureCall XLq0 [told (.exit 0) (fun _=>tQd t (n:Int))] 200 191 [.string ⟨⟨t⟩⟩] [false,true] =some (.tuple ⟨[tok 0 [] [], .int .i64 2]⟩,[decide (1024 < Int.ofNat (ud (inQ t n)).length)=true,(!Lib.validD (ud (inQ t n)))=false] ++inP t n++[LoopTo XLq0 cQd (startAt XLq0 200 191 [.string ⟨⟨t⟩⟩] J0.tabs Tryz.prog.globals.size [false,true]) (.exit 0) (tQd t (n:Int))]):=by kernel_rfl
theorem qd_w3:pureCall XLq0 [told (.exit 0) (fun _=>tQd t (n:Int))] 200 191 [.string ⟨⟨t⟩⟩] [false,false] =some (.tuple ⟨[tok 2 (t.take n) (ud (inQ t n)), .int .i64 0]⟩,[(0:Int)≤n∧(n:Int)≤t.length,decide (1024 < Int.ofNat (ud (inQ t n)).length)=false,(!Lib.validD (ud (inQ t n)))=false] ++inP t n++[LoopTo XLq0 cQd (startAt XLq0 200 191 [.string ⟨⟨t⟩⟩] J0.tabs Tryz.prog.globals.size [false,false]) (.exit 0) (tQd t (n:Int))]):=by kernel_rfl
end
end Go.Proofs.YtdgfhijnconaoaaGreatDoor
namespace Go.Proofs.YtdgfhijnconaoaaGreatDoor
open Go Go.RowKit Ev
theorem w64 {n:Int} (h0: -9223372036854775808≤n) (h1:n≤9223372036854775807):IntKind.i64.wrap n=n:=by
 have:=IntKind.wrap_i64 n
 omega
section
variable {t:List UInt8} (h1:1≤t.length) (h2:t.length≤1048576)
include h1 h2
theorem qd_round {R:Option Nat} (n:Nat) (hn:n≤t.length) (hR:(qe (t.drop n)).map (· +n)=R):
  (∃ m,m≤t.length∧n < m∧(qe (t.drop m)).map (· +m)=R∧Step XLq0 cQd (tQd t (n:Int)) .normal (tQd t (m:Int)))∨
  (R=none∧Step XLq0 cQd (tQd t (n:Int)) .ret tQr)∨
  (∃ N:Nat,R=some N∧Step XLq0 cQd (tQd t (n:Int)) (.exit 0) (tQd t (N:Int))):=by
 have hb:(0:Int)≤n∧(n:Int)≤t.length:=⟨by omega,by omega⟩
 rcases ib_cases (t.drop n) with ⟨e1,e2⟩ | ⟨i,e1,e2,e3⟩
 ·refine .inr (.inl ⟨by rw [← hR,e2]; rfl,qd_end t n ⟨decide_eq_true (by show Lib.indexByte (t.drop n) 34 < 0; omega),hb,trivial⟩⟩)
 ·rw [List.length_drop] at e2
  have hx:nxQ t n=((n+(i+1):Nat):Int):=by
   show IntKind.i64.wrap ((n:Int)+IntKind.i64.wrap (Lib.indexByte (t.drop n) 34+1))=_
   rw [e1,w64 (n:=(i:Int)+1) (by omega) (by omega),w64 (by omega) (by omega)]
   omega
  have hd:t.drop (nxQ t n).toNat=(t.drop n).drop (i+1):=by
   rw [hx,List.drop_drop]
   rfl
  have hi:decide (ixQ t n < 0)=false:=decide_eq_false (by show ¬Lib.indexByte (t.drop n) 34 < 0; omega)
  have hb2:0≤nxQ t n∧nxQ t n≤t.length:=by rw [hx]; omega
  cases hh:hq ((t.drop n).drop (i+1)) with
  | false=>
   rw [hh,if_neg (by decide)] at e3
   have:=qd_brk t n ⟨by rw [hd,hh]; rfl,hb2,hi,hb,trivial⟩
   rw [hx] at this
   refine .inr (.inr ⟨n+(i+1),?_,this⟩)
   rw [← hR,e3]
   show some (i+1+n)=some (n+(i+1))
   rw [Nat.add_comm]
  | true=>
   rw [hh,if_pos rfl] at e3
   have:=qd_go t n ⟨by rw [hd,hh]; rfl,hb2,hi,hb,trivial⟩
   rw [hx,w64 (n:=((n+(i+1):Nat):Int)+1) (by omega) (by omega),show ((n+(i+1):Nat):Int)+1=((n+(i+2):Nat):Int) by omega] at this
   have hlen:i+2+n≤t.length:=by
    have:(t.drop n).drop (i+1)≠[] :=fun e=>by rw [e] at hh; cases hh
    have:=List.length_pos_iff.2 this
    simp only [List.length_drop] at this
    omega
   refine .inl ⟨n+(i+2),by omega,by omega,?_,this⟩
   rw [← hR,e3,List.drop_drop]
   cases qe (t.drop (n+(i+2))) with
   | none=>rfl
   | some k=>show some (k+(n+(i+2)))=some (k+(i+2)+n); congr 1; omega
theorem qd_none (hq0:qe (t.drop 1)=none):LoopTo XLq0 cQd (tQd t ((1:Nat):Int)) .ret tQr:=
 loop_of (fun n:Nat=>tQd t (n:Int)) (fun n=>t.length-n) (fun n=>n≤t.length∧(qe (t.drop n)).map (· +n)=none) (by intro e; cases e) (fun n ⟨g1,g2⟩=>by
  rcases qd_round h1 h2 n g1 g2 with ⟨m,m1,m2,m3,m4⟩ | ⟨_,m4⟩ | ⟨N,m1,_⟩
  ·exact .inl ⟨m,⟨m1,m3⟩,by omega,m4⟩
  ·exact .inr m4
  ·cases m1) 1 ⟨h1,by rw [hq0]; rfl⟩
theorem qd_some {k:Nat} (hq0:qe (t.drop 1)=some k):LoopTo XLq0 cQd (tQd t ((1:Nat):Int)) (.exit 0) (tQd t ((k+1:Nat):Int)):=
 loop_of (fun n:Nat=>tQd t (n:Int)) (fun n=>t.length-n) (fun n=>n≤t.length∧(qe (t.drop n)).map (· +n)=some (k+1)) (by intro e; cases e) (fun n ⟨g1,g2⟩=>by
  rcases qd_round h1 h2 n g1 g2 with ⟨m,m1,m2,m3,m4⟩ | ⟨m1,_⟩ | ⟨N,m1,m4⟩
  ·exact .inl ⟨m,⟨m1,m3⟩,by omega,m4⟩
  ·cases m1
  ·cases m1
   exact .inr m4) 1 ⟨h1,by rw [hq0]; rfl⟩
end
def qdI (t:List UInt8) (k:Nat):List UInt8:=ud ((t.drop 1).take (k-1))
def qdR (t:List UInt8):Int×List UInt8×List UInt8×Int:=match qe (t.drop 1) with
 | none=>(0,[],[],32)
 | some k=>if Lib.validD (qdI t k)=false then (0,[],[],3) else if 1024 < (qdI t k).length then (0,[],[],2) else (2,t.take (k+1),qdI t k,0)
abbrev qdV (t:List UInt8):Value:= .tuple ⟨[tok (qdR t).1 (qdR t).2.1 (qdR t).2.2.1, .int .i64 (qdR t).2.2.2]⟩
theorem quoted_pure {t:List UInt8} (h1:1≤t.length) (h2:t.length≤1048576):Ev.Pure Tryz.prog J0 191 [.string ⟨⟨t⟩⟩] (qdV t):=by
 cases hk:qe (t.drop 1) with
 | none=>
  have hr:qdR t=(0,[],[],32):=by unfold qdR; rw [hk]
  unfold qdV
  rw [hr]
  exact pureC bLq0_ok (qd_w0 t) ⟨qd_into t (qd_none h1 h2 hk),trivial⟩
 | some k=>
  obtain⟨k1,k2⟩:=qe_le _ _ hk
  rw [List.length_drop] at k2
  have hL:=fun {ds:List Bool} =>qd_into t (ds:=ds) (qd_some h1 h2 hk)
  have hw:IntKind.i64.wrap (((k+1:Nat):Int)-1)=(k:Int):=by rw [w64 (by omega) (by omega)]; omega
  have hI:ud (inQ t ((k+1:Nat):Int))=qdI t k:=by
   unfold inQ qdI
   rw [hw,List.drop_take]
   rfl
  have hIl:(inQ t ((k+1:Nat):Int)).length≤1048576:=by
   unfold inQ
   rw [List.length_drop,List.length_take]
   omega
  have hu:=ud_len (inQ t ((k+1:Nat):Int))
  have hP:allP (inP t ((k+1:Nat):Int)):=⟨by omega,⟨hIl,rfl⟩,by rw [hw]; omega,trivial⟩
  have hr:qdR t=if Lib.validD (qdI t k)=false then (0,[],[],3) else if 1024 < (qdI t k).length then (0,[],[],2) else (2,t.take (k+1),qdI t k,0):=by unfold qdR; rw [hk]
  unfold qdV
  rw [hr]
  cases hv:Lib.validD (qdI t k) with
  | false=>
   rw [if_pos rfl]
   exact pureC bLq0_ok (qd_w1 t (k+1)) ((allP_append _ _).2 ⟨(allP_append _ _).2 ⟨⟨by rw [hI,hv]; rfl,trivial⟩,hP⟩,hL,trivial⟩)
  | true=>
   rw [if_neg (by decide)]
   by_cases hl:1024 < (qdI t k).length
   ·rw [if_pos hl]
    exact pureC bLq0_ok (qd_w2 t (k+1)) ((allP_append _ _).2 ⟨(allP_append _ _).2 ⟨⟨decide_eq_true (by rw [hI]; show (1024:Int) < ((qdI t k).length:Int); omega),by rw [hI,hv]; rfl,trivial⟩,hP⟩,hL,trivial⟩)
   ·rw [if_neg hl]
    have:=pureC bLq0_ok (qd_w3 t (k+1)) ((allP_append _ _).2 ⟨(allP_append _ _).2 ⟨⟨by omega,decide_eq_false (by rw [hI]; show ¬(1024:Int) < ((qdI t k).length:Int); omega),by rw [hI,hv]; rfl,trivial⟩,hP⟩,hL,trivial⟩)
    rw [hI] at this
    exact this
end Go.Proofs.YtdgfhijnconaoaaGreatDoor
namespace Go.Proofs
def Tryz.laysPu25_ren:Go.Shelf.Ren:=⟨fun | 25=>194 | n=>n,fun | 9=>9 | 3=>3 | 4=>4 | 37=>22 | 0=>0 | 47=>231 | 5=>5 | n=>n,fun | n=>n⟩
theorem Tryz.laysPu25:Go.Proofs.LaysPu.n25 Tryz.prog Tryz.laysPu25_ren where
 mixed:=by kernel_rfl
 f25:=Tryz.func194.trans (congrArg some (by kernel_rfl))
 t0:=Tryz.underlying0
 a0:=Tryz.isAgg0
 z0:=Tryz.sizeOf0
 v0:=Tryz.zeroValue0
 i0:=by kernel_rfl
 t3:=Tryz.underlying3
 a3:=Tryz.isAgg3
 z3:=Tryz.sizeOf3
 v3:=Tryz.zeroValue3
 i3:=by kernel_rfl
 t4:=Tryz.underlying4
 a4:=Tryz.isAgg4
 z4:=Tryz.sizeOf4
 v4:=Tryz.zeroValue4
 i4:=by kernel_rfl
 t5:=Tryz.underlying5
 a5:=Tryz.isAgg5
 z5:=Tryz.sizeOf5
 v5:=Tryz.zeroValue5
 i5:=by kernel_rfl
 t9:=Tryz.underlying9
 a9:=Tryz.isAgg9
 z9:=Tryz.sizeOf9
 v9:=Tryz.zeroValue9
 i9:=by kernel_rfl
 t37:=Tryz.underlying22
 a37:=Tryz.isAgg22
 z37:=Tryz.sizeOf22
 v37:=Tryz.zeroValue22
 i37:=by kernel_rfl
 t47:=Tryz.underlying231
 a47:=Tryz.isAgg231
 z47:=Tryz.sizeOf231
 v47:=Tryz.zeroValue231
 i47:=by kernel_rfl
namespace YtdgfhijnconaoaaGreatDoor
open Go Go.RowKit Ev
def specClone:List Value→Option (Value×List Prop)
 | [.string ⟨⟨t⟩⟩] =>some (.string ⟨⟨t⟩⟩,[t.length≤281474976710656])
 | _=>none
theorem specClone_ok (args:List Value) (v:Value) (l:List Prop) (h:specClone args=some (v,l)) (hl:allP l):Ev.Pure Tryz.prog J0 194 args v:=by
 unfold specClone at h
 split at h
 ·rename_i t
  cases h
  refine⟨rfl,rfl, .inl ⟨enters_of Tryz.func194 (by kernel_rfl) (c:=_) rfl,fun w _=> ?_⟩⟩
  exact AnyPu.stringslite_Clone Tryz.laysPu25 ⟨⟨t⟩⟩ w hl.1
 ·cases h
end YtdgfhijnconaoaaGreatDoor
end Go.Proofs
namespace Go.Proofs.YtdgfhijnconaoaaGreatDoor
open Go Go.RowKit Ev
def specQd:List Value→Option (Value×List Prop)
 | [.string ⟨⟨t⟩⟩] =>some (qdV t,[1≤t.length∧t.length≤1048576])
 | _=>none
theorem specQd_ok (args:List Value) (v:Value) (l:List Prop) (h:specQd args=some (v,l)) (hl:allP l):Ev.Pure Tryz.prog J0 191 args v:=by
 unfold specQd at h
 split at h
 ·cases h; exact quoted_pure hl.1.1 hl.1.2
 ·cases h
noncomputable def tabLq1:Tab:=tabAdd 194 specClone (tabAdd 191 specQd tabLq0)
theorem tabLq1_ok:PcOk Tryz.prog J0 tabLq1:=tabAdd_ok specClone_ok (tabAdd_ok specQd_ok tabLq0_ok)
noncomputable def bLq1:Base:=⟨Tryz.prog,J0,false,tabLq1,mtab0,200,xtN0⟩
theorem bLq1_ok:BaseOk bLq1:=⟨progOk,tabLq1_ok,mtab0_ok _ _,xtN0_ok⟩
noncomputable abbrev XLq1:=bLq1.cx 12
theorem ql_all (t:List UInt8):pureCall XLq1 [] 200 22 [.string ⟨⟨t⟩⟩] [] =some (.string ⟨⟨([34] ++dq t)++[34]⟩⟩,[(34 ::dq t).length+1≤9223372036854775807,1+(dq t).length≤9223372036854775807,t.length≤1048576∧(-1:Int)= -1]):=by kernel_rfl
theorem quote1_pure {t:List UInt8} (ht:t.length≤1048576):Ev.Pure Tryz.prog J0 22 [.string ⟨⟨t⟩⟩] (.string ⟨⟨34 ::(dq t++[34])⟩⟩):=by
 have hl:=dq_len t
 exact pureC bLq1_ok (ql_all t) ⟨by simp only [List.length_cons]; omega,by omega,⟨ht,rfl⟩,trivial⟩
def specQu:List Value→Option (Value×List Prop)
 | [.string ⟨⟨t⟩⟩] =>some (.string ⟨⟨34 ::(dq t++[34])⟩⟩,[t.length≤1048576])
 | _=>none
theorem specQu_ok (args:List Value) (v:Value) (l:List Prop) (h:specQu args=some (v,l)) (hl:allP l):Ev.Pure Tryz.prog J0 22 args v:=by
 unfold specQu at h
 split at h
 ·cases h; exact quote1_pure hl.1
 ·cases h
theorem sc_way (w:List UInt8):pureCall XLq1 [] 200 137 [.string ⟨⟨34 ::w⟩⟩] [] =some (qdV (34 ::w),[1≤(34 ::w).length∧(34 ::w).length≤1048576,(0:Int)≤0∧0 < (34 ::w).length]):=by kernel_rfl
def specSc:List Value→Option (Value×List Prop)
 | [.string ⟨⟨t⟩⟩] =>some (qdV t,[hq t=true∧t.length≤1048576])
 | _=>none
theorem hq_head {t:List UInt8} (h:hq t=true):t=34 ::t.drop 1:=by
 cases t with
 | nil=>cases h
 | cons c r=>
  rw [show c=34 from beq_iff_eq.1 h]
  rfl
theorem specSc_ok (args:List Value) (v:Value) (l:List Prop) (h:specSc args=some (v,l)) (hl:allP l):Ev.Pure Tryz.prog J0 137 args v:=by
 unfold specSc at h
 split at h
 case h_2=>cases h
 rename_i t
 cases h
 obtain⟨⟨h1,h2⟩,_⟩:=hl
 rw [hq_head h1] at h2 ⊢
 exact pureC bLq1_ok (sc_way _) ⟨⟨by simp,h2⟩,⟨by decide,by simp⟩,trivial⟩
abbrev Known11:Prop:=Ev.Pure Tryz.prog J0 24 [] (.bool true)
def specKn:List Value→Option (Value×List Prop)
 | [] =>some (.bool true,[])
 | _=>none
theorem specKn_ok (hk:Known11) (args:List Value) (v:Value) (l:List Prop) (h:specKn args=some (v,l)) (_:allP l):Ev.Pure Tryz.prog J0 24 args v:=by
 unfold specKn at h
 split at h
 ·cases h; exact hk
 ·cases h
def pkV (c n:Int):Int:=(if c < 0 then -(c+1) else c).tmod n
theorem pk_way1 (c n:Int):pureCall (bLqz.cx 12) [] 200 25 [.int .i64 c, .int .i64 n] [true] =some (.int .i64 ((IntKind.i64.wrap (0-IntKind.i64.wrap (c+1))).tmod n),[n=0→False,decide (c < 0)=true]):=by kernel_rfl
theorem pk_way2 (c n:Int):pureCall (bLqz.cx 12) [] 200 25 [.int .i64 c, .int .i64 n] [false] =some (.int .i64 (c.tmod n),[n=0→False,decide (c < 0)=false]):=by kernel_rfl
def specPk:List Value→Option (Value×List Prop)
 | [.int .i64 c, .int .i64 n] =>some (.int .i64 (pkV c n),[0 < n∧-9223372036854775808≤c∧c≤9223372036854775807])
 | _=>none
theorem specPk_ok (args:List Value) (v:Value) (l:List Prop) (h:specPk args=some (v,l)) (hl:allP l):Ev.Pure Tryz.prog J0 25 args v:=by
 unfold specPk at h
 split at h
 case h_2=>cases h
 rename_i c n
 cases h
 obtain⟨⟨h1,h2,h3⟩,_⟩:=hl
 unfold pkV
 by_cases hc:c < 0
 ·rw [if_pos hc,show -(c+1)=IntKind.i64.wrap (0-IntKind.i64.wrap (c+1)) by rw [w64 (n:=c+1) (by omega) (by omega),w64 (by omega) (by omega)]; omega]
  exact pureC bLqz_ok (pk_way1 c n) ⟨fun e=>by omega,decide_eq_true hc,trivial⟩
 ·rw [if_neg hc]
  exact pureC bLqz_ok (pk_way2 c n) ⟨fun e=>by omega,decide_eq_false hc,trivial⟩
theorem pkV_range {c n:Int} (h:0 < n):0≤pkV c n∧pkV c n < n:=by
 unfold pkV
 have:0≤(if c < 0 then -(c+1) else c):=by split <;> omega
 exact⟨Int.tmod_nonneg _ this,Int.tmod_lt_of_pos _ h⟩
def flagSp:List Value→Heap→Nat→List Bool→Option CR:=fun _ _ n _=>match n with
 | 0=>some ⟨.bool true,[],0,[False],[]⟩
 | _+1=>none
theorem flagSp_ok {P:Program} {J:Inv P} {f:FuncId} :SpecOk P J f flagSp:=by
 intro args H n ds r h hl
 unfold flagSp at h
 split at h
 ·cases h
  exact hl.1.elim
 ·cases h
noncomputable def tabLq2:Tab:=tabAdd 25 specPk (tabAdd 137 specSc (tabAdd 22 specQu (tabAdd 24 specKn tabLq1)))
theorem tabLq2_ok (hk:Known11):PcOk Tryz.prog J0 tabLq2:=tabAdd_ok specPk_ok (tabAdd_ok specSc_ok (tabAdd_ok specQu_ok (tabAdd_ok (specKn_ok hk) tabLq1_ok)))
noncomputable def mtabLq:MTab:=mtabAdd 23 flagSp mtab0
theorem mtabLq_ok:ClOk Tryz.prog J0 mtabLq:=mtabAdd_ok flagSp_ok (mtab0_ok _ _)
noncomputable def bLq2:Base:=⟨Tryz.prog,J0,false,tabLq2,mtabLq,200,xtN0⟩
theorem bLq2_ok (hk:Known11):BaseOk bLq2:=⟨progOk,tabLq2_ok hk,mtabLq_ok,xtN0_ok⟩
noncomputable abbrev XLq2:=bLq2.cx 12
end Go.Proofs.YtdgfhijnconaoaaGreatDoor
namespace Go.Proofs.YtdgfhijnconaoaaGreatDoor
open Go Go.RowKit Ev
abbrev qt (s:List UInt8):List UInt8:=34 ::(dq s++[34])
abbrev byQ (q:List UInt8) (i:Nat):Int:= ↑(bytesAt ⟨⟨q⟩⟩ i)
abbrev lnQ (q:List UInt8):Int:=(q.length:Int)
def hdA (q s:List UInt8):Bool:=match decide (lnQ q < IntKind.i64.wrap ((s.length:Int)+2)) with | true=>true | false=>byQ q 0 !=34
def hdB (q s:List UInt8):Bool:=match hdA q s with | true=>true | false=>byQ q (IntKind.i64.wrap (lnQ q-1)).toNat !=34
def hdP (q s:List UInt8):Prop:=condP [(11,hdA q s),(6,decide (lnQ q < IntKind.i64.wrap ((s.length:Int)+2)))] [(11,false)] →0≤IntKind.i64.wrap (lnQ q-1)∧(IntKind.i64.wrap (lnQ q-1)).toNat < q.length
def hdR (q s:List UInt8):Prop:=condP [(6,decide (lnQ q < IntKind.i64.wrap ((s.length:Int)+2)))] [(6,false)] →(0:Int)≤0∧(0:Int).toNat < q.length
abbrev hdL (q s:List UInt8):List Prop:=[hdB q s=false,hdP q s,hdR q s,s.length≤1048576]
def blB (t:List UInt8) (i:Int):Bool:=match decide (i < lnQ t) with | true=>decide (Lib.indexByte [32,9,10,13] ((byQ t i.toNat).toNat.toUInt8)≥0) | false=>false
def blP (t:List UInt8) (i:Int):Prop:=condP [(4,decide (i < lnQ t))] [(4,true)] →0≤i∧i.toNat < t.length
def scP (t:List UInt8):Prop:=hq t=true∧t.length≤1048576
abbrev eQ (t:List UInt8):Int:=(qdR t).2.2.2
abbrev tQ (t:List UInt8):List UInt8:=(qdR t).2.1
def pV (b:Nat):Prop:=TV.v (.pointer (some ⟨b,0,none⟩))=TV.v (.pointer (some ⟨b,0,none⟩))
def erV (q s:List UInt8) (e a n:Int):Bool:=match match match match match e==2 with | true=>(match decide (lnQ q > 4096) with | true=>true | false=>decide ((s.length:Int) > 1024)) | false=>false with | true=>true | false=>e==3 with | true=>a==0 | false=>false with | true=>n==0 | false=>false with | true=>true | false=>false
abbrev tkB (q:List UInt8):List Prop:=[(eQ q !=0)=true,pV 13,(eQ q !=0)=true,scP q,(0:Int)≤0∧0≤lnQ q,false=false,blB q 0=false,blP q 0,decide (4096 < lnQ q)=false]
abbrev tkC (q:List UInt8):List Prop:=[false=false,pV 13,(IntKind.i64.wrap (0+lnQ (tQ q))==lnQ q)=true,blB q (IntKind.i64.wrap (0+lnQ (tQ q)))=false,blP q (IntKind.i64.wrap (0+lnQ (tQ q))),false=false,88≤140737488355328∧1≤9223372036854775807,(tQ q).length≤281474976710656,(eQ q !=0)=false,scP q,(0:Int)≤0∧0≤lnQ q,false=false,blB q 0=false,blP q 0,decide (4096 < lnQ q)=false]
section
variable (s:List UInt8) (cut:Int)
theorem lq_a:pureCall XLq2 [] 200 6 [.string ⟨⟨s⟩⟩, .int .i64 cut] [false,true,true,true] =some (.bool (erV (qt s) s 2 0 0),[true=true,true=true,pV 13,decide (4096 < lnQ (qt s))=true] ++hdL (qt s) s):=by kernel_rfl
theorem lq_b:pureCall XLq2 [] 200 6 [.string ⟨⟨s⟩⟩, .int .i64 cut] [false,false,false,false,true,true,true] =some (.bool (erV (qt s) s (eQ (qt s)) 0 0),[(eQ (qt s) !=0)=true] ++tkB (qt s)++hdL (qt s) s):=by kernel_rfl
end
noncomputable def cLq:Code:=loopAt Tryz.prog 6 0
noncomputable def tLq (q:List UInt8) (n c i:Int):St:=⟨only 155 [(5, .string ⟨⟨q⟩⟩),(7, .pointer (some ⟨32,0,none⟩)),(9, .int .i64 n),(10, .int .i64 c),(11, .int .i64 i)],[(32, .cells [.int .i64 0, .int .i64 0] 53)] ++J0.tabs,34,[],[],0,none,[],11⟩
section
variable (hk:Known11) (q:List UInt8) (n c i:Nat)
include hk
theorem lo_y (hl:allP [(byQ q i==34)=true,(0:Int)≤i∧i < q.length,decide ((i:Int) < (n:Int))=true]):Step XLq2 cLq (tLq q n c i) .normal (tLq q n (IntKind.i64.wrap ((c:Int)+1)) (IntKind.i64.wrap ((i:Int)+1))):=
 step_of (Base.cx_ok (bLq2_ok hk) 12).1 progOk.mixed [] 200 [true,true] [] (by kernel_rfl) hl (by kernel_rfl) (by kernel_rfl)
theorem lo_n (hl:allP [(byQ q i==34)=false,(0:Int)≤i∧i < q.length,decide ((i:Int) < (n:Int))=true]):Step XLq2 cLq (tLq q n c i) .normal (tLq q n c (IntKind.i64.wrap ((i:Int)+1))):=
 step_of (Base.cx_ok (bLq2_ok hk) 12).1 progOk.mixed [] 200 [true,false] [] (by kernel_rfl) hl (by kernel_rfl) (by kernel_rfl)
theorem lo_x (hl:allP [decide ((i:Int) < (n:Int))=false]):Step XLq2 cLq (tLq q n c i) (.exit 0) (tLq q n c i):=
 step_of (Base.cx_ok (bLq2_ok hk) 12).1 progOk.mixed [] 200 [false] [] (by kernel_rfl) hl (by kernel_rfl) (by kernel_rfl)
end
def ltA (k:Int):Bool:=match ((1:Nat):Int) !=1 with | true=>true | false=>k !=2
def ltB (s u:List UInt8) (k:Int):Bool:=match ltA k with | true=>true | false=> !(u==s)
def ltC (s q t u:List UInt8) (k:Int):Bool:=match ltB s u k with | true=>true | false=> !(t==q)
abbrev lt10:Prop:=((0:Int)≤0∧(0:Int) < ((1:Nat):Int))∧0 < 10
def ltP (s u:List UInt8) (k:Int):Prop:=condP [(18,ltB s u k),(10,ltA k),(3,((1:Nat):Int) !=1)] [(18,false)] →lt10
def ltQ (k:Int):Prop:=condP [(10,ltA k),(3,((1:Nat):Int) !=1)] [(10,false)] →lt10
def ltR:Prop:=condP [(3,((1:Nat):Int) !=1)] [(3,false)] →lt10
abbrev ltL (s q:List UInt8):List Prop:=[ltC s q (tQ q) (qdR q).2.2.1 (qdR q).1=false,ltP s (qdR q).2.2.1 (qdR q).1,ltQ (qdR q).1,ltR]
abbrev cuT (q:List UInt8) (n:Int):List UInt8:=[32,32] ++q.take n.toNat
abbrev cu2 (q:List UInt8) (n:Int):List UInt8:=q.take n.toNat
abbrev nnQ (q:List UInt8) (cut:Int):Int:=IntKind.i64.wrap (1+pkV cut (IntKind.i64.wrap (lnQ q-1)))
abbrev tkH (q:List UInt8) (n:Int):List Prop:=[scP (cu2 q n),(0:Int)≤2∧2≤lnQ (cuT q n),((2:Int)==lnQ (cuT q n))=false,blB (cuT q n) 2=false,blP (cuT q n) 2,blB (cuT q n) 1=true,blP (cuT q n) 1,blB (cuT q n) 0=true,blP (cuT q n) 0,decide (4096 < lnQ (cuT q n))=false,2+(q.take n.toNat).length≤9223372036854775807,0≤n∧n≤lnQ q]
abbrev tkD (q:List UInt8) (n:Int):List Prop:=[(eQ (cu2 q n) !=0)=true,pV 36,(eQ (cu2 q n) !=0)=true] ++tkH q n
abbrev tkE (q:List UInt8) (n:Int):List Prop:=[false=false,pV 36,(IntKind.i64.wrap (2+lnQ (tQ (cu2 q n)))==lnQ (cuT q n))=true,blB (cuT q n) (IntKind.i64.wrap (2+lnQ (tQ (cu2 q n))))=false,blP (cuT q n) (IntKind.i64.wrap (2+lnQ (tQ (cu2 q n)))),false=false,88≤140737488355328∧1≤9223372036854775807,(tQ (cu2 q n)).length≤281474976710656,(eQ (cu2 q n) !=0)=false] ++tkH q n
def enV (e:Int):Bool:=match match match e==32 with | true=>(2:Int)==2 | false=>false with | true=>((0:Nat):Int)==0 | false=>false with | true=>true | false=>false
noncomputable abbrev loB (s:List UInt8) (cut:Int) (ds:List Bool):St:=startAt XLq2 200 6 [.string ⟨⟨s⟩⟩, .int .i64 cut] J0.tabs Tryz.prog.globals.size ds
abbrev pkP (q:List UInt8) (cut:Int):Prop:=0 < IntKind.i64.wrap (lnQ q-1)∧-9223372036854775808≤cut∧cut≤9223372036854775807
abbrev bC:List Bool:=[false,false,false,false,false,false,false,true,false,false,false]
section
variable (s:List UInt8) (cut n k:Int)
theorem lq_d:pureCall XLq2 [told (.exit 0) (fun _=>tLq (qt s) n k n)] 200 6 [.string ⟨⟨s⟩⟩, .int .i64 cut] (bC++[false,true,true,false,false,true,true,true])=some (.bool (enV (eQ (cu2 (qt s) n))),[(k.tmod 2==0)=true] ++tkD (qt s) n++[LoopTo XLq2 cLq (loB s cut (bC++[false,true,true,false,false,true,true,true])) (.exit 0) (tLq (qt s) n k n),pkP (qt s) cut] ++ltL s (qt s)++[false=false] ++tkC (qt s)++hdL (qt s) s):=by kernel_rfl
theorem lq_e:pureCall XLq2 [told (.exit 0) (fun _=>tLq (qt s) n k n)] 200 6 [.string ⟨⟨s⟩⟩, .int .i64 cut] (bC++[false,true,true,false,false,false,false,false,true,false,false])=some (.bool true,[(k.tmod 2==0)=false] ++tkE (qt s) n++[LoopTo XLq2 cLq (loB s cut (bC++[false,true,true,false,false,false,false,false,true,false,false])) (.exit 0) (tLq (qt s) n k n),pkP (qt s) cut] ++ltL s (qt s)++[false=false] ++tkC (qt s)++hdL (qt s) s):=by kernel_rfl
theorem lq_into {ds:List Bool} {x:AX} {s':St} (h:LoopTo XLq2 cLq (tLq (qt s) (nnQ (qt s) cut) ((0:Nat):Int) ((1:Nat):Int)) x s'):LoopTo XLq2 cLq (loB s cut (bC++ds)) x s':=
 loop_into' h [] (by kernel_rfl) (by kernel_rfl) (by kernel_rfl)
end
end Go.Proofs.YtdgfhijnconaoaaGreatDoor
namespace Go.Proofs.YtdgfhijnconaoaaGreatDoor
open Go Go.RowKit Ev
theorem check_cut {n n' b1 b2 b3 c1 c2 c3 sz lo hi k:Nat} (h:Lib.checkN n b1 b2 b3 sz lo hi=some k) (hlo:128≤lo):
  2≤k∧128≤b1∧(3≤k→128≤b2)∧(4≤k→128≤b3)∧k≤4∧k≤n∧(k≤n'→c1=b1→(3≤k→c2=b2)→(4≤k→c3=b3)→Lib.checkN n' c1 c2 c3 sz lo hi=some k):=by
 unfold Lib.checkN at*
 by_cases s2:sz=2
 ·rw [if_pos s2] at h ⊢
  by_cases hc:n < 2∨b1 < lo∨hi < b1
  ·rw [if_pos hc] at h; cases h
  ·rw [if_neg hc] at h
   cases h
   exact⟨by omega,by omega,by omega,by omega,by omega,by omega,fun g1 g2 _ _=>by rw [if_neg (by omega)]⟩
 ·rw [if_neg s2] at h ⊢
  by_cases s3:sz=3
  ·rw [if_pos s3] at h ⊢
   by_cases hc:n < 3∨b1 < lo∨hi < b1∨b2 < 128∨191 < b2
   ·rw [if_pos hc] at h; cases h
   ·rw [if_neg hc] at h
    cases h
    exact⟨by omega,by omega,by omega,by omega,by omega,by omega,fun g1 g2 g3 _=>by
     have:=g3 (by omega)
     rw [if_neg (by omega)]⟩
  ·rw [if_neg s3] at h ⊢
   by_cases s4:sz=4
   ·rw [if_pos s4] at h ⊢
    by_cases hc:n < 4∨b1 < lo∨hi < b1∨b2 < 128∨191 < b2∨b3 < 128∨191 < b3
    ·rw [if_pos hc] at h; cases h
    ·rw [if_neg hc] at h
     cases h
     exact⟨by omega,by omega,by omega,by omega,by omega,by omega,fun g1 g2 g3 g4=>by
      have:=g3 (by omega)
      have:=g4 (by omega)
      rw [if_neg (by omega)]⟩
   ·rw [if_neg s4] at h
    cases h
theorem check_sz {n b1 b2 b3 sz lo hi k:Nat} (h:Lib.checkN n b1 b2 b3 sz lo hi=some k):sz=2∨sz=3∨sz=4:=by
 unfold Lib.checkN at h
 by_cases s2:sz=2
 ·exact .inl s2
 by_cases s3:sz=3
 ·exact .inr (.inl s3)
 by_cases s4:sz=4
 ·exact .inr (.inr s4)
 rw [if_neg s2,if_neg s3,if_neg s4] at h
 cases h
theorem lo_all:∀ b:Fin 256,(Lib.firstT b.val%8=2∨Lib.firstT b.val%8=3∨Lib.firstT b.val%8=4)→128≤Lib.accLo (Lib.firstT b.val/16):=by decide+kernel
theorem getD_cut {a b:List UInt8} {j:Nat} (h:j < a.length):(a++b).getD j 0=a.getD j 0:=by
 rw [List.getD_eq_getElem?_getD,List.getD_eq_getElem?_getD,List.getElem?_append_left h]
theorem getD_at {a b:List UInt8} {c:UInt8} {j:Nat} (h:j=a.length):(a++c ::b).getD j 0=c:=by
 rw [List.getD_eq_getElem?_getD,h,List.getElem?_append_right (Nat.le_refl _),Nat.sub_self]
 rfl
theorem valid_cut:∀ (n:Nat) (a b:List UInt8),a.length≤n→Lib.validD (a++34 ::b)=true→Lib.validD a=true
 | _,[],_,_,_=>rfl
 | 0,_ ::_,_,hn,_=>absurd hn (by simp)
 | n+1,c ::r,b,hn,h=>by
  by_cases hc:c.toNat < 128
  ·rw [List.cons_append,Lib.validD_cons c _ hc] at h
   rw [Lib.validD_cons c r hc]
   exact valid_cut n r b (by simpa using hn) h
  ·rw [Lib.validD_lead ((c ::r)++34 ::b) (by simp) (by show 128≤c.toNat; omega)] at h
   rw [Lib.validD_lead (c ::r) (by simp) (by show 128≤c.toNat; omega)]
   rw [show ((c ::r)++34 ::b).getD 0 0=c from rfl] at h
   rw [show (c ::r).getD 0 0=c from rfl]
   split at h
   ·cases h
   rename_i k hk
   obtain⟨k2,d1,d2,d3,k4,kn,hcut⟩:=check_cut (n':=(c ::r).length) (c1:=((c ::r).getD 1 0).toNat) (c2:=((c ::r).getD 2 0).toNat) (c3:=((c ::r).getD 3 0).toNat) hk (lo_all ⟨c.toNat,c.toNat_lt⟩ (check_sz hk))
   have q34:∀ j,j=(c ::r).length→(((c ::r)++34 ::b).getD j 0).toNat=34:=fun j hj=>by rw [getD_at hj]; rfl
   have hkl:k≤(c ::r).length:=by
    refine Nat.le_of_not_lt fun hlt=> ?_
    have h0:1≤(c ::r).length:=by simp
    rcases (show (c ::r).length=1∨(c ::r).length=2∨(c ::r).length=3 by omega) with e | e | e
    ·have:=q34 1 e.symm; omega
    ·have:=q34 2 e.symm; have:=d2 (by omega); omega
    ·have:=q34 3 e.symm; have:=d3 (by omega); omega
   rw [hcut hkl (by rw [getD_cut (by omega)]) (fun g=>by rw [getD_cut (by omega)]) (fun g=>by rw [getD_cut (by omega)])]
   rw [List.drop_append_of_le_length hkl] at h
   exact valid_cut n _ b (by rw [List.length_drop]; omega) h
theorem qe_two (r:List UInt8):qe (34 ::34 ::r)=(qe r).map (· +2):=by rw [qe,if_pos rfl,if_pos rfl]
theorem qe_whole:∀ s:List UInt8,qe (dq s++[34])=some ((dq s).length+1)
 | [] =>rfl
 | c ::r=>by
  rw [dq]
  by_cases hc:c=34
  ·rw [if_pos hc,List.cons_append,List.cons_append,qe_two,qe_whole r]
   rfl
  ·rw [if_neg hc,List.cons_append,qe_skip hc,qe_whole r]
   rfl
theorem qe_cut:∀ (s:List UInt8) (m:Nat),((((dq s).take m).count 34)%2=0→qe ((dq s).take m)=none)∧((((dq s).take m).count 34)%2=1→qe ((dq s).take m)=some ((dq s).take m).length∧∃ a b,s=a++34 ::b∧(dq s).take m=dq a++[34])
 | [],m=>by
  rw [dq,List.take_nil]
  exact⟨fun _=>rfl,fun h=>by cases h⟩
 | c ::r,0=>by
  rw [List.take_zero]
  exact⟨fun _=>rfl,fun h=>by cases h⟩
 | c ::r,m+1=>by
  rw [dq]
  by_cases hc:c=34
  ·rw [if_pos hc]
   cases m with
   | zero=>
    rw [List.take_succ_cons,List.take_zero]
    exact⟨fun h=>absurd h (by simp),fun _=>⟨rfl,[],r,(by rw [hc]; rfl),rfl⟩⟩
   | succ m=>
    rw [List.take_succ_cons,List.take_succ_cons]
    obtain⟨h0,h1⟩:=qe_cut r m
    have hcnt:(34 ::34 ::(dq r).take m).count 34=((dq r).take m).count 34+2:=by rw [List.count_cons_self,List.count_cons_self]
    rw [hcnt,qe_two]
    refine⟨fun h=>by rw [h0 (by omega)]; rfl,fun h=> ?_⟩
    obtain⟨g1,a,b,g2,g3⟩:=h1 (by omega)
    refine⟨by rw [g1]; rfl,34 ::a,b,by rw [hc,g2]; rfl,?_⟩
    rw [g3,dq,if_pos rfl]
    rfl
  ·rw [if_neg hc,List.take_succ_cons]
   obtain⟨h0,h1⟩:=qe_cut r m
   rw [List.count_cons_of_ne hc,qe_skip hc]
   refine⟨fun h=>by rw [h0 h]; rfl,fun h=> ?_⟩
   obtain⟨g1,a,b,g2,g3⟩:=h1 h
   refine⟨by rw [g1]; rfl,c ::a,b,by rw [g2]; rfl,?_⟩
   rw [g3,dq,if_neg hc]
   rfl
theorem qdR_whole (s:List UInt8):qdR (qt s)=if Lib.validD s=false then (0,[],[],3) else if 1024 < s.length then (0,[],[],2) else (2,qt s,s,0):=by
 have h1:(qt s).drop 1=dq s++[34] :=rfl
 have hI:qdI (qt s) ((dq s).length+1)=s:=by
  unfold qdI
  rw [h1,Nat.add_sub_cancel,List.take_left,ud_dq]
 have hT:(qt s).take ((dq s).length+1+1)=qt s:=by
  rw [List.take_of_length_le]
  simp
 unfold qdR
 rw [h1,qe_whole]
 dsimp only
 rw [hI,hT]
theorem qdR_even {s:List UInt8} {m:Nat} (h:((dq s).take m).count 34%2=0):qdR (34 ::(dq s).take m)=(0,[],[],32):=by
 unfold qdR
 rw [show (34 ::(dq s).take m).drop 1=(dq s).take m from rfl,(qe_cut s m).1 h]
theorem qdR_odd {s:List UInt8} {m:Nat} (h:((dq s).take m).count 34%2=1) (hv:Lib.validD s=true) (hl:s.length≤1024):(qdR (34 ::(dq s).take m)).2.1=34 ::(dq s).take m∧(qdR (34 ::(dq s).take m)).2.2.2=0:=by
 obtain⟨g1,a,b,g2,g3⟩:=(qe_cut s m).2 h
 have hI:qdI (34 ::(dq s).take m) ((dq s).take m).length=a:=by
  unfold qdI
  rw [show (34 ::(dq s).take m).drop 1=(dq s).take m from rfl,g3,List.length_append,List.length_singleton,Nat.add_sub_cancel,List.take_left,ud_dq]
 have ha:Lib.validD a=true:=valid_cut _ a b (Nat.le_refl _) (by rw [← g2]; exact hv)
 have hal:¬1024 < a.length:=by
  have:s.length=a.length+(b.length+1):=by rw [g2,List.length_append,List.length_cons]
  omega
 have hT:(34 ::(dq s).take m).take (((dq s).take m).length+1)=34 ::(dq s).take m:=by
  rw [List.take_of_length_le]
  simp
 unfold qdR
 rw [show (34 ::(dq s).take m).drop 1=(dq s).take m from rfl,g1]
 dsimp only
 rw [hI,hT,ha,if_neg (by decide),if_neg hal]
 exact⟨rfl,rfl⟩
theorem dq_take {s:List UInt8} {m:Nat} (h:m≤(dq s).length):(dq s++[34]).take m=(dq s).take m:=List.take_append_of_le_length h
end Go.Proofs.YtdgfhijnconaoaaGreatDoor
namespace Go.Proofs.YtdgfhijnconaoaaGreatDoor
open Go Go.RowKit Ev
theorem dq_ge:∀ t:List UInt8,t.length≤(dq t).length
 | [] =>Nat.le_refl _
 | c ::r=>by
  have:=dq_ge r
  unfold dq
  split <;> simp only [List.length_cons] <;> omega
theorem qt_len (s:List UInt8):(qt s).length=(dq s).length+2:=by simp [qt]
theorem lnQ_qt (s:List UInt8):lnQ (qt s)=(((dq s).length+2:Nat):Int):=by unfold lnQ; rw [qt_len]
theorem byQ_last (s:List UInt8):byQ (qt s) ((dq s).length+1)=34:=by
 show ((((qt s).getD ((dq s).length+1) 0).toNat:Nat):Int)=34
 rw [show qt s=(34 ::dq s)++34 ::[] from rfl,getD_at (by simp)]
 rfl
theorem blP_ok {t:List UInt8} {i:Int} (h:0≤i):blP t i:=fun hc=>⟨h,by
 have:=of_decide_eq_true (show decide (i < lnQ t)=true from hc)
 have:i < (t.length:Int):=this
 omega⟩
theorem blB_in {t:List UInt8} {i:Int} (h:i < lnQ t):blB t i=decide (Lib.indexByte [32,9,10,13] ((byQ t i.toNat).toNat.toUInt8)≥0):=by
 unfold blB
 rw [decide_eq_true h]
theorem blB_out {t:List UInt8} {i:Int} (h:¬i < lnQ t):blB t i=false:=by
 unfold blB
 rw [decide_eq_false h]
theorem hd_ok {s:List UInt8} (hs:s.length≤1048576):allP (hdL (qt s) s):=by
 have h1:=dq_ge s
 have h2:=dq_len s
 have hw:IntKind.i64.wrap ((s.length:Int)+2)=(s.length:Int)+2:=w64 (by omega) (by omega)
 have hd:decide (lnQ (qt s) < IntKind.i64.wrap ((s.length:Int)+2))=false:=decide_eq_false (by rw [hw,lnQ_qt]; omega)
 have hl:IntKind.i64.wrap (lnQ (qt s)-1)=(((dq s).length+1:Nat):Int):=by rw [lnQ_qt,w64 (by omega) (by omega)]; omega
 have hA:hdA (qt s) s=false:=by
  unfold hdA
  rw [hd]
  rfl
 refine⟨?_,fun _=> ?_,fun _=>⟨Int.le_refl _,by rw [qt_len]; show 0 < _; omega⟩,hs,trivial⟩
 ·unfold hdB
  rw [hA,hl]
  show (byQ (qt s) ((dq s).length+1) !=34)=false
  rw [byQ_last]
  rfl
 ·rw [hl,qt_len]
  omega
theorem bl_q (w:List UInt8):blB (34 ::w) 0=false:=by
 rw [blB_in (by show (0:Int) < ((34 ::w).length:Int); rw [List.length_cons]; omega)]
 rfl
theorem erV_3 (q s:List UInt8):erV q s 3 0 0=true:=rfl
theorem erV_2 {q s:List UInt8} (h:4096 < lnQ q∨1024 < s.length):erV q s 2 0 0=true:=by
 unfold erV
 rcases h with h | h
 ·rw [decide_eq_true (show lnQ q > 4096 from h)]
  rfl
 ·rw [decide_eq_true (show (s.length:Int) > 1024 by omega)]
  cases decide (lnQ q > 4096) <;> rfl
theorem take_one {t:List UInt8} {k:Nat} (h:k < t.length):t.take (k+1)=t.take k++[t.getD k 0] :=by
 rw [List.take_succ_eq_append_getElem h,List.getD_eq_getElem?_getD,List.getElem?_eq_getElem h]
 rfl
theorem apL {a b:List Prop} (h:allP a) (k:allP b):allP (a++b):=(allP_append _ _).2 ⟨h,k⟩
section
variable (hk:Known11)
include hk
theorem lq_loop {w:List UInt8} {N:Nat} (h1:1≤N) (hN:N≤w.length) (hw:w.length≤4194304):LoopTo XLq2 cLq (tLq (34 ::w) (N:Int) ((0:Nat):Int) ((1:Nat):Int)) (.exit 0) (tLq (34 ::w) (N:Int) (((w.take (N-1)).count 34:Nat):Int) (N:Int)):=by
 refine loop_run (fun j=>tLq (34 ::w) (N:Int) (((w.take j).count 34:Nat):Int) ((j+1:Nat):Int)) (N-1) (by intro e; cases e) (fun j hj=> ?_) ?_
 ·have hb:(0:Int)≤((j+1:Nat):Int)∧j+1 < (34 ::w).length:=⟨by omega,by simp only [List.length_cons]; omega⟩
  have hd:decide (((j+1:Nat):Int) < (N:Int))=true:=decide_eq_true (by omega)
  have hi:IntKind.i64.wrap (((j+1:Nat):Int)+1)=((j+1+1:Nat):Int):=by rw [w64 (by omega) (by omega)]; omega
  have hc:=List.count_le_length (a:=(34:UInt8)) (l:=w.take j)
  rw [List.length_take] at hc
  have hv:byQ (34 ::w) (j+1)=((w.getD j 0).toNat:Int):=rfl
  have ht:=take_one (t:=w) (k:=j) (by omega)
  cases hq:byQ (34 ::w) (j+1)==34 with
  | true=>
   have:=lo_y hk (34 ::w) N ((w.take j).count 34) (j+1) ⟨hq,hb,hd,trivial⟩
   rw [hi,w64 (n:=(((w.take j).count 34:Nat):Int)+1) (by omega) (by omega)] at this
   have e34:w.getD j 0=34:=UInt8.toNat_inj.1 (by
    rw [hv] at hq
    have:=eq_of_beq hq
    show (w.getD j 0).toNat=34
    omega)
   have hcnt:(w.take (j+1)).count 34=(w.take j).count 34+1:=by rw [ht,e34,List.count_append,List.count_singleton_self]
   rw [hcnt]
   exact this
  | false=>
   have:=lo_n hk (34 ::w) N ((w.take j).count 34) (j+1) ⟨hq,hb,hd,trivial⟩
   rw [hi] at this
   have e34:¬w.getD j 0=34:=fun e=>by
    rw [hv,e] at hq
    cases hq
   have hcnt:(w.take (j+1)).count 34=(w.take j).count 34:=by
    rw [ht,List.count_append,List.count_singleton]
    rw [if_neg (by simpa using e34)]
    rfl
   rw [hcnt]
   exact this
 ·have:=lo_x hk (34 ::w) N ((w.take (N-1)).count 34) N ⟨decide_eq_false (Int.lt_irrefl _),trivial⟩
  rw [show N-1+1=N by omega]
  exact this
theorem lexQuotes_pure {s:List UInt8} {cut:Int} (hs:s.length≤1048576) (hc: -9223372036854775808≤cut∧cut≤9223372036854775807):Ev.Pure Tryz.prog J0 6 [.string ⟨⟨s⟩⟩, .int .i64 cut] (.bool true):=by
 have hd:=hd_ok hs
 have hge:=dq_ge s
 have hlq:=lnQ_qt s
 by_cases hL:4096 < lnQ (qt s)
 ·have:=pureC (bLq2_ok hk) (lq_a s cut) (apL (a:=[true=true,true=true,pV 13,decide (4096 < lnQ (qt s))=true]) ⟨rfl,rfl,rfl,decide_eq_true hL,trivial⟩ hd)
  rw [erV_2 (.inl hL)] at this
  exact this
 have hle:(dq s).length+2≤4096:=by omega
 have hL':decide (4096 < lnQ (qt s))=false:=decide_eq_false hL
 have hsc:scP (qt s):=⟨rfl,by rw [qt_len]; omega⟩
 have h00:(0:Int)≤0∧0≤lnQ (qt s):=⟨Int.le_refl _,by omega⟩
 have hb0:=bl_q (dq s++[34])
 have hp0:blP (qt s) 0:=blP_ok (Int.le_refl _)
 have hR:=qdR_whole s
 have wayB:∀ e:Int,eQ (qt s)=e→(e !=0)=true→erV (qt s) s e 0 0=true→Ev.Pure Tryz.prog J0 6 [.string ⟨⟨s⟩⟩, .int .i64 cut] (.bool true):=fun e he hne hr=>by
  have h1:(eQ (qt s) !=0)=true:=by rw [he]; exact hne
  have:=pureC (bLq2_ok hk) (lq_b s cut) (apL (apL (a:=[(eQ (qt s) !=0)=true]) ⟨h1,trivial⟩ (show allP (tkB (qt s)) from⟨h1,rfl,h1,hsc,h00,rfl,hb0,hp0,hL',trivial⟩)) hd)
  rw [he,hr] at this
  exact this
 cases hv:Lib.validD s with
 | false=>exact wayB 3 (by show (qdR (qt s)).2.2.2=3; rw [hR,hv]; rfl) rfl (erV_3 _ _)
 | true=>
  by_cases h1024:1024 < s.length
  ·exact wayB 2 (by show (qdR (qt s)).2.2.2=2; rw [hR,hv,if_neg (by decide),if_pos h1024]) rfl (erV_2 (.inr h1024))
  have hR':qdR (qt s)=(2,qt s,s,0):=by rw [hR,hv,if_neg (by decide),if_neg h1024]
  clear wayB hR
  have h2:=dq_len s
  have hw1:IntKind.i64.wrap (lnQ (qt s)-1)=(((dq s).length+1:Nat):Int):=by rw [hlq,w64 (by omega) (by omega)]; omega
  have hpk:=pkV_range (c:=cut) (n:=(((dq s).length+1:Nat):Int)) (by omega)
  obtain⟨M,hM⟩:∃ M:Nat,pkV cut (((dq s).length+1:Nat):Int)=(M:Int):=⟨(pkV cut (((dq s).length+1:Nat):Int)).toNat,by omega⟩
  rw [hM] at hpk
  have hnn:nnQ (qt s) cut=((M+1:Nat):Int):=by
   show IntKind.i64.wrap (1+pkV cut (IntKind.i64.wrap (lnQ (qt s)-1)))=_
   rw [hw1,hM,w64 (by omega) (by omega)]
   omega
  have hMl:M≤(dq s).length:=by omega
  have hcu:cu2 (qt s) ((M+1:Nat):Int)=34 ::(dq s).take M:=by
   show (34 ::(dq s++[34])).take (M+1)=_
   rw [List.take_succ_cons,dq_take hMl]
  have hcT:cuT (qt s) ((M+1:Nat):Int)=32 ::32 ::34 ::(dq s).take M:=by
   show [32,32] ++cu2 (qt s) ((M+1:Nat):Int)=_
   rw [hcu]
   rfl
  have hxl:((dq s).take M).length=M:=by rw [List.length_take]; omega
  have hlT:lnQ (cuT (qt s) ((M+1:Nat):Int))=((M+3:Nat):Int):=by
   rw [hcT]
   show ((32 ::32 ::34 ::(dq s).take M).length:Int)=_
   rw [List.length_cons,List.length_cons,List.length_cons,hxl]
  have hloop:=fun ds:List Bool=>lq_into s cut (ds:=ds) (x:= .exit 0) (s':=tLq (qt s) ((M+1:Nat):Int) (((dq s).take M).count 34:Nat) ((M+1:Nat):Int)) (by
   have:=lq_loop hk (w:=dq s++[34]) (N:=M+1) (by omega) (by rw [List.length_append,List.length_singleton]; omega) (by rw [List.length_append,List.length_singleton]; omega)
   rw [Nat.add_sub_cancel,dq_take hMl] at this
   rw [hnn]
   exact this)
  have hpkP:pkP (qt s) cut:=⟨by rw [hw1]; omega,hc⟩
  have hlt:allP (ltL s (qt s)):=by
   refine⟨?_,fun _=>⟨⟨Int.le_refl _,by decide⟩,by decide⟩,fun _=>⟨⟨Int.le_refl _,by decide⟩,by decide⟩,fun _=>⟨⟨Int.le_refl _,by decide⟩,by decide⟩,trivial⟩
   have htQ:tQ (qt s)=qt s:=by show (qdR (qt s)).2.1=qt s; rw [hR']
   rw [htQ,hR']
   show ltC s (qt s) (qt s) s 2=false
   unfold ltC ltB
   rw [beq_self_eq_true,beq_self_eq_true]
   rfl
  have htQ:tQ (qt s)=qt s:=by show (qdR (qt s)).2.1=qt s; rw [hR']
  have heQ:(eQ (qt s) !=0)=false:=by show ((qdR (qt s)).2.2.2 !=0)=false; rw [hR']; rfl
  have hwl:IntKind.i64.wrap (0+lnQ (tQ (qt s)))=lnQ (qt s):=by rw [htQ,hlq,w64 (by omega) (by omega)]; omega
  have htC:allP (tkC (qt s)):=⟨rfl,rfl,by rw [hwl]; exact beq_self_eq_true _,by rw [hwl]; exact blB_out (Int.lt_irrefl _),by rw [hwl]; exact blP_ok (by omega),rfl,⟨by decide,by decide⟩,by rw [htQ,qt_len]; omega,heQ,hsc,h00,rfl,hb0,hp0,hL',trivial⟩
  have hH:allP (tkH (qt s) ((M+1:Nat):Int)):=by
   refine⟨?_,⟨by omega,by rw [hlT]; omega⟩,?_,?_,blP_ok (by omega),?_,blP_ok (by omega),?_,blP_ok (Int.le_refl _),decide_eq_false (by rw [hlT]; omega),?_,⟨by omega,by rw [hlq]; omega⟩,trivial⟩
   ·rw [hcu]
    exact⟨rfl,by rw [List.length_cons,hxl]; omega⟩
   ·rw [hlT]
    exact beq_false_of_ne (by omega)
   ·rw [blB_in (by rw [hlT]; omega),hcT]
    rfl
   ·rw [blB_in (by rw [hlT]; omega),hcT]
    rfl
   ·rw [blB_in (by rw [hlT]; omega),hcT]
    rfl
   ·have:=List.length_take_le ((M+1:Nat):Int).toNat (qt s)
    omega
  obtain⟨c,hcc⟩:∃ c,((dq s).take M).count 34=c:=⟨_,rfl⟩
  have hcm:(c:Int).tmod 2=((c%2:Nat):Int):=(Int.ofNat_tmod _ 2).symm
  rw [hcc] at hloop
  rcases Nat.mod_two_eq_zero_or_one c with hpar | hpar
  ·have he:eQ (cu2 (qt s) ((M+1:Nat):Int))=32:=by
    rw [hcu]
    show (qdR (34 ::(dq s).take M)).2.2.2=32
    rw [qdR_even (by rw [hcc]; exact hpar)]
   have hne:(eQ (cu2 (qt s) ((M+1:Nat):Int)) !=0)=true:=by rw [he]; rfl
   have:=pureC (bLq2_ok hk) (lq_d s cut ((M+1:Nat):Int) c) (apL (apL (apL (apL (apL (apL (a:=[((c:Int).tmod 2==0)=true]) ⟨by rw [hcm,hpar]; rfl,trivial⟩ (apL ⟨hne,rfl,hne,trivial⟩ hH)) ⟨hloop _,hpkP,trivial⟩) hlt) ⟨rfl,trivial⟩) htC) hd)
   rw [he] at this
   exact this
  ·obtain⟨o1,o2⟩:=qdR_odd (by rw [hcc]; exact hpar) hv (by omega)
   have ht2:tQ (cu2 (qt s) ((M+1:Nat):Int))=34 ::(dq s).take M:=by rw [hcu]; exact o1
   have he:(eQ (cu2 (qt s) ((M+1:Nat):Int)) !=0)=false:=by
    rw [hcu]
    show ((qdR (34 ::(dq s).take M)).2.2.2 !=0)=false
    rw [o2]
    rfl
   have hl2:IntKind.i64.wrap (2+lnQ (tQ (cu2 (qt s) ((M+1:Nat):Int))))=lnQ (cuT (qt s) ((M+1:Nat):Int)):=by
    rw [hlT,ht2]
    show IntKind.i64.wrap (2+((34 ::(dq s).take M).length:Int))=_
    rw [List.length_cons,hxl,w64 (by omega) (by omega)]
    omega
   have hE:allP (tkE (qt s) ((M+1:Nat):Int)):=apL ⟨rfl,rfl,by rw [hl2]; exact beq_self_eq_true _,by rw [hl2]; exact blB_out (Int.lt_irrefl _),by rw [hl2]; exact blP_ok (by rw [hlT]; omega),rfl,⟨by decide,by decide⟩,by rw [ht2,List.length_cons,hxl]; omega,he,trivial⟩ hH
   exact pureC (bLq2_ok hk) (lq_e s cut ((M+1:Nat):Int) c) (apL (apL (apL (apL (apL (apL (a:=[((c:Int).tmod 2==0)=false]) ⟨by rw [hcm,hpar]; rfl,trivial⟩ hE) ⟨hloop _,hpkP,trivial⟩) hlt) ⟨rfl,trivial⟩) htC) hd)
end
end Go.Proofs.YtdgfhijnconaoaaGreatDoor
namespace Go.Proofs.YtdgfhijnconaoaaGreatDoor.Wd
def val (b:Nat):List Int→Nat
 | [] =>0
 | x ::r=>x.toNat+b*val b r
def Dg (b:Nat) (l:List Int):Prop:=∀ x∈l,0≤x∧x < (b:Int)
theorem Dg.nil (b:Nat):Dg b [] :=fun _ h=>by cases h
theorem Dg.cons {b:Nat} {x:Int} {l:List Int} (h:0≤x∧x < (b:Int)) (k:Dg b l):Dg b (x ::l):=by
 intro y hy
 rcases List.mem_cons.1 hy with rfl | hy
 ·exact h
 ·exact k y hy
theorem Dg.head {b:Nat} {x:Int} {l:List Int} (h:Dg b (x ::l)):0≤x∧x < (b:Int):=h x (List.mem_cons_self ..)
theorem Dg.tail {b:Nat} {x:Int} {l:List Int} (h:Dg b (x ::l)):Dg b l:=fun y hy=>h y (List.mem_cons_of_mem _ hy)
theorem Dg.get {b:Nat} (hb:0 < b) {l:List Int} (h:Dg b l) (i:Nat):0≤l.getD i 0∧l.getD i 0 < (b:Int):=by
 rw [List.getD_eq_getElem?_getD]
 cases e:l[i]? with
 | none=>simp; omega
 | some x=>simpa using h x (List.mem_of_getElem? e)
theorem Dg.set {b:Nat} {l:List Int} (h:Dg b l) {x:Int} (hx:0≤x∧x < (b:Int)) (i:Nat):Dg b (l.set i x):=by
 intro y hy
 rcases List.mem_or_eq_of_mem_set hy with hy | rfl
 ·exact h y hy
 ·exact hx
theorem Dg.append {b:Nat} {l m:List Int} (h:Dg b l) (k:Dg b m):Dg b (l++m):=by
 intro y hy
 rcases List.mem_append.1 hy with hy | hy
 ·exact h y hy
 ·exact k y hy
theorem Dg.take {b:Nat} {l:List Int} (h:Dg b l) (i:Nat):Dg b (l.take i):=fun y hy=>h y (List.mem_of_mem_take hy)
theorem Dg.drop {b:Nat} {l:List Int} (h:Dg b l) (i:Nat):Dg b (l.drop i):=fun y hy=>h y (List.mem_of_mem_drop hy)
theorem Dg.zeros (b:Nat) (hb:0 < b) (n:Nat):Dg b (List.replicate n 0):=by
 intro y hy
 have:=List.eq_of_mem_replicate hy
 subst this
 omega
theorem val_append (b:Nat):∀ l m:List Int,val b (l++m)=val b l+b ^l.length*val b m
 | [],m=>by simp [val]
 | x ::l,m=>by
  simp only [List.cons_append,val,val_append b l m,List.length_cons,Nat.pow_succ]
  rw [Nat.mul_add,← Nat.mul_assoc,Nat.mul_comm b (b ^l.length)]
  omega
theorem val_zeros (b:Nat):∀ n,val b (List.replicate n 0)=0
 | 0=>rfl
 | n+1=>by simp [List.replicate_succ,val,val_zeros b n]
theorem val_lt {b:Nat} (hb:0 < b):∀ {l:List Int},Dg b l→val b l < b ^l.length
 | [],_=>by simp [val]
 | x ::l,h=>by
  have h1:=h.head
  have h2:=val_lt hb h.tail
  simp only [val,List.length_cons,Nat.pow_succ]
  have h3:b*val b l+b≤b*b ^l.length:=by
   rw [← Nat.mul_succ]
   exact Nat.mul_le_mul_left b h2
  rw [Nat.mul_comm (b ^l.length) b]
  omega
theorem val_inj {b:Nat} (hb:0 < b):∀ {l m:List Int},Dg b l→Dg b m→l.length=m.length→val b l=val b m→l=m
 | [],[],_,_,_,_=>rfl
 | [],_ ::_,_,_,h,_=>by simp at h
 | _ ::_,[],_,_,h,_=>by simp at h
 | x ::l,y ::m,hl,hm,hn,hv=>by
  have h1:=hl.head
  have h2:=hm.head
  simp only [val] at hv
  have e1:(x.toNat+b*val b l)%b=x.toNat:=by rw [Nat.add_mul_mod_self_left]; exact Nat.mod_eq_of_lt (by omega)
  have e2:(y.toNat+b*val b m)%b=y.toNat:=by rw [Nat.add_mul_mod_self_left]; exact Nat.mod_eq_of_lt (by omega)
  have e:x.toNat=y.toNat:=by rw [← e1,← e2,hv]
  have hv2:b*val b l=b*val b m:=by omega
  have:=val_inj hb hl.tail hm.tail (by simpa using hn) (Nat.eq_of_mul_eq_mul_left hb hv2)
  subst this
  congr 1
  omega
def dig (b m i:Nat):Nat:=m/b ^i%b
theorem dig_lt {b:Nat} (hb:0 < b) (m i:Nat):dig b m i < b:=Nat.mod_lt _ hb
theorem getD_dig {b:Nat} (hb:0 < b):∀ {l:List Int},Dg b l→∀ i,l.getD i 0=(dig b (val b l) i:Int)
 | [],_,i=>by simp [dig,val]
 | x ::l,h,0=>by
  have h1:=h.head
  simp only [List.getD_cons_zero,dig,val,Nat.pow_zero,Nat.div_one,Nat.add_mul_mod_self_left]
  rw [Nat.mod_eq_of_lt (by omega)]
  omega
 | x ::l,h,i+1=>by
  have h1:=h.head
  rw [List.getD_cons_succ,getD_dig hb h.tail i]
  simp only [dig,val]
  rw [Nat.pow_succ,Nat.mul_comm (b ^i) b,← Nat.div_div_eq_div_mul,Nat.add_mul_div_left _ _ hb,Nat.div_eq_of_lt (show x.toNat < b by omega),Nat.zero_add]
def dl (b:Nat):Nat→Nat→List Int
 | 0,_=>[]
 | n+1,m=>((m%b:Nat):Int) ::dl b n (m/b)
theorem dl_length (b:Nat):∀ n m,(dl b n m).length=n
 | 0,_=>rfl
 | n+1,m=>by simp [dl,dl_length b n]
theorem dl_dg {b:Nat} (hb:0 < b):∀ n m,Dg b (dl b n m)
 | 0,_=>Dg.nil b
 | n+1,m=>Dg.cons (by have:=Nat.mod_lt m hb; omega) (dl_dg hb n _)
theorem dl_val (b:Nat):∀ n m,val b (dl b n m)=m%b ^n
 | 0,m=>by simp [dl,val,Nat.mod_one]
 | n+1,m=>by
  simp only [dl,val,dl_val b n]
  rw [Nat.pow_succ,Nat.mul_comm (b ^n) b,Nat.mod_mul,Int.toNat_natCast]
theorem dl_eq {b:Nat} (hb:0 < b) {l:List Int} (h:Dg b l) {n m:Nat} (hn:l.length=n) (hm:val b l=m):l=dl b n m:=by
 subst hn hm
 exact val_inj hb h (dl_dg hb _ _) (dl_length b _ _).symm (by rw [dl_val,Nat.mod_eq_of_lt (val_lt hb h)])
theorem val_set {b:Nat} :∀ {l:List Int} {i:Nat} (x:Int),i < l.length→val b (l.set i x)+(l.getD i 0).toNat*b ^i=val b l+x.toNat*b ^i
 | [],_,_,h=>by simp at h
 | y ::l,0,x,_=>by simp [val]; omega
 | y ::l,i+1,x,h=>by
  have ih:=val_set (b:=b) (l:=l) (i:=i) x (by simpa using h)
  simp only [List.set_cons_succ,val,List.getD_cons_succ,Nat.pow_succ]
  have h1:b*val b (l.set i x)+b*((l.getD i 0).toNat*b ^i)=b*val b l+b*(x.toNat*b ^i):=by rw [← Nat.mul_add,← Nat.mul_add,ih]
  have h2:(l.getD i 0).toNat*(b ^i*b)=b*((l.getD i 0).toNat*b ^i):=by rw [Nat.mul_comm b,Nat.mul_assoc]
  have h3:x.toNat*(b ^i*b)=b*(x.toNat*b ^i):=by rw [Nat.mul_comm b,Nat.mul_assoc]
  omega
theorem val_take_drop (b:Nat) (l:List Int) (i:Nat) (h:i≤l.length):val b l=val b (l.take i)+b ^i*val b (l.drop i):=by
 have:=val_append b (l.take i) (l.drop i)
 rw [List.take_append_drop,List.length_take,Nat.min_eq_left h] at this
 exact this
theorem mod_dig (b m i:Nat):m%b ^(i+1)=m%b ^i+dig b m i*b ^i:=by
 rw [Nat.pow_succ,Nat.mod_mul]
 unfold dig
 rw [Nat.mul_comm (b ^i)]
def wsF (b:Nat):Nat→Nat→List Int
 | 0,_=>[]
 | f+1,m=>match m with
  | 0=>[]
  | m+1=>(((m+1)%b:Nat):Int) ::wsF b f ((m+1)/b)
def ws (b m:Nat):List Int:=wsF b m m
def trimW (l:List Int):List Int:=(l.reverse.dropWhile (· ==0)).reverse
theorem trimW_snoc (l:List Int) (x:Int):trimW (l++[x])=if x=0 then trimW l else l++[x] :=by
 unfold trimW
 rw [List.reverse_append]
 simp only [List.reverse_cons,List.reverse_nil,List.nil_append,List.singleton_append]
 rw [List.dropWhile_cons]
 by_cases h:x=0
 ·subst h; simp
 ·have:(x==0)=false:=by simpa using h
  simp [this,h]
end Go.Proofs.YtdgfhijnconaoaaGreatDoor.Wd
namespace Go.Proofs.YtdgfhijnconaoaaGreatDoor
open Go Go.RowKit Ev Wd
def specAddS:List Value→Option (Value×List Prop)
 | [.int .u64 x, .int .u64 y, .int .u64 c] =>some (.tuple ⟨[.int .u64 (Int.ofNat ((x.toNat+y.toNat+c.toNat)%18446744073709551616)), .int .u64 (Int.ofNat ((x.toNat+y.toNat+c.toNat)/18446744073709551616))]⟩,[c.toNat≤1])
 | _=>none
theorem specAddS_ok (args:List Value) (v:Value) (l:List Prop) (h:specAddS args=some (v,l)) (hl:allP l):Pure Tryz.prog J0 146 args v:=by
 unfold specAddS at h
 split at h
 case h_2=>cases h
 rename_i x y c
 cases h
 have hc:c.toNat≤1:=hl.1
 refine specAdd64_ok [.int .u64 x, .int .u64 y, .int .u64 c] _ [] ?_ trivial
 simp only [specAdd64,Nat.ble_eq_true_of_le hc]
def subLo (x y c:Int):Int:=Int.ofNat ((x.toNat+18446744073709551616-y.toNat-c.toNat)%18446744073709551616)
def subHi (x y c:Int):Int:=Int.ofNat (match Nat.blt x.toNat (y.toNat+c.toNat) with | true=>1 | false=>0)
def specSubS:List Value→Option (Value×List Prop)
 | [.int .u64 x, .int .u64 y, .int .u64 c] =>some (.tuple ⟨[.int .u64 (subLo x y c), .int .u64 (subHi x y c)]⟩,[c.toNat≤1])
 | _=>none
theorem specSubS_ok (args:List Value) (v:Value) (l:List Prop) (h:specSubS args=some (v,l)) (hl:allP l):Pure Tryz.prog J0 228 args v:=by
 unfold specSubS at h
 split at h
 case h_2=>cases h
 rename_i x y c
 cases h
 have hc:c.toNat≤1:=hl.1
 refine specSub64_ok [.int .u64 x, .int .u64 y, .int .u64 c] _ [] ?_ trivial
 simp only [specSub64,Nat.ble_eq_true_of_le hc]
 rfl
noncomputable def tabW0:Tab:=tabAdd 146 specAddS (tabAdd 228 specSubS (tabAdd 20 specF64bits (tabAdd 91 specF64from tab0)))
theorem tabW0_ok:PcOk Tryz.prog J0 tabW0:=tabAdd_ok specAddS_ok (tabAdd_ok specSubS_ok (tabAdd_ok specF64bits_ok (tabAdd_ok specF64from_ok (tab0_ok _ _))))
noncomputable def bW0:Base:=⟨Tryz.prog,J0,false,tabW0,mtab0,200,xtN0⟩
theorem bW0_ok:BaseOk bW0:=⟨progOk,tabW0_ok,mtab0_ok _ _,xtN0_ok⟩
noncomputable abbrev XW0:Cx:=bW0.cx 10
abbrev W64:Nat:=18446744073709551616
theorem W64_pos:0 < W64:=by decide
abbrev slV (j n:Nat):Value:= .slice (some ⟨j,0,some (j+1)⟩) n 0
abbrev u64T:TypeId:=32
theorem wrap_nat {n:Nat} (h:n < 9223372036854775808):IntKind.i64.wrap (n:Int)=(n:Int):=by
 have:=IntKind.wrap_i64 (n:Int)
 omega
noncomputable def cPlus:Code:=loopAt Tryz.prog 201 0
def TPlus (p q:Nat) (xs ys L:List Int) (na nb N:Nat) (la c i:Int):St:=
 ⟨only 53 [(0,slV p na),(1,slV q nb),(5,slV 15 N),(6, .int .u64 c),(20,slV p na),(21, .int .i64 la),(22, .int .i64 i)],[(15, .row u64T 1 (.ints .u64 L) 16),(p, .ints .u64 xs),(q, .ints .u64 ys)],17,[],[],0,none,[],15⟩
section
variable (xs ys L:List Int) (na nb N:Nat) (la c i:Int)
theorem plus_both (p q:Nat) (hpq:(p=11∧q=13)∨(p=13∧q=11)) (h0:decide (i < la)=true) (h1:decide (i < Int.ofNat nb)=true) (h2:((Int.ofNat 0≤i∧i < Int.ofNat nb)∧0 < ys.length)∧i.toNat < ys.length)
  (h3:((Int.ofNat 0≤i∧i < Int.ofNat na)∧0 < xs.length)∧i.toNat < xs.length) (h4:c.toNat≤1) (h5:((Int.ofNat 0≤i∧i < Int.ofNat N)∧0 < L.length)∧i.toNat < L.length):
  Step XW0 cPlus (TPlus p q xs ys L na nb N la c i) .normal (TPlus p q xs ys (setF L i.toNat (Int.ofNat (((xs.getD i.toNat 0).toNat+(ys.getD i.toNat 0).toNat+c.toNat)%18446744073709551616))) na nb N la
   (Int.ofNat (((xs.getD i.toNat 0).toNat+(ys.getD i.toNat 0).toNat+c.toNat)/18446744073709551616)) (IntKind.i64.wrap (i+1))):=by
 have hl:allP [i.toNat < L.length,(Int.ofNat 0≤i∧i < Int.ofNat N)∧0 < L.length,c.toNat≤1,i.toNat < xs.length,(Int.ofNat 0≤i∧i < Int.ofNat na)∧0 < xs.length,i.toNat < ys.length,
   (Int.ofNat 0≤i∧i < Int.ofNat nb)∧0 < ys.length,decide (i < Int.ofNat nb)=true,decide (i < la)=true] :=⟨h5.2,h5.1,h4,h3.2,h3.1,h2.2,h2.1,h1,h0,trivial⟩
 rcases hpq with ⟨rfl,rfl⟩ | ⟨rfl,rfl⟩
 ·exact step_of (Base.cx_ok bW0_ok 10).1 progOk.mixed [] 200 [true,true] [] (by kernel_rfl) hl (by kernel_rfl) (by kernel_rfl)
 ·exact step_of (Base.cx_ok bW0_ok 10).1 progOk.mixed [] 200 [true,true] [] (by kernel_rfl) hl (by kernel_rfl) (by kernel_rfl)
theorem plus_one (p q:Nat) (hpq:(p=11∧q=13)∨(p=13∧q=11)) (h0:decide (i < la)=true) (h1:decide (i < Int.ofNat nb)=false)
  (h3:((Int.ofNat 0≤i∧i < Int.ofNat na)∧0 < xs.length)∧i.toNat < xs.length) (h4:c.toNat≤1) (h5:((Int.ofNat 0≤i∧i < Int.ofNat N)∧0 < L.length)∧i.toNat < L.length):
  Step XW0 cPlus (TPlus p q xs ys L na nb N la c i) .normal (TPlus p q xs ys (setF L i.toNat (Int.ofNat (((xs.getD i.toNat 0).toNat+Int.toNat 0+c.toNat)%18446744073709551616))) na nb N la
   (Int.ofNat (((xs.getD i.toNat 0).toNat+Int.toNat 0+c.toNat)/18446744073709551616)) (IntKind.i64.wrap (i+1))):=by
 have hl:allP [i.toNat < L.length,(Int.ofNat 0≤i∧i < Int.ofNat N)∧0 < L.length,c.toNat≤1,i.toNat < xs.length,(Int.ofNat 0≤i∧i < Int.ofNat na)∧0 < xs.length,decide (i < Int.ofNat nb)=false,decide (i < la)=true] :=⟨h5.2,h5.1,h4,h3.2,h3.1,h1,h0,trivial⟩
 rcases hpq with ⟨rfl,rfl⟩ | ⟨rfl,rfl⟩
 ·exact step_of (Base.cx_ok bW0_ok 10).1 progOk.mixed [] 200 [true,false] [] (by kernel_rfl) hl (by kernel_rfl) (by kernel_rfl)
 ·exact step_of (Base.cx_ok bW0_ok 10).1 progOk.mixed [] 200 [true,false] [] (by kernel_rfl) hl (by kernel_rfl) (by kernel_rfl)
theorem plus_out (p q:Nat) (hpq:(p=11∧q=13)∨(p=13∧q=11)) (h0:decide (i < la)=false):Step XW0 cPlus (TPlus p q xs ys L na nb N la c i) (.exit 0) (TPlus p q xs ys L na nb N la c i):=by
 rcases hpq with ⟨rfl,rfl⟩ | ⟨rfl,rfl⟩
 ·exact step_of (Base.cx_ok bW0_ok 10).1 progOk.mixed [] 200 [false] [] (l:=[decide (i < la)=false]) (by kernel_rfl) ⟨h0,trivial⟩ (by kernel_rfl) (by kernel_rfl)
 ·exact step_of (Base.cx_ok bW0_ok 10).1 progOk.mixed [] 200 [false] [] (l:=[decide (i < la)=false]) (by kernel_rfl) ⟨h0,trivial⟩ (by kernel_rfl) (by kernel_rfl)
end
theorem col_sum {A B V c i a b:Nat} {w:Nat} (h:V+c*w ^i=A%w ^i+B%w ^i) (ha:dig w A i=a) (hb:dig w B i=b):
  V+(a+b+c)%w*w ^i+(a+b+c)/w*w ^(i+1)=A%w ^(i+1)+B%w ^(i+1):=by
 rw [mod_dig,mod_dig,ha,hb]
 have e:(a+b+c)%w*w ^i+(a+b+c)/w*w ^(i+1)=(a+b+c)*w ^i:=by
  rw [Nat.pow_succ,← Nat.mul_assoc,Nat.mul_right_comm,← Nat.add_mul]
  congr 1
  have:=Nat.mod_add_div (a+b+c) w
  rw [Nat.mul_comm] at this
  omega
 have e2:(a+b+c)*w ^i=a*w ^i+b*w ^i+c*w ^i:=by rw [Nat.add_mul,Nat.add_mul]
 omega
structure IPl where
 i:Nat
 c:Int
 L:List Int
def goodP (n A B:Nat) (p:IPl):Prop:=
 p.i≤n∧p.L.length=n+1∧Dg W64 p.L∧0≤p.c∧p.c≤1∧(∀ j,p.i≤j→p.L.getD j 0=0)∧val W64 p.L+p.c.toNat*W64 ^p.i=A%W64 ^p.i+B%W64 ^p.i
noncomputable def plusN (xs ys:List Int) (p:IPl):IPl:=
 ⟨p.i+1,Int.ofNat (((xs.getD p.i 0).toNat+(ys.getD p.i 0).toNat+p.c.toNat)/18446744073709551616),setF p.L p.i (Int.ofNat (((xs.getD p.i 0).toNat+(ys.getD p.i 0).toNat+p.c.toNat)%18446744073709551616))⟩
def zeroI (n:Nat):IPl:=⟨0,0,List.replicate n 0⟩
theorem getD_set_ne {l:List Int} {i j:Nat} (h:i≠j) (x:Int):(l.set i x).getD j 0=l.getD j 0:=by
 rw [List.getD_eq_getElem?_getD,List.getD_eq_getElem?_getD,List.getElem?_set_ne h]
theorem getD_zeros (n j:Nat):(List.replicate n (0:Int)).getD j 0=0:=by
 rw [List.getD_eq_getElem?_getD,List.getElem?_replicate]
 split <;> rfl
theorem getD_beyond {l:List Int} {i:Nat} (h:l.length≤i):l.getD i 0=0:=by
 rw [List.getD_eq_getElem?_getD,List.getElem?_eq_none h]
 rfl
theorem mod_dgW (n:Nat):0≤Int.ofNat (n%18446744073709551616)∧Int.ofNat (n%18446744073709551616) < ((W64:Nat):Int):=by
 have:=Nat.mod_lt n W64_pos
 simp only [Int.ofNat_eq_natCast]
 exact⟨by omega,by exact_mod_cast this⟩
theorem plus_sum_lt {a b c:Nat} (ha:a < W64) (hb:b < W64) (hc:c≤1):(a+b+c)/18446744073709551616≤1:=by
 have:a < 18446744073709551616:=ha
 have:b < 18446744073709551616:=hb
 omega
theorem goodP_next {n:Nat} {xs ys:List Int} (hx:Dg W64 xs) (hy:Dg W64 ys) {p:IPl} (h:goodP n (val W64 xs) (val W64 ys) p) (hi:p.i < n):goodP n (val W64 xs) (val W64 ys) (plusN xs ys p):=by
 obtain⟨h1,h2,h3,h4,h5,h6,h7⟩:=h
 have gx:=getD_dig W64_pos hx p.i
 have gy:=getD_dig W64_pos hy p.i
 have ex:(xs.getD p.i 0).toNat=dig W64 (val W64 xs) p.i:=by rw [gx,Int.toNat_natCast]
 have ey:(ys.getD p.i 0).toNat=dig W64 (val W64 ys) p.i:=by rw [gy,Int.toNat_natCast]
 have la:=dig_lt W64_pos (val W64 xs) p.i
 have lb:=dig_lt W64_pos (val W64 ys) p.i
 unfold plusN
 rw [setF_eq,ex,ey]
 have hs:=plus_sum_lt la lb (show p.c.toNat≤1 by omega)
 refine⟨hi,by simp [h2],h3.set (mod_dgW _) _,Int.natCast_nonneg _,?_,fun j hj=> ?_,?_⟩
 ·simp only [Int.ofNat_eq_natCast]
  omega
 ·simp only at hj
  rw [getD_set_ne (by omega)]
  exact h6 j (by omega)
 ·have hv:=val_set (b:=W64) (Int.ofNat ((dig W64 (val W64 xs) p.i+dig W64 (val W64 ys) p.i+p.c.toNat)%18446744073709551616)) (show p.i < p.L.length by omega)
  rw [h6 p.i (Nat.le_refl _)] at hv
  simp only [Int.toNat_zero,Nat.zero_mul,Nat.add_zero,Int.ofNat_eq_natCast,Int.toNat_natCast] at hv
  simp only [Int.ofNat_eq_natCast,Int.toNat_natCast]
  rw [hv]
  exact col_sum h7 rfl rfl
theorem goodP_all {xs ys:List Int} (hx:Dg W64 xs) (hy:Dg W64 ys) (n:Nat):∀ k,k≤n→goodP n (val W64 xs) (val W64 ys) (itr (plusN xs ys) k (zeroI (n+1)))∧(itr (plusN xs ys) k (zeroI (n+1))).i=k
 | 0,_=>⟨⟨Nat.zero_le _,by simp [itr,zeroI],Dg.zeros _ W64_pos _,Int.le_refl _,by simp [itr,zeroI],fun j _=>getD_zeros _ _,by simp [itr,zeroI,val_zeros,Nat.mod_one]⟩,rfl⟩
 | k+1,hk=>by
  obtain⟨h1,h2⟩:=goodP_all hx hy n k (by omega)
  exact⟨goodP_next hx hy h1 (by omega),by show (itr (plusN xs ys) k _).i+1=k+1; rw [h2]⟩
theorem goodP_last {xs ys:List Int} (hx:Dg W64 xs) (hy:Dg W64 ys) {n:Nat} (h1:xs.length≤n) (h2:ys.length≤n) {p:IPl} (h:goodP n (val W64 xs) (val W64 ys) p) (hi:p.i=n):p.L.set n p.c=dl W64 (n+1) (val W64 xs+val W64 ys):=by
 obtain⟨f1,f2,f3,f4,f5,f6,f7⟩:=h
 rw [hi] at f6 f7
 have hv:=val_set (b:=W64) p.c (show n < p.L.length by omega)
 rw [f6 n (Nat.le_refl _)] at hv
 simp only [Int.toNat_zero,Nat.zero_mul,Nat.add_zero] at hv
 have l1:=Nat.lt_of_lt_of_le (val_lt W64_pos hx) (Nat.pow_le_pow_right W64_pos h1)
 have l2:=Nat.lt_of_lt_of_le (val_lt W64_pos hy) (Nat.pow_le_pow_right W64_pos h2)
 rw [Nat.mod_eq_of_lt l1,Nat.mod_eq_of_lt l2] at f7
 exact dl_eq W64_pos (f3.set ⟨f4,Int.lt_of_le_of_lt f5 (by decide)⟩ _) (by simp [f2]) (by omega)
theorem plus_loop (p q:Nat) (hpq:(p=11∧q=13)∨(p=13∧q=11)) {xs ys:List Int} (hx:Dg W64 xs) (hy:Dg W64 ys) (hb:xs.length < 1099511627776):
  LoopTo XW0 cPlus (TPlus p q xs ys (List.replicate (xs.length+1) 0) xs.length ys.length (xs.length+1) xs.length 0 0) (.exit 0)
   (TPlus p q xs ys (itr (plusN xs ys) xs.length (zeroI (xs.length+1))).L xs.length ys.length (xs.length+1) xs.length (itr (plusN xs ys) xs.length (zeroI (xs.length+1))).c xs.length):=by
 refine loop_run (fun k=>TPlus p q xs ys (itr (plusN xs ys) k (zeroI (xs.length+1))).L xs.length ys.length (xs.length+1) xs.length (itr (plusN xs ys) k (zeroI (xs.length+1))).c k) xs.length (by intro e; cases e) (fun k hk=> ?_)
  (plus_out xs ys _ xs.length ys.length (xs.length+1) xs.length _ xs.length p q hpq (by simp))
 obtain⟨hg,hi⟩:=goodP_all hx hy xs.length k (by omega)
 simp only [itr]
 generalize itr (plusN xs ys) k (zeroI (xs.length+1))=s at*
 obtain⟨h1,h2,h3,h4,h5,h6,h7⟩:=hg
 have hw:IntKind.i64.wrap ((k:Int)+1)=((k+1:Nat):Int):=by
  have:=wrap_nat (n:=k+1) (by omega)
  simpa using this
 subst hi
 by_cases hlt2:s.i < ys.length
 ·have:=plus_both xs ys s.L xs.length ys.length (xs.length+1) xs.length s.c s.i p q hpq (by simpa using hk) (by simpa using hlt2) ⟨⟨⟨by simp,by simpa using hlt2⟩,by omega⟩,by simpa using hlt2⟩ ⟨⟨⟨by simp,by simpa using hk⟩,by omega⟩,by simpa using hk⟩ (by omega) ⟨⟨⟨by simp,by simp only [Int.ofNat_eq_natCast]; omega⟩,by omega⟩,by simp only [Int.toNat_natCast]; omega⟩
  rw [hw] at this
  exact this
 ·have:=plus_one xs ys s.L xs.length ys.length (xs.length+1) xs.length s.c s.i p q hpq (by simpa using hk) (by simpa using hlt2) ⟨⟨⟨by simp,by simpa using hk⟩,by omega⟩,by simpa using hk⟩ (by omega) ⟨⟨⟨by simp,by simp only [Int.ofNat_eq_natCast]; omega⟩,by omega⟩,by simp only [Int.toNat_natCast]; omega⟩
  rw [hw] at this
  unfold plusN
  rw [getD_beyond (l:=ys) (i:=s.i) (by omega)]
  exact this
abbrev wS (xs:List Int):Arg:= .c (.s u64T .u64 xs)
section
variable (xs ys L R:List Int) (na nb N:Nat) (la c i:Int)
theorem plus_way1:semR XW0 [told (.exit 0) (fun _=>TPlus 11 13 xs ys L na nb N la c i)] 200 201 [wS xs,wS ys] [wS R] [false] =some [na < L.length,((0:Int)≤(na:Int)∧(na:Int) < (N:Int))∧0 < L.length,
  LoopTo XW0 cPlus (semStart XW0 200 201 [wS xs,wS ys] [false]) (.exit 0) (TPlus 11 13 xs ys L na nb N la c i),
  0≤IntKind.i64.wrap ((xs.length:Int)+1)∧IntKind.i64.wrap ((xs.length:Int)+1)=IntKind.i64.wrap ((xs.length:Int)+1)∧8*IntKind.i64.wrap ((xs.length:Int)+1)≤281474976710656∧IntKind.i64.wrap ((xs.length:Int)+1)≤9223372036854775807,
  decide ((xs.length:Int) < ys.length)=false,N=R.length∧N≤(setF L na c).length∧(setF L na c).take N=R] :=by kernel_rfl
theorem plus_way2:semR XW0 [told (.exit 0) (fun _=>TPlus 13 11 ys xs L na nb N la c i)] 200 201 [wS xs,wS ys] [wS R] [true] =some [na < L.length,((0:Int)≤(na:Int)∧(na:Int) < (N:Int))∧0 < L.length,
  LoopTo XW0 cPlus (semStart XW0 200 201 [wS xs,wS ys] [true]) (.exit 0) (TPlus 13 11 ys xs L na nb N la c i),
  0≤IntKind.i64.wrap ((ys.length:Int)+1)∧IntKind.i64.wrap ((ys.length:Int)+1)=IntKind.i64.wrap ((ys.length:Int)+1)∧8*IntKind.i64.wrap ((ys.length:Int)+1)≤281474976710656∧IntKind.i64.wrap ((ys.length:Int)+1)≤9223372036854775807,
  decide ((xs.length:Int) < ys.length)=true,N=R.length∧N≤(setF L na c).length∧(setF L na c).take N=R] :=by kernel_rfl
theorem plus_into1 (x:AX) (s':St) (hw:IntKind.i64.wrap ((xs.length:Int)+1)=((xs.length+1:Nat):Int)) (h:LoopTo XW0 cPlus (TPlus 11 13 xs ys (List.replicate (xs.length+1) 0) xs.length ys.length (xs.length+1) xs.length 0 0) x s'):
  LoopTo XW0 cPlus (semStart XW0 200 201 [wS xs,wS ys] [false]) x s':=by
 have hw2:(IntKind.i64.wrap ((xs.length:Int)+1)).toNat=xs.length+1:=by rw [hw]; rfl
 rw [← hw2] at h
 exact loop_into' h [] (by kernel_rfl) (by kernel_rfl) (by kernel_rfl)
theorem plus_into2 (x:AX) (s':St) (hw:IntKind.i64.wrap ((ys.length:Int)+1)=((ys.length+1:Nat):Int)) (h:LoopTo XW0 cPlus (TPlus 13 11 ys xs (List.replicate (ys.length+1) 0) ys.length xs.length (ys.length+1) ys.length 0 0) x s'):
  LoopTo XW0 cPlus (semStart XW0 200 201 [wS xs,wS ys] [true]) x s':=by
 have hw2:(IntKind.i64.wrap ((ys.length:Int)+1)).toNat=ys.length+1:=by rw [hw]; rfl
 rw [← hw2] at h
 exact loop_into' h [] (by kernel_rfl) (by kernel_rfl) (by kernel_rfl)
end
theorem wrap_succ {n:Nat} (h:n < 1099511627776):IntKind.i64.wrap ((n:Int)+1)=((n+1:Nat):Int):=by
 have:=wrap_nat (n:=n+1) (by omega)
 simpa using this
theorem plus_sem {xs ys:List Int} (hx:Dg W64 xs) (hy:Dg W64 ys) (h1:xs.length < 1099511627776) (h2:ys.length < 1099511627776):
  Ev.Sem Tryz.prog J0 201 [wS xs,wS ys] [wS (dl W64 (max xs.length ys.length+1) (val W64 xs+val W64 ys))] :=by
 by_cases hlt:xs.length < ys.length
 ·have hL:=plus_loop 13 11 (.inr ⟨rfl,rfl⟩) hy hx h2
  have hw:=wrap_succ h2
  obtain⟨hg,hi⟩:=goodP_all hy hx ys.length ys.length (Nat.le_refl _)
  have hlast:=goodP_last hy hx (Nat.le_refl _) (by omega) hg hi
  rw [Nat.max_eq_right (by omega),Nat.add_comm (val W64 xs)]
  refine sem_of bW0_ok 10 _ _ (plus_way2 xs ys _ _ ys.length xs.length (ys.length+1) ys.length _ ys.length) ⟨?_,⟨⟨by omega,by omega⟩,?_⟩,plus_into2 xs ys _ _ hw hL,⟨?_,rfl,?_,?_⟩,by simpa using hlt,⟨?_,?_,?_⟩,trivial⟩
  ·have:=hg.2.1; omega
  ·have:=hg.2.1; omega
  ·rw [hw]; omega
  ·rw [hw]; omega
  ·rw [hw]; omega
  ·rw [dl_length]
  ·rw [setF_eq,hlast,dl_length]; exact Nat.le_refl _
  ·rw [setF_eq,hlast]; exact List.take_of_length_le (by rw [dl_length]; exact Nat.le_refl _)
 ·have hL:=plus_loop 11 13 (.inl ⟨rfl,rfl⟩) hx hy h1
  have hw:=wrap_succ h1
  obtain⟨hg,hi⟩:=goodP_all hx hy xs.length xs.length (Nat.le_refl _)
  have hlast:=goodP_last hx hy (Nat.le_refl _) (by omega) hg hi
  rw [Nat.max_eq_left (by omega)]
  refine sem_of bW0_ok 10 _ _ (plus_way1 xs ys _ _ xs.length ys.length (xs.length+1) xs.length _ xs.length) ⟨?_,⟨⟨by omega,by omega⟩,?_⟩,plus_into1 xs ys _ _ hw hL,⟨?_,rfl,?_,?_⟩,by simp; omega,⟨?_,?_,?_⟩,trivial⟩
  ·have:=hg.2.1; omega
  ·have:=hg.2.1; omega
  ·rw [hw]; omega
  ·rw [hw]; omega
  ·rw [hw]; omega
  ·rw [dl_length]
  ·rw [setF_eq,hlast,dl_length]; exact Nat.le_refl _
  ·rw [setF_eq,hlast]; exact List.take_of_length_le (by rw [dl_length]; exact Nat.le_refl _)
end Go.Proofs.YtdgfhijnconaoaaGreatDoor
namespace Go.Proofs.YtdgfhijnconaoaaGreatDoor
open Go Go.RowKit Ev Wd
abbrev intT:TypeId:=139
noncomputable def cMade:Code:=loopAt Tryz.prog 141 0
abbrev slO (off n c:Nat):Value:= .slice (some ⟨11,off,none⟩) n c
def TMade (xs:List Int) (neg:Bool) (off m c:Nat):St:=
 ⟨only 30 [(0, .bool neg),(1,slO off m c),(4, .pointer (some ⟨12,0,none⟩))],[(12, .cells [.bool false, .slice none 0 0] intT),(11, .ints .u64 xs)],13,[],[],0,none,[],12⟩
def lastZ (xs:List Int) (off m:Nat):Bool:=match decide ((m:Int) > 0) with
 | true=>xs.getD (addO off (mulO (IntKind.i64.wrap ((m:Int)-1)).toNat 1)) 0==0
 | false=>false
section
variable (xs:List Int) (neg:Bool) (off m c:Nat)
theorem made_next (h0:lastZ xs off m=true) (h1:decide ((m:Int) > 0)=true→addO off (mulO (IntKind.i64.wrap ((m:Int)-1)).toNat 1) < xs.length) (h2:decide ((m:Int) > 0)=true→(0≤IntKind.i64.wrap ((m:Int)-1)∧IntKind.i64.wrap ((m:Int)-1) < m)∧m≤xs.length)
  (h3:(0:Int)≤0∧0≤IntKind.i64.wrap ((m:Int)-1)∧IntKind.i64.wrap ((m:Int)-1)≤c):
  Step XW0 cMade (TMade xs neg off m c) .normal (TMade xs neg off (IntKind.i64.wrap ((m:Int)-1)).toNat c):=
 step_of (Base.cx_ok bW0_ok 10).1 progOk.mixed [] 200 [true] [] (l:=[(0:Int)≤0∧0≤IntKind.i64.wrap ((m:Int)-1)∧IntKind.i64.wrap ((m:Int)-1)≤c,lastZ xs off m=true,
  decide ((m:Int) > 0)=true→addO off (mulO (IntKind.i64.wrap ((m:Int)-1)).toNat 1) < xs.length,decide ((m:Int) > 0)=true→(0≤IntKind.i64.wrap ((m:Int)-1)∧IntKind.i64.wrap ((m:Int)-1) < m)∧m≤xs.length]) (by kernel_rfl) ⟨h3,h0,h1,h2,trivial⟩ (by kernel_rfl) (by kernel_rfl)
theorem made_out (h0:lastZ xs off m=false) (h1:decide ((m:Int) > 0)=true→addO off (mulO (IntKind.i64.wrap ((m:Int)-1)).toNat 1) < xs.length) (h2:decide ((m:Int) > 0)=true→(0≤IntKind.i64.wrap ((m:Int)-1)∧IntKind.i64.wrap ((m:Int)-1) < m)∧m≤xs.length):
  Step XW0 cMade (TMade xs neg off m c) (.exit 0) (TMade xs neg off m c):=
 step_of (Base.cx_ok bW0_ok 10).1 progOk.mixed [] 200 [false] [] (l:=[lastZ xs off m=false,
  decide ((m:Int) > 0)=true→addO off (mulO (IntKind.i64.wrap ((m:Int)-1)).toNat 1) < xs.length,decide ((m:Int) > 0)=true→(0≤IntKind.i64.wrap ((m:Int)-1)∧IntKind.i64.wrap ((m:Int)-1) < m)∧m≤xs.length]) (by kernel_rfl) ⟨h0,h1,h2,trivial⟩ (by kernel_rfl) (by kernel_rfl)
noncomputable def SMade (n:Nat):St:=startAt XW0 200 141 [.bool neg,slO off n c] [(11, .ints .u64 xs)] 12 []
theorem made_ev (n:Nat):evFn XW0 [told (.exit 0) (fun _=>TMade xs neg off m c)] 200 141 [.bool neg,slO off n c] [(11, .ints .u64 xs)] 12 [] =
  some ⟨.agg ⟨[.bool (match neg with | true=>decide ((m:Int) > 0) | false=>false),slO off m c]⟩,[(11, .ints .u64 xs)],14,[LoopTo XW0 cMade (SMade xs neg off c n) (.exit 0) (TMade xs neg off m c)],[]⟩:=by kernel_rfl
theorem made_into (n:Nat) (x:AX) (s':St) (h:LoopTo XW0 cMade (TMade xs neg off n c) x s'):LoopTo XW0 cMade (SMade xs neg off c n) x s':=
 loop_into' h [] (by kernel_rfl) (by kernel_rfl) (by kernel_rfl)
end
theorem take_snoc {l:List Int} {m:Nat} (h:m < l.length):l.take (m+1)=l.take m++[l.getD m 0] :=by
 rw [List.take_add_one,List.getElem?_eq_getElem h]
 simp [List.getD,h]
theorem made_loop (xs:List Int) (neg:Bool) (off c n:Nat) (hn:off+n≤xs.length) (hc:n≤c) (hb:xs.length < 1099511627776):LoopTo XW0 cMade (TMade xs neg off n c) (.exit 0) (TMade xs neg off (trimW ((xs.drop off).take n)).length c):=by
 refine loop_of (fun m=>TMade xs neg off m c) id (fun m=>m≤n∧trimW ((xs.drop off).take m)=trimW ((xs.drop off).take n)) (by intro e; cases e) (fun m hm=> ?_) n ⟨Nat.le_refl _,rfl⟩
 obtain⟨hle,he⟩:=hm
 rw [← he]
 cases m with
 | zero=>
  right
  have:=made_out xs neg off 0 c rfl (fun e=>by simp at e) (fun e=>by simp at e)
  simpa [trimW] using this
 | succ m=>
  have hw:IntKind.i64.wrap (((m+1:Nat):Int)-1)=(m:Int):=by
   have:=wrap_nat (n:=m) (by omega)
   rw [← this]
   congr 1
   omega
  have hpos:decide (((m+1:Nat):Int) > 0)=true:=by simp
  have ha:addO off (mulO (IntKind.i64.wrap (((m+1:Nat):Int)-1)).toNat 1)=off+m:=by rw [hw]; simp
  have h1:decide (((m+1:Nat):Int) > 0)=true→addO off (mulO (IntKind.i64.wrap (((m+1:Nat):Int)-1)).toNat 1) < xs.length:=fun _=>by rw [ha]; omega
  have h2:decide (((m+1:Nat):Int) > 0)=true→(0≤IntKind.i64.wrap (((m+1:Nat):Int)-1)∧IntKind.i64.wrap (((m+1:Nat):Int)-1) < ((m+1:Nat):Int))∧m+1≤xs.length:=fun _=>by rw [hw]; omega
  have hlz:lastZ xs off (m+1)=(xs.getD (off+m) 0==0):=by unfold lastZ; rw [hpos,ha]
  have hg:(xs.drop off).getD m 0=xs.getD (off+m) 0:=by simp [List.getD,List.getElem?_drop]
  have ht:=take_snoc (l:=xs.drop off) (m:=m) (by rw [List.length_drop]; omega)
  rw [hg] at ht
  by_cases hz:xs.getD (off+m) 0=0
  ·left
   have hs:=made_next xs neg off (m+1) c (by rw [hlz,hz]; rfl) h1 h2 (by rw [hw]; omega)
   rw [hw] at hs
   refine⟨m,⟨by omega,?_⟩,Nat.lt_succ_self _,hs⟩
   rw [ht,hz,trimW_snoc,if_pos rfl]
  ·right
   have hs:=made_out xs neg off (m+1) c (by rw [hlz]; simpa using hz) h1 h2
   rw [ht,trimW_snoc,if_neg hz,← ht,List.length_take,List.length_drop,Nat.min_eq_left (by omega)]
   exact hs
theorem made_enters:Enters Tryz.prog 141:=evFn_enters (Base.cx_ok bW0_ok 10).2 (made_ev [] false 0 0 0 0)
theorem made_calls (neg:Bool) (b:Option Nat) (off n c:Nat) (xs:List Int) (w:World) (hI:J0.I w) (hn:off+n≤xs.length) (hc:n≤c) (hb:xs.length < 1099511627776)
  (h:(b=none∧xs=[])∨∃ g cs t fr,b=some g∧w.heap[g]? =some (.cells cs t fr)∧∀ i,i < xs.length→cs[i]? =some (.int .u64 (xs.getD i 0))):
  Calls Tryz.prog 141 ⟨[.bool neg, .slice (b.map fun g=>⟨g,off,none⟩) n c]⟩ w fun e w'=>
   e= .returned (.agg ⟨[.bool (match neg with | true=>decide (((trimW ((xs.drop off).take n)).length:Int) > 0) | false=>false), .slice (b.map fun g=>⟨g,off,none⟩) (trimW ((xs.drop off).take n)).length c]⟩)∧Below w.heap.size w w':=by
 have hp:Par Tryz.prog w.heap.size (fun _=>False):=⟨hI.1,fun _ _ h=>h⟩
 have hG:Tryz.prog.globals.size=11:=by kernel_rfl
 obtain⟨hX,_⟩:=Base.cx_ok bW0_ok 10
 have hS:∀ ρ':Num,Agree 12 (fun i=>if i=11 then b else some i) ρ'→Sim Tryz.prog w.heap.size (fun _=>False) ρ' [(11, .ints .u64 xs)] w∧([.bool neg, .slice (b.map fun g=>⟨g,off,none⟩) n c] :List Value)=rvL ρ' [.bool neg,slO off n c] :=by
  intro ρ' ha
  have h11:ρ' 11=b:=by rw [ha 11 (by omega)]; simp
  refine⟨⟨fun g hg=>by rw [ha g (by omega)]; simp; omega,fun i o hi=> ?_,fun i j o o' hi hr=> ?_⟩,?_⟩
  ·rw [Heap.get_cons] at hi
   split at hi
   ·rename_i e
    subst e
    cases hi
    rw [h11]
    exact h
   ·simp [Heap.get] at hi
  ·rw [Heap.get_cons] at hi
   split at hi
   ·cases hi; cases hr
   ·simp [Heap.get] at hi
  ·simp only [rvL,rv,rSl,rAddr,h11]
 refine (evFn_sound hX progOk.mixed (made_ev xs neg off _ c n) ⟨made_into xs neg off c n _ _ (made_loop xs neg off c n hn hc hb),trivial⟩ hp (Nat.le_refl _) hI hS).2.mono fun e w' ⟨ρ1,v,ha,he,hk,hfin⟩=>⟨?_,hk.below⟩
 obtain⟨hv,_⟩:=hfin ρ1 (Agree.refl _ _)
 have h11:ρ1 11=b:=by rw [ha 11 (by omega)]; simp
 rw [he,hv]
 simp only [rv,rvA,rvL,rSl,rAddr,h11]
def specMade (args:List Value) (H:Heap) (n:Nat) (ds:List Bool):Option CR:=
 match args with
 | [.bool neg, .slice (some ⟨id,off,some kk⟩) m c] =>match H.get id with
  | some (.row _ sz (.ints .u64 xs) kk')=>match Nat.beq kk kk' && Nat.beq sz 1 with
   | true=>some ⟨.agg ⟨[.bool (neg && decide (0 < (trimW ((xs.drop off).take m)).length)), .slice (some ⟨id,off,some kk⟩) (trimW ((xs.drop off).take m)).length c]⟩,H,n,[off=c∧off+m≤xs.length∧xs.length < 1099511627776],ds⟩
   | false=>none
  | some (.ints .u64 xs)=>match off,c with
   | 0,0=>some ⟨.agg ⟨[.bool (neg && decide (0 < xs.length)), .slice (some ⟨id,0,some kk⟩) m 0]⟩,H,n,[m=xs.length∧xs.length < 1099511627776∧trimW xs=xs],ds⟩
   | _,_=>none
  | _=>none
 | [.bool neg, .slice (some ⟨id,0,none⟩) m c] =>match H.get id with
  | some (.cells cs _)=>match toInts .u64 cs with
   | some xs=>some ⟨.agg ⟨[.bool (neg && decide (0 < (trimW (xs.take m)).length)), .slice (some ⟨id,0,none⟩) (trimW (xs.take m)).length c]⟩,H,n,[m≤xs.length∧m≤c∧xs.length < 1099511627776],ds⟩
   | none=>none
  | _=>none
 | [.bool _, .slice none 0 0] =>some ⟨.agg ⟨[.bool false, .slice none 0 0]⟩,H,n,[],ds⟩
 | _=>none
theorem neg_and (neg:Bool) (k:Nat):(match neg with | true=>decide ((k:Int) > 0) | false=>false)=(neg && decide (0 < k)):=by
 cases neg
 ·rfl
 ·simp only [Bool.true_and]
  congr 1
  simp
theorem trimW_length_le (l:List Int):(trimW l).length≤l.length:=by
 unfold trimW
 rw [List.length_reverse]
 have:=(List.dropWhile_sublist (l:=l.reverse) (fun x=>x==0)).length_le
 simpa using this
theorem trimW_last {xs:List Int} (h:trimW xs=xs) (hp:0 < xs.length):xs.getD (xs.length-1) 0≠0:=by
 intro hz
 have ht:=take_snoc (l:=xs) (m:=xs.length-1) (by omega)
 rw [Nat.sub_add_cancel hp,List.take_length,hz] at ht
 rw [ht,trimW_snoc,if_pos rfl] at h
 have h1:=trimW_length_le (xs.take (xs.length-1))
 rw [h] at h1
 simp at h1
 omega
theorem made_calls_canon (neg:Bool) (b:Option Nat) (c:Nat) (xs:List Int) (w:World) (hI:J0.I w) (hb:xs.length < 1099511627776) (ht:trimW xs=xs)
  (h:(b=none∧xs=[])∨∃ g cs t fr,b=some g∧w.heap[g]? =some (.cells cs t fr)∧∀ i,i < xs.length→cs[i]? =some (.int .u64 (xs.getD i 0))):
  Calls Tryz.prog 141 ⟨[.bool neg, .slice (b.map fun g=>⟨g,0,none⟩) xs.length c]⟩ w fun e w'=>
   e= .returned (.agg ⟨[.bool (match neg with | true=>decide ((xs.length:Int) > 0) | false=>false), .slice (b.map fun g=>⟨g,0,none⟩) xs.length c]⟩)∧Below w.heap.size w w':=by
 have hp:Par Tryz.prog w.heap.size (fun _=>False):=⟨hI.1,fun _ _ h=>h⟩
 have hG:Tryz.prog.globals.size=11:=by kernel_rfl
 obtain⟨hX,_⟩:=Base.cx_ok bW0_ok 10
 have hS:∀ ρ':Num,Agree 12 (fun i=>if i=11 then b else some i) ρ'→Sim Tryz.prog w.heap.size (fun _=>False) ρ' [(11, .ints .u64 xs)] w∧([.bool neg, .slice (b.map fun g=>⟨g,0,none⟩) xs.length c] :List Value)=rvL ρ' [.bool neg,slO 0 xs.length c] :=by
  intro ρ' ha
  have h11:ρ' 11=b:=by rw [ha 11 (by omega)]; simp
  refine⟨⟨fun g hg=>by rw [ha g (by omega)]; simp; omega,fun i o hi=> ?_,fun i j o o' hi hr=> ?_⟩,?_⟩
  ·rw [Heap.get_cons] at hi
   split at hi
   ·rename_i e
    subst e
    cases hi
    rw [h11]
    exact h
   ·simp [Heap.get] at hi
  ·rw [Heap.get_cons] at hi
   split at hi
   ·cases hi; cases hr
   ·simp [Heap.get] at hi
  ·simp only [rvL,rv,rSl,rAddr,h11]
 have hout:Step XW0 cMade (TMade xs neg 0 xs.length c) (.exit 0) (TMade xs neg 0 xs.length c):=by
  have hw:0 < xs.length→IntKind.i64.wrap ((xs.length:Int)-1)=((xs.length-1:Nat):Int):=fun h0=>by
   have:=wrap_nat (n:=xs.length-1) (by omega)
   rw [← this]
   congr 1
   omega
  refine made_out xs neg 0 xs.length c ?_ (fun e=> ?_) (fun e=> ?_)
  ·unfold lastZ
   split
   ·rename_i e
    have h0:0 < xs.length:=by simpa using e
    rw [hw h0]
    have:=trimW_last ht h0
    simpa [addO] using this
   ·rfl
  ·have h0:0 < xs.length:=by simpa using e
   rw [hw h0]
   simp
   omega
  ·have h0:0 < xs.length:=by simpa using e
   rw [hw h0]
   omega
 have hL:LoopTo XW0 cMade (TMade xs neg 0 xs.length c) (.exit 0) (TMade xs neg 0 xs.length c):=loop_run (fun _=>TMade xs neg 0 xs.length c) 0 (by intro e; cases e) (fun k hk=>by omega) hout
 refine (evFn_sound hX progOk.mixed (made_ev xs neg 0 xs.length c xs.length) ⟨made_into xs neg 0 c xs.length _ _ hL,trivial⟩ hp (Nat.le_refl _) hI hS).2.mono fun e w' ⟨ρ1,v,ha,he,hk,hfin⟩=>⟨?_,hk.below⟩
 obtain⟨hv,_⟩:=hfin ρ1 (Agree.refl _ _)
 have h11:ρ1 11=b:=by rw [ha 11 (by omega)]; simp
 rw [he,hv]
 simp only [rv,rvA,rvL,rSl,rAddr,h11]
theorem specMade_ok:SpecOk Tryz.prog J0 141 specMade:=by
 intro args H n ds r h hl
 have fin:∀ {B:Nat} {M:Nat→Prop} {ρ:Num} {w:World} {vs:List Value} {neg:Bool} {u:Value} {v:Value},B≤w.heap.size→(∀ ρ',Agree n ρ ρ'→Sim Tryz.prog B M ρ' H w∧vs=rvL ρ' [.bool neg,u])→
   (Calls Tryz.prog 141 ⟨vs⟩ w fun e w'=>(∃ x,e= .returned x∧∀ ρ',Agree n ρ ρ'→x=rv ρ' v)∧Below w.heap.size w w')→
   Calls Tryz.prog 141 ⟨vs⟩ w fun e w'=>∃ ρ1 x,Agree n ρ ρ1∧e= .returned x∧Keeps B M w w'∧∀ ρ',Agree n ρ1 ρ'→x=rv ρ' v∧Sim Tryz.prog B M ρ' H w':=by
  intro B M ρ w vs neg u v hB hS hc
  exact hc.mono fun e w' ⟨⟨x,he,hx⟩,hb⟩=>⟨ρ,x,Agree.refl _ _,he,Keeps.of_below hb hB,fun ρ' ha=>⟨hx ρ' ha,(hS ρ' ha).1.below hb⟩⟩
 unfold specMade at h
 split at h
 ·rename_i neg id off kk m c
  split at h
  ·rename_i e sz xs kk' hget
   split at h
   case h_2=>cases h
   rename_i hc
   simp only [Bool.and_eq_true,Nat.beq_eq] at hc
   obtain⟨rfl,rfl⟩:=hc
   cases h
   obtain⟨rfl,h2,h3⟩:=hl.1
   refine⟨Nat.le_refl _,made_enters,fun B M ρ w vs hp hB hI hS=>fin hB hS ?_⟩
   have hvs:=(hS ρ (Agree.refl _ _)).2
   rcases (hS ρ (Agree.refl _ _)).1.obj id _ hget with ⟨g1,g2⟩ | ⟨b,cap,cur,g1,g2,⟨fr,g3,_⟩,g4,g5,g6,g7,g8⟩
   ·have hx:xs=[] :=by simpa [Row.list] using g2
    subst hx
    have h0:off=0:=by simp at h2; omega
    have hm:m=0:=by simp at h2; omega
    subst h0 hm
    have:=made_calls neg none 0 0 0 [] w hI (by simp) (Nat.le_refl _) (by simp) (.inl ⟨rfl,rfl⟩)
    have e1:vs=[.bool neg, .slice none 0 0] :=by rw [hvs]; simp [rvL,rv,rSl,g1]
    rw [e1]
    refine this.mono fun e w' ⟨he,hb⟩=>⟨⟨_,he,fun ρ' ha=> ?_⟩,hb⟩
    have e2:=(hS ρ' ha).2
    rw [e1] at e2
    simp only [rvL,rv,List.cons.injEq,and_true] at e2
    simp only [rv,rvA,rvL,neg_and]
    have:rSl ρ' ⟨id,0,some kk⟩ (trimW (([] :List Int).drop 0 |>.take 0)).length 0=rSl ρ' ⟨id,0,some kk⟩ 0 0:=rfl
    rw [this,← e2.2]
    rfl
   ·simp only [Row.list,List.length_map,Nat.mul_one] at g6 g7 g8
    rw [ints_rv] at g8
    have hxs:∀ i,i < xs.length→cur[i]? =some (.int .u64 (xs.getD i 0)):=fun i hi=>by
     have:=getD_take (xs:=xs) (n:=xs.length) hi .u64 hi
     rw [List.take_length,← g8,List.getElem?_take,if_pos hi] at this
     simpa using this
    have:=made_calls neg (some b) off m (cap-off) xs w hI h2 (by omega) h3 (.inr ⟨b,cur,e,fr,rfl,g3,hxs⟩)
    have e1:vs=[.bool neg, .slice (some ⟨b,off,none⟩) m (cap-off)] :=by rw [hvs]; simp [rvL,rv,rSl,g1,g2]
    rw [e1]
    refine this.mono fun e w' ⟨he,hb⟩=>⟨⟨_,he,fun ρ' ha=> ?_⟩,hb⟩
    rcases (hS ρ' ha).1.obj id _ hget with ⟨q1,q2⟩ | ⟨b',cap',cur',q1,q2,⟨fr',q3,_⟩,_⟩
    ·have hx:xs=[] :=by simpa [Row.list] using q2
     have e2:=(hS ρ' ha).2
     rw [e1] at e2
     simp [rvL,rv,rSl,q1] at e2
    ·have e2:=(hS ρ' ha).2
     rw [e1] at e2
     simp [rvL,rv,rSl,q1,q2] at e2
     simp only [rv,rvA,rvL,rSl,q1,q2,neg_and,Option.getD_some,Option.map_some,← e2.1,← e2.2]
  ·rename_i xs hget
   split at h
   case h_2=>cases h
   cases h
   obtain⟨rfl,h2,h3⟩:=hl.1
   refine⟨Nat.le_refl _,made_enters,fun B M ρ w vs hp hB hI hS=>fin hB hS ?_⟩
   have hvs:=(hS ρ (Agree.refl _ _)).2
   have hobj:(ρ id=none∧xs=[])∨∃ g cs t fr,ρ id=some g∧w.heap[g]? =some (.cells cs t fr)∧∀ i,i < xs.length→cs[i]? =some (.int .u64 (xs.getD i 0)):=(hS ρ (Agree.refl _ _)).1.obj id _ hget
   have e1:∃ cap,vs=[.bool neg, .slice ((ρ id).map fun g=>⟨g,0,none⟩) xs.length cap] :=by
    cases hq:ρ id with
    | none=>exact⟨0,by rw [hvs]; simp [rvL,rv,rSl,hq]⟩
    | some g=>exact⟨_,by rw [hvs]; simp [rvL,rv,rSl,hq]; rfl⟩
   obtain⟨cap,e1⟩:=e1
   have:=made_calls_canon neg (ρ id) cap xs w hI h2 h3 hobj
   rw [← e1] at this
   refine this.mono fun e w' ⟨he,hb⟩=>⟨⟨_,he,fun ρ' ha=> ?_⟩,hb⟩
   have e2:=(hS ρ' ha).2
   rw [e1] at e2
   simp only [rvL,rv,List.cons.injEq,and_true] at e2
   simp only [rv,rvA,rvL,neg_and,← e2.2]
  ·cases h
 ·rename_i neg id m c
  split at h
  case h_2=>cases h
  rename_i cs e hget
  split at h
  case h_2=>cases h
  rename_i xs ht
  cases h
  obtain⟨h1,h2,h3⟩:=hl.1
  have hcs:=toInts_spec ht
  subst hcs
  refine⟨Nat.le_refl _,made_enters,fun B M ρ w vs hp hB hI hS=>fin hB hS ?_⟩
  have hvs:=(hS ρ (Agree.refl _ _)).2
  obtain⟨b,g1,g2,_⟩:=(hS ρ (Agree.refl _ _)).1.obj id _ hget
  rw [ints_rv] at g2
  have hxs:∀ i,i < xs.length→(xs.map (Value.int .u64)).toArray[i]? =some (.int .u64 (xs.getD i 0)):=fun i hi=>by
   have:=getD_take (xs:=xs) (n:=xs.length) hi .u64 hi
   rw [List.take_length] at this
   simpa using this
  have:=made_calls neg (some b) 0 m c xs w hI (by omega) h2 h3 (.inr ⟨b,_,e,(0,0),rfl,g2,hxs⟩)
  have e1:vs=[.bool neg, .slice (some ⟨b,0,none⟩) m c] :=by rw [hvs]; simp [rvL,rv,rSl,rAddr,g1]
  rw [e1]
  refine this.mono fun e w' ⟨he,hb⟩=>⟨⟨_,he,fun ρ' ha=> ?_⟩,hb⟩
  obtain⟨b',q1,q2,_⟩:=(hS ρ' ha).1.obj id _ hget
  have e2:=(hS ρ' ha).2
  rw [e1] at e2
  simp [rvL,rv,rSl,rAddr,q1] at e2
  simp only [rv,rvA,rvL,rSl,rAddr,q1,neg_and,Option.map_some,← e2,List.drop_zero]
 ·rename_i neg
  cases h
  refine⟨Nat.le_refl _,made_enters,fun B M ρ w vs hp hB hI hS=>fin hB hS ?_⟩
  have hvs:=(hS ρ (Agree.refl _ _)).2
  have:=made_calls neg none 0 0 0 [] w hI (by simp) (Nat.le_refl _) (by simp) (.inl ⟨rfl,rfl⟩)
  have e1:vs=[.bool neg, .slice none 0 0] :=by rw [hvs]; simp [rvL,rv]
  rw [e1]
  refine this.mono fun e w' ⟨he,hb⟩=>⟨⟨_,he,fun ρ' ha=> ?_⟩,hb⟩
  simp only [rv,rvA,rvL]
  cases neg <;> rfl
 ·cases h
end Go.Proofs.YtdgfhijnconaoaaGreatDoor
namespace Go.Proofs.YtdgfhijnconaoaaGreatDoor
open Go Go.RowKit Ev Wd
noncomputable def cMin:Code:=loopAt Tryz.prog 202 0
def TMin (xs ys L:List Int) (na nb N:Nat) (la c i:Int):St:=
 ⟨only 40 [(0,slV 11 na),(1,slV 13 nb),(5,slV 15 N),(6, .int .u64 c),(12,slV 11 na),(13, .int .i64 la),(14, .int .i64 i)],[(15, .row u64T 1 (.ints .u64 L) 16),(11, .ints .u64 xs),(13, .ints .u64 ys)],17,[],[],0,none,[],15⟩
section
variable (xs ys L R:List Int) (na nb N:Nat) (la c i:Int)
theorem min_both (h0:decide (i < la)=true) (h1:decide (i < Int.ofNat nb)=true) (h2:((Int.ofNat 0≤i∧i < Int.ofNat nb)∧0 < ys.length)∧i.toNat < ys.length)
  (h3:((Int.ofNat 0≤i∧i < Int.ofNat na)∧0 < xs.length)∧i.toNat < xs.length) (h4:c.toNat≤1) (h5:((Int.ofNat 0≤i∧i < Int.ofNat N)∧0 < L.length)∧i.toNat < L.length):
  Step XW0 cMin (TMin xs ys L na nb N la c i) .normal (TMin xs ys (setF L i.toNat (subLo (xs.getD i.toNat 0) (ys.getD i.toNat 0) c)) na nb N la (subHi (xs.getD i.toNat 0) (ys.getD i.toNat 0) c) (IntKind.i64.wrap (i+1))):=
 step_of (Base.cx_ok bW0_ok 10).1 progOk.mixed [] 200 [true,true] [] (l:=[i.toNat < L.length,(Int.ofNat 0≤i∧i < Int.ofNat N)∧0 < L.length,c.toNat≤1,i.toNat < xs.length,(Int.ofNat 0≤i∧i < Int.ofNat na)∧0 < xs.length,i.toNat < ys.length,
   (Int.ofNat 0≤i∧i < Int.ofNat nb)∧0 < ys.length,decide (i < Int.ofNat nb)=true,decide (i < la)=true]) (by kernel_rfl) ⟨h5.2,h5.1,h4,h3.2,h3.1,h2.2,h2.1,h1,h0,trivial⟩ (by kernel_rfl) (by kernel_rfl)
theorem min_one (h0:decide (i < la)=true) (h1:decide (i < Int.ofNat nb)=false)
  (h3:((Int.ofNat 0≤i∧i < Int.ofNat na)∧0 < xs.length)∧i.toNat < xs.length) (h4:c.toNat≤1) (h5:((Int.ofNat 0≤i∧i < Int.ofNat N)∧0 < L.length)∧i.toNat < L.length):
  Step XW0 cMin (TMin xs ys L na nb N la c i) .normal (TMin xs ys (setF L i.toNat (subLo (xs.getD i.toNat 0) 0 c)) na nb N la (subHi (xs.getD i.toNat 0) 0 c) (IntKind.i64.wrap (i+1))):=
 step_of (Base.cx_ok bW0_ok 10).1 progOk.mixed [] 200 [true,false] [] (l:=[i.toNat < L.length,(Int.ofNat 0≤i∧i < Int.ofNat N)∧0 < L.length,c.toNat≤1,i.toNat < xs.length,(Int.ofNat 0≤i∧i < Int.ofNat na)∧0 < xs.length,
   decide (i < Int.ofNat nb)=false,decide (i < la)=true]) (by kernel_rfl) ⟨h5.2,h5.1,h4,h3.2,h3.1,h1,h0,trivial⟩ (by kernel_rfl) (by kernel_rfl)
theorem min_out (h0:decide (i < la)=false):Step XW0 cMin (TMin xs ys L na nb N la c i) (.exit 0) (TMin xs ys L na nb N la c i):=
 step_of (Base.cx_ok bW0_ok 10).1 progOk.mixed [] 200 [false] [] (l:=[decide (i < la)=false]) (by kernel_rfl) ⟨h0,trivial⟩ (by kernel_rfl) (by kernel_rfl)
theorem min_way:semR XW0 [told (.exit 0) (fun _=>TMin xs ys L na nb N la c i)] 200 202 [wS xs,wS ys] [wS R] [] =some [
  LoopTo XW0 cMin (semStart XW0 200 202 [wS xs,wS ys] []) (.exit 0) (TMin xs ys L na nb N la c i),
  (0:Int)≤xs.length∧(xs.length:Int)=xs.length∧(8:Int)*xs.length≤281474976710656∧(xs.length:Int)≤9223372036854775807,N=R.length∧N≤L.length∧L.take N=R] :=by kernel_rfl
theorem min_into (x:AX) (s':St) (h:LoopTo XW0 cMin (TMin xs ys (List.replicate xs.length 0) xs.length ys.length xs.length xs.length 0 0) x s'):
  LoopTo XW0 cMin (semStart XW0 200 202 [wS xs,wS ys] []) x s':=
 loop_into' h [] (by kernel_rfl) (by kernel_rfl) (by kernel_rfl)
end
theorem sub_word {a b c:Nat} (ha:a < W64) (hb:b < W64) (hc:c≤1):∃ lo hi:Nat,subLo a b c=lo∧subHi a b c=hi∧lo < W64∧hi≤1∧lo+b+c=a+W64*hi:=by
 have ha:a < 18446744073709551616:=ha
 have hb:b < 18446744073709551616:=hb
 refine⟨_,_,rfl,rfl,Nat.mod_lt _ W64_pos,?_,?_⟩
 ·split <;> omega
 ·simp only [Int.toNat_natCast]
  have hW:W64=18446744073709551616:=rfl
  rw [hW]
  split
  ·rename_i h
   have h:a < b+c:=by simpa [Nat.blt_eq] using h
   omega
  ·rename_i h
   have h:¬ a < b+c:=fun hlt=>by
    have:Nat.blt a (b+c)=true:=by simpa [Nat.blt_eq] using hlt
    rw [this] at h
    cases h
   omega
def goodM (n A B:Nat) (p:IPl):Prop:=
 p.i≤n∧p.L.length=n∧Dg W64 p.L∧0≤p.c∧p.c≤1∧(∀ j,p.i≤j→p.L.getD j 0=0)∧val W64 p.L+B%W64 ^p.i=A%W64 ^p.i+p.c.toNat*W64 ^p.i
noncomputable def minN (xs ys:List Int) (p:IPl):IPl:=
 ⟨p.i+1,subHi (xs.getD p.i 0) (ys.getD p.i 0) p.c,setF p.L p.i (subLo (xs.getD p.i 0) (ys.getD p.i 0) p.c)⟩
theorem goodM_next {n:Nat} {xs ys:List Int} (hx:Dg W64 xs) (hy:Dg W64 ys) {p:IPl} (h:goodM n (val W64 xs) (val W64 ys) p) (hi:p.i < n):goodM n (val W64 xs) (val W64 ys) (minN xs ys p):=by
 obtain⟨h1,h2,h3,h4,h5,h6,h7⟩:=h
 have gx:=getD_dig W64_pos hx p.i
 have gy:=getD_dig W64_pos hy p.i
 obtain⟨lo,hi',e1,e2,e3,e4,e5⟩:=sub_word (dig_lt W64_pos (val W64 xs) p.i) (dig_lt W64_pos (val W64 ys) p.i) (show p.c.toNat≤1 by omega)
 have ec:p.c=(p.c.toNat:Int):=by omega
 unfold minN
 rw [setF_eq,gx,gy,ec,e1,e2]
 refine⟨hi,by simp [h2],h3.set ⟨by omega,by exact_mod_cast e3⟩ _,by simp only; omega,by simp only; omega,fun j hj=> ?_,?_⟩
 ·simp only at hj
  rw [getD_set_ne (by omega)]
  exact h6 j (by omega)
 ·have hv:=val_set (b:=W64) (lo:Int) (show p.i < p.L.length by omega)
  rw [h6 p.i (Nat.le_refl _)] at hv
  simp only [Int.toNat_zero,Nat.zero_mul,Nat.add_zero,Int.toNat_natCast] at hv
  simp only [Int.toNat_natCast]
  rw [hv,mod_dig,mod_dig,Nat.pow_succ]
  have q1:(lo+dig W64 (val W64 ys) p.i+p.c.toNat)*W64 ^p.i=(dig W64 (val W64 xs) p.i+W64*hi')*W64 ^p.i:=by rw [e5]
  rw [Nat.add_mul,Nat.add_mul,Nat.add_mul] at q1
  have q2:hi'*(W64 ^p.i*W64)=W64*hi'*W64 ^p.i:=by rw [Nat.mul_comm (W64 ^p.i),← Nat.mul_assoc,Nat.mul_comm hi']
  omega
theorem goodM_all {xs ys:List Int} (hx:Dg W64 xs) (hy:Dg W64 ys) (n:Nat):∀ k,k≤n→goodM n (val W64 xs) (val W64 ys) (itr (minN xs ys) k (zeroI n))∧(itr (minN xs ys) k (zeroI n)).i=k
 | 0,_=>⟨⟨Nat.zero_le _,by simp [itr,zeroI],Dg.zeros _ W64_pos _,Int.le_refl _,by simp [itr,zeroI],fun j _=>getD_zeros _ _,by simp [itr,zeroI,val_zeros,Nat.mod_one]⟩,rfl⟩
 | k+1,hk=>by
  obtain⟨h1,h2⟩:=goodM_all hx hy n k (by omega)
  exact⟨goodM_next hx hy h1 (by omega),by show (itr (minN xs ys) k _).i+1=k+1; rw [h2]⟩
theorem goodM_last {xs ys:List Int} (hx:Dg W64 xs) (hy:Dg W64 ys) {n:Nat} (h1:xs.length≤n) (h2:ys.length≤n) (hle:val W64 ys≤val W64 xs) {p:IPl} (h:goodM n (val W64 xs) (val W64 ys) p) (hi:p.i=n):p.L=dl W64 n (val W64 xs-val W64 ys):=by
 obtain⟨f1,f2,f3,f4,f5,f6,f7⟩:=h
 rw [hi] at f7
 have l1:=Nat.lt_of_lt_of_le (val_lt W64_pos hx) (Nat.pow_le_pow_right W64_pos h1)
 have l2:=Nat.lt_of_lt_of_le (val_lt W64_pos hy) (Nat.pow_le_pow_right W64_pos h2)
 have l3:=val_lt W64_pos f3
 rw [f2] at l3
 rw [Nat.mod_eq_of_lt l1,Nat.mod_eq_of_lt l2] at f7
 have hc:p.c.toNat=0:=by
  rcases Nat.lt_or_ge p.c.toNat 1 with h | h
  ·omega
  ·have:p.c.toNat=1:=by omega
   rw [this] at f7
   omega
 rw [hc] at f7
 exact dl_eq W64_pos f3 f2 (by omega)
theorem minus_sem {xs ys:List Int} (hx:Dg W64 xs) (hy:Dg W64 ys) (hle:val W64 ys≤val W64 xs) (h1:xs.length < 1099511627776) (h2:ys.length≤xs.length):
  Ev.Sem Tryz.prog J0 202 [wS xs,wS ys] [wS (dl W64 xs.length (val W64 xs-val W64 ys))] :=by
 obtain⟨hg,hi⟩:=goodM_all hx hy xs.length xs.length (Nat.le_refl _)
 have hlast:=goodM_last hx hy (Nat.le_refl _) h2 hle hg hi
 have hL:LoopTo XW0 cMin (TMin xs ys (List.replicate xs.length 0) xs.length ys.length xs.length xs.length 0 0) (.exit 0)
   (TMin xs ys (itr (minN xs ys) xs.length (zeroI xs.length)).L xs.length ys.length xs.length xs.length (itr (minN xs ys) xs.length (zeroI xs.length)).c xs.length):=by
  refine loop_run (fun k=>TMin xs ys (itr (minN xs ys) k (zeroI xs.length)).L xs.length ys.length xs.length xs.length (itr (minN xs ys) k (zeroI xs.length)).c k) xs.length (by intro e; cases e) (fun k hk=> ?_)
   (min_out xs ys _ xs.length ys.length xs.length _ _ xs.length (by simp))
  obtain⟨hg,hi⟩:=goodM_all hx hy xs.length k (by omega)
  simp only [itr]
  generalize itr (minN xs ys) k (zeroI xs.length)=s at*
  obtain⟨h1',h2',h3,h4,h5,h6,h7⟩:=hg
  have hw:=wrap_succ (n:=k) (by omega)
  subst hi
  by_cases hlt2:s.i < ys.length
  ·have:=min_both xs ys s.L xs.length ys.length xs.length xs.length s.c s.i (by simpa using hk) (by simpa using hlt2) ⟨⟨⟨by simp,by simpa using hlt2⟩,by omega⟩,by simpa using hlt2⟩ ⟨⟨⟨by simp,by simpa using hk⟩,by omega⟩,by simpa using hk⟩ (by omega) ⟨⟨⟨by simp,by simp only [Int.ofNat_eq_natCast]; omega⟩,by omega⟩,by simp only [Int.toNat_natCast]; omega⟩
   rw [hw] at this
   exact this
  ·have:=min_one xs ys s.L xs.length ys.length xs.length xs.length s.c s.i (by simpa using hk) (by simpa using hlt2) ⟨⟨⟨by simp,by simpa using hk⟩,by omega⟩,by simpa using hk⟩ (by omega) ⟨⟨⟨by simp,by simp only [Int.ofNat_eq_natCast]; omega⟩,by omega⟩,by simp only [Int.toNat_natCast]; omega⟩
   rw [hw] at this
   unfold minN
   rw [getD_beyond (l:=ys) (i:=s.i) (by omega)]
   exact this
 refine sem_of bW0_ok 10 _ _ (min_way xs ys _ _ _ _ _ _ _ _) ⟨min_into xs ys _ _ hL,⟨by omega,rfl,by omega,by omega⟩,⟨?_,?_,?_⟩,trivial⟩
 ·rw [dl_length]
 ·rw [hg.2.1]; exact Nat.le_refl _
 ·rw [hlast]
  exact List.take_of_length_le (by rw [dl_length]; exact Nat.le_refl _)
noncomputable def cCmp:Code:=loopAt Tryz.prog 197 0
def TCmp (xs ys:List Int) (na nb:Nat) (i:Int):St:=⟨only 43 [(0,slV 11 na),(1,slV 13 nb),(5, .int .i64 i)],[(11, .ints .u64 xs),(13, .ints .u64 ys)],15,[],[],0,none,[],15⟩
def TCmr (xs ys:List Int) (na nb:Nat) (r:Int):St:=⟨only 43 [(0,slV 11 na),(1,slV 13 nb),(4, .int .i64 r)],[(11, .ints .u64 xs),(13, .ints .u64 ys)],15,[],[],0,none,[],15⟩
section
variable (xs ys:List Int) (na nb:Nat) (i r:Int)
abbrev inB (ys:List Int) (nb:Nat) (i:Int):Prop:=((Int.ofNat 0≤i∧i < Int.ofNat nb)∧0 < ys.length)∧i.toNat < ys.length
theorem cmp_less (h0:decide (0≤i)=true) (hx:inB xs na i) (hy:inB ys nb i) (h1:decide (xs.getD i.toNat 0 < ys.getD i.toNat 0)=true):Step XW0 cCmp (TCmp xs ys na nb i) .ret (TCmr xs ys na nb (-1)):=
 step_of (Base.cx_ok bW0_ok 10).1 progOk.mixed [] 200 [true,true] [] (l:=[decide (xs.getD i.toNat 0 < ys.getD i.toNat 0)=true,i.toNat < ys.length,(Int.ofNat 0≤i∧i < Int.ofNat nb)∧0 < ys.length,i.toNat < xs.length,(Int.ofNat 0≤i∧i < Int.ofNat na)∧0 < xs.length,decide (0≤i)=true])
  (by kernel_rfl) ⟨h1,hy.2,hy.1,hx.2,hx.1,h0,trivial⟩ (by kernel_rfl) (by kernel_rfl)
theorem cmp_more (h0:decide (0≤i)=true) (hx:inB xs na i) (hy:inB ys nb i) (h1:decide (xs.getD i.toNat 0 < ys.getD i.toNat 0)=false) (h2:decide (ys.getD i.toNat 0 < xs.getD i.toNat 0)=true):Step XW0 cCmp (TCmp xs ys na nb i) .ret (TCmr xs ys na nb 1):=
 step_of (Base.cx_ok bW0_ok 10).1 progOk.mixed [] 200 [true,false,true] [] (l:=[decide (ys.getD i.toNat 0 < xs.getD i.toNat 0)=true,i.toNat < ys.length,(Int.ofNat 0≤i∧i < Int.ofNat nb)∧0 < ys.length,i.toNat < xs.length,(Int.ofNat 0≤i∧i < Int.ofNat na)∧0 < xs.length,
  decide (xs.getD i.toNat 0 < ys.getD i.toNat 0)=false,i.toNat < ys.length,(Int.ofNat 0≤i∧i < Int.ofNat nb)∧0 < ys.length,i.toNat < xs.length,(Int.ofNat 0≤i∧i < Int.ofNat na)∧0 < xs.length,decide (0≤i)=true])
  (by kernel_rfl) ⟨h2,hy.2,hy.1,hx.2,hx.1,h1,hy.2,hy.1,hx.2,hx.1,h0,trivial⟩ (by kernel_rfl) (by kernel_rfl)
theorem cmp_same (h0:decide (0≤i)=true) (hx:inB xs na i) (hy:inB ys nb i) (h1:decide (xs.getD i.toNat 0 < ys.getD i.toNat 0)=false) (h2:decide (ys.getD i.toNat 0 < xs.getD i.toNat 0)=false):Step XW0 cCmp (TCmp xs ys na nb i) .normal (TCmp xs ys na nb (IntKind.i64.wrap (i-1))):=
 step_of (Base.cx_ok bW0_ok 10).1 progOk.mixed [] 200 [true,false,false] [] (l:=[decide (ys.getD i.toNat 0 < xs.getD i.toNat 0)=false,i.toNat < ys.length,(Int.ofNat 0≤i∧i < Int.ofNat nb)∧0 < ys.length,i.toNat < xs.length,(Int.ofNat 0≤i∧i < Int.ofNat na)∧0 < xs.length,
  decide (xs.getD i.toNat 0 < ys.getD i.toNat 0)=false,i.toNat < ys.length,(Int.ofNat 0≤i∧i < Int.ofNat nb)∧0 < ys.length,i.toNat < xs.length,(Int.ofNat 0≤i∧i < Int.ofNat na)∧0 < xs.length,decide (0≤i)=true])
  (by kernel_rfl) ⟨h2,hy.2,hy.1,hx.2,hx.1,h1,hy.2,hy.1,hx.2,hx.1,h0,trivial⟩ (by kernel_rfl) (by kernel_rfl)
theorem cmp_out (h0:decide (0≤i)=false):Step XW0 cCmp (TCmp xs ys na nb i) (.exit 0) (TCmp xs ys na nb i):=
 step_of (Base.cx_ok bW0_ok 10).1 progOk.mixed [] 200 [false] [] (l:=[decide (0≤i)=false]) (by kernel_rfl) ⟨h0,trivial⟩ (by kernel_rfl) (by kernel_rfl)
theorem cmp_way0:semR XW0 [] 200 197 [wS xs,wS ys] [.c (.v (.int .i64 r))] [true] =some [((xs.length:Int) !=ys.length)=true,Value.int .i64 (IntKind.i64.wrap ((xs.length:Int)-ys.length))=Value.int .i64 r] :=by kernel_rfl
theorem cmp_way1:semR XW0 [told (.exit 0) (fun _=>TCmp xs ys na nb i)] 200 197 [wS xs,wS ys] [.c (.v (.int .i64 r))] [false] =some [LoopTo XW0 cCmp (semStart XW0 200 197 [wS xs,wS ys] [false]) (.exit 0) (TCmp xs ys na nb i),
  ((xs.length:Int) !=ys.length)=false,Value.int .i64 0=Value.int .i64 r] :=by kernel_rfl
theorem cmp_way2 (q:Int):semR XW0 [told .ret (fun _=>TCmr xs ys na nb q)] 200 197 [wS xs,wS ys] [.c (.v (.int .i64 r))] [false] =some [LoopTo XW0 cCmp (semStart XW0 200 197 [wS xs,wS ys] [false]) .ret (TCmr xs ys na nb q),
  ((xs.length:Int) !=ys.length)=false,Value.int .i64 q=Value.int .i64 r] :=by kernel_rfl
theorem cmp_into (x:AX) (s':St) (h:LoopTo XW0 cCmp (TCmp xs ys xs.length ys.length (IntKind.i64.wrap ((xs.length:Int)-1))) x s'):LoopTo XW0 cCmp (semStart XW0 200 197 [wS xs,wS ys] [false]) x s':=
 loop_into' h [] (by kernel_rfl) (by kernel_rfl) (by kernel_rfl)
end
def cmpI (xs ys:List Int):Int:=
 if xs.length≠ys.length then (xs.length:Int)-ys.length else if val W64 xs < val W64 ys then -1 else if val W64 ys < val W64 xs then 1 else 0
theorem drop_getD {l:List Int} {m:Nat} (h:m < l.length):l.drop m=l.getD m 0 ::l.drop (m+1):=by
 rw [List.drop_eq_getElem_cons h]
 simp [List.getD,h]
theorem val_top {l l':List Int} (hl:Dg W64 l) {m:Nat} (h1:m < l.length) (h2:m < l'.length) (hd:l.drop (m+1)=l'.drop (m+1)) (hlt:l.getD m 0 < l'.getD m 0):val W64 l < val W64 l':=by
 rw [val_take_drop W64 l m (by omega),val_take_drop W64 l' m (by omega),drop_getD h1,drop_getD h2,hd]
 simp only [val]
 have a1:=val_lt W64_pos (hl.take m)
 rw [List.length_take,Nat.min_eq_left (by omega)] at a1
 have g1:=(hl.get W64_pos m).1
 have:(l.getD m 0).toNat+1≤(l'.getD m 0).toNat:=by omega
 generalize val W64 (l'.drop (m+1))=D at*
 have a2:W64 ^m*((l.getD m 0).toNat+1+W64*D)≤W64 ^m*((l'.getD m 0).toNat+W64*D):=Nat.mul_le_mul_left _ (by omega)
 have a3:W64 ^m*((l.getD m 0).toNat+1+W64*D)=W64 ^m*((l.getD m 0).toNat+W64*D)+W64 ^m:=by rw [Nat.add_right_comm,Nat.mul_add,Nat.mul_one]
 omega
theorem compare_sem {xs ys:List Int} (hx:Dg W64 xs) (hy:Dg W64 ys) (h1:xs.length < 1099511627776) (h2:ys.length < 1099511627776):
  Ev.Sem Tryz.prog J0 197 [wS xs,wS ys] [.c (.v (.int .i64 (cmpI xs ys)))] :=by
 by_cases hn:xs.length=ys.length
 case neg=>
  refine sem_of bW0_ok 10 _ _ (cmp_way0 xs ys _) ⟨by simp; omega,?_,trivial⟩
  unfold cmpI
  rw [if_pos hn]
  have:=IntKind.wrap_i64 ((xs.length:Int)-ys.length)
  congr 1
  omega
 have hw:∀ m:Nat,m < xs.length→IntKind.i64.wrap (((m+1:Nat):Int)-1)=(m:Int):=fun m hm=>by
  have:=wrap_nat (n:=m) (by omega)
  rw [← this]
  congr 1
  omega
 have hw1:IntKind.i64.wrap ((xs.length:Int)-1)=(xs.length:Int)-1:=by
  have:=IntKind.wrap_i64 ((xs.length:Int)-1)
  omega
 have hws:∀ m:Nat,m < xs.length→IntKind.i64.wrap ((m:Int)-1)=(m:Int)-1:=fun m hm=>by
  have:=IntKind.wrap_i64 ((m:Int)-1)
  omega
 have step:∀ m,m < xs.length→xs.drop (m+1)=ys.drop (m+1)→
   (val W64 xs < val W64 ys∧Step XW0 cCmp (TCmp xs ys xs.length ys.length m) .ret (TCmr xs ys xs.length ys.length (-1)))∨
   (val W64 ys < val W64 xs∧Step XW0 cCmp (TCmp xs ys xs.length ys.length m) .ret (TCmr xs ys xs.length ys.length 1))∨
   (xs.drop m=ys.drop m∧Step XW0 cCmp (TCmp xs ys xs.length ys.length m) .normal (TCmp xs ys xs.length ys.length ((m:Int)-1))):=by
  intro m hm hd
  have bx:inB xs xs.length (m:Int):=⟨⟨⟨by simp,by simpa using hm⟩,by omega⟩,by simpa using hm⟩
  have bY:inB ys ys.length (m:Int):=⟨⟨⟨by simp,by simp only [Int.ofNat_eq_natCast]; omega⟩,by omega⟩,by simp only [Int.toNat_natCast]; omega⟩
  rcases Int.lt_trichotomy (xs.getD m 0) (ys.getD m 0) with h | h | h
  ·exact .inl ⟨val_top hx hm (by omega) hd h,cmp_less xs ys _ _ m (by simp) bx bY (by simpa using h)⟩
  ·right; right
   refine⟨by rw [drop_getD (l:=xs) (m:=m) hm,drop_getD (l:=ys) (m:=m) (by omega),h,hd],?_⟩
   have:=cmp_same xs ys xs.length ys.length m (by simp) bx bY (by simp only [Int.toNat_natCast,decide_eq_false_iff_not]; omega) (by simp only [Int.toNat_natCast,decide_eq_false_iff_not]; omega)
   rw [hws m hm] at this
   exact this
  ·exact .inr (.inl ⟨val_top hy (by omega) hm hd.symm h,cmp_more xs ys _ _ m (by simp) bx bY (by simp only [Int.toNat_natCast,decide_eq_false_iff_not]; omega) (by simpa using h)⟩)
 have good:∀ m,m≤xs.length→xs.drop m=ys.drop m→
   (val W64 xs < val W64 ys∧LoopTo XW0 cCmp (TCmp xs ys xs.length ys.length ((m:Int)-1)) .ret (TCmr xs ys xs.length ys.length (-1)))∨
   (val W64 ys < val W64 xs∧LoopTo XW0 cCmp (TCmp xs ys xs.length ys.length ((m:Int)-1)) .ret (TCmr xs ys xs.length ys.length 1))∨
   (xs=ys∧LoopTo XW0 cCmp (TCmp xs ys xs.length ys.length ((m:Int)-1)) (.exit 0) (TCmp xs ys xs.length ys.length (-1))):=by
  intro m hm hd
  rcases Nat.lt_trichotomy (val W64 xs) (val W64 ys) with h | h | h
  ·refine .inl ⟨h,?_⟩
   refine loop_of (fun m:Nat=>TCmp xs ys xs.length ys.length ((m:Int)-1)) id (fun m=>m≤xs.length∧xs.drop m=ys.drop m) (by intro e; cases e) (fun k hk=> ?_) m ⟨hm,hd⟩
   cases k with
   | zero=>
    have:xs=ys:=by simpa using hk.2
    rw [this] at h
    omega
   | succ k=>
    have e:(((k+1:Nat):Int)-1)=(k:Int):=by omega
    simp only [e]
    rcases step k (by omega) hk.2 with ⟨_,s⟩ | ⟨q,_⟩ | ⟨q,s⟩
    ·exact .inr s
    ·omega
    ·exact .inl ⟨k,⟨by omega,q⟩,Nat.lt_succ_self _,s⟩
  ·refine .inr (.inr ?_)
   have he:=val_inj W64_pos hx hy hn h
   refine⟨he,?_⟩
   refine loop_of (fun m:Nat=>TCmp xs ys xs.length ys.length ((m:Int)-1)) id (fun m=>m≤xs.length∧xs.drop m=ys.drop m) (by intro e; cases e) (fun k hk=> ?_) m ⟨hm,hd⟩
   cases k with
   | zero=>
    right
    exact cmp_out xs ys xs.length ys.length (-1) (by decide)
   | succ k=>
    have e:(((k+1:Nat):Int)-1)=(k:Int):=by omega
    simp only [e]
    rcases step k (by omega) hk.2 with ⟨q,_⟩ | ⟨q,_⟩ | ⟨q,s⟩
    ·omega
    ·omega
    ·exact .inl ⟨k,⟨by omega,q⟩,Nat.lt_succ_self _,s⟩
  ·refine .inr (.inl ⟨h,?_⟩)
   refine loop_of (fun m:Nat=>TCmp xs ys xs.length ys.length ((m:Int)-1)) id (fun m=>m≤xs.length∧xs.drop m=ys.drop m) (by intro e; cases e) (fun k hk=> ?_) m ⟨hm,hd⟩
   cases k with
   | zero=>
    have:xs=ys:=by simpa using hk.2
    rw [this] at h
    omega
   | succ k=>
    have e:(((k+1:Nat):Int)-1)=(k:Int):=by omega
    simp only [e]
    rcases step k (by omega) hk.2 with ⟨q,_⟩ | ⟨_,s⟩ | ⟨q,s⟩
    ·omega
    ·exact .inr s
    ·exact .inl ⟨k,⟨by omega,q⟩,Nat.lt_succ_self _,s⟩
 have hne:((xs.length:Int) !=ys.length)=false:=by simp [hn]
 rcases good xs.length (Nat.le_refl _) (by rw [List.drop_length,hn,List.drop_length]) with ⟨h,s⟩ | ⟨h,s⟩ | ⟨h,s⟩
 ·rw [← hw1] at s
  refine sem_of bW0_ok 10 _ _ (cmp_way2 xs ys _ _ _ (-1)) ⟨cmp_into xs ys _ _ s,hne,?_,trivial⟩
  unfold cmpI
  rw [if_neg (by simp [hn]),if_pos h]
 ·rw [← hw1] at s
  refine sem_of bW0_ok 10 _ _ (cmp_way2 xs ys _ _ _ 1) ⟨cmp_into xs ys _ _ s,hne,?_,trivial⟩
  unfold cmpI
  rw [if_neg (by simp [hn]),if_neg (by omega),if_pos h]
 ·rw [← hw1] at s
  refine sem_of bW0_ok 10 _ _ (cmp_way1 xs ys _ _ (-1) _) ⟨cmp_into xs ys _ _ s,hne,?_,trivial⟩
  unfold cmpI
  rw [if_neg (by simp [hn]),if_neg (by rw [h]; omega),if_neg (by rw [h]; omega)]
end Go.Proofs.YtdgfhijnconaoaaGreatDoor
namespace Go.Proofs.YtdgfhijnconaoaaGreatDoor
open Go Go.RowKit Ev Wd
abbrev shW:AS:= .c (.s u64T .u64)
def sumW (xs ys:List Int):List Int:=dl W64 (1+max xs.length ys.length) (val W64 xs+val W64 ys)
def difW (xs ys:List Int):List Int:=dl W64 xs.length (val W64 xs-val W64 ys)
def specPlus:List Arg→Option (List Arg×List Prop)
 | [.c (.s 32 .u64 xs), .c (.s 32 .u64 ys)] =>some ([wS (sumW xs ys)],[Dg W64 xs,Dg W64 ys,xs.length < 1099511627776,ys.length < 1099511627776])
 | _=>none
def specMinus:List Arg→Option (List Arg×List Prop)
 | [.c (.s 32 .u64 xs), .c (.s 32 .u64 ys)] =>some ([wS (difW xs ys)],[Dg W64 xs,Dg W64 ys,val W64 ys≤val W64 xs,xs.length < 1099511627776,ys.length≤xs.length])
 | _=>none
def specCompare:List Arg→Option (List Arg×List Prop)
 | [.c (.s 32 .u64 xs), .c (.s 32 .u64 ys)] =>some ([.c (.v (.int .i64 (cmpI xs ys)))],[Dg W64 xs,Dg W64 ys,xs.length < 1099511627776,ys.length < 1099511627776])
 | _=>none
theorem specPlus_ok:∀ az rs l,specPlus az=some (rs,l)→allP l→Ev.Sem Tryz.prog J0 201 az rs:=by
 intro az rs l h hl
 unfold specPlus at h
 split at h
 ·cases h
  obtain⟨h1,h2,h3,h4,_⟩:=hl
  have:=plus_sem h1 h2 h3 h4
  rw [Nat.add_comm] at this
  exact this
 ·cases h
theorem specMinus_ok:∀ az rs l,specMinus az=some (rs,l)→allP l→Ev.Sem Tryz.prog J0 202 az rs:=by
 intro az rs l h hl
 unfold specMinus at h
 split at h
 ·cases h
  obtain⟨h1,h2,h3,h4,h5,_⟩:=hl
  exact minus_sem h1 h2 h3 h4 h5
 ·cases h
theorem specCompare_ok:∀ az rs l,specCompare az=some (rs,l)→allP l→Ev.Sem Tryz.prog J0 197 az rs:=by
 intro az rs l h hl
 unfold specCompare at h
 split at h
 ·cases h
  obtain⟨h1,h2,h3,h4,_⟩:=hl
  exact compare_sem h1 h2 h3 h4
 ·cases h
noncomputable def mtabW1:MTab:=mtabAdd 141 specMade (mtabAdd 201 (liftS [shW,shW] specPlus) (mtabAdd 202 (liftS [shW,shW] specMinus) (mtabAdd 197 (liftS [shW,shW] specCompare) mtab0)))
theorem mtabW1_ok:ClOk Tryz.prog J0 mtabW1:=mtabAdd_ok specMade_ok (mtabAdd_ok (liftS_ok _ specPlus_ok) (mtabAdd_ok (liftS_ok _ specMinus_ok) (mtabAdd_ok (liftS_ok _ specCompare_ok) (mtab0_ok _ _))))
end Go.Proofs.YtdgfhijnconaoaaGreatDoor
namespace Go.Proofs.YtdgfhijnconaoaaGreatDoor
open Go Go.RowKit Ev Wd
end Go.Proofs.YtdgfhijnconaoaaGreatDoor
namespace Go.Proofs
def Tryz.lays264_ren:Go.Shelf.Ren:=⟨fun | 264=>145 | n=>n,fun | 53=>32 | 46=>110 | n=>n,fun | n=>n⟩
theorem Tryz.lays264:Go.Proofs.Lays.n264 Tryz.prog Tryz.lays264_ren where
 mixed:=by kernel_rfl
 f264:=Tryz.func145.trans (congrArg some (by kernel_rfl))
 t46:=Tryz.underlying110
 a46:=Tryz.isAgg110
 z46:=Tryz.sizeOf110
 v46:=Tryz.zeroValue110
 t53:=Tryz.underlying32
 a53:=Tryz.isAgg32
 z53:=Tryz.sizeOf32
 v53:=Tryz.zeroValue32
namespace YtdgfhijnconaoaaGreatDoor
open Go Go.RowKit Ev Wd
def mulHi (x y:Int):Int:=((x.toNat*y.toNat/18446744073709551616:Nat):Int)
def mulLo (x y:Int):Int:=((x.toNat*y.toNat%18446744073709551616:Nat):Int)
def specMul64:List Value→Option (Value×List Prop)
 | [.int .u64 x, .int .u64 y] =>some (.tuple ⟨[.int .u64 (mulHi x y), .int .u64 (mulLo x y)]⟩,[(0≤x∧x < 18446744073709551616)∧0≤y∧y < 18446744073709551616])
 | _=>none
theorem specMul64_ok (args:List Value) (v:Value) (l:List Prop) (h:specMul64 args=some (v,l)) (hl:allP l):Pure Tryz.prog J0 145 args v:=by
 unfold specMul64 at h
 split at h
 case h_2=>cases h
 rename_i x y
 cases h
 obtain⟨⟨h1,h2⟩,h3,h4⟩:=hl.1
 refine⟨rfl,rfl, .inl ⟨enters_of Tryz.func145 (by kernel_rfl) (c:=_) rfl,fun w hI=> ?_⟩⟩
 have:=Any.bits_Mul64 Tryz.lays264 x.toNat y.toNat (by omega) (by omega) w
 rw [Int.toNat_of_nonneg h1,Int.toNat_of_nonneg h3] at this
 exact this.mono fun e w' ⟨q1,q2⟩=>⟨q1,q2 ▸ Below.refl _ _⟩
noncomputable def tabW2:Tab:=tabAdd 145 specMul64 tabW0
theorem tabW2_ok:PcOk Tryz.prog J0 tabW2:=tabAdd_ok specMul64_ok tabW0_ok
noncomputable def bW2:Base:=⟨Tryz.prog,J0,false,tabW2,mtabW1,200,xtN0⟩
theorem bW2_ok:BaseOk bW2:=⟨progOk,tabW2_ok,mtabW1_ok,xtN0_ok⟩
noncomputable abbrev XW2:Cx:=bW2.cx 10
end YtdgfhijnconaoaaGreatDoor
end Go.Proofs
namespace Go.Proofs.YtdgfhijnconaoaaGreatDoor
open Go Go.RowKit Ev Wd
structure IMu where
 j:Nat
 c:Int
 L:List Int
end Go.Proofs.YtdgfhijnconaoaaGreatDoor
namespace Go.Proofs.YtdgfhijnconaoaaGreatDoor.Wd
def bl (n:Nat):Nat:=match n with
 | 0=>0
 | n+1=>(n+1).log2+1
theorem bl_le {n k:Nat} :bl n≤k↔n < 2 ^k:=by
 cases n with
 | zero=>simp [bl,Nat.two_pow_pos]
 | succ n=>
  have:=Nat.log2_lt (n:=n+1) (k:=k) (by omega)
  simp only [bl]
  omega
theorem lt_bl (n:Nat):n < 2 ^bl n:=bl_le.1 (Nat.le_refl _)
theorem bl_ge {n k:Nat} :k < bl n↔2 ^k≤n:=by
 have:=bl_le (n:=n) (k:=k)
 omega
theorem bl_pos {n:Nat} :0 < bl n↔0 < n:=by
 rw [bl_ge]
 simp
 omega
theorem bl_top {n:Nat} (h:0 < n):2 ^(bl n-1)≤n:=bl_ge.1 (by have:=bl_pos.2 h; omega)
theorem bl_shift {n k:Nat} (h:2 ^k≤n):bl n=k+bl (n/2 ^k):=by
 have h1:k < bl n:=bl_ge.2 h
 apply Nat.le_antisymm
 ·rw [bl_le,Nat.pow_add,Nat.mul_comm,← Nat.div_lt_iff_lt_mul (Nat.two_pow_pos k)]
  exact lt_bl _
 ·have:bl (n/2 ^k)≤bl n-k:=by
   rw [bl_le,Nat.div_lt_iff_lt_mul (Nat.two_pow_pos k),← Nat.pow_add]
   rw [Nat.sub_add_cancel (Nat.le_of_lt h1)]
   exact lt_bl n
  omega
end Go.Proofs.YtdgfhijnconaoaaGreatDoor.Wd
namespace Go.Proofs.YtdgfhijnconaoaaGreatDoor
open Go Go.RowKit Ev Wd
def l8:ByteArray:=⟨⟨(List.range 256).map fun i=>UInt8.ofNat (bl i)⟩⟩
theorem l8_at (i:Nat) (h:i < 256):bytesAt l8 i=bl i:=by
 have:∀ i:Fin 256,bytesAt l8 i.val=bl i.val:=by decide+kernel
 exact this ⟨i,h⟩
def lenV (k:Nat) (y:Int):Value:= .int .i64 (IntKind.i64.wrap ((k:Int)+IntKind.i64.wrap ((bytesAt l8 (IntKind.u8.wrap y).toNat:Nat):Int)))
abbrev f32 (x:Int):Int:=x.fdiv 4294967296
abbrev f16 (x:Int):Int:=x.fdiv 65536
abbrev f8 (x:Int):Int:=x.fdiv 256
def lenO (y:Int):Prop:=0≤IntKind.u8.wrap y∧(IntKind.u8.wrap y).toNat < 256
section
variable (x:Int)
theorem len_ttt:pureCall XW2 [] 200 164 [.int .u64 x] [true,true,true] =some (lenV 56 (f8 (f16 (f32 x))),[lenO (f8 (f16 (f32 x))),decide (f16 (f32 x)≥256)=true,decide (f32 x≥65536)=true,decide (x≥4294967296)=true]):=by kernel_rfl
theorem len_ttf:pureCall XW2 [] 200 164 [.int .u64 x] [true,true,false] =some (lenV 48 (f16 (f32 x)),[lenO (f16 (f32 x)),decide (f16 (f32 x)≥256)=false,decide (f32 x≥65536)=true,decide (x≥4294967296)=true]):=by kernel_rfl
theorem len_tft:pureCall XW2 [] 200 164 [.int .u64 x] [true,false,true] =some (lenV 40 (f8 (f32 x)),[lenO (f8 (f32 x)),decide (f32 x≥256)=true,decide (f32 x≥65536)=false,decide (x≥4294967296)=true]):=by kernel_rfl
theorem len_tff:pureCall XW2 [] 200 164 [.int .u64 x] [true,false,false] =some (lenV 32 (f32 x),[lenO (f32 x),decide (f32 x≥256)=false,decide (f32 x≥65536)=false,decide (x≥4294967296)=true]):=by kernel_rfl
theorem len_ftt:pureCall XW2 [] 200 164 [.int .u64 x] [false,true,true] =some (lenV 24 (f8 (f16 x)),[lenO (f8 (f16 x)),decide (f16 x≥256)=true,decide (x≥65536)=true,decide (x≥4294967296)=false]):=by kernel_rfl
theorem len_ftf:pureCall XW2 [] 200 164 [.int .u64 x] [false,true,false] =some (lenV 16 (f16 x),[lenO (f16 x),decide (f16 x≥256)=false,decide (x≥65536)=true,decide (x≥4294967296)=false]):=by kernel_rfl
theorem len_fft:pureCall XW2 [] 200 164 [.int .u64 x] [false,false,true] =some (lenV 8 (f8 x),[lenO (f8 x),decide (x≥256)=true,decide (x≥65536)=false,decide (x≥4294967296)=false]):=by kernel_rfl
theorem len_fff:pureCall XW2 [] 200 164 [.int .u64 x] [false,false,false] =some (lenV 0 x,[lenO x,decide (x≥256)=false,decide (x≥65536)=false,decide (x≥4294967296)=false]):=by kernel_rfl
end
theorem lenV_eq {k n m:Nat} (hn:n < 256) (h:k+bl n=m) (hm:m≤64):lenV k n= .int .i64 m:=by
 unfold lenV
 have e:IntKind.u8.wrap (n:Int)=n:=by
  have:=IntKind.wrap_u8 (n:Int)
  omega
 rw [e,Int.toNat_natCast,l8_at n hn,wrap_nat (by omega)]
 have:=wrap_nat (n:=k+bl n) (by omega)
 congr 1
 rw [← h]
 simpa using this
theorem lenO_of {n:Nat} (hn:n < 256):lenO n:=by
 unfold lenO
 have e:IntKind.u8.wrap (n:Int)=n:=by
  have:=IntKind.wrap_u8 (n:Int)
  omega
 rw [e]
 omega
theorem len64_pure (n:Nat) (h:n < W64):Pure Tryz.prog J0 164 [.int .u64 n] (.int .i64 (bl n)):=by
 have h:n < 18446744073709551616:=h
 have e32:f32 n=((n/4294967296:Nat):Int):=by unfold f32; rw [Int.fdiv_eq_ediv_of_nonneg _ (by omega)]; omega
 have e16:∀ m:Nat,f16 m=((m/65536:Nat):Int):=fun m=>by unfold f16; rw [Int.fdiv_eq_ediv_of_nonneg _ (by omega)]; omega
 have e8:∀ m:Nat,f8 m=((m/256:Nat):Int):=fun m=>by unfold f8; rw [Int.fdiv_eq_ediv_of_nonneg _ (by omega)]; omega
 have s32:4294967296≤n→bl n=32+bl (n/4294967296):=fun h=>bl_shift (k:=32) h
 have s16:∀ m,65536≤m→bl m=16+bl (m/65536):=fun m h=>bl_shift (k:=16) h
 have s8:∀ m,256≤m→bl m=8+bl (m/256):=fun m h=>bl_shift (k:=8) h
 have hb:bl n≤64:=bl_le.2 h
 by_cases h1:4294967296≤n
 ·have q1:=s32 h1
  by_cases h2:65536≤n/4294967296
  ·have q2:=s16 _ h2
   by_cases h3:256≤n/4294967296/65536
   ·have q3:=s8 _ h3
    have:=len_ttt n
    rw [e32,e16,e8] at this
    rw [lenV_eq (k:=56) (m:=bl n) (by omega) (by omega) hb] at this
    exact pure_of bW2_ok 10 [] _ this ⟨lenO_of (by omega),by simp; omega,by simp; omega,by simp; omega,trivial⟩
   ·have:=len_ttf n
    rw [e32,e16] at this
    rw [lenV_eq (k:=48) (m:=bl n) (by omega) (by omega) hb] at this
    exact pure_of bW2_ok 10 [] _ this ⟨lenO_of (by omega),by simp; omega,by simp; omega,by simp; omega,trivial⟩
  ·by_cases h3:256≤n/4294967296
   ·have q3:=s8 _ h3
    have:=len_tft n
    rw [e32,e8] at this
    rw [lenV_eq (k:=40) (m:=bl n) (by omega) (by omega) hb] at this
    exact pure_of bW2_ok 10 [] _ this ⟨lenO_of (by omega),by simp; omega,by simp; omega,by simp; omega,trivial⟩
   ·have:=len_tff n
    rw [e32] at this
    rw [lenV_eq (k:=32) (m:=bl n) (by omega) (by omega) hb] at this
    exact pure_of bW2_ok 10 [] _ this ⟨lenO_of (by omega),by simp; omega,by simp; omega,by simp; omega,trivial⟩
 ·by_cases h2:65536≤n
  ·have q2:=s16 _ h2
   by_cases h3:256≤n/65536
   ·have q3:=s8 _ h3
    have:=len_ftt n
    rw [e16,e8] at this
    rw [lenV_eq (k:=24) (m:=bl n) (by omega) (by omega) hb] at this
    exact pure_of bW2_ok 10 [] _ this ⟨lenO_of (by omega),by simp; omega,by simp; omega,by simp; omega,trivial⟩
   ·have:=len_ftf n
    rw [e16] at this
    rw [lenV_eq (k:=16) (m:=bl n) (by omega) (by omega) hb] at this
    exact pure_of bW2_ok 10 [] _ this ⟨lenO_of (by omega),by simp; omega,by simp; omega,by simp; omega,trivial⟩
  ·by_cases h3:256≤n
   ·have q3:=s8 _ h3
    have:=len_fft n
    rw [e8] at this
    rw [lenV_eq (k:=8) (m:=bl n) (by omega) (by omega) hb] at this
    exact pure_of bW2_ok 10 [] _ this ⟨lenO_of (by omega),by simp; omega,by simp; omega,by simp; omega,trivial⟩
   ·have:=len_fff n
    rw [show lenV 0 n= .int .i64 (bl n) from lenV_eq (k:=0) (m:=bl n) (by omega) (by omega) hb] at this
    exact pure_of bW2_ok 10 [] _ this ⟨lenO_of (by omega),by simp; omega,by simp; omega,by simp; omega,trivial⟩
def len64 (x:Int):Int:=((bl x.toNat:Nat):Int)
def specLen64:List Value→Option (Value×List Prop)
 | [.int .u64 x] =>some (.int .i64 (len64 x),[0≤x∧x < 18446744073709551616])
 | _=>none
theorem specLen64_ok (args:List Value) (v:Value) (l:List Prop) (h:specLen64 args=some (v,l)) (hl:allP l):Pure Tryz.prog J0 164 args v:=by
 unfold specLen64 at h
 split at h
 case h_2=>cases h
 rename_i x
 cases h
 obtain⟨h1,h2⟩:=hl.1
 have:=len64_pure x.toNat (by show x.toNat < 18446744073709551616; omega)
 rw [Int.toNat_of_nonneg h1] at this
 exact this
noncomputable def tabW3:Tab:=tabAdd 164 specLen64 tabW2
theorem tabW3_ok:PcOk Tryz.prog J0 tabW3:=tabAdd_ok specLen64_ok tabW2_ok
noncomputable def bW3:Base:=⟨Tryz.prog,J0,false,tabW3,mtabW1,200,xtN0⟩
theorem bW3_ok:BaseOk bW3:=⟨progOk,tabW3_ok,mtabW1_ok,xtN0_ok⟩
noncomputable abbrev XW3:Cx:=bW3.cx 10
end Go.Proofs.YtdgfhijnconaoaaGreatDoor
namespace Go.Proofs.YtdgfhijnconaoaaGreatDoor
open Go Go.RowKit Ev Wd
noncomputable def cDiv1:Code:=loopAt Tryz.prog 196 0
noncomputable def cDiv2:Code:=loopAt Tryz.prog 196 1
def TD1 (y s yn1 yn0 un32 un10 un1 un0 q r:Int):St:=⟨only 135 [(2, .int .u64 y),(8, .int .u64 s),(9, .int .u64 yn1),(10, .int .u64 yn0),(11, .int .u64 un32),(12, .int .u64 un10),(13, .int .u64 un1),(14, .int .u64 un0),(15, .int .u64 q),(16, .int .u64 r)],[],11,[],[],0,none,[],11⟩
def TE1 (y s yn1 yn0 un32 un10 un1 un0 q:Int):St:=⟨only 135 [(2, .int .u64 y),(8, .int .u64 s),(9, .int .u64 yn1),(10, .int .u64 yn0),(11, .int .u64 un32),(12, .int .u64 un10),(13, .int .u64 un1),(14, .int .u64 un0),(15, .int .u64 q)],[],11,[],[],0,none,[],11⟩
def TD2 (y s yn1 yn0 un0 q1 un21 q r:Int):St:=⟨only 135 [(2, .int .u64 y),(8, .int .u64 s),(9, .int .u64 yn1),(10, .int .u64 yn0),(14, .int .u64 un0),(15, .int .u64 q1),(16, .int .u64 r),(17, .int .u64 un21),(18, .int .u64 q)],[],11,[],[],0,none,[],11⟩
def TE2 (y s yn1 yn0 un0 q1 un21 q:Int):St:=⟨only 135 [(2, .int .u64 y),(8, .int .u64 s),(9, .int .u64 yn1),(10, .int .u64 yn0),(14, .int .u64 un0),(15, .int .u64 q1),(17, .int .u64 un21),(18, .int .u64 q)],[],11,[],[],0,none,[],11⟩
noncomputable def S1 (hi lo y:Int):St:=startAt XW3 200 196 [.int .u64 hi, .int .u64 lo, .int .u64 y] J0.tabs 11 [false,false,false]
def dC (yn0 u q r:Int):Bool:=match decide (q≥4294967296) with
 | true=>true
 | false=>decide (IntKind.u64.wrap (q*yn0) > IntKind.u64.wrap (IntKind.u64.wrap (4294967296*r)+u))
section
variable (y s yn1 yn0 un32 un10 un1 un0 q r q1 un21:Int)
theorem d1_break (h:dC yn0 un1 q r=true) (h2:decide ((4294967296:Int)≤IntKind.u64.wrap (r+yn1))=true):Step XW3 cDiv1 (TD1 y s yn1 yn0 un32 un10 un1 un0 q r) (.exit 0) (TE1 y s yn1 yn0 un32 un10 un1 un0 (IntKind.u64.wrap (q-1))):=
 step_of (Base.cx_ok bW3_ok 10).1 progOk.mixed [] 200 [true,true] [] (l:=[decide ((4294967296:Int)≤IntKind.u64.wrap (r+yn1))=true,dC yn0 un1 q r=true]) (by kernel_rfl) ⟨h2,h,trivial⟩ (by kernel_rfl) (by kernel_rfl)
theorem d1_next (h:dC yn0 un1 q r=true) (h2:decide ((4294967296:Int)≤IntKind.u64.wrap (r+yn1))=false):Step XW3 cDiv1 (TD1 y s yn1 yn0 un32 un10 un1 un0 q r) .normal (TD1 y s yn1 yn0 un32 un10 un1 un0 (IntKind.u64.wrap (q-1)) (IntKind.u64.wrap (r+yn1))):=
 step_of (Base.cx_ok bW3_ok 10).1 progOk.mixed [] 200 [true,false] [] (l:=[decide ((4294967296:Int)≤IntKind.u64.wrap (r+yn1))=false,dC yn0 un1 q r=true]) (by kernel_rfl) ⟨h2,h,trivial⟩ (by kernel_rfl) (by kernel_rfl)
theorem d1_out (h:dC yn0 un1 q r=false):Step XW3 cDiv1 (TD1 y s yn1 yn0 un32 un10 un1 un0 q r) (.exit 0) (TE1 y s yn1 yn0 un32 un10 un1 un0 q):=
 step_of (Base.cx_ok bW3_ok 10).1 progOk.mixed [] 200 [false] [] (l:=[dC yn0 un1 q r=false]) (by kernel_rfl) ⟨h,trivial⟩ (by kernel_rfl) (by kernel_rfl)
theorem d2_break (h:dC yn0 un0 q r=true) (h2:decide ((4294967296:Int)≤IntKind.u64.wrap (r+yn1))=true):Step XW3 cDiv2 (TD2 y s yn1 yn0 un0 q1 un21 q r) (.exit 2) (TE2 y s yn1 yn0 un0 q1 un21 (IntKind.u64.wrap (q-1))):=
 step_of (Base.cx_ok bW3_ok 10).1 progOk.mixed [] 200 [true,true] [] (l:=[decide ((4294967296:Int)≤IntKind.u64.wrap (r+yn1))=true,dC yn0 un0 q r=true]) (by kernel_rfl) ⟨h2,h,trivial⟩ (by kernel_rfl) (by kernel_rfl)
theorem d2_next (h:dC yn0 un0 q r=true) (h2:decide ((4294967296:Int)≤IntKind.u64.wrap (r+yn1))=false):Step XW3 cDiv2 (TD2 y s yn1 yn0 un0 q1 un21 q r) .normal (TD2 y s yn1 yn0 un0 q1 un21 (IntKind.u64.wrap (q-1)) (IntKind.u64.wrap (r+yn1))):=
 step_of (Base.cx_ok bW3_ok 10).1 progOk.mixed [] 200 [true,false] [] (l:=[decide ((4294967296:Int)≤IntKind.u64.wrap (r+yn1))=false,dC yn0 un0 q r=true]) (by kernel_rfl) ⟨h2,h,trivial⟩ (by kernel_rfl) (by kernel_rfl)
theorem d2_out (h:dC yn0 un0 q r=false):Step XW3 cDiv2 (TD2 y s yn1 yn0 un0 q1 un21 q r) (.exit 2) (TE2 y s yn1 yn0 un0 q1 un21 q):=
 step_of (Base.cx_ok bW3_ok 10).1 progOk.mixed [] 200 [false] [] (l:=[dC yn0 un0 q r=false]) (by kernel_rfl) ⟨h,trivial⟩ (by kernel_rfl) (by kernel_rfl)
end
def dS (y:Int):Int:=IntKind.u64.wrap (IntKind.i64.wrap (64-len64 y))
def dSh (x s:Int):Int:=IntKind.u64.wrap (x*2 ^(min s.toNat 64))
def dHi (x:Int):Int:=x.fdiv 4294967296
def dLo (x:Int):Int:=bits .and .u64 x 4294967295
def dU (hi lo s:Int):Int:=bits .or .u64 (dSh hi s) (lo.fdiv (2 ^(min (IntKind.u64.wrap (64-s)).toNat 64)))
def dQ (u v:Int):Int:=IntKind.u64.wrap (u.tdiv v)
def dR (u v:Int):Int:=IntKind.u64.wrap (u-IntKind.u64.wrap (dQ u v*v))
def dN (u a q y:Int):Int:=IntKind.u64.wrap (IntKind.u64.wrap (IntKind.u64.wrap (u*4294967296)+a)-IntKind.u64.wrap (q*y))
section
variable (hi lo y s q yv yn1 yn0 un32 un10 un1 un0 q1 un21 q0:Int)
theorem d1_into (x:AX) (s':St) (h:LoopTo XW3 cDiv1 (TD1 (dSh y (dS y)) (dS y) (dHi (dSh y (dS y))) (dLo (dSh y (dS y))) (dU hi lo (dS y)) (dSh lo (dS y)) (dHi (dSh lo (dS y))) (dLo (dSh lo (dS y))) (dQ (dU hi lo (dS y)) (dHi (dSh y (dS y)))) (dR (dU hi lo (dS y)) (dHi (dSh y (dS y))))) x s'):
  LoopTo XW3 cDiv1 (S1 hi lo y) x s':=loop_into' h [] (by kernel_rfl) (by kernel_rfl) (by kernel_rfl)
end
noncomputable def codeOf (f:Nat):Code:=match nthF Tryz.prog.funcs.toList f with
 | some fn=>match fn.body with
  | some c=>c
  | none=> .skip
 | none=> .skip
noncomputable def S2 (hi lo y:Int) (e:St):St:=match evCode XW3 [told (.exit 0) (fun _=>e),fun s=>some (.exit 1000000,s)] 200 (codeOf 196) ⟨([.int .u64 hi, .int .u64 lo, .int .u64 y] :List Value).map .v++List.replicate 132 (.v undef),J0.tabs,11,[false,false,false],[],0,none,[],11⟩ with
 | some (_,s)=>s.core
 | none=>e
theorem div_way0 (hi lo y:Int):pureCall XW3 [] 200 196 [.int .u64 hi, .int .u64 lo, .int .u64 y] [false,false,true] =some (Value.tuple { toList:=[Value.int IntKind.u64 (IntKind.u64.wrap (lo.tdiv y)),Value.int IntKind.u64 (lo.tmod y)]},[y=0→False,y=0→False,(hi==Int.ofNat 0)=true,decide (y≤hi)=false,(y==Int.ofNat 0)=false]):=by kernel_rfl
theorem div_way (hi lo y yv s yn1 yn0 un32 un10 un1 un0 q1 un21 q0:Int):pureCall XW3 [told (.exit 0) (fun _=>TE1 yv s yn1 yn0 un32 un10 un1 un0 q1),told (.exit 2) (fun _=>TE2 yv s yn1 yn0 un0 q1 un21 q0)] 200 196 [.int .u64 hi, .int .u64 lo, .int .u64 y] [false,false,false] =some (Value.tuple { toList:=[Value.int IntKind.u64 (IntKind.u64.wrap (IntKind.u64.wrap (q1*Int.ofNat 4294967296)+q0)),Value.int IntKind.u64 ((IntKind.u64.wrap (IntKind.u64.wrap (IntKind.u64.wrap (un21*Int.ofNat 4294967296)+un0)-IntKind.u64.wrap (q0*yv))).fdiv (Int.ofNat (2 ^min s.toNat 64)))]},[Int.ofNat 0≤s,LoopTo XW3 cDiv2 (S2 hi lo y (TE1 yv s yn1 yn0 un32 un10 un1 un0 q1)) (.exit 2) (TE2 yv s yn1 yn0 un0 q1 un21 q0),yn1=0→False,LoopTo XW3 cDiv1 (S1 hi lo y) (.exit 0) (TE1 yv s yn1 yn0 un32 un10 un1 un0 q1),(IntKind.u64.wrap (y*2 ^min (IntKind.u64.wrap (IntKind.i64.wrap (64-len64 y))).toNat IntKind.u64.bits)).fdiv (2 ^min (Int.toNat 32) IntKind.u64.bits)=0→False,Int.ofNat 0≤IntKind.u64.wrap (IntKind.i64.wrap (Int.ofNat 64-len64 y)),Int.ofNat 0≤IntKind.u64.wrap (Int.ofNat 64-IntKind.u64.wrap (IntKind.i64.wrap (Int.ofNat 64-len64 y))),Int.ofNat 0≤IntKind.u64.wrap (IntKind.i64.wrap (Int.ofNat 64-len64 y)),Int.ofNat 0≤IntKind.u64.wrap (IntKind.i64.wrap (Int.ofNat 64-len64 y)),Int.ofNat 0≤y∧y < Int.ofNat 18446744073709551616,(hi==Int.ofNat 0)=false,decide (y≤hi)=false,(y==Int.ofNat 0)=false]):=by kernel_rfl
theorem d2_into (hi lo y yv s yn1 yn0 un32 un10 un1 un0 q1:Int) (x:AX) (s':St) (h:LoopTo XW3 cDiv2 (TD2 yv s yn1 yn0 un0 q1 (dN un32 un1 q1 yv) (dQ (dN un32 un1 q1 yv) yn1) (dR (dN un32 un1 q1 yv) yn1)) x s'):
  LoopTo XW3 cDiv2 (S2 hi lo y (TE1 yv s yn1 yn0 un32 un10 un1 un0 q1)) x s':=loop_into' h [] (by kernel_rfl) (by kernel_rfl) (by kernel_rfl)
theorem u64_of {n:Nat} (h:n < 18446744073709551616):IntKind.u64.wrap (n:Int)=n:=by
 have:=IntKind.wrap_u64 (n:Int)
 omega
theorem knuth {X:Cx} {c:Code} {x:AX} (hx:x≠ .normal) (S:Int→Int→St) (E:Int→St) {Y y1 y0 U u:Nat} (hY:Y=y1*4294967296+y0) (h1:2147483648≤y1) (h2:y1 < 4294967296) (h3:y0 < 4294967296) (hU:U < Y) (hu:u < 4294967296)
  (s1:∀ q r:Int,dC y0 u q r=true→decide ((4294967296:Int)≤IntKind.u64.wrap (r+(y1:Int)))=true→Step X c (S q r) x (E (IntKind.u64.wrap (q-1))))
  (s2:∀ q r:Int,dC y0 u q r=true→decide ((4294967296:Int)≤IntKind.u64.wrap (r+(y1:Int)))=false→Step X c (S q r) .normal (S (IntKind.u64.wrap (q-1)) (IntKind.u64.wrap (r+(y1:Int)))))
  (s3:∀ q r:Int,dC y0 u q r=false→Step X c (S q r) x (E q)):
  LoopTo X c (S ((U/y1:Nat):Int) ((U%y1:Nat):Int)) x (E (((U*4294967296+u)/Y:Nat):Int)):=by
 have hYp:0 < Y:=by omega
 have hT:∀ q:Nat,q*Y≤U*4294967296+u↔q≤(U*4294967296+u)/Y:=fun q=>(Nat.le_div_iff_mul_le hYp).symm
 have hTB:(U*4294967296+u)/Y < 4294967296:=by
  rw [Nat.div_lt_iff_lt_mul hYp]
  have:(U+1)*4294967296≤Y*4294967296:=Nat.mul_le_mul_right _ hU
  omega
 have hT0:∀ q:Nat,U*4294967296+u < (q+1)*Y→(U*4294967296+u)/Y≤q:=fun q h=>by
  have:=(Nat.div_lt_iff_lt_mul hYp).2 h
  omega
 generalize (U*4294967296+u)/Y=t at*
 have hmul:∀ q:Nat,q*Y=q*y1*4294967296+q*y0:=fun q=>by rw [hY,Nat.mul_add,Nat.mul_assoc]
 have e0:U-U/y1*y1=U%y1:=by
  have hd:=Nat.div_add_mod U y1
  rw [Nat.mul_comm] at hd
  omega
 rw [← e0]
 refine loop_of (fun q:Nat=>S q ((U-q*y1:Nat):Int)) id (fun q=>t≤q∧q*y1≤U∧U-q*y1 < 4294967296) hx (fun q hq=> ?_) (U/y1) ?_
 ·obtain⟨g1,g2,g3⟩:=hq
  have hle:q≤4294967300:=by
   rcases Nat.lt_or_ge 4294967300 q with h | h
   ·have:4294967301*y1≤q*y1:=Nat.mul_le_mul_right _ h
    omega
   ·exact h
  have em:=hmul q
  have hqt:=hT q
  generalize hm:q*y1=m at*
  have hq0:q < 4294967296→q*y0 < 18446744073709551616:=fun h=>by
   have:q*y0≤4294967295*4294967295:=Nat.mul_le_mul (by omega) (by omega)
   omega
  have hwr:IntKind.u64.wrap (IntKind.u64.wrap (4294967296*((U-m:Nat):Int))+(u:Int))=((4294967296*(U-m)+u:Nat):Int):=by
   have e1:(4294967296:Int)*((U-m:Nat):Int)=((4294967296*(U-m):Nat):Int):=by omega
   rw [e1,u64_of (by omega)]
   have e2:((4294967296*(U-m):Nat):Int)+(u:Int)=((4294967296*(U-m)+u:Nat):Int):=by omega
   rw [e2,u64_of (by omega)]
  have hc:dC y0 u (q:Int) ((U-m:Nat):Int)=true↔t < q:=by
   unfold dC
   by_cases hb:4294967296≤q
   ·have:decide ((q:Int)≥4294967296)=true:=by simp; omega
    rw [this]
    simp only [true_iff]
    omega
   ·have:decide ((q:Int)≥4294967296)=false:=by simp; omega
    rw [this,hwr]
    have e3:(q:Int)*(y0:Int)=((q*y0:Nat):Int):=by rw [Int.natCast_mul]
    rw [e3,u64_of (hq0 (by omega))]
    simp only [decide_eq_true_eq]
    omega
  by_cases hcond:dC y0 u (q:Int) ((U-m:Nat):Int)=true
  ·have hlt:=hc.1 hcond
   have ew:IntKind.u64.wrap ((q:Int)-1)=((q-1:Nat):Int):=by
    have:(q:Int)-1=((q-1:Nat):Int):=by omega
    rw [this,u64_of (by omega)]
   have er:IntKind.u64.wrap (((U-m:Nat):Int)+(y1:Int))=((U-m+y1:Nat):Int):=by
    have:((U-m:Nat):Int)+(y1:Int)=((U-m+y1:Nat):Int):=by omega
    rw [this,u64_of (by omega)]
   have hm1:(q-1)*y1+y1=m:=by
    rw [← hm,← Nat.succ_mul]
    congr 1
    omega
   have em1:=hmul (q-1)
   have hqt1:=hT (q-1)
   generalize hm2:(q-1)*y1=m1 at*
   by_cases hbr:4294967296≤U-m+y1
   ·right
    have:=s1 q ((U-m:Nat):Int) hcond (by rw [er]; simp only [decide_eq_true_eq]; omega)
    rw [ew] at this
    have hqB:q-1 < 4294967296:=by
     rcases Nat.lt_or_ge (q-1) 4294967296 with h | h
     ·exact h
     ·have:4294967296*y1≤(q-1)*y1:=Nat.mul_le_mul_right _ h
      omega
    have hq1:(q-1)*y0≤4294967295*4294967295:=Nat.mul_le_mul (by omega) (by omega)
    have he:q-1=t:=by
     apply Nat.le_antisymm
     ·rw [← hqt1]
      omega
     ·omega
    rw [← he]
    exact this
   ·left
    have:=s2 q ((U-m:Nat):Int) hcond (by rw [er]; simp only [decide_eq_false_iff_not]; omega)
    rw [ew,er] at this
    refine⟨q-1,⟨by omega,by rw [hm2]; omega,by rw [hm2]; omega⟩,by simp only [id]; omega,?_⟩
    rw [hm2]
    have e:U-m1=U-m+y1:=by omega
    rw [e]
    exact this
  ·right
   have hcond':dC y0 u (q:Int) ((U-m:Nat):Int)=false:=by simpa using hcond
   have he:q=t:=by
    have:¬ t < q:=fun h=>hcond (hc.2 h)
    omega
   rw [← he]
   exact s3 q _ hcond'
 ·have hd:=Nat.div_add_mod U y1
  have hmd:U%y1 < y1:=Nat.mod_lt _ (by omega)
  rw [Nat.mul_comm] at hd
  refine⟨?_,by omega,by omega⟩
  refine hT0 _ ?_
  have:(U*4294967296+u) < (U/y1+1)*Y:=by
   have e:=hmul (U/y1+1)
   have e2:(U/y1+1)*y1=U/y1*y1+y1:=by rw [Nat.add_mul,Nat.one_mul]
   omega
  exact this
theorem dHi_nat (n:Nat):dHi n=((n/4294967296:Nat):Int):=by unfold dHi; rw [Int.fdiv_eq_ediv_of_nonneg _ (by omega)]; omega
theorem dLo_nat {n:Nat} (h:n < 18446744073709551616):dLo n=((n%4294967296:Nat):Int):=by
 unfold dLo
 have:=bits_and_u64_nat n 4294967295 h (by omega)
 have e:n&&& 4294967295=n%4294967296:=Nat.and_two_pow_sub_one_eq_mod n 32
 rw [e] at this
 exact this
theorem dQ_nat {u v:Nat} (hu:u < 18446744073709551616):dQ u v=((u/v:Nat):Int):=by
 unfold dQ
 have:(u:Int).tdiv (v:Int)=((u/v:Nat):Int):=(Int.ofNat_tdiv u v).symm
 rw [this,u64_of (Nat.lt_of_le_of_lt (Nat.div_le_self u v) hu)]
theorem dR_nat {u v:Nat} (hu:u < 18446744073709551616) (hv:v < 18446744073709551616) (hv0:0 < v):dR u v=((u%v:Nat):Int):=by
 unfold dR
 rw [dQ_nat hu]
 have hd:=Nat.div_add_mod u v
 rw [Nat.mul_comm] at hd
 have e:((u/v:Nat):Int)*(v:Int)=((u/v*v:Nat):Int):=by rw [Int.natCast_mul]
 have hm:=Nat.mod_lt u hv0
 rw [e,u64_of (by omega)]
 have e2:(u:Int)- ((u/v*v:Nat):Int)=((u%v:Nat):Int):=by omega
 rw [e2,u64_of (by omega)]
theorem dN_nat {u a q y r:Nat} (h:u*4294967296+a=q*y+r) (hr:r < 18446744073709551616):dN u a q y=(r:Int):=by
 unfold dN
 simp only [IntKind.wrap_u64]
 have e1:(q:Int)*(y:Int)=((q*y:Nat):Int):=by rw [Int.natCast_mul]
 rw [e1]
 generalize q*y=m at*
 omega
theorem dSh_nat {x s:Nat} (hs:s≤64):dSh x s=((x*2 ^s%18446744073709551616:Nat):Int):=by
 unfold dSh
 rw [Int.toNat_natCast,Nat.min_eq_left hs,IntKind.wrap_u64]
 have:(x:Int)*2 ^s=((x*2 ^s:Nat):Int):=by rw [Int.natCast_mul,Int.natCast_pow]; rfl
 rw [this]
 omega
theorem dU_nat {hi lo s:Nat} (hs:s≤64) (h1:hi*2 ^s < 18446744073709551616) (h2:lo < 18446744073709551616):dU hi lo s=((hi*2 ^s+lo/2 ^(64-s):Nat):Int):=by
 unfold dU
 rw [dSh_nat hs,Nat.mod_eq_of_lt h1]
 have e1:IntKind.u64.wrap (64- (s:Int))=((64-s:Nat):Int):=by
  have:(64:Int)- (s:Int)=((64-s:Nat):Int):=by omega
  rw [this,u64_of (by omega)]
 have e2:(lo:Int).fdiv (2 ^(min (IntKind.u64.wrap (64- (s:Int))).toNat 64))=((lo/2 ^(64-s):Nat):Int):=by
  rw [e1,Int.toNat_natCast,Nat.min_eq_left (by omega),Int.fdiv_eq_ediv_of_nonneg _ (by
   have:(0:Int) < 2 ^(64-s):=Int.pow_pos (by decide)
   omega),Int.natCast_ediv,Int.natCast_pow]
  rfl
 rw [e2]
 have hlt:lo/2 ^(64-s) < 2 ^s:=by
  rw [Nat.div_lt_iff_lt_mul (Nat.two_pow_pos _),← Nat.pow_add]
  have:s+(64-s)=64:=by omega
  rw [this]
  exact h2
 have hlt2:lo/2 ^(64-s) < 18446744073709551616:=Nat.lt_of_le_of_lt (Nat.div_le_self _ _) h2
 rw [bits_or_u64_nat _ _ h1 hlt2]
 have:=Nat.shiftLeft_add_eq_or_of_lt hlt hi
 rw [Nat.shiftLeft_eq] at this
 rw [this]
theorem div64_pure {hi lo y:Nat} (h1:hi < y) (h2:lo < 18446744073709551616) (h3:y < 18446744073709551616):
  Pure Tryz.prog J0 196 [.int .u64 hi, .int .u64 lo, .int .u64 y] (.tuple ⟨[.int .u64 (((hi*18446744073709551616+lo)/y:Nat):Int), .int .u64 (((hi*18446744073709551616+lo)%y:Nat):Int)]⟩):=by
 have hy0:0 < y:=by omega
 have d1:((y:Int)==Int.ofNat 0)=false:=by simp; omega
 have d2:decide ((y:Int)≤(hi:Int))=false:=by simp; omega
 by_cases hh:hi=0
 ·subst hh
  have:=pure_of bW3_ok 10 [] _ (div_way0 ((0:Nat):Int) lo y) ⟨by omega,by omega,rfl,d2,d1,trivial⟩
  have e1:IntKind.u64.wrap ((lo:Int).tdiv (y:Int))=((lo/y:Nat):Int):=by
   have:(lo:Int).tdiv (y:Int)=((lo/y:Nat):Int):=(Int.ofNat_tdiv lo y).symm
   rw [this,u64_of (Nat.lt_of_le_of_lt (Nat.div_le_self _ _) h2)]
  have e2:(lo:Int).tmod (y:Int)=((lo%y:Nat):Int):=(Int.ofNat_tmod lo y).symm
  rw [e1,e2] at this
  have e3:0*18446744073709551616+lo=lo:=by omega
  rw [e3]
  exact this
 ·have hd0:((hi:Int)==Int.ofNat 0)=false:=by simp; omega
  have hbl:=bl_le.2 (show y < 2 ^64 from h3)
  have hbp:=bl_pos.2 hy0
  obtain⟨s,hs⟩:∃ s,s=64-bl y:=⟨_,rfl⟩
  have hs64:s≤64:=by omega
  have hsV:dS y=(s:Int):=by
   unfold dS len64
   rw [Int.toNat_natCast]
   have e:(64:Int)- ((bl y:Nat):Int)=(s:Int):=by omega
   rw [e,wrap_nat (by omega),u64_of (by omega)]
  have hp:2 ^64=(18446744073709551616:Nat):=by decide
  have hYlt:y*2 ^s < 18446744073709551616:=by
   have:=lt_bl y
   have:y*2 ^s < 2 ^bl y*2 ^s:=Nat.mul_lt_mul_of_pos_right this (Nat.two_pow_pos s)
   rw [← Nat.pow_add,show bl y+s=64 by omega,hp] at this
   exact this
  have hYge:9223372036854775808≤y*2 ^s:=by
   have:=bl_top hy0
   have:2 ^(bl y-1)*2 ^s≤y*2 ^s:=Nat.mul_le_mul_right _ this
   rw [← Nat.pow_add,show bl y-1+s=63 by omega] at this
   exact this
  have hyV:dSh y s=((y*2 ^s:Nat):Int):=by rw [dSh_nat hs64,Nat.mod_eq_of_lt hYlt]
  have hhiS:hi*2 ^s+2 ^s≤y*2 ^s:=by
   have:(hi+1)*2 ^s≤y*2 ^s:=Nat.mul_le_mul_right _ h1
   rw [Nat.add_mul,Nat.one_mul] at this
   exact this
  have hloS:lo/2 ^(64-s) < 2 ^s:=by
   rw [Nat.div_lt_iff_lt_mul (Nat.two_pow_pos _),← Nat.pow_add,show s+(64-s)=64 by omega]
   exact h2
  have hU:dU hi lo s=((hi*2 ^s+lo/2 ^(64-s):Nat):Int):=dU_nat hs64 (Nat.lt_of_le_of_lt (Nat.le_add_right _ _) (Nat.lt_of_le_of_lt hhiS hYlt)) h2
  have hL:dSh lo s=((lo*2 ^s%18446744073709551616:Nat):Int):=dSh_nat hs64
  have hN:(hi*18446744073709551616+lo)*2 ^s=(hi*2 ^s+lo/2 ^(64-s))*18446744073709551616+lo*2 ^s%18446744073709551616:=by
   have e1:lo*2 ^s/18446744073709551616=lo/2 ^(64-s):=by
    have:(18446744073709551616:Nat)=2 ^(64-s)*2 ^s:=by rw [← Nat.pow_add,show 64-s+s=64 by omega]
    rw [this,Nat.mul_div_mul_right _ _ (Nat.two_pow_pos s)]
   have:=Nat.div_add_mod (lo*2 ^s) 18446744073709551616
   rw [e1] at this
   rw [Nat.add_mul,Nat.add_mul,Nat.mul_right_comm]
   omega
  generalize hYe:y*2 ^s=Y at*
  generalize hUe:hi*2 ^s+lo/2 ^(64-s)=U at*
  generalize hLe:lo*2 ^s%18446744073709551616=L at*
  have hLlt:L < 18446744073709551616:=by rw [← hLe]; exact Nat.mod_lt _ (by decide)
  have hUY:U < Y:=by omega
  have hY1:Y=Y/4294967296*4294967296+Y%4294967296:=by omega
  have L1:=knuth (X:=XW3) (c:=cDiv1) (x:= .exit 0) (by intro e; cases e) (fun q r=>TD1 Y s (Y/4294967296:Nat) (Y%4294967296:Nat) U L (L/4294967296:Nat) (L%4294967296:Nat) q r) (fun q=>TE1 Y s (Y/4294967296:Nat) (Y%4294967296:Nat) U L (L/4294967296:Nat) (L%4294967296:Nat) q)
   (Y:=Y) (y1:=Y/4294967296) (y0:=Y%4294967296) (U:=U) (u:=L/4294967296) hY1 (by omega) (by omega) (by omega) hUY (by omega) (fun q r=>d1_break _ _ _ _ _ _ _ _ q r) (fun q r=>d1_next _ _ _ _ _ _ _ _ q r) (fun q r=>d1_out _ _ _ _ _ _ _ _ q r)
  have hq1:(U*4294967296+L/4294967296)/Y*Y+(U*4294967296+L/4294967296)%Y=U*4294967296+L/4294967296:=by
   have:=Nat.div_add_mod (U*4294967296+L/4294967296) Y
   rw [Nat.mul_comm] at this
   exact this
  have hR1:(U*4294967296+L/4294967296)%Y < Y:=Nat.mod_lt _ (by omega)
  have hT1:(U*4294967296+L/4294967296)/Y < 4294967296:=by
   rw [Nat.div_lt_iff_lt_mul (by omega)]
   have:(U+1)*4294967296≤Y*4294967296:=Nat.mul_le_mul_right _ hUY
   omega
  obtain⟨q1,hq1e⟩:∃ q1,q1=(U*4294967296+L/4294967296)/Y:=⟨_,rfl⟩
  obtain⟨R1,hR1e⟩:∃ R1,R1=(U*4294967296+L/4294967296)%Y:=⟨_,rfl⟩
  rw [← hq1e] at L1 hq1 hT1
  rw [← hR1e] at hq1 hR1
  have L2:=knuth (X:=XW3) (c:=cDiv2) (x:= .exit 2) (by intro e; cases e) (fun q r=>TD2 Y s (Y/4294967296:Nat) (Y%4294967296:Nat) (L%4294967296:Nat) q1 R1 q r) (fun q=>TE2 Y s (Y/4294967296:Nat) (Y%4294967296:Nat) (L%4294967296:Nat) q1 R1 q)
   (Y:=Y) (y1:=Y/4294967296) (y0:=Y%4294967296) (U:=R1) (u:=L%4294967296) hY1 (by omega) (by omega) (by omega) hR1 (by omega) (fun q r=>d2_break _ _ _ _ _ q r _ _) (fun q r=>d2_next _ _ _ _ _ q r _ _) (fun q r=>d2_out _ _ _ _ _ q r _ _)
  have hq0:(R1*4294967296+L%4294967296)/Y*Y+(R1*4294967296+L%4294967296)%Y=R1*4294967296+L%4294967296:=by
   have:=Nat.div_add_mod (R1*4294967296+L%4294967296) Y
   rw [Nat.mul_comm] at this
   exact this
  have hR0:(R1*4294967296+L%4294967296)%Y < Y:=Nat.mod_lt _ (by omega)
  have hT0:(R1*4294967296+L%4294967296)/Y < 4294967296:=by
   rw [Nat.div_lt_iff_lt_mul (by omega)]
   have:(R1+1)*4294967296≤Y*4294967296:=Nat.mul_le_mul_right _ hR1
   omega
  obtain⟨q0,hq0e⟩:∃ q0,q0=(R1*4294967296+L%4294967296)/Y:=⟨_,rfl⟩
  obtain⟨R0,hR0e⟩:∃ R0,R0=(R1*4294967296+L%4294967296)%Y:=⟨_,rfl⟩
  rw [← hq0e] at L2 hq0 hT0
  rw [← hR0e] at hq0 hR0
  have hall:(hi*18446744073709551616+lo)*2 ^s=(q1*4294967296+q0)*Y+R0:=by
   rw [hN,Nat.add_mul,Nat.mul_right_comm]
   omega
  have hres:(hi*18446744073709551616+lo)/y=q1*4294967296+q0∧R0=(hi*18446744073709551616+lo)%y*2 ^s:=by
   have e1:(hi*18446744073709551616+lo)*2 ^s/ (y*2 ^s)=(hi*18446744073709551616+lo)/y:=Nat.mul_div_mul_right _ _ (Nat.two_pow_pos s)
   have e2:(hi*18446744073709551616+lo)*2 ^s%(y*2 ^s)=(hi*18446744073709551616+lo)%y*2 ^s:=Nat.mul_mod_mul_right _ _ _
   have hall':(hi*18446744073709551616+lo)*2 ^s=Y*(q1*4294967296+q0)+R0:=by rw [hall,Nat.mul_comm Y]
   have hY0:0 < Y:=by omega
   rw [hYe,hall'] at e1 e2
   rw [Nat.mul_add_div hY0,Nat.div_eq_of_lt hR0,Nat.add_zero] at e1
   rw [Nat.mul_add_mod,Nat.mod_eq_of_lt hR0] at e2
   exact⟨e1.symm,e2⟩
  have hin1:=d1_into hi lo y (.exit 0) (TE1 Y s (Y/4294967296:Nat) (Y%4294967296:Nat) U L (L/4294967296:Nat) (L%4294967296:Nat) q1) (by
   rw [hsV,hyV,hU,hL,dHi_nat,dLo_nat hYlt,dHi_nat,dLo_nat hLlt,dQ_nat (by omega),dR_nat (by omega) (by omega) (by omega)]
   exact L1)
  have hdn:dN U (L/4294967296:Nat) q1 Y=(R1:Int):=dN_nat hq1.symm (by omega)
  have hin2:=d2_into hi lo y Y s (Y/4294967296:Nat) (Y%4294967296:Nat) U L (L/4294967296:Nat) (L%4294967296:Nat) q1 (.exit 2) (TE2 Y s (Y/4294967296:Nat) (Y%4294967296:Nat) (L%4294967296:Nat) q1 R1 q0) (by
   rw [hdn,dQ_nat (by omega),dR_nat (by omega) (by omega) (by omega)]
   exact L2)
  have hyn1:(IntKind.u64.wrap ((y:Int)*2 ^min (IntKind.u64.wrap (IntKind.i64.wrap (64-len64 y))).toNat IntKind.u64.bits)).fdiv (2 ^min (Int.toNat 32) IntKind.u64.bits)=((Y/4294967296:Nat):Int):=by
   have:dHi (dSh y (dS y))=((Y/4294967296:Nat):Int):=by rw [hsV,hyV,dHi_nat]
   exact this
  have hsx:Int.ofNat 0≤IntKind.u64.wrap (IntKind.i64.wrap (Int.ofNat 64-len64 y)):=by
   have:dS y=(s:Int):=hsV
   show (0:Int)≤dS y
   omega
  have hsx2:Int.ofNat 0≤IntKind.u64.wrap (Int.ofNat 64-IntKind.u64.wrap (IntKind.i64.wrap (Int.ofNat 64-len64 y))):=by
   show (0:Int)≤IntKind.u64.wrap (64-dS y)
   rw [hsV]
   have:=IntKind.wrap_u64 (64- (s:Int))
   omega
  have:=pure_of bW3_ok 10 _ _ (div_way hi lo y Y s (Y/4294967296:Nat) (Y%4294967296:Nat) U L (L/4294967296:Nat) (L%4294967296:Nat) q1 R1 q0) ⟨by simp,hin2,by omega,hin1,by rw [hyn1]; omega,hsx,hsx2,hsx,hsx,⟨by simp,by simp only [Int.ofNat_eq_natCast]; omega⟩,hd0,d2,d1,trivial⟩
  have f1:IntKind.u64.wrap (IntKind.u64.wrap ((q1:Int)*Int.ofNat 4294967296)+(q0:Int))=(((hi*18446744073709551616+lo)/y:Nat):Int):=by
   rw [hres.1]
   simp only [IntKind.wrap_u64,Int.ofNat_eq_natCast]
   omega
  have f2:(IntKind.u64.wrap (IntKind.u64.wrap (IntKind.u64.wrap ((R1:Int)*Int.ofNat 4294967296)+((L%4294967296:Nat):Int))-IntKind.u64.wrap ((q0:Int)*(Y:Int)))).fdiv (Int.ofNat (2 ^min (s:Int).toNat 64))=(((hi*18446744073709551616+lo)%y:Nat):Int):=by
   have e:dN R1 (L%4294967296:Nat) q0 Y=(R0:Int):=dN_nat hq0.symm (by omega)
   have e':IntKind.u64.wrap (IntKind.u64.wrap (IntKind.u64.wrap ((R1:Int)*Int.ofNat 4294967296)+((L%4294967296:Nat):Int))-IntKind.u64.wrap ((q0:Int)*(Y:Int)))=(R0:Int):=e
   rw [e',Int.toNat_natCast,Nat.min_eq_left hs64,Int.fdiv_eq_ediv_of_nonneg (R0:Int) (show (0:Int)≤Int.ofNat (2 ^s) from Int.natCast_nonneg _),hres.2]
   have:=Nat.mul_div_cancel ((hi*18446744073709551616+lo)%y) (Nat.two_pow_pos s)
   show (((hi*18446744073709551616+lo)%y*2 ^s:Nat):Int)/ ((2 ^s:Nat):Int)=_
   rw [← Int.natCast_ediv,this]
  rw [f1,f2] at this
  exact this
def divQ (hi lo y:Int):Int:=(((hi.toNat*18446744073709551616+lo.toNat)/y.toNat:Nat):Int)
def divR (hi lo y:Int):Int:=(((hi.toNat*18446744073709551616+lo.toNat)%y.toNat:Nat):Int)
def specDiv64:List Value→Option (Value×List Prop)
 | [.int .u64 hi, .int .u64 lo, .int .u64 y] =>some (.tuple ⟨[.int .u64 (divQ hi lo y), .int .u64 (divR hi lo y)]⟩,[(0≤hi∧hi < y)∧(0≤lo∧lo < 18446744073709551616)∧y < 18446744073709551616])
 | _=>none
theorem specDiv64_ok (args:List Value) (v:Value) (l:List Prop) (h:specDiv64 args=some (v,l)) (hl:allP l):Pure Tryz.prog J0 196 args v:=by
 unfold specDiv64 at h
 split at h
 case h_2=>cases h
 rename_i hi lo y
 cases h
 obtain⟨⟨h1,h2⟩,⟨h3,h4⟩,h5⟩:=hl.1
 have:=div64_pure (hi:=hi.toNat) (lo:=lo.toNat) (y:=y.toNat) (by omega) (by omega) (by omega)
 rw [Int.toNat_of_nonneg h1,Int.toNat_of_nonneg h3,Int.toNat_of_nonneg (by omega:0≤y)] at this
 exact this
end Go.Proofs.YtdgfhijnconaoaaGreatDoor
namespace Go.Proofs.YtdgfhijnconaoaaGreatDoor
open Go Go.RowKit Ev Wd
def inW (x:Int):Bool:=match x with
 | .ofNat n=>Nat.blt n 18446744073709551616
 | .negSucc _=>false
theorem inW_spec {x:Int} (h:inW x=true):0≤x∧x < 18446744073709551616:=by
 unfold inW at h
 split at h
 ·simp only [Nat.blt_eq] at h
  constructor <;> simp <;> omega
 ·cases h
def cMul64:List Value→Option (Value×List Prop)
 | [.int .u64 x, .int .u64 y] =>match inW x,inW y with
  | true,true=>some (.tuple ⟨[.int .u64 (Int.ofNat (x.toNat*y.toNat/18446744073709551616)), .int .u64 (Int.ofNat (x.toNat*y.toNat%18446744073709551616))]⟩,[])
  | _,_=>none
 | _=>none
def cDiv64:List Value→Option (Value×List Prop)
 | [.int .u64 hi, .int .u64 lo, .int .u64 y] =>match inW hi,inW lo,inW y,Nat.blt hi.toNat y.toNat with
  | true,true,true,true=>some (.tuple ⟨[.int .u64 (Int.ofNat ((hi.toNat*18446744073709551616+lo.toNat)/y.toNat)), .int .u64 (Int.ofNat ((hi.toNat*18446744073709551616+lo.toNat)%y.toNat))]⟩,[])
  | _,_,_,_=>none
 | _=>none
theorem cMul64_ok (args:List Value) (v:Value) (l:List Prop) (h:cMul64 args=some (v,l)) (_:allP l):Pure Tryz.prog J0 145 args v:=by
 unfold cMul64 at h
 split at h
 case h_2=>cases h
 rename_i x y
 split at h
 case h_2=>cases h
 rename_i hx hy
 cases h
 have hx:=inW_spec hx
 have hy:=inW_spec hy
 have:=specMul64_ok [.int .u64 x, .int .u64 y] _ _ rfl ⟨⟨hx,hy⟩,trivial⟩
 exact this
theorem cDiv64_ok (args:List Value) (v:Value) (l:List Prop) (h:cDiv64 args=some (v,l)) (_:allP l):Pure Tryz.prog J0 196 args v:=by
 unfold cDiv64 at h
 split at h
 case h_2=>cases h
 rename_i hi lo y
 split at h
 case h_2=>cases h
 rename_i h1 h2 h3 h4
 cases h
 have h1:=inW_spec h1
 have h2:=inW_spec h2
 have h3:=inW_spec h3
 simp only [Nat.blt_eq] at h4
 have:=specDiv64_ok [.int .u64 hi, .int .u64 lo, .int .u64 y] _ _ rfl ⟨⟨⟨h1.1,by omega⟩,h2,h3.2⟩,trivial⟩
 exact this
noncomputable def tabT1:Tab:=tabAdd 145 cMul64 (tabAdd 196 cDiv64 tabN1)
theorem tabT1_ok:PcOk Tryz.prog J0 tabT1:=tabAdd_ok cMul64_ok (tabAdd_ok cDiv64_ok tabN1_ok)
noncomputable def bT1:Base:=⟨Tryz.prog,J0,true,tabT1,mtab0,2000,xtN0⟩
theorem bT1_ok:BaseOk bT1:=⟨progOk,tabT1_ok,mtab0_ok _ _,xtN0_ok⟩
end Go.Proofs.YtdgfhijnconaoaaGreatDoor
