/-
 NumberNear: a decimal that is read as a finite number lies nowhere beyond the middle between it and its neighbours; no condition (a part of the proof).
-/
import Derived.Test.YtbdaebagmmmijaaGreatDoorN1x01
import Derived.Lib.ConvBytes
import Derived.Lib.UnsafeStr
open Nat renaming beq->zO0,blt->zO1
open Int renaming ofNat->zO2
open Go.Value renaming int->zO3
open Go.Op renaming operands->zO5
open List renaming replicate->zO6
open Go.Region renaming ready->zO7
open Go.IntKind renaming i64->iI,u64->uI,u8->uB
noncomputable section
namespace Go.Proofs
theorem jJ:type_of%@Nat.min_eq_right:=@Nat.min_eq_right
theorem b1v:type_of%@UInt8.toNat_ofNat':=@UInt8.toNat_ofNat'
theorem M6:type_of%@Nat.mul_pos:=@Nat.mul_pos
theorem l0g:type_of%@Array.size_replicate:=@Array.size_replicate
theorem v0d:type_of%@List.map_congr_left:=@List.map_congr_left
theorem t1k:type_of%@List.replicate_succ:=@List.replicate_succ
theorem Q8:type_of%@Iff.rfl:=@Iff.rfl
theorem fI:type_of%@List.set_eq_of_length_le:=@List.set_eq_of_length_le
theorem J8:type_of%@Option.some.inj:=@Option.some.inj
theorem r0t:type_of%@Bool.or_eq_false_iff:=@Bool.or_eq_false_iff
theorem I4:type_of%@List.getElem?_cons_zero:=@List.getElem?_cons_zero
theorem M8:type_of%@List.getElem?_cons_succ:=@List.getElem?_cons_succ
theorem zzA126:type_of%@List.mem_range:=@List.mem_range
theorem o8:type_of%@Nat.zero_le:=@Nat.zero_le
theorem mW:type_of%@Nat.le_of_not_lt:=@Nat.le_of_not_lt
theorem iG:type_of%@Nat.lt_trichotomy:=@Nat.lt_trichotomy
theorem l0m:type_of%@List.range_succ:=@List.range_succ
theorem bP:type_of%@Classical.byContradiction:=@Classical.byContradiction
theorem oQ:type_of%@List.cons_append:=@List.cons_append
theorem zzA133:type_of%@List.mem_singleton:=@List.mem_singleton
theorem cP:type_of%@Nat.lt_succ_self:=@Nat.lt_succ_self
end Go.Proofs
namespace Go.Proofs.YtbdaebagmmmijaaGreatDoor.Ev
open Go Go.RowKit Go.Shelf
noncomputable section
def pV (a b:Nat):Nat:=match Nat.ble a b with
 | true=>a
 | false=>b
theorem m0t (a b:Nat):pV a b=Nat.min a b:=by
 unfold pV
 split
 ·rename_i h; exact (D4 (fX h)).symm
 ·rename_i h
  have:b<=a:=by
   rcases E0 b a with h' | h'
   ·omega
   ·rw [t0f h'] at h; cases h
  exact (jJ this).symm
def c1m (H:Heap) (sz dn:Nat) (x:Value):Option (Nat×List Value):=
 match x with
 | .slice none n _=>match zO0 (pV n dn) 0 with
  | true=>some (0,[])
  | false=>none
 | .slice (some ⟨p,o,_⟩) m _=>match cW H p o (pV m dn*sz) with
  | some cs=>match cs.all l1p with
   | true=>some (pV m dn,cs)
   | false=>none
  | none=>none
 | .string s=>match zO0 sz 1 with
  | true=>some (pV s.data.toList.length dn,W6 (s.data.toList.take (pV s.data.toList.length dn)))
  | false=>none
 | _=>none
theorem oV {P:Program} {B:Nat} {M:Nat->Prop} {ρ:Num} {H:Heap} {w:World} (hS:Sim P B M ρ H w) {sz dn:Nat} {x:Value} {k:Nat} {news:List Value} (h:c1m H sz dn x=some (k,news)):
  (∃ xl,(∀ w':World,(Builtin.lenOf (rv ρ x)).run P w'= .ok xl w')∧k=Nat.min xl dn)∧(Builtin.firstCells sz k (rv ρ x)).run P w= .ok (rvL ρ news).toArray w∧(∀ u∈rvL ρ news,u.oneCell'=true)∧news.length=k*sz:=by
 unfold c1m at h
 split at h
 ·rename_i n c
  split at h
  case h_2=>cases h
  rename_i hz
  have hz:=N8 hz
  rw [m0t] at hz
  cases h
  simp only [rv]
  exact⟨⟨n,fun _=>rfl,hz.symm⟩,j0o w sz 0 n c,fun u hu=>by simp [rvL] at hu,by simp⟩
 ·rename_i p o sp m c
  split at h
  case h_2=>cases h
  rename_i cs hcs
  split at h
  case h_2=>cases h
  rename_i hone
  cases h
  obtain⟨b,hb,hlen,hcell⟩:=Z1 hS hcs
  have hrv:∃ c',rv ρ (.slice (some ⟨p,o,sp⟩) m c)= .slice (some ⟨b,o,none⟩) m c':=by
   cases sp with
   | none=>exact⟨c,by simp [rv,rSl,p6,hb]⟩
   | some k=>exact⟨_,by simp [rv,rSl,hb]; rfl⟩
  obtain⟨c',hrv⟩:=hrv
  rw [hrv]
  refine⟨⟨m,fun _=>rfl,m0t _ _⟩,yB w sz _ ⟨b,o,none⟩ m c' _ (by rw [l5,z6]; exact hlen) (fun j u hj=>by rw [addr_add]; exact hcell j u hj),fun u hu=> ?_,hlen⟩
  rw [l5] at hu
  obtain⟨u0,hu0,rfl⟩:=zzA41.1 hu
  exact b0l ρ u0 (zzA10.1 hone u0 hu0)
 ·rename_i s
  split at h
  case h_2=>cases h
  rename_i hz
  have hz:=N8 hz
  subst hz
  cases h
  have hsz:s.data.toList.length=s.size:=by rw [bA]; rfl
  simp only [rv]
  rw [zK,hsz,m0t]
  refine⟨⟨s.size,fun _=>rfl,rfl⟩,?_,fun u hu=> ?_,?_⟩
  ·simp only [Builtin.firstCells,J4]
   congr 1
   apply cV
   rw [xE,ByteArray.data_extract,Array.toList_extract,D8]
   simp [List.extract]
  ·rw [D8] at hu
   obtain⟨_,_,rfl⟩:=zzA41.1 hu
   rfl
  ·rw [D8,z6,D5,hsz,y8]
   exact D4 (Nat.min_le_left _ _)
 ·cases h
def f1w (P:Program) (ts:List TypeId) (H:Heap) (args:List Value):Option (Value×Heap):=
 match ts,args with
 | [t,_],[.slice da dn _,x] =>match R7 P t with
  | some (.slice e)=>match eQ P e with
   | some i=>match c1m H i.size dn x with
    | some (k,news)=>match da with
     | none=>match news with
      | [] =>some (.int .i64 k,H)
      | _=>none
     | some ⟨j,off,none⟩=>match H.get j with
      | some (.cells cs e')=>match Nat.ble (off+news.length) cs.length with
       | true=>some (.int .i64 k,H.set j (.cells (cs.take off++news++cs.drop (off+news.length)) e'))
       | false=>none
      | _=>none
     | some ⟨_,_,some _⟩=>match news with
      | [] =>some (.int .i64 k,H)
      | _=>none
    | none=>none
   | none=>none
  | _=>none
 | _,_=>none
theorem N0 {P:Program} (w w':World) (t t2 ty e:TypeId) (i:TypeInfo) (hu:P.underlying t=some (.slice e)) (hi:P.info? e=some i) (x:Value) (xl dn dc:Nat) (hl:(Builtin.lenOf x).run P w= .ok xl w) (news:List Value)
  (hc:(Builtin.firstCells i.size (Nat.min xl dn) x).run P w= .ok news.toArray w) (base:Option Addr) (hst:∀ a,base=some a->(storeCells a news).run P w= .ok () w') (hno:base=none->w'=w):
  (Builtin.copy_ #[t,t2] ty #[.slice base dn dc,x]).run P w= .ok (.int .i64 (Nat.min xl dn:Nat)) w':=by
 cases base with
 | none=>
  obtain rfl:=hno rfl
  simp [Builtin.copy_,run_underlying hu,hl,sizeOf,typeInfo,hi,hc,goInt]
 | some a=>
  have:=hst a rfl
  simp [Builtin.copy_,run_underlying hu,hl,sizeOf,typeInfo,hi,hc,goInt,this]
theorem h0q {P:Program} {ts:List TypeId} {H H':Heap} {n:Nat} {args:List Value} {v:Value} (h:f1w P ts H args=some (v,H'))
  {B:Nat} {M:Nat->Prop} {ρ:Num} {w:World} (hS:∀ ρ',Agree n ρ ρ'->Sim P B M ρ' H w) (hA:∀ ρ',Agree n ρ ρ'->rvL ρ' args=rvL ρ args) (ty:TypeId):
  ∃ v' w' ρ1,Agree n ρ ρ1∧(Builtin.copy_ ts.toArray ty (rvL ρ args).toArray).run P w= .ok v' w'∧Keeps B M w w'∧∀ ρ',Agree n ρ1 ρ'->v'=rv ρ' v∧Sim P B M ρ' H' w':=by
 unfold f1w at h
 simp only [u9,v8] at h
 split at h
 case h_2=>cases h
 rename_i t t2 da dn dc x
 split at h
 case h_2=>cases h
 rename_i e hu
 split at h
 case h_2=>cases h
 rename_i i hi
 split at h
 case h_2=>cases h
 rename_i k news hcp
 have hs2:∀ ρ',Agree n ρ ρ'->rv ρ' (.slice da dn dc)=rv ρ (.slice da dn dc)∧rv ρ' x=rv ρ x:=fun ρ' ha=>by
  have:=hA ρ' ha
  simp only [rvL,J7,F1] at this
  exact this
 obtain⟨⟨xl,hl,hk⟩,hc,hone,hlen⟩:=oV (hS ρ (Agree.refl _ _)) hcp
 rw [hk] at hc
 split at h
 ·split at h
  case h_2=>cases h
  cases h
  refine⟨.int .i64 (Nat.min xl dn:Nat),w,ρ,Agree.refl _ _,?_,Keeps.refl _ _ _,fun ρ' ha=>⟨?_,hS ρ' ha⟩⟩
  ·simp only [rvL,rv]
   exact N0 w w t t2 ty e i hu hi (rv ρ x) xl dn dc (hl w) _ hc none (fun a ha=>by cases ha) (fun _=>rfl)
  ·simp only [rv,hk]
 ·rename_i j off
  split at h
  case h_2=>cases h
  rename_i cs e2 hget
  split at h
  case h_2=>cases h
  rename_i hfit
  have hfit:=fX hfit
  cases h
  obtain⟨b,hb,hcells,hown⟩:=(hS ρ (Agree.refl _ _)).obj j _ hget
  have hs:rv ρ (.slice (some ⟨j,off,none⟩) dn dc)= .slice (some ⟨b,off,none⟩) dn dc:=by simp [rv,rSl,p6,hb]
  have hbj:∀ ρ',Agree n ρ ρ'->ρ' j=some b:=fun ρ' ha=>by
   have:=(hs2 ρ' ha).1
   rw [hs] at this
   simp only [rv,rSl,p6] at this
   cases hq:ρ' j with
   | none=>rw [hq] at this; cases this
   | some b'=>
    rw [hq] at this
    simp only [A4,Value.slice.injEq,G3,Addr.mk.injEq,F1] at this
    rw [this]
  have hcsame:∀ ρ',Agree n ρ ρ'->rvL ρ' cs=rvL ρ cs:=fun ρ' ha=>by
   obtain⟨b',h1,h2,_⟩:=(hS ρ' ha).obj j _ hget
   rw [hbj ρ' ha] at h1
   cases h1
   rw [hcells] at h2
   injection h2 with h2
   injection h2 with h2
   have:=G7 Array.toList h2
   simpa using this.symm
  have hsame:∀ ρ',Agree n ρ ρ'->rvL ρ' news=rvL ρ news:=fun ρ' ha=>by
   obtain⟨⟨xl',hl',hk'⟩,hc',_,_⟩:=oV (hS ρ' ha) hcp
   rw [(hs2 ρ' ha).2,hk] at hc'
   rw [hc] at hc'
   injection hc' with hc'
   have:=G7 Array.toList hc'
   simpa using this.symm
  have hnlen:(rvL ρ news).length=news.length:=by rw [l5,z6]
  have hclen:(rvL ρ cs).length=cs.length:=by rw [l5,z6]
  have hst:=run_storeCells_at P b off e2 (rvL ρ news) 0 (rvL ρ cs).toArray w hcells (by simp only [w0k]; omega) hone
  simp only [I2] at hst
  refine⟨.int .i64 (Nat.min xl dn:Nat),w.setRow b ((rvL ρ cs).toArray.toList.take off++rvL ρ news++(rvL ρ cs).toArray.toList.drop (off+(rvL ρ news).length)).toArray,ρ,Agree.refl _ _,?_,⟨rfl,rfl,rfl,by simp,fun k hk hm=>pR w b k _ (fun e=>by subst e; exact hown.elim (fun h=>by omega) hm)⟩,fun ρ' ha=>⟨?_,(hS ρ' ha).turn hget rfl (hbj ρ' ha) ⟨b,rfl,?_,hown⟩ (fun k hk=>pR w b k _ hk)⟩⟩
  ·simp only [rvL,hs]
   exact N0 w _ t t2 ty e i hu hi (rv ρ x) xl dn dc (hl w) _ hc (some ⟨b,off,none⟩) (fun a ha=>by cases ha; exact hst) (fun h=>by cases h)
  ·simp only [rv,hk]
  ·rw [setRow_heap w b _ _ e2 _ hcells]
   congr 2
   have e1:=hcsame ρ' ha
   have e2:=hsame ρ' ha
   rw [l5,l5] at e1 e2
   simp only [l5,bK,eK,eI,z6]
   rw [e1,e2]
 ·rename_i j off kk
  split at h
  case h_2=>cases h
  cases h
  refine⟨.int .i64 (Nat.min xl dn:Nat),w,ρ,Agree.refl _ _,?_,Keeps.refl _ _ _,fun ρ' ha=>⟨?_,hS ρ' ha⟩⟩
  ·simp only [rvL,rv,rSl]
   cases hq:ρ j with
   | none=>exact N0 w w t t2 ty e i hu hi (rv ρ x) xl dn 0 (hl w) _ hc none (fun a ha=>by cases ha) (fun _=>rfl)
   | some b=>exact N0 w w t t2 ty e i hu hi (rv ρ x) xl dn _ (hl w) _ hc (some ⟨b,off,none⟩) (fun a ha=>by cases ha; rfl) (fun h=>by cases h)
  ·simp only [rv,hk]
def cL:List Value->Option (List UInt8)
 | [] =>some []
 | v ::r=>match v with
  | .int .u8 (.ofNat n)=>match zO1 n 256,cL r with
   | true,some l=>some (UInt8.ofNat n ::l)
   | _,_=>none
  | _=>none
theorem nI:∀ {l:List Value} {bs:List UInt8},cL l=some bs->l=W6 bs
 | [],bs,h=>by simp only [cL] at h; cases h; rfl
 | v ::r,bs,h=>by
  simp only [cL] at h
  split at h
  ·rename_i n
   split at h
   ·rename_i l hn hl
    cases h
    rw [nI hl,W6]
    have hn:n < 256:=by simpa [Nat.blt_eq] using hn
    have:(UInt8.ofNat n).toNat=n:=by simp [UInt8.toNat_ofNat']; omega
    rw [this]
    rfl
   ·cases h
  ·cases h
def p0a (H:Heap) (j n:Nat):Option (TypeId×List UInt8×List Prop):=
 match H.get j with
 | some (.cells cs e)=>match Nat.ble n cs.length && Nat.ble n 9223372036854775807,cL (cs.take n) with
  | true,some l=>some (e,l,[])
  | _,_=>none
 | some (.row e _ (.ints .u8 ns) _)=>match Nat.ble n ns.length && Nat.ble n 9223372036854775807,cL ((ns.take n).map (.int .u8)) with
  | true,some l=>some (e,l,[])
  | _,_=>none
 | some (.row e _ (.vals xs) _)=>match Nat.ble n xs.length && Nat.ble n 9223372036854775807,cL (xs.take n) with
  | true,some l=>some (e,l,[])
  | _,_=>none
 | some (.row e _ (.bytes l) _)=>some (e,l,[n=l.length∧n<=9223372036854775807])
 | _=>none
def c0c (P:Program) (ts:List TypeId) (H:Heap) (args:List Value):Option (Value×Heap×List Prop):=
 match ts,args with
 | [t,_],[.pointer p, .int .i64 (.ofNat n)] =>match n with
  | 0=>some (.string ⟨⟨[]⟩⟩,H,[])
  | n+1=>match p with
   | some ⟨j,0,none⟩=>match p0a H j (n+1),R7 P t with
    | some (e,l,ob),some (.pointer e2)=>match zO0 e e2 && zO0 (P.cellsOf e) 1 with
     | true=>some (.string ⟨⟨l⟩⟩,H.set j .dead,ob)
     | false=>none
    | _,_=>none
   | _=>none
 | _,_=>none
theorem b0v {P:Program} {B:Nat} {M:Nat->Prop} {ρ:Num} {H:Heap} {w:World} (hS:Sim P B M ρ H w) {j n:Nat} {e:TypeId} {l:List UInt8} {ob:List Prop} (h:p0a H j (n+1)=some (e,l,ob)) (hob:d9 ob):
  n+1<=9223372036854775807∧∃ b cur o0,ρ j=some b∧H.get j=some o0∧o0.rw=true∧RowAt w b cur e∧(B<=b∨M b)∧n+1<=cur.size∧l.length=n+1∧∀ k x,l[k]? =some x->w.cell? ((⟨b,0,none⟩:Addr).add k)=some (.int .u8 x.toNat):=by
 have fin:∀ (xs:List Value),cL (xs.take (n+1))=some l->n+1<=xs.length->l.length=n+1∧∀ (k:Nat) (x:UInt8),l[k]? =some x->xs[k]? =some (zO3 .u8 x.toNat):=by
  intro xs hb hle
  have h1:=nI hb
  have h2:=G7 List.length h1
  rw [D8,z6,D5] at h2
  refine⟨by omega,fun k x hk=> ?_⟩
  have h3:(xs.take (n+1))[k]? =some (.int .u8 x.toNat):=by rw [h1,D8,N6,hk]; rfl
  have hlt:k < l.length:=(zzA1.1 hk).1
  rwa [R9,i6 (by omega)] at h3
 unfold p0a at h
 split at h
 ·rename_i cs e' hget
  split at h
  case h_2=>cases h
  rename_i hle hb
  simp only [u6,H7] at hle
  obtain⟨hle,hmx⟩:=hle
  cases h
  obtain⟨b,hb1,hcells,hown⟩:=hS.obj j _ hget
  obtain⟨h1,h2⟩:=fin cs hb hle
  refine⟨hmx,b,_,_,hb1,hget,rfl, .of hcells,hown,by simp [l5]; omega,h1,fun k x hk=> ?_⟩
  rw [addr_add,aW,fW w b k _ _ _ hcells]
  simp [l5,h2 k x hk,rv]
 ·rename_i e' sz ns kk hget
  split at h
  case h_2=>cases h
  rename_i hle hb
  simp only [u6,H7] at hle
  obtain⟨hle,hmx⟩:=hle
  cases h
  obtain⟨b,cap,cur,hb1,_,hcells,hB,_,hcs,hln,htake⟩:=(hS.obj j _ hget).row_some (by simp only [Row.list,z6]; omega)
  rw [eK] at hb
  obtain⟨h1,h2⟩:=fin (ns.map (.int .u8)) hb (by simpa using hle)
  simp only [Row.list,z6] at hln
  refine⟨hmx,b,cur,_,hb1,hget,rfl,hcells,hB,by omega,h1,fun k x hk=> ?_⟩
  rw [addr_add,aW]
  have:=L8 hcells htake (i:=k) (v:= .int .u8 x.toNat) (h2 k x hk)
  simpa [rv] using this
 ·rename_i e' sz xs kk hget
  split at h
  case h_2=>cases h
  rename_i hle hb
  simp only [u6,H7] at hle
  obtain⟨hle,hmx⟩:=hle
  cases h
  obtain⟨b,cap,cur,hb1,_,hcells,hB,_,hcs,hln,htake⟩:=(hS.obj j _ hget).row_some (by simp only [Row.list]; omega)
  obtain⟨h1,h2⟩:=fin xs hb hle
  simp only [Row.list] at hln
  refine⟨hmx,b,cur,_,hb1,hget,rfl,hcells,hB,by omega,h1,fun k x hk=> ?_⟩
  rw [addr_add,aW]
  have:=L8 hcells htake (i:=k) (v:= .int .u8 x.toNat) (h2 k x hk)
  simpa [rv] using this
 ·rename_i e' sz l0 kk hget
  cases h
  obtain⟨⟨hle,hmx⟩,_⟩:=hob
  obtain⟨b,cap,cur,hb1,_,hcells,hB,_,hcs,hln,htake⟩:=(hS.obj j _ hget).row_some (by simp only [Row.list,z6]; omega)
  have hsz:l.length<=cur.size:=by simp only [Row.list,z6] at hln; omega
  refine⟨hmx,b,cur,_,hb1,hget,rfl,hcells,hB,by omega,hle.symm,fun k x hk=> ?_⟩
  rw [addr_add,aW]
  have:=L8 hcells htake (i:=k) (v:= .int .u8 x.toNat) (by simp only [Row.list,N6,hk]; rfl)
  simpa [rv] using this
 ·cases h
theorem pM (w:World) (b k n:Nat) (h:k≠b):(w.freeze ⟨b,0,none⟩ n).heap[k]? =w.heap[k]? :=by
 unfold World.freeze
 split
 ·rfl
 ·simp only [Array.getElem?_modify]
  rw [a8 (fun e=>h e.symm)]
theorem l0b (w:World) (b n:Nat) {o:Obj} (h:w.heap[b]? =some o):∃ o',(w.freeze ⟨b,0,none⟩ n).heap[b]? =some o':=by
 unfold World.freeze
 split
 ·exact⟨o,h⟩
 ·simp only [Array.getElem?_modify,i6]
  rw [h]
  exact⟨_,rfl⟩
theorem wL {P:Program} {ts:List TypeId} {H H':Heap} {n:Nat} {args:List Value} {v:Value} {ob:List Prop} (h:c0c P ts H args=some (v,H',ob)) (hob:d9 ob)
  {B:Nat} {M:Nat->Prop} {ρ:Num} {w:World} (hS:∀ ρ',Agree n ρ ρ'->Sim P B M ρ' H w) (hA:∀ ρ',Agree n ρ ρ'->rvL ρ' args=rvL ρ args) (ty:TypeId):
  ∃ v' w' ρ1,Agree n ρ ρ1∧(Builtin.unsafeString_ ts.toArray ty (rvL ρ args).toArray).run P w= .ok v' w'∧Keeps B M w w'∧∀ ρ',Agree n ρ1 ρ'->v'=rv ρ' v∧Sim P B M ρ' H' w':=by
 unfold c0c at h
 simp only [u9] at h
 split at h
 case h_2=>cases h
 rename_i t t2 p m
 split at h
 ·cases h
  refine⟨.string .empty,w,ρ,Agree.refl _ _,?_,Keeps.refl _ _ _,fun ρ' ha=>⟨by simp [rv]; rfl,hS ρ' ha⟩⟩
  simp only [rvL,rv]
  cases p with
  | none=>simp only [rv]; exact Lib.run_unsafeString_none w t t2 ty none
  | some a=>simp only [rv]; exact Lib.run_unsafeString_none w t t2 ty _
 ·rename_i m
  split at h
  case h_2=>cases h
  rename_i j
  split at h
  case h_2=>cases h
  rename_i e l ob' e2 hrow hu
  split at h
  case h_2=>cases h
  rename_i hck
  simp only [u6,y4] at hck
  obtain⟨c1,c2⟩:=hck
  subst c1
  cases h
  obtain⟨c3,b,cur,o0,hb,hget,hrw,hcells,hown,hsz,hlen,hcell⟩:=b0v (hS ρ (Agree.refl _ _)) hrow hob
  have hbj:∀ ρ',Agree n ρ ρ'->ρ' j=some b:=fun ρ' ha=>by
   have:=hA ρ' ha
   simp only [rvL,rv,p6,hb,A4,J7,F1,Value.pointer.injEq] at this
   cases hq:ρ' j with
   | none=>rw [hq] at this; cases this
   | some b'=>
    rw [hq] at this
    simp only [A4,G3,Addr.mk.injEq,F1] at this
    rw [this]
  obtain⟨fr,hcells,_⟩:=hcells
  have hrun:=Lib.run_unsafeString_row (P:=P) w t t2 ty e hu c2 b cur.size (by simp [World.shape?,hcells]) l (by intro e; rw [e] at hlen; cases hlen) (by omega) (by omega) hcell
  refine⟨.string ⟨l.toArray⟩,w.freeze ⟨b,0,none⟩ l.length,ρ,Agree.refl _ _,?_,⟨?_,?_,?_,?_,fun k hk hm=>pM w b k _ (fun e=>by subst e; exact hown.elim (fun h=>by omega) hm)⟩,fun ρ' ha=>⟨by simp [rv],(hS ρ' ha).turn hget hrw (hbj ρ' ha) ?_ (fun k hk=>pM w b k _ hk)⟩⟩
  ·simp only [rvL,rv,p6,hb,A4]
   have e3:(zO2 (m+1))=((l.length:Nat):Int):=by rw [hlen]; rfl
   rw [e3]
   exact hrun
  ·unfold World.freeze; split <;> rfl
  ·unfold World.freeze; split <;> rfl
  ·unfold World.freeze; split <;> rfl
  ·unfold World.freeze; split <;> simp
  ·obtain⟨o',ho'⟩:=l0b w b l.length hcells
   exact⟨b,o',rfl,ho',hown⟩
def l1f (H:Heap) (b:Builtin) (args:List Value):Option Value:=
 match b,args with
 | .unsafeSliceData,[x] =>match x with
  | .slice none _ _=>some (.pointer none)
  | .slice (some ⟨j,off,none⟩) _ c=>match zO0 c 0,H.get j with
   | false,some (.cells _ _)=>some (.pointer (some ⟨j,off,none⟩))
   | _,_=>none
  | .slice (some ⟨j,0,some k⟩) n 0=>match H.get j with
   | some (.row _ 1 (.bytes (_ ::_)) k')=>match zO0 k k' with
    | true=>some (.pointer (some ⟨j,0,none⟩))
    | false=>none
   | some (.row _ sz r k')=>match zO0 k k' && zO1 0 n && zO1 0 sz && Nat.ble (n*sz) r.list.length with
    | true=>some (.pointer (some ⟨j,0,none⟩))
    | false=>none
   | _=>none
  | _=>none
 | _,_=>none
theorem nW {P:Program} {B:Nat} {M:Nat->Prop} {ρ:Num} {H:Heap} {w:World} (hS:Sim P B M ρ H w) {b:Builtin} {args:List Value} {v:Value} (h:l1f H b args=some v) (ats:Array TypeId) (ty:TypeId) (cs:Array Bool):
  (builtin b ats ty cs ⟨rvL ρ args⟩).run P w= .ok (.value (rv ρ v)) w:=by
 unfold l1f at h
 split at h
 case h_2=>cases h
 rename_i x
 have red:∀ y,(builtin .unsafeSliceData ats ty cs #[y]).run P w=((Builtin.unsafeSliceData_ ats ty #[y]).run P w).andThen fun a w'=> .ok (.value a) w':=by
  intro y
  simp only [builtin,o7,J4]
 have some_:∀ (a:Addr) (n c:Nat),c≠0->(Builtin.unsafeSliceData_ ats ty #[.slice (some a) n c]).run P w= .ok (.pointer (some a)) w:=by
  intro a n c hc
  have hdef:Builtin.unsafeSliceData_ ats ty #[.slice (some a) n c] =
    (do
     if c≠0 then pure (.pointer (some a))
     else if (<- viewAt a.block).isSome then pure (.pointer (some a))
     else pure (.pointer (some ⟨<- newObj (.view a (<- elemOf ty)),0,none⟩))):=rfl
  rw [hdef]
  simp [hc]
 split at h
 ·cases h
  simp only [rvL,rv]
  rw [red]
  rfl
 ·rename_i j off n c
  split at h
  case h_2=>cases h
  rename_i hc hget
  have hc:c≠0:=fun e=>by rw [e] at hc; cases hc
  cases h
  obtain⟨g,hg,_⟩:=hS.obj j _ hget
  simp only [rvL,rv,rSl,p6,hg,A4]
  rw [red,some_ _ _ _ hc]
  rfl
 ·rename_i j k n
  split at h
  case h_3=>cases h
  ·rename_i e c0 r0 k' hget
   split at h
   case h_2=>cases h
   rename_i hck
   obtain rfl:=N8 hck
   cases h
   obtain⟨g,cap,cur,h1,h2,_,_,_,_,h7,_⟩:=(hS.obj j _ hget).row_some (by simp [Row.list])
   have hcap:cap≠0:=fun e=>by rw [e,K6] at h7; simp [Row.list] at h7
   simp only [rvL,rv,rSl,p6,h1,h2,A4,W4,y0d]
   rw [red,some_ _ _ _ hcap]
   rfl
  rename_i e sz r k' hne hget
  split at h
  case h_2=>cases h
  rename_i hck
  simp only [u6,y4,C0,H7] at hck
  obtain⟨⟨⟨c1,c2⟩,c3⟩,c4⟩:=hck
  subst c1
  cases h
  have hpos:0 < n*sz:=M6 c2 c3
  obtain⟨g,cap,cur,h1,h2,_,_,_,_,h7,_⟩:=(hS.obj j _ hget).row_some (by omega)
  have hcap:cap≠0:=fun e=>by rw [e,K6] at h7; omega
  simp only [rvL,rv,rSl,p6,h1,h2,A4,W4,y0d]
  rw [red,some_ _ _ _ hcap]
  rfl
 ·cases h
def e1b:AObj->Option (IntKind×List Int)
 | .ints k xs=>some (k,xs)
 | .row _ sz (.ints k ns) _=>match zO0 sz 1 with
  | true=>some (k,ns)
  | false=>none
 | _=>none
theorem cH {B:Nat} {M:Nat->Prop} {ρ:Num} {w:World} {ob:Option Nat} {o:AObj} {k:IntKind} {xs:List Int} (ho:ORep B M ρ w ob o) (h:e1b o=some (k,xs)) (hx:0 < xs.length):
  ∃ b,ob=some b∧∀ i,i < xs.length->w.cell? ⟨b,i,none⟩=some (.int k (xs.getD i 0)):=by
 unfold e1b at h
 split at h
 ·cases h
  rcases ho with ⟨_,h2⟩ | ⟨b,cs,t,fr,h1,h2,h3⟩
  ·rw [h2] at hx; simp at hx
  ·exact⟨b,h1,fun i hi=>by simp only [World.cell?,h2]; exact h3 i hi⟩
 ·split at h
  case h_2=>cases h
  cases h
  rcases ho with ⟨_,h2⟩ | ⟨b,cap,cur,h1,h2,h3,h4,h5,h6,h7,h8⟩
  ·have:xs=[] :=by simpa [Row.list] using h2
   rw [this] at hx; simp at hx
  ·refine⟨b,h1,fun i hi=> ?_⟩
   have:=L8 (ρ:=ρ) (i:=i) (v:= .int k (xs.getD i 0)) h3 h8 (by simp [Row.list,List.getD,hi])
   simpa [rv] using this
 ·cases h
def p0o (P:Program) (auto:Bool) (ts:List TypeId) (H:Heap) (args:List Value):Option (Value×Heap×List Prop):=
 match auto with
 | true=>none
 | false=>match ts,args with
  | [t,_],[.slice (some ⟨j,off,some _⟩) dn _, .slice (some ⟨p,o,_⟩) m _] =>match R7 P t with
   | some (.slice e)=>match eQ P e with
    | some i=>match H.get j,H.get p with
     | some (.row e' sz (.ints kd ns) k'),some src=>match e1b src with
      | some (kd',xs)=>match decide (kd'=kd) && zO0 i.size 1 && zO0 sz 1 with
       | true=>some (.int .i64 m,H.set j (.row e' sz (.ints kd (ns.take off++(xs.drop o).take m++ns.drop (off+m))) k'),[0 < m∧m<=dn∧off+m<=ns.length∧o+m<=xs.length])
       | false=>none
      | none=>none
     | _,_=>none
    | none=>none
   | _=>none
  | _,_=>none
theorem fK {ρ:Num} {j off:Nat} {sp:Option Nat} {n c b:Nat} (h:ρ j=some b):∃ c',rv ρ (.slice (some ⟨j,off,sp⟩) n c)= .slice (some ⟨b,off,none⟩) n c':=by
 cases sp with
 | none=>exact⟨c,by simp [rv,rSl,p6,h]⟩
 | some k=>exact⟨_,by simp [rv,rSl,h]; rfl⟩
theorem f0k {P:Program} {auto:Bool} {ts:List TypeId} {H H':Heap} {n:Nat} {args:List Value} {v:Value} {l:List Prop} (h:p0o P auto ts H args=some (v,H',l)) (hl:d9 l)
  {B:Nat} {M:Nat->Prop} {ρ:Num} {w:World} (hS:∀ ρ',Agree n ρ ρ'->Sim P B M ρ' H w) (hA:∀ ρ',Agree n ρ ρ'->rvL ρ' args=rvL ρ args) (ty:TypeId):
  ∃ v' w' ρ1,Agree n ρ ρ1∧(Builtin.copy_ ts.toArray ty (rvL ρ args).toArray).run P w= .ok v' w'∧Keeps B M w w'∧∀ ρ',Agree n ρ1 ρ'->v'=rv ρ' v∧Sim P B M ρ' H' w':=by
 unfold p0o at h
 simp only [u9,v8] at h
 split at h
 ·cases h
 split at h
 case h_2=>cases h
 rename_i t t2 j off kk dn dc p o sp m mc
 split at h
 case h_2=>cases h
 rename_i e hu
 split at h
 case h_2=>cases h
 rename_i i hi
 split at h
 case h_2=>cases h
 rename_i e' sz kd ns k' src hget hsrc
 split at h
 case h_2=>cases h
 rename_i kd' xs hin
 split at h
 case h_2=>cases h
 rename_i hc
 simp only [u6,V9,y4] at hc
 obtain⟨⟨rfl,hs1⟩,hs2⟩:=hc
 subst hs2
 cases h
 obtain⟨hm0,hmd,hmn,hmx⟩:=hl.1
 have hr0:0 < (Row.ints kd' ns).list.length:=by simp [Row.list]; omega
 have hat:∀ ρ',Agree n ρ ρ'->ρ' j=ρ j∧ρ' p=ρ p:=fun ρ' ha=>by
  have e:=hA ρ' ha
  simp only [rvL,J7,F1] at e
  obtain⟨b1,cap1,cur1,g1,_⟩:=((hS ρ (Agree.refl _ _)).obj j _ hget).row_some hr0
  obtain⟨b2,cap2,cur2,g2,_⟩:=((hS ρ' ha).obj j _ hget).row_some hr0
  obtain⟨b3,g3,_⟩:=cH ((hS ρ (Agree.refl _ _)).obj p _ hsrc) hin (by omega)
  obtain⟨b4,g4,_⟩:=cH ((hS ρ' ha).obj p _ hsrc) hin (by omega)
  obtain⟨c1,q1⟩:=fK (off:=off) (sp:=some kk) (n:=dn) (c:=dc) g1
  obtain⟨c2,q2⟩:=fK (off:=off) (sp:=some kk) (n:=dn) (c:=dc) g2
  obtain⟨c3,q3⟩:=fK (off:=o) (sp:=sp) (n:=m) (c:=mc) g3
  obtain⟨c4,q4⟩:=fK (off:=o) (sp:=sp) (n:=m) (c:=mc) g4
  have e1:=e.1
  have e2:=e.2
  rw [q1,q2] at e1
  rw [q3,q4] at e2
  simp only [Value.slice.injEq,G3,Addr.mk.injEq] at e1 e2
  rw [g1,g2,g3,g4,e1.1.1,e2.1.1]
  exact⟨rfl,rfl⟩
 obtain⟨b1,cap1,cur1,g1,_,⟨fr1,gc,_⟩,_⟩:=((hS ρ (Agree.refl _ _)).obj j _ hget).row_some hr0
 obtain⟨b3,g3,gx⟩:=cH ((hS ρ (Agree.refl _ _)).obj p _ hsrc) hin (by omega)
 obtain⟨c1,q1⟩:=fK (off:=off) (sp:=some kk) (n:=dn) (c:=dc) g1
 obtain⟨c3,q3⟩:=fK (off:=o) (sp:=sp) (n:=m) (c:=mc) g3
 have hlen:((xs.drop o).take m).length=m:=by simp; omega
 have hput:=fun (ρ':Num) (ha:Agree n ρ ρ')=>f2j (off:=off) (r':= .ints kd' (ns.take off++(xs.drop o).take m++ns.drop (off+m))) (news:=((xs.drop o).take m).map (zO3 kd')) (hS ρ' ha)
  (rvL_pure _ _ (by rw [C3,zzA10]; intro x hx; obtain⟨y,_,rfl⟩:=zzA41.1 hx; rfl)) hget (by simp only [z6,hlen,Row.list]; omega) (fun x hx=>by
   obtain⟨y,_,rfl⟩:=zzA41.1 hx
   rfl) hr0 (by simp only [Row.list,bK,eK,eI,z6,D5,K3]; congr 2; omega) ((hat ρ' ha).1.trans g1) gc
 have hcs:(Builtin.firstCells i.size (Nat.min m dn) (.slice (some ⟨b3,o,none⟩) m c3)).run P w= .ok (((xs.drop o).take m).map (zO3 kd')).toArray w:=by
  have hmm:Nat.min m dn=m:=D4 hmd
  rw [hmm,hs1]
  have:=i0t (P:=P) w ⟨b3,o,none⟩ (((xs.drop o).take m).map (zO3 kd')) (fun q v hq=>by
   rw [addr_add]
   rw [N6] at hq
   cases hv:((xs.drop o).take m)[q]? with
   | none=>rw [hv] at hq; cases hq
   | some y=>
    rw [hv] at hq
    cases hq
    rw [R9] at hv
    split at hv
    case isFalse=>cases hv
    rw [Q6] at hv
    have hlt:=(zzA1.1 hv).1
    rw [gx (o+q) hlt]
    simp [List.getD,hv])
  rw [z6,hlen] at this
  simpa [Builtin.firstCells] using this
 have hrun:=N0 (P:=P) w _ t t2 ty e i hu hi (.slice (some ⟨b3,o,none⟩) m c3) m dn c1 (by simp [Builtin.lenOf]) _ hcs (some ⟨b1,off,none⟩) (fun a ha=>by cases ha; exact (hput ρ (Agree.refl _ _)).1) (fun h=>by cases h)
 refine⟨.int .i64 (Nat.min m dn:Nat),_,ρ,Agree.refl _ _,?_,(hput ρ (Agree.refl _ _)).2.2,fun ρ' ha=>⟨?_,(hput ρ' ha).2.1⟩⟩
 ·simp only [rvL,q1,q3]
  exact hrun
 ·have hmm:Nat.min m dn=m:=D4 hmd
  simp only [rv,hmm]
def f2g:Builtin->Bool
 | .copy=>true
 | .unsafeString=>true
 | _=>false
def a1h (P:Program) (auto:Bool) (b:Builtin) (ts:List TypeId) (H:Heap) (args:List Value):Option (Value×Heap×List Prop):=
 match b with
 | .copy=>match p0o P auto ts H args with
  | some r=>some r
  | none=>match f1w P ts H args with
   | some (v,h)=>some (v,h,[])
   | none=>none
 | .unsafeString=>c0c P ts H args
 | _=>none
theorem g0x {P:Program} {auto:Bool} {b:Builtin} {ts:Array TypeId} {H H':Heap} {n:Nat} {args:List Value} {v:Value} {l:List Prop} (h:a1h P auto b ts.toList H args=some (v,H',l)) (hl:d9 l)
  {B:Nat} {M:Nat->Prop} {ρ:Num} {w:World} (hS:∀ ρ',Agree n ρ ρ'->Sim P B M ρ' H w) (hA:∀ ρ',Agree n ρ ρ'->rvL ρ' args=rvL ρ args) (ty:TypeId) (cs:Array Bool):
  ∃ v' w' ρ1,Agree n ρ ρ1∧(builtin b ts ty cs (rvL ρ args).toArray).run P w= .ok (.value v') w'∧Keeps B M w w'∧∀ ρ',Agree n ρ1 ρ'->v'=rv ρ' v∧Sim P B M ρ' H' w':=by
 have:(ts.toList.toArray:Array TypeId)=ts:=by simp
 unfold a1h at h
 split at h
 ·split at h
  ·rename_i hc
   cases h
   obtain⟨v',w',ρ1,h1,h2,h3,h4⟩:=f0k hc hl hS hA ty
   refine⟨v',w',ρ1,h1,?_,h3,h4⟩
   rw [this] at h2
   simp [builtin,h2]
  split at h
  case h_2=>cases h
  rename_i hc
  cases h
  obtain⟨v',w',ρ1,h1,h2,h3,h4⟩:=h0q hc hS hA ty
  refine⟨v',w',ρ1,h1,?_,h3,h4⟩
  rw [this] at h2
  simp [builtin,h2]
 ·obtain⟨v',w',ρ1,h1,h2,h3,h4⟩:=wL h hl hS hA ty
  refine⟨v',w',ρ1,h1,?_,h3,h4⟩
  rw [this] at h2
  simp [builtin,h2]
 ·cases h
def s2b (P:Program) (auto:Bool) (ev:Operand->Option Value) (o:Op):Option (TypeId×IntKind×List Int×Nat×List Prop):=
 match o with
 | .convert s d x=>match ev x with
  | some (.string b)=>match R7 P s,R7 P d with
   | some .string,some (.slice e)=>match R7 P e with
    | some (.int .u8)=>match auto with
     | true=>match Nat.ble b.data.toList.length 9223372036854775807 with
      | true=>some (e, .u8,V5 b.data.toList,b.data.toList.length,[])
      | false=>none
     | false=>some (e, .u8,V5 b.data.toList,b.data.toList.length,[b.data.toList.length<=9223372036854775807])
    | _=>none
   | _,_=>none
  | _=>none
 | .makeSlice t len cap=>match auto with
  | true=>none
  | false=>match ev len,ev cap with
   | some (.int _ l),some (.int _ c)=>match R7 P t with
    | some (.slice e)=>match R7 P e,eQ P e with
     | some (.int k),some inf=>match inf.zero with
      | some z=>match z with
       | .int k' (.ofNat 0)=>match decide (k'=k) && zO0 inf.size 1 with
        | true=>some (e,k,zO6 l.toNat 0,l.toNat,[0<=l∧c=l∧(inf.bytes:Int)*l<=281474976710656∧l<=9223372036854775807])
        | false=>none
       | _=>none
      | none=>none
     | _,_=>none
    | _=>none
   | _,_=>none
 | _=>none
theorem j1t {P:Program} {s d e:TypeId} {b:ByteArray} (hs:P.underlying s=some .string) (hd:P.underlying d=some (.slice e)) (he:P.underlying e=some (.int .u8)) (hl:b.size<=maxLen)
  {B:Nat} {M:Nat->Prop} {w:World} (hB:B<=w.heap.size) (n:Nat):
  ∃ w' cap,(convert s d (.string b)).run P w= .ok (.slice (some ⟨w.heap.size,0,none⟩) b.size cap) w'∧Keeps B M w w'∧∀ (ρ':Num) (H:Heap),Sim P B M ρ' H w->ρ' n=some w.heap.size->ρ' (n+1)=some cap->
   Sim P B M ρ' ((n, .row e 1 (.ints .u8 (V5 b.data.toList)) (n+1)) ::H) w':=by
 refine⟨Lib.bytesWorld w e b,_,Lib.run_convert_string_bytes w s d e b hs hd he,⟨?_,?_,?_,?_,fun k hk _=>Lib.bytesWorld_at_old w e b k (by omega)⟩,fun ρ' H hS h1 h2=> ?_⟩
 ·unfold Lib.bytesWorld World.freeze; split <;> rfl
 ·unfold Lib.bytesWorld World.freeze; split <;> rfl
 ·unfold Lib.bytesWorld World.freeze; split <;> rfl
 ·rw [Lib.bytesWorld_size]; omega
 have hge:=grownCap_ge w b.size 0 e
 have hsz:(Lib.bytesCells w e b).size=grownCap w b.size 0 e*1:=by
  have hbs:b.data.size=b.size:=rfl
  simp only [Lib.bytesCells,Array.size_append,Array.size_map,l0g,hbs]
  omega
 have hll:(V5 b.data.toList).length=b.size:=by rw [tP,z6,bA]; rfl
 refine Sim.row hS (fun i o _ hi=>⟨hi,fun e=> ?_⟩) h1 h2 ⟨_,Lib.bytesWorld_at_new w e b, .inr (d5 _)⟩ (.inl hB) (grownCap_le_maxLen w _ _ e hl) hsz ?_ ?_ (fun k hk _=>Lib.bytesWorld_at_old w _ b k hk)
 ·have:=hS.obj i o hi
  rw [e] at this
  exact absurd this.lt (m0r _)
 ·simp only [Row.list,z6,hll]; omega
 ·simp only [Row.list,z6,hll]
  have e1:rvL ρ' ((V5 b.data.toList).map (zO3 .u8))=(b.data.map fun c=>zO3 .u8 c.toNat).toList:=by
   rw [tP,l5,xE,zU,zU]
   refine v0d fun c _=> ?_
   simp [rv]
  rw [e1,Lib.bytesCells,u0h]
  have e2:b.size=(b.data.map fun c=>zO3 .u8 c.toNat).toList.length:=by rw [bA,Array.size_map]; rfl
  rw [e2]
  exact pA
theorem a0p (k:IntKind):∀ c,pU [zO3 k 0] c=(zO6 c 0).map (zO3 k)
 | 0=>rfl
 | c+1=>by simp [pU,a0p k c,List.replicate_succ]
theorem c2r {P:Program} {auto:Bool} {ev:Operand->Option Value} {a:Operand->Value} {o:Oper} {e:TypeId} {k:IntKind} {ns:List Int} {m:Nat} {ob:List Prop} (h:s2b P auto ev o.op=some (e,k,ns,m,ob)) (hl:d9 ob)
  {ρ:Num} (he:∀ x∈o.op.operands.toList,∀ y,ev x=some y->a x=rv ρ y) {B:Nat} {M:Nat->Prop} {w:World} (hB:B<=w.heap.size) (n:Nat):
  (∀ c,o.op≠ .defer c)∧∃ w' cap,(execOp a o).run P w= .ok (.value (.slice (some ⟨w.heap.size,0,none⟩) m cap)) w'∧Keeps B M w w'∧∀ (ρ':Num) (H:Heap),Sim P B M ρ' H w->ρ' n=some w.heap.size->ρ' (n+1)=some cap->
   Sim P B M ρ' ((n, .row e 1 (.ints k ns) (n+1)) ::H) w':=by
 unfold s2b at h
 simp only [u9,v8] at h
 split at h
 ·rename_i s d x ho
  split at h
  case h_2=>cases h
  rename_i b hx
  split at h
  case h_2=>cases h
  rename_i e0 hs hd
  split at h
  case h_2=>cases h
  rename_i he0
  have hb:b.size<=maxLen∧e0=e∧uB=k∧V5 b.data.toList=ns∧b.data.toList.length=m:=by
   split at h
   ·split at h
    case h_2=>cases h
    rename_i hle
    cases h
    have hle:=fX hle
    rw [bA] at hle
    exact⟨hle,rfl,rfl,rfl,rfl⟩
   ·cases h
    have hle:b.data.toList.length<=9223372036854775807:=hl.1
    rw [bA] at hle
    exact⟨hle,rfl,rfl,rfl,rfl⟩
  obtain⟨hle,rfl,rfl,rfl,rfl⟩:=hb
  obtain⟨w',cap,hrun,hk,hsim⟩:=j1t (P:=P) (M:=M) hs hd he0 hle hB n
  refine⟨(by rw [ho]; intro c hc; cases hc),w',cap,?_,hk,hsim⟩
  simp only [execOp,ho,o7]
  rw [he x (by rw [ho]; simp [zO5]) _ hx]
  simp only [rv,hrun,bA]
  rfl
 ·rename_i t len cap ho
  split at h
  ·cases h
  split at h
  case h_2=>cases h
  rename_i kl l kc c hlen hcap
  split at h
  case h_2=>cases h
  rename_i e0 ht
  split at h
  case h_2=>cases h
  rename_i k0 inf hk hinf
  split at h
  case h_2=>cases h
  rename_i z hz
  split at h
  case h_2=>cases h
  rename_i k'
  split at h
  case h_2=>cases h
  rename_i hc
  simp only [u6,V9,y4] at hc
  obtain⟨rfl,hsz⟩:=hc
  cases h
  obtain⟨h0,rfl,h1,h2⟩:=hl.1
  have hrun:=run_make (P:=P) w t e inf (.int k 0) ht hinf hz kl kc c c h0 (uV _) h1 h2
  rw [r0y (z:=(zO3 k 0).cells) (by rw [hsz]; rfl)] at hrun
  have hml:pU (zO3 k 0).cells.toList c.toNat=(zO6 c.toNat 0).map (zO3 k):=a0p k c.toNat
  rw [hml] at hrun
  refine⟨(by rw [ho]; intro c hc; cases hc),w.alloc (.cells ((zO6 c.toNat 0).map (zO3 k)).toArray e),c.toNat,?_,n5 ((O9 _ _).alloc (d5 _) _) hB,fun ρ' H hS g1 g2=> ?_⟩
  ·simp only [execOp,ho]
   rw [he len (by simp [ho,zO5]) _ hlen,he cap (by simp [ho,zO5]) _ hcap]
   simp only [rv,o7,hrun]
   rfl
  ·have e1:rvL ρ' ((zO6 c.toNat (0:Int)).map (zO3 k))=(zO6 c.toNat (0:Int)).map (zO3 k):=rvL_pure _ _ (by rw [C3]; simp [pureV])
   refine Sim.row hS (fun i o _ hi=>⟨hi,fun e=> ?_⟩) g1 g2 (.of (h0i _ _)) (.inl hB) (by unfold maxLen; omega) (by simp) (by simp [Row.list]) ?_ (fun k hk _=>heap_alloc_old _ _ hk)
   ·have:=hS.obj i o hi
    rw [e] at this
    exact absurd this.lt (m0r _)
   ·simp only [Row.list]
    rw [e1]
    simp
 ·cases h
end
noncomputable section
abbrev KV:=List (Nat×Bool)
def y0o:KV->Nat->Bool
 | [],_=>false
 | (j,_) ::r,i=>zO0 j i || y0o r i
def KVok (kv:KV) (β:Nat->Bool):Prop:=∀ p∈kv,β p.1=p.2
theorem KVok.cons {j:Nat} {b:Bool} {kv:KV} {β:Nat->Bool} (h:KVok ((j,b) ::kv) β):β j=b∧KVok kv β:=
 ⟨h (j,b) (by simp),fun p hp=>h p (by simp [hp])⟩
def c1i (os:List Oper) (j:Nat):Option Nat:=match os[j]? with
 | some o=>o.dst
 | none=>none
def I6 (auto:Bool) (os:List Oper) (o:Oper) (tmps:List TV) (kv:KV):Option (Bool×List TV×KV×List (Nat×Bool)):=
 match o.guard with
 | none=>some (false,tmps,kv,[])
 | some (j,want)=>
  match c1i os j with
  | none=>none
  | some d=>
   match x4 tmps d with
   | .v x=>match auto with
    | true=>match x with
     | .bool b=>match v1o b want with
      | true=>some (false,tmps,kv,[])
      | false=>some (true,tmps,kv,[])
     | .tuple _=>some (true,tmps,kv,[])
     | _=>none
    | false=>match x with
     | .bool b=>match y0o kv j with
      | false=>some (false,gR tmps d (.key j [] b),(j,b) ::kv,[(j,want)])
      | true=>none
     | _=>none
   | .sp l x=>match x with
    | .bool b=>match y0o kv j with
     | false=>some (false,gR tmps d (.key j l b),(j,b) ::kv,(j,want) ::l)
     | true=>none
    | _=>none
   | .key j' l _=>match zO0 j' j with
    | true=>some (false,tmps,kv,(j,want) ::l)
    | false=>none
   | .unk=>none
theorem r0w (os:List Oper) (j:Nat):((⟨os⟩:Array Oper)[j]?).bind (·.dst)=c1i os j:=by
 unfold c1i
 simp only [lS]
 cases os[j]? <;> rfl
theorem y0c {os:List Oper} {tmps:Array Value} {j d:Nat} (h:c1i os j=some d):yielded ⟨os⟩ tmps j=(match tmps.getD d undef with | .bool b=>some b | _=>none):=by
 unfold yielded
 rw [r0w,h]
 simp only [Option.bind_some]
 rw [Array.getD_eq_getD_getElem?]
 cases tmps[d]? with
 | none=>rfl
 | some v=>cases v <;> rfl
theorem bE (β:Nat->Bool):V β [] :=fun _ h=>by cases h
theorem V_cons {β:Nat->Bool} {p:Nat×Bool} {l:List (Nat×Bool)} :V β (p ::l)↔β p.1=p.2∧V β l:=
 ⟨fun h=>⟨h p (by simp),fun q hq=>h q (by simp [hq])⟩,fun ⟨h1,h2⟩ q hq=>by
  rcases zzA83.1 hq with rfl | hq
  ·exact h1
  ·exact h2 q hq⟩
def looks (os:List Oper) (o:Oper):List Nat:=o.looksAt ⟨os⟩
theorem o0m {os:List Oper} {o:Oper} {j d:Nat} {want:Bool} (hg:o.guard=some (j,want)) (hd:c1i os j=some d):d∈looks os o:=by
 unfold looks Oper.looksAt
 rw [hg]
 simp only [r0w,hd]
 simp
theorem M0 (ts:List TV) (d t:Nat) (x:TV) (hd:d < ts.length):x4 (ts.set d x) t=if d=t then x else x4 ts t:=by
 simp only [E1]
 by_cases h:d=t
 ·subst h; simp [hd]
 ·simp [h]
theorem C2 {auto:Bool} {os:List Oper} {o:Oper} {tmps tmps':List TV} {kv kv':KV} {sk:Bool} {conds:List (Nat×Bool)} (h:I6 auto os o tmps kv=some (sk,tmps',kv',conds))
  {ρ:Num} {β:Nat->Bool} (hk:KVok kv' β) {a:Array Value} (hT:∀ t∈looks os o,KVok kv β->D7 ρ β (x4 tmps t) (a.getD t undef)):
  KVok kv β∧(sk=true->Region.wanted o (yielded ⟨os⟩ a)=false)∧(sk=false->(Region.wanted o (yielded ⟨os⟩ a)=true↔V β conds))∧
  (∀ t r,D7 ρ β (x4 tmps t) r↔D7 ρ β (x4 tmps' t) r):=by
 unfold I6 at h
 simp only [A7] at h
 split at h
 ·rename_i hg
  cases h
  exact⟨hk,(fun h=>by cases h),fun _=>⟨fun _=>bE β,fun _=>by simp [Region.wanted,hg]⟩,fun _ _=>Q8⟩
 ·rename_i j want hg
  split at h
  case h_1=>cases h
  rename_i d hd
  have hmem:=o0m hg hd
  have hw:Region.wanted o (yielded ⟨os⟩ a)=((match a.getD d undef with | .bool b=>some b | _=>none)==some want):=by
   unfold Region.wanted
   rw [hg]
   simp only []
   rw [y0c hd]
  split at h
  ·rename_i x hx
   have hdx:KVok kv β->a.getD d undef=rv ρ x:=fun hkv=>by
    have:=hT d hmem hkv; rw [hx] at this; exact this
   split at h
   ·split at h
    ·rename_i b
     split at h
     ·rename_i hb
      cases h
      have e:=hdx hk
      simp only [rv] at e
      refine⟨hk,(fun h=>by cases h),fun _=>⟨fun _=>bE β,fun _=> ?_⟩,fun _ _=>Q8⟩
      rw [hw,e,j1m hb]; simp
     ·rename_i hb
      cases h
      have e:=hdx hk
      simp only [rv] at e
      refine⟨hk,fun _=> ?_,(fun h=>by cases h),fun _ _=>Q8⟩
      rw [hw,e]
      revert hb
      cases b <;> cases want <;> simp [v1o]
    ·rename_i y
     cases h
     have e:=hdx hk
     simp only [rv] at e
     refine⟨hk,fun _=> ?_,(fun h=>by cases h),fun _ _=>Q8⟩
     rw [hw,e]; rfl
    ·cases h
   ·split at h
    ·rename_i b
     split at h
     case h_2=>cases h
     cases h
     obtain⟨hj,hkv⟩:=hk.cons
     have e:=hdx hkv
     simp only [rv] at e
     refine⟨hkv,(fun h=>by cases h),fun _=> ?_,fun t r=> ?_⟩
     ·rw [hw,e,V_cons]
      simp only [hj]
      constructor
      ·intro hh; exact⟨by simpa using hh,bE β⟩
      ·intro hh; simpa using hh.1
     ·by_cases hdt:d=t
      ·subst hdt
       by_cases hlen:d < tmps.length
       ·rw [M0 _ _ _ _ hlen,i6 rfl,hx]
        constructor
        ·intro ht; exact⟨hj,fun _=>by simpa [D7,rv] using ht,fun hn=>absurd (bE β) hn⟩
        ·intro ht; have:=ht.2.1 (bE β); simpa [D7,rv] using this
       ·rw [fI (by omega)]
      ·by_cases hlen:d < tmps.length
       ·rw [M0 _ _ _ _ hlen,a8 hdt]
       ·rw [fI (by omega)]
    ·cases h
  ·rename_i l x hx
   split at h
   case h_2=>cases h
   rename_i b
   split at h
   case h_2=>cases h
   cases h
   obtain⟨hj,hkv⟩:=hk.cons
   have e:=hT d hmem hkv
   rw [hx] at e
   simp only [D7,rv] at e
   refine⟨hkv,(fun h=>by cases h),fun _=> ?_,fun t r=> ?_⟩
   ·rw [hw,V_cons]
    simp only [hj]
    by_cases hV:V β l
    ·rw [e.1 hV]
     constructor
     ·intro hh; exact⟨by simpa using hh,hV⟩
     ·intro hh; simpa using hh.1
    ·rw [e.2 hV]
     constructor
     ·intro hh; simp [undef] at hh
     ·intro hh; exact absurd hh.2 hV
   ·by_cases hdt:d=t
    ·subst hdt
     by_cases hlen:d < tmps.length
     ·rw [M0 _ _ _ _ hlen,i6 rfl,hx]
      simp only [D7,rv]
      constructor
      ·intro ht; exact⟨hj,ht.1,ht.2⟩
      ·intro ht; exact⟨ht.2.1,ht.2.2⟩
     ·rw [fI (by omega)]
    ·by_cases hlen:d < tmps.length
     ·rw [M0 _ _ _ _ hlen,a8 hdt]
     ·rw [fI (by omega)]
  ·rename_i j' l b hx
   split at h
   case h_2=>cases h
   rename_i hjj
   cases h
   have hjj:=N8 hjj
   subst hjj
   have e:=hT d hmem hk
   rw [hx] at e
   obtain⟨e0,e1,e2⟩:=e
   refine⟨hk,(fun h=>by cases h),fun _=> ?_,fun _ _=>Q8⟩
   rw [hw,V_cons]
   simp only [e0]
   by_cases hV:V β l
   ·rw [e1 hV]
    constructor
    ·intro hh; exact⟨by simpa using hh,hV⟩
    ·intro hh; simpa using hh.1
   ·rw [e2 hV]
    constructor
    ·intro hh; simp [undef] at hh
    ·intro hh; exact absurd hh.2 hV
  ·cases h
def cD (x:Option Value):Option Bool:=match x with
 | some (.bool b)=>some b
 | _=>none
def u0m (auto:Bool) (tmps:List TV) (g:List (Nat×Bool)) (c x y:Operand):Option Value:=
 match c with
 | .tmp t=>
  match x4 tmps t with
  | .key j l bc=>match b2i l g with
   | false=>none
   | true=>match cD (evo tmps ((j,true) ::g) x),cD (evo tmps ((j,false) ::g) y) with
    | some p,some q=>some (.bool (match bc with | true=>p | false=>q))
    | _,_=>none
  | .v z=>match z with
   | .bool bc=>match auto with
    | true=>match bc with
     | true=>evo tmps g x
     | false=>evo tmps g y
    | false=>match cD (evo tmps g x),cD (evo tmps g y) with
     | some p,some q=>some (.bool (match bc with | true=>p | false=>q))
     | _,_=>none
   | _=>none
  | .sp l z=>match z with
   | .bool bc=>match b2i l g with
    | false=>none
    | true=>match cD (evo tmps g x),cD (evo tmps g y) with
     | some p,some q=>some (.bool (match bc with | true=>p | false=>q))
     | _,_=>none
   | _=>none
  | .unk=>none
 | _=>none
theorem I3 {ρ:Num} {β:Nat->Bool} {tmps:List TV} {c:List (Nat×Bool)} {a:Act} {P:Program} {B:Nat} {M:Nat->Prop} {H:Heap} {w:World} (hS:Sim P B M ρ H w) (hc:V β c) {x:Operand} {y:Value} (h:evo tmps c x=some y)
  (hT:∀ t,x= .tmp t->D7 ρ β (x4 tmps t) (a.tmps.getD t undef)) (hg:∀ g,x= .global g->g < P.globals.size):a.eval x=rv ρ y:=by
 cases x with
 | tmp t=>exact r1p h hc (hT t rfl)
 | const v=>
  simp only [evo] at h
  split at h
  ·rename_i hp; cases h; exact (A1 ρ _ hp).symm
  ·cases h
 | global g=>
  simp only [evo] at h
  cases h
  simp [Act.eval,rv,p6,hS.glob g (hg g rfl)]
 | func f=>simp only [evo] at h; cases h; simp [Act.eval,rv,rvA,rvL,rFn]
theorem H6 {x:Option Value} {b:Bool} (h:cD x=some b):x=some (.bool b):=by
 unfold cD at h
 split at h
 ·cases h; rfl
 ·cases h
def X5:Operand->Bool
 | .global _=>false
 | _=>true
theorem mV {P:Program} {B:Nat} {M:Nat->Prop} {H:Heap} {auto:Bool} {ρ:Num} {β:Nat->Bool} {tmps:List TV} {g:List (Nat×Bool)} {a:Act} {w:World} (hS:Sim P B M ρ H w) (hc:V β g) {c x y:Operand} {v:Value}
  (h:u0m auto tmps g c x y=some v) (hT:∀ t,(c= .tmp t∨x= .tmp t∨y= .tmp t)->D7 ρ β (x4 tmps t) (a.tmps.getD t undef)) (hx:X5 x=true) (hy:X5 y=true):
  ((do pure (.value (if <- asBool (a.eval c) then a.eval x else a.eval y)):Sem Next)).run P w= .ok (.value (rv ρ v)) w:=by
 have hgx:∀ g,x= .global g->g < P.globals.size:=fun g e=>by subst e; cases hx
 have hgy:∀ g,y= .global g->g < P.globals.size:=fun g e=>by subst e; cases hy
 have ex:∀ {G:List (Nat×Bool)} {z:Value},V β G->evo tmps G x=some z->a.eval x=rv ρ z:=fun hG he=>I3 hS hG he (fun t e=>hT t (.inr (.inl e))) hgx
 have ey:∀ {G:List (Nat×Bool)} {z:Value},V β G->evo tmps G y=some z->a.eval y=rv ρ z:=fun hG he=>I3 hS hG he (fun t e=>hT t (.inr (.inr e))) hgy
 have fin:∀ b:Bool,a.eval c= .bool b->(if b then a.eval x else a.eval y)=rv ρ v->((do pure (.value (if <- asBool (a.eval c) then a.eval x else a.eval y)):Sem Next)).run P w= .ok (.value (rv ρ v)) w:=by
  intro b hb hv
  rw [hb,<- hv]
  rfl
 unfold u0m at h
 split at h
 case h_2=>cases h
 rename_i t
 have hTc:=hT t (.inl rfl)
 split at h
 ·rename_i j l bc hx'
  rw [hx'] at hTc
  obtain⟨h0,h1,h2⟩:=hTc
  split at h
  case h_1=>cases h
  rename_i hs
  have hcb:a.eval (.tmp t)= .bool bc:=h1 (X7 hs hc)
  split at h
  case h_2=>cases h
  rename_i p q hp hq
  cases h
  refine fin bc hcb ?_
  cases bc
  ·have:=ey (G:=(j,false) ::g) (V_cons.2 ⟨h0,hc⟩) (H6 hq)
   simp [this]
  ·have:=ex (G:=(j,true) ::g) (V_cons.2 ⟨h0,hc⟩) (H6 hp)
   simp [this]
 ·rename_i z hx'
  rw [hx'] at hTc
  split at h
  case h_2=>cases h
  rename_i bc
  have hcb:a.eval (.tmp t)= .bool bc:=by
   simp only [D7,rv] at hTc
   exact hTc
  split at h
  ·split at h
   ·exact fin true hcb (by simpa using ex hc h)
   ·exact fin false hcb (by simpa using ey hc h)
  ·split at h
   case h_2=>cases h
   rename_i p q hp hq
   cases h
   refine fin bc hcb ?_
   cases bc
   ·have:=ey hc (H6 hq)
    simp [this]
   ·have:=ex hc (H6 hp)
    simp [this]
 ·rename_i l z hx'
  rw [hx'] at hTc
  split at h
  case h_2=>cases h
  rename_i bc
  split at h
  case h_1=>cases h
  rename_i hs
  have hcb:a.eval (.tmp t)= .bool bc:=by
   have:=hTc.1 (X7 hs hc)
   simp only [rv] at this
   exact this
  split at h
  case h_2=>cases h
  rename_i p q hp hq
  cases h
  refine fin bc hcb ?_
  cases bc
  ·have:=ey hc (H6 hq)
   simp [this]
  ·have:=ex hc (H6 hp)
   simp [this]
 ·cases h
def mO (P:Program) (o:Oper):Bool:=o.op.operands.toList.all fun x=>match x with
 | .global g=>zO1 g P.globals.size
 | _=>true
def e0j:List (Option Value)->List Nat->List Value->List (Option Value)
 | ts,p ::ps,v ::vs=>e0j (ts.set p (some v)) ps vs
 | ts,_,_=>ts
def p1p:Option Value->TV
 | some x=> .v x
 | none=> .unk
def nK:AX->Option Code
 | .normal=>none
 | .ret=>some .ret
 | .exit id=>some (.exit id)
def u0o:AX->Bool
 | .normal=>true
 | .ret=>false
 | .exit _=>false
def vG:AX->LoopState
 | .normal=> .ready
 | .ret=> .done
 | .exit _=> .done
def c0b (X:Cx) (l:Nat) (args:List Value) (H:Heap) (n:Nat) (ds:List Bool):Option CR:=
 match H.get l with
 | some (.loop _ _ ts ps asg bd)=>match zO0 args.length ps.length with
  | false=>none
  | true=>match X.rd asg ⟨(e0j ts ps args).map p1p,H,n,ds,[],0,some l,[],n⟩ with
   | some (.normal,⟨tm1,h1,n1,d1,o1,lp1,rd1,mk1,b1⟩)=>match h1.get l with
    | some (.loop .ready pn ts1 ps1 as1 bd1)=>
     match X.rd bd ⟨tm1,h1.set l (.loop .busy pn ts1 ps1 as1 bd1),n1,d1,o1,lp1,rd1,mk1,b1⟩ with
     | some (x,⟨_,h2,n2,d2,o2,_,_,_,_⟩)=>match h2.get l with
      | some (.loop _ _ ts2 ps2 as2 bd2)=>match Nat.ble n n2 with
       | true=>some ⟨.bool (u0o x),h2.set l (.loop (vG x) (nK x) ts2 ps2 as2 bd2),n2,o2,d2⟩
       | false=>none
      | _=>none
     | none=>none
    | _=>none
   | _=>none
 | _=>none
theorem w0a (X:Cx) (l:Nat) (args:List Value) (H:Heap) (n:Nat) (ds:List Bool):c0b X l args H n ds=
  match H.get l with
  | some (.loop _ _ ts ps asg bd)=>match zO0 args.length ps.length with
   | false=>none
   | true=>match X.rd asg ⟨(e0j ts ps args).map p1p,H,n,ds,[],0,some l,[],n⟩ with
    | some (.normal,s1)=>match s1.heap.get l with
     | some (.loop .ready pn ts1 ps1 as1 bd1)=>
      match X.rd bd ⟨s1.tmps,s1.heap.set l (.loop .busy pn ts1 ps1 as1 bd1),s1.nid,s1.ds,s1.obs,s1.lp,s1.rd,s1.mks,s1.bs⟩ with
      | some (x,s2)=>match s2.heap.get l with
       | some (.loop _ _ ts2 ps2 as2 bd2)=>match Nat.ble n s2.nid with
        | true=>some ⟨.bool (u0o x),s2.heap.set l (.loop (vG x) (nK x) ts2 ps2 as2 bd2),s2.nid,s2.obs,s2.ds⟩
        | false=>none
       | _=>none
      | none=>none
     | _=>none
    | _=>none
  | _=>none:=by
 unfold c0b
 cases H.get l with
 | none=>rfl
 | some ob=>
  cases ob with
  | loop st pn ts ps asg bd=>
   dsimp only
   cases zO0 args.length ps.length with
   | false=>rfl
   | true=>
    dsimp only
    generalize X.rd asg _=z
    cases z with
    | none=>rfl
    | some p=>
     obtain⟨x,s1⟩:=p
     cases x with
     | normal=>
      cases s1 with
      | mk tm1 h1 n1 d1 o1 lp1 rd1 mk1 b1=>
       dsimp only
       cases h1.get l with
       | none=>rfl
       | some ob1=>
        cases ob1 with
        | loop st1 pn1 ts1 ps1 as1 bd1=>
         cases st1 with
         | ready=>
          dsimp only
          generalize X.rd bd _=z2
          cases z2 with
          | none=>rfl
          | some p2=>rfl
         | _=>rfl
        | _=>rfl
     | _=>rfl
  | _=>rfl
theorem k0n (ts:List (Option Value)) (t:Nat):x4 (ts.map p1p) t=match ts[t]? with
  | some (some x)=> .v x
  | _=> .unk:=by
 simp only [E1]
 rw [N6]
 cases h:ts[t]? with
 | none=>rfl
 | some o=>cases o <;> rfl
theorem a0c (ρ:Num):∀ (ps:List Nat) (vs:List Value) (ts:List (Option Value)) (a:Array Value),a.size=ts.length->(∀ t x,ts[t]? =some (some x)->a.getD t undef=rv ρ x)->
  (((ps.zip (rvL ρ vs)).foldl (fun (tmps:Array Value) (p:Nat×Value)=>tmps.setIfInBounds p.1 p.2) a).size=(e0j ts ps vs).length∧
   ∀ t x,(e0j ts ps vs)[t]? =some (some x)->((ps.zip (rvL ρ vs)).foldl (fun (tmps:Array Value) (p:Nat×Value)=>tmps.setIfInBounds p.1 p.2) a).getD t undef=rv ρ x)
 | [],vs,ts,a,hsz,h=>by simp only [e0j,List.zip_nil_left,List.foldl_nil]; exact⟨hsz,h⟩
 | p ::ps,[],ts,a,hsz,h=>by simp only [e0j,rvL,List.zip_nil_right,List.foldl_nil]; exact⟨hsz,h⟩
 | p ::ps,v ::vs,ts,a,hsz,h=>by
  simp only [rvL,List.zip_cons_cons,p0m,e0j]
  refine a0c ρ ps vs (ts.set p (some v)) (a.setIfInBounds p (rv ρ v)) (by simpa using hsz) (fun t x hx=> ?_)
  by_cases hpt:p=t
  ·subst hpt
   rw [List.getElem?_set] at hx
   simp only [C6] at hx
   split at hx
   ·rename_i hlt
    simp only [G3] at hx
    subst hx
    simp [hsz,hlt]
   ·cases hx
  ·rw [List.getElem?_set_ne hpt] at hx
   have:=h t x hx
   rw [Array.getD_eq_getD_getElem?] at this ⊢
   rw [Array.getElem?_setIfInBounds_ne hpt]
   exact this
theorem Rep.known {P:Program} {J:Inv P} {B:Nat} {M:Nat->Prop} {w0:Bas} {rb:Option Nat} {s:St} {a:Act} {w:World} (h:Rep P J B M w0 rb s a w) {l:Nat} {o:AObj} (hl:s.heap.get l=some o):l < s.nid∨(∃ xs k,o= .ints k xs)∨(∃ xs,o= .ro xs)∨(∃ f m sz b,o= .fam f m sz b)∨∃ e sz r k,o= .row e sz r k:=by
 obtain⟨ρ,_,hρ⟩:=h.rep
 rcases E0 l s.nid with h1 | h1
 ·exact .inl h1
 ·have:=(hρ (fun i=>if i=l then none else ρ i) (fun i hi=>by simp [show i≠l by omega])).1.obj l o hl
  simp only [C6] at this
  cases o with
  | row e sz r k=>exact .inr (.inr (.inr (.inr ⟨e,sz,r,k,rfl⟩)))
  | fam f m sz b=>exact .inr (.inr (.inr (.inl ⟨f,m,sz,b,rfl⟩)))
  | ro xs=>exact .inr (.inr (.inl ⟨xs,rfl⟩))
  | ints k xs=>exact .inr (.inl ⟨xs,k,rfl⟩)
  | cells cs t=>obtain⟨b,h,_⟩:=this; cases h
  | iter s p=>obtain⟨b,h,_⟩:=this; cases h
  | loop st pn ts ps asg bd=>obtain⟨b,r,h,_⟩:=this; cases h
  | defr=>obtain⟨b,h,_⟩:=this; cases h
  | dead=>obtain⟨b,r,h,_⟩:=this; cases h
  | map es=>obtain⟨b,mes,ck,h,_⟩:=this; cases h
theorem Rep.loop' {P:Program} {J:Inv P} {B:Nat} {M:Nat->Prop} (hp:Par P B M) {w0:Bas} {rb:Option Nat} {s:St} {a:Act} {w:World} (h:Rep P J B M w0 rb s a w) {ρ:Num} (hρ0:w0.n<=s.nid∧Agree w0.n w0.ρ ρ) (hρ:∀ ρ',Agree s.nid ρ ρ'->Sim P B M ρ' s.heap w∧FR ρ' rb s a∧∀ t x,x4 s.tmps t= .v x->a.tmps.getD t undef=rv ρ' x) {l:Nat} {st:LoopState} {pn:Option Code} {ts:List (Option Value)} {ps:List Nat} {asg bd:Code} (hl:s.heap.get l=some (.loop st pn ts ps asg bd)):
  ∃ b r,w.heap[b]? =some (.loop r)∧r.state=st∧r.pending=pn∧r.params=⟨ps⟩∧r.assign=asg∧r.body=bd∧(∀ ρ',Agree s.nid ρ ρ'->ρ' l=some b)∧l < s.nid∧
   ∀ st' pn' (s':St),s'.tmps=s.tmps->s'.heap=s.heap.set l (.loop st' pn' ts ps asg bd)->s'.nid=s.nid->s'.rd=s.rd->s'.mks=s.mks->s'.bs=s.bs->Rep P J B M w0 rb s' a (w.putObj b (.loop { r with state:=st',pending:=pn' })):=by
 have hlt:l < s.nid:=(h.known hl).elim id (fun h=>by rcases h with ⟨_,_,h⟩ | ⟨_,h⟩ | ⟨_,_,_,_,h⟩ | ⟨_,_,_,_,h⟩ <;> cases h)
 obtain⟨b,r,hb,hw,hr,hown⟩:=(hρ ρ (Agree.refl _ _)).1.obj l _ hl
 have hbl:∀ ρ',Agree s.nid ρ ρ'->ρ' l=some b:=fun ρ' ha=>(ha l hlt).trans hb
 refine⟨b,r,hw,hr.1,hr.2.1,hr.2.2.1,hr.2.2.2.1,hr.2.2.2.2.1,hbl,hlt,fun st' pn' s' e1 e2 e3 e4 e5 e6=> ?_⟩
 have hk:Keeps B M w (w.putObj b (.loop { r with state:=st',pending:=pn' })):=
  ⟨rfl,rfl,rfl,by simp,fun k hk hm=>b0d (fun e=>by subst e; exact hown.elim (fun h=>by omega) (fun h=>hm h))⟩
 refine⟨by rw [e6]; exact h.low,by rw [e1]; exact h.plain,by rw [e1]; exact h.size,u7 h.base hk.size,J.keeps hp hk h.inv,h.keeps.trans hk,ρ,by rw [e3]; exact hρ0,fun ρ' ha=> ?_⟩
 rw [e3] at ha
 obtain⟨g1,g2,g3⟩:=hρ ρ' ha
 refine⟨?_,⟨by rw [e5]; exact g2.defers,by rw [e4]; exact g2.round⟩,by rw [e1]; exact g3⟩
 rw [e2]
 refine g1.turn hl rfl (hbl ρ' ha) ?_ (fun k hk=>b0d hk)
 obtain⟨b',r',hb',hw',hr',_⟩:=g1.obj l _ hl
 rw [hbl ρ' ha] at hb'
 cases hb'
 rw [hw] at hw'
 cases hw'
 exact⟨b,_,rfl,World.putObj_heap_same (i8 hw),⟨rfl,rfl,hr'.2.2⟩,hown⟩
theorem Rep.loop {P:Program} {J:Inv P} {B:Nat} {M:Nat->Prop} (hp:Par P B M) {w0:Bas} {rb:Option Nat} {s:St} {a:Act} {w:World} (h:Rep P J B M w0 rb s a w) {l:Nat} {st:LoopState} {pn:Option Code} {ts:List (Option Value)} {ps:List Nat} {asg bd:Code} (hl:s.heap.get l=some (.loop st pn ts ps asg bd)):
  ∃ b r,w.heap[b]? =some (.loop r)∧r.state=st∧r.pending=pn∧r.params=⟨ps⟩∧r.assign=asg∧r.body=bd∧(∀ ρ',Agree s.nid h.rep.choose ρ'->ρ' l=some b)∧l < s.nid∧
   ∀ st' pn' (s':St),s'.tmps=s.tmps->s'.heap=s.heap.set l (.loop st' pn' ts ps asg bd)->s'.nid=s.nid->s'.rd=s.rd->s'.mks=s.mks->s'.bs=s.bs->Rep P J B M w0 rb s' a (w.putObj b (.loop { r with state:=st',pending:=pn' })):=
 h.loop' hp h.rep.choose_spec.1 h.rep.choose_spec.2 hl
theorem e0o {X:Cx} {J:Inv X.P} (hX:CxOk X J) {l:Nat} {args:List Value} {H:Heap} {n:Nat} {ds:List Bool} {r:CR} (h:c0b X l args H n ds=some r) (hl:d9 r.obs)
  {B:Nat} {M:Nat->Prop} (hp:Par X.P B M) {ρ:Num} {w:World} (hB:B<=w.heap.size) (hI:J.I w) {vs:List Value} (hS:∀ ρ',Agree n ρ ρ'->Sim X.P B M ρ' H w∧vs=rvL ρ' args) {rb:Option Nat} :
  n<=r.n∧∃ b fn tmps asg bd,ρ l=some b∧(Instr.yield b ⟨vs⟩).run X.P w= .ok (.round b fn tmps asg bd) w∧
   RoundIn (Fl rb) 0 X.P b fn tmps asg bd w (fun e w'=>∃ ρ1 v,Agree n ρ ρ1∧e= .returned v∧Keeps B M w w'∧∀ ρ',Agree r.n ρ1 ρ'->v=rv ρ' r.v∧Sim X.P B M ρ' r.h w'):=by
 rw [w0a] at h
 split at h
 case h_2=>cases h
 rename_i st pn ts ps asg bd hget
 split at h
 case h_1=>cases h
 rename_i hlen
 have hlen:=N8 hlen
 split at h
 case h_2=>cases h
 rename_i s1 hs1
 split at h
 case h_2=>cases h
 rename_i pn1 ts1 ps1 as1 bd1 hget1
 split at h
 case h_2=>cases h
 rename_i x s2 hs2
 split at h
 case h_2=>cases h
 rename_i st2 pn2 ts2 ps2 as2 bd2 hget2
 split at h
 case h_2=>cases h
 rename_i hble
 have hble:=fX hble
 cases h
 refine⟨hble,?_⟩
 obtain⟨b,rr,hb,hw,⟨q1,q2,q3,q4,q5,q6,q7⟩,hown⟩:=(hS ρ (Agree.refl _ _)).1.obj l _ hget
 have hlt:l < n:=by
  rcases E0 l n with h1 | h1
  ·exact h1
  ·obtain⟨_,_,h,_⟩:=(hS (fun i=>if i=l then none else ρ i) (fun i hi=>by simp [show i≠l by omega])).1.obj l _ hget
   simp at h
 have hvs:vs.length=args.length:=by rw [(hS ρ (Agree.refl _ _)).2,l5]; simp
 have hrun:=run_yield (P:=X.P) (args:=⟨vs⟩) hw (by rw [q3]; simp [hvs,hlen])
 refine⟨b,rr.fn,_,rr.assign,rr.body,hb,hrun,?_⟩
 obtain⟨hl2,h2⟩:=hX.rd _ _ _ _ hs2 hl
 obtain⟨_,h1⟩:=hX.rd _ _ _ _ hs1 hl2
 rw [q4,q5]
 refine roundIn_of_wpIn trivial ?_
 have hR0:Rep X.P J B M ⟨w,n,ρ,[]⟩ (some b) ⟨(e0j ts ps args).map p1p,H,n,ds,[],0,some l,[],n⟩
   { tmps:=(rr.params.zip (⟨vs⟩:Array Value)).foldl (fun tmps (t,a)=>tmps.setIfInBounds t a) rr.tmps,defers:=[]} w:=by
  have spec:∀ ρ',Agree n ρ ρ'->_:=fun ρ' ha=>a0c ρ' ps args ts rr.tmps q6 (fun t x hx=>by
   obtain⟨b',r',hb',hw',hr',_⟩:=(hS ρ' ha).1.obj l _ hget
   rw [ha l hlt,hb] at hb'
   cases hb'
   rw [hw] at hw'
   cases hw'
   exact hr'.2.2.2.2.2.2 t x hx)
  have efold:∀ ρ',Agree n ρ ρ'->(rr.params.zip (⟨vs⟩:Array Value)).foldl (fun tmps (t,a)=>tmps.setIfInBounds t a) rr.tmps=(ps.zip (rvL ρ' args)).foldl (fun (tmps:Array Value) (p:Nat×Value)=>tmps.setIfInBounds p.1 p.2) rr.tmps:=fun ρ' ha=>by
   rw [q3,<- (hS ρ' ha).2,<- Array.foldl_toList]
   simp
  refine⟨rfl,fun t=> ?_,?_,hB,hI,Keeps.refl _ _ _,ρ,⟨d5 _,Agree.refl _ _⟩,fun ρ' ha=>⟨(hS ρ' ha).1,⟨rfl,?_⟩,fun t x hx=> ?_⟩⟩
  ·rw [k0n]
   split <;> rfl
  ·rw [efold ρ (Agree.refl _ _)]
   simpa using (spec ρ (Agree.refl _ _)).1
  ·show some b=ρ' l
   rw [ha l hlt,hb]
  ·rw [efold ρ' ha]
   rw [k0n] at hx
   split at hx
   ·rename_i y hy
    cases hx
    exact (spec ρ' ha).2 t _ hy
   ·cases hx
 refine h1 B M _ _ _ _ hp hR0 _ (fun a1 w1 hR1=> ?_)
 obtain⟨b1,r1,hw1,t1,t2,t3,t4,t5,hb1,hlt1,hturn1⟩:=hR1.loop hp hget1
 have hbe:b1=b:=by
  have e1:=hb1 _ (Agree.refl _ _)
  obtain⟨hr0,_⟩:=hR1.rep.choose_spec
  rw [hr0.2 l hlt] at e1
  exact (J8 (hb.symm.trans e1)).symm
 subst hbe
 refine⟨_,run_beginRound hw1 t1,?_⟩
 have hR2:=hturn1 .busy pn1 ⟨s1.tmps,s1.heap.set l (.loop .busy pn1 ts1 ps1 as1 bd1),s1.nid,s1.ds,s1.obs,s1.lp,s1.rd,s1.mks,s1.bs⟩ rfl rfl rfl rfl rfl rfl
 subst t2
 refine h2 B M _ _ _ _ hp hR2 _ (fun a2 w2 hR3=> ?_)
 obtain⟨b3,r3,hw3,u1,u2,u3,u4,u5,hb3,hlt3,hturn3⟩:=hR3.loop hp hget2
 have hbe:b3=b1:=by
  have e1:=hb3 _ (Agree.refl _ _)
  obtain⟨hr0,_⟩:=hR3.rep.choose_spec
  rw [hr0.2 l hlt] at e1
  exact (J8 (hb.symm.trans e1)).symm
 subst hbe
 have fin:∃ v w',(Instr.endRound b3 (nK x)).run X.P w2= .ok v w'∧∃ ρ1 v',Agree n ρ ρ1∧Ending.returned v= .returned v'∧Keeps B M w w'∧∀ ρ',Agree s2.nid ρ1 ρ'->v'=rv ρ' (.bool (u0o x))∧Sim X.P B M ρ' (s2.heap.set l (.loop (vG x) (nK x) ts2 ps2 as2 bd2)) w':=by
  have hR4:=hturn3 (vG x) (nK x) ⟨s2.tmps,s2.heap.set l (.loop (vG x) (nK x) ts2 ps2 as2 bd2),s2.nid,s2.ds,s2.obs,s2.lp,s2.rd,s2.mks,s2.bs⟩ rfl rfl rfl rfl rfl rfl
  obtain⟨ρ1,hρ0,hρ1⟩:=hR4.rep
  refine⟨_,_,run_endRound (nK x) hw3,ρ1,_,hρ0.2,rfl,?_,fun ρ' ha=>⟨?_,?_⟩⟩
  ·have:=hR4.keeps
   cases x <;> exact this
  ·cases x <;> simp [rv,nK,u0o]
  ·have:=(hρ1 ρ' ha).1
   cases x <;> exact this
 cases x with
 | normal=>exact fin
 | ret=>exact fin
 | exit id=>exact fin
def D3 (X:Cx) (q:Bool) (o:Oper) (conds:List (Nat×Bool)) (tmps:List TV) (H:Heap) (n:Nat) (ds:List Bool):Option CR:=
 match mO X.P o with
 | false=>none
 | true=>
  match s2b X.P X.auto (evo tmps conds) o.op with
  | some (e,k,ns,m,ob)=>match q with
   | true=>none
   | false=>some ⟨.slice (some ⟨n,0,some (n+1)⟩) m 0,(n, .row e 1 (.ints k ns) (n+1)) ::H,n+2,ob,ds⟩
  | none=>
  match o.op with
  | .pick c x y=>match X5 x && X5 y with
   | false=>none
   | true=>match u0m X.gd tmps conds c x y with
    | some v=>some ⟨v,H,n,[],ds⟩
    | none=>none
  | .call c=>match c.callee with
   | .value f=>match evo tmps conds f,cG (evo tmps conds) c.args.toList with
    | some (.func (.func fid) ⟨first⟩ ⟨cap⟩),some args=>
     match X.pc fid (first++args++cap) with
     | some (v,l)=>some ⟨v,H,n,l,ds⟩
     | none=>match q with
      | true=>none
      | false=>X.call fid (first++args++cap) H n ds
    | some (.func (.yield l) ⟨[]⟩ _),some args=>match q with
     | true=>none
     | false=>c0b X l args H n ds
    | _,_=>none
   | .builtin b=>match cG (evo tmps conds) c.args.toList with
    | some args=>match b1m b with
     | true=>match q with
      | true=>none
      | false=>match T7 X.P X.auto c.argTypes.toList H n args with
       | some (v,H',l)=>some ⟨v,H',n+2,l,ds⟩
       | none=>none
     | false=>match f2g b with
      | true=>match q with
       | true=>none
       | false=>match a1h X.P X.auto b c.argTypes.toList H args with
        | some (v,H',l)=>some ⟨v,H',n,l,ds⟩
        | none=>none
      | false=>match rM X.P b c.argTypes.toList args with
       | some v=>some ⟨v,H,n,[],ds⟩
       | none=>match l1f H b args with
        | some v=>some ⟨v,H,n,[],ds⟩
        | none=>none
    | none=>none
   | _=>none
  | _=>match v0b X.P X.auto (evo tmps conds) o H n ds with
   | some r=>match B1 o.op with
    | true=>some ⟨r.v,H,n,r.obs,ds⟩
    | false=>match q with
     | false=>some ⟨r.v,r.h,n+1,r.obs,r.ds⟩
     | true=>none
   | none=>none
theorem Agree.succ {n:Nat} {ρ ρ':Num} (h:Agree (n+1) ρ ρ'):Agree n ρ ρ':=fun i hi=>h i (by omega)
theorem l0l {X:Cx} {J:Inv X.P} (hX:CxOk X J) {q:Bool} {o:Oper} {conds:List (Nat×Bool)} {tmps:List TV} {H:Heap} {n:Nat} {ds:List Bool} {r:CR} (h:D3 X q o conds tmps H n ds=some r) (hl:d9 r.obs)
  {B:Nat} {M:Nat->Prop} (hp:Par X.P B M) {ρ:Num} {β:Nat->Bool} (hc:V β conds) {a:Act} {w:World} (hB:B<=w.heap.size) (hI:J.I w)
  (hS:∀ ρ',Agree n ρ ρ'->Sim X.P B M ρ' H w) (hT:∀ ρ',Agree n ρ ρ'->∀ t, .tmp t∈o.op.operands.toList->D7 ρ' β (x4 tmps t) (a.tmps.getD t undef))
  {rb:Option Nat} {K:Act->World->Prop} {Q:Exit->Act->World->Prop}
  (hK:∀ v w' ρ1,Agree n ρ ρ1->n<=r.n->(∀ ρ',Agree r.n ρ1 ρ'->v=rv ρ' r.v∧Sim X.P B M ρ' r.h w')->Keeps B M w w'->
   (q=true->r.h=H∧r.ds=ds∧r.n=n∧Below w.heap.size w w'∧ρ1=ρ)->K (a.put o.dst v) w'):
  o.wpIn (Fl rb) 0 X.P a w K Q:=by
 unfold D3 at h
 split at h
 case h_1=>cases h
 rename_i hglob
 have hglob':∀ x∈o.op.operands.toList,∀ g,x= .global g->g < X.P.globals.size:=by
  intro x hx g e
  subst e
  have:=zzA10.1 hglob _ hx
  simpa [Nat.blt_eq] using this
 have hev:∀ ρ',Agree n ρ ρ'->∀ x∈o.op.operands.toList,∀ y,evo tmps conds x=some y->a.eval x=rv ρ' y:=fun ρ' ha x hx y hy=>
  I3 (hS ρ' ha) hc hy (fun t e=>hT ρ' ha t (e ▸ hx)) (hglob' x hx)
 have still:∀ {v:Value},(∀ ρ',Agree n ρ ρ'->(execOp a.eval o).run X.P w= .ok (.value (rv ρ' v)) w)->(∀ c,o.op≠ .defer c)->r.v=v->r.h=H->r.n=n->r.ds=ds->o.wpIn (Fl rb) 0 X.P a w K Q:=by
  intro v h1 hnd h2 h3 h4 h5
  refine E7 hnd ?_
  rw [h1 ρ (Agree.refl _ _),lG]
  refine hK _ w ρ (Agree.refl _ _) (by omega) (fun ρ' ha=> ?_) (Keeps.refl _ _ _) (fun _=>⟨h3,h5,h4,O9 _ _,rfl⟩)
  have ha':Agree n ρ ρ':=fun i hi=>ha i (by omega)
  refine⟨?_,by rw [h3]; exact hS ρ' ha'⟩
  have e1:=h1 ρ (Agree.refl _ _)
  rw [h1 ρ' ha'] at e1
  rw [h2]
  injection e1 with e1
  injection e1 with e1
  exact e1.symm
 split at h
 ·
  rename_i e k ns m ob hs2
  split at h
  ·cases h
  cases h
  obtain⟨hnd,w',cap,hex,hk,hsim⟩:=c2r (a:=a.eval) (M:=M) hs2 hl (hev ρ (Agree.refl _ _)) hB n
  refine E7 hnd ?_
  rw [hex,lG]
  refine hK _ w' (fun i=>if i=n then some w.heap.size else if i=n+1 then some cap else ρ i) (fun i hi=> ?_) (by simp) (fun ρ' ha=> ?_) hk (fun h=>by cases h)
  ·show (if i=n then some w.heap.size else if i=n+1 then some cap else ρ i)=ρ i
   rw [a8 (by omega),a8 (by omega)]
  ·have h1:=ha n (by simp)
   have h2:=ha (n+1) (by simp)
   simp only [C6] at h1
   simp only [show n+1≠n by omega,C5,C6] at h2
   refine⟨?_,hsim ρ' H (hS ρ' (fun i hi=> ?_)) h1 h2⟩
   ·simp only [rv,rSl,h1,h2,W4,y0d]
   ·have:=ha i (by simp; omega)
    simp only [show i≠n by omega,show i≠n+1 by omega,C5] at this
    exact this
 split at h
 ·
  rename_i c x y ho
  split at h
  case h_1=>cases h
  rename_i hng
  simp only [u6] at hng
  split at h
  case h_2=>cases h
  rename_i v hv
  cases h
  refine still (v:=v) (fun ρ' ha=> ?_) (by rw [ho]; intro c hc; cases hc) rfl rfl rfl rfl
  have:=mV (a:=a) (hS ρ' ha) hc hv (fun t e=>hT ρ' ha t (by
   rw [ho]; simp only [zO5]
   rcases e with e | e | e <;> simp [e])) hng.1 hng.2
  simp only [execOp,ho]
  exact this
 ·
  rename_i c ho
  split at h
  ·rename_i f hcal
   split at h
   case h_3=>cases h
   case h_2=>
    rename_i l cap args hf hargs
    split at h
    case h_1=>cases h
    have hfm:f∈o.op.operands.toList:=by rw [ho]; simp [zO5,Call.operands,hcal]
    have ham:∀ x∈c.args.toList,x∈o.op.operands.toList:=fun x hx=>by rw [ho]; simp [zO5,Call.operands,hcal]; exact .inr (by simpa using hx)
    have e2:∀ ρ',Agree n ρ ρ'->(c.args.map a.eval).toList=rvL ρ' args:=fun ρ' ha=>by
     have:=q9 (a:=a.eval) (ρ:=ρ') c.args.toList args (fun x hx y hy=>hev ρ' ha x (ham x hx) y hy) hargs
     simpa using this
    obtain⟨hn,b,fn,tmps1,asg,bd,hb,hrun,hround⟩:=e0o hX h hl hp hB hI (vs:=(c.args.map a.eval).toList) (rb:=rb) (fun ρ' ha=>⟨hS ρ' ha,e2 ρ' ha⟩)
    refine E7 (by rw [ho]; intro c hc; cases hc) ?_
    have hex:(execOp a.eval o).run X.P w= .ok (.round b fn tmps1 asg bd) w:=by
     have e1:=hev ρ (Agree.refl _ _) f hfm _ hf
     simp only [execOp,ho,resolve,hcal,e1,rv,rvA,rvL,rFn,hb,W4,Deferred.ofValue,pure_bind,invoke]
     have e0:(⟨(c.args.map a.eval).toList⟩:Array Value)=c.args.map a.eval:=rfl
     rw [e0] at hrun
     simpa using hrun
    rw [hex,Oper.uponIn_round]
    refine⟨fun h=>(by cases h),hround.mono fun e w' hh=> ?_⟩
    obtain⟨ρ1,v,ha1,he,hk,hfin⟩:=hh
    subst he
    exact hK v w' ρ1 ha1 hn hfin hk (fun hq'=>by cases hq')
   rename_i fid first cap args hf hargs
   have hfm:f∈o.op.operands.toList:=by rw [ho]; simp [zO5,Call.operands,hcal]
   have ham:∀ x∈c.args.toList,x∈o.op.operands.toList:=fun x hx=>by rw [ho]; simp [zO5,Call.operands,hcal]; exact .inr (by simpa using hx)
   have hrunx:∀ ρ',Agree n ρ ρ'->(execOp a.eval o).run X.P w=(callFunc fid ⟨rvL ρ' (first++args++cap)⟩).run X.P w:=by
    intro ρ' ha
    have e1:=hev ρ' ha f hfm _ hf
    have e2:=q9 (a:=a.eval) (ρ:=ρ') c.args.toList args (fun x hx y hy=>hev ρ' ha x (ham x hx) y hy) hargs
    have e3:c.args.map a.eval=⟨rvL ρ' args⟩:=by apply cV; simpa using e2
    simp only [execOp,ho,resolve,hcal,e1,e3,rv,rvA,rFn,Deferred.ofValue,pure_bind,invoke]
    have e4:((⟨rvL ρ' first⟩:Array Value)++(⟨rvL ρ' args⟩:Array Value)++(⟨rvL ρ' cap⟩:Array Value))=⟨rvL ρ' (first++args++cap)⟩:=by
     simp [l5]
    rw [e4]
   have hrun:∀ ρ',Agree n ρ ρ'->Enters X.P fid->(execOp a.eval o).run X.P w= .ok (.enter fid ⟨rvL ρ' (first++args++cap)⟩) w:=by
    intro ρ' ha hent
    rw [hrunx ρ' ha]
    exact hent _ _
   split at h
   ·rename_i v l hpc
    cases h
    obtain⟨hpl,hpv,⟨hent,hcalls⟩ | hext⟩:=hX.pc _ _ _ _ hpc hl
    ·refine E7 (by rw [ho]; intro c hc; cases hc) ?_
     rw [hrun ρ (Agree.refl _ _) hent,Oper.uponIn_enter,rvL_pure ρ _ hpl]
     refine⟨fun h=>(by cases h),dT ((hcalls w hI).mono fun e w' ⟨he,hb⟩=> ?_)⟩
     subst he
     refine hK v w' ρ (Agree.refl _ _) (d5 _) (fun ρ' ha=>⟨(A1 ρ' v hpv).symm,(hS ρ' ha).below hb⟩) (n5 hb hB) (fun _=>⟨rfl,rfl,rfl,hb,rfl⟩)
    ·refine E7 (by rw [ho]; intro c hc; cases hc) ?_
     rw [hrunx ρ (Agree.refl _ _),rvL_pure ρ _ hpl,hext w hI,lG]
     exact hK v w ρ (Agree.refl _ _) (d5 _) (fun ρ' ha=>⟨(A1 ρ' v hpv).symm,hS ρ' ha⟩) (Keeps.refl _ _ _) (fun _=>⟨rfl,rfl,rfl,O9 _ _,rfl⟩)
   ·split at h
    ·cases h
    ·rename_i hq
     obtain⟨hn,hcl⟩:=b0a hX h hl
     refine h0y (by rw [ho]; intro c hc; cases hc) (hrunx ρ (Agree.refl _ _)) ((hcl B M ρ w _ hp hB hI (fun ρ' ha=>⟨hS ρ' ha,?_⟩)).mono fun e w' hh=> ?_)
     ·have e1:=hev ρ (Agree.refl _ _) f hfm _ hf
      have e1':=hev ρ' ha f hfm _ hf
      have e2:=q9 (a:=a.eval) (ρ:=ρ) c.args.toList args (fun x hx y hy=>hev ρ (Agree.refl _ _) x (ham x hx) y hy) hargs
      have e2':=q9 (a:=a.eval) (ρ:=ρ') c.args.toList args (fun x hx y hy=>hev ρ' ha x (ham x hx) y hy) hargs
      rw [e1] at e1'
      simp only [rv,rvA] at e1'
      injection e1' with _ g1 g2
      injection g1 with g1
      injection g2 with g2
      rw [e2] at e2'
      rw [P3,P3,P3,P3,g1,g2,e2']
     ·obtain⟨ρ1,v,ha1,he,hk,hfin⟩:=hh
      exact⟨v,he,hK v w' ρ1 ha1 hn hfin hk (fun hq'=>by cases hq')⟩
  ·rename_i b hcal
   split at h
   case h_2=>cases h
   rename_i args hargs
   have ham:∀ x∈c.args.toList,x∈o.op.operands.toList:=fun x hx=>by rw [ho]; simp [zO5,Call.operands,hcal]; simpa using hx
   split at h
   ·rename_i happ
    have happ:=zT happ
    subst happ
    split at h
    ·cases h
    rename_i hq
    split at h
    case h_2=>cases h
    rename_i v H' l hv
    cases h
    have e2:∀ ρ',Agree n ρ ρ'->(c.args.map a.eval).toList=rvL ρ' args:=fun ρ' ha=>by
     have:=q9 (a:=a.eval) (ρ:=ρ') c.args.toList args (fun x hx y hy=>hev ρ' ha x (ham x hx) y hy) hargs
     simpa using this
    have e3:c.args.map a.eval=(rvL ρ args).toArray:=by apply cV; exact e2 ρ (Agree.refl _ _)
    obtain⟨v',w',ρ1,ha1,hrun,hk,hfin⟩:=xS hv hl hB hS (fun ρ' ha=>(e2 ρ' ha).symm.trans (e2 ρ (Agree.refl _ _))) o.type
    refine E7 (by rw [ho]; intro c hc; cases hc) ?_
    have hex:(execOp a.eval o).run X.P w= .ok (.value v') w':=by
     simp only [execOp,ho,resolve,hcal,e3,pure_bind,invoke,builtin]
     have:(c.argTypes.toList.toArray:Array TypeId)=c.argTypes:=by simp
     rw [this] at hrun
     simp [hrun]
    rw [hex,lG]
    exact hK v' w' ρ1 ha1 (by simp) hfin hk (fun hq'=>by cases hq')
   split at h
   ·split at h
    ·cases h
    split at h
    case h_2=>cases h
    rename_i v H' l hv
    cases h
    have e2:∀ ρ',Agree n ρ ρ'->(c.args.map a.eval).toList=rvL ρ' args:=fun ρ' ha=>by
     have:=q9 (a:=a.eval) (ρ:=ρ') c.args.toList args (fun x hx y hy=>hev ρ' ha x (ham x hx) y hy) hargs
     simpa using this
    have e3:c.args.map a.eval=(rvL ρ args).toArray:=by apply cV; exact e2 ρ (Agree.refl _ _)
    obtain⟨v',w',ρ1,ha1,hrun,hk,hfin⟩:=g0x hv hl hS (fun ρ' ha=>(e2 ρ' ha).symm.trans (e2 ρ (Agree.refl _ _))) o.type (c.args.map fun | .const _=>true | _=>false)
    refine E7 (by rw [ho]; intro c hc; cases hc) ?_
    have hex:(execOp a.eval o).run X.P w= .ok (.value v') w':=by
     simp only [execOp,ho,resolve,hcal,e3,pure_bind,invoke]
     exact hrun
    rw [hex,lG]
    exact hK v' w' ρ1 ha1 (d5 _) hfin hk (fun hq'=>by cases hq')
   have e3:∀ ρ',Agree n ρ ρ'->c.args.map a.eval=⟨rvL ρ' args⟩:=fun ρ' ha=>by
    have e2:=q9 (a:=a.eval) (ρ:=ρ') c.args.toList args (fun x hx y hy=>hev ρ' ha x (ham x hx) y hy) hargs
    apply cV; simpa using e2
   split at h
   ·rename_i v hv
    cases h
    refine still (v:=v) (fun ρ' ha=> ?_) (by rw [ho]; intro c hc; cases hc) rfl rfl rfl rfl
    simp only [execOp,ho,resolve,hcal,e3 ρ' ha,pure_bind,invoke]
    exact bX hv ρ' w _ _
   ·split at h
    case h_2=>cases h
    rename_i v hv
    cases h
    refine still (v:=v) (fun ρ' ha=> ?_) (by rw [ho]; intro c hc; cases hc) rfl rfl rfl rfl
    simp only [execOp,ho,resolve,hcal,e3 ρ' ha,pure_bind,invoke]
    exact nW (hS ρ' ha) hv _ _ _
  ·cases h
 ·
  split at h
  case h_2=>cases h
  rename_i r0 hr0
  split at h
  ·rename_i hst
   cases h
   have each:∀ ρ',Agree n ρ ρ'->_:=fun ρ' ha=>
    dV (a:=a.eval) (hS ρ' ha) hB (fun hs=>by rw [hst] at hs; cases hs) (fun x hx y hy=>hev ρ' ha x hx y hy) hr0 hl
   obtain⟨nx,w',h1,h2,h3,h4,h5⟩:=each _ (Agree.refl _ _)
   obtain⟨h6,h7,h8⟩:=h5 hst
   subst h8
   have all:∀ ρ',Agree n ρ ρ'->lE nx (rv ρ' r0.v):=by
    intro ρ' ha
    obtain⟨nx2,w2,g1,g2,g3,_⟩:=each ρ' ha
    rw [h1] at g1
    cases g1
    exact g2
   refine E7 (cQ hr0) ?_
   rcases h2 with hnx | ⟨hnx,hu⟩
   ·rw [h1,hnx,lG]
    refine hK _ _ ρ (Agree.refl _ _) (d5 _) (fun ρ' ha=>⟨?_,hS ρ' ha⟩) (Keeps.refl _ _ _) (fun _=>⟨rfl,rfl,rfl,O9 _ _,rfl⟩)
    rcases all ρ' ha with e | ⟨e,_⟩
    ·rw [hnx] at e; injection e
    ·rw [hnx] at e; cases e
   ·rw [h1,hnx,Oper.uponIn_skip]
    refine hK _ _ ρ (Agree.refl _ _) (d5 _) (fun ρ' ha=>⟨?_,hS ρ' ha⟩) (Keeps.refl _ _ _) (fun _=>⟨rfl,rfl,rfl,O9 _ _,rfl⟩)
    rcases all ρ' ha with e | ⟨_,e⟩
    ·rw [hnx] at e; cases e
    ·exact e.symm
  ·split at h
   case h_2=>cases h
   cases h
   have each:∀ ρ',Agree (n+1) (fun i=>if i=n then some w.heap.size else ρ i) ρ'->_:=fun ρ' ha=>
    dV (a:=a.eval) (hS ρ' (fun i hi=>by rw [ha i (by omega)]; simp [Nat.ne_of_lt hi])) hB (fun _=>by rw [ha n (by omega)]; simp)
     (fun x hx y hy=>hev ρ' (fun i hi=>by rw [ha i (by omega)]; simp [Nat.ne_of_lt hi]) x hx y hy) hr0 hl
   obtain⟨nx,w',h1,h2,h3,h4,h5⟩:=each _ (Agree.refl _ _)
   have all:∀ ρ',Agree (n+1) (fun i=>if i=n then some w.heap.size else ρ i) ρ'->lE nx (rv ρ' r0.v)∧Sim X.P B M ρ' r0.h w':=by
    intro ρ' ha
    obtain⟨nx2,w2,g1,g2,g3,_⟩:=each ρ' ha
    rw [h1] at g1
    cases g1
    exact⟨g2,g3⟩
   have hag:Agree n ρ (fun i=>if i=n then some w.heap.size else ρ i):=fun i hi=>by simp [Nat.ne_of_lt hi]
   refine E7 (cQ hr0) ?_
   rcases h2 with hnx | ⟨hnx,hu⟩
   ·rw [h1,hnx,lG]
    refine hK _ w' _ hag (by simp) (fun ρ' ha=>⟨?_,(all ρ' ha).2⟩) h4 (fun hq'=>by cases hq')
    rcases (all ρ' ha).1 with e | ⟨e,_⟩
    ·rw [hnx] at e; injection e
    ·rw [hnx] at e; cases e
   ·rw [h1,hnx,Oper.uponIn_skip]
    refine hK _ w' _ hag (by simp) (fun ρ' ha=>⟨?_,(all ρ' ha).2⟩) h4 (fun hq'=>by cases hq')
    rcases (all ρ' ha).1 with e | ⟨_,e⟩
    ·rw [hnx] at e; cases e
    ·exact e.symm
end
noncomputable section
def kvP:KV->Nat->Bool->Prop
 | [],_,_=>True
 | (j,b) ::r,i,want=>match zO0 j i with
  | true=>b=want
  | false=>kvP r i want
def B8 (kv:KV):List (Nat×Bool)->Prop
 | [] =>True
 | [(j,want)] =>kvP kv j want
 | (j,want) ::r=>kvP kv j want∧B8 kv r
def b0t (kv:KV) (conds:List (Nat×Bool)) (obs:List Prop):List Prop:=
 match conds with
 | [] =>obs
 | _=>obs.map fun p=>B8 kv conds->p
theorem t1n {kv:KV} {β:Nat->Bool} (h:KVok kv β) {j:Nat} {want:Bool} (hv:β j=want):kvP kv j want:=by
 induction kv with
 | nil=>trivial
 | cons p kv ih=>
  obtain⟨i,b⟩:=p
  obtain⟨h1,h2⟩:=h.cons
  simp only [kvP]
  split
  ·rename_i hb
   have:=N8 hb
   subst this
   rw [<- h1,hv]
  ·exact ih h2
theorem t0v {kv:KV} {β:Nat->Bool} (h:KVok kv β):∀ {l:List (Nat×Bool)},V β l->B8 kv l
 | [],_=>trivial
 | [(j,want)],hv=>t1n h (hv (j,want) (by simp))
 | (j,want) ::q ::r,hv=>by
  obtain⟨h1,h2⟩:=V_cons.1 hv
  exact⟨t1n h h1,t0v h h2⟩
theorem jW {kv:KV} {β:Nat->Bool} (h:KVok kv β) {conds:List (Nat×Bool)} (hv:V β conds) {obs:List Prop} (ho:d9 (b0t kv conds obs)):d9 obs:=by
 unfold b0t at ho
 split at ho
 ·exact ho
 ·rename_i hne
  clear hne
  induction obs with
  | nil=>trivial
  | cons p obs ih=>
   simp only [j0y,d9] at ho
   exact⟨ho.1 (t0v h hv),ih ho.2⟩
def g0c (ts:List TV) (d:Option Nat) (x:TV):List TV:=match d with
 | none=>ts
 | some d=>gR ts d x
def r1t (conds:List (Nat×Bool)) (v:Value):TV:=match conds with
 | [] => .v v
 | l=> .sp l v
def z0m (conds:List (Nat×Bool)):Bool:=match conds with
 | [] =>false
 | _=>true
def kvH:KV->Nat->Bool->Prop
 | [],_,_=>False
 | (j,b) ::r,i,want=>match zO0 j i with
  | true=>b=want
  | false=>kvH r i want
def w0f (kv:KV):List (Nat×Bool)->Prop
 | [] =>True
 | [(j,want)] =>kvH kv j want
 | (j,want) ::r=>kvH kv j want∧w0f kv r
theorem t1l {kv:KV} {β:Nat->Bool} (h:KVok kv β) {j:Nat} {want:Bool} (hv:kvH kv j want):β j=want:=by
 induction kv with
 | nil=>exact hv.elim
 | cons p kv ih=>
  obtain⟨i,b⟩:=p
  obtain⟨h1,h2⟩:=h.cons
  simp only [kvH] at hv
  split at hv
  ·rename_i hb
   have:=N8 hb
   subst this
   rw [h1,hv]
  ·exact ih h2 hv
theorem rB {kv:KV} {β:Nat->Bool} (h:KVok kv β):∀ {l:List (Nat×Bool)},w0f kv l->V β l
 | [],_=>bE _
 | [(_,_)],hv=>V_cons.2 ⟨t1l h hv,bE _⟩
 | (_,_) ::_ ::_,hv=>V_cons.2 ⟨t1l h hv.1,rB h hv.2⟩
def g0l (X:Cx) (q:Bool) (o:Oper) (conds:List (Nat×Bool)) (tmps:List TV) (H:Heap) (n:Nat) (ds:List Bool) (kv:KV):Option CR:=
 match D3 X (q || z0m conds) o conds tmps H n ds with
 | some ⟨v,h,n',ob,ds'⟩=>some ⟨v,h,n',b0t kv conds ob,ds'⟩
 | none=>match !q && z0m conds with
  | false=>none
  | true=>match D3 X false o conds tmps H n ds with
   | none=>none
   | some ⟨v,h,n',ob,ds'⟩=>some ⟨v,h,n',w0f kv conds ::ob,ds'⟩
theorem E2 {X:Cx} {q:Bool} {o:Oper} {conds:List (Nat×Bool)} {tmps:List TV} {H:Heap} {n:Nat} {ds:List Bool} {kv:KV} {r:CR} (h:g0l X q o conds tmps H n ds kv=some r):
  (∃ r0,D3 X (q || z0m conds) o conds tmps H n ds=some r0∧r=⟨r0.v,r0.h,r0.n,b0t kv conds r0.obs,r0.ds⟩)∨
  (q=false∧z0m conds=true∧D3 X true o conds tmps H n ds=none∧∃ r0,D3 X false o conds tmps H n ds=some r0∧r=⟨r0.v,r0.h,r0.n,w0f kv conds ::r0.obs,r0.ds⟩):=by
 unfold g0l at h
 split at h
 ·rename_i hb
  cases h
  exact .inl ⟨_,hb,rfl⟩
 ·rename_i hb
  split at h
  ·cases h
  ·rename_i hq
   simp only [u6,q0i] at hq
   split at h
   ·cases h
   ·rename_i hb2
    cases h
    rw [hq.1,hq.2] at hb
    exact .inr ⟨hq.1,hq.2,hb,_,hb2,rfl⟩
def M9 (X:Cx) (q:Bool) (os:List Oper) (o:Oper) (tmps:List TV) (H:Heap) (n:Nat) (ds:List Bool) (kv:KV):Option (List TV×KV×TV×CR):=
 match I6 X.gd os o tmps kv with
 | none=>none
 | some (true,tmps',kv',_)=>some (tmps',kv', .v undef,⟨undef,H,n,[],ds⟩)
 | some (false,tmps',kv',conds)=>
  match g0l X q o conds tmps' H n ds kv' with
  | none=>none
  | some ⟨v,h,n',ob,ds'⟩=>some (tmps',kv',r1t conds v,⟨v,h,n',ob,ds'⟩)
theorem A6 (X:Cx) (q:Bool) (os:List Oper) (o:Oper) (tmps:List TV) (H:Heap) (n:Nat) (ds:List Bool) (kv:KV):M9 X q os o tmps H n ds kv=
  match I6 X.gd os o tmps kv with
  | none=>none
  | some (true,tmps',kv',_)=>some (tmps',kv', .v undef,⟨undef,H,n,[],ds⟩)
  | some (false,tmps',kv',conds)=>
   match g0l X q o conds tmps' H n ds kv' with
   | none=>none
   | some r=>some (tmps',kv',r1t conds r.v,r):=by
 unfold M9
 cases I6 X.gd os o tmps kv with
 | none=>rfl
 | some p=>
  obtain⟨b,t,k,c⟩:=p
  cases b with
  | false=>
   dsimp only
   generalize g0l X _ o c t H n ds k=z
   cases z <;> rfl
  | true=>rfl
theorem N4 {X:Cx} {o:Oper} {conds:List (Nat×Bool)} {tmps:List TV} {H:Heap} {n:Nat} {ds:List Bool} {r:CR} (h:D3 X true o conds tmps H n ds=some r):r.h=H∧r.n=n∧r.ds=ds:=by
 unfold D3 at h
 split at h
 case h_1=>cases h
 cases hsb:s2b X.P X.auto (evo tmps conds) o.op with
 | some eb=>rw [hsb] at h; cases h
 | none=>
 rw [hsb] at h
 dsimp only at h
 split at h
 ·split at h
  ·cases h
  ·split at h
   ·cases h; exact⟨rfl,rfl,rfl⟩
   ·cases h
 ·split at h
  ·split at h
   ·split at h
    ·cases h; exact⟨rfl,rfl,rfl⟩
    ·cases h
   ·cases h
   ·cases h
  ·split at h
   ·split at h
    ·cases h
    ·split at h
     ·cases h
     ·split at h
      ·cases h; exact⟨rfl,rfl,rfl⟩
      ·split at h
       ·cases h; exact⟨rfl,rfl,rfl⟩
       ·cases h
   ·cases h
  ·cases h
 ·split at h
  ·split at h
   ·cases h; exact⟨rfl,rfl,rfl⟩
   ·cases h
  ·cases h
theorem P1 {os:List Oper} {o:Oper} {t:Nat} (h:Operand.tmp t∈o.op.operands.toList):t∈looks os o:=by
 unfold looks Oper.looksAt
 exact oU _ (List.mem_filterMap.2 ⟨.tmp t,h,rfl⟩)
theorem P9 {X:Cx} {J:Inv X.P} (hX:CxOk X J) {q:Bool} {os:List Oper} {i:Nat} {o:Oper} (hi:os[i]? =some o) {tmps tmps':List TV} {H:Heap} {n:Nat} {ds:List Bool} {kv kv':KV} {tv:TV} {r:CR}
  (h:M9 X q os o tmps H n ds kv=some (tmps',kv',tv,r)) (hl:d9 r.obs)
  {B:Nat} {M:Nat->Prop} (hp:Par X.P B M) {ρ:Num} {Cβ:(Nat->Bool)->Prop} (hne:∃ β,Cβ β) (hCβ:∀ β,Cβ β->KVok kv' β) {a:Act} {w:World} (hB:B<=w.heap.size) (hI:J.I w)
  (hS:∀ ρ',Agree n ρ ρ'->Sim X.P B M ρ' H w) (hT:∀ ρ',Agree n ρ ρ'->∀ β,Cβ β->∀ t∈looks os o,D7 ρ' β (x4 tmps t) (a.tmps.getD t undef))
  {rb:Option Nat} {K:Act->World->Prop} {Q:Exit->Act->World->Prop}
  (hK:∀ v w' ρ1,Agree n ρ ρ1->n<=r.n->(∀ ρ',Agree r.n ρ1 ρ'->Sim X.P B M ρ' r.h w'∧∀ β,Cβ β->D7 ρ' β tv v)->Keeps B M w w'->
   (q=true->r.h=H∧r.ds=ds∧r.n=n∧Below w.heap.size w w'∧ρ1=ρ)->K (a.put o.dst v) w'):
  wpOpIn (Fl rb) 0 X.P ⟨os⟩ Q i K a w:=by
 have hoi:(⟨os⟩:Array Oper)[i]? =some o:=by simpa using hi
 unfold wpOpIn
 rw [hoi]
 simp only []
 obtain⟨β0,hβ0⟩:=hne
 rw [A6] at h
 split at h
 ·cases h
 ·
  rename_i tmps1 kv1 conds1 hg
  cases h
  have g:=C2 hg (hCβ β0 hβ0) (fun t ht _=>hT ρ (Agree.refl _ _) β0 hβ0 t ht)
  rw [a8 (by rw [g.2.1 rfl]; simp)]
  refine⟨jK,?_⟩
  exact hK undef w ρ (Agree.refl _ _) (d5 _) (fun ρ' ha=>⟨hS ρ' ha,fun β _=>(T9 ρ').symm⟩) (Keeps.refl _ _ _) (fun _=>⟨rfl,rfl,rfl,O9 _ _,rfl⟩)
 ·rename_i tmps1 kv1 conds hg
  split at h
  ·cases h
  ·rename_i r1 hand
   cases h
   have g:∀ ρ',Agree n ρ ρ'->∀ β,Cβ β->_:=fun ρ' ha β hβ=>C2 hg (hCβ β hβ) (fun t ht _=>hT ρ' ha β hβ t ht)
   have hw:∀ β,Cβ β->(Region.wanted o (yielded ⟨os⟩ a.tmps)=true↔V β conds):=fun β hβ=>(g ρ (Agree.refl _ _) β hβ).2.2.1 rfl
   have run:∀ (q':Bool) (r0:CR),(q=true->q'=true)->r.v=r0.v->r.h=r0.h->r.n=r0.n->r.ds=r0.ds->D3 X q' o conds tmps' H n ds=some r0->d9 r0.obs->V β0 conds->
     (if Region.wanted o (yielded ⟨os⟩ a.tmps)=true then o.wpIn (Fl rb) 0 X.P a w K Q else (∀ f,o.about X.P w a.eval=some f->(Fl rb).fn f)∧K (a.put o.dst undef) w):=by
    intro q' r0 hqq e1 e2 e3 e4 hb hl0 hV
    have hwt:=(hw β0 hβ0).2 hV
    rw [i6 hwt]
    refine l0l hX hb hl0 hp (ρ:=ρ) (β:=β0) hV hB hI hS (fun ρ' ha t ht=> ?_) (fun v w' ρ1 ha hn hfin hk hq=> ?_)
    ·exact ((g ρ' ha β0 hβ0).2.2.2 t _).1 (hT ρ' ha β0 hβ0 t (P1 ht))
    ·refine hK v w' ρ1 ha (by omega) (fun ρ' ha'=> ?_) hk (fun hq'=> ?_)
     ·rw [e3] at ha'
      rw [e2,e1]
      refine⟨(hfin ρ' ha').2,fun β hβ=> ?_⟩
      have hVβ:=(hw β hβ).1 hwt
      unfold r1t
      split
      ·exact (hfin ρ' ha').1
      ·exact⟨fun _=>(hfin ρ' ha').1,fun hn=>absurd hVβ hn⟩
     ·obtain⟨f1,f2,f3,f4,f5⟩:=hq (hqq hq')
      exact⟨e2.trans f1,e4.trans f2,e3.trans f3,f4,f5⟩
   rcases E2 hand with ⟨r0,hb,er⟩ | ⟨hq0,hc,_,r0,hb,er⟩
   ·subst er
    by_cases hV:V β0 conds
    ·exact run _ r0 (fun h=>by simp [h]) rfl rfl rfl rfl hb (jW (hCβ β0 hβ0) hV hl) hV
    ·have hwt:Region.wanted o (yielded ⟨os⟩ a.tmps)=false:=by
      cases hw':Region.wanted o (yielded ⟨os⟩ a.tmps)
      ·rfl
      ·exact absurd ((hw β0 hβ0).1 hw') hV
     have hcne:conds≠[] :=fun e=>by subst e; exact hV (bE _)
     have hq1:(q || z0m conds)=true:=by
      cases conds with
      | nil=>exact absurd rfl hcne
      | cons _ _=>simp [z0m]
     rw [hq1] at hb
     obtain⟨e1,e2,e3⟩:=N4 hb
     rw [a8 (by rw [hwt]; simp)]
     refine⟨jK,?_⟩
     refine hK undef w ρ (Agree.refl _ _) (by show n<=r0.n; omega) (fun ρ' ha=>⟨?_,fun β hβ=> ?_⟩) (Keeps.refl _ _ _) (fun _=>⟨e1,e3,e2,O9 _ _,rfl⟩)
     ·show Sim X.P B M ρ' r0.h w
      rw [e1]
      exact hS ρ' (by rw [show r0.n=n from e2] at ha; exact ha)
     ·unfold r1t
      split
      ·exact absurd rfl hcne
      ·refine⟨fun hv=> ?_,fun _=>rfl⟩
       have:=(hw β hβ).2 hv
       rw [hwt] at this
       cases this
   ·subst er
    exact run false r0 (fun h=>by rw [hq0] at h; cases h) rfl rfl rfl rfl hb hl.2 (rB (hCβ β0 hβ0) hl.1)
theorem lH {auto:Bool} {os:List Oper} {o:Oper} {tmps tmps':List TV} {kv kv':KV} {sk:Bool} {conds:List (Nat×Bool)} (h:I6 auto os o tmps kv=some (sk,tmps',kv',conds))
  (hk:∃ β,KVok kv β):(∃ β,KVok kv' β)∧(∀ β,KVok kv' β->KVok kv β)∧tmps'.length=tmps.length:=by
 have new:∀ (j:Nat) (b:Bool),y0o kv j=false->∃ β,KVok ((j,b) ::kv) β:=by
  intro j b hj
  obtain⟨β,hβ⟩:=hk
  refine⟨fun i=>if i=j then b else β i,fun p hp=> ?_⟩
  rcases zzA83.1 hp with rfl | hp
  ·simp
  ·have hne:p.1≠j:=by
    intro e
    have:∀ (l:KV),p∈l->y0o l j=false->False:=by
     intro l
     induction l with
     | nil=>intro hp; cases hp
     | cons x l ih=>
      obtain⟨i,c⟩:=x
      intro hp hl
      simp only [y0o,r0t] at hl
      rcases zzA83.1 hp with rfl | hp
      ·simp only at e; subst e; simp at hl
      ·exact ih hp hl.2
    exact this kv hp hj
   simp [hne,hβ p hp]
 unfold I6 at h
 simp only [A7] at h
 split at h
 ·cases h; exact⟨hk,fun _ h=>h,rfl⟩
 ·split at h
  case h_1=>cases h
  split at h
  ·split at h
   ·split at h
    ·split at h <;> (cases h; exact⟨hk,fun _ h=>h,rfl⟩)
    ·cases h; exact⟨hk,fun _ h=>h,rfl⟩
    ·cases h
   ·split at h
    ·split at h
     ·rename_i hj; cases h; exact⟨new _ _ hj,fun _ h=>h.cons.2,by simp⟩
     ·cases h
    ·cases h
  ·split at h
   ·split at h
    ·rename_i hj; cases h; exact⟨new _ _ hj,fun _ h=>h.cons.2,by simp⟩
    ·cases h
   ·cases h
  ·split at h
   ·cases h; exact⟨hk,fun _ h=>h,rfl⟩
   ·cases h
  ·cases h
theorem L6 {X:Cx} {q:Bool} {os:List Oper} {o:Oper} {tmps tmps':List TV} {H:Heap} {n:Nat} {ds:List Bool} {kv kv':KV} {tv:TV} {r:CR}
  (h:M9 X q os o tmps H n ds kv=some (tmps',kv',tv,r)) (hk:∃ β,KVok kv β):(∃ β,KVok kv' β)∧(∀ β,KVok kv' β->KVok kv β)∧tmps'.length=tmps.length:=by
 rw [A6] at h
 split at h
 ·cases h
 ·rename_i hg; cases h; exact lH hg hk
 ·rename_i hg
  split at h
  ·cases h
  ·cases h; exact lH hg hk
theorem y0h {X:Cx} {q:Bool} {os:List Oper} {o:Oper} {tmps tmps':List TV} {H:Heap} {n:Nat} {ds:List Bool} {kv kv':KV} {tv:TV} {r:CR}
  (h:M9 X q os o tmps H n ds kv=some (tmps',kv',tv,r)) {ρ:Num} {β:Nat->Bool} (hk:KVok kv' β) {a:Array Value} (hT:∀ t∈looks os o,D7 ρ β (x4 tmps t) (a.getD t undef)) (t:Nat) (x:Value):
  D7 ρ β (x4 tmps t) x↔D7 ρ β (x4 tmps' t) x:=by
 rw [A6] at h
 split at h
 ·cases h
 ·rename_i hg; cases h; exact (C2 hg hk (fun t ht _=>hT t ht)).2.2.2 t x
 ·rename_i hg
  split at h
  ·cases h
  ·cases h; exact (C2 hg hk (fun t ht _=>hT t ht)).2.2.2 t x
def O5 (X:Cx) (q:Bool) (os:List Oper) (o:Oper) (s:St) (kv:KV):Option (St×KV):=
 match s with
 | ⟨tm,hp,nid,ds,obs,lp,rd,mk,bs⟩=>match M9 X q os o tm hp nid ds kv with
  | none=>none
  | some (tmps',kv',tv,⟨_,h,n,ob,ds'⟩)=>some (⟨g0c tmps' o.dst tv,h,n,ds',ob++obs,lp,rd,mk,bs⟩,kv')
theorem y6 (X:Cx) (q:Bool) (os:List Oper) (o:Oper) (s:St) (kv:KV):O5 X q os o s kv=
  match M9 X q os o s.tmps s.heap s.nid s.ds kv with
  | none=>none
  | some (tmps',kv',tv,r)=>some (⟨g0c tmps' o.dst tv,r.h,r.n,r.ds,r.obs++s.obs,s.lp,s.rd,s.mks,s.bs⟩,kv'):=by
 unfold O5
 dsimp only
 generalize M9 X q os o _ _ _ _ kv=z
 cases z <;> rfl
structure RepR (P:Program) (J:Inv P) (B:Nat) (M:Nat->Prop) (w0:Bas) (kv:KV) (s:St) (a:Act) (w:World):Prop where
 size:a.tmps.size=s.tmps.length
 defers:a.defers=w0.dfs
 base:B<=w.heap.size
 inv:J.I w
 keeps:Keeps B M w0.w w
 keys:∃ β,KVok kv β
 rep:∃ ρ,(w0.n<=s.nid∧Agree w0.n w0.ρ ρ)∧∀ ρ',Agree s.nid ρ ρ'->Sim P B M ρ' s.heap w∧∀ β,KVok kv β->∀ t,D7 ρ' β (x4 s.tmps t) (a.tmps.getD t undef)
theorem S7 (a:Act) (d:Option Nat) (v:Value):(a.put d v).tmps.size=a.tmps.size:=by
 cases d <;> simp [Act.put]
theorem H3 (a:Act) (d:Option Nat) (v:Value):(a.put d v).defers=a.defers:=by
 cases d <;> simp [Act.put]
theorem R3 (ts:List TV) (d:Option Nat) (x:TV):(g0c ts d x).length=ts.length:=by
 cases d <;> simp [g0c,A7]
theorem H9 (a:Act) (d:Option Nat) (v:Value) (t:Nat):(a.put d v).tmps.getD t undef=if d=some t∧t < a.tmps.size then v else a.tmps.getD t undef:=by
 cases d with
 | none=>simp [Act.put]
 | some d=>
  simp only [Act.put,G3]
  by_cases h:d=t
  ·subst h
   by_cases hl:d < a.tmps.size
   ·simp [hl]
   ·simp [hl]
  ·simp [h]
theorem N1 (ts:List TV) (d:Option Nat) (x:TV) (t:Nat):x4 (g0c ts d x) t=if d=some t∧t < ts.length then x else x4 ts t:=by
 cases d with
 | none=>simp [g0c]
 | some d=>
  simp only [g0c,A7,G3]
  by_cases h:d=t
  ·subst h
   by_cases hl:d < ts.length
   ·rw [M0 _ _ _ _ hl]; simp [hl]
   ·rw [fI (by omega)]; simp [hl]
  ·by_cases hl:d < ts.length
   ·rw [M0 _ _ _ _ hl]; simp [h]
   ·rw [fI (by omega)]; simp [h]
theorem T8 {X:Cx} {J:Inv X.P} (hX:CxOk X J) {os:List Oper} {i:Nat} {o:Oper} (hi:os[i]? =some o) {q:Bool} {s s':St} {kv kv':KV} (h:O5 X q os o s kv=some (s',kv')) (hl:d9 s'.obs)
  {B:Nat} {M:Nat->Prop} (hp:Par X.P B M) {w0:Bas} {a:Act} {w:World} (hR:RepR X.P J B M w0 kv s a w) {rb:Option Nat} {K:Act->World->Prop} {Q:Exit->Act->World->Prop}
  (hK:∀ a' w',RepR X.P J B M w0 kv' s' a' w'->K a' w'):wpOpIn (Fl rb) 0 X.P ⟨os⟩ Q i K a w:=by
 rw [y6] at h
 split at h
 ·cases h
 rename_i tmps' kv1 tv r he
 cases h
 simp only [m3] at hl
 obtain⟨hex,hsub,hlen⟩:=L6 he hR.keys
 obtain⟨ρ,hρ0,hρ⟩:=hR.rep
 refine P9 hX hi he hl.1 hp (ρ:=ρ) (Cβ:=KVok kv') hex (fun _ h=>h) hR.base hR.inv (fun ρ' ha=>(hρ ρ' ha).1) (fun ρ' ha β hβ t _=>(hρ ρ' ha).2 β (hsub β hβ) t) (fun v w' ρ1 ha hn hfin hk _=>hK _ _ ?_)
 refine⟨by rw [S7,R3,hlen]; exact hR.size,by rw [H3]; exact hR.defers,u7 hR.base hk.size,J.keeps hp hk hR.inv,hR.keeps.trans hk,hex,ρ1,⟨u7 hρ0.1 hn,hρ0.2.trans ha hρ0.1⟩,fun ρ' ha'=>⟨(hfin ρ' ha').1,fun β hβ t=> ?_⟩⟩
 rw [H9,N1,hlen,hR.size]
 split
 ·exact (hfin ρ' ha').2 β hβ
 ·have ha0:Agree s.nid ρ ρ':=fun j hj=>(ha' j (B9 hj hn)).trans (ha j hj)
  have hTt:=fun t=>(hρ ρ' ha0).2 β (hsub β hβ) t
  exact (y0h he hβ (fun t _=>hTt t) t _).1 (hTt t)
def evN (X:Cx) (m:Nat) (os:List Oper) (s0:St):Nat->Option (St×KV)
 | 0=>some (s0,[])
 | i+1=>match evN X m os s0 i with
  | none=>none
  | some (s,kv)=>match h1h os i with
   | none=>none
   | some o=>O5 X (zO1 i m) os o s kv
theorem I1 {X:Cx} {m:Nat} {os:List Oper} {s0:St} {i:Nat} {s':St} {kv':KV} (h:evN X m os s0 (i+1)=some (s',kv')):
  ∃ s kv o,evN X m os s0 i=some (s,kv)∧os[i]? =some o∧O5 X (zO1 i m) os o s kv=some (s',kv'):=by
 simp only [evN,U7] at h
 split at h
 ·cases h
 ·rename_i s kv hs
  split at h
  ·cases h
  ·rename_i o ho
   exact⟨s,kv,o,hs,ho,h⟩
theorem mF {X:Cx} {q:Bool} {os:List Oper} {o:Oper} {s s':St} {kv kv':KV} (h:O5 X q os o s kv=some (s',kv')) (hl:d9 s'.obs):d9 s.obs:=by
 rw [y6] at h
 split at h
 ·cases h
 ·cases h; exact ((m3 _ _).1 hl).2
theorem R5 {X:Cx} {m:Nat} {os:List Oper} {s0:St} :∀ {j i:Nat} {si sj:St} {ki kj:KV},i<=j->evN X m os s0 i=some (si,ki)->evN X m os s0 j=some (sj,kj)->d9 sj.obs->d9 si.obs
 | 0,i,si,sj,ki,kj,hij,h1,h2,hl=>by
  obtain rfl:i=0:=by omega
  rw [h1] at h2; cases h2; exact hl
 | j+1,i,si,sj,ki,kj,hij,h1,h2,hl=>by
  by_cases e:i=j+1
  ·subst e; rw [h1] at h2; cases h2; exact hl
  ·obtain⟨s,kv,o,hs,_,ho⟩:=I1 h2
   exact R5 (by omega) h1 hs (mF ho hl)
theorem cY {X:Cx} {m:Nat} {os:List Oper} {s0:St} :∀ {j i:Nat} {r:St×KV},i<=j->evN X m os s0 j=some r->∃ q,evN X m os s0 i=some q
 | 0,i,r,hij,h=>by
  obtain rfl:i=0:=by omega
  exact⟨r,h⟩
 | j+1,i,r,hij,h=>by
  by_cases e:i=j+1
  ·subst e; exact⟨r,h⟩
  ·obtain⟨s',kv'⟩:=r
   obtain⟨s,kv,o,hs,_,_⟩:=I1 h
   exact cY (by omega) hs
theorem i0z {X:Cx} {J:Inv X.P} (hX:CxOk X J) {m:Nat} {os:List Oper} {s0 sn:St} {kn:KV} {B:Nat} {M:Nat->Prop} (hp:Par X.P B M) {w0:Bas} {rb:Option Nat} {Q:Exit->Act->World->Prop} {n:Nat}
  (hn:evN X m os s0 n=some (sn,kn)) (hl:d9 sn.obs) (hQ:∀ a w,RepR X.P J B M w0 kn sn a w->Q .normal a w):
  ∀ (k i:Nat) (s:St) (kv:KV) (a:Act) (w:World),i+k=n->evN X m os s0 i=some (s,kv)->RepR X.P J B M w0 kv s a w->wpOpsIn (Fl rb) 0 X.P ⟨os⟩ Q (List.range' i k) a w:=by
 intro k
 induction k with
 | zero=>
  intro i s kv a w hik hs hR
  obtain rfl:i=n:=by omega
  rw [hs] at hn
  cases hn
  simp only [List.range'_zero,wpOpsIn]
  exact hQ a w hR
 | succ k ih=>
  intro i s kv a w hik hs hR
  rw [List.range'_succ,wpOpsIn_cons]
  obtain⟨q1,hq1⟩:=cY (i:=i+1) (by omega) hn
  obtain⟨s1,k1⟩:=q1
  obtain⟨s',kv',o,h1,h2,h3⟩:=I1 hq1
  rw [hs] at h1
  cases h1
  exact T8 hX h2 h3 (R5 (by omega) hq1 hn hl) hp hR (fun a' w' hR'=>ih (i+1) s1 k1 a' w' (by omega) hq1 hR')
def uS:TV->TV
 | .v x=> .v x
 | .key _ [] b=> .v (.bool b)
 | _=> .unk
theorem gZ (ts:List TV) (t:Nat):x4 (ts.map uS) t=uS (x4 ts t):=by
 simp only [E1]
 rw [N6]
 cases ts[t]? <;> rfl
theorem bT {X:Cx} {m:Nat} {os:List Oper} {s0:St} :∀ {i:Nat} {s:St} {kv:KV},evN X m os s0 i=some (s,kv)->s.rd=s0.rd∧s.mks=s0.mks∧s.bs=s0.bs
 | 0,s,kv,h=>by simp only [evN] at h; cases h; exact⟨rfl,rfl,rfl⟩
 | i+1,s,kv,h=>by
  obtain⟨s1,k1,o,h1,_,h2⟩:=I1 h
  obtain⟨e1,e2,e3⟩:=bT h1
  rw [y6] at h2
  split at h2
  ·cases h2
  ·cases h2; exact⟨e1,e2,e3⟩
theorem Rep.toR {P:Program} {J:Inv P} {B:Nat} {M:Nat->Prop} {w0:Bas} {rb:Option Nat} {s:St} {a:Act} {w:World} (h:Rep P J B M w0 rb s a w):RepR P J B M ⟨w,s.nid,h.rep.choose,a.defers⟩ [] s a w:=by
 obtain⟨hρ0,hρ⟩:=h.rep.choose_spec
 generalize h.rep.choose=ρ at*
 refine⟨h.size,rfl,h.base,h.inv,Keeps.refl _ _ _,⟨fun _=>false,fun p hp=>by cases hp⟩,ρ,⟨d5 _,Agree.refl _ _⟩,fun ρ' ha=>⟨(hρ ρ' ha).1,fun β _ t=> ?_⟩⟩
 have:=(hρ ρ' ha).2.2 t
 have hp:=h.plain t
 generalize x4 s.tmps t=tv at*
 cases tv with
 | unk=>trivial
 | v y=>exact this y rfl
 | sp l y=>cases hp
 | key j l b=>cases hp
theorem RepR.clean {P:Program} {J:Inv P} {B:Nat} {M:Nat->Prop} {w0:Bas} {rb:Option Nat} {kv:KV} {s0 s:St} {a0 a:Act} {w1 w:World} (h0:Rep P J B M w0 rb s0 a0 w1) (h:RepR P J B M ⟨w1,s0.nid,h0.rep.choose,a0.defers⟩ kv s a w)
  (e1:s.rd=s0.rd) (e2:s.mks=s0.mks) (e3:s.bs=s0.bs):Rep P J B M w0 rb { s with tmps:=s.tmps.map uS } a w:=by
 obtain⟨hρ0,hρ⟩:=h0.rep.choose_spec
 obtain⟨ρ2,hρ20,hρ2⟩:=h.rep
 have hdef:=h.defers
 have hkp:=h.keeps
 simp only at hρ20 hdef hkp
 generalize h0.rep.choose=ρ at*
 obtain⟨β,hβ⟩:=h.keys
 refine⟨by show w0.n=s.bs; rw [e3]; exact h0.low,fun t=> ?_,by simpa using h.size,h.base,h.inv,h0.keeps.trans hkp,ρ2,⟨u7 hρ0.1 hρ20.1,hρ0.2.trans hρ20.2 hρ0.1⟩,fun ρ' ha=>⟨(hρ2 ρ' ha).1,?_,fun t x hx=> ?_⟩⟩
 ·rw [gZ]
  generalize x4 s.tmps t=tv
  cases tv with
  | key j l b=>cases l <;> rfl
  | _=>rfl
 ·have g:=(hρ ρ' (fun i hi=>(ha i (B9 hi hρ20.1)).trans (hρ20.2 i hi))).2.1
  exact⟨by rw [hdef]; show _=s.mks.map _; rw [e2]; exact g.defers,by show rb=s.rd.bind ρ'; rw [e1]; exact g.round⟩
 have ht:=(hρ2 ρ' ha).2 β hβ t
 rw [gZ] at hx
 generalize x4 s.tmps t=tv at*
 cases tv with
 | unk=>cases hx
 | v y=>cases hx; exact ht
 | sp l y=>cases hx
 | key j l b=>
  cases l with
  | nil=>
   cases hx
   simp only [rv]
   exact ht.2.1 (bE β)
  | cons _ _=>cases hx
end
noncomputable section
def E9 (x:Nat):List Nat->Bool
 | [] =>false
 | y ::r=>zO0 x y || E9 x r
theorem memN_iff {x:Nat} :∀ {l:List Nat},E9 x l=true↔x∈l
 | [] =>by simp [E9]
 | y ::r=>by
  simp only [E9,lC,zzA83,memN_iff (l:=r),y4]
def h0c:List Edge->List Nat
 | [] =>[]
 | e ::r=>match Region.binds .any e with
  | true=>e.on ::h0c r
  | false=>h0c r
def m6 (o:Oper):List Nat:=h0c o.after.toList
theorem predsOf_iff {o:Oper} {k:Nat} :k∈m6 o↔∃ e∈o.after,Region.binds .any e=true∧e.on=k:=by
 unfold m6
 rw [show (∃ e∈o.after,Region.binds .any e=true∧e.on=k)↔∃ e∈o.after.toList,Region.binds .any e=true∧e.on=k by simp]
 induction o.after.toList with
 | nil=>simp [h0c]
 | cons e r ih=>
  simp only [h0c]
  split
  ·rename_i hb
   simp only [zzA83,ih]
   constructor
   ·rintro (h | ⟨x,hx,h1,h2⟩)
    ·exact⟨e, .inl rfl,hb,h.symm⟩
    ·exact⟨x, .inr hx,h1,h2⟩
   ·rintro ⟨x,rfl | hx,h1,h2⟩
    ·exact .inl h2.symm
    ·exact .inr ⟨x,hx,h1,h2⟩
  ·rename_i hb
   rw [ih]
   simp only [zzA83]
   constructor
   ·rintro ⟨x,hx,h1,h2⟩; exact⟨x, .inr hx,h1,h2⟩
   ·rintro ⟨x,rfl | hx,h1,h2⟩
    ·rw [hb] at h1; cases h1
    ·exact⟨x,hx,h1,h2⟩
def o1u (n:Nat):List Nat->Bool
 | [] =>true
 | x ::r=>zO1 x n && o1u n r
theorem a0l {n:Nat} :∀ {l:List Nat},o1u n l=true->∀ x∈l,x < n
 | [],_,x,hx=>by cases hx
 | y ::r,h,x,hx=>by
  simp only [o1u,u6,C0] at h
  rcases zzA83.1 hx with rfl | hx
  ·exact h.1
  ·exact a0l h.2 x hx
def mP:Nat->List Oper->Bool
 | _,[] =>true
 | i,o ::r=>o1u i (m6 o) && mP (i+1) r
theorem S8:∀ {r:List Oper} {i:Nat},mP i r=true->∀ k o,r[k]? =some o->∀ e∈m6 o,e < i+k
 | [],i,_,k,o,ho=>by simp at ho
 | x ::r,i,h,k,o,ho=>by
  simp only [mP,u6] at h
  cases k with
  | zero=>simp only [I4,G3] at ho; subst ho; exact a0l h.1
  | succ k=>
   simp only [M8] at ho
   intro e he
   have:=S8 h.2 k o ho e he
   omega
def k2h (d:Nat):List Oper->Bool
 | [] =>false
 | o ::r=>(match o.dst with
  | some e=>zO0 d e
  | none=>false) || k2h d r
def h1k:List Oper->Bool
 | [] =>true
 | o ::r=>(match o.dst with
  | some d=> !k2h d r
  | none=>true) && h1k r
theorem lP {d:Nat} :∀ {r:List Oper},k2h d r=false->∀ (k:Nat) (o:Oper),r[k]? =some o->o.dst≠some d
 | [],_,k,o,ho=>by simp at ho
 | x ::r,h,k,o,ho=>by
  simp only [k2h,r0t] at h
  cases k with
  | zero=>
   simp only [I4,G3] at ho
   subst ho
   intro e
   rw [e] at h
   simp at h
  | succ k=>simp only [M8] at ho; exact lP h.2 k o ho
theorem mI:∀ {r:List Oper},h1k r=true->∀ (i k:Nat) (oi ok:Oper) (d:Nat),r[i]? =some oi->r[k]? =some ok->oi.dst=some d->ok.dst=some d->i=k
 | [],_,i,k,oi,ok,d,hi,_,_,_=>by simp at hi
 | x ::r,h,i,k,oi,ok,d,hi,hk,di,dk=>by
  simp only [h1k,u6] at h
  cases i with
  | zero=>
   cases k with
   | zero=>rfl
   | succ k=>
    simp only [I4,G3] at hi
    subst hi
    rw [di] at h
    simp only [q0i] at h
    simp only [M8] at hk
    exact absurd dk (lP h.1 k ok hk)
  | succ i=>
   cases k with
   | zero=>
    simp only [I4,G3] at hk
    subst hk
    rw [dk] at h
    simp only [q0i] at h
    simp only [M8] at hi
    exact absurd di (lP h.1 i oi hi)
   | succ k=>
    simp only [M8] at hi hk
    rw [mI h.2 i k oi ok d hi hk di dk]
def h0m (i:Nat) (pi:List Nat) (t:Nat):Nat->List Oper->Bool
 | _,[] =>true
 | k,o ::r=>(match o.dst with
  | some d=> !(zO0 d t) || zO0 k i || E9 k pi || E9 i (m6 o)
  | none=>true) && h0m i pi t (k+1) r
theorem rG {i:Nat} {pi:List Nat} {t:Nat} :∀ {r:List Oper} {k0:Nat},h0m i pi t k0 r=true->∀ k o,r[k]? =some o->o.dst=some t->k0+k=i∨(k0+k)∈pi∨i∈m6 o
 | [],k0,_,k,o,ho,_=>by simp at ho
 | x ::r,k0,h,k,o,ho,hd=>by
  simp only [h0m,u6] at h
  cases k with
  | zero=>
   simp only [I4,G3] at ho
   subst ho
   rw [hd] at h
   simp only [c0g,Bool.not_true,Bool.false_or,lC,y4,memN_iff] at h
   rcases h.1 with (h1 | h1) | h1
   ·exact .inl h1
   ·exact .inr (.inl h1)
   ·exact .inr (.inr h1)
  | succ k=>
   simp only [M8] at ho
   have:=rG h.2 k o ho hd
   rw [show k0+(k+1)=k0+1+k by omega]
   exact this
def d0p (hd:List Oper) (i:Nat) (pi:List Nat):List Nat->Bool
 | [] =>true
 | t ::r=>h0m i pi t 0 hd && d0p hd i pi r
theorem nD {hd:List Oper} {i:Nat} {pi:List Nat} :∀ {l:List Nat},d0p hd i pi l=true->∀ t∈l,h0m i pi t 0 hd=true
 | [],_,t,ht=>by cases ht
 | x ::r,h,t,ht=>by
  simp only [d0p,u6] at h
  rcases zzA83.1 ht with rfl | ht
  ·exact h.1
  ·exact nD h.2 t ht
def tW (os hd:List Oper):Nat->List Oper->Bool
 | _,[] =>true
 | i,o ::r=>d0p hd i (m6 o) (looks os o) && tW os hd (i+1) r
theorem cX {os hd:List Oper} :∀ {r:List Oper} {i0:Nat},tW os hd i0 r=true->∀ i o,r[i]? =some o->∀ t∈looks os o,∀ k ok,hd[k]? =some ok->ok.dst=some t->k=i0+i∨k∈m6 o∨(i0+i)∈m6 ok
 | [],i0,_,i,o,ho=>by simp at ho
 | x ::r,i0,h,i,o,ho=>by
  simp only [tW,u6] at h
  cases i with
  | zero=>
   simp only [I4,G3] at ho
   subst ho
   intro t ht k ok hk hd
   have:=rG (nD h.1 t ht) k ok hk hd
   simpa using this
  | succ i=>
   simp only [M8] at ho
   intro t ht k ok hk hd
   have:=cX h.2 i o ho t ht k ok hk hd
   rw [show i0+(i+1)=i0+1+i by omega]
   exact this
def eF (i:Nat):List Oper->Bool
 | [] =>false
 | o ::r=>E9 i (m6 o) || eF i r
theorem jN {i:Nat} :∀ {r:List Oper},eF i r=true->∃ (k:Nat) (o:Oper),r[k]? =some o∧i∈m6 o
 | [],h=>by simp [eF] at h
 | x ::r,h=>by
  simp only [eF,lC,memN_iff] at h
  rcases h with h | h
  ·exact⟨0,x,by simp,h⟩
  ·obtain⟨k,o,h1,h2⟩:=jN h
   exact⟨k+1,o,by simpa using h1,h2⟩
def iV (hd:List Oper):Nat->Bool
 | 0=>true
 | i+1=>eF i hd && iV hd i
theorem lA {hd:List Oper} :∀ {m:Nat},iV hd m=true->∀ i < m,eF i hd=true
 | 0,_,i,hi=>by omega
 | m+1,h,i,hi=>by
  simp only [iV,u6] at h
  by_cases e:i=m
  ·subst e; exact h.1
  ·exact lA h.2 i (by omega)
def bH:Nat->List Oper->Bool
 | _,[] =>true
 | t,o ::r=>E9 (t-1) (m6 o) && bH (t+1) r
theorem U4:∀ {r:List Oper} {t:Nat},bH t r=true->∀ k o,r[k]? =some o->(t+k-1)∈m6 o
 | [],t,_,k,o,ho=>by simp at ho
 | x ::r,t,h,k,o,ho=>by
  simp only [bH,u6,memN_iff] at h
  cases k with
  | zero=>simp only [I4,G3] at ho; subst ho; exact h.1
  | succ k=>
   simp only [M8] at ho
   rw [show t+(k+1)-1=t+1+k-1 by omega]
   exact U4 h.2 k o ho
def u0f (os:List Oper) (m:Nat):Bool:=
 Nat.ble m os.length && mP 0 os && h1k (os.take m) && tW os (os.take m) 0 (os.take m) &&
 (zO0 m os.length || (iV (os.take (m+1)) m && bH (m+1) (os.drop (m+1))))
structure Draws (os:List Oper) (m:Nat):Prop where
 le:m<=os.length
 fwd:∀ i o,os[i]? =some o->∀ e∈m6 o,e < i
 dup:∀ i k oi ok d,i < m->k < m->os[i]? =some oi->os[k]? =some ok->oi.dst=some d->ok.dst=some d->i=k
 slot:∀ i o,i < m->os[i]? =some o->∀ t∈looks os o,∀ k ok,k < m->os[k]? =some ok->ok.dst=some t->k=i∨k∈m6 o∨i∈m6 ok
 sink:m < os.length->∀ i < m,∃ j o,i < j∧j<=m∧os[j]? =some o∧i∈m6 o
 chain:∀ t o,m < t->os[t]? =some o->(t-1)∈m6 o
theorem M1 {os:List Oper} {m i:Nat} (h:i < m):(os.take m)[i]? =os[i]? :=by
 rw [R9,i6 h]
theorem vD {os:List Oper} {m:Nat} (h:u0f os m=true):Draws os m:=by
 simp only [u0f,u6,lC,H7,y4] at h
 obtain⟨⟨⟨⟨h1,h2⟩,h3⟩,h4⟩,h5⟩:=h
 have fwd:∀ i o,os[i]? =some o->∀ e∈m6 o,e < i:=fun i o ho e he=>by
  have:=S8 h2 i o ho e he
  omega
 refine⟨h1,fwd,fun i k oi ok d hi hk hoi hok di dk=> ?_,fun i o hi ho t ht k ok hk hok hd=> ?_,fun hlt i hi=> ?_,fun t o ht ho=> ?_⟩
 ·exact mI h3 i k oi ok d ((M1 hi).trans hoi) ((M1 hk).trans hok) di dk
 ·have:=cX h4 i o ((M1 hi).trans ho) t ht k ok ((M1 hk).trans hok) hd
  simpa using this
 ·rcases h5 with h5 | h5
  ·omega
  ·obtain⟨k,o,hk,hin⟩:=jN (lA h5.1 i hi)
   have hkm:k < m+1:=by
    rcases E0 k (m+1) with h | h
    ·exact h
    ·rw [R9,a8 (by omega)] at hk; cases hk
   rw [M1 hkm] at hk
   exact⟨k,o,fwd k o hk i hin,by omega,hk,hin⟩
 ·rcases h5 with h5 | h5
  ·have:t < os.length:=(zzA1.1 ho).1
   omega
  ·have:=U4 h5.2 (t- (m+1)) o (by rw [Q6]; rw [show m+1+(t- (m+1))=t by omega]; exact ho)
   rw [show m+1+(t- (m+1))-1=t-1 by omega] at this
   exact this
theorem oI {X:Cx} {os:List Oper} {o:Oper} {s s':St} {kv kv':KV} (h:O5 X true os o s kv=some (s',kv')):s'.heap=s.heap∧s'.nid=s.nid∧s'.ds=s.ds:=by
 rw [y6,A6] at h
 split at h
 ·cases h
 ·rename_i tmps' kv1 tv r he
  cases h
  split at he
  ·cases he
  ·cases he; exact⟨rfl,rfl,rfl⟩
  ·split at he
   ·cases he
   ·rename_i r0 hb
    cases he
    rcases E2 hb with ⟨r1,hb1,e⟩ | ⟨hq,_⟩
    ·subst e
     exact N4 (by simpa using hb1)
    ·cases hq
theorem tQ {X:Cx} {m:Nat} {os:List Oper} {s0:St} :∀ {i:Nat} {s:St} {kv:KV},i<=m->evN X m os s0 i=some (s,kv)->s.heap=s0.heap∧s.nid=s0.nid∧s.ds=s0.ds
 | 0,s,kv,_,h=>by simp only [evN] at h; cases h; exact⟨rfl,rfl,rfl⟩
 | i+1,s,kv,hi,h=>by
  obtain⟨s1,k1,o,h1,_,h2⟩:=I1 h
  obtain⟨e1,e2,e3⟩:=tQ (by omega) h1
  rw [show zO1 i m=true by simp [Nat.blt_eq]; omega] at h2
  obtain⟨g1,g2,g3⟩:=oI h2
  exact⟨g1.trans e1,g2.trans e2,g3.trans e3⟩
theorem Y7 {X:Cx} {m:Nat} {os:List Oper} {s0:St} :∀ {i:Nat} {s:St} {kv:KV},evN X m os s0 i=some (s,kv)->(∃ β,KVok kv β)∧s.tmps.length=s0.tmps.length
 | 0,s,kv,h=>by simp only [evN] at h; cases h; exact⟨⟨fun _=>false,fun p hp=>by cases hp⟩,rfl⟩
 | i+1,s,kv,h=>by
  obtain⟨s1,k1,o,h1,_,h2⟩:=I1 h
  obtain⟨e1,e2⟩:=Y7 h1
  rw [y6] at h2
  split at h2
  ·cases h2
  ·rename_i he
   cases h2
   obtain⟨g1,_,g3⟩:=L6 he e1
   exact⟨g1,by rw [R3]; omega⟩
theorem c0l {X:Cx} {m:Nat} {os:List Oper} {s0:St} {β:Nat->Bool} :∀ {j i:Nat} {si sj:St} {ki kj:KV},i<=j->evN X m os s0 i=some (si,ki)->evN X m os s0 j=some (sj,kj)->KVok kj β->KVok ki β
 | 0,i,si,sj,ki,kj,hij,h1,h2,hk=>by
  obtain rfl:i=0:=by omega
  rw [h1] at h2; cases h2; exact hk
 | j+1,i,si,sj,ki,kj,hij,h1,h2,hk=>by
  by_cases e:i=j+1
  ·subst e; rw [h1] at h2; cases h2; exact hk
  ·obtain⟨s,kv,o,hs,_,ho⟩:=I1 h2
   rw [y6] at ho
   split at ho
   ·cases ho
   ·rename_i he
    cases ho
    exact c0l (by omega) h1 hs ((L6 he (Y7 hs).1).2.1 β hk)
theorem M4 {auto:Bool} {os:List Oper} {o:Oper} {tmps tmps':List TV} {kv kv':KV} {sk:Bool} {conds:List (Nat×Bool)} (h:I6 auto os o tmps kv=some (sk,tmps',kv',conds))
  {ρ:Num} {β:Nat->Bool} (hk:KVok kv' β) (t:Nat) (r:Value):D7 ρ β (x4 tmps t) r↔D7 ρ β (x4 tmps' t) r:=by
 unfold I6 at h
 simp only [A7] at h
 split at h
 ·cases h; exact Q8
 ·rename_i j want hg
  split at h
  case h_1=>cases h
  rename_i d hd
  split at h
  ·rename_i x hx
   split at h
   ·split at h
    ·split at h <;> (cases h; exact Q8)
    ·cases h; exact Q8
    ·cases h
   ·split at h
    ·rename_i b
     split at h
     case h_2=>cases h
     cases h
     obtain⟨hj,hkv⟩:=hk.cons
     by_cases hdt:d=t
     ·subst hdt
      by_cases hlen:d < tmps.length
      ·rw [M0 _ _ _ _ hlen,i6 rfl,hx]
       constructor
       ·intro ht; exact⟨hj,fun _=>by simpa [D7,rv] using ht,fun hn=>absurd (bE β) hn⟩
       ·intro ht; have:=ht.2.1 (bE β); simpa [D7,rv] using this
      ·rw [fI (by omega)]
     ·by_cases hlen:d < tmps.length
      ·rw [M0 _ _ _ _ hlen,a8 hdt]
      ·rw [fI (by omega)]
    ·cases h
  ·rename_i l x hx
   split at h
   case h_2=>cases h
   rename_i b
   split at h
   case h_2=>cases h
   cases h
   obtain⟨hj,hkv⟩:=hk.cons
   by_cases hdt:d=t
   ·subst hdt
    by_cases hlen:d < tmps.length
    ·rw [M0 _ _ _ _ hlen,i6 rfl,hx]
     simp only [D7,rv]
     constructor
     ·intro ht; exact⟨hj,ht.1,ht.2⟩
     ·intro ht; exact⟨ht.2.1,ht.2.2⟩
    ·rw [fI (by omega)]
   ·by_cases hlen:d < tmps.length
    ·rw [M0 _ _ _ _ hlen,a8 hdt]
    ·rw [fI (by omega)]
  ·split at h
   ·cases h; exact Q8
   ·cases h
  ·cases h
theorem vR {X:Cx} {q:Bool} {os:List Oper} {o:Oper} {s s':St} {kv kv':KV} (h:O5 X q os o s kv=some (s',kv')) {ρ:Num} {β:Nat->Bool} (hk:KVok kv' β) {t:Nat} (ht:o.dst≠some t) (r:Value):
  D7 ρ β (x4 s.tmps t) r↔D7 ρ β (x4 s'.tmps t) r:=by
 rw [y6] at h
 split at h
 ·cases h
 ·rename_i tmps' kv1 tv r0 he
  cases h
  show _↔D7 ρ β (x4 (g0c tmps' o.dst tv) t) r
  rw [N1,a8 (fun hh=>ht hh.1)]
  rw [A6] at he
  split at he
  ·cases he
  ·rename_i hg; cases he; exact M4 hg hk t r
  ·rename_i hg
   split at he
   ·cases he
   ·cases he; exact M4 hg hk t r
theorem jH {X:Cx} {m:Nat} {os:List Oper} {s0:St} {ρ:Num} {β:Nat->Bool} {t:Nat} {r:Value} :∀ {j i:Nat} {si sj:St} {ki kj:KV},i<=j->evN X m os s0 i=some (si,ki)->evN X m os s0 j=some (sj,kj)->KVok kj β->
  (∀ k o,i<=k->k < j->os[k]? =some o->o.dst≠some t)->(D7 ρ β (x4 si.tmps t) r↔D7 ρ β (x4 sj.tmps t) r)
 | 0,i,si,sj,ki,kj,hij,h1,h2,_,_=>by
  obtain rfl:i=0:=by omega
  rw [h1] at h2; cases h2; exact Q8
 | j+1,i,si,sj,ki,kj,hij,h1,h2,hk,hw=>by
  by_cases e:i=j+1
  ·subst e; rw [h1] at h2; cases h2; exact Q8
  ·obtain⟨s,kv,o,hs,hoj,ho⟩:=I1 h2
   have hkv:KVok kv β:=c0l (by omega) hs h2 hk
   exact (jH (by omega) h1 hs hkv (fun k o' hk1 hk2=>hw k o' hk1 (by omega))).trans (vR ho hk (hw j o (by omega) (by omega) hoj) r)
def Lst (listed:Array Bool) (i:Nat):Prop:=listed.getD i false=true
theorem s1s {listed:Array Bool} {i:Nat} :listed.getD i true=false↔i < listed.size∧¬ Lst listed i:=by
 unfold Lst
 rcases E0 i listed.size with h | h
 ·simp [h]
 ·simp [Array.getElem?_eq_none h]; omega
theorem p5 {listed:Array Bool} {i j:Nat} (hi:i < listed.size):Lst (listed.setIfInBounds i true) j↔j=i∨Lst listed j:=by
 unfold Lst
 by_cases h:i=j
 ·subst h; simp [hi]
 ·rw [getD_set_ne false h]
  constructor
  ·exact .inr
  ·rintro (rfl | h')
   ·exact absurd rfl h
   ·exact h'
theorem ready_iff {os:List Oper} {listed:Array Bool} {j:Nat} :j∈zO7 .any ⟨os⟩ listed↔(j < listed.size∧¬ Lst listed j)∧∃ o,os[j]? =some o∧∀ e∈m6 o,Lst listed e:=by
 rw [mem_ready,s1s]
 simp only [lS]
 constructor
 ·rintro ⟨h1,o,ho,h⟩
  refine⟨h1,o,ho,fun e he=> ?_⟩
  obtain⟨x,hx,hb,rfl⟩:=predsOf_iff.1 he
  exact h x hx hb
 ·rintro ⟨h1,o,ho,h⟩
  exact⟨h1,o,ho,fun e he hb=>h e.on (predsOf_iff.2 ⟨e,he,hb,rfl⟩)⟩
def unl (listed:Array Bool) (n:Nat):Nat:=(List.range n).countP fun i=> !listed.getD i false
theorem h0o {p q:Nat->Bool} {x:Nat} :∀ {l:List Nat},(∀ y,q y=true->p y=true)->x∈l->p x=true->q x=false->l.countP q < l.countP p
 | [],_,hx,_,_=>by cases hx
 | y ::l,h,hx,hp,hq=>by
  have hle:l.countP q<=l.countP p:=List.countP_mono_left (fun z _ hz=>h z hz)
  rw [List.countP_cons,List.countP_cons]
  rcases zzA83.1 hx with rfl | hx
  ·simp [hp,hq]; omega
  ·have:=h0o h hx hp hq
   by_cases hqy:q y=true
   ·simp [hqy,h y hqy]; exact this
   ·simp [hqy]; split <;> omega
theorem c0s {listed:Array Bool} {n i:Nat} (hi:i < n) (hs:listed.size=n) (hl:¬ Lst listed i):unl (listed.setIfInBounds i true) n < unl listed n:=by
 refine h0o (x:=i) (fun y hy=> ?_) (zzA126.2 hi) ?_ ?_
 ·simp only [q0i] at hy ⊢
  cases h:listed.getD y false
  ·rfl
  ·have:Lst (listed.setIfInBounds i true) y:=(p5 (by omega)).2 (.inr h)
   rw [this] at hy; cases hy
 ·simp only [q0i]
  cases h:listed.getD i false
  ·rfl
  ·exact absurd h hl
 ·have:Lst (listed.setIfInBounds i true) i:=(p5 (by omega)).2 (.inl rfl)
  rw [this]; rfl
theorem qB {listed:Array Bool} {n i:Nat} (h:unl listed n=0) (hi:i < n):Lst listed i:=by
 unfold unl at h
 rw [List.countP_eq_zero] at h
 have:=h i (zzA126.2 hi)
 simpa [Lst] using this
structure Half (X:Cx) (J:Inv X.P) (B:Nat) (M:Nat->Prop) (w0:Bas) (os:List Oper) (m:Nat) (s0:St) (a0:Act) (ρ:Num) (sm:St) (km:KV) (listed:Array Bool) (a:Act) (w:World):Prop where
 size:listed.size=os.length
 closed:∀ j o,os[j]? =some o->Lst listed j->∀ e∈m6 o,Lst listed e
 late:∀ t,m<=t->¬ Lst listed t
 asize:a.tmps.size=s0.tmps.length
 defers:a.defers=w0.dfs
 base:B<=w.heap.size
 inv:J.I w
 keeps:Keeps B M w0.w w
 sim:∀ ρ',Agree s0.nid ρ ρ'->Sim X.P B M ρ' s0.heap w
 old:∀ t,(∀ k o,k < m->Lst listed k->os[k]? =some o->o.dst≠some t)->a.tmps.getD t undef=a0.tmps.getD t undef
 new:∀ k o d,k < m->Lst listed k->os[k]? =some o->o.dst=some d->∀ ρ',Agree s0.nid ρ ρ'->∀ β,KVok km β->D7 ρ' β (x4 sm.tmps d) (a.tmps.getD d undef)
theorem q0k {p:Nat->Prop} [DecidablePred p] :∀ (n:Nat),(∃ i,i < n∧p i)->∃ i,i < n∧p i∧∀ j,j < i->¬ p j
 | 0,h=>by obtain⟨i,hi,_⟩:=h; omega
 | n+1,h=>by
  by_cases hn:∃ i,i < n∧p i
  ·obtain⟨i,h1,h2,h3⟩:=q0k n hn
   exact⟨i,by omega,h2,h3⟩
  ·obtain⟨i,hi,hp⟩:=h
   have:i=n:=by
    rcases E0 i n with h | h
    ·exact absurd ⟨i,h,hp⟩ hn
    ·omega
   subst this
   exact⟨i,by omega,hp,fun j hj hpj=>hn ⟨j,hj,hpj⟩⟩
theorem r0s {X:Cx} {J:Inv X.P} {B:Nat} {M:Nat->Prop} {w0:Bas} {os:List Oper} {m:Nat} {s0:St} {a0:Act} {ρ:Num} {sm:St} {km:KV} (hm:evN X m os s0 m=some (sm,km))
  (h0:∀ ρ',Agree s0.nid ρ ρ'->∀ β t,D7 ρ' β (x4 s0.tmps t) (a0.tmps.getD t undef)) {listed:Array Bool} {a:Act} {w:World}
  (h:Half X J B M w0 os m s0 a0 ρ sm km listed a w) (hρ0:w0.n<=s0.nid∧Agree w0.n w0.ρ ρ) (hall:∀ k,k < m->Lst listed k):RepR X.P J B M w0 km sm a w:=by
 obtain⟨e1,e2,_⟩:=tQ (d5 _) hm
 obtain⟨e4,e5⟩:=Y7 hm
 refine⟨by rw [e5]; exact h.asize,h.defers,h.base,h.inv,h.keeps,e4,ρ,by rw [e2]; exact hρ0,fun ρ' ha=> ?_⟩
 rw [e2] at ha
 rw [e1]
 refine⟨h.sim ρ' ha,fun β hβ t=> ?_⟩
 by_cases hw:∃ k o,k < m∧os[k]? =some o∧o.dst=some t
 ·obtain⟨k,o,hk,ho,hdst⟩:=hw
  exact h.new k o t hk (hall k hk) ho hdst ρ' ha β hβ
 ·have hno:∀ k o,k < m->os[k]? =some o->o.dst≠some t:=fun k o hk ho e=>hw ⟨k,o,hk,ho,e⟩
  rw [h.old t (fun k o hk _ ho=>hno k o hk ho)]
  exact (jH (o8 m) rfl hm hβ (fun k o _ hk ho=>hno k o hk ho)).1 (h0 ρ' ha β t)
theorem b1l {X:Cx} {J:Inv X.P} (hX:CxOk X J) {B:Nat} {M:Nat->Prop} (hp:Par X.P B M) {w0:Bas} {os:List Oper} {m:Nat} (hd:Draws os m) {s0:St} {a0:Act} {ρ:Num} {sm:St} {km:KV} (hm:evN X m os s0 m=some (sm,km)) (hl:d9 sm.obs)
  (h0:∀ ρ',Agree s0.nid ρ ρ'->∀ β t,D7 ρ' β (x4 s0.tmps t) (a0.tmps.getD t undef)) {listed:Array Bool} {a:Act} {w:World}
  (h:Half X J B M w0 os m s0 a0 ρ sm km listed a w) {i:Nat} (him:i < m) (hr:i∈zO7 .any ⟨os⟩ listed) {rb:Option Nat} {K:Act->World->Prop} {Q:Exit->Act->World->Prop}
  (hK:∀ a' w',Half X J B M w0 os m s0 a0 ρ sm km (listed.setIfInBounds i true) a' w'->K a' w'):wpOpIn (Fl rb) 0 X.P ⟨os⟩ Q i K a w:=by
 obtain⟨⟨hi,hnl⟩,o,ho,hpre⟩:=ready_iff.1 hr
 obtain⟨⟨s1,k1⟩,hq1⟩:=cY (i:=i+1) (by omega) hm
 obtain⟨si,ki,o',hsi,ho',hop⟩:=I1 hq1
 rw [ho] at ho'
 cases ho'
 rw [show zO1 i m=true by simp [Nat.blt_eq]; exact him] at hop
 have hobs:=R5 (by omega) hq1 hm hl
 obtain⟨e1,e2,e3⟩:=tQ (by omega:i<=m) hsi
 obtain⟨_,elen⟩:=Y7 hsi
 rw [y6] at hop
 split at hop
 ·cases hop
 rename_i tmps' kv1 tv r he
 cases hop
 simp only [m3] at hobs
 have hsub:∀ β,KVok km β->KVok k1 β:=fun β hβ=>c0l (by omega) hq1 hm hβ
 have hsubi:∀ β,KVok km β->KVok ki β:=fun β hβ=>c0l (by omega) hsi hm hβ
 have hT:∀ ρ',Agree s0.nid ρ ρ'->∀ β,KVok km β->∀ t∈looks os o,D7 ρ' β (x4 si.tmps t) (a.tmps.getD t undef):=by
  intro ρ' ha β hβ t ht
  by_cases hw:∃ k ok,k < m∧Lst listed k∧os[k]? =some ok∧ok.dst=some t
  ·obtain⟨k,ok,hk,hlk,hok,hdk⟩:=hw
   have hki:k < i:=by
    rcases hd.slot i o him ho t ht k ok hk hok hdk with e | e | e
    ·subst e; exact absurd hlk hnl
    ·exact hd.fwd i o ho k e
    ·exact absurd (h.closed k ok hok hlk i e) hnl
   have:=h.new k ok t hk hlk hok hdk ρ' ha β hβ
   refine (jH (by omega:i<=m) hsi hm hβ (fun k2 o2 hk1 hk2 ho2 hd2=> ?_)).2 this
   have:=hd.dup k k2 ok o2 t hk hk2 hok ho2 hdk hd2
   omega
  ·have hno:∀ k ok,k < m->Lst listed k->os[k]? =some ok->ok.dst≠some t:=fun k ok hk hlk hok e=>hw ⟨k,ok,hk,hlk,hok,e⟩
   rw [h.old t hno]
   refine (jH (o8 i) rfl hsi (hsubi β hβ) (fun k ok _ hk hok hdk=> ?_)).1 (h0 ρ' ha β t)
   rcases hd.slot i o him ho t ht k ok (by omega) hok hdk with e | e | e
   ·omega
   ·exact hno k ok (by omega) (hpre k e) hok hdk
   ·have:=hd.fwd k ok hok i e
    omega
 refine P9 hX ho he hobs.1 hp (ρ:=ρ) (Cβ:=KVok km) (Y7 hm).1 hsub h.base h.inv (fun ρ' ha=>by rw [e1]; rw [e2] at ha; exact h.sim ρ' ha)
  (fun ρ' ha β hβ t ht=>hT ρ' (by rw [e2] at ha; exact ha) β hβ t ht) (fun v w' ρ1 ha hn hfin hk hq=>hK _ _ ?_)
 obtain⟨g1,g2,g3,g4,g5⟩:=hq rfl
 subst g5
 have hfin':∀ ρ',Agree s0.nid ρ1 ρ'->Sim X.P B M ρ' s0.heap w'∧∀ β,KVok km β->D7 ρ' β tv v:=fun ρ' ha'=>by
  have:=hfin ρ' (by rw [g3,e2]; exact ha')
  rw [g1,e1] at this
  exact this
 have hisz:i < listed.size:=hi
 refine⟨by simpa using h.size,fun j oj hoj hlj e he'=> ?_,fun t ht hlt'=> ?_,by rw [S7]; exact h.asize,by rw [H3]; exact h.defers,u7 h.base hk.size,J.keeps hp hk h.inv,h.keeps.trans hk,
  fun ρ' ha'=>(hfin' ρ' ha').1,fun t hno=> ?_,fun k ok d hkm hlk hok hdk ρ' ha' β hβ=> ?_⟩
 ·rw [p5 hisz] at hlj ⊢
  rcases hlj with rfl | hlj
  ·rw [ho] at hoj; cases hoj
   exact .inr (hpre e he')
  ·exact .inr (h.closed j oj hoj hlj e he')
 ·rw [p5 hisz] at hlt'
  rcases hlt' with rfl | hlt'
  ·omega
  ·exact h.late t ht hlt'
 ·rw [H9,a8 (fun hh=>hno i o him ((p5 hisz).2 (.inl rfl)) ho hh.1)]
  exact h.old t (fun k ok hkm hlk hok=>hno k ok hkm ((p5 hisz).2 (.inr hlk)) hok)
 ·rw [H9]
  by_cases hki:k=i
  ·subst hki
   rw [ho] at hok
   cases hok
   by_cases hds:d < a.tmps.size
   ·rw [i6 ⟨hdk,hds⟩]
    have hslot:=jH (X:=X) (m:=m) (os:=os) (s0:=s0) (ρ:=ρ') (β:=β) (t:=d) (r:=v) (by omega:k+1<=m) hq1 hm hβ (fun k2 o2 hk1 hk2 ho2 hd2=>by
     have:=hd.dup k k2 o o2 d hkm hk2 ho ho2 hdk hd2
     omega)
    rw [<- hslot]
    show D7 ρ' β (x4 (g0c tmps' o.dst tv) d) v
    obtain⟨_,_,hl'⟩:=L6 he (Y7 hsi).1
    rw [N1,i6 ⟨hdk,by rw [hl',elen,<- h.asize]; exact hds⟩]
    exact (hfin' ρ' ha').2 β hβ
   ·
    have hnone:x4 sm.tmps d= .unk:=by
     simp only [E1]
     have e7:sm.tmps.length=s0.tmps.length:=(Y7 hm).2
     have e8:a.tmps.size=s0.tmps.length:=h.asize
     have e9:a.tmps.size<=d:=mW hds
     rw [j0a (by omega)]
    rw [hnone]
    trivial
  ·have hlk':Lst listed k:=by
    rcases (p5 hisz).1 hlk with e | e
    ·exact absurd e hki
    ·exact e
   have hne:o.dst≠some d:=fun e=>hki (hd.dup k i ok o d hkm him hok ho hdk e)
   rw [a8 (fun hh=>hne hh.1)]
   exact h.new k ok d hkm hlk' hok hdk ρ' ha' β hβ
theorem yD {X:Cx} {J:Inv X.P} (hX:CxOk X J) {B:Nat} {M:Nat->Prop} (hp:Par X.P B M) {w0:Bas} {os:List Oper} {m:Nat} (hd:Draws os m) {s0 sn:St} {kn:KV} (hn:evN X m os s0 os.length=some (sn,kn)) (hl:d9 sn.obs)
  {rb:Option Nat} {Q:Exit->Act->World->Prop} (hQ:∀ a w,RepR X.P J B M w0 kn sn a w->Q .normal a w):
  ∀ (fuel t:Nat) (listed:Array Bool) (s:St) (kv:KV) (a:Act) (w:World),m<=t->t<=os.length->os.length<=t+fuel->listed.size=os.length->(∀ j,j < os.length->(Lst listed j↔j < t))->
   evN X m os s0 t=some (s,kv)->RepR X.P J B M w0 kv s a w->wpAnyIn (Fl rb) 0 X.P .any ⟨os⟩ Q fuel listed a w:=by
 intro fuel
 induction fuel with
 | zero=>
  intro t listed s kv a w hmt htn hf hsz hL hs hR
  obtain rfl:t=os.length:=by omega
  rw [hs] at hn
  cases hn
  refine⟨?_,hQ a w hR⟩
  cases hr:zO7 .any ⟨os⟩ listed with
  | nil=>rfl
  | cons x xs=>
   have:x∈zO7 .any ⟨os⟩ listed:=by rw [hr]; simp
   obtain⟨⟨h1,h2⟩,_⟩:=ready_iff.1 this
   exact absurd ((hL x (by omega)).2 (by omega)) h2
 | succ fuel ih=>
  intro t listed s kv a w hmt htn hf hsz hL hs hR
  by_cases htl:t=os.length
  ·subst htl
   rw [hs] at hn
   cases hn
   refine⟨fun _=>hQ a w hR,fun i hi=> ?_⟩
   obtain⟨⟨h1,h2⟩,_⟩:=ready_iff.1 hi
   exact absurd ((hL i (by omega)).2 (by omega)) h2
  ·have htlt:t < os.length:=by omega
   obtain⟨ot,hot⟩:∃ o,os[t]? =some o:=⟨os[t],by simp [htlt]⟩
   refine⟨fun h0=> ?_,fun i hi=> ?_⟩
   ·exfalso
    have:t∈zO7 .any ⟨os⟩ listed:=ready_iff.2 ⟨⟨by omega,fun h=>by have:=(hL t htlt).1 h; omega⟩,ot,hot,fun e he=>by
     have:=hd.fwd t ot hot e he
     exact (hL e (by omega)).2 this⟩
    rw [h0] at this
    cases this
   ·obtain⟨⟨h1,h2⟩,o,ho,hpre⟩:=ready_iff.1 hi
    have hit:i=t:=by
     rcases iG i t with h | h | h
     ·exact absurd ((hL i (by omega)).2 h) h2
     ·exact h
     ·exfalso
      have:=hpre (i-1) (hd.chain i o (by omega) ho)
      have:=(hL (i-1) (by omega)).1 this
      omega
    subst hit
    obtain⟨⟨s1,k1⟩,hq1⟩:=cY (i:=i+1) (by omega) hn
    obtain⟨s',kv',o',g1,g2,g3⟩:=I1 hq1
    rw [hs] at g1
    cases g1
    exact T8 hX g2 g3 (R5 (by omega) hq1 hn hl) hp hR (fun a' w' hR'=>ih (i+1) _ s1 k1 a' w' (by omega) (by omega) (by omega) (by simpa using hsz) (fun j hj=>by
     rw [p5 (by omega)]
     constructor
     ·rintro (rfl | h)
      ·omega
      ·have:=(hL j hj).1 h; omega
     ·intro h
      by_cases e:j=i
      ·exact .inl e
      ·exact .inr ((hL j hj).2 (by omega))) hq1 hR')
theorem zO {os:List Oper} {m:Nat} (hd:Draws os m) (hm:m < os.length) {listed:Array Bool} (hcl:∀ j o,os[j]? =some o->Lst listed j->∀ e∈m6 o,Lst listed e) {om:Oper} (hom:os[m]? =some om) (hpre:∀ e∈m6 om,Lst listed e):
  ∀ (g i:Nat),m-i<=g->i < m->Lst listed i:=by
 intro g
 induction g with
 | zero=>intro i h1 h2; omega
 | succ g ih=>
  intro i h1 h2
  obtain⟨j,o,hij,hjm,hoj,hin⟩:=hd.sink hm i h2
  by_cases e:j=m
  ·subst e
   rw [hom] at hoj
   cases hoj
   exact hpre i hin
  ·exact hcl j o hoj (ih j (by omega) (by omega)) i hin
theorem v0o {X:Cx} {J:Inv X.P} (hX:CxOk X J) {B:Nat} {M:Nat->Prop} (hp:Par X.P B M) {w0:Bas} {os:List Oper} {m:Nat} (hd:Draws os m) {s0 sn:St} {kn:KV} (hn:evN X m os s0 os.length=some (sn,kn)) (hl:d9 sn.obs)
  {a0:Act} {ρ:Num} {sm:St} {km:KV} (hm:evN X m os s0 m=some (sm,km)) (h0:∀ ρ',Agree s0.nid ρ ρ'->∀ β t,D7 ρ' β (x4 s0.tmps t) (a0.tmps.getD t undef)) (hρ0:w0.n<=s0.nid∧Agree w0.n w0.ρ ρ)
  {rb:Option Nat} {Q:Exit->Act->World->Prop} (hQ:∀ a w,RepR X.P J B M w0 kn sn a w->Q .normal a w):
  ∀ (fuel:Nat) (listed:Array Bool) (a:Act) (w:World),unl listed os.length<=fuel->Half X J B M w0 os m s0 a0 ρ sm km listed a w->wpAnyIn (Fl rb) 0 X.P .any ⟨os⟩ Q fuel listed a w:=by
 intro fuel
 induction fuel with
 | zero=>
  intro listed a w hf h
  have hall:∀ k,k < os.length->Lst listed k:=fun k hk=>qB (by omega) hk
  have hmn:m=os.length:=by
   rcases E0 m os.length with hlt | hge
   ·exact absurd (hall m hlt) (h.late m (d5 _))
   ·have:=hd.le; omega
  subst hmn
  exact yD hX hp hd hn hl hQ 0 os.length listed sm km a w (d5 _) (d5 _) (by omega) h.size (fun j hj=>⟨fun _=>hj,fun _=>hall j hj⟩) hm (r0s hm h0 h hρ0 (fun k hk=>hall k hk))
 | succ fuel ih=>
  intro listed a w hf h
  by_cases hall:∀ k,k < m->Lst listed k
  ·refine yD hX hp hd hn hl hQ (fuel+1) m listed sm km a w (d5 _) hd.le ?_ h.size (fun j hj=>⟨fun hlj=> ?_,fun hj'=>hall j hj'⟩) hm (r0s hm h0 h hρ0 hall)
   ·have hc:(List.range os.length).countP (fun i=> !Nat.blt i m)<=unl listed os.length:=by
     refine List.countP_mono_left (fun z _ hz=> ?_)
     simp only [q0i] at hz ⊢
     cases hzl:listed.getD z false
     ·rfl
     ·exfalso
      refine h.late z ?_ hzl
      rcases E0 z m with h' | h'
      ·rw [show zO1 z m=true by simp [Nat.blt_eq]; exact h'] at hz; cases hz
      ·exact h'
    have hc2:∀ n,(List.range n).countP (fun i=> !Nat.blt i m)=n-m:=by
     intro n
     induction n with
     | zero=>simp
     | succ n ihn=>
      rw [l0m,List.countP_append,ihn]
      simp only [List.countP_cons,List.countP_nil,aW,q0i]
      by_cases hnm:n < m
      ·rw [a8 (by rw [show zO1 n m=true by simp [Nat.blt_eq]; exact hnm]; simp)]; omega
      ·rw [i6 (by cases hb:zO1 n m; rfl; exact absurd (by simpa [Nat.blt_eq] using hb) hnm)]; omega
    rw [hc2] at hc
    omega
   ·rcases E0 j m with h' | h'
    ·exact h'
    ·exact absurd hlj (h.late j h')
  ·have hex:∃ k,k < m∧¬ Lst listed k:=by
    rcases Classical.em (∃ k,k < m∧¬ Lst listed k) with h' | h'
    ·exact h'
    ·exact absurd (fun k hk=>bP fun hn=>h' ⟨k,hk,hn⟩) hall
   refine⟨fun hr0=> ?_,fun i hi=> ?_⟩
   ·exfalso
    haveI:DecidablePred fun k=>¬ Lst listed k:=fun k=>Classical.propDecidable _
    obtain⟨k,hk,hnl,hmin⟩:=q0k m hex
    obtain⟨o,ho⟩:∃ o,os[k]? =some o:=⟨os[k]'(by have:=hd.le; omega),by have:=hd.le; simp [show k < os.length by omega]⟩
    have:k∈zO7 .any ⟨os⟩ listed:=ready_iff.2 ⟨⟨by rw [h.size]; have:=hd.le; omega,hnl⟩,o,ho,fun e he=>bP fun hn=>hmin e (hd.fwd k o ho e he) hn⟩
    rw [hr0] at this
    cases this
   ·obtain⟨⟨h1,h2⟩,o,ho,hpre⟩:=ready_iff.1 hi
    have hin:i < os.length:=by rw [<- h.size]; exact h1
    have him:i < m:=by
     rcases iG i m with h' | h' | h'
     ·exact h'
     ·subst h'
      obtain⟨k,hk,hnk⟩:=hex
      exact absurd (zO hd hin h.closed ho hpre (i-k) k (d5 _) hk) hnk
     ·exact absurd (hpre (i-1) (hd.chain i o h' ho)) (h.late (i-1) (by omega))
    refine b1l hX hp hd hm (R5 hd.le hm hn hl) h0 h him hi (fun a' w' h'=>ih _ a' w' ?_ h')
    have:=c0s hin h.size h2
    omega
end
noncomputable section
abbrev Ren:=List (Nat×Nat)
def Ren.to:Ren->Nat->Nat
 | [],i=>i
 | (j,k) ::r,i=>match zO0 j i with
  | true=>k
  | false=>Ren.to r i
def q2z (σ:Ren):Fn->Fn
 | .yield l=> .yield (σ.to l)
 | f=>f
mutual
def rn (σ:Ren):Value->Value
 | .pointer (some a)=> .pointer (some { a with block:=σ.to a.block })
 | .slice (some ⟨j,off,none⟩) n c=> .slice (some ⟨σ.to j,off,none⟩) n c
 | .slice (some ⟨j,off,some k⟩) n c=> .slice (some ⟨σ.to j,off,some (σ.to k)⟩) n c
 | .map (some r)=> .map (some (σ.to r))
 | .func fn f c=> .func (q2z σ fn) (rnA σ f) (rnA σ c)
 | .iface t v=> .iface t (rn σ v)
 | .agg cs=> .agg (rnA σ cs)
 | .tuple vs=> .tuple (rnA σ vs)
 | .bool b=> .bool b
 | .int k n=> .int k n
 | .float k n=> .float k n
 | .complex k a b=> .complex k a b
 | .string s=> .string s
 | .pointer none=> .pointer none
 | .slice none n c=> .slice none n c
 | .map none=> .map none
 | .chan r=> .chan r
 | .nilFunc=> .nilFunc
 | .nilIface=> .nilIface
def rnA (σ:Ren):Array Value->Array Value
 | ⟨l⟩=>⟨rnL σ l⟩
def rnL (σ:Ren):List Value->List Value
 | [] =>[]
 | v ::l=>rn σ v ::rnL σ l
end
theorem lN (σ:Ren):∀ l:List Value,(rnL σ l).length=l.length
 | [] =>by simp [rnL]
 | v ::l=>by simp [rnL,lN σ l]
theorem f2h (ρ:Num) (σ:Ren) (f:Fn):rFn ρ (q2z σ f)=rFn (fun i=>ρ (σ.to i)) f:=by
 cases f <;> rfl
mutual
def noE:Value->Bool
 | .chan (some _)=>false
 | .complex _ _ _=>false
 | .func _ f c=>noEA f && noEA c
 | .iface _ v=>noE v
 | .agg cs=>noEA cs
 | .tuple vs=>noEA vs
 | _=>true
def noEA:Array Value->Bool
 | ⟨l⟩=>noEL l
def noEL:List Value->Bool
 | [] =>true
 | v ::l=>noE v && noEL l
end
mutual
theorem z1b (ρ:Num) (σ:Ren):∀ v:Value,noE v=true->rv ρ (rn σ v)=rv (fun i=>ρ (σ.to i)) v
 | .pointer (some a),_=>by simp [rv,rn,p6]
 | .slice (some ⟨j,off,none⟩) n c,_=>by simp [rv,rn,rSl,p6]
 | .slice (some ⟨j,off,some k⟩) n c,_=>by simp [rv,rn,rSl]
 | .map (some r),_=>by simp [rv,rn]
 | .func fn f c,h=>by simp only [noE,u6] at h; simp only [rv,rn,f2h,rvA_rn ρ σ f h.1,rvA_rn ρ σ c h.2]
 | .iface t v,h=>by simp only [noE] at h; simp only [rv,rn,z1b ρ σ v h]
 | .agg cs,h=>by simp only [noE] at h; simp only [rv,rn,rvA_rn ρ σ cs h]
 | .tuple vs,h=>by simp only [noE] at h; simp only [rv,rn,rvA_rn ρ σ vs h]
 | .bool _,_=>by simp only [rv,rn]
 | .int _ _,_=>by simp only [rv,rn]
 | .float _ _,_=>by simp only [rv,rn]
 | .complex _ _ _,h=>by simp only [noE] at h; cases h
 | .string _,_=>by simp only [rv,rn]
 | .pointer none,_=>by simp only [rv,rn]
 | .slice none _ _,_=>by simp only [rv,rn]
 | .map none,_=>by simp only [rv,rn]
 | .chan none,_=>by simp only [rv,rn]
 | .chan (some _),h=>by simp only [noE] at h; cases h
 | .nilFunc,_=>by simp only [rv,rn]
 | .nilIface,_=>by simp only [rv,rn]
theorem rvA_rn (ρ:Num) (σ:Ren):∀ v:Array Value,noEA v=true->rvA ρ (rnA σ v)=rvA (fun i=>ρ (σ.to i)) v
 | ⟨l⟩,h=>by simp only [noEA] at h; simp only [rvA,rnA,rvL_rn ρ σ l h]
theorem rvL_rn (ρ:Num) (σ:Ren):∀ v:List Value,noEL v=true->rvL ρ (rnL σ v)=rvL (fun i=>ρ (σ.to i)) v
 | [],_=>by simp only [rvL,rnL]
 | v ::l,h=>by simp only [noEL,u6] at h; simp only [rvL,rnL,z1b ρ σ v h.1,rvL_rn ρ σ l h.2]
end
def eO:Op->Bool
 | .alloc _=>true
 | .box _ _=>true
 | .buildSlice _ _ _=>true
 | .range _ _=>true
 | .makeMap _ none=>true
 | _=>false
theorem s1i {P:Program} {auto:Bool} {ev:Operand->Option Value} {o:Oper} {n:Nat} {ds:List Bool} {r:R} (hlay:eO o.op=true) (h:v0b P auto ev o [] n ds=some r):
  ∃ ob,r.h=[(n,ob)] ∧r.obs=[] ∧r.ds=ds∧∀ H,v0b P auto ev o H n ds=some ⟨r.v,(n,ob) ::H,[],ds⟩:=by
 unfold v0b at h ⊢
 cases ho:o.op with
 | alloc t=>
  rw [ho] at h
  simp only at h ⊢
  split at h
  ·rename_i z hz; cases h; exact⟨_,rfl,rfl,rfl,fun _=>rfl⟩
  ·cases h
 | box t x=>
  rw [ho] at h
  simp only at h ⊢
  split at h
  ·rename_i z hz; cases h; exact⟨_,rfl,rfl,rfl,fun _=>rfl⟩
  ·cases h
 | buildSlice t len ps=>
  rw [ho] at h
  simp only at h ⊢
  split at h
  ·rename_i l hl
   split at h
   ·rename_i e cs hz; cases h; exact⟨_,rfl,rfl,rfl,fun _=>rfl⟩
   ·cases h
  ·cases h
 | range t x=>
  rw [ho] at h
  simp only at h ⊢
  split at h
  ·rename_i s h1 h2; cases h; exact⟨_,rfl,rfl,rfl,fun _=>rfl⟩
  ·cases h
 | makeMap t x=>
  cases x with
  | none=>rw [ho] at h; cases h; exact⟨_,rfl,rfl,rfl,fun _=>rfl⟩
  | some x=>rw [ho] at hlay; cases hlay
 | _=>rw [ho] at hlay; cases hlay
theorem g1y {o:Oper} (h:eO o.op=true):B1 o.op=false:=by
 cases ho:o.op <;> rw [ho] at h <;> first | (cases h; done) | rfl
theorem aE {X:Cx} {q:Bool} {o:Oper} {conds:List (Nat×Bool)} {tmps:List TV} {H:Heap} {n:Nat} {ds:List Bool} (hlay:eO o.op=true):D3 X q o conds tmps H n ds=
  match mO X.P o with
  | false=>none
  | true=>match v0b X.P X.auto (evo tmps conds) o H n ds with
   | some r=>match q with
    | false=>some ⟨r.v,r.h,n+1,r.obs,r.ds⟩
    | true=>none
   | none=>none:=by
 have hst:=g1y hlay
 unfold D3
 cases mO X.P o with
 | false=>rfl
 | true=>
  have hsb:s2b X.P X.auto (evo tmps conds) o.op=none:=by
   cases ho:o.op <;> rw [ho] at hlay <;> first | (cases hlay; done) | rfl
  dsimp only
  rw [hsb]
  cases ho:o.op <;> rw [ho] at hlay hst <;> first | (cases hlay; done) | (cases q <;> rfl)
theorem a0m {X:Cx} {o:Oper} {conds:List (Nat×Bool)} {tmps:List TV} {n:Nat} {ds:List Bool} {r:CR} (hlay:eO o.op=true) (h:D3 X false o conds tmps [] n ds=some r):
  ∃ ob,r.h=[(n,ob)] ∧r.ds=ds∧∀ H,D3 X false o conds tmps H n ds=some ⟨r.v,(n,ob) ::H,r.n,r.obs,r.ds⟩:=by
 rw [aE hlay] at h
 split at h
 ·cases h
 ·rename_i hg
  split at h
  case h_2=>cases h
  rename_i r0 hr0
  cases h
  obtain⟨ob,e1,e2,e3,e4⟩:=s1i hlay hr0
  refine⟨ob,e1,e3,fun H=> ?_⟩
  rw [aE hlay,hg]
  simp only [e4 H,e2,e3]
theorem oZ {X:Cx} {o:Oper} {conds:List (Nat×Bool)} {tmps:List TV} {H:Heap} {n:Nat} {ds:List Bool} (hlay:eO o.op=true):D3 X true o conds tmps H n ds=none:=by
 rw [aE hlay]
 split
 ·rfl
 ·split <;> rfl
theorem k0f {X:Cx} {os:List Oper} {o:Oper} {tmps tmps':List TV} {n:Nat} {ds:List Bool} {kv kv':KV} {tv:TV} {r:CR} (hlay:eO o.op=true)
  (h:M9 X false os o tmps [] n ds kv=some (tmps',kv',tv,r)):r.ds=ds∧(r.h=[] ∨∃ ob,r.h=[(n,ob)])∧∀ H,M9 X false os o tmps H n ds kv=some (tmps',kv',tv,⟨r.v,r.h++H,r.n,r.obs,r.ds⟩):=by
 rw [A6] at h
 split at h
 ·cases h
 ·rename_i hg
  cases h
  refine⟨rfl, .inl rfl,fun H=> ?_⟩
  rw [A6,hg]
  rfl
 ·rename_i conds hg
  split at h
  ·cases h
  ·rename_i r1 hand
   cases h
   rcases E2 hand with ⟨r0,hb,er⟩ | ⟨_,hc,_,r0,hb,er⟩
   ·subst er
    cases hc:z0m conds with
    | true=>
     rw [hc] at hb
     rw [show (false || true)=true from rfl,oZ hlay] at hb
     cases hb
    | false=>
     rw [hc] at hb
     obtain⟨ob,e1,e2,e3⟩:=a0m hlay hb
     refine⟨e2, .inr ⟨ob,e1⟩,fun H=> ?_⟩
     rw [A6,hg]
     simp only [g0l,hc]
     have:=e3 H
     rw [show (false || false)=false from rfl,this]
     simp only [e1]
     rfl
   ·subst er
    obtain⟨ob,e1,e2,e3⟩:=a0m hlay hb
    refine⟨e2, .inr ⟨ob,e1⟩,fun H=> ?_⟩
    rw [A6,hg]
    simp only [g0l,hc]
    rw [show (false || true)=true from rfl,oZ hlay,e3 H]
    simp only [e1]
    rfl
theorem e0e {X:Cx} {J:Inv X.P} (hX:CxOk X J) {q:Bool} {o:Oper} {conds:List (Nat×Bool)} {tmps:List TV} {H:Heap} {n:Nat} {ds:List Bool} {r:CR} (h:D3 X q o conds tmps H n ds=some r) (hq:q=true∨eO o.op=true) (hl:d9 r.obs)
  {B:Nat} {M:Nat->Prop} (_hp:Par X.P B M) {F:Num->Prop} {ρ:Num} (hF:F ρ) {β:Nat->Bool} (hc:V β conds) {a:Act} {w:World} (hB:B<=w.heap.size) (hI:J.I w)
  (hS:∀ ρ',F ρ'->Sim X.P B M ρ' H w) (hT:∀ ρ',F ρ'->∀ t, .tmp t∈o.op.operands.toList->D7 ρ' β (x4 tmps t) (a.tmps.getD t undef)) (hnew:q=false->∀ ρ',F ρ'->ρ' n=some w.heap.size)
  {rb:Option Nat} {K:Act->World->Prop} {Q:Exit->Act->World->Prop}
  (hK:∀ v w',(∀ ρ',F ρ'->v=rv ρ' r.v∧Sim X.P B M ρ' r.h w')->Keeps B M w w'->(q=true->Below w.heap.size w w')->K (a.put o.dst v) w'):
  o.wpIn (Fl rb) 0 X.P a w K Q:=by
 unfold D3 at h
 split at h
 case h_1=>cases h
 rename_i hglob
 have hglob':∀ x∈o.op.operands.toList,∀ g,x= .global g->g < X.P.globals.size:=by
  intro x hx g e
  subst e
  have:=zzA10.1 hglob _ hx
  simpa [Nat.blt_eq] using this
 have hev:∀ ρ',F ρ'->∀ x∈o.op.operands.toList,∀ y,evo tmps conds x=some y->a.eval x=rv ρ' y:=fun ρ' ha x hx y hy=>
  I3 (hS ρ' ha) hc hy (fun t e=>hT ρ' ha t (e ▸ hx)) (hglob' x hx)
 have still:∀ {v:Value},(∀ ρ',F ρ'->(execOp a.eval o).run X.P w= .ok (.value (rv ρ' v)) w)->(∀ c,o.op≠ .defer c)->r.v=v->r.h=H->o.wpIn (Fl rb) 0 X.P a w K Q:=by
  intro v h1 hnd h2 h3
  refine E7 hnd ?_
  rw [h1 ρ hF,lG]
  refine hK _ w (fun ρ' ha=>⟨?_,by rw [h3]; exact hS ρ' ha⟩) (Keeps.refl _ _ _) (fun _=>O9 _ _)
  have e1:=h1 ρ hF
  rw [h1 ρ' ha] at e1
  rw [h2]
  injection e1 with e1
  injection e1 with e1
  exact e1.symm
 have hsb:s2b X.P X.auto (evo tmps conds) o.op=none:=by
  rcases hq with hq | hq
  ·subst hq
   cases hsb:s2b X.P X.auto (evo tmps conds) o.op with
   | none=>rfl
   | some eb=>rw [hsb] at h; cases h
  ·cases ho:o.op <;> rw [ho] at hq <;> first | (cases hq; done) | rfl
 rw [hsb] at h
 dsimp only at h
 split at h
 ·
  rename_i c x y ho
  split at h
  case h_1=>cases h
  rename_i hng
  simp only [u6] at hng
  split at h
  case h_2=>cases h
  rename_i v hv
  cases h
  refine still (v:=v) (fun ρ' ha=> ?_) (by rw [ho]; intro c hc; cases hc) rfl rfl
  have:=mV (a:=a) (hS ρ' ha) hc hv (fun t e=>hT ρ' ha t (by
   rw [ho]; simp only [zO5]
   rcases e with e | e | e <;> simp [e])) hng.1 hng.2
  simp only [execOp,ho]
  exact this
 ·
  rename_i c ho
  have hq:q=true:=by
   rcases hq with hq | hq
   ·exact hq
   ·rw [ho] at hq; cases hq
  subst hq
  split at h
  ·rename_i f hcal
   split at h
   case h_3=>cases h
   case h_2=>cases h
   rename_i fid first cap args hf hargs
   have hfm:f∈o.op.operands.toList:=by rw [ho]; simp [zO5,Call.operands,hcal]
   have ham:∀ x∈c.args.toList,x∈o.op.operands.toList:=fun x hx=>by rw [ho]; simp [zO5,Call.operands,hcal]; exact .inr (by simpa using hx)
   have hrunx:∀ ρ',F ρ'->(execOp a.eval o).run X.P w=(callFunc fid ⟨rvL ρ' (first++args++cap)⟩).run X.P w:=by
    intro ρ' ha
    have e1:=hev ρ' ha f hfm _ hf
    have e2:=q9 (a:=a.eval) (ρ:=ρ') c.args.toList args (fun x hx y hy=>hev ρ' ha x (ham x hx) y hy) hargs
    have e3:c.args.map a.eval=⟨rvL ρ' args⟩:=by apply cV; simpa using e2
    simp only [execOp,ho,resolve,hcal,e1,e3,rv,rvA,rFn,Deferred.ofValue,pure_bind,invoke]
    have e4:((⟨rvL ρ' first⟩:Array Value)++(⟨rvL ρ' args⟩:Array Value)++(⟨rvL ρ' cap⟩:Array Value))=⟨rvL ρ' (first++args++cap)⟩:=by
     simp [l5]
    rw [e4]
   have hrun:∀ ρ',F ρ'->Enters X.P fid->(execOp a.eval o).run X.P w= .ok (.enter fid ⟨rvL ρ' (first++args++cap)⟩) w:=by
    intro ρ' ha hent
    rw [hrunx ρ' ha]
    exact hent _ _
   split at h
   case h_2=>cases h
   rename_i v l hpc
   cases h
   obtain⟨hpl,hpv,⟨hent,hcalls⟩ | hext⟩:=hX.pc _ _ _ _ hpc hl
   ·refine E7 (by rw [ho]; intro c hc; cases hc) ?_
    rw [hrun ρ hF hent,Oper.uponIn_enter,rvL_pure ρ _ hpl]
    refine⟨fun h=>(by cases h),dT ((hcalls w hI).mono fun e w' ⟨he,hb⟩=> ?_)⟩
    subst he
    refine hK v w' (fun ρ' ha=>⟨(A1 ρ' v hpv).symm,(hS ρ' ha).below hb⟩) (n5 hb hB) (fun _=>hb)
   ·refine E7 (by rw [ho]; intro c hc; cases hc) ?_
    rw [hrunx ρ hF,rvL_pure ρ _ hpl,hext w hI,lG]
    exact hK v w (fun ρ' ha=>⟨(A1 ρ' v hpv).symm,hS ρ' ha⟩) (Keeps.refl _ _ _) (fun _=>O9 _ _)
  ·rename_i b hcal
   split at h
   case h_2=>cases h
   rename_i args hargs
   split at h
   ·cases h
   split at h
   ·cases h
   have ham:∀ x∈c.args.toList,x∈o.op.operands.toList:=fun x hx=>by rw [ho]; simp [zO5,Call.operands,hcal]; simpa using hx
   have e3:∀ ρ',F ρ'->c.args.map a.eval=⟨rvL ρ' args⟩:=fun ρ' ha=>by
    have e2:=q9 (a:=a.eval) (ρ:=ρ') c.args.toList args (fun x hx y hy=>hev ρ' ha x (ham x hx) y hy) hargs
    apply cV; simpa using e2
   split at h
   ·rename_i v hv
    cases h
    refine still (v:=v) (fun ρ' ha=> ?_) (by rw [ho]; intro c hc; cases hc) rfl rfl
    simp only [execOp,ho,resolve,hcal,e3 ρ' ha,pure_bind,invoke]
    exact bX hv ρ' w _ _
   ·split at h
    case h_2=>cases h
    rename_i v hv
    cases h
    refine still (v:=v) (fun ρ' ha=> ?_) (by rw [ho]; intro c hc; cases hc) rfl rfl
    simp only [execOp,ho,resolve,hcal,e3 ρ' ha,pure_bind,invoke]
    exact nW (hS ρ' ha) hv _ _ _
  ·cases h
 ·
  split at h
  case h_2=>cases h
  rename_i r0 hr0
  have hrr:r.v=r0.v∧r.h=r0.h∧r.obs=r0.obs∧(q=true->B1 o.op=true):=by
   split at h
   ·rename_i hst
    cases h
    refine⟨rfl,?_,rfl,fun _=>hst⟩
    have:=dV (a:=a.eval) (hS ρ hF) hB (fun hs=>by rw [hst] at hs; cases hs) (fun x hx y hy=>hev ρ hF x hx y hy) hr0 hl
    obtain⟨_,_,_,_,_,_,h5⟩:=this
    exact (h5 hst).1.symm
   ·split at h
    ·cases h; exact⟨rfl,rfl,rfl,fun h=>by cases h⟩
    ·cases h
  obtain⟨e1,e2,e3,e4⟩:=hrr
  rw [e3] at hl
  have each:∀ ρ',F ρ'->_:=fun ρ' ha=>
   dV (a:=a.eval) (hS ρ' ha) hB (fun hs=>by
    cases q with
    | true=>rw [e4 rfl] at hs; cases hs
    | false=>exact hnew rfl ρ' ha) (fun x hx y hy=>hev ρ' ha x hx y hy) hr0 hl
  obtain⟨nx,w',h1,h2,h3,h4,h5⟩:=each ρ hF
  have all:∀ ρ',F ρ'->lE nx (rv ρ' r0.v)∧Sim X.P B M ρ' r0.h w':=by
   intro ρ' ha
   obtain⟨nx2,w2,g1,g2,g3,_⟩:=each ρ' ha
   rw [h1] at g1
   cases g1
   exact⟨g2,g3⟩
  refine E7 (cQ hr0) ?_
  rw [e1,e2] at hK
  have hbel:q=true->Below w.heap.size w w':=fun hq'=>by rw [(h5 (e4 hq')).2.2]; exact O9 _ _
  rcases h2 with hnx | ⟨hnx,hu⟩
  ·rw [h1,hnx,lG]
   refine hK _ w' (fun ρ' ha=>⟨?_,(all ρ' ha).2⟩) h4 hbel
   rcases (all ρ' ha).1 with e | ⟨e,_⟩
   ·rw [hnx] at e; injection e
   ·rw [hnx] at e; cases e
  ·rw [h1,hnx,Oper.uponIn_skip]
   refine hK _ w' (fun ρ' ha=>⟨?_,(all ρ' ha).2⟩) h4 hbel
   rcases (all ρ' ha).1 with e | ⟨_,e⟩
   ·rw [hnx] at e; cases e
   ·exact e.symm
theorem cO {X:Cx} {J:Inv X.P} (hX:CxOk X J) {q:Bool} {os:List Oper} {i:Nat} {o:Oper} (hi:os[i]? =some o) {tmps tmps':List TV} {H:Heap} {n:Nat} {ds:List Bool} {kv kv':KV} {tv:TV} {r:CR}
  (h:M9 X q os o tmps H n ds kv=some (tmps',kv',tv,r)) (hq:q=true∨eO o.op=true) (hl:d9 r.obs)
  {B:Nat} {M:Nat->Prop} (hp:Par X.P B M) {F:Num->Prop} {ρ:Num} (hF:F ρ) {Cβ:(Nat->Bool)->Prop} (hne:∃ β,Cβ β) (hCβ:∀ β,Cβ β->KVok kv' β) {a:Act} {w:World} (hB:B<=w.heap.size) (hI:J.I w)
  (hS:∀ ρ',F ρ'->Sim X.P B M ρ' H w) (hT:∀ ρ',F ρ'->∀ β,Cβ β->∀ t∈looks os o,D7 ρ' β (x4 tmps t) (a.tmps.getD t undef)) (hnew:q=false->∀ ρ',F ρ'->ρ' n=some w.heap.size)
  {rb:Option Nat} {K:Act->World->Prop} {Q:Exit->Act->World->Prop}
  (hK:∀ v w',(∀ ρ',F ρ'->Sim X.P B M ρ' r.h w'∧∀ β,Cβ β->D7 ρ' β tv v)->Keeps B M w w'->(q=true->Below w.heap.size w w')->K (a.put o.dst v) w'):
  wpOpIn (Fl rb) 0 X.P ⟨os⟩ Q i K a w:=by
 have hoi:(⟨os⟩:Array Oper)[i]? =some o:=by simpa using hi
 unfold wpOpIn
 rw [hoi]
 simp only []
 obtain⟨β0,hβ0⟩:=hne
 rw [A6] at h
 split at h
 ·cases h
 ·
  rename_i tmps1 kv1 conds1 hg
  cases h
  have g:=C2 hg (hCβ β0 hβ0) (fun t ht _=>hT ρ hF β0 hβ0 t ht)
  rw [a8 (by rw [g.2.1 rfl]; simp)]
  refine⟨jK,?_⟩
  exact hK undef w (fun ρ' ha=>⟨hS ρ' ha,fun β _=>(T9 ρ').symm⟩) (Keeps.refl _ _ _) (fun _=>O9 _ _)
 ·rename_i tmps1 kv1 conds hg
  split at h
  ·cases h
  ·rename_i r1 hand
   cases h
   have g:∀ ρ',F ρ'->∀ β,Cβ β->_:=fun ρ' ha β hβ=>C2 hg (hCβ β hβ) (fun t ht _=>hT ρ' ha β hβ t ht)
   have hw:∀ β,Cβ β->(Region.wanted o (yielded ⟨os⟩ a.tmps)=true↔V β conds):=fun β hβ=>(g ρ hF β hβ).2.2.1 rfl
   have run:∀ (q':Bool) (r0:CR),(q'=true∨eO o.op=true)->(q=true->q'=true)->(q'=false->q=false)->r.v=r0.v->r.h=r0.h->D3 X q' o conds tmps' H n ds=some r0->d9 r0.obs->V β0 conds->
     (if Region.wanted o (yielded ⟨os⟩ a.tmps)=true then o.wpIn (Fl rb) 0 X.P a w K Q else (∀ f,o.about X.P w a.eval=some f->(Fl rb).fn f)∧K (a.put o.dst undef) w):=by
    intro q' r0 hqq hq1 hq2 e1 e2 hb hl0 hV
    have hwt:=(hw β0 hβ0).2 hV
    rw [i6 hwt]
    refine e0e hX hb hqq hl0 hp hF (β:=β0) hV hB hI hS (fun ρ' ha t ht=> ?_) (fun h=>hnew (hq2 h)) (fun v w' hfin hk hbl=> ?_)
    ·exact ((g ρ' ha β0 hβ0).2.2.2 t _).1 (hT ρ' ha β0 hβ0 t (P1 ht))
    ·refine hK v w' (fun ρ' ha'=> ?_) hk (fun hq'=>hbl (hq1 hq'))
     rw [e2,e1]
     refine⟨(hfin ρ' ha').2,fun β hβ=> ?_⟩
     have hVβ:=(hw β hβ).1 hwt
     unfold r1t
     split
     ·exact (hfin ρ' ha').1
     ·exact⟨fun _=>(hfin ρ' ha').1,fun hn=>absurd hVβ hn⟩
   rcases E2 hand with ⟨r0,hb,er⟩ | ⟨hq0,hc,_,r0,hb,er⟩
   ·subst er
    by_cases hV:V β0 conds
    ·exact run _ r0 (by rcases hq with hq | hq; exact .inl (by simp [hq]); exact .inr hq) (fun h=>by simp [h]) (fun h=>by cases q <;> simp_all) rfl rfl hb (jW (hCβ β0 hβ0) hV hl) hV
    ·have hwt:Region.wanted o (yielded ⟨os⟩ a.tmps)=false:=by
      cases hw':Region.wanted o (yielded ⟨os⟩ a.tmps)
      ·rfl
      ·exact absurd ((hw β0 hβ0).1 hw') hV
     have hcne:conds≠[] :=fun e=>by subst e; exact hV (bE _)
     have hq1:(q || z0m conds)=true:=by
      cases conds with
      | nil=>exact absurd rfl hcne
      | cons _ _=>simp [z0m]
     rw [hq1] at hb
     obtain⟨e1,e2,e3⟩:=N4 hb
     rw [a8 (by rw [hwt]; simp)]
     refine⟨jK,?_⟩
     refine hK undef w (fun ρ' ha=>⟨?_,fun β hβ=> ?_⟩) (Keeps.refl _ _ _) (fun _=>O9 _ _)
     ·show Sim X.P B M ρ' r0.h w
      rw [e1]
      exact hS ρ' ha
     ·unfold r1t
      split
      ·exact absurd rfl hcne
      ·refine⟨fun hv=> ?_,fun _=>rfl⟩
       have:=(hw β hβ).2 hv
       rw [hwt] at this
       cases this
   ·subst er
    have hlay:eO o.op=true:=hq.elim (fun h=>by rw [hq0] at h; cases h) id
    exact run false r0 (.inr hlay) (fun h=>by rw [hq0] at h; cases h) (fun _=>hq0) rfl rfl hb hl.2 (rB (hCβ β0 hβ0) hl.1)
mutual
def d2h:Value->List Nat->List Nat
 | .pointer (some a),l=>a.block ::l
 | .slice (some a) _ _,l=>a.block ::l
 | .map (some r),l=>r ::l
 | .func _ f c,l=>numsA f (numsA c l)
 | .iface _ v,l=>d2h v l
 | .agg cs,l=>numsA cs l
 | .tuple vs,l=>numsA vs l
 | _,l=>l
def numsA:Array Value->List Nat->List Nat
 | ⟨x⟩,l=>numsL x l
def numsL:List Value->List Nat->List Nat
 | [],l=>l
 | v ::r,l=>d2h v (numsL r l)
end
def n2u:AObj->List Nat->List Nat
 | .cells cs _,l=>numsL cs l
 | .row _ _ (.vals xs) _,l=>numsL xs l
 | .ro xs,l=>numsL xs l
 | _,l=>l
def a0k (H:Heap):Nat->List Nat->List Nat->List Nat
 | 0,_,acc=>acc
 | f+1,work,acc=>match work with
  | [] =>acc
  | x ::r=>match E9 x acc with
   | true=>a0k H f r acc
   | false=>match H.get x with
    | some o=>a0k H f (n2u o r) (x ::acc)
    | none=>a0k H f r acc
def s1y (H:Heap):List Nat->Heap
 | [] =>[]
 | j ::r=>match H.get j with
  | some o=>match roO o with
   | some o'=>(j,o') ::s1y H r
   | none=>s1y H r
  | none=>s1y H r
theorem jE {H:Heap} :∀ {l:List Nat} {j:Nat} {o':AObj},(s1y H l).get j=some o'->∃ o,H.get j=some o∧roO o=some o'
 | [],j,o',h=>by simp [s1y,Heap.get] at h
 | i ::r,j,o',h=>by
  unfold s1y at h
  split at h
  ·rename_i o ho
   split at h
   ·rename_i o2 hr
    rw [b6] at h
    split at h
    ·rename_i e; subst e; cases h; exact⟨o,ho,hr⟩
    ·exact jE h
   ·exact jE h
  ·exact jE h
def k1q (p:Nat->Bool):Heap->Bool
 | [] =>true
 | (j,o) ::r=>p j && l2k p o && k1q p r
theorem bD {p:Nat->Bool} :∀ {H:Heap} {j:Nat} {o:AObj},k1q p H=true->H.get j=some o->p j=true∧l2k p o=true
 | [],j,o,_,h=>by simp [Heap.get] at h
 | (i,q) ::r,j,o,hp,h=>by
  simp only [k1q,u6] at hp
  rw [b6] at h
  split at h
  ·rename_i e; subst e; cases h; exact hp.1
  ·exact bD hp.2 h
def m0z (n n':Nat):Heap->Heap
 | [] =>[]
 | (j,o) ::r=>match Nat.ble n j && zO1 j n' with
  | true=>(j,o) ::m0z n n' r
  | false=>m0z n n' r
theorem Q2 {n n':Nat} :∀ {H:Heap} {j:Nat} {o:AObj},(m0z n n' H).get j=some o->H.get j=some o∧n<=j∧j < n'
 | [],j,o,h=>by simp [m0z,Heap.get] at h
 | (i,q) ::r,j,o,h=>by
  unfold m0z at h
  rw [b6]
  split at h
  ·rename_i hb
   simp only [u6,H7,C0] at hb
   rw [b6] at h
   split at h
   ·rename_i e; subst e; rw [i6 rfl]; exact⟨h,hb⟩
   ·rename_i e; rw [a8 e]; exact Q2 h
  ·rename_i hb
   obtain⟨h1,h2,h3⟩:=Q2 h
   refine⟨?_,h2,h3⟩
   rw [a8 (fun e=>by
    subst e
    have:(Nat.ble n i && zO1 i n')=true:=by simp [Nat.blt_eq,h2]; exact h3
    rw [this] at hb; cases hb)]
   exact h1
def m1l:Heap->Bool
 | [] =>true
 | (_,o) ::r=>o.rw && m1l r
theorem k0d:∀ {H:Heap} {j:Nat} {o:AObj},m1l H=true->H.get j=some o->o.rw=true
 | [],j,o,_,h=>by simp [Heap.get] at h
 | (i,q) ::r,j,o,hp,h=>by
  simp only [m1l,u6] at hp
  rw [b6] at h
  split at h
  ·cases h; exact hp.1
  ·exact k0d hp.2 h
theorem t8 (h H:Heap) (j:Nat):Heap.get (h++H) j=match Heap.get h j with
  | some o=>some o
  | none=>Heap.get H j:=by
 induction h with
 | nil=>rfl
 | cons x r ih=>
  obtain⟨i,o⟩:=x
  rw [oQ,b6,b6]
  by_cases e:i=j
  ·rw [i6 e,i6 e]
  ·rw [a8 e,a8 e,ih]
def m1d (p:Nat->Bool) (n n' j:Nat):Bool:=p j || (Nat.ble n j && zO1 j n')
def mD (X:Cx) (o:Oper) (conds:List (Nat×Bool)) (tmps:List TV) (H:Heap) (p:Nat->Bool) (n:Nat):Option (Value×Heap×Nat×List Prop):=
 match mO X.P o && Nat.ble X.P.globals.size n with
 | false=>none
 | true=>match o.op with
  | .call c=>match c.callee with
   | .value f=>match evo tmps conds f,cG (evo tmps conds) c.args.toList with
    | some (.func (.func fid) ⟨first⟩ ⟨cap⟩),some args=>match s1y H (a0k H 400 (numsL (first++args++cap) []) []) with
     | V=>match allL p (first++args++cap) && k1q p V with
      | false=>none
      | true=>match X.call fid (first++args++cap) (V++X.J.tabs) n [] with
       | none=>none
       | some ⟨v,h,n',obs,_⟩=>match m0z n n' h with
        | fr=>match Nat.ble n n' && (s0n (m1d p n n') v && k1q (m1d p n n') fr && m1l fr) with
         | true=>some (v,fr,n',obs)
         | false=>none
    | _,_=>none
   | _=>none
  | _=>none
theorem ORep.owned {B:Nat} {M:Nat->Prop} {B':Nat} {ρ:Num} {w:World} {ob:Option Nat} {o:AObj} (h:ORep B' (fun _=>False) ρ w ob o) (hle:B<=B') (hrw:o.rw=true):ORep B M ρ w ob o∧∀ b,ob=some b->B'<=b:=by
 cases o with
 | row e sz r k=>
  rcases h with h | ⟨b,cap,cur,h1,h2,h3,h4,h5⟩
  ·exact⟨.inl h,fun b hb=>by rw [h.1] at hb; cases hb⟩
  ·have h4:B'<=b:=h4.elim id False.elim
   exact⟨.inr ⟨b,cap,cur,h1,h2,h3, .inl (u7 hle h4),h5⟩,fun b' hb=>by rw [h1] at hb; cases hb; exact h4⟩
 | cells cs t=>
  obtain⟨b,h1,h2,h3⟩:=h
  have h3:B'<=b:=h3.elim id False.elim
  exact⟨⟨b,h1,h2, .inl (u7 hle h3)⟩,fun b' hb=>by rw [h1] at hb; cases hb; exact h3⟩
 | iter s p=>
  obtain⟨b,h1,h2,h3⟩:=h
  have h3:B'<=b:=h3.elim id False.elim
  exact⟨⟨b,h1,h2, .inl (u7 hle h3)⟩,fun b' hb=>by rw [h1] at hb; cases hb; exact h3⟩
 | ints k xs=>cases hrw
 | loop st pn ts ps asg bd=>
  obtain⟨b,r,h1,h2,h3,h4⟩:=h
  have h4:B'<=b:=h4.elim id False.elim
  exact⟨⟨b,r,h1,h2,h3, .inl (u7 hle h4)⟩,fun b' hb=>by rw [h1] at hb; cases hb; exact h4⟩
 | defr=>
  obtain⟨b,h1,h2,h3⟩:=h
  have h3:B'<=b:=h3.elim id False.elim
  exact⟨⟨b,h1,h2, .inl (u7 hle h3)⟩,fun b' hb=>by rw [h1] at hb; cases hb; exact h3⟩
 | dead=>
  obtain⟨b,q,h1,h2,h3⟩:=h
  have h3:B'<=b:=h3.elim id False.elim
  exact⟨⟨b,q,h1,h2, .inl (u7 hle h3)⟩,fun b' hb=>by rw [h1] at hb; cases hb; exact h3⟩
 | ro xs=>cases hrw
 | fam f n sz o=>cases hrw
 | map es=>
  obtain⟨b,mes,ck,h1,h2,h3,h4⟩:=h
  have h4:B'<=b:=h4.elim id False.elim
  exact⟨⟨b,mes,ck,h1,h2,h3, .inl (u7 hle h4)⟩,fun b' hb=>by rw [h1] at hb; cases hb; exact h4⟩
theorem d0v {X:Cx} {J:Inv X.P} (hX:CxOk X J) {o:Oper} {conds:List (Nat×Bool)} {tmps:List TV} {H:Heap} {p:Nat->Bool} {n n':Nat} {v0:Value} {fr:Heap} {obs:List Prop} (h:mD X o conds tmps H p n=some (v0,fr,n',obs)) (hl:d9 obs)
  {B:Nat} {M:Nat->Prop} {F:Num->Prop} {ρ:Num} (hF:F ρ) (hFp:∀ ρ',F ρ'->∀ j,p j=true->ρ' j=ρ j) (hpn:∀ j,p j=true->j < n) {β:Nat->Bool} (hc:V β conds) {a:Act} {w:World} (hB:B<=w.heap.size) (hI:J.I w) {Hb:Heap}
  (hS:∀ ρ',F ρ'->Sim X.P B M ρ' Hb w) (hH:∀ j o,H.get j=some o->Hb.get j=some o) (hT:∀ ρ',F ρ'->∀ t, .tmp t∈o.op.operands.toList->D7 ρ' β (x4 tmps t) (a.tmps.getD t undef))
  {rb:Option Nat} {K:Act->World->Prop} {Q:Exit->Act->World->Prop}
  (hK:∀ v w' (ρn:Num),n<=n'->(∀ j o,fr.get j=some o->n<=j∧j < n')->(∀ ρ',F ρ'->(∀ j,n<=j->j < n'->ρ' j=ρn j)->v=rv ρ' v0∧Sim X.P B M ρ' (fr++Hb) w')->Keeps B M w w'->K (a.put o.dst v) w'):
  o.wpIn (Fl rb) 0 X.P a w K Q:=by
 unfold mD at h
 split at h
 case h_1=>cases h
 rename_i hglob
 simp only [u6,H7] at hglob
 obtain⟨hglob,hgn⟩:=hglob
 have hglob':∀ x∈o.op.operands.toList,∀ g,x= .global g->g < X.P.globals.size:=by
  intro x hx g e
  subst e
  have:=zzA10.1 hglob _ hx
  simpa [Nat.blt_eq] using this
 split at h
 case h_2=>cases h
 rename_i c ho
 split at h
 case h_2=>cases h
 rename_i f hcal
 split at h
 case h_2=>cases h
 rename_i fid first cap args hf hargs
 dsimp only at h
 generalize hV:s1y H (a0k H 400 (numsL (first++args++cap) []) [])=V at h
 split at h
 case h_1=>cases h
 rename_i hall
 simp only [u6] at hall
 obtain⟨hpa,hpV⟩:=hall
 split at h
 case h_1=>cases h
 rename_i v h' n1 obs' ds' hcl
 split at h
 case h_2=>cases h
 rename_i hres
 simp only [u6] at hres
 obtain⟨_,⟨hpv,hpf⟩,hrw⟩:=hres
 cases h
 have hev:∀ x∈o.op.operands.toList,∀ y,evo tmps conds x=some y->a.eval x=rv ρ y:=fun x hx y hy=>
  I3 (hS ρ hF) hc hy (fun t e=>hT ρ hF t (e ▸ hx)) (hglob' x hx)
 have hfm:f∈o.op.operands.toList:=by rw [ho]; simp [zO5,Call.operands,hcal]
 have ham:∀ x∈c.args.toList,x∈o.op.operands.toList:=fun x hx=>by rw [ho]; simp [zO5,Call.operands,hcal]; exact .inr (by simpa using hx)
 obtain⟨hnn,hcalls⟩:=b0a hX hcl hl
 have hnn:n<=n':=hnn
 have hrun:(execOp a.eval o).run X.P w=(callFunc fid ⟨rvL ρ (first++args++cap)⟩).run X.P w:=by
  have e1:=hev f hfm _ hf
  have e2:=q9 (a:=a.eval) (ρ:=ρ) c.args.toList args (fun x hx y hy=>hev x (ham x hx) y hy) hargs
  have e3:c.args.map a.eval=⟨rvL ρ args⟩:=by apply cV; simpa using e2
  simp only [execOp,ho,resolve,hcal,e1,e3,rv,rvA,rFn,Deferred.ofValue,pure_bind,invoke]
  have e4:((⟨rvL ρ first⟩:Array Value)++(⟨rvL ρ args⟩:Array Value)++(⟨rvL ρ cap⟩:Array Value))=⟨rvL ρ (first++args++cap)⟩:=by simp [l5]
  rw [e4]
 have hS0:=hS ρ hF
 have hp':Par X.P w.heap.size (fun _=>False):=⟨J.room w hI,fun _ _ h=>h⟩
 have hVS:∀ ρ',Agree n ρ ρ'->Sim X.P w.heap.size (fun _=>False) ρ' (V++X.J.tabs) w∧rvL ρ (first++args++cap)=rvL ρ' (first++args++cap):=by
  intro ρ' ha
  have hag:∀ j,p j=true->ρ' j=ρ j:=fun j hj=>ha j (hpn j hj)
  have hgl:∀ g,g < X.P.globals.size->ρ' g=some g:=fun g hg=>by rw [ha g (by omega)]; exact hS0.glob g hg
  have hts:=hX.tabs w ρ' w.heap.size (fun _=>False) hI hgl
  refine⟨⟨hgl,fun j o' hj=> ?_,fun i j oi oj hi hr _ _ _=> ?_⟩,(rvL_all hag _ hpa).symm⟩
  ·rw [t8] at hj
   split at hj
   case h_2=>exact hts.obj j o' hj
   rename_i o2 hj2
   cases hj
   have hj:=hj2
   obtain⟨hk1,hk2⟩:=bD hpV hj
   have hj':=hj
   rw [<- hV] at hj'
   obtain⟨o1,ho1,hro⟩:=jE hj'
   have:=(hS0.obj j o1 (hH j o1 ho1)).ro (B':=w.heap.size) (M':=fun _=>False) hro
   rw [hag j hk1]
   exact this.1.all hag hk2
  ·rw [t8] at hi
   split at hi
   case h_2=>rw [hX.ro i oi hi] at hr; cases hr
   rename_i o2 hi2
   cases hi
   have hi:=hi2
   have hi':=hi
   rw [<- hV] at hi'
   obtain⟨o1,ho1,hro⟩:=jE hi'
   have:=(hS0.obj i o1 (hH i o1 ho1)).ro (B':=w.heap.size) (M':=fun _=>False) hro
   rw [this.2] at hr
   cases hr
 have hc1:=hcalls w.heap.size (fun _=>False) ρ w (rvL ρ (first++args++cap)) hp' (d5 _) hI hVS
 refine h0y (by rw [ho]; intro c hc; cases hc) hrun (hc1.mono fun e w' hh=> ?_)
 obtain⟨ρ1,v1,ha1,he,hk,hfin⟩:=hh
 refine⟨v1,he,?_⟩
 have hbel:Below w.heap.size w w':=hk.below
 refine hK v1 w' ρ1 hnn (fun j o hj=>(Q2 hj).2) (fun ρ' ha hnew=> ?_) (n5 hbel hB)
 let ρ2:Num:=fun j=>if j < n then ρ1 j else ρ' j
 have h2:Agree n' ρ1 ρ2:=fun j hj=>by
  show (if j < n then ρ1 j else ρ' j)=ρ1 j
  by_cases hlt:j < n
  ·rw [i6 hlt]
  ·rw [a8 hlt]; exact hnew j (by omega) hj
 have hag:∀ j,m1d p n n' j=true->ρ' j=ρ2 j:=fun j hj=>by
  show ρ' j=(if j < n then ρ1 j else ρ' j)
  simp only [m1d,lC,u6,H7,C0] at hj
  by_cases hlt:j < n
  ·rw [i6 hlt]
   rcases hj with hj | hj
   ·rw [hFp ρ' ha j hj,ha1 j hlt]
   ·omega
  ·rw [a8 hlt]
 obtain⟨g1,g2⟩:=hfin ρ2 h2
 refine⟨by rw [g1,f1u hag _ hpv],?_⟩
 have hold:=(hS ρ' ha).below hbel
 have key:∀ j o',(m0z n n' h').get j=some o'->o'.rw=true∧ORep B M ρ' w' (ρ' j) o'∧∀ b,ρ' j=some b->w.heap.size<=b:=fun j o' hj=>by
  obtain⟨k1,k2⟩:=bD hpf hj
  have k3:=k0d hrw hj
  have k4:=(g2.obj j o' (Q2 hj).1).all hag k2
  rw [<- hag j k1] at k4
  have:=k4.owned hB k3 (M:=M)
  exact⟨k3,this.1,this.2⟩
 have low:∀ k ok,Hb.get k=some ok->∀ b,ρ' k=some b->b < w.heap.size:=fun k ok hk b hb'=>by
  have:=(hS ρ' ha).obj k ok hk
  rw [hb'] at this
  exact this.lt
 refine⟨hold.glob,fun i o' hi=> ?_,fun i j oi oj hi hr hj hij hne=> ?_⟩
 ·rw [t8] at hi
  split at hi
  ·rename_i o2 ho2; cases hi; exact (key i o' ho2).2.1
  ·exact hold.obj i o' hi
 ·rw [t8] at hi hj
  split at hi <;> split at hj
  ·rename_i ho2 _ _ ho3
   cases hi; cases hj
   have k1:=bD hpf ho2
   have k2:=bD hpf ho3
   have:=g2.inj i j oi oj (Q2 ho2).1 hr (Q2 ho3).1 hij
   rw [<- hag i k1.1,<- hag j k2.1] at this
   exact this hne
  ·rename_i ho2 _ _
   cases hi
   intro e
   cases hq:ρ' i with
   | none=>exact hne hq
   | some b=>
    have h1:=(key i oi ho2).2.2 b hq
    have h2:=low j oj hj b (by rw [<- e]; exact hq)
    omega
  ·rename_i ho3
   cases hj
   intro e
   cases hq:ρ' i with
   | none=>exact hne hq
   | some b=>
    have h1:=(key j oj ho3).2.2 b (by rw [<- e]; exact hq)
    have h2:=low i oi hi b hq
    omega
  ·exact hold.inj i j oi oj hi hr hj hij hne
def v0l (X:Cx) (os:List Oper) (o:Oper) (tmps:List TV) (H:Heap) (p:Nat->Bool) (n:Nat) (kv:KV):Option (List TV×KV×TV×Heap×Nat×List Prop):=
 match I6 X.gd os o tmps kv with
 | some (false,tmps',kv',conds)=>match mD X o conds tmps' H p n with
  | none=>none
  | some (v,fr,n',obs)=>some (tmps',kv',r1t conds v,fr,n',match z0m conds with
   | true=>w0f kv' conds ::obs
   | false=>obs)
 | _=>none
theorem dZ {X:Cx} {os:List Oper} {o:Oper} {tmps tmps':List TV} {H:Heap} {p:Nat->Bool} {n n':Nat} {kv kv':KV} {tv:TV} {fr:Heap} {obs:List Prop} (h:v0l X os o tmps H p n kv=some (tmps',kv',tv,fr,n',obs)):
  ∃ conds v obs0,I6 X.gd os o tmps kv=some (false,tmps',kv',conds)∧mD X o conds tmps' H p n=some (v,fr,n',obs0)∧tv=r1t conds v∧(d9 obs->d9 obs0∧w0f kv' conds):=by
 unfold v0l at h
 split at h
 case h_2=>cases h
 rename_i conds hg
 split at h
 ·cases h
 rename_i v fr' n1 obs0 hc
 cases h
 refine⟨conds,v,obs0,hg,hc,rfl,fun hl=> ?_⟩
 cases conds with
 | nil=>exact⟨hl,a7⟩
 | cons x r=>exact⟨hl.2,hl.1⟩
theorem l0o {X:Cx} {o:Oper} {conds:List (Nat×Bool)} {tmps:List TV} {H:Heap} {p:Nat->Bool} {n n':Nat} {v:Value} {fr:Heap} {obs:List Prop} (h:mD X o conds tmps H p n=some (v,fr,n',obs)):
  n<=n'∧∀ j o,fr.get j=some o->n<=j∧j < n':=by
 unfold mD at h
 split at h
 case h_1=>cases h
 split at h
 case h_2=>cases h
 split at h
 case h_2=>cases h
 split at h
 case h_2=>cases h
 dsimp only at h
 split at h
 case h_1=>cases h
 split at h
 case h_1=>cases h
 split at h
 case h_2=>cases h
 rename_i hres
 simp only [u6,H7] at hres
 cases h
 exact⟨hres.1,fun j o hj=>(Q2 hj).2⟩
theorem x0k {X:Cx} {os:List Oper} {o:Oper} {tmps tmps':List TV} {H:Heap} {p:Nat->Bool} {n n':Nat} {kv kv':KV} {tv:TV} {fr:Heap} {obs:List Prop} (h:v0l X os o tmps H p n kv=some (tmps',kv',tv,fr,n',obs)):
  n<=n'∧∀ j o,fr.get j=some o->n<=j∧j < n':=by
 obtain⟨_,_,_,_,hc,_⟩:=dZ h
 exact l0o hc
theorem q0t {X:Cx} {J:Inv X.P} (hX:CxOk X J) {os:List Oper} {i:Nat} {o:Oper} (hi:os[i]? =some o) {tmps tmps':List TV} {H:Heap} {p:Nat->Bool} {n n':Nat} {kv kv':KV} {tv:TV} {fr:Heap} {obs:List Prop}
  (h:v0l X os o tmps H p n kv=some (tmps',kv',tv,fr,n',obs)) (hl:d9 obs)
  {B:Nat} {M:Nat->Prop} {F:Num->Prop} {ρ:Num} (hF:F ρ) (hFp:∀ ρ',F ρ'->∀ j,p j=true->ρ' j=ρ j) (hpn:∀ j,p j=true->j < n) {Cβ:(Nat->Bool)->Prop} (hne:∃ β,Cβ β) (hCβ:∀ β,Cβ β->KVok kv' β) {a:Act} {w:World} (hB:B<=w.heap.size) (hI:J.I w) {Hb:Heap}
  (hS:∀ ρ',F ρ'->Sim X.P B M ρ' Hb w) (hH:∀ j o,H.get j=some o->Hb.get j=some o) (hT:∀ ρ',F ρ'->∀ β,Cβ β->∀ t∈looks os o,D7 ρ' β (x4 tmps t) (a.tmps.getD t undef))
  {rb:Option Nat} {K:Act->World->Prop} {Q:Exit->Act->World->Prop}
  (hK:∀ v w' (ρn:Num),n<=n'->(∀ j o,fr.get j=some o->n<=j∧j < n')->(∀ ρ',F ρ'->(∀ j,n<=j->j < n'->ρ' j=ρn j)->Sim X.P B M ρ' (fr++Hb) w'∧∀ β,Cβ β->D7 ρ' β tv v)->Keeps B M w w'->K (a.put o.dst v) w'):
  wpOpIn (Fl rb) 0 X.P ⟨os⟩ Q i K a w:=by
 have hoi:(⟨os⟩:Array Oper)[i]? =some o:=by simpa using hi
 unfold wpOpIn
 rw [hoi]
 simp only []
 obtain⟨β0,hβ0⟩:=hne
 obtain⟨conds,v0,obs0,hg,hc,etv,hobs⟩:=dZ h
 obtain⟨hl0,hcond⟩:=hobs hl
 have hV:V β0 conds:=rB (hCβ β0 hβ0) hcond
 have g:∀ ρ',F ρ'->∀ β,Cβ β->_:=fun ρ' ha β hβ=>C2 hg (hCβ β hβ) (fun t ht _=>hT ρ' ha β hβ t ht)
 have hw:∀ β,Cβ β->(Region.wanted o (yielded ⟨os⟩ a.tmps)=true↔V β conds):=fun β hβ=>(g ρ hF β hβ).2.2.1 rfl
 have hwt:=(hw β0 hβ0).2 hV
 rw [i6 hwt]
 refine d0v hX hc hl0 hF hFp hpn hV hB hI hS hH (fun ρ' ha t ht=> ?_) (fun v w' ρn hn hfr hfin hk=> ?_)
 ·exact ((g ρ' ha β0 hβ0).2.2.2 t _).1 (hT ρ' ha β0 hβ0 t (P1 ht))
 ·refine hK v w' ρn hn hfr (fun ρ' ha hnew=> ?_) hk
  obtain⟨g1,g2⟩:=hfin ρ' ha hnew
  refine⟨g2,fun β hβ=> ?_⟩
  have hVβ:=(hw β hβ).1 hwt
  rw [etv]
  unfold r1t
  split
  ·exact g1
  ·exact⟨fun _=>g1,fun hn=>absurd hVβ hn⟩
def uH (os:List Oper) (p:Nat):List Nat:=match os[p]? with
 | some o=>m6 o
 | none=>[]
def yV (os:List Oper):Nat->List Nat->List Nat->List Nat
 | 0,_,acc=>acc
 | f+1,work,acc=>match work with
  | [] =>acc
  | p ::r=>match E9 p acc with
   | true=>yV os f r acc
   | false=>yV os f (uH os p++r) (p ::acc)
theorem aX {os:List Oper} {L:Nat->Prop} (hL:∀ p,L p->∀ e∈uH os p,L e):∀ (f:Nat) (work acc:List Nat),(∀ p∈work,L p)->(∀ p∈acc,L p)->∀ p∈yV os f work acc,L p
 | 0,_,acc,_,ha=>by simpa only [yV] using ha
 | f+1,work,acc,hw,ha=>by
  unfold yV
  split
  ·exact ha
  ·rename_i p r
   split
   ·exact aX hL f r acc (fun q hq=>hw q (by simp [hq])) ha
   ·refine aX hL f _ _ (fun q hq=> ?_) (fun q hq=> ?_)
    ·rcases zzA91.1 hq with hq | hq
     ·exact hL p (hw p (by simp)) q hq
     ·exact hw q (by simp [hq])
    ·rcases zzA83.1 hq with rfl | hq
     ·exact hw q (by simp)
     ·exact ha q hq
def G4 (os:List Oper) (o:Oper):List Nat:=yV os 400 (m6 o) []
structure LaE where
 k:Nat
 lo:Nat
 hi:Nat
 h:Heap
def gX (f:Nat->Bool):List LaE->Heap->Heap
 | [],H0=>H0
 | ⟨k,_,_,h⟩ ::r,H0=>match f k with
  | true=>h++gX f r H0
  | false=>gX f r H0
def V2 (n0:Nat):Heap->Bool
 | [] =>true
 | (j,_) ::r=>zO1 j n0 && V2 n0 r
theorem gL {n0:Nat} :∀ {H:Heap},V2 n0 H=true->∀ {j:Nat} {o:AObj},H.get j=some o->j < n0
 | [],_,j,o,h=>by simp [Heap.get] at h
 | (k,ob) ::r,hk,j,o,h=>by
  simp only [V2,u6,C0] at hk
  rw [b6] at h
  split at h
  ·rename_i e; subst e; exact hk.1
  ·exact gL hk.2 h
def WF (n0:Nat):List LaE->Nat->Prop
 | [],b=>n0<=b
 | e ::r,b=>WF n0 r e.lo∧e.lo<=e.hi∧e.hi<=b∧∀ j o,e.h.get j=some o->e.lo<=j∧j < e.hi
theorem WF.le {n0:Nat} :∀ {la:List LaE} {b:Nat},WF n0 la b->n0<=b
 | [],_,h=>h
 | _ ::_,_,h=>u7 h.1.le (u7 h.2.1 h.2.2.1)
theorem WF.mono {n0:Nat} {la:List LaE} {b b':Nat} (h:WF n0 la b) (hb:b<=b'):WF n0 la b':=by
 cases la with
 | nil=>exact u7 h hb
 | cons e r=>exact⟨h.1,h.2.1,u7 h.2.2.1 hb,h.2.2.2⟩
theorem WF.span {n0:Nat} :∀ {la:List LaE} {b:Nat},WF n0 la b->∀ e∈la,n0<=e.lo∧e.lo<=e.hi∧e.hi<=b∧∀ j o,e.h.get j=some o->e.lo<=j∧j < e.hi
 | [],_,_,e,he=>by cases he
 | x ::r,b,h,e,he=>by
  rcases zzA83.1 he with rfl | he
  ·exact⟨h.1.le,h.2.1,h.2.2.1,h.2.2.2⟩
  ·obtain⟨h1,h2,h3,h4⟩:=h.1.span e he
   exact⟨h1,h2,u7 h3 (u7 h.2.1 h.2.2.1),h4⟩
theorem N3 {f:Nat->Bool} {H0:Heap} :∀ {la:List LaE} {j:Nat} {o:AObj},(gX f la H0).get j=some o->H0.get j=some o∨∃ e∈la,f e.k=true∧e.h.get j=some o
 | [],j,o,h=> .inl h
 | e ::r,j,o,h=>by
  unfold gX at h
  split at h
  ·rename_i hf
   rw [t8] at h
   split at h
   ·rename_i o2 ho2
    cases h
    exact .inr ⟨e,by simp,hf,ho2⟩
   ·rcases N3 h with h | ⟨e',he',h1,h2⟩
    ·exact .inl h
    ·exact .inr ⟨e',by simp [he'],h1,h2⟩
  ·rcases N3 h with h | ⟨e',he',h1,h2⟩
   ·exact .inl h
   ·exact .inr ⟨e',by simp [he'],h1,h2⟩
theorem gU {n0:Nat} {f:Nat->Bool} {H0:Heap} (hlow:V2 n0 H0=true):∀ {la:List LaE} {b:Nat} {j:Nat} {o:AObj},WF n0 la b->(H0.get j=some o∨∃ e∈la,f e.k=true∧e.h.get j=some o)->(gX f la H0).get j=some o
 | [],b,j,o,_,h=>by
  rcases h with h | ⟨e,he,_⟩
  ·exact h
  ·cases he
 | e ::r,b,j,o,hwf,h=>by
  have ih:(H0.get j=some o∨∃ e∈r,f e.k=true∧e.h.get j=some o)->(gX f r H0).get j=some o:=gU hlow hwf.1
  have far:(H0.get j=some o∨∃ e∈r,f e.k=true∧e.h.get j=some o)->e.h.get j=none:=by
   intro hh
   cases hq:e.h.get j with
   | none=>rfl
   | some o2=>
    have hr:=hwf.2.2.2 j o2 hq
    rcases hh with hh | ⟨e',he',_,h2⟩
    ·have:=gL hlow hh
     have:=hwf.1.le
     omega
    ·obtain⟨_,_,h3,h4⟩:=hwf.1.span e' he'
     have:=h4 j o h2
     omega
  unfold gX
  split
  ·rename_i hf
   rw [t8]
   rcases h with h | ⟨e',he',h1,h2⟩
   ·rw [far (.inl h)]; exact ih (.inl h)
   ·rcases zzA83.1 he' with rfl | he'
    ·rw [h2]
    ·rw [far (.inr ⟨e',he',h1,h2⟩)]; exact ih (.inr ⟨e',he',h1,h2⟩)
  ·rename_i hf
   rcases h with h | ⟨e',he',h1,h2⟩
   ·exact ih (.inl h)
   ·rcases zzA83.1 he' with rfl | he'
    ·have hf:f e'.k=false:=hf
     rw [hf] at h1; cases h1
    ·exact ih (.inr ⟨e',he',h1,h2⟩)
def z0l (f:Nat->Bool) (n0:Nat):List LaE->Nat->Bool
 | [],j=>zO1 j n0
 | e ::r,j=>(f e.k && Nat.ble e.lo j && zO1 j e.hi) || z0l f n0 r j
theorem kC {f:Nat->Bool} {n0:Nat} :∀ {la:List LaE} {j:Nat},z0l f n0 la j=true->j < n0∨∃ e∈la,f e.k=true∧e.lo<=j∧j < e.hi
 | [],j,h=> .inl (by simpa [z0l,Nat.blt_eq] using h)
 | e ::r,j,h=>by
  simp only [z0l,lC,u6,H7,C0] at h
  rcases h with h | h
  ·exact .inr ⟨e,by simp,h.1.1,h.1.2,h.2⟩
  ·rcases kC h with h | ⟨e',he',h'⟩
   ·exact .inl h
   ·exact .inr ⟨e',by simp [he'],h'⟩
def G9 (ws:List Nat):Heap->Heap
 | [] =>[]
 | (j,o) ::r=>match E9 j ws with
  | true=>G9 ws r
  | false=>(j,o) ::G9 ws r
theorem G6 {ws:List Nat} :∀ {H:Heap} {j:Nat} {o:AObj},(G9 ws H).get j=some o->H.get j=some o∧E9 j ws=false
 | [],j,o,h=>by simp [G9,Heap.get] at h
 | (k,q) ::r,j,o,h=>by
  unfold G9 at h
  split at h
  ·rename_i hk
   obtain⟨h1,h2⟩:=G6 h
   rw [b6]
   by_cases e:k=j
   ·subst e; rw [hk] at h2; cases h2
   ·rw [a8 e]; exact⟨h1,h2⟩
  ·rename_i hk
   rw [b6] at h ⊢
   split at h
   ·rename_i e; subst e; exact⟨by rw [i6 rfl]; exact h,hk⟩
   ·rename_i e
    obtain⟨h1,h2⟩:=G6 h
    exact⟨by rw [a8 e]; exact h1,h2⟩
theorem X8 {ws:List Nat} :∀ {H:Heap} {j:Nat} {o:AObj},H.get j=some o->E9 j ws=false->(G9 ws H).get j=some o
 | [],j,o,h,_=>by simp [Heap.get] at h
 | (k,q) ::r,j,o,h,hj=>by
  rw [b6] at h
  unfold G9
  split
  ·rename_i hk
   split at h
   ·rename_i e; subst e; rw [hk] at hj; cases hj
   ·exact X8 h hj
  ·rw [b6]
   split at h
   ·rename_i e; rw [i6 e]; exact h
   ·rename_i e; rw [a8 e]; exact X8 h hj
def N9 (H:Heap):List Nat->Heap
 | [] =>[]
 | j ::r=>match H.get j with
  | some o=>(j,o) ::N9 H r
  | none=>N9 H r
theorem R4 {H:Heap} :∀ {ws:List Nat} {j:Nat} {o:AObj},(N9 H ws).get j=some o->H.get j=some o∧E9 j ws=true
 | [],j,o,h=>by simp [N9,Heap.get] at h
 | i ::r,j,o,h=>by
  unfold N9 at h
  split at h
  ·rename_i q hq
   rw [b6] at h
   split at h
   ·rename_i e; subst e; cases h; exact⟨hq,memN_iff.2 (by simp)⟩
   ·obtain⟨h1,h2⟩:=R4 h
    exact⟨h1,memN_iff.2 (W2 _ (memN_iff.1 h2))⟩
  ·obtain⟨h1,h2⟩:=R4 h
   exact⟨h1,memN_iff.2 (W2 _ (memN_iff.1 h2))⟩
theorem g0j {H:Heap} {ws:List Nat} {j:Nat} (h:E9 j ws=false):(N9 H ws).get j=none:=by
 cases hq:(N9 H ws).get j with
 | none=>rfl
 | some o=>rw [(R4 hq).2] at h; cases h
structure Ef where
 e:Nat
 ws:List Nat
 hw:Heap
def yG (f:Nat->Bool):Option Ef->Heap->Heap
 | none,H=>H
 | some ⟨e,ws,hw⟩,H=>match f e with
  | true=>hw++G9 ws H
  | false=>H
def y1t:Option Ef->Heap->Heap
 | none,H=>H
 | some ⟨_,ws,_⟩,H=>G9 ws H
def s2z:Op->Bool
 | .store _ _ _=>true
 | .call c=>match c.callee with
  | .builtin b=>b1m b
  | _=>false
 | _=>false
def evE (X:Cx) (o:Oper) (tm:List TV) (H:Heap) (n:Nat):Option (Value×Heap×Nat×List Nat×List Prop):=
 match o.guard with
 | some _=>none
 | none=>match mO X.P o with
  | false=>none
  | true=>match o.op with
   | .store t x y=>match evo tm [] x,evo tm [] y with
    | some (.pointer (some ⟨id,off,sp⟩)),some v=>match aJ X.P H t (.pointer (some ⟨id,off,sp⟩)) v with
     | some H'=>some (undef,H',n,[id],[])
     | none=>none
    | _,_=>none
   | .call c=>match c.callee with
    | .builtin b=>match b1m b with
     | false=>none
     | true=>match cG (evo tm []) c.args.toList with
      | some args=>match T7 X.P X.auto c.argTypes.toList H n args with
       | some (v,H',l)=>some (v,H',n+2,n ::bL args,l)
       | none=>none
      | none=>none
    | _=>none
   | _=>none
theorem j0l {P:Program} {H H' H2:Heap} {t:TypeId} {v:Value} {id off:Nat} {sp:Option Nat} (h:aJ P H t (.pointer (some ⟨id,off,sp⟩)) v=some H') (hs:∀ i o,H.get i=some o->H2.get i=some o):
  ∃ H2',aJ P H2 t (.pointer (some ⟨id,off,sp⟩)) v=some H2'∧(∀ o,H'.get id=some o->H2'.get id=some o)∧(∀ i,i≠id->H2'.get i=H2.get i):=by
 unfold aJ at h ⊢
 split at h
 case h_2=>cases h
 rename_i heq
 cases heq
 split at h
 case h_1=>cases h
 rename_i i hi
 split at h
 case h_4=>cases h
 ·rename_i cs ty hget
  simp only [hs _ _ hget]
  split at h
  case h_2=>cases h
  rename_i hc
  cases h
  try simp only [hc]
  refine⟨_,rfl,fun o ho=> ?_,fun i hi=> ?_⟩
  ·rw [m0 _ _ _ _ hget,i6 rfl] at ho
   rw [m0 _ _ _ _ (hs _ _ hget),i6 rfl]; exact ho
  ·rw [m0 _ _ _ _ (hs _ _ hget),a8 (fun e=>hi e.symm)]
 ·rename_i hget
  simp only [hs _ _ hget]
  split at h
  case h_2=>cases h
  rename_i hc
  cases h
  try simp only [hc]
  refine⟨_,rfl,fun o ho=> ?_,fun i hi=> ?_⟩
  ·rw [m0 _ _ _ _ hget,i6 rfl] at ho
   rw [m0 _ _ _ _ (hs _ _ hget),i6 rfl]; exact ho
  ·rw [m0 _ _ _ _ (hs _ _ hget),a8 (fun e=>hi e.symm)]
 ·rename_i hget
  simp only [hs _ _ hget]
  split at h
  case h_2=>cases h
  split at h
  case h_2=>cases h
  rename_i hc
  cases h
  try simp only [hc]
  refine⟨_,rfl,fun o ho=> ?_,fun i hi=> ?_⟩
  ·rw [m0 _ _ _ _ hget,i6 rfl] at ho
   rw [m0 _ _ _ _ (hs _ _ hget),i6 rfl]; exact ho
  ·rw [m0 _ _ _ _ (hs _ _ hget),a8 (fun e=>hi e.symm)]
theorem h1u {X:Cx} {o:Oper} {tm:List TV} {H H' H2:Heap} {n n':Nat} {v:Value} {ws:List Nat} {l:List Prop} (h:evE X o tm H n=some (v,H',n',ws,l)) (hs:∀ i o,H.get i=some o->H2.get i=some o):
  ∃ H2',evE X o tm H2 n=some (v,H2',n',ws,l)∧(∀ i o,E9 i ws=true->H'.get i=some o->H2'.get i=some o)∧(∀ i,E9 i ws=false->H2'.get i=H2.get i):=by
 unfold evE at h ⊢
 split at h
 ·cases h
 split at h
 ·cases h
 split at h
 case h_3=>cases h
 ·split at h
  case h_2=>cases h
  split at h
  case h_2=>cases h
  rename_i hst
  cases h
  obtain⟨H2',g1,g2,g3⟩:=j0l hst hs
  simp only [g1]
  refine⟨_,rfl,fun i o hi=> ?_,fun i hi=>g3 i (fun e=> ?_)⟩
  ·have:=memN_iff.1 hi
   simp only [zzA133] at this
   subst this
   exact g2 o
  ·subst e; rw [memN_iff.2 (by simp)] at hi; cases hi
 ·split at h
  case h_2=>cases h
  split at h
  ·cases h
  split at h
  case h_2=>cases h
  split at h
  case h_2=>cases h
  rename_i hap
  cases h
  obtain⟨H2',g1,g2,g3⟩:=xU hap hs
  simp only [g1]
  refine⟨_,rfl,fun i o hi=>g2 i o ?_,fun i hi=>g3 i (fun e=> ?_) (fun e=> ?_)⟩
  ·have:=memN_iff.1 hi
   simpa using this
  ·rw [memN_iff.2 (by simp [e])] at hi; cases hi
  ·rw [memN_iff.2 (by simp [e])] at hi; cases hi
theorem r1f {X:Cx} {o:Oper} {tm:List TV} {H H':Heap} {n n':Nat} {v:Value} {ws:List Nat} {l:List Prop} (h:evE X o tm H n=some (v,H',n',ws,l)):o.guard=none∧(n'=n∨n'=n+2):=by
 unfold evE at h
 split at h
 ·cases h
 rename_i hg
 refine⟨hg,?_⟩
 split at h
 ·cases h
 split at h
 case h_3=>cases h
 ·split at h
  case h_2=>cases h
  split at h
  case h_2=>cases h
  cases h
  exact .inl rfl
 ·split at h
  case h_2=>cases h
  split at h
  ·cases h
  split at h
  case h_2=>cases h
  split at h
  case h_2=>cases h
  cases h
  exact .inr rfl
theorem j1y {X:Cx} {os:List Oper} {i:Nat} {o:Oper} (hi:os[i]? =some o) {tm:List TV} {H H':Heap} {n n':Nat} {v0:Value} {ws:List Nat} {l:List Prop} (h:evE X o tm H n=some (v0,H',n',ws,l)) (hl:d9 l)
  {B:Nat} {M:Nat->Prop} {F:Num->Prop} {ρ:Num} (hF:F ρ) {a:Act} {w:World} (hB:B<=w.heap.size) (hS:∀ ρ',F ρ'->Sim X.P B M ρ' H w) {β:Nat->Bool} (hT:∀ ρ',F ρ'->∀ t∈looks os o,D7 ρ' β (x4 tm t) (a.tmps.getD t undef))
  {rb:Option Nat} {K:Act->World->Prop} {Q:Exit->Act->World->Prop}
  (hK:∀ v w' (bn bk:Option Nat),(∀ ρ',F ρ'->(n'=n+2->ρ' n=bn∧ρ' (n+1)=bk)->v=rv ρ' v0∧Sim X.P B M ρ' H' w')->Keeps B M w w'->K (a.put o.dst v) w'):wpOpIn (Fl rb) 0 X.P ⟨os⟩ Q i K a w:=by
 have hoi:(⟨os⟩:Array Oper)[i]? =some o:=by simpa using hi
 unfold wpOpIn
 rw [hoi]
 simp only []
 unfold evE at h
 split at h
 ·cases h
 rename_i hg
 have hwt:Region.wanted o (yielded ⟨os⟩ a.tmps)=true:=by simp [Region.wanted,hg]
 rw [i6 hwt]
 split at h
 ·cases h
 rename_i hglob
 have hglob':∀ x∈o.op.operands.toList,∀ g,x= .global g->g < X.P.globals.size:=by
  intro x hx g e
  subst e
  have:=zzA10.1 hglob _ hx
  simpa [Nat.blt_eq] using this
 have hev:∀ ρ',F ρ'->∀ x∈o.op.operands.toList,∀ y,evo tm [] x=some y->a.eval x=rv ρ' y:=fun ρ' ha x hx y hy=>
  I3 (hS ρ' ha) (bE β) hy (fun t e=>hT ρ' ha t (P1 (e ▸ hx))) (hglob' x hx)
 split at h
 case h_3=>cases h
 ·rename_i t x y ho
  split at h
  case h_2=>cases h
  rename_i id off sp v hx hy
  split at h
  case h_2=>cases h
  rename_i hst
  cases h
  obtain⟨w',h1,h2,h3,_⟩:=aK (hS ρ hF) hst
  have e1:=hev ρ hF x (by simp [ho,zO5]) _ hx
  have e2:=hev ρ hF y (by simp [ho,zO5]) _ hy
  refine E7 (by rw [ho]; intro c hc; cases hc) ?_
  have hex:(execOp a.eval o).run X.P w= .ok .skip w':=by
   simp only [execOp,ho,o7]
   rw [e1,e2,h1]
   rfl
  rw [hex,Oper.uponIn_skip]
  refine hK _ w' none none (fun ρ' ha _=>⟨(T9 ρ').symm,?_⟩) h3
  obtain⟨w2,g1,g2,_⟩:=aK (hS ρ' ha) hst
  have f1:=hev ρ' ha x (by simp [ho,zO5]) _ hx
  have f2:=hev ρ' ha y (by simp [ho,zO5]) _ hy
  rw [<- f1,<- f2,e1,e2,h1] at g1
  cases g1
  exact g2
 ·rename_i c ho
  split at h
  case h_2=>cases h
  rename_i b hcal
  split at h
  ·cases h
  rename_i happ
  have happ:=zT happ
  subst happ
  split at h
  case h_2=>cases h
  rename_i args hargs
  split at h
  case h_2=>cases h
  rename_i v H1 l1 hv
  cases h
  have ham:∀ x∈c.args.toList,x∈o.op.operands.toList:=fun x hx=>by rw [ho]; simp [zO5,Call.operands,hcal]; simpa using hx
  have e2:∀ ρ',F ρ'->(c.args.map a.eval).toList=rvL ρ' args:=fun ρ' ha=>by
   have:=q9 (a:=a.eval) (ρ:=ρ') c.args.toList args (fun x hx y hy=>hev ρ' ha x (ham x hx) y hy) hargs
   simpa using this
  have e3:c.args.map a.eval=(rvL ρ args).toArray:=by apply cV; exact e2 ρ hF
  obtain⟨v',w',bn,bk,hrun,hk,hfin⟩:=cR hv hl hF hB hS (fun ρ' ha=>(e2 ρ' ha).symm.trans (e2 ρ hF)) o.type
  refine E7 (by rw [ho]; intro c hc; cases hc) ?_
  have hex:(execOp a.eval o).run X.P w= .ok (.value v') w':=by
   simp only [execOp,ho,resolve,hcal,e3,pure_bind,invoke,builtin]
   have:(c.argTypes.toList.toArray:Array TypeId)=c.argTypes:=by simp
   rw [this] at hrun
   simp [hrun]
  rw [hex,lG]
  exact hK v' w' bn bk (fun ρ' ha hn=>hfin ρ' ha (hn rfl).1 (hn rfl).2) hk
def aC:Op->Bool
 | .move _=>true
 | .assign _=>true
 | .build _ _=>true
 | .binOp _ _ _ y _=> !p2x y
 | .unOp _ _ _=>true
 | .makeInterface _ _=>true
 | .makeFunc _ _ _=>true
 | .field _ _ _=>true
 | .index _ _ _=>true
 | .extract _ _=>true
 | .pick _ _ _=>true
 | _=>false
def sD (os:List Oper) (o:Oper) (la:List LaE) (H:Heap):Heap:=match aC o.op with
 | true=>[]
 | false=>gX (fun k=>E9 k (G4 os o)) la H
theorem s0w {os:List Oper} {o:Oper} {la:List LaE} {H:Heap} {j:Nat} {ob:AObj} (h:(sD os o la H).get j=some ob):(gX (fun k=>E9 k (G4 os o)) la H).get j=some ob:=by
 unfold sD at h
 split at h
 ·simp [Heap.get] at h
 ·exact h
theorem e1r {os:List Oper} {o:Oper} {la:List LaE} {H:Heap} {j:Nat} {ob:AObj} (h:(sD os o la H).get j=some ob):H.get j=some ob∨∃ e∈la,E9 e.k (G4 os o)=true∧e.h.get j=some ob:=N3 (s0w h)
theorem c2h {os:List Oper} {o:Oper} {n0 n:Nat} {H:Heap} (hlow:V2 n0 H=true) {la la':List LaE} (hwf:WF n0 la' n) (hsub:∀ e∈la,e∈la') {j:Nat} {ob:AObj} (h:(sD os o la H).get j=some ob):(sD os o la' H).get j=some ob:=by
 unfold sD at h ⊢
 split at h
 ·simp [Heap.get] at h
 ·refine gU hlow hwf ?_
  rcases N3 h with h | ⟨e,he,hk,h⟩
  ·exact .inl h
  ·exact .inr ⟨e,hsub e he,hk,h⟩
def pG (H:Heap):List Nat->Bool
 | [] =>true
 | j ::r=>match H.get j with
  | some _=>false
  | none=>pG H r
theorem yN {H:Heap} :∀ {ws:List Nat} {j:Nat} {o:AObj},pG H ws=true->H.get j=some o->E9 j ws=false
 | [],j,o,_,_=>rfl
 | i ::r,j,o,h,hj=>by
  unfold pG at h
  split at h
  ·cases h
  ·rename_i hi
   have ih:=yN h hj
   cases hm:E9 j (i ::r) with
   | false=>rfl
   | true=>
    exfalso
    rcases zzA83.1 (memN_iff.1 hm) with e | e
    ·subst e; rw [hi] at hj; cases hj
    ·rw [memN_iff.2 e] at ih; cases ih
def e0i (os:List Oper) (re:List Nat) (la:List LaE) (H0:Heap) (ws:List Nat):Nat->Bool
 | 0=>true
 | k+1=>(E9 k re || (match h1h os k with
  | none=>true
  | some o=>pG (sD os o la H0) ws)) && e0i os re la H0 ws k
theorem nC {os:List Oper} {re:List Nat} {la:List LaE} {H0:Heap} {ws:List Nat} :∀ {i:Nat},e0i os re la H0 ws i=true->∀ k o,k < i->os[k]? =some o->E9 k re=true∨pG (sD os o la H0) ws=true
 | 0,_,k,o,hk,_=>by omega
 | i+1,h,k,o,hk,ho=>by
  simp only [e0i,U7,u6,lC] at h
  by_cases e:k=i
  ·subst e
   rw [ho] at h
   exact h.1
  ·exact nC h.2 k o (by omega) ho
def n1c (p:Nat->Bool):List Nat->Bool
 | [] =>true
 | j ::r=>p j && n1c p r
theorem yP {p:Nat->Bool} :∀ {l:List Nat},n1c p l=true->∀ j,E9 j l=true->p j=true
 | [],_,j,hj=>by simp [E9] at hj
 | i ::r,h,j,hj=>by
  simp only [n1c,u6] at h
  rcases zzA83.1 (memN_iff.1 hj) with e | e
  ·subst e; exact h.1
  ·exact yP h.2 j (memN_iff.2 e)
structure HSt where
 tm:List TV
 la:List LaE
 obs:List Prop
 kv:KV
 nid:Nat
 ef:Option Ef
def u1l (X:Cx) (c:Bool) (os:List Oper) (o:Oper) (n0 i:Nat) (H0:Heap) (ds:List Bool) (tm:List TV) (la:List LaE) (kv:KV) (nid:Nat) (ef:Option Ef):Option (List TV×KV×TV×List LaE×Nat×Option Ef×List Prop):=
 match eO o.op with
 | true=>match M9 X false os o tm [] nid ds kv with
  | none=>none
  | some (tm',kv',tv,⟨_,h,_,ob',_⟩)=>some (tm',kv',tv,⟨i,nid,nid+1,h⟩ ::la,nid+1,ef,ob')
 | false=>match M9 X true os o tm (y1t ef (sD os o la H0)) nid ds kv with
  | some (tm',kv',tv,⟨_,_,_,ob',_⟩)=>some (tm',kv',tv,la,nid,ef,ob')
  | none=>match c with
   | false=>none
   | true=>match s2z o.op with
    | false=>match v0l X os o tm (y1t ef (sD os o la H0)) (z0l (fun k=>E9 k (G4 os o)) n0 la) nid kv with
     | none=>none
     | some (tm',kv',tv,fr,n',ob')=>some (tm',kv',tv,⟨i,nid,n',fr⟩ ::la,n',ef,ob')
    | true=>match ef with
     | some _=>none
     | none=>match evE X o tm (sD os o la H0) nid with
      | none=>none
      | some (v,H',n',ws,ob')=>match n1c (m1d (z0l (fun k=>E9 k (G4 os o)) n0 la) nid n') ws && e0i os (G4 os o) la H0 ws i with
       | false=>none
       | true=>some (tm,kv, .v v,⟨i,nid,n',[]⟩ ::la,n',some ⟨i,ws,N9 H' ws⟩,ob')
section
variable {X:Cx} {c:Bool} {os:List Oper} {o:Oper} {n0 i:Nat} {H0:Heap} {ds:List Bool} {tm tm':List TV} {la la':List LaE} {kv kv':KV} {tv:TV} {nid nid':Nat} {ef ef':Option Ef} {ob':List Prop}
theorem H4 (h:u1l X c os o n0 i H0 ds tm la kv nid ef=some (tm',kv',tv,la',nid',ef',ob')):
  (∃ r,M9 X true os o tm (y1t ef (sD os o la H0)) nid ds kv=some (tm',kv',tv,r)∧r.obs=ob'∧eO o.op=false∧la'=la∧nid'=nid∧ef'=ef)∨
  (∃ r,M9 X false os o tm [] nid ds kv=some (tm',kv',tv,r)∧r.obs=ob'∧eO o.op=true∧la'=⟨i,nid,nid+1,r.h⟩ ::la∧nid'=nid+1∧ef'=ef)∨
  (c=true∧∃ fr,v0l X os o tm (y1t ef (sD os o la H0)) (z0l (fun k=>E9 k (G4 os o)) n0 la) nid kv=some (tm',kv',tv,fr,nid',ob')∧la'=⟨i,nid,nid',fr⟩ ::la∧ef'=ef)∨
  (c=true∧ef=none∧∃ v H' ws,evE X o tm (sD os o la H0) nid=some (v,H',nid',ws,ob')∧tm'=tm∧kv'=kv∧tv= .v v∧la'=⟨i,nid,nid',[]⟩ ::la∧ef'=some ⟨i,ws,N9 H' ws⟩∧
   (∀ j,E9 j ws=true->m1d (z0l (fun k=>E9 k (G4 os o)) n0 la) nid nid' j=true)∧(∀ k ok,k < i->os[k]? =some ok->E9 k (G4 os o)=true∨pG (sD os ok la H0) ws=true)):=by
 unfold u1l at h
 split at h
 ·rename_i hlay
  split at h
  ·cases h
  ·rename_i he
   cases h
   exact .inr (.inl ⟨_,he,rfl,hlay,rfl,rfl,rfl⟩)
 ·rename_i hlay
  split at h
  ·rename_i he
   cases h
   exact .inl ⟨_,he,rfl,hlay,rfl,rfl,rfl⟩
  ·split at h
   ·cases h
   ·split at h
    ·split at h
     ·cases h
     ·rename_i he
      cases h
      exact .inr (.inr (.inl ⟨rfl,_,he,rfl,rfl⟩))
    ·split at h
     ·cases h
     ·split at h
      ·cases h
      ·rename_i he
       split at h
       ·cases h
       ·rename_i hok
        simp only [u6] at hok
        cases h
        exact .inr (.inr (.inr ⟨rfl,rfl,_,_,_,he,rfl,rfl,rfl,rfl,rfl,yP hok.1,nC hok.2⟩))
theorem n0m (h:u1l X c os o n0 i H0 ds tm la kv nid ef=some (tm',kv',tv,la',nid',ef',ob'))
  (hk:∃ β,KVok kv β):(∃ β,KVok kv' β)∧(∀ β,KVok kv' β->KVok kv β)∧tm'.length=tm.length:=by
 rcases H4 h with ⟨r,he,_⟩ | ⟨r,he,_⟩ | ⟨_,fr,he,_⟩ | ⟨_,_,_,_,_,_,e1,e2,_⟩
 ·exact L6 he hk
 ·exact L6 he hk
 ·obtain⟨conds,v,obs0,hg,_⟩:=dZ he
  exact lH hg hk
 ·subst e1 e2
  exact⟨hk,fun _ h=>h,rfl⟩
theorem tN {q:Bool} {tmps tmps':List TV} {H:Heap} {n:Nat} {r:CR}
  (h:M9 X q os o tmps H n ds kv=some (tmps',kv',tv,r)) {ρ:Num} {β:Nat->Bool} (hk:KVok kv' β) (t:Nat) (x:Value):D7 ρ β (x4 tmps t) x↔D7 ρ β (x4 tmps' t) x:=by
 rw [A6] at h
 split at h
 ·cases h
 ·rename_i hg; cases h; exact M4 hg hk t x
 ·rename_i hg
  split at h
  ·cases h
  ·cases h; exact M4 hg hk t x
theorem f1z (h:u1l X c os o n0 i H0 ds tm la kv nid ef=some (tm',kv',tv,la',nid',ef',ob'))
  {ρ:Num} {β:Nat->Bool} (hk:KVok kv' β) (t:Nat) (x:Value):D7 ρ β (x4 tm t) x↔D7 ρ β (x4 tm' t) x:=by
 rcases H4 h with ⟨r,he,_⟩ | ⟨r,he,_⟩ | ⟨_,fr,he,_⟩ | ⟨_,_,_,_,_,_,e1,e2,_⟩
 ·exact tN he hk t x
 ·exact tN he hk t x
 ·obtain⟨conds,v,obs0,hg,_⟩:=dZ he
  exact M4 hg hk t x
 ·rw [e1]
theorem q0y (h:u1l X c os o n0 i H0 ds tm la kv nid ef=some (tm',kv',tv,la',nid',ef',ob')):
  nid<=nid'∧(la'=la∨∃ fr,la'=⟨i,nid,nid',fr⟩ ::la∧∀ j o,fr.get j=some o->nid<=j∧j < nid'):=by
 rcases H4 h with ⟨r,he,_,_,e1,e2,_⟩ | ⟨r,he,_,hl,e1,e2,_⟩ | ⟨_,fr,he,e1,_⟩ | ⟨_,_,_,_,_,he,_,_,_,e1,_⟩
 ·exact⟨by omega, .inl e1⟩
 ·refine⟨by omega, .inr ⟨r.h,by rw [e1,e2],fun j o hj=> ?_⟩⟩
  obtain⟨_,hsh,_⟩:=k0f hl he
  rcases hsh with e | ⟨ob,e⟩
  ·rw [e] at hj; simp [Heap.get] at hj
  ·rw [e,b6] at hj
   split at hj
   ·omega
   ·simp [Heap.get] at hj
 ·obtain⟨h1,h2⟩:=x0k he
  exact⟨h1, .inr ⟨fr,e1,h2⟩⟩
 ·obtain⟨_,h1⟩:=r1f he
  exact⟨by omega, .inr ⟨[],e1,fun j o hj=>by simp [Heap.get] at hj⟩⟩
theorem g1u (h:u1l X c os o n0 i H0 ds tm la kv nid ef=some (tm',kv',tv,la',nid',ef',ob')):ef'=ef∨(c=true∧ef=none∧∃ ws hw,ef'=some ⟨i,ws,hw⟩):=by
 rcases H4 h with ⟨r,_,_,_,_,_,e⟩ | ⟨r,_,_,_,_,_,e⟩ | ⟨_,fr,_,_,e⟩ | ⟨hc,e0,_,_,_,_,_,_,_,_,e,_⟩
 ·exact .inl e
 ·exact .inl e
 ·exact .inl e
 ·exact .inr ⟨hc,e0,_,_,e⟩
end
def aL (X:Cx) (c:Bool) (os:List Oper) (n0:Nat) (H0:Heap) (ds:List Bool) (tm0:List TV) (ob0:List Prop):Nat->Option HSt
 | 0=>some ⟨tm0,[],ob0,[],n0,none⟩
 | i+1=>match aL X c os n0 H0 ds tm0 ob0 i with
  | none=>none
  | some ⟨tm,la,ob,kv,nid,ef⟩=>match h1h os i with
   | none=>none
   | some o=>match u1l X c os o n0 i H0 ds tm la kv nid ef with
    | none=>none
    | some (tm',kv',tv,la',nid',ef',ob')=>some ⟨g0c tm' o.dst tv,la',ob'++ob,kv',nid',ef'⟩
section
variable {X:Cx} {c:Bool} {os:List Oper} {n0:Nat} {H0:Heap} {ds:List Bool} {tm0:List TV} {ob0:List Prop}
theorem B3 {i:Nat} {s':HSt} (h:aL X c os n0 H0 ds tm0 ob0 (i+1)=some s'):
  ∃ s o tm' tv ob',aL X c os n0 H0 ds tm0 ob0 i=some s∧os[i]? =some o∧u1l X c os o n0 i H0 ds s.tm s.la s.kv s.nid s.ef=some (tm',s'.kv,tv,s'.la,s'.nid,s'.ef,ob')∧s'.tm=g0c tm' o.dst tv∧s'.obs=ob'++s.obs:=by
 simp only [aL,U7] at h
 split at h
 ·cases h
 rename_i tm la ob kv nid ef hs
 split at h
 ·cases h
 rename_i o ho
 split at h
 ·cases h
 rename_i he
 cases h
 exact⟨_,o,_,_,_,hs,ho,he,rfl,rfl⟩
theorem tE:∀ {j i:Nat} {r:HSt},i<=j->aL X c os n0 H0 ds tm0 ob0 j=some r->∃ q,aL X c os n0 H0 ds tm0 ob0 i=some q
 | 0,i,r,hij,h=>by
  obtain rfl:i=0:=by omega
  exact⟨r,h⟩
 | j+1,i,r,hij,h=>by
  by_cases e:i=j+1
  ·subst e; exact⟨r,h⟩
  ·obtain⟨s,o,_,_,_,hs,_⟩:=B3 h
   exact tE (by omega) hs
theorem dK:∀ {j i:Nat} {si sj:HSt},i<=j->aL X c os n0 H0 ds tm0 ob0 i=some si->aL X c os n0 H0 ds tm0 ob0 j=some sj->d9 sj.obs->d9 si.obs
 | 0,i,si,sj,hij,h1,h2,hl=>by
  obtain rfl:i=0:=by omega
  rw [h1] at h2; cases h2; exact hl
 | j+1,i,si,sj,hij,h1,h2,hl=>by
  by_cases e:i=j+1
  ·subst e; rw [h1] at h2; cases h2; exact hl
  ·obtain⟨s,o,_,_,_,hs,_,_,_,ho⟩:=B3 h2
   rw [ho] at hl
   exact dK (by omega) h1 hs ((m3 _ _).1 hl).2
theorem y7:∀ {i:Nat} {s:HSt},aL X c os n0 H0 ds tm0 ob0 i=some s->(∃ β,KVok s.kv β)∧s.tm.length=tm0.length
 | 0,s,h=>by simp only [aL] at h; cases h; exact⟨⟨fun _=>false,fun p hp=>by cases hp⟩,rfl⟩
 | i+1,s,h=>by
  obtain⟨s1,o,_,_,_,hs,_,he,h1,_⟩:=B3 h
  obtain⟨e1,e2⟩:=y7 hs
  obtain⟨g1,_,g3⟩:=n0m he e1
  exact⟨g1,by rw [h1,R3]; omega⟩
theorem eD {β:Nat->Bool} :∀ {j i:Nat} {si sj:HSt},i<=j->aL X c os n0 H0 ds tm0 ob0 i=some si->aL X c os n0 H0 ds tm0 ob0 j=some sj->KVok sj.kv β->KVok si.kv β
 | 0,i,si,sj,hij,h1,h2,hk=>by
  obtain rfl:i=0:=by omega
  rw [h1] at h2; cases h2; exact hk
 | j+1,i,si,sj,hij,h1,h2,hk=>by
  by_cases e:i=j+1
  ·subst e; rw [h1] at h2; cases h2; exact hk
  ·obtain⟨s,o,_,_,_,hs,_,he,_⟩:=B3 h2
   exact eD (by omega) h1 hs ((n0m he (y7 hs).1).2.1 β hk)
theorem F3 {ρ:Num} {β:Nat->Bool} {t:Nat} {r:Value} :∀ {j i:Nat} {si sj:HSt},i<=j->aL X c os n0 H0 ds tm0 ob0 i=some si->aL X c os n0 H0 ds tm0 ob0 j=some sj->KVok sj.kv β->
  (∀ k o,i<=k->k < j->os[k]? =some o->o.dst≠some t)->(D7 ρ β (x4 si.tm t) r↔D7 ρ β (x4 sj.tm t) r)
 | 0,i,si,sj,hij,h1,h2,_,_=>by
  obtain rfl:i=0:=by omega
  rw [h1] at h2; cases h2; exact Q8
 | j+1,i,si,sj,hij,h1,h2,hk,hw=>by
  by_cases e:i=j+1
  ·subst e; rw [h1] at h2; cases h2; exact Q8
  ·obtain⟨s,o,tm',tv,ob',hs,hoj,he,e1,_⟩:=B3 h2
   have hkv:KVok s.kv β:=eD (by omega) hs h2 hk
   refine (F3 (by omega) h1 hs hkv (fun k o' hk1 hk2=>hw k o' hk1 (by omega))).trans ?_
   rw [e1,N1,a8 (fun hh=>hw j o (by omega) (by omega) hoj hh.1)]
   exact f1z he hk t r
theorem lJ:∀ {i:Nat} {s:HSt},aL X c os n0 H0 ds tm0 ob0 i=some s->WF n0 s.la s.nid∧∀ e∈s.la,e.k < i
 | 0,s,h=>by simp only [aL] at h; cases h; exact⟨d5 _,fun e he=>by cases he⟩
 | i+1,s,h=>by
  obtain⟨s1,o,_,_,_,hs,_,he,_⟩:=B3 h
  obtain⟨h1,h2⟩:=lJ hs
  obtain⟨g1,g2⟩:=q0y he
  rcases g2 with g2 | ⟨fr,g2,g3⟩
  ·rw [g2]
   exact⟨h1.mono g1,fun e he=>Nat.lt_succ_of_lt (h2 e he)⟩
  ·rw [g2]
   refine⟨⟨h1,g1,d5 _,g3⟩,fun e he=> ?_⟩
   rcases zzA83.1 he with rfl | he
   ·exact cP _
   ·exact Nat.lt_succ_of_lt (h2 e he)
theorem qL:∀ {j i:Nat} {si sj:HSt},i<=j->aL X c os n0 H0 ds tm0 ob0 i=some si->aL X c os n0 H0 ds tm0 ob0 j=some sj->si.nid<=sj.nid∧∃ ex,sj.la=ex++si.la∧∀ e∈ex,i<=e.k∧si.nid<=e.lo
 | 0,i,si,sj,hij,h1,h2=>by
  obtain rfl:i=0:=by omega
  rw [h1] at h2; cases h2
  exact⟨d5 _,[],rfl,fun e he=>by cases he⟩
 | j+1,i,si,sj,hij,h1,h2=>by
  by_cases e:i=j+1
  ·subst e; rw [h1] at h2; cases h2
   exact⟨d5 _,[],rfl,fun e he=>by cases he⟩
  ·obtain⟨s1,o,_,_,_,hs,_,he,_⟩:=B3 h2
   obtain⟨f1,ex,f2,f3⟩:=qL (by omega) h1 hs
   obtain⟨g1,g2⟩:=q0y he
   refine⟨u7 f1 g1,?_⟩
   rcases g2 with g2 | ⟨fr,g2,_⟩
   ·exact⟨ex,by rw [g2,f2],f3⟩
   ·refine⟨⟨j,s1.nid,sj.nid,fr⟩ ::ex,by rw [g2,f2]; rfl,fun e he=> ?_⟩
    rcases zzA83.1 he with rfl | he
    ·exact⟨by show i<=j; omega,f1⟩
    ·exact f3 e he
end
theorem uX {f g:Nat->Bool} {ef:Option Ef} (hf:∀ e ws hw,ef=some ⟨e,ws,hw⟩->f e=g e) {H H2:Heap} (hs:∀ j o,H.get j=some o->H2.get j=some o):∀ j o,(yG f ef H).get j=some o->(yG g ef H2).get j=some o:=by
 intro j o h
 cases ef with
 | none=>exact hs j o h
 | some q=>
  obtain⟨e,ws,hw⟩:=q
  have he:=hf e ws hw rfl
  simp only [yG,<- he] at h ⊢
  split at h
  ·rw [t8] at h ⊢
   split at h
   ·exact h
   ·obtain⟨h1,h2⟩:=G6 h
    exact X8 (hs j o h1) h2
  ·exact hs j o h
section
variable {X:Cx} {c:Bool} {os:List Oper} {n0:Nat} {H0:Heap} {ds:List Bool} {tm0:List TV} {ob0:List Prop}
theorem vU:∀ {j i:Nat} {si sj:HSt},i<=j->aL X c os n0 H0 ds tm0 ob0 i=some si->aL X c os n0 H0 ds tm0 ob0 j=some sj->sj.ef=si.ef∨si.ef=none
 | 0,i,si,sj,hij,h1,h2=>by
  obtain rfl:i=0:=by omega
  rw [h1] at h2; cases h2
  exact .inl rfl
 | j+1,i,si,sj,hij,h1,h2=>by
  by_cases e:i=j+1
  ·subst e; rw [h1] at h2; cases h2
   exact .inl rfl
  ·obtain⟨s1,o,_,_,_,hs,_,he,_⟩:=B3 h2
   have ih:=vU (by omega) h1 hs
   rcases g1u he with g | ⟨_,g,_⟩
   ·rw [g]; exact ih
   ·rcases ih with e' | e'
    ·exact .inr (e'.symm.trans g)
    ·exact .inr e'
theorem a0r:∀ {j:Nat} {sj:HSt},aL X false os n0 H0 ds tm0 ob0 j=some sj->sj.ef=none
 | 0,sj,h=>by simp only [aL] at h; cases h; rfl
 | j+1,sj,h=>by
  obtain⟨s1,o,_,_,_,hs,_,he,_⟩:=B3 h
  rcases g1u he with g | ⟨g,_⟩
  ·rw [g]; exact a0r hs
  ·cases g
theorem mS:∀ {m:Nat} {sm:HSt},aL X c os n0 H0 ds tm0 ob0 m=some sm->∀ {e:Nat} {ws:List Nat} {hw:Heap},sm.ef=some ⟨e,ws,hw⟩->
  ∃ se s1 oe H',e < m∧aL X c os n0 H0 ds tm0 ob0 e=some se∧aL X c os n0 H0 ds tm0 ob0 (e+1)=some s1∧os[e]? =some oe∧se.ef=none∧s1.ef=some ⟨e,ws,hw⟩∧s1.la=⟨e,se.nid,s1.nid,[]⟩ ::se.la∧hw=N9 H' ws∧
   (∀ j,E9 j ws=true->m1d (z0l (fun k=>E9 k (G4 os oe)) n0 se.la) se.nid s1.nid j=true)∧(∀ k ok,k < e->os[k]? =some ok->E9 k (G4 os oe)=true∨pG (sD os ok se.la H0) ws=true)
 | 0,sm,h,e,ws,hw,he=>by simp only [aL] at h; cases h; cases he
 | m+1,sm,h,e,ws,hw,he=>by
  obtain⟨s1,o,tm',tv,ob',hs,ho,hop,_⟩:=B3 h
  have old:sm.ef=s1.ef->_:=fun g=>mS hs (g ▸ he)
  have lift:sm.ef=s1.ef->∃ se s1 oe H',e < m+1∧aL X c os n0 H0 ds tm0 ob0 e=some se∧aL X c os n0 H0 ds tm0 ob0 (e+1)=some s1∧os[e]? =some oe∧se.ef=none∧s1.ef=some ⟨e,ws,hw⟩∧s1.la=⟨e,se.nid,s1.nid,[]⟩ ::se.la∧hw=N9 H' ws∧
   (∀ j,E9 j ws=true->m1d (z0l (fun k=>E9 k (G4 os oe)) n0 se.la) se.nid s1.nid j=true)∧(∀ k ok,k < e->os[k]? =some ok->E9 k (G4 os oe)=true∨pG (sD os ok se.la H0) ws=true):=fun g=>by
   obtain⟨se,s1',oe,H',g0,g1⟩:=old g
   exact⟨se,s1',oe,H',by omega,g1⟩
  rcases H4 hop with ⟨r,_,_,_,_,_,g⟩ | ⟨r,_,_,_,_,_,g⟩ | ⟨_,fr,_,_,g⟩ | ⟨_,g0,v,H',ws',hev,_,_,_,gla,gef,g1,g2⟩
  ·exact lift g
  ·exact lift g
  ·exact lift g
  ·rw [he] at gef
   cases gef
   exact⟨s1,sm,o,H',by omega,hs,h,ho,g0,he,gla,rfl,g1,g2⟩
end
def AgL (la:List LaE) (n0:Nat) (listed:Array Bool) (ρ ρ':Num):Prop:=∀ j,(j < n0∨∃ e∈la,Lst listed e.k∧e.lo<=j∧j < e.hi)->ρ' j=ρ j
def W9 (listed:Array Bool) (k:Nat):Bool:=listed.getD k false
structure HalfL (X:Cx) (J:Inv X.P) (B:Nat) (M:Nat->Prop) (w0:Bas) (os:List Oper) (m:Nat) (s0:St) (a0:Act) (ρ0:Num) (sm:HSt) (listed:Array Bool) (a:Act) (w:World):Prop where
 size:listed.size=os.length
 closed:∀ j o,os[j]? =some o->Lst listed j->∀ e∈m6 o,Lst listed e
 late:∀ t,m<=t->¬ Lst listed t
 asize:a.tmps.size=s0.tmps.length
 defers:a.defers=w0.dfs
 base:B<=w.heap.size
 inv:J.I w
 keeps:Keeps B M w0.w w
 old:∀ t,(∀ k o,k < m->Lst listed k->os[k]? =some o->o.dst≠some t)->a.tmps.getD t undef=a0.tmps.getD t undef
 rep:∃ ρ,Agree s0.nid ρ0 ρ∧∀ ρ',AgL sm.la s0.nid listed ρ ρ'->Sim X.P B M ρ' (yG (W9 listed) sm.ef (gX (W9 listed) sm.la s0.heap)) w∧
  ∀ k o d,k < m->Lst listed k->os[k]? =some o->o.dst=some d->∀ β,KVok sm.kv β->D7 ρ' β (x4 sm.tm d) (a.tmps.getD d undef)
def HSt.toSt (h:HSt) (s:St):St:=⟨h.tm,yG (fun _=>true) h.ef (gX (fun _=>true) h.la s.heap),h.nid,s.ds,h.obs,s.lp,s.rd,s.mks,s.bs⟩
theorem j0v {X:Cx} {J:Inv X.P} {c:Bool} {B:Nat} {M:Nat->Prop} {w0:Bas} {os:List Oper} {m:Nat} {s0:St} {a0:Act} {ρ:Num} {sm:HSt} (hm:aL X c os s0.nid s0.heap s0.ds s0.tmps s0.obs m=some sm) (hlow:V2 s0.nid s0.heap=true)
  (h0:∀ ρ',Agree s0.nid ρ ρ'->∀ β t,D7 ρ' β (x4 s0.tmps t) (a0.tmps.getD t undef)) {listed:Array Bool} {a:Act} {w:World}
  (h:HalfL X J B M w0 os m s0 a0 ρ sm listed a w) (hρ0:w0.n<=s0.nid∧Agree w0.n w0.ρ ρ) (hall:∀ k,k < m->Lst listed k):RepR X.P J B M w0 sm.kv (sm.toSt s0) a w:=by
 obtain⟨e4,e5⟩:=y7 hm
 obtain⟨hwf,hlt⟩:=lJ hm
 obtain⟨ρ1,hρ1,hrep⟩:=h.rep
 have hle:s0.nid<=sm.nid:=hwf.le
 refine⟨by show _=sm.tm.length; rw [e5]; exact h.asize,h.defers,h.base,h.inv,h.keeps,e4,ρ1,⟨by show _<=sm.nid; omega,hρ0.2.trans hρ1 hρ0.1⟩,fun ρ' ha=> ?_⟩
 have ha:Agree sm.nid ρ1 ρ':=ha
 have hL:AgL sm.la s0.nid listed ρ1 ρ':=fun j hj=>ha j (by
  rcases hj with hj | ⟨e,he,_,_,h2⟩
  ·omega
  ·have:=(hwf.span e he).2.2.1
   omega)
 obtain⟨hsim,hnew⟩:=hrep ρ' hL
 refine⟨hsim.less fun j o hj=> ?_,fun β hβ t=> ?_⟩
 ·refine uX (f:=fun _=>true) (fun e ws hw he=> ?_) (fun j o hj=> ?_) j o hj
  ·obtain⟨_,_,_,_,hem,_⟩:=mS hm he
   exact (hall e hem).symm
  refine gU hlow hwf ?_
  rcases N3 (f:=fun _=>true) (la:=sm.la) (H0:=s0.heap) hj with hj | ⟨e,he,_,hj⟩
  ·exact .inl hj
  ·exact .inr ⟨e,he,hall e.k (hlt e he),hj⟩
 ·by_cases hw:∃ k o,k < m∧os[k]? =some o∧o.dst=some t
  ·obtain⟨k,o,hk,ho,hdst⟩:=hw
   exact hnew k o t hk (hall k hk) ho hdst β hβ
  ·have hno:∀ k o,k < m->os[k]? =some o->o.dst≠some t:=fun k o hk ho e=>hw ⟨k,o,hk,ho,e⟩
   rw [h.old t (fun k o hk _ ho=>hno k o hk ho)]
   exact (F3 (o8 m) rfl hm hβ (fun k o _ hk ho=>hno k o hk ho)).1 (h0 ρ' (hρ1.trans (fun i hi=>ha i (by omega)) (d5 _)) β t)
theorem x0a {X:Cx} {J:Inv X.P} (hX:CxOk X J) {c:Bool} {B:Nat} {M:Nat->Prop} (hp:Par X.P B M) {w0:Bas} {os:List Oper} {m:Nat} (hd:Draws os m) {s0:St} {a0:Act} {ρ0:Num} {sm:HSt} (hm:aL X c os s0.nid s0.heap s0.ds s0.tmps s0.obs m=some sm) (hlow:V2 s0.nid s0.heap=true) (hl:d9 sm.obs)
  (h0:∀ ρ',Agree s0.nid ρ0 ρ'->∀ β t,D7 ρ' β (x4 s0.tmps t) (a0.tmps.getD t undef)) {listed:Array Bool} {a:Act} {w:World}
  (h:HalfL X J B M w0 os m s0 a0 ρ0 sm listed a w) {i:Nat} (him:i < m) (hr:i∈zO7 .any ⟨os⟩ listed) {rb:Option Nat} {K:Act->World->Prop} {Q:Exit->Act->World->Prop}
  (hK:∀ a' w',HalfL X J B M w0 os m s0 a0 ρ0 sm (listed.setIfInBounds i true) a' w'->K a' w'):wpOpIn (Fl rb) 0 X.P ⟨os⟩ Q i K a w:=by
 obtain⟨⟨hi,hnl⟩,o,ho,hpre⟩:=ready_iff.1 hr
 obtain⟨s1,hq1⟩:=tE (i:=i+1) (by omega) hm
 obtain⟨si,o',tmps',tv,ob',hsi,ho',he,e1,e3⟩:=B3 hq1
 rw [ho] at ho'
 cases ho'
 have hobs:=dK (by omega) hq1 hm hl
 rw [e3] at hobs
 obtain⟨_,elen⟩:=y7 hsi
 simp only [m3] at hobs
 have hsub:∀ β,KVok sm.kv β->KVok s1.kv β:=fun β hβ=>eD (by omega) hq1 hm hβ
 have hsubi:∀ β,KVok sm.kv β->KVok si.kv β:=fun β hβ=>eD (by omega) hsi hm hβ
 obtain⟨hwf,_⟩:=lJ hm
 obtain⟨hwfi,hlti⟩:=lJ hsi
 obtain⟨hwf1,_⟩:=lJ hq1
 obtain⟨hn1,hla1⟩:=q0y he
 obtain⟨_,ex,hex1,hex2⟩:=qL (by omega:i+1<=m) hq1 hm
 have hn0:s0.nid<=si.nid:=hwfi.le
 have hsi_sm:∀ e∈si.la,e∈sm.la:=fun e he'=>by
  rw [hex1]
  refine pJ _ ?_
  rcases hla1 with g | ⟨fr,g,_⟩
  ·rw [g]; exact he'
  ·rw [g]; exact W2 _ he'
 have entry:∀ e∈sm.la,(e∈si.la)∨(e.k=i∧e∈s1.la)∨(i < e.k∧s1.nid<=e.lo):=fun e he'=>by
  rw [hex1] at he'
  rcases zzA91.1 he' with he' | he'
  ·have:=hex2 e he'
   exact .inr (.inr ⟨by omega,this.2⟩)
  ·rcases hla1 with g | ⟨fr,g,_⟩
   ·rw [g] at he'; exact .inl he'
   ·have he2:=he'
    rw [g] at he'
    rcases zzA83.1 he' with e' | he'
    ·exact .inr (.inl ⟨by rw [e'],he2⟩)
    ·exact .inl he'
 have apart:∀ e∈sm.la,e.k≠i->∀ j,e.lo<=j->j < e.hi->¬ (si.nid<=j∧j < s1.nid):=fun e he' hne j h1 h2 h3=>by
  rcases entry e he' with h' | h' | h'
  ·have:=(hwfi.span e h').2.2.1
   omega
  ·exact hne h'.1
  ·omega
 obtain⟨ρ,hρ0,hrep⟩:=h.rep
 have hisz:i < listed.size:=hi
 have hback:∀ ρ1:Num,(∀ j,¬ (si.nid<=j∧j < s1.nid)->ρ1 j=ρ j)->∀ ρ',AgL sm.la s0.nid (listed.setIfInBounds i true) ρ1 ρ'->AgL sm.la s0.nid listed ρ ρ':=fun ρ1 hρ1 ρ' ha j hj=>by
  have h1:=ha j (by
   rcases hj with hj | ⟨e,he',hle,hjk⟩
   ·exact .inl hj
   ·exact .inr ⟨e,he',(p5 hisz).2 (.inr hle),hjk⟩)
  rw [h1]
  refine hρ1 j ?_
  rcases hj with hj | ⟨e,he',hle,h2,h3⟩
  ·omega
  ·exact apart e he' (fun e'=>hnl (by rw [<- e']; exact hle)) j h2 h3
 have hT:∀ ρ',AgL sm.la s0.nid listed ρ ρ'->∀ β,KVok sm.kv β->∀ t∈looks os o,D7 ρ' β (x4 si.tm t) (a.tmps.getD t undef):=by
  intro ρ' ha β hβ t ht
  obtain⟨_,hnw⟩:=hrep ρ' ha
  by_cases hw:∃ k ok,k < m∧Lst listed k∧os[k]? =some ok∧ok.dst=some t
  ·obtain⟨k,ok,hk,hlk,hok,hdk⟩:=hw
   have hki:k < i:=by
    rcases hd.slot i o him ho t ht k ok hk hok hdk with e | e | e
    ·subst e; exact absurd hlk hnl
    ·exact hd.fwd i o ho k e
    ·exact absurd (h.closed k ok hok hlk i e) hnl
   have:=hnw k ok t hk hlk hok hdk β hβ
   refine (F3 (by omega:i<=m) hsi hm hβ (fun k2 o2 hk1 hk2 ho2 hd2=> ?_)).2 this
   have:=hd.dup k k2 ok o2 t hk hk2 hok ho2 hdk hd2
   omega
  ·have hno:∀ k ok,k < m->Lst listed k->os[k]? =some ok->ok.dst≠some t:=fun k ok hk hlk hok e=>hw ⟨k,ok,hk,hlk,hok,e⟩
   rw [h.old t hno]
   refine (F3 (o8 i) rfl hsi (hsubi β hβ) (fun k ok _ hk hok hdk=> ?_)).1 (h0 ρ' (fun j hj=> ?_) β t)
   ·rcases hd.slot i o him ho t ht k ok (by omega) hok hdk with e | e | e
    ·omega
    ·exact hno k ok (by omega) (hpre k e) hok hdk
    ·have:=hd.fwd k ok hok i e
     omega
   ·rw [ha j (.inl hj)]; exact hρ0 j hj
 have hreach:∀ k,E9 k (G4 os o)=true->Lst listed k:=by
  intro k hk
  refine aX (L:=Lst listed) (fun p hp e he=> ?_) 400 (m6 o) [] hpre (fun p hp=>by cases hp) k (memN_iff.1 hk)
  unfold uH at he
  split at he
  ·rename_i op hop; exact h.closed p op hop hp e he
  ·cases he
 have hSeen:∀ k,W9 (listed.setIfInBounds i true) k=true↔k=i∨W9 listed k=true:=fun k=>p5 hisz
 have hsee:∀ j ob,(sD os o si.la s0.heap).get j=some ob->(gX (W9 listed) sm.la s0.heap).get j=some ob:=fun j ob hj=>by
  refine gU hlow hwf ?_
  rcases e1r hj with hj | ⟨e,he',hk,hj⟩
  ·exact .inl hj
  ·exact .inr ⟨e,hsi_sm e he',hreach e.k hk,hj⟩
 have fin:∀ (ρ1:Num),(∀ j,¬ (si.nid<=j∧j < s1.nid)->ρ1 j=ρ j)->∀ (Hr:Heap) (v:Value) (w':World),(∀ j ob,(yG (W9 (listed.setIfInBounds i true)) sm.ef (gX (W9 (listed.setIfInBounds i true)) sm.la s0.heap)).get j=some ob->Hr.get j=some ob)->
   (∀ ρ',AgL sm.la s0.nid (listed.setIfInBounds i true) ρ1 ρ'->Sim X.P B M ρ' Hr w'∧∀ β,KVok sm.kv β->D7 ρ' β tv v)->Keeps B M w w'->K (a.put o.dst v) w':=by
  intro ρ1 hρ1 Hr v w' hHr hfin hk
  have hag1:Agree s0.nid ρ0 ρ1:=fun j hj=>by rw [hρ1 j (by omega)]; exact hρ0 j hj
  refine hK _ _ ?_
  refine⟨by simpa using h.size,fun j oj hoj hlj e he'=> ?_,fun t ht hlt'=> ?_,by rw [S7]; exact h.asize,by rw [H3]; exact h.defers,u7 h.base hk.size,J.keeps hp hk h.inv,h.keeps.trans hk,
   fun t hno=> ?_,ρ1,hag1,fun ρ' ha'=>⟨(hfin ρ' ha').1.less hHr,fun k ok d hkm hlk hok hdk β hβ=> ?_⟩⟩
  ·rw [p5 hisz] at hlj ⊢
   rcases hlj with rfl | hlj
   ·rw [ho] at hoj; cases hoj
    exact .inr (hpre e he')
   ·exact .inr (h.closed j oj hoj hlj e he')
  ·rw [p5 hisz] at hlt'
   rcases hlt' with rfl | hlt'
   ·omega
   ·exact h.late t ht hlt'
  ·rw [H9,a8 (fun hh=>hno i o him ((p5 hisz).2 (.inl rfl)) ho hh.1)]
   exact h.old t (fun k ok hkm hlk hok=>hno k ok hkm ((p5 hisz).2 (.inr hlk)) hok)
  ·rw [H9]
   by_cases hki:k=i
   ·subst hki
    rw [ho] at hok
    cases hok
    by_cases hds:d < a.tmps.size
    ·rw [i6 ⟨hdk,hds⟩]
     have hslot:=F3 (X:=X) (os:=os) (ρ:=ρ') (β:=β) (t:=d) (r:=v) (by omega:k+1<=m) hq1 hm hβ (fun k2 o2 hk1 hk2 ho2 hd2=>by
      have:=hd.dup k k2 o o2 d hkm hk2 ho ho2 hdk hd2
      omega)
     rw [<- hslot,e1]
     obtain⟨_,_,hl'⟩:=n0m he (y7 hsi).1
     rw [N1,i6 ⟨hdk,by rw [hl',elen,<- h.asize]; exact hds⟩]
     exact (hfin ρ' ha').2 β hβ
    ·
     have hnone:x4 sm.tm d= .unk:=by
      simp only [E1]
      have e7:sm.tm.length=s0.tmps.length:=(y7 hm).2
      have e8:a.tmps.size=s0.tmps.length:=h.asize
      have e9:a.tmps.size<=d:=mW hds
      rw [j0a (by omega)]
     rw [hnone]
     trivial
   ·have hlk':Lst listed k:=by
     rcases (p5 hisz).1 hlk with e | e
     ·exact absurd e hki
     ·exact e
    have hne:o.dst≠some d:=fun e=>hki (hd.dup k i ok o d hkm him hok ho hdk e)
    rw [a8 (fun hh=>hne hh.1)]
    exact (hrep ρ' (hback ρ1 hρ1 ρ' ha')).2 k ok d hkm hlk' hok hdk β hβ
 have front:∀ (fr:Heap),s1.la=⟨i,si.nid,s1.nid,fr⟩ ::si.la->∀ j ob,(gX (W9 (listed.setIfInBounds i true)) sm.la s0.heap).get j=some ob->Heap.get (fr++gX (W9 listed) sm.la s0.heap) j=some ob:=by
  intro fr hfr j ob hj
  have hkeys:∀ j o,fr.get j=some o->si.nid<=j∧j < s1.nid:=by
   rw [hfr] at hwf1
   exact hwf1.2.2.2
  have far:(j < s0.nid∨∃ e∈sm.la,e.k≠i∧e.lo<=j∧j < e.hi)->fr.get j=none:=fun hj'=>by
   cases hq:fr.get j with
   | none=>rfl
   | some o2=>
    have:=hkeys j o2 hq
    rcases hj' with h' | ⟨e,he',hne,h2,h3⟩
    ·omega
    ·exact absurd this (apart e he' hne j h2 h3)
  rw [t8]
  rcases N3 hj with hj' | ⟨e,he',hk,hj'⟩
  ·rw [far (.inl (gL hlow hj'))]
   exact gU hlow hwf (.inl hj')
  ·by_cases hki:e.k=i
   ·have:e=⟨i,si.nid,s1.nid,fr⟩:=by
     rcases entry e he' with h' | h' | h'
     ·have:=hlti e h'; omega
     ·have h2:=h'.2
      rw [hfr] at h2
      rcases zzA83.1 h2 with h2 | h2
      ·exact h2
      ·have:=hlti e h2; omega
     ·omega
    rw [this] at hj'
    rw [hj']
   ·obtain⟨_,_,_,h4⟩:=hwf.span e he'
    have:=h4 j ob hj'
    rw [far (.inr ⟨e,he',hki,this.1,this.2⟩)]
    rcases (hSeen e.k).1 hk with h' | h'
    ·exact absurd h' hki
    ·exact gU hlow hwf (.inr ⟨e,he',h',hj'⟩)
 have calm:s1.la=si.la->∀ j ob,(gX (W9 (listed.setIfInBounds i true)) sm.la s0.heap).get j=some ob->(gX (W9 listed) sm.la s0.heap).get j=some ob:=by
  intro hno j ob hj
  refine gU hlow hwf ?_
  rcases N3 hj with hj' | ⟨e,he',hk,hj'⟩
  ·exact .inl hj'
  ·refine .inr ⟨e,he',?_,hj'⟩
   rcases (hSeen e.k).1 hk with h' | h'
   ·exfalso
    rcases entry e he' with g | g | g
    ·have:=hlti e g; omega
    ·have g2:=g.2
     rw [hno] at g2
     have:=hlti e g2; omega
    ·omega
   ·exact h'
 have wrote:∀ {e ws hw},sm.ef=some ⟨e,ws,hw⟩->s1.ef=si.ef->e≠i∧(∀ j o,E9 j ws=false->hw.get j=some o->False)∧(∀ j o,hw.get j=some o->E9 j ws=true)∧(e < i->si.ef=some ⟨e,ws,hw⟩)∧(i < e->si.ef=none)∧
   (W9 listed e=true->∀ j,E9 j ws=true->¬ (si.nid<=j∧j < s1.nid))∧(i < e->W9 listed e=true->∀ j ob,(sD os o si.la s0.heap).get j=some ob->E9 j ws=false):=by
  intro e ws hw hsm hns
  obtain⟨se,sx,oe,H',hem,hse,hsx,hoe,g1,g2,g3,g4,g5,g6⟩:=mS hm hsm
  have hei:e≠i:=fun e'=>by
   subst e'
   rw [hsi] at hse; cases hse
   rw [hq1] at hsx; cases hsx
   rw [hns,g1] at g2
   cases g2
  obtain⟨_,exx,hexx1,_⟩:=qL (by omega:e+1<=m) hsx hm
  have hse_sm:∀ e'∈se.la,e'∈sm.la:=fun e' he'=>by
   rw [hexx1,g3]
   exact pJ _ (W2 _ he')
  have hreachE:W9 listed e=true->∀ k,E9 k (G4 os oe)=true->Lst listed k:=by
   intro hle k hk
   refine aX (L:=Lst listed) (fun p hp e he=> ?_) 400 (m6 oe) [] (fun p hp=>h.closed e oe hoe hle p hp) (fun p hp=>by cases hp) k (memN_iff.1 hk)
   unfold uH at he
   split at he
   ·rename_i op hop; exact h.closed p op hop hp e he
   ·cases he
  refine⟨hei,fun j o hj hg=> ?_,fun j o hg=> ?_,fun hlt=> ?_,fun hlt=> ?_,fun hle j hj hcon=> ?_,fun hlt hle j ob hj=> ?_⟩
  ·rw [g4,g0j hj] at hg; cases hg
  ·rw [g4] at hg; exact (R4 hg).2
  ·rcases vU (by omega:e+1<=i) hsx hsi with e' | e'
   ·rw [e',g2]
   ·rw [g2] at e'; cases e'
  ·rcases vU (by omega:i<=e) hsi hse with e' | e'
   ·rw [<- e',g1]
   ·exact e'
  ·have:=g5 j hj
   simp only [m1d,lC,u6,H7,C0] at this
   rcases this with h' | h'
   ·rcases kC h' with h' | ⟨e',he',hk,h2,h3⟩
    ·omega
    ·exact apart e' (hse_sm e' he') (fun e''=>hnl (by rw [<- e'']; exact hreachE hle e'.k hk)) j h2 h3 hcon
   ·exact apart ⟨e,se.nid,sx.nid,[]⟩ (by rw [hexx1,g3]; simp) hei j h'.1 h'.2 hcon
  ·obtain⟨hwfs,_⟩:=lJ hse
   obtain⟨_,exy,hexy,_⟩:=qL (by omega:i<=e) hsi hse
   rcases g6 i o hlt ho with h' | h'
   ·exact absurd (hreachE hle i h') hnl
   ·exact yN h' (j:=j) (o:=ob) (c2h hlow hwfs (fun e' he'=>by rw [hexy]; exact pJ _ he') hj)
 have same:∀ {e},e≠i->W9 (listed.setIfInBounds i true) e=W9 listed e:=fun {e} hne=>by
  have h1:=hSeen e
  cases hs:W9 listed e with
  | true=>exact h1.2 (.inr hs)
  | false=>
   cases hs':W9 (listed.setIfInBounds i true) e with
   | false=>rfl
   | true=>
    rcases h1.1 hs' with h' | h'
    ·exact absurd h' hne
    ·rw [hs] at h'; cases h'
 have hseeE:s1.ef=si.ef->∀ j ob,(y1t si.ef (sD os o si.la s0.heap)).get j=some ob->(yG (W9 listed) sm.ef (gX (W9 listed) sm.la s0.heap)).get j=some ob:=by
  intro hns j ob hj
  cases hsm:sm.ef with
  | none=>
   have:si.ef=none:=by
    rcases vU (by omega:i<=m) hsi hm with e | e
    ·rw [<- e,hsm]
    ·exact e
   rw [this] at hj
   exact hsee j ob hj
  | some q=>
   obtain⟨e,ws,hw⟩:=q
   obtain⟨hei,w1,w2,w3,w4,w5,w6⟩:=wrote hsm hns
   have key:∀ j ob,(sD os o si.la s0.heap).get j=some ob->(W9 listed e=true->E9 j ws=false)->(yG (W9 listed) (some ⟨e,ws,hw⟩) (gX (W9 listed) sm.la s0.heap)).get j=some ob:=by
    intro j ob g1 g2
    simp only [yG]
    split
    ·rename_i hse
     rw [t8]
     split
     ·rename_i o2 ho2
      exact absurd ho2 (fun hh=>w1 j o2 (g2 hse) hh)
     ·exact X8 (hsee j ob g1) (g2 hse)
    ·exact hsee j ob g1
   rcases Nat.lt_or_gt_of_ne hei with hlt | hlt
   ·rw [w3 hlt] at hj
    obtain⟨g1,g2⟩:=G6 hj
    exact key j ob g1 (fun _=>g2)
   ·rw [w4 hlt] at hj
    exact key j ob hj (fun hse=>w6 hlt hse j ob hj)
 have frontE:∀ (fr:Heap),s1.la=⟨i,si.nid,s1.nid,fr⟩ ::si.la->s1.ef=si.ef->∀ j ob,(yG (W9 (listed.setIfInBounds i true)) sm.ef (gX (W9 (listed.setIfInBounds i true)) sm.la s0.heap)).get j=some ob->
   Heap.get (fr++yG (W9 listed) sm.ef (gX (W9 listed) sm.la s0.heap)) j=some ob:=by
  intro fr hfr hns j ob hj
  cases hsm:sm.ef with
  | none=>rw [hsm] at hj; exact front fr hfr j ob hj
  | some q=>
   obtain⟨e,ws,hw⟩:=q
   obtain⟨hei,w1,w2,w3,w4,w5,w6⟩:=wrote hsm hns
   rw [hsm] at hj
   simp only [yG,same hei] at hj ⊢
   split at hj
   ·rename_i hse
    rw [t8] at hj
    split at hj
    ·rename_i o2 ho2
     cases hj
     rw [t8,t8,ho2]
     cases hq:fr.get j with
     | none=>rfl
     | some o3=>
      exfalso
      have hkeys:∀ j o,fr.get j=some o->si.nid<=j∧j < s1.nid:=by
       rw [hfr] at hwf1
       exact hwf1.2.2.2
      exact w5 hse j (w2 j _ ho2) (hkeys j o3 hq)
    ·obtain⟨g1,g2⟩:=G6 hj
     have:=front fr hfr j ob g1
     rw [t8] at this ⊢
     split at this
     ·exact this
     ·rw [t8]
      split
      ·rename_i o2 ho2
       exact absurd ho2 (fun hh=>w1 j o2 g2 hh)
      ·exact X8 this g2
   ·exact front fr hfr j ob hj
 have calmE:s1.la=si.la->s1.ef=si.ef->∀ j ob,(yG (W9 (listed.setIfInBounds i true)) sm.ef (gX (W9 (listed.setIfInBounds i true)) sm.la s0.heap)).get j=some ob->(yG (W9 listed) sm.ef (gX (W9 listed) sm.la s0.heap)).get j=some ob:=by
  intro hno hns
  refine uX (fun e ws hw hsm=> ?_) (calm hno)
  exact same (wrote hsm hns).1
 rcases H4 he with ⟨r,hr1,hr2,_,hr4,hr5,hr6⟩ | ⟨r,hr1,hr2,hr3,hr4,hr5,hr6⟩ | ⟨_,fr,hr1,hr4,hr6⟩ | ⟨_,hr0,v0,H',ws,hr1,_,_,htv,hr4,hr6,_⟩
 ·have hrh:r.h=y1t si.ef (sD os o si.la s0.heap):=by
   rw [A6] at hr1
   split at hr1
   ·cases hr1
   ·cases hr1; rfl
   ·split at hr1
    ·cases hr1
    ·rename_i hb
     cases hr1
     rcases E2 hb with ⟨r0,hb1,er⟩ | ⟨hq0,_⟩
     ·subst er; exact (N4 hb1).1
     ·cases hq0
  rw [<- hr2] at hobs
  refine cO hX ho hr1 (.inl rfl) hobs.1 hp (F:=AgL sm.la s0.nid (listed.setIfInBounds i true) ρ) (ρ:=ρ) (fun _ _=>rfl) (Cβ:=KVok sm.kv) (y7 hm).1 hsub h.base h.inv (fun ρ' ha=>(hrep ρ' (hback ρ (fun _ _=>rfl) ρ' ha)).1.less (hseeE hr6)) (fun ρ' ha=>hT ρ' (hback ρ (fun _ _=>rfl) ρ' ha)) (fun h=>by cases h)
   (fun v w' hfin hk hbl=>fin ρ (fun _ _=>rfl) _ v w' (calmE hr4 hr6) (fun ρ' ha=>⟨((hrep ρ' (hback ρ (fun _ _=>rfl) ρ' ha)).1).below (hbl rfl),(hfin ρ' ha).2⟩) hk)
 ·rw [<- hr2] at hobs
  let ρ1:Num:=fun j=>if j=si.nid then some w.heap.size else ρ j
  have hρ1:∀ j,¬ (si.nid<=j∧j < s1.nid)->ρ1 j=ρ j:=fun j hj=>by
   show (if j=si.nid then _ else ρ j)=_
   rw [a8 (by omega)]
  have hnw1:∀ ρ',AgL sm.la s0.nid (listed.setIfInBounds i true) ρ1 ρ'->ρ' si.nid=some w.heap.size:=fun ρ' ha=>by
   rw [ha si.nid (.inr ⟨⟨i,si.nid,si.nid+1,r.h⟩,by rw [hex1,hr4]; simp,(p5 hisz).2 (.inl rfl),d5 _,cP _⟩)]
   show (if _=_ then _ else _)=_
   rw [i6 rfl]
  obtain⟨_,_,hall⟩:=k0f hr3 hr1
  have he':=hall (yG (W9 listed) sm.ef (gX (W9 listed) sm.la s0.heap))
  refine cO hX ho he' (.inr hr3) hobs.1 hp (F:=AgL sm.la s0.nid (listed.setIfInBounds i true) ρ1) (ρ:=ρ1) (fun _ _=>rfl) (Cβ:=KVok sm.kv) (y7 hm).1 hsub h.base h.inv (fun ρ' ha=>(hrep ρ' (hback ρ1 hρ1 ρ' ha)).1) (fun ρ' ha=>hT ρ' (hback ρ1 hρ1 ρ' ha)) (fun _=>hnw1)
   (fun v w' hfin hk _=>fin ρ1 hρ1 (r.h++yG (W9 listed) sm.ef (gX (W9 listed) sm.la s0.heap)) v w' (frontE r.h (by rw [hr4,hr5]) hr6) hfin hk)
 ·have hFp:∀ ρ',AgL sm.la s0.nid listed ρ ρ'->∀ j,z0l (fun k=>E9 k (G4 os o)) s0.nid si.la j=true->ρ' j=ρ j:=fun ρ' ha j hj=>by
   refine ha j ?_
   rcases kC hj with h' | ⟨e,he',hk,h2⟩
   ·exact .inl h'
   ·exact .inr ⟨e,hsi_sm e he',hreach e.k hk,h2⟩
  have hpn:∀ j,z0l (fun k=>E9 k (G4 os o)) s0.nid si.la j=true->j < si.nid:=fun j hj=>by
   rcases kC hj with h' | ⟨e,he',_,h2⟩
   ·omega
   ·have:=(hwfi.span e he').2.2.1
    omega
  refine q0t hX ho hr1 hobs.1 (F:=AgL sm.la s0.nid listed ρ) (ρ:=ρ) (fun _ _=>rfl) hFp hpn (Cβ:=KVok sm.kv) (y7 hm).1 hsub h.base h.inv (fun ρ' ha=>(hrep ρ' ha).1) (hseeE hr6) hT
   (fun v w' ρn hnn hfr hfin hk=> ?_)
  let ρ2:Num:=fun j=>if si.nid<=j∧j < s1.nid then ρn j else ρ j
  have hρ2:∀ j,¬ (si.nid<=j∧j < s1.nid)->ρ2 j=ρ j:=fun j hj=>a8 hj
  refine fin ρ2 hρ2 _ v w' (frontE fr hr4 hr6) (fun ρ' ha=>hfin ρ' (hback ρ2 hρ2 ρ' ha) (fun j h1 h2=> ?_)) hk
  rw [ha j (.inr ⟨⟨i,si.nid,s1.nid,fr⟩,by rw [hex1,hr4]; simp,(p5 hisz).2 (.inl rfl),h1,h2⟩)]
  exact i6 ⟨h1,h2⟩
 ·
  have hsm:sm.ef=some ⟨i,ws,N9 H' ws⟩:=by
   rcases vU (by omega:i+1<=m) hq1 hm with e | e
   ·rw [e,hr6]
   ·rw [hr6] at e; cases e
  have hcur:yG (W9 listed) sm.ef (gX (W9 listed) sm.la s0.heap)=gX (W9 listed) sm.la s0.heap:=by
   rw [hsm]
   simp only [yG]
   split
   ·rename_i hs; exact absurd hs hnl
   ·rfl
  obtain⟨H2,hr2,g2,g3⟩:=h1u hr1 hsee
  obtain⟨β0,hβ0⟩:=(y7 hm).1
  refine j1y ho hr2 hobs.1 (F:=AgL sm.la s0.nid listed ρ) (ρ:=ρ) (fun _ _=>rfl) h.base (fun ρ' ha=>hcur ▸ (hrep ρ' ha).1) (β:=β0) (fun ρ' ha=>hT ρ' ha β0 hβ0) (fun v w' bn bk hfin hk=> ?_)
  let ρ2:Num:=fun j=>if si.nid<=j∧j < s1.nid then (if j=si.nid then bn else bk) else ρ j
  have hρ2:∀ j,¬ (si.nid<=j∧j < s1.nid)->ρ2 j=ρ j:=fun j hj=>a8 hj
  have hin:∀ ρ',AgL sm.la s0.nid (listed.setIfInBounds i true) ρ2 ρ'->∀ j,si.nid<=j->j < s1.nid->ρ' j=if j=si.nid then bn else bk:=fun ρ' ha j h1 h2=>by
   rw [ha j (.inr ⟨⟨i,si.nid,s1.nid,[]⟩,by rw [hex1,hr4]; simp,(p5 hisz).2 (.inl rfl),h1,h2⟩)]
   exact i6 ⟨h1,h2⟩
  refine fin ρ2 hρ2 H2 v w' (fun j ob hj=> ?_) (fun ρ' ha=> ?_) hk
  ·rw [hsm] at hj
   simp only [yG] at hj
   rw [(hSeen i).2 (.inl rfl)] at hj
   simp only at hj
   rw [t8] at hj
   split at hj
   ·rename_i o2 ho2
    cases hj
    obtain⟨k1,k2⟩:=R4 ho2
    exact g2 j _ k2 k1
   ·obtain⟨k1,k2⟩:=G6 hj
    rw [g3 j k2]
    exact front [] hr4 j ob k1
  ·obtain⟨k1,k2⟩:=hfin ρ' (hback ρ2 hρ2 ρ' ha) (fun hn=>⟨by rw [hin ρ' ha si.nid (d5 _) (by omega),i6 rfl],by rw [hin ρ' ha (si.nid+1) (by omega) (by omega),a8 (by omega)]⟩)
   exact⟨k2,fun β _=>by rw [htv]; exact k1⟩
def evT (X:Cx) (os:List Oper) (m:Nat) (st:St×KV):Nat->Option (St×KV)
 | 0=>some st
 | k+1=>match evT X os m st k with
  | none=>none
  | some (s,kv)=>match h1h os (m+k) with
   | none=>none
   | some o=>O5 X false os o s kv
theorem dY {X:Cx} {os:List Oper} {m:Nat} {st:St×KV} {k:Nat} {s':St} {kv':KV} (h:evT X os m st (k+1)=some (s',kv')):
  ∃ s kv o,evT X os m st k=some (s,kv)∧os[m+k]? =some o∧O5 X false os o s kv=some (s',kv'):=by
 simp only [evT,U7] at h
 split at h
 ·cases h
 ·rename_i s kv hs
  split at h
  ·cases h
  ·rename_i o ho
   exact⟨s,kv,o,hs,ho,h⟩
theorem cS {X:Cx} {os:List Oper} {m:Nat} {st:St×KV} :∀ {j i:Nat} {si sj:St} {ki kj:KV},i<=j->evT X os m st i=some (si,ki)->evT X os m st j=some (sj,kj)->d9 sj.obs->d9 si.obs
 | 0,i,si,sj,ki,kj,hij,h1,h2,hl=>by
  obtain rfl:i=0:=by omega
  rw [h1] at h2; cases h2; exact hl
 | j+1,i,si,sj,ki,kj,hij,h1,h2,hl=>by
  by_cases e:i=j+1
  ·subst e; rw [h1] at h2; cases h2; exact hl
  ·obtain⟨s,kv,o,hs,_,ho⟩:=dY h2
   exact cS (by omega) h1 hs (mF ho hl)
theorem f0e {X:Cx} {os:List Oper} {m:Nat} {st:St×KV} :∀ {j i:Nat} {r:St×KV},i<=j->evT X os m st j=some r->∃ q,evT X os m st i=some q
 | 0,i,r,hij,h=>by
  obtain rfl:i=0:=by omega
  exact⟨r,h⟩
 | j+1,i,r,hij,h=>by
  by_cases e:i=j+1
  ·subst e; exact⟨r,h⟩
  ·obtain⟨s',kv'⟩:=r
   obtain⟨s,kv,o,hs,_,_⟩:=dY h
   exact f0e (by omega) hs
theorem sQ {X:Cx} {os:List Oper} {m:Nat} {st:St×KV} :∀ {i:Nat} {s:St} {kv:KV},evT X os m st i=some (s,kv)->s.rd=st.1.rd∧s.mks=st.1.mks∧s.bs=st.1.bs
 | 0,s,kv,h=>by simp only [evT] at h; cases h; exact⟨rfl,rfl,rfl⟩
 | i+1,s,kv,h=>by
  obtain⟨s1,k1,o,h1,_,h2⟩:=dY h
  obtain⟨e1,e2,e3⟩:=sQ h1
  rw [y6] at h2
  split at h2
  ·cases h2
  ·cases h2; exact⟨e1,e2,e3⟩
theorem rW {X:Cx} {J:Inv X.P} (hX:CxOk X J) {B:Nat} {M:Nat->Prop} (hp:Par X.P B M) {w0:Bas} {os:List Oper} {m:Nat} (hd:Draws os m) {st:St×KV} {sn:St} {kn:KV} (hn:evT X os m st (os.length-m)=some (sn,kn)) (hl:d9 sn.obs)
  {rb:Option Nat} {Q:Exit->Act->World->Prop} (hQ:∀ a w,RepR X.P J B M w0 kn sn a w->Q .normal a w):
  ∀ (fuel t:Nat) (listed:Array Bool) (s:St) (kv:KV) (a:Act) (w:World),m<=t->t<=os.length->os.length<=t+fuel->listed.size=os.length->(∀ j,j < os.length->(Lst listed j↔j < t))->
   evT X os m st (t-m)=some (s,kv)->RepR X.P J B M w0 kv s a w->wpAnyIn (Fl rb) 0 X.P .any ⟨os⟩ Q fuel listed a w:=by
 intro fuel
 induction fuel with
 | zero=>
  intro t listed s kv a w hmt htn hf hsz hL hs hR
  obtain rfl:t=os.length:=by omega
  rw [hs] at hn
  cases hn
  refine⟨?_,hQ a w hR⟩
  cases hr:zO7 .any ⟨os⟩ listed with
  | nil=>rfl
  | cons x xs=>
   have:x∈zO7 .any ⟨os⟩ listed:=by rw [hr]; simp
   obtain⟨⟨h1,h2⟩,_⟩:=ready_iff.1 this
   exact absurd ((hL x (by omega)).2 (by omega)) h2
 | succ fuel ih=>
  intro t listed s kv a w hmt htn hf hsz hL hs hR
  by_cases htl:t=os.length
  ·subst htl
   rw [hs] at hn
   cases hn
   refine⟨fun _=>hQ a w hR,fun i hi=> ?_⟩
   obtain⟨⟨h1,h2⟩,_⟩:=ready_iff.1 hi
   exact absurd ((hL i (by omega)).2 (by omega)) h2
  ·have htlt:t < os.length:=by omega
   obtain⟨ot,hot⟩:∃ o,os[t]? =some o:=⟨os[t],by simp [htlt]⟩
   refine⟨fun h0=> ?_,fun i hi=> ?_⟩
   ·exfalso
    have:t∈zO7 .any ⟨os⟩ listed:=ready_iff.2 ⟨⟨by omega,fun h=>by have:=(hL t htlt).1 h; omega⟩,ot,hot,fun e he=>by
     have:=hd.fwd t ot hot e he
     exact (hL e (by omega)).2 this⟩
    rw [h0] at this
    cases this
   ·obtain⟨⟨h1,h2⟩,o,ho,hpre⟩:=ready_iff.1 hi
    have hit:i=t:=by
     rcases iG i t with h | h | h
     ·exact absurd ((hL i (by omega)).2 h) h2
     ·exact h
     ·exfalso
      have:=hpre (i-1) (hd.chain i o (by omega) ho)
      have:=(hL (i-1) (by omega)).1 this
      omega
    subst hit
    obtain⟨⟨s1,k1⟩,hq1⟩:=f0e (i:=i-m+1) (by omega) hn
    obtain⟨s',kv',o',g1,g2,g3⟩:=dY hq1
    rw [hs] at g1
    cases g1
    rw [show m+(i-m)=i by omega] at g2
    exact T8 hX g2 g3 (cS (by omega) hq1 hn hl) hp hR (fun a' w' hR'=>ih (i+1) _ s1 k1 a' w' (by omega) (by omega) (by omega) (by simpa using hsz) (fun j hj=>by
     rw [p5 (by omega)]
     constructor
     ·rintro (rfl | h)
      ·omega
      ·have:=(hL j hj).1 h; omega
     ·intro h
      by_cases e:j=i
      ·exact .inl e
      ·exact .inr ((hL j hj).2 (by omega))) (by rw [show i+1-m=i-m+1 by omega]; exact hq1) hR')
theorem q0h {X:Cx} {J:Inv X.P} (hX:CxOk X J) {c:Bool} {B:Nat} {M:Nat->Prop} (hp:Par X.P B M) {w0:Bas} {os:List Oper} {m:Nat} (hd:Draws os m) {s0 sn:St} {kn:KV} {sm:HSt} (hlow:V2 s0.nid s0.heap=true)
  (hm:aL X c os s0.nid s0.heap s0.ds s0.tmps s0.obs m=some sm) (hn:evT X os m (sm.toSt s0,sm.kv) (os.length-m)=some (sn,kn)) (hl:d9 sn.obs)
  {a0:Act} {ρ:Num} (h0:∀ ρ',Agree s0.nid ρ ρ'->∀ β t,D7 ρ' β (x4 s0.tmps t) (a0.tmps.getD t undef)) (hρ0:w0.n<=s0.nid∧Agree w0.n w0.ρ ρ)
  {rb:Option Nat} {Q:Exit->Act->World->Prop} (hQ:∀ a w,RepR X.P J B M w0 kn sn a w->Q .normal a w):
  ∀ (fuel:Nat) (listed:Array Bool) (a:Act) (w:World),unl listed os.length<=fuel->HalfL X J B M w0 os m s0 a0 ρ sm listed a w->wpAnyIn (Fl rb) 0 X.P .any ⟨os⟩ Q fuel listed a w:=by
 have hlm:d9 sm.obs:=cS (X:=X) (os:=os) (m:=m) (o8 _) rfl hn hl
 have ht0:evT X os m (sm.toSt s0,sm.kv) (m-m)=some (sm.toSt s0,sm.kv):=by rw [sW]; rfl
 intro fuel
 induction fuel with
 | zero=>
  intro listed a w hf h
  have hall:∀ k,k < os.length->Lst listed k:=fun k hk=>qB (by omega) hk
  have hmn:m=os.length:=by
   rcases E0 m os.length with hlt | hge
   ·exact absurd (hall m hlt) (h.late m (d5 _))
   ·have:=hd.le; omega
  subst hmn
  exact rW hX hp hd hn hl hQ 0 os.length listed _ sm.kv a w (d5 _) (d5 _) (by omega) h.size (fun j hj=>⟨fun _=>hj,fun _=>hall j hj⟩) ht0 (j0v hm hlow h0 h hρ0 (fun k hk=>hall k hk))
 | succ fuel ih=>
  intro listed a w hf h
  by_cases hall:∀ k,k < m->Lst listed k
  ·refine rW hX hp hd hn hl hQ (fuel+1) m listed _ sm.kv a w (d5 _) hd.le ?_ h.size (fun j hj=>⟨fun hlj=> ?_,fun hj'=>hall j hj'⟩) ht0 (j0v hm hlow h0 h hρ0 hall)
   ·have hc:(List.range os.length).countP (fun i=> !Nat.blt i m)<=unl listed os.length:=by
     refine List.countP_mono_left (fun z _ hz=> ?_)
     simp only [q0i] at hz ⊢
     cases hzl:listed.getD z false
     ·rfl
     ·exfalso
      refine h.late z ?_ hzl
      rcases E0 z m with h' | h'
      ·rw [show zO1 z m=true by simp [Nat.blt_eq]; exact h'] at hz; cases hz
      ·exact h'
    have hc2:∀ n,(List.range n).countP (fun i=> !Nat.blt i m)=n-m:=by
     intro n
     induction n with
     | zero=>simp
     | succ n ihn=>
      rw [l0m,List.countP_append,ihn]
      simp only [List.countP_cons,List.countP_nil,aW,q0i]
      by_cases hnm:n < m
      ·rw [a8 (by rw [show zO1 n m=true by simp [Nat.blt_eq]; exact hnm]; simp)]; omega
      ·rw [i6 (by cases hb:zO1 n m; rfl; exact absurd (by simpa [Nat.blt_eq] using hb) hnm)]; omega
    rw [hc2] at hc
    omega
   ·rcases E0 j m with h' | h'
    ·exact h'
    ·exact absurd hlj (h.late j h')
  ·have hex:∃ k,k < m∧¬ Lst listed k:=by
    rcases Classical.em (∃ k,k < m∧¬ Lst listed k) with h' | h'
    ·exact h'
    ·exact absurd (fun k hk=>bP fun hn=>h' ⟨k,hk,hn⟩) hall
   refine⟨fun hr0=> ?_,fun i hi=> ?_⟩
   ·exfalso
    haveI:DecidablePred fun k=>¬ Lst listed k:=fun k=>Classical.propDecidable _
    obtain⟨k,hk,hnl,hmin⟩:=q0k m hex
    obtain⟨o,ho⟩:∃ o,os[k]? =some o:=⟨os[k]'(by have:=hd.le; omega),by have:=hd.le; simp [show k < os.length by omega]⟩
    have:k∈zO7 .any ⟨os⟩ listed:=ready_iff.2 ⟨⟨by rw [h.size]; have:=hd.le; omega,hnl⟩,o,ho,fun e he=>bP fun hn=>hmin e (hd.fwd k o ho e he) hn⟩
    rw [hr0] at this
    cases this
   ·obtain⟨⟨h1,h2⟩,o,ho,hpre⟩:=ready_iff.1 hi
    have hin:i < os.length:=by rw [<- h.size]; exact h1
    have him:i < m:=by
     rcases iG i m with h' | h' | h'
     ·exact h'
     ·subst h'
      obtain⟨k,hk,hnk⟩:=hex
      exact absurd (zO hd hin h.closed ho hpre (i-k) k (d5 _) hk) hnk
     ·exact absurd (hpre (i-1) (hd.chain i o h' ho)) (h.late (i-1) (by omega))
    refine x0a hX hp hd hm hlow hlm h0 h him hi (fun a' w' h'=>ih _ a' w' ?_ h')
    have:=c0s hin h.size h2
    omega
def g0i:Nat->List Oper->Bool
 | 0,_=>false
 | _,[] =>false
 | m+1,o ::r=>eO o.op || g0i m r
def a0h (X:Cx) (os:List Oper) (m:Nat) (s:St):Option St:=
 match s with
 | ⟨tm,hp,nid,ds,obs,lp,rd,mk,bs⟩=>match V2 nid hp with
  | false=>none
  | true=>match aL X true os nid hp ds tm obs m with
   | none=>none
   | some ⟨tm',la,ob,kv,nid',ef⟩=>match evT X os m (⟨tm',yG (fun _=>true) ef (gX (fun _=>true) la hp),nid',ds,ob,lp,rd,mk,bs⟩,kv) (os.length-m) with
    | none=>none
    | some (s',_)=>some s'
theorem tO {X:Cx} {os:List Oper} {m:Nat} {s s':St} (h:a0h X os m s=some s'):
  V2 s.nid s.heap=true∧∃ hm kn,aL X true os s.nid s.heap s.ds s.tmps s.obs m=some hm∧evT X os m (hm.toSt s,hm.kv) (os.length-m)=some (s',kn):=by
 unfold a0h at h
 dsimp only at h
 split at h
 ·cases h
 ·rename_i hlow
  split at h
  ·cases h
  ·rename_i he
   split at h
   ·cases h
   ·rename_i kn ht
    cases h
    exact⟨hlow,_,_,he,ht⟩
end
end Go.Proofs.YtbdaebagmmmijaaGreatDoor.Ev
