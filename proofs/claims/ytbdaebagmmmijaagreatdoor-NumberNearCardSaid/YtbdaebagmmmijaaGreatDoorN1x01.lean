/-
 NumberNear: a decimal that is read as a finite number lies nowhere beyond the middle between it and its neighbours; no condition (a part of the proof).
-/
import Derived.WalkKit
import Derived.WalkSpells
import Derived.WalkLawsBesides
import Derived.Lib.Hide
import Derived.Orders
import Derived.OrdersIn
import Derived.LoopNIn
import Derived.RangeFuncRecord
import Derived.RangeFuncCalls
import Derived.Shelf.Abstract
import Derived.Laws.MakeOwn
import Derived.Lib.Builder
import Derived.Laws.FloatArith
import Derived.Laws.AppendOwn
import Derived.Deep.AppendSrc
open Nat renaming beq->zO0,blt->zO1
open Int renaming ofNat->zO2
open Go.Value renaming int->zO3,float->zO4
open Go.Op renaming operands->zO5
open Go.IntKind renaming i64->iI,u64->uI,u8->uB
noncomputable section
namespace Go.Proofs
theorem G7:type_of%@congrArg:=@congrArg
theorem zzA1:type_of%@List.getElem?_eq_some_iff:=@List.getElem?_eq_some_iff
theorem i6:type_of%@if_pos:=@if_pos
theorem l1n:type_of%@Nat.add_comm:=@Nat.add_comm
theorem p0e:type_of%@Nat.div_eq_of_lt:=@Nat.div_eq_of_lt
theorem aW:type_of%@Nat.zero_add:=@Nat.zero_add
theorem J5:type_of%@Nat.mod_eq_of_lt:=@Nat.mod_eq_of_lt
theorem u6:type_of%@Bool.and_eq_true:=@Bool.and_eq_true
theorem q0i:type_of%@Bool.not_eq_true':=@Bool.not_eq_true'
theorem c2i:type_of%@Bool.true_and:=@Bool.true_and
theorem zzA10:type_of%@List.all_eq_true:=@List.all_eq_true
theorem N8:type_of%@Nat.eq_of_beq_eq_true:=@Nat.eq_of_beq_eq_true
theorem a8:type_of%@if_neg:=@if_neg
theorem c0g:type_of%@Nat.beq_refl:=@Nat.beq_refl
theorem zzA14:type_of%@Array.getElem?_eq_some_iff:=@Array.getElem?_eq_some_iff
theorem d5:type_of%@Nat.le_refl:=@Nat.le_refl
theorem u7:type_of%@Nat.le_trans:=@Nat.le_trans
theorem O9:type_of%@Go.RowKit.Below.refl:=@Go.RowKit.Below.refl
theorem m0r:type_of%@Nat.lt_irrefl:=@Nat.lt_irrefl
theorem K8:type_of%@Go.run_underlying:=@Go.run_underlying
theorem mJ:type_of%@List.length_nil:=@List.length_nil
theorem I2:type_of%@Nat.add_zero:=@Nat.add_zero
theorem i0y:type_of%@decide_eq_false_iff_not:=@decide_eq_false_iff_not
theorem o7:type_of%@Go.Sem.run_bind:=@Go.Sem.run_bind
theorem p7:type_of%@Go.Result.andThen_ok:=@Go.Result.andThen_ok
theorem p1c:type_of%@Nat.add_assoc:=@Nat.add_assoc
theorem eJ:type_of%@Nat.div_add_mod:=@Nat.div_add_mod
theorem p4:type_of%@Nat.mul_comm:=@Nat.mul_comm
theorem z0c:type_of%@Nat.mul_div_cancel:=@Nat.mul_div_cancel
theorem m0x:type_of%@List.drop_eq_getElem_cons:=@List.drop_eq_getElem_cons
theorem fW:type_of%@Go.cell_of_row:=@Go.cell_of_row
theorem N6:type_of%@List.getElem?_map:=@List.getElem?_map
theorem R9:type_of%@List.getElem?_take:=@List.getElem?_take
theorem A4:type_of%@Option.map_some:=@Option.map_some
theorem fX:type_of%@Nat.le_of_ble_eq_true:=@Nat.le_of_ble_eq_true
theorem i0t:type_of%@Go.run_loadCells_list:=@Go.run_loadCells_list
theorem Q6:type_of%@List.getElem?_drop:=@List.getElem?_drop
theorem C6:type_of%@if_true:=@if_true
theorem eK:type_of%@List.map_take:=@List.map_take
theorem eI:type_of%@List.map_drop:=@List.map_drop
theorem C0:type_of%@Nat.blt_eq:=@Nat.blt_eq
theorem zzA41:type_of%@List.mem_map:=@List.mem_map
theorem M7:type_of%@Bool.false_eq_true:=@Bool.false_eq_true
theorem C5:type_of%@if_false:=@if_false
theorem H7:type_of%@Nat.ble_eq:=@Nat.ble_eq
theorem y4:type_of%@Nat.beq_eq:=@Nat.beq_eq
theorem xE:type_of%@Array.toList_map:=@Array.toList_map
theorem w0k:type_of%@List.size_toArray:=@List.size_toArray
theorem F6:type_of%@List.length_append:=@List.length_append
theorem D5:type_of%@List.length_take:=@List.length_take
theorem K3:type_of%@List.length_drop:=@List.length_drop
theorem bA:type_of%@Array.length_toList:=@Array.length_toList
theorem D4:type_of%@Nat.min_eq_left:=@Nat.min_eq_left
theorem pR:type_of%@Go.setRow_other:=@Go.setRow_other
theorem bK:type_of%@List.map_append:=@List.map_append
theorem c1j:type_of%@List.ext_getElem?:=@List.ext_getElem?
theorem V9:type_of%@decide_eq_true_eq:=@decide_eq_true_eq
theorem y0w:type_of%@List.length_singleton:=@List.length_singleton
theorem z6:type_of%@List.length_map:=@List.length_map
theorem mE:type_of%@List.getD_eq_getElem?_getD:=@List.getD_eq_getElem?_getD
theorem q0r:type_of%@List.getElem?_eq_getElem:=@List.getElem?_eq_getElem
theorem G1:type_of%@of_decide_eq_true:=@of_decide_eq_true
theorem G3:type_of%@Option.some.injEq:=@Option.some.injEq
theorem h0i:type_of%@Go.heap_alloc_new:=@Go.heap_alloc_new
theorem p0m:type_of%@List.foldl_cons:=@List.foldl_cons
theorem j0y:type_of%@List.map_cons:=@List.map_cons
theorem lC:type_of%@Bool.or_eq_true:=@Bool.or_eq_true
theorem J4:type_of%@Go.Sem.run_pure:=@Go.Sem.run_pure
theorem y0i:type_of%@List.getElem?_append_left:=@List.getElem?_append_left
theorem x0b:type_of%@List.getElem?_append_right:=@List.getElem?_append_right
theorem x6:type_of%@Nat.add_mul:=@Nat.add_mul
theorem C7:type_of%@Nat.mod_lt:=@Nat.mod_lt
theorem lS:type_of%@List.getElem?_toArray:=@List.getElem?_toArray
theorem j0a:type_of%@List.getElem?_eq_none:=@List.getElem?_eq_none
theorem K6:type_of%@Nat.zero_mul:=@Nat.zero_mul
theorem R2:type_of%@Nat.eq_zero_or_pos:=@Nat.eq_zero_or_pos
theorem cV:type_of%@Array.ext':=@Array.ext'
theorem d0u:type_of%@Option.map_none:=@Option.map_none
theorem l1e:type_of%@Option.isSome_none:=@Option.isSome_none
theorem y3:type_of%@List.take_length:=@List.take_length
theorem sU:type_of%@List.drop_zero:=@List.drop_zero
theorem kG:type_of%@List.mem_cons_self:=@List.mem_cons_self
theorem W2:type_of%@List.mem_cons_of_mem:=@List.mem_cons_of_mem
theorem zzA83:type_of%@List.mem_cons:=@List.mem_cons
theorem B9:type_of%@Nat.lt_of_lt_of_le:=@Nat.lt_of_lt_of_le
theorem lG:type_of%@Go.Oper.uponIn_value:=@Go.Oper.uponIn_value
theorem S5:type_of%@List.not_mem_nil:=@List.not_mem_nil
theorem S0:type_of%@or_false:=@or_false
theorem rK:type_of%@Nat.one_mul:=@Nat.one_mul
theorem E0:type_of%@Nat.lt_or_ge:=@Nat.lt_or_ge
theorem wD:type_of%@Nat.mul_zero:=@Nat.mul_zero
theorem zzA91:type_of%@List.mem_append:=@List.mem_append
theorem w0z:type_of%@Nat.mul_le_mul:=@Nat.mul_le_mul
theorem sX:type_of%@Nat.le_of_mul_le_mul_right:=@Nat.le_of_mul_le_mul_right
theorem W4:type_of%@Option.getD_some:=@Option.getD_some
theorem y0d:type_of%@Nat.sub_zero:=@Nat.sub_zero
theorem uV:type_of%@Int.le_refl:=@Int.le_refl
theorem zzA97:type_of%@Nat.mul_eq_zero:=@Nat.mul_eq_zero
theorem l4:type_of%@Int.toNat_natCast:=@Int.toNat_natCast
theorem sW:type_of%@Nat.sub_self:=@Nat.sub_self
theorem y8:type_of%@Nat.mul_one:=@Nat.mul_one
theorem J7:type_of%@List.cons.injEq:=@List.cons.injEq
theorem b0d:type_of%@Go.World.putObj_heap_other:=@Go.World.putObj_heap_other
theorem u0h:type_of%@Array.toList_append:=@Array.toList_append
theorem oU:type_of%@List.mem_append_left:=@List.mem_append_left
theorem pJ:type_of%@List.mem_append_right:=@List.mem_append_right
theorem zU:type_of%@List.map_map:=@List.map_map
theorem yB:type_of%@Go.run_firstCells_some:=@Go.run_firstCells_some
theorem j0o:type_of%@Go.run_firstCells_none:=@Go.run_firstCells_none
theorem pA:type_of%@List.take_left:=@List.take_left
theorem F1:type_of%@and_true:=@and_true
theorem s5:type_of%@Nat.mul_le_mul_right:=@Nat.mul_le_mul_right
theorem nH:type_of%@List.nil_append:=@List.nil_append
theorem t0f:type_of%@Nat.ble_eq_true_of_le:=@Nat.ble_eq_true_of_le
theorem a7:True:=⟨⟩
end Go.Proofs
namespace Go.Proofs.YtbdaebagmmmijaaGreatDoor.Ev
open Go Go.RowKit
noncomputable section
def h1h {α:Type} (l:List α):Nat->Option α:=
 List.rec (motive:=fun _=>Nat->Option α) (fun _=>none) (fun x _ ih n=>Nat.rec (motive:=fun _=>Option α) (some x) (fun m _=>ih m) n) l
theorem U7 {α:Type} (l:List α):∀ n,h1h l n=l[n]? :=by
 induction l with
 | nil=>intro n; rfl
 | cons x l ih=>
  intro n
  cases n with
  | zero=>rfl
  | succ n=>exact ih n
def gR {α:Type} (l:List α):Nat->α->List α:=
 List.rec (motive:=fun _=>Nat->α->List α) (fun _ _=>[]) (fun x r ih n y=>Nat.rec (motive:=fun _=>List α) (y ::r) (fun m _=>x ::ih m y) n) l
theorem A7 {α:Type} (l:List α):∀ n x,gR l n x=l.set n x:=by
 induction l with
 | nil=>intro n x; rfl
 | cons y l ih=>
  intro n x
  cases n with
  | zero=>rfl
  | succ n=>exact G7 (y :: ·) (ih n x)
def eQ (P:Program) (t:TypeId):Option TypeInfo:=match h1h P.types.toList t with
 | some i=>some i
 | none=>P.info? t
theorem v8 (P:Program) (t:TypeId):eQ P t=P.info? t:=by
 unfold eQ
 rw [U7]
 split
 ·rename_i i h
  have hlt:t < P.types.size:=by
   have:=(zzA1.1 h).1
   simpa using this
  have h2:P.types[t]? =some i:=by simpa using h
  show some i=Tables.info? _ t
  unfold Tables.info?
  rw [i6 hlt]
  exact h2.symm
 ·rfl
def R7 (P:Program) (t:TypeId):Option TypeDesc:=
 match eQ P t with
 | some { desc:= .named _ u, .. } =>match eQ P u with
  | some i=>some i.desc
  | none=>none
 | some i=>some i.desc
 | none=>none
theorem u9 (P:Program) (t:TypeId):R7 P t=P.underlying t:=by
 unfold R7 Program.underlying
 simp only [v8]
 cases P.info? t with
 | none=>rfl
 | some i=>
  obtain⟨d,_⟩:=i
  cases d <;> first | rfl | (rename_i a u; dsimp only; cases P.info? u <;> rfl)
abbrev Num:=Nat->Option Nat
def p6 (ρ:Num) (a:Addr):Option Addr:=(ρ a.block).map fun b=>{ a with block:=b }
def rFn (ρ:Num):Fn->Fn
 | .yield l=> .yield ((ρ l).getD 0)
 | f=>f
def e0z:Fn->Bool
 | .yield _=>true
 | _=>false
theorem l0d (ρ:Num) (f:Fn) (h:e0z f=false):rFn ρ f=f:=by
 cases f <;> first | rfl | (simp [e0z] at h)
def rSl (ρ:Num) (a:Addr) (n c:Nat):Value:=
 match a with
 | ⟨j,off,none⟩=> .slice (p6 ρ ⟨j,off,none⟩) n c
 | ⟨j,off,some k⟩=>match ρ j with
  | none=> .slice none n 0
  | some b=> .slice (some ⟨b,off,none⟩) n ((ρ k).getD 0-c)
def t1y (b k:Option Nat) (c l s:Nat):Value:=match b with
 | none=> .slice none 0 0
 | some b=> .slice (some ⟨b,if k.getD 0-c=l then c*s else c*s+l*s,none⟩) 0 (k.getD 0-c-l)
def d2w (ρ:Num) (m:Nat):Value:=t1y (ρ (m/18446744073709551616/18446744073709551616/18446744073709551616/18446744073709551616)) (ρ (m/18446744073709551616/18446744073709551616/18446744073709551616%18446744073709551616)) (m/18446744073709551616/18446744073709551616%18446744073709551616) (m/18446744073709551616%18446744073709551616) (m%18446744073709551616)
def o2h (j k c l s:Nat):Nat:=(((j*18446744073709551616+k)*18446744073709551616+c)*18446744073709551616+l)*18446744073709551616+s
theorem C9 {a b w:Nat} (h:b < w):(a*w+b)/w=a∧(a*w+b)%w=b:=by
 have hw:0 < w:=by omega
 constructor
 ·rw [l1n,Nat.add_mul_div_right _ _ hw,p0e h,aW]
 ·rw [l1n,Nat.add_mul_mod_self_right,J5 h]
theorem p1s (ρ:Num) {j k c l s:Nat} (hk:k < 18446744073709551616) (hc:c < 18446744073709551616) (hl:l < 18446744073709551616) (hs:s < 18446744073709551616):d2w ρ (o2h j k c l s)=t1y (ρ j) (ρ k) c l s:=by
 unfold d2w o2h
 rw [(C9 hs).1,(C9 hs).2,(C9 hl).1,(C9 hl).2,(C9 hc).1,(C9 hc).2,(C9 hk).1,(C9 hk).2]
theorem lL (ρ:Num) (m:Nat):∃ a n,d2w ρ m= .slice a 0 n:=by
 unfold d2w t1y
 split
 ·exact⟨_,_,rfl⟩
 ·exact⟨_,_,rfl⟩
def d2m (ρ:Num) (a c:Nat):Value:=t1y (ρ (a/18446744073709551616)) (ρ (a%18446744073709551616)) c 1 1
theorem lY (ρ:Num) (a c:Nat):∃ x n,d2m ρ a c= .slice x 0 n:=by
 unfold d2m t1y
 split
 ·exact⟨_,_,rfl⟩
 ·exact⟨_,_,rfl⟩
mutual
def rv (ρ:Num):Value->Value
 | .chan (some m)=>d2w ρ m
 | .pointer (some a)=> .pointer (p6 ρ a)
 | .slice (some a) n c=>rSl ρ a n c
 | .map (some r)=> .map (ρ r)
 | .func fn f c=> .func (rFn ρ fn) (rvA ρ f) (rvA ρ c)
 | .iface t v=> .iface t (rv ρ v)
 | .agg cs=> .agg (rvA ρ cs)
 | .tuple vs=> .tuple (rvA ρ vs)
 | .bool b=> .bool b
 | .int k n=> .int k n
 | .float k n=> .float k n
 | .complex _ a b=>d2m ρ a b
 | .string s=> .string s
 | .pointer none=> .pointer none
 | .slice none n c=> .slice none n c
 | .map none=> .map none
 | .chan none=> .chan none
 | .nilFunc=> .nilFunc
 | .nilIface=> .nilIface
def rvA (ρ:Num):Array Value->Array Value
 | ⟨l⟩=>⟨rvL ρ l⟩
def rvL (ρ:Num):List Value->List Value
 | [] =>[]
 | v ::l=>rv ρ v ::rvL ρ l
end
mutual
def pureV:Value->Bool
 | .pointer (some _)=>false
 | .slice (some _) _ _=>false
 | .map (some _)=>false
 | .func fn f c=> !(e0z fn) && pureA f && pureA c
 | .iface _ v=>pureV v
 | .agg cs=>pureA cs
 | .tuple vs=>pureA vs
 | .bool _=>true
 | .int _ _=>true
 | .float _ _=>true
 | .complex _ _ _=>false
 | .string _=>true
 | .pointer none=>true
 | .slice none _ _=>true
 | .map none=>true
 | .chan _=>false
 | .nilFunc=>true
 | .nilIface=>true
def pureA:Array Value->Bool
 | ⟨l⟩=>pureL l
def pureL:List Value->Bool
 | [] =>true
 | v ::l=>pureV v && pureL l
end
theorem l5 (ρ:Num) (l:List Value):rvL ρ l=l.map (rv ρ):=by
 induction l with
 | nil=>simp [rvL]
 | cons v l ih=>simp [rvL,ih]
theorem e2o (ρ:Num) (a:Array Value):rvA ρ a=a.map (rv ρ):=by
 cases a; simp [rvA,l5]
theorem C3 (l:List Value):pureL l=l.all pureV:=by
 induction l with
 | nil=>simp [pureL]
 | cons v l ih=>simp [pureL,ih]
mutual
theorem A1 (ρ:Num):∀ v:Value,pureV v=true->rv ρ v=v
 | .pointer (some _),h=>by simp [pureV] at h
 | .slice (some _) _ _,h=>by simp [pureV] at h
 | .map (some _),h=>by simp [pureV] at h
 | .func fn f c,h=>by
   simp only [pureV,u6,q0i] at h
   simp only [rv,rvA_pure ρ f h.1.2,rvA_pure ρ c h.2,l0d ρ fn h.1.1]
 | .iface t v,h=>by simp only [pureV] at h; simp only [rv,A1 ρ v h]
 | .agg cs,h=>by simp only [pureV] at h; simp only [rv,rvA_pure ρ cs h]
 | .tuple vs,h=>by simp only [pureV] at h; simp only [rv,rvA_pure ρ vs h]
 | .bool b,_=>by simp only [rv]
 | .int k n,_=>by simp only [rv]
 | .float k n,_=>by simp only [rv]
 | .complex k a b,h=>by simp only [pureV] at h; cases h
 | .string s,_=>by simp only [rv]
 | .pointer none,_=>by simp only [rv]
 | .slice none n c,_=>by simp only [rv]
 | .map none,_=>by simp only [rv]
 | .chan _,h=>by simp only [pureV] at h; cases h
 | .nilFunc,_=>by simp only [rv]
 | .nilIface,_=>by simp only [rv]
theorem rvA_pure (ρ:Num):∀ v:Array Value,pureA v=true->rvA ρ v=v
 | ⟨l⟩,h=>by simp only [pureA] at h; simp only [rvA,rvL_pure ρ l h]
theorem rvL_pure (ρ:Num):∀ v:List Value,pureL v=true->rvL ρ v=v
 | [],_=>by simp only [rvL]
 | v ::l,h=>by
   simp only [pureL,u6] at h
   simp only [rvL,A1 ρ v h.1,rvL_pure ρ l h.2]
end
theorem uD (ρ:Num) (a:Addr) (n c:Nat):∃ x m,rSl ρ a n c= .slice x n m:=by
 unfold rSl
 split
 ·exact⟨_,_,rfl⟩
 ·split
  ·exact⟨_,_,rfl⟩
  ·exact⟨_,_,rfl⟩
theorem M2 (ρ:Num) (v:Value):(rv ρ v).cells=v.cells.map (rv ρ):=by
 unfold Value.cells
 cases v with
 | agg cs=>simp [rv,e2o]
 | pointer a=>cases a <;> simp [rv]
 | slice a n c=>
  cases a with
  | none=>simp [rv]
  | some a=>
   obtain⟨x,m,e⟩:=uD ρ a n c
   simp [rv,e]
 | map a=>cases a <;> simp [rv]
 | chan a=>
  cases a with
  | none=>simp [rv]
  | some m=>
   obtain⟨x,q,e⟩:=lL ρ m
   simp [rv,e]
 | complex k a c=>
  obtain⟨x,q,e⟩:=lY ρ a c
  simp [rv,e]
 | _=>simp [rv]
def w1h (p:Nat->Bool):Fn->Bool
 | .yield l=>p l
 | _=>true
mutual
def s0n (p:Nat->Bool):Value->Bool
 | .pointer (some a)=>p a.block
 | .slice (some ⟨j,_,none⟩) _ _=>p j
 | .slice (some ⟨j,_,some k⟩) _ _=>p j && p k
 | .map (some r)=>p r
 | .chan (some m)=>p (m/18446744073709551616/18446744073709551616/18446744073709551616/18446744073709551616) && p (m/18446744073709551616/18446744073709551616/18446744073709551616%18446744073709551616)
 | .complex _ a _=>p (a/18446744073709551616) && p (a%18446744073709551616)
 | .func fn f c=>w1h p fn && allA p f && allA p c
 | .iface _ v=>s0n p v
 | .agg cs=>allA p cs
 | .tuple vs=>allA p vs
 | _=>true
def allA (p:Nat->Bool):Array Value->Bool
 | ⟨l⟩=>allL p l
def allL (p:Nat->Bool):List Value->Bool
 | [] =>true
 | v ::l=>s0n p v && allL p l
end
theorem b2w {ρ ρ':Num} {p:Nat->Bool} (h:∀ j,p j=true->ρ' j=ρ j) (f:Fn) (hf:w1h p f=true):rFn ρ' f=rFn ρ f:=by
 cases f <;> first | rfl | skip
 rename_i l
 simp only [w1h] at hf
 simp only [rFn,h l hf]
mutual
theorem f1u {ρ ρ':Num} {p:Nat->Bool} (h:∀ j,p j=true->ρ' j=ρ j):∀ v:Value,s0n p v=true->rv ρ' v=rv ρ v
 | .pointer (some a),hv=>by simp only [s0n] at hv; simp only [rv,p6,h _ hv]
 | .slice (some ⟨j,off,none⟩) _ _,hv=>by simp only [s0n] at hv; simp only [rv,rSl,p6,h _ hv]
 | .slice (some ⟨j,off,some k⟩) _ _,hv=>by simp only [s0n,u6] at hv; simp only [rv,rSl,h _ hv.1,h _ hv.2]
 | .map (some r),hv=>by simp only [s0n] at hv; simp only [rv,h _ hv]
 | .func fn f c,hv=>by
   simp only [s0n,u6] at hv
   simp only [rv,b2w h fn hv.1.1,rvA_all h f hv.1.2,rvA_all h c hv.2]
 | .iface t v,hv=>by simp only [s0n] at hv; simp only [rv,f1u h v hv]
 | .agg cs,hv=>by simp only [s0n] at hv; simp only [rv,rvA_all h cs hv]
 | .tuple vs,hv=>by simp only [s0n] at hv; simp only [rv,rvA_all h vs hv]
 | .bool _,_=>by simp only [rv]
 | .int _ _,_=>by simp only [rv]
 | .float _ _,_=>by simp only [rv]
 | .complex _ _ _,hv=>by simp only [s0n,u6] at hv; simp only [rv,d2m,h _ hv.1,h _ hv.2]
 | .string _,_=>by simp only [rv]
 | .pointer none,_=>by simp only [rv]
 | .slice none _ _,_=>by simp only [rv]
 | .map none,_=>by simp only [rv]
 | .chan none,_=>by simp only [rv]
 | .chan (some m),hv=>by simp only [s0n,u6] at hv; simp only [rv,d2w,h _ hv.1,h _ hv.2]
 | .nilFunc,_=>by simp only [rv]
 | .nilIface,_=>by simp only [rv]
theorem rvA_all {ρ ρ':Num} {p:Nat->Bool} (h:∀ j,p j=true->ρ' j=ρ j):∀ v:Array Value,allA p v=true->rvA ρ' v=rvA ρ v
 | ⟨l⟩,hv=>by simp only [allA] at hv; simp only [rvA,rvL_all h l hv]
theorem rvL_all {ρ ρ':Num} {p:Nat->Bool} (h:∀ j,p j=true->ρ' j=ρ j):∀ v:List Value,allL p v=true->rvL ρ' v=rvL ρ v
 | [],_=>by simp only [rvL]
 | v ::l,hv=>by
   simp only [allL,u6] at hv
   simp only [rvL,f1u h v hv.1,rvL_all h l hv.2]
end
end
noncomputable section
inductive Row where
 | vals (xs:List Value)
 | ints (k:IntKind) (ns:List Int)
 | fam (f:Nat->List Value) (n:Nat)
 | bytes (l:List UInt8)
def uE (v:Value):Value:=match pureV v with
 | true=>v
 | false=> .bool false
def rA (f:Nat->List Value):Nat->List Value
 | 0=>[]
 | n+1=>rA f n++(f n).map uE
theorem p0w (v:Value):pureV (uE v)=true:=by
 unfold uE
 cases h:pureV v
 ·rfl
 ·exact h
theorem bN (f:Nat->List Value):∀ n,pureL (rA f n)=true
 | 0=>rfl
 | n+1=>by
  have ih:=bN f n
  rw [C3] at ih ⊢
  unfold rA
  rw [List.all_append,ih,List.all_map,c2i,zzA10]
  exact fun v _=>p0w v
def Row.list:Row->List Value
 | .vals xs=>xs
 | .ints k ns=>ns.map (.int k)
 | .fam f n=>rA f n
 | .bytes l=>l.map fun b=> .int .u8 b.toNat
inductive AObj where
 | row (e:TypeId) (sz:Nat) (r:Row) (k:Nat)
 | cells (cs:List Value) (t:TypeId)
 | iter (s:ByteArray) (pos:Nat)
 | ints (k:IntKind) (xs:List Int)
 | loop (st:LoopState) (pn:Option Code) (ts:List (Option Value)) (ps:List Nat) (asg:Code) (bd:Code)
 | defr
 | dead
 | ro (xs:List Value)
 | map (es:List (Value×Value))
 | fam (f:Nat->Value) (n sz o:Nat)
def AObj.rw:AObj->Bool
 | .row _ _ _ _=>true
 | .cells _ _=>true
 | .iter _ _=>true
 | .ints _ _=>false
 | .loop _ _ _ _ _ _=>true
 | .defr=>true
 | .dead=>true
 | .ro _=>false
 | .map _=>true
 | .fam _ _ _ _=>false
def g2r (ρ:Num) (mes:Array MapEntry) (es:List (Value×Value)):Prop:=mes.toList.map (fun e=>(e.key,e.val))=es.map fun p=>(rv ρ p.1,rv ρ p.2)
abbrev Heap:=List (Nat×AObj)
def Heap.get:Heap->Nat->Option AObj
 | [],_=>none
 | (j,o) ::r,i=>match zO0 j i with
  | true=>some o
  | false=>Heap.get r i
def Heap.set:Heap->Nat->AObj->Heap
 | [],_,_=>[]
 | (j,o') ::r,i,o=>match zO0 j i with
  | true=>(j,o) ::r
  | false=>(j,o') ::Heap.set r i o
theorem sI {a b:Nat} (h:a≠b):zO0 a b=false:=by
 cases h':zO0 a b
 ·rfl
 ·exact absurd (N8 h') h
theorem b6 (j:Nat) (o:AObj) (H:Heap) (i:Nat):Heap.get ((j,o) ::H) i=if j=i then some o else H.get i:=by
 by_cases h:j=i
 ·subst h; simp [Heap.get]
 ·have:zO0 j i=false:=sI h
  rw [a8 h,Heap.get,this]
theorem m0 (H:Heap) (i:Nat) (o o0:AObj) (h:H.get i=some o0) (j:Nat):(H.set i o).get j=if i=j then some o else H.get j:=by
 induction H with
 | nil=>simp [Heap.get] at h
 | cons x H ih=>
  obtain⟨k,q⟩:=x
  rw [b6] at h
  unfold Heap.set
  by_cases hk:k=i
  ·subst hk
   simp only [c0g]
   rw [b6,b6]
   split <;> rfl
  ·have hb:zO0 k i=false:=sI hk
   rw [a8 hk] at h
   simp only [hb]
   rw [b6,b6,ih h]
   by_cases hkj:k=j
   ·subst hkj
    rw [i6 rfl,i6 rfl,a8 (fun e=>hk e.symm)]
   ·rw [a8 hkj,a8 hkj]
def RowAt (w:World) (b:Nat) (cur:Array Value) (e:TypeId):Prop:=∃ fr,w.heap[b]? =some (.cells cur e fr)∧(fr.2=0∨cur.size<=fr.1)
theorem RowAt.to {w w':World} {b:Nat} {cur:Array Value} {e:TypeId} (h:RowAt w b cur e) (hb:w'.heap[b]? =w.heap[b]?):RowAt w' b cur e:=by
 obtain⟨fr,h1,h2⟩:=h
 exact⟨fr,hb.trans h1,h2⟩
theorem RowAt.lt {w:World} {b:Nat} {cur:Array Value} {e:TypeId} (h:RowAt w b cur e):b < w.heap.size:=by
 obtain⟨fr,h1,_⟩:=h
 exact (zzA14.1 h1).1
theorem RowAt.of {w:World} {b:Nat} {cur:Array Value} {e:TypeId} (h:w.heap[b]? =some (.cells cur e (0,0))):RowAt w b cur e:=⟨_,h, .inl rfl⟩
def ORep (B:Nat) (M:Nat->Prop) (ρ:Num) (w:World) (ob:Option Nat):AObj->Prop
 | .row e sz r k=>(ob=none∧r.list=[])∨∃ b cap cur,ob=some b∧ρ k=some cap∧RowAt w b cur e∧(B<=b∨M b)∧cap<=maxLen∧cur.size=cap*sz∧r.list.length<=cap*sz∧cur.toList.take r.list.length=rvL ρ r.list
 | .cells cs t=>∃ b,ob=some b∧w.heap[b]? =some (.cells (rvL ρ cs).toArray t (0,0))∧(B<=b∨M b)
 | .iter s pos=>∃ b,ob=some b∧w.heap[b]? =some (.stringIter s pos)∧(B<=b∨M b)
 | .ints k xs=>(ob=none∧xs=[])∨∃ b cs t fr,ob=some b∧w.heap[b]? =some (.cells cs t fr)∧∀ i,i < xs.length->cs[i]? =some (.int k (xs.getD i 0))
 | .loop st pn ts ps asg bd=>∃ b r,ob=some b∧w.heap[b]? =some (.loop r)∧(r.state=st∧r.pending=pn∧r.params=⟨ps⟩∧r.assign=asg∧r.body=bd∧r.tmps.size=ts.length∧∀ t x,ts[t]? =some (some x)->r.tmps.getD t undef=rv ρ x)∧(B<=b∨M b)
 | .defr=>∃ b,ob=some b∧w.heap[b]? =some (.deferred (some []))∧(B<=b∨M b)
 | .dead=>∃ b o,ob=some b∧w.heap[b]? =some o∧(B<=b∨M b)
 | .ro xs=>(ob=none∧xs=[])∨∃ b cs t fr,ob=some b∧w.heap[b]? =some (.cells cs t fr)∧∀ (i:Nat) (v:Value),(rvL ρ xs)[i]? =some v->cs[i]? =some v
 | .map es=>∃ b mes ck,ob=some b∧w.heap[b]? =some (.map mes ck)∧g2r ρ mes es∧(B<=b∨M b)
 | .fam f n sz o=>(ob=none∧n=0)∨∃ b cs t fr,ob=some b∧w.heap[b]? =some (.cells cs t fr)∧∀ i,i < n->(f i).cells.toList.length=sz∧pureV (f i)=true∧∀ (j:Nat) (v:Value),(f i).cells.toList[j]? =some v->cs[o+i*sz+j]? =some v
structure Sim (P:Program) (B:Nat) (M:Nat->Prop) (ρ:Num) (H:Heap) (w:World):Prop where
 glob:∀ g,g < P.globals.size->ρ g=some g
 obj:∀ i o,H.get i=some o->ORep B M ρ w (ρ i) o
 inj:∀ i j o o',H.get i=some o->o.rw=true->H.get j=some o'->i≠j->ρ i≠none->ρ i≠ρ j
structure Keeps (B:Nat) (M:Nat->Prop) (w w':World):Prop where
 os:w'.os=w.os
 tape:w'.tape=w.tape
 output:w'.output=w.output
 size:w.heap.size<=w'.heap.size
 block:∀ k,k < B->¬ M k->w'.heap[k]? =w.heap[k]?
theorem Keeps.refl (B:Nat) (M:Nat->Prop) (w:World):Keeps B M w w:=⟨rfl,rfl,rfl,d5 _,fun _ _ _=>rfl⟩
theorem Keeps.trans {B:Nat} {M:Nat->Prop} {a b c:World} (h:Keeps B M a b) (k:Keeps B M b c):Keeps B M a c:=
 ⟨k.os.trans h.os,k.tape.trans h.tape,k.output.trans h.output,u7 h.size k.size,fun i hi hm=>(k.block i hi hm).trans (h.block i hi hm)⟩
theorem n5 {B:Nat} {M:Nat->Prop} {w w':World} (h:Below w.heap.size w w') (hB:B<=w.heap.size):Keeps B M w w':=
 ⟨h.os,h.tape,h.output,h.size,fun k hk _=>h.block k (by omega)⟩
theorem Keeps.below {B:Nat} {w w':World} (h:Keeps B (fun _=>False) w w'):Below B w w':=
 ⟨h.os,h.tape,h.output,h.size,fun k hk=>h.block k hk (fun f=>f)⟩
theorem i8 {w:World} {b:Nat} {o:Obj} (h:w.heap[b]? =some o):b < w.heap.size:=(zzA14.1 h).1
theorem ORep.below {B:Nat} {M:Nat->Prop} {ρ:Num} {w w':World} {ob:Option Nat} {o:AObj} (h:ORep B M ρ w ob o) (hb:Below w.heap.size w w'):ORep B M ρ w' ob o:=by
 cases o with
 | row e sz r k=>
  rcases h with h | ⟨b,cap,cur,h1,h2,h3,h4⟩
  ·exact .inl h
  ·exact .inr ⟨b,cap,cur,h1,h2,h3.to (hb.block b h3.lt),h4⟩
 | cells cs t=>obtain⟨b,h1,h2,h3⟩:=h; exact⟨b,h1,(hb.block b (i8 h2)).trans h2,h3⟩
 | iter s pos=>obtain⟨b,h1,h2,h3⟩:=h; exact⟨b,h1,(hb.block b (i8 h2)).trans h2,h3⟩
 | ints k xs=>
  rcases h with h | ⟨b,cs,t,fr,h1,h2,h3⟩
  ·exact .inl h
  ·exact .inr ⟨b,cs,t,fr,h1,(hb.block b (i8 h2)).trans h2,h3⟩
 | loop st pn ts ps asg bd=>obtain⟨b,r,h1,h2,h3⟩:=h; exact⟨b,r,h1,(hb.block b (i8 h2)).trans h2,h3⟩
 | defr=>obtain⟨b,h1,h2,h3⟩:=h; exact⟨b,h1,(hb.block b (i8 h2)).trans h2,h3⟩
 | dead=>obtain⟨b,o,h1,h2,h3⟩:=h; exact⟨b,o,h1,(hb.block b (i8 h2)).trans h2,h3⟩
 | ro xs=>
  rcases h with h | ⟨b,cs,t,fr,h1,h2,h3⟩
  ·exact .inl h
  ·exact .inr ⟨b,cs,t,fr,h1,(hb.block b (i8 h2)).trans h2,h3⟩
 | map es=>obtain⟨b,mes,ck,h1,h2,h3⟩:=h; exact⟨b,mes,ck,h1,(hb.block b (i8 h2)).trans h2,h3⟩
 | fam f n sz o=>
  rcases h with h | ⟨b,cs,t,fr,h1,h2,h3⟩
  ·exact .inl h
  ·exact .inr ⟨b,cs,t,fr,h1,(hb.block b (i8 h2)).trans h2,h3⟩
theorem Sim.below {P:Program} {B:Nat} {M:Nat->Prop} {ρ:Num} {H:Heap} {w w':World} (h:Sim P B M ρ H w) (hb:Below w.heap.size w w'):Sim P B M ρ H w':=
 ⟨h.glob,fun i o hi=>(h.obj i o hi).below hb,h.inj⟩
theorem ORep.lt {B:Nat} {M:Nat->Prop} {ρ:Num} {w:World} {b:Nat} {o:AObj} (h:ORep B M ρ w (some b) o):b < w.heap.size:=by
 cases o with
 | row e sz r k=>
  rcases h with ⟨h,_⟩ | ⟨b',cap,cur,h1,h2,h3,_⟩
  ·cases h
  ·cases h1; exact h3.lt
 | cells cs t=>obtain⟨b',h1,h2,_⟩:=h; cases h1; exact i8 h2
 | iter s pos=>obtain⟨b',h1,h2,_⟩:=h; cases h1; exact i8 h2
 | ints k xs=>
  rcases h with ⟨h,_⟩ | ⟨b',cs,t,fr,h1,h2,_⟩
  ·cases h
  ·cases h1; exact i8 h2
 | loop st pn ts ps asg bd=>obtain⟨b',r,h1,h2,_⟩:=h; cases h1; exact i8 h2
 | defr=>obtain⟨b',h1,h2,_⟩:=h; cases h1; exact i8 h2
 | dead=>obtain⟨b',o,h1,h2,_⟩:=h; cases h1; exact i8 h2
 | ro xs=>
  rcases h with ⟨h,_⟩ | ⟨b',cs,t,fr,h1,h2,_⟩
  ·cases h
  ·cases h1; exact i8 h2
 | map es=>obtain⟨b',mes,ck,h1,h2,_⟩:=h; cases h1; exact i8 h2
 | fam f n sz o=>
  rcases h with ⟨h,_⟩ | ⟨b',cs,t,fr,h1,h2,_⟩
  ·cases h
  ·cases h1; exact i8 h2
theorem Sim.new {P:Program} {B:Nat} {M:Nat->Prop} {ρ:Num} {H:Heap} {w:World} (h:Sim P B M ρ H w) {n:Nat} (hn:ρ n=some w.heap.size) {ob:Obj} {o:AObj}
  (ho:ORep B M ρ (w.alloc ob) (some w.heap.size) o):Sim P B M ρ ((n,o) ::H) (w.alloc ob):=by
 have hb:Below w.heap.size w (w.alloc ob):=(O9 _ _).alloc (d5 _) _
 refine⟨h.glob,fun i o' hi=> ?_,fun i j oi oj hi hr hj hij hne=> ?_⟩
 ·rw [b6] at hi
  split at hi
  ·rename_i e; subst e; cases hi; rw [hn]; exact ho
  ·exact (h.obj i o' hi).below hb
 ·rw [b6] at hi hj
  split at hi <;> split at hj
  ·rename_i e1 e2; exact absurd (e1.symm.trans e2) hij
  ·rename_i e1 e2; subst e1
   intro e
   have:=h.obj j oj hj
   rw [<- e,hn] at this
   exact absurd this.lt (m0r _)
  ·rename_i e1 e2; subst e2
   intro e
   have:=h.obj i oi hi
   rw [e,hn] at this
   exact absurd this.lt (m0r _)
  ·exact h.inj i j oi oj hi hr hj hij hne
theorem Sim.turn {P:Program} {B:Nat} {M:Nat->Prop} {ρ:Num} {H:Heap} {w w':World} (h:Sim P B M ρ H w) {n b:Nat} {o0 o:AObj} (h0:H.get n=some o0) (hr:o0.rw=true) (hn:ρ n=some b)
  (ho:ORep B M ρ w' (some b) o) (hk:∀ k,k≠b->w'.heap[k]? =w.heap[k]?):Sim P B M ρ (H.set n o) w':=by
 refine⟨h.glob,fun i o' hi=> ?_,fun i j oi oj hi hri hj hij hne=> ?_⟩
 ·rw [m0 H n o o0 h0] at hi
  split at hi
  ·rename_i e; subst e; cases hi; rw [hn]; exact ho
  ·rename_i hne
   have hold:=h.obj i o' hi
   have hd:∀ b',ρ i=some b'->b'≠b:=fun b' hb' e=>by
    subst e
    exact h.inj n i o0 o' h0 hr hi hne (by rw [hn]; simp) (hn.trans hb'.symm)
   cases o' with
   | row e sz r k=>
    rcases hold with hold | ⟨b',cap,cur,h1,h2,h3,h4⟩
    ·exact .inl hold
    ·exact .inr ⟨b',cap,cur,h1,h2,h3.to (hk b' (hd b' h1)),h4⟩
   | cells cs t=>obtain⟨b',h1,h2,h3⟩:=hold; exact⟨b',h1,(hk b' (hd b' h1)).trans h2,h3⟩
   | iter s pos=>obtain⟨b',h1,h2,h3⟩:=hold; exact⟨b',h1,(hk b' (hd b' h1)).trans h2,h3⟩
   | ints k xs=>
    rcases hold with hold | ⟨b',cs,t,fr,h1,h2,h3⟩
    ·exact .inl hold
    ·exact .inr ⟨b',cs,t,fr,h1,(hk b' (hd b' h1)).trans h2,h3⟩
   | loop st pn ts ps asg bd=>obtain⟨b',r,h1,h2,h3⟩:=hold; exact⟨b',r,h1,(hk b' (hd b' h1)).trans h2,h3⟩
   | defr=>obtain⟨b',h1,h2,h3⟩:=hold; exact⟨b',h1,(hk b' (hd b' h1)).trans h2,h3⟩
   | dead=>obtain⟨b',q,h1,h2,h3⟩:=hold; exact⟨b',q,h1,(hk b' (hd b' h1)).trans h2,h3⟩
   | ro xs=>
    rcases hold with hold | ⟨b',cs,t,fr,h1,h2,h3⟩
    ·exact .inl hold
    ·exact .inr ⟨b',cs,t,fr,h1,(hk b' (hd b' h1)).trans h2,h3⟩
   | map es=>obtain⟨b',mes,ck,h1,h2,h3⟩:=hold; exact⟨b',mes,ck,h1,(hk b' (hd b' h1)).trans h2,h3⟩
   | fam f n sz o=>
    rcases hold with hold | ⟨b',cs,t,fr,h1,h2,h3⟩
    ·exact .inl hold
    ·exact .inr ⟨b',cs,t,fr,h1,(hk b' (hd b' h1)).trans h2,h3⟩
 ·rw [m0 H n o o0 h0] at hi hj
  split at hi <;> split at hj
  ·rename_i e1 e2; exact absurd (e1.symm.trans e2) hij
  ·rename_i e1 e2; subst e1; exact h.inj n j o0 oj h0 hr hj hij hne
  ·rename_i e1 e2; subst e2; exact h.inj i n oi o0 hi hri h0 hij hne
  ·exact h.inj i j oi oj hi hri hj hij hne
theorem Sim.less {P:Program} {B:Nat} {M:Nat->Prop} {ρ:Num} {H H':Heap} {w:World} (h:Sim P B M ρ H w) (hh:∀ i o,H'.get i=some o->H.get i=some o):Sim P B M ρ H' w:=
 ⟨h.glob,fun i o hi=>h.obj i o (hh i o hi),fun i j oi oj hi hr hj hij hne=>h.inj i j oi oj (hh i oi hi) hr (hh j oj hj) hij hne⟩
def d9:List Prop->Prop
 | [] =>True
 | p ::l=>p∧d9 l
theorem m3 (a b:List Prop):d9 (a++b)↔d9 a∧d9 b:=by
 induction a with
 | nil=>simp [d9]
 | cons p a ih=>simp [d9,ih,and_assoc]
def L9 (auto:Bool) (p:Prop) [Decidable p] :Option (List Prop):=
 match auto with
 | true=>if p then some [] else none
 | false=>some [p]
theorem j0 {auto:Bool} {p:Prop} [Decidable p] {l:List Prop} (h:L9 auto p=some l) (hl:d9 l):p:=by
 unfold L9 at h
 split at h
 ·split at h
  ·assumption
  ·cases h
 ·cases h; exact hl.1
def u1r:TypeDesc->Bool
 | .struct _=>true
 | .array _ _=>true
 | _=>false
theorem B4 {P:Program} {t:TypeId} {d:TypeDesc} (h:P.underlying t=some d) (w:World):(isAgg t).run P w= .ok (u1r d) w:=by
 cases d <;> simp [isAgg,run_underlying h,u1r]
theorem n4 {P:Program} {t:TypeId} {i:TypeInfo} (h:P.info? t=some i) (w:World):(sizeOf t).run P w= .ok i.size w:=by
 simp [sizeOf,typeInfo,h]
theorem addr_add (b o n:Nat):(⟨b,o,none⟩:Addr).add n=⟨b,o+n,none⟩:=by
 unfold Addr.add; split <;> simp_all
def a0e (k:IntKind) (ns:List Int):Nat->Nat->List Value
 | _,0=>[]
 | off,n+1=> .int k (ns.getD off 0) ::a0e k ns (off+1) n
theorem RowAt.set {w:World} {b:Nat} {cur:Array Value} {e:TypeId} (h:RowAt w b cur e) (new:Array Value) (hs:new.size=cur.size):RowAt (w.setRow b new) b new e:=by
 obtain⟨fr,h1,h2⟩:=h
 exact⟨fr,setRow_heap w b _ _ e fr h1,by rw [hs]; exact h2⟩
theorem C1 (P:Program) (g o:Nat) (t:TypeId):∀ (vs:List Value) (i:Nat) (cur:Array Value) (w:World),RowAt w g cur t->o+i+vs.length<=cur.size->(∀ v∈vs,v.oneCell'=true)->
  (storeCells ⟨g,o,none⟩ vs i).run P w= .ok () (w.setRow g (cur.toList.take (o+i)++vs++cur.toList.drop (o+i+vs.length)).toArray)
 | [],i,cur,w,hg,_,_=>by
  obtain⟨fz,hg,_⟩:=hg
  simp only [storeCells,List.append_nil,mJ,I2,List.take_append_drop,Array.toArray_toList]
  rw [setRow_self w g cur t fz hg]
  rfl
 | v ::rest,i,cur,w,hg,hl,h1=>by
  have hgs:=hg.set (cur.setIfInBounds (o+i) v) (by simp)
  obtain⟨fz,hg,hfz⟩:=hg
  have hi:o+i < cur.size:=by simp at hl; omega
  have hadd:(⟨g,o,none⟩:Addr).add i=⟨g,o+i,none⟩:=addr_add g o i
  have hcell:w.cell? ⟨g,o+i,none⟩=some cur[o+i] :=by simp [World.cell?,hg,hi]
  have hfro:w.frozen? ⟨g,o+i,none⟩=false:=by
   obtain⟨lo,hi'⟩:=fz
   simp only [World.frozen?,hg,Bool.and_eq_false_iff,i0y]
   simp only at hfz
   omega
  have hst:(store ((⟨g,o,none⟩:Addr).add i) v).run P w= .ok () (w.setRow g (cur.setIfInBounds (o+i) v)):=by
   rw [hadd,run_store P w _ v _ (h1 v (by simp)),hcell]
   simp [hfro,setCell_eq_setRow w g (o+i) cur t fz v hg]
  have ih:=C1 P g o t rest (i+1) (cur.setIfInBounds (o+i) v) (w.setRow g (cur.setIfInBounds (o+i) v)) hgs (by simp at hl ⊢; omega) (fun x hx=>h1 x (by simp [hx]))
  simp only [storeCells,o7,hst,p7,ih,setRow_setRow]
  congr 3
  have e:=list_seg_step cur.toList (o+i) v rest (by simp at hl ⊢; omega)
  simpa [Array.toList_setIfInBounds,Nat.add_assoc] using e
def U0 (off o sz:Nat):Nat:=(off-o)/sz
def FamIn (off o sz n:Nat):Prop:=o<=off∧(off-o)%sz=0∧U0 off o sz < n
instance famInDec (off o sz n:Nat):Decidable (FamIn off o sz n):=inferInstanceAs (Decidable (o<=off∧(off-o)%sz=0∧U0 off o sz < n))
theorem FamIn.eq {off o sz n:Nat} (h:FamIn off o sz n):off=o+U0 off o sz*sz:=by
 obtain⟨h1,h2,_⟩:=h
 unfold U0
 have:=eJ (off-o) sz
 rw [p4]
 omega
theorem k0w {o i sz n:Nat} (hs:0 < sz) (h:i < n):FamIn (o+i*sz) o sz n:=by
 refine⟨by omega,by rw [Nat.add_sub_cancel_left,Nat.mul_mod_left],?_⟩
 unfold U0
 rw [Nat.add_sub_cancel_left,z0c _ hs]
 exact h
theorem i1s {o i sz:Nat} (hs:0 < sz):U0 (o+i*sz) o sz=i:=by
 unfold U0
 rw [Nat.add_sub_cancel_left,z0c _ hs]
def j2n (P:Program) (auto:Bool) (t:TypeId) (agg:Bool) (f:Nat->Value) (n sz o off:Nat):Option (Value×List Prop):=
 match agg with
 | true=>match eQ P t with
  | none=>none
  | some i=>match zO0 i.size sz && zO1 0 sz,f (U0 off o sz) with
   | true, .agg xs=>match L9 auto (FamIn off o sz n) with
    | some l=>some (.agg xs,l)
    | none=>none
   | _,_=>none
 | false=>match zO0 sz 1 with
  | true=>match f (U0 off o sz) with
   | .agg _=>none
   | .tuple _=>none
   | v=>match L9 auto (FamIn off o sz n) with
    | some l=>some (v,l)
    | none=>none
  | false=>none
def i2c (f:Nat->List Value) (n off sz:Nat) (xs:List Value):Prop:=xs=((rA f n).drop off).take sz∧off+sz<=(rA f n).length∧0 < sz
def yF (P:Program) (auto:Bool) (H:Heap) (t:TypeId) (x:Value):Option (Value×List Prop):=
 match x with
 | .pointer (some ⟨id,off,none⟩)=>
  match R7 P t with
  | none=>none
  | some d=>
   match H.get id with
   | some (.cells cs _)=>
    match u1r d with
    | true=>match eQ P t with
     | some i=>match Nat.ble (off+i.size) cs.length with
      | true=>some (.agg ⟨(cs.drop off).take i.size⟩,[])
      | false=>none
     | none=>none
    | false=>match cs[off]? with
     | some v=>some (v,[])
     | none=>none
   | some (.ints k xs)=>
    match u1r d with
    | true=>match eQ P t with
     | none=>none
     | some i=>match zO1 0 i.size,L9 auto (off+i.size<=xs.length) with
      | true,some l=>some (.agg ⟨a0e k xs off i.size⟩,l)
      | _,_=>none
    | false=>match L9 auto (off < xs.length) with
     | some l=>some (.int k (xs.getD off 0),l)
     | none=>none
   | some (.row _ sz r _)=>
    match u1r d with
    | true=>match eQ P t with
     | none=>none
     | some i=>match r with
      | .fam f n=>match auto with
       | true=>none
       | false=>some (.agg ⟨f (U0 off 0 sz)⟩,[i2c f n off i.size (f (U0 off 0 sz))])
      | .bytes _=>none
      | .vals xs=>match Nat.ble (off+i.size) xs.length && zO1 0 i.size with
       | true=>some (.agg ⟨(xs.drop off).take i.size⟩,[])
       | false=>none
      | .ints k ns=>match zO1 0 i.size,L9 auto (off+i.size<=ns.length) with
       | true,some l=>some (.agg ⟨a0e k ns off i.size⟩,l)
       | _,_=>none
    | false=>match r with
     | .fam f n=>match auto,f (U0 off 0 sz) with
      | false,[v] =>some (v,[(rA f n)[off]? =some v])
      | _,_=>none
     | .bytes l=>match L9 auto (off < l.length) with
      | some q=>some (.int .u8 (zO2 (l.getD off 0).toNat),q)
      | none=>none
     | .vals xs=>match xs[off]? with
      | some v=>some (v,[])
      | none=>none
     | .ints k ns=>match L9 auto (off < ns.length) with
      | some l=>some (.int k (ns.getD off 0),l)
      | none=>none
   | some (.ro xs)=>
    match u1r d with
    | true=>match eQ P t with
     | none=>none
     | some i=>match Nat.ble (off+i.size) xs.length && zO1 0 i.size with
      | true=>some (.agg ⟨(xs.drop off).take i.size⟩,[])
      | false=>none
    | false=>match xs[off]? with
     | some v=>some (v,[])
     | none=>none
   | some (.fam f n sz o)=>j2n P auto t (u1r d) f n sz o off
   | _=>none
 | _=>none
theorem rO (k:IntKind) (ns:List Int):∀ (n off:Nat),off+n<=ns.length->a0e k ns off n=((ns.map (zO3 k)).drop off).take n
 | 0,off,_=>by simp [a0e]
 | n+1,off,h=>by
  unfold a0e
  rw [rO k ns n (off+1) (by omega)]
  have hlt:off < (ns.map (zO3 k)).length:=by simp; omega
  rw [m0x hlt,List.take_succ_cons]
  congr 1
  simp [List.getD,show off < ns.length by omega]
theorem ORep.row_some {B:Nat} {M:Nat->Prop} {ρ:Num} {w:World} {ob:Option Nat} {e:TypeId} {sz k:Nat} {r:Row} (h:ORep B M ρ w ob (.row e sz r k)) (hne:0 < r.list.length):
  ∃ b cap cur,ob=some b∧ρ k=some cap∧RowAt w b cur e∧(B<=b∨M b)∧cap<=maxLen∧cur.size=cap*sz∧r.list.length<=cap*sz∧cur.toList.take r.list.length=rvL ρ r.list:=by
 rcases h with ⟨_,h⟩ | h
 ·rw [h] at hne; exact absurd hne (by decide)
 ·exact h
theorem L8 {w:World} {ρ:Num} {b:Nat} {e:TypeId} {cur:Array Value} {xs:List Value} (h:RowAt w b cur e) (ht:cur.toList.take xs.length=rvL ρ xs) {i:Nat} {v:Value} (hi:xs[i]? =some v):w.cell? ⟨b,i,none⟩=some (rv ρ v):=by
 obtain⟨fr,h,_⟩:=h
 rw [fW w b i _ _ _ h]
 have hlt:i < xs.length:=(zzA1.1 hi).1
 have e1:(cur.toList.take xs.length)[i]? =some (rv ρ v):=by rw [ht,l5,N6,hi]; rfl
 rw [R9,i6 hlt] at e1
 simpa using e1
theorem Z4 {P:Program} {w:World} {b o:Nat} {v:Value} (h:w.cell? ⟨b,o,none⟩=some v):(load ⟨b,o,none⟩).run P w= .ok v w:=by
 simp [h]
theorem nM {P:Program} {auto:Bool} {B:Nat} {M:Nat->Prop} {ρ:Num} {H:Heap} {w:World} (hS:Sim P B M ρ H w) {t:TypeId} {x v:Value} {l:List Prop}
  (h:yF P auto H t x=some (v,l)) (hl:d9 l):(Instr.loadAt t (rv ρ x)).run P w= .ok (rv ρ v) w:=by
 unfold yF at h
 simp only [u9,v8] at h
 split at h
 case h_2=>cases h
 rename_i id off
 split at h
 case h_1=>cases h
 rename_i d hd
 split at h
 ·
  rename_i cs ty hget
  obtain⟨b,hb,hcells,_⟩:=hS.obj id _ hget
  simp only [rv,p6,hb,A4,Instr.loadAt,Instr.sureAddr,pure_bind,loadVar,o7,B4 hd,p7]
  split at h
  ·rename_i hagg
   split at h
   case h_2=>cases h
   rename_i i hi
   split at h
   case h_2=>cases h
   rename_i hle
   have hle:off+i.size<=cs.length:=fX hle
   cases h
   rw [hagg]
   have hlen:((rvL ρ cs).drop off |>.take i.size).length=i.size:=by rw [l5]; simp; omega
   have hc:=i0t (P:=P) w ⟨b,off,none⟩ (((rvL ρ cs).drop off).take i.size) (fun j v hj=>by
    rw [addr_add]
    have hj':j < i.size:=by
     have:=zzA1.1 hj
     obtain⟨hlt,_⟩:=this
     omega
    rw [fW w b (off+j) _ _ _ hcells]
    rw [R9,i6 hj',Q6] at hj
    simpa using hj)
   rw [hlen] at hc
   simp only [C6,o7,n4 hi,p7,hc]
   simp only [rv,rvA,l5,eK,eI]
   rfl
  ·rename_i hagg
   split at h
   case h_2=>cases h
   rename_i u hu
   cases h
   rw [hagg]
   have:w.cell? ⟨b,off,none⟩=some (rv ρ v):=by
    rw [fW w b off _ _ _ hcells]
    simp [l5,hu]
   simp [this]
 ·
  rename_i k xs hget
  split at h
  ·rename_i hagg
   split at h
   case h_1=>cases h
   rename_i i hi
   split at h
   case h_2=>cases h
   rename_i l' hpos hneed
   cases h
   have hle:=j0 hneed hl
   have hpos:0 < i.size:=by simpa [Nat.blt_eq] using hpos
   rcases hS.obj id _ hget with ⟨_,hnil⟩ | ⟨b,cs,ty,fr,hb,hcells,hall⟩
   ·subst hnil; simp at hle; omega
   ·simp only [rv,p6,hb,A4,Instr.loadAt,Instr.sureAddr,pure_bind,loadVar,o7,B4 hd,p7]
    rw [hagg,rO k xs _ _ hle]
    have hlen:(((xs.map (zO3 k)).drop off).take i.size).length=i.size:=by simp; omega
    have hc:=i0t (P:=P) w ⟨b,off,none⟩ (((xs.map (zO3 k)).drop off).take i.size) (fun j v hj=>by
     rw [addr_add]
     have hj':j < i.size:=by
      obtain⟨hlt,_⟩:=zzA1.1 hj
      omega
     rw [R9,i6 hj',Q6,N6] at hj
     rw [fW w b (off+j) _ _ _ hcells,hall (off+j) (by omega)]
     have:xs[off+j]? =some (xs.getD (off+j) 0):=by simp [List.getD,show off+j < xs.length by omega]
     rw [this] at hj
     exact hj)
    rw [hlen] at hc
    simp only [C6,o7,n4 hi,p7,hc]
    have e:rvL ρ (((xs.map (zO3 k)).drop off).take i.size)=((xs.map (zO3 k)).drop off).take i.size:=rvL_pure _ _ (by
     rw [C3,zzA10]
     intro y hy
     have hy:=List.mem_of_mem_drop (List.mem_of_mem_take hy)
     obtain⟨z,_,rfl⟩:=zzA41.1 hy
     rfl)
    rw [rvA,e]
    rfl
  rename_i hagg
  split at h
  case h_2=>cases h
  rename_i l' hneed
  cases h
  have hlt:=j0 hneed hl
  rcases hS.obj id _ hget with ⟨_,hnil⟩ | ⟨b,cs,ty,fr,hb,hcells,hall⟩
  ·subst hnil; simp at hlt
  ·simp only [rv,p6,hb,A4,Instr.loadAt,Instr.sureAddr,pure_bind,loadVar,o7,B4 hd,p7,hagg]
   have:w.cell? ⟨b,off,none⟩=some (.int k (xs.getD off 0)):=by
    rw [fW w b off _ _ _ hcells]
    exact hall off hlt
   simp only [M7,C5]
   exact Z4 this
 ·
  rename_i e sz r kk hget
  have hrow:=hS.obj id _ hget
  split at h
  ·rename_i hagg
   split at h
   case h_1=>cases h
   rename_i i hi
   have fin:∀ (vs:List Value),vs=(r.list.drop off).take i.size->off+i.size<=r.list.length->0 < i.size->(Instr.loadAt t (rv ρ (.pointer (some ⟨id,off,none⟩)))).run P w= .ok (rv ρ (.agg ⟨vs⟩)) w:=by
    intro vs hvs hle hpos
    obtain⟨b,cap,cur,hb,_,hcells,_,_,_,_,htake⟩:=hrow.row_some (by omega)
    simp only [rv,p6,hb,A4,Instr.loadAt,Instr.sureAddr,pure_bind,loadVar,o7,B4 hd,p7]
    rw [hagg]
    have hlen:((rvL ρ r.list).drop off |>.take i.size).length=i.size:=by rw [l5]; simp; omega
    have hc:=i0t (P:=P) w ⟨b,off,none⟩ (((rvL ρ r.list).drop off).take i.size) (fun j v hj=>by
     rw [addr_add]
     have hj':j < i.size:=by
      obtain⟨hlt,_⟩:=zzA1.1 hj
      omega
     rw [R9,i6 hj',Q6,l5,N6] at hj
     cases hx:r.list[off+j]? with
     | none=>rw [hx] at hj; cases hj
     | some u=>
      rw [hx] at hj
      cases hj
      exact L8 hcells htake hx)
    rw [hlen] at hc
    simp only [C6,o7,n4 hi,p7,hc]
    rw [hvs]
    simp only [rvA,l5,eK,eI]
    rfl
   split at h
   ·rename_i f n
    split at h
    case h_1=>cases h
    cases h
    obtain⟨q1,q2,q3⟩:=hl.1
    exact fin _ q1 q2 q3
   ·cases h
   ·rename_i xs
    split at h
    case h_2=>cases h
    rename_i hle
    cases h
    simp only [u6,H7,C0] at hle
    exact fin _ rfl hle.1 hle.2
   ·rename_i k ns
    split at h
    case h_2=>cases h
    rename_i l' hpos hneed
    cases h
    have hle:=j0 hneed hl
    exact fin _ (rO k ns _ _ hle) (by simp [Row.list]; exact hle) (by simpa [Nat.blt_eq] using hpos)
  ·rename_i hagg
   have fin:∀ (v:Value),r.list[off]? =some v->(Instr.loadAt t (rv ρ (.pointer (some ⟨id,off,none⟩)))).run P w= .ok (rv ρ v) w:=by
    intro v hv
    obtain⟨b,cap,cur,hb,_,hcells,_,_,_,_,htake⟩:=hrow.row_some (by have:=(zzA1.1 hv).1; omega)
    simp only [rv,p6,hb,A4,Instr.loadAt,Instr.sureAddr,pure_bind,loadVar,o7,B4 hd,p7]
    rw [hagg]
    simp [L8 hcells htake hv]
   split at h
   ·rename_i f n
    split at h
    case h_2=>cases h
    cases h
    exact fin _ hl.1
   ·rename_i l0
    split at h
    case h_2=>cases h
    rename_i l' hneed
    cases h
    have hlt:=j0 hneed hl
    exact fin _ (by simp [Row.list,List.getD,hlt])
   ·rename_i xs
    split at h
    case h_2=>cases h
    rename_i u hu
    cases h
    exact fin _ hu
   ·rename_i k ns
    split at h
    case h_2=>cases h
    rename_i l' hneed
    cases h
    have hlt:=j0 hneed hl
    exact fin _ (by simp [Row.list,List.getD,hlt])
 ·
  rename_i xs hget
  have hro:=hS.obj id _ hget
  split at h
  ·rename_i hagg
   split at h
   case h_1=>cases h
   rename_i i hi
   split at h
   case h_2=>cases h
   rename_i hle
   simp only [u6,H7,C0] at hle
   cases h
   rcases hro with ⟨_,hnil⟩ | ⟨b,cs,ty,fr,hb,hcells,hall⟩
   ·subst hnil; simp at hle; omega
   ·simp only [rv,p6,hb,A4,Instr.loadAt,Instr.sureAddr,pure_bind,loadVar,o7,B4 hd,p7]
    rw [hagg]
    have hlen:((rvL ρ xs).drop off |>.take i.size).length=i.size:=by rw [l5]; simp; omega
    have hc:=i0t (P:=P) w ⟨b,off,none⟩ (((rvL ρ xs).drop off).take i.size) (fun j v hj=>by
     rw [addr_add]
     have hj':j < i.size:=by
      obtain⟨hlt,_⟩:=zzA1.1 hj
      omega
     rw [R9,i6 hj',Q6] at hj
     rw [fW w b (off+j) _ _ _ hcells]
     exact hall _ _ hj)
    rw [hlen] at hc
    simp only [C6,o7,n4 hi,p7,hc]
    simp only [rvA,l5,eK,eI]
    rfl
  ·rename_i hagg
   split at h
   case h_2=>cases h
   rename_i u hu
   cases h
   rcases hro with ⟨_,hnil⟩ | ⟨b,cs,ty,fr,hb,hcells,hall⟩
   ·subst hnil; simp at hu
   ·simp only [rv,p6,hb,A4,Instr.loadAt,Instr.sureAddr,pure_bind,loadVar,o7,B4 hd,p7,hagg]
    have:w.cell? ⟨b,off,none⟩=some (rv ρ v):=by
     rw [fW w b off _ _ _ hcells]
     exact hall off _ (by rw [l5,N6,hu]; rfl)
    simp only [M7,C5]
    exact Z4 this
 ·
  rename_i f n sz o hget
  have hro:=hS.obj id _ hget
  have key:FamIn off o sz n->∃ b cs ty fr,ρ id=some b∧w.heap[b]? =some (.cells cs ty fr)∧(f (U0 off o sz)).cells.toList.length=sz∧pureV (f (U0 off o sz))=true∧∀ (j:Nat) (v:Value),(f (U0 off o sz)).cells.toList[j]? =some v->cs[off+j]? =some v:=by
   intro hin
   have he:=hin.eq
   obtain⟨_,_,hlt⟩:=hin
   rcases hro with ⟨_,hnil⟩ | ⟨b,cs,ty,fr,hb,hcells,hall⟩
   ·omega
   ·obtain⟨g1,g2,g3⟩:=hall _ hlt
    refine⟨b,cs,ty,fr,hb,hcells,g1,g2,fun j v hj=> ?_⟩
    rw [he]
    exact g3 j v hj
  unfold j2n at h
  simp only [v8] at h
  split at h
  ·rename_i hagg
   split at h
   case h_1=>cases h
   rename_i i hi
   split at h
   case h_2=>cases h
   rename_i xs hc hf
   split at h
   case h_2=>cases h
   rename_i l' hneed
   cases h
   simp only [u6,y4] at hc
   obtain⟨hc,_⟩:=hc
   obtain⟨b,cs,ty,fr,hb,hcells,hlen,hpure,hall⟩:=key (j0 hneed hl)
   rw [hf] at hlen hpure hall
   simp only [Value.cells] at hlen hall
   simp only [rv,p6,hb,A4,Instr.loadAt,Instr.sureAddr,pure_bind,loadVar,o7,B4 hd,p7]
   rw [hagg]
   have hl2:=i0t (P:=P) w ⟨b,off,none⟩ xs.toList (fun j v hj=>by
    rw [addr_add,fW w b (off+j) _ _ _ hcells]
    exact hall j v hj)
   rw [hlen,<- hc] at hl2
   simp only [C6,o7,n4 hi,p7,hl2]
   have:=A1 ρ _ hpure
   rw [rv] at this
   rw [this]
   rfl
  ·rename_i hagg
   split at h
   case h_2=>cases h
   rename_i hs
   have hs:=N8 hs
   have fin:∀ v l',(f (U0 off o sz))=v->v.cells= #[v] ->L9 auto (FamIn off o sz n)=some l'->d9 l'->(Instr.loadAt t (rv ρ (.pointer (some ⟨id,off,none⟩)))).run P w= .ok (rv ρ v) w:=by
    intro v l' hf hv hneed hl'
    obtain⟨b,cs,ty,fr,hb,hcells,hlen,hpure,hall⟩:=key (j0 hneed hl')
    rw [hf] at hlen hpure hall
    simp only [rv,p6,hb,A4,Instr.loadAt,Instr.sureAddr,pure_bind,loadVar,o7,B4 hd,p7,hagg]
    have:w.cell? ⟨b,off,none⟩=some (rv ρ v):=by
     rw [fW w b off _ _ _ hcells,A1 ρ v hpure]
     exact hall 0 v (by rw [hv]; rfl)
    simp only [M7,C5]
    exact Z4 this
   split at h
   ·cases h
   ·cases h
   ·rename_i v hna hnt
    split at h
    case h_2=>cases h
    rename_i l' hneed
    cases h
    refine fin _ _ rfl ?_ hneed hl
    cases hfv:f (U0 off o sz) <;> first | rfl | (exact absurd hfv (hna _)) | (exact absurd hfv (hnt _))
 ·cases h
def l1p (v:Value):Bool:=
 match v with
 | .agg _=>false
 | .tuple _=>false
 | _=>true
def aJ (P:Program) (H:Heap) (t:TypeId) (x v:Value):Option Heap:=
 match x with
 | .pointer (some ⟨id,off,none⟩)=>
  match eQ P t with
  | none=>none
  | some i=>
   match H.get id with
   | some (.cells cs ty)=>
    match zO0 v.cells.toList.length i.size && Nat.ble (off+v.cells.toList.length) cs.length && v.cells.toList.all l1p with
    | true=>some (H.set id (.cells (cs.take off++v.cells.toList++cs.drop (off+v.cells.toList.length)) ty))
    | false=>none
   | some (.row e sz (.vals xs) k)=>
    match zO0 v.cells.toList.length i.size && Nat.ble (off+v.cells.toList.length) xs.length && v.cells.toList.all l1p && zO1 0 xs.length with
    | true=>some (H.set id (.row e sz (.vals (xs.take off++v.cells.toList++xs.drop (off+v.cells.toList.length))) k))
    | false=>none
   | some (.row e sz (.ints kd ns) k)=>match v with
    | .int kd' x=>match decide (kd'=kd) && zO0 1 i.size && zO1 off ns.length with
     | true=>some (H.set id (.row e sz (.ints kd (gR ns off x)) k))
     | false=>none
    | _=>none
   | _=>none
 | _=>none
theorem b0l (ρ:Num) (v:Value) (h:l1p v=true):(rv ρ v).oneCell'=true:=by
 cases v with
 | agg _=>simp [l1p] at h
 | tuple _=>simp [l1p] at h
 | pointer a=>cases a <;> simp [rv,Value.oneCell']
 | slice a n c=>
  cases a with
  | none=>simp [rv,Value.oneCell']
  | some a=>
   obtain⟨x,m,e⟩:=uD ρ a n c
   simp [rv,e,Value.oneCell']
 | map a=>cases a <;> simp [rv,Value.oneCell']
 | chan a=>
  cases a with
  | none=>simp [rv,Value.oneCell']
  | some m=>
   obtain⟨x,q,e⟩:=lL ρ m
   simp [rv,e,Value.oneCell']
 | complex k a c=>
  obtain⟨x,q,e⟩:=lY ρ a c
  simp [rv,e,Value.oneCell']
 | _=>simp [rv,Value.oneCell']
theorem V1 {P:Program} {B:Nat} {M:Nat->Prop} {ρ:Num} {H:Heap} {w:World} (hS:Sim P B M ρ H w) {t:TypeId} {v:Value} {i:TypeInfo} (hi:P.info? t=some i) {id off e sz k:Nat} {r r':Row}
  (hget:H.get id=some (.row e sz r k)) (h1:v.cells.toList.length=i.size) (h2:off+v.cells.toList.length<=r.list.length) (h3:∀ x∈v.cells.toList,l1p x=true) (h4:0 < r.list.length)
  (hr:r'.list=r.list.take off++v.cells.toList++r.list.drop (off+v.cells.toList.length)):
  ∃ w',(Instr.storeAt t (rv ρ (.pointer (some ⟨id,off,none⟩))) (rv ρ v)).run P w= .ok () w'∧Sim P B M ρ (H.set id (.row e sz r' k)) w'∧Keeps B M w w'∧w'.drawn=w.drawn∧w'.heap.size=w.heap.size:=by
  obtain⟨b,cap,cur,hb,hcap,hcells,hB,hcm,hcs,hln,htake⟩:=(hS.obj id _ hget).row_some h4
  generalize r.list=xs at*
  have hlen:((rv ρ v).cells.toList).length=v.cells.toList.length:=by rw [M2]; simp
  have hcur:xs.length<=cur.size:=by rw [hcs]; exact hln
  have hst:=C1 P b off e (rv ρ v).cells.toList 0 cur w hcells (by rw [hlen]; omega) (fun u hu=>by
   rw [M2] at hu
   simp only [xE,zzA41] at hu
   obtain⟨u0,hu0,rfl⟩:=hu
   exact b0l ρ u0 (h3 u0 hu0))
  have hsz:(rv ρ v).cells.size=i.size:=by rw [<- h1]; simpa using hlen
  have hsize:(cur.toList.take (off+0)++(rv ρ v).cells.toList++cur.toList.drop (off+0+(rv ρ v).cells.toList.length)).toArray.size=cur.size:=by
   have hm:(rv ρ v).cells.toList.length=v.cells.toList.length:=hlen
   generalize (rv ρ v).cells.toList=us at*
   generalize v.cells.toList=vs at*
   simp only [w0k,F6,D5,K3,bA]
   rw [D4 (by omega)]
   omega
  refine⟨w.setRow b (cur.toList.take (off+0)++(rv ρ v).cells.toList++cur.toList.drop (off+0+(rv ρ v).cells.toList.length)).toArray,?_,?_,?_,?_,?_⟩
  ·simp only [rv,p6,hb,A4,Instr.storeAt,Instr.sureAddr,pure_bind,storeVar,o7,n4 hi,p7]
   rw [a8 (by simp [hsz])]
   simpa using hst
  ·have e0:(xs.take off++v.cells.toList++xs.drop (off+v.cells.toList.length)).length=xs.length:=by
    simp only [F6,D5,K3]
    omega
   refine hS.turn hget rfl hb (.inr ⟨b,cap,_,rfl,hcap,hcells.set _ hsize,hB,hcm,by rw [hsize]; exact hcs,by rw [hr,e0]; exact hln,?_⟩) (fun k hk=>pR w b k _ hk)
   rw [hr,e0]
   simp only [I2,hlen]
   have e2:rvL ρ (xs.take off++v.cells.toList++xs.drop (off+v.cells.toList.length))=(rvL ρ xs).take off++(rv ρ v).cells.toList++(rvL ρ xs).drop (off+v.cells.toList.length):=by
    simp only [l5,bK,eK,eI,M2,xE]
   rw [e2,<- htake]
   apply c1j
   intro j
   simp only [R9,List.getElem?_append,F6,D5,hlen,Q6,bA]
   grind
  ·exact⟨rfl,rfl,rfl,by simp,fun k hk hm=>pR w b k _ (fun e=>by subst e; exact hB.elim (fun h=>by omega) hm)⟩
  ·rfl
  ·simp
theorem aK {P:Program} {B:Nat} {M:Nat->Prop} {ρ:Num} {H H':Heap} {w:World} (hS:Sim P B M ρ H w) {t:TypeId} {x v:Value}
  (h:aJ P H t x v=some H'):∃ w',(Instr.storeAt t (rv ρ x) (rv ρ v)).run P w= .ok () w'∧Sim P B M ρ H' w'∧Keeps B M w w'∧w'.drawn=w.drawn∧w'.heap.size=w.heap.size:=by
 unfold aJ at h
 simp only [v8] at h
 split at h
 case h_2=>cases h
 rename_i id off
 split at h
 case h_1=>cases h
 rename_i i hi
 split at h
 case h_4=>cases h
 case h_2=>
  rename_i e sz xs k hget
  split at h
  case h_2=>cases h
  rename_i hc
  simp only [u6,y4,H7,C0,zzA10] at hc
  obtain⟨⟨⟨h1,h2⟩,h3⟩,h4⟩:=hc
  cases h
  exact V1 hS hi (r:= .vals xs) hget h1 h2 h3 h4 rfl
 case h_3=>
  rename_i e sz kd ns k hget
  split at h
  case h_2=>cases h
  rename_i kd' x
  split at h
  case h_2=>cases h
  rename_i hc
  simp only [u6,y4,C0,V9] at hc
  obtain⟨⟨hk,h1⟩,h2⟩:=hc
  subst hk
  cases h
  have hc1:(zO3 kd' x).cells.toList=[.int kd' x] :=rfl
  refine V1 hS hi (r:= .ints kd' ns) hget (by rw [hc1]; exact h1) (by rw [hc1]; simp [Row.list]; omega) (by rw [hc1]; simp [l1p]) (by simp [Row.list]; omega) ?_
  rw [hc1,A7]
  simp only [Row.list,y0w,<- eK,<- eI]
  rw [show [zO3 kd' x] =[x].map (zO3 kd') from rfl,<- bK,<- bK,List.set_eq_take_append_cons_drop,i6 h2]
  simp
 rename_i cs ty hget
 split at h
 case h_2=>cases h
 rename_i hc
 simp only [u6,y4,H7,zzA10] at hc
 obtain⟨⟨h1,h2⟩,h3⟩:=hc
 cases h
 obtain⟨b,hb,hcells,hown⟩:=hS.obj id _ hget
 have hlen:((rv ρ v).cells.toList).length=v.cells.toList.length:=by rw [M2]; simp
 have hst:=run_storeCells_at P b off ty (rv ρ v).cells.toList 0 (rvL ρ cs).toArray w hcells (by simp [hlen,l5] at h2 ⊢; omega) (fun u hu=>by
  rw [M2] at hu
  simp only [xE,zzA41] at hu
  obtain⟨u0,hu0,rfl⟩:=hu
  exact b0l ρ u0 (h3 u0 hu0))
 have hsz:(rv ρ v).cells.size=i.size:=by rw [<- h1]; simpa using hlen
 refine⟨w.setRow b ((rvL ρ cs).toArray.toList.take (off+0)++(rv ρ v).cells.toList++(rvL ρ cs).toArray.toList.drop (off+0+(rv ρ v).cells.toList.length)).toArray,?_,?_,?_,?_,?_⟩
 ·simp only [rv,p6,hb,A4,Instr.storeAt,Instr.sureAddr,pure_bind,storeVar,o7,n4 hi,p7]
  rw [a8 (by simp [hsz])]
  simpa using hst
 ·refine hS.turn hget rfl hb ⟨b,rfl,?_,hown⟩ (fun k hk=>pR w b k _ hk)
  rw [setRow_heap w b _ _ ty (0,0) hcells]
  congr 2
  simp only [l5,bK,eK,eI,M2,I2,xE,z6]
 ·exact⟨rfl,rfl,rfl,by simp,fun k hk hm=>pR w b k _ (fun e=>by subst e; exact hown.elim (fun h=>by omega) (fun h=>hm h))⟩
 ·rfl
 ·simp
def Row.len:Row->Nat
 | .vals xs=>xs.length
 | .ints _ ns=>ns.length
 | .fam f n=>(rA f n).length
 | .bytes l=>l.length
theorem i0e (r:Row):r.len=r.list.length:=by cases r <;> simp [Row.len,Row.list]
theorem f2j {P:Program} {B:Nat} {M:Nat->Prop} {ρ:Num} {H:Heap} {w:World} (hS:Sim P B M ρ H w) {id off e sz k:Nat} {r r':Row} {news:List Value} (hp:rvL ρ news=news)
  (hget:H.get id=some (.row e sz r k)) (h2:off+news.length<=r.list.length) (h3:∀ x∈news,x.oneCell'=true) (h4:0 < r.list.length)
  (hr:r'.list=r.list.take off++news++r.list.drop (off+news.length)) {b:Nat} (hbb:ρ id=some b) {cur:Array Value} {e':TypeId} {fr:Nat×Nat} (hcur:w.heap[b]? =some (.cells cur e' fr)):
  (storeCells ⟨b,off,none⟩ news).run P w= .ok () (w.setRow b (cur.toList.take off++news++cur.toList.drop (off+news.length)).toArray)∧
  Sim P B M ρ (H.set id (.row e sz r' k)) (w.setRow b (cur.toList.take off++news++cur.toList.drop (off+news.length)).toArray)∧
  Keeps B M w (w.setRow b (cur.toList.take off++news++cur.toList.drop (off+news.length)).toArray):=by
 obtain⟨b',cap,cur',hb,hcap,hcells,hB,hcm,hcs,hln,htake⟩:=(hS.obj id _ hget).row_some h4
 rw [hbb] at hb
 cases hb
 obtain rfl:cur'=cur:=by
  obtain⟨fr',q1,_⟩:=hcells
  rw [hcur] at q1
  injection q1 with q1
  injection q1 with q1
  exact q1.symm
 generalize r.list=xs at*
 have hcur:xs.length<=cur'.size:=by rw [hcs]; exact hln
 have hst:=C1 P b off e news 0 cur' w hcells (by omega) h3
 have hsize:(cur'.toList.take off++news++cur'.toList.drop (off+news.length)).toArray.size=cur'.size:=by
  simp only [w0k,F6,D5,K3,bA]
  rw [D4 (by omega)]
  omega
 refine⟨by simpa using hst,?_,⟨rfl,rfl,rfl,by simp,fun k hk hm=>pR w b k _ (fun e=>by subst e; exact hB.elim (fun h=>by omega) hm)⟩⟩
 have e0:(xs.take off++news++xs.drop (off+news.length)).length=xs.length:=by
  simp only [F6,D5,K3]
  omega
 refine hS.turn hget rfl hbb (.inr ⟨b,cap,_,rfl,hcap,hcells.set _ hsize,hB,hcm,by rw [hsize]; exact hcs,by rw [hr,e0]; exact hln,?_⟩) (fun k hk=>pR w b k _ hk)
 rw [hr,e0]
 have e2:rvL ρ (xs.take off++news++xs.drop (off+news.length))=(rvL ρ xs).take off++news++(rvL ρ xs).drop (off+news.length):=by
  have hp':=hp
  rw [l5] at hp'
  simp only [l5,bK,eK,eI,hp']
 rw [e2,<- htake]
 apply c1j
 intro j
 simp only [R9,List.getElem?_append,F6,D5,Q6,bA]
 grind
def jQ (P:Program) (auto:Bool) (H:Heap) (t:TypeId) (x v:Value):Option (Heap×List Prop):=
 match auto with
 | true=>none
 | false=>match x with
  | .pointer (some ⟨id,off,none⟩)=>match H.get id with
   | some (.row e sz (.ints kd ns) k)=>match eQ P t,v with
    | some i, .int kd' x=>match decide (kd'=kd) && zO0 1 i.size with
     | true=>some (H.set id (.row e sz (.ints kd (gR ns off x)) k),[off < ns.length])
     | false=>none
    | _,_=>none
   | _=>none
  | _=>none
theorem wT {P:Program} {auto:Bool} {B:Nat} {M:Nat->Prop} {ρ:Num} {H H':Heap} {w:World} (hS:Sim P B M ρ H w) {t:TypeId} {x v:Value} {l:List Prop}
  (h:jQ P auto H t x v=some (H',l)) (hl:d9 l):∃ w',(Instr.storeAt t (rv ρ x) (rv ρ v)).run P w= .ok () w'∧Sim P B M ρ H' w'∧Keeps B M w w':=by
 unfold jQ at h
 simp only [v8] at h
 split at h
 ·cases h
 split at h
 case h_2=>cases h
 rename_i id off
 split at h
 case h_2=>cases h
 rename_i e sz kd ns k hget
 split at h
 case h_2=>cases h
 rename_i i kd' x hi
 split at h
 case h_2=>cases h
 rename_i hc
 simp only [u6,V9,y4] at hc
 obtain⟨rfl,hs⟩:=hc
 cases h
 have hlt:off < ns.length:=hl.1
 obtain⟨w',h1,h2,h3,_⟩:=V1 (v:= .int kd' x) (r':= .ints kd' (gR ns off x)) hS hi hget (by simpa [Value.cells] using hs) (by show off+1<=_; simp only [Row.list,z6]; omega) (by simp [Value.cells,l1p]) (by simp only [Row.list,z6]; omega) (by
  simp only [Row.list,Value.cells,A7]
  apply c1j
  intro j
  simp only [N6,List.getElem?_set,List.getElem?_append,R9,Q6,F6,D5,z6]
  grind)
 exact⟨w',h1,h2,h3⟩
def cW (H:Heap) (p o k:Nat):Option (List Value):=
 match H.get p with
 | some (.cells cs _)=>match Nat.ble (o+k) cs.length with
  | true=>some ((cs.drop o).take k)
  | false=>none
 | some (.row _ _ (.vals xs) _)=>match Nat.ble (o+k) xs.length && zO1 0 k with
  | true=>some ((xs.drop o).take k)
  | false=>none
 | some (.row _ _ (.ints kd ns) _)=>match Nat.ble (o+k) ns.length && zO1 0 k with
  | true=>some (((ns.drop o).take k).map (.int kd))
  | false=>none
 | some (.ro xs)=>match Nat.ble (o+k) xs.length && zO1 0 k with
  | true=>some ((xs.drop o).take k)
  | false=>none
 | _=>none
theorem Z1 {P:Program} {B:Nat} {M:Nat->Prop} {ρ:Num} {H:Heap} {w:World} (hS:Sim P B M ρ H w) {p o k:Nat} {cs:List Value} (h:cW H p o k=some cs):
  ∃ b,ρ p=some b∧cs.length=k∧∀ j u,(rvL ρ cs)[j]? =some u->w.cell? ⟨b,o+j,none⟩=some u:=by
 unfold cW at h
 split at h
 ·rename_i cs0 t hget
  split at h
  case h_2=>cases h
  rename_i hle
  cases h
  have hle:=fX hle
  obtain⟨b,hb,hcells,_⟩:=hS.obj p _ hget
  refine⟨b,hb,by simp; omega,fun j u hj=> ?_⟩
  rw [fW w b (o+j) _ _ _ hcells]
  rw [l5,N6,R9] at hj
  split at hj
  ·rw [Q6] at hj
   simpa [l5] using hj
  ·cases hj
 ·rename_i e sz xs kk hget
  split at h
  case h_2=>cases h
  rename_i hle
  simp only [u6,H7,C0] at hle
  cases h
  obtain⟨b,cap,cur,hb,_,hcells,_,_,_,_,htake⟩:=(hS.obj p _ hget).row_some (by simp only [Row.list]; omega)
  refine⟨b,hb,by simp; omega,fun j u hj=> ?_⟩
  rw [l5,N6,R9] at hj
  split at hj
  ·rw [Q6] at hj
   cases hx:xs[o+j]? with
   | none=>rw [hx] at hj; cases hj
   | some y=>
    rw [hx] at hj
    cases hj
    exact L8 hcells htake hx
  ·cases hj
 ·rename_i e sz kd ns kk hget
  split at h
  case h_2=>cases h
  rename_i hle
  simp only [u6,H7,C0] at hle
  cases h
  obtain⟨b,cap,cur,hb,_,hcells,_,_,_,_,htake⟩:=(hS.obj p _ hget).row_some (by simp only [Row.list,z6]; omega)
  refine⟨b,hb,by simp; omega,fun j u hj=> ?_⟩
  rw [l5,N6,N6,R9] at hj
  split at hj
  ·rw [Q6] at hj
   cases hx:ns[o+j]? with
   | none=>rw [hx] at hj; cases hj
   | some y=>
    rw [hx] at hj
    cases hj
    have:=L8 (i:=o+j) (v:= .int kd y) hcells htake (by rw [Row.list,N6,hx]; rfl)
    exact this
  ·cases hj
 ·rename_i xs hget
  split at h
  case h_2=>cases h
  rename_i hle
  simp only [u6,H7,C0] at hle
  cases h
  rcases hS.obj p _ hget with ⟨_,hnil⟩ | ⟨b,cs0,ty,fr,hb,hcells,hall⟩
  ·subst hnil; simp at hle; omega
  ·refine⟨b,hb,by simp; omega,fun j u hj=> ?_⟩
   rw [fW w b (o+j) _ _ _ hcells]
   rw [l5,N6,R9] at hj
   split at hj
   ·rw [Q6] at hj
    exact hall (o+j) u (by rw [l5,N6]; exact hj)
   ·cases hj
 ·cases h
def roO:AObj->Option AObj
 | .cells cs _=>some (.ro cs)
 | .row _ _ (.vals xs) _=>some (.ro xs)
 | .row _ _ (.ints k ns) _=>some (.ints k ns)
 | .ints k ns=>some (.ints k ns)
 | .ro xs=>some (.ro xs)
 | .fam f n sz o=>some (.fam f n sz o)
 | _=>none
def l2k (p:Nat->Bool):AObj->Bool
 | .cells cs _=>allL p cs
 | .row _ _ (.vals xs) k=>allL p xs && p k
 | .row _ _ (.ints _ _) k=>p k
 | .ints _ _=>true
 | .iter _ _=>true
 | .ro xs=>allL p xs
 | .fam _ _ _ _=>true
 | _=>false
theorem ORep.ro {B:Nat} {M:Nat->Prop} {B':Nat} {M':Nat->Prop} {ρ:Num} {w:World} {ob:Option Nat} {o o':AObj} (h:ORep B M ρ w ob o) (hr:roO o=some o'):ORep B' M' ρ w ob o'∧o'.rw=false:=by
 unfold roO at hr
 split at hr
 ·cases hr
  obtain⟨b,h1,h2,_⟩:=h
  exact⟨.inr ⟨b,_,_,_,h1,h2,fun i v hi=>by simpa using hi⟩,rfl⟩
 ·cases hr
  rcases h with ⟨h1,h2⟩ | ⟨b,cap,cur,h1,h2,h3,h4,h5,h6,h7,h8⟩
  ·exact⟨.inl ⟨h1,h2⟩,rfl⟩
  ·rename_i xs _
   obtain⟨fr,h3,_⟩:=h3
   refine⟨.inr ⟨b,cur,_,_,h1,h3,fun i v hi=> ?_⟩,rfl⟩
   have h8:cur.toList.take xs.length=rvL ρ xs:=h8
   rw [<- h8,R9] at hi
   split at hi
   ·simpa using hi
   ·cases hi
 ·cases hr
  rcases h with ⟨h1,h2⟩ | ⟨b,cap,cur,h1,h2,h3,h4,h5,h6,h7,h8⟩
  ·exact⟨.inl ⟨h1,by simpa [Row.list] using h2⟩,rfl⟩
  ·rename_i k ns _
   have h3':=h3
   obtain⟨fr,h3,_⟩:=h3
   refine⟨.inr ⟨b,cur,_,_,h1,h3,fun i hi=> ?_⟩,rfl⟩
   have:=L8 (i:=i) (v:= .int k (ns.getD i 0)) (xs:=ns.map (.int k)) h3' h8 (by rw [N6]; simp [List.getD,hi])
   rw [fW w b i _ _ _ h3] at this
   simpa [rv] using this
 ·cases hr; exact⟨h,rfl⟩
 ·cases hr; exact⟨h,rfl⟩
 ·cases hr; exact⟨h,rfl⟩
 ·cases hr
theorem ORep.all {B:Nat} {M:Nat->Prop} {ρ ρ':Num} {p:Nat->Bool} (ha:∀ j,p j=true->ρ' j=ρ j) {w:World} {ob:Option Nat} {o:AObj} (h:ORep B M ρ w ob o) (hp:l2k p o=true):ORep B M ρ' w ob o:=by
 unfold l2k at hp
 split at hp
 ·obtain⟨b,h1,h2,h3⟩:=h
  exact⟨b,h1,by rw [rvL_all ha _ hp]; exact h2,h3⟩
 ·simp only [u6] at hp
  rcases h with h | ⟨b,cap,cur,h1,h2,h3,h4,h5,h6,h7,h8⟩
  ·exact .inl h
  ·refine .inr ⟨b,cap,cur,h1,(ha _ hp.2).trans h2,h3,h4,h5,h6,h7,?_⟩
   rw [Row.list,rvL_all ha _ hp.1]
   exact h8
 ·rcases h with h | ⟨b,cap,cur,h1,h2,h3,h4,h5,h6,h7,h8⟩
  ·exact .inl h
  ·refine .inr ⟨b,cap,cur,h1,(ha _ hp).trans h2,h3,h4,h5,h6,h7,?_⟩
   rename_i k ns _
   have e:∀ (r:Num),rvL r (ns.map (zO3 k))=ns.map (zO3 k):=fun r=>rvL_pure r _ (by rw [C3]; simp [pureV])
   have h8:cur.toList.take (ns.map (zO3 k)).length=rvL ρ (ns.map (zO3 k)):=h8
   show cur.toList.take (ns.map (zO3 k)).length=rvL ρ' (ns.map (zO3 k))
   rw [e] at h8 ⊢
   exact h8
 ·exact h
 ·exact h
 ·rcases h with h | ⟨b,cs,t,fr,h1,h2,h3⟩
  ·exact .inl h
  ·exact .inr ⟨b,cs,t,fr,h1,h2,fun i v hi=>h3 i v (by rw [<- rvL_all ha _ hp]; exact hi)⟩
 ·exact h
 ·cases hp
end
noncomputable section
def K1 {α:Type} (P:Program):Sem α->Option α
 | .pure a=>some a
 | .program k=>K1 P (k P)
 | _=>none
theorem d0s {α:Type} {P:Program} {s:Sem α} {a:α} (h:K1 P s=some a) (w:World):s.run P w= .ok a w:=by
 induction s with
 | pure b=>simp only [K1] at h; cases h; rfl
 | program k ih=>simp only [K1] at h; simp only [Sem.run]; exact ih P h
 | _=>simp [K1] at h
def O6 (x:Option Value):Option Value:=
 match x with
 | some v=>match pureV v with
  | true=>some v
  | false=>none
 | none=>none
theorem U5 {P:Program} {s:Sem Value} {v:Value} (h:O6 (K1 P s)=some v) (ρ:Num) (w:World):s.run P w= .ok (rv ρ v) w:=by
 unfold O6 at h
 split at h
 ·rename_i u hu
  split at h
  ·rename_i hp
   cases h
   rw [A1 ρ _ hp]
   exact d0s hu w
  ·cases h
 ·cases h
def known (P:Program) (H:Heap) (id:Nat):Bool:=
 match H.get id with
 | some (.cells _ _)=>true
 | some (.ro (_ ::_))=>true
 | some (.row _ _ (.vals (_ ::_)) _)=>true
 | some (.row _ _ (.ints _ (_ ::_)) _)=>true
 | _=>zO1 id P.globals.size
theorem K9 {P:Program} {B:Nat} {M:Nat->Prop} {ρ:Num} {H:Heap} {w:World} (hS:Sim P B M ρ H w) {id:Nat} (h:known P H id=true):∃ b,ρ id=some b:=by
 unfold known at h
 split at h
 ·rename_i cs t hg
  obtain⟨b,hb,_⟩:=hS.obj id _ hg
  exact⟨b,hb⟩
 ·rename_i hg
  rcases hS.obj id _ hg with ⟨_,hnil⟩ | ⟨b,cs,ty,fr,hb,_,_⟩
  ·cases hnil
  ·exact⟨b,hb⟩
 ·rename_i hg
  rcases hS.obj id _ hg with ⟨_,hnil⟩ | ⟨b,_,_,hb,_⟩
  ·cases hnil
  ·exact⟨b,hb⟩
 ·rename_i hg
  rcases hS.obj id _ hg with ⟨_,hnil⟩ | ⟨b,_,_,hb,_⟩
  ·cases hnil
  ·exact⟨b,hb⟩
 ·exact⟨id,hS.glob id (by simpa [Nat.blt_eq] using h)⟩
def r8 (a b:Nat):Nat:=match a with
 | 0=>b
 | a+1=>a+1+b
@[simp] theorem x9 (a b:Nat):r8 a b=a+b:=by cases a <;> simp [r8]
def P8 (a b:Nat):Nat:=match b with
 | 1=>a
 | b=>a*b
@[simp] theorem U6 (a b:Nat):P8 a b=a*b:=by unfold P8; split <;> simp
def gM (P:Program) (H:Heap) (s:TypeId) (x:Value) (f:Nat):Option Value:=
 match x with
 | .pointer (some ⟨id,off,none⟩)=>
  match known P H id with
  | false=>none
  | true=>
   match R7 P s with
   | some (.struct fs)=>match fs[f]? with
    | none=>none
    | some fd=>match eQ P fd.type with
     | none=>none
     | some i=>match i.size with
      | 0=>none
      | _+1=>some (.pointer (some ⟨id,r8 off fd.offset,none⟩))
   | _=>none
 | _=>none
theorem lU {P:Program} {B:Nat} {M:Nat->Prop} {ρ:Num} {H:Heap} {w:World} (hS:Sim P B M ρ H w) {s:TypeId} {x v:Value} {f:Nat}
  (h:gM P H s x f=some v):(Instr.fieldAt s (rv ρ x) f).run P w= .ok (rv ρ v) w:=by
 unfold gM at h
 simp only [u9,v8] at h
 split at h
 case h_2=>cases h
 rename_i id off
 split at h
 case h_1=>cases h
 rename_i hk
 obtain⟨b,hb⟩:=K9 hS hk
 split at h
 case h_2=>cases h
 rename_i fs hu
 split at h
 case h_1=>cases h
 rename_i fd hf
 split at h
 case h_1=>cases h
 rename_i i hi
 split at h
 case h_1=>cases h
 rename_i n hn
 cases h
 simp only [rv,p6,hb,A4,Instr.fieldAt,o7,K8 hu,p7,hf,Instr.sureAddr,pure_bind,fieldPlace,n4 hi,hn]
 simp [addr_add]
def fS (P:Program) (auto:Bool) (H:Heap) (t:TypeId) (x ix:Value):Option (Value×List Prop):=
 match ix with
 | .int _ i=>
  match R7 P t with
  | some (.array len e)=>
   match x with
   | .pointer (some ⟨id,off,none⟩)=>
    match known P H id with
    | false=>none
    | true=>match eQ P e with
     | none=>none
     | some inf=>match L9 auto (0<=i∧i < len) with
      | none=>none
      | some l=>some (.pointer (some ⟨id,r8 off (P8 i.toNat inf.size),none⟩),l)
   | _=>none
  | some (.slice e)=>
   match x with
   | .slice (some ⟨id,off,none⟩) n _=>
    match eQ P e with
    | none=>none
    | some inf=>
     match H.get id with
     | some (.ints _ xs)=>match L9 auto ((0<=i∧i < n)∧n<=xs.length) with
      | none=>none
      | some l=>some (.pointer (some ⟨id,r8 off (P8 i.toNat inf.size),none⟩),l)
     | some (.cells _ _)=>match L9 auto (0<=i∧i < n) with
      | none=>none
      | some l=>some (.pointer (some ⟨id,r8 off (P8 i.toNat inf.size),none⟩),l)
     | some (.ro xs)=>match L9 auto ((0<=i∧i < n)∧0 < xs.length) with
      | none=>none
      | some l=>some (.pointer (some ⟨id,r8 off (P8 i.toNat inf.size),none⟩),l)
     | _=>none
   | .slice (some ⟨id,off,some _⟩) n _=>
    match eQ P e with
    | none=>none
    | some inf=>
     match H.get id with
     | some (.row _ _ (.vals xs) _)=>match L9 auto ((0<=i∧i < n)∧0 < xs.length) with
      | none=>none
      | some l=>some (.pointer (some ⟨id,r8 off (P8 i.toNat inf.size),none⟩),l)
     | some (.row _ _ (.ints _ ns) _)=>match L9 auto ((0<=i∧i < n)∧0 < ns.length) with
      | none=>none
      | some l=>some (.pointer (some ⟨id,r8 off (P8 i.toNat inf.size),none⟩),l)
     | some (.row _ _ (.fam f m) _)=>match L9 auto ((0<=i∧i < n)∧0 < (rA f m).length) with
      | none=>none
      | some l=>some (.pointer (some ⟨id,r8 off (P8 i.toNat inf.size),none⟩),l)
     | some (.ro xs)=>match L9 auto ((0<=i∧i < n)∧0 < xs.length) with
      | none=>none
      | some l=>some (.pointer (some ⟨id,r8 off (P8 i.toNat inf.size),none⟩),l)
     | some (.ints _ xs)=>match L9 auto ((0<=i∧i < n)∧0 < xs.length) with
      | none=>none
      | some l=>some (.pointer (some ⟨id,r8 off (P8 i.toNat inf.size),none⟩),l)
     | some (.fam _ m _ _)=>match L9 auto ((0<=i∧i < n)∧0 < m) with
      | none=>none
      | some l=>some (.pointer (some ⟨id,r8 off (P8 i.toNat inf.size),none⟩),l)
     | _=>none
   | _=>none
  | _=>none
 | _=>none
theorem lK {P:Program} {auto:Bool} {B:Nat} {M:Nat->Prop} {ρ:Num} {H:Heap} {w:World} (hS:Sim P B M ρ H w) {t:TypeId} {x ix v:Value} {l:List Prop}
  (h:fS P auto H t x ix=some (v,l)) (hl:d9 l):(Instr.indexAt t (rv ρ x) (rv ρ ix)).run P w= .ok (rv ρ v) w:=by
 unfold fS at h
 simp only [u9,v8] at h
 split at h
 case h_2=>cases h
 rename_i k i
 split at h
 ·rename_i len e hu
  split at h
  case h_2=>cases h
  rename_i id off
  split at h
  case h_1=>cases h
  rename_i hk
  obtain⟨b,hb⟩:=K9 hS hk
  split at h
  case h_1=>cases h
  rename_i inf hi
  split at h
  case h_1=>cases h
  rename_i l' hn
  cases h
  have hr:=j0 hn hl
  simp [rv,p6,hb,Instr.indexAt,asIntOf,run_underlying hu,Instr.sureAddr,hr,n4 hi,addr_add]
 ·rename_i e hu
  split at h
  case h_3=>cases h
  case h_2=>
   rename_i id off kk n c
   split at h
   case h_1=>cases h
   rename_i inf hi
   have fin:∀ (b:Nat),ρ id=some b->(0<=i∧i < (n:Int))->(Instr.indexAt t (rv ρ (.slice (some ⟨id,off,some kk⟩) n c)) (rv ρ (.int k i))).run P w= .ok (rv ρ (.pointer (some ⟨id,r8 off (P8 i.toNat inf.size),none⟩))) w:=by
    intro b hb hr
    simp [rv,rSl,p6,hb,Instr.indexAt,asIntOf,run_underlying hu,hr,n4 hi,addr_add]
   split at h
   ·rename_i e' sz xs k2 hg
    split at h
    case h_1=>cases h
    rename_i l' hn
    cases h
    have hr:=j0 hn hl
    obtain⟨b,_,_,hb,_⟩:=(hS.obj id _ hg).row_some hr.2
    exact fin b hb hr.1
   ·rename_i e' sz k3 ns k2 hg
    split at h
    case h_1=>cases h
    rename_i l' hn
    cases h
    have hr:=j0 hn hl
    obtain⟨b,_,_,hb,_⟩:=(hS.obj id _ hg).row_some (by simp [Row.list]; exact hr.2)
    exact fin b hb hr.1
   ·rename_i e' sz f m k2 hg
    split at h
    case h_1=>cases h
    rename_i l' hn
    cases h
    have hr:=j0 hn hl
    obtain⟨b,_,_,hb,_⟩:=(hS.obj id _ hg).row_some hr.2
    exact fin b hb hr.1
   ·rename_i xs hg
    split at h
    case h_1=>cases h
    rename_i l' hn
    cases h
    have hr:=j0 hn hl
    rcases hS.obj id _ hg with ⟨_,hnil⟩ | ⟨b,cs,ty,fr,hb,_,_⟩
    ·have h2:=hr.2
     subst hnil
     simp only [mJ] at h2
     omega
    ·exact fin b hb hr.1
   ·rename_i k3 xs hg
    split at h
    case h_1=>cases h
    rename_i l' hn
    cases h
    have hr:=j0 hn hl
    rcases hS.obj id _ hg with ⟨_,hnil⟩ | ⟨b,cs,ty,fr,hb,_,_⟩
    ·have h2:=hr.2
     subst hnil
     simp only [mJ] at h2
     omega
    ·exact fin b hb hr.1
   ·rename_i f m sz o hg
    split at h
    case h_1=>cases h
    rename_i l' hn
    cases h
    have hr:=j0 hn hl
    rcases hS.obj id _ hg with ⟨_,hnil⟩ | ⟨b,cs,ty,fr,hb,_,_⟩
    ·have h2:=hr.2
     omega
    ·exact fin b hb hr.1
   ·cases h
  rename_i id off n c
  split at h
  case h_1=>cases h
  rename_i inf hi
  split at h
  ·rename_i k' xs hg
   split at h
   case h_1=>cases h
   rename_i l' hn
   cases h
   have hr:=j0 hn hl
   rcases hS.obj id _ hg with ⟨_,hnil⟩ | ⟨b,cs,ty,fr,hb,_,_⟩
   ·subst hnil
    have h2:=hr.2
    simp only [mJ] at h2
    omega
   ·simp [rv,rSl,p6,hb,Instr.indexAt,asIntOf,run_underlying hu,hr.1,n4 hi,addr_add]
  ·rename_i cs ty hg
   split at h
   case h_1=>cases h
   rename_i l' hn
   cases h
   have hr:=j0 hn hl
   obtain⟨b,hb,_⟩:=hS.obj id _ hg
   simp [rv,rSl,p6,hb,Instr.indexAt,asIntOf,run_underlying hu,hr,n4 hi,addr_add]
  ·rename_i xs hg
   split at h
   case h_1=>cases h
   rename_i l' hn
   cases h
   have hr:=j0 hn hl
   rcases hS.obj id _ hg with ⟨_,hnil⟩ | ⟨b,cs,ty,fr,hb,_,_⟩
   ·have h2:=hr.2
    subst hnil
    simp only [mJ] at h2
    omega
   ·simp [rv,rSl,p6,hb,Instr.indexAt,asIntOf,run_underlying hu,hr.1,n4 hi,addr_add]
  ·cases h
 ·cases h
def x0e (P:Program) (t:TypeId) (cs:List Value) (off:Nat):Option Value:=
 match R7 P t with
 | none=>none
 | some d=>match u1r d with
  | true=>match eQ P t with
   | none=>none
   | some i=>some (.agg ⟨(cs.drop off).take i.size⟩)
  | false=>cs[off]?
theorem Z6 {P:Program} {t:TypeId} {cs:List Value} {off:Nat} {v:Value} (h:x0e P t cs off=some v) (ρ:Num) (w:World):
  (part t (rvA ρ ⟨cs⟩) off).run P w= .ok (rv ρ v) w:=by
 unfold x0e at h
 simp only [u9,v8] at h
 split at h
 case h_1=>cases h
 rename_i d hd
 split at h
 ·rename_i ha
  split at h
  case h_1=>cases h
  rename_i i hi
  cases h
  simp only [part,o7,B4 hd,ha,p7,C6,n4 hi,rvA,l5,rv]
  simp [List.map_take,List.map_drop,List.extract_eq_take_drop]
 ·rename_i ha
  simp only [part,o7,B4 hd,ha,p7,rvA,l5]
  simp [h]
def o0u (P:Program) (t:TypeId) (x:Value) (f:Nat):Option Value:=
 match x with
 | .agg ⟨cs⟩=>match R7 P t with
  | some (.struct fs)=>match fs[f]? with
   | some fd=>x0e P fd.type cs fd.offset
   | none=>none
  | _=>none
 | _=>none
theorem f0w {P:Program} {t:TypeId} {x v:Value} {f:Nat} (h:o0u P t x f=some v) (ρ:Num) (w:World):(Instr.field t (rv ρ x) f).run P w= .ok (rv ρ v) w:=by
 unfold o0u at h
 simp only [u9] at h
 split at h
 case h_2=>cases h
 split at h
 case h_2=>cases h
 rename_i fs hu
 split at h
 case h_2=>cases h
 rename_i fd hf
 simp [Instr.field,run_underlying hu,hf,rv,asAgg,Z6 h ρ w]
def mA (s:ByteArray) (i:Nat):Nat:=(s.data.toList.getD i 0).toNat
def o0t (P:Program) (auto:Bool) (t:TypeId) (x ix:Value):Option (Value×List Prop):=
 match ix with
 | .int _ i=>
  match R7 P t with
  | some .string=>match x with
   | .string s=>match L9 auto (0<=i∧i.toNat < s.data.toList.length) with
    | some l=>some (.int .u8 (mA s i.toNat),l)
    | none=>none
   | _=>none
  | some (.array len e)=>match x with
   | .agg ⟨cs⟩=>match eQ P e with
    | none=>none
    | some inf=>match L9 auto (0<=i∧i < len) with
     | some l=>match x0e P e cs (P8 i.toNat inf.size) with
      | some v=>some (v,l)
      | none=>none
     | none=>none
   | _=>none
  | _=>none
 | _=>none
theorem b0p {P:Program} {auto:Bool} {t:TypeId} {x ix v:Value} {l:List Prop} (h:o0t P auto t x ix=some (v,l)) (hl:d9 l) (ρ:Num) (w:World):
  (Instr.index t (rv ρ x) (rv ρ ix)).run P w= .ok (rv ρ v) w:=by
 unfold o0t at h
 simp only [u9,v8] at h
 split at h
 case h_2=>cases h
 rename_i k i
 split at h
 ·rename_i hu
  split at h
  case h_2=>cases h
  rename_i s
  split at h
  case h_2=>cases h
  rename_i l' hn
  cases h
  obtain⟨h0,h1⟩:=j0 hn hl
  have hsz:i.toNat < s.size:=h1
  have hb:s[i.toNat]? =some (s[i.toNat]):=ByteArray.getElem?_lt' s _ hsz
  have he:mA s i.toNat=(s[i.toNat]).toNat:=by
   unfold mA
   rw [mE,q0r h1]
   rfl
  simp only [Instr.index,rv,asIntOf,pure_bind,o7,K8 hu,p7,h0,C6,hb,he]
  rfl
 ·rename_i len e hu
  split at h
  case h_2=>cases h
  rename_i cs
  split at h
  case h_1=>cases h
  rename_i inf hi
  split at h
  case h_2=>cases h
  rename_i l' hn
  split at h
  case h_2=>cases h
  rename_i v' hp
  cases h
  have hr:=j0 hn hl
  rw [U6] at hp
  simp [Instr.index,rv,asIntOf,run_underlying hu,hr,n4 hi,Z6 hp ρ w]
 ·cases h
def sS (x:Value) (i:Nat):Option Value:=
 match x with
 | .tuple ⟨vs⟩=>vs[i]?
 | _=>none
theorem vF {P:Program} {x v:Value} {i:Nat} (h:sS x i=some v) (ρ:Num) (w:World):(Instr.extract (rv ρ x) i).run P w= .ok (rv ρ v) w:=by
 unfold sS at h
 split at h
 case h_2=>cases h
 simp [Instr.extract,rv,rvA,l5,h]
def t1f (P:Program):Nat->TypeId->Value->Value->Option Bool
 | 0,_,_,_=>none
 | d+1,t,x,y=>
  match R7 P t with
  | some .bool=>match x,y with
   | .bool a, .bool b=>some (a==b)
   | _,_=>none
  | some (.int _)=>match x,y with
   | .int k a, .int k' b=>match decide (k=k') with
    | true=>some (a==b)
    | false=>none
   | _,_=>none
  | some .string=>match x,y with
   | .string a, .string b=>some (a.data.toList==b.data.toList)
   | _,_=>none
  | some (.float _)=>match x,y with
   | .float k a, .float k' b=>match decide (k=k') with
    | true=>some (Op.floatEq k a b)
    | false=>none
   | _,_=>none
  | some (.struct fs)=>match x,y with
   | .agg ⟨xs⟩, .agg ⟨ys⟩=>match P.stoodInHeld t with
    | true=>none
    | false=>fs.toList.foldr (fun f acc=>match acc with
     | none=>none
     | some r=>match f.name != "_" with
      | false=>some r
      | true=>match x0e P f.type xs f.offset,x0e P f.type ys f.offset with
       | some a,some b=>match t1f P d f.type a b with
        | some q=>some (q && r)
        | none=>none
       | _,_=>none) (some true)
   | _,_=>none
  | _=>none
theorem dH {P:Program} (ρ:Num) (w:World):∀ (d:Nat) (t:TypeId) (x y:Value) (r:Bool),t1f P d t x y=some r->∀ D,d<=D->(Op.equalIn D t (rv ρ x) (rv ρ y)).run P w= .ok r w:=by
 intro d
 induction d with
 | zero=>intro t x y r h; simp [t1f] at h
 | succ d ih=>
  intro t x y r h D hD
  obtain⟨D,rfl⟩:∃ D',D=D'+1:=⟨D-1,by omega⟩
  have hD:d<=D:=by omega
  unfold t1f at h
  simp only [u9] at h
  split at h
  ·rename_i hu
   split at h
   ·cases h; simp only [rv]; exact run_equalIn_bool w D t _ _ hu
   ·cases h
  ·rename_i k0 hu
   split at h
   ·split at h
    ·rename_i hk; have hk:=G1 hk; subst hk; cases h; simp only [rv]; exact run_equalIn_int w D t _ k0 _ _ hu
    ·cases h
   ·cases h
  ·rename_i hu
   split at h
   ·cases h; simp only [rv]; rw [run_equalIn_string w D t _ _ hu,ByteArray.toList_eq,ByteArray.toList_eq]
   ·cases h
  ·rename_i k0 hu
   split at h
   ·split at h
    ·rename_i hk; have hk:=G1 hk; subst hk; cases h; simp only [rv,Op.equalIn,o7,K8 hu,p7,C6]; rfl
    ·cases h
   ·cases h
  ·rename_i fs hu
   split at h
   ·rename_i xs ys
    split at h
    ·cases h
    ·rename_i hst
     have hf:P.fieldsOf t=fs:=by simp [Program.fieldsOf,hu]
     have hu':P.underlying t=some (.struct (P.fieldsOf t)):=by rw [hf]; exact hu
     simp only [rv]
     rw [run_equalIn_struct w D t _ _ hu' hst,hf]
     clear hu hu' hf
     generalize fs.toList=l at h
     induction l generalizing r with
     | nil=>simp only [List.foldr_nil,G3] at h; subst h; simp [Op.eqFields]
     | cons f l ihl=>
      simp only [List.foldr_cons] at h
      split at h
      case h_1=>cases h
      rename_i q hq
      have ihl:=ihl q hq
      split at h
      ·rename_i hn
       cases h
       have hn':f.name= "_" :=by simpa using hn
       simp [Op.eqFields,hn',ihl]
      ·rename_i hn
       have hn':f.name≠ "_" :=by simpa using hn
       split at h
       case h_2=>cases h
       rename_i a b ha hb
       split at h
       case h_2=>cases h
       rename_i e he
       cases h
       have h1:=Z6 ha ρ w
       have h2:=Z6 hb ρ w
       have h3:=ih f.type a b e he D hD
       simp only [Op.eqFields,ne_eq,hn',not_false_eq_true,C6,o7,h1,h2,h3,p7]
       cases e <;> simp [ihl]
   ·cases h
  ·cases h
def e2m:Operand->Bool
 | .const _=>true
 | _=>false
def x0w (x:Option Value):Option (Value×List Prop):=
 match x with
 | some v=>some (v,[])
 | none=>none
def l1c (P:Program) (auto:Bool) (op:BinOp) (t:TypeId) (xo yo:Operand) (x y:Value):Option (Value×List Prop):=
 match x,y with
 | .int k a, .int k' b=>
  match e2m yo with
  | true=>x0w (O6 (K1 P (binOp op t (.int k a) (.int k' b))))
  | false=>
   match op with
   | .quo=>match decide (k=k') with
    | true=>match L9 auto (b≠0) with
     | some l=>some (.int k (k.wrap (a.tdiv b)),l)
     | none=>none
    | false=>none
   | .rem=>match decide (k=k') with
    | true=>match L9 auto (b≠0) with
     | some l=>some (.int k (a.tmod b),l)
     | none=>none
    | false=>none
   | .shl=>match L9 auto (0<=b) with
    | some l=>some (.int k (k.wrap (a*2 ^(min b.toNat k.bits))),l)
    | none=>none
   | .shr=>match L9 auto (0<=b) with
    | some l=>some (.int k (a.fdiv (2 ^(min b.toNat k.bits))),l)
    | none=>none
   | _=>x0w (O6 (K1 P (binOp op t (.int k a) (.int k' b))))
 | .string a, .string b=>
  match op with
  | .add=>match L9 auto (a.data.toList.length+b.data.toList.length<=9223372036854775807) with
   | some l=>some (.string ⟨⟨a.data.toList++b.data.toList⟩⟩,l)
   | none=>none
  | .eql=>some (.bool (a.data.toList==b.data.toList),[])
  | .neq=>some (.bool (!(a.data.toList==b.data.toList)),[])
  | .lss=>some (.bool (Op.bytesLess a.data.toList b.data.toList),[])
  | .leq=>some (.bool (Op.bytesLess a.data.toList b.data.toList || a.data.toList==b.data.toList),[])
  | .gtr=>some (.bool (!(Op.bytesLess a.data.toList b.data.toList || a.data.toList==b.data.toList)),[])
  | .geq=>some (.bool (!Op.bytesLess a.data.toList b.data.toList),[])
  | _=>none
 | .float k a, .float k' b=>
  match decide (k=k') with
  | false=>none
  | true=>match op with
   | .add=>match L9 auto ((k.format.add a b).isSome=true) with
    | some l=>some (.float k ((k.format.add a b).getD 0),l)
    | none=>none
   | .sub=>match L9 auto ((k.format.sub a b).isSome=true) with
    | some l=>some (.float k ((k.format.sub a b).getD 0),l)
    | none=>none
   | .mul=>match L9 auto ((k.format.mul a b).isSome=true) with
    | some l=>some (.float k ((k.format.mul a b).getD 0),l)
    | none=>none
   | .quo=>match L9 auto ((k.format.div a b).isSome=true) with
    | some l=>some (.float k ((k.format.div a b).getD 0),l)
    | none=>none
   | _=>x0w (O6 (K1 P (Op.floatCmp op k a b)))
 | .agg xs, .agg ys=>
  match P.eqGuardType P.depth t with
  | true=>none
  | false=>match op with
   | .eql=>match t1f P 20 t (.agg xs) (.agg ys) with
    | some b=>some (.bool b,[])
    | none=>none
   | .neq=>match t1f P 20 t (.agg xs) (.agg ys) with
    | some b=>some (.bool (!b),[])
    | none=>none
   | _=>none
 | .bool a, .bool b=>
  match op with
  | .eql=>match t1f P 20 t (.bool a) (.bool b) with
   | some b=>some (.bool b,[])
   | none=>none
  | .neq=>match t1f P 20 t (.bool a) (.bool b) with
   | some b=>some (.bool (!b),[])
   | none=>none
  | _=>none
 | .func _ _ _, .nilFunc=>
  match R7 P t with
  | some (.func _ _ _)=>match op with
   | .eql=>some (.bool false,[])
   | .neq=>some (.bool true,[])
   | _=>none
  | _=>none
 | x,y=>
  match pureV x && pureV y with
  | true=>x0w (O6 (K1 P (do eqGuard op t xo yo x y; binOp op t x y)))
  | false=>none
theorem Z3 {P:Program} {s:Sem Value} {v:Value} {l:List Prop} (h:x0w (O6 (K1 P s))=some (v,l)) (ρ:Num) (w:World):s.run P w= .ok (rv ρ v) w:=by
 unfold x0w at h
 split at h
 ·rename_i u hu; cases h; exact U5 hu ρ w
 ·cases h
theorem z8 {P:Program} {w:World} {op:BinOp} {t:TypeId} {xo yo:Operand} {x y:Value} (h1:¬ (x= .nilIface∧y= .nilIface)) (h2:¬ ((∃ a,x= .agg a)∧∃ b,y= .agg b)):
  (eqGuard op t xo yo x y).run P w= .ok () w:=by
 unfold eqGuard
 split
 all_goals first
  | (simp only [Bool.not_true,M7,C5]
     split
     ·exact absurd ⟨rfl,rfl⟩ h1
     ·exact absurd ⟨⟨_,rfl⟩,_,rfl⟩ h2
     ·rfl)
  | rfl
theorem P7 {P:Program} {w:World} (D:Nat) {t:TypeId} {fn:Fn} {f c:Array Value} {ps rs:Array TypeId} {v:Bool} (h:P.underlying t=some (.func ps rs v)):
  (Op.equalIn (D+1) t (.func fn f c) .nilFunc).run P w= .ok false w:=by
 simp only [Op.equalIn,o7,K8 h,p7]
 rfl
set_option maxHeartbeats 1000000 in
theorem p0q {P:Program} {auto:Bool} {op:BinOp} {t:TypeId} {xo yo:Operand} {x y v:Value} {l:List Prop} (h:l1c P auto op t xo yo x y=some (v,l)) (hl:d9 l) (ρ:Num) (w:World):
  (do eqGuard op t xo yo (rv ρ x) (rv ρ y); binOp op t (rv ρ x) (rv ρ y):Sem Value).run P w= .ok (rv ρ v) w:=by
 unfold l1c at h
 simp only [u9] at h
 split at h
 ·
  rename_i k a k' b
  simp only [rv,o7]
  rw [z8 (by simp) (by simp)]
  simp only [p7]
  split at h
  ·exact Z3 h ρ w
  ·split at h
   ·split at h
    ·rename_i hk; have hk:=G1 hk; subst hk
     split at h
     ·rename_i l' hn; cases h
      have hb:=j0 hn hl
      simp [binOp,Op.intDiv,hb,rv]
     ·cases h
    ·cases h
   ·split at h
    ·rename_i hk; have hk:=G1 hk; subst hk
     split at h
     ·rename_i l' hn; cases h
      have hb:=j0 hn hl
      simp [binOp,Op.intDiv,hb,rv]
     ·cases h
    ·cases h
   ·split at h
    ·rename_i l' hn; cases h
     have hb:=j0 hn hl
     have:¬ b < 0:=by omega
     simp [binOp,Op.shift,this,rv]
    ·cases h
   ·split at h
    ·rename_i l' hn; cases h
     have hb:=j0 hn hl
     have:¬ b < 0:=by omega
     simp [binOp,Op.shift,this,rv]
    ·cases h
   ·exact Z3 h ρ w
 ·
  rename_i a b
  simp only [rv,o7]
  rw [z8 (by simp) (by simp)]
  simp only [p7]
  have ea:=ByteArray.toList_eq a
  have eb:=ByteArray.toList_eq b
  split at h
  ·split at h
   ·rename_i l' hn; cases h
    have hb:=j0 hn hl
    have hsz:¬ (((a.size+b.size:Nat):Int) > iI.max):=by
     have h1:a.size=a.data.toList.length:=rfl
     have h2:b.size=b.data.toList.length:=rfl
     have h3:iI.max=9223372036854775807:=by decide
     rw [h3,h1,h2]
     omega
    have happ:a++b=(⟨⟨a.data.toList++b.data.toList⟩⟩:ByteArray):=by
     apply ByteArray.ext
     simp
    simp only [binOp,Op.stringOp,hsz,C5,rv,happ]
    rfl
   ·cases h
  all_goals first
   | (cases h; simp [binOp,Op.stringOp,ea,eb,rv]; done)
   | cases h
 ·
  rename_i k a k' b
  simp only [rv,o7]
  rw [z8 (by simp) (by simp)]
  simp only [p7]
  split at h
  ·cases h
  ·rename_i hk; have hk:=G1 hk; subst hk
   have key:∀ (o:Option Nat),o.isSome=true->(match o with | some r=>(pure (zO4 k r):Sem Value) | none=>do pure (.float k (<- choose (.nanBits k a b)))).run P w= .ok (.float k (o.getD 0)) w:=by
    intro o ho
    cases o with
    | none=>simp at ho
    | some r=>rfl
   split at h
   ·split at h
    ·rename_i l' hn; cases h
     have hb:=j0 hn hl
     have:=key _ hb
     simp only [binOp,Op.floatArith,rv,pure_bind,ne_eq,not_true_eq_false,C5]
     exact this
    ·cases h
   ·split at h
    ·rename_i l' hn; cases h
     have hb:=j0 hn hl
     have:=key _ hb
     simp only [binOp,Op.floatArith,rv,pure_bind,ne_eq,not_true_eq_false,C5]
     exact this
    ·cases h
   ·split at h
    ·rename_i l' hn; cases h
     have hb:=j0 hn hl
     have:=key _ hb
     simp only [binOp,Op.floatArith,rv,pure_bind,ne_eq,not_true_eq_false,C5]
     exact this
    ·cases h
   ·split at h
    ·rename_i l' hn; cases h
     have hb:=j0 hn hl
     have:=key _ hb
     simp only [binOp,Op.floatArith,rv,pure_bind,ne_eq,not_true_eq_false,C5]
     exact this
    ·cases h
   ·rename_i hop1 hop2 hop3 hop4
    have hx:=Z3 h ρ w
    have hb:binOp op t (.float k a) (.float k b)=Op.floatCmp op k a b:=by
     cases op <;> first | (exfalso; first | exact hop1 rfl | exact hop2 rfl | exact hop3 rfl | exact hop4 rfl) | simp [binOp]
    rw [hb]
    exact hx
 ·
  rename_i xs ys
  split at h
  ·cases h
  ·rename_i hg
   simp only [rv,o7]
   rw [run_eqGuard_agg w op t xo yo _ _ hg]
   simp only [p7]
   split at h
   ·split at h
    ·rename_i b hb; cases h
     have:=dH ρ w 20 t _ _ b hb 10000 (by decide)
     simp only [rv] at this
     rw [run_eql_struct,this]; rfl
    ·cases h
   ·split at h
    ·rename_i b hb; cases h
     have:=dH ρ w 20 t _ _ b hb 10000 (by decide)
     simp only [rv] at this
     rw [run_neq_struct,this]; rfl
    ·cases h
   ·cases h
 ·
  rename_i a b
  simp only [rv,o7]
  rw [z8 (by simp) (by simp)]
  simp only [p7]
  split at h
  ·split at h
   ·rename_i r hb; cases h
    have:=dH ρ w 20 t _ _ r hb 10000 (by decide)
    simp only [rv] at this
    simp only [binOp,o7,Op.equal,Op.maxDepth,this,p7,rv]
    rfl
   ·cases h
  ·split at h
   ·rename_i r hb; cases h
    have:=dH ρ w 20 t _ _ r hb 10000 (by decide)
    simp only [rv] at this
    simp only [binOp,o7,Op.equal,Op.maxDepth,this,p7,rv]
    rfl
   ·cases h
  ·cases h
 ·
  simp only [rv,o7]
  rw [z8 (by simp) (by simp)]
  simp only [p7]
  split at h
  ·rename_i hu
   split at h
   ·cases h
    simp only [binOp,o7,Op.equal,Op.maxDepth,P7 9999 hu,p7,rv]
    rfl
   ·cases h
    simp only [binOp,o7,Op.equal,Op.maxDepth,P7 9999 hu,p7,rv]
    rfl
   ·cases h
  ·cases h
 ·split at h
  ·rename_i hp
   simp only [u6] at hp
   rw [A1 ρ _ hp.1,A1 ρ _ hp.2]
   exact Z3 h ρ w
  ·cases h
end
noncomputable section
def w0u (P:Program) (t:TypeId):Option Value:=
 match eQ P t with
 | none=>none
 | some i=>match i.zero with
  | none=>none
  | some z=>match pureV z with
   | true=>some z
   | false=>none
theorem Z9 {P:Program} {t:TypeId} {z:Value} (h:w0u P t=some z):(∀ w,(zeroValue t).run P w= .ok z w)∧pureV z=true:=by
 unfold w0u at h
 simp only [v8] at h
 split at h
 case h_1=>cases h
 rename_i i hi
 split at h
 case h_1=>cases h
 rename_i z' hz
 split at h
 case h_2=>cases h
 rename_i hp
 cases h
 exact⟨fun w=>by simp [zeroValue,typeInfo,hi,hz],hp⟩
theorem vN {P:Program} {t:TypeId} {v:Value} {w:World} :(newVar t v).run P w= .ok ⟨w.heap.size,0,none⟩ (w.alloc (.cells v.cells t)):=by
 simp only [newVar,newRow,o7,newObj,Sem.run,p7]
 rfl
theorem oY {P:Program} {B:Nat} {M:Nat->Prop} {ρ:Num} {H:Heap} {w:World} (hS:Sim P B M ρ H w) {n:Nat} (hn:ρ n=some w.heap.size) (hB:B<=w.heap.size) (t:TypeId) (v:Value):
  Sim P B M ρ ((n, .cells v.cells.toList t) ::H) (w.alloc (.cells (rv ρ v).cells t)):=by
 refine hS.new hn ⟨w.heap.size,rfl,?_, .inl hB⟩
 rw [h0i]
 have:(rv ρ v).cells=(rvL ρ v.cells.toList).toArray:=by
  rw [M2,l5,<- xE]
 rw [this]
theorem g1l:∀ (vs:List Value) (off k:Nat) (cells:List Value),off+k+vs.length<=cells.length->
  (vs.zipIdx k).foldl (fun (cs:Array Value) (p:Value×Nat)=>cs.setIfInBounds (off+p.2) p.1) ⟨cells⟩=⟨cells.take (off+k)++vs++cells.drop (off+k+vs.length)⟩
 | [],off,k,cells,_=>by simp
 | v ::vs,off,k,cells,h=>by
  simp only [List.zipIdx_cons,p0m]
  have hset:(⟨cells⟩:Array Value).setIfInBounds (off+k) v=⟨cells.set (off+k) v⟩:=by simp
  rw [hset,g1l vs off (k+1) _ (by simp at h ⊢; omega)]
  have:=list_seg_step cells (off+k) v vs (by simp at h; omega)
  congr 1
def o0h (place:Nat->Option (Nat×Nat)) (cells:List Value):List (Nat×Value)->Option (List Value)
 | [] =>some cells
 | (i,v) ::rest=>match place i with
  | none=>none
  | some (off,size)=>match zO0 v.cells.toList.length size && Nat.ble (off+v.cells.toList.length) cells.length with
   | true=>o0h place (cells.take off++v.cells.toList++cells.drop (off+v.cells.toList.length)) rest
   | false=>none
theorem Z7 (ρ:Num) (place:Nat->Option (Nat×Nat)):∀ (parts:List (Nat×Value)) (cells out:List Value),o0h place cells parts=some out->
  Instr.fill place (rvL ρ cells).toArray (parts.map fun p=>(p.1,rv ρ p.2))=some (rvL ρ out).toArray
 | [],cells,out,h=>by simp only [o0h] at h; cases h; rfl
 | (i,v) ::rest,cells,out,h=>by
  simp only [o0h] at h
  split at h
  case h_1=>cases h
  rename_i off size hp
  split at h
  case h_2=>cases h
  rename_i hc
  simp only [u6,y4,H7] at hc
  obtain⟨h1,h2⟩:=hc
  have ih:=Z7 ρ place rest _ out h
  have hvl:(rv ρ v).cells.size=v.cells.toList.length:=by rw [M2]; simp
  have hcl:(rvL ρ cells).toArray.size=cells.length:=by simp [l5]
  simp only [j0y,Instr.fill,hp]
  rw [a8 (by simp only [hvl,hcl,h1,lC,V9]; omega)]
  have hf:=g1l (rv ρ v).cells.toList off 0 (rvL ρ cells) (by rw [bA,hvl,l5]; simpa using h2)
  have hz:((rv ρ v).cells.zipIdx).foldl (fun (cs:Array Value) (p:Value×Nat)=>cs.setIfInBounds (off+p.2) p.1) (rvL ρ cells).toArray=⟨(rvL ρ cells).take (off+0)++(rv ρ v).cells.toList++(rvL ρ cells).drop (off+0+(rv ρ v).cells.toList.length)⟩:=by
   rw [<- Array.foldl_toList,Array.toList_zipIdx]
   exact hf
  have hgoal:(⟨(rvL ρ cells).take (off+0)++(rv ρ v).cells.toList++(rvL ρ cells).drop (off+0+(rv ρ v).cells.toList.length)⟩:Array Value)=(rvL ρ (cells.take off++v.cells.toList++cells.drop (off+v.cells.toList.length))).toArray:=by
   congr 1
   simp only [l5,bK,eK,eI,M2,I2,xE,z6]
  rw [hgoal] at hz
  rw [<- ih,<- hz]
def gV (ev:Operand->Option Value):List (Nat×Operand)->Option (List (Nat×Value))
 | [] =>some []
 | (i,x) ::r=>match ev x,gV ev r with
  | some v,some l=>some ((i,v) ::l)
  | _,_=>none
theorem Z0 {ev:Operand->Option Value} {a:Operand->Value} {ρ:Num} :∀ (l:List (Nat×Operand)) (r:List (Nat×Value)),(∀ p∈l,∀ y,ev p.2=some y->a p.2=rv ρ y)->gV ev l=some r->
  l.map (fun p=>(p.1,a p.2))=r.map fun p=>(p.1,rv ρ p.2)
 | [],r,_,h=>by simp only [gV] at h; cases h; rfl
 | (i,x) ::l,r,he,h=>by
  simp only [gV] at h
  split at h
  ·rename_i v l' hv hl'
   cases h
   simp [he (i,x) (by simp) v hv,Z0 l l' (fun p hp=>he p (by simp [hp])) hl']
  ·cases h
def cG (ev:Operand->Option Value):List Operand->Option (List Value)
 | [] =>some []
 | x ::r=>match ev x,cG ev r with
  | some v,some l=>some (v ::l)
  | _,_=>none
theorem q9 {ev:Operand->Option Value} {a:Operand->Value} {ρ:Num} :∀ (l:List Operand) (r:List Value),(∀ x∈l,∀ y,ev x=some y->a x=rv ρ y)->cG ev l=some r->l.map a=rvL ρ r
 | [],r,_,h=>by simp only [cG] at h; cases h; rfl
 | x ::l,r,he,h=>by
  simp only [cG] at h
  split at h
  ·rename_i v l' hv hl'
   cases h
   simp [he x (by simp) v hv,q9 l l' (fun p hp=>he p (by simp [hp])) hl',rvL]
  ·cases h
def g0s (P:Program):List Field->Option (List (Nat×Nat))
 | [] =>some []
 | f ::r=>match eQ P f.type,g0s P r with
  | some i,some l=>some ((f.offset,i.size) ::l)
  | _,_=>none
theorem nE {P:Program} :∀ (fs:List Field) (l:List (Nat×Nat)),g0s P fs=some l->∀ w,(fs.mapM fun f=>(do pure (f.offset,<- sizeOf f.type):Sem (Nat×Nat))).run P w= .ok l w
 | [],l,h,w=>by simp only [g0s] at h; cases h; rfl
 | f ::fs,l,h,w=>by
  simp only [g0s,v8] at h
  split at h
  ·rename_i i l' hi hl'
   cases h
   have ih:=nE fs l' hl' w
   simp only [List.mapM_cons,o7,n4 hi,p7,J4,ih]
  ·cases h
def q0a (P:Program) (t:TypeId) (parts:List (Nat×Value)):Option Value:=
 match w0u P t with
 | none=>none
 | some z=>match R7 P t with
  | some (.struct fs)=>match g0s P fs.toList with
   | none=>none
   | some places=>match o0h (fun i=>places[i]?) z.cells.toList parts with
    | some cs=>some (.agg ⟨cs⟩)
    | none=>none
  | some (.array _ e)=>match eQ P e with
   | none=>none
   | some i=>match o0h (fun j=>some (j*i.size,i.size)) z.cells.toList parts with
    | some cs=>some (.agg ⟨cs⟩)
    | none=>none
  | _=>none
theorem u0q {z:Value} (h:pureV z=true) (ρ:Num):rvL ρ z.cells.toList=z.cells.toList:=by
 have:=M2 ρ z
 rw [A1 ρ z h] at this
 rw [l5,<- xE,<- this]
theorem e0c {P:Program} {t:TypeId} {parts:List (Nat×Value)} {v:Value} (h:q0a P t parts=some v) (ρ:Num) (w:World):
  (Instr.build t (parts.map fun p=>(p.1,rv ρ p.2)).toArray).run P w= .ok (rv ρ v) w:=by
 unfold q0a at h
 simp only [u9,v8] at h
 split at h
 case h_1=>cases h
 rename_i z hz
 obtain⟨hz1,hz2⟩:=Z9 hz
 have hzc:(⟨rvL ρ z.cells.toList⟩:Array Value)=z.cells:=by rw [u0q hz2]
 split at h
 ·rename_i fs hu
  split at h
  case h_1=>cases h
  rename_i places hp
  split at h
  case h_2=>cases h
  rename_i cs hc
  cases h
  have hm:=nE _ _ hp w
  have hf:=Z7 ρ _ parts z.cells.toList cs hc
  rw [show (rvL ρ z.cells.toList).toArray=z.cells from hzc] at hf
  simp only [Instr.build,o7,hz1,p7,K8 hu]
  rw [Array.mapM_eq_mapM_toList]
  simp only [Sem.run_map,hm,p7]
  have hpl:(fun i:Nat=>places.toArray[i]?)=fun i:Nat=>places[i]? :=by funext i; simp
  rw [hpl,hf]
  simp [rv,rvA]
 ·rename_i n e hu
  split at h
  case h_1=>cases h
  rename_i i hi
  split at h
  case h_2=>cases h
  rename_i cs hc
  cases h
  have hf:=Z7 ρ _ parts z.cells.toList cs hc
  rw [show (rvL ρ z.cells.toList).toArray=z.cells from hzc] at hf
  simp only [Instr.build,o7,hz1,p7,K8 hu,n4 hi,hf]
  simp [rv,rvA]
 ·cases h
def rep (z:List Value):Nat->List Value
 | 0=>[]
 | n+1=>z++rep z n
def bW (P:Program) (t:TypeId) (len:Nat) (parts:List (Nat×Value)):Option (TypeId×List Value):=
 match R7 P t with
 | some (.slice e)=>match eQ P e,w0u P e with
  | some i,some z=>
   match zO0 i.size z.cells.toList.length && Nat.ble (len*i.size) 16777216 && !(zO0 (len*i.size) 0) with
   | false=>match zO0 len 0,parts with
    | true,[] =>some (e,[])
    | _,_=>none
   | true=>match o0h (fun j=>some (j*i.size,i.size)) (rep z.cells.toList len) parts with
    | some cs=>some (e,cs)
    | none=>none
  | _,_=>none
 | _=>none
theorem d1v (z:List Value) (hz:0 < z.length):∀ (n i:Nat),i < n*z.length->(rep z n)[i]? =z[i%z.length]?
 | 0,i,h=>by simp at h
 | n+1,i,h=>by
  simp only [rep]
  by_cases hi:i < z.length
  ·rw [y0i hi,J5 hi]
  ·rw [x0b (by omega),d1v z hz n (i-z.length) (by rw [x6] at h; omega)]
   congr 1
   rw [Nat.mod_eq_sub_mod (by omega:i>=z.length)]
theorem a0y (z:List Value):∀ n,(rep z n).length=n*z.length
 | 0=>by simp [rep]
 | n+1=>by simp [rep,a0y z n,Nat.add_mul]; omega
theorem j2p (z:Array Value) (hz:0 < z.size) (n:Nat):(Array.range (n*z.size)).map (fun j=>z[j%z.size]!)=(rep z.toList n).toArray:=by
 apply Array.ext_getElem?
 intro i
 by_cases h:i < n*z.size
 ·have hm:i%z.size < z.size:=C7 _ hz
  have:=d1v z.toList (by simpa using hz) n i (by simpa using h)
  simp only [bA] at this
  simp [h,this,hm]
 ·have h1:(rep z.toList n).length=n*z.size:=by simp [a0y]
  rw [Array.getElem?_eq_none (by simp; omega),lS,j0a (by omega)]
theorem c1v (ρ:Num) (z:List Value) (h:rvL ρ z=z):∀ n,rvL ρ (rep z n)=rep z n
 | 0=>by simp [rep,rvL]
 | n+1=>by
  have ih:=c1v ρ z h n
  rw [l5] at h ih
  simp only [rep,l5,bK,ih,h]
theorem jO {P:Program} {t e:TypeId} {len:Nat} {parts:List (Nat×Value)} {cs:List Value} (h:bW P t len parts=some (e,cs)) (ρ:Num) (w:World):
  (Instr.buildSlice t len (parts.map fun p=>(p.1,rv ρ p.2)).toArray).run P w= .ok (.slice (some ⟨w.heap.size,0,none⟩) len len) (w.alloc (.cells (rvL ρ cs).toArray e)):=by
 unfold bW at h
 simp only [u9,v8] at h
 split at h
 case h_2=>cases h
 rename_i e' hu
 split at h
 case h_2=>cases h
 rename_i i z hi hz
 obtain⟨hz1,hz2⟩:=Z9 hz
 split at h
 ·split at h
  case h_2=>cases h
  rename_i h0
  cases h
  have h0:=N8 h0
  subst h0
  have e0:Instr.fill (fun j=>some (j*i.size,i.size)) ((Array.range 0).map (fun x=>(#[] :Array Value)[x%(#[] :Array Value).size]!)) [] =some #[] :=by
   have:Array.range 0= #[] :=rfl
   rw [this]
   simp [Instr.fill]
  simp only [Instr.buildSlice,o7,K8 hu,p7,n4 hi,K6,List.map_nil]
  rw [a8 (by decide),i6 trivial]
  simp only [o7,J4,p7]
  rw [e0]
  simp only [o7,newRow,newObj,Sem.run,p7]
  rfl
 rename_i hc
 simp only [u6,y4,H7,q0i] at hc
 obtain⟨⟨h1,h2⟩,h3⟩:=hc
 have h3:len*i.size≠0:=fun e=>by rw [e] at h3; simp at h3
 split at h
 case h_2=>cases h
 rename_i cs' hf
 cases h
 have hzs:0 < z.cells.size:=by
  rcases R2 z.cells.size with h | h
  ·rw [bA,h] at h1; rw [h1] at h3; simp at h3
  ·exact h
 have hff:=Z7 ρ _ parts _ _ hf
 rw [c1v ρ _ (u0q hz2 ρ) len] at hff
 have hr:=j2p z.cells hzs len
 have hsz:i.size=z.cells.size:=by rw [h1]; simp
 simp only [Instr.buildSlice,o7,K8 hu,p7,n4 hi]
 rw [a8 (by omega),a8 h3]
 simp only [o7,hz1,p7,J4,hsz,hr]
 rw [hsz] at hff
 rw [hff]
 simp only [o7,newRow,newObj,Sem.run,p7]
 rfl
def d0r (auto:Bool) (s:ByteArray) (lo hi:Option Value):Option (Value×List Prop):=
 match lo,hi with
 | none,none=>some (.string s,[])
 | some (.int _ l),none=>match L9 auto (0<=l∧l<=s.data.toList.length) with
  | some ps=>some (.string ⟨⟨s.data.toList.drop l.toNat⟩⟩,ps)
  | none=>none
 | none,some (.int _ h)=>match L9 auto (0<=h∧h<=s.data.toList.length) with
  | some ps=>some (.string ⟨⟨s.data.toList.take h.toNat⟩⟩,ps)
  | none=>none
 | some (.int _ l),some (.int _ h)=>match L9 auto ((0<=h∧h<=s.data.toList.length)∧0<=l∧l<=h) with
  | some ps=>some (.string ⟨⟨(s.data.toList.take h.toNat).drop l.toNat⟩⟩,ps)
  | none=>none
 | _,_=>none
theorem S9 (s:ByteArray) (a b:Nat):s.extract a b=⟨⟨(s.data.toList.take b).drop a⟩⟩:=by
 apply ByteArray.ext
 apply cV
 simp [List.extract_eq_take_drop,List.drop_take]
theorem D0 {P:Program} {k:IntKind} {i:Int} {y:Nat} {code:BoundsCode} (h0:0<=i) (h1:i<=y) (w:World):(Instr.sliceBound (.int k i) y code).run P w= .ok i.toNat w:=by
 simp [Instr.sliceBound,asIntOf,h0,h1]
theorem wG {P:Program} {auto:Bool} {t:TypeId} {s:ByteArray} {lo hi:Option Value} {v:Value} {l:List Prop} (hu:P.underlying t=some .string) (h:d0r auto s lo hi=some (v,l)) (hl:d9 l) (ρ:Num) (w:World):
  (Instr.sliceAt t (.string s) (lo.map (rv ρ)) (hi.map (rv ρ)) none).run P w= .ok (rv ρ v) w:=by
 have hsz:s.size=s.data.toList.length:=rfl
 unfold d0r at h
 split at h
 ·cases h
  simp only [Instr.sliceAt,Instr.slice,o7,K8 hu,p7,d0u,l1e,Instr.sliceBounds,pure_bind,J4,M7,C5,rv]
  rw [S9,hsz,y3,sU]
 ·rename_i k i
  split at h
  case h_2=>cases h
  rename_i ps hn
  cases h
  obtain⟨h0,h1⟩:=j0 hn hl
  have:=D0 (P:=P) (k:=k) (y:=s.size) (code:= .sliceB) h0 (by rw [hsz]; exact h1) w
  simp only [Instr.sliceAt,Instr.slice,o7,K8 hu,p7,d0u,A4,l1e,Instr.sliceBounds,pure_bind,J4,M7,C5,rv,this]
  rw [S9,hsz,y3]
 ·rename_i k i
  split at h
  case h_2=>cases h
  rename_i ps hn
  cases h
  obtain⟨h0,h1⟩:=j0 hn hl
  have:=D0 (P:=P) (k:=k) (y:=s.size) (code:= .sliceAlen) h0 (by rw [hsz]; exact h1) w
  simp only [Instr.sliceAt,Instr.slice,o7,K8 hu,p7,d0u,A4,l1e,Instr.sliceBounds,pure_bind,J4,M7,C5,rv,this]
  rw [S9,sU]
 ·rename_i k i k' j
  split at h
  case h_2=>cases h
  rename_i ps hn
  cases h
  obtain⟨⟨h0,h1⟩,h2,h3⟩:=j0 hn hl
  have e1:=D0 (P:=P) (k:=k') (y:=s.size) (code:= .sliceAlen) h0 (by rw [hsz]; exact h1) w
  have e2:=D0 (P:=P) (k:=k) (y:=j.toNat) (code:= .sliceB) h2 (by omega) w
  simp only [Instr.sliceAt,Instr.slice,o7,K8 hu,p7,A4,l1e,Instr.sliceBounds,pure_bind,J4,M7,C5,rv,e1,e2]
  rw [S9]
 ·cases h
def f1g (auto:Bool) (H:Heap) (x:Value) (ds:List Bool):Option (Value×Heap×List Prop×List Bool):=
 match x with
 | .pointer (some ⟨id,0,_⟩)=>
  match H.get id with
  | some (.iter s pos)=>
   match auto with
   | true=>match zO1 pos s.data.toList.length with
    | true=>match Utf8.decode s pos with
     | (c,wd)=>some (.tuple ⟨[.bool true, .int .i64 pos, .int .i32 c]⟩,H.set id (.iter s (pos+wd)),[],ds)
    | false=>some (.tuple ⟨[.bool false]⟩,H,[],ds)
   | false=>match ds with
    | true ::ds=>some (.tuple ⟨[.bool true, .int .i64 pos, .int .i32 (Utf8.decode s pos).1]⟩,H.set id (.iter s (pos+(Utf8.decode s pos).2)),[pos < s.data.toList.length],ds)
    | false ::ds=>some (.tuple ⟨[.bool false]⟩,H,[¬ pos < s.data.toList.length],ds)
    | [] =>none
  | _=>none
 | _=>none
theorem f0u {P:Program} {w:World} {b:Nat} {sp:Option Nat} {s:ByteArray} {pos:Nat} {ty:TypeId} (hb:w.heap[b]? =some (.stringIter s pos)) (h:pos < s.size):
  (Instr.next (.pointer (some ⟨b,0,sp⟩)) true ty).run P w= .ok (.tuple #[.bool true, .int .i64 pos, .int .i32 (Utf8.decode s pos).1]) { w with heap:=w.heap.setIfInBounds b (.stringIter s (pos+(Utf8.decode s pos).2))} :=by
 simp only [Instr.next,getObj,setObj,o7,Sem.run,hb,p7,h,C6]
 simp [goInt]
theorem b0i {P:Program} {w:World} {b:Nat} {sp:Option Nat} {s:ByteArray} {pos:Nat} {ty:TypeId} (hb:w.heap[b]? =some (.stringIter s pos)) (h:¬ pos < s.size):
  (Instr.next (.pointer (some ⟨b,0,sp⟩)) true ty).run P w= .ok (.tuple #[.bool false]) w:=by
 simp [Instr.next,getObj,Sem.run,hb,h]
theorem k0c {P:Program} {auto:Bool} {B:Nat} {M:Nat->Prop} {ρ:Num} {H H':Heap} {w:World} (hS:Sim P B M ρ H w) {x v:Value} {ds ds':List Bool} {l:List Prop} {ty:TypeId}
  (h:f1g auto H x ds=some (v,H',l,ds')) (hl:d9 l):∃ w',(Instr.next (rv ρ x) true ty).run P w= .ok (rv ρ v) w'∧Sim P B M ρ H' w'∧Keeps B M w w'∧w'.heap.size=w.heap.size:=by
 unfold f1g at h
 split at h
 case h_2=>cases h
 rename_i id sp
 split at h
 case h_2=>cases h
 rename_i s pos hg
 obtain⟨b,hb,hit,hown⟩:=hS.obj id _ hg
 have hsz:s.size=s.data.toList.length:=rfl
 have more:pos < s.size->∃ w',(Instr.next (rv ρ (.pointer (some ⟨id,0,sp⟩))) true ty).run P w= .ok (rv ρ (.tuple ⟨[.bool true, .int .i64 pos, .int .i32 (Utf8.decode s pos).1]⟩)) w'∧Sim P B M ρ (H.set id (.iter s (pos+(Utf8.decode s pos).2))) w'∧Keeps B M w w'∧w'.heap.size=w.heap.size:=by
  intro hlt
  have hblt:=i8 hit
  refine⟨_,?_,hS.turn (w':={ w with heap:=w.heap.setIfInBounds b (.stringIter s (pos+(Utf8.decode s pos).2))}) hg rfl hb ⟨b,rfl,by simp [hblt],hown⟩ (fun k hk=>by simp [Ne.symm hk]),⟨rfl,rfl,rfl,by simp,fun k hk hm=> ?_⟩,by simp⟩
  ·simp only [rv,p6,hb,A4,rvA,rvL]
   exact f0u hit hlt
  ·have:b≠k:=fun e=>by subst e; exact hown.elim (fun h=>by omega) (fun h=>hm h)
   simp [this]
 have over:¬ pos < s.size->∃ w',(Instr.next (rv ρ (.pointer (some ⟨id,0,sp⟩))) true ty).run P w= .ok (rv ρ (.tuple ⟨[.bool false]⟩)) w'∧Sim P B M ρ H w'∧Keeps B M w w'∧w'.heap.size=w.heap.size:=by
  intro hlt
  refine⟨w,?_,hS,Keeps.refl _ _ _,rfl⟩
  simp only [rv,p6,hb,A4,rvA,rvL]
  exact b0i hit hlt
 split at h
 ·split at h
  ·rename_i hlt
   split at h
   rename_i c wd he
   cases h
   have:=more (by rw [hsz]; simpa [Nat.blt_eq] using hlt)
   rw [he] at this
   exact this
  ·rename_i hlt
   cases h
   exact over (by rw [hsz]; intro hh; rw [show zO1 pos s.data.toList.length=true from by simpa [Nat.blt_eq] using hh] at hlt; cases hlt)
 ·split at h
  ·cases h; exact more hl.1
  ·cases h; exact over hl.1
  ·cases h
def P0 (f:Int->Int->Int) (k:IntKind):Int->List Value->Option Int
 | a,[] =>some a
 | a, .int _ b ::r=>P0 f k (f a b) r
 | _,_=>none
def rM (P:Program) (b:Builtin) (ts:List TypeId) (args:List Value):Option Value:=
 match b,args with
 | .len,[x] =>match ts with
  | [t] =>match R7 P t,x with
   | some .string, .string s=>some (.int .i64 s.data.toList.length)
   | some (.array n _),_=>some (.int .i64 n)
   | some (.slice _), .slice (some _) n _=>some (.int .i64 n)
   | some (.slice _), .slice none n _=>some (.int .i64 n)
   | some (.slice _), .chan (some _)=>some (.int .i64 0)
   | some (.slice _), .complex _ _ _=>some (.int .i64 0)
   | _,_=>none
  | _=>none
 | .cap,[x] =>match ts with
  | [t] =>match R7 P t,x with
   | some (.slice _), .slice (some ⟨_,_,none⟩) _ c=>some (.int .i64 c)
   | some (.slice _), .slice none _ c=>some (.int .i64 c)
   | _,_=>none
  | _=>none
 | .min, .int k a ::r=>match P0 (fun x y=>if y < x then y else x) k a r with
  | some c=>some (.int k c)
  | none=>none
 | .max, .int k a ::r=>match P0 (fun x y=>if y > x then y else x) k a r with
  | some c=>some (.int k c)
  | none=>none
 | _,_=>none
theorem nQ {P:Program} (ρ:Num) (w:World) (k:IntKind):∀ (r:List Value) (a c:Int),P0 (fun x y=>if y < x then y else x) k a r=some c->((rvL ρ r).foldlM Builtin.min2 (.int k a)).run P w= .ok (.int k c) w
 | [],a,c,h=>by simp only [P0] at h; cases h; rfl
 | v ::r,a,c,h=>by
  unfold P0 at h
  split at h
  ·rename_i heq; cases heq
  ·rename_i heq
   cases heq
   simp only [rvL,rv,List.foldlM_cons,Builtin.min2,o7,J4,p7]
   exact nQ ρ w k _ _ _ h
  ·cases h
theorem oE {P:Program} (ρ:Num) (w:World) (k:IntKind):∀ (r:List Value) (a c:Int),P0 (fun x y=>if y > x then y else x) k a r=some c->((rvL ρ r).foldlM Builtin.max2 (.int k a)).run P w= .ok (.int k c) w
 | [],a,c,h=>by simp only [P0] at h; cases h; rfl
 | v ::r,a,c,h=>by
  unfold P0 at h
  split at h
  ·rename_i heq; cases heq
  ·rename_i heq
   cases heq
   simp only [rvL,rv,List.foldlM_cons,Builtin.max2,o7,J4,p7]
   exact oE ρ w k _ _ _ h
  ·cases h
theorem bX {P:Program} {b:Builtin} {ts:List TypeId} {args:List Value} {v:Value} (h:rM P b ts args=some v) (ρ:Num) (w:World) (ty:TypeId) (consts:Array Bool):
  (builtin b ts.toArray ty consts (rvL ρ args).toArray).run P w= .ok (.value (rv ρ v)) w:=by
 unfold rM at h
 simp only [u9] at h
 split at h
 ·rename_i x
  split at h
  case h_2=>cases h
  rename_i t
  split at h
  ·rename_i s hu; cases h; simp [builtin,Builtin.len_,rvL,rv,run_underlying hu,goInt]
  ·rename_i n e hu; cases h; simp [builtin,Builtin.len_,rvL,rv,run_underlying hu,goInt]
  ·rename_i e a n c hu
   cases h
   obtain⟨x,m,ex⟩:=uD ρ a n c
   simp [builtin,Builtin.len_,rvL,rv,ex,run_underlying hu,goInt]
  ·rename_i e n c hu; cases h; simp [builtin,Builtin.len_,rvL,rv,run_underlying hu,goInt]
  ·rename_i e m hu
   cases h
   obtain⟨a,q,ex⟩:=lL ρ m
   simp [builtin,Builtin.len_,rvL,rv,ex,run_underlying hu,goInt]
  ·rename_i e kf fa fc hu
   cases h
   obtain⟨a,q,ex⟩:=lY ρ fa fc
   simp [builtin,Builtin.len_,rvL,rv,ex,run_underlying hu,goInt]
  ·cases h
 ·rename_i x
  split at h
  case h_2=>cases h
  rename_i t
  split at h
  ·rename_i hu; cases h; simp [builtin,Builtin.cap_,rvL,rv,rSl,run_underlying hu,goInt]
  ·rename_i hu; cases h; simp [builtin,Builtin.cap_,rvL,rv,run_underlying hu,goInt]
  ·cases h
 ·rename_i k a r
  split at h
  ·rename_i c hc
   cases h
   have:=nQ (P:=P) ρ w k r a c hc
   simp only [builtin,Builtin.min_,rvL,rv,o7,this,p7,J4]
  ·cases h
 ·rename_i k a r
  split at h
  ·rename_i c hc
   cases h
   have:=oE (P:=P) ρ w k r a c hc
   simp only [builtin,Builtin.max_,rvL,rv,o7,this,p7,J4]
  ·cases h
 ·cases h
def j0n:List Value->Option (List Int)
 | [] =>some []
 | v ::r=>match v with
  | .int .u8 n=>match j0n r with
   | some l=>some (n ::l)
   | none=>none
  | _=>none
theorem tT (ρ:Num):∀ {l:List Value} {ns:List Int},j0n l=some ns->rvL ρ l=ns.map (zO3 .u8)
 | [],ns,h=>by simp only [j0n] at h; cases h; simp [rvL]
 | v ::r,ns,h=>by
  simp only [j0n] at h
  split at h
  ·split at h
   ·rename_i l hr
    cases h
    simp [rvL,rv,tT ρ hr]
   ·cases h
  ·cases h
def q0j (P:Program) (H:Heap) (s d:TypeId) (x:Value):Option Value:=
 match x with
 | .slice a len _=>match R7 P s,R7 P d with
  | some (.slice e),some .string=>match R7 P e with
   | some (.int .u8)=>match a with
    | some ⟨id,off,_⟩=>match cW H id off len with
     | some cs=>match j0n cs with
      | some ns=>some (.string ⟨⟨ns.map fun n=>UInt8.ofNat n.toNat⟩⟩)
      | none=>none
     | none=>none
    | none=>some (.string ⟨⟨[]⟩⟩)
   | _=>none
  | _,_=>none
 | _=>none
theorem yM (ns:List Int):∀ b:ByteArray,ns.foldl (fun r n=>r.push (UInt8.ofNat n.toNat)) b=⟨⟨b.data.toList++ns.map fun n=>UInt8.ofNat n.toNat⟩⟩:=by
 induction ns with
 | nil=>intro b; cases b; simp
 | cons n ns ih=>
  intro b
  rw [p0m,ih]
  simp [ByteArray.push]
theorem c0e {P:Program} {B:Nat} {M:Nat->Prop} {ρ:Num} {H:Heap} {w:World} (hS:Sim P B M ρ H w) {s d:TypeId} {x v:Value} (h:q0j P H s d x=some v):(convert s d (rv ρ x)).run P w= .ok (rv ρ v) w:=by
 unfold q0j at h
 simp only [u9] at h
 split at h
 case h_2=>cases h
 rename_i a len cap
 split at h
 case h_2=>cases h
 rename_i e hs hd
 split at h
 case h_2=>cases h
 rename_i he
 split at h
 case h_2=>
  cases h
  have:(convert s d (.slice none len cap)).run P w= .ok (.string .empty) w:=by
   unfold convert
   simp [run_underlying hs,run_underlying hd,run_underlying he,Conv.bytesToString]
  simp only [rv]
  exact this
 rename_i id off sp
 split at h
 case h_2=>cases h
 rename_i cs hcs
 split at h
 case h_2=>cases h
 rename_i ns hb
 cases h
 obtain⟨b,hb1,hlen,hcell⟩:=Z1 hS hcs
 have hsp:=tT ρ hb
 have hlen':(rvL ρ cs).length=len:=by rw [l5,z6]; exact hlen
 have hc:=i0t (P:=P) w ⟨b,off,none⟩ (rvL ρ cs) (fun j v hj=>by rw [addr_add]; exact hcell j v hj)
 rw [hlen',hsp] at hc
 have hrv:∃ c',rv ρ (.slice (some ⟨id,off,sp⟩) len cap)= .slice (some ⟨b,off,none⟩) len c':=by
  cases sp with
  | none=>exact⟨cap,by simp [rv,rSl,p6,hb1]⟩
  | some k=>exact⟨_,by simp [rv,rSl,hb1]; rfl⟩
 obtain⟨c',hrv⟩:=hrv
 rw [hrv,run_convert_bytes_string w s d e _ _ _ hs he hd,run_bytesToString w _ _ _ ns hc,yM]
 simp [rv]
end
open Go Go.RowKit Go.Shelf
noncomputable section
inductive TV where
 | unk
 | v (x:Value)
 | sp (l:List (Nat×Bool)) (x:Value)
 | key (j:Nat) (l:List (Nat×Bool)) (b:Bool)
def x4 (ts:List TV) (t:Nat):TV:=match h1h ts t with
 | some x=>x
 | none=> .unk
theorem E1 (ts:List TV) (t:Nat):x4 ts t=match ts[t]? with
 | some x=>x
 | none=> .unk:=by
 unfold x4
 rw [U7]
def v1o (a b:Bool):Bool:=match a,b with
 | true,true=>true
 | false,false=>true
 | _,_=>false
def i2u (p:Nat×Bool):List (Nat×Bool)->Bool
 | [] =>false
 | q ::r=>(zO0 p.1 q.1 && v1o p.2 q.2) || i2u p r
def b2i:List (Nat×Bool)->List (Nat×Bool)->Bool
 | [],_=>true
 | p ::r,c=>i2u p c && b2i r c
def rd (c:List (Nat×Bool)):TV->Option Value
 | .unk=>none
 | .v x=>some x
 | .sp l x=>match b2i l c with
  | true=>some x
  | false=>none
 | .key _ l b=>match b2i l c with
  | true=>some (.bool b)
  | false=>none
def evo (ts:List TV) (c:List (Nat×Bool)):Operand->Option Value
 | .tmp t=>rd c (x4 ts t)
 | .const v=>match pureV v with
  | true=>some v
  | false=>none
 | .global g=>some (.pointer (some ⟨g,0,none⟩))
 | .func f=>some (.func (.func f) #[] #[])
def V (β:Nat->Bool) (l:List (Nat×Bool)):Prop:=∀ p∈l,β p.1=p.2
def D7 (ρ:Num) (β:Nat->Bool):TV->Value->Prop
 | .unk,_=>True
 | .v x,r=>r=rv ρ x
 | .sp l x,r=>(V β l->r=rv ρ x)∧(¬ V β l->r=undef)
 | .key j l b,r=>β j=b∧(V β l->r= .bool b)∧(¬ V β l->r=undef)
theorem j1m {a b:Bool} (h:v1o a b=true):a=b:=by cases a <;> cases b <;> simp_all [v1o]
theorem yJ {p:Nat×Bool} :∀ {c:List (Nat×Bool)},i2u p c=true->p∈c
 | [],h=>by simp [i2u] at h
 | q ::r,h=>by
  simp only [i2u,lC,u6] at h
  rcases h with ⟨h1,h2⟩ | h
  ·have e:p=q:=Prod.ext (N8 h1) (j1m h2)
   rw [e]; exact kG
  ·exact W2 _ (yJ h)
theorem X7 {β:Nat->Bool} {c:List (Nat×Bool)} :∀ {l:List (Nat×Bool)},b2i l c=true->V β c->V β l
 | [],_,_=>fun p hp=>by cases hp
 | q ::r,h,hc=>by
  simp only [b2i,u6] at h
  intro p hp
  rcases zzA83.1 hp with rfl | hp
  ·exact hc _ (yJ h.1)
  ·exact X7 h.2 hc p hp
theorem r1p {ρ:Num} {β:Nat->Bool} {c:List (Nat×Bool)} {x:TV} {v r:Value} (h:rd c x=some v) (hc:V β c) (hr:D7 ρ β x r):r=rv ρ v:=by
 cases x with
 | unk=>simp [rd] at h
 | v y=>simp only [rd] at h; cases h; exact hr
 | sp l y=>
  simp only [rd] at h
  split at h
  ·rename_i hs; cases h; exact hr.1 (X7 hs hc)
  ·cases h
 | key j l b=>
  simp only [rd] at h
  split at h
  ·rename_i hs; cases h; simp only [rv]; exact hr.2.1 (X7 hs hc)
  ·cases h
def Agree (n:Nat) (ρ ρ':Num):Prop:=∀ i,i < n->ρ' i=ρ i
theorem Agree.refl (n:Nat) (ρ:Num):Agree n ρ ρ:=fun _ _=>rfl
theorem Agree.trans {n m:Nat} {a b c:Num} (h:Agree n a b) (k:Agree m b c) (hnm:n<=m):Agree n a c:=fun i hi=>(k i (by omega)).trans (h i hi)
structure CR where
 v:Value
 h:Heap
 n:Nat
 obs:List Prop
 ds:List Bool
structure Inv (P:Program) where
 I:World->Prop
 st:∀ w w':World,(∀ k,k < P.globals.size->w'.heap[k]? =w.heap[k]?)->w.heap.size<=w'.heap.size->I w->I w'
 room:∀ w,I w->P.globals.size<=w.heap.size
 tabs:Heap
 tabsOk:∀ (w:World) (ρ:Num) (B:Nat) (M:Nat->Prop),I w->(∀ g,g < P.globals.size->ρ g=some g)->Sim P B M ρ tabs w
 tabsRo:∀ i o,tabs.get i=some o->o.rw=false
inductive Mk where
 | mark (i:Nat)
 | call (f:FuncId) (cap args:List Value)
structure St where
 tmps:List TV
 heap:Heap
 nid:Nat
 ds:List Bool
 obs:List Prop
 lp:Nat
 rd:Option Nat
 mks:List Mk
 bs:Nat
inductive AX where
 | normal
 | exit (id:Nat)
 | ret
def AX.toExit:AX->Exit
 | .normal=> .normal
 | .exit id=> .exit id
 | .ret=> .ret
structure Cx where
 P:Program
 J:Inv P
 auto:Bool
 pc:FuncId->List Value->Option (Value×List Prop)
 cl:FuncId->List Value->Heap->Nat->List Bool->Option CR
 xt:FuncId->List Value->Heap->Nat->Option CR
 rd:Code->St->Option (AX×St)
 gd:Bool
structure Par (P:Program) (B:Nat) (M:Nat->Prop):Prop where
 glo:P.globals.size<=B
 free:∀ k,k < P.globals.size->¬ M k
theorem Inv.keeps {P:Program} (J:Inv P) {B:Nat} {M:Nat->Prop} (hp:Par P B M) {w w':World} (h:Keeps B M w w') (hi:J.I w):J.I w':=
 J.st w w' (fun k hk=>h.block k (B9 hk hp.glo) (hp.free k hk)) h.size hi
def Pure (P:Program) (J:Inv P) (f:FuncId) (args:List Value) (v:Value):Prop:=
 pureL args=true∧pureV v=true∧((Enters P f∧∀ w,J.I w->Calls P f ⟨args⟩ w fun e w'=>e= .returned v∧Below w.heap.size w w')∨∀ w,J.I w->(callFunc f ⟨args⟩).run P w= .ok (.value v) w)
def R8 (P:Program) (J:Inv P) (pc:FuncId->List Value->Option (Value×List Prop)):Prop:=
 ∀ f args v l,pc f args=some (v,l)->d9 l->Pure P J f args v
def qZ (P:Program) (J:Inv P) (cl:FuncId->List Value->Heap->Nat->List Bool->Option CR):Prop:=
 ∀ f args H n ds r,cl f args H n ds=some r->d9 r.obs->n<=r.n∧Enters P f∧∀ (B:Nat) (M:Nat->Prop) (ρ:Num) (w:World) (vs:List Value),Par P B M->B<=w.heap.size->J.I w->
  (∀ ρ',Agree n ρ ρ'->Sim P B M ρ' H w∧vs=rvL ρ' args)->
  Calls P f ⟨vs⟩ w fun e w'=>∃ ρ1 v,Agree n ρ ρ1∧e= .returned v∧Keeps B M w w'∧∀ ρ',Agree r.n ρ1 ρ'->v=rv ρ' r.v∧Sim P B M ρ' r.h w'
def e2b (P:Program) (J:Inv P) (xt:FuncId->List Value->Heap->Nat->Option CR):Prop:=
 ∀ f args H n r,xt f args H n=some r->d9 r.obs->n<=r.n∧∀ (B:Nat) (M:Nat->Prop) (ρ:Num) (w:World) (vs:List Value),Par P B M->B<=w.heap.size->J.I w->
  (∀ ρ',Agree n ρ ρ'->Sim P B M ρ' H w∧vs=rvL ρ' args)->
  ∃ ρ1 v w',Agree n ρ ρ1∧(callFunc f ⟨vs⟩).run P w= .ok (.value v) w'∧Keeps B M w w'∧∀ ρ',Agree r.n ρ1 ρ'->v=rv ρ' r.v∧Sim P B M ρ' r.h w'
def Cx.call (X:Cx) (f:FuncId) (args:List Value) (H:Heap) (n:Nat) (ds:List Bool):Option CR:=
 match X.xt f args H n with
 | some ⟨v,h,n',ob,_⟩=>some ⟨v,h,n',ob,ds⟩
 | none=>X.cl f args H n ds
def Does (P:Program) (f:FuncId) (vs:List Value) (w:World) (R:Ending->World->Prop):Prop:=
 (Enters P f∧Calls P f ⟨vs⟩ w R)∨∃ v w',(callFunc f ⟨vs⟩).run P w= .ok (.value v) w'∧R (.returned v) w'
structure Bas where
 w:World
 n:Nat
 ρ:Num
 dfs:List Deferred
def yI:TV->Bool
 | .unk=>true
 | .v _=>true
 | _=>false
def Fl (rb:Option Nat):Fence:={ Fence.wide with round:=rb }
def mkD (ρ:Num):Mk->Deferred
 | .mark i=>⟨.collected ((ρ i).getD 0),#[]⟩
 | .call f cap args=>⟨.fn (.func f) ⟨rvL ρ cap⟩,⟨rvL ρ args⟩⟩
structure FR (ρ:Num) (rb:Option Nat) (s:St) (a:Act):Prop where
 defers:a.defers=s.mks.map (mkD ρ)
 round:rb=s.rd.bind ρ
structure Rep (P:Program) (J:Inv P) (B:Nat) (M:Nat->Prop) (w0:Bas) (rb:Option Nat) (s:St) (a:Act) (w:World):Prop where
 low:w0.n=s.bs
 plain:∀ t,yI (x4 s.tmps t)=true
 size:a.tmps.size=s.tmps.length
 base:B<=w.heap.size
 inv:J.I w
 keeps:Keeps B M w0.w w
 rep:∃ ρ,(w0.n<=s.nid∧Agree w0.n w0.ρ ρ)∧∀ ρ',Agree s.nid ρ ρ'->Sim P B M ρ' s.heap w∧FR ρ' rb s a∧∀ t x,x4 s.tmps t= .v x->a.tmps.getD t undef=rv ρ' x
def s2x (P:Program) (J:Inv P) (rd:Code->St->Option (AX×St)):Prop:=
 ∀ c s x s',rd c s=some (x,s')->d9 s'.obs->d9 s.obs∧∀ (B:Nat) (M:Nat->Prop) (w0:Bas) (rb:Option Nat) (a:Act) (w:World),Par P B M->Rep P J B M w0 rb s a w->
  ∀ Q:Exit->Act->World->Prop,(∀ a' w',Rep P J B M w0 rb s' a' w'->Q x.toExit a' w')->c.wpIn (Fl rb) 0 P Q a w
structure CxOk (X:Cx) (J:Inv X.P):Prop where
 pc:R8 X.P J X.pc
 cl:qZ X.P J X.cl
 xt:e2b X.P J X.xt
 rd:s2x X.P J X.rd
 tabs:∀ (w:World) (ρ:Num) (B:Nat) (M:Nat->Prop),J.I w->(∀ g,g < X.P.globals.size->ρ g=some g)->Sim X.P B M ρ X.J.tabs w
 ro:∀ i o,X.J.tabs.get i=some o->o.rw=false
theorem dT {rb:Option Nat} {n:Nat} {P:Program} {f:FuncId} {args:Array Value} {w:World} {R:Ending->World->Prop} (h:Calls P f args w R):CallsIn (Fl rb) n P f args w R:=by
 cases rb with
 | none=>exact callsIn_wide.2 h
 | some l=>exact CallsIn.inRound l (callsIn_wide.2 h)
theorem jK {rb:Option Nat} {P:Program} {o:Oper} {w:World} {ρ:Operand->Value} :∀ f,o.about P w ρ=some f->(Fl rb).fn f:=fun _ _=>trivial
theorem E7 {rb:Option Nat} {P:Program} {o:Oper} {a:Act} {w:World} {K:Act->World->Prop} {Q:Exit->Act->World->Prop} (hnd:∀ c,o.op≠ .defer c)
  (h:o.uponIn (Fl rb) 0 P a K Q ((execOp a.eval o).run P w)):o.wpIn (Fl rb) 0 P a w K Q:=
 ⟨jK,by rw [Oper.semAt_eq _ _ _ hnd]; exact h⟩
theorem b0a {X:Cx} {J:Inv X.P} (hX:CxOk X J) {f:FuncId} {args:List Value} {H:Heap} {n:Nat} {ds:List Bool} {r:CR} (h:X.call f args H n ds=some r) (hl:d9 r.obs):
  n<=r.n∧∀ (B:Nat) (M:Nat->Prop) (ρ:Num) (w:World) (vs:List Value),Par X.P B M->B<=w.heap.size->J.I w->(∀ ρ',Agree n ρ ρ'->Sim X.P B M ρ' H w∧vs=rvL ρ' args)->
  Does X.P f vs w fun e w'=>∃ ρ1 v,Agree n ρ ρ1∧e= .returned v∧Keeps B M w w'∧∀ ρ',Agree r.n ρ1 ρ'->v=rv ρ' r.v∧Sim X.P B M ρ' r.h w':=by
 unfold Cx.call at h
 split at h
 ·rename_i v0 h0 n' ob ds' hx
  cases h
  obtain⟨h1,h2⟩:=hX.xt _ _ _ _ _ hx hl
  refine⟨h1,fun B M ρ w vs hp hB hI hS=> ?_⟩
  obtain⟨ρ1,v,w',q1,q2,q3,q4⟩:=h2 B M ρ w vs hp hB hI hS
  exact .inr ⟨v,w',q2,ρ1,v,q1,rfl,q3,q4⟩
 ·obtain⟨h1,h2,h3⟩:=hX.cl _ _ _ _ _ _ h hl
  exact⟨h1,fun B M ρ w vs hp hB hI hS=> .inl ⟨h2,h3 B M ρ w vs hp hB hI hS⟩⟩
theorem Does.mono {P:Program} {f:FuncId} {vs:List Value} {w:World} {R R':Ending->World->Prop} (h:Does P f vs w R) (hh:∀ e w',R e w'->R' e w'):Does P f vs w R':=by
 rcases h with ⟨h1,h2⟩ | ⟨v,w',h1,h2⟩
 ·exact .inl ⟨h1,h2.mono hh⟩
 ·exact .inr ⟨v,w',h1,hh _ _ h2⟩
theorem h0y {rb:Option Nat} {P:Program} {o:Oper} {a:Act} {w:World} {K:Act->World->Prop} {Q:Exit->Act->World->Prop} {f:FuncId} {vs:List Value} (hnd:∀ c,o.op≠ .defer c)
  (hrun:(execOp a.eval o).run P w=(callFunc f ⟨vs⟩).run P w) (hd:Does P f vs w fun e w'=>∃ v,e= .returned v∧K (a.put o.dst v) w'):o.wpIn (Fl rb) 0 P a w K Q:=by
 refine E7 hnd ?_
 rcases hd with ⟨hent,hc⟩ | ⟨v,w',h1,h2⟩
 ·rw [hrun,hent _ _,Oper.uponIn_enter]
  refine⟨fun h=>(by cases h),dT (hc.mono fun e w' hh=> ?_)⟩
  obtain⟨v,he,hk⟩:=hh
  subst he
  exact hk
 ·rw [hrun,h1,lG]
  obtain⟨v',he,hk⟩:=h2
  cases he
  exact hk
def B1:Op->Bool
 | .move _=>true
 | .assign _=>true
 | .build _ _=>true
 | .load _ _=>true
 | .nilCheck _=>true
 | .binOp _ _ _ _ _=>true
 | .unOp _ _ _=>true
 | .convert _ _ _=>true
 | .makeInterface _ _=>true
 | .makeFunc _ _ _=>true
 | .slice _ _ _ _ _=>true
 | .fieldAddr _ _ _=>true
 | .field _ _ _=>true
 | .indexAddr _ _ _=>true
 | .index _ _ _=>true
 | .extract _ _=>true
 | .lookup _ _ _ _=>true
 | _=>false
structure R where
 v:Value
 h:Heap
 obs:List Prop
 ds:List Bool
def mkR (H:Heap) (ds:List Bool) (x:Option Value):Option R:=
 match x with
 | some v=>some ⟨v,H,[],ds⟩
 | none=>none
def v0p (H:Heap) (ds:List Bool) (x:Option (Value×List Prop)):Option R:=
 match x with
 | some (v,l)=>some ⟨v,H,l,ds⟩
 | none=>none
def k0m (P:Program) (t:TypeId):Bool:=
 match R7 P t with
 | none=>false
 | some (.interface _)=>false
 | some _=>true
def k2d (ev:Operand->Option Value):Option Operand->Option (Option Value)
 | none=>some none
 | some x=>match ev x with
  | some v=>some (some v)
  | none=>none
def bnd (v:Option Value) (d:Nat):Option Int:=
 match v with
 | none=>some d
 | some (.int _ i)=>some i
 | _=>none
theorem r0v (ρ:Num) {v:Option Value} {d:Nat} {i:Int} (h:bnd v d=some i):v.map (rv ρ)=v:=by
 unfold bnd at h
 split at h
 ·rfl
 ·simp [rv]
 ·cases h
theorem y0l {v:Value} (h:pureV v=true):∀ x∈v.cells.toList,pureV x=true:=by
 cases v with
 | agg cs=>
  obtain⟨l⟩:=cs
  simp only [pureV,pureA] at h
  rw [C3,zzA10] at h
  exact h
 | _=>intro x hx; simp only [Value.cells,zzA83,S5,S0] at hx; subst hx; exact h
def iO (P:Program) (auto:Bool) (H:Heap) (e:TypeId) (a:Option Addr) (n c:Nat) (lo hi:Option Value):Option (Value×List Prop):=
 match bnd lo 0,bnd hi n,eQ P e with
 | some l,some h,some inf=>match a with
  | none=>match L9 auto (0<=l∧l<=h∧h<=c) with
   | some ob=>some (.slice none (h.toNat-l.toNat) (c-l.toNat),ob)
   | none=>none
  | some ⟨id,off,none⟩=>match L9 auto (0<=l∧l<=h∧h<=c) with
   | some ob=>match lo with
    | none=>some (.slice (some ⟨id,off,none⟩) h.toNat c,ob)
    | some _=>match zO0 c l.toNat with
     | true=>some (.slice (some ⟨id,off,none⟩) (h.toNat-l.toNat) (c-l.toNat),ob)
     | false=>some (.slice (some ⟨id,r8 off (P8 l.toNat inf.size),none⟩) (h.toNat-l.toNat) (c-l.toNat),ob)
   | none=>none
  | some ⟨id,off,some k⟩=>match auto with
   | true=>match off,c,H.get id with
    | 0,0,some (.row _ sz r k')=>match zO0 k k' && zO1 0 sz,L9 true (l=0∧0<=h∧h<=n∧h.toNat*sz<=r.list.length) with
     | true,some ob=>some (.slice (some ⟨id,0,some k⟩) h.toNat 0,ob)
     | _,_=>none
    | _,_,_=>none
   | false=>match H.get id with
    | some (.row _ sz r k')=>match zO0 k k' && zO1 0 sz && zO0 inf.size sz with
     | true=>match lo with
      | none=>some (.slice (some ⟨id,off,some k⟩) h.toNat c,[off=c*sz∧0<=h∧off+h.toNat*sz<=r.len])
      | some _=>some (.slice (some ⟨id,r8 off (P8 l.toNat sz),some k⟩) (h.toNat-l.toNat) (r8 c l.toNat),[off=c*sz∧0<=l∧l<=h∧(l=0∨l < h)∧off+h.toNat*sz<=r.len])
     | false=>none
    | _=>none
 | _,_,_=>none
theorem h0n {P:Program} {auto:Bool} {H:Heap} {e:TypeId} {a:Option Addr} {n c:Nat} {lo hi:Option Value} {r:Value×List Prop} {ρ:Num} (h:iO P auto H e a n c lo hi=some r):lo.map (rv ρ)=lo∧hi.map (rv ρ)=hi:=by
 unfold iO at h
 simp only [v8] at h
 split at h
 case h_2=>cases h
 rename_i hlo hhi _
 exact⟨r0v ρ hlo,r0v ρ hhi⟩
def pU (z:List Value):Nat->List Value
 | 0=>[]
 | c+1=>z++pU z c
def f1m (P:Program) (auto:Bool) (t:TypeId) (l c:Int):Option (TypeId×List Value×List Prop):=
 match R7 P t with
 | some (.slice e)=>match eQ P e with
  | some inf=>match inf.zero with
   | some z=>match pureV z && zO0 z.cells.size inf.size,L9 auto (0<=l∧l<=c∧(inf.bytes:Int)*c<=281474976710656∧c<=9223372036854775807) with
    | true,some ob=>some (e,pU z.cells.toList c.toNat,ob)
    | _,_=>none
   | none=>none
  | none=>none
 | _=>none
theorem pF (z:List Value):∀ c,(pU z c).length=c*z.length
 | 0=>by simp [pU]
 | c+1=>by rw [pU,F6,pF z c,x6,rK,l1n]
theorem i0d (z:List Value):∀ (c j:Nat),j < c*z.length->(pU z c)[j]? =z[j%z.length]?
 | 0,j,h=>by omega
 | c+1,j,h=>by
  rw [pU]
  rcases E0 j z.length with hj | hj
  ·rw [y0i hj,J5 hj]
  ·rw [x0b hj,i0d z c _ (by rw [x6,rK] at h; omega),<- Nat.mod_eq_sub_mod hj]
theorem r0y {z:Array Value} {s c:Nat} (hs:z.size=s):madeCells z (c*s)=(pU z.toList c).toArray:=by
 subst hs
 apply cV
 apply c1j
 intro j
 simp only [madeCells,xE,Array.toList_range,N6]
 rcases E0 j (c*z.size) with hj | hj
 ·rw [List.getElem?_range hj,i0d _ _ _ (by simpa using hj)]
  have hz:0 < z.size:=by
   rcases R2 z.size with h | h
   ·rw [h,wD] at hj; omega
   ·exact h
  have hm:j%z.size < z.size:=C7 _ hz
  simp [hm,getElem!_pos]
 ·rw [j0a (by simpa using hj),j0a (by rw [pF]; simpa using hj)]
  rfl
theorem i0r {P:Program} {auto:Bool} {t e:TypeId} {l c:Int} {cs:List Value} {ob:List Prop} (h:f1m P auto t l c=some (e,cs,ob)) (hl:d9 ob) (kl kc:IntKind) (w:World):
  (Instr.makeSlice t (.int kl l) (.int kc c)).run P w= .ok (.slice (some ⟨w.heap.size,0,none⟩) l.toNat c.toNat) (w.alloc (.cells cs.toArray e))∧∀ ρ,rvL ρ cs=cs:=by
 unfold f1m at h
 simp only [u9,v8] at h
 split at h
 case h_2=>cases h
 rename_i e' ht
 split at h
 case h_2=>cases h
 rename_i inf hi
 split at h
 case h_2=>cases h
 rename_i z hz
 split at h
 case h_2=>cases h
 rename_i ob' hp hneed
 cases h
 simp only [u6,y4] at hp
 obtain⟨h1,h2,h3,h4⟩:=j0 hneed hl
 have:=run_make (P:=P) w t e inf z ht hi hz kl kc l c h1 h2 h3 h4
 rw [r0y hp.2] at this
 refine⟨this,fun ρ=>rvL_pure ρ _ ?_⟩
 have hz:∀ x∈z.cells.toList,pureV x=true:=y0l hp.1
 rw [C3,zzA10]
 intro x hx
 generalize c.toNat=k at hx
 induction k with
 | zero=>cases hx
 | succ k ih=>
  rw [pU] at hx
  rcases zzA91.1 hx with hx | hx
  ·exact hz x hx
  ·exact ih hx
theorem I8 {P:Program} {w:World} {k:IntKind} {i:Int} {y:Nat} {code:BoundsCode} (h:0<=i∧i<=y):(Instr.sliceBound (.int k i) y code).run P w= .ok i.toNat w:=by
 simp [Instr.sliceBound,asIntOf,h]
theorem J1 {P:Program} {w:World} {len cap:Nat} {lo hi:Option Value} {l h:Int} (hlo:bnd lo 0=some l) (hhi:bnd hi len=some h) (hb:0<=l∧l<=h∧h<=cap) (hlen:hi=none->True) (isS:Bool):
  (Instr.sliceBounds isS len cap lo hi none).run P w= .ok (l.toNat,h.toNat,cap) w:=by
 unfold Instr.sliceBounds
 cases lo with
 | none=>
  simp only [bnd] at hlo
  cases hlo
  cases hi with
  | none=>
   simp only [bnd] at hhi
   cases hhi
   simp
  | some v=>
   cases v <;> simp only [bnd] at hhi <;> first | (cases hhi; done) | skip
   cases hhi
   simp [I8 (P:=P) (w:=w) (show 0<=h∧h<=(cap:Int) by omega)]
 | some v0=>
  cases v0 <;> simp only [bnd] at hlo <;> first | (cases hlo; done) | skip
  cases hlo
  cases hi with
  | none=>
   simp only [bnd] at hhi
   cases hhi
   simp [I8 (P:=P) (w:=w) (show 0<=l∧l<=(len:Int) by omega)]
  | some v=>
   cases v <;> simp only [bnd] at hhi <;> first | (cases hhi; done) | skip
   cases hhi
   simp [I8 (P:=P) (w:=w) (show 0<=h∧h<=(cap:Int) by omega),I8 (P:=P) (w:=w) (y:=h.toNat) (i:=l) (show 0<=l∧l<=((h.toNat:Nat):Int) by omega)]
theorem xM {P:Program} {auto:Bool} {B:Nat} {M:Nat->Prop} {ρ:Num} {H:Heap} {w:World} (hS:Sim P B M ρ H w) {t e:TypeId} {a:Option Addr} {n c:Nat} {lo hi:Option Value} {v:Value} {ob:List Prop}
  (h:iO P auto H e a n c lo hi=some (v,ob)) (hl:d9 ob) (ht:P.underlying t=some (.slice e)):(Instr.sliceAt t (rv ρ (.slice a n c)) lo hi none).run P w= .ok (rv ρ v) w:=by
 unfold iO at h
 simp only [v8] at h
 split at h
 case h_2=>cases h
 rename_i l hh inf hlo hhi hinf
 have key:∀ (a':Option Addr) (cap:Nat),0<=l∧l<=hh∧hh<=cap->(Instr.sliceAt t (.slice a' n cap) lo hi none).run P w= .ok (.slice (if cap=l.toNat then a' else a'.map (·.add (l.toNat*inf.size))) (hh.toNat-l.toNat) (cap-l.toNat)) w:=by
  intro a' cap hb
  simp only [Instr.sliceAt,Instr.slice,o7,K8 ht,p7,J1 (P:=P) (w:=w) hlo hhi hb (fun _=>trivial) true,n4 hinf,J4]
 split at h
 ·split at h
  case h_2=>cases h
  rename_i ob' hneed
  cases h
  have:=key none c (j0 hneed hl)
  simp only [rv]
  rw [this]
  simp
 ·rename_i id off
  split at h
  case h_2=>cases h
  rename_i ob' hneed
  have hb:=j0 (l:=ob') hneed (by
   split at h
   ·cases h; exact hl
   ·split at h <;> (cases h; exact hl))
  have hk:=key ((ρ id).map fun b=>⟨b,off,none⟩) c hb
  have hrv:rv ρ (.slice (some ⟨id,off,none⟩) n c)= .slice ((ρ id).map fun b=>⟨b,off,none⟩) n c:=by simp only [rv,rSl,p6]
  rw [hrv,hk]
  split at h
  ·cases h
   simp only [bnd] at hlo
   cases hlo
   simp only [rv,rSl,p6]
   cases hq:ρ id with
   | none=>simp
   | some b=>simp [addr_add]
  split at h
  ·rename_i hc
   have hc:=N8 hc
   cases h
   rw [i6 hc]
   simp only [rv,rSl,p6]
  ·rename_i hc
   have hc:c≠l.toNat:=fun e=>by rw [e,c0g] at hc; cases hc
   cases h
   rw [a8 hc]
   cases hq:ρ id with
   | none=>simp [rv,rSl,p6,hq]
   | some b=>simp [rv,rSl,p6,hq,addr_add]
 ·rename_i id off k
  split at h
  ·split at h
   case h_2=>cases h
   rename_i e' sz r k' hget
   split at h
   case h_2=>cases h
   rename_i ob' hck hneed
   simp only [u6,y4,C0] at hck
   obtain⟨hkk,hsz⟩:=hck
   subst hkk
   cases h
   obtain⟨h1,h2,h3,h4⟩:=j0 hneed hl
   subst h1
   rcases hS.obj id _ hget with ⟨g1,g2⟩ | ⟨b,cap,cur,g1,g2,g3,g4,g5,g6,g7,g8⟩
   ·rw [g2] at h4
    have hn0:hh.toNat=0:=by
     rcases R2 hh.toNat with h0 | h0
     ·exact h0
     ·have:=w0z h0 hsz
      simp only [mJ] at h4
      omega
    have hh0:hh=0:=by omega
    subst hh0
    have:=key none 0 (by omega)
    simp only [rv,rSl,g1]
    rw [this]
    simp
   ·have hcap:hh.toNat<=cap:=sX (u7 h4 g7) hsz
    have:=key (some ⟨b,0,none⟩) cap (by omega)
    simp only [rv,rSl,g1,g2,W4,y0d]
    rw [this]
    simp [addr_add]
  ·split at h
   case h_2=>cases h
   rename_i e' sz r k' hget
   split at h
   case h_2=>cases h
   rename_i hck
   simp only [u6,y4,C0] at hck
   obtain⟨⟨hkk,hsz⟩,hsz2⟩:=hck
   subst hkk hsz2
   have hl':off=c*inf.size∧0<=l∧l<=hh∧(l=0∨l < hh)∧off+hh.toNat*inf.size<=r.len:=by
    split at h
    ·cases h
     obtain⟨q1,q2,q3⟩:=hl.1
     simp only [bnd] at hlo
     cases hlo
     exact⟨q1,uV _,q2, .inl rfl,q3⟩
    ·cases h
     exact hl.1
   have hv:rv ρ v=rv ρ (.slice (some ⟨id,r8 off (P8 l.toNat inf.size),some k⟩) (hh.toNat-l.toNat) (r8 c l.toNat)):=by
    split at h
    ·cases h
     simp only [bnd] at hlo
     cases hlo
     simp
    ·cases h
     rfl
   rw [hv]
   clear hv h
   obtain⟨h1,h2,h3,h4,h5⟩:=hl'
   subst h1
   rw [i0e] at h5
   rcases hS.obj id _ hget with ⟨g1,g2⟩ | ⟨b,cap,cur,g1,g2,g3,g4,g5,g6,g7,g8⟩
   ·rw [g2] at h5
    simp only [mJ] at h5
    have hz1:c*inf.size=0:=by omega
    have hz2:hh.toNat*inf.size=0:=by omega
    have hc0:c=0:=by rcases zzA97.1 hz1 with h | h <;> omega
    have hh0:hh.toNat=0:=by rcases zzA97.1 hz2 with h | h <;> omega
    have hl0:l.toNat=0:=by omega
    have:=key none 0 (by omega)
    simp only [rv,rSl,g1]
    rw [this,hl0,hh0]
    simp
   ·have hcap:c+hh.toNat<=cap:=by
     have:(c+hh.toNat)*inf.size<=cap*inf.size:=by rw [x6]; exact u7 h5 g7
     exact sX this hsz
    have:=key (some ⟨b,c*inf.size,none⟩) (cap-c) (by omega)
    simp only [rv,rSl,g1,g2,W4]
    rw [this]
    simp only [x9,U6,Nat.sub_sub]
    rcases h4 with h4 | h4
    ·subst h4
     simp [addr_add]
    ·rw [a8 (by omega)]
     simp [addr_add]
def b2y (P:Program) (H:Heap) (e:TypeId) (id off k n c l:Nat):Option Value:=
 match eQ P e,H.get id with
 | some inf,some (.row _ sz r k')=>match zO0 k k' && zO1 0 sz && zO0 inf.size sz && zO0 off (c*sz) && Nat.ble (c*sz+n*sz) r.list.length && zO1 0 l && Nat.ble l n with
  | true=>match zO1 l n with
   | true=>some (.slice (some ⟨id,c*sz+l*sz,some k⟩) (n-l) (c+l))
   | false=>match zO1 k 18446744073709551616 && zO1 c 18446744073709551616 && zO1 l 18446744073709551616 && zO1 sz 18446744073709551616 with
    | true=>some (.chan (some (o2h id k c l sz)))
    | false=>none
  | false=>none
 | _,_=>none
theorem q0d {P:Program} {B:Nat} {M:Nat->Prop} {ρ:Num} {H:Heap} {w:World} (hS:Sim P B M ρ H w) {t e:TypeId} {id off k n c l:Nat} {kd:IntKind} {v:Value}
  (h:b2y P H e id off k n c l=some v) (ht:P.underlying t=some (.slice e)):(Instr.sliceAt t (rv ρ (.slice (some ⟨id,off,some k⟩) n c)) (some (.int kd (l:Int))) none none).run P w= .ok (rv ρ v) w:=by
 unfold b2y at h
 simp only [v8] at h
 split at h
 case h_2=>cases h
 rename_i inf _ sz r k' hinf hget
 split at h
 case h_2=>cases h
 rename_i hck
 simp only [u6,y4,C0,H7] at hck
 obtain⟨⟨⟨⟨⟨⟨h1,h2⟩,h3⟩,h4⟩,h5⟩,h6⟩,h7⟩:=hck
 subst h1 h3 h4
 have key:∀ (a':Option Addr) (cap:Nat),n<=cap->(Instr.sliceAt t (.slice a' n cap) (some (.int kd (l:Int))) none none).run P w= .ok (.slice (if cap=l then a' else a'.map (·.add (l*inf.size))) (n-l) (cap-l)) w:=by
  intro a' cap hb
  have hbd:(0:Int)<=(l:Int)∧(l:Int)<=(n:Int)∧(n:Int)<=cap:=⟨by omega,by omega,by omega⟩
  have:=J1 (P:=P) (w:=w) (lo:=some (.int kd (l:Int))) (hi:=none) (l:=(l:Int)) (h:=(n:Int)) (len:=n) rfl rfl hbd (fun _=>trivial) true
  simp only [Instr.sliceAt,Instr.slice,o7,K8 ht,p7,this,n4 hinf,J4,l4]
 rcases hS.obj id _ hget with ⟨g1,g2⟩ | ⟨b,cap,cur,g1,g2,g3,g4,g5,g6,g7,g8⟩
 ·rw [g2] at h5
  simp only [mJ] at h5
  have:n*inf.size=0:=by omega
  rcases zzA97.1 this with h | h <;> omega
 ·have hcap:c+n<=cap:=by
   have:(c+n)*inf.size<=cap*inf.size:=by rw [x6]; exact u7 h5 g7
   exact sX this h2
  have hk:=key (some ⟨b,c*inf.size,none⟩) (cap-c) (by omega)
  have hr:rv ρ (.slice (some ⟨id,c*inf.size,some k⟩) n c)= .slice (some ⟨b,c*inf.size,none⟩) n (cap-c):=by simp only [rv,rSl,g1,g2,W4]
  rw [hr,hk]
  split at h
  ·rename_i hlt
   rw [C0] at hlt
   cases h
   rw [a8 (by omega)]
   simp only [rv,rSl,g1,g2,W4,Nat.sub_sub]
   simp [addr_add]
  ·rename_i hlt
   have hln:l=n:=by
    have:¬ l < n:=fun hh=>by rw [show zO1 l n=true by rw [C0]; exact hh] at hlt; cases hlt
    omega
   split at h
   case h_2=>cases h
   rename_i hb
   simp only [u6,C0] at hb
   obtain⟨⟨⟨b1,b2⟩,b3⟩,b4⟩:=hb
   cases h
   simp only [rv]
   rw [p1s ρ b1 b2 b3 b4]
   unfold t1y
   simp only [g1,g2,W4,hln,sW]
   by_cases hq:cap-c=n
   ·rw [i6 hq,i6 hq]
   ·rw [a8 hq,a8 hq]
    simp [addr_add]
def c1a (P:Program) (H:Heap) (e:TypeId) (a:Option Addr) (n c h m:Nat):Option Value:=
 match eQ P e with
 | none=>none
 | some _=>match a with
  | none=>match Nat.ble h m && Nat.ble m c with
   | true=>some (.slice none h m)
   | false=>none
  | some ⟨id,off,none⟩=>match Nat.ble h m && Nat.ble m c with
   | true=>some (.slice (some ⟨id,off,none⟩) h m)
   | false=>none
  | some ⟨id,off,some k⟩=>match H.get id with
   | some (.row _ sz r k')=>match zO0 k k' && zO1 0 sz && zO0 off (c*sz) && zO0 h n && zO0 m n && Nat.ble (c*sz+n*sz) r.list.length with
    | true=>some (.slice (some ⟨id,off,none⟩) n n)
    | false=>none
   | _=>none
theorem qM {P:Program} {t e:TypeId} {inf:TypeInfo} (ht:P.underlying t=some (.slice e)) (hinf:P.info? e=some inf) {kh km:IntKind} {n cap h m:Nat} (h1:h<=m) (h2:m<=cap) (a':Option Addr) (w:World):
  (Instr.sliceAt t (.slice a' n cap) none (some (.int kh (h:Int))) (some (.int km (m:Int)))).run P w= .ok (.slice a' h m) w:=by
 have b1:=D0 (P:=P) (k:=km) (y:=cap) (i:=(m:Int)) (code:= .slice3Acap) (by omega) (by omega) w
 have b2:=D0 (P:=P) (k:=kh) (y:=m) (i:=(h:Int)) (code:= .slice3B) (by omega) (by omega) w
 simp only [l4] at b1 b2
 simp [Instr.sliceAt,Instr.slice,Sem.run_bind,run_underlying ht,Instr.sliceBounds,b1,b2,n4 hinf]
 cases a' with
 | none=>simp
 | some a=>
  obtain⟨b,o,sp⟩:=a
  simp [Addr.add]
theorem l0s {P:Program} {B:Nat} {M:Nat->Prop} {ρ:Num} {H:Heap} {w:World} (hS:Sim P B M ρ H w) {t e:TypeId} {a:Option Addr} {n c h m:Nat} {kh km:IntKind} {v:Value}
  (hv:c1a P H e a n c h m=some v) (ht:P.underlying t=some (.slice e)):(Instr.sliceAt t (rv ρ (.slice a n c)) none (some (.int kh (h:Int))) (some (.int km (m:Int)))).run P w= .ok (rv ρ v) w:=by
 unfold c1a at hv
 simp only [v8] at hv
 split at hv
 case h_1=>cases hv
 rename_i inf hinf
 split at hv
 ·split at hv
  case h_2=>cases hv
  rename_i hck
  simp only [u6,H7] at hck
  cases hv
  simp only [rv]
  exact qM ht hinf hck.1 hck.2 _ w
 ·split at hv
  case h_2=>cases hv
  rename_i hck
  simp only [u6,H7] at hck
  cases hv
  simp only [rv,rSl]
  exact qM ht hinf hck.1 hck.2 _ w
 ·split at hv
  case h_2=>cases hv
  rename_i sz r k' hget
  split at hv
  case h_2=>cases hv
  rename_i hck
  simp only [u6,y4,C0,H7] at hck
  obtain⟨⟨⟨⟨⟨h1,h2⟩,h3⟩,h4⟩,h5⟩,h6⟩:=hck
  subst h1 h3 h4 h5
  cases hv
  rcases hS.obj _ _ hget with ⟨g1,g2⟩ | ⟨b,cap,cur,g1,g2,g3,g4,g5,g6,g7,g8⟩
  ·rw [g2] at h6
   simp only [mJ] at h6
   have hz:m*sz=0:=by omega
   have hh:m=0:=by rcases zzA97.1 hz with q | q <;> omega
   subst hh
   simp only [rv,rSl,p6,g1,d0u]
   exact qM (h:=0) (m:=0) ht hinf (d5 _) (d5 _) _ w
  ·have hcap:c+m<=cap:=by
    have:(c+m)*sz<=cap*sz:=by rw [x6]; exact u7 h6 g7
    exact sX this h2
   simp only [rv,rSl,p6,g1,g2,W4,A4]
   exact qM ht hinf (d5 _) (by omega) _ w
def aF (P:Program) (auto:Bool) (H:Heap) (e:TypeId) (a:Option Addr) (n c:Nat) (lo hi:Option Value):Option (Value×List Prop):=
 match iO P auto H e a n c lo hi with
 | some r=>some r
 | none=>match auto with
  | true=>match a,lo,hi with
   | some ⟨id,off,some k⟩,some (.int _ (.ofNat l)),none=>match b2y P H e id off k n c l with
    | some v=>some (v,[])
    | none=>none
   | _,_,_=>none
  | false=>none
theorem cE {P:Program} {auto:Bool} {H:Heap} {e:TypeId} {a:Option Addr} {n c:Nat} {lo hi:Option Value} {r:Value×List Prop} {ρ:Num} (h:aF P auto H e a n c lo hi=some r):lo.map (rv ρ)=lo∧hi.map (rv ρ)=hi:=by
 unfold aF at h
 split at h
 ·rename_i hq; exact h0n hq
 ·split at h
  ·split at h
   ·simp [rv]
   ·cases h
  ·cases h
theorem U2 {P:Program} {auto:Bool} {B:Nat} {M:Nat->Prop} {ρ:Num} {H:Heap} {w:World} (hS:Sim P B M ρ H w) {t e:TypeId} {a:Option Addr} {n c:Nat} {lo hi:Option Value} {v:Value} {ob:List Prop}
  (h:aF P auto H e a n c lo hi=some (v,ob)) (hl:d9 ob) (ht:P.underlying t=some (.slice e)):(Instr.sliceAt t (rv ρ (.slice a n c)) lo hi none).run P w= .ok (rv ρ v) w:=by
 unfold aF at h
 split at h
 ·rename_i hq
  cases h
  exact xM hS hq hl ht
 ·split at h
  ·split at h
   ·split at h
    ·rename_i hv
     cases h
     exact q0d hS hv ht
    ·cases h
   ·cases h
  ·cases h
def s2m (lo hi:Option Operand):Bool:=
 match lo,hi with
 | some (.const (.int _ (.ofNat l))),none=>zO0 l 1
 | _,_=>false
def kS (P:Program) (auto one:Bool) (H:Heap) (e:TypeId) (a:Option Addr) (n c:Nat) (lo hi:Option Value):Option (Value×List Prop):=
 match one && !auto with
 | false=>aF P auto H e a n c lo hi
 | true=>match a,lo,hi with
  | some ⟨id,off,some k⟩,some (.int _ (.ofNat l)),none=>match zO0 n 1 with
   | false=>aF P auto H e a n c lo hi
   | true=>match eQ P e,H.get id with
    | some inf,some (.row _ sz r k')=>match zO0 k k' && zO0 1 sz && zO0 inf.size sz && zO0 l 1 && zO1 k 18446744073709551616 with
     | true=>some (.complex .f32 (id*18446744073709551616+k) c,[off=c∧c+1<=r.list.length])
     | false=>none
    | _,_=>none
  | _,_,_=>aF P auto H e a n c lo hi
theorem h0d {P:Program} {auto one:Bool} {H:Heap} {e:TypeId} {a:Option Addr} {n c:Nat} {lo hi:Option Value} {r:Value×List Prop} {ρ:Num} (h:kS P auto one H e a n c lo hi=some r):lo.map (rv ρ)=lo∧hi.map (rv ρ)=hi:=by
 unfold kS at h
 split at h
 ·exact cE h
 ·split at h
  ·split at h
   ·exact cE h
   ·simp [rv]
  ·exact cE h
theorem xL {P:Program} {auto one:Bool} {B:Nat} {M:Nat->Prop} {ρ:Num} {H:Heap} {w:World} (hS:Sim P B M ρ H w) {t e:TypeId} {a:Option Addr} {n c:Nat} {lo hi:Option Value} {v:Value} {ob:List Prop}
  (h:kS P auto one H e a n c lo hi=some (v,ob)) (hl:d9 ob) (ht:P.underlying t=some (.slice e)):(Instr.sliceAt t (rv ρ (.slice a n c)) lo hi none).run P w= .ok (rv ρ v) w:=by
 unfold kS at h
 split at h
 ·exact U2 hS h hl ht
 ·split at h
  case h_2=>exact U2 hS h hl ht
  rename_i id off k kd l
  split at h
  ·exact U2 hS h hl ht
  rename_i hn
  have hn:=N8 hn
  subst hn
  simp only [v8] at h
  split at h
  case h_2=>cases h
  rename_i inf e' sz r k' hinf hget
  split at h
  case h_2=>cases h
  rename_i hck
  simp only [u6,y4,C0] at hck
  obtain⟨⟨⟨⟨h1,h2⟩,h3⟩,h4⟩,h5⟩:=hck
  subst h1 h4
  cases h
  obtain⟨o1,o2⟩:=hl.1
  subst o1
  subst h2
  have hbd:(0:Int)<=(1:Int)∧(1:Int)<=((1:Nat):Int)∧((1:Nat):Int)<=((1:Nat):Int):=⟨by omega,by omega,by omega⟩
  have key:∀ (a':Option Addr) (cap:Nat),1<=cap->(Instr.sliceAt t (.slice a' 1 cap) (some (.int kd ((1:Nat):Int))) none none).run P w= .ok (.slice (if cap=1 then a' else a'.map (·.add (1*inf.size))) (1-1) (cap-1)) w:=by
   intro a' cap hb
   have hbd:(0:Int)<=((1:Nat):Int)∧((1:Nat):Int)<=((1:Nat):Int)∧((1:Nat):Int)<=cap:=⟨by omega,by omega,by omega⟩
   have:=J1 (P:=P) (w:=w) (lo:=some (.int kd ((1:Nat):Int))) (hi:=none) (l:=((1:Nat):Int)) (h:=((1:Nat):Int)) (len:=1) rfl rfl hbd (fun _=>trivial) true
   simp only [Instr.sliceAt,Instr.slice,o7,K8 ht,p7,this,n4 hinf,J4,l4]
  rcases hS.obj id _ hget with ⟨g1,g2⟩ | ⟨b,cap,cur,g1,g2,g3,g4,g5,g6,g7,g8⟩
  ·rw [g2] at o2
   exact absurd o2 (by simp)
  ·have hcap:off+1<=cap:=by omega
   have hk:=key (some ⟨b,off,none⟩) (cap-off) (by omega)
   have hr:rv ρ (.slice (some ⟨id,off,some k⟩) 1 off)= .slice (some ⟨b,off,none⟩) 1 (cap-off):=by simp only [rv,rSl,g1,g2,W4]
   rw [hr]
   refine hk.trans ?_
   simp only [rv,d2m,(C9 h5).1,(C9 h5).2,t1y,g1,g2,W4,h3,y8,sW]
   by_cases hq:cap-off=1
   ·rw [i6 hq,i6 hq]
   ·rw [a8 hq,a8 hq]
    simp [addr_add]
def kX (P:Program) (auto:Bool) (H:Heap) (n:Nat) (e:TypeId) (id off:Nat) (lo hi:Option Value):Option (Value×List Prop):=
 match known P H id with
 | true=>match bnd lo 0,bnd hi n,eQ P e with
  | some l,some h,some inf=>match L9 auto (0<=l∧l<=h∧h<=n) with
   | some ob=>match zO0 n l.toNat with
    | true=>some (.slice (some ⟨id,off,none⟩) (h.toNat-l.toNat) (n-l.toNat),ob)
    | false=>some (.slice (some ⟨id,r8 off (P8 l.toNat inf.size),none⟩) (h.toNat-l.toNat) (n-l.toNat),ob)
   | none=>none
  | _,_,_=>none
 | false=>none
theorem j0w {P:Program} {auto:Bool} {H:Heap} {n:Nat} {e:TypeId} {id off:Nat} {lo hi:Option Value} {r:Value×List Prop} {ρ:Num} (h:kX P auto H n e id off lo hi=some r):lo.map (rv ρ)=lo∧hi.map (rv ρ)=hi:=by
 unfold kX at h
 simp only [v8] at h
 split at h
 case h_2=>cases h
 split at h
 case h_2=>cases h
 rename_i hlo hhi _
 exact⟨r0v ρ hlo,r0v ρ hhi⟩
theorem xZ {P:Program} {auto:Bool} {B:Nat} {M:Nat->Prop} {ρ:Num} {H:Heap} {w:World} (hS:Sim P B M ρ H w) {t e:TypeId} {n id off:Nat} {lo hi:Option Value} {v:Value} {ob:List Prop}
  (h:kX P auto H n e id off lo hi=some (v,ob)) (hl:d9 ob) (ht:P.underlying t=some (.array n e)):(Instr.sliceAt t (rv ρ (.pointer (some ⟨id,off,none⟩))) lo hi none).run P w= .ok (rv ρ v) w:=by
 unfold kX at h
 simp only [v8] at h
 split at h
 case h_2=>cases h
 rename_i hkn
 split at h
 case h_2=>cases h
 rename_i l hh inf hlo hhi hinf
 split at h
 case h_2=>cases h
 rename_i ob' hneed
 have hb:=j0 (l:=ob') hneed (by split at h <;> (cases h; exact hl))
 obtain⟨b,hb1⟩:=K9 hS hkn
 have hrv:rv ρ (.pointer (some ⟨id,off,none⟩))= .pointer (some ⟨b,off,none⟩):=by simp [rv,p6,hb1]
 have hk:(Instr.sliceAt t (.pointer (some ⟨b,off,none⟩)) lo hi none).run P w= .ok (.slice (some (if n=l.toNat then ⟨b,off,none⟩ else (⟨b,off,none⟩:Addr).add (l.toNat*inf.size))) (hh.toNat-l.toNat) (n-l.toNat)) w:=by
  simp only [Instr.sliceAt,o7,K8 ht,p7,J1 (P:=P) (w:=w) hlo hhi hb (fun _=>trivial) false,n4 hinf,J4,Instr.sureAddr,pure_bind]
 rw [hrv,hk]
 split at h
 ·rename_i hc
  have hc:=N8 hc
  cases h
  rw [i6 hc]
  simp only [rv,rSl,p6,hb1,A4]
 ·rename_i hc
  have hc:n≠l.toNat:=fun e=>by rw [e,c0g] at hc; cases hc
  cases h
  rw [a8 hc]
  simp [rv,rSl,p6,hb1,addr_add]
def y1y (P:Program) (H:Heap) (s d:TypeId) (x:Value):Option Value:=
 match x with
 | .pointer (some ⟨id,off,none⟩)=>match R7 P s,R7 P d,H.get id with
  | some (.pointer t),some .unsafePointer,some (.cells cs _)=>match eQ P t with
   | some i=>match zO1 0 i.size && zO1 off cs.length with
    | true=>some (.pointer (some ⟨id,off,none⟩))
    | false=>none
   | none=>none
  | some .unsafePointer,some (.pointer u),some (.cells cs ty)=>match eQ P u with
   | some _=>match liesAt P P.depth ty (cs.length/P.cellsOf ty) off u 1 with
    | true=>some (.pointer (some ⟨id,off,none⟩))
    | false=>none
   | none=>none
  | _,_,_=>none
 | _=>none
theorem n0r {P:Program} {B:Nat} {M:Nat->Prop} {ρ:Num} {H:Heap} {w:World} (hS:Sim P B M ρ H w) {s d:TypeId} {x v:Value} (h:y1y P H s d x=some v):(convert s d (rv ρ x)).run P w= .ok (rv ρ v) w:=by
 unfold y1y at h
 simp only [u9,v8] at h
 split at h
 case h_2=>cases h
 rename_i id off
 split at h
 ·rename_i t cs ty hs hd hget
  split at h
  case h_2=>cases h
  rename_i i hi
  split at h
  case h_2=>cases h
  rename_i hc
  simp only [u6,C0] at hc
  cases h
  obtain⟨b,hb,hw,_⟩:=hS.obj id _ hget
  simp only [rv,p6,hb,A4]
  exact Lib.run_to_unsafe w ⟨b,off,none⟩ hs hd hi (by omega) (e:=ty) (cells:=(rvL ρ cs).toArray.size) (by simp [World.shape?,hw]) (by simpa [l5] using hc.2)
 ·rename_i u cs ty hs hd hget
  split at h
  case h_2=>cases h
  rename_i i hi
  split at h
  case h_2=>cases h
  rename_i hc
  cases h
  obtain⟨b,hb,hw,_⟩:=hS.obj id _ hget
  simp only [rv,p6,hb,A4]
  exact Lib.run_from_unsafe w ⟨b,off,none⟩ hs hd hi (e:=ty) (cells:=(rvL ρ cs).toArray.size) (by simp [World.shape?,hw]) (by simpa [l5] using hc)
 ·cases h
def i1x (P:Program) (H:Heap) (s d:TypeId) (x:Value):Option Value:=
 match y1y P H s d x with
 | some v=>some v
 | none=>q0j P H s d x
theorem i0q {P:Program} {B:Nat} {M:Nat->Prop} {ρ:Num} {H:Heap} {w:World} (hS:Sim P B M ρ H w) {s d:TypeId} {x v:Value} (h:i1x P H s d x=some v):(convert s d (rv ρ x)).run P w= .ok (rv ρ v) w:=by
 unfold i1x at h
 split at h
 ·rename_i hu; cases h; exact n0r hS hu
 ·exact c0e hS h
def y1s (P:Program) (auto:Bool) (H:Heap) (s d:TypeId) (x:Value):Option (Value×List Prop):=
 match auto with
 | true=>none
 | false=>match x with
  | .slice (some ⟨j,off,some k⟩) n _=>match H.get j with
   | some (.row _ sz (.ints .u8 ns) k')=>match R7 P s,R7 P d with
    | some (.slice e),some .string=>match R7 P e with
     | some (.int .u8)=>match zO0 sz 1 && zO0 k k' with
      | true=>some (.string ⟨⟨(ns.drop off).map fun n=>UInt8.ofNat n.toNat⟩⟩,[n=(ns.drop off).length])
      | false=>none
     | _=>none
    | _,_=>none
   | _=>none
  | _=>none
def o2w (P:Program) (auto:Bool) (s d:TypeId) (x:Value):Option (Value×List Prop):=
 match auto with
 | true=>none
 | false=>match x with
  | .float k n=>match R7 P s,R7 P d with
   | some _,some (.float k')=>match decide (k=k') with
    | true=>none
    | false=>some (.float k' ((floatToFloatBits k n k').getD 0),[(floatToFloatBits k n k').isSome=true])
   | _,_=>none
  | _=>none
theorem v0y {P:Program} {auto:Bool} {s d:TypeId} {x v:Value} {l:List Prop} (h:o2w P auto s d x=some (v,l)) (hl:d9 l) (ρ:Num) (w:World):
  (convert s d (rv ρ x)).run P w= .ok (rv ρ v) w:=by
 unfold o2w at h
 simp only [u9] at h
 split at h
 ·cases h
 split at h
 case h_2=>cases h
 rename_i k n
 split at h
 case h_2=>cases h
 rename_i u k' hs hd
 split at h
 ·cases h
 cases h
 have h1:=hl.1
 cases hb:floatToFloatBits k n k' with
 | none=>rw [hb] at h1; cases h1
 | some r=>
  simp only [rv,W4]
  exact run_convert_float_float w s d k k' n r (by rw [hs]; rfl) hd hb
theorem r0a {P:Program} {auto:Bool} {B:Nat} {M:Nat->Prop} {ρ:Num} {H:Heap} {w:World} (hS:Sim P B M ρ H w) {s d:TypeId} {x v:Value} {l:List Prop} (h:y1s P auto H s d x=some (v,l)) (hl:d9 l):
  (convert s d (rv ρ x)).run P w= .ok (rv ρ v) w:=by
 unfold y1s at h
 simp only [u9] at h
 split at h
 ·cases h
 split at h
 case h_2=>cases h
 rename_i j off k n c
 split at h
 case h_2=>cases h
 rename_i e' sz ns k' hget
 split at h
 case h_2=>cases h
 rename_i e hs hd
 split at h
 case h_2=>cases h
 rename_i he
 split at h
 case h_2=>cases h
 rename_i hc
 simp only [u6,y4] at hc
 obtain⟨h1,h2⟩:=hc
 subst h1 h2
 cases h
 obtain rfl:=hl.1
 rcases hS.obj j _ hget with ⟨g1,g2⟩ | ⟨b,cap,cur,g1,g2,g3,g4,g5,g6,g7,g8⟩
 ·have hn:ns=[] :=by simpa [Row.list] using g2
  subst hn
  have:(convert s d (.slice none 0 0)).run P w= .ok (.string .empty) w:=by
   unfold convert
   simp [run_underlying hs,run_underlying hd,run_underlying he,Conv.bytesToString]
  simp only [rv,rSl,g1,List.drop_nil,mJ,List.map_nil]
  exact this
 ·have e1:rvL ρ (ns.map (zO3 .u8))=ns.map (zO3 .u8):=rvL_pure _ _ (by rw [C3]; simp [pureV])
  obtain⟨fr,q1,_⟩:=g3
  have hc:=i0t (P:=P) w ⟨b,off,none⟩ ((ns.drop off).map (zO3 .u8)) (fun i v hi=>by
   rw [addr_add]
   simp only [Row.list] at g8
   rw [e1] at g8
   rw [eI,Q6,<- g8,R9] at hi
   split at hi
   ·simp only [World.cell?,q1]
    simpa using hi
   ·cases hi)
  rw [z6] at hc
  simp only [rv,rSl,g1,g2,W4]
  rw [run_convert_bytes_string w s d e _ _ _ hs he hd,run_bytesToString w _ _ _ (ns.drop off) hc,yM]
  simp
def p2r:TypeDesc->Bool
 | .int _=>true
 | .string=>true
 | _=>false
def a1a (d:TypeDesc) (a b:Value):Option Bool:=
 match d with
 | .int _=>match a,b with
  | .int k x, .int k' y=>match decide (k=k') with
   | true=>some (x==y)
   | false=>none
  | _,_=>none
 | .string=>match a,b with
  | .string x, .string y=>some (x.data.toList==y.data.toList)
  | _,_=>none
 | _=>none
theorem Q5 {d:TypeDesc} {a b:Value} {r:Bool} (h:a1a d a b=some r) (ρ:Num):p2r d=true∧Instr.sameNow d (rv ρ a) (rv ρ b)=some r∧rv ρ a=a:=by
 unfold a1a at h
 split at h
 ·split at h
  ·rename_i k x k' y
   split at h
   ·rename_i hk
    have hk:=G1 hk
    subst hk
    cases h
    refine⟨rfl,?_,by simp only [rv]⟩
    simp [rv,Instr.sameNow]
   ·cases h
  ·cases h
 ·split at h
  ·cases h
   refine⟨rfl,?_,by simp only [rv]⟩
   simp only [rv,Instr.sameNow,G3]
   rename_i x y
   obtain⟨⟨x⟩⟩:=x
   obtain⟨⟨y⟩⟩:=y
   show ((⟨x⟩:Array UInt8)==⟨y⟩)=(x==y)
   simp
  ·cases h
 ·cases h
def l1g (d:TypeDesc) (k:Value):List (Value×Value)->Option (Option Value)
 | [] =>some none
 | (k',v) ::r=>match a1a d k k' with
  | some true=>some (some v)
  | some false=>l1g d k r
  | none=>none
theorem Y6 {d:TypeDesc} {k:Value} {ρ:Num} :∀ {es:List (Value×Value)} {mes:List MapEntry} {i:Nat} {r:Option Value},l1g d k es=some r->mes.map (fun e=>(e.key,e.val))=es.map (fun p=>(rv ρ p.1,rv ρ p.2))->
  match r with
  | none=>Instr.findNow d (rv ρ k) mes i=some none
  | some v=>∃ j,Instr.findNow d (rv ρ k) mes i=some (some (j,rv ρ v))
 | [],mes,i,r,h,he=>by
  cases h
  cases mes with
  | nil=>rfl
  | cons e mes=>simp at he
 | (k',v) ::es,mes,i,r,h,he=>by
  cases mes with
  | nil=>simp at he
  | cons e mes=>
   simp only [j0y,J7,Prod.mk.injEq] at he
   obtain⟨⟨e1,e2⟩,e3⟩:=he
   simp only [l1g] at h
   split at h
   ·rename_i hs
    cases h
    have:=(Q5 hs ρ).2.1
    exact⟨i,by simp only [Instr.findNow,e1,this,e2]⟩
   ·rename_i hs
    have h1:=(Q5 hs ρ).2.1
    have ih:=Y6 (i:=i+1) h e3
    cases r with
    | none=>simp only [Instr.findNow,e1,h1]; exact ih
    | some v'=>obtain⟨j,ih⟩:=ih; exact⟨j,by simp only [Instr.findNow,e1,h1]; exact ih⟩
   ·cases h
theorem oO {P:Program} {t:TypeId} {d:TypeDesc} (hu:P.underlying t=some d) (hd:p2r d=true) (b:Bool) (v:Value) (w:World):(Instr.checkKey b 10000 t v).run P w= .ok () w:=by
 unfold Instr.checkKey
 rw [o7,K8 hu]
 cases d <;> first | (cases hd; done) | rfl
theorem v1s {P:Program} {w:World} {b:Nat} {es:Array MapEntry} {ck:Nat} (hw:w.heap[b]? =some (.map es ck)):(getObj b).run P w= .ok (.map es ck) w:=by simp [getObj,Sem.run,hw]
def c0o (P:Program) (H:Heap) (t:TypeId) (m k:Value) (comma:Bool):Option Value:=
 match m,R7 P t with
 | .map (some id),some (.map kt e)=>match R7 P kt,H.get id with
  | some d,some (.map es)=>match l1g d k es,a1a d k k with
   | some (some v),some _=>some (match comma with
    | true=> .tuple ⟨[v, .bool true]⟩
    | false=>v)
   | some none,some _=>match w0u P e with
    | some z=>some (match comma with
     | true=> .tuple ⟨[z, .bool false]⟩
     | false=>z)
    | none=>none
   | _,_=>none
  | _,_=>none
 | _,_=>none
theorem xX {P:Program} {B:Nat} {M:Nat->Prop} {ρ:Num} {H:Heap} {w:World} (hS:Sim P B M ρ H w) {t:TypeId} {m k v:Value} {comma:Bool} (h:c0o P H t m k comma=some v):
  (Instr.lookup t (rv ρ m) (rv ρ k) comma).run P w= .ok (rv ρ v) w:=by
 unfold c0o at h
 simp only [u9] at h
 split at h
 case h_2=>cases h
 rename_i id kt e ht
 split at h
 case h_2=>cases h
 rename_i d es hd hget
 obtain⟨b,mes,ck,hb,hw,hes,_⟩:=hS.obj id _ hget
 have main:∀ (q:Option (Nat×Value)) (x:Value),p2r d=true->Instr.findNow d (rv ρ k) mes.toList 0=some q->
   (match q with
    | some (_,v)=>v=x
    | none=>(zeroValue e).run P w= .ok x w)->(Instr.lookup t (rv ρ (.map (some id))) (rv ρ k) comma).run P w= .ok (if comma then .tuple #[x, .bool q.isSome] else x) w:=by
  intro q x hkd hf hq
  unfold Instr.lookup
  simp only [rv,hb,o7,K8 ht,p7,v1s hw,J4,oO hd hkd,Instr.findKey,K8 hd,hf]
  cases q with
  | none=>simp only at hq; simp only [o7,hq,p7,J4,l1e]
  | some p=>obtain⟨j,u⟩:=p; simp only at hq; subst hq; simp only [o7,p7,J4,Option.isSome_some]
 split at h
 ·rename_i v0 r0 hf hs
  cases h
  obtain⟨j,hj⟩:=Y6 (i:=0) hf hes
  rw [main _ _ (Q5 hs ρ).1 hj rfl]
  cases comma <;> simp [rv,rvA,rvL]
 ·rename_i r0 hf hs
  split at h
  case h_2=>cases h
  rename_i z hz
  cases h
  obtain⟨hz1,hz2⟩:=Z9 hz
  rw [main none z (Q5 hs ρ).1 (Y6 (i:=0) hf hes) (hz1 w)]
  cases comma <;> simp [rv,rvA,rvL,A1 ρ z hz2]
 ·cases h
def qI (P:Program) (H:Heap) (t:TypeId) (m k v:Value):Option Heap:=
 match m,R7 P t with
 | .map (some id),some (.map kt _)=>match R7 P kt,H.get id with
  | some d,some (.map es)=>match l1g d k es,a1a d k k with
   | some none,some _=>some (H.set id (.map (es++[(k,v)])))
   | _,_=>none
  | _,_=>none
 | _,_=>none
theorem eV {P:Program} {B:Nat} {M:Nat->Prop} {ρ:Num} {H H':Heap} {w:World} (hS:Sim P B M ρ H w) {t:TypeId} {m k v:Value} (h:qI P H t m k v=some H'):
  ∃ w',(Instr.mapUpdate t (rv ρ m) (rv ρ k) (rv ρ v)).run P w= .ok () w'∧Sim P B M ρ H' w'∧Keeps B M w w':=by
 unfold qI at h
 simp only [u9] at h
 split at h
 case h_2=>cases h
 rename_i id kt e ht
 split at h
 case h_2=>cases h
 rename_i d es hd hget
 split at h
 case h_2=>cases h
 rename_i r0 hf hs
 cases h
 obtain⟨b,mes,ck,hb,hw,hes,hown⟩:=hS.obj id _ hget
 have hkd:=(Q5 hs ρ).1
 have hj:Instr.findNow d (rv ρ k) mes.toList 0=some none:=Y6 (i:=0) hf hes
 refine⟨w.putObj b (.map (mes.push { key:=rv ρ k,val:=rv ρ v,born:=ck }) (ck+1)),?_,?_,?_⟩
 ·unfold Instr.mapUpdate
  simp only [rv,hb,o7,K8 ht,p7,v1s hw,oO hd hkd,Instr.findKey,K8 hd,hj,J4]
  simp [setObj,Sem.run,hw,World.putObj]
 ·refine hS.turn hget rfl hb ⟨b,_,_,rfl,World.putObj_heap_same (i8 hw),?_,hown⟩ (fun k hk=>b0d hk)
  unfold g2r at hes ⊢
  simp only [Array.toList_push,bK,hes,j0y,List.map_nil]
 ·refine⟨rfl,rfl,rfl,by simp [World.putObj],fun k hk hm=>b0d (fun e=> ?_)⟩
  subst e
  rcases hown with h | h
  ·omega
  ·exact hm h
def p2x:Operand->Bool
 | .const v=>match v with
  | .pointer none=>true
  | .slice none _ _=>true
  | .nilIface=>true
  | _=>false
 | _=>false
def d2x:BinOp->Bool->Option Value
 | .eql,b=>some (.bool b)
 | .neq,b=>some (.bool (!b))
 | _,_=>none
def w1f (P:Program) (H:Heap) (op:BinOp) (t:TypeId) (a b:Value):Option Value:=
 match R7 P t with
 | some (.pointer _)=>match a,b with
  | .pointer (some ⟨id,_,_⟩), .pointer none=>match known P H id with
   | true=>d2x op false
   | false=>none
  | _,_=>none
 | some (.slice _)=>match a,b with
  | .slice (some ⟨id,_,none⟩) _ _, .slice none _ _=>match known P H id with
   | true=>d2x op false
   | false=>none
  | _,_=>none
 | some (.interface _)=>match a,b with
  | .iface _ _, .nilIface=>d2x op false
  | _,_=>none
 | _=>none
def t0p (P:Program) (op:BinOp) (t:TypeId) (a b:Value):Option Value:=
 match a,b with
 | .pointer (some ⟨i,o,none⟩), .pointer (some ⟨j,o',none⟩)=>match zO0 i j && zO0 o o' with
  | true=>match R7 P t with
   | some (.pointer e)=>match P.info? e with
    | some _=>d2x op true
    | none=>none
   | _=>none
  | false=>none
 | _,_=>none
theorem xI {P:Program} {w:World} (D:Nat) {t e:TypeId} {a:Addr} (h:P.underlying t=some (.pointer e)):(Op.equalIn (D+1) t (.pointer (some a)) (.pointer none)).run P w= .ok false w:=by
 simp only [Op.equalIn,o7,K8 h,p7]
 rfl
theorem pW {P:Program} {w:World} (D:Nat) {t e:TypeId} {a:Addr} {n c n' c':Nat} (h:P.underlying t=some (.slice e)):(Op.equalIn (D+1) t (.slice (some a) n c) (.slice none n' c')).run P w= .ok false w:=by
 simp only [Op.equalIn,o7,K8 h,p7]
 rfl
theorem pZ {P:Program} {w:World} (D:Nat) {t t':TypeId} {v':Value} (h:(P.underlying t).map (fun d=>match d with | .interface _=>true | _=>false)=some true):(Op.equalIn (D+1) t (.iface t' v') .nilIface).run P w= .ok false w:=by
 cases hu:P.underlying t with
 | none=>rw [hu] at h; cases h
 | some d=>
  rw [hu] at h
  cases d <;> first | (cases h; done) | (simp only [Op.equalIn,o7,K8 hu,p7]; rfl)
theorem sJ {P:Program} {w:World} (D:Nat) {t e:TypeId} {inf:TypeInfo} {b o:Nat} (h:P.underlying t=some (.pointer e)) (hi:P.info? e=some inf):(Op.equalIn (D+1) t (.pointer (some ⟨b,o,none⟩)) (.pointer (some ⟨b,o,none⟩))).run P w= .ok true w:=by
 simp only [Op.equalIn,o7,K8 h,n4 hi,p7]
 by_cases hz:inf.size=0
 ·simp [hz]
 ·simp [hz,sameAddr]
theorem vM {P:Program} {w:World} (D:Nat) {t e:TypeId} (h:P.underlying t=some (.pointer e)):(Op.equalIn (D+1) t (.pointer none) (.pointer none)).run P w= .ok true w:=by
 simp only [Op.equalIn,o7,K8 h,p7]
 rfl
theorem dO {P:Program} {op:BinOp} {t:TypeId} {xo yo:Operand} {x y v:Value} {b:Bool} (h:d2x op b=some v) (h1:¬ (x= .nilIface∧y= .nilIface)) (h2:¬ ((∃ a,x= .agg a)∧∃ b,y= .agg b)) (ρ:Num) (w:World)
  (he:(Op.equalIn 10000 t x y).run P w= .ok b w) (hb:∀ op',op'=BinOp.eql∨op'=BinOp.neq->binOp op' t x y=(do let r <- Op.equal t x y; pure (.bool (if op'=BinOp.eql then r else !r)))):
  (do eqGuard op t xo yo x y; binOp op t x y:Sem Value).run P w= .ok (rv ρ v) w:=by
 rw [o7,z8 h1 h2]
 simp only [p7]
 unfold d2x at h
 split at h
 ·cases h
  rw [hb _ (.inl rfl)]
  simp only [o7,Op.equal,Op.maxDepth,he,p7,rv]
  rfl
 ·cases h
  rw [hb _ (.inr rfl)]
  simp only [o7,Op.equal,Op.maxDepth,he,p7,rv]
  rfl
 ·cases h
theorem n0p {P:Program} {B:Nat} {M:Nat->Prop} {ρ:Num} {H:Heap} {w:World} (hS:Sim P B M ρ H w) {op:BinOp} {t:TypeId} {xo yo:Operand} {a b v:Value} (h:w1f P H op t a b=some v):
  (do eqGuard op t xo yo (rv ρ a) (rv ρ b); binOp op t (rv ρ a) (rv ρ b):Sem Value).run P w= .ok (rv ρ v) w:=by
 unfold w1f at h
 simp only [u9] at h
 split at h
 ·rename_i e hu
  split at h
  case h_2=>cases h
  rename_i id off sp
  split at h
  case h_2=>cases h
  rename_i hk
  obtain⟨b,hb⟩:=K9 hS hk
  refine dO h (by simp [rv]) (by simp [rv]) ρ w ?_ (fun op' ho=> ?_)
  ·simp only [rv,p6,hb,A4]
   exact xI 9999 hu
  ·simp only [rv,p6,hb,A4]
   rcases ho with rfl | rfl <;> rfl
 ·rename_i e hu
  split at h
  case h_2=>cases h
  rename_i id off n c n' c'
  split at h
  case h_2=>cases h
  rename_i hk
  obtain⟨b,hb⟩:=K9 hS hk
  refine dO h (by simp [rv,rSl]) (by simp [rv,rSl]) ρ w ?_ (fun op' ho=> ?_)
  ·simp only [rv,rSl,p6,hb,A4]
   exact pW 9999 hu
  ·simp only [rv,rSl,p6,hb,A4]
   rcases ho with rfl | rfl <;> rfl
 ·rename_i e hu
  split at h
  case h_2=>cases h
  rename_i t' v'
  refine dO h (by simp [rv]) (by simp [rv]) ρ w ?_ (fun op' ho=> ?_)
  ·simp only [rv]
   exact pZ 9999 (by rw [hu]; rfl)
  ·simp only [rv]
   rcases ho with rfl | rfl <;> rfl
 ·cases h
theorem l0c {P:Program} (ρ:Num) (w:World) {op:BinOp} {t:TypeId} {xo yo:Operand} {a b v:Value} (h:t0p P op t a b=some v):
  (do eqGuard op t xo yo (rv ρ a) (rv ρ b); binOp op t (rv ρ a) (rv ρ b):Sem Value).run P w= .ok (rv ρ v) w:=by
 unfold t0p at h
 simp only [u9] at h
 split at h
 case h_2=>cases h
 rename_i i o j o'
 split at h
 case h_2=>cases h
 rename_i hq
 simp only [u6,y4] at hq
 obtain⟨rfl,rfl⟩:=hq
 split at h
 case h_2=>cases h
 rename_i e hu
 split at h
 case h_2=>cases h
 rename_i inf hi
 refine dO h (by simp [rv]) (by simp [rv]) ρ w ?_ (fun op' ho=> ?_)
 ·cases hb:ρ i with
  | none=>
   simp only [rv,p6,hb,d0u]
   exact vM 9999 hu
  | some b=>
   simp only [rv,p6,hb,A4]
   exact sJ 9999 hu hi
 ·simp only [rv]
  rcases ho with rfl | rfl <;> rfl
def v0b (P:Program) (auto:Bool) (ev:Operand->Option Value) (o:Oper) (H:Heap) (n:Nat) (ds:List Bool):Option R:=
 match o.op with
 | .move x=>mkR H ds (ev x)
 | .assign x=>mkR H ds (ev x)
 | .alloc t=>match w0u P t with
  | some z=>some ⟨.pointer (some ⟨n,0,none⟩),(n, .cells z.cells.toList t) ::H,[],ds⟩
  | none=>none
 | .box t x=>match ev x with
  | some v=>some ⟨.pointer (some ⟨n,0,none⟩),(n, .cells v.cells.toList t) ::H,[],ds⟩
  | none=>none
 | .build t ps=>match gV ev ps.toList with
  | some l=>mkR H ds (q0a P t l)
  | none=>none
 | .buildSlice t len ps=>match gV ev ps.toList with
  | some l=>match bW P t len l with
   | some (e,cs)=>some ⟨.slice (some ⟨n,0,none⟩) len len,(n, .cells cs e) ::H,[],ds⟩
   | none=>none
  | none=>none
 | .load t x=>match ev x with
  | some v=>v0p H ds (yF P auto H t v)
  | none=>none
 | .store t x y=>match ev x,ev y with
  | some a,some v=>match jQ P auto H t a v with
   | some (H',l)=>some ⟨undef,H',l,ds⟩
   | none=>match aJ P H t a v with
    | some H'=>some ⟨undef,H',[],ds⟩
    | none=>none
  | _,_=>none
 | .nilCheck x=>match ev x with
  | some (.pointer (some ⟨id,off,sp⟩))=>match known P H id with
   | true=>some ⟨.pointer (some ⟨id,off,sp⟩),H,[],ds⟩
   | false=>none
  | some (.func (.func f) a b)=>some ⟨.func (.func f) a b,H,[],ds⟩
  | some (.func (.yield f) a b)=>some ⟨.func (.yield f) a b,H,[],ds⟩
  | _=>none
 | .binOp op t x y _=>match ev x,ev y with
  | some a,some b=>match p2x y with
   | true=>match w1f P H op t a b with
    | some v=>mkR H ds (some v)
    | none=>v0p H ds (l1c P auto op t x y a b)
   | false=>match t0p P op t a b with
    | some v=>mkR H ds (some v)
    | none=>v0p H ds (l1c P auto op t x y a b)
  | _,_=>none
 | .unOp op _ x=>match ev x with
  | some a=>match pureV a with
   | true=>mkR H ds (O6 (K1 P (Op.unary op a)))
   | false=>none
  | none=>none
 | .convert s d x=>match ev x with
  | some a=>match pureV a with
   | true=>match o2w P auto s d a with
    | some (v,l)=>some ⟨v,H,l,ds⟩
    | none=>mkR H ds (O6 (K1 P (convert s d a)))
   | false=>match y1s P auto H s d a with
    | some (v,l)=>some ⟨v,H,l,ds⟩
    | none=>mkR H ds (i1x P H s d a)
  | none=>none
 | .makeInterface t x=>match ev x,k0m P t with
  | some a,true=>some ⟨.iface t a,H,[],ds⟩
  | _,_=>none
 | .makeFunc fn first cap=>match cG ev first.toList,cG ev cap.toList,e0z fn with
  | some a,some b,false=>some ⟨.func fn ⟨a⟩ ⟨b⟩,H,[],ds⟩
  | _,_,_=>none
 | .slice t x lo hi none=>match ev x,k2d ev lo,k2d ev hi,R7 P t with
  | some (.string s),some l,some h,some .string=>v0p H ds (d0r auto s l h)
  | some (.slice a n c),some l,some h,some (.slice e)=>v0p H ds (kS P auto (s2m lo hi) H e a n c l h)
  | some (.pointer (some ⟨id,off,none⟩)),some l,some h,some (.array len e)=>v0p H ds (kX P auto H len e id off l h)
  | _,_,_,_=>none
 | .slice t x none (some hi) (some mx)=>match ev x,ev hi,ev mx,R7 P t with
  | some (.slice a n c),some (.int _ (.ofNat h)),some (.int _ (.ofNat m)),some (.slice e)=>match auto with
   | true=>mkR H ds (c1a P H e a n c h m)
   | false=>none
  | _,_,_,_=>none
 | .makeSlice t len cap=>match ev len,ev cap with
  | some (.int _ l),some (.int _ c)=>match f1m P auto t l c with
   | some (e,cs,ob)=>some ⟨.slice (some ⟨n,0,none⟩) l.toNat c.toNat,(n, .cells cs e) ::H,ob,ds⟩
   | none=>none
  | _,_=>none
 | .fieldAddr s x f=>match ev x with
  | some a=>mkR H ds (gM P H s a f)
  | none=>none
 | .field t x f=>match ev x with
  | some a=>mkR H ds (o0u P t a f)
  | none=>none
 | .indexAddr t x ix=>match ev x,ev ix with
  | some a,some i=>v0p H ds (fS P auto H t a i)
  | _,_=>none
 | .index t x ix=>match ev x,ev ix with
  | some a,some i=>v0p H ds (o0t P auto t a i)
  | _,_=>none
 | .extract x i=>match ev x with
  | some a=>mkR H ds (sS a i)
  | none=>none
 | .range t x=>match ev x,R7 P t with
  | some (.string s),some .string=>some ⟨.pointer (some ⟨n,0,none⟩),(n, .iter s 0) ::H,[],ds⟩
  | _,_=>none
 | .next x true=>match ev x with
  | some a=>match f1g auto H a ds with
   | some (v,H',l,ds')=>some ⟨v,H',l,ds'⟩
   | none=>none
  | none=>none
 | .makeMap _ none=>some ⟨.map (some n),(n, .map []) ::H,[],ds⟩
 | .lookup t m k comma=>match ev m,ev k with
  | some a,some b=>mkR H ds (c0o P H t a b comma)
  | _,_=>none
 | .insert t m k x=>match ev m,ev k,ev x with
  | some a,some b,some v=>match qI P H t a b v with
   | some H'=>some ⟨undef,H',[],ds⟩
   | none=>none
  | _,_,_=>none
 | .mapUpdate t m k x=>match ev m,ev k,ev x with
  | some a,some b,some v=>match qI P H t a b v with
   | some H'=>some ⟨undef,H',[],ds⟩
   | none=>none
  | _,_,_=>none
 | _=>none
def lE (nx:Next) (v:Value):Prop:=nx= .value v∨(nx= .skip∧v=undef)
theorem cQ {P:Program} {auto:Bool} {ev:Operand->Option Value} {o:Oper} {H:Heap} {n:Nat} {ds:List Bool} {r:R} (h:v0b P auto ev o H n ds=some r):∀ c,o.op≠ .defer c:=by
 intro c hc
 unfold v0b at h
 simp only [u9] at h
 rw [hc] at h
 cases h
theorem E4 {H:Heap} {ds:List Bool} {x:Option Value} {r:R} (h:mkR H ds x=some r):x=some r.v∧r.h=H∧r.obs=[] ∧r.ds=ds:=by
 unfold mkR at h
 split at h
 ·cases h; exact⟨rfl,rfl,rfl,rfl⟩
 ·cases h
theorem Q0 {H:Heap} {ds:List Bool} {x:Option (Value×List Prop)} {r:R} (h:v0p H ds x=some r):x=some (r.v,r.obs)∧r.h=H∧r.ds=ds:=by
 unfold v0p at h
 split at h
 ·cases h; exact⟨rfl,rfl,rfl⟩
 ·cases h
theorem T9 (ρ:Num):rv ρ undef=undef:=by simp [undef,rv,rvA,rvL]
theorem dV {P:Program} {auto:Bool} {B:Nat} {M:Nat->Prop} {ρ:Num} {H:Heap} {w:World} (hS:Sim P B M ρ H w) {n:Nat} (hB:B<=w.heap.size)
  {ev:Operand->Option Value} {a:Operand->Value} {o:Oper} (hn':B1 o.op=false->ρ n=some w.heap.size) (he:∀ x∈o.op.operands.toList,∀ y,ev x=some y->a x=rv ρ y) {ds:List Bool} {r:R} (h:v0b P auto ev o H n ds=some r) (hl:d9 r.obs):
  ∃ nx w',(execOp a o).run P w= .ok nx w'∧lE nx (rv ρ r.v)∧Sim P B M ρ r.h w'∧Keeps B M w w'∧(B1 o.op=true->r.h=H∧r.ds=ds∧w'=w):=by
 have still:∀ {v:Value} {s:Sem Value},execOp a o=(do pure (.value (<- s)))->s.run P w= .ok (rv ρ r.v) w->r.h=H->r.ds=ds->
   ∃ nx w',(execOp a o).run P w= .ok nx w'∧lE nx (rv ρ r.v)∧Sim P B M ρ r.h w'∧Keeps B M w w'∧(B1 o.op=true->r.h=H∧r.ds=ds∧w'=w):=by
  intro v s h1 h2 h3 h4
  refine⟨.value (rv ρ r.v),w,?_, .inl rfl,by rw [h3]; exact hS,Keeps.refl _ _ _,fun _=>⟨h3,h4,rfl⟩⟩
  rw [h1,o7,h2]
  rfl
 unfold v0b at h
 simp only [u9] at h
 split at h
 ·rename_i x ho
  obtain⟨h1,h2,h3,h4⟩:=E4 h
  refine⟨.value (rv ρ r.v),w,?_, .inl rfl,by rw [h2]; exact hS,Keeps.refl _ _ _,fun _=>⟨h2,h4,rfl⟩⟩
  simp only [execOp,ho]
  rw [he x (by simp [ho,zO5]) _ h1]
  rfl
 ·rename_i x ho
  obtain⟨h1,h2,h3,h4⟩:=E4 h
  refine⟨.value (rv ρ r.v),w,?_, .inl rfl,by rw [h2]; exact hS,Keeps.refl _ _ _,fun _=>⟨h2,h4,rfl⟩⟩
  simp only [execOp,ho]
  rw [he x (by simp [ho,zO5]) _ h1]
  rfl
 ·rename_i t ho
  have hn:=hn' (by rw [ho]; rfl)
  split at h
  case h_2=>cases h
  rename_i z hz
  cases h
  obtain⟨hz1,hz2⟩:=Z9 hz
  have hs:=oY hS hn hB t z
  rw [A1 ρ z hz2] at hs
  refine⟨.value (.pointer (some ⟨w.heap.size,0,none⟩)),_,?_, .inl (by simp [rv,p6,hn]),hs,n5 ((O9 _ _).alloc (d5 _) _) hB,fun hst=>by simp [ho,B1] at hst⟩
  simp only [execOp,ho,Instr.alloc,o7,hz1,p7,vN,J4]
 ·rename_i t x ho
  have hn:=hn' (by rw [ho]; rfl)
  split at h
  case h_2=>cases h
  rename_i v hv
  cases h
  have hs:=oY hS hn hB t v
  refine⟨.value (.pointer (some ⟨w.heap.size,0,none⟩)),_,?_, .inl (by simp [rv,p6,hn]),hs,n5 ((O9 _ _).alloc (d5 _) _) hB,fun hst=>by simp [ho,B1] at hst⟩
  simp only [execOp,ho,Instr.box,o7,vN,p7,J4]
  rw [he x (by simp [ho,zO5]) _ hv]
 ·rename_i t ps ho
  split at h
  case h_2=>cases h
  rename_i l hp
  obtain⟨h1,h2,h3,h4⟩:=E4 h
  have hps:=Z0 (a:=a) (ρ:=ρ) ps.toList l (fun q hq=>he q.2 (by simp only [ho,zO5]; exact zzA41.2 ⟨q,hq,rfl⟩)) hp
  have hb:=e0c h1 ρ w
  have hpe:(ps.map fun p:Nat×Operand=>(p.1,a p.2))=(l.map fun p=>(p.1,rv ρ p.2)).toArray:=by
   rw [<- hps]
   apply cV
   simp
  refine still (v:=r.v) (s:=Instr.build t (ps.map fun p:Nat×Operand=>(p.1,a p.2))) (by simp only [execOp,ho]) ?_ h2 h4
  rw [hpe]
  exact hb
 ·rename_i t len ps ho
  have hn:=hn' (by rw [ho]; rfl)
  split at h
  case h_2=>cases h
  rename_i l hp
  split at h
  case h_2=>cases h
  rename_i e cs hbs
  cases h
  have hps:=Z0 (a:=a) (ρ:=ρ) ps.toList l (fun q hq=>he q.2 (by simp only [ho,zO5]; exact zzA41.2 ⟨q,hq,rfl⟩)) hp
  have hb:=jO hbs ρ w
  have hpe:(ps.map fun p:Nat×Operand=>(p.1,a p.2))=(l.map fun p=>(p.1,rv ρ p.2)).toArray:=by
   rw [<- hps]
   apply cV
   simp
  have hs:Sim P B M ρ ((n, .cells cs e) ::H) (w.alloc (.cells (rvL ρ cs).toArray e)):=
   hS.new hn ⟨w.heap.size,rfl,h0i _ _, .inl hB⟩
  refine⟨.value (.slice (some ⟨w.heap.size,0,none⟩) len len),_,?_, .inl (by simp [rv,rSl,p6,hn]),hs,n5 ((O9 _ _).alloc (d5 _) _) hB,fun hst=>by simp [ho,B1] at hst⟩
  simp only [execOp,ho,o7]
  rw [hpe,hb]
  rfl
 ·rename_i t x ho
  split at h
  case h_2=>cases h
  rename_i v hv
  obtain⟨h1,h2,h3⟩:=Q0 h
  refine still (v:=r.v) (s:=Instr.loadAt t (a x)) (by simp only [execOp,ho]) ?_ h2 h3
  rw [he x (by simp [ho,zO5]) _ hv]
  exact nM hS h1 hl
 ·rename_i t x y ho
  split at h
  case h_2=>cases h
  rename_i p v hp hv
  split at h
  ·rename_i H' l hst
   cases h
   obtain⟨w',h1,h2,h3⟩:=wT hS hst hl
   refine⟨.skip,w',?_, .inr ⟨rfl,T9 ρ⟩,h2,h3,fun hst=>by simp [ho,B1] at hst⟩
   simp only [execOp,ho,o7]
   rw [he x (by simp [ho,zO5]) _ hp,he y (by simp [ho,zO5]) _ hv,h1]
   rfl
  split at h
  case h_2=>cases h
  rename_i H' hst
  cases h
  obtain⟨w',h1,h2,h3,_⟩:=aK hS hst
  refine⟨.skip,w',?_, .inr ⟨rfl,T9 ρ⟩,h2,h3,fun hst=>by simp [ho,B1] at hst⟩
  simp only [execOp,ho,o7]
  rw [he x (by simp [ho,zO5]) _ hp,he y (by simp [ho,zO5]) _ hv,h1]
  rfl
 ·rename_i x ho
  split at h
  ·rename_i id off sp hv
   split at h
   case h_2=>cases h
   rename_i hk
   cases h
   obtain⟨b,hb⟩:=K9 hS hk
   refine⟨.value (rv ρ (.pointer (some ⟨id,off,sp⟩))),w,?_, .inl rfl,hS,Keeps.refl _ _ _,fun _=>⟨rfl,rfl,rfl⟩⟩
   simp only [execOp,ho]
   rw [he x (by simp [ho,zO5]) _ hv]
   simp only [rv,p6,hb,A4]
   rfl
  ·rename_i f c d hv
   cases h
   refine⟨.value (rv ρ (.func (.func f) c d)),w,?_, .inl rfl,hS,Keeps.refl _ _ _,fun _=>⟨rfl,rfl,rfl⟩⟩
   simp only [execOp,ho]
   rw [he x (by simp [ho,zO5]) _ hv]
   simp only [rv,rFn]
   rfl
  ·rename_i f c d hv
   cases h
   refine⟨.value (rv ρ (.func (.yield f) c d)),w,?_, .inl rfl,hS,Keeps.refl _ _ _,fun _=>⟨rfl,rfl,rfl⟩⟩
   simp only [execOp,ho]
   rw [he x (by simp [ho,zO5]) _ hv]
   simp only [rv,rFn]
   rfl
  ·cases h
 ·rename_i op t x y yt ho
  split at h
  case h_2=>cases h
  rename_i u v hu hv
  have bin:v0p H ds (l1c P auto op t x y u v)=some r->∃ nx w',(execOp a o).run P w= .ok nx w'∧lE nx (rv ρ r.v)∧Sim P B M ρ r.h w'∧Keeps B M w w'∧(B1 o.op=true->r.h=H∧r.ds=ds∧w'=w):=fun h=>by
   obtain⟨h1,h2,h3⟩:=Q0 h
   refine still (v:=r.v) (s:=do eqGuard op t x y (a x) (a y); binOp op t (a x) (a y)) (by simp only [execOp,ho]) ?_ h2 h3
   rw [he x (by simp [ho,zO5]) _ hu,he y (by simp [ho,zO5]) _ hv]
   exact p0q h1 hl ρ w
  split at h
  ·split at h
   ·rename_i z hz
    obtain⟨h1,h2,h3,h4⟩:=E4 h
    cases h1
    refine still (v:=r.v) (s:=do eqGuard op t x y (a x) (a y); binOp op t (a x) (a y)) (by simp only [execOp,ho]) ?_ h2 h4
    rw [he x (by simp [ho,zO5]) _ hu,he y (by simp [ho,zO5]) _ hv]
    exact n0p hS hz
   ·exact bin h
  ·split at h
   ·rename_i z hz
    obtain⟨h1,h2,h3,h4⟩:=E4 h
    cases h1
    refine still (v:=r.v) (s:=do eqGuard op t x y (a x) (a y); binOp op t (a x) (a y)) (by simp only [execOp,ho]) ?_ h2 h4
    rw [he x (by simp [ho,zO5]) _ hu,he y (by simp [ho,zO5]) _ hv]
    exact l0c ρ w hz
   ·exact bin h
 ·rename_i op t x ho
  split at h
  case h_2=>cases h
  rename_i u hu
  split at h
  case h_2=>cases h
  rename_i hp
  obtain⟨h1,h2,h3,h4⟩:=E4 h
  refine still (v:=r.v) (s:=Op.unary op (a x)) (by simp only [execOp,ho]) ?_ h2 h4
  rw [he x (by simp [ho,zO5]) _ hu,A1 ρ _ hp]
  exact U5 h1 ρ w
 ·rename_i s d x ho
  split at h
  case h_2=>cases h
  rename_i u hu
  split at h
  ·rename_i hp
   split at h
   ·rename_i v l hff
    cases h
    refine still (v:=v) (s:=convert s d (a x)) (by simp only [execOp,ho]) ?_ rfl rfl
    rw [he x (by simp [ho,zO5]) _ hu]
    exact v0y hff hl ρ w
   obtain⟨h1,h2,h3,h4⟩:=E4 h
   refine still (v:=r.v) (s:=convert s d (a x)) (by simp only [execOp,ho]) ?_ h2 h4
   rw [he x (by simp [ho,zO5]) _ hu,A1 ρ _ hp]
   exact U5 h1 ρ w
  ·split at h
   ·rename_i v l hb2
    cases h
    refine still (v:=v) (s:=convert s d (a x)) (by simp only [execOp,ho]) ?_ rfl rfl
    rw [he x (by simp [ho,zO5]) _ hu]
    exact r0a hS hb2 hl
   obtain⟨h1,h2,h3,h4⟩:=E4 h
   refine still (v:=r.v) (s:=convert s d (a x)) (by simp only [execOp,ho]) ?_ h2 h4
   rw [he x (by simp [ho,zO5]) _ hu]
   exact i0q hS h1
 ·rename_i t x ho
  split at h
  case h_2=>cases h
  rename_i u hu hc
  cases h
  refine still (v:=u) (s:=Instr.makeInterface t (a x)) (by simp only [execOp,ho]) ?_ rfl rfl
  rw [he x (by simp [ho,zO5]) _ hu]
  unfold k0m at hc
  simp only [u9] at hc
  split at hc
  ·cases hc
  ·cases hc
  ·rename_i d hni hd
   simp only [Instr.makeInterface,o7,K8 hd,p7,rv]
   cases d <;> first | (exact absurd rfl (hni _)) | rfl
 ·rename_i fn first cap ho
  split at h
  case h_2=>cases h
  rename_i l1 l2 h1 h2 h3
  cases h
  have e1:=q9 (a:=a) (ρ:=ρ) first.toList l1 (fun q hq=>he q (by simp only [ho,zO5,u0h]; exact oU _ hq)) h1
  have e2:=q9 (a:=a) (ρ:=ρ) cap.toList l2 (fun q hq=>he q (by simp only [ho,zO5,u0h]; exact pJ _ hq)) h2
  refine still (v:= .nilIface) (s:=Instr.makeFunc fn (first.map a) (cap.map a)) (by simp only [execOp,ho]) ?_ rfl rfl
  have f1:first.map a=⟨rvL ρ l1⟩:=by apply cV; simpa using e1
  have f2:cap.map a=⟨rvL ρ l2⟩:=by apply cV; simpa using e2
  rw [f1,f2]
  simp [Instr.makeFunc,rv,rvA,l0d ρ fn h3]
 ·rename_i t x lo hi ho
  have memo:∀ (z:Operand),(some z=lo∨some z=hi)->z∈o.op.operands.toList:=by
   intro z hz
   simp only [ho,zO5]
   rcases hz with hz | hz <;> (rw [<- hz]; simp)
  have oo:∀ (z:Option Operand) (r:Option Value),(z=lo∨z=hi)->k2d ev z=some r->z.map a=r.map (rv ρ):=by
   intro z r hz hr
   cases z with
   | none=>simp only [k2d] at hr; cases hr; rfl
   | some z=>
    simp only [k2d] at hr
    split at hr
    ·rename_i v hv; cases hr; simp [he z (memo z hz) v hv]
    ·cases hr
  split at h
  ·rename_i s l hh hv hlo hhi hu
   obtain⟨h1,h2,h3⟩:=Q0 h
   refine still (v:=r.v) (s:=Instr.sliceAt t (a x) (lo.map a) (hi.map a) none) (by simp only [execOp,ho,d0u]) ?_ h2 h3
   rw [he x (by simp [ho,zO5]) _ hv,oo lo l (.inl rfl) hlo,oo hi hh (.inr rfl) hhi]
   simp only [rv]
   exact wG hu h1 hl ρ w
  ·rename_i a0 n0 c0 l hh e hv hlo hhi hu
   obtain⟨h1,h2,h3⟩:=Q0 h
   refine still (v:=r.v) (s:=Instr.sliceAt t (a x) (lo.map a) (hi.map a) none) (by simp only [execOp,ho,d0u]) ?_ h2 h3
   obtain⟨b1,b2⟩:=h0d (ρ:=ρ) h1
   rw [he x (by simp [ho,zO5]) _ hv,oo lo l (.inl rfl) hlo,oo hi hh (.inr rfl) hhi,b1,b2]
   exact xL hS h1 hl hu
  ·rename_i id off l hh len e hv hlo hhi hu
   obtain⟨h1,h2,h3⟩:=Q0 h
   refine still (v:=r.v) (s:=Instr.sliceAt t (a x) (lo.map a) (hi.map a) none) (by simp only [execOp,ho,d0u]) ?_ h2 h3
   obtain⟨b1,b2⟩:=j0w (ρ:=ρ) h1
   rw [he x (by simp [ho,zO5]) _ hv,oo lo l (.inl rfl) hlo,oo hi hh (.inr rfl) hhi,b1,b2]
   exact xZ hS h1 hl hu
  ·cases h
 ·rename_i t x hi mx ho
  split at h
  case h_2=>cases h
  rename_i a0 n0 c0 kh hh km mm e hv hhi hmx hu
  split at h
  case h_2=>cases h
  obtain⟨h1,h2,_,h3⟩:=E4 h
  refine still (v:=r.v) (s:=Instr.sliceAt t (a x) none (some (a hi)) (some (a mx))) (by simp only [execOp,ho,d0u,A4]) ?_ h2 h3
  rw [he x (by simp [ho,zO5]) _ hv,he hi (by simp [ho,zO5]) _ hhi,he mx (by simp [ho,zO5]) _ hmx]
  simp only [rv]
  exact l0s hS h1 hu
 ·rename_i t len cap ho
  have hn:=hn' (by rw [ho]; rfl)
  split at h
  case h_2=>cases h
  rename_i kl l kc c hlen hcap
  split at h
  case h_2=>cases h
  rename_i e cs ob hm
  cases h
  obtain⟨m1,m2⟩:=i0r hm hl kl kc w
  have hs:Sim P B M ρ ((n, .cells cs e) ::H) (w.alloc (.cells cs.toArray e)):=hS.new hn ⟨w.heap.size,rfl,by rw [h0i,m2], .inl hB⟩
  refine⟨.value (.slice (some ⟨w.heap.size,0,none⟩) l.toNat c.toNat),_,?_, .inl (by simp [rv,rSl,p6,hn]),hs,n5 ((O9 _ _).alloc (d5 _) _) hB,fun hst=>by simp [ho,B1] at hst⟩
  simp only [execOp,ho]
  rw [he len (by simp [ho,zO5]) _ hlen,he cap (by simp [ho,zO5]) _ hcap]
  simp only [rv]
  rw [o7,m1]
  rfl
 ·rename_i s x f ho
  split at h
  case h_2=>cases h
  rename_i u hu
  obtain⟨h1,h2,h3,h4⟩:=E4 h
  refine still (v:=r.v) (s:=Instr.fieldAt s (a x) f) (by simp only [execOp,ho]) ?_ h2 h4
  rw [he x (by simp [ho,zO5]) _ hu]
  exact lU hS h1
 ·rename_i t x f ho
  split at h
  case h_2=>cases h
  rename_i u hu
  obtain⟨h1,h2,h3,h4⟩:=E4 h
  refine still (v:=r.v) (s:=Instr.field t (a x) f) (by simp only [execOp,ho]) ?_ h2 h4
  rw [he x (by simp [ho,zO5]) _ hu]
  exact f0w h1 ρ w
 ·rename_i t x ix ho
  split at h
  case h_2=>cases h
  rename_i u v hu hv
  obtain⟨h1,h2,h3⟩:=Q0 h
  refine still (v:=r.v) (s:=Instr.indexAt t (a x) (a ix)) (by simp only [execOp,ho]) ?_ h2 h3
  rw [he x (by simp [ho,zO5]) _ hu,he ix (by simp [ho,zO5]) _ hv]
  exact lK hS h1 hl
 ·rename_i t x ix ho
  split at h
  case h_2=>cases h
  rename_i u v hu hv
  obtain⟨h1,h2,h3⟩:=Q0 h
  refine still (v:=r.v) (s:=Instr.index t (a x) (a ix)) (by simp only [execOp,ho]) ?_ h2 h3
  rw [he x (by simp [ho,zO5]) _ hu,he ix (by simp [ho,zO5]) _ hv]
  exact b0p h1 hl ρ w
 ·rename_i x i ho
  split at h
  case h_2=>cases h
  rename_i u hu
  obtain⟨h1,h2,h3,h4⟩:=E4 h
  refine still (v:=r.v) (s:=Instr.extract (a x) i) (by simp only [execOp,ho]) ?_ h2 h4
  rw [he x (by simp [ho,zO5]) _ hu]
  exact vF h1 ρ w
 ·rename_i t x ho
  have hn:=hn' (by rw [ho]; rfl)
  split at h
  case h_2=>cases h
  rename_i s hv hu
  cases h
  have hs:Sim P B M ρ ((n, .iter s 0) ::H) (w.alloc (.stringIter s 0)):=
   hS.new hn ⟨w.heap.size,rfl,h0i _ _, .inl hB⟩
  refine⟨.value (.pointer (some ⟨w.heap.size,0,none⟩)),_,?_, .inl (by simp [rv,p6,hn]),hs,n5 ((O9 _ _).alloc (d5 _) _) hB,fun hst=>by simp [ho,B1] at hst⟩
  simp only [execOp,ho,o7]
  rw [he x (by simp [ho,zO5]) _ hv]
  simp only [rv,run_range_string w t s hu]
  rfl
 ·rename_i x ho
  split at h
  case h_2=>cases h
  rename_i u hu
  split at h
  case h_2=>cases h
  rename_i v H' l ds' hnx
  cases h
  obtain⟨w',h1,h2,h3,_⟩:=k0c (ty:=o.type) hS hnx hl
  refine⟨.value (rv ρ v),w',?_, .inl rfl,h2,h3,fun hst=>by simp [ho,B1] at hst⟩
  simp only [execOp,ho,o7]
  rw [he x (by simp [ho,zO5]) _ hu,h1]
  rfl
 ·rename_i t ho
  have hn:=hn' (by rw [ho]; rfl)
  cases h
  have hs:Sim P B M ρ ((n, .map []) ::H) (w.alloc (.map #[] 0)):=
   hS.new hn ⟨w.heap.size,#[],0,rfl,h0i _ _,rfl, .inl hB⟩
  refine⟨.value (.map (some w.heap.size)),_,?_, .inl (by simp [rv,hn]),hs,n5 ((O9 _ _).alloc (d5 _) _) hB,fun hst=>by simp [ho,B1] at hst⟩
  simp only [execOp,ho,o7,Instr.makeMap]
  rfl
 ·rename_i t m k comma ho
  split at h
  case h_2=>cases h
  rename_i u v hu hv
  obtain⟨h1,h2,h3,h4⟩:=E4 h
  refine still (v:=r.v) (s:=Instr.lookup t (a m) (a k) comma) (by simp only [execOp,ho]) ?_ h2 h4
  rw [he m (by simp [ho,zO5]) _ hu,he k (by simp [ho,zO5]) _ hv]
  exact xX hS h1
 ·rename_i t m k x ho
  split at h
  case h_2=>cases h
  rename_i u v q hu hv hq
  split at h
  case h_2=>cases h
  rename_i H' hst
  cases h
  obtain⟨w',h1,h2,h3⟩:=eV hS hst
  refine⟨.skip,w',?_, .inr ⟨rfl,T9 ρ⟩,h2,h3,fun hst=>by simp [ho,B1] at hst⟩
  simp only [execOp,ho,o7]
  rw [he m (by simp [ho,zO5]) _ hu,he k (by simp [ho,zO5]) _ hv,he x (by simp [ho,zO5]) _ hq,h1]
  rfl
 ·rename_i t m k x ho
  split at h
  case h_2=>cases h
  rename_i u v q hu hv hq
  split at h
  case h_2=>cases h
  rename_i H' hst
  cases h
  obtain⟨w',h1,h2,h3⟩:=eV hS hst
  refine⟨.skip,w',?_, .inr ⟨rfl,T9 ρ⟩,h2,h3,fun hst=>by simp [ho,B1] at hst⟩
  simp only [execOp,ho,o7]
  rw [he m (by simp [ho,zO5]) _ hu,he k (by simp [ho,zO5]) _ hv,he x (by simp [ho,zO5]) _ hq,h1]
  rfl
 ·cases h
end
noncomputable section
def E3 (j:Nat):Heap->Heap
 | [] =>[]
 | (i,o) ::r=>match zO0 i j with
  | true=>E3 j r
  | false=>(i,o) ::E3 j r
theorem E8 (j:Nat):∀ (H:Heap) (i:Nat) (o:AObj),(E3 j H).get i=some o->H.get i=some o∧i≠j
 | [],i,o,h=>by simp [E3,Heap.get] at h
 | (k,q) ::r,i,o,h=>by
  unfold E3 at h
  split at h
  ·rename_i hk
   have hk:=N8 hk
   subst hk
   obtain⟨h1,h2⟩:=E8 k r i o h
   rw [b6,a8 (fun e=>h2 e.symm)]
   exact⟨h1,h2⟩
  ·rename_i hk
   rw [b6] at h ⊢
   split at h
   ·rename_i e; subst e
    refine⟨by rw [i6 rfl]; exact h,fun e=> ?_⟩
    rw [e,c0g] at hk
    cases hk
   ·rename_i e
    obtain⟨h1,h2⟩:=E8 j r i o h
    exact⟨by rw [a8 e]; exact h1,h2⟩
theorem L0 (j:Nat):∀ (H:Heap) (i:Nat),i≠j->(E3 j H).get i=H.get i
 | [],_,_=>rfl
 | (k,q) ::r,i,hi=>by
  unfold E3
  split
  ·rename_i hk
   have hk:=N8 hk
   subst hk
   rw [b6,a8 (fun e=>hi e.symm)]
   exact L0 k r i hi
  ·rw [b6,b6,L0 j r i hi]
def kK (k:IntKind):List Value->Option (List Int)
 | [] =>some []
 | v ::r=>match v with
  | .int k' n=>if k'=k then (match kK k r with
   | some l=>some (n ::l)
   | none=>none) else none
  | _=>none
theorem L5 {k:IntKind} :∀ {vs:List Value} {l:List Int},kK k vs=some l->vs=l.map (zO3 k)
 | [],l,h=>by simp only [kK] at h; cases h; rfl
 | v ::r,l,h=>by
  simp only [kK] at h
  split at h
  ·split at h
   ·rename_i hk
    subst hk
    split at h
    ·rename_i l' hl
     cases h
     rw [L5 hl]
     rfl
    ·cases h
   ·cases h
  ·cases h
def s0q (r:Row) (news:List Value):Option Row:=
 match r with
 | .vals xs=>some (.vals (xs++news))
 | .ints k ns=>match kK k news with
  | some l=>some (.ints k (ns++l))
  | none=>none
 | .fam f n=>some (.fam f (n+1))
 | .bytes _=>none
def y1i (r:Row) (news:List Value) (l:List Prop):List Prop:=
 match r with
 | .fam f n=>((f n).map uE=news) ::l
 | _=>l
theorem rQ {r r':Row} {news:List Value} {l:List Prop} (h:s0q r news=some r') (hl:d9 (y1i r news l)):r'.list=r.list++news∧d9 l:=by
 unfold s0q at h
 split at h
 ·cases h; exact⟨rfl,hl⟩
 ·split at h
  ·rename_i l hl'
   cases h
   rw [L5 hl']
   exact⟨by simp [Row.list],hl⟩
  ·cases h
 ·cases h
  rw [<- hl.1]
  exact⟨rfl,hl.2⟩
 ·cases h
def f0l (news:List Value):Row:=
 match news with
 | .int k _ ::_=>match kK k news with
  | some l=> .ints k l
  | none=> .vals news
 | _=> .vals news
theorem oH (news:List Value):(f0l news).list=news:=by
 unfold f0l
 split
 ·split
  ·rename_i l hl; rw [Row.list]; exact (L5 hl).symm
  ·rfl
 ·rfl
def V5:List UInt8->List Int
 | [] =>[]
 | b ::r=>zO2 b.toNat ::V5 r
theorem tP (l:List UInt8):V5 l=l.map fun b=>zO2 b.toNat:=by
 induction l with
 | nil=>rfl
 | cons b r ih=>simp [V5,ih]
def W6:List UInt8->List Value
 | [] =>[]
 | b ::r=> .int .u8 b.toNat ::W6 r
theorem D8 (l:List UInt8):W6 l=l.map fun b=>zO3 .u8 b.toNat:=by
 induction l with
 | nil=>rfl
 | cons b r ih=>simp [W6,ih]
def V6 (H:Heap) (sz:Nat) (x:Value):Option (Nat×List Value):=
 match x with
 | .slice (some ⟨p,o,_⟩) m _=>match cW H p o (m*sz) with
  | some cs=>match cs.all l1p && zO1 0 m with
   | true=>some (m,cs)
   | false=>none
  | none=>none
 | .string s=>match zO0 sz 1 && zO1 0 s.data.toList.length with
  | true=>some (s.data.toList.length,W6 s.data.toList)
  | false=>none
 | _=>none
theorem sO {H:Heap} {sz m:Nat} {s:ByteArray} {news:List Value} (h:V6 H sz (.string s)=some (m,news)):news=W6 s.data.toList:=by
 simp only [V6] at h
 split at h
 ·cases h; rfl
 ·cases h
def q0m (r:Row) (x:Value) (news:List Value):Option Row:=
 match x with
 | .string s=>match r with
  | .ints .u8 ns=>some (.ints .u8 (ns++V5 s.data.toList))
  | .bytes l=>some (.bytes (l++s.data.toList))
  | r=>s0q r news
 | _=>s0q r news
theorem fV (l:List UInt8):(V5 l).map (zO3 .u8)=W6 l:=by
 rw [tP,D8,zU]
 rfl
theorem g0v {H:Heap} {sz m:Nat} {x:Value} {r r':Row} {news:List Value} {l:List Prop} (hn:V6 H sz x=some (m,news)) (h:q0m r x news=some r') (hl:d9 (y1i r news l)):r'.list=r.list++news∧d9 l:=by
 unfold q0m at h
 split at h
 ·rename_i s
  obtain rfl:=sO hn
  split at h
  ·cases h
   refine⟨?_,hl⟩
   simp only [Row.list,bK,fV]
  ·cases h
   refine⟨?_,hl⟩
   simp only [Row.list,bK,D8]
  ·exact rQ h hl
 ·exact rQ h hl
def o0d (x:Value) (news:List Value):Row:=
 match x with
 | .string s=> .ints .u8 (V5 s.data.toList)
 | _=>f0l news
theorem h0u {H:Heap} {sz m:Nat} {x:Value} {news:List Value} (hn:V6 H sz x=some (m,news)):(o0d x news).list=news:=by
 unfold o0d
 split
 ·rename_i s
  obtain rfl:=sO hn
  exact fV _
 ·exact oH news
def h0t (x:Value):Bool:=
 match x with
 | .slice none 0 _=>true
 | .slice (some ⟨_,_,none⟩) 0 _=>true
 | .string s=>zO0 s.data.toList.length 0
 | _=>false
def k2k (d:TypeDesc):Bool:=
 match d with
 | .slice _=>true
 | .string=>true
 | _=>false
def f1i:Row->Nat
 | .vals xs=>xs.length
 | .ints _ ns=>ns.length
 | .fam f n=>(rA f n).length
 | .bytes l=>l.length
theorem c1u (r:Row):f1i r=r.list.length:=by cases r <;> simp [f1i,Row.list]
def T7 (P:Program) (auto:Bool) (ts:List TypeId) (H:Heap) (n:Nat) (args:List Value):Option (Value×Heap×List Prop):=
 match ts,args with
 | [t,t2],[s,x] =>match R7 P t,R7 P t2 with
  | some (.slice e),some d=>match k2k d,eQ P e with
   | true,some i=>match i.zero with
    | none=>none
    | some z=>match zO1 0 i.size && zO0 z.cells.size i.size,V6 H i.size x with
     | true,some (m,news)=>match s with
      | .slice none 0 0=>match L9 auto (m*i.bytes<=140737488355328∧m<=9223372036854775807) with
       | some l=>some (.slice (some ⟨n,0,some (n+1)⟩) m 0,(n, .row e i.size (o0d x news) (n+1)) ::H,l)
       | none=>none
      | .slice (some ⟨j,0,some k⟩) n0 0=>match H.get j with
       | some (.row e' sz r k')=>match zO0 e' e && zO0 sz i.size && zO0 k' k,q0m r x news,L9 auto (n0*i.size=f1i r∧(n0+m)*i.bytes<=140737488355328∧n0+m<=9223372036854775807) with
        | true,some r',some l=>some (.slice (some ⟨n,0,some (n+1)⟩) (n0+m) 0,(n, .row e i.size r' (n+1)) ::E3 j H,y1i r news l)
        | _,_,_=>none
       | _=>none
      | .slice (some ⟨j,off,none⟩) n0 c=>match H.get j with
       | some (.cells cs e')=>match Nat.ble (n0+m) c with
        | true=>match Nat.ble (off+n0*i.size+news.length) cs.length with
         | true=>some (.slice (some ⟨j,off,none⟩) (n0+m) c,H.set j (.cells (cs.take (off+n0*i.size)++news++cs.drop (off+n0*i.size+news.length)) e'),[])
         | false=>none
        | false=>match Nat.ble (off+n0*i.size) cs.length,L9 auto ((n0+m)*i.bytes<=140737488355328∧n0+m<=9223372036854775807∧c<=n0+m) with
         | true,some l=>some (.slice (some ⟨n,0,some (n+1)⟩) (n0+m) 0,(n, .row e i.size (f0l (((cs.drop off).take (n0*i.size))++news)) (n+1)) ::H,l)
         | _,_=>none
       | _=>none
      | _=>none
     | true,none=>match h0t x with
      | true=>match s with
       | .slice none 0 0=>some (s,H,[])
       | .slice (some ⟨_,_,none⟩) n0 c=>match Nat.ble n0 c with
        | true=>some (s,H,[])
        | false=>none
       | _=>none
      | false=>none
     | _,_=>none
   | _,_=>none
  | _,_=>none
 | _,_=>none
def b1m:Builtin->Bool
 | .append=>true
 | _=>false
theorem zT {b:Builtin} (h:b1m b=true):b= .append:=by
 cases b <;> first | rfl | (cases h; done)
theorem ORep.same {B:Nat} {M:Nat->Prop} {ρ:Num} {w w':World} {ob:Option Nat} {o:AObj} (h:ORep B M ρ w ob o) (hb:∀ b,ob=some b->w'.heap[b]? =w.heap[b]?):ORep B M ρ w' ob o:=by
 cases o with
 | row e sz r k=>
  rcases h with h | ⟨b,cap,cur,h1,h2,h3,h4⟩
  ·exact .inl h
  ·exact .inr ⟨b,cap,cur,h1,h2,h3.to (hb b h1),h4⟩
 | cells cs t=>obtain⟨b,h1,h2,h3⟩:=h; exact⟨b,h1,(hb b h1).trans h2,h3⟩
 | iter s pos=>obtain⟨b,h1,h2,h3⟩:=h; exact⟨b,h1,(hb b h1).trans h2,h3⟩
 | ints k xs=>
  rcases h with h | ⟨b,cs,t,fr,h1,h2,h3⟩
  ·exact .inl h
  ·exact .inr ⟨b,cs,t,fr,h1,(hb b h1).trans h2,h3⟩
 | loop st pn ts ps asg bd=>obtain⟨b,r,h1,h2,h3⟩:=h; exact⟨b,r,h1,(hb b h1).trans h2,h3⟩
 | defr=>obtain⟨b,h1,h2,h3⟩:=h; exact⟨b,h1,(hb b h1).trans h2,h3⟩
 | dead=>obtain⟨b,o,h1,h2,h3⟩:=h; exact⟨b,o,h1,(hb b h1).trans h2,h3⟩
 | ro xs=>
  rcases h with h | ⟨b,cs,t,fr,h1,h2,h3⟩
  ·exact .inl h
  ·exact .inr ⟨b,cs,t,fr,h1,(hb b h1).trans h2,h3⟩
 | map es=>obtain⟨b,mes,ck,h1,h2,h3⟩:=h; exact⟨b,mes,ck,h1,(hb b h1).trans h2,h3⟩
 | fam f n sz o=>
  rcases h with h | ⟨b,cs,t,fr,h1,h2,h3⟩
  ·exact .inl h
  ·exact .inr ⟨b,cs,t,fr,h1,(hb b h1).trans h2,h3⟩
theorem Sim.row {P:Program} {B:Nat} {M:Nat->Prop} {ρ:Num} {H H':Heap} {w w':World} (h:Sim P B M ρ H w) {n g cap:Nat} {e:TypeId} {sz:Nat} {r:Row} {cur:Array Value}
  (hH:∀ i o,i≠n->H'.get i=some o->H.get i=some o∧ρ i≠some g) (hn:ρ n=some g) (hc:ρ (n+1)=some cap) (hg:RowAt w' g cur e) (hB:B<=g∨M g) (hcm:cap<=maxLen) (hcs:cur.size=cap*sz)
  (hln:r.list.length<=cap*sz) (htake:cur.toList.take r.list.length=rvL ρ r.list) (hk:∀ k,k < w.heap.size->k≠g->w'.heap[k]? =w.heap[k]?):Sim P B M ρ ((n, .row e sz r (n+1)) ::H') w':=by
 refine⟨h.glob,fun i o hi=> ?_,fun i j oi oj hi hr hj hij hne=> ?_⟩
 ·rw [b6] at hi
  split at hi
  ·rename_i e; subst e; cases hi
   rw [hn]
   exact .inr ⟨g,cap,cur,rfl,hc,hg,hB,hcm,hcs,hln,htake⟩
  ·rename_i hni
   obtain⟨h1,h2⟩:=hH i o (fun e=>hni e.symm) hi
   have ho:=h.obj i o h1
   refine ho.same fun b hb=>hk b ?_ (fun e=>h2 (by rw [hb,e]))
   rw [hb] at ho
   exact ho.lt
 ·rw [b6] at hi hj
  split at hi <;> split at hj
  ·rename_i e1 e2; exact absurd (e1.symm.trans e2) hij
  ·rename_i e1 e2; subst e1
   intro e
   exact (hH j oj (fun e=>e2 e.symm) hj).2 (by rw [<- e,hn])
  ·rename_i e1 e2; subst e2
   intro e
   exact (hH i oi (fun e=>e1 e.symm) hi).2 (by rw [e,hn])
  ·rename_i e1 e2
   exact h.inj i j oi oj (hH i oi (fun e=>e1 e.symm) hi).1 hr (hH j oj (fun e=>e2 e.symm) hj).1 hij hne
theorem zK (ρ:Num) (l:List UInt8):rvL ρ (W6 l)=W6 l:=rvL_pure ρ _ (by rw [C3,D8]; simp [pureV])
theorem oJ {P:Program} {B:Nat} {M:Nat->Prop} {ρ:Num} {H:Heap} {w:World} (hS:Sim P B M ρ H w) {sz:Nat} {x:Value} {m:Nat} {news:List Value} (h:V6 H sz x=some (m,news)) {tx:TypeId} {d:TypeDesc} (ht:P.underlying tx=some d) (hd:k2k d=true):
  Src P sz tx (rv ρ x) m (rvL ρ news) w∧0 < m:=by
 have hk:(∃ e',P.underlying tx=some (.slice e'))∨P.underlying tx=some .string:=by
  unfold k2k at hd
  split at hd
  ·exact .inl ⟨_,ht⟩
  ·exact .inr ht
  ·cases hd
 unfold V6 at h
 split at h
 ·rename_i p o sp m' c
  split at h
  case h_2=>cases h
  rename_i cs hcs
  split at h
  case h_2=>cases h
  rename_i hc
  cases h
  simp only [u6,C0,zzA10] at hc
  obtain⟨h2,h3⟩:=hc
  obtain⟨b,hb,hlen,hcell⟩:=Z1 hS hcs
  have hrv:∃ c',rv ρ (.slice (some ⟨p,o,sp⟩) m c)= .slice (some ⟨b,o,none⟩) m c':=by
   cases sp with
   | none=>exact⟨c,by simp [rv,rSl,p6,hb]⟩
   | some k=>exact⟨_,by simp [rv,rSl,hb]; rfl⟩
  obtain⟨c',hrv⟩:=hrv
  have hone:∀ u∈rvL ρ news,u.oneCell'=true:=fun u hu=>by
   rw [l5] at hu
   obtain⟨u0,hu0,rfl⟩:=zzA41.1 hu
   exact b0l ρ u0 (h2 u0 hu0)
  have hl:(rvL ρ news).length=m*sz:=by rw [l5,z6]; exact hlen
  rw [hrv]
  have hnews:∀ j u,(rvL ρ news)[j]? =some u->w.cell? ((⟨b,o,none⟩:Addr).add j)=some u:=fun j u hj=>by rw [addr_add]; exact hcell j u hj
  exact⟨⟨hk,fun _=>rfl,yB w sz m _ m c' _ hl hnews,yB w.drew sz m _ m c' _ hl (by simpa using hnews),hl,hone⟩,h3⟩
 ·rename_i s
  split at h
  case h_2=>cases h
  rename_i hc
  simp only [u6,y4,C0] at hc
  obtain⟨h1,h2⟩:=hc
  subst h1
  cases h
  rw [zK]
  have hb:W6 s.data.toList=byteCells s:=D8 _
  have hsz:s.data.toList.length=s.size:=by rw [bA]; rfl
  rw [hb,hsz]
  have he:rv ρ (.string s)= .string s:=by simp [rv]
  rw [he]
  refine⟨⟨hk,fun _=>rfl,firstCells_string s w,firstCells_string s w.drew,by rw [byteCells_length,y8],fun u hu=> ?_⟩,by rw [<- hsz]; exact h2⟩
  obtain⟨_,_,rfl⟩:=zzA41.1 hu
  rfl
 ·cases h
theorem P6 {P:Program} (w:World) (t tx ty e e2:TypeId) (i:TypeInfo) (ht:P.underlying t=some (.slice e)) (hi:P.info? e=some i) (g off sLen sCap:Nat) (cur:Array Value) (hg:RowAt w g cur e2)
  (x:Value) (m:Nat) (news:List Value) (hs:Src P i.size tx x m news w) (hroom:sLen+m<=sCap) (hfit:off+sLen*i.size+news.length<=cur.size):
  (Builtin.append_ #[t,tx] ty #[.slice (some ⟨g,off,none⟩) sLen sCap,x]).run P w=
   .ok (.slice (some ⟨g,off,none⟩) (sLen+m) sCap) (w.setRow g (cur.toList.take (off+sLen*i.size)++news++cur.toList.drop (off+sLen*i.size+news.length)).toArray):=by
 have hst:=C1 P g (off+sLen*i.size) e2 news 0 cur w hg (by simpa using hfit) hs.one
 simp only [I2] at hst
 rcases hs.kind with ⟨e',hk⟩ | hk <;> simp [Builtin.append_,run_underlying ht,run_underlying hk,sizeOf,typeInfo,hi,hs.len,hroom,hs.cells,Addr.add_lit,hst]
theorem rV {P:Program} (w:World) (t tx ty e:TypeId) (i:TypeInfo) (ht:P.underlying t=some (.slice e)) (hi:P.info? e=some i) (hk:(∃ e',P.underlying tx=some (.slice e'))∨P.underlying tx=some .string) (base:Option Addr) (sLen sCap:Nat)
  (x:Value) (hl:∀ w':World,(Builtin.lenOf x).run P w'= .ok 0 w') (hc:(Builtin.firstCells i.size 0 x).run P w= .ok #[] w) (hroom:sLen<=sCap):
  (Builtin.append_ #[t,tx] ty #[.slice base sLen sCap,x]).run P w= .ok (.slice base sLen sCap) w:=by
 rcases hk with ⟨e',hk⟩ | hk <;> cases base <;> simp [Builtin.append_,run_underlying ht,run_underlying hk,sizeOf,typeInfo,hi,hl,hroom,hc,storeCells]
theorem h0p {P:Program} {ρ:Num} {w:World} {sz:Nat} {x:Value} (h:h0t x=true):(∀ w':World,(Builtin.lenOf (rv ρ x)).run P w'= .ok 0 w')∧(Builtin.firstCells sz 0 (rv ρ x)).run P w= .ok #[] w:=by
 unfold h0t at h
 split at h
 ·simp only [rv]
  exact⟨fun _=>rfl,j0o w sz 0 0 _⟩
 ·rename_i p o c
  simp only [rv,rSl,p6]
  cases ρ p with
  | none=>exact⟨fun _=>rfl,j0o w sz 0 0 _⟩
  | some b=>exact⟨fun _=>rfl,yB w sz 0 ⟨b,o,none⟩ 0 c [] (by simp) (fun j u hj=>by simp at hj)⟩
 ·rename_i s
  have h:=N8 h
  have hsz:s.size=0:=by rw [<- h,bA]; rfl
  simp only [rv]
  refine⟨fun _=>by simp [Builtin.lenOf,hsz],?_⟩
  simp [Builtin.firstCells]
 ·cases h
theorem P3 (ρ:Num) (a b:List Value):rvL ρ (a++b)=rvL ρ a++rvL ρ b:=by simp [l5]
theorem g1k {w:World} {e:TypeId} {z:Value} {sz L9 old:Nat} (hz:z.cells.size=sz) {olds news:List Value} (hl:(olds++news).length=L9*sz) (hm:L9<=maxLen):
  ∃ cur:Array Value,cur=olds.toArray++news.toArray++Builtin.zeroCells z.cells (grownCap w L9 old e-L9)∧cur.size=grownCap w L9 old e*sz∧grownCap w L9 old e<=maxLen∧L9<=grownCap w L9 old e∧cur.toList.take (olds++news).length=olds++news:=by
 have hge:=grownCap_ge w L9 old e
 refine⟨_,rfl,?_,grownCap_le_maxLen w L9 old e hm,hge,?_⟩
 ·have:olds.length+news.length=L9*sz:=by rw [<- F6]; exact hl
  simp only [Array.size_append,w0k,size_zeroCells,hz,this,<- x6]
  congr 1
  omega
 ·simp only [u0h]
  exact pA
theorem cR {P:Program} {auto:Bool} {ts:List TypeId} {H H':Heap} {n:Nat} {args:List Value} {v:Value} {l:List Prop} (h:T7 P auto ts H n args=some (v,H',l)) (hl:d9 l)
  {B:Nat} {M:Nat->Prop} {F:Num->Prop} {ρ:Num} (hF:F ρ) {w:World} (hB:B<=w.heap.size) (hS:∀ ρ',F ρ'->Sim P B M ρ' H w) (hA:∀ ρ',F ρ'->rvL ρ' args=rvL ρ args) (ty:TypeId):
  ∃ v' w' bn bk,(Builtin.append_ ts.toArray ty (rvL ρ args).toArray).run P w= .ok v' w'∧Keeps B M w w'∧∀ ρ',F ρ'->ρ' n=bn->ρ' (n+1)=bk->v'=rv ρ' v∧Sim P B M ρ' H' w':=by
 unfold T7 at h
 simp only [u9,v8] at h
 split at h
 case h_2=>cases h
 rename_i t t2 s x
 split at h
 case h_2=>cases h
 rename_i e d hu hu2
 split at h
 case h_2=>cases h
 rename_i i hd hi
 split at h
 ·cases h
 rename_i z hz
 have hs2:∀ ρ',F ρ'->rv ρ' s=rv ρ s∧rv ρ' x=rv ρ x:=fun ρ' ha=>by
  have:=hA ρ' ha
  simp only [rvL,J7,F1] at this
  exact this
 have hkind:(∃ e',P.underlying t2=some (.slice e'))∨P.underlying t2=some .string:=by
  unfold k2k at hd
  split at hd
  ·exact .inl ⟨_,hu2⟩
  ·exact .inr hu2
  ·cases hd
 split at h
 case h_3=>cases h
 case h_2=>
  split at h
  case h_2=>cases h
  rename_i hnn
  obtain⟨q1,q2⟩:=h0p (P:=P) (ρ:=ρ) (w:=w) (sz:=i.size) hnn
  have fin:∀ base sLen sCap,rv ρ s= .slice base sLen sCap->sLen<=sCap->∃ v' w' bn bk,(Builtin.append_ #[t,t2] ty (rvL ρ [s,x]).toArray).run P w= .ok v' w'∧Keeps B M w w'∧∀ ρ',F ρ'->ρ' n=bn->ρ' (n+1)=bk->v'=rv ρ' s∧Sim P B M ρ' H w':=by
   intro base sLen sCap hs hle
   refine⟨rv ρ s,w,ρ n,ρ (n+1),?_,Keeps.refl _ _ _,fun ρ' ha _ _=> ?_⟩
   ·have:=rV (P:=P) w t t2 ty e i hu hi hkind base sLen sCap (rv ρ x) q1 q2 hle
    simp only [rvL,hs]
    exact this
   ·exact⟨(hs2 ρ' ha).1.symm,hS ρ' ha⟩
  split at h
  ·cases h
   exact fin none 0 0 (by simp [rv]) (d5 _)
  ·rename_i j off n0 c
   split at h
   case h_2=>cases h
   rename_i hle
   cases h
   exact fin _ n0 c (by simp [rv,rSl]; rfl) (fX hle)
  ·cases h
 rename_i m news hsz hnews
 simp only [u6,C0,y4] at hsz
 obtain⟨hpos,hzs⟩:=hsz
 obtain⟨hsrc,hm⟩:=oJ (hS ρ hF) hnews hu2 hd
 have hsame:∀ ρ',F ρ'->rvL ρ' news=rvL ρ news:=by
  intro ρ' ha
  obtain⟨hsrc',_⟩:=oJ (hS ρ' ha) hnews hu2 hd
  have h1:=hsrc'.cells
  rw [(hs2 ρ' ha).2,hsrc.cells] at h1
  injection h1 with h1
  have:=G7 Array.toList h1
  simpa using this.symm
 have hnl:=hsrc.newsLen
 have fresh:∀ (N old:Nat) (rl:List Value) (r':Row) (H2:Heap),r'.list=rl++news->(∀ ρ',F ρ'->rvL ρ' rl=rvL ρ rl)->(rvL ρ rl++rvL ρ news).length=N*i.size->N<=maxLen->(∀ i o,H2.get i=some o->H.get i=some o)->
   (Builtin.append_ #[t,t2] ty (rvL ρ [s,x]).toArray).run P w= .ok (.slice (some ⟨w.heap.size,0,none⟩) N (grownCap w N old e)) (w.drew.alloc (.cells ((rvL ρ rl++rvL ρ news).toArray++Builtin.zeroCells z.cells (grownCap w N old e-N)) e))->
   ∃ v' w' bn bk,(Builtin.append_ #[t,t2] ty (rvL ρ [s,x]).toArray).run P w= .ok v' w'∧Keeps B M w w'∧∀ ρ',F ρ'->ρ' n=bn->ρ' (n+1)=bk->v'=rv ρ' (.slice (some ⟨n,0,some (n+1)⟩) N 0)∧Sim P B M ρ' ((n, .row e i.size r' (n+1)) ::H2) w':=by
  intro N old rl r' H2 hr' hrl hlen hN hH2 hrun
  have hcat:(rvL ρ rl++rvL ρ news).toArray=(rvL ρ rl).toArray++(rvL ρ news).toArray:=by simp
  rw [hcat] at hrun
  obtain⟨cur,hcur,hcs,hcm,hge,htake⟩:=g1k (w:=w) (e:=e) (z:=z) (old:=old) hzs hlen hN
  rw [<- hcur] at hrun
  refine⟨_,_,some w.heap.size,some (grownCap w N old e),hrun,⟨rfl,rfl,rfl,by simp,fun k hk _=>heap_alloc_old w.drew _ (by simpa using B9 hk hB)⟩,fun ρ' ha0 g1 g2=> ?_⟩
  refine⟨by simp [rv,rSl,g1,g2],Sim.row (hS ρ' ha0) (fun i o _ hi=> ?_) g1 g2 (.of (h0i w.drew _)) (.inl hB) hcm hcs ?_ ?_ (fun k hk _=>heap_alloc_old w.drew _ (by simpa using hk))⟩
  ·refine⟨hH2 i o hi,fun e=> ?_⟩
   have:=(hS ρ' ha0).obj i o (hH2 i o hi)
   rw [e] at this
   exact absurd this.lt (m0r _)
  ·have e1:r'.list.length=N*i.size:=by rw [hr',<- hlen]; simp [l5]
   rw [e1]
   exact s5 _ hge
  ·rw [hr',P3,hrl ρ' ha0,hsame ρ' ha0]
   have e1:(rl++news).length=(rvL ρ rl++rvL ρ news).length:=by simp [l5]
   rw [e1]
   exact htake
 split at h
 ·
  split at h
  case h_2=>cases h
  rename_i l' hneed
  cases h
  obtain⟨q1,q2⟩:=j0 hneed hl
  refine fresh m 0 [] _ H (h0u hnews) (fun _ _=>rfl) (by simpa [rvL] using hnl) (by unfold maxLen; omega) (fun _ _ h=>h) ?_
  have:=run_append_grow_src (P:=P) w t t2 ty e i z hu hi hz none 0 0 [] (j0o w.drew i.size 0 0 0) (rv ρ x) m (rvL ρ news) hsrc (by omega) (by omega) (growslice_fits (by omega) (by simpa using q1))
  simp only [rvL,rv,aW,nH] at this ⊢
  exact this
 ·rename_i j k n0
  split at h
  case h_2=>cases h
  rename_i e' sz r k' hget
  split at h
  case h_2=>cases h
  rename_i r' l' hck hadd hneed
  cases h
  simp only [u6,y4] at hck
  obtain⟨⟨c1,c2⟩,c3⟩:=hck
  subst c1 c2 c3
  obtain⟨hr',hl⟩:=g0v hnews hadd hl
  obtain⟨q1,q2,q3⟩:=j0 hneed hl
  rw [c1u] at q1
  have hdel:∀ i o,(E3 j H).get i=some o->H.get i=some o:=fun i o hh=>(E8 j H i o hh).1
  have hss:∀ ρ',F ρ'->rv ρ' (.slice (some ⟨j,0,some k'⟩) n0 0)=rv ρ (.slice (some ⟨j,0,some k'⟩) n0 0):=fun ρ' ha=>(hs2 ρ' ha).1
  have hob:=(hS ρ hF).obj j _ hget
  rcases hob with ⟨hj,hlist⟩ | ⟨b,cap,cur,hb,hcap,hcells,hbB,hcm,hcs,hln,htake⟩
  ·
   have hn0:n0=0:=by
    rw [hlist] at q1
    simp only [mJ] at q1
    rcases R2 n0 with h0 | h0
    ·exact h0
    ·have:=w0z h0 hpos
     omega
   subst hn0
   rw [aW] at q2 q3 ⊢
   refine fresh m 0 [] r' _ (by rw [hr',hlist]) (fun _ _=>rfl) (by simpa [rvL] using hnl) (by unfold maxLen; omega) hdel ?_
   have:=run_append_grow_src (P:=P) w t t2 ty e' i z hu hi hz none 0 0 [] (j0o w.drew i.size 0 0 0) (rv ρ x) m (rvL ρ news) hsrc (by omega) (by omega) (growslice_fits (by omega) (by simpa using q2))
   simp only [rvL,rv,rSl,hj,aW,nH] at this ⊢
   exact this
  ·have hnews':∀ ρ',F ρ'->ρ' j=some b:=fun ρ' ha=>by
    have:=hss ρ' ha
    simp only [rv,rSl,hb] at this
    split at this
    ·cases this
    ·rename_i b' hb'
     simp only [Value.slice.injEq,G3,Addr.mk.injEq,F1,true_and] at this
     rw [hb',this.1]
   have hrl:∀ ρ',F ρ'->rvL ρ' r.list=rvL ρ r.list:=fun ρ' ha=>by
    rcases (hS ρ' ha).obj j _ hget with ⟨h1,_⟩ | ⟨b',cap',cur',h1,_,h3,_,_,_,_,h8⟩
    ·rw [hnews' ρ' ha] at h1; cases h1
    ·rw [hnews' ρ' ha] at h1
     cases h1
     obtain⟨_,hc1,_⟩:=hcells
     obtain⟨_,hc2,_⟩:=h3
     rw [hc1] at hc2
     cases hc2
     rw [<- h8,htake]
   have hs:rv ρ (.slice (some ⟨j,0,some k'⟩) n0 0)= .slice (some ⟨b,0,none⟩) n0 cap:=by simp [rv,rSl,hb,hcap]
   have hlen:(rvL ρ r.list).length=n0*i.size:=by rw [l5]; simp; exact q1.symm
   by_cases hroom:n0+m<=cap
   ·have hfit:n0*i.size+(rvL ρ news).length<=cur.size:=by rw [hnl,hcs,<- x6]; exact s5 _ hroom
    have hrun:=P6 (P:=P) w t t2 ty e' e' i hu hi b 0 n0 cap cur hcells (rv ρ x) m (rvL ρ news) hsrc hroom (by simpa using hfit)
    simp only [aW] at hrun
    refine⟨_,w.setRow b (cur.toList.take (n0*i.size)++rvL ρ news++cur.toList.drop (n0*i.size+(rvL ρ news).length)).toArray,some b,some cap,by simp only [rvL,hs]; exact hrun,⟨rfl,rfl,rfl,by simp,fun k hk hm=>pR w b k _ (fun e=>by subst e; exact hbB.elim (fun h=>by omega) hm)⟩,fun ρ' ha0 g1 g2=> ?_⟩
    have hl2:r'.list.length=n0*i.size+(rvL ρ news).length:=by rw [hr',F6,<- q1]; simp [l5]
    have hsize:(cur.toList.take (n0*i.size)++rvL ρ news++cur.toList.drop (n0*i.size+(rvL ρ news).length)).toArray.size=cur.size:=by
     simp only [w0k,F6,D5,K3,bA]
     rw [D4 (by omega)]
     omega
    refine⟨by simp [rv,rSl,g1,g2],Sim.row (hS ρ' ha0) (fun i' o _ hi'=> ?_) g1 g2 (hcells.set _ hsize) hbB hcm (hsize.trans hcs) ?_ ?_ (fun k _ hk=>pR w b k _ hk)⟩
    ·obtain⟨d1,d2⟩:=E8 j H i' o hi'
     refine⟨d1,fun e=> ?_⟩
     exact (hS ρ' ha0).inj j i' _ _ hget rfl d1 (fun e=>d2 e.symm) (by rw [hnews' ρ' ha0]; simp) (by rw [hnews' ρ' ha0,e])
    ·rw [hl2,hnl,<- x6]; exact s5 _ hroom
    ·rw [hl2,hr',P3,hrl ρ' ha0,hsame ρ' ha0,<- htake]
     rw [<- q1]
     have e1:(cur.toList.take (n0*i.size)).length=n0*i.size:=by rw [D5,bA]; omega
     rw [show n0*i.size+(rvL ρ news).length=(cur.toList.take (n0*i.size)++rvL ρ news).length by rw [F6,e1]]
     exact pA
   ·have holds:∀ q u,(rvL ρ r.list)[q]? =some u->w.cell? ((⟨b,0,none⟩:Addr).add q)=some u:=fun q u hq=>by
     rw [l5,N6] at hq
     cases hxq:r.list[q]? with
     | none=>rw [hxq] at hq; cases hq
     | some u0=>
      rw [hxq] at hq
      cases hq
      rw [addr_add,aW]
      exact L8 hcells htake hxq
    have hrun:=run_append_grow_src (P:=P) w t t2 ty e' i z hu hi hz (some ⟨b,0,none⟩) n0 cap (rvL ρ r.list) (yB w.drew i.size n0 _ n0 cap _ hlen (by simpa using holds)) (rv ρ x) m (rvL ρ news) hsrc (by omega) (by omega) (growslice_fits (by omega) q2)
    refine fresh (n0+m) cap r.list r' _ hr' hrl (by rw [F6,hlen,hnl,<- x6]) (by unfold maxLen; omega) hdel ?_
    simp only [rvL,hs]
    exact hrun
 ·rename_i j off n0 c
  split at h
  case h_2=>cases h
  rename_i cs e2 hget
  obtain⟨b,hb,hcells,hown⟩:=(hS ρ hF).obj j _ hget
  have hs:rv ρ (.slice (some ⟨j,off,none⟩) n0 c)= .slice (some ⟨b,off,none⟩) n0 c:=by simp [rv,rSl,p6,hb]
  have hbj:∀ ρ',F ρ'->ρ' j=some b:=fun ρ' ha=>by
   have:=(hs2 ρ' ha).1
   rw [hs] at this
   simp only [rv,rSl,p6] at this
   cases hq:ρ' j with
   | none=>rw [hq] at this; cases this
   | some b'=>
    rw [hq] at this
    simp only [A4,Value.slice.injEq,G3,Addr.mk.injEq,F1] at this
    rw [this]
  have hcsame:∀ ρ',F ρ'->rvL ρ' cs=rvL ρ cs:=fun ρ' ha=>by
   obtain⟨b',h1,h2,_⟩:=(hS ρ' ha).obj j _ hget
   rw [hbj ρ' ha] at h1
   cases h1
   rw [hcells] at h2
   injection h2 with h2
   injection h2 with h2
   have:=G7 Array.toList h2
   simpa using this.symm
  have hclen:(rvL ρ cs).length=cs.length:=by rw [l5,z6]
  split at h
  ·rename_i hroom
   have hroom:=fX hroom
   split at h
   case h_2=>cases h
   rename_i hfit
   have hfit:=fX hfit
   cases h
   have hnlen:(rvL ρ news).length=news.length:=by rw [l5,z6]
   have hrun:=P6 (P:=P) w t t2 ty e e2 i hu hi b off n0 c (rvL ρ cs).toArray (.of hcells) (rv ρ x) m (rvL ρ news) hsrc hroom (by simp only [w0k]; omega)
   refine⟨_,w.setRow b ((rvL ρ cs).toArray.toList.take (off+n0*i.size)++rvL ρ news++(rvL ρ cs).toArray.toList.drop (off+n0*i.size+(rvL ρ news).length)).toArray,ρ n,ρ (n+1),by simp only [rvL,hs]; exact hrun,⟨rfl,rfl,rfl,by simp,fun k hk hm=>pR w b k _ (fun e=>by subst e; exact hown.elim (fun h=>by omega) hm)⟩,fun ρ' ha0 _ _=> ?_⟩
   refine⟨by simp [rv,rSl,p6,hbj ρ' ha0],(hS ρ' ha0).turn hget rfl (hbj ρ' ha0) ⟨b,rfl,?_,hown⟩ (fun k hk=>pR w b k _ hk)⟩
   rw [setRow_heap w b _ _ e2 _ hcells]
   congr 2
   have e1:=hcsame ρ' ha0
   have e2:=hsame ρ' ha0
   rw [l5,l5] at e1 e2
   simp only [l5,bK,eK,eI,z6]
   rw [e1,e2]
  ·rename_i hnr
   have hnr:c < n0+m:=by
    rcases E0 c (n0+m) with h' | h'
    ·exact h'
    ·rw [t0f h'] at hnr; cases hnr
   split at h
   case h_2=>cases h
   rename_i l' hle hneed
   have hle:=fX hle
   cases h
   obtain⟨q2,q3,_⟩:=j0 hneed hl
   have hlen:(rvL ρ ((cs.drop off).take (n0*i.size))).length=n0*i.size:=by rw [l5,z6,D5,K3]; omega
   have holds:∀ q u,(rvL ρ ((cs.drop off).take (n0*i.size)))[q]? =some u->w.cell? ((⟨b,off,none⟩:Addr).add q)=some u:=fun q u hq=>by
    rw [addr_add,fW w b (off+q) _ _ _ hcells]
    rw [l5,N6,R9] at hq
    split at hq
    ·rw [Q6] at hq
     simpa [l5] using hq
    ·cases hq
   have hrun:=run_append_grow_src (P:=P) w t t2 ty e i z hu hi hz (some ⟨b,off,none⟩) n0 c (rvL ρ ((cs.drop off).take (n0*i.size))) (yB w.drew i.size n0 _ n0 c _ hlen (by simpa using holds)) (rv ρ x) m (rvL ρ news) hsrc (by omega) (by omega) (growslice_fits (by omega) q2)
   refine fresh (n0+m) c ((cs.drop off).take (n0*i.size)) _ _ (oH _) (fun ρ' ha=> ?_) (by rw [F6,hlen,hnl,<- x6]) (by unfold maxLen; omega) (fun _ _ h=>h) ?_
   ·have:=hcsame ρ' ha
    rw [l5,l5] at this
    rw [l5,l5,eK,eI,this,eK,eI]
   ·simp only [rvL,hs]
    exact hrun
 ·cases h
theorem xS {P:Program} {auto:Bool} {ts:List TypeId} {H H':Heap} {n:Nat} {args:List Value} {v:Value} {l:List Prop} (h:T7 P auto ts H n args=some (v,H',l)) (hl:d9 l)
  {B:Nat} {M:Nat->Prop} {ρ:Num} {w:World} (hB:B<=w.heap.size) (hS:∀ ρ',Agree n ρ ρ'->Sim P B M ρ' H w) (hA:∀ ρ',Agree n ρ ρ'->rvL ρ' args=rvL ρ args) (ty:TypeId):
  ∃ v' w' ρ1,Agree n ρ ρ1∧(Builtin.append_ ts.toArray ty (rvL ρ args).toArray).run P w= .ok v' w'∧Keeps B M w w'∧∀ ρ',Agree (n+2) ρ1 ρ'->v'=rv ρ' v∧Sim P B M ρ' H' w':=by
 obtain⟨v',w',bn,bk,h1,h2,h3⟩:=cR h hl (F:=Agree n ρ) (Agree.refl _ _) hB hS hA ty
 refine⟨v',w',fun i=>if i=n then bn else if i=n+1 then bk else ρ i,fun i hi=>by simp only; rw [a8 (by omega),a8 (by omega)],h1,h2,fun ρ' ha=>h3 ρ' (fun i hi=> ?_) ?_ ?_⟩
 ·rw [ha i (by omega)]; simp only; rw [a8 (by omega),a8 (by omega)]
 ·rw [ha n (by omega)]; simp
 ·rw [ha (n+1) (by omega)]; simp
def bL (args:List Value):List Nat:=
 match args with
 | .slice (some ⟨j,_,_⟩) _ _ ::_=>[j]
 | _=>[]
theorem i0w {H H2:Heap} (hs:∀ i o,H.get i=some o->H2.get i=some o) {p o k:Nat} {cs:List Value} (h:cW H p o k=some cs):cW H2 p o k=some cs:=by
 unfold cW at h ⊢
 cases hq:H.get p with
 | none=>rw [hq] at h; cases h
 | some ob=>rw [hq] at h; rw [hs p ob hq]; exact h
theorem q0q {H H2:Heap} (hs:∀ i o,H.get i=some o->H2.get i=some o) {sz:Nat} {x:Value} {q:Nat×List Value} (h:V6 H sz x=some q):V6 H2 sz x=some q:=by
 unfold V6 at h ⊢
 split at h
 ·rename_i p o sp m c
  split at h
  ·rename_i cs hcs
   simp only [i0w hs hcs]
   exact h
  ·cases h
 ·exact h
 ·cases h
theorem o0v {H:Heap} {sz:Nat} {x:Value} (h:h0t x=true):V6 H sz x=none:=by
 unfold h0t at h
 split at h
 ·rfl
 ·simp [V6]
  split
  ·rw [show zO1 0 0=false from rfl,Bool.and_false]
  ·rfl
 ·rename_i s
  have:=N8 h
  simp only [V6,this]
  rw [show zO1 0 0=false from rfl,Bool.and_false]
 ·cases h
theorem xU {P:Program} {auto:Bool} {ts:List TypeId} {H H' H2:Heap} {n:Nat} {args:List Value} {v:Value} {l:List Prop} (h:T7 P auto ts H n args=some (v,H',l)) (hs:∀ i o,H.get i=some o->H2.get i=some o):
  ∃ H2',T7 P auto ts H2 n args=some (v,H2',l)∧(∀ i o,(i=n∨i∈bL args)->H'.get i=some o->H2'.get i=some o)∧(∀ i,i≠n->i ∉ bL args->H2'.get i=H2.get i):=by
 have same:∀ i o,(i=n∨i∈bL args)->H.get i=some o->H2.get i=some o:=fun i o _=>hs i o
 unfold T7 at h ⊢
 split at h
 case h_2=>cases h
 rename_i t t2 s x
 split at h
 case h_2=>cases h
 rename_i e d hu hu2
 try simp only [hu,hu2]
 split at h
 case h_2=>cases h
 rename_i i hd hi
 try simp only [hd,hi]
 split at h
 ·cases h
 rename_i z hz
 split at h
 case h_3=>cases h
 case h_2=>
  rename_i hsz hnews
  split at h
  case h_2=>cases h
  rename_i hnn
  try simp only [hsz,o0v hnn]
  split at h
  ·cases h; exact⟨H2,rfl,same,fun _ _ _=>rfl⟩
  ·split at h
   case h_2=>cases h
   rename_i hle
   cases h
   try simp only [hle]
   exact⟨H2,rfl,same,fun _ _ _=>rfl⟩
  ·cases h
 rename_i m news hsz hnews
 try simp only [hsz,q0q hs hnews]
 have front:∀ (ob:AObj) (G G2:Heap),(∀ i o,i≠n->G.get i=some o->i∈bL [s,x] ->G2.get i=some o)->(∀ i,i≠n->i ∉ bL [s,x] ->G2.get i=H2.get i)->
   (∀ i o,(i=n∨i∈bL [s,x])->Heap.get ((n,ob) ::G) i=some o->Heap.get ((n,ob) ::G2) i=some o)∧(∀ i,i≠n->i ∉ bL [s,x] ->Heap.get ((n,ob) ::G2) i=H2.get i):=by
  intro ob G G2 h1 h2
  refine⟨fun i o hi hg=> ?_,fun i h3 h4=> ?_⟩
  ·rw [b6] at hg ⊢
   split at hg
   ·rename_i e; rw [i6 e]; exact hg
   ·rename_i e
    rw [a8 e]
    exact h1 i o (fun e'=>e e'.symm) hg (hi.resolve_left (fun e'=>e e'.symm))
  ·rw [b6,a8 (fun e=>h3 e.symm)]
   exact h2 i h3 h4
 split at h
 ·split at h
  case h_2=>cases h
  rename_i l' hneed
  cases h
  try simp only [hneed]
  exact⟨_,rfl,front _ _ _ (fun i o _ hg _=>hs i o hg) (fun _ _ _=>rfl)⟩
 ·rename_i j k n0
  split at h
  case h_2=>cases h
  rename_i e' sz r k' hget
  try simp only [hs _ _ hget]
  split at h
  case h_2=>cases h
  rename_i r' l' hck hadd hneed
  cases h
  try simp only [hck,hadd,hneed]
  refine⟨_,rfl,front _ _ _ (fun i o _ hg hb=> ?_) (fun i _ hb=> ?_)⟩
  ·simp only [bL,zzA83,S5,S0] at hb
   exact absurd hb (E8 j H i o hg).2
  ·simp only [bL,zzA83,S5,S0] at hb
   exact L0 j H2 i hb
 ·rename_i j off n0 c
  split at h
  case h_2=>cases h
  rename_i cs e2 hget
  try simp only [hs _ _ hget]
  split at h
  ·rename_i hroom
   try simp only [hroom]
   split at h
   case h_2=>cases h
   rename_i hfit
   cases h
   try simp only [hfit]
   refine⟨_,rfl,fun i o hi hg=> ?_,fun i h1 h2=> ?_⟩
   ·rw [m0 _ _ _ _ (hs _ _ hget)]
    rw [m0 _ _ _ _ hget] at hg
    split at hg
    ·rename_i e; rw [i6 e]; exact hg
    ·rename_i e; rw [a8 e]; exact hs i o hg
   ·rw [m0 _ _ _ _ (hs _ _ hget),a8 (fun e=>h2 (by rw [<- e]; simp [bL]))]
  ·rename_i hnr
   try simp only [hnr]
   split at h
   case h_2=>cases h
   rename_i l' hle hneed
   cases h
   try simp only [hle,hneed]
   exact⟨_,rfl,front _ _ _ (fun i o _ hg _=>hs i o hg) (fun _ _ _=>rfl)⟩
 ·cases h
end
end Go.Proofs.YtbdaebagmmmijaaGreatDoor.Ev
