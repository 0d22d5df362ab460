/-
 NumberReads: any text is read as the document reads it; no condition (a part of the proof).
-/
import Derived.WalkKit
import Derived.WalkSpells
import Derived.WalkLawsBesides
import Derived.Lib.Hide
import Derived.Orders
import Derived.OrdersIn
import Derived.LoopNIn
import Derived.RangeFuncRecord
import Derived.RangeFuncCalls
import Derived.Shelf.Abstract
import Derived.Laws.MakeOwn
import Derived.Lib.Builder
import Derived.Laws.FloatArith
import Derived.Laws.AppendOwn
import Derived.Deep.AppendSrc
import Derived.Lib.ConvBytes
import Derived.Lib.UnsafeStr
open Nat renaming beq->zO0,blt->zO1
open Go.Value renaming int->zO2,float->zO3
open UInt8 renaming ofNat->zO4
open Go.Op renaming operands->zO5
open Int renaming ofNat->zO6
open List renaming replicate->zO7
open Go.IntKind renaming i64->iI,u64->uI,u32->uJ,u8->uB
noncomputable section
namespace Go.Proofs
theorem aP:type_of%@congrArg:=@congrArg
theorem zzA1:type_of%@List.getElem?_eq_some_iff:=@List.getElem?_eq_some_iff
theorem f9:type_of%@if_pos:=@if_pos
theorem g0x:type_of%@Nat.add_comm:=@Nat.add_comm
theorem mK:type_of%@Nat.div_eq_of_lt:=@Nat.div_eq_of_lt
theorem I0:type_of%@Nat.zero_add:=@Nat.zero_add
theorem G7:type_of%@Nat.mod_eq_of_lt:=@Nat.mod_eq_of_lt
theorem A9:type_of%@Bool.and_eq_true:=@Bool.and_eq_true
theorem o0s:type_of%@Bool.not_eq_true':=@Bool.not_eq_true'
theorem xY:type_of%@Nat.eq_of_beq_eq_true:=@Nat.eq_of_beq_eq_true
theorem a7:type_of%@if_neg:=@if_neg
theorem f0e:type_of%@Nat.beq_refl:=@Nat.beq_refl
theorem zzA12:type_of%@Array.getElem?_eq_some_iff:=@Array.getElem?_eq_some_iff
theorem d9:type_of%@Nat.le_refl:=@Nat.le_refl
theorem x7:type_of%@Nat.le_trans:=@Nat.le_trans
theorem Z9:type_of%@Go.RowKit.Below.refl:=@Go.RowKit.Below.refl
theorem w0u:type_of%@Nat.lt_irrefl:=@Nat.lt_irrefl
theorem V0:type_of%@Go.run_underlying:=@Go.run_underlying
theorem a1a:type_of%@List.append_nil:=@List.append_nil
theorem jN:type_of%@List.length_nil:=@List.length_nil
theorem I1:type_of%@Nat.add_zero:=@Nat.add_zero
theorem k1n:type_of%@List.take_append_drop:=@List.take_append_drop
theorem h0p:type_of%@decide_eq_false_iff_not:=@decide_eq_false_iff_not
theorem v7:type_of%@Go.Sem.run_bind:=@Go.Sem.run_bind
theorem y4:type_of%@Go.Result.andThen_ok:=@Go.Result.andThen_ok
theorem s1w:type_of%@Nat.add_assoc:=@Nat.add_assoc
theorem bV:type_of%@Nat.div_add_mod:=@Nat.div_add_mod
theorem t7:type_of%@Nat.mul_comm:=@Nat.mul_comm
theorem y0l:type_of%@List.drop_eq_getElem_cons:=@List.drop_eq_getElem_cons
theorem aY:type_of%@List.take_succ_cons:=@List.take_succ_cons
theorem lJ:type_of%@Go.cell_of_row:=@Go.cell_of_row
theorem Z3:type_of%@List.getElem?_map:=@List.getElem?_map
theorem T6:type_of%@List.getElem?_take:=@List.getElem?_take
theorem E6:type_of%@Option.map_some:=@Option.map_some
theorem dL:type_of%@Nat.le_of_ble_eq_true:=@Nat.le_of_ble_eq_true
theorem i0x:type_of%@Go.run_loadCells_list:=@Go.run_loadCells_list
theorem W3:type_of%@List.getElem?_drop:=@List.getElem?_drop
theorem H9:type_of%@if_true:=@if_true
theorem fN:type_of%@List.map_take:=@List.map_take
theorem iO:type_of%@List.map_drop:=@List.map_drop
theorem G1:type_of%@Nat.blt_eq:=@Nat.blt_eq
theorem zzA41:type_of%@List.all_eq_true:=@List.all_eq_true
theorem s1n:type_of%@List.mem_of_mem_drop:=@List.mem_of_mem_drop
theorem zzA43:type_of%@List.mem_map:=@List.mem_map
theorem O6:type_of%@Bool.false_eq_true:=@Bool.false_eq_true
theorem E7:type_of%@if_false:=@if_false
theorem V1:type_of%@Nat.ble_eq:=@Nat.ble_eq
theorem B7:type_of%@Nat.beq_eq:=@Nat.beq_eq
theorem zE:type_of%@Array.toList_map:=@Array.toList_map
theorem x0a:type_of%@List.size_toArray:=@List.size_toArray
theorem G8:type_of%@List.length_append:=@List.length_append
theorem E0:type_of%@List.length_take:=@List.length_take
theorem C2:type_of%@List.length_drop:=@List.length_drop
theorem cB:type_of%@Array.length_toList:=@Array.length_toList
theorem C6:type_of%@Nat.min_eq_left:=@Nat.min_eq_left
theorem rA:type_of%@Go.setRow_other:=@Go.setRow_other
theorem qR:type_of%@List.map_append:=@List.map_append
theorem h1z:type_of%@List.ext_getElem?:=@List.ext_getElem?
theorem aI:type_of%@decide_eq_true_eq:=@decide_eq_true_eq
theorem qP:type_of%@List.length_singleton:=@List.length_singleton
theorem D1:type_of%@List.length_map:=@List.length_map
theorem bD:type_of%@List.getD_eq_getElem?_getD:=@List.getD_eq_getElem?_getD
theorem z0u:type_of%@List.getElem?_eq_getElem:=@List.getElem?_eq_getElem
theorem G5:type_of%@of_decide_eq_true:=@of_decide_eq_true
theorem U9:type_of%@Option.some.injEq:=@Option.some.injEq
theorem x0m:type_of%@Go.heap_alloc_new:=@Go.heap_alloc_new
theorem zC:type_of%@List.foldl_cons:=@List.foldl_cons
theorem p0v:type_of%@List.map_cons:=@List.map_cons
theorem xX:type_of%@Bool.or_eq_true:=@Bool.or_eq_true
theorem V3:type_of%@Go.Sem.run_pure:=@Go.Sem.run_pure
theorem i1h:type_of%@List.getElem?_append_left:=@List.getElem?_append_left
theorem e0d:type_of%@List.getElem?_append_right:=@List.getElem?_append_right
theorem A7:type_of%@Nat.add_mul:=@Nat.add_mul
theorem v1o:type_of%@Nat.mod_eq_sub_mod:=@Nat.mod_eq_sub_mod
theorem F7:type_of%@Nat.mod_lt:=@Nat.mod_lt
theorem e0l:type_of%@List.getElem?_eq_none:=@List.getElem?_eq_none
theorem K8:type_of%@Nat.zero_mul:=@Nat.zero_mul
theorem Q5:type_of%@Nat.eq_zero_or_pos:=@Nat.eq_zero_or_pos
theorem gZ:type_of%@Array.ext':=@Array.ext'
theorem t1e:type_of%@List.drop_take:=@List.drop_take
theorem o0t:type_of%@Option.map_none:=@Option.map_none
theorem r1j:type_of%@Option.isSome_none:=@Option.isSome_none
theorem r8:type_of%@List.take_length:=@List.take_length
theorem U8:type_of%@List.drop_zero:=@List.drop_zero
theorem xH:type_of%@List.mem_cons_self:=@List.mem_cons_self
theorem gK:type_of%@List.mem_cons_of_mem:=@List.mem_cons_of_mem
theorem zzA86:type_of%@List.mem_cons:=@List.mem_cons
theorem C8:type_of%@Nat.lt_of_lt_of_le:=@Nat.lt_of_lt_of_le
theorem qV:type_of%@Go.Oper.uponIn_value:=@Go.Oper.uponIn_value
theorem V2:type_of%@List.not_mem_nil:=@List.not_mem_nil
theorem U7:type_of%@or_false:=@or_false
theorem P7:type_of%@Nat.one_mul:=@Nat.one_mul
theorem J4:type_of%@Nat.lt_or_ge:=@Nat.lt_or_ge
theorem lM:type_of%@Nat.mul_zero:=@Nat.mul_zero
theorem zzA94:type_of%@List.mem_append:=@List.mem_append
theorem sP:type_of%@Nat.mul_le_mul:=@Nat.mul_le_mul
theorem j1u:type_of%@Nat.le_of_mul_le_mul_right:=@Nat.le_of_mul_le_mul_right
theorem aF:type_of%@Option.getD_some:=@Option.getD_some
theorem y0g:type_of%@Nat.sub_zero:=@Nat.sub_zero
theorem T8:type_of%@Int.le_refl:=@Int.le_refl
theorem zzA100:type_of%@Nat.mul_eq_zero:=@Nat.mul_eq_zero
theorem g9:type_of%@Int.toNat_natCast:=@Int.toNat_natCast
theorem L0:type_of%@Nat.sub_self:=@Nat.sub_self
theorem u9:type_of%@Nat.mul_one:=@Nat.mul_one
theorem v0d:type_of%@Array.toList_append:=@Array.toList_append
theorem u0h:type_of%@List.mem_append_left:=@List.mem_append_left
theorem b0v:type_of%@List.mem_append_right:=@List.mem_append_right
theorem b0j:type_of%@Go.run_firstCells_some:=@Go.run_firstCells_some
theorem i0p:type_of%@Go.run_firstCells_none:=@Go.run_firstCells_none
theorem zT:type_of%@List.take_left:=@List.take_left
theorem Z7:type_of%@List.cons.injEq:=@List.cons.injEq
theorem P3:type_of%@and_true:=@and_true
theorem w9:type_of%@Nat.mul_le_mul_right:=@Nat.mul_le_mul_right
theorem pF:type_of%@List.nil_append:=@List.nil_append
theorem v0w:type_of%@Nat.ble_eq_true_of_le:=@Nat.ble_eq_true_of_le
theorem M2:type_of%@Nat.min_eq_right:=@Nat.min_eq_right
theorem F0:type_of%@Nat.mul_pos:=@Nat.mul_pos
theorem xW:type_of%@List.replicate_succ:=@List.replicate_succ
theorem Z4:type_of%@Iff.rfl:=@Iff.rfl
theorem fY:type_of%@List.set_eq_of_length_le:=@List.set_eq_of_length_le
theorem w0c:type_of%@Go.World.putObj_heap_other:=@Go.World.putObj_heap_other
theorem a6:True:=⟨⟩
end Go.Proofs
namespace Go.Proofs.YtkiejangmhhofaaGreatDoor.Ev
open Go Go.RowKit
noncomputable section
def p1c {α:Type} (l:List α):Nat->Option α:=
 List.rec (motive:=fun _=>Nat->Option α) (fun _=>none) (fun x _ ih n=>Nat.rec (motive:=fun _=>Option α) (some x) (fun m _=>ih m) n) l
theorem gM {α:Type} (l:List α):∀ n,p1c l n=l[n]? :=by
 induction l with
 | nil=>intro n; rfl
 | cons x l ih=>
  intro n
  cases n with
  | zero=>rfl
  | succ n=>exact ih n
def S5 {α:Type} (l:List α):Nat->α->List α:=
 List.rec (motive:=fun _=>Nat->α->List α) (fun _ _=>[]) (fun x r ih n y=>Nat.rec (motive:=fun _=>List α) (y ::r) (fun m _=>x ::ih m y) n) l
theorem A0 {α:Type} (l:List α):∀ n x,S5 l n x=l.set n x:=by
 induction l with
 | nil=>intro n x; rfl
 | cons y l ih=>
  intro n x
  cases n with
  | zero=>rfl
  | succ n=>exact aP (y :: ·) (ih n x)
def gA (P:Program) (t:TypeId):Option TypeInfo:=match p1c P.types.toList t with
 | some i=>some i
 | none=>P.info? t
theorem B0 (P:Program) (t:TypeId):gA P t=P.info? t:=by
 unfold gA
 rw [gM]
 split
 ·rename_i i h
  have hlt:t < P.types.size:=by
   have:=(zzA1.1 h).1
   simpa using this
  have h2:P.types[t]? =some i:=by simpa using h
  show some i=Tables.info? _ t
  unfold Tables.info?
  rw [f9 hlt]
  exact h2.symm
 ·rfl
def bC (P:Program) (t:TypeId):Option TypeDesc:=
 match gA P t with
 | some { desc:= .named _ u, .. } =>match gA P u with
  | some i=>some i.desc
  | none=>none
 | some i=>some i.desc
 | none=>none
theorem A8 (P:Program) (t:TypeId):bC P t=P.underlying t:=by
 unfold bC Program.underlying
 simp only [B0]
 cases P.info? t with
 | none=>rfl
 | some i=>
  obtain⟨d,_⟩:=i
  cases d <;> first | rfl | (rename_i a u; dsimp only; cases P.info? u <;> rfl)
abbrev Num:=Nat->Option Nat
def w8 (E:Num) (a:Addr):Option Addr:=(E a.block).map fun b=>{ a with block:=b }
def rFn (E:Num):Fn->Fn
 | .yield l=> .yield ((E l).getD 0)
 | f=>f
def f0k:Fn->Bool
 | .yield _=>true
 | _=>false
theorem i0f (E:Num) (f:Fn) (h:f0k f=false):rFn E f=f:=by
 cases f <;> first | rfl | (simp [f0k] at h)
def rSl (E:Num) (a:Addr) (n c:Nat):Value:=
 match a with
 | ⟨j,off,none⟩=> .slice (w8 E ⟨j,off,none⟩) n c
 | ⟨j,off,some k⟩=>match E j with
  | none=> .slice none n 0
  | some b=> .slice (some ⟨b,off,none⟩) n ((E k).getD 0-c)
def w1j (b k:Option Nat) (c l s:Nat):Value:=match b with
 | none=> .slice none 0 0
 | some b=> .slice (some ⟨b,if k.getD 0-c=l then c*s else c*s+l*s,none⟩) 0 (k.getD 0-c-l)
def i2u (E:Num) (m:Nat):Value:=w1j (E (m/18446744073709551616/18446744073709551616/18446744073709551616/18446744073709551616)) (E (m/18446744073709551616/18446744073709551616/18446744073709551616%18446744073709551616)) (m/18446744073709551616/18446744073709551616%18446744073709551616) (m/18446744073709551616%18446744073709551616) (m%18446744073709551616)
def w2d (j k c l s:Nat):Nat:=(((j*18446744073709551616+k)*18446744073709551616+c)*18446744073709551616+l)*18446744073709551616+s
theorem F9 {a b w:Nat} (h:b < w):(a*w+b)/w=a∧(a*w+b)%w=b:=by
 have hw:0 < w:=by omega
 constructor
 ·rw [g0x,Nat.add_mul_div_right _ _ hw,mK h,I0]
 ·rw [g0x,Nat.add_mul_mod_self_right,G7 h]
theorem t1h (E:Num) {j k c l s:Nat} (hk:k < 18446744073709551616) (hc:c < 18446744073709551616) (hl:l < 18446744073709551616) (hs:s < 18446744073709551616):i2u E (w2d j k c l s)=w1j (E j) (E k) c l s:=by
 unfold i2u w2d
 rw [(F9 hs).1,(F9 hs).2,(F9 hl).1,(F9 hl).2,(F9 hc).1,(F9 hc).2,(F9 hk).1,(F9 hk).2]
theorem nQ (E:Num) (m:Nat):∃ a n,i2u E m= .slice a 0 n:=by
 unfold i2u w1j
 split
 ·exact⟨_,_,rfl⟩
 ·exact⟨_,_,rfl⟩
def j2a (E:Num) (a c:Nat):Value:=w1j (E (a/18446744073709551616)) (E (a%18446744073709551616)) c 1 1
theorem mN (E:Num) (a c:Nat):∃ x n,j2a E a c= .slice x 0 n:=by
 unfold j2a w1j
 split
 ·exact⟨_,_,rfl⟩
 ·exact⟨_,_,rfl⟩
mutual
def rv (E:Num):Value->Value
 | .chan (some m)=>i2u E m
 | .pointer (some a)=> .pointer (w8 E a)
 | .slice (some a) n c=>rSl E a n c
 | .map (some r)=> .map (E r)
 | .func fn f c=> .func (rFn E fn) (rvA E f) (rvA E c)
 | .iface t v=> .iface t (rv E v)
 | .agg cs=> .agg (rvA E cs)
 | .tuple vs=> .tuple (rvA E vs)
 | .bool b=> .bool b
 | .int k n=> .int k n
 | .float k n=> .float k n
 | .complex _ a b=>j2a E a b
 | .string s=> .string s
 | .pointer none=> .pointer none
 | .slice none n c=> .slice none n c
 | .map none=> .map none
 | .chan none=> .chan none
 | .nilFunc=> .nilFunc
 | .nilIface=> .nilIface
def rvA (E:Num):Array Value->Array Value
 | ⟨l⟩=>⟨rvL E l⟩
def rvL (E:Num):List Value->List Value
 | [] =>[]
 | v ::l=>rv E v ::rvL E l
end
mutual
def D3:Value->Bool
 | .pointer (some _)=>false
 | .slice (some _) _ _=>false
 | .map (some _)=>false
 | .func fn f c=> !(f0k fn) && pureA f && pureA c
 | .iface _ v=>D3 v
 | .agg cs=>pureA cs
 | .tuple vs=>pureA vs
 | .bool _=>true
 | .int _ _=>true
 | .float _ _=>true
 | .complex _ _ _=>false
 | .string _=>true
 | .pointer none=>true
 | .slice none _ _=>true
 | .map none=>true
 | .chan _=>false
 | .nilFunc=>true
 | .nilIface=>true
def pureA:Array Value->Bool
 | ⟨l⟩=>pureL l
def pureL:List Value->Bool
 | [] =>true
 | v ::l=>D3 v && pureL l
end
theorem o9 (E:Num) (l:List Value):rvL E l=l.map (rv E):=by
 induction l with
 | nil=>simp [rvL]
 | cons v l ih=>simp [rvL,ih]
theorem o2y (E:Num) (a:Array Value):rvA E a=a.map (rv E):=by
 cases a; simp [rvA,o9]
theorem J1 (l:List Value):pureL l=l.all D3:=by
 induction l with
 | nil=>simp [pureL]
 | cons v l ih=>simp [pureL,ih]
mutual
theorem D0 (E:Num):∀ v:Value,D3 v=true->rv E v=v
 | .pointer (some _),h=>by simp [D3] at h
 | .slice (some _) _ _,h=>by simp [D3] at h
 | .map (some _),h=>by simp [D3] at h
 | .func fn f c,h=>by
   simp only [D3,A9,o0s] at h
   simp only [rv,rvA_pure E f h.1.2,rvA_pure E c h.2,i0f E fn h.1.1]
 | .iface t v,h=>by simp only [D3] at h; simp only [rv,D0 E v h]
 | .agg cs,h=>by simp only [D3] at h; simp only [rv,rvA_pure E cs h]
 | .tuple vs,h=>by simp only [D3] at h; simp only [rv,rvA_pure E vs h]
 | .bool b,_=>by simp only [rv]
 | .int k n,_=>by simp only [rv]
 | .float k n,_=>by simp only [rv]
 | .complex k a b,h=>by simp only [D3] at h; cases h
 | .string s,_=>by simp only [rv]
 | .pointer none,_=>by simp only [rv]
 | .slice none n c,_=>by simp only [rv]
 | .map none,_=>by simp only [rv]
 | .chan _,h=>by simp only [D3] at h; cases h
 | .nilFunc,_=>by simp only [rv]
 | .nilIface,_=>by simp only [rv]
theorem rvA_pure (E:Num):∀ v:Array Value,pureA v=true->rvA E v=v
 | ⟨l⟩,h=>by simp only [pureA] at h; simp only [rvA,rvL_pure E l h]
theorem rvL_pure (E:Num):∀ v:List Value,pureL v=true->rvL E v=v
 | [],_=>by simp only [rvL]
 | v ::l,h=>by
   simp only [pureL,A9] at h
   simp only [rvL,D0 E v h.1,rvL_pure E l h.2]
end
theorem vM (E:Num) (a:Addr) (n c:Nat):∃ x m,rSl E a n c= .slice x n m:=by
 unfold rSl
 split
 ·exact⟨_,_,rfl⟩
 ·split
  ·exact⟨_,_,rfl⟩
  ·exact⟨_,_,rfl⟩
theorem N7 (E:Num) (v:Value):(rv E v).cells=v.cells.map (rv E):=by
 unfold Value.cells
 cases v with
 | agg cs=>simp [rv,o2y]
 | pointer a=>cases a <;> simp [rv]
 | slice a n c=>
  cases a with
  | none=>simp [rv]
  | some a=>
   obtain⟨x,m,e⟩:=vM E a n c
   simp [rv,e]
 | map a=>cases a <;> simp [rv]
 | chan a=>
  cases a with
  | none=>simp [rv]
  | some m=>
   obtain⟨x,q,e⟩:=nQ E m
   simp [rv,e]
 | complex k a c=>
  obtain⟨x,q,e⟩:=mN E a c
  simp [rv,e]
 | _=>simp [rv]
def z1m (p:Nat->Bool):Fn->Bool
 | .yield l=>p l
 | _=>true
mutual
def s0u (p:Nat->Bool):Value->Bool
 | .pointer (some a)=>p a.block
 | .slice (some ⟨j,_,none⟩) _ _=>p j
 | .slice (some ⟨j,_,some k⟩) _ _=>p j && p k
 | .map (some r)=>p r
 | .chan (some m)=>p (m/18446744073709551616/18446744073709551616/18446744073709551616/18446744073709551616) && p (m/18446744073709551616/18446744073709551616/18446744073709551616%18446744073709551616)
 | .complex _ a _=>p (a/18446744073709551616) && p (a%18446744073709551616)
 | .func fn f c=>z1m p fn && allA p f && allA p c
 | .iface _ v=>s0u p v
 | .agg cs=>allA p cs
 | .tuple vs=>allA p vs
 | _=>true
def allA (p:Nat->Bool):Array Value->Bool
 | ⟨l⟩=>allL p l
def allL (p:Nat->Bool):List Value->Bool
 | [] =>true
 | v ::l=>s0u p v && allL p l
end
theorem e2s {E E':Num} {p:Nat->Bool} (h:∀ j,p j=true->E' j=E j) (f:Fn) (hf:z1m p f=true):rFn E' f=rFn E f:=by
 cases f <;> first | rfl | skip
 rename_i l
 simp only [z1m] at hf
 simp only [rFn,h l hf]
mutual
theorem e1b {E E':Num} {p:Nat->Bool} (h:∀ j,p j=true->E' j=E j):∀ v:Value,s0u p v=true->rv E' v=rv E v
 | .pointer (some a),hv=>by simp only [s0u] at hv; simp only [rv,w8,h _ hv]
 | .slice (some ⟨j,off,none⟩) _ _,hv=>by simp only [s0u] at hv; simp only [rv,rSl,w8,h _ hv]
 | .slice (some ⟨j,off,some k⟩) _ _,hv=>by simp only [s0u,A9] at hv; simp only [rv,rSl,h _ hv.1,h _ hv.2]
 | .map (some r),hv=>by simp only [s0u] at hv; simp only [rv,h _ hv]
 | .func fn f c,hv=>by
   simp only [s0u,A9] at hv
   simp only [rv,e2s h fn hv.1.1,rvA_all h f hv.1.2,rvA_all h c hv.2]
 | .iface t v,hv=>by simp only [s0u] at hv; simp only [rv,e1b h v hv]
 | .agg cs,hv=>by simp only [s0u] at hv; simp only [rv,rvA_all h cs hv]
 | .tuple vs,hv=>by simp only [s0u] at hv; simp only [rv,rvA_all h vs hv]
 | .bool _,_=>by simp only [rv]
 | .int _ _,_=>by simp only [rv]
 | .float _ _,_=>by simp only [rv]
 | .complex _ _ _,hv=>by simp only [s0u,A9] at hv; simp only [rv,j2a,h _ hv.1,h _ hv.2]
 | .string _,_=>by simp only [rv]
 | .pointer none,_=>by simp only [rv]
 | .slice none _ _,_=>by simp only [rv]
 | .map none,_=>by simp only [rv]
 | .chan none,_=>by simp only [rv]
 | .chan (some m),hv=>by simp only [s0u,A9] at hv; simp only [rv,i2u,h _ hv.1,h _ hv.2]
 | .nilFunc,_=>by simp only [rv]
 | .nilIface,_=>by simp only [rv]
theorem rvA_all {E E':Num} {p:Nat->Bool} (h:∀ j,p j=true->E' j=E j):∀ v:Array Value,allA p v=true->rvA E' v=rvA E v
 | ⟨l⟩,hv=>by simp only [allA] at hv; simp only [rvA,rvL_all h l hv]
theorem rvL_all {E E':Num} {p:Nat->Bool} (h:∀ j,p j=true->E' j=E j):∀ v:List Value,allL p v=true->rvL E' v=rvL E v
 | [],_=>by simp only [rvL]
 | v ::l,hv=>by
   simp only [allL,A9] at hv
   simp only [rvL,e1b h v hv.1,rvL_all h l hv.2]
end
end
noncomputable section
inductive Row where
 | vals (xs:List Value)
 | ints (k:IntKind) (ns:List Int)
def Row.list:Row->List Value
 | .vals xs=>xs
 | .ints k ns=>ns.map (.int k)
inductive AObj where
 | row (e:TypeId) (sz:Nat) (r:Row) (k:Nat)
 | cells (cs:List Value) (t:TypeId)
 | iter (s:ByteArray) (pos:Nat)
 | ints (k:IntKind) (xs:List Int)
 | loop (st:LoopState) (pn:Option Code) (ts:List (Option Value)) (ps:List Nat) (asg:Code) (bd:Code)
 | defr
 | dead
 | ro (xs:List Value)
 | map (es:List (Value×Value))
 | fam (f:Nat->Value) (n sz o:Nat)
def AObj.rw:AObj->Bool
 | .row _ _ _ _=>true
 | .cells _ _=>true
 | .iter _ _=>true
 | .ints _ _=>false
 | .loop _ _ _ _ _ _=>true
 | .defr=>true
 | .dead=>true
 | .ro _=>false
 | .map _=>true
 | .fam _ _ _ _=>false
def x2e (E:Num) (mes:Array MapEntry) (es:List (Value×Value)):Prop:=mes.toList.map (fun e=>(e.key,e.val))=es.map fun p=>(rv E p.1,rv E p.2)
abbrev Heap:=List (Nat×AObj)
def Heap.get:Heap->Nat->Option AObj
 | [],_=>none
 | (j,o) ::r,i=>match zO0 j i with
  | true=>some o
  | false=>Heap.get r i
def Heap.set:Heap->Nat->AObj->Heap
 | [],_,_=>[]
 | (j,o') ::r,i,o=>match zO0 j i with
  | true=>(j,o) ::r
  | false=>(j,o') ::Heap.set r i o
theorem sN {a b:Nat} (h:a≠b):zO0 a b=false:=by
 cases h':zO0 a b
 ·rfl
 ·exact absurd (xY h') h
theorem b6 (j:Nat) (o:AObj) (H:Heap) (i:Nat):Heap.get ((j,o) ::H) i=if j=i then some o else H.get i:=by
 by_cases h:j=i
 ·subst h; simp [Heap.get]
 ·have:zO0 j i=false:=sN h
  rw [a7 h,Heap.get,this]
theorem p9 (H:Heap) (i:Nat) (o o0:AObj) (h:H.get i=some o0) (j:Nat):(H.set i o).get j=if i=j then some o else H.get j:=by
 induction H with
 | nil=>simp [Heap.get] at h
 | cons x H ih=>
  obtain⟨k,q⟩:=x
  rw [b6] at h
  unfold Heap.set
  by_cases hk:k=i
  ·subst hk
   simp only [f0e]
   rw [b6,b6]
   split <;> rfl
  ·have hb:zO0 k i=false:=sN hk
   rw [a7 hk] at h
   simp only [hb]
   rw [b6,b6,ih h]
   by_cases hkj:k=j
   ·subst hkj
    rw [f9 rfl,f9 rfl,a7 (fun e=>hk e.symm)]
   ·rw [a7 hkj,a7 hkj]
def RowAt (w:World) (b:Nat) (cur:Array Value) (e:TypeId):Prop:=∃ fr,w.heap[b]? =some (.cells cur e fr)∧(fr.2=0∨cur.size<=fr.1)
theorem RowAt.to {w w':World} {b:Nat} {cur:Array Value} {e:TypeId} (h:RowAt w b cur e) (hb:w'.heap[b]? =w.heap[b]?):RowAt w' b cur e:=by
 obtain⟨fr,h1,h2⟩:=h
 exact⟨fr,hb.trans h1,h2⟩
theorem RowAt.lt {w:World} {b:Nat} {cur:Array Value} {e:TypeId} (h:RowAt w b cur e):b < w.heap.size:=by
 obtain⟨fr,h1,_⟩:=h
 exact (zzA12.1 h1).1
theorem RowAt.of {w:World} {b:Nat} {cur:Array Value} {e:TypeId} (h:w.heap[b]? =some (.cells cur e (0,0))):RowAt w b cur e:=⟨_,h, .inl rfl⟩
def ORep (B:Nat) (M:Nat->Prop) (E:Num) (w:World) (ob:Option Nat):AObj->Prop
 | .row e sz r k=>(ob=none∧r.list=[])∨∃ b cap cur,ob=some b∧E k=some cap∧RowAt w b cur e∧(B<=b∨M b)∧cap<=maxLen∧cur.size=cap*sz∧r.list.length<=cap*sz∧cur.toList.take r.list.length=rvL E r.list
 | .cells cs t=>∃ b,ob=some b∧w.heap[b]? =some (.cells (rvL E cs).toArray t (0,0))∧(B<=b∨M b)
 | .iter s pos=>∃ b,ob=some b∧w.heap[b]? =some (.stringIter s pos)∧(B<=b∨M b)
 | .ints k xs=>(ob=none∧xs=[])∨∃ b cs t fr,ob=some b∧w.heap[b]? =some (.cells cs t fr)∧∀ i,i < xs.length->cs[i]? =some (.int k (xs.getD i 0))
 | .loop st pn ts ps asg bd=>∃ b r,ob=some b∧w.heap[b]? =some (.loop r)∧(r.state=st∧r.pending=pn∧r.params=⟨ps⟩∧r.assign=asg∧r.body=bd∧r.tmps.size=ts.length∧∀ t x,ts[t]? =some (some x)->r.tmps.getD t undef=rv E x)∧(B<=b∨M b)
 | .defr=>∃ b,ob=some b∧w.heap[b]? =some (.deferred (some []))∧(B<=b∨M b)
 | .dead=>∃ b o,ob=some b∧w.heap[b]? =some o∧(B<=b∨M b)
 | .ro xs=>(ob=none∧xs=[])∨∃ b cs t fr,ob=some b∧w.heap[b]? =some (.cells cs t fr)∧∀ (i:Nat) (v:Value),(rvL E xs)[i]? =some v->cs[i]? =some v
 | .map es=>∃ b mes ck,ob=some b∧w.heap[b]? =some (.map mes ck)∧x2e E mes es∧(B<=b∨M b)
 | .fam f n sz o=>(ob=none∧n=0)∨∃ b cs t fr,ob=some b∧w.heap[b]? =some (.cells cs t fr)∧∀ i,i < n->(f i).cells.toList.length=sz∧D3 (f i)=true∧∀ (j:Nat) (v:Value),(f i).cells.toList[j]? =some v->cs[o+i*sz+j]? =some v
structure Sim (P:Program) (B:Nat) (M:Nat->Prop) (E:Num) (H:Heap) (w:World):Prop where
 glob:∀ g,g < P.globals.size->E g=some g
 obj:∀ i o,H.get i=some o->ORep B M E w (E i) o
 inj:∀ i j o o',H.get i=some o->o.rw=true->H.get j=some o'->i≠j->E i≠none->E i≠E j
structure Keeps (B:Nat) (M:Nat->Prop) (w w':World):Prop where
 os:w'.os=w.os
 tape:w'.tape=w.tape
 output:w'.output=w.output
 size:w.heap.size<=w'.heap.size
 block:∀ k,k < B->¬ M k->w'.heap[k]? =w.heap[k]?
theorem Keeps.refl (B:Nat) (M:Nat->Prop) (w:World):Keeps B M w w:=⟨rfl,rfl,rfl,d9 _,fun _ _ _=>rfl⟩
theorem Keeps.trans {B:Nat} {M:Nat->Prop} {a b c:World} (h:Keeps B M a b) (k:Keeps B M b c):Keeps B M a c:=
 ⟨k.os.trans h.os,k.tape.trans h.tape,k.output.trans h.output,x7 h.size k.size,fun i hi hm=>(k.block i hi hm).trans (h.block i hi hm)⟩
theorem u3 {B:Nat} {M:Nat->Prop} {w w':World} (h:Below w.heap.size w w') (hB:B<=w.heap.size):Keeps B M w w':=
 ⟨h.os,h.tape,h.output,h.size,fun k hk _=>h.block k (by omega)⟩
theorem Keeps.below {B:Nat} {w w':World} (h:Keeps B (fun _=>False) w w'):Below B w w':=
 ⟨h.os,h.tape,h.output,h.size,fun k hk=>h.block k hk (fun f=>f)⟩
theorem n5 {w:World} {b:Nat} {o:Obj} (h:w.heap[b]? =some o):b < w.heap.size:=(zzA12.1 h).1
theorem ORep.below {B:Nat} {M:Nat->Prop} {E:Num} {w w':World} {ob:Option Nat} {o:AObj} (h:ORep B M E w ob o) (hb:Below w.heap.size w w'):ORep B M E w' ob o:=by
 cases o with
 | row e sz r k=>
  rcases h with h | ⟨b,cap,cur,h1,h2,h3,h4⟩
  ·exact .inl h
  ·exact .inr ⟨b,cap,cur,h1,h2,h3.to (hb.block b h3.lt),h4⟩
 | cells cs t=>obtain⟨b,h1,h2,h3⟩:=h; exact⟨b,h1,(hb.block b (n5 h2)).trans h2,h3⟩
 | iter s pos=>obtain⟨b,h1,h2,h3⟩:=h; exact⟨b,h1,(hb.block b (n5 h2)).trans h2,h3⟩
 | ints k xs=>
  rcases h with h | ⟨b,cs,t,fr,h1,h2,h3⟩
  ·exact .inl h
  ·exact .inr ⟨b,cs,t,fr,h1,(hb.block b (n5 h2)).trans h2,h3⟩
 | loop st pn ts ps asg bd=>obtain⟨b,r,h1,h2,h3⟩:=h; exact⟨b,r,h1,(hb.block b (n5 h2)).trans h2,h3⟩
 | defr=>obtain⟨b,h1,h2,h3⟩:=h; exact⟨b,h1,(hb.block b (n5 h2)).trans h2,h3⟩
 | dead=>obtain⟨b,o,h1,h2,h3⟩:=h; exact⟨b,o,h1,(hb.block b (n5 h2)).trans h2,h3⟩
 | ro xs=>
  rcases h with h | ⟨b,cs,t,fr,h1,h2,h3⟩
  ·exact .inl h
  ·exact .inr ⟨b,cs,t,fr,h1,(hb.block b (n5 h2)).trans h2,h3⟩
 | map es=>obtain⟨b,mes,ck,h1,h2,h3⟩:=h; exact⟨b,mes,ck,h1,(hb.block b (n5 h2)).trans h2,h3⟩
 | fam f n sz o=>
  rcases h with h | ⟨b,cs,t,fr,h1,h2,h3⟩
  ·exact .inl h
  ·exact .inr ⟨b,cs,t,fr,h1,(hb.block b (n5 h2)).trans h2,h3⟩
theorem Sim.below {P:Program} {B:Nat} {M:Nat->Prop} {E:Num} {H:Heap} {w w':World} (h:Sim P B M E H w) (hb:Below w.heap.size w w'):Sim P B M E H w':=
 ⟨h.glob,fun i o hi=>(h.obj i o hi).below hb,h.inj⟩
theorem ORep.lt {B:Nat} {M:Nat->Prop} {E:Num} {w:World} {b:Nat} {o:AObj} (h:ORep B M E w (some b) o):b < w.heap.size:=by
 cases o with
 | row e sz r k=>
  rcases h with ⟨h,_⟩ | ⟨b',cap,cur,h1,h2,h3,_⟩
  ·cases h
  ·cases h1; exact h3.lt
 | cells cs t=>obtain⟨b',h1,h2,_⟩:=h; cases h1; exact n5 h2
 | iter s pos=>obtain⟨b',h1,h2,_⟩:=h; cases h1; exact n5 h2
 | ints k xs=>
  rcases h with ⟨h,_⟩ | ⟨b',cs,t,fr,h1,h2,_⟩
  ·cases h
  ·cases h1; exact n5 h2
 | loop st pn ts ps asg bd=>obtain⟨b',r,h1,h2,_⟩:=h; cases h1; exact n5 h2
 | defr=>obtain⟨b',h1,h2,_⟩:=h; cases h1; exact n5 h2
 | dead=>obtain⟨b',o,h1,h2,_⟩:=h; cases h1; exact n5 h2
 | ro xs=>
  rcases h with ⟨h,_⟩ | ⟨b',cs,t,fr,h1,h2,_⟩
  ·cases h
  ·cases h1; exact n5 h2
 | map es=>obtain⟨b',mes,ck,h1,h2,_⟩:=h; cases h1; exact n5 h2
 | fam f n sz o=>
  rcases h with ⟨h,_⟩ | ⟨b',cs,t,fr,h1,h2,_⟩
  ·cases h
  ·cases h1; exact n5 h2
theorem Sim.new {P:Program} {B:Nat} {M:Nat->Prop} {E:Num} {H:Heap} {w:World} (h:Sim P B M E H w) {n:Nat} (hn:E n=some w.heap.size) {ob:Obj} {o:AObj}
  (ho:ORep B M E (w.alloc ob) (some w.heap.size) o):Sim P B M E ((n,o) ::H) (w.alloc ob):=by
 have hb:Below w.heap.size w (w.alloc ob):=(Z9 _ _).alloc (d9 _) _
 refine⟨h.glob,fun i o' hi=> ?_,fun i j oi oj hi hr hj hij hne=> ?_⟩
 ·rw [b6] at hi
  split at hi
  ·rename_i e; subst e; cases hi; rw [hn]; exact ho
  ·exact (h.obj i o' hi).below hb
 ·rw [b6] at hi hj
  split at hi <;> split at hj
  ·rename_i e1 e2; exact absurd (e1.symm.trans e2) hij
  ·rename_i e1 e2; subst e1
   intro e
   have:=h.obj j oj hj
   rw [<- e,hn] at this
   exact absurd this.lt (w0u _)
  ·rename_i e1 e2; subst e2
   intro e
   have:=h.obj i oi hi
   rw [e,hn] at this
   exact absurd this.lt (w0u _)
  ·exact h.inj i j oi oj hi hr hj hij hne
theorem Sim.turn {P:Program} {B:Nat} {M:Nat->Prop} {E:Num} {H:Heap} {w w':World} (h:Sim P B M E H w) {n b:Nat} {o0 o:AObj} (h0:H.get n=some o0) (hr:o0.rw=true) (hn:E n=some b)
  (ho:ORep B M E w' (some b) o) (hk:∀ k,k≠b->w'.heap[k]? =w.heap[k]?):Sim P B M E (H.set n o) w':=by
 refine⟨h.glob,fun i o' hi=> ?_,fun i j oi oj hi hri hj hij hne=> ?_⟩
 ·rw [p9 H n o o0 h0] at hi
  split at hi
  ·rename_i e; subst e; cases hi; rw [hn]; exact ho
  ·rename_i hne
   have hold:=h.obj i o' hi
   have hd:∀ b',E i=some b'->b'≠b:=fun b' hb' e=>by
    subst e
    exact h.inj n i o0 o' h0 hr hi hne (by rw [hn]; simp) (hn.trans hb'.symm)
   cases o' with
   | row e sz r k=>
    rcases hold with hold | ⟨b',cap,cur,h1,h2,h3,h4⟩
    ·exact .inl hold
    ·exact .inr ⟨b',cap,cur,h1,h2,h3.to (hk b' (hd b' h1)),h4⟩
   | cells cs t=>obtain⟨b',h1,h2,h3⟩:=hold; exact⟨b',h1,(hk b' (hd b' h1)).trans h2,h3⟩
   | iter s pos=>obtain⟨b',h1,h2,h3⟩:=hold; exact⟨b',h1,(hk b' (hd b' h1)).trans h2,h3⟩
   | ints k xs=>
    rcases hold with hold | ⟨b',cs,t,fr,h1,h2,h3⟩
    ·exact .inl hold
    ·exact .inr ⟨b',cs,t,fr,h1,(hk b' (hd b' h1)).trans h2,h3⟩
   | loop st pn ts ps asg bd=>obtain⟨b',r,h1,h2,h3⟩:=hold; exact⟨b',r,h1,(hk b' (hd b' h1)).trans h2,h3⟩
   | defr=>obtain⟨b',h1,h2,h3⟩:=hold; exact⟨b',h1,(hk b' (hd b' h1)).trans h2,h3⟩
   | dead=>obtain⟨b',q,h1,h2,h3⟩:=hold; exact⟨b',q,h1,(hk b' (hd b' h1)).trans h2,h3⟩
   | ro xs=>
    rcases hold with hold | ⟨b',cs,t,fr,h1,h2,h3⟩
    ·exact .inl hold
    ·exact .inr ⟨b',cs,t,fr,h1,(hk b' (hd b' h1)).trans h2,h3⟩
   | map es=>obtain⟨b',mes,ck,h1,h2,h3⟩:=hold; exact⟨b',mes,ck,h1,(hk b' (hd b' h1)).trans h2,h3⟩
   | fam f n sz o=>
    rcases hold with hold | ⟨b',cs,t,fr,h1,h2,h3⟩
    ·exact .inl hold
    ·exact .inr ⟨b',cs,t,fr,h1,(hk b' (hd b' h1)).trans h2,h3⟩
 ·rw [p9 H n o o0 h0] at hi hj
  split at hi <;> split at hj
  ·rename_i e1 e2; exact absurd (e1.symm.trans e2) hij
  ·rename_i e1 e2; subst e1; exact h.inj n j o0 oj h0 hr hj hij hne
  ·rename_i e1 e2; subst e2; exact h.inj i n oi o0 hi hri h0 hij hne
  ·exact h.inj i j oi oj hi hri hj hij hne
theorem Sim.less {P:Program} {B:Nat} {M:Nat->Prop} {E:Num} {H H':Heap} {w:World} (h:Sim P B M E H w) (hh:∀ i o,H'.get i=some o->H.get i=some o):Sim P B M E H' w:=
 ⟨h.glob,fun i o hi=>h.obj i o (hh i o hi),fun i j oi oj hi hr hj hij hne=>h.inj i j oi oj (hh i oi hi) hr (hh j oj hj) hij hne⟩
def l5:List Prop->Prop
 | [] =>True
 | p ::l=>p∧l5 l
theorem a8 (a b:List Prop):l5 (a++b)↔l5 a∧l5 b:=by
 induction a with
 | nil=>simp [l5]
 | cons p a ih=>simp [l5,ih,and_assoc]
def P9 (auto:Bool) (p:Prop) [Decidable p] :Option (List Prop):=
 match auto with
 | true=>if p then some [] else none
 | false=>some [p]
theorem n7 {auto:Bool} {p:Prop} [Decidable p] {l:List Prop} (h:P9 auto p=some l) (hl:l5 l):p:=by
 unfold P9 at h
 split at h
 ·split at h
  ·assumption
  ·cases h
 ·cases h; exact hl.1
def y1k:TypeDesc->Bool
 | .struct _=>true
 | .array _ _=>true
 | _=>false
theorem E3 {P:Program} {t:TypeId} {d:TypeDesc} (h:P.underlying t=some d) (w:World):(isAgg t).run P w= .ok (y1k d) w:=by
 cases d <;> simp [isAgg,run_underlying h,y1k]
theorem s5 {P:Program} {t:TypeId} {i:TypeInfo} (h:P.info? t=some i) (w:World):(sizeOf t).run P w= .ok i.size w:=by
 simp [sizeOf,typeInfo,h]
theorem v8 (b o n:Nat):(⟨b,o,none⟩:Addr).add n=⟨b,o+n,none⟩:=by
 unfold Addr.add; split <;> simp_all
def c0c (k:IntKind) (ns:List Int):Nat->Nat->List Value
 | _,0=>[]
 | off,n+1=> .int k (ns.getD off 0) ::c0c k ns (off+1) n
theorem RowAt.set {w:World} {b:Nat} {cur:Array Value} {e:TypeId} (h:RowAt w b cur e) (new:Array Value) (hs:new.size=cur.size):RowAt (w.setRow b new) b new e:=by
 obtain⟨fr,h1,h2⟩:=h
 exact⟨fr,setRow_heap w b _ _ e fr h1,by rw [hs]; exact h2⟩
theorem F6 (P:Program) (g o:Nat) (t:TypeId):∀ (vs:List Value) (i:Nat) (cur:Array Value) (w:World),RowAt w g cur t->o+i+vs.length<=cur.size->(∀ v∈vs,v.oneCell'=true)->
  (storeCells ⟨g,o,none⟩ vs i).run P w= .ok () (w.setRow g (cur.toList.take (o+i)++vs++cur.toList.drop (o+i+vs.length)).toArray)
 | [],i,cur,w,hg,_,_=>by
  obtain⟨fz,hg,_⟩:=hg
  simp only [storeCells,a1a,jN,I1,k1n,Array.toArray_toList]
  rw [setRow_self w g cur t fz hg]
  rfl
 | v ::rest,i,cur,w,hg,hl,h1=>by
  have hgs:=hg.set (cur.setIfInBounds (o+i) v) (by simp)
  obtain⟨fz,hg,hfz⟩:=hg
  have hi:o+i < cur.size:=by simp at hl; omega
  have hadd:(⟨g,o,none⟩:Addr).add i=⟨g,o+i,none⟩:=v8 g o i
  have hcell:w.cell? ⟨g,o+i,none⟩=some cur[o+i] :=by simp [World.cell?,hg,hi]
  have hfro:w.frozen? ⟨g,o+i,none⟩=false:=by
   obtain⟨lo,hi'⟩:=fz
   simp only [World.frozen?,hg,Bool.and_eq_false_iff,h0p]
   simp only at hfz
   omega
  have hst:(store ((⟨g,o,none⟩:Addr).add i) v).run P w= .ok () (w.setRow g (cur.setIfInBounds (o+i) v)):=by
   rw [hadd,run_store P w _ v _ (h1 v (by simp)),hcell]
   simp [hfro,setCell_eq_setRow w g (o+i) cur t fz v hg]
  have ih:=F6 P g o t rest (i+1) (cur.setIfInBounds (o+i) v) (w.setRow g (cur.setIfInBounds (o+i) v)) hgs (by simp at hl ⊢; omega) (fun x hx=>h1 x (by simp [hx]))
  simp only [storeCells,v7,hst,y4,ih,setRow_setRow]
  congr 3
  have e:=list_seg_step cur.toList (o+i) v rest (by simp at hl ⊢; omega)
  simpa [Array.toList_setIfInBounds,Nat.add_assoc] using e
def vD (off o sz:Nat):Nat:=(off-o)/sz
def FamIn (off o sz n:Nat):Prop:=o<=off∧(off-o)%sz=0∧vD off o sz < n
instance famInDec (off o sz n:Nat):Decidable (FamIn off o sz n):=inferInstanceAs (Decidable (o<=off∧(off-o)%sz=0∧vD off o sz < n))
theorem FamIn.eq {off o sz n:Nat} (h:FamIn off o sz n):off=o+vD off o sz*sz:=by
 obtain⟨h1,h2,_⟩:=h
 unfold vD
 have:=bV (off-o) sz
 rw [t7]
 omega
def o2x (P:Program) (auto:Bool) (t:TypeId) (agg:Bool) (f:Nat->Value) (n sz o off:Nat):Option (Value×List Prop):=
 match agg with
 | true=>match gA P t with
  | none=>none
  | some i=>match zO0 i.size sz && zO1 0 sz,f (vD off o sz) with
   | true, .agg xs=>match P9 auto (FamIn off o sz n) with
    | some l=>some (.agg xs,l)
    | none=>none
   | _,_=>none
 | false=>match zO0 sz 1 with
  | true=>match f (vD off o sz) with
   | .agg _=>none
   | .tuple _=>none
   | v=>match P9 auto (FamIn off o sz n) with
    | some l=>some (v,l)
    | none=>none
  | false=>none
def b0p (P:Program) (auto:Bool) (H:Heap) (t:TypeId) (x:Value):Option (Value×List Prop):=
 match x with
 | .pointer (some ⟨id,off,none⟩)=>
  match bC P t with
  | none=>none
  | some d=>
   match H.get id with
   | some (.cells cs _)=>
    match y1k d with
    | true=>match gA P t with
     | some i=>match Nat.ble (off+i.size) cs.length with
      | true=>some (.agg ⟨(cs.drop off).take i.size⟩,[])
      | false=>none
     | none=>none
    | false=>match cs[off]? with
     | some v=>some (v,[])
     | none=>none
   | some (.ints k xs)=>
    match y1k d with
    | true=>match gA P t with
     | none=>none
     | some i=>match zO1 0 i.size,P9 auto (off+i.size<=xs.length) with
      | true,some l=>some (.agg ⟨c0c k xs off i.size⟩,l)
      | _,_=>none
    | false=>match P9 auto (off < xs.length) with
     | some l=>some (.int k (xs.getD off 0),l)
     | none=>none
   | some (.row _ _ r _)=>
    match y1k d with
    | true=>match gA P t with
     | none=>none
     | some i=>match r with
      | .vals xs=>match Nat.ble (off+i.size) xs.length && zO1 0 i.size with
       | true=>some (.agg ⟨(xs.drop off).take i.size⟩,[])
       | false=>none
      | .ints k ns=>match zO1 0 i.size,P9 auto (off+i.size<=ns.length) with
       | true,some l=>some (.agg ⟨c0c k ns off i.size⟩,l)
       | _,_=>none
    | false=>match r with
     | .vals xs=>match xs[off]? with
      | some v=>some (v,[])
      | none=>none
     | .ints k ns=>match P9 auto (off < ns.length) with
      | some l=>some (.int k (ns.getD off 0),l)
      | none=>none
   | some (.ro xs)=>
    match y1k d with
    | true=>match gA P t with
     | none=>none
     | some i=>match Nat.ble (off+i.size) xs.length && zO1 0 i.size with
      | true=>some (.agg ⟨(xs.drop off).take i.size⟩,[])
      | false=>none
    | false=>match xs[off]? with
     | some v=>some (v,[])
     | none=>none
   | some (.fam f n sz o)=>o2x P auto t (y1k d) f n sz o off
   | _=>none
 | _=>none
theorem uY (k:IntKind) (ns:List Int):∀ (n off:Nat),off+n<=ns.length->c0c k ns off n=((ns.map (zO2 k)).drop off).take n
 | 0,off,_=>by simp [c0c]
 | n+1,off,h=>by
  unfold c0c
  rw [uY k ns n (off+1) (by omega)]
  have hlt:off < (ns.map (zO2 k)).length:=by simp; omega
  rw [y0l hlt,aY]
  congr 1
  simp [List.getD,show off < ns.length by omega]
theorem ORep.row_some {B:Nat} {M:Nat->Prop} {E:Num} {w:World} {ob:Option Nat} {e:TypeId} {sz k:Nat} {r:Row} (h:ORep B M E w ob (.row e sz r k)) (hne:0 < r.list.length):
  ∃ b cap cur,ob=some b∧E k=some cap∧RowAt w b cur e∧(B<=b∨M b)∧cap<=maxLen∧cur.size=cap*sz∧r.list.length<=cap*sz∧cur.toList.take r.list.length=rvL E r.list:=by
 rcases h with ⟨_,h⟩ | h
 ·rw [h] at hne; exact absurd hne (by decide)
 ·exact h
theorem R9 {w:World} {E:Num} {b:Nat} {e:TypeId} {cur:Array Value} {xs:List Value} (h:RowAt w b cur e) (ht:cur.toList.take xs.length=rvL E xs) {i:Nat} {v:Value} (hi:xs[i]? =some v):w.cell? ⟨b,i,none⟩=some (rv E v):=by
 obtain⟨fr,h,_⟩:=h
 rw [lJ w b i _ _ _ h]
 have hlt:i < xs.length:=(zzA1.1 hi).1
 have e1:(cur.toList.take xs.length)[i]? =some (rv E v):=by rw [ht,o9,Z3,hi]; rfl
 rw [T6,f9 hlt] at e1
 simpa using e1
theorem aX {P:Program} {w:World} {b o:Nat} {v:Value} (h:w.cell? ⟨b,o,none⟩=some v):(load ⟨b,o,none⟩).run P w= .ok v w:=by
 simp [h]
theorem pU {P:Program} {auto:Bool} {B:Nat} {M:Nat->Prop} {E:Num} {H:Heap} {w:World} (hS:Sim P B M E H w) {t:TypeId} {x v:Value} {l:List Prop}
  (h:b0p P auto H t x=some (v,l)) (hl:l5 l):(Instr.loadAt t (rv E x)).run P w= .ok (rv E v) w:=by
 unfold b0p at h
 simp only [A8,B0] at h
 split at h
 case h_2=>cases h
 rename_i id off
 split at h
 case h_1=>cases h
 rename_i d hd
 split at h
 ·
  rename_i cs ty hget
  obtain⟨b,hb,hcells,_⟩:=hS.obj id _ hget
  simp only [rv,w8,hb,E6,Instr.loadAt,Instr.sureAddr,pure_bind,loadVar,v7,E3 hd,y4]
  split at h
  ·rename_i hagg
   split at h
   case h_2=>cases h
   rename_i i hi
   split at h
   case h_2=>cases h
   rename_i hle
   have hle:off+i.size<=cs.length:=dL hle
   cases h
   rw [hagg]
   have hlen:((rvL E cs).drop off |>.take i.size).length=i.size:=by rw [o9]; simp; omega
   have hc:=i0x (P:=P) w ⟨b,off,none⟩ (((rvL E cs).drop off).take i.size) (fun j v hj=>by
    rw [v8]
    have hj':j < i.size:=by
     have:=zzA1.1 hj
     obtain⟨hlt,_⟩:=this
     omega
    rw [lJ w b (off+j) _ _ _ hcells]
    rw [T6,f9 hj',W3] at hj
    simpa using hj)
   rw [hlen] at hc
   simp only [H9,v7,s5 hi,y4,hc]
   simp only [rv,rvA,o9,fN,iO]
   rfl
  ·rename_i hagg
   split at h
   case h_2=>cases h
   rename_i u hu
   cases h
   rw [hagg]
   have:w.cell? ⟨b,off,none⟩=some (rv E v):=by
    rw [lJ w b off _ _ _ hcells]
    simp [o9,hu]
   simp [this]
 ·
  rename_i k xs hget
  split at h
  ·rename_i hagg
   split at h
   case h_1=>cases h
   rename_i i hi
   split at h
   case h_2=>cases h
   rename_i l' hpos hneed
   cases h
   have hle:=n7 hneed hl
   have hpos:0 < i.size:=by simpa [Nat.blt_eq] using hpos
   rcases hS.obj id _ hget with ⟨_,hnil⟩ | ⟨b,cs,ty,fr,hb,hcells,hall⟩
   ·subst hnil; simp at hle; omega
   ·simp only [rv,w8,hb,E6,Instr.loadAt,Instr.sureAddr,pure_bind,loadVar,v7,E3 hd,y4]
    rw [hagg,uY k xs _ _ hle]
    have hlen:(((xs.map (zO2 k)).drop off).take i.size).length=i.size:=by simp; omega
    have hc:=i0x (P:=P) w ⟨b,off,none⟩ (((xs.map (zO2 k)).drop off).take i.size) (fun j v hj=>by
     rw [v8]
     have hj':j < i.size:=by
      obtain⟨hlt,_⟩:=zzA1.1 hj
      omega
     rw [T6,f9 hj',W3,Z3] at hj
     rw [lJ w b (off+j) _ _ _ hcells,hall (off+j) (by omega)]
     have:xs[off+j]? =some (xs.getD (off+j) 0):=by simp [List.getD,show off+j < xs.length by omega]
     rw [this] at hj
     exact hj)
    rw [hlen] at hc
    simp only [H9,v7,s5 hi,y4,hc]
    have e:rvL E (((xs.map (zO2 k)).drop off).take i.size)=((xs.map (zO2 k)).drop off).take i.size:=rvL_pure _ _ (by
     rw [J1,zzA41]
     intro y hy
     have hy:=s1n (List.mem_of_mem_take hy)
     obtain⟨z,_,rfl⟩:=zzA43.1 hy
     rfl)
    rw [rvA,e]
    rfl
  rename_i hagg
  split at h
  case h_2=>cases h
  rename_i l' hneed
  cases h
  have hlt:=n7 hneed hl
  rcases hS.obj id _ hget with ⟨_,hnil⟩ | ⟨b,cs,ty,fr,hb,hcells,hall⟩
  ·subst hnil; simp at hlt
  ·simp only [rv,w8,hb,E6,Instr.loadAt,Instr.sureAddr,pure_bind,loadVar,v7,E3 hd,y4,hagg]
   have:w.cell? ⟨b,off,none⟩=some (.int k (xs.getD off 0)):=by
    rw [lJ w b off _ _ _ hcells]
    exact hall off hlt
   simp only [O6,E7]
   exact aX this
 ·
  rename_i e sz r kk hget
  have hrow:=hS.obj id _ hget
  split at h
  ·rename_i hagg
   split at h
   case h_1=>cases h
   rename_i i hi
   have fin:∀ (vs:List Value),vs=(r.list.drop off).take i.size->off+i.size<=r.list.length->0 < i.size->(Instr.loadAt t (rv E (.pointer (some ⟨id,off,none⟩)))).run P w= .ok (rv E (.agg ⟨vs⟩)) w:=by
    intro vs hvs hle hpos
    obtain⟨b,cap,cur,hb,_,hcells,_,_,_,_,htake⟩:=hrow.row_some (by omega)
    simp only [rv,w8,hb,E6,Instr.loadAt,Instr.sureAddr,pure_bind,loadVar,v7,E3 hd,y4]
    rw [hagg]
    have hlen:((rvL E r.list).drop off |>.take i.size).length=i.size:=by rw [o9]; simp; omega
    have hc:=i0x (P:=P) w ⟨b,off,none⟩ (((rvL E r.list).drop off).take i.size) (fun j v hj=>by
     rw [v8]
     have hj':j < i.size:=by
      obtain⟨hlt,_⟩:=zzA1.1 hj
      omega
     rw [T6,f9 hj',W3,o9,Z3] at hj
     cases hx:r.list[off+j]? with
     | none=>rw [hx] at hj; cases hj
     | some u=>
      rw [hx] at hj
      cases hj
      exact R9 hcells htake hx)
    rw [hlen] at hc
    simp only [H9,v7,s5 hi,y4,hc]
    rw [hvs]
    simp only [rvA,o9,fN,iO]
    rfl
   split at h
   ·rename_i xs
    split at h
    case h_2=>cases h
    rename_i hle
    cases h
    simp only [A9,V1,G1] at hle
    exact fin _ rfl hle.1 hle.2
   ·rename_i k ns
    split at h
    case h_2=>cases h
    rename_i l' hpos hneed
    cases h
    have hle:=n7 hneed hl
    exact fin _ (uY k ns _ _ hle) (by simp [Row.list]; exact hle) (by simpa [Nat.blt_eq] using hpos)
  ·rename_i hagg
   have fin:∀ (v:Value),r.list[off]? =some v->(Instr.loadAt t (rv E (.pointer (some ⟨id,off,none⟩)))).run P w= .ok (rv E v) w:=by
    intro v hv
    obtain⟨b,cap,cur,hb,_,hcells,_,_,_,_,htake⟩:=hrow.row_some (by have:=(zzA1.1 hv).1; omega)
    simp only [rv,w8,hb,E6,Instr.loadAt,Instr.sureAddr,pure_bind,loadVar,v7,E3 hd,y4]
    rw [hagg]
    simp [R9 hcells htake hv]
   split at h
   ·rename_i xs
    split at h
    case h_2=>cases h
    rename_i u hu
    cases h
    exact fin _ hu
   ·rename_i k ns
    split at h
    case h_2=>cases h
    rename_i l' hneed
    cases h
    have hlt:=n7 hneed hl
    exact fin _ (by simp [Row.list,List.getD,hlt])
 ·
  rename_i xs hget
  have hro:=hS.obj id _ hget
  split at h
  ·rename_i hagg
   split at h
   case h_1=>cases h
   rename_i i hi
   split at h
   case h_2=>cases h
   rename_i hle
   simp only [A9,V1,G1] at hle
   cases h
   rcases hro with ⟨_,hnil⟩ | ⟨b,cs,ty,fr,hb,hcells,hall⟩
   ·subst hnil; simp at hle; omega
   ·simp only [rv,w8,hb,E6,Instr.loadAt,Instr.sureAddr,pure_bind,loadVar,v7,E3 hd,y4]
    rw [hagg]
    have hlen:((rvL E xs).drop off |>.take i.size).length=i.size:=by rw [o9]; simp; omega
    have hc:=i0x (P:=P) w ⟨b,off,none⟩ (((rvL E xs).drop off).take i.size) (fun j v hj=>by
     rw [v8]
     have hj':j < i.size:=by
      obtain⟨hlt,_⟩:=zzA1.1 hj
      omega
     rw [T6,f9 hj',W3] at hj
     rw [lJ w b (off+j) _ _ _ hcells]
     exact hall _ _ hj)
    rw [hlen] at hc
    simp only [H9,v7,s5 hi,y4,hc]
    simp only [rvA,o9,fN,iO]
    rfl
  ·rename_i hagg
   split at h
   case h_2=>cases h
   rename_i u hu
   cases h
   rcases hro with ⟨_,hnil⟩ | ⟨b,cs,ty,fr,hb,hcells,hall⟩
   ·subst hnil; simp at hu
   ·simp only [rv,w8,hb,E6,Instr.loadAt,Instr.sureAddr,pure_bind,loadVar,v7,E3 hd,y4,hagg]
    have:w.cell? ⟨b,off,none⟩=some (rv E v):=by
     rw [lJ w b off _ _ _ hcells]
     exact hall off _ (by rw [o9,Z3,hu]; rfl)
    simp only [O6,E7]
    exact aX this
 ·
  rename_i f n sz o hget
  have hro:=hS.obj id _ hget
  have key:FamIn off o sz n->∃ b cs ty fr,E id=some b∧w.heap[b]? =some (.cells cs ty fr)∧(f (vD off o sz)).cells.toList.length=sz∧D3 (f (vD off o sz))=true∧∀ (j:Nat) (v:Value),(f (vD off o sz)).cells.toList[j]? =some v->cs[off+j]? =some v:=by
   intro hin
   have he:=hin.eq
   obtain⟨_,_,hlt⟩:=hin
   rcases hro with ⟨_,hnil⟩ | ⟨b,cs,ty,fr,hb,hcells,hall⟩
   ·omega
   ·obtain⟨g1,g2,g3⟩:=hall _ hlt
    refine⟨b,cs,ty,fr,hb,hcells,g1,g2,fun j v hj=> ?_⟩
    rw [he]
    exact g3 j v hj
  unfold o2x at h
  simp only [B0] at h
  split at h
  ·rename_i hagg
   split at h
   case h_1=>cases h
   rename_i i hi
   split at h
   case h_2=>cases h
   rename_i xs hc hf
   split at h
   case h_2=>cases h
   rename_i l' hneed
   cases h
   simp only [A9,B7] at hc
   obtain⟨hc,_⟩:=hc
   obtain⟨b,cs,ty,fr,hb,hcells,hlen,hpure,hall⟩:=key (n7 hneed hl)
   rw [hf] at hlen hpure hall
   simp only [Value.cells] at hlen hall
   simp only [rv,w8,hb,E6,Instr.loadAt,Instr.sureAddr,pure_bind,loadVar,v7,E3 hd,y4]
   rw [hagg]
   have hl2:=i0x (P:=P) w ⟨b,off,none⟩ xs.toList (fun j v hj=>by
    rw [v8,lJ w b (off+j) _ _ _ hcells]
    exact hall j v hj)
   rw [hlen,<- hc] at hl2
   simp only [H9,v7,s5 hi,y4,hl2]
   have:=D0 E _ hpure
   rw [rv] at this
   rw [this]
   rfl
  ·rename_i hagg
   split at h
   case h_2=>cases h
   rename_i hs
   have hs:=xY hs
   have fin:∀ v l',(f (vD off o sz))=v->v.cells= #[v] ->P9 auto (FamIn off o sz n)=some l'->l5 l'->(Instr.loadAt t (rv E (.pointer (some ⟨id,off,none⟩)))).run P w= .ok (rv E v) w:=by
    intro v l' hf hv hneed hl'
    obtain⟨b,cs,ty,fr,hb,hcells,hlen,hpure,hall⟩:=key (n7 hneed hl')
    rw [hf] at hlen hpure hall
    simp only [rv,w8,hb,E6,Instr.loadAt,Instr.sureAddr,pure_bind,loadVar,v7,E3 hd,y4,hagg]
    have:w.cell? ⟨b,off,none⟩=some (rv E v):=by
     rw [lJ w b off _ _ _ hcells,D0 E v hpure]
     exact hall 0 v (by rw [hv]; rfl)
    simp only [O6,E7]
    exact aX this
   split at h
   ·cases h
   ·cases h
   ·rename_i v hna hnt
    split at h
    case h_2=>cases h
    rename_i l' hneed
    cases h
    refine fin _ _ rfl ?_ hneed hl
    cases hfv:f (vD off o sz) <;> first | rfl | (exact absurd hfv (hna _)) | (exact absurd hfv (hnt _))
 ·cases h
def o1x (v:Value):Bool:=
 match v with
 | .agg _=>false
 | .tuple _=>false
 | _=>true
def aK (P:Program) (H:Heap) (t:TypeId) (x v:Value):Option Heap:=
 match x with
 | .pointer (some ⟨id,off,none⟩)=>
  match gA P t with
  | none=>none
  | some i=>
   match H.get id with
   | some (.cells cs ty)=>
    match zO0 v.cells.toList.length i.size && Nat.ble (off+v.cells.toList.length) cs.length && v.cells.toList.all o1x with
    | true=>some (H.set id (.cells (cs.take off++v.cells.toList++cs.drop (off+v.cells.toList.length)) ty))
    | false=>none
   | some (.row e sz (.vals xs) k)=>
    match zO0 v.cells.toList.length i.size && Nat.ble (off+v.cells.toList.length) xs.length && v.cells.toList.all o1x && zO1 0 xs.length with
    | true=>some (H.set id (.row e sz (.vals (xs.take off++v.cells.toList++xs.drop (off+v.cells.toList.length))) k))
    | false=>none
   | some (.row e sz (.ints kd ns) k)=>match v with
    | .int kd' x=>match decide (kd'=kd) && zO0 1 i.size && zO1 off ns.length with
     | true=>some (H.set id (.row e sz (.ints kd (S5 ns off x)) k))
     | false=>none
    | _=>none
   | _=>none
 | _=>none
theorem c0r (E:Num) (v:Value) (h:o1x v=true):(rv E v).oneCell'=true:=by
 cases v with
 | agg _=>simp [o1x] at h
 | tuple _=>simp [o1x] at h
 | pointer a=>cases a <;> simp [rv,Value.oneCell']
 | slice a n c=>
  cases a with
  | none=>simp [rv,Value.oneCell']
  | some a=>
   obtain⟨x,m,e⟩:=vM E a n c
   simp [rv,e,Value.oneCell']
 | map a=>cases a <;> simp [rv,Value.oneCell']
 | chan a=>
  cases a with
  | none=>simp [rv,Value.oneCell']
  | some m=>
   obtain⟨x,q,e⟩:=nQ E m
   simp [rv,e,Value.oneCell']
 | complex k a c=>
  obtain⟨x,q,e⟩:=mN E a c
  simp [rv,e,Value.oneCell']
 | _=>simp [rv,Value.oneCell']
theorem W8 {P:Program} {B:Nat} {M:Nat->Prop} {E:Num} {H:Heap} {w:World} (hS:Sim P B M E H w) {t:TypeId} {v:Value} {i:TypeInfo} (hi:P.info? t=some i) {id off e sz k:Nat} {r r':Row}
  (hget:H.get id=some (.row e sz r k)) (h1:v.cells.toList.length=i.size) (h2:off+v.cells.toList.length<=r.list.length) (h3:∀ x∈v.cells.toList,o1x x=true) (h4:0 < r.list.length)
  (hr:r'.list=r.list.take off++v.cells.toList++r.list.drop (off+v.cells.toList.length)):
  ∃ w',(Instr.storeAt t (rv E (.pointer (some ⟨id,off,none⟩))) (rv E v)).run P w= .ok () w'∧Sim P B M E (H.set id (.row e sz r' k)) w'∧Keeps B M w w'∧w'.drawn=w.drawn∧w'.heap.size=w.heap.size:=by
  obtain⟨b,cap,cur,hb,hcap,hcells,hB,hcm,hcs,hln,htake⟩:=(hS.obj id _ hget).row_some h4
  generalize r.list=xs at*
  have hlen:((rv E v).cells.toList).length=v.cells.toList.length:=by rw [N7]; simp
  have hcur:xs.length<=cur.size:=by rw [hcs]; exact hln
  have hst:=F6 P b off e (rv E v).cells.toList 0 cur w hcells (by rw [hlen]; omega) (fun u hu=>by
   rw [N7] at hu
   simp only [zE,zzA43] at hu
   obtain⟨u0,hu0,rfl⟩:=hu
   exact c0r E u0 (h3 u0 hu0))
  have hsz:(rv E v).cells.size=i.size:=by rw [<- h1]; simpa using hlen
  have hsize:(cur.toList.take (off+0)++(rv E v).cells.toList++cur.toList.drop (off+0+(rv E v).cells.toList.length)).toArray.size=cur.size:=by
   have hm:(rv E v).cells.toList.length=v.cells.toList.length:=hlen
   generalize (rv E v).cells.toList=us at*
   generalize v.cells.toList=vs at*
   simp only [x0a,G8,E0,C2,cB]
   rw [C6 (by omega)]
   omega
  refine⟨w.setRow b (cur.toList.take (off+0)++(rv E v).cells.toList++cur.toList.drop (off+0+(rv E v).cells.toList.length)).toArray,?_,?_,?_,?_,?_⟩
  ·simp only [rv,w8,hb,E6,Instr.storeAt,Instr.sureAddr,pure_bind,storeVar,v7,s5 hi,y4]
   rw [a7 (by simp [hsz])]
   simpa using hst
  ·have e0:(xs.take off++v.cells.toList++xs.drop (off+v.cells.toList.length)).length=xs.length:=by
    simp only [G8,E0,C2]
    omega
   refine hS.turn hget rfl hb (.inr ⟨b,cap,_,rfl,hcap,hcells.set _ hsize,hB,hcm,by rw [hsize]; exact hcs,by rw [hr,e0]; exact hln,?_⟩) (fun k hk=>rA w b k _ hk)
   rw [hr,e0]
   simp only [I1,hlen]
   have e2:rvL E (xs.take off++v.cells.toList++xs.drop (off+v.cells.toList.length))=(rvL E xs).take off++(rv E v).cells.toList++(rvL E xs).drop (off+v.cells.toList.length):=by
    simp only [o9,qR,fN,iO,N7,zE]
   rw [e2,<- htake]
   apply h1z
   intro j
   simp only [T6,List.getElem?_append,G8,E0,hlen,W3,cB]
   grind
  ·exact⟨rfl,rfl,rfl,by simp,fun k hk hm=>rA w b k _ (fun e=>by subst e; exact hB.elim (fun h=>by omega) hm)⟩
  ·rfl
  ·simp
theorem aN {P:Program} {B:Nat} {M:Nat->Prop} {E:Num} {H H':Heap} {w:World} (hS:Sim P B M E H w) {t:TypeId} {x v:Value}
  (h:aK P H t x v=some H'):∃ w',(Instr.storeAt t (rv E x) (rv E v)).run P w= .ok () w'∧Sim P B M E H' w'∧Keeps B M w w'∧w'.drawn=w.drawn∧w'.heap.size=w.heap.size:=by
 unfold aK at h
 simp only [B0] at h
 split at h
 case h_2=>cases h
 rename_i id off
 split at h
 case h_1=>cases h
 rename_i i hi
 split at h
 case h_4=>cases h
 case h_2=>
  rename_i e sz xs k hget
  split at h
  case h_2=>cases h
  rename_i hc
  simp only [A9,B7,V1,G1,zzA41] at hc
  obtain⟨⟨⟨h1,h2⟩,h3⟩,h4⟩:=hc
  cases h
  exact W8 hS hi (r:= .vals xs) hget h1 h2 h3 h4 rfl
 case h_3=>
  rename_i e sz kd ns k hget
  split at h
  case h_2=>cases h
  rename_i kd' x
  split at h
  case h_2=>cases h
  rename_i hc
  simp only [A9,B7,G1,aI] at hc
  obtain⟨⟨hk,h1⟩,h2⟩:=hc
  subst hk
  cases h
  have hc1:(zO2 kd' x).cells.toList=[.int kd' x] :=rfl
  refine W8 hS hi (r:= .ints kd' ns) hget (by rw [hc1]; exact h1) (by rw [hc1]; simp [Row.list]; omega) (by rw [hc1]; simp [o1x]) (by simp [Row.list]; omega) ?_
  rw [hc1,A0]
  simp only [Row.list,qP,<- fN,<- iO]
  rw [show [zO2 kd' x] =[x].map (zO2 kd') from rfl,<- qR,<- qR,List.set_eq_take_append_cons_drop,f9 h2]
  simp
 rename_i cs ty hget
 split at h
 case h_2=>cases h
 rename_i hc
 simp only [A9,B7,V1,zzA41] at hc
 obtain⟨⟨h1,h2⟩,h3⟩:=hc
 cases h
 obtain⟨b,hb,hcells,hown⟩:=hS.obj id _ hget
 have hlen:((rv E v).cells.toList).length=v.cells.toList.length:=by rw [N7]; simp
 have hst:=run_storeCells_at P b off ty (rv E v).cells.toList 0 (rvL E cs).toArray w hcells (by simp [hlen,o9] at h2 ⊢; omega) (fun u hu=>by
  rw [N7] at hu
  simp only [zE,zzA43] at hu
  obtain⟨u0,hu0,rfl⟩:=hu
  exact c0r E u0 (h3 u0 hu0))
 have hsz:(rv E v).cells.size=i.size:=by rw [<- h1]; simpa using hlen
 refine⟨w.setRow b ((rvL E cs).toArray.toList.take (off+0)++(rv E v).cells.toList++(rvL E cs).toArray.toList.drop (off+0+(rv E v).cells.toList.length)).toArray,?_,?_,?_,?_,?_⟩
 ·simp only [rv,w8,hb,E6,Instr.storeAt,Instr.sureAddr,pure_bind,storeVar,v7,s5 hi,y4]
  rw [a7 (by simp [hsz])]
  simpa using hst
 ·refine hS.turn hget rfl hb ⟨b,rfl,?_,hown⟩ (fun k hk=>rA w b k _ hk)
  rw [setRow_heap w b _ _ ty (0,0) hcells]
  congr 2
  simp only [o9,qR,fN,iO,N7,I1,zE,D1]
 ·exact⟨rfl,rfl,rfl,by simp,fun k hk hm=>rA w b k _ (fun e=>by subst e; exact hown.elim (fun h=>by omega) (fun h=>hm h))⟩
 ·rfl
 ·simp
def Row.len:Row->Nat
 | .vals xs=>xs.length
 | .ints _ ns=>ns.length
theorem j0b (r:Row):r.len=r.list.length:=by cases r <;> simp [Row.len,Row.list]
theorem j2p {P:Program} {B:Nat} {M:Nat->Prop} {E:Num} {H:Heap} {w:World} (hS:Sim P B M E H w) {id off e sz k:Nat} {r r':Row} {news:List Value} (hp:rvL E news=news)
  (hget:H.get id=some (.row e sz r k)) (h2:off+news.length<=r.list.length) (h3:∀ x∈news,x.oneCell'=true) (h4:0 < r.list.length)
  (hr:r'.list=r.list.take off++news++r.list.drop (off+news.length)) {b:Nat} (hbb:E id=some b) {cur:Array Value} {e':TypeId} {fr:Nat×Nat} (hcur:w.heap[b]? =some (.cells cur e' fr)):
  (storeCells ⟨b,off,none⟩ news).run P w= .ok () (w.setRow b (cur.toList.take off++news++cur.toList.drop (off+news.length)).toArray)∧
  Sim P B M E (H.set id (.row e sz r' k)) (w.setRow b (cur.toList.take off++news++cur.toList.drop (off+news.length)).toArray)∧
  Keeps B M w (w.setRow b (cur.toList.take off++news++cur.toList.drop (off+news.length)).toArray):=by
 obtain⟨b',cap,cur',hb,hcap,hcells,hB,hcm,hcs,hln,htake⟩:=(hS.obj id _ hget).row_some h4
 rw [hbb] at hb
 cases hb
 obtain rfl:cur'=cur:=by
  obtain⟨fr',q1,_⟩:=hcells
  rw [hcur] at q1
  injection q1 with q1
  injection q1 with q1
  exact q1.symm
 generalize r.list=xs at*
 have hcur:xs.length<=cur'.size:=by rw [hcs]; exact hln
 have hst:=F6 P b off e news 0 cur' w hcells (by omega) h3
 have hsize:(cur'.toList.take off++news++cur'.toList.drop (off+news.length)).toArray.size=cur'.size:=by
  simp only [x0a,G8,E0,C2,cB]
  rw [C6 (by omega)]
  omega
 refine⟨by simpa using hst,?_,⟨rfl,rfl,rfl,by simp,fun k hk hm=>rA w b k _ (fun e=>by subst e; exact hB.elim (fun h=>by omega) hm)⟩⟩
 have e0:(xs.take off++news++xs.drop (off+news.length)).length=xs.length:=by
  simp only [G8,E0,C2]
  omega
 refine hS.turn hget rfl hbb (.inr ⟨b,cap,_,rfl,hcap,hcells.set _ hsize,hB,hcm,by rw [hsize]; exact hcs,by rw [hr,e0]; exact hln,?_⟩) (fun k hk=>rA w b k _ hk)
 rw [hr,e0]
 have e2:rvL E (xs.take off++news++xs.drop (off+news.length))=(rvL E xs).take off++news++(rvL E xs).drop (off+news.length):=by
  have hp':=hp
  rw [o9] at hp'
  simp only [o9,qR,fN,iO,hp']
 rw [e2,<- htake]
 apply h1z
 intro j
 simp only [T6,List.getElem?_append,G8,E0,W3,cB]
 grind
def jO (P:Program) (auto:Bool) (H:Heap) (t:TypeId) (x v:Value):Option (Heap×List Prop):=
 match auto with
 | true=>none
 | false=>match x with
  | .pointer (some ⟨id,off,none⟩)=>match H.get id with
   | some (.row e sz (.ints kd ns) k)=>match gA P t,v with
    | some i, .int kd' x=>match decide (kd'=kd) && zO0 1 i.size with
     | true=>some (H.set id (.row e sz (.ints kd (S5 ns off x)) k),[off < ns.length])
     | false=>none
    | _,_=>none
   | _=>none
  | _=>none
theorem yA {P:Program} {auto:Bool} {B:Nat} {M:Nat->Prop} {E:Num} {H H':Heap} {w:World} (hS:Sim P B M E H w) {t:TypeId} {x v:Value} {l:List Prop}
  (h:jO P auto H t x v=some (H',l)) (hl:l5 l):∃ w',(Instr.storeAt t (rv E x) (rv E v)).run P w= .ok () w'∧Sim P B M E H' w'∧Keeps B M w w':=by
 unfold jO at h
 simp only [B0] at h
 split at h
 ·cases h
 split at h
 case h_2=>cases h
 rename_i id off
 split at h
 case h_2=>cases h
 rename_i e sz kd ns k hget
 split at h
 case h_2=>cases h
 rename_i i kd' x hi
 split at h
 case h_2=>cases h
 rename_i hc
 simp only [A9,aI,B7] at hc
 obtain⟨rfl,hs⟩:=hc
 cases h
 have hlt:off < ns.length:=hl.1
 obtain⟨w',h1,h2,h3,_⟩:=W8 (v:= .int kd' x) (r':= .ints kd' (S5 ns off x)) hS hi hget (by simpa [Value.cells] using hs) (by show off+1<=_; simp only [Row.list,D1]; omega) (by simp [Value.cells,o1x]) (by simp only [Row.list,D1]; omega) (by
  simp only [Row.list,Value.cells,A0]
  apply h1z
  intro j
  simp only [Z3,List.getElem?_set,List.getElem?_append,T6,W3,G8,E0,D1]
  grind)
 exact⟨w',h1,h2,h3⟩
def cC (H:Heap) (p o k:Nat):Option (List Value):=
 match H.get p with
 | some (.cells cs _)=>match Nat.ble (o+k) cs.length with
  | true=>some ((cs.drop o).take k)
  | false=>none
 | some (.row _ _ (.vals xs) _)=>match Nat.ble (o+k) xs.length && zO1 0 k with
  | true=>some ((xs.drop o).take k)
  | false=>none
 | some (.row _ _ (.ints kd ns) _)=>match Nat.ble (o+k) ns.length && zO1 0 k with
  | true=>some (((ns.drop o).take k).map (.int kd))
  | false=>none
 | some (.ro xs)=>match Nat.ble (o+k) xs.length && zO1 0 k with
  | true=>some ((xs.drop o).take k)
  | false=>none
 | _=>none
theorem aC {P:Program} {B:Nat} {M:Nat->Prop} {E:Num} {H:Heap} {w:World} (hS:Sim P B M E H w) {p o k:Nat} {cs:List Value} (h:cC H p o k=some cs):
  ∃ b,E p=some b∧cs.length=k∧∀ j u,(rvL E cs)[j]? =some u->w.cell? ⟨b,o+j,none⟩=some u:=by
 unfold cC at h
 split at h
 ·rename_i cs0 t hget
  split at h
  case h_2=>cases h
  rename_i hle
  cases h
  have hle:=dL hle
  obtain⟨b,hb,hcells,_⟩:=hS.obj p _ hget
  refine⟨b,hb,by simp; omega,fun j u hj=> ?_⟩
  rw [lJ w b (o+j) _ _ _ hcells]
  rw [o9,Z3,T6] at hj
  split at hj
  ·rw [W3] at hj
   simpa [o9] using hj
  ·cases hj
 ·rename_i e sz xs kk hget
  split at h
  case h_2=>cases h
  rename_i hle
  simp only [A9,V1,G1] at hle
  cases h
  obtain⟨b,cap,cur,hb,_,hcells,_,_,_,_,htake⟩:=(hS.obj p _ hget).row_some (by simp only [Row.list]; omega)
  refine⟨b,hb,by simp; omega,fun j u hj=> ?_⟩
  rw [o9,Z3,T6] at hj
  split at hj
  ·rw [W3] at hj
   cases hx:xs[o+j]? with
   | none=>rw [hx] at hj; cases hj
   | some y=>
    rw [hx] at hj
    cases hj
    exact R9 hcells htake hx
  ·cases hj
 ·rename_i e sz kd ns kk hget
  split at h
  case h_2=>cases h
  rename_i hle
  simp only [A9,V1,G1] at hle
  cases h
  obtain⟨b,cap,cur,hb,_,hcells,_,_,_,_,htake⟩:=(hS.obj p _ hget).row_some (by simp only [Row.list,D1]; omega)
  refine⟨b,hb,by simp; omega,fun j u hj=> ?_⟩
  rw [o9,Z3,Z3,T6] at hj
  split at hj
  ·rw [W3] at hj
   cases hx:ns[o+j]? with
   | none=>rw [hx] at hj; cases hj
   | some y=>
    rw [hx] at hj
    cases hj
    have:=R9 (i:=o+j) (v:= .int kd y) hcells htake (by rw [Row.list,Z3,hx]; rfl)
    exact this
  ·cases hj
 ·rename_i xs hget
  split at h
  case h_2=>cases h
  rename_i hle
  simp only [A9,V1,G1] at hle
  cases h
  rcases hS.obj p _ hget with ⟨_,hnil⟩ | ⟨b,cs0,ty,fr,hb,hcells,hall⟩
  ·subst hnil; simp at hle; omega
  ·refine⟨b,hb,by simp; omega,fun j u hj=> ?_⟩
   rw [lJ w b (o+j) _ _ _ hcells]
   rw [o9,Z3,T6] at hj
   split at hj
   ·rw [W3] at hj
    exact hall (o+j) u (by rw [o9,Z3]; exact hj)
   ·cases hj
 ·cases h
def roO:AObj->Option AObj
 | .cells cs _=>some (.ro cs)
 | .row _ _ (.vals xs) _=>some (.ro xs)
 | .row _ _ (.ints k ns) _=>some (.ints k ns)
 | .ints k ns=>some (.ints k ns)
 | .ro xs=>some (.ro xs)
 | .fam f n sz o=>some (.fam f n sz o)
 | _=>none
def t2j (p:Nat->Bool):AObj->Bool
 | .cells cs _=>allL p cs
 | .row _ _ (.vals xs) k=>allL p xs && p k
 | .row _ _ (.ints _ _) k=>p k
 | .ints _ _=>true
 | .iter _ _=>true
 | .ro xs=>allL p xs
 | .fam _ _ _ _=>true
 | _=>false
theorem ORep.ro {B:Nat} {M:Nat->Prop} {B':Nat} {M':Nat->Prop} {E:Num} {w:World} {ob:Option Nat} {o o':AObj} (h:ORep B M E w ob o) (hr:roO o=some o'):ORep B' M' E w ob o'∧o'.rw=false:=by
 unfold roO at hr
 split at hr
 ·cases hr
  obtain⟨b,h1,h2,_⟩:=h
  exact⟨.inr ⟨b,_,_,_,h1,h2,fun i v hi=>by simpa using hi⟩,rfl⟩
 ·cases hr
  rcases h with ⟨h1,h2⟩ | ⟨b,cap,cur,h1,h2,h3,h4,h5,h6,h7,h8⟩
  ·exact⟨.inl ⟨h1,h2⟩,rfl⟩
  ·rename_i xs _
   obtain⟨fr,h3,_⟩:=h3
   refine⟨.inr ⟨b,cur,_,_,h1,h3,fun i v hi=> ?_⟩,rfl⟩
   have h8:cur.toList.take xs.length=rvL E xs:=h8
   rw [<- h8,T6] at hi
   split at hi
   ·simpa using hi
   ·cases hi
 ·cases hr
  rcases h with ⟨h1,h2⟩ | ⟨b,cap,cur,h1,h2,h3,h4,h5,h6,h7,h8⟩
  ·exact⟨.inl ⟨h1,by simpa [Row.list] using h2⟩,rfl⟩
  ·rename_i k ns _
   have h3':=h3
   obtain⟨fr,h3,_⟩:=h3
   refine⟨.inr ⟨b,cur,_,_,h1,h3,fun i hi=> ?_⟩,rfl⟩
   have:=R9 (i:=i) (v:= .int k (ns.getD i 0)) (xs:=ns.map (.int k)) h3' h8 (by rw [Z3]; simp [List.getD,hi])
   rw [lJ w b i _ _ _ h3] at this
   simpa [rv] using this
 ·cases hr; exact⟨h,rfl⟩
 ·cases hr; exact⟨h,rfl⟩
 ·cases hr; exact⟨h,rfl⟩
 ·cases hr
theorem ORep.all {B:Nat} {M:Nat->Prop} {E E':Num} {p:Nat->Bool} (ha:∀ j,p j=true->E' j=E j) {w:World} {ob:Option Nat} {o:AObj} (h:ORep B M E w ob o) (hp:t2j p o=true):ORep B M E' w ob o:=by
 unfold t2j at hp
 split at hp
 ·obtain⟨b,h1,h2,h3⟩:=h
  exact⟨b,h1,by rw [rvL_all ha _ hp]; exact h2,h3⟩
 ·simp only [A9] at hp
  rcases h with h | ⟨b,cap,cur,h1,h2,h3,h4,h5,h6,h7,h8⟩
  ·exact .inl h
  ·refine .inr ⟨b,cap,cur,h1,(ha _ hp.2).trans h2,h3,h4,h5,h6,h7,?_⟩
   rw [Row.list,rvL_all ha _ hp.1]
   exact h8
 ·rcases h with h | ⟨b,cap,cur,h1,h2,h3,h4,h5,h6,h7,h8⟩
  ·exact .inl h
  ·refine .inr ⟨b,cap,cur,h1,(ha _ hp).trans h2,h3,h4,h5,h6,h7,?_⟩
   rename_i k ns _
   have e:∀ (r:Num),rvL r (ns.map (zO2 k))=ns.map (zO2 k):=fun r=>rvL_pure r _ (by rw [J1]; simp [D3])
   have h8:cur.toList.take (ns.map (zO2 k)).length=rvL E (ns.map (zO2 k)):=h8
   show cur.toList.take (ns.map (zO2 k)).length=rvL E' (ns.map (zO2 k))
   rw [e] at h8 ⊢
   exact h8
 ·exact h
 ·exact h
 ·rcases h with h | ⟨b,cs,t,fr,h1,h2,h3⟩
  ·exact .inl h
  ·exact .inr ⟨b,cs,t,fr,h1,h2,fun i v hi=>h3 i v (by rw [<- rvL_all ha _ hp]; exact hi)⟩
 ·exact h
 ·cases hp
end
noncomputable section
def N2 {α:Type} (P:Program):Sem α->Option α
 | .pure a=>some a
 | .program k=>N2 P (k P)
 | _=>none
theorem g0h {α:Type} {P:Program} {s:Sem α} {a:α} (h:N2 P s=some a) (w:World):s.run P w= .ok a w:=by
 induction s with
 | pure b=>simp only [N2] at h; cases h; rfl
 | program k ih=>simp only [N2] at h; simp only [Sem.run]; exact ih P h
 | _=>simp [N2] at h
def S3 (x:Option Value):Option Value:=
 match x with
 | some v=>match D3 v with
  | true=>some v
  | false=>none
 | none=>none
theorem W2 {P:Program} {s:Sem Value} {v:Value} (h:S3 (N2 P s)=some v) (E:Num) (w:World):s.run P w= .ok (rv E v) w:=by
 unfold S3 at h
 split at h
 ·rename_i u hu
  split at h
  ·rename_i hp
   cases h
   rw [D0 E _ hp]
   exact g0h hu w
  ·cases h
 ·cases h
def known (P:Program) (H:Heap) (id:Nat):Bool:=
 match H.get id with
 | some (.cells _ _)=>true
 | some (.ro (_ ::_))=>true
 | some (.row _ _ (.vals (_ ::_)) _)=>true
 | some (.row _ _ (.ints _ (_ ::_)) _)=>true
 | _=>zO1 id P.globals.size
theorem N6 {P:Program} {B:Nat} {M:Nat->Prop} {E:Num} {H:Heap} {w:World} (hS:Sim P B M E H w) {id:Nat} (h:known P H id=true):∃ b,E id=some b:=by
 unfold known at h
 split at h
 ·rename_i cs t hg
  obtain⟨b,hb,_⟩:=hS.obj id _ hg
  exact⟨b,hb⟩
 ·rename_i hg
  rcases hS.obj id _ hg with ⟨_,hnil⟩ | ⟨b,cs,ty,fr,hb,_,_⟩
  ·cases hnil
  ·exact⟨b,hb⟩
 ·rename_i hg
  rcases hS.obj id _ hg with ⟨_,hnil⟩ | ⟨b,_,_,hb,_⟩
  ·cases hnil
  ·exact⟨b,hb⟩
 ·rename_i hg
  rcases hS.obj id _ hg with ⟨_,hnil⟩ | ⟨b,_,_,hb,_⟩
  ·cases hnil
  ·exact⟨b,hb⟩
 ·exact⟨id,hS.glob id (by simpa [Nat.blt_eq] using h)⟩
def s4 (a b:Nat):Nat:=match a with
 | 0=>b
 | a+1=>a+1+b
@[simp] theorem q9 (a b:Nat):s4 a b=a+b:=by cases a <;> simp [s4]
def R3 (a b:Nat):Nat:=match b with
 | 1=>a
 | b=>a*b
@[simp] theorem dX (a b:Nat):R3 a b=a*b:=by unfold R3; split <;> simp
def iA (P:Program) (H:Heap) (s:TypeId) (x:Value) (f:Nat):Option Value:=
 match x with
 | .pointer (some ⟨id,off,none⟩)=>
  match known P H id with
  | false=>none
  | true=>
   match bC P s with
   | some (.struct fs)=>match fs[f]? with
    | none=>none
    | some fd=>match gA P fd.type with
     | none=>none
     | some i=>match i.size with
      | 0=>none
      | _+1=>some (.pointer (some ⟨id,s4 off fd.offset,none⟩))
   | _=>none
 | _=>none
theorem mO {P:Program} {B:Nat} {M:Nat->Prop} {E:Num} {H:Heap} {w:World} (hS:Sim P B M E H w) {s:TypeId} {x v:Value} {f:Nat}
  (h:iA P H s x f=some v):(Instr.fieldAt s (rv E x) f).run P w= .ok (rv E v) w:=by
 unfold iA at h
 simp only [A8,B0] at h
 split at h
 case h_2=>cases h
 rename_i id off
 split at h
 case h_1=>cases h
 rename_i hk
 obtain⟨b,hb⟩:=N6 hS hk
 split at h
 case h_2=>cases h
 rename_i fs hu
 split at h
 case h_1=>cases h
 rename_i fd hf
 split at h
 case h_1=>cases h
 rename_i i hi
 split at h
 case h_1=>cases h
 rename_i n hn
 cases h
 simp only [rv,w8,hb,E6,Instr.fieldAt,v7,V0 hu,y4,hf,Instr.sureAddr,pure_bind,fieldPlace,s5 hi,hn]
 simp [v8]
def gX (P:Program) (auto:Bool) (H:Heap) (t:TypeId) (x ix:Value):Option (Value×List Prop):=
 match ix with
 | .int _ i=>
  match bC P t with
  | some (.array len e)=>
   match x with
   | .pointer (some ⟨id,off,none⟩)=>
    match known P H id with
    | false=>none
    | true=>match gA P e with
     | none=>none
     | some inf=>match P9 auto (0<=i∧i < len) with
      | none=>none
      | some l=>some (.pointer (some ⟨id,s4 off (R3 i.toNat inf.size),none⟩),l)
   | _=>none
  | some (.slice e)=>
   match x with
   | .slice (some ⟨id,off,none⟩) n _=>
    match gA P e with
    | none=>none
    | some inf=>
     match H.get id with
     | some (.ints _ xs)=>match P9 auto ((0<=i∧i < n)∧n<=xs.length) with
      | none=>none
      | some l=>some (.pointer (some ⟨id,s4 off (R3 i.toNat inf.size),none⟩),l)
     | some (.cells _ _)=>match P9 auto (0<=i∧i < n) with
      | none=>none
      | some l=>some (.pointer (some ⟨id,s4 off (R3 i.toNat inf.size),none⟩),l)
     | some (.ro xs)=>match P9 auto ((0<=i∧i < n)∧0 < xs.length) with
      | none=>none
      | some l=>some (.pointer (some ⟨id,s4 off (R3 i.toNat inf.size),none⟩),l)
     | _=>none
   | .slice (some ⟨id,off,some _⟩) n _=>
    match gA P e with
    | none=>none
    | some inf=>
     match H.get id with
     | some (.row _ _ (.vals xs) _)=>match P9 auto ((0<=i∧i < n)∧0 < xs.length) with
      | none=>none
      | some l=>some (.pointer (some ⟨id,s4 off (R3 i.toNat inf.size),none⟩),l)
     | some (.row _ _ (.ints _ ns) _)=>match P9 auto ((0<=i∧i < n)∧0 < ns.length) with
      | none=>none
      | some l=>some (.pointer (some ⟨id,s4 off (R3 i.toNat inf.size),none⟩),l)
     | some (.ro xs)=>match P9 auto ((0<=i∧i < n)∧0 < xs.length) with
      | none=>none
      | some l=>some (.pointer (some ⟨id,s4 off (R3 i.toNat inf.size),none⟩),l)
     | some (.ints _ xs)=>match P9 auto ((0<=i∧i < n)∧0 < xs.length) with
      | none=>none
      | some l=>some (.pointer (some ⟨id,s4 off (R3 i.toNat inf.size),none⟩),l)
     | some (.fam _ m _ _)=>match P9 auto ((0<=i∧i < n)∧0 < m) with
      | none=>none
      | some l=>some (.pointer (some ⟨id,s4 off (R3 i.toNat inf.size),none⟩),l)
     | _=>none
   | _=>none
  | _=>none
 | _=>none
theorem oF {P:Program} {auto:Bool} {B:Nat} {M:Nat->Prop} {E:Num} {H:Heap} {w:World} (hS:Sim P B M E H w) {t:TypeId} {x ix v:Value} {l:List Prop}
  (h:gX P auto H t x ix=some (v,l)) (hl:l5 l):(Instr.indexAt t (rv E x) (rv E ix)).run P w= .ok (rv E v) w:=by
 unfold gX at h
 simp only [A8,B0] at h
 split at h
 case h_2=>cases h
 rename_i k i
 split at h
 ·rename_i len e hu
  split at h
  case h_2=>cases h
  rename_i id off
  split at h
  case h_1=>cases h
  rename_i hk
  obtain⟨b,hb⟩:=N6 hS hk
  split at h
  case h_1=>cases h
  rename_i inf hi
  split at h
  case h_1=>cases h
  rename_i l' hn
  cases h
  have hr:=n7 hn hl
  simp [rv,w8,hb,Instr.indexAt,asIntOf,run_underlying hu,Instr.sureAddr,hr,s5 hi,v8]
 ·rename_i e hu
  split at h
  case h_3=>cases h
  case h_2=>
   rename_i id off kk n c
   split at h
   case h_1=>cases h
   rename_i inf hi
   have fin:∀ (b:Nat),E id=some b->(0<=i∧i < (n:Int))->(Instr.indexAt t (rv E (.slice (some ⟨id,off,some kk⟩) n c)) (rv E (.int k i))).run P w= .ok (rv E (.pointer (some ⟨id,s4 off (R3 i.toNat inf.size),none⟩))) w:=by
    intro b hb hr
    simp [rv,rSl,w8,hb,Instr.indexAt,asIntOf,run_underlying hu,hr,s5 hi,v8]
   split at h
   ·rename_i e' sz xs k2 hg
    split at h
    case h_1=>cases h
    rename_i l' hn
    cases h
    have hr:=n7 hn hl
    obtain⟨b,_,_,hb,_⟩:=(hS.obj id _ hg).row_some hr.2
    exact fin b hb hr.1
   ·rename_i e' sz k3 ns k2 hg
    split at h
    case h_1=>cases h
    rename_i l' hn
    cases h
    have hr:=n7 hn hl
    obtain⟨b,_,_,hb,_⟩:=(hS.obj id _ hg).row_some (by simp [Row.list]; exact hr.2)
    exact fin b hb hr.1
   ·rename_i xs hg
    split at h
    case h_1=>cases h
    rename_i l' hn
    cases h
    have hr:=n7 hn hl
    rcases hS.obj id _ hg with ⟨_,hnil⟩ | ⟨b,cs,ty,fr,hb,_,_⟩
    ·have h2:=hr.2
     subst hnil
     simp only [jN] at h2
     omega
    ·exact fin b hb hr.1
   ·rename_i k3 xs hg
    split at h
    case h_1=>cases h
    rename_i l' hn
    cases h
    have hr:=n7 hn hl
    rcases hS.obj id _ hg with ⟨_,hnil⟩ | ⟨b,cs,ty,fr,hb,_,_⟩
    ·have h2:=hr.2
     subst hnil
     simp only [jN] at h2
     omega
    ·exact fin b hb hr.1
   ·rename_i f m sz o hg
    split at h
    case h_1=>cases h
    rename_i l' hn
    cases h
    have hr:=n7 hn hl
    rcases hS.obj id _ hg with ⟨_,hnil⟩ | ⟨b,cs,ty,fr,hb,_,_⟩
    ·have h2:=hr.2
     omega
    ·exact fin b hb hr.1
   ·cases h
  rename_i id off n c
  split at h
  case h_1=>cases h
  rename_i inf hi
  split at h
  ·rename_i k' xs hg
   split at h
   case h_1=>cases h
   rename_i l' hn
   cases h
   have hr:=n7 hn hl
   rcases hS.obj id _ hg with ⟨_,hnil⟩ | ⟨b,cs,ty,fr,hb,_,_⟩
   ·subst hnil
    have h2:=hr.2
    simp only [jN] at h2
    omega
   ·simp [rv,rSl,w8,hb,Instr.indexAt,asIntOf,run_underlying hu,hr.1,s5 hi,v8]
  ·rename_i cs ty hg
   split at h
   case h_1=>cases h
   rename_i l' hn
   cases h
   have hr:=n7 hn hl
   obtain⟨b,hb,_⟩:=hS.obj id _ hg
   simp [rv,rSl,w8,hb,Instr.indexAt,asIntOf,run_underlying hu,hr,s5 hi,v8]
  ·rename_i xs hg
   split at h
   case h_1=>cases h
   rename_i l' hn
   cases h
   have hr:=n7 hn hl
   rcases hS.obj id _ hg with ⟨_,hnil⟩ | ⟨b,cs,ty,fr,hb,_,_⟩
   ·have h2:=hr.2
    subst hnil
    simp only [jN] at h2
    omega
   ·simp [rv,rSl,w8,hb,Instr.indexAt,asIntOf,run_underlying hu,hr.1,s5 hi,v8]
  ·cases h
 ·cases h
def z0a (P:Program) (t:TypeId) (cs:List Value) (off:Nat):Option Value:=
 match bC P t with
 | none=>none
 | some d=>match y1k d with
  | true=>match gA P t with
   | none=>none
   | some i=>some (.agg ⟨(cs.drop off).take i.size⟩)
  | false=>cs[off]?
theorem aS {P:Program} {t:TypeId} {cs:List Value} {off:Nat} {v:Value} (h:z0a P t cs off=some v) (E:Num) (w:World):
  (part t (rvA E ⟨cs⟩) off).run P w= .ok (rv E v) w:=by
 unfold z0a at h
 simp only [A8,B0] at h
 split at h
 case h_1=>cases h
 rename_i d hd
 split at h
 ·rename_i ha
  split at h
  case h_1=>cases h
  rename_i i hi
  cases h
  simp only [part,v7,E3 hd,ha,y4,H9,s5 hi,rvA,o9,rv]
  simp [List.map_take,List.map_drop,List.extract_eq_take_drop]
 ·rename_i ha
  simp only [part,v7,E3 hd,ha,y4,rvA,o9]
  simp [h]
def q0s (P:Program) (t:TypeId) (x:Value) (f:Nat):Option Value:=
 match x with
 | .agg ⟨cs⟩=>match bC P t with
  | some (.struct fs)=>match fs[f]? with
   | some fd=>z0a P fd.type cs fd.offset
   | none=>none
  | _=>none
 | _=>none
theorem e0p {P:Program} {t:TypeId} {x v:Value} {f:Nat} (h:q0s P t x f=some v) (E:Num) (w:World):(Instr.field t (rv E x) f).run P w= .ok (rv E v) w:=by
 unfold q0s at h
 simp only [A8] at h
 split at h
 case h_2=>cases h
 split at h
 case h_2=>cases h
 rename_i fs hu
 split at h
 case h_2=>cases h
 rename_i fd hf
 simp [Instr.field,run_underlying hu,hf,rv,asAgg,aS h E w]
def oE (s:ByteArray) (i:Nat):Nat:=(s.data.toList.getD i 0).toNat
def m0t (P:Program) (auto:Bool) (t:TypeId) (x ix:Value):Option (Value×List Prop):=
 match ix with
 | .int _ i=>
  match bC P t with
  | some .string=>match x with
   | .string s=>match P9 auto (0<=i∧i.toNat < s.data.toList.length) with
    | some l=>some (.int .u8 (oE s i.toNat),l)
    | none=>none
   | _=>none
  | some (.array len e)=>match x with
   | .agg ⟨cs⟩=>match gA P e with
    | none=>none
    | some inf=>match P9 auto (0<=i∧i < len) with
     | some l=>match z0a P e cs (R3 i.toNat inf.size) with
      | some v=>some (v,l)
      | none=>none
     | none=>none
   | _=>none
  | _=>none
 | _=>none
theorem g0v {P:Program} {auto:Bool} {t:TypeId} {x ix v:Value} {l:List Prop} (h:m0t P auto t x ix=some (v,l)) (hl:l5 l) (E:Num) (w:World):
  (Instr.index t (rv E x) (rv E ix)).run P w= .ok (rv E v) w:=by
 unfold m0t at h
 simp only [A8,B0] at h
 split at h
 case h_2=>cases h
 rename_i k i
 split at h
 ·rename_i hu
  split at h
  case h_2=>cases h
  rename_i s
  split at h
  case h_2=>cases h
  rename_i l' hn
  cases h
  obtain⟨h0,h1⟩:=n7 hn hl
  have hsz:i.toNat < s.size:=h1
  have hb:s[i.toNat]? =some (s[i.toNat]):=ByteArray.getElem?_lt' s _ hsz
  have he:oE s i.toNat=(s[i.toNat]).toNat:=by
   unfold oE
   rw [bD,z0u h1]
   rfl
  simp only [Instr.index,rv,asIntOf,pure_bind,v7,V0 hu,y4,h0,H9,hb,he]
  rfl
 ·rename_i len e hu
  split at h
  case h_2=>cases h
  rename_i cs
  split at h
  case h_1=>cases h
  rename_i inf hi
  split at h
  case h_2=>cases h
  rename_i l' hn
  split at h
  case h_2=>cases h
  rename_i v' hp
  cases h
  have hr:=n7 hn hl
  rw [dX] at hp
  simp [Instr.index,rv,asIntOf,run_underlying hu,hr,s5 hi,aS hp E w]
 ·cases h
def wF (x:Value) (i:Nat):Option Value:=
 match x with
 | .tuple ⟨vs⟩=>vs[i]?
 | _=>none
theorem vO {P:Program} {x v:Value} {i:Nat} (h:wF x i=some v) (E:Num) (w:World):(Instr.extract (rv E x) i).run P w= .ok (rv E v) w:=by
 unfold wF at h
 split at h
 case h_2=>cases h
 simp [Instr.extract,rv,rvA,o9,h]
def y1l (P:Program):Nat->TypeId->Value->Value->Option Bool
 | 0,_,_,_=>none
 | d+1,t,x,y=>
  match bC P t with
  | some .bool=>match x,y with
   | .bool a, .bool b=>some (a==b)
   | _,_=>none
  | some (.int _)=>match x,y with
   | .int k a, .int k' b=>match decide (k=k') with
    | true=>some (a==b)
    | false=>none
   | _,_=>none
  | some .string=>match x,y with
   | .string a, .string b=>some (a.data.toList==b.data.toList)
   | _,_=>none
  | some (.float _)=>match x,y with
   | .float k a, .float k' b=>match decide (k=k') with
    | true=>some (Op.floatEq k a b)
    | false=>none
   | _,_=>none
  | some (.struct fs)=>match x,y with
   | .agg ⟨xs⟩, .agg ⟨ys⟩=>match P.stoodInHeld t with
    | true=>none
    | false=>fs.toList.foldr (fun f acc=>match acc with
     | none=>none
     | some r=>match f.name != "_" with
      | false=>some r
      | true=>match z0a P f.type xs f.offset,z0a P f.type ys f.offset with
       | some a,some b=>match y1l P d f.type a b with
        | some q=>some (q && r)
        | none=>none
       | _,_=>none) (some true)
   | _,_=>none
  | _=>none
theorem fC {P:Program} (E:Num) (w:World):∀ (d:Nat) (t:TypeId) (x y:Value) (r:Bool),y1l P d t x y=some r->∀ D,d<=D->(Op.equalIn D t (rv E x) (rv E y)).run P w= .ok r w:=by
 intro d
 induction d with
 | zero=>intro t x y r h; simp [y1l] at h
 | succ d ih=>
  intro t x y r h D hD
  obtain⟨D,rfl⟩:∃ D',D=D'+1:=⟨D-1,by omega⟩
  have hD:d<=D:=by omega
  unfold y1l at h
  simp only [A8] at h
  split at h
  ·rename_i hu
   split at h
   ·cases h; simp only [rv]; exact run_equalIn_bool w D t _ _ hu
   ·cases h
  ·rename_i k0 hu
   split at h
   ·split at h
    ·rename_i hk; have hk:=G5 hk; subst hk; cases h; simp only [rv]; exact run_equalIn_int w D t _ k0 _ _ hu
    ·cases h
   ·cases h
  ·rename_i hu
   split at h
   ·cases h; simp only [rv]; rw [run_equalIn_string w D t _ _ hu,ByteArray.toList_eq,ByteArray.toList_eq]
   ·cases h
  ·rename_i k0 hu
   split at h
   ·split at h
    ·rename_i hk; have hk:=G5 hk; subst hk; cases h; simp only [rv,Op.equalIn,v7,V0 hu,y4,H9]; rfl
    ·cases h
   ·cases h
  ·rename_i fs hu
   split at h
   ·rename_i xs ys
    split at h
    ·cases h
    ·rename_i hst
     have hf:P.fieldsOf t=fs:=by simp [Program.fieldsOf,hu]
     have hu':P.underlying t=some (.struct (P.fieldsOf t)):=by rw [hf]; exact hu
     simp only [rv]
     rw [run_equalIn_struct w D t _ _ hu' hst,hf]
     clear hu hu' hf
     generalize fs.toList=l at h
     induction l generalizing r with
     | nil=>simp only [List.foldr_nil,U9] at h; subst h; simp [Op.eqFields]
     | cons f l ihl=>
      simp only [List.foldr_cons] at h
      split at h
      case h_1=>cases h
      rename_i q hq
      have ihl:=ihl q hq
      split at h
      ·rename_i hn
       cases h
       have hn':f.name= "_" :=by simpa using hn
       simp [Op.eqFields,hn',ihl]
      ·rename_i hn
       have hn':f.name≠ "_" :=by simpa using hn
       split at h
       case h_2=>cases h
       rename_i a b ha hb
       split at h
       case h_2=>cases h
       rename_i e he
       cases h
       have h1:=aS ha E w
       have h2:=aS hb E w
       have h3:=ih f.type a b e he D hD
       simp only [Op.eqFields,ne_eq,hn',not_false_eq_true,H9,v7,h1,h2,h3,y4]
       cases e <;> simp [ihl]
   ·cases h
  ·cases h
def o2m:Operand->Bool
 | .const _=>true
 | _=>false
def x0g (x:Option Value):Option (Value×List Prop):=
 match x with
 | some v=>some (v,[])
 | none=>none
def l1n (P:Program) (auto:Bool) (op:BinOp) (t:TypeId) (xo yo:Operand) (x y:Value):Option (Value×List Prop):=
 match x,y with
 | .int k a, .int k' b=>
  match o2m yo with
  | true=>x0g (S3 (N2 P (binOp op t (.int k a) (.int k' b))))
  | false=>
   match op with
   | .quo=>match decide (k=k') with
    | true=>match P9 auto (b≠0) with
     | some l=>some (.int k (k.wrap (a.tdiv b)),l)
     | none=>none
    | false=>none
   | .rem=>match decide (k=k') with
    | true=>match P9 auto (b≠0) with
     | some l=>some (.int k (a.tmod b),l)
     | none=>none
    | false=>none
   | .shl=>match P9 auto (0<=b) with
    | some l=>some (.int k (k.wrap (a*2 ^(min b.toNat k.bits))),l)
    | none=>none
   | .shr=>match P9 auto (0<=b) with
    | some l=>some (.int k (a.fdiv (2 ^(min b.toNat k.bits))),l)
    | none=>none
   | _=>x0g (S3 (N2 P (binOp op t (.int k a) (.int k' b))))
 | .string a, .string b=>
  match op with
  | .add=>match P9 auto (a.data.toList.length+b.data.toList.length<=9223372036854775807) with
   | some l=>some (.string ⟨⟨a.data.toList++b.data.toList⟩⟩,l)
   | none=>none
  | .eql=>some (.bool (a.data.toList==b.data.toList),[])
  | .neq=>some (.bool (!(a.data.toList==b.data.toList)),[])
  | .lss=>some (.bool (Op.bytesLess a.data.toList b.data.toList),[])
  | .leq=>some (.bool (Op.bytesLess a.data.toList b.data.toList || a.data.toList==b.data.toList),[])
  | .gtr=>some (.bool (!(Op.bytesLess a.data.toList b.data.toList || a.data.toList==b.data.toList)),[])
  | .geq=>some (.bool (!Op.bytesLess a.data.toList b.data.toList),[])
  | _=>none
 | .float k a, .float k' b=>
  match decide (k=k') with
  | false=>none
  | true=>match op with
   | .add=>match P9 auto ((k.format.add a b).isSome=true) with
    | some l=>some (.float k ((k.format.add a b).getD 0),l)
    | none=>none
   | .sub=>match P9 auto ((k.format.sub a b).isSome=true) with
    | some l=>some (.float k ((k.format.sub a b).getD 0),l)
    | none=>none
   | .mul=>match P9 auto ((k.format.mul a b).isSome=true) with
    | some l=>some (.float k ((k.format.mul a b).getD 0),l)
    | none=>none
   | .quo=>match P9 auto ((k.format.div a b).isSome=true) with
    | some l=>some (.float k ((k.format.div a b).getD 0),l)
    | none=>none
   | _=>x0g (S3 (N2 P (Op.floatCmp op k a b)))
 | .agg xs, .agg ys=>
  match P.eqGuardType P.depth t with
  | true=>none
  | false=>match op with
   | .eql=>match y1l P 20 t (.agg xs) (.agg ys) with
    | some b=>some (.bool b,[])
    | none=>none
   | .neq=>match y1l P 20 t (.agg xs) (.agg ys) with
    | some b=>some (.bool (!b),[])
    | none=>none
   | _=>none
 | .bool a, .bool b=>
  match op with
  | .eql=>match y1l P 20 t (.bool a) (.bool b) with
   | some b=>some (.bool b,[])
   | none=>none
  | .neq=>match y1l P 20 t (.bool a) (.bool b) with
   | some b=>some (.bool (!b),[])
   | none=>none
  | _=>none
 | .func _ _ _, .nilFunc=>
  match bC P t with
  | some (.func _ _ _)=>match op with
   | .eql=>some (.bool false,[])
   | .neq=>some (.bool true,[])
   | _=>none
  | _=>none
 | x,y=>
  match D3 x && D3 y with
  | true=>x0g (S3 (N2 P (do eqGuard op t xo yo x y; binOp op t x y)))
  | false=>none
theorem bE {P:Program} {s:Sem Value} {v:Value} {l:List Prop} (h:x0g (S3 (N2 P s))=some (v,l)) (E:Num) (w:World):s.run P w= .ok (rv E v) w:=by
 unfold x0g at h
 split at h
 ·rename_i u hu; cases h; exact W2 hu E w
 ·cases h
theorem C3 {P:Program} {w:World} {op:BinOp} {t:TypeId} {xo yo:Operand} {x y:Value} (h1:¬ (x= .nilIface∧y= .nilIface)) (h2:¬ ((∃ a,x= .agg a)∧∃ b,y= .agg b)):
  (eqGuard op t xo yo x y).run P w= .ok () w:=by
 unfold eqGuard
 split
 all_goals first
  | (simp only [Bool.not_true,O6,E7]
     split
     ·exact absurd ⟨rfl,rfl⟩ h1
     ·exact absurd ⟨⟨_,rfl⟩,_,rfl⟩ h2
     ·rfl)
  | rfl
theorem U0 {P:Program} {w:World} (D:Nat) {t:TypeId} {fn:Fn} {f c:Array Value} {ps rs:Array TypeId} {v:Bool} (h:P.underlying t=some (.func ps rs v)):
  (Op.equalIn (D+1) t (.func fn f c) .nilFunc).run P w= .ok false w:=by
 simp only [Op.equalIn,v7,V0 h,y4]
 rfl
set_option maxHeartbeats 1000000 in
theorem p0w {P:Program} {auto:Bool} {op:BinOp} {t:TypeId} {xo yo:Operand} {x y v:Value} {l:List Prop} (h:l1n P auto op t xo yo x y=some (v,l)) (hl:l5 l) (E:Num) (w:World):
  (do eqGuard op t xo yo (rv E x) (rv E y); binOp op t (rv E x) (rv E y):Sem Value).run P w= .ok (rv E v) w:=by
 unfold l1n at h
 simp only [A8] at h
 split at h
 ·
  rename_i k a k' b
  simp only [rv,v7]
  rw [C3 (by simp) (by simp)]
  simp only [y4]
  split at h
  ·exact bE h E w
  ·split at h
   ·split at h
    ·rename_i hk; have hk:=G5 hk; subst hk
     split at h
     ·rename_i l' hn; cases h
      have hb:=n7 hn hl
      simp [binOp,Op.intDiv,hb,rv]
     ·cases h
    ·cases h
   ·split at h
    ·rename_i hk; have hk:=G5 hk; subst hk
     split at h
     ·rename_i l' hn; cases h
      have hb:=n7 hn hl
      simp [binOp,Op.intDiv,hb,rv]
     ·cases h
    ·cases h
   ·split at h
    ·rename_i l' hn; cases h
     have hb:=n7 hn hl
     have:¬ b < 0:=by omega
     simp [binOp,Op.shift,this,rv]
    ·cases h
   ·split at h
    ·rename_i l' hn; cases h
     have hb:=n7 hn hl
     have:¬ b < 0:=by omega
     simp [binOp,Op.shift,this,rv]
    ·cases h
   ·exact bE h E w
 ·
  rename_i a b
  simp only [rv,v7]
  rw [C3 (by simp) (by simp)]
  simp only [y4]
  have ea:=ByteArray.toList_eq a
  have eb:=ByteArray.toList_eq b
  split at h
  ·split at h
   ·rename_i l' hn; cases h
    have hb:=n7 hn hl
    have hsz:¬ (((a.size+b.size:Nat):Int) > iI.max):=by
     have h1:a.size=a.data.toList.length:=rfl
     have h2:b.size=b.data.toList.length:=rfl
     have h3:iI.max=9223372036854775807:=by decide
     rw [h3,h1,h2]
     omega
    have happ:a++b=(⟨⟨a.data.toList++b.data.toList⟩⟩:ByteArray):=by
     apply ByteArray.ext
     simp
    simp only [binOp,Op.stringOp,hsz,E7,rv,happ]
    rfl
   ·cases h
  all_goals first
   | (cases h; simp [binOp,Op.stringOp,ea,eb,rv]; done)
   | cases h
 ·
  rename_i k a k' b
  simp only [rv,v7]
  rw [C3 (by simp) (by simp)]
  simp only [y4]
  split at h
  ·cases h
  ·rename_i hk; have hk:=G5 hk; subst hk
   have key:∀ (o:Option Nat),o.isSome=true->(match o with | some r=>(pure (zO3 k r):Sem Value) | none=>do pure (.float k (<- choose (.nanBits k a b)))).run P w= .ok (.float k (o.getD 0)) w:=by
    intro o ho
    cases o with
    | none=>simp at ho
    | some r=>rfl
   split at h
   ·split at h
    ·rename_i l' hn; cases h
     have hb:=n7 hn hl
     have:=key _ hb
     simp only [binOp,Op.floatArith,rv,pure_bind,ne_eq,not_true_eq_false,E7]
     exact this
    ·cases h
   ·split at h
    ·rename_i l' hn; cases h
     have hb:=n7 hn hl
     have:=key _ hb
     simp only [binOp,Op.floatArith,rv,pure_bind,ne_eq,not_true_eq_false,E7]
     exact this
    ·cases h
   ·split at h
    ·rename_i l' hn; cases h
     have hb:=n7 hn hl
     have:=key _ hb
     simp only [binOp,Op.floatArith,rv,pure_bind,ne_eq,not_true_eq_false,E7]
     exact this
    ·cases h
   ·split at h
    ·rename_i l' hn; cases h
     have hb:=n7 hn hl
     have:=key _ hb
     simp only [binOp,Op.floatArith,rv,pure_bind,ne_eq,not_true_eq_false,E7]
     exact this
    ·cases h
   ·rename_i hop1 hop2 hop3 hop4
    have hx:=bE h E w
    have hb:binOp op t (.float k a) (.float k b)=Op.floatCmp op k a b:=by
     cases op <;> first | (exfalso; first | exact hop1 rfl | exact hop2 rfl | exact hop3 rfl | exact hop4 rfl) | simp [binOp]
    rw [hb]
    exact hx
 ·
  rename_i xs ys
  split at h
  ·cases h
  ·rename_i hg
   simp only [rv,v7]
   rw [run_eqGuard_agg w op t xo yo _ _ hg]
   simp only [y4]
   split at h
   ·split at h
    ·rename_i b hb; cases h
     have:=fC E w 20 t _ _ b hb 10000 (by decide)
     simp only [rv] at this
     rw [run_eql_struct,this]; rfl
    ·cases h
   ·split at h
    ·rename_i b hb; cases h
     have:=fC E w 20 t _ _ b hb 10000 (by decide)
     simp only [rv] at this
     rw [run_neq_struct,this]; rfl
    ·cases h
   ·cases h
 ·
  rename_i a b
  simp only [rv,v7]
  rw [C3 (by simp) (by simp)]
  simp only [y4]
  split at h
  ·split at h
   ·rename_i r hb; cases h
    have:=fC E w 20 t _ _ r hb 10000 (by decide)
    simp only [rv] at this
    simp only [binOp,v7,Op.equal,Op.maxDepth,this,y4,rv]
    rfl
   ·cases h
  ·split at h
   ·rename_i r hb; cases h
    have:=fC E w 20 t _ _ r hb 10000 (by decide)
    simp only [rv] at this
    simp only [binOp,v7,Op.equal,Op.maxDepth,this,y4,rv]
    rfl
   ·cases h
  ·cases h
 ·
  simp only [rv,v7]
  rw [C3 (by simp) (by simp)]
  simp only [y4]
  split at h
  ·rename_i hu
   split at h
   ·cases h
    simp only [binOp,v7,Op.equal,Op.maxDepth,U0 9999 hu,y4,rv]
    rfl
   ·cases h
    simp only [binOp,v7,Op.equal,Op.maxDepth,U0 9999 hu,y4,rv]
    rfl
   ·cases h
  ·cases h
 ·split at h
  ·rename_i hp
   simp only [A9] at hp
   rw [D0 E _ hp.1,D0 E _ hp.2]
   exact bE h E w
  ·cases h
end
noncomputable section
def j1z (P:Program) (t:TypeId):Option Value:=
 match gA P t with
 | none=>none
 | some i=>match i.zero with
  | none=>none
  | some z=>match D3 z with
   | true=>some z
   | false=>none
theorem iP {P:Program} {t:TypeId} {z:Value} (h:j1z P t=some z):(∀ w,(zeroValue t).run P w= .ok z w)∧D3 z=true:=by
 unfold j1z at h
 simp only [B0] at h
 split at h
 case h_1=>cases h
 rename_i i hi
 split at h
 case h_1=>cases h
 rename_i z' hz
 split at h
 case h_2=>cases h
 rename_i hp
 cases h
 exact⟨fun w=>by simp [zeroValue,typeInfo,hi,hz],hp⟩
theorem xO {P:Program} {t:TypeId} {v:Value} {w:World} :(newVar t v).run P w= .ok ⟨w.heap.size,0,none⟩ (w.alloc (.cells v.cells t)):=by
 simp only [newVar,newRow,v7,newObj,Sem.run,y4]
 rfl
theorem pJ {P:Program} {B:Nat} {M:Nat->Prop} {E:Num} {H:Heap} {w:World} (hS:Sim P B M E H w) {n:Nat} (hn:E n=some w.heap.size) (hB:B<=w.heap.size) (t:TypeId) (v:Value):
  Sim P B M E ((n, .cells v.cells.toList t) ::H) (w.alloc (.cells (rv E v).cells t)):=by
 refine hS.new hn ⟨w.heap.size,rfl,?_, .inl hB⟩
 rw [x0m]
 have:(rv E v).cells=(rvL E v.cells.toList).toArray:=by
  rw [N7,o9,<- zE]
 rw [this]
theorem o1b:∀ (vs:List Value) (off k:Nat) (cells:List Value),off+k+vs.length<=cells.length->
  (vs.zipIdx k).foldl (fun (cs:Array Value) (p:Value×Nat)=>cs.setIfInBounds (off+p.2) p.1) ⟨cells⟩=⟨cells.take (off+k)++vs++cells.drop (off+k+vs.length)⟩
 | [],off,k,cells,_=>by simp
 | v ::vs,off,k,cells,h=>by
  simp only [List.zipIdx_cons,zC]
  have hset:(⟨cells⟩:Array Value).setIfInBounds (off+k) v=⟨cells.set (off+k) v⟩:=by simp
  rw [hset,o1b vs off (k+1) _ (by simp at h ⊢; omega)]
  have:=list_seg_step cells (off+k) v vs (by simp at h; omega)
  congr 1
def p0f (place:Nat->Option (Nat×Nat)) (cells:List Value):List (Nat×Value)->Option (List Value)
 | [] =>some cells
 | (i,v) ::rest=>match place i with
  | none=>none
  | some (off,size)=>match zO0 v.cells.toList.length size && Nat.ble (off+v.cells.toList.length) cells.length with
   | true=>p0f place (cells.take off++v.cells.toList++cells.drop (off+v.cells.toList.length)) rest
   | false=>none
theorem aQ (E:Num) (place:Nat->Option (Nat×Nat)):∀ (parts:List (Nat×Value)) (cells out:List Value),p0f place cells parts=some out->
  Instr.fill place (rvL E cells).toArray (parts.map fun p=>(p.1,rv E p.2))=some (rvL E out).toArray
 | [],cells,out,h=>by simp only [p0f] at h; cases h; rfl
 | (i,v) ::rest,cells,out,h=>by
  simp only [p0f] at h
  split at h
  case h_1=>cases h
  rename_i off size hp
  split at h
  case h_2=>cases h
  rename_i hc
  simp only [A9,B7,V1] at hc
  obtain⟨h1,h2⟩:=hc
  have ih:=aQ E place rest _ out h
  have hvl:(rv E v).cells.size=v.cells.toList.length:=by rw [N7]; simp
  have hcl:(rvL E cells).toArray.size=cells.length:=by simp [o9]
  simp only [p0v,Instr.fill,hp]
  rw [a7 (by simp only [hvl,hcl,h1,xX,aI]; omega)]
  have hf:=o1b (rv E v).cells.toList off 0 (rvL E cells) (by rw [cB,hvl,o9]; simpa using h2)
  have hz:((rv E v).cells.zipIdx).foldl (fun (cs:Array Value) (p:Value×Nat)=>cs.setIfInBounds (off+p.2) p.1) (rvL E cells).toArray=⟨(rvL E cells).take (off+0)++(rv E v).cells.toList++(rvL E cells).drop (off+0+(rv E v).cells.toList.length)⟩:=by
   rw [<- Array.foldl_toList,Array.toList_zipIdx]
   exact hf
  have hgoal:(⟨(rvL E cells).take (off+0)++(rv E v).cells.toList++(rvL E cells).drop (off+0+(rv E v).cells.toList.length)⟩:Array Value)=(rvL E (cells.take off++v.cells.toList++cells.drop (off+v.cells.toList.length))).toArray:=by
   congr 1
   simp only [o9,qR,fN,iO,N7,I1,zE,D1]
  rw [hgoal] at hz
  rw [<- ih,<- hz]
def nO (ev:Operand->Option Value):List (Nat×Operand)->Option (List (Nat×Value))
 | [] =>some []
 | (i,x) ::r=>match ev x,nO ev r with
  | some v,some l=>some ((i,v) ::l)
  | _,_=>none
theorem aL {ev:Operand->Option Value} {a:Operand->Value} {E:Num} :∀ (l:List (Nat×Operand)) (r:List (Nat×Value)),(∀ p∈l,∀ y,ev p.2=some y->a p.2=rv E y)->nO ev l=some r->
  l.map (fun p=>(p.1,a p.2))=r.map fun p=>(p.1,rv E p.2)
 | [],r,_,h=>by simp only [nO] at h; cases h; rfl
 | (i,x) ::l,r,he,h=>by
  simp only [nO] at h
  split at h
  ·rename_i v l' hv hl'
   cases h
   simp [he (i,x) (by simp) v hv,aL l l' (fun p hp=>he p (by simp [hp])) hl']
  ·cases h
def fX (ev:Operand->Option Value):List Operand->Option (List Value)
 | [] =>some []
 | x ::r=>match ev x,fX ev r with
  | some v,some l=>some (v ::l)
  | _,_=>none
theorem z7 {ev:Operand->Option Value} {a:Operand->Value} {E:Num} :∀ (l:List Operand) (r:List Value),(∀ x∈l,∀ y,ev x=some y->a x=rv E y)->fX ev l=some r->l.map a=rvL E r
 | [],r,_,h=>by simp only [fX] at h; cases h; rfl
 | x ::l,r,he,h=>by
  simp only [fX] at h
  split at h
  ·rename_i v l' hv hl'
   cases h
   simp [he x (by simp) v hv,z7 l l' (fun p hp=>he p (by simp [hp])) hl',rvL]
  ·cases h
def j0o (P:Program):List Field->Option (List (Nat×Nat))
 | [] =>some []
 | f ::r=>match gA P f.type,j0o P r with
  | some i,some l=>some ((f.offset,i.size) ::l)
  | _,_=>none
theorem pS {P:Program} :∀ (fs:List Field) (l:List (Nat×Nat)),j0o P fs=some l->∀ w,(fs.mapM fun f=>(do pure (f.offset,<- sizeOf f.type):Sem (Nat×Nat))).run P w= .ok l w
 | [],l,h,w=>by simp only [j0o] at h; cases h; rfl
 | f ::fs,l,h,w=>by
  simp only [j0o,B0] at h
  split at h
  ·rename_i i l' hi hl'
   cases h
   have ih:=pS fs l' hl' w
   simp only [List.mapM_cons,v7,s5 hi,y4,V3,ih]
  ·cases h
def o0q (P:Program) (t:TypeId) (parts:List (Nat×Value)):Option Value:=
 match j1z P t with
 | none=>none
 | some z=>match bC P t with
  | some (.struct fs)=>match j0o P fs.toList with
   | none=>none
   | some places=>match p0f (fun i=>places[i]?) z.cells.toList parts with
    | some cs=>some (.agg ⟨cs⟩)
    | none=>none
  | some (.array _ e)=>match gA P e with
   | none=>none
   | some i=>match p0f (fun j=>some (j*i.size,i.size)) z.cells.toList parts with
    | some cs=>some (.agg ⟨cs⟩)
    | none=>none
  | _=>none
theorem t0k {z:Value} (h:D3 z=true) (E:Num):rvL E z.cells.toList=z.cells.toList:=by
 have:=N7 E z
 rw [D0 E z h] at this
 rw [o9,<- zE,<- this]
theorem f0s {P:Program} {t:TypeId} {parts:List (Nat×Value)} {v:Value} (h:o0q P t parts=some v) (E:Num) (w:World):
  (Instr.build t (parts.map fun p=>(p.1,rv E p.2)).toArray).run P w= .ok (rv E v) w:=by
 unfold o0q at h
 simp only [A8,B0] at h
 split at h
 case h_1=>cases h
 rename_i z hz
 obtain⟨hz1,hz2⟩:=iP hz
 have hzc:(⟨rvL E z.cells.toList⟩:Array Value)=z.cells:=by rw [t0k hz2]
 split at h
 ·rename_i fs hu
  split at h
  case h_1=>cases h
  rename_i places hp
  split at h
  case h_2=>cases h
  rename_i cs hc
  cases h
  have hm:=pS _ _ hp w
  have hf:=aQ E _ parts z.cells.toList cs hc
  rw [show (rvL E z.cells.toList).toArray=z.cells from hzc] at hf
  simp only [Instr.build,v7,hz1,y4,V0 hu]
  rw [Array.mapM_eq_mapM_toList]
  simp only [Sem.run_map,hm,y4]
  have hpl:(fun i:Nat=>places.toArray[i]?)=fun i:Nat=>places[i]? :=by funext i; simp
  rw [hpl,hf]
  simp [rv,rvA]
 ·rename_i n e hu
  split at h
  case h_1=>cases h
  rename_i i hi
  split at h
  case h_2=>cases h
  rename_i cs hc
  cases h
  have hf:=aQ E _ parts z.cells.toList cs hc
  rw [show (rvL E z.cells.toList).toArray=z.cells from hzc] at hf
  simp only [Instr.build,v7,hz1,y4,V0 hu,s5 hi,hf]
  simp [rv,rvA]
 ·cases h
def rep (z:List Value):Nat->List Value
 | 0=>[]
 | n+1=>z++rep z n
def dG (P:Program) (t:TypeId) (len:Nat) (parts:List (Nat×Value)):Option (TypeId×List Value):=
 match bC P t with
 | some (.slice e)=>match gA P e,j1z P e with
  | some i,some z=>
   match zO0 i.size z.cells.toList.length && Nat.ble (len*i.size) 16777216 && !(zO0 (len*i.size) 0) with
   | false=>match zO0 len 0,parts with
    | true,[] =>some (e,[])
    | _,_=>none
   | true=>match p0f (fun j=>some (j*i.size,i.size)) (rep z.cells.toList len) parts with
    | some cs=>some (e,cs)
    | none=>none
  | _,_=>none
 | _=>none
theorem n1r (z:List Value) (hz:0 < z.length):∀ (n i:Nat),i < n*z.length->(rep z n)[i]? =z[i%z.length]?
 | 0,i,h=>by simp at h
 | n+1,i,h=>by
  simp only [rep]
  by_cases hi:i < z.length
  ·rw [i1h hi,G7 hi]
  ·rw [e0d (by omega),n1r z hz n (i-z.length) (by rw [A7] at h; omega)]
   congr 1
   rw [v1o (by omega:i>=z.length)]
theorem b0l (z:List Value):∀ n,(rep z n).length=n*z.length
 | 0=>by simp [rep]
 | n+1=>by simp [rep,b0l z n,Nat.add_mul]; omega
theorem k2k (z:Array Value) (hz:0 < z.size) (n:Nat):(Array.range (n*z.size)).map (fun j=>z[j%z.size]!)=(rep z.toList n).toArray:=by
 apply Array.ext_getElem?
 intro i
 by_cases h:i < n*z.size
 ·have hm:i%z.size < z.size:=F7 _ hz
  have:=n1r z.toList (by simpa using hz) n i (by simpa using h)
  simp only [cB] at this
  simp [h,this,hm]
 ·have h1:(rep z.toList n).length=n*z.size:=by simp [b0l]
  rw [Array.getElem?_eq_none (by simp; omega),List.getElem?_toArray,e0l (by omega)]
theorem f1i (E:Num) (z:List Value) (h:rvL E z=z):∀ n,rvL E (rep z n)=rep z n
 | 0=>by simp [rep,rvL]
 | n+1=>by
  have ih:=f1i E z h n
  rw [o9] at h ih
  simp only [rep,o9,qR,ih,h]
theorem jQ {P:Program} {t e:TypeId} {len:Nat} {parts:List (Nat×Value)} {cs:List Value} (h:dG P t len parts=some (e,cs)) (E:Num) (w:World):
  (Instr.buildSlice t len (parts.map fun p=>(p.1,rv E p.2)).toArray).run P w= .ok (.slice (some ⟨w.heap.size,0,none⟩) len len) (w.alloc (.cells (rvL E cs).toArray e)):=by
 unfold dG at h
 simp only [A8,B0] at h
 split at h
 case h_2=>cases h
 rename_i e' hu
 split at h
 case h_2=>cases h
 rename_i i z hi hz
 obtain⟨hz1,hz2⟩:=iP hz
 split at h
 ·split at h
  case h_2=>cases h
  rename_i h0
  cases h
  have h0:=xY h0
  subst h0
  have e0:Instr.fill (fun j=>some (j*i.size,i.size)) ((Array.range 0).map (fun x=>(#[] :Array Value)[x%(#[] :Array Value).size]!)) [] =some #[] :=by
   have:Array.range 0= #[] :=rfl
   rw [this]
   simp [Instr.fill]
  simp only [Instr.buildSlice,v7,V0 hu,y4,s5 hi,K8,List.map_nil]
  rw [a7 (by decide),f9 trivial]
  simp only [v7,V3,y4]
  rw [e0]
  simp only [v7,newRow,newObj,Sem.run,y4]
  rfl
 rename_i hc
 simp only [A9,B7,V1,o0s] at hc
 obtain⟨⟨h1,h2⟩,h3⟩:=hc
 have h3:len*i.size≠0:=fun e=>by rw [e] at h3; simp at h3
 split at h
 case h_2=>cases h
 rename_i cs' hf
 cases h
 have hzs:0 < z.cells.size:=by
  rcases Q5 z.cells.size with h | h
  ·rw [cB,h] at h1; rw [h1] at h3; simp at h3
  ·exact h
 have hff:=aQ E _ parts _ _ hf
 rw [f1i E _ (t0k hz2 E) len] at hff
 have hr:=k2k z.cells hzs len
 have hsz:i.size=z.cells.size:=by rw [h1]; simp
 simp only [Instr.buildSlice,v7,V0 hu,y4,s5 hi]
 rw [a7 (by omega),a7 h3]
 simp only [v7,hz1,y4,V3,hsz,hr]
 rw [hsz] at hff
 rw [hff]
 simp only [v7,newRow,newObj,Sem.run,y4]
 rfl
def c0l (auto:Bool) (s:ByteArray) (lo hi:Option Value):Option (Value×List Prop):=
 match lo,hi with
 | none,none=>some (.string s,[])
 | some (.int _ l),none=>match P9 auto (0<=l∧l<=s.data.toList.length) with
  | some ps=>some (.string ⟨⟨s.data.toList.drop l.toNat⟩⟩,ps)
  | none=>none
 | none,some (.int _ h)=>match P9 auto (0<=h∧h<=s.data.toList.length) with
  | some ps=>some (.string ⟨⟨s.data.toList.take h.toNat⟩⟩,ps)
  | none=>none
 | some (.int _ l),some (.int _ h)=>match P9 auto ((0<=h∧h<=s.data.toList.length)∧0<=l∧l<=h) with
  | some ps=>some (.string ⟨⟨(s.data.toList.take h.toNat).drop l.toNat⟩⟩,ps)
  | none=>none
 | _,_=>none
theorem V5 (s:ByteArray) (a b:Nat):s.extract a b=⟨⟨(s.data.toList.take b).drop a⟩⟩:=by
 apply ByteArray.ext
 apply gZ
 simp [List.extract_eq_take_drop,List.drop_take]
theorem O2 {P:Program} {k:IntKind} {i:Int} {y:Nat} {code:BoundsCode} (h0:0<=i) (h1:i<=y) (w:World):(Instr.sliceBound (.int k i) y code).run P w= .ok i.toNat w:=by
 simp [Instr.sliceBound,asIntOf,h0,h1]
theorem yI {P:Program} {auto:Bool} {t:TypeId} {s:ByteArray} {lo hi:Option Value} {v:Value} {l:List Prop} (hu:P.underlying t=some .string) (h:c0l auto s lo hi=some (v,l)) (hl:l5 l) (E:Num) (w:World):
  (Instr.sliceAt t (.string s) (lo.map (rv E)) (hi.map (rv E)) none).run P w= .ok (rv E v) w:=by
 have hsz:s.size=s.data.toList.length:=rfl
 unfold c0l at h
 split at h
 ·cases h
  simp only [Instr.sliceAt,Instr.slice,v7,V0 hu,y4,o0t,r1j,Instr.sliceBounds,pure_bind,V3,O6,E7,rv]
  rw [V5,hsz,r8,U8]
 ·rename_i k i
  split at h
  case h_2=>cases h
  rename_i ps hn
  cases h
  obtain⟨h0,h1⟩:=n7 hn hl
  have:=O2 (P:=P) (k:=k) (y:=s.size) (code:= .sliceB) h0 (by rw [hsz]; exact h1) w
  simp only [Instr.sliceAt,Instr.slice,v7,V0 hu,y4,o0t,E6,r1j,Instr.sliceBounds,pure_bind,V3,O6,E7,rv,this]
  rw [V5,hsz,r8]
 ·rename_i k i
  split at h
  case h_2=>cases h
  rename_i ps hn
  cases h
  obtain⟨h0,h1⟩:=n7 hn hl
  have:=O2 (P:=P) (k:=k) (y:=s.size) (code:= .sliceAlen) h0 (by rw [hsz]; exact h1) w
  simp only [Instr.sliceAt,Instr.slice,v7,V0 hu,y4,o0t,E6,r1j,Instr.sliceBounds,pure_bind,V3,O6,E7,rv,this]
  rw [V5,U8]
 ·rename_i k i k' j
  split at h
  case h_2=>cases h
  rename_i ps hn
  cases h
  obtain⟨⟨h0,h1⟩,h2,h3⟩:=n7 hn hl
  have e1:=O2 (P:=P) (k:=k') (y:=s.size) (code:= .sliceAlen) h0 (by rw [hsz]; exact h1) w
  have e2:=O2 (P:=P) (k:=k) (y:=j.toNat) (code:= .sliceB) h2 (by omega) w
  simp only [Instr.sliceAt,Instr.slice,v7,V0 hu,y4,E6,r1j,Instr.sliceBounds,pure_bind,V3,O6,E7,rv,e1,e2]
  rw [V5]
 ·cases h
def R8 (f:Int->Int->Int) (k:IntKind):Int->List Value->Option Int
 | a,[] =>some a
 | a, .int _ b ::r=>R8 f k (f a b) r
 | _,_=>none
def vY (P:Program) (b:Builtin) (ts:List TypeId) (args:List Value):Option Value:=
 match b,args with
 | .len,[x] =>match ts with
  | [t] =>match bC P t,x with
   | some .string, .string s=>some (.int .i64 s.data.toList.length)
   | some (.array n _),_=>some (.int .i64 n)
   | some (.slice _), .slice (some _) n _=>some (.int .i64 n)
   | some (.slice _), .slice none n _=>some (.int .i64 n)
   | some (.slice _), .chan (some _)=>some (.int .i64 0)
   | some (.slice _), .complex _ _ _=>some (.int .i64 0)
   | _,_=>none
  | _=>none
 | .cap,[x] =>match ts with
  | [t] =>match bC P t,x with
   | some (.slice _), .slice (some ⟨_,_,none⟩) _ c=>some (.int .i64 c)
   | some (.slice _), .slice none _ c=>some (.int .i64 c)
   | _,_=>none
  | _=>none
 | .min, .int k a ::r=>match R8 (fun x y=>if y < x then y else x) k a r with
  | some c=>some (.int k c)
  | none=>none
 | .max, .int k a ::r=>match R8 (fun x y=>if y > x then y else x) k a r with
  | some c=>some (.int k c)
  | none=>none
 | _,_=>none
theorem pE {P:Program} (E:Num) (w:World) (k:IntKind):∀ (r:List Value) (a c:Int),R8 (fun x y=>if y < x then y else x) k a r=some c->((rvL E r).foldlM Builtin.min2 (.int k a)).run P w= .ok (.int k c) w
 | [],a,c,h=>by simp only [R8] at h; cases h; rfl
 | v ::r,a,c,h=>by
  unfold R8 at h
  split at h
  ·rename_i heq; cases heq
  ·rename_i heq
   cases heq
   simp only [rvL,rv,List.foldlM_cons,Builtin.min2,v7,V3,y4]
   exact pE E w k _ _ _ h
  ·cases h
theorem pB {P:Program} (E:Num) (w:World) (k:IntKind):∀ (r:List Value) (a c:Int),R8 (fun x y=>if y > x then y else x) k a r=some c->((rvL E r).foldlM Builtin.max2 (.int k a)).run P w= .ok (.int k c) w
 | [],a,c,h=>by simp only [R8] at h; cases h; rfl
 | v ::r,a,c,h=>by
  unfold R8 at h
  split at h
  ·rename_i heq; cases heq
  ·rename_i heq
   cases heq
   simp only [rvL,rv,List.foldlM_cons,Builtin.max2,v7,V3,y4]
   exact pB E w k _ _ _ h
  ·cases h
theorem dP {P:Program} {b:Builtin} {ts:List TypeId} {args:List Value} {v:Value} (h:vY P b ts args=some v) (E:Num) (w:World) (ty:TypeId) (consts:Array Bool):
  (builtin b ts.toArray ty consts (rvL E args).toArray).run P w= .ok (.value (rv E v)) w:=by
 unfold vY at h
 simp only [A8] at h
 split at h
 ·rename_i x
  split at h
  case h_2=>cases h
  rename_i t
  split at h
  ·rename_i s hu; cases h; simp [builtin,Builtin.len_,rvL,rv,run_underlying hu,goInt]
  ·rename_i n e hu; cases h; simp [builtin,Builtin.len_,rvL,rv,run_underlying hu,goInt]
  ·rename_i e a n c hu
   cases h
   obtain⟨x,m,ex⟩:=vM E a n c
   simp [builtin,Builtin.len_,rvL,rv,ex,run_underlying hu,goInt]
  ·rename_i e n c hu; cases h; simp [builtin,Builtin.len_,rvL,rv,run_underlying hu,goInt]
  ·rename_i e m hu
   cases h
   obtain⟨a,q,ex⟩:=nQ E m
   simp [builtin,Builtin.len_,rvL,rv,ex,run_underlying hu,goInt]
  ·rename_i e kf fa fc hu
   cases h
   obtain⟨a,q,ex⟩:=mN E fa fc
   simp [builtin,Builtin.len_,rvL,rv,ex,run_underlying hu,goInt]
  ·cases h
 ·rename_i x
  split at h
  case h_2=>cases h
  rename_i t
  split at h
  ·rename_i hu; cases h; simp [builtin,Builtin.cap_,rvL,rv,rSl,run_underlying hu,goInt]
  ·rename_i hu; cases h; simp [builtin,Builtin.cap_,rvL,rv,run_underlying hu,goInt]
  ·cases h
 ·rename_i k a r
  split at h
  ·rename_i c hc
   cases h
   have:=pE (P:=P) E w k r a c hc
   simp only [builtin,Builtin.min_,rvL,rv,v7,this,y4,V3]
  ·cases h
 ·rename_i k a r
  split at h
  ·rename_i c hc
   cases h
   have:=pB (P:=P) E w k r a c hc
   simp only [builtin,Builtin.max_,rvL,rv,v7,this,y4,V3]
  ·cases h
 ·cases h
def h0x:List Value->Option (List Int)
 | [] =>some []
 | v ::r=>match v with
  | .int .u8 n=>match h0x r with
   | some l=>some (n ::l)
   | none=>none
  | _=>none
theorem uX (E:Num):∀ {l:List Value} {ns:List Int},h0x l=some ns->rvL E l=ns.map (zO2 .u8)
 | [],ns,h=>by simp only [h0x] at h; cases h; simp [rvL]
 | v ::r,ns,h=>by
  simp only [h0x] at h
  split at h
  ·split at h
   ·rename_i l hr
    cases h
    simp [rvL,rv,uX E hr]
   ·cases h
  ·cases h
def r0f (P:Program) (H:Heap) (s d:TypeId) (x:Value):Option Value:=
 match x with
 | .slice a len _=>match bC P s,bC P d with
  | some (.slice e),some .string=>match bC P e with
   | some (.int .u8)=>match a with
    | some ⟨id,off,_⟩=>match cC H id off len with
     | some cs=>match h0x cs with
      | some ns=>some (.string ⟨⟨ns.map fun n=>zO4 n.toNat⟩⟩)
      | none=>none
     | none=>none
    | none=>some (.string ⟨⟨[]⟩⟩)
   | _=>none
  | _,_=>none
 | _=>none
theorem b0q (ns:List Int):∀ b:ByteArray,ns.foldl (fun r n=>r.push (zO4 n.toNat)) b=⟨⟨b.data.toList++ns.map fun n=>zO4 n.toNat⟩⟩:=by
 induction ns with
 | nil=>intro b; cases b; simp
 | cons n ns ih=>
  intro b
  rw [zC,ih]
  simp [ByteArray.push]
theorem c0k {P:Program} {B:Nat} {M:Nat->Prop} {E:Num} {H:Heap} {w:World} (hS:Sim P B M E H w) {s d:TypeId} {x v:Value} (h:r0f P H s d x=some v):(convert s d (rv E x)).run P w= .ok (rv E v) w:=by
 unfold r0f at h
 simp only [A8] at h
 split at h
 case h_2=>cases h
 rename_i a len cap
 split at h
 case h_2=>cases h
 rename_i e hs hd
 split at h
 case h_2=>cases h
 rename_i he
 split at h
 case h_2=>
  cases h
  have:(convert s d (.slice none len cap)).run P w= .ok (.string .empty) w:=by
   unfold convert
   simp [run_underlying hs,run_underlying hd,run_underlying he,Conv.bytesToString]
  simp only [rv]
  exact this
 rename_i id off sp
 split at h
 case h_2=>cases h
 rename_i cs hcs
 split at h
 case h_2=>cases h
 rename_i ns hb
 cases h
 obtain⟨b,hb1,hlen,hcell⟩:=aC hS hcs
 have hsp:=uX E hb
 have hlen':(rvL E cs).length=len:=by rw [o9,D1]; exact hlen
 have hc:=i0x (P:=P) w ⟨b,off,none⟩ (rvL E cs) (fun j v hj=>by rw [v8]; exact hcell j v hj)
 rw [hlen',hsp] at hc
 have hrv:∃ c',rv E (.slice (some ⟨id,off,sp⟩) len cap)= .slice (some ⟨b,off,none⟩) len c':=by
  cases sp with
  | none=>exact⟨cap,by simp [rv,rSl,w8,hb1]⟩
  | some k=>exact⟨_,by simp [rv,rSl,hb1]; rfl⟩
 obtain⟨c',hrv⟩:=hrv
 rw [hrv,run_convert_bytes_string w s d e _ _ _ hs he hd,run_bytesToString w _ _ _ ns hc,b0q]
 simp [rv]
end
open Go Go.RowKit Go.Shelf
noncomputable section
inductive TV where
 | unk
 | v (x:Value)
 | sp (l:List (Nat×Bool)) (x:Value)
 | key (j:Nat) (l:List (Nat×Bool)) (b:Bool)
def D5 (ts:List TV) (t:Nat):TV:=match p1c ts t with
 | some x=>x
 | none=> .unk
theorem N8 (ts:List TV) (t:Nat):D5 ts t=match ts[t]? with
 | some x=>x
 | none=> .unk:=by
 unfold D5
 rw [gM]
def b2j (a b:Bool):Bool:=match a,b with
 | true,true=>true
 | false,false=>true
 | _,_=>false
def r2c (p:Nat×Bool):List (Nat×Bool)->Bool
 | [] =>false
 | q ::r=>(zO0 p.1 q.1 && b2j p.2 q.2) || r2c p r
def e2l:List (Nat×Bool)->List (Nat×Bool)->Bool
 | [],_=>true
 | p ::r,c=>r2c p c && e2l r c
def rd (c:List (Nat×Bool)):TV->Option Value
 | .unk=>none
 | .v x=>some x
 | .sp l x=>match e2l l c with
  | true=>some x
  | false=>none
 | .key _ l b=>match e2l l c with
  | true=>some (.bool b)
  | false=>none
def evo (ts:List TV) (c:List (Nat×Bool)):Operand->Option Value
 | .tmp t=>rd c (D5 ts t)
 | .const v=>match D3 v with
  | true=>some v
  | false=>none
 | .global g=>some (.pointer (some ⟨g,0,none⟩))
 | .func f=>some (.func (.func f) #[] #[])
def V (O:Nat->Bool) (l:List (Nat×Bool)):Prop:=∀ p∈l,O p.1=p.2
def M0 (E:Num) (O:Nat->Bool):TV->Value->Prop
 | .unk,_=>True
 | .v x,r=>r=rv E x
 | .sp l x,r=>(V O l->r=rv E x)∧(¬ V O l->r=undef)
 | .key j l b,r=>O j=b∧(V O l->r= .bool b)∧(¬ V O l->r=undef)
theorem o1d {a b:Bool} (h:b2j a b=true):a=b:=by cases a <;> cases b <;> simp_all [b2j]
theorem a0h {p:Nat×Bool} :∀ {c:List (Nat×Bool)},r2c p c=true->p∈c
 | [],h=>by simp [r2c] at h
 | q ::r,h=>by
  simp only [r2c,xX,A9] at h
  rcases h with ⟨h1,h2⟩ | h
  ·have e:p=q:=Prod.ext (xY h1) (o1d h2)
   rw [e]; exact xH
  ·exact gK _ (a0h h)
theorem Y0 {O:Nat->Bool} {c:List (Nat×Bool)} :∀ {l:List (Nat×Bool)},e2l l c=true->V O c->V O l
 | [],_,_=>fun p hp=>by cases hp
 | q ::r,h,hc=>by
  simp only [e2l,A9] at h
  intro p hp
  rcases zzA86.1 hp with rfl | hp
  ·exact hc _ (a0h h.1)
  ·exact Y0 h.2 hc p hp
theorem q1a {E:Num} {O:Nat->Bool} {c:List (Nat×Bool)} {x:TV} {v r:Value} (h:rd c x=some v) (hc:V O c) (hr:M0 E O x r):r=rv E v:=by
 cases x with
 | unk=>simp [rd] at h
 | v y=>simp only [rd] at h; cases h; exact hr
 | sp l y=>
  simp only [rd] at h
  split at h
  ·rename_i hs; cases h; exact hr.1 (Y0 hs hc)
  ·cases h
 | key j l b=>
  simp only [rd] at h
  split at h
  ·rename_i hs; cases h; simp only [rv]; exact hr.2.1 (Y0 hs hc)
  ·cases h
def Agree (n:Nat) (E E':Num):Prop:=∀ i,i < n->E' i=E i
theorem Agree.refl (n:Nat) (E:Num):Agree n E E:=fun _ _=>rfl
theorem Agree.trans {n m:Nat} {a b c:Num} (h:Agree n a b) (k:Agree m b c) (hnm:n<=m):Agree n a c:=fun i hi=>(k i (by omega)).trans (h i hi)
structure CR where
 v:Value
 h:Heap
 n:Nat
 obs:List Prop
 ds:List Bool
structure Inv (P:Program) where
 I:World->Prop
 st:∀ w w':World,(∀ k,k < P.globals.size->w'.heap[k]? =w.heap[k]?)->w.heap.size<=w'.heap.size->I w->I w'
 room:∀ w,I w->P.globals.size<=w.heap.size
 tabs:Heap
 tabsOk:∀ (w:World) (E:Num) (B:Nat) (M:Nat->Prop),I w->(∀ g,g < P.globals.size->E g=some g)->Sim P B M E tabs w
 tabsRo:∀ i o,tabs.get i=some o->o.rw=false
inductive Mk where
 | mark (i:Nat)
 | call (f:FuncId) (cap args:List Value)
structure St where
 tmps:List TV
 heap:Heap
 nid:Nat
 ds:List Bool
 obs:List Prop
 lp:Nat
 rd:Option Nat
 mks:List Mk
 bs:Nat
inductive AX where
 | normal
 | exit (id:Nat)
 | ret
def AX.toExit:AX->Exit
 | .normal=> .normal
 | .exit id=> .exit id
 | .ret=> .ret
structure Cx where
 P:Program
 J:Inv P
 auto:Bool
 pc:FuncId->List Value->Option (Value×List Prop)
 cl:FuncId->List Value->Heap->Nat->List Bool->Option CR
 xt:FuncId->List Value->Heap->Nat->Option CR
 rd:Code->St->Option (AX×St)
 gd:Bool
structure Par (P:Program) (B:Nat) (M:Nat->Prop):Prop where
 glo:P.globals.size<=B
 free:∀ k,k < P.globals.size->¬ M k
theorem Inv.keeps {P:Program} (J:Inv P) {B:Nat} {M:Nat->Prop} (hp:Par P B M) {w w':World} (h:Keeps B M w w') (hi:J.I w):J.I w':=
 J.st w w' (fun k hk=>h.block k (C8 hk hp.glo) (hp.free k hk)) h.size hi
def Pure (P:Program) (J:Inv P) (f:FuncId) (args:List Value) (v:Value):Prop:=
 pureL args=true∧D3 v=true∧((Enters P f∧∀ w,J.I w->Calls P f ⟨args⟩ w fun e w'=>e= .returned v∧Below w.heap.size w w')∨∀ w,J.I w->(callFunc f ⟨args⟩).run P w= .ok (.value v) w)
def U6 (P:Program) (J:Inv P) (pc:FuncId->List Value->Option (Value×List Prop)):Prop:=
 ∀ f args v l,pc f args=some (v,l)->l5 l->Pure P J f args v
def iS (P:Program) (J:Inv P) (cl:FuncId->List Value->Heap->Nat->List Bool->Option CR):Prop:=
 ∀ f args H n ds r,cl f args H n ds=some r->l5 r.obs->n<=r.n∧Enters P f∧∀ (B:Nat) (M:Nat->Prop) (E:Num) (w:World) (vs:List Value),Par P B M->B<=w.heap.size->J.I w->
  (∀ E',Agree n E E'->Sim P B M E' H w∧vs=rvL E' args)->
  Calls P f ⟨vs⟩ w fun e w'=>∃ ρ1 v,Agree n E ρ1∧e= .returned v∧Keeps B M w w'∧∀ E',Agree r.n ρ1 E'->v=rv E' r.v∧Sim P B M E' r.h w'
def i2e (P:Program) (J:Inv P) (xt:FuncId->List Value->Heap->Nat->Option CR):Prop:=
 ∀ f args H n r,xt f args H n=some r->l5 r.obs->n<=r.n∧∀ (B:Nat) (M:Nat->Prop) (E:Num) (w:World) (vs:List Value),Par P B M->B<=w.heap.size->J.I w->
  (∀ E',Agree n E E'->Sim P B M E' H w∧vs=rvL E' args)->
  ∃ ρ1 v w',Agree n E ρ1∧(callFunc f ⟨vs⟩).run P w= .ok (.value v) w'∧Keeps B M w w'∧∀ E',Agree r.n ρ1 E'->v=rv E' r.v∧Sim P B M E' r.h w'
def Cx.call (X:Cx) (f:FuncId) (args:List Value) (H:Heap) (n:Nat) (ds:List Bool):Option CR:=
 match X.xt f args H n with
 | some ⟨v,h,n',ob,_⟩=>some ⟨v,h,n',ob,ds⟩
 | none=>X.cl f args H n ds
def Does (P:Program) (f:FuncId) (vs:List Value) (w:World) (R:Ending->World->Prop):Prop:=
 (Enters P f∧Calls P f ⟨vs⟩ w R)∨∃ v w',(callFunc f ⟨vs⟩).run P w= .ok (.value v) w'∧R (.returned v) w'
structure Bas where
 w:World
 n:Nat
 E:Num
 dfs:List Deferred
def j0i:TV->Bool
 | .unk=>true
 | .v _=>true
 | _=>false
def Fl (rb:Option Nat):Fence:={ Fence.wide with round:=rb }
def mkD (E:Num):Mk->Deferred
 | .mark i=>⟨.collected ((E i).getD 0),#[]⟩
 | .call f cap args=>⟨.fn (.func f) ⟨rvL E cap⟩,⟨rvL E args⟩⟩
structure FR (E:Num) (rb:Option Nat) (s:St) (a:Act):Prop where
 defers:a.defers=s.mks.map (mkD E)
 round:rb=s.rd.bind E
structure Rep (P:Program) (J:Inv P) (B:Nat) (M:Nat->Prop) (w0:Bas) (rb:Option Nat) (s:St) (a:Act) (w:World):Prop where
 low:w0.n=s.bs
 plain:∀ t,j0i (D5 s.tmps t)=true
 size:a.tmps.size=s.tmps.length
 base:B<=w.heap.size
 inv:J.I w
 keeps:Keeps B M w0.w w
 rep:∃ E,(w0.n<=s.nid∧Agree w0.n w0.E E)∧∀ E',Agree s.nid E E'->Sim P B M E' s.heap w∧FR E' rb s a∧∀ t x,D5 s.tmps t= .v x->a.tmps.getD t undef=rv E' x
def d3i (P:Program) (J:Inv P) (rd:Code->St->Option (AX×St)):Prop:=
 ∀ c s x s',rd c s=some (x,s')->l5 s'.obs->l5 s.obs∧∀ (B:Nat) (M:Nat->Prop) (w0:Bas) (rb:Option Nat) (a:Act) (w:World),Par P B M->Rep P J B M w0 rb s a w->
  ∀ Q:Exit->Act->World->Prop,(∀ a' w',Rep P J B M w0 rb s' a' w'->Q x.toExit a' w')->c.wpIn (Fl rb) 0 P Q a w
structure CxOk (X:Cx) (J:Inv X.P):Prop where
 pc:U6 X.P J X.pc
 cl:iS X.P J X.cl
 xt:i2e X.P J X.xt
 rd:d3i X.P J X.rd
 tabs:∀ (w:World) (E:Num) (B:Nat) (M:Nat->Prop),J.I w->(∀ g,g < X.P.globals.size->E g=some g)->Sim X.P B M E X.J.tabs w
 ro:∀ i o,X.J.tabs.get i=some o->o.rw=false
theorem nI {rb:Option Nat} {n:Nat} {P:Program} {f:FuncId} {args:Array Value} {w:World} {R:Ending->World->Prop} (h:Calls P f args w R):CallsIn (Fl rb) n P f args w R:=by
 cases rb with
 | none=>exact callsIn_wide.2 h
 | some l=>exact CallsIn.inRound l (callsIn_wide.2 h)
theorem lI {rb:Option Nat} {P:Program} {o:Oper} {w:World} {E:Operand->Value} :∀ f,o.about P w E=some f->(Fl rb).fn f:=fun _ _=>trivial
theorem J5 {rb:Option Nat} {P:Program} {o:Oper} {a:Act} {w:World} {K:Act->World->Prop} {Q:Exit->Act->World->Prop} (hnd:∀ c,o.op≠ .defer c)
  (h:o.uponIn (Fl rb) 0 P a K Q ((execOp a.eval o).run P w)):o.wpIn (Fl rb) 0 P a w K Q:=
 ⟨lI,by rw [Oper.semAt_eq _ _ _ hnd]; exact h⟩
theorem b0i {X:Cx} {J:Inv X.P} (hX:CxOk X J) {f:FuncId} {args:List Value} {H:Heap} {n:Nat} {ds:List Bool} {r:CR} (h:X.call f args H n ds=some r) (hl:l5 r.obs):
  n<=r.n∧∀ (B:Nat) (M:Nat->Prop) (E:Num) (w:World) (vs:List Value),Par X.P B M->B<=w.heap.size->J.I w->(∀ E',Agree n E E'->Sim X.P B M E' H w∧vs=rvL E' args)->
  Does X.P f vs w fun e w'=>∃ ρ1 v,Agree n E ρ1∧e= .returned v∧Keeps B M w w'∧∀ E',Agree r.n ρ1 E'->v=rv E' r.v∧Sim X.P B M E' r.h w':=by
 unfold Cx.call at h
 split at h
 ·rename_i v0 h0 n' ob ds' hx
  cases h
  obtain⟨h1,h2⟩:=hX.xt _ _ _ _ _ hx hl
  refine⟨h1,fun B M E w vs hp hB hI hS=> ?_⟩
  obtain⟨ρ1,v,w',q1,q2,q3,q4⟩:=h2 B M E w vs hp hB hI hS
  exact .inr ⟨v,w',q2,ρ1,v,q1,rfl,q3,q4⟩
 ·obtain⟨h1,h2,h3⟩:=hX.cl _ _ _ _ _ _ h hl
  exact⟨h1,fun B M E w vs hp hB hI hS=> .inl ⟨h2,h3 B M E w vs hp hB hI hS⟩⟩
theorem Does.mono {P:Program} {f:FuncId} {vs:List Value} {w:World} {R R':Ending->World->Prop} (h:Does P f vs w R) (hh:∀ e w',R e w'->R' e w'):Does P f vs w R':=by
 rcases h with ⟨h1,h2⟩ | ⟨v,w',h1,h2⟩
 ·exact .inl ⟨h1,h2.mono hh⟩
 ·exact .inr ⟨v,w',h1,hh _ _ h2⟩
theorem i0h {rb:Option Nat} {P:Program} {o:Oper} {a:Act} {w:World} {K:Act->World->Prop} {Q:Exit->Act->World->Prop} {f:FuncId} {vs:List Value} (hnd:∀ c,o.op≠ .defer c)
  (hrun:(execOp a.eval o).run P w=(callFunc f ⟨vs⟩).run P w) (hd:Does P f vs w fun e w'=>∃ v,e= .returned v∧K (a.put o.dst v) w'):o.wpIn (Fl rb) 0 P a w K Q:=by
 refine J5 hnd ?_
 rcases hd with ⟨hent,hc⟩ | ⟨v,w',h1,h2⟩
 ·rw [hrun,hent _ _,Oper.uponIn_enter]
  refine⟨fun h=>(by cases h),nI (hc.mono fun e w' hh=> ?_)⟩
  obtain⟨v,he,hk⟩:=hh
  subst he
  exact hk
 ·rw [hrun,h1,qV]
  obtain⟨v',he,hk⟩:=h2
  cases he
  exact hk
def M3:Op->Bool
 | .move _=>true
 | .assign _=>true
 | .build _ _=>true
 | .load _ _=>true
 | .nilCheck _=>true
 | .binOp _ _ _ _ _=>true
 | .unOp _ _ _=>true
 | .convert _ _ _=>true
 | .makeInterface _ _=>true
 | .makeFunc _ _ _=>true
 | .slice _ _ _ _ _=>true
 | .fieldAddr _ _ _=>true
 | .field _ _ _=>true
 | .indexAddr _ _ _=>true
 | .index _ _ _=>true
 | .extract _ _=>true
 | .lookup _ _ _ _=>true
 | _=>false
structure R where
 v:Value
 h:Heap
 obs:List Prop
 ds:List Bool
def mkR (H:Heap) (ds:List Bool) (x:Option Value):Option R:=
 match x with
 | some v=>some ⟨v,H,[],ds⟩
 | none=>none
def d1a (H:Heap) (ds:List Bool) (x:Option (Value×List Prop)):Option R:=
 match x with
 | some (v,l)=>some ⟨v,H,l,ds⟩
 | none=>none
def m0c (P:Program) (t:TypeId):Bool:=
 match bC P t with
 | none=>false
 | some (.interface _)=>false
 | some _=>true
def n2g (ev:Operand->Option Value):Option Operand->Option (Option Value)
 | none=>some none
 | some x=>match ev x with
  | some v=>some (some v)
  | none=>none
def bnd (v:Option Value) (d:Nat):Option Int:=
 match v with
 | none=>some d
 | some (.int _ i)=>some i
 | _=>none
theorem t0a (E:Num) {v:Option Value} {d:Nat} {i:Int} (h:bnd v d=some i):v.map (rv E)=v:=by
 unfold bnd at h
 split at h
 ·rfl
 ·simp [rv]
 ·cases h
theorem z0p {v:Value} (h:D3 v=true):∀ x∈v.cells.toList,D3 x=true:=by
 cases v with
 | agg cs=>
  obtain⟨l⟩:=cs
  simp only [D3,pureA] at h
  rw [J1,zzA41] at h
  exact h
 | _=>intro x hx; simp only [Value.cells,zzA86,V2,U7] at hx; subst hx; exact h
def lF (P:Program) (auto:Bool) (H:Heap) (e:TypeId) (a:Option Addr) (n c:Nat) (lo hi:Option Value):Option (Value×List Prop):=
 match bnd lo 0,bnd hi n,gA P e with
 | some l,some h,some inf=>match a with
  | none=>match P9 auto (0<=l∧l<=h∧h<=c) with
   | some ob=>some (.slice none (h.toNat-l.toNat) (c-l.toNat),ob)
   | none=>none
  | some ⟨id,off,none⟩=>match P9 auto (0<=l∧l<=h∧h<=c) with
   | some ob=>match lo with
    | none=>some (.slice (some ⟨id,off,none⟩) h.toNat c,ob)
    | some _=>match zO0 c l.toNat with
     | true=>some (.slice (some ⟨id,off,none⟩) (h.toNat-l.toNat) (c-l.toNat),ob)
     | false=>some (.slice (some ⟨id,s4 off (R3 l.toNat inf.size),none⟩) (h.toNat-l.toNat) (c-l.toNat),ob)
   | none=>none
  | some ⟨id,off,some k⟩=>match auto with
   | true=>match off,c,H.get id with
    | 0,0,some (.row _ sz r k')=>match zO0 k k' && zO1 0 sz,P9 true (l=0∧0<=h∧h<=n∧h.toNat*sz<=r.list.length) with
     | true,some ob=>some (.slice (some ⟨id,0,some k⟩) h.toNat 0,ob)
     | _,_=>none
    | _,_,_=>none
   | false=>match H.get id with
    | some (.row _ sz r k')=>match zO0 k k' && zO1 0 sz && zO0 inf.size sz with
     | true=>match lo with
      | none=>some (.slice (some ⟨id,off,some k⟩) h.toNat c,[off=c*sz∧0<=h∧off+h.toNat*sz<=r.len])
      | some _=>some (.slice (some ⟨id,s4 off (R3 l.toNat sz),some k⟩) (h.toNat-l.toNat) (s4 c l.toNat),[off=c*sz∧0<=l∧l<=h∧(l=0∨l < h)∧off+h.toNat*sz<=r.len])
     | false=>none
    | _=>none
 | _,_,_=>none
theorem m0b {P:Program} {auto:Bool} {H:Heap} {e:TypeId} {a:Option Addr} {n c:Nat} {lo hi:Option Value} {r:Value×List Prop} {E:Num} (h:lF P auto H e a n c lo hi=some r):lo.map (rv E)=lo∧hi.map (rv E)=hi:=by
 unfold lF at h
 simp only [B0] at h
 split at h
 case h_2=>cases h
 rename_i hlo hhi _
 exact⟨t0a E hlo,t0a E hhi⟩
def qS (z:List Value):Nat->List Value
 | 0=>[]
 | c+1=>z++qS z c
def i1j (P:Program) (auto:Bool) (t:TypeId) (l c:Int):Option (TypeId×List Value×List Prop):=
 match bC P t with
 | some (.slice e)=>match gA P e with
  | some inf=>match inf.zero with
   | some z=>match D3 z && zO0 z.cells.size inf.size,P9 auto (0<=l∧l<=c∧(inf.bytes:Int)*c<=281474976710656∧c<=9223372036854775807) with
    | true,some ob=>some (e,qS z.cells.toList c.toNat,ob)
    | _,_=>none
   | none=>none
  | none=>none
 | _=>none
theorem pR (z:List Value):∀ c,(qS z c).length=c*z.length
 | 0=>by simp [qS]
 | c+1=>by rw [qS,G8,pR z c,A7,P7,g0x]
theorem i0n (z:List Value):∀ (c j:Nat),j < c*z.length->(qS z c)[j]? =z[j%z.length]?
 | 0,j,h=>by omega
 | c+1,j,h=>by
  rw [qS]
  rcases J4 j z.length with hj | hj
  ·rw [i1h hj,G7 hj]
  ·rw [e0d hj,i0n z c _ (by rw [A7,P7] at h; omega),<- v1o hj]
theorem v0k {z:Array Value} {s c:Nat} (hs:z.size=s):madeCells z (c*s)=(qS z.toList c).toArray:=by
 subst hs
 apply gZ
 apply h1z
 intro j
 simp only [madeCells,zE,Array.toList_range,Z3]
 rcases J4 j (c*z.size) with hj | hj
 ·rw [List.getElem?_range hj,i0n _ _ _ (by simpa using hj)]
  have hz:0 < z.size:=by
   rcases Q5 z.size with h | h
   ·rw [h,lM] at hj; omega
   ·exact h
  have hm:j%z.size < z.size:=F7 _ hz
  simp [hm,getElem!_pos]
 ·rw [e0l (by simpa using hj),e0l (by rw [pR]; simpa using hj)]
  rfl
theorem j0h {P:Program} {auto:Bool} {t e:TypeId} {l c:Int} {cs:List Value} {ob:List Prop} (h:i1j P auto t l c=some (e,cs,ob)) (hl:l5 ob) (kl kc:IntKind) (w:World):
  (Instr.makeSlice t (.int kl l) (.int kc c)).run P w= .ok (.slice (some ⟨w.heap.size,0,none⟩) l.toNat c.toNat) (w.alloc (.cells cs.toArray e))∧∀ E,rvL E cs=cs:=by
 unfold i1j at h
 simp only [A8,B0] at h
 split at h
 case h_2=>cases h
 rename_i e' ht
 split at h
 case h_2=>cases h
 rename_i inf hi
 split at h
 case h_2=>cases h
 rename_i z hz
 split at h
 case h_2=>cases h
 rename_i ob' hp hneed
 cases h
 simp only [A9,B7] at hp
 obtain⟨h1,h2,h3,h4⟩:=n7 hneed hl
 have:=run_make (P:=P) w t e inf z ht hi hz kl kc l c h1 h2 h3 h4
 rw [v0k hp.2] at this
 refine⟨this,fun E=>rvL_pure E _ ?_⟩
 have hz:∀ x∈z.cells.toList,D3 x=true:=z0p hp.1
 rw [J1,zzA41]
 intro x hx
 generalize c.toNat=k at hx
 induction k with
 | zero=>cases hx
 | succ k ih=>
  rw [qS] at hx
  rcases zzA94.1 hx with hx | hx
  ·exact hz x hx
  ·exact ih hx
theorem M1 {P:Program} {w:World} {k:IntKind} {i:Int} {y:Nat} {code:BoundsCode} (h:0<=i∧i<=y):(Instr.sliceBound (.int k i) y code).run P w= .ok i.toNat w:=by
 simp [Instr.sliceBound,asIntOf,h]
theorem M4 {P:Program} {w:World} {len cap:Nat} {lo hi:Option Value} {l h:Int} (hlo:bnd lo 0=some l) (hhi:bnd hi len=some h) (hb:0<=l∧l<=h∧h<=cap) (hlen:hi=none->True) (isS:Bool):
  (Instr.sliceBounds isS len cap lo hi none).run P w= .ok (l.toNat,h.toNat,cap) w:=by
 unfold Instr.sliceBounds
 cases lo with
 | none=>
  simp only [bnd] at hlo
  cases hlo
  cases hi with
  | none=>
   simp only [bnd] at hhi
   cases hhi
   simp
  | some v=>
   cases v <;> simp only [bnd] at hhi <;> first | (cases hhi; done) | skip
   cases hhi
   simp [M1 (P:=P) (w:=w) (show 0<=h∧h<=(cap:Int) by omega)]
 | some v0=>
  cases v0 <;> simp only [bnd] at hlo <;> first | (cases hlo; done) | skip
  cases hlo
  cases hi with
  | none=>
   simp only [bnd] at hhi
   cases hhi
   simp [M1 (P:=P) (w:=w) (show 0<=l∧l<=(len:Int) by omega)]
  | some v=>
   cases v <;> simp only [bnd] at hhi <;> first | (cases hhi; done) | skip
   cases hhi
   simp [M1 (P:=P) (w:=w) (show 0<=h∧h<=(cap:Int) by omega),M1 (P:=P) (w:=w) (y:=h.toNat) (i:=l) (show 0<=l∧l<=((h.toNat:Nat):Int) by omega)]
theorem yH {P:Program} {auto:Bool} {B:Nat} {M:Nat->Prop} {E:Num} {H:Heap} {w:World} (hS:Sim P B M E H w) {t e:TypeId} {a:Option Addr} {n c:Nat} {lo hi:Option Value} {v:Value} {ob:List Prop}
  (h:lF P auto H e a n c lo hi=some (v,ob)) (hl:l5 ob) (ht:P.underlying t=some (.slice e)):(Instr.sliceAt t (rv E (.slice a n c)) lo hi none).run P w= .ok (rv E v) w:=by
 unfold lF at h
 simp only [B0] at h
 split at h
 case h_2=>cases h
 rename_i l hh inf hlo hhi hinf
 have key:∀ (a':Option Addr) (cap:Nat),0<=l∧l<=hh∧hh<=cap->(Instr.sliceAt t (.slice a' n cap) lo hi none).run P w= .ok (.slice (if cap=l.toNat then a' else a'.map (·.add (l.toNat*inf.size))) (hh.toNat-l.toNat) (cap-l.toNat)) w:=by
  intro a' cap hb
  simp only [Instr.sliceAt,Instr.slice,v7,V0 ht,y4,M4 (P:=P) (w:=w) hlo hhi hb (fun _=>trivial) true,s5 hinf,V3]
 split at h
 ·split at h
  case h_2=>cases h
  rename_i ob' hneed
  cases h
  have:=key none c (n7 hneed hl)
  simp only [rv]
  rw [this]
  simp
 ·rename_i id off
  split at h
  case h_2=>cases h
  rename_i ob' hneed
  have hb:=n7 (l:=ob') hneed (by
   split at h
   ·cases h; exact hl
   ·split at h <;> (cases h; exact hl))
  have hk:=key ((E id).map fun b=>⟨b,off,none⟩) c hb
  have hrv:rv E (.slice (some ⟨id,off,none⟩) n c)= .slice ((E id).map fun b=>⟨b,off,none⟩) n c:=by simp only [rv,rSl,w8]
  rw [hrv,hk]
  split at h
  ·cases h
   simp only [bnd] at hlo
   cases hlo
   simp only [rv,rSl,w8]
   cases hq:E id with
   | none=>simp
   | some b=>simp [v8]
  split at h
  ·rename_i hc
   have hc:=xY hc
   cases h
   rw [f9 hc]
   simp only [rv,rSl,w8]
  ·rename_i hc
   have hc:c≠l.toNat:=fun e=>by rw [e,f0e] at hc; cases hc
   cases h
   rw [a7 hc]
   cases hq:E id with
   | none=>simp [rv,rSl,w8,hq]
   | some b=>simp [rv,rSl,w8,hq,v8]
 ·rename_i id off k
  split at h
  ·split at h
   case h_2=>cases h
   rename_i e' sz r k' hget
   split at h
   case h_2=>cases h
   rename_i ob' hck hneed
   simp only [A9,B7,G1] at hck
   obtain⟨hkk,hsz⟩:=hck
   subst hkk
   cases h
   obtain⟨h1,h2,h3,h4⟩:=n7 hneed hl
   subst h1
   rcases hS.obj id _ hget with ⟨g1,g2⟩ | ⟨b,cap,cur,g1,g2,g3,g4,g5,g6,g7,g8⟩
   ·rw [g2] at h4
    have hn0:hh.toNat=0:=by
     rcases Q5 hh.toNat with h0 | h0
     ·exact h0
     ·have:=sP h0 hsz
      simp only [jN] at h4
      omega
    have hh0:hh=0:=by omega
    subst hh0
    have:=key none 0 (by omega)
    simp only [rv,rSl,g1]
    rw [this]
    simp
   ·have hcap:hh.toNat<=cap:=j1u (x7 h4 g7) hsz
    have:=key (some ⟨b,0,none⟩) cap (by omega)
    simp only [rv,rSl,g1,g2,aF,y0g]
    rw [this]
    simp [v8]
  ·split at h
   case h_2=>cases h
   rename_i e' sz r k' hget
   split at h
   case h_2=>cases h
   rename_i hck
   simp only [A9,B7,G1] at hck
   obtain⟨⟨hkk,hsz⟩,hsz2⟩:=hck
   subst hkk hsz2
   have hl':off=c*inf.size∧0<=l∧l<=hh∧(l=0∨l < hh)∧off+hh.toNat*inf.size<=r.len:=by
    split at h
    ·cases h
     obtain⟨q1,q2,q3⟩:=hl.1
     simp only [bnd] at hlo
     cases hlo
     exact⟨q1,T8 _,q2, .inl rfl,q3⟩
    ·cases h
     exact hl.1
   have hv:rv E v=rv E (.slice (some ⟨id,s4 off (R3 l.toNat inf.size),some k⟩) (hh.toNat-l.toNat) (s4 c l.toNat)):=by
    split at h
    ·cases h
     simp only [bnd] at hlo
     cases hlo
     simp
    ·cases h
     rfl
   rw [hv]
   clear hv h
   obtain⟨h1,h2,h3,h4,h5⟩:=hl'
   subst h1
   rw [j0b] at h5
   rcases hS.obj id _ hget with ⟨g1,g2⟩ | ⟨b,cap,cur,g1,g2,g3,g4,g5,g6,g7,g8⟩
   ·rw [g2] at h5
    simp only [jN] at h5
    have hz1:c*inf.size=0:=by omega
    have hz2:hh.toNat*inf.size=0:=by omega
    have hc0:c=0:=by rcases zzA100.1 hz1 with h | h <;> omega
    have hh0:hh.toNat=0:=by rcases zzA100.1 hz2 with h | h <;> omega
    have hl0:l.toNat=0:=by omega
    have:=key none 0 (by omega)
    simp only [rv,rSl,g1]
    rw [this,hl0,hh0]
    simp
   ·have hcap:c+hh.toNat<=cap:=by
     have:(c+hh.toNat)*inf.size<=cap*inf.size:=by rw [A7]; exact x7 h5 g7
     exact j1u this hsz
    have:=key (some ⟨b,c*inf.size,none⟩) (cap-c) (by omega)
    simp only [rv,rSl,g1,g2,aF]
    rw [this]
    simp only [q9,dX,Nat.sub_sub]
    rcases h4 with h4 | h4
    ·subst h4
     simp [v8]
    ·rw [a7 (by omega)]
     simp [v8]
def h2d (P:Program) (H:Heap) (e:TypeId) (id off k n c l:Nat):Option Value:=
 match gA P e,H.get id with
 | some inf,some (.row _ sz r k')=>match zO0 k k' && zO1 0 sz && zO0 inf.size sz && zO0 off (c*sz) && Nat.ble (c*sz+n*sz) r.list.length && zO1 0 l && Nat.ble l n with
  | true=>match zO1 l n with
   | true=>some (.slice (some ⟨id,c*sz+l*sz,some k⟩) (n-l) (c+l))
   | false=>match zO1 k 18446744073709551616 && zO1 c 18446744073709551616 && zO1 l 18446744073709551616 && zO1 sz 18446744073709551616 with
    | true=>some (.chan (some (w2d id k c l sz)))
    | false=>none
  | false=>none
 | _,_=>none
theorem o0v {P:Program} {B:Nat} {M:Nat->Prop} {E:Num} {H:Heap} {w:World} (hS:Sim P B M E H w) {t e:TypeId} {id off k n c l:Nat} {kd:IntKind} {v:Value}
  (h:h2d P H e id off k n c l=some v) (ht:P.underlying t=some (.slice e)):(Instr.sliceAt t (rv E (.slice (some ⟨id,off,some k⟩) n c)) (some (.int kd (l:Int))) none none).run P w= .ok (rv E v) w:=by
 unfold h2d at h
 simp only [B0] at h
 split at h
 case h_2=>cases h
 rename_i inf _ sz r k' hinf hget
 split at h
 case h_2=>cases h
 rename_i hck
 simp only [A9,B7,G1,V1] at hck
 obtain⟨⟨⟨⟨⟨⟨h1,h2⟩,h3⟩,h4⟩,h5⟩,h6⟩,h7⟩:=hck
 subst h1 h3 h4
 have key:∀ (a':Option Addr) (cap:Nat),n<=cap->(Instr.sliceAt t (.slice a' n cap) (some (.int kd (l:Int))) none none).run P w= .ok (.slice (if cap=l then a' else a'.map (·.add (l*inf.size))) (n-l) (cap-l)) w:=by
  intro a' cap hb
  have hbd:(0:Int)<=(l:Int)∧(l:Int)<=(n:Int)∧(n:Int)<=cap:=⟨by omega,by omega,by omega⟩
  have:=M4 (P:=P) (w:=w) (lo:=some (.int kd (l:Int))) (hi:=none) (l:=(l:Int)) (h:=(n:Int)) (len:=n) rfl rfl hbd (fun _=>trivial) true
  simp only [Instr.sliceAt,Instr.slice,v7,V0 ht,y4,this,s5 hinf,V3,g9]
 rcases hS.obj id _ hget with ⟨g1,g2⟩ | ⟨b,cap,cur,g1,g2,g3,g4,g5,g6,g7,g8⟩
 ·rw [g2] at h5
  simp only [jN] at h5
  have:n*inf.size=0:=by omega
  rcases zzA100.1 this with h | h <;> omega
 ·have hcap:c+n<=cap:=by
   have:(c+n)*inf.size<=cap*inf.size:=by rw [A7]; exact x7 h5 g7
   exact j1u this h2
  have hk:=key (some ⟨b,c*inf.size,none⟩) (cap-c) (by omega)
  have hr:rv E (.slice (some ⟨id,c*inf.size,some k⟩) n c)= .slice (some ⟨b,c*inf.size,none⟩) n (cap-c):=by simp only [rv,rSl,g1,g2,aF]
  rw [hr,hk]
  split at h
  ·rename_i hlt
   rw [G1] at hlt
   cases h
   rw [a7 (by omega)]
   simp only [rv,rSl,g1,g2,aF,Nat.sub_sub]
   simp [v8]
  ·rename_i hlt
   have hln:l=n:=by
    have:¬ l < n:=fun hh=>by rw [show zO1 l n=true by rw [G1]; exact hh] at hlt; cases hlt
    omega
   split at h
   case h_2=>cases h
   rename_i hb
   simp only [A9,G1] at hb
   obtain⟨⟨⟨b1,b2⟩,b3⟩,b4⟩:=hb
   cases h
   simp only [rv]
   rw [t1h E b1 b2 b3 b4]
   unfold w1j
   simp only [g1,g2,aF,hln,L0]
   by_cases hq:cap-c=n
   ·rw [f9 hq,f9 hq]
   ·rw [a7 hq,a7 hq]
    simp [v8]
def aD (P:Program) (auto:Bool) (H:Heap) (e:TypeId) (a:Option Addr) (n c:Nat) (lo hi:Option Value):Option (Value×List Prop):=
 match lF P auto H e a n c lo hi with
 | some r=>some r
 | none=>match auto with
  | true=>match a,lo,hi with
   | some ⟨id,off,some k⟩,some (.int _ (.ofNat l)),none=>match h2d P H e id off k n c l with
    | some v=>some (v,[])
    | none=>none
   | _,_,_=>none
  | false=>none
theorem dE {P:Program} {auto:Bool} {H:Heap} {e:TypeId} {a:Option Addr} {n c:Nat} {lo hi:Option Value} {r:Value×List Prop} {E:Num} (h:aD P auto H e a n c lo hi=some r):lo.map (rv E)=lo∧hi.map (rv E)=hi:=by
 unfold aD at h
 split at h
 ·rename_i hq; exact m0b hq
 ·split at h
  ·split at h
   ·simp [rv]
   ·cases h
  ·cases h
theorem W4 {P:Program} {auto:Bool} {B:Nat} {M:Nat->Prop} {E:Num} {H:Heap} {w:World} (hS:Sim P B M E H w) {t e:TypeId} {a:Option Addr} {n c:Nat} {lo hi:Option Value} {v:Value} {ob:List Prop}
  (h:aD P auto H e a n c lo hi=some (v,ob)) (hl:l5 ob) (ht:P.underlying t=some (.slice e)):(Instr.sliceAt t (rv E (.slice a n c)) lo hi none).run P w= .ok (rv E v) w:=by
 unfold aD at h
 split at h
 ·rename_i hq
  cases h
  exact yH hS hq hl ht
 ·split at h
  ·split at h
   ·split at h
    ·rename_i hv
     cases h
     exact o0v hS hv ht
    ·cases h
   ·cases h
  ·cases h
def e3b (lo hi:Option Operand):Bool:=
 match lo,hi with
 | some (.const (.int _ (.ofNat l))),none=>zO0 l 1
 | _,_=>false
def jX (P:Program) (auto one:Bool) (H:Heap) (e:TypeId) (a:Option Addr) (n c:Nat) (lo hi:Option Value):Option (Value×List Prop):=
 match one && !auto with
 | false=>aD P auto H e a n c lo hi
 | true=>match a,lo,hi with
  | some ⟨id,off,some k⟩,some (.int _ (.ofNat l)),none=>match zO0 n 1 with
   | false=>aD P auto H e a n c lo hi
   | true=>match gA P e,H.get id with
    | some inf,some (.row _ sz r k')=>match zO0 k k' && zO0 1 sz && zO0 inf.size sz && zO0 l 1 && zO1 k 18446744073709551616 with
     | true=>some (.complex .f32 (id*18446744073709551616+k) c,[off=c∧c+1<=r.list.length])
     | false=>none
    | _,_=>none
  | _,_,_=>aD P auto H e a n c lo hi
theorem h0d {P:Program} {auto one:Bool} {H:Heap} {e:TypeId} {a:Option Addr} {n c:Nat} {lo hi:Option Value} {r:Value×List Prop} {E:Num} (h:jX P auto one H e a n c lo hi=some r):lo.map (rv E)=lo∧hi.map (rv E)=hi:=by
 unfold jX at h
 split at h
 ·exact dE h
 ·split at h
  ·split at h
   ·exact dE h
   ·simp [rv]
  ·exact dE h
theorem yE {P:Program} {auto one:Bool} {B:Nat} {M:Nat->Prop} {E:Num} {H:Heap} {w:World} (hS:Sim P B M E H w) {t e:TypeId} {a:Option Addr} {n c:Nat} {lo hi:Option Value} {v:Value} {ob:List Prop}
  (h:jX P auto one H e a n c lo hi=some (v,ob)) (hl:l5 ob) (ht:P.underlying t=some (.slice e)):(Instr.sliceAt t (rv E (.slice a n c)) lo hi none).run P w= .ok (rv E v) w:=by
 unfold jX at h
 split at h
 ·exact W4 hS h hl ht
 ·split at h
  case h_2=>exact W4 hS h hl ht
  rename_i id off k kd l
  split at h
  ·exact W4 hS h hl ht
  rename_i hn
  have hn:=xY hn
  subst hn
  simp only [B0] at h
  split at h
  case h_2=>cases h
  rename_i inf e' sz r k' hinf hget
  split at h
  case h_2=>cases h
  rename_i hck
  simp only [A9,B7,G1] at hck
  obtain⟨⟨⟨⟨h1,h2⟩,h3⟩,h4⟩,h5⟩:=hck
  subst h1 h4
  cases h
  obtain⟨o1,o2⟩:=hl.1
  subst o1
  subst h2
  have hbd:(0:Int)<=(1:Int)∧(1:Int)<=((1:Nat):Int)∧((1:Nat):Int)<=((1:Nat):Int):=⟨by omega,by omega,by omega⟩
  have key:∀ (a':Option Addr) (cap:Nat),1<=cap->(Instr.sliceAt t (.slice a' 1 cap) (some (.int kd ((1:Nat):Int))) none none).run P w= .ok (.slice (if cap=1 then a' else a'.map (·.add (1*inf.size))) (1-1) (cap-1)) w:=by
   intro a' cap hb
   have hbd:(0:Int)<=((1:Nat):Int)∧((1:Nat):Int)<=((1:Nat):Int)∧((1:Nat):Int)<=cap:=⟨by omega,by omega,by omega⟩
   have:=M4 (P:=P) (w:=w) (lo:=some (.int kd ((1:Nat):Int))) (hi:=none) (l:=((1:Nat):Int)) (h:=((1:Nat):Int)) (len:=1) rfl rfl hbd (fun _=>trivial) true
   simp only [Instr.sliceAt,Instr.slice,v7,V0 ht,y4,this,s5 hinf,V3,g9]
  rcases hS.obj id _ hget with ⟨g1,g2⟩ | ⟨b,cap,cur,g1,g2,g3,g4,g5,g6,g7,g8⟩
  ·rw [g2] at o2
   exact absurd o2 (by simp)
  ·have hcap:off+1<=cap:=by omega
   have hk:=key (some ⟨b,off,none⟩) (cap-off) (by omega)
   have hr:rv E (.slice (some ⟨id,off,some k⟩) 1 off)= .slice (some ⟨b,off,none⟩) 1 (cap-off):=by simp only [rv,rSl,g1,g2,aF]
   rw [hr]
   refine hk.trans ?_
   simp only [rv,j2a,(F9 h5).1,(F9 h5).2,w1j,g1,g2,aF,h3,u9,L0]
   by_cases hq:cap-off=1
   ·rw [f9 hq,f9 hq]
   ·rw [a7 hq,a7 hq]
    simp [v8]
def jF (P:Program) (auto:Bool) (H:Heap) (n:Nat) (e:TypeId) (id off:Nat) (lo hi:Option Value):Option (Value×List Prop):=
 match known P H id with
 | true=>match bnd lo 0,bnd hi n,gA P e with
  | some l,some h,some inf=>match P9 auto (0<=l∧l<=h∧h<=n) with
   | some ob=>match zO0 n l.toNat with
    | true=>some (.slice (some ⟨id,off,none⟩) (h.toNat-l.toNat) (n-l.toNat),ob)
    | false=>some (.slice (some ⟨id,s4 off (R3 l.toNat inf.size),none⟩) (h.toNat-l.toNat) (n-l.toNat),ob)
   | none=>none
  | _,_,_=>none
 | false=>none
theorem j0z {P:Program} {auto:Bool} {H:Heap} {n:Nat} {e:TypeId} {id off:Nat} {lo hi:Option Value} {r:Value×List Prop} {E:Num} (h:jF P auto H n e id off lo hi=some r):lo.map (rv E)=lo∧hi.map (rv E)=hi:=by
 unfold jF at h
 simp only [B0] at h
 split at h
 case h_2=>cases h
 split at h
 case h_2=>cases h
 rename_i hlo hhi _
 exact⟨t0a E hlo,t0a E hhi⟩
theorem yD {P:Program} {auto:Bool} {B:Nat} {M:Nat->Prop} {E:Num} {H:Heap} {w:World} (hS:Sim P B M E H w) {t e:TypeId} {n id off:Nat} {lo hi:Option Value} {v:Value} {ob:List Prop}
  (h:jF P auto H n e id off lo hi=some (v,ob)) (hl:l5 ob) (ht:P.underlying t=some (.array n e)):(Instr.sliceAt t (rv E (.pointer (some ⟨id,off,none⟩))) lo hi none).run P w= .ok (rv E v) w:=by
 unfold jF at h
 simp only [B0] at h
 split at h
 case h_2=>cases h
 rename_i hkn
 split at h
 case h_2=>cases h
 rename_i l hh inf hlo hhi hinf
 split at h
 case h_2=>cases h
 rename_i ob' hneed
 have hb:=n7 (l:=ob') hneed (by split at h <;> (cases h; exact hl))
 obtain⟨b,hb1⟩:=N6 hS hkn
 have hrv:rv E (.pointer (some ⟨id,off,none⟩))= .pointer (some ⟨b,off,none⟩):=by simp [rv,w8,hb1]
 have hk:(Instr.sliceAt t (.pointer (some ⟨b,off,none⟩)) lo hi none).run P w= .ok (.slice (some (if n=l.toNat then ⟨b,off,none⟩ else (⟨b,off,none⟩:Addr).add (l.toNat*inf.size))) (hh.toNat-l.toNat) (n-l.toNat)) w:=by
  simp only [Instr.sliceAt,v7,V0 ht,y4,M4 (P:=P) (w:=w) hlo hhi hb (fun _=>trivial) false,s5 hinf,V3,Instr.sureAddr,pure_bind]
 rw [hrv,hk]
 split at h
 ·rename_i hc
  have hc:=xY hc
  cases h
  rw [f9 hc]
  simp only [rv,rSl,w8,hb1,E6]
 ·rename_i hc
  have hc:n≠l.toNat:=fun e=>by rw [e,f0e] at hc; cases hc
  cases h
  rw [a7 hc]
  simp [rv,rSl,w8,hb1,v8]
def z1s (P:Program) (H:Heap) (s d:TypeId) (x:Value):Option Value:=
 match x with
 | .pointer (some ⟨id,off,none⟩)=>match bC P s,bC P d,H.get id with
  | some (.pointer t),some .unsafePointer,some (.cells cs _)=>match gA P t with
   | some i=>match zO1 0 i.size && zO1 off cs.length with
    | true=>some (.pointer (some ⟨id,off,none⟩))
    | false=>none
   | none=>none
  | some .unsafePointer,some (.pointer u),some (.cells cs ty)=>match gA P u with
   | some _=>match liesAt P P.depth ty (cs.length/P.cellsOf ty) off u 1 with
    | true=>some (.pointer (some ⟨id,off,none⟩))
    | false=>none
   | none=>none
  | _,_,_=>none
 | _=>none
theorem r0u {P:Program} {B:Nat} {M:Nat->Prop} {E:Num} {H:Heap} {w:World} (hS:Sim P B M E H w) {s d:TypeId} {x v:Value} (h:z1s P H s d x=some v):(convert s d (rv E x)).run P w= .ok (rv E v) w:=by
 unfold z1s at h
 simp only [A8,B0] at h
 split at h
 case h_2=>cases h
 rename_i id off
 split at h
 ·rename_i t cs ty hs hd hget
  split at h
  case h_2=>cases h
  rename_i i hi
  split at h
  case h_2=>cases h
  rename_i hc
  simp only [A9,G1] at hc
  cases h
  obtain⟨b,hb,hw,_⟩:=hS.obj id _ hget
  simp only [rv,w8,hb,E6]
  exact Lib.run_to_unsafe w ⟨b,off,none⟩ hs hd hi (by omega) (e:=ty) (cells:=(rvL E cs).toArray.size) (by simp [World.shape?,hw]) (by simpa [o9] using hc.2)
 ·rename_i u cs ty hs hd hget
  split at h
  case h_2=>cases h
  rename_i i hi
  split at h
  case h_2=>cases h
  rename_i hc
  cases h
  obtain⟨b,hb,hw,_⟩:=hS.obj id _ hget
  simp only [rv,w8,hb,E6]
  exact Lib.run_from_unsafe w ⟨b,off,none⟩ hs hd hi (e:=ty) (cells:=(rvL E cs).toArray.size) (by simp [World.shape?,hw]) (by simpa [o9] using hc)
 ·cases h
def n1g (P:Program) (H:Heap) (s d:TypeId) (x:Value):Option Value:=
 match z1s P H s d x with
 | some v=>some v
 | none=>r0f P H s d x
theorem k0q {P:Program} {B:Nat} {M:Nat->Prop} {E:Num} {H:Heap} {w:World} (hS:Sim P B M E H w) {s d:TypeId} {x v:Value} (h:n1g P H s d x=some v):(convert s d (rv E x)).run P w= .ok (rv E v) w:=by
 unfold n1g at h
 split at h
 ·rename_i hu; cases h; exact r0u hS hu
 ·exact c0k hS h
def e2y (P:Program) (auto:Bool) (H:Heap) (s d:TypeId) (x:Value):Option (Value×List Prop):=
 match auto with
 | true=>none
 | false=>match x with
  | .slice (some ⟨j,off,some k⟩) n _=>match H.get j with
   | some (.row _ sz (.ints .u8 ns) k')=>match bC P s,bC P d with
    | some (.slice e),some .string=>match bC P e with
     | some (.int .u8)=>match zO0 sz 1 && zO0 k k' with
      | true=>some (.string ⟨⟨(ns.drop off).map fun n=>zO4 n.toNat⟩⟩,[n=(ns.drop off).length])
      | false=>none
     | _=>none
    | _,_=>none
   | _=>none
  | _=>none
def w2g (P:Program) (auto:Bool) (s d:TypeId) (x:Value):Option (Value×List Prop):=
 match auto with
 | true=>none
 | false=>match x with
  | .float k n=>match bC P s,bC P d with
   | some _,some (.float k')=>match decide (k=k') with
    | true=>none
    | false=>some (.float k' ((floatToFloatBits k n k').getD 0),[(floatToFloatBits k n k').isSome=true])
   | _,_=>none
  | _=>none
theorem w0m {P:Program} {auto:Bool} {s d:TypeId} {x v:Value} {l:List Prop} (h:w2g P auto s d x=some (v,l)) (hl:l5 l) (E:Num) (w:World):
  (convert s d (rv E x)).run P w= .ok (rv E v) w:=by
 unfold w2g at h
 simp only [A8] at h
 split at h
 ·cases h
 split at h
 case h_2=>cases h
 rename_i k n
 split at h
 case h_2=>cases h
 rename_i u k' hs hd
 split at h
 ·cases h
 cases h
 have h1:=hl.1
 cases hb:floatToFloatBits k n k' with
 | none=>rw [hb] at h1; cases h1
 | some r=>
  simp only [rv,aF]
  exact run_convert_float_float w s d k k' n r (by rw [hs]; rfl) hd hb
theorem o0y {P:Program} {auto:Bool} {B:Nat} {M:Nat->Prop} {E:Num} {H:Heap} {w:World} (hS:Sim P B M E H w) {s d:TypeId} {x v:Value} {l:List Prop} (h:e2y P auto H s d x=some (v,l)) (hl:l5 l):
  (convert s d (rv E x)).run P w= .ok (rv E v) w:=by
 unfold e2y at h
 simp only [A8] at h
 split at h
 ·cases h
 split at h
 case h_2=>cases h
 rename_i j off k n c
 split at h
 case h_2=>cases h
 rename_i e' sz ns k' hget
 split at h
 case h_2=>cases h
 rename_i e hs hd
 split at h
 case h_2=>cases h
 rename_i he
 split at h
 case h_2=>cases h
 rename_i hc
 simp only [A9,B7] at hc
 obtain⟨h1,h2⟩:=hc
 subst h1 h2
 cases h
 obtain rfl:=hl.1
 rcases hS.obj j _ hget with ⟨g1,g2⟩ | ⟨b,cap,cur,g1,g2,g3,g4,g5,g6,g7,g8⟩
 ·have hn:ns=[] :=by simpa [Row.list] using g2
  subst hn
  have:(convert s d (.slice none 0 0)).run P w= .ok (.string .empty) w:=by
   unfold convert
   simp [run_underlying hs,run_underlying hd,run_underlying he,Conv.bytesToString]
  simp only [rv,rSl,g1,List.drop_nil,jN,List.map_nil]
  exact this
 ·have e1:rvL E (ns.map (zO2 .u8))=ns.map (zO2 .u8):=rvL_pure _ _ (by rw [J1]; simp [D3])
  obtain⟨fr,q1,_⟩:=g3
  have hc:=i0x (P:=P) w ⟨b,off,none⟩ ((ns.drop off).map (zO2 .u8)) (fun i v hi=>by
   rw [v8]
   simp only [Row.list] at g8
   rw [e1] at g8
   rw [iO,W3,<- g8,T6] at hi
   split at hi
   ·simp only [World.cell?,q1]
    simpa using hi
   ·cases hi)
  rw [D1] at hc
  simp only [rv,rSl,g1,g2,aF]
  rw [run_convert_bytes_string w s d e _ _ _ hs he hd,run_bytesToString w _ _ _ (ns.drop off) hc,b0q]
  simp
def b3p:Operand->Bool
 | .const v=>match v with
  | .pointer none=>true
  | .slice none _ _=>true
  | .nilIface=>true
  | _=>false
 | _=>false
def i2r:BinOp->Bool->Option Value
 | .eql,b=>some (.bool b)
 | .neq,b=>some (.bool (!b))
 | _,_=>none
def i2a (P:Program) (H:Heap) (op:BinOp) (t:TypeId) (a b:Value):Option Value:=
 match bC P t with
 | some (.pointer _)=>match a,b with
  | .pointer (some ⟨id,_,_⟩), .pointer none=>match known P H id with
   | true=>i2r op false
   | false=>none
  | _,_=>none
 | some (.slice _)=>match a,b with
  | .slice (some ⟨id,_,none⟩) _ _, .slice none _ _=>match known P H id with
   | true=>i2r op false
   | false=>none
  | _,_=>none
 | some (.interface _)=>match a,b with
  | .iface _ _, .nilIface=>i2r op false
  | _,_=>none
 | _=>none
def h1s (P:Program) (op:BinOp) (t:TypeId) (a b:Value):Option Value:=
 match a,b with
 | .pointer (some ⟨i,o,none⟩), .pointer (some ⟨j,o',none⟩)=>match zO0 i j && zO0 o o' with
  | true=>match bC P t with
   | some (.pointer e)=>match P.info? e with
    | some _=>i2r op true
    | none=>none
   | _=>none
  | false=>none
 | _,_=>none
theorem yS {P:Program} {w:World} (D:Nat) {t e:TypeId} {a:Addr} (h:P.underlying t=some (.pointer e)):(Op.equalIn (D+1) t (.pointer (some a)) (.pointer none)).run P w= .ok false w:=by
 simp only [Op.equalIn,v7,V0 h,y4]
 rfl
theorem rG {P:Program} {w:World} (D:Nat) {t e:TypeId} {a:Addr} {n c n' c':Nat} (h:P.underlying t=some (.slice e)):(Op.equalIn (D+1) t (.slice (some a) n c) (.slice none n' c')).run P w= .ok false w:=by
 simp only [Op.equalIn,v7,V0 h,y4]
 rfl
theorem rF {P:Program} {w:World} (D:Nat) {t t':TypeId} {v':Value} (h:(P.underlying t).map (fun d=>match d with | .interface _=>true | _=>false)=some true):(Op.equalIn (D+1) t (.iface t' v') .nilIface).run P w= .ok false w:=by
 cases hu:P.underlying t with
 | none=>rw [hu] at h; cases h
 | some d=>
  rw [hu] at h
  cases d <;> first | (cases h; done) | (simp only [Op.equalIn,v7,V0 hu,y4]; rfl)
theorem xD {P:Program} {w:World} (D:Nat) {t e:TypeId} {inf:TypeInfo} {b o:Nat} (h:P.underlying t=some (.pointer e)) (hi:P.info? e=some inf):(Op.equalIn (D+1) t (.pointer (some ⟨b,o,none⟩)) (.pointer (some ⟨b,o,none⟩))).run P w= .ok true w:=by
 simp only [Op.equalIn,v7,V0 h,s5 hi,y4]
 by_cases hz:inf.size=0
 ·simp [hz]
 ·simp [hz,sameAddr]
theorem tB {P:Program} {w:World} (D:Nat) {t e:TypeId} (h:P.underlying t=some (.pointer e)):(Op.equalIn (D+1) t (.pointer none) (.pointer none)).run P w= .ok true w:=by
 simp only [Op.equalIn,v7,V0 h,y4]
 rfl
theorem eJ {P:Program} {op:BinOp} {t:TypeId} {xo yo:Operand} {x y v:Value} {b:Bool} (h:i2r op b=some v) (h1:¬ (x= .nilIface∧y= .nilIface)) (h2:¬ ((∃ a,x= .agg a)∧∃ b,y= .agg b)) (E:Num) (w:World)
  (he:(Op.equalIn 10000 t x y).run P w= .ok b w) (hb:∀ op',op'=BinOp.eql∨op'=BinOp.neq->binOp op' t x y=(do let r <- Op.equal t x y; pure (.bool (if op'=BinOp.eql then r else !r)))):
  (do eqGuard op t xo yo x y; binOp op t x y:Sem Value).run P w= .ok (rv E v) w:=by
 rw [v7,C3 h1 h2]
 simp only [y4]
 unfold i2r at h
 split at h
 ·cases h
  rw [hb _ (.inl rfl)]
  simp only [v7,Op.equal,Op.maxDepth,he,y4,rv]
  rfl
 ·cases h
  rw [hb _ (.inr rfl)]
  simp only [v7,Op.equal,Op.maxDepth,he,y4,rv]
  rfl
 ·cases h
theorem r0m {P:Program} {B:Nat} {M:Nat->Prop} {E:Num} {H:Heap} {w:World} (hS:Sim P B M E H w) {op:BinOp} {t:TypeId} {xo yo:Operand} {a b v:Value} (h:i2a P H op t a b=some v):
  (do eqGuard op t xo yo (rv E a) (rv E b); binOp op t (rv E a) (rv E b):Sem Value).run P w= .ok (rv E v) w:=by
 unfold i2a at h
 simp only [A8] at h
 split at h
 ·rename_i e hu
  split at h
  case h_2=>cases h
  rename_i id off sp
  split at h
  case h_2=>cases h
  rename_i hk
  obtain⟨b,hb⟩:=N6 hS hk
  refine eJ h (by simp [rv]) (by simp [rv]) E w ?_ (fun op' ho=> ?_)
  ·simp only [rv,w8,hb,E6]
   exact yS 9999 hu
  ·simp only [rv,w8,hb,E6]
   rcases ho with rfl | rfl <;> rfl
 ·rename_i e hu
  split at h
  case h_2=>cases h
  rename_i id off n c n' c'
  split at h
  case h_2=>cases h
  rename_i hk
  obtain⟨b,hb⟩:=N6 hS hk
  refine eJ h (by simp [rv,rSl]) (by simp [rv,rSl]) E w ?_ (fun op' ho=> ?_)
  ·simp only [rv,rSl,w8,hb,E6]
   exact rG 9999 hu
  ·simp only [rv,rSl,w8,hb,E6]
   rcases ho with rfl | rfl <;> rfl
 ·rename_i e hu
  split at h
  case h_2=>cases h
  rename_i t' v'
  refine eJ h (by simp [rv]) (by simp [rv]) E w ?_ (fun op' ho=> ?_)
  ·simp only [rv]
   exact rF 9999 (by rw [hu]; rfl)
  ·simp only [rv]
   rcases ho with rfl | rfl <;> rfl
 ·cases h
theorem k0z {P:Program} (E:Num) (w:World) {op:BinOp} {t:TypeId} {xo yo:Operand} {a b v:Value} (h:h1s P op t a b=some v):
  (do eqGuard op t xo yo (rv E a) (rv E b); binOp op t (rv E a) (rv E b):Sem Value).run P w= .ok (rv E v) w:=by
 unfold h1s at h
 simp only [A8] at h
 split at h
 case h_2=>cases h
 rename_i i o j o'
 split at h
 case h_2=>cases h
 rename_i hq
 simp only [A9,B7] at hq
 obtain⟨rfl,rfl⟩:=hq
 split at h
 case h_2=>cases h
 rename_i e hu
 split at h
 case h_2=>cases h
 rename_i inf hi
 refine eJ h (by simp [rv]) (by simp [rv]) E w ?_ (fun op' ho=> ?_)
 ·cases hb:E i with
  | none=>
   simp only [rv,w8,hb,o0t]
   exact tB 9999 hu
  | some b=>
   simp only [rv,w8,hb,E6]
   exact xD 9999 hu hi
 ·simp only [rv]
  rcases ho with rfl | rfl <;> rfl
def o1z (P:Program) (auto:Bool) (ev:Operand->Option Value) (o:Oper) (H:Heap) (n:Nat) (ds:List Bool):Option R:=
 match o.op with
 | .move x=>mkR H ds (ev x)
 | .assign x=>mkR H ds (ev x)
 | .alloc t=>match j1z P t with
  | some z=>some ⟨.pointer (some ⟨n,0,none⟩),(n, .cells z.cells.toList t) ::H,[],ds⟩
  | none=>none
 | .box t x=>match ev x with
  | some v=>some ⟨.pointer (some ⟨n,0,none⟩),(n, .cells v.cells.toList t) ::H,[],ds⟩
  | none=>none
 | .build t ps=>match nO ev ps.toList with
  | some l=>mkR H ds (o0q P t l)
  | none=>none
 | .buildSlice t len ps=>match nO ev ps.toList with
  | some l=>match dG P t len l with
   | some (e,cs)=>some ⟨.slice (some ⟨n,0,none⟩) len len,(n, .cells cs e) ::H,[],ds⟩
   | none=>none
  | none=>none
 | .load t x=>match ev x with
  | some v=>d1a H ds (b0p P auto H t v)
  | none=>none
 | .store t x y=>match ev x,ev y with
  | some a,some v=>match jO P auto H t a v with
   | some (H',l)=>some ⟨undef,H',l,ds⟩
   | none=>match aK P H t a v with
    | some H'=>some ⟨undef,H',[],ds⟩
    | none=>none
  | _,_=>none
 | .nilCheck x=>match ev x with
  | some (.pointer (some ⟨id,off,sp⟩))=>match known P H id with
   | true=>some ⟨.pointer (some ⟨id,off,sp⟩),H,[],ds⟩
   | false=>none
  | some (.func (.func f) a b)=>some ⟨.func (.func f) a b,H,[],ds⟩
  | some (.func (.yield f) a b)=>some ⟨.func (.yield f) a b,H,[],ds⟩
  | _=>none
 | .binOp op t x y _=>match ev x,ev y with
  | some a,some b=>match b3p y with
   | true=>match i2a P H op t a b with
    | some v=>mkR H ds (some v)
    | none=>d1a H ds (l1n P auto op t x y a b)
   | false=>match h1s P op t a b with
    | some v=>mkR H ds (some v)
    | none=>d1a H ds (l1n P auto op t x y a b)
  | _,_=>none
 | .unOp op _ x=>match ev x with
  | some a=>match D3 a with
   | true=>mkR H ds (S3 (N2 P (Op.unary op a)))
   | false=>none
  | none=>none
 | .convert s d x=>match ev x with
  | some a=>match D3 a with
   | true=>match w2g P auto s d a with
    | some (v,l)=>some ⟨v,H,l,ds⟩
    | none=>mkR H ds (S3 (N2 P (convert s d a)))
   | false=>match e2y P auto H s d a with
    | some (v,l)=>some ⟨v,H,l,ds⟩
    | none=>mkR H ds (n1g P H s d a)
  | none=>none
 | .makeInterface t x=>match ev x,m0c P t with
  | some a,true=>some ⟨.iface t a,H,[],ds⟩
  | _,_=>none
 | .makeFunc fn first cap=>match fX ev first.toList,fX ev cap.toList,f0k fn with
  | some a,some b,false=>some ⟨.func fn ⟨a⟩ ⟨b⟩,H,[],ds⟩
  | _,_,_=>none
 | .slice t x lo hi none=>match ev x,n2g ev lo,n2g ev hi,bC P t with
  | some (.string s),some l,some h,some .string=>d1a H ds (c0l auto s l h)
  | some (.slice a n c),some l,some h,some (.slice e)=>d1a H ds (jX P auto (e3b lo hi) H e a n c l h)
  | some (.pointer (some ⟨id,off,none⟩)),some l,some h,some (.array len e)=>d1a H ds (jF P auto H len e id off l h)
  | _,_,_,_=>none
 | .makeSlice t len cap=>match ev len,ev cap with
  | some (.int _ l),some (.int _ c)=>match i1j P auto t l c with
   | some (e,cs,ob)=>some ⟨.slice (some ⟨n,0,none⟩) l.toNat c.toNat,(n, .cells cs e) ::H,ob,ds⟩
   | none=>none
  | _,_=>none
 | .fieldAddr s x f=>match ev x with
  | some a=>mkR H ds (iA P H s a f)
  | none=>none
 | .field t x f=>match ev x with
  | some a=>mkR H ds (q0s P t a f)
  | none=>none
 | .indexAddr t x ix=>match ev x,ev ix with
  | some a,some i=>d1a H ds (gX P auto H t a i)
  | _,_=>none
 | .index t x ix=>match ev x,ev ix with
  | some a,some i=>d1a H ds (m0t P auto t a i)
  | _,_=>none
 | .extract x i=>match ev x with
  | some a=>mkR H ds (wF a i)
  | none=>none
 | _=>none
def oJ (nx:Next) (v:Value):Prop:=nx= .value v∨(nx= .skip∧v=undef)
theorem dH {P:Program} {auto:Bool} {ev:Operand->Option Value} {o:Oper} {H:Heap} {n:Nat} {ds:List Bool} {r:R} (h:o1z P auto ev o H n ds=some r):∀ c,o.op≠ .defer c:=by
 intro c hc
 unfold o1z at h
 simp only [A8] at h
 rw [hc] at h
 cases h
theorem L3 {H:Heap} {ds:List Bool} {x:Option Value} {r:R} (h:mkR H ds x=some r):x=some r.v∧r.h=H∧r.obs=[] ∧r.ds=ds:=by
 unfold mkR at h
 split at h
 ·cases h; exact⟨rfl,rfl,rfl,rfl⟩
 ·cases h
theorem T2 {H:Heap} {ds:List Bool} {x:Option (Value×List Prop)} {r:R} (h:d1a H ds x=some r):x=some (r.v,r.obs)∧r.h=H∧r.ds=ds:=by
 unfold d1a at h
 split at h
 ·cases h; exact⟨rfl,rfl,rfl⟩
 ·cases h
theorem fA (E:Num):rv E undef=undef:=by simp [undef,rv,rvA,rvL]
theorem eZ {P:Program} {auto:Bool} {B:Nat} {M:Nat->Prop} {E:Num} {H:Heap} {w:World} (hS:Sim P B M E H w) {n:Nat} (hB:B<=w.heap.size)
  {ev:Operand->Option Value} {a:Operand->Value} {o:Oper} (hn':M3 o.op=false->E n=some w.heap.size) (he:∀ x∈o.op.operands.toList,∀ y,ev x=some y->a x=rv E y) {ds:List Bool} {r:R} (h:o1z P auto ev o H n ds=some r) (hl:l5 r.obs):
  ∃ nx w',(execOp a o).run P w= .ok nx w'∧oJ nx (rv E r.v)∧Sim P B M E r.h w'∧Keeps B M w w'∧(M3 o.op=true->r.h=H∧r.ds=ds∧w'=w):=by
 have still:∀ {v:Value} {s:Sem Value},execOp a o=(do pure (.value (<- s)))->s.run P w= .ok (rv E r.v) w->r.h=H->r.ds=ds->
   ∃ nx w',(execOp a o).run P w= .ok nx w'∧oJ nx (rv E r.v)∧Sim P B M E r.h w'∧Keeps B M w w'∧(M3 o.op=true->r.h=H∧r.ds=ds∧w'=w):=by
  intro v s h1 h2 h3 h4
  refine⟨.value (rv E r.v),w,?_, .inl rfl,by rw [h3]; exact hS,Keeps.refl _ _ _,fun _=>⟨h3,h4,rfl⟩⟩
  rw [h1,v7,h2]
  rfl
 unfold o1z at h
 simp only [A8] at h
 split at h
 ·rename_i x ho
  obtain⟨h1,h2,h3,h4⟩:=L3 h
  refine⟨.value (rv E r.v),w,?_, .inl rfl,by rw [h2]; exact hS,Keeps.refl _ _ _,fun _=>⟨h2,h4,rfl⟩⟩
  simp only [execOp,ho]
  rw [he x (by simp [ho,zO5]) _ h1]
  rfl
 ·rename_i x ho
  obtain⟨h1,h2,h3,h4⟩:=L3 h
  refine⟨.value (rv E r.v),w,?_, .inl rfl,by rw [h2]; exact hS,Keeps.refl _ _ _,fun _=>⟨h2,h4,rfl⟩⟩
  simp only [execOp,ho]
  rw [he x (by simp [ho,zO5]) _ h1]
  rfl
 ·rename_i t ho
  have hn:=hn' (by rw [ho]; rfl)
  split at h
  case h_2=>cases h
  rename_i z hz
  cases h
  obtain⟨hz1,hz2⟩:=iP hz
  have hs:=pJ hS hn hB t z
  rw [D0 E z hz2] at hs
  refine⟨.value (.pointer (some ⟨w.heap.size,0,none⟩)),_,?_, .inl (by simp [rv,w8,hn]),hs,u3 ((Z9 _ _).alloc (d9 _) _) hB,fun hst=>by simp [ho,M3] at hst⟩
  simp only [execOp,ho,Instr.alloc,v7,hz1,y4,xO,V3]
 ·rename_i t x ho
  have hn:=hn' (by rw [ho]; rfl)
  split at h
  case h_2=>cases h
  rename_i v hv
  cases h
  have hs:=pJ hS hn hB t v
  refine⟨.value (.pointer (some ⟨w.heap.size,0,none⟩)),_,?_, .inl (by simp [rv,w8,hn]),hs,u3 ((Z9 _ _).alloc (d9 _) _) hB,fun hst=>by simp [ho,M3] at hst⟩
  simp only [execOp,ho,Instr.box,v7,xO,y4,V3]
  rw [he x (by simp [ho,zO5]) _ hv]
 ·rename_i t ps ho
  split at h
  case h_2=>cases h
  rename_i l hp
  obtain⟨h1,h2,h3,h4⟩:=L3 h
  have hps:=aL (a:=a) (E:=E) ps.toList l (fun q hq=>he q.2 (by simp only [ho,zO5]; exact zzA43.2 ⟨q,hq,rfl⟩)) hp
  have hb:=f0s h1 E w
  have hpe:(ps.map fun p:Nat×Operand=>(p.1,a p.2))=(l.map fun p=>(p.1,rv E p.2)).toArray:=by
   rw [<- hps]
   apply gZ
   simp
  refine still (v:=r.v) (s:=Instr.build t (ps.map fun p:Nat×Operand=>(p.1,a p.2))) (by simp only [execOp,ho]) ?_ h2 h4
  rw [hpe]
  exact hb
 ·rename_i t len ps ho
  have hn:=hn' (by rw [ho]; rfl)
  split at h
  case h_2=>cases h
  rename_i l hp
  split at h
  case h_2=>cases h
  rename_i e cs hbs
  cases h
  have hps:=aL (a:=a) (E:=E) ps.toList l (fun q hq=>he q.2 (by simp only [ho,zO5]; exact zzA43.2 ⟨q,hq,rfl⟩)) hp
  have hb:=jQ hbs E w
  have hpe:(ps.map fun p:Nat×Operand=>(p.1,a p.2))=(l.map fun p=>(p.1,rv E p.2)).toArray:=by
   rw [<- hps]
   apply gZ
   simp
  have hs:Sim P B M E ((n, .cells cs e) ::H) (w.alloc (.cells (rvL E cs).toArray e)):=
   hS.new hn ⟨w.heap.size,rfl,x0m _ _, .inl hB⟩
  refine⟨.value (.slice (some ⟨w.heap.size,0,none⟩) len len),_,?_, .inl (by simp [rv,rSl,w8,hn]),hs,u3 ((Z9 _ _).alloc (d9 _) _) hB,fun hst=>by simp [ho,M3] at hst⟩
  simp only [execOp,ho,v7]
  rw [hpe,hb]
  rfl
 ·rename_i t x ho
  split at h
  case h_2=>cases h
  rename_i v hv
  obtain⟨h1,h2,h3⟩:=T2 h
  refine still (v:=r.v) (s:=Instr.loadAt t (a x)) (by simp only [execOp,ho]) ?_ h2 h3
  rw [he x (by simp [ho,zO5]) _ hv]
  exact pU hS h1 hl
 ·rename_i t x y ho
  split at h
  case h_2=>cases h
  rename_i p v hp hv
  split at h
  ·rename_i H' l hst
   cases h
   obtain⟨w',h1,h2,h3⟩:=yA hS hst hl
   refine⟨.skip,w',?_, .inr ⟨rfl,fA E⟩,h2,h3,fun hst=>by simp [ho,M3] at hst⟩
   simp only [execOp,ho,v7]
   rw [he x (by simp [ho,zO5]) _ hp,he y (by simp [ho,zO5]) _ hv,h1]
   rfl
  split at h
  case h_2=>cases h
  rename_i H' hst
  cases h
  obtain⟨w',h1,h2,h3,_⟩:=aN hS hst
  refine⟨.skip,w',?_, .inr ⟨rfl,fA E⟩,h2,h3,fun hst=>by simp [ho,M3] at hst⟩
  simp only [execOp,ho,v7]
  rw [he x (by simp [ho,zO5]) _ hp,he y (by simp [ho,zO5]) _ hv,h1]
  rfl
 ·rename_i x ho
  split at h
  ·rename_i id off sp hv
   split at h
   case h_2=>cases h
   rename_i hk
   cases h
   obtain⟨b,hb⟩:=N6 hS hk
   refine⟨.value (rv E (.pointer (some ⟨id,off,sp⟩))),w,?_, .inl rfl,hS,Keeps.refl _ _ _,fun _=>⟨rfl,rfl,rfl⟩⟩
   simp only [execOp,ho]
   rw [he x (by simp [ho,zO5]) _ hv]
   simp only [rv,w8,hb,E6]
   rfl
  ·rename_i f c d hv
   cases h
   refine⟨.value (rv E (.func (.func f) c d)),w,?_, .inl rfl,hS,Keeps.refl _ _ _,fun _=>⟨rfl,rfl,rfl⟩⟩
   simp only [execOp,ho]
   rw [he x (by simp [ho,zO5]) _ hv]
   simp only [rv,rFn]
   rfl
  ·rename_i f c d hv
   cases h
   refine⟨.value (rv E (.func (.yield f) c d)),w,?_, .inl rfl,hS,Keeps.refl _ _ _,fun _=>⟨rfl,rfl,rfl⟩⟩
   simp only [execOp,ho]
   rw [he x (by simp [ho,zO5]) _ hv]
   simp only [rv,rFn]
   rfl
  ·cases h
 ·rename_i op t x y yt ho
  split at h
  case h_2=>cases h
  rename_i u v hu hv
  have bin:d1a H ds (l1n P auto op t x y u v)=some r->∃ nx w',(execOp a o).run P w= .ok nx w'∧oJ nx (rv E r.v)∧Sim P B M E r.h w'∧Keeps B M w w'∧(M3 o.op=true->r.h=H∧r.ds=ds∧w'=w):=fun h=>by
   obtain⟨h1,h2,h3⟩:=T2 h
   refine still (v:=r.v) (s:=do eqGuard op t x y (a x) (a y); binOp op t (a x) (a y)) (by simp only [execOp,ho]) ?_ h2 h3
   rw [he x (by simp [ho,zO5]) _ hu,he y (by simp [ho,zO5]) _ hv]
   exact p0w h1 hl E w
  split at h
  ·split at h
   ·rename_i z hz
    obtain⟨h1,h2,h3,h4⟩:=L3 h
    cases h1
    refine still (v:=r.v) (s:=do eqGuard op t x y (a x) (a y); binOp op t (a x) (a y)) (by simp only [execOp,ho]) ?_ h2 h4
    rw [he x (by simp [ho,zO5]) _ hu,he y (by simp [ho,zO5]) _ hv]
    exact r0m hS hz
   ·exact bin h
  ·split at h
   ·rename_i z hz
    obtain⟨h1,h2,h3,h4⟩:=L3 h
    cases h1
    refine still (v:=r.v) (s:=do eqGuard op t x y (a x) (a y); binOp op t (a x) (a y)) (by simp only [execOp,ho]) ?_ h2 h4
    rw [he x (by simp [ho,zO5]) _ hu,he y (by simp [ho,zO5]) _ hv]
    exact k0z E w hz
   ·exact bin h
 ·rename_i op t x ho
  split at h
  case h_2=>cases h
  rename_i u hu
  split at h
  case h_2=>cases h
  rename_i hp
  obtain⟨h1,h2,h3,h4⟩:=L3 h
  refine still (v:=r.v) (s:=Op.unary op (a x)) (by simp only [execOp,ho]) ?_ h2 h4
  rw [he x (by simp [ho,zO5]) _ hu,D0 E _ hp]
  exact W2 h1 E w
 ·rename_i s d x ho
  split at h
  case h_2=>cases h
  rename_i u hu
  split at h
  ·rename_i hp
   split at h
   ·rename_i v l hff
    cases h
    refine still (v:=v) (s:=convert s d (a x)) (by simp only [execOp,ho]) ?_ rfl rfl
    rw [he x (by simp [ho,zO5]) _ hu]
    exact w0m hff hl E w
   obtain⟨h1,h2,h3,h4⟩:=L3 h
   refine still (v:=r.v) (s:=convert s d (a x)) (by simp only [execOp,ho]) ?_ h2 h4
   rw [he x (by simp [ho,zO5]) _ hu,D0 E _ hp]
   exact W2 h1 E w
  ·split at h
   ·rename_i v l hb2
    cases h
    refine still (v:=v) (s:=convert s d (a x)) (by simp only [execOp,ho]) ?_ rfl rfl
    rw [he x (by simp [ho,zO5]) _ hu]
    exact o0y hS hb2 hl
   obtain⟨h1,h2,h3,h4⟩:=L3 h
   refine still (v:=r.v) (s:=convert s d (a x)) (by simp only [execOp,ho]) ?_ h2 h4
   rw [he x (by simp [ho,zO5]) _ hu]
   exact k0q hS h1
 ·rename_i t x ho
  split at h
  case h_2=>cases h
  rename_i u hu hc
  cases h
  refine still (v:=u) (s:=Instr.makeInterface t (a x)) (by simp only [execOp,ho]) ?_ rfl rfl
  rw [he x (by simp [ho,zO5]) _ hu]
  unfold m0c at hc
  simp only [A8] at hc
  split at hc
  ·cases hc
  ·cases hc
  ·rename_i d hni hd
   simp only [Instr.makeInterface,v7,V0 hd,y4,rv]
   cases d <;> first | (exact absurd rfl (hni _)) | rfl
 ·rename_i fn first cap ho
  split at h
  case h_2=>cases h
  rename_i l1 l2 h1 h2 h3
  cases h
  have e1:=z7 (a:=a) (E:=E) first.toList l1 (fun q hq=>he q (by simp only [ho,zO5,v0d]; exact u0h _ hq)) h1
  have e2:=z7 (a:=a) (E:=E) cap.toList l2 (fun q hq=>he q (by simp only [ho,zO5,v0d]; exact b0v _ hq)) h2
  refine still (v:= .nilIface) (s:=Instr.makeFunc fn (first.map a) (cap.map a)) (by simp only [execOp,ho]) ?_ rfl rfl
  have f1:first.map a=⟨rvL E l1⟩:=by apply gZ; simpa using e1
  have f2:cap.map a=⟨rvL E l2⟩:=by apply gZ; simpa using e2
  rw [f1,f2]
  simp [Instr.makeFunc,rv,rvA,i0f E fn h3]
 ·rename_i t x lo hi ho
  have memo:∀ (z:Operand),(some z=lo∨some z=hi)->z∈o.op.operands.toList:=by
   intro z hz
   simp only [ho,zO5]
   rcases hz with hz | hz <;> (rw [<- hz]; simp)
  have oo:∀ (z:Option Operand) (r:Option Value),(z=lo∨z=hi)->n2g ev z=some r->z.map a=r.map (rv E):=by
   intro z r hz hr
   cases z with
   | none=>simp only [n2g] at hr; cases hr; rfl
   | some z=>
    simp only [n2g] at hr
    split at hr
    ·rename_i v hv; cases hr; simp [he z (memo z hz) v hv]
    ·cases hr
  split at h
  ·rename_i s l hh hv hlo hhi hu
   obtain⟨h1,h2,h3⟩:=T2 h
   refine still (v:=r.v) (s:=Instr.sliceAt t (a x) (lo.map a) (hi.map a) none) (by simp only [execOp,ho,o0t]) ?_ h2 h3
   rw [he x (by simp [ho,zO5]) _ hv,oo lo l (.inl rfl) hlo,oo hi hh (.inr rfl) hhi]
   simp only [rv]
   exact yI hu h1 hl E w
  ·rename_i a0 n0 c0 l hh e hv hlo hhi hu
   obtain⟨h1,h2,h3⟩:=T2 h
   refine still (v:=r.v) (s:=Instr.sliceAt t (a x) (lo.map a) (hi.map a) none) (by simp only [execOp,ho,o0t]) ?_ h2 h3
   obtain⟨b1,b2⟩:=h0d (E:=E) h1
   rw [he x (by simp [ho,zO5]) _ hv,oo lo l (.inl rfl) hlo,oo hi hh (.inr rfl) hhi,b1,b2]
   exact yE hS h1 hl hu
  ·rename_i id off l hh len e hv hlo hhi hu
   obtain⟨h1,h2,h3⟩:=T2 h
   refine still (v:=r.v) (s:=Instr.sliceAt t (a x) (lo.map a) (hi.map a) none) (by simp only [execOp,ho,o0t]) ?_ h2 h3
   obtain⟨b1,b2⟩:=j0z (E:=E) h1
   rw [he x (by simp [ho,zO5]) _ hv,oo lo l (.inl rfl) hlo,oo hi hh (.inr rfl) hhi,b1,b2]
   exact yD hS h1 hl hu
  ·cases h
 ·rename_i t len cap ho
  have hn:=hn' (by rw [ho]; rfl)
  split at h
  case h_2=>cases h
  rename_i kl l kc c hlen hcap
  split at h
  case h_2=>cases h
  rename_i e cs ob hm
  cases h
  obtain⟨m1,m2⟩:=j0h hm hl kl kc w
  have hs:Sim P B M E ((n, .cells cs e) ::H) (w.alloc (.cells cs.toArray e)):=hS.new hn ⟨w.heap.size,rfl,by rw [x0m,m2], .inl hB⟩
  refine⟨.value (.slice (some ⟨w.heap.size,0,none⟩) l.toNat c.toNat),_,?_, .inl (by simp [rv,rSl,w8,hn]),hs,u3 ((Z9 _ _).alloc (d9 _) _) hB,fun hst=>by simp [ho,M3] at hst⟩
  simp only [execOp,ho]
  rw [he len (by simp [ho,zO5]) _ hlen,he cap (by simp [ho,zO5]) _ hcap]
  simp only [rv]
  rw [v7,m1]
  rfl
 ·rename_i s x f ho
  split at h
  case h_2=>cases h
  rename_i u hu
  obtain⟨h1,h2,h3,h4⟩:=L3 h
  refine still (v:=r.v) (s:=Instr.fieldAt s (a x) f) (by simp only [execOp,ho]) ?_ h2 h4
  rw [he x (by simp [ho,zO5]) _ hu]
  exact mO hS h1
 ·rename_i t x f ho
  split at h
  case h_2=>cases h
  rename_i u hu
  obtain⟨h1,h2,h3,h4⟩:=L3 h
  refine still (v:=r.v) (s:=Instr.field t (a x) f) (by simp only [execOp,ho]) ?_ h2 h4
  rw [he x (by simp [ho,zO5]) _ hu]
  exact e0p h1 E w
 ·rename_i t x ix ho
  split at h
  case h_2=>cases h
  rename_i u v hu hv
  obtain⟨h1,h2,h3⟩:=T2 h
  refine still (v:=r.v) (s:=Instr.indexAt t (a x) (a ix)) (by simp only [execOp,ho]) ?_ h2 h3
  rw [he x (by simp [ho,zO5]) _ hu,he ix (by simp [ho,zO5]) _ hv]
  exact oF hS h1 hl
 ·rename_i t x ix ho
  split at h
  case h_2=>cases h
  rename_i u v hu hv
  obtain⟨h1,h2,h3⟩:=T2 h
  refine still (v:=r.v) (s:=Instr.index t (a x) (a ix)) (by simp only [execOp,ho]) ?_ h2 h3
  rw [he x (by simp [ho,zO5]) _ hu,he ix (by simp [ho,zO5]) _ hv]
  exact g0v h1 hl E w
 ·rename_i x i ho
  split at h
  case h_2=>cases h
  rename_i u hu
  obtain⟨h1,h2,h3,h4⟩:=L3 h
  refine still (v:=r.v) (s:=Instr.extract (a x) i) (by simp only [execOp,ho]) ?_ h2 h4
  rw [he x (by simp [ho,zO5]) _ hu]
  exact vO h1 E w
 ·cases h
end
noncomputable section
def H6 (j:Nat):Heap->Heap
 | [] =>[]
 | (i,o) ::r=>match zO0 i j with
  | true=>H6 j r
  | false=>(i,o) ::H6 j r
theorem I5 (j:Nat):∀ (H:Heap) (i:Nat) (o:AObj),(H6 j H).get i=some o->H.get i=some o∧i≠j
 | [],i,o,h=>by simp [H6,Heap.get] at h
 | (k,q) ::r,i,o,h=>by
  unfold H6 at h
  split at h
  ·rename_i hk
   have hk:=xY hk
   subst hk
   obtain⟨h1,h2⟩:=I5 k r i o h
   rw [b6,a7 (fun e=>h2 e.symm)]
   exact⟨h1,h2⟩
  ·rename_i hk
   rw [b6] at h ⊢
   split at h
   ·rename_i e; subst e
    refine⟨by rw [f9 rfl]; exact h,fun e=> ?_⟩
    rw [e,f0e] at hk
    cases hk
   ·rename_i e
    obtain⟨h1,h2⟩:=I5 j r i o h
    exact⟨by rw [a7 e]; exact h1,h2⟩
theorem N5 (j:Nat):∀ (H:Heap) (i:Nat),i≠j->(H6 j H).get i=H.get i
 | [],_,_=>rfl
 | (k,q) ::r,i,hi=>by
  unfold H6
  split
  ·rename_i hk
   have hk:=xY hk
   subst hk
   rw [b6,a7 (fun e=>hi e.symm)]
   exact N5 k r i hi
  ·rw [b6,b6,N5 j r i hi]
def gB (k:IntKind):List Value->Option (List Int)
 | [] =>some []
 | v ::r=>match v with
  | .int k' n=>if k'=k then (match gB k r with
   | some l=>some (n ::l)
   | none=>none) else none
  | _=>none
theorem J6 {k:IntKind} :∀ {vs:List Value} {l:List Int},gB k vs=some l->vs=l.map (zO2 k)
 | [],l,h=>by simp only [gB] at h; cases h; rfl
 | v ::r,l,h=>by
  simp only [gB] at h
  split at h
  ·split at h
   ·rename_i hk
    subst hk
    split at h
    ·rename_i l' hl
     cases h
     rw [J6 hl]
     rfl
    ·cases h
   ·cases h
  ·cases h
def k1v (r:Row) (news:List Value):Option Row:=
 match r with
 | .vals xs=>some (.vals (xs++news))
 | .ints k ns=>match gB k news with
  | some l=>some (.ints k (ns++l))
  | none=>none
theorem o0x {r r':Row} {news:List Value} (h:k1v r news=some r'):r'.list=r.list++news:=by
 unfold k1v at h
 split at h
 ·cases h; rfl
 ·split at h
  ·rename_i l hl
   cases h
   rw [J6 hl]
   simp [Row.list]
  ·cases h
def d0b (news:List Value):Row:=
 match news with
 | .int k _ ::_=>match gB k news with
  | some l=> .ints k l
  | none=> .vals news
 | _=> .vals news
theorem pA (news:List Value):(d0b news).list=news:=by
 unfold d0b
 split
 ·split
  ·rename_i l hl; rw [Row.list]; exact (J6 hl).symm
  ·rfl
 ·rfl
def fW:List UInt8->List Value
 | [] =>[]
 | b ::r=> .int .u8 b.toNat ::fW r
theorem U2 (l:List UInt8):fW l=l.map fun b=>zO2 .u8 b.toNat:=by
 induction l with
 | nil=>rfl
 | cons b r ih=>simp [fW,ih]
def kM (H:Heap) (sz:Nat) (x:Value):Option (Nat×List Value):=
 match x with
 | .slice (some ⟨p,o,_⟩) m _=>match cC H p o (m*sz) with
  | some cs=>match cs.all o1x && zO1 0 m with
   | true=>some (m,cs)
   | false=>none
  | none=>none
 | .string s=>match zO0 sz 1 && zO1 0 s.data.toList.length with
  | true=>some (s.data.toList.length,fW s.data.toList)
  | false=>none
 | _=>none
def i0y (x:Value):Bool:=
 match x with
 | .slice none 0 _=>true
 | .slice (some ⟨_,_,none⟩) 0 _=>true
 | .string s=>zO0 s.data.toList.length 0
 | _=>false
def s2x (d:TypeDesc):Bool:=
 match d with
 | .slice _=>true
 | .string=>true
 | _=>false
def i1q:Row->Nat
 | .vals xs=>xs.length
 | .ints _ ns=>ns.length
theorem c1t (r:Row):i1q r=r.list.length:=by cases r <;> simp [i1q,Row.list]
def W0 (P:Program) (auto:Bool) (ts:List TypeId) (H:Heap) (n:Nat) (args:List Value):Option (Value×Heap×List Prop):=
 match ts,args with
 | [t,t2],[s,x] =>match bC P t,bC P t2 with
  | some (.slice e),some d=>match s2x d,gA P e with
   | true,some i=>match i.zero with
    | none=>none
    | some z=>match zO1 0 i.size && zO0 z.cells.size i.size,kM H i.size x with
     | true,some (m,news)=>match s with
      | .slice none 0 0=>match P9 auto (m*i.bytes<=140737488355328∧m<=9223372036854775807) with
       | some l=>some (.slice (some ⟨n,0,some (n+1)⟩) m 0,(n, .row e i.size (d0b news) (n+1)) ::H,l)
       | none=>none
      | .slice (some ⟨j,0,some k⟩) n0 0=>match H.get j with
       | some (.row e' sz r k')=>match zO0 e' e && zO0 sz i.size && zO0 k' k,k1v r news,P9 auto (n0*i.size=i1q r∧(n0+m)*i.bytes<=140737488355328∧n0+m<=9223372036854775807) with
        | true,some r',some l=>some (.slice (some ⟨n,0,some (n+1)⟩) (n0+m) 0,(n, .row e i.size r' (n+1)) ::H6 j H,l)
        | _,_,_=>none
       | _=>none
      | .slice (some ⟨j,off,none⟩) n0 c=>match H.get j with
       | some (.cells cs e')=>match Nat.ble (n0+m) c with
        | true=>match Nat.ble (off+n0*i.size+news.length) cs.length with
         | true=>some (.slice (some ⟨j,off,none⟩) (n0+m) c,H.set j (.cells (cs.take (off+n0*i.size)++news++cs.drop (off+n0*i.size+news.length)) e'),[])
         | false=>none
        | false=>match Nat.ble (off+n0*i.size) cs.length,P9 auto ((n0+m)*i.bytes<=140737488355328∧n0+m<=9223372036854775807∧c<=n0+m) with
         | true,some l=>some (.slice (some ⟨n,0,some (n+1)⟩) (n0+m) 0,(n, .row e i.size (d0b (((cs.drop off).take (n0*i.size))++news)) (n+1)) ::H,l)
         | _,_=>none
       | _=>none
      | _=>none
     | true,none=>match i0y x with
      | true=>match s with
       | .slice none 0 0=>some (s,H,[])
       | .slice (some ⟨_,_,none⟩) n0 c=>match Nat.ble n0 c with
        | true=>some (s,H,[])
        | false=>none
       | _=>none
      | false=>none
     | _,_=>none
   | _,_=>none
  | _,_=>none
 | _,_=>none
def o1e:Builtin->Bool
 | .append=>true
 | _=>false
theorem a0r {b:Builtin} (h:o1e b=true):b= .append:=by
 cases b <;> first | rfl | (cases h; done)
theorem ORep.same {B:Nat} {M:Nat->Prop} {E:Num} {w w':World} {ob:Option Nat} {o:AObj} (h:ORep B M E w ob o) (hb:∀ b,ob=some b->w'.heap[b]? =w.heap[b]?):ORep B M E w' ob o:=by
 cases o with
 | row e sz r k=>
  rcases h with h | ⟨b,cap,cur,h1,h2,h3,h4⟩
  ·exact .inl h
  ·exact .inr ⟨b,cap,cur,h1,h2,h3.to (hb b h1),h4⟩
 | cells cs t=>obtain⟨b,h1,h2,h3⟩:=h; exact⟨b,h1,(hb b h1).trans h2,h3⟩
 | iter s pos=>obtain⟨b,h1,h2,h3⟩:=h; exact⟨b,h1,(hb b h1).trans h2,h3⟩
 | ints k xs=>
  rcases h with h | ⟨b,cs,t,fr,h1,h2,h3⟩
  ·exact .inl h
  ·exact .inr ⟨b,cs,t,fr,h1,(hb b h1).trans h2,h3⟩
 | loop st pn ts ps asg bd=>obtain⟨b,r,h1,h2,h3⟩:=h; exact⟨b,r,h1,(hb b h1).trans h2,h3⟩
 | defr=>obtain⟨b,h1,h2,h3⟩:=h; exact⟨b,h1,(hb b h1).trans h2,h3⟩
 | dead=>obtain⟨b,o,h1,h2,h3⟩:=h; exact⟨b,o,h1,(hb b h1).trans h2,h3⟩
 | ro xs=>
  rcases h with h | ⟨b,cs,t,fr,h1,h2,h3⟩
  ·exact .inl h
  ·exact .inr ⟨b,cs,t,fr,h1,(hb b h1).trans h2,h3⟩
 | map es=>obtain⟨b,mes,ck,h1,h2,h3⟩:=h; exact⟨b,mes,ck,h1,(hb b h1).trans h2,h3⟩
 | fam f n sz o=>
  rcases h with h | ⟨b,cs,t,fr,h1,h2,h3⟩
  ·exact .inl h
  ·exact .inr ⟨b,cs,t,fr,h1,(hb b h1).trans h2,h3⟩
theorem Sim.row {P:Program} {B:Nat} {M:Nat->Prop} {E:Num} {H H':Heap} {w w':World} (h:Sim P B M E H w) {n g cap:Nat} {e:TypeId} {sz:Nat} {r:Row} {cur:Array Value}
  (hH:∀ i o,i≠n->H'.get i=some o->H.get i=some o∧E i≠some g) (hn:E n=some g) (hc:E (n+1)=some cap) (hg:RowAt w' g cur e) (hB:B<=g∨M g) (hcm:cap<=maxLen) (hcs:cur.size=cap*sz)
  (hln:r.list.length<=cap*sz) (htake:cur.toList.take r.list.length=rvL E r.list) (hk:∀ k,k < w.heap.size->k≠g->w'.heap[k]? =w.heap[k]?):Sim P B M E ((n, .row e sz r (n+1)) ::H') w':=by
 refine⟨h.glob,fun i o hi=> ?_,fun i j oi oj hi hr hj hij hne=> ?_⟩
 ·rw [b6] at hi
  split at hi
  ·rename_i e; subst e; cases hi
   rw [hn]
   exact .inr ⟨g,cap,cur,rfl,hc,hg,hB,hcm,hcs,hln,htake⟩
  ·rename_i hni
   obtain⟨h1,h2⟩:=hH i o (fun e=>hni e.symm) hi
   have ho:=h.obj i o h1
   refine ho.same fun b hb=>hk b ?_ (fun e=>h2 (by rw [hb,e]))
   rw [hb] at ho
   exact ho.lt
 ·rw [b6] at hi hj
  split at hi <;> split at hj
  ·rename_i e1 e2; exact absurd (e1.symm.trans e2) hij
  ·rename_i e1 e2; subst e1
   intro e
   exact (hH j oj (fun e=>e2 e.symm) hj).2 (by rw [<- e,hn])
  ·rename_i e1 e2; subst e2
   intro e
   exact (hH i oi (fun e=>e1 e.symm) hi).2 (by rw [e,hn])
  ·rename_i e1 e2
   exact h.inj i j oi oj (hH i oi (fun e=>e1 e.symm) hi).1 hr (hH j oj (fun e=>e2 e.symm) hj).1 hij hne
theorem zR (E:Num) (l:List UInt8):rvL E (fW l)=fW l:=rvL_pure E _ (by rw [J1,U2]; simp [D3])
theorem pL {P:Program} {B:Nat} {M:Nat->Prop} {E:Num} {H:Heap} {w:World} (hS:Sim P B M E H w) {sz:Nat} {x:Value} {m:Nat} {news:List Value} (h:kM H sz x=some (m,news)) {tx:TypeId} {d:TypeDesc} (ht:P.underlying tx=some d) (hd:s2x d=true):
  Src P sz tx (rv E x) m (rvL E news) w∧0 < m:=by
 have hk:(∃ e',P.underlying tx=some (.slice e'))∨P.underlying tx=some .string:=by
  unfold s2x at hd
  split at hd
  ·exact .inl ⟨_,ht⟩
  ·exact .inr ht
  ·cases hd
 unfold kM at h
 split at h
 ·rename_i p o sp m' c
  split at h
  case h_2=>cases h
  rename_i cs hcs
  split at h
  case h_2=>cases h
  rename_i hc
  cases h
  simp only [A9,G1,zzA41] at hc
  obtain⟨h2,h3⟩:=hc
  obtain⟨b,hb,hlen,hcell⟩:=aC hS hcs
  have hrv:∃ c',rv E (.slice (some ⟨p,o,sp⟩) m c)= .slice (some ⟨b,o,none⟩) m c':=by
   cases sp with
   | none=>exact⟨c,by simp [rv,rSl,w8,hb]⟩
   | some k=>exact⟨_,by simp [rv,rSl,hb]; rfl⟩
  obtain⟨c',hrv⟩:=hrv
  have hone:∀ u∈rvL E news,u.oneCell'=true:=fun u hu=>by
   rw [o9] at hu
   obtain⟨u0,hu0,rfl⟩:=zzA43.1 hu
   exact c0r E u0 (h2 u0 hu0)
  have hl:(rvL E news).length=m*sz:=by rw [o9,D1]; exact hlen
  rw [hrv]
  have hnews:∀ j u,(rvL E news)[j]? =some u->w.cell? ((⟨b,o,none⟩:Addr).add j)=some u:=fun j u hj=>by rw [v8]; exact hcell j u hj
  exact⟨⟨hk,fun _=>rfl,b0j w sz m _ m c' _ hl hnews,b0j w.drew sz m _ m c' _ hl (by simpa using hnews),hl,hone⟩,h3⟩
 ·rename_i s
  split at h
  case h_2=>cases h
  rename_i hc
  simp only [A9,B7,G1] at hc
  obtain⟨h1,h2⟩:=hc
  subst h1
  cases h
  rw [zR]
  have hb:fW s.data.toList=byteCells s:=U2 _
  have hsz:s.data.toList.length=s.size:=by rw [cB]; rfl
  rw [hb,hsz]
  have he:rv E (.string s)= .string s:=by simp [rv]
  rw [he]
  refine⟨⟨hk,fun _=>rfl,firstCells_string s w,firstCells_string s w.drew,by rw [byteCells_length,u9],fun u hu=> ?_⟩,by rw [<- hsz]; exact h2⟩
  obtain⟨_,_,rfl⟩:=zzA43.1 hu
  rfl
 ·cases h
theorem T9 {P:Program} (w:World) (t tx ty e e2:TypeId) (i:TypeInfo) (ht:P.underlying t=some (.slice e)) (hi:P.info? e=some i) (g off sLen sCap:Nat) (cur:Array Value) (hg:RowAt w g cur e2)
  (x:Value) (m:Nat) (news:List Value) (hs:Src P i.size tx x m news w) (hroom:sLen+m<=sCap) (hfit:off+sLen*i.size+news.length<=cur.size):
  (Builtin.append_ #[t,tx] ty #[.slice (some ⟨g,off,none⟩) sLen sCap,x]).run P w=
   .ok (.slice (some ⟨g,off,none⟩) (sLen+m) sCap) (w.setRow g (cur.toList.take (off+sLen*i.size)++news++cur.toList.drop (off+sLen*i.size+news.length)).toArray):=by
 have hst:=F6 P g (off+sLen*i.size) e2 news 0 cur w hg (by simpa using hfit) hs.one
 simp only [I1] at hst
 rcases hs.kind with ⟨e',hk⟩ | hk <;> simp [Builtin.append_,run_underlying ht,run_underlying hk,sizeOf,typeInfo,hi,hs.len,hroom,hs.cells,Addr.add_lit,hst]
theorem vL {P:Program} (w:World) (t tx ty e:TypeId) (i:TypeInfo) (ht:P.underlying t=some (.slice e)) (hi:P.info? e=some i) (hk:(∃ e',P.underlying tx=some (.slice e'))∨P.underlying tx=some .string) (base:Option Addr) (sLen sCap:Nat)
  (x:Value) (hl:∀ w':World,(Builtin.lenOf x).run P w'= .ok 0 w') (hc:(Builtin.firstCells i.size 0 x).run P w= .ok #[] w) (hroom:sLen<=sCap):
  (Builtin.append_ #[t,tx] ty #[.slice base sLen sCap,x]).run P w= .ok (.slice base sLen sCap) w:=by
 rcases hk with ⟨e',hk⟩ | hk <;> cases base <;> simp [Builtin.append_,run_underlying ht,run_underlying hk,sizeOf,typeInfo,hi,hl,hroom,hc,storeCells]
theorem h0j {P:Program} {E:Num} {w:World} {sz:Nat} {x:Value} (h:i0y x=true):(∀ w':World,(Builtin.lenOf (rv E x)).run P w'= .ok 0 w')∧(Builtin.firstCells sz 0 (rv E x)).run P w= .ok #[] w:=by
 unfold i0y at h
 split at h
 ·simp only [rv]
  exact⟨fun _=>rfl,i0p w sz 0 0 _⟩
 ·rename_i p o c
  simp only [rv,rSl,w8]
  cases E p with
  | none=>exact⟨fun _=>rfl,i0p w sz 0 0 _⟩
  | some b=>exact⟨fun _=>rfl,b0j w sz 0 ⟨b,o,none⟩ 0 c [] (by simp) (fun j u hj=>by simp at hj)⟩
 ·rename_i s
  have h:=xY h
  have hsz:s.size=0:=by rw [<- h,cB]; rfl
  simp only [rv]
  refine⟨fun _=>by simp [Builtin.lenOf,hsz],?_⟩
  simp [Builtin.firstCells]
 ·cases h
theorem S9 (E:Num) (a b:List Value):rvL E (a++b)=rvL E a++rvL E b:=by simp [o9]
theorem m1o {w:World} {e:TypeId} {z:Value} {sz P9 old:Nat} (hz:z.cells.size=sz) {olds news:List Value} (hl:(olds++news).length=P9*sz) (hm:P9<=maxLen):
  ∃ cur:Array Value,cur=olds.toArray++news.toArray++Builtin.zeroCells z.cells (grownCap w P9 old e-P9)∧cur.size=grownCap w P9 old e*sz∧grownCap w P9 old e<=maxLen∧P9<=grownCap w P9 old e∧cur.toList.take (olds++news).length=olds++news:=by
 have hge:=grownCap_ge w P9 old e
 refine⟨_,rfl,?_,grownCap_le_maxLen w P9 old e hm,hge,?_⟩
 ·have:olds.length+news.length=P9*sz:=by rw [<- G8]; exact hl
  simp only [Array.size_append,x0a,size_zeroCells,hz,this,<- A7]
  congr 1
  omega
 ·simp only [v0d]
  exact zT
theorem cA {P:Program} {auto:Bool} {ts:List TypeId} {H H':Heap} {n:Nat} {args:List Value} {v:Value} {l:List Prop} (h:W0 P auto ts H n args=some (v,H',l)) (hl:l5 l)
  {B:Nat} {M:Nat->Prop} {F:Num->Prop} {E:Num} (hF:F E) {w:World} (hB:B<=w.heap.size) (hS:∀ E',F E'->Sim P B M E' H w) (hA:∀ E',F E'->rvL E' args=rvL E args) (ty:TypeId):
  ∃ v' w' bn bk,(Builtin.append_ ts.toArray ty (rvL E args).toArray).run P w= .ok v' w'∧Keeps B M w w'∧∀ E',F E'->E' n=bn->E' (n+1)=bk->v'=rv E' v∧Sim P B M E' H' w':=by
 unfold W0 at h
 simp only [A8,B0] at h
 split at h
 case h_2=>cases h
 rename_i t t2 s x
 split at h
 case h_2=>cases h
 rename_i e d hu hu2
 split at h
 case h_2=>cases h
 rename_i i hd hi
 split at h
 ·cases h
 rename_i z hz
 have hs2:∀ E',F E'->rv E' s=rv E s∧rv E' x=rv E x:=fun E' ha=>by
  have:=hA E' ha
  simp only [rvL,Z7,P3] at this
  exact this
 have hkind:(∃ e',P.underlying t2=some (.slice e'))∨P.underlying t2=some .string:=by
  unfold s2x at hd
  split at hd
  ·exact .inl ⟨_,hu2⟩
  ·exact .inr hu2
  ·cases hd
 split at h
 case h_3=>cases h
 case h_2=>
  split at h
  case h_2=>cases h
  rename_i hnn
  obtain⟨q1,q2⟩:=h0j (P:=P) (E:=E) (w:=w) (sz:=i.size) hnn
  have fin:∀ base sLen sCap,rv E s= .slice base sLen sCap->sLen<=sCap->∃ v' w' bn bk,(Builtin.append_ #[t,t2] ty (rvL E [s,x]).toArray).run P w= .ok v' w'∧Keeps B M w w'∧∀ E',F E'->E' n=bn->E' (n+1)=bk->v'=rv E' s∧Sim P B M E' H w':=by
   intro base sLen sCap hs hle
   refine⟨rv E s,w,E n,E (n+1),?_,Keeps.refl _ _ _,fun E' ha _ _=> ?_⟩
   ·have:=vL (P:=P) w t t2 ty e i hu hi hkind base sLen sCap (rv E x) q1 q2 hle
    simp only [rvL,hs]
    exact this
   ·exact⟨(hs2 E' ha).1.symm,hS E' ha⟩
  split at h
  ·cases h
   exact fin none 0 0 (by simp [rv]) (d9 _)
  ·rename_i j off n0 c
   split at h
   case h_2=>cases h
   rename_i hle
   cases h
   exact fin _ n0 c (by simp [rv,rSl]; rfl) (dL hle)
  ·cases h
 rename_i m news hsz hnews
 simp only [A9,G1,B7] at hsz
 obtain⟨hpos,hzs⟩:=hsz
 obtain⟨hsrc,hm⟩:=pL (hS E hF) hnews hu2 hd
 have hsame:∀ E',F E'->rvL E' news=rvL E news:=by
  intro E' ha
  obtain⟨hsrc',_⟩:=pL (hS E' ha) hnews hu2 hd
  have h1:=hsrc'.cells
  rw [(hs2 E' ha).2,hsrc.cells] at h1
  injection h1 with h1
  have:=aP Array.toList h1
  simpa using this.symm
 have hnl:=hsrc.newsLen
 have fresh:∀ (N old:Nat) (rl:List Value) (r':Row) (H2:Heap),r'.list=rl++news->(∀ E',F E'->rvL E' rl=rvL E rl)->(rvL E rl++rvL E news).length=N*i.size->N<=maxLen->(∀ i o,H2.get i=some o->H.get i=some o)->
   (Builtin.append_ #[t,t2] ty (rvL E [s,x]).toArray).run P w= .ok (.slice (some ⟨w.heap.size,0,none⟩) N (grownCap w N old e)) (w.drew.alloc (.cells ((rvL E rl++rvL E news).toArray++Builtin.zeroCells z.cells (grownCap w N old e-N)) e))->
   ∃ v' w' bn bk,(Builtin.append_ #[t,t2] ty (rvL E [s,x]).toArray).run P w= .ok v' w'∧Keeps B M w w'∧∀ E',F E'->E' n=bn->E' (n+1)=bk->v'=rv E' (.slice (some ⟨n,0,some (n+1)⟩) N 0)∧Sim P B M E' ((n, .row e i.size r' (n+1)) ::H2) w':=by
  intro N old rl r' H2 hr' hrl hlen hN hH2 hrun
  have hcat:(rvL E rl++rvL E news).toArray=(rvL E rl).toArray++(rvL E news).toArray:=by simp
  rw [hcat] at hrun
  obtain⟨cur,hcur,hcs,hcm,hge,htake⟩:=m1o (w:=w) (e:=e) (z:=z) (old:=old) hzs hlen hN
  rw [<- hcur] at hrun
  refine⟨_,_,some w.heap.size,some (grownCap w N old e),hrun,⟨rfl,rfl,rfl,by simp,fun k hk _=>heap_alloc_old w.drew _ (by simpa using C8 hk hB)⟩,fun E' ha0 g1 g2=> ?_⟩
  refine⟨by simp [rv,rSl,g1,g2],Sim.row (hS E' ha0) (fun i o _ hi=> ?_) g1 g2 (.of (x0m w.drew _)) (.inl hB) hcm hcs ?_ ?_ (fun k hk _=>heap_alloc_old w.drew _ (by simpa using hk))⟩
  ·refine⟨hH2 i o hi,fun e=> ?_⟩
   have:=(hS E' ha0).obj i o (hH2 i o hi)
   rw [e] at this
   exact absurd this.lt (w0u _)
  ·have e1:r'.list.length=N*i.size:=by rw [hr',<- hlen]; simp [o9]
   rw [e1]
   exact w9 _ hge
  ·rw [hr',S9,hrl E' ha0,hsame E' ha0]
   have e1:(rl++news).length=(rvL E rl++rvL E news).length:=by simp [o9]
   rw [e1]
   exact htake
 split at h
 ·
  split at h
  case h_2=>cases h
  rename_i l' hneed
  cases h
  obtain⟨q1,q2⟩:=n7 hneed hl
  refine fresh m 0 [] _ H (pA news) (fun _ _=>rfl) (by simpa [rvL] using hnl) (by unfold maxLen; omega) (fun _ _ h=>h) ?_
  have:=run_append_grow_src (P:=P) w t t2 ty e i z hu hi hz none 0 0 [] (i0p w.drew i.size 0 0 0) (rv E x) m (rvL E news) hsrc (by omega) (by omega) (growslice_fits (by omega) (by simpa using q1))
  simp only [rvL,rv,I0,pF] at this ⊢
  exact this
 ·rename_i j k n0
  split at h
  case h_2=>cases h
  rename_i e' sz r k' hget
  split at h
  case h_2=>cases h
  rename_i r' l' hck hadd hneed
  cases h
  simp only [A9,B7] at hck
  obtain⟨⟨c1,c2⟩,c3⟩:=hck
  subst c1 c2 c3
  obtain⟨q1,q2,q3⟩:=n7 hneed hl
  rw [c1t] at q1
  have hr':=o0x hadd
  have hdel:∀ i o,(H6 j H).get i=some o->H.get i=some o:=fun i o hh=>(I5 j H i o hh).1
  have hss:∀ E',F E'->rv E' (.slice (some ⟨j,0,some k'⟩) n0 0)=rv E (.slice (some ⟨j,0,some k'⟩) n0 0):=fun E' ha=>(hs2 E' ha).1
  have hob:=(hS E hF).obj j _ hget
  rcases hob with ⟨hj,hlist⟩ | ⟨b,cap,cur,hb,hcap,hcells,hbB,hcm,hcs,hln,htake⟩
  ·
   have hn0:n0=0:=by
    rw [hlist] at q1
    simp only [jN] at q1
    rcases Q5 n0 with h0 | h0
    ·exact h0
    ·have:=sP h0 hpos
     omega
   subst hn0
   rw [I0] at q2 q3 ⊢
   refine fresh m 0 [] r' _ (by rw [hr',hlist]) (fun _ _=>rfl) (by simpa [rvL] using hnl) (by unfold maxLen; omega) hdel ?_
   have:=run_append_grow_src (P:=P) w t t2 ty e' i z hu hi hz none 0 0 [] (i0p w.drew i.size 0 0 0) (rv E x) m (rvL E news) hsrc (by omega) (by omega) (growslice_fits (by omega) (by simpa using q2))
   simp only [rvL,rv,rSl,hj,I0,pF] at this ⊢
   exact this
  ·have hnews':∀ E',F E'->E' j=some b:=fun E' ha=>by
    have:=hss E' ha
    simp only [rv,rSl,hb] at this
    split at this
    ·cases this
    ·rename_i b' hb'
     simp only [Value.slice.injEq,U9,Addr.mk.injEq,P3,true_and] at this
     rw [hb',this.1]
   have hrl:∀ E',F E'->rvL E' r.list=rvL E r.list:=fun E' ha=>by
    rcases (hS E' ha).obj j _ hget with ⟨h1,_⟩ | ⟨b',cap',cur',h1,_,h3,_,_,_,_,h8⟩
    ·rw [hnews' E' ha] at h1; cases h1
    ·rw [hnews' E' ha] at h1
     cases h1
     obtain⟨_,hc1,_⟩:=hcells
     obtain⟨_,hc2,_⟩:=h3
     rw [hc1] at hc2
     cases hc2
     rw [<- h8,htake]
   have hs:rv E (.slice (some ⟨j,0,some k'⟩) n0 0)= .slice (some ⟨b,0,none⟩) n0 cap:=by simp [rv,rSl,hb,hcap]
   have hlen:(rvL E r.list).length=n0*i.size:=by rw [o9]; simp; exact q1.symm
   by_cases hroom:n0+m<=cap
   ·have hfit:n0*i.size+(rvL E news).length<=cur.size:=by rw [hnl,hcs,<- A7]; exact w9 _ hroom
    have hrun:=T9 (P:=P) w t t2 ty e' e' i hu hi b 0 n0 cap cur hcells (rv E x) m (rvL E news) hsrc hroom (by simpa using hfit)
    simp only [I0] at hrun
    refine⟨_,w.setRow b (cur.toList.take (n0*i.size)++rvL E news++cur.toList.drop (n0*i.size+(rvL E news).length)).toArray,some b,some cap,by simp only [rvL,hs]; exact hrun,⟨rfl,rfl,rfl,by simp,fun k hk hm=>rA w b k _ (fun e=>by subst e; exact hbB.elim (fun h=>by omega) hm)⟩,fun E' ha0 g1 g2=> ?_⟩
    have hl2:r'.list.length=n0*i.size+(rvL E news).length:=by rw [hr',G8,<- q1]; simp [o9]
    have hsize:(cur.toList.take (n0*i.size)++rvL E news++cur.toList.drop (n0*i.size+(rvL E news).length)).toArray.size=cur.size:=by
     simp only [x0a,G8,E0,C2,cB]
     rw [C6 (by omega)]
     omega
    refine⟨by simp [rv,rSl,g1,g2],Sim.row (hS E' ha0) (fun i' o _ hi'=> ?_) g1 g2 (hcells.set _ hsize) hbB hcm (hsize.trans hcs) ?_ ?_ (fun k _ hk=>rA w b k _ hk)⟩
    ·obtain⟨d1,d2⟩:=I5 j H i' o hi'
     refine⟨d1,fun e=> ?_⟩
     exact (hS E' ha0).inj j i' _ _ hget rfl d1 (fun e=>d2 e.symm) (by rw [hnews' E' ha0]; simp) (by rw [hnews' E' ha0,e])
    ·rw [hl2,hnl,<- A7]; exact w9 _ hroom
    ·rw [hl2,hr',S9,hrl E' ha0,hsame E' ha0,<- htake]
     rw [<- q1]
     have e1:(cur.toList.take (n0*i.size)).length=n0*i.size:=by rw [E0,cB]; omega
     rw [show n0*i.size+(rvL E news).length=(cur.toList.take (n0*i.size)++rvL E news).length by rw [G8,e1]]
     exact zT
   ·have holds:∀ q u,(rvL E r.list)[q]? =some u->w.cell? ((⟨b,0,none⟩:Addr).add q)=some u:=fun q u hq=>by
     rw [o9,Z3] at hq
     cases hxq:r.list[q]? with
     | none=>rw [hxq] at hq; cases hq
     | some u0=>
      rw [hxq] at hq
      cases hq
      rw [v8,I0]
      exact R9 hcells htake hxq
    have hrun:=run_append_grow_src (P:=P) w t t2 ty e' i z hu hi hz (some ⟨b,0,none⟩) n0 cap (rvL E r.list) (b0j w.drew i.size n0 _ n0 cap _ hlen (by simpa using holds)) (rv E x) m (rvL E news) hsrc (by omega) (by omega) (growslice_fits (by omega) q2)
    refine fresh (n0+m) cap r.list r' _ hr' hrl (by rw [G8,hlen,hnl,<- A7]) (by unfold maxLen; omega) hdel ?_
    simp only [rvL,hs]
    exact hrun
 ·rename_i j off n0 c
  split at h
  case h_2=>cases h
  rename_i cs e2 hget
  obtain⟨b,hb,hcells,hown⟩:=(hS E hF).obj j _ hget
  have hs:rv E (.slice (some ⟨j,off,none⟩) n0 c)= .slice (some ⟨b,off,none⟩) n0 c:=by simp [rv,rSl,w8,hb]
  have hbj:∀ E',F E'->E' j=some b:=fun E' ha=>by
   have:=(hs2 E' ha).1
   rw [hs] at this
   simp only [rv,rSl,w8] at this
   cases hq:E' j with
   | none=>rw [hq] at this; cases this
   | some b'=>
    rw [hq] at this
    simp only [E6,Value.slice.injEq,U9,Addr.mk.injEq,P3] at this
    rw [this]
  have hcsame:∀ E',F E'->rvL E' cs=rvL E cs:=fun E' ha=>by
   obtain⟨b',h1,h2,_⟩:=(hS E' ha).obj j _ hget
   rw [hbj E' ha] at h1
   cases h1
   rw [hcells] at h2
   injection h2 with h2
   injection h2 with h2
   have:=aP Array.toList h2
   simpa using this.symm
  have hclen:(rvL E cs).length=cs.length:=by rw [o9,D1]
  split at h
  ·rename_i hroom
   have hroom:=dL hroom
   split at h
   case h_2=>cases h
   rename_i hfit
   have hfit:=dL hfit
   cases h
   have hnlen:(rvL E news).length=news.length:=by rw [o9,D1]
   have hrun:=T9 (P:=P) w t t2 ty e e2 i hu hi b off n0 c (rvL E cs).toArray (.of hcells) (rv E x) m (rvL E news) hsrc hroom (by simp only [x0a]; omega)
   refine⟨_,w.setRow b ((rvL E cs).toArray.toList.take (off+n0*i.size)++rvL E news++(rvL E cs).toArray.toList.drop (off+n0*i.size+(rvL E news).length)).toArray,E n,E (n+1),by simp only [rvL,hs]; exact hrun,⟨rfl,rfl,rfl,by simp,fun k hk hm=>rA w b k _ (fun e=>by subst e; exact hown.elim (fun h=>by omega) hm)⟩,fun E' ha0 _ _=> ?_⟩
   refine⟨by simp [rv,rSl,w8,hbj E' ha0],(hS E' ha0).turn hget rfl (hbj E' ha0) ⟨b,rfl,?_,hown⟩ (fun k hk=>rA w b k _ hk)⟩
   rw [setRow_heap w b _ _ e2 _ hcells]
   congr 2
   have e1:=hcsame E' ha0
   have e2:=hsame E' ha0
   rw [o9,o9] at e1 e2
   simp only [o9,qR,fN,iO,D1]
   rw [e1,e2]
  ·rename_i hnr
   have hnr:c < n0+m:=by
    rcases J4 c (n0+m) with h' | h'
    ·exact h'
    ·rw [v0w h'] at hnr; cases hnr
   split at h
   case h_2=>cases h
   rename_i l' hle hneed
   have hle:=dL hle
   cases h
   obtain⟨q2,q3,_⟩:=n7 hneed hl
   have hlen:(rvL E ((cs.drop off).take (n0*i.size))).length=n0*i.size:=by rw [o9,D1,E0,C2]; omega
   have holds:∀ q u,(rvL E ((cs.drop off).take (n0*i.size)))[q]? =some u->w.cell? ((⟨b,off,none⟩:Addr).add q)=some u:=fun q u hq=>by
    rw [v8,lJ w b (off+q) _ _ _ hcells]
    rw [o9,Z3,T6] at hq
    split at hq
    ·rw [W3] at hq
     simpa [o9] using hq
    ·cases hq
   have hrun:=run_append_grow_src (P:=P) w t t2 ty e i z hu hi hz (some ⟨b,off,none⟩) n0 c (rvL E ((cs.drop off).take (n0*i.size))) (b0j w.drew i.size n0 _ n0 c _ hlen (by simpa using holds)) (rv E x) m (rvL E news) hsrc (by omega) (by omega) (growslice_fits (by omega) q2)
   refine fresh (n0+m) c ((cs.drop off).take (n0*i.size)) _ _ (pA _) (fun E' ha=> ?_) (by rw [G8,hlen,hnl,<- A7]) (by unfold maxLen; omega) (fun _ _ h=>h) ?_
   ·have:=hcsame E' ha
    rw [o9,o9] at this
    rw [o9,o9,fN,iO,this,fN,iO]
   ·simp only [rvL,hs]
    exact hrun
 ·cases h
theorem yV {P:Program} {auto:Bool} {ts:List TypeId} {H H':Heap} {n:Nat} {args:List Value} {v:Value} {l:List Prop} (h:W0 P auto ts H n args=some (v,H',l)) (hl:l5 l)
  {B:Nat} {M:Nat->Prop} {E:Num} {w:World} (hB:B<=w.heap.size) (hS:∀ E',Agree n E E'->Sim P B M E' H w) (hA:∀ E',Agree n E E'->rvL E' args=rvL E args) (ty:TypeId):
  ∃ v' w' ρ1,Agree n E ρ1∧(Builtin.append_ ts.toArray ty (rvL E args).toArray).run P w= .ok v' w'∧Keeps B M w w'∧∀ E',Agree (n+2) ρ1 E'->v'=rv E' v∧Sim P B M E' H' w':=by
 obtain⟨v',w',bn,bk,h1,h2,h3⟩:=cA h hl (F:=Agree n E) (Agree.refl _ _) hB hS hA ty
 refine⟨v',w',fun i=>if i=n then bn else if i=n+1 then bk else E i,fun i hi=>by simp only; rw [a7 (by omega),a7 (by omega)],h1,h2,fun E' ha=>h3 E' (fun i hi=> ?_) ?_ ?_⟩
 ·rw [ha i (by omega)]; simp only; rw [a7 (by omega),a7 (by omega)]
 ·rw [ha n (by omega)]; simp
 ·rw [ha (n+1) (by omega)]; simp
def dD (args:List Value):List Nat:=
 match args with
 | .slice (some ⟨j,_,_⟩) _ _ ::_=>[j]
 | _=>[]
theorem k0j {H H2:Heap} (hs:∀ i o,H.get i=some o->H2.get i=some o) {p o k:Nat} {cs:List Value} (h:cC H p o k=some cs):cC H2 p o k=some cs:=by
 unfold cC at h ⊢
 cases hq:H.get p with
 | none=>rw [hq] at h; cases h
 | some ob=>rw [hq] at h; rw [hs p ob hq]; exact h
theorem r0p {H H2:Heap} (hs:∀ i o,H.get i=some o->H2.get i=some o) {sz:Nat} {x:Value} {q:Nat×List Value} (h:kM H sz x=some q):kM H2 sz x=some q:=by
 unfold kM at h ⊢
 split at h
 ·rename_i p o sp m c
  split at h
  ·rename_i cs hcs
   simp only [k0j hs hcs]
   exact h
  ·cases h
 ·exact h
 ·cases h
theorem o0z {H:Heap} {sz:Nat} {x:Value} (h:i0y x=true):kM H sz x=none:=by
 unfold i0y at h
 split at h
 ·rfl
 ·simp [kM]
  split
  ·rw [show zO1 0 0=false from rfl,Bool.and_false]
  ·rfl
 ·rename_i s
  have:=xY h
  simp only [kM,this]
  rw [show zO1 0 0=false from rfl,Bool.and_false]
 ·cases h
theorem zF {P:Program} {auto:Bool} {ts:List TypeId} {H H' H2:Heap} {n:Nat} {args:List Value} {v:Value} {l:List Prop} (h:W0 P auto ts H n args=some (v,H',l)) (hs:∀ i o,H.get i=some o->H2.get i=some o):
  ∃ H2',W0 P auto ts H2 n args=some (v,H2',l)∧(∀ i o,(i=n∨i∈dD args)->H'.get i=some o->H2'.get i=some o)∧(∀ i,i≠n->i ∉ dD args->H2'.get i=H2.get i):=by
 have same:∀ i o,(i=n∨i∈dD args)->H.get i=some o->H2.get i=some o:=fun i o _=>hs i o
 unfold W0 at h ⊢
 split at h
 case h_2=>cases h
 rename_i t t2 s x
 split at h
 case h_2=>cases h
 rename_i e d hu hu2
 try simp only [hu,hu2]
 split at h
 case h_2=>cases h
 rename_i i hd hi
 try simp only [hd,hi]
 split at h
 ·cases h
 rename_i z hz
 split at h
 case h_3=>cases h
 case h_2=>
  rename_i hsz hnews
  split at h
  case h_2=>cases h
  rename_i hnn
  try simp only [hsz,o0z hnn]
  split at h
  ·cases h; exact⟨H2,rfl,same,fun _ _ _=>rfl⟩
  ·split at h
   case h_2=>cases h
   rename_i hle
   cases h
   try simp only [hle]
   exact⟨H2,rfl,same,fun _ _ _=>rfl⟩
  ·cases h
 rename_i m news hsz hnews
 try simp only [hsz,r0p hs hnews]
 have front:∀ (ob:AObj) (G G2:Heap),(∀ i o,i≠n->G.get i=some o->i∈dD [s,x] ->G2.get i=some o)->(∀ i,i≠n->i ∉ dD [s,x] ->G2.get i=H2.get i)->
   (∀ i o,(i=n∨i∈dD [s,x])->Heap.get ((n,ob) ::G) i=some o->Heap.get ((n,ob) ::G2) i=some o)∧(∀ i,i≠n->i ∉ dD [s,x] ->Heap.get ((n,ob) ::G2) i=H2.get i):=by
  intro ob G G2 h1 h2
  refine⟨fun i o hi hg=> ?_,fun i h3 h4=> ?_⟩
  ·rw [b6] at hg ⊢
   split at hg
   ·rename_i e; rw [f9 e]; exact hg
   ·rename_i e
    rw [a7 e]
    exact h1 i o (fun e'=>e e'.symm) hg (hi.resolve_left (fun e'=>e e'.symm))
  ·rw [b6,a7 (fun e=>h3 e.symm)]
   exact h2 i h3 h4
 split at h
 ·split at h
  case h_2=>cases h
  rename_i l' hneed
  cases h
  try simp only [hneed]
  exact⟨_,rfl,front _ _ _ (fun i o _ hg _=>hs i o hg) (fun _ _ _=>rfl)⟩
 ·rename_i j k n0
  split at h
  case h_2=>cases h
  rename_i e' sz r k' hget
  try simp only [hs _ _ hget]
  split at h
  case h_2=>cases h
  rename_i r' l' hck hadd hneed
  cases h
  try simp only [hck,hadd,hneed]
  refine⟨_,rfl,front _ _ _ (fun i o _ hg hb=> ?_) (fun i _ hb=> ?_)⟩
  ·simp only [dD,zzA86,V2,U7] at hb
   exact absurd hb (I5 j H i o hg).2
  ·simp only [dD,zzA86,V2,U7] at hb
   exact N5 j H2 i hb
 ·rename_i j off n0 c
  split at h
  case h_2=>cases h
  rename_i cs e2 hget
  try simp only [hs _ _ hget]
  split at h
  ·rename_i hroom
   try simp only [hroom]
   split at h
   case h_2=>cases h
   rename_i hfit
   cases h
   try simp only [hfit]
   refine⟨_,rfl,fun i o hi hg=> ?_,fun i h1 h2=> ?_⟩
   ·rw [p9 _ _ _ _ (hs _ _ hget)]
    rw [p9 _ _ _ _ hget] at hg
    split at hg
    ·rename_i e; rw [f9 e]; exact hg
    ·rename_i e; rw [a7 e]; exact hs i o hg
   ·rw [p9 _ _ _ _ (hs _ _ hget),a7 (fun e=>h2 (by rw [<- e]; simp [dD]))]
  ·rename_i hnr
   try simp only [hnr]
   split at h
   case h_2=>cases h
   rename_i l' hle hneed
   cases h
   try simp only [hle,hneed]
   exact⟨_,rfl,front _ _ _ (fun i o _ hg _=>hs i o hg) (fun _ _ _=>rfl)⟩
 ·cases h
end
noncomputable section
def rC (a b:Nat):Nat:=match Nat.ble a b with
 | true=>a
 | false=>b
theorem n0k (a b:Nat):rC a b=Nat.min a b:=by
 unfold rC
 split
 ·rename_i h; exact (C6 (dL h)).symm
 ·rename_i h
  have:b<=a:=by
   rcases J4 b a with h' | h'
   ·omega
   ·rw [v0w h'] at h; cases h
  exact (M2 this).symm
def g1w (H:Heap) (sz dn:Nat) (x:Value):Option (Nat×List Value):=
 match x with
 | .slice none n _=>match zO0 (rC n dn) 0 with
  | true=>some (0,[])
  | false=>none
 | .slice (some ⟨p,o,_⟩) m _=>match cC H p o (rC m dn*sz) with
  | some cs=>match cs.all o1x with
   | true=>some (rC m dn,cs)
   | false=>none
  | none=>none
 | .string s=>match zO0 sz 1 with
  | true=>some (rC s.data.toList.length dn,fW (s.data.toList.take (rC s.data.toList.length dn)))
  | false=>none
 | _=>none
theorem oV {P:Program} {B:Nat} {M:Nat->Prop} {E:Num} {H:Heap} {w:World} (hS:Sim P B M E H w) {sz dn:Nat} {x:Value} {k:Nat} {news:List Value} (h:g1w H sz dn x=some (k,news)):
  (∃ xl,(∀ w':World,(Builtin.lenOf (rv E x)).run P w'= .ok xl w')∧k=Nat.min xl dn)∧(Builtin.firstCells sz k (rv E x)).run P w= .ok (rvL E news).toArray w∧(∀ u∈rvL E news,u.oneCell'=true)∧news.length=k*sz:=by
 unfold g1w at h
 split at h
 ·rename_i n c
  split at h
  case h_2=>cases h
  rename_i hz
  have hz:=xY hz
  rw [n0k] at hz
  cases h
  simp only [rv]
  exact⟨⟨n,fun _=>rfl,hz.symm⟩,i0p w sz 0 n c,fun u hu=>by simp [rvL] at hu,by simp⟩
 ·rename_i p o sp m c
  split at h
  case h_2=>cases h
  rename_i cs hcs
  split at h
  case h_2=>cases h
  rename_i hone
  cases h
  obtain⟨b,hb,hlen,hcell⟩:=aC hS hcs
  have hrv:∃ c',rv E (.slice (some ⟨p,o,sp⟩) m c)= .slice (some ⟨b,o,none⟩) m c':=by
   cases sp with
   | none=>exact⟨c,by simp [rv,rSl,w8,hb]⟩
   | some k=>exact⟨_,by simp [rv,rSl,hb]; rfl⟩
  obtain⟨c',hrv⟩:=hrv
  rw [hrv]
  refine⟨⟨m,fun _=>rfl,n0k _ _⟩,b0j w sz _ ⟨b,o,none⟩ m c' _ (by rw [o9,D1]; exact hlen) (fun j u hj=>by rw [v8]; exact hcell j u hj),fun u hu=> ?_,hlen⟩
  rw [o9] at hu
  obtain⟨u0,hu0,rfl⟩:=zzA43.1 hu
  exact c0r E u0 (zzA41.1 hone u0 hu0)
 ·rename_i s
  split at h
  case h_2=>cases h
  rename_i hz
  have hz:=xY hz
  subst hz
  cases h
  have hsz:s.data.toList.length=s.size:=by rw [cB]; rfl
  simp only [rv]
  rw [zR,hsz,n0k]
  refine⟨⟨s.size,fun _=>rfl,rfl⟩,?_,fun u hu=> ?_,?_⟩
  ·simp only [Builtin.firstCells,V3]
   congr 1
   apply gZ
   rw [zE,ByteArray.data_extract,Array.toList_extract,U2]
   simp [List.extract]
  ·rw [U2] at hu
   obtain⟨_,_,rfl⟩:=zzA43.1 hu
   rfl
  ·rw [U2,D1,E0,hsz,u9]
   exact C6 (Nat.min_le_left _ _)
 ·cases h
def l1t (P:Program) (ts:List TypeId) (H:Heap) (args:List Value):Option (Value×Heap):=
 match ts,args with
 | [t,_],[.slice da dn _,x] =>match bC P t with
  | some (.slice e)=>match gA P e with
   | some i=>match g1w H i.size dn x with
    | some (k,news)=>match da with
     | none=>match news with
      | [] =>some (.int .i64 k,H)
      | _=>none
     | some ⟨j,off,none⟩=>match H.get j with
      | some (.cells cs e')=>match Nat.ble (off+news.length) cs.length with
       | true=>some (.int .i64 k,H.set j (.cells (cs.take off++news++cs.drop (off+news.length)) e'))
       | false=>none
      | _=>none
     | some ⟨_,_,some _⟩=>match news with
      | [] =>some (.int .i64 k,H)
      | _=>none
    | none=>none
   | none=>none
  | _=>none
 | _,_=>none
theorem P2 {P:Program} (w w':World) (t t2 ty e:TypeId) (i:TypeInfo) (hu:P.underlying t=some (.slice e)) (hi:P.info? e=some i) (x:Value) (xl dn dc:Nat) (hl:(Builtin.lenOf x).run P w= .ok xl w) (news:List Value)
  (hc:(Builtin.firstCells i.size (Nat.min xl dn) x).run P w= .ok news.toArray w) (base:Option Addr) (hst:∀ a,base=some a->(storeCells a news).run P w= .ok () w') (hno:base=none->w'=w):
  (Builtin.copy_ #[t,t2] ty #[.slice base dn dc,x]).run P w= .ok (.int .i64 (Nat.min xl dn:Nat)) w':=by
 cases base with
 | none=>
  obtain rfl:=hno rfl
  simp [Builtin.copy_,run_underlying hu,hl,sizeOf,typeInfo,hi,hc,goInt]
 | some a=>
  have:=hst a rfl
  simp [Builtin.copy_,run_underlying hu,hl,sizeOf,typeInfo,hi,hc,goInt,this]
theorem h0i {P:Program} {ts:List TypeId} {H H':Heap} {n:Nat} {args:List Value} {v:Value} (h:l1t P ts H args=some (v,H'))
  {B:Nat} {M:Nat->Prop} {E:Num} {w:World} (hS:∀ E',Agree n E E'->Sim P B M E' H w) (hA:∀ E',Agree n E E'->rvL E' args=rvL E args) (ty:TypeId):
  ∃ v' w' ρ1,Agree n E ρ1∧(Builtin.copy_ ts.toArray ty (rvL E args).toArray).run P w= .ok v' w'∧Keeps B M w w'∧∀ E',Agree n ρ1 E'->v'=rv E' v∧Sim P B M E' H' w':=by
 unfold l1t at h
 simp only [A8,B0] at h
 split at h
 case h_2=>cases h
 rename_i t t2 da dn dc x
 split at h
 case h_2=>cases h
 rename_i e hu
 split at h
 case h_2=>cases h
 rename_i i hi
 split at h
 case h_2=>cases h
 rename_i k news hcp
 have hs2:∀ E',Agree n E E'->rv E' (.slice da dn dc)=rv E (.slice da dn dc)∧rv E' x=rv E x:=fun E' ha=>by
  have:=hA E' ha
  simp only [rvL,Z7,P3] at this
  exact this
 obtain⟨⟨xl,hl,hk⟩,hc,hone,hlen⟩:=oV (hS E (Agree.refl _ _)) hcp
 rw [hk] at hc
 split at h
 ·split at h
  case h_2=>cases h
  cases h
  refine⟨.int .i64 (Nat.min xl dn:Nat),w,E,Agree.refl _ _,?_,Keeps.refl _ _ _,fun E' ha=>⟨?_,hS E' ha⟩⟩
  ·simp only [rvL,rv]
   exact P2 w w t t2 ty e i hu hi (rv E x) xl dn dc (hl w) _ hc none (fun a ha=>by cases ha) (fun _=>rfl)
  ·simp only [rv,hk]
 ·rename_i j off
  split at h
  case h_2=>cases h
  rename_i cs e2 hget
  split at h
  case h_2=>cases h
  rename_i hfit
  have hfit:=dL hfit
  cases h
  obtain⟨b,hb,hcells,hown⟩:=(hS E (Agree.refl _ _)).obj j _ hget
  have hs:rv E (.slice (some ⟨j,off,none⟩) dn dc)= .slice (some ⟨b,off,none⟩) dn dc:=by simp [rv,rSl,w8,hb]
  have hbj:∀ E',Agree n E E'->E' j=some b:=fun E' ha=>by
   have:=(hs2 E' ha).1
   rw [hs] at this
   simp only [rv,rSl,w8] at this
   cases hq:E' j with
   | none=>rw [hq] at this; cases this
   | some b'=>
    rw [hq] at this
    simp only [E6,Value.slice.injEq,U9,Addr.mk.injEq,P3] at this
    rw [this]
  have hcsame:∀ E',Agree n E E'->rvL E' cs=rvL E cs:=fun E' ha=>by
   obtain⟨b',h1,h2,_⟩:=(hS E' ha).obj j _ hget
   rw [hbj E' ha] at h1
   cases h1
   rw [hcells] at h2
   injection h2 with h2
   injection h2 with h2
   have:=aP Array.toList h2
   simpa using this.symm
  have hsame:∀ E',Agree n E E'->rvL E' news=rvL E news:=fun E' ha=>by
   obtain⟨⟨xl',hl',hk'⟩,hc',_,_⟩:=oV (hS E' ha) hcp
   rw [(hs2 E' ha).2,hk] at hc'
   rw [hc] at hc'
   injection hc' with hc'
   have:=aP Array.toList hc'
   simpa using this.symm
  have hnlen:(rvL E news).length=news.length:=by rw [o9,D1]
  have hclen:(rvL E cs).length=cs.length:=by rw [o9,D1]
  have hst:=run_storeCells_at P b off e2 (rvL E news) 0 (rvL E cs).toArray w hcells (by simp only [x0a]; omega) hone
  simp only [I1] at hst
  refine⟨.int .i64 (Nat.min xl dn:Nat),w.setRow b ((rvL E cs).toArray.toList.take off++rvL E news++(rvL E cs).toArray.toList.drop (off+(rvL E news).length)).toArray,E,Agree.refl _ _,?_,⟨rfl,rfl,rfl,by simp,fun k hk hm=>rA w b k _ (fun e=>by subst e; exact hown.elim (fun h=>by omega) hm)⟩,fun E' ha=>⟨?_,(hS E' ha).turn hget rfl (hbj E' ha) ⟨b,rfl,?_,hown⟩ (fun k hk=>rA w b k _ hk)⟩⟩
  ·simp only [rvL,hs]
   exact P2 w _ t t2 ty e i hu hi (rv E x) xl dn dc (hl w) _ hc (some ⟨b,off,none⟩) (fun a ha=>by cases ha; exact hst) (fun h=>by cases h)
  ·simp only [rv,hk]
  ·rw [setRow_heap w b _ _ e2 _ hcells]
   congr 2
   have e1:=hcsame E' ha
   have e2:=hsame E' ha
   rw [o9,o9] at e1 e2
   simp only [o9,qR,fN,iO,D1]
   rw [e1,e2]
 ·rename_i j off kk
  split at h
  case h_2=>cases h
  cases h
  refine⟨.int .i64 (Nat.min xl dn:Nat),w,E,Agree.refl _ _,?_,Keeps.refl _ _ _,fun E' ha=>⟨?_,hS E' ha⟩⟩
  ·simp only [rvL,rv,rSl]
   cases hq:E j with
   | none=>exact P2 w w t t2 ty e i hu hi (rv E x) xl dn 0 (hl w) _ hc none (fun a ha=>by cases ha) (fun _=>rfl)
   | some b=>exact P2 w w t t2 ty e i hu hi (rv E x) xl dn _ (hl w) _ hc (some ⟨b,off,none⟩) (fun a ha=>by cases ha; rfl) (fun h=>by cases h)
  ·simp only [rv,hk]
def dO:List Value->Option (List UInt8)
 | [] =>some []
 | v ::r=>match v with
  | .int .u8 (.ofNat n)=>match zO1 n 256,dO r with
   | true,some l=>some (zO4 n ::l)
   | _,_=>none
  | _=>none
theorem qA:∀ {l:List Value} {bs:List UInt8},dO l=some bs->l=fW bs
 | [],bs,h=>by simp only [dO] at h; cases h; rfl
 | v ::r,bs,h=>by
  simp only [dO] at h
  split at h
  ·rename_i n
   split at h
   ·rename_i l hn hl
    cases h
    rw [qA hl,fW]
    have hn:n < 256:=by simpa [Nat.blt_eq] using hn
    have:(zO4 n).toNat=n:=by simp [UInt8.toNat_ofNat']; omega
    rw [this]
    rfl
   ·cases h
  ·cases h
def r0d (H:Heap) (j n:Nat):Option (TypeId×List UInt8):=
 match H.get j with
 | some (.cells cs e)=>match Nat.ble n cs.length,dO (cs.take n) with
  | true,some l=>some (e,l)
  | _,_=>none
 | some (.row e _ (.ints .u8 ns) _)=>match Nat.ble n ns.length,dO ((ns.take n).map (.int .u8)) with
  | true,some l=>some (e,l)
  | _,_=>none
 | some (.row e _ (.vals xs) _)=>match Nat.ble n xs.length,dO (xs.take n) with
  | true,some l=>some (e,l)
  | _,_=>none
 | _=>none
def d0m (P:Program) (ts:List TypeId) (H:Heap) (args:List Value):Option (Value×Heap):=
 match ts,args with
 | [t,_],[.pointer p, .int .i64 (.ofNat n)] =>match n with
  | 0=>some (.string ⟨⟨[]⟩⟩,H)
  | n+1=>match p with
   | some ⟨j,0,none⟩=>match r0d H j (n+1),bC P t with
    | some (e,l),some (.pointer e2)=>match zO0 e e2 && zO0 (P.cellsOf e) 1 && Nat.ble (n+1) 9223372036854775807 with
     | true=>some (.string ⟨⟨l⟩⟩,H.set j .dead)
     | false=>none
    | _,_=>none
   | _=>none
 | _,_=>none
theorem d0l {P:Program} {B:Nat} {M:Nat->Prop} {E:Num} {H:Heap} {w:World} (hS:Sim P B M E H w) {j n:Nat} {e:TypeId} {l:List UInt8} (h:r0d H j (n+1)=some (e,l)):
  ∃ b cur o0,E j=some b∧H.get j=some o0∧o0.rw=true∧RowAt w b cur e∧(B<=b∨M b)∧n+1<=cur.size∧l.length=n+1∧∀ k x,l[k]? =some x->w.cell? ((⟨b,0,none⟩:Addr).add k)=some (.int .u8 x.toNat):=by
 have fin:∀ (xs:List Value),dO (xs.take (n+1))=some l->n+1<=xs.length->l.length=n+1∧∀ (k:Nat) (x:UInt8),l[k]? =some x->xs[k]? =some (zO2 .u8 x.toNat):=by
  intro xs hb hle
  have h1:=qA hb
  have h2:=aP List.length h1
  rw [U2,D1,E0] at h2
  refine⟨by omega,fun k x hk=> ?_⟩
  have h3:(xs.take (n+1))[k]? =some (.int .u8 x.toNat):=by rw [h1,U2,Z3,hk]; rfl
  have hlt:k < l.length:=(zzA1.1 hk).1
  rwa [T6,f9 (by omega)] at h3
 unfold r0d at h
 split at h
 ·rename_i cs e' hget
  split at h
  case h_2=>cases h
  rename_i hle hb
  have hle:=dL hle
  cases h
  obtain⟨b,hb1,hcells,hown⟩:=hS.obj j _ hget
  obtain⟨h1,h2⟩:=fin cs hb hle
  refine⟨b,_,_,hb1,hget,rfl, .of hcells,hown,by simp [o9]; omega,h1,fun k x hk=> ?_⟩
  rw [v8,I0,lJ w b k _ _ _ hcells]
  simp [o9,h2 k x hk,rv]
 ·rename_i e' sz ns kk hget
  split at h
  case h_2=>cases h
  rename_i hle hb
  have hle:=dL hle
  cases h
  obtain⟨b,cap,cur,hb1,_,hcells,hB,_,hcs,hln,htake⟩:=(hS.obj j _ hget).row_some (by simp only [Row.list,D1]; omega)
  rw [fN] at hb
  obtain⟨h1,h2⟩:=fin (ns.map (.int .u8)) hb (by simpa using hle)
  simp only [Row.list,D1] at hln
  refine⟨b,cur,_,hb1,hget,rfl,hcells,hB,by omega,h1,fun k x hk=> ?_⟩
  rw [v8,I0]
  have:=R9 hcells htake (i:=k) (v:= .int .u8 x.toNat) (h2 k x hk)
  simpa [rv] using this
 ·rename_i e' sz xs kk hget
  split at h
  case h_2=>cases h
  rename_i hle hb
  have hle:=dL hle
  cases h
  obtain⟨b,cap,cur,hb1,_,hcells,hB,_,hcs,hln,htake⟩:=(hS.obj j _ hget).row_some (by simp only [Row.list]; omega)
  obtain⟨h1,h2⟩:=fin xs hb hle
  simp only [Row.list] at hln
  refine⟨b,cur,_,hb1,hget,rfl,hcells,hB,by omega,h1,fun k x hk=> ?_⟩
  rw [v8,I0]
  have:=R9 hcells htake (i:=k) (v:= .int .u8 x.toNat) (h2 k x hk)
  simpa [rv] using this
 ·cases h
theorem pH (w:World) (b k n:Nat) (h:k≠b):(w.freeze ⟨b,0,none⟩ n).heap[k]? =w.heap[k]? :=by
 unfold World.freeze
 split
 ·rfl
 ·simp only [Array.getElem?_modify]
  rw [a7 (fun e=>h e.symm)]
theorem l0z (w:World) (b n:Nat) {o:Obj} (h:w.heap[b]? =some o):∃ o',(w.freeze ⟨b,0,none⟩ n).heap[b]? =some o':=by
 unfold World.freeze
 split
 ·exact⟨o,h⟩
 ·simp only [Array.getElem?_modify,f9]
  rw [h]
  exact⟨_,rfl⟩
theorem yO {P:Program} {ts:List TypeId} {H H':Heap} {n:Nat} {args:List Value} {v:Value} (h:d0m P ts H args=some (v,H'))
  {B:Nat} {M:Nat->Prop} {E:Num} {w:World} (hS:∀ E',Agree n E E'->Sim P B M E' H w) (hA:∀ E',Agree n E E'->rvL E' args=rvL E args) (ty:TypeId):
  ∃ v' w' ρ1,Agree n E ρ1∧(Builtin.unsafeString_ ts.toArray ty (rvL E args).toArray).run P w= .ok v' w'∧Keeps B M w w'∧∀ E',Agree n ρ1 E'->v'=rv E' v∧Sim P B M E' H' w':=by
 unfold d0m at h
 simp only [A8] at h
 split at h
 case h_2=>cases h
 rename_i t t2 p m
 split at h
 ·cases h
  refine⟨.string .empty,w,E,Agree.refl _ _,?_,Keeps.refl _ _ _,fun E' ha=>⟨by simp [rv]; rfl,hS E' ha⟩⟩
  simp only [rvL,rv]
  cases p with
  | none=>simp only [rv]; exact Lib.run_unsafeString_none w t t2 ty none
  | some a=>simp only [rv]; exact Lib.run_unsafeString_none w t t2 ty _
 ·rename_i m
  split at h
  case h_2=>cases h
  rename_i j
  split at h
  case h_2=>cases h
  rename_i e l e2 hrow hu
  split at h
  case h_2=>cases h
  rename_i hck
  simp only [A9,B7,V1] at hck
  obtain⟨⟨c1,c2⟩,c3⟩:=hck
  subst c1
  cases h
  obtain⟨b,cur,o0,hb,hget,hrw,hcells,hown,hsz,hlen,hcell⟩:=d0l (hS E (Agree.refl _ _)) hrow
  have hbj:∀ E',Agree n E E'->E' j=some b:=fun E' ha=>by
   have:=hA E' ha
   simp only [rvL,rv,w8,hb,E6,Z7,P3,Value.pointer.injEq] at this
   cases hq:E' j with
   | none=>rw [hq] at this; cases this
   | some b'=>
    rw [hq] at this
    simp only [E6,U9,Addr.mk.injEq,P3] at this
    rw [this]
  obtain⟨fr,hcells,_⟩:=hcells
  have hrun:=Lib.run_unsafeString_row (P:=P) w t t2 ty e hu c2 b cur.size (by simp [World.shape?,hcells]) l (by intro e; rw [e] at hlen; cases hlen) (by omega) (by omega) hcell
  refine⟨.string ⟨l.toArray⟩,w.freeze ⟨b,0,none⟩ l.length,E,Agree.refl _ _,?_,⟨?_,?_,?_,?_,fun k hk hm=>pH w b k _ (fun e=>by subst e; exact hown.elim (fun h=>by omega) hm)⟩,fun E' ha=>⟨by simp [rv],(hS E' ha).turn hget hrw (hbj E' ha) ?_ (fun k hk=>pH w b k _ hk)⟩⟩
  ·simp only [rvL,rv,w8,hb,E6]
   have e3:(zO6 (m+1))=((l.length:Nat):Int):=by rw [hlen]; rfl
   rw [e3]
   exact hrun
  ·unfold World.freeze; split <;> rfl
  ·unfold World.freeze; split <;> rfl
  ·unfold World.freeze; split <;> rfl
  ·unfold World.freeze; split <;> simp
  ·obtain⟨o',ho'⟩:=l0z w b l.length hcells
   exact⟨b,o',rfl,ho',hown⟩
def h1x (H:Heap) (b:Builtin) (args:List Value):Option Value:=
 match b,args with
 | .unsafeSliceData,[x] =>match x with
  | .slice none _ _=>some (.pointer none)
  | .slice (some ⟨j,off,none⟩) _ c=>match zO0 c 0,H.get j with
   | false,some (.cells _ _)=>some (.pointer (some ⟨j,off,none⟩))
   | _,_=>none
  | .slice (some ⟨j,0,some k⟩) n 0=>match H.get j with
   | some (.row _ sz r k')=>match zO0 k k' && zO1 0 n && zO1 0 sz && Nat.ble (n*sz) r.list.length with
    | true=>some (.pointer (some ⟨j,0,none⟩))
    | false=>none
   | _=>none
  | _=>none
 | _,_=>none
theorem oX {P:Program} {B:Nat} {M:Nat->Prop} {E:Num} {H:Heap} {w:World} (hS:Sim P B M E H w) {b:Builtin} {args:List Value} {v:Value} (h:h1x H b args=some v) (ats:Array TypeId) (ty:TypeId) (cs:Array Bool):
  (builtin b ats ty cs ⟨rvL E args⟩).run P w= .ok (.value (rv E v)) w:=by
 unfold h1x at h
 split at h
 case h_2=>cases h
 rename_i x
 have red:∀ y,(builtin .unsafeSliceData ats ty cs #[y]).run P w=((Builtin.unsafeSliceData_ ats ty #[y]).run P w).andThen fun a w'=> .ok (.value a) w':=by
  intro y
  simp only [builtin,v7,V3]
 have some_:∀ (a:Addr) (n c:Nat),c≠0->(Builtin.unsafeSliceData_ ats ty #[.slice (some a) n c]).run P w= .ok (.pointer (some a)) w:=by
  intro a n c hc
  have hdef:Builtin.unsafeSliceData_ ats ty #[.slice (some a) n c] =
    (do
     if c≠0 then pure (.pointer (some a))
     else if (<- viewAt a.block).isSome then pure (.pointer (some a))
     else pure (.pointer (some ⟨<- newObj (.view a (<- elemOf ty)),0,none⟩))):=rfl
  rw [hdef]
  simp [hc]
 split at h
 ·cases h
  simp only [rvL,rv]
  rw [red]
  rfl
 ·rename_i j off n c
  split at h
  case h_2=>cases h
  rename_i hc hget
  have hc:c≠0:=fun e=>by rw [e] at hc; cases hc
  cases h
  obtain⟨g,hg,_⟩:=hS.obj j _ hget
  simp only [rvL,rv,rSl,w8,hg,E6]
  rw [red,some_ _ _ _ hc]
  rfl
 ·rename_i j k n
  split at h
  case h_2=>cases h
  rename_i e sz r k' hget
  split at h
  case h_2=>cases h
  rename_i hck
  simp only [A9,B7,G1,V1] at hck
  obtain⟨⟨⟨c1,c2⟩,c3⟩,c4⟩:=hck
  subst c1
  cases h
  have hpos:0 < n*sz:=F0 c2 c3
  obtain⟨g,cap,cur,h1,h2,_,_,_,_,h7,_⟩:=(hS.obj j _ hget).row_some (by omega)
  have hcap:cap≠0:=fun e=>by rw [e,K8] at h7; omega
  simp only [rvL,rv,rSl,w8,h1,h2,E6,aF,y0g]
  rw [red,some_ _ _ _ hcap]
  rfl
 ·cases h
def m1x:AObj->Option (IntKind×List Int)
 | .ints k xs=>some (k,xs)
 | .row _ sz (.ints k ns) _=>match zO0 sz 1 with
  | true=>some (k,ns)
  | false=>none
 | _=>none
theorem dI {B:Nat} {M:Nat->Prop} {E:Num} {w:World} {ob:Option Nat} {o:AObj} {k:IntKind} {xs:List Int} (ho:ORep B M E w ob o) (h:m1x o=some (k,xs)) (hx:0 < xs.length):
  ∃ b,ob=some b∧∀ i,i < xs.length->w.cell? ⟨b,i,none⟩=some (.int k (xs.getD i 0)):=by
 unfold m1x at h
 split at h
 ·cases h
  rcases ho with ⟨_,h2⟩ | ⟨b,cs,t,fr,h1,h2,h3⟩
  ·rw [h2] at hx; simp at hx
  ·exact⟨b,h1,fun i hi=>by simp only [World.cell?,h2]; exact h3 i hi⟩
 ·split at h
  case h_2=>cases h
  cases h
  rcases ho with ⟨_,h2⟩ | ⟨b,cap,cur,h1,h2,h3,h4,h5,h6,h7,h8⟩
  ·have:xs=[] :=by simpa [Row.list] using h2
   rw [this] at hx; simp at hx
  ·refine⟨b,h1,fun i hi=> ?_⟩
   have:=R9 (E:=E) (i:=i) (v:= .int k (xs.getD i 0)) h3 h8 (by simp [Row.list,List.getD,hi])
   simpa [rv] using this
 ·cases h
def q0z (P:Program) (auto:Bool) (ts:List TypeId) (H:Heap) (args:List Value):Option (Value×Heap×List Prop):=
 match auto with
 | true=>none
 | false=>match ts,args with
  | [t,_],[.slice (some ⟨j,off,some _⟩) dn _, .slice (some ⟨p,o,_⟩) m _] =>match bC P t with
   | some (.slice e)=>match gA P e with
    | some i=>match H.get j,H.get p with
     | some (.row e' sz (.ints kd ns) k'),some src=>match m1x src with
      | some (kd',xs)=>match decide (kd'=kd) && zO0 i.size 1 && zO0 sz 1 with
       | true=>some (.int .i64 m,H.set j (.row e' sz (.ints kd (ns.take off++(xs.drop o).take m++ns.drop (off+m))) k'),[0 < m∧m<=dn∧off+m<=ns.length∧o+m<=xs.length])
       | false=>none
      | none=>none
     | _,_=>none
    | none=>none
   | _=>none
  | _,_=>none
theorem kC {E:Num} {j off:Nat} {sp:Option Nat} {n c b:Nat} (h:E j=some b):∃ c',rv E (.slice (some ⟨j,off,sp⟩) n c)= .slice (some ⟨b,off,none⟩) n c':=by
 cases sp with
 | none=>exact⟨c,by simp [rv,rSl,w8,h]⟩
 | some k=>exact⟨_,by simp [rv,rSl,h]; rfl⟩
theorem f0i {P:Program} {auto:Bool} {ts:List TypeId} {H H':Heap} {n:Nat} {args:List Value} {v:Value} {l:List Prop} (h:q0z P auto ts H args=some (v,H',l)) (hl:l5 l)
  {B:Nat} {M:Nat->Prop} {E:Num} {w:World} (hS:∀ E',Agree n E E'->Sim P B M E' H w) (hA:∀ E',Agree n E E'->rvL E' args=rvL E args) (ty:TypeId):
  ∃ v' w' ρ1,Agree n E ρ1∧(Builtin.copy_ ts.toArray ty (rvL E args).toArray).run P w= .ok v' w'∧Keeps B M w w'∧∀ E',Agree n ρ1 E'->v'=rv E' v∧Sim P B M E' H' w':=by
 unfold q0z at h
 simp only [A8,B0] at h
 split at h
 ·cases h
 split at h
 case h_2=>cases h
 rename_i t t2 j off kk dn dc p o sp m mc
 split at h
 case h_2=>cases h
 rename_i e hu
 split at h
 case h_2=>cases h
 rename_i i hi
 split at h
 case h_2=>cases h
 rename_i e' sz kd ns k' src hget hsrc
 split at h
 case h_2=>cases h
 rename_i kd' xs hin
 split at h
 case h_2=>cases h
 rename_i hc
 simp only [A9,aI,B7] at hc
 obtain⟨⟨rfl,hs1⟩,hs2⟩:=hc
 subst hs2
 cases h
 obtain⟨hm0,hmd,hmn,hmx⟩:=hl.1
 have hr0:0 < (Row.ints kd' ns).list.length:=by simp [Row.list]; omega
 have hat:∀ E',Agree n E E'->E' j=E j∧E' p=E p:=fun E' ha=>by
  have e:=hA E' ha
  simp only [rvL,Z7,P3] at e
  obtain⟨b1,cap1,cur1,g1,_⟩:=((hS E (Agree.refl _ _)).obj j _ hget).row_some hr0
  obtain⟨b2,cap2,cur2,g2,_⟩:=((hS E' ha).obj j _ hget).row_some hr0
  obtain⟨b3,g3,_⟩:=dI ((hS E (Agree.refl _ _)).obj p _ hsrc) hin (by omega)
  obtain⟨b4,g4,_⟩:=dI ((hS E' ha).obj p _ hsrc) hin (by omega)
  obtain⟨c1,q1⟩:=kC (off:=off) (sp:=some kk) (n:=dn) (c:=dc) g1
  obtain⟨c2,q2⟩:=kC (off:=off) (sp:=some kk) (n:=dn) (c:=dc) g2
  obtain⟨c3,q3⟩:=kC (off:=o) (sp:=sp) (n:=m) (c:=mc) g3
  obtain⟨c4,q4⟩:=kC (off:=o) (sp:=sp) (n:=m) (c:=mc) g4
  have e1:=e.1
  have e2:=e.2
  rw [q1,q2] at e1
  rw [q3,q4] at e2
  simp only [Value.slice.injEq,U9,Addr.mk.injEq] at e1 e2
  rw [g1,g2,g3,g4,e1.1.1,e2.1.1]
  exact⟨rfl,rfl⟩
 obtain⟨b1,cap1,cur1,g1,_,⟨fr1,gc,_⟩,_⟩:=((hS E (Agree.refl _ _)).obj j _ hget).row_some hr0
 obtain⟨b3,g3,gx⟩:=dI ((hS E (Agree.refl _ _)).obj p _ hsrc) hin (by omega)
 obtain⟨c1,q1⟩:=kC (off:=off) (sp:=some kk) (n:=dn) (c:=dc) g1
 obtain⟨c3,q3⟩:=kC (off:=o) (sp:=sp) (n:=m) (c:=mc) g3
 have hlen:((xs.drop o).take m).length=m:=by simp; omega
 have hput:=fun (E':Num) (ha:Agree n E E')=>j2p (off:=off) (r':= .ints kd' (ns.take off++(xs.drop o).take m++ns.drop (off+m))) (news:=((xs.drop o).take m).map (zO2 kd')) (hS E' ha)
  (rvL_pure _ _ (by rw [J1,zzA41]; intro x hx; obtain⟨y,_,rfl⟩:=zzA43.1 hx; rfl)) hget (by simp only [D1,hlen,Row.list]; omega) (fun x hx=>by
   obtain⟨y,_,rfl⟩:=zzA43.1 hx
   rfl) hr0 (by simp only [Row.list,qR,fN,iO,D1,E0,C2]; congr 2; omega) ((hat E' ha).1.trans g1) gc
 have hcs:(Builtin.firstCells i.size (Nat.min m dn) (.slice (some ⟨b3,o,none⟩) m c3)).run P w= .ok (((xs.drop o).take m).map (zO2 kd')).toArray w:=by
  have hmm:Nat.min m dn=m:=C6 hmd
  rw [hmm,hs1]
  have:=i0x (P:=P) w ⟨b3,o,none⟩ (((xs.drop o).take m).map (zO2 kd')) (fun q v hq=>by
   rw [v8]
   rw [Z3] at hq
   cases hv:((xs.drop o).take m)[q]? with
   | none=>rw [hv] at hq; cases hq
   | some y=>
    rw [hv] at hq
    cases hq
    rw [T6] at hv
    split at hv
    case isFalse=>cases hv
    rw [W3] at hv
    have hlt:=(zzA1.1 hv).1
    rw [gx (o+q) hlt]
    simp [List.getD,hv])
  rw [D1,hlen] at this
  simpa [Builtin.firstCells] using this
 have hrun:=P2 (P:=P) w _ t t2 ty e i hu hi (.slice (some ⟨b3,o,none⟩) m c3) m dn c1 (by simp [Builtin.lenOf]) _ hcs (some ⟨b1,off,none⟩) (fun a ha=>by cases ha; exact (hput E (Agree.refl _ _)).1) (fun h=>by cases h)
 refine⟨.int .i64 (Nat.min m dn:Nat),_,E,Agree.refl _ _,?_,(hput E (Agree.refl _ _)).2.2,fun E' ha=>⟨?_,(hput E' ha).2.1⟩⟩
 ·simp only [rvL,q1,q3]
  exact hrun
 ·have hmm:Nat.min m dn=m:=C6 hmd
  simp only [rv,hmm]
def l2a:Builtin->Bool
 | .copy=>true
 | .unsafeString=>true
 | _=>false
def l1p (P:Program) (auto:Bool) (b:Builtin) (ts:List TypeId) (H:Heap) (args:List Value):Option (Value×Heap×List Prop):=
 match b with
 | .copy=>match q0z P auto ts H args with
  | some r=>some r
  | none=>match l1t P ts H args with
   | some (v,h)=>some (v,h,[])
   | none=>none
 | .unsafeString=>match d0m P ts H args with
  | some (v,h)=>some (v,h,[])
  | none=>none
 | _=>none
theorem h0g {P:Program} {auto:Bool} {b:Builtin} {ts:Array TypeId} {H H':Heap} {n:Nat} {args:List Value} {v:Value} {l:List Prop} (h:l1p P auto b ts.toList H args=some (v,H',l)) (hl:l5 l)
  {B:Nat} {M:Nat->Prop} {E:Num} {w:World} (hS:∀ E',Agree n E E'->Sim P B M E' H w) (hA:∀ E',Agree n E E'->rvL E' args=rvL E args) (ty:TypeId) (cs:Array Bool):
  ∃ v' w' ρ1,Agree n E ρ1∧(builtin b ts ty cs (rvL E args).toArray).run P w= .ok (.value v') w'∧Keeps B M w w'∧∀ E',Agree n ρ1 E'->v'=rv E' v∧Sim P B M E' H' w':=by
 have:(ts.toList.toArray:Array TypeId)=ts:=by simp
 unfold l1p at h
 split at h
 ·split at h
  ·rename_i hc
   cases h
   obtain⟨v',w',ρ1,h1,h2,h3,h4⟩:=f0i hc hl hS hA ty
   refine⟨v',w',ρ1,h1,?_,h3,h4⟩
   rw [this] at h2
   simp [builtin,h2]
  split at h
  case h_2=>cases h
  rename_i hc
  cases h
  obtain⟨v',w',ρ1,h1,h2,h3,h4⟩:=h0i hc hS hA ty
  refine⟨v',w',ρ1,h1,?_,h3,h4⟩
  rw [this] at h2
  simp [builtin,h2]
 ·split at h
  case h_2=>cases h
  rename_i hc
  cases h
  obtain⟨v',w',ρ1,h1,h2,h3,h4⟩:=yO hc hS hA ty
  refine⟨v',w',ρ1,h1,?_,h3,h4⟩
  rw [this] at h2
  simp [builtin,h2]
 ·cases h
def kW:List UInt8->List Int
 | [] =>[]
 | b ::r=>zO6 b.toNat ::kW r
theorem h0r (l:List UInt8):kW l=l.map fun b=>zO6 b.toNat:=by
 induction l with
 | nil=>rfl
 | cons b r ih=>simp [kW,ih]
def s2b (P:Program) (auto:Bool) (ev:Operand->Option Value) (o:Op):Option (TypeId×IntKind×List Int×Nat×List Prop):=
 match o with
 | .convert s d x=>match ev x with
  | some (.string b)=>match bC P s,bC P d with
   | some .string,some (.slice e)=>match bC P e with
    | some (.int .u8)=>match auto with
     | true=>match Nat.ble b.data.toList.length 9223372036854775807 with
      | true=>some (e, .u8,kW b.data.toList,b.data.toList.length,[])
      | false=>none
     | false=>some (e, .u8,kW b.data.toList,b.data.toList.length,[b.data.toList.length<=9223372036854775807])
    | _=>none
   | _,_=>none
  | _=>none
 | .makeSlice t len cap=>match auto with
  | true=>none
  | false=>match ev len,ev cap with
   | some (.int _ l),some (.int _ c)=>match bC P t with
    | some (.slice e)=>match bC P e,gA P e with
     | some (.int k),some inf=>match inf.zero with
      | some z=>match z with
       | .int k' (.ofNat 0)=>match decide (k'=k) && zO0 inf.size 1 with
        | true=>some (e,k,zO7 l.toNat 0,l.toNat,[0<=l∧c=l∧(inf.bytes:Int)*l<=281474976710656∧l<=9223372036854775807])
        | false=>none
       | _=>none
      | none=>none
     | _,_=>none
    | _=>none
   | _,_=>none
 | _=>none
theorem d1m {P:Program} {s d e:TypeId} {b:ByteArray} (hs:P.underlying s=some .string) (hd:P.underlying d=some (.slice e)) (he:P.underlying e=some (.int .u8)) (hl:b.size<=maxLen)
  {B:Nat} {M:Nat->Prop} {w:World} (hB:B<=w.heap.size) (n:Nat):
  ∃ w' cap,(convert s d (.string b)).run P w= .ok (.slice (some ⟨w.heap.size,0,none⟩) b.size cap) w'∧Keeps B M w w'∧∀ (E':Num) (H:Heap),Sim P B M E' H w->E' n=some w.heap.size->E' (n+1)=some cap->
   Sim P B M E' ((n, .row e 1 (.ints .u8 (kW b.data.toList)) (n+1)) ::H) w':=by
 refine⟨Lib.bytesWorld w e b,_,Lib.run_convert_string_bytes w s d e b hs hd he,⟨?_,?_,?_,?_,fun k hk _=>Lib.bytesWorld_at_old w e b k (by omega)⟩,fun E' H hS h1 h2=> ?_⟩
 ·unfold Lib.bytesWorld World.freeze; split <;> rfl
 ·unfold Lib.bytesWorld World.freeze; split <;> rfl
 ·unfold Lib.bytesWorld World.freeze; split <;> rfl
 ·rw [Lib.bytesWorld_size]; omega
 have hge:=grownCap_ge w b.size 0 e
 have hsz:(Lib.bytesCells w e b).size=grownCap w b.size 0 e*1:=by
  have hbs:b.data.size=b.size:=rfl
  simp only [Lib.bytesCells,Array.size_append,Array.size_map,Array.size_replicate,hbs]
  omega
 have hll:(kW b.data.toList).length=b.size:=by rw [h0r,D1,cB]; rfl
 refine Sim.row hS (fun i o _ hi=>⟨hi,fun e=> ?_⟩) h1 h2 ⟨_,Lib.bytesWorld_at_new w e b, .inr (d9 _)⟩ (.inl hB) (grownCap_le_maxLen w _ _ e hl) hsz ?_ ?_ (fun k hk _=>Lib.bytesWorld_at_old w _ b k hk)
 ·have:=hS.obj i o hi
  rw [e] at this
  exact absurd this.lt (w0u _)
 ·simp only [Row.list,D1,hll]; omega
 ·simp only [Row.list,D1,hll]
  have e1:rvL E' ((kW b.data.toList).map (zO2 .u8))=(b.data.map fun c=>zO2 .u8 c.toNat).toList:=by
   rw [h0r,o9,zE,List.map_map,List.map_map]
   refine List.map_congr_left fun c _=> ?_
   simp [rv]
  rw [e1,Lib.bytesCells,v0d]
  have e2:b.size=(b.data.map fun c=>zO2 .u8 c.toNat).toList.length:=by rw [cB,Array.size_map]; rfl
  rw [e2]
  exact zT
theorem b0f (k:IntKind):∀ c,qS [zO2 k 0] c=(zO7 c 0).map (zO2 k)
 | 0=>rfl
 | c+1=>by simp [qS,b0f k c,List.replicate_succ]
theorem h2i {P:Program} {auto:Bool} {ev:Operand->Option Value} {a:Operand->Value} {o:Oper} {e:TypeId} {k:IntKind} {ns:List Int} {m:Nat} {ob:List Prop} (h:s2b P auto ev o.op=some (e,k,ns,m,ob)) (hl:l5 ob)
  {E:Num} (he:∀ x∈o.op.operands.toList,∀ y,ev x=some y->a x=rv E y) {B:Nat} {M:Nat->Prop} {w:World} (hB:B<=w.heap.size) (n:Nat):
  (∀ c,o.op≠ .defer c)∧∃ w' cap,(execOp a o).run P w= .ok (.value (.slice (some ⟨w.heap.size,0,none⟩) m cap)) w'∧Keeps B M w w'∧∀ (E':Num) (H:Heap),Sim P B M E' H w->E' n=some w.heap.size->E' (n+1)=some cap->
   Sim P B M E' ((n, .row e 1 (.ints k ns) (n+1)) ::H) w':=by
 unfold s2b at h
 simp only [A8,B0] at h
 split at h
 ·rename_i s d x ho
  split at h
  case h_2=>cases h
  rename_i b hx
  split at h
  case h_2=>cases h
  rename_i e0 hs hd
  split at h
  case h_2=>cases h
  rename_i he0
  have hb:b.size<=maxLen∧e0=e∧uB=k∧kW b.data.toList=ns∧b.data.toList.length=m:=by
   split at h
   ·split at h
    case h_2=>cases h
    rename_i hle
    cases h
    have hle:=dL hle
    rw [cB] at hle
    exact⟨hle,rfl,rfl,rfl,rfl⟩
   ·cases h
    have hle:b.data.toList.length<=9223372036854775807:=hl.1
    rw [cB] at hle
    exact⟨hle,rfl,rfl,rfl,rfl⟩
  obtain⟨hle,rfl,rfl,rfl,rfl⟩:=hb
  obtain⟨w',cap,hrun,hk,hsim⟩:=d1m (P:=P) (M:=M) hs hd he0 hle hB n
  refine⟨(by rw [ho]; intro c hc; cases hc),w',cap,?_,hk,hsim⟩
  simp only [execOp,ho,v7]
  rw [he x (by rw [ho]; simp [zO5]) _ hx]
  simp only [rv,hrun,cB]
  rfl
 ·rename_i t len cap ho
  split at h
  ·cases h
  split at h
  case h_2=>cases h
  rename_i kl l kc c hlen hcap
  split at h
  case h_2=>cases h
  rename_i e0 ht
  split at h
  case h_2=>cases h
  rename_i k0 inf hk hinf
  split at h
  case h_2=>cases h
  rename_i z hz
  split at h
  case h_2=>cases h
  rename_i k'
  split at h
  case h_2=>cases h
  rename_i hc
  simp only [A9,aI,B7] at hc
  obtain⟨rfl,hsz⟩:=hc
  cases h
  obtain⟨h0,rfl,h1,h2⟩:=hl.1
  have hrun:=run_make (P:=P) w t e inf (.int k 0) ht hinf hz kl kc c c h0 (T8 _) h1 h2
  rw [v0k (z:=(zO2 k 0).cells) (by rw [hsz]; rfl)] at hrun
  have hml:qS (zO2 k 0).cells.toList c.toNat=(zO7 c.toNat 0).map (zO2 k):=b0f k c.toNat
  rw [hml] at hrun
  refine⟨(by rw [ho]; intro c hc; cases hc),w.alloc (.cells ((zO7 c.toNat 0).map (zO2 k)).toArray e),c.toNat,?_,u3 ((Z9 _ _).alloc (d9 _) _) hB,fun E' H hS g1 g2=> ?_⟩
  ·simp only [execOp,ho]
   rw [he len (by simp [ho,zO5]) _ hlen,he cap (by simp [ho,zO5]) _ hcap]
   simp only [rv,v7,hrun]
   rfl
  ·have e1:rvL E' ((zO7 c.toNat (0:Int)).map (zO2 k))=(zO7 c.toNat (0:Int)).map (zO2 k):=rvL_pure _ _ (by rw [J1]; simp [D3])
   refine Sim.row hS (fun i o _ hi=>⟨hi,fun e=> ?_⟩) g1 g2 (.of (x0m _ _)) (.inl hB) (by unfold maxLen; omega) (by simp) (by simp [Row.list]) ?_ (fun k hk _=>heap_alloc_old _ _ hk)
   ·have:=hS.obj i o hi
    rw [e] at this
    exact absurd this.lt (w0u _)
   ·simp only [Row.list]
    rw [e1]
    simp
 ·cases h
end
noncomputable section
abbrev KV:=List (Nat×Bool)
def y0d:KV->Nat->Bool
 | [],_=>false
 | (j,_) ::r,i=>zO0 j i || y0d r i
def KVok (kv:KV) (O:Nat->Bool):Prop:=∀ p∈kv,O p.1=p.2
theorem KVok.cons {j:Nat} {b:Bool} {kv:KV} {O:Nat->Bool} (h:KVok ((j,b) ::kv) O):O j=b∧KVok kv O:=
 ⟨h (j,b) (by simp),fun p hp=>h p (by simp [hp])⟩
def i1y (os:List Oper) (j:Nat):Option Nat:=match os[j]? with
 | some o=>o.dst
 | none=>none
def N4 (auto:Bool) (os:List Oper) (o:Oper) (tmps:List TV) (kv:KV):Option (Bool×List TV×KV×List (Nat×Bool)):=
 match o.guard with
 | none=>some (false,tmps,kv,[])
 | some (j,want)=>
  match i1y os j with
  | none=>none
  | some d=>
   match D5 tmps d with
   | .v x=>match auto with
    | true=>match x with
     | .bool b=>match b2j b want with
      | true=>some (false,tmps,kv,[])
      | false=>some (true,tmps,kv,[])
     | .tuple _=>some (true,tmps,kv,[])
     | _=>none
    | false=>match x with
     | .bool b=>match y0d kv j with
      | false=>some (false,S5 tmps d (.key j [] b),(j,b) ::kv,[(j,want)])
      | true=>none
     | _=>none
   | .sp l x=>match x with
    | .bool b=>match y0d kv j with
     | false=>some (false,S5 tmps d (.key j l b),(j,b) ::kv,(j,want) ::l)
     | true=>none
    | _=>none
   | .key j' l _=>match zO0 j' j with
    | true=>some (false,tmps,kv,(j,want) ::l)
    | false=>none
   | .unk=>none
theorem u0x (os:List Oper) (j:Nat):((⟨os⟩:Array Oper)[j]?).bind (·.dst)=i1y os j:=by
 unfold i1y
 simp only [List.getElem?_toArray]
 cases os[j]? <;> rfl
theorem w0d {os:List Oper} {tmps:Array Value} {j d:Nat} (h:i1y os j=some d):yielded ⟨os⟩ tmps j=(match tmps.getD d undef with | .bool b=>some b | _=>none):=by
 unfold yielded
 rw [u0x,h]
 simp only [Option.bind_some]
 rw [Array.getD_eq_getD_getElem?]
 cases tmps[d]? with
 | none=>rfl
 | some v=>cases v <;> rfl
theorem mI (O:Nat->Bool):V O [] :=fun _ h=>by cases h
theorem V_cons {O:Nat->Bool} {p:Nat×Bool} {l:List (Nat×Bool)} :V O (p ::l)↔O p.1=p.2∧V O l:=
 ⟨fun h=>⟨h p (by simp),fun q hq=>h q (by simp [hq])⟩,fun ⟨h1,h2⟩ q hq=>by
  rcases zzA86.1 hq with rfl | hq
  ·exact h1
  ·exact h2 q hq⟩
def looks (os:List Oper) (o:Oper):List Nat:=o.looksAt ⟨os⟩
theorem o0d {os:List Oper} {o:Oper} {j d:Nat} {want:Bool} (hg:o.guard=some (j,want)) (hd:i1y os j=some d):d∈looks os o:=by
 unfold looks Oper.looksAt
 rw [hg]
 simp only [u0x,hd]
 simp
theorem O0 (ts:List TV) (d t:Nat) (x:TV) (hd:d < ts.length):D5 (ts.set d x) t=if d=t then x else D5 ts t:=by
 simp only [N8]
 by_cases h:d=t
 ·subst h; simp [hd]
 ·simp [h]
theorem F3 {auto:Bool} {os:List Oper} {o:Oper} {tmps tmps':List TV} {kv kv':KV} {sk:Bool} {conds:List (Nat×Bool)} (h:N4 auto os o tmps kv=some (sk,tmps',kv',conds))
  {E:Num} {O:Nat->Bool} (hk:KVok kv' O) {a:Array Value} (hT:∀ t∈looks os o,KVok kv O->M0 E O (D5 tmps t) (a.getD t undef)):
  KVok kv O∧(sk=true->Region.wanted o (yielded ⟨os⟩ a)=false)∧(sk=false->(Region.wanted o (yielded ⟨os⟩ a)=true↔V O conds))∧
  (∀ t r,M0 E O (D5 tmps t) r↔M0 E O (D5 tmps' t) r):=by
 unfold N4 at h
 simp only [A0] at h
 split at h
 ·rename_i hg
  cases h
  exact⟨hk,(fun h=>by cases h),fun _=>⟨fun _=>mI O,fun _=>by simp [Region.wanted,hg]⟩,fun _ _=>Z4⟩
 ·rename_i j want hg
  split at h
  case h_1=>cases h
  rename_i d hd
  have hmem:=o0d hg hd
  have hw:Region.wanted o (yielded ⟨os⟩ a)=((match a.getD d undef with | .bool b=>some b | _=>none)==some want):=by
   unfold Region.wanted
   rw [hg]
   simp only []
   rw [w0d hd]
  split at h
  ·rename_i x hx
   have hdx:KVok kv O->a.getD d undef=rv E x:=fun hkv=>by
    have:=hT d hmem hkv; rw [hx] at this; exact this
   split at h
   ·split at h
    ·rename_i b
     split at h
     ·rename_i hb
      cases h
      have e:=hdx hk
      simp only [rv] at e
      refine⟨hk,(fun h=>by cases h),fun _=>⟨fun _=>mI O,fun _=> ?_⟩,fun _ _=>Z4⟩
      rw [hw,e,o1d hb]; simp
     ·rename_i hb
      cases h
      have e:=hdx hk
      simp only [rv] at e
      refine⟨hk,fun _=> ?_,(fun h=>by cases h),fun _ _=>Z4⟩
      rw [hw,e]
      revert hb
      cases b <;> cases want <;> simp [b2j]
    ·rename_i y
     cases h
     have e:=hdx hk
     simp only [rv] at e
     refine⟨hk,fun _=> ?_,(fun h=>by cases h),fun _ _=>Z4⟩
     rw [hw,e]; rfl
    ·cases h
   ·split at h
    ·rename_i b
     split at h
     case h_2=>cases h
     cases h
     obtain⟨hj,hkv⟩:=hk.cons
     have e:=hdx hkv
     simp only [rv] at e
     refine⟨hkv,(fun h=>by cases h),fun _=> ?_,fun t r=> ?_⟩
     ·rw [hw,e,V_cons]
      simp only [hj]
      constructor
      ·intro hh; exact⟨by simpa using hh,mI O⟩
      ·intro hh; simpa using hh.1
     ·by_cases hdt:d=t
      ·subst hdt
       by_cases hlen:d < tmps.length
       ·rw [O0 _ _ _ _ hlen,f9 rfl,hx]
        constructor
        ·intro ht; exact⟨hj,fun _=>by simpa [M0,rv] using ht,fun hn=>absurd (mI O) hn⟩
        ·intro ht; have:=ht.2.1 (mI O); simpa [M0,rv] using this
       ·rw [fY (by omega)]
      ·by_cases hlen:d < tmps.length
       ·rw [O0 _ _ _ _ hlen,a7 hdt]
       ·rw [fY (by omega)]
    ·cases h
  ·rename_i l x hx
   split at h
   case h_2=>cases h
   rename_i b
   split at h
   case h_2=>cases h
   cases h
   obtain⟨hj,hkv⟩:=hk.cons
   have e:=hT d hmem hkv
   rw [hx] at e
   simp only [M0,rv] at e
   refine⟨hkv,(fun h=>by cases h),fun _=> ?_,fun t r=> ?_⟩
   ·rw [hw,V_cons]
    simp only [hj]
    by_cases hV:V O l
    ·rw [e.1 hV]
     constructor
     ·intro hh; exact⟨by simpa using hh,hV⟩
     ·intro hh; simpa using hh.1
    ·rw [e.2 hV]
     constructor
     ·intro hh; simp [undef] at hh
     ·intro hh; exact absurd hh.2 hV
   ·by_cases hdt:d=t
    ·subst hdt
     by_cases hlen:d < tmps.length
     ·rw [O0 _ _ _ _ hlen,f9 rfl,hx]
      simp only [M0,rv]
      constructor
      ·intro ht; exact⟨hj,ht.1,ht.2⟩
      ·intro ht; exact⟨ht.2.1,ht.2.2⟩
     ·rw [fY (by omega)]
    ·by_cases hlen:d < tmps.length
     ·rw [O0 _ _ _ _ hlen,a7 hdt]
     ·rw [fY (by omega)]
  ·rename_i j' l b hx
   split at h
   case h_2=>cases h
   rename_i hjj
   cases h
   have hjj:=xY hjj
   subst hjj
   have e:=hT d hmem hk
   rw [hx] at e
   obtain⟨e0,e1,e2⟩:=e
   refine⟨hk,(fun h=>by cases h),fun _=> ?_,fun _ _=>Z4⟩
   rw [hw,V_cons]
   simp only [e0]
   by_cases hV:V O l
   ·rw [e1 hV]
    constructor
    ·intro hh; exact⟨by simpa using hh,hV⟩
    ·intro hh; simpa using hh.1
   ·rw [e2 hV]
    constructor
    ·intro hh; simp [undef] at hh
    ·intro hh; exact absurd hh.2 hV
  ·cases h
def cS (x:Option Value):Option Bool:=match x with
 | some (.bool b)=>some b
 | _=>none
def a1s (auto:Bool) (tmps:List TV) (g:List (Nat×Bool)) (c x y:Operand):Option Value:=
 match c with
 | .tmp t=>
  match D5 tmps t with
  | .key j l bc=>match e2l l g with
   | false=>none
   | true=>match cS (evo tmps ((j,true) ::g) x),cS (evo tmps ((j,false) ::g) y) with
    | some p,some q=>some (.bool (match bc with | true=>p | false=>q))
    | _,_=>none
  | .v z=>match z with
   | .bool bc=>match auto with
    | true=>match bc with
     | true=>evo tmps g x
     | false=>evo tmps g y
    | false=>match cS (evo tmps g x),cS (evo tmps g y) with
     | some p,some q=>some (.bool (match bc with | true=>p | false=>q))
     | _,_=>none
   | _=>none
  | .sp l z=>match z with
   | .bool bc=>match e2l l g with
    | false=>none
    | true=>match cS (evo tmps g x),cS (evo tmps g y) with
     | some p,some q=>some (.bool (match bc with | true=>p | false=>q))
     | _,_=>none
   | _=>none
  | .unk=>none
 | _=>none
theorem T7 {E:Num} {O:Nat->Bool} {tmps:List TV} {c:List (Nat×Bool)} {a:Act} {P:Program} {B:Nat} {M:Nat->Prop} {H:Heap} {w:World} (hS:Sim P B M E H w) (hc:V O c) {x:Operand} {y:Value} (h:evo tmps c x=some y)
  (hT:∀ t,x= .tmp t->M0 E O (D5 tmps t) (a.tmps.getD t undef)) (hg:∀ g,x= .global g->g < P.globals.size):a.eval x=rv E y:=by
 cases x with
 | tmp t=>exact q1a h hc (hT t rfl)
 | const v=>
  simp only [evo] at h
  split at h
  ·rename_i hp; cases h; exact (D0 E _ hp).symm
  ·cases h
 | global g=>
  simp only [evo] at h
  cases h
  simp [Act.eval,rv,w8,hS.glob g (hg g rfl)]
 | func f=>simp only [evo] at h; cases h; simp [Act.eval,rv,rvA,rvL,rFn]
theorem K4 {x:Option Value} {b:Bool} (h:cS x=some b):x=some (.bool b):=by
 unfold cS at h
 split at h
 ·cases h; rfl
 ·cases h
def uC:Operand->Bool
 | .global _=>false
 | _=>true
theorem qM {P:Program} {B:Nat} {M:Nat->Prop} {H:Heap} {auto:Bool} {E:Num} {O:Nat->Bool} {tmps:List TV} {g:List (Nat×Bool)} {a:Act} {w:World} (hS:Sim P B M E H w) (hc:V O g) {c x y:Operand} {v:Value}
  (h:a1s auto tmps g c x y=some v) (hT:∀ t,(c= .tmp t∨x= .tmp t∨y= .tmp t)->M0 E O (D5 tmps t) (a.tmps.getD t undef)) (hx:uC x=true) (hy:uC y=true):
  ((do pure (.value (if <- asBool (a.eval c) then a.eval x else a.eval y)):Sem Next)).run P w= .ok (.value (rv E v)) w:=by
 have hgx:∀ g,x= .global g->g < P.globals.size:=fun g e=>by subst e; cases hx
 have hgy:∀ g,y= .global g->g < P.globals.size:=fun g e=>by subst e; cases hy
 have ex:∀ {G:List (Nat×Bool)} {z:Value},V O G->evo tmps G x=some z->a.eval x=rv E z:=fun hG he=>T7 hS hG he (fun t e=>hT t (.inr (.inl e))) hgx
 have ey:∀ {G:List (Nat×Bool)} {z:Value},V O G->evo tmps G y=some z->a.eval y=rv E z:=fun hG he=>T7 hS hG he (fun t e=>hT t (.inr (.inr e))) hgy
 have fin:∀ b:Bool,a.eval c= .bool b->(if b then a.eval x else a.eval y)=rv E v->((do pure (.value (if <- asBool (a.eval c) then a.eval x else a.eval y)):Sem Next)).run P w= .ok (.value (rv E v)) w:=by
  intro b hb hv
  rw [hb,<- hv]
  rfl
 unfold a1s at h
 split at h
 case h_2=>cases h
 rename_i t
 have hTc:=hT t (.inl rfl)
 split at h
 ·rename_i j l bc hx'
  rw [hx'] at hTc
  obtain⟨h0,h1,h2⟩:=hTc
  split at h
  case h_1=>cases h
  rename_i hs
  have hcb:a.eval (.tmp t)= .bool bc:=h1 (Y0 hs hc)
  split at h
  case h_2=>cases h
  rename_i p q hp hq
  cases h
  refine fin bc hcb ?_
  cases bc
  ·have:=ey (G:=(j,false) ::g) (V_cons.2 ⟨h0,hc⟩) (K4 hq)
   simp [this]
  ·have:=ex (G:=(j,true) ::g) (V_cons.2 ⟨h0,hc⟩) (K4 hp)
   simp [this]
 ·rename_i z hx'
  rw [hx'] at hTc
  split at h
  case h_2=>cases h
  rename_i bc
  have hcb:a.eval (.tmp t)= .bool bc:=by
   simp only [M0,rv] at hTc
   exact hTc
  split at h
  ·split at h
   ·exact fin true hcb (by simpa using ex hc h)
   ·exact fin false hcb (by simpa using ey hc h)
  ·split at h
   case h_2=>cases h
   rename_i p q hp hq
   cases h
   refine fin bc hcb ?_
   cases bc
   ·have:=ey hc (K4 hq)
    simp [this]
   ·have:=ex hc (K4 hp)
    simp [this]
 ·rename_i l z hx'
  rw [hx'] at hTc
  split at h
  case h_2=>cases h
  rename_i bc
  split at h
  case h_1=>cases h
  rename_i hs
  have hcb:a.eval (.tmp t)= .bool bc:=by
   have:=hTc.1 (Y0 hs hc)
   simp only [rv] at this
   exact this
  split at h
  case h_2=>cases h
  rename_i p q hp hq
  cases h
  refine fin bc hcb ?_
  cases bc
  ·have:=ey hc (K4 hq)
   simp [this]
  ·have:=ex hc (K4 hp)
   simp [this]
 ·cases h
def wQ (P:Program) (o:Oper):Bool:=o.op.operands.toList.all fun x=>match x with
 | .global g=>zO1 g P.globals.size
 | _=>true
def e3v:Option Value->TV
 | some x=> .v x
 | none=> .unk
theorem Rep.known {P:Program} {J:Inv P} {B:Nat} {M:Nat->Prop} {w0:Bas} {rb:Option Nat} {s:St} {a:Act} {w:World} (h:Rep P J B M w0 rb s a w) {l:Nat} {o:AObj} (hl:s.heap.get l=some o):l < s.nid∨(∃ xs k,o= .ints k xs)∨(∃ xs,o= .ro xs)∨(∃ f m sz b,o= .fam f m sz b)∨∃ e sz r k,o= .row e sz r k:=by
 obtain⟨E,_,hρ⟩:=h.rep
 rcases J4 l s.nid with h1 | h1
 ·exact .inl h1
 ·have:=(hρ (fun i=>if i=l then none else E i) (fun i hi=>by simp [show i≠l by omega])).1.obj l o hl
  simp only [H9] at this
  cases o with
  | row e sz r k=>exact .inr (.inr (.inr (.inr ⟨e,sz,r,k,rfl⟩)))
  | fam f m sz b=>exact .inr (.inr (.inr (.inl ⟨f,m,sz,b,rfl⟩)))
  | ro xs=>exact .inr (.inr (.inl ⟨xs,rfl⟩))
  | ints k xs=>exact .inr (.inl ⟨xs,k,rfl⟩)
  | cells cs t=>obtain⟨b,h,_⟩:=this; cases h
  | iter s p=>obtain⟨b,h,_⟩:=this; cases h
  | loop st pn ts ps asg bd=>obtain⟨b,r,h,_⟩:=this; cases h
  | defr=>obtain⟨b,h,_⟩:=this; cases h
  | dead=>obtain⟨b,r,h,_⟩:=this; cases h
  | map es=>obtain⟨b,mes,ck,h,_⟩:=this; cases h
theorem Rep.loop' {P:Program} {J:Inv P} {B:Nat} {M:Nat->Prop} (hp:Par P B M) {w0:Bas} {rb:Option Nat} {s:St} {a:Act} {w:World} (h:Rep P J B M w0 rb s a w) {E:Num} (hρ0:w0.n<=s.nid∧Agree w0.n w0.E E) (hρ:∀ E',Agree s.nid E E'->Sim P B M E' s.heap w∧FR E' rb s a∧∀ t x,D5 s.tmps t= .v x->a.tmps.getD t undef=rv E' x) {l:Nat} {st:LoopState} {pn:Option Code} {ts:List (Option Value)} {ps:List Nat} {asg bd:Code} (hl:s.heap.get l=some (.loop st pn ts ps asg bd)):
  ∃ b r,w.heap[b]? =some (.loop r)∧r.state=st∧r.pending=pn∧r.params=⟨ps⟩∧r.assign=asg∧r.body=bd∧(∀ E',Agree s.nid E E'->E' l=some b)∧l < s.nid∧
   ∀ st' pn' (s':St),s'.tmps=s.tmps->s'.heap=s.heap.set l (.loop st' pn' ts ps asg bd)->s'.nid=s.nid->s'.rd=s.rd->s'.mks=s.mks->s'.bs=s.bs->Rep P J B M w0 rb s' a (w.putObj b (.loop { r with state:=st',pending:=pn' })):=by
 have hlt:l < s.nid:=(h.known hl).elim id (fun h=>by rcases h with ⟨_,_,h⟩ | ⟨_,h⟩ | ⟨_,_,_,_,h⟩ | ⟨_,_,_,_,h⟩ <;> cases h)
 obtain⟨b,r,hb,hw,hr,hown⟩:=(hρ E (Agree.refl _ _)).1.obj l _ hl
 have hbl:∀ E',Agree s.nid E E'->E' l=some b:=fun E' ha=>(ha l hlt).trans hb
 refine⟨b,r,hw,hr.1,hr.2.1,hr.2.2.1,hr.2.2.2.1,hr.2.2.2.2.1,hbl,hlt,fun st' pn' s' e1 e2 e3 e4 e5 e6=> ?_⟩
 have hk:Keeps B M w (w.putObj b (.loop { r with state:=st',pending:=pn' })):=
  ⟨rfl,rfl,rfl,by simp,fun k hk hm=>w0c (fun e=>by subst e; exact hown.elim (fun h=>by omega) (fun h=>hm h))⟩
 refine⟨by rw [e6]; exact h.low,by rw [e1]; exact h.plain,by rw [e1]; exact h.size,x7 h.base hk.size,J.keeps hp hk h.inv,h.keeps.trans hk,E,by rw [e3]; exact hρ0,fun E' ha=> ?_⟩
 rw [e3] at ha
 obtain⟨g1,g2,g3⟩:=hρ E' ha
 refine⟨?_,⟨by rw [e5]; exact g2.defers,by rw [e4]; exact g2.round⟩,by rw [e1]; exact g3⟩
 rw [e2]
 refine g1.turn hl rfl (hbl E' ha) ?_ (fun k hk=>w0c hk)
 obtain⟨b',r',hb',hw',hr',_⟩:=g1.obj l _ hl
 rw [hbl E' ha] at hb'
 cases hb'
 rw [hw] at hw'
 cases hw'
 exact⟨b,_,rfl,World.putObj_heap_same (n5 hw),⟨rfl,rfl,hr'.2.2⟩,hown⟩
theorem Rep.loop {P:Program} {J:Inv P} {B:Nat} {M:Nat->Prop} (hp:Par P B M) {w0:Bas} {rb:Option Nat} {s:St} {a:Act} {w:World} (h:Rep P J B M w0 rb s a w) {l:Nat} {st:LoopState} {pn:Option Code} {ts:List (Option Value)} {ps:List Nat} {asg bd:Code} (hl:s.heap.get l=some (.loop st pn ts ps asg bd)):
  ∃ b r,w.heap[b]? =some (.loop r)∧r.state=st∧r.pending=pn∧r.params=⟨ps⟩∧r.assign=asg∧r.body=bd∧(∀ E',Agree s.nid h.rep.choose E'->E' l=some b)∧l < s.nid∧
   ∀ st' pn' (s':St),s'.tmps=s.tmps->s'.heap=s.heap.set l (.loop st' pn' ts ps asg bd)->s'.nid=s.nid->s'.rd=s.rd->s'.mks=s.mks->s'.bs=s.bs->Rep P J B M w0 rb s' a (w.putObj b (.loop { r with state:=st',pending:=pn' })):=
 h.loop' hp h.rep.choose_spec.1 h.rep.choose_spec.2 hl
def I2 (X:Cx) (q:Bool) (o:Oper) (conds:List (Nat×Bool)) (tmps:List TV) (H:Heap) (n:Nat) (ds:List Bool):Option CR:=
 match wQ X.P o with
 | false=>none
 | true=>
  match s2b X.P X.auto (evo tmps conds) o.op with
  | some (e,k,ns,m,ob)=>match q with
   | true=>none
   | false=>some ⟨.slice (some ⟨n,0,some (n+1)⟩) m 0,(n, .row e 1 (.ints k ns) (n+1)) ::H,n+2,ob,ds⟩
  | none=>
  match o.op with
  | .pick c x y=>match uC x && uC y with
   | false=>none
   | true=>match a1s X.gd tmps conds c x y with
    | some v=>some ⟨v,H,n,[],ds⟩
    | none=>none
  | .call c=>match c.callee with
   | .value f=>match evo tmps conds f,fX (evo tmps conds) c.args.toList with
    | some (.func (.func fid) ⟨first⟩ ⟨cap⟩),some args=>
     match X.pc fid (first++args++cap) with
     | some (v,l)=>some ⟨v,H,n,l,ds⟩
     | none=>match q with
      | true=>none
      | false=>X.call fid (first++args++cap) H n ds
    | some (.func (.yield _) ⟨[]⟩ _),some _=>match q with
     | true=>none
     | false=>none
    | _,_=>none
   | .builtin b=>match fX (evo tmps conds) c.args.toList with
    | some args=>match o1e b with
     | true=>match q with
      | true=>none
      | false=>match W0 X.P X.auto c.argTypes.toList H n args with
       | some (v,H',l)=>some ⟨v,H',n+2,l,ds⟩
       | none=>none
     | false=>match l2a b with
      | true=>match q with
       | true=>none
       | false=>match l1p X.P X.auto b c.argTypes.toList H args with
        | some (v,H',l)=>some ⟨v,H',n,l,ds⟩
        | none=>none
      | false=>match vY X.P b c.argTypes.toList args with
       | some v=>some ⟨v,H,n,[],ds⟩
       | none=>match h1x H b args with
        | some v=>some ⟨v,H,n,[],ds⟩
        | none=>none
    | none=>none
   | _=>none
  | _=>match o1z X.P X.auto (evo tmps conds) o H n ds with
   | some r=>match M3 o.op with
    | true=>some ⟨r.v,H,n,r.obs,ds⟩
    | false=>match q with
     | false=>some ⟨r.v,r.h,n+1,r.obs,r.ds⟩
     | true=>none
   | none=>none
theorem Agree.succ {n:Nat} {E E':Num} (h:Agree (n+1) E E'):Agree n E E':=fun i hi=>h i (by omega)
theorem i0d {X:Cx} {J:Inv X.P} (hX:CxOk X J) {q:Bool} {o:Oper} {conds:List (Nat×Bool)} {tmps:List TV} {H:Heap} {n:Nat} {ds:List Bool} {r:CR} (h:I2 X q o conds tmps H n ds=some r) (hl:l5 r.obs)
  {B:Nat} {M:Nat->Prop} (hp:Par X.P B M) {E:Num} {O:Nat->Bool} (hc:V O conds) {a:Act} {w:World} (hB:B<=w.heap.size) (hI:J.I w)
  (hS:∀ E',Agree n E E'->Sim X.P B M E' H w) (hT:∀ E',Agree n E E'->∀ t, .tmp t∈o.op.operands.toList->M0 E' O (D5 tmps t) (a.tmps.getD t undef))
  {rb:Option Nat} {K:Act->World->Prop} {Q:Exit->Act->World->Prop}
  (hK:∀ v w' ρ1,Agree n E ρ1->n<=r.n->(∀ E',Agree r.n ρ1 E'->v=rv E' r.v∧Sim X.P B M E' r.h w')->Keeps B M w w'->
   (q=true->r.h=H∧r.ds=ds∧r.n=n∧Below w.heap.size w w'∧ρ1=E)->K (a.put o.dst v) w'):
  o.wpIn (Fl rb) 0 X.P a w K Q:=by
 unfold I2 at h
 split at h
 case h_1=>cases h
 rename_i hglob
 have hglob':∀ x∈o.op.operands.toList,∀ g,x= .global g->g < X.P.globals.size:=by
  intro x hx g e
  subst e
  have:=zzA41.1 hglob _ hx
  simpa [Nat.blt_eq] using this
 have hev:∀ E',Agree n E E'->∀ x∈o.op.operands.toList,∀ y,evo tmps conds x=some y->a.eval x=rv E' y:=fun E' ha x hx y hy=>
  T7 (hS E' ha) hc hy (fun t e=>hT E' ha t (e ▸ hx)) (hglob' x hx)
 have still:∀ {v:Value},(∀ E',Agree n E E'->(execOp a.eval o).run X.P w= .ok (.value (rv E' v)) w)->(∀ c,o.op≠ .defer c)->r.v=v->r.h=H->r.n=n->r.ds=ds->o.wpIn (Fl rb) 0 X.P a w K Q:=by
  intro v h1 hnd h2 h3 h4 h5
  refine J5 hnd ?_
  rw [h1 E (Agree.refl _ _),qV]
  refine hK _ w E (Agree.refl _ _) (by omega) (fun E' ha=> ?_) (Keeps.refl _ _ _) (fun _=>⟨h3,h5,h4,Z9 _ _,rfl⟩)
  have ha':Agree n E E':=fun i hi=>ha i (by omega)
  refine⟨?_,by rw [h3]; exact hS E' ha'⟩
  have e1:=h1 E (Agree.refl _ _)
  rw [h1 E' ha'] at e1
  rw [h2]
  injection e1 with e1
  injection e1 with e1
  exact e1.symm
 split at h
 ·
  rename_i e k ns m ob hs2
  split at h
  ·cases h
  cases h
  obtain⟨hnd,w',cap,hex,hk,hsim⟩:=h2i (a:=a.eval) (M:=M) hs2 hl (hev E (Agree.refl _ _)) hB n
  refine J5 hnd ?_
  rw [hex,qV]
  refine hK _ w' (fun i=>if i=n then some w.heap.size else if i=n+1 then some cap else E i) (fun i hi=> ?_) (by simp) (fun E' ha=> ?_) hk (fun h=>by cases h)
  ·show (if i=n then some w.heap.size else if i=n+1 then some cap else E i)=E i
   rw [a7 (by omega),a7 (by omega)]
  ·have h1:=ha n (by simp)
   have h2:=ha (n+1) (by simp)
   simp only [H9] at h1
   simp only [show n+1≠n by omega,E7,H9] at h2
   refine⟨?_,hsim E' H (hS E' (fun i hi=> ?_)) h1 h2⟩
   ·simp only [rv,rSl,h1,h2,aF,y0g]
   ·have:=ha i (by simp; omega)
    simp only [show i≠n by omega,show i≠n+1 by omega,E7] at this
    exact this
 split at h
 ·
  rename_i c x y ho
  split at h
  case h_1=>cases h
  rename_i hng
  simp only [A9] at hng
  split at h
  case h_2=>cases h
  rename_i v hv
  cases h
  refine still (v:=v) (fun E' ha=> ?_) (by rw [ho]; intro c hc; cases hc) rfl rfl rfl rfl
  have:=qM (a:=a) (hS E' ha) hc hv (fun t e=>hT E' ha t (by
   rw [ho]; simp only [zO5]
   rcases e with e | e | e <;> simp [e])) hng.1 hng.2
  simp only [execOp,ho]
  exact this
 ·
  rename_i c ho
  split at h
  ·rename_i f hcal
   split at h
   case h_3=>cases h
   case h_2=>
    split at h <;> cases h
   rename_i fid first cap args hf hargs
   have hfm:f∈o.op.operands.toList:=by rw [ho]; simp [zO5,Call.operands,hcal]
   have ham:∀ x∈c.args.toList,x∈o.op.operands.toList:=fun x hx=>by rw [ho]; simp [zO5,Call.operands,hcal]; exact .inr (by simpa using hx)
   have hrunx:∀ E',Agree n E E'->(execOp a.eval o).run X.P w=(callFunc fid ⟨rvL E' (first++args++cap)⟩).run X.P w:=by
    intro E' ha
    have e1:=hev E' ha f hfm _ hf
    have e2:=z7 (a:=a.eval) (E:=E') c.args.toList args (fun x hx y hy=>hev E' ha x (ham x hx) y hy) hargs
    have e3:c.args.map a.eval=⟨rvL E' args⟩:=by apply gZ; simpa using e2
    simp only [execOp,ho,resolve,hcal,e1,e3,rv,rvA,rFn,Deferred.ofValue,pure_bind,invoke]
    have e4:((⟨rvL E' first⟩:Array Value)++(⟨rvL E' args⟩:Array Value)++(⟨rvL E' cap⟩:Array Value))=⟨rvL E' (first++args++cap)⟩:=by
     simp [o9]
    rw [e4]
   have hrun:∀ E',Agree n E E'->Enters X.P fid->(execOp a.eval o).run X.P w= .ok (.enter fid ⟨rvL E' (first++args++cap)⟩) w:=by
    intro E' ha hent
    rw [hrunx E' ha]
    exact hent _ _
   split at h
   ·rename_i v l hpc
    cases h
    obtain⟨hpl,hpv,⟨hent,hcalls⟩ | hext⟩:=hX.pc _ _ _ _ hpc hl
    ·refine J5 (by rw [ho]; intro c hc; cases hc) ?_
     rw [hrun E (Agree.refl _ _) hent,Oper.uponIn_enter,rvL_pure E _ hpl]
     refine⟨fun h=>(by cases h),nI ((hcalls w hI).mono fun e w' ⟨he,hb⟩=> ?_)⟩
     subst he
     refine hK v w' E (Agree.refl _ _) (d9 _) (fun E' ha=>⟨(D0 E' v hpv).symm,(hS E' ha).below hb⟩) (u3 hb hB) (fun _=>⟨rfl,rfl,rfl,hb,rfl⟩)
    ·refine J5 (by rw [ho]; intro c hc; cases hc) ?_
     rw [hrunx E (Agree.refl _ _),rvL_pure E _ hpl,hext w hI,qV]
     exact hK v w E (Agree.refl _ _) (d9 _) (fun E' ha=>⟨(D0 E' v hpv).symm,hS E' ha⟩) (Keeps.refl _ _ _) (fun _=>⟨rfl,rfl,rfl,Z9 _ _,rfl⟩)
   ·split at h
    ·cases h
    ·rename_i hq
     obtain⟨hn,hcl⟩:=b0i hX h hl
     refine i0h (by rw [ho]; intro c hc; cases hc) (hrunx E (Agree.refl _ _)) ((hcl B M E w _ hp hB hI (fun E' ha=>⟨hS E' ha,?_⟩)).mono fun e w' hh=> ?_)
     ·have e1:=hev E (Agree.refl _ _) f hfm _ hf
      have e1':=hev E' ha f hfm _ hf
      have e2:=z7 (a:=a.eval) (E:=E) c.args.toList args (fun x hx y hy=>hev E (Agree.refl _ _) x (ham x hx) y hy) hargs
      have e2':=z7 (a:=a.eval) (E:=E') c.args.toList args (fun x hx y hy=>hev E' ha x (ham x hx) y hy) hargs
      rw [e1] at e1'
      simp only [rv,rvA] at e1'
      injection e1' with _ g1 g2
      injection g1 with g1
      injection g2 with g2
      rw [e2] at e2'
      rw [S9,S9,S9,S9,g1,g2,e2']
     ·obtain⟨ρ1,v,ha1,he,hk,hfin⟩:=hh
      exact⟨v,he,hK v w' ρ1 ha1 hn hfin hk (fun hq'=>by cases hq')⟩
  ·rename_i b hcal
   split at h
   case h_2=>cases h
   rename_i args hargs
   have ham:∀ x∈c.args.toList,x∈o.op.operands.toList:=fun x hx=>by rw [ho]; simp [zO5,Call.operands,hcal]; simpa using hx
   split at h
   ·rename_i happ
    have happ:=a0r happ
    subst happ
    split at h
    ·cases h
    rename_i hq
    split at h
    case h_2=>cases h
    rename_i v H' l hv
    cases h
    have e2:∀ E',Agree n E E'->(c.args.map a.eval).toList=rvL E' args:=fun E' ha=>by
     have:=z7 (a:=a.eval) (E:=E') c.args.toList args (fun x hx y hy=>hev E' ha x (ham x hx) y hy) hargs
     simpa using this
    have e3:c.args.map a.eval=(rvL E args).toArray:=by apply gZ; exact e2 E (Agree.refl _ _)
    obtain⟨v',w',ρ1,ha1,hrun,hk,hfin⟩:=yV hv hl hB hS (fun E' ha=>(e2 E' ha).symm.trans (e2 E (Agree.refl _ _))) o.type
    refine J5 (by rw [ho]; intro c hc; cases hc) ?_
    have hex:(execOp a.eval o).run X.P w= .ok (.value v') w':=by
     simp only [execOp,ho,resolve,hcal,e3,pure_bind,invoke,builtin]
     have:(c.argTypes.toList.toArray:Array TypeId)=c.argTypes:=by simp
     rw [this] at hrun
     simp [hrun]
    rw [hex,qV]
    exact hK v' w' ρ1 ha1 (by simp) hfin hk (fun hq'=>by cases hq')
   split at h
   ·split at h
    ·cases h
    split at h
    case h_2=>cases h
    rename_i v H' l hv
    cases h
    have e2:∀ E',Agree n E E'->(c.args.map a.eval).toList=rvL E' args:=fun E' ha=>by
     have:=z7 (a:=a.eval) (E:=E') c.args.toList args (fun x hx y hy=>hev E' ha x (ham x hx) y hy) hargs
     simpa using this
    have e3:c.args.map a.eval=(rvL E args).toArray:=by apply gZ; exact e2 E (Agree.refl _ _)
    obtain⟨v',w',ρ1,ha1,hrun,hk,hfin⟩:=h0g hv hl hS (fun E' ha=>(e2 E' ha).symm.trans (e2 E (Agree.refl _ _))) o.type (c.args.map fun | .const _=>true | _=>false)
    refine J5 (by rw [ho]; intro c hc; cases hc) ?_
    have hex:(execOp a.eval o).run X.P w= .ok (.value v') w':=by
     simp only [execOp,ho,resolve,hcal,e3,pure_bind,invoke]
     exact hrun
    rw [hex,qV]
    exact hK v' w' ρ1 ha1 (d9 _) hfin hk (fun hq'=>by cases hq')
   have e3:∀ E',Agree n E E'->c.args.map a.eval=⟨rvL E' args⟩:=fun E' ha=>by
    have e2:=z7 (a:=a.eval) (E:=E') c.args.toList args (fun x hx y hy=>hev E' ha x (ham x hx) y hy) hargs
    apply gZ; simpa using e2
   split at h
   ·rename_i v hv
    cases h
    refine still (v:=v) (fun E' ha=> ?_) (by rw [ho]; intro c hc; cases hc) rfl rfl rfl rfl
    simp only [execOp,ho,resolve,hcal,e3 E' ha,pure_bind,invoke]
    exact dP hv E' w _ _
   ·split at h
    case h_2=>cases h
    rename_i v hv
    cases h
    refine still (v:=v) (fun E' ha=> ?_) (by rw [ho]; intro c hc; cases hc) rfl rfl rfl rfl
    simp only [execOp,ho,resolve,hcal,e3 E' ha,pure_bind,invoke]
    exact oX (hS E' ha) hv _ _ _
  ·cases h
 ·
  split at h
  case h_2=>cases h
  rename_i r0 hr0
  split at h
  ·rename_i hst
   cases h
   have each:∀ E',Agree n E E'->_:=fun E' ha=>
    eZ (a:=a.eval) (hS E' ha) hB (fun hs=>by rw [hst] at hs; cases hs) (fun x hx y hy=>hev E' ha x hx y hy) hr0 hl
   obtain⟨nx,w',h1,h2,h3,h4,h5⟩:=each _ (Agree.refl _ _)
   obtain⟨h6,h7,h8⟩:=h5 hst
   subst h8
   have all:∀ E',Agree n E E'->oJ nx (rv E' r0.v):=by
    intro E' ha
    obtain⟨nx2,w2,g1,g2,g3,_⟩:=each E' ha
    rw [h1] at g1
    cases g1
    exact g2
   refine J5 (dH hr0) ?_
   rcases h2 with hnx | ⟨hnx,hu⟩
   ·rw [h1,hnx,qV]
    refine hK _ _ E (Agree.refl _ _) (d9 _) (fun E' ha=>⟨?_,hS E' ha⟩) (Keeps.refl _ _ _) (fun _=>⟨rfl,rfl,rfl,Z9 _ _,rfl⟩)
    rcases all E' ha with e | ⟨e,_⟩
    ·rw [hnx] at e; injection e
    ·rw [hnx] at e; cases e
   ·rw [h1,hnx,Oper.uponIn_skip]
    refine hK _ _ E (Agree.refl _ _) (d9 _) (fun E' ha=>⟨?_,hS E' ha⟩) (Keeps.refl _ _ _) (fun _=>⟨rfl,rfl,rfl,Z9 _ _,rfl⟩)
    rcases all E' ha with e | ⟨_,e⟩
    ·rw [hnx] at e; cases e
    ·exact e.symm
  ·split at h
   case h_2=>cases h
   cases h
   have each:∀ E',Agree (n+1) (fun i=>if i=n then some w.heap.size else E i) E'->_:=fun E' ha=>
    eZ (a:=a.eval) (hS E' (fun i hi=>by rw [ha i (by omega)]; simp [Nat.ne_of_lt hi])) hB (fun _=>by rw [ha n (by omega)]; simp)
     (fun x hx y hy=>hev E' (fun i hi=>by rw [ha i (by omega)]; simp [Nat.ne_of_lt hi]) x hx y hy) hr0 hl
   obtain⟨nx,w',h1,h2,h3,h4,h5⟩:=each _ (Agree.refl _ _)
   have all:∀ E',Agree (n+1) (fun i=>if i=n then some w.heap.size else E i) E'->oJ nx (rv E' r0.v)∧Sim X.P B M E' r0.h w':=by
    intro E' ha
    obtain⟨nx2,w2,g1,g2,g3,_⟩:=each E' ha
    rw [h1] at g1
    cases g1
    exact⟨g2,g3⟩
   have hag:Agree n E (fun i=>if i=n then some w.heap.size else E i):=fun i hi=>by simp [Nat.ne_of_lt hi]
   refine J5 (dH hr0) ?_
   rcases h2 with hnx | ⟨hnx,hu⟩
   ·rw [h1,hnx,qV]
    refine hK _ w' _ hag (by simp) (fun E' ha=>⟨?_,(all E' ha).2⟩) h4 (fun hq'=>by cases hq')
    rcases (all E' ha).1 with e | ⟨e,_⟩
    ·rw [hnx] at e; injection e
    ·rw [hnx] at e; cases e
   ·rw [h1,hnx,Oper.uponIn_skip]
    refine hK _ w' _ hag (by simp) (fun E' ha=>⟨?_,(all E' ha).2⟩) h4 (fun hq'=>by cases hq')
    rcases (all E' ha).1 with e | ⟨_,e⟩
    ·rw [hnx] at e; cases e
    ·exact e.symm
end
end Go.Proofs.YtkiejangmhhofaaGreatDoor.Ev
