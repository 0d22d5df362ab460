/-
 NumberBack: the whole text, the short text, the hexadecimal text and seventeen figures of any number are read as just that number; nine figures of a single are read as that single. No condition.
-/
import Derived.WalkKit
import Derived.WalkSpells
import Derived.WalkLawsBesides
import Derived.Lib.Hide
import Derived.Orders
import Derived.OrdersIn
import Derived.LoopNIn
import Derived.RangeFuncRecord
import Derived.RangeFuncCalls
import Derived.Shelf.Abstract
import Derived.Laws.MakeOwn
import Derived.Lib.Builder
import Derived.Laws.FloatArith
import Derived.Laws.AppendOwn
import Derived.Deep.AppendSrc
import Derived.Lib.ConvBytes
import Derived.Lib.UnsafeStr
open Nat renaming beq->zO0,blt->zO1
open Int renaming ofNat->zO2
open Go.Value renaming int->zO3,float->zO4
open Go.Op renaming operands->zO5
open List renaming replicate->zO6
open Go.IntKind renaming i64->iI,u64->uI,u32->uJ
noncomputable section
namespace Go.Proofs
theorem H5:type_of%@congrArg:=@congrArg
theorem zzA1:type_of%@List.getElem?_eq_some_iff:=@List.getElem?_eq_some_iff
theorem b9:type_of%@if_pos:=@if_pos
theorem z0l:type_of%@Nat.add_comm:=@Nat.add_comm
theorem uE:type_of%@Nat.div_eq_of_lt:=@Nat.div_eq_of_lt
theorem Q6:type_of%@Nat.zero_add:=@Nat.zero_add
theorem H3:type_of%@Nat.mod_eq_of_lt:=@Nat.mod_eq_of_lt
theorem x5:type_of%@Bool.and_eq_true:=@Bool.and_eq_true
theorem r0n:type_of%@Bool.not_eq_true':=@Bool.not_eq_true'
theorem j2e:type_of%@Bool.true_and:=@Bool.true_and
theorem zzA10:type_of%@List.all_eq_true:=@List.all_eq_true
theorem S6:type_of%@Nat.eq_of_beq_eq_true:=@Nat.eq_of_beq_eq_true
theorem a6:type_of%@if_neg:=@if_neg
theorem e0x:type_of%@Nat.beq_refl:=@Nat.beq_refl
theorem zzA14:type_of%@Array.getElem?_eq_some_iff:=@Array.getElem?_eq_some_iff
theorem d7:type_of%@Nat.le_refl:=@Nat.le_refl
theorem x7:type_of%@Nat.le_trans:=@Nat.le_trans
theorem X1:type_of%@Go.RowKit.Below.refl:=@Go.RowKit.Below.refl
theorem o0w:type_of%@Nat.lt_irrefl:=@Nat.lt_irrefl
theorem T1:type_of%@Go.run_underlying:=@Go.run_underlying
theorem s0v:type_of%@List.append_nil:=@List.append_nil
theorem mE:type_of%@List.length_nil:=@List.length_nil
theorem E4:type_of%@Nat.add_zero:=@Nat.add_zero
theorem l0g:type_of%@List.take_append_drop:=@List.take_append_drop
theorem m0g:type_of%@decide_eq_false_iff_not:=@decide_eq_false_iff_not
theorem p8:type_of%@Go.Sem.run_bind:=@Go.Sem.run_bind
theorem r9:type_of%@Go.Result.andThen_ok:=@Go.Result.andThen_ok
theorem s1i:type_of%@Nat.add_assoc:=@Nat.add_assoc
theorem Y1:type_of%@Nat.div_add_mod:=@Nat.div_add_mod
theorem n4:type_of%@Nat.mul_comm:=@Nat.mul_comm
theorem o1u:type_of%@List.drop_eq_getElem_cons:=@List.drop_eq_getElem_cons
theorem iP:type_of%@Go.cell_of_row:=@Go.cell_of_row
theorem S8:type_of%@List.getElem?_map:=@List.getElem?_map
theorem T5:type_of%@List.getElem?_take:=@List.getElem?_take
theorem C8:type_of%@Option.map_some:=@Option.map_some
theorem iU:type_of%@Nat.le_of_ble_eq_true:=@Nat.le_of_ble_eq_true
theorem h0g:type_of%@Go.run_loadCells_list:=@Go.run_loadCells_list
theorem S3:type_of%@List.getElem?_drop:=@List.getElem?_drop
theorem J3:type_of%@if_true:=@if_true
theorem eZ:type_of%@List.map_take:=@List.map_take
theorem gD:type_of%@List.map_drop:=@List.map_drop
theorem D1:type_of%@Nat.blt_eq:=@Nat.blt_eq
theorem k1j:type_of%@List.mem_of_mem_drop:=@List.mem_of_mem_drop
theorem zzA43:type_of%@List.mem_map:=@List.mem_map
theorem P3:type_of%@Bool.false_eq_true:=@Bool.false_eq_true
theorem D7:type_of%@if_false:=@if_false
theorem M8:type_of%@Nat.ble_eq:=@Nat.ble_eq
theorem y8:type_of%@Nat.beq_eq:=@Nat.beq_eq
theorem yE:type_of%@Array.toList_map:=@Array.toList_map
theorem b1o:type_of%@List.size_toArray:=@List.size_toArray
theorem s9:type_of%@List.length_append:=@List.length_append
theorem A9:type_of%@List.length_take:=@List.length_take
theorem D5:type_of%@List.length_drop:=@List.length_drop
theorem cT:type_of%@Array.length_toList:=@Array.length_toList
theorem B2:type_of%@Nat.min_eq_left:=@Nat.min_eq_left
theorem qG:type_of%@Go.setRow_other:=@Go.setRow_other
theorem jK:type_of%@List.map_append:=@List.map_append
theorem j1k:type_of%@List.ext_getElem?:=@List.ext_getElem?
theorem aO:type_of%@decide_eq_true_eq:=@decide_eq_true_eq
theorem bB:type_of%@List.length_singleton:=@List.length_singleton
theorem B9:type_of%@List.length_map:=@List.length_map
theorem pZ:type_of%@List.getD_eq_getElem?_getD:=@List.getD_eq_getElem?_getD
theorem e1i:type_of%@List.getElem?_eq_getElem:=@List.getElem?_eq_getElem
theorem H8:type_of%@of_decide_eq_true:=@of_decide_eq_true
theorem L3:type_of%@Option.some.injEq:=@Option.some.injEq
theorem c1r:type_of%@Go.heap_alloc_new:=@Go.heap_alloc_new
theorem e0w:type_of%@List.foldl_cons:=@List.foldl_cons
theorem b1i:type_of%@List.map_cons:=@List.map_cons
theorem kX:type_of%@Bool.or_eq_true:=@Bool.or_eq_true
theorem S9:type_of%@Go.Sem.run_pure:=@Go.Sem.run_pure
theorem u1m:type_of%@List.getElem?_append_left:=@List.getElem?_append_left
theorem c1i:type_of%@List.getElem?_append_right:=@List.getElem?_append_right
theorem u4:type_of%@Nat.add_mul:=@Nat.add_mul
theorem B0:type_of%@Nat.mod_lt:=@Nat.mod_lt
theorem k0s:type_of%@List.getElem?_eq_none:=@List.getElem?_eq_none
theorem C0:type_of%@Nat.zero_mul:=@Nat.zero_mul
theorem F2:type_of%@Nat.eq_zero_or_pos:=@Nat.eq_zero_or_pos
theorem gX:type_of%@Array.ext':=@Array.ext'
theorem s0j:type_of%@Option.map_none:=@Option.map_none
theorem u1a:type_of%@Option.isSome_none:=@Option.isSome_none
theorem y5:type_of%@List.take_length:=@List.take_length
theorem sS:type_of%@List.drop_zero:=@List.drop_zero
theorem X5:type_of%@List.mem_cons_self:=@List.mem_cons_self
theorem R8:type_of%@List.mem_cons_of_mem:=@List.mem_cons_of_mem
theorem zzA84:type_of%@List.mem_cons:=@List.mem_cons
theorem E3:type_of%@Nat.lt_of_lt_of_le:=@Nat.lt_of_lt_of_le
theorem mH:type_of%@Go.Oper.uponIn_value:=@Go.Oper.uponIn_value
theorem T3:type_of%@List.not_mem_nil:=@List.not_mem_nil
theorem V5:type_of%@or_false:=@or_false
theorem V1:type_of%@Nat.one_mul:=@Nat.one_mul
theorem E0:type_of%@Nat.lt_or_ge:=@Nat.lt_or_ge
theorem eQ:type_of%@Nat.mul_zero:=@Nat.mul_zero
theorem zzA92:type_of%@List.mem_append:=@List.mem_append
theorem c1a:type_of%@Nat.mul_le_mul:=@Nat.mul_le_mul
theorem s0p:type_of%@Nat.le_of_mul_le_mul_right:=@Nat.le_of_mul_le_mul_right
theorem T2:type_of%@Option.getD_some:=@Option.getD_some
theorem y0t:type_of%@Nat.sub_zero:=@Nat.sub_zero
theorem xY:type_of%@Int.le_refl:=@Int.le_refl
theorem zzA98:type_of%@Nat.mul_eq_zero:=@Nat.mul_eq_zero
theorem i8:type_of%@Int.toNat_natCast:=@Int.toNat_natCast
theorem bD:type_of%@Nat.sub_self:=@Nat.sub_self
theorem s4:type_of%@Nat.mul_one:=@Nat.mul_one
theorem w0v:type_of%@Array.toList_append:=@Array.toList_append
theorem w0h:type_of%@List.mem_append_left:=@List.mem_append_left
theorem a0d:type_of%@List.mem_append_right:=@List.mem_append_right
theorem yS:type_of%@Go.run_firstCells_some:=@Go.run_firstCells_some
theorem m0s:type_of%@Go.run_firstCells_none:=@Go.run_firstCells_none
theorem fM:type_of%@List.take_left:=@List.take_left
theorem R5:type_of%@List.cons.injEq:=@List.cons.injEq
theorem K2:type_of%@and_true:=@and_true
theorem o9:type_of%@Nat.mul_le_mul_right:=@Nat.mul_le_mul_right
theorem nM:type_of%@List.nil_append:=@List.nil_append
theorem u0q:type_of%@Nat.ble_eq_true_of_le:=@Nat.ble_eq_true_of_le
theorem j0x:type_of%@Bool.and_false:=@Bool.and_false
theorem S5:type_of%@Nat.min_eq_right:=@Nat.min_eq_right
theorem B6:type_of%@Nat.mul_pos:=@Nat.mul_pos
theorem j0z:type_of%@Array.size_replicate:=@Array.size_replicate
theorem v0v:type_of%@List.replicate_succ:=@List.replicate_succ
theorem Q8:type_of%@Iff.rfl:=@Iff.rfl
theorem fL:type_of%@List.set_eq_of_length_le:=@List.set_eq_of_length_le
theorem x0d:type_of%@Go.World.putObj_heap_other:=@Go.World.putObj_heap_other
theorem a7:True:=⟨⟩
end Go.Proofs
namespace Go.Proofs.YtbdaebagmmmijaaGreatDoor.Ev
open Go Go.RowKit
noncomputable section
def p1r {α:Type} (l:List α):Nat->Option α:=
 List.rec (motive:=fun _=>Nat->Option α) (fun _=>none) (fun x _ ih n=>Nat.rec (motive:=fun _=>Option α) (some x) (fun m _=>ih m) n) l
theorem Z0 {α:Type} (l:List α):∀ n,p1r l n=l[n]? :=by
 induction l with
 | nil=>intro n; rfl
 | cons x l ih=>
  intro n
  cases n with
  | zero=>rfl
  | succ n=>exact ih n
def gU {α:Type} (l:List α):Nat->α->List α:=
 List.rec (motive:=fun _=>Nat->α->List α) (fun _ _=>[]) (fun x r ih n y=>Nat.rec (motive:=fun _=>List α) (y ::r) (fun m _=>x ::ih m y) n) l
theorem B5 {α:Type} (l:List α):∀ n x,gU l n x=l.set n x:=by
 induction l with
 | nil=>intro n x; rfl
 | cons y l ih=>
  intro n x
  cases n with
  | zero=>rfl
  | succ n=>exact H5 (y :: ·) (ih n x)
def fQ (P:Program) (t:TypeId):Option TypeInfo:=match p1r P.types.toList t with
 | some i=>some i
 | none=>P.info? t
theorem x6 (P:Program) (t:TypeId):fQ P t=P.info? t:=by
 unfold fQ
 rw [Z0]
 split
 ·rename_i i h
  have hlt:t < P.types.size:=by
   have:=(zzA1.1 h).1
   simpa using this
  have h2:P.types[t]? =some i:=by simpa using h
  show some i=Tables.info? _ t
  unfold Tables.info?
  rw [b9 hlt]
  exact h2.symm
 ·rfl
def W0 (P:Program) (t:TypeId):Option TypeDesc:=
 match fQ P t with
 | some { desc:= .named _ u, .. } =>match fQ P u with
  | some i=>some i.desc
  | none=>none
 | some i=>some i.desc
 | none=>none
theorem w8 (P:Program) (t:TypeId):W0 P t=P.underlying t:=by
 unfold W0 Program.underlying
 simp only [x6]
 cases P.info? t with
 | none=>rfl
 | some i=>
  obtain⟨d,_⟩:=i
  cases d <;> first | rfl | (rename_i a u; dsimp only; cases P.info? u <;> rfl)
abbrev Num:=Nat->Option Nat
def r8 (ρ:Num) (a:Addr):Option Addr:=(ρ a.block).map fun b=>{ a with block:=b }
def rFn (ρ:Num):Fn->Fn
 | .yield l=> .yield ((ρ l).getD 0)
 | f=>f
def b0r:Fn->Bool
 | .yield _=>true
 | _=>false
theorem i0a (ρ:Num) (f:Fn) (h:b0r f=false):rFn ρ f=f:=by
 cases f <;> first | rfl | (simp [b0r] at h)
def rSl (ρ:Num) (a:Addr) (n c:Nat):Value:=
 match a with
 | ⟨j,off,none⟩=> .slice (r8 ρ ⟨j,off,none⟩) n c
 | ⟨j,off,some k⟩=>match ρ j with
  | none=> .slice none n 0
  | some b=> .slice (some ⟨b,off,none⟩) n ((ρ k).getD 0-c)
def x1u (b k:Option Nat) (c l s:Nat):Value:=match b with
 | none=> .slice none 0 0
 | some b=> .slice (some ⟨b,if k.getD 0-c=l then c*s else c*s+l*s,none⟩) 0 (k.getD 0-c-l)
def j2f (ρ:Num) (m:Nat):Value:=x1u (ρ (m/18446744073709551616/18446744073709551616/18446744073709551616/18446744073709551616)) (ρ (m/18446744073709551616/18446744073709551616/18446744073709551616%18446744073709551616)) (m/18446744073709551616/18446744073709551616%18446744073709551616) (m/18446744073709551616%18446744073709551616) (m%18446744073709551616)
def r2y (j k c l s:Nat):Nat:=(((j*18446744073709551616+k)*18446744073709551616+c)*18446744073709551616+l)*18446744073709551616+s
theorem D9 {a b w:Nat} (h:b < w):(a*w+b)/w=a∧(a*w+b)%w=b:=by
 have hw:0 < w:=by omega
 constructor
 ·rw [z0l,Nat.add_mul_div_right _ _ hw,uE h,Q6]
 ·rw [z0l,Nat.add_mul_mod_self_right,H3 h]
theorem u1h (ρ:Num) {j k c l s:Nat} (hk:k < 18446744073709551616) (hc:c < 18446744073709551616) (hl:l < 18446744073709551616) (hs:s < 18446744073709551616):j2f ρ (r2y j k c l s)=x1u (ρ j) (ρ k) c l s:=by
 unfold j2f r2y
 rw [(D9 hs).1,(D9 hs).2,(D9 hl).1,(D9 hl).2,(D9 hc).1,(D9 hc).2,(D9 hk).1,(D9 hk).2]
theorem mZ (ρ:Num) (m:Nat):∃ a n,j2f ρ m= .slice a 0 n:=by
 unfold j2f x1u
 split
 ·exact⟨_,_,rfl⟩
 ·exact⟨_,_,rfl⟩
def j2h (ρ:Num) (a c:Nat):Value:=x1u (ρ (a/18446744073709551616)) (ρ (a%18446744073709551616)) c 1 1
theorem mB (ρ:Num) (a c:Nat):∃ x n,j2h ρ a c= .slice x 0 n:=by
 unfold j2h x1u
 split
 ·exact⟨_,_,rfl⟩
 ·exact⟨_,_,rfl⟩
def z1a (t:Nat):Nat:=(t%2)*2 ^63+0x7ff0000000000000+1+(t/2)%(2 ^52-1)
mutual
def rv (ρ:Num):Value->Value
 | .chan (some m)=>j2f ρ m
 | .pointer (some a)=> .pointer (r8 ρ a)
 | .slice (some a) n c=>rSl ρ a n c
 | .map (some r)=> .map (ρ r)
 | .func fn f c=> .func (rFn ρ fn) (rvA ρ f) (rvA ρ c)
 | .iface t v=> .iface t (rv ρ v)
 | .agg cs=> .agg (rvA ρ cs)
 | .tuple vs=> .tuple (rvA ρ vs)
 | .bool b=> .bool b
 | .int k n=> .int k n
 | .float k n=> .float k n
 | .complex .f32 a b=>j2h ρ a b
 | .complex .f64 a _=> .float .f64 (z1a ((ρ a).getD 0))
 | .string s=> .string s
 | .pointer none=> .pointer none
 | .slice none n c=> .slice none n c
 | .map none=> .map none
 | .chan none=> .chan none
 | .nilFunc=> .nilFunc
 | .nilIface=> .nilIface
def rvA (ρ:Num):Array Value->Array Value
 | ⟨l⟩=>⟨rvL ρ l⟩
def rvL (ρ:Num):List Value->List Value
 | [] =>[]
 | v ::l=>rv ρ v ::rvL ρ l
end
mutual
def z7:Value->Bool
 | .pointer (some _)=>false
 | .slice (some _) _ _=>false
 | .map (some _)=>false
 | .func fn f c=> !(b0r fn) && pureA f && pureA c
 | .iface _ v=>z7 v
 | .agg cs=>pureA cs
 | .tuple vs=>pureA vs
 | .bool _=>true
 | .int _ _=>true
 | .float _ _=>true
 | .complex _ _ _=>false
 | .string _=>true
 | .pointer none=>true
 | .slice none _ _=>true
 | .map none=>true
 | .chan _=>false
 | .nilFunc=>true
 | .nilIface=>true
def pureA:Array Value->Bool
 | ⟨l⟩=>pureL l
def pureL:List Value->Bool
 | [] =>true
 | v ::l=>z7 v && pureL l
end
theorem l9 (ρ:Num) (l:List Value):rvL ρ l=l.map (rv ρ):=by
 induction l with
 | nil=>simp [rvL]
 | cons v l ih=>simp [rvL,ih]
theorem p2b (ρ:Num) (a:Array Value):rvA ρ a=a.map (rv ρ):=by
 cases a; simp [rvA,l9]
theorem C9 (l:List Value):pureL l=l.all z7:=by
 induction l with
 | nil=>simp [pureL]
 | cons v l ih=>simp [pureL,ih]
mutual
theorem B1 (ρ:Num):∀ v:Value,z7 v=true->rv ρ v=v
 | .pointer (some _),h=>by simp [z7] at h
 | .slice (some _) _ _,h=>by simp [z7] at h
 | .map (some _),h=>by simp [z7] at h
 | .func fn f c,h=>by
   simp only [z7,x5,r0n] at h
   simp only [rv,rvA_pure ρ f h.1.2,rvA_pure ρ c h.2,i0a ρ fn h.1.1]
 | .iface t v,h=>by simp only [z7] at h; simp only [rv,B1 ρ v h]
 | .agg cs,h=>by simp only [z7] at h; simp only [rv,rvA_pure ρ cs h]
 | .tuple vs,h=>by simp only [z7] at h; simp only [rv,rvA_pure ρ vs h]
 | .bool b,_=>by simp only [rv]
 | .int k n,_=>by simp only [rv]
 | .float k n,_=>by simp only [rv]
 | .complex k a b,h=>by simp only [z7] at h; cases h
 | .string s,_=>by simp only [rv]
 | .pointer none,_=>by simp only [rv]
 | .slice none n c,_=>by simp only [rv]
 | .map none,_=>by simp only [rv]
 | .chan _,h=>by simp only [z7] at h; cases h
 | .nilFunc,_=>by simp only [rv]
 | .nilIface,_=>by simp only [rv]
theorem rvA_pure (ρ:Num):∀ v:Array Value,pureA v=true->rvA ρ v=v
 | ⟨l⟩,h=>by simp only [pureA] at h; simp only [rvA,rvL_pure ρ l h]
theorem rvL_pure (ρ:Num):∀ v:List Value,pureL v=true->rvL ρ v=v
 | [],_=>by simp only [rvL]
 | v ::l,h=>by
   simp only [pureL,x5] at h
   simp only [rvL,B1 ρ v h.1,rvL_pure ρ l h.2]
end
theorem uT (ρ:Num) (a:Addr) (n c:Nat):∃ x m,rSl ρ a n c= .slice x n m:=by
 unfold rSl
 split
 ·exact⟨_,_,rfl⟩
 ·split
  ·exact⟨_,_,rfl⟩
  ·exact⟨_,_,rfl⟩
theorem N4 (ρ:Num) (v:Value):(rv ρ v).cells=v.cells.map (rv ρ):=by
 unfold Value.cells
 cases v with
 | agg cs=>simp [rv,p2b]
 | pointer a=>cases a <;> simp [rv]
 | slice a n c=>
  cases a with
  | none=>simp [rv]
  | some a=>
   obtain⟨x,m,e⟩:=uT ρ a n c
   simp [rv,e]
 | map a=>cases a <;> simp [rv]
 | chan a=>
  cases a with
  | none=>simp [rv]
  | some m=>
   obtain⟨x,q,e⟩:=mZ ρ m
   simp [rv,e]
 | complex k a c=>
  cases k with
  | f64=>simp [rv]
  | f32=>
   obtain⟨x,q,e⟩:=mB ρ a c
   simp [rv,e]
 | _=>simp [rv]
def d2j (p:Nat->Bool):Fn->Bool
 | .yield l=>p l
 | _=>true
mutual
def t0h (p:Nat->Bool):Value->Bool
 | .pointer (some a)=>p a.block
 | .slice (some ⟨j,_,none⟩) _ _=>p j
 | .slice (some ⟨j,_,some k⟩) _ _=>p j && p k
 | .map (some r)=>p r
 | .chan (some m)=>p (m/18446744073709551616/18446744073709551616/18446744073709551616/18446744073709551616) && p (m/18446744073709551616/18446744073709551616/18446744073709551616%18446744073709551616)
 | .complex .f32 a _=>p (a/18446744073709551616) && p (a%18446744073709551616)
 | .complex .f64 a _=>p a
 | .func fn f c=>d2j p fn && allA p f && allA p c
 | .iface _ v=>t0h p v
 | .agg cs=>allA p cs
 | .tuple vs=>allA p vs
 | _=>true
def allA (p:Nat->Bool):Array Value->Bool
 | ⟨l⟩=>allL p l
def allL (p:Nat->Bool):List Value->Bool
 | [] =>true
 | v ::l=>t0h p v && allL p l
end
theorem d2a {ρ ρ':Num} {p:Nat->Bool} (h:∀ j,p j=true->ρ' j=ρ j) (f:Fn) (hf:d2j p f=true):rFn ρ' f=rFn ρ f:=by
 cases f <;> first | rfl | skip
 rename_i l
 simp only [d2j] at hf
 simp only [rFn,h l hf]
mutual
theorem f1d {ρ ρ':Num} {p:Nat->Bool} (h:∀ j,p j=true->ρ' j=ρ j):∀ v:Value,t0h p v=true->rv ρ' v=rv ρ v
 | .pointer (some a),hv=>by simp only [t0h] at hv; simp only [rv,r8,h _ hv]
 | .slice (some ⟨j,off,none⟩) _ _,hv=>by simp only [t0h] at hv; simp only [rv,rSl,r8,h _ hv]
 | .slice (some ⟨j,off,some k⟩) _ _,hv=>by simp only [t0h,x5] at hv; simp only [rv,rSl,h _ hv.1,h _ hv.2]
 | .map (some r),hv=>by simp only [t0h] at hv; simp only [rv,h _ hv]
 | .func fn f c,hv=>by
   simp only [t0h,x5] at hv
   simp only [rv,d2a h fn hv.1.1,rvA_all h f hv.1.2,rvA_all h c hv.2]
 | .iface t v,hv=>by simp only [t0h] at hv; simp only [rv,f1d h v hv]
 | .agg cs,hv=>by simp only [t0h] at hv; simp only [rv,rvA_all h cs hv]
 | .tuple vs,hv=>by simp only [t0h] at hv; simp only [rv,rvA_all h vs hv]
 | .bool _,_=>by simp only [rv]
 | .int _ _,_=>by simp only [rv]
 | .float _ _,_=>by simp only [rv]
 | .complex .f32 _ _,hv=>by simp only [t0h,x5] at hv; simp only [rv,j2h,h _ hv.1,h _ hv.2]
 | .complex .f64 _ _,hv=>by simp only [t0h] at hv; simp only [rv,h _ hv]
 | .string _,_=>by simp only [rv]
 | .pointer none,_=>by simp only [rv]
 | .slice none _ _,_=>by simp only [rv]
 | .map none,_=>by simp only [rv]
 | .chan none,_=>by simp only [rv]
 | .chan (some m),hv=>by simp only [t0h,x5] at hv; simp only [rv,j2f,h _ hv.1,h _ hv.2]
 | .nilFunc,_=>by simp only [rv]
 | .nilIface,_=>by simp only [rv]
theorem rvA_all {ρ ρ':Num} {p:Nat->Bool} (h:∀ j,p j=true->ρ' j=ρ j):∀ v:Array Value,allA p v=true->rvA ρ' v=rvA ρ v
 | ⟨l⟩,hv=>by simp only [allA] at hv; simp only [rvA,rvL_all h l hv]
theorem rvL_all {ρ ρ':Num} {p:Nat->Bool} (h:∀ j,p j=true->ρ' j=ρ j):∀ v:List Value,allL p v=true->rvL ρ' v=rvL ρ v
 | [],_=>by simp only [rvL]
 | v ::l,hv=>by
   simp only [allL,x5] at hv
   simp only [rvL,f1d h v hv.1,rvL_all h l hv.2]
end
end
noncomputable section
inductive Row where
 | vals (xs:List Value)
 | ints (k:IntKind) (ns:List Int)
 | fam (f:Nat->List Value) (n:Nat)
 | bytes (l:List UInt8)
def vC (v:Value):Value:=match z7 v with
 | true=>v
 | false=> .bool false
def qS (f:Nat->List Value):Nat->List Value
 | 0=>[]
 | n+1=>qS f n++(f n).map vC
theorem n0z (v:Value):z7 (vC v)=true:=by
 unfold vC
 cases h:z7 v
 ·rfl
 ·exact h
theorem bC (f:Nat->List Value):∀ n,pureL (qS f n)=true
 | 0=>rfl
 | n+1=>by
  have ih:=bC f n
  rw [C9] at ih ⊢
  unfold qS
  rw [List.all_append,ih,List.all_map,j2e,zzA10]
  exact fun v _=>n0z v
def Row.list:Row->List Value
 | .vals xs=>xs
 | .ints k ns=>ns.map (.int k)
 | .fam f n=>qS f n
 | .bytes l=>l.map fun b=> .int .u8 b.toNat
inductive AObj where
 | row (e:TypeId) (sz:Nat) (r:Row) (k:Nat)
 | cells (cs:List Value) (t:TypeId)
 | iter (s:ByteArray) (pos:Nat)
 | ints (k:IntKind) (xs:List Int)
 | loop (st:LoopState) (pn:Option Code) (ts:List (Option Value)) (ps:List Nat) (asg:Code) (bd:Code)
 | defr
 | dead
 | ro (xs:List Value)
 | map (es:List (Value×Value))
 | fam (f:Nat->Value) (n sz o:Nat)
def AObj.rw:AObj->Bool
 | .row _ _ _ _=>true
 | .cells _ _=>true
 | .iter _ _=>true
 | .ints _ _=>false
 | .loop _ _ _ _ _ _=>true
 | .defr=>true
 | .dead=>true
 | .ro _=>false
 | .map _=>true
 | .fam _ _ _ _=>false
def s2t (ρ:Num) (mes:Array MapEntry) (es:List (Value×Value)):Prop:=mes.toList.map (fun e=>(e.key,e.val))=es.map fun p=>(rv ρ p.1,rv ρ p.2)
abbrev Heap:=List (Nat×AObj)
def Heap.get:Heap->Nat->Option AObj
 | [],_=>none
 | (j,o) ::r,i=>match zO0 j i with
  | true=>some o
  | false=>Heap.get r i
def Heap.set:Heap->Nat->AObj->Heap
 | [],_,_=>[]
 | (j,o') ::r,i,o=>match zO0 j i with
  | true=>(j,o) ::r
  | false=>(j,o') ::Heap.set r i o
theorem rY {a b:Nat} (h:a≠b):zO0 a b=false:=by
 cases h':zO0 a b
 ·rfl
 ·exact absurd (S6 h') h
theorem a8 (j:Nat) (o:AObj) (H:Heap) (i:Nat):Heap.get ((j,o) ::H) i=if j=i then some o else H.get i:=by
 by_cases h:j=i
 ·subst h; simp [Heap.get]
 ·have:zO0 j i=false:=rY h
  rw [a6 h,Heap.get,this]
theorem m3 (H:Heap) (i:Nat) (o o0:AObj) (h:H.get i=some o0) (j:Nat):(H.set i o).get j=if i=j then some o else H.get j:=by
 induction H with
 | nil=>simp [Heap.get] at h
 | cons x H ih=>
  obtain⟨k,q⟩:=x
  rw [a8] at h
  unfold Heap.set
  by_cases hk:k=i
  ·subst hk
   simp only [e0x]
   rw [a8,a8]
   split <;> rfl
  ·have hb:zO0 k i=false:=rY hk
   rw [a6 hk] at h
   simp only [hb]
   rw [a8,a8,ih h]
   by_cases hkj:k=j
   ·subst hkj
    rw [b9 rfl,b9 rfl,a6 (fun e=>hk e.symm)]
   ·rw [a6 hkj,a6 hkj]
def RowAt (w:World) (b:Nat) (cur:Array Value) (e:TypeId):Prop:=∃ fr,w.heap[b]? =some (.cells cur e fr)∧(fr.2=0∨cur.size<=fr.1)
theorem RowAt.to {w w':World} {b:Nat} {cur:Array Value} {e:TypeId} (h:RowAt w b cur e) (hb:w'.heap[b]? =w.heap[b]?):RowAt w' b cur e:=by
 obtain⟨fr,h1,h2⟩:=h
 exact⟨fr,hb.trans h1,h2⟩
theorem RowAt.lt {w:World} {b:Nat} {cur:Array Value} {e:TypeId} (h:RowAt w b cur e):b < w.heap.size:=by
 obtain⟨fr,h1,_⟩:=h
 exact (zzA14.1 h1).1
theorem RowAt.of {w:World} {b:Nat} {cur:Array Value} {e:TypeId} (h:w.heap[b]? =some (.cells cur e (0,0))):RowAt w b cur e:=⟨_,h, .inl rfl⟩
def ORep (B:Nat) (M:Nat->Prop) (ρ:Num) (w:World) (ob:Option Nat):AObj->Prop
 | .row e sz r k=>(ob=none∧r.list=[])∨∃ b cap cur,ob=some b∧ρ k=some cap∧RowAt w b cur e∧(B<=b∨M b)∧cap<=maxLen∧cur.size=cap*sz∧r.list.length<=cap*sz∧cur.toList.take r.list.length=rvL ρ r.list
 | .cells cs t=>∃ b,ob=some b∧w.heap[b]? =some (.cells (rvL ρ cs).toArray t (0,0))∧(B<=b∨M b)
 | .iter s pos=>∃ b,ob=some b∧w.heap[b]? =some (.stringIter s pos)∧(B<=b∨M b)
 | .ints k xs=>(ob=none∧xs=[])∨∃ b cs t fr,ob=some b∧w.heap[b]? =some (.cells cs t fr)∧∀ i,i < xs.length->cs[i]? =some (.int k (xs.getD i 0))
 | .loop st pn ts ps asg bd=>∃ b r,ob=some b∧w.heap[b]? =some (.loop r)∧(r.state=st∧r.pending=pn∧r.params=⟨ps⟩∧r.assign=asg∧r.body=bd∧r.tmps.size=ts.length∧∀ t x,ts[t]? =some (some x)->r.tmps.getD t undef=rv ρ x)∧(B<=b∨M b)
 | .defr=>∃ b,ob=some b∧w.heap[b]? =some (.deferred (some []))∧(B<=b∨M b)
 | .dead=>∃ b o,ob=some b∧w.heap[b]? =some o∧(B<=b∨M b)
 | .ro xs=>(ob=none∧xs=[])∨∃ b cs t fr,ob=some b∧w.heap[b]? =some (.cells cs t fr)∧∀ (i:Nat) (v:Value),(rvL ρ xs)[i]? =some v->cs[i]? =some v
 | .map es=>∃ b mes ck,ob=some b∧w.heap[b]? =some (.map mes ck)∧s2t ρ mes es∧(B<=b∨M b)
 | .fam f n sz o=>(ob=none∧n=0)∨∃ b cs t fr,ob=some b∧w.heap[b]? =some (.cells cs t fr)∧∀ i,i < n->(f i).cells.toList.length=sz∧z7 (f i)=true∧∀ (j:Nat) (v:Value),(f i).cells.toList[j]? =some v->cs[o+i*sz+j]? =some v
structure Sim (P:Program) (B:Nat) (M:Nat->Prop) (ρ:Num) (H:Heap) (w:World):Prop where
 glob:∀ g,g < P.globals.size->ρ g=some g
 obj:∀ i o,H.get i=some o->ORep B M ρ w (ρ i) o
 inj:∀ i j o o',H.get i=some o->o.rw=true->H.get j=some o'->i≠j->ρ i≠none->ρ i≠ρ j
structure Keeps (B:Nat) (M:Nat->Prop) (w w':World):Prop where
 os:w'.os=w.os
 tape:w'.tape=w.tape
 output:w'.output=w.output
 size:w.heap.size<=w'.heap.size
 block:∀ k,k < B->¬ M k->w'.heap[k]? =w.heap[k]?
theorem Keeps.refl (B:Nat) (M:Nat->Prop) (w:World):Keeps B M w w:=⟨rfl,rfl,rfl,d7 _,fun _ _ _=>rfl⟩
theorem Keeps.trans {B:Nat} {M:Nat->Prop} {a b c:World} (h:Keeps B M a b) (k:Keeps B M b c):Keeps B M a c:=
 ⟨k.os.trans h.os,k.tape.trans h.tape,k.output.trans h.output,x7 h.size k.size,fun i hi hm=>(k.block i hi hm).trans (h.block i hi hm)⟩
theorem n5 {B:Nat} {M:Nat->Prop} {w w':World} (h:Below w.heap.size w w') (hB:B<=w.heap.size):Keeps B M w w':=
 ⟨h.os,h.tape,h.output,h.size,fun k hk _=>h.block k (by omega)⟩
theorem Keeps.below {B:Nat} {w w':World} (h:Keeps B (fun _=>False) w w'):Below B w w':=
 ⟨h.os,h.tape,h.output,h.size,fun k hk=>h.block k hk (fun f=>f)⟩
theorem l4 {w:World} {b:Nat} {o:Obj} (h:w.heap[b]? =some o):b < w.heap.size:=(zzA14.1 h).1
theorem ORep.below {B:Nat} {M:Nat->Prop} {ρ:Num} {w w':World} {ob:Option Nat} {o:AObj} (h:ORep B M ρ w ob o) (hb:Below w.heap.size w w'):ORep B M ρ w' ob o:=by
 cases o with
 | row e sz r k=>
  rcases h with h | ⟨b,cap,cur,h1,h2,h3,h4⟩
  ·exact .inl h
  ·exact .inr ⟨b,cap,cur,h1,h2,h3.to (hb.block b h3.lt),h4⟩
 | cells cs t=>obtain⟨b,h1,h2,h3⟩:=h; exact⟨b,h1,(hb.block b (l4 h2)).trans h2,h3⟩
 | iter s pos=>obtain⟨b,h1,h2,h3⟩:=h; exact⟨b,h1,(hb.block b (l4 h2)).trans h2,h3⟩
 | ints k xs=>
  rcases h with h | ⟨b,cs,t,fr,h1,h2,h3⟩
  ·exact .inl h
  ·exact .inr ⟨b,cs,t,fr,h1,(hb.block b (l4 h2)).trans h2,h3⟩
 | loop st pn ts ps asg bd=>obtain⟨b,r,h1,h2,h3⟩:=h; exact⟨b,r,h1,(hb.block b (l4 h2)).trans h2,h3⟩
 | defr=>obtain⟨b,h1,h2,h3⟩:=h; exact⟨b,h1,(hb.block b (l4 h2)).trans h2,h3⟩
 | dead=>obtain⟨b,o,h1,h2,h3⟩:=h; exact⟨b,o,h1,(hb.block b (l4 h2)).trans h2,h3⟩
 | ro xs=>
  rcases h with h | ⟨b,cs,t,fr,h1,h2,h3⟩
  ·exact .inl h
  ·exact .inr ⟨b,cs,t,fr,h1,(hb.block b (l4 h2)).trans h2,h3⟩
 | map es=>obtain⟨b,mes,ck,h1,h2,h3⟩:=h; exact⟨b,mes,ck,h1,(hb.block b (l4 h2)).trans h2,h3⟩
 | fam f n sz o=>
  rcases h with h | ⟨b,cs,t,fr,h1,h2,h3⟩
  ·exact .inl h
  ·exact .inr ⟨b,cs,t,fr,h1,(hb.block b (l4 h2)).trans h2,h3⟩
theorem Sim.below {P:Program} {B:Nat} {M:Nat->Prop} {ρ:Num} {H:Heap} {w w':World} (h:Sim P B M ρ H w) (hb:Below w.heap.size w w'):Sim P B M ρ H w':=
 ⟨h.glob,fun i o hi=>(h.obj i o hi).below hb,h.inj⟩
theorem ORep.lt {B:Nat} {M:Nat->Prop} {ρ:Num} {w:World} {b:Nat} {o:AObj} (h:ORep B M ρ w (some b) o):b < w.heap.size:=by
 cases o with
 | row e sz r k=>
  rcases h with ⟨h,_⟩ | ⟨b',cap,cur,h1,h2,h3,_⟩
  ·cases h
  ·cases h1; exact h3.lt
 | cells cs t=>obtain⟨b',h1,h2,_⟩:=h; cases h1; exact l4 h2
 | iter s pos=>obtain⟨b',h1,h2,_⟩:=h; cases h1; exact l4 h2
 | ints k xs=>
  rcases h with ⟨h,_⟩ | ⟨b',cs,t,fr,h1,h2,_⟩
  ·cases h
  ·cases h1; exact l4 h2
 | loop st pn ts ps asg bd=>obtain⟨b',r,h1,h2,_⟩:=h; cases h1; exact l4 h2
 | defr=>obtain⟨b',h1,h2,_⟩:=h; cases h1; exact l4 h2
 | dead=>obtain⟨b',o,h1,h2,_⟩:=h; cases h1; exact l4 h2
 | ro xs=>
  rcases h with ⟨h,_⟩ | ⟨b',cs,t,fr,h1,h2,_⟩
  ·cases h
  ·cases h1; exact l4 h2
 | map es=>obtain⟨b',mes,ck,h1,h2,_⟩:=h; cases h1; exact l4 h2
 | fam f n sz o=>
  rcases h with ⟨h,_⟩ | ⟨b',cs,t,fr,h1,h2,_⟩
  ·cases h
  ·cases h1; exact l4 h2
theorem Sim.new {P:Program} {B:Nat} {M:Nat->Prop} {ρ:Num} {H:Heap} {w:World} (h:Sim P B M ρ H w) {n:Nat} (hn:ρ n=some w.heap.size) {ob:Obj} {o:AObj}
  (ho:ORep B M ρ (w.alloc ob) (some w.heap.size) o):Sim P B M ρ ((n,o) ::H) (w.alloc ob):=by
 have hb:Below w.heap.size w (w.alloc ob):=(X1 _ _).alloc (d7 _) _
 refine⟨h.glob,fun i o' hi=> ?_,fun i j oi oj hi hr hj hij hne=> ?_⟩
 ·rw [a8] at hi
  split at hi
  ·rename_i e; subst e; cases hi; rw [hn]; exact ho
  ·exact (h.obj i o' hi).below hb
 ·rw [a8] at hi hj
  split at hi <;> split at hj
  ·rename_i e1 e2; exact absurd (e1.symm.trans e2) hij
  ·rename_i e1 e2; subst e1
   intro e
   have:=h.obj j oj hj
   rw [<- e,hn] at this
   exact absurd this.lt (o0w _)
  ·rename_i e1 e2; subst e2
   intro e
   have:=h.obj i oi hi
   rw [e,hn] at this
   exact absurd this.lt (o0w _)
  ·exact h.inj i j oi oj hi hr hj hij hne
theorem Sim.turn {P:Program} {B:Nat} {M:Nat->Prop} {ρ:Num} {H:Heap} {w w':World} (h:Sim P B M ρ H w) {n b:Nat} {o0 o:AObj} (h0:H.get n=some o0) (hr:o0.rw=true) (hn:ρ n=some b)
  (ho:ORep B M ρ w' (some b) o) (hk:∀ k,k≠b->w'.heap[k]? =w.heap[k]?):Sim P B M ρ (H.set n o) w':=by
 refine⟨h.glob,fun i o' hi=> ?_,fun i j oi oj hi hri hj hij hne=> ?_⟩
 ·rw [m3 H n o o0 h0] at hi
  split at hi
  ·rename_i e; subst e; cases hi; rw [hn]; exact ho
  ·rename_i hne
   have hold:=h.obj i o' hi
   have hd:∀ b',ρ i=some b'->b'≠b:=fun b' hb' e=>by
    subst e
    exact h.inj n i o0 o' h0 hr hi hne (by rw [hn]; simp) (hn.trans hb'.symm)
   cases o' with
   | row e sz r k=>
    rcases hold with hold | ⟨b',cap,cur,h1,h2,h3,h4⟩
    ·exact .inl hold
    ·exact .inr ⟨b',cap,cur,h1,h2,h3.to (hk b' (hd b' h1)),h4⟩
   | cells cs t=>obtain⟨b',h1,h2,h3⟩:=hold; exact⟨b',h1,(hk b' (hd b' h1)).trans h2,h3⟩
   | iter s pos=>obtain⟨b',h1,h2,h3⟩:=hold; exact⟨b',h1,(hk b' (hd b' h1)).trans h2,h3⟩
   | ints k xs=>
    rcases hold with hold | ⟨b',cs,t,fr,h1,h2,h3⟩
    ·exact .inl hold
    ·exact .inr ⟨b',cs,t,fr,h1,(hk b' (hd b' h1)).trans h2,h3⟩
   | loop st pn ts ps asg bd=>obtain⟨b',r,h1,h2,h3⟩:=hold; exact⟨b',r,h1,(hk b' (hd b' h1)).trans h2,h3⟩
   | defr=>obtain⟨b',h1,h2,h3⟩:=hold; exact⟨b',h1,(hk b' (hd b' h1)).trans h2,h3⟩
   | dead=>obtain⟨b',q,h1,h2,h3⟩:=hold; exact⟨b',q,h1,(hk b' (hd b' h1)).trans h2,h3⟩
   | ro xs=>
    rcases hold with hold | ⟨b',cs,t,fr,h1,h2,h3⟩
    ·exact .inl hold
    ·exact .inr ⟨b',cs,t,fr,h1,(hk b' (hd b' h1)).trans h2,h3⟩
   | map es=>obtain⟨b',mes,ck,h1,h2,h3⟩:=hold; exact⟨b',mes,ck,h1,(hk b' (hd b' h1)).trans h2,h3⟩
   | fam f n sz o=>
    rcases hold with hold | ⟨b',cs,t,fr,h1,h2,h3⟩
    ·exact .inl hold
    ·exact .inr ⟨b',cs,t,fr,h1,(hk b' (hd b' h1)).trans h2,h3⟩
 ·rw [m3 H n o o0 h0] at hi hj
  split at hi <;> split at hj
  ·rename_i e1 e2; exact absurd (e1.symm.trans e2) hij
  ·rename_i e1 e2; subst e1; exact h.inj n j o0 oj h0 hr hj hij hne
  ·rename_i e1 e2; subst e2; exact h.inj i n oi o0 hi hri h0 hij hne
  ·exact h.inj i j oi oj hi hri hj hij hne
theorem Sim.less {P:Program} {B:Nat} {M:Nat->Prop} {ρ:Num} {H H':Heap} {w:World} (h:Sim P B M ρ H w) (hh:∀ i o,H'.get i=some o->H.get i=some o):Sim P B M ρ H' w:=
 ⟨h.glob,fun i o hi=>h.obj i o (hh i o hi),fun i j oi oj hi hr hj hij hne=>h.inj i j oi oj (hh i oi hi) hr (hh j oj hj) hij hne⟩
def d9:List Prop->Prop
 | [] =>True
 | p ::l=>p∧d9 l
theorem i6 (a b:List Prop):d9 (a++b)↔d9 a∧d9 b:=by
 induction a with
 | nil=>simp [d9]
 | cons p a ih=>simp [d9,ih,and_assoc]
def N3 (auto:Bool) (p:Prop) [Decidable p] :Option (List Prop):=
 match auto with
 | true=>if p then some [] else none
 | false=>some [p]
theorem j0 {auto:Bool} {p:Prop} [Decidable p] {l:List Prop} (h:N3 auto p=some l) (hl:d9 l):p:=by
 unfold N3 at h
 split at h
 ·split at h
  ·assumption
  ·cases h
 ·cases h; exact hl.1
def z1m:TypeDesc->Bool
 | .struct _=>true
 | .array _ _=>true
 | _=>false
theorem C1 {P:Program} {t:TypeId} {d:TypeDesc} (h:P.underlying t=some d) (w:World):(isAgg t).run P w= .ok (z1m d) w:=by
 cases d <;> simp [isAgg,run_underlying h,z1m]
theorem m7 {P:Program} {t:TypeId} {i:TypeInfo} (h:P.info? t=some i) (w:World):(sizeOf t).run P w= .ok i.size w:=by
 simp [sizeOf,typeInfo,h]
theorem o8 (b o n:Nat):(⟨b,o,none⟩:Addr).add n=⟨b,o+n,none⟩:=by
 unfold Addr.add; split <;> simp_all
def zU (k:IntKind) (ns:List Int):Nat->Nat->List Value
 | _,0=>[]
 | off,n+1=> .int k (ns.getD off 0) ::zU k ns (off+1) n
theorem RowAt.set {w:World} {b:Nat} {cur:Array Value} {e:TypeId} (h:RowAt w b cur e) (new:Array Value) (hs:new.size=cur.size):RowAt (w.setRow b new) b new e:=by
 obtain⟨fr,h1,h2⟩:=h
 exact⟨fr,setRow_heap w b _ _ e fr h1,by rw [hs]; exact h2⟩
theorem D0 (P:Program) (g o:Nat) (t:TypeId):∀ (vs:List Value) (i:Nat) (cur:Array Value) (w:World),RowAt w g cur t->o+i+vs.length<=cur.size->(∀ v∈vs,v.oneCell'=true)->
  (storeCells ⟨g,o,none⟩ vs i).run P w= .ok () (w.setRow g (cur.toList.take (o+i)++vs++cur.toList.drop (o+i+vs.length)).toArray)
 | [],i,cur,w,hg,_,_=>by
  obtain⟨fz,hg,_⟩:=hg
  simp only [storeCells,s0v,mE,E4,l0g,Array.toArray_toList]
  rw [setRow_self w g cur t fz hg]
  rfl
 | v ::rest,i,cur,w,hg,hl,h1=>by
  have hgs:=hg.set (cur.setIfInBounds (o+i) v) (by simp)
  obtain⟨fz,hg,hfz⟩:=hg
  have hi:o+i < cur.size:=by simp at hl; omega
  have hadd:(⟨g,o,none⟩:Addr).add i=⟨g,o+i,none⟩:=o8 g o i
  have hcell:w.cell? ⟨g,o+i,none⟩=some cur[o+i] :=by simp [World.cell?,hg,hi]
  have hfro:w.frozen? ⟨g,o+i,none⟩=false:=by
   obtain⟨lo,hi'⟩:=fz
   simp only [World.frozen?,hg,Bool.and_eq_false_iff,m0g]
   simp only at hfz
   omega
  have hst:(store ((⟨g,o,none⟩:Addr).add i) v).run P w= .ok () (w.setRow g (cur.setIfInBounds (o+i) v)):=by
   rw [hadd,run_store P w _ v _ (h1 v (by simp)),hcell]
   simp [hfro,setCell_eq_setRow w g (o+i) cur t fz v hg]
  have ih:=D0 P g o t rest (i+1) (cur.setIfInBounds (o+i) v) (w.setRow g (cur.setIfInBounds (o+i) v)) hgs (by simp at hl ⊢; omega) (fun x hx=>h1 x (by simp [hx]))
  simp only [storeCells,p8,hst,r9,ih,setRow_setRow]
  congr 3
  have e:=list_seg_step cur.toList (o+i) v rest (by simp at hl ⊢; omega)
  simpa [Array.toList_setIfInBounds,Nat.add_assoc] using e
def bF (off o sz:Nat):Nat:=(off-o)/sz
def FamIn (off o sz n:Nat):Prop:=o<=off∧(off-o)%sz=0∧bF off o sz < n
instance famInDec (off o sz n:Nat):Decidable (FamIn off o sz n):=inferInstanceAs (Decidable (o<=off∧(off-o)%sz=0∧bF off o sz < n))
theorem FamIn.eq {off o sz n:Nat} (h:FamIn off o sz n):off=o+bF off o sz*sz:=by
 obtain⟨h1,h2,_⟩:=h
 unfold bF
 have:=Y1 (off-o) sz
 rw [n4]
 omega
def p2t (P:Program) (auto:Bool) (t:TypeId) (agg:Bool) (f:Nat->Value) (n sz o off:Nat):Option (Value×List Prop):=
 match agg with
 | true=>match fQ P t with
  | none=>none
  | some i=>match zO0 i.size sz && zO1 0 sz,f (bF off o sz) with
   | true, .agg xs=>match N3 auto (FamIn off o sz n) with
    | some l=>some (.agg xs,l)
    | none=>none
   | _,_=>none
 | false=>match zO0 sz 1 with
  | true=>match f (bF off o sz) with
   | .agg _=>none
   | .tuple _=>none
   | v=>match N3 auto (FamIn off o sz n) with
    | some l=>some (v,l)
    | none=>none
  | false=>none
def k2k (f:Nat->List Value) (n off sz:Nat) (xs:List Value):Prop:=xs=((qS f n).drop off).take sz∧off+sz<=(qS f n).length∧0 < sz
def zN (P:Program) (auto:Bool) (H:Heap) (t:TypeId) (x:Value):Option (Value×List Prop):=
 match x with
 | .pointer (some ⟨id,off,none⟩)=>
  match W0 P t with
  | none=>none
  | some d=>
   match H.get id with
   | some (.cells cs _)=>
    match z1m d with
    | true=>match fQ P t with
     | some i=>match Nat.ble (off+i.size) cs.length with
      | true=>some (.agg ⟨(cs.drop off).take i.size⟩,[])
      | false=>none
     | none=>none
    | false=>match cs[off]? with
     | some v=>some (v,[])
     | none=>none
   | some (.ints k xs)=>
    match z1m d with
    | true=>match fQ P t with
     | none=>none
     | some i=>match zO1 0 i.size,N3 auto (off+i.size<=xs.length) with
      | true,some l=>some (.agg ⟨zU k xs off i.size⟩,l)
      | _,_=>none
    | false=>match N3 auto (off < xs.length) with
     | some l=>some (.int k (xs.getD off 0),l)
     | none=>none
   | some (.row _ sz r _)=>
    match z1m d with
    | true=>match fQ P t with
     | none=>none
     | some i=>match r with
      | .fam f n=>match auto with
       | true=>none
       | false=>some (.agg ⟨f (bF off 0 sz)⟩,[k2k f n off i.size (f (bF off 0 sz))])
      | .bytes _=>none
      | .vals xs=>match Nat.ble (off+i.size) xs.length && zO1 0 i.size with
       | true=>some (.agg ⟨(xs.drop off).take i.size⟩,[])
       | false=>none
      | .ints k ns=>match zO1 0 i.size,N3 auto (off+i.size<=ns.length) with
       | true,some l=>some (.agg ⟨zU k ns off i.size⟩,l)
       | _,_=>none
    | false=>match r with
     | .fam f n=>match auto,f (bF off 0 sz) with
      | false,[v] =>some (v,[(qS f n)[off]? =some v])
      | _,_=>none
     | .bytes l=>match N3 auto (off < l.length) with
      | some q=>some (.int .u8 (zO2 (l.getD off 0).toNat),q)
      | none=>none
     | .vals xs=>match xs[off]? with
      | some v=>some (v,[])
      | none=>none
     | .ints k ns=>match N3 auto (off < ns.length) with
      | some l=>some (.int k (ns.getD off 0),l)
      | none=>none
   | some (.ro xs)=>
    match z1m d with
    | true=>match fQ P t with
     | none=>none
     | some i=>match Nat.ble (off+i.size) xs.length && zO1 0 i.size with
      | true=>some (.agg ⟨(xs.drop off).take i.size⟩,[])
      | false=>none
    | false=>match xs[off]? with
     | some v=>some (v,[])
     | none=>none
   | some (.fam f n sz o)=>p2t P auto t (z1m d) f n sz o off
   | _=>none
 | _=>none
theorem uX (k:IntKind) (ns:List Int):∀ (n off:Nat),off+n<=ns.length->zU k ns off n=((ns.map (zO3 k)).drop off).take n
 | 0,off,_=>by simp [zU]
 | n+1,off,h=>by
  unfold zU
  rw [uX k ns n (off+1) (by omega)]
  have hlt:off < (ns.map (zO3 k)).length:=by simp; omega
  rw [o1u hlt,List.take_succ_cons]
  congr 1
  simp [List.getD,show off < ns.length by omega]
theorem ORep.row_some {B:Nat} {M:Nat->Prop} {ρ:Num} {w:World} {ob:Option Nat} {e:TypeId} {sz k:Nat} {r:Row} (h:ORep B M ρ w ob (.row e sz r k)) (hne:0 < r.list.length):
  ∃ b cap cur,ob=some b∧ρ k=some cap∧RowAt w b cur e∧(B<=b∨M b)∧cap<=maxLen∧cur.size=cap*sz∧r.list.length<=cap*sz∧cur.toList.take r.list.length=rvL ρ r.list:=by
 rcases h with ⟨_,h⟩ | h
 ·rw [h] at hne; exact absurd hne (by decide)
 ·exact h
theorem N8 {w:World} {ρ:Num} {b:Nat} {e:TypeId} {cur:Array Value} {xs:List Value} (h:RowAt w b cur e) (ht:cur.toList.take xs.length=rvL ρ xs) {i:Nat} {v:Value} (hi:xs[i]? =some v):w.cell? ⟨b,i,none⟩=some (rv ρ v):=by
 obtain⟨fr,h,_⟩:=h
 rw [iP w b i _ _ _ h]
 have hlt:i < xs.length:=(zzA1.1 hi).1
 have e1:(cur.toList.take xs.length)[i]? =some (rv ρ v):=by rw [ht,l9,S8,hi]; rfl
 rw [T5,b9 hlt] at e1
 simpa using e1
theorem aN {P:Program} {w:World} {b o:Nat} {v:Value} (h:w.cell? ⟨b,o,none⟩=some v):(load ⟨b,o,none⟩).run P w= .ok v w:=by
 simp [h]
theorem nU {P:Program} {auto:Bool} {B:Nat} {M:Nat->Prop} {ρ:Num} {H:Heap} {w:World} (hS:Sim P B M ρ H w) {t:TypeId} {x v:Value} {l:List Prop}
  (h:zN P auto H t x=some (v,l)) (hl:d9 l):(Instr.loadAt t (rv ρ x)).run P w= .ok (rv ρ v) w:=by
 unfold zN at h
 simp only [w8,x6] at h
 split at h
 case h_2=>cases h
 rename_i id off
 split at h
 case h_1=>cases h
 rename_i d hd
 split at h
 ·
  rename_i cs ty hget
  obtain⟨b,hb,hcells,_⟩:=hS.obj id _ hget
  simp only [rv,r8,hb,C8,Instr.loadAt,Instr.sureAddr,pure_bind,loadVar,p8,C1 hd,r9]
  split at h
  ·rename_i hagg
   split at h
   case h_2=>cases h
   rename_i i hi
   split at h
   case h_2=>cases h
   rename_i hle
   have hle:off+i.size<=cs.length:=iU hle
   cases h
   rw [hagg]
   have hlen:((rvL ρ cs).drop off |>.take i.size).length=i.size:=by rw [l9]; simp; omega
   have hc:=h0g (P:=P) w ⟨b,off,none⟩ (((rvL ρ cs).drop off).take i.size) (fun j v hj=>by
    rw [o8]
    have hj':j < i.size:=by
     have:=zzA1.1 hj
     obtain⟨hlt,_⟩:=this
     omega
    rw [iP w b (off+j) _ _ _ hcells]
    rw [T5,b9 hj',S3] at hj
    simpa using hj)
   rw [hlen] at hc
   simp only [J3,p8,m7 hi,r9,hc]
   simp only [rv,rvA,l9,eZ,gD]
   rfl
  ·rename_i hagg
   split at h
   case h_2=>cases h
   rename_i u hu
   cases h
   rw [hagg]
   have:w.cell? ⟨b,off,none⟩=some (rv ρ v):=by
    rw [iP w b off _ _ _ hcells]
    simp [l9,hu]
   simp [this]
 ·
  rename_i k xs hget
  split at h
  ·rename_i hagg
   split at h
   case h_1=>cases h
   rename_i i hi
   split at h
   case h_2=>cases h
   rename_i l' hpos hneed
   cases h
   have hle:=j0 hneed hl
   have hpos:0 < i.size:=by simpa [Nat.blt_eq] using hpos
   rcases hS.obj id _ hget with ⟨_,hnil⟩ | ⟨b,cs,ty,fr,hb,hcells,hall⟩
   ·subst hnil; simp at hle; omega
   ·simp only [rv,r8,hb,C8,Instr.loadAt,Instr.sureAddr,pure_bind,loadVar,p8,C1 hd,r9]
    rw [hagg,uX k xs _ _ hle]
    have hlen:(((xs.map (zO3 k)).drop off).take i.size).length=i.size:=by simp; omega
    have hc:=h0g (P:=P) w ⟨b,off,none⟩ (((xs.map (zO3 k)).drop off).take i.size) (fun j v hj=>by
     rw [o8]
     have hj':j < i.size:=by
      obtain⟨hlt,_⟩:=zzA1.1 hj
      omega
     rw [T5,b9 hj',S3,S8] at hj
     rw [iP w b (off+j) _ _ _ hcells,hall (off+j) (by omega)]
     have:xs[off+j]? =some (xs.getD (off+j) 0):=by simp [List.getD,show off+j < xs.length by omega]
     rw [this] at hj
     exact hj)
    rw [hlen] at hc
    simp only [J3,p8,m7 hi,r9,hc]
    have e:rvL ρ (((xs.map (zO3 k)).drop off).take i.size)=((xs.map (zO3 k)).drop off).take i.size:=rvL_pure _ _ (by
     rw [C9,zzA10]
     intro y hy
     have hy:=k1j (List.mem_of_mem_take hy)
     obtain⟨z,_,rfl⟩:=zzA43.1 hy
     rfl)
    rw [rvA,e]
    rfl
  rename_i hagg
  split at h
  case h_2=>cases h
  rename_i l' hneed
  cases h
  have hlt:=j0 hneed hl
  rcases hS.obj id _ hget with ⟨_,hnil⟩ | ⟨b,cs,ty,fr,hb,hcells,hall⟩
  ·subst hnil; simp at hlt
  ·simp only [rv,r8,hb,C8,Instr.loadAt,Instr.sureAddr,pure_bind,loadVar,p8,C1 hd,r9,hagg]
   have:w.cell? ⟨b,off,none⟩=some (.int k (xs.getD off 0)):=by
    rw [iP w b off _ _ _ hcells]
    exact hall off hlt
   simp only [P3,D7]
   exact aN this
 ·
  rename_i e sz r kk hget
  have hrow:=hS.obj id _ hget
  split at h
  ·rename_i hagg
   split at h
   case h_1=>cases h
   rename_i i hi
   have fin:∀ (vs:List Value),vs=(r.list.drop off).take i.size->off+i.size<=r.list.length->0 < i.size->(Instr.loadAt t (rv ρ (.pointer (some ⟨id,off,none⟩)))).run P w= .ok (rv ρ (.agg ⟨vs⟩)) w:=by
    intro vs hvs hle hpos
    obtain⟨b,cap,cur,hb,_,hcells,_,_,_,_,htake⟩:=hrow.row_some (by omega)
    simp only [rv,r8,hb,C8,Instr.loadAt,Instr.sureAddr,pure_bind,loadVar,p8,C1 hd,r9]
    rw [hagg]
    have hlen:((rvL ρ r.list).drop off |>.take i.size).length=i.size:=by rw [l9]; simp; omega
    have hc:=h0g (P:=P) w ⟨b,off,none⟩ (((rvL ρ r.list).drop off).take i.size) (fun j v hj=>by
     rw [o8]
     have hj':j < i.size:=by
      obtain⟨hlt,_⟩:=zzA1.1 hj
      omega
     rw [T5,b9 hj',S3,l9,S8] at hj
     cases hx:r.list[off+j]? with
     | none=>rw [hx] at hj; cases hj
     | some u=>
      rw [hx] at hj
      cases hj
      exact N8 hcells htake hx)
    rw [hlen] at hc
    simp only [J3,p8,m7 hi,r9,hc]
    rw [hvs]
    simp only [rvA,l9,eZ,gD]
    rfl
   split at h
   ·rename_i f n
    split at h
    case h_1=>cases h
    cases h
    obtain⟨q1,q2,q3⟩:=hl.1
    exact fin _ q1 q2 q3
   ·cases h
   ·rename_i xs
    split at h
    case h_2=>cases h
    rename_i hle
    cases h
    simp only [x5,M8,D1] at hle
    exact fin _ rfl hle.1 hle.2
   ·rename_i k ns
    split at h
    case h_2=>cases h
    rename_i l' hpos hneed
    cases h
    have hle:=j0 hneed hl
    exact fin _ (uX k ns _ _ hle) (by simp [Row.list]; exact hle) (by simpa [Nat.blt_eq] using hpos)
  ·rename_i hagg
   have fin:∀ (v:Value),r.list[off]? =some v->(Instr.loadAt t (rv ρ (.pointer (some ⟨id,off,none⟩)))).run P w= .ok (rv ρ v) w:=by
    intro v hv
    obtain⟨b,cap,cur,hb,_,hcells,_,_,_,_,htake⟩:=hrow.row_some (by have:=(zzA1.1 hv).1; omega)
    simp only [rv,r8,hb,C8,Instr.loadAt,Instr.sureAddr,pure_bind,loadVar,p8,C1 hd,r9]
    rw [hagg]
    simp [N8 hcells htake hv]
   split at h
   ·rename_i f n
    split at h
    case h_2=>cases h
    cases h
    exact fin _ hl.1
   ·rename_i l0
    split at h
    case h_2=>cases h
    rename_i l' hneed
    cases h
    have hlt:=j0 hneed hl
    exact fin _ (by simp [Row.list,List.getD,hlt])
   ·rename_i xs
    split at h
    case h_2=>cases h
    rename_i u hu
    cases h
    exact fin _ hu
   ·rename_i k ns
    split at h
    case h_2=>cases h
    rename_i l' hneed
    cases h
    have hlt:=j0 hneed hl
    exact fin _ (by simp [Row.list,List.getD,hlt])
 ·
  rename_i xs hget
  have hro:=hS.obj id _ hget
  split at h
  ·rename_i hagg
   split at h
   case h_1=>cases h
   rename_i i hi
   split at h
   case h_2=>cases h
   rename_i hle
   simp only [x5,M8,D1] at hle
   cases h
   rcases hro with ⟨_,hnil⟩ | ⟨b,cs,ty,fr,hb,hcells,hall⟩
   ·subst hnil; simp at hle; omega
   ·simp only [rv,r8,hb,C8,Instr.loadAt,Instr.sureAddr,pure_bind,loadVar,p8,C1 hd,r9]
    rw [hagg]
    have hlen:((rvL ρ xs).drop off |>.take i.size).length=i.size:=by rw [l9]; simp; omega
    have hc:=h0g (P:=P) w ⟨b,off,none⟩ (((rvL ρ xs).drop off).take i.size) (fun j v hj=>by
     rw [o8]
     have hj':j < i.size:=by
      obtain⟨hlt,_⟩:=zzA1.1 hj
      omega
     rw [T5,b9 hj',S3] at hj
     rw [iP w b (off+j) _ _ _ hcells]
     exact hall _ _ hj)
    rw [hlen] at hc
    simp only [J3,p8,m7 hi,r9,hc]
    simp only [rvA,l9,eZ,gD]
    rfl
  ·rename_i hagg
   split at h
   case h_2=>cases h
   rename_i u hu
   cases h
   rcases hro with ⟨_,hnil⟩ | ⟨b,cs,ty,fr,hb,hcells,hall⟩
   ·subst hnil; simp at hu
   ·simp only [rv,r8,hb,C8,Instr.loadAt,Instr.sureAddr,pure_bind,loadVar,p8,C1 hd,r9,hagg]
    have:w.cell? ⟨b,off,none⟩=some (rv ρ v):=by
     rw [iP w b off _ _ _ hcells]
     exact hall off _ (by rw [l9,S8,hu]; rfl)
    simp only [P3,D7]
    exact aN this
 ·
  rename_i f n sz o hget
  have hro:=hS.obj id _ hget
  have key:FamIn off o sz n->∃ b cs ty fr,ρ id=some b∧w.heap[b]? =some (.cells cs ty fr)∧(f (bF off o sz)).cells.toList.length=sz∧z7 (f (bF off o sz))=true∧∀ (j:Nat) (v:Value),(f (bF off o sz)).cells.toList[j]? =some v->cs[off+j]? =some v:=by
   intro hin
   have he:=hin.eq
   obtain⟨_,_,hlt⟩:=hin
   rcases hro with ⟨_,hnil⟩ | ⟨b,cs,ty,fr,hb,hcells,hall⟩
   ·omega
   ·obtain⟨g1,g2,g3⟩:=hall _ hlt
    refine⟨b,cs,ty,fr,hb,hcells,g1,g2,fun j v hj=> ?_⟩
    rw [he]
    exact g3 j v hj
  unfold p2t at h
  simp only [x6] at h
  split at h
  ·rename_i hagg
   split at h
   case h_1=>cases h
   rename_i i hi
   split at h
   case h_2=>cases h
   rename_i xs hc hf
   split at h
   case h_2=>cases h
   rename_i l' hneed
   cases h
   simp only [x5,y8] at hc
   obtain⟨hc,_⟩:=hc
   obtain⟨b,cs,ty,fr,hb,hcells,hlen,hpure,hall⟩:=key (j0 hneed hl)
   rw [hf] at hlen hpure hall
   simp only [Value.cells] at hlen hall
   simp only [rv,r8,hb,C8,Instr.loadAt,Instr.sureAddr,pure_bind,loadVar,p8,C1 hd,r9]
   rw [hagg]
   have hl2:=h0g (P:=P) w ⟨b,off,none⟩ xs.toList (fun j v hj=>by
    rw [o8,iP w b (off+j) _ _ _ hcells]
    exact hall j v hj)
   rw [hlen,<- hc] at hl2
   simp only [J3,p8,m7 hi,r9,hl2]
   have:=B1 ρ _ hpure
   rw [rv] at this
   rw [this]
   rfl
  ·rename_i hagg
   split at h
   case h_2=>cases h
   rename_i hs
   have hs:=S6 hs
   have fin:∀ v l',(f (bF off o sz))=v->v.cells= #[v] ->N3 auto (FamIn off o sz n)=some l'->d9 l'->(Instr.loadAt t (rv ρ (.pointer (some ⟨id,off,none⟩)))).run P w= .ok (rv ρ v) w:=by
    intro v l' hf hv hneed hl'
    obtain⟨b,cs,ty,fr,hb,hcells,hlen,hpure,hall⟩:=key (j0 hneed hl')
    rw [hf] at hlen hpure hall
    simp only [rv,r8,hb,C8,Instr.loadAt,Instr.sureAddr,pure_bind,loadVar,p8,C1 hd,r9,hagg]
    have:w.cell? ⟨b,off,none⟩=some (rv ρ v):=by
     rw [iP w b off _ _ _ hcells,B1 ρ v hpure]
     exact hall 0 v (by rw [hv]; rfl)
    simp only [P3,D7]
    exact aN this
   split at h
   ·cases h
   ·cases h
   ·rename_i v hna hnt
    split at h
    case h_2=>cases h
    rename_i l' hneed
    cases h
    refine fin _ _ rfl ?_ hneed hl
    cases hfv:f (bF off o sz) <;> first | rfl | (exact absurd hfv (hna _)) | (exact absurd hfv (hnt _))
 ·cases h
def p1t (v:Value):Bool:=
 match v with
 | .agg _=>false
 | .tuple _=>false
 | _=>true
def aQ (P:Program) (H:Heap) (t:TypeId) (x v:Value):Option Heap:=
 match x with
 | .pointer (some ⟨id,off,none⟩)=>
  match fQ P t with
  | none=>none
  | some i=>
   match H.get id with
   | some (.cells cs ty)=>
    match zO0 v.cells.toList.length i.size && Nat.ble (off+v.cells.toList.length) cs.length && v.cells.toList.all p1t with
    | true=>some (H.set id (.cells (cs.take off++v.cells.toList++cs.drop (off+v.cells.toList.length)) ty))
    | false=>none
   | some (.row e sz (.vals xs) k)=>
    match zO0 v.cells.toList.length i.size && Nat.ble (off+v.cells.toList.length) xs.length && v.cells.toList.all p1t && zO1 0 xs.length with
    | true=>some (H.set id (.row e sz (.vals (xs.take off++v.cells.toList++xs.drop (off+v.cells.toList.length))) k))
    | false=>none
   | some (.row e sz (.ints kd ns) k)=>match v with
    | .int kd' x=>match decide (kd'=kd) && zO0 1 i.size && zO1 off ns.length with
     | true=>some (H.set id (.row e sz (.ints kd (gU ns off x)) k))
     | false=>none
    | _=>none
   | _=>none
 | _=>none
theorem g0m (ρ:Num) (v:Value) (h:p1t v=true):(rv ρ v).oneCell'=true:=by
 cases v with
 | agg _=>simp [p1t] at h
 | tuple _=>simp [p1t] at h
 | pointer a=>cases a <;> simp [rv,Value.oneCell']
 | slice a n c=>
  cases a with
  | none=>simp [rv,Value.oneCell']
  | some a=>
   obtain⟨x,m,e⟩:=uT ρ a n c
   simp [rv,e,Value.oneCell']
 | map a=>cases a <;> simp [rv,Value.oneCell']
 | chan a=>
  cases a with
  | none=>simp [rv,Value.oneCell']
  | some m=>
   obtain⟨x,q,e⟩:=mZ ρ m
   simp [rv,e,Value.oneCell']
 | complex k a c=>
  cases k with
  | f64=>simp [rv,Value.oneCell']
  | f32=>
   obtain⟨x,q,e⟩:=mB ρ a c
   simp [rv,e,Value.oneCell']
 | _=>simp [rv,Value.oneCell']
theorem U7 {P:Program} {B:Nat} {M:Nat->Prop} {ρ:Num} {H:Heap} {w:World} (hS:Sim P B M ρ H w) {t:TypeId} {v:Value} {i:TypeInfo} (hi:P.info? t=some i) {id off e sz k:Nat} {r r':Row}
  (hget:H.get id=some (.row e sz r k)) (h1:v.cells.toList.length=i.size) (h2:off+v.cells.toList.length<=r.list.length) (h3:∀ x∈v.cells.toList,p1t x=true) (h4:0 < r.list.length)
  (hr:r'.list=r.list.take off++v.cells.toList++r.list.drop (off+v.cells.toList.length)):
  ∃ w',(Instr.storeAt t (rv ρ (.pointer (some ⟨id,off,none⟩))) (rv ρ v)).run P w= .ok () w'∧Sim P B M ρ (H.set id (.row e sz r' k)) w'∧Keeps B M w w'∧w'.drawn=w.drawn∧w'.heap.size=w.heap.size:=by
  obtain⟨b,cap,cur,hb,hcap,hcells,hB,hcm,hcs,hln,htake⟩:=(hS.obj id _ hget).row_some h4
  generalize r.list=xs at*
  have hlen:((rv ρ v).cells.toList).length=v.cells.toList.length:=by rw [N4]; simp
  have hcur:xs.length<=cur.size:=by rw [hcs]; exact hln
  have hst:=D0 P b off e (rv ρ v).cells.toList 0 cur w hcells (by rw [hlen]; omega) (fun u hu=>by
   rw [N4] at hu
   simp only [yE,zzA43] at hu
   obtain⟨u0,hu0,rfl⟩:=hu
   exact g0m ρ u0 (h3 u0 hu0))
  have hsz:(rv ρ v).cells.size=i.size:=by rw [<- h1]; simpa using hlen
  have hsize:(cur.toList.take (off+0)++(rv ρ v).cells.toList++cur.toList.drop (off+0+(rv ρ v).cells.toList.length)).toArray.size=cur.size:=by
   have hm:(rv ρ v).cells.toList.length=v.cells.toList.length:=hlen
   generalize (rv ρ v).cells.toList=us at*
   generalize v.cells.toList=vs at*
   simp only [b1o,s9,A9,D5,cT]
   rw [B2 (by omega)]
   omega
  refine⟨w.setRow b (cur.toList.take (off+0)++(rv ρ v).cells.toList++cur.toList.drop (off+0+(rv ρ v).cells.toList.length)).toArray,?_,?_,?_,?_,?_⟩
  ·simp only [rv,r8,hb,C8,Instr.storeAt,Instr.sureAddr,pure_bind,storeVar,p8,m7 hi,r9]
   rw [a6 (by simp [hsz])]
   simpa using hst
  ·have e0:(xs.take off++v.cells.toList++xs.drop (off+v.cells.toList.length)).length=xs.length:=by
    simp only [s9,A9,D5]
    omega
   refine hS.turn hget rfl hb (.inr ⟨b,cap,_,rfl,hcap,hcells.set _ hsize,hB,hcm,by rw [hsize]; exact hcs,by rw [hr,e0]; exact hln,?_⟩) (fun k hk=>qG w b k _ hk)
   rw [hr,e0]
   simp only [E4,hlen]
   have e2:rvL ρ (xs.take off++v.cells.toList++xs.drop (off+v.cells.toList.length))=(rvL ρ xs).take off++(rv ρ v).cells.toList++(rvL ρ xs).drop (off+v.cells.toList.length):=by
    simp only [l9,jK,eZ,gD,N4,yE]
   rw [e2,<- htake]
   apply j1k
   intro j
   simp only [T5,List.getElem?_append,s9,A9,hlen,S3,cT]
   grind
  ·exact⟨rfl,rfl,rfl,by simp,fun k hk hm=>qG w b k _ (fun e=>by subst e; exact hB.elim (fun h=>by omega) hm)⟩
  ·rfl
  ·simp
theorem Z2 {P:Program} {B:Nat} {M:Nat->Prop} {ρ:Num} {H H':Heap} {w:World} (hS:Sim P B M ρ H w) {t:TypeId} {x v:Value}
  (h:aQ P H t x v=some H'):∃ w',(Instr.storeAt t (rv ρ x) (rv ρ v)).run P w= .ok () w'∧Sim P B M ρ H' w'∧Keeps B M w w'∧w'.drawn=w.drawn∧w'.heap.size=w.heap.size:=by
 unfold aQ at h
 simp only [x6] at h
 split at h
 case h_2=>cases h
 rename_i id off
 split at h
 case h_1=>cases h
 rename_i i hi
 split at h
 case h_4=>cases h
 case h_2=>
  rename_i e sz xs k hget
  split at h
  case h_2=>cases h
  rename_i hc
  simp only [x5,y8,M8,D1,zzA10] at hc
  obtain⟨⟨⟨h1,h2⟩,h3⟩,h4⟩:=hc
  cases h
  exact U7 hS hi (r:= .vals xs) hget h1 h2 h3 h4 rfl
 case h_3=>
  rename_i e sz kd ns k hget
  split at h
  case h_2=>cases h
  rename_i kd' x
  split at h
  case h_2=>cases h
  rename_i hc
  simp only [x5,y8,D1,aO] at hc
  obtain⟨⟨hk,h1⟩,h2⟩:=hc
  subst hk
  cases h
  have hc1:(zO3 kd' x).cells.toList=[.int kd' x] :=rfl
  refine U7 hS hi (r:= .ints kd' ns) hget (by rw [hc1]; exact h1) (by rw [hc1]; simp [Row.list]; omega) (by rw [hc1]; simp [p1t]) (by simp [Row.list]; omega) ?_
  rw [hc1,B5]
  simp only [Row.list,bB,<- eZ,<- gD]
  rw [show [zO3 kd' x] =[x].map (zO3 kd') from rfl,<- jK,<- jK,List.set_eq_take_append_cons_drop,b9 h2]
  simp
 rename_i cs ty hget
 split at h
 case h_2=>cases h
 rename_i hc
 simp only [x5,y8,M8,zzA10] at hc
 obtain⟨⟨h1,h2⟩,h3⟩:=hc
 cases h
 obtain⟨b,hb,hcells,hown⟩:=hS.obj id _ hget
 have hlen:((rv ρ v).cells.toList).length=v.cells.toList.length:=by rw [N4]; simp
 have hst:=run_storeCells_at P b off ty (rv ρ v).cells.toList 0 (rvL ρ cs).toArray w hcells (by simp [hlen,l9] at h2 ⊢; omega) (fun u hu=>by
  rw [N4] at hu
  simp only [yE,zzA43] at hu
  obtain⟨u0,hu0,rfl⟩:=hu
  exact g0m ρ u0 (h3 u0 hu0))
 have hsz:(rv ρ v).cells.size=i.size:=by rw [<- h1]; simpa using hlen
 refine⟨w.setRow b ((rvL ρ cs).toArray.toList.take (off+0)++(rv ρ v).cells.toList++(rvL ρ cs).toArray.toList.drop (off+0+(rv ρ v).cells.toList.length)).toArray,?_,?_,?_,?_,?_⟩
 ·simp only [rv,r8,hb,C8,Instr.storeAt,Instr.sureAddr,pure_bind,storeVar,p8,m7 hi,r9]
  rw [a6 (by simp [hsz])]
  simpa using hst
 ·refine hS.turn hget rfl hb ⟨b,rfl,?_,hown⟩ (fun k hk=>qG w b k _ hk)
  rw [setRow_heap w b _ _ ty (0,0) hcells]
  congr 2
  simp only [l9,jK,eZ,gD,N4,E4,yE,B9]
 ·exact⟨rfl,rfl,rfl,by simp,fun k hk hm=>qG w b k _ (fun e=>by subst e; exact hown.elim (fun h=>by omega) (fun h=>hm h))⟩
 ·rfl
 ·simp
def Row.len:Row->Nat
 | .vals xs=>xs.length
 | .ints _ ns=>ns.length
 | .fam f n=>(qS f n).length
 | .bytes l=>l.length
theorem i0f (r:Row):r.len=r.list.length:=by cases r <;> simp [Row.len,Row.list]
theorem k2g {P:Program} {B:Nat} {M:Nat->Prop} {ρ:Num} {H:Heap} {w:World} (hS:Sim P B M ρ H w) {id off e sz k:Nat} {r r':Row} {news:List Value} (hp:rvL ρ news=news)
  (hget:H.get id=some (.row e sz r k)) (h2:off+news.length<=r.list.length) (h3:∀ x∈news,x.oneCell'=true) (h4:0 < r.list.length)
  (hr:r'.list=r.list.take off++news++r.list.drop (off+news.length)) {b:Nat} (hbb:ρ id=some b) {cur:Array Value} {e':TypeId} {fr:Nat×Nat} (hcur:w.heap[b]? =some (.cells cur e' fr)):
  (storeCells ⟨b,off,none⟩ news).run P w= .ok () (w.setRow b (cur.toList.take off++news++cur.toList.drop (off+news.length)).toArray)∧
  Sim P B M ρ (H.set id (.row e sz r' k)) (w.setRow b (cur.toList.take off++news++cur.toList.drop (off+news.length)).toArray)∧
  Keeps B M w (w.setRow b (cur.toList.take off++news++cur.toList.drop (off+news.length)).toArray):=by
 obtain⟨b',cap,cur',hb,hcap,hcells,hB,hcm,hcs,hln,htake⟩:=(hS.obj id _ hget).row_some h4
 rw [hbb] at hb
 cases hb
 obtain rfl:cur'=cur:=by
  obtain⟨fr',q1,_⟩:=hcells
  rw [hcur] at q1
  injection q1 with q1
  injection q1 with q1
  exact q1.symm
 generalize r.list=xs at*
 have hcur:xs.length<=cur'.size:=by rw [hcs]; exact hln
 have hst:=D0 P b off e news 0 cur' w hcells (by omega) h3
 have hsize:(cur'.toList.take off++news++cur'.toList.drop (off+news.length)).toArray.size=cur'.size:=by
  simp only [b1o,s9,A9,D5,cT]
  rw [B2 (by omega)]
  omega
 refine⟨by simpa using hst,?_,⟨rfl,rfl,rfl,by simp,fun k hk hm=>qG w b k _ (fun e=>by subst e; exact hB.elim (fun h=>by omega) hm)⟩⟩
 have e0:(xs.take off++news++xs.drop (off+news.length)).length=xs.length:=by
  simp only [s9,A9,D5]
  omega
 refine hS.turn hget rfl hbb (.inr ⟨b,cap,_,rfl,hcap,hcells.set _ hsize,hB,hcm,by rw [hsize]; exact hcs,by rw [hr,e0]; exact hln,?_⟩) (fun k hk=>qG w b k _ hk)
 rw [hr,e0]
 have e2:rvL ρ (xs.take off++news++xs.drop (off+news.length))=(rvL ρ xs).take off++news++(rvL ρ xs).drop (off+news.length):=by
  have hp':=hp
  rw [l9] at hp'
  simp only [l9,jK,eZ,gD,hp']
 rw [e2,<- htake]
 apply j1k
 intro j
 simp only [T5,List.getElem?_append,s9,A9,S3,cT]
 grind
def jD (P:Program) (auto:Bool) (H:Heap) (t:TypeId) (x v:Value):Option (Heap×List Prop):=
 match auto with
 | true=>none
 | false=>match x with
  | .pointer (some ⟨id,off,none⟩)=>match H.get id with
   | some (.row e sz (.ints kd ns) k)=>match fQ P t,v with
    | some i, .int kd' x=>match decide (kd'=kd) && zO0 1 i.size with
     | true=>some (H.set id (.row e sz (.ints kd (gU ns off x)) k),[off < ns.length])
     | false=>none
    | _,_=>none
   | _=>none
  | _=>none
theorem xO {P:Program} {auto:Bool} {B:Nat} {M:Nat->Prop} {ρ:Num} {H H':Heap} {w:World} (hS:Sim P B M ρ H w) {t:TypeId} {x v:Value} {l:List Prop}
  (h:jD P auto H t x v=some (H',l)) (hl:d9 l):∃ w',(Instr.storeAt t (rv ρ x) (rv ρ v)).run P w= .ok () w'∧Sim P B M ρ H' w'∧Keeps B M w w':=by
 unfold jD at h
 simp only [x6] at h
 split at h
 ·cases h
 split at h
 case h_2=>cases h
 rename_i id off
 split at h
 case h_2=>cases h
 rename_i e sz kd ns k hget
 split at h
 case h_2=>cases h
 rename_i i kd' x hi
 split at h
 case h_2=>cases h
 rename_i hc
 simp only [x5,aO,y8] at hc
 obtain⟨rfl,hs⟩:=hc
 cases h
 have hlt:off < ns.length:=hl.1
 obtain⟨w',h1,h2,h3,_⟩:=U7 (v:= .int kd' x) (r':= .ints kd' (gU ns off x)) hS hi hget (by simpa [Value.cells] using hs) (by show off+1<=_; simp only [Row.list,B9]; omega) (by simp [Value.cells,p1t]) (by simp only [Row.list,B9]; omega) (by
  simp only [Row.list,Value.cells,B5]
  apply j1k
  intro j
  simp only [S8,List.getElem?_set,List.getElem?_append,T5,S3,s9,A9,B9]
  grind)
 exact⟨w',h1,h2,h3⟩
def cP (H:Heap) (p o k:Nat):Option (List Value):=
 match H.get p with
 | some (.cells cs _)=>match Nat.ble (o+k) cs.length with
  | true=>some ((cs.drop o).take k)
  | false=>none
 | some (.row _ _ (.vals xs) _)=>match Nat.ble (o+k) xs.length && zO1 0 k with
  | true=>some ((xs.drop o).take k)
  | false=>none
 | some (.row _ _ (.ints kd ns) _)=>match Nat.ble (o+k) ns.length && zO1 0 k with
  | true=>some (((ns.drop o).take k).map (.int kd))
  | false=>none
 | some (.ro xs)=>match Nat.ble (o+k) xs.length && zO1 0 k with
  | true=>some ((xs.drop o).take k)
  | false=>none
 | _=>none
theorem aA {P:Program} {B:Nat} {M:Nat->Prop} {ρ:Num} {H:Heap} {w:World} (hS:Sim P B M ρ H w) {p o k:Nat} {cs:List Value} (h:cP H p o k=some cs):
  ∃ b,ρ p=some b∧cs.length=k∧∀ j u,(rvL ρ cs)[j]? =some u->w.cell? ⟨b,o+j,none⟩=some u:=by
 unfold cP at h
 split at h
 ·rename_i cs0 t hget
  split at h
  case h_2=>cases h
  rename_i hle
  cases h
  have hle:=iU hle
  obtain⟨b,hb,hcells,_⟩:=hS.obj p _ hget
  refine⟨b,hb,by simp; omega,fun j u hj=> ?_⟩
  rw [iP w b (o+j) _ _ _ hcells]
  rw [l9,S8,T5] at hj
  split at hj
  ·rw [S3] at hj
   simpa [l9] using hj
  ·cases hj
 ·rename_i e sz xs kk hget
  split at h
  case h_2=>cases h
  rename_i hle
  simp only [x5,M8,D1] at hle
  cases h
  obtain⟨b,cap,cur,hb,_,hcells,_,_,_,_,htake⟩:=(hS.obj p _ hget).row_some (by simp only [Row.list]; omega)
  refine⟨b,hb,by simp; omega,fun j u hj=> ?_⟩
  rw [l9,S8,T5] at hj
  split at hj
  ·rw [S3] at hj
   cases hx:xs[o+j]? with
   | none=>rw [hx] at hj; cases hj
   | some y=>
    rw [hx] at hj
    cases hj
    exact N8 hcells htake hx
  ·cases hj
 ·rename_i e sz kd ns kk hget
  split at h
  case h_2=>cases h
  rename_i hle
  simp only [x5,M8,D1] at hle
  cases h
  obtain⟨b,cap,cur,hb,_,hcells,_,_,_,_,htake⟩:=(hS.obj p _ hget).row_some (by simp only [Row.list,B9]; omega)
  refine⟨b,hb,by simp; omega,fun j u hj=> ?_⟩
  rw [l9,S8,S8,T5] at hj
  split at hj
  ·rw [S3] at hj
   cases hx:ns[o+j]? with
   | none=>rw [hx] at hj; cases hj
   | some y=>
    rw [hx] at hj
    cases hj
    have:=N8 (i:=o+j) (v:= .int kd y) hcells htake (by rw [Row.list,S8,hx]; rfl)
    exact this
  ·cases hj
 ·rename_i xs hget
  split at h
  case h_2=>cases h
  rename_i hle
  simp only [x5,M8,D1] at hle
  cases h
  rcases hS.obj p _ hget with ⟨_,hnil⟩ | ⟨b,cs0,ty,fr,hb,hcells,hall⟩
  ·subst hnil; simp at hle; omega
  ·refine⟨b,hb,by simp; omega,fun j u hj=> ?_⟩
   rw [iP w b (o+j) _ _ _ hcells]
   rw [l9,S8,T5] at hj
   split at hj
   ·rw [S3] at hj
    exact hall (o+j) u (by rw [l9,S8]; exact hj)
   ·cases hj
 ·cases h
def roO:AObj->Option AObj
 | .cells cs _=>some (.ro cs)
 | .row _ _ (.vals xs) _=>some (.ro xs)
 | .row _ _ (.ints k ns) _=>some (.ints k ns)
 | .ints k ns=>some (.ints k ns)
 | .ro xs=>some (.ro xs)
 | .fam f n sz o=>some (.fam f n sz o)
 | _=>none
def q2r (p:Nat->Bool):AObj->Bool
 | .cells cs _=>allL p cs
 | .row _ _ (.vals xs) k=>allL p xs && p k
 | .row _ _ (.ints _ _) k=>p k
 | .ints _ _=>true
 | .iter _ _=>true
 | .ro xs=>allL p xs
 | .fam _ _ _ _=>true
 | _=>false
theorem ORep.ro {B:Nat} {M:Nat->Prop} {B':Nat} {M':Nat->Prop} {ρ:Num} {w:World} {ob:Option Nat} {o o':AObj} (h:ORep B M ρ w ob o) (hr:roO o=some o'):ORep B' M' ρ w ob o'∧o'.rw=false:=by
 unfold roO at hr
 split at hr
 ·cases hr
  obtain⟨b,h1,h2,_⟩:=h
  exact⟨.inr ⟨b,_,_,_,h1,h2,fun i v hi=>by simpa using hi⟩,rfl⟩
 ·cases hr
  rcases h with ⟨h1,h2⟩ | ⟨b,cap,cur,h1,h2,h3,h4,h5,h6,h7,h8⟩
  ·exact⟨.inl ⟨h1,h2⟩,rfl⟩
  ·rename_i xs _
   obtain⟨fr,h3,_⟩:=h3
   refine⟨.inr ⟨b,cur,_,_,h1,h3,fun i v hi=> ?_⟩,rfl⟩
   have h8:cur.toList.take xs.length=rvL ρ xs:=h8
   rw [<- h8,T5] at hi
   split at hi
   ·simpa using hi
   ·cases hi
 ·cases hr
  rcases h with ⟨h1,h2⟩ | ⟨b,cap,cur,h1,h2,h3,h4,h5,h6,h7,h8⟩
  ·exact⟨.inl ⟨h1,by simpa [Row.list] using h2⟩,rfl⟩
  ·rename_i k ns _
   have h3':=h3
   obtain⟨fr,h3,_⟩:=h3
   refine⟨.inr ⟨b,cur,_,_,h1,h3,fun i hi=> ?_⟩,rfl⟩
   have:=N8 (i:=i) (v:= .int k (ns.getD i 0)) (xs:=ns.map (.int k)) h3' h8 (by rw [S8]; simp [List.getD,hi])
   rw [iP w b i _ _ _ h3] at this
   simpa [rv] using this
 ·cases hr; exact⟨h,rfl⟩
 ·cases hr; exact⟨h,rfl⟩
 ·cases hr; exact⟨h,rfl⟩
 ·cases hr
theorem ORep.all {B:Nat} {M:Nat->Prop} {ρ ρ':Num} {p:Nat->Bool} (ha:∀ j,p j=true->ρ' j=ρ j) {w:World} {ob:Option Nat} {o:AObj} (h:ORep B M ρ w ob o) (hp:q2r p o=true):ORep B M ρ' w ob o:=by
 unfold q2r at hp
 split at hp
 ·obtain⟨b,h1,h2,h3⟩:=h
  exact⟨b,h1,by rw [rvL_all ha _ hp]; exact h2,h3⟩
 ·simp only [x5] at hp
  rcases h with h | ⟨b,cap,cur,h1,h2,h3,h4,h5,h6,h7,h8⟩
  ·exact .inl h
  ·refine .inr ⟨b,cap,cur,h1,(ha _ hp.2).trans h2,h3,h4,h5,h6,h7,?_⟩
   rw [Row.list,rvL_all ha _ hp.1]
   exact h8
 ·rcases h with h | ⟨b,cap,cur,h1,h2,h3,h4,h5,h6,h7,h8⟩
  ·exact .inl h
  ·refine .inr ⟨b,cap,cur,h1,(ha _ hp).trans h2,h3,h4,h5,h6,h7,?_⟩
   rename_i k ns _
   have e:∀ (r:Num),rvL r (ns.map (zO3 k))=ns.map (zO3 k):=fun r=>rvL_pure r _ (by rw [C9]; simp [z7])
   have h8:cur.toList.take (ns.map (zO3 k)).length=rvL ρ (ns.map (zO3 k)):=h8
   show cur.toList.take (ns.map (zO3 k)).length=rvL ρ' (ns.map (zO3 k))
   rw [e] at h8 ⊢
   exact h8
 ·exact h
 ·exact h
 ·rcases h with h | ⟨b,cs,t,fr,h1,h2,h3⟩
  ·exact .inl h
  ·exact .inr ⟨b,cs,t,fr,h1,h2,fun i v hi=>h3 i v (by rw [<- rvL_all ha _ hp]; exact hi)⟩
 ·exact h
 ·cases hp
end
noncomputable section
def M0 {α:Type} (P:Program):Sem α->Option α
 | .pure a=>some a
 | .program k=>M0 P (k P)
 | _=>none
theorem b0v {α:Type} {P:Program} {s:Sem α} {a:α} (h:M0 P s=some a) (w:World):s.run P w= .ok a w:=by
 induction s with
 | pure b=>simp only [M0] at h; cases h; rfl
 | program k ih=>simp only [M0] at h; simp only [Sem.run]; exact ih P h
 | _=>simp [M0] at h
def Q2 (x:Option Value):Option Value:=
 match x with
 | some v=>match z7 v with
  | true=>some v
  | false=>none
 | none=>none
theorem V3 {P:Program} {s:Sem Value} {v:Value} (h:Q2 (M0 P s)=some v) (ρ:Num) (w:World):s.run P w= .ok (rv ρ v) w:=by
 unfold Q2 at h
 split at h
 ·rename_i u hu
  split at h
  ·rename_i hp
   cases h
   rw [B1 ρ _ hp]
   exact b0v hu w
  ·cases h
 ·cases h
def known (P:Program) (H:Heap) (id:Nat):Bool:=
 match H.get id with
 | some (.cells _ _)=>true
 | some (.ro (_ ::_))=>true
 | some (.row _ _ (.vals (_ ::_)) _)=>true
 | some (.row _ _ (.ints _ (_ ::_)) _)=>true
 | _=>zO1 id P.globals.size
theorem L8 {P:Program} {B:Nat} {M:Nat->Prop} {ρ:Num} {H:Heap} {w:World} (hS:Sim P B M ρ H w) {id:Nat} (h:known P H id=true):∃ b,ρ id=some b:=by
 unfold known at h
 split at h
 ·rename_i cs t hg
  obtain⟨b,hb,_⟩:=hS.obj id _ hg
  exact⟨b,hb⟩
 ·rename_i hg
  rcases hS.obj id _ hg with ⟨_,hnil⟩ | ⟨b,cs,ty,fr,hb,_,_⟩
  ·cases hnil
  ·exact⟨b,hb⟩
 ·rename_i hg
  rcases hS.obj id _ hg with ⟨_,hnil⟩ | ⟨b,_,_,hb,_⟩
  ·cases hnil
  ·exact⟨b,hb⟩
 ·rename_i hg
  rcases hS.obj id _ hg with ⟨_,hnil⟩ | ⟨b,_,_,hb,_⟩
  ·cases hnil
  ·exact⟨b,hb⟩
 ·exact⟨id,hS.glob id (by simpa [Nat.blt_eq] using h)⟩
def addO (a b:Nat):Nat:=match a with
 | 0=>b
 | a+1=>a+1+b
@[simp] theorem G1 (a b:Nat):addO a b=a+b:=by cases a <;> simp [addO]
def T0 (a b:Nat):Nat:=match b with
 | 1=>a
 | b=>a*b
@[simp] theorem cV (a b:Nat):T0 a b=a*b:=by unfold T0; split <;> simp
def gH (P:Program) (H:Heap) (s:TypeId) (x:Value) (f:Nat):Option Value:=
 match x with
 | .pointer (some ⟨id,off,none⟩)=>
  match known P H id with
  | false=>none
  | true=>
   match W0 P s with
   | some (.struct fs)=>match fs[f]? with
    | none=>none
    | some fd=>match fQ P fd.type with
     | none=>none
     | some i=>match i.size with
      | 0=>none
      | _+1=>some (.pointer (some ⟨id,addO off fd.offset,none⟩))
   | _=>none
 | _=>none
theorem mM {P:Program} {B:Nat} {M:Nat->Prop} {ρ:Num} {H:Heap} {w:World} (hS:Sim P B M ρ H w) {s:TypeId} {x v:Value} {f:Nat}
  (h:gH P H s x f=some v):(Instr.fieldAt s (rv ρ x) f).run P w= .ok (rv ρ v) w:=by
 unfold gH at h
 simp only [w8,x6] at h
 split at h
 case h_2=>cases h
 rename_i id off
 split at h
 case h_1=>cases h
 rename_i hk
 obtain⟨b,hb⟩:=L8 hS hk
 split at h
 case h_2=>cases h
 rename_i fs hu
 split at h
 case h_1=>cases h
 rename_i fd hf
 split at h
 case h_1=>cases h
 rename_i i hi
 split at h
 case h_1=>cases h
 rename_i n hn
 cases h
 simp only [rv,r8,hb,C8,Instr.fieldAt,p8,T1 hu,r9,hf,Instr.sureAddr,pure_bind,fieldPlace,m7 hi,hn]
 simp [o8]
def gI (P:Program) (auto:Bool) (H:Heap) (t:TypeId) (x ix:Value):Option (Value×List Prop):=
 match ix with
 | .int _ i=>
  match W0 P t with
  | some (.array len e)=>
   match x with
   | .pointer (some ⟨id,off,none⟩)=>
    match known P H id with
    | false=>none
    | true=>match fQ P e with
     | none=>none
     | some inf=>match N3 auto (0<=i∧i < len) with
      | none=>none
      | some l=>some (.pointer (some ⟨id,addO off (T0 i.toNat inf.size),none⟩),l)
   | _=>none
  | some (.slice e)=>
   match x with
   | .slice (some ⟨id,off,none⟩) n _=>
    match fQ P e with
    | none=>none
    | some inf=>
     match H.get id with
     | some (.ints _ xs)=>match N3 auto ((0<=i∧i < n)∧n<=xs.length) with
      | none=>none
      | some l=>some (.pointer (some ⟨id,addO off (T0 i.toNat inf.size),none⟩),l)
     | some (.cells _ _)=>match N3 auto (0<=i∧i < n) with
      | none=>none
      | some l=>some (.pointer (some ⟨id,addO off (T0 i.toNat inf.size),none⟩),l)
     | some (.ro xs)=>match N3 auto ((0<=i∧i < n)∧0 < xs.length) with
      | none=>none
      | some l=>some (.pointer (some ⟨id,addO off (T0 i.toNat inf.size),none⟩),l)
     | _=>none
   | .slice (some ⟨id,off,some _⟩) n _=>
    match fQ P e with
    | none=>none
    | some inf=>
     match H.get id with
     | some (.row _ _ (.vals xs) _)=>match N3 auto ((0<=i∧i < n)∧0 < xs.length) with
      | none=>none
      | some l=>some (.pointer (some ⟨id,addO off (T0 i.toNat inf.size),none⟩),l)
     | some (.row _ _ (.ints _ ns) _)=>match N3 auto ((0<=i∧i < n)∧0 < ns.length) with
      | none=>none
      | some l=>some (.pointer (some ⟨id,addO off (T0 i.toNat inf.size),none⟩),l)
     | some (.row _ _ (.fam f m) _)=>match N3 auto ((0<=i∧i < n)∧0 < (qS f m).length) with
      | none=>none
      | some l=>some (.pointer (some ⟨id,addO off (T0 i.toNat inf.size),none⟩),l)
     | some (.ro xs)=>match N3 auto ((0<=i∧i < n)∧0 < xs.length) with
      | none=>none
      | some l=>some (.pointer (some ⟨id,addO off (T0 i.toNat inf.size),none⟩),l)
     | some (.ints _ xs)=>match N3 auto ((0<=i∧i < n)∧0 < xs.length) with
      | none=>none
      | some l=>some (.pointer (some ⟨id,addO off (T0 i.toNat inf.size),none⟩),l)
     | some (.fam _ m _ _)=>match N3 auto ((0<=i∧i < n)∧0 < m) with
      | none=>none
      | some l=>some (.pointer (some ⟨id,addO off (T0 i.toNat inf.size),none⟩),l)
     | _=>none
   | _=>none
  | _=>none
 | _=>none
theorem lS {P:Program} {auto:Bool} {B:Nat} {M:Nat->Prop} {ρ:Num} {H:Heap} {w:World} (hS:Sim P B M ρ H w) {t:TypeId} {x ix v:Value} {l:List Prop}
  (h:gI P auto H t x ix=some (v,l)) (hl:d9 l):(Instr.indexAt t (rv ρ x) (rv ρ ix)).run P w= .ok (rv ρ v) w:=by
 unfold gI at h
 simp only [w8,x6] at h
 split at h
 case h_2=>cases h
 rename_i k i
 split at h
 ·rename_i len e hu
  split at h
  case h_2=>cases h
  rename_i id off
  split at h
  case h_1=>cases h
  rename_i hk
  obtain⟨b,hb⟩:=L8 hS hk
  split at h
  case h_1=>cases h
  rename_i inf hi
  split at h
  case h_1=>cases h
  rename_i l' hn
  cases h
  have hr:=j0 hn hl
  simp [rv,r8,hb,Instr.indexAt,asIntOf,run_underlying hu,Instr.sureAddr,hr,m7 hi,o8]
 ·rename_i e hu
  split at h
  case h_3=>cases h
  case h_2=>
   rename_i id off kk n c
   split at h
   case h_1=>cases h
   rename_i inf hi
   have fin:∀ (b:Nat),ρ id=some b->(0<=i∧i < (n:Int))->(Instr.indexAt t (rv ρ (.slice (some ⟨id,off,some kk⟩) n c)) (rv ρ (.int k i))).run P w= .ok (rv ρ (.pointer (some ⟨id,addO off (T0 i.toNat inf.size),none⟩))) w:=by
    intro b hb hr
    simp [rv,rSl,r8,hb,Instr.indexAt,asIntOf,run_underlying hu,hr,m7 hi,o8]
   split at h
   ·rename_i e' sz xs k2 hg
    split at h
    case h_1=>cases h
    rename_i l' hn
    cases h
    have hr:=j0 hn hl
    obtain⟨b,_,_,hb,_⟩:=(hS.obj id _ hg).row_some hr.2
    exact fin b hb hr.1
   ·rename_i e' sz k3 ns k2 hg
    split at h
    case h_1=>cases h
    rename_i l' hn
    cases h
    have hr:=j0 hn hl
    obtain⟨b,_,_,hb,_⟩:=(hS.obj id _ hg).row_some (by simp [Row.list]; exact hr.2)
    exact fin b hb hr.1
   ·rename_i e' sz f m k2 hg
    split at h
    case h_1=>cases h
    rename_i l' hn
    cases h
    have hr:=j0 hn hl
    obtain⟨b,_,_,hb,_⟩:=(hS.obj id _ hg).row_some hr.2
    exact fin b hb hr.1
   ·rename_i xs hg
    split at h
    case h_1=>cases h
    rename_i l' hn
    cases h
    have hr:=j0 hn hl
    rcases hS.obj id _ hg with ⟨_,hnil⟩ | ⟨b,cs,ty,fr,hb,_,_⟩
    ·have h2:=hr.2
     subst hnil
     simp only [mE] at h2
     omega
    ·exact fin b hb hr.1
   ·rename_i k3 xs hg
    split at h
    case h_1=>cases h
    rename_i l' hn
    cases h
    have hr:=j0 hn hl
    rcases hS.obj id _ hg with ⟨_,hnil⟩ | ⟨b,cs,ty,fr,hb,_,_⟩
    ·have h2:=hr.2
     subst hnil
     simp only [mE] at h2
     omega
    ·exact fin b hb hr.1
   ·rename_i f m sz o hg
    split at h
    case h_1=>cases h
    rename_i l' hn
    cases h
    have hr:=j0 hn hl
    rcases hS.obj id _ hg with ⟨_,hnil⟩ | ⟨b,cs,ty,fr,hb,_,_⟩
    ·have h2:=hr.2
     omega
    ·exact fin b hb hr.1
   ·cases h
  rename_i id off n c
  split at h
  case h_1=>cases h
  rename_i inf hi
  split at h
  ·rename_i k' xs hg
   split at h
   case h_1=>cases h
   rename_i l' hn
   cases h
   have hr:=j0 hn hl
   rcases hS.obj id _ hg with ⟨_,hnil⟩ | ⟨b,cs,ty,fr,hb,_,_⟩
   ·subst hnil
    have h2:=hr.2
    simp only [mE] at h2
    omega
   ·simp [rv,rSl,r8,hb,Instr.indexAt,asIntOf,run_underlying hu,hr.1,m7 hi,o8]
  ·rename_i cs ty hg
   split at h
   case h_1=>cases h
   rename_i l' hn
   cases h
   have hr:=j0 hn hl
   obtain⟨b,hb,_⟩:=hS.obj id _ hg
   simp [rv,rSl,r8,hb,Instr.indexAt,asIntOf,run_underlying hu,hr,m7 hi,o8]
  ·rename_i xs hg
   split at h
   case h_1=>cases h
   rename_i l' hn
   cases h
   have hr:=j0 hn hl
   rcases hS.obj id _ hg with ⟨_,hnil⟩ | ⟨b,cs,ty,fr,hb,_,_⟩
   ·have h2:=hr.2
    subst hnil
    simp only [mE] at h2
    omega
   ·simp [rv,rSl,r8,hb,Instr.indexAt,asIntOf,run_underlying hu,hr.1,m7 hi,o8]
  ·cases h
 ·cases h
def b1w (P:Program) (t:TypeId) (cs:List Value) (off:Nat):Option Value:=
 match W0 P t with
 | none=>none
 | some d=>match z1m d with
  | true=>match fQ P t with
   | none=>none
   | some i=>some (.agg ⟨(cs.drop off).take i.size⟩)
  | false=>cs[off]?
theorem aD {P:Program} {t:TypeId} {cs:List Value} {off:Nat} {v:Value} (h:b1w P t cs off=some v) (ρ:Num) (w:World):
  (part t (rvA ρ ⟨cs⟩) off).run P w= .ok (rv ρ v) w:=by
 unfold b1w at h
 simp only [w8,x6] at h
 split at h
 case h_1=>cases h
 rename_i d hd
 split at h
 ·rename_i ha
  split at h
  case h_1=>cases h
  rename_i i hi
  cases h
  simp only [part,p8,C1 hd,ha,r9,J3,m7 hi,rvA,l9,rv]
  simp [List.map_take,List.map_drop,List.extract_eq_take_drop]
 ·rename_i ha
  simp only [part,p8,C1 hd,ha,r9,rvA,l9]
  simp [h]
def p0g (P:Program) (t:TypeId) (x:Value) (f:Nat):Option Value:=
 match x with
 | .agg ⟨cs⟩=>match W0 P t with
  | some (.struct fs)=>match fs[f]? with
   | some fd=>b1w P fd.type cs fd.offset
   | none=>none
  | _=>none
 | _=>none
theorem f0s {P:Program} {t:TypeId} {x v:Value} {f:Nat} (h:p0g P t x f=some v) (ρ:Num) (w:World):(Instr.field t (rv ρ x) f).run P w= .ok (rv ρ v) w:=by
 unfold p0g at h
 simp only [w8] at h
 split at h
 case h_2=>cases h
 split at h
 case h_2=>cases h
 rename_i fs hu
 split at h
 case h_2=>cases h
 rename_i fd hf
 simp [Instr.field,run_underlying hu,hf,rv,asAgg,aD h ρ w]
def mQ (s:ByteArray) (i:Nat):Nat:=(s.data.toList.getD i 0).toNat
def s0n (P:Program) (auto:Bool) (t:TypeId) (x ix:Value):Option (Value×List Prop):=
 match ix with
 | .int _ i=>
  match W0 P t with
  | some .string=>match x with
   | .string s=>match N3 auto (0<=i∧i.toNat < s.data.toList.length) with
    | some l=>some (.int .u8 (mQ s i.toNat),l)
    | none=>none
   | _=>none
  | some (.array len e)=>match x with
   | .agg ⟨cs⟩=>match fQ P e with
    | none=>none
    | some inf=>match N3 auto (0<=i∧i < len) with
     | some l=>match b1w P e cs (T0 i.toNat inf.size) with
      | some v=>some (v,l)
      | none=>none
     | none=>none
   | _=>none
  | _=>none
 | _=>none
theorem d0y {P:Program} {auto:Bool} {t:TypeId} {x ix v:Value} {l:List Prop} (h:s0n P auto t x ix=some (v,l)) (hl:d9 l) (ρ:Num) (w:World):
  (Instr.index t (rv ρ x) (rv ρ ix)).run P w= .ok (rv ρ v) w:=by
 unfold s0n at h
 simp only [w8,x6] at h
 split at h
 case h_2=>cases h
 rename_i k i
 split at h
 ·rename_i hu
  split at h
  case h_2=>cases h
  rename_i s
  split at h
  case h_2=>cases h
  rename_i l' hn
  cases h
  obtain⟨h0,h1⟩:=j0 hn hl
  have hsz:i.toNat < s.size:=h1
  have hb:s[i.toNat]? =some (s[i.toNat]):=ByteArray.getElem?_lt' s _ hsz
  have he:mQ s i.toNat=(s[i.toNat]).toNat:=by
   unfold mQ
   rw [pZ,e1i h1]
   rfl
  simp only [Instr.index,rv,asIntOf,pure_bind,p8,T1 hu,r9,h0,J3,hb,he]
  rfl
 ·rename_i len e hu
  split at h
  case h_2=>cases h
  rename_i cs
  split at h
  case h_1=>cases h
  rename_i inf hi
  split at h
  case h_2=>cases h
  rename_i l' hn
  split at h
  case h_2=>cases h
  rename_i v' hp
  cases h
  have hr:=j0 hn hl
  rw [cV] at hp
  simp [Instr.index,rv,asIntOf,run_underlying hu,hr,m7 hi,aD hp ρ w]
 ·cases h
def vE (x:Value) (i:Nat):Option Value:=
 match x with
 | .tuple ⟨vs⟩=>vs[i]?
 | _=>none
theorem uM {P:Program} {x v:Value} {i:Nat} (h:vE x i=some v) (ρ:Num) (w:World):(Instr.extract (rv ρ x) i).run P w= .ok (rv ρ v) w:=by
 unfold vE at h
 split at h
 case h_2=>cases h
 simp [Instr.extract,rv,rvA,l9,h]
def w1w (P:Program):Nat->TypeId->Value->Value->Option Bool
 | 0,_,_,_=>none
 | d+1,t,x,y=>
  match W0 P t with
  | some .bool=>match x,y with
   | .bool a, .bool b=>some (a==b)
   | _,_=>none
  | some (.int _)=>match x,y with
   | .int k a, .int k' b=>match decide (k=k') with
    | true=>some (a==b)
    | false=>none
   | _,_=>none
  | some .string=>match x,y with
   | .string a, .string b=>some (a.data.toList==b.data.toList)
   | _,_=>none
  | some (.float _)=>match x,y with
   | .float k a, .float k' b=>match decide (k=k') with
    | true=>some (Op.floatEq k a b)
    | false=>none
   | _,_=>none
  | some (.struct fs)=>match x,y with
   | .agg ⟨xs⟩, .agg ⟨ys⟩=>match P.stoodInHeld t with
    | true=>none
    | false=>fs.toList.foldr (fun f acc=>match acc with
     | none=>none
     | some r=>match f.name != "_" with
      | false=>some r
      | true=>match b1w P f.type xs f.offset,b1w P f.type ys f.offset with
       | some a,some b=>match w1w P d f.type a b with
        | some q=>some (q && r)
        | none=>none
       | _,_=>none) (some true)
   | _,_=>none
  | _=>none
theorem dH {P:Program} (ρ:Num) (w:World):∀ (d:Nat) (t:TypeId) (x y:Value) (r:Bool),w1w P d t x y=some r->∀ D,d<=D->(Op.equalIn D t (rv ρ x) (rv ρ y)).run P w= .ok r w:=by
 intro d
 induction d with
 | zero=>intro t x y r h; simp [w1w] at h
 | succ d ih=>
  intro t x y r h D hD
  obtain⟨D,rfl⟩:∃ D',D=D'+1:=⟨D-1,by omega⟩
  have hD:d<=D:=by omega
  unfold w1w at h
  simp only [w8] at h
  split at h
  ·rename_i hu
   split at h
   ·cases h; simp only [rv]; exact run_equalIn_bool w D t _ _ hu
   ·cases h
  ·rename_i k0 hu
   split at h
   ·split at h
    ·rename_i hk; have hk:=H8 hk; subst hk; cases h; simp only [rv]; exact run_equalIn_int w D t _ k0 _ _ hu
    ·cases h
   ·cases h
  ·rename_i hu
   split at h
   ·cases h; simp only [rv]; rw [run_equalIn_string w D t _ _ hu,ByteArray.toList_eq,ByteArray.toList_eq]
   ·cases h
  ·rename_i k0 hu
   split at h
   ·split at h
    ·rename_i hk; have hk:=H8 hk; subst hk; cases h; simp only [rv,Op.equalIn,p8,T1 hu,r9,J3]; rfl
    ·cases h
   ·cases h
  ·rename_i fs hu
   split at h
   ·rename_i xs ys
    split at h
    ·cases h
    ·rename_i hst
     have hf:P.fieldsOf t=fs:=by simp [Program.fieldsOf,hu]
     have hu':P.underlying t=some (.struct (P.fieldsOf t)):=by rw [hf]; exact hu
     simp only [rv]
     rw [run_equalIn_struct w D t _ _ hu' hst,hf]
     clear hu hu' hf
     generalize fs.toList=l at h
     induction l generalizing r with
     | nil=>simp only [List.foldr_nil,L3] at h; subst h; simp [Op.eqFields]
     | cons f l ihl=>
      simp only [List.foldr_cons] at h
      split at h
      case h_1=>cases h
      rename_i q hq
      have ihl:=ihl q hq
      split at h
      ·rename_i hn
       cases h
       have hn':f.name= "_" :=by simpa using hn
       simp [Op.eqFields,hn',ihl]
      ·rename_i hn
       have hn':f.name≠ "_" :=by simpa using hn
       split at h
       case h_2=>cases h
       rename_i a b ha hb
       split at h
       case h_2=>cases h
       rename_i e he
       cases h
       have h1:=aD ha ρ w
       have h2:=aD hb ρ w
       have h3:=ih f.type a b e he D hD
       simp only [Op.eqFields,ne_eq,hn',not_false_eq_true,J3,p8,h1,h2,h3,r9]
       cases e <;> simp [ihl]
   ·cases h
  ·cases h
def p2q:Operand->Bool
 | .const _=>true
 | _=>false
def y0n (x:Option Value):Option (Value×List Prop):=
 match x with
 | some v=>some (v,[])
 | none=>none
def i1j (P:Program) (auto:Bool) (op:BinOp) (t:TypeId) (xo yo:Operand) (x y:Value):Option (Value×List Prop):=
 match x,y with
 | .int k a, .int k' b=>
  match p2q yo with
  | true=>y0n (Q2 (M0 P (binOp op t (.int k a) (.int k' b))))
  | false=>
   match op with
   | .quo=>match decide (k=k') with
    | true=>match N3 auto (b≠0) with
     | some l=>some (.int k (k.wrap (a.tdiv b)),l)
     | none=>none
    | false=>none
   | .rem=>match decide (k=k') with
    | true=>match N3 auto (b≠0) with
     | some l=>some (.int k (a.tmod b),l)
     | none=>none
    | false=>none
   | .shl=>match N3 auto (0<=b) with
    | some l=>some (.int k (k.wrap (a*2 ^(min b.toNat k.bits))),l)
    | none=>none
   | .shr=>match N3 auto (0<=b) with
    | some l=>some (.int k (a.fdiv (2 ^(min b.toNat k.bits))),l)
    | none=>none
   | _=>y0n (Q2 (M0 P (binOp op t (.int k a) (.int k' b))))
 | .string a, .string b=>
  match op with
  | .add=>match N3 auto (a.data.toList.length+b.data.toList.length<=9223372036854775807) with
   | some l=>some (.string ⟨⟨a.data.toList++b.data.toList⟩⟩,l)
   | none=>none
  | .eql=>some (.bool (a.data.toList==b.data.toList),[])
  | .neq=>some (.bool (!(a.data.toList==b.data.toList)),[])
  | .lss=>some (.bool (Op.bytesLess a.data.toList b.data.toList),[])
  | .leq=>some (.bool (Op.bytesLess a.data.toList b.data.toList || a.data.toList==b.data.toList),[])
  | .gtr=>some (.bool (!(Op.bytesLess a.data.toList b.data.toList || a.data.toList==b.data.toList)),[])
  | .geq=>some (.bool (!Op.bytesLess a.data.toList b.data.toList),[])
  | _=>none
 | .float k a, .float k' b=>
  match decide (k=k') with
  | false=>none
  | true=>match op with
   | .add=>match N3 auto ((k.format.add a b).isSome=true) with
    | some l=>some (.float k ((k.format.add a b).getD 0),l)
    | none=>none
   | .sub=>match N3 auto ((k.format.sub a b).isSome=true) with
    | some l=>some (.float k ((k.format.sub a b).getD 0),l)
    | none=>none
   | .mul=>match N3 auto ((k.format.mul a b).isSome=true) with
    | some l=>some (.float k ((k.format.mul a b).getD 0),l)
    | none=>none
   | .quo=>match N3 auto ((k.format.div a b).isSome=true) with
    | some l=>some (.float k ((k.format.div a b).getD 0),l)
    | none=>none
   | _=>y0n (Q2 (M0 P (Op.floatCmp op k a b)))
 | .agg xs, .agg ys=>
  match P.eqGuardType P.depth t with
  | true=>none
  | false=>match op with
   | .eql=>match w1w P 20 t (.agg xs) (.agg ys) with
    | some b=>some (.bool b,[])
    | none=>none
   | .neq=>match w1w P 20 t (.agg xs) (.agg ys) with
    | some b=>some (.bool (!b),[])
    | none=>none
   | _=>none
 | .bool a, .bool b=>
  match op with
  | .eql=>match w1w P 20 t (.bool a) (.bool b) with
   | some b=>some (.bool b,[])
   | none=>none
  | .neq=>match w1w P 20 t (.bool a) (.bool b) with
   | some b=>some (.bool (!b),[])
   | none=>none
  | _=>none
 | .func _ _ _, .nilFunc=>
  match W0 P t with
  | some (.func _ _ _)=>match op with
   | .eql=>some (.bool false,[])
   | .neq=>some (.bool true,[])
   | _=>none
  | _=>none
 | x,y=>
  match z7 x && z7 y with
  | true=>y0n (Q2 (M0 P (do eqGuard op t xo yo x y; binOp op t x y)))
  | false=>none
theorem aI {P:Program} {s:Sem Value} {v:Value} {l:List Prop} (h:y0n (Q2 (M0 P s))=some (v,l)) (ρ:Num) (w:World):s.run P w= .ok (rv ρ v) w:=by
 unfold y0n at h
 split at h
 ·rename_i u hu; cases h; exact V3 hu ρ w
 ·cases h
theorem A3 {P:Program} {w:World} {op:BinOp} {t:TypeId} {xo yo:Operand} {x y:Value} (h1:¬ (x= .nilIface∧y= .nilIface)) (h2:¬ ((∃ a,x= .agg a)∧∃ b,y= .agg b)):
  (eqGuard op t xo yo x y).run P w= .ok () w:=by
 unfold eqGuard
 split
 all_goals first
  | (simp only [Bool.not_true,P3,D7]
     split
     ·exact absurd ⟨rfl,rfl⟩ h1
     ·exact absurd ⟨⟨_,rfl⟩,_,rfl⟩ h2
     ·rfl)
  | rfl
theorem Q9 {P:Program} {w:World} (D:Nat) {t:TypeId} {fn:Fn} {f c:Array Value} {ps rs:Array TypeId} {v:Bool} (h:P.underlying t=some (.func ps rs v)):
  (Op.equalIn (D+1) t (.func fn f c) .nilFunc).run P w= .ok false w:=by
 simp only [Op.equalIn,p8,T1 h,r9]
 rfl
set_option maxHeartbeats 1000000 in
theorem o0x {P:Program} {auto:Bool} {op:BinOp} {t:TypeId} {xo yo:Operand} {x y v:Value} {l:List Prop} (h:i1j P auto op t xo yo x y=some (v,l)) (hl:d9 l) (ρ:Num) (w:World):
  (do eqGuard op t xo yo (rv ρ x) (rv ρ y); binOp op t (rv ρ x) (rv ρ y):Sem Value).run P w= .ok (rv ρ v) w:=by
 unfold i1j at h
 simp only [w8] at h
 split at h
 ·
  rename_i k a k' b
  simp only [rv,p8]
  rw [A3 (by simp) (by simp)]
  simp only [r9]
  split at h
  ·exact aI h ρ w
  ·split at h
   ·split at h
    ·rename_i hk; have hk:=H8 hk; subst hk
     split at h
     ·rename_i l' hn; cases h
      have hb:=j0 hn hl
      simp [binOp,Op.intDiv,hb,rv]
     ·cases h
    ·cases h
   ·split at h
    ·rename_i hk; have hk:=H8 hk; subst hk
     split at h
     ·rename_i l' hn; cases h
      have hb:=j0 hn hl
      simp [binOp,Op.intDiv,hb,rv]
     ·cases h
    ·cases h
   ·split at h
    ·rename_i l' hn; cases h
     have hb:=j0 hn hl
     have:¬ b < 0:=by omega
     simp [binOp,Op.shift,this,rv]
    ·cases h
   ·split at h
    ·rename_i l' hn; cases h
     have hb:=j0 hn hl
     have:¬ b < 0:=by omega
     simp [binOp,Op.shift,this,rv]
    ·cases h
   ·exact aI h ρ w
 ·
  rename_i a b
  simp only [rv,p8]
  rw [A3 (by simp) (by simp)]
  simp only [r9]
  have ea:=ByteArray.toList_eq a
  have eb:=ByteArray.toList_eq b
  split at h
  ·split at h
   ·rename_i l' hn; cases h
    have hb:=j0 hn hl
    have hsz:¬ (((a.size+b.size:Nat):Int) > iI.max):=by
     have h1:a.size=a.data.toList.length:=rfl
     have h2:b.size=b.data.toList.length:=rfl
     have h3:iI.max=9223372036854775807:=by decide
     rw [h3,h1,h2]
     omega
    have happ:a++b=(⟨⟨a.data.toList++b.data.toList⟩⟩:ByteArray):=by
     apply ByteArray.ext
     simp
    simp only [binOp,Op.stringOp,hsz,D7,rv,happ]
    rfl
   ·cases h
  all_goals first
   | (cases h; simp [binOp,Op.stringOp,ea,eb,rv]; done)
   | cases h
 ·
  rename_i k a k' b
  simp only [rv,p8]
  rw [A3 (by simp) (by simp)]
  simp only [r9]
  split at h
  ·cases h
  ·rename_i hk; have hk:=H8 hk; subst hk
   have key:∀ (o:Option Nat),o.isSome=true->(match o with | some r=>(pure (zO4 k r):Sem Value) | none=>do pure (.float k (<- choose (.nanBits k a b)))).run P w= .ok (.float k (o.getD 0)) w:=by
    intro o ho
    cases o with
    | none=>simp at ho
    | some r=>rfl
   split at h
   ·split at h
    ·rename_i l' hn; cases h
     have hb:=j0 hn hl
     have:=key _ hb
     simp only [binOp,Op.floatArith,rv,pure_bind,ne_eq,not_true_eq_false,D7]
     exact this
    ·cases h
   ·split at h
    ·rename_i l' hn; cases h
     have hb:=j0 hn hl
     have:=key _ hb
     simp only [binOp,Op.floatArith,rv,pure_bind,ne_eq,not_true_eq_false,D7]
     exact this
    ·cases h
   ·split at h
    ·rename_i l' hn; cases h
     have hb:=j0 hn hl
     have:=key _ hb
     simp only [binOp,Op.floatArith,rv,pure_bind,ne_eq,not_true_eq_false,D7]
     exact this
    ·cases h
   ·split at h
    ·rename_i l' hn; cases h
     have hb:=j0 hn hl
     have:=key _ hb
     simp only [binOp,Op.floatArith,rv,pure_bind,ne_eq,not_true_eq_false,D7]
     exact this
    ·cases h
   ·rename_i hop1 hop2 hop3 hop4
    have hx:=aI h ρ w
    have hb:binOp op t (.float k a) (.float k b)=Op.floatCmp op k a b:=by
     cases op <;> first | (exfalso; first | exact hop1 rfl | exact hop2 rfl | exact hop3 rfl | exact hop4 rfl) | simp [binOp]
    rw [hb]
    exact hx
 ·
  rename_i xs ys
  split at h
  ·cases h
  ·rename_i hg
   simp only [rv,p8]
   rw [run_eqGuard_agg w op t xo yo _ _ hg]
   simp only [r9]
   split at h
   ·split at h
    ·rename_i b hb; cases h
     have:=dH ρ w 20 t _ _ b hb 10000 (by decide)
     simp only [rv] at this
     rw [run_eql_struct,this]; rfl
    ·cases h
   ·split at h
    ·rename_i b hb; cases h
     have:=dH ρ w 20 t _ _ b hb 10000 (by decide)
     simp only [rv] at this
     rw [run_neq_struct,this]; rfl
    ·cases h
   ·cases h
 ·
  rename_i a b
  simp only [rv,p8]
  rw [A3 (by simp) (by simp)]
  simp only [r9]
  split at h
  ·split at h
   ·rename_i r hb; cases h
    have:=dH ρ w 20 t _ _ r hb 10000 (by decide)
    simp only [rv] at this
    simp only [binOp,p8,Op.equal,Op.maxDepth,this,r9,rv]
    rfl
   ·cases h
  ·split at h
   ·rename_i r hb; cases h
    have:=dH ρ w 20 t _ _ r hb 10000 (by decide)
    simp only [rv] at this
    simp only [binOp,p8,Op.equal,Op.maxDepth,this,r9,rv]
    rfl
   ·cases h
  ·cases h
 ·
  simp only [rv,p8]
  rw [A3 (by simp) (by simp)]
  simp only [r9]
  split at h
  ·rename_i hu
   split at h
   ·cases h
    simp only [binOp,p8,Op.equal,Op.maxDepth,Q9 9999 hu,r9,rv]
    rfl
   ·cases h
    simp only [binOp,p8,Op.equal,Op.maxDepth,Q9 9999 hu,r9,rv]
    rfl
   ·cases h
  ·cases h
 ·split at h
  ·rename_i hp
   simp only [x5] at hp
   rw [B1 ρ _ hp.1,B1 ρ _ hp.2]
   exact aI h ρ w
  ·cases h
end
noncomputable section
def k1p (P:Program) (t:TypeId):Option Value:=
 match fQ P t with
 | none=>none
 | some i=>match i.zero with
  | none=>none
  | some z=>match z7 z with
   | true=>some z
   | false=>none
theorem gZ {P:Program} {t:TypeId} {z:Value} (h:k1p P t=some z):(∀ w,(zeroValue t).run P w= .ok z w)∧z7 z=true:=by
 unfold k1p at h
 simp only [x6] at h
 split at h
 case h_1=>cases h
 rename_i i hi
 split at h
 case h_1=>cases h
 rename_i z' hz
 split at h
 case h_2=>cases h
 rename_i hp
 cases h
 exact⟨fun w=>by simp [zeroValue,typeInfo,hi,hz],hp⟩
theorem sK {P:Program} {t:TypeId} {v:Value} {w:World} :(newVar t v).run P w= .ok ⟨w.heap.size,0,none⟩ (w.alloc (.cells v.cells t)):=by
 simp only [newVar,newRow,p8,newObj,Sem.run,r9]
 rfl
theorem pK {P:Program} {B:Nat} {M:Nat->Prop} {ρ:Num} {H:Heap} {w:World} (hS:Sim P B M ρ H w) {n:Nat} (hn:ρ n=some w.heap.size) (hB:B<=w.heap.size) (t:TypeId) (v:Value):
  Sim P B M ρ ((n, .cells v.cells.toList t) ::H) (w.alloc (.cells (rv ρ v).cells t)):=by
 refine hS.new hn ⟨w.heap.size,rfl,?_, .inl hB⟩
 rw [c1r]
 have:(rv ρ v).cells=(rvL ρ v.cells.toList).toArray:=by
  rw [N4,l9,<- yE]
 rw [this]
theorem f1a:∀ (vs:List Value) (off k:Nat) (cells:List Value),off+k+vs.length<=cells.length->
  (vs.zipIdx k).foldl (fun (cs:Array Value) (p:Value×Nat)=>cs.setIfInBounds (off+p.2) p.1) ⟨cells⟩=⟨cells.take (off+k)++vs++cells.drop (off+k+vs.length)⟩
 | [],off,k,cells,_=>by simp
 | v ::vs,off,k,cells,h=>by
  simp only [List.zipIdx_cons,e0w]
  have hset:(⟨cells⟩:Array Value).setIfInBounds (off+k) v=⟨cells.set (off+k) v⟩:=by simp
  rw [hset,f1a vs off (k+1) _ (by simp at h ⊢; omega)]
  have:=list_seg_step cells (off+k) v vs (by simp at h; omega)
  congr 1
def s0r (place:Nat->Option (Nat×Nat)) (cells:List Value):List (Nat×Value)->Option (List Value)
 | [] =>some cells
 | (i,v) ::rest=>match place i with
  | none=>none
  | some (off,size)=>match zO0 v.cells.toList.length size && Nat.ble (off+v.cells.toList.length) cells.length with
   | true=>s0r place (cells.take off++v.cells.toList++cells.drop (off+v.cells.toList.length)) rest
   | false=>none
theorem Y8 (ρ:Num) (place:Nat->Option (Nat×Nat)):∀ (parts:List (Nat×Value)) (cells out:List Value),s0r place cells parts=some out->
  Instr.fill place (rvL ρ cells).toArray (parts.map fun p=>(p.1,rv ρ p.2))=some (rvL ρ out).toArray
 | [],cells,out,h=>by simp only [s0r] at h; cases h; rfl
 | (i,v) ::rest,cells,out,h=>by
  simp only [s0r] at h
  split at h
  case h_1=>cases h
  rename_i off size hp
  split at h
  case h_2=>cases h
  rename_i hc
  simp only [x5,y8,M8] at hc
  obtain⟨h1,h2⟩:=hc
  have ih:=Y8 ρ place rest _ out h
  have hvl:(rv ρ v).cells.size=v.cells.toList.length:=by rw [N4]; simp
  have hcl:(rvL ρ cells).toArray.size=cells.length:=by simp [l9]
  simp only [b1i,Instr.fill,hp]
  rw [a6 (by simp only [hvl,hcl,h1,kX,aO]; omega)]
  have hf:=f1a (rv ρ v).cells.toList off 0 (rvL ρ cells) (by rw [cT,hvl,l9]; simpa using h2)
  have hz:((rv ρ v).cells.zipIdx).foldl (fun (cs:Array Value) (p:Value×Nat)=>cs.setIfInBounds (off+p.2) p.1) (rvL ρ cells).toArray=⟨(rvL ρ cells).take (off+0)++(rv ρ v).cells.toList++(rvL ρ cells).drop (off+0+(rv ρ v).cells.toList.length)⟩:=by
   rw [<- Array.foldl_toList,Array.toList_zipIdx]
   exact hf
  have hgoal:(⟨(rvL ρ cells).take (off+0)++(rv ρ v).cells.toList++(rvL ρ cells).drop (off+0+(rv ρ v).cells.toList.length)⟩:Array Value)=(rvL ρ (cells.take off++v.cells.toList++cells.drop (off+v.cells.toList.length))).toArray:=by
   congr 1
   simp only [l9,jK,eZ,gD,N4,E4,yE,B9]
  rw [hgoal] at hz
  rw [<- ih,<- hz]
def fZ (ev:Operand->Option Value):List (Nat×Operand)->Option (List (Nat×Value))
 | [] =>some []
 | (i,x) ::r=>match ev x,fZ ev r with
  | some v,some l=>some ((i,v) ::l)
  | _,_=>none
theorem aJ {ev:Operand->Option Value} {a:Operand->Value} {ρ:Num} :∀ (l:List (Nat×Operand)) (r:List (Nat×Value)),(∀ p∈l,∀ y,ev p.2=some y->a p.2=rv ρ y)->fZ ev l=some r->
  l.map (fun p=>(p.1,a p.2))=r.map fun p=>(p.1,rv ρ p.2)
 | [],r,_,h=>by simp only [fZ] at h; cases h; rfl
 | (i,x) ::l,r,he,h=>by
  simp only [fZ] at h
  split at h
  ·rename_i v l' hv hl'
   cases h
   simp [he (i,x) (by simp) v hv,aJ l l' (fun p hp=>he p (by simp [hp])) hl']
  ·cases h
def fB (ev:Operand->Option Value):List Operand->Option (List Value)
 | [] =>some []
 | x ::r=>match ev x,fB ev r with
  | some v,some l=>some (v ::l)
  | _,_=>none
theorem u5 {ev:Operand->Option Value} {a:Operand->Value} {ρ:Num} :∀ (l:List Operand) (r:List Value),(∀ x∈l,∀ y,ev x=some y->a x=rv ρ y)->fB ev l=some r->l.map a=rvL ρ r
 | [],r,_,h=>by simp only [fB] at h; cases h; rfl
 | x ::l,r,he,h=>by
  simp only [fB] at h
  split at h
  ·rename_i v l' hv hl'
   cases h
   simp [he x (by simp) v hv,u5 l l' (fun p hp=>he p (by simp [hp])) hl',rvL]
  ·cases h
def i0m (P:Program):List Field->Option (List (Nat×Nat))
 | [] =>some []
 | f ::r=>match fQ P f.type,i0m P r with
  | some i,some l=>some ((f.offset,i.size) ::l)
  | _,_=>none
theorem oH {P:Program} :∀ (fs:List Field) (l:List (Nat×Nat)),i0m P fs=some l->∀ w,(fs.mapM fun f=>(do pure (f.offset,<- sizeOf f.type):Sem (Nat×Nat))).run P w= .ok l w
 | [],l,h,w=>by simp only [i0m] at h; cases h; rfl
 | f ::fs,l,h,w=>by
  simp only [i0m,x6] at h
  split at h
  ·rename_i i l' hi hl'
   cases h
   have ih:=oH fs l' hl' w
   simp only [List.mapM_cons,p8,m7 hi,r9,S9,ih]
  ·cases h
def o0m (P:Program) (t:TypeId) (parts:List (Nat×Value)):Option Value:=
 match k1p P t with
 | none=>none
 | some z=>match W0 P t with
  | some (.struct fs)=>match i0m P fs.toList with
   | none=>none
   | some places=>match s0r (fun i=>places[i]?) z.cells.toList parts with
    | some cs=>some (.agg ⟨cs⟩)
    | none=>none
  | some (.array _ e)=>match fQ P e with
   | none=>none
   | some i=>match s0r (fun j=>some (j*i.size,i.size)) z.cells.toList parts with
    | some cs=>some (.agg ⟨cs⟩)
    | none=>none
  | _=>none
theorem t0s {z:Value} (h:z7 z=true) (ρ:Num):rvL ρ z.cells.toList=z.cells.toList:=by
 have:=N4 ρ z
 rw [B1 ρ z h] at this
 rw [l9,<- yE,<- this]
theorem f0f {P:Program} {t:TypeId} {parts:List (Nat×Value)} {v:Value} (h:o0m P t parts=some v) (ρ:Num) (w:World):
  (Instr.build t (parts.map fun p=>(p.1,rv ρ p.2)).toArray).run P w= .ok (rv ρ v) w:=by
 unfold o0m at h
 simp only [w8,x6] at h
 split at h
 case h_1=>cases h
 rename_i z hz
 obtain⟨hz1,hz2⟩:=gZ hz
 have hzc:(⟨rvL ρ z.cells.toList⟩:Array Value)=z.cells:=by rw [t0s hz2]
 split at h
 ·rename_i fs hu
  split at h
  case h_1=>cases h
  rename_i places hp
  split at h
  case h_2=>cases h
  rename_i cs hc
  cases h
  have hm:=oH _ _ hp w
  have hf:=Y8 ρ _ parts z.cells.toList cs hc
  rw [show (rvL ρ z.cells.toList).toArray=z.cells from hzc] at hf
  simp only [Instr.build,p8,hz1,r9,T1 hu]
  rw [Array.mapM_eq_mapM_toList]
  simp only [Sem.run_map,hm,r9]
  have hpl:(fun i:Nat=>places.toArray[i]?)=fun i:Nat=>places[i]? :=by funext i; simp
  rw [hpl,hf]
  simp [rv,rvA]
 ·rename_i n e hu
  split at h
  case h_1=>cases h
  rename_i i hi
  split at h
  case h_2=>cases h
  rename_i cs hc
  cases h
  have hf:=Y8 ρ _ parts z.cells.toList cs hc
  rw [show (rvL ρ z.cells.toList).toArray=z.cells from hzc] at hf
  simp only [Instr.build,p8,hz1,r9,T1 hu,m7 hi,hf]
  simp [rv,rvA]
 ·cases h
def rep (z:List Value):Nat->List Value
 | 0=>[]
 | n+1=>z++rep z n
def bX (P:Program) (t:TypeId) (len:Nat) (parts:List (Nat×Value)):Option (TypeId×List Value):=
 match W0 P t with
 | some (.slice e)=>match fQ P e,k1p P e with
  | some i,some z=>
   match zO0 i.size z.cells.toList.length && Nat.ble (len*i.size) 16777216 && !(zO0 (len*i.size) 0) with
   | false=>match zO0 len 0,parts with
    | true,[] =>some (e,[])
    | _,_=>none
   | true=>match s0r (fun j=>some (j*i.size,i.size)) (rep z.cells.toList len) parts with
    | some cs=>some (e,cs)
    | none=>none
  | _,_=>none
 | _=>none
theorem m1z (z:List Value) (hz:0 < z.length):∀ (n i:Nat),i < n*z.length->(rep z n)[i]? =z[i%z.length]?
 | 0,i,h=>by simp at h
 | n+1,i,h=>by
  simp only [rep]
  by_cases hi:i < z.length
  ·rw [u1m hi,H3 hi]
  ·rw [c1i (by omega),m1z z hz n (i-z.length) (by rw [u4] at h; omega)]
   congr 1
   rw [Nat.mod_eq_sub_mod (by omega:i>=z.length)]
theorem b0e (z:List Value):∀ n,(rep z n).length=n*z.length
 | 0=>by simp [rep]
 | n+1=>by simp [rep,b0e z n,Nat.add_mul]; omega
theorem j2u (z:Array Value) (hz:0 < z.size) (n:Nat):(Array.range (n*z.size)).map (fun j=>z[j%z.size]!)=(rep z.toList n).toArray:=by
 apply Array.ext_getElem?
 intro i
 by_cases h:i < n*z.size
 ·have hm:i%z.size < z.size:=B0 _ hz
  have:=m1z z.toList (by simpa using hz) n i (by simpa using h)
  simp only [cT] at this
  simp [h,this,hm]
 ·have h1:(rep z.toList n).length=n*z.size:=by simp [b0e]
  rw [Array.getElem?_eq_none (by simp; omega),List.getElem?_toArray,k0s (by omega)]
theorem l1c (ρ:Num) (z:List Value) (h:rvL ρ z=z):∀ n,rvL ρ (rep z n)=rep z n
 | 0=>by simp [rep,rvL]
 | n+1=>by
  have ih:=l1c ρ z h n
  rw [l9] at h ih
  simp only [rep,l9,jK,ih,h]
theorem kW {P:Program} {t e:TypeId} {len:Nat} {parts:List (Nat×Value)} {cs:List Value} (h:bX P t len parts=some (e,cs)) (ρ:Num) (w:World):
  (Instr.buildSlice t len (parts.map fun p=>(p.1,rv ρ p.2)).toArray).run P w= .ok (.slice (some ⟨w.heap.size,0,none⟩) len len) (w.alloc (.cells (rvL ρ cs).toArray e)):=by
 unfold bX at h
 simp only [w8,x6] at h
 split at h
 case h_2=>cases h
 rename_i e' hu
 split at h
 case h_2=>cases h
 rename_i i z hi hz
 obtain⟨hz1,hz2⟩:=gZ hz
 split at h
 ·split at h
  case h_2=>cases h
  rename_i h0
  cases h
  have h0:=S6 h0
  subst h0
  have e0:Instr.fill (fun j=>some (j*i.size,i.size)) ((Array.range 0).map (fun x=>(#[] :Array Value)[x%(#[] :Array Value).size]!)) [] =some #[] :=by
   have:Array.range 0= #[] :=rfl
   rw [this]
   simp [Instr.fill]
  simp only [Instr.buildSlice,p8,T1 hu,r9,m7 hi,C0,List.map_nil]
  rw [a6 (by decide),b9 trivial]
  simp only [p8,S9,r9]
  rw [e0]
  simp only [p8,newRow,newObj,Sem.run,r9]
  rfl
 rename_i hc
 simp only [x5,y8,M8,r0n] at hc
 obtain⟨⟨h1,h2⟩,h3⟩:=hc
 have h3:len*i.size≠0:=fun e=>by rw [e] at h3; simp at h3
 split at h
 case h_2=>cases h
 rename_i cs' hf
 cases h
 have hzs:0 < z.cells.size:=by
  rcases F2 z.cells.size with h | h
  ·rw [cT,h] at h1; rw [h1] at h3; simp at h3
  ·exact h
 have hff:=Y8 ρ _ parts _ _ hf
 rw [l1c ρ _ (t0s hz2 ρ) len] at hff
 have hr:=j2u z.cells hzs len
 have hsz:i.size=z.cells.size:=by rw [h1]; simp
 simp only [Instr.buildSlice,p8,T1 hu,r9,m7 hi]
 rw [a6 (by omega),a6 h3]
 simp only [p8,hz1,r9,S9,hsz,hr]
 rw [hsz] at hff
 rw [hff]
 simp only [p8,newRow,newObj,Sem.run,r9]
 rfl
def d0n (auto:Bool) (s:ByteArray) (lo hi:Option Value):Option (Value×List Prop):=
 match lo,hi with
 | none,none=>some (.string s,[])
 | some (.int _ l),none=>match N3 auto (0<=l∧l<=s.data.toList.length) with
  | some ps=>some (.string ⟨⟨s.data.toList.drop l.toNat⟩⟩,ps)
  | none=>none
 | none,some (.int _ h)=>match N3 auto (0<=h∧h<=s.data.toList.length) with
  | some ps=>some (.string ⟨⟨s.data.toList.take h.toNat⟩⟩,ps)
  | none=>none
 | some (.int _ l),some (.int _ h)=>match N3 auto ((0<=h∧h<=s.data.toList.length)∧0<=l∧l<=h) with
  | some ps=>some (.string ⟨⟨(s.data.toList.take h.toNat).drop l.toNat⟩⟩,ps)
  | none=>none
 | _,_=>none
theorem U3 (s:ByteArray) (a b:Nat):s.extract a b=⟨⟨(s.data.toList.take b).drop a⟩⟩:=by
 apply ByteArray.ext
 apply gX
 simp [List.extract_eq_take_drop,List.drop_take]
theorem N7 {P:Program} {k:IntKind} {i:Int} {y:Nat} {code:BoundsCode} (h0:0<=i) (h1:i<=y) (w:World):(Instr.sliceBound (.int k i) y code).run P w= .ok i.toNat w:=by
 simp [Instr.sliceBound,asIntOf,h0,h1]
theorem wZ {P:Program} {auto:Bool} {t:TypeId} {s:ByteArray} {lo hi:Option Value} {v:Value} {l:List Prop} (hu:P.underlying t=some .string) (h:d0n auto s lo hi=some (v,l)) (hl:d9 l) (ρ:Num) (w:World):
  (Instr.sliceAt t (.string s) (lo.map (rv ρ)) (hi.map (rv ρ)) none).run P w= .ok (rv ρ v) w:=by
 have hsz:s.size=s.data.toList.length:=rfl
 unfold d0n at h
 split at h
 ·cases h
  simp only [Instr.sliceAt,Instr.slice,p8,T1 hu,r9,s0j,u1a,Instr.sliceBounds,pure_bind,S9,P3,D7,rv]
  rw [U3,hsz,y5,sS]
 ·rename_i k i
  split at h
  case h_2=>cases h
  rename_i ps hn
  cases h
  obtain⟨h0,h1⟩:=j0 hn hl
  have:=N7 (P:=P) (k:=k) (y:=s.size) (code:= .sliceB) h0 (by rw [hsz]; exact h1) w
  simp only [Instr.sliceAt,Instr.slice,p8,T1 hu,r9,s0j,C8,u1a,Instr.sliceBounds,pure_bind,S9,P3,D7,rv,this]
  rw [U3,hsz,y5]
 ·rename_i k i
  split at h
  case h_2=>cases h
  rename_i ps hn
  cases h
  obtain⟨h0,h1⟩:=j0 hn hl
  have:=N7 (P:=P) (k:=k) (y:=s.size) (code:= .sliceAlen) h0 (by rw [hsz]; exact h1) w
  simp only [Instr.sliceAt,Instr.slice,p8,T1 hu,r9,s0j,C8,u1a,Instr.sliceBounds,pure_bind,S9,P3,D7,rv,this]
  rw [U3,sS]
 ·rename_i k i k' j
  split at h
  case h_2=>cases h
  rename_i ps hn
  cases h
  obtain⟨⟨h0,h1⟩,h2,h3⟩:=j0 hn hl
  have e1:=N7 (P:=P) (k:=k') (y:=s.size) (code:= .sliceAlen) h0 (by rw [hsz]; exact h1) w
  have e2:=N7 (P:=P) (k:=k) (y:=j.toNat) (code:= .sliceB) h2 (by omega) w
  simp only [Instr.sliceAt,Instr.slice,p8,T1 hu,r9,C8,u1a,Instr.sliceBounds,pure_bind,S9,P3,D7,rv,e1,e2]
  rw [U3]
 ·cases h
def P7 (f:Int->Int->Int) (k:IntKind):Int->List Value->Option Int
 | a,[] =>some a
 | a, .int _ b ::r=>P7 f k (f a b) r
 | _,_=>none
def tO (P:Program) (b:Builtin) (ts:List TypeId) (args:List Value):Option Value:=
 match b,args with
 | .len,[x] =>match ts with
  | [t] =>match W0 P t,x with
   | some .string, .string s=>some (.int .i64 s.data.toList.length)
   | some (.array n _),_=>some (.int .i64 n)
   | some (.slice _), .slice (some _) n _=>some (.int .i64 n)
   | some (.slice _), .slice none n _=>some (.int .i64 n)
   | some (.slice _), .chan (some _)=>some (.int .i64 0)
   | some (.slice _), .complex .f32 _ _=>some (.int .i64 0)
   | _,_=>none
  | _=>none
 | .cap,[x] =>match ts with
  | [t] =>match W0 P t,x with
   | some (.slice _), .slice (some ⟨_,_,none⟩) _ c=>some (.int .i64 c)
   | some (.slice _), .slice none _ c=>some (.int .i64 c)
   | _,_=>none
  | _=>none
 | .min, .int k a ::r=>match P7 (fun x y=>if y < x then y else x) k a r with
  | some c=>some (.int k c)
  | none=>none
 | .max, .int k a ::r=>match P7 (fun x y=>if y > x then y else x) k a r with
  | some c=>some (.int k c)
  | none=>none
 | _,_=>none
theorem pQ {P:Program} (ρ:Num) (w:World) (k:IntKind):∀ (r:List Value) (a c:Int),P7 (fun x y=>if y < x then y else x) k a r=some c->((rvL ρ r).foldlM Builtin.min2 (.int k a)).run P w= .ok (.int k c) w
 | [],a,c,h=>by simp only [P7] at h; cases h; rfl
 | v ::r,a,c,h=>by
  unfold P7 at h
  split at h
  ·rename_i heq; cases heq
  ·rename_i heq
   cases heq
   simp only [rvL,rv,List.foldlM_cons,Builtin.min2,p8,S9,r9]
   exact pQ ρ w k _ _ _ h
  ·cases h
theorem nI {P:Program} (ρ:Num) (w:World) (k:IntKind):∀ (r:List Value) (a c:Int),P7 (fun x y=>if y > x then y else x) k a r=some c->((rvL ρ r).foldlM Builtin.max2 (.int k a)).run P w= .ok (.int k c) w
 | [],a,c,h=>by simp only [P7] at h; cases h; rfl
 | v ::r,a,c,h=>by
  unfold P7 at h
  split at h
  ·rename_i heq; cases heq
  ·rename_i heq
   cases heq
   simp only [rvL,rv,List.foldlM_cons,Builtin.max2,p8,S9,r9]
   exact nI ρ w k _ _ _ h
  ·cases h
theorem bG {P:Program} {b:Builtin} {ts:List TypeId} {args:List Value} {v:Value} (h:tO P b ts args=some v) (ρ:Num) (w:World) (ty:TypeId) (consts:Array Bool):
  (builtin b ts.toArray ty consts (rvL ρ args).toArray).run P w= .ok (.value (rv ρ v)) w:=by
 unfold tO at h
 simp only [w8] at h
 split at h
 ·rename_i x
  split at h
  case h_2=>cases h
  rename_i t
  split at h
  ·rename_i s hu; cases h; simp [builtin,Builtin.len_,rvL,rv,run_underlying hu,goInt]
  ·rename_i n e hu; cases h; simp [builtin,Builtin.len_,rvL,rv,run_underlying hu,goInt]
  ·rename_i e a n c hu
   cases h
   obtain⟨x,m,ex⟩:=uT ρ a n c
   simp [builtin,Builtin.len_,rvL,rv,ex,run_underlying hu,goInt]
  ·rename_i e n c hu; cases h; simp [builtin,Builtin.len_,rvL,rv,run_underlying hu,goInt]
  ·rename_i e m hu
   cases h
   obtain⟨a,q,ex⟩:=mZ ρ m
   simp [builtin,Builtin.len_,rvL,rv,ex,run_underlying hu,goInt]
  ·rename_i e fa fc hu
   cases h
   obtain⟨a,q,ex⟩:=mB ρ fa fc
   simp [builtin,Builtin.len_,rvL,rv,ex,run_underlying hu,goInt]
  ·cases h
 ·rename_i x
  split at h
  case h_2=>cases h
  rename_i t
  split at h
  ·rename_i hu; cases h; simp [builtin,Builtin.cap_,rvL,rv,rSl,run_underlying hu,goInt]
  ·rename_i hu; cases h; simp [builtin,Builtin.cap_,rvL,rv,run_underlying hu,goInt]
  ·cases h
 ·rename_i k a r
  split at h
  ·rename_i c hc
   cases h
   have:=pQ (P:=P) ρ w k r a c hc
   simp only [builtin,Builtin.min_,rvL,rv,p8,this,r9,S9]
  ·cases h
 ·rename_i k a r
  split at h
  ·rename_i c hc
   cases h
   have:=nI (P:=P) ρ w k r a c hc
   simp only [builtin,Builtin.max_,rvL,rv,p8,this,r9,S9]
  ·cases h
 ·cases h
def j0v:List Value->Option (List Int)
 | [] =>some []
 | v ::r=>match v with
  | .int .u8 n=>match j0v r with
   | some l=>some (n ::l)
   | none=>none
  | _=>none
theorem vY (ρ:Num):∀ {l:List Value} {ns:List Int},j0v l=some ns->rvL ρ l=ns.map (zO3 .u8)
 | [],ns,h=>by simp only [j0v] at h; cases h; simp [rvL]
 | v ::r,ns,h=>by
  simp only [j0v] at h
  split at h
  ·split at h
   ·rename_i l hr
    cases h
    simp [rvL,rv,vY ρ hr]
   ·cases h
  ·cases h
def s0t (P:Program) (H:Heap) (s d:TypeId) (x:Value):Option Value:=
 match x with
 | .slice a len _=>match W0 P s,W0 P d with
  | some (.slice e),some .string=>match W0 P e with
   | some (.int .u8)=>match a with
    | some ⟨id,off,_⟩=>match cP H id off len with
     | some cs=>match j0v cs with
      | some ns=>some (.string ⟨⟨ns.map fun n=>UInt8.ofNat n.toNat⟩⟩)
      | none=>none
     | none=>none
    | none=>some (.string ⟨⟨[]⟩⟩)
   | _=>none
  | _,_=>none
 | _=>none
theorem b0b (ns:List Int):∀ b:ByteArray,ns.foldl (fun r n=>r.push (UInt8.ofNat n.toNat)) b=⟨⟨b.data.toList++ns.map fun n=>UInt8.ofNat n.toNat⟩⟩:=by
 induction ns with
 | nil=>intro b; cases b; simp
 | cons n ns ih=>
  intro b
  rw [e0w,ih]
  simp [ByteArray.push]
theorem b0s {P:Program} {B:Nat} {M:Nat->Prop} {ρ:Num} {H:Heap} {w:World} (hS:Sim P B M ρ H w) {s d:TypeId} {x v:Value} (h:s0t P H s d x=some v):(convert s d (rv ρ x)).run P w= .ok (rv ρ v) w:=by
 unfold s0t at h
 simp only [w8] at h
 split at h
 case h_2=>cases h
 rename_i a len cap
 split at h
 case h_2=>cases h
 rename_i e hs hd
 split at h
 case h_2=>cases h
 rename_i he
 split at h
 case h_2=>
  cases h
  have:(convert s d (.slice none len cap)).run P w= .ok (.string .empty) w:=by
   unfold convert
   simp [run_underlying hs,run_underlying hd,run_underlying he,Conv.bytesToString]
  simp only [rv]
  exact this
 rename_i id off sp
 split at h
 case h_2=>cases h
 rename_i cs hcs
 split at h
 case h_2=>cases h
 rename_i ns hb
 cases h
 obtain⟨b,hb1,hlen,hcell⟩:=aA hS hcs
 have hsp:=vY ρ hb
 have hlen':(rvL ρ cs).length=len:=by rw [l9,B9]; exact hlen
 have hc:=h0g (P:=P) w ⟨b,off,none⟩ (rvL ρ cs) (fun j v hj=>by rw [o8]; exact hcell j v hj)
 rw [hlen',hsp] at hc
 have hrv:∃ c',rv ρ (.slice (some ⟨id,off,sp⟩) len cap)= .slice (some ⟨b,off,none⟩) len c':=by
  cases sp with
  | none=>exact⟨cap,by simp [rv,rSl,r8,hb1]⟩
  | some k=>exact⟨_,by simp [rv,rSl,hb1]; rfl⟩
 obtain⟨c',hrv⟩:=hrv
 rw [hrv,run_convert_bytes_string w s d e _ _ _ hs he hd,run_bytesToString w _ _ _ ns hc,b0b]
 simp [rv]
end
open Go Go.RowKit Go.Shelf
noncomputable section
inductive TV where
 | unk
 | v (x:Value)
 | sp (l:List (Nat×Bool)) (x:Value)
 | key (j:Nat) (l:List (Nat×Bool)) (b:Bool)
def A1 (ts:List TV) (t:Nat):TV:=match p1r ts t with
 | some x=>x
 | none=> .unk
theorem K1 (ts:List TV) (t:Nat):A1 ts t=match ts[t]? with
 | some x=>x
 | none=> .unk:=by
 unfold A1
 rw [Z0]
def w1z (a b:Bool):Bool:=match a,b with
 | true,true=>true
 | false,false=>true
 | _,_=>false
def n2p (p:Nat×Bool):List (Nat×Bool)->Bool
 | [] =>false
 | q ::r=>(zO0 p.1 q.1 && w1z p.2 q.2) || n2p p r
def h2v:List (Nat×Bool)->List (Nat×Bool)->Bool
 | [],_=>true
 | p ::r,c=>n2p p c && h2v r c
def rd (c:List (Nat×Bool)):TV->Option Value
 | .unk=>none
 | .v x=>some x
 | .sp l x=>match h2v l c with
  | true=>some x
  | false=>none
 | .key _ l b=>match h2v l c with
  | true=>some (.bool b)
  | false=>none
def evo (ts:List TV) (c:List (Nat×Bool)):Operand->Option Value
 | .tmp t=>rd c (A1 ts t)
 | .const v=>match z7 v with
  | true=>some v
  | false=>none
 | .global g=>some (.pointer (some ⟨g,0,none⟩))
 | .func f=>some (.func (.func f) #[] #[])
def V (β:Nat->Bool) (l:List (Nat×Bool)):Prop:=∀ p∈l,β p.1=p.2
def E7 (ρ:Num) (β:Nat->Bool):TV->Value->Prop
 | .unk,_=>True
 | .v x,r=>r=rv ρ x
 | .sp l x,r=>(V β l->r=rv ρ x)∧(¬ V β l->r=undef)
 | .key j l b,r=>β j=b∧(V β l->r= .bool b)∧(¬ V β l->r=undef)
theorem p1b {a b:Bool} (h:w1z a b=true):a=b:=by cases a <;> cases b <;> simp_all [w1z]
theorem a0j {p:Nat×Bool} :∀ {c:List (Nat×Bool)},n2p p c=true->p∈c
 | [],h=>by simp [n2p] at h
 | q ::r,h=>by
  simp only [n2p,kX,x5] at h
  rcases h with ⟨h1,h2⟩ | h
  ·have e:p=q:=Prod.ext (S6 h1) (p1b h2)
   rw [e]; exact X5
  ·exact R8 _ (a0j h)
theorem X6 {β:Nat->Bool} {c:List (Nat×Bool)} :∀ {l:List (Nat×Bool)},h2v l c=true->V β c->V β l
 | [],_,_=>fun p hp=>by cases hp
 | q ::r,h,hc=>by
  simp only [h2v,x5] at h
  intro p hp
  rcases zzA84.1 hp with rfl | hp
  ·exact hc _ (a0j h.1)
  ·exact X6 h.2 hc p hp
theorem r1c {ρ:Num} {β:Nat->Bool} {c:List (Nat×Bool)} {x:TV} {v r:Value} (h:rd c x=some v) (hc:V β c) (hr:E7 ρ β x r):r=rv ρ v:=by
 cases x with
 | unk=>simp [rd] at h
 | v y=>simp only [rd] at h; cases h; exact hr
 | sp l y=>
  simp only [rd] at h
  split at h
  ·rename_i hs; cases h; exact hr.1 (X6 hs hc)
  ·cases h
 | key j l b=>
  simp only [rd] at h
  split at h
  ·rename_i hs; cases h; simp only [rv]; exact hr.2.1 (X6 hs hc)
  ·cases h
def Agree (n:Nat) (ρ ρ':Num):Prop:=∀ i,i < n->ρ' i=ρ i
theorem Agree.refl (n:Nat) (ρ:Num):Agree n ρ ρ:=fun _ _=>rfl
theorem Agree.trans {n m:Nat} {a b c:Num} (h:Agree n a b) (k:Agree m b c) (hnm:n<=m):Agree n a c:=fun i hi=>(k i (by omega)).trans (h i hi)
structure CR where
 v:Value
 h:Heap
 n:Nat
 obs:List Prop
 ds:List Bool
structure Inv (P:Program) where
 I:World->Prop
 st:∀ w w':World,(∀ k,k < P.globals.size->w'.heap[k]? =w.heap[k]?)->w.heap.size<=w'.heap.size->I w->I w'
 room:∀ w,I w->P.globals.size<=w.heap.size
 tabs:Heap
 tabsOk:∀ (w:World) (ρ:Num) (B:Nat) (M:Nat->Prop),I w->(∀ g,g < P.globals.size->ρ g=some g)->Sim P B M ρ tabs w
 tabsRo:∀ i o,tabs.get i=some o->o.rw=false
inductive Mk where
 | mark (i:Nat)
 | call (f:FuncId) (cap args:List Value)
structure St where
 tmps:List TV
 heap:Heap
 nid:Nat
 ds:List Bool
 obs:List Prop
 lp:Nat
 rd:Option Nat
 mks:List Mk
 bs:Nat
inductive AX where
 | normal
 | exit (id:Nat)
 | ret
def AX.toExit:AX->Exit
 | .normal=> .normal
 | .exit id=> .exit id
 | .ret=> .ret
structure Cx where
 P:Program
 J:Inv P
 auto:Bool
 pc:FuncId->List Value->Option (Value×List Prop)
 cl:FuncId->List Value->Heap->Nat->List Bool->Option CR
 xt:FuncId->List Value->Heap->Nat->Option CR
 rd:Code->St->Option (AX×St)
 gd:Bool
structure Par (P:Program) (B:Nat) (M:Nat->Prop):Prop where
 glo:P.globals.size<=B
 free:∀ k,k < P.globals.size->¬ M k
theorem Inv.keeps {P:Program} (J:Inv P) {B:Nat} {M:Nat->Prop} (hp:Par P B M) {w w':World} (h:Keeps B M w w') (hi:J.I w):J.I w':=
 J.st w w' (fun k hk=>h.block k (E3 hk hp.glo) (hp.free k hk)) h.size hi
def Pure (P:Program) (J:Inv P) (f:FuncId) (args:List Value) (v:Value):Prop:=
 pureL args=true∧z7 v=true∧((Enters P f∧∀ w,J.I w->Calls P f ⟨args⟩ w fun e w'=>e= .returned v∧Below w.heap.size w w')∨∀ w,J.I w->(callFunc f ⟨args⟩).run P w= .ok (.value v) w)
def Q0 (P:Program) (J:Inv P) (pc:FuncId->List Value->Option (Value×List Prop)):Prop:=
 ∀ f args v l,pc f args=some (v,l)->d9 l->Pure P J f args v
def iD (P:Program) (J:Inv P) (cl:FuncId->List Value->Heap->Nat->List Bool->Option CR):Prop:=
 ∀ f args H n ds r,cl f args H n ds=some r->d9 r.obs->n<=r.n∧Enters P f∧∀ (B:Nat) (M:Nat->Prop) (ρ:Num) (w:World) (vs:List Value),Par P B M->B<=w.heap.size->J.I w->
  (∀ ρ',Agree n ρ ρ'->Sim P B M ρ' H w∧vs=rvL ρ' args)->
  Calls P f ⟨vs⟩ w fun e w'=>∃ ρ1 v,Agree n ρ ρ1∧e= .returned v∧Keeps B M w w'∧∀ ρ',Agree r.n ρ1 ρ'->v=rv ρ' r.v∧Sim P B M ρ' r.h w'
def a2v (P:Program) (J:Inv P) (xt:FuncId->List Value->Heap->Nat->Option CR):Prop:=
 ∀ f args H n r,xt f args H n=some r->d9 r.obs->n<=r.n∧∀ (B:Nat) (M:Nat->Prop) (ρ:Num) (w:World) (vs:List Value),Par P B M->B<=w.heap.size->J.I w->
  (∀ ρ',Agree n ρ ρ'->Sim P B M ρ' H w∧vs=rvL ρ' args)->
  ∃ ρ1 v w',Agree n ρ ρ1∧(callFunc f ⟨vs⟩).run P w= .ok (.value v) w'∧Keeps B M w w'∧∀ ρ',Agree r.n ρ1 ρ'->v=rv ρ' r.v∧Sim P B M ρ' r.h w'
def Cx.call (X:Cx) (f:FuncId) (args:List Value) (H:Heap) (n:Nat) (ds:List Bool):Option CR:=
 match X.xt f args H n with
 | some ⟨v,h,n',ob,_⟩=>some ⟨v,h,n',ob,ds⟩
 | none=>X.cl f args H n ds
def Does (P:Program) (f:FuncId) (vs:List Value) (w:World) (R:Ending->World->Prop):Prop:=
 (Enters P f∧Calls P f ⟨vs⟩ w R)∨∃ v w',(callFunc f ⟨vs⟩).run P w= .ok (.value v) w'∧R (.returned v) w'
structure Bas where
 w:World
 n:Nat
 ρ:Num
 dfs:List Deferred
def k0p:TV->Bool
 | .unk=>true
 | .v _=>true
 | _=>false
def Fl (rb:Option Nat):Fence:={ Fence.wide with round:=rb }
def mkD (ρ:Num):Mk->Deferred
 | .mark i=>⟨.collected ((ρ i).getD 0),#[]⟩
 | .call f cap args=>⟨.fn (.func f) ⟨rvL ρ cap⟩,⟨rvL ρ args⟩⟩
structure FR (ρ:Num) (rb:Option Nat) (s:St) (a:Act):Prop where
 defers:a.defers=s.mks.map (mkD ρ)
 round:rb=s.rd.bind ρ
structure Rep (P:Program) (J:Inv P) (B:Nat) (M:Nat->Prop) (w0:Bas) (rb:Option Nat) (s:St) (a:Act) (w:World):Prop where
 low:w0.n=s.bs
 plain:∀ t,k0p (A1 s.tmps t)=true
 size:a.tmps.size=s.tmps.length
 base:B<=w.heap.size
 inv:J.I w
 keeps:Keeps B M w0.w w
 rep:∃ ρ,(w0.n<=s.nid∧Agree w0.n w0.ρ ρ)∧∀ ρ',Agree s.nid ρ ρ'->Sim P B M ρ' s.heap w∧FR ρ' rb s a∧∀ t x,A1 s.tmps t= .v x->a.tmps.getD t undef=rv ρ' x
def x2o (P:Program) (J:Inv P) (rd:Code->St->Option (AX×St)):Prop:=
 ∀ c s x s',rd c s=some (x,s')->d9 s'.obs->d9 s.obs∧∀ (B:Nat) (M:Nat->Prop) (w0:Bas) (rb:Option Nat) (a:Act) (w:World),Par P B M->Rep P J B M w0 rb s a w->
  ∀ Q:Exit->Act->World->Prop,(∀ a' w',Rep P J B M w0 rb s' a' w'->Q x.toExit a' w')->c.wpIn (Fl rb) 0 P Q a w
structure CxOk (X:Cx) (J:Inv X.P):Prop where
 pc:Q0 X.P J X.pc
 cl:iD X.P J X.cl
 xt:a2v X.P J X.xt
 rd:x2o X.P J X.rd
 tabs:∀ (w:World) (ρ:Num) (B:Nat) (M:Nat->Prop),J.I w->(∀ g,g < X.P.globals.size->ρ g=some g)->Sim X.P B M ρ X.J.tabs w
 ro:∀ i o,X.J.tabs.get i=some o->o.rw=false
theorem mJ {rb:Option Nat} {n:Nat} {P:Program} {f:FuncId} {args:Array Value} {w:World} {R:Ending->World->Prop} (h:Calls P f args w R):CallsIn (Fl rb) n P f args w R:=by
 cases rb with
 | none=>exact callsIn_wide.2 h
 | some l=>exact CallsIn.inRound l (callsIn_wide.2 h)
theorem kB {rb:Option Nat} {P:Program} {o:Oper} {w:World} {ρ:Operand->Value} :∀ f,o.about P w ρ=some f->(Fl rb).fn f:=fun _ _=>trivial
theorem G0 {rb:Option Nat} {P:Program} {o:Oper} {a:Act} {w:World} {K:Act->World->Prop} {Q:Exit->Act->World->Prop} (hnd:∀ c,o.op≠ .defer c)
  (h:o.uponIn (Fl rb) 0 P a K Q ((execOp a.eval o).run P w)):o.wpIn (Fl rb) 0 P a w K Q:=
 ⟨kB,by rw [Oper.semAt_eq _ _ _ hnd]; exact h⟩
theorem yH {X:Cx} {J:Inv X.P} (hX:CxOk X J) {f:FuncId} {args:List Value} {H:Heap} {n:Nat} {ds:List Bool} {r:CR} (h:X.call f args H n ds=some r) (hl:d9 r.obs):
  n<=r.n∧∀ (B:Nat) (M:Nat->Prop) (ρ:Num) (w:World) (vs:List Value),Par X.P B M->B<=w.heap.size->J.I w->(∀ ρ',Agree n ρ ρ'->Sim X.P B M ρ' H w∧vs=rvL ρ' args)->
  Does X.P f vs w fun e w'=>∃ ρ1 v,Agree n ρ ρ1∧e= .returned v∧Keeps B M w w'∧∀ ρ',Agree r.n ρ1 ρ'->v=rv ρ' r.v∧Sim X.P B M ρ' r.h w':=by
 unfold Cx.call at h
 split at h
 ·rename_i v0 h0 n' ob ds' hx
  cases h
  obtain⟨h1,h2⟩:=hX.xt _ _ _ _ _ hx hl
  refine⟨h1,fun B M ρ w vs hp hB hI hS=> ?_⟩
  obtain⟨ρ1,v,w',q1,q2,q3,q4⟩:=h2 B M ρ w vs hp hB hI hS
  exact .inr ⟨v,w',q2,ρ1,v,q1,rfl,q3,q4⟩
 ·obtain⟨h1,h2,h3⟩:=hX.cl _ _ _ _ _ _ h hl
  exact⟨h1,fun B M ρ w vs hp hB hI hS=> .inl ⟨h2,h3 B M ρ w vs hp hB hI hS⟩⟩
theorem Does.mono {P:Program} {f:FuncId} {vs:List Value} {w:World} {R R':Ending->World->Prop} (h:Does P f vs w R) (hh:∀ e w',R e w'->R' e w'):Does P f vs w R':=by
 rcases h with ⟨h1,h2⟩ | ⟨v,w',h1,h2⟩
 ·exact .inl ⟨h1,h2.mono hh⟩
 ·exact .inr ⟨v,w',h1,hh _ _ h2⟩
theorem l0m {rb:Option Nat} {P:Program} {o:Oper} {a:Act} {w:World} {K:Act->World->Prop} {Q:Exit->Act->World->Prop} {f:FuncId} {vs:List Value} (hnd:∀ c,o.op≠ .defer c)
  (hrun:(execOp a.eval o).run P w=(callFunc f ⟨vs⟩).run P w) (hd:Does P f vs w fun e w'=>∃ v,e= .returned v∧K (a.put o.dst v) w'):o.wpIn (Fl rb) 0 P a w K Q:=by
 refine G0 hnd ?_
 rcases hd with ⟨hent,hc⟩ | ⟨v,w',h1,h2⟩
 ·rw [hrun,hent _ _,Oper.uponIn_enter]
  refine⟨fun h=>(by cases h),mJ (hc.mono fun e w' hh=> ?_)⟩
  obtain⟨v,he,hk⟩:=hh
  subst he
  exact hk
 ·rw [hrun,h1,mH]
  obtain⟨v',he,hk⟩:=h2
  cases he
  exact hk
def I3:Op->Bool
 | .move _=>true
 | .assign _=>true
 | .build _ _=>true
 | .load _ _=>true
 | .nilCheck _=>true
 | .binOp _ _ _ _ _=>true
 | .unOp _ _ _=>true
 | .convert _ _ _=>true
 | .makeInterface _ _=>true
 | .makeFunc _ _ _=>true
 | .slice _ _ _ _ _=>true
 | .fieldAddr _ _ _=>true
 | .field _ _ _=>true
 | .indexAddr _ _ _=>true
 | .index _ _ _=>true
 | .extract _ _=>true
 | .lookup _ _ _ _=>true
 | _=>false
structure R where
 v:Value
 h:Heap
 obs:List Prop
 ds:List Bool
def mkR (H:Heap) (ds:List Bool) (x:Option Value):Option R:=
 match x with
 | some v=>some ⟨v,H,[],ds⟩
 | none=>none
def a1h (H:Heap) (ds:List Bool) (x:Option (Value×List Prop)):Option R:=
 match x with
 | some (v,l)=>some ⟨v,H,l,ds⟩
 | none=>none
def k0d (P:Program) (t:TypeId):Bool:=
 match W0 P t with
 | none=>false
 | some (.interface _)=>false
 | some _=>true
def p2n (ev:Operand->Option Value):Option Operand->Option (Option Value)
 | none=>some none
 | some x=>match ev x with
  | some v=>some (some v)
  | none=>none
def bnd (v:Option Value) (d:Nat):Option Int:=
 match v with
 | none=>some d
 | some (.int _ i)=>some i
 | _=>none
theorem v0a (ρ:Num) {v:Option Value} {d:Nat} {i:Int} (h:bnd v d=some i):v.map (rv ρ)=v:=by
 unfold bnd at h
 split at h
 ·rfl
 ·simp [rv]
 ·cases h
theorem z0z {v:Value} (h:z7 v=true):∀ x∈v.cells.toList,z7 x=true:=by
 cases v with
 | agg cs=>
  obtain⟨l⟩:=cs
  simp only [z7,pureA] at h
  rw [C9,zzA10] at h
  exact h
 | _=>intro x hx; simp only [Value.cells,zzA84,T3,V5] at hx; subst hx; exact h
def kP (P:Program) (auto:Bool) (H:Heap) (e:TypeId) (a:Option Addr) (n c:Nat) (lo hi:Option Value):Option (Value×List Prop):=
 match bnd lo 0,bnd hi n,fQ P e with
 | some l,some h,some inf=>match a with
  | none=>match N3 auto (0<=l∧l<=h∧h<=c) with
   | some ob=>some (.slice none (h.toNat-l.toNat) (c-l.toNat),ob)
   | none=>none
  | some ⟨id,off,none⟩=>match N3 auto (0<=l∧l<=h∧h<=c) with
   | some ob=>match lo with
    | none=>some (.slice (some ⟨id,off,none⟩) h.toNat c,ob)
    | some _=>match zO0 c l.toNat with
     | true=>some (.slice (some ⟨id,off,none⟩) (h.toNat-l.toNat) (c-l.toNat),ob)
     | false=>some (.slice (some ⟨id,addO off (T0 l.toNat inf.size),none⟩) (h.toNat-l.toNat) (c-l.toNat),ob)
   | none=>none
  | some ⟨id,off,some k⟩=>match auto with
   | true=>match off,c,H.get id with
    | 0,0,some (.row _ sz r k')=>match zO0 k k' && zO1 0 sz,N3 true (l=0∧0<=h∧h<=n∧h.toNat*sz<=r.list.length) with
     | true,some ob=>some (.slice (some ⟨id,0,some k⟩) h.toNat 0,ob)
     | _,_=>none
    | _,_,_=>none
   | false=>match H.get id with
    | some (.row _ sz r k')=>match zO0 k k' && zO1 0 sz && zO0 inf.size sz with
     | true=>match lo with
      | none=>some (.slice (some ⟨id,off,some k⟩) h.toNat c,[off=c*sz∧0<=h∧off+h.toNat*sz<=r.len])
      | some _=>some (.slice (some ⟨id,addO off (T0 l.toNat sz),some k⟩) (h.toNat-l.toNat) (addO c l.toNat),[off=c*sz∧0<=l∧l<=h∧(l=0∨l < h)∧off+h.toNat*sz<=r.len])
     | false=>none
    | _=>none
 | _,_,_=>none
theorem j0n {P:Program} {auto:Bool} {H:Heap} {e:TypeId} {a:Option Addr} {n c:Nat} {lo hi:Option Value} {r:Value×List Prop} {ρ:Num} (h:kP P auto H e a n c lo hi=some r):lo.map (rv ρ)=lo∧hi.map (rv ρ)=hi:=by
 unfold kP at h
 simp only [x6] at h
 split at h
 case h_2=>cases h
 rename_i hlo hhi _
 exact⟨v0a ρ hlo,v0a ρ hhi⟩
def qD (z:List Value):Nat->List Value
 | 0=>[]
 | c+1=>z++qD z c
def i1g (P:Program) (auto:Bool) (t:TypeId) (l c:Int):Option (TypeId×List Value×List Prop):=
 match W0 P t with
 | some (.slice e)=>match fQ P e with
  | some inf=>match inf.zero with
   | some z=>match z7 z && zO0 z.cells.size inf.size,N3 auto (0<=l∧l<=c∧(inf.bytes:Int)*c<=281474976710656∧c<=9223372036854775807) with
    | true,some ob=>some (e,qD z.cells.toList c.toNat,ob)
    | _,_=>none
   | none=>none
  | none=>none
 | _=>none
theorem pB (z:List Value):∀ c,(qD z c).length=c*z.length
 | 0=>by simp [qD]
 | c+1=>by rw [qD,s9,pB z c,u4,V1,z0l]
theorem i0v (z:List Value):∀ (c j:Nat),j < c*z.length->(qD z c)[j]? =z[j%z.length]?
 | 0,j,h=>by omega
 | c+1,j,h=>by
  rw [qD]
  rcases E0 j z.length with hj | hj
  ·rw [u1m hj,H3 hj]
  ·rw [c1i hj,i0v z c _ (by rw [u4,V1] at h; omega),<- Nat.mod_eq_sub_mod hj]
theorem v0k {z:Array Value} {s c:Nat} (hs:z.size=s):madeCells z (c*s)=(qD z.toList c).toArray:=by
 subst hs
 apply gX
 apply j1k
 intro j
 simp only [madeCells,yE,Array.toList_range,S8]
 rcases E0 j (c*z.size) with hj | hj
 ·rw [List.getElem?_range hj,i0v _ _ _ (by simpa using hj)]
  have hz:0 < z.size:=by
   rcases F2 z.size with h | h
   ·rw [h,eQ] at hj; omega
   ·exact h
  have hm:j%z.size < z.size:=B0 _ hz
  simp [hm,getElem!_pos]
 ·rw [k0s (by simpa using hj),k0s (by rw [pB]; simpa using hj)]
  rfl
theorem i0s {P:Program} {auto:Bool} {t e:TypeId} {l c:Int} {cs:List Value} {ob:List Prop} (h:i1g P auto t l c=some (e,cs,ob)) (hl:d9 ob) (kl kc:IntKind) (w:World):
  (Instr.makeSlice t (.int kl l) (.int kc c)).run P w= .ok (.slice (some ⟨w.heap.size,0,none⟩) l.toNat c.toNat) (w.alloc (.cells cs.toArray e))∧∀ ρ,rvL ρ cs=cs:=by
 unfold i1g at h
 simp only [w8,x6] at h
 split at h
 case h_2=>cases h
 rename_i e' ht
 split at h
 case h_2=>cases h
 rename_i inf hi
 split at h
 case h_2=>cases h
 rename_i z hz
 split at h
 case h_2=>cases h
 rename_i ob' hp hneed
 cases h
 simp only [x5,y8] at hp
 obtain⟨h1,h2,h3,h4⟩:=j0 hneed hl
 have:=run_make (P:=P) w t e inf z ht hi hz kl kc l c h1 h2 h3 h4
 rw [v0k hp.2] at this
 refine⟨this,fun ρ=>rvL_pure ρ _ ?_⟩
 have hz:∀ x∈z.cells.toList,z7 x=true:=z0z hp.1
 rw [C9,zzA10]
 intro x hx
 generalize c.toNat=k at hx
 induction k with
 | zero=>cases hx
 | succ k ih=>
  rw [qD] at hx
  rcases zzA92.1 hx with hx | hx
  ·exact hz x hx
  ·exact ih hx
theorem J5 {P:Program} {w:World} {k:IntKind} {i:Int} {y:Nat} {code:BoundsCode} (h:0<=i∧i<=y):(Instr.sliceBound (.int k i) y code).run P w= .ok i.toNat w:=by
 simp [Instr.sliceBound,asIntOf,h]
theorem J6 {P:Program} {w:World} {len cap:Nat} {lo hi:Option Value} {l h:Int} (hlo:bnd lo 0=some l) (hhi:bnd hi len=some h) (hb:0<=l∧l<=h∧h<=cap) (hlen:hi=none->True) (isS:Bool):
  (Instr.sliceBounds isS len cap lo hi none).run P w= .ok (l.toNat,h.toNat,cap) w:=by
 unfold Instr.sliceBounds
 cases lo with
 | none=>
  simp only [bnd] at hlo
  cases hlo
  cases hi with
  | none=>
   simp only [bnd] at hhi
   cases hhi
   simp
  | some v=>
   cases v <;> simp only [bnd] at hhi <;> first | (cases hhi; done) | skip
   cases hhi
   simp [J5 (P:=P) (w:=w) (show 0<=h∧h<=(cap:Int) by omega)]
 | some v0=>
  cases v0 <;> simp only [bnd] at hlo <;> first | (cases hlo; done) | skip
  cases hlo
  cases hi with
  | none=>
   simp only [bnd] at hhi
   cases hhi
   simp [J5 (P:=P) (w:=w) (show 0<=l∧l<=(len:Int) by omega)]
  | some v=>
   cases v <;> simp only [bnd] at hhi <;> first | (cases hhi; done) | skip
   cases hhi
   simp [J5 (P:=P) (w:=w) (show 0<=h∧h<=(cap:Int) by omega),J5 (P:=P) (w:=w) (y:=h.toNat) (i:=l) (show 0<=l∧l<=((h.toNat:Nat):Int) by omega)]
theorem wX {P:Program} {auto:Bool} {B:Nat} {M:Nat->Prop} {ρ:Num} {H:Heap} {w:World} (hS:Sim P B M ρ H w) {t e:TypeId} {a:Option Addr} {n c:Nat} {lo hi:Option Value} {v:Value} {ob:List Prop}
  (h:kP P auto H e a n c lo hi=some (v,ob)) (hl:d9 ob) (ht:P.underlying t=some (.slice e)):(Instr.sliceAt t (rv ρ (.slice a n c)) lo hi none).run P w= .ok (rv ρ v) w:=by
 unfold kP at h
 simp only [x6] at h
 split at h
 case h_2=>cases h
 rename_i l hh inf hlo hhi hinf
 have key:∀ (a':Option Addr) (cap:Nat),0<=l∧l<=hh∧hh<=cap->(Instr.sliceAt t (.slice a' n cap) lo hi none).run P w= .ok (.slice (if cap=l.toNat then a' else a'.map (·.add (l.toNat*inf.size))) (hh.toNat-l.toNat) (cap-l.toNat)) w:=by
  intro a' cap hb
  simp only [Instr.sliceAt,Instr.slice,p8,T1 ht,r9,J6 (P:=P) (w:=w) hlo hhi hb (fun _=>trivial) true,m7 hinf,S9]
 split at h
 ·split at h
  case h_2=>cases h
  rename_i ob' hneed
  cases h
  have:=key none c (j0 hneed hl)
  simp only [rv]
  rw [this]
  simp
 ·rename_i id off
  split at h
  case h_2=>cases h
  rename_i ob' hneed
  have hb:=j0 (l:=ob') hneed (by
   split at h
   ·cases h; exact hl
   ·split at h <;> (cases h; exact hl))
  have hk:=key ((ρ id).map fun b=>⟨b,off,none⟩) c hb
  have hrv:rv ρ (.slice (some ⟨id,off,none⟩) n c)= .slice ((ρ id).map fun b=>⟨b,off,none⟩) n c:=by simp only [rv,rSl,r8]
  rw [hrv,hk]
  split at h
  ·cases h
   simp only [bnd] at hlo
   cases hlo
   simp only [rv,rSl,r8]
   cases hq:ρ id with
   | none=>simp
   | some b=>simp [o8]
  split at h
  ·rename_i hc
   have hc:=S6 hc
   cases h
   rw [b9 hc]
   simp only [rv,rSl,r8]
  ·rename_i hc
   have hc:c≠l.toNat:=fun e=>by rw [e,e0x] at hc; cases hc
   cases h
   rw [a6 hc]
   cases hq:ρ id with
   | none=>simp [rv,rSl,r8,hq]
   | some b=>simp [rv,rSl,r8,hq,o8]
 ·rename_i id off k
  split at h
  ·split at h
   case h_2=>cases h
   rename_i e' sz r k' hget
   split at h
   case h_2=>cases h
   rename_i ob' hck hneed
   simp only [x5,y8,D1] at hck
   obtain⟨hkk,hsz⟩:=hck
   subst hkk
   cases h
   obtain⟨h1,h2,h3,h4⟩:=j0 hneed hl
   subst h1
   rcases hS.obj id _ hget with ⟨g1,g2⟩ | ⟨b,cap,cur,g1,g2,g3,g4,g5,g6,g7,g8⟩
   ·rw [g2] at h4
    have hn0:hh.toNat=0:=by
     rcases F2 hh.toNat with h0 | h0
     ·exact h0
     ·have:=c1a h0 hsz
      simp only [mE] at h4
      omega
    have hh0:hh=0:=by omega
    subst hh0
    have:=key none 0 (by omega)
    simp only [rv,rSl,g1]
    rw [this]
    simp
   ·have hcap:hh.toNat<=cap:=s0p (x7 h4 g7) hsz
    have:=key (some ⟨b,0,none⟩) cap (by omega)
    simp only [rv,rSl,g1,g2,T2,y0t]
    rw [this]
    simp [o8]
  ·split at h
   case h_2=>cases h
   rename_i e' sz r k' hget
   split at h
   case h_2=>cases h
   rename_i hck
   simp only [x5,y8,D1] at hck
   obtain⟨⟨hkk,hsz⟩,hsz2⟩:=hck
   subst hkk hsz2
   have hl':off=c*inf.size∧0<=l∧l<=hh∧(l=0∨l < hh)∧off+hh.toNat*inf.size<=r.len:=by
    split at h
    ·cases h
     obtain⟨q1,q2,q3⟩:=hl.1
     simp only [bnd] at hlo
     cases hlo
     exact⟨q1,xY _,q2, .inl rfl,q3⟩
    ·cases h
     exact hl.1
   have hv:rv ρ v=rv ρ (.slice (some ⟨id,addO off (T0 l.toNat inf.size),some k⟩) (hh.toNat-l.toNat) (addO c l.toNat)):=by
    split at h
    ·cases h
     simp only [bnd] at hlo
     cases hlo
     simp
    ·cases h
     rfl
   rw [hv]
   clear hv h
   obtain⟨h1,h2,h3,h4,h5⟩:=hl'
   subst h1
   rw [i0f] at h5
   rcases hS.obj id _ hget with ⟨g1,g2⟩ | ⟨b,cap,cur,g1,g2,g3,g4,g5,g6,g7,g8⟩
   ·rw [g2] at h5
    simp only [mE] at h5
    have hz1:c*inf.size=0:=by omega
    have hz2:hh.toNat*inf.size=0:=by omega
    have hc0:c=0:=by rcases zzA98.1 hz1 with h | h <;> omega
    have hh0:hh.toNat=0:=by rcases zzA98.1 hz2 with h | h <;> omega
    have hl0:l.toNat=0:=by omega
    have:=key none 0 (by omega)
    simp only [rv,rSl,g1]
    rw [this,hl0,hh0]
    simp
   ·have hcap:c+hh.toNat<=cap:=by
     have:(c+hh.toNat)*inf.size<=cap*inf.size:=by rw [u4]; exact x7 h5 g7
     exact s0p this hsz
    have:=key (some ⟨b,c*inf.size,none⟩) (cap-c) (by omega)
    simp only [rv,rSl,g1,g2,T2]
    rw [this]
    simp only [G1,cV,Nat.sub_sub]
    rcases h4 with h4 | h4
    ·subst h4
     simp [o8]
    ·rw [a6 (by omega)]
     simp [o8]
def h2d (P:Program) (H:Heap) (e:TypeId) (id off k n c l:Nat):Option Value:=
 match fQ P e,H.get id with
 | some inf,some (.row _ sz r k')=>match zO0 k k' && zO1 0 sz && zO0 inf.size sz && zO0 off (c*sz) && Nat.ble (c*sz+n*sz) r.list.length && zO1 0 l && Nat.ble l n with
  | true=>match zO1 l n with
   | true=>some (.slice (some ⟨id,c*sz+l*sz,some k⟩) (n-l) (c+l))
   | false=>match zO1 k 18446744073709551616 && zO1 c 18446744073709551616 && zO1 l 18446744073709551616 && zO1 sz 18446744073709551616 with
    | true=>some (.chan (some (r2y id k c l sz)))
    | false=>none
  | false=>none
 | _,_=>none
theorem p0j {P:Program} {B:Nat} {M:Nat->Prop} {ρ:Num} {H:Heap} {w:World} (hS:Sim P B M ρ H w) {t e:TypeId} {id off k n c l:Nat} {kd:IntKind} {v:Value}
  (h:h2d P H e id off k n c l=some v) (ht:P.underlying t=some (.slice e)):(Instr.sliceAt t (rv ρ (.slice (some ⟨id,off,some k⟩) n c)) (some (.int kd (l:Int))) none none).run P w= .ok (rv ρ v) w:=by
 unfold h2d at h
 simp only [x6] at h
 split at h
 case h_2=>cases h
 rename_i inf _ sz r k' hinf hget
 split at h
 case h_2=>cases h
 rename_i hck
 simp only [x5,y8,D1,M8] at hck
 obtain⟨⟨⟨⟨⟨⟨h1,h2⟩,h3⟩,h4⟩,h5⟩,h6⟩,h7⟩:=hck
 subst h1 h3 h4
 have key:∀ (a':Option Addr) (cap:Nat),n<=cap->(Instr.sliceAt t (.slice a' n cap) (some (.int kd (l:Int))) none none).run P w= .ok (.slice (if cap=l then a' else a'.map (·.add (l*inf.size))) (n-l) (cap-l)) w:=by
  intro a' cap hb
  have hbd:(0:Int)<=(l:Int)∧(l:Int)<=(n:Int)∧(n:Int)<=cap:=⟨by omega,by omega,by omega⟩
  have:=J6 (P:=P) (w:=w) (lo:=some (.int kd (l:Int))) (hi:=none) (l:=(l:Int)) (h:=(n:Int)) (len:=n) rfl rfl hbd (fun _=>trivial) true
  simp only [Instr.sliceAt,Instr.slice,p8,T1 ht,r9,this,m7 hinf,S9,i8]
 rcases hS.obj id _ hget with ⟨g1,g2⟩ | ⟨b,cap,cur,g1,g2,g3,g4,g5,g6,g7,g8⟩
 ·rw [g2] at h5
  simp only [mE] at h5
  have:n*inf.size=0:=by omega
  rcases zzA98.1 this with h | h <;> omega
 ·have hcap:c+n<=cap:=by
   have:(c+n)*inf.size<=cap*inf.size:=by rw [u4]; exact x7 h5 g7
   exact s0p this h2
  have hk:=key (some ⟨b,c*inf.size,none⟩) (cap-c) (by omega)
  have hr:rv ρ (.slice (some ⟨id,c*inf.size,some k⟩) n c)= .slice (some ⟨b,c*inf.size,none⟩) n (cap-c):=by simp only [rv,rSl,g1,g2,T2]
  rw [hr,hk]
  split at h
  ·rename_i hlt
   rw [D1] at hlt
   cases h
   rw [a6 (by omega)]
   simp only [rv,rSl,g1,g2,T2,Nat.sub_sub]
   simp [o8]
  ·rename_i hlt
   have hln:l=n:=by
    have:¬ l < n:=fun hh=>by rw [show zO1 l n=true by rw [D1]; exact hh] at hlt; cases hlt
    omega
   split at h
   case h_2=>cases h
   rename_i hb
   simp only [x5,D1] at hb
   obtain⟨⟨⟨b1,b2⟩,b3⟩,b4⟩:=hb
   cases h
   simp only [rv]
   rw [u1h ρ b1 b2 b3 b4]
   unfold x1u
   simp only [g1,g2,T2,hln,bD]
   by_cases hq:cap-c=n
   ·rw [b9 hq,b9 hq]
   ·rw [a6 hq,a6 hq]
    simp [o8]
def aP (P:Program) (auto:Bool) (H:Heap) (e:TypeId) (a:Option Addr) (n c:Nat) (lo hi:Option Value):Option (Value×List Prop):=
 match kP P auto H e a n c lo hi with
 | some r=>some r
 | none=>match auto with
  | true=>match a,lo,hi with
   | some ⟨id,off,some k⟩,some (.int _ (.ofNat l)),none=>match h2d P H e id off k n c l with
    | some v=>some (v,[])
    | none=>none
   | _,_,_=>none
  | false=>none
theorem cX {P:Program} {auto:Bool} {H:Heap} {e:TypeId} {a:Option Addr} {n c:Nat} {lo hi:Option Value} {r:Value×List Prop} {ρ:Num} (h:aP P auto H e a n c lo hi=some r):lo.map (rv ρ)=lo∧hi.map (rv ρ)=hi:=by
 unfold aP at h
 split at h
 ·rename_i hq; exact j0n hq
 ·split at h
  ·split at h
   ·simp [rv]
   ·cases h
  ·cases h
theorem U8 {P:Program} {auto:Bool} {B:Nat} {M:Nat->Prop} {ρ:Num} {H:Heap} {w:World} (hS:Sim P B M ρ H w) {t e:TypeId} {a:Option Addr} {n c:Nat} {lo hi:Option Value} {v:Value} {ob:List Prop}
  (h:aP P auto H e a n c lo hi=some (v,ob)) (hl:d9 ob) (ht:P.underlying t=some (.slice e)):(Instr.sliceAt t (rv ρ (.slice a n c)) lo hi none).run P w= .ok (rv ρ v) w:=by
 unfold aP at h
 split at h
 ·rename_i hq
  cases h
  exact wX hS hq hl ht
 ·split at h
  ·split at h
   ·split at h
    ·rename_i hv
     cases h
     exact p0j hS hv ht
    ·cases h
   ·cases h
  ·cases h
def a3h (lo hi:Option Operand):Bool:=
 match lo,hi with
 | some (.const (.int _ (.ofNat l))),none=>zO0 l 1
 | _,_=>false
def kE (P:Program) (auto one:Bool) (H:Heap) (e:TypeId) (a:Option Addr) (n c:Nat) (lo hi:Option Value):Option (Value×List Prop):=
 match one && !auto with
 | false=>aP P auto H e a n c lo hi
 | true=>match a,lo,hi with
  | some ⟨id,off,some k⟩,some (.int _ (.ofNat l)),none=>match zO0 n 1 with
   | false=>aP P auto H e a n c lo hi
   | true=>match fQ P e,H.get id with
    | some inf,some (.row _ sz r k')=>match zO0 k k' && zO0 1 sz && zO0 inf.size sz && zO0 l 1 && zO1 k 18446744073709551616 with
     | true=>some (.complex .f32 (id*18446744073709551616+k) c,[off=c∧c+1<=r.list.length])
     | false=>none
    | _,_=>none
  | _,_,_=>aP P auto H e a n c lo hi
theorem k0i {P:Program} {auto one:Bool} {H:Heap} {e:TypeId} {a:Option Addr} {n c:Nat} {lo hi:Option Value} {r:Value×List Prop} {ρ:Num} (h:kE P auto one H e a n c lo hi=some r):lo.map (rv ρ)=lo∧hi.map (rv ρ)=hi:=by
 unfold kE at h
 split at h
 ·exact cX h
 ·split at h
  ·split at h
   ·exact cX h
   ·simp [rv]
  ·exact cX h
theorem wD {P:Program} {auto one:Bool} {B:Nat} {M:Nat->Prop} {ρ:Num} {H:Heap} {w:World} (hS:Sim P B M ρ H w) {t e:TypeId} {a:Option Addr} {n c:Nat} {lo hi:Option Value} {v:Value} {ob:List Prop}
  (h:kE P auto one H e a n c lo hi=some (v,ob)) (hl:d9 ob) (ht:P.underlying t=some (.slice e)):(Instr.sliceAt t (rv ρ (.slice a n c)) lo hi none).run P w= .ok (rv ρ v) w:=by
 unfold kE at h
 split at h
 ·exact U8 hS h hl ht
 ·split at h
  case h_2=>exact U8 hS h hl ht
  rename_i id off k kd l
  split at h
  ·exact U8 hS h hl ht
  rename_i hn
  have hn:=S6 hn
  subst hn
  simp only [x6] at h
  split at h
  case h_2=>cases h
  rename_i inf e' sz r k' hinf hget
  split at h
  case h_2=>cases h
  rename_i hck
  simp only [x5,y8,D1] at hck
  obtain⟨⟨⟨⟨h1,h2⟩,h3⟩,h4⟩,h5⟩:=hck
  subst h1 h4
  cases h
  obtain⟨o1,o2⟩:=hl.1
  subst o1
  subst h2
  have hbd:(0:Int)<=(1:Int)∧(1:Int)<=((1:Nat):Int)∧((1:Nat):Int)<=((1:Nat):Int):=⟨by omega,by omega,by omega⟩
  have key:∀ (a':Option Addr) (cap:Nat),1<=cap->(Instr.sliceAt t (.slice a' 1 cap) (some (.int kd ((1:Nat):Int))) none none).run P w= .ok (.slice (if cap=1 then a' else a'.map (·.add (1*inf.size))) (1-1) (cap-1)) w:=by
   intro a' cap hb
   have hbd:(0:Int)<=((1:Nat):Int)∧((1:Nat):Int)<=((1:Nat):Int)∧((1:Nat):Int)<=cap:=⟨by omega,by omega,by omega⟩
   have:=J6 (P:=P) (w:=w) (lo:=some (.int kd ((1:Nat):Int))) (hi:=none) (l:=((1:Nat):Int)) (h:=((1:Nat):Int)) (len:=1) rfl rfl hbd (fun _=>trivial) true
   simp only [Instr.sliceAt,Instr.slice,p8,T1 ht,r9,this,m7 hinf,S9,i8]
  rcases hS.obj id _ hget with ⟨g1,g2⟩ | ⟨b,cap,cur,g1,g2,g3,g4,g5,g6,g7,g8⟩
  ·rw [g2] at o2
   exact absurd o2 (by simp)
  ·have hcap:off+1<=cap:=by omega
   have hk:=key (some ⟨b,off,none⟩) (cap-off) (by omega)
   have hr:rv ρ (.slice (some ⟨id,off,some k⟩) 1 off)= .slice (some ⟨b,off,none⟩) 1 (cap-off):=by simp only [rv,rSl,g1,g2,T2]
   rw [hr]
   refine hk.trans ?_
   simp only [rv,j2h,(D9 h5).1,(D9 h5).2,x1u,g1,g2,T2,h3,s4,bD]
   by_cases hq:cap-off=1
   ·rw [b9 hq,b9 hq]
   ·rw [a6 hq,a6 hq]
    simp [o8]
def jJ (P:Program) (auto:Bool) (H:Heap) (n:Nat) (e:TypeId) (id off:Nat) (lo hi:Option Value):Option (Value×List Prop):=
 match known P H id with
 | true=>match bnd lo 0,bnd hi n,fQ P e with
  | some l,some h,some inf=>match N3 auto (0<=l∧l<=h∧h<=n) with
   | some ob=>match zO0 n l.toNat with
    | true=>some (.slice (some ⟨id,off,none⟩) (h.toNat-l.toNat) (n-l.toNat),ob)
    | false=>some (.slice (some ⟨id,addO off (T0 l.toNat inf.size),none⟩) (h.toNat-l.toNat) (n-l.toNat),ob)
   | none=>none
  | _,_,_=>none
 | false=>none
theorem k0o {P:Program} {auto:Bool} {H:Heap} {n:Nat} {e:TypeId} {id off:Nat} {lo hi:Option Value} {r:Value×List Prop} {ρ:Num} (h:jJ P auto H n e id off lo hi=some r):lo.map (rv ρ)=lo∧hi.map (rv ρ)=hi:=by
 unfold jJ at h
 simp only [x6] at h
 split at h
 case h_2=>cases h
 split at h
 case h_2=>cases h
 rename_i hlo hhi _
 exact⟨v0a ρ hlo,v0a ρ hhi⟩
theorem xX {P:Program} {auto:Bool} {B:Nat} {M:Nat->Prop} {ρ:Num} {H:Heap} {w:World} (hS:Sim P B M ρ H w) {t e:TypeId} {n id off:Nat} {lo hi:Option Value} {v:Value} {ob:List Prop}
  (h:jJ P auto H n e id off lo hi=some (v,ob)) (hl:d9 ob) (ht:P.underlying t=some (.array n e)):(Instr.sliceAt t (rv ρ (.pointer (some ⟨id,off,none⟩))) lo hi none).run P w= .ok (rv ρ v) w:=by
 unfold jJ at h
 simp only [x6] at h
 split at h
 case h_2=>cases h
 rename_i hkn
 split at h
 case h_2=>cases h
 rename_i l hh inf hlo hhi hinf
 split at h
 case h_2=>cases h
 rename_i ob' hneed
 have hb:=j0 (l:=ob') hneed (by split at h <;> (cases h; exact hl))
 obtain⟨b,hb1⟩:=L8 hS hkn
 have hrv:rv ρ (.pointer (some ⟨id,off,none⟩))= .pointer (some ⟨b,off,none⟩):=by simp [rv,r8,hb1]
 have hk:(Instr.sliceAt t (.pointer (some ⟨b,off,none⟩)) lo hi none).run P w= .ok (.slice (some (if n=l.toNat then ⟨b,off,none⟩ else (⟨b,off,none⟩:Addr).add (l.toNat*inf.size))) (hh.toNat-l.toNat) (n-l.toNat)) w:=by
  simp only [Instr.sliceAt,p8,T1 ht,r9,J6 (P:=P) (w:=w) hlo hhi hb (fun _=>trivial) false,m7 hinf,S9,Instr.sureAddr,pure_bind]
 rw [hrv,hk]
 split at h
 ·rename_i hc
  have hc:=S6 hc
  cases h
  rw [b9 hc]
  simp only [rv,rSl,r8,hb1,C8]
 ·rename_i hc
  have hc:n≠l.toNat:=fun e=>by rw [e,e0x] at hc; cases hc
  cases h
  rw [a6 hc]
  simp [rv,rSl,r8,hb1,o8]
def g2r (P:Program) (H:Heap) (s d:TypeId) (x:Value):Option Value:=
 match x with
 | .pointer (some ⟨id,off,none⟩)=>match W0 P s,W0 P d,H.get id with
  | some (.pointer t),some .unsafePointer,some (.cells cs _)=>match fQ P t with
   | some i=>match zO1 0 i.size && zO1 off cs.length with
    | true=>some (.pointer (some ⟨id,off,none⟩))
    | false=>none
   | none=>none
  | some .unsafePointer,some (.pointer u),some (.cells cs ty)=>match fQ P u with
   | some _=>match liesAt P P.depth ty (cs.length/P.cellsOf ty) off u 1 with
    | true=>some (.pointer (some ⟨id,off,none⟩))
    | false=>none
   | none=>none
  | _,_,_=>none
 | _=>none
theorem n0x {P:Program} {B:Nat} {M:Nat->Prop} {ρ:Num} {H:Heap} {w:World} (hS:Sim P B M ρ H w) {s d:TypeId} {x v:Value} (h:g2r P H s d x=some v):(convert s d (rv ρ x)).run P w= .ok (rv ρ v) w:=by
 unfold g2r at h
 simp only [w8,x6] at h
 split at h
 case h_2=>cases h
 rename_i id off
 split at h
 ·rename_i t cs ty hs hd hget
  split at h
  case h_2=>cases h
  rename_i i hi
  split at h
  case h_2=>cases h
  rename_i hc
  simp only [x5,D1] at hc
  cases h
  obtain⟨b,hb,hw,_⟩:=hS.obj id _ hget
  simp only [rv,r8,hb,C8]
  exact Lib.run_to_unsafe w ⟨b,off,none⟩ hs hd hi (by omega) (e:=ty) (cells:=(rvL ρ cs).toArray.size) (by simp [World.shape?,hw]) (by simpa [l9] using hc.2)
 ·rename_i u cs ty hs hd hget
  split at h
  case h_2=>cases h
  rename_i i hi
  split at h
  case h_2=>cases h
  rename_i hc
  cases h
  obtain⟨b,hb,hw,_⟩:=hS.obj id _ hget
  simp only [rv,r8,hb,C8]
  exact Lib.run_from_unsafe w ⟨b,off,none⟩ hs hd hi (e:=ty) (cells:=(rvL ρ cs).toArray.size) (by simp [World.shape?,hw]) (by simpa [l9] using hc)
 ·cases h
def j1v (P:Program) (H:Heap) (s d:TypeId) (x:Value):Option Value:=
 match g2r P H s d x with
 | some v=>some v
 | none=>s0t P H s d x
theorem m0t {P:Program} {B:Nat} {M:Nat->Prop} {ρ:Num} {H:Heap} {w:World} (hS:Sim P B M ρ H w) {s d:TypeId} {x v:Value} (h:j1v P H s d x=some v):(convert s d (rv ρ x)).run P w= .ok (rv ρ v) w:=by
 unfold j1v at h
 split at h
 ·rename_i hu; cases h; exact n0x hS hu
 ·exact b0s hS h
def f2v (P:Program) (auto:Bool) (H:Heap) (s d:TypeId) (x:Value):Option (Value×List Prop):=
 match auto with
 | true=>none
 | false=>match x with
  | .slice (some ⟨j,off,some k⟩) n _=>match H.get j with
   | some (.row _ sz (.ints .u8 ns) k')=>match W0 P s,W0 P d with
    | some (.slice e),some .string=>match W0 P e with
     | some (.int .u8)=>match zO0 sz 1 && zO0 k k' with
      | true=>some (.string ⟨⟨(ns.drop off).map fun n=>UInt8.ofNat n.toNat⟩⟩,[n=(ns.drop off).length])
      | false=>none
     | _=>none
    | _,_=>none
   | _=>none
  | _=>none
def t2a (P:Program) (auto:Bool) (s d:TypeId) (x:Value):Option (Value×List Prop):=
 match auto with
 | true=>none
 | false=>match x with
  | .float k n=>match W0 P s,W0 P d with
   | some _,some (.float k')=>match decide (k=k') with
    | true=>none
    | false=>some (.float k' ((floatToFloatBits k n k').getD 0),[(floatToFloatBits k n k').isSome=true])
   | _,_=>none
  | _=>none
theorem z0o {P:Program} {auto:Bool} {s d:TypeId} {x v:Value} {l:List Prop} (h:t2a P auto s d x=some (v,l)) (hl:d9 l) (ρ:Num) (w:World):
  (convert s d (rv ρ x)).run P w= .ok (rv ρ v) w:=by
 unfold t2a at h
 simp only [w8] at h
 split at h
 ·cases h
 split at h
 case h_2=>cases h
 rename_i k n
 split at h
 case h_2=>cases h
 rename_i u k' hs hd
 split at h
 ·cases h
 cases h
 have h1:=hl.1
 cases hb:floatToFloatBits k n k' with
 | none=>rw [hb] at h1; cases h1
 | some r=>
  simp only [rv,T2]
  exact run_convert_float_float w s d k k' n r (by rw [hs]; rfl) hd hb
theorem o0o {P:Program} {auto:Bool} {B:Nat} {M:Nat->Prop} {ρ:Num} {H:Heap} {w:World} (hS:Sim P B M ρ H w) {s d:TypeId} {x v:Value} {l:List Prop} (h:f2v P auto H s d x=some (v,l)) (hl:d9 l):
  (convert s d (rv ρ x)).run P w= .ok (rv ρ v) w:=by
 unfold f2v at h
 simp only [w8] at h
 split at h
 ·cases h
 split at h
 case h_2=>cases h
 rename_i j off k n c
 split at h
 case h_2=>cases h
 rename_i e' sz ns k' hget
 split at h
 case h_2=>cases h
 rename_i e hs hd
 split at h
 case h_2=>cases h
 rename_i he
 split at h
 case h_2=>cases h
 rename_i hc
 simp only [x5,y8] at hc
 obtain⟨h1,h2⟩:=hc
 subst h1 h2
 cases h
 obtain rfl:=hl.1
 rcases hS.obj j _ hget with ⟨g1,g2⟩ | ⟨b,cap,cur,g1,g2,g3,g4,g5,g6,g7,g8⟩
 ·have hn:ns=[] :=by simpa [Row.list] using g2
  subst hn
  have:(convert s d (.slice none 0 0)).run P w= .ok (.string .empty) w:=by
   unfold convert
   simp [run_underlying hs,run_underlying hd,run_underlying he,Conv.bytesToString]
  simp only [rv,rSl,g1,List.drop_nil,mE,List.map_nil]
  exact this
 ·have e1:rvL ρ (ns.map (zO3 .u8))=ns.map (zO3 .u8):=rvL_pure _ _ (by rw [C9]; simp [z7])
  obtain⟨fr,q1,_⟩:=g3
  have hc:=h0g (P:=P) w ⟨b,off,none⟩ ((ns.drop off).map (zO3 .u8)) (fun i v hi=>by
   rw [o8]
   simp only [Row.list] at g8
   rw [e1] at g8
   rw [gD,S3,<- g8,T5] at hi
   split at hi
   ·simp only [World.cell?,q1]
    simpa using hi
   ·cases hi)
  rw [B9] at hc
  simp only [rv,rSl,g1,g2,T2]
  rw [run_convert_bytes_string w s d e _ _ _ hs he hd,run_bytesToString w _ _ _ (ns.drop off) hc,b0b]
  simp
def u2x:Operand->Bool
 | .const v=>match v with
  | .pointer none=>true
  | .slice none _ _=>true
  | .nilIface=>true
  | _=>false
 | _=>false
def j2d:BinOp->Bool->Option Value
 | .eql,b=>some (.bool b)
 | .neq,b=>some (.bool (!b))
 | _,_=>none
def f2z (P:Program) (H:Heap) (op:BinOp) (t:TypeId) (a b:Value):Option Value:=
 match W0 P t with
 | some (.pointer _)=>match a,b with
  | .pointer (some ⟨id,_,_⟩), .pointer none=>match known P H id with
   | true=>j2d op false
   | false=>none
  | _,_=>none
 | some (.slice _)=>match a,b with
  | .slice (some ⟨id,_,none⟩) _ _, .slice none _ _=>match known P H id with
   | true=>j2d op false
   | false=>none
  | _,_=>none
 | some (.interface _)=>match a,b with
  | .iface _ _, .nilIface=>j2d op false
  | _,_=>none
 | _=>none
def u0i (P:Program) (op:BinOp) (t:TypeId) (a b:Value):Option Value:=
 match a,b with
 | .pointer (some ⟨i,o,none⟩), .pointer (some ⟨j,o',none⟩)=>match zO0 i j && zO0 o o' with
  | true=>match W0 P t with
   | some (.pointer e)=>match P.info? e with
    | some _=>j2d op true
    | none=>none
   | _=>none
  | false=>none
 | _,_=>none
theorem wK {P:Program} {w:World} (D:Nat) {t e:TypeId} {a:Addr} (h:P.underlying t=some (.pointer e)):(Op.equalIn (D+1) t (.pointer (some a)) (.pointer none)).run P w= .ok false w:=by
 simp only [Op.equalIn,p8,T1 h,r9]
 rfl
theorem pS {P:Program} {w:World} (D:Nat) {t e:TypeId} {a:Addr} {n c n' c':Nat} (h:P.underlying t=some (.slice e)):(Op.equalIn (D+1) t (.slice (some a) n c) (.slice none n' c')).run P w= .ok false w:=by
 simp only [Op.equalIn,p8,T1 h,r9]
 rfl
theorem pT {P:Program} {w:World} (D:Nat) {t t':TypeId} {v':Value} (h:(P.underlying t).map (fun d=>match d with | .interface _=>true | _=>false)=some true):(Op.equalIn (D+1) t (.iface t' v') .nilIface).run P w= .ok false w:=by
 cases hu:P.underlying t with
 | none=>rw [hu] at h; cases h
 | some d=>
  rw [hu] at h
  cases d <;> first | (cases h; done) | (simp only [Op.equalIn,p8,T1 hu,r9]; rfl)
theorem sP {P:Program} {w:World} (D:Nat) {t e:TypeId} {inf:TypeInfo} {b o:Nat} (h:P.underlying t=some (.pointer e)) (hi:P.info? e=some inf):(Op.equalIn (D+1) t (.pointer (some ⟨b,o,none⟩)) (.pointer (some ⟨b,o,none⟩))).run P w= .ok true w:=by
 simp only [Op.equalIn,p8,T1 h,m7 hi,r9]
 by_cases hz:inf.size=0
 ·simp [hz]
 ·simp [hz,sameAddr]
theorem sF {P:Program} {w:World} (D:Nat) {t e:TypeId} (h:P.underlying t=some (.pointer e)):(Op.equalIn (D+1) t (.pointer none) (.pointer none)).run P w= .ok true w:=by
 simp only [Op.equalIn,p8,T1 h,r9]
 rfl
theorem eF {P:Program} {op:BinOp} {t:TypeId} {xo yo:Operand} {x y v:Value} {b:Bool} (h:j2d op b=some v) (h1:¬ (x= .nilIface∧y= .nilIface)) (h2:¬ ((∃ a,x= .agg a)∧∃ b,y= .agg b)) (ρ:Num) (w:World)
  (he:(Op.equalIn 10000 t x y).run P w= .ok b w) (hb:∀ op',op'=BinOp.eql∨op'=BinOp.neq->binOp op' t x y=(do let r <- Op.equal t x y; pure (.bool (if op'=BinOp.eql then r else !r)))):
  (do eqGuard op t xo yo x y; binOp op t x y:Sem Value).run P w= .ok (rv ρ v) w:=by
 rw [p8,A3 h1 h2]
 simp only [r9]
 unfold j2d at h
 split at h
 ·cases h
  rw [hb _ (.inl rfl)]
  simp only [p8,Op.equal,Op.maxDepth,he,r9,rv]
  rfl
 ·cases h
  rw [hb _ (.inr rfl)]
  simp only [p8,Op.equal,Op.maxDepth,he,r9,rv]
  rfl
 ·cases h
theorem r0z {P:Program} {B:Nat} {M:Nat->Prop} {ρ:Num} {H:Heap} {w:World} (hS:Sim P B M ρ H w) {op:BinOp} {t:TypeId} {xo yo:Operand} {a b v:Value} (h:f2z P H op t a b=some v):
  (do eqGuard op t xo yo (rv ρ a) (rv ρ b); binOp op t (rv ρ a) (rv ρ b):Sem Value).run P w= .ok (rv ρ v) w:=by
 unfold f2z at h
 simp only [w8] at h
 split at h
 ·rename_i e hu
  split at h
  case h_2=>cases h
  rename_i id off sp
  split at h
  case h_2=>cases h
  rename_i hk
  obtain⟨b,hb⟩:=L8 hS hk
  refine eF h (by simp [rv]) (by simp [rv]) ρ w ?_ (fun op' ho=> ?_)
  ·simp only [rv,r8,hb,C8]
   exact wK 9999 hu
  ·simp only [rv,r8,hb,C8]
   rcases ho with rfl | rfl <;> rfl
 ·rename_i e hu
  split at h
  case h_2=>cases h
  rename_i id off n c n' c'
  split at h
  case h_2=>cases h
  rename_i hk
  obtain⟨b,hb⟩:=L8 hS hk
  refine eF h (by simp [rv,rSl]) (by simp [rv,rSl]) ρ w ?_ (fun op' ho=> ?_)
  ·simp only [rv,rSl,r8,hb,C8]
   exact pS 9999 hu
  ·simp only [rv,rSl,r8,hb,C8]
   rcases ho with rfl | rfl <;> rfl
 ·rename_i e hu
  split at h
  case h_2=>cases h
  rename_i t' v'
  refine eF h (by simp [rv]) (by simp [rv]) ρ w ?_ (fun op' ho=> ?_)
  ·simp only [rv]
   exact pT 9999 (by rw [hu]; rfl)
  ·simp only [rv]
   rcases ho with rfl | rfl <;> rfl
 ·cases h
theorem i0z {P:Program} (ρ:Num) (w:World) {op:BinOp} {t:TypeId} {xo yo:Operand} {a b v:Value} (h:u0i P op t a b=some v):
  (do eqGuard op t xo yo (rv ρ a) (rv ρ b); binOp op t (rv ρ a) (rv ρ b):Sem Value).run P w= .ok (rv ρ v) w:=by
 unfold u0i at h
 simp only [w8] at h
 split at h
 case h_2=>cases h
 rename_i i o j o'
 split at h
 case h_2=>cases h
 rename_i hq
 simp only [x5,y8] at hq
 obtain⟨rfl,rfl⟩:=hq
 split at h
 case h_2=>cases h
 rename_i e hu
 split at h
 case h_2=>cases h
 rename_i inf hi
 refine eF h (by simp [rv]) (by simp [rv]) ρ w ?_ (fun op' ho=> ?_)
 ·cases hb:ρ i with
  | none=>
   simp only [rv,r8,hb,s0j]
   exact sF 9999 hu
  | some b=>
   simp only [rv,r8,hb,C8]
   exact sP 9999 hu hi
 ·simp only [rv]
  rcases ho with rfl | rfl <;> rfl
def x0g (P:Program) (auto:Bool) (ev:Operand->Option Value) (o:Oper) (H:Heap) (n:Nat) (ds:List Bool):Option R:=
 match o.op with
 | .move x=>mkR H ds (ev x)
 | .assign x=>mkR H ds (ev x)
 | .alloc t=>match k1p P t with
  | some z=>some ⟨.pointer (some ⟨n,0,none⟩),(n, .cells z.cells.toList t) ::H,[],ds⟩
  | none=>none
 | .box t x=>match ev x with
  | some v=>some ⟨.pointer (some ⟨n,0,none⟩),(n, .cells v.cells.toList t) ::H,[],ds⟩
  | none=>none
 | .build t ps=>match fZ ev ps.toList with
  | some l=>mkR H ds (o0m P t l)
  | none=>none
 | .buildSlice t len ps=>match fZ ev ps.toList with
  | some l=>match bX P t len l with
   | some (e,cs)=>some ⟨.slice (some ⟨n,0,none⟩) len len,(n, .cells cs e) ::H,[],ds⟩
   | none=>none
  | none=>none
 | .load t x=>match ev x with
  | some v=>a1h H ds (zN P auto H t v)
  | none=>none
 | .store t x y=>match ev x,ev y with
  | some a,some v=>match jD P auto H t a v with
   | some (H',l)=>some ⟨undef,H',l,ds⟩
   | none=>match aQ P H t a v with
    | some H'=>some ⟨undef,H',[],ds⟩
    | none=>none
  | _,_=>none
 | .nilCheck x=>match ev x with
  | some (.pointer (some ⟨id,off,sp⟩))=>match known P H id with
   | true=>some ⟨.pointer (some ⟨id,off,sp⟩),H,[],ds⟩
   | false=>none
  | some (.func (.func f) a b)=>some ⟨.func (.func f) a b,H,[],ds⟩
  | some (.func (.yield f) a b)=>some ⟨.func (.yield f) a b,H,[],ds⟩
  | _=>none
 | .binOp op t x y _=>match ev x,ev y with
  | some a,some b=>match u2x y with
   | true=>match f2z P H op t a b with
    | some v=>mkR H ds (some v)
    | none=>a1h H ds (i1j P auto op t x y a b)
   | false=>match u0i P op t a b with
    | some v=>mkR H ds (some v)
    | none=>a1h H ds (i1j P auto op t x y a b)
  | _,_=>none
 | .unOp op _ x=>match ev x with
  | some a=>match z7 a with
   | true=>mkR H ds (Q2 (M0 P (Op.unary op a)))
   | false=>none
  | none=>none
 | .convert s d x=>match ev x with
  | some a=>match z7 a with
   | true=>match t2a P auto s d a with
    | some (v,l)=>some ⟨v,H,l,ds⟩
    | none=>mkR H ds (Q2 (M0 P (convert s d a)))
   | false=>match f2v P auto H s d a with
    | some (v,l)=>some ⟨v,H,l,ds⟩
    | none=>mkR H ds (j1v P H s d a)
  | none=>none
 | .makeInterface t x=>match ev x,k0d P t with
  | some a,true=>some ⟨.iface t a,H,[],ds⟩
  | _,_=>none
 | .makeFunc fn first cap=>match fB ev first.toList,fB ev cap.toList,b0r fn with
  | some a,some b,false=>some ⟨.func fn ⟨a⟩ ⟨b⟩,H,[],ds⟩
  | _,_,_=>none
 | .slice t x lo hi none=>match ev x,p2n ev lo,p2n ev hi,W0 P t with
  | some (.string s),some l,some h,some .string=>a1h H ds (d0n auto s l h)
  | some (.slice a n c),some l,some h,some (.slice e)=>a1h H ds (kE P auto (a3h lo hi) H e a n c l h)
  | some (.pointer (some ⟨id,off,none⟩)),some l,some h,some (.array len e)=>a1h H ds (jJ P auto H len e id off l h)
  | _,_,_,_=>none
 | .makeSlice t len cap=>match ev len,ev cap with
  | some (.int _ l),some (.int _ c)=>match i1g P auto t l c with
   | some (e,cs,ob)=>some ⟨.slice (some ⟨n,0,none⟩) l.toNat c.toNat,(n, .cells cs e) ::H,ob,ds⟩
   | none=>none
  | _,_=>none
 | .fieldAddr s x f=>match ev x with
  | some a=>mkR H ds (gH P H s a f)
  | none=>none
 | .field t x f=>match ev x with
  | some a=>mkR H ds (p0g P t a f)
  | none=>none
 | .indexAddr t x ix=>match ev x,ev ix with
  | some a,some i=>a1h H ds (gI P auto H t a i)
  | _,_=>none
 | .index t x ix=>match ev x,ev ix with
  | some a,some i=>a1h H ds (s0n P auto t a i)
  | _,_=>none
 | .extract x i=>match ev x with
  | some a=>mkR H ds (vE a i)
  | none=>none
 | _=>none
def lZ (nx:Next) (v:Value):Prop:=nx= .value v∨(nx= .skip∧v=undef)
theorem cS {P:Program} {auto:Bool} {ev:Operand->Option Value} {o:Oper} {H:Heap} {n:Nat} {ds:List Bool} {r:R} (h:x0g P auto ev o H n ds=some r):∀ c,o.op≠ .defer c:=by
 intro c hc
 unfold x0g at h
 simp only [w8] at h
 rw [hc] at h
 cases h
theorem K4 {H:Heap} {ds:List Bool} {x:Option Value} {r:R} (h:mkR H ds x=some r):x=some r.v∧r.h=H∧r.obs=[] ∧r.ds=ds:=by
 unfold mkR at h
 split at h
 ·cases h; exact⟨rfl,rfl,rfl,rfl⟩
 ·cases h
theorem R2 {H:Heap} {ds:List Bool} {x:Option (Value×List Prop)} {r:R} (h:a1h H ds x=some r):x=some (r.v,r.obs)∧r.h=H∧r.ds=ds:=by
 unfold a1h at h
 split at h
 ·cases h; exact⟨rfl,rfl,rfl⟩
 ·cases h
theorem dP (ρ:Num):rv ρ undef=undef:=by simp [undef,rv,rvA,rvL]
theorem dX {P:Program} {auto:Bool} {B:Nat} {M:Nat->Prop} {ρ:Num} {H:Heap} {w:World} (hS:Sim P B M ρ H w) {n:Nat} (hB:B<=w.heap.size)
  {ev:Operand->Option Value} {a:Operand->Value} {o:Oper} (hn':I3 o.op=false->ρ n=some w.heap.size) (he:∀ x∈o.op.operands.toList,∀ y,ev x=some y->a x=rv ρ y) {ds:List Bool} {r:R} (h:x0g P auto ev o H n ds=some r) (hl:d9 r.obs):
  ∃ nx w',(execOp a o).run P w= .ok nx w'∧lZ nx (rv ρ r.v)∧Sim P B M ρ r.h w'∧Keeps B M w w'∧(I3 o.op=true->r.h=H∧r.ds=ds∧w'=w):=by
 have still:∀ {v:Value} {s:Sem Value},execOp a o=(do pure (.value (<- s)))->s.run P w= .ok (rv ρ r.v) w->r.h=H->r.ds=ds->
   ∃ nx w',(execOp a o).run P w= .ok nx w'∧lZ nx (rv ρ r.v)∧Sim P B M ρ r.h w'∧Keeps B M w w'∧(I3 o.op=true->r.h=H∧r.ds=ds∧w'=w):=by
  intro v s h1 h2 h3 h4
  refine⟨.value (rv ρ r.v),w,?_, .inl rfl,by rw [h3]; exact hS,Keeps.refl _ _ _,fun _=>⟨h3,h4,rfl⟩⟩
  rw [h1,p8,h2]
  rfl
 unfold x0g at h
 simp only [w8] at h
 split at h
 ·rename_i x ho
  obtain⟨h1,h2,h3,h4⟩:=K4 h
  refine⟨.value (rv ρ r.v),w,?_, .inl rfl,by rw [h2]; exact hS,Keeps.refl _ _ _,fun _=>⟨h2,h4,rfl⟩⟩
  simp only [execOp,ho]
  rw [he x (by simp [ho,zO5]) _ h1]
  rfl
 ·rename_i x ho
  obtain⟨h1,h2,h3,h4⟩:=K4 h
  refine⟨.value (rv ρ r.v),w,?_, .inl rfl,by rw [h2]; exact hS,Keeps.refl _ _ _,fun _=>⟨h2,h4,rfl⟩⟩
  simp only [execOp,ho]
  rw [he x (by simp [ho,zO5]) _ h1]
  rfl
 ·rename_i t ho
  have hn:=hn' (by rw [ho]; rfl)
  split at h
  case h_2=>cases h
  rename_i z hz
  cases h
  obtain⟨hz1,hz2⟩:=gZ hz
  have hs:=pK hS hn hB t z
  rw [B1 ρ z hz2] at hs
  refine⟨.value (.pointer (some ⟨w.heap.size,0,none⟩)),_,?_, .inl (by simp [rv,r8,hn]),hs,n5 ((X1 _ _).alloc (d7 _) _) hB,fun hst=>by simp [ho,I3] at hst⟩
  simp only [execOp,ho,Instr.alloc,p8,hz1,r9,sK,S9]
 ·rename_i t x ho
  have hn:=hn' (by rw [ho]; rfl)
  split at h
  case h_2=>cases h
  rename_i v hv
  cases h
  have hs:=pK hS hn hB t v
  refine⟨.value (.pointer (some ⟨w.heap.size,0,none⟩)),_,?_, .inl (by simp [rv,r8,hn]),hs,n5 ((X1 _ _).alloc (d7 _) _) hB,fun hst=>by simp [ho,I3] at hst⟩
  simp only [execOp,ho,Instr.box,p8,sK,r9,S9]
  rw [he x (by simp [ho,zO5]) _ hv]
 ·rename_i t ps ho
  split at h
  case h_2=>cases h
  rename_i l hp
  obtain⟨h1,h2,h3,h4⟩:=K4 h
  have hps:=aJ (a:=a) (ρ:=ρ) ps.toList l (fun q hq=>he q.2 (by simp only [ho,zO5]; exact zzA43.2 ⟨q,hq,rfl⟩)) hp
  have hb:=f0f h1 ρ w
  have hpe:(ps.map fun p:Nat×Operand=>(p.1,a p.2))=(l.map fun p=>(p.1,rv ρ p.2)).toArray:=by
   rw [<- hps]
   apply gX
   simp
  refine still (v:=r.v) (s:=Instr.build t (ps.map fun p:Nat×Operand=>(p.1,a p.2))) (by simp only [execOp,ho]) ?_ h2 h4
  rw [hpe]
  exact hb
 ·rename_i t len ps ho
  have hn:=hn' (by rw [ho]; rfl)
  split at h
  case h_2=>cases h
  rename_i l hp
  split at h
  case h_2=>cases h
  rename_i e cs hbs
  cases h
  have hps:=aJ (a:=a) (ρ:=ρ) ps.toList l (fun q hq=>he q.2 (by simp only [ho,zO5]; exact zzA43.2 ⟨q,hq,rfl⟩)) hp
  have hb:=kW hbs ρ w
  have hpe:(ps.map fun p:Nat×Operand=>(p.1,a p.2))=(l.map fun p=>(p.1,rv ρ p.2)).toArray:=by
   rw [<- hps]
   apply gX
   simp
  have hs:Sim P B M ρ ((n, .cells cs e) ::H) (w.alloc (.cells (rvL ρ cs).toArray e)):=
   hS.new hn ⟨w.heap.size,rfl,c1r _ _, .inl hB⟩
  refine⟨.value (.slice (some ⟨w.heap.size,0,none⟩) len len),_,?_, .inl (by simp [rv,rSl,r8,hn]),hs,n5 ((X1 _ _).alloc (d7 _) _) hB,fun hst=>by simp [ho,I3] at hst⟩
  simp only [execOp,ho,p8]
  rw [hpe,hb]
  rfl
 ·rename_i t x ho
  split at h
  case h_2=>cases h
  rename_i v hv
  obtain⟨h1,h2,h3⟩:=R2 h
  refine still (v:=r.v) (s:=Instr.loadAt t (a x)) (by simp only [execOp,ho]) ?_ h2 h3
  rw [he x (by simp [ho,zO5]) _ hv]
  exact nU hS h1 hl
 ·rename_i t x y ho
  split at h
  case h_2=>cases h
  rename_i p v hp hv
  split at h
  ·rename_i H' l hst
   cases h
   obtain⟨w',h1,h2,h3⟩:=xO hS hst hl
   refine⟨.skip,w',?_, .inr ⟨rfl,dP ρ⟩,h2,h3,fun hst=>by simp [ho,I3] at hst⟩
   simp only [execOp,ho,p8]
   rw [he x (by simp [ho,zO5]) _ hp,he y (by simp [ho,zO5]) _ hv,h1]
   rfl
  split at h
  case h_2=>cases h
  rename_i H' hst
  cases h
  obtain⟨w',h1,h2,h3,_⟩:=Z2 hS hst
  refine⟨.skip,w',?_, .inr ⟨rfl,dP ρ⟩,h2,h3,fun hst=>by simp [ho,I3] at hst⟩
  simp only [execOp,ho,p8]
  rw [he x (by simp [ho,zO5]) _ hp,he y (by simp [ho,zO5]) _ hv,h1]
  rfl
 ·rename_i x ho
  split at h
  ·rename_i id off sp hv
   split at h
   case h_2=>cases h
   rename_i hk
   cases h
   obtain⟨b,hb⟩:=L8 hS hk
   refine⟨.value (rv ρ (.pointer (some ⟨id,off,sp⟩))),w,?_, .inl rfl,hS,Keeps.refl _ _ _,fun _=>⟨rfl,rfl,rfl⟩⟩
   simp only [execOp,ho]
   rw [he x (by simp [ho,zO5]) _ hv]
   simp only [rv,r8,hb,C8]
   rfl
  ·rename_i f c d hv
   cases h
   refine⟨.value (rv ρ (.func (.func f) c d)),w,?_, .inl rfl,hS,Keeps.refl _ _ _,fun _=>⟨rfl,rfl,rfl⟩⟩
   simp only [execOp,ho]
   rw [he x (by simp [ho,zO5]) _ hv]
   simp only [rv,rFn]
   rfl
  ·rename_i f c d hv
   cases h
   refine⟨.value (rv ρ (.func (.yield f) c d)),w,?_, .inl rfl,hS,Keeps.refl _ _ _,fun _=>⟨rfl,rfl,rfl⟩⟩
   simp only [execOp,ho]
   rw [he x (by simp [ho,zO5]) _ hv]
   simp only [rv,rFn]
   rfl
  ·cases h
 ·rename_i op t x y yt ho
  split at h
  case h_2=>cases h
  rename_i u v hu hv
  have bin:a1h H ds (i1j P auto op t x y u v)=some r->∃ nx w',(execOp a o).run P w= .ok nx w'∧lZ nx (rv ρ r.v)∧Sim P B M ρ r.h w'∧Keeps B M w w'∧(I3 o.op=true->r.h=H∧r.ds=ds∧w'=w):=fun h=>by
   obtain⟨h1,h2,h3⟩:=R2 h
   refine still (v:=r.v) (s:=do eqGuard op t x y (a x) (a y); binOp op t (a x) (a y)) (by simp only [execOp,ho]) ?_ h2 h3
   rw [he x (by simp [ho,zO5]) _ hu,he y (by simp [ho,zO5]) _ hv]
   exact o0x h1 hl ρ w
  split at h
  ·split at h
   ·rename_i z hz
    obtain⟨h1,h2,h3,h4⟩:=K4 h
    cases h1
    refine still (v:=r.v) (s:=do eqGuard op t x y (a x) (a y); binOp op t (a x) (a y)) (by simp only [execOp,ho]) ?_ h2 h4
    rw [he x (by simp [ho,zO5]) _ hu,he y (by simp [ho,zO5]) _ hv]
    exact r0z hS hz
   ·exact bin h
  ·split at h
   ·rename_i z hz
    obtain⟨h1,h2,h3,h4⟩:=K4 h
    cases h1
    refine still (v:=r.v) (s:=do eqGuard op t x y (a x) (a y); binOp op t (a x) (a y)) (by simp only [execOp,ho]) ?_ h2 h4
    rw [he x (by simp [ho,zO5]) _ hu,he y (by simp [ho,zO5]) _ hv]
    exact i0z ρ w hz
   ·exact bin h
 ·rename_i op t x ho
  split at h
  case h_2=>cases h
  rename_i u hu
  split at h
  case h_2=>cases h
  rename_i hp
  obtain⟨h1,h2,h3,h4⟩:=K4 h
  refine still (v:=r.v) (s:=Op.unary op (a x)) (by simp only [execOp,ho]) ?_ h2 h4
  rw [he x (by simp [ho,zO5]) _ hu,B1 ρ _ hp]
  exact V3 h1 ρ w
 ·rename_i s d x ho
  split at h
  case h_2=>cases h
  rename_i u hu
  split at h
  ·rename_i hp
   split at h
   ·rename_i v l hff
    cases h
    refine still (v:=v) (s:=convert s d (a x)) (by simp only [execOp,ho]) ?_ rfl rfl
    rw [he x (by simp [ho,zO5]) _ hu]
    exact z0o hff hl ρ w
   obtain⟨h1,h2,h3,h4⟩:=K4 h
   refine still (v:=r.v) (s:=convert s d (a x)) (by simp only [execOp,ho]) ?_ h2 h4
   rw [he x (by simp [ho,zO5]) _ hu,B1 ρ _ hp]
   exact V3 h1 ρ w
  ·split at h
   ·rename_i v l hb2
    cases h
    refine still (v:=v) (s:=convert s d (a x)) (by simp only [execOp,ho]) ?_ rfl rfl
    rw [he x (by simp [ho,zO5]) _ hu]
    exact o0o hS hb2 hl
   obtain⟨h1,h2,h3,h4⟩:=K4 h
   refine still (v:=r.v) (s:=convert s d (a x)) (by simp only [execOp,ho]) ?_ h2 h4
   rw [he x (by simp [ho,zO5]) _ hu]
   exact m0t hS h1
 ·rename_i t x ho
  split at h
  case h_2=>cases h
  rename_i u hu hc
  cases h
  refine still (v:=u) (s:=Instr.makeInterface t (a x)) (by simp only [execOp,ho]) ?_ rfl rfl
  rw [he x (by simp [ho,zO5]) _ hu]
  unfold k0d at hc
  simp only [w8] at hc
  split at hc
  ·cases hc
  ·cases hc
  ·rename_i d hni hd
   simp only [Instr.makeInterface,p8,T1 hd,r9,rv]
   cases d <;> first | (exact absurd rfl (hni _)) | rfl
 ·rename_i fn first cap ho
  split at h
  case h_2=>cases h
  rename_i l1 l2 h1 h2 h3
  cases h
  have e1:=u5 (a:=a) (ρ:=ρ) first.toList l1 (fun q hq=>he q (by simp only [ho,zO5,w0v]; exact w0h _ hq)) h1
  have e2:=u5 (a:=a) (ρ:=ρ) cap.toList l2 (fun q hq=>he q (by simp only [ho,zO5,w0v]; exact a0d _ hq)) h2
  refine still (v:= .nilIface) (s:=Instr.makeFunc fn (first.map a) (cap.map a)) (by simp only [execOp,ho]) ?_ rfl rfl
  have f1:first.map a=⟨rvL ρ l1⟩:=by apply gX; simpa using e1
  have f2:cap.map a=⟨rvL ρ l2⟩:=by apply gX; simpa using e2
  rw [f1,f2]
  simp [Instr.makeFunc,rv,rvA,i0a ρ fn h3]
 ·rename_i t x lo hi ho
  have memo:∀ (z:Operand),(some z=lo∨some z=hi)->z∈o.op.operands.toList:=by
   intro z hz
   simp only [ho,zO5]
   rcases hz with hz | hz <;> (rw [<- hz]; simp)
  have oo:∀ (z:Option Operand) (r:Option Value),(z=lo∨z=hi)->p2n ev z=some r->z.map a=r.map (rv ρ):=by
   intro z r hz hr
   cases z with
   | none=>simp only [p2n] at hr; cases hr; rfl
   | some z=>
    simp only [p2n] at hr
    split at hr
    ·rename_i v hv; cases hr; simp [he z (memo z hz) v hv]
    ·cases hr
  split at h
  ·rename_i s l hh hv hlo hhi hu
   obtain⟨h1,h2,h3⟩:=R2 h
   refine still (v:=r.v) (s:=Instr.sliceAt t (a x) (lo.map a) (hi.map a) none) (by simp only [execOp,ho,s0j]) ?_ h2 h3
   rw [he x (by simp [ho,zO5]) _ hv,oo lo l (.inl rfl) hlo,oo hi hh (.inr rfl) hhi]
   simp only [rv]
   exact wZ hu h1 hl ρ w
  ·rename_i a0 n0 c0 l hh e hv hlo hhi hu
   obtain⟨h1,h2,h3⟩:=R2 h
   refine still (v:=r.v) (s:=Instr.sliceAt t (a x) (lo.map a) (hi.map a) none) (by simp only [execOp,ho,s0j]) ?_ h2 h3
   obtain⟨b1,b2⟩:=k0i (ρ:=ρ) h1
   rw [he x (by simp [ho,zO5]) _ hv,oo lo l (.inl rfl) hlo,oo hi hh (.inr rfl) hhi,b1,b2]
   exact wD hS h1 hl hu
  ·rename_i id off l hh len e hv hlo hhi hu
   obtain⟨h1,h2,h3⟩:=R2 h
   refine still (v:=r.v) (s:=Instr.sliceAt t (a x) (lo.map a) (hi.map a) none) (by simp only [execOp,ho,s0j]) ?_ h2 h3
   obtain⟨b1,b2⟩:=k0o (ρ:=ρ) h1
   rw [he x (by simp [ho,zO5]) _ hv,oo lo l (.inl rfl) hlo,oo hi hh (.inr rfl) hhi,b1,b2]
   exact xX hS h1 hl hu
  ·cases h
 ·rename_i t len cap ho
  have hn:=hn' (by rw [ho]; rfl)
  split at h
  case h_2=>cases h
  rename_i kl l kc c hlen hcap
  split at h
  case h_2=>cases h
  rename_i e cs ob hm
  cases h
  obtain⟨m1,m2⟩:=i0s hm hl kl kc w
  have hs:Sim P B M ρ ((n, .cells cs e) ::H) (w.alloc (.cells cs.toArray e)):=hS.new hn ⟨w.heap.size,rfl,by rw [c1r,m2], .inl hB⟩
  refine⟨.value (.slice (some ⟨w.heap.size,0,none⟩) l.toNat c.toNat),_,?_, .inl (by simp [rv,rSl,r8,hn]),hs,n5 ((X1 _ _).alloc (d7 _) _) hB,fun hst=>by simp [ho,I3] at hst⟩
  simp only [execOp,ho]
  rw [he len (by simp [ho,zO5]) _ hlen,he cap (by simp [ho,zO5]) _ hcap]
  simp only [rv]
  rw [p8,m1]
  rfl
 ·rename_i s x f ho
  split at h
  case h_2=>cases h
  rename_i u hu
  obtain⟨h1,h2,h3,h4⟩:=K4 h
  refine still (v:=r.v) (s:=Instr.fieldAt s (a x) f) (by simp only [execOp,ho]) ?_ h2 h4
  rw [he x (by simp [ho,zO5]) _ hu]
  exact mM hS h1
 ·rename_i t x f ho
  split at h
  case h_2=>cases h
  rename_i u hu
  obtain⟨h1,h2,h3,h4⟩:=K4 h
  refine still (v:=r.v) (s:=Instr.field t (a x) f) (by simp only [execOp,ho]) ?_ h2 h4
  rw [he x (by simp [ho,zO5]) _ hu]
  exact f0s h1 ρ w
 ·rename_i t x ix ho
  split at h
  case h_2=>cases h
  rename_i u v hu hv
  obtain⟨h1,h2,h3⟩:=R2 h
  refine still (v:=r.v) (s:=Instr.indexAt t (a x) (a ix)) (by simp only [execOp,ho]) ?_ h2 h3
  rw [he x (by simp [ho,zO5]) _ hu,he ix (by simp [ho,zO5]) _ hv]
  exact lS hS h1 hl
 ·rename_i t x ix ho
  split at h
  case h_2=>cases h
  rename_i u v hu hv
  obtain⟨h1,h2,h3⟩:=R2 h
  refine still (v:=r.v) (s:=Instr.index t (a x) (a ix)) (by simp only [execOp,ho]) ?_ h2 h3
  rw [he x (by simp [ho,zO5]) _ hu,he ix (by simp [ho,zO5]) _ hv]
  exact d0y h1 hl ρ w
 ·rename_i x i ho
  split at h
  case h_2=>cases h
  rename_i u hu
  obtain⟨h1,h2,h3,h4⟩:=K4 h
  refine still (v:=r.v) (s:=Instr.extract (a x) i) (by simp only [execOp,ho]) ?_ h2 h4
  rw [he x (by simp [ho,zO5]) _ hu]
  exact uM h1 ρ w
 ·cases h
end
noncomputable section
def F1 (j:Nat):Heap->Heap
 | [] =>[]
 | (i,o) ::r=>match zO0 i j with
  | true=>F1 j r
  | false=>(i,o) ::F1 j r
theorem G7 (j:Nat):∀ (H:Heap) (i:Nat) (o:AObj),(F1 j H).get i=some o->H.get i=some o∧i≠j
 | [],i,o,h=>by simp [F1,Heap.get] at h
 | (k,q) ::r,i,o,h=>by
  unfold F1 at h
  split at h
  ·rename_i hk
   have hk:=S6 hk
   subst hk
   obtain⟨h1,h2⟩:=G7 k r i o h
   rw [a8,a6 (fun e=>h2 e.symm)]
   exact⟨h1,h2⟩
  ·rename_i hk
   rw [a8] at h ⊢
   split at h
   ·rename_i e; subst e
    refine⟨by rw [b9 rfl]; exact h,fun e=> ?_⟩
    rw [e,e0x] at hk
    cases hk
   ·rename_i e
    obtain⟨h1,h2⟩:=G7 j r i o h
    exact⟨by rw [a6 e]; exact h1,h2⟩
theorem M6 (j:Nat):∀ (H:Heap) (i:Nat),i≠j->(F1 j H).get i=H.get i
 | [],_,_=>rfl
 | (k,q) ::r,i,hi=>by
  unfold F1
  split
  ·rename_i hk
   have hk:=S6 hk
   subst hk
   rw [a8,a6 (fun e=>hi e.symm)]
   exact M6 k r i hi
  ·rw [a8,a8,M6 j r i hi]
def iQ (k:IntKind):List Value->Option (List Int)
 | [] =>some []
 | v ::r=>match v with
  | .int k' n=>if k'=k then (match iQ k r with
   | some l=>some (n ::l)
   | none=>none) else none
  | _=>none
theorem M4 {k:IntKind} :∀ {vs:List Value} {l:List Int},iQ k vs=some l->vs=l.map (zO3 k)
 | [],l,h=>by simp only [iQ] at h; cases h; rfl
 | v ::r,l,h=>by
  simp only [iQ] at h
  split at h
  ·split at h
   ·rename_i hk
    subst hk
    split at h
    ·rename_i l' hl
     cases h
     rw [M4 hl]
     rfl
    ·cases h
   ·cases h
  ·cases h
def u0h (r:Row) (news:List Value):Option Row:=
 match r with
 | .vals xs=>some (.vals (xs++news))
 | .ints k ns=>match iQ k news with
  | some l=>some (.ints k (ns++l))
  | none=>none
 | .fam f n=>some (.fam f (n+1))
 | .bytes _=>none
def f2c (r:Row) (news:List Value) (l:List Prop):List Prop:=
 match r with
 | .fam f n=>((f n).map vC=news) ::l
 | _=>l
theorem uL {r r':Row} {news:List Value} {l:List Prop} (h:u0h r news=some r') (hl:d9 (f2c r news l)):r'.list=r.list++news∧d9 l:=by
 unfold u0h at h
 split at h
 ·cases h; exact⟨rfl,hl⟩
 ·split at h
  ·rename_i l hl'
   cases h
   rw [M4 hl']
   exact⟨by simp [Row.list],hl⟩
  ·cases h
 ·cases h
  rw [<- hl.1]
  exact⟨rfl,hl.2⟩
 ·cases h
def c0o (news:List Value):Row:=
 match news with
 | .int k _ ::_=>match iQ k news with
  | some l=> .ints k l
  | none=> .vals news
 | _=> .vals news
theorem nT (news:List Value):(c0o news).list=news:=by
 unfold c0o
 split
 ·split
  ·rename_i l hl; rw [Row.list]; exact (M4 hl).symm
  ·rfl
 ·rfl
def X8:List UInt8->List Int
 | [] =>[]
 | b ::r=>zO2 b.toNat ::X8 r
theorem rR (l:List UInt8):X8 l=l.map fun b=>zO2 b.toNat:=by
 induction l with
 | nil=>rfl
 | cons b r ih=>simp [X8,ih]
def Y6:List UInt8->List Value
 | [] =>[]
 | b ::r=> .int .u8 b.toNat ::Y6 r
theorem E8 (l:List UInt8):Y6 l=l.map fun b=>zO3 .u8 b.toNat:=by
 induction l with
 | nil=>rfl
 | cons b r ih=>simp [Y6,ih]
def X3 (H:Heap) (sz:Nat) (x:Value):Option (Nat×List Value):=
 match x with
 | .slice (some ⟨p,o,_⟩) m _=>match cP H p o (m*sz) with
  | some cs=>match cs.all p1t && zO1 0 m with
   | true=>some (m,cs)
   | false=>none
  | none=>none
 | .string s=>match zO0 sz 1 && zO1 0 s.data.toList.length with
  | true=>some (s.data.toList.length,Y6 s.data.toList)
  | false=>none
 | _=>none
theorem sR {H:Heap} {sz m:Nat} {s:ByteArray} {news:List Value} (h:X3 H sz (.string s)=some (m,news)):news=Y6 s.data.toList:=by
 simp only [X3] at h
 split at h
 ·cases h; rfl
 ·cases h
def q0m (r:Row) (x:Value) (news:List Value):Option Row:=
 match x with
 | .string s=>match r with
  | .ints .u8 ns=>some (.ints .u8 (ns++X8 s.data.toList))
  | .bytes l=>some (.bytes (l++s.data.toList))
  | r=>u0h r news
 | _=>u0h r news
theorem iA (l:List UInt8):(X8 l).map (zO3 .u8)=Y6 l:=by
 rw [rR,E8,List.map_map]
 rfl
theorem l0x {H:Heap} {sz m:Nat} {x:Value} {r r':Row} {news:List Value} {l:List Prop} (hn:X3 H sz x=some (m,news)) (h:q0m r x news=some r') (hl:d9 (f2c r news l)):r'.list=r.list++news∧d9 l:=by
 unfold q0m at h
 split at h
 ·rename_i s
  obtain rfl:=sR hn
  split at h
  ·cases h
   refine⟨?_,hl⟩
   simp only [Row.list,jK,iA]
  ·cases h
   refine⟨?_,hl⟩
   simp only [Row.list,jK,E8]
  ·exact uL h hl
 ·exact uL h hl
def t0a (x:Value) (news:List Value):Row:=
 match x with
 | .string s=> .ints .u8 (X8 s.data.toList)
 | _=>c0o news
theorem h0j {H:Heap} {sz m:Nat} {x:Value} {news:List Value} (hn:X3 H sz x=some (m,news)):(t0a x news).list=news:=by
 unfold t0a
 split
 ·rename_i s
  obtain rfl:=sR hn
  exact iA _
 ·exact nT news
def m0z (x:Value):Bool:=
 match x with
 | .slice none 0 _=>true
 | .slice (some ⟨_,_,none⟩) 0 _=>true
 | .string s=>zO0 s.data.toList.length 0
 | _=>false
def r2g (d:TypeDesc):Bool:=
 match d with
 | .slice _=>true
 | .string=>true
 | _=>false
def g1h:Row->Nat
 | .vals xs=>xs.length
 | .ints _ ns=>ns.length
 | .fam f n=>(qS f n).length
 | .bytes l=>l.length
theorem j1t (r:Row):g1h r=r.list.length:=by cases r <;> simp [g1h,Row.list]
def T9 (P:Program) (auto:Bool) (ts:List TypeId) (H:Heap) (n:Nat) (args:List Value):Option (Value×Heap×List Prop):=
 match ts,args with
 | [t,t2],[s,x] =>match W0 P t,W0 P t2 with
  | some (.slice e),some d=>match r2g d,fQ P e with
   | true,some i=>match i.zero with
    | none=>none
    | some z=>match zO1 0 i.size && zO0 z.cells.size i.size,X3 H i.size x with
     | true,some (m,news)=>match s with
      | .slice none 0 0=>match N3 auto (m*i.bytes<=140737488355328∧m<=9223372036854775807) with
       | some l=>some (.slice (some ⟨n,0,some (n+1)⟩) m 0,(n, .row e i.size (t0a x news) (n+1)) ::H,l)
       | none=>none
      | .slice (some ⟨j,0,some k⟩) n0 0=>match H.get j with
       | some (.row e' sz r k')=>match zO0 e' e && zO0 sz i.size && zO0 k' k,q0m r x news,N3 auto (n0*i.size=g1h r∧(n0+m)*i.bytes<=140737488355328∧n0+m<=9223372036854775807) with
        | true,some r',some l=>some (.slice (some ⟨n,0,some (n+1)⟩) (n0+m) 0,(n, .row e i.size r' (n+1)) ::F1 j H,f2c r news l)
        | _,_,_=>none
       | _=>none
      | .slice (some ⟨j,off,none⟩) n0 c=>match H.get j with
       | some (.cells cs e')=>match Nat.ble (n0+m) c with
        | true=>match Nat.ble (off+n0*i.size+news.length) cs.length with
         | true=>some (.slice (some ⟨j,off,none⟩) (n0+m) c,H.set j (.cells (cs.take (off+n0*i.size)++news++cs.drop (off+n0*i.size+news.length)) e'),[])
         | false=>none
        | false=>match Nat.ble (off+n0*i.size) cs.length,N3 auto ((n0+m)*i.bytes<=140737488355328∧n0+m<=9223372036854775807∧c<=n0+m) with
         | true,some l=>some (.slice (some ⟨n,0,some (n+1)⟩) (n0+m) 0,(n, .row e i.size (c0o (((cs.drop off).take (n0*i.size))++news)) (n+1)) ::H,l)
         | _,_=>none
       | _=>none
      | _=>none
     | true,none=>match m0z x with
      | true=>match s with
       | .slice none 0 0=>some (s,H,[])
       | .slice (some ⟨_,_,none⟩) n0 c=>match Nat.ble n0 c with
        | true=>some (s,H,[])
        | false=>none
       | _=>none
      | false=>none
     | _,_=>none
   | _,_=>none
  | _,_=>none
 | _,_=>none
def d1v:Builtin->Bool
 | .append=>true
 | _=>false
theorem yY {b:Builtin} (h:d1v b=true):b= .append:=by
 cases b <;> first | rfl | (cases h; done)
theorem ORep.same {B:Nat} {M:Nat->Prop} {ρ:Num} {w w':World} {ob:Option Nat} {o:AObj} (h:ORep B M ρ w ob o) (hb:∀ b,ob=some b->w'.heap[b]? =w.heap[b]?):ORep B M ρ w' ob o:=by
 cases o with
 | row e sz r k=>
  rcases h with h | ⟨b,cap,cur,h1,h2,h3,h4⟩
  ·exact .inl h
  ·exact .inr ⟨b,cap,cur,h1,h2,h3.to (hb b h1),h4⟩
 | cells cs t=>obtain⟨b,h1,h2,h3⟩:=h; exact⟨b,h1,(hb b h1).trans h2,h3⟩
 | iter s pos=>obtain⟨b,h1,h2,h3⟩:=h; exact⟨b,h1,(hb b h1).trans h2,h3⟩
 | ints k xs=>
  rcases h with h | ⟨b,cs,t,fr,h1,h2,h3⟩
  ·exact .inl h
  ·exact .inr ⟨b,cs,t,fr,h1,(hb b h1).trans h2,h3⟩
 | loop st pn ts ps asg bd=>obtain⟨b,r,h1,h2,h3⟩:=h; exact⟨b,r,h1,(hb b h1).trans h2,h3⟩
 | defr=>obtain⟨b,h1,h2,h3⟩:=h; exact⟨b,h1,(hb b h1).trans h2,h3⟩
 | dead=>obtain⟨b,o,h1,h2,h3⟩:=h; exact⟨b,o,h1,(hb b h1).trans h2,h3⟩
 | ro xs=>
  rcases h with h | ⟨b,cs,t,fr,h1,h2,h3⟩
  ·exact .inl h
  ·exact .inr ⟨b,cs,t,fr,h1,(hb b h1).trans h2,h3⟩
 | map es=>obtain⟨b,mes,ck,h1,h2,h3⟩:=h; exact⟨b,mes,ck,h1,(hb b h1).trans h2,h3⟩
 | fam f n sz o=>
  rcases h with h | ⟨b,cs,t,fr,h1,h2,h3⟩
  ·exact .inl h
  ·exact .inr ⟨b,cs,t,fr,h1,(hb b h1).trans h2,h3⟩
theorem Sim.row {P:Program} {B:Nat} {M:Nat->Prop} {ρ:Num} {H H':Heap} {w w':World} (h:Sim P B M ρ H w) {n g cap:Nat} {e:TypeId} {sz:Nat} {r:Row} {cur:Array Value}
  (hH:∀ i o,i≠n->H'.get i=some o->H.get i=some o∧ρ i≠some g) (hn:ρ n=some g) (hc:ρ (n+1)=some cap) (hg:RowAt w' g cur e) (hB:B<=g∨M g) (hcm:cap<=maxLen) (hcs:cur.size=cap*sz)
  (hln:r.list.length<=cap*sz) (htake:cur.toList.take r.list.length=rvL ρ r.list) (hk:∀ k,k < w.heap.size->k≠g->w'.heap[k]? =w.heap[k]?):Sim P B M ρ ((n, .row e sz r (n+1)) ::H') w':=by
 refine⟨h.glob,fun i o hi=> ?_,fun i j oi oj hi hr hj hij hne=> ?_⟩
 ·rw [a8] at hi
  split at hi
  ·rename_i e; subst e; cases hi
   rw [hn]
   exact .inr ⟨g,cap,cur,rfl,hc,hg,hB,hcm,hcs,hln,htake⟩
  ·rename_i hni
   obtain⟨h1,h2⟩:=hH i o (fun e=>hni e.symm) hi
   have ho:=h.obj i o h1
   refine ho.same fun b hb=>hk b ?_ (fun e=>h2 (by rw [hb,e]))
   rw [hb] at ho
   exact ho.lt
 ·rw [a8] at hi hj
  split at hi <;> split at hj
  ·rename_i e1 e2; exact absurd (e1.symm.trans e2) hij
  ·rename_i e1 e2; subst e1
   intro e
   exact (hH j oj (fun e=>e2 e.symm) hj).2 (by rw [<- e,hn])
  ·rename_i e1 e2; subst e2
   intro e
   exact (hH i oi (fun e=>e1 e.symm) hi).2 (by rw [e,hn])
  ·rename_i e1 e2
   exact h.inj i j oi oj (hH i oi (fun e=>e1 e.symm) hi).1 hr (hH j oj (fun e=>e2 e.symm) hj).1 hij hne
theorem zS (ρ:Num) (l:List UInt8):rvL ρ (Y6 l)=Y6 l:=rvL_pure ρ _ (by rw [C9,E8]; simp [z7])
theorem nS {P:Program} {B:Nat} {M:Nat->Prop} {ρ:Num} {H:Heap} {w:World} (hS:Sim P B M ρ H w) {sz:Nat} {x:Value} {m:Nat} {news:List Value} (h:X3 H sz x=some (m,news)) {tx:TypeId} {d:TypeDesc} (ht:P.underlying tx=some d) (hd:r2g d=true):
  Src P sz tx (rv ρ x) m (rvL ρ news) w∧0 < m:=by
 have hk:(∃ e',P.underlying tx=some (.slice e'))∨P.underlying tx=some .string:=by
  unfold r2g at hd
  split at hd
  ·exact .inl ⟨_,ht⟩
  ·exact .inr ht
  ·cases hd
 unfold X3 at h
 split at h
 ·rename_i p o sp m' c
  split at h
  case h_2=>cases h
  rename_i cs hcs
  split at h
  case h_2=>cases h
  rename_i hc
  cases h
  simp only [x5,D1,zzA10] at hc
  obtain⟨h2,h3⟩:=hc
  obtain⟨b,hb,hlen,hcell⟩:=aA hS hcs
  have hrv:∃ c',rv ρ (.slice (some ⟨p,o,sp⟩) m c)= .slice (some ⟨b,o,none⟩) m c':=by
   cases sp with
   | none=>exact⟨c,by simp [rv,rSl,r8,hb]⟩
   | some k=>exact⟨_,by simp [rv,rSl,hb]; rfl⟩
  obtain⟨c',hrv⟩:=hrv
  have hone:∀ u∈rvL ρ news,u.oneCell'=true:=fun u hu=>by
   rw [l9] at hu
   obtain⟨u0,hu0,rfl⟩:=zzA43.1 hu
   exact g0m ρ u0 (h2 u0 hu0)
  have hl:(rvL ρ news).length=m*sz:=by rw [l9,B9]; exact hlen
  rw [hrv]
  have hnews:∀ j u,(rvL ρ news)[j]? =some u->w.cell? ((⟨b,o,none⟩:Addr).add j)=some u:=fun j u hj=>by rw [o8]; exact hcell j u hj
  exact⟨⟨hk,fun _=>rfl,yS w sz m _ m c' _ hl hnews,yS w.drew sz m _ m c' _ hl (by simpa using hnews),hl,hone⟩,h3⟩
 ·rename_i s
  split at h
  case h_2=>cases h
  rename_i hc
  simp only [x5,y8,D1] at hc
  obtain⟨h1,h2⟩:=hc
  subst h1
  cases h
  rw [zS]
  have hb:Y6 s.data.toList=byteCells s:=E8 _
  have hsz:s.data.toList.length=s.size:=by rw [cT]; rfl
  rw [hb,hsz]
  have he:rv ρ (.string s)= .string s:=by simp [rv]
  rw [he]
  refine⟨⟨hk,fun _=>rfl,firstCells_string s w,firstCells_string s w.drew,by rw [byteCells_length,s4],fun u hu=> ?_⟩,by rw [<- hsz]; exact h2⟩
  obtain⟨_,_,rfl⟩:=zzA43.1 hu
  rfl
 ·cases h
theorem Q7 {P:Program} (w:World) (t tx ty e e2:TypeId) (i:TypeInfo) (ht:P.underlying t=some (.slice e)) (hi:P.info? e=some i) (g off sLen sCap:Nat) (cur:Array Value) (hg:RowAt w g cur e2)
  (x:Value) (m:Nat) (news:List Value) (hs:Src P i.size tx x m news w) (hroom:sLen+m<=sCap) (hfit:off+sLen*i.size+news.length<=cur.size):
  (Builtin.append_ #[t,tx] ty #[.slice (some ⟨g,off,none⟩) sLen sCap,x]).run P w=
   .ok (.slice (some ⟨g,off,none⟩) (sLen+m) sCap) (w.setRow g (cur.toList.take (off+sLen*i.size)++news++cur.toList.drop (off+sLen*i.size+news.length)).toArray):=by
 have hst:=D0 P g (off+sLen*i.size) e2 news 0 cur w hg (by simpa using hfit) hs.one
 simp only [E4] at hst
 rcases hs.kind with ⟨e',hk⟩ | hk <;> simp [Builtin.append_,run_underlying ht,run_underlying hk,sizeOf,typeInfo,hi,hs.len,hroom,hs.cells,Addr.add_lit,hst]
theorem uP {P:Program} (w:World) (t tx ty e:TypeId) (i:TypeInfo) (ht:P.underlying t=some (.slice e)) (hi:P.info? e=some i) (hk:(∃ e',P.underlying tx=some (.slice e'))∨P.underlying tx=some .string) (base:Option Addr) (sLen sCap:Nat)
  (x:Value) (hl:∀ w':World,(Builtin.lenOf x).run P w'= .ok 0 w') (hc:(Builtin.firstCells i.size 0 x).run P w= .ok #[] w) (hroom:sLen<=sCap):
  (Builtin.append_ #[t,tx] ty #[.slice base sLen sCap,x]).run P w= .ok (.slice base sLen sCap) w:=by
 rcases hk with ⟨e',hk⟩ | hk <;> cases base <;> simp [Builtin.append_,run_underlying ht,run_underlying hk,sizeOf,typeInfo,hi,hl,hroom,hc,storeCells]
theorem m0c {P:Program} {ρ:Num} {w:World} {sz:Nat} {x:Value} (h:m0z x=true):(∀ w':World,(Builtin.lenOf (rv ρ x)).run P w'= .ok 0 w')∧(Builtin.firstCells sz 0 (rv ρ x)).run P w= .ok #[] w:=by
 unfold m0z at h
 split at h
 ·simp only [rv]
  exact⟨fun _=>rfl,m0s w sz 0 0 _⟩
 ·rename_i p o c
  simp only [rv,rSl,r8]
  cases ρ p with
  | none=>exact⟨fun _=>rfl,m0s w sz 0 0 _⟩
  | some b=>exact⟨fun _=>rfl,yS w sz 0 ⟨b,o,none⟩ 0 c [] (by simp) (fun j u hj=>by simp at hj)⟩
 ·rename_i s
  have h:=S6 h
  have hsz:s.size=0:=by rw [<- h,cT]; rfl
  simp only [rv]
  refine⟨fun _=>by simp [Builtin.lenOf,hsz],?_⟩
  simp [Builtin.firstCells]
 ·cases h
theorem Q5 (ρ:Num) (a b:List Value):rvL ρ (a++b)=rvL ρ a++rvL ρ b:=by simp [l9]
theorem f1s {w:World} {e:TypeId} {z:Value} {sz N3 old:Nat} (hz:z.cells.size=sz) {olds news:List Value} (hl:(olds++news).length=N3*sz) (hm:N3<=maxLen):
  ∃ cur:Array Value,cur=olds.toArray++news.toArray++Builtin.zeroCells z.cells (grownCap w N3 old e-N3)∧cur.size=grownCap w N3 old e*sz∧grownCap w N3 old e<=maxLen∧N3<=grownCap w N3 old e∧cur.toList.take (olds++news).length=olds++news:=by
 have hge:=grownCap_ge w N3 old e
 refine⟨_,rfl,?_,grownCap_le_maxLen w N3 old e hm,hge,?_⟩
 ·have:olds.length+news.length=N3*sz:=by rw [<- s9]; exact hl
  simp only [Array.size_append,b1o,size_zeroCells,hz,this,<- u4]
  congr 1
  omega
 ·simp only [w0v]
  exact fM
theorem bK {P:Program} {auto:Bool} {ts:List TypeId} {H H':Heap} {n:Nat} {args:List Value} {v:Value} {l:List Prop} (h:T9 P auto ts H n args=some (v,H',l)) (hl:d9 l)
  {B:Nat} {M:Nat->Prop} {F:Num->Prop} {ρ:Num} (hF:F ρ) {w:World} (hB:B<=w.heap.size) (hS:∀ ρ',F ρ'->Sim P B M ρ' H w) (hA:∀ ρ',F ρ'->rvL ρ' args=rvL ρ args) (ty:TypeId):
  ∃ v' w' bn bk,(Builtin.append_ ts.toArray ty (rvL ρ args).toArray).run P w= .ok v' w'∧Keeps B M w w'∧∀ ρ',F ρ'->ρ' n=bn->ρ' (n+1)=bk->v'=rv ρ' v∧Sim P B M ρ' H' w':=by
 unfold T9 at h
 simp only [w8,x6] at h
 split at h
 case h_2=>cases h
 rename_i t t2 s x
 split at h
 case h_2=>cases h
 rename_i e d hu hu2
 split at h
 case h_2=>cases h
 rename_i i hd hi
 split at h
 ·cases h
 rename_i z hz
 have hs2:∀ ρ',F ρ'->rv ρ' s=rv ρ s∧rv ρ' x=rv ρ x:=fun ρ' ha=>by
  have:=hA ρ' ha
  simp only [rvL,R5,K2] at this
  exact this
 have hkind:(∃ e',P.underlying t2=some (.slice e'))∨P.underlying t2=some .string:=by
  unfold r2g at hd
  split at hd
  ·exact .inl ⟨_,hu2⟩
  ·exact .inr hu2
  ·cases hd
 split at h
 case h_3=>cases h
 case h_2=>
  split at h
  case h_2=>cases h
  rename_i hnn
  obtain⟨q1,q2⟩:=m0c (P:=P) (ρ:=ρ) (w:=w) (sz:=i.size) hnn
  have fin:∀ base sLen sCap,rv ρ s= .slice base sLen sCap->sLen<=sCap->∃ v' w' bn bk,(Builtin.append_ #[t,t2] ty (rvL ρ [s,x]).toArray).run P w= .ok v' w'∧Keeps B M w w'∧∀ ρ',F ρ'->ρ' n=bn->ρ' (n+1)=bk->v'=rv ρ' s∧Sim P B M ρ' H w':=by
   intro base sLen sCap hs hle
   refine⟨rv ρ s,w,ρ n,ρ (n+1),?_,Keeps.refl _ _ _,fun ρ' ha _ _=> ?_⟩
   ·have:=uP (P:=P) w t t2 ty e i hu hi hkind base sLen sCap (rv ρ x) q1 q2 hle
    simp only [rvL,hs]
    exact this
   ·exact⟨(hs2 ρ' ha).1.symm,hS ρ' ha⟩
  split at h
  ·cases h
   exact fin none 0 0 (by simp [rv]) (d7 _)
  ·rename_i j off n0 c
   split at h
   case h_2=>cases h
   rename_i hle
   cases h
   exact fin _ n0 c (by simp [rv,rSl]; rfl) (iU hle)
  ·cases h
 rename_i m news hsz hnews
 simp only [x5,D1,y8] at hsz
 obtain⟨hpos,hzs⟩:=hsz
 obtain⟨hsrc,hm⟩:=nS (hS ρ hF) hnews hu2 hd
 have hsame:∀ ρ',F ρ'->rvL ρ' news=rvL ρ news:=by
  intro ρ' ha
  obtain⟨hsrc',_⟩:=nS (hS ρ' ha) hnews hu2 hd
  have h1:=hsrc'.cells
  rw [(hs2 ρ' ha).2,hsrc.cells] at h1
  injection h1 with h1
  have:=H5 Array.toList h1
  simpa using this.symm
 have hnl:=hsrc.newsLen
 have fresh:∀ (N old:Nat) (rl:List Value) (r':Row) (H2:Heap),r'.list=rl++news->(∀ ρ',F ρ'->rvL ρ' rl=rvL ρ rl)->(rvL ρ rl++rvL ρ news).length=N*i.size->N<=maxLen->(∀ i o,H2.get i=some o->H.get i=some o)->
   (Builtin.append_ #[t,t2] ty (rvL ρ [s,x]).toArray).run P w= .ok (.slice (some ⟨w.heap.size,0,none⟩) N (grownCap w N old e)) (w.drew.alloc (.cells ((rvL ρ rl++rvL ρ news).toArray++Builtin.zeroCells z.cells (grownCap w N old e-N)) e))->
   ∃ v' w' bn bk,(Builtin.append_ #[t,t2] ty (rvL ρ [s,x]).toArray).run P w= .ok v' w'∧Keeps B M w w'∧∀ ρ',F ρ'->ρ' n=bn->ρ' (n+1)=bk->v'=rv ρ' (.slice (some ⟨n,0,some (n+1)⟩) N 0)∧Sim P B M ρ' ((n, .row e i.size r' (n+1)) ::H2) w':=by
  intro N old rl r' H2 hr' hrl hlen hN hH2 hrun
  have hcat:(rvL ρ rl++rvL ρ news).toArray=(rvL ρ rl).toArray++(rvL ρ news).toArray:=by simp
  rw [hcat] at hrun
  obtain⟨cur,hcur,hcs,hcm,hge,htake⟩:=f1s (w:=w) (e:=e) (z:=z) (old:=old) hzs hlen hN
  rw [<- hcur] at hrun
  refine⟨_,_,some w.heap.size,some (grownCap w N old e),hrun,⟨rfl,rfl,rfl,by simp,fun k hk _=>heap_alloc_old w.drew _ (by simpa using E3 hk hB)⟩,fun ρ' ha0 g1 g2=> ?_⟩
  refine⟨by simp [rv,rSl,g1,g2],Sim.row (hS ρ' ha0) (fun i o _ hi=> ?_) g1 g2 (.of (c1r w.drew _)) (.inl hB) hcm hcs ?_ ?_ (fun k hk _=>heap_alloc_old w.drew _ (by simpa using hk))⟩
  ·refine⟨hH2 i o hi,fun e=> ?_⟩
   have:=(hS ρ' ha0).obj i o (hH2 i o hi)
   rw [e] at this
   exact absurd this.lt (o0w _)
  ·have e1:r'.list.length=N*i.size:=by rw [hr',<- hlen]; simp [l9]
   rw [e1]
   exact o9 _ hge
  ·rw [hr',Q5,hrl ρ' ha0,hsame ρ' ha0]
   have e1:(rl++news).length=(rvL ρ rl++rvL ρ news).length:=by simp [l9]
   rw [e1]
   exact htake
 split at h
 ·
  split at h
  case h_2=>cases h
  rename_i l' hneed
  cases h
  obtain⟨q1,q2⟩:=j0 hneed hl
  refine fresh m 0 [] _ H (h0j hnews) (fun _ _=>rfl) (by simpa [rvL] using hnl) (by unfold maxLen; omega) (fun _ _ h=>h) ?_
  have:=run_append_grow_src (P:=P) w t t2 ty e i z hu hi hz none 0 0 [] (m0s w.drew i.size 0 0 0) (rv ρ x) m (rvL ρ news) hsrc (by omega) (by omega) (growslice_fits (by omega) (by simpa using q1))
  simp only [rvL,rv,Q6,nM] at this ⊢
  exact this
 ·rename_i j k n0
  split at h
  case h_2=>cases h
  rename_i e' sz r k' hget
  split at h
  case h_2=>cases h
  rename_i r' l' hck hadd hneed
  cases h
  simp only [x5,y8] at hck
  obtain⟨⟨c1,c2⟩,c3⟩:=hck
  subst c1 c2 c3
  obtain⟨hr',hl⟩:=l0x hnews hadd hl
  obtain⟨q1,q2,q3⟩:=j0 hneed hl
  rw [j1t] at q1
  have hdel:∀ i o,(F1 j H).get i=some o->H.get i=some o:=fun i o hh=>(G7 j H i o hh).1
  have hss:∀ ρ',F ρ'->rv ρ' (.slice (some ⟨j,0,some k'⟩) n0 0)=rv ρ (.slice (some ⟨j,0,some k'⟩) n0 0):=fun ρ' ha=>(hs2 ρ' ha).1
  have hob:=(hS ρ hF).obj j _ hget
  rcases hob with ⟨hj,hlist⟩ | ⟨b,cap,cur,hb,hcap,hcells,hbB,hcm,hcs,hln,htake⟩
  ·
   have hn0:n0=0:=by
    rw [hlist] at q1
    simp only [mE] at q1
    rcases F2 n0 with h0 | h0
    ·exact h0
    ·have:=c1a h0 hpos
     omega
   subst hn0
   rw [Q6] at q2 q3 ⊢
   refine fresh m 0 [] r' _ (by rw [hr',hlist]) (fun _ _=>rfl) (by simpa [rvL] using hnl) (by unfold maxLen; omega) hdel ?_
   have:=run_append_grow_src (P:=P) w t t2 ty e' i z hu hi hz none 0 0 [] (m0s w.drew i.size 0 0 0) (rv ρ x) m (rvL ρ news) hsrc (by omega) (by omega) (growslice_fits (by omega) (by simpa using q2))
   simp only [rvL,rv,rSl,hj,Q6,nM] at this ⊢
   exact this
  ·have hnews':∀ ρ',F ρ'->ρ' j=some b:=fun ρ' ha=>by
    have:=hss ρ' ha
    simp only [rv,rSl,hb] at this
    split at this
    ·cases this
    ·rename_i b' hb'
     simp only [Value.slice.injEq,L3,Addr.mk.injEq,K2,true_and] at this
     rw [hb',this.1]
   have hrl:∀ ρ',F ρ'->rvL ρ' r.list=rvL ρ r.list:=fun ρ' ha=>by
    rcases (hS ρ' ha).obj j _ hget with ⟨h1,_⟩ | ⟨b',cap',cur',h1,_,h3,_,_,_,_,h8⟩
    ·rw [hnews' ρ' ha] at h1; cases h1
    ·rw [hnews' ρ' ha] at h1
     cases h1
     obtain⟨_,hc1,_⟩:=hcells
     obtain⟨_,hc2,_⟩:=h3
     rw [hc1] at hc2
     cases hc2
     rw [<- h8,htake]
   have hs:rv ρ (.slice (some ⟨j,0,some k'⟩) n0 0)= .slice (some ⟨b,0,none⟩) n0 cap:=by simp [rv,rSl,hb,hcap]
   have hlen:(rvL ρ r.list).length=n0*i.size:=by rw [l9]; simp; exact q1.symm
   by_cases hroom:n0+m<=cap
   ·have hfit:n0*i.size+(rvL ρ news).length<=cur.size:=by rw [hnl,hcs,<- u4]; exact o9 _ hroom
    have hrun:=Q7 (P:=P) w t t2 ty e' e' i hu hi b 0 n0 cap cur hcells (rv ρ x) m (rvL ρ news) hsrc hroom (by simpa using hfit)
    simp only [Q6] at hrun
    refine⟨_,w.setRow b (cur.toList.take (n0*i.size)++rvL ρ news++cur.toList.drop (n0*i.size+(rvL ρ news).length)).toArray,some b,some cap,by simp only [rvL,hs]; exact hrun,⟨rfl,rfl,rfl,by simp,fun k hk hm=>qG w b k _ (fun e=>by subst e; exact hbB.elim (fun h=>by omega) hm)⟩,fun ρ' ha0 g1 g2=> ?_⟩
    have hl2:r'.list.length=n0*i.size+(rvL ρ news).length:=by rw [hr',s9,<- q1]; simp [l9]
    have hsize:(cur.toList.take (n0*i.size)++rvL ρ news++cur.toList.drop (n0*i.size+(rvL ρ news).length)).toArray.size=cur.size:=by
     simp only [b1o,s9,A9,D5,cT]
     rw [B2 (by omega)]
     omega
    refine⟨by simp [rv,rSl,g1,g2],Sim.row (hS ρ' ha0) (fun i' o _ hi'=> ?_) g1 g2 (hcells.set _ hsize) hbB hcm (hsize.trans hcs) ?_ ?_ (fun k _ hk=>qG w b k _ hk)⟩
    ·obtain⟨d1,d2⟩:=G7 j H i' o hi'
     refine⟨d1,fun e=> ?_⟩
     exact (hS ρ' ha0).inj j i' _ _ hget rfl d1 (fun e=>d2 e.symm) (by rw [hnews' ρ' ha0]; simp) (by rw [hnews' ρ' ha0,e])
    ·rw [hl2,hnl,<- u4]; exact o9 _ hroom
    ·rw [hl2,hr',Q5,hrl ρ' ha0,hsame ρ' ha0,<- htake]
     rw [<- q1]
     have e1:(cur.toList.take (n0*i.size)).length=n0*i.size:=by rw [A9,cT]; omega
     rw [show n0*i.size+(rvL ρ news).length=(cur.toList.take (n0*i.size)++rvL ρ news).length by rw [s9,e1]]
     exact fM
   ·have holds:∀ q u,(rvL ρ r.list)[q]? =some u->w.cell? ((⟨b,0,none⟩:Addr).add q)=some u:=fun q u hq=>by
     rw [l9,S8] at hq
     cases hxq:r.list[q]? with
     | none=>rw [hxq] at hq; cases hq
     | some u0=>
      rw [hxq] at hq
      cases hq
      rw [o8,Q6]
      exact N8 hcells htake hxq
    have hrun:=run_append_grow_src (P:=P) w t t2 ty e' i z hu hi hz (some ⟨b,0,none⟩) n0 cap (rvL ρ r.list) (yS w.drew i.size n0 _ n0 cap _ hlen (by simpa using holds)) (rv ρ x) m (rvL ρ news) hsrc (by omega) (by omega) (growslice_fits (by omega) q2)
    refine fresh (n0+m) cap r.list r' _ hr' hrl (by rw [s9,hlen,hnl,<- u4]) (by unfold maxLen; omega) hdel ?_
    simp only [rvL,hs]
    exact hrun
 ·rename_i j off n0 c
  split at h
  case h_2=>cases h
  rename_i cs e2 hget
  obtain⟨b,hb,hcells,hown⟩:=(hS ρ hF).obj j _ hget
  have hs:rv ρ (.slice (some ⟨j,off,none⟩) n0 c)= .slice (some ⟨b,off,none⟩) n0 c:=by simp [rv,rSl,r8,hb]
  have hbj:∀ ρ',F ρ'->ρ' j=some b:=fun ρ' ha=>by
   have:=(hs2 ρ' ha).1
   rw [hs] at this
   simp only [rv,rSl,r8] at this
   cases hq:ρ' j with
   | none=>rw [hq] at this; cases this
   | some b'=>
    rw [hq] at this
    simp only [C8,Value.slice.injEq,L3,Addr.mk.injEq,K2] at this
    rw [this]
  have hcsame:∀ ρ',F ρ'->rvL ρ' cs=rvL ρ cs:=fun ρ' ha=>by
   obtain⟨b',h1,h2,_⟩:=(hS ρ' ha).obj j _ hget
   rw [hbj ρ' ha] at h1
   cases h1
   rw [hcells] at h2
   injection h2 with h2
   injection h2 with h2
   have:=H5 Array.toList h2
   simpa using this.symm
  have hclen:(rvL ρ cs).length=cs.length:=by rw [l9,B9]
  split at h
  ·rename_i hroom
   have hroom:=iU hroom
   split at h
   case h_2=>cases h
   rename_i hfit
   have hfit:=iU hfit
   cases h
   have hnlen:(rvL ρ news).length=news.length:=by rw [l9,B9]
   have hrun:=Q7 (P:=P) w t t2 ty e e2 i hu hi b off n0 c (rvL ρ cs).toArray (.of hcells) (rv ρ x) m (rvL ρ news) hsrc hroom (by simp only [b1o]; omega)
   refine⟨_,w.setRow b ((rvL ρ cs).toArray.toList.take (off+n0*i.size)++rvL ρ news++(rvL ρ cs).toArray.toList.drop (off+n0*i.size+(rvL ρ news).length)).toArray,ρ n,ρ (n+1),by simp only [rvL,hs]; exact hrun,⟨rfl,rfl,rfl,by simp,fun k hk hm=>qG w b k _ (fun e=>by subst e; exact hown.elim (fun h=>by omega) hm)⟩,fun ρ' ha0 _ _=> ?_⟩
   refine⟨by simp [rv,rSl,r8,hbj ρ' ha0],(hS ρ' ha0).turn hget rfl (hbj ρ' ha0) ⟨b,rfl,?_,hown⟩ (fun k hk=>qG w b k _ hk)⟩
   rw [setRow_heap w b _ _ e2 _ hcells]
   congr 2
   have e1:=hcsame ρ' ha0
   have e2:=hsame ρ' ha0
   rw [l9,l9] at e1 e2
   simp only [l9,jK,eZ,gD,B9]
   rw [e1,e2]
  ·rename_i hnr
   have hnr:c < n0+m:=by
    rcases E0 c (n0+m) with h' | h'
    ·exact h'
    ·rw [u0q h'] at hnr; cases hnr
   split at h
   case h_2=>cases h
   rename_i l' hle hneed
   have hle:=iU hle
   cases h
   obtain⟨q2,q3,_⟩:=j0 hneed hl
   have hlen:(rvL ρ ((cs.drop off).take (n0*i.size))).length=n0*i.size:=by rw [l9,B9,A9,D5]; omega
   have holds:∀ q u,(rvL ρ ((cs.drop off).take (n0*i.size)))[q]? =some u->w.cell? ((⟨b,off,none⟩:Addr).add q)=some u:=fun q u hq=>by
    rw [o8,iP w b (off+q) _ _ _ hcells]
    rw [l9,S8,T5] at hq
    split at hq
    ·rw [S3] at hq
     simpa [l9] using hq
    ·cases hq
   have hrun:=run_append_grow_src (P:=P) w t t2 ty e i z hu hi hz (some ⟨b,off,none⟩) n0 c (rvL ρ ((cs.drop off).take (n0*i.size))) (yS w.drew i.size n0 _ n0 c _ hlen (by simpa using holds)) (rv ρ x) m (rvL ρ news) hsrc (by omega) (by omega) (growslice_fits (by omega) q2)
   refine fresh (n0+m) c ((cs.drop off).take (n0*i.size)) _ _ (nT _) (fun ρ' ha=> ?_) (by rw [s9,hlen,hnl,<- u4]) (by unfold maxLen; omega) (fun _ _ h=>h) ?_
   ·have:=hcsame ρ' ha
    rw [l9,l9] at this
    rw [l9,l9,eZ,gD,this,eZ,gD]
   ·simp only [rvL,hs]
    exact hrun
 ·cases h
theorem xI {P:Program} {auto:Bool} {ts:List TypeId} {H H':Heap} {n:Nat} {args:List Value} {v:Value} {l:List Prop} (h:T9 P auto ts H n args=some (v,H',l)) (hl:d9 l)
  {B:Nat} {M:Nat->Prop} {ρ:Num} {w:World} (hB:B<=w.heap.size) (hS:∀ ρ',Agree n ρ ρ'->Sim P B M ρ' H w) (hA:∀ ρ',Agree n ρ ρ'->rvL ρ' args=rvL ρ args) (ty:TypeId):
  ∃ v' w' ρ1,Agree n ρ ρ1∧(Builtin.append_ ts.toArray ty (rvL ρ args).toArray).run P w= .ok v' w'∧Keeps B M w w'∧∀ ρ',Agree (n+2) ρ1 ρ'->v'=rv ρ' v∧Sim P B M ρ' H' w':=by
 obtain⟨v',w',bn,bk,h1,h2,h3⟩:=bK h hl (F:=Agree n ρ) (Agree.refl _ _) hB hS hA ty
 refine⟨v',w',fun i=>if i=n then bn else if i=n+1 then bk else ρ i,fun i hi=>by simp only; rw [a6 (by omega),a6 (by omega)],h1,h2,fun ρ' ha=>h3 ρ' (fun i hi=> ?_) ?_ ?_⟩
 ·rw [ha i (by omega)]; simp only; rw [a6 (by omega),a6 (by omega)]
 ·rw [ha n (by omega)]; simp
 ·rw [ha (n+1) (by omega)]; simp
def cC (args:List Value):List Nat:=
 match args with
 | .slice (some ⟨j,_,_⟩) _ _ ::_=>[j]
 | _=>[]
theorem h0e {H H2:Heap} (hs:∀ i o,H.get i=some o->H2.get i=some o) {p o k:Nat} {cs:List Value} (h:cP H p o k=some cs):cP H2 p o k=some cs:=by
 unfold cP at h ⊢
 cases hq:H.get p with
 | none=>rw [hq] at h; cases h
 | some ob=>rw [hq] at h; rw [hs p ob hq]; exact h
theorem r0a {H H2:Heap} (hs:∀ i o,H.get i=some o->H2.get i=some o) {sz:Nat} {x:Value} {q:Nat×List Value} (h:X3 H sz x=some q):X3 H2 sz x=some q:=by
 unfold X3 at h ⊢
 split at h
 ·rename_i p o sp m c
  split at h
  ·rename_i cs hcs
   simp only [h0e hs hcs]
   exact h
  ·cases h
 ·exact h
 ·cases h
theorem r0k {H:Heap} {sz:Nat} {x:Value} (h:m0z x=true):X3 H sz x=none:=by
 unfold m0z at h
 split at h
 ·rfl
 ·simp [X3]
  split
  ·rw [show zO1 0 0=false from rfl,j0x]
  ·rfl
 ·rename_i s
  have:=S6 h
  simp only [X3,this]
  rw [show zO1 0 0=false from rfl,j0x]
 ·cases h
theorem yA {P:Program} {auto:Bool} {ts:List TypeId} {H H' H2:Heap} {n:Nat} {args:List Value} {v:Value} {l:List Prop} (h:T9 P auto ts H n args=some (v,H',l)) (hs:∀ i o,H.get i=some o->H2.get i=some o):
  ∃ H2',T9 P auto ts H2 n args=some (v,H2',l)∧(∀ i o,(i=n∨i∈cC args)->H'.get i=some o->H2'.get i=some o)∧(∀ i,i≠n->i ∉ cC args->H2'.get i=H2.get i):=by
 have same:∀ i o,(i=n∨i∈cC args)->H.get i=some o->H2.get i=some o:=fun i o _=>hs i o
 unfold T9 at h ⊢
 split at h
 case h_2=>cases h
 rename_i t t2 s x
 split at h
 case h_2=>cases h
 rename_i e d hu hu2
 try simp only [hu,hu2]
 split at h
 case h_2=>cases h
 rename_i i hd hi
 try simp only [hd,hi]
 split at h
 ·cases h
 rename_i z hz
 split at h
 case h_3=>cases h
 case h_2=>
  rename_i hsz hnews
  split at h
  case h_2=>cases h
  rename_i hnn
  try simp only [hsz,r0k hnn]
  split at h
  ·cases h; exact⟨H2,rfl,same,fun _ _ _=>rfl⟩
  ·split at h
   case h_2=>cases h
   rename_i hle
   cases h
   try simp only [hle]
   exact⟨H2,rfl,same,fun _ _ _=>rfl⟩
  ·cases h
 rename_i m news hsz hnews
 try simp only [hsz,r0a hs hnews]
 have front:∀ (ob:AObj) (G G2:Heap),(∀ i o,i≠n->G.get i=some o->i∈cC [s,x] ->G2.get i=some o)->(∀ i,i≠n->i ∉ cC [s,x] ->G2.get i=H2.get i)->
   (∀ i o,(i=n∨i∈cC [s,x])->Heap.get ((n,ob) ::G) i=some o->Heap.get ((n,ob) ::G2) i=some o)∧(∀ i,i≠n->i ∉ cC [s,x] ->Heap.get ((n,ob) ::G2) i=H2.get i):=by
  intro ob G G2 h1 h2
  refine⟨fun i o hi hg=> ?_,fun i h3 h4=> ?_⟩
  ·rw [a8] at hg ⊢
   split at hg
   ·rename_i e; rw [b9 e]; exact hg
   ·rename_i e
    rw [a6 e]
    exact h1 i o (fun e'=>e e'.symm) hg (hi.resolve_left (fun e'=>e e'.symm))
  ·rw [a8,a6 (fun e=>h3 e.symm)]
   exact h2 i h3 h4
 split at h
 ·split at h
  case h_2=>cases h
  rename_i l' hneed
  cases h
  try simp only [hneed]
  exact⟨_,rfl,front _ _ _ (fun i o _ hg _=>hs i o hg) (fun _ _ _=>rfl)⟩
 ·rename_i j k n0
  split at h
  case h_2=>cases h
  rename_i e' sz r k' hget
  try simp only [hs _ _ hget]
  split at h
  case h_2=>cases h
  rename_i r' l' hck hadd hneed
  cases h
  try simp only [hck,hadd,hneed]
  refine⟨_,rfl,front _ _ _ (fun i o _ hg hb=> ?_) (fun i _ hb=> ?_)⟩
  ·simp only [cC,zzA84,T3,V5] at hb
   exact absurd hb (G7 j H i o hg).2
  ·simp only [cC,zzA84,T3,V5] at hb
   exact M6 j H2 i hb
 ·rename_i j off n0 c
  split at h
  case h_2=>cases h
  rename_i cs e2 hget
  try simp only [hs _ _ hget]
  split at h
  ·rename_i hroom
   try simp only [hroom]
   split at h
   case h_2=>cases h
   rename_i hfit
   cases h
   try simp only [hfit]
   refine⟨_,rfl,fun i o hi hg=> ?_,fun i h1 h2=> ?_⟩
   ·rw [m3 _ _ _ _ (hs _ _ hget)]
    rw [m3 _ _ _ _ hget] at hg
    split at hg
    ·rename_i e; rw [b9 e]; exact hg
    ·rename_i e; rw [a6 e]; exact hs i o hg
   ·rw [m3 _ _ _ _ (hs _ _ hget),a6 (fun e=>h2 (by rw [<- e]; simp [cC]))]
  ·rename_i hnr
   try simp only [hnr]
   split at h
   case h_2=>cases h
   rename_i l' hle hneed
   cases h
   try simp only [hle,hneed]
   exact⟨_,rfl,front _ _ _ (fun i o _ hg _=>hs i o hg) (fun _ _ _=>rfl)⟩
 ·cases h
end
noncomputable section
def qC (a b:Nat):Nat:=match Nat.ble a b with
 | true=>a
 | false=>b
theorem o0p (a b:Nat):qC a b=Nat.min a b:=by
 unfold qC
 split
 ·rename_i h; exact (B2 (iU h)).symm
 ·rename_i h
  have:b<=a:=by
   rcases E0 b a with h' | h'
   ·omega
   ·rw [u0q h'] at h; cases h
  exact (S5 this).symm
def k1g (H:Heap) (sz dn:Nat) (x:Value):Option (Nat×List Value):=
 match x with
 | .slice none n _=>match zO0 (qC n dn) 0 with
  | true=>some (0,[])
  | false=>none
 | .slice (some ⟨p,o,_⟩) m _=>match cP H p o (qC m dn*sz) with
  | some cs=>match cs.all p1t with
   | true=>some (qC m dn,cs)
   | false=>none
  | none=>none
 | .string s=>match zO0 sz 1 with
  | true=>some (qC s.data.toList.length dn,Y6 (s.data.toList.take (qC s.data.toList.length dn)))
  | false=>none
 | _=>none
theorem pI {P:Program} {B:Nat} {M:Nat->Prop} {ρ:Num} {H:Heap} {w:World} (hS:Sim P B M ρ H w) {sz dn:Nat} {x:Value} {k:Nat} {news:List Value} (h:k1g H sz dn x=some (k,news)):
  (∃ xl,(∀ w':World,(Builtin.lenOf (rv ρ x)).run P w'= .ok xl w')∧k=Nat.min xl dn)∧(Builtin.firstCells sz k (rv ρ x)).run P w= .ok (rvL ρ news).toArray w∧(∀ u∈rvL ρ news,u.oneCell'=true)∧news.length=k*sz:=by
 unfold k1g at h
 split at h
 ·rename_i n c
  split at h
  case h_2=>cases h
  rename_i hz
  have hz:=S6 hz
  rw [o0p] at hz
  cases h
  simp only [rv]
  exact⟨⟨n,fun _=>rfl,hz.symm⟩,m0s w sz 0 n c,fun u hu=>by simp [rvL] at hu,by simp⟩
 ·rename_i p o sp m c
  split at h
  case h_2=>cases h
  rename_i cs hcs
  split at h
  case h_2=>cases h
  rename_i hone
  cases h
  obtain⟨b,hb,hlen,hcell⟩:=aA hS hcs
  have hrv:∃ c',rv ρ (.slice (some ⟨p,o,sp⟩) m c)= .slice (some ⟨b,o,none⟩) m c':=by
   cases sp with
   | none=>exact⟨c,by simp [rv,rSl,r8,hb]⟩
   | some k=>exact⟨_,by simp [rv,rSl,hb]; rfl⟩
  obtain⟨c',hrv⟩:=hrv
  rw [hrv]
  refine⟨⟨m,fun _=>rfl,o0p _ _⟩,yS w sz _ ⟨b,o,none⟩ m c' _ (by rw [l9,B9]; exact hlen) (fun j u hj=>by rw [o8]; exact hcell j u hj),fun u hu=> ?_,hlen⟩
  rw [l9] at hu
  obtain⟨u0,hu0,rfl⟩:=zzA43.1 hu
  exact g0m ρ u0 (zzA10.1 hone u0 hu0)
 ·rename_i s
  split at h
  case h_2=>cases h
  rename_i hz
  have hz:=S6 hz
  subst hz
  cases h
  have hsz:s.data.toList.length=s.size:=by rw [cT]; rfl
  simp only [rv]
  rw [zS,hsz,o0p]
  refine⟨⟨s.size,fun _=>rfl,rfl⟩,?_,fun u hu=> ?_,?_⟩
  ·simp only [Builtin.firstCells,S9]
   congr 1
   apply gX
   rw [yE,ByteArray.data_extract,Array.toList_extract,E8]
   simp [List.extract]
  ·rw [E8] at hu
   obtain⟨_,_,rfl⟩:=zzA43.1 hu
   rfl
  ·rw [E8,B9,A9,hsz,s4]
   exact B2 (Nat.min_le_left _ _)
 ·cases h
def e1b (P:Program) (ts:List TypeId) (H:Heap) (args:List Value):Option (Value×Heap):=
 match ts,args with
 | [t,_],[.slice da dn _,x] =>match W0 P t with
  | some (.slice e)=>match fQ P e with
   | some i=>match k1g H i.size dn x with
    | some (k,news)=>match da with
     | none=>match news with
      | [] =>some (.int .i64 k,H)
      | _=>none
     | some ⟨j,off,none⟩=>match H.get j with
      | some (.cells cs e')=>match Nat.ble (off+news.length) cs.length with
       | true=>some (.int .i64 k,H.set j (.cells (cs.take off++news++cs.drop (off+news.length)) e'))
       | false=>none
      | _=>none
     | some ⟨_,_,some _⟩=>match news with
      | [] =>some (.int .i64 k,H)
      | _=>none
    | none=>none
   | none=>none
  | _=>none
 | _,_=>none
theorem O4 {P:Program} (w w':World) (t t2 ty e:TypeId) (i:TypeInfo) (hu:P.underlying t=some (.slice e)) (hi:P.info? e=some i) (x:Value) (xl dn dc:Nat) (hl:(Builtin.lenOf x).run P w= .ok xl w) (news:List Value)
  (hc:(Builtin.firstCells i.size (Nat.min xl dn) x).run P w= .ok news.toArray w) (base:Option Addr) (hst:∀ a,base=some a->(storeCells a news).run P w= .ok () w') (hno:base=none->w'=w):
  (Builtin.copy_ #[t,t2] ty #[.slice base dn dc,x]).run P w= .ok (.int .i64 (Nat.min xl dn:Nat)) w':=by
 cases base with
 | none=>
  obtain rfl:=hno rfl
  simp [Builtin.copy_,run_underlying hu,hl,sizeOf,typeInfo,hi,hc,goInt]
 | some a=>
  have:=hst a rfl
  simp [Builtin.copy_,run_underlying hu,hl,sizeOf,typeInfo,hi,hc,goInt,this]
theorem k0t {P:Program} {ts:List TypeId} {H H':Heap} {n:Nat} {args:List Value} {v:Value} (h:e1b P ts H args=some (v,H'))
  {B:Nat} {M:Nat->Prop} {ρ:Num} {w:World} (hS:∀ ρ',Agree n ρ ρ'->Sim P B M ρ' H w) (hA:∀ ρ',Agree n ρ ρ'->rvL ρ' args=rvL ρ args) (ty:TypeId):
  ∃ v' w' ρ1,Agree n ρ ρ1∧(Builtin.copy_ ts.toArray ty (rvL ρ args).toArray).run P w= .ok v' w'∧Keeps B M w w'∧∀ ρ',Agree n ρ1 ρ'->v'=rv ρ' v∧Sim P B M ρ' H' w':=by
 unfold e1b at h
 simp only [w8,x6] at h
 split at h
 case h_2=>cases h
 rename_i t t2 da dn dc x
 split at h
 case h_2=>cases h
 rename_i e hu
 split at h
 case h_2=>cases h
 rename_i i hi
 split at h
 case h_2=>cases h
 rename_i k news hcp
 have hs2:∀ ρ',Agree n ρ ρ'->rv ρ' (.slice da dn dc)=rv ρ (.slice da dn dc)∧rv ρ' x=rv ρ x:=fun ρ' ha=>by
  have:=hA ρ' ha
  simp only [rvL,R5,K2] at this
  exact this
 obtain⟨⟨xl,hl,hk⟩,hc,hone,hlen⟩:=pI (hS ρ (Agree.refl _ _)) hcp
 rw [hk] at hc
 split at h
 ·split at h
  case h_2=>cases h
  cases h
  refine⟨.int .i64 (Nat.min xl dn:Nat),w,ρ,Agree.refl _ _,?_,Keeps.refl _ _ _,fun ρ' ha=>⟨?_,hS ρ' ha⟩⟩
  ·simp only [rvL,rv]
   exact O4 w w t t2 ty e i hu hi (rv ρ x) xl dn dc (hl w) _ hc none (fun a ha=>by cases ha) (fun _=>rfl)
  ·simp only [rv,hk]
 ·rename_i j off
  split at h
  case h_2=>cases h
  rename_i cs e2 hget
  split at h
  case h_2=>cases h
  rename_i hfit
  have hfit:=iU hfit
  cases h
  obtain⟨b,hb,hcells,hown⟩:=(hS ρ (Agree.refl _ _)).obj j _ hget
  have hs:rv ρ (.slice (some ⟨j,off,none⟩) dn dc)= .slice (some ⟨b,off,none⟩) dn dc:=by simp [rv,rSl,r8,hb]
  have hbj:∀ ρ',Agree n ρ ρ'->ρ' j=some b:=fun ρ' ha=>by
   have:=(hs2 ρ' ha).1
   rw [hs] at this
   simp only [rv,rSl,r8] at this
   cases hq:ρ' j with
   | none=>rw [hq] at this; cases this
   | some b'=>
    rw [hq] at this
    simp only [C8,Value.slice.injEq,L3,Addr.mk.injEq,K2] at this
    rw [this]
  have hcsame:∀ ρ',Agree n ρ ρ'->rvL ρ' cs=rvL ρ cs:=fun ρ' ha=>by
   obtain⟨b',h1,h2,_⟩:=(hS ρ' ha).obj j _ hget
   rw [hbj ρ' ha] at h1
   cases h1
   rw [hcells] at h2
   injection h2 with h2
   injection h2 with h2
   have:=H5 Array.toList h2
   simpa using this.symm
  have hsame:∀ ρ',Agree n ρ ρ'->rvL ρ' news=rvL ρ news:=fun ρ' ha=>by
   obtain⟨⟨xl',hl',hk'⟩,hc',_,_⟩:=pI (hS ρ' ha) hcp
   rw [(hs2 ρ' ha).2,hk] at hc'
   rw [hc] at hc'
   injection hc' with hc'
   have:=H5 Array.toList hc'
   simpa using this.symm
  have hnlen:(rvL ρ news).length=news.length:=by rw [l9,B9]
  have hclen:(rvL ρ cs).length=cs.length:=by rw [l9,B9]
  have hst:=run_storeCells_at P b off e2 (rvL ρ news) 0 (rvL ρ cs).toArray w hcells (by simp only [b1o]; omega) hone
  simp only [E4] at hst
  refine⟨.int .i64 (Nat.min xl dn:Nat),w.setRow b ((rvL ρ cs).toArray.toList.take off++rvL ρ news++(rvL ρ cs).toArray.toList.drop (off+(rvL ρ news).length)).toArray,ρ,Agree.refl _ _,?_,⟨rfl,rfl,rfl,by simp,fun k hk hm=>qG w b k _ (fun e=>by subst e; exact hown.elim (fun h=>by omega) hm)⟩,fun ρ' ha=>⟨?_,(hS ρ' ha).turn hget rfl (hbj ρ' ha) ⟨b,rfl,?_,hown⟩ (fun k hk=>qG w b k _ hk)⟩⟩
  ·simp only [rvL,hs]
   exact O4 w _ t t2 ty e i hu hi (rv ρ x) xl dn dc (hl w) _ hc (some ⟨b,off,none⟩) (fun a ha=>by cases ha; exact hst) (fun h=>by cases h)
  ·simp only [rv,hk]
  ·rw [setRow_heap w b _ _ e2 _ hcells]
   congr 2
   have e1:=hcsame ρ' ha
   have e2:=hsame ρ' ha
   rw [l9,l9] at e1 e2
   simp only [l9,jK,eZ,gD,B9]
   rw [e1,e2]
 ·rename_i j off kk
  split at h
  case h_2=>cases h
  cases h
  refine⟨.int .i64 (Nat.min xl dn:Nat),w,ρ,Agree.refl _ _,?_,Keeps.refl _ _ _,fun ρ' ha=>⟨?_,hS ρ' ha⟩⟩
  ·simp only [rvL,rv,rSl]
   cases hq:ρ j with
   | none=>exact O4 w w t t2 ty e i hu hi (rv ρ x) xl dn 0 (hl w) _ hc none (fun a ha=>by cases ha) (fun _=>rfl)
   | some b=>exact O4 w w t t2 ty e i hu hi (rv ρ x) xl dn _ (hl w) _ hc (some ⟨b,off,none⟩) (fun a ha=>by cases ha; rfl) (fun h=>by cases h)
  ·simp only [rv,hk]
def bE:List Value->Option (List UInt8)
 | [] =>some []
 | v ::r=>match v with
  | .int .u8 (.ofNat n)=>match zO1 n 256,bE r with
   | true,some l=>some (UInt8.ofNat n ::l)
   | _,_=>none
  | _=>none
theorem nZ:∀ {l:List Value} {bs:List UInt8},bE l=some bs->l=Y6 bs
 | [],bs,h=>by simp only [bE] at h; cases h; rfl
 | v ::r,bs,h=>by
  simp only [bE] at h
  split at h
  ·rename_i n
   split at h
   ·rename_i l hn hl
    cases h
    rw [nZ hl,Y6]
    have hn:n < 256:=by simpa [Nat.blt_eq] using hn
    have:(UInt8.ofNat n).toNat=n:=by simp [UInt8.toNat_ofNat']; omega
    rw [this]
    rfl
   ·cases h
  ·cases h
def o0b (H:Heap) (j n:Nat):Option (TypeId×List UInt8×List Prop):=
 match H.get j with
 | some (.cells cs e)=>match Nat.ble n cs.length && Nat.ble n 9223372036854775807,bE (cs.take n) with
  | true,some l=>some (e,l,[])
  | _,_=>none
 | some (.row e _ (.ints .u8 ns) _)=>match Nat.ble n ns.length && Nat.ble n 9223372036854775807,bE ((ns.take n).map (.int .u8)) with
  | true,some l=>some (e,l,[])
  | _,_=>none
 | some (.row e _ (.vals xs) _)=>match Nat.ble n xs.length && Nat.ble n 9223372036854775807,bE (xs.take n) with
  | true,some l=>some (e,l,[])
  | _,_=>none
 | some (.row e _ (.bytes l) _)=>some (e,l,[n=l.length∧n<=9223372036854775807])
 | _=>none
def d0x (P:Program) (ts:List TypeId) (H:Heap) (args:List Value):Option (Value×Heap×List Prop):=
 match ts,args with
 | [t,_],[.pointer p, .int .i64 (.ofNat n)] =>match n with
  | 0=>some (.string ⟨⟨[]⟩⟩,H,[])
  | n+1=>match p with
   | some ⟨j,0,none⟩=>match o0b H j (n+1),W0 P t with
    | some (e,l,ob),some (.pointer e2)=>match zO0 e e2 && zO0 (P.cellsOf e) 1 with
     | true=>some (.string ⟨⟨l⟩⟩,H.set j .dead,ob)
     | false=>none
    | _,_=>none
   | _=>none
 | _,_=>none
theorem c0t {P:Program} {B:Nat} {M:Nat->Prop} {ρ:Num} {H:Heap} {w:World} (hS:Sim P B M ρ H w) {j n:Nat} {e:TypeId} {l:List UInt8} {ob:List Prop} (h:o0b H j (n+1)=some (e,l,ob)) (hob:d9 ob):
  n+1<=9223372036854775807∧∃ b cur o0,ρ j=some b∧H.get j=some o0∧o0.rw=true∧RowAt w b cur e∧(B<=b∨M b)∧n+1<=cur.size∧l.length=n+1∧∀ k x,l[k]? =some x->w.cell? ((⟨b,0,none⟩:Addr).add k)=some (.int .u8 x.toNat):=by
 have fin:∀ (xs:List Value),bE (xs.take (n+1))=some l->n+1<=xs.length->l.length=n+1∧∀ (k:Nat) (x:UInt8),l[k]? =some x->xs[k]? =some (zO3 .u8 x.toNat):=by
  intro xs hb hle
  have h1:=nZ hb
  have h2:=H5 List.length h1
  rw [E8,B9,A9] at h2
  refine⟨by omega,fun k x hk=> ?_⟩
  have h3:(xs.take (n+1))[k]? =some (.int .u8 x.toNat):=by rw [h1,E8,S8,hk]; rfl
  have hlt:k < l.length:=(zzA1.1 hk).1
  rwa [T5,b9 (by omega)] at h3
 unfold o0b at h
 split at h
 ·rename_i cs e' hget
  split at h
  case h_2=>cases h
  rename_i hle hb
  simp only [x5,M8] at hle
  obtain⟨hle,hmx⟩:=hle
  cases h
  obtain⟨b,hb1,hcells,hown⟩:=hS.obj j _ hget
  obtain⟨h1,h2⟩:=fin cs hb hle
  refine⟨hmx,b,_,_,hb1,hget,rfl, .of hcells,hown,by simp [l9]; omega,h1,fun k x hk=> ?_⟩
  rw [o8,Q6,iP w b k _ _ _ hcells]
  simp [l9,h2 k x hk,rv]
 ·rename_i e' sz ns kk hget
  split at h
  case h_2=>cases h
  rename_i hle hb
  simp only [x5,M8] at hle
  obtain⟨hle,hmx⟩:=hle
  cases h
  obtain⟨b,cap,cur,hb1,_,hcells,hB,_,hcs,hln,htake⟩:=(hS.obj j _ hget).row_some (by simp only [Row.list,B9]; omega)
  rw [eZ] at hb
  obtain⟨h1,h2⟩:=fin (ns.map (.int .u8)) hb (by simpa using hle)
  simp only [Row.list,B9] at hln
  refine⟨hmx,b,cur,_,hb1,hget,rfl,hcells,hB,by omega,h1,fun k x hk=> ?_⟩
  rw [o8,Q6]
  have:=N8 hcells htake (i:=k) (v:= .int .u8 x.toNat) (h2 k x hk)
  simpa [rv] using this
 ·rename_i e' sz xs kk hget
  split at h
  case h_2=>cases h
  rename_i hle hb
  simp only [x5,M8] at hle
  obtain⟨hle,hmx⟩:=hle
  cases h
  obtain⟨b,cap,cur,hb1,_,hcells,hB,_,hcs,hln,htake⟩:=(hS.obj j _ hget).row_some (by simp only [Row.list]; omega)
  obtain⟨h1,h2⟩:=fin xs hb hle
  simp only [Row.list] at hln
  refine⟨hmx,b,cur,_,hb1,hget,rfl,hcells,hB,by omega,h1,fun k x hk=> ?_⟩
  rw [o8,Q6]
  have:=N8 hcells htake (i:=k) (v:= .int .u8 x.toNat) (h2 k x hk)
  simpa [rv] using this
 ·rename_i e' sz l0 kk hget
  cases h
  obtain⟨⟨hle,hmx⟩,_⟩:=hob
  obtain⟨b,cap,cur,hb1,_,hcells,hB,_,hcs,hln,htake⟩:=(hS.obj j _ hget).row_some (by simp only [Row.list,B9]; omega)
  have hsz:l.length<=cur.size:=by simp only [Row.list,B9] at hln; omega
  refine⟨hmx,b,cur,_,hb1,hget,rfl,hcells,hB,by omega,hle.symm,fun k x hk=> ?_⟩
  rw [o8,Q6]
  have:=N8 hcells htake (i:=k) (v:= .int .u8 x.toNat) (by simp only [Row.list,S8,hk]; rfl)
  simpa [rv] using this
 ·cases h
theorem pR (w:World) (b k n:Nat) (h:k≠b):(w.freeze ⟨b,0,none⟩ n).heap[k]? =w.heap[k]? :=by
 unfold World.freeze
 split
 ·rfl
 ·simp only [Array.getElem?_modify]
  rw [a6 (fun e=>h e.symm)]
theorem k0k (w:World) (b n:Nat) {o:Obj} (h:w.heap[b]? =some o):∃ o',(w.freeze ⟨b,0,none⟩ n).heap[b]? =some o':=by
 unfold World.freeze
 split
 ·exact⟨o,h⟩
 ·simp only [Array.getElem?_modify,b9]
  rw [h]
  exact⟨_,rfl⟩
theorem yC {P:Program} {ts:List TypeId} {H H':Heap} {n:Nat} {args:List Value} {v:Value} {ob:List Prop} (h:d0x P ts H args=some (v,H',ob)) (hob:d9 ob)
  {B:Nat} {M:Nat->Prop} {ρ:Num} {w:World} (hS:∀ ρ',Agree n ρ ρ'->Sim P B M ρ' H w) (hA:∀ ρ',Agree n ρ ρ'->rvL ρ' args=rvL ρ args) (ty:TypeId):
  ∃ v' w' ρ1,Agree n ρ ρ1∧(Builtin.unsafeString_ ts.toArray ty (rvL ρ args).toArray).run P w= .ok v' w'∧Keeps B M w w'∧∀ ρ',Agree n ρ1 ρ'->v'=rv ρ' v∧Sim P B M ρ' H' w':=by
 unfold d0x at h
 simp only [w8] at h
 split at h
 case h_2=>cases h
 rename_i t t2 p m
 split at h
 ·cases h
  refine⟨.string .empty,w,ρ,Agree.refl _ _,?_,Keeps.refl _ _ _,fun ρ' ha=>⟨by simp [rv]; rfl,hS ρ' ha⟩⟩
  simp only [rvL,rv]
  cases p with
  | none=>simp only [rv]; exact Lib.run_unsafeString_none w t t2 ty none
  | some a=>simp only [rv]; exact Lib.run_unsafeString_none w t t2 ty _
 ·rename_i m
  split at h
  case h_2=>cases h
  rename_i j
  split at h
  case h_2=>cases h
  rename_i e l ob' e2 hrow hu
  split at h
  case h_2=>cases h
  rename_i hck
  simp only [x5,y8] at hck
  obtain⟨c1,c2⟩:=hck
  subst c1
  cases h
  obtain⟨c3,b,cur,o0,hb,hget,hrw,hcells,hown,hsz,hlen,hcell⟩:=c0t (hS ρ (Agree.refl _ _)) hrow hob
  have hbj:∀ ρ',Agree n ρ ρ'->ρ' j=some b:=fun ρ' ha=>by
   have:=hA ρ' ha
   simp only [rvL,rv,r8,hb,C8,R5,K2,Value.pointer.injEq] at this
   cases hq:ρ' j with
   | none=>rw [hq] at this; cases this
   | some b'=>
    rw [hq] at this
    simp only [C8,L3,Addr.mk.injEq,K2] at this
    rw [this]
  obtain⟨fr,hcells,_⟩:=hcells
  have hrun:=Lib.run_unsafeString_row (P:=P) w t t2 ty e hu c2 b cur.size (by simp [World.shape?,hcells]) l (by intro e; rw [e] at hlen; cases hlen) (by omega) (by omega) hcell
  refine⟨.string ⟨l.toArray⟩,w.freeze ⟨b,0,none⟩ l.length,ρ,Agree.refl _ _,?_,⟨?_,?_,?_,?_,fun k hk hm=>pR w b k _ (fun e=>by subst e; exact hown.elim (fun h=>by omega) hm)⟩,fun ρ' ha=>⟨by simp [rv],(hS ρ' ha).turn hget hrw (hbj ρ' ha) ?_ (fun k hk=>pR w b k _ hk)⟩⟩
  ·simp only [rvL,rv,r8,hb,C8]
   have e3:(zO2 (m+1))=((l.length:Nat):Int):=by rw [hlen]; rfl
   rw [e3]
   exact hrun
  ·unfold World.freeze; split <;> rfl
  ·unfold World.freeze; split <;> rfl
  ·unfold World.freeze; split <;> rfl
  ·unfold World.freeze; split <;> simp
  ·obtain⟨o',ho'⟩:=k0k w b l.length hcells
   exact⟨b,o',rfl,ho',hown⟩
def f1n (H:Heap) (b:Builtin) (args:List Value):Option Value:=
 match b,args with
 | .unsafeSliceData,[x] =>match x with
  | .slice none _ _=>some (.pointer none)
  | .slice (some ⟨j,off,none⟩) _ c=>match zO0 c 0,H.get j with
   | false,some (.cells _ _)=>some (.pointer (some ⟨j,off,none⟩))
   | _,_=>none
  | .slice (some ⟨j,0,some k⟩) n 0=>match H.get j with
   | some (.row _ 1 (.bytes (_ ::_)) k')=>match zO0 k k' with
    | true=>some (.pointer (some ⟨j,0,none⟩))
    | false=>none
   | some (.row _ sz r k')=>match zO0 k k' && zO1 0 n && zO1 0 sz && Nat.ble (n*sz) r.list.length with
    | true=>some (.pointer (some ⟨j,0,none⟩))
    | false=>none
   | _=>none
  | _=>none
 | _,_=>none
theorem pF {P:Program} {B:Nat} {M:Nat->Prop} {ρ:Num} {H:Heap} {w:World} (hS:Sim P B M ρ H w) {b:Builtin} {args:List Value} {v:Value} (h:f1n H b args=some v) (ats:Array TypeId) (ty:TypeId) (cs:Array Bool):
  (builtin b ats ty cs ⟨rvL ρ args⟩).run P w= .ok (.value (rv ρ v)) w:=by
 unfold f1n at h
 split at h
 case h_2=>cases h
 rename_i x
 have red:∀ y,(builtin .unsafeSliceData ats ty cs #[y]).run P w=((Builtin.unsafeSliceData_ ats ty #[y]).run P w).andThen fun a w'=> .ok (.value a) w':=by
  intro y
  simp only [builtin,p8,S9]
 have some_:∀ (a:Addr) (n c:Nat),c≠0->(Builtin.unsafeSliceData_ ats ty #[.slice (some a) n c]).run P w= .ok (.pointer (some a)) w:=by
  intro a n c hc
  have hdef:Builtin.unsafeSliceData_ ats ty #[.slice (some a) n c] =
    (do
     if c≠0 then pure (.pointer (some a))
     else if (<- viewAt a.block).isSome then pure (.pointer (some a))
     else pure (.pointer (some ⟨<- newObj (.view a (<- elemOf ty)),0,none⟩))):=rfl
  rw [hdef]
  simp [hc]
 split at h
 ·cases h
  simp only [rvL,rv]
  rw [red]
  rfl
 ·rename_i j off n c
  split at h
  case h_2=>cases h
  rename_i hc hget
  have hc:c≠0:=fun e=>by rw [e] at hc; cases hc
  cases h
  obtain⟨g,hg,_⟩:=hS.obj j _ hget
  simp only [rvL,rv,rSl,r8,hg,C8]
  rw [red,some_ _ _ _ hc]
  rfl
 ·rename_i j k n
  split at h
  case h_3=>cases h
  ·rename_i e c0 r0 k' hget
   split at h
   case h_2=>cases h
   rename_i hck
   obtain rfl:=S6 hck
   cases h
   obtain⟨g,cap,cur,h1,h2,_,_,_,_,h7,_⟩:=(hS.obj j _ hget).row_some (by simp [Row.list])
   have hcap:cap≠0:=fun e=>by rw [e,C0] at h7; simp [Row.list] at h7
   simp only [rvL,rv,rSl,r8,h1,h2,C8,T2,y0t]
   rw [red,some_ _ _ _ hcap]
   rfl
  rename_i e sz r k' hne hget
  split at h
  case h_2=>cases h
  rename_i hck
  simp only [x5,y8,D1,M8] at hck
  obtain⟨⟨⟨c1,c2⟩,c3⟩,c4⟩:=hck
  subst c1
  cases h
  have hpos:0 < n*sz:=B6 c2 c3
  obtain⟨g,cap,cur,h1,h2,_,_,_,_,h7,_⟩:=(hS.obj j _ hget).row_some (by omega)
  have hcap:cap≠0:=fun e=>by rw [e,C0] at h7; omega
  simp only [rvL,rv,rSl,r8,h1,h2,C8,T2,y0t]
  rw [red,some_ _ _ _ hcap]
  rfl
 ·cases h
def p1m:AObj->Option (IntKind×List Int)
 | .ints k xs=>some (k,xs)
 | .row _ sz (.ints k ns) _=>match zO0 sz 1 with
  | true=>some (k,ns)
  | false=>none
 | _=>none
theorem bM {B:Nat} {M:Nat->Prop} {ρ:Num} {w:World} {ob:Option Nat} {o:AObj} {k:IntKind} {xs:List Int} (ho:ORep B M ρ w ob o) (h:p1m o=some (k,xs)) (hx:0 < xs.length):
  ∃ b,ob=some b∧∀ i,i < xs.length->w.cell? ⟨b,i,none⟩=some (.int k (xs.getD i 0)):=by
 unfold p1m at h
 split at h
 ·cases h
  rcases ho with ⟨_,h2⟩ | ⟨b,cs,t,fr,h1,h2,h3⟩
  ·rw [h2] at hx; simp at hx
  ·exact⟨b,h1,fun i hi=>by simp only [World.cell?,h2]; exact h3 i hi⟩
 ·split at h
  case h_2=>cases h
  cases h
  rcases ho with ⟨_,h2⟩ | ⟨b,cap,cur,h1,h2,h3,h4,h5,h6,h7,h8⟩
  ·have:xs=[] :=by simpa [Row.list] using h2
   rw [this] at hx; simp at hx
  ·refine⟨b,h1,fun i hi=> ?_⟩
   have:=N8 (ρ:=ρ) (i:=i) (v:= .int k (xs.getD i 0)) h3 h8 (by simp [Row.list,List.getD,hi])
   simpa [rv] using this
 ·cases h
def n0r (P:Program) (auto:Bool) (ts:List TypeId) (H:Heap) (args:List Value):Option (Value×Heap×List Prop):=
 match auto with
 | true=>none
 | false=>match ts,args with
  | [t,_],[.slice (some ⟨j,off,some _⟩) dn _, .slice (some ⟨p,o,_⟩) m _] =>match W0 P t with
   | some (.slice e)=>match fQ P e with
    | some i=>match H.get j,H.get p with
     | some (.row e' sz (.ints kd ns) k'),some src=>match p1m src with
      | some (kd',xs)=>match decide (kd'=kd) && zO0 i.size 1 && zO0 sz 1 with
       | true=>some (.int .i64 m,H.set j (.row e' sz (.ints kd (ns.take off++(xs.drop o).take m++ns.drop (off+m))) k'),[0 < m∧m<=dn∧off+m<=ns.length∧o+m<=xs.length])
       | false=>none
      | none=>none
     | _,_=>none
    | none=>none
   | _=>none
  | _,_=>none
theorem kF {ρ:Num} {j off:Nat} {sp:Option Nat} {n c b:Nat} (h:ρ j=some b):∃ c',rv ρ (.slice (some ⟨j,off,sp⟩) n c)= .slice (some ⟨b,off,none⟩) n c':=by
 cases sp with
 | none=>exact⟨c,by simp [rv,rSl,r8,h]⟩
 | some k=>exact⟨_,by simp [rv,rSl,h]; rfl⟩
theorem c0z {P:Program} {auto:Bool} {ts:List TypeId} {H H':Heap} {n:Nat} {args:List Value} {v:Value} {l:List Prop} (h:n0r P auto ts H args=some (v,H',l)) (hl:d9 l)
  {B:Nat} {M:Nat->Prop} {ρ:Num} {w:World} (hS:∀ ρ',Agree n ρ ρ'->Sim P B M ρ' H w) (hA:∀ ρ',Agree n ρ ρ'->rvL ρ' args=rvL ρ args) (ty:TypeId):
  ∃ v' w' ρ1,Agree n ρ ρ1∧(Builtin.copy_ ts.toArray ty (rvL ρ args).toArray).run P w= .ok v' w'∧Keeps B M w w'∧∀ ρ',Agree n ρ1 ρ'->v'=rv ρ' v∧Sim P B M ρ' H' w':=by
 unfold n0r at h
 simp only [w8,x6] at h
 split at h
 ·cases h
 split at h
 case h_2=>cases h
 rename_i t t2 j off kk dn dc p o sp m mc
 split at h
 case h_2=>cases h
 rename_i e hu
 split at h
 case h_2=>cases h
 rename_i i hi
 split at h
 case h_2=>cases h
 rename_i e' sz kd ns k' src hget hsrc
 split at h
 case h_2=>cases h
 rename_i kd' xs hin
 split at h
 case h_2=>cases h
 rename_i hc
 simp only [x5,aO,y8] at hc
 obtain⟨⟨rfl,hs1⟩,hs2⟩:=hc
 subst hs2
 cases h
 obtain⟨hm0,hmd,hmn,hmx⟩:=hl.1
 have hr0:0 < (Row.ints kd' ns).list.length:=by simp [Row.list]; omega
 have hat:∀ ρ',Agree n ρ ρ'->ρ' j=ρ j∧ρ' p=ρ p:=fun ρ' ha=>by
  have e:=hA ρ' ha
  simp only [rvL,R5,K2] at e
  obtain⟨b1,cap1,cur1,g1,_⟩:=((hS ρ (Agree.refl _ _)).obj j _ hget).row_some hr0
  obtain⟨b2,cap2,cur2,g2,_⟩:=((hS ρ' ha).obj j _ hget).row_some hr0
  obtain⟨b3,g3,_⟩:=bM ((hS ρ (Agree.refl _ _)).obj p _ hsrc) hin (by omega)
  obtain⟨b4,g4,_⟩:=bM ((hS ρ' ha).obj p _ hsrc) hin (by omega)
  obtain⟨c1,q1⟩:=kF (off:=off) (sp:=some kk) (n:=dn) (c:=dc) g1
  obtain⟨c2,q2⟩:=kF (off:=off) (sp:=some kk) (n:=dn) (c:=dc) g2
  obtain⟨c3,q3⟩:=kF (off:=o) (sp:=sp) (n:=m) (c:=mc) g3
  obtain⟨c4,q4⟩:=kF (off:=o) (sp:=sp) (n:=m) (c:=mc) g4
  have e1:=e.1
  have e2:=e.2
  rw [q1,q2] at e1
  rw [q3,q4] at e2
  simp only [Value.slice.injEq,L3,Addr.mk.injEq] at e1 e2
  rw [g1,g2,g3,g4,e1.1.1,e2.1.1]
  exact⟨rfl,rfl⟩
 obtain⟨b1,cap1,cur1,g1,_,⟨fr1,gc,_⟩,_⟩:=((hS ρ (Agree.refl _ _)).obj j _ hget).row_some hr0
 obtain⟨b3,g3,gx⟩:=bM ((hS ρ (Agree.refl _ _)).obj p _ hsrc) hin (by omega)
 obtain⟨c1,q1⟩:=kF (off:=off) (sp:=some kk) (n:=dn) (c:=dc) g1
 obtain⟨c3,q3⟩:=kF (off:=o) (sp:=sp) (n:=m) (c:=mc) g3
 have hlen:((xs.drop o).take m).length=m:=by simp; omega
 have hput:=fun (ρ':Num) (ha:Agree n ρ ρ')=>k2g (off:=off) (r':= .ints kd' (ns.take off++(xs.drop o).take m++ns.drop (off+m))) (news:=((xs.drop o).take m).map (zO3 kd')) (hS ρ' ha)
  (rvL_pure _ _ (by rw [C9,zzA10]; intro x hx; obtain⟨y,_,rfl⟩:=zzA43.1 hx; rfl)) hget (by simp only [B9,hlen,Row.list]; omega) (fun x hx=>by
   obtain⟨y,_,rfl⟩:=zzA43.1 hx
   rfl) hr0 (by simp only [Row.list,jK,eZ,gD,B9,A9,D5]; congr 2; omega) ((hat ρ' ha).1.trans g1) gc
 have hcs:(Builtin.firstCells i.size (Nat.min m dn) (.slice (some ⟨b3,o,none⟩) m c3)).run P w= .ok (((xs.drop o).take m).map (zO3 kd')).toArray w:=by
  have hmm:Nat.min m dn=m:=B2 hmd
  rw [hmm,hs1]
  have:=h0g (P:=P) w ⟨b3,o,none⟩ (((xs.drop o).take m).map (zO3 kd')) (fun q v hq=>by
   rw [o8]
   rw [S8] at hq
   cases hv:((xs.drop o).take m)[q]? with
   | none=>rw [hv] at hq; cases hq
   | some y=>
    rw [hv] at hq
    cases hq
    rw [T5] at hv
    split at hv
    case isFalse=>cases hv
    rw [S3] at hv
    have hlt:=(zzA1.1 hv).1
    rw [gx (o+q) hlt]
    simp [List.getD,hv])
  rw [B9,hlen] at this
  simpa [Builtin.firstCells] using this
 have hrun:=O4 (P:=P) w _ t t2 ty e i hu hi (.slice (some ⟨b3,o,none⟩) m c3) m dn c1 (by simp [Builtin.lenOf]) _ hcs (some ⟨b1,off,none⟩) (fun a ha=>by cases ha; exact (hput ρ (Agree.refl _ _)).1) (fun h=>by cases h)
 refine⟨.int .i64 (Nat.min m dn:Nat),_,ρ,Agree.refl _ _,?_,(hput ρ (Agree.refl _ _)).2.2,fun ρ' ha=>⟨?_,(hput ρ' ha).2.1⟩⟩
 ·simp only [rvL,q1,q3]
  exact hrun
 ·have hmm:Nat.min m dn=m:=B2 hmd
  simp only [rv,hmm]
def l2l:Builtin->Bool
 | .copy=>true
 | .unsafeString=>true
 | _=>false
def g1q (P:Program) (auto:Bool) (b:Builtin) (ts:List TypeId) (H:Heap) (args:List Value):Option (Value×Heap×List Prop):=
 match b with
 | .copy=>match n0r P auto ts H args with
  | some r=>some r
  | none=>match e1b P ts H args with
   | some (v,h)=>some (v,h,[])
   | none=>none
 | .unsafeString=>d0x P ts H args
 | _=>none
theorem j0l {P:Program} {auto:Bool} {b:Builtin} {ts:Array TypeId} {H H':Heap} {n:Nat} {args:List Value} {v:Value} {l:List Prop} (h:g1q P auto b ts.toList H args=some (v,H',l)) (hl:d9 l)
  {B:Nat} {M:Nat->Prop} {ρ:Num} {w:World} (hS:∀ ρ',Agree n ρ ρ'->Sim P B M ρ' H w) (hA:∀ ρ',Agree n ρ ρ'->rvL ρ' args=rvL ρ args) (ty:TypeId) (cs:Array Bool):
  ∃ v' w' ρ1,Agree n ρ ρ1∧(builtin b ts ty cs (rvL ρ args).toArray).run P w= .ok (.value v') w'∧Keeps B M w w'∧∀ ρ',Agree n ρ1 ρ'->v'=rv ρ' v∧Sim P B M ρ' H' w':=by
 have:(ts.toList.toArray:Array TypeId)=ts:=by simp
 unfold g1q at h
 split at h
 ·split at h
  ·rename_i hc
   cases h
   obtain⟨v',w',ρ1,h1,h2,h3,h4⟩:=c0z hc hl hS hA ty
   refine⟨v',w',ρ1,h1,?_,h3,h4⟩
   rw [this] at h2
   simp [builtin,h2]
  split at h
  case h_2=>cases h
  rename_i hc
  cases h
  obtain⟨v',w',ρ1,h1,h2,h3,h4⟩:=k0t hc hS hA ty
  refine⟨v',w',ρ1,h1,?_,h3,h4⟩
  rw [this] at h2
  simp [builtin,h2]
 ·obtain⟨v',w',ρ1,h1,h2,h3,h4⟩:=yC h hl hS hA ty
  refine⟨v',w',ρ1,h1,?_,h3,h4⟩
  rw [this] at h2
  simp [builtin,h2]
 ·cases h
def s2b (P:Program) (auto:Bool) (ev:Operand->Option Value) (o:Op):Option (TypeId×IntKind×List Int×Nat×List Prop):=
 match o with
 | .convert s d x=>match ev x with
  | some (.string b)=>match W0 P s,W0 P d with
   | some .string,some (.slice e)=>match W0 P e with
    | some (.int .u8)=>match auto with
     | true=>match Nat.ble b.data.toList.length 9223372036854775807 with
      | true=>some (e, .u8,X8 b.data.toList,b.data.toList.length,[])
      | false=>none
     | false=>some (e, .u8,X8 b.data.toList,b.data.toList.length,[b.data.toList.length<=9223372036854775807])
    | _=>none
   | _,_=>none
  | _=>none
 | .makeSlice t len cap=>match auto with
  | true=>none
  | false=>match ev len,ev cap with
   | some (.int _ l),some (.int _ c)=>match W0 P t with
    | some (.slice e)=>match W0 P e,fQ P e with
     | some (.int k),some inf=>match inf.zero with
      | some z=>match z with
       | .int k' (.ofNat 0)=>match decide (k'=k) && zO0 inf.size 1 with
        | true=>some (e,k,zO6 l.toNat 0,l.toNat,[0<=l∧c=l∧(inf.bytes:Int)*l<=281474976710656∧l<=9223372036854775807])
        | false=>none
       | _=>none
      | none=>none
     | _,_=>none
    | _=>none
   | _,_=>none
 | _=>none
theorem p1j {P:Program} {s d e:TypeId} {b:ByteArray} (hs:P.underlying s=some .string) (hd:P.underlying d=some (.slice e)) (he:P.underlying e=some (.int .u8)) (hl:b.size<=maxLen)
  {B:Nat} {M:Nat->Prop} {w:World} (hB:B<=w.heap.size) (n:Nat):
  ∃ w' cap,(convert s d (.string b)).run P w= .ok (.slice (some ⟨w.heap.size,0,none⟩) b.size cap) w'∧Keeps B M w w'∧∀ (ρ':Num) (H:Heap),Sim P B M ρ' H w->ρ' n=some w.heap.size->ρ' (n+1)=some cap->
   Sim P B M ρ' ((n, .row e 1 (.ints .u8 (X8 b.data.toList)) (n+1)) ::H) w':=by
 refine⟨Lib.bytesWorld w e b,_,Lib.run_convert_string_bytes w s d e b hs hd he,⟨?_,?_,?_,?_,fun k hk _=>Lib.bytesWorld_at_old w e b k (by omega)⟩,fun ρ' H hS h1 h2=> ?_⟩
 ·unfold Lib.bytesWorld World.freeze; split <;> rfl
 ·unfold Lib.bytesWorld World.freeze; split <;> rfl
 ·unfold Lib.bytesWorld World.freeze; split <;> rfl
 ·rw [Lib.bytesWorld_size]; omega
 have hge:=grownCap_ge w b.size 0 e
 have hsz:(Lib.bytesCells w e b).size=grownCap w b.size 0 e*1:=by
  have hbs:b.data.size=b.size:=rfl
  simp only [Lib.bytesCells,Array.size_append,Array.size_map,j0z,hbs]
  omega
 have hll:(X8 b.data.toList).length=b.size:=by rw [rR,B9,cT]; rfl
 refine Sim.row hS (fun i o _ hi=>⟨hi,fun e=> ?_⟩) h1 h2 ⟨_,Lib.bytesWorld_at_new w e b, .inr (d7 _)⟩ (.inl hB) (grownCap_le_maxLen w _ _ e hl) hsz ?_ ?_ (fun k hk _=>Lib.bytesWorld_at_old w _ b k hk)
 ·have:=hS.obj i o hi
  rw [e] at this
  exact absurd this.lt (o0w _)
 ·simp only [Row.list,B9,hll]; omega
 ·simp only [Row.list,B9,hll]
  have e1:rvL ρ' ((X8 b.data.toList).map (zO3 .u8))=(b.data.map fun c=>zO3 .u8 c.toNat).toList:=by
   rw [rR,l9,yE,List.map_map,List.map_map]
   refine List.map_congr_left fun c _=> ?_
   simp [rv]
  rw [e1,Lib.bytesCells,w0v]
  have e2:b.size=(b.data.map fun c=>zO3 .u8 c.toNat).toList.length:=by rw [cT,Array.size_map]; rfl
  rw [e2]
  exact fM
theorem a0k (k:IntKind):∀ c,qD [zO3 k 0] c=(zO6 c 0).map (zO3 k)
 | 0=>rfl
 | c+1=>by simp [qD,a0k k c,List.replicate_succ]
theorem g2y {P:Program} {auto:Bool} {ev:Operand->Option Value} {a:Operand->Value} {o:Oper} {e:TypeId} {k:IntKind} {ns:List Int} {m:Nat} {ob:List Prop} (h:s2b P auto ev o.op=some (e,k,ns,m,ob)) (hl:d9 ob)
  {ρ:Num} (he:∀ x∈o.op.operands.toList,∀ y,ev x=some y->a x=rv ρ y) {B:Nat} {M:Nat->Prop} {w:World} (hB:B<=w.heap.size) (n:Nat):
  (∀ c,o.op≠ .defer c)∧∃ w' cap,(execOp a o).run P w= .ok (.value (.slice (some ⟨w.heap.size,0,none⟩) m cap)) w'∧Keeps B M w w'∧∀ (ρ':Num) (H:Heap),Sim P B M ρ' H w->ρ' n=some w.heap.size->ρ' (n+1)=some cap->
   Sim P B M ρ' ((n, .row e 1 (.ints k ns) (n+1)) ::H) w':=by
 unfold s2b at h
 simp only [w8,x6] at h
 split at h
 ·rename_i s d x ho
  split at h
  case h_2=>cases h
  rename_i b hx
  split at h
  case h_2=>cases h
  rename_i e0 hs hd
  split at h
  case h_2=>cases h
  rename_i he0
  have hb:b.size<=maxLen∧e0=e∧IntKind.u8=k∧X8 b.data.toList=ns∧b.data.toList.length=m:=by
   split at h
   ·split at h
    case h_2=>cases h
    rename_i hle
    cases h
    have hle:=iU hle
    rw [cT] at hle
    exact⟨hle,rfl,rfl,rfl,rfl⟩
   ·cases h
    have hle:b.data.toList.length<=9223372036854775807:=hl.1
    rw [cT] at hle
    exact⟨hle,rfl,rfl,rfl,rfl⟩
  obtain⟨hle,rfl,rfl,rfl,rfl⟩:=hb
  obtain⟨w',cap,hrun,hk,hsim⟩:=p1j (P:=P) (M:=M) hs hd he0 hle hB n
  refine⟨(by rw [ho]; intro c hc; cases hc),w',cap,?_,hk,hsim⟩
  simp only [execOp,ho,p8]
  rw [he x (by rw [ho]; simp [zO5]) _ hx]
  simp only [rv,hrun,cT]
  rfl
 ·rename_i t len cap ho
  split at h
  ·cases h
  split at h
  case h_2=>cases h
  rename_i kl l kc c hlen hcap
  split at h
  case h_2=>cases h
  rename_i e0 ht
  split at h
  case h_2=>cases h
  rename_i k0 inf hk hinf
  split at h
  case h_2=>cases h
  rename_i z hz
  split at h
  case h_2=>cases h
  rename_i k'
  split at h
  case h_2=>cases h
  rename_i hc
  simp only [x5,aO,y8] at hc
  obtain⟨rfl,hsz⟩:=hc
  cases h
  obtain⟨h0,rfl,h1,h2⟩:=hl.1
  have hrun:=run_make (P:=P) w t e inf (.int k 0) ht hinf hz kl kc c c h0 (xY _) h1 h2
  rw [v0k (z:=(zO3 k 0).cells) (by rw [hsz]; rfl)] at hrun
  have hml:qD (zO3 k 0).cells.toList c.toNat=(zO6 c.toNat 0).map (zO3 k):=a0k k c.toNat
  rw [hml] at hrun
  refine⟨(by rw [ho]; intro c hc; cases hc),w.alloc (.cells ((zO6 c.toNat 0).map (zO3 k)).toArray e),c.toNat,?_,n5 ((X1 _ _).alloc (d7 _) _) hB,fun ρ' H hS g1 g2=> ?_⟩
  ·simp only [execOp,ho]
   rw [he len (by simp [ho,zO5]) _ hlen,he cap (by simp [ho,zO5]) _ hcap]
   simp only [rv,p8,hrun]
   rfl
  ·have e1:rvL ρ' ((zO6 c.toNat (0:Int)).map (zO3 k))=(zO6 c.toNat (0:Int)).map (zO3 k):=rvL_pure _ _ (by rw [C9]; simp [z7])
   refine Sim.row hS (fun i o _ hi=>⟨hi,fun e=> ?_⟩) g1 g2 (.of (c1r _ _)) (.inl hB) (by unfold maxLen; omega) (by simp) (by simp [Row.list]) ?_ (fun k hk _=>heap_alloc_old _ _ hk)
   ·have:=hS.obj i o hi
    rw [e] at this
    exact absurd this.lt (o0w _)
   ·simp only [Row.list]
    rw [e1]
    simp
 ·cases h
end
noncomputable section
abbrev KV:=List (Nat×Bool)
def c1o:KV->Nat->Bool
 | [],_=>false
 | (j,_) ::r,i=>zO0 j i || c1o r i
def KVok (kv:KV) (β:Nat->Bool):Prop:=∀ p∈kv,β p.1=p.2
theorem KVok.cons {j:Nat} {b:Bool} {kv:KV} {β:Nat->Bool} (h:KVok ((j,b) ::kv) β):β j=b∧KVok kv β:=
 ⟨h (j,b) (by simp),fun p hp=>h p (by simp [hp])⟩
def l1h (os:List Oper) (j:Nat):Option Nat:=match os[j]? with
 | some o=>o.dst
 | none=>none
def J9 (auto:Bool) (os:List Oper) (o:Oper) (tmps:List TV) (kv:KV):Option (Bool×List TV×KV×List (Nat×Bool)):=
 match o.guard with
 | none=>some (false,tmps,kv,[])
 | some (j,want)=>
  match l1h os j with
  | none=>none
  | some d=>
   match A1 tmps d with
   | .v x=>match auto with
    | true=>match x with
     | .bool b=>match w1z b want with
      | true=>some (false,tmps,kv,[])
      | false=>some (true,tmps,kv,[])
     | .tuple _=>some (true,tmps,kv,[])
     | _=>none
    | false=>match x with
     | .bool b=>match c1o kv j with
      | false=>some (false,gU tmps d (.key j [] b),(j,b) ::kv,[(j,want)])
      | true=>none
     | _=>none
   | .sp l x=>match x with
    | .bool b=>match c1o kv j with
     | false=>some (false,gU tmps d (.key j l b),(j,b) ::kv,(j,want) ::l)
     | true=>none
    | _=>none
   | .key j' l _=>match zO0 j' j with
    | true=>some (false,tmps,kv,(j,want) ::l)
    | false=>none
   | .unk=>none
theorem x0k (os:List Oper) (j:Nat):((⟨os⟩:Array Oper)[j]?).bind (·.dst)=l1h os j:=by
 unfold l1h
 simp only [List.getElem?_toArray]
 cases os[j]? <;> rfl
theorem z0u {os:List Oper} {tmps:Array Value} {j d:Nat} (h:l1h os j=some d):yielded ⟨os⟩ tmps j=(match tmps.getD d undef with | .bool b=>some b | _=>none):=by
 unfold yielded
 rw [x0k,h]
 simp only [Option.bind_some]
 rw [Array.getD_eq_getD_getElem?]
 cases tmps[d]? with
 | none=>rfl
 | some v=>cases v <;> rfl
theorem lK (β:Nat->Bool):V β [] :=fun _ h=>by cases h
theorem V_cons {β:Nat->Bool} {p:Nat×Bool} {l:List (Nat×Bool)} :V β (p ::l)↔β p.1=p.2∧V β l:=
 ⟨fun h=>⟨h p (by simp),fun q hq=>h q (by simp [hq])⟩,fun ⟨h1,h2⟩ q hq=>by
  rcases zzA84.1 hq with rfl | hq
  ·exact h1
  ·exact h2 q hq⟩
def looks (os:List Oper) (o:Oper):List Nat:=o.looksAt ⟨os⟩
theorem r0u {os:List Oper} {o:Oper} {j d:Nat} {want:Bool} (hg:o.guard=some (j,want)) (hd:l1h os j=some d):d∈looks os o:=by
 unfold looks Oper.looksAt
 rw [hg]
 simp only [x0k,hd]
 simp
theorem N1 (ts:List TV) (d t:Nat) (x:TV) (hd:d < ts.length):A1 (ts.set d x) t=if d=t then x else A1 ts t:=by
 simp only [K1]
 by_cases h:d=t
 ·subst h; simp [hd]
 ·simp [h]
theorem C7 {auto:Bool} {os:List Oper} {o:Oper} {tmps tmps':List TV} {kv kv':KV} {sk:Bool} {conds:List (Nat×Bool)} (h:J9 auto os o tmps kv=some (sk,tmps',kv',conds))
  {ρ:Num} {β:Nat->Bool} (hk:KVok kv' β) {a:Array Value} (hT:∀ t∈looks os o,KVok kv β->E7 ρ β (A1 tmps t) (a.getD t undef)):
  KVok kv β∧(sk=true->Region.wanted o (yielded ⟨os⟩ a)=false)∧(sk=false->(Region.wanted o (yielded ⟨os⟩ a)=true↔V β conds))∧
  (∀ t r,E7 ρ β (A1 tmps t) r↔E7 ρ β (A1 tmps' t) r):=by
 unfold J9 at h
 simp only [B5] at h
 split at h
 ·rename_i hg
  cases h
  exact⟨hk,(fun h=>by cases h),fun _=>⟨fun _=>lK β,fun _=>by simp [Region.wanted,hg]⟩,fun _ _=>Q8⟩
 ·rename_i j want hg
  split at h
  case h_1=>cases h
  rename_i d hd
  have hmem:=r0u hg hd
  have hw:Region.wanted o (yielded ⟨os⟩ a)=((match a.getD d undef with | .bool b=>some b | _=>none)==some want):=by
   unfold Region.wanted
   rw [hg]
   simp only []
   rw [z0u hd]
  split at h
  ·rename_i x hx
   have hdx:KVok kv β->a.getD d undef=rv ρ x:=fun hkv=>by
    have:=hT d hmem hkv; rw [hx] at this; exact this
   split at h
   ·split at h
    ·rename_i b
     split at h
     ·rename_i hb
      cases h
      have e:=hdx hk
      simp only [rv] at e
      refine⟨hk,(fun h=>by cases h),fun _=>⟨fun _=>lK β,fun _=> ?_⟩,fun _ _=>Q8⟩
      rw [hw,e,p1b hb]; simp
     ·rename_i hb
      cases h
      have e:=hdx hk
      simp only [rv] at e
      refine⟨hk,fun _=> ?_,(fun h=>by cases h),fun _ _=>Q8⟩
      rw [hw,e]
      revert hb
      cases b <;> cases want <;> simp [w1z]
    ·rename_i y
     cases h
     have e:=hdx hk
     simp only [rv] at e
     refine⟨hk,fun _=> ?_,(fun h=>by cases h),fun _ _=>Q8⟩
     rw [hw,e]; rfl
    ·cases h
   ·split at h
    ·rename_i b
     split at h
     case h_2=>cases h
     cases h
     obtain⟨hj,hkv⟩:=hk.cons
     have e:=hdx hkv
     simp only [rv] at e
     refine⟨hkv,(fun h=>by cases h),fun _=> ?_,fun t r=> ?_⟩
     ·rw [hw,e,V_cons]
      simp only [hj]
      constructor
      ·intro hh; exact⟨by simpa using hh,lK β⟩
      ·intro hh; simpa using hh.1
     ·by_cases hdt:d=t
      ·subst hdt
       by_cases hlen:d < tmps.length
       ·rw [N1 _ _ _ _ hlen,b9 rfl,hx]
        constructor
        ·intro ht; exact⟨hj,fun _=>by simpa [E7,rv] using ht,fun hn=>absurd (lK β) hn⟩
        ·intro ht; have:=ht.2.1 (lK β); simpa [E7,rv] using this
       ·rw [fL (by omega)]
      ·by_cases hlen:d < tmps.length
       ·rw [N1 _ _ _ _ hlen,a6 hdt]
       ·rw [fL (by omega)]
    ·cases h
  ·rename_i l x hx
   split at h
   case h_2=>cases h
   rename_i b
   split at h
   case h_2=>cases h
   cases h
   obtain⟨hj,hkv⟩:=hk.cons
   have e:=hT d hmem hkv
   rw [hx] at e
   simp only [E7,rv] at e
   refine⟨hkv,(fun h=>by cases h),fun _=> ?_,fun t r=> ?_⟩
   ·rw [hw,V_cons]
    simp only [hj]
    by_cases hV:V β l
    ·rw [e.1 hV]
     constructor
     ·intro hh; exact⟨by simpa using hh,hV⟩
     ·intro hh; simpa using hh.1
    ·rw [e.2 hV]
     constructor
     ·intro hh; simp [undef] at hh
     ·intro hh; exact absurd hh.2 hV
   ·by_cases hdt:d=t
    ·subst hdt
     by_cases hlen:d < tmps.length
     ·rw [N1 _ _ _ _ hlen,b9 rfl,hx]
      simp only [E7,rv]
      constructor
      ·intro ht; exact⟨hj,ht.1,ht.2⟩
      ·intro ht; exact⟨ht.2.1,ht.2.2⟩
     ·rw [fL (by omega)]
    ·by_cases hlen:d < tmps.length
     ·rw [N1 _ _ _ _ hlen,a6 hdt]
     ·rw [fL (by omega)]
  ·rename_i j' l b hx
   split at h
   case h_2=>cases h
   rename_i hjj
   cases h
   have hjj:=S6 hjj
   subst hjj
   have e:=hT d hmem hk
   rw [hx] at e
   obtain⟨e0,e1,e2⟩:=e
   refine⟨hk,(fun h=>by cases h),fun _=> ?_,fun _ _=>Q8⟩
   rw [hw,V_cons]
   simp only [e0]
   by_cases hV:V β l
   ·rw [e1 hV]
    constructor
    ·intro hh; exact⟨by simpa using hh,hV⟩
    ·intro hh; simpa using hh.1
   ·rw [e2 hV]
    constructor
    ·intro hh; simp [undef] at hh
    ·intro hh; exact absurd hh.2 hV
  ·cases h
def bL (x:Option Value):Option Bool:=match x with
 | some (.bool b)=>some b
 | _=>none
def v0h (auto:Bool) (tmps:List TV) (g:List (Nat×Bool)) (c x y:Operand):Option Value:=
 match c with
 | .tmp t=>
  match A1 tmps t with
  | .key j l bc=>match h2v l g with
   | false=>none
   | true=>match bL (evo tmps ((j,true) ::g) x),bL (evo tmps ((j,false) ::g) y) with
    | some p,some q=>some (.bool (match bc with | true=>p | false=>q))
    | _,_=>none
  | .v z=>match z with
   | .bool bc=>match auto with
    | true=>match bc with
     | true=>evo tmps g x
     | false=>evo tmps g y
    | false=>match bL (evo tmps g x),bL (evo tmps g y) with
     | some p,some q=>some (.bool (match bc with | true=>p | false=>q))
     | _,_=>none
   | _=>none
  | .sp l z=>match z with
   | .bool bc=>match h2v l g with
    | false=>none
    | true=>match bL (evo tmps g x),bL (evo tmps g y) with
     | some p,some q=>some (.bool (match bc with | true=>p | false=>q))
     | _,_=>none
   | _=>none
  | .unk=>none
 | _=>none
theorem R4 {ρ:Num} {β:Nat->Bool} {tmps:List TV} {c:List (Nat×Bool)} {a:Act} {P:Program} {B:Nat} {M:Nat->Prop} {H:Heap} {w:World} (hS:Sim P B M ρ H w) (hc:V β c) {x:Operand} {y:Value} (h:evo tmps c x=some y)
  (hT:∀ t,x= .tmp t->E7 ρ β (A1 tmps t) (a.tmps.getD t undef)) (hg:∀ g,x= .global g->g < P.globals.size):a.eval x=rv ρ y:=by
 cases x with
 | tmp t=>exact r1c h hc (hT t rfl)
 | const v=>
  simp only [evo] at h
  split at h
  ·rename_i hp; cases h; exact (B1 ρ _ hp).symm
  ·cases h
 | global g=>
  simp only [evo] at h
  cases h
  simp [Act.eval,rv,r8,hS.glob g (hg g rfl)]
 | func f=>simp only [evo] at h; cases h; simp [Act.eval,rv,rvA,rvL,rFn]
theorem I9 {x:Option Value} {b:Bool} (h:bL x=some b):x=some (.bool b):=by
 unfold bL at h
 split at h
 ·cases h; rfl
 ·cases h
def jS:Operand->Bool
 | .global _=>false
 | _=>true
theorem oG {P:Program} {B:Nat} {M:Nat->Prop} {H:Heap} {auto:Bool} {ρ:Num} {β:Nat->Bool} {tmps:List TV} {g:List (Nat×Bool)} {a:Act} {w:World} (hS:Sim P B M ρ H w) (hc:V β g) {c x y:Operand} {v:Value}
  (h:v0h auto tmps g c x y=some v) (hT:∀ t,(c= .tmp t∨x= .tmp t∨y= .tmp t)->E7 ρ β (A1 tmps t) (a.tmps.getD t undef)) (hx:jS x=true) (hy:jS y=true):
  ((do pure (.value (if <- asBool (a.eval c) then a.eval x else a.eval y)):Sem Next)).run P w= .ok (.value (rv ρ v)) w:=by
 have hgx:∀ g,x= .global g->g < P.globals.size:=fun g e=>by subst e; cases hx
 have hgy:∀ g,y= .global g->g < P.globals.size:=fun g e=>by subst e; cases hy
 have ex:∀ {G:List (Nat×Bool)} {z:Value},V β G->evo tmps G x=some z->a.eval x=rv ρ z:=fun hG he=>R4 hS hG he (fun t e=>hT t (.inr (.inl e))) hgx
 have ey:∀ {G:List (Nat×Bool)} {z:Value},V β G->evo tmps G y=some z->a.eval y=rv ρ z:=fun hG he=>R4 hS hG he (fun t e=>hT t (.inr (.inr e))) hgy
 have fin:∀ b:Bool,a.eval c= .bool b->(if b then a.eval x else a.eval y)=rv ρ v->((do pure (.value (if <- asBool (a.eval c) then a.eval x else a.eval y)):Sem Next)).run P w= .ok (.value (rv ρ v)) w:=by
  intro b hb hv
  rw [hb,<- hv]
  rfl
 unfold v0h at h
 split at h
 case h_2=>cases h
 rename_i t
 have hTc:=hT t (.inl rfl)
 split at h
 ·rename_i j l bc hx'
  rw [hx'] at hTc
  obtain⟨h0,h1,h2⟩:=hTc
  split at h
  case h_1=>cases h
  rename_i hs
  have hcb:a.eval (.tmp t)= .bool bc:=h1 (X6 hs hc)
  split at h
  case h_2=>cases h
  rename_i p q hp hq
  cases h
  refine fin bc hcb ?_
  cases bc
  ·have:=ey (G:=(j,false) ::g) (V_cons.2 ⟨h0,hc⟩) (I9 hq)
   simp [this]
  ·have:=ex (G:=(j,true) ::g) (V_cons.2 ⟨h0,hc⟩) (I9 hp)
   simp [this]
 ·rename_i z hx'
  rw [hx'] at hTc
  split at h
  case h_2=>cases h
  rename_i bc
  have hcb:a.eval (.tmp t)= .bool bc:=by
   simp only [E7,rv] at hTc
   exact hTc
  split at h
  ·split at h
   ·exact fin true hcb (by simpa using ex hc h)
   ·exact fin false hcb (by simpa using ey hc h)
  ·split at h
   case h_2=>cases h
   rename_i p q hp hq
   cases h
   refine fin bc hcb ?_
   cases bc
   ·have:=ey hc (I9 hq)
    simp [this]
   ·have:=ex hc (I9 hp)
    simp [this]
 ·rename_i l z hx'
  rw [hx'] at hTc
  split at h
  case h_2=>cases h
  rename_i bc
  split at h
  case h_1=>cases h
  rename_i hs
  have hcb:a.eval (.tmp t)= .bool bc:=by
   have:=hTc.1 (X6 hs hc)
   simp only [rv] at this
   exact this
  split at h
  case h_2=>cases h
  rename_i p q hp hq
  cases h
  refine fin bc hcb ?_
  cases bc
  ·have:=ey hc (I9 hq)
   simp [this]
  ·have:=ex hc (I9 hp)
   simp [this]
 ·cases h
def mK (P:Program) (o:Oper):Bool:=o.op.operands.toList.all fun x=>match x with
 | .global g=>zO1 g P.globals.size
 | _=>true
def a3j:Option Value->TV
 | some x=> .v x
 | none=> .unk
theorem Rep.known {P:Program} {J:Inv P} {B:Nat} {M:Nat->Prop} {w0:Bas} {rb:Option Nat} {s:St} {a:Act} {w:World} (h:Rep P J B M w0 rb s a w) {l:Nat} {o:AObj} (hl:s.heap.get l=some o):l < s.nid∨(∃ xs k,o= .ints k xs)∨(∃ xs,o= .ro xs)∨(∃ f m sz b,o= .fam f m sz b)∨∃ e sz r k,o= .row e sz r k:=by
 obtain⟨ρ,_,hρ⟩:=h.rep
 rcases E0 l s.nid with h1 | h1
 ·exact .inl h1
 ·have:=(hρ (fun i=>if i=l then none else ρ i) (fun i hi=>by simp [show i≠l by omega])).1.obj l o hl
  simp only [J3] at this
  cases o with
  | row e sz r k=>exact .inr (.inr (.inr (.inr ⟨e,sz,r,k,rfl⟩)))
  | fam f m sz b=>exact .inr (.inr (.inr (.inl ⟨f,m,sz,b,rfl⟩)))
  | ro xs=>exact .inr (.inr (.inl ⟨xs,rfl⟩))
  | ints k xs=>exact .inr (.inl ⟨xs,k,rfl⟩)
  | cells cs t=>obtain⟨b,h,_⟩:=this; cases h
  | iter s p=>obtain⟨b,h,_⟩:=this; cases h
  | loop st pn ts ps asg bd=>obtain⟨b,r,h,_⟩:=this; cases h
  | defr=>obtain⟨b,h,_⟩:=this; cases h
  | dead=>obtain⟨b,r,h,_⟩:=this; cases h
  | map es=>obtain⟨b,mes,ck,h,_⟩:=this; cases h
theorem Rep.loop' {P:Program} {J:Inv P} {B:Nat} {M:Nat->Prop} (hp:Par P B M) {w0:Bas} {rb:Option Nat} {s:St} {a:Act} {w:World} (h:Rep P J B M w0 rb s a w) {ρ:Num} (hρ0:w0.n<=s.nid∧Agree w0.n w0.ρ ρ) (hρ:∀ ρ',Agree s.nid ρ ρ'->Sim P B M ρ' s.heap w∧FR ρ' rb s a∧∀ t x,A1 s.tmps t= .v x->a.tmps.getD t undef=rv ρ' x) {l:Nat} {st:LoopState} {pn:Option Code} {ts:List (Option Value)} {ps:List Nat} {asg bd:Code} (hl:s.heap.get l=some (.loop st pn ts ps asg bd)):
  ∃ b r,w.heap[b]? =some (.loop r)∧r.state=st∧r.pending=pn∧r.params=⟨ps⟩∧r.assign=asg∧r.body=bd∧(∀ ρ',Agree s.nid ρ ρ'->ρ' l=some b)∧l < s.nid∧
   ∀ st' pn' (s':St),s'.tmps=s.tmps->s'.heap=s.heap.set l (.loop st' pn' ts ps asg bd)->s'.nid=s.nid->s'.rd=s.rd->s'.mks=s.mks->s'.bs=s.bs->Rep P J B M w0 rb s' a (w.putObj b (.loop { r with state:=st',pending:=pn' })):=by
 have hlt:l < s.nid:=(h.known hl).elim id (fun h=>by rcases h with ⟨_,_,h⟩ | ⟨_,h⟩ | ⟨_,_,_,_,h⟩ | ⟨_,_,_,_,h⟩ <;> cases h)
 obtain⟨b,r,hb,hw,hr,hown⟩:=(hρ ρ (Agree.refl _ _)).1.obj l _ hl
 have hbl:∀ ρ',Agree s.nid ρ ρ'->ρ' l=some b:=fun ρ' ha=>(ha l hlt).trans hb
 refine⟨b,r,hw,hr.1,hr.2.1,hr.2.2.1,hr.2.2.2.1,hr.2.2.2.2.1,hbl,hlt,fun st' pn' s' e1 e2 e3 e4 e5 e6=> ?_⟩
 have hk:Keeps B M w (w.putObj b (.loop { r with state:=st',pending:=pn' })):=
  ⟨rfl,rfl,rfl,by simp,fun k hk hm=>x0d (fun e=>by subst e; exact hown.elim (fun h=>by omega) (fun h=>hm h))⟩
 refine⟨by rw [e6]; exact h.low,by rw [e1]; exact h.plain,by rw [e1]; exact h.size,x7 h.base hk.size,J.keeps hp hk h.inv,h.keeps.trans hk,ρ,by rw [e3]; exact hρ0,fun ρ' ha=> ?_⟩
 rw [e3] at ha
 obtain⟨g1,g2,g3⟩:=hρ ρ' ha
 refine⟨?_,⟨by rw [e5]; exact g2.defers,by rw [e4]; exact g2.round⟩,by rw [e1]; exact g3⟩
 rw [e2]
 refine g1.turn hl rfl (hbl ρ' ha) ?_ (fun k hk=>x0d hk)
 obtain⟨b',r',hb',hw',hr',_⟩:=g1.obj l _ hl
 rw [hbl ρ' ha] at hb'
 cases hb'
 rw [hw] at hw'
 cases hw'
 exact⟨b,_,rfl,World.putObj_heap_same (l4 hw),⟨rfl,rfl,hr'.2.2⟩,hown⟩
theorem Rep.loop {P:Program} {J:Inv P} {B:Nat} {M:Nat->Prop} (hp:Par P B M) {w0:Bas} {rb:Option Nat} {s:St} {a:Act} {w:World} (h:Rep P J B M w0 rb s a w) {l:Nat} {st:LoopState} {pn:Option Code} {ts:List (Option Value)} {ps:List Nat} {asg bd:Code} (hl:s.heap.get l=some (.loop st pn ts ps asg bd)):
  ∃ b r,w.heap[b]? =some (.loop r)∧r.state=st∧r.pending=pn∧r.params=⟨ps⟩∧r.assign=asg∧r.body=bd∧(∀ ρ',Agree s.nid h.rep.choose ρ'->ρ' l=some b)∧l < s.nid∧
   ∀ st' pn' (s':St),s'.tmps=s.tmps->s'.heap=s.heap.set l (.loop st' pn' ts ps asg bd)->s'.nid=s.nid->s'.rd=s.rd->s'.mks=s.mks->s'.bs=s.bs->Rep P J B M w0 rb s' a (w.putObj b (.loop { r with state:=st',pending:=pn' })):=
 h.loop' hp h.rep.choose_spec.1 h.rep.choose_spec.2 hl
def p1w (X:Cx) (ev:Operand->Option Value) (op:Op):Option (List Prop):=match op with
 | .convert s d x=>match ev x with
  | some (.float .f32 n)=>match X.xt 4294967295 [] [] 0 with
   | none=>none
   | some _=>match W0 X.P s,W0 X.P d with
    | some _,some (.float .f64)=>some [(match FloatKind.f32.decode n with | .nan _ _=>true | _=>false)=true]
    | _,_=>none
  | _=>none
 | _=>none
theorem a0h (w:World):Below w.heap.size w w.drew:=⟨rfl,rfl,rfl,d7 _,fun _ _=>rfl⟩
theorem a1q {X:Cx} {ev:Operand->Option Value} {o:Oper} {l:List Prop} (h:p1w X ev o.op=some l) (hl:d9 l) {ρ:Num} {a:Act} (hev:∀ x∈o.op.operands.toList,∀ y,ev x=some y->a.eval x=rv ρ y) (w:World):
  (∀ c,o.op≠ .defer c)∧(execOp a.eval o).run X.P w= .ok (.value (.float .f64 (z1a (w.tape w.drawn (.nanConv .f64 (match o.op with | .convert _ _ x=>(match ev x with | some (.float .f32 n)=>n | _=>0) | _=>0)))))) w.drew:=by
 unfold p1w at h
 split at h
 case h_2=>cases h
 rename_i s d x ho
 split at h
 case h_2=>cases h
 rename_i n hx
 split at h
 ·cases h
 simp only [w8] at h
 split at h
 case h_2=>cases h
 rename_i u hs hd
 cases h
 refine⟨(by rw [ho]; intro c hc; cases hc),?_⟩
 have hxm:x∈o.op.operands.toList:=by rw [ho]; simp [zO5]
 have e1:=hev x hxm _ hx
 simp only [rv] at e1
 have h1:=hl.1
 cases hd2:FloatKind.f32.decode n with
 | number _ _ _=>rw [hd2] at h1; cases h1
 | infinity _=>rw [hd2] at h1; cases h1
 | nan s' f'=>
  simp only [execOp,ho,e1]
  cases u <;> simp [convert,run_underlying hs,run_underlying hd,Conv.floatToFloat,hd2,Question.forced,Question.cut,z1a]
def E2 (X:Cx) (q:Bool) (o:Oper) (conds:List (Nat×Bool)) (tmps:List TV) (H:Heap) (n:Nat) (ds:List Bool):Option CR:=
 match mK X.P o with
 | false=>none
 | true=>
  match p1w X (evo tmps conds) o.op with
  | some ob=>match q with
   | true=>none
   | false=>some ⟨.complex .f64 n 0,H,n+1,ob,ds⟩
  | none=>
  match s2b X.P X.auto (evo tmps conds) o.op with
  | some (e,k,ns,m,ob)=>match q with
   | true=>none
   | false=>some ⟨.slice (some ⟨n,0,some (n+1)⟩) m 0,(n, .row e 1 (.ints k ns) (n+1)) ::H,n+2,ob,ds⟩
  | none=>
  match o.op with
  | .pick c x y=>match jS x && jS y with
   | false=>none
   | true=>match v0h X.gd tmps conds c x y with
    | some v=>some ⟨v,H,n,[],ds⟩
    | none=>none
  | .call c=>match c.callee with
   | .value f=>match evo tmps conds f,fB (evo tmps conds) c.args.toList with
    | some (.func (.func fid) ⟨first⟩ ⟨cap⟩),some args=>
     match X.pc fid (first++args++cap) with
     | some (v,l)=>some ⟨v,H,n,l,ds⟩
     | none=>match q with
      | true=>none
      | false=>X.call fid (first++args++cap) H n ds
    | some (.func (.yield _) ⟨[]⟩ _),some _=>match q with
     | true=>none
     | false=>none
    | _,_=>none
   | .builtin b=>match fB (evo tmps conds) c.args.toList with
    | some args=>match d1v b with
     | true=>match q with
      | true=>none
      | false=>match T9 X.P X.auto c.argTypes.toList H n args with
       | some (v,H',l)=>some ⟨v,H',n+2,l,ds⟩
       | none=>none
     | false=>match l2l b with
      | true=>match q with
       | true=>none
       | false=>match g1q X.P X.auto b c.argTypes.toList H args with
        | some (v,H',l)=>some ⟨v,H',n,l,ds⟩
        | none=>none
      | false=>match tO X.P b c.argTypes.toList args with
       | some v=>some ⟨v,H,n,[],ds⟩
       | none=>match f1n H b args with
        | some v=>some ⟨v,H,n,[],ds⟩
        | none=>none
    | none=>none
   | _=>none
  | _=>match x0g X.P X.auto (evo tmps conds) o H n ds with
   | some r=>match I3 o.op with
    | true=>some ⟨r.v,H,n,r.obs,ds⟩
    | false=>match q with
     | false=>some ⟨r.v,r.h,n+1,r.obs,r.ds⟩
     | true=>none
   | none=>none
theorem Agree.succ {n:Nat} {ρ ρ':Num} (h:Agree (n+1) ρ ρ'):Agree n ρ ρ':=fun i hi=>h i (by omega)
theorem l0l {X:Cx} {J:Inv X.P} (hX:CxOk X J) {q:Bool} {o:Oper} {conds:List (Nat×Bool)} {tmps:List TV} {H:Heap} {n:Nat} {ds:List Bool} {r:CR} (h:E2 X q o conds tmps H n ds=some r) (hl:d9 r.obs)
  {B:Nat} {M:Nat->Prop} (hp:Par X.P B M) {ρ:Num} {β:Nat->Bool} (hc:V β conds) {a:Act} {w:World} (hB:B<=w.heap.size) (hI:J.I w)
  (hS:∀ ρ',Agree n ρ ρ'->Sim X.P B M ρ' H w) (hT:∀ ρ',Agree n ρ ρ'->∀ t, .tmp t∈o.op.operands.toList->E7 ρ' β (A1 tmps t) (a.tmps.getD t undef))
  {rb:Option Nat} {K:Act->World->Prop} {Q:Exit->Act->World->Prop}
  (hK:∀ v w' ρ1,Agree n ρ ρ1->n<=r.n->(∀ ρ',Agree r.n ρ1 ρ'->v=rv ρ' r.v∧Sim X.P B M ρ' r.h w')->Keeps B M w w'->
   (q=true->r.h=H∧r.ds=ds∧r.n=n∧Below w.heap.size w w'∧ρ1=ρ)->K (a.put o.dst v) w'):
  o.wpIn (Fl rb) 0 X.P a w K Q:=by
 unfold E2 at h
 split at h
 case h_1=>cases h
 rename_i hglob
 have hglob':∀ x∈o.op.operands.toList,∀ g,x= .global g->g < X.P.globals.size:=by
  intro x hx g e
  subst e
  have:=zzA10.1 hglob _ hx
  simpa [Nat.blt_eq] using this
 have hev:∀ ρ',Agree n ρ ρ'->∀ x∈o.op.operands.toList,∀ y,evo tmps conds x=some y->a.eval x=rv ρ' y:=fun ρ' ha x hx y hy=>
  R4 (hS ρ' ha) hc hy (fun t e=>hT ρ' ha t (e ▸ hx)) (hglob' x hx)
 have still:∀ {v:Value},(∀ ρ',Agree n ρ ρ'->(execOp a.eval o).run X.P w= .ok (.value (rv ρ' v)) w)->(∀ c,o.op≠ .defer c)->r.v=v->r.h=H->r.n=n->r.ds=ds->o.wpIn (Fl rb) 0 X.P a w K Q:=by
  intro v h1 hnd h2 h3 h4 h5
  refine G0 hnd ?_
  rw [h1 ρ (Agree.refl _ _),mH]
  refine hK _ w ρ (Agree.refl _ _) (by omega) (fun ρ' ha=> ?_) (Keeps.refl _ _ _) (fun _=>⟨h3,h5,h4,X1 _ _,rfl⟩)
  have ha':Agree n ρ ρ':=fun i hi=>ha i (by omega)
  refine⟨?_,by rw [h3]; exact hS ρ' ha'⟩
  have e1:=h1 ρ (Agree.refl _ _)
  rw [h1 ρ' ha'] at e1
  rw [h2]
  injection e1 with e1
  injection e1 with e1
  exact e1.symm
 split at h
 ·
  rename_i ob hnc
  split at h
  ·cases h
  cases h
  obtain⟨hnd,hex⟩:=a1q (a:=a) hnc hl (hev ρ (Agree.refl _ _)) w
  refine G0 hnd ?_
  rw [hex,mH]
  refine hK _ w.drew (fun i=>if i=n then some (w.tape w.drawn (.nanConv .f64 (match o.op with | .convert _ _ x=>(match evo tmps conds x with | some (.float .f32 n)=>n | _=>0) | _=>0))) else ρ i) (fun i hi=> ?_) (by simp) (fun ρ' ha=> ?_) (n5 (a0h w) hB) (fun h=>by cases h)
  ·show (if i=n then _ else ρ i)=ρ i
   rw [a6 (by omega)]
  ·have h1:=ha n (by simp)
   simp only [J3] at h1
   refine⟨by simp only [rv,h1,T2],(hS ρ' (fun i hi=> ?_)).below (a0h w)⟩
   have:=ha i (by simp; omega)
   simp only [show i≠n by omega,D7] at this
   exact this
 split at h
 ·
  rename_i e k ns m ob hs2
  split at h
  ·cases h
  cases h
  obtain⟨hnd,w',cap,hex,hk,hsim⟩:=g2y (a:=a.eval) (M:=M) hs2 hl (hev ρ (Agree.refl _ _)) hB n
  refine G0 hnd ?_
  rw [hex,mH]
  refine hK _ w' (fun i=>if i=n then some w.heap.size else if i=n+1 then some cap else ρ i) (fun i hi=> ?_) (by simp) (fun ρ' ha=> ?_) hk (fun h=>by cases h)
  ·show (if i=n then some w.heap.size else if i=n+1 then some cap else ρ i)=ρ i
   rw [a6 (by omega),a6 (by omega)]
  ·have h1:=ha n (by simp)
   have h2:=ha (n+1) (by simp)
   simp only [J3] at h1
   simp only [show n+1≠n by omega,D7,J3] at h2
   refine⟨?_,hsim ρ' H (hS ρ' (fun i hi=> ?_)) h1 h2⟩
   ·simp only [rv,rSl,h1,h2,T2,y0t]
   ·have:=ha i (by simp; omega)
    simp only [show i≠n by omega,show i≠n+1 by omega,D7] at this
    exact this
 split at h
 ·
  rename_i c x y ho
  split at h
  case h_1=>cases h
  rename_i hng
  simp only [x5] at hng
  split at h
  case h_2=>cases h
  rename_i v hv
  cases h
  refine still (v:=v) (fun ρ' ha=> ?_) (by rw [ho]; intro c hc; cases hc) rfl rfl rfl rfl
  have:=oG (a:=a) (hS ρ' ha) hc hv (fun t e=>hT ρ' ha t (by
   rw [ho]; simp only [zO5]
   rcases e with e | e | e <;> simp [e])) hng.1 hng.2
  simp only [execOp,ho]
  exact this
 ·
  rename_i c ho
  split at h
  ·rename_i f hcal
   split at h
   case h_3=>cases h
   case h_2=>
    split at h <;> cases h
   rename_i fid first cap args hf hargs
   have hfm:f∈o.op.operands.toList:=by rw [ho]; simp [zO5,Call.operands,hcal]
   have ham:∀ x∈c.args.toList,x∈o.op.operands.toList:=fun x hx=>by rw [ho]; simp [zO5,Call.operands,hcal]; exact .inr (by simpa using hx)
   have hrunx:∀ ρ',Agree n ρ ρ'->(execOp a.eval o).run X.P w=(callFunc fid ⟨rvL ρ' (first++args++cap)⟩).run X.P w:=by
    intro ρ' ha
    have e1:=hev ρ' ha f hfm _ hf
    have e2:=u5 (a:=a.eval) (ρ:=ρ') c.args.toList args (fun x hx y hy=>hev ρ' ha x (ham x hx) y hy) hargs
    have e3:c.args.map a.eval=⟨rvL ρ' args⟩:=by apply gX; simpa using e2
    simp only [execOp,ho,resolve,hcal,e1,e3,rv,rvA,rFn,Deferred.ofValue,pure_bind,invoke]
    have e4:((⟨rvL ρ' first⟩:Array Value)++(⟨rvL ρ' args⟩:Array Value)++(⟨rvL ρ' cap⟩:Array Value))=⟨rvL ρ' (first++args++cap)⟩:=by
     simp [l9]
    rw [e4]
   have hrun:∀ ρ',Agree n ρ ρ'->Enters X.P fid->(execOp a.eval o).run X.P w= .ok (.enter fid ⟨rvL ρ' (first++args++cap)⟩) w:=by
    intro ρ' ha hent
    rw [hrunx ρ' ha]
    exact hent _ _
   split at h
   ·rename_i v l hpc
    cases h
    obtain⟨hpl,hpv,⟨hent,hcalls⟩ | hext⟩:=hX.pc _ _ _ _ hpc hl
    ·refine G0 (by rw [ho]; intro c hc; cases hc) ?_
     rw [hrun ρ (Agree.refl _ _) hent,Oper.uponIn_enter,rvL_pure ρ _ hpl]
     refine⟨fun h=>(by cases h),mJ ((hcalls w hI).mono fun e w' ⟨he,hb⟩=> ?_)⟩
     subst he
     refine hK v w' ρ (Agree.refl _ _) (d7 _) (fun ρ' ha=>⟨(B1 ρ' v hpv).symm,(hS ρ' ha).below hb⟩) (n5 hb hB) (fun _=>⟨rfl,rfl,rfl,hb,rfl⟩)
    ·refine G0 (by rw [ho]; intro c hc; cases hc) ?_
     rw [hrunx ρ (Agree.refl _ _),rvL_pure ρ _ hpl,hext w hI,mH]
     exact hK v w ρ (Agree.refl _ _) (d7 _) (fun ρ' ha=>⟨(B1 ρ' v hpv).symm,hS ρ' ha⟩) (Keeps.refl _ _ _) (fun _=>⟨rfl,rfl,rfl,X1 _ _,rfl⟩)
   ·split at h
    ·cases h
    ·rename_i hq
     obtain⟨hn,hcl⟩:=yH hX h hl
     refine l0m (by rw [ho]; intro c hc; cases hc) (hrunx ρ (Agree.refl _ _)) ((hcl B M ρ w _ hp hB hI (fun ρ' ha=>⟨hS ρ' ha,?_⟩)).mono fun e w' hh=> ?_)
     ·have e1:=hev ρ (Agree.refl _ _) f hfm _ hf
      have e1':=hev ρ' ha f hfm _ hf
      have e2:=u5 (a:=a.eval) (ρ:=ρ) c.args.toList args (fun x hx y hy=>hev ρ (Agree.refl _ _) x (ham x hx) y hy) hargs
      have e2':=u5 (a:=a.eval) (ρ:=ρ') c.args.toList args (fun x hx y hy=>hev ρ' ha x (ham x hx) y hy) hargs
      rw [e1] at e1'
      simp only [rv,rvA] at e1'
      injection e1' with _ g1 g2
      injection g1 with g1
      injection g2 with g2
      rw [e2] at e2'
      rw [Q5,Q5,Q5,Q5,g1,g2,e2']
     ·obtain⟨ρ1,v,ha1,he,hk,hfin⟩:=hh
      exact⟨v,he,hK v w' ρ1 ha1 hn hfin hk (fun hq'=>by cases hq')⟩
  ·rename_i b hcal
   split at h
   case h_2=>cases h
   rename_i args hargs
   have ham:∀ x∈c.args.toList,x∈o.op.operands.toList:=fun x hx=>by rw [ho]; simp [zO5,Call.operands,hcal]; simpa using hx
   split at h
   ·rename_i happ
    have happ:=yY happ
    subst happ
    split at h
    ·cases h
    rename_i hq
    split at h
    case h_2=>cases h
    rename_i v H' l hv
    cases h
    have e2:∀ ρ',Agree n ρ ρ'->(c.args.map a.eval).toList=rvL ρ' args:=fun ρ' ha=>by
     have:=u5 (a:=a.eval) (ρ:=ρ') c.args.toList args (fun x hx y hy=>hev ρ' ha x (ham x hx) y hy) hargs
     simpa using this
    have e3:c.args.map a.eval=(rvL ρ args).toArray:=by apply gX; exact e2 ρ (Agree.refl _ _)
    obtain⟨v',w',ρ1,ha1,hrun,hk,hfin⟩:=xI hv hl hB hS (fun ρ' ha=>(e2 ρ' ha).symm.trans (e2 ρ (Agree.refl _ _))) o.type
    refine G0 (by rw [ho]; intro c hc; cases hc) ?_
    have hex:(execOp a.eval o).run X.P w= .ok (.value v') w':=by
     simp only [execOp,ho,resolve,hcal,e3,pure_bind,invoke,builtin]
     have:(c.argTypes.toList.toArray:Array TypeId)=c.argTypes:=by simp
     rw [this] at hrun
     simp [hrun]
    rw [hex,mH]
    exact hK v' w' ρ1 ha1 (by simp) hfin hk (fun hq'=>by cases hq')
   split at h
   ·split at h
    ·cases h
    split at h
    case h_2=>cases h
    rename_i v H' l hv
    cases h
    have e2:∀ ρ',Agree n ρ ρ'->(c.args.map a.eval).toList=rvL ρ' args:=fun ρ' ha=>by
     have:=u5 (a:=a.eval) (ρ:=ρ') c.args.toList args (fun x hx y hy=>hev ρ' ha x (ham x hx) y hy) hargs
     simpa using this
    have e3:c.args.map a.eval=(rvL ρ args).toArray:=by apply gX; exact e2 ρ (Agree.refl _ _)
    obtain⟨v',w',ρ1,ha1,hrun,hk,hfin⟩:=j0l hv hl hS (fun ρ' ha=>(e2 ρ' ha).symm.trans (e2 ρ (Agree.refl _ _))) o.type (c.args.map fun | .const _=>true | _=>false)
    refine G0 (by rw [ho]; intro c hc; cases hc) ?_
    have hex:(execOp a.eval o).run X.P w= .ok (.value v') w':=by
     simp only [execOp,ho,resolve,hcal,e3,pure_bind,invoke]
     exact hrun
    rw [hex,mH]
    exact hK v' w' ρ1 ha1 (d7 _) hfin hk (fun hq'=>by cases hq')
   have e3:∀ ρ',Agree n ρ ρ'->c.args.map a.eval=⟨rvL ρ' args⟩:=fun ρ' ha=>by
    have e2:=u5 (a:=a.eval) (ρ:=ρ') c.args.toList args (fun x hx y hy=>hev ρ' ha x (ham x hx) y hy) hargs
    apply gX; simpa using e2
   split at h
   ·rename_i v hv
    cases h
    refine still (v:=v) (fun ρ' ha=> ?_) (by rw [ho]; intro c hc; cases hc) rfl rfl rfl rfl
    simp only [execOp,ho,resolve,hcal,e3 ρ' ha,pure_bind,invoke]
    exact bG hv ρ' w _ _
   ·split at h
    case h_2=>cases h
    rename_i v hv
    cases h
    refine still (v:=v) (fun ρ' ha=> ?_) (by rw [ho]; intro c hc; cases hc) rfl rfl rfl rfl
    simp only [execOp,ho,resolve,hcal,e3 ρ' ha,pure_bind,invoke]
    exact pF (hS ρ' ha) hv _ _ _
  ·cases h
 ·
  split at h
  case h_2=>cases h
  rename_i r0 hr0
  split at h
  ·rename_i hst
   cases h
   have each:∀ ρ',Agree n ρ ρ'->_:=fun ρ' ha=>
    dX (a:=a.eval) (hS ρ' ha) hB (fun hs=>by rw [hst] at hs; cases hs) (fun x hx y hy=>hev ρ' ha x hx y hy) hr0 hl
   obtain⟨nx,w',h1,h2,h3,h4,h5⟩:=each _ (Agree.refl _ _)
   obtain⟨h6,h7,h8⟩:=h5 hst
   subst h8
   have all:∀ ρ',Agree n ρ ρ'->lZ nx (rv ρ' r0.v):=by
    intro ρ' ha
    obtain⟨nx2,w2,g1,g2,g3,_⟩:=each ρ' ha
    rw [h1] at g1
    cases g1
    exact g2
   refine G0 (cS hr0) ?_
   rcases h2 with hnx | ⟨hnx,hu⟩
   ·rw [h1,hnx,mH]
    refine hK _ _ ρ (Agree.refl _ _) (d7 _) (fun ρ' ha=>⟨?_,hS ρ' ha⟩) (Keeps.refl _ _ _) (fun _=>⟨rfl,rfl,rfl,X1 _ _,rfl⟩)
    rcases all ρ' ha with e | ⟨e,_⟩
    ·rw [hnx] at e; injection e
    ·rw [hnx] at e; cases e
   ·rw [h1,hnx,Oper.uponIn_skip]
    refine hK _ _ ρ (Agree.refl _ _) (d7 _) (fun ρ' ha=>⟨?_,hS ρ' ha⟩) (Keeps.refl _ _ _) (fun _=>⟨rfl,rfl,rfl,X1 _ _,rfl⟩)
    rcases all ρ' ha with e | ⟨_,e⟩
    ·rw [hnx] at e; cases e
    ·exact e.symm
  ·split at h
   case h_2=>cases h
   cases h
   have each:∀ ρ',Agree (n+1) (fun i=>if i=n then some w.heap.size else ρ i) ρ'->_:=fun ρ' ha=>
    dX (a:=a.eval) (hS ρ' (fun i hi=>by rw [ha i (by omega)]; simp [Nat.ne_of_lt hi])) hB (fun _=>by rw [ha n (by omega)]; simp)
     (fun x hx y hy=>hev ρ' (fun i hi=>by rw [ha i (by omega)]; simp [Nat.ne_of_lt hi]) x hx y hy) hr0 hl
   obtain⟨nx,w',h1,h2,h3,h4,h5⟩:=each _ (Agree.refl _ _)
   have all:∀ ρ',Agree (n+1) (fun i=>if i=n then some w.heap.size else ρ i) ρ'->lZ nx (rv ρ' r0.v)∧Sim X.P B M ρ' r0.h w':=by
    intro ρ' ha
    obtain⟨nx2,w2,g1,g2,g3,_⟩:=each ρ' ha
    rw [h1] at g1
    cases g1
    exact⟨g2,g3⟩
   have hag:Agree n ρ (fun i=>if i=n then some w.heap.size else ρ i):=fun i hi=>by simp [Nat.ne_of_lt hi]
   refine G0 (cS hr0) ?_
   rcases h2 with hnx | ⟨hnx,hu⟩
   ·rw [h1,hnx,mH]
    refine hK _ w' _ hag (by simp) (fun ρ' ha=>⟨?_,(all ρ' ha).2⟩) h4 (fun hq'=>by cases hq')
    rcases (all ρ' ha).1 with e | ⟨e,_⟩
    ·rw [hnx] at e; injection e
    ·rw [hnx] at e; cases e
   ·rw [h1,hnx,Oper.uponIn_skip]
    refine hK _ w' _ hag (by simp) (fun ρ' ha=>⟨?_,(all ρ' ha).2⟩) h4 (fun hq'=>by cases hq')
    rcases (all ρ' ha).1 with e | ⟨_,e⟩
    ·rw [hnx] at e; cases e
    ·exact e.symm
end
end Go.Proofs.YtbdaebagmmmijaaGreatDoor.Ev
