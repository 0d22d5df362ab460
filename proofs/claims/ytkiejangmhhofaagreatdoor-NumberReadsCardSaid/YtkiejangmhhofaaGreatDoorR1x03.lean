/-
 NumberReads: any text is read as the document reads it; no condition (a part of the proof).
-/
import Derived.Test.YtkiejangmhhofaaGreatDoorR1x02
import Derived.Shelf.Unicode.ValidAny
import Derived.Test.YtkiejangmhhofaaGreatDoorCards
import Derived.Test.YtkiejangmhhofaaGreatDoorTie
import Derived.WalkKit
import Derived.ProofKit
import Derived.OpenShut
import Derived.Carry
import Derived.Deep.DeepHandedRow
import Derived.Lib.LaidTab
import Derived.Lib.SmallJoins
import Derived.Deep.Strs
import Derived.Laws.Cover2
import Derived.Lib.LaidU8T
import Derived.Shelf.Vars
import Init
import Derived.Shelf.Bits.Mul64
set_option maxRecDepth 1000000
open Nat renaming beq->zO0,blt->zO1
open Go.Value renaming int->zO2,bool->zO9
open UInt8 renaming ofNat->zO4
open Int renaming ofNat->zO6
open List renaming replicate->zO7,take->zO10
open Go.Proofs.Tryz renaming prog->zO8
open BitVec renaming ofInt->zO11
open Go.IntKind renaming i64->iI,u64->uI,u32->uJ,u8->uB
noncomputable section
namespace Go.Proofs
theorem b0b:type_of%@List.take_take:=@List.take_take
theorem sX:type_of%@List.filterMap_cons:=@List.filterMap_cons
theorem A4:type_of%@List.length_cons:=@List.length_cons
theorem y8:type_of%@Nat.pow_succ:=@Nat.pow_succ
theorem R4:type_of%@Nat.mul_add:=@Nat.mul_add
theorem r7:type_of%@Nat.mul_assoc:=@Nat.mul_assoc
theorem N0:type_of%@Nat.mul_le_mul_left:=@Nat.mul_le_mul_left
theorem jU:type_of%@Nat.add_mul_mod_self_left:=@Nat.add_mul_mod_self_left
theorem G3:type_of%@Nat.pow_zero:=@Nat.pow_zero
theorem P0:type_of%@Nat.div_div_eq_div_mul:=@Nat.div_div_eq_div_mul
theorem gC:type_of%@Nat.add_mul_div_left:=@Nat.add_mul_div_left
theorem b0t:type_of%@Nat.mod_one:=@Nat.mod_one
theorem wE:type_of%@Nat.mod_add_div:=@Nat.mod_add_div
theorem y5:type_of%@Nat.pow_le_pow_right:=@Nat.pow_le_pow_right
theorem D9:type_of%@Nat.div_lt_iff_lt_mul:=@Nat.div_lt_iff_lt_mul
theorem h0w:type_of%@List.reverse_cons:=@List.reverse_cons
theorem kK:type_of%@List.singleton_append:=@List.singleton_append
theorem y3:type_of%@Go.IntKind.wrap_i64:=@Go.IntKind.wrap_i64
theorem O8:type_of%@Nat.mul_right_comm:=@Nat.mul_right_comm
theorem B4:type_of%@Int.ofNat_eq_natCast:=@Int.ofNat_eq_natCast
theorem w7:type_of%@Int.natCast_nonneg:=@Int.natCast_nonneg
theorem h0f:type_of%@Int.toNat_zero:=@Int.toNat_zero
theorem O9:type_of%@List.take_of_length_le:=@List.take_of_length_le
theorem cF:type_of%@Bool.true_and:=@Bool.true_and
theorem a0m:type_of%@List.length_reverse:=@List.length_reverse
theorem b0g:type_of%@Nat.sub_add_cancel:=@Nat.sub_add_cancel
theorem R5:type_of%@Go.IntKind.wrap_u64:=@Go.IntKind.wrap_u64
theorem s0c:type_of%@List.take_append_of_le_length:=@List.take_append_of_le_length
theorem qF:type_of%@Int.ofNat_fdiv:=@Int.ofNat_fdiv
theorem K1:type_of%@Nat.le_of_lt:=@Nat.le_of_lt
theorem s7:type_of%@Nat.pow_pos:=@Nat.pow_pos
theorem bH:type_of%@List.length_replicate:=@List.length_replicate
theorem V9:type_of%@Int.natCast_mul:=@Int.natCast_mul
theorem dZ:type_of%@Int.natCast_add:=@Int.natCast_add
theorem i6:type_of%@decide_eq_true:=@decide_eq_true
theorem lU:type_of%@List.append_assoc:=@List.append_assoc
theorem d8:type_of%@decide_eq_false:=@decide_eq_false
theorem vC:type_of%@List.drop_length:=@List.drop_length
theorem I8:type_of%@Int.toNat_of_nonneg:=@Int.toNat_of_nonneg
theorem D7:type_of%@Nat.lt_of_le_of_lt:=@Nat.lt_of_le_of_lt
theorem n9:type_of%@Nat.pow_add:=@Nat.pow_add
theorem vK:type_of%@Nat.mul_lt_mul'':=@Nat.mul_lt_mul''
theorem zzA179:type_of%@decide_eq_decide:=@decide_eq_decide
theorem xF:type_of%@Nat.pow_le_pow_left:=@Nat.pow_le_pow_left
theorem c0b:type_of%@Nat.pow_lt_pow_right:=@Nat.pow_lt_pow_right
theorem wL:type_of%@Nat.or_comm:=@Nat.or_comm
theorem wU:type_of%@Nat.two_pow_add_eq_or_of_lt:=@Nat.two_pow_add_eq_or_of_lt
theorem pG:type_of%@BitVec.toNat_or:=@BitVec.toNat_or
theorem mD:type_of%@Nat.div_le_self:=@Nat.div_le_self
theorem t0s:type_of%@List.replicate_zero:=@List.replicate_zero
theorem zzA187:type_of%@bne_iff_ne:=@bne_iff_ne
theorem H4:type_of%@Nat.two_pow_pos:=@Nat.two_pow_pos
theorem a0e:type_of%@Nat.log2_lt:=@Nat.log2_lt
theorem b0e:type_of%@Nat.le_antisymm:=@Nat.le_antisymm
theorem a0v:type_of%@Nat.le_mul_of_pos_left:=@Nat.le_mul_of_pos_left
theorem uU:type_of%@Nat.mul_div_cancel:=@Nat.mul_div_cancel
theorem dB:type_of%@Nat.pow_mul:=@Nat.pow_mul
theorem y9:type_of%@beq_false_of_ne:=@beq_false_of_ne
theorem P4:type_of%@Nat.mul_lt_mul_of_pos_right:=@Nat.mul_lt_mul_of_pos_right
theorem bI:type_of%@Int.natCast_pow:=@Int.natCast_pow
theorem kQ:type_of%@Int.fdiv_eq_ediv_of_nonneg:=@Int.fdiv_eq_ediv_of_nonneg
def W1:Go.Shelf.Ren:=⟨fun | 196=>183 | 259=>257 | n=>n,fun | 9=>9 | 4=>4 | 3=>3 | 5=>5 | 12=>12 | 119=>304 | 0=>0 | 46=>126 | 139=>307 | 138=>306 | 53=>27 | n=>n,fun | 3=>1 | 4=>2 | n=>n⟩
theorem zG:Go.Proofs.Lays.n196 zO8 W1 where
 mixed:=by kernel_rfl
 f196:=Tryz.func183.trans (aP some (by kernel_rfl))
 f259:=Tryz.func257.trans (aP some (by kernel_rfl))
 t0:=Tryz.underlying0
 a0:=Tryz.isAgg0
 z0:=Tryz.sizeOf0
 v0:=Tryz.zeroValue0
 t3:=Tryz.underlying3
 a3:=Tryz.isAgg3
 z3:=Tryz.sizeOf3
 v3:=Tryz.zeroValue3
 t4:=Tryz.underlying4
 a4:=Tryz.isAgg4
 z4:=Tryz.sizeOf4
 v4:=Tryz.zeroValue4
 t5:=Tryz.underlying5
 a5:=Tryz.isAgg5
 z5:=Tryz.sizeOf5
 v5:=Tryz.zeroValue5
 t9:=Tryz.underlying9
 a9:=Tryz.isAgg9
 z9:=Tryz.sizeOf9
 v9:=Tryz.zeroValue9
 t12:=Tryz.underlying12
 a12:=Tryz.isAgg12
 z12:=Tryz.sizeOf12
 v12:=Tryz.zeroValue12
 t46:=Tryz.underlying126
 a46:=Tryz.isAgg126
 z46:=Tryz.sizeOf126
 v46:=Tryz.zeroValue126
 t53:=Tryz.underlying27
 a53:=Tryz.isAgg27
 z53:=Tryz.sizeOf27
 v53:=Tryz.zeroValue27
 t119:=Tryz.underlying304
 a119:=Tryz.isAgg304
 z119:=Tryz.sizeOf304
 t138:=Tryz.underlying306
 a138:=Tryz.isAgg306
 z138:=Tryz.sizeOf306
 v138:=Tryz.zeroValue306
 t139:=Tryz.underlying307
 a139:=Tryz.isAgg307
 z139:=Tryz.sizeOf307
 v139:=Tryz.zeroValue307
 g3:=by kernel_rfl
 g4:=by kernel_rfl
namespace YtkiejangmhhofaaGreatDoor
open Go Go.RowKit Ev
end YtkiejangmhhofaaGreatDoor
end Go.Proofs
namespace Go.Proofs.YtkiejangmhhofaaGreatDoor
open Go.ChangeShapes Go.WideShapes Go.ChangeAt Go.RowKit Go.Joins
theorem own:ownKnob zO8.godebug=none:=by kernel_rfl
theorem d0y {H:Type} {enc:TypeId×Value->H} {P:Program} {f:Func} {s:ChangeSpec} {apart fresh handsOn again:Bool} {W W':World} {args:Array Value} {v:Value} {ds gs:List (DataW H)}
  (hW:DataW.Whole enc P f.params.toList s.vars apart W args.toList ds gs [])
  (hres:∀ (b:Nat) (sp:Nat->Bool) (hd:Bool),DataW.TrodAll enc P W' b sp hd f.resultTypes.toList (v.resultList f.resultTypes.size) (s.fn H (ds++gs)).results [])
  (hargs:∀ sp:Nat->Bool,DataW.TrodAll enc P W' 0 sp true f.params.toList args.toList (s.fn H (ds++gs)).args [])
  (hvars:∀ sp:Nat->Bool,DataW.TrodVars enc P W' sp s.vars (s.fn H (ds++gs)).vars [])
  (hk:Below W.heap.size W W')
  (hok:∀ (j:Nat) (t:TypeId) (r:Value),f.resultTypes[j]? =some t->(v.resultList f.resultTypes.size)[j]? =some r->Value.okWide P W' .any 0 t r):
  s.post enc P f apart fresh handsOn again W args v W':=by
 refine⟨ds,gs,[],[],[],[],hW,hres _ _ _,hargs _,hvars _,World.keptBut_mono (fun p hp=>⟨hp,?_⟩) (hk.frame (· ∈[])),fun _=> ?_⟩
 ·cases hp
 ·refine⟨hok,_,_,([] ++[])++[],⟨[] ++[],[],trodAll_append (hargs _) (hres _ _ _),hvars _,rfl,?_,?_⟩,?_⟩
  ·intro b off hp
   simp at hp
  ·intro ha
   simp
  ·intro p hp _
   simp at hp
theorem i0j {P:Program} {J:Ev.Inv P} {f:FuncId} {args:List Value} {v:Value} (h:Ev.Pure P J f args v) (he:Enters P f) (w:World) (hI:J.I w):Calls P f ⟨args⟩ w fun e w'=>e= .returned v∧Below w.heap.size w w':=by
 obtain⟨_,_,⟨_,hc⟩ | hx⟩:=h
 ·exact hc w hI
 ·have:=hx w hI
  rw [he _ _] at this
  cases this
theorem e0u {W:World} {n:String} {g:Nat} {cs:Array Value} {k:IntKind} {zs:List Int} (e:zO8.globalNamed n=some g) (hv:W.var? zO8 n=some cs) (hc:cs.toList=zs.map fun z=>zO2 k z):VarIs W g k zs:=by
 unfold World.var? at hv
 rw [e] at hv
 simp only [Option.bind_some] at hv
 split at hv
 ·rename_i c t fr hb
  cases hv
  refine⟨t,fr,?_⟩
  rw [hb,<- hc]
 ·cases hv
theorem VarIs.lt {W:World} {g:Nat} {k:IntKind} {zs:List Int} (h:VarIs W g k zs):g < W.heap.size:=by
 obtain⟨t,fr,h⟩:=h
 exact (zzA12.1 h).1
theorem v1l:(Rows.laid_internal_strconv_uint64pow10:DataW Unit)=Lib.tabData .u64 Lib.pow10Tab:=by kernel_rfl
theorem s1x:(Rows.laid_math_bits_deBruijn32tab:DataW Unit)=Lib.tabData .u8 j2r:=by kernel_rfl
theorem t1t:(Rows.laid_math_bits_deBruijn64tab:DataW Unit)=Lib.tabData .u8 q2m:=by kernel_rfl
theorem w0j:(Rows.laid_unicode_utf8_first:DataW Unit)=Lib.firstData:=by kernel_rfl
theorem q0f:(Rows.laid_unicode_utf8_acceptRanges:DataW Unit)=Lib.acceptData:=by kernel_rfl
theorem e2n:U8Extra zO8 W1:=⟨by kernel_rfl,by kernel_rfl,by kernel_rfl,by kernel_rfl,by kernel_rfl,by kernel_rfl,by kernel_rfl⟩
theorem p0t {w:World} (h:w.ShapedOpen zO8):n0d w 6:=
 Go.Proofs.cell_of_shapedOpen_int (zero:= #[.int .i64 0]) (t:=3) h (G5 (by kernel_rfl)) (by kernel_rfl) rfl (by kernel_rfl) (by kernel_rfl) Tryz.underlying3
theorem sL {w:World} {n name:String} {g:Nat} {t:TypeId} {d:DataW Unit} {ms:_} (hr:Lib.VarReads zO8 w n (.iface name d)) (hg:zO8.globalNamed n=some g) (hty:(zO8.globals[g]?).map (·.type)=some t)
  (hu:zO8.underlying t=some (.interface ms)):jI w g:=by
 obtain⟨g',t',cs,fuel,p,h1,h2,h3,h4⟩:=hr
 obtain rfl:=bM (hg.symm.trans h1)
 obtain rfl:=bM (hty.symm.trans h2)
 cases fuel with
 | zero=>simp [DataW.trod] at h4
 | succ n=>
  unfold DataW.trod at h4
  rw [hu] at h4
  have hc:=World.var?_cell hg h3 0
  obtain⟨l⟩:=cs
  simp only at h4
  split at h4 <;> first | (simp_all; done) | skip
  all_goals first
   | (rename_i u v _ _; exact⟨.iface u v,by rw [hc]; simp_all, .inr ⟨u,v,rfl⟩⟩)
   | (rename_i u v _; exact⟨.iface u v,by rw [hc]; simp_all, .inr ⟨u,v,rfl⟩⟩)
   | (rename_i u v; exact⟨.iface u v,by rw [hc]; simp_all, .inr ⟨u,v,rfl⟩⟩)
   | cases h4
theorem p0u {W:World} (h:laidMetH zO8 Rows.numberReadsRow.laid W) (hsh:W.ShapedOpen zO8):J0.I W:=by
 have h':laidMet zO8 Rows.numberReadsRow.laid W:=h
 obtain⟨ps,⟨g1,t1,cs1,f1,p1,q1,hg1,ht1,hvar1,hd1,⟨g2,t2,cs2,f2,p2,q2,hg2,ht2,hvar2,hd2,⟨g3,t3,cs3,f3,p3,q3,hg3,ht3,hvar3,hd3,_⟩,_⟩,_⟩,_⟩:=h'
 have e1:zO8.globalNamed "math/bits.deBruijn32tab" =some 7:=by kernel_rfl
 have e2:zO8.globalNamed "math/bits.deBruijn64tab" =some 8:=by kernel_rfl
 have e3:zO8.globalNamed "internal/strconv.uint64pow10" =some 3:=by kernel_rfl
 obtain rfl:=bM (e1.symm.trans hg1)
 obtain rfl:=bM (e2.symm.trans hg2)
 obtain rfl:=bM (e3.symm.trans hg3)
 have et1:(zO8.globals[7]?).map (·.type)=some 344:=by kernel_rfl
 have et2:(zO8.globals[8]?).map (·.type)=some 345:=by kernel_rfl
 have et3:(zO8.globals[3]?).map (·.type)=some 318:=by kernel_rfl
 obtain rfl:=bM (et1.symm.trans ht1)
 obtain rfl:=bM (et2.symm.trans ht2)
 obtain rfl:=bM (et3.symm.trans ht3)
 rw [show (Rows.laid_math_bits_deBruijn32tab:DataW Unit)=Lib.tabData .u8 j2r from s1x] at hd1
 rw [show (Rows.laid_math_bits_deBruijn64tab:DataW Unit)=Lib.tabData .u8 q2m from t1t] at hd2
 rw [show (Rows.laid_internal_strconv_uint64pow10:DataW Unit)=Lib.tabData .u64 Lib.pow10Tab from v1l] at hd3
 have c1:=Lib.cells_of_tab (n:=32) Tryz.underlying344 Tryz.underlying5 (by kernel_rfl) (by kernel_rfl) hd1
 have c2:=Lib.cells_of_tab (n:=64) Tryz.underlying345 Tryz.underlying5 (by kernel_rfl) (by kernel_rfl) hd2
 have c3:=Lib.cells_of_tab (n:=20) Tryz.underlying318 Tryz.underlying27 (by kernel_rfl) (by kernel_rfl) hd3
 have v1:=e0u e1 hvar1 c1
 have v2:=e0u e2 hvar2 c2
 have v3:=e0u e3 hvar3 c3
 have w1:=sL (g:=9) (t:=205) (Lib.laidMet.reads h (n:= "strconv.ErrSyntax") (d:=Rows.laid_strconv_ErrSyntax) (by simp [Rows.numberReadsRow])) (by kernel_rfl) (by kernel_rfl) Tryz.underlying205
 have w2:=sL (g:=10) (t:=205) (Lib.laidMet.reads h (n:= "strconv.ErrRange") (d:=Rows.laid_strconv_ErrRange) (by simp [Rows.numberReadsRow])) (by kernel_rfl) (by kernel_rfl) Tryz.underlying205
 refine⟨?_,v3,v1,v2,?_,p0t hsh,w1,w2⟩
 case refine_2=>exact utf8Tabs_of_readsT (.of196 zG) e2n (Lib.laidMet.reads h (n:= "unicode/utf8.first") (by rw [<- w0j]; simp [Rows.numberReadsRow])) (Lib.laidMet.reads h (n:= "unicode/utf8.acceptRanges") (by rw [<- q0f]; simp [Rows.numberReadsRow]))
 have hpos:zO8.globals.size-1 < zO8.globals.size:=G5 (by kernel_rfl)
 have hr:(((begin zO8 (fun _ _=>0) default).world.heap[zO8.globals.size-1]?).bind Obj.row?).isSome=true:=by kernel_rfl
 obtain⟨⟨zero,t⟩,h0⟩:=Option.isSome_iff_exists.1 hr
 obtain⟨cs,hh,_⟩:=hsh.1 _ zero t hpos h0
 have:=(zzA12.1 hh).1
 omega
def a0z:Nat->DataW Unit->List Value
 | 0,_=>[]
 | _+1, .lit (.int k n)=>[.int k n]
 | f+1, .agg l=>l.flatMap (a0z f)
 | _+1,_=>[]
def c2z (g:Nat) (cs:List Value) (h:Array Obj):Array Obj:=h.modify g fun
 | .cells _ t frozen=> .cells cs.toArray t frozen
 | o=>o
def r2z:ByteArray:=⟨#[118,97,108,117,101,32,111,117,116,32,111,102,32,114,97,110,103,101]⟩
def z1o:ByteArray:=⟨#[105,110,118,97,108,105,100,32,115,121,110,116,97,120]⟩
def low:Nat:=(World.holding zO8 default ⟨#[],#[],[]⟩).heap.size
def uG (os:Os):World:=
 let w0:=World.holding zO8 os ⟨#[.cells #[.string r2z] 352, .cells #[.string z1o] 352],#[],[]⟩
 { w0 with heap:=c2z 10 [.iface 350 (.pointer (some ⟨low,0,none⟩))] (c2z 9 [.iface 350 (.pointer (some ⟨low+1,0,none⟩))]
   (c2z 1 (a0z 4 Rows.laid_unicode_utf8_first) (c2z 2 (a0z 4 Rows.laid_unicode_utf8_acceptRanges) (c2z 3 (a0z 4 Rows.laid_internal_strconv_uint64pow10)
   (c2z 7 (a0z 4 Rows.laid_math_bits_deBruijn32tab) (c2z 8 (a0z 4 Rows.laid_math_bits_deBruijn64tab) w0.heap))))))}
end Go.Proofs.YtkiejangmhhofaaGreatDoor
namespace Go.Proofs.YtkiejangmhhofaaGreatDoor.Ev
open Go Go.RowKit
noncomputable section
inductive Cel where
 | v (x:Value)
 | s (e:TypeId) (k:IntKind) (xs:List Int)
 | o (k:IntKind) (ys:List Int) (off n:Nat)
 | f (g:Nat->Value) (m sz off:Nat)
inductive Arg where
 | c (x:Cel)
 | a (l:List Cel)
def Arg.cells:Arg->List Cel
 | .c x=>[x]
 | .a l=>l
def y7:List Arg->List Cel
 | [] =>[]
 | a ::r=>a.cells++y7 r
def Arg.pack:Arg->List Value->Value
 | .c _,us=>match us with
  | u ::_=>u
  | [] =>undef
 | .a _,us=> .agg ⟨us⟩
def M9:List Arg->List Value->List Value
 | [],_=>[]
 | a ::r,us=>a.pack (us.take a.cells.length) ::M9 r (us.drop a.cells.length)
inductive All2 {α O:Type} (R:α->O->Prop):List α->List O->Prop
 | nil:All2 R [] []
 | cons {x y xs ys} :R x y->All2 R xs ys->All2 R (x ::xs) (y ::ys)
theorem All2.length {α O:Type} {R:α->O->Prop} {l:List α} {m:List O} (h:All2 R l m):l.length=m.length:=by
 induction h with
 | nil=>rfl
 | cons _ _ ih=>simp [ih]
theorem All2.append {α O:Type} {R:α->O->Prop} {l l':List α} {m m':List O} (h:All2 R l m) (k:All2 R l' m'):All2 R (l++l') (m++m'):=by
 induction h with
 | nil=>exact k
 | cons a _ ih=>exact .cons a ih
theorem All2.nil_inv {α O:Type} {R:α->O->Prop} {m:List O} (h:All2 R ([] :List α) m):m=[] :=by cases h; rfl
theorem All2.cons_inv {α O:Type} {R:α->O->Prop} {x:α} {xs:List α} {m:List O} (h:All2 R (x ::xs) m):∃ y ys,m=y ::ys∧R x y∧All2 R xs ys:=by
 cases h with
 | cons a b=>exact⟨_,_,rfl,a,b⟩
def nM (w:World):Cel->Value->Prop
 | .v x,u=>u=x∧D3 x=true
 | .s _ k xs,u=>(u= .slice none 0 0∧xs=[])∨∃ g cap cs t fr,u= .slice (some ⟨g,0,none⟩) xs.length cap∧w.heap[g]? =some (.cells cs t fr)∧∀ i,i < xs.length->cs[i]? =some (.int k (xs.getD i 0))
 | .o k ys off n,u=>(u= .slice none 0 0∧ys=[] ∧off=0∧n=0)∨∃ g cap cs t fr,u= .slice (some ⟨g,off,none⟩) n cap∧w.heap[g]? =some (.cells cs t fr)∧∀ i,i < ys.length->cs[i]? =some (.int k (ys.getD i 0))
 | .f g m sz off,u=>(u= .slice none 0 0∧m=0)∨∃ b cap cs t fr,u= .slice (some ⟨b,off,none⟩) m cap∧w.heap[b]? =some (.cells cs t fr)∧∀ i,i < m->(g i).cells.toList.length=sz∧D3 (g i)=true∧∀ (j:Nat) (v:Value),(g i).cells.toList[j]? =some v->cs[off+i*sz+j]? =some v
def u0q (w w':World):Cel->Value->Prop
 | .v x,u=>u=x∧D3 x=true
 | .s e k xs,u=>(u= .slice none 0 0∧xs=[])∨∃ g cap cur,u= .slice (some ⟨g,0,none⟩) xs.length cap∧w.heap.size<=g∧RowAt w' g cur e∧cap<=maxLen∧cur.size=cap∧xs.length<=cap∧cur.toList.take xs.length=xs.map (zO2 k)
 | .o _ _ _ _,_=>False
 | .f _ _ _ _,_=>False
def blk:Value->Option Nat
 | .slice (some a) _ _=>some a.block
 | _=>none
def Sem (P:Program) (J:Inv P) (f:FuncId) (az rs:List Arg):Prop:=
 Enters P f∧∀ (w:World) (us:List Value),J.I w->All2 (nM w) (y7 az) us->
  Calls P f ⟨M9 az us⟩ w fun e w'=>∃ us',e= .returned (P1 (M9 rs us'))∧Below w.heap.size w w'∧All2 (u0q w w') (y7 rs) us'∧(us'.filterMap blk).Nodup
def K7 (n:Nat):List Cel->List Value×Heap×Nat
 | [] =>([],[],n)
 | .v x ::r=>match K7 n r with
  | (vs,h,m)=>(x ::vs,h,m)
 | .s _ k xs ::r=>match K7 (n+2) r with
  | (vs,h,m)=>(.slice (some ⟨n,0,some (n+1)⟩) xs.length 0 ::vs,(n, .ints k xs) ::h,m)
 | .o k ys off l ::r=>match K7 (n+2) r with
  | (vs,h,m)=>(.slice (some ⟨n,off,some (n+1)⟩) l 0 ::vs,(n, .ints k ys) ::h,m)
 | .f g m sz off ::r=>match K7 (n+2) r with
  | (vs,h,k)=>(.slice (some ⟨n,off,some (n+1)⟩) m 0 ::vs,(n, .fam g m sz off) ::h,k)
theorem Q4:∀ (cs:List Cel) (n:Nat),n<=(K7 n cs).2.2
 | [],n=>d9 _
 | .v x ::r,n=>Q4 r n
 | .s _ k xs ::r,n=>by
  have:=Q4 r (n+2)
  show n<=(K7 (n+2) r).2.2
  omega
 | .o k ys off l ::r,n=>by
  have:=Q4 r (n+2)
  show n<=(K7 (n+2) r).2.2
  omega
 | .f g m sz off ::r,n=>by
  have:=Q4 r (n+2)
  show n<=(K7 (n+2) r).2.2
  omega
theorem fG:∀ (cs:List Cel) (n:Nat) (i:Nat) (o:AObj),(K7 n cs).2.1.get i=some o->n<=i∧i < (K7 n cs).2.2∧o.rw=false
 | [],n,i,o,h=>by cases h
 | .v x ::r,n,i,o,h=>fG r n i o h
 | .s _ k xs ::r,n,i,o,h=>by
  change Heap.get ((n, .ints k xs) ::(K7 (n+2) r).2.1) i=some o at h
  rw [b6] at h
  have hle:=Q4 r (n+2)
  show n<=i∧i < (K7 (n+2) r).2.2∧o.rw=false
  split at h
  ·rename_i e
   cases h
   exact⟨by omega,by omega,rfl⟩
  ·have:=fG r (n+2) i o h
   exact⟨by omega,by omega,this.2.2⟩
 | .o k xs off l ::r,n,i,o,h=>by
  change Heap.get ((n, .ints k xs) ::(K7 (n+2) r).2.1) i=some o at h
  rw [b6] at h
  have hle:=Q4 r (n+2)
  show n<=i∧i < (K7 (n+2) r).2.2∧o.rw=false
  split at h
  ·rename_i e
   cases h
   exact⟨by omega,by omega,rfl⟩
  ·have:=fG r (n+2) i o h
   exact⟨by omega,by omega,this.2.2⟩
 | .f g m sz off ::r,n,i,o,h=>by
  change Heap.get ((n, .fam g m sz off) ::(K7 (n+2) r).2.1) i=some o at h
  rw [b6] at h
  have hle:=Q4 r (n+2)
  show n<=i∧i < (K7 (n+2) r).2.2∧o.rw=false
  split at h
  ·rename_i e
   cases h
   exact⟨by omega,by omega,rfl⟩
  ·have:=fG r (n+2) i o h
   exact⟨by omega,by omega,this.2.2⟩
theorem g1u (B:Nat) (M:Nat->Prop) (w:World):∀ (cs:List Cel) (us:List Value),All2 (nM w) cs us->∀ (n:Nat) (ρ0:Num),∃ E,Agree n ρ0 E∧∀ E',Agree (K7 n cs).2.2 E E'->
  us=rvL E' (K7 n cs).1∧∀ i o,(K7 n cs).2.1.get i=some o->ORep B M E' w (E' i) o:=by
 intro cs us h
 induction h with
 | nil=>exact fun n ρ0=>⟨ρ0,Agree.refl _ _,fun E' _=>⟨rfl,fun i o h=>by cases h⟩⟩
 | @cons c u cs us hc _ ih=>
  intro n ρ0
  cases c with
  | v x=>
   obtain⟨rfl,hp⟩:=hc
   obtain⟨E,ha,hρ⟩:=ih n ρ0
   refine⟨E,ha,fun E' ha'=> ?_⟩
   obtain⟨h1,h2⟩:=hρ E' ha'
   refine⟨?_,h2⟩
   show u ::us=rvL E' (u ::(K7 n cs).1)
   simp only [rvL,D0 E' u hp,<- h1]
  | s e k xs=>
   have key:∀ (ob:Option Nat) (cap:Nat),(u=match ob with | none=> .slice none xs.length 0 | some g=> .slice (some ⟨g,0,none⟩) xs.length cap)->(∀ E',ORep B M E' w ob (.ints k xs))->∃ E,Agree n ρ0 E∧∀ E',Agree (K7 n (.s e k xs ::cs)).2.2 E E'->
     u ::us=rvL E' (K7 n (.s e k xs ::cs)).1∧∀ i o,(K7 n (.s e k xs ::cs)).2.1.get i=some o->ORep B M E' w (E' i) o:=by
    intro ob cap hu ho
    obtain⟨E,ha,hρ⟩:=ih (n+2) (fun i=>if i=n then ob else if i=n+1 then some cap else ρ0 i)
    refine⟨E,fun i hi=> ?_,fun E' ha'=> ?_⟩
    ·rw [ha i (by omega)]
     show (if i=n then ob else if i=n+1 then some cap else ρ0 i)=ρ0 i
     rw [a7 (by omega),a7 (by omega)]
    ·obtain⟨h1,h2⟩:=hρ E' ha'
     have hle:=Q4 cs (n+2)
     have hn:E' n=ob:=by
      rw [ha' n (by show n < (K7 (n+2) cs).2.2; omega),ha n (by omega)]
      simp
     have hk:E' (n+1)=some cap:=by
      rw [ha' (n+1) (by show n+1 < (K7 (n+2) cs).2.2; omega),ha (n+1) (by omega)]
      simp
     refine⟨?_,fun i o hi=> ?_⟩
     ·show u ::us=rvL E' (.slice (some ⟨n,0,some (n+1)⟩) xs.length 0 ::(K7 (n+2) cs).1)
      rw [rvL,<- h1,hu]
      cases ob with
      | none=>simp [rv,rSl,hn]
      | some g=>simp [rv,rSl,hn,hk]
     ·change Heap.get ((n, .ints k xs) ::(K7 (n+2) cs).2.1) i=some o at hi
      rw [b6] at hi
      split at hi
      ·rename_i e'
       subst e'
       cases hi
       rw [hn]
       exact ho E'
      ·exact h2 i o hi
   rcases hc with ⟨rfl,rfl⟩ | ⟨g,cap,cs',t,fr,rfl,h2,h3⟩
   ·exact key none 0 rfl (fun E'=> .inl ⟨rfl,rfl⟩)
   ·exact key (some g) cap rfl (fun E'=> .inr ⟨g,cs',t,fr,rfl,h2,h3⟩)
  | o k xs off l=>
   have key:∀ (ob:Option Nat) (cap:Nat),(u=match ob with | none=> .slice none l 0 | some g=> .slice (some ⟨g,off,none⟩) l cap)->(∀ E',ORep B M E' w ob (.ints k xs))->∃ E,Agree n ρ0 E∧∀ E',Agree (K7 n (.o k xs off l ::cs)).2.2 E E'->
     u ::us=rvL E' (K7 n (.o k xs off l ::cs)).1∧∀ i o,(K7 n (.o k xs off l ::cs)).2.1.get i=some o->ORep B M E' w (E' i) o:=by
    intro ob cap hu ho
    obtain⟨E,ha,hρ⟩:=ih (n+2) (fun i=>if i=n then ob else if i=n+1 then some cap else ρ0 i)
    refine⟨E,fun i hi=> ?_,fun E' ha'=> ?_⟩
    ·rw [ha i (by omega)]
     show (if i=n then ob else if i=n+1 then some cap else ρ0 i)=ρ0 i
     rw [a7 (by omega),a7 (by omega)]
    ·obtain⟨h1,h2⟩:=hρ E' ha'
     have hle:=Q4 cs (n+2)
     have hn:E' n=ob:=by
      rw [ha' n (by show n < (K7 (n+2) cs).2.2; omega),ha n (by omega)]
      simp
     have hk:E' (n+1)=some cap:=by
      rw [ha' (n+1) (by show n+1 < (K7 (n+2) cs).2.2; omega),ha (n+1) (by omega)]
      simp
     refine⟨?_,fun i o hi=> ?_⟩
     ·show u ::us=rvL E' (.slice (some ⟨n,off,some (n+1)⟩) l 0 ::(K7 (n+2) cs).1)
      rw [rvL,<- h1,hu]
      cases ob with
      | none=>simp [rv,rSl,hn]
      | some g=>simp [rv,rSl,hn,hk]
     ·change Heap.get ((n, .ints k xs) ::(K7 (n+2) cs).2.1) i=some o at hi
      rw [b6] at hi
      split at hi
      ·rename_i e'
       subst e'
       cases hi
       rw [hn]
       exact ho E'
      ·exact h2 i o hi
   rcases hc with ⟨rfl,rfl,rfl,rfl⟩ | ⟨g,cap,cs',t,fr,rfl,h2,h3⟩
   ·exact key none 0 rfl (fun E'=> .inl ⟨rfl,rfl⟩)
   ·exact key (some g) cap rfl (fun E'=> .inr ⟨g,cs',t,fr,rfl,h2,h3⟩)
  | f g m sz off=>
   have key:∀ (ob:Option Nat) (cap:Nat),(u=match ob with | none=> .slice none m 0 | some b=> .slice (some ⟨b,off,none⟩) m cap)->(∀ E',ORep B M E' w ob (.fam g m sz off))->∃ E,Agree n ρ0 E∧∀ E',Agree (K7 n (.f g m sz off ::cs)).2.2 E E'->
     u ::us=rvL E' (K7 n (.f g m sz off ::cs)).1∧∀ i o,(K7 n (.f g m sz off ::cs)).2.1.get i=some o->ORep B M E' w (E' i) o:=by
    intro ob cap hu ho
    obtain⟨E,ha,hρ⟩:=ih (n+2) (fun i=>if i=n then ob else if i=n+1 then some cap else ρ0 i)
    refine⟨E,fun i hi=> ?_,fun E' ha'=> ?_⟩
    ·rw [ha i (by omega)]
     show (if i=n then ob else if i=n+1 then some cap else ρ0 i)=ρ0 i
     rw [a7 (by omega),a7 (by omega)]
    ·obtain⟨h1,h2⟩:=hρ E' ha'
     have hle:=Q4 cs (n+2)
     have hn:E' n=ob:=by
      rw [ha' n (by show n < (K7 (n+2) cs).2.2; omega),ha n (by omega)]
      simp
     have hk:E' (n+1)=some cap:=by
      rw [ha' (n+1) (by show n+1 < (K7 (n+2) cs).2.2; omega),ha (n+1) (by omega)]
      simp
     refine⟨?_,fun i o hi=> ?_⟩
     ·show u ::us=rvL E' (.slice (some ⟨n,off,some (n+1)⟩) m 0 ::(K7 (n+2) cs).1)
      rw [rvL,<- h1,hu]
      cases ob with
      | none=>simp [rv,rSl,hn]
      | some b=>simp [rv,rSl,hn,hk]
     ·change Heap.get ((n, .fam g m sz off) ::(K7 (n+2) cs).2.1) i=some o at hi
      rw [b6] at hi
      split at hi
      ·rename_i e'
       subst e'
       cases hi
       rw [hn]
       exact ho E'
      ·exact h2 i o hi
   rcases hc with ⟨rfl,rfl⟩ | ⟨b,cap,cs',t,fr,rfl,h2,h3⟩
   ·exact key none 0 rfl (fun E'=> .inl ⟨rfl,rfl⟩)
   ·exact key (some b) cap rfl (fun E'=> .inr ⟨b,cs',t,fr,rfl,h2,h3⟩)
def Arg.unpack:Arg->Value->Option (List Value)
 | .c _,v=>some [v]
 | .a l, .agg ⟨us⟩=>match zO0 us.length l.length with
  | true=>some us
  | false=>none
 | .a _,_=>none
def e0t:List Arg->List Value->Option (List Value)
 | [],[] =>some []
 | a ::r,v ::vs=>match a.unpack v,e0t r vs with
  | some us,some us'=>some (us++us')
  | _,_=>none
 | _,_=>none
def o0u (rs:List Arg) (v:Value):Option (List Value):=
 match rs with
 | [a] =>a.unpack v
 | rs=>match v with
  | .tuple ⟨vs⟩=>e0t rs vs
  | _=>none
theorem uZ {a:Arg} {v:Value} {us:List Value} (h:a.unpack v=some us) (E:Num):us.length=a.cells.length∧rv E v=a.pack (rvL E us):=by
 unfold Arg.unpack at h
 split at h
 ·cases h; exact⟨rfl,rfl⟩
 ·split at h
  case h_2=>cases h
  rename_i hl
  cases h
  exact⟨xY hl,by simp [rv,rvA,Arg.pack]⟩
 ·cases h
theorem Y9 (E:Num) (l:List Value):(rvL E l).length=l.length:=by rw [o9,D1]
theorem b2f (E:Num) (a b:List Value):rvL E (a++b)=rvL E a++rvL E b:=by rw [o9,o9,o9,qR]
theorem pV (E:Num):∀ {rs:List Arg} {vs us:List Value},e0t rs vs=some us->us.length=(y7 rs).length∧rvL E vs=M9 rs (rvL E us)
 | [],[],us,h=>by cases h; exact⟨rfl,rfl⟩
 | a ::r,v ::vs,us,h=>by
  unfold e0t at h
  split at h
  case h_2=>cases h
  rename_i u1 u2 h1 h2
  cases h
  obtain⟨g1,g2⟩:=uZ h1 E
  obtain⟨g3,g4⟩:=pV E h2
  refine⟨by simp [y7,g1,g3],?_⟩
  simp only [rvL,M9]
  rw [b2f,<- g1,<- Y9 E u1,zT,List.drop_left,g2,g4]
 | [],_ ::_,us,h=>by cases h
 | _ ::_,[],us,h=>by cases h
theorem i0e {rs:List Arg} {v:Value} {us:List Value} (h:o0u rs v=some us) (E:Num):us.length=(y7 rs).length∧rv E v=P1 (M9 rs (rvL E us)):=by
 unfold o0u at h
 split at h
 ·rename_i a
  obtain⟨h1,h2⟩:=uZ h E
  refine⟨by simp [y7,h1],?_⟩
  rw [h2]
  simp only [M9,P1]
  rw [<- h1,<- Y9 E us,r8]
 ·rename_i hne
  split at h
  case h_2=>cases h
  rename_i vs
  obtain⟨h1,h2⟩:=pV E h
  refine⟨h1,?_⟩
  simp only [rv,rvA,h2]
  cases rs with
  | nil=>rfl
  | cons a r=>
   cases r with
   | nil=>exact absurd rfl (hne a)
   | cons a2 r2=>rfl
def s2n (h:Heap):Cel->Value->Option (List Nat×List Prop)
 | .v x,u=>match D3 u with
  | true=>some ([],[u=x])
  | false=>none
 | .s e k xs,u=>match u with
  | .slice none 0 0=>some ([],[xs=[]])
  | .slice (some ⟨id,0,some kk⟩) n 0=>match h.get id with
   | some (.row e' sz (.ints k' ys) kk')=>match zO0 e' e && zO0 sz 1 && zO0 kk kk' && decide (k'=k) with
    | true=>some ([id],[n=xs.length∧n<=ys.length∧ys.take n=xs])
    | false=>none
   | _=>none
  | .slice (some ⟨id,0,none⟩) n c=>match h.get id with
   | some (.cells cs e')=>match zO0 e' e,gB k cs with
    | true,some l=>some ([id],[n=xs.length∧n<=l.length∧l.take n=xs∧c=l.length∧c<=maxLen])
    | _,_=>none
   | _=>none
  | _=>none
 | .o _ _ _ _,_=>none
 | .f _ _ _ _,_=>none
def t2a (h:Heap):List Cel->List Value->Option (List Nat×List Prop)
 | [],[] =>some ([],[])
 | c ::cs,u ::us=>match s2n h c u,t2a h cs us with
  | some (i,l),some (i',l')=>some (i++i',l++l')
  | _,_=>none
 | _,_=>none
theorem x0b {P:Program} {w w':World} {E:Num} {h:Heap} (hS:Sim P w.heap.size (fun _=>False) E h w') {c:Cel} {u:Value} {ids:List Nat} {l:List Prop} (hd:s2n h c u=some (ids,l)) (hl:l5 l):
  u0q w w' c (rv E u)∧∀ g,blk (rv E u)=some g->∃ i∈ids,(∃ o,h.get i=some o∧o.rw=true)∧E i=some g:=by
 cases c with
 | v x=>
  simp only [s2n] at hd
  split at hd
  case h_2=>cases hd
  rename_i hp
  cases hd
  obtain rfl:u=x:=hl.1
  refine⟨⟨D0 E u hp,hp⟩,fun g hg=> ?_⟩
  rw [D0 E u hp] at hg
  unfold blk at hg
  split at hg
  ·simp [D3] at hp
  ·cases hg
 | s e k xs=>
  simp only [s2n] at hd
  split at hd
  ·cases hd
   obtain rfl:xs=[] :=hl.1
   exact⟨.inl ⟨by simp [rv],rfl⟩,fun g hg=>by simp [rv,blk] at hg⟩
  ·rename_i id kk n
   split at hd
   case h_2=>cases hd
   rename_i e' sz k' ys kk' hget
   split at hd
   case h_2=>cases hd
   rename_i hc
   simp only [A9,B7,aI] at hc
   obtain⟨⟨⟨rfl,rfl⟩,rfl⟩,rfl⟩:=hc
   cases hd
   obtain⟨h1,h2,h3⟩:=hl.1
   rcases hS.obj id _ hget with ⟨g1,g2⟩ | ⟨b,cap,cur,g1,g2,g3,g4,g5,g6,g7,g8⟩
   ·have hy:ys=[] :=by simpa [Row.list] using g2
    subst hy
    have hn:n=0:=by simpa using h2
    subst hn
    have hx:xs=[] :=by simpa using h3.symm
    subst hx
    exact⟨.inl ⟨by simp [rv,rSl,g1],rfl⟩,fun g hg=>by simp [rv,rSl,g1,blk] at hg⟩
   ·have e1:rvL E (ys.map (zO2 k'))=ys.map (zO2 k'):=rvL_pure _ _ (by rw [J1,zzA41]; intro x hx; obtain⟨y,_,rfl⟩:=zzA43.1 hx; rfl)
    simp only [Row.list,D1,u9] at g6 g7 g8
    refine⟨.inr ⟨b,cap,cur,by simp [rv,rSl,g1,g2,h1],g4.elim (fun h=>h) False.elim,g3,g5,g6,by omega,?_⟩,fun g hg=>⟨id,zzA130.2 rfl,⟨_,hget,rfl⟩,?_⟩⟩
    ·rw [<- h1,<- h3,fN,<- e1,<- g8,b0b,C6 h2]
    ·simp [rv,rSl,g1,blk] at hg
     rw [g1,hg]
  ·rename_i id n c
   split at hd
   case h_2=>cases hd
   rename_i cs e' hget
   split at hd
   case h_2=>cases hd
   rename_i l' he ht
   have he:=xY he
   subst he
   cases hd
   obtain⟨h1,h2,h3,h4,h5⟩:=hl.1
   obtain⟨b,g1,g2,g3⟩:=hS.obj id _ hget
   have g3:w.heap.size<=b:=g3.elim (fun h=>h) (fun h=>h.elim)
   have hcs:=J6 ht
   have e1:rvL E cs=l'.map (zO2 k):=by rw [hcs]; exact rvL_pure _ _ (by rw [J1,zzA41]; intro x hx; obtain⟨y,_,rfl⟩:=zzA43.1 hx; rfl)
   rw [e1] at g2
   refine⟨.inr ⟨b,c,_,by simp [rv,rSl,w8,g1,h1],g3, .of g2,h5,by simp [h4],by omega,?_⟩,fun g hg=>⟨id,zzA130.2 rfl,⟨_,hget,rfl⟩,?_⟩⟩
   ·rw [<- h1,<- h3]
    simp [List.map_take]
   ·simp [rv,rSl,w8,g1,blk] at hg
    rw [g1,hg]
  ·cases hd
 | o k ys off n=>cases hd
 | f g m sz off=>cases hd
def s0r:List Nat->Bool
 | [] =>true
 | i ::r=> !(K9 i r) && s0r r
theorem t0o {i:Nat} :∀ {l:List Nat},K9 i l=false->i ∉ l
 | [],_,h=>by cases h
 | j ::r,h,hm=>by
  simp only [K9,h0u] at h
  rcases zzA86.1 hm with rfl | hm
  ·simp at h
  ·exact t0o h.2 hm
theorem qB:∀ {l:List Nat},s0r l=true->l.Nodup
 | [],_=>List.nodup_nil
 | i ::r,h=>by
  simp only [s0r,A9,o0s] at h
  exact List.nodup_cons.2 ⟨t0o h.1,qB h.2⟩
theorem a0i {P:Program} {w w':World} {E:Num} {h:Heap} (hS:Sim P w.heap.size (fun _=>False) E h w'):∀ {cs:List Cel} {us:List Value} {ids:List Nat} {l:List Prop},t2a h cs us=some (ids,l)->l5 l->ids.Nodup->
  All2 (u0q w w') cs (rvL E us)∧((rvL E us).filterMap blk).Nodup∧∀ g∈(rvL E us).filterMap blk,∃ i∈ids,(∃ o,h.get i=some o∧o.rw=true)∧E i=some g
 | [],[],ids,l,hd,_,_=>by cases hd; exact⟨.nil,List.nodup_nil,fun g hg=>by cases hg⟩
 | c ::cs,u ::us,ids,l,hd,hl,hn=>by
  unfold t2a at hd
  split at hd
  case h_2=>cases hd
  rename_i i1 l1 i2 l2 h1 h2
  cases hd
  obtain⟨hl1,hl2⟩:=(a8 _ _).1 hl
  obtain⟨n1,n2,n3⟩:=List.nodup_append.1 hn
  obtain⟨a1,a2⟩:=x0b hS h1 hl1
  obtain⟨b1,b2,b3⟩:=a0i hS h2 hl2 n2
  refine⟨.cons a1 b1,?_,?_⟩
  ·simp only [rvL,sX]
   split
   ·exact b2
   ·rename_i g hg
    refine List.nodup_cons.2 ⟨fun hm=> ?_,b2⟩
    obtain⟨i,hi,⟨o,ho,hr⟩,hb⟩:=a2 g hg
    obtain⟨j,hj,⟨o',ho',hr'⟩,hb'⟩:=b3 g hm
    exact hS.inj i j o o' ho hr ho' (n3 i hi j hj) (by rw [hb]; simp) (hb.trans hb'.symm)
  ·intro g hg
   simp only [rvL,sX] at hg
   split at hg
   ·obtain⟨i,hi,hr⟩:=b3 g hg
    exact⟨i,b0v _ hi,hr⟩
   ·rename_i g' hg'
    rcases zzA86.1 hg with rfl | hg
    ·obtain⟨i,hi,hr⟩:=a2 g hg'
     exact⟨i,u0h _ hi,hr⟩
    ·obtain⟨i,hi,hr⟩:=b3 g hg
     exact⟨i,b0v _ hi,hr⟩
 | [],_ ::_,_,_,hd,_,_=>by cases hd
 | _ ::_,[],_,_,hd,_,_=>by cases hd
def B2 (X:Cx) (L:U5) (fuel f:Nat) (az rs:List Arg) (ds:List Bool):Option (List Prop):=
 match K7 X.P.globals.size (y7 az) with
 | (us,H,n)=>match m0k X L fuel f (M9 az us) H n ds with
  | none=>none
  | some r=>match o0u rs r.v with
   | none=>none
   | some us'=>match t2a r.h (y7 rs) us' with
    | none=>none
    | some (ids,l)=>match s0r ids with
     | true=>some (r.obs++l)
     | false=>none
theorem rN (E:Num):∀ (az:List Arg) (us:List Value),us.length=(y7 az).length->rvL E (M9 az us)=M9 az (rvL E us)
 | [],us,_=>rfl
 | a ::r,us,h=>by
  simp only [M9,rvL]
  have h:us.length=a.cells.length+(y7 r).length:=by simpa [y7] using h
  rw [rN E r (us.drop a.cells.length) (by rw [C2]; omega)]
  have e1:rvL E (us.drop a.cells.length)=(rvL E us).drop a.cells.length:=by rw [o9,o9,iO]
  have e2:rvL E (us.take a.cells.length)=(rvL E us).take a.cells.length:=by rw [o9,o9,fN]
  rw [e1,<- e2]
  congr 1
  cases a with
  | c x=>
   cases us with
   | nil=>simp [Arg.cells] at h; omega
   | cons u us=>simp [Arg.pack,Arg.cells,rvL]
  | a l=>simp [Arg.pack,rv,rvA]
theorem e1g {X:Cx} (hX:CxOk X X.J) (hng:ProgOk X.P) (L:U5) (fuel:Nat) (ds:List Bool) {f:FuncId} {az rs:List Arg} {l:List Prop} (h:B2 X L fuel f az rs ds=some l) (hl:l5 l):Sem X.P X.J f az rs:=by
 unfold B2 at h
 simp only at h
 split at h
 case h_1=>cases h
 rename_i r hev
 split at h
 case h_1=>cases h
 rename_i us' hun
 split at h
 case h_1=>cases h
 rename_i ids l' hdec
 split at h
 case h_2=>cases h
 rename_i hnd
 cases h
 obtain⟨hl1,hl2⟩:=(a8 _ _).1 hl
 refine⟨F2 hng hev,fun w us hI hA=> ?_⟩
 obtain⟨E,ha,hρ⟩:=g1u w.heap.size (fun _=>False) w (y7 az) us hA X.P.globals.size (fun i=>some i)
 have hp:Par X.P w.heap.size (fun _=>False):=⟨X.J.room w hI,fun _ _ h=>h⟩
 have hlen:(K7 X.P.globals.size (y7 az)).1.length=(y7 az).length:=by
  have:=aP List.length (hρ E (Agree.refl _ _)).1
  rw [Y9] at this
  rw [<- this,hA.length]
 have hS:∀ E',Agree (K7 X.P.globals.size (y7 az)).2.2 E E'->Sim X.P w.heap.size (fun _=>False) E' (K7 X.P.globals.size (y7 az)).2.1 w∧M9 az us=rvL E' (M9 az (K7 X.P.globals.size (y7 az)).1):=by
  intro E' ha'
  obtain⟨h1,h2⟩:=hρ E' ha'
  have hle:=Q4 (y7 az) X.P.globals.size
  refine⟨⟨fun g hg=>by rw [ha' g (by omega),ha g hg],h2,fun i j o o' hi hr _ _=> ?_⟩,?_⟩
  ·rw [(fG _ _ _ _ hi).2.2] at hr
   cases hr
  ·rw [rN E' az _ hlen,<- h1]
 refine (K3 hX hng.mixed hev hl1 hp (d9 _) hI hS).2.mono fun e w' ⟨ρ1,v,_,he,hk,hfin⟩=> ?_
 obtain⟨hv,hsim⟩:=hfin ρ1 (Agree.refl _ _)
 obtain⟨_,hpack⟩:=i0e hun ρ1
 obtain⟨d1,d2,_⟩:=a0i hsim hdec hl2 (qB hnd)
 exact⟨rvL ρ1 us',by rw [he,hv,hpack],hk.below,d1,d2⟩
theorem l7 {b:Base} (hb:BaseOk b) (k:Nat) (L:U5) (ds:List Bool) {f:FuncId} {az rs:List Arg} {l:List Prop} (h:B2 (b.cx k) L b.fuel f az rs ds=some l) (hl:l5 l):Sem b.P b.J f az rs:=by
 obtain⟨hX,hng⟩:=u6 hb k
 have:=e1g hX hng L b.fuel ds h hl
 cases k <;> exact this
theorem e0r {b:Base} (hb:BaseOk b) (k:Nat):CxOk (b.cxl k) (b.cxl k).J∧ProgOk (b.cxl k).P:=by
 obtain⟨hX,hng⟩:=u6 hb k
 exact⟨⟨hX.pc,hX.cl,hX.xt,hX.rd,hX.tabs,hX.ro⟩,hng⟩
theorem i1k {b:Base} (hb:BaseOk b) (k:Nat) (L:U5) (ds:List Bool) {f:FuncId} {az rs:List Arg} {l:List Prop} (h:B2 (b.cxl k) L b.fuel f az rs ds=some l) (hl:l5 l):Sem b.P b.J f az rs:=by
 obtain⟨hX,hng⟩:=e0r hb k
 have:=e1g hX hng L b.fuel ds h hl
 cases k <;> exact this
inductive CS where
 | v
 | s (e:TypeId) (k:IntKind)
 | o (k:IntKind)
inductive AS where
 | c (x:CS)
 | a (l:List CS)
def o1t (H:Heap) (k:IntKind) (x:Value):Option (List Int×List Prop):=
 match x with
 | .slice none 0 0=>some ([],[])
 | .slice (some ⟨id,0,some _⟩) n 0=>match H.get id with
  | some (.ints k' xs)=>match decide (k'=k) with
   | true=>some (xs,[n=xs.length])
   | false=>none
  | some (.row _ sz (.ints k' xs) _)=>match decide (k'=k) && zO0 sz 1 with
   | true=>some (xs.take n,[n<=xs.length])
   | false=>none
  | _=>none
 | .slice (some ⟨id,0,none⟩) n _=>match H.get id with
  | some (.cells cs _)=>match gB k cs with
   | some l=>some (l.take n,[n<=l.length])
   | none=>none
  | _=>none
 | _=>none
def s2v (H:Heap):CS->Value->Option (Cel×List Prop)
 | .v,x=>match D3 x with
  | true=>some (.v x,[])
  | false=>none
 | .s e k,x=>match o1t H k x with
  | some (xs,l)=>some (.s e k xs,l)
  | none=>none
 | .o k,x=>match x with
  | .slice (some ⟨id,off,some _⟩) n _=>match H.get id with
   | some (.row _ sz (.ints k' ys) _)=>match decide (k'=k) && zO0 sz 1 with
    | true=>some (.o k ys off n,[off+n<=ys.length])
    | false=>none
   | _=>none
  | _=>none
def v1i (H:Heap):List CS->List Value->Option (List Cel×List Prop)
 | [],[] =>some ([],[])
 | s ::ss,x ::xs=>match s2v H s x,v1i H ss xs with
  | some (c,l),some (cs,l')=>some (c ::cs,l++l')
  | _,_=>none
 | _,_=>none
def b3q (H:Heap):AS->Value->Option (Arg×List Prop)
 | .c s,x=>match s2v H s x with
  | some (c,l)=>some (.c c,l)
  | none=>none
 | .a ss, .agg ⟨xs⟩=>match v1i H ss xs with
  | some (cs,l)=>some (.a cs,l)
  | none=>none
 | .a _,_=>none
def t2m (H:Heap):List AS->List Value->Option (List Arg×List Prop)
 | [],[] =>some ([],[])
 | s ::ss,x ::xs=>match b3q H s x,t2m H ss xs with
  | some (c,l),some (cs,l')=>some (c ::cs,l++l')
  | _,_=>none
 | _,_=>none
theorem Q3 (E:Num) (k:IntKind) (xs:List Int):rvL E (xs.map (zO2 k))=xs.map (zO2 k):=
 rvL_pure _ _ (by rw [J1,zzA41]; intro x hx; obtain⟨y,_,rfl⟩:=zzA43.1 hx; rfl)
theorem U3 {xs:List Int} {n i:Nat} (h:i < n) (k:IntKind) (hi:i < xs.length):(xs.map (zO2 k))[i]? =some (.int k ((xs.take n).getD i 0)):=by
 simp [List.getD,h,hi]
theorem T0 {P:Program} {B:Nat} {M:Nat->Prop} {E:Num} {H:Heap} {w:World} (hS:Sim P B M E H w) {e:TypeId} {k:IntKind} {x:Value} {xs:List Int} {l:List Prop} (h:o1t H k x=some (xs,l)) (hl:l5 l):nM w (.s e k xs) (rv E x):=by
 unfold o1t at h
 split at h
 ·cases h
  exact .inl ⟨by simp [rv],rfl⟩
 ·rename_i id kk n
  split at h
  ·rename_i k' ys hget
   split at h
   case h_2=>cases h
   rename_i hk
   have hk:=G5 hk
   subst hk
   cases h
   obtain rfl:n=xs.length:=hl.1
   rcases hS.obj id _ hget with ⟨g1,g2⟩ | ⟨b,cs,t,fr,g1,g2,g3⟩
   ·subst g2
    exact .inl ⟨by simp [rv,rSl,g1],rfl⟩
   ·obtain⟨c',q⟩:=kC (off:=0) (sp:=some kk) (n:=xs.length) (c:=0) g1
    exact .inr ⟨b,c',cs,t,fr,q,g2,g3⟩
  ·rename_i e' sz k' ys kk' hget
   split at h
   case h_2=>cases h
   rename_i hc
   simp only [A9,B7,aI] at hc
   obtain⟨rfl,rfl⟩:=hc
   cases h
   have hn:n<=ys.length:=hl.1
   rcases hS.obj id _ hget with ⟨g1,g2⟩ | ⟨b,cap,cur,g1,g2,⟨fr,g3,_⟩,g4,g5,g6,g7,g8⟩
   ·have hy:ys=[] :=by simpa [Row.list] using g2
    subst hy
    have hn:n=0:=by simpa using hn
    subst hn
    exact .inl ⟨by simp [rv,rSl,g1],rfl⟩
   ·obtain⟨c',q⟩:=kC (off:=0) (sp:=some kk) (n:=n) (c:=0) g1
    have hlen:(ys.take n).length=n:=by rw [E0,C6 hn]
    refine .inr ⟨b,c',cur,e',fr,by rw [hlen]; exact q,g3,fun i hi=> ?_⟩
    rw [hlen] at hi
    simp only [Row.list] at g8
    rw [Q3,D1] at g8
    rw [<- U3 hi k' (by omega),<- g8,T6,f9 (by omega)]
    simp
  ·cases h
 ·rename_i id n c
  split at h
  case h_2=>cases h
  rename_i cs e' hget
  split at h
  case h_2=>cases h
  rename_i l' ht
  cases h
  have hn:n<=l'.length:=hl.1
  obtain⟨b,g1,g2,_⟩:=hS.obj id _ hget
  have hcs:=J6 ht
  subst hcs
  rw [Q3] at g2
  have hlen:(l'.take n).length=n:=by rw [E0,C6 hn]
  refine .inr ⟨b,c,_,e',(0,0),by rw [hlen]; simp [rv,rSl,w8,g1],g2,fun i hi=> ?_⟩
  rw [hlen] at hi
  rw [<- U3 hi k (by omega)]
  simp
 ·cases h
theorem zY {P:Program} {B:Nat} {M:Nat->Prop} {E:Num} {H:Heap} {w:World} (hS:Sim P B M E H w) {sh:CS} {x:Value} {c:Cel} {l:List Prop} (h:s2v H sh x=some (c,l)) (hl:l5 l):nM w c (rv E x):=by
 unfold s2v at h
 split at h
 ·split at h
  case h_2=>cases h
  rename_i hp
  cases h
  exact⟨D0 E x hp,hp⟩
 ·split at h
  case h_2=>cases h
  rename_i hs
  cases h
  exact T0 hS hs hl
 ·split at h
  case h_2=>cases h
  rename_i id off kk n c
  split at h
  case h_2=>cases h
  rename_i e' sz k' ys kk' hget
  split at h
  case h_2=>cases h
  rename_i hc
  simp only [A9,B7,aI] at hc
  obtain⟨rfl,rfl⟩:=hc
  cases h
  have hn:off+n<=ys.length:=hl.1
  rcases hS.obj id _ hget with ⟨g1,g2⟩ | ⟨b,cap,cur,g1,g2,⟨fr,g3,_⟩,g4,g5,g6,g7,g8⟩
  ·have hy:ys=[] :=by simpa [Row.list] using g2
   subst hy
   simp only [jN] at hn
   obtain rfl:off=0:=by omega
   obtain rfl:n=0:=by omega
   exact .inl ⟨by simp [rv,rSl,g1],rfl,rfl,rfl⟩
  ·obtain⟨c',q⟩:=kC (off:=off) (sp:=some kk) (n:=n) (c:=c) g1
   refine .inr ⟨b,c',cur,e',fr,q,g3,fun i hi=> ?_⟩
   simp only [Row.list] at g8
   rw [Q3,D1] at g8
   have:=U3 (xs:=ys) (n:=ys.length) hi k' hi
   rw [r8,<- g8,T6,f9 hi] at this
   simpa using this
theorem xI {P:Program} {B:Nat} {M:Nat->Prop} {E:Num} {H:Heap} {w:World} (hS:Sim P B M E H w):∀ {sh:List CS} {xs:List Value} {cs:List Cel} {l:List Prop},v1i H sh xs=some (cs,l)->l5 l->All2 (nM w) cs (rvL E xs)
 | [],[],cs,l,h,_=>by cases h; exact .nil
 | s ::ss,x ::xs,cs,l,h,hl=>by
  unfold v1i at h
  split at h
  case h_2=>cases h
  rename_i c l1 cs' l2 h1 h2
  cases h
  obtain⟨hl1,hl2⟩:=(a8 _ _).1 hl
  exact .cons (zY hS h1 hl1) (xI hS h2 hl2)
 | [],_ ::_,_,_,h,_=>by cases h
 | _ ::_,[],_,_,h,_=>by cases h
theorem b0k {P:Program} {B:Nat} {M:Nat->Prop} {E:Num} {H:Heap} {w:World} (hS:Sim P B M E H w):∀ {sh:List AS} {xs:List Value} {az:List Arg} {l:List Prop},t2m H sh xs=some (az,l)->l5 l->∃ us,All2 (nM w) (y7 az) us∧rvL E xs=M9 az us
 | [],[],az,l,h,_=>by cases h; exact⟨[], .nil,rfl⟩
 | s ::ss,x ::xs,az,l,h,hl=>by
  unfold t2m at h
  split at h
  case h_2=>cases h
  rename_i a l1 az' l2 h1 h2
  cases h
  obtain⟨hl1,hl2⟩:=(a8 _ _).1 hl
  obtain⟨us,g1,g2⟩:=b0k hS h2 hl2
  unfold b3q at h1
  split at h1
  ·split at h1
   case h_2=>cases h1
   rename_i c l0 hc
   cases h1
   refine⟨rv E x ::us, .cons (zY hS hc hl1) g1,?_⟩
   simp [rvL,M9,Arg.cells,Arg.pack,g2]
  ·split at h1
   case h_2=>cases h1
   rename_i cs l0 hc
   cases h1
   have hcs:=xI hS hc hl1
   refine⟨rvL E _++us,hcs.append g1,?_⟩
   simp only [rvL,M9,Arg.cells,Arg.pack]
   rw [hcs.length,zT,List.drop_left,g2]
   simp [rv,rvA]
  ·cases h1
 | [],_ ::_,_,_,h,_=>by cases h
 | _ ::_,[],_,_,h,_=>by cases h
def nA (n:Nat):List Cel->List Value×Heap×Nat
 | [] =>([],[],n)
 | .v x ::r=>match nA n r with
  | (vs,h,m)=>(x ::vs,h,m)
 | .s e k xs ::r=>match nA (n+2) r with
  | (vs,h,m)=>(.slice (some ⟨n,0,some (n+1)⟩) xs.length 0 ::vs,(n, .row e 1 (.ints k xs) (n+1)) ::h,m)
 | .o _ _ _ _ ::r=>nA n r
 | .f _ _ _ _ ::r=>nA n r
theorem gO:∀ (cs:List Cel) (n:Nat),n<=(nA n cs).2.2
 | [],n=>d9 _
 | .v x ::r,n=>gO r n
 | .s e k xs ::r,n=>by
  have:=gO r (n+2)
  show n<=(nA (n+2) r).2.2
  omega
 | .o _ _ _ _ ::r,n=>gO r n
 | .f _ _ _ _ ::r,n=>gO r n
theorem h2m {B:Nat} (M:Nat->Prop) {w w':World} (hB:B<=w.heap.size):∀ (cs:List Cel) (us:List Value),All2 (u0q w w') cs us->(us.filterMap blk).Nodup->∀ (n:Nat) (ρ0:Num),∃ E,Agree n ρ0 E∧∀ E',Agree (nA n cs).2.2 E E'->
  us=rvL E' (nA n cs).1∧(∀ i o,(nA n cs).2.1.get i=some o->ORep B M E' w' (E' i) o∧(∀ g,E' i=some g->w.heap.size<=g∧g∈us.filterMap blk))∧∀ i j o o',(nA n cs).2.1.get i=some o->(nA n cs).2.1.get j=some o'->i≠j->E' i≠none->E' i≠E' j:=by
 intro cs us h
 induction h with
 | nil=>exact fun _ n ρ0=>⟨ρ0,Agree.refl _ _,fun E' _=>⟨rfl,(fun i o h=>by cases h),(fun i j o o' h=>by cases h)⟩⟩
 | @cons c u cs us hc _ ih=>
  intro hnd n ρ0
  have hnd2:(us.filterMap blk).Nodup:=by
   rw [sX] at hnd
   split at hnd
   ·exact hnd
   ·exact (List.nodup_cons.1 hnd).2
  cases c with
  | v x=>
   obtain⟨rfl,hp⟩:=hc
   obtain⟨E,ha,hρ⟩:=ih hnd2 n ρ0
   refine⟨E,ha,fun E' ha'=> ?_⟩
   obtain⟨h1,h2,h3⟩:=hρ E' ha'
   refine⟨?_,fun i o hi=>⟨(h2 i o hi).1,fun g hg=>⟨((h2 i o hi).2 g hg).1,?_⟩⟩,h3⟩
   ·show u ::us=rvL E' (u ::(nA n cs).1)
    simp only [rvL,D0 E' u hp,<- h1]
   ·have:=((h2 i o hi).2 g hg).2
    rw [sX]
    split
    ·exact this
    ·exact gK _ this
  | s e k xs=>
   have key:∀ (ob:Option Nat) (cap:Nat),(u=match ob with | none=> .slice none xs.length 0 | some g=> .slice (some ⟨g,0,none⟩) xs.length cap)->(∀ E',E' (n+1)=some cap->ORep B M E' w' ob (.row e 1 (.ints k xs) (n+1)))->(∀ g,ob=some g->w.heap.size<=g)->∃ E,Agree n ρ0 E∧∀ E',Agree (nA n (.s e k xs ::cs)).2.2 E E'->
     u ::us=rvL E' (nA n (.s e k xs ::cs)).1∧(∀ i o,(nA n (.s e k xs ::cs)).2.1.get i=some o->ORep B M E' w' (E' i) o∧(∀ g,E' i=some g->w.heap.size<=g∧g∈(u ::us).filterMap blk))∧
     ∀ i j o o',(nA n (.s e k xs ::cs)).2.1.get i=some o->(nA n (.s e k xs ::cs)).2.1.get j=some o'->i≠j->E' i≠none->E' i≠E' j:=by
    intro ob cap hu ho hge
    obtain⟨E,ha,hρ⟩:=ih hnd2 (n+2) (fun i=>if i=n then ob else if i=n+1 then some cap else ρ0 i)
    refine⟨E,fun i hi=> ?_,fun E' ha'=> ?_⟩
    ·rw [ha i (by omega)]
     show (if i=n then ob else if i=n+1 then some cap else ρ0 i)=ρ0 i
     rw [a7 (by omega),a7 (by omega)]
    ·obtain⟨h1,h2,h3⟩:=hρ E' ha'
     have hle:=gO cs (n+2)
     have hn:E' n=ob:=by
      rw [ha' n (by show n < (nA (n+2) cs).2.2; omega),ha n (by omega)]
      simp
     have hk:E' (n+1)=some cap:=by
      rw [ha' (n+1) (by show n+1 < (nA (n+2) cs).2.2; omega),ha (n+1) (by omega)]
      simp
     have hbu:∀ g,ob=some g->blk u=some g:=fun g hg=>by rw [hu,hg]; rfl
     have hne:∀ j o',(nA (n+2) cs).2.1.get j=some o'->∀ g,ob=some g->E' j≠some g:=fun j o' hj g hg e=>by
      have hm:=((h2 j o' hj).2 g e).2
      rw [sX,hbu g hg] at hnd
      exact (List.nodup_cons.1 hnd).1 hm
     refine⟨?_,fun i o hi=> ?_,fun i j o o' hi hj hij hnn=> ?_⟩
     ·show u ::us=rvL E' (.slice (some ⟨n,0,some (n+1)⟩) xs.length 0 ::(nA (n+2) cs).1)
      rw [rvL,<- h1,hu]
      cases ob with
      | none=>simp [rv,rSl,hn]
      | some g=>simp [rv,rSl,hn,hk]
     ·change Heap.get ((n, .row e 1 (.ints k xs) (n+1)) ::(nA (n+2) cs).2.1) i=some o at hi
      rw [b6] at hi
      split at hi
      ·rename_i e'
       subst e'
       cases hi
       rw [hn]
       refine⟨ho E' hk,fun g hg=>⟨hge g hg,?_⟩⟩
       rw [sX,hbu g hg]
       exact xH ..
      ·refine⟨(h2 i o hi).1,fun g hg=>⟨((h2 i o hi).2 g hg).1,?_⟩⟩
       have:=((h2 i o hi).2 g hg).2
       rw [sX]
       split
       ·exact this
       ·exact gK _ this
     ·change Heap.get ((n, .row e 1 (.ints k xs) (n+1)) ::(nA (n+2) cs).2.1) i=some o at hi
      change Heap.get ((n, .row e 1 (.ints k xs) (n+1)) ::(nA (n+2) cs).2.1) j=some o' at hj
      rw [b6] at hi hj
      split at hi <;> split at hj
      ·omega
      ·rename_i e1 _
       subst e1
       rw [hn] at hnn ⊢
       cases ob with
       | none=>exact absurd rfl hnn
       | some g=>exact fun e=>hne j o' hj g rfl e.symm
      ·rename_i _ e1
       subst e1
       rw [hn]
       cases ob with
       | none=>exact hnn
       | some g=>exact hne i o hi g rfl
      ·exact h3 i j o o' hi hj hij hnn
   rcases hc with ⟨rfl,rfl⟩ | ⟨g,cap,cur,rfl,h1,h2,h3,h4,h5,h6⟩
   ·exact key none 0 rfl (fun E' _=> .inl ⟨rfl,rfl⟩) (fun g hg=>by cases hg)
   ·refine key (some g) cap rfl (fun E' hk=> .inr ⟨g,cap,cur,rfl,hk,h2, .inl (by omega),h3,by omega,by simpa [Row.list] using h5,?_⟩) (fun g' hg=>by cases hg; exact h1)
    simp only [Row.list]
    rw [Q3,D1]
    exact h6
  | o k ys off n=>exact hc.elim
  | f g m sz off=>exact hc.elim
def A3 (sh:List AS) (spec:List Arg->Option (List Arg×List Prop)) (args:List Value) (H:Heap) (n:Nat) (ds:List Bool):Option CR:=
 match t2m H sh args with
 | none=>none
 | some (az,l)=>match spec az with
  | none=>none
  | some (rs,l')=>match nA n (y7 rs) with
   | (us,h,m)=>some ⟨P1 (M9 rs us),h++H,m,l++l',ds⟩
theorem fQ (F H:Heap) (i:Nat):Heap.get (F++H) i=match F.get i with | some o=>some o | none=>H.get i:=by
 induction F with
 | nil=>rfl
 | cons x F ih=>
  obtain⟨j,o⟩:=x
  rw [k0k,b6,b6,ih]
  split <;> rfl
theorem f2m {P:Program} {B:Nat} {M:Nat->Prop} {E:Num} {F H:Heap} {w w':World} (hS:Sim P B M E H w) (hb:Below w.heap.size w w')
  (hF:∀ i o,F.get i=some o->ORep B M E w' (E i) o∧∀ g,E i=some g->w.heap.size<=g) (hinj:∀ i j o o',F.get i=some o->F.get j=some o'->i≠j->E i≠none->E i≠E j):Sim P B M E (F++H) w':=by
 have low:∀ k ok,H.get k=some ok->∀ g,E k=some g->g < w.heap.size:=fun k ok hk g hg=>by
  have:=hS.obj k ok hk
  rw [hg] at this
  exact this.lt
 have hold:=hS.below hb
 refine⟨hS.glob,fun i o hi=> ?_,fun i j o o' hi hr hj hij hnn=> ?_⟩
 ·rw [fQ] at hi
  split at hi
  ·rename_i h; cases hi; exact (hF i _ h).1
  ·exact hold.obj i o hi
 ·rw [fQ] at hi hj
  cases h1:F.get i with
  | some q=>
   cases h2:F.get j with
   | some q'=>exact hinj i j q q' h1 h2 hij hnn
   | none=>
    rw [h2] at hj
    intro e
    cases hq:E i with
    | none=>exact hnn hq
    | some g=>
     have a:=(hF i _ h1).2 g hq
     have b:=low j o' hj g (by rw [<- e]; exact hq)
     omega
  | none=>
   rw [h1] at hi
   cases h2:F.get j with
   | some q'=>
    intro e
    cases hq:E i with
    | none=>exact hnn hq
    | some g=>
     have a:=(hF j _ h2).2 g (by rw [<- e]; exact hq)
     have b:=low i o hi g hq
     omega
   | none=>
    rw [h2] at hj
    exact hold.inj i j o o' hi hr hj hij hnn
def V8 (P:Program) (J:Inv P) (f:FuncId) (spec:List Value->Heap->Nat->List Bool->Option CR):Prop:=
 ∀ args H n ds r,spec args H n ds=some r->l5 r.obs->n<=r.n∧Enters P f∧∀ (B:Nat) (M:Nat->Prop) (E:Num) (w:World) (vs:List Value),Par P B M->B<=w.heap.size->J.I w->
  (∀ E',Agree n E E'->Sim P B M E' H w∧vs=rvL E' args)->
  Calls P f ⟨vs⟩ w fun e w'=>∃ ρ1 v,Agree n E ρ1∧e= .returned v∧Keeps B M w w'∧∀ E',Agree r.n ρ1 E'->v=rv E' r.v∧Sim P B M E' r.h w'
def o8 (f:FuncId) (spec:List Value->Heap->Nat->List Bool->Option CR) (t:iV):iV:=fun g args H n ds=>
 match zO0 g f with
 | true=>spec args H n ds
 | false=>t g args H n ds
theorem j0 {P:Program} {J:Inv P} {f:FuncId} {spec:List Value->Heap->Nat->List Bool->Option CR} {t:iV} (h:V8 P J f spec) (ht:iS P J t):iS P J (o8 f spec t):=by
 intro g args H n ds r hs hl
 unfold o8 at hs
 split at hs
 ·rename_i hg
  have:=xY hg
  subst this
  exact h args H n ds r hs hl
 ·exact ht g args H n ds r hs hl
theorem u1m (E:Num) (l:List Value):rv E (P1 l)=P1 (rvL E l):=by
 cases l with
 | nil=>simp [P1,rv,rvA,rvL]
 | cons v l=>
  cases l with
  | nil=>simp [P1,rvL]
  | cons u l=>simp [P1,rv,rvA,rvL]
theorem m9 {P:Program} {J:Inv P} {f:FuncId} (sh:List AS) {spec:List Arg->Option (List Arg×List Prop)} (h:∀ az rs l,spec az=some (rs,l)->l5 l->Sem P J f az rs):V8 P J f (A3 sh spec):=by
 intro args H n ds r hs hl
 unfold A3 at hs
 split at hs
 ·cases hs
 rename_i az l hpar
 split at hs
 ·cases hs
 rename_i rs l' hspec
 cases hs
 obtain⟨hl1,hl2⟩:=(a8 _ _).1 hl
 obtain⟨hent,hsem⟩:=h az rs l' hspec hl2
 refine⟨gO _ _,hent,fun B M E w vs hp hB hI hS=> ?_⟩
 obtain⟨hS0,hvs⟩:=hS E (Agree.refl _ _)
 obtain⟨us,hus,hpack⟩:=b0k hS0 hpar hl1
 rw [hvs,hpack]
 refine (hsem w us hI hus).mono fun e w' ⟨us',he,hb,hnew,hnd⟩=> ?_
 obtain⟨ρ1,ha1,hρ1⟩:=h2m M hB _ _ hnew hnd n E
 refine⟨ρ1,_,ha1,he,u3 hb hB,fun E' ha'=> ?_⟩
 obtain⟨q1,q2,q3⟩:=hρ1 E' ha'
 have hag:Agree n E E':=fun i hi=>by rw [ha' i (C8 hi (gO _ _)),ha1 i hi]
 refine⟨?_,f2m (hS E' hag).1 hb (fun i o hi=>⟨(q2 i o hi).1,fun g hg=>((q2 i o hi).2 g hg).1⟩) q3⟩
 show P1 (M9 rs us')=rv E' (P1 (M9 rs (nA n (y7 rs)).1))
 have hlen:(nA n (y7 rs)).1.length=(y7 rs).length:=by
  have:=aP List.length q1
  rw [Y9] at this
  rw [<- this,hnew.length]
 rw [u1m,rN E' rs _ hlen,<- q1]
def m8 (X:Cx) (fuel f:Nat) (az:List Arg) (ds:List Bool):St:=
 match K7 X.P.globals.size (y7 az) with
 | (us,H,n)=>x9 X fuel f (M9 az us) H n ds
def itr {α:Type} (f:α->α):Nat->α->α
 | 0,a=>a
 | n+1,a=>f (itr f n a)
theorem x5 {X:Cx} {c:Code} (S:Nat->St) (n:Nat) {x:AX} (hx:x≠ .normal) {s':St} (h:∀ k,k < n->u4 X c (S k) .normal (S (k+1))) (ho:u4 X c (S n) x s'):b9 X c (S 0) x s':=
 C0 S (fun k=>n-k) (fun k=>k<=n) hx (fun k hk=>if hlt:k < n then .inl ⟨k+1,hlt,by omega,h k hlt⟩ else by
  obtain rfl:k=n:=by omega
  exact .inr ho) 0 (s6 _)
end
end Go.Proofs.YtkiejangmhhofaaGreatDoor.Ev
namespace Go.Proofs.YtkiejangmhhofaaGreatDoor.Wd
def val (b:Nat):List Int->Nat
 | [] =>0
 | x ::r=>x.toNat+b*val b r
def Dg (b:Nat) (l:List Int):Prop:=∀ x∈l,0<=x∧x < (b:Int)
theorem Dg.nil (b:Nat):Dg b [] :=fun _ h=>by cases h
theorem Dg.cons {b:Nat} {x:Int} {l:List Int} (h:0<=x∧x < (b:Int)) (k:Dg b l):Dg b (x ::l):=by
 intro y hy
 rcases zzA86.1 hy with rfl | hy
 ·exact h
 ·exact k y hy
theorem Dg.head {b:Nat} {x:Int} {l:List Int} (h:Dg b (x ::l)):0<=x∧x < (b:Int):=h x (xH ..)
theorem Dg.tail {b:Nat} {x:Int} {l:List Int} (h:Dg b (x ::l)):Dg b l:=fun y hy=>h y (gK _ hy)
theorem Dg.get {b:Nat} (hb:0 < b) {l:List Int} (h:Dg b l) (i:Nat):0<=l.getD i 0∧l.getD i 0 < (b:Int):=by
 rw [bD]
 cases e:l[i]? with
 | none=>simp; omega
 | some x=>simpa using h x (List.mem_of_getElem? e)
theorem Dg.set {b:Nat} {l:List Int} (h:Dg b l) {x:Int} (hx:0<=x∧x < (b:Int)) (i:Nat):Dg b (l.set i x):=by
 intro y hy
 rcases List.mem_or_eq_of_mem_set hy with hy | rfl
 ·exact h y hy
 ·exact hx
theorem Dg.append {b:Nat} {l m:List Int} (h:Dg b l) (k:Dg b m):Dg b (l++m):=by
 intro y hy
 rcases zzA94.1 hy with hy | hy
 ·exact h y hy
 ·exact k y hy
theorem Dg.take {b:Nat} {l:List Int} (h:Dg b l) (i:Nat):Dg b (l.take i):=fun y hy=>h y (List.mem_of_mem_take hy)
theorem Dg.drop {b:Nat} {l:List Int} (h:Dg b l) (i:Nat):Dg b (l.drop i):=fun y hy=>h y (s1n hy)
theorem H8 (b:Nat) (hb:0 < b) (n:Nat):Dg b (zO7 n 0):=by
 intro y hy
 have:=List.eq_of_mem_replicate hy
 subst this
 omega
theorem S8 (b:Nat):∀ l m:List Int,val b (l++m)=val b l+b ^l.length*val b m
 | [],m=>by simp [val]
 | x ::l,m=>by
  simp only [k0k,val,S8 b l m,A4,y8]
  rw [R4,<- r7,t7 b (b ^l.length)]
  omega
theorem O4 (b:Nat):∀ n,val b (zO7 n 0)=0
 | 0=>rfl
 | n+1=>by simp [List.replicate_succ,val,O4 b n]
theorem E8 {b:Nat} (hb:0 < b):∀ {l:List Int},Dg b l->val b l < b ^l.length
 | [],_=>by simp [val]
 | x ::l,h=>by
  have h1:=h.head
  have h2:=E8 hb h.tail
  simp only [val,A4,y8]
  have h3:b*val b l+b<=b*b ^l.length:=by
   rw [<- Nat.mul_succ]
   exact N0 b h2
  rw [t7 (b ^l.length) b]
  omega
theorem X4 {b:Nat} (hb:0 < b):∀ {l m:List Int},Dg b l->Dg b m->l.length=m.length->val b l=val b m->l=m
 | [],[],_,_,_,_=>rfl
 | [],_ ::_,_,_,h,_=>by simp at h
 | _ ::_,[],_,_,h,_=>by simp at h
 | x ::l,y ::m,hl,hm,hn,hv=>by
  have h1:=hl.head
  have h2:=hm.head
  simp only [val] at hv
  have e1:(x.toNat+b*val b l)%b=x.toNat:=by rw [jU]; exact G7 (by omega)
  have e2:(y.toNat+b*val b m)%b=y.toNat:=by rw [jU]; exact G7 (by omega)
  have e:x.toNat=y.toNat:=by rw [<- e1,<- e2,hv]
  have hv2:b*val b l=b*val b m:=by omega
  have:=X4 hb hl.tail hm.tail (by simpa using hn) (Nat.eq_of_mul_eq_mul_left hb hv2)
  subst this
  congr 1
  omega
def dig (b m i:Nat):Nat:=m/b ^i%b
theorem D6 {b:Nat} (hb:0 < b) (m i:Nat):dig b m i < b:=F7 _ hb
theorem B1 {b:Nat} (hb:0 < b):∀ {l:List Int},Dg b l->∀ i,l.getD i 0=(dig b (val b l) i:Int)
 | [],_,i=>by simp [dig,val]
 | x ::l,h,0=>by
  have h1:=h.head
  simp only [List.getD_cons_zero,dig,val,G3,Nat.div_one,jU]
  rw [G7 (by omega)]
  omega
 | x ::l,h,i+1=>by
  have h1:=h.head
  rw [List.getD_cons_succ,B1 hb h.tail i]
  simp only [dig,val]
  rw [y8,t7 (b ^i) b,<- P0,gC _ _ hb,mK (show x.toNat < b by omega),I0]
def dl (b:Nat):Nat->Nat->List Int
 | 0,_=>[]
 | n+1,m=>((m%b:Nat):Int) ::dl b n (m/b)
theorem l4 (b:Nat):∀ n m,(dl b n m).length=n
 | 0,_=>rfl
 | n+1,m=>by simp [dl,l4 b n]
theorem Q0 {b:Nat} (hb:0 < b):∀ n m,Dg b (dl b n m)
 | 0,_=>Dg.nil b
 | n+1,m=>Dg.cons (by have:=F7 m hb; omega) (Q0 hb n _)
theorem H5 (b:Nat):∀ n m,val b (dl b n m)=m%b ^n
 | 0,m=>by simp [dl,val,Nat.mod_one]
 | n+1,m=>by
  simp only [dl,val,H5 b n]
  rw [y8,t7 (b ^n) b,Nat.mod_mul,g9]
theorem s1i {b:Nat} (hb:0 < b) {l:List Int} (h:Dg b l) {n m:Nat} (hn:l.length=n) (hm:val b l=m):l=dl b n m:=by
 subst hn hm
 exact X4 hb h (Q0 hb _ _) (l4 b _ _).symm (by rw [H5,G7 (E8 hb h)])
theorem cX {b:Nat} :∀ {l:List Int} {i:Nat} (x:Int),i < l.length->val b (l.set i x)+(l.getD i 0).toNat*b ^i=val b l+x.toNat*b ^i
 | [],_,_,h=>by simp at h
 | y ::l,0,x,_=>by simp [val]; omega
 | y ::l,i+1,x,h=>by
  have ih:=cX (b:=b) (l:=l) (i:=i) x (by simpa using h)
  simp only [List.set_cons_succ,val,List.getD_cons_succ,y8]
  have h1:b*val b (l.set i x)+b*((l.getD i 0).toNat*b ^i)=b*val b l+b*(x.toNat*b ^i):=by rw [<- R4,<- R4,ih]
  have h2:(l.getD i 0).toNat*(b ^i*b)=b*((l.getD i 0).toNat*b ^i):=by rw [t7 b,r7]
  have h3:x.toNat*(b ^i*b)=b*(x.toNat*b ^i):=by rw [t7 b,r7]
  omega
theorem A5 (b:Nat) (l:List Int) (i:Nat) (h:i<=l.length):val b l=val b (l.take i)+b ^i*val b (l.drop i):=by
 have:=S8 b (l.take i) (l.drop i)
 rw [k1n,E0,C6 h] at this
 exact this
theorem J8 (b m i:Nat):m%b ^(i+1)=m%b ^i+dig b m i*b ^i:=by
 rw [y8,Nat.mod_mul]
 unfold dig
 rw [t7 (b ^i)]
theorem l1b {b:Nat} (m i:Nat):m/b ^i=dig b m i+b*(m/b ^(i+1)):=by
 unfold dig
 rw [y8,<- P0]
 exact (wE _ _).symm
def wsF (b:Nat):Nat->Nat->List Int
 | 0,_=>[]
 | f+1,m=>match m with
  | 0=>[]
  | m+1=>(((m+1)%b:Nat):Int) ::wsF b f ((m+1)/b)
def ws (b m:Nat):List Int:=wsF b m m
theorem v1t {b:Nat} (hb:2<=b):∀ f m,m<=f->∀ g,m<=g->wsF b f m=wsF b g m:=by
 intro f
 induction f with
 | zero=>
  intro m hm g _
  obtain rfl:m=0:=by omega
  cases g <;> rfl
 | succ f ih=>
  intro m hm g hg
  cases m with
  | zero=>cases g <;> rfl
  | succ m=>
   cases g with
   | zero=>omega
   | succ g=>
    have hlt:(m+1)/b < m+1:=Nat.div_lt_self (by omega) hb
    simp only [wsF]
    rw [ih _ (by omega) g (by omega)]
theorem g0d (b:Nat):ws b 0=[] :=rfl
theorem h0q {b:Nat} (hb:2<=b) {m:Nat} (hm:0 < m):ws b m=((m%b:Nat):Int) ::ws b (m/b):=by
 cases m with
 | zero=>omega
 | succ m=>
  have hlt:(m+1)/b < m+1:=Nat.div_lt_self (by omega) hb
  unfold ws
  conv=>lhs; unfold wsF
  simp only
  rw [v1t hb m _ (by omega) ((m+1)/b) (d9 _)]
theorem j0a {b:Nat} (hb:2<=b) (m:Nat):Dg b (ws b m):=by
 induction m using Nat.strongRecOn with
 | ind m ih=>
  by_cases hm:m=0
  ·subst hm; exact Dg.nil b
  ·rw [h0q hb (by omega)]
   exact Dg.cons (by have:=F7 m (show 0 < b by omega); omega) (ih _ (Nat.div_lt_self (by omega) hb))
theorem x6 {b:Nat} (hb:2<=b) (m:Nat):val b (ws b m)=m:=by
 induction m using Nat.strongRecOn with
 | ind m ih=>
  by_cases hm:m=0
  ·subst hm; rfl
  ·rw [h0q hb (by omega)]
   simp only [val]
   rw [ih _ (Nat.div_lt_self (by omega) hb)]
   have:=wE m b
   omega
def p2t (l:List Int):Prop:=∀ x,l.getLast? =some x->x≠0
theorem r2g {b:Nat} (hb:2<=b):∀ {l:List Int},Dg b l->p2t l->l=ws b (val b l)
 | [],_,_=>rfl
 | x ::l,h,hc=>by
  have h1:=h.head
  have hct:p2t l:=by
   intro y hy
   cases l with
   | nil=>cases hy
   | cons z l=>exact hc y (by rw [List.getLast?_cons_cons]; exact hy)
  have ih:=r2g hb h.tail hct
  have hpos:0 < val b (x ::l):=by
   simp only [val]
   cases l with
   | nil=>
    have:=hc x rfl
    simp [val]
    omega
   | cons z l=>
    have:0 < val b (z ::l):=by
     rcases Q5 (val b (z ::l)) with h0 | h0
     ·rw [h0] at ih; cases ih
     ·exact h0
    have:=F0 (show 0 < b by omega) this
    omega
  rw [h0q hb hpos]
  simp only [val]
  rw [jU,G7 (by omega),gC _ _ (by omega),mK (by omega),I0,<- ih]
  congr 1
  omega
theorem F1 {b:Nat} (hb:2<=b) (m n:Nat):(ws b m).length<=n↔m < b ^n:=by
 constructor
 ·intro h
  have h1:=E8 (by omega) (j0a hb m)
  rw [x6 hb] at h1
  exact C8 h1 (y5 (by omega) h)
 ·induction n generalizing m with
  | zero=>
   intro h
   obtain rfl:m=0:=by simpa using h
   simp [g0d]
  | succ n ih=>
   intro h
   by_cases hm:m=0
   ·subst hm; simp [g0d]
   ·rw [h0q hb (by omega),A4]
    have:m/b < b ^n:=by
     rw [D9 (by omega),<- y8]
     exact h
    have:=ih _ this
    omega
theorem qG {b:Nat} (hb:2<=b) {m n:Nat} :n < (ws b m).length↔b ^n<=m:=by
 have:=F1 hb m n
 omega
theorem k0p {b:Nat} (hb:2<=b) {m:Nat} :(ws b m).length=0↔m=0:=by
 have:=F1 hb m 0
 simp only [G3] at this
 omega
theorem m0s {b:Nat} (hb:2<=b) (m i:Nat):(ws b m).getD i 0=(dig b m i:Int):=by
 rw [B1 (by omega) (j0a hb m),x6 hb]
def n8 (l:List Int):List Int:=(l.reverse.dropWhile (· ==0)).reverse
theorem K5 (l:List Int) (x:Int):n8 (l++[x])=if x=0 then n8 l else l++[x] :=by
 unfold n8
 rw [List.reverse_append]
 simp only [h0w,List.reverse_nil,pF,kK]
 rw [List.dropWhile_cons]
 by_cases h:x=0
 ·subst h; simp
 ·have:(x==0)=false:=by simpa using h
  simp [this,h]
theorem c0v (b:Nat) (l:List Int):val b (l++[0])=val b l:=by rw [S8]; simp [val]
theorem E1 {b:Nat} (hb:2<=b) {l:List Int} (h:Dg b l):n8 l=ws b (val b l):=by
 induction hn:l.length generalizing l with
 | zero=>
  have:=cJ hn
  subst this
  rfl
 | succ n ih=>
  have hne:l≠[] :=by intro e; subst e; cases hn
  obtain⟨m,x,rfl⟩:∃ m x,l=m++[x] :=⟨l.dropLast,l.getLast hne,(List.dropLast_concat_getLast hne).symm⟩
  rw [K5]
  split
  ·rename_i hx
   subst hx
   rw [c0v]
   exact ih (fun y hy=>h y (u0h _ hy)) (by simp at hn; omega)
  ·rename_i hx
   refine r2g hb h fun y hy=> ?_
   simp at hy
   omega
end Go.Proofs.YtkiejangmhhofaaGreatDoor.Wd
namespace Go.Proofs.YtkiejangmhhofaaGreatDoor
open Go Go.RowKit Ev Wd
def f0m:List Value->Option (Value×List Prop)
 | [.int .u64 x, .int .u64 y, .int .u64 c] =>some (.tuple ⟨[.int .u64 (zO6 ((x.toNat+y.toNat+c.toNat)%18446744073709551616)), .int .u64 (zO6 ((x.toNat+y.toNat+c.toNat)/18446744073709551616))]⟩,[c.toNat<=1])
 | _=>none
theorem r0r (args:List Value) (v:Value) (l:List Prop) (h:f0m args=some (v,l)) (hl:l5 l):Pure zO8 J0 200 args v:=by
 unfold f0m at h
 split at h
 case h_2=>cases h
 rename_i x y c
 cases h
 have hc:c.toNat<=1:=hl.1
 refine pX [.int .u64 x, .int .u64 y, .int .u64 c] _ [] ?_ trivial
 simp only [mB,v0w hc]
def g0t (x y c:Int):Int:=zO6 ((x.toNat+18446744073709551616-y.toNat-c.toNat)%18446744073709551616)
def e0b (x y c:Int):Int:=zO6 (match zO1 x.toNat (y.toNat+c.toNat) with | true=>1 | false=>0)
def d0k:List Value->Option (Value×List Prop)
 | [.int .u64 x, .int .u64 y, .int .u64 c] =>some (.tuple ⟨[.int .u64 (g0t x y c), .int .u64 (e0b x y c)]⟩,[c.toNat<=1])
 | _=>none
theorem q0y (args:List Value) (v:Value) (l:List Prop) (h:d0k args=some (v,l)) (hl:l5 l):Pure zO8 J0 300 args v:=by
 unfold d0k at h
 split at h
 case h_2=>cases h
 rename_i x y c
 cases h
 have hc:c.toNat<=1:=hl.1
 refine qJ [.int .u64 x, .int .u64 y, .int .u64 c] _ [] ?_ trivial
 simp only [kJ,v0w hc]
 rfl
def t1d:Tab:=r6 200 f0m (r6 300 d0k (r6 53 U1 (r6 129 aO s2t)))
theorem e0a:U6 zO8 J0 t1d:=i8 r0r (i8 q0y (i8 W5 (i8 fP (n0h _ _))))
def bW0:Base:=⟨zO8,J0,false,t1d,I4,200,L7⟩
theorem B3:BaseOk bW0:=⟨progOk,e0a,v6 _ _,r5⟩
abbrev XW0:Cx:=bW0.cx 10
abbrev W64:Nat:=18446744073709551616
theorem m7:0 < W64:=by decide
theorem F5:2<=W64:=by decide
abbrev slV (j n:Nat):Value:= .slice (some ⟨j,0,some (j+1)⟩) n 0
abbrev bP:TypeId:=27
theorem t8 {n:Nat} (h:n < 9223372036854775808):iI.wrap (n:Int)=(n:Int):=by
 have:=y3 (n:Int)
 omega
def yC:Code:=z8 zO8 269 0
def iD (p q:Nat) (xs ys L:List Int) (na nb N:Nat) (la c i:Int):St:=
 ⟨only 53 [(0,slV p na),(1,slV q nb),(5,slV 15 N),(6, .int .u64 c),(20,slV p na),(21, .int .i64 la),(22, .int .i64 i)],[(15, .row bP 1 (.ints .u64 L) 16),(p, .ints .u64 xs),(q, .ints .u64 ys)],17,[],[],0,none,[],15⟩
section
variable (xs ys L:List Int) (na nb N:Nat) (la c i:Int)
theorem e1j (p q:Nat) (hpq:(p=11∧q=13)∨(p=13∧q=11)) (h0:decide (i < la)=true) (h1:decide (i < zO6 nb)=true) (h2:((zO6 0<=i∧i < zO6 nb)∧0 < ys.length)∧i.toNat < ys.length)
  (h3:((zO6 0<=i∧i < zO6 na)∧0 < xs.length)∧i.toNat < xs.length) (h4:c.toNat<=1) (h5:((zO6 0<=i∧i < zO6 N)∧0 < L.length)∧i.toNat < L.length):
  u4 XW0 yC (iD p q xs ys L na nb N la c i) .normal (iD p q xs ys (S5 L i.toNat (zO6 (((xs.getD i.toNat 0).toNat+(ys.getD i.toNat 0).toNat+c.toNat)%18446744073709551616))) na nb N la
   (zO6 (((xs.getD i.toNat 0).toNat+(ys.getD i.toNat 0).toNat+c.toNat)/18446744073709551616)) (iI.wrap (i+1))):=by
 have hl:l5 [i.toNat < L.length,(zO6 0<=i∧i < zO6 N)∧0 < L.length,c.toNat<=1,i.toNat < xs.length,(zO6 0<=i∧i < zO6 na)∧0 < xs.length,i.toNat < ys.length,
   (zO6 0<=i∧i < zO6 nb)∧0 < ys.length,decide (i < zO6 nb)=true,decide (i < la)=true] :=⟨h5.2,h5.1,h4,h3.2,h3.1,h2.2,h2.1,h1,h0,a6⟩
 rcases hpq with ⟨rfl,rfl⟩ | ⟨rfl,rfl⟩
 ·exact stp B3 10 progOk.mixed [true,true] [] (by kernel_rfl) hl
 ·exact stp B3 10 progOk.mixed [true,true] [] (by kernel_rfl) hl
theorem r1f (p q:Nat) (hpq:(p=11∧q=13)∨(p=13∧q=11)) (h0:decide (i < la)=true) (h1:decide (i < zO6 nb)=false)
  (h3:((zO6 0<=i∧i < zO6 na)∧0 < xs.length)∧i.toNat < xs.length) (h4:c.toNat<=1) (h5:((zO6 0<=i∧i < zO6 N)∧0 < L.length)∧i.toNat < L.length):
  u4 XW0 yC (iD p q xs ys L na nb N la c i) .normal (iD p q xs ys (S5 L i.toNat (zO6 (((xs.getD i.toNat 0).toNat+Int.toNat 0+c.toNat)%18446744073709551616))) na nb N la
   (zO6 (((xs.getD i.toNat 0).toNat+Int.toNat 0+c.toNat)/18446744073709551616)) (iI.wrap (i+1))):=by
 have hl:l5 [i.toNat < L.length,(zO6 0<=i∧i < zO6 N)∧0 < L.length,c.toNat<=1,i.toNat < xs.length,(zO6 0<=i∧i < zO6 na)∧0 < xs.length,decide (i < zO6 nb)=false,decide (i < la)=true] :=⟨h5.2,h5.1,h4,h3.2,h3.1,h1,h0,a6⟩
 rcases hpq with ⟨rfl,rfl⟩ | ⟨rfl,rfl⟩
 ·exact stp B3 10 progOk.mixed [true,false] [] (by kernel_rfl) hl
 ·exact stp B3 10 progOk.mixed [true,false] [] (by kernel_rfl) hl
theorem t1n (p q:Nat) (hpq:(p=11∧q=13)∨(p=13∧q=11)) (h0:decide (i < la)=false):u4 XW0 yC (iD p q xs ys L na nb N la c i) (.exit 0) (iD p q xs ys L na nb N la c i):=by
 rcases hpq with ⟨rfl,rfl⟩ | ⟨rfl,rfl⟩
 ·exact stp B3 10 progOk.mixed [false] [] (l:=[decide (i < la)=false]) (by kernel_rfl) ⟨h0,a6⟩
 ·exact stp B3 10 progOk.mixed [false] [] (l:=[decide (i < la)=false]) (by kernel_rfl) ⟨h0,a6⟩
end
theorem g2c {A B V c i a b:Nat} {w:Nat} (h:V+c*w ^i=A%w ^i+B%w ^i) (ha:dig w A i=a) (hb:dig w B i=b):
  V+(a+b+c)%w*w ^i+(a+b+c)/w*w ^(i+1)=A%w ^(i+1)+B%w ^(i+1):=by
 rw [J8,J8,ha,hb]
 have e:(a+b+c)%w*w ^i+(a+b+c)/w*w ^(i+1)=(a+b+c)*w ^i:=by
  rw [y8,<- r7,O8,<- A7]
  congr 1
  have:=wE (a+b+c) w
  rw [t7] at this
  omega
 have e2:(a+b+c)*w ^i=a*w ^i+b*w ^i+c*w ^i:=by rw [A7,A7]
 omega
structure IPl where
 i:Nat
 c:Int
 L:List Int
def q1u (n A B:Nat) (p:IPl):Prop:=
 p.i<=n∧p.L.length=n+1∧Dg W64 p.L∧0<=p.c∧p.c<=1∧(∀ j,p.i<=j->p.L.getD j 0=0)∧val W64 p.L+p.c.toNat*W64 ^p.i=A%W64 ^p.i+B%W64 ^p.i
def xJ (xs ys:List Int) (p:IPl):IPl:=
 ⟨p.i+1,zO6 (((xs.getD p.i 0).toNat+(ys.getD p.i 0).toNat+p.c.toNat)/18446744073709551616),S5 p.L p.i (zO6 (((xs.getD p.i 0).toNat+(ys.getD p.i 0).toNat+p.c.toNat)%18446744073709551616))⟩
def Q6 (n:Nat):IPl:=⟨0,0,zO7 n 0⟩
theorem getD_set_ne {l:List Int} {i j:Nat} (h:i≠j) (x:Int):(l.set i x).getD j 0=l.getD j 0:=by
 rw [bD,bD,List.getElem?_set_ne h]
theorem Y2 (n j:Nat):(zO7 n (0:Int)).getD j 0=0:=by
 rw [bD,List.getElem?_replicate]
 split <;> rfl
theorem aV {l:List Int} {i:Nat} (h:l.length<=i):l.getD i 0=0:=by
 rw [bD,e0l h]
 rfl
theorem h2j (n:Nat):0<=zO6 (n%18446744073709551616)∧zO6 (n%18446744073709551616) < ((W64:Nat):Int):=by
 have:=F7 n m7
 simp only [B4]
 exact⟨by omega,by exact_mod_cast this⟩
theorem p0k {a b c:Nat} (ha:a < W64) (hb:b < W64) (hc:c<=1):(a+b+c)/18446744073709551616<=1:=by
 have:a < 18446744073709551616:=ha
 have:b < 18446744073709551616:=hb
 omega
theorem w0z {n:Nat} {xs ys:List Int} (hx:Dg W64 xs) (hy:Dg W64 ys) {p:IPl} (h:q1u n (val W64 xs) (val W64 ys) p) (hi:p.i < n):q1u n (val W64 xs) (val W64 ys) (xJ xs ys p):=by
 obtain⟨h1,h2,h3,h4,h5,h6,h7⟩:=h
 have gx:=B1 m7 hx p.i
 have gy:=B1 m7 hy p.i
 have ex:(xs.getD p.i 0).toNat=dig W64 (val W64 xs) p.i:=by rw [gx,g9]
 have ey:(ys.getD p.i 0).toNat=dig W64 (val W64 ys) p.i:=by rw [gy,g9]
 have la:=D6 m7 (val W64 xs) p.i
 have lb:=D6 m7 (val W64 ys) p.i
 unfold xJ
 rw [A0,ex,ey]
 have hs:=p0k la lb (show p.c.toNat<=1 by omega)
 refine⟨hi,by simp [h2],h3.set (h2j _) _,w7 _,?_,fun j hj=> ?_,?_⟩
 ·simp only [B4]
  omega
 ·simp only at hj
  rw [getD_set_ne (by omega)]
  exact h6 j (by omega)
 ·have hv:=cX (b:=W64) (zO6 ((dig W64 (val W64 xs) p.i+dig W64 (val W64 ys) p.i+p.c.toNat)%18446744073709551616)) (show p.i < p.L.length by omega)
  rw [h6 p.i (d9 _)] at hv
  simp only [h0f,K8,I1,B4,g9] at hv
  simp only [B4,g9]
  rw [hv]
  exact g2c h7 rfl rfl
theorem kA {xs ys:List Int} (hx:Dg W64 xs) (hy:Dg W64 ys) (n:Nat):∀ k,k<=n->q1u n (val W64 xs) (val W64 ys) (itr (xJ xs ys) k (Q6 (n+1)))∧(itr (xJ xs ys) k (Q6 (n+1))).i=k
 | 0,_=>⟨⟨s6 _,by simp [itr,Q6],H8 _ m7 _,T8 _,by simp [itr,Q6],fun j _=>Y2 _ _,by simp [itr,Q6,O4,Nat.mod_one]⟩,rfl⟩
 | k+1,hk=>by
  obtain⟨h1,h2⟩:=kA hx hy n k (by omega)
  exact⟨w0z hx hy h1 (by omega),by show (itr (xJ xs ys) k _).i+1=k+1; rw [h2]⟩
theorem c0a {xs ys:List Int} (hx:Dg W64 xs) (hy:Dg W64 ys) {n:Nat} (h1:xs.length<=n) (h2:ys.length<=n) {p:IPl} (h:q1u n (val W64 xs) (val W64 ys) p) (hi:p.i=n):p.L.set n p.c=dl W64 (n+1) (val W64 xs+val W64 ys):=by
 obtain⟨f1,f2,f3,f4,f5,f6,f7⟩:=h
 rw [hi] at f6 f7
 have hv:=cX (b:=W64) p.c (show n < p.L.length by omega)
 rw [f6 n (d9 _)] at hv
 simp only [h0f,K8,I1] at hv
 have l1:=C8 (E8 m7 hx) (y5 m7 h1)
 have l2:=C8 (E8 m7 hy) (y5 m7 h2)
 rw [G7 l1,G7 l2] at f7
 exact s1i m7 (f3.set ⟨f4,Int.lt_of_le_of_lt f5 (by decide)⟩ _) (by simp [f2]) (by omega)
theorem k0t (p q:Nat) (hpq:(p=11∧q=13)∨(p=13∧q=11)) {xs ys:List Int} (hx:Dg W64 xs) (hy:Dg W64 ys) (hb:xs.length < 1099511627776):
  b9 XW0 yC (iD p q xs ys (zO7 (xs.length+1) 0) xs.length ys.length (xs.length+1) xs.length 0 0) (.exit 0)
   (iD p q xs ys (itr (xJ xs ys) xs.length (Q6 (xs.length+1))).L xs.length ys.length (xs.length+1) xs.length (itr (xJ xs ys) xs.length (Q6 (xs.length+1))).c xs.length):=by
 refine x5 (fun k=>iD p q xs ys (itr (xJ xs ys) k (Q6 (xs.length+1))).L xs.length ys.length (xs.length+1) xs.length (itr (xJ xs ys) k (Q6 (xs.length+1))).c k) xs.length (by intro e; cases e) (fun k hk=> ?_)
  (t1n xs ys _ xs.length ys.length (xs.length+1) xs.length _ xs.length p q hpq (by simp))
 obtain⟨hg,hi⟩:=kA hx hy xs.length k (by omega)
 simp only [itr]
 generalize itr (xJ xs ys) k (Q6 (xs.length+1))=s at*
 obtain⟨h1,h2,h3,h4,h5,h6,h7⟩:=hg
 have hw:iI.wrap ((k:Int)+1)=((k+1:Nat):Int):=by
  have:=t8 (n:=k+1) (by omega)
  simpa using this
 subst hi
 by_cases hlt2:s.i < ys.length
 ·have:=e1j xs ys s.L xs.length ys.length (xs.length+1) xs.length s.c s.i p q hpq (by simpa using hk) (by simpa using hlt2) ⟨⟨⟨by simp,by simpa using hlt2⟩,by omega⟩,by simpa using hlt2⟩ ⟨⟨⟨by simp,by simpa using hk⟩,by omega⟩,by simpa using hk⟩ (by omega) ⟨⟨⟨by simp,by simp only [B4]; omega⟩,by omega⟩,by simp only [g9]; omega⟩
  rw [hw] at this
  exact this
 ·have:=r1f xs ys s.L xs.length ys.length (xs.length+1) xs.length s.c s.i p q hpq (by simpa using hk) (by simpa using hlt2) ⟨⟨⟨by simp,by simpa using hk⟩,by omega⟩,by simpa using hk⟩ (by omega) ⟨⟨⟨by simp,by simp only [B4]; omega⟩,by omega⟩,by simp only [g9]; omega⟩
  rw [hw] at this
  unfold xJ
  rw [aV (l:=ys) (i:=s.i) (by omega)]
  exact this
abbrev wS (xs:List Int):Arg:= .c (.s bP .u64 xs)
section
variable (xs ys L R:List Int) (na nb N:Nat) (la c i:Int)
theorem n1q:B2 XW0 [H7 (.exit 0) (fun _=>iD 11 13 xs ys L na nb N la c i)] 200 269 [wS xs,wS ys] [wS R] [false] =some [na < L.length,((0:Int)<=(na:Int)∧(na:Int) < (N:Int))∧0 < L.length,
  b9 XW0 yC (m8 XW0 200 269 [wS xs,wS ys] [false]) (.exit 0) (iD 11 13 xs ys L na nb N la c i),
  0<=iI.wrap ((xs.length:Int)+1)∧iI.wrap ((xs.length:Int)+1)=iI.wrap ((xs.length:Int)+1)∧8*iI.wrap ((xs.length:Int)+1)<=281474976710656∧iI.wrap ((xs.length:Int)+1)<=9223372036854775807,
  decide ((xs.length:Int) < ys.length)=false,N=R.length∧N<=(S5 L na c).length∧(S5 L na c).take N=R] :=by kernel_rfl
theorem m1v:B2 XW0 [H7 (.exit 0) (fun _=>iD 13 11 ys xs L na nb N la c i)] 200 269 [wS xs,wS ys] [wS R] [true] =some [na < L.length,((0:Int)<=(na:Int)∧(na:Int) < (N:Int))∧0 < L.length,
  b9 XW0 yC (m8 XW0 200 269 [wS xs,wS ys] [true]) (.exit 0) (iD 13 11 ys xs L na nb N la c i),
  0<=iI.wrap ((ys.length:Int)+1)∧iI.wrap ((ys.length:Int)+1)=iI.wrap ((ys.length:Int)+1)∧8*iI.wrap ((ys.length:Int)+1)<=281474976710656∧iI.wrap ((ys.length:Int)+1)<=9223372036854775807,
  decide ((xs.length:Int) < ys.length)=true,N=R.length∧N<=(S5 L na c).length∧(S5 L na c).take N=R] :=by kernel_rfl
theorem y0r (x:AX) (s':St) (hw:iI.wrap ((xs.length:Int)+1)=((xs.length+1:Nat):Int)) (h:b9 XW0 yC (iD 11 13 xs ys (zO7 (xs.length+1) 0) xs.length ys.length (xs.length+1) xs.length 0 0) x s'):
  b9 XW0 yC (m8 XW0 200 269 [wS xs,wS ys] [false]) x s':=by
 have hw2:(iI.wrap ((xs.length:Int)+1)).toNat=xs.length+1:=by rw [hw]; rfl
 rw [<- hw2] at h
 exact l9 h []
theorem x0v (x:AX) (s':St) (hw:iI.wrap ((ys.length:Int)+1)=((ys.length+1:Nat):Int)) (h:b9 XW0 yC (iD 13 11 ys xs (zO7 (ys.length+1) 0) ys.length xs.length (ys.length+1) ys.length 0 0) x s'):
  b9 XW0 yC (m8 XW0 200 269 [wS xs,wS ys] [true]) x s':=by
 have hw2:(iI.wrap ((ys.length:Int)+1)).toNat=ys.length+1:=by rw [hw]; rfl
 rw [<- hw2] at h
 exact l9 h []
end
theorem L6 {n:Nat} (h:n < 1099511627776):iI.wrap ((n:Int)+1)=((n+1:Nat):Int):=by
 have:=t8 (n:=n+1) (by omega)
 simpa using this
theorem v1n {xs ys:List Int} (hx:Dg W64 xs) (hy:Dg W64 ys) (h1:xs.length < 1099511627776) (h2:ys.length < 1099511627776):
  Ev.Sem zO8 J0 269 [wS xs,wS ys] [wS (dl W64 (max xs.length ys.length+1) (val W64 xs+val W64 ys))] :=by
 by_cases hlt:xs.length < ys.length
 ·have hL:=k0t 13 11 (.inr ⟨rfl,rfl⟩) hy hx h2
  have hw:=L6 h2
  obtain⟨hg,hi⟩:=kA hy hx ys.length ys.length (d9 _)
  have hlast:=c0a hy hx (d9 _) (by omega) hg hi
  rw [Nat.max_eq_right (by omega),g0x (val W64 xs)]
  refine l7 B3 10 _ _ (m1v xs ys _ _ ys.length xs.length (ys.length+1) ys.length _ ys.length) ⟨?_,⟨⟨by omega,by omega⟩,?_⟩,x0v xs ys _ _ hw hL,⟨?_,rfl,?_,?_⟩,by simpa using hlt,⟨?_,?_,?_⟩,a6⟩
  ·have:=hg.2.1; omega
  ·have:=hg.2.1; omega
  ·rw [hw]; omega
  ·rw [hw]; omega
  ·rw [hw]; omega
  ·rw [l4]
  ·rw [A0,hlast,l4]; exact d9 _
  ·rw [A0,hlast]; exact O9 (by rw [l4]; exact d9 _)
 ·have hL:=k0t 11 13 (.inl ⟨rfl,rfl⟩) hx hy h1
  have hw:=L6 h1
  obtain⟨hg,hi⟩:=kA hx hy xs.length xs.length (d9 _)
  have hlast:=c0a hx hy (d9 _) (by omega) hg hi
  rw [Nat.max_eq_left (by omega)]
  refine l7 B3 10 _ _ (n1q xs ys _ _ xs.length ys.length (xs.length+1) xs.length _ xs.length) ⟨?_,⟨⟨by omega,by omega⟩,?_⟩,y0r xs ys _ _ hw hL,⟨?_,rfl,?_,?_⟩,by simp; omega,⟨?_,?_,?_⟩,a6⟩
  ·have:=hg.2.1; omega
  ·have:=hg.2.1; omega
  ·rw [hw]; omega
  ·rw [hw]; omega
  ·rw [hw]; omega
  ·rw [l4]
  ·rw [A0,hlast,l4]; exact d9 _
  ·rw [A0,hlast]; exact O9 (by rw [l4]; exact d9 _)
abbrev rS:TypeId:=155
def l0p:Code:=z8 zO8 195 0
abbrev slO (off n c:Nat):Value:= .slice (some ⟨11,off,none⟩) n c
def iJ (xs:List Int) (neg:Bool) (off m c:Nat):St:=
 ⟨only 30 [(0, .bool neg),(1,slO off m c),(4, .pointer (some ⟨12,0,none⟩))],[(12, .cells [.bool false, .slice none 0 0] rS),(11, .ints .u64 xs)],13,[],[],0,none,[],12⟩
def oH (xs:List Int) (off m:Nat):Bool:=match decide ((m:Int) > 0) with
 | true=>xs.getD (s4 off (R3 (iI.wrap ((m:Int)-1)).toNat 1)) 0==0
 | false=>false
section
variable (xs:List Int) (neg:Bool) (off m c:Nat)
theorem l1j (h0:oH xs off m=true) (h1:decide ((m:Int) > 0)=true->s4 off (R3 (iI.wrap ((m:Int)-1)).toNat 1) < xs.length) (h2:decide ((m:Int) > 0)=true->(0<=iI.wrap ((m:Int)-1)∧iI.wrap ((m:Int)-1) < m)∧m<=xs.length)
  (h3:(0:Int)<=0∧0<=iI.wrap ((m:Int)-1)∧iI.wrap ((m:Int)-1)<=c):
  u4 XW0 l0p (iJ xs neg off m c) .normal (iJ xs neg off (iI.wrap ((m:Int)-1)).toNat c):=
 stp B3 10 progOk.mixed [true] [] (l:=[(0:Int)<=0∧0<=iI.wrap ((m:Int)-1)∧iI.wrap ((m:Int)-1)<=c,oH xs off m=true,
  decide ((m:Int) > 0)=true->s4 off (R3 (iI.wrap ((m:Int)-1)).toNat 1) < xs.length,decide ((m:Int) > 0)=true->(0<=iI.wrap ((m:Int)-1)∧iI.wrap ((m:Int)-1) < m)∧m<=xs.length]) (by kernel_rfl) ⟨h3,h0,h1,h2,a6⟩ (by kernel_rfl) (by kernel_rfl)
theorem f0y (h0:oH xs off m=false) (h1:decide ((m:Int) > 0)=true->s4 off (R3 (iI.wrap ((m:Int)-1)).toNat 1) < xs.length) (h2:decide ((m:Int) > 0)=true->(0<=iI.wrap ((m:Int)-1)∧iI.wrap ((m:Int)-1) < m)∧m<=xs.length):
  u4 XW0 l0p (iJ xs neg off m c) (.exit 0) (iJ xs neg off m c):=
 stp B3 10 progOk.mixed [false] [] (l:=[oH xs off m=false,
  decide ((m:Int) > 0)=true->s4 off (R3 (iI.wrap ((m:Int)-1)).toNat 1) < xs.length,decide ((m:Int) > 0)=true->(0<=iI.wrap ((m:Int)-1)∧iI.wrap ((m:Int)-1) < m)∧m<=xs.length]) (by kernel_rfl) ⟨h0,h1,h2,a6⟩ (by kernel_rfl) (by kernel_rfl)
def q2f (n:Nat):St:=x9 XW0 200 195 [.bool neg,slO off n c] [(11, .ints .u64 xs)] 12 []
theorem p0r (n:Nat):m0k XW0 [H7 (.exit 0) (fun _=>iJ xs neg off m c)] 200 195 [.bool neg,slO off n c] [(11, .ints .u64 xs)] 12 [] =
  some ⟨.agg ⟨[.bool (match neg with | true=>decide ((m:Int) > 0) | false=>false),slO off m c]⟩,[(11, .ints .u64 xs)],14,[b9 XW0 l0p (q2f xs neg off c n) (.exit 0) (iJ xs neg off m c)],[]⟩:=by kernel_rfl
theorem j0s (n:Nat) (x:AX) (s':St) (h:b9 XW0 l0p (iJ xs neg off n c) x s'):b9 XW0 l0p (q2f xs neg off c n) x s':=
 l9 h []
end
theorem kG {l:List Int} {m:Nat} (h:m < l.length):l.take (m+1)=l.take m++[l.getD m 0] :=by
 rw [List.take_add_one,z0u h]
 simp [List.getD,h]
theorem i1p (xs:List Int) (neg:Bool) (off c n:Nat) (hn:off+n<=xs.length) (hc:n<=c) (hb:xs.length < 1099511627776):b9 XW0 l0p (iJ xs neg off n c) (.exit 0) (iJ xs neg off (n8 ((xs.drop off).take n)).length c):=by
 refine C0 (fun m=>iJ xs neg off m c) id (fun m=>m<=n∧n8 ((xs.drop off).take m)=n8 ((xs.drop off).take n)) (by intro e; cases e) (fun m hm=> ?_) n ⟨d9 _,rfl⟩
 obtain⟨hle,he⟩:=hm
 rw [<- he]
 cases m with
 | zero=>
  right
  have:=f0y xs neg off 0 c rfl (fun e=>by simp at e) (fun e=>by simp at e)
  simpa [n8] using this
 | succ m=>
  have hw:iI.wrap (((m+1:Nat):Int)-1)=(m:Int):=by
   have:=t8 (n:=m) (by omega)
   rw [<- this]
   congr 1
   omega
  have hpos:decide (((m+1:Nat):Int) > 0)=true:=by simp
  have ha:s4 off (R3 (iI.wrap (((m+1:Nat):Int)-1)).toNat 1)=off+m:=by rw [hw]; simp
  have h1:decide (((m+1:Nat):Int) > 0)=true->s4 off (R3 (iI.wrap (((m+1:Nat):Int)-1)).toNat 1) < xs.length:=fun _=>by rw [ha]; omega
  have h2:decide (((m+1:Nat):Int) > 0)=true->(0<=iI.wrap (((m+1:Nat):Int)-1)∧iI.wrap (((m+1:Nat):Int)-1) < ((m+1:Nat):Int))∧m+1<=xs.length:=fun _=>by rw [hw]; omega
  have hlz:oH xs off (m+1)=(xs.getD (off+m) 0==0):=by unfold oH; rw [hpos,ha]
  have hg:(xs.drop off).getD m 0=xs.getD (off+m) 0:=by simp [List.getD,List.getElem?_drop]
  have ht:=kG (l:=xs.drop off) (m:=m) (by rw [C2]; omega)
  rw [hg] at ht
  by_cases hz:xs.getD (off+m) 0=0
  ·left
   have hs:=l1j xs neg off (m+1) c (by rw [hlz,hz]; rfl) h1 h2 (by rw [hw]; omega)
   rw [hw] at hs
   refine⟨m,⟨by omega,?_⟩,Q7 _,hs⟩
   rw [ht,hz,K5,f9 rfl]
  ·right
   have hs:=f0y xs neg off (m+1) c (by rw [hlz]; simpa using hz) h1 h2
   rw [ht,K5,a7 hz,<- ht,E0,C2,C6 (by omega)]
   exact hs
theorem bF:Enters zO8 195:=F2 (u6 B3 10).2 (p0r [] false 0 0 0 0)
theorem eO (neg:Bool) (b:Option Nat) (off n c:Nat) (xs:List Int) (w:World) (hI:J0.I w) (hn:off+n<=xs.length) (hc:n<=c) (hb:xs.length < 1099511627776)
  (h:(b=none∧xs=[])∨∃ g cs t fr,b=some g∧w.heap[g]? =some (.cells cs t fr)∧∀ i,i < xs.length->cs[i]? =some (.int .u64 (xs.getD i 0))):
  Calls zO8 195 ⟨[.bool neg, .slice (b.map fun g=>⟨g,off,none⟩) n c]⟩ w fun e w'=>
   e= .returned (.agg ⟨[.bool (match neg with | true=>decide (((n8 ((xs.drop off).take n)).length:Int) > 0) | false=>false), .slice (b.map fun g=>⟨g,off,none⟩) (n8 ((xs.drop off).take n)).length c]⟩)∧Below w.heap.size w w':=by
 have hp:Par zO8 w.heap.size (fun _=>False):=⟨hI.1,fun _ _ h=>h⟩
 have hG:zO8.globals.size=11:=by kernel_rfl
 obtain⟨hX,_⟩:=u6 B3 10
 have hS:∀ E':Num,Agree 12 (fun i=>if i=11 then b else some i) E'->Sim zO8 w.heap.size (fun _=>False) E' [(11, .ints .u64 xs)] w∧([.bool neg, .slice (b.map fun g=>⟨g,off,none⟩) n c] :List Value)=rvL E' [.bool neg,slO off n c] :=by
  intro E' ha
  have h11:E' 11=b:=by rw [ha 11 (by omega)]; simp
  refine⟨⟨fun g hg=>by rw [ha g (by omega)]; simp; omega,fun i o hi=> ?_,fun i j o o' hi hr=> ?_⟩,?_⟩
  ·rw [b6] at hi
   split at hi
   ·rename_i e
    subst e
    cases hi
    rw [h11]
    exact h
   ·simp [Heap.get] at hi
  ·rw [b6] at hi
   split at hi
   ·cases hi; cases hr
   ·simp [Heap.get] at hi
  ·simp only [rvL,rv,rSl,w8,h11]
 refine (K3 hX progOk.mixed (p0r xs neg off _ c n) ⟨j0s xs neg off c n _ _ (i1p xs neg off c n hn hc hb),a6⟩ hp (d9 _) hI hS).2.mono fun e w' ⟨ρ1,v,ha,he,hk,hfin⟩=>⟨?_,hk.below⟩
 obtain⟨hv,_⟩:=hfin ρ1 (Agree.refl _ _)
 have h11:ρ1 11=b:=by rw [ha 11 (by omega)]; simp
 rw [he,hv]
 simp only [rv,rvA,rvL,rSl,w8,h11]
def jG (args:List Value) (H:Heap) (n:Nat) (ds:List Bool):Option CR:=
 match args with
 | [.bool neg, .slice (some ⟨id,off,some kk⟩) m c] =>match H.get id with
  | some (.row _ sz (.ints .u64 xs) kk')=>match zO0 kk kk' && zO0 sz 1 with
   | true=>some ⟨.agg ⟨[.bool (neg && decide (0 < (n8 ((xs.drop off).take m)).length)), .slice (some ⟨id,off,some kk⟩) (n8 ((xs.drop off).take m)).length c]⟩,H,n,[off=c∧off+m<=xs.length∧xs.length < 1099511627776],ds⟩
   | false=>none
  | some (.ints .u64 xs)=>match off,c with
   | 0,0=>some ⟨.agg ⟨[.bool (neg && decide (0 < xs.length)), .slice (some ⟨id,0,some kk⟩) m 0]⟩,H,n,[m=xs.length∧xs.length < 1099511627776∧n8 xs=xs],ds⟩
   | _,_=>none
  | _=>none
 | [.bool neg, .slice (some ⟨id,0,none⟩) m c] =>match H.get id with
  | some (.cells cs _)=>match gB .u64 cs with
   | some xs=>some ⟨.agg ⟨[.bool (neg && decide (0 < (n8 (xs.take m)).length)), .slice (some ⟨id,0,none⟩) (n8 (xs.take m)).length c]⟩,H,n,[m<=xs.length∧m<=c∧xs.length < 1099511627776],ds⟩
   | none=>none
  | _=>none
 | [.bool _, .slice none 0 0] =>some ⟨.agg ⟨[.bool false, .slice none 0 0]⟩,H,n,[],ds⟩
 | _=>none
theorem g0q (neg:Bool) (k:Nat):(match neg with | true=>decide ((k:Int) > 0) | false=>false)=(neg && decide (0 < k)):=by
 cases neg
 ·rfl
 ·simp only [cF]
  congr 1
  simp
theorem B6 (l:List Int):(n8 l).length<=l.length:=by
 unfold n8
 rw [a0m]
 have:=(List.dropWhile_sublist (l:=l.reverse) (fun x=>x==0)).length_le
 simpa using this
theorem x0p {xs:List Int} (h:n8 xs=xs) (hp:0 < xs.length):xs.getD (xs.length-1) 0≠0:=by
 intro hz
 have ht:=kG (l:=xs) (m:=xs.length-1) (by omega)
 rw [b0g hp,r8,hz] at ht
 rw [ht,K5,f9 rfl] at h
 have h1:=B6 (xs.take (xs.length-1))
 rw [h] at h1
 simp at h1
 omega
theorem rD (neg:Bool) (b:Option Nat) (c:Nat) (xs:List Int) (w:World) (hI:J0.I w) (hb:xs.length < 1099511627776) (ht:n8 xs=xs)
  (h:(b=none∧xs=[])∨∃ g cs t fr,b=some g∧w.heap[g]? =some (.cells cs t fr)∧∀ i,i < xs.length->cs[i]? =some (.int .u64 (xs.getD i 0))):
  Calls zO8 195 ⟨[.bool neg, .slice (b.map fun g=>⟨g,0,none⟩) xs.length c]⟩ w fun e w'=>
   e= .returned (.agg ⟨[.bool (match neg with | true=>decide ((xs.length:Int) > 0) | false=>false), .slice (b.map fun g=>⟨g,0,none⟩) xs.length c]⟩)∧Below w.heap.size w w':=by
 have hp:Par zO8 w.heap.size (fun _=>False):=⟨hI.1,fun _ _ h=>h⟩
 have hG:zO8.globals.size=11:=by kernel_rfl
 obtain⟨hX,_⟩:=u6 B3 10
 have hS:∀ E':Num,Agree 12 (fun i=>if i=11 then b else some i) E'->Sim zO8 w.heap.size (fun _=>False) E' [(11, .ints .u64 xs)] w∧([.bool neg, .slice (b.map fun g=>⟨g,0,none⟩) xs.length c] :List Value)=rvL E' [.bool neg,slO 0 xs.length c] :=by
  intro E' ha
  have h11:E' 11=b:=by rw [ha 11 (by omega)]; simp
  refine⟨⟨fun g hg=>by rw [ha g (by omega)]; simp; omega,fun i o hi=> ?_,fun i j o o' hi hr=> ?_⟩,?_⟩
  ·rw [b6] at hi
   split at hi
   ·rename_i e
    subst e
    cases hi
    rw [h11]
    exact h
   ·simp [Heap.get] at hi
  ·rw [b6] at hi
   split at hi
   ·cases hi; cases hr
   ·simp [Heap.get] at hi
  ·simp only [rvL,rv,rSl,w8,h11]
 have hout:u4 XW0 l0p (iJ xs neg 0 xs.length c) (.exit 0) (iJ xs neg 0 xs.length c):=by
  have hw:0 < xs.length->iI.wrap ((xs.length:Int)-1)=((xs.length-1:Nat):Int):=fun h0=>by
   have:=t8 (n:=xs.length-1) (by omega)
   rw [<- this]
   congr 1
   omega
  refine f0y xs neg 0 xs.length c ?_ (fun e=> ?_) (fun e=> ?_)
  ·unfold oH
   split
   ·rename_i e
    have h0:0 < xs.length:=by simpa using e
    rw [hw h0]
    have:=x0p ht h0
    simpa [s4] using this
   ·rfl
  ·have h0:0 < xs.length:=by simpa using e
   rw [hw h0]
   simp
   omega
  ·have h0:0 < xs.length:=by simpa using e
   rw [hw h0]
   omega
 have hL:b9 XW0 l0p (iJ xs neg 0 xs.length c) (.exit 0) (iJ xs neg 0 xs.length c):=x5 (fun _=>iJ xs neg 0 xs.length c) 0 (by intro e; cases e) (fun k hk=>by omega) hout
 refine (K3 hX progOk.mixed (p0r xs neg 0 xs.length c xs.length) ⟨j0s xs neg 0 c xs.length _ _ hL,a6⟩ hp (d9 _) hI hS).2.mono fun e w' ⟨ρ1,v,ha,he,hk,hfin⟩=>⟨?_,hk.below⟩
 obtain⟨hv,_⟩:=hfin ρ1 (Agree.refl _ _)
 have h11:ρ1 11=b:=by rw [ha 11 (by omega)]; simp
 rw [he,hv]
 simp only [rv,rvA,rvL,rSl,w8,h11]
theorem gR:V8 zO8 J0 195 jG:=by
 intro args H n ds r h hl
 have fin:∀ {B:Nat} {M:Nat->Prop} {E:Num} {w:World} {vs:List Value} {neg:Bool} {u:Value} {v:Value},B<=w.heap.size->(∀ E',Agree n E E'->Sim zO8 B M E' H w∧vs=rvL E' [.bool neg,u])->
   (Calls zO8 195 ⟨vs⟩ w fun e w'=>(∃ x,e= .returned x∧∀ E',Agree n E E'->x=rv E' v)∧Below w.heap.size w w')->
   Calls zO8 195 ⟨vs⟩ w fun e w'=>∃ ρ1 x,Agree n E ρ1∧e= .returned x∧Keeps B M w w'∧∀ E',Agree n ρ1 E'->x=rv E' v∧Sim zO8 B M E' H w':=by
  intro B M E w vs neg u v hB hS hc
  exact hc.mono fun e w' ⟨⟨x,he,hx⟩,hb⟩=>⟨E,x,Agree.refl _ _,he,u3 hb hB,fun E' ha=>⟨hx E' ha,(hS E' ha).1.below hb⟩⟩
 unfold jG at h
 split at h
 ·rename_i neg id off kk m c
  split at h
  ·rename_i e sz xs kk' hget
   split at h
   case h_2=>cases h
   rename_i hc
   simp only [A9,B7] at hc
   obtain⟨rfl,rfl⟩:=hc
   cases h
   obtain⟨rfl,h2,h3⟩:=hl.1
   refine⟨d9 _,bF,fun B M E w vs hp hB hI hS=>fin hB hS ?_⟩
   have hvs:=(hS E (Agree.refl _ _)).2
   rcases (hS E (Agree.refl _ _)).1.obj id _ hget with ⟨g1,g2⟩ | ⟨b,cap,cur,g1,g2,⟨fr,g3,_⟩,g4,g5,g6,g7,g8⟩
   ·have hx:xs=[] :=by simpa [Row.list] using g2
    subst hx
    have h0:off=0:=by simp at h2; omega
    have hm:m=0:=by simp at h2; omega
    subst h0 hm
    have:=eO neg none 0 0 0 [] w hI (by simp) (d9 _) (by simp) (.inl ⟨rfl,rfl⟩)
    have e1:vs=[.bool neg, .slice none 0 0] :=by rw [hvs]; simp [rvL,rv,rSl,g1]
    rw [e1]
    refine this.mono fun e w' ⟨he,hb⟩=>⟨⟨_,he,fun E' ha=> ?_⟩,hb⟩
    have e2:=(hS E' ha).2
    rw [e1] at e2
    simp only [rvL,rv,Z7,P3] at e2
    simp only [rv,rvA,rvL,g0q]
    have:rSl E' ⟨id,0,some kk⟩ (n8 (([] :List Int).drop 0 |>.take 0)).length 0=rSl E' ⟨id,0,some kk⟩ 0 0:=rfl
    rw [this,<- e2.2]
    rfl
   ·simp only [Row.list,D1,u9] at g6 g7 g8
    rw [Q3] at g8
    have hxs:∀ i,i < xs.length->cur[i]? =some (.int .u64 (xs.getD i 0)):=fun i hi=>by
     have:=U3 (xs:=xs) (n:=xs.length) hi .u64 hi
     rw [r8,<- g8,T6,f9 hi] at this
     simpa using this
    have:=eO neg (some b) off m (cap-off) xs w hI h2 (by omega) h3 (.inr ⟨b,cur,e,fr,rfl,g3,hxs⟩)
    have e1:vs=[.bool neg, .slice (some ⟨b,off,none⟩) m (cap-off)] :=by rw [hvs]; simp [rvL,rv,rSl,g1,g2]
    rw [e1]
    refine this.mono fun e w' ⟨he,hb⟩=>⟨⟨_,he,fun E' ha=> ?_⟩,hb⟩
    rcases (hS E' ha).1.obj id _ hget with ⟨q1,q2⟩ | ⟨b',cap',cur',q1,q2,⟨fr',q3,_⟩,_⟩
    ·have hx:xs=[] :=by simpa [Row.list] using q2
     have e2:=(hS E' ha).2
     rw [e1] at e2
     simp [rvL,rv,rSl,q1] at e2
    ·have e2:=(hS E' ha).2
     rw [e1] at e2
     simp [rvL,rv,rSl,q1,q2] at e2
     simp only [rv,rvA,rvL,rSl,q1,q2,g0q,aF,E6,<- e2.1,<- e2.2]
  ·rename_i xs hget
   split at h
   case h_2=>cases h
   cases h
   obtain⟨rfl,h2,h3⟩:=hl.1
   refine⟨d9 _,bF,fun B M E w vs hp hB hI hS=>fin hB hS ?_⟩
   have hvs:=(hS E (Agree.refl _ _)).2
   have hobj:(E id=none∧xs=[])∨∃ g cs t fr,E id=some g∧w.heap[g]? =some (.cells cs t fr)∧∀ i,i < xs.length->cs[i]? =some (.int .u64 (xs.getD i 0)):=(hS E (Agree.refl _ _)).1.obj id _ hget
   have e1:∃ cap,vs=[.bool neg, .slice ((E id).map fun g=>⟨g,0,none⟩) xs.length cap] :=by
    cases hq:E id with
    | none=>exact⟨0,by rw [hvs]; simp [rvL,rv,rSl,hq]⟩
    | some g=>exact⟨_,by rw [hvs]; simp [rvL,rv,rSl,hq]; rfl⟩
   obtain⟨cap,e1⟩:=e1
   have:=rD neg (E id) cap xs w hI h2 h3 hobj
   rw [<- e1] at this
   refine this.mono fun e w' ⟨he,hb⟩=>⟨⟨_,he,fun E' ha=> ?_⟩,hb⟩
   have e2:=(hS E' ha).2
   rw [e1] at e2
   simp only [rvL,rv,Z7,P3] at e2
   simp only [rv,rvA,rvL,g0q,<- e2.2]
  ·cases h
 ·rename_i neg id m c
  split at h
  case h_2=>cases h
  rename_i cs e hget
  split at h
  case h_2=>cases h
  rename_i xs ht
  cases h
  obtain⟨h1,h2,h3⟩:=hl.1
  have hcs:=J6 ht
  subst hcs
  refine⟨d9 _,bF,fun B M E w vs hp hB hI hS=>fin hB hS ?_⟩
  have hvs:=(hS E (Agree.refl _ _)).2
  obtain⟨b,g1,g2,_⟩:=(hS E (Agree.refl _ _)).1.obj id _ hget
  rw [Q3] at g2
  have hxs:∀ i,i < xs.length->(xs.map (zO2 .u64)).toArray[i]? =some (.int .u64 (xs.getD i 0)):=fun i hi=>by
   have:=U3 (xs:=xs) (n:=xs.length) hi .u64 hi
   rw [r8] at this
   simpa using this
  have:=eO neg (some b) 0 m c xs w hI (by omega) h2 h3 (.inr ⟨b,_,e,(0,0),rfl,g2,hxs⟩)
  have e1:vs=[.bool neg, .slice (some ⟨b,0,none⟩) m c] :=by rw [hvs]; simp [rvL,rv,rSl,w8,g1]
  rw [e1]
  refine this.mono fun e w' ⟨he,hb⟩=>⟨⟨_,he,fun E' ha=> ?_⟩,hb⟩
  obtain⟨b',q1,q2,_⟩:=(hS E' ha).1.obj id _ hget
  have e2:=(hS E' ha).2
  rw [e1] at e2
  simp [rvL,rv,rSl,w8,q1] at e2
  simp only [rv,rvA,rvL,rSl,w8,q1,g0q,E6,<- e2,U8]
 ·rename_i neg
  cases h
  refine⟨d9 _,bF,fun B M E w vs hp hB hI hS=>fin hB hS ?_⟩
  have hvs:=(hS E (Agree.refl _ _)).2
  have:=eO neg none 0 0 0 [] w hI (by simp) (d9 _) (by simp) (.inl ⟨rfl,rfl⟩)
  have e1:vs=[.bool neg, .slice none 0 0] :=by rw [hvs]; simp [rvL,rv]
  rw [e1]
  refine this.mono fun e w' ⟨he,hb⟩=>⟨⟨_,he,fun E' ha=> ?_⟩,hb⟩
  simp only [rv,rvA,rvL]
  cases neg <;> rfl
 ·cases h
def bRn0:Base:=⟨zO8,J0,false,rH,I4,200,L7⟩
theorem e0w:BaseOk bRn0:=⟨progOk,M6,v6 _ _,r5⟩
abbrev w1u:=bRn0.cx 10
def i2h:Code:=z8 zO8 225 0
def TTr (xs:List Int) (off m c:Nat):St:=⟨only 21 [(0,slO off m c),(2, .slice none 0 0)],[(11, .ints .u32 xs)],12,[],[],0,none,[],12⟩
section
variable (xs:List Int) (off m c:Nat)
theorem t1i (h0:oH xs off m=true) (h1:decide ((m:Int) > 0)=true->s4 off (R3 (iI.wrap ((m:Int)-1)).toNat 1) < xs.length) (h2:decide ((m:Int) > 0)=true->(0<=iI.wrap ((m:Int)-1)∧iI.wrap ((m:Int)-1) < m)∧m<=xs.length)
  (h3:(0:Int)<=0∧0<=iI.wrap ((m:Int)-1)∧iI.wrap ((m:Int)-1)<=c):
  u4 w1u i2h (TTr xs off m c) .normal (TTr xs off (iI.wrap ((m:Int)-1)).toNat c):=
 stp e0w 10 progOk.mixed [true] [] (l:=[(0:Int)<=0∧0<=iI.wrap ((m:Int)-1)∧iI.wrap ((m:Int)-1)<=c,oH xs off m=true,
  decide ((m:Int) > 0)=true->s4 off (R3 (iI.wrap ((m:Int)-1)).toNat 1) < xs.length,decide ((m:Int) > 0)=true->(0<=iI.wrap ((m:Int)-1)∧iI.wrap ((m:Int)-1) < m)∧m<=xs.length]) (by kernel_rfl) ⟨h3,h0,h1,h2,a6⟩ (by kernel_rfl) (by kernel_rfl)
theorem g1b (h0:oH xs off m=false) (h1:decide ((m:Int) > 0)=true->s4 off (R3 (iI.wrap ((m:Int)-1)).toNat 1) < xs.length) (h2:decide ((m:Int) > 0)=true->(0<=iI.wrap ((m:Int)-1)∧iI.wrap ((m:Int)-1) < m)∧m<=xs.length):
  u4 w1u i2h (TTr xs off m c) (.exit 0) (TTr xs off m c):=
 stp e0w 10 progOk.mixed [false] [] (l:=[oH xs off m=false,
  decide ((m:Int) > 0)=true->s4 off (R3 (iI.wrap ((m:Int)-1)).toNat 1) < xs.length,decide ((m:Int) > 0)=true->(0<=iI.wrap ((m:Int)-1)∧iI.wrap ((m:Int)-1) < m)∧m<=xs.length]) (by kernel_rfl) ⟨h0,h1,h2,a6⟩ (by kernel_rfl) (by kernel_rfl)
def STr (n:Nat):St:=x9 w1u 200 225 [slO off n c] [(11, .ints .u32 xs)] 12 []
theorem z1a (n:Nat):m0k w1u [H7 (.exit 0) (fun _=>TTr xs off m c)] 200 225 [slO off n c] [(11, .ints .u32 xs)] 12 [] =
  some ⟨slO off m c,[(11, .ints .u32 xs)],12,[b9 w1u i2h (STr xs off c n) (.exit 0) (TTr xs off m c)],[]⟩:=by kernel_rfl
theorem t1r (n:Nat) (x:AX) (s':St) (h:b9 w1u i2h (TTr xs off n c) x s'):b9 w1u i2h (STr xs off c n) x s':=
 l9 h []
end
theorem t1s (xs:List Int) (off c n:Nat) (hn:off+n<=xs.length) (hc:n<=c) (hb:xs.length < 1099511627776):b9 w1u i2h (TTr xs off n c) (.exit 0) (TTr xs off (n8 ((xs.drop off).take n)).length c):=by
 refine C0 (fun m=>TTr xs off m c) id (fun m=>m<=n∧n8 ((xs.drop off).take m)=n8 ((xs.drop off).take n)) (by intro e; cases e) (fun m hm=> ?_) n ⟨d9 _,rfl⟩
 obtain⟨hle,he⟩:=hm
 rw [<- he]
 cases m with
 | zero=>
  right
  have:=g1b xs off 0 c rfl (fun e=>by simp at e) (fun e=>by simp at e)
  simpa [n8] using this
 | succ m=>
  have hw:iI.wrap (((m+1:Nat):Int)-1)=(m:Int):=by
   have:=t8 (n:=m) (by omega)
   rw [<- this]
   congr 1
   omega
  have hpos:decide (((m+1:Nat):Int) > 0)=true:=by simp
  have ha:s4 off (R3 (iI.wrap (((m+1:Nat):Int)-1)).toNat 1)=off+m:=by rw [hw]; simp
  have h1:decide (((m+1:Nat):Int) > 0)=true->s4 off (R3 (iI.wrap (((m+1:Nat):Int)-1)).toNat 1) < xs.length:=fun _=>by rw [ha]; omega
  have h2:decide (((m+1:Nat):Int) > 0)=true->(0<=iI.wrap (((m+1:Nat):Int)-1)∧iI.wrap (((m+1:Nat):Int)-1) < ((m+1:Nat):Int))∧m+1<=xs.length:=fun _=>by rw [hw]; omega
  have hlz:oH xs off (m+1)=(xs.getD (off+m) 0==0):=by unfold oH; rw [hpos,ha]
  have hg:(xs.drop off).getD m 0=xs.getD (off+m) 0:=by simp [List.getD,List.getElem?_drop]
  have ht:=kG (l:=xs.drop off) (m:=m) (by rw [C2]; omega)
  rw [hg] at ht
  by_cases hz:xs.getD (off+m) 0=0
  ·left
   have hs:=t1i xs off (m+1) c (by rw [hlz,hz]; rfl) h1 h2 (by rw [hw]; omega)
   rw [hw] at hs
   refine⟨m,⟨by omega,?_⟩,Q7 _,hs⟩
   rw [ht,hz,K5,f9 rfl]
  ·right
   have hs:=g1b xs off (m+1) c (by rw [hlz]; simpa using hz) h1 h2
   rw [ht,K5,a7 hz,<- ht,E0,C2,C6 (by omega)]
   exact hs
theorem nC:Enters zO8 225:=F2 (u6 e0w 10).2 (z1a [] 0 0 0 0)
theorem jJ (b:Option Nat) (off n c:Nat) (xs:List Int) (w:World) (hI:J0.I w) (hn:off+n<=xs.length) (hc:n<=c) (hb:xs.length < 1099511627776)
  (h:(b=none∧xs=[])∨∃ g cs t fr,b=some g∧w.heap[g]? =some (.cells cs t fr)∧∀ i,i < xs.length->cs[i]? =some (.int .u32 (xs.getD i 0))):
  Calls zO8 225 ⟨[.slice (b.map fun g=>⟨g,off,none⟩) n c]⟩ w fun e w'=>
   e= .returned (.slice (b.map fun g=>⟨g,off,none⟩) (n8 ((xs.drop off).take n)).length c)∧Below w.heap.size w w':=by
 have hp:Par zO8 w.heap.size (fun _=>False):=⟨hI.1,fun _ _ h=>h⟩
 have hG:zO8.globals.size=11:=by kernel_rfl
 obtain⟨hX,_⟩:=u6 e0w 10
 have hS:∀ E':Num,Agree 12 (fun i=>if i=11 then b else some i) E'->Sim zO8 w.heap.size (fun _=>False) E' [(11, .ints .u32 xs)] w∧([.slice (b.map fun g=>⟨g,off,none⟩) n c] :List Value)=rvL E' [slO off n c] :=by
  intro E' ha
  have h11:E' 11=b:=by rw [ha 11 (by omega)]; simp
  refine⟨⟨fun g hg=>by rw [ha g (by omega)]; simp; omega,fun i o hi=> ?_,fun i j o o' hi hr=> ?_⟩,?_⟩
  ·rw [b6] at hi
   split at hi
   ·rename_i e
    subst e
    cases hi
    rw [h11]
    exact h
   ·simp [Heap.get] at hi
  ·rw [b6] at hi
   split at hi
   ·cases hi; cases hr
   ·simp [Heap.get] at hi
  ·simp only [rvL,rv,rSl,w8,h11]
 refine (K3 hX progOk.mixed (z1a xs off _ c n) ⟨t1r xs off c n _ _ (t1s xs off c n hn hc hb),a6⟩ hp (d9 _) hI hS).2.mono fun e w' ⟨ρ1,v,ha,he,hk,hfin⟩=>⟨?_,hk.below⟩
 obtain⟨hv,_⟩:=hfin ρ1 (Agree.refl _ _)
 have h11:ρ1 11=b:=by rw [ha 11 (by omega)]; simp
 rw [he,hv]
 simp only [rv,rSl,w8,h11]
def m0q (args:List Value) (H:Heap) (n:Nat) (ds:List Bool):Option CR:=
 match args with
 | [.slice (some ⟨id,off,some kk⟩) m c] =>match H.get id with
  | some (.row _ sz (.ints .u32 xs) kk')=>match zO0 kk kk' && zO0 sz 1 with
   | true=>some ⟨.slice (some ⟨id,off,some kk⟩) (n8 ((xs.drop off).take m)).length c,H,n,[off=c∧off+m<=xs.length∧xs.length < 1099511627776],ds⟩
   | false=>none
  | _=>none
 | [.slice (some ⟨id,0,none⟩) m c] =>match H.get id with
  | some (.cells cs _)=>match gB .u32 cs with
   | some xs=>some ⟨.slice (some ⟨id,0,none⟩) (n8 (xs.take m)).length c,H,n,[m<=xs.length∧m<=c∧xs.length < 1099511627776],ds⟩
   | none=>none
  | _=>none
 | [.slice none 0 0] =>some ⟨.slice none 0 0,H,n,[],ds⟩
 | _=>none
theorem z0y:V8 zO8 J0 225 m0q:=by
 intro args H n ds r h hl
 have fin:∀ {B:Nat} {M:Nat->Prop} {E:Num} {w:World} {vs:List Value} {u:Value} {v:Value},B<=w.heap.size->(∀ E',Agree n E E'->Sim zO8 B M E' H w∧vs=rvL E' [u])->
   (Calls zO8 225 ⟨vs⟩ w fun e w'=>(∃ x,e= .returned x∧∀ E',Agree n E E'->x=rv E' v)∧Below w.heap.size w w')->
   Calls zO8 225 ⟨vs⟩ w fun e w'=>∃ ρ1 x,Agree n E ρ1∧e= .returned x∧Keeps B M w w'∧∀ E',Agree n ρ1 E'->x=rv E' v∧Sim zO8 B M E' H w':=by
  intro B M E w vs u v hB hS hc
  exact hc.mono fun e w' ⟨⟨x,he,hx⟩,hb⟩=>⟨E,x,Agree.refl _ _,he,u3 hb hB,fun E' ha=>⟨hx E' ha,(hS E' ha).1.below hb⟩⟩
 unfold m0q at h
 split at h
 ·rename_i id off kk m c
  split at h
  ·rename_i e sz xs kk' hget
   split at h
   case h_2=>cases h
   rename_i hc
   simp only [A9,B7] at hc
   obtain⟨rfl,rfl⟩:=hc
   cases h
   obtain⟨rfl,h2,h3⟩:=hl.1
   refine⟨d9 _,nC,fun B M E w vs hp hB hI hS=>fin hB hS ?_⟩
   have hvs:=(hS E (Agree.refl _ _)).2
   rcases (hS E (Agree.refl _ _)).1.obj id _ hget with ⟨g1,g2⟩ | ⟨b,cap,cur,g1,g2,⟨fr,g3,_⟩,g4,g5,g6,g7,g8⟩
   ·have hx:xs=[] :=by simpa [Row.list] using g2
    subst hx
    have h0:off=0:=by simp at h2; omega
    have hm:m=0:=by simp at h2; omega
    subst h0 hm
    have:=jJ none 0 0 0 [] w hI (by simp) (d9 _) (by simp) (.inl ⟨rfl,rfl⟩)
    have e1:vs=[.slice none 0 0] :=by rw [hvs]; simp [rvL,rv,rSl,g1]
    rw [e1]
    refine this.mono fun e w' ⟨he,hb⟩=>⟨⟨_,he,fun E' ha=> ?_⟩,hb⟩
    have e2:=(hS E' ha).2
    rw [e1] at e2
    simp only [rvL,rv,Z7,P3] at e2
    show (.slice none 0 0:Value)=rSl E' ⟨id,0,some kk⟩ 0 0
    exact e2
   ·simp only [Row.list,D1,u9] at g6 g7 g8
    rw [Q3] at g8
    have hxs:∀ i,i < xs.length->cur[i]? =some (.int .u32 (xs.getD i 0)):=fun i hi=>by
     have:=U3 (xs:=xs) (n:=xs.length) hi .u32 hi
     rw [r8,<- g8,T6,f9 hi] at this
     simpa using this
    have:=jJ (some b) off m (cap-off) xs w hI h2 (by omega) h3 (.inr ⟨b,cur,e,fr,rfl,g3,hxs⟩)
    have e1:vs=[.slice (some ⟨b,off,none⟩) m (cap-off)] :=by rw [hvs]; simp [rvL,rv,rSl,g1,g2]
    rw [e1]
    refine this.mono fun e w' ⟨he,hb⟩=>⟨⟨_,he,fun E' ha=> ?_⟩,hb⟩
    rcases (hS E' ha).1.obj id _ hget with ⟨q1,q2⟩ | ⟨b',cap',cur',q1,q2,⟨fr',q3,_⟩,_⟩
    ·have hx:xs=[] :=by simpa [Row.list] using q2
     have e2:=(hS E' ha).2
     rw [e1] at e2
     simp [rvL,rv,rSl,q1] at e2
    ·have e2:=(hS E' ha).2
     rw [e1] at e2
     simp [rvL,rv,rSl,q1,q2] at e2
     simp only [rv,rSl,q1,q2,aF,E6,<- e2.1,<- e2.2]
  ·cases h
 ·rename_i id m c
  split at h
  case h_2=>cases h
  rename_i cs e hget
  split at h
  case h_2=>cases h
  rename_i xs ht
  cases h
  obtain⟨h1,h2,h3⟩:=hl.1
  have hcs:=J6 ht
  subst hcs
  refine⟨d9 _,nC,fun B M E w vs hp hB hI hS=>fin hB hS ?_⟩
  have hvs:=(hS E (Agree.refl _ _)).2
  obtain⟨b,g1,g2,_⟩:=(hS E (Agree.refl _ _)).1.obj id _ hget
  rw [Q3] at g2
  have hxs:∀ i,i < xs.length->(xs.map (zO2 .u32)).toArray[i]? =some (.int .u32 (xs.getD i 0)):=fun i hi=>by
   have:=U3 (xs:=xs) (n:=xs.length) hi .u32 hi
   rw [r8] at this
   simpa using this
  have:=jJ (some b) 0 m c xs w hI (by omega) h2 h3 (.inr ⟨b,_,e,(0,0),rfl,g2,hxs⟩)
  have e1:vs=[.slice (some ⟨b,0,none⟩) m c] :=by rw [hvs]; simp [rvL,rv,rSl,w8,g1]
  rw [e1]
  refine this.mono fun e w' ⟨he,hb⟩=>⟨⟨_,he,fun E' ha=> ?_⟩,hb⟩
  obtain⟨b',q1,q2,_⟩:=(hS E' ha).1.obj id _ hget
  have e2:=(hS E' ha).2
  rw [e1] at e2
  simp [rvL,rv,rSl,w8,q1] at e2
  simp only [rv,rSl,w8,q1,E6,<- e2,U8]
 ·cases h
  refine⟨d9 _,nC,fun B M E w vs hp hB hI hS=>fin hB hS ?_⟩
  have hvs:=(hS E (Agree.refl _ _)).2
  have:=jJ none 0 0 0 [] w hI (by simp) (d9 _) (by simp) (.inl ⟨rfl,rfl⟩)
  have e1:vs=[.slice none 0 0] :=by rw [hvs]; simp [rvL,rv]
  rw [e1]
  refine this.mono fun e w' ⟨he,hb⟩=>⟨⟨_,he,fun E' ha=> ?_⟩,hb⟩
  rfl
 ·cases h
abbrev W32:Nat:=4294967296
theorem n4:2<=W32:=by decide
theorem l6:0 < W32:=by decide
abbrev mW:TypeId:=33
abbrev nL (xs:List Int):Arg:= .c (.s mW .u32 xs)
abbrev vR (r:Int):Arg:= .c (.v (.int .u32 r))
abbrev b3r (r:Int):Arg:= .c (.v (.int .u64 r))
def m0u:iV:=o8 225 m0q I4
theorem b0y:iS zO8 J0 m0u:=j0 z0y (v6 _ _)
def bRn1:Base:=⟨zO8,J0,false,rH,m0u,200,L7⟩
theorem e0g:BaseOk bRn1:=⟨progOk,M6,b0y,r5⟩
abbrev o1y:=bRn1.cx 10
abbrev ofW (n:Int):List Int:=[uJ.wrap n,uJ.wrap (n.fdiv 4294967296)]
theorem n2s (n:Int) (R:List Int):B2 o1y [] 200 158 [b3r n] [nL R] [] =some [2<=2∧2<=2∧2 < 1099511627776,(n8 (ofW n)).length=R.length∧(n8 (ofW n)).length<=2∧(ofW n).take (n8 (ofW n)).length=R∧2=2∧2<=9223372036854775807] :=by kernel_rfl
def cTi:Code:=z8 zO8 159 0
def tTi (xs L:List Int) (k cy i:Int) (nx nl:Nat):St:=⟨only 47 [(0, .slice (some ⟨11,0,some 12⟩) nx 0),(1, .int .u32 k),(7, .slice (some ⟨13,0,some 14⟩) nl 0),(8, .int .u64 cy),(9, .int .i64 i)],[(13, .row mW 1 (.ints .u32 L) 14),(11, .ints .u32 xs)],15,[],[],0,none,[],13⟩
abbrev tiX (xs:List Int) (k cy:Int) (i:Nat):Int:=uI.wrap (cy+uI.wrap (uI.wrap (xs.getD (s4 0 i) 0)*uI.wrap k))
section
variable (xs L R:List Int) (k c cy:Int) (i nx nl:Nat)
theorem w2l (hl:l5 [s4 0 i < L.length,((0:Int)<=i∧(i:Int) < nl)∧0 < L.length,s4 0 i < xs.length,((0:Int)<=i∧(i:Int) < nx)∧0 < xs.length,decide ((i:Int) < (nx:Int))=true]):u4 o1y cTi (tTi xs L k cy i nx nl) .normal (tTi xs (S5 L (s4 0 i) (uJ.wrap (tiX xs k cy i))) k ((tiX xs k cy i).fdiv 4294967296) (iI.wrap ((i:Int)+1)) nx nl):=
 stp e0g 10 progOk.mixed [true] [] (by kernel_rfl) hl
theorem k2l (hl:l5 [decide ((i:Int) < (nx:Int))=false]):u4 o1y cTi (tTi xs L k cy i nx nl) (.exit 0) (tTi xs L k cy i nx nl):=
 stp e0g 10 progOk.mixed [false] [] (by kernel_rfl) hl
abbrev tiL (L:List Int) (nx:Nat) (cy:Int):List Int:=S5 L (s4 0 nx) (uJ.wrap cy)
abbrev tiM (L:List Int) (nx nl:Nat) (cy:Int):Nat:=(n8 (((tiL L nx cy).drop 0).take nl)).length
abbrev lnW (xs:List Int):Int:=iI.wrap ((xs.length:Int)+1)
theorem p2k:B2 o1y [H7 (.exit 0) (fun _=>tTi xs L k cy (nx:Int) nx nl)] 200 159 [nL xs,vR k,vR c] [nL R] [] =some [0=0∧0+nl<=(tiL L nx cy).length∧(tiL L nx cy).length < 1099511627776,s4 0 nx < L.length,((0:Int)<=nx∧(nx:Int) < nl)∧0 < L.length,b9 o1y cTi (m8 o1y 200 159 [nL xs,vR k,vR c] []) (.exit 0) (tTi xs L k cy (nx:Int) nx nl),0<=lnW xs∧lnW xs=lnW xs∧4*lnW xs<=281474976710656∧lnW xs<=9223372036854775807,tiM L nx nl cy=R.length∧tiM L nx nl cy<=(tiL L nx cy).length∧(tiL L nx cy).take (tiM L nx nl cy)=R] :=by kernel_rfl
theorem a2k {x:AX} {s':St} (h:b9 o1y cTi (tTi xs (zO7 (lnW xs).toNat 0) k (uI.wrap c) ((0:Nat):Int) xs.length (lnW xs).toNat) x s'):b9 o1y cTi (m8 o1y 200 159 [nL xs,vR k,vR c] []) x s':=
 l9 h []
end
theorem y0p {n:Nat} (h:n < W32):uJ.wrap (n:Int)=(n:Int):=by
 have h:n < 4294967296:=h
 rw [IntKind.wrap_u32]
 omega
theorem n2x (n:Nat):uJ.wrap (n:Int)=((n%W32:Nat):Int):=by
 rw [IntKind.wrap_u32]
 show _=((n%4294967296:Nat):Int)
 omega
theorem qT {n:Nat} (h:n < 18446744073709551616):uI.wrap (n:Int)=(n:Int):=by
 rw [R5]
 omega
theorem y1v {n:Nat} (h:n < 9223372036854775808):iI.wrap (n:Int)=(n:Int):=t8 h
theorem i1m (l:List Int):l.take (n8 l).length=n8 l:=by
 induction hn:l.length generalizing l with
 | zero=>have:=cJ hn; subst this; rfl
 | succ n ih=>
  have hne:l≠[] :=by intro e; subst e; cases hn
  obtain⟨m,x,rfl⟩:∃ m x,l=m++[x] :=⟨l.dropLast,l.getLast hne,(List.dropLast_concat_getLast hne).symm⟩
  rw [K5]
  split
  ·rw [s0c (B6 m)]
   exact ih m (by simp at hn; omega)
  ·exact r8
theorem oR {l r:List Int} (h:n8 l=r):(n8 l).length=r.length∧(n8 l).length<=l.length∧l.take (n8 l).length=r:=⟨by rw [h],B6 l,by rw [i1m,h]⟩
theorem u0e (n:Nat):((n:Nat):Int).fdiv 4294967296=((n/4294967296:Nat):Int):=(qF n 4294967296).symm
theorem d2e {n:Nat} (h:n < 18446744073709551616):Ev.Sem zO8 J0 158 [b3r (n:Int)] [nL (ws W32 n)] :=by
 have e:ofW (n:Int)=dl W32 2 n:=by
  show [uJ.wrap (n:Int),uJ.wrap (((n:Nat):Int).fdiv 4294967296)] =[((n%W32:Nat):Int),((n/W32%W32:Nat):Int)]
  rw [u0e,n2x,n2x]
 have ht:n8 (ofW (n:Int))=ws W32 n:=by
  rw [e,E1 n4 (Q0 l6 2 n),H5,G7 (by show n < 4294967296 ^2; omega)]
 obtain⟨t1,t2,t3⟩:=oR ht
 exact l7 e0g 10 _ _ (n2s (n:Int) (ws W32 n)) ⟨⟨by omega,by omega,by omega⟩,⟨t1,t2,t3,rfl,by omega⟩,a6⟩
theorem cP (b:Nat) (hb:0 < b) (i m:Nat):dl b (i+1) m=dl b i m++[((dig b m i:Nat):Int)] :=by
 symm
 have h1:Dg b (dl b i m++[((dig b m i:Nat):Int)]):=(Q0 hb i m).append (Dg.cons ⟨by omega,by exact_mod_cast D6 hb m i⟩ (Dg.nil _))
 have h2:val b (dl b i m++[((dig b m i:Nat):Int)])=m%b ^(i+1):=by
  rw [S8,H5,l4,J8]
  congr 1
  simp [val,Nat.mul_comm]
 refine X4 hb h1 (Q0 hb _ _) (by rw [G8,l4,l4]; rfl) (by rw [h2,H5])
theorem uQ (b:Nat) (i m k:Nat) (x:Int) (r:List Int):(dl b i m++x ::r).set i (k:Int)=dl b i m++(k:Int) ::r:=by
 rw [List.set_append_right _ _ (by rw [l4]; exact d9 _),l4,L0]
 rfl
def tiP (A k c i:Nat):Nat:=A%W32 ^i*k+c
theorem u0l (A k c i:Nat):tiP A k c (i+1)=tiP A k c i+W32 ^i*(dig W32 A i*k):=by
 unfold tiP
 rw [J8,A7,Nat.add_right_comm,t7 (dig W32 A i) (W32 ^i),r7]
theorem s1d {b p a k c:Nat} (ha:a < p) (hk:k < b) (hc:c < b):a*k+c < b*p:=by
 have h1:a*k+c < a*b+b:=Nat.add_lt_add_of_le_of_lt (N0 a (K1 hk)) hc
 rw [<- Nat.succ_mul] at h1
 rw [t7 b p]
 exact C8 h1 (w9 b ha)
theorem j0u {A k c i:Nat} (hk:k < W32) (hc:c < W32):tiP A k c i/W32 ^i < W32:=by
 have hp:0 < W32 ^i:=s7 l6
 rw [D9 hp]
 exact s1d (F7 A hp) hk hc
theorem a1n {n:Nat} (h:n < 9223372036854775807):iI.wrap ((n:Int)+1)=((n+1:Nat):Int):=by
 rw [show (n:Int)+1=((n+1:Nat):Int) by omega]
 exact y1v (by omega)
theorem b2l (A k c i:Nat):dl W32 i (tiP A k c (i+1))=dl W32 i (tiP A k c i):=by
 refine X4 l6 (Q0 l6 _ _) (Q0 l6 _ _) (by rw [l4,l4]) ?_
 rw [H5,H5,u0l,jU]
theorem c2w (A k c i:Nat):tiP A k c (i+1)/W32 ^i=tiP A k c i/W32 ^i+dig W32 A i*k:=by
 rw [u0l,gC _ _ (s7 l6)]
def tiR (A k c n i:Nat):List Int:=dl W32 i (tiP A k c i)++zO7 (n+1-i) 0
def tiS (xs:List Int) (A k c i:Nat):St:=tTi xs (tiR A k c xs.length i) (k:Int) ((tiP A k c i/W32 ^i:Nat):Int) (i:Int) xs.length (xs.length+1)
theorem d1d {A k c n i:Nat} (h:i<=n):(tiR A k c n i).length=n+1:=by
 unfold tiR
 rw [G8,l4,bH]
 omega
theorem e2m {xs:List Int} {A k c i:Nat} (hx:Dg W32 xs) (hA:val W32 xs=A) (hk:k < W32) (hc:c < W32) (hl:xs.length < 1099511627776) (hi:i < xs.length):u4 o1y cTi (tiS xs A k c i) .normal (tiS xs A k c (i+1)):=by
 have hg:xs.getD i 0=(dig W32 A i:Int):=by rw [B1 l6 hx i,hA]
 have hd:=D6 l6 A i
 have hcy:=j0u (A:=A) (i:=i) hk hc
 have hlen:=d1d (A:=A) (k:=k) (c:=c) (K1 hi)
 have hdiv:=c2w A k c i
 generalize hcar:tiP A k c i/W32 ^i=cy at*
 have hm:dig W32 A i*k<=4294967295*4294967295:=sP (by have:dig W32 A i < 4294967296:=hd; omega) (by have:k < 4294967296:=hk; omega)
 have hcy:cy < 4294967296:=hcy
 have hX:tiX xs (k:Int) (cy:Int) i=((cy+dig W32 A i*k:Nat):Int):=by
  show uI.wrap ((cy:Int)+uI.wrap (uI.wrap (xs.getD (s4 0 i) 0)*uI.wrap (k:Int)))=_
  rw [q9,I0,hg,qT (by have:dig W32 A i < 4294967296:=hd; omega),qT (by have:k < 4294967296:=hk; omega),<- V9,qT (by omega),<- dZ,qT (by omega)]
 have hs:=w2l xs (tiR A k c xs.length i) (k:Int) (cy:Int) i xs.length (xs.length+1) ⟨by rw [hlen,q9]; omega,⟨⟨by omega,by omega⟩,by rw [hlen]; omega⟩,by rw [q9]; omega,⟨⟨by omega,by omega⟩,by omega⟩,i6 (by omega),a6⟩
 rw [hX,u0e,n2x,a1n (by omega)] at hs
 have hrow:S5 (tiR A k c xs.length i) (s4 0 i) (((cy+dig W32 A i*k)%W32:Nat):Int)=tiR A k c xs.length (i+1):=by
  rw [A0,q9,I0]
  unfold tiR
  rw [cP W32 l6,b2l,show xs.length+1-i=(xs.length+1- (i+1))+1 by omega,xW,uQ,lU,kK]
  congr 2
  show ((cy+dig W32 A i*k)%W32:Nat)=((tiP A k c (i+1)/W32 ^i%W32:Nat):Int)
  rw [hdiv]
 rw [hrow] at hs
 have hnx:tiP A k c (i+1)/W32 ^(i+1)=(cy+dig W32 A i*k)/4294967296:=by
  rw [y8,<- P0,hdiv]
 unfold tiS
 rw [hcar,hnx]
 exact hs
theorem i1s {xs:List Int} {A k c:Nat} (hx:Dg W32 xs) (hA:val W32 xs=A) (hk:k < W32) (hc:c < W32) (hl:xs.length < 1099511627):Ev.Sem zO8 J0 159 [nL xs,vR (k:Int),vR (c:Int)] [nL (ws W32 (A*k+c))] :=by
 have hn:lnW xs=((xs.length+1:Nat):Int):=a1n (by omega)
 have h0:tTi xs (zO7 (lnW xs).toNat 0) (k:Int) (uI.wrap (c:Int)) ((0:Nat):Int) xs.length (lnW xs).toNat=tiS xs A k c 0:=by
  unfold tiS tiR tiP
  rw [hn,qT (by have:c < 4294967296:=hc; omega),G3,b0t,K8,I0,Nat.div_one]
  rfl
 have hAl:A < W32 ^xs.length:=by rw [<- hA]; exact E8 l6 hx
 have hend:=k2l xs (tiR A k c xs.length xs.length) (k:Int) ((tiP A k c xs.length/W32 ^xs.length:Nat):Int) xs.length xs.length (xs.length+1) ⟨d8 (by omega),a6⟩
 have hloop:=a2k xs (k:Int) (c:Int) (x:= .exit 0) (s':=tiS xs A k c xs.length) (by
  rw [h0]
  exact x5 (fun i=>tiS xs A k c i) xs.length (by intro e; cases e) (fun i hi=>e2m hx hA hk hc (by omega) hi) hend)
 have hP:tiP A k c xs.length=A*k+c:=by unfold tiP; rw [G7 hAl]
 have hcar:=j0u (A:=A) (i:=xs.length) hk hc
 have hL:tiL (tiR A k c xs.length xs.length) xs.length ((tiP A k c xs.length/W32 ^xs.length:Nat):Int)=dl W32 (xs.length+1) (A*k+c):=by
  show S5 _ (s4 0 xs.length) (uJ.wrap _)=_
  rw [y0p hcar,A0,q9,I0]
  unfold tiR
  rw [show xs.length+1-xs.length=0+1 by omega,xW,uQ,cP W32 l6,hP]
  congr 2
  unfold dig
  rw [G7 (by rw [<- hP]; exact hcar)]
 have hlt:A*k+c < W32 ^(xs.length+1):=by
  rw [<- hP,y8,t7]
  exact (D9 (s7 l6)).1 hcar
 have ht:n8 (dl W32 (xs.length+1) (A*k+c))=ws W32 (A*k+c):=by
  rw [E1 n4 (Q0 l6 _ _),H5,G7 hlt]
 obtain⟨t1,t2,t3⟩:=oR ht
 have htake:((dl W32 (xs.length+1) (A*k+c)).drop 0).take (xs.length+1)=dl W32 (xs.length+1) (A*k+c):=by
  rw [U8,O9 (by rw [l4]; exact d9 _)]
 have hlen:=d1d (A:=A) (k:=k) (c:=c) (d9 xs.length)
 refine l7 e0g 10 _ _ (p2k xs (tiR A k c xs.length xs.length) (ws W32 (A*k+c)) (k:Int) (c:Int) ((tiP A k c xs.length/W32 ^xs.length:Nat):Int) xs.length (xs.length+1)) ⟨?_,?_,⟨⟨by omega,by omega⟩,by rw [hlen]; omega⟩,hloop,?_,?_,a6⟩
 ·rw [hL,l4]
  exact⟨rfl,by omega,by omega⟩
 ·rw [hlen,q9]; omega
 ·rw [hn]; omega
 ·unfold tiM
  rw [hL,htake]
  exact⟨t1,by rw [l4] at*; exact t2,t3⟩
def m0e:Code:=z8 zO8 270 0
def a1q (xs ys L:List Int) (na nb N:Nat) (la c i:Int):St:=
 ⟨only 40 [(0,slV 11 na),(1,slV 13 nb),(5,slV 15 N),(6, .int .u64 c),(12,slV 11 na),(13, .int .i64 la),(14, .int .i64 i)],[(15, .row bP 1 (.ints .u64 L) 16),(11, .ints .u64 xs),(13, .ints .u64 ys)],17,[],[],0,none,[],15⟩
section
variable (xs ys L R:List Int) (na nb N:Nat) (la c i:Int)
theorem v1p (h0:decide (i < la)=true) (h1:decide (i < zO6 nb)=true) (h2:((zO6 0<=i∧i < zO6 nb)∧0 < ys.length)∧i.toNat < ys.length)
  (h3:((zO6 0<=i∧i < zO6 na)∧0 < xs.length)∧i.toNat < xs.length) (h4:c.toNat<=1) (h5:((zO6 0<=i∧i < zO6 N)∧0 < L.length)∧i.toNat < L.length):
  u4 XW0 m0e (a1q xs ys L na nb N la c i) .normal (a1q xs ys (S5 L i.toNat (g0t (xs.getD i.toNat 0) (ys.getD i.toNat 0) c)) na nb N la (e0b (xs.getD i.toNat 0) (ys.getD i.toNat 0) c) (iI.wrap (i+1))):=
 stp B3 10 progOk.mixed [true,true] [] (l:=[i.toNat < L.length,(zO6 0<=i∧i < zO6 N)∧0 < L.length,c.toNat<=1,i.toNat < xs.length,(zO6 0<=i∧i < zO6 na)∧0 < xs.length,i.toNat < ys.length,
   (zO6 0<=i∧i < zO6 nb)∧0 < ys.length,decide (i < zO6 nb)=true,decide (i < la)=true]) (by kernel_rfl) ⟨h5.2,h5.1,h4,h3.2,h3.1,h2.2,h2.1,h1,h0,a6⟩ (by kernel_rfl) (by kernel_rfl)
theorem c2t (h0:decide (i < la)=true) (h1:decide (i < zO6 nb)=false)
  (h3:((zO6 0<=i∧i < zO6 na)∧0 < xs.length)∧i.toNat < xs.length) (h4:c.toNat<=1) (h5:((zO6 0<=i∧i < zO6 N)∧0 < L.length)∧i.toNat < L.length):
  u4 XW0 m0e (a1q xs ys L na nb N la c i) .normal (a1q xs ys (S5 L i.toNat (g0t (xs.getD i.toNat 0) 0 c)) na nb N la (e0b (xs.getD i.toNat 0) 0 c) (iI.wrap (i+1))):=
 stp B3 10 progOk.mixed [true,false] [] (l:=[i.toNat < L.length,(zO6 0<=i∧i < zO6 N)∧0 < L.length,c.toNat<=1,i.toNat < xs.length,(zO6 0<=i∧i < zO6 na)∧0 < xs.length,
   decide (i < zO6 nb)=false,decide (i < la)=true]) (by kernel_rfl) ⟨h5.2,h5.1,h4,h3.2,h3.1,h1,h0,a6⟩ (by kernel_rfl) (by kernel_rfl)
theorem b2o (h0:decide (i < la)=false):u4 XW0 m0e (a1q xs ys L na nb N la c i) (.exit 0) (a1q xs ys L na nb N la c i):=
 stp B3 10 progOk.mixed [false] [] (l:=[decide (i < la)=false]) (by kernel_rfl) ⟨h0,a6⟩
theorem z1v:B2 XW0 [H7 (.exit 0) (fun _=>a1q xs ys L na nb N la c i)] 200 270 [wS xs,wS ys] [wS R] [] =some [
  b9 XW0 m0e (m8 XW0 200 270 [wS xs,wS ys] []) (.exit 0) (a1q xs ys L na nb N la c i),
  (0:Int)<=xs.length∧(xs.length:Int)=xs.length∧(8:Int)*xs.length<=281474976710656∧(xs.length:Int)<=9223372036854775807,N=R.length∧N<=L.length∧L.take N=R] :=by kernel_rfl
theorem q1y (x:AX) (s':St) (h:b9 XW0 m0e (a1q xs ys (zO7 xs.length 0) xs.length ys.length xs.length xs.length 0 0) x s'):
  b9 XW0 m0e (m8 XW0 200 270 [wS xs,wS ys] []) x s':=
 l9 h []
end
theorem r1x {a b c:Nat} (ha:a < W64) (hb:b < W64) (hc:c<=1):∃ lo hi:Nat,g0t a b c=lo∧e0b a b c=hi∧lo < W64∧hi<=1∧lo+b+c=a+W64*hi:=by
 have ha:a < 18446744073709551616:=ha
 have hb:b < 18446744073709551616:=hb
 refine⟨_,_,rfl,rfl,F7 _ m7,?_,?_⟩
 ·split <;> omega
 ·simp only [g9]
  have hW:W64=18446744073709551616:=rfl
  rw [hW]
  split
  ·rename_i h
   have h:a < b+c:=by simpa [Nat.blt_eq] using h
   omega
  ·rename_i h
   have h:¬ a < b+c:=fun hlt=>by
    have:zO1 a (b+c)=true:=by simpa [Nat.blt_eq] using hlt
    rw [this] at h
    cases h
   omega
def t1m (n A B:Nat) (p:IPl):Prop:=
 p.i<=n∧p.L.length=n∧Dg W64 p.L∧0<=p.c∧p.c<=1∧(∀ j,p.i<=j->p.L.getD j 0=0)∧val W64 p.L+B%W64 ^p.i=A%W64 ^p.i+p.c.toNat*W64 ^p.i
def rC (xs ys:List Int) (p:IPl):IPl:=
 ⟨p.i+1,e0b (xs.getD p.i 0) (ys.getD p.i 0) p.c,S5 p.L p.i (g0t (xs.getD p.i 0) (ys.getD p.i 0) p.c)⟩
theorem w0v {n:Nat} {xs ys:List Int} (hx:Dg W64 xs) (hy:Dg W64 ys) {p:IPl} (h:t1m n (val W64 xs) (val W64 ys) p) (hi:p.i < n):t1m n (val W64 xs) (val W64 ys) (rC xs ys p):=by
 obtain⟨h1,h2,h3,h4,h5,h6,h7⟩:=h
 have gx:=B1 m7 hx p.i
 have gy:=B1 m7 hy p.i
 obtain⟨lo,hi',e1,e2,e3,e4,e5⟩:=r1x (D6 m7 (val W64 xs) p.i) (D6 m7 (val W64 ys) p.i) (show p.c.toNat<=1 by omega)
 have ec:p.c=(p.c.toNat:Int):=by omega
 unfold rC
 rw [A0,gx,gy,ec,e1,e2]
 refine⟨hi,by simp [h2],h3.set ⟨by omega,by exact_mod_cast e3⟩ _,by simp only; omega,by simp only; omega,fun j hj=> ?_,?_⟩
 ·simp only at hj
  rw [getD_set_ne (by omega)]
  exact h6 j (by omega)
 ·have hv:=cX (b:=W64) (lo:Int) (show p.i < p.L.length by omega)
  rw [h6 p.i (d9 _)] at hv
  simp only [h0f,K8,I1,g9] at hv
  simp only [g9]
  rw [hv,J8,J8,y8]
  have q1:(lo+dig W64 (val W64 ys) p.i+p.c.toNat)*W64 ^p.i=(dig W64 (val W64 xs) p.i+W64*hi')*W64 ^p.i:=by rw [e5]
  rw [A7,A7,A7] at q1
  have q2:hi'*(W64 ^p.i*W64)=W64*hi'*W64 ^p.i:=by rw [t7 (W64 ^p.i),<- r7,t7 hi']
  omega
theorem cL {xs ys:List Int} (hx:Dg W64 xs) (hy:Dg W64 ys) (n:Nat):∀ k,k<=n->t1m n (val W64 xs) (val W64 ys) (itr (rC xs ys) k (Q6 n))∧(itr (rC xs ys) k (Q6 n)).i=k
 | 0,_=>⟨⟨s6 _,by simp [itr,Q6],H8 _ m7 _,T8 _,by simp [itr,Q6],fun j _=>Y2 _ _,by simp [itr,Q6,O4,Nat.mod_one]⟩,rfl⟩
 | k+1,hk=>by
  obtain⟨h1,h2⟩:=cL hx hy n k (by omega)
  exact⟨w0v hx hy h1 (by omega),by show (itr (rC xs ys) k _).i+1=k+1; rw [h2]⟩
theorem zL {xs ys:List Int} (hx:Dg W64 xs) (hy:Dg W64 ys) {n:Nat} (h1:xs.length<=n) (h2:ys.length<=n) (hle:val W64 ys<=val W64 xs) {p:IPl} (h:t1m n (val W64 xs) (val W64 ys) p) (hi:p.i=n):p.L=dl W64 n (val W64 xs-val W64 ys):=by
 obtain⟨f1,f2,f3,f4,f5,f6,f7⟩:=h
 rw [hi] at f7
 have l1:=C8 (E8 m7 hx) (y5 m7 h1)
 have l2:=C8 (E8 m7 hy) (y5 m7 h2)
 have l3:=E8 m7 f3
 rw [f2] at l3
 rw [G7 l1,G7 l2] at f7
 have hc:p.c.toNat=0:=by
  rcases J4 p.c.toNat 1 with h | h
  ·omega
  ·have:p.c.toNat=1:=by omega
   rw [this] at f7
   omega
 rw [hc] at f7
 exact s1i m7 f3 f2 (by omega)
theorem l1l {xs ys:List Int} (hx:Dg W64 xs) (hy:Dg W64 ys) (hle:val W64 ys<=val W64 xs) (h1:xs.length < 1099511627776) (h2:ys.length<=xs.length):
  Ev.Sem zO8 J0 270 [wS xs,wS ys] [wS (dl W64 xs.length (val W64 xs-val W64 ys))] :=by
 obtain⟨hg,hi⟩:=cL hx hy xs.length xs.length (d9 _)
 have hlast:=zL hx hy (d9 _) h2 hle hg hi
 have hL:b9 XW0 m0e (a1q xs ys (zO7 xs.length 0) xs.length ys.length xs.length xs.length 0 0) (.exit 0)
   (a1q xs ys (itr (rC xs ys) xs.length (Q6 xs.length)).L xs.length ys.length xs.length xs.length (itr (rC xs ys) xs.length (Q6 xs.length)).c xs.length):=by
  refine x5 (fun k=>a1q xs ys (itr (rC xs ys) k (Q6 xs.length)).L xs.length ys.length xs.length xs.length (itr (rC xs ys) k (Q6 xs.length)).c k) xs.length (by intro e; cases e) (fun k hk=> ?_)
   (b2o xs ys _ xs.length ys.length xs.length _ _ xs.length (by simp))
  obtain⟨hg,hi⟩:=cL hx hy xs.length k (by omega)
  simp only [itr]
  generalize itr (rC xs ys) k (Q6 xs.length)=s at*
  obtain⟨h1',h2',h3,h4,h5,h6,h7⟩:=hg
  have hw:=L6 (n:=k) (by omega)
  subst hi
  by_cases hlt2:s.i < ys.length
  ·have:=v1p xs ys s.L xs.length ys.length xs.length xs.length s.c s.i (by simpa using hk) (by simpa using hlt2) ⟨⟨⟨by simp,by simpa using hlt2⟩,by omega⟩,by simpa using hlt2⟩ ⟨⟨⟨by simp,by simpa using hk⟩,by omega⟩,by simpa using hk⟩ (by omega) ⟨⟨⟨by simp,by simp only [B4]; omega⟩,by omega⟩,by simp only [g9]; omega⟩
   rw [hw] at this
   exact this
  ·have:=c2t xs ys s.L xs.length ys.length xs.length xs.length s.c s.i (by simpa using hk) (by simpa using hlt2) ⟨⟨⟨by simp,by simpa using hk⟩,by omega⟩,by simpa using hk⟩ (by omega) ⟨⟨⟨by simp,by simp only [B4]; omega⟩,by omega⟩,by simp only [g9]; omega⟩
   rw [hw] at this
   unfold rC
   rw [aV (l:=ys) (i:=s.i) (by omega)]
   exact this
 refine l7 B3 10 _ _ (z1v xs ys _ _ _ _ _ _ _ _) ⟨q1y xs ys _ _ hL,⟨by omega,rfl,by omega,by omega⟩,⟨?_,?_,?_⟩,a6⟩
 ·rw [l4]
 ·rw [hg.2.1]; exact d9 _
 ·rw [hlast]
  exact O9 (by rw [l4]; exact d9 _)
def gP:Code:=z8 zO8 265 0
def zZ (xs ys:List Int) (na nb:Nat) (i:Int):St:=⟨only 43 [(0,slV 11 na),(1,slV 13 nb),(5, .int .i64 i)],[(11, .ints .u64 xs),(13, .ints .u64 ys)],15,[],[],0,none,[],15⟩
def y1p (xs ys:List Int) (na nb:Nat) (r:Int):St:=⟨only 43 [(0,slV 11 na),(1,slV 13 nb),(4, .int .i64 r)],[(11, .ints .u64 xs),(13, .ints .u64 ys)],15,[],[],0,none,[],15⟩
section
variable (xs ys:List Int) (na nb:Nat) (i r:Int)
abbrev inB (ys:List Int) (nb:Nat) (i:Int):Prop:=((zO6 0<=i∧i < zO6 nb)∧0 < ys.length)∧i.toNat < ys.length
theorem p1l (h0:decide (0<=i)=true) (hx:inB xs na i) (hy:inB ys nb i) (h1:decide (xs.getD i.toNat 0 < ys.getD i.toNat 0)=true):u4 XW0 gP (zZ xs ys na nb i) .ret (y1p xs ys na nb (-1)):=
 stp B3 10 progOk.mixed [true,true] [] (l:=[decide (xs.getD i.toNat 0 < ys.getD i.toNat 0)=true,i.toNat < ys.length,(zO6 0<=i∧i < zO6 nb)∧0 < ys.length,i.toNat < xs.length,(zO6 0<=i∧i < zO6 na)∧0 < xs.length,decide (0<=i)=true])
  (by kernel_rfl) ⟨h1,hy.2,hy.1,hx.2,hx.1,h0,a6⟩ (by kernel_rfl) (by kernel_rfl)
theorem w1c (h0:decide (0<=i)=true) (hx:inB xs na i) (hy:inB ys nb i) (h1:decide (xs.getD i.toNat 0 < ys.getD i.toNat 0)=false) (h2:decide (ys.getD i.toNat 0 < xs.getD i.toNat 0)=true):u4 XW0 gP (zZ xs ys na nb i) .ret (y1p xs ys na nb 1):=
 stp B3 10 progOk.mixed [true,false,true] [] (l:=[decide (ys.getD i.toNat 0 < xs.getD i.toNat 0)=true,i.toNat < ys.length,(zO6 0<=i∧i < zO6 nb)∧0 < ys.length,i.toNat < xs.length,(zO6 0<=i∧i < zO6 na)∧0 < xs.length,
  decide (xs.getD i.toNat 0 < ys.getD i.toNat 0)=false,i.toNat < ys.length,(zO6 0<=i∧i < zO6 nb)∧0 < ys.length,i.toNat < xs.length,(zO6 0<=i∧i < zO6 na)∧0 < xs.length,decide (0<=i)=true])
  (by kernel_rfl) ⟨h2,hy.2,hy.1,hx.2,hx.1,h1,hy.2,hy.1,hx.2,hx.1,h0,a6⟩ (by kernel_rfl) (by kernel_rfl)
theorem q1q (h0:decide (0<=i)=true) (hx:inB xs na i) (hy:inB ys nb i) (h1:decide (xs.getD i.toNat 0 < ys.getD i.toNat 0)=false) (h2:decide (ys.getD i.toNat 0 < xs.getD i.toNat 0)=false):u4 XW0 gP (zZ xs ys na nb i) .normal (zZ xs ys na nb (iI.wrap (i-1))):=
 stp B3 10 progOk.mixed [true,false,false] [] (l:=[decide (ys.getD i.toNat 0 < xs.getD i.toNat 0)=false,i.toNat < ys.length,(zO6 0<=i∧i < zO6 nb)∧0 < ys.length,i.toNat < xs.length,(zO6 0<=i∧i < zO6 na)∧0 < xs.length,
  decide (xs.getD i.toNat 0 < ys.getD i.toNat 0)=false,i.toNat < ys.length,(zO6 0<=i∧i < zO6 nb)∧0 < ys.length,i.toNat < xs.length,(zO6 0<=i∧i < zO6 na)∧0 < xs.length,decide (0<=i)=true])
  (by kernel_rfl) ⟨h2,hy.2,hy.1,hx.2,hx.1,h1,hy.2,hy.1,hx.2,hx.1,h0,a6⟩ (by kernel_rfl) (by kernel_rfl)
theorem d2m (h0:decide (0<=i)=false):u4 XW0 gP (zZ xs ys na nb i) (.exit 0) (zZ xs ys na nb i):=
 stp B3 10 progOk.mixed [false] [] (l:=[decide (0<=i)=false]) (by kernel_rfl) ⟨h0,a6⟩
theorem q1h:B2 XW0 [] 200 265 [wS xs,wS ys] [.c (.v (.int .i64 r))] [true] =some [((xs.length:Int) !=ys.length)=true,zO2 .i64 (iI.wrap ((xs.length:Int)-ys.length))=zO2 .i64 r] :=by kernel_rfl
theorem t1c:B2 XW0 [H7 (.exit 0) (fun _=>zZ xs ys na nb i)] 200 265 [wS xs,wS ys] [.c (.v (.int .i64 r))] [false] =some [b9 XW0 gP (m8 XW0 200 265 [wS xs,wS ys] [false]) (.exit 0) (zZ xs ys na nb i),
  ((xs.length:Int) !=ys.length)=false,zO2 .i64 0=zO2 .i64 r] :=by kernel_rfl
theorem t0c (q:Int):B2 XW0 [H7 .ret (fun _=>y1p xs ys na nb q)] 200 265 [wS xs,wS ys] [.c (.v (.int .i64 r))] [false] =some [b9 XW0 gP (m8 XW0 200 265 [wS xs,wS ys] [false]) .ret (y1p xs ys na nb q),
  ((xs.length:Int) !=ys.length)=false,zO2 .i64 q=zO2 .i64 r] :=by kernel_rfl
theorem d0g (x:AX) (s':St) (h:b9 XW0 gP (zZ xs ys xs.length ys.length (iI.wrap ((xs.length:Int)-1))) x s'):b9 XW0 gP (m8 XW0 200 265 [wS xs,wS ys] [false]) x s':=
 l9 h []
end
def mS (xs ys:List Int):Int:=
 if xs.length≠ys.length then (xs.length:Int)-ys.length else if val W64 xs < val W64 ys then -1 else if val W64 ys < val W64 xs then 1 else 0
theorem E4 {l:List Int} {m:Nat} (h:m < l.length):l.drop m=l.getD m 0 ::l.drop (m+1):=by
 rw [y0l h]
 simp [List.getD,h]
theorem e0f {l l':List Int} (hl:Dg W64 l) {m:Nat} (h1:m < l.length) (h2:m < l'.length) (hd:l.drop (m+1)=l'.drop (m+1)) (hlt:l.getD m 0 < l'.getD m 0):val W64 l < val W64 l':=by
 rw [A5 W64 l m (by omega),A5 W64 l' m (by omega),E4 h1,E4 h2,hd]
 simp only [val]
 have a1:=E8 m7 (hl.take m)
 rw [E0,C6 (by omega)] at a1
 have g1:=(hl.get m7 m).1
 have:(l.getD m 0).toNat+1<=(l'.getD m 0).toNat:=by omega
 generalize val W64 (l'.drop (m+1))=D at*
 have a2:W64 ^m*((l.getD m 0).toNat+1+W64*D)<=W64 ^m*((l'.getD m 0).toNat+W64*D):=N0 _ (by omega)
 have a3:W64 ^m*((l.getD m 0).toNat+1+W64*D)=W64 ^m*((l.getD m 0).toNat+W64*D)+W64 ^m:=by rw [Nat.add_right_comm,R4,u9]
 omega
theorem n0i {xs ys:List Int} (hx:Dg W64 xs) (hy:Dg W64 ys) (h1:xs.length < 1099511627776) (h2:ys.length < 1099511627776):
  Ev.Sem zO8 J0 265 [wS xs,wS ys] [.c (.v (.int .i64 (mS xs ys)))] :=by
 by_cases hn:xs.length=ys.length
 case neg=>
  refine l7 B3 10 _ _ (q1h xs ys _) ⟨by simp; omega,?_,a6⟩
  unfold mS
  rw [f9 hn]
  have:=y3 ((xs.length:Int)-ys.length)
  congr 1
  omega
 have hw:∀ m:Nat,m < xs.length->iI.wrap (((m+1:Nat):Int)-1)=(m:Int):=fun m hm=>by
  have:=t8 (n:=m) (by omega)
  rw [<- this]
  congr 1
  omega
 have hw1:iI.wrap ((xs.length:Int)-1)=(xs.length:Int)-1:=by
  have:=y3 ((xs.length:Int)-1)
  omega
 have hws:∀ m:Nat,m < xs.length->iI.wrap ((m:Int)-1)=(m:Int)-1:=fun m hm=>by
  have:=y3 ((m:Int)-1)
  omega
 have step:∀ m,m < xs.length->xs.drop (m+1)=ys.drop (m+1)->
   (val W64 xs < val W64 ys∧u4 XW0 gP (zZ xs ys xs.length ys.length m) .ret (y1p xs ys xs.length ys.length (-1)))∨
   (val W64 ys < val W64 xs∧u4 XW0 gP (zZ xs ys xs.length ys.length m) .ret (y1p xs ys xs.length ys.length 1))∨
   (xs.drop m=ys.drop m∧u4 XW0 gP (zZ xs ys xs.length ys.length m) .normal (zZ xs ys xs.length ys.length ((m:Int)-1))):=by
  intro m hm hd
  have bx:inB xs xs.length (m:Int):=⟨⟨⟨by simp,by simpa using hm⟩,by omega⟩,by simpa using hm⟩
  have bY:inB ys ys.length (m:Int):=⟨⟨⟨by simp,by simp only [B4]; omega⟩,by omega⟩,by simp only [g9]; omega⟩
  rcases Int.lt_trichotomy (xs.getD m 0) (ys.getD m 0) with h | h | h
  ·exact .inl ⟨e0f hx hm (by omega) hd h,p1l xs ys _ _ m (by simp) bx bY (by simpa using h)⟩
  ·right; right
   refine⟨by rw [E4 (l:=xs) (m:=m) hm,E4 (l:=ys) (m:=m) (by omega),h,hd],?_⟩
   have:=q1q xs ys xs.length ys.length m (by simp) bx bY (by simp only [g9,h0p]; omega) (by simp only [g9,h0p]; omega)
   rw [hws m hm] at this
   exact this
  ·exact .inr (.inl ⟨e0f hy (by omega) hm hd.symm h,w1c xs ys _ _ m (by simp) bx bY (by simp only [g9,h0p]; omega) (by simpa using h)⟩)
 have good:∀ m,m<=xs.length->xs.drop m=ys.drop m->
   (val W64 xs < val W64 ys∧b9 XW0 gP (zZ xs ys xs.length ys.length ((m:Int)-1)) .ret (y1p xs ys xs.length ys.length (-1)))∨
   (val W64 ys < val W64 xs∧b9 XW0 gP (zZ xs ys xs.length ys.length ((m:Int)-1)) .ret (y1p xs ys xs.length ys.length 1))∨
   (xs=ys∧b9 XW0 gP (zZ xs ys xs.length ys.length ((m:Int)-1)) (.exit 0) (zZ xs ys xs.length ys.length (-1))):=by
  intro m hm hd
  rcases Z8 (val W64 xs) (val W64 ys) with h | h | h
  ·refine .inl ⟨h,?_⟩
   refine C0 (fun m:Nat=>zZ xs ys xs.length ys.length ((m:Int)-1)) id (fun m=>m<=xs.length∧xs.drop m=ys.drop m) (by intro e; cases e) (fun k hk=> ?_) m ⟨hm,hd⟩
   cases k with
   | zero=>
    have:xs=ys:=by simpa using hk.2
    rw [this] at h
    omega
   | succ k=>
    have e:(((k+1:Nat):Int)-1)=(k:Int):=by omega
    simp only [e]
    rcases step k (by omega) hk.2 with ⟨_,s⟩ | ⟨q,_⟩ | ⟨q,s⟩
    ·exact .inr s
    ·omega
    ·exact .inl ⟨k,⟨by omega,q⟩,Q7 _,s⟩
  ·refine .inr (.inr ?_)
   have he:=X4 m7 hx hy hn h
   refine⟨he,?_⟩
   refine C0 (fun m:Nat=>zZ xs ys xs.length ys.length ((m:Int)-1)) id (fun m=>m<=xs.length∧xs.drop m=ys.drop m) (by intro e; cases e) (fun k hk=> ?_) m ⟨hm,hd⟩
   cases k with
   | zero=>
    right
    exact d2m xs ys xs.length ys.length (-1) (by decide)
   | succ k=>
    have e:(((k+1:Nat):Int)-1)=(k:Int):=by omega
    simp only [e]
    rcases step k (by omega) hk.2 with ⟨q,_⟩ | ⟨q,_⟩ | ⟨q,s⟩
    ·omega
    ·omega
    ·exact .inl ⟨k,⟨by omega,q⟩,Q7 _,s⟩
  ·refine .inr (.inl ⟨h,?_⟩)
   refine C0 (fun m:Nat=>zZ xs ys xs.length ys.length ((m:Int)-1)) id (fun m=>m<=xs.length∧xs.drop m=ys.drop m) (by intro e; cases e) (fun k hk=> ?_) m ⟨hm,hd⟩
   cases k with
   | zero=>
    have:xs=ys:=by simpa using hk.2
    rw [this] at h
    omega
   | succ k=>
    have e:(((k+1:Nat):Int)-1)=(k:Int):=by omega
    simp only [e]
    rcases step k (by omega) hk.2 with ⟨q,_⟩ | ⟨_,s⟩ | ⟨q,s⟩
    ·omega
    ·exact .inr s
    ·exact .inl ⟨k,⟨by omega,q⟩,Q7 _,s⟩
 have hne:((xs.length:Int) !=ys.length)=false:=by simp [hn]
 rcases good xs.length (d9 _) (by rw [vC,hn,vC]) with ⟨h,s⟩ | ⟨h,s⟩ | ⟨h,s⟩
 ·rw [<- hw1] at s
  refine l7 B3 10 _ _ (t0c xs ys _ _ _ (-1)) ⟨d0g xs ys _ _ s,hne,?_,a6⟩
  unfold mS
  rw [a7 (by simp [hn]),f9 h]
 ·rw [<- hw1] at s
  refine l7 B3 10 _ _ (t0c xs ys _ _ _ 1) ⟨d0g xs ys _ _ s,hne,?_,a6⟩
  unfold mS
  rw [a7 (by simp [hn]),a7 (by omega),f9 h]
 ·rw [<- hw1] at s
  refine l7 B3 10 _ _ (t1c xs ys _ _ (-1) _) ⟨d0g xs ys _ _ s,hne,?_,a6⟩
  unfold mS
  rw [a7 (by simp [hn]),a7 (by rw [h]; omega),a7 (by rw [h]; omega)]
abbrev shW:AS:= .c (.s bP .u64)
abbrev shI:AS:= .a [.v, .s bP .u64]
abbrev shV:AS:= .c .v
def g0y (xs ys:List Int):List Int:=dl W64 (1+max xs.length ys.length) (val W64 xs+val W64 ys)
def S6 (xs ys:List Int):List Int:=dl W64 xs.length (val W64 xs-val W64 ys)
def sB:List Arg->Option (List Arg×List Prop)
 | [.c (.s 27 .u64 xs), .c (.s 27 .u64 ys)] =>some ([wS (g0y xs ys)],[Dg W64 xs,Dg W64 ys,xs.length < 1099511627776,ys.length < 1099511627776])
 | _=>none
def mH:List Arg->Option (List Arg×List Prop)
 | [.c (.s 27 .u64 xs), .c (.s 27 .u64 ys)] =>some ([wS (S6 xs ys)],[Dg W64 xs,Dg W64 ys,val W64 ys<=val W64 xs,xs.length < 1099511627776,ys.length<=xs.length])
 | _=>none
def bG:List Arg->Option (List Arg×List Prop)
 | [.c (.s 27 .u64 xs), .c (.s 27 .u64 ys)] =>some ([.c (.v (.int .i64 (mS xs ys)))],[Dg W64 xs,Dg W64 ys,xs.length < 1099511627776,ys.length < 1099511627776])
 | _=>none
theorem xT:∀ az rs l,sB az=some (rs,l)->l5 l->Ev.Sem zO8 J0 269 az rs:=by
 intro az rs l h hl
 unfold sB at h
 split at h
 ·cases h
  obtain⟨h1,h2,h3,h4,_⟩:=hl
  have:=v1n h1 h2 h3 h4
  rw [g0x] at this
  exact this
 ·cases h
theorem qE:∀ az rs l,mH az=some (rs,l)->l5 l->Ev.Sem zO8 J0 270 az rs:=by
 intro az rs l h hl
 unfold mH at h
 split at h
 ·cases h
  obtain⟨h1,h2,h3,h4,h5,_⟩:=hl
  exact l1l h1 h2 h3 h4 h5
 ·cases h
theorem gF:∀ az rs l,bG az=some (rs,l)->l5 l->Ev.Sem zO8 J0 265 az rs:=by
 intro az rs l h hl
 unfold bG at h
 split at h
 ·cases h
  obtain⟨h1,h2,h3,h4,_⟩:=hl
  exact n0i h1 h2 h3 h4
 ·cases h
def l0o:iV:=o8 195 jG (o8 269 (A3 [shW,shW] sB) (o8 270 (A3 [shW,shW] mH) (o8 265 (A3 [shW,shW] bG) I4)))
theorem mE:iS zO8 J0 l0o:=j0 gR (j0 (m9 _ xT) (j0 (m9 _ qE) (j0 (m9 _ gF) (v6 _ _))))
def bW1:Base:=⟨zO8,J0,false,t1d,l0o,200,L7⟩
theorem jA:BaseOk bW1:=⟨progOk,e0a,mE,r5⟩
abbrev XW1:Cx:=bW1.cx 10
abbrev iN (neg:Bool) (m:Nat):Arg:= .a [.v (.bool neg), .s bP .u64 (ws W64 m)]
abbrev a1g:AS:= .c (.s mW .u32)
def mY (n:Int):List Int:=ws W32 n.toNat
def tmX (xs:List Int) (k c:Int):List Int:=ws W32 (val W32 xs*k.toNat+c.toNat)
def tmP (xs:List Int) (k c:Int):Prop:=Dg W32 xs∧xs.length < 1099511627∧(0<=k∧k < 4294967296)∧0<=c∧c < 4294967296
def n0g:List Arg->Option (List Arg×List Prop)
 | [.c (.v (.int .u64 n))] =>some ([nL (mY n)],[0<=n∧n < 18446744073709551616])
 | _=>none
def j1s:List Arg->Option (List Arg×List Prop)
 | [.c (.s 33 .u32 xs), .c (.v (.int .u32 k)), .c (.v (.int .u32 c))] =>some ([nL (tmX xs k c)],[tmP xs k c])
 | _=>none
theorem z0t:∀ az rs l,n0g az=some (rs,l)->l5 l->Ev.Sem zO8 J0 158 az rs:=by
 intro az rs l h hl
 unfold n0g at h
 split at h
 ·rename_i n
  cases h
  obtain⟨⟨h1,h2⟩,_⟩:=hl
  have:=d2e (n:=n.toNat) (by omega)
  rw [I8 h1] at this
  exact this
 ·cases h
theorem g1s:∀ az rs l,j1s az=some (rs,l)->l5 l->Ev.Sem zO8 J0 159 az rs:=by
 intro az rs l h hl
 unfold j1s at h
 split at h
 ·rename_i xs k c
  cases h
  obtain⟨⟨h1,h2,⟨h3,h4⟩,h5,h6⟩,_⟩:=hl
  have:=i1s (xs:=xs) (k:=k.toNat) (c:=c.toNat) h1 rfl (by show k.toNat < 4294967296; omega) (by show c.toNat < 4294967296; omega) h2
  rw [I8 h3,I8 h5] at this
  exact this
 ·cases h
def p0p:iV:=o8 159 (A3 [a1g,shV,shV] j1s) (o8 158 (A3 [shV] n0g) m0u)
theorem b0z:iS zO8 J0 p0p:=j0 (m9 _ g1s) (j0 (m9 _ z0t) b0y)
def bRn2:Base:=⟨zO8,J0,false,rH,p0p,200,L7⟩
theorem x8:BaseOk bRn2:=⟨progOk,M6,b0z,r5⟩
abbrev C4:=bRn2.cx 10
abbrev iL (neg:Bool) (xs:List Int):Arg:= .a [.v (.bool neg), .s bP .u64 xs]
abbrev iR (r:Int):Arg:= .c (.v (.int .i64 r))
abbrev uR (r:Int):Arg:= .c (.v (.int .u64 r))
theorem u1z (n:Int) (s:Bool) (R:List Int):B2 XW1 [] 200 124 [uR n] [iL s R] [] =some [1<=1∧1<=1∧1 < 1099511627776,zO9 false=zO9 s,(n8 [n]).length=R.length∧(n8 [n]).length<=1∧zO10 (n8 [n]).length [n] =R∧1=1∧1<=9223372036854775807] :=by kernel_rfl
theorem v1g (a b s:Bool) (xs ys R:List Int):B2 XW1 [] 200 205 [iL a xs,iL b ys] [iL s R] [true] =some [0=0∧0+(g0y xs ys).length<=(g0y xs ys).length∧(g0y xs ys).length < 1099511627776,xs.length=xs.length,ys.length=ys.length,Dg 18446744073709551616 xs,Dg 18446744073709551616 ys,xs.length < 1099511627776,ys.length < 1099511627776,(a==b)=true,zO9 (a && decide (0 < (n8 (zO10 (g0y xs ys).length (List.drop 0 (g0y xs ys)))).length))=zO9 s,(n8 (zO10 (g0y xs ys).length (List.drop 0 (g0y xs ys)))).length=R.length∧(n8 (zO10 (g0y xs ys).length (List.drop 0 (g0y xs ys)))).length<=(g0y xs ys).length∧zO10 (n8 (zO10 (g0y xs ys).length (List.drop 0 (g0y xs ys)))).length (g0y xs ys)=R] :=by kernel_rfl
theorem q1m (a b s:Bool) (xs ys R:List Int):B2 XW1 [] 200 205 [iL a xs,iL b ys] [iL s R] [false,true] =some [0=0∧0+(S6 xs ys).length<=(S6 xs ys).length∧(S6 xs ys).length < 1099511627776,xs.length=xs.length,ys.length=ys.length,Dg 18446744073709551616 xs,Dg 18446744073709551616 ys,val 18446744073709551616 ys<=val 18446744073709551616 xs,xs.length < 1099511627776,ys.length<=xs.length,decide (zO6 0<=mS xs ys)=true,xs.length=xs.length,ys.length=ys.length,Dg 18446744073709551616 xs,Dg 18446744073709551616 ys,xs.length < 1099511627776,ys.length < 1099511627776,(a==b)=false,zO9 (a && decide (0 < (n8 (zO10 (S6 xs ys).length (List.drop 0 (S6 xs ys)))).length))=zO9 s,(n8 (zO10 (S6 xs ys).length (List.drop 0 (S6 xs ys)))).length=R.length∧(n8 (zO10 (S6 xs ys).length (List.drop 0 (S6 xs ys)))).length<=(S6 xs ys).length∧zO10 (n8 (zO10 (S6 xs ys).length (List.drop 0 (S6 xs ys)))).length (S6 xs ys)=R] :=by kernel_rfl
theorem v1h (a b s:Bool) (xs ys R:List Int):B2 XW1 [] 200 205 [iL a xs,iL b ys] [iL s R] [false,false] =some [0=0∧0+(S6 ys xs).length<=(S6 ys xs).length∧(S6 ys xs).length < 1099511627776,ys.length=ys.length,xs.length=xs.length,Dg 18446744073709551616 ys,Dg 18446744073709551616 xs,val 18446744073709551616 xs<=val 18446744073709551616 ys,ys.length < 1099511627776,xs.length<=ys.length,decide (zO6 0<=mS xs ys)=false,xs.length=xs.length,ys.length=ys.length,Dg 18446744073709551616 xs,Dg 18446744073709551616 ys,xs.length < 1099511627776,ys.length < 1099511627776,(a==b)=false,zO9 (b && decide (0 < (n8 (zO10 (S6 ys xs).length (List.drop 0 (S6 ys xs)))).length))=zO9 s,(n8 (zO10 (S6 ys xs).length (List.drop 0 (S6 ys xs)))).length=R.length∧(n8 (zO10 (S6 ys xs).length (List.drop 0 (S6 ys xs)))).length<=(S6 ys xs).length∧zO10 (n8 (zO10 (S6 ys xs).length (List.drop 0 (S6 ys xs)))).length (S6 ys xs)=R] :=by kernel_rfl
theorem n1d (a:Bool) (xs:List Int) (r:Int):B2 XW1 [] 200 224 [iL a xs] [iR r] [true] =some [(zO6 xs.length==zO6 0)=true,zO2 iI (zO6 0)=zO2 iI r] :=by kernel_rfl
theorem k1h (a:Bool) (xs:List Int) (r:Int):B2 XW1 [] 200 224 [iL a xs] [iR r] [false,true] =some [a=true,(zO6 xs.length==zO6 0)=false,zO2 iI (Int.negSucc 0)=zO2 iI r] :=by kernel_rfl
theorem b1g (a:Bool) (xs:List Int) (r:Int):B2 XW1 [] 200 224 [iL a xs] [iR r] [false,false] =some [a=false,(zO6 xs.length==zO6 0)=false,zO2 iI (zO6 1)=zO2 iI r] :=by kernel_rfl
theorem s1c (a:Bool) (xs:List Int) (r:Int):B2 XW1 [] 200 172 [iL a xs] [uR r] [true] =some [(zO6 xs.length==zO6 0)=true,zO2 uI (zO6 0)=zO2 uI r] :=by kernel_rfl
theorem u1o (a:Bool) (xs:List Int) (r:Int):B2 XW1 [] 200 172 [iL a xs] [uR r] [false] =some [0 < xs.length,(zO6 0<=zO6 0∧zO6 0 < zO6 xs.length)∧0 < xs.length,(zO6 xs.length==zO6 0)=false,zO2 uI (xs.getD 0 (zO6 0))=zO2 uI r] :=by kernel_rfl
abbrev wl (m:Nat):Nat:=(ws W64 m).length
theorem j0n (m:Nat):Dg W64 (ws W64 m):=j0a F5 m
theorem B5 (m:Nat):val W64 (ws W64 m)=m:=x6 F5 m
theorem g0p {n m:Nat} (h:m < W64 ^n):n8 (dl W64 n m)=ws W64 m:=by rw [E1 F5 (Q0 m7 n m),H5,G7 h]
theorem wl_le {m n:Nat} :wl m<=n↔m < W64 ^n:=F1 F5 m n
theorem wl_pos {m:Nat} :0 < wl m↔0 < m:=by
 have:=k0p F5 (m:=m)
 show 0 < (ws W64 m).length↔0 < m
 omega
theorem gU {a b:Nat} (h:a<=b):wl a<=wl b:=wl_le.2 (D7 h (wl_le.1 (d9 _)))
theorem d0e {m n:Nat} (h:m<=n):W64 ^m<=W64 ^n:=y5 m7 h
theorem n0l (m:Nat):m < W64 ^wl m:=wl_le.1 (d9 _)
theorem j2o (a b:Nat):wl (a+b)<=max (wl a) (wl b)+1:=by
 rw [wl_le,y8]
 have h1:=C8 (n0l a) (d0e (Nat.le_max_left (wl a) (wl b)))
 have h2:=C8 (n0l b) (d0e (Nat.le_max_right (wl a) (wl b)))
 generalize W64 ^max (wl a) (wl b)=p at*
 show a+b < p*18446744073709551616
 omega
theorem k2h (a b:Nat):a+b < W64 ^(1+max (wl a) (wl b)):=by
 have:=j2o a b
 rw [g0x (max (wl a) (wl b))] at this
 exact wl_le.1 this
theorem c1n (a b:Nat):wl (a*b)<=wl a+wl b:=by
 rw [wl_le,n9]
 exact vK (n0l a) (n0l b)
theorem t0g (a b:Nat):n8 (g0y (ws W64 a) (ws W64 b))=ws W64 (a+b):=by
 unfold g0y
 rw [B5,B5]
 exact g0p (k2h a b)
theorem rX (a b:Nat):n8 (S6 (ws W64 a) (ws W64 b))=ws W64 (a-b):=by
 unfold S6
 rw [B5,B5]
 exact g0p (D7 (Nat.sub_le a b) (n0l a))
theorem s1p (a b:Nat):(g0y (ws W64 a) (ws W64 b)).length=1+max (wl a) (wl b):=by unfold g0y; rw [l4]
theorem r0y (a b:Nat):(S6 (ws W64 a) (ws W64 b)).length=wl a:=by unfold S6; rw [l4]
theorem r2m {a b:Nat} (h:wl a < wl b):a < b:=by
 rcases J4 a b with h' | h'
 ·exact h'
 ·have:=gU h'
  omega
theorem rM (a b:Nat):0<=mS (ws W64 a) (ws W64 b)↔b<=a:=by
 unfold mS
 rw [B5,B5]
 split
 ·rename_i h
  constructor
  ·intro h2
   have:wl b < wl a:=by show (ws W64 b).length < (ws W64 a).length; omega
   have:=r2m this
   omega
  ·intro h2
   have:wl b<=wl a:=gU h2
   have:(ws W64 b).length<=(ws W64 a).length:=this
   omega
 ·split
  ·constructor <;> intro h <;> omega
  ·split <;> constructor <;> intro h <;> omega
theorem q1r (a b:Nat):mS (ws W64 a) (ws W64 b) < 0↔a < b:=by
 have:=rM a b
 omega
theorem L8 {l:List Int} {m:Nat} (h:n8 l=ws W64 m):(n8 l).length=(ws W64 m).length∧(n8 l).length<=l.length∧l.take (n8 l).length=ws W64 m:=by
 refine⟨by rw [h],B6 l,?_⟩
 have key:∀ (l:List Int),l.take (n8 l).length=n8 l:=by
  intro l
  induction hn:l.length generalizing l with
  | zero=>have:=cJ hn; subst this; rfl
  | succ n ih=>
   have hne:l≠[] :=by intro e; subst e; cases hn
   obtain⟨m,x,rfl⟩:∃ m x,l=m++[x] :=⟨l.dropLast,l.getLast hne,(List.dropLast_concat_getLast hne).symm⟩
   rw [K5]
   split
   ·rw [s0c (B6 m)]
    exact ih m (by simp at hn; omega)
   ·exact r8
 rw [key,h]
theorem v1u (n:Nat) (hn:n < W64):Ev.Sem zO8 J0 124 [uR n] [iN false n] :=by
 have ht:n8 [(n:Int)] =ws W64 n:=by
  have hd:Dg W64 [(n:Int)] :=Dg.cons ⟨by omega,by exact_mod_cast hn⟩ (Dg.nil _)
  rw [E1 F5 hd]
  simp [val]
 refine l7 jA 10 _ _ (u1z n false (ws W64 n)) ⟨⟨by omega,by omega,by omega⟩,rfl,⟨by rw [ht],?_,?_,rfl,by omega⟩,a6⟩
 ·have:=B6 [(n:Int)]
  simpa using this
 ·rw [ht]
  by_cases h0:n=0
  ·subst h0; rfl
  ·rw [h0q F5 (by omega),G7 hn,mK hn,g0d]
   rfl
def y1u (a b:Bool) (A B:Nat):Nat:=if a=b then A+B else if B<=A then A-B else B-A
def z1d (a b:Bool) (A B:Nat):Bool:=if a=b then a && decide (0 < A+B) else if B<=A then a && decide (0 < A-B) else b && decide (0 < B-A)
theorem y0w (l:List Int):zO10 l.length (List.drop 0 l)=l:=by simp
theorem z1y (a b:Bool) {A B:Nat} (hA:wl A < 549755813888) (hB:wl B < 549755813888):Ev.Sem zO8 J0 205 [iN a A,iN b B] [iN (z1d a b A B) (y1u a b A B)] :=by
 have hA:(ws W64 A).length < 549755813888:=hA
 have hB:(ws W64 B).length < 549755813888:=hB
 by_cases hab:a=b
 ·have e1:y1u a b A B=A+B:=f9 hab
  have e2:z1d a b A B=(a && decide (0 < A+B)):=f9 hab
  rw [e1,e2]
  obtain⟨q1,q2,q3⟩:=L8 (t0g A B)
  have hlen:=s1p A B
  refine l7 jA 10 _ _ (v1g a b _ (ws W64 A) (ws W64 B) (ws W64 (A+B))) ⟨⟨rfl,by omega,by rw [hlen]; omega⟩,rfl,rfl,j0n A,j0n B,by omega,by omega,by simpa using hab,?_,?_,a6⟩
  ·rw [y0w,t0g]
   have:=wl_pos (m:=A+B)
   congr 2
   simp only [zzA179]
   exact this
  ·rw [y0w]
   exact⟨q1,q2,q3⟩
 ·by_cases hle:B<=A
  ·have e1:y1u a b A B=A-B:=by unfold y1u; rw [a7 hab,f9 hle]
   have e2:z1d a b A B=(a && decide (0 < A-B)):=by unfold z1d; rw [a7 hab,f9 hle]
   rw [e1,e2]
   obtain⟨q1,q2,q3⟩:=L8 (rX A B)
   have hlen:=r0y A B
   have hl:(ws W64 B).length<=(ws W64 A).length:=gU hle
   refine l7 jA 10 _ _ (q1m a b _ (ws W64 A) (ws W64 B) (ws W64 (A-B))) ⟨⟨rfl,by omega,by rw [hlen]; omega⟩,rfl,rfl,j0n A,j0n B,by rw [B5,B5]; exact hle,by omega,hl,?_,rfl,rfl,j0n A,j0n B,by omega,by omega,by simpa using hab,?_,?_,a6⟩
   ·simpa using (rM A B).2 hle
   ·rw [y0w,rX]
    have:=wl_pos (m:=A-B)
    congr 2
    simp only [zzA179]
    exact this
   ·rw [y0w]
    exact⟨q1,q2,q3⟩
  ·have e1:y1u a b A B=B-A:=by unfold y1u; rw [a7 hab,a7 hle]
   have e2:z1d a b A B=(b && decide (0 < B-A)):=by unfold z1d; rw [a7 hab,a7 hle]
   rw [e1,e2]
   obtain⟨q1,q2,q3⟩:=L8 (rX B A)
   have hlen:=r0y B A
   have hl:(ws W64 A).length<=(ws W64 B).length:=gU (by omega)
   refine l7 jA 10 _ _ (v1h a b _ (ws W64 A) (ws W64 B) (ws W64 (B-A))) ⟨⟨rfl,by omega,by rw [hlen]; omega⟩,rfl,rfl,j0n B,j0n A,by rw [B5,B5]; omega,by omega,hl,?_,rfl,rfl,j0n A,j0n B,by omega,by omega,by simpa using hab,?_,?_,a6⟩
   ·have:=rM A B
    simp only [h0p]
    exact fun h=>hle (this.1 h)
   ·rw [y0w,rX]
    have:=wl_pos (m:=B-A)
    congr 2
    simp only [zzA179]
    exact this
   ·rw [y0w]
    exact⟨q1,q2,q3⟩
def z1k (a:Bool) (A:Nat):Int:=if A=0 then 0 else if a then -1 else 1
theorem r1m (a:Bool) (A:Nat):Ev.Sem zO8 J0 224 [iN a A] [iR (z1k a A)] :=by
 have h0:=k0p F5 (m:=A)
 unfold z1k
 by_cases hA:A=0
 ·rw [f9 hA]
  exact l7 jA 10 _ _ (n1d a (ws W64 A) 0) ⟨by have:=h0.2 hA; simp [this],rfl,a6⟩
 ·have hne:(zO6 (ws W64 A).length==zO6 0)=false:=by
   have:(ws W64 A).length≠0:=fun e=>hA (h0.1 e)
   simpa using this
  rw [a7 hA]
  cases a
  ·exact l7 jA 10 _ _ (b1g false (ws W64 A) 1) ⟨rfl,hne,rfl,a6⟩
  ·exact l7 jA 10 _ _ (k1h true (ws W64 A) (-1)) ⟨rfl,hne,rfl,a6⟩
theorem f1u (a:Bool) (A:Nat):Ev.Sem zO8 J0 172 [iN a A] [uR ((A%W64:Nat):Int)] :=by
 have h0:=k0p F5 (m:=A)
 by_cases hA:A=0
 ·refine l7 jA 10 _ _ (s1c a (ws W64 A) _) ⟨by have:=h0.2 hA; simp [this],?_,a6⟩
  rw [hA]
  rfl
 ·have hp:0 < (ws W64 A).length:=by omega
  refine l7 jA 10 _ _ (u1o a (ws W64 A) _) ⟨hp,⟨⟨by simp,by simpa using hp⟩,hp⟩,by have:(ws W64 A).length≠0:=(by omega); simpa using this,?_,a6⟩
  have:=m0s F5 A 0
  have e:(ws W64 A).getD 0 (zO6 0)=(ws W64 A).getD 0 0:=rfl
  rw [e,this]
  simp [dig]
def cTe:Code:=z8 zO8 163 0
def cTo:Code:=z8 zO8 163 1
def tTe (n:Int) (xs:List Int) (nx:Nat):St:=⟨only 18 [(0, .int .i64 n),(3, .slice (some ⟨11,0,some 12⟩) nx 0)],[(11, .row mW 1 (.ints .u32 xs) 12)],13,[],[],0,none,[],11⟩
abbrev teX (xs:List Int) (nx:Nat) (k:Int):List Int:=tmX (xs.take nx) k 0
section
variable (n m:Int) (xs ys R:List Int) (nx ny:Nat)
theorem a3b (hl:l5 [nx<=xs.length,tmP (xs.take nx) 1000000000 0,decide (n>=9)=true]):u4 C4 cTe (tTe n xs nx) .normal (tTe (iI.wrap (n-9)) (teX xs nx 1000000000) (teX xs nx 1000000000).length):=
 stp x8 10 progOk.mixed [true] [(11,13),(12,14)] (by kernel_rfl) hl
theorem l2u (hl:l5 [decide (n>=9)=false]):u4 C4 cTe (tTe n xs nx) (.exit 0) (tTe n xs nx):=
 stp x8 10 progOk.mixed [false] [] (by kernel_rfl) hl
theorem x2p (hl:l5 [nx<=xs.length,tmP (xs.take nx) 10 0,decide (n > 0)=true]):u4 C4 cTo (tTe n xs nx) .normal (tTe (iI.wrap (n-1)) (teX xs nx 10) (teX xs nx 10).length):=
 stp x8 10 progOk.mixed [true] [(11,13),(12,14)] (by kernel_rfl) hl
theorem q2t (hl:l5 [decide (n > 0)=false]):u4 C4 cTo (tTe n xs nx) (.exit 2) (tTe n xs nx):=
 stp x8 10 progOk.mixed [false] [] (by kernel_rfl) hl
theorem a2d {x:AX} {s':St} (h:b9 C4 cTe (tTe n (mY 1) (mY 1).length) x s'):b9 C4 cTe (m8 C4 200 163 [iR n] []) x s':=
 l9 h []
theorem r2t:B2 C4 [H7 (.exit 0) (fun _=>tTe m xs nx),H7 (.exit 2) (fun _=>tTe 0 ys ny)] 200 163 [iR n] [nL R] [] =some [b9 C4 cTo (tTe m xs nx) (.exit 2) (tTe 0 ys ny),b9 C4 cTe (m8 C4 200 163 [iR n] []) (.exit 0) (tTe m xs nx),(0:Int)<=1∧(1:Int) < 18446744073709551616,ny=R.length∧ny<=ys.length∧ys.take ny=R] :=by kernel_rfl
end
theorem r2r (A k:Nat):teX (ws W32 A) (ws W32 A).length (k:Int)=ws W32 (A*k):=by
 show tmX ((ws W32 A).take (ws W32 A).length) (k:Int) 0=_
 rw [r8]
 unfold tmX
 rw [x6 n4]
 rfl
theorem o2r (n:Nat):10 ^n < W32 ^(n+1):=by
 have h1:10 ^n<=W32 ^n:=xF (by decide) n
 have h2:W32 ^n < W32 ^(n+1):=c0b (by decide) (Q7 n)
 omega
theorem r2l (n:Nat):(ws W32 (10 ^n)).length<=n+1:=(F1 n4 _ _).2 (o2r n)
theorem n2v {n:Nat} (k:Int) (hn:n<=1000000) (hk:0<=k∧k < 4294967296):tmP ((ws W32 (10 ^n)).take (ws W32 (10 ^n)).length) k 0:=by
 rw [r8]
 have:=r2l n
 exact⟨j0a n4 _,by omega,hk,by omega,by omega⟩
def teS (n:Int) (j:Nat):St:=tTe n (ws W32 (10 ^j)) (ws W32 (10 ^j)).length
theorem m2p {n:Int} {j:Nat} (hn:9<=n∧n<=1000000) (hj:j<=1000000):u4 C4 cTe (teS n j) .normal (teS (n-9) (j+9)):=by
 have h:=a3b n (ws W32 (10 ^j)) (ws W32 (10 ^j)).length ⟨d9 _,n2v 1000000000 hj ⟨by decide,by decide⟩,i6 hn.1,a6⟩
 have hw:iI.wrap (n-9)=n-9:=by have:=y3 (n-9); omega
 have ht:=r2r (10 ^j) 1000000000
 rw [show (10:Nat) ^j*1000000000=10 ^(j+9) by rw [n9]] at ht
 rw [show ((1000000000:Nat):Int)=1000000000 from rfl] at ht
 rw [hw,ht] at h
 exact h
theorem k2e {n:Int} {j:Nat} (hn:0 < n∧n<=1000000) (hj:j<=1000000):u4 C4 cTo (teS n j) .normal (teS (n-1) (j+1)):=by
 have h:=x2p n (ws W32 (10 ^j)) (ws W32 (10 ^j)).length ⟨d9 _,n2v 10 hj ⟨by decide,by decide⟩,i6 hn.1,a6⟩
 have hw:iI.wrap (n-1)=n-1:=by have:=y3 (n-1); omega
 have ht:=r2r (10 ^j) 10
 rw [show (10:Nat) ^j*10=10 ^(j+1) from rfl] at ht
 rw [show ((10:Nat):Int)=10 from rfl] at ht
 rw [hw,ht] at h
 exact h
theorem p1m {n:Nat} (hn:n<=100000):Ev.Sem zO8 J0 163 [iR (n:Int)] [nL (ws W32 (10 ^n))] :=by
 have e0:tTe (n:Int) (mY 1) (mY 1).length=teS (n:Int) 0:=rfl
 have l1:b9 C4 cTe (teS (n:Int) 0) (.exit 0) (teS ((n%9:Nat):Int) (9*(n/9))):=by
  have h:=x5 (X:=C4) (c:=cTe) (fun j=>teS ((n:Int)-9*(j:Int)) (9*j)) (n/9) (x:= .exit 0) (s':=teS ((n%9:Nat):Int) (9*(n/9))) (by intro e; cases e) (fun j hj=>by
   have:=m2p (n:=(n:Int)-9*(j:Int)) (j:=9*j) ⟨by omega,by omega⟩ (by omega)
   rw [show (n:Int)-9*(j:Int)-9=(n:Int)-9*((j+1:Nat):Int) by omega,show 9*j+9=9*(j+1) by omega] at this
   exact this) (by
   rw [show (n:Int)-9*((n/9:Nat):Int)=((n%9:Nat):Int) by omega]
   exact l2u _ _ _ ⟨d8 (by omega),a6⟩)
  rw [show (n:Int)-9*((0:Nat):Int)=(n:Int) by omega,lM] at h
  exact h
 have l2:b9 C4 cTo (teS ((n%9:Nat):Int) (9*(n/9))) (.exit 2) (teS 0 n):=by
  have h:=x5 (X:=C4) (c:=cTo) (fun j=>teS (((n%9:Nat):Int)- (j:Int)) (9*(n/9)+j)) (n%9) (x:= .exit 2) (s':=teS 0 n) (by intro e; cases e) (fun j hj=>by
   have:=k2e (n:=((n%9:Nat):Int)- (j:Int)) (j:=9*(n/9)+j) ⟨by omega,by omega⟩ (by omega)
   rw [show ((n%9:Nat):Int)- (j:Int)-1=((n%9:Nat):Int)- ((j+1:Nat):Int) by omega] at this
   exact this) (by
   rw [show ((n%9:Nat):Int)- ((n%9:Nat):Int)=0 by omega,show 9*(n/9)+n%9=n by omega]
   exact q2t _ _ _ ⟨d8 (by decide),a6⟩)
  rw [show ((n%9:Nat):Int)- ((0:Nat):Int)=((n%9:Nat):Int) by omega,I1] at h
  exact h
 exact l7 x8 10 _ _ (r2t (n:Int) ((n%9:Nat):Int) (ws W32 (10 ^(9*(n/9)))) (ws W32 (10 ^n)) (ws W32 (10 ^n)) (ws W32 (10 ^(9*(n/9)))).length (ws W32 (10 ^n)).length) ⟨l2,a2d _ (by rw [e0]; exact l1),⟨by decide,by decide⟩,⟨rfl,d9 _,r8⟩,a6⟩
def cHa:Code:=z8 zO8 284 0
def tHa (xs L:List Int) (i:Int) (nx nl:Nat):St:=⟨only 41 [(0, .slice (some ⟨11,0,some 12⟩) nx 0),(3, .slice (some ⟨13,0,some 14⟩) nl 0),(4, .int .i64 i)],[(13, .row mW 1 (.ints .u32 L) 14),(11, .ints .u32 xs)],15,[],[],0,none,[],13⟩
abbrev haL (xs L:List Int) (i:Nat):List Int:=S5 L (s4 0 i) ((xs.getD (s4 0 i) 0).fdiv 2)
abbrev haO (xs L:List Int) (i:Nat):Int:=((zO11 uJ.bits ((haL xs L i).getD (s4 0 i) 0)||| zO11 uJ.bits (uJ.wrap (xs.getD (s4 0 (iI.wrap ((i:Int)+1)).toNat) 0*2147483648))).toNat:Int)
section
variable (xs L R:List Int) (i nx nl:Nat)
abbrev haP (xs L:List Int) (i nx nl:Nat):List Prop:=[s4 0 i < L.length,((0:Int)<=i∧(i:Int) < nl)∧0 < L.length,s4 0 i < xs.length,((0:Int)<=i∧(i:Int) < nx)∧0 < xs.length,decide ((i:Int) < (nx:Int))=true]
theorem z1w (hl:l5 ([decide (iI.wrap ((i:Int)+1) < (nx:Int))=false] ++haP xs L i nx nl)):u4 C4 cHa (tHa xs L i nx nl) .normal (tHa xs (haL xs L i) (iI.wrap ((i:Int)+1)) nx nl):=
 stp x8 10 progOk.mixed [true,false] [] (by kernel_rfl) hl
theorem j2e (hl:l5 [decide ((i:Int) < (nx:Int))=false]):u4 C4 cHa (tHa xs L i nx nl) (.exit 0) (tHa xs L i nx nl):=
 stp x8 10 progOk.mixed [false] [] (by kernel_rfl) hl
theorem z2l (hl:l5 ([s4 0 i < (haL xs L i).length,((0:Int)<=i∧(i:Int) < nl)∧0 < (haL xs L i).length,s4 0 (iI.wrap ((i:Int)+1)).toNat < xs.length,(0<=iI.wrap ((i:Int)+1)∧iI.wrap ((i:Int)+1) < (nx:Int))∧0 < xs.length,s4 0 i < (haL xs L i).length,((0:Int)<=i∧(i:Int) < nl)∧0 < (haL xs L i).length,decide (iI.wrap ((i:Int)+1) < (nx:Int))=true] ++haP xs L i nx nl)):u4 C4 cHa (tHa xs L i nx nl) .normal (tHa xs (S5 (haL xs L i) (s4 0 i) (uJ.wrap (haO xs L i))) (iI.wrap ((i:Int)+1)) nx nl):=
 stp x8 10 progOk.mixed [true,true] [] (by kernel_rfl) hl
theorem q2b:B2 C4 [H7 (.exit 0) (fun _=>tHa xs L (nx:Int) nx nl)] 200 284 [nL xs] [nL R] [] =some [0=0∧0+nl<=L.length∧L.length < 1099511627776,b9 C4 cHa (m8 C4 200 284 [nL xs] []) (.exit 0) (tHa xs L (nx:Int) nx nl),0<=(xs.length:Int)∧(xs.length:Int)=(xs.length:Int)∧4*(xs.length:Int)<=281474976710656∧(xs.length:Int)<=9223372036854775807,(n8 ((L.drop 0).take nl)).length=R.length∧(n8 ((L.drop 0).take nl)).length<=L.length∧L.take (n8 ((L.drop 0).take nl)).length=R] :=by kernel_rfl
theorem g2o {x:AX} {s':St} (h:b9 C4 cHa (tHa xs (zO7 (xs.length:Int).toNat 0) ((0:Nat):Int) xs.length (xs.length:Int).toNat) x s'):b9 C4 cHa (m8 C4 200 284 [nL xs] []) x s':=
 l9 h []
end
theorem a0y {k:Nat} (h:k < 4294967296):(zO11 uJ.bits (k:Int)).toNat=k:=by
 rw [BitVec.toNat_ofInt]
 show ((k:Int)%((4294967296:Nat):Int)).toNat=k
 omega
theorem c3n {a b:Nat} (hb:b < 2147483648):(b||| 2147483648*a)=2147483648*a+b:=by
 rw [wL]
 exact (wU (i:=31) hb a).symm
theorem q1f (A i:Nat):dig W32 (A/2) i=dig W32 A i/2+2147483648*(dig W32 A (i+1)%2):=by
 unfold dig
 rw [P0,t7 2,<- P0,y8,<- P0]
 generalize A/W32 ^i=B
 show B/2%4294967296=B%4294967296/2+2147483648*(B/4294967296%4294967296%2)
 omega
def haR (A n i:Nat):List Int:=dl W32 i (A/2)++zO7 (n-i) 0
def haS (xs:List Int) (A i:Nat):St:=tHa xs (haR A xs.length i) (i:Int) xs.length xs.length
theorem b2z {A n i:Nat} (h:i<=n):(haR A n i).length=n:=by
 unfold haR
 rw [G8,l4,bH]
 omega
theorem e2g {xs:List Int} {A i:Nat} (hx:Dg W32 xs) (hA:val W32 xs=A) (hl:xs.length < 1099511627776) (hi:i < xs.length):u4 C4 cHa (haS xs A i) .normal (haS xs A (i+1)):=by
 have hg:∀ j,xs.getD j 0=(dig W32 A j:Int):=fun j=>by rw [B1 l6 hx j,hA]
 have hd:dig W32 A i < 4294967296:=D6 l6 A i
 have hd2:dig W32 A (i+1) < 4294967296:=D6 l6 A (i+1)
 have hlen:=b2z (A:=A) (K1 hi)
 have hL:haL xs (haR A xs.length i) i=dl W32 i (A/2)++((dig W32 A i/2:Nat):Int) ::zO7 (xs.length- (i+1)) 0:=by
  show S5 (haR A xs.length i) (s4 0 i) ((xs.getD (s4 0 i) 0).fdiv 2)=_
  rw [A0,q9,I0,hg,show ((dig W32 A i:Nat):Int).fdiv 2=((dig W32 A i/2:Nat):Int) from (qF _ 2).symm]
  unfold haR
  rw [show xs.length-i=(xs.length- (i+1))+1 by omega,xW,uQ]
 have hLl:(haL xs (haR A xs.length i) i).length=xs.length:=by
  rw [hL,G8,l4,A4,bH]
  omega
 have hw:iI.wrap ((i:Int)+1)=((i+1:Nat):Int):=a1n (by omega)
 have hp:l5 (haP xs (haR A xs.length i) i xs.length xs.length):=⟨by rw [hlen,q9]; omega,⟨⟨by omega,by omega⟩,by rw [hlen]; omega⟩,by rw [q9]; omega,⟨⟨by omega,by omega⟩,by omega⟩,i6 (by omega),a6⟩
 have hnext:haR A xs.length (i+1)=dl W32 i (A/2)++((dig W32 A i/2+2147483648*(dig W32 A (i+1)%2):Nat):Int) ::zO7 (xs.length- (i+1)) 0:=by
  unfold haR
  rw [cP W32 l6,q1f,lU,kK]
 unfold haS
 by_cases h1:i+1 < xs.length
 ·have hs:=z2l xs (haR A xs.length i) i xs.length xs.length ((a8 _ _).2 ⟨⟨by rw [hLl,q9]; omega,⟨⟨by omega,by omega⟩,by rw [hLl]; omega⟩,by rw [hw,q9]; omega,by rw [hw]; exact⟨⟨by omega,by omega⟩,by omega⟩,by rw [hLl,q9]; omega,⟨⟨by omega,by omega⟩,by rw [hLl]; omega⟩,i6 (by rw [hw]; omega),a6⟩,hp⟩)
  have hO:haO xs (haR A xs.length i) i=((2147483648*(dig W32 A (i+1)%2)+dig W32 A i/2:Nat):Int):=by
   show ((zO11 uJ.bits ((haL xs (haR A xs.length i) i).getD (s4 0 i) 0)||| zO11 uJ.bits (uJ.wrap (xs.getD (s4 0 (iI.wrap ((i:Int)+1)).toNat) 0*2147483648))).toNat:Int)=_
   rw [hw,q9,I0,q9,I0,hL,bD,e0d (by rw [l4]; exact d9 _),l4,L0]
   rw [show (((i+1:Nat):Int).toNat)=i+1 from rfl,hg (i+1)]
   show ((zO11 uJ.bits ((dig W32 A i/2:Nat):Int)||| zO11 uJ.bits (uJ.wrap (((dig W32 A (i+1):Nat):Int)*2147483648))).toNat:Int)=_
   have hm:uJ.wrap (((dig W32 A (i+1):Nat):Int)*2147483648)=((2147483648*(dig W32 A (i+1)%2):Nat):Int):=by
    rw [IntKind.wrap_u32]
    omega
   rw [hm,pG,a0y (by omega),a0y (by omega),c3n (by omega)]
  rw [hO,y0p (by show _ < 4294967296; omega),hw] at hs
  have hrow:S5 (haL xs (haR A xs.length i) i) (s4 0 i) ((2147483648*(dig W32 A (i+1)%2)+dig W32 A i/2:Nat):Int)=haR A xs.length (i+1):=by
   rw [A0,q9,I0,hL,uQ W32 i (A/2) _ _ _,hnext,g0x]
  rw [hrow] at hs
  exact hs
 ·have hs:=z1w xs (haR A xs.length i) i xs.length xs.length ((a8 _ _).2 ⟨⟨d8 (by rw [hw]; omega),a6⟩,hp⟩)
  have h0:dig W32 A (i+1)=0:=by
   have:=hg (i+1)
   rw [bD,e0l (by omega)] at this
   have:(0:Int)=(dig W32 A (i+1):Int):=this
   omega
  rw [hw,hL] at hs
  rw [h0] at hnext
  rw [hnext]
  exact hs
theorem s1z {xs:List Int} {A:Nat} (hx:Dg W32 xs) (hA:val W32 xs=A) (hl:xs.length < 1099511627):Ev.Sem zO8 J0 284 [nL xs] [nL (ws W32 (A/2))] :=by
 have hAl:A/2 < W32 ^xs.length:=D7 (mD _ _) (by rw [<- hA]; exact E8 l6 hx)
 have hend:=j2e xs (haR A xs.length xs.length) xs.length xs.length xs.length ⟨d8 (by omega),a6⟩
 have hloop:=g2o xs (x:= .exit 0) (s':=haS xs A xs.length) (by
  have h0:tHa xs (zO7 (xs.length:Int).toNat 0) ((0:Nat):Int) xs.length (xs.length:Int).toNat=haS xs A 0:=rfl
  rw [h0]
  exact x5 (fun i=>haS xs A i) xs.length (by intro e; cases e) (fun i hi=>e2g hx hA (by omega) hi) hend)
 have hL:haR A xs.length xs.length=dl W32 xs.length (A/2):=by unfold haR; rw [L0,t0s,a1a]
 have ht:n8 (dl W32 xs.length (A/2))=ws W32 (A/2):=by rw [E1 n4 (Q0 l6 _ _),H5,G7 hAl]
 obtain⟨t1,t2,t3⟩:=oR ht
 have htake:((dl W32 xs.length (A/2)).drop 0).take xs.length=dl W32 xs.length (A/2):=by
  rw [U8,O9 (by rw [l4]; exact d9 _)]
 refine l7 x8 10 _ _ (q2b xs (haR A xs.length xs.length) (ws W32 (A/2)) xs.length xs.length) ⟨?_,hloop,by omega,?_,a6⟩
 ·rw [hL,l4]
  exact⟨rfl,by omega,by omega⟩
 ·rw [hL,htake]
  exact⟨t1,t2,t3⟩
def cCm:Code:=z8 zO8 229 0
def tCm (xs ys:List Int) (i:Int) (nx ny:Nat):St:=⟨only 41 [(0, .slice (some ⟨11,0,some 12⟩) nx 0),(1, .slice (some ⟨13,0,some 14⟩) ny 0),(4, .int .i64 0),(5, .int .i64 i)],[(11, .ints .u32 xs),(13, .ints .u32 ys)],15,[],[],0,none,[],15⟩
def tCr (xs ys:List Int) (r:Int):St:=⟨only 41 [(4, .int .i64 r)],[(11, .ints .u32 xs),(13, .ints .u32 ys)],15,[],[],0,none,[],15⟩
abbrev cmG (xs:List Int) (i:Int):Int:=xs.getD (s4 0 i.toNat) 0
abbrev cmL (xs ys:List Int) (i:Int) (nx ny:Nat):List Prop:=[s4 0 i.toNat < ys.length,(0<=i∧i < (ny:Int))∧0 < ys.length,s4 0 i.toNat < xs.length,(0<=i∧i < (nx:Int))∧0 < xs.length]
section
variable (xs ys:List Int) (i r:Int) (nx ny:Nat)
theorem u2d (hl:l5 ([(cmG xs i !=cmG ys i)=false] ++cmL xs ys i nx ny++[decide (i>=0)=true])):u4 C4 cCm (tCm xs ys i nx ny) .normal (tCm xs ys (iI.wrap (i-1)) nx ny):=
 stp x8 10 progOk.mixed [true,false] [] (by kernel_rfl) hl
theorem z2g (hl:l5 ([decide (cmG xs i < cmG ys i)=true] ++cmL xs ys i nx ny++[(cmG xs i !=cmG ys i)=true] ++cmL xs ys i nx ny++[decide (i>=0)=true])):u4 C4 cCm (tCm xs ys i nx ny) .ret (tCr xs ys (-1)):=
 stp x8 10 progOk.mixed [true,true,true] [] (by kernel_rfl) hl
theorem b3c (hl:l5 ([decide (cmG xs i < cmG ys i)=false] ++cmL xs ys i nx ny++[(cmG xs i !=cmG ys i)=true] ++cmL xs ys i nx ny++[decide (i>=0)=true])):u4 C4 cCm (tCm xs ys i nx ny) .ret (tCr xs ys 1):=
 stp x8 10 progOk.mixed [true,true,false] [] (by kernel_rfl) hl
theorem q2i (hl:l5 [decide (i>=0)=false]):u4 C4 cCm (tCm xs ys i nx ny) (.exit 0) (tCm xs ys i nx ny):=
 stp x8 10 progOk.mixed [false] [] (by kernel_rfl) hl
theorem z2s:B2 C4 [] 200 229 [nL xs,nL ys] [iR r] [true,true] =some [decide ((xs.length:Int) < (ys.length:Int))=true,((xs.length:Int) !=(ys.length:Int))=true,zO2 .i64 (-1)=zO2 .i64 r] :=by kernel_rfl
theorem w2i:B2 C4 [] 200 229 [nL xs,nL ys] [iR r] [true,false] =some [decide ((xs.length:Int) < (ys.length:Int))=false,((xs.length:Int) !=(ys.length:Int))=true,zO2 .i64 1=zO2 .i64 r] :=by kernel_rfl
abbrev cmS (xs ys:List Int):List Arg:=[nL xs,nL ys]
theorem a3l:B2 C4 [H7 (.exit 0) (fun _=>tCm xs ys i nx ny)] 200 229 [nL xs,nL ys] [iR r] [false] =some [b9 C4 cCm (m8 C4 200 229 (cmS xs ys) [false]) (.exit 0) (tCm xs ys i nx ny),((xs.length:Int) !=(ys.length:Int))=false,zO2 .i64 0=zO2 .i64 r] :=by kernel_rfl
theorem n2b (k:Int):B2 C4 [H7 .ret (fun _=>tCr xs ys k)] 200 229 [nL xs,nL ys] [iR r] [false] =some [b9 C4 cCm (m8 C4 200 229 (cmS xs ys) [false]) .ret (tCr xs ys k),((xs.length:Int) !=(ys.length:Int))=false,zO2 .i64 k=zO2 .i64 r] :=by kernel_rfl
theorem q0a {x:AX} {s':St} (h:b9 C4 cCm (tCm xs ys (iI.wrap ((xs.length:Int)-1)) xs.length ys.length) x s'):b9 C4 cCm (m8 C4 200 229 (cmS xs ys) [false]) x s':=
 l9 h []
end
theorem s0g {A i:Nat} :A/W32 ^i=dig W32 A i+W32*(A/W32 ^(i+1)):=l1b A i
theorem j0y {A B i:Nat} (h:A/W32 ^(i+1)=B/W32 ^(i+1)) (hd:dig W32 A i < dig W32 B i):A < B:=by
 have h1:=s0g (A:=A) (i:=i)
 have h2:=s0g (A:=B) (i:=i)
 rw [h] at h1
 refine Nat.lt_of_not_le fun hle=> ?_
 have:=Nat.div_le_div_right (c:=W32 ^i) hle
 omega
section
variable {A B:Nat} {xs ys:List Int} (hx:Dg W32 xs) (hy:Dg W32 ys) (hA:val W32 xs=A) (hB:val W32 ys=B) (hlen:xs.length=ys.length) (hl:xs.length < 1099511627776)
include hx hy hA hB hlen hl
theorem r1y {k:Nat} (hk:k+1<=xs.length) (he:A/W32 ^(k+1)=B/W32 ^(k+1)):
  (A/W32 ^k=B/W32 ^k∧u4 C4 cCm (tCm xs ys (((k+1:Nat):Int)-1) xs.length ys.length) .normal (tCm xs ys (((k:Nat):Int)-1) xs.length ys.length))∨
  (A < B∧u4 C4 cCm (tCm xs ys (((k+1:Nat):Int)-1) xs.length ys.length) .ret (tCr xs ys (-1)))∨
  (B < A∧u4 C4 cCm (tCm xs ys (((k+1:Nat):Int)-1) xs.length ys.length) .ret (tCr xs ys 1)):=by
 have hi:(((k+1:Nat):Int)-1)=(k:Int):=by omega
 rw [hi]
 have hgx:cmG xs (k:Int)=(dig W32 A k:Int):=by
  show xs.getD (s4 0 (k:Int).toNat) 0=_
  rw [q9,I0,g9,B1 l6 hx k,hA]
 have hgy:cmG ys (k:Int)=(dig W32 B k:Int):=by
  show ys.getD (s4 0 (k:Int).toNat) 0=_
  rw [q9,I0,g9,B1 l6 hy k,hB]
 have hL:l5 (cmL xs ys (k:Int) xs.length ys.length):=⟨by rw [q9,g9]; omega,⟨⟨by omega,by omega⟩,by omega⟩,by rw [q9,g9]; omega,⟨⟨by omega,by omega⟩,by omega⟩,a6⟩
 have h0:decide ((k:Int)>=0)=true:=i6 (by omega)
 by_cases hd:dig W32 A k=dig W32 B k
 ·refine .inl ⟨?_,?_⟩
  ·rw [s0g,s0g (A:=B),hd,he]
  ·have:=u2d xs ys (k:Int) xs.length ys.length ((a8 _ _).2 ⟨(a8 _ _).2 ⟨⟨by rw [hgx,hgy,hd]; simp,a6⟩,hL⟩,h0,a6⟩)
   rw [show iI.wrap ((k:Int)-1)=(k:Int)-1 by have:=y3 ((k:Int)-1); omega] at this
   exact this
 ·have hne:(cmG xs (k:Int) !=cmG ys (k:Int))=true:=by
   rw [hgx,hgy]
   exact zzA187.2 (by omega)
  rcases J4 (dig W32 A k) (dig W32 B k) with h | h
  ·refine .inr (.inl ⟨j0y he h,z2g xs ys (k:Int) xs.length ys.length ?_⟩)
   exact (a8 _ _).2 ⟨(a8 _ _).2 ⟨(a8 _ _).2 ⟨(a8 _ _).2 ⟨⟨i6 (by rw [hgx,hgy]; omega),a6⟩,hL⟩,hne,a6⟩,hL⟩,h0,a6⟩
  ·refine .inr (.inr ⟨j0y he.symm (by omega),b3c xs ys (k:Int) xs.length ys.length ?_⟩)
   exact (a8 _ _).2 ⟨(a8 _ _).2 ⟨(a8 _ _).2 ⟨(a8 _ _).2 ⟨⟨d8 (by rw [hgx,hgy]; omega),a6⟩,hL⟩,hne,a6⟩,hL⟩,h0,a6⟩
theorem r2v:A/W32 ^xs.length=B/W32 ^xs.length:=by
 have _:=hl
 rw [mK (by rw [<- hA]; exact E8 l6 hx),mK (by rw [<- hB,hlen]; exact E8 l6 hy)]
theorem f2z {x:AX} {s':St} (hxn:x≠ .normal) (hlt:A < B->x= .ret∧s'=tCr xs ys (-1)) (hgt:B < A->x= .ret∧s'=tCr xs ys 1) (heq:A=B->x= .exit 0∧s'=tCm xs ys (-1) xs.length ys.length):
  b9 C4 cCm (tCm xs ys ((xs.length:Int)-1) xs.length ys.length) x s':=by
 refine C0 (fun k:Nat=>tCm xs ys ((k:Int)-1) xs.length ys.length) id (fun k=>k<=xs.length∧A/W32 ^k=B/W32 ^k) hxn (fun k ⟨h1,h2⟩=> ?_) xs.length ⟨d9 _,r2v hx hy hA hB hlen hl⟩
 cases k with
 | zero=>
  rw [G3,Nat.div_one,Nat.div_one] at h2
  obtain⟨rfl,rfl⟩:=heq h2
  have e:(((0:Nat):Int)-1)= -1:=by omega
  rw [e]
  exact .inr (q2i xs ys (-1) xs.length ys.length ⟨d8 (by omega),a6⟩)
 | succ k=>
  rcases r1y hx hy hA hB hlen hl h1 h2 with ⟨g1,g2⟩ | ⟨g1,g2⟩ | ⟨g1,g2⟩
  ·exact .inl ⟨k,⟨by omega,g1⟩,Q7 k,g2⟩
  ·obtain⟨rfl,rfl⟩:=hlt g1
   exact .inr g2
  ·obtain⟨rfl,rfl⟩:=hgt g1
   exact .inr g2
end
def cmV (A B:Nat):Int:=if A < B then -1 else if A=B then 0 else 1
theorem l0h {A B:Nat} (h:(ws W32 A).length < (ws W32 B).length):A < B:=
 C8 ((F1 n4 A _).1 (d9 _)) ((qG n4).1 h)
theorem s1k {A B:Nat} (h1:(ws W32 A).length < 1099511627776):Ev.Sem zO8 J0 229 [nL (ws W32 A),nL (ws W32 B)] [iR (cmV A B)] :=by
 unfold cmV
 by_cases hlen:(ws W32 A).length=(ws W32 B).length
 ·have hne:(((ws W32 A).length:Int) !=((ws W32 B).length:Int))=false:=by rw [hlen]; simp
  have hw:iI.wrap (((ws W32 A).length:Int)-1)=((ws W32 A).length:Int)-1:=by have:=y3 (((ws W32 A).length:Int)-1); omega
  have hL:=fun {x:AX} {s':St} =>f2z (x:=x) (s':=s') (j0a n4 A) (j0a n4 B) (x6 n4 A) (x6 n4 B) hlen h1
  rw [<- hw] at hL
  rcases Z8 A B with h | h | h
  ·rw [f9 h]
   exact l7 x8 10 _ _ (n2b _ _ _ _) ⟨q0a _ _ (hL (by intro e; cases e) (fun _=>⟨rfl,rfl⟩) (fun g=>by omega) (fun g=>by omega)),hne,rfl,a6⟩
  ·rw [a7 (by omega),f9 h]
   exact l7 x8 10 _ _ (a3l _ _ (-1) 0 (ws W32 A).length (ws W32 B).length) ⟨q0a _ _ (hL (by intro e; cases e) (fun g=>by omega) (fun g=>by omega) (fun _=>⟨rfl,rfl⟩)),hne,rfl,a6⟩
  ·rw [a7 (by omega),a7 (by omega)]
   exact l7 x8 10 _ _ (n2b _ _ _ _) ⟨q0a _ _ (hL (by intro e; cases e) (fun g=>by omega) (fun _=>⟨rfl,rfl⟩) (fun g=>by omega)),hne,rfl,a6⟩
 ·have hne:(((ws W32 A).length:Int) !=((ws W32 B).length:Int))=true:=zzA187.2 (by omega)
  rcases J4 (ws W32 A).length (ws W32 B).length with h | h
  ·rw [f9 (l0h h)]
   exact l7 x8 10 _ _ (z2s _ _ _) ⟨i6 (by omega),hne,rfl,a6⟩
  ·have:=l0h (A:=B) (B:=A) (by omega)
   rw [a7 (by omega),a7 (by omega)]
   exact l7 x8 10 _ _ (w2i _ _ _) ⟨d8 (by omega),hne,rfl,a6⟩
def cSu:Code:=z8 zO8 283 0
def tSu (xs ys L:List Int) (w i:Int) (nx ny nl:Nat):St:=⟨only 47 [(0, .slice (some ⟨11,0,some 12⟩) nx 0),(1, .slice (some ⟨13,0,some 14⟩) ny 0),(5, .slice (some ⟨15,0,some 16⟩) nl 0),(6, .int .i64 w),(7, .int .i64 i)],[(15, .row mW 1 (.ints .u32 L) 16),(11, .ints .u32 xs),(13, .ints .u32 ys)],17,[],[],0,none,[],15⟩
abbrev suD (xs:List Int) (w:Int) (i:Nat):Int:=iI.wrap (iI.wrap (xs.getD (s4 0 i) 0)-w)
abbrev suE (xs ys:List Int) (w:Int) (i:Nat):Int:=iI.wrap (suD xs w i-iI.wrap (ys.getD (s4 0 i) 0))
abbrev suS (L:List Int) (i:Nat) (d:Int):List Int:=S5 L (s4 0 i) (uJ.wrap d)
abbrev suH (L:List Int) (i nl:Nat):List Prop:=[s4 0 i < L.length,((0:Int)<=i∧(i:Int) < nl)∧0 < L.length]
abbrev suX (xs:List Int) (i nx:Nat):List Prop:=[s4 0 i < xs.length,((0:Int)<=i∧(i:Int) < nx)∧0 < xs.length,decide ((i:Int) < (nx:Int))=true]
abbrev suY (ys:List Int) (i ny:Nat):List Prop:=[s4 0 i < ys.length,((0:Int)<=i∧(i:Int) < ny)∧0 < ys.length,decide ((i:Int) < (ny:Int))=true]
section
variable (xs ys L R:List Int) (w:Int) (i nx ny nl:Nat)
theorem w2o (hl:l5 (suH L i nl++[decide (suE xs ys w i < 0)=true] ++suY ys i ny++suX xs i nx)):u4 C4 cSu (tSu xs ys L w i nx ny nl) .normal (tSu xs ys (suS L i (iI.wrap (suE xs ys w i+4294967296))) 1 (iI.wrap ((i:Int)+1)) nx ny nl):=
 stp x8 10 progOk.mixed [true,true,true] [] (by kernel_rfl) hl
theorem a3h (hl:l5 (suH L i nl++[decide (suE xs ys w i < 0)=false] ++suY ys i ny++suX xs i nx)):u4 C4 cSu (tSu xs ys L w i nx ny nl) .normal (tSu xs ys (suS L i (suE xs ys w i)) 0 (iI.wrap ((i:Int)+1)) nx ny nl):=
 stp x8 10 progOk.mixed [true,true,false] [] (by kernel_rfl) hl
theorem v2h (hl:l5 (suH L i nl++[decide (suD xs w i < 0)=true,decide ((i:Int) < (ny:Int))=false] ++suX xs i nx)):u4 C4 cSu (tSu xs ys L w i nx ny nl) .normal (tSu xs ys (suS L i (iI.wrap (suD xs w i+4294967296))) 1 (iI.wrap ((i:Int)+1)) nx ny nl):=
 stp x8 10 progOk.mixed [true,false,true] [] (by kernel_rfl) hl
theorem y2z (hl:l5 (suH L i nl++[decide (suD xs w i < 0)=false,decide ((i:Int) < (ny:Int))=false] ++suX xs i nx)):u4 C4 cSu (tSu xs ys L w i nx ny nl) .normal (tSu xs ys (suS L i (suD xs w i)) 0 (iI.wrap ((i:Int)+1)) nx ny nl):=
 stp x8 10 progOk.mixed [true,false,false] [] (by kernel_rfl) hl
theorem n2q (hl:l5 [decide ((i:Int) < (nx:Int))=false]):u4 C4 cSu (tSu xs ys L w i nx ny nl) (.exit 0) (tSu xs ys L w i nx ny nl):=
 stp x8 10 progOk.mixed [false] [] (by kernel_rfl) hl
theorem o2u:B2 C4 [H7 (.exit 0) (fun _=>tSu xs ys L w (nx:Int) nx ny nl)] 200 283 [nL xs,nL ys] [nL R] [] =some [0=0∧0+nl<=L.length∧L.length < 1099511627776,b9 C4 cSu (m8 C4 200 283 [nL xs,nL ys] []) (.exit 0) (tSu xs ys L w (nx:Int) nx ny nl),0<=(xs.length:Int)∧(xs.length:Int)=(xs.length:Int)∧4*(xs.length:Int)<=281474976710656∧(xs.length:Int)<=9223372036854775807,(n8 ((L.drop 0).take nl)).length=R.length∧(n8 ((L.drop 0).take nl)).length<=L.length∧L.take (n8 ((L.drop 0).take nl)).length=R] :=by kernel_rfl
theorem c2f {x:AX} {s':St} (h:b9 C4 cSu (tSu xs ys (zO7 (xs.length:Int).toNat 0) 0 ((0:Nat):Int) xs.length ys.length (xs.length:Int).toNat) x s'):b9 C4 cSu (m8 C4 200 283 [nL xs,nL ys] []) x s':=
 l9 h []
end
def suW (A B i:Nat):Nat:=if A%W32 ^i < B%W32 ^i then 1 else 0
theorem p2w {a b x y P:Nat} (ha:a < P) (hb:b < P):a+x*P < b+y*P↔x < y+(if a < b then 1 else 0):=by
 rcases Z8 x y with h | h | h
 ·have:(x+1)*P<=y*P:=w9 P h
  rw [A7,P7] at this
  exact⟨fun _=>by split <;> omega,fun _=>by omega⟩
 ·subst h
  constructor
  ·intro g
   rw [f9 (by omega)]
   omega
  ·intro g
   split at g <;> omega
 ·have:(y+1)*P<=x*P:=w9 P h
  rw [A7,P7] at this
  exact⟨fun _=>by omega,fun g=>by split at g <;> omega⟩
theorem q1z (A B i:Nat):suW A B (i+1)=if dig W32 A i < dig W32 B i+suW A B i then 1 else 0:=by
 have hp:0 < W32 ^i:=s7 l6
 have h:=p2w (x:=dig W32 A i) (y:=dig W32 B i) (F7 A hp) (F7 B hp)
 unfold suW
 rw [J8,J8]
 by_cases hc:A%W32 ^i+dig W32 A i*W32 ^i < B%W32 ^i+dig W32 B i*W32 ^i
 ·rw [f9 hc,f9 (h.1 hc)]
 ·rw [a7 hc,a7 (fun g=>hc (h.2 g))]
theorem z1n {A B i:Nat} (h:B<=A):(A-B)/W32 ^i+B/W32 ^i+suW A B i=A/W32 ^i:=by
 have hp:0 < W32 ^i:=s7 l6
 unfold suW
 have h1:=wE A (W32 ^i)
 have h2:=wE B (W32 ^i)
 have h3:=F7 A hp
 have h4:=F7 B hp
 generalize A/W32 ^i=a at*
 generalize B/W32 ^i=b at*
 generalize A%W32 ^i=r at*
 generalize B%W32 ^i=s at*
 generalize W32 ^i=P at*
 by_cases hrs:r < s
 ·rw [f9 hrs]
  have hab:b+1<=a:=by
   refine Nat.lt_of_not_le fun hle=> ?_
   have:=N0 P hle
   omega
  have e:A-B=(P+r-s)+P*(a-b-1):=by
   have:P*a=P*(a-b-1)+P*b+P:=by
    rw [<- R4,<- Nat.mul_succ]
    congr 1
    omega
   omega
  rw [e,gC _ _ hp,mK (by omega)]
  omega
 ·rw [a7 hrs]
  have hab:b<=a:=by
   refine gD fun hlt=> ?_
   have:=N0 P (show a+1<=b from hlt)
   rw [R4,u9] at this
   omega
  have e:A-B=(r-s)+P*(a-b):=by
   have:P*a=P*(a-b)+P*b:=by
    rw [<- R4]
    congr 1
    omega
   omega
  rw [e,gC _ _ hp,mK (by omega)]
  omega
theorem e2r {A B i:Nat} (h:B<=A):dig W32 (A-B) i+dig W32 B i+suW A B i=dig W32 A i+4294967296*suW A B (i+1):=by
 have h0:=z1n (i:=i) h
 have hn:=q1z A B i
 have hx:dig W32 A i < 4294967296:=D6 l6 A i
 have hy:dig W32 B i < 4294967296:=D6 l6 B i
 have hd:dig W32 (A-B) i < 4294967296:=D6 l6 _ i
 have hw:suW A B i<=1:=by unfold suW; split <;> omega
 rw [hn]
 have e1:dig W32 A i=A/W32 ^i%4294967296:=rfl
 have e2:dig W32 B i=B/W32 ^i%4294967296:=rfl
 have e3:dig W32 (A-B) i=(A-B)/W32 ^i%4294967296:=rfl
 rw [e1,e2] at*
 rw [e3] at*
 generalize A/W32 ^i=a at*
 generalize B/W32 ^i=b at*
 generalize (A-B)/W32 ^i=d at*
 generalize suW A B i=w at*
 split <;> omega
def suR (A B n i:Nat):List Int:=dl W32 i (A-B)++zO7 (n-i) 0
def suT (xs ys:List Int) (A B i:Nat):St:=tSu xs ys (suR A B xs.length i) (suW A B i:Int) (i:Int) xs.length ys.length xs.length
theorem f2h {A B n i:Nat} (h:i<=n):(suR A B n i).length=n:=by
 unfold suR
 rw [G8,l4,bH]
 omega
theorem a2b {A B n i:Nat} (h:i < n):suS (suR A B n i) i ((dig W32 (A-B) i:Nat):Int)=suR A B n (i+1):=by
 show S5 (suR A B n i) (s4 0 i) (uJ.wrap ((dig W32 (A-B) i:Nat):Int))=_
 rw [A0,q9,I0,y0p (D6 l6 _ i)]
 unfold suR
 rw [show n-i=(n- (i+1))+1 by omega,xW,uQ,cP W32 l6,lU,kK]
theorem a2z {xs ys:List Int} {A B i:Nat} (hx:Dg W32 xs) (hy:Dg W32 ys) (hA:val W32 xs=A) (hB:val W32 ys=B) (hl:xs.length < 1099511627776) (hle:B<=A) (hi:i < xs.length):u4 C4 cSu (suT xs ys A B i) .normal (suT xs ys A B (i+1)):=by
 have hgx:xs.getD i 0=(dig W32 A i:Int):=by rw [B1 l6 hx i,hA]
 have hgy:ys.getD i 0=(dig W32 B i:Int):=by rw [B1 l6 hy i,hB]
 have d1:dig W32 A i < 4294967296:=D6 l6 A i
 have d2:dig W32 B i < 4294967296:=D6 l6 B i
 have d3:dig W32 (A-B) i < 4294967296:=D6 l6 _ i
 have hw:suW A B i<=1:=by unfold suW; split <;> omega
 have hw2:suW A B (i+1)=0∨suW A B (i+1)=1:=by unfold suW; split <;> omega
 have hsd:=e2r (i:=i) hle
 have hD:suD xs (suW A B i:Int) i=(dig W32 A i:Int)- (suW A B i:Int):=by
  show iI.wrap (iI.wrap (xs.getD (s4 0 i) 0)-_)=_
  rw [q9,I0,hgx]
  have:=y3 (dig W32 A i:Int)
  have:=y3 (iI.wrap (dig W32 A i:Int)- (suW A B i:Int))
  omega
 have hE:suE xs ys (suW A B i:Int) i=(dig W32 A i:Int)- (suW A B i:Int)- (dig W32 B i:Int):=by
  show iI.wrap (suD xs (suW A B i:Int) i-iI.wrap (ys.getD (s4 0 i) 0))=_
  rw [hD,q9,I0,hgy]
  have:=y3 (dig W32 B i:Int)
  have:=y3 ((dig W32 A i:Int)- (suW A B i:Int)-iI.wrap (dig W32 B i:Int))
  omega
 have hset:=a2b (A:=A) (B:=B) hi
 have hi1:iI.wrap ((i:Int)+1)=((i+1:Nat):Int):=a1n (by omega)
 have hlen:=f2h (A:=A) (B:=B) (K1 hi)
 have hH:l5 (suH (suR A B xs.length i) i xs.length):=⟨by rw [hlen,q9]; omega,⟨⟨by omega,by omega⟩,by rw [hlen]; omega⟩,a6⟩
 have hX:l5 (suX xs i xs.length):=⟨by rw [q9]; omega,⟨⟨by omega,by omega⟩,by omega⟩,i6 (by omega),a6⟩
 unfold suT
 by_cases hy1:i < ys.length
 ·have hY:l5 (suY ys i ys.length):=⟨by rw [q9]; omega,⟨⟨by omega,by omega⟩,by omega⟩,i6 (by omega),a6⟩
  rcases hw2 with h | h
  ·rw [h] at hsd ⊢
   have hs:=a3h xs ys (suR A B xs.length i) (suW A B i:Int) i xs.length ys.length xs.length ((a8 _ _).2 ⟨(a8 _ _).2 ⟨(a8 _ _).2 ⟨hH,d8 (by rw [hE]; omega),a6⟩,hY⟩,hX⟩)
   rw [hE,show (dig W32 A i:Int)- (suW A B i:Int)- (dig W32 B i:Int)=((dig W32 (A-B) i:Nat):Int) by omega,hset,hi1] at hs
   exact hs
  ·rw [h] at hsd ⊢
   have hs:=w2o xs ys (suR A B xs.length i) (suW A B i:Int) i xs.length ys.length xs.length ((a8 _ _).2 ⟨(a8 _ _).2 ⟨(a8 _ _).2 ⟨hH,i6 (by rw [hE]; omega),a6⟩,hY⟩,hX⟩)
   rw [hE,show iI.wrap ((dig W32 A i:Int)- (suW A B i:Int)- (dig W32 B i:Int)+4294967296)=((dig W32 (A-B) i:Nat):Int) by have:=y3 ((dig W32 A i:Int)- (suW A B i:Int)- (dig W32 B i:Int)+4294967296); omega,hset,hi1] at hs
   exact hs
 ·have h0:dig W32 B i=0:=by
   have:=hgy
   rw [bD,e0l (by omega)] at this
   have:(0:Int)=(dig W32 B i:Int):=this
   omega
  rcases hw2 with h | h
  ·rw [h] at hsd ⊢
   have hs:=y2z xs ys (suR A B xs.length i) (suW A B i:Int) i xs.length ys.length xs.length ((a8 _ _).2 ⟨(a8 _ _).2 ⟨hH,d8 (by rw [hD]; omega),d8 (by omega),a6⟩,hX⟩)
   rw [hD,show (dig W32 A i:Int)- (suW A B i:Int)=((dig W32 (A-B) i:Nat):Int) by omega,hset,hi1] at hs
   exact hs
  ·rw [h] at hsd ⊢
   have hs:=v2h xs ys (suR A B xs.length i) (suW A B i:Int) i xs.length ys.length xs.length ((a8 _ _).2 ⟨(a8 _ _).2 ⟨hH,i6 (by rw [hD]; omega),d8 (by omega),a6⟩,hX⟩)
   rw [hD,show iI.wrap ((dig W32 A i:Int)- (suW A B i:Int)+4294967296)=((dig W32 (A-B) i:Nat):Int) by have:=y3 ((dig W32 A i:Int)- (suW A B i:Int)+4294967296); omega,hset,hi1] at hs
   exact hs
theorem q1b {xs ys:List Int} {A B:Nat} (hx:Dg W32 xs) (hy:Dg W32 ys) (hA:val W32 xs=A) (hB:val W32 ys=B) (hl:xs.length < 1099511627) (hle:B<=A):Ev.Sem zO8 J0 283 [nL xs,nL ys] [nL (ws W32 (A-B))] :=by
 have hAl:A-B < W32 ^xs.length:=D7 (Nat.sub_le _ _) (by rw [<- hA]; exact E8 l6 hx)
 have hend:=n2q xs ys (suR A B xs.length xs.length) (suW A B xs.length:Int) xs.length xs.length ys.length xs.length ⟨d8 (by omega),a6⟩
 have hloop:=c2f xs ys (x:= .exit 0) (s':=suT xs ys A B xs.length) (by
  have h0:tSu xs ys (zO7 (xs.length:Int).toNat 0) 0 ((0:Nat):Int) xs.length ys.length (xs.length:Int).toNat=suT xs ys A B 0:=by
   unfold suT suW
   rw [G3,b0t,b0t,a7 (by decide)]
   rfl
  rw [h0]
  exact x5 (fun i=>suT xs ys A B i) xs.length (by intro e; cases e) (fun i hi=>a2z hx hy hA hB (by omega) hle hi) hend)
 have hL:suR A B xs.length xs.length=dl W32 xs.length (A-B):=by unfold suR; rw [L0,t0s,a1a]
 have ht:n8 (dl W32 xs.length (A-B))=ws W32 (A-B):=by rw [E1 n4 (Q0 l6 _ _),H5,G7 hAl]
 obtain⟨t1,t2,t3⟩:=oR ht
 have htake:((dl W32 xs.length (A-B)).drop 0).take xs.length=dl W32 xs.length (A-B):=by
  rw [U8,O9 (by rw [l4]; exact d9 _)]
 refine l7 x8 10 _ _ (o2u xs ys (suR A B xs.length xs.length) (ws W32 (A-B)) (suW A B xs.length:Int) xs.length ys.length xs.length) ⟨?_,hloop,by omega,?_,a6⟩
 ·rw [hL,l4]
  exact⟨rfl,by omega,by omega⟩
 ·rw [hL,htake]
  exact⟨t1,t2,t3⟩
end Go.Proofs.YtkiejangmhhofaaGreatDoor
namespace Go.Proofs.YtkiejangmhhofaaGreatDoor.Wd
def bl (n:Nat):Nat:=match n with
 | 0=>0
 | n+1=>(n+1).log2+1
theorem bl_le {n k:Nat} :bl n<=k↔n < 2 ^k:=by
 cases n with
 | zero=>simp [bl,Nat.two_pow_pos]
 | succ n=>
  have:=a0e (n:=n+1) (k:=k) (by omega)
  simp only [bl]
  omega
theorem lZ (n:Nat):n < 2 ^bl n:=bl_le.1 (d9 _)
theorem bl_ge {n k:Nat} :k < bl n↔2 ^k<=n:=by
 have:=bl_le (n:=n) (k:=k)
 omega
theorem a2q:bl 0=0:=rfl
theorem bl_pos {n:Nat} :0 < bl n↔0 < n:=by
 rw [bl_ge]
 simp
 omega
theorem b0a {n:Nat} (h:0 < n):2 ^(bl n-1)<=n:=bl_ge.1 (by have:=bl_pos.2 h; omega)
theorem p0b {a b:Nat} (h:a<=b):bl a<=bl b:=bl_le.2 (D7 h (lZ b))
theorem eI {n k:Nat} (h:2 ^k<=n):bl n=k+bl (n/2 ^k):=by
 have h1:k < bl n:=bl_ge.2 h
 apply b0e
 ·rw [bl_le,n9,t7,<- D9 (H4 k)]
  exact lZ _
 ·have:bl (n/2 ^k)<=bl n-k:=by
   rw [bl_le,D9 (H4 k),<- n9]
   rw [b0g (K1 h1)]
   exact lZ n
  omega
theorem m2e {n:Nat} (h:0 < n) (k:Nat):bl (n*2 ^k)=bl n+k:=by
 have:=eI (n:=n*2 ^k) (k:=k) (a0v _ h)
 rw [uU _ (H4 k)] at this
 omega
end Go.Proofs.YtkiejangmhhofaaGreatDoor.Wd
namespace Go.Proofs.YtkiejangmhhofaaGreatDoor
open Go Go.RowKit Ev Wd
def cLe:Code:=z8 zO8 161 0
def tLe (xs:List Int) (n x:Int):St:=⟨only 25 [(3, .int .i64 n),(4, .int .u32 x)],[(11, .ints .u32 xs)],13,[],[],0,none,[],13⟩
abbrev leI (xs:List Int):Int:=iI.wrap ((xs.length:Int)-1)
section
variable (xs:List Int) (n x r:Int)
theorem y2d (hl:l5 [decide (x > 0)=true]):u4 C4 cLe (tLe xs n x) .normal (tLe xs (iI.wrap (n+1)) (x.fdiv 2)):=
 stp x8 10 progOk.mixed [true] [] (by kernel_rfl) hl
theorem o2c (hl:l5 [decide (x > 0)=false]):u4 C4 cLe (tLe xs n x) (.exit 0) (tLe xs n x):=
 stp x8 10 progOk.mixed [false] [] (by kernel_rfl) hl
theorem x2a:B2 C4 [] 200 161 [nL xs] [iR r] [true] =some [((xs.length:Int)==0)=true,zO2 .i64 0=zO2 .i64 r] :=by kernel_rfl
theorem v2j:B2 C4 [H7 (.exit 0) (fun _=>tLe xs n x)] 200 161 [nL xs] [iR r] [false] =some [b9 C4 cLe (m8 C4 200 161 [nL xs] [false]) (.exit 0) (tLe xs n x),s4 0 (leI xs).toNat < xs.length,(0<=leI xs∧leI xs < (xs.length:Int))∧0 < xs.length,((xs.length:Int)==0)=false,zO2 .i64 n=zO2 .i64 r] :=by kernel_rfl
theorem a2g {y:AX} {s':St} (h:b9 C4 cLe (tLe xs (iI.wrap (32*leI xs)) (xs.getD (s4 0 (leI xs).toNat) 0)) y s'):b9 C4 cLe (m8 C4 200 161 [nL xs] [false]) y s':=
 l9 h []
end
theorem b2k (xs:List Int) {n x:Nat} (hn:n < 4611686018427387904) (hx:x < 4294967296):b9 C4 cLe (tLe xs (n:Int) (x:Int)) (.exit 0) (tLe xs ((n+bl x:Nat):Int) 0):=by
 have hb:bl x<=32:=bl_le.2 hx
 have h:=x5 (X:=C4) (c:=cLe) (fun k=>tLe xs ((n+k:Nat):Int) ((x/2 ^k:Nat):Int)) (bl x) (x:= .exit 0) (s':=tLe xs ((n+bl x:Nat):Int) 0) (by intro e; cases e) (fun k hk=>by
  have hp:0 < x/2 ^k:=Nat.div_pos (bl_ge.1 hk) (s7 (by decide))
  have hs:=y2d xs ((n+k:Nat):Int) ((x/2 ^k:Nat):Int) ⟨i6 (by omega),a6⟩
  rw [a1n (by omega),show ((x/2 ^k:Nat):Int).fdiv 2=((x/2 ^k/2:Nat):Int) from (qF _ 2).symm,P0,<- y8] at hs
  exact hs) (by
  have h0:x/2 ^bl x=0:=mK (lZ x)
  rw [h0]
  exact o2c xs _ _ ⟨d8 (by decide),a6⟩)
 rw [I1,G3,Nat.div_one] at h
 exact h
theorem h2b {A:Nat} (hl:(ws W32 A).length < 1099511627):Ev.Sem zO8 J0 161 [nL (ws W32 A)] [iR (bl A:Int)] :=by
 by_cases h0:(ws W32 A).length=0
 ·have:A=0:=(k0p n4).1 h0
  subst this
  exact l7 x8 10 _ _ (x2a _ _) ⟨by rw [h0]; rfl,rfl,a6⟩
 obtain⟨m,hm⟩:∃ m,(ws W32 A).length=m+1:=⟨(ws W32 A).length-1,by omega⟩
 have hI:leI (ws W32 A)=(m:Int):=by
  show iI.wrap (((ws W32 A).length:Int)-1)=_
  rw [hm]
  have:=y3 (((m+1:Nat):Int)-1)
  omega
 have h1:W32 ^m<=A:=(qG n4).1 (by omega)
 have h2:A < W32 ^(m+1):=(F1 n4 _ _).1 (by omega)
 have h3:A/W32 ^m < W32:=by
  rw [D9 (s7 l6),t7]
  exact h2
 have hg:(ws W32 A).getD (s4 0 (leI (ws W32 A)).toNat) 0=((A/W32 ^m:Nat):Int):=by
  rw [hI,q9,I0,g9,m0s n4]
  unfold dig
  rw [G7 h3]
 have h32:iI.wrap (32*leI (ws W32 A))=((32*m:Nat):Int):=by
  rw [hI]
  have:=y3 (32*(m:Int))
  omega
 have hp:W32 ^m=2 ^(32*m):=by rw [dB]
 have hbl:bl A=32*m+bl (A/W32 ^m):=by
  rw [hp]
  exact eI (by rw [<- hp]; exact h1)
 have hloop:=a2g (ws W32 A) (y:= .exit 0) (s':=tLe (ws W32 A) ((32*m+bl (A/W32 ^m):Nat):Int) 0) (by
  rw [h32,hg]
  exact b2k _ (by omega) h3)
 rw [hbl]
 exact l7 x8 10 _ _ (v2j _ _ 0 _) ⟨hloop,by rw [hI,q9,g9]; omega,by rw [hI]; omega,y9 (by omega),rfl,a6⟩
def lfV (A n i:Nat):Nat:=A%W32 ^i*2 ^n
theorem y1o (n i:Nat):W32 ^(i+n/32)*2 ^(n%32)=W32 ^i*2 ^n:=by
 have h:(2:Nat) ^n=W32 ^(n/32)*2 ^(n%32):=by
  show (2:Nat) ^n=(2 ^32) ^(n/32)*2 ^(n%32)
  rw [<- dB,<- n9,bV]
 rw [h,n9,r7]
theorem u0k (A n i:Nat):lfV A n (i+1)=lfV A n i+W32 ^(i+n/32)*(dig W32 A i*2 ^(n%32)):=by
 have h:=y1o n i
 unfold lfV
 rw [J8,A7,t7 (dig W32 A i) (2 ^(n%32)),<- r7,h,t7 (dig W32 A i) (W32 ^i),r7,r7,t7 (dig W32 A i)]
theorem w1t (A n i:Nat):lfV A n i < W32 ^(i+n/32)*2 ^(n%32):=by
 rw [y1o]
 exact P4 (F7 _ (s7 l6)) (s7 (by decide))
theorem b2w (A n i:Nat):dl W32 (i+n/32) (lfV A n (i+1))=dl W32 (i+n/32) (lfV A n i):=by
 refine X4 l6 (Q0 l6 _ _) (Q0 l6 _ _) (by rw [l4,l4]) ?_
 rw [H5,H5,u0k,jU]
theorem x0f {r c a:Nat} (hr:r < 32) (hc:c < 2 ^r):(c+a*2 ^r)%W32=c||| (a*2 ^r%W32)∧(c+a*2 ^r)/W32=a*2 ^r/W32:=by
 have hW:W32=2 ^r*2 ^(32-r):=by
  rw [<- n9,show r+(32-r)=32 by omega]
 have hp:0 < 2 ^r:=s7 (by decide)
 have e1:(c+a*2 ^r)%2 ^r=c:=by rw [Nat.add_mul_mod_self_right,G7 hc]
 have e2:(c+a*2 ^r)/2 ^r=a:=by rw [Nat.add_mul_div_right _ _ hp,mK hc,I0]
 have e3:a*2 ^r%2 ^r=0:=Nat.mul_mod_left _ _
 have e4:a*2 ^r/2 ^r=a:=uU _ hp
 rw [hW]
 constructor
 ·rw [Nat.mod_mul,Nat.mod_mul,e1,e2,e3,e4,I0,wL,<- wU hc,g0x]
 ·rw [<- P0,<- P0,e2,e4]
theorem e0v (A n i:Nat):(lfV A n i/W32 ^(i+n/32) < 2 ^(n%32))∧dig W32 (lfV A n (i+1)) (i+n/32)=(lfV A n i/W32 ^(i+n/32))||| (dig W32 A i*2 ^(n%32)%W32)∧dig W32 (lfV A n (i+1)) (i+n/32+1)=dig W32 A i*2 ^(n%32)/W32:=by
 have hp:0 < W32 ^(i+n/32):=s7 l6
 have hc:lfV A n i/W32 ^(i+n/32) < 2 ^(n%32):=by
  rw [D9 hp,t7]
  exact w1t A n i
 have hr:n%32 < 32:=F7 _ (by decide)
 obtain⟨h1,h2⟩:=x0f (a:=dig W32 A i) hr hc
 have hd:lfV A n (i+1)/W32 ^(i+n/32)=lfV A n i/W32 ^(i+n/32)+dig W32 A i*2 ^(n%32):=by
  rw [u0k,gC _ _ hp]
 refine⟨hc,?_,?_⟩
 ·unfold dig at*
  rw [hd]
  exact h1
 ·have hlt:dig W32 A i*2 ^(n%32)/W32 < W32:=by
   rw [D9 l6]
   exact vK (D6 l6 A i) (C8 (c0b (by decide) hr) (by decide))
  unfold dig at*
  rw [y8,<- P0,hd,h2,G7 hlt]
def lfR (A n N i:Nat):List Int:=dl W32 (i+n/32) (lfV A n i)++((lfV A n i/W32 ^(i+n/32):Nat):Int) ::zO7 (N-i) 0
theorem d1v {A n N i:Nat} (h:i<=N):(lfR A n N i).length=N+n/32+1:=by
 unfold lfR
 rw [G8,l4,A4,bH]
 omega
theorem y1g (b i m:Nat) (x:Int) (r:List Int):(dl b i m++x ::r).getD i 0=x:=by
 rw [bD,e0d (by rw [l4]; exact d9 _),l4,L0]
 rfl
theorem g2y (b i m:Nat) (x y:Int) (r:List Int):(dl b i m++x ::y ::r).getD (i+1) 0=y:=by
 rw [bD,e0d (by rw [l4]; omega),l4,Nat.add_sub_cancel_left]
 rfl
theorem b2b (b i m k:Nat) (x y:Int) (r:List Int):(dl b i m++x ::y ::r).set (i+1) (k:Int)=dl b i m++x ::(k:Int) ::r:=by
 rw [List.set_append_right _ _ (by rw [l4]; omega),l4,Nat.add_sub_cancel_left]
 rfl
theorem t1x (A n N i:Nat):lfR A n N (i+1)=dl W32 (i+n/32) (lfV A n i)++(((lfV A n i/W32 ^(i+n/32))||| (dig W32 A i*2 ^(n%32)%W32):Nat):Int) ::((dig W32 A i*2 ^(n%32)/W32:Nat):Int) ::zO7 (N- (i+1)) 0:=by
 obtain⟨_,h2,h3⟩:=e0v A n i
 have hp:=e0v A n (i+1)
 have e:i+1+n/32=i+n/32+1:=by omega
 have hd:lfV A n (i+1)/W32 ^(i+n/32+1)=dig W32 (lfV A n (i+1)) (i+n/32+1):=by
  unfold dig
  rw [G7]
  have:=hp.1
  rw [e] at this
  exact C8 this (y5 (n:=2) (by decide) (show (n%32)<=32 by omega))
 unfold lfR
 rw [e,cP W32 l6,b2w,h2,hd,h3,lU,kK]
theorem p1i (A n N:Nat):lfR A n N 0=zO7 (N+n/32+1) 0:=by
 unfold lfR lfV
 rw [G3,b0t,K8,Nat.zero_div,I0,y0g]
 have h0:dl W32 (n/32) 0=zO7 (n/32) 0:=by
  symm
  exact s1i l6 (H8 _ l6 _) (by rw [bH]) (O4 _ _)
 rw [h0,show ((0:Nat):Int) ::zO7 N (0:Int)=zO7 (N+1) 0 from rfl,List.replicate_append_replicate]
 congr 1
 omega
theorem g2h {A n N:Nat} (h:A < W32 ^N):n8 (lfR A n N N)=ws W32 (A*2 ^n):=by
 have hV:lfV A n N=A*2 ^n:=by unfold lfV; rw [G7 h]
 have hlt:=w1t A n N
 have hc:=(e0v A n N).1
 have h32:(2:Nat) ^(n%32)<=W32:=x7 (y5 (by decide) (show n%32<=32 by omega)) (show (2:Nat) ^32<=W32 by decide)
 have e:lfR A n N N=dl W32 (N+n/32+1) (A*2 ^n):=by
  unfold lfR
  rw [cP W32 l6,L0,t0s,hV]
  unfold dig
  rw [G7 (by rw [<- hV]; omega)]
 rw [e,E1 n4 (Q0 l6 _ _),H5,G7]
 rw [<- hV,y8]
 exact C8 hlt (N0 _ h32)
def muV (A B i k:Nat):Nat:=A%W32 ^i*B%W32 ^(i+k)+dig W32 A i*(B%W32 ^k)*W32 ^i
theorem s0z (A B i k:Nat):muV A B i (k+1)=muV A B i k+W32 ^(i+k)*(dig W32 (A%W32 ^i*B) (i+k)+dig W32 A i*dig W32 B k):=by
 unfold muV
 rw [show i+(k+1)=i+k+1 from rfl,J8 W32 (A%W32 ^i*B) (i+k),J8 W32 B k,R4 (dig W32 A i),A7,R4 (W32 ^(i+k))]
 have e:dig W32 A i*(dig W32 B k*W32 ^k)*W32 ^i=W32 ^(i+k)*(dig W32 A i*dig W32 B k):=by
  rw [n9]
  simp only [t7,Nat.mul_left_comm,r7]
 rw [e,t7 (dig W32 (A%W32 ^i*B) (i+k))]
 omega
theorem d2t (A B i k:Nat):dl W32 (i+k) (muV A B i (k+1))=dl W32 (i+k) (muV A B i k):=by
 refine X4 l6 (Q0 l6 _ _) (Q0 l6 _ _) (by rw [l4,l4]) ?_
 rw [H5,H5,s0z,jU]
theorem tV (A B i k:Nat):muV A B i k/W32 ^(i+k) < W32:=by
 have hi:0 < W32 ^i:=s7 l6
 have hk:0 < W32 ^k:=s7 l6
 rw [D9 (s7 l6)]
 unfold muV
 have h1:A%W32 ^i*B%W32 ^(i+k) < W32 ^k*W32 ^i:=by
  rw [<- n9,g0x k i]
  exact F7 _ (s7 l6)
 have h2:B%W32 ^k < W32 ^k:=F7 _ hk
 have h3:dig W32 A i < W32:=D6 l6 A i
 have h4:dig W32 A i*(B%W32 ^k)+W32 ^k<=W32*W32 ^k:=by
  have:dig W32 A i*(B%W32 ^k)<=(W32-1)*W32 ^k:=sP (by omega) (K1 h2)
  generalize dig W32 A i*(B%W32 ^k)=y at*
  generalize W32 ^k=x at*
  have this:y<=4294967295*x:=this
  show y+x<=4294967296*x
  omega
 have h5:=w9 (W32 ^i) h4
 rw [A7] at h5
 have e:W32*W32 ^(i+k)=W32*W32 ^k*W32 ^i:=by rw [n9,t7 (W32 ^i),r7]
 rw [e]
 omega
theorem j1i (A B i k:Nat):muV A B i (k+1)/W32 ^(i+k)=muV A B i k/W32 ^(i+k)+(dig W32 (A%W32 ^i*B) (i+k)+dig W32 A i*dig W32 B k):=by
 rw [s0z,gC _ _ (s7 l6)]
theorem u0r (A B i:Nat):dl W32 (i+0) (muV A B i 0)=dl W32 i (A%W32 ^i*B)∧muV A B i 0/W32 ^(i+0)=0:=by
 have h:muV A B i 0=A%W32 ^i*B%W32 ^i:=by unfold muV; rw [G3,b0t,lM,K8,I1,I1]
 refine⟨?_,?_⟩
 ·refine X4 l6 (Q0 l6 _ _) (Q0 l6 _ _) (by rw [l4,l4]; rfl) ?_
  rw [H5,H5,h]
  exact Nat.mod_mod _ _
 ·rw [h]
  exact mK (F7 _ (s7 l6))
theorem m1d {A B i nb:Nat} (h:B < W32 ^nb):muV A B i nb=A%W32 ^(i+1)*B:=by
 have h0:A%W32 ^i*B < W32 ^(i+nb):=by
  rw [n9]
  exact vK (F7 _ (s7 l6)) h
 unfold muV
 rw [G7 h0,G7 h,J8,A7,r7,r7,t7 B]
def muR (A B na nb i:Nat):List Int:=dl W32 (i+nb) (A%W32 ^i*B)++zO7 (na-i) 0
def muS (A B na nb i k:Nat):List Int:=dl W32 (i+k) (muV A B i k)++(muR A B na nb i).drop (i+k)
theorem f1k {A B na nb i:Nat} (h:i<=na):(muR A B na nb i).length=na+nb:=by
 unfold muR
 rw [G8,l4,bH]
 omega
theorem h1e {A B na nb i k:Nat} (h:i<=na) (hk:k<=nb):(muS A B na nb i k).length=na+nb:=by
 unfold muS
 rw [G8,l4,C2,f1k h]
 omega
theorem d2j (b:Nat) (hb:0 < b) {i n:Nat} (h:i<=n) (m:Nat):(dl b n m).take i=dl b i m:=by
 have hl:((dl b n m).take i).length=i:=by rw [E0,l4,C6 h]
 refine X4 hb ((Q0 hb n m).take i) (Q0 hb i m) (by rw [hl,l4]) ?_
 have hv:=A5 b (dl b n m) i (by rw [l4]; exact h)
 have hlt:=E8 hb ((Q0 hb n m).take i)
 rw [hl] at hlt
 rw [H5] at hv ⊢
 have h2:=aP (· %b ^i) hv
 simp only [jU] at h2
 rw [G7 hlt,Nat.mod_mod_of_dvd _ (Nat.pow_dvd_pow b h)] at h2
 exact h2.symm
theorem c2n {b:Nat} {V j n:Nat} (h:j < n):dig b (V%b ^n) j=dig b V j:=by
 unfold dig
 obtain⟨g,hg⟩:∃ g,n=j+(g+1):=⟨n-j-1,by omega⟩
 rw [hg,n9,Nat.mod_mul_right_div_self]
 exact Nat.mod_mod_of_dvd _ ⟨b ^g,by rw [Nat.pow_succ']⟩
theorem p1j (A B na nb i:Nat):muS A B na nb i 0=muR A B na nb i:=by
 unfold muS
 rw [(u0r A B i).1]
 have ht:(muR A B na nb i).take i=dl W32 i (A%W32 ^i*B):=by
  unfold muR
  rw [s0c (by rw [l4]; omega),d2j W32 l6 (by omega)]
 rw [<- ht,I1,k1n]
theorem v1d {A B na nb i k:Nat} (hk:k < nb):(muR A B na nb i).getD (i+k) 0=((dig W32 (A%W32 ^i*B) (i+k):Nat):Int):=by
 unfold muR
 rw [bD,i1h (by rw [l4]; omega),<- bD,B1 l6 (Q0 l6 _ _),H5]
 rw [c2n (by omega)]
theorem n1n {A B na nb i k:Nat} (hi:i<=na) (h:i+k < na+nb):(muR A B na nb i).drop (i+k)=(muR A B na nb i).getD (i+k) 0 ::(muR A B na nb i).drop (i+k+1):=by
 have hl:i+k < (muR A B na nb i).length:=by rw [f1k hi]; exact h
 rw [y0l hl,bD,z0u hl]
 rfl
theorem w1h {A B na nb i k:Nat} (hi:i < na) (hk:k < nb):(muS A B na nb i k).getD (i+k) 0=((dig W32 (A%W32 ^i*B) (i+k):Nat):Int):=by
 unfold muS
 rw [n1n (K1 hi) (by omega),y1g,v1d hk]
theorem f1m {A B na nb i k:Nat} (hi:i < na) (hk:k<=nb) (x:Nat):(muS A B na nb i k).set (i+k) (x:Int)=dl W32 (i+k) (muV A B i k)++(x:Int) ::(muR A B na nb i).drop (i+k+1):=by
 unfold muS
 rw [n1n (K1 hi) (by omega),uQ]
theorem u1b {A B na nb i k:Nat} (hi:i < na) (hk:k < nb):(muS A B na nb i k).set (i+k) (((muV A B i k/W32 ^(i+k)+(dig W32 (A%W32 ^i*B) (i+k)+dig W32 A i*dig W32 B k))%W32:Nat):Int)=muS A B na nb i (k+1):=by
 rw [f1m hi (K1 hk)]
 unfold muS
 rw [show i+(k+1)=i+k+1 from rfl,cP W32 l6,d2t,lU,kK]
 congr 2
 rw [<- j1i]
 rfl
theorem e2v {A B na nb i:Nat} (hi:i < na) (hB:B < W32 ^nb):(muS A B na nb i nb).set (i+nb) ((muV A B i nb/W32 ^(i+nb):Nat):Int)=muR A B na nb (i+1):=by
 have hc:=tV A B i nb
 rw [f1m hi (d9 _)]
 have hd:(muR A B na nb i).drop (i+nb+1)=zO7 (na- (i+1)) 0:=by
  unfold muR
  rw [List.drop_append,List.drop_eq_nil_of_le (by rw [l4]; omega),l4,pF,List.drop_replicate]
  congr 1
  omega
 rw [hd]
 unfold muR
 rw [show i+1+nb=i+nb+1 by omega,cP W32 l6,m1d hB,lU,kK]
 congr 2
 unfold dig
 rw [m1d hB] at hc
 rw [G7 hc]
def cLf:Code:=z8 zO8 226 0
def tLf (xs L:List Int) (n i:Int) (nx nl:Nat):St:=⟨only 59 [(0, .slice (some ⟨11,0,some 12⟩) nx 0),(1, .int .i64 n),(5, .slice (some ⟨13,0,some 14⟩) nl 0),(6, .int .i64 i)],[(13, .row mW 1 (.ints .u32 L) 14),(11, .ints .u32 xs)],15,[],[],0,none,[],13⟩
abbrev lfq (n i:Int):Int:=iI.wrap (i+iI.wrap (n.tdiv 32))
abbrev lfp (n i:Int):Int:=iI.wrap (lfq n i+1)
abbrev lfN (n:Int) (l:Nat):Int:=iI.wrap (iI.wrap ((l:Int)+iI.wrap (n.tdiv 32))+1)
abbrev lfW (xs:List Int) (n i:Int):Int:=uI.wrap (uI.wrap (xs.getD (s4 0 i.toNat) 0)*2 ^min (n.tmod 32).toNat uI.bits)
abbrev orW (a b:Int):Int:=uJ.wrap ((zO11 uJ.bits a||| zO11 uJ.bits b).toNat:Int)
abbrev lf1 (xs L:List Int) (n i:Int):List Int:=S5 L (s4 0 (lfq n i).toNat) (orW (L.getD (s4 0 (lfq n i).toNat) 0) (uJ.wrap (lfW xs n i)))
abbrev lf2 (xs L:List Int) (n i:Int):List Int:=S5 (lf1 xs L n i) (s4 0 (lfp n i).toNat) (orW ((lf1 xs L n i).getD (s4 0 (lfp n i).toNat) 0) (uJ.wrap ((lfW xs n i).fdiv (2 ^min (Int.toNat 32) uI.bits))))
abbrev inL (L:List Int) (k:Int) (nl:Nat):List Prop:=[s4 0 k.toNat < L.length,(0<=k∧k < (nl:Int))∧0 < L.length]
section
variable (xs L R:List Int) (n i:Int) (nx nl:Nat)
theorem z2j (hl:l5 (inL (lf1 xs L n i) (lfp n i) nl++inL (lf1 xs L n i) (lfp n i) nl++inL L (lfq n i) nl++inL L (lfq n i) nl++[0<=n.tmod 32] ++inL xs i nx++[decide (i < (nx:Int))=true])):u4 C4 cLf (tLf xs L n i nx nl) .normal (tLf xs (lf2 xs L n i) n (iI.wrap (i+1)) nx nl):=
 stp x8 10 progOk.mixed [true] [] (by kernel_rfl) hl
theorem j2h (hl:l5 [decide (i < (nx:Int))=false]):u4 C4 cLf (tLf xs L n i nx nl) (.exit 0) (tLf xs L n i nx nl):=
 stp x8 10 progOk.mixed [false] [] (by kernel_rfl) hl
theorem l2y:B2 C4 [] 200 226 [nL xs,iR n] [nL R] [true] =some [((xs.length:Int)==0)=true,0=R.length∧0<=0∧[] =R∧0=0∧0<=9223372036854775807] :=by kernel_rfl
theorem k2u:B2 C4 [H7 (.exit 0) (fun _=>tLf xs L n i nx nl)] 200 226 [nL xs,iR n] [nL R] [false] =some [0=0∧0+nl<=L.length∧L.length < 1099511627776,b9 C4 cLf (m8 C4 200 226 [nL xs,iR n] [false]) (.exit 0) (tLf xs L n i nx nl),0<=lfN n xs.length∧lfN n xs.length=lfN n xs.length∧4*lfN n xs.length<=281474976710656∧lfN n xs.length<=9223372036854775807,((xs.length:Int)==0)=false,(n8 ((L.drop 0).take nl)).length=R.length∧(n8 ((L.drop 0).take nl)).length<=L.length∧L.take (n8 ((L.drop 0).take nl)).length=R] :=by kernel_rfl
theorem g2i {x:AX} {s':St} (h:b9 C4 cLf (tLf xs (zO7 (lfN n xs.length).toNat 0) n ((0:Nat):Int) xs.length (lfN n xs.length).toNat) x s'):b9 C4 cLf (m8 C4 200 226 [nL xs,iR n] [false]) x s':=
 l9 h []
end
theorem f0p {a b:Nat} (ha:a < W32) (hb:b < W32):orW (a:Int) (b:Int)=((a||| b:Nat):Int):=by
 show uJ.wrap ((zO11 uJ.bits (a:Int)||| zO11 uJ.bits (b:Int)).toNat:Int)=_
 rw [pG,a0y ha,a0y hb]
 exact y0p (Nat.or_lt_two_pow (n:=32) ha hb)
theorem g2s {xs:List Int} {A n i:Nat} (hx:Dg W32 xs) (hA:val W32 xs=A) (hl:xs.length < 1099511627) (hn:n < 1099511627) (hi:i < xs.length):
  u4 C4 cLf (tLf xs (lfR A n xs.length i) (n:Int) (i:Int) xs.length (xs.length+n/32+1)) .normal (tLf xs (lfR A n xs.length (i+1)) (n:Int) ((i+1:Nat):Int) xs.length (xs.length+n/32+1)):=by
 have hlen:=d1v (A:=A) (n:=n) (K1 hi)
 obtain⟨d1,d2,d3⟩:=e0v A n i
 have hg:xs.getD (s4 0 ((i:Int)).toNat) 0=(dig W32 A i:Int):=by rw [q9,I0,g9,B1 l6 hx i,hA]
 have hd:dig W32 A i < 4294967296:=D6 l6 A i
 have hdiv:iI.wrap ((n:Int).tdiv 32)=((n/32:Nat):Int):=by
  rw [show (n:Int).tdiv 32=((n/32:Nat):Int) from rfl]
  exact y1v (by omega)
 have hq:lfq (n:Int) (i:Int)=((i+n/32:Nat):Int):=by
  show iI.wrap ((i:Int)+iI.wrap ((n:Int).tdiv 32))=_
  rw [hdiv,<- dZ]
  exact y1v (by omega)
 have hp:lfp (n:Int) (i:Int)=((i+n/32+1:Nat):Int):=by
  show iI.wrap (lfq (n:Int) (i:Int)+1)=_
  rw [hq]
  exact a1n (by omega)
 have hr:n%32 < 32:=F7 _ (by decide)
 have hpow:2 ^(n%32)<=2147483648:=x7 (y5 (by decide) (show n%32<=31 by omega)) (by decide)
 have hy:dig W32 A i*2 ^(n%32)<=4294967295*2147483648:=sP (by omega) hpow
 have hW:lfW xs (n:Int) (i:Int)=((dig W32 A i*2 ^(n%32):Nat):Int):=by
  show uI.wrap (uI.wrap (xs.getD (s4 0 ((i:Int)).toNat) 0)*2 ^min ((n:Int).tmod 32).toNat 64)=_
  rw [hg,qT (by omega),show ((n:Int).tmod 32).toNat=n%32 from rfl,C6 (by omega)]
  rw [show ((dig W32 A i:Nat):Int)*2 ^(n%32)=((dig W32 A i*2 ^(n%32):Nat):Int) by rw [V9,bI]; rfl]
  exact qT (by omega)
 have hc:lfV A n i/W32 ^(i+n/32) < W32:=C8 d1 (x7 hpow (by decide))
 have h1:lf1 xs (lfR A n xs.length i) (n:Int) (i:Int)=dl W32 (i+n/32) (lfV A n i)++(((lfV A n i/W32 ^(i+n/32))||| (dig W32 A i*2 ^(n%32)%W32):Nat):Int) ::(0:Int) ::zO7 (xs.length- (i+1)) 0:=by
  show S5 (lfR A n xs.length i) (s4 0 (lfq (n:Int) (i:Int)).toNat) (orW ((lfR A n xs.length i).getD (s4 0 (lfq (n:Int) (i:Int)).toNat) 0) (uJ.wrap (lfW xs (n:Int) (i:Int))))=_
  rw [hq,hW,A0,q9,I0,g9,n2x]
  unfold lfR
  rw [y1g,f0p hc (F7 _ l6),uQ,show xs.length-i=(xs.length- (i+1))+1 by omega,xW]
 have h1l:(lf1 xs (lfR A n xs.length i) (n:Int) (i:Int)).length=xs.length+n/32+1:=by
  rw [h1,G8,l4,A4,A4,bH]
  omega
 have h2:lf2 xs (lfR A n xs.length i) (n:Int) (i:Int)=lfR A n xs.length (i+1):=by
  show S5 (lf1 xs (lfR A n xs.length i) (n:Int) (i:Int)) (s4 0 (lfp (n:Int) (i:Int)).toNat) (orW ((lf1 xs (lfR A n xs.length i) (n:Int) (i:Int)).getD (s4 0 (lfp (n:Int) (i:Int)).toNat) 0) (uJ.wrap ((lfW xs (n:Int) (i:Int)).fdiv 4294967296)))=_
  have h32:dig W32 A i*2 ^(n%32)/W32 < W32:=by
   show dig W32 A i*2 ^(n%32)/4294967296 < 4294967296
   omega
  have ho:=f0p (a:=0) (b:=dig W32 A i*2 ^(n%32)/W32) l6 h32
  rw [h1,hp,hW,u0e,A0,q9,I0,g9,y0p h32,g2y]
  rw [show orW (0:Int) ((dig W32 A i*2 ^(n%32)/4294967296:Nat):Int)=((dig W32 A i*2 ^(n%32)/W32:Nat):Int) from ho.trans (by rw [Nat.zero_or])]
  rw [b2b,t1x]
 have hs:=z2j xs (lfR A n xs.length i) (n:Int) (i:Int) xs.length (xs.length+n/32+1) (by
  have k0:l5 (inL (lf1 xs (lfR A n xs.length i) (n:Int) (i:Int)) (lfp (n:Int) (i:Int)) (xs.length+n/32+1)):=by
   rw [hp]
   exact⟨by rw [h1l,q9,g9]; omega,⟨⟨by omega,by omega⟩,by rw [h1l]; omega⟩,a6⟩
  have k1:l5 (inL (lfR A n xs.length i) (lfq (n:Int) (i:Int)) (xs.length+n/32+1)):=by
   rw [hq]
   exact⟨by rw [hlen,q9,g9]; omega,⟨⟨by omega,by omega⟩,by rw [hlen]; omega⟩,a6⟩
  have k2:l5 (inL xs (i:Int) xs.length):=⟨by rw [q9,g9]; omega,⟨⟨by omega,by omega⟩,by omega⟩,a6⟩
  exact (a8 _ _).2 ⟨(a8 _ _).2 ⟨(a8 _ _).2 ⟨(a8 _ _).2 ⟨(a8 _ _).2 ⟨(a8 _ _).2 ⟨k0,k0⟩,k1⟩,k1⟩,show (0:Int)<=((n%32:Nat):Int) from w7 _,a6⟩,k2⟩,i6 (by omega),a6⟩)
 rw [h2,a1n (by omega)] at hs
 exact hs
theorem g1z {xs:List Int} {A n:Nat} (hx:Dg W32 xs) (hA:val W32 xs=A) (hl:xs.length < 1099511627) (hn:n < 1099511627):Ev.Sem zO8 J0 226 [nL xs,iR (n:Int)] [nL (ws W32 (A*2 ^n))] :=by
 by_cases h0:xs.length=0
 ·have hx0:=cJ h0
  subst hx0
  have:A=0:=hA.symm
  subst this
  rw [K8]
  exact l7 x8 10 _ _ (l2y [] (ws W32 0) (n:Int)) ⟨rfl,⟨rfl,d9 _,rfl,rfl,by decide⟩,a6⟩
 have hdiv:iI.wrap ((n:Int).tdiv 32)=((n/32:Nat):Int):=by
  rw [show (n:Int).tdiv 32=((n/32:Nat):Int) from rfl]
  exact y1v (by omega)
 have hN:lfN (n:Int) xs.length=((xs.length+n/32+1:Nat):Int):=by
  show iI.wrap (iI.wrap ((xs.length:Int)+iI.wrap ((n:Int).tdiv 32))+1)=_
  rw [hdiv,<- dZ,y1v (by omega)]
  exact a1n (by omega)
 have hloop:=g2i xs (n:Int) (x:= .exit 0) (s':=tLf xs (lfR A n xs.length xs.length) (n:Int) (xs.length:Int) xs.length (xs.length+n/32+1)) (by
  rw [hN,g9,<- p1i A n xs.length]
  exact x5 (fun i=>tLf xs (lfR A n xs.length i) (n:Int) (i:Int) xs.length (xs.length+n/32+1)) xs.length (by intro e; cases e) (fun i hi=>g2s hx hA hl hn hi) (j2h _ _ _ _ _ _ ⟨d8 (by omega),a6⟩))
 have hlen:=d1v (A:=A) (n:=n) (d9 xs.length)
 have hAl:A < W32 ^xs.length:=by rw [<- hA]; exact E8 l6 hx
 obtain⟨t1,t2,t3⟩:=oR (g2h (n:=n) hAl)
 have htake:((lfR A n xs.length xs.length).drop 0).take (xs.length+n/32+1)=lfR A n xs.length xs.length:=by
  rw [U8,O9 (by rw [hlen]; exact d9 _)]
 refine l7 x8 10 _ _ (k2u xs (lfR A n xs.length xs.length) (ws W32 (A*2 ^n)) (n:Int) (xs.length:Int) xs.length (xs.length+n/32+1)) ⟨⟨rfl,by omega,by omega⟩,hloop,?_,y9 (by omega),?_,a6⟩
 ·rw [hN]
  omega
 ·rw [htake]
  exact⟨t1,t2,t3⟩
def cMu:Code:=z8 zO8 162 0
def cMv:Code:=z8 zO8 162 1
def tM (tl:List (Nat×Value)) (xs ys L:List Int) (nx ny nl:Nat):St:=⟨only 67 ([(0, .slice (some ⟨11,0,some 12⟩) nx 0),(1, .slice (some ⟨13,0,some 14⟩) ny 0),(5, .slice (some ⟨15,0,some 16⟩) nl 0)] ++tl),[(15, .row mW 1 (.ints .u32 L) 16),(11, .ints .u32 xs),(13, .ints .u32 ys)],17,[],[],0,none,[],15⟩
abbrev tMu (xs ys L:List Int) (i:Int) (nx ny nl:Nat):St:=tM [(6, .int .i64 i)] xs ys L nx ny nl
abbrev tMv (xs ys L:List Int) (i c k:Int) (nx ny nl:Nat):St:=tM [(6, .int .i64 i),(7, .int .u64 c),(8, .int .i64 k)] xs ys L nx ny nl
abbrev tMs (xs ys L:List Int) (i:Int) (nx ny nl:Nat):St:=tM [(6, .int .i64 i),(7, .int .u64 0),(8, .int .i64 0),(15, .int .i64 i),(16, .slice (some ⟨11,0,some 12⟩) nx 0),(17, .int .i64 (nx:Int)),(18, .bool (decide (i < (nx:Int))))] xs ys L nx ny nl
abbrev muP (i k:Int):Int:=iI.wrap (i+k)
abbrev muW (xs ys L:List Int) (i c k:Int):Int:=uI.wrap (c+uI.wrap (uI.wrap (L.getD (s4 0 (muP i k).toNat) 0)+uI.wrap (uI.wrap (xs.getD (s4 0 i.toNat) 0)*uI.wrap (ys.getD (s4 0 k.toNat) 0))))
abbrev muL (xs ys L:List Int) (i c k:Int):List Int:=S5 L (s4 0 (muP i k).toNat) (uJ.wrap (muW xs ys L i c k))
section
variable (xs ys L M R:List Int) (i c k:Int) (nx ny nl:Nat)
theorem v2f (hl:l5 (inL L (muP i k) nl++inL ys k ny++inL xs i nx++inL L (muP i k) nl++[decide (k < (ny:Int))=true])):u4 C4 cMv (tMv xs ys L i c k nx ny nl) .normal (tMv xs ys (muL xs ys L i c k) i ((muW xs ys L i c k).fdiv 4294967296) (iI.wrap (k+1)) nx ny nl):=
 stp x8 10 progOk.mixed [true] [] (by kernel_rfl) hl
theorem n2d (hl:l5 [decide (k < (ny:Int))=false]):u4 C4 cMv (tMv xs ys L i c k nx ny nl) (.exit 2) (tMv xs ys L i c k nx ny nl):=
 stp x8 10 progOk.mixed [false] [] (by kernel_rfl) hl
theorem d2p {x:AX} {s':St} (h:b9 C4 cMv (tMv xs ys L i 0 ((0:Nat):Int) nx ny nl) x s'):b9 C4 cMv (tMs xs ys L i nx ny nl) x s':=
 l9 h []
theorem y2u (hl:l5 (inL M (muP i (ny:Int)) nl++[b9 C4 cMv (tMs xs ys L i nx ny nl) (.exit 2) (tMv xs ys M i c k nx ny nl),decide (i < (nx:Int))=true])):u4 C4 cMu (tMu xs ys L i nx ny nl) .normal (tMu xs ys (S5 M (s4 0 (muP i (ny:Int)).toNat) (uJ.wrap c)) (iI.wrap (i+1)) nx ny nl):=
 q0e (u6 x8 10).1 progOk.mixed [H7 (.exit 2) (fun _=>tMv xs ys M i c k nx ny nl)] 200 [true] [] (by kernel_rfl) hl (by kernel_rfl) (by kernel_rfl)
theorem m2f (hl:l5 [decide (i < (nx:Int))=false]):u4 C4 cMu (tMu xs ys L i nx ny nl) (.exit 0) (tMu xs ys L i nx ny nl):=
 stp x8 10 progOk.mixed [false] [] (by kernel_rfl) hl
abbrev muN (xs ys:List Int):Int:=iI.wrap ((xs.length:Int)+(ys.length:Int))
theorem b2x {x:AX} {s':St} (h:b9 C4 cMu (tMu xs ys (zO7 (muN xs ys).toNat 0) ((0:Nat):Int) xs.length ys.length (muN xs ys).toNat) x s'):b9 C4 cMu (m8 C4 200 162 [nL xs,nL ys] []) x s':=
 l9 h []
theorem q2z:B2 C4 [H7 (.exit 0) (fun _=>tMu xs ys L i nx ny nl)] 200 162 [nL xs,nL ys] [nL R] [] =some [0=0∧0+nl<=L.length∧L.length < 1099511627776,b9 C4 cMu (m8 C4 200 162 [nL xs,nL ys] []) (.exit 0) (tMu xs ys L i nx ny nl),0<=muN xs ys∧muN xs ys=muN xs ys∧4*muN xs ys<=281474976710656∧muN xs ys<=9223372036854775807,(n8 ((L.drop 0).take nl)).length=R.length∧(n8 ((L.drop 0).take nl)).length<=L.length∧L.take (n8 ((L.drop 0).take nl)).length=R] :=by kernel_rfl
end
theorem q1w {a b:Nat} (ha:a < 4294967296) (hb:b < 4294967296):a*b<=18446744065119617025:=x7 (sP (show a<=4294967295 by omega) (show b<=4294967295 by omega)) (by decide)
section
variable {xs ys:List Int} {A B:Nat} (hx:Dg W32 xs) (hy:Dg W32 ys) (hA:val W32 xs=A) (hB:val W32 ys=B) (hl:xs.length+ys.length < 1099511627)
include hx hy hA hB hl
theorem a2x {i k:Nat} (hi:i < xs.length) (hk:k < ys.length):
  u4 C4 cMv (tMv xs ys (muS A B xs.length ys.length i k) (i:Int) ((muV A B i k/W32 ^(i+k):Nat):Int) (k:Int) xs.length ys.length (xs.length+ys.length)) .normal (tMv xs ys (muS A B xs.length ys.length i (k+1)) (i:Int) ((muV A B i (k+1)/W32 ^(i+(k+1)):Nat):Int) ((k+1:Nat):Int) xs.length ys.length (xs.length+ys.length)):=by
 have hlen:=h1e (A:=A) (B:=B) (K1 hi) (K1 hk)
 have hcar:muV A B i k/W32 ^(i+k) < 4294967296:=tV A B i k
 have hd:muV A B i (k+1)/W32 ^(i+(k+1))=(muV A B i k/W32 ^(i+k)+(dig W32 (A%W32 ^i*B) (i+k)+dig W32 A i*dig W32 B k))/4294967296:=by
  rw [<- j1i,show i+(k+1)=i+k+1 from rfl,y8,<- P0]
 have hgx:xs.getD (s4 0 ((i:Int)).toNat) 0=(dig W32 A i:Int):=by rw [q9,I0,g9,B1 l6 hx i,hA]
 have hgy:ys.getD (s4 0 ((k:Int)).toNat) 0=(dig W32 B k:Int):=by rw [q9,I0,g9,B1 l6 hy k,hB]
 have hp:muP (i:Int) (k:Int)=((i+k:Nat):Int):=by
  show iI.wrap ((i:Int)+(k:Int))=_
  rw [<- dZ]
  exact y1v (by omega)
 have hgL:(muS A B xs.length ys.length i k).getD (s4 0 (muP (i:Int) (k:Int)).toNat) 0=((dig W32 (A%W32 ^i*B) (i+k):Nat):Int):=by
  rw [hp,q9,I0,g9,w1h hi hk]
 have hnext:=u1b (A:=A) (B:=B) hi hk
 have h1:dig W32 A i < 4294967296:=D6 l6 A i
 have h2:dig W32 B k < 4294967296:=D6 l6 B k
 have h3:dig W32 (A%W32 ^i*B) (i+k) < 4294967296:=D6 l6 _ _
 have h4:=q1w h1 h2
 generalize muV A B i k/W32 ^(i+k)=cy at*
 generalize dig W32 A i=a at*
 generalize dig W32 B k=b at*
 generalize dig W32 (A%W32 ^i*B) (i+k)=o at*
 have hW:muW xs ys (muS A B xs.length ys.length i k) (i:Int) (cy:Int) (k:Int)=((cy+(o+a*b):Nat):Int):=by
  show uI.wrap ((cy:Int)+uI.wrap (uI.wrap ((muS A B xs.length ys.length i k).getD (s4 0 (muP (i:Int) (k:Int)).toNat) 0)+uI.wrap (uI.wrap (xs.getD (s4 0 ((i:Int)).toNat) 0)*uI.wrap (ys.getD (s4 0 ((k:Int)).toNat) 0))))=_
  rw [hgL,hgx,hgy,qT (n:=a) (by omega),qT (n:=b) (by omega),<- V9,qT (n:=o) (by omega),qT (n:=a*b) (by omega),<- dZ,qT (n:=o+a*b) (by omega),<- dZ,qT (by omega)]
 have hL:muL xs ys (muS A B xs.length ys.length i k) (i:Int) (cy:Int) (k:Int)=muS A B xs.length ys.length i (k+1):=by
  show S5 (muS A B xs.length ys.length i k) (s4 0 (muP (i:Int) (k:Int)).toNat) (uJ.wrap (muW xs ys (muS A B xs.length ys.length i k) (i:Int) (cy:Int) (k:Int)))=_
  rw [hW,n2x,hp,A0,q9,I0,g9]
  exact hnext
 have k1:l5 (inL (muS A B xs.length ys.length i k) (muP (i:Int) (k:Int)) (xs.length+ys.length)):=by
  rw [hp]
  exact⟨by rw [hlen,q9,g9]; omega,⟨⟨by omega,by omega⟩,by rw [hlen]; omega⟩,a6⟩
 have k2:l5 (inL xs (i:Int) xs.length):=⟨by rw [q9,g9]; omega,⟨⟨by omega,by omega⟩,by omega⟩,a6⟩
 have k3:l5 (inL ys (k:Int) ys.length):=⟨by rw [q9,g9]; omega,⟨⟨by omega,by omega⟩,by omega⟩,a6⟩
 have hs:=v2f xs ys (muS A B xs.length ys.length i k) (i:Int) (cy:Int) (k:Int) xs.length ys.length (xs.length+ys.length) ((a8 _ _).2 ⟨(a8 _ _).2 ⟨(a8 _ _).2 ⟨(a8 _ _).2 ⟨k1,k3⟩,k2⟩,k1⟩,i6 (by omega),a6⟩)
 rw [hL,hW,u0e,a1n (by omega),<- hd] at hs
 exact hs
theorem b2p {i:Nat} (hi:i < xs.length):
  u4 C4 cMu (tMu xs ys (muR A B xs.length ys.length i) (i:Int) xs.length ys.length (xs.length+ys.length)) .normal (tMu xs ys (muR A B xs.length ys.length (i+1)) ((i+1:Nat):Int) xs.length ys.length (xs.length+ys.length)):=by
 have hBl:B < W32 ^ys.length:=by rw [<- hB]; exact E8 l6 hy
 have hlen:=h1e (A:=A) (B:=B) (K1 hi) (d9 ys.length)
 have hcar:muV A B i ys.length/W32 ^(i+ys.length) < W32:=tV A B i ys.length
 have hin:b9 C4 cMv (tMs xs ys (muR A B xs.length ys.length i) (i:Int) xs.length ys.length (xs.length+ys.length)) (.exit 2) (tMv xs ys (muS A B xs.length ys.length i ys.length) (i:Int) ((muV A B i ys.length/W32 ^(i+ys.length):Nat):Int) (ys.length:Int) xs.length ys.length (xs.length+ys.length)):=by
  apply d2p
  have h:=x5 (X:=C4) (c:=cMv) (fun k=>tMv xs ys (muS A B xs.length ys.length i k) (i:Int) ((muV A B i k/W32 ^(i+k):Nat):Int) (k:Int) xs.length ys.length (xs.length+ys.length)) ys.length (x:= .exit 2) (by intro e; cases e) (fun k hk=>a2x hx hy hA hB hl hi hk) (n2d _ _ _ _ _ _ _ _ _ ⟨d8 (by omega),a6⟩)
  rw [p1j,(u0r A B i).2] at h
  exact h
 have hp:muP (i:Int) (ys.length:Int)=((i+ys.length:Nat):Int):=by
  show iI.wrap ((i:Int)+(ys.length:Int))=_
  rw [<- dZ]
  exact y1v (by omega)
 have hs:=y2u xs ys (muR A B xs.length ys.length i) (muS A B xs.length ys.length i ys.length) (i:Int) ((muV A B i ys.length/W32 ^(i+ys.length):Nat):Int) (ys.length:Int) xs.length ys.length (xs.length+ys.length) ((a8 _ _).2 ⟨by
  rw [hp]
  exact⟨by rw [hlen,q9,g9]; omega,⟨⟨by omega,by omega⟩,by rw [hlen]; omega⟩,a6⟩,hin,i6 (by omega),a6⟩)
 rw [hp,A0,q9,I0,g9,y0p hcar,e2v hi hBl,a1n (by omega)] at hs
 exact hs
theorem w1b:Ev.Sem zO8 J0 162 [nL xs,nL ys] [nL (ws W32 (A*B))] :=by
 have hN:muN xs ys=((xs.length+ys.length:Nat):Int):=by
  show iI.wrap ((xs.length:Int)+(ys.length:Int))=_
  rw [<- dZ]
  exact y1v (by omega)
 have hR0:muR A B xs.length ys.length 0=zO7 (xs.length+ys.length) 0:=by
  unfold muR
  rw [G3,b0t,K8,I0,y0g]
  have h0:dl W32 ys.length 0=zO7 ys.length 0:=by
   symm
   exact s1i l6 (H8 _ l6 _) (by rw [bH]) (O4 _ _)
  rw [h0,List.replicate_append_replicate,g0x]
 have hAl:A < W32 ^xs.length:=by rw [<- hA]; exact E8 l6 hx
 have hBl:B < W32 ^ys.length:=by rw [<- hB]; exact E8 l6 hy
 have hloop:=b2x xs ys (x:= .exit 0) (s':=tMu xs ys (muR A B xs.length ys.length xs.length) (xs.length:Int) xs.length ys.length (xs.length+ys.length)) (by
  rw [hN,g9,<- hR0]
  exact x5 (fun i=>tMu xs ys (muR A B xs.length ys.length i) (i:Int) xs.length ys.length (xs.length+ys.length)) xs.length (by intro e; cases e) (fun i hi=>b2p hx hy hA hB hl hi) (m2f _ _ _ _ _ _ _ ⟨d8 (by omega),a6⟩))
 have hE:muR A B xs.length ys.length xs.length=dl W32 (xs.length+ys.length) (A*B):=by
  unfold muR
  rw [G7 hAl,L0,t0s,a1a]
 have hlt:A*B < W32 ^(xs.length+ys.length):=by
  rw [n9]
  exact vK hAl hBl
 have ht:n8 (dl W32 (xs.length+ys.length) (A*B))=ws W32 (A*B):=by
  rw [E1 n4 (Q0 l6 _ _),H5,G7 hlt]
 obtain⟨t1,t2,t3⟩:=oR ht
 have htake:((dl W32 (xs.length+ys.length) (A*B)).drop 0).take (xs.length+ys.length)=dl W32 (xs.length+ys.length) (A*B):=by
  rw [U8,O9 (by rw [l4]; exact d9 _)]
 refine l7 x8 10 _ _ (q2z xs ys (muR A B xs.length ys.length xs.length) (ws W32 (A*B)) (xs.length:Int) xs.length ys.length (xs.length+ys.length)) ⟨?_,hloop,?_,?_,a6⟩
 ·rw [hE,l4]
  exact⟨rfl,by omega,by omega⟩
 ·rw [hN]
  omega
 ·rw [hE,htake]
  exact⟨t1,t2,t3⟩
end
def CnN (xs:List Int):Prop:=xs=ws W32 (val W32 xs)∧xs.length < 1000000
def LeN (xs ys:List Int):Prop:=val W32 xs<=val W32 ys
def lfX (xs:List Int) (n:Int):List Int:=ws W32 (val W32 xs*2 ^n.toNat)
def muX (xs ys:List Int):List Int:=ws W32 (val W32 xs*val W32 ys)
def sbX (xs ys:List Int):List Int:=ws W32 (val W32 xs-val W32 ys)
def hfX (xs:List Int):List Int:=ws W32 (val W32 xs/2)
def cpX (xs ys:List Int):Int:=cmV (val W32 xs) (val W32 ys)
def lnX (xs:List Int):Int:=(bl (val W32 xs):Int)
def tnX (n:Int):List Int:=ws W32 (10 ^n.toNat)
theorem CnN.dg {xs:List Int} (h:CnN xs):Dg W32 xs:=by rw [h.1]; exact j0a n4 _
def c1p:List Arg->Option (List Arg×List Prop)
 | [.c (.s 33 .u32 xs), .c (.v (.int .i64 n))] =>some ([nL (lfX xs n)],[CnN xs,0<=n∧n < 10000000])
 | _=>none
def p0z:List Arg->Option (List Arg×List Prop)
 | [.c (.s 33 .u32 xs), .c (.s 33 .u32 ys)] =>some ([nL (muX xs ys)],[CnN xs,CnN ys])
 | _=>none
def e1h:List Arg->Option (List Arg×List Prop)
 | [.c (.s 33 .u32 xs), .c (.s 33 .u32 ys)] =>some ([nL (sbX xs ys)],[CnN xs,CnN ys,LeN ys xs])
 | _=>none
def k1e:List Arg->Option (List Arg×List Prop)
 | [.c (.s 33 .u32 xs)] =>some ([nL (hfX xs)],[CnN xs])
 | _=>none
def o1g:List Arg->Option (List Arg×List Prop)
 | [.c (.s 33 .u32 xs), .c (.s 33 .u32 ys)] =>some ([.c (.v (.int .i64 (cpX xs ys)))],[CnN xs,CnN ys])
 | _=>none
def g1d:List Arg->Option (List Arg×List Prop)
 | [.c (.s 33 .u32 xs)] =>some ([.c (.v (.int .i64 (lnX xs)))],[CnN xs])
 | _=>none
def n1k:List Arg->Option (List Arg×List Prop)
 | [.c (.v (.int .i64 n))] =>some ([nL (tnX n)],[0<=n∧n<=100000])
 | _=>none
theorem k1z:∀ az rs l,c1p az=some (rs,l)->l5 l->Ev.Sem zO8 J0 226 az rs:=by
 intro az rs l h hl
 unfold c1p at h
 split at h
 ·rename_i xs n
  cases h
  obtain⟨h1,⟨h2,h3⟩,_⟩:=hl
  have:=g1z (xs:=xs) (n:=n.toNat) h1.dg rfl (by have:=h1.2; omega) (by omega)
  rw [I8 h2] at this
  exact this
 ·cases h
theorem z0v:∀ az rs l,p0z az=some (rs,l)->l5 l->Ev.Sem zO8 J0 162 az rs:=by
 intro az rs l h hl
 unfold p0z at h
 split at h
 ·cases h
  obtain⟨h1,h2,_⟩:=hl
  exact w1b h1.dg h2.dg rfl rfl (by have:=h1.2; have:=h2.2; omega)
 ·cases h
theorem e1r:∀ az rs l,e1h az=some (rs,l)->l5 l->Ev.Sem zO8 J0 283 az rs:=by
 intro az rs l h hl
 unfold e1h at h
 split at h
 ·cases h
  obtain⟨h1,h2,h3,_⟩:=hl
  exact q1b h1.dg h2.dg rfl rfl (by have:=h1.2; omega) h3
 ·cases h
theorem f1p:∀ az rs l,k1e az=some (rs,l)->l5 l->Ev.Sem zO8 J0 284 az rs:=by
 intro az rs l h hl
 unfold k1e at h
 split at h
 ·cases h
  obtain⟨h1,_⟩:=hl
  exact s1z h1.dg rfl (by have:=h1.2; omega)
 ·cases h
theorem c1j:∀ az rs l,o1g az=some (rs,l)->l5 l->Ev.Sem zO8 J0 229 az rs:=by
 intro az rs l h hl
 unfold o1g at h
 split at h
 ·rename_i xs ys
  cases h
  obtain⟨⟨h1,h2⟩,⟨h3,_⟩,_⟩:=hl
  have:=s1k (A:=val W32 xs) (B:=val W32 ys) (by rw [<- h1]; omega)
  rw [<- h1,<- h3] at this
  exact this
 ·cases h
theorem e1f:∀ az rs l,g1d az=some (rs,l)->l5 l->Ev.Sem zO8 J0 161 az rs:=by
 intro az rs l h hl
 unfold g1d at h
 split at h
 ·rename_i xs
  cases h
  obtain⟨⟨h1,h2⟩,_⟩:=hl
  have:=h2b (A:=val W32 xs) (by rw [<- h1]; omega)
  rw [<- h1] at this
  exact this
 ·cases h
theorem m1z:∀ az rs l,n1k az=some (rs,l)->l5 l->Ev.Sem zO8 J0 163 az rs:=by
 intro az rs l h hl
 unfold n1k at h
 split at h
 ·rename_i n
  cases h
  obtain⟨⟨h1,h2⟩,_⟩:=hl
  have:=p1m (n:=n.toNat) (by omega)
  rw [I8 h1] at this
  exact this
 ·cases h
def n0t:iV:=o8 226 (A3 [a1g,shV] c1p) (o8 162 (A3 [a1g,a1g] p0z) (o8 283 (A3 [a1g,a1g] e1h) (o8 284 (A3 [a1g] k1e)
 (o8 229 (A3 [a1g,a1g] o1g) (o8 161 (A3 [a1g] g1d) (o8 163 (A3 [shV] n1k) p0p))))))
theorem a0x:iS zO8 J0 n0t:=j0 (m9 _ k1z) (j0 (m9 _ z0v) (j0 (m9 _ e1r) (j0 (m9 _ f1p)
 (j0 (m9 _ c1j) (j0 (m9 _ e1f) (j0 (m9 _ m1z) b0z))))))
def bRn3:Base:=⟨zO8,J0,false,rH,n0t,200,L7⟩
theorem aT:BaseOk bRn3:=⟨progOk,M6,a0x,r5⟩
abbrev XRn3:=bRn3.cx 10
end Go.Proofs.YtkiejangmhhofaaGreatDoor
namespace Go.Proofs
def jK:Go.Shelf.Ren:=⟨fun | 264=>199 | n=>n,fun | 53=>27 | 46=>126 | n=>n,fun | n=>n⟩
theorem zA:Go.Proofs.Lays.n264 zO8 jK where
 mixed:=by kernel_rfl
 f264:=Tryz.func199.trans (aP some (by kernel_rfl))
 t46:=Tryz.underlying126
 a46:=Tryz.isAgg126
 z46:=Tryz.sizeOf126
 v46:=Tryz.zeroValue126
 t53:=Tryz.underlying27
 a53:=Tryz.isAgg27
 z53:=Tryz.sizeOf27
 v53:=Tryz.zeroValue27
namespace YtkiejangmhhofaaGreatDoor
open Go Go.RowKit Ev Wd
def f2t (x y:Int):Int:=((x.toNat*y.toNat/18446744073709551616:Nat):Int)
def b1m (x y:Int):Int:=((x.toNat*y.toNat%18446744073709551616:Nat):Int)
def sV:List Value->Option (Value×List Prop)
 | [.int .u64 x, .int .u64 y] =>some (.tuple ⟨[.int .u64 (f2t x y), .int .u64 (b1m x y)]⟩,[(0<=x∧x < 18446744073709551616)∧0<=y∧y < 18446744073709551616])
 | _=>none
theorem qH (args:List Value) (v:Value) (l:List Prop) (h:sV args=some (v,l)) (hl:l5 l):Pure zO8 J0 199 args v:=by
 unfold sV at h
 split at h
 case h_2=>cases h
 rename_i x y
 cases h
 obtain⟨⟨h1,h2⟩,h3,h4⟩:=hl.1
 refine⟨rfl,rfl, .inl ⟨enters_of Tryz.func199 (by kernel_rfl) (c:=_) rfl,fun w hI=> ?_⟩⟩
 have:=Any.bits_Mul64 zA x.toNat y.toNat (by omega) (by omega) w
 rw [I8 h1,I8 h3] at this
 exact this.mono fun e w' ⟨q1,q2⟩=>⟨q1,q2 ▸ Z9 _ _⟩
def n0a:List Arg->Option (List Arg×List Prop)
 | [.a [.v (.bool _), .s 27 .u64 xs]] =>some ([uR ((val W64 xs%W64:Nat):Int)],[xs=ws W64 (val W64 xs)])
 | _=>none
theorem y0q:∀ az rs l,n0a az=some (rs,l)->l5 l->Ev.Sem zO8 J0 172 az rs:=by
 intro az rs l h hl
 unfold n0a at h
 split at h
 ·rename_i a xs
  cases h
  have h1:xs=ws W64 (val W64 xs):=hl.1
  have:=f1u a (val W64 xs)
  unfold iN at this
  rw [<- h1] at this
  exact this
 ·cases h
def a2i:Tab:=r6 199 sV t1d
theorem u0j:U6 zO8 J0 a2i:=i8 qH e0a
def bW2:Base:=⟨zO8,J0,false,a2i,l0o,200,L7⟩
theorem Z5:BaseOk bW2:=⟨progOk,u0j,mE,r5⟩
abbrev XW2:Cx:=bW2.cx 10
end YtkiejangmhhofaaGreatDoor
end Go.Proofs
namespace Go.Proofs.YtkiejangmhhofaaGreatDoor
open Go Go.RowKit Ev Wd
def l0y:Code:=z8 zO8 127 0
def x0s:Code:=z8 zO8 127 1
def b3l (a b:Bool) (xs ys L:List Int) (na nb:Nat):Heap:=[(18, .row bP 1 (.ints .u64 L) 19),(17, .cells [.bool false, .slice none 0 0] rS),(16, .cells [.bool b,slV 13 nb] rS),(15, .cells [.bool a,slV 11 na] rS),(11, .ints .u64 xs),(13, .ints .u64 ys)]
def TMo (a b:Bool) (xs ys L:List Int) (na nb N:Nat) (la i:Int):St:=
 ⟨only 89 [(2, .pointer (some ⟨15,0,none⟩)),(3, .pointer (some ⟨16,0,none⟩)),(4, .pointer (some ⟨17,0,none⟩)),(5,slV 18 N),(23,slV 11 na),(24, .int .i64 la),(25, .int .i64 i)],b3l a b xs ys L na nb,20,[],[],0,none,[],15⟩
def TMi (a b:Bool) (xs ys L:List Int) (na nb N:Nat) (la i w c lb j:Int):St:=
 ⟨only 89 [(2, .pointer (some ⟨15,0,none⟩)),(3, .pointer (some ⟨16,0,none⟩)),(4, .pointer (some ⟨17,0,none⟩)),(5,slV 18 N),(6, .int .i64 i),(7, .int .u64 w),(8, .int .u64 c),(23,slV 11 na),(24, .int .i64 la),(25, .int .i64 i),(31,slV 13 nb),(32, .int .i64 lb),(33, .int .i64 j)],
  b3l a b xs ys L na nb,20,[],[],0,none,[],15⟩
def t2p (w y p c:Int):Int:=zO6 ((p.toNat+(zO6 (((b1m w y).toNat+c.toNat+0)%18446744073709551616)).toNat+0)%18446744073709551616)
def s2f (w y p c:Int):Int:=uI.wrap (uI.wrap (f2t w y+zO6 (((b1m w y).toNat+c.toNat+0)/18446744073709551616))+zO6 ((p.toNat+(zO6 (((b1m w y).toNat+c.toNat+0)%18446744073709551616)).toNat+0)/18446744073709551616))
def b3z (X:Cx) (c:Code) (s:St) (ds:List Bool):St:=match s with
 | ⟨tm,hp,n,_,_,_,rd,mq,b⟩=>match H3 X [fun s=>some (.exit 1000000,s)] 200 c ⟨tm,hp,n,ds,[],0,rd,mq,b⟩ with
  | some (_,s1)=>s1.core
  | none=>s
abbrev iL' (neg:Bool) (xs:List Int):Arg:= .a [.v (.bool neg), .s bP .u64 xs]
theorem i1i (a b:Bool) (xs ys L:List Int) (na nb N:Nat) (la i w c lb j:Int) (hl:l5 [(iI.wrap (i+j)).toNat < L.length,(zO6 0<=iI.wrap (i+j)∧iI.wrap (i+j) < zO6 N)∧0 < L.length,0<=1,(iI.wrap (i+j)).toNat < L.length,(zO6 0<=iI.wrap (i+j)∧iI.wrap (i+j) < zO6 N)∧0 < L.length,0<=1,(zO6 0<=w∧w < zO6 18446744073709551616)∧zO6 0<=ys.getD j.toNat (zO6 0)∧ys.getD j.toNat (zO6 0) < zO6 18446744073709551616,j.toNat < ys.length,(zO6 0<=j∧j < zO6 nb)∧0 < ys.length,decide (j < lb)=true]):u4 XW2 x0s (TMi a b xs ys L na nb N la i w c lb j) .normal (TMi a b xs ys (S5 L (iI.wrap (i+j)).toNat (t2p w (ys.getD j.toNat 0) (L.getD (iI.wrap (i+j)).toNat 0) c)) na nb N la i w (s2f w (ys.getD j.toNat 0) (L.getD (iI.wrap (i+j)).toNat 0) c) lb (iI.wrap (j+1))):=
 stp Z5 10 progOk.mixed [true] [] (by kernel_rfl) hl
theorem u1f (a b:Bool) (xs ys L:List Int) (na nb N:Nat) (la i w c lb j:Int) (hl:l5 [decide (j < lb)=false]):u4 XW2 x0s (TMi a b xs ys L na nb N la i w c lb j) (.exit 2) (TMi a b xs ys L na nb N la i w c lb j):=
 stp Z5 10 progOk.mixed [false] [] (by kernel_rfl) hl
theorem b1e (a b:Bool) (xs ys L M:List Int) (na nb N:Nat) (la i w c lb j:Int) (hl:l5 [(iI.wrap (i+zO6 nb)).toNat < M.length,(zO6 0<=iI.wrap (i+zO6 nb)∧iI.wrap (i+zO6 nb) < zO6 N)∧0 < M.length,b9 XW2 x0s (b3z XW2 l0y (TMo a b xs ys L na nb N la i) [true]) (.exit 2) (TMi a b xs ys M na nb N la i w c lb j),i.toNat < xs.length,(zO6 0<=i∧i < zO6 na)∧0 < xs.length,decide (i < la)=true]):u4 XW2 l0y (TMo a b xs ys L na nb N la i) .normal (TMo a b xs ys (S5 M (iI.wrap (i+(nb:Int))).toNat c) na nb N la (iI.wrap (i+1))):=
 q0e (u6 Z5 10).1 progOk.mixed [H7 (.exit 2) (fun _=>TMi a b xs ys M na nb N la i w c lb j)] 200 [true] [] (by kernel_rfl) hl (by kernel_rfl) (by kernel_rfl)
theorem u1n (a b:Bool) (xs ys L:List Int) (na nb N:Nat) (la i:Int) (hl:l5 [decide (i < la)=false]):u4 XW2 l0y (TMo a b xs ys L na nb N la i) (.exit 0) (TMo a b xs ys L na nb N la i):=
 stp Z5 10 progOk.mixed [false] [] (by kernel_rfl) hl
theorem d2n (a b s:Bool) (xs ys L R:List Int) (na nb N:Nat) (la i:Int):B2 XW2 [H7 (.exit 0) (fun _=>TMo a b xs ys L na nb N la i)] 200 127 [iL' a xs,iL' b ys] [iL' s R] [] =some [0=0∧0+N<=L.length∧L.length < 1099511627776,b9 XW2 l0y (m8 XW2 200 127 [iL' a xs,iL' b ys] []) (.exit 0) (TMo a b xs ys L na nb N la i),zO6 0<=iI.wrap (zO6 (xs.length+ys.length))∧iI.wrap (zO6 (xs.length+ys.length))=iI.wrap (zO6 (xs.length+ys.length))∧zO6 8*iI.wrap (zO6 (xs.length+ys.length))<=zO6 281474976710656∧iI.wrap (zO6 (xs.length+ys.length))<=zO6 9223372036854775807,zO9 (!a==b && decide (0 < (n8 (zO10 N L)).length))=zO9 s,(n8 (zO10 N L)).length=R.length∧(n8 (zO10 N L)).length<=L.length∧zO10 (n8 (zO10 N L)).length L=R] :=by kernel_rfl
theorem v1w {w y p c:Nat} (hw:w < W64) (hy:y < W64) (hp:p < W64) (hc:c < W64):∃ D C:Nat,t2p w y p c=D∧s2f w y p c=C∧D < W64∧C < W64∧D+W64*C=p+w*y+c:=by
 have hm:w*y<=18446744073709551615*18446744073709551615:=sP (by have:w < 18446744073709551616:=hw; omega) (by have:y < 18446744073709551616:=hy; omega)
 have hp:p < 18446744073709551616:=hp
 have hc:c < 18446744073709551616:=hc
 unfold t2p s2f b1m f2t
 simp only [g9,B4]
 generalize w*y=m at*
 simp only [R5]
 refine⟨(p+m+c)%18446744073709551616,(p+m+c)/18446744073709551616,?_,?_,F7 _ m7,?_,?_⟩
 ·congr 1
  omega
 ·omega
 ·show _ < 18446744073709551616
  omega
 ·show _+18446744073709551616*_=_
  omega
structure IMu where
 j:Nat
 c:Int
 L:List Int
def t1k (w:Int) (ys:List Int) (i:Nat) (p:IMu):IMu:=
 ⟨p.j+1,s2f w (ys.getD p.j 0) (p.L.getD (i+p.j) 0) p.c,S5 p.L (i+p.j) (t2p w (ys.getD p.j 0) (p.L.getD (i+p.j) 0) p.c)⟩
def N1 (w:Int) (ys:List Int) (i:Nat) (L:List Int) (j:Nat):IMu:=itr (t1k w ys i) j ⟨0,0,L⟩
def M7 (xs ys:List Int):Nat->List Int
 | 0=>zO7 (xs.length+ys.length) 0
 | i+1=>S5 (N1 (xs.getD i 0) ys i (M7 xs ys i) ys.length).L (i+ys.length) (N1 (xs.getD i 0) ys i (M7 xs ys i) ys.length).c
def e2o (n i ny w B P:Nat) (p:IMu):Prop:=
 p.j<=ny∧p.L.length=n∧Dg W64 p.L∧(0<=p.c∧p.c < (W64:Int))∧(∀ t,i+ny<=t->p.L.getD t 0=0)∧val W64 p.L+p.c.toNat*W64 ^(i+p.j)=P+w*(B%W64 ^p.j)*W64 ^i
theorem y0z {n i w P:Nat} {ys:List Int} (hw:w < W64) (hy:Dg W64 ys) (hn:i+ys.length<=n) {p:IMu} (h:e2o n i ys.length w (val W64 ys) P p) (hj:p.j < ys.length):e2o n i ys.length w (val W64 ys) P (t1k w ys i p):=by
 obtain⟨h1,h2,h3,h4,h5,h6⟩:=h
 have gy:=B1 m7 hy p.j
 have gp:=h3.get m7 (i+p.j)
 have ep:p.L.getD (i+p.j) 0=((p.L.getD (i+p.j) 0).toNat:Int):=by omega
 have ec:p.c=(p.c.toNat:Int):=by omega
 obtain⟨D,C,e1,e2,e3,e4,e5⟩:=v1w hw (D6 m7 (val W64 ys) p.j) (show (p.L.getD (i+p.j) 0).toNat < W64 by have:=gp.2; omega) (show p.c.toNat < W64 by have:=h4.2; omega)
 unfold t1k
 rw [A0,gy,ec,ep,e1,e2]
 refine⟨hj,by simp [h2],h3.set ⟨by omega,by exact_mod_cast e3⟩ _,⟨by simp only; omega,by simp only; exact_mod_cast e4⟩,fun t ht=> ?_,?_⟩
 ·rw [getD_set_ne (by omega)]
  exact h5 t ht
 ·have hv:=cX (b:=W64) (D:Int) (show i+p.j < p.L.length by omega)
  simp only [g9] at hv
  simp only [g9]
  rw [J8,<- s1w,y8]
  have q:(D+W64*C)*W64 ^(i+p.j)=((p.L.getD (i+p.j) 0).toNat+w*dig W64 (val W64 ys) p.j+p.c.toNat)*W64 ^(i+p.j):=by rw [e5]
  rw [A7,A7,A7] at q
  have q2:C*(W64 ^(i+p.j)*W64)=W64*C*W64 ^(i+p.j):=by rw [t7 (W64 ^(i+p.j)),<- r7,t7 C]
  have q3:w*(val W64 ys%W64 ^p.j+dig W64 (val W64 ys) p.j*W64 ^p.j)*W64 ^i=w*(val W64 ys%W64 ^p.j)*W64 ^i+w*dig W64 (val W64 ys) p.j*W64 ^(i+p.j):=by
   rw [R4,A7,n9]
   congr 1
   rw [<- r7,r7,t7 (W64 ^p.j)]
  rw [q3,q2]
  omega
theorem kP {n i w P:Nat} {ys L:List Int} (hw:w < W64) (hy:Dg W64 ys) (hn:i+ys.length<=n) (hL:L.length=n) (hD:Dg W64 L) (hz:∀ t,i+ys.length<=t->L.getD t 0=0) (hP:val W64 L=P):
  ∀ k,k<=ys.length->e2o n i ys.length w (val W64 ys) P (N1 w ys i L k)∧(N1 w ys i L k).j=k
 | 0,_=>⟨⟨s6 _,hL,hD,⟨T8 _,(show (0:Int) < ((18446744073709551616:Nat):Int) by decide)⟩,hz,by simp [N1,itr,hP,Nat.mod_one]⟩,rfl⟩
 | k+1,hk=>by
  obtain⟨h1,h2⟩:=kP hw hy hn hL hD hz hP k (by omega)
  have h3:(N1 w ys i L k).j < ys.length:=by rw [h2]; omega
  exact⟨y0z hw hy hn h1 h3,by show (N1 w ys i L k).j+1=k+1; rw [h2]⟩
def u2x (xs ys:List Int) (i:Nat) (L:List Int):Prop:=
 L.length=xs.length+ys.length∧Dg W64 L∧(∀ t,i+ys.length<=t->L.getD t 0=0)∧val W64 L=val W64 xs%W64 ^i*val W64 ys
theorem tY {xs ys:List Int} (hx:Dg W64 xs) (hy:Dg W64 ys):∀ i,i<=xs.length->u2x xs ys i (M7 xs ys i)
 | 0,_=>⟨by simp [M7],H8 _ m7 _,fun t _=>Y2 _ _,by simp [M7,O4,Nat.mod_one]⟩
 | i+1,hi=>by
  obtain⟨h1,h2,h3,h4⟩:=tY hx hy i (by omega)
  have gx:=B1 m7 hx i
  have:=(kP (D6 m7 (val W64 xs) i) hy (by omega) h1 h2 h3 h4 ys.length (d9 _))
  unfold M7
  rw [gx,A0]
  generalize N1 (dig W64 (val W64 xs) i) ys i (M7 xs ys i) ys.length=p at*
  obtain⟨⟨q1,q2,q3,q4,q5,q6⟩,q7⟩:=this
  rw [q7] at q6
  refine⟨by simp [q2],q3.set q4 _,fun t ht=> ?_,?_⟩
  ·rw [getD_set_ne (by omega)]
   exact q5 t (by omega)
  ·have hv:=cX (b:=W64) p.c (show i+ys.length < p.L.length by omega)
   rw [q5 (i+ys.length) (d9 _)] at hv
   simp only [h0f,K8,I1] at hv
   rw [hv,q6,G7 (E8 m7 hy),J8,A7]
   congr 1
   rw [O8]
theorem k1y (a b:Bool) {xs ys L:List Int} (N:Nat) (hx:Dg W64 xs) (hy:Dg W64 ys) {i:Nat} (hi:i < xs.length) (hb:xs.length+ys.length < 1099511627776) (hL:L.length=xs.length+ys.length) (hN:N=xs.length+ys.length) (hD:Dg W64 L) (hz:∀ t,i+ys.length<=t->L.getD t 0=0):
  b9 XW2 x0s (TMi a b xs ys L xs.length ys.length N xs.length i (xs.getD i 0) 0 ys.length 0) (.exit 2)
   (TMi a b xs ys (N1 (xs.getD i 0) ys i L ys.length).L xs.length ys.length N xs.length i (xs.getD i 0) (N1 (xs.getD i 0) ys i L ys.length).c ys.length ys.length):=by
 subst hN
 refine x5 (fun k=>TMi a b xs ys (N1 (xs.getD i 0) ys i L k).L xs.length ys.length (xs.length+ys.length) xs.length i (xs.getD i 0) (N1 (xs.getD i 0) ys i L k).c ys.length k) ys.length (by intro e; cases e) (fun k hk=> ?_)
  (u1f a b xs ys _ xs.length ys.length (xs.length+ys.length) xs.length i (xs.getD i 0) _ ys.length ys.length ⟨by simp,a6⟩)
 have gx:=B1 m7 hx i
 have:=kP (D6 m7 (val W64 xs) i) hy (by omega) hL hD hz rfl k (by omega)
 have e:N1 (xs.getD i 0) ys i L (k+1)=t1k (xs.getD i 0) ys i (N1 (xs.getD i 0) ys i L k):=rfl
 simp only [e]
 rw [<- gx] at this
 generalize N1 (xs.getD i 0) ys i L k=p at*
 obtain⟨⟨q1,q2,q3,q4,q5,q6⟩,q7⟩:=this
 subst q7
 have hw:iI.wrap ((i:Int)+(p.j:Int))=((i+p.j:Nat):Int):=by
  have:=t8 (n:=i+p.j) (by omega)
  simpa using this
 have hw2:=L6 (n:=p.j) (by omega)
 have gw:=hx.get m7 i
 have gy:=hy.get m7 p.j
 have hW:((W64:Nat):Int)=18446744073709551616:=rfl
 rw [hW] at gw gy
 have:=i1i a b xs ys p.L xs.length ys.length (xs.length+ys.length) xs.length i (xs.getD i 0) p.c ys.length p.j
 rw [hw,hw2] at this
 simp only [g9] at this
 have bnd:((zO6 0<=((i+p.j:Nat):Int)∧((i+p.j:Nat):Int) < zO6 (xs.length+ys.length))∧0 < p.L.length):=⟨⟨by simp only [B4]; omega,by simp only [B4]; omega⟩,by omega⟩
 exact this ⟨by omega,bnd,by omega,by omega,bnd,by omega,⟨gw,gy⟩,hk,⟨⟨by simp,by simpa using hk⟩,by omega⟩,by simpa using hk,a6⟩
theorem u1t (a b:Bool) (xs ys L:List Int) (na nb N:Nat) (la i:Int) (x:AX) (s':St) (h:b9 XW2 x0s (TMi a b xs ys L na nb N la i (xs.getD i.toNat 0) 0 nb 0) x s'):b9 XW2 x0s (b3z XW2 l0y (TMo a b xs ys L na nb N la i) [true]) x s':=
 l9 h []
theorem e1s (a b:Bool) (xs ys:List Int) (x:AX) (s':St) (h:b9 XW2 l0y (TMo a b xs ys (zO7 (iI.wrap ((xs.length:Int)+ys.length)).toNat 0) xs.length ys.length (iI.wrap ((xs.length:Int)+ys.length)).toNat xs.length 0) x s'):
  b9 XW2 l0y (m8 XW2 200 127 [iL' a xs,iL' b ys] []) x s':=
 l9 h []
theorem b2s (a b:Bool) {A B:Nat} (hA:wl A < 274877906944) (hB:wl B < 274877906944):Ev.Sem zO8 J0 127 [iN a A,iN b B] [iN ((a !=b) && decide (0 < A*B)) (A*B)] :=by
 have hA:(ws W64 A).length < 274877906944:=hA
 have hB:(ws W64 B).length < 274877906944:=hB
 have hx:=j0n A
 have hy:=j0n B
 have vA:=B5 A
 have vB:=B5 B
 have hR:n8 (M7 (ws W64 A) (ws W64 B) (ws W64 A).length)=ws W64 (A*B)∧(M7 (ws W64 A) (ws W64 B) (ws W64 A).length).length=(ws W64 A).length+(ws W64 B).length:=by
  obtain⟨h1,h2,h3,h4⟩:=tY hx hy (ws W64 A).length (d9 _)
  refine⟨?_,h1⟩
  rw [E1 F5 h2,h4,G7 (E8 m7 hx),vA,vB]
 have hL:b9 XW2 l0y (TMo a b (ws W64 A) (ws W64 B) (zO7 ((ws W64 A).length+(ws W64 B).length) 0) (ws W64 A).length (ws W64 B).length ((ws W64 A).length+(ws W64 B).length) (ws W64 A).length 0) (.exit 0)
   (TMo a b (ws W64 A) (ws W64 B) (M7 (ws W64 A) (ws W64 B) (ws W64 A).length) (ws W64 A).length (ws W64 B).length ((ws W64 A).length+(ws W64 B).length) (ws W64 A).length (ws W64 A).length):=by
  generalize ws W64 A=xs at*
  generalize ws W64 B=ys at*
  refine x5 (fun k=>TMo a b xs ys (M7 xs ys k) xs.length ys.length (xs.length+ys.length) xs.length k) xs.length (by intro e; cases e) (fun k hk=> ?_) (u1n a b xs ys _ xs.length ys.length (xs.length+ys.length) xs.length xs.length ⟨by simp,a6⟩)
  obtain⟨h1,h2,h3,h4⟩:=tY hx hy k (by omega)
  have hi:=k1y a b (xs.length+ys.length) hx hy hk (by omega) h1 rfl h2 h3
  have hi2:=u1t a b xs ys (M7 xs ys k) xs.length ys.length (xs.length+ys.length) xs.length k _ _ (by rw [g9]; exact hi)
  have hw:iI.wrap ((k:Int)+zO6 ys.length)=((k+ys.length:Nat):Int):=by
   have:=t8 (n:=k+ys.length) (by omega)
   simpa using this
  have hw':iI.wrap ((k:Int)+(ys.length:Int))=((k+ys.length:Nat):Int):=hw
  have hw2:=L6 (n:=k) (by omega)
  have hlen:(N1 (xs.getD k 0) ys k (M7 xs ys k) ys.length).L.length=xs.length+ys.length:=by
   have gx:=B1 m7 hx k
   have:=(kP (D6 m7 (val W64 xs) k) hy (by omega) h1 h2 h3 rfl ys.length (d9 _)).1.2.1
   rw [gx]
   exact this
  have:=b1e a b xs ys (M7 xs ys k) (N1 (xs.getD k 0) ys k (M7 xs ys k) ys.length).L xs.length ys.length (xs.length+ys.length) xs.length k (xs.getD k 0) (N1 (xs.getD k 0) ys k (M7 xs ys k) ys.length).c ys.length ys.length
  rw [hw,hw',hw2] at this
  simp only [g9] at this
  exact this ⟨by omega,⟨⟨by simp only [B4]; omega,by simp only [B4]; omega⟩,by omega⟩,hi2,hk,⟨⟨by simp,by simpa using hk⟩,by omega⟩,by simpa using hk,a6⟩
 have hw:iI.wrap (((ws W64 A).length:Int)+(ws W64 B).length)=(((ws W64 A).length+(ws W64 B).length:Nat):Int):=by
  have:=t8 (n:=(ws W64 A).length+(ws W64 B).length) (by omega)
  simpa using this
 have hw':iI.wrap (zO6 ((ws W64 A).length+(ws W64 B).length))=(((ws W64 A).length+(ws W64 B).length:Nat):Int):=t8 (by omega)
 have ht:zO10 ((ws W64 A).length+(ws W64 B).length) (M7 (ws W64 A) (ws W64 B) (ws W64 A).length)=M7 (ws W64 A) (ws W64 B) (ws W64 A).length:=O9 (by rw [hR.2]; exact d9 _)
 obtain⟨q1,q2,q3⟩:=L8 hR.1
 refine l7 Z5 10 _ _ (d2n a b _ (ws W64 A) (ws W64 B) (M7 (ws W64 A) (ws W64 B) (ws W64 A).length) (ws W64 (A*B)) _ _ ((ws W64 A).length+(ws W64 B).length) _ _) ⟨⟨rfl,by rw [hR.2]; omega,by rw [hR.2]; omega⟩,e1s a b _ _ _ _ (by rw [hw]; exact hL),⟨by rw [hw']; simp only [B4]; omega,rfl,by rw [hw']; simp only [B4]; omega,by rw [hw']; simp only [B4]; omega⟩,?_,?_,a6⟩
 ·rw [ht,hR.1]
  have:=wl_pos (m:=A*B)
  have e1:(!a==b)=(a !=b):=by cases a <;> cases b <;> rfl
  rw [e1]
  congr 2
  simp only [zzA179]
  exact this
 ·rw [ht]
  exact⟨q1,q2,q3⟩
def l8:ByteArray:=⟨⟨(List.range 256).map fun i=>zO4 (bl i)⟩⟩
theorem y2o (i:Nat) (h:i < 256):oE l8 i=bl i:=by
 have:∀ i:Fin 256,oE l8 i.val=bl i.val:=by decide+kernel
 exact this ⟨i,h⟩
def m1j (k:Nat) (y:Int):Value:= .int .i64 (iI.wrap ((k:Int)+iI.wrap ((oE l8 (uB.wrap y).toNat:Nat):Int)))
abbrev f32 (x:Int):Int:=x.fdiv 4294967296
abbrev f16 (x:Int):Int:=x.fdiv 65536
abbrev f8 (x:Int):Int:=x.fdiv 256
def p1d (y:Int):Prop:=0<=uB.wrap y∧(uB.wrap y).toNat < 256
section
variable (x:Int)
theorem a2p:b7 XW2 [] 200 220 [.int .u64 x] [true,true,true] =some (m1j 56 (f8 (f16 (f32 x))),[p1d (f8 (f16 (f32 x))),decide (f16 (f32 x)>=256)=true,decide (f32 x>=65536)=true,decide (x>=4294967296)=true]):=by kernel_rfl
theorem g2m:b7 XW2 [] 200 220 [.int .u64 x] [true,true,false] =some (m1j 48 (f16 (f32 x)),[p1d (f16 (f32 x)),decide (f16 (f32 x)>=256)=false,decide (f32 x>=65536)=true,decide (x>=4294967296)=true]):=by kernel_rfl
theorem g2u:b7 XW2 [] 200 220 [.int .u64 x] [true,false,true] =some (m1j 40 (f8 (f32 x)),[p1d (f8 (f32 x)),decide (f32 x>=256)=true,decide (f32 x>=65536)=false,decide (x>=4294967296)=true]):=by kernel_rfl
theorem c2q:b7 XW2 [] 200 220 [.int .u64 x] [true,false,false] =some (m1j 32 (f32 x),[p1d (f32 x),decide (f32 x>=256)=false,decide (f32 x>=65536)=false,decide (x>=4294967296)=true]):=by kernel_rfl
theorem e2d:b7 XW2 [] 200 220 [.int .u64 x] [false,true,true] =some (m1j 24 (f8 (f16 x)),[p1d (f8 (f16 x)),decide (f16 x>=256)=true,decide (x>=65536)=true,decide (x>=4294967296)=false]):=by kernel_rfl
theorem f2o:b7 XW2 [] 200 220 [.int .u64 x] [false,true,false] =some (m1j 16 (f16 x),[p1d (f16 x),decide (f16 x>=256)=false,decide (x>=65536)=true,decide (x>=4294967296)=false]):=by kernel_rfl
theorem a2f:b7 XW2 [] 200 220 [.int .u64 x] [false,false,true] =some (m1j 8 (f8 x),[p1d (f8 x),decide (x>=256)=true,decide (x>=65536)=false,decide (x>=4294967296)=false]):=by kernel_rfl
theorem h2f:b7 XW2 [] 200 220 [.int .u64 x] [false,false,false] =some (m1j 0 x,[p1d x,decide (x>=256)=false,decide (x>=65536)=false,decide (x>=4294967296)=false]):=by kernel_rfl
end
theorem dK {k n m:Nat} (hn:n < 256) (h:k+bl n=m) (hm:m<=64):m1j k n= .int .i64 m:=by
 unfold m1j
 have e:uB.wrap (n:Int)=n:=by
  have:=IntKind.wrap_u8 (n:Int)
  omega
 rw [e,g9,y2o n hn,t8 (by omega)]
 have:=t8 (n:=k+bl n) (by omega)
 congr 1
 rw [<- h]
 simpa using this
theorem cU {n:Nat} (hn:n < 256):p1d n:=by
 unfold p1d
 have e:uB.wrap (n:Int)=n:=by
  have:=IntKind.wrap_u8 (n:Int)
  omega
 rw [e]
 omega
theorem z0k (n:Nat) (h:n < W64):Pure zO8 J0 220 [.int .u64 n] (.int .i64 (bl n)):=by
 have h:n < 18446744073709551616:=h
 have e32:f32 n=((n/4294967296:Nat):Int):=by unfold f32; rw [kQ _ (by omega)]; omega
 have e16:∀ m:Nat,f16 m=((m/65536:Nat):Int):=fun m=>by unfold f16; rw [kQ _ (by omega)]; omega
 have e8:∀ m:Nat,f8 m=((m/256:Nat):Int):=fun m=>by unfold f8; rw [kQ _ (by omega)]; omega
 have s32:4294967296<=n->bl n=32+bl (n/4294967296):=fun h=>eI (k:=32) h
 have s16:∀ m,65536<=m->bl m=16+bl (m/65536):=fun m h=>eI (k:=16) h
 have s8:∀ m,256<=m->bl m=8+bl (m/256):=fun m h=>eI (k:=8) h
 have hb:bl n<=64:=bl_le.2 h
 by_cases h1:4294967296<=n
 ·have q1:=s32 h1
  by_cases h2:65536<=n/4294967296
  ·have q2:=s16 _ h2
   by_cases h3:256<=n/4294967296/65536
   ·have q3:=s8 _ h3
    have:=a2p n
    rw [e32,e16,e8] at this
    rw [dK (k:=56) (m:=bl n) (by omega) (by omega) hb] at this
    exact i7 Z5 10 [] _ this ⟨cU (by omega),by simp; omega,by simp; omega,by simp; omega,a6⟩
   ·have:=g2m n
    rw [e32,e16] at this
    rw [dK (k:=48) (m:=bl n) (by omega) (by omega) hb] at this
    exact i7 Z5 10 [] _ this ⟨cU (by omega),by simp; omega,by simp; omega,by simp; omega,a6⟩
  ·by_cases h3:256<=n/4294967296
   ·have q3:=s8 _ h3
    have:=g2u n
    rw [e32,e8] at this
    rw [dK (k:=40) (m:=bl n) (by omega) (by omega) hb] at this
    exact i7 Z5 10 [] _ this ⟨cU (by omega),by simp; omega,by simp; omega,by simp; omega,a6⟩
   ·have:=c2q n
    rw [e32] at this
    rw [dK (k:=32) (m:=bl n) (by omega) (by omega) hb] at this
    exact i7 Z5 10 [] _ this ⟨cU (by omega),by simp; omega,by simp; omega,by simp; omega,a6⟩
 ·by_cases h2:65536<=n
  ·have q2:=s16 _ h2
   by_cases h3:256<=n/65536
   ·have q3:=s8 _ h3
    have:=e2d n
    rw [e16,e8] at this
    rw [dK (k:=24) (m:=bl n) (by omega) (by omega) hb] at this
    exact i7 Z5 10 [] _ this ⟨cU (by omega),by simp; omega,by simp; omega,by simp; omega,a6⟩
   ·have:=f2o n
    rw [e16] at this
    rw [dK (k:=16) (m:=bl n) (by omega) (by omega) hb] at this
    exact i7 Z5 10 [] _ this ⟨cU (by omega),by simp; omega,by simp; omega,by simp; omega,a6⟩
  ·by_cases h3:256<=n
   ·have q3:=s8 _ h3
    have:=a2f n
    rw [e8] at this
    rw [dK (k:=8) (m:=bl n) (by omega) (by omega) hb] at this
    exact i7 Z5 10 [] _ this ⟨cU (by omega),by simp; omega,by simp; omega,by simp; omega,a6⟩
   ·have:=h2f n
    rw [show m1j 0 n= .int .i64 (bl n) from dK (k:=0) (m:=bl n) (by omega) (by omega) hb] at this
    exact i7 Z5 10 [] _ this ⟨cU (by omega),by simp; omega,by simp; omega,by simp; omega,a6⟩
def I6 (x:Int):Int:=((bl x.toNat:Nat):Int)
def wG:List Value->Option (Value×List Prop)
 | [.int .u64 x] =>some (.int .i64 (I6 x),[0<=x∧x < 18446744073709551616])
 | _=>none
theorem l0t (args:List Value) (v:Value) (l:List Prop) (h:wG args=some (v,l)) (hl:l5 l):Pure zO8 J0 220 args v:=by
 unfold wG at h
 split at h
 case h_2=>cases h
 rename_i x
 cases h
 obtain⟨h1,h2⟩:=hl.1
 have:=z0k x.toNat (by show x.toNat < 18446744073709551616; omega)
 rw [I8 h1] at this
 exact this
def f2i:Tab:=r6 220 wG a2i
theorem t0f:U6 zO8 J0 f2i:=i8 l0t u0j
def bW3:Base:=⟨zO8,J0,false,f2i,l0o,200,L7⟩
theorem pK:BaseOk bW3:=⟨progOk,t0f,mE,r5⟩
abbrev XW3:Cx:=bW3.cx 10
end Go.Proofs.YtkiejangmhhofaaGreatDoor
