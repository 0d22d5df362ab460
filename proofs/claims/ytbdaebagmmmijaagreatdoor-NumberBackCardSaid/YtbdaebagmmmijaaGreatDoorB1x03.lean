/-
 NumberBack: the whole text, the short text, the hexadecimal text and seventeen figures of any number are read as just that number; nine figures of a single are read as that single. No condition.
-/
import Derived.Test.YtbdaebagmmmijaaGreatDoorB1x02
import Derived.Test.YtbdaebagmmmijaaGreatDoorRows
import Derived.Laws.Externs
import Derived.Lib.Bytealg
import Derived.KernelRfl
import Derived.Lib.LaidTab
import Derived.Lib.ItoaMem
import Derived.Lib.MakeNoZero
import Derived.Shelf.Unicode.DecodeSlow
import GoSem.PinnedTables
import Derived.Test.YtbdaebagmmmijaaGreatDoorCards
import Derived.Test.YtbdaebagmmmijaaGreatDoorTie
import Derived.WalkKit
import Derived.ProofKit
import Derived.OpenShut
import Derived.Carry
import Derived.Deep.DeepHandedRow
import Derived.Lib.SmallJoins
import Derived.Deep.Strs
import Derived.Laws.Cover2
import Derived.Lib.LaidU8T
import Derived.Shelf.Vars
import Derived.Shelf.Strings.Search3
import Init
import Derived.Shelf.Bits.Mul64
set_option maxRecDepth 1000000
open Nat renaming beq->zO0,blt->zO1
open Int renaming ofNat->zO2
open Go.Value renaming int->zO3,bool->zO8
open List renaming replicate->zO6,take->zO9
open Go.Proofs.Tryz renaming prog->zO7
open Go.IntKind renaming i64->iI,u64->uI,u32->uJ
noncomputable section
namespace Go.Proofs
theorem k0e:type_of%@Bool.and_true:=@Bool.and_true
theorem nJ:type_of%@List.eq_nil_of_length_eq_zero:=@List.eq_nil_of_length_eq_zero
theorem fH:type_of%@Nat.le_add_right:=@Nat.le_add_right
theorem tF:type_of%@List.filterMap_cons:=@List.filterMap_cons
theorem u6:type_of%@List.length_cons:=@List.length_cons
theorem p9:type_of%@Nat.pow_succ:=@Nat.pow_succ
theorem O6:type_of%@Nat.mul_add:=@Nat.mul_add
theorem f9:type_of%@Nat.mul_assoc:=@Nat.mul_assoc
theorem Y4:type_of%@Nat.mul_le_mul_left:=@Nat.mul_le_mul_left
theorem j0y:type_of%@Nat.add_mul_mod_self_left:=@Nat.add_mul_mod_self_left
theorem aW:type_of%@Nat.pow_zero:=@Nat.pow_zero
theorem nV:type_of%@Nat.div_div_eq_div_mul:=@Nat.div_div_eq_div_mul
theorem i0c:type_of%@Nat.add_mul_div_left:=@Nat.add_mul_div_left
theorem w2u:type_of%@Nat.mod_one:=@Nat.mod_one
theorem j0w:type_of%@Nat.mod_add_div:=@Nat.mod_add_div
theorem w7:type_of%@Nat.pow_le_pow_right:=@Nat.pow_le_pow_right
theorem F6:type_of%@Nat.div_lt_iff_lt_mul:=@Nat.div_lt_iff_lt_mul
theorem a0b:type_of%@List.reverse_cons:=@List.reverse_cons
theorem t0y:type_of%@List.singleton_append:=@List.singleton_append
theorem F9:type_of%@Go.IntKind.wrap_i64:=@Go.IntKind.wrap_i64
theorem J1:type_of%@Nat.mul_right_comm:=@Nat.mul_right_comm
theorem y3:type_of%@Int.ofNat_eq_natCast:=@Int.ofNat_eq_natCast
theorem y9:type_of%@Int.natCast_nonneg:=@Int.natCast_nonneg
theorem h0v:type_of%@Int.toNat_zero:=@Int.toNat_zero
theorem aT:type_of%@List.take_of_length_le:=@List.take_of_length_le
theorem bQ:type_of%@List.length_reverse:=@List.length_reverse
theorem yZ:type_of%@Nat.sub_add_cancel:=@Nat.sub_add_cancel
theorem y4:type_of%@Nat.lt_of_le_of_lt:=@Nat.lt_of_le_of_lt
theorem i7:type_of%@Nat.pow_add:=@Nat.pow_add
theorem zzA163:type_of%@decide_eq_decide:=@decide_eq_decide
theorem W3:type_of%@Int.toNat_of_nonneg:=@Int.toNat_of_nonneg
theorem O3:type_of%@Go.IntKind.wrap_u64:=@Go.IntKind.wrap_u64
theorem F7:type_of%@Nat.two_pow_pos:=@Nat.two_pow_pos
theorem tM:type_of%@Nat.log2_lt:=@Nat.log2_lt
theorem yN:type_of%@Nat.le_antisymm:=@Nat.le_antisymm
theorem cJ:type_of%@Nat.le_of_lt:=@Nat.le_of_lt
theorem aV:type_of%@Int.fdiv_eq_ediv_of_nonneg:=@Int.fdiv_eq_ediv_of_nonneg
theorem bW:type_of%@Nat.le_div_iff_mul_le:=@Nat.le_div_iff_mul_le
theorem dE:type_of%@Int.natCast_mul:=@Int.natCast_mul
theorem W2:type_of%@Nat.and_two_pow_sub_one_eq_mod:=@Nat.and_two_pow_sub_one_eq_mod
theorem m0b:type_of%@Int.ofNat_tdiv:=@Int.ofNat_tdiv
theorem jX:type_of%@Nat.div_le_self:=@Nat.div_le_self
theorem fJ:type_of%@Int.natCast_pow:=@Int.natCast_pow
theorem m0p:type_of%@Nat.shiftLeft_add_eq_or_of_lt:=@Nat.shiftLeft_add_eq_or_of_lt
theorem jW:type_of%@Nat.shiftLeft_eq:=@Nat.shiftLeft_eq
theorem F8:type_of%@Nat.mul_lt_mul_of_pos_right:=@Nat.mul_lt_mul_of_pos_right
theorem jQ:type_of%@Nat.mul_div_mul_right:=@Nat.mul_div_mul_right
theorem oF:type_of%@Nat.mul_mod_mul_right:=@Nat.mul_mod_mul_right
theorem m0a:type_of%@Nat.mul_div_cancel:=@Nat.mul_div_cancel
theorem iV:type_of%@Nat.add_sub_cancel:=@Nat.add_sub_cancel
theorem rZ:type_of%@Nat.pow_mul:=@Nat.pow_mul
end Go.Proofs
namespace Go.Proofs.YtbdaebagmmmijaaGreatDoor.Ev
open Go Go.RowKit Go.Shelf
noncomputable section
def b6 (X:Cx) (L:V4) (fuel:Nat) (f:FuncId) (args:List Value) (ds:List Bool):Option (Value×List Prop):=
 match pureL args with
 | false=>none
 | true=>match y0f X L fuel f args X.J.tabs X.P.globals.size ds with
  | none=>none
  | some r=>match z7 r.v with
   | true=>some (r.v,r.obs)
   | false=>none
abbrev Tab:=FuncId->List Value->Option (Value×List Prop)
abbrev iG:=FuncId->List Value->Heap->Nat->List Bool->Option CR
structure Base where
 P:Program
 J:Inv P
 auto:Bool
 tab:Tab
 mtab:iG
 fuel:Nat
 xt:FuncId->List Value->Heap->Nat->Option CR
def Base.cx (b:Base):Nat->Cx
 | 0=>⟨b.P,b.J,b.auto,b.tab,b.mtab,b.xt,fun _ _=>none,b.auto⟩
 | k+1=>⟨b.P,b.J,b.auto,
   fun f args=>match b.tab f args with
    | some r=>some r
    | none=>match b.mtab f args [] 0 [] with
     | some _=>none
     | none=>b6 (b.cx k) [] b.fuel f args [],
   fun f args H n ds=>match b.mtab f args H n ds with
    | some r=>some r
    | none=>y0f (b.cx k) [] b.fuel f args H n ds,
   b.xt,
   fun c s=>E5 (b.cx k) [] b.fuel c s,b.auto⟩
def Base.cxl (b:Base) (k:Nat):Cx:=⟨(b.cx k).P,(b.cx k).J,(b.cx k).auto,(b.cx k).pc,(b.cx k).cl,(b.cx k).xt,(b.cx k).rd,true⟩
structure ProgOk (P:Program):Prop where
 mixed:P.follows .mixedOrders=true
 names:∀ (f:FuncId) (fn:Func),P.funcs[f]? =some fn->(fn.name== "runtime.NumGoroutine")=false
structure BaseOk (b:Base):Prop where
 prog:ProgOk b.P
 tab:Q0 b.P b.J b.tab
 mtab:iD b.P b.J b.mtab
 xt:a2v b.P b.J b.xt
theorem H7 {X:Cx} (hng:ProgOk X.P) {L:V4} {fuel f n:Nat} {args:List Value} {H:Heap} {ds:List Bool} {r:CR} (h:y0f X L fuel f args H n ds=some r):Enters X.P f:=by
 rw [r0e] at h
 split at h
 case h_1=>cases h
 rename_i fn hfn
 split at h
 case h_1=>cases h
 rename_i c hc
 exact enters_of hfn (hng.names f fn hfn) hc
theorem u1n {X:Cx} {L:V4} {fuel f n:Nat} {args:List Value} {H:Heap} {ds:List Bool} {r:CR} (h:y0f X L fuel f args H n ds=some r):n<=r.n:=by
 rw [r0e] at h
 split at h
 ·cases h
 split at h
 ·cases h
 split at h
 ·cases h
 split at h
 ·cases h
 split at h
 ·cases h
 rename_i hb
 split at h
 ·cases h
 split at h
 ·cases h
 cases h
 exact iU hb
theorem G6 {X:Cx} (hX:CxOk X X.J) (hng:ProgOk X.P) {L:V4} {fuel f:Nat} {args:List Value} {ds:List Bool} {v:Value} {l:List Prop} (h:b6 X L fuel f args ds=some (v,l)) (hl:d9 l):
  Pure X.P X.J f args v:=by
 unfold b6 at h
 split at h
 case h_1=>cases h
 rename_i hpa
 split at h
 case h_1=>cases h
 rename_i r hr
 split at h
 case h_2=>cases h
 rename_i hpv
 cases h
 refine⟨hpa,hpv, .inl ⟨H7 hng hr,fun w hI=> ?_⟩⟩
 have hp:Par X.P w.heap.size (fun _=>False):=⟨X.J.room w hI,fun _ _ h=>h⟩
 have:=(L6 hX hng.mixed hr hl (ρ:=fun i=>if i < X.P.globals.size then some i else none) (vs:=args) hp (d7 _) hI (fun ρ' ha=>⟨X.J.tabsOk w ρ' _ _ hI (fun g hg=>by rw [ha g hg]; simp [hg]),(rvL_pure ρ' args hpa).symm⟩)).2
 refine this.mono fun e w' ⟨ρ1,u,_,he,hk,hfin⟩=>⟨?_,hk.below⟩
 have:=(hfin ρ1 (Agree.refl _ _)).1
 rw [B1 ρ1 _ hpv] at this
 rw [he,this]
theorem q9 {b:Base} (hb:BaseOk b):∀ k,CxOk (b.cx k) (b.cx k).J∧ProgOk (b.cx k).P
 | 0=>⟨⟨hb.tab,hb.mtab,hb.xt,(fun _ _ _ _ h=>by cases h),b.J.tabsOk,b.J.tabsRo⟩,hb.prog⟩
 | k+1=>by
  obtain⟨ih,hng⟩:=q9 hb k
  have eP:(b.cx k).P=b.P:=by cases k <;> rfl
  refine⟨⟨fun f args v l h hl=> ?_,fun f args H n ds r h hl=> ?_,hb.xt,fun c s x s' h hl=>⟨X7 _ _ _ _ _ h hl,?_⟩,b.J.tabsOk,b.J.tabsRo⟩,hb.prog⟩
  ·simp only [Base.cx] at h
   split at h
   ·rename_i r hr
    cases h
    exact hb.tab f args v l hr hl
   ·split at h
    ·cases h
    have:=G6 ih hng h hl
    clear ih hng h
    cases k with
    | zero=>exact this
    | succ k=>exact this
  ·simp only [Base.cx] at h
   split at h
   ·rename_i r' hr
    cases h
    exact hb.mtab f args H n ds r hr hl
   ·have h1:=u1n h
    have h2:=H7 hng h
    have h3:=fun (B:Nat) (M:Nat->Prop) (ρ:Num) (w:World) (vs:List Value) hp hB hI hS=>(L6 ih hng.mixed h hl (B:=B) (M:=M) (ρ:=ρ) (w:=w) (vs:=vs) hp hB hI hS).2
    clear ih hng h
    cases k with
    | zero=>exact⟨h1,h2,h3⟩
    | succ k=>exact⟨h1,h2,h3⟩
  ·have h1:=fun (B:Nat) (M:Nat->Prop) (w0:Bas) (rb:Option Nat) (a:Act) (w:World) hp hR Q hQ=>dB ih hng.mixed (B:=B) (M:=M) (w0:=w0) (rb:=rb) hp _ _ _ _ _ h hl a w hR Q hQ
   clear ih hng h
   cases k with
   | zero=>exact h1
   | succ k=>exact h1
theorem d6 {b:Base} (hb:BaseOk b) (k:Nat) (L:V4) (ds:List Bool) {f:FuncId} {args:List Value} {v:Value} {l:List Prop} (h:b6 (b.cx k) L b.fuel f args ds=some (v,l)) (hl:d9 l):Pure b.P b.J f args v:=by
 obtain⟨h1,h2⟩:=q9 hb k
 have:=G6 h1 h2 h hl
 clear h1 h2 h
 cases k with
 | zero=>exact this
 | succ k=>exact this
def r2x:Tab:=fun _ _=>none
def F4:iG:=fun _ _ _ _ _=>none
def xt0:FuncId->List Value->Heap->Nat->Option CR:=fun _ _ _ _=>none
theorem n2j (P:Program) (J:Inv P):a2v P J xt0:=fun _ _ _ _ _ h=>by cases h
def v1g (f:FuncId) (spec:List Value->Heap->Nat->Option CR) (t:FuncId->List Value->Heap->Nat->Option CR):FuncId->List Value->Heap->Nat->Option CR:=fun g args H n=>
 match zO0 g f with
 | true=>spec args H n
 | false=>t g args H n
def s2o (P:Program) (J:Inv P) (f:FuncId) (spec:List Value->Heap->Nat->Option CR):Prop:=
 ∀ args H n r,spec args H n=some r->d9 r.obs->n<=r.n∧∀ (B:Nat) (M:Nat->Prop) (ρ:Num) (w:World) (vs:List Value),Par P B M->B<=w.heap.size->J.I w->
  (∀ ρ',Agree n ρ ρ'->Sim P B M ρ' H w∧vs=rvL ρ' args)->
  ∃ ρ1 v w',Agree n ρ ρ1∧(callFunc f ⟨vs⟩).run P w= .ok (.value v) w'∧Keeps B M w w'∧∀ ρ',Agree r.n ρ1 ρ'->v=rv ρ' r.v∧Sim P B M ρ' r.h w'
theorem w0c {P:Program} {J:Inv P} {f:FuncId} {spec:List Value->Heap->Nat->Option CR} {t:FuncId->List Value->Heap->Nat->Option CR} (h:s2o P J f spec) (ht:a2v P J t):a2v P J (v1g f spec t):=by
 intro g args H n r hs hl
 unfold v1g at hs
 split at hs
 ·rename_i hg
  have:=S6 hg
  subst this
  exact h args H n r hs hl
 ·exact ht g args H n r hs hl
theorem k1k (P:Program) (J:Inv P):Q0 P J r2x:=fun _ _ _ _ h=>by cases h
theorem n9 (P:Program) (J:Inv P):iD P J F4:=fun _ _ _ _ _ _ h=>by cases h
def l5 (f:FuncId) (spec:List Value->Option (Value×List Prop)) (t:Tab):Tab:=fun g args=>
 match zO0 g f with
 | true=>spec args
 | false=>t g args
theorem b7 {P:Program} {J:Inv P} {f:FuncId} {spec:List Value->Option (Value×List Prop)} {t:Tab} (h:∀ args v l,spec args=some (v,l)->d9 l->Pure P J f args v) (ht:Q0 P J t):Q0 P J (l5 f spec t):=by
 intro g args v l hs hl
 unfold l5 at hs
 split at hs
 ·rename_i hg
  have:=S6 hg
  subst this
  exact h args v l hs hl
 ·exact ht g args v l hs hl
end
noncomputable section
theorem d2t {ρ ρ':Num} {n:Nat} (h:Agree n ρ ρ') (f:Fn) (hf:b2g n f=true):rFn ρ' f=rFn ρ f:=by
 cases f <;> first | rfl | skip
 rename_i l
 simp only [b2g,D1] at hf
 simp only [rFn,h l hf]
mutual
theorem o0n {n:Nat} :∀ v:Value,uF n v=true->noE v=true
 | .chan (some _),h=>by simp only [uF] at h; cases h
 | .chan none,_=>by simp only [noE]
 | .func _ f c,h=>by
   simp only [uF,x5] at h
   simp only [noE,low_noEA f h.1.2,low_noEA c h.2,k0e]
 | .iface _ v,h=>by simp only [uF] at h; simp only [noE]; exact o0n v h
 | .agg cs,h=>by simp only [uF] at h; simp only [noE]; exact low_noEA cs h
 | .tuple vs,h=>by simp only [uF] at h; simp only [noE]; exact low_noEA vs h
 | .bool _,_=>by simp only [noE]
 | .int _ _,_=>by simp only [noE]
 | .float _ _,_=>by simp only [noE]
 | .complex _ _ _,h=>by simp only [uF] at h; cases h
 | .string _,_=>by simp only [noE]
 | .pointer _,_=>by simp only [noE]
 | .slice _ _ _,_=>by simp only [noE]
 | .map _,_=>by simp only [noE]
 | .nilFunc,_=>by simp only [noE]
 | .nilIface,_=>by simp only [noE]
theorem low_noEA {n:Nat} :∀ v:Array Value,lowA n v=true->noEA v=true
 | ⟨l⟩,h=>by simp only [lowA] at h; simp only [noEA]; exact low_noEL l h
theorem low_noEL {n:Nat} :∀ v:List Value,lowL n v=true->noEL v=true
 | [],_=>by simp only [noEL]
 | v ::l,h=>by
   simp only [lowL,x5] at h
   simp only [noEL,o0n v h.1,low_noEL l h.2,k0e]
end
mutual
theorem x0u {ρ ρ':Num} {n:Nat} (h:Agree n ρ ρ'):∀ v:Value,uF n v=true->rv ρ' v=rv ρ v
 | .pointer (some a),hv=>by simp only [uF,D1] at hv; simp only [rv,r8,h _ hv]
 | .slice (some ⟨j,off,none⟩) _ _,hv=>by simp only [uF,k0e,D1] at hv; simp only [rv,rSl,r8,h _ hv]
 | .slice (some ⟨j,off,some k⟩) _ _,hv=>by simp only [uF,x5,D1] at hv; simp only [rv,rSl,h _ hv.1,h _ hv.2]
 | .map (some r),hv=>by simp only [uF,D1] at hv; simp only [rv,h _ hv]
 | .func fn f c,hv=>by
   simp only [uF,x5] at hv
   simp only [rv,d2t h fn hv.1.1,rvA_low h f hv.1.2,rvA_low h c hv.2]
 | .iface t v,hv=>by simp only [uF] at hv; simp only [rv,x0u h v hv]
 | .agg cs,hv=>by simp only [uF] at hv; simp only [rv,rvA_low h cs hv]
 | .tuple vs,hv=>by simp only [uF] at hv; simp only [rv,rvA_low h vs hv]
 | .bool _,_=>by simp only [rv]
 | .int _ _,_=>by simp only [rv]
 | .float _ _,_=>by simp only [rv]
 | .complex _ _ _,h=>by simp only [uF] at h; cases h
 | .string _,_=>by simp only [rv]
 | .pointer none,_=>by simp only [rv]
 | .slice none _ _,_=>by simp only [rv]
 | .map none,_=>by simp only [rv]
 | .chan none,_=>by simp only [rv]
 | .chan (some m),hv=>by simp only [uF] at hv; cases hv
 | .nilFunc,_=>by simp only [rv]
 | .nilIface,_=>by simp only [rv]
theorem rvA_low {ρ ρ':Num} {n:Nat} (h:Agree n ρ ρ'):∀ v:Array Value,lowA n v=true->rvA ρ' v=rvA ρ v
 | ⟨l⟩,hv=>by simp only [lowA] at hv; simp only [rvA,rvL_low h l hv]
theorem rvL_low {ρ ρ':Num} {n:Nat} (h:Agree n ρ ρ'):∀ v:List Value,lowL n v=true->rvL ρ' v=rvL ρ v
 | [],_=>by simp only [rvL]
 | v ::l,hv=>by
   simp only [lowL,x5] at hv
   simp only [rvL,x0u h v hv.1,rvL_low h l hv.2]
end
structure Pairs where
 xs:List Value
 ys:List Value
 os:List AObj
 qs:List AObj
def Pairs.add (a b:Pairs):Pairs:=⟨a.xs++b.xs,a.ys++b.ys,a.os++b.os,a.qs++b.qs⟩
def u0n (σ:Ren) (n:Nat):List TV->List TV->Option (List Value×List Value)
 | [],[] =>some ([],[])
 | _ ::ys, .unk ::zs=>u0n σ n ys zs
 | .v x ::ys, .v x' ::zs=>match x' with
  | .complex .f32 a' b'=>match x with
   | .complex .f32 a b=>match zO0 (σ.to (a'/18446744073709551616)) (a/18446744073709551616) && zO0 (σ.to (a'%18446744073709551616)) (a%18446744073709551616) && zO1 (a'/18446744073709551616) n && zO1 (a'%18446744073709551616) n,u0n σ n ys zs with
    | true,some (l,l')=>some (.int .u8 b ::l, .int .u8 b' ::l')
    | _,_=>none
   | _=>none
  | x'=>match uF n x',u0n σ n ys zs with
   | true,some (l,l')=>some (x ::l,rn σ x' ::l')
   | _,_=>none
 | _,_=>none
def b1l (b:Nat):List (Option Value)->Bool
 | [] =>true
 | some x ::r=>uF b x && b1l b r
 | none ::r=>b1l b r
def k0m (σ:Ren) (n:Nat):Row->Row->Option Pairs
 | .vals xs, .vals xs'=>match lowL n xs' && zO0 xs.length xs'.length with
  | true=>some ⟨xs,rnL σ xs',[],[]⟩
  | false=>none
 | .ints k ns, .ints k' ns'=>some ⟨[],[],[.ints k ns],[.ints k' ns']⟩
 | .vals xs, .fam f m=>match pureL xs with
  | true=>some ⟨[],[],[.ro xs],[.ro (qS f m)]⟩
  | false=>none
 | .ints .u8 ns, .bytes l=>some ⟨[],[],[.ints .u8 ns],[.ints .u8 (X8 l)]⟩
 | .bytes l, .bytes l'=>some ⟨[],[],[.ro (Row.bytes l).list],[.ro (Row.bytes l').list]⟩
 | .fam f m, .fam f' m'=>some ⟨[],[],[.ro (qS f m)],[.ro (qS f' m')]⟩
 | _,_=>none
def wF (b:Nat) (σ:Ren) (n:Nat):AObj->AObj->Option Pairs
 | .row e sz r k, .row e' sz' r' k'=>match zO0 e e' && zO0 sz sz' && zO0 (σ.to k') k && zO1 k' n with
  | true=>k0m σ n r r'
  | false=>none
 | .cells cs t, .cells cs' t'=>match zO0 t t' && lowL n cs' && zO0 cs.length cs'.length with
  | true=>some ⟨cs,rnL σ cs',[],[]⟩
  | false=>none
 | .iter s p, .iter s' p'=>some ⟨[],[],[.iter s p],[.iter s' p']⟩
 | .ints k xs, .ints k' xs'=>some ⟨[],[],[.ints k xs],[.ints k' xs']⟩
 | .fam f m sz o, .fam f' m' sz' o'=>some ⟨[],[],[.fam f m sz o],[.fam f' m' sz' o']⟩
 | .loop st pn ts ps asg bd, .loop st' pn' ts' ps' asg' bd'=>match b1l b ts' with
  | true=>some ⟨[],[],[.loop st pn ts ps asg bd],[.loop st' pn' ts' ps' asg' bd']⟩
  | false=>none
 | .defr, .defr=>some ⟨[],[],[],[]⟩
 | .dead, .dead=>some ⟨[],[],[],[]⟩
 | _,_=>none
def q2f (σ:Ren) (i:Nat):Heap->Bool
 | [] =>true
 | (j,_) ::r=> !(zO0 (σ.to i) (σ.to j)) && q2f σ i r
def r2m (b:Nat) (σ:Ren) (n:Nat) (H:Heap):Heap->Option Pairs
 | [] =>some ⟨[],[],[],[]⟩
 | (i,o') ::r=>match H.get (σ.to i),zO1 i n,q2f σ i r with
  | some o,true,true=>match wF b σ n o o',r2m b σ n H r with
   | some l,some l'=>some (l.add l')
   | _,_=>none
  | _,_,_=>none
def r1s (σ:Ren):List Nat->Bool
 | [] =>true
 | i ::r=>zO0 (σ.to i) i && r1s σ r
def eqO:Option Nat->Option Nat->Bool
 | none,none=>true
 | some i,some j=>zO0 i j
 | _,_=>false
def rD (b:Nat):Ren->Bool
 | [] =>true
 | (j,_) ::r=>Nat.ble b j && rD b r
def gJ:List Mk->Option (List Nat)
 | [] =>some []
 | .mark i ::r=>match gJ r with
  | some l=>some (i ::l)
  | none=>none
 | .call _ _ _ ::_=>none
theorem bJ:∀ {l:List Mk} {m:List Nat},gJ l=some m->l=m.map .mark
 | [],m,h=>by simp only [gJ] at h; cases h; rfl
 | .mark i ::r,m,h=>by
  simp only [gJ] at h
  split at h
  ·rename_i l hl
   cases h
   rw [b1i,<- bJ hl]
  ·cases h
 | .call _ _ _ ::_,m,h=>by simp only [gJ] at h; cases h
def fit (P:Program) (σ:Ren) (s s':St):Option Pairs:=
 match s,s' with
 | ⟨tm,hp,_,_,_,_,rd,mk,bs⟩,⟨tm',hp',n',_,_,_,rd',mk',bs'⟩=>match gJ mk,gJ mk' with
  | some mq,some mq'=>
   match rD bs σ && r1s σ mq && g1x mq mq' && eqO rd rd' && zO0 bs bs' && Nat.ble bs n' && Nat.ble P.globals.size bs && mq.all (fun i=>zO1 i n') && (match rd with | some l=>zO1 l bs | none=>true) with
   | false=>none
   | true=>match u0n σ n' tm tm',r2m bs σ n' hp hp' with
    | some (l,l'),some q=>some ⟨l++q.xs,l'++q.ys,q.os,q.qs⟩
    | _,_=>none
  | _,_=>none
theorem fE {b:Nat} :∀ {σ:Ren},rD b σ=true->∀ i,i < b->σ.to i=i
 | [],_,i,_=>rfl
 | (j,k) ::r,h,i,hi=>by
  simp only [rD,x5,M8] at h
  simp only [Ren.to]
  rw [rY (by omega)]
  exact fE h.2 i hi
theorem zR {σ:Ren} :∀ {l:List Nat},r1s σ l=true->∀ i∈l,σ.to i=i
 | [],_,i,hi=>by cases hi
 | j ::r,h,i,hi=>by
  simp only [r1s,x5,y8] at h
  rcases zzA84.1 hi with rfl | hi
  ·exact h.1
  ·exact zR h.2 i hi
theorem i0g:∀ {l l':List Nat},g1x l l'=true->l=l'
 | [],[],_=>rfl
 | [],_ ::_,h=>by simp [g1x] at h
 | _ ::_,[],h=>by simp [g1x] at h
 | i ::r,j ::r',h=>by
  simp only [g1x,x5,y8] at h
  rw [h.1,i0g h.2]
theorem r1m {a b:Option Nat} (h:eqO a b=true):a=b:=by
 cases a <;> cases b <;> simp_all [eqO]
theorem iK {σ:Ren} {n:Nat} :∀ {ts ts':List TV} {l l':List Value},u0n σ n ts ts'=some (l,l')->l.length=l'.length∧(l=l'->ts'.length=ts.length∧(∀ t,k0p (A1 ts' t)=true)∧∀ t x',A1 ts' t= .v x'->∃ x,A1 ts t= .v x∧∀ ρ ρ':Num,Agree n (fun i=>ρ (σ.to i)) ρ'->rv ρ' x'=rv ρ x)
 | [],[],l,l',h=>by
  simp only [u0n] at h; cases h
  exact⟨rfl,fun _=>⟨rfl,fun t=>by simp [K1,k0p],fun t x' h=>by simp [K1] at h⟩⟩
 | [],z ::zs,l,l',h=>by cases z <;> simp [u0n] at h
 | y ::ys,[],l,l',h=>by cases y <;> simp [u0n] at h
 | y ::ys,z ::zs,l,l',h=>by
  have get0:∀ (u:TV) (us:List TV),A1 (u ::us) 0=u:=fun u us=>rfl
  have getS:∀ (u:TV) (us:List TV) (t:Nat),A1 (u ::us) (t+1)=A1 us t:=fun u us t=>by simp [K1]
  cases z with
  | unk=>
   have h:u0n σ n ys zs=some (l,l'):=by cases y <;> simpa [u0n] using h
   obtain⟨h0,hh⟩:=iK h
   refine⟨h0,fun he=> ?_⟩
   obtain⟨h1,h2,h3⟩:=hh he
   refine⟨by simp [h1],fun t=> ?_,fun t x' hx=> ?_⟩
   ·cases t with
    | zero=>rfl
    | succ t=>rw [getS]; exact h2 t
   ·cases t with
    | zero=>rw [get0] at hx; cases hx
    | succ t=>rw [getS] at hx ⊢; exact h3 t x' hx
  | v x0=>
   cases y with
   | v y0=>
    simp only [u0n] at h
    split at h
    ·rename_i kk a' b'
     split at h
     case h_2=>cases h
     rename_i kq a b
     split at h
     ·rename_i l0 l0' hck hr
      cases h
      simp only [x5,y8,D1] at hck
      obtain⟨⟨⟨q1,q2⟩,q3⟩,q4⟩:=hck
      obtain⟨h0,hh⟩:=iK hr
      refine⟨by simp [h0],fun he=> ?_⟩
      injection he with e1 e2
      injection e1 with _ e1
      have e1:b=b':=zO2.inj e1
      obtain⟨h1,h2,h3⟩:=hh e2
      refine⟨by simp [h1],fun t=> ?_,fun t x' hx=> ?_⟩
      ·cases t with
       | zero=>rfl
       | succ t=>rw [getS]; exact h2 t
      ·cases t with
       | zero=>
        rw [get0] at hx ⊢
        cases hx
        refine⟨_,rfl,fun ρ ρ' ha=> ?_⟩
        simp only [rv,j2h]
        rw [ha _ q3,ha _ q4,e1]
        show x1u (ρ (σ.to (a'/18446744073709551616))) (ρ (σ.to (a'%18446744073709551616))) b' 1 1=_
        rw [q1,q2]
       | succ t=>rw [getS] at hx ⊢; exact h3 t x' hx
     ·cases h
    split at h
    ·rename_i l0 l0' hlow hr
     cases h
     obtain⟨h0,hh⟩:=iK hr
     refine⟨by simp [h0],fun he=> ?_⟩
     injection he with e1 e2
     obtain⟨h1,h2,h3⟩:=hh e2
     refine⟨by simp [h1],fun t=> ?_,fun t x' hx=> ?_⟩
     ·cases t with
      | zero=>rfl
      | succ t=>rw [getS]; exact h2 t
     ·cases t with
      | zero=>
       rw [get0] at hx ⊢
       cases hx
       refine⟨_,rfl,fun ρ ρ' ha=> ?_⟩
       rw [x0u ha _ hlow,<- b2f _ _ _ (o0n _ hlow),e1]
      | succ t=>rw [getS] at hx ⊢; exact h3 t x' hx
    ·cases h
   | _=>simp [u0n] at h
  | sp l0 x0=>cases y <;> simp [u0n] at h
  | key j l0 b=>cases y <;> simp [u0n] at h
theorem lR {b:Nat} :∀ {ts:List (Option Value)},b1l b ts=true->∀ (t:Nat) (x:Value),ts[t]? =some (some x)->uF b x=true
 | [],_,t,x,h=>by simp at h
 | some y ::r,h,t,x,hx=>by
  simp only [b1l,x5] at h
  cases t with
  | zero=>simp at hx; subst hx; exact h.1
  | succ t=>exact lR h.2 t x (by simpa using hx)
 | none ::r,h,t,x,hx=>by
  simp only [b1l] at h
  cases t with
  | zero=>simp at hx
  | succ t=>exact lR h t x (by simpa using hx)
theorem s0l {σ:Ren} {n:Nat} {r r':Row} {l:Pairs} (h:k0m σ n r r'=some l) (hl:l.xs=l.ys∧l.os=l.qs) {ρ ρ':Num} (ha:Agree n (fun i=>ρ (σ.to i)) ρ'):rvL ρ' r'.list=rvL ρ r.list∧r'.list.length=r.list.length:=by
 unfold k0m at h
 split at h
 ·rename_i xs xs'
  split at h
  ·rename_i hc
   simp only [x5,y8] at hc
   cases h
   have e:xs=rnL σ xs':=hl.1
   simp only [Row.list]
   refine⟨?_,hc.2.symm⟩
   rw [rvL_low ha xs' hc.1,<- rvL_rn _ _ _ (low_noEL _ hc.1),<- e]
  ·cases h
 ·cases h
  have e:=hl.2
  simp only [R5,AObj.ints.injEq,K2] at e
  obtain⟨e1,e2⟩:=e
  subst e1 e2
  simp only [Row.list]
  refine⟨?_,a7⟩
  rename_i k ns
  have:pureL (ns.map (zO3 k))=true:=by rw [C9]; simp [z7]
  rw [rvL_pure ρ' _ this,rvL_pure ρ _ this]
 ·rename_i xs f m
  split at h
  ·cases h
   have e:=hl.2
   simp only [R5,AObj.ro.injEq,K2] at e
   subst e
   simp only [Row.list]
   exact⟨by rw [rvL_pure ρ' _ (bC f m),rvL_pure ρ _ (bC f m)],a7⟩
  ·cases h
 ·rename_i ns l0
  cases h
  have e:=hl.2
  simp only [R5,AObj.ints.injEq,K2,true_and] at e
  subst e
  simp only [Row.list]
  have hp:pureL (Y6 l0)=true:=by rw [C9,E8]; simp [z7]
  rw [iA,<- E8,rvL_pure ρ' _ hp,rvL_pure ρ _ hp]
  exact⟨rfl,rfl⟩
 ·rename_i l0 l1
  cases h
  have e:=hl.2
  simp only [R5,AObj.ro.injEq,K2] at e
  have hp:∀ q:List UInt8,pureL (Row.bytes q).list=true:=fun q=>by rw [C9]; simp [z7,Row.list]
  rw [e,rvL_pure ρ' _ (hp _),rvL_pure ρ _ (hp _)]
  exact⟨rfl,rfl⟩
 ·rename_i f m f' m'
  cases h
  have e:=hl.2
  simp only [R5,AObj.ro.injEq,K2] at e
  simp only [Row.list]
  rw [e]
  exact⟨by rw [rvL_pure ρ' _ (bC f' m'),rvL_pure ρ _ (bC f' m')],rfl⟩
 ·cases h
theorem b1t {σ:Ren} {n:Nat} {r r':Row} {l:Pairs} (h:k0m σ n r r'=some l):l.xs.length=l.ys.length∧l.os.length=l.qs.length:=by
 unfold k0m at h
 split at h
 ·split at h
  ·rename_i hc
   simp only [x5,y8] at hc
   cases h
   exact⟨by rw [mI]; exact hc.2,rfl⟩
  ·cases h
 ·cases h; exact⟨rfl,rfl⟩
 ·split at h
  ·cases h; exact⟨rfl,rfl⟩
  ·cases h
 ·cases h; exact⟨rfl,rfl⟩
 ·cases h; exact⟨rfl,rfl⟩
 ·cases h; exact⟨rfl,rfl⟩
 ·cases h
theorem h0l {b:Nat} {B:Nat} {M:Nat->Prop} {σ:Ren} {n:Nat} {o o':AObj} {l:Pairs} (h:wF b σ n o o'=some l) (hl:l.xs=l.ys∧l.os=l.qs) {ρ ρ':Num} {w:World} {i:Nat} (ha:Agree n (fun i=>ρ (σ.to i)) ρ') (hb:Agree b ρ ρ') (hi:i < n) (ho:ORep B M ρ w (ρ (σ.to i)) o):ORep B M ρ' w (ρ' i) o'∧o'.rw=o.rw:=by
 rw [show ρ' i=ρ (σ.to i) from ha i hi]
 cases o' with
 | row e' sz' r' k'=>
  cases o with
  | row e sz r k=>
   simp only [wF] at h
   split at h
   ·rename_i hc
    simp only [x5,y8,D1] at hc
    obtain⟨⟨⟨c1,c2⟩,c3⟩,c4⟩:=hc
    subst c1 c2 c3
    obtain⟨f1,f2⟩:=s0l h hl ha
    refine⟨?_,rfl⟩
    rcases ho with ⟨h1,h2⟩ | ⟨bb,cap,cur,h1,h2,h3,h4,h5,h6,h7,h8⟩
    ·exact .inl ⟨h1,nJ (by rw [f2,h2]; rfl)⟩
    ·exact .inr ⟨bb,cap,cur,h1,by rw [ha k' c4]; exact h2,h3,h4,h5,h6,by rw [f2]; exact h7,by rw [f2,f1]; exact h8⟩
   ·cases h
  | _=>simp [wF] at h
 | cells cs' t'=>
  cases o with
  | cells cs t=>
   simp only [wF] at h
   split at h
   ·rename_i ht
    simp only [x5,y8] at ht
    obtain⟨⟨ht,h1⟩,_⟩:=ht
    subst ht
    cases h
    have h2:cs=rnL σ cs':=hl.1
    obtain⟨b,hb,hw,hown⟩:=ho
    refine⟨⟨b,hb,?_,hown⟩,rfl⟩
    rw [rvL_low ha cs' h1,<- rvL_rn _ _ _ (low_noEL _ h1),<- h2]
    exact hw
   ·cases h
  | _=>simp [wF] at h
 | iter s' p'=>
  cases o with
  | iter s p=>simp only [wF] at h; cases h; have e:=hl.2; simp only [R5,AObj.iter.injEq,K2] at e; obtain⟨e1,e2⟩:=e; subst e1; subst e2; exact⟨ho,rfl⟩
  | _=>simp [wF] at h
 | ints k' xs'=>
  cases o with
  | ints k xs=>simp only [wF] at h; cases h; have e:=hl.2; simp only [R5,AObj.ints.injEq,K2] at e; obtain⟨e1,e2⟩:=e; subst e1; subst e2; exact⟨ho,rfl⟩
  | _=>simp [wF] at h
 | loop st pn ts ps asg bd=>
  cases o with
  | loop st0 pn0 ts0 ps0 asg0 bd0=>
   simp only [wF] at h
   split at h
   ·rename_i hlow
    cases h
    have e:AObj.loop st0 pn0 ts0 ps0 asg0 bd0=AObj.loop st pn ts ps asg bd:=List.head_eq_of_cons_eq hl.2
    cases e
    obtain⟨b1,r1,h1,h2,h3,h4⟩:=ho
    refine⟨⟨b1,r1,h1,h2,⟨h3.1,h3.2.1,h3.2.2.1,h3.2.2.2.1,h3.2.2.2.2.1,h3.2.2.2.2.2.1,fun t x hx=> ?_⟩,h4⟩,rfl⟩
    rw [h3.2.2.2.2.2.2 t x hx,x0u hb x (lR hlow t x hx)]
   ·cases h
  | _=>simp [wF] at h
 | defr=>
  cases o with
  | defr=>exact⟨ho,rfl⟩
  | _=>simp [wF] at h
 | dead=>
  cases o with
  | dead=>exact⟨ho,rfl⟩
  | _=>simp [wF] at h
 | ro xs=>cases o <;> simp [wF] at h
 | fam f' m' sz' o'=>
  cases o with
  | fam f m sz o=>simp only [wF] at h; cases h; have e:=hl.2; simp only [R5,AObj.fam.injEq,K2] at e; obtain⟨e1,e2,e3,e4⟩:=e; subst e1; subst e2; subst e3; subst e4; exact⟨ho,rfl⟩
  | _=>simp [wF] at h
 | map es=>cases o <;> simp [wF] at h
theorem rN {σ:Ren} {i:Nat} :∀ {H:Heap},q2f σ i H=true->∀ j o,H.get j=some o->σ.to i≠σ.to j
 | [],_,j,o,h=>by simp [Heap.get] at h
 | (k,q) ::r,h,j,o,hj=>by
  simp only [q2f,x5,r0n] at h
  rw [a8] at hj
  split at hj
  ·rename_i e; subst e
   intro e
   rw [e,e0x] at h
   cases h.1
  ·exact rN h.2 j o hj
theorem wJ {a b:Pairs} (h:(a.add b).xs=(a.add b).ys∧(a.add b).os=(a.add b).qs) (h1:a.xs.length=a.ys.length) (h2:a.os.length=a.qs.length):(a.xs=a.ys∧a.os=a.qs)∧b.xs=b.ys∧b.os=b.qs:=by
 obtain⟨e1,e2⟩:=List.append_inj h.1 h1
 obtain⟨e3,e4⟩:=List.append_inj h.2 h2
 exact⟨⟨e1,e3⟩,e2,e4⟩
theorem t1f {b:Nat} {σ:Ren} {n:Nat} {o o':AObj} {l:Pairs} (h:wF b σ n o o'=some l):l.xs.length=l.ys.length∧l.os.length=l.qs.length:=by
 unfold wF at h
 split at h
 ·split at h
  ·exact b1t h
  ·cases h
 ·split at h
  ·rename_i ht
   simp only [x5,y8] at ht
   cases h
   exact⟨by rw [mI]; exact ht.2,rfl⟩
  ·cases h
 ·cases h; exact⟨rfl,rfl⟩
 ·cases h; exact⟨rfl,rfl⟩
 ·cases h; exact⟨rfl,rfl⟩
 ·split at h
  ·cases h; exact⟨rfl,rfl⟩
  ·cases h
 ·cases h; exact⟨rfl,rfl⟩
 ·cases h; exact⟨rfl,rfl⟩
 ·cases h
theorem j0e {b:Nat} {σ:Ren} {n:Nat} {H:Heap} :∀ {H':Heap} {l:Pairs},r2m b σ n H H'=some l->(l.xs=l.ys∧l.os=l.qs)->
  (∀ i o',H'.get i=some o'->i < n∧∃ o l0,H.get (σ.to i)=some o∧wF b σ n o o'=some l0∧(l0.xs=l0.ys∧l0.os=l0.qs))∧∀ i j o o',H'.get i=some o->H'.get j=some o'->i≠j->σ.to i≠σ.to j
 | [],l,_,_=>⟨fun i o' h=>by simp [Heap.get] at h,fun i j o o' h=>by simp [Heap.get] at h⟩
 | (k,q) ::r,l,h,hl=>by
  simp only [r2m] at h
  split at h
  ·rename_i o hg hlt hout
   split at h
   ·rename_i l1 l2 h1 h2
    cases h
    obtain⟨n1,n2⟩:=t1f h1
    obtain⟨hl1,hl2⟩:=wJ hl n1 n2
    obtain⟨g1,g2⟩:=j0e h2 hl2
    refine⟨fun i o' hi=> ?_,fun i j oi oj hi hj hij=> ?_⟩
    ·rw [a8] at hi
     split at hi
     ·rename_i e; subst e; cases hi
      exact⟨by simpa [Nat.blt_eq] using hlt,o,l1,hg,h1,hl1⟩
     ·exact g1 i o' hi
    ·rw [a8] at hi hj
     split at hi <;> split at hj
     ·rename_i e1 e2; exact absurd (e1.symm.trans e2) hij
     ·rename_i e1 e2; subst e1; exact rN hout j oj hj
     ·rename_i e1 e2; subst e2; exact fun e=>rN hout i oi hi e.symm
     ·exact g2 i j oi oj hi hj hij
   ·cases h
  ·cases h
theorem Rep.fit {P:Program} {J:Inv P} {B:Nat} {M:Nat->Prop} {w0:Bas} {rb:Option Nat} {s s':St} {a:Act} {w:World} (hR:Rep P J B M w0 rb s a w) {σ:Ren} {l:Pairs} (h:fit P σ s s'=some l) (hl:l.xs=l.ys∧l.os=l.qs):Rep P J B M w0 rb s' a w:=by
 unfold Ev.fit at h
 dsimp only at h
 split at h
 case h_2=>cases h
 rename_i mq mq' hmq hmq'
 split at h
 ·cases h
 rename_i hc
 simp only [x5,zzA10,D1,M8,y8] at hc
 obtain⟨⟨⟨⟨⟨⟨⟨⟨c1,c2⟩,c3⟩,c4⟩,c5⟩,c6⟩,c7⟩,c8⟩,c9⟩:=hc
 split at h
 case h_2=>cases h
 rename_i l1 l1' q h1 h2
 cases h
 obtain⟨tl,hT0⟩:=iK h1
 obtain⟨hx1,hx2⟩:=List.append_inj hl.1 tl
 obtain⟨t1,t2,t3⟩:=hT0 hx1
 obtain⟨g1,g2⟩:=j0e h2 ⟨hx2,hl.2⟩
 have e3:=i0g c3
 have e4:=r1m c4
 obtain⟨ρ,hρ0,hρ⟩:=hR.rep
 obtain⟨hS,hF,hT⟩:=hρ ρ (Agree.refl _ _)
 have below:∀ i,i < s.bs->σ.to i=i:=fun i hi=>fE c1 i hi
 have hbb:∀ ρ',Agree s'.nid (fun i=>ρ (σ.to i)) ρ'->Agree s.bs ρ ρ':=fun ρ' ha i hi=>by
  rw [ha i (by omega)]
  show ρ (σ.to i)=_
  rw [below i hi]
 refine⟨by rw [<- c5]; exact hR.low,t2,by rw [t1]; exact hR.size,hR.base,hR.inv,hR.keeps,fun i=>ρ (σ.to i),⟨by rw [hR.low]; exact c6,fun i hi=> ?_⟩,fun ρ' ha=>⟨⟨fun g hg=> ?_,fun i o hi=> ?_,fun i j o o' hi hr hj hij hne=> ?_⟩,⟨?_,?_⟩,fun t x hx=> ?_⟩⟩
 ·show ρ (σ.to i)=_
  rw [below i (by rw [<- hR.low]; exact hi)]
  exact hρ0.2 i hi
 ·rw [ha g (by omega)]
  show ρ (σ.to g)=_
  rw [below g (by omega)]
  exact hS.glob g hg
 ·obtain⟨hlt,o1,l0,k1,k2,k3⟩:=g1 i o hi
  exact (h0l k2 k3 ha (hbb _ ha) hlt (hS.obj _ _ k1)).1
 ·obtain⟨hlt,o1,l0,k1,k2,k3⟩:=g1 i o hi
  obtain⟨hlt',o1',l0',k1',k2',k3'⟩:=g1 j o' hj
  have hrw:=(h0l k2 k3 ha (hbb _ ha) hlt (hS.obj _ _ k1)).2
  rw [ha i hlt] at hne ⊢
  rw [ha j hlt']
  exact hS.inj _ _ _ _ k1 (by rw [<- hrw]; exact hr) k1' (g2 i j o o' hi hj hij) hne
 ·rw [hF.defers,bJ hmq,bJ hmq',<- e3,List.map_map,List.map_map]
  refine List.map_congr_left (fun i hi=> ?_)
  simp only [Function.comp]
  show Deferred.mk (.collected ((ρ i).getD 0)) #[] =Deferred.mk (.collected ((ρ' i).getD 0)) #[]
  rw [ha i (c8 i hi)]
  show _=Deferred.mk (.collected ((ρ (σ.to i)).getD 0)) #[]
  rw [zR c2 i hi]
 ·rw [hF.round,<- e4]
  cases hrd:s.rd with
  | none=>rfl
  | some l=>
   rw [hrd] at c9
   simp only [D1] at c9
   show ρ l=ρ' l
   rw [ha l (by omega)]
   show _=ρ (σ.to l)
   rw [below l c9]
 ·obtain⟨x0,k1,k2⟩:=t3 t x hx
  rw [hT t _ k1,k2 ρ ρ' ha]
def u7 (X:Cx) (c:Code) (s:St) (x:AX) (s':St):Prop:=
 ∀ (B:Nat) (M:Nat->Prop) (w0:Bas) (rb:Option Nat) (a:Act) (w:World),Par X.P B M->Rep X.P X.J B M w0 rb s a w->c.wpIn (Fl rb) 0 X.P (fun e a' w'=>e=x.toExit∧Rep X.P X.J B M w0 rb s' a' w') a w
def s2g:AX->AX->Bool
 | .normal, .normal=>true
 | .ret, .ret=>true
 | .exit i, .exit j=>zO0 i j
 | _,_=>false
theorem g1l {x y:AX} (h:s2g x y=true):x=y:=by
 cases x <;> cases y <;> simp_all [s2g]
def pV (X:Cx) (L:V4) (fuel:Nat) (c:Code) (ds:List Bool) (σ:Ren) (s:St) (x:AX) (s':St):Option (Pairs×List Prop):=
 match s with
 | ⟨tm,hp,n,_,_,_,rd,mq,bs⟩=>match E5 X L fuel c ⟨tm,hp,n,ds,[],0,rd,mq,bs⟩ with
  | none=>none
  | some (x1,s1)=>match s2g x1 x,fit X.P σ s1 s' with
   | true,some l=>some (l,s1.obs)
   | _,_=>none
def k2w:Option (Pairs×List Prop)->List Prop
 | some (_,l)=>l
 | none=>[False]
def s2f:Option (Pairs×List Prop)->List Value
 | some (p,_)=>p.xs
 | none=>[]
def s2m:Option (Pairs×List Prop)->List Value
 | some (p,_)=>p.ys
 | none=>[]
def r2v:Option (Pairs×List Prop)->List AObj
 | some (p,_)=>p.os
 | none=>[]
def t2j:Option (Pairs×List Prop)->List AObj
 | some (p,_)=>p.qs
 | none=>[]
theorem e1l {X:Cx} (hX:CxOk X X.J) (hm:X.P.follows .mixedOrders=true) (L:V4) (fuel:Nat) {c:Code} (ds:List Bool) (σ:Ren) {s s':St} {x:AX} {l:List Prop} (h:k2w (pV X L fuel c ds σ s x s')=l) (hl:d9 l)
  (h1:s2f (pV X L fuel c ds σ s x s')=s2m (pV X L fuel c ds σ s x s')) (h2:r2v (pV X L fuel c ds σ s x s')=t2j (pV X L fuel c ds σ s x s')):u7 X c s x s':=by
 subst h
 cases hr:pV X L fuel c ds σ s x s' with
 | none=>rw [hr] at hl; exact absurd hl.1 id
 | some r=>
  obtain⟨p,o⟩:=r
  rw [hr] at hl h1 h2
  unfold pV at hr
  dsimp only at hr
  split at hr
  ·cases hr
  rename_i x1 s1 he
  split at hr
  ·rename_i l0 hx hf
   cases hr
   have:=g1l hx
   subst this
   intro B M w0 rb a w hp hR
   exact dB hX hm hp fuel c _ x1 s1 he hl a w (hR.same rfl rfl rfl rfl rfl rfl) _ (fun a' w' hR'=>⟨rfl,hR'.fit hf ⟨h1,h2⟩⟩)
  ·cases hr
theorem stp {b:Base} (hb:BaseOk b) (k:Nat) (hm:(b.cx k).P.follows .mixedOrders=true) {c:Code} (ds:List Bool) (σ:Ren) {s s':St} {x:AX} {l:List Prop} (h:k2w (pV (b.cx k) [] 200 c ds σ s x s')=l) (hl:d9 l)
  (h1:s2f (pV (b.cx k) [] 200 c ds σ s x s')=s2m (pV (b.cx k) [] 200 c ds σ s x s'):=by kernel_rfl) (h2:r2v (pV (b.cx k) [] 200 c ds σ s x s')=t2j (pV (b.cx k) [] 200 c ds σ s x s'):=by kernel_rfl):u7 (b.cx k) c s x s':=
 e1l (q9 hb k).1 hm [] 200 ds σ h hl h1 h2
theorem G3 {ι:Type} {X:Cx} {c:Code} (T:ι->St) (μ:ι->Nat) (Good:ι->Prop) {x:AX} (hx:x≠ .normal) {s':St} (h:∀ i,Good i->(∃ j,Good j∧μ j < μ i∧u7 X c (T i) .normal (T j))∨u7 X c (T i) x s') (i:ι) (hi:Good i):d5 X c (T i) x s':=by
 intro B M w0 rb a w hp hR
 refine wpIn_loop_rounds (μ i+1) ?_
 have key:∀ (n:Nat) (i:ι),Good i->μ i < n->∀ a w,Rep X.P X.J B M w0 rb (T i) a w->Code.roundsIn (Fl rb) 0 X.P c (fun e a' w'=>e=x.toExit∧Rep X.P X.J B M w0 rb s' a' w') n a w:=by
  intro n
  induction n with
  | zero=>intro i _ h; omega
  | succ n ih=>
   intro i hi hn a w hR
   rw [roundsIn_succ]
   rcases h i hi with ⟨j,hj,hlt,hs⟩ | hs
   ·refine wpIn_mono (hs B M w0 rb a w hp hR) (fun e a' w' ⟨he,hR'⟩=> ?_)
    subst he
    exact ih j hj (by omega) a' w' hR'
   ·refine wpIn_mono (hs B M w0 rb a w hp hR) (fun e a' w' ⟨he,hR'⟩=> ?_)
    subst he
    cases x with
    | normal=>exact absurd rfl hx
    | exit id=>exact⟨rfl,hR'⟩
    | ret=>exact⟨rfl,hR'⟩
 exact key _ i hi (by omega) a w hR
theorem k1n {X:Cx} {c:Code} {s s1 s':St} {x:AX} (h:d5 X c s1 x s') (σ:Ren) {l:Pairs} (hf:fit X.P σ s s1=some l) (hl:l.xs=l.ys∧l.os=l.qs):d5 X c s x s':=
 fun B M w0 rb a w hp hR=>h B M w0 rb a w hp (hR.fit hf hl)
theorem m6 {X:Cx} {c:Code} {s s1 s':St} {x:AX} (h:d5 X c s1 x s') (σ:Ren) (h0:(fit X.P σ s s1).isSome=true:=by kernel_rfl) (h1:s2f ((fit X.P σ s s1).map fun p=>(p,[]))=s2m ((fit X.P σ s s1).map fun p=>(p,[])):=by kernel_rfl) (h2:r2v ((fit X.P σ s s1).map fun p=>(p,[]))=t2j ((fit X.P σ s s1).map fun p=>(p,[])):=by kernel_rfl):d5 X c s x s':=by
 cases hf:fit X.P σ s s1 with
 | none=>rw [hf] at h0; cases h0
 | some p=>
  rw [hf] at h1 h2
  exact k1n h σ hf ⟨h1,h2⟩
def dD:Code->List Code
 | .seq a b=>dD a++dD b
 | .cond _ a b=>dD a++dD b
 | .block _ a=>dD a
 | .scope a=>dD a
 | .loop a=>a ::dD a
 | _=>[]
def D3 (P:Program) (f k:Nat):Code:=match P.funcs[f]? with
 | some fn=>match fn.body with
  | some c=>match (dD c)[k]? with
   | some r=>r
   | none=> .skip
  | none=> .skip
 | none=> .skip
def u9 (X:Cx) (fuel f:Nat) (args:List Value) (H:Heap) (n:Nat) (ds:List Bool):St:=
 match X.P.funcs[f]? with
 | some fn=>match fn.body with
  | some c=>match E5 X [fun s=>some (.exit 1000000,s)] fuel c ⟨args.map .v++zO6 (fn.ntmps-args.length) (.v undef),H,n,ds,[],0,none,[],n⟩ with
   | some (_,s)=>s.core
   | none=>⟨[],[],0,[],[],0,none,[],0⟩
  | none=>⟨[],[],0,[],[],0,none,[],0⟩
 | none=>⟨[],[],0,[],[],0,none,[],0⟩
def only (k:Nat) (l:List (Nat×Value)):List TV:=(List.range k).map fun i=>match l.find? (fun p=>zO0 p.1 i) with
 | some p=> .v p.2
 | none=> .unk
def X4 (x:AX) (f:St->St):St->Option (AX×St):=fun s=>
 match s with
 | ⟨tm,hp,n,ds,o,lp,rd,mq,b⟩=>match f ⟨tm,hp,n,[],[],0,rd,mq,b⟩ with
  | ⟨tm',hp',n',_,_,_,rd',mq',b'⟩=>some (x,⟨tm',hp',n',ds,o,lp,rd',mq',b'⟩)
end
end Go.Proofs.YtbdaebagmmmijaaGreatDoor.Ev
namespace Go.Proofs.YtbdaebagmmmijaaGreatDoor
open Go Go.RowKit Ev
def p2v:List Int:=[0,1,28,2,29,14,24,3,30,22,20,15,25,17,4,8,31,27,13,23,21,19,16,7,26,12,18,6,11,5,10,9]
def m2a:List Int:=[0,1,56,2,57,49,28,3,61,58,42,50,38,29,17,4,62,47,59,36,45,43,51,22,53,39,33,30,24,18,12,5,63,55,48,27,60,41,37,16,46,35,44,21,52,32,23,11,54,26,40,15,34,20,31,10,25,14,19,9,13,8,7,6]
def VarIs (w:World) (g:Nat) (k:IntKind) (zs:List Int):Prop:=∃ t fr,w.heap[g]? =some (.cells (zs.map (zO3 k)).toArray t fr)
def HasInts (w:World) (g:Nat) (k:IntKind) (zs:List Int):Prop:=∃ cs t fr,w.heap[g]? =some (.cells cs t fr)∧∀ i,i < zs.length->cs[i]? =some (.int k (zs.getD i 0))
theorem HasInts.orep {w:World} {g:Nat} {k:IntKind} {zs:List Int} (h:HasInts w g k zs) (B:Nat) (M:Nat->Prop) (ρ:Num):ORep B M ρ w (some g) (.ints k zs):=by
 obtain⟨cs,t,fr,h1,h2⟩:=h
 exact .inr ⟨g,cs,t,fr,rfl,h1,h2⟩
theorem VarIs.has {w:World} {g:Nat} {k:IntKind} {zs:List Int} (h:VarIs w g k zs):HasInts w g k zs:=by
 obtain⟨t,fr,h⟩:=h
 exact⟨_,t,fr,h,fun i hi=>by simp [List.getD,hi]⟩
def firstZ:List Int:=Go.Pinned.utf8FirstZ.map zO2
def acceptZ:List Int:=[128,191,160,191,128,159,144,191,128,143,0,0,0,0,0,0,0,0,0,0,0,0,0,0,0,0,0,0,0,0,0,0]
theorem h0q {w:World} {g:Nat} {zs:List Int} (h0:0 < zs.length) (h:∀ i,i < zs.length->w.cell? ⟨g,i,none⟩=some (.int .u8 (zs.getD i 0))):HasInts w g .u8 zs:=by
 have hb:∀ i v,w.cell? ⟨g,i,none⟩=some v->∃ cs t fr,w.heap[g]? =some (.cells cs t fr)∧cs[i]? =some v:=by
  intro i v hv
  unfold World.cell? at hv
  split at hv
  ·rename_i cs t fr hc
   exact⟨cs,t,fr,hc,by simpa using hv⟩
  ·cases hv
 obtain⟨cs,t,fr,h1,_⟩:=hb 0 _ (h 0 h0)
 refine⟨cs,t,fr,h1,fun i hi=> ?_⟩
 obtain⟨cs',t',fr',h1',h2⟩:=hb i _ (h i hi)
 rw [h1] at h1'
 cases h1'
 exact h2
theorem w1e:(List.range 256).all (fun c=>decide (firstZ.getD c 0=(Lib.firstT c:Int)))=true:=by decide+kernel
theorem h1p:(List.range 16).all (fun i=>decide (acceptZ.getD (2*i) 0=(Lib.accLo i:Int)) && decide (acceptZ.getD (2*i+1) 0=(Lib.accHi i:Int)))=true:=by decide+kernel
theorem first_len:firstZ.length=256:=by kernel_rfl
theorem s1n {g h:Nat} {w:World} (t:Lib.Utf8Tabs g h w):HasInts w g .u8 firstZ∧HasInts w h .u8 acceptZ:=by
 obtain⟨t1,t2⟩:=t
 refine⟨h0q (show 0 < firstZ.length from Nat.lt_of_lt_of_eq (by decide:0 < 256) first_len.symm) fun i hi=> ?_,h0q (by decide) fun i hi=> ?_⟩
 ·have hi':i < 256:=Nat.lt_of_lt_of_eq hi first_len
  rw [t1 i hi',H8 (zzA10.1 w1e i (zzA124.2 hi'))]
 ·have hi':i < 32:=hi
  have:=zzA10.1 h1p (i/2) (zzA124.2 (by omega))
  simp only [x5,aO] at this
  obtain⟨q1,q2⟩:=t2 (i/2) (by omega)
  rcases Nat.mod_two_eq_zero_or_one i with e | e
  ·have e2:i=2*(i/2):=by omega
   rw [e2,q1,this.1]
  ·have e2:i=2*(i/2)+1:=by omega
   rw [e2,q2,this.2]
theorem n1t {g h n:Nat} {w w':World} (hg:g < n) (hh:h < n) (hk:∀ k,k < n->w'.heap[k]? =w.heap[k]?) (t:Lib.Utf8Tabs g h w):Lib.Utf8Tabs g h w':=by
 have e:∀ b c,b < n->w'.cell? ⟨b,c,none⟩=w.cell? ⟨b,c,none⟩:=fun b c hb=>by unfold World.cell?; simp only [hk b hb]
 exact⟨fun c hc=>by rw [e g c hg]; exact t.1 c hc,fun i hi=>by rw [e h _ hh,e h _ hh]; exact t.2 i hi⟩
def o2s:Heap:=[(1, .ints .u64 Lib.pow10Tab),(7, .ints .u8 p2v),(8, .ints .u8 m2a),(5, .ints .u8 firstZ),(6, .ints .u8 acceptZ)]
theorem tabs_in:1 < zO7.globals.size∧7 < zO7.globals.size∧8 < zO7.globals.size∧5 < zO7.globals.size∧6 < zO7.globals.size:=H8 (by kernel_rfl)
def o0e (w:World) (g:Nat):Prop:=∃ m,w.cell? ⟨g,0,none⟩=some (.int .i64 m)
theorem m1m:4 < zO7.globals.size:=H8 (by kernel_rfl)
def iT (w:World) (g:Nat):Prop:=∃ ev,w.cell? ⟨g,0,none⟩=some ev∧(ev= .nilIface∨∃ te pe,ev= .iface te pe)
theorem errs_in:9 < zO7.globals.size∧10 < zO7.globals.size:=⟨H8 (by kernel_rfl),H8 (by kernel_rfl)⟩
theorem j1u {P:Program} {ρ:Num} (hg:∀ g,g < P.globals.size->ρ g=some g) (B:Nat) (M:Nat->Prop) (w:World):∀ (L:List (Nat×IntKind×List Int)),(∀ x∈L,x.1 < P.globals.size∧HasInts w x.1 x.2.1 x.2.2)->
  ∀ i o,Heap.get (L.map fun x=>(x.1,AObj.ints x.2.1 x.2.2)) i=some o->ORep B M ρ w (ρ i) o∧o.rw=false
 | [],_,i,o,h=>by simp [Heap.get] at h
 | x ::L,hL,i,o,h=>by
  rw [b1i,a8] at h
  split at h
  ·rename_i e
   subst e
   cases h
   obtain⟨h1,h2⟩:=hL x (by simp)
   rw [hg _ h1]
   exact⟨h2.orep B M ρ,rfl⟩
  ·exact j1u hg B M w L (fun y hy=>hL y (R8 _ hy)) i o h
def J0:Inv zO7 where
 I w:=zO7.globals.size<=w.heap.size∧VarIs w 1 .u64 Lib.pow10Tab∧VarIs w 7 .u8 p2v∧VarIs w 8 .u8 m2a∧Lib.Utf8Tabs 5 6 w∧o0e w 4∧iT w 9∧iT w 10
 st w w' h1 h2 h3:=by
  obtain⟨g0,g1,g2,g3,g4,g5,g6,g7⟩:=h3
  exact⟨x7 g0 h2,by unfold VarIs; rw [h1 _ tabs_in.1]; exact g1,by unfold VarIs; rw [h1 _ tabs_in.2.1]; exact g2,by unfold VarIs; rw [h1 _ tabs_in.2.2.1]; exact g3,n1t tabs_in.2.2.2.1 tabs_in.2.2.2.2 h1 g4,by unfold o0e World.cell?; rw [h1 _ m1m]; exact g5,by unfold iT World.cell?; rw [h1 _ errs_in.1]; exact g6,by unfold iT World.cell?; rw [h1 _ errs_in.2]; exact g7⟩
 room _ h:=h.1
 tabs:=o2s
 tabsOk w ρ B M h hg:=by
  obtain⟨g0,g1,g2,g3,g4,g5,g6,g7⟩:=h
  obtain⟨q1,q2⟩:=s1n g4
  have key:=j1u (P:=zO7) hg B M w [(1, .u64,Lib.pow10Tab),(7, .u8,p2v),(8, .u8,m2a),(5, .u8,firstZ),(6, .u8,acceptZ)] (fun x hx=>by
   simp only [zzA84,T3,V5] at hx
   rcases hx with rfl | rfl | rfl | rfl | rfl
   ·exact⟨tabs_in.1,g1.has⟩
   ·exact⟨tabs_in.2.1,g2.has⟩
   ·exact⟨tabs_in.2.2.1,g3.has⟩
   ·exact⟨tabs_in.2.2.2.1,q1⟩
   ·exact⟨tabs_in.2.2.2.2,q2⟩)
  refine⟨hg,fun i o hi=>(key i o hi).1,fun i j oi oj hi hr _ _ _=> ?_⟩
  rw [(key i oi hi).2] at hr
  cases hr
 tabsRo i o hi:=by
  unfold o2s at hi
  rw [a8,a8,a8,a8,a8] at hi
  split at hi
  ·cases hi; rfl
  ·split at hi
   ·cases hi; rfl
   ·split at hi
    ·cases hi; rfl
    ·split at hi
     ·cases hi; rfl
     ·split at hi
      ·cases hi; rfl
      ·simp [Heap.get] at hi
theorem progOk:ProgOk zO7:=by
 refine⟨by kernel_rfl,fun f fn h=> ?_⟩
 have hall:(zO7.funcs.toList.all fun fn=> !(fn.name== "runtime.NumGoroutine"))=true:=by kernel_rfl
 have:=zzA10.1 hall fn (by
  have:=Array.mem_of_getElem? h
  simpa using this)
 simpa using this
theorem gN (s:ByteArray) (c:Int):Pure zO7 J0 247 [.string s, .int .u8 c] (.int .i64 (Lib.indexByte s.data.toList c.toNat.toUInt8)):=by
 refine⟨rfl,rfl, .inr fun w _=> ?_⟩
 rw [run_callFunc_extern Tryz.func247 (by kernel_rfl) (by kernel_rfl) (by kernel_rfl) (e:=Extern.BytealgIndexByte.indexByte) (by kernel_rfl),Lib.run_indexByteString]
 rfl
def aE:List Value->Option (Value×List Prop)
 | [.string s, .int .u8 c] =>some (.int .i64 (Lib.indexByte s.data.toList c.toNat.toUInt8),[])
 | _=>none
theorem qE (args:List Value) (v:Value) (l:List Prop) (h:aE args=some (v,l)) (_:d9 l):Pure zO7 J0 247 args v:=by
 unfold aE at h
 split at h
 ·cases h; exact gN _ _
 ·cases h
theorem yG {f:FuncId} {fn:Func} (hf:zO7.funcs[f]? =some fn) (h1:(fn.name== "runtime.NumGoroutine")=false) (h2:fn.body.isNone=true) (h3:Extern.findNext fn=none) {e:Array Value->Sem Value} (h4:Extern.find fn=some e)
  {args:List Value} {v:Value} (hp:pureL args=true) (hv:z7 v=true) (hr:∀ w,(e ⟨args⟩).run zO7 w= .ok v w):Pure zO7 J0 f args v:=by
 refine⟨hp,hv, .inr fun w _=> ?_⟩
 rw [run_callFunc_extern hf h1 h2 h3 h4]
 simp [hr]
def Y7:List Value->Option (Value×List Prop)
 | [.float .f64 b] =>some (.int .u64 b,[])
 | _=>none
theorem fG (args:List Value) (v:Value) (l:List Prop) (h:Y7 args=some (v,l)) (_:d9 l):Pure zO7 J0 17 args v:=by
 unfold Y7 at h
 split at h
 ·cases h; exact yG Tryz.func17 (by kernel_rfl) (by kernel_rfl) (by kernel_rfl) (e:=Extern.MathFloatBits.float64bits) (by kernel_rfl) rfl rfl (fun _=>rfl)
 ·cases h
def aG:List Value->Option (Value×List Prop)
 | [.int .u64 b] =>some (.float .f64 b.toNat,[])
 | _=>none
theorem fP (args:List Value) (v:Value) (l:List Prop) (h:aG args=some (v,l)) (_:d9 l):Pure zO7 J0 18 args v:=by
 unfold aG at h
 split at h
 ·cases h; exact yG Tryz.func18 (by kernel_rfl) (by kernel_rfl) (by kernel_rfl) (e:=Extern.MathFloatBits.float64frombits) (by kernel_rfl) rfl rfl (fun _=>rfl)
 ·cases h
theorem l0w (name:String) {x y c:Int} (hc:c.toNat<=1) (w:World):(Extern.MathBitsCarry.three name #[.int .u64 x, .int .u64 y, .int .u64 c]).run zO7 w= .ok (x.toNat,y.toNat,c.toNat) w:=by
 have hdef:Extern.MathBitsCarry.three name #[.int .u64 x, .int .u64 y, .int .u64 c] =(do
  let c0 <- asInt (.int .u64 c)
  if c0.toNat > 1 then unsupported (.noEntry ("extern/math/bits." ++name++ ": a carry that is neither 0 nor 1"))
  pure ((<- asInt (.int .u64 x)).toNat,(<- asInt (.int .u64 y)).toNat,c0.toNat)):=rfl
 rw [hdef]
 simp [asInt,asIntOf]
 omega
def kG:List Value->Option (Value×List Prop)
 | [.int .u64 x, .int .u64 y, .int .u64 c] =>match Nat.ble c.toNat 1 with
  | true=>some (.tuple ⟨[.int .u64 (zO2 ((x.toNat+y.toNat+c.toNat)%18446744073709551616)), .int .u64 (zO2 ((x.toNat+y.toNat+c.toNat)/18446744073709551616))]⟩,[])
  | false=>none
 | _=>none
theorem nL (args:List Value) (v:Value) (l:List Prop) (h:kG args=some (v,l)) (_:d9 l):Pure zO7 J0 148 args v:=by
 unfold kG at h
 split at h
 case h_2=>cases h
 rename_i x y c
 split at h
 case h_2=>cases h
 rename_i hc
 have hc:=iU hc
 cases h
 refine yG Tryz.func148 (by kernel_rfl) (by kernel_rfl) (by kernel_rfl) (e:=fun args=>do
  let (x,y,c) <- Extern.MathBitsCarry.three "Add64" args
  pure (Extern.MathBitsCarry.pair ((x+y+c)%Extern.MathBitsCarry.m64) ((x+y+c)/Extern.MathBitsCarry.m64))) (by kernel_rfl) rfl rfl (fun w=> ?_)
 simp [l0w _ hc,Extern.MathBitsCarry.pair,Extern.MathBitsCarry.m64]
def kN:List Value->Option (Value×List Prop)
 | [.int .u64 x, .int .u64 y, .int .u64 c] =>match Nat.ble c.toNat 1 with
  | true=>some (.tuple ⟨[.int .u64 (zO2 ((x.toNat+18446744073709551616-y.toNat-c.toNat)%18446744073709551616)), .int .u64 (zO2 (match zO1 x.toNat (y.toNat+c.toNat) with | true=>1 | false=>0))]⟩,[])
  | false=>none
 | _=>none
theorem oE (args:List Value) (v:Value) (l:List Prop) (h:kN args=some (v,l)) (_:d9 l):Pure zO7 J0 194 args v:=by
 unfold kN at h
 split at h
 case h_2=>cases h
 rename_i x y c
 split at h
 case h_2=>cases h
 rename_i hc
 have hc:=iU hc
 cases h
 refine yG Tryz.func194 (by kernel_rfl) (by kernel_rfl) (by kernel_rfl) (e:=fun args=>do
  let (x,y,b) <- Extern.MathBitsCarry.three "Sub64" args
  pure (Extern.MathBitsCarry.pair ((x+Extern.MathBitsCarry.m64-y-b)%Extern.MathBitsCarry.m64) (if x < y+b then 1 else 0))) (by kernel_rfl) rfl rfl (fun w=> ?_)
 have hb:(if x.toNat < y.toNat+c.toNat then 1 else 0)=(match zO1 x.toNat (y.toNat+c.toNat) with | true=>1 | false=>0):=by
  by_cases hlt:x.toNat < y.toNat+c.toNat
  ·rw [b9 hlt,show zO1 x.toNat (y.toNat+c.toNat)=true by simp [Nat.blt_eq]; exact hlt]
  ·rw [a6 hlt,show zO1 x.toNat (y.toNat+c.toNat)=false by cases hb:zO1 x.toNat (y.toNat+c.toNat) <;> first | rfl | exact absurd (by simpa [Nat.blt_eq] using hb) hlt]
 rw [<- hb]
 simp [l0w _ hc,Extern.MathBitsCarry.pair,Extern.MathBitsCarry.m64]
def c0q:List Value->Heap->Nat->Option CR
 | [x],H,n=>some ⟨x,H,n,[],[]⟩
 | _,_,_=>none
theorem p0t {f:FuncId} {fn:Func} (hf:zO7.funcs[f]? =some fn) (h1:(fn.name== "runtime.NumGoroutine")=false) (h2:fn.body.isNone=true) (h3:Extern.findNext fn=none) (h4:Extern.find fn=some Extern.AbiNoEscape.same):s2o zO7 J0 f c0q:=by
 intro args H n r h _
 unfold c0q at h
 split at h
 case h_2=>cases h
 rename_i x
 cases h
 refine⟨d7 _,fun B M ρ w vs _ _ _ hS=>⟨ρ,rv ρ x,w,Agree.refl _ _,?_,Keeps.refl _ _ _,fun ρ' ha=>⟨?_,(hS ρ' ha).1⟩⟩⟩
 ·rw [run_callFunc_extern hf h1 h2 h3 h4,(hS ρ (Agree.refl _ _)).2]
  rfl
 ·have e1:=(hS ρ (Agree.refl _ _)).2
  have e2:=(hS ρ' ha).2
  rw [e1] at e2
  simpa [rvL] using e2
def nD (e:TypeId):List Value->Heap->Nat->Option CR
 | [.int .i64 m],H,n=>match m with
  | .ofNat m=>match Nat.ble m 281474976710656 with
   | true=>some ⟨.slice (some ⟨n,0,some (n+1)⟩) m 0,(n, .row e 1 (.ints .u8 []) (n+1)) ::H,n+2,[],[]⟩
   | false=>none
  | .negSucc _=>none
 | _,_,_=>none
theorem b0z:s2o zO7 J0 205 (nD 5):=by
 intro args H n r h _
 unfold nD at h
 split at h
 case h_2=>cases h
 split at h
 case h_2=>cases h
 rename_i m
 split at h
 case h_2=>cases h
 rename_i hm
 have hm:=iU hm
 cases h
 refine⟨fH _ _,fun B M ρ w vs _ hB _ hS=> ?_⟩
 obtain⟨cs,hrun,hle,hmax⟩:=Lib.run_makeNoZero (P:=zO7) w #[3] 22 5 (by kernel_rfl) m hm
 refine⟨fun i=>if i=n then some w.heap.size else if i=n+1 then some cs.size else ρ i, .slice (some ⟨w.heap.size,0,none⟩) m cs.size,w.drew.drew.alloc (.cells cs 5),fun i hi=> ?_,?_,?_,fun ρ' ha=> ?_⟩
 ·show (if i=n then some w.heap.size else if i=n+1 then some cs.size else ρ i)=ρ i
  simp only [show i≠n by omega,show i≠n+1 by omega,D7]
 ·rw [run_callFunc_extern Tryz.func205 (by kernel_rfl) (by kernel_rfl) (by kernel_rfl) (e:=Extern.BytealgMakeNoZero.makeNoZero #[3] #[22]) (by kernel_rfl),(hS ρ (Agree.refl _ _)).2]
  have e1:(⟨rvL ρ [.int .i64 (zO2 m)]⟩:Array Value)= #[.int .i64 m] :=by simp [rvL,rv]
  rw [e1,hrun]
  rfl
 ·exact⟨rfl,rfl,rfl,by simp,fun k hk _=>by rw [heap_alloc_old _ _ (by simpa using E3 hk hB)]; rfl⟩
 ·have h1:=ha n (by simp)
  have h2:=ha (n+1) (by simp)
  simp only [J3] at h1
  simp only [show n+1≠n by omega,D7,J3] at h2
  refine⟨by simp [rv,rSl,h1,h2],Sim.row (hS ρ' (fun i hi=> ?_)).1 (fun i o _ hi=>⟨hi,fun e=> ?_⟩) h1 h2 (.of (c1r _ _)) (.inl (by simpa using hB)) (hmax (by unfold maxLen; omega)) (by omega) (by simp [Row.list]) (by simp [Row.list,rvL]) (fun k hk _=>by rw [heap_alloc_old _ _ (by simpa using hk)]; rfl)⟩
  ·have:=ha i (by simp; omega)
   simp only [show i≠n by omega,show i≠n+1 by omega,D7] at this
   exact this
  ·have:=((hS ρ' (fun i hi=>by
    have:=ha i (by simp; omega)
    simp only [show i≠n by omega,show i≠n+1 by omega,D7] at this
    exact this)).1).obj i o hi
   rw [e] at this
   exact absurd this.lt (o0w _)
def I6:FuncId->List Value->Heap->Nat->Option CR:=v1g 204 c0q (v1g 205 (nD 5) xt0)
theorem m0:a2v zO7 J0 I6:=w0c (p0t Tryz.func204 (by kernel_rfl) (by kernel_rfl) (by kernel_rfl) (by kernel_rfl)) (w0c b0z (n2j _ _))
def j0p:Tab:=l5 148 kG (l5 194 kN (l5 17 Y7 (l5 18 aG (l5 247 aE r2x))))
theorem Z4:Q0 zO7 J0 j0p:=b7 nL (b7 oE (b7 fG (b7 fP (b7 qE (k1k _ _)))))
def bN0:Base:=⟨zO7,J0,true,j0p,F4,2000,I6⟩
theorem w1u:BaseOk bN0:=⟨progOk,Z4,n9 _ _,m0⟩
end Go.Proofs.YtbdaebagmmmijaaGreatDoor
namespace Go.Proofs.YtbdaebagmmmijaaGreatDoor
open Go.ChangeShapes Go.WideShapes Go.ChangeAt Go.RowKit Go.Joins
theorem own:ownKnob zO7.godebug=none:=by kernel_rfl
theorem d0g {H:Type} {enc:TypeId×Value->H} {P:Program} {f:Func} {s:ChangeSpec} {apart fresh handsOn again:Bool} {W W':World} {args:Array Value} {v:Value} {ds gs:List (DataW H)}
  (hW:DataW.Whole enc P f.params.toList s.vars apart W args.toList ds gs [])
  (hres:∀ (b:Nat) (sp:Nat->Bool) (hd:Bool),DataW.TrodAll enc P W' b sp hd f.resultTypes.toList (v.resultList f.resultTypes.size) (s.fn H (ds++gs)).results [])
  (hargs:∀ sp:Nat->Bool,DataW.TrodAll enc P W' 0 sp true f.params.toList args.toList (s.fn H (ds++gs)).args [])
  (hvars:∀ sp:Nat->Bool,DataW.TrodVars enc P W' sp s.vars (s.fn H (ds++gs)).vars [])
  (hk:Below W.heap.size W W')
  (hok:∀ (j:Nat) (t:TypeId) (r:Value),f.resultTypes[j]? =some t->(v.resultList f.resultTypes.size)[j]? =some r->Value.okWide P W' .any 0 t r):
  s.post enc P f apart fresh handsOn again W args v W':=by
 refine⟨ds,gs,[],[],[],[],hW,hres _ _ _,hargs _,hvars _,World.keptBut_mono (fun p hp=>⟨hp,?_⟩) (hk.frame (· ∈[])),fun _=> ?_⟩
 ·cases hp
 ·refine⟨hok,_,_,([] ++[])++[],⟨[] ++[],[],trodAll_append (hargs _) (hres _ _ _),hvars _,rfl,?_,?_⟩,?_⟩
  ·intro b off hp
   simp at hp
  ·intro ha
   simp
  ·intro p hp _
   simp at hp
theorem i0n {P:Program} {J:Ev.Inv P} {f:FuncId} {args:List Value} {v:Value} (h:Ev.Pure P J f args v) (he:Enters P f) (w:World) (hI:J.I w):Calls P f ⟨args⟩ w fun e w'=>e= .returned v∧Below w.heap.size w w':=by
 obtain⟨_,_,⟨_,hc⟩ | hx⟩:=h
 ·exact hc w hI
 ·have:=hx w hI
  rw [he _ _] at this
  cases this
theorem g0h {W:World} {n:String} {g:Nat} {cs:Array Value} {k:IntKind} {zs:List Int} (e:zO7.globalNamed n=some g) (hv:W.var? zO7 n=some cs) (hc:cs.toList=zs.map fun z=>zO3 k z):VarIs W g k zs:=by
 unfold World.var? at hv
 rw [e] at hv
 simp only [Option.bind_some] at hv
 split at hv
 ·rename_i c t fr hb
  cases hv
  refine⟨t,fr,?_⟩
  rw [hb,<- hc]
 ·cases hv
theorem VarIs.lt {W:World} {g:Nat} {k:IntKind} {zs:List Int} (h:VarIs W g k zs):g < W.heap.size:=by
 obtain⟨t,fr,h⟩:=h
 exact (zzA14.1 h).1
theorem u1y:(Rows.laid_internal_strconv_uint64pow10:DataW Unit)=Lib.tabData .u64 Lib.pow10Tab:=by kernel_rfl
theorem q1r:(Rows.laid_math_bits_deBruijn32tab:DataW Unit)=Lib.tabData .u8 p2v:=by kernel_rfl
theorem u1u:(Rows.laid_math_bits_deBruijn64tab:DataW Unit)=Lib.tabData .u8 m2a:=by kernel_rfl
theorem y0x:(Rows.laid_unicode_utf8_first:DataW Unit)=Lib.firstData:=by kernel_rfl
theorem s0b:(Rows.laid_unicode_utf8_acceptRanges:DataW Unit)=Lib.acceptData:=by kernel_rfl
def l2i:Go.Shelf.Ren:=⟨fun n=>n,fun | 5=>5 | 119=>263 | 138=>265 | 139=>266 | n=>n,fun | 3=>5 | 4=>6 | n=>n⟩
theorem h2l:U8Types zO7 l2i:=⟨Tryz.underlying5,Tryz.underlying263,Tryz.underlying265,Tryz.underlying266⟩
theorem i2f:U8Extra zO7 l2i:=⟨by kernel_rfl,by kernel_rfl,by kernel_rfl,by kernel_rfl,by kernel_rfl,by kernel_rfl,by kernel_rfl⟩
theorem p0f {w:World} (h:w.ShapedOpen zO7):o0e w 4:=
 Go.Proofs.cell_of_shapedOpen_int (zero:= #[.int .i64 0]) (t:=3) h (H8 (by kernel_rfl)) (by kernel_rfl) rfl (by kernel_rfl) (by kernel_rfl) Tryz.underlying3
theorem vS {w:World} {n name:String} {g:Nat} {t:TypeId} {d:DataW Unit} {ms:_} (hr:Lib.VarReads zO7 w n (.iface name d)) (hg:zO7.globalNamed n=some g) (hty:(zO7.globals[g]?).map (·.type)=some t)
  (hu:zO7.underlying t=some (.interface ms)):iT w g:=by
 obtain⟨g',t',cs,fuel,p,h1,h2,h3,h4⟩:=hr
 obtain rfl:=T7 (hg.symm.trans h1)
 obtain rfl:=T7 (hty.symm.trans h2)
 cases fuel with
 | zero=>simp [DataW.trod] at h4
 | succ n=>
  unfold DataW.trod at h4
  rw [hu] at h4
  have hc:=World.var?_cell hg h3 0
  obtain⟨l⟩:=cs
  simp only at h4
  split at h4 <;> first | (simp_all; done) | skip
  all_goals first
   | (rename_i u v _ _; exact⟨.iface u v,by rw [hc]; simp_all, .inr ⟨u,v,rfl⟩⟩)
   | (rename_i u v _; exact⟨.iface u v,by rw [hc]; simp_all, .inr ⟨u,v,rfl⟩⟩)
   | (rename_i u v; exact⟨.iface u v,by rw [hc]; simp_all, .inr ⟨u,v,rfl⟩⟩)
   | cases h4
theorem r0d {W:World} (h:laidMetH zO7 Rows.numberNearRow.laid W) (hsh:W.ShapedOpen zO7):J0.I W:=by
 have h':laidMet zO7 Rows.numberNearRow.laid W:=h
 obtain⟨ps,⟨g1,t1,cs1,f1,p1,q1,hg1,ht1,hvar1,hd1,⟨g2,t2,cs2,f2,p2,q2,hg2,ht2,hvar2,hd2,⟨g3,t3,cs3,f3,p3,q3,hg3,ht3,hvar3,hd3,_⟩,_⟩,_⟩,_⟩:=h'
 have e1:zO7.globalNamed "math/bits.deBruijn32tab" =some 7:=by kernel_rfl
 have e2:zO7.globalNamed "math/bits.deBruijn64tab" =some 8:=by kernel_rfl
 have e3:zO7.globalNamed "internal/strconv.uint64pow10" =some 1:=by kernel_rfl
 obtain rfl:=T7 (e1.symm.trans hg1)
 obtain rfl:=T7 (e2.symm.trans hg2)
 obtain rfl:=T7 (e3.symm.trans hg3)
 have et1:(zO7.globals[7]?).map (·.type)=some 272:=by kernel_rfl
 have et2:(zO7.globals[8]?).map (·.type)=some 273:=by kernel_rfl
 have et3:(zO7.globals[1]?).map (·.type)=some 244:=by kernel_rfl
 obtain rfl:=T7 (et1.symm.trans ht1)
 obtain rfl:=T7 (et2.symm.trans ht2)
 obtain rfl:=T7 (et3.symm.trans ht3)
 rw [show (Rows.laid_math_bits_deBruijn32tab:DataW Unit)=Lib.tabData .u8 p2v from q1r] at hd1
 rw [show (Rows.laid_math_bits_deBruijn64tab:DataW Unit)=Lib.tabData .u8 m2a from u1u] at hd2
 rw [show (Rows.laid_internal_strconv_uint64pow10:DataW Unit)=Lib.tabData .u64 Lib.pow10Tab from u1y] at hd3
 have c1:=Lib.cells_of_tab (n:=32) Tryz.underlying272 Tryz.underlying5 (by kernel_rfl) (by kernel_rfl) hd1
 have c2:=Lib.cells_of_tab (n:=64) Tryz.underlying273 Tryz.underlying5 (by kernel_rfl) (by kernel_rfl) hd2
 have c3:=Lib.cells_of_tab (n:=20) Tryz.underlying244 Tryz.underlying39 (by kernel_rfl) (by kernel_rfl) hd3
 have v1:=g0h e1 hvar1 c1
 have v2:=g0h e2 hvar2 c2
 have v3:=g0h e3 hvar3 c3
 have w1:=vS (g:=9) (t:=132) (Lib.laidMet.reads h (n:= "strconv.ErrSyntax") (d:=Rows.laid_strconv_ErrSyntax) (by simp [Rows.numberNearRow])) (by kernel_rfl) (by kernel_rfl) Tryz.underlying132
 have w2:=vS (g:=10) (t:=132) (Lib.laidMet.reads h (n:= "strconv.ErrRange") (d:=Rows.laid_strconv_ErrRange) (by simp [Rows.numberNearRow])) (by kernel_rfl) (by kernel_rfl) Tryz.underlying132
 refine⟨?_,v3,v1,v2,?_,p0f hsh,w1,w2⟩
 case refine_2=>exact utf8Tabs_of_readsT h2l i2f (Lib.laidMet.reads h (n:= "unicode/utf8.first") (by rw [<- y0x]; simp [Rows.numberNearRow])) (Lib.laidMet.reads h (n:= "unicode/utf8.acceptRanges") (by rw [<- s0b]; simp [Rows.numberNearRow]))
 have hpos:zO7.globals.size-1 < zO7.globals.size:=H8 (by kernel_rfl)
 have hr:(((begin zO7 (fun _ _=>0) default).world.heap[zO7.globals.size-1]?).bind Obj.row?).isSome=true:=by kernel_rfl
 obtain⟨⟨zero,t⟩,h0⟩:=Option.isSome_iff_exists.1 hr
 obtain⟨cs,hh,_⟩:=hsh.1 _ zero t hpos h0
 have:=(zzA14.1 hh).1
 omega
def a0v:Nat->DataW Unit->List Value
 | 0,_=>[]
 | _+1, .lit (.int k n)=>[.int k n]
 | f+1, .agg l=>l.flatMap (a0v f)
 | _+1,_=>[]
def d2l (g:Nat) (cs:List Value) (h:Array Obj):Array Obj:=h.modify g fun
 | .cells _ t frozen=> .cells cs.toArray t frozen
 | o=>o
def p2o:ByteArray:=⟨#[118,97,108,117,101,32,111,117,116,32,111,102,32,114,97,110,103,101]⟩
def c2u:ByteArray:=⟨#[105,110,118,97,108,105,100,32,115,121,110,116,97,120]⟩
def low:Nat:=(World.holding zO7 default ⟨#[],#[],[]⟩).heap.size
def vX (os:Os):World:=
 let w0:=World.holding zO7 os ⟨#[.cells #[.string p2o] 280, .cells #[.string c2u] 280],#[],[]⟩
 { w0 with heap:=d2l 10 [.iface 278 (.pointer (some ⟨low,0,none⟩))] (d2l 9 [.iface 278 (.pointer (some ⟨low+1,0,none⟩))]
   (d2l 5 (a0v 4 Rows.laid_unicode_utf8_first) (d2l 6 (a0v 4 Rows.laid_unicode_utf8_acceptRanges) (d2l 1 (a0v 4 Rows.laid_internal_strconv_uint64pow10)
   (d2l 7 (a0v 4 Rows.laid_math_bits_deBruijn32tab) (d2l 8 (a0v 4 Rows.laid_math_bits_deBruijn64tab) w0.heap))))))}
end Go.Proofs.YtbdaebagmmmijaaGreatDoor
namespace Go.Proofs
def lI:Go.Shelf.Ren:=⟨fun | 143=>220 | 219=>235 | 217=>244 | 225=>234 | 224=>233 | 267=>245 | 266=>247 | 314=>248 | n=>n,fun | 9=>9 | 3=>3 | 4=>4 | 5=>5 | 46=>90 | 146=>201 | 51=>94 | n=>n,fun | 1=>4 | n=>n⟩
theorem xC:Go.Proofs.Lays.n143 zO7 lI where
 mixed:=by kernel_rfl
 f143:=Tryz.func220.trans (H5 some (by kernel_rfl))
 f217:=Tryz.func244.trans (H5 some (by kernel_rfl))
 f219:=Tryz.func235.trans (H5 some (by kernel_rfl))
 f224:=Tryz.func233.trans (H5 some (by kernel_rfl))
 f225:=Tryz.func234.trans (H5 some (by kernel_rfl))
 f266:=Tryz.func247.trans (H5 some (by kernel_rfl))
 f267:=Tryz.func245.trans (H5 some (by kernel_rfl))
 f314:=Tryz.func248.trans (H5 some (by kernel_rfl))
 t3:=Tryz.underlying3
 a3:=Tryz.isAgg3
 z3:=Tryz.sizeOf3
 v3:=Tryz.zeroValue3
 t4:=Tryz.underlying4
 a4:=Tryz.isAgg4
 z4:=Tryz.sizeOf4
 v4:=Tryz.zeroValue4
 t5:=Tryz.underlying5
 a5:=Tryz.isAgg5
 z5:=Tryz.sizeOf5
 v5:=Tryz.zeroValue5
 t9:=Tryz.underlying9
 a9:=Tryz.isAgg9
 z9:=Tryz.sizeOf9
 v9:=Tryz.zeroValue9
 t46:=Tryz.underlying90
 a46:=Tryz.isAgg90
 z46:=Tryz.sizeOf90
 v46:=Tryz.zeroValue90
 t51:=Tryz.underlying94
 a51:=Tryz.isAgg94
 z51:=Tryz.sizeOf94
 v51:=Tryz.zeroValue94
 t146:=Tryz.underlying201
 a146:=Tryz.isAgg201
 z146:=Tryz.sizeOf201
 v146:=Tryz.zeroValue201
 g1:=by kernel_rfl
namespace YtbdaebagmmmijaaGreatDoor
open Go Go.RowKit Ev
theorem zP (s t:List UInt8) (hs:s.length < 4294967281):Pure zO7 J0 220 [.string ⟨⟨s⟩⟩, .string ⟨⟨t⟩⟩] (.int .i64 (Lib.index s t)):=by
 refine⟨rfl,rfl, .inl ⟨enters_of Tryz.func220 (by kernel_rfl) (c:=_) rfl,fun w hI=> ?_⟩⟩
 obtain⟨m,hm⟩:=hI.2.2.2.2.2.1
 exact (Any.strings_Index xC ⟨⟨s⟩⟩ ⟨⟨t⟩⟩ m w hs hm).mono fun e w' ⟨h1,h2⟩=>⟨h1,h2 ▸ X1 _ _⟩
def vP:List Value->Option (Value×List Prop)
 | [.string ⟨⟨s⟩⟩, .string ⟨⟨t⟩⟩] =>match zO1 s.length 4294967281 with
  | true=>some (.int .i64 (Lib.index s t),[])
  | false=>none
 | _=>none
theorem g0u (args:List Value) (v:Value) (l:List Prop) (h:vP args=some (v,l)) (_:d9 l):Pure zO7 J0 220 args v:=by
 unfold vP at h
 split at h
 case h_2=>cases h
 split at h
 case h_2=>cases h
 rename_i hl
 cases h
 exact zP _ _ (by simpa [Nat.blt_eq] using hl)
def o2m:Tab:=l5 220 vP j0p
theorem s1y:Q0 zO7 J0 o2m:=b7 g0u Z4
def atS:List (List Value×Value)->List Value->Option (Value×List Prop)
 | [],_=>none
 | (a,v) ::r,args=>match eqL args a with
  | true=>some (v,[])
  | false=>atS r args
theorem O5 {f:FuncId} :∀ {l:List (List Value×Value)},(∀ p∈l,Pure zO7 J0 f p.1 p.2)->∀ (args:List Value) (v:Value) (o:List Prop),atS l args=some (v,o)->d9 o->Pure zO7 J0 f args v
 | [],_,args,v,o,h,_=>by cases h
 | (a,x) ::r,hl,args,v,o,h,ho=>by
  unfold atS at h
  split at h
  ·rename_i he
   cases h
   rw [eqL_spec _ _ he]
   exact hl _ X5
  ·exact O5 (fun p hp=>hl p (R8 _ hp)) args v o h ho
end YtbdaebagmmmijaaGreatDoor
end Go.Proofs
namespace Go.Proofs.YtbdaebagmmmijaaGreatDoor.Ev
open Go Go.RowKit
noncomputable section
inductive Cel where
 | v (x:Value)
 | s (e:TypeId) (k:IntKind) (xs:List Int)
 | o (k:IntKind) (ys:List Int) (off n:Nat)
 | f (g:Nat->Value) (m sz off:Nat)
inductive Arg where
 | c (x:Cel)
 | a (l:List Cel)
def Arg.cells:Arg->List Cel
 | .c x=>[x]
 | .a l=>l
def t8:List Arg->List Cel
 | [] =>[]
 | a ::r=>a.cells++t8 r
def Arg.pack:Arg->List Value->Value
 | .c _,us=>match us with
  | u ::_=>u
  | [] =>undef
 | .a _,us=> .agg ⟨us⟩
def M5:List Arg->List Value->List Value
 | [],_=>[]
 | a ::r,us=>a.pack (us.take a.cells.length) ::M5 r (us.drop a.cells.length)
inductive All2 {α β:Type} (R:α->β->Prop):List α->List β->Prop
 | nil:All2 R [] []
 | cons {x y xs ys} :R x y->All2 R xs ys->All2 R (x ::xs) (y ::ys)
theorem All2.length {α β:Type} {R:α->β->Prop} {l:List α} {m:List β} (h:All2 R l m):l.length=m.length:=by
 induction h with
 | nil=>rfl
 | cons _ _ ih=>simp [ih]
theorem All2.append {α β:Type} {R:α->β->Prop} {l l':List α} {m m':List β} (h:All2 R l m) (k:All2 R l' m'):All2 R (l++l') (m++m'):=by
 induction h with
 | nil=>exact k
 | cons a _ ih=>exact .cons a ih
theorem All2.nil_inv {α β:Type} {R:α->β->Prop} {m:List β} (h:All2 R ([] :List α) m):m=[] :=by cases h; rfl
theorem All2.cons_inv {α β:Type} {R:α->β->Prop} {x:α} {xs:List α} {m:List β} (h:All2 R (x ::xs) m):∃ y ys,m=y ::ys∧R x y∧All2 R xs ys:=by
 cases h with
 | cons a b=>exact⟨_,_,rfl,a,b⟩
def rX (w:World):Cel->Value->Prop
 | .v x,u=>u=x∧z7 x=true
 | .s _ k xs,u=>(u= .slice none 0 0∧xs=[])∨∃ g cap cs t fr,u= .slice (some ⟨g,0,none⟩) xs.length cap∧w.heap[g]? =some (.cells cs t fr)∧∀ i,i < xs.length->cs[i]? =some (.int k (xs.getD i 0))
 | .o k ys off n,u=>(u= .slice none 0 0∧ys=[] ∧off=0∧n=0)∨∃ g cap cs t fr,u= .slice (some ⟨g,off,none⟩) n cap∧w.heap[g]? =some (.cells cs t fr)∧∀ i,i < ys.length->cs[i]? =some (.int k (ys.getD i 0))
 | .f g m sz off,u=>(u= .slice none 0 0∧m=0)∨∃ b cap cs t fr,u= .slice (some ⟨b,off,none⟩) m cap∧w.heap[b]? =some (.cells cs t fr)∧∀ i,i < m->(g i).cells.toList.length=sz∧z7 (g i)=true∧∀ (j:Nat) (v:Value),(g i).cells.toList[j]? =some v->cs[off+i*sz+j]? =some v
def w0t (w w':World):Cel->Value->Prop
 | .v x,u=>u=x∧z7 x=true
 | .s e k xs,u=>(u= .slice none 0 0∧xs=[])∨∃ g cap cur,u= .slice (some ⟨g,0,none⟩) xs.length cap∧w.heap.size<=g∧RowAt w' g cur e∧cap<=maxLen∧cur.size=cap∧xs.length<=cap∧cur.toList.take xs.length=xs.map (zO3 k)
 | .o _ _ _ _,_=>False
 | .f _ _ _ _,_=>False
def blk:Value->Option Nat
 | .slice (some a) _ _=>some a.block
 | _=>none
def Sem (P:Program) (J:Inv P) (f:FuncId) (az rs:List Arg):Prop:=
 Enters P f∧∀ (w:World) (us:List Value),J.I w->All2 (rX w) (t8 az) us->
  Calls P f ⟨M5 az us⟩ w fun e w'=>∃ us',e= .returned (O1 (M5 rs us'))∧Below w.heap.size w w'∧All2 (w0t w w') (t8 rs) us'∧(us'.filterMap blk).Nodup
def L0 (n:Nat):List Cel->List Value×Heap×Nat
 | [] =>([],[],n)
 | .v x ::r=>match L0 n r with
  | (vs,h,m)=>(x ::vs,h,m)
 | .s _ k xs ::r=>match L0 (n+2) r with
  | (vs,h,m)=>(.slice (some ⟨n,0,some (n+1)⟩) xs.length 0 ::vs,(n, .ints k xs) ::h,m)
 | .o k ys off l ::r=>match L0 (n+2) r with
  | (vs,h,m)=>(.slice (some ⟨n,off,some (n+1)⟩) l 0 ::vs,(n, .ints k ys) ::h,m)
 | .f g m sz off ::r=>match L0 (n+2) r with
  | (vs,h,k)=>(.slice (some ⟨n,off,some (n+1)⟩) m 0 ::vs,(n, .fam g m sz off) ::h,k)
theorem P1:∀ (cs:List Cel) (n:Nat),n<=(L0 n cs).2.2
 | [],n=>d7 _
 | .v x ::r,n=>P1 r n
 | .s _ k xs ::r,n=>by
  have:=P1 r (n+2)
  show n<=(L0 (n+2) r).2.2
  omega
 | .o k ys off l ::r,n=>by
  have:=P1 r (n+2)
  show n<=(L0 (n+2) r).2.2
  omega
 | .f g m sz off ::r,n=>by
  have:=P1 r (n+2)
  show n<=(L0 (n+2) r).2.2
  omega
theorem dY:∀ (cs:List Cel) (n:Nat) (i:Nat) (o:AObj),(L0 n cs).2.1.get i=some o->n<=i∧i < (L0 n cs).2.2∧o.rw=false
 | [],n,i,o,h=>by cases h
 | .v x ::r,n,i,o,h=>dY r n i o h
 | .s _ k xs ::r,n,i,o,h=>by
  change Heap.get ((n, .ints k xs) ::(L0 (n+2) r).2.1) i=some o at h
  rw [a8] at h
  have hle:=P1 r (n+2)
  show n<=i∧i < (L0 (n+2) r).2.2∧o.rw=false
  split at h
  ·rename_i e
   cases h
   exact⟨by omega,by omega,rfl⟩
  ·have:=dY r (n+2) i o h
   exact⟨by omega,by omega,this.2.2⟩
 | .o k xs off l ::r,n,i,o,h=>by
  change Heap.get ((n, .ints k xs) ::(L0 (n+2) r).2.1) i=some o at h
  rw [a8] at h
  have hle:=P1 r (n+2)
  show n<=i∧i < (L0 (n+2) r).2.2∧o.rw=false
  split at h
  ·rename_i e
   cases h
   exact⟨by omega,by omega,rfl⟩
  ·have:=dY r (n+2) i o h
   exact⟨by omega,by omega,this.2.2⟩
 | .f g m sz off ::r,n,i,o,h=>by
  change Heap.get ((n, .fam g m sz off) ::(L0 (n+2) r).2.1) i=some o at h
  rw [a8] at h
  have hle:=P1 r (n+2)
  show n<=i∧i < (L0 (n+2) r).2.2∧o.rw=false
  split at h
  ·rename_i e
   cases h
   exact⟨by omega,by omega,rfl⟩
  ·have:=dY r (n+2) i o h
   exact⟨by omega,by omega,this.2.2⟩
theorem n1w (B:Nat) (M:Nat->Prop) (w:World):∀ (cs:List Cel) (us:List Value),All2 (rX w) cs us->∀ (n:Nat) (ρ0:Num),∃ ρ,Agree n ρ0 ρ∧∀ ρ',Agree (L0 n cs).2.2 ρ ρ'->
  us=rvL ρ' (L0 n cs).1∧∀ i o,(L0 n cs).2.1.get i=some o->ORep B M ρ' w (ρ' i) o:=by
 intro cs us h
 induction h with
 | nil=>exact fun n ρ0=>⟨ρ0,Agree.refl _ _,fun ρ' _=>⟨rfl,fun i o h=>by cases h⟩⟩
 | @cons c u cs us hc _ ih=>
  intro n ρ0
  cases c with
  | v x=>
   obtain⟨rfl,hp⟩:=hc
   obtain⟨ρ,ha,hρ⟩:=ih n ρ0
   refine⟨ρ,ha,fun ρ' ha'=> ?_⟩
   obtain⟨h1,h2⟩:=hρ ρ' ha'
   refine⟨?_,h2⟩
   show u ::us=rvL ρ' (u ::(L0 n cs).1)
   simp only [rvL,B1 ρ' u hp,<- h1]
  | s e k xs=>
   have key:∀ (ob:Option Nat) (cap:Nat),(u=match ob with | none=> .slice none xs.length 0 | some g=> .slice (some ⟨g,0,none⟩) xs.length cap)->(∀ ρ',ORep B M ρ' w ob (.ints k xs))->∃ ρ,Agree n ρ0 ρ∧∀ ρ',Agree (L0 n (.s e k xs ::cs)).2.2 ρ ρ'->
     u ::us=rvL ρ' (L0 n (.s e k xs ::cs)).1∧∀ i o,(L0 n (.s e k xs ::cs)).2.1.get i=some o->ORep B M ρ' w (ρ' i) o:=by
    intro ob cap hu ho
    obtain⟨ρ,ha,hρ⟩:=ih (n+2) (fun i=>if i=n then ob else if i=n+1 then some cap else ρ0 i)
    refine⟨ρ,fun i hi=> ?_,fun ρ' ha'=> ?_⟩
    ·rw [ha i (by omega)]
     show (if i=n then ob else if i=n+1 then some cap else ρ0 i)=ρ0 i
     rw [a6 (by omega),a6 (by omega)]
    ·obtain⟨h1,h2⟩:=hρ ρ' ha'
     have hle:=P1 cs (n+2)
     have hn:ρ' n=ob:=by
      rw [ha' n (by show n < (L0 (n+2) cs).2.2; omega),ha n (by omega)]
      simp
     have hk:ρ' (n+1)=some cap:=by
      rw [ha' (n+1) (by show n+1 < (L0 (n+2) cs).2.2; omega),ha (n+1) (by omega)]
      simp
     refine⟨?_,fun i o hi=> ?_⟩
     ·show u ::us=rvL ρ' (.slice (some ⟨n,0,some (n+1)⟩) xs.length 0 ::(L0 (n+2) cs).1)
      rw [rvL,<- h1,hu]
      cases ob with
      | none=>simp [rv,rSl,hn]
      | some g=>simp [rv,rSl,hn,hk]
     ·change Heap.get ((n, .ints k xs) ::(L0 (n+2) cs).2.1) i=some o at hi
      rw [a8] at hi
      split at hi
      ·rename_i e'
       subst e'
       cases hi
       rw [hn]
       exact ho ρ'
      ·exact h2 i o hi
   rcases hc with ⟨rfl,rfl⟩ | ⟨g,cap,cs',t,fr,rfl,h2,h3⟩
   ·exact key none 0 rfl (fun ρ'=> .inl ⟨rfl,rfl⟩)
   ·exact key (some g) cap rfl (fun ρ'=> .inr ⟨g,cs',t,fr,rfl,h2,h3⟩)
  | o k xs off l=>
   have key:∀ (ob:Option Nat) (cap:Nat),(u=match ob with | none=> .slice none l 0 | some g=> .slice (some ⟨g,off,none⟩) l cap)->(∀ ρ',ORep B M ρ' w ob (.ints k xs))->∃ ρ,Agree n ρ0 ρ∧∀ ρ',Agree (L0 n (.o k xs off l ::cs)).2.2 ρ ρ'->
     u ::us=rvL ρ' (L0 n (.o k xs off l ::cs)).1∧∀ i o,(L0 n (.o k xs off l ::cs)).2.1.get i=some o->ORep B M ρ' w (ρ' i) o:=by
    intro ob cap hu ho
    obtain⟨ρ,ha,hρ⟩:=ih (n+2) (fun i=>if i=n then ob else if i=n+1 then some cap else ρ0 i)
    refine⟨ρ,fun i hi=> ?_,fun ρ' ha'=> ?_⟩
    ·rw [ha i (by omega)]
     show (if i=n then ob else if i=n+1 then some cap else ρ0 i)=ρ0 i
     rw [a6 (by omega),a6 (by omega)]
    ·obtain⟨h1,h2⟩:=hρ ρ' ha'
     have hle:=P1 cs (n+2)
     have hn:ρ' n=ob:=by
      rw [ha' n (by show n < (L0 (n+2) cs).2.2; omega),ha n (by omega)]
      simp
     have hk:ρ' (n+1)=some cap:=by
      rw [ha' (n+1) (by show n+1 < (L0 (n+2) cs).2.2; omega),ha (n+1) (by omega)]
      simp
     refine⟨?_,fun i o hi=> ?_⟩
     ·show u ::us=rvL ρ' (.slice (some ⟨n,off,some (n+1)⟩) l 0 ::(L0 (n+2) cs).1)
      rw [rvL,<- h1,hu]
      cases ob with
      | none=>simp [rv,rSl,hn]
      | some g=>simp [rv,rSl,hn,hk]
     ·change Heap.get ((n, .ints k xs) ::(L0 (n+2) cs).2.1) i=some o at hi
      rw [a8] at hi
      split at hi
      ·rename_i e'
       subst e'
       cases hi
       rw [hn]
       exact ho ρ'
      ·exact h2 i o hi
   rcases hc with ⟨rfl,rfl,rfl,rfl⟩ | ⟨g,cap,cs',t,fr,rfl,h2,h3⟩
   ·exact key none 0 rfl (fun ρ'=> .inl ⟨rfl,rfl⟩)
   ·exact key (some g) cap rfl (fun ρ'=> .inr ⟨g,cs',t,fr,rfl,h2,h3⟩)
  | f g m sz off=>
   have key:∀ (ob:Option Nat) (cap:Nat),(u=match ob with | none=> .slice none m 0 | some b=> .slice (some ⟨b,off,none⟩) m cap)->(∀ ρ',ORep B M ρ' w ob (.fam g m sz off))->∃ ρ,Agree n ρ0 ρ∧∀ ρ',Agree (L0 n (.f g m sz off ::cs)).2.2 ρ ρ'->
     u ::us=rvL ρ' (L0 n (.f g m sz off ::cs)).1∧∀ i o,(L0 n (.f g m sz off ::cs)).2.1.get i=some o->ORep B M ρ' w (ρ' i) o:=by
    intro ob cap hu ho
    obtain⟨ρ,ha,hρ⟩:=ih (n+2) (fun i=>if i=n then ob else if i=n+1 then some cap else ρ0 i)
    refine⟨ρ,fun i hi=> ?_,fun ρ' ha'=> ?_⟩
    ·rw [ha i (by omega)]
     show (if i=n then ob else if i=n+1 then some cap else ρ0 i)=ρ0 i
     rw [a6 (by omega),a6 (by omega)]
    ·obtain⟨h1,h2⟩:=hρ ρ' ha'
     have hle:=P1 cs (n+2)
     have hn:ρ' n=ob:=by
      rw [ha' n (by show n < (L0 (n+2) cs).2.2; omega),ha n (by omega)]
      simp
     have hk:ρ' (n+1)=some cap:=by
      rw [ha' (n+1) (by show n+1 < (L0 (n+2) cs).2.2; omega),ha (n+1) (by omega)]
      simp
     refine⟨?_,fun i o hi=> ?_⟩
     ·show u ::us=rvL ρ' (.slice (some ⟨n,off,some (n+1)⟩) m 0 ::(L0 (n+2) cs).1)
      rw [rvL,<- h1,hu]
      cases ob with
      | none=>simp [rv,rSl,hn]
      | some b=>simp [rv,rSl,hn,hk]
     ·change Heap.get ((n, .fam g m sz off) ::(L0 (n+2) cs).2.1) i=some o at hi
      rw [a8] at hi
      split at hi
      ·rename_i e'
       subst e'
       cases hi
       rw [hn]
       exact ho ρ'
      ·exact h2 i o hi
   rcases hc with ⟨rfl,rfl⟩ | ⟨b,cap,cs',t,fr,rfl,h2,h3⟩
   ·exact key none 0 rfl (fun ρ'=> .inl ⟨rfl,rfl⟩)
   ·exact key (some b) cap rfl (fun ρ'=> .inr ⟨b,cs',t,fr,rfl,h2,h3⟩)
def Arg.unpack:Arg->Value->Option (List Value)
 | .c _,v=>some [v]
 | .a l, .agg ⟨us⟩=>match zO0 us.length l.length with
  | true=>some us
  | false=>none
 | .a _,_=>none
def g0b:List Arg->List Value->Option (List Value)
 | [],[] =>some []
 | a ::r,v ::vs=>match a.unpack v,g0b r vs with
  | some us,some us'=>some (us++us')
  | _,_=>none
 | _,_=>none
def r0r (rs:List Arg) (v:Value):Option (List Value):=
 match rs with
 | [a] =>a.unpack v
 | rs=>match v with
  | .tuple ⟨vs⟩=>g0b rs vs
  | _=>none
theorem vV {a:Arg} {v:Value} {us:List Value} (h:a.unpack v=some us) (ρ:Num):us.length=a.cells.length∧rv ρ v=a.pack (rvL ρ us):=by
 unfold Arg.unpack at h
 split at h
 ·cases h; exact⟨rfl,rfl⟩
 ·split at h
  case h_2=>cases h
  rename_i hl
  cases h
  exact⟨S6 hl,by simp [rv,rvA,Arg.pack]⟩
 ·cases h
theorem W6 (ρ:Num) (l:List Value):(rvL ρ l).length=l.length:=by rw [l9,B9]
theorem e2f (ρ:Num) (a b:List Value):rvL ρ (a++b)=rvL ρ a++rvL ρ b:=by rw [l9,l9,l9,jK]
theorem nP (ρ:Num):∀ {rs:List Arg} {vs us:List Value},g0b rs vs=some us->us.length=(t8 rs).length∧rvL ρ vs=M5 rs (rvL ρ us)
 | [],[],us,h=>by cases h; exact⟨rfl,rfl⟩
 | a ::r,v ::vs,us,h=>by
  unfold g0b at h
  split at h
  case h_2=>cases h
  rename_i u1 u2 h1 h2
  cases h
  obtain⟨g1,g2⟩:=vV h1 ρ
  obtain⟨g3,g4⟩:=nP ρ h2
  refine⟨by simp [t8,g1,g3],?_⟩
  simp only [rvL,M5]
  rw [e2f,<- g1,<- W6 ρ u1,fM,List.drop_left,g2,g4]
 | [],_ ::_,us,h=>by cases h
 | _ ::_,[],us,h=>by cases h
theorem j0k {rs:List Arg} {v:Value} {us:List Value} (h:r0r rs v=some us) (ρ:Num):us.length=(t8 rs).length∧rv ρ v=O1 (M5 rs (rvL ρ us)):=by
 unfold r0r at h
 split at h
 ·rename_i a
  obtain⟨h1,h2⟩:=vV h ρ
  refine⟨by simp [t8,h1],?_⟩
  rw [h2]
  simp only [M5,O1]
  rw [<- h1,<- W6 ρ us,y5]
 ·rename_i hne
  split at h
  case h_2=>cases h
  rename_i vs
  obtain⟨h1,h2⟩:=nP ρ h
  refine⟨h1,?_⟩
  simp only [rv,rvA,h2]
  cases rs with
  | nil=>rfl
  | cons a r=>
   cases r with
   | nil=>exact absurd rfl (hne a)
   | cons a2 r2=>rfl
def r2q (h:Heap):Cel->Value->Option (List Nat×List Prop)
 | .v x,u=>match z7 u with
  | true=>some ([],[u=x])
  | false=>none
 | .s e k xs,u=>match u with
  | .slice none 0 0=>some ([],[xs=[]])
  | .slice (some ⟨id,0,some kk⟩) n 0=>match h.get id with
   | some (.row e' sz (.ints k' ys) kk')=>match zO0 e' e && zO0 sz 1 && zO0 kk kk' && decide (k'=k) with
    | true=>some ([id],[n=xs.length∧n<=ys.length∧ys.take n=xs])
    | false=>none
   | _=>none
  | .slice (some ⟨id,0,none⟩) n c=>match h.get id with
   | some (.cells cs e')=>match zO0 e' e,iQ k cs with
    | true,some l=>some ([id],[n=xs.length∧n<=l.length∧l.take n=xs∧c=l.length∧c<=maxLen])
    | _,_=>none
   | _=>none
  | _=>none
 | .o _ _ _ _,_=>none
 | .f _ _ _ _,_=>none
def r2c (h:Heap):List Cel->List Value->Option (List Nat×List Prop)
 | [],[] =>some ([],[])
 | c ::cs,u ::us=>match r2q h c u,r2c h cs us with
  | some (i,l),some (i',l')=>some (i++i',l++l')
  | _,_=>none
 | _,_=>none
theorem b1h {P:Program} {w w':World} {ρ:Num} {h:Heap} (hS:Sim P w.heap.size (fun _=>False) ρ h w') {c:Cel} {u:Value} {ids:List Nat} {l:List Prop} (hd:r2q h c u=some (ids,l)) (hl:d9 l):
  w0t w w' c (rv ρ u)∧∀ g,blk (rv ρ u)=some g->∃ i∈ids,(∃ o,h.get i=some o∧o.rw=true)∧ρ i=some g:=by
 cases c with
 | v x=>
  simp only [r2q] at hd
  split at hd
  case h_2=>cases hd
  rename_i hp
  cases hd
  obtain rfl:u=x:=hl.1
  refine⟨⟨B1 ρ u hp,hp⟩,fun g hg=> ?_⟩
  rw [B1 ρ u hp] at hg
  unfold blk at hg
  split at hg
  ·simp [z7] at hp
  ·cases hg
 | s e k xs=>
  simp only [r2q] at hd
  split at hd
  ·cases hd
   obtain rfl:xs=[] :=hl.1
   exact⟨.inl ⟨by simp [rv],rfl⟩,fun g hg=>by simp [rv,blk] at hg⟩
  ·rename_i id kk n
   split at hd
   case h_2=>cases hd
   rename_i e' sz k' ys kk' hget
   split at hd
   case h_2=>cases hd
   rename_i hc
   simp only [x5,y8,aO] at hc
   obtain⟨⟨⟨rfl,rfl⟩,rfl⟩,rfl⟩:=hc
   cases hd
   obtain⟨h1,h2,h3⟩:=hl.1
   rcases hS.obj id _ hget with ⟨g1,g2⟩ | ⟨b,cap,cur,g1,g2,g3,g4,g5,g6,g7,g8⟩
   ·have hy:ys=[] :=by simpa [Row.list] using g2
    subst hy
    have hn:n=0:=by simpa using h2
    subst hn
    have hx:xs=[] :=by simpa using h3.symm
    subst hx
    exact⟨.inl ⟨by simp [rv,rSl,g1],rfl⟩,fun g hg=>by simp [rv,rSl,g1,blk] at hg⟩
   ·have e1:rvL ρ (ys.map (zO3 k'))=ys.map (zO3 k'):=rvL_pure _ _ (by rw [C9,zzA10]; intro x hx; obtain⟨y,_,rfl⟩:=zzA43.1 hx; rfl)
    simp only [Row.list,B9,s4] at g6 g7 g8
    refine⟨.inr ⟨b,cap,cur,by simp [rv,rSl,g1,g2,h1],g4.elim (fun h=>h) False.elim,g3,g5,g6,by omega,?_⟩,fun g hg=>⟨id,zzA130.2 rfl,⟨_,hget,rfl⟩,?_⟩⟩
    ·rw [<- h1,<- h3,eZ,<- e1,<- g8,List.take_take,B2 h2]
    ·simp [rv,rSl,g1,blk] at hg
     rw [g1,hg]
  ·rename_i id n c
   split at hd
   case h_2=>cases hd
   rename_i cs e' hget
   split at hd
   case h_2=>cases hd
   rename_i l' he ht
   have he:=S6 he
   subst he
   cases hd
   obtain⟨h1,h2,h3,h4,h5⟩:=hl.1
   obtain⟨b,g1,g2,g3⟩:=hS.obj id _ hget
   have g3:w.heap.size<=b:=g3.elim (fun h=>h) (fun h=>h.elim)
   have hcs:=M4 ht
   have e1:rvL ρ cs=l'.map (zO3 k):=by rw [hcs]; exact rvL_pure _ _ (by rw [C9,zzA10]; intro x hx; obtain⟨y,_,rfl⟩:=zzA43.1 hx; rfl)
   rw [e1] at g2
   refine⟨.inr ⟨b,c,_,by simp [rv,rSl,r8,g1,h1],g3, .of g2,h5,by simp [h4],by omega,?_⟩,fun g hg=>⟨id,zzA130.2 rfl,⟨_,hget,rfl⟩,?_⟩⟩
   ·rw [<- h1,<- h3]
    simp [List.map_take]
   ·simp [rv,rSl,r8,g1,blk] at hg
    rw [g1,hg]
  ·cases hd
 | o k ys off n=>cases hd
 | f g m sz off=>cases hd
def u0e:List Nat->Bool
 | [] =>true
 | i ::r=> !(H9 i r) && u0e r
theorem u0y {i:Nat} :∀ {l:List Nat},H9 i l=false->i ∉ l
 | [],_,h=>by cases h
 | j ::r,h,hm=>by
  simp only [H9,j0i] at h
  rcases zzA84.1 hm with rfl | hm
  ·simp at h
  ·exact u0y h.2 hm
theorem pC:∀ {l:List Nat},u0e l=true->l.Nodup
 | [],_=>List.nodup_nil
 | i ::r,h=>by
  simp only [u0e,x5,r0n] at h
  exact List.nodup_cons.2 ⟨u0y h.1,pC h.2⟩
theorem zE {P:Program} {w w':World} {ρ:Num} {h:Heap} (hS:Sim P w.heap.size (fun _=>False) ρ h w'):∀ {cs:List Cel} {us:List Value} {ids:List Nat} {l:List Prop},r2c h cs us=some (ids,l)->d9 l->ids.Nodup->
  All2 (w0t w w') cs (rvL ρ us)∧((rvL ρ us).filterMap blk).Nodup∧∀ g∈(rvL ρ us).filterMap blk,∃ i∈ids,(∃ o,h.get i=some o∧o.rw=true)∧ρ i=some g
 | [],[],ids,l,hd,_,_=>by cases hd; exact⟨.nil,List.nodup_nil,fun g hg=>by cases hg⟩
 | c ::cs,u ::us,ids,l,hd,hl,hn=>by
  unfold r2c at hd
  split at hd
  case h_2=>cases hd
  rename_i i1 l1 i2 l2 h1 h2
  cases hd
  obtain⟨hl1,hl2⟩:=(i6 _ _).1 hl
  obtain⟨n1,n2,n3⟩:=List.nodup_append.1 hn
  obtain⟨a1,a2⟩:=b1h hS h1 hl1
  obtain⟨b1,b2,b3⟩:=zE hS h2 hl2 n2
  refine⟨.cons a1 b1,?_,?_⟩
  ·simp only [rvL,tF]
   split
   ·exact b2
   ·rename_i g hg
    refine List.nodup_cons.2 ⟨fun hm=> ?_,b2⟩
    obtain⟨i,hi,⟨o,ho,hr⟩,hb⟩:=a2 g hg
    obtain⟨j,hj,⟨o',ho',hr'⟩,hb'⟩:=b3 g hm
    exact hS.inj i j o o' ho hr ho' (n3 i hi j hj) (by rw [hb]; simp) (hb.trans hb'.symm)
  ·intro g hg
   simp only [rvL,tF] at hg
   split at hg
   ·obtain⟨i,hi,hr⟩:=b3 g hg
    exact⟨i,a0d _ hi,hr⟩
   ·rename_i g' hg'
    rcases zzA84.1 hg with rfl | hg
    ·obtain⟨i,hi,hr⟩:=a2 g hg'
     exact⟨i,w0h _ hi,hr⟩
    ·obtain⟨i,hi,hr⟩:=b3 g hg
     exact⟨i,a0d _ hi,hr⟩
 | [],_ ::_,_,_,hd,_,_=>by cases hd
 | _ ::_,[],_,_,hd,_,_=>by cases hd
def A7 (X:Cx) (L:V4) (fuel f:Nat) (az rs:List Arg) (ds:List Bool):Option (List Prop):=
 match L0 X.P.globals.size (t8 az) with
 | (us,H,n)=>match y0f X L fuel f (M5 az us) H n ds with
  | none=>none
  | some r=>match r0r rs r.v with
   | none=>none
   | some us'=>match r2c r.h (t8 rs) us' with
    | none=>none
    | some (ids,l)=>match u0e ids with
     | true=>some (r.obs++l)
     | false=>none
theorem rF (ρ:Num):∀ (az:List Arg) (us:List Value),us.length=(t8 az).length->rvL ρ (M5 az us)=M5 az (rvL ρ us)
 | [],us,_=>rfl
 | a ::r,us,h=>by
  simp only [M5,rvL]
  have h:us.length=a.cells.length+(t8 r).length:=by simpa [t8] using h
  rw [rF ρ r (us.drop a.cells.length) (by rw [D5]; omega)]
  have e1:rvL ρ (us.drop a.cells.length)=(rvL ρ us).drop a.cells.length:=by rw [l9,l9,gD]
  have e2:rvL ρ (us.take a.cells.length)=(rvL ρ us).take a.cells.length:=by rw [l9,l9,eZ]
  rw [e1,<- e2]
  congr 1
  cases a with
  | c x=>
   cases us with
   | nil=>simp [Arg.cells] at h; omega
   | cons u us=>simp [Arg.pack,Arg.cells,rvL]
  | a l=>simp [Arg.pack,rv,rvA]
theorem j1f {X:Cx} (hX:CxOk X X.J) (hng:ProgOk X.P) (L:V4) (fuel:Nat) (ds:List Bool) {f:FuncId} {az rs:List Arg} {l:List Prop} (h:A7 X L fuel f az rs ds=some l) (hl:d9 l):Sem X.P X.J f az rs:=by
 unfold A7 at h
 simp only at h
 split at h
 case h_1=>cases h
 rename_i r hev
 split at h
 case h_1=>cases h
 rename_i us' hun
 split at h
 case h_1=>cases h
 rename_i ids l' hdec
 split at h
 case h_2=>cases h
 rename_i hnd
 cases h
 obtain⟨hl1,hl2⟩:=(i6 _ _).1 hl
 refine⟨H7 hng hev,fun w us hI hA=> ?_⟩
 obtain⟨ρ,ha,hρ⟩:=n1w w.heap.size (fun _=>False) w (t8 az) us hA X.P.globals.size (fun i=>some i)
 have hp:Par X.P w.heap.size (fun _=>False):=⟨X.J.room w hI,fun _ _ h=>h⟩
 have hlen:(L0 X.P.globals.size (t8 az)).1.length=(t8 az).length:=by
  have:=H5 List.length (hρ ρ (Agree.refl _ _)).1
  rw [W6] at this
  rw [<- this,hA.length]
 have hS:∀ ρ',Agree (L0 X.P.globals.size (t8 az)).2.2 ρ ρ'->Sim X.P w.heap.size (fun _=>False) ρ' (L0 X.P.globals.size (t8 az)).2.1 w∧M5 az us=rvL ρ' (M5 az (L0 X.P.globals.size (t8 az)).1):=by
  intro ρ' ha'
  obtain⟨h1,h2⟩:=hρ ρ' ha'
  have hle:=P1 (t8 az) X.P.globals.size
  refine⟨⟨fun g hg=>by rw [ha' g (by omega),ha g hg],h2,fun i j o o' hi hr _ _=> ?_⟩,?_⟩
  ·rw [(dY _ _ _ _ hi).2.2] at hr
   cases hr
  ·rw [rF ρ' az _ hlen,<- h1]
 refine (L6 hX hng.mixed hev hl1 hp (d7 _) hI hS).2.mono fun e w' ⟨ρ1,v,_,he,hk,hfin⟩=> ?_
 obtain⟨hv,hsim⟩:=hfin ρ1 (Agree.refl _ _)
 obtain⟨_,hpack⟩:=j0k hun ρ1
 obtain⟨d1,d2,_⟩:=zE hsim hdec hl2 (pC hnd)
 exact⟨rvL ρ1 us',by rw [he,hv,hpack],hk.below,d1,d2⟩
theorem l6 {b:Base} (hb:BaseOk b) (k:Nat) (L:V4) (ds:List Bool) {f:FuncId} {az rs:List Arg} {l:List Prop} (h:A7 (b.cx k) L b.fuel f az rs ds=some l) (hl:d9 l):Sem b.P b.J f az rs:=by
 obtain⟨hX,hng⟩:=q9 hb k
 have:=j1f hX hng L b.fuel ds h hl
 cases k <;> exact this
theorem f0y {b:Base} (hb:BaseOk b) (k:Nat):CxOk (b.cxl k) (b.cxl k).J∧ProgOk (b.cxl k).P:=by
 obtain⟨hX,hng⟩:=q9 hb k
 exact⟨⟨hX.pc,hX.cl,hX.xt,hX.rd,hX.tabs,hX.ro⟩,hng⟩
theorem cM {b:Base} (hb:BaseOk b) (k:Nat) (L:V4) (ds:List Bool) {f:FuncId} {az rs:List Arg} {l:List Prop} (h:A7 (b.cxl k) L b.fuel f az rs ds=some l) (hl:d9 l):Sem b.P b.J f az rs:=by
 obtain⟨hX,hng⟩:=f0y hb k
 have:=j1f hX hng L b.fuel ds h hl
 cases k <;> exact this
inductive CS where
 | v
 | s (e:TypeId) (k:IntKind)
 | o (k:IntKind)
inductive AS where
 | c (x:CS)
 | a (l:List CS)
def x1m (H:Heap) (k:IntKind) (x:Value):Option (List Int×List Prop):=
 match x with
 | .slice none 0 0=>some ([],[])
 | .slice (some ⟨id,0,some _⟩) n 0=>match H.get id with
  | some (.ints k' xs)=>match decide (k'=k) with
   | true=>some (xs,[n=xs.length])
   | false=>none
  | some (.row _ sz (.ints k' xs) _)=>match decide (k'=k) && zO0 sz 1 with
   | true=>some (xs.take n,[n<=xs.length])
   | false=>none
  | _=>none
 | .slice (some ⟨id,0,none⟩) n _=>match H.get id with
  | some (.cells cs _)=>match iQ k cs with
   | some l=>some (l.take n,[n<=l.length])
   | none=>none
  | _=>none
 | _=>none
def r2f (H:Heap):CS->Value->Option (Cel×List Prop)
 | .v,x=>match z7 x with
  | true=>some (.v x,[])
  | false=>none
 | .s e k,x=>match x1m H k x with
  | some (xs,l)=>some (.s e k xs,l)
  | none=>none
 | .o k,x=>match x with
  | .slice (some ⟨id,off,some _⟩) n _=>match H.get id with
   | some (.row _ sz (.ints k' ys) _)=>match decide (k'=k) && zO0 sz 1 with
    | true=>some (.o k ys off n,[off+n<=ys.length])
    | false=>none
   | _=>none
  | _=>none
def q1u (H:Heap):List CS->List Value->Option (List Cel×List Prop)
 | [],[] =>some ([],[])
 | s ::ss,x ::xs=>match r2f H s x,q1u H ss xs with
  | some (c,l),some (cs,l')=>some (c ::cs,l++l')
  | _,_=>none
 | _,_=>none
def w2s (H:Heap):AS->Value->Option (Arg×List Prop)
 | .c s,x=>match r2f H s x with
  | some (c,l)=>some (.c c,l)
  | none=>none
 | .a ss, .agg ⟨xs⟩=>match q1u H ss xs with
  | some (cs,l)=>some (.a cs,l)
  | none=>none
 | .a _,_=>none
def q2t (H:Heap):List AS->List Value->Option (List Arg×List Prop)
 | [],[] =>some ([],[])
 | s ::ss,x ::xs=>match w2s H s x,q2t H ss xs with
  | some (c,l),some (cs,l')=>some (c ::cs,l++l')
  | _,_=>none
 | _,_=>none
theorem V0 (ρ:Num) (k:IntKind) (xs:List Int):rvL ρ (xs.map (zO3 k))=xs.map (zO3 k):=
 rvL_pure _ _ (by rw [C9,zzA10]; intro x hx; obtain⟨y,_,rfl⟩:=zzA43.1 hx; rfl)
theorem cO {xs:List Int} {n i:Nat} (h:i < n) (k:IntKind) (hi:i < xs.length):(xs.map (zO3 k))[i]? =some (.int k ((xs.take n).getD i 0)):=by
 simp [List.getD,h,hi]
theorem eB {P:Program} {B:Nat} {M:Nat->Prop} {ρ:Num} {H:Heap} {w:World} (hS:Sim P B M ρ H w) {e:TypeId} {k:IntKind} {x:Value} {xs:List Int} {l:List Prop} (h:x1m H k x=some (xs,l)) (hl:d9 l):rX w (.s e k xs) (rv ρ x):=by
 unfold x1m at h
 split at h
 ·cases h
  exact .inl ⟨by simp [rv],rfl⟩
 ·rename_i id kk n
  split at h
  ·rename_i k' ys hget
   split at h
   case h_2=>cases h
   rename_i hk
   have hk:=H8 hk
   subst hk
   cases h
   obtain rfl:n=xs.length:=hl.1
   rcases hS.obj id _ hget with ⟨g1,g2⟩ | ⟨b,cs,t,fr,g1,g2,g3⟩
   ·subst g2
    exact .inl ⟨by simp [rv,rSl,g1],rfl⟩
   ·obtain⟨c',q⟩:=kF (off:=0) (sp:=some kk) (n:=xs.length) (c:=0) g1
    exact .inr ⟨b,c',cs,t,fr,q,g2,g3⟩
  ·rename_i e' sz k' ys kk' hget
   split at h
   case h_2=>cases h
   rename_i hc
   simp only [x5,y8,aO] at hc
   obtain⟨rfl,rfl⟩:=hc
   cases h
   have hn:n<=ys.length:=hl.1
   rcases hS.obj id _ hget with ⟨g1,g2⟩ | ⟨b,cap,cur,g1,g2,⟨fr,g3,_⟩,g4,g5,g6,g7,g8⟩
   ·have hy:ys=[] :=by simpa [Row.list] using g2
    subst hy
    have hn:n=0:=by simpa using hn
    subst hn
    exact .inl ⟨by simp [rv,rSl,g1],rfl⟩
   ·obtain⟨c',q⟩:=kF (off:=0) (sp:=some kk) (n:=n) (c:=0) g1
    have hlen:(ys.take n).length=n:=by rw [A9,B2 hn]
    refine .inr ⟨b,c',cur,e',fr,by rw [hlen]; exact q,g3,fun i hi=> ?_⟩
    rw [hlen] at hi
    simp only [Row.list] at g8
    rw [V0,B9] at g8
    rw [<- cO hi k' (by omega),<- g8,T5,b9 (by omega)]
    simp
  ·cases h
 ·rename_i id n c
  split at h
  case h_2=>cases h
  rename_i cs e' hget
  split at h
  case h_2=>cases h
  rename_i l' ht
  cases h
  have hn:n<=l'.length:=hl.1
  obtain⟨b,g1,g2,_⟩:=hS.obj id _ hget
  have hcs:=M4 ht
  subst hcs
  rw [V0] at g2
  have hlen:(l'.take n).length=n:=by rw [A9,B2 hn]
  refine .inr ⟨b,c,_,e',(0,0),by rw [hlen]; simp [rv,rSl,r8,g1],g2,fun i hi=> ?_⟩
  rw [hlen] at hi
  rw [<- cO hi k (by omega)]
  simp
 ·cases h
theorem yI {P:Program} {B:Nat} {M:Nat->Prop} {ρ:Num} {H:Heap} {w:World} (hS:Sim P B M ρ H w) {sh:CS} {x:Value} {c:Cel} {l:List Prop} (h:r2f H sh x=some (c,l)) (hl:d9 l):rX w c (rv ρ x):=by
 unfold r2f at h
 split at h
 ·split at h
  case h_2=>cases h
  rename_i hp
  cases h
  exact⟨B1 ρ x hp,hp⟩
 ·split at h
  case h_2=>cases h
  rename_i hs
  cases h
  exact eB hS hs hl
 ·split at h
  case h_2=>cases h
  rename_i id off kk n c
  split at h
  case h_2=>cases h
  rename_i e' sz k' ys kk' hget
  split at h
  case h_2=>cases h
  rename_i hc
  simp only [x5,y8,aO] at hc
  obtain⟨rfl,rfl⟩:=hc
  cases h
  have hn:off+n<=ys.length:=hl.1
  rcases hS.obj id _ hget with ⟨g1,g2⟩ | ⟨b,cap,cur,g1,g2,⟨fr,g3,_⟩,g4,g5,g6,g7,g8⟩
  ·have hy:ys=[] :=by simpa [Row.list] using g2
   subst hy
   simp only [mE] at hn
   obtain rfl:off=0:=by omega
   obtain rfl:n=0:=by omega
   exact .inl ⟨by simp [rv,rSl,g1],rfl,rfl,rfl⟩
  ·obtain⟨c',q⟩:=kF (off:=off) (sp:=some kk) (n:=n) (c:=c) g1
   refine .inr ⟨b,c',cur,e',fr,q,g3,fun i hi=> ?_⟩
   simp only [Row.list] at g8
   rw [V0,B9] at g8
   have:=cO (xs:=ys) (n:=ys.length) hi k' hi
   rw [y5,<- g8,T5,b9 hi] at this
   simpa using this
theorem sY {P:Program} {B:Nat} {M:Nat->Prop} {ρ:Num} {H:Heap} {w:World} (hS:Sim P B M ρ H w):∀ {sh:List CS} {xs:List Value} {cs:List Cel} {l:List Prop},q1u H sh xs=some (cs,l)->d9 l->All2 (rX w) cs (rvL ρ xs)
 | [],[],cs,l,h,_=>by cases h; exact .nil
 | s ::ss,x ::xs,cs,l,h,hl=>by
  unfold q1u at h
  split at h
  case h_2=>cases h
  rename_i c l1 cs' l2 h1 h2
  cases h
  obtain⟨hl1,hl2⟩:=(i6 _ _).1 hl
  exact .cons (yI hS h1 hl1) (sY hS h2 hl2)
 | [],_ ::_,_,_,h,_=>by cases h
 | _ ::_,[],_,_,h,_=>by cases h
theorem a0u {P:Program} {B:Nat} {M:Nat->Prop} {ρ:Num} {H:Heap} {w:World} (hS:Sim P B M ρ H w):∀ {sh:List AS} {xs:List Value} {az:List Arg} {l:List Prop},q2t H sh xs=some (az,l)->d9 l->∃ us,All2 (rX w) (t8 az) us∧rvL ρ xs=M5 az us
 | [],[],az,l,h,_=>by cases h; exact⟨[], .nil,rfl⟩
 | s ::ss,x ::xs,az,l,h,hl=>by
  unfold q2t at h
  split at h
  case h_2=>cases h
  rename_i a l1 az' l2 h1 h2
  cases h
  obtain⟨hl1,hl2⟩:=(i6 _ _).1 hl
  obtain⟨us,g1,g2⟩:=a0u hS h2 hl2
  unfold w2s at h1
  split at h1
  ·split at h1
   case h_2=>cases h1
   rename_i c l0 hc
   cases h1
   refine⟨rv ρ x ::us, .cons (yI hS hc hl1) g1,?_⟩
   simp [rvL,M5,Arg.cells,Arg.pack,g2]
  ·split at h1
   case h_2=>cases h1
   rename_i cs l0 hc
   cases h1
   have hcs:=sY hS hc hl1
   refine⟨rvL ρ _++us,hcs.append g1,?_⟩
   simp only [rvL,M5,Arg.cells,Arg.pack]
   rw [hcs.length,fM,List.drop_left,g2]
   simp [rv,rvA]
  ·cases h1
 | [],_ ::_,_,_,h,_=>by cases h
 | _ ::_,[],_,_,h,_=>by cases h
def mU (n:Nat):List Cel->List Value×Heap×Nat
 | [] =>([],[],n)
 | .v x ::r=>match mU n r with
  | (vs,h,m)=>(x ::vs,h,m)
 | .s e k xs ::r=>match mU (n+2) r with
  | (vs,h,m)=>(.slice (some ⟨n,0,some (n+1)⟩) xs.length 0 ::vs,(n, .row e 1 (.ints k xs) (n+1)) ::h,m)
 | .o _ _ _ _ ::r=>mU n r
 | .f _ _ _ _ ::r=>mU n r
theorem fW:∀ (cs:List Cel) (n:Nat),n<=(mU n cs).2.2
 | [],n=>d7 _
 | .v x ::r,n=>fW r n
 | .s e k xs ::r,n=>by
  have:=fW r (n+2)
  show n<=(mU (n+2) r).2.2
  omega
 | .o _ _ _ _ ::r,n=>fW r n
 | .f _ _ _ _ ::r,n=>fW r n
theorem e2g {B:Nat} (M:Nat->Prop) {w w':World} (hB:B<=w.heap.size):∀ (cs:List Cel) (us:List Value),All2 (w0t w w') cs us->(us.filterMap blk).Nodup->∀ (n:Nat) (ρ0:Num),∃ ρ,Agree n ρ0 ρ∧∀ ρ',Agree (mU n cs).2.2 ρ ρ'->
  us=rvL ρ' (mU n cs).1∧(∀ i o,(mU n cs).2.1.get i=some o->ORep B M ρ' w' (ρ' i) o∧(∀ g,ρ' i=some g->w.heap.size<=g∧g∈us.filterMap blk))∧∀ i j o o',(mU n cs).2.1.get i=some o->(mU n cs).2.1.get j=some o'->i≠j->ρ' i≠none->ρ' i≠ρ' j:=by
 intro cs us h
 induction h with
 | nil=>exact fun _ n ρ0=>⟨ρ0,Agree.refl _ _,fun ρ' _=>⟨rfl,(fun i o h=>by cases h),(fun i j o o' h=>by cases h)⟩⟩
 | @cons c u cs us hc _ ih=>
  intro hnd n ρ0
  have hnd2:(us.filterMap blk).Nodup:=by
   rw [tF] at hnd
   split at hnd
   ·exact hnd
   ·exact (List.nodup_cons.1 hnd).2
  cases c with
  | v x=>
   obtain⟨rfl,hp⟩:=hc
   obtain⟨ρ,ha,hρ⟩:=ih hnd2 n ρ0
   refine⟨ρ,ha,fun ρ' ha'=> ?_⟩
   obtain⟨h1,h2,h3⟩:=hρ ρ' ha'
   refine⟨?_,fun i o hi=>⟨(h2 i o hi).1,fun g hg=>⟨((h2 i o hi).2 g hg).1,?_⟩⟩,h3⟩
   ·show u ::us=rvL ρ' (u ::(mU n cs).1)
    simp only [rvL,B1 ρ' u hp,<- h1]
   ·have:=((h2 i o hi).2 g hg).2
    rw [tF]
    split
    ·exact this
    ·exact R8 _ this
  | s e k xs=>
   have key:∀ (ob:Option Nat) (cap:Nat),(u=match ob with | none=> .slice none xs.length 0 | some g=> .slice (some ⟨g,0,none⟩) xs.length cap)->(∀ ρ',ρ' (n+1)=some cap->ORep B M ρ' w' ob (.row e 1 (.ints k xs) (n+1)))->(∀ g,ob=some g->w.heap.size<=g)->∃ ρ,Agree n ρ0 ρ∧∀ ρ',Agree (mU n (.s e k xs ::cs)).2.2 ρ ρ'->
     u ::us=rvL ρ' (mU n (.s e k xs ::cs)).1∧(∀ i o,(mU n (.s e k xs ::cs)).2.1.get i=some o->ORep B M ρ' w' (ρ' i) o∧(∀ g,ρ' i=some g->w.heap.size<=g∧g∈(u ::us).filterMap blk))∧
     ∀ i j o o',(mU n (.s e k xs ::cs)).2.1.get i=some o->(mU n (.s e k xs ::cs)).2.1.get j=some o'->i≠j->ρ' i≠none->ρ' i≠ρ' j:=by
    intro ob cap hu ho hge
    obtain⟨ρ,ha,hρ⟩:=ih hnd2 (n+2) (fun i=>if i=n then ob else if i=n+1 then some cap else ρ0 i)
    refine⟨ρ,fun i hi=> ?_,fun ρ' ha'=> ?_⟩
    ·rw [ha i (by omega)]
     show (if i=n then ob else if i=n+1 then some cap else ρ0 i)=ρ0 i
     rw [a6 (by omega),a6 (by omega)]
    ·obtain⟨h1,h2,h3⟩:=hρ ρ' ha'
     have hle:=fW cs (n+2)
     have hn:ρ' n=ob:=by
      rw [ha' n (by show n < (mU (n+2) cs).2.2; omega),ha n (by omega)]
      simp
     have hk:ρ' (n+1)=some cap:=by
      rw [ha' (n+1) (by show n+1 < (mU (n+2) cs).2.2; omega),ha (n+1) (by omega)]
      simp
     have hbu:∀ g,ob=some g->blk u=some g:=fun g hg=>by rw [hu,hg]; rfl
     have hne:∀ j o',(mU (n+2) cs).2.1.get j=some o'->∀ g,ob=some g->ρ' j≠some g:=fun j o' hj g hg e=>by
      have hm:=((h2 j o' hj).2 g e).2
      rw [tF,hbu g hg] at hnd
      exact (List.nodup_cons.1 hnd).1 hm
     refine⟨?_,fun i o hi=> ?_,fun i j o o' hi hj hij hnn=> ?_⟩
     ·show u ::us=rvL ρ' (.slice (some ⟨n,0,some (n+1)⟩) xs.length 0 ::(mU (n+2) cs).1)
      rw [rvL,<- h1,hu]
      cases ob with
      | none=>simp [rv,rSl,hn]
      | some g=>simp [rv,rSl,hn,hk]
     ·change Heap.get ((n, .row e 1 (.ints k xs) (n+1)) ::(mU (n+2) cs).2.1) i=some o at hi
      rw [a8] at hi
      split at hi
      ·rename_i e'
       subst e'
       cases hi
       rw [hn]
       refine⟨ho ρ' hk,fun g hg=>⟨hge g hg,?_⟩⟩
       rw [tF,hbu g hg]
       exact X5 ..
      ·refine⟨(h2 i o hi).1,fun g hg=>⟨((h2 i o hi).2 g hg).1,?_⟩⟩
       have:=((h2 i o hi).2 g hg).2
       rw [tF]
       split
       ·exact this
       ·exact R8 _ this
     ·change Heap.get ((n, .row e 1 (.ints k xs) (n+1)) ::(mU (n+2) cs).2.1) i=some o at hi
      change Heap.get ((n, .row e 1 (.ints k xs) (n+1)) ::(mU (n+2) cs).2.1) j=some o' at hj
      rw [a8] at hi hj
      split at hi <;> split at hj
      ·omega
      ·rename_i e1 _
       subst e1
       rw [hn] at hnn ⊢
       cases ob with
       | none=>exact absurd rfl hnn
       | some g=>exact fun e=>hne j o' hj g rfl e.symm
      ·rename_i _ e1
       subst e1
       rw [hn]
       cases ob with
       | none=>exact hnn
       | some g=>exact hne i o hi g rfl
      ·exact h3 i j o o' hi hj hij hnn
   rcases hc with ⟨rfl,rfl⟩ | ⟨g,cap,cur,rfl,h1,h2,h3,h4,h5,h6⟩
   ·exact key none 0 rfl (fun ρ' _=> .inl ⟨rfl,rfl⟩) (fun g hg=>by cases hg)
   ·refine key (some g) cap rfl (fun ρ' hk=> .inr ⟨g,cap,cur,rfl,hk,h2, .inl (by omega),h3,by omega,by simpa [Row.list] using h5,?_⟩) (fun g' hg=>by cases hg; exact h1)
    simp only [Row.list]
    rw [V0,B9]
    exact h6
  | o k ys off n=>exact hc.elim
  | f g m sz off=>exact hc.elim
def z6 (sh:List AS) (spec:List Arg->Option (List Arg×List Prop)) (args:List Value) (H:Heap) (n:Nat) (ds:List Bool):Option CR:=
 match q2t H sh args with
 | none=>none
 | some (az,l)=>match spec az with
  | none=>none
  | some (rs,l')=>match mU n (t8 rs) with
   | (us,h,m)=>some ⟨O1 (M5 rs us),h++H,m,l++l',ds⟩
theorem fF (F H:Heap) (i:Nat):Heap.get (F++H) i=match F.get i with | some o=>some o | none=>H.get i:=by
 induction F with
 | nil=>rfl
 | cons x F ih=>
  obtain⟨j,o⟩:=x
  rw [dF,a8,a8,ih]
  split <;> rfl
theorem f2s {P:Program} {B:Nat} {M:Nat->Prop} {ρ:Num} {F H:Heap} {w w':World} (hS:Sim P B M ρ H w) (hb:Below w.heap.size w w')
  (hF:∀ i o,F.get i=some o->ORep B M ρ w' (ρ i) o∧∀ g,ρ i=some g->w.heap.size<=g) (hinj:∀ i j o o',F.get i=some o->F.get j=some o'->i≠j->ρ i≠none->ρ i≠ρ j):Sim P B M ρ (F++H) w':=by
 have low:∀ k ok,H.get k=some ok->∀ g,ρ k=some g->g < w.heap.size:=fun k ok hk g hg=>by
  have:=hS.obj k ok hk
  rw [hg] at this
  exact this.lt
 have hold:=hS.below hb
 refine⟨hS.glob,fun i o hi=> ?_,fun i j o o' hi hr hj hij hnn=> ?_⟩
 ·rw [fF] at hi
  split at hi
  ·rename_i h; cases hi; exact (hF i _ h).1
  ·exact hold.obj i o hi
 ·rw [fF] at hi hj
  cases h1:F.get i with
  | some q=>
   cases h2:F.get j with
   | some q'=>exact hinj i j q q' h1 h2 hij hnn
   | none=>
    rw [h2] at hj
    intro e
    cases hq:ρ i with
    | none=>exact hnn hq
    | some g=>
     have a:=(hF i _ h1).2 g hq
     have b:=low j o' hj g (by rw [<- e]; exact hq)
     omega
  | none=>
   rw [h1] at hi
   cases h2:F.get j with
   | some q'=>
    intro e
    cases hq:ρ i with
    | none=>exact hnn hq
    | some g=>
     have a:=(hF j _ h2).2 g (by rw [<- e]; exact hq)
     have b:=low i o hi g hq
     omega
   | none=>
    rw [h2] at hj
    exact hold.inj i j o o' hi hr hj hij hnn
def fK (P:Program) (J:Inv P) (f:FuncId) (spec:List Value->Heap->Nat->List Bool->Option CR):Prop:=
 ∀ args H n ds r,spec args H n ds=some r->d9 r.obs->n<=r.n∧Enters P f∧∀ (B:Nat) (M:Nat->Prop) (ρ:Num) (w:World) (vs:List Value),Par P B M->B<=w.heap.size->J.I w->
  (∀ ρ',Agree n ρ ρ'->Sim P B M ρ' H w∧vs=rvL ρ' args)->
  Calls P f ⟨vs⟩ w fun e w'=>∃ ρ1 v,Agree n ρ ρ1∧e= .returned v∧Keeps B M w w'∧∀ ρ',Agree r.n ρ1 ρ'->v=rv ρ' r.v∧Sim P B M ρ' r.h w'
def m4 (f:FuncId) (spec:List Value->Heap->Nat->List Bool->Option CR) (t:iG):iG:=fun g args H n ds=>
 match zO0 g f with
 | true=>spec args H n ds
 | false=>t g args H n ds
theorem d8 {P:Program} {J:Inv P} {f:FuncId} {spec:List Value->Heap->Nat->List Bool->Option CR} {t:iG} (h:fK P J f spec) (ht:iD P J t):iD P J (m4 f spec t):=by
 intro g args H n ds r hs hl
 unfold m4 at hs
 split at hs
 ·rename_i hg
  have:=S6 hg
  subst this
  exact h args H n ds r hs hl
 ·exact ht g args H n ds r hs hl
theorem u1j (ρ:Num) (l:List Value):rv ρ (O1 l)=O1 (rvL ρ l):=by
 cases l with
 | nil=>simp [O1,rv,rvA,rvL]
 | cons v l=>
  cases l with
  | nil=>simp [O1,rvL]
  | cons u l=>simp [O1,rv,rvA,rvL]
theorem l7 {P:Program} {J:Inv P} {f:FuncId} (sh:List AS) {spec:List Arg->Option (List Arg×List Prop)} (h:∀ az rs l,spec az=some (rs,l)->d9 l->Sem P J f az rs):fK P J f (z6 sh spec):=by
 intro args H n ds r hs hl
 unfold z6 at hs
 split at hs
 ·cases hs
 rename_i az l hpar
 split at hs
 ·cases hs
 rename_i rs l' hspec
 cases hs
 obtain⟨hl1,hl2⟩:=(i6 _ _).1 hl
 obtain⟨hent,hsem⟩:=h az rs l' hspec hl2
 refine⟨fW _ _,hent,fun B M ρ w vs hp hB hI hS=> ?_⟩
 obtain⟨hS0,hvs⟩:=hS ρ (Agree.refl _ _)
 obtain⟨us,hus,hpack⟩:=a0u hS0 hpar hl1
 rw [hvs,hpack]
 refine (hsem w us hI hus).mono fun e w' ⟨us',he,hb,hnew,hnd⟩=> ?_
 obtain⟨ρ1,ha1,hρ1⟩:=e2g M hB _ _ hnew hnd n ρ
 refine⟨ρ1,_,ha1,he,n5 hb hB,fun ρ' ha'=> ?_⟩
 obtain⟨q1,q2,q3⟩:=hρ1 ρ' ha'
 have hag:Agree n ρ ρ':=fun i hi=>by rw [ha' i (E3 hi (fW _ _)),ha1 i hi]
 refine⟨?_,f2s (hS ρ' hag).1 hb (fun i o hi=>⟨(q2 i o hi).1,fun g hg=>((q2 i o hi).2 g hg).1⟩) q3⟩
 show O1 (M5 rs us')=rv ρ' (O1 (M5 rs (mU n (t8 rs)).1))
 have hlen:(mU n (t8 rs)).1.length=(t8 rs).length:=by
  have:=H5 List.length q1
  rw [W6] at this
  rw [<- this,hnew.length]
 rw [u1j,rF ρ' rs _ hlen,<- q1]
def o7 (X:Cx) (fuel f:Nat) (az:List Arg) (ds:List Bool):St:=
 match L0 X.P.globals.size (t8 az) with
 | (us,H,n)=>u9 X fuel f (M5 az us) H n ds
def itr {α:Type} (f:α->α):Nat->α->α
 | 0,a=>a
 | n+1,a=>f (itr f n a)
theorem A8 {X:Cx} {c:Code} (S:Nat->St) (n:Nat) {x:AX} (hx:x≠ .normal) {s':St} (h:∀ k,k < n->u7 X c (S k) .normal (S (k+1))) (ho:u7 X c (S n) x s'):d5 X c (S 0) x s':=
 G3 S (fun k=>n-k) (fun k=>k<=n) hx (fun k hk=>if hlt:k < n then .inl ⟨k+1,hlt,by omega,h k hlt⟩ else by
  obtain rfl:k=n:=by omega
  exact .inr ho) 0 (n6 _)
end
end Go.Proofs.YtbdaebagmmmijaaGreatDoor.Ev
namespace Go.Proofs.YtbdaebagmmmijaaGreatDoor.Wd
def val (b:Nat):List Int->Nat
 | [] =>0
 | x ::r=>x.toNat+b*val b r
def Dg (b:Nat) (l:List Int):Prop:=∀ x∈l,0<=x∧x < (b:Int)
theorem Dg.nil (b:Nat):Dg b [] :=fun _ h=>by cases h
theorem Dg.cons {b:Nat} {x:Int} {l:List Int} (h:0<=x∧x < (b:Int)) (k:Dg b l):Dg b (x ::l):=by
 intro y hy
 rcases zzA84.1 hy with rfl | hy
 ·exact h
 ·exact k y hy
theorem Dg.head {b:Nat} {x:Int} {l:List Int} (h:Dg b (x ::l)):0<=x∧x < (b:Int):=h x (X5 ..)
theorem Dg.tail {b:Nat} {x:Int} {l:List Int} (h:Dg b (x ::l)):Dg b l:=fun y hy=>h y (R8 _ hy)
theorem Dg.get {b:Nat} (hb:0 < b) {l:List Int} (h:Dg b l) (i:Nat):0<=l.getD i 0∧l.getD i 0 < (b:Int):=by
 rw [pZ]
 cases e:l[i]? with
 | none=>simp; omega
 | some x=>simpa using h x (List.mem_of_getElem? e)
theorem Dg.set {b:Nat} {l:List Int} (h:Dg b l) {x:Int} (hx:0<=x∧x < (b:Int)) (i:Nat):Dg b (l.set i x):=by
 intro y hy
 rcases List.mem_or_eq_of_mem_set hy with hy | rfl
 ·exact h y hy
 ·exact hx
theorem Dg.append {b:Nat} {l m:List Int} (h:Dg b l) (k:Dg b m):Dg b (l++m):=by
 intro y hy
 rcases zzA92.1 hy with hy | hy
 ·exact h y hy
 ·exact k y hy
theorem Dg.take {b:Nat} {l:List Int} (h:Dg b l) (i:Nat):Dg b (l.take i):=fun y hy=>h y (List.mem_of_mem_take hy)
theorem Dg.drop {b:Nat} {l:List Int} (h:Dg b l) (i:Nat):Dg b (l.drop i):=fun y hy=>h y (k1j hy)
theorem M7 (b:Nat) (hb:0 < b) (n:Nat):Dg b (zO6 n 0):=by
 intro y hy
 have:=List.eq_of_mem_replicate hy
 subst this
 omega
theorem Y5 (b:Nat):∀ l m:List Int,val b (l++m)=val b l+b ^l.length*val b m
 | [],m=>by simp [val]
 | x ::l,m=>by
  simp only [dF,val,Y5 b l m,u6,p9]
  rw [O6,<- f9,n4 b (b ^l.length)]
  omega
theorem X0 (b:Nat):∀ n,val b (zO6 n 0)=0
 | 0=>rfl
 | n+1=>by simp [List.replicate_succ,val,X0 b n]
theorem P6 {b:Nat} (hb:0 < b):∀ {l:List Int},Dg b l->val b l < b ^l.length
 | [],_=>by simp [val]
 | x ::l,h=>by
  have h1:=h.head
  have h2:=P6 hb h.tail
  simp only [val,u6,p9]
  have h3:b*val b l+b<=b*b ^l.length:=by
   rw [<- Nat.mul_succ]
   exact Y4 b h2
  rw [n4 (b ^l.length) b]
  omega
theorem f0q {b:Nat} (hb:0 < b):∀ {l m:List Int},Dg b l->Dg b m->l.length=m.length->val b l=val b m->l=m
 | [],[],_,_,_,_=>rfl
 | [],_ ::_,_,_,h,_=>by simp at h
 | _ ::_,[],_,_,h,_=>by simp at h
 | x ::l,y ::m,hl,hm,hn,hv=>by
  have h1:=hl.head
  have h2:=hm.head
  simp only [val] at hv
  have e1:(x.toNat+b*val b l)%b=x.toNat:=by rw [j0y]; exact H3 (by omega)
  have e2:(y.toNat+b*val b m)%b=y.toNat:=by rw [j0y]; exact H3 (by omega)
  have e:x.toNat=y.toNat:=by rw [<- e1,<- e2,hv]
  have hv2:b*val b l=b*val b m:=by omega
  have:=f0q hb hl.tail hm.tail (by simpa using hn) (Nat.eq_of_mul_eq_mul_left hb hv2)
  subst this
  congr 1
  omega
def dig (b m i:Nat):Nat:=m/b ^i%b
theorem bI {b:Nat} (hb:0 < b) (m i:Nat):dig b m i < b:=B0 _ hb
theorem H4 {b:Nat} (hb:0 < b):∀ {l:List Int},Dg b l->∀ i,l.getD i 0=(dig b (val b l) i:Int)
 | [],_,i=>by simp [dig,val]
 | x ::l,h,0=>by
  have h1:=h.head
  simp only [List.getD_cons_zero,dig,val,aW,Nat.div_one,j0y]
  rw [H3 (by omega)]
  omega
 | x ::l,h,i+1=>by
  have h1:=h.head
  rw [List.getD_cons_succ,H4 hb h.tail i]
  simp only [dig,val]
  rw [p9,n4 (b ^i) b,<- nV,i0c _ _ hb,uE (show x.toNat < b by omega),Q6]
def dl (b:Nat):Nat->Nat->List Int
 | 0,_=>[]
 | n+1,m=>((m%b:Nat):Int) ::dl b n (m/b)
theorem r7 (b:Nat):∀ n m,(dl b n m).length=n
 | 0,_=>rfl
 | n+1,m=>by simp [dl,r7 b n]
theorem l1u {b:Nat} (hb:0 < b):∀ n m,Dg b (dl b n m)
 | 0,_=>Dg.nil b
 | n+1,m=>Dg.cons (by have:=B0 m hb; omega) (l1u hb n _)
theorem i0u (b:Nat):∀ n m,val b (dl b n m)=m%b ^n
 | 0,m=>by simp [dl,val,Nat.mod_one]
 | n+1,m=>by
  simp only [dl,val,i0u b n]
  rw [p9,n4 (b ^n) b,Nat.mod_mul,i8]
theorem o2q {b:Nat} (hb:0 < b) {l:List Int} (h:Dg b l) {n m:Nat} (hn:l.length=n) (hm:val b l=m):l=dl b n m:=by
 subst hn hm
 exact f0q hb h (l1u hb _ _) (r7 b _ _).symm (by rw [i0u,H3 (P6 hb h)])
theorem cE {b:Nat} :∀ {l:List Int} {i:Nat} (x:Int),i < l.length->val b (l.set i x)+(l.getD i 0).toNat*b ^i=val b l+x.toNat*b ^i
 | [],_,_,h=>by simp at h
 | y ::l,0,x,_=>by simp [val]; omega
 | y ::l,i+1,x,h=>by
  have ih:=cE (b:=b) (l:=l) (i:=i) x (by simpa using h)
  simp only [List.set_cons_succ,val,List.getD_cons_succ,p9]
  have h1:b*val b (l.set i x)+b*((l.getD i 0).toNat*b ^i)=b*val b l+b*(x.toNat*b ^i):=by rw [<- O6,<- O6,ih]
  have h2:(l.getD i 0).toNat*(b ^i*b)=b*((l.getD i 0).toNat*b ^i):=by rw [n4 b,f9]
  have h3:x.toNat*(b ^i*b)=b*(x.toNat*b ^i):=by rw [n4 b,f9]
  omega
theorem y6 (b:Nat) (l:List Int) (i:Nat) (h:i<=l.length):val b l=val b (l.take i)+b ^i*val b (l.drop i):=by
 have:=Y5 b (l.take i) (l.drop i)
 rw [l0g,A9,B2 h] at this
 exact this
theorem gF (b m i:Nat):m%b ^(i+1)=m%b ^i+dig b m i*b ^i:=by
 rw [p9,Nat.mod_mul]
 unfold dig
 rw [n4 (b ^i)]
theorem b2z {b:Nat} (m i:Nat):m/b ^i=dig b m i+b*(m/b ^(i+1)):=by
 unfold dig
 rw [p9,<- nV]
 exact (j0w _ _).symm
def wsF (b:Nat):Nat->Nat->List Int
 | 0,_=>[]
 | f+1,m=>match m with
  | 0=>[]
  | m+1=>(((m+1)%b:Nat):Int) ::wsF b f ((m+1)/b)
def ws (b m:Nat):List Int:=wsF b m m
theorem q1e {b:Nat} (hb:2<=b):∀ f m,m<=f->∀ g,m<=g->wsF b f m=wsF b g m:=by
 intro f
 induction f with
 | zero=>
  intro m hm g _
  obtain rfl:m=0:=by omega
  cases g <;> rfl
 | succ f ih=>
  intro m hm g hg
  cases m with
  | zero=>cases g <;> rfl
  | succ m=>
   cases g with
   | zero=>omega
   | succ g=>
    have hlt:(m+1)/b < m+1:=Nat.div_lt_self (by omega) hb
    simp only [wsF]
    rw [ih _ (by omega) g (by omega)]
theorem g0d (b:Nat):ws b 0=[] :=rfl
theorem m0l {b:Nat} (hb:2<=b) {m:Nat} (hm:0 < m):ws b m=((m%b:Nat):Int) ::ws b (m/b):=by
 cases m with
 | zero=>omega
 | succ m=>
  have hlt:(m+1)/b < m+1:=Nat.div_lt_self (by omega) hb
  unfold ws
  conv=>lhs; unfold wsF
  simp only
  rw [q1e hb m _ (by omega) ((m+1)/b) (d7 _)]
theorem a2k {b:Nat} (hb:2<=b) (m:Nat):Dg b (ws b m):=by
 induction m using Nat.strongRecOn with
 | ind m ih=>
  by_cases hm:m=0
  ·subst hm; exact Dg.nil b
  ·rw [m0l hb (by omega)]
   exact Dg.cons (by have:=B0 m (show 0 < b by omega); omega) (ih _ (Nat.div_lt_self (by omega) hb))
theorem g1g {b:Nat} (hb:2<=b) (m:Nat):val b (ws b m)=m:=by
 induction m using Nat.strongRecOn with
 | ind m ih=>
  by_cases hm:m=0
  ·subst hm; rfl
  ·rw [m0l hb (by omega)]
   simp only [val]
   rw [ih _ (Nat.div_lt_self (by omega) hb)]
   have:=j0w m b
   omega
def m2e (l:List Int):Prop:=∀ x,l.getLast? =some x->x≠0
theorem l2g {b:Nat} (hb:2<=b):∀ {l:List Int},Dg b l->m2e l->l=ws b (val b l)
 | [],_,_=>rfl
 | x ::l,h,hc=>by
  have h1:=h.head
  have hct:m2e l:=by
   intro y hy
   cases l with
   | nil=>cases hy
   | cons z l=>exact hc y (by rw [List.getLast?_cons_cons]; exact hy)
  have ih:=l2g hb h.tail hct
  have hpos:0 < val b (x ::l):=by
   simp only [val]
   cases l with
   | nil=>
    have:=hc x rfl
    simp [val]
    omega
   | cons z l=>
    have:0 < val b (z ::l):=by
     rcases F2 (val b (z ::l)) with h0 | h0
     ·rw [h0] at ih; cases ih
     ·exact h0
    have:=B6 (show 0 < b by omega) this
    omega
  rw [m0l hb hpos]
  simp only [val]
  rw [j0y,H3 (by omega),i0c _ _ (by omega),uE (by omega),Q6,<- ih]
  congr 1
  omega
theorem pH {b:Nat} (hb:2<=b) (m n:Nat):(ws b m).length<=n↔m < b ^n:=by
 constructor
 ·intro h
  have h1:=P6 (by omega) (a2k hb m)
  rw [g1g hb] at h1
  exact E3 h1 (w7 (by omega) h)
 ·induction n generalizing m with
  | zero=>
   intro h
   obtain rfl:m=0:=by simpa using h
   simp [g0d]
  | succ n ih=>
   intro h
   by_cases hm:m=0
   ·subst hm; simp [g0d]
   ·rw [m0l hb (by omega),u6]
    have:m/b < b ^n:=by
     rw [F6 (by omega),<- p9]
     exact h
    have:=ih _ this
    omega
theorem cD {b:Nat} (hb:2<=b) {m:Nat} :(ws b m).length=0↔m=0:=by
 have:=pH hb m 0
 simp only [aW] at this
 omega
theorem f1l {b:Nat} (hb:2<=b) (m i:Nat):(ws b m).getD i 0=(dig b m i:Int):=by
 rw [H4 (by omega) (a2k hb m),g1g hb]
def m9 (l:List Int):List Int:=(l.reverse.dropWhile (· ==0)).reverse
theorem X9 (l:List Int) (x:Int):m9 (l++[x])=if x=0 then m9 l else l++[x] :=by
 unfold m9
 rw [List.reverse_append]
 simp only [a0b,List.reverse_nil,nM,t0y]
 rw [List.dropWhile_cons]
 by_cases h:x=0
 ·subst h; simp
 ·have:(x==0)=false:=by simpa using h
  simp [this,h]
theorem c0p (b:Nat) (l:List Int):val b (l++[0])=val b l:=by rw [Y5]; simp [val]
theorem K9 {b:Nat} (hb:2<=b) {l:List Int} (h:Dg b l):m9 l=ws b (val b l):=by
 induction hn:l.length generalizing l with
 | zero=>
  have:=nJ hn
  subst this
  rfl
 | succ n ih=>
  have hne:l≠[] :=by intro e; subst e; cases hn
  obtain⟨m,x,rfl⟩:∃ m x,l=m++[x] :=⟨l.dropLast,l.getLast hne,(List.dropLast_concat_getLast hne).symm⟩
  rw [X9]
  split
  ·rename_i hx
   subst hx
   rw [c0p]
   exact ih (fun y hy=>h y (w0h _ hy)) (by simp at hn; omega)
  ·rename_i hx
   refine l2g hb h fun y hy=> ?_
   simp at hy
   omega
end Go.Proofs.YtbdaebagmmmijaaGreatDoor.Wd
namespace Go.Proofs.YtbdaebagmmmijaaGreatDoor
open Go Go.RowKit Ev Wd
def c0b:List Value->Option (Value×List Prop)
 | [.int .u64 x, .int .u64 y, .int .u64 c] =>some (.tuple ⟨[.int .u64 (zO2 ((x.toNat+y.toNat+c.toNat)%18446744073709551616)), .int .u64 (zO2 ((x.toNat+y.toNat+c.toNat)/18446744073709551616))]⟩,[c.toNat<=1])
 | _=>none
theorem q0p (args:List Value) (v:Value) (l:List Prop) (h:c0b args=some (v,l)) (hl:d9 l):Pure zO7 J0 148 args v:=by
 unfold c0b at h
 split at h
 case h_2=>cases h
 rename_i x y c
 cases h
 have hc:c.toNat<=1:=hl.1
 refine nL [.int .u64 x, .int .u64 y, .int .u64 c] _ [] ?_ trivial
 simp only [kG,u0q hc]
def c0i (x y c:Int):Int:=zO2 ((x.toNat+18446744073709551616-y.toNat-c.toNat)%18446744073709551616)
def f0m (x y c:Int):Int:=zO2 (match zO1 x.toNat (y.toNat+c.toNat) with | true=>1 | false=>0)
def d0j:List Value->Option (Value×List Prop)
 | [.int .u64 x, .int .u64 y, .int .u64 c] =>some (.tuple ⟨[.int .u64 (c0i x y c), .int .u64 (f0m x y c)]⟩,[c.toNat<=1])
 | _=>none
theorem p0p (args:List Value) (v:Value) (l:List Prop) (h:d0j args=some (v,l)) (hl:d9 l):Pure zO7 J0 194 args v:=by
 unfold d0j at h
 split at h
 case h_2=>cases h
 rename_i x y c
 cases h
 have hc:c.toNat<=1:=hl.1
 refine oE [.int .u64 x, .int .u64 y, .int .u64 c] _ [] ?_ trivial
 simp only [kN,u0q hc]
 rfl
def t1j:Tab:=l5 148 c0b (l5 194 d0j (l5 17 Y7 (l5 18 aG r2x)))
theorem c0n:Q0 zO7 J0 t1j:=b7 q0p (b7 p0p (b7 fG (b7 fP (k1k _ _))))
def bW0:Base:=⟨zO7,J0,false,t1j,F4,200,I6⟩
theorem x9:BaseOk bW0:=⟨progOk,c0n,n9 _ _,m0⟩
abbrev XW0:Cx:=bW0.cx 10
abbrev W64:Nat:=18446744073709551616
theorem g9:0 < W64:=by decide
theorem C4:2<=W64:=by decide
abbrev slV (j n:Nat):Value:= .slice (some ⟨j,0,some (j+1)⟩) n 0
abbrev Z8:TypeId:=39
theorem n7 {n:Nat} (h:n < 9223372036854775808):iI.wrap (n:Int)=(n:Int):=by
 have:=F9 (n:Int)
 omega
def wY:Code:=D3 zO7 152 0
def gS (p q:Nat) (xs ys L:List Int) (na nb N:Nat) (la c i:Int):St:=
 ⟨only 53 [(0,slV p na),(1,slV q nb),(5,slV 15 N),(6, .int .u64 c),(20,slV p na),(21, .int .i64 la),(22, .int .i64 i)],[(15, .row Z8 1 (.ints .u64 L) 16),(p, .ints .u64 xs),(q, .ints .u64 ys)],17,[],[],0,none,[],15⟩
section
variable (xs ys L:List Int) (na nb N:Nat) (la c i:Int)
theorem f1x (p q:Nat) (hpq:(p=11∧q=13)∨(p=13∧q=11)) (h0:decide (i < la)=true) (h1:decide (i < zO2 nb)=true) (h2:((zO2 0<=i∧i < zO2 nb)∧0 < ys.length)∧i.toNat < ys.length)
  (h3:((zO2 0<=i∧i < zO2 na)∧0 < xs.length)∧i.toNat < xs.length) (h4:c.toNat<=1) (h5:((zO2 0<=i∧i < zO2 N)∧0 < L.length)∧i.toNat < L.length):
  u7 XW0 wY (gS p q xs ys L na nb N la c i) .normal (gS p q xs ys (gU L i.toNat (zO2 (((xs.getD i.toNat 0).toNat+(ys.getD i.toNat 0).toNat+c.toNat)%18446744073709551616))) na nb N la
   (zO2 (((xs.getD i.toNat 0).toNat+(ys.getD i.toNat 0).toNat+c.toNat)/18446744073709551616)) (iI.wrap (i+1))):=by
 have hl:d9 [i.toNat < L.length,(zO2 0<=i∧i < zO2 N)∧0 < L.length,c.toNat<=1,i.toNat < xs.length,(zO2 0<=i∧i < zO2 na)∧0 < xs.length,i.toNat < ys.length,
   (zO2 0<=i∧i < zO2 nb)∧0 < ys.length,decide (i < zO2 nb)=true,decide (i < la)=true] :=⟨h5.2,h5.1,h4,h3.2,h3.1,h2.2,h2.1,h1,h0,a7⟩
 rcases hpq with ⟨rfl,rfl⟩ | ⟨rfl,rfl⟩
 ·exact stp x9 10 progOk.mixed [true,true] [] (by kernel_rfl) hl
 ·exact stp x9 10 progOk.mixed [true,true] [] (by kernel_rfl) hl
theorem w1c (p q:Nat) (hpq:(p=11∧q=13)∨(p=13∧q=11)) (h0:decide (i < la)=true) (h1:decide (i < zO2 nb)=false)
  (h3:((zO2 0<=i∧i < zO2 na)∧0 < xs.length)∧i.toNat < xs.length) (h4:c.toNat<=1) (h5:((zO2 0<=i∧i < zO2 N)∧0 < L.length)∧i.toNat < L.length):
  u7 XW0 wY (gS p q xs ys L na nb N la c i) .normal (gS p q xs ys (gU L i.toNat (zO2 (((xs.getD i.toNat 0).toNat+Int.toNat 0+c.toNat)%18446744073709551616))) na nb N la
   (zO2 (((xs.getD i.toNat 0).toNat+Int.toNat 0+c.toNat)/18446744073709551616)) (iI.wrap (i+1))):=by
 have hl:d9 [i.toNat < L.length,(zO2 0<=i∧i < zO2 N)∧0 < L.length,c.toNat<=1,i.toNat < xs.length,(zO2 0<=i∧i < zO2 na)∧0 < xs.length,decide (i < zO2 nb)=false,decide (i < la)=true] :=⟨h5.2,h5.1,h4,h3.2,h3.1,h1,h0,a7⟩
 rcases hpq with ⟨rfl,rfl⟩ | ⟨rfl,rfl⟩
 ·exact stp x9 10 progOk.mixed [true,false] [] (by kernel_rfl) hl
 ·exact stp x9 10 progOk.mixed [true,false] [] (by kernel_rfl) hl
theorem u1c (p q:Nat) (hpq:(p=11∧q=13)∨(p=13∧q=11)) (h0:decide (i < la)=false):u7 XW0 wY (gS p q xs ys L na nb N la c i) (.exit 0) (gS p q xs ys L na nb N la c i):=by
 rcases hpq with ⟨rfl,rfl⟩ | ⟨rfl,rfl⟩
 ·exact stp x9 10 progOk.mixed [false] [] (l:=[decide (i < la)=false]) (by kernel_rfl) ⟨h0,a7⟩
 ·exact stp x9 10 progOk.mixed [false] [] (l:=[decide (i < la)=false]) (by kernel_rfl) ⟨h0,a7⟩
end
theorem e2y {A B V c i a b:Nat} {w:Nat} (h:V+c*w ^i=A%w ^i+B%w ^i) (ha:dig w A i=a) (hb:dig w B i=b):
  V+(a+b+c)%w*w ^i+(a+b+c)/w*w ^(i+1)=A%w ^(i+1)+B%w ^(i+1):=by
 rw [gF,gF,ha,hb]
 have e:(a+b+c)%w*w ^i+(a+b+c)/w*w ^(i+1)=(a+b+c)*w ^i:=by
  rw [p9,<- f9,J1,<- u4]
  congr 1
  have:=j0w (a+b+c) w
  rw [n4] at this
  omega
 have e2:(a+b+c)*w ^i=a*w ^i+b*w ^i+c*w ^i:=by rw [u4,u4]
 omega
structure IPl where
 i:Nat
 c:Int
 L:List Int
def r1d (n A B:Nat) (p:IPl):Prop:=
 p.i<=n∧p.L.length=n+1∧Dg W64 p.L∧0<=p.c∧p.c<=1∧(∀ j,p.i<=j->p.L.getD j 0=0)∧val W64 p.L+p.c.toNat*W64 ^p.i=A%W64 ^p.i+B%W64 ^p.i
def rV (xs ys:List Int) (p:IPl):IPl:=
 ⟨p.i+1,zO2 (((xs.getD p.i 0).toNat+(ys.getD p.i 0).toNat+p.c.toNat)/18446744073709551616),gU p.L p.i (zO2 (((xs.getD p.i 0).toNat+(ys.getD p.i 0).toNat+p.c.toNat)%18446744073709551616))⟩
def P4 (n:Nat):IPl:=⟨0,0,zO6 n 0⟩
theorem getD_set_ne {l:List Int} {i j:Nat} (h:i≠j) (x:Int):(l.set i x).getD j 0=l.getD j 0:=by
 rw [pZ,pZ,List.getElem?_set_ne h]
theorem W5 (n j:Nat):(zO6 n (0:Int)).getD j 0=0:=by
 rw [pZ,List.getElem?_replicate]
 split <;> rfl
theorem aK {l:List Int} {i:Nat} (h:l.length<=i):l.getD i 0=0:=by
 rw [pZ,k0s h]
 rfl
theorem f2q (n:Nat):0<=zO2 (n%18446744073709551616)∧zO2 (n%18446744073709551616) < ((W64:Nat):Int):=by
 have:=B0 n g9
 simp only [y3]
 exact⟨by omega,by exact_mod_cast this⟩
theorem o0q {a b c:Nat} (ha:a < W64) (hb:b < W64) (hc:c<=1):(a+b+c)/18446744073709551616<=1:=by
 have:a < 18446744073709551616:=ha
 have:b < 18446744073709551616:=hb
 omega
theorem b1f {n:Nat} {xs ys:List Int} (hx:Dg W64 xs) (hy:Dg W64 ys) {p:IPl} (h:r1d n (val W64 xs) (val W64 ys) p) (hi:p.i < n):r1d n (val W64 xs) (val W64 ys) (rV xs ys p):=by
 obtain⟨h1,h2,h3,h4,h5,h6,h7⟩:=h
 have gx:=H4 g9 hx p.i
 have gy:=H4 g9 hy p.i
 have ex:(xs.getD p.i 0).toNat=dig W64 (val W64 xs) p.i:=by rw [gx,i8]
 have ey:(ys.getD p.i 0).toNat=dig W64 (val W64 ys) p.i:=by rw [gy,i8]
 have la:=bI g9 (val W64 xs) p.i
 have lb:=bI g9 (val W64 ys) p.i
 unfold rV
 rw [B5,ex,ey]
 have hs:=o0q la lb (show p.c.toNat<=1 by omega)
 refine⟨hi,by simp [h2],h3.set (f2q _) _,y9 _,?_,fun j hj=> ?_,?_⟩
 ·simp only [y3]
  omega
 ·simp only at hj
  rw [getD_set_ne (by omega)]
  exact h6 j (by omega)
 ·have hv:=cE (b:=W64) (zO2 ((dig W64 (val W64 xs) p.i+dig W64 (val W64 ys) p.i+p.c.toNat)%18446744073709551616)) (show p.i < p.L.length by omega)
  rw [h6 p.i (d7 _)] at hv
  simp only [h0v,C0,E4,y3,i8] at hv
  simp only [y3,i8]
  rw [hv]
  exact e2y h7 rfl rfl
theorem iZ {xs ys:List Int} (hx:Dg W64 xs) (hy:Dg W64 ys) (n:Nat):∀ k,k<=n->r1d n (val W64 xs) (val W64 ys) (itr (rV xs ys) k (P4 (n+1)))∧(itr (rV xs ys) k (P4 (n+1))).i=k
 | 0,_=>⟨⟨n6 _,by simp [itr,P4],M7 _ g9 _,xY _,by simp [itr,P4],fun j _=>W5 _ _,by simp [itr,P4,X0,Nat.mod_one]⟩,rfl⟩
 | k+1,hk=>by
  obtain⟨h1,h2⟩:=iZ hx hy n k (by omega)
  exact⟨b1f hx hy h1 (by omega),by show (itr (rV xs ys) k _).i+1=k+1; rw [h2]⟩
theorem zX {xs ys:List Int} (hx:Dg W64 xs) (hy:Dg W64 ys) {n:Nat} (h1:xs.length<=n) (h2:ys.length<=n) {p:IPl} (h:r1d n (val W64 xs) (val W64 ys) p) (hi:p.i=n):p.L.set n p.c=dl W64 (n+1) (val W64 xs+val W64 ys):=by
 obtain⟨f1,f2,f3,f4,f5,f6,f7⟩:=h
 rw [hi] at f6 f7
 have hv:=cE (b:=W64) p.c (show n < p.L.length by omega)
 rw [f6 n (d7 _)] at hv
 simp only [h0v,C0,E4] at hv
 have l1:=E3 (P6 g9 hx) (w7 g9 h1)
 have l2:=E3 (P6 g9 hy) (w7 g9 h2)
 rw [H3 l1,H3 l2] at f7
 exact o2q g9 (f3.set ⟨f4,Int.lt_of_le_of_lt f5 (by decide)⟩ _) (by simp [f2]) (by omega)
theorem k0y (p q:Nat) (hpq:(p=11∧q=13)∨(p=13∧q=11)) {xs ys:List Int} (hx:Dg W64 xs) (hy:Dg W64 ys) (hb:xs.length < 1099511627776):
  d5 XW0 wY (gS p q xs ys (zO6 (xs.length+1) 0) xs.length ys.length (xs.length+1) xs.length 0 0) (.exit 0)
   (gS p q xs ys (itr (rV xs ys) xs.length (P4 (xs.length+1))).L xs.length ys.length (xs.length+1) xs.length (itr (rV xs ys) xs.length (P4 (xs.length+1))).c xs.length):=by
 refine A8 (fun k=>gS p q xs ys (itr (rV xs ys) k (P4 (xs.length+1))).L xs.length ys.length (xs.length+1) xs.length (itr (rV xs ys) k (P4 (xs.length+1))).c k) xs.length (by intro e; cases e) (fun k hk=> ?_)
  (u1c xs ys _ xs.length ys.length (xs.length+1) xs.length _ xs.length p q hpq (by simp))
 obtain⟨hg,hi⟩:=iZ hx hy xs.length k (by omega)
 simp only [itr]
 generalize itr (rV xs ys) k (P4 (xs.length+1))=s at*
 obtain⟨h1,h2,h3,h4,h5,h6,h7⟩:=hg
 have hw:iI.wrap ((k:Int)+1)=((k+1:Nat):Int):=by
  have:=n7 (n:=k+1) (by omega)
  simpa using this
 subst hi
 by_cases hlt2:s.i < ys.length
 ·have:=f1x xs ys s.L xs.length ys.length (xs.length+1) xs.length s.c s.i p q hpq (by simpa using hk) (by simpa using hlt2) ⟨⟨⟨by simp,by simpa using hlt2⟩,by omega⟩,by simpa using hlt2⟩ ⟨⟨⟨by simp,by simpa using hk⟩,by omega⟩,by simpa using hk⟩ (by omega) ⟨⟨⟨by simp,by simp only [y3]; omega⟩,by omega⟩,by simp only [i8]; omega⟩
  rw [hw] at this
  exact this
 ·have:=w1c xs ys s.L xs.length ys.length (xs.length+1) xs.length s.c s.i p q hpq (by simpa using hk) (by simpa using hlt2) ⟨⟨⟨by simp,by simpa using hk⟩,by omega⟩,by simpa using hk⟩ (by omega) ⟨⟨⟨by simp,by simp only [y3]; omega⟩,by omega⟩,by simp only [i8]; omega⟩
  rw [hw] at this
  unfold rV
  rw [aK (l:=ys) (i:=s.i) (by omega)]
  exact this
abbrev wS (xs:List Int):Arg:= .c (.s Z8 .u64 xs)
section
variable (xs ys L R:List Int) (na nb N:Nat) (la c i:Int)
theorem o1m:A7 XW0 [X4 (.exit 0) (fun _=>gS 11 13 xs ys L na nb N la c i)] 200 152 [wS xs,wS ys] [wS R] [false] =some [na < L.length,((0:Int)<=(na:Int)∧(na:Int) < (N:Int))∧0 < L.length,
  d5 XW0 wY (o7 XW0 200 152 [wS xs,wS ys] [false]) (.exit 0) (gS 11 13 xs ys L na nb N la c i),
  0<=iI.wrap ((xs.length:Int)+1)∧iI.wrap ((xs.length:Int)+1)=iI.wrap ((xs.length:Int)+1)∧8*iI.wrap ((xs.length:Int)+1)<=281474976710656∧iI.wrap ((xs.length:Int)+1)<=9223372036854775807,
  decide ((xs.length:Int) < ys.length)=false,N=R.length∧N<=(gU L na c).length∧(gU L na c).take N=R] :=by kernel_rfl
theorem o1o:A7 XW0 [X4 (.exit 0) (fun _=>gS 13 11 ys xs L na nb N la c i)] 200 152 [wS xs,wS ys] [wS R] [true] =some [na < L.length,((0:Int)<=(na:Int)∧(na:Int) < (N:Int))∧0 < L.length,
  d5 XW0 wY (o7 XW0 200 152 [wS xs,wS ys] [true]) (.exit 0) (gS 13 11 ys xs L na nb N la c i),
  0<=iI.wrap ((ys.length:Int)+1)∧iI.wrap ((ys.length:Int)+1)=iI.wrap ((ys.length:Int)+1)∧8*iI.wrap ((ys.length:Int)+1)<=281474976710656∧iI.wrap ((ys.length:Int)+1)<=9223372036854775807,
  decide ((xs.length:Int) < ys.length)=true,N=R.length∧N<=(gU L na c).length∧(gU L na c).take N=R] :=by kernel_rfl
theorem a1j (x:AX) (s':St) (hw:iI.wrap ((xs.length:Int)+1)=((xs.length+1:Nat):Int)) (h:d5 XW0 wY (gS 11 13 xs ys (zO6 (xs.length+1) 0) xs.length ys.length (xs.length+1) xs.length 0 0) x s'):
  d5 XW0 wY (o7 XW0 200 152 [wS xs,wS ys] [false]) x s':=by
 have hw2:(iI.wrap ((xs.length:Int)+1)).toNat=xs.length+1:=by rw [hw]; rfl
 rw [<- hw2] at h
 exact m6 h []
theorem b1x (x:AX) (s':St) (hw:iI.wrap ((ys.length:Int)+1)=((ys.length+1:Nat):Int)) (h:d5 XW0 wY (gS 13 11 ys xs (zO6 (ys.length+1) 0) ys.length xs.length (ys.length+1) ys.length 0 0) x s'):
  d5 XW0 wY (o7 XW0 200 152 [wS xs,wS ys] [true]) x s':=by
 have hw2:(iI.wrap ((ys.length:Int)+1)).toNat=ys.length+1:=by rw [hw]; rfl
 rw [<- hw2] at h
 exact m6 h []
end
theorem K8 {n:Nat} (h:n < 1099511627776):iI.wrap ((n:Int)+1)=((n+1:Nat):Int):=by
 have:=n7 (n:=n+1) (by omega)
 simpa using this
theorem u1t {xs ys:List Int} (hx:Dg W64 xs) (hy:Dg W64 ys) (h1:xs.length < 1099511627776) (h2:ys.length < 1099511627776):
  Ev.Sem zO7 J0 152 [wS xs,wS ys] [wS (dl W64 (max xs.length ys.length+1) (val W64 xs+val W64 ys))] :=by
 by_cases hlt:xs.length < ys.length
 ·have hL:=k0y 13 11 (.inr ⟨rfl,rfl⟩) hy hx h2
  have hw:=K8 h2
  obtain⟨hg,hi⟩:=iZ hy hx ys.length ys.length (d7 _)
  have hlast:=zX hy hx (d7 _) (by omega) hg hi
  rw [Nat.max_eq_right (by omega),z0l (val W64 xs)]
  refine l6 x9 10 _ _ (o1o xs ys _ _ ys.length xs.length (ys.length+1) ys.length _ ys.length) ⟨?_,⟨⟨by omega,by omega⟩,?_⟩,b1x xs ys _ _ hw hL,⟨?_,rfl,?_,?_⟩,by simpa using hlt,⟨?_,?_,?_⟩,a7⟩
  ·have:=hg.2.1; omega
  ·have:=hg.2.1; omega
  ·rw [hw]; omega
  ·rw [hw]; omega
  ·rw [hw]; omega
  ·rw [r7]
  ·rw [B5,hlast,r7]; exact d7 _
  ·rw [B5,hlast]; exact aT (by rw [r7]; exact d7 _)
 ·have hL:=k0y 11 13 (.inl ⟨rfl,rfl⟩) hx hy h1
  have hw:=K8 h1
  obtain⟨hg,hi⟩:=iZ hx hy xs.length xs.length (d7 _)
  have hlast:=zX hx hy (d7 _) (by omega) hg hi
  rw [Nat.max_eq_left (by omega)]
  refine l6 x9 10 _ _ (o1m xs ys _ _ xs.length ys.length (xs.length+1) xs.length _ xs.length) ⟨?_,⟨⟨by omega,by omega⟩,?_⟩,a1j xs ys _ _ hw hL,⟨?_,rfl,?_,?_⟩,by simp; omega,⟨?_,?_,?_⟩,a7⟩
  ·have:=hg.2.1; omega
  ·have:=hg.2.1; omega
  ·rw [hw]; omega
  ·rw [hw]; omega
  ·rw [hw]; omega
  ·rw [r7]
  ·rw [B5,hlast,r7]; exact d7 _
  ·rw [B5,hlast]; exact aT (by rw [r7]; exact d7 _)
abbrev rB:TypeId:=113
def h0p:Code:=D3 zO7 143 0
abbrev slO (off n c:Nat):Value:= .slice (some ⟨11,off,none⟩) n c
def fY (xs:List Int) (neg:Bool) (off m c:Nat):St:=
 ⟨only 30 [(0, .bool neg),(1,slO off m c),(4, .pointer (some ⟨12,0,none⟩))],[(12, .cells [.bool false, .slice none 0 0] rB),(11, .ints .u64 xs)],13,[],[],0,none,[],12⟩
def s0c (xs:List Int) (off m:Nat):Bool:=match decide ((m:Int) > 0) with
 | true=>xs.getD (addO off (T0 (iI.wrap ((m:Int)-1)).toNat 1)) 0==0
 | false=>false
section
variable (xs:List Int) (neg:Bool) (off m c:Nat)
theorem h1t (h0:s0c xs off m=true) (h1:decide ((m:Int) > 0)=true->addO off (T0 (iI.wrap ((m:Int)-1)).toNat 1) < xs.length) (h2:decide ((m:Int) > 0)=true->(0<=iI.wrap ((m:Int)-1)∧iI.wrap ((m:Int)-1) < m)∧m<=xs.length)
  (h3:(0:Int)<=0∧0<=iI.wrap ((m:Int)-1)∧iI.wrap ((m:Int)-1)<=c):
  u7 XW0 h0p (fY xs neg off m c) .normal (fY xs neg off (iI.wrap ((m:Int)-1)).toNat c):=
 stp x9 10 progOk.mixed [true] [] (l:=[(0:Int)<=0∧0<=iI.wrap ((m:Int)-1)∧iI.wrap ((m:Int)-1)<=c,s0c xs off m=true,
  decide ((m:Int) > 0)=true->addO off (T0 (iI.wrap ((m:Int)-1)).toNat 1) < xs.length,decide ((m:Int) > 0)=true->(0<=iI.wrap ((m:Int)-1)∧iI.wrap ((m:Int)-1) < m)∧m<=xs.length]) (by kernel_rfl) ⟨h3,h0,h1,h2,a7⟩ (by kernel_rfl) (by kernel_rfl)
theorem f0k (h0:s0c xs off m=false) (h1:decide ((m:Int) > 0)=true->addO off (T0 (iI.wrap ((m:Int)-1)).toNat 1) < xs.length) (h2:decide ((m:Int) > 0)=true->(0<=iI.wrap ((m:Int)-1)∧iI.wrap ((m:Int)-1) < m)∧m<=xs.length):
  u7 XW0 h0p (fY xs neg off m c) (.exit 0) (fY xs neg off m c):=
 stp x9 10 progOk.mixed [false] [] (l:=[s0c xs off m=false,
  decide ((m:Int) > 0)=true->addO off (T0 (iI.wrap ((m:Int)-1)).toNat 1) < xs.length,decide ((m:Int) > 0)=true->(0<=iI.wrap ((m:Int)-1)∧iI.wrap ((m:Int)-1) < m)∧m<=xs.length]) (by kernel_rfl) ⟨h0,h1,h2,a7⟩ (by kernel_rfl) (by kernel_rfl)
def l2j (n:Nat):St:=u9 XW0 200 143 [.bool neg,slO off n c] [(11, .ints .u64 xs)] 12 []
theorem s0i (n:Nat):y0f XW0 [X4 (.exit 0) (fun _=>fY xs neg off m c)] 200 143 [.bool neg,slO off n c] [(11, .ints .u64 xs)] 12 [] =
  some ⟨.agg ⟨[.bool (match neg with | true=>decide ((m:Int) > 0) | false=>false),slO off m c]⟩,[(11, .ints .u64 xs)],14,[d5 XW0 h0p (l2j xs neg off c n) (.exit 0) (fY xs neg off m c)],[]⟩:=by kernel_rfl
theorem i0x (n:Nat) (x:AX) (s':St) (h:d5 XW0 h0p (fY xs neg off n c) x s'):d5 XW0 h0p (l2j xs neg off c n) x s':=
 m6 h []
end
theorem uZ {l:List Int} {m:Nat} (h:m < l.length):l.take (m+1)=l.take m++[l.getD m 0] :=by
 rw [List.take_add_one,e1i h]
 simp [List.getD,h]
theorem k1r (xs:List Int) (neg:Bool) (off c n:Nat) (hn:off+n<=xs.length) (hc:n<=c) (hb:xs.length < 1099511627776):d5 XW0 h0p (fY xs neg off n c) (.exit 0) (fY xs neg off (m9 ((xs.drop off).take n)).length c):=by
 refine G3 (fun m=>fY xs neg off m c) id (fun m=>m<=n∧m9 ((xs.drop off).take m)=m9 ((xs.drop off).take n)) (by intro e; cases e) (fun m hm=> ?_) n ⟨d7 _,rfl⟩
 obtain⟨hle,he⟩:=hm
 rw [<- he]
 cases m with
 | zero=>
  right
  have:=f0k xs neg off 0 c rfl (fun e=>by simp at e) (fun e=>by simp at e)
  simpa [m9] using this
 | succ m=>
  have hw:iI.wrap (((m+1:Nat):Int)-1)=(m:Int):=by
   have:=n7 (n:=m) (by omega)
   rw [<- this]
   congr 1
   omega
  have hpos:decide (((m+1:Nat):Int) > 0)=true:=by simp
  have ha:addO off (T0 (iI.wrap (((m+1:Nat):Int)-1)).toNat 1)=off+m:=by rw [hw]; simp
  have h1:decide (((m+1:Nat):Int) > 0)=true->addO off (T0 (iI.wrap (((m+1:Nat):Int)-1)).toNat 1) < xs.length:=fun _=>by rw [ha]; omega
  have h2:decide (((m+1:Nat):Int) > 0)=true->(0<=iI.wrap (((m+1:Nat):Int)-1)∧iI.wrap (((m+1:Nat):Int)-1) < ((m+1:Nat):Int))∧m+1<=xs.length:=fun _=>by rw [hw]; omega
  have hlz:s0c xs off (m+1)=(xs.getD (off+m) 0==0):=by unfold s0c; rw [hpos,ha]
  have hg:(xs.drop off).getD m 0=xs.getD (off+m) 0:=by simp [List.getD,List.getElem?_drop]
  have ht:=uZ (l:=xs.drop off) (m:=m) (by rw [D5]; omega)
  rw [hg] at ht
  by_cases hz:xs.getD (off+m) 0=0
  ·left
   have hs:=h1t xs neg off (m+1) c (by rw [hlz,hz]; rfl) h1 h2 (by rw [hw]; omega)
   rw [hw] at hs
   refine⟨m,⟨by omega,?_⟩,aX _,hs⟩
   rw [ht,hz,X9,b9 rfl]
  ·right
   have hs:=f0k xs neg off (m+1) c (by rw [hlz]; simpa using hz) h1 h2
   rw [ht,X9,a6 hz,<- ht,A9,D5,B2 (by omega)]
   exact hs
theorem Z5:Enters zO7 143:=H7 (q9 x9 10).2 (s0i [] false 0 0 0 0)
theorem dW (neg:Bool) (b:Option Nat) (off n c:Nat) (xs:List Int) (w:World) (hI:J0.I w) (hn:off+n<=xs.length) (hc:n<=c) (hb:xs.length < 1099511627776)
  (h:(b=none∧xs=[])∨∃ g cs t fr,b=some g∧w.heap[g]? =some (.cells cs t fr)∧∀ i,i < xs.length->cs[i]? =some (.int .u64 (xs.getD i 0))):
  Calls zO7 143 ⟨[.bool neg, .slice (b.map fun g=>⟨g,off,none⟩) n c]⟩ w fun e w'=>
   e= .returned (.agg ⟨[.bool (match neg with | true=>decide (((m9 ((xs.drop off).take n)).length:Int) > 0) | false=>false), .slice (b.map fun g=>⟨g,off,none⟩) (m9 ((xs.drop off).take n)).length c]⟩)∧Below w.heap.size w w':=by
 have hp:Par zO7 w.heap.size (fun _=>False):=⟨hI.1,fun _ _ h=>h⟩
 have hG:zO7.globals.size=11:=by kernel_rfl
 obtain⟨hX,_⟩:=q9 x9 10
 have hS:∀ ρ':Num,Agree 12 (fun i=>if i=11 then b else some i) ρ'->Sim zO7 w.heap.size (fun _=>False) ρ' [(11, .ints .u64 xs)] w∧([.bool neg, .slice (b.map fun g=>⟨g,off,none⟩) n c] :List Value)=rvL ρ' [.bool neg,slO off n c] :=by
  intro ρ' ha
  have h11:ρ' 11=b:=by rw [ha 11 (by omega)]; simp
  refine⟨⟨fun g hg=>by rw [ha g (by omega)]; simp; omega,fun i o hi=> ?_,fun i j o o' hi hr=> ?_⟩,?_⟩
  ·rw [a8] at hi
   split at hi
   ·rename_i e
    subst e
    cases hi
    rw [h11]
    exact h
   ·simp [Heap.get] at hi
  ·rw [a8] at hi
   split at hi
   ·cases hi; cases hr
   ·simp [Heap.get] at hi
  ·simp only [rvL,rv,rSl,r8,h11]
 refine (L6 hX progOk.mixed (s0i xs neg off _ c n) ⟨i0x xs neg off c n _ _ (k1r xs neg off c n hn hc hb),a7⟩ hp (d7 _) hI hS).2.mono fun e w' ⟨ρ1,v,ha,he,hk,hfin⟩=>⟨?_,hk.below⟩
 obtain⟨hv,_⟩:=hfin ρ1 (Agree.refl _ _)
 have h11:ρ1 11=b:=by rw [ha 11 (by omega)]; simp
 rw [he,hv]
 simp only [rv,rvA,rvL,rSl,r8,h11]
def kM (args:List Value) (H:Heap) (n:Nat) (ds:List Bool):Option CR:=
 match args with
 | [.bool neg, .slice (some ⟨id,off,some kk⟩) m c] =>match H.get id with
  | some (.row _ sz (.ints .u64 xs) kk')=>match zO0 kk kk' && zO0 sz 1 with
   | true=>some ⟨.agg ⟨[.bool (neg && decide (0 < (m9 ((xs.drop off).take m)).length)), .slice (some ⟨id,off,some kk⟩) (m9 ((xs.drop off).take m)).length c]⟩,H,n,[off=c∧off+m<=xs.length∧xs.length < 1099511627776],ds⟩
   | false=>none
  | some (.ints .u64 xs)=>match off,c with
   | 0,0=>some ⟨.agg ⟨[.bool (neg && decide (0 < xs.length)), .slice (some ⟨id,0,some kk⟩) m 0]⟩,H,n,[m=xs.length∧xs.length < 1099511627776∧m9 xs=xs],ds⟩
   | _,_=>none
  | _=>none
 | [.bool neg, .slice (some ⟨id,0,none⟩) m c] =>match H.get id with
  | some (.cells cs _)=>match iQ .u64 cs with
   | some xs=>some ⟨.agg ⟨[.bool (neg && decide (0 < (m9 (xs.take m)).length)), .slice (some ⟨id,0,none⟩) (m9 (xs.take m)).length c]⟩,H,n,[m<=xs.length∧m<=c∧xs.length < 1099511627776],ds⟩
   | none=>none
  | _=>none
 | [.bool _, .slice none 0 0] =>some ⟨.agg ⟨[.bool false, .slice none 0 0]⟩,H,n,[],ds⟩
 | _=>none
theorem e0n (neg:Bool) (k:Nat):(match neg with | true=>decide ((k:Int) > 0) | false=>false)=(neg && decide (0 < k)):=by
 cases neg
 ·rfl
 ·simp only [j2e]
  congr 1
  simp
theorem C3 (l:List Int):(m9 l).length<=l.length:=by
 unfold m9
 rw [bQ]
 have:=(List.dropWhile_sublist (l:=l.reverse) (fun x=>x==0)).length_le
 simpa using this
theorem a1b {xs:List Int} (h:m9 xs=xs) (hp:0 < xs.length):xs.getD (xs.length-1) 0≠0:=by
 intro hz
 have ht:=uZ (l:=xs) (m:=xs.length-1) (by omega)
 rw [yZ hp,y5,hz] at ht
 rw [ht,X9,b9 rfl] at h
 have h1:=C3 (xs.take (xs.length-1))
 rw [h] at h1
 simp at h1
 omega
theorem qH (neg:Bool) (b:Option Nat) (c:Nat) (xs:List Int) (w:World) (hI:J0.I w) (hb:xs.length < 1099511627776) (ht:m9 xs=xs)
  (h:(b=none∧xs=[])∨∃ g cs t fr,b=some g∧w.heap[g]? =some (.cells cs t fr)∧∀ i,i < xs.length->cs[i]? =some (.int .u64 (xs.getD i 0))):
  Calls zO7 143 ⟨[.bool neg, .slice (b.map fun g=>⟨g,0,none⟩) xs.length c]⟩ w fun e w'=>
   e= .returned (.agg ⟨[.bool (match neg with | true=>decide ((xs.length:Int) > 0) | false=>false), .slice (b.map fun g=>⟨g,0,none⟩) xs.length c]⟩)∧Below w.heap.size w w':=by
 have hp:Par zO7 w.heap.size (fun _=>False):=⟨hI.1,fun _ _ h=>h⟩
 have hG:zO7.globals.size=11:=by kernel_rfl
 obtain⟨hX,_⟩:=q9 x9 10
 have hS:∀ ρ':Num,Agree 12 (fun i=>if i=11 then b else some i) ρ'->Sim zO7 w.heap.size (fun _=>False) ρ' [(11, .ints .u64 xs)] w∧([.bool neg, .slice (b.map fun g=>⟨g,0,none⟩) xs.length c] :List Value)=rvL ρ' [.bool neg,slO 0 xs.length c] :=by
  intro ρ' ha
  have h11:ρ' 11=b:=by rw [ha 11 (by omega)]; simp
  refine⟨⟨fun g hg=>by rw [ha g (by omega)]; simp; omega,fun i o hi=> ?_,fun i j o o' hi hr=> ?_⟩,?_⟩
  ·rw [a8] at hi
   split at hi
   ·rename_i e
    subst e
    cases hi
    rw [h11]
    exact h
   ·simp [Heap.get] at hi
  ·rw [a8] at hi
   split at hi
   ·cases hi; cases hr
   ·simp [Heap.get] at hi
  ·simp only [rvL,rv,rSl,r8,h11]
 have hout:u7 XW0 h0p (fY xs neg 0 xs.length c) (.exit 0) (fY xs neg 0 xs.length c):=by
  have hw:0 < xs.length->iI.wrap ((xs.length:Int)-1)=((xs.length-1:Nat):Int):=fun h0=>by
   have:=n7 (n:=xs.length-1) (by omega)
   rw [<- this]
   congr 1
   omega
  refine f0k xs neg 0 xs.length c ?_ (fun e=> ?_) (fun e=> ?_)
  ·unfold s0c
   split
   ·rename_i e
    have h0:0 < xs.length:=by simpa using e
    rw [hw h0]
    have:=a1b ht h0
    simpa [addO] using this
   ·rfl
  ·have h0:0 < xs.length:=by simpa using e
   rw [hw h0]
   simp
   omega
  ·have h0:0 < xs.length:=by simpa using e
   rw [hw h0]
   omega
 have hL:d5 XW0 h0p (fY xs neg 0 xs.length c) (.exit 0) (fY xs neg 0 xs.length c):=A8 (fun _=>fY xs neg 0 xs.length c) 0 (by intro e; cases e) (fun k hk=>by omega) hout
 refine (L6 hX progOk.mixed (s0i xs neg 0 xs.length c xs.length) ⟨i0x xs neg 0 c xs.length _ _ hL,a7⟩ hp (d7 _) hI hS).2.mono fun e w' ⟨ρ1,v,ha,he,hk,hfin⟩=>⟨?_,hk.below⟩
 obtain⟨hv,_⟩:=hfin ρ1 (Agree.refl _ _)
 have h11:ρ1 11=b:=by rw [ha 11 (by omega)]; simp
 rw [he,hv]
 simp only [rv,rvA,rvL,rSl,r8,h11]
theorem gT:fK zO7 J0 143 kM:=by
 intro args H n ds r h hl
 have fin:∀ {B:Nat} {M:Nat->Prop} {ρ:Num} {w:World} {vs:List Value} {neg:Bool} {u:Value} {v:Value},B<=w.heap.size->(∀ ρ',Agree n ρ ρ'->Sim zO7 B M ρ' H w∧vs=rvL ρ' [.bool neg,u])->
   (Calls zO7 143 ⟨vs⟩ w fun e w'=>(∃ x,e= .returned x∧∀ ρ',Agree n ρ ρ'->x=rv ρ' v)∧Below w.heap.size w w')->
   Calls zO7 143 ⟨vs⟩ w fun e w'=>∃ ρ1 x,Agree n ρ ρ1∧e= .returned x∧Keeps B M w w'∧∀ ρ',Agree n ρ1 ρ'->x=rv ρ' v∧Sim zO7 B M ρ' H w':=by
  intro B M ρ w vs neg u v hB hS hc
  exact hc.mono fun e w' ⟨⟨x,he,hx⟩,hb⟩=>⟨ρ,x,Agree.refl _ _,he,n5 hb hB,fun ρ' ha=>⟨hx ρ' ha,(hS ρ' ha).1.below hb⟩⟩
 unfold kM at h
 split at h
 ·rename_i neg id off kk m c
  split at h
  ·rename_i e sz xs kk' hget
   split at h
   case h_2=>cases h
   rename_i hc
   simp only [x5,y8] at hc
   obtain⟨rfl,rfl⟩:=hc
   cases h
   obtain⟨rfl,h2,h3⟩:=hl.1
   refine⟨d7 _,Z5,fun B M ρ w vs hp hB hI hS=>fin hB hS ?_⟩
   have hvs:=(hS ρ (Agree.refl _ _)).2
   rcases (hS ρ (Agree.refl _ _)).1.obj id _ hget with ⟨g1,g2⟩ | ⟨b,cap,cur,g1,g2,⟨fr,g3,_⟩,g4,g5,g6,g7,g8⟩
   ·have hx:xs=[] :=by simpa [Row.list] using g2
    subst hx
    have h0:off=0:=by simp at h2; omega
    have hm:m=0:=by simp at h2; omega
    subst h0 hm
    have:=dW neg none 0 0 0 [] w hI (by simp) (d7 _) (by simp) (.inl ⟨rfl,rfl⟩)
    have e1:vs=[.bool neg, .slice none 0 0] :=by rw [hvs]; simp [rvL,rv,rSl,g1]
    rw [e1]
    refine this.mono fun e w' ⟨he,hb⟩=>⟨⟨_,he,fun ρ' ha=> ?_⟩,hb⟩
    have e2:=(hS ρ' ha).2
    rw [e1] at e2
    simp only [rvL,rv,R5,K2] at e2
    simp only [rv,rvA,rvL,e0n]
    have:rSl ρ' ⟨id,0,some kk⟩ (m9 (([] :List Int).drop 0 |>.take 0)).length 0=rSl ρ' ⟨id,0,some kk⟩ 0 0:=rfl
    rw [this,<- e2.2]
    rfl
   ·simp only [Row.list,B9,s4] at g6 g7 g8
    rw [V0] at g8
    have hxs:∀ i,i < xs.length->cur[i]? =some (.int .u64 (xs.getD i 0)):=fun i hi=>by
     have:=cO (xs:=xs) (n:=xs.length) hi .u64 hi
     rw [y5,<- g8,T5,b9 hi] at this
     simpa using this
    have:=dW neg (some b) off m (cap-off) xs w hI h2 (by omega) h3 (.inr ⟨b,cur,e,fr,rfl,g3,hxs⟩)
    have e1:vs=[.bool neg, .slice (some ⟨b,off,none⟩) m (cap-off)] :=by rw [hvs]; simp [rvL,rv,rSl,g1,g2]
    rw [e1]
    refine this.mono fun e w' ⟨he,hb⟩=>⟨⟨_,he,fun ρ' ha=> ?_⟩,hb⟩
    rcases (hS ρ' ha).1.obj id _ hget with ⟨q1,q2⟩ | ⟨b',cap',cur',q1,q2,⟨fr',q3,_⟩,_⟩
    ·have hx:xs=[] :=by simpa [Row.list] using q2
     have e2:=(hS ρ' ha).2
     rw [e1] at e2
     simp [rvL,rv,rSl,q1] at e2
    ·have e2:=(hS ρ' ha).2
     rw [e1] at e2
     simp [rvL,rv,rSl,q1,q2] at e2
     simp only [rv,rvA,rvL,rSl,q1,q2,e0n,T2,C8,<- e2.1,<- e2.2]
  ·rename_i xs hget
   split at h
   case h_2=>cases h
   cases h
   obtain⟨rfl,h2,h3⟩:=hl.1
   refine⟨d7 _,Z5,fun B M ρ w vs hp hB hI hS=>fin hB hS ?_⟩
   have hvs:=(hS ρ (Agree.refl _ _)).2
   have hobj:(ρ id=none∧xs=[])∨∃ g cs t fr,ρ id=some g∧w.heap[g]? =some (.cells cs t fr)∧∀ i,i < xs.length->cs[i]? =some (.int .u64 (xs.getD i 0)):=(hS ρ (Agree.refl _ _)).1.obj id _ hget
   have e1:∃ cap,vs=[.bool neg, .slice ((ρ id).map fun g=>⟨g,0,none⟩) xs.length cap] :=by
    cases hq:ρ id with
    | none=>exact⟨0,by rw [hvs]; simp [rvL,rv,rSl,hq]⟩
    | some g=>exact⟨_,by rw [hvs]; simp [rvL,rv,rSl,hq]; rfl⟩
   obtain⟨cap,e1⟩:=e1
   have:=qH neg (ρ id) cap xs w hI h2 h3 hobj
   rw [<- e1] at this
   refine this.mono fun e w' ⟨he,hb⟩=>⟨⟨_,he,fun ρ' ha=> ?_⟩,hb⟩
   have e2:=(hS ρ' ha).2
   rw [e1] at e2
   simp only [rvL,rv,R5,K2] at e2
   simp only [rv,rvA,rvL,e0n,<- e2.2]
  ·cases h
 ·rename_i neg id m c
  split at h
  case h_2=>cases h
  rename_i cs e hget
  split at h
  case h_2=>cases h
  rename_i xs ht
  cases h
  obtain⟨h1,h2,h3⟩:=hl.1
  have hcs:=M4 ht
  subst hcs
  refine⟨d7 _,Z5,fun B M ρ w vs hp hB hI hS=>fin hB hS ?_⟩
  have hvs:=(hS ρ (Agree.refl _ _)).2
  obtain⟨b,g1,g2,_⟩:=(hS ρ (Agree.refl _ _)).1.obj id _ hget
  rw [V0] at g2
  have hxs:∀ i,i < xs.length->(xs.map (zO3 .u64)).toArray[i]? =some (.int .u64 (xs.getD i 0)):=fun i hi=>by
   have:=cO (xs:=xs) (n:=xs.length) hi .u64 hi
   rw [y5] at this
   simpa using this
  have:=dW neg (some b) 0 m c xs w hI (by omega) h2 h3 (.inr ⟨b,_,e,(0,0),rfl,g2,hxs⟩)
  have e1:vs=[.bool neg, .slice (some ⟨b,0,none⟩) m c] :=by rw [hvs]; simp [rvL,rv,rSl,r8,g1]
  rw [e1]
  refine this.mono fun e w' ⟨he,hb⟩=>⟨⟨_,he,fun ρ' ha=> ?_⟩,hb⟩
  obtain⟨b',q1,q2,_⟩:=(hS ρ' ha).1.obj id _ hget
  have e2:=(hS ρ' ha).2
  rw [e1] at e2
  simp [rvL,rv,rSl,r8,q1] at e2
  simp only [rv,rvA,rvL,rSl,r8,q1,e0n,C8,<- e2,sS]
 ·rename_i neg
  cases h
  refine⟨d7 _,Z5,fun B M ρ w vs hp hB hI hS=>fin hB hS ?_⟩
  have hvs:=(hS ρ (Agree.refl _ _)).2
  have:=dW neg none 0 0 0 [] w hI (by simp) (d7 _) (by simp) (.inl ⟨rfl,rfl⟩)
  have e1:vs=[.bool neg, .slice none 0 0] :=by rw [hvs]; simp [rvL,rv]
  rw [e1]
  refine this.mono fun e w' ⟨he,hb⟩=>⟨⟨_,he,fun ρ' ha=> ?_⟩,hb⟩
  simp only [rv,rvA,rvL]
  cases neg <;> rfl
 ·cases h
def n0c:Code:=D3 zO7 154 0
def d1a (xs ys L:List Int) (na nb N:Nat) (la c i:Int):St:=
 ⟨only 40 [(0,slV 11 na),(1,slV 13 nb),(5,slV 15 N),(6, .int .u64 c),(12,slV 11 na),(13, .int .i64 la),(14, .int .i64 i)],[(15, .row Z8 1 (.ints .u64 L) 16),(11, .ints .u64 xs),(13, .ints .u64 ys)],17,[],[],0,none,[],15⟩
section
variable (xs ys L R:List Int) (na nb N:Nat) (la c i:Int)
theorem q1g (h0:decide (i < la)=true) (h1:decide (i < zO2 nb)=true) (h2:((zO2 0<=i∧i < zO2 nb)∧0 < ys.length)∧i.toNat < ys.length)
  (h3:((zO2 0<=i∧i < zO2 na)∧0 < xs.length)∧i.toNat < xs.length) (h4:c.toNat<=1) (h5:((zO2 0<=i∧i < zO2 N)∧0 < L.length)∧i.toNat < L.length):
  u7 XW0 n0c (d1a xs ys L na nb N la c i) .normal (d1a xs ys (gU L i.toNat (c0i (xs.getD i.toNat 0) (ys.getD i.toNat 0) c)) na nb N la (f0m (xs.getD i.toNat 0) (ys.getD i.toNat 0) c) (iI.wrap (i+1))):=
 stp x9 10 progOk.mixed [true,true] [] (l:=[i.toNat < L.length,(zO2 0<=i∧i < zO2 N)∧0 < L.length,c.toNat<=1,i.toNat < xs.length,(zO2 0<=i∧i < zO2 na)∧0 < xs.length,i.toNat < ys.length,
   (zO2 0<=i∧i < zO2 nb)∧0 < ys.length,decide (i < zO2 nb)=true,decide (i < la)=true]) (by kernel_rfl) ⟨h5.2,h5.1,h4,h3.2,h3.1,h2.2,h2.1,h1,h0,a7⟩ (by kernel_rfl) (by kernel_rfl)
theorem h2n (h0:decide (i < la)=true) (h1:decide (i < zO2 nb)=false)
  (h3:((zO2 0<=i∧i < zO2 na)∧0 < xs.length)∧i.toNat < xs.length) (h4:c.toNat<=1) (h5:((zO2 0<=i∧i < zO2 N)∧0 < L.length)∧i.toNat < L.length):
  u7 XW0 n0c (d1a xs ys L na nb N la c i) .normal (d1a xs ys (gU L i.toNat (c0i (xs.getD i.toNat 0) 0 c)) na nb N la (f0m (xs.getD i.toNat 0) 0 c) (iI.wrap (i+1))):=
 stp x9 10 progOk.mixed [true,false] [] (l:=[i.toNat < L.length,(zO2 0<=i∧i < zO2 N)∧0 < L.length,c.toNat<=1,i.toNat < xs.length,(zO2 0<=i∧i < zO2 na)∧0 < xs.length,
   decide (i < zO2 nb)=false,decide (i < la)=true]) (by kernel_rfl) ⟨h5.2,h5.1,h4,h3.2,h3.1,h1,h0,a7⟩ (by kernel_rfl) (by kernel_rfl)
theorem f2x (h0:decide (i < la)=false):u7 XW0 n0c (d1a xs ys L na nb N la c i) (.exit 0) (d1a xs ys L na nb N la c i):=
 stp x9 10 progOk.mixed [false] [] (l:=[decide (i < la)=false]) (by kernel_rfl) ⟨h0,a7⟩
theorem a2m:A7 XW0 [X4 (.exit 0) (fun _=>d1a xs ys L na nb N la c i)] 200 154 [wS xs,wS ys] [wS R] [] =some [
  d5 XW0 n0c (o7 XW0 200 154 [wS xs,wS ys] []) (.exit 0) (d1a xs ys L na nb N la c i),
  (0:Int)<=xs.length∧(xs.length:Int)=xs.length∧(8:Int)*xs.length<=281474976710656∧(xs.length:Int)<=9223372036854775807,N=R.length∧N<=L.length∧L.take N=R] :=by kernel_rfl
theorem t1q (x:AX) (s':St) (h:d5 XW0 n0c (d1a xs ys (zO6 xs.length 0) xs.length ys.length xs.length xs.length 0 0) x s'):
  d5 XW0 n0c (o7 XW0 200 154 [wS xs,wS ys] []) x s':=
 m6 h []
end
theorem r1r {a b c:Nat} (ha:a < W64) (hb:b < W64) (hc:c<=1):∃ lo hi:Nat,c0i a b c=lo∧f0m a b c=hi∧lo < W64∧hi<=1∧lo+b+c=a+W64*hi:=by
 have ha:a < 18446744073709551616:=ha
 have hb:b < 18446744073709551616:=hb
 refine⟨_,_,rfl,rfl,B0 _ g9,?_,?_⟩
 ·split <;> omega
 ·simp only [i8]
  have hW:W64=18446744073709551616:=rfl
  rw [hW]
  split
  ·rename_i h
   have h:a < b+c:=by simpa [Nat.blt_eq] using h
   omega
  ·rename_i h
   have h:¬ a < b+c:=fun hlt=>by
    have:zO1 a (b+c)=true:=by simpa [Nat.blt_eq] using hlt
    rw [this] at h
    cases h
   omega
def u1k (n A B:Nat) (p:IPl):Prop:=
 p.i<=n∧p.L.length=n∧Dg W64 p.L∧0<=p.c∧p.c<=1∧(∀ j,p.i<=j->p.L.getD j 0=0)∧val W64 p.L+B%W64 ^p.i=A%W64 ^p.i+p.c.toNat*W64 ^p.i
def qC (xs ys:List Int) (p:IPl):IPl:=
 ⟨p.i+1,f0m (xs.getD p.i 0) (ys.getD p.i 0) p.c,gU p.L p.i (c0i (xs.getD p.i 0) (ys.getD p.i 0) p.c)⟩
theorem y0m {n:Nat} {xs ys:List Int} (hx:Dg W64 xs) (hy:Dg W64 ys) {p:IPl} (h:u1k n (val W64 xs) (val W64 ys) p) (hi:p.i < n):u1k n (val W64 xs) (val W64 ys) (qC xs ys p):=by
 obtain⟨h1,h2,h3,h4,h5,h6,h7⟩:=h
 have gx:=H4 g9 hx p.i
 have gy:=H4 g9 hy p.i
 obtain⟨lo,hi',e1,e2,e3,e4,e5⟩:=r1r (bI g9 (val W64 xs) p.i) (bI g9 (val W64 ys) p.i) (show p.c.toNat<=1 by omega)
 have ec:p.c=(p.c.toNat:Int):=by omega
 unfold qC
 rw [B5,gx,gy,ec,e1,e2]
 refine⟨hi,by simp [h2],h3.set ⟨by omega,by exact_mod_cast e3⟩ _,by simp only; omega,by simp only; omega,fun j hj=> ?_,?_⟩
 ·simp only at hj
  rw [getD_set_ne (by omega)]
  exact h6 j (by omega)
 ·have hv:=cE (b:=W64) (lo:Int) (show p.i < p.L.length by omega)
  rw [h6 p.i (d7 _)] at hv
  simp only [h0v,C0,E4,i8] at hv
  simp only [i8]
  rw [hv,gF,gF,p9]
  have q1:(lo+dig W64 (val W64 ys) p.i+p.c.toNat)*W64 ^p.i=(dig W64 (val W64 xs) p.i+W64*hi')*W64 ^p.i:=by rw [e5]
  rw [u4,u4,u4] at q1
  have q2:hi'*(W64 ^p.i*W64)=W64*hi'*W64 ^p.i:=by rw [n4 (W64 ^p.i),<- f9,n4 hi']
  omega
theorem bZ {xs ys:List Int} (hx:Dg W64 xs) (hy:Dg W64 ys) (n:Nat):∀ k,k<=n->u1k n (val W64 xs) (val W64 ys) (itr (qC xs ys) k (P4 n))∧(itr (qC xs ys) k (P4 n)).i=k
 | 0,_=>⟨⟨n6 _,by simp [itr,P4],M7 _ g9 _,xY _,by simp [itr,P4],fun j _=>W5 _ _,by simp [itr,P4,X0,Nat.mod_one]⟩,rfl⟩
 | k+1,hk=>by
  obtain⟨h1,h2⟩:=bZ hx hy n k (by omega)
  exact⟨y0m hx hy h1 (by omega),by show (itr (qC xs ys) k _).i+1=k+1; rw [h2]⟩
theorem zT {xs ys:List Int} (hx:Dg W64 xs) (hy:Dg W64 ys) {n:Nat} (h1:xs.length<=n) (h2:ys.length<=n) (hle:val W64 ys<=val W64 xs) {p:IPl} (h:u1k n (val W64 xs) (val W64 ys) p) (hi:p.i=n):p.L=dl W64 n (val W64 xs-val W64 ys):=by
 obtain⟨f1,f2,f3,f4,f5,f6,f7⟩:=h
 rw [hi] at f7
 have l1:=E3 (P6 g9 hx) (w7 g9 h1)
 have l2:=E3 (P6 g9 hy) (w7 g9 h2)
 have l3:=P6 g9 f3
 rw [f2] at l3
 rw [H3 l1,H3 l2] at f7
 have hc:p.c.toNat=0:=by
  rcases E0 p.c.toNat 1 with h | h
  ·omega
  ·have:p.c.toNat=1:=by omega
   rw [this] at f7
   omega
 rw [hc] at f7
 exact o2q g9 f3 f2 (by omega)
theorem j1o {xs ys:List Int} (hx:Dg W64 xs) (hy:Dg W64 ys) (hle:val W64 ys<=val W64 xs) (h1:xs.length < 1099511627776) (h2:ys.length<=xs.length):
  Ev.Sem zO7 J0 154 [wS xs,wS ys] [wS (dl W64 xs.length (val W64 xs-val W64 ys))] :=by
 obtain⟨hg,hi⟩:=bZ hx hy xs.length xs.length (d7 _)
 have hlast:=zT hx hy (d7 _) h2 hle hg hi
 have hL:d5 XW0 n0c (d1a xs ys (zO6 xs.length 0) xs.length ys.length xs.length xs.length 0 0) (.exit 0)
   (d1a xs ys (itr (qC xs ys) xs.length (P4 xs.length)).L xs.length ys.length xs.length xs.length (itr (qC xs ys) xs.length (P4 xs.length)).c xs.length):=by
  refine A8 (fun k=>d1a xs ys (itr (qC xs ys) k (P4 xs.length)).L xs.length ys.length xs.length xs.length (itr (qC xs ys) k (P4 xs.length)).c k) xs.length (by intro e; cases e) (fun k hk=> ?_)
   (f2x xs ys _ xs.length ys.length xs.length _ _ xs.length (by simp))
  obtain⟨hg,hi⟩:=bZ hx hy xs.length k (by omega)
  simp only [itr]
  generalize itr (qC xs ys) k (P4 xs.length)=s at*
  obtain⟨h1',h2',h3,h4,h5,h6,h7⟩:=hg
  have hw:=K8 (n:=k) (by omega)
  subst hi
  by_cases hlt2:s.i < ys.length
  ·have:=q1g xs ys s.L xs.length ys.length xs.length xs.length s.c s.i (by simpa using hk) (by simpa using hlt2) ⟨⟨⟨by simp,by simpa using hlt2⟩,by omega⟩,by simpa using hlt2⟩ ⟨⟨⟨by simp,by simpa using hk⟩,by omega⟩,by simpa using hk⟩ (by omega) ⟨⟨⟨by simp,by simp only [y3]; omega⟩,by omega⟩,by simp only [i8]; omega⟩
   rw [hw] at this
   exact this
  ·have:=h2n xs ys s.L xs.length ys.length xs.length xs.length s.c s.i (by simpa using hk) (by simpa using hlt2) ⟨⟨⟨by simp,by simpa using hk⟩,by omega⟩,by simpa using hk⟩ (by omega) ⟨⟨⟨by simp,by simp only [y3]; omega⟩,by omega⟩,by simp only [i8]; omega⟩
   rw [hw] at this
   unfold qC
   rw [aK (l:=ys) (i:=s.i) (by omega)]
   exact this
 refine l6 x9 10 _ _ (a2m xs ys _ _ _ _ _ _ _ _) ⟨t1q xs ys _ _ hL,⟨by omega,rfl,by omega,by omega⟩,⟨?_,?_,?_⟩,a7⟩
 ·rw [r7]
 ·rw [hg.2.1]; exact d7 _
 ·rw [hlast]
  exact aT (by rw [r7]; exact d7 _)
def gQ:Code:=D3 zO7 153 0
def a0s (xs ys:List Int) (na nb:Nat) (i:Int):St:=⟨only 43 [(0,slV 11 na),(1,slV 13 nb),(5, .int .i64 i)],[(11, .ints .u64 xs),(13, .ints .u64 ys)],15,[],[],0,none,[],15⟩
def x1i (xs ys:List Int) (na nb:Nat) (r:Int):St:=⟨only 43 [(0,slV 11 na),(1,slV 13 nb),(4, .int .i64 r)],[(11, .ints .u64 xs),(13, .ints .u64 ys)],15,[],[],0,none,[],15⟩
section
variable (xs ys:List Int) (na nb:Nat) (i r:Int)
abbrev inB (ys:List Int) (nb:Nat) (i:Int):Prop:=((zO2 0<=i∧i < zO2 nb)∧0 < ys.length)∧i.toNat < ys.length
theorem q1m (h0:decide (0<=i)=true) (hx:inB xs na i) (hy:inB ys nb i) (h1:decide (xs.getD i.toNat 0 < ys.getD i.toNat 0)=true):u7 XW0 gQ (a0s xs ys na nb i) .ret (x1i xs ys na nb (-1)):=
 stp x9 10 progOk.mixed [true,true] [] (l:=[decide (xs.getD i.toNat 0 < ys.getD i.toNat 0)=true,i.toNat < ys.length,(zO2 0<=i∧i < zO2 nb)∧0 < ys.length,i.toNat < xs.length,(zO2 0<=i∧i < zO2 na)∧0 < xs.length,decide (0<=i)=true])
  (by kernel_rfl) ⟨h1,hy.2,hy.1,hx.2,hx.1,h0,a7⟩ (by kernel_rfl) (by kernel_rfl)
theorem t1b (h0:decide (0<=i)=true) (hx:inB xs na i) (hy:inB ys nb i) (h1:decide (xs.getD i.toNat 0 < ys.getD i.toNat 0)=false) (h2:decide (ys.getD i.toNat 0 < xs.getD i.toNat 0)=true):u7 XW0 gQ (a0s xs ys na nb i) .ret (x1i xs ys na nb 1):=
 stp x9 10 progOk.mixed [true,false,true] [] (l:=[decide (ys.getD i.toNat 0 < xs.getD i.toNat 0)=true,i.toNat < ys.length,(zO2 0<=i∧i < zO2 nb)∧0 < ys.length,i.toNat < xs.length,(zO2 0<=i∧i < zO2 na)∧0 < xs.length,
  decide (xs.getD i.toNat 0 < ys.getD i.toNat 0)=false,i.toNat < ys.length,(zO2 0<=i∧i < zO2 nb)∧0 < ys.length,i.toNat < xs.length,(zO2 0<=i∧i < zO2 na)∧0 < xs.length,decide (0<=i)=true])
  (by kernel_rfl) ⟨h2,hy.2,hy.1,hx.2,hx.1,h1,hy.2,hy.1,hx.2,hx.1,h0,a7⟩ (by kernel_rfl) (by kernel_rfl)
theorem t1g (h0:decide (0<=i)=true) (hx:inB xs na i) (hy:inB ys nb i) (h1:decide (xs.getD i.toNat 0 < ys.getD i.toNat 0)=false) (h2:decide (ys.getD i.toNat 0 < xs.getD i.toNat 0)=false):u7 XW0 gQ (a0s xs ys na nb i) .normal (a0s xs ys na nb (iI.wrap (i-1))):=
 stp x9 10 progOk.mixed [true,false,false] [] (l:=[decide (ys.getD i.toNat 0 < xs.getD i.toNat 0)=false,i.toNat < ys.length,(zO2 0<=i∧i < zO2 nb)∧0 < ys.length,i.toNat < xs.length,(zO2 0<=i∧i < zO2 na)∧0 < xs.length,
  decide (xs.getD i.toNat 0 < ys.getD i.toNat 0)=false,i.toNat < ys.length,(zO2 0<=i∧i < zO2 nb)∧0 < ys.length,i.toNat < xs.length,(zO2 0<=i∧i < zO2 na)∧0 < xs.length,decide (0<=i)=true])
  (by kernel_rfl) ⟨h2,hy.2,hy.1,hx.2,hx.1,h1,hy.2,hy.1,hx.2,hx.1,h0,a7⟩ (by kernel_rfl) (by kernel_rfl)
theorem a2q (h0:decide (0<=i)=false):u7 XW0 gQ (a0s xs ys na nb i) (.exit 0) (a0s xs ys na nb i):=
 stp x9 10 progOk.mixed [false] [] (l:=[decide (0<=i)=false]) (by kernel_rfl) ⟨h0,a7⟩
theorem v1p:A7 XW0 [] 200 153 [wS xs,wS ys] [.c (.v (.int .i64 r))] [true] =some [((xs.length:Int) !=ys.length)=true,zO3 .i64 (iI.wrap ((xs.length:Int)-ys.length))=zO3 .i64 r] :=by kernel_rfl
theorem t1k:A7 XW0 [X4 (.exit 0) (fun _=>a0s xs ys na nb i)] 200 153 [wS xs,wS ys] [.c (.v (.int .i64 r))] [false] =some [d5 XW0 gQ (o7 XW0 200 153 [wS xs,wS ys] [false]) (.exit 0) (a0s xs ys na nb i),
  ((xs.length:Int) !=ys.length)=false,zO3 .i64 0=zO3 .i64 r] :=by kernel_rfl
theorem v0d (q:Int):A7 XW0 [X4 .ret (fun _=>x1i xs ys na nb q)] 200 153 [wS xs,wS ys] [.c (.v (.int .i64 r))] [false] =some [d5 XW0 gQ (o7 XW0 200 153 [wS xs,wS ys] [false]) .ret (x1i xs ys na nb q),
  ((xs.length:Int) !=ys.length)=false,zO3 .i64 q=zO3 .i64 r] :=by kernel_rfl
theorem c0h (x:AX) (s':St) (h:d5 XW0 gQ (a0s xs ys xs.length ys.length (iI.wrap ((xs.length:Int)-1))) x s'):d5 XW0 gQ (o7 XW0 200 153 [wS xs,wS ys] [false]) x s':=
 m6 h []
end
def lV (xs ys:List Int):Int:=
 if xs.length≠ys.length then (xs.length:Int)-ys.length else if val W64 xs < val W64 ys then -1 else if val W64 ys < val W64 xs then 1 else 0
theorem C5 {l:List Int} {m:Nat} (h:m < l.length):l.drop m=l.getD m 0 ::l.drop (m+1):=by
 rw [o1u h]
 simp [List.getD,h]
theorem e0u {l l':List Int} (hl:Dg W64 l) {m:Nat} (h1:m < l.length) (h2:m < l'.length) (hd:l.drop (m+1)=l'.drop (m+1)) (hlt:l.getD m 0 < l'.getD m 0):val W64 l < val W64 l':=by
 rw [y6 W64 l m (by omega),y6 W64 l' m (by omega),C5 h1,C5 h2,hd]
 simp only [val]
 have a1:=P6 g9 (hl.take m)
 rw [A9,B2 (by omega)] at a1
 have g1:=(hl.get g9 m).1
 have:(l.getD m 0).toNat+1<=(l'.getD m 0).toNat:=by omega
 generalize val W64 (l'.drop (m+1))=D at*
 have a2:W64 ^m*((l.getD m 0).toNat+1+W64*D)<=W64 ^m*((l'.getD m 0).toNat+W64*D):=Y4 _ (by omega)
 have a3:W64 ^m*((l.getD m 0).toNat+1+W64*D)=W64 ^m*((l.getD m 0).toNat+W64*D)+W64 ^m:=by rw [Nat.add_right_comm,O6,s4]
 omega
theorem o0g {xs ys:List Int} (hx:Dg W64 xs) (hy:Dg W64 ys) (h1:xs.length < 1099511627776) (h2:ys.length < 1099511627776):
  Ev.Sem zO7 J0 153 [wS xs,wS ys] [.c (.v (.int .i64 (lV xs ys)))] :=by
 by_cases hn:xs.length=ys.length
 case neg=>
  refine l6 x9 10 _ _ (v1p xs ys _) ⟨by simp; omega,?_,a7⟩
  unfold lV
  rw [b9 hn]
  have:=F9 ((xs.length:Int)-ys.length)
  congr 1
  omega
 have hw:∀ m:Nat,m < xs.length->iI.wrap (((m+1:Nat):Int)-1)=(m:Int):=fun m hm=>by
  have:=n7 (n:=m) (by omega)
  rw [<- this]
  congr 1
  omega
 have hw1:iI.wrap ((xs.length:Int)-1)=(xs.length:Int)-1:=by
  have:=F9 ((xs.length:Int)-1)
  omega
 have hws:∀ m:Nat,m < xs.length->iI.wrap ((m:Int)-1)=(m:Int)-1:=fun m hm=>by
  have:=F9 ((m:Int)-1)
  omega
 have step:∀ m,m < xs.length->xs.drop (m+1)=ys.drop (m+1)->
   (val W64 xs < val W64 ys∧u7 XW0 gQ (a0s xs ys xs.length ys.length m) .ret (x1i xs ys xs.length ys.length (-1)))∨
   (val W64 ys < val W64 xs∧u7 XW0 gQ (a0s xs ys xs.length ys.length m) .ret (x1i xs ys xs.length ys.length 1))∨
   (xs.drop m=ys.drop m∧u7 XW0 gQ (a0s xs ys xs.length ys.length m) .normal (a0s xs ys xs.length ys.length ((m:Int)-1))):=by
  intro m hm hd
  have bx:inB xs xs.length (m:Int):=⟨⟨⟨by simp,by simpa using hm⟩,by omega⟩,by simpa using hm⟩
  have bY:inB ys ys.length (m:Int):=⟨⟨⟨by simp,by simp only [y3]; omega⟩,by omega⟩,by simp only [i8]; omega⟩
  rcases Int.lt_trichotomy (xs.getD m 0) (ys.getD m 0) with h | h | h
  ·exact .inl ⟨e0u hx hm (by omega) hd h,q1m xs ys _ _ m (by simp) bx bY (by simpa using h)⟩
  ·right; right
   refine⟨by rw [C5 (l:=xs) (m:=m) hm,C5 (l:=ys) (m:=m) (by omega),h,hd],?_⟩
   have:=t1g xs ys xs.length ys.length m (by simp) bx bY (by simp only [i8,m0g]; omega) (by simp only [i8,m0g]; omega)
   rw [hws m hm] at this
   exact this
  ·exact .inr (.inl ⟨e0u hy (by omega) hm hd.symm h,t1b xs ys _ _ m (by simp) bx bY (by simp only [i8,m0g]; omega) (by simpa using h)⟩)
 have good:∀ m,m<=xs.length->xs.drop m=ys.drop m->
   (val W64 xs < val W64 ys∧d5 XW0 gQ (a0s xs ys xs.length ys.length ((m:Int)-1)) .ret (x1i xs ys xs.length ys.length (-1)))∨
   (val W64 ys < val W64 xs∧d5 XW0 gQ (a0s xs ys xs.length ys.length ((m:Int)-1)) .ret (x1i xs ys xs.length ys.length 1))∨
   (xs=ys∧d5 XW0 gQ (a0s xs ys xs.length ys.length ((m:Int)-1)) (.exit 0) (a0s xs ys xs.length ys.length (-1))):=by
  intro m hm hd
  rcases aR (val W64 xs) (val W64 ys) with h | h | h
  ·refine .inl ⟨h,?_⟩
   refine G3 (fun m:Nat=>a0s xs ys xs.length ys.length ((m:Int)-1)) id (fun m=>m<=xs.length∧xs.drop m=ys.drop m) (by intro e; cases e) (fun k hk=> ?_) m ⟨hm,hd⟩
   cases k with
   | zero=>
    have:xs=ys:=by simpa using hk.2
    rw [this] at h
    omega
   | succ k=>
    have e:(((k+1:Nat):Int)-1)=(k:Int):=by omega
    simp only [e]
    rcases step k (by omega) hk.2 with ⟨_,s⟩ | ⟨q,_⟩ | ⟨q,s⟩
    ·exact .inr s
    ·omega
    ·exact .inl ⟨k,⟨by omega,q⟩,aX _,s⟩
  ·refine .inr (.inr ?_)
   have he:=f0q g9 hx hy hn h
   refine⟨he,?_⟩
   refine G3 (fun m:Nat=>a0s xs ys xs.length ys.length ((m:Int)-1)) id (fun m=>m<=xs.length∧xs.drop m=ys.drop m) (by intro e; cases e) (fun k hk=> ?_) m ⟨hm,hd⟩
   cases k with
   | zero=>
    right
    exact a2q xs ys xs.length ys.length (-1) (by decide)
   | succ k=>
    have e:(((k+1:Nat):Int)-1)=(k:Int):=by omega
    simp only [e]
    rcases step k (by omega) hk.2 with ⟨q,_⟩ | ⟨q,_⟩ | ⟨q,s⟩
    ·omega
    ·omega
    ·exact .inl ⟨k,⟨by omega,q⟩,aX _,s⟩
  ·refine .inr (.inl ⟨h,?_⟩)
   refine G3 (fun m:Nat=>a0s xs ys xs.length ys.length ((m:Int)-1)) id (fun m=>m<=xs.length∧xs.drop m=ys.drop m) (by intro e; cases e) (fun k hk=> ?_) m ⟨hm,hd⟩
   cases k with
   | zero=>
    have:xs=ys:=by simpa using hk.2
    rw [this] at h
    omega
   | succ k=>
    have e:(((k+1:Nat):Int)-1)=(k:Int):=by omega
    simp only [e]
    rcases step k (by omega) hk.2 with ⟨q,_⟩ | ⟨_,s⟩ | ⟨q,s⟩
    ·omega
    ·exact .inr s
    ·exact .inl ⟨k,⟨by omega,q⟩,aX _,s⟩
 have hne:((xs.length:Int) !=ys.length)=false:=by simp [hn]
 rcases good xs.length (d7 _) (by rw [List.drop_length,hn,List.drop_length]) with ⟨h,s⟩ | ⟨h,s⟩ | ⟨h,s⟩
 ·rw [<- hw1] at s
  refine l6 x9 10 _ _ (v0d xs ys _ _ _ (-1)) ⟨c0h xs ys _ _ s,hne,?_,a7⟩
  unfold lV
  rw [a6 (by simp [hn]),b9 h]
 ·rw [<- hw1] at s
  refine l6 x9 10 _ _ (v0d xs ys _ _ _ 1) ⟨c0h xs ys _ _ s,hne,?_,a7⟩
  unfold lV
  rw [a6 (by simp [hn]),a6 (by omega),b9 h]
 ·rw [<- hw1] at s
  refine l6 x9 10 _ _ (t1k xs ys _ _ (-1) _) ⟨c0h xs ys _ _ s,hne,?_,a7⟩
  unfold lV
  rw [a6 (by simp [hn]),a6 (by rw [h]; omega),a6 (by rw [h]; omega)]
abbrev shW:AS:= .c (.s Z8 .u64)
abbrev shI:AS:= .a [.v, .s Z8 .u64]
abbrev shV:AS:= .c .v
def g0r (xs ys:List Int):List Int:=dl W64 (1+max xs.length ys.length) (val W64 xs+val W64 ys)
def Q3 (xs ys:List Int):List Int:=dl W64 xs.length (val W64 xs-val W64 ys)
def qP:List Arg->Option (List Arg×List Prop)
 | [.c (.s 39 .u64 xs), .c (.s 39 .u64 ys)] =>some ([wS (g0r xs ys)],[Dg W64 xs,Dg W64 ys,xs.length < 1099511627776,ys.length < 1099511627776])
 | _=>none
def lM:List Arg->Option (List Arg×List Prop)
 | [.c (.s 39 .u64 xs), .c (.s 39 .u64 ys)] =>some ([wS (Q3 xs ys)],[Dg W64 xs,Dg W64 ys,val W64 ys<=val W64 xs,xs.length < 1099511627776,ys.length<=xs.length])
 | _=>none
def Z6:List Arg->Option (List Arg×List Prop)
 | [.c (.s 39 .u64 xs), .c (.s 39 .u64 ys)] =>some ([.c (.v (.int .i64 (lV xs ys)))],[Dg W64 xs,Dg W64 ys,xs.length < 1099511627776,ys.length < 1099511627776])
 | _=>none
theorem tG:∀ az rs l,qP az=some (rs,l)->d9 l->Ev.Sem zO7 J0 152 az rs:=by
 intro az rs l h hl
 unfold qP at h
 split at h
 ·cases h
  obtain⟨h1,h2,h3,h4,_⟩:=hl
  have:=u1t h1 h2 h3 h4
  rw [z0l] at this
  exact this
 ·cases h
theorem pE:∀ az rs l,lM az=some (rs,l)->d9 l->Ev.Sem zO7 J0 154 az rs:=by
 intro az rs l h hl
 unfold lM at h
 split at h
 ·cases h
  obtain⟨h1,h2,h3,h4,h5,_⟩:=hl
  exact j1o h1 h2 h3 h4 h5
 ·cases h
theorem fS:∀ az rs l,Z6 az=some (rs,l)->d9 l->Ev.Sem zO7 J0 153 az rs:=by
 intro az rs l h hl
 unfold Z6 at h
 split at h
 ·cases h
  obtain⟨h1,h2,h3,h4,_⟩:=hl
  exact o0g h1 h2 h3 h4
 ·cases h
def k0h:iG:=m4 143 kM (m4 152 (z6 [shW,shW] qP) (m4 154 (z6 [shW,shW] lM) (m4 153 (z6 [shW,shW] Z6) F4)))
theorem lA:iD zO7 J0 k0h:=d8 gT (d8 (l7 _ tG) (d8 (l7 _ pE) (d8 (l7 _ fS) (n9 _ _))))
def bW1:Base:=⟨zO7,J0,false,t1j,k0h,200,I6⟩
theorem lC:BaseOk bW1:=⟨progOk,c0n,lA,m0⟩
abbrev XW1:Cx:=bW1.cx 10
abbrev iN (neg:Bool) (m:Nat):Arg:= .a [.v (.bool neg), .s Z8 .u64 (ws W64 m)]
abbrev iL (neg:Bool) (xs:List Int):Arg:= .a [.v (.bool neg), .s Z8 .u64 xs]
abbrev iR (r:Int):Arg:= .c (.v (.int .i64 r))
abbrev uR (r:Int):Arg:= .c (.v (.int .u64 r))
theorem q1w (n:Int) (s:Bool) (R:List Int):A7 XW1 [] 200 89 [uR n] [iL s R] [] =some [1<=1∧1<=1∧1 < 1099511627776,zO8 false=zO8 s,(m9 [n]).length=R.length∧(m9 [n]).length<=1∧zO9 (m9 [n]).length [n] =R∧1=1∧1<=9223372036854775807] :=by kernel_rfl
theorem t1p (a b s:Bool) (xs ys R:List Int):A7 XW1 [] 200 97 [iL a xs,iL b ys] [iL s R] [true] =some [0=0∧0+(g0r xs ys).length<=(g0r xs ys).length∧(g0r xs ys).length < 1099511627776,xs.length=xs.length,ys.length=ys.length,Dg 18446744073709551616 xs,Dg 18446744073709551616 ys,xs.length < 1099511627776,ys.length < 1099511627776,(a==b)=true,zO8 (a && decide (0 < (m9 (zO9 (g0r xs ys).length (List.drop 0 (g0r xs ys)))).length))=zO8 s,(m9 (zO9 (g0r xs ys).length (List.drop 0 (g0r xs ys)))).length=R.length∧(m9 (zO9 (g0r xs ys).length (List.drop 0 (g0r xs ys)))).length<=(g0r xs ys).length∧zO9 (m9 (zO9 (g0r xs ys).length (List.drop 0 (g0r xs ys)))).length (g0r xs ys)=R] :=by kernel_rfl
theorem t1w (a b s:Bool) (xs ys R:List Int):A7 XW1 [] 200 97 [iL a xs,iL b ys] [iL s R] [false,true] =some [0=0∧0+(Q3 xs ys).length<=(Q3 xs ys).length∧(Q3 xs ys).length < 1099511627776,xs.length=xs.length,ys.length=ys.length,Dg 18446744073709551616 xs,Dg 18446744073709551616 ys,val 18446744073709551616 ys<=val 18446744073709551616 xs,xs.length < 1099511627776,ys.length<=xs.length,decide (zO2 0<=lV xs ys)=true,xs.length=xs.length,ys.length=ys.length,Dg 18446744073709551616 xs,Dg 18446744073709551616 ys,xs.length < 1099511627776,ys.length < 1099511627776,(a==b)=false,zO8 (a && decide (0 < (m9 (zO9 (Q3 xs ys).length (List.drop 0 (Q3 xs ys)))).length))=zO8 s,(m9 (zO9 (Q3 xs ys).length (List.drop 0 (Q3 xs ys)))).length=R.length∧(m9 (zO9 (Q3 xs ys).length (List.drop 0 (Q3 xs ys)))).length<=(Q3 xs ys).length∧zO9 (m9 (zO9 (Q3 xs ys).length (List.drop 0 (Q3 xs ys)))).length (Q3 xs ys)=R] :=by kernel_rfl
theorem r1t (a b s:Bool) (xs ys R:List Int):A7 XW1 [] 200 97 [iL a xs,iL b ys] [iL s R] [false,false] =some [0=0∧0+(Q3 ys xs).length<=(Q3 ys xs).length∧(Q3 ys xs).length < 1099511627776,ys.length=ys.length,xs.length=xs.length,Dg 18446744073709551616 ys,Dg 18446744073709551616 xs,val 18446744073709551616 xs<=val 18446744073709551616 ys,ys.length < 1099511627776,xs.length<=ys.length,decide (zO2 0<=lV xs ys)=false,xs.length=xs.length,ys.length=ys.length,Dg 18446744073709551616 xs,Dg 18446744073709551616 ys,xs.length < 1099511627776,ys.length < 1099511627776,(a==b)=false,zO8 (b && decide (0 < (m9 (zO9 (Q3 ys xs).length (List.drop 0 (Q3 ys xs)))).length))=zO8 s,(m9 (zO9 (Q3 ys xs).length (List.drop 0 (Q3 ys xs)))).length=R.length∧(m9 (zO9 (Q3 ys xs).length (List.drop 0 (Q3 ys xs)))).length<=(Q3 ys xs).length∧zO9 (m9 (zO9 (Q3 ys xs).length (List.drop 0 (Q3 ys xs)))).length (Q3 ys xs)=R] :=by kernel_rfl
theorem h1e (a:Bool) (xs:List Int) (r:Int):A7 XW1 [] 200 151 [iL a xs] [iR r] [true] =some [(zO2 xs.length==zO2 0)=true,zO3 iI (zO2 0)=zO3 iI r] :=by kernel_rfl
theorem j1p (a:Bool) (xs:List Int) (r:Int):A7 XW1 [] 200 151 [iL a xs] [iR r] [false,true] =some [a=true,(zO2 xs.length==zO2 0)=false,zO3 iI (Int.negSucc 0)=zO3 iI r] :=by kernel_rfl
theorem m1a (a:Bool) (xs:List Int) (r:Int):A7 XW1 [] 200 151 [iL a xs] [iR r] [false,false] =some [a=false,(zO2 xs.length==zO2 0)=false,zO3 iI (zO2 1)=zO3 iI r] :=by kernel_rfl
theorem w1g (a:Bool) (xs:List Int) (r:Int):A7 XW1 [] 200 181 [iL a xs] [uR r] [true] =some [(zO2 xs.length==zO2 0)=true,zO3 uI (zO2 0)=zO3 uI r] :=by kernel_rfl
theorem w1l (a:Bool) (xs:List Int) (r:Int):A7 XW1 [] 200 181 [iL a xs] [uR r] [false] =some [0 < xs.length,(zO2 0<=zO2 0∧zO2 0 < zO2 xs.length)∧0 < xs.length,(zO2 xs.length==zO2 0)=false,zO3 uI (xs.getD 0 (zO2 0))=zO3 uI r] :=by kernel_rfl
abbrev wl (m:Nat):Nat:=(ws W64 m).length
theorem g0t (m:Nat):Dg W64 (ws W64 m):=a2k C4 m
theorem s7 (m:Nat):val W64 (ws W64 m)=m:=g1g C4 m
theorem f0c {n m:Nat} (h:m < W64 ^n):m9 (dl W64 n m)=ws W64 m:=by rw [K9 C4 (l1u g9 n m),i0u,H3 h]
theorem wl_le {m n:Nat} :wl m<=n↔m < W64 ^n:=pH C4 m n
theorem wl_pos {m:Nat} :0 < wl m↔0 < m:=by
 have:=cD C4 (m:=m)
 show 0 < (ws W64 m).length↔0 < m
 omega
theorem cH {a b:Nat} (h:a<=b):wl a<=wl b:=wl_le.2 (y4 h (wl_le.1 (d7 _)))
theorem b0i {m n:Nat} (h:m<=n):W64 ^m<=W64 ^n:=w7 g9 h
theorem k0x (m:Nat):m < W64 ^wl m:=wl_le.1 (d7 _)
theorem m2l (a b:Nat):wl (a+b)<=max (wl a) (wl b)+1:=by
 rw [wl_le,p9]
 have h1:=E3 (k0x a) (b0i (Nat.le_max_left (wl a) (wl b)))
 have h2:=E3 (k0x b) (b0i (Nat.le_max_right (wl a) (wl b)))
 generalize W64 ^max (wl a) (wl b)=p at*
 show a+b < p*18446744073709551616
 omega
theorem m2w (a b:Nat):a+b < W64 ^(1+max (wl a) (wl b)):=by
 have:=m2l a b
 rw [z0l (max (wl a) (wl b))] at this
 exact wl_le.1 this
theorem d1i (a b:Nat):wl (a*b)<=wl a+wl b:=by
 rw [wl_le,i7]
 exact Nat.mul_lt_mul'' (k0x a) (k0x b)
theorem v0g (a b:Nat):m9 (g0r (ws W64 a) (ws W64 b))=ws W64 (a+b):=by
 unfold g0r
 rw [s7,s7]
 exact f0c (m2w a b)
theorem qT (a b:Nat):m9 (Q3 (ws W64 a) (ws W64 b))=ws W64 (a-b):=by
 unfold Q3
 rw [s7,s7]
 exact f0c (y4 (Nat.sub_le a b) (k0x a))
theorem s1s (a b:Nat):(g0r (ws W64 a) (ws W64 b)).length=1+max (wl a) (wl b):=by unfold g0r; rw [r7]
theorem v0j (a b:Nat):(Q3 (ws W64 a) (ws W64 b)).length=wl a:=by unfold Q3; rw [r7]
theorem p2a {a b:Nat} (h:wl a < wl b):a < b:=by
 rcases E0 a b with h' | h'
 ·exact h'
 ·have:=cH h'
  omega
theorem qN (a b:Nat):0<=lV (ws W64 a) (ws W64 b)↔b<=a:=by
 unfold lV
 rw [s7,s7]
 split
 ·rename_i h
  constructor
  ·intro h2
   have:wl b < wl a:=by show (ws W64 b).length < (ws W64 a).length; omega
   have:=p2a this
   omega
  ·intro h2
   have:wl b<=wl a:=cH h2
   have:(ws W64 b).length<=(ws W64 a).length:=this
   omega
 ·split
  ·constructor <;> intro h <;> omega
  ·split <;> constructor <;> intro h <;> omega
theorem t1t (a b:Nat):lV (ws W64 a) (ws W64 b) < 0↔a < b:=by
 have:=qN a b
 omega
theorem J7 {l:List Int} {m:Nat} (h:m9 l=ws W64 m):(m9 l).length=(ws W64 m).length∧(m9 l).length<=l.length∧l.take (m9 l).length=ws W64 m:=by
 refine⟨by rw [h],C3 l,?_⟩
 have key:∀ (l:List Int),l.take (m9 l).length=m9 l:=by
  intro l
  induction hn:l.length generalizing l with
  | zero=>have:=nJ hn; subst this; rfl
  | succ n ih=>
   have hne:l≠[] :=by intro e; subst e; cases hn
   obtain⟨m,x,rfl⟩:∃ m x,l=m++[x] :=⟨l.dropLast,l.getLast hne,(List.dropLast_concat_getLast hne).symm⟩
   rw [X9]
   split
   ·rw [List.take_append_of_le_length (C3 m)]
    exact ih m (by simp at hn; omega)
   ·exact y5
 rw [key,h]
theorem s1d (n:Nat) (hn:n < W64):Ev.Sem zO7 J0 89 [uR n] [iN false n] :=by
 have ht:m9 [(n:Int)] =ws W64 n:=by
  have hd:Dg W64 [(n:Int)] :=Dg.cons ⟨by omega,by exact_mod_cast hn⟩ (Dg.nil _)
  rw [K9 C4 hd]
  simp [val]
 refine l6 lC 10 _ _ (q1w n false (ws W64 n)) ⟨⟨by omega,by omega,by omega⟩,rfl,⟨by rw [ht],?_,?_,rfl,by omega⟩,a7⟩
 ·have:=C3 [(n:Int)]
  simpa using this
 ·rw [ht]
  by_cases h0:n=0
  ·subst h0; rfl
  ·rw [m0l C4 (by omega),H3 hn,uE hn,g0d]
   rfl
def s1t (a b:Bool) (A B:Nat):Nat:=if a=b then A+B else if B<=A then A-B else B-A
def x1g (a b:Bool) (A B:Nat):Bool:=if a=b then a && decide (0 < A+B) else if B<=A then a && decide (0 < A-B) else b && decide (0 < B-A)
theorem c1q (l:List Int):zO9 l.length (List.drop 0 l)=l:=by simp
theorem c2z (a b:Bool) {A B:Nat} (hA:wl A < 549755813888) (hB:wl B < 549755813888):Ev.Sem zO7 J0 97 [iN a A,iN b B] [iN (x1g a b A B) (s1t a b A B)] :=by
 have hA:(ws W64 A).length < 549755813888:=hA
 have hB:(ws W64 B).length < 549755813888:=hB
 by_cases hab:a=b
 ·have e1:s1t a b A B=A+B:=b9 hab
  have e2:x1g a b A B=(a && decide (0 < A+B)):=b9 hab
  rw [e1,e2]
  obtain⟨q1,q2,q3⟩:=J7 (v0g A B)
  have hlen:=s1s A B
  refine l6 lC 10 _ _ (t1p a b _ (ws W64 A) (ws W64 B) (ws W64 (A+B))) ⟨⟨rfl,by omega,by rw [hlen]; omega⟩,rfl,rfl,g0t A,g0t B,by omega,by omega,by simpa using hab,?_,?_,a7⟩
  ·rw [c1q,v0g]
   have:=wl_pos (m:=A+B)
   congr 2
   simp only [zzA163]
   exact this
  ·rw [c1q]
   exact⟨q1,q2,q3⟩
 ·by_cases hle:B<=A
  ·have e1:s1t a b A B=A-B:=by unfold s1t; rw [a6 hab,b9 hle]
   have e2:x1g a b A B=(a && decide (0 < A-B)):=by unfold x1g; rw [a6 hab,b9 hle]
   rw [e1,e2]
   obtain⟨q1,q2,q3⟩:=J7 (qT A B)
   have hlen:=v0j A B
   have hl:(ws W64 B).length<=(ws W64 A).length:=cH hle
   refine l6 lC 10 _ _ (t1w a b _ (ws W64 A) (ws W64 B) (ws W64 (A-B))) ⟨⟨rfl,by omega,by rw [hlen]; omega⟩,rfl,rfl,g0t A,g0t B,by rw [s7,s7]; exact hle,by omega,hl,?_,rfl,rfl,g0t A,g0t B,by omega,by omega,by simpa using hab,?_,?_,a7⟩
   ·simpa using (qN A B).2 hle
   ·rw [c1q,qT]
    have:=wl_pos (m:=A-B)
    congr 2
    simp only [zzA163]
    exact this
   ·rw [c1q]
    exact⟨q1,q2,q3⟩
  ·have e1:s1t a b A B=B-A:=by unfold s1t; rw [a6 hab,a6 hle]
   have e2:x1g a b A B=(b && decide (0 < B-A)):=by unfold x1g; rw [a6 hab,a6 hle]
   rw [e1,e2]
   obtain⟨q1,q2,q3⟩:=J7 (qT B A)
   have hlen:=v0j B A
   have hl:(ws W64 A).length<=(ws W64 B).length:=cH (by omega)
   refine l6 lC 10 _ _ (r1t a b _ (ws W64 A) (ws W64 B) (ws W64 (B-A))) ⟨⟨rfl,by omega,by rw [hlen]; omega⟩,rfl,rfl,g0t B,g0t A,by rw [s7,s7]; omega,by omega,hl,?_,rfl,rfl,g0t A,g0t B,by omega,by omega,by simpa using hab,?_,?_,a7⟩
   ·have:=qN A B
    simp only [m0g]
    exact fun h=>hle (this.1 h)
   ·rw [c1q,qT]
    have:=wl_pos (m:=B-A)
    congr 2
    simp only [zzA163]
    exact this
   ·rw [c1q]
    exact⟨q1,q2,q3⟩
def b2h (a:Bool) (A:Nat):Int:=if A=0 then 0 else if a then -1 else 1
theorem s1r (a:Bool) (A:Nat):Ev.Sem zO7 J0 151 [iN a A] [iR (b2h a A)] :=by
 have h0:=cD C4 (m:=A)
 unfold b2h
 by_cases hA:A=0
 ·rw [b9 hA]
  exact l6 lC 10 _ _ (h1e a (ws W64 A) 0) ⟨by have:=h0.2 hA; simp [this],rfl,a7⟩
 ·have hne:(zO2 (ws W64 A).length==zO2 0)=false:=by
   have:(ws W64 A).length≠0:=fun e=>hA (h0.1 e)
   simpa using this
  rw [a6 hA]
  cases a
  ·exact l6 lC 10 _ _ (m1a false (ws W64 A) 1) ⟨rfl,hne,rfl,a7⟩
  ·exact l6 lC 10 _ _ (j1p true (ws W64 A) (-1)) ⟨rfl,hne,rfl,a7⟩
theorem h1o (a:Bool) (A:Nat):Ev.Sem zO7 J0 181 [iN a A] [uR ((A%W64:Nat):Int)] :=by
 have h0:=cD C4 (m:=A)
 by_cases hA:A=0
 ·refine l6 lC 10 _ _ (w1g a (ws W64 A) _) ⟨by have:=h0.2 hA; simp [this],?_,a7⟩
  rw [hA]
  rfl
 ·have hp:0 < (ws W64 A).length:=by omega
  refine l6 lC 10 _ _ (w1l a (ws W64 A) _) ⟨hp,⟨⟨by simp,by simpa using hp⟩,hp⟩,by have:(ws W64 A).length≠0:=(by omega); simpa using this,?_,a7⟩
  have:=f1l C4 A 0
  have e:(ws W64 A).getD 0 (zO2 0)=(ws W64 A).getD 0 0:=rfl
  rw [e,this]
  simp [dig]
end Go.Proofs.YtbdaebagmmmijaaGreatDoor
namespace Go.Proofs
def kQ:Go.Shelf.Ren:=⟨fun | 264=>147 | n=>n,fun | 53=>39 | 46=>90 | n=>n,fun | n=>n⟩
theorem xU:Go.Proofs.Lays.n264 zO7 kQ where
 mixed:=by kernel_rfl
 f264:=Tryz.func147.trans (H5 some (by kernel_rfl))
 t46:=Tryz.underlying90
 a46:=Tryz.isAgg90
 z46:=Tryz.sizeOf90
 v46:=Tryz.zeroValue90
 t53:=Tryz.underlying39
 a53:=Tryz.isAgg39
 z53:=Tryz.sizeOf39
 v53:=Tryz.zeroValue39
namespace YtbdaebagmmmijaaGreatDoor
open Go Go.RowKit Ev Wd
def e2i (x y:Int):Int:=((x.toNat*y.toNat/18446744073709551616:Nat):Int)
def k1o (x y:Int):Int:=((x.toNat*y.toNat%18446744073709551616:Nat):Int)
def sI:List Value->Option (Value×List Prop)
 | [.int .u64 x, .int .u64 y] =>some (.tuple ⟨[.int .u64 (e2i x y), .int .u64 (k1o x y)]⟩,[(0<=x∧x < 18446744073709551616)∧0<=y∧y < 18446744073709551616])
 | _=>none
theorem oU (args:List Value) (v:Value) (l:List Prop) (h:sI args=some (v,l)) (hl:d9 l):Pure zO7 J0 147 args v:=by
 unfold sI at h
 split at h
 case h_2=>cases h
 rename_i x y
 cases h
 obtain⟨⟨h1,h2⟩,h3,h4⟩:=hl.1
 refine⟨rfl,rfl, .inl ⟨enters_of Tryz.func147 (by kernel_rfl) (c:=_) rfl,fun w hI=> ?_⟩⟩
 have:=Any.bits_Mul64 xU x.toNat y.toNat (by omega) (by omega) w
 rw [W3 h1,W3 h3] at this
 exact this.mono fun e w' ⟨q1,q2⟩=>⟨q1,q2 ▸ X1 _ _⟩
def r0i:List Arg->Option (List Arg×List Prop)
 | [.a [.v (.bool _), .s 39 .u64 xs]] =>some ([uR ((val W64 xs%W64:Nat):Int)],[xs=ws W64 (val W64 xs)])
 | _=>none
theorem b1j:∀ az rs l,r0i az=some (rs,l)->d9 l->Ev.Sem zO7 J0 181 az rs:=by
 intro az rs l h hl
 unfold r0i at h
 split at h
 ·rename_i a xs
  cases h
  have h1:xs=ws W64 (val W64 xs):=hl.1
  have:=h1o a (val W64 xs)
  unfold iN at this
  rw [<- h1] at this
  exact this
 ·cases h
def b2r:Tab:=l5 147 sI t1j
theorem t0x:Q0 zO7 J0 b2r:=b7 oU c0n
def bW2:Base:=⟨zO7,J0,false,b2r,k0h,200,I6⟩
theorem Y0:BaseOk bW2:=⟨progOk,t0x,lA,m0⟩
abbrev XW2:Cx:=bW2.cx 10
end YtbdaebagmmmijaaGreatDoor
end Go.Proofs
namespace Go.Proofs.YtbdaebagmmmijaaGreatDoor
open Go Go.RowKit Ev Wd
def m0o:Code:=D3 zO7 92 0
def b1s:Code:=D3 zO7 92 1
def x2h (a b:Bool) (xs ys L:List Int) (na nb:Nat):Heap:=[(18, .row Z8 1 (.ints .u64 L) 19),(17, .cells [.bool false, .slice none 0 0] rB),(16, .cells [.bool b,slV 13 nb] rB),(15, .cells [.bool a,slV 11 na] rB),(11, .ints .u64 xs),(13, .ints .u64 ys)]
def TMo (a b:Bool) (xs ys L:List Int) (na nb N:Nat) (la i:Int):St:=
 ⟨only 89 [(2, .pointer (some ⟨15,0,none⟩)),(3, .pointer (some ⟨16,0,none⟩)),(4, .pointer (some ⟨17,0,none⟩)),(5,slV 18 N),(23,slV 11 na),(24, .int .i64 la),(25, .int .i64 i)],x2h a b xs ys L na nb,20,[],[],0,none,[],15⟩
def TMi (a b:Bool) (xs ys L:List Int) (na nb N:Nat) (la i w c lb j:Int):St:=
 ⟨only 89 [(2, .pointer (some ⟨15,0,none⟩)),(3, .pointer (some ⟨16,0,none⟩)),(4, .pointer (some ⟨17,0,none⟩)),(5,slV 18 N),(6, .int .i64 i),(7, .int .u64 w),(8, .int .u64 c),(23,slV 11 na),(24, .int .i64 la),(25, .int .i64 i),(31,slV 13 nb),(32, .int .i64 lb),(33, .int .i64 j)],
  x2h a b xs ys L na nb,20,[],[],0,none,[],15⟩
def q2u (w y p c:Int):Int:=zO2 ((p.toNat+(zO2 (((k1o w y).toNat+c.toNat+0)%18446744073709551616)).toNat+0)%18446744073709551616)
def r2b (w y p c:Int):Int:=uI.wrap (uI.wrap (e2i w y+zO2 (((k1o w y).toNat+c.toNat+0)/18446744073709551616))+zO2 ((p.toNat+(zO2 (((k1o w y).toNat+c.toNat+0)%18446744073709551616)).toNat+0)/18446744073709551616))
def w2p (X:Cx) (c:Code) (s:St) (ds:List Bool):St:=match s with
 | ⟨tm,hp,n,_,_,_,rd,mq,b⟩=>match E5 X [fun s=>some (.exit 1000000,s)] 200 c ⟨tm,hp,n,ds,[],0,rd,mq,b⟩ with
  | some (_,s1)=>s1.core
  | none=>s
abbrev iL' (neg:Bool) (xs:List Int):Arg:= .a [.v (.bool neg), .s Z8 .u64 xs]
theorem f1j (a b:Bool) (xs ys L:List Int) (na nb N:Nat) (la i w c lb j:Int) (hl:d9 [(iI.wrap (i+j)).toNat < L.length,(zO2 0<=iI.wrap (i+j)∧iI.wrap (i+j) < zO2 N)∧0 < L.length,0<=1,(iI.wrap (i+j)).toNat < L.length,(zO2 0<=iI.wrap (i+j)∧iI.wrap (i+j) < zO2 N)∧0 < L.length,0<=1,(zO2 0<=w∧w < zO2 18446744073709551616)∧zO2 0<=ys.getD j.toNat (zO2 0)∧ys.getD j.toNat (zO2 0) < zO2 18446744073709551616,j.toNat < ys.length,(zO2 0<=j∧j < zO2 nb)∧0 < ys.length,decide (j < lb)=true]):u7 XW2 b1s (TMi a b xs ys L na nb N la i w c lb j) .normal (TMi a b xs ys (gU L (iI.wrap (i+j)).toNat (q2u w (ys.getD j.toNat 0) (L.getD (iI.wrap (i+j)).toNat 0) c)) na nb N la i w (r2b w (ys.getD j.toNat 0) (L.getD (iI.wrap (i+j)).toNat 0) c) lb (iI.wrap (j+1))):=
 stp Y0 10 progOk.mixed [true] [] (by kernel_rfl) hl
theorem u1b (a b:Bool) (xs ys L:List Int) (na nb N:Nat) (la i w c lb j:Int) (hl:d9 [decide (j < lb)=false]):u7 XW2 b1s (TMi a b xs ys L na nb N la i w c lb j) (.exit 2) (TMi a b xs ys L na nb N la i w c lb j):=
 stp Y0 10 progOk.mixed [false] [] (by kernel_rfl) hl
theorem g1n (a b:Bool) (xs ys L M:List Int) (na nb N:Nat) (la i w c lb j:Int) (hl:d9 [(iI.wrap (i+zO2 nb)).toNat < M.length,(zO2 0<=iI.wrap (i+zO2 nb)∧iI.wrap (i+zO2 nb) < zO2 N)∧0 < M.length,d5 XW2 b1s (w2p XW2 m0o (TMo a b xs ys L na nb N la i) [true]) (.exit 2) (TMi a b xs ys M na nb N la i w c lb j),i.toNat < xs.length,(zO2 0<=i∧i < zO2 na)∧0 < xs.length,decide (i < la)=true]):u7 XW2 m0o (TMo a b xs ys L na nb N la i) .normal (TMo a b xs ys (gU M (iI.wrap (i+(nb:Int))).toNat c) na nb N la (iI.wrap (i+1))):=
 e1l (q9 Y0 10).1 progOk.mixed [X4 (.exit 2) (fun _=>TMi a b xs ys M na nb N la i w c lb j)] 200 [true] [] (by kernel_rfl) hl (by kernel_rfl) (by kernel_rfl)
theorem s1v (a b:Bool) (xs ys L:List Int) (na nb N:Nat) (la i:Int) (hl:d9 [decide (i < la)=false]):u7 XW2 m0o (TMo a b xs ys L na nb N la i) (.exit 0) (TMo a b xs ys L na nb N la i):=
 stp Y0 10 progOk.mixed [false] [] (by kernel_rfl) hl
theorem h2p (a b s:Bool) (xs ys L R:List Int) (na nb N:Nat) (la i:Int):A7 XW2 [X4 (.exit 0) (fun _=>TMo a b xs ys L na nb N la i)] 200 92 [iL' a xs,iL' b ys] [iL' s R] [] =some [0=0∧0+N<=L.length∧L.length < 1099511627776,d5 XW2 m0o (o7 XW2 200 92 [iL' a xs,iL' b ys] []) (.exit 0) (TMo a b xs ys L na nb N la i),zO2 0<=iI.wrap (zO2 (xs.length+ys.length))∧iI.wrap (zO2 (xs.length+ys.length))=iI.wrap (zO2 (xs.length+ys.length))∧zO2 8*iI.wrap (zO2 (xs.length+ys.length))<=zO2 281474976710656∧iI.wrap (zO2 (xs.length+ys.length))<=zO2 9223372036854775807,zO8 (!a==b && decide (0 < (m9 (zO9 N L)).length))=zO8 s,(m9 (zO9 N L)).length=R.length∧(m9 (zO9 N L)).length<=L.length∧zO9 (m9 (zO9 N L)).length L=R] :=by kernel_rfl
theorem u1d {w y p c:Nat} (hw:w < W64) (hy:y < W64) (hp:p < W64) (hc:c < W64):∃ D C:Nat,q2u w y p c=D∧r2b w y p c=C∧D < W64∧C < W64∧D+W64*C=p+w*y+c:=by
 have hm:w*y<=18446744073709551615*18446744073709551615:=c1a (by have:w < 18446744073709551616:=hw; omega) (by have:y < 18446744073709551616:=hy; omega)
 have hp:p < 18446744073709551616:=hp
 have hc:c < 18446744073709551616:=hc
 unfold q2u r2b k1o e2i
 simp only [i8,y3]
 generalize w*y=m at*
 simp only [O3]
 refine⟨(p+m+c)%18446744073709551616,(p+m+c)/18446744073709551616,?_,?_,B0 _ g9,?_,?_⟩
 ·congr 1
  omega
 ·omega
 ·show _ < 18446744073709551616
  omega
 ·show _+18446744073709551616*_=_
  omega
structure IMu where
 j:Nat
 c:Int
 L:List Int
def v1z (w:Int) (ys:List Int) (i:Nat) (p:IMu):IMu:=
 ⟨p.j+1,r2b w (ys.getD p.j 0) (p.L.getD (i+p.j) 0) p.c,gU p.L (i+p.j) (q2u w (ys.getD p.j 0) (p.L.getD (i+p.j) 0) p.c)⟩
def L5 (w:Int) (ys:List Int) (i:Nat) (L:List Int) (j:Nat):IMu:=itr (v1z w ys i) j ⟨0,0,L⟩
def J4 (xs ys:List Int):Nat->List Int
 | 0=>zO6 (xs.length+ys.length) 0
 | i+1=>gU (L5 (xs.getD i 0) ys i (J4 xs ys i) ys.length).L (i+ys.length) (L5 (xs.getD i 0) ys i (J4 xs ys i) ys.length).c
def h2j (n i ny w B P:Nat) (p:IMu):Prop:=
 p.j<=ny∧p.L.length=n∧Dg W64 p.L∧(0<=p.c∧p.c < (W64:Int))∧(∀ t,i+ny<=t->p.L.getD t 0=0)∧val W64 p.L+p.c.toNat*W64 ^(i+p.j)=P+w*(B%W64 ^p.j)*W64 ^i
theorem c1g {n i w P:Nat} {ys:List Int} (hw:w < W64) (hy:Dg W64 ys) (hn:i+ys.length<=n) {p:IMu} (h:h2j n i ys.length w (val W64 ys) P p) (hj:p.j < ys.length):h2j n i ys.length w (val W64 ys) P (v1z w ys i p):=by
 obtain⟨h1,h2,h3,h4,h5,h6⟩:=h
 have gy:=H4 g9 hy p.j
 have gp:=h3.get g9 (i+p.j)
 have ep:p.L.getD (i+p.j) 0=((p.L.getD (i+p.j) 0).toNat:Int):=by omega
 have ec:p.c=(p.c.toNat:Int):=by omega
 obtain⟨D,C,e1,e2,e3,e4,e5⟩:=u1d hw (bI g9 (val W64 ys) p.j) (show (p.L.getD (i+p.j) 0).toNat < W64 by have:=gp.2; omega) (show p.c.toNat < W64 by have:=h4.2; omega)
 unfold v1z
 rw [B5,gy,ec,ep,e1,e2]
 refine⟨hj,by simp [h2],h3.set ⟨by omega,by exact_mod_cast e3⟩ _,⟨by simp only; omega,by simp only; exact_mod_cast e4⟩,fun t ht=> ?_,?_⟩
 ·rw [getD_set_ne (by omega)]
  exact h5 t ht
 ·have hv:=cE (b:=W64) (D:Int) (show i+p.j < p.L.length by omega)
  simp only [i8] at hv
  simp only [i8]
  rw [gF,<- s1i,p9]
  have q:(D+W64*C)*W64 ^(i+p.j)=((p.L.getD (i+p.j) 0).toNat+w*dig W64 (val W64 ys) p.j+p.c.toNat)*W64 ^(i+p.j):=by rw [e5]
  rw [u4,u4,u4] at q
  have q2:C*(W64 ^(i+p.j)*W64)=W64*C*W64 ^(i+p.j):=by rw [n4 (W64 ^(i+p.j)),<- f9,n4 C]
  have q3:w*(val W64 ys%W64 ^p.j+dig W64 (val W64 ys) p.j*W64 ^p.j)*W64 ^i=w*(val W64 ys%W64 ^p.j)*W64 ^i+w*dig W64 (val W64 ys) p.j*W64 ^(i+p.j):=by
   rw [O6,u4,i7]
   congr 1
   rw [<- f9,f9,n4 (W64 ^p.j)]
  rw [q3,q2]
  omega
theorem kY {n i w P:Nat} {ys L:List Int} (hw:w < W64) (hy:Dg W64 ys) (hn:i+ys.length<=n) (hL:L.length=n) (hD:Dg W64 L) (hz:∀ t,i+ys.length<=t->L.getD t 0=0) (hP:val W64 L=P):
  ∀ k,k<=ys.length->h2j n i ys.length w (val W64 ys) P (L5 w ys i L k)∧(L5 w ys i L k).j=k
 | 0,_=>⟨⟨n6 _,hL,hD,⟨xY _,(show (0:Int) < ((18446744073709551616:Nat):Int) by decide)⟩,hz,by simp [L5,itr,hP,Nat.mod_one]⟩,rfl⟩
 | k+1,hk=>by
  obtain⟨h1,h2⟩:=kY hw hy hn hL hD hz hP k (by omega)
  have h3:(L5 w ys i L k).j < ys.length:=by rw [h2]; omega
  exact⟨c1g hw hy hn h1 h3,by show (L5 w ys i L k).j+1=k+1; rw [h2]⟩
def w2c (xs ys:List Int) (i:Nat) (L:List Int):Prop:=
 L.length=xs.length+ys.length∧Dg W64 L∧(∀ t,i+ys.length<=t->L.getD t 0=0)∧val W64 L=val W64 xs%W64 ^i*val W64 ys
theorem uC {xs ys:List Int} (hx:Dg W64 xs) (hy:Dg W64 ys):∀ i,i<=xs.length->w2c xs ys i (J4 xs ys i)
 | 0,_=>⟨by simp [J4],M7 _ g9 _,fun t _=>W5 _ _,by simp [J4,X0,Nat.mod_one]⟩
 | i+1,hi=>by
  obtain⟨h1,h2,h3,h4⟩:=uC hx hy i (by omega)
  have gx:=H4 g9 hx i
  have:=(kY (bI g9 (val W64 xs) i) hy (by omega) h1 h2 h3 h4 ys.length (d7 _))
  unfold J4
  rw [gx,B5]
  generalize L5 (dig W64 (val W64 xs) i) ys i (J4 xs ys i) ys.length=p at*
  obtain⟨⟨q1,q2,q3,q4,q5,q6⟩,q7⟩:=this
  rw [q7] at q6
  refine⟨by simp [q2],q3.set q4 _,fun t ht=> ?_,?_⟩
  ·rw [getD_set_ne (by omega)]
   exact q5 t (by omega)
  ·have hv:=cE (b:=W64) p.c (show i+ys.length < p.L.length by omega)
   rw [q5 (i+ys.length) (d7 _)] at hv
   simp only [h0v,C0,E4] at hv
   rw [hv,q6,H3 (P6 g9 hy),gF,u4]
   congr 1
   rw [J1]
theorem i1m (a b:Bool) {xs ys L:List Int} (N:Nat) (hx:Dg W64 xs) (hy:Dg W64 ys) {i:Nat} (hi:i < xs.length) (hb:xs.length+ys.length < 1099511627776) (hL:L.length=xs.length+ys.length) (hN:N=xs.length+ys.length) (hD:Dg W64 L) (hz:∀ t,i+ys.length<=t->L.getD t 0=0):
  d5 XW2 b1s (TMi a b xs ys L xs.length ys.length N xs.length i (xs.getD i 0) 0 ys.length 0) (.exit 2)
   (TMi a b xs ys (L5 (xs.getD i 0) ys i L ys.length).L xs.length ys.length N xs.length i (xs.getD i 0) (L5 (xs.getD i 0) ys i L ys.length).c ys.length ys.length):=by
 subst hN
 refine A8 (fun k=>TMi a b xs ys (L5 (xs.getD i 0) ys i L k).L xs.length ys.length (xs.length+ys.length) xs.length i (xs.getD i 0) (L5 (xs.getD i 0) ys i L k).c ys.length k) ys.length (by intro e; cases e) (fun k hk=> ?_)
  (u1b a b xs ys _ xs.length ys.length (xs.length+ys.length) xs.length i (xs.getD i 0) _ ys.length ys.length ⟨by simp,a7⟩)
 have gx:=H4 g9 hx i
 have:=kY (bI g9 (val W64 xs) i) hy (by omega) hL hD hz rfl k (by omega)
 have e:L5 (xs.getD i 0) ys i L (k+1)=v1z (xs.getD i 0) ys i (L5 (xs.getD i 0) ys i L k):=rfl
 simp only [e]
 rw [<- gx] at this
 generalize L5 (xs.getD i 0) ys i L k=p at*
 obtain⟨⟨q1,q2,q3,q4,q5,q6⟩,q7⟩:=this
 subst q7
 have hw:iI.wrap ((i:Int)+(p.j:Int))=((i+p.j:Nat):Int):=by
  have:=n7 (n:=i+p.j) (by omega)
  simpa using this
 have hw2:=K8 (n:=p.j) (by omega)
 have gw:=hx.get g9 i
 have gy:=hy.get g9 p.j
 have hW:((W64:Nat):Int)=18446744073709551616:=rfl
 rw [hW] at gw gy
 have:=f1j a b xs ys p.L xs.length ys.length (xs.length+ys.length) xs.length i (xs.getD i 0) p.c ys.length p.j
 rw [hw,hw2] at this
 simp only [i8] at this
 have bnd:((zO2 0<=((i+p.j:Nat):Int)∧((i+p.j:Nat):Int) < zO2 (xs.length+ys.length))∧0 < p.L.length):=⟨⟨by simp only [y3]; omega,by simp only [y3]; omega⟩,by omega⟩
 exact this ⟨by omega,bnd,by omega,by omega,bnd,by omega,⟨gw,gy⟩,hk,⟨⟨by simp,by simpa using hk⟩,by omega⟩,by simpa using hk,a7⟩
theorem v1x (a b:Bool) (xs ys L:List Int) (na nb N:Nat) (la i:Int) (x:AX) (s':St) (h:d5 XW2 b1s (TMi a b xs ys L na nb N la i (xs.getD i.toNat 0) 0 nb 0) x s'):d5 XW2 b1s (w2p XW2 m0o (TMo a b xs ys L na nb N la i) [true]) x s':=
 m6 h []
theorem f1m (a b:Bool) (xs ys:List Int) (x:AX) (s':St) (h:d5 XW2 m0o (TMo a b xs ys (zO6 (iI.wrap ((xs.length:Int)+ys.length)).toNat 0) xs.length ys.length (iI.wrap ((xs.length:Int)+ys.length)).toNat xs.length 0) x s'):
  d5 XW2 m0o (o7 XW2 200 92 [iL' a xs,iL' b ys] []) x s':=
 m6 h []
theorem c2d (a b:Bool) {A B:Nat} (hA:wl A < 274877906944) (hB:wl B < 274877906944):Ev.Sem zO7 J0 92 [iN a A,iN b B] [iN ((a !=b) && decide (0 < A*B)) (A*B)] :=by
 have hA:(ws W64 A).length < 274877906944:=hA
 have hB:(ws W64 B).length < 274877906944:=hB
 have hx:=g0t A
 have hy:=g0t B
 have vA:=s7 A
 have vB:=s7 B
 have hR:m9 (J4 (ws W64 A) (ws W64 B) (ws W64 A).length)=ws W64 (A*B)∧(J4 (ws W64 A) (ws W64 B) (ws W64 A).length).length=(ws W64 A).length+(ws W64 B).length:=by
  obtain⟨h1,h2,h3,h4⟩:=uC hx hy (ws W64 A).length (d7 _)
  refine⟨?_,h1⟩
  rw [K9 C4 h2,h4,H3 (P6 g9 hx),vA,vB]
 have hL:d5 XW2 m0o (TMo a b (ws W64 A) (ws W64 B) (zO6 ((ws W64 A).length+(ws W64 B).length) 0) (ws W64 A).length (ws W64 B).length ((ws W64 A).length+(ws W64 B).length) (ws W64 A).length 0) (.exit 0)
   (TMo a b (ws W64 A) (ws W64 B) (J4 (ws W64 A) (ws W64 B) (ws W64 A).length) (ws W64 A).length (ws W64 B).length ((ws W64 A).length+(ws W64 B).length) (ws W64 A).length (ws W64 A).length):=by
  generalize ws W64 A=xs at*
  generalize ws W64 B=ys at*
  refine A8 (fun k=>TMo a b xs ys (J4 xs ys k) xs.length ys.length (xs.length+ys.length) xs.length k) xs.length (by intro e; cases e) (fun k hk=> ?_) (s1v a b xs ys _ xs.length ys.length (xs.length+ys.length) xs.length xs.length ⟨by simp,a7⟩)
  obtain⟨h1,h2,h3,h4⟩:=uC hx hy k (by omega)
  have hi:=i1m a b (xs.length+ys.length) hx hy hk (by omega) h1 rfl h2 h3
  have hi2:=v1x a b xs ys (J4 xs ys k) xs.length ys.length (xs.length+ys.length) xs.length k _ _ (by rw [i8]; exact hi)
  have hw:iI.wrap ((k:Int)+zO2 ys.length)=((k+ys.length:Nat):Int):=by
   have:=n7 (n:=k+ys.length) (by omega)
   simpa using this
  have hw':iI.wrap ((k:Int)+(ys.length:Int))=((k+ys.length:Nat):Int):=hw
  have hw2:=K8 (n:=k) (by omega)
  have hlen:(L5 (xs.getD k 0) ys k (J4 xs ys k) ys.length).L.length=xs.length+ys.length:=by
   have gx:=H4 g9 hx k
   have:=(kY (bI g9 (val W64 xs) k) hy (by omega) h1 h2 h3 rfl ys.length (d7 _)).1.2.1
   rw [gx]
   exact this
  have:=g1n a b xs ys (J4 xs ys k) (L5 (xs.getD k 0) ys k (J4 xs ys k) ys.length).L xs.length ys.length (xs.length+ys.length) xs.length k (xs.getD k 0) (L5 (xs.getD k 0) ys k (J4 xs ys k) ys.length).c ys.length ys.length
  rw [hw,hw',hw2] at this
  simp only [i8] at this
  exact this ⟨by omega,⟨⟨by simp only [y3]; omega,by simp only [y3]; omega⟩,by omega⟩,hi2,hk,⟨⟨by simp,by simpa using hk⟩,by omega⟩,by simpa using hk,a7⟩
 have hw:iI.wrap (((ws W64 A).length:Int)+(ws W64 B).length)=(((ws W64 A).length+(ws W64 B).length:Nat):Int):=by
  have:=n7 (n:=(ws W64 A).length+(ws W64 B).length) (by omega)
  simpa using this
 have hw':iI.wrap (zO2 ((ws W64 A).length+(ws W64 B).length))=(((ws W64 A).length+(ws W64 B).length:Nat):Int):=n7 (by omega)
 have ht:zO9 ((ws W64 A).length+(ws W64 B).length) (J4 (ws W64 A) (ws W64 B) (ws W64 A).length)=J4 (ws W64 A) (ws W64 B) (ws W64 A).length:=aT (by rw [hR.2]; exact d7 _)
 obtain⟨q1,q2,q3⟩:=J7 hR.1
 refine l6 Y0 10 _ _ (h2p a b _ (ws W64 A) (ws W64 B) (J4 (ws W64 A) (ws W64 B) (ws W64 A).length) (ws W64 (A*B)) _ _ ((ws W64 A).length+(ws W64 B).length) _ _) ⟨⟨rfl,by rw [hR.2]; omega,by rw [hR.2]; omega⟩,f1m a b _ _ _ _ (by rw [hw]; exact hL),⟨by rw [hw']; simp only [y3]; omega,rfl,by rw [hw']; simp only [y3]; omega,by rw [hw']; simp only [y3]; omega⟩,?_,?_,a7⟩
 ·rw [ht,hR.1]
  have:=wl_pos (m:=A*B)
  have e1:(!a==b)=(a !=b):=by cases a <;> cases b <;> rfl
  rw [e1]
  congr 2
  simp only [zzA163]
  exact this
 ·rw [ht]
  exact⟨q1,q2,q3⟩
end Go.Proofs.YtbdaebagmmmijaaGreatDoor
namespace Go.Proofs.YtbdaebagmmmijaaGreatDoor.Wd
def bl (n:Nat):Nat:=match n with
 | 0=>0
 | n+1=>(n+1).log2+1
theorem bl_le {n k:Nat} :bl n<=k↔n < 2 ^k:=by
 cases n with
 | zero=>simp [bl,Nat.two_pow_pos]
 | succ n=>
  have:=tM (n:=n+1) (k:=k) (by omega)
  simp only [bl]
  omega
theorem b0h (n:Nat):n < 2 ^bl n:=bl_le.1 (d7 _)
theorem bl_ge {n k:Nat} :k < bl n↔2 ^k<=n:=by
 have:=bl_le (n:=n) (k:=k)
 omega
theorem f2n:bl 0=0:=rfl
theorem bl_pos {n:Nat} :0 < bl n↔0 < n:=by
 rw [bl_ge]
 simp
 omega
theorem z1q {n:Nat} (h:0 < n):2 ^(bl n-1)<=n:=bl_ge.1 (by have:=bl_pos.2 h; omega)
theorem f2d {a b:Nat} (h:a<=b):bl a<=bl b:=bl_le.2 (y4 h (b0h b))
theorem qK {n k:Nat} (h:2 ^k<=n):bl n=k+bl (n/2 ^k):=by
 have h1:k < bl n:=bl_ge.2 h
 apply yN
 ·rw [bl_le,i7,n4,<- F6 (F7 k)]
  exact b0h _
 ·have:bl (n/2 ^k)<=bl n-k:=by
   rw [bl_le,F6 (F7 k),<- i7]
   rw [yZ (cJ h1)]
   exact b0h n
  omega
end Go.Proofs.YtbdaebagmmmijaaGreatDoor.Wd
namespace Go.Proofs.YtbdaebagmmmijaaGreatDoor
open Go Go.RowKit Ev Wd
def l8:ByteArray:=⟨⟨(List.range 256).map fun i=>UInt8.ofNat (bl i)⟩⟩
theorem t2i (i:Nat) (h:i < 256):mQ l8 i=bl i:=by
 have:∀ i:Fin 256,mQ l8 i.val=bl i.val:=by decide+kernel
 exact this ⟨i,h⟩
def e1v (k:Nat) (y:Int):Value:= .int .i64 (iI.wrap ((k:Int)+iI.wrap ((mQ l8 (IntKind.u8.wrap y).toNat:Nat):Int)))
abbrev f32 (x:Int):Int:=x.fdiv 4294967296
abbrev f16 (x:Int):Int:=x.fdiv 65536
abbrev f8 (x:Int):Int:=x.fdiv 256
def p1s (y:Int):Prop:=0<=IntKind.u8.wrap y∧(IntKind.u8.wrap y).toNat < 256
section
variable (x:Int)
theorem g2q:b6 XW2 [] 200 188 [.int .u64 x] [true,true,true] =some (e1v 56 (f8 (f16 (f32 x))),[p1s (f8 (f16 (f32 x))),decide (f16 (f32 x)>=256)=true,decide (f32 x>=65536)=true,decide (x>=4294967296)=true]):=by kernel_rfl
theorem a2o:b6 XW2 [] 200 188 [.int .u64 x] [true,true,false] =some (e1v 48 (f16 (f32 x)),[p1s (f16 (f32 x)),decide (f16 (f32 x)>=256)=false,decide (f32 x>=65536)=true,decide (x>=4294967296)=true]):=by kernel_rfl
theorem i2g:b6 XW2 [] 200 188 [.int .u64 x] [true,false,true] =some (e1v 40 (f8 (f32 x)),[p1s (f8 (f32 x)),decide (f32 x>=256)=true,decide (f32 x>=65536)=false,decide (x>=4294967296)=true]):=by kernel_rfl
theorem h2y:b6 XW2 [] 200 188 [.int .u64 x] [true,false,false] =some (e1v 32 (f32 x),[p1s (f32 x),decide (f32 x>=256)=false,decide (f32 x>=65536)=false,decide (x>=4294967296)=true]):=by kernel_rfl
theorem d2r:b6 XW2 [] 200 188 [.int .u64 x] [false,true,true] =some (e1v 24 (f8 (f16 x)),[p1s (f8 (f16 x)),decide (f16 x>=256)=true,decide (x>=65536)=true,decide (x>=4294967296)=false]):=by kernel_rfl
theorem i2q:b6 XW2 [] 200 188 [.int .u64 x] [false,true,false] =some (e1v 16 (f16 x),[p1s (f16 x),decide (f16 x>=256)=false,decide (x>=65536)=true,decide (x>=4294967296)=false]):=by kernel_rfl
theorem b2j:b6 XW2 [] 200 188 [.int .u64 x] [false,false,true] =some (e1v 8 (f8 x),[p1s (f8 x),decide (x>=256)=true,decide (x>=65536)=false,decide (x>=4294967296)=false]):=by kernel_rfl
theorem c2f:b6 XW2 [] 200 188 [.int .u64 x] [false,false,false] =some (e1v 0 x,[p1s x,decide (x>=256)=false,decide (x>=65536)=false,decide (x>=4294967296)=false]):=by kernel_rfl
end
theorem bS {k n m:Nat} (hn:n < 256) (h:k+bl n=m) (hm:m<=64):e1v k n= .int .i64 m:=by
 unfold e1v
 have e:IntKind.u8.wrap (n:Int)=n:=by
  have:=IntKind.wrap_u8 (n:Int)
  omega
 rw [e,i8,t2i n hn,n7 (by omega)]
 have:=n7 (n:=k+bl n) (by omega)
 congr 1
 rw [<- h]
 simpa using this
theorem cW {n:Nat} (hn:n < 256):p1s n:=by
 unfold p1s
 have e:IntKind.u8.wrap (n:Int)=n:=by
  have:=IntKind.wrap_u8 (n:Int)
  omega
 rw [e]
 omega
theorem a1z (n:Nat) (h:n < W64):Pure zO7 J0 188 [.int .u64 n] (.int .i64 (bl n)):=by
 have h:n < 18446744073709551616:=h
 have e32:f32 n=((n/4294967296:Nat):Int):=by unfold f32; rw [aV _ (by omega)]; omega
 have e16:∀ m:Nat,f16 m=((m/65536:Nat):Int):=fun m=>by unfold f16; rw [aV _ (by omega)]; omega
 have e8:∀ m:Nat,f8 m=((m/256:Nat):Int):=fun m=>by unfold f8; rw [aV _ (by omega)]; omega
 have s32:4294967296<=n->bl n=32+bl (n/4294967296):=fun h=>qK (k:=32) h
 have s16:∀ m,65536<=m->bl m=16+bl (m/65536):=fun m h=>qK (k:=16) h
 have s8:∀ m,256<=m->bl m=8+bl (m/256):=fun m h=>qK (k:=8) h
 have hb:bl n<=64:=bl_le.2 h
 by_cases h1:4294967296<=n
 ·have q1:=s32 h1
  by_cases h2:65536<=n/4294967296
  ·have q2:=s16 _ h2
   by_cases h3:256<=n/4294967296/65536
   ·have q3:=s8 _ h3
    have:=g2q n
    rw [e32,e16,e8] at this
    rw [bS (k:=56) (m:=bl n) (by omega) (by omega) hb] at this
    exact d6 Y0 10 [] _ this ⟨cW (by omega),by simp; omega,by simp; omega,by simp; omega,a7⟩
   ·have:=a2o n
    rw [e32,e16] at this
    rw [bS (k:=48) (m:=bl n) (by omega) (by omega) hb] at this
    exact d6 Y0 10 [] _ this ⟨cW (by omega),by simp; omega,by simp; omega,by simp; omega,a7⟩
  ·by_cases h3:256<=n/4294967296
   ·have q3:=s8 _ h3
    have:=i2g n
    rw [e32,e8] at this
    rw [bS (k:=40) (m:=bl n) (by omega) (by omega) hb] at this
    exact d6 Y0 10 [] _ this ⟨cW (by omega),by simp; omega,by simp; omega,by simp; omega,a7⟩
   ·have:=h2y n
    rw [e32] at this
    rw [bS (k:=32) (m:=bl n) (by omega) (by omega) hb] at this
    exact d6 Y0 10 [] _ this ⟨cW (by omega),by simp; omega,by simp; omega,by simp; omega,a7⟩
 ·by_cases h2:65536<=n
  ·have q2:=s16 _ h2
   by_cases h3:256<=n/65536
   ·have q3:=s8 _ h3
    have:=d2r n
    rw [e16,e8] at this
    rw [bS (k:=24) (m:=bl n) (by omega) (by omega) hb] at this
    exact d6 Y0 10 [] _ this ⟨cW (by omega),by simp; omega,by simp; omega,by simp; omega,a7⟩
   ·have:=i2q n
    rw [e16] at this
    rw [bS (k:=16) (m:=bl n) (by omega) (by omega) hb] at this
    exact d6 Y0 10 [] _ this ⟨cW (by omega),by simp; omega,by simp; omega,by simp; omega,a7⟩
  ·by_cases h3:256<=n
   ·have q3:=s8 _ h3
    have:=b2j n
    rw [e8] at this
    rw [bS (k:=8) (m:=bl n) (by omega) (by omega) hb] at this
    exact d6 Y0 10 [] _ this ⟨cW (by omega),by simp; omega,by simp; omega,by simp; omega,a7⟩
   ·have:=c2f n
    rw [show e1v 0 n= .int .i64 (bl n) from bS (k:=0) (m:=bl n) (by omega) (by omega) hb] at this
    exact d6 Y0 10 [] _ this ⟨cW (by omega),by simp; omega,by simp; omega,by simp; omega,a7⟩
def G9 (x:Int):Int:=((bl x.toNat:Nat):Int)
def sB:List Value->Option (Value×List Prop)
 | [.int .u64 x] =>some (.int .i64 (G9 x),[0<=x∧x < 18446744073709551616])
 | _=>none
theorem k0a (args:List Value) (v:Value) (l:List Prop) (h:sB args=some (v,l)) (hl:d9 l):Pure zO7 J0 188 args v:=by
 unfold sB at h
 split at h
 case h_2=>cases h
 rename_i x
 cases h
 obtain⟨h1,h2⟩:=hl.1
 have:=a1z x.toNat (by show x.toNat < 18446744073709551616; omega)
 rw [W3 h1] at this
 exact this
def i2j:Tab:=l5 188 sB b2r
theorem w0a:Q0 zO7 J0 i2j:=b7 k0a t0x
def bW3:Base:=⟨zO7,J0,false,i2j,k0h,200,I6⟩
theorem nY:BaseOk bW3:=⟨progOk,w0a,lA,m0⟩
abbrev XW3:Cx:=bW3.cx 10
def r0g:Code:=D3 zO7 192 0
def p0b:Code:=D3 zO7 192 1
def TD1 (y s yn1 yn0 un32 un10 un1 un0 q r:Int):St:=⟨only 135 [(2, .int .u64 y),(8, .int .u64 s),(9, .int .u64 yn1),(10, .int .u64 yn0),(11, .int .u64 un32),(12, .int .u64 un10),(13, .int .u64 un1),(14, .int .u64 un0),(15, .int .u64 q),(16, .int .u64 r)],[],11,[],[],0,none,[],11⟩
def TE1 (y s yn1 yn0 un32 un10 un1 un0 q:Int):St:=⟨only 135 [(2, .int .u64 y),(8, .int .u64 s),(9, .int .u64 yn1),(10, .int .u64 yn0),(11, .int .u64 un32),(12, .int .u64 un10),(13, .int .u64 un1),(14, .int .u64 un0),(15, .int .u64 q)],[],11,[],[],0,none,[],11⟩
def TD2 (y s yn1 yn0 un0 q1 un21 q r:Int):St:=⟨only 135 [(2, .int .u64 y),(8, .int .u64 s),(9, .int .u64 yn1),(10, .int .u64 yn0),(14, .int .u64 un0),(15, .int .u64 q1),(16, .int .u64 r),(17, .int .u64 un21),(18, .int .u64 q)],[],11,[],[],0,none,[],11⟩
def TE2 (y s yn1 yn0 un0 q1 un21 q:Int):St:=⟨only 135 [(2, .int .u64 y),(8, .int .u64 s),(9, .int .u64 yn1),(10, .int .u64 yn0),(14, .int .u64 un0),(15, .int .u64 q1),(17, .int .u64 un21),(18, .int .u64 q)],[],11,[],[],0,none,[],11⟩
def S1 (hi lo y:Int):St:=u9 XW3 200 192 [.int .u64 hi, .int .u64 lo, .int .u64 y] J0.tabs 11 [false,false,false]
def dC (yn0 u q r:Int):Bool:=match decide (q>=4294967296) with
 | true=>true
 | false=>decide (uI.wrap (q*yn0) > uI.wrap (uI.wrap (4294967296*r)+u))
section
variable (y s yn1 yn0 un32 un10 un1 un0 q r q1 un21:Int)
theorem q1l (h:dC yn0 un1 q r=true) (h2:decide ((4294967296:Int)<=uI.wrap (r+yn1))=true):u7 XW3 r0g (TD1 y s yn1 yn0 un32 un10 un1 un0 q r) (.exit 0) (TE1 y s yn1 yn0 un32 un10 un1 un0 (uI.wrap (q-1))):=
 stp nY 10 progOk.mixed [true,true] [] (l:=[decide ((4294967296:Int)<=uI.wrap (r+yn1))=true,dC yn0 un1 q r=true]) (by kernel_rfl) ⟨h2,h,a7⟩
theorem f2m (h:dC yn0 un1 q r=true) (h2:decide ((4294967296:Int)<=uI.wrap (r+yn1))=false):u7 XW3 r0g (TD1 y s yn1 yn0 un32 un10 un1 un0 q r) .normal (TD1 y s yn1 yn0 un32 un10 un1 un0 (uI.wrap (q-1)) (uI.wrap (r+yn1))):=
 stp nY 10 progOk.mixed [true,false] [] (l:=[decide ((4294967296:Int)<=uI.wrap (r+yn1))=false,dC yn0 un1 q r=true]) (by kernel_rfl) ⟨h2,h,a7⟩
theorem l2w (h:dC yn0 un1 q r=false):u7 XW3 r0g (TD1 y s yn1 yn0 un32 un10 un1 un0 q r) (.exit 0) (TE1 y s yn1 yn0 un32 un10 un1 un0 q):=
 stp nY 10 progOk.mixed [false] [] (l:=[dC yn0 un1 q r=false]) (by kernel_rfl) ⟨h,a7⟩
theorem r1w (h:dC yn0 un0 q r=true) (h2:decide ((4294967296:Int)<=uI.wrap (r+yn1))=true):u7 XW3 p0b (TD2 y s yn1 yn0 un0 q1 un21 q r) (.exit 2) (TE2 y s yn1 yn0 un0 q1 un21 (uI.wrap (q-1))):=
 stp nY 10 progOk.mixed [true,true] [] (l:=[decide ((4294967296:Int)<=uI.wrap (r+yn1))=true,dC yn0 un0 q r=true]) (by kernel_rfl) ⟨h2,h,a7⟩
theorem c2y (h:dC yn0 un0 q r=true) (h2:decide ((4294967296:Int)<=uI.wrap (r+yn1))=false):u7 XW3 p0b (TD2 y s yn1 yn0 un0 q1 un21 q r) .normal (TD2 y s yn1 yn0 un0 q1 un21 (uI.wrap (q-1)) (uI.wrap (r+yn1))):=
 stp nY 10 progOk.mixed [true,false] [] (l:=[decide ((4294967296:Int)<=uI.wrap (r+yn1))=false,dC yn0 un0 q r=true]) (by kernel_rfl) ⟨h2,h,a7⟩
theorem n2t (h:dC yn0 un0 q r=false):u7 XW3 p0b (TD2 y s yn1 yn0 un0 q1 un21 q r) (.exit 2) (TE2 y s yn1 yn0 un0 q1 un21 q):=
 stp nY 10 progOk.mixed [false] [] (l:=[dC yn0 un0 q r=false]) (by kernel_rfl) ⟨h,a7⟩
end
def dS (y:Int):Int:=uI.wrap (iI.wrap (64-G9 y))
def dSh (x s:Int):Int:=uI.wrap (x*2 ^(min s.toNat 64))
def dHi (x:Int):Int:=x.fdiv 4294967296
def dLo (x:Int):Int:=bits .and .u64 x 4294967295
def dU (hi lo s:Int):Int:=bits .or .u64 (dSh hi s) (lo.fdiv (2 ^(min (uI.wrap (64-s)).toNat 64)))
def dQ (u v:Int):Int:=uI.wrap (u.tdiv v)
def dR (u v:Int):Int:=uI.wrap (u-uI.wrap (dQ u v*v))
def dN (u a q y:Int):Int:=uI.wrap (uI.wrap (uI.wrap (u*4294967296)+a)-uI.wrap (q*y))
section
variable (hi lo y s q yv yn1 yn0 un32 un10 un1 un0 q1 un21 q0:Int)
theorem c2x (x:AX) (s':St) (h:d5 XW3 r0g (TD1 (dSh y (dS y)) (dS y) (dHi (dSh y (dS y))) (dLo (dSh y (dS y))) (dU hi lo (dS y)) (dSh lo (dS y)) (dHi (dSh lo (dS y))) (dLo (dSh lo (dS y))) (dQ (dU hi lo (dS y)) (dHi (dSh y (dS y)))) (dR (dU hi lo (dS y)) (dHi (dSh y (dS y))))) x s'):
  d5 XW3 r0g (S1 hi lo y) x s':=m6 h []
end
def k2l (f:Nat):Code:=match p1r zO7.funcs.toList f with
 | some fn=>match fn.body with
  | some c=>c
  | none=> .skip
 | none=> .skip
def S2 (hi lo y:Int) (e:St):St:=match E5 XW3 [X4 (.exit 0) (fun _=>e),fun s=>some (.exit 1000000,s)] 200 (k2l 192) ⟨([.int .u64 hi, .int .u64 lo, .int .u64 y] :List Value).map .v++zO6 132 (.v undef),J0.tabs,11,[false,false,false],[],0,none,[],11⟩ with
 | some (_,s)=>s.core
 | none=>e
theorem q1v (hi lo y:Int):b6 XW3 [] 200 192 [.int .u64 hi, .int .u64 lo, .int .u64 y] [false,false,true] =some (Value.tuple { toList:=[zO3 uI (uI.wrap (lo.tdiv y)),zO3 uI (lo.tmod y)]},[y=0->False,y=0->False,(hi==zO2 0)=true,decide (y<=hi)=false,(y==zO2 0)=false]):=by kernel_rfl
theorem b2w (hi lo y yv s yn1 yn0 un32 un10 un1 un0 q1 un21 q0:Int):b6 XW3 [X4 (.exit 0) (fun _=>TE1 yv s yn1 yn0 un32 un10 un1 un0 q1),X4 (.exit 2) (fun _=>TE2 yv s yn1 yn0 un0 q1 un21 q0)] 200 192 [.int .u64 hi, .int .u64 lo, .int .u64 y] [false,false,false] =some (Value.tuple { toList:=[zO3 uI (uI.wrap (uI.wrap (q1*zO2 4294967296)+q0)),zO3 uI ((uI.wrap (uI.wrap (uI.wrap (un21*zO2 4294967296)+un0)-uI.wrap (q0*yv))).fdiv (zO2 (2 ^min s.toNat 64)))]},[zO2 0<=s,d5 XW3 p0b (S2 hi lo y (TE1 yv s yn1 yn0 un32 un10 un1 un0 q1)) (.exit 2) (TE2 yv s yn1 yn0 un0 q1 un21 q0),yn1=0->False,d5 XW3 r0g (S1 hi lo y) (.exit 0) (TE1 yv s yn1 yn0 un32 un10 un1 un0 q1),(uI.wrap (y*2 ^min (uI.wrap (iI.wrap (64-G9 y))).toNat uI.bits)).fdiv (2 ^min (Int.toNat 32) uI.bits)=0->False,zO2 0<=uI.wrap (iI.wrap (zO2 64-G9 y)),zO2 0<=uI.wrap (zO2 64-uI.wrap (iI.wrap (zO2 64-G9 y))),zO2 0<=uI.wrap (iI.wrap (zO2 64-G9 y)),zO2 0<=uI.wrap (iI.wrap (zO2 64-G9 y)),zO2 0<=y∧y < zO2 18446744073709551616,(hi==zO2 0)=false,decide (y<=hi)=false,(y==zO2 0)=false]):=by kernel_rfl
theorem c2o (hi lo y yv s yn1 yn0 un32 un10 un1 un0 q1:Int) (x:AX) (s':St) (h:d5 XW3 p0b (TD2 yv s yn1 yn0 un0 q1 (dN un32 un1 q1 yv) (dQ (dN un32 un1 q1 yv) yn1) (dR (dN un32 un1 q1 yv) yn1)) x s'):
  d5 XW3 p0b (S2 hi lo y (TE1 yv s yn1 yn0 un32 un10 un1 un0 q1)) x s':=m6 h []
theorem cR {n:Nat} (h:n < 18446744073709551616):uI.wrap (n:Int)=n:=by
 have:=O3 (n:Int)
 omega
theorem o2z {X:Cx} {c:Code} {x:AX} (hx:x≠ .normal) (S:Int->Int->St) (E:Int->St) {Y y1 y0 U u:Nat} (hY:Y=y1*4294967296+y0) (h1:2147483648<=y1) (h2:y1 < 4294967296) (h3:y0 < 4294967296) (hU:U < Y) (hu:u < 4294967296)
  (s1:∀ q r:Int,dC y0 u q r=true->decide ((4294967296:Int)<=uI.wrap (r+(y1:Int)))=true->u7 X c (S q r) x (E (uI.wrap (q-1))))
  (s2:∀ q r:Int,dC y0 u q r=true->decide ((4294967296:Int)<=uI.wrap (r+(y1:Int)))=false->u7 X c (S q r) .normal (S (uI.wrap (q-1)) (uI.wrap (r+(y1:Int)))))
  (s3:∀ q r:Int,dC y0 u q r=false->u7 X c (S q r) x (E q)):
  d5 X c (S ((U/y1:Nat):Int) ((U%y1:Nat):Int)) x (E (((U*4294967296+u)/Y:Nat):Int)):=by
 have hYp:0 < Y:=by omega
 have hT:∀ q:Nat,q*Y<=U*4294967296+u↔q<=(U*4294967296+u)/Y:=fun q=>(bW hYp).symm
 have hTB:(U*4294967296+u)/Y < 4294967296:=by
  rw [F6 hYp]
  have:(U+1)*4294967296<=Y*4294967296:=o9 _ hU
  omega
 have hT0:∀ q:Nat,U*4294967296+u < (q+1)*Y->(U*4294967296+u)/Y<=q:=fun q h=>by
  have:=(F6 hYp).2 h
  omega
 generalize (U*4294967296+u)/Y=t at*
 have hmul:∀ q:Nat,q*Y=q*y1*4294967296+q*y0:=fun q=>by rw [hY,O6,f9]
 have e0:U-U/y1*y1=U%y1:=by
  have hd:=Y1 U y1
  rw [n4] at hd
  omega
 rw [<- e0]
 refine G3 (fun q:Nat=>S q ((U-q*y1:Nat):Int)) id (fun q=>t<=q∧q*y1<=U∧U-q*y1 < 4294967296) hx (fun q hq=> ?_) (U/y1) ?_
 ·obtain⟨g1,g2,g3⟩:=hq
  have hle:q<=4294967300:=by
   rcases E0 4294967300 q with h | h
   ·have:4294967301*y1<=q*y1:=o9 _ h
    omega
   ·exact h
  have em:=hmul q
  have hqt:=hT q
  generalize hm:q*y1=m at*
  have hq0:q < 4294967296->q*y0 < 18446744073709551616:=fun h=>by
   have:q*y0<=4294967295*4294967295:=c1a (by omega) (by omega)
   omega
  have hwr:uI.wrap (uI.wrap (4294967296*((U-m:Nat):Int))+(u:Int))=((4294967296*(U-m)+u:Nat):Int):=by
   have e1:(4294967296:Int)*((U-m:Nat):Int)=((4294967296*(U-m):Nat):Int):=by omega
   rw [e1,cR (by omega)]
   have e2:((4294967296*(U-m):Nat):Int)+(u:Int)=((4294967296*(U-m)+u:Nat):Int):=by omega
   rw [e2,cR (by omega)]
  have hc:dC y0 u (q:Int) ((U-m:Nat):Int)=true↔t < q:=by
   unfold dC
   by_cases hb:4294967296<=q
   ·have:decide ((q:Int)>=4294967296)=true:=by simp; omega
    rw [this]
    simp only [true_iff]
    omega
   ·have:decide ((q:Int)>=4294967296)=false:=by simp; omega
    rw [this,hwr]
    have e3:(q:Int)*(y0:Int)=((q*y0:Nat):Int):=by rw [dE]
    rw [e3,cR (hq0 (by omega))]
    simp only [aO]
    omega
  by_cases hcond:dC y0 u (q:Int) ((U-m:Nat):Int)=true
  ·have hlt:=hc.1 hcond
   have ew:uI.wrap ((q:Int)-1)=((q-1:Nat):Int):=by
    have:(q:Int)-1=((q-1:Nat):Int):=by omega
    rw [this,cR (by omega)]
   have er:uI.wrap (((U-m:Nat):Int)+(y1:Int))=((U-m+y1:Nat):Int):=by
    have:((U-m:Nat):Int)+(y1:Int)=((U-m+y1:Nat):Int):=by omega
    rw [this,cR (by omega)]
   have hm1:(q-1)*y1+y1=m:=by
    rw [<- hm,<- Nat.succ_mul]
    congr 1
    omega
   have em1:=hmul (q-1)
   have hqt1:=hT (q-1)
   generalize hm2:(q-1)*y1=m1 at*
   by_cases hbr:4294967296<=U-m+y1
   ·right
    have:=s1 q ((U-m:Nat):Int) hcond (by rw [er]; simp only [aO]; omega)
    rw [ew] at this
    have hqB:q-1 < 4294967296:=by
     rcases E0 (q-1) 4294967296 with h | h
     ·exact h
     ·have:4294967296*y1<=(q-1)*y1:=o9 _ h
      omega
    have hq1:(q-1)*y0<=4294967295*4294967295:=c1a (by omega) (by omega)
    have he:q-1=t:=by
     apply yN
     ·rw [<- hqt1]
      omega
     ·omega
    rw [<- he]
    exact this
   ·left
    have:=s2 q ((U-m:Nat):Int) hcond (by rw [er]; simp only [m0g]; omega)
    rw [ew,er] at this
    refine⟨q-1,⟨by omega,by rw [hm2]; omega,by rw [hm2]; omega⟩,by simp only [id]; omega,?_⟩
    rw [hm2]
    have e:U-m1=U-m+y1:=by omega
    rw [e]
    exact this
  ·right
   have hcond':dC y0 u (q:Int) ((U-m:Nat):Int)=false:=by simpa using hcond
   have he:q=t:=by
    have:¬ t < q:=fun h=>hcond (hc.2 h)
    omega
   rw [<- he]
   exact s3 q _ hcond'
 ·have hd:=Y1 U y1
  have hmd:U%y1 < y1:=B0 _ (by omega)
  rw [n4] at hd
  refine⟨?_,by omega,by omega⟩
  refine hT0 _ ?_
  have:(U*4294967296+u) < (U/y1+1)*Y:=by
   have e:=hmul (U/y1+1)
   have e2:(U/y1+1)*y1=U/y1*y1+y1:=by rw [u4,V1]
   omega
  exact this
theorem p0q (n:Nat):dHi n=((n/4294967296:Nat):Int):=by unfold dHi; rw [aV _ (by omega)]; omega
theorem l1p {n:Nat} (h:n < 18446744073709551616):dLo n=((n%4294967296:Nat):Int):=by
 unfold dLo
 have:=bits_and_u64_nat n 4294967295 h (by omega)
 have e:n&&& 4294967295=n%4294967296:=W2 n 32
 rw [e] at this
 exact this
theorem i1z {u v:Nat} (hu:u < 18446744073709551616):dQ u v=((u/v:Nat):Int):=by
 unfold dQ
 have:(u:Int).tdiv (v:Int)=((u/v:Nat):Int):=(m0b u v).symm
 rw [this,cR (y4 (jX u v) hu)]
theorem z1b {u v:Nat} (hu:u < 18446744073709551616) (hv:v < 18446744073709551616) (hv0:0 < v):dR u v=((u%v:Nat):Int):=by
 unfold dR
 rw [i1z hu]
 have hd:=Y1 u v
 rw [n4] at hd
 have e:((u/v:Nat):Int)*(v:Int)=((u/v*v:Nat):Int):=by rw [dE]
 have hm:=B0 u hv0
 rw [e,cR (by omega)]
 have e2:(u:Int)- ((u/v*v:Nat):Int)=((u%v:Nat):Int):=by omega
 rw [e2,cR (by omega)]
theorem z1g {u a q y r:Nat} (h:u*4294967296+a=q*y+r) (hr:r < 18446744073709551616):dN u a q y=(r:Int):=by
 unfold dN
 simp only [O3]
 have e1:(q:Int)*(y:Int)=((q*y:Nat):Int):=by rw [dE]
 rw [e1]
 generalize q*y=m at*
 omega
theorem r0o {x s:Nat} (hs:s<=64):dSh x s=((x*2 ^s%18446744073709551616:Nat):Int):=by
 unfold dSh
 rw [i8,B2 hs,O3]
 have:(x:Int)*2 ^s=((x*2 ^s:Nat):Int):=by rw [dE,fJ]; rfl
 rw [this]
 omega
theorem n2b {hi lo s:Nat} (hs:s<=64) (h1:hi*2 ^s < 18446744073709551616) (h2:lo < 18446744073709551616):dU hi lo s=((hi*2 ^s+lo/2 ^(64-s):Nat):Int):=by
 unfold dU
 rw [r0o hs,H3 h1]
 have e1:uI.wrap (64- (s:Int))=((64-s:Nat):Int):=by
  have:(64:Int)- (s:Int)=((64-s:Nat):Int):=by omega
  rw [this,cR (by omega)]
 have e2:(lo:Int).fdiv (2 ^(min (uI.wrap (64- (s:Int))).toNat 64))=((lo/2 ^(64-s):Nat):Int):=by
  rw [e1,i8,B2 (by omega),aV _ (by
   have:(0:Int) < 2 ^(64-s):=Int.pow_pos (by decide)
   omega),Int.natCast_ediv,fJ]
  rfl
 rw [e2]
 have hlt:lo/2 ^(64-s) < 2 ^s:=by
  rw [F6 (F7 _),<- i7]
  have:s+(64-s)=64:=by omega
  rw [this]
  exact h2
 have hlt2:lo/2 ^(64-s) < 18446744073709551616:=y4 (jX _ _) h2
 rw [bits_or_u64_nat _ _ h1 hlt2]
 have:=m0p hlt hi
 rw [jW] at this
 rw [this]
theorem a1c {hi lo y:Nat} (h1:hi < y) (h2:lo < 18446744073709551616) (h3:y < 18446744073709551616):
  Pure zO7 J0 192 [.int .u64 hi, .int .u64 lo, .int .u64 y] (.tuple ⟨[.int .u64 (((hi*18446744073709551616+lo)/y:Nat):Int), .int .u64 (((hi*18446744073709551616+lo)%y:Nat):Int)]⟩):=by
 have hy0:0 < y:=by omega
 have d1:((y:Int)==zO2 0)=false:=by simp; omega
 have d2:decide ((y:Int)<=(hi:Int))=false:=by simp; omega
 by_cases hh:hi=0
 ·subst hh
  have:=d6 nY 10 [] _ (q1v ((0:Nat):Int) lo y) ⟨by omega,by omega,rfl,d2,d1,a7⟩
  have e1:uI.wrap ((lo:Int).tdiv (y:Int))=((lo/y:Nat):Int):=by
   have:(lo:Int).tdiv (y:Int)=((lo/y:Nat):Int):=(m0b lo y).symm
   rw [this,cR (y4 (jX _ _) h2)]
  have e2:(lo:Int).tmod (y:Int)=((lo%y:Nat):Int):=(Int.ofNat_tmod lo y).symm
  rw [e1,e2] at this
  have e3:0*18446744073709551616+lo=lo:=by omega
  rw [e3]
  exact this
 ·have hd0:((hi:Int)==zO2 0)=false:=by simp; omega
  have hbl:=bl_le.2 (show y < 2 ^64 from h3)
  have hbp:=bl_pos.2 hy0
  obtain⟨s,hs⟩:∃ s,s=64-bl y:=⟨_,rfl⟩
  have hs64:s<=64:=by omega
  have hsV:dS y=(s:Int):=by
   unfold dS G9
   rw [i8]
   have e:(64:Int)- ((bl y:Nat):Int)=(s:Int):=by omega
   rw [e,n7 (by omega),cR (by omega)]
  have hp:2 ^64=(18446744073709551616:Nat):=by decide
  have hYlt:y*2 ^s < 18446744073709551616:=by
   have:=b0h y
   have:y*2 ^s < 2 ^bl y*2 ^s:=F8 this (F7 s)
   rw [<- i7,show bl y+s=64 by omega,hp] at this
   exact this
  have hYge:9223372036854775808<=y*2 ^s:=by
   have:=z1q hy0
   have:2 ^(bl y-1)*2 ^s<=y*2 ^s:=o9 _ this
   rw [<- i7,show bl y-1+s=63 by omega] at this
   exact this
  have hyV:dSh y s=((y*2 ^s:Nat):Int):=by rw [r0o hs64,H3 hYlt]
  have hhiS:hi*2 ^s+2 ^s<=y*2 ^s:=by
   have:(hi+1)*2 ^s<=y*2 ^s:=o9 _ h1
   rw [u4,V1] at this
   exact this
  have hloS:lo/2 ^(64-s) < 2 ^s:=by
   rw [F6 (F7 _),<- i7,show s+(64-s)=64 by omega]
   exact h2
  have hU:dU hi lo s=((hi*2 ^s+lo/2 ^(64-s):Nat):Int):=n2b hs64 (y4 (fH _ _) (y4 hhiS hYlt)) h2
  have hL:dSh lo s=((lo*2 ^s%18446744073709551616:Nat):Int):=r0o hs64
  have hN:(hi*18446744073709551616+lo)*2 ^s=(hi*2 ^s+lo/2 ^(64-s))*18446744073709551616+lo*2 ^s%18446744073709551616:=by
   have e1:lo*2 ^s/18446744073709551616=lo/2 ^(64-s):=by
    have:(18446744073709551616:Nat)=2 ^(64-s)*2 ^s:=by rw [<- i7,show 64-s+s=64 by omega]
    rw [this,jQ _ _ (F7 s)]
   have:=Y1 (lo*2 ^s) 18446744073709551616
   rw [e1] at this
   rw [u4,u4,J1]
   omega
  generalize hYe:y*2 ^s=Y at*
  generalize hUe:hi*2 ^s+lo/2 ^(64-s)=U at*
  generalize hLe:lo*2 ^s%18446744073709551616=L at*
  have hLlt:L < 18446744073709551616:=by rw [<- hLe]; exact B0 _ (by decide)
  have hUY:U < Y:=by omega
  have hY1:Y=Y/4294967296*4294967296+Y%4294967296:=by omega
  have L1:=o2z (X:=XW3) (c:=r0g) (x:= .exit 0) (by intro e; cases e) (fun q r=>TD1 Y s (Y/4294967296:Nat) (Y%4294967296:Nat) U L (L/4294967296:Nat) (L%4294967296:Nat) q r) (fun q=>TE1 Y s (Y/4294967296:Nat) (Y%4294967296:Nat) U L (L/4294967296:Nat) (L%4294967296:Nat) q)
   (Y:=Y) (y1:=Y/4294967296) (y0:=Y%4294967296) (U:=U) (u:=L/4294967296) hY1 (by omega) (by omega) (by omega) hUY (by omega) (fun q r=>q1l _ _ _ _ _ _ _ _ q r) (fun q r=>f2m _ _ _ _ _ _ _ _ q r) (fun q r=>l2w _ _ _ _ _ _ _ _ q r)
  have hq1:(U*4294967296+L/4294967296)/Y*Y+(U*4294967296+L/4294967296)%Y=U*4294967296+L/4294967296:=by
   have:=Y1 (U*4294967296+L/4294967296) Y
   rw [n4] at this
   exact this
  have hR1:(U*4294967296+L/4294967296)%Y < Y:=B0 _ (by omega)
  have hT1:(U*4294967296+L/4294967296)/Y < 4294967296:=by
   rw [F6 (by omega)]
   have:(U+1)*4294967296<=Y*4294967296:=o9 _ hUY
   omega
  obtain⟨q1,hq1e⟩:∃ q1,q1=(U*4294967296+L/4294967296)/Y:=⟨_,rfl⟩
  obtain⟨R1,hR1e⟩:∃ R1,R1=(U*4294967296+L/4294967296)%Y:=⟨_,rfl⟩
  rw [<- hq1e] at L1 hq1 hT1
  rw [<- hR1e] at hq1 hR1
  have L2:=o2z (X:=XW3) (c:=p0b) (x:= .exit 2) (by intro e; cases e) (fun q r=>TD2 Y s (Y/4294967296:Nat) (Y%4294967296:Nat) (L%4294967296:Nat) q1 R1 q r) (fun q=>TE2 Y s (Y/4294967296:Nat) (Y%4294967296:Nat) (L%4294967296:Nat) q1 R1 q)
   (Y:=Y) (y1:=Y/4294967296) (y0:=Y%4294967296) (U:=R1) (u:=L%4294967296) hY1 (by omega) (by omega) (by omega) hR1 (by omega) (fun q r=>r1w _ _ _ _ _ q r _ _) (fun q r=>c2y _ _ _ _ _ q r _ _) (fun q r=>n2t _ _ _ _ _ q r _ _)
  have hq0:(R1*4294967296+L%4294967296)/Y*Y+(R1*4294967296+L%4294967296)%Y=R1*4294967296+L%4294967296:=by
   have:=Y1 (R1*4294967296+L%4294967296) Y
   rw [n4] at this
   exact this
  have hR0:(R1*4294967296+L%4294967296)%Y < Y:=B0 _ (by omega)
  have hT0:(R1*4294967296+L%4294967296)/Y < 4294967296:=by
   rw [F6 (by omega)]
   have:(R1+1)*4294967296<=Y*4294967296:=o9 _ hR1
   omega
  obtain⟨q0,hq0e⟩:∃ q0,q0=(R1*4294967296+L%4294967296)/Y:=⟨_,rfl⟩
  obtain⟨R0,hR0e⟩:∃ R0,R0=(R1*4294967296+L%4294967296)%Y:=⟨_,rfl⟩
  rw [<- hq0e] at L2 hq0 hT0
  rw [<- hR0e] at hq0 hR0
  have hall:(hi*18446744073709551616+lo)*2 ^s=(q1*4294967296+q0)*Y+R0:=by
   rw [hN,u4,J1]
   omega
  have hres:(hi*18446744073709551616+lo)/y=q1*4294967296+q0∧R0=(hi*18446744073709551616+lo)%y*2 ^s:=by
   have e1:(hi*18446744073709551616+lo)*2 ^s/ (y*2 ^s)=(hi*18446744073709551616+lo)/y:=jQ _ _ (F7 s)
   have e2:(hi*18446744073709551616+lo)*2 ^s%(y*2 ^s)=(hi*18446744073709551616+lo)%y*2 ^s:=oF _ _ _
   have hall':(hi*18446744073709551616+lo)*2 ^s=Y*(q1*4294967296+q0)+R0:=by rw [hall,n4 Y]
   have hY0:0 < Y:=by omega
   rw [hYe,hall'] at e1 e2
   rw [Nat.mul_add_div hY0,uE hR0,E4] at e1
   rw [Nat.mul_add_mod,H3 hR0] at e2
   exact⟨e1.symm,e2⟩
  have hin1:=c2x hi lo y (.exit 0) (TE1 Y s (Y/4294967296:Nat) (Y%4294967296:Nat) U L (L/4294967296:Nat) (L%4294967296:Nat) q1) (by
   rw [hsV,hyV,hU,hL,p0q,l1p hYlt,p0q,l1p hLlt,i1z (by omega),z1b (by omega) (by omega) (by omega)]
   exact L1)
  have hdn:dN U (L/4294967296:Nat) q1 Y=(R1:Int):=z1g hq1.symm (by omega)
  have hin2:=c2o hi lo y Y s (Y/4294967296:Nat) (Y%4294967296:Nat) U L (L/4294967296:Nat) (L%4294967296:Nat) q1 (.exit 2) (TE2 Y s (Y/4294967296:Nat) (Y%4294967296:Nat) (L%4294967296:Nat) q1 R1 q0) (by
   rw [hdn,i1z (by omega),z1b (by omega) (by omega) (by omega)]
   exact L2)
  have hyn1:(uI.wrap ((y:Int)*2 ^min (uI.wrap (iI.wrap (64-G9 y))).toNat uI.bits)).fdiv (2 ^min (Int.toNat 32) uI.bits)=((Y/4294967296:Nat):Int):=by
   have:dHi (dSh y (dS y))=((Y/4294967296:Nat):Int):=by rw [hsV,hyV,p0q]
   exact this
  have hsx:zO2 0<=uI.wrap (iI.wrap (zO2 64-G9 y)):=by
   have:dS y=(s:Int):=hsV
   show (0:Int)<=dS y
   omega
  have hsx2:zO2 0<=uI.wrap (zO2 64-uI.wrap (iI.wrap (zO2 64-G9 y))):=by
   show (0:Int)<=uI.wrap (64-dS y)
   rw [hsV]
   have:=O3 (64- (s:Int))
   omega
  have:=d6 nY 10 _ _ (b2w hi lo y Y s (Y/4294967296:Nat) (Y%4294967296:Nat) U L (L/4294967296:Nat) (L%4294967296:Nat) q1 R1 q0) ⟨by simp,hin2,by omega,hin1,by rw [hyn1]; omega,hsx,hsx2,hsx,hsx,⟨by simp,by simp only [y3]; omega⟩,hd0,d2,d1,a7⟩
  have f1:uI.wrap (uI.wrap ((q1:Int)*zO2 4294967296)+(q0:Int))=(((hi*18446744073709551616+lo)/y:Nat):Int):=by
   rw [hres.1]
   simp only [O3,y3]
   omega
  have f2:(uI.wrap (uI.wrap (uI.wrap ((R1:Int)*zO2 4294967296)+((L%4294967296:Nat):Int))-uI.wrap ((q0:Int)*(Y:Int)))).fdiv (zO2 (2 ^min (s:Int).toNat 64))=(((hi*18446744073709551616+lo)%y:Nat):Int):=by
   have e:dN R1 (L%4294967296:Nat) q0 Y=(R0:Int):=z1g hq0.symm (by omega)
   have e':uI.wrap (uI.wrap (uI.wrap ((R1:Int)*zO2 4294967296)+((L%4294967296:Nat):Int))-uI.wrap ((q0:Int)*(Y:Int)))=(R0:Int):=e
   rw [e',i8,B2 hs64,aV (R0:Int) (show (0:Int)<=zO2 (2 ^s) from y9 _),hres.2]
   have:=m0a ((hi*18446744073709551616+lo)%y) (F7 s)
   show (((hi*18446744073709551616+lo)%y*2 ^s:Nat):Int)/ ((2 ^s:Nat):Int)=_
   rw [<- Int.natCast_ediv,this]
  rw [f1,f2] at this
  exact this
def i2u (hi lo y:Int):Int:=(((hi.toNat*18446744073709551616+lo.toNat)/y.toNat:Nat):Int)
def q2l (hi lo y:Int):Int:=(((hi.toNat*18446744073709551616+lo.toNat)%y.toNat:Nat):Int)
def vM:List Value->Option (Value×List Prop)
 | [.int .u64 hi, .int .u64 lo, .int .u64 y] =>some (.tuple ⟨[.int .u64 (i2u hi lo y), .int .u64 (q2l hi lo y)]⟩,[(0<=hi∧hi < y)∧(0<=lo∧lo < 18446744073709551616)∧y < 18446744073709551616])
 | _=>none
theorem nO (args:List Value) (v:Value) (l:List Prop) (h:vM args=some (v,l)) (hl:d9 l):Pure zO7 J0 192 args v:=by
 unfold vM at h
 split at h
 case h_2=>cases h
 rename_i hi lo y
 cases h
 obtain⟨⟨h1,h2⟩,⟨h3,h4⟩,h5⟩:=hl.1
 have:=a1c (hi:=hi.toNat) (lo:=lo.toNat) (y:=y.toNat) (by omega) (by omega) (by omega)
 rw [W3 h1,W3 h3,W3 (by omega:0<=y)] at this
 exact this
def a1l:Tab:=l5 192 vM i2j
theorem jL:Q0 zO7 J0 a1l:=b7 nO w0a
def bW4:Base:=⟨zO7,J0,false,a1l,k0h,200,I6⟩
theorem Y3:BaseOk bW4:=⟨progOk,jL,lA,m0⟩
abbrev XW4:Cx:=bW4.cx 10
def i2m:Code:=D3 zO7 145 0
def d1e (a:Bool) (xs L:List Int) (na N:Nat) (d r i:Int):St:=
 ⟨only 38 [(1, .int .u64 d),(2, .pointer (some ⟨13,0,none⟩)),(4, .pointer (some ⟨14,0,none⟩)),(6,slV 15 N),(7, .int .u64 r),(8, .int .i64 i)],[(15, .row Z8 1 (.ints .u64 L) 16),(14, .cells [.bool false, .slice none 0 0] rB),(13, .cells [.bool a,slV 11 na] rB),(11, .ints .u64 xs)],17,[],[],0,none,[],13⟩
theorem v1i (a:Bool) (xs L:List Int) (na N:Nat) (d r i:Int) (hl:d9 [i.toNat < L.length,(zO2 0<=i∧i < zO2 N)∧0 < L.length,(zO2 0<=r∧r < d)∧(zO2 0<=xs.getD i.toNat (zO2 0)∧xs.getD i.toNat (zO2 0) < zO2 18446744073709551616)∧d < zO2 18446744073709551616,i.toNat < xs.length,(zO2 0<=i∧i < zO2 na)∧0 < xs.length,decide (zO2 0<=i)=true]):u7 XW4 i2m (d1e a xs L na N d r i) .normal (d1e a xs (gU L i.toNat (i2u r (xs.getD i.toNat 0) d)) na N d (q2l r (xs.getD i.toNat 0) d) (iI.wrap (i-1))):=
 stp Y3 10 progOk.mixed [true] [] (by kernel_rfl) hl
theorem f2w (a:Bool) (xs L:List Int) (na N:Nat) (d r i:Int) (hl:d9 [decide (zO2 0<=i)=false]):u7 XW4 i2m (d1e a xs L na N d r i) (.exit 0) (d1e a xs L na N d r i):=
 stp Y3 10 progOk.mixed [false] [] (by kernel_rfl) hl
theorem c2g (a s:Bool) (xs L R:List Int) (na N:Nat) (d r i q:Int):A7 XW4 [X4 (.exit 0) (fun _=>d1e a xs L na N d r i)] 200 145 [iL a xs,uR d] [iL s R,uR q] [] =some [0=0∧0+N<=L.length∧L.length < 1099511627776,d5 XW4 i2m (o7 XW4 200 145 [iL a xs,uR d] []) (.exit 0) (d1e a xs L na N d r i),zO2 0<=zO2 xs.length∧zO2 xs.length=zO2 xs.length∧zO2 (8*xs.length)<=zO2 281474976710656∧zO2 xs.length<=zO2 9223372036854775807,zO8 false=zO8 s,(m9 (zO9 N L)).length=R.length∧(m9 (zO9 N L)).length<=L.length∧zO9 (m9 (zO9 N L)).length L=R,zO3 uI r=zO3 uI q] :=by kernel_rfl
theorem r1b (a:Bool) (xs:List Int) (d:Int) (x:AX) (s':St) (h:d5 XW4 i2m (d1e a xs (zO6 xs.length 0) xs.length xs.length d 0 (iI.wrap ((xs.length:Int)-1))) x s'):d5 XW4 i2m (o7 XW4 200 145 [iL a xs,uR d] []) x s':=
 m6 h []
structure ISh where
 m:Nat
 r:Nat
 L:List Int
def g2g (xs:List Int) (d:Nat) (p:ISh):Prop:=
 p.m<=xs.length∧p.L.length=xs.length∧Dg W64 p.L∧val W64 (p.L.drop p.m)=val W64 (xs.drop p.m)/d∧p.r=val W64 (xs.drop p.m)%d
theorem m0v {n:Nat} (h:n < 1099511627776):iI.wrap ((n:Int)-1)=(n:Int)-1:=by
 have:=F9 ((n:Int)-1)
 omega
theorem drop_set {l:List Int} {m:Nat} (h:m < l.length) (x:Int):(l.set m x).drop m=x ::l.drop (m+1):=by
 rw [o1u (by simpa using h)]
 congr 1
 ·simp
 ·apply j1k
  intro j
  rw [S3,S3,List.getElem?_set_ne (by omega)]
def shN (xs:List Int) (d:Nat) (p:ISh):ISh:=
 ⟨p.m-1,(p.r*18446744073709551616+(xs.getD (p.m-1) 0).toNat)%d,p.L.set (p.m-1) (((p.r*18446744073709551616+(xs.getD (p.m-1) 0).toNat)/d:Nat):Int)⟩
theorem z0h (a:Bool) {xs:List Int} (hx:Dg W64 xs) (hb:xs.length < 1099511627776) {d:Nat} (hd0:0 < d) (hd:d < W64):
  d5 XW4 i2m (d1e a xs (zO6 xs.length 0) xs.length xs.length d 0 ((xs.length:Int)-1)) (.exit 0) (d1e a xs (itr (shN xs d) xs.length ⟨xs.length,0,zO6 xs.length 0⟩).L xs.length xs.length d ((val W64 xs%d:Nat):Int) (-1))∧
  (itr (shN xs d) xs.length ⟨xs.length,0,zO6 xs.length 0⟩).L.length=xs.length∧m9 (itr (shN xs d) xs.length ⟨xs.length,0,zO6 xs.length 0⟩).L=ws W64 (val W64 xs/d):=by
 have hd':d < 18446744073709551616:=hd
 have step:∀ p:ISh,g2g xs d p->0 < p.m->g2g xs d (shN xs d p)∧u7 XW4 i2m (d1e a xs p.L xs.length xs.length d p.r ((p.m:Int)-1)) .normal (d1e a xs (shN xs d p).L xs.length xs.length d (shN xs d p).r (((shN xs d p).m:Int)-1)):=by
  intro p ⟨h1,h2,h3,h4,h5⟩ hm
  obtain⟨m,hmm⟩:∃ m,p.m=m+1:=⟨p.m-1,by omega⟩
  have hml:m < xs.length:=by omega
  have gx:=hx.get g9 m
  have hr:p.r < d:=by rw [h5]; exact B0 _ hd0
  have hW:((W64:Nat):Int)=18446744073709551616:=rfl
  rw [hW] at gx
  obtain⟨x,hxe⟩:∃ x:Nat,xs.getD m 0=(x:Int):=⟨(xs.getD m 0).toNat,by omega⟩
  have hxl:x < 18446744073709551616:=by omega
  have hq:(p.r*18446744073709551616+x)/d < 18446744073709551616:=by
   rw [F6 hd0]
   have:(p.r+1)*18446744073709551616<=d*18446744073709551616:=o9 _ hr
   rw [n4 18446744073709551616]
   omega
  have e1:i2u p.r x d=(((p.r*18446744073709551616+x)/d:Nat):Int):=by unfold i2u; rw [i8,i8,i8]
  have e2:q2l p.r x d=(((p.r*18446744073709551616+x)%d:Nat):Int):=by unfold q2l; rw [i8,i8,i8]
  have hsh:shN xs d p=⟨m,(p.r*18446744073709551616+x)%d,p.L.set m (((p.r*18446744073709551616+x)/d:Nat):Int)⟩:=by
   unfold shN
   rw [hmm,iV,hxe,i8]
  rw [hsh]
  refine⟨⟨by simp only; omega,by simp [h2],h3.set ⟨y9 _,by exact_mod_cast hq⟩ _,?_,?_⟩,?_⟩
  ·simp only
   rw [drop_set (by omega),C5 (l:=xs) (m:=m) hml,hxe]
   simp only [val,i8]
   rw [hmm] at h4 h5
   rw [h4]
   have hdm:=Y1 (val W64 (xs.drop (m+1))) d
   rw [<- h5] at hdm
   have:x+W64*val W64 (xs.drop (m+1))=(p.r*18446744073709551616+x)+d*(W64*(val W64 (xs.drop (m+1))/d)):=by
    rw [<- hdm]
    have e:(d*(val W64 (xs.drop (m+1))/d)+p.r)/d=val W64 (xs.drop (m+1))/d:=by rw [Nat.mul_add_div hd0,uE hr,E4]
    rw [e,O6,<- f9,<- f9,n4 W64 d,n4 W64 p.r]
    show _=p.r*W64+x+_
    omega
   rw [this,i0c _ _ hd0]
  ·simp only
   rw [C5 (l:=xs) (m:=m) hml,hxe]
   simp only [val,i8]
   rw [hmm] at h5
   rw [h5]
   show (_*W64+x)%d=_
   rw [Nat.add_mod,Nat.mul_mod,Nat.mod_mod,<- Nat.mul_mod,<- Nat.add_mod,n4 W64,z0l]
  ·have:=v1i a xs p.L xs.length xs.length d p.r (m:Int)
   rw [i8,hxe,e1,e2,m0v (by omega),B5] at this
   have e3:(p.m:Int)-1=(m:Int):=by omega
   rw [e3]
   have bnd:(zO2 0<=(m:Int)∧(m:Int) < zO2 xs.length):=⟨by simp,by simpa using hml⟩
   have hz:xs.getD m (zO2 0)=(x:Int):=hxe
   refine this ⟨by omega,⟨bnd,by omega⟩,⟨⟨by simp,by exact_mod_cast hr⟩,⟨by rw [hz]; simp,by rw [hz]; simp only [y3]; omega⟩,by simp only [y3]; omega⟩,hml,⟨bnd,by omega⟩,by simp,a7⟩
 have all:∀ k,k<=xs.length->g2g xs d (itr (shN xs d) k ⟨xs.length,0,zO6 xs.length 0⟩)∧(itr (shN xs d) k ⟨xs.length,0,zO6 xs.length 0⟩).m=xs.length-k:=by
  intro k
  induction k with
  | zero=>exact fun _=>⟨⟨d7 _,by simp [itr],M7 _ g9 _,by simp [itr,val],by simp [itr,val]⟩,rfl⟩
  | succ k ih=>
   intro hk
   obtain⟨g1,g2⟩:=ih (by omega)
   refine⟨(step _ g1 (by rw [g2]; omega)).1,?_⟩
   show (itr (shN xs d) k _).m-1=_
   rw [g2]
   omega
 obtain⟨g1,g2⟩:=all xs.length (d7 _)
 rw [bD] at g2
 have hout:=f2w a xs (itr (shN xs d) xs.length ⟨xs.length,0,zO6 xs.length 0⟩).L xs.length xs.length d (itr (shN xs d) xs.length ⟨xs.length,0,zO6 xs.length 0⟩).r (-1) ⟨by decide,a7⟩
 have hrun:=A8 (fun k=>d1e a xs (itr (shN xs d) k ⟨xs.length,0,zO6 xs.length 0⟩).L xs.length xs.length d (itr (shN xs d) k ⟨xs.length,0,zO6 xs.length 0⟩).r (((itr (shN xs d) k ⟨xs.length,0,zO6 xs.length 0⟩).m:Int)-1)) xs.length (x:= .exit 0) (by intro e; cases e) (fun k hk=>by
  obtain⟨q1,q2⟩:=all k (by omega)
  exact (step _ q1 (by rw [q2]; omega)).2) (by rw [g2]; exact hout)
 obtain⟨q1,q2,q3,q4,q5⟩:=g1
 rw [g2] at q4 q5
 simp only [sS] at q4 q5
 rw [q5] at hrun
 refine⟨hrun,q2,?_⟩
 rw [K9 C4 q3,q4]
theorem d1m (a:Bool) {A d:Nat} (hA:wl A < 549755813888) (hd0:0 < d) (hd:d < W64):Ev.Sem zO7 J0 145 [iN a A,uR d] [iN false (A/d),uR ((A%d:Nat):Int)] :=by
 have hA:(ws W64 A).length < 549755813888:=hA
 obtain⟨h1,h2,h3⟩:=z0h a (g0t A) (by omega) hd0 hd
 rw [s7] at h1 h3
 have hw:=m0v (n:=(ws W64 A).length) (by omega)
 rw [<- hw] at h1
 obtain⟨q1,q2,q3⟩:=J7 h3
 have ht:zO9 (ws W64 A).length (itr (shN (ws W64 A) d) (ws W64 A).length ⟨(ws W64 A).length,0,zO6 (ws W64 A).length 0⟩).L=(itr (shN (ws W64 A) d) (ws W64 A).length ⟨(ws W64 A).length,0,zO6 (ws W64 A).length 0⟩).L:=aT (by rw [h2]; exact d7 _)
 refine l6 Y3 10 _ _ (c2g a false (ws W64 A) (itr (shN (ws W64 A) d) (ws W64 A).length ⟨(ws W64 A).length,0,zO6 (ws W64 A).length 0⟩).L (ws W64 (A/d)) (ws W64 A).length (ws W64 A).length d ((A%d:Nat):Int) (-1) _) ?_
 rw [ht]
 have hi:=r1b a (ws W64 A) d _ _ h1
 refine⟨⟨rfl,by rw [h2]; omega,by rw [h2]; omega⟩,hi,⟨by simp,rfl,by simp only [y3]; omega,by simp only [y3]; omega⟩,rfl,⟨q1,q2,q3⟩,rfl,a7⟩
def j2k:Code:=D3 zO7 90 0
def p1x (a:Bool) (xs L:List Int) (na N:Nat) (n la i:Int):St:=⟨only 58 [(1, .int .i64 n),(2, .pointer (some ⟨13,0,none⟩)),(4, .pointer (some ⟨14,0,none⟩)),(5,slV 15 N),(17,slV 11 na),(18, .int .i64 la),(19, .int .i64 i)],
 [(15, .row Z8 1 (.ints .u64 L) 16),(14, .cells [.bool false, .slice none 0 0] rB),(13, .cells [.bool a,slV 11 na] rB),(11, .ints .u64 xs)],17,[],[],0,none,[],13⟩
def fO (n:Int):Int:=iI.wrap (n.tdiv 64)
def v0r (i n:Int):Int:=iI.wrap (i+fO n)
def a1d (i n:Int):Int:=iI.wrap (v0r i n+1)
def b2a (w n:Int):Int:=uI.wrap (w*2 ^min (n.tmod 64).toNat 64)
def d2e (w n:Int):Int:=(w.fdiv (2 ^min (Int.toNat 1) 64)).fdiv (2 ^min (iI.wrap (63-n.tmod 64)).toNat 64)
def n0j (xs L:List Int) (n i:Int):List Int:=gU L (v0r i n).toNat (bits .or .u64 (L.getD (v0r i n).toNat 0) (b2a (xs.getD i.toNat 0) n))
def o2u (xs L:List Int) (n i:Int):List Int:=gU (n0j xs L n i) (a1d i n).toNat (bits .or .u64 ((n0j xs L n i).getD (a1d i n).toNat 0) (d2e (xs.getD i.toNat 0) n))
section
variable (a:Bool) (xs L:List Int) (na N:Nat) (n la i:Int)
theorem r1u (hJ:((a1d i n).toNat < (n0j xs L n i).length)∧((0:Int)<=a1d i n∧a1d i n < N)∧0 < (n0j xs L n i).length) (h63:0<=iI.wrap (63-n.tmod 64)) (hI:((v0r i n).toNat < L.length)∧((0:Int)<=v0r i n∧v0r i n < N)∧0 < L.length) (h64:0<=n.tmod 64)
  (hx:i.toNat < xs.length∧((0:Int)<=i∧i < na)∧0 < xs.length) (h0:decide (i < la)=true):u7 XW4 j2k (p1x a xs L na N n la i) .normal (p1x a xs (o2u xs L n i) na N n la (iI.wrap (i+1))):=
 stp Y3 10 progOk.mixed [true] [] (l:=[(a1d i n).toNat < (n0j xs L n i).length,((0:Int)<=a1d i n∧a1d i n < N)∧0 < (n0j xs L n i).length,0<=iI.wrap (63-n.tmod 64),(a1d i n).toNat < (n0j xs L n i).length,((0:Int)<=a1d i n∧a1d i n < N)∧0 < (n0j xs L n i).length,
  (v0r i n).toNat < L.length,((0:Int)<=v0r i n∧v0r i n < N)∧0 < L.length,0<=n.tmod 64,(v0r i n).toNat < L.length,((0:Int)<=v0r i n∧v0r i n < N)∧0 < L.length,i.toNat < xs.length,((0:Int)<=i∧i < na)∧0 < xs.length,decide (i < la)=true])
  (by kernel_rfl) ⟨hJ.1,hJ.2,h63,hJ.1,hJ.2,hI.1,hI.2,h64,hI.1,hI.2,hx.1,hx.2,h0,a7⟩ (by kernel_rfl) (by kernel_rfl)
theorem d2d (h0:decide (i < la)=false):u7 XW4 j2k (p1x a xs L na N n la i) (.exit 0) (p1x a xs L na N n la i):=
 stp Y3 10 progOk.mixed [false] [] (l:=[decide (i < la)=false]) (by kernel_rfl) ⟨h0,a7⟩
end
theorem b2o (a s:Bool) (xs L R:List Int) (na N:Nat) (n m la i:Int):A7 XW4 [X4 (.exit 0) (fun _=>p1x a xs L na N n la i)] 200 90 [iL a xs,iR m] [iL s R] [] =some [0=0∧0+N<=L.length∧L.length < 1099511627776,d5 XW4 j2k (o7 XW4 200 90 [iL a xs,iR m] []) (.exit 0) (p1x a xs L na N n la i),zO2 0<=iI.wrap (iI.wrap (zO2 xs.length+iI.wrap (m.tdiv (zO2 64)))+zO2 1)∧iI.wrap (iI.wrap (zO2 xs.length+iI.wrap (m.tdiv (zO2 64)))+zO2 1)=iI.wrap (iI.wrap (zO2 xs.length+iI.wrap (m.tdiv (zO2 64)))+zO2 1)∧zO2 8*iI.wrap (iI.wrap (zO2 xs.length+iI.wrap (m.tdiv (zO2 64)))+zO2 1)<=zO2 281474976710656∧iI.wrap (iI.wrap (zO2 xs.length+iI.wrap (m.tdiv (zO2 64)))+zO2 1)<=zO2 9223372036854775807,zO8 (a && decide (0 < (m9 (zO9 N L)).length))=zO8 s,(m9 (zO9 N L)).length=R.length∧(m9 (zO9 N L)).length<=L.length∧zO9 (m9 (zO9 N L)).length L=R] :=by kernel_rfl
theorem w1i (a:Bool) (xs:List Int) (n:Int) (x:AX) (s':St) (h:d5 XW4 j2k (p1x a xs (zO6 (iI.wrap (iI.wrap ((xs.length:Int)+fO n)+1)).toNat 0) xs.length (iI.wrap (iI.wrap ((xs.length:Int)+fO n)+1)).toNat n xs.length 0) x s'):
  d5 XW4 j2k (o7 XW4 200 90 [iL a xs,iR n] []) x s':=
 m6 h []
theorem q1k {w r low:Nat} (hw:w < W64) (hr:r < 64) (hl:low < 2 ^r):
  bits .or .u64 (low:Int) (b2a w ((r:Nat):Int))=((low+w*2 ^r%W64:Nat):Int)∧d2e w ((r:Nat):Int)=((w*2 ^r/W64:Nat):Int)∧w*2 ^r/W64 < 2 ^r∧low+w*2 ^r%W64 < W64:=by
 have hp:(2:Nat) ^64=W64:=by decide
 have hW:W64=18446744073709551616:=rfl
 have hw':w < 18446744073709551616:=hw
 have hrt:((r:Nat):Int).tmod 64=(r:Int):=by
  have:=(Int.ofNat_tmod r 64).symm
  rw [H3 hr] at this
  exact this
 have hpr:=F7 r
 have hA:b2a w r=((w*2 ^r%W64:Nat):Int):=by
  unfold b2a
  rw [hrt,i8,B2 (by omega),O3]
  have:(w:Int)*2 ^r=((w*2 ^r:Nat):Int):=by rw [dE,fJ]; rfl
  rw [this,hW]
  omega
 have hsplit:W64=2 ^(64-r)*2 ^r:=by rw [<- i7,show 64-r+r=64 by omega,hp]
 have hhi:w*2 ^r/W64=w/2 ^(64-r):=by rw [hsplit,jQ _ _ hpr]
 have hB:d2e w r=((w*2 ^r/W64:Nat):Int):=by
  unfold d2e
  rw [hrt,hhi]
  have e1:iI.wrap (63- (r:Int))=((63-r:Nat):Int):=by
   have:(63:Int)- (r:Int)=((63-r:Nat):Int):=by omega
   rw [this,n7 (by omega)]
  have e2:(w:Int).fdiv (2 ^min (Int.toNat 1) 64)=((w/2:Nat):Int):=by
   rw [show ((2:Int) ^min (Int.toNat 1) 64)=2 by decide,aV _ (by omega)]
   omega
  rw [e2,e1,i8,B2 (by omega)]
  rw [aV _ (by
   have:(0:Int) < 2 ^(63-r):=Int.pow_pos (by decide)
   omega)]
  have e3:((w/2:Nat):Int)/2 ^(63-r)=((w/2/2 ^(63-r):Nat):Int):=by rw [Int.natCast_ediv (w/2),fJ]; rfl
  rw [e3,nV,show 64-r=63-r+1 by omega,p9,n4 (2 ^(63-r))]
 have hhl:w*2 ^r/W64 < 2 ^r:=by
  rw [F6 g9,n4 (2 ^r)]
  exact F8 hw hpr
 have hfree:w*2 ^r%W64=w%2 ^(64-r)*2 ^r:=by rw [hsplit,oF]
 have hlt:low+w*2 ^r%W64 < W64:=by
  rw [hfree]
  have:(w%2 ^(64-r)+1)*2 ^r<=2 ^(64-r)*2 ^r:=o9 _ (B0 _ (F7 _))
  rw [u4,V1,<- hsplit] at this
  omega
 refine⟨?_,hB,hhl,hlt⟩
 rw [hA]
 have h1:low < 18446744073709551616:=by omega
 have h2:w*2 ^r%W64 < 18446744073709551616:=by omega
 rw [bits_or_u64_nat _ _ h1 h2,Nat.or_comm,hfree]
 have:=m0p hl (w%2 ^(64-r))
 rw [jW] at this
 rw [<- this,z0l]
def d2h (xs:List Int) (q r i:Nat) (L:List Int):Prop:=
 L.length=xs.length+q+1∧Dg W64 L∧(L.getD (i+q) 0).toNat < 2 ^r∧(∀ t,i+q+1<=t->L.getD t 0=0)∧val W64 L=val W64 xs%W64 ^i*2 ^r*W64 ^q
def aS (xs:List Int) (n:Nat):Nat->List Int
 | 0=>zO6 (xs.length+n/64+1) 0
 | i+1=>o2u xs (aS xs n i) n i
theorem e0e {n:Nat} (hn:n < 1099511627776):fO n=((n/64:Nat):Int):=by
 unfold fO
 have:=(m0b n 64).symm
 have e:((n:Nat):Int).tdiv 64=((n/64:Nat):Int):=this
 rw [e,n7 (by omega)]
theorem e0d {i n:Nat} (hn:n < 1099511627776) (hi:i < 1099511627776):v0r i n=((i+n/64:Nat):Int):=by
 unfold v0r
 rw [e0e hn]
 have:=n7 (n:=i+n/64) (by omega)
 simpa using this
theorem w0p {i n:Nat} (hn:n < 1099511627776) (hi:i < 1099511627776):a1d i n=((i+n/64+1:Nat):Int):=by
 unfold a1d
 rw [e0d hn hi]
 have:=n7 (n:=i+n/64+1) (by omega)
 simpa using this
theorem U1 (n:Nat):((n:Nat):Int).tmod 64=((n%64:Nat):Int):=(Int.ofNat_tmod n 64).symm
theorem w1a (w:Int) (n:Nat):b2a w n=b2a w ((n%64:Nat):Int):=by unfold b2a; rw [U1,U1,Nat.mod_mod]
theorem w1q (w:Int) (n:Nat):d2e w n=d2e w ((n%64:Nat):Int):=by unfold d2e; rw [U1,U1,Nat.mod_mod]
theorem q0k {l:List Int} {i:Nat} (h:i < l.length) (x:Int):(l.set i x).getD i 0=x:=by
 rw [pZ,List.getElem?_set_self h]
 rfl
theorem a0e {xs L:List Int} (hx:Dg W64 xs) {n i:Nat} (hn:n < 1099511627776) (hi:i < xs.length) (hb:xs.length < 549755813888) (h:d2h xs (n/64) (n%64) i L):d2h xs (n/64) (n%64) (i+1) (o2u xs L n i)∧(n0j xs L n i).length=L.length:=by
 obtain⟨h1,h2,h3,h4,h5⟩:=h
 have gx:=H4 g9 hx i
 have hwl:=bI g9 (val W64 xs) i
 have gl:=h2.get g9 (i+n/64)
 obtain⟨low,hlow⟩:∃ low:Nat,L.getD (i+n/64) 0=(low:Int):=⟨(L.getD (i+n/64) 0).toNat,by omega⟩
 rw [hlow,i8] at h3
 obtain⟨e1,e2,e3,e4⟩:=q1k hwl (B0 n (by decide)) h3
 have hl1:n0j xs L n i=L.set (i+n/64) ((low+dig W64 (val W64 xs) i*2 ^(n%64)%W64:Nat):Int):=by
  unfold n0j
  rw [e0d hn (by omega),B5,i8,i8,hlow,gx,w1a,e1]
 have hlen1:(n0j xs L n i).length=L.length:=by rw [hl1,List.length_set]
 have hz:(n0j xs L n i).getD (i+n/64+1) 0=0:=by rw [hl1,getD_set_ne (by omega)]; exact h4 _ (d7 _)
 have hhW:dig W64 (val W64 xs) i*2 ^(n%64)/W64 < 18446744073709551616:=by
  refine E3 e3 ?_
  have:2 ^(n%64)<=2 ^64:=w7 (by decide) (by omega)
  exact x7 this (by decide)
 have hl2:o2u xs L n i=(n0j xs L n i).set (i+n/64+1) ((dig W64 (val W64 xs) i*2 ^(n%64)/W64:Nat):Int):=by
  unfold o2u
  rw [w0p hn (by omega),B5,i8,i8,hz,gx,w1q,e2]
  have:=bits_or_u64_nat 0 (dig W64 (val W64 xs) i*2 ^(n%64)/W64) (by decide) hhW
  rw [Nat.zero_or] at this
  congr 1
 have hD1:Dg W64 (n0j xs L n i):=by rw [hl1]; exact h2.set ⟨y9 _,by exact_mod_cast e4⟩ _
 refine⟨⟨by rw [hl2,List.length_set,hlen1,h1],by rw [hl2]; exact hD1.set ⟨y9 _,by exact_mod_cast hhW⟩ _,?_,fun t ht=> ?_,?_⟩,hlen1⟩
 ·rw [hl2,show i+1+n/64=i+n/64+1 by omega,q0k (by rw [hlen1]; omega),i8]
  exact e3
 ·rw [hl2,getD_set_ne (by omega),hl1,getD_set_ne (by omega)]
  exact h4 t (by omega)
 ·have v1:=cE (b:=W64) (((low+dig W64 (val W64 xs) i*2 ^(n%64)%W64:Nat):Int)) (show i+n/64 < L.length by omega)
  rw [<- hl1,hlow,i8,i8,u4] at v1
  have v2:=cE (b:=W64) (((dig W64 (val W64 xs) i*2 ^(n%64)/W64:Nat):Int)) (show i+n/64+1 < (n0j xs L n i).length by omega)
  rw [<- hl2,hz,i8] at v2
  simp only [h0v,C0,E4] at v2
  rw [v2,gF]
  have e5:dig W64 (val W64 xs) i*2 ^(n%64)%W64*W64 ^(i+n/64)+dig W64 (val W64 xs) i*2 ^(n%64)/W64*W64 ^(i+n/64+1)=dig W64 (val W64 xs) i*2 ^(n%64)*W64 ^(i+n/64):=by
   rw [p9,<- f9,J1,<- u4]
   congr 1
   have:=j0w (dig W64 (val W64 xs) i*2 ^(n%64)) W64
   rw [n4 W64] at this
   exact this
  have e6:(val W64 xs%W64 ^i+dig W64 (val W64 xs) i*W64 ^i)*2 ^(n%64)*W64 ^(n/64)=val W64 xs%W64 ^i*2 ^(n%64)*W64 ^(n/64)+dig W64 (val W64 xs) i*2 ^(n%64)*W64 ^(i+n/64):=by
   rw [u4,u4,i7]
   congr 1
   rw [J1 (dig W64 (val W64 xs) i),f9]
  rw [e6,<- h5]
  omega
theorem rS {xs:List Int} (hx:Dg W64 xs) {n:Nat} (hn:n < 1099511627776) (hb:xs.length < 549755813888):∀ i,i<=xs.length->d2h xs (n/64) (n%64) i (aS xs n i)
 | 0,_=>⟨by simp [aS],M7 _ g9 _,by
   show ((zO6 _ (0:Int)).getD _ 0).toNat < _
   rw [W5]
   exact F7 _,fun t _=>W5 _ _,by simp [aS,X0,Nat.mod_one]⟩
 | i+1,hi=>(a0e hx hn (by omega) hb (rS hx hn hb i (by omega))).1
theorem t1y (a:Bool) {A n:Nat} (hA:wl A < 549755813888) (hn:n < 549755813888):Ev.Sem zO7 J0 90 [iN a A,iR (n:Int)] [iN (a && decide (0 < A*2 ^n)) (A*2 ^n)] :=by
 have hA:(ws W64 A).length < 549755813888:=hA
 have hx:=g0t A
 have vA:=s7 A
 have hpow:2 ^(n%64)*W64 ^(n/64)=2 ^n:=by
  have:W64=2 ^64:=by decide
  rw [this,<- rZ,<- i7,j0w]
 have hR:m9 (aS (ws W64 A) n (ws W64 A).length)=ws W64 (A*2 ^n)∧(aS (ws W64 A) n (ws W64 A).length).length=(ws W64 A).length+n/64+1:=by
  obtain⟨h1,h2,h3,h4,h5⟩:=rS hx (n:=n) (by omega) hA (ws W64 A).length (d7 _)
  refine⟨?_,h1⟩
  rw [K9 C4 h2,h5,H3 (P6 g9 hx),vA,f9,hpow]
 have hQ:=e0e (n:=n) (by omega)
 have hN:iI.wrap (iI.wrap (((ws W64 A).length:Int)+fO n)+1)=(((ws W64 A).length+n/64+1:Nat):Int):=by
  rw [hQ]
  have e1:((ws W64 A).length:Int)+((n/64:Nat):Int)=(((ws W64 A).length+n/64:Nat):Int):=by omega
  rw [e1,n7 (by omega)]
  have e2:(((ws W64 A).length+n/64:Nat):Int)+1=(((ws W64 A).length+n/64+1:Nat):Int):=by omega
  rw [e2,n7 (by omega)]
 have hL:d5 XW4 j2k (p1x a (ws W64 A) (zO6 ((ws W64 A).length+n/64+1) 0) (ws W64 A).length ((ws W64 A).length+n/64+1) n (ws W64 A).length 0) (.exit 0)
   (p1x a (ws W64 A) (aS (ws W64 A) n (ws W64 A).length) (ws W64 A).length ((ws W64 A).length+n/64+1) n (ws W64 A).length (ws W64 A).length):=by
  generalize ws W64 A=xs at*
  refine A8 (fun k=>p1x a xs (aS xs n k) xs.length (xs.length+n/64+1) n xs.length k) xs.length (by intro e; cases e) (fun k hk=> ?_) (d2d a xs _ xs.length (xs.length+n/64+1) n xs.length xs.length (by simp))
  have hg:=rS hx (n:=n) (by omega) hA k (by omega)
  obtain⟨_,hl1⟩:=a0e hx (by omega) hk hA hg
  have hlen:=hg.1
  have:=r1u a xs (aS xs n k) xs.length (xs.length+n/64+1) n xs.length k
  rw [e0d (by omega) (by omega),w0p (by omega) (by omega),U1,K8 (n:=k) (by omega),hl1] at this
  have h63:(0:Int)<=iI.wrap (63- ((n%64:Nat):Int)):=by
   have e:(63:Int)- ((n%64:Nat):Int)=((63-n%64:Nat):Int):=by omega
   rw [e,n7 (by omega)]
   omega
  exact this ⟨by rw [i8]; omega,⟨by omega,by omega⟩,by omega⟩ h63 ⟨by rw [i8]; omega,⟨by omega,by omega⟩,by omega⟩ (by omega) ⟨by simpa using hk,⟨by omega,by omega⟩,by omega⟩ (by simpa using hk)
 have hN':iI.wrap (iI.wrap (zO2 (ws W64 A).length+iI.wrap ((n:Int).tdiv (zO2 64)))+zO2 1)=(((ws W64 A).length+n/64+1:Nat):Int):=hN
 obtain⟨q1,q2,q3⟩:=J7 hR.1
 have ht:zO9 ((ws W64 A).length+n/64+1) (aS (ws W64 A) n (ws W64 A).length)=aS (ws W64 A) n (ws W64 A).length:=aT (by rw [hR.2]; exact d7 _)
 refine l6 Y3 10 _ _ (b2o a _ (ws W64 A) (aS (ws W64 A) n (ws W64 A).length) (ws W64 (A*2 ^n)) (ws W64 A).length ((ws W64 A).length+n/64+1) n n (ws W64 A).length (ws W64 A).length) ?_
 rw [ht,hN']
 refine⟨⟨rfl,by rw [hR.2]; omega,by rw [hR.2]; omega⟩,w1i a _ n _ _ (by rw [hN]; exact hL),⟨by simp only [y3]; omega,rfl,by simp only [y3]; omega,by simp only [y3]; omega⟩,?_,⟨q1,q2,q3⟩,a7⟩
 rw [hR.1]
 have:=wl_pos (m:=A*2 ^n)
 congr 2
 simp only [zzA163]
 exact this
def p1p:Code:=D3 zO7 197 0
def n0h (a:Bool) (xs L:List Int) (na N:Nat) (n i:Int):St:=⟨only 52 [(1, .int .i64 n),(2, .pointer (some ⟨13,0,none⟩)),(4, .pointer (some ⟨14,0,none⟩)),(5,slV 15 N),(6, .int .i64 i)],
 [(15, .row Z8 1 (.ints .u64 L) 16),(14, .cells [.bool false, .slice none 0 0] rB),(13, .cells [.bool a,slV 11 na] rB),(11, .ints .u64 xs)],17,[],[],0,none,[],13⟩
def z1r (x n:Int):Int:=x.fdiv (2 ^min (n.tmod 64).toNat 64)
def r2p (y n:Int):Int:=uI.wrap (uI.wrap (y*2 ^min (Int.toNat 1) 64)*2 ^min (iI.wrap (63-n.tmod 64)).toNat 64)
def q2z (xs:List Int) (n i:Int):Int:=bits .or .u64 (z1r (xs.getD i.toNat 0) n) (r2p (xs.getD (iI.wrap (i+1)).toNat 0) n)
abbrev inX (xs:List Int) (na:Nat) (i:Int):Prop:=i.toNat < xs.length∧((0:Int)<=i∧i < na)∧0 < xs.length
def i2v (a:Bool) (xs:List Int) (n:Int):St:=o7 XW4 200 197 [iL a xs,iR n] []
section
variable (a:Bool) (xs L:List Int) (na N:Nat) (n i:Int)
theorem t1e (hN:N*1=L.length∧(N+1)*8<=140737488355328∧N+1<=9223372036854775807) (h63:0<=iI.wrap (63-n.tmod 64)) (h2:inX xs na (iI.wrap (i+1))) (h3:decide (iI.wrap (i+1) < na)=true) (h64:0<=n.tmod 64) (h1:inX xs na i) (h0:decide (i < na)=true):
  u7 XW4 p1p (n0h a xs L na N n i) .normal (n0h a xs (L++[q2z xs n i]) na (N+1) n (iI.wrap (i+1))):=
 stp Y3 10 progOk.mixed [true,true] [(15,18),(16,19)] (l:=[N*1=L.length∧(N+1)*8<=140737488355328∧N+1<=9223372036854775807,0<=iI.wrap (63-n.tmod 64),(iI.wrap (i+1)).toNat < xs.length,((0:Int)<=iI.wrap (i+1)∧iI.wrap (i+1) < na)∧0 < xs.length,
  decide (iI.wrap (i+1) < na)=true,0<=n.tmod 64,i.toNat < xs.length,((0:Int)<=i∧i < na)∧0 < xs.length,decide (i < na)=true]) (by kernel_rfl) ⟨hN,h63,h2.1,h2.2,h3,h64,h1.1,h1.2,h0,a7⟩ (by kernel_rfl) (by kernel_rfl)
theorem i2d (hN:N*1=L.length∧(N+1)*8<=140737488355328∧N+1<=9223372036854775807) (h3:decide (iI.wrap (i+1) < na)=false) (h64:0<=n.tmod 64) (h1:inX xs na i) (h0:decide (i < na)=true):
  u7 XW4 p1p (n0h a xs L na N n i) .normal (n0h a xs (L++[z1r (xs.getD i.toNat 0) n]) na (N+1) n (iI.wrap (i+1))):=
 stp Y3 10 progOk.mixed [true,false] [(15,18),(16,19)] (l:=[N*1=L.length∧(N+1)*8<=140737488355328∧N+1<=9223372036854775807,decide (iI.wrap (i+1) < na)=false,0<=n.tmod 64,i.toNat < xs.length,((0:Int)<=i∧i < na)∧0 < xs.length,decide (i < na)=true])
  (by kernel_rfl) ⟨hN,h3,h64,h1.1,h1.2,h0,a7⟩ (by kernel_rfl) (by kernel_rfl)
theorem d2n (h0:decide (i < na)=false):u7 XW4 p1p (n0h a xs L na N n i) (.exit 0) (n0h a xs L na N n i):=
 stp Y3 10 progOk.mixed [false] [] (l:=[decide (i < na)=false]) (by kernel_rfl) ⟨h0,a7⟩
theorem a1i (h63:0<=iI.wrap (63-n.tmod 64)) (h2:inX xs xs.length (iI.wrap (fO n+1))) (h3:decide (iI.wrap (fO n+1) < xs.length)=true) (h64:0<=n.tmod 64) (h1:inX xs xs.length (fO n)) (h0:decide (fO n < xs.length)=true):
  u7 XW4 p1p (i2v a xs n) .normal (n0h a xs [q2z xs n (fO n)] xs.length 1 n (iI.wrap (fO n+1))):=
 stp Y3 10 progOk.mixed [true,true] [(15,16),(16,17)] (l:=[8<=140737488355328∧1<=9223372036854775807,0<=iI.wrap (63-n.tmod 64),(iI.wrap (fO n+1)).toNat < xs.length,((0:Int)<=iI.wrap (fO n+1)∧iI.wrap (fO n+1) < xs.length)∧0 < xs.length,
  decide (iI.wrap (fO n+1) < xs.length)=true,0<=n.tmod 64,(fO n).toNat < xs.length,((0:Int)<=fO n∧fO n < xs.length)∧0 < xs.length,decide (fO n < xs.length)=true]) (by kernel_rfl) ⟨by omega,h63,h2.1,h2.2,h3,h64,h1.1,h1.2,h0,a7⟩ (by kernel_rfl) (by kernel_rfl)
theorem z0r (h3:decide (iI.wrap (fO n+1) < xs.length)=false) (h64:0<=n.tmod 64) (h1:inX xs xs.length (fO n)) (h0:decide (fO n < xs.length)=true):
  u7 XW4 p1p (i2v a xs n) .normal (n0h a xs [z1r (xs.getD (fO n).toNat 0) n] xs.length 1 n (iI.wrap (fO n+1))):=
 stp Y3 10 progOk.mixed [true,false] [(15,16),(16,17)] (l:=[8<=140737488355328∧1<=9223372036854775807,decide (iI.wrap (fO n+1) < xs.length)=false,0<=n.tmod 64,(fO n).toNat < xs.length,((0:Int)<=fO n∧fO n < xs.length)∧0 < xs.length,decide (fO n < xs.length)=true])
  (by kernel_rfl) ⟨by omega,h3,h64,h1.1,h1.2,h0,a7⟩ (by kernel_rfl) (by kernel_rfl)
end
theorem h2o (a s:Bool) (xs L R:List Int) (na N:Nat) (n m i:Int):A7 XW4 [X4 (.exit 0) (fun _=>n0h a xs L na N n i)] 200 197 [iL a xs,iR m] [iL s R] [] =some [0=0∧0+N<=L.length∧L.length < 1099511627776,d5 XW4 p1p (i2v a xs m) (.exit 0) (n0h a xs L na N n i),zO8 (a && decide (0 < (m9 (zO9 N L)).length))=zO8 s,(m9 (zO9 N L)).length=R.length∧(m9 (zO9 N L)).length<=L.length∧zO9 (m9 (zO9 N L)).length L=R] :=by kernel_rfl
theorem q1x (a s:Bool) (xs R:List Int) (m:Int):A7 XW4 [] 200 197 [iL a xs,iR m] [iL s R] [false] =some [decide (iI.wrap (m.tdiv (zO2 64)) < zO2 xs.length)=false,zO8 false=zO8 s,R=[]] :=by kernel_rfl
theorem u1z {A r k:Nat} (hr:r < 64):z1r (dig W64 A k) ((r:Nat):Int)=((dig W64 A k/2 ^r:Nat):Int)∧bits .or .u64 (z1r (dig W64 A k) ((r:Nat):Int)) (r2p (dig W64 A (k+1)) ((r:Nat):Int))=(dig W64 (A/2 ^r) k:Int)∧
  (dig W64 A (k+1)=0->dig W64 A k/2 ^r=dig W64 (A/2 ^r) k):=by
 have hp:(2:Nat) ^64=W64:=by decide
 have hx:=bI g9 A k
 have hy:=bI g9 A (k+1)
 have hrt:((r:Nat):Int).tmod 64=(r:Int):=by
  have:=U1 r
  rw [H3 hr] at this
  exact this
 have hpr:=F7 r
 have hsplit:W64=2 ^r*2 ^(64-r):=by rw [<- i7,show r+(64-r)=64 by omega,hp]
 have hA:∀ x:Nat,z1r x r=((x/2 ^r:Nat):Int):=fun x=>by
  unfold z1r
  rw [hrt,i8,B2 (by omega),aV _ (by
   have:(0:Int) < 2 ^r:=Int.pow_pos (by decide)
   omega),Int.natCast_ediv,fJ]
  rfl
 have hB:∀ y:Nat,y < W64->r2p y r=((y*2 ^(64-r)%W64:Nat):Int):=fun y hy=>by
  unfold r2p
  rw [hrt]
  have e1:iI.wrap (63- (r:Int))=((63-r:Nat):Int):=by
   have:(63:Int)- (r:Int)=((63-r:Nat):Int):=by omega
   rw [this,n7 (by omega)]
  have e2:uI.wrap ((y:Int)*2 ^min (Int.toNat 1) 64)=((y*2%W64:Nat):Int):=by
   rw [show ((2:Int) ^min (Int.toNat 1) 64)=2 by decide,O3]
   show _=((y*2%18446744073709551616:Nat):Int)
   omega
  rw [e2,e1,i8,B2 (by omega),O3]
  have e3:((y*2%W64:Nat):Int)*2 ^(63-r)=((y*2%W64*2 ^(63-r):Nat):Int):=by rw [dE,fJ]; rfl
  rw [e3]
  have e4:y*2%W64*2 ^(63-r)%W64=y*2 ^(64-r)%W64:=by
   rw [Nat.mod_mul_mod,f9,<- Nat.pow_succ',show (63-r).succ=64-r by omega]
  rw [<- e4]
  show _=((_%18446744073709551616:Nat):Int)
  omega
 have hdig:dig W64 (A/2 ^r) k=dig W64 A k/2 ^r+dig W64 A (k+1)*2 ^(64-r)%W64:=by
  have hlow:dig W64 A k/2 ^r < 2 ^(64-r):=by
   rw [F6 hpr,n4,<- hsplit]
   exact hx
  have hm:dig W64 A (k+1)*2 ^(64-r)%W64=dig W64 A (k+1)%2 ^r*2 ^(64-r):=by rw [hsplit,oF]
  have hlt:dig W64 A k/2 ^r+dig W64 A (k+1)*2 ^(64-r)%W64 < W64:=by
   rw [hm]
   have:(dig W64 A (k+1)%2 ^r+1)*2 ^(64-r)<=2 ^r*2 ^(64-r):=o9 _ (B0 _ hpr)
   rw [u4,V1,<- hsplit] at this
   omega
  have e1:A/2 ^r/W64 ^k=(dig W64 A k+W64*(A/W64 ^(k+1)))/2 ^r:=by
   rw [<- b2z,nV,nV,n4]
  have e2:(dig W64 A k+W64*(A/W64 ^(k+1)))/2 ^r=dig W64 A k/2 ^r+2 ^(64-r)*(A/W64 ^(k+1)):=by
   rw [hsplit,f9,i0c _ _ hpr]
  have e3:2 ^(64-r)*(A/W64 ^(k+1))%W64=dig W64 A (k+1)*2 ^(64-r)%W64:=by
   unfold dig
   rw [Nat.mod_mul_mod,n4]
  show A/2 ^r/W64 ^k%W64=_
  rw [e1,e2,Nat.add_mod,e3,H3 (show dig W64 A k/2 ^r < W64 from y4 (jX _ _) hx),H3 hlt]
 refine⟨hA _,?_,fun h0=>by rw [hdig,h0]; simp⟩
 have hlow:dig W64 A k/2 ^r < 2 ^(64-r):=by
  rw [F6 hpr,n4,<- hsplit]
  exact hx
 have hm:dig W64 A (k+1)*2 ^(64-r)%W64=dig W64 A (k+1)%2 ^r*2 ^(64-r):=by rw [hsplit,oF]
 have b1:dig W64 A k/2 ^r < 18446744073709551616:=y4 (jX _ _) hx
 have b2:dig W64 A (k+1)*2 ^(64-r)%W64 < 18446744073709551616:=B0 _ g9
 rw [hA,hB _ hy,bits_or_u64_nat _ _ b1 b2,hdig,Nat.or_comm,hm]
 have:=m0p hlow (dig W64 A (k+1)%2 ^r)
 rw [jW] at this
 rw [<- this,z0l]
theorem b2p {n m i:Nat} (h:m < W64 ^n):(dl W64 n m).getD i 0=(dig W64 m i:Int):=by
 rw [H4 g9 (l1u g9 n m),i0u,H3 h]
theorem e1g (a:Bool) {A n:Nat} (hA:wl A < 549755813888) (hn:n < 64):Ev.Sem zO7 J0 197 [iN a A,iR (n:Int)] [iN (a && decide (0 < A/2 ^n)) (A/2 ^n)] :=by
 have hA:(ws W64 A).length < 549755813888:=hA
 have hQ:fO (n:Int)=0:=by
  rw [e0e (by omega)]
  omega
 have hlt:A/2 ^n < W64 ^(ws W64 A).length:=y4 (jX _ _) (k0x A)
 by_cases h0:A=0
 ·subst h0
  refine l6 Y3 10 _ _ (q1x a _ (ws W64 0) (ws W64 (0/2 ^n)) n) ⟨?_,?_,?_,a7⟩
  ·show decide (fO n < (0:Int))=false
   rw [hQ]
   rfl
  ·simp
  ·rw [Nat.zero_div,g0d]
 have hpos:0 < (ws W64 A).length:=wl_pos.2 (by omega)
 have h64:(0:Int)<=((n:Nat):Int).tmod 64:=by rw [U1]; omega
 have h63:(0:Int)<=iI.wrap (63- ((n:Nat):Int).tmod 64):=by
  rw [U1]
  have e:(63:Int)- ((n%64:Nat):Int)=((63-n%64:Nat):Int):=by omega
  rw [e,n7 (by omega)]
  omega
 have hget:∀ i,(ws W64 A).getD i 0=(dig W64 A i:Int):=fun i=>f1l C4 A i
 have hlast:∀ i,(ws W64 A).length<=i->dig W64 A i=0:=fun i hi=>by
  have:=hget i
  rw [aK hi] at this
  omega
 have word:∀ k,k < (ws W64 A).length->(k+1 < (ws W64 A).length->q2z (ws W64 A) n k=(dig W64 (A/2 ^n) k:Int))∧(¬ k+1 < (ws W64 A).length->z1r ((ws W64 A).getD k 0) n=(dig W64 (A/2 ^n) k:Int)):=by
  intro k hk
  obtain⟨w1,w2,w3⟩:=u1z (A:=A) (r:=n) (k:=k) hn
  refine⟨fun h=> ?_,fun h=> ?_⟩
  ·unfold q2z
   rw [K8 (by omega),i8,i8,hget,hget]
   exact w2
  ·rw [hget,w1,w3 (hlast _ (by omega))]
 have T:∀ k,k < (ws W64 A).length->(dl W64 (ws W64 A).length (A/2 ^n)).take (k+1)=(dl W64 (ws W64 A).length (A/2 ^n)).take k++[(dig W64 (A/2 ^n) k:Int)] :=fun k hk=>by
  rw [uZ (by rw [r7]; exact hk),b2p hlt]
 have inx:∀ k:Nat,k < (ws W64 A).length->inX (ws W64 A) (ws W64 A).length (k:Int):=fun k hk=>⟨by simpa using hk,⟨by omega,by omega⟩,hpos⟩
 have step:∀ k,0 < k->k < (ws W64 A).length->u7 XW4 p1p (n0h a (ws W64 A) ((dl W64 (ws W64 A).length (A/2 ^n)).take k) (ws W64 A).length k n k) .normal (n0h a (ws W64 A) ((dl W64 (ws W64 A).length (A/2 ^n)).take (k+1)) (ws W64 A).length (k+1) n ((k+1:Nat):Int)):=by
  intro k _ hk
  have hlen:k*1=((dl W64 (ws W64 A).length (A/2 ^n)).take k).length:=by rw [A9,r7]; omega
  have hw:=K8 (n:=k) (by omega)
  rw [T k hk]
  by_cases h2:k+1 < (ws W64 A).length
  ·have:=t1e a (ws W64 A) ((dl W64 (ws W64 A).length (A/2 ^n)).take k) (ws W64 A).length k n k ⟨hlen,by omega,by omega⟩ h63 (by rw [hw]; exact inx _ h2) (by rw [hw]; simp only [aO]; omega) h64 (inx k hk) (by simpa using hk)
   rw [hw,(word k hk).1 h2] at this
   exact this
  ·have:=i2d a (ws W64 A) ((dl W64 (ws W64 A).length (A/2 ^n)).take k) (ws W64 A).length k n k ⟨hlen,by omega,by omega⟩ (by rw [hw]; simp only [m0g]; omega) h64 (inx k hk) (by simpa using hk)
   rw [hw,i8,(word k hk).2 h2] at this
   exact this
 have first:u7 XW4 p1p (i2v a (ws W64 A) n) .normal (n0h a (ws W64 A) ((dl W64 (ws W64 A).length (A/2 ^n)).take 1) (ws W64 A).length 1 n 1):=by
  have t1:=T 0 hpos
  rw [List.take_zero,nM] at t1
  rw [t1]
  have hw:iI.wrap (0+1)=1:=by decide
  by_cases h2:0+1 < (ws W64 A).length
  ·have:=a1i a (ws W64 A) n h63
   rw [hQ,hw] at this
   have w:=(word 0 hpos).1 h2
   have e0:((0:Nat):Int)=0:=rfl
   rw [e0] at w
   rw [w] at this
   exact this (inx 1 h2) (by simp only [aO]; omega) h64 (inx 0 hpos) (by simp only [aO]; omega)
  ·have:=z0r a (ws W64 A) n
   rw [hQ,hw] at this
   have w:=(word 0 hpos).2 h2
   have e0:(0:Int).toNat=0:=rfl
   rw [e0,w] at this
   exact this (by simp only [m0g]; omega) h64 (inx 0 hpos) (by simp only [aO]; omega)
 have hL:d5 XW4 p1p (i2v a (ws W64 A) n) (.exit 0) (n0h a (ws W64 A) (dl W64 (ws W64 A).length (A/2 ^n)) (ws W64 A).length (ws W64 A).length n (ws W64 A).length):=by
  have hend:(dl W64 (ws W64 A).length (A/2 ^n)).take (ws W64 A).length=dl W64 (ws W64 A).length (A/2 ^n):=aT (by rw [r7]; exact d7 _)
  have:=A8 (X:=XW4) (c:=p1p) (fun k=>match k with
    | 0=>i2v a (ws W64 A) n
    | k+1=>n0h a (ws W64 A) ((dl W64 (ws W64 A).length (A/2 ^n)).take (k+1)) (ws W64 A).length (k+1) n ((k+1:Nat):Int)) (ws W64 A).length (x:= .exit 0) (by intro e; cases e) (s':=n0h a (ws W64 A) (dl W64 (ws W64 A).length (A/2 ^n)) (ws W64 A).length (ws W64 A).length n (ws W64 A).length) (fun k hk=> ?_) ?_
  ·exact this
  ·cases k with
   | zero=>exact first
   | succ k=>exact step (k+1) (by omega) hk
  ·obtain⟨m,hm⟩:∃ m,(ws W64 A).length=m+1:=⟨(ws W64 A).length-1,by omega⟩
   have:=d2n a (ws W64 A) (dl W64 (ws W64 A).length (A/2 ^n)) (ws W64 A).length (ws W64 A).length n (ws W64 A).length (by simp)
   rw [hm] at this hend ⊢
   simp only
   rw [hend]
   exact this
 obtain⟨q1,q2,q3⟩:=J7 (f0c hlt)
 have ht:zO9 (ws W64 A).length (dl W64 (ws W64 A).length (A/2 ^n))=dl W64 (ws W64 A).length (A/2 ^n):=aT (by rw [r7]; exact d7 _)
 refine l6 Y3 10 _ _ (h2o a _ (ws W64 A) (dl W64 (ws W64 A).length (A/2 ^n)) (ws W64 (A/2 ^n)) (ws W64 A).length (ws W64 A).length n n (ws W64 A).length) ?_
 rw [ht]
 refine⟨⟨rfl,by rw [r7]; omega,by rw [r7]; omega⟩,hL,?_,⟨q1,q2,q3⟩,a7⟩
 rw [f0c hlt]
 have:=wl_pos (m:=A/2 ^n)
 congr 2
 simp only [zzA163]
 exact this
end Go.Proofs.YtbdaebagmmmijaaGreatDoor
