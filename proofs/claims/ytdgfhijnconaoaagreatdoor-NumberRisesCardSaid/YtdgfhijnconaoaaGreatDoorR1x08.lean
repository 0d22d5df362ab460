/-
 NumberRises: of two texts the one with the greater value is never read as the lesser number; no condition (a part of the proof).
-/
import Derived.Test.YtdgfhijnconaoaaGreatDoorR1x07
import Derived.Shelf.Strconv.ParseUint10At
import Derived.Lib.AtoiTie
import Derived.Lib.AtoiErrMem
import Derived.Lib.ParseIntBCases
import GoSem.ClaimJoined
import Derived.Lib.Bytealg
set_option maxRecDepth 1000000
namespace Go.Proofs.YtdgfhijnconaoaaGreatDoor
open Go Go.RowKit Ev Wd
theorem sub_way (a b s:Bool) (xs ys R:List Int):semR XW6 [] 200 200 (quo2 a b xs ys) [iL s R] [] =some [xs.length=xs.length,ys.length=ys.length,Cn xs,Cn ys,xs.length < 549755813888,ys.length < 549755813888,ys.length=ys.length∧ys.length < 1099511627776∧trimW ys=ys,Value.bool (negX a (!b && decide (0 < ys.length)) xs ys)=Value.bool s,(addX a (!b && decide (0 < ys.length)) xs ys).length=R.length∧(addX a (!b && decide (0 < ys.length)) xs ys).length≤(addX a (!b && decide (0 < ys.length)) xs ys).length∧List.take (addX a (!b && decide (0 < ys.length)) xs ys).length (addX a (!b && decide (0 < ys.length)) xs ys)=R] :=by kernel_rfl
theorem cmp_way (a b:Bool) (xs ys:List Int) (r:Int):semR XW6 [] 200 149 (quo2 a b xs ys) [iR r] [] =some [(addX a (!b && decide (0 < ys.length)) xs ys).length≤(addX a (!b && decide (0 < ys.length)) xs ys).length,Cn (List.take (addX a (!b && decide (0 < ys.length)) xs ys).length (addX a (!b && decide (0 < ys.length)) xs ys)),xs.length=xs.length,ys.length=ys.length,Cn xs,Cn ys,xs.length < 549755813888,ys.length < 549755813888,ys.length=ys.length∧ys.length < 1099511627776∧trimW ys=ys,Value.int IntKind.i64 (if val 18446744073709551616 (List.take (addX a (!b && decide (0 < ys.length)) xs ys).length (addX a (!b && decide (0 < ys.length)) xs ys))=0 then Int.ofNat 0 else if negX a (!b && decide (0 < ys.length)) xs ys=true then Int.negSucc 0 else Int.ofNat 1)=Value.int IntKind.i64 r] :=by kernel_rfl
theorem of_way1 (s:Bool) (n:Int) (R:List Int):semR XW6 [] 200 114 [iR n] [iL s R] [true] =some [1≤1∧1≤1∧1 < 1099511627776,decide (n < Int.ofNat 0)=true,Value.bool (true && decide (0 < (trimW [IntKind.u64.wrap (Int.ofNat 0-IntKind.u64.wrap n)]).length))=Value.bool s,(trimW [IntKind.u64.wrap (Int.ofNat 0-IntKind.u64.wrap n)]).length=R.length∧(trimW [IntKind.u64.wrap (Int.ofNat 0-IntKind.u64.wrap n)]).length≤1∧List.take (trimW [IntKind.u64.wrap (Int.ofNat 0-IntKind.u64.wrap n)]).length [IntKind.u64.wrap (Int.ofNat 0-IntKind.u64.wrap n)] =R∧1=1∧1≤9223372036854775807] :=by kernel_rfl
theorem of_way2 (s:Bool) (n:Int) (R:List Int):semR XW6 [] 200 114 [iR n] [iL s R] [false] =some [Int.ofNat 0≤IntKind.u64.wrap n∧(IntKind.u64.wrap n).toNat < 18446744073709551616,decide (n < Int.ofNat 0)=false,Value.bool false=Value.bool s,(wrdX (IntKind.u64.wrap n)).length=R.length∧(wrdX (IntKind.u64.wrap n)).length≤(wrdX (IntKind.u64.wrap n)).length∧List.take (wrdX (IntKind.u64.wrap n)).length (wrdX (IntKind.u64.wrap n))=R] :=by kernel_rfl
theorem bits_way1 (a:Bool) (xs:List Int) (r:Int):semR XW6 [] 200 128 [iL a xs] [iR r] [true] =some [(Int.ofNat xs.length==Int.ofNat 0)=true,Value.int IntKind.i64 (Int.ofNat 0)=Value.int IntKind.i64 r] :=by kernel_rfl
theorem bits_way2 (a:Bool) (xs:List Int) (r:Int):semR XW6 [] 200 128 [iL a xs] [iR r] [false] =some [Int.ofNat 0≤xs.getD (addO 0 (IntKind.i64.wrap (Int.ofNat xs.length-Int.ofNat 1)).toNat) (Int.ofNat 0)∧xs.getD (addO 0 (IntKind.i64.wrap (Int.ofNat xs.length-Int.ofNat 1)).toNat) (Int.ofNat 0) < Int.ofNat 18446744073709551616,addO 0 (IntKind.i64.wrap (Int.ofNat xs.length-Int.ofNat 1)).toNat < xs.length,(Int.ofNat 0≤IntKind.i64.wrap (Int.ofNat xs.length-Int.ofNat 1)∧IntKind.i64.wrap (Int.ofNat xs.length-Int.ofNat 1) < Int.ofNat xs.length)∧0 < xs.length,(Int.ofNat xs.length==Int.ofNat 0)=false,Value.int IntKind.i64 (IntKind.i64.wrap (IntKind.i64.wrap (Int.ofNat 64*IntKind.i64.wrap (Int.ofNat xs.length-Int.ofNat 1))+len64 (xs.getD (addO 0 (IntKind.i64.wrap (Int.ofNat xs.length-Int.ofNat 1)).toNat) (Int.ofNat 0))))=Value.int IntKind.i64 r] :=by kernel_rfl
theorem Cn.trim {xs:List Int} (h:Cn xs):trimW xs=xs:=by
 have:=trimW_ws W64_two h.dg
 rw [← h] at this
 exact this
def subX (a b:Bool) (xs ys:List Int):List Int:=addX a (!b && decide (0 < ys.length)) xs ys
def subG (a b:Bool) (xs ys:List Int):Bool:=negX a (!b && decide (0 < ys.length)) xs ys
def cmpX (a b:Bool) (xs ys:List Int):Int:=if val W64 (subX a b xs ys)=0 then 0 else if subG a b xs ys then -1 else 1
def ofX (n:Int):List Int:=ws W64 n.natAbs
def bitX (xs:List Int):Int:=((bl (val W64 xs):Nat):Int)
theorem sub_sem (a b:Bool) {xs ys:List Int} (hx:Cn xs) (hy:Cn ys) (h1:xs.length < 549755813888) (h2:ys.length < 549755813888):Ev.Sem Tryz.prog J0 200 (quo2 a b xs ys) [iW (subG a b xs ys) (subX a b xs ys)] :=
 sem_of bW6_ok 10 _ _ (sub_way a b _ xs ys _) ⟨rfl,rfl,hx,hy,h1,h2,⟨rfl,by omega,hy.trim⟩,rfl,⟨rfl,Nat.le_refl _,List.take_length⟩,trivial⟩
theorem cmp_sem (a b:Bool) {xs ys:List Int} (hx:Cn xs) (hy:Cn ys) (h1:xs.length < 549755813888) (h2:ys.length < 549755813888):Ev.Sem Tryz.prog J0 149 (quo2 a b xs ys) [iR (cmpX a b xs ys)] :=by
 refine sem_of bW6_ok 10 _ _ (cmp_way a b xs ys _) ⟨Nat.le_refl _,?_,rfl,rfl,hx,hy,h1,h2,⟨rfl,by omega,hy.trim⟩,?_,trivial⟩
 ·rw [List.take_length]
  exact Cn.ws _
 ·rw [List.take_length]
  rfl
theorem of_sem {n:Int} (h1: -9223372036854775808≤n) (h2:n≤9223372036854775807):Ev.Sem Tryz.prog J0 114 [iR n] [iW (decide (n < 0)) (ofX n)] :=by
 by_cases h:n < 0
 ·have e1:IntKind.u64.wrap (Int.ofNat 0-IntKind.u64.wrap n)=((n.natAbs:Nat):Int):=by
   have w1:=IntKind.wrap_u64 n
   have w2:=IntKind.wrap_u64 (Int.ofNat 0-IntKind.u64.wrap n)
   simp only [Int.ofNat_eq_natCast] at*
   omega
  have hd:Dg W64 [((n.natAbs:Nat):Int)] :=Dg.cons ⟨by omega,by
   show _ < ((18446744073709551616:Nat):Int)
   omega⟩ (Dg.nil _)
  have ht:trimW [((n.natAbs:Nat):Int)] =ws W64 n.natAbs:=by
   rw [trimW_ws W64_two hd]
   simp [val]
  have hp:0 < (ws W64 n.natAbs).length:=wl_pos.2 (by omega)
  have htt:=trim_obl ht
  refine sem_of bW6_ok 10 _ _ (of_way1 _ n _) ⟨⟨Nat.le_refl _,Nat.le_refl _,by decide⟩,decide_eq_true h,?_,?_,trivial⟩
  ·rw [e1,ht,decide_eq_true h,decide_eq_true hp]
   rfl
  ·rw [e1]
   exact⟨htt.1,htt.2.1,htt.2.2,rfl,by decide⟩
 ·have e1:IntKind.u64.wrap n=n:=by
   have w1:=IntKind.wrap_u64 n
   omega
  have e2:wrdX n=ofX n:=by
   unfold wrdX ofX
   congr 1
   omega
  refine sem_of bW6_ok 10 _ _ (of_way2 _ n _) ⟨?_,decide_eq_false h,?_,?_,trivial⟩
  ·rw [e1]
   simp only [Int.ofNat_eq_natCast]
   omega
  ·rw [decide_eq_false h]
  ·rw [e1,e2,List.take_length]
   exact⟨rfl,Nat.le_refl _,rfl⟩
theorem bits_sem (a:Bool) {xs:List Int} (hx:Cn xs) (h1:xs.length < 549755813888):Ev.Sem Tryz.prog J0 128 [iL a xs] [iR (bitX xs)] :=by
 by_cases h:xs.length=0
 ·refine sem_of bW6_ok 10 _ _ (bits_way1 a xs _) ⟨by rw [h]; rfl,?_,trivial⟩
  have:=List.eq_nil_of_length_eq_zero h
  subst this
  rfl
 ·obtain⟨t,e1,e2,e3,e4,e5⟩:=top_word hx (by omega)
  have hw:IntKind.i64.wrap (Int.ofNat xs.length-Int.ofNat 1)=((xs.length-1:Nat):Int):=by
   have h1:=wrap_nat (n:=xs.length-1) (by omega)
   rw [← h1]
   congr 1
   simp only [Int.ofNat_eq_natCast]
   omega
  have eA:addO 0 (IntKind.i64.wrap (Int.ofNat xs.length-Int.ofNat 1)).toNat=xs.length-1:=by rw [hw,addO_eq,Int.toNat_natCast,Nat.zero_add]
  have hg:=hx.dg.get W64_pos (xs.length-1)
  have hb64:bl t≤64:=(shift_word e2 e3).2.1
  refine sem_of bW6_ok 10 _ _ (bits_way2 a xs _) ⟨?_,by rw [eA]; omega,⟨⟨?_,?_⟩,by omega⟩,?_,?_,trivial⟩
  ·rw [eA]
   exact⟨hg.1,hg.2⟩
  ·rw [hw]; exact Int.ofNat_le.2 (Nat.zero_le _)
  ·rw [hw]; exact Int.ofNat_lt.2 (by omega)
  ·simp only [beq_eq_false_iff_ne,ne_eq,Int.ofNat.injEq]
   exact h
  ·rw [eA,hw]
   show Value.int .i64 (IntKind.i64.wrap (IntKind.i64.wrap (64*((xs.length-1:Nat):Int))+len64 (xs.getD (xs.length-1) 0)))=_
   rw [e1]
   unfold len64 bitX
   rw [Int.toNat_natCast]
   have hpw:(2:Nat) ^(64*(xs.length-1))=W64 ^(xs.length-1):=by
    rw [Nat.pow_mul]
   have hdiv:val W64 xs/2 ^(64*(xs.length-1))=t:=by
    rw [hpw]
    exact Nat.div_eq_of_lt_le e4 e5
   have hbl:bl (val W64 xs)=64*(xs.length-1)+bl t:=by
    rw [bl_shift (k:=64*(xs.length-1)),hdiv]
    rw [hpw]
    exact Nat.le_trans (Nat.le_mul_of_pos_left _ e2) e4
   rw [hbl]
   have w1:=wrap_nat (n:=64*(xs.length-1)) (by omega)
   have w2:=wrap_nat (n:=64*(xs.length-1)+bl t) (by omega)
   have c1:(64:Int)*((xs.length-1:Nat):Int)=((64*(xs.length-1):Nat):Int):=by omega
   rw [c1,w1,← Int.natCast_add,w2]
def specSub:List Arg→Option (List Arg×List Prop)
 | [.a [.v (.bool a), .s 32 .u64 xs], .a [.v (.bool b), .s 32 .u64 ys]] =>some ([iW (subG a b xs ys) (subX a b xs ys)],[Cn xs,Cn ys,xs.length < 549755813888,ys.length < 549755813888])
 | _=>none
def specCmp:List Arg→Option (List Arg×List Prop)
 | [.a [.v (.bool a), .s 32 .u64 xs], .a [.v (.bool b), .s 32 .u64 ys]] =>some ([iR (cmpX a b xs ys)],[Cn xs,Cn ys,xs.length < 549755813888,ys.length < 549755813888])
 | _=>none
def specOf:List Arg→Option (List Arg×List Prop)
 | [.c (.v (.int .i64 n))] =>some ([iW (decide (n < 0)) (ofX n)],[-9223372036854775808≤n,n≤9223372036854775807])
 | _=>none
def specBits:List Arg→Option (List Arg×List Prop)
 | [.a [.v (.bool _), .s 32 .u64 xs]] =>some ([iR (bitX xs)],[Cn xs,xs.length < 549755813888])
 | _=>none
theorem specSub_ok:∀ az rs l,specSub az=some (rs,l)→allP l→Ev.Sem Tryz.prog J0 200 az rs:=by
 intro az rs l h hl
 unfold specSub at h
 split at h
 ·cases h
  obtain⟨h1,h2,h3,h4,_⟩:=hl
  exact sub_sem _ _ h1 h2 h3 h4
 ·cases h
theorem specCmp_ok:∀ az rs l,specCmp az=some (rs,l)→allP l→Ev.Sem Tryz.prog J0 149 az rs:=by
 intro az rs l h hl
 unfold specCmp at h
 split at h
 ·cases h
  obtain⟨h1,h2,h3,h4,_⟩:=hl
  exact cmp_sem _ _ h1 h2 h3 h4
 ·cases h
theorem specOf_ok:∀ az rs l,specOf az=some (rs,l)→allP l→Ev.Sem Tryz.prog J0 114 az rs:=by
 intro az rs l h hl
 unfold specOf at h
 split at h
 ·cases h
  obtain⟨h1,h2,_⟩:=hl
  exact of_sem h1 h2
 ·cases h
theorem specBits_ok:∀ az rs l,specBits az=some (rs,l)→allP l→Ev.Sem Tryz.prog J0 128 az rs:=by
 intro az rs l h hl
 unfold specBits at h
 split at h
 ·cases h
  obtain⟨h1,h2,_⟩:=hl
  exact bits_sem _ h1 h2
 ·cases h
noncomputable def mtabW7:MTab:=mtabAdd 148 specQuo (mtabAdd 200 (liftS [shI,shI] specSub) (mtabAdd 149 (liftS [shI,shI] specCmp)
 (mtabAdd 114 (liftS [shV] specOf) (mtabAdd 128 (liftS [shI] specBits) mtabW6))))
theorem mtabW7_ok:ClOk Tryz.prog J0 mtabW7:=mtabAdd_ok specQuo_ok (mtabAdd_ok (liftS_ok _ specSub_ok) (mtabAdd_ok (liftS_ok _ specCmp_ok) (mtabAdd_ok (liftS_ok _ specOf_ok) (mtabAdd_ok (liftS_ok _ specBits_ok) mtabW6_ok))))
noncomputable def bW7:Base:=⟨Tryz.prog,J0,false,tabW4,mtabW7,200,xtN0⟩
theorem bW7_ok:BaseOk bW7:=⟨progOk,tabW4_ok,mtabW7_ok,xtN0_ok⟩
noncomputable abbrev XW7:Cx:=bW7.cx 10
end Go.Proofs.YtdgfhijnconaoaaGreatDoor
namespace Go.Proofs.YtdgfhijnconaoaaGreatDoor
open Go Go.RowKit Ev Wd
noncomputable def cPow:Code:=loopAt Tryz.prog 147 0
def TPw0 (xs L:List Int) (n:Int):St:=⟨only 23 [(1, .int .i64 n),(2, .pointer (some ⟨13,0,none⟩)),(4, .pointer (some ⟨14,0,none⟩)),(5, .pointer (some ⟨17,0,none⟩))],
 [(17, .cells [.bool false,slV 15 L.length] intT),(15, .row u64T 1 (.ints .u64 L) 16),(14, .cells [.bool false, .slice none 0 0] intT),(13, .cells [.bool false,slV 11 xs.length] intT),(11, .ints .u64 xs)],19,[],[],0,none,[],13⟩
def TPw1 (xs L:List Int) (n:Int):St:=⟨only 23 [(1, .int .i64 n),(2, .pointer (some ⟨13,0,none⟩)),(4, .pointer (some ⟨14,0,none⟩)),(5, .pointer (some ⟨17,0,none⟩))],
 [(17, .cells [.bool false,slV 15 L.length] intT),(15, .row u64T 1 (.ints .u64 L) 16),(14, .cells [.bool false, .slice none 0 0] intT),(13, .cells [.bool false,slV 21 xs.length] intT),(21, .row u64T 1 (.ints .u64 xs) 22)],23,[],[],0,none,[],13⟩
def TPo (L:List Int):St:=⟨only 23 [(4, .pointer (some ⟨14,0,none⟩)),(5, .pointer (some ⟨17,0,none⟩))],
 [(17, .cells [.bool false,slV 15 L.length] intT),(15, .row u64T 1 (.ints .u64 L) 16),(14, .cells [.bool false, .slice none 0 0] intT)],19,[],[],0,none,[],13⟩
def halfI (n:Int):Int:=IntKind.i64.wrap (n.tdiv 2)
abbrev selfT (L:List Int):List Int:=L.take L.length
theorem p0_odd (xs L:List Int) (n:Int) (hl:allP [xs.length=xs.length,xs.length=xs.length,Cn xs,Cn xs,xs.length < 274877906944,xs.length < 274877906944,decide (Int.ofNat 1 < n)=true,L.length≤L.length,xs.length=xs.length,Cn (List.take L.length L),Cn xs,(List.take L.length L).length < 274877906944,xs.length < 274877906944,(n.tmod (Int.ofNat 2)==Int.ofNat 1)=true,decide (Int.ofNat 0 < n)=true]):Step XW7 cPow (TPw0 xs L n) .normal (TPw1 (mulX xs xs) (mulX (selfT L) xs) (halfI n)):=
 step_of (Base.cx_ok bW7_ok 10).1 progOk.mixed [] 200 [true,true,true] [(15,19),(16,20),(21,22),(22,23)] (by kernel_rfl) hl (by kernel_rfl) (by kernel_rfl)
theorem p0_even (xs L:List Int) (n:Int) (hl:allP [xs.length=xs.length,xs.length=xs.length,Cn xs,Cn xs,xs.length < 274877906944,xs.length < 274877906944,decide (Int.ofNat 1 < n)=true,(n.tmod (Int.ofNat 2)==Int.ofNat 1)=false,decide (Int.ofNat 0 < n)=true]):Step XW7 cPow (TPw0 xs L n) .normal (TPw1 (mulX xs xs) L (halfI n)):=
 step_of (Base.cx_ok bW7_ok 10).1 progOk.mixed [] 200 [true,false,true] [(21,19),(22,20)] (by kernel_rfl) hl (by kernel_rfl) (by kernel_rfl)
theorem p0_last (xs L:List Int) (n:Int) (hl:allP [decide (Int.ofNat 1 < n)=false,L.length≤L.length,xs.length=xs.length,Cn (List.take L.length L),Cn xs,(List.take L.length L).length < 274877906944,xs.length < 274877906944,(n.tmod (Int.ofNat 2)==Int.ofNat 1)=true,decide (Int.ofNat 0 < n)=true]):Step XW7 cPow (TPw0 xs L n) .normal (TPw0 xs (mulX (selfT L) xs) (halfI n)):=
 step_of (Base.cx_ok bW7_ok 10).1 progOk.mixed [] 200 [true,true,false] [(15,19),(16,20)] (by kernel_rfl) hl (by kernel_rfl) (by kernel_rfl)
theorem p0_out (xs L:List Int) (n:Int) (hl:allP [decide (Int.ofNat 0 < n)=false]):Step XW7 cPow (TPw0 xs L n) (.exit 0) (TPo L):=
 step_of (Base.cx_ok bW7_ok 10).1 progOk.mixed [] 200 [false] [] (by kernel_rfl) hl (by kernel_rfl) (by kernel_rfl)
theorem p1_odd (xs L:List Int) (n:Int) (hl:allP [xs.length≤xs.length,xs.length≤xs.length,Cn (List.take xs.length xs),Cn (List.take xs.length xs),(List.take xs.length xs).length < 274877906944,(List.take xs.length xs).length < 274877906944,decide (Int.ofNat 1 < n)=true,L.length≤L.length,xs.length≤xs.length,Cn (List.take L.length L),Cn (List.take xs.length xs),(List.take L.length L).length < 274877906944,(List.take xs.length xs).length < 274877906944,(n.tmod (Int.ofNat 2)==Int.ofNat 1)=true,decide (Int.ofNat 0 < n)=true]):Step XW7 cPow (TPw1 xs L n) .normal (TPw1 (mulX (selfT xs) (selfT xs)) (mulX (selfT L) (selfT xs)) (halfI n)):=
 step_of (Base.cx_ok bW7_ok 10).1 progOk.mixed [] 200 [true,true,true] [(15,23),(16,24),(21,26),(22,27)] (by kernel_rfl) hl (by kernel_rfl) (by kernel_rfl)
theorem p1_even (xs L:List Int) (n:Int) (hl:allP [xs.length≤xs.length,xs.length≤xs.length,Cn (List.take xs.length xs),Cn (List.take xs.length xs),(List.take xs.length xs).length < 274877906944,(List.take xs.length xs).length < 274877906944,decide (Int.ofNat 1 < n)=true,(n.tmod (Int.ofNat 2)==Int.ofNat 1)=false,decide (Int.ofNat 0 < n)=true]):Step XW7 cPow (TPw1 xs L n) .normal (TPw1 (mulX (selfT xs) (selfT xs)) L (halfI n)):=
 step_of (Base.cx_ok bW7_ok 10).1 progOk.mixed [] 200 [true,false,true] [(21,23),(22,24)] (by kernel_rfl) hl (by kernel_rfl) (by kernel_rfl)
theorem p1_last (xs L:List Int) (n:Int) (hl:allP [decide (Int.ofNat 1 < n)=false,L.length≤L.length,xs.length≤xs.length,Cn (List.take L.length L),Cn (List.take xs.length xs),(List.take L.length L).length < 274877906944,(List.take xs.length xs).length < 274877906944,(n.tmod (Int.ofNat 2)==Int.ofNat 1)=true,decide (Int.ofNat 0 < n)=true]):Step XW7 cPow (TPw1 xs L n) .normal (TPw1 xs (mulX (selfT L) (selfT xs)) (halfI n)):=
 step_of (Base.cx_ok bW7_ok 10).1 progOk.mixed [] 200 [true,true,false] [(15,23),(16,24)] (by kernel_rfl) hl (by kernel_rfl) (by kernel_rfl)
theorem p1_out (xs L:List Int) (n:Int) (hl:allP [decide (Int.ofNat 0 < n)=false]):Step XW7 cPow (TPw1 xs L n) (.exit 0) (TPo L):=
 step_of (Base.cx_ok bW7_ok 10).1 progOk.mixed [] 200 [false] [] (by kernel_rfl) hl (by kernel_rfl) (by kernel_rfl)
theorem pow_way (s:Bool) (xs L R:List Int) (n:Int):semR XW7 [told (.exit 0) (fun _=>TPo L)] 200 147 [iL false xs,iR n] [iL s R] [] =some [LoopTo XW7 cPow (semStart XW7 200 147 [iL false xs,iR n] []) (.exit 0) (TPo L),Int.ofNat 0≤Int.ofNat 1∧1 < 18446744073709551616,Value.bool false=Value.bool s,L.length=R.length∧L.length≤L.length∧List.take L.length L=R] :=by kernel_rfl
theorem pow_into (xs:List Int) (n:Int) (x:AX) (s':St) (h:LoopTo XW7 cPow (TPw0 xs (wrdX 1) n) x s'):LoopTo XW7 cPow (semStart XW7 200 147 [iL false xs,iR n] []) x s':=
 loop_into' h [] (by kernel_rfl) (by kernel_rfl) (by kernel_rfl)
end Go.Proofs.YtdgfhijnconaoaaGreatDoor
namespace Go.Proofs.YtdgfhijnconaoaaGreatDoor
open Go Go.RowKit Ev Wd
structure PwPl where
 first:Bool
 X:Nat
 O:Nat
 n:Nat
def TPw (p:PwPl):St:=match p.first with
 | true=>TPw0 (ws W64 p.X) (ws W64 p.O) (p.n:Int)
 | false=>TPw1 (ws W64 p.X) (ws W64 p.O) (p.n:Int)
theorem mulX_ws (a b:Nat):mulX (ws W64 a) (ws W64 b)=ws W64 (a*b):=by unfold mulX; rw [wsVal,wsVal]
theorem selfT_eq (L:List Int):selfT L=L:=List.take_length
theorem half_nat {n:Nat} (h:n < 4611686018427387904):halfI (n:Int)=((n/2:Nat):Int):=by
 unfold halfI
 have:=(Int.ofNat_tdiv n 2).symm
 have e:(n:Int).tdiv 2=((n/2:Nat):Int):=this
 rw [e,wrap_nat (by omega)]
theorem odd_nat {n:Nat} (b:Bool) (h:decide (n%2=1)=b):((n:Int).tmod (Int.ofNat 2)==Int.ofNat 1)=b:=by
 have e:(n:Int).tmod (Int.ofNat 2)=((n%2:Nat):Int):=(Int.ofNat_tmod n 2).symm
 rw [e,← h]
 by_cases h1:n%2=1
 ·rw [h1]; rfl
 ·have:n%2=0:=by omega
  rw [this]; rfl
def goodW (R:Nat) (p:PwPl):Prop:=wl p.O+p.n*wl p.X < 274877906944∧p.O*p.X ^p.n=R∧p.n < 4611686018427387904
theorem pow_half (X n:Nat):(X*X) ^(n/2)*X ^(n%2)=X ^n:=by
 have h:X*X=X ^2:=by rw [Nat.pow_succ,Nat.pow_one]
 rw [h,← Nat.pow_mul,← Nat.pow_add]
 congr 1
 omega
theorem pow_step {R:Nat} {p:PwPl} (h:goodW R p):(∃ q,goodW R q∧q.n < p.n∧Step XW7 cPow (TPw p) .normal (TPw q))∨Step XW7 cPow (TPw p) (.exit 0) (TPo (ws W64 R)):=by
 obtain⟨f,X,O,n⟩:=p
 obtain⟨h1,h2,h3⟩:=h
 simp only at h1 h2 h3
 have hX:=Cn.ws X
 have hO:=Cn.ws O
 have hX':Cn (List.take (ws W64 X).length (ws W64 X)):=by rw [List.take_length]; exact hX
 have hO':Cn (List.take (ws W64 O).length (ws W64 O)):=by rw [List.take_length]; exact hO
 have hh:=half_nat h3
 rcases Nat.eq_zero_or_pos n with h0 | h0
 ·subst h0
  rw [Nat.pow_zero,Nat.mul_one] at h2
  subst h2
  right
  cases f
  ·exact p1_out _ _ _ ⟨rfl,trivial⟩
  ·exact p0_out _ _ _ ⟨rfl,trivial⟩
 left
 have hpos:decide (Int.ofNat 0 < (n:Int))=true:=decide_eq_true (Int.ofNat_lt.2 h0)
 have hle:wl X≤n*wl X:=Nat.le_mul_of_pos_left _ h0
 have lX:(ws W64 X).length < 274877906944:=by show wl X < _; omega
 have lO:(ws W64 O).length < 274877906944:=by show wl O < _; omega
 have lX':(List.take (ws W64 X).length (ws W64 X)).length < 274877906944:=by rw [List.take_length]; exact lX
 have lO':(List.take (ws W64 O).length (ws W64 O)).length < 274877906944:=by rw [List.take_length]; exact lO
 have w1:=wl_mul O X
 have w2:=wl_mul X X
 by_cases hn1:n=1
 ·subst hn1
  rw [Nat.pow_one] at h2
  have hodd:(((1:Nat):Int).tmod (Int.ofNat 2)==Int.ofNat 1)=true:=by decide
  have hn2:decide (Int.ofNat 1 < ((1:Nat):Int))=false:=by decide
  refine⟨⟨f,X,O*X,0⟩,⟨by simp only; omega,by simpa using h2,by simp⟩,by simp,?_⟩
  cases f
  ·have:=p1_last (ws W64 X) (ws W64 O) ((1:Nat):Int) ⟨hn2,Nat.le_refl _,Nat.le_refl _,hO',hX',lO',lX',hodd,hpos,trivial⟩
   rw [selfT_eq,selfT_eq,mulX_ws,hh] at this
   exact this
  ·have:=p0_last (ws W64 X) (ws W64 O) ((1:Nat):Int) ⟨hn2,Nat.le_refl _,rfl,hO',hX,lO',lX,hodd,hpos,trivial⟩
   rw [selfT_eq,mulX_ws,hh] at this
   exact this
 ·have hn2:decide (Int.ofNat 1 < (n:Int))=true:=decide_eq_true (Int.ofNat_lt.2 (by omega))
  have hd:n/2*(2*wl X)+n%2*wl X=n*wl X:=by
   rw [← Nat.mul_assoc,← Nat.add_mul]
   congr 1
   omega
  have hm:n/2*wl (X*X)≤n/2*(2*wl X):=Nat.mul_le_mul_left _ (by omega)
  have hp:=pow_half X n
  by_cases ho:n%2=1
  ·have hodd:=odd_nat (n:=n) true (decide_eq_true ho)
   rw [ho,Nat.pow_one] at hp
   rw [ho,Nat.one_mul] at hd
   refine⟨⟨false,X*X,O*X,n/2⟩,⟨by simp only; omega,?_,by simp only; omega⟩,by simp only; omega,?_⟩
   ·simp only
    rw [← h2,← hp,Nat.mul_assoc,Nat.mul_comm X]
   cases f
   ·have:=p1_odd (ws W64 X) (ws W64 O) (n:Int) ⟨Nat.le_refl _,Nat.le_refl _,hX',hX',lX',lX',hn2,Nat.le_refl _,Nat.le_refl _,hO',hX',lO',lX',hodd,hpos,trivial⟩
    rw [selfT_eq,selfT_eq,mulX_ws,mulX_ws,hh] at this
    exact this
   ·have:=p0_odd (ws W64 X) (ws W64 O) (n:Int) ⟨rfl,rfl,hX,hX,lX,lX,hn2,Nat.le_refl _,rfl,hO',hX,lO',lX,hodd,hpos,trivial⟩
    rw [selfT_eq,mulX_ws,mulX_ws,hh] at this
    exact this
  ·have hodd:=odd_nat (n:=n) false (decide_eq_false ho)
   have ho:n%2=0:=by omega
   rw [ho,Nat.pow_zero,Nat.mul_one] at hp
   rw [ho,Nat.zero_mul,Nat.add_zero] at hd
   refine⟨⟨false,X*X,O,n/2⟩,⟨by simp only; omega,by simp only; rw [hp]; exact h2,by simp only; omega⟩,by simp only; omega,?_⟩
   cases f
   ·have:=p1_even (ws W64 X) (ws W64 O) (n:Int) ⟨Nat.le_refl _,Nat.le_refl _,hX',hX',lX',lX',hn2,hodd,hpos,trivial⟩
    rw [selfT_eq,mulX_ws,hh] at this
    exact this
   ·have:=p0_even (ws W64 X) (ws W64 O) (n:Int) ⟨rfl,rfl,hX,hX,lX,lX,hn2,hodd,hpos,trivial⟩
    rw [mulX_ws,hh] at this
    exact this
theorem power_sem {X n:Nat} (h1:1+n*wl X < 274877906944) (h2:n < 4611686018427387904):Ev.Sem Tryz.prog J0 147 [iL false (ws W64 X),iR (n:Int)] [iW false (ws W64 (X ^n))] :=by
 have hw1:wl 1≤1:=wl_le.2 (by rw [Nat.pow_one]; decide)
 have hL:=loop_of (X:=XW7) (c:=cPow) (x:= .exit 0) TPw (fun p=>p.n) (goodW (X ^n)) (by intro e; cases e) (s':=TPo (ws W64 (X ^n))) (fun p hp=>by
  rcases pow_step hp with ⟨q,a,b,c⟩ | h
  ·exact .inl ⟨q,a,b,c⟩
  ·exact .inr h) ⟨true,X,1,n⟩ ⟨by simp only; omega,by simp,h2⟩
 exact sem_of bW7_ok 10 _ _ (pow_way false (ws W64 X) (ws W64 (X ^n)) _ (n:Int)) ⟨pow_into _ _ _ _ hL,⟨by simp,by decide⟩,rfl,⟨rfl,Nat.le_refl _,List.take_length⟩,trivial⟩
def powX (xs:List Int) (n:Int):List Int:=ws W64 (val W64 xs ^n.toNat)
def specPower:List Arg→Option (List Arg×List Prop)
 | [.a [.v (.bool false), .s 32 .u64 xs], .c (.v (.int .i64 n))] =>some ([iW false (powX xs n)],[Cn xs,0≤n∧n.toNat < 4611686018427387904,1+n.toNat*xs.length < 274877906944])
 | _=>none
theorem specPower_ok:∀ az rs l,specPower az=some (rs,l)→allP l→Ev.Sem Tryz.prog J0 147 az rs:=by
 intro az rs l h hl
 unfold specPower at h
 split at h
 ·cases h
  rename_i xs n
  obtain⟨h1,⟨h2,h3⟩,h4,_⟩:=hl
  unfold Cn at h1
  have:=power_sem (X:=val W64 xs) (n:=n.toNat) (by unfold wl; rw [← h1]; exact h4) h3
  rw [← h1,Int.toNat_of_nonneg h2] at this
  exact this
 ·cases h
end Go.Proofs.YtdgfhijnconaoaaGreatDoor
namespace Go.Proofs
def Tryz.lays287_ren:Go.Shelf.Ren:=⟨fun | 287=>215 | 321=>232 | 322=>233 | n=>n,fun | 9=>9 | 3=>3 | 53=>32 | 75=>170 | 4=>4 | 167=>274 | 5=>5 | 46=>110 | 37=>22 | 0=>0 | 21=>21 | 80=>159 | n=>n,fun | n=>n⟩
theorem Tryz.lays287:Go.Proofs.Lays.n287 Tryz.prog Tryz.lays287_ren where
 mixed:=by kernel_rfl
 f287:=Tryz.func215.trans (congrArg some (by kernel_rfl))
 f321:=Tryz.func232.trans (congrArg some (by kernel_rfl))
 f322:=Tryz.func233.trans (congrArg some (by kernel_rfl))
 t0:=Tryz.underlying0
 a0:=Tryz.isAgg0
 z0:=Tryz.sizeOf0
 v0:=Tryz.zeroValue0
 t3:=Tryz.underlying3
 a3:=Tryz.isAgg3
 z3:=Tryz.sizeOf3
 v3:=Tryz.zeroValue3
 t4:=Tryz.underlying4
 a4:=Tryz.isAgg4
 z4:=Tryz.sizeOf4
 v4:=Tryz.zeroValue4
 t5:=Tryz.underlying5
 a5:=Tryz.isAgg5
 z5:=Tryz.sizeOf5
 v5:=Tryz.zeroValue5
 t9:=Tryz.underlying9
 a9:=Tryz.isAgg9
 z9:=Tryz.sizeOf9
 v9:=Tryz.zeroValue9
 t21:=Tryz.underlying21
 a21:=Tryz.isAgg21
 z21:=Tryz.sizeOf21
 v21:=Tryz.zeroValue21
 t37:=Tryz.underlying22
 a37:=Tryz.isAgg22
 z37:=Tryz.sizeOf22
 v37:=Tryz.zeroValue22
 t46:=Tryz.underlying110
 a46:=Tryz.isAgg110
 z46:=Tryz.sizeOf110
 v46:=Tryz.zeroValue110
 t53:=Tryz.underlying32
 a53:=Tryz.isAgg32
 z53:=Tryz.sizeOf32
 v53:=Tryz.zeroValue32
 t75:=Tryz.underlying170
 a75:=Tryz.isAgg170
 z75:=Tryz.sizeOf170
 v75:=Tryz.zeroValue170
 t167:=Tryz.underlying274
 a167:=Tryz.isAgg274
 z167:=Tryz.sizeOf274
 v167:=Tryz.zeroValue274
namespace YtdgfhijnconaoaaGreatDoor
open Go Go.RowKit Ev Wd
def decV (l:List UInt8):Int:=(((Lib.decFrom 0 l).getD 0:Nat):Int)
def AllD (l:List UInt8):Prop:=(Lib.decFrom 0 l).isSome=true
theorem parse_short {l:List UInt8} (h1:AllD l) (h2:l.length≤18) (h3:l≠[]):Lib.parseUintB 64 l= .ok ((Lib.decFrom 0 l).getD 0):=by
 have eM:(2:Nat) ^64-1=18446744073709551615:=by decide
 unfold Lib.parseUintB
 rw [if_neg h3,eM,Lib.parseUintM_64,Lib.parseUint10_short l 0 0 (by decide) (by omega)]
 unfold AllD at h1
 cases h:Lib.decFrom 0 l with
 | none=>rw [h] at h1; cases h1
 | some n=>rfl
def specPU:List Value→Option (Value×List Prop)
 | [.string s, .int .i64 10, .int .i64 64] =>some (.tuple ⟨[.int .u64 (decV s.data.toList), .nilIface]⟩,[AllD s.data.toList,s.data.toList.length≤18,0 < s.data.toList.length])
 | _=>none
theorem specPU_ok (args:List Value) (v:Value) (l:List Prop) (h:specPU args=some (v,l)) (hl:allP l):Pure Tryz.prog J0 215 args v:=by
 unfold specPU at h
 split at h
 case h_2=>cases h
 rename_i s
 cases h
 obtain⟨h1,h2,h3,_⟩:=hl
 refine⟨rfl,rfl, .inl ⟨enters_of Tryz.func215 (by kernel_rfl) (c:=_) rfl,fun w hI=> ?_⟩⟩
 have hs:s.size=s.data.toList.length:=rfl
 refine (Any.internal_strconv_ParseUint_10_at64 Tryz.lays287 s (by omega) w).mono fun e w' ⟨he,hw⟩=>⟨?_,?_⟩
 ·rw [he,parse_short h1 h2 (by intro e; rw [e] at h3; cases h3)]
  rfl
 ·rcases hw with rfl | rfl
  ·exact Below.refl _ _
  ·exact Lib.bytesWorld_below _ _ _
noncomputable def tabW8:Tab:=tabAdd 215 specPU tabW4
theorem tabW8_ok:PcOk Tryz.prog J0 tabW8:=tabAdd_ok specPU_ok tabW4_ok
noncomputable def mtabW8:MTab:=mtabAdd 147 (liftS [shI,shV] specPower) mtabW7
theorem mtabW8_ok:ClOk Tryz.prog J0 mtabW8:=mtabAdd_ok (liftS_ok _ specPower_ok) mtabW7_ok
noncomputable def bW8:Base:=⟨Tryz.prog,J0,false,tabW8,mtabW8,200,xtN0⟩
theorem bW8_ok:BaseOk bW8:=⟨progOk,tabW8_ok,mtabW8_ok,xtN0_ok⟩
noncomputable abbrev XW8:Cx:=bW8.cx 10
end YtdgfhijnconaoaaGreatDoor
end Go.Proofs
namespace Go.Proofs.YtdgfhijnconaoaaGreatDoor
open Go Go.RowKit Ev Wd
noncomputable def cPar:Code:=loopAt Tryz.prog 126 0
def TPa0 (l:List UInt8):St:=⟨only 32 [(0, .string ⟨⟨l⟩⟩),(2, .pointer (some ⟨11,0,none⟩)),(3, .pointer (some ⟨12,0,none⟩))],
 [(12, .cells [.bool false, .slice none 0 0] intT),(11, .cells [.bool false, .slice none 0 0] intT)],14,[],[],0,none,[],11⟩
def TPa1 (l:List UInt8) (xs:List Int):St:=⟨only 32 [(0, .string ⟨⟨l⟩⟩),(2, .pointer (some ⟨11,0,none⟩)),(3, .pointer (some ⟨12,0,none⟩))],
 [(12, .cells [.bool false,slV 21 xs.length] intT),(11, .cells [.bool false, .slice none 0 0] intT),(21, .row u64T 1 (.ints .u64 xs) 22)],23,[],[],0,none,[],11⟩
def parK (l:List UInt8):Int:=if Int.ofNat 18 < Int.ofNat l.length then Int.ofNat 18 else Int.ofNat l.length
def parP (l:List UInt8):List Int:=powX [10] (parK l)
def parM (xs:List Int) (l:List UInt8):List Int:=mulX xs (parP l)
def parW (l:List UInt8):List Int:=wrdX (decV (l.take (parK l).toNat))
def parX (xs:List Int) (l:List UInt8):List Int:=addX (sgnX false (parM xs l)) false ((parM xs l).take (parM xs l).length) ((parW l).take (parW l).length)
theorem par_first (l:List UInt8) (hl:allP [(Int.ofNat 0≤if Int.ofNat 18 < Int.ofNat l.length then Int.ofNat 18 else Int.ofNat l.length)∧(if Int.ofNat 18 < Int.ofNat l.length then Int.ofNat 18 else Int.ofNat l.length)≤Int.ofNat l.length,(mulX [] (powX [Int.ofNat 10] (if Int.ofNat 18 < Int.ofNat l.length then Int.ofNat 18 else Int.ofNat l.length))).length≤(mulX [] (powX [Int.ofNat 10] (if Int.ofNat 18 < Int.ofNat l.length then Int.ofNat 18 else Int.ofNat l.length))).length,(wrdX (decV (List.take (if Int.ofNat 18 < Int.ofNat l.length then Int.ofNat 18 else Int.ofNat l.length).toNat l))).length≤(wrdX (decV (List.take (if Int.ofNat 18 < Int.ofNat l.length then Int.ofNat 18 else Int.ofNat l.length).toNat l))).length,Cn (List.take (mulX [] (powX [Int.ofNat 10] (if Int.ofNat 18 < Int.ofNat l.length then Int.ofNat 18 else Int.ofNat l.length))).length (mulX [] (powX [Int.ofNat 10] (if Int.ofNat 18 < Int.ofNat l.length then Int.ofNat 18 else Int.ofNat l.length)))),Cn (List.take (wrdX (decV (List.take (if Int.ofNat 18 < Int.ofNat l.length then Int.ofNat 18 else Int.ofNat l.length).toNat l))).length (wrdX (decV (List.take (if Int.ofNat 18 < Int.ofNat l.length then Int.ofNat 18 else Int.ofNat l.length).toNat l)))),(List.take (mulX [] (powX [Int.ofNat 10] (if Int.ofNat 18 < Int.ofNat l.length then Int.ofNat 18 else Int.ofNat l.length))).length (mulX [] (powX [Int.ofNat 10] (if Int.ofNat 18 < Int.ofNat l.length then Int.ofNat 18 else Int.ofNat l.length)))).length < 549755813888,(List.take (wrdX (decV (List.take (if Int.ofNat 18 < Int.ofNat l.length then Int.ofNat 18 else Int.ofNat l.length).toNat l))).length (wrdX (decV (List.take (if Int.ofNat 18 < Int.ofNat l.length then Int.ofNat 18 else Int.ofNat l.length).toNat l)))).length < 549755813888,Int.ofNat 0≤decV (List.take (if Int.ofNat 18 < Int.ofNat l.length then Int.ofNat 18 else Int.ofNat l.length).toNat l)∧(decV (List.take (if Int.ofNat 18 < Int.ofNat l.length then Int.ofNat 18 else Int.ofNat l.length).toNat l)).toNat < 18446744073709551616,(powX [Int.ofNat 10] (if Int.ofNat 18 < Int.ofNat l.length then Int.ofNat 18 else Int.ofNat l.length)).length=(powX [Int.ofNat 10] (if Int.ofNat 18 < Int.ofNat l.length then Int.ofNat 18 else Int.ofNat l.length)).length,Cn [],Cn (powX [Int.ofNat 10] (if Int.ofNat 18 < Int.ofNat l.length then Int.ofNat 18 else Int.ofNat l.length)),0 < 274877906944,(powX [Int.ofNat 10] (if Int.ofNat 18 < Int.ofNat l.length then Int.ofNat 18 else Int.ofNat l.length)).length < 274877906944,1≤1,Cn [Int.ofNat 10],(Int.ofNat 0≤if Int.ofNat 18 < Int.ofNat l.length then Int.ofNat 18 else Int.ofNat l.length)∧(if Int.ofNat 18 < Int.ofNat l.length then Int.ofNat 18 else Int.ofNat l.length).toNat < 4611686018427387904,1+(if Int.ofNat 18 < Int.ofNat l.length then Int.ofNat 18 else Int.ofNat l.length).toNat*1 < 274877906944,Int.ofNat 0≤Int.ofNat 10∧10 < 18446744073709551616,AllD (List.take (if Int.ofNat 18 < Int.ofNat l.length then Int.ofNat 18 else Int.ofNat l.length).toNat l),(List.take (if Int.ofNat 18 < Int.ofNat l.length then Int.ofNat 18 else Int.ofNat l.length).toNat l).length≤18,0 < (List.take (if Int.ofNat 18 < Int.ofNat l.length then Int.ofNat 18 else Int.ofNat l.length).toNat l).length,(Int.ofNat 0≤if Int.ofNat 18 < Int.ofNat l.length then Int.ofNat 18 else Int.ofNat l.length)∧(if Int.ofNat 18 < Int.ofNat l.length then Int.ofNat 18 else Int.ofNat l.length)≤Int.ofNat l.length,decide (Int.ofNat 0 < Int.ofNat l.length)=true]):Step XW8 cPar (TPa0 l) .normal (TPa1 (l.drop (parK l).toNat) (parX [] l)):=
 step_of (Base.cx_ok bW8_ok 10).1 progOk.mixed [] 200 [true] [(21,24),(22,25)] (by kernel_rfl) hl (by kernel_rfl) (by kernel_rfl)
theorem par_out0 (l:List UInt8) (hl:allP [decide (Int.ofNat 0 < Int.ofNat l.length)=false]):Step XW8 cPar (TPa0 l) (.exit 0) (TPa0 l):=
 step_of (Base.cx_ok bW8_ok 10).1 progOk.mixed [] 200 [false] [] (by kernel_rfl) hl (by kernel_rfl) (by kernel_rfl)
theorem par_out1 (l:List UInt8) (xs:List Int) (hl:allP [decide (Int.ofNat 0 < Int.ofNat l.length)=false]):Step XW8 cPar (TPa1 l xs) (.exit 0) (TPa1 l xs):=
 step_of (Base.cx_ok bW8_ok 10).1 progOk.mixed [] 200 [false] [] (by kernel_rfl) hl (by kernel_rfl) (by kernel_rfl)
theorem par_next (l:List UInt8) (xs:List Int) (hl:allP [(Int.ofNat 0≤if Int.ofNat 18 < Int.ofNat l.length then Int.ofNat 18 else Int.ofNat l.length)∧(if Int.ofNat 18 < Int.ofNat l.length then Int.ofNat 18 else Int.ofNat l.length)≤Int.ofNat l.length,(mulX xs (powX [Int.ofNat 10] (if Int.ofNat 18 < Int.ofNat l.length then Int.ofNat 18 else Int.ofNat l.length))).length≤(mulX xs (powX [Int.ofNat 10] (if Int.ofNat 18 < Int.ofNat l.length then Int.ofNat 18 else Int.ofNat l.length))).length,(wrdX (decV (List.take (if Int.ofNat 18 < Int.ofNat l.length then Int.ofNat 18 else Int.ofNat l.length).toNat l))).length≤(wrdX (decV (List.take (if Int.ofNat 18 < Int.ofNat l.length then Int.ofNat 18 else Int.ofNat l.length).toNat l))).length,Cn (List.take (mulX xs (powX [Int.ofNat 10] (if Int.ofNat 18 < Int.ofNat l.length then Int.ofNat 18 else Int.ofNat l.length))).length (mulX xs (powX [Int.ofNat 10] (if Int.ofNat 18 < Int.ofNat l.length then Int.ofNat 18 else Int.ofNat l.length)))),Cn (List.take (wrdX (decV (List.take (if Int.ofNat 18 < Int.ofNat l.length then Int.ofNat 18 else Int.ofNat l.length).toNat l))).length (wrdX (decV (List.take (if Int.ofNat 18 < Int.ofNat l.length then Int.ofNat 18 else Int.ofNat l.length).toNat l)))),(List.take (mulX xs (powX [Int.ofNat 10] (if Int.ofNat 18 < Int.ofNat l.length then Int.ofNat 18 else Int.ofNat l.length))).length (mulX xs (powX [Int.ofNat 10] (if Int.ofNat 18 < Int.ofNat l.length then Int.ofNat 18 else Int.ofNat l.length)))).length < 549755813888,(List.take (wrdX (decV (List.take (if Int.ofNat 18 < Int.ofNat l.length then Int.ofNat 18 else Int.ofNat l.length).toNat l))).length (wrdX (decV (List.take (if Int.ofNat 18 < Int.ofNat l.length then Int.ofNat 18 else Int.ofNat l.length).toNat l)))).length < 549755813888,Int.ofNat 0≤decV (List.take (if Int.ofNat 18 < Int.ofNat l.length then Int.ofNat 18 else Int.ofNat l.length).toNat l)∧(decV (List.take (if Int.ofNat 18 < Int.ofNat l.length then Int.ofNat 18 else Int.ofNat l.length).toNat l)).toNat < 18446744073709551616,xs.length=xs.length,(powX [Int.ofNat 10] (if Int.ofNat 18 < Int.ofNat l.length then Int.ofNat 18 else Int.ofNat l.length)).length=(powX [Int.ofNat 10] (if Int.ofNat 18 < Int.ofNat l.length then Int.ofNat 18 else Int.ofNat l.length)).length,Cn xs,Cn (powX [Int.ofNat 10] (if Int.ofNat 18 < Int.ofNat l.length then Int.ofNat 18 else Int.ofNat l.length)),xs.length < 274877906944,(powX [Int.ofNat 10] (if Int.ofNat 18 < Int.ofNat l.length then Int.ofNat 18 else Int.ofNat l.length)).length < 274877906944,1≤1,Cn [Int.ofNat 10],(Int.ofNat 0≤if Int.ofNat 18 < Int.ofNat l.length then Int.ofNat 18 else Int.ofNat l.length)∧(if Int.ofNat 18 < Int.ofNat l.length then Int.ofNat 18 else Int.ofNat l.length).toNat < 4611686018427387904,1+(if Int.ofNat 18 < Int.ofNat l.length then Int.ofNat 18 else Int.ofNat l.length).toNat*1 < 274877906944,Int.ofNat 0≤Int.ofNat 10∧10 < 18446744073709551616,AllD (List.take (if Int.ofNat 18 < Int.ofNat l.length then Int.ofNat 18 else Int.ofNat l.length).toNat l),(List.take (if Int.ofNat 18 < Int.ofNat l.length then Int.ofNat 18 else Int.ofNat l.length).toNat l).length≤18,0 < (List.take (if Int.ofNat 18 < Int.ofNat l.length then Int.ofNat 18 else Int.ofNat l.length).toNat l).length,(Int.ofNat 0≤if Int.ofNat 18 < Int.ofNat l.length then Int.ofNat 18 else Int.ofNat l.length)∧(if Int.ofNat 18 < Int.ofNat l.length then Int.ofNat 18 else Int.ofNat l.length)≤Int.ofNat l.length,decide (Int.ofNat 0 < Int.ofNat l.length)=true]):Step XW8 cPar (TPa1 l xs) .normal (TPa1 (l.drop (parK l).toNat) (parX xs l)):=
 step_of (Base.cx_ok bW8_ok 10).1 progOk.mixed [] 200 [true] [(21,33),(22,34)] (by kernel_rfl) hl (by kernel_rfl) (by kernel_rfl)
theorem parse_way0 (l l':List UInt8) (s:Bool) (R:List Int):semR XW8 [told (.exit 0) (fun _=>TPa0 l')] 200 126 [.c (.v (.string ⟨⟨l⟩⟩))] [iL s R] [] =some [LoopTo XW8 cPar (semStart XW8 200 126 [.c (.v (.string ⟨⟨l⟩⟩))] []) (.exit 0) (TPa0 l'),Value.bool false=Value.bool s,R=[]] :=by kernel_rfl
theorem parse_way1 (l l':List UInt8) (s:Bool) (xs R:List Int):semR XW8 [told (.exit 0) (fun _=>TPa1 l' xs)] 200 126 [.c (.v (.string ⟨⟨l⟩⟩))] [iL s R] [] =some [LoopTo XW8 cPar (semStart XW8 200 126 [.c (.v (.string ⟨⟨l⟩⟩))] []) (.exit 0) (TPa1 l' xs),Value.bool false=Value.bool s,xs.length=R.length∧xs.length≤xs.length∧List.take xs.length xs=R] :=by kernel_rfl
theorem par_into (l:List UInt8) (x:AX) (s':St) (h:LoopTo XW8 cPar (TPa0 l) x s'):LoopTo XW8 cPar (semStart XW8 200 126 [.c (.v (.string ⟨⟨l⟩⟩))] []) x s':=
 loop_into' h [] (by kernel_rfl) (by kernel_rfl) (by kernel_rfl)
end Go.Proofs.YtdgfhijnconaoaaGreatDoor
namespace Go.Proofs.YtdgfhijnconaoaaGreatDoor
open Go Go.RowKit Ev Wd
def dgN (l:List UInt8):Nat:=(Lib.decFrom 0 l).getD 0
theorem decFrom_shift:∀ (l:List UInt8) (acc:Nat),Lib.decFrom acc l=(Lib.decFrom 0 l).map (fun n=>acc*10 ^l.length+n)
 | [],acc=>by simp [Lib.decFrom]
 | b ::r,acc=>by
  simp only [Lib.decFrom]
  cases h:Lib.digitVal b with
  | none=>rfl
  | some d=>
   simp only
   rw [decFrom_shift r (acc*10+d),decFrom_shift r (0*10+d)]
   cases Lib.decFrom 0 r with
   | none=>rfl
   | some n=>
    simp only [Option.map_some,List.length_cons,Nat.pow_succ]
    congr 1
    rw [Nat.zero_mul,Nat.zero_add,Nat.add_mul]
    have:acc*10*10 ^r.length=acc*(10 ^r.length*10):=by rw [Nat.mul_assoc,Nat.mul_comm 10]
    omega
theorem decFrom_append:∀ (l m:List UInt8) (acc:Nat),Lib.decFrom acc (l++m)=(Lib.decFrom acc l).bind fun a=>Lib.decFrom a m
 | [],m,acc=>rfl
 | b ::r,m,acc=>by
  simp only [List.cons_append,Lib.decFrom]
  cases Lib.digitVal b with
  | none=>rfl
  | some d=>exact decFrom_append r m _
theorem allD_split {l:List UInt8} (h:AllD l) (k:Nat):AllD (l.take k)∧AllD (l.drop k)∧dgN l=dgN (l.take k)*10 ^(l.drop k).length+dgN (l.drop k):=by
 unfold AllD dgN at*
 have e:=decFrom_append (l.take k) (l.drop k) 0
 rw [List.take_append_drop] at e
 rw [e] at h ⊢
 cases h1:Lib.decFrom 0 (l.take k) with
 | none=>rw [h1] at h; cases h
 | some a=>
  rw [h1] at h
  simp only [Option.bind_some] at h ⊢
  have s1:=decFrom_shift (l.drop k) a
  cases h2:Lib.decFrom 0 (l.drop k) with
  | none=>rw [s1,h2] at h; cases h
  | some n=>
   refine⟨rfl,rfl,?_⟩
   rw [s1,h2]
   rfl
theorem dgN_lt:∀ {l:List UInt8},AllD l→dgN l < 10 ^l.length:=by
 intro l
 induction l with
 | nil=>intro _; simp [dgN,Lib.decFrom]
 | cons b r ih=>
  intro h
  unfold AllD dgN at*
  simp only [Lib.decFrom] at h ⊢
  cases hb:Lib.digitVal b with
  | none=>rw [hb] at h; cases h
  | some d=>
   rw [hb] at h
   simp only at h ⊢
   rw [decFrom_shift] at h ⊢
   have hd:d < 10:=by
    unfold Lib.digitVal at hb
    split at hb
    ·cases hb; omega
    ·cases hb
   cases hr:Lib.decFrom 0 r with
   | none=>rw [hr] at h; cases h
   | some n=>
    have:=ih (by rw [hr]; rfl)
    rw [hr] at this
    simp only [Option.getD_some,Option.map_some,List.length_cons,Nat.pow_succ] at this ⊢
    rw [Nat.zero_mul,Nat.zero_add]
    have q:d*10 ^r.length+10 ^r.length≤10*10 ^r.length:=by
     rw [← Nat.succ_mul]
     exact Nat.mul_le_mul_right _ hd
    omega
theorem wl_ten (k:Nat) {x:Nat} (h:x < 10 ^k):wl x≤k:=
 wl_le.2 (Nat.lt_of_lt_of_le h (Nat.pow_le_pow_left (by decide) k))
theorem par_nums {x:Nat} {l:List UInt8} (_:AllD l) (hp:0 < l.length):∃ k:Nat,parK l=(k:Int)∧0 < k∧k≤18∧k≤l.length∧parP l=ws W64 (10 ^k)∧parM (ws W64 x) l=ws W64 (x*10 ^k)∧parW l=ws W64 (dgN (l.take k))∧parX (ws W64 x) l=ws W64 (x*10 ^k+dgN (l.take k)):=by
 have hk:∃ k:Nat,parK l=(k:Int)∧0 < k∧k≤18∧k≤l.length:=by
  unfold parK
  split
  ·rename_i hlt
   exact⟨18,rfl,by decide,Nat.le_refl _,by have:=Int.ofNat_lt.1 hlt; omega⟩
  ·rename_i hlt
   refine⟨l.length,rfl,hp,?_,Nat.le_refl _⟩
   have:¬ (18 < l.length):=fun h=>hlt (Int.ofNat_lt.2 h)
   omega
 obtain⟨k,e1,e2,e3,e4⟩:=hk
 have eP:parP l=ws W64 (10 ^k):=by
  unfold parP powX
  rw [e1,Int.toNat_natCast]
  rfl
 have eM:parM (ws W64 x) l=ws W64 (x*10 ^k):=by unfold parM; rw [eP,mulX_ws]
 have eW:parW l=ws W64 (dgN (l.take k)):=by
  unfold parW wrdX decV dgN
  rw [e1,Int.toNat_natCast,Int.toNat_natCast]
 refine⟨k,e1,e2,e3,e4,eP,eM,eW,?_⟩
 unfold parX
 rw [eM,eW,List.take_length,List.take_length]
 unfold addX
 rw [wsVal,wsVal]
 rfl
theorem par_step {N R:Nat} (hN:N < 100000000000) {x:Nat} {l:List UInt8} (h:AllD l) (hp:0 < l.length) (hl:l.length≤N) (hx:x < 10 ^(N-l.length)) (hR:x*10 ^l.length+dgN l=R):
  ∃ (k x':Nat),0 < k∧k≤l.length∧AllD (l.drop k)∧x' < 10 ^(N- (l.drop k).length)∧x'*10 ^(l.drop k).length+dgN (l.drop k)=R∧
   (x=0→Step XW8 cPar (TPa0 l) .normal (TPa1 (l.drop k) (ws W64 x')))∧Step XW8 cPar (TPa1 l (ws W64 x)) .normal (TPa1 (l.drop k) (ws W64 x')):=by
 obtain⟨k,e1,e2,e3,e4,eP,eM,eW,eX⟩:=par_nums (x:=x) h hp
 obtain⟨a1,a2,a3⟩:=allD_split h k
 have hdl:(l.drop k).length=l.length-k:=List.length_drop
 have htl:(l.take k).length=k:=by rw [List.length_take]; omega
 have hd:=dgN_lt a1
 rw [htl] at hd
 have hx10:x*10 ^k+dgN (l.take k) < 10 ^(N- (l.drop k).length):=by
  rw [hdl,show N- (l.length-k)=(N-l.length)+k by omega,Nat.pow_add]
  have:(x+1)*10 ^k≤10 ^(N-l.length)*10 ^k:=Nat.mul_le_mul_right _ hx
  rw [Nat.add_mul,Nat.one_mul] at this
  omega
 have hxm:x*10 ^k < 10 ^(N- (l.drop k).length):=by omega
 have hd18:dgN (l.take k) < 10 ^18:=Nat.lt_of_lt_of_le hd (Nat.pow_le_pow_right (by decide) e3)
 have hdW:dgN (l.take k) < W64:=Nat.lt_trans hd18 (by decide)
 have w1:wl x≤N:=by have:=wl_ten _ hx; omega
 have w2:wl (10 ^k)≤k+1:=wl_ten (k+1) (Nat.pow_lt_pow_right (by decide) (Nat.lt_succ_self k))
 have w3:wl (x*10 ^k)≤N:=by have:=wl_ten _ hxm; omega
 have w4:wl (dgN (l.take k))≤18:=wl_ten _ hd18
 have eWt:wrdX (decV (l.take k))=ws W64 (dgN (l.take k)):=by unfold wrdX decV dgN; rw [Int.toNat_natCast]
 have ht:(parK l).toNat=k:=by rw [e1,Int.toNat_natCast]
 have c10:Cn [Int.ofNat 10] :=by show [10] =ws W64 (val W64 [10]); decide
 have oK:Int.ofNat 0≤parK l∧parK l≤Int.ofNat l.length:=by rw [e1]; exact⟨Int.ofNat_le.2 (Nat.zero_le _),Int.ofNat_le.2 e4⟩
 have oK2:Int.ofNat 0≤parK l∧(parK l).toNat < 4611686018427387904:=⟨oK.1,by rw [ht]; omega⟩
 have oK3:1+(parK l).toNat*1 < 274877906944:=by rw [ht]; omega
 have oM:Cn (List.take (parM (ws W64 x) l).length (parM (ws W64 x) l)):=by rw [List.take_length,eM]; exact Cn.ws _
 have oM2:(List.take (parM (ws W64 x) l).length (parM (ws W64 x) l)).length < 549755813888:=by rw [List.take_length,eM]; show wl _ < _; omega
 have oW:Cn (List.take (parW l).length (parW l)):=by rw [List.take_length,eW]; exact Cn.ws _
 have oW2:(List.take (parW l).length (parW l)).length < 549755813888:=by rw [List.take_length,eW]; show wl _ < _; omega
 have oD:Int.ofNat 0≤decV (List.take (parK l).toNat l)∧(decV (List.take (parK l).toNat l)).toNat < 18446744073709551616:=by
  rw [ht]
  unfold decV
  exact⟨Int.ofNat_le.2 (Nat.zero_le _),by rw [Int.toNat_natCast]; exact hdW⟩
 have oP:Cn (parP l):=by rw [eP]; exact Cn.ws _
 have oP2:(parP l).length < 274877906944:=by rw [eP]; show wl _ < _; omega
 have oA:AllD (List.take (parK l).toNat l):=by rw [ht]; exact a1
 have oT:(List.take (parK l).toNat l).length≤18:=by rw [ht,htl]; exact e3
 have oT2:0 < (List.take (parK l).toNat l).length:=by rw [ht,htl]; exact e2
 have oL:decide (Int.ofNat 0 < Int.ofNat l.length)=true:=decide_eq_true (Int.ofNat_lt.2 hp)
 refine⟨k,x*10 ^k+dgN (l.take k),e2,e4,a2,hx10,?_,fun h0=> ?_,?_⟩
 ·rw [← hR,a3,Nat.add_mul,Nat.mul_assoc,← Nat.pow_add,hdl,show k+(l.length-k)=l.length by omega]
  omega
 ·subst h0
  have:=par_first l ⟨oK,Nat.le_refl _,Nat.le_refl _,oM,oW,oM2,oW2,oD,rfl,Cn.ws 0,oP,by decide,oP2,Nat.le_refl _,c10,oK2,oK3,⟨by decide,by decide⟩,oA,oT,oT2,oK,oL,trivial⟩
  rw [ht,show parX [] l=parX (ws W64 0) l from rfl,eX] at this
  exact this
 ·have:=par_next l (ws W64 x) ⟨oK,Nat.le_refl _,Nat.le_refl _,oM,oW,oM2,oW2,oD,rfl,rfl,Cn.ws x,oP,by show wl x < _; omega,oP2,Nat.le_refl _,c10,oK2,oK3,⟨by decide,by decide⟩,oA,oT,oT2,oK,oL,trivial⟩
  rw [ht,eX] at this
  exact this
structure PaPl where
 first:Bool
 x:Nat
 l:List UInt8
def TPa (p:PaPl):St:=match p.first with
 | true=>TPa0 p.l
 | false=>TPa1 p.l (ws W64 p.x)
def goodPa (N R:Nat) (p:PaPl):Prop:=AllD p.l∧p.l.length≤N∧p.x < 10 ^(N-p.l.length)∧p.x*10 ^p.l.length+dgN p.l=R∧(p.first=true→p.x=0∧0 < p.l.length)
theorem parse_sem {l:List UInt8} (h:AllD l) (hN:l.length < 100000000000):Ev.Sem Tryz.prog J0 126 [.c (.v (.string ⟨⟨l⟩⟩))] [iW false (ws W64 (dgN l))] :=by
 rcases Nat.eq_zero_or_pos l.length with h0 | h0
 ·have:=List.eq_nil_of_length_eq_zero h0
  subst this
  have hL:LoopTo XW8 cPar (TPa0 []) (.exit 0) (TPa0 []):=loop_run (fun _=>TPa0 []) 0 (by intro e; cases e) (fun k hk=>by omega) (par_out0 [] ⟨rfl,trivial⟩)
  exact sem_of bW8_ok 10 _ _ (parse_way0 [] [] false _) ⟨par_into _ _ _ hL,rfl,rfl,trivial⟩
 ·have hL:=loop_of (X:=XW8) (c:=cPar) (x:= .exit 0) TPa (fun p=>p.l.length) (goodPa l.length (dgN l)) (by intro e; cases e) (s':=TPa1 [] (ws W64 (dgN l))) (fun p hp=>by
   obtain⟨f,x,r⟩:=p
   obtain⟨g1,g2,g3,g4,g5⟩:=hp
   simp only at g1 g2 g3 g4 g5
   rcases Nat.eq_zero_or_pos r.length with q | q
   ·have:=List.eq_nil_of_length_eq_zero q
    subst this
    cases f
    ·right
     have e:x=dgN l:=by
      rw [← g4]
      simp [dgN,Lib.decFrom]
     subst e
     exact par_out1 [] _ ⟨rfl,trivial⟩
    ·exact absurd (g5 rfl).2 (by simp)
   ·left
    obtain⟨k,x',k1,k2,k3,k4,k5,k6,k7⟩:=par_step hN g1 q g2 g3 g4
    refine⟨⟨false,x',r.drop k⟩,⟨k3,by simp only [List.length_drop]; omega,k4,k5,by intro e; cases e⟩,by simp only [List.length_drop]; omega,?_⟩
    cases f
    ·exact k7
    ·exact k6 (g5 rfl).1) ⟨true,0,l⟩ ⟨h,Nat.le_refl _,by simp,by simp,fun _=>⟨rfl,h0⟩⟩
  exact sem_of bW8_ok 10 _ _ (parse_way1 l [] false _ _) ⟨par_into _ _ _ hL,rfl,⟨rfl,Nat.le_refl _,List.take_length⟩,trivial⟩
def decX (l:List UInt8):List Int:=ws W64 (dgN l)
def specParse:List Arg→Option (List Arg×List Prop)
 | [.c (.v (.string s))] =>some ([iW false (decX s.data.toList)],[AllD s.data.toList,s.data.toList.length < 100000000000])
 | _=>none
theorem specParse_ok:∀ az rs l,specParse az=some (rs,l)→allP l→Ev.Sem Tryz.prog J0 126 az rs:=by
 intro az rs l h hl
 unfold specParse at h
 split at h
 ·cases h
  obtain⟨h1,h2,_⟩:=hl
  exact parse_sem h1 h2
 ·cases h
end Go.Proofs.YtdgfhijnconaoaaGreatDoor
namespace Go.Proofs.YtdgfhijnconaoaaGreatDoor
open Go Go.RowKit Ev Wd
noncomputable def mtabW9:MTab:=mtabAdd 126 (liftS [shV] specParse) mtabW8
theorem mtabW9_ok:ClOk Tryz.prog J0 mtabW9:=mtabAdd_ok (liftS_ok _ specParse_ok) mtabW8_ok
theorem cmpX_nn {xs ys:List Int} (hy:Cn ys):cmpX false false xs ys=if val W64 xs < val W64 ys then -1 else if val W64 xs=val W64 ys then 0 else 1:=by
 unfold cmpX subX subG addX negX
 rw [wsVal]
 have hl:0 < ys.length↔0 < val W64 ys:=by
  have:=wl_pos (m:=val W64 ys)
  unfold wl at this
  rw [← hy] at this
  exact this
 unfold addM addS
 by_cases h:0 < ys.length
 ·have hp:=hl.1 h
  rw [decide_eq_true h]
  simp only [Bool.not_false,Bool.and_true,Bool.false_eq_true,if_false,Bool.false_and,Bool.true_and]
  rcases Nat.lt_trichotomy (val W64 xs) (val W64 ys) with c | c | c
  ·have h1:¬ val W64 ys≤val W64 xs:=by omega
   have h2:¬ (val W64 ys-val W64 xs=0):=by omega
   have h3:val W64 xs < val W64 ys:=c
   simp [h1,h2,h3]
  ·have h1:val W64 ys≤val W64 xs:=by omega
   have h2:val W64 xs-val W64 ys=0:=by omega
   have h3:¬ val W64 xs < val W64 ys:=by omega
   simp [c]
  ·have h1:val W64 ys≤val W64 xs:=by omega
   have h2:¬ (val W64 xs-val W64 ys=0):=by omega
   have h3:¬ val W64 xs < val W64 ys:=by omega
   have h4:¬ val W64 xs=val W64 ys:=by omega
   simp [h1,h2,h3,h4]
 ·have hp:val W64 ys=0:=by
   rcases Nat.eq_zero_or_pos (val W64 ys) with c | c
   ·exact c
   ·exact absurd (hl.2 c) h
  rw [decide_eq_false h,hp]
  simp only [Bool.not_false,Bool.and_false,if_true,Nat.add_zero,Bool.false_and,Nat.not_lt_zero,if_false]
  split <;> rfl
end Go.Proofs.YtdgfhijnconaoaaGreatDoor
namespace Go.Proofs.YtdgfhijnconaoaaGreatDoor
open Go Go.RowKit Ev Wd
def lowX (xs:List Int):Int:=((val W64 xs%W64:Nat):Int)
def specLow2:List Arg→Option (List Arg×List Prop)
 | [.a [.v (.bool _), .s 32 .u64 xs]] =>some ([uR (lowX xs)],[Cn xs])
 | _=>none
theorem specLow2_ok:∀ az rs l,specLow2 az=some (rs,l)→allP l→Ev.Sem Tryz.prog J0 130 az rs:=by
 intro az rs l h hl
 unfold specLow2 at h
 split at h
 ·rename_i a xs
  cases h
  have h1:xs=ws W64 (val W64 xs):=hl.1
  have:=low_sem a (val W64 xs)
  unfold iN at this
  rw [← h1] at this
  exact this
 ·cases h
noncomputable def mtabWA:MTab:=mtabAdd 130 (liftS [shI] specLow2) mtabW9
theorem mtabWA_ok:ClOk Tryz.prog J0 mtabWA:=mtabAdd_ok (liftS_ok _ specLow2_ok) mtabW9_ok
noncomputable def bWA:Base:=⟨Tryz.prog,J0,false,tabW8,mtabWA,200,xtN0⟩
theorem bWA_ok:BaseOk bWA:=⟨progOk,tabW8_ok,mtabWA_ok,xtN0_ok⟩
noncomputable abbrev XWA:Cx:=bWA.cx 10
end Go.Proofs.YtdgfhijnconaoaaGreatDoor
namespace Go.Proofs.YtdgfhijnconaoaaGreatDoor
open Go Go.RowKit Ev Wd
theorem and_one {n:Nat} (h:n < W64):bits .and .u64 (n:Int) 1=((n%2:Nat):Int):=by
 have h':n < 18446744073709551616:=h
 have hW:(2:Nat) ^64=18446744073709551616:=by decide
 unfold bits
 simp only [IntKind.bits,BitVec.ofInt_natCast]
 show IntKind.u64.wrap _=_
 have e:(BitVec.ofNat 64 n&&& BitVec.ofInt 64 1).toNat=n%2:=by
  rw [BitVec.toNat_and,BitVec.toNat_ofNat]
  rw [Nat.mod_eq_of_lt (by omega)]
  exact Nat.and_one_is_mod n
 refine Eq.trans (congrArg (fun z:Nat=>IntKind.u64.wrap ((z:Nat):Int)) e) ?_
 show IntKind.u64.wrap ((n%2:Nat):Int)=_
 rw [IntKind.wrap_u64]
 omega
end Go.Proofs.YtdgfhijnconaoaaGreatDoor
namespace Go.Proofs.YtdgfhijnconaoaaGreatDoor
open Go Go.RowKit Ev Wd
abbrev vlA (n a:Bool) (N:List Int) (b:Bool) (D:List Int):Arg:= .a [.v (.bool n), .v (.bool false), .v (.bool a), .s u64T .u64 N, .v (.bool b), .s u64T .u64 D]
abbrev bR (b:Bool):Arg:= .c (.v (.bool b))
theorem at_pl (n s w:Bool) (N D Q:List Int) (e h:Int):semR XWA [] 200 129 [vlA n false N false D,iR e] [iL s Q,iR h,bR w] [false,true,true] =some [N.length=N.length,Cn N,(lefX N (Int.ofNat 1)).length=(lefX N (Int.ofNat 1)).length,(lefX D e).length=(lefX D e).length,Cn (lefX N (Int.ofNat 1)),Cn (lefX D e),(lefX N (Int.ofNat 1)).length < 549755813888,(lefX D e).length < 549755813888,N.length=N.length,Cn N,N.length < 549755813888,Int.ofNat 0≤Int.ofNat 1∧1 < 549755813888,Cn N,Cn (List.take (lefX D e).length (lefX D e)),N.length < 274877906944,(List.take (lefX D e).length (lefX D e)).length < 274877906944,LessW N (List.take (lefX D e).length (lefX D e)),N.length=N.length,(lefX D e).length≤(lefX D e).length,D.length=D.length,Cn D,D.length < 549755813888,Int.ofNat 0≤e∧e.toNat < 549755813888,decide (Int.ofNat 0≤e)=true,false=false,Value.bool false=Value.bool s,Q=[],Value.int IntKind.i64 (cmpX (sgnX false (lefX N (Int.ofNat 1))) (sgnX false (lefX D e)) (lefX N (Int.ofNat 1)) (lefX D e))=Value.int IntKind.i64 h,Value.bool ((if val 18446744073709551616 N=0 then Int.ofNat 0 else Int.ofNat 1)==Int.ofNat 0)=Value.bool w] :=by kernel_rfl
theorem at_pg (n s w:Bool) (N D Q:List Int) (e h:Int):semR XWA [] 200 129 [vlA n false N false D,iR e] [iL s Q,iR h,bR w] [false,true,false] =some [(remY N (List.take (lefX D e).length (lefX D e))).length=(remY N (List.take (lefX D e).length (lefX D e))).length,Cn (remY N (List.take (lefX D e).length (lefX D e))),(lefX (remY N (List.take (lefX D e).length (lefX D e))) (Int.ofNat 1)).length=(lefX (remY N (List.take (lefX D e).length (lefX D e))) (Int.ofNat 1)).length,(lefX D e).length=(lefX D e).length,Cn (lefX (remY N (List.take (lefX D e).length (lefX D e))) (Int.ofNat 1)),Cn (lefX D e),(lefX (remY N (List.take (lefX D e).length (lefX D e))) (Int.ofNat 1)).length < 549755813888,(lefX D e).length < 549755813888,(remY N (List.take (lefX D e).length (lefX D e))).length=(remY N (List.take (lefX D e).length (lefX D e))).length,Cn (remY N (List.take (lefX D e).length (lefX D e))),(remY N (List.take (lefX D e).length (lefX D e))).length < 549755813888,Int.ofNat 0≤Int.ofNat 1∧1 < 549755813888,N.length=N.length,(lefX D e).length≤(lefX D e).length,Cn N,Cn (List.take (lefX D e).length (lefX D e)),N.length < 274877906944,0 < (List.take (lefX D e).length (lefX D e)).length,LessW N (List.take (lefX D e).length (lefX D e))→False,D.length=D.length,Cn D,D.length < 549755813888,Int.ofNat 0≤e∧e.toNat < 549755813888,decide (Int.ofNat 0≤e)=true,false=false,Value.bool false=Value.bool s,(quoY N (List.take (lefX D e).length (lefX D e))).length=Q.length∧(quoY N (List.take (lefX D e).length (lefX D e))).length≤(quoY N (List.take (lefX D e).length (lefX D e))).length∧List.take (quoY N (List.take (lefX D e).length (lefX D e))).length (quoY N (List.take (lefX D e).length (lefX D e)))=Q,Value.int IntKind.i64 (cmpX (sgnX false (lefX (remY N (List.take (lefX D e).length (lefX D e))) (Int.ofNat 1))) (sgnX false (lefX D e)) (lefX (remY N (List.take (lefX D e).length (lefX D e))) (Int.ofNat 1)) (lefX D e))=Value.int IntKind.i64 h,Value.bool ((if val 18446744073709551616 (remY N (List.take (lefX D e).length (lefX D e)))=0 then Int.ofNat 0 else Int.ofNat 1)==Int.ofNat 0)=Value.bool w] :=by kernel_rfl
theorem at_ml (n s w:Bool) (N D Q:List Int) (e h:Int):semR XWA [] 200 129 [vlA n false N false D,iR e] [iL s Q,iR h,bR w] [false,false,true] =some [(lefX N (IntKind.i64.wrap (Int.ofNat 0-e))).length=(lefX N (IntKind.i64.wrap (Int.ofNat 0-e))).length,Cn (lefX N (IntKind.i64.wrap (Int.ofNat 0-e))),(lefX (lefX N (IntKind.i64.wrap (Int.ofNat 0-e))) (Int.ofNat 1)).length=(lefX (lefX N (IntKind.i64.wrap (Int.ofNat 0-e))) (Int.ofNat 1)).length,D.length=D.length,Cn (lefX (lefX N (IntKind.i64.wrap (Int.ofNat 0-e))) (Int.ofNat 1)),Cn D,(lefX (lefX N (IntKind.i64.wrap (Int.ofNat 0-e))) (Int.ofNat 1)).length < 549755813888,D.length < 549755813888,(lefX N (IntKind.i64.wrap (Int.ofNat 0-e))).length=(lefX N (IntKind.i64.wrap (Int.ofNat 0-e))).length,Cn (lefX N (IntKind.i64.wrap (Int.ofNat 0-e))),(lefX N (IntKind.i64.wrap (Int.ofNat 0-e))).length < 549755813888,Int.ofNat 0≤Int.ofNat 1∧1 < 549755813888,Cn (List.take (lefX N (IntKind.i64.wrap (Int.ofNat 0-e))).length (lefX N (IntKind.i64.wrap (Int.ofNat 0-e)))),Cn D,(List.take (lefX N (IntKind.i64.wrap (Int.ofNat 0-e))).length (lefX N (IntKind.i64.wrap (Int.ofNat 0-e)))).length < 274877906944,D.length < 274877906944,LessW (List.take (lefX N (IntKind.i64.wrap (Int.ofNat 0-e))).length (lefX N (IntKind.i64.wrap (Int.ofNat 0-e)))) D,(lefX N (IntKind.i64.wrap (Int.ofNat 0-e))).length≤(lefX N (IntKind.i64.wrap (Int.ofNat 0-e))).length,D.length=D.length,N.length=N.length,Cn N,N.length < 549755813888,Int.ofNat 0≤IntKind.i64.wrap (Int.ofNat 0-e)∧(IntKind.i64.wrap (Int.ofNat 0-e)).toNat < 549755813888,decide (Int.ofNat 0≤e)=false,false=false,Value.bool false=Value.bool s,Q=[],Value.int IntKind.i64 (cmpX (sgnX (sgnX false (lefX N (IntKind.i64.wrap (Int.ofNat 0-e)))) (lefX (lefX N (IntKind.i64.wrap (Int.ofNat 0-e))) (Int.ofNat 1))) false (lefX (lefX N (IntKind.i64.wrap (Int.ofNat 0-e))) (Int.ofNat 1)) D)=Value.int IntKind.i64 h,Value.bool ((if val 18446744073709551616 (lefX N (IntKind.i64.wrap (Int.ofNat 0-e)))=0 then Int.ofNat 0 else Int.ofNat 1)==Int.ofNat 0)=Value.bool w] :=by kernel_rfl
theorem at_mg (n s w:Bool) (N D Q:List Int) (e h:Int):semR XWA [] 200 129 [vlA n false N false D,iR e] [iL s Q,iR h,bR w] [false,false,false] =some [(remY (List.take (lefX N (IntKind.i64.wrap (Int.ofNat 0-e))).length (lefX N (IntKind.i64.wrap (Int.ofNat 0-e)))) D).length=(remY (List.take (lefX N (IntKind.i64.wrap (Int.ofNat 0-e))).length (lefX N (IntKind.i64.wrap (Int.ofNat 0-e)))) D).length,Cn (remY (List.take (lefX N (IntKind.i64.wrap (Int.ofNat 0-e))).length (lefX N (IntKind.i64.wrap (Int.ofNat 0-e)))) D),(lefX (remY (List.take (lefX N (IntKind.i64.wrap (Int.ofNat 0-e))).length (lefX N (IntKind.i64.wrap (Int.ofNat 0-e)))) D) (Int.ofNat 1)).length=(lefX (remY (List.take (lefX N (IntKind.i64.wrap (Int.ofNat 0-e))).length (lefX N (IntKind.i64.wrap (Int.ofNat 0-e)))) D) (Int.ofNat 1)).length,D.length=D.length,Cn (lefX (remY (List.take (lefX N (IntKind.i64.wrap (Int.ofNat 0-e))).length (lefX N (IntKind.i64.wrap (Int.ofNat 0-e)))) D) (Int.ofNat 1)),Cn D,(lefX (remY (List.take (lefX N (IntKind.i64.wrap (Int.ofNat 0-e))).length (lefX N (IntKind.i64.wrap (Int.ofNat 0-e)))) D) (Int.ofNat 1)).length < 549755813888,D.length < 549755813888,(remY (List.take (lefX N (IntKind.i64.wrap (Int.ofNat 0-e))).length (lefX N (IntKind.i64.wrap (Int.ofNat 0-e)))) D).length=(remY (List.take (lefX N (IntKind.i64.wrap (Int.ofNat 0-e))).length (lefX N (IntKind.i64.wrap (Int.ofNat 0-e)))) D).length,Cn (remY (List.take (lefX N (IntKind.i64.wrap (Int.ofNat 0-e))).length (lefX N (IntKind.i64.wrap (Int.ofNat 0-e)))) D),(remY (List.take (lefX N (IntKind.i64.wrap (Int.ofNat 0-e))).length (lefX N (IntKind.i64.wrap (Int.ofNat 0-e)))) D).length < 549755813888,Int.ofNat 0≤Int.ofNat 1∧1 < 549755813888,(lefX N (IntKind.i64.wrap (Int.ofNat 0-e))).length≤(lefX N (IntKind.i64.wrap (Int.ofNat 0-e))).length,D.length=D.length,Cn (List.take (lefX N (IntKind.i64.wrap (Int.ofNat 0-e))).length (lefX N (IntKind.i64.wrap (Int.ofNat 0-e)))),Cn D,(List.take (lefX N (IntKind.i64.wrap (Int.ofNat 0-e))).length (lefX N (IntKind.i64.wrap (Int.ofNat 0-e)))).length < 274877906944,0 < D.length,LessW (List.take (lefX N (IntKind.i64.wrap (0-e))).length (lefX N (IntKind.i64.wrap (0-e)))) D→False,N.length=N.length,Cn N,N.length < 549755813888,Int.ofNat 0≤IntKind.i64.wrap (Int.ofNat 0-e)∧(IntKind.i64.wrap (Int.ofNat 0-e)).toNat < 549755813888,decide (Int.ofNat 0≤e)=false,false=false,Value.bool false=Value.bool s,(quoY (List.take (lefX N (IntKind.i64.wrap (Int.ofNat 0-e))).length (lefX N (IntKind.i64.wrap (Int.ofNat 0-e)))) D).length=Q.length∧(quoY (List.take (lefX N (IntKind.i64.wrap (Int.ofNat 0-e))).length (lefX N (IntKind.i64.wrap (Int.ofNat 0-e)))) D).length≤(quoY (List.take (lefX N (IntKind.i64.wrap (Int.ofNat 0-e))).length (lefX N (IntKind.i64.wrap (Int.ofNat 0-e)))) D).length∧List.take (quoY (List.take (lefX N (IntKind.i64.wrap (Int.ofNat 0-e))).length (lefX N (IntKind.i64.wrap (Int.ofNat 0-e)))) D).length (quoY (List.take (lefX N (IntKind.i64.wrap (Int.ofNat 0-e))).length (lefX N (IntKind.i64.wrap (Int.ofNat 0-e)))) D)=Q,Value.int IntKind.i64 (cmpX (sgnX false (lefX (remY (List.take (lefX N (IntKind.i64.wrap (Int.ofNat 0-e))).length (lefX N (IntKind.i64.wrap (Int.ofNat 0-e)))) D) (Int.ofNat 1))) false (lefX (remY (List.take (lefX N (IntKind.i64.wrap (Int.ofNat 0-e))).length (lefX N (IntKind.i64.wrap (Int.ofNat 0-e)))) D) (Int.ofNat 1)) D)=Value.int IntKind.i64 h,Value.bool ((if val 18446744073709551616 (remY (List.take (lefX N (IntKind.i64.wrap (Int.ofNat 0-e))).length (lefX N (IntKind.i64.wrap (Int.ofNat 0-e)))) D)=0 then Int.ofNat 0 else Int.ofNat 1)==Int.ofNat 0)=Value.bool w] :=by kernel_rfl
theorem ten_way (s:Bool) (R:List Int) (n:Int):semR XWA [] 200 127 [iR n] [iL s R] [] =some [1≤1,Cn [Int.ofNat 10],Int.ofNat 0≤n∧n.toNat < 4611686018427387904,1+n.toNat*1 < 274877906944,Int.ofNat 0≤Int.ofNat 10∧10 < 18446744073709551616,Value.bool false=Value.bool s,(powX [Int.ofNat 10] n).length=R.length∧(powX [Int.ofNat 10] n).length≤(powX [Int.ofNat 10] n).length∧List.take (powX [Int.ofNat 10] n).length (powX [Int.ofNat 10] n)=R] :=by kernel_rfl
end Go.Proofs.YtdgfhijnconaoaaGreatDoor
namespace Go.Proofs.YtdgfhijnconaoaaGreatDoor
open Go Go.RowKit Ev Wd
def atA (N:Nat) (e:Int):Nat:=if 0≤e then N else N*2 ^(-e).toNat
def atB (D:Nat) (e:Int):Nat:=if 0≤e then D*2 ^e.toNat else D
def cmN (a b:Nat):Int:=if a < b then -1 else if a=b then 0 else 1
theorem lefX_ws (a:Nat) (n:Int):lefX (ws W64 a) n=ws W64 (a*2 ^n.toNat):=by unfold lefX; rw [wsVal]
theorem quoY_ws (a b:Nat):quoY (ws W64 a) (ws W64 b)=ws W64 (a/b):=by unfold quoY; rw [wsVal,wsVal]
theorem remY_ws (a b:Nat):remY (ws W64 a) (ws W64 b)=ws W64 (a%b):=by unfold remY; rw [wsVal,wsVal]
theorem val_lit (m:Nat):val 18446744073709551616 (ws W64 m)=m:=wsVal m
theorem cmpX_ws (a b:Nat):cmpX false false (ws W64 a) (ws W64 b)=cmN a b:=by
 rw [cmpX_nn (Cn.ws b),wsVal,wsVal]; rfl
theorem sgn_f (xs:List Int):sgnX false xs=false:=rfl
theorem lessW_ws (a b:Nat):LessW (ws W64 a) (ws W64 b)↔a < b:=by unfold LessW; rw [wsVal,wsVal]
theorem zero_b (r:Nat):((if r=0 then Int.ofNat 0 else Int.ofNat 1)==Int.ofNat 0)=decide (r=0):=by
 by_cases h:r=0
 ·rw [if_pos h,decide_eq_true h]; rfl
 ·rw [if_neg h,decide_eq_false h]; rfl
theorem wl_two (r:Nat):wl (r*2 ^(Int.ofNat 1).toNat)≤wl r+1:=by
 have:=wl_mul r (2 ^(Int.ofNat 1).toNat)
 have h2:wl (2 ^(Int.ofNat 1).toNat)≤1:=wl_le.2 (by decide)
 omega
theorem at_sem (n:Bool) {N D:Nat} {e:Int} (hD:0 < D) (h1:wl N < 100000000000) (h2:wl D < 100000000000) (h3:wl (atA N e) < 100000000000) (h4:wl (atB D e) < 100000000000) (he: -500000000000≤e∧e≤500000000000):
  Ev.Sem Tryz.prog J0 129 [vlA n false (ws W64 N) false (ws W64 D),iR e] [iL false (ws W64 (atA N e/atB D e)),iR (cmN (atA N e%atB D e*2) (atB D e)),bR (decide (atA N e%atB D e=0))] :=by
 have hw1:=wl_two (atA N e)
 have hw2:=wl_two (atA N e%atB D e)
 have hm:wl (atA N e%atB D e)≤wl (atA N e):=wl_mono (Nat.mod_le _ _)
 by_cases h0:0≤e
 ·have hA:atA N e=N:=if_pos h0
  have hB:atB D e=D*2 ^e.toNat:=if_pos h0
  have d0:decide (Int.ofNat 0≤e)=true:=decide_eq_true h0
  have hBp:0 < atB D e:=by rw [hB]; exact Nat.mul_pos hD (Nat.pow_pos (by decide))
  by_cases hlt:atA N e < atB D e
  ·rw [Nat.div_eq_of_lt hlt,Nat.mod_eq_of_lt hlt]
   refine sem_of bWA_ok 10 _ _ (at_pl n false _ (ws W64 N) (ws W64 D) [] e _) ?_
   simp only [hA,hB] at h3 h4 hw1 hw2 hm hlt hBp ⊢
   simp only [allP,lefX_ws,List.take_length,sgn_f,cmpX_ws,val_lit,zero_b]
   repeat' apply And.intro
   all_goals first
    | exact trivial
    | exact rfl
    | exact Cn.ws _
    | exact Nat.le_refl _
    | assumption
    | exact (lessW_ws _ _).2 hlt
    | exact fun h=>hlt ((lessW_ws _ _).1 h)
    | (show wl _ < _; omega)
    | (show 0 < wl _; exact wl_pos.2 hBp)
    | decide
    | omega
    | (show (0:Int)≤-e; omega)
  ·refine sem_of bWA_ok 10 _ _ (at_pg n false _ (ws W64 N) (ws W64 D) (ws W64 (atA N e/atB D e)) e _) ?_
   simp only [hA,hB] at h3 h4 hw1 hw2 hm hlt hBp ⊢
   simp only [allP,lefX_ws,quoY_ws,remY_ws,List.take_length,sgn_f,cmpX_ws,val_lit,zero_b]
   repeat' apply And.intro
   all_goals first
    | exact trivial
    | exact rfl
    | exact Cn.ws _
    | exact Nat.le_refl _
    | assumption
    | exact (lessW_ws _ _).2 hlt
    | exact fun h=>hlt ((lessW_ws _ _).1 h)
    | (show wl _ < _; omega)
    | (show 0 < wl _; exact wl_pos.2 hBp)
    | decide
    | omega
    | (show (0:Int)≤-e; omega)
 ·have hA:atA N e=N*2 ^(-e).toNat:=if_neg h0
  have hB:atB D e=D:=if_neg h0
  have d0:decide (Int.ofNat 0≤e)=false:=decide_eq_false h0
  have hBp:0 < atB D e:=by rw [hB]; exact hD
  have hW:IntKind.i64.wrap (Int.ofNat 0-e)= -e:=by
   have:=IntKind.wrap_i64 (Int.ofNat 0-e)
   have e0:Int.ofNat 0-e=0-e:=rfl
   rw [e0] at this ⊢
   omega
  have hV:IntKind.i64.wrap (0-e)= -e:=hW
  by_cases hlt:atA N e < atB D e
  ·rw [Nat.div_eq_of_lt hlt,Nat.mod_eq_of_lt hlt]
   refine sem_of bWA_ok 10 _ _ (at_ml n false _ (ws W64 N) (ws W64 D) [] e _) ?_
   simp only [hA,hB] at h3 h4 hw1 hw2 hm hlt hBp ⊢
   simp only [allP,hW,lefX_ws,List.take_length,sgn_f,cmpX_ws,val_lit,zero_b]
   repeat' apply And.intro
   all_goals first
    | exact trivial
    | exact rfl
    | exact Cn.ws _
    | exact Nat.le_refl _
    | assumption
    | exact (lessW_ws _ _).2 hlt
    | exact fun h=>hlt ((lessW_ws _ _).1 h)
    | (show wl _ < _; omega)
    | (show 0 < wl _; exact wl_pos.2 hBp)
    | decide
    | omega
    | (show (0:Int)≤-e; omega)
  ·refine sem_of bWA_ok 10 _ _ (at_mg n false _ (ws W64 N) (ws W64 D) (ws W64 (atA N e/atB D e)) e _) ?_
   simp only [hA,hB] at h3 h4 hw1 hw2 hm hlt hBp ⊢
   simp only [allP,hW,lefX_ws,quoY_ws,remY_ws,List.take_length,sgn_f,cmpX_ws,val_lit,zero_b]
   repeat' apply And.intro
   all_goals first
    | exact trivial
    | exact rfl
    | exact Cn.ws _
    | exact Nat.le_refl _
    | assumption
    | exact (lessW_ws _ _).2 hlt
    | exact fun h=>hlt ((lessW_ws _ _).1 (by rw [hW] at h; exact h))
    | exact fun h=>hlt ((lessW_ws _ _).1 (by rw [hV] at h; exact h))
    | (show wl _ < _; omega)
    | (show 0 < wl _; exact wl_pos.2 hBp)
    | decide
    | omega
    | (show (0:Int)≤-e; omega)
end Go.Proofs.YtdgfhijnconaoaaGreatDoor
namespace Go.Proofs.YtdgfhijnconaoaaGreatDoor
open Go Go.RowKit Ev Wd
def atQ (N D:List Int) (e:Int):List Int:=ws W64 (atA (val W64 N) e/atB (val W64 D) e)
def atH (N D:List Int) (e:Int):Int:=cmN (atA (val W64 N) e%atB (val W64 D) e*2) (atB (val W64 D) e)
def atZ (N D:List Int) (e:Int):Bool:=decide (atA (val W64 N) e%atB (val W64 D) e=0)
def atOk (N D:List Int) (e:Int):Prop:=Cn N∧Cn D∧0 < val W64 D∧N.length < 100000000000∧D.length < 100000000000∧wl (atA (val W64 N) e) < 100000000000∧wl (atB (val W64 D) e) < 100000000000∧-500000000000≤e∧e≤500000000000
def specAtW (w:Bool):List Arg→Option (List Arg×List Prop)
 | [.a [.v (.bool _), .v (.bool false), .v (.bool false), .s 32 .u64 N, .v (.bool false), .s 32 .u64 D], .c (.v (.int .i64 e))] =>some ([iL false (atQ N D e),iR (atH N D e),bR w],[atOk N D e,atZ N D e=w])
 | _=>none
theorem specAtW_ok (w:Bool):∀ az rs l,specAtW w az=some (rs,l)→allP l→Ev.Sem Tryz.prog J0 129 az rs:=by
 intro az rs l h hl
 unfold specAtW at h
 split at h
 ·cases h
  rename_i n N D e
  obtain⟨⟨c1,c2,hD,h1,h2,h3,h4,h5,h6⟩,hz,_⟩:=hl
  unfold Cn at c1 c2
  have:=at_sem n (N:=val W64 N) (D:=val W64 D) (e:=e) hD (by unfold wl; rw [← c1]; exact h1) (by unfold wl; rw [← c2]; exact h2) h3 h4 ⟨h5,h6⟩
  rw [← c1,← c2] at this
  rw [← hz]
  exact this
 ·cases h
def tenX (n:Int):List Int:=ws W64 (10 ^n.toNat)
theorem ten_sem {n:Nat} (h:n < 100000000000):Ev.Sem Tryz.prog J0 127 [iR n] [iL false (ws W64 (10 ^n))] :=by
 have c10:Cn [Int.ofNat 10] :=by show [10] =ws W64 (val W64 [10]); decide
 have e:powX [10] (n:Int)=ws W64 (10 ^n):=by
  unfold powX
  rw [Int.toNat_natCast]
  rfl
 refine sem_of bWA_ok 10 _ _ (ten_way false (ws W64 (10 ^n)) n) ?_
 simp only [allP,List.take_length]
 repeat' apply And.intro
 all_goals first
  | exact trivial
  | exact rfl
  | exact c10
  | exact Nat.le_refl _
  | exact Int.natCast_nonneg _
  | decide
  | (rw [Int.toNat_natCast]; omega)
def specTen:List Arg→Option (List Arg×List Prop)
 | [.c (.v (.int .i64 n))] =>some ([iL false (tenX n)],[0≤n∧n < 100000000000])
 | _=>none
theorem specTen_ok:∀ az rs l,specTen az=some (rs,l)→allP l→Ev.Sem Tryz.prog J0 127 az rs:=by
 intro az rs l h hl
 unfold specTen at h
 split at h
 ·cases h
  rename_i n
  obtain⟨⟨h1,h2⟩,_⟩:=hl
  obtain⟨m,rfl⟩:=Int.eq_ofNat_of_zero_le h1
  have:=ten_sem (n:=m) (by omega)
  exact this
 ·cases h
abbrev shM:AS:= .a [.v, .v, .v, .s u64T .u64, .v, .s u64T .u64]
noncomputable def mtabRo1:MTab:=mtabAdd 129 (specBit (liftS [shM,shV] (specAtW true)) (liftS [shM,shV] (specAtW false))) (mtabAdd 127 (liftS [shV] specTen) mtabWA)
theorem mtabRo1_ok:ClOk Tryz.prog J0 mtabRo1:=mtabAdd_ok (specBit_ok (liftS_ok _ (specAtW_ok true)) (liftS_ok _ (specAtW_ok false))) (mtabAdd_ok (liftS_ok _ specTen_ok) mtabWA_ok)
noncomputable def bRo1:Base:=⟨Tryz.prog,J0,false,tabW8,mtabRo1,200,xtN0⟩
theorem bRo1_ok:BaseOk bRo1:=⟨progOk,tabW8_ok,mtabRo1_ok,xtN0_ok⟩
noncomputable abbrev XRo1:Cx:=bRo1.cx 10
end Go.Proofs.YtdgfhijnconaoaaGreatDoor
namespace Go.Proofs.YtdgfhijnconaoaaGreatDoor
open Go Go.RowKit Ev Wd
abbrev kR (a b c:Int):Arg:= .a [.v (.int .i64 a), .v (.int .i64 b), .v (.int .i64 c)]
abbrev fR (a b c:Bool):Arg:= .a [.v (.bool a), .v (.bool b), .v (.bool c)]
def flN (K:Int) (N D:List Int):Int:=IntKind.i64.wrap (IntKind.i64.wrap (IntKind.i64.wrap (bitX N-bitX D)-K)-2)
def flE (K L:Int) (N D:List Int):Int:=if L < flN K N D then flN K N D else L
def flO (K:Int) (Q:List Int):Int:=IntKind.i64.wrap (bitX Q-K)
abbrev flM (Q:List Int):Int:=lowX (Q.take Q.length)
def flU (Q:List Int):Int:=IntKind.u64.wrap (flM Q+1)
def flB (h:Int) (Q:List Int):Bool:=match decide (h > 0) with | true=>true | false=>match h==0 with | true=>bits .and .u64 (flM Q) 1==1 | false=>false
def flC (P:Nat) (m:Int):Bool:=decide (Int.ofNat 0 < Int.fdiv m (Int.ofNat P))
def flH (m:Int):Int:=IntKind.u64.wrap (Int.tdiv m 2)
def flV (P:Nat) (Q:List Int):Bool:=Int.fdiv (flM Q) (Int.ofNat P)==Int.ofNat 0
abbrev flRoot (N D:List Int):List Prop:=[false=false,D.length=D.length,Cn D,D.length < 549755813888,N.length=N.length,Cn N,N.length < 549755813888]
abbrev flAt (N D:List Int) (e:Int) (w:Bool):List Prop:=[N.length=N.length,D.length=D.length,atOk N D e,atZ N D e=w]
abbrev flOv (K:Int) (Q:List Int) (b:Bool):List Prop:=[decide (0 < flO K Q)=b,Q.length=Q.length,Cn Q,Q.length < 549755813888]
abbrev flLow (Q:List Int):List Prop:=[Q.length≤Q.length,Cn (Q.take Q.length)]
abbrev flRes (m' e':Int) (i' a' b' c':Bool) (m e:Int) (i a b c:Bool):List Prop:=[Value.int .u64 m'=Value.int .u64 m,Value.int .i64 e'=Value.int .i64 e,Value.bool i'=Value.bool i,Value.bool a'=Value.bool a,Value.bool b'=Value.bool b,Value.bool c'=Value.bool c]
noncomputable abbrev XRl:Cx:=bRo1.cxl 10
section
variable (n:Bool) (N D:List Int) (m e:Int) (i a b c:Bool)
theorem fl53_nwl:semR XRl [] 200 77 [vlA n false N false D,kR 53 (-1074) 971,iR 1] [uR m,iR e,bR i,fR a b c] [false,true,false,false,false,true] =some ([decide ((flE 53 (-1074) N D)≤971)=true,flC 9007199254740992 (flM (atQ N D (flE 53 (-1074) N D)))=false,Int.ofNat 0≤Int.ofNat 53,false=false] ++flLow (atQ N D (flE 53 (-1074) N D))++flOv 53 (atQ N D (flE 53 (-1074) N D)) false++flAt N D (flE 53 (-1074) N D) true++flRoot N D++flRes (flM (atQ N D (flE 53 (-1074) N D))) (flE 53 (-1074) N D) false false false false m e i a b c):=by kernel_rfl
theorem fl53_nwi:semR XRl [] 200 77 [vlA n false N false D,kR 53 (-1074) 971,iR 1] [uR m,iR e,bR i,fR a b c] [false,true,false,false,false,false,false] =some ([false=false,decide ((flE 53 (-1074) N D)≤971)=false,flC 9007199254740992 (flM (atQ N D (flE 53 (-1074) N D)))=false,Int.ofNat 0≤Int.ofNat 53,false=false] ++flLow (atQ N D (flE 53 (-1074) N D))++flOv 53 (atQ N D (flE 53 (-1074) N D)) false++flAt N D (flE 53 (-1074) N D) true++flRoot N D++flRes 0 0 true true true false m e i a b c):=by kernel_rfl
theorem fl53_ndl:semR XRl [] 200 77 [vlA n false N false D,kR 53 (-1074) 971,iR 1] [uR m,iR e,bR i,fR a b c] [false,false,false,false,false,true] =some ([decide ((flE 53 (-1074) N D)≤971)=true,flC 9007199254740992 (flM (atQ N D (flE 53 (-1074) N D)))=false,Int.ofNat 0≤Int.ofNat 53,flB (atH N D (flE 53 (-1074) N D)) (atQ N D (flE 53 (-1074) N D))=false,Int.ofNat 0≤Int.ofNat 1∧Int.ofNat 1 < Int.ofNat 7,Int.ofNat 0≤Int.ofNat 52] ++flLow (atQ N D (flE 53 (-1074) N D))++flOv 53 (atQ N D (flE 53 (-1074) N D)) false++flAt N D (flE 53 (-1074) N D) false++flRoot N D++flRes (flM (atQ N D (flE 53 (-1074) N D))) (flE 53 (-1074) N D) false true false (flV 4503599627370496 (atQ N D (flE 53 (-1074) N D))) m e i a b c):=by kernel_rfl
theorem fl53_ndi:semR XRl [] 200 77 [vlA n false N false D,kR 53 (-1074) 971,iR 1] [uR m,iR e,bR i,fR a b c] [false,false,false,false,false,false,false] =some ([false=false,decide ((flE 53 (-1074) N D)≤971)=false,flC 9007199254740992 (flM (atQ N D (flE 53 (-1074) N D)))=false,Int.ofNat 0≤Int.ofNat 53,flB (atH N D (flE 53 (-1074) N D)) (atQ N D (flE 53 (-1074) N D))=false,Int.ofNat 0≤Int.ofNat 1∧Int.ofNat 1 < Int.ofNat 7,Int.ofNat 0≤Int.ofNat 52] ++flLow (atQ N D (flE 53 (-1074) N D))++flOv 53 (atQ N D (flE 53 (-1074) N D)) false++flAt N D (flE 53 (-1074) N D) false++flRoot N D++flRes 0 0 true true true (flV 4503599627370496 (atQ N D (flE 53 (-1074) N D))) m e i a b c):=by kernel_rfl
theorem fl53_nul:semR XRl [] 200 77 [vlA n false N false D,kR 53 (-1074) 971,iR 1] [uR m,iR e,bR i,fR a b c] [false,false,false,true,false,true] =some ([decide ((flE 53 (-1074) N D)≤971)=true,flC 9007199254740992 (flU (atQ N D (flE 53 (-1074) N D)))=false,Int.ofNat 0≤Int.ofNat 53,flB (atH N D (flE 53 (-1074) N D)) (atQ N D (flE 53 (-1074) N D))=true,Int.ofNat 0≤Int.ofNat 1∧Int.ofNat 1 < Int.ofNat 7,Int.ofNat 0≤Int.ofNat 52] ++flLow (atQ N D (flE 53 (-1074) N D))++flOv 53 (atQ N D (flE 53 (-1074) N D)) false++flAt N D (flE 53 (-1074) N D) false++flRoot N D++flRes (flU (atQ N D (flE 53 (-1074) N D))) (flE 53 (-1074) N D) false true false (flV 4503599627370496 (atQ N D (flE 53 (-1074) N D))) m e i a b c):=by kernel_rfl
theorem fl53_nui:semR XRl [] 200 77 [vlA n false N false D,kR 53 (-1074) 971,iR 1] [uR m,iR e,bR i,fR a b c] [false,false,false,true,false,false,false] =some ([false=false,decide ((flE 53 (-1074) N D)≤971)=false,flC 9007199254740992 (flU (atQ N D (flE 53 (-1074) N D)))=false,Int.ofNat 0≤Int.ofNat 53,flB (atH N D (flE 53 (-1074) N D)) (atQ N D (flE 53 (-1074) N D))=true,Int.ofNat 0≤Int.ofNat 1∧Int.ofNat 1 < Int.ofNat 7,Int.ofNat 0≤Int.ofNat 52] ++flLow (atQ N D (flE 53 (-1074) N D))++flOv 53 (atQ N D (flE 53 (-1074) N D)) false++flAt N D (flE 53 (-1074) N D) false++flRoot N D++flRes 0 0 true true true (flV 4503599627370496 (atQ N D (flE 53 (-1074) N D))) m e i a b c):=by kernel_rfl
theorem fl53_ncl:semR XRl [] 200 77 [vlA n false N false D,kR 53 (-1074) 971,iR 1] [uR m,iR e,bR i,fR a b c] [false,false,false,true,true,true] =some ([decide ((IntKind.i64.wrap ((flE 53 (-1074) N D)+1))≤971)=true,flC 9007199254740992 (flU (atQ N D (flE 53 (-1074) N D)))=true,Int.ofNat 0≤Int.ofNat 53,flB (atH N D (flE 53 (-1074) N D)) (atQ N D (flE 53 (-1074) N D))=true,Int.ofNat 0≤Int.ofNat 1∧Int.ofNat 1 < Int.ofNat 7,Int.ofNat 0≤Int.ofNat 52] ++flLow (atQ N D (flE 53 (-1074) N D))++flOv 53 (atQ N D (flE 53 (-1074) N D)) false++flAt N D (flE 53 (-1074) N D) false++flRoot N D++flRes (flH (flU (atQ N D (flE 53 (-1074) N D)))) (IntKind.i64.wrap ((flE 53 (-1074) N D)+1)) false true false (flV 4503599627370496 (atQ N D (flE 53 (-1074) N D))) m e i a b c):=by kernel_rfl
theorem fl53_nci:semR XRl [] 200 77 [vlA n false N false D,kR 53 (-1074) 971,iR 1] [uR m,iR e,bR i,fR a b c] [false,false,false,true,true,false,false] =some ([false=false,decide ((IntKind.i64.wrap ((flE 53 (-1074) N D)+1))≤971)=false,flC 9007199254740992 (flU (atQ N D (flE 53 (-1074) N D)))=true,Int.ofNat 0≤Int.ofNat 53,flB (atH N D (flE 53 (-1074) N D)) (atQ N D (flE 53 (-1074) N D))=true,Int.ofNat 0≤Int.ofNat 1∧Int.ofNat 1 < Int.ofNat 7,Int.ofNat 0≤Int.ofNat 52] ++flLow (atQ N D (flE 53 (-1074) N D))++flOv 53 (atQ N D (flE 53 (-1074) N D)) false++flAt N D (flE 53 (-1074) N D) false++flRoot N D++flRes 0 0 true true true (flV 4503599627370496 (atQ N D (flE 53 (-1074) N D))) m e i a b c):=by kernel_rfl
theorem fl53_otwl:semR XRl [] 200 77 [vlA n false N false D,kR 53 (-1074) 971,iR 1] [uR m,iR e,bR i,fR a b c] [false,true,true,true,false,false,true] =some ([decide ((IntKind.i64.wrap ((flE 53 (-1074) N D)+flO 53 (atQ N D (flE 53 (-1074) N D))))≤971)=true,flC 9007199254740992 (flM (atQ N D (IntKind.i64.wrap ((flE 53 (-1074) N D)+flO 53 (atQ N D (flE 53 (-1074) N D))))))=false,Int.ofNat 0≤Int.ofNat 53,false=false] ++flLow (atQ N D (IntKind.i64.wrap ((flE 53 (-1074) N D)+flO 53 (atQ N D (flE 53 (-1074) N D)))))++flAt N D (IntKind.i64.wrap ((flE 53 (-1074) N D)+flO 53 (atQ N D (flE 53 (-1074) N D)))) true++flOv 53 (atQ N D (flE 53 (-1074) N D)) true++flAt N D (flE 53 (-1074) N D) true++flRoot N D++flRes (flM (atQ N D (IntKind.i64.wrap ((flE 53 (-1074) N D)+flO 53 (atQ N D (flE 53 (-1074) N D)))))) (IntKind.i64.wrap ((flE 53 (-1074) N D)+flO 53 (atQ N D (flE 53 (-1074) N D)))) false false false false m e i a b c):=by kernel_rfl
theorem fl53_otwi:semR XRl [] 200 77 [vlA n false N false D,kR 53 (-1074) 971,iR 1] [uR m,iR e,bR i,fR a b c] [false,true,true,true,false,false,false,false] =some ([false=false,decide ((IntKind.i64.wrap ((flE 53 (-1074) N D)+flO 53 (atQ N D (flE 53 (-1074) N D))))≤971)=false,flC 9007199254740992 (flM (atQ N D (IntKind.i64.wrap ((flE 53 (-1074) N D)+flO 53 (atQ N D (flE 53 (-1074) N D))))))=false,Int.ofNat 0≤Int.ofNat 53,false=false] ++flLow (atQ N D (IntKind.i64.wrap ((flE 53 (-1074) N D)+flO 53 (atQ N D (flE 53 (-1074) N D)))))++flAt N D (IntKind.i64.wrap ((flE 53 (-1074) N D)+flO 53 (atQ N D (flE 53 (-1074) N D)))) true++flOv 53 (atQ N D (flE 53 (-1074) N D)) true++flAt N D (flE 53 (-1074) N D) true++flRoot N D++flRes 0 0 true true true false m e i a b c):=by kernel_rfl
theorem fl53_otdl:semR XRl [] 200 77 [vlA n false N false D,kR 53 (-1074) 971,iR 1] [uR m,iR e,bR i,fR a b c] [false,true,true,false,false,false,true] =some ([decide ((IntKind.i64.wrap ((flE 53 (-1074) N D)+flO 53 (atQ N D (flE 53 (-1074) N D))))≤971)=true,flC 9007199254740992 (flM (atQ N D (IntKind.i64.wrap ((flE 53 (-1074) N D)+flO 53 (atQ N D (flE 53 (-1074) N D))))))=false,Int.ofNat 0≤Int.ofNat 53,flB (atH N D (IntKind.i64.wrap ((flE 53 (-1074) N D)+flO 53 (atQ N D (flE 53 (-1074) N D))))) (atQ N D (IntKind.i64.wrap ((flE 53 (-1074) N D)+flO 53 (atQ N D (flE 53 (-1074) N D)))))=false,Int.ofNat 0≤Int.ofNat 1∧Int.ofNat 1 < Int.ofNat 7,Int.ofNat 0≤Int.ofNat 52] ++flLow (atQ N D (IntKind.i64.wrap ((flE 53 (-1074) N D)+flO 53 (atQ N D (flE 53 (-1074) N D)))))++flAt N D (IntKind.i64.wrap ((flE 53 (-1074) N D)+flO 53 (atQ N D (flE 53 (-1074) N D)))) false++flOv 53 (atQ N D (flE 53 (-1074) N D)) true++flAt N D (flE 53 (-1074) N D) true++flRoot N D++flRes (flM (atQ N D (IntKind.i64.wrap ((flE 53 (-1074) N D)+flO 53 (atQ N D (flE 53 (-1074) N D)))))) (IntKind.i64.wrap ((flE 53 (-1074) N D)+flO 53 (atQ N D (flE 53 (-1074) N D)))) false true false (flV 4503599627370496 (atQ N D (IntKind.i64.wrap ((flE 53 (-1074) N D)+flO 53 (atQ N D (flE 53 (-1074) N D)))))) m e i a b c):=by kernel_rfl
theorem fl53_otdi:semR XRl [] 200 77 [vlA n false N false D,kR 53 (-1074) 971,iR 1] [uR m,iR e,bR i,fR a b c] [false,true,true,false,false,false,false,false] =some ([false=false,decide ((IntKind.i64.wrap ((flE 53 (-1074) N D)+flO 53 (atQ N D (flE 53 (-1074) N D))))≤971)=false,flC 9007199254740992 (flM (atQ N D (IntKind.i64.wrap ((flE 53 (-1074) N D)+flO 53 (atQ N D (flE 53 (-1074) N D))))))=false,Int.ofNat 0≤Int.ofNat 53,flB (atH N D (IntKind.i64.wrap ((flE 53 (-1074) N D)+flO 53 (atQ N D (flE 53 (-1074) N D))))) (atQ N D (IntKind.i64.wrap ((flE 53 (-1074) N D)+flO 53 (atQ N D (flE 53 (-1074) N D)))))=false,Int.ofNat 0≤Int.ofNat 1∧Int.ofNat 1 < Int.ofNat 7,Int.ofNat 0≤Int.ofNat 52] ++flLow (atQ N D (IntKind.i64.wrap ((flE 53 (-1074) N D)+flO 53 (atQ N D (flE 53 (-1074) N D)))))++flAt N D (IntKind.i64.wrap ((flE 53 (-1074) N D)+flO 53 (atQ N D (flE 53 (-1074) N D)))) false++flOv 53 (atQ N D (flE 53 (-1074) N D)) true++flAt N D (flE 53 (-1074) N D) true++flRoot N D++flRes 0 0 true true true (flV 4503599627370496 (atQ N D (IntKind.i64.wrap ((flE 53 (-1074) N D)+flO 53 (atQ N D (flE 53 (-1074) N D)))))) m e i a b c):=by kernel_rfl
theorem fl53_otul:semR XRl [] 200 77 [vlA n false N false D,kR 53 (-1074) 971,iR 1] [uR m,iR e,bR i,fR a b c] [false,true,true,false,true,false,true] =some ([decide ((IntKind.i64.wrap ((flE 53 (-1074) N D)+flO 53 (atQ N D (flE 53 (-1074) N D))))≤971)=true,flC 9007199254740992 (flU (atQ N D (IntKind.i64.wrap ((flE 53 (-1074) N D)+flO 53 (atQ N D (flE 53 (-1074) N D))))))=false,Int.ofNat 0≤Int.ofNat 53,flB (atH N D (IntKind.i64.wrap ((flE 53 (-1074) N D)+flO 53 (atQ N D (flE 53 (-1074) N D))))) (atQ N D (IntKind.i64.wrap ((flE 53 (-1074) N D)+flO 53 (atQ N D (flE 53 (-1074) N D)))))=true,Int.ofNat 0≤Int.ofNat 1∧Int.ofNat 1 < Int.ofNat 7,Int.ofNat 0≤Int.ofNat 52] ++flLow (atQ N D (IntKind.i64.wrap ((flE 53 (-1074) N D)+flO 53 (atQ N D (flE 53 (-1074) N D)))))++flAt N D (IntKind.i64.wrap ((flE 53 (-1074) N D)+flO 53 (atQ N D (flE 53 (-1074) N D)))) false++flOv 53 (atQ N D (flE 53 (-1074) N D)) true++flAt N D (flE 53 (-1074) N D) true++flRoot N D++flRes (flU (atQ N D (IntKind.i64.wrap ((flE 53 (-1074) N D)+flO 53 (atQ N D (flE 53 (-1074) N D)))))) (IntKind.i64.wrap ((flE 53 (-1074) N D)+flO 53 (atQ N D (flE 53 (-1074) N D)))) false true false (flV 4503599627370496 (atQ N D (IntKind.i64.wrap ((flE 53 (-1074) N D)+flO 53 (atQ N D (flE 53 (-1074) N D)))))) m e i a b c):=by kernel_rfl
theorem fl53_otui:semR XRl [] 200 77 [vlA n false N false D,kR 53 (-1074) 971,iR 1] [uR m,iR e,bR i,fR a b c] [false,true,true,false,true,false,false,false] =some ([false=false,decide ((IntKind.i64.wrap ((flE 53 (-1074) N D)+flO 53 (atQ N D (flE 53 (-1074) N D))))≤971)=false,flC 9007199254740992 (flU (atQ N D (IntKind.i64.wrap ((flE 53 (-1074) N D)+flO 53 (atQ N D (flE 53 (-1074) N D))))))=false,Int.ofNat 0≤Int.ofNat 53,flB (atH N D (IntKind.i64.wrap ((flE 53 (-1074) N D)+flO 53 (atQ N D (flE 53 (-1074) N D))))) (atQ N D (IntKind.i64.wrap ((flE 53 (-1074) N D)+flO 53 (atQ N D (flE 53 (-1074) N D)))))=true,Int.ofNat 0≤Int.ofNat 1∧Int.ofNat 1 < Int.ofNat 7,Int.ofNat 0≤Int.ofNat 52] ++flLow (atQ N D (IntKind.i64.wrap ((flE 53 (-1074) N D)+flO 53 (atQ N D (flE 53 (-1074) N D)))))++flAt N D (IntKind.i64.wrap ((flE 53 (-1074) N D)+flO 53 (atQ N D (flE 53 (-1074) N D)))) false++flOv 53 (atQ N D (flE 53 (-1074) N D)) true++flAt N D (flE 53 (-1074) N D) true++flRoot N D++flRes 0 0 true true true (flV 4503599627370496 (atQ N D (IntKind.i64.wrap ((flE 53 (-1074) N D)+flO 53 (atQ N D (flE 53 (-1074) N D)))))) m e i a b c):=by kernel_rfl
theorem fl53_otcl:semR XRl [] 200 77 [vlA n false N false D,kR 53 (-1074) 971,iR 1] [uR m,iR e,bR i,fR a b c] [false,true,true,false,true,true,true] =some ([decide ((IntKind.i64.wrap ((IntKind.i64.wrap ((flE 53 (-1074) N D)+flO 53 (atQ N D (flE 53 (-1074) N D))))+1))≤971)=true,flC 9007199254740992 (flU (atQ N D (IntKind.i64.wrap ((flE 53 (-1074) N D)+flO 53 (atQ N D (flE 53 (-1074) N D))))))=true,Int.ofNat 0≤Int.ofNat 53,flB (atH N D (IntKind.i64.wrap ((flE 53 (-1074) N D)+flO 53 (atQ N D (flE 53 (-1074) N D))))) (atQ N D (IntKind.i64.wrap ((flE 53 (-1074) N D)+flO 53 (atQ N D (flE 53 (-1074) N D)))))=true,Int.ofNat 0≤Int.ofNat 1∧Int.ofNat 1 < Int.ofNat 7,Int.ofNat 0≤Int.ofNat 52] ++flLow (atQ N D (IntKind.i64.wrap ((flE 53 (-1074) N D)+flO 53 (atQ N D (flE 53 (-1074) N D)))))++flAt N D (IntKind.i64.wrap ((flE 53 (-1074) N D)+flO 53 (atQ N D (flE 53 (-1074) N D)))) false++flOv 53 (atQ N D (flE 53 (-1074) N D)) true++flAt N D (flE 53 (-1074) N D) true++flRoot N D++flRes (flH (flU (atQ N D (IntKind.i64.wrap ((flE 53 (-1074) N D)+flO 53 (atQ N D (flE 53 (-1074) N D))))))) (IntKind.i64.wrap ((IntKind.i64.wrap ((flE 53 (-1074) N D)+flO 53 (atQ N D (flE 53 (-1074) N D))))+1)) false true false (flV 4503599627370496 (atQ N D (IntKind.i64.wrap ((flE 53 (-1074) N D)+flO 53 (atQ N D (flE 53 (-1074) N D)))))) m e i a b c):=by kernel_rfl
theorem fl53_otci:semR XRl [] 200 77 [vlA n false N false D,kR 53 (-1074) 971,iR 1] [uR m,iR e,bR i,fR a b c] [false,true,true,false,true,true,false,false] =some ([false=false,decide ((IntKind.i64.wrap ((IntKind.i64.wrap ((flE 53 (-1074) N D)+flO 53 (atQ N D (flE 53 (-1074) N D))))+1))≤971)=false,flC 9007199254740992 (flU (atQ N D (IntKind.i64.wrap ((flE 53 (-1074) N D)+flO 53 (atQ N D (flE 53 (-1074) N D))))))=true,Int.ofNat 0≤Int.ofNat 53,flB (atH N D (IntKind.i64.wrap ((flE 53 (-1074) N D)+flO 53 (atQ N D (flE 53 (-1074) N D))))) (atQ N D (IntKind.i64.wrap ((flE 53 (-1074) N D)+flO 53 (atQ N D (flE 53 (-1074) N D)))))=true,Int.ofNat 0≤Int.ofNat 1∧Int.ofNat 1 < Int.ofNat 7,Int.ofNat 0≤Int.ofNat 52] ++flLow (atQ N D (IntKind.i64.wrap ((flE 53 (-1074) N D)+flO 53 (atQ N D (flE 53 (-1074) N D)))))++flAt N D (IntKind.i64.wrap ((flE 53 (-1074) N D)+flO 53 (atQ N D (flE 53 (-1074) N D)))) false++flOv 53 (atQ N D (flE 53 (-1074) N D)) true++flAt N D (flE 53 (-1074) N D) true++flRoot N D++flRes 0 0 true true true (flV 4503599627370496 (atQ N D (IntKind.i64.wrap ((flE 53 (-1074) N D)+flO 53 (atQ N D (flE 53 (-1074) N D)))))) m e i a b c):=by kernel_rfl
theorem fl53_ofwl:semR XRl [] 200 77 [vlA n false N false D,kR 53 (-1074) 971,iR 1] [uR m,iR e,bR i,fR a b c] [false,false,true,true,false,false,true] =some ([decide ((IntKind.i64.wrap ((flE 53 (-1074) N D)+flO 53 (atQ N D (flE 53 (-1074) N D))))≤971)=true,flC 9007199254740992 (flM (atQ N D (IntKind.i64.wrap ((flE 53 (-1074) N D)+flO 53 (atQ N D (flE 53 (-1074) N D))))))=false,Int.ofNat 0≤Int.ofNat 53,false=false] ++flLow (atQ N D (IntKind.i64.wrap ((flE 53 (-1074) N D)+flO 53 (atQ N D (flE 53 (-1074) N D)))))++flAt N D (IntKind.i64.wrap ((flE 53 (-1074) N D)+flO 53 (atQ N D (flE 53 (-1074) N D)))) true++flOv 53 (atQ N D (flE 53 (-1074) N D)) true++flAt N D (flE 53 (-1074) N D) false++flRoot N D++flRes (flM (atQ N D (IntKind.i64.wrap ((flE 53 (-1074) N D)+flO 53 (atQ N D (flE 53 (-1074) N D)))))) (IntKind.i64.wrap ((flE 53 (-1074) N D)+flO 53 (atQ N D (flE 53 (-1074) N D)))) false false false false m e i a b c):=by kernel_rfl
theorem fl53_ofwi:semR XRl [] 200 77 [vlA n false N false D,kR 53 (-1074) 971,iR 1] [uR m,iR e,bR i,fR a b c] [false,false,true,true,false,false,false,false] =some ([false=false,decide ((IntKind.i64.wrap ((flE 53 (-1074) N D)+flO 53 (atQ N D (flE 53 (-1074) N D))))≤971)=false,flC 9007199254740992 (flM (atQ N D (IntKind.i64.wrap ((flE 53 (-1074) N D)+flO 53 (atQ N D (flE 53 (-1074) N D))))))=false,Int.ofNat 0≤Int.ofNat 53,false=false] ++flLow (atQ N D (IntKind.i64.wrap ((flE 53 (-1074) N D)+flO 53 (atQ N D (flE 53 (-1074) N D)))))++flAt N D (IntKind.i64.wrap ((flE 53 (-1074) N D)+flO 53 (atQ N D (flE 53 (-1074) N D)))) true++flOv 53 (atQ N D (flE 53 (-1074) N D)) true++flAt N D (flE 53 (-1074) N D) false++flRoot N D++flRes 0 0 true true true false m e i a b c):=by kernel_rfl
theorem fl53_ofdl:semR XRl [] 200 77 [vlA n false N false D,kR 53 (-1074) 971,iR 1] [uR m,iR e,bR i,fR a b c] [false,false,true,false,false,false,true] =some ([decide ((IntKind.i64.wrap ((flE 53 (-1074) N D)+flO 53 (atQ N D (flE 53 (-1074) N D))))≤971)=true,flC 9007199254740992 (flM (atQ N D (IntKind.i64.wrap ((flE 53 (-1074) N D)+flO 53 (atQ N D (flE 53 (-1074) N D))))))=false,Int.ofNat 0≤Int.ofNat 53,flB (atH N D (IntKind.i64.wrap ((flE 53 (-1074) N D)+flO 53 (atQ N D (flE 53 (-1074) N D))))) (atQ N D (IntKind.i64.wrap ((flE 53 (-1074) N D)+flO 53 (atQ N D (flE 53 (-1074) N D)))))=false,Int.ofNat 0≤Int.ofNat 1∧Int.ofNat 1 < Int.ofNat 7,Int.ofNat 0≤Int.ofNat 52] ++flLow (atQ N D (IntKind.i64.wrap ((flE 53 (-1074) N D)+flO 53 (atQ N D (flE 53 (-1074) N D)))))++flAt N D (IntKind.i64.wrap ((flE 53 (-1074) N D)+flO 53 (atQ N D (flE 53 (-1074) N D)))) false++flOv 53 (atQ N D (flE 53 (-1074) N D)) true++flAt N D (flE 53 (-1074) N D) false++flRoot N D++flRes (flM (atQ N D (IntKind.i64.wrap ((flE 53 (-1074) N D)+flO 53 (atQ N D (flE 53 (-1074) N D)))))) (IntKind.i64.wrap ((flE 53 (-1074) N D)+flO 53 (atQ N D (flE 53 (-1074) N D)))) false true false (flV 4503599627370496 (atQ N D (IntKind.i64.wrap ((flE 53 (-1074) N D)+flO 53 (atQ N D (flE 53 (-1074) N D)))))) m e i a b c):=by kernel_rfl
theorem fl53_ofdi:semR XRl [] 200 77 [vlA n false N false D,kR 53 (-1074) 971,iR 1] [uR m,iR e,bR i,fR a b c] [false,false,true,false,false,false,false,false] =some ([false=false,decide ((IntKind.i64.wrap ((flE 53 (-1074) N D)+flO 53 (atQ N D (flE 53 (-1074) N D))))≤971)=false,flC 9007199254740992 (flM (atQ N D (IntKind.i64.wrap ((flE 53 (-1074) N D)+flO 53 (atQ N D (flE 53 (-1074) N D))))))=false,Int.ofNat 0≤Int.ofNat 53,flB (atH N D (IntKind.i64.wrap ((flE 53 (-1074) N D)+flO 53 (atQ N D (flE 53 (-1074) N D))))) (atQ N D (IntKind.i64.wrap ((flE 53 (-1074) N D)+flO 53 (atQ N D (flE 53 (-1074) N D)))))=false,Int.ofNat 0≤Int.ofNat 1∧Int.ofNat 1 < Int.ofNat 7,Int.ofNat 0≤Int.ofNat 52] ++flLow (atQ N D (IntKind.i64.wrap ((flE 53 (-1074) N D)+flO 53 (atQ N D (flE 53 (-1074) N D)))))++flAt N D (IntKind.i64.wrap ((flE 53 (-1074) N D)+flO 53 (atQ N D (flE 53 (-1074) N D)))) false++flOv 53 (atQ N D (flE 53 (-1074) N D)) true++flAt N D (flE 53 (-1074) N D) false++flRoot N D++flRes 0 0 true true true (flV 4503599627370496 (atQ N D (IntKind.i64.wrap ((flE 53 (-1074) N D)+flO 53 (atQ N D (flE 53 (-1074) N D)))))) m e i a b c):=by kernel_rfl
theorem fl53_oful:semR XRl [] 200 77 [vlA n false N false D,kR 53 (-1074) 971,iR 1] [uR m,iR e,bR i,fR a b c] [false,false,true,false,true,false,true] =some ([decide ((IntKind.i64.wrap ((flE 53 (-1074) N D)+flO 53 (atQ N D (flE 53 (-1074) N D))))≤971)=true,flC 9007199254740992 (flU (atQ N D (IntKind.i64.wrap ((flE 53 (-1074) N D)+flO 53 (atQ N D (flE 53 (-1074) N D))))))=false,Int.ofNat 0≤Int.ofNat 53,flB (atH N D (IntKind.i64.wrap ((flE 53 (-1074) N D)+flO 53 (atQ N D (flE 53 (-1074) N D))))) (atQ N D (IntKind.i64.wrap ((flE 53 (-1074) N D)+flO 53 (atQ N D (flE 53 (-1074) N D)))))=true,Int.ofNat 0≤Int.ofNat 1∧Int.ofNat 1 < Int.ofNat 7,Int.ofNat 0≤Int.ofNat 52] ++flLow (atQ N D (IntKind.i64.wrap ((flE 53 (-1074) N D)+flO 53 (atQ N D (flE 53 (-1074) N D)))))++flAt N D (IntKind.i64.wrap ((flE 53 (-1074) N D)+flO 53 (atQ N D (flE 53 (-1074) N D)))) false++flOv 53 (atQ N D (flE 53 (-1074) N D)) true++flAt N D (flE 53 (-1074) N D) false++flRoot N D++flRes (flU (atQ N D (IntKind.i64.wrap ((flE 53 (-1074) N D)+flO 53 (atQ N D (flE 53 (-1074) N D)))))) (IntKind.i64.wrap ((flE 53 (-1074) N D)+flO 53 (atQ N D (flE 53 (-1074) N D)))) false true false (flV 4503599627370496 (atQ N D (IntKind.i64.wrap ((flE 53 (-1074) N D)+flO 53 (atQ N D (flE 53 (-1074) N D)))))) m e i a b c):=by kernel_rfl
theorem fl53_ofui:semR XRl [] 200 77 [vlA n false N false D,kR 53 (-1074) 971,iR 1] [uR m,iR e,bR i,fR a b c] [false,false,true,false,true,false,false,false] =some ([false=false,decide ((IntKind.i64.wrap ((flE 53 (-1074) N D)+flO 53 (atQ N D (flE 53 (-1074) N D))))≤971)=false,flC 9007199254740992 (flU (atQ N D (IntKind.i64.wrap ((flE 53 (-1074) N D)+flO 53 (atQ N D (flE 53 (-1074) N D))))))=false,Int.ofNat 0≤Int.ofNat 53,flB (atH N D (IntKind.i64.wrap ((flE 53 (-1074) N D)+flO 53 (atQ N D (flE 53 (-1074) N D))))) (atQ N D (IntKind.i64.wrap ((flE 53 (-1074) N D)+flO 53 (atQ N D (flE 53 (-1074) N D)))))=true,Int.ofNat 0≤Int.ofNat 1∧Int.ofNat 1 < Int.ofNat 7,Int.ofNat 0≤Int.ofNat 52] ++flLow (atQ N D (IntKind.i64.wrap ((flE 53 (-1074) N D)+flO 53 (atQ N D (flE 53 (-1074) N D)))))++flAt N D (IntKind.i64.wrap ((flE 53 (-1074) N D)+flO 53 (atQ N D (flE 53 (-1074) N D)))) false++flOv 53 (atQ N D (flE 53 (-1074) N D)) true++flAt N D (flE 53 (-1074) N D) false++flRoot N D++flRes 0 0 true true true (flV 4503599627370496 (atQ N D (IntKind.i64.wrap ((flE 53 (-1074) N D)+flO 53 (atQ N D (flE 53 (-1074) N D)))))) m e i a b c):=by kernel_rfl
theorem fl53_ofcl:semR XRl [] 200 77 [vlA n false N false D,kR 53 (-1074) 971,iR 1] [uR m,iR e,bR i,fR a b c] [false,false,true,false,true,true,true] =some ([decide ((IntKind.i64.wrap ((IntKind.i64.wrap ((flE 53 (-1074) N D)+flO 53 (atQ N D (flE 53 (-1074) N D))))+1))≤971)=true,flC 9007199254740992 (flU (atQ N D (IntKind.i64.wrap ((flE 53 (-1074) N D)+flO 53 (atQ N D (flE 53 (-1074) N D))))))=true,Int.ofNat 0≤Int.ofNat 53,flB (atH N D (IntKind.i64.wrap ((flE 53 (-1074) N D)+flO 53 (atQ N D (flE 53 (-1074) N D))))) (atQ N D (IntKind.i64.wrap ((flE 53 (-1074) N D)+flO 53 (atQ N D (flE 53 (-1074) N D)))))=true,Int.ofNat 0≤Int.ofNat 1∧Int.ofNat 1 < Int.ofNat 7,Int.ofNat 0≤Int.ofNat 52] ++flLow (atQ N D (IntKind.i64.wrap ((flE 53 (-1074) N D)+flO 53 (atQ N D (flE 53 (-1074) N D)))))++flAt N D (IntKind.i64.wrap ((flE 53 (-1074) N D)+flO 53 (atQ N D (flE 53 (-1074) N D)))) false++flOv 53 (atQ N D (flE 53 (-1074) N D)) true++flAt N D (flE 53 (-1074) N D) false++flRoot N D++flRes (flH (flU (atQ N D (IntKind.i64.wrap ((flE 53 (-1074) N D)+flO 53 (atQ N D (flE 53 (-1074) N D))))))) (IntKind.i64.wrap ((IntKind.i64.wrap ((flE 53 (-1074) N D)+flO 53 (atQ N D (flE 53 (-1074) N D))))+1)) false true false (flV 4503599627370496 (atQ N D (IntKind.i64.wrap ((flE 53 (-1074) N D)+flO 53 (atQ N D (flE 53 (-1074) N D)))))) m e i a b c):=by kernel_rfl
theorem fl53_ofci:semR XRl [] 200 77 [vlA n false N false D,kR 53 (-1074) 971,iR 1] [uR m,iR e,bR i,fR a b c] [false,false,true,false,true,true,false,false] =some ([false=false,decide ((IntKind.i64.wrap ((IntKind.i64.wrap ((flE 53 (-1074) N D)+flO 53 (atQ N D (flE 53 (-1074) N D))))+1))≤971)=false,flC 9007199254740992 (flU (atQ N D (IntKind.i64.wrap ((flE 53 (-1074) N D)+flO 53 (atQ N D (flE 53 (-1074) N D))))))=true,Int.ofNat 0≤Int.ofNat 53,flB (atH N D (IntKind.i64.wrap ((flE 53 (-1074) N D)+flO 53 (atQ N D (flE 53 (-1074) N D))))) (atQ N D (IntKind.i64.wrap ((flE 53 (-1074) N D)+flO 53 (atQ N D (flE 53 (-1074) N D)))))=true,Int.ofNat 0≤Int.ofNat 1∧Int.ofNat 1 < Int.ofNat 7,Int.ofNat 0≤Int.ofNat 52] ++flLow (atQ N D (IntKind.i64.wrap ((flE 53 (-1074) N D)+flO 53 (atQ N D (flE 53 (-1074) N D)))))++flAt N D (IntKind.i64.wrap ((flE 53 (-1074) N D)+flO 53 (atQ N D (flE 53 (-1074) N D)))) false++flOv 53 (atQ N D (flE 53 (-1074) N D)) true++flAt N D (flE 53 (-1074) N D) false++flRoot N D++flRes 0 0 true true true (flV 4503599627370496 (atQ N D (IntKind.i64.wrap ((flE 53 (-1074) N D)+flO 53 (atQ N D (flE 53 (-1074) N D)))))) m e i a b c):=by kernel_rfl
end
end Go.Proofs.YtdgfhijnconaoaaGreatDoor
namespace Go.Proofs.YtdgfhijnconaoaaGreatDoor
open Go Go.RowKit Ev Wd
section
variable (n:Bool) (N D:List Int) (m e:Int) (i a b c:Bool)
end
end Go.Proofs.YtdgfhijnconaoaaGreatDoor
namespace Go.Proofs.YtdgfhijnconaoaaGreatDoor
open Go Go.RowKit Ev Wd
def flq (N D:Nat) (e:Int):Nat:=atA N e/atB D e
def flr (N D:Nat) (e:Int):Nat:=atA N e%atB D e
def fle0 (K:Nat) (L:Int) (N D:Nat):Int:=if L < (bl N:Int)-bl D-K-2 then (bl N:Int)-bl D-K-2 else L
def fle1 (K:Nat) (L:Int) (N D:Nat):Int:=if K < bl (flq N D (fle0 K L N D)) then fle0 K L N D+((bl (flq N D (fle0 K L N D)):Int)-K) else fle0 K L N D
def flw (N D:Nat) (e:Int):Bool:=decide (flr N D e=0)
def flh (N D:Nat) (e:Int):Int:=cmN (flr N D e*2) (atB D e)
def upB (h:Int) (q:Nat):Bool:=decide (0 < h) || (decide (h=0) && decide (q%2=1))
def flup (N D:Nat) (e:Int):Bool:= !flw N D e && upB (flh N D e) (flq N D e)
def flm (N D:Nat) (e:Int):Nat:=if flup N D e=true then flq N D e+1 else flq N D e
def flMm (K:Nat) (N D:Nat) (e:Int):Nat:=if 2 ^K≤flm N D e then flm N D e/2 else flm N D e
def flEe (K:Nat) (N D:Nat) (e:Int):Int:=if 2 ^K≤flm N D e then e+1 else e
def flInf (K:Nat) (M:Int) (N D:Nat) (e:Int):Bool:=decide (M < flEe K N D e)
def flUn (K:Nat) (N D:Nat) (e:Int):Bool:= !flw N D e && decide (flq N D e < 2 ^(K-1))
abbrev flOut (K:Nat) (M:Int) (N D:Nat) (e:Int):List Arg:=if flInf K M N D e=true then [uR 0,iR 0,bR true,fR true true (flUn K N D e)] else [uR (flMm K N D e),iR (flEe K N D e),bR false,fR (!flw N D e) false (flUn K N D e)]
theorem atB_pos {D:Nat} (hD:0 < D) (e:Int):0 < atB D e:=by
 unfold atB
 split
 ·exact Nat.mul_pos hD (Nat.pow_pos (by decide))
 ·exact hD
theorem flq_shift {N D:Nat} (e:Int) (s:Nat):flq N D (e+s)=flq N D e/2 ^s:=by
 have h2:∀ k:Nat,0 < 2 ^k:=fun k=>Nat.pow_pos (by decide)
 unfold flq atA atB
 by_cases h0:0≤e
 ·rw [if_pos (show 0≤e+(s:Int) by omega),if_pos (show 0≤e+(s:Int) by omega),if_pos h0,if_pos h0,Nat.div_div_eq_div_mul,Nat.mul_assoc,← Nat.pow_add,show (e+(s:Int)).toNat=e.toNat+s by omega]
 ·rw [if_neg h0,if_neg h0,Nat.div_div_eq_div_mul]
  by_cases h1:0≤e+(s:Int)
  ·rw [if_pos h1,if_pos h1,show s=(e+(s:Int)).toNat+(-e).toNat by omega,Nat.pow_add,← Nat.mul_assoc,Nat.mul_div_mul_right _ _ (h2 _)]
   rw [show ((e+((((e+(s:Int)).toNat+(-e).toNat:Nat)):Int)).toNat)=(e+(s:Int)).toNat by omega]
  ·rw [if_neg h1,if_neg h1,show (-e).toNat=(-(e+(s:Int))).toNat+s by omega,Nat.pow_add,← Nat.mul_assoc,Nat.mul_div_mul_right _ _ (h2 _)]
theorem flq_lt {K:Nat} {L:Int} {N D:Nat} :flq N D (fle1 K L N D) < 2 ^K:=by
 unfold fle1
 by_cases h:K < bl (flq N D (fle0 K L N D))
 ·rw [if_pos h]
  obtain⟨s,hs⟩:∃ s,bl (flq N D (fle0 K L N D))=K+s:=⟨bl (flq N D (fle0 K L N D))-K,by omega⟩
  rw [hs,show ((K+s:Nat):Int)-K=(s:Int) by omega,flq_shift]
  have:=lt_bl (flq N D (fle0 K L N D))
  rw [hs,Nat.pow_add] at this
  exact Nat.div_lt_of_lt_mul (by rw [Nat.mul_comm]; exact this)
 ·rw [if_neg h]
  exact bl_le.1 (by omega)
theorem wl_bl {m k:Nat} (h:bl m≤k):wl m≤k:=wl_le.2 (Nat.lt_of_lt_of_le (bl_le.1 h) (Nat.pow_le_pow_left (by decide) k))
theorem bl_mul2 (n k:Nat):bl (n*2 ^k)≤bl n+k:=by
 refine bl_le.2 ?_
 rw [Nat.pow_add]
 exact Nat.mul_lt_mul_of_pos_right (lt_bl n) (Nat.pow_pos (by decide))
theorem bl_atA (N:Nat) (e:Int):bl (atA N e)≤bl N+(-e).toNat:=by
 unfold atA
 split
 ·omega
 ·exact bl_mul2 _ _
theorem bl_atB (D:Nat) (e:Int):bl (atB D e)≤bl D+e.toNat:=by
 unfold atB
 split
 ·exact bl_mul2 _ _
 ·omega
theorem bl_flq (N D:Nat) (e:Int):bl (flq N D e)≤bl N+(-e).toNat:=Nat.le_trans (bl_mono (Nat.div_le_self _ _)) (bl_atA N e)
theorem fle0_range {K:Nat} {L:Int} {N D:Nat} (hK:K≤53) (hL: -1074≤L∧L≤0) (hN:bl N≤1000000) (hD:bl D≤1000000): -1100000≤fle0 K L N D∧fle0 K L N D≤1100000∧L≤fle0 K L N D:=by
 unfold fle0
 split <;> omega
theorem fle1_range {K:Nat} {L:Int} {N D:Nat} (hK:K≤53) (hL: -1074≤L∧L≤0) (hN:bl N≤1000000) (hD:bl D≤1000000): -1100000≤fle1 K L N D∧fle1 K L N D≤5000000∧L≤fle1 K L N D:=by
 obtain⟨h1,h2,h3⟩:=fle0_range (D:=D) hK hL hN hD
 have h4:=bl_flq N D (fle0 K L N D)
 unfold fle1
 split <;> omega
theorem atOk_ws {N D:Nat} {e:Int} (hD:0 < D) (h1:bl N≤1000000) (h2:bl D≤1000000) (he: -10000000≤e∧e≤10000000):atOk (ws W64 N) (ws W64 D) e:=by
 have a:=wl_bl (bl_atA N e)
 have b:=wl_bl (bl_atB D e)
 have c:=wl_bl h1
 have d:=wl_bl h2
 refine⟨Cn.ws _,Cn.ws _,by rw [wsVal]; exact hD,by show wl _ < _; omega,by show wl _ < _; omega,by rw [wsVal]; omega,by rw [wsVal]; omega,by omega,by omega⟩
theorem atQ_ws (N D:Nat) (e:Int):atQ (ws W64 N) (ws W64 D) e=ws W64 (flq N D e):=by unfold atQ; rw [wsVal,wsVal]; rfl
theorem atH_ws (N D:Nat) (e:Int):atH (ws W64 N) (ws W64 D) e=flh N D e:=by unfold atH; rw [wsVal,wsVal]; rfl
theorem atZ_ws (N D:Nat) (e:Int):atZ (ws W64 N) (ws W64 D) e=flw N D e:=by unfold atZ; rw [wsVal,wsVal]; rfl
theorem bitX_ws (n:Nat):bitX (ws W64 n)=(bl n:Int):=by unfold bitX; rw [wsVal]
theorem flM_ws {q:Nat} (h:q < W64):flM (ws W64 q)=(q:Int):=by
 unfold flM lowX
 rw [List.take_length,wsVal,Nat.mod_eq_of_lt h]
theorem u64w {n:Nat} (h:n < W64):IntKind.u64.wrap (n:Int)=(n:Int):=by
 have h:n < 18446744073709551616:=h
 rw [IntKind.wrap_u64]
 omega
theorem flU_ws {q:Nat} (h:q+1 < W64):flU (ws W64 q)=((q+1:Nat):Int):=by
 unfold flU
 rw [flM_ws (by omega)]
 exact u64w (n:=q+1) h
theorem flC_nat (P m:Nat) (hP:0 < P):flC P (m:Int)=decide (P≤m):=by
 unfold flC
 show decide ((0:Int) < Int.fdiv (m:Int) (P:Int))=_
 rw [← Int.ofNat_fdiv]
 refine decide_eq_decide.2 ?_
 have:0 < m/P↔P≤m:=by rw [Nat.div_pos_iff]; omega
 omega
theorem flH_nat {m:Nat} (h:m < W64):flH (m:Int)=((m/2:Nat):Int):=by
 unfold flH
 have e:Int.tdiv (m:Int) 2=((m/2:Nat):Int):=(Int.ofNat_tdiv m 2).symm
 rw [e]
 exact u64w (by omega)
theorem flV_ws {q P:Nat} (h:q < W64) (hP:0 < P):flV P (ws W64 q)=decide (q < P):=by
 unfold flV
 rw [flM_ws h]
 show (Int.fdiv (q:Int) (P:Int)==0)=_
 rw [← Int.ofNat_fdiv]
 by_cases hq:q < P
 ·rw [Nat.div_eq_of_lt hq,decide_eq_true hq]; rfl
 ·rw [decide_eq_false hq]
  refine beq_false_of_ne fun e=>hq ?_
  have e:((q/P:Nat):Int)=0:=e
  have:q/P=0:=by omega
  exact (Nat.div_eq_zero_iff_lt hP).1 this
theorem flB_ws {q:Nat} (h:Int) (hq:q < W64):flB h (ws W64 q)=upB h q:=by
 unfold flB upB
 rw [flM_ws hq,and_one hq]
 by_cases h1:0 < h
 ·rw [decide_eq_true (show h > 0 from h1)]; rfl
 ·rw [decide_eq_false (show ¬h > 0 from h1)]
  by_cases h2:h=0
  ·rw [h2]
   show (((q%2:Nat):Int)==1)=(false || (true && decide (q%2=1)))
   by_cases h3:q%2=1
   ·rw [h3]; rfl
   ·rw [decide_eq_false h3]
    exact beq_false_of_ne (by omega)
  ·rw [beq_false_of_ne h2,decide_eq_false h2]; rfl
theorem ap2 {a b:List Prop} (h:allP a) (k:allP b):allP (a++b):=(allP_append _ _).2 ⟨h,k⟩
theorem i64w {n:Int} (h0: -9223372036854775808≤n) (h1:n≤9223372036854775807):IntKind.i64.wrap n=n:=by
 have:=IntKind.wrap_i64 n
 omega
theorem flE_ws {K:Nat} {L:Int} {N D:Nat} (hK:K≤53) (hN:bl N≤1000000) (hD:bl D≤1000000):flE K L (ws W64 N) (ws W64 D)=fle0 K L N D:=by
 have e:flN K (ws W64 N) (ws W64 D)=(bl N:Int)-bl D-K-2:=by
  unfold flN
  rw [bitX_ws,bitX_ws,i64w (n:=(bl N:Int)-bl D) (by omega) (by omega),i64w (n:=(bl N:Int)-bl D-K) (by omega) (by omega),i64w (by omega) (by omega)]
 unfold flE fle0
 rw [e]
theorem flO_ws {K q:Nat} (hK:K≤53) (h:bl q≤10000000):flO K (ws W64 q)=(bl q:Int)-K:=by
 unfold flO
 rw [bitX_ws,i64w (by omega) (by omega)]
theorem flRoot_ok {N D:Nat} (h1:bl N≤1000000) (h2:bl D≤1000000):allP (flRoot (ws W64 N) (ws W64 D)):=by
 have c:=wl_bl h1
 have d:=wl_bl h2
 exact⟨rfl,rfl,Cn.ws _,by show wl _ < _; omega,rfl,Cn.ws _,by show wl _ < _; omega,trivial⟩
theorem flAt_ok {N D:Nat} {e:Int} {w:Bool} (hD:0 < D) (h1:bl N≤1000000) (h2:bl D≤1000000) (he: -10000000≤e∧e≤10000000) (hw:flw N D e=w):allP (flAt (ws W64 N) (ws W64 D) e w):=
 ⟨rfl,rfl,atOk_ws hD h1 h2 he,by rw [atZ_ws]; exact hw,trivial⟩
theorem flOv_ok {K q:Nat} {b:Bool} (hK:K≤53) (h:bl q≤10000000) (hb:decide (K < bl q)=b):allP (flOv K (ws W64 q) b):=by
 have c:=wl_bl h
 refine⟨?_,rfl,Cn.ws _,by show wl _ < _; omega,trivial⟩
 rw [flO_ws hK h,← hb]
 exact decide_eq_decide.2 (by omega)
theorem flLow_ok (q:Nat):allP (flLow (ws W64 q)):=⟨Nat.le_refl _,by rw [List.take_length]; exact Cn.ws _,trivial⟩
end Go.Proofs.YtdgfhijnconaoaaGreatDoor
namespace Go.Proofs.YtdgfhijnconaoaaGreatDoor
open Go Go.RowKit Ev Wd
theorem float53_n (n:Bool) {N D:Nat} (hD:0 < D) (h1:bl N≤1000000) (h2:bl D≤1000000) (ho:decide (53 < bl (flq N D (fle0 53 (-1074) N D)))=false):
  Ev.Sem Tryz.prog J0 77 [vlA n false (ws W64 N) false (ws W64 D),kR 53 (-1074) 971,iR 1] (flOut 53 971 N D (fle1 53 (-1074) N D)):=by
 have q0:=flq_lt (K:=53) (L:=(-1074)) (N:=N) (D:=D)
 have r0:=fle0_range (K:=53) (L:=(-1074)) (by decide) (by decide) h1 h2
 have r1:=fle1_range (K:=53) (L:=(-1074)) (by decide) (by decide) h1 h2
 have hE0:flE 53 (-1074) (ws W64 N) (ws W64 D)=fle0 53 (-1074) N D:=flE_ws (K:=53) (by decide) h1 h2
 have hQ0:=atQ_ws N D (fle0 53 (-1074) N D)
 have hb0:bl (flq N D (fle0 53 (-1074) N D))≤10000000:=by
  have:=bl_flq N D (fle0 53 (-1074) N D)
  omega
 have he:fle1 53 (-1074) N D=fle0 53 (-1074) N D:=by unfold fle1; rw [if_neg (of_decide_eq_false ho)]
 rw [he] at q0 r1 ⊢
 replace r0: -10000000≤fle0 53 (-1074) N D∧fle0 53 (-1074) N D≤10000000:=by omega
 generalize fle0 53 (-1074) N D=e at*
 have hq:flq N D e < 9007199254740992:=q0
 have hqW:flq N D e < W64:=Nat.lt_of_lt_of_le hq (by decide)
 have hq1:flq N D e+1 < W64:=Nat.lt_of_le_of_lt hq (by decide)
 have hEw:IntKind.i64.wrap (e+1)=e+1:=i64w (by omega) (by omega)
 have hc0:¬2 ^53≤flq N D e:=by
  show ¬9007199254740992≤flq N D e
  omega
 replace r1:=r0
 cases hw:flw N D e with
 | true=>
  have hc:=hc0
  by_cases hl:e≤971
  ·
   have hup:flup N D e=false:=by unfold flup; rw [hw]; rfl
   have hm:flm N D e=flq N D e:=by unfold flm; rw [hup]; rfl
   have hMm:flMm 53 N D e=flq N D e:=by unfold flMm; rw [hm,if_neg hc]
   have hEe:flEe 53 N D e=e:=by unfold flEe; rw [hm,if_neg hc]
   have hInf:flInf 53 971 N D e=false:=by unfold flInf; rw [hEe]; exact decide_eq_false (by omega)
   have hUn:flUn 53 N D e=false:=by unfold flUn; rw [hw]; rfl
   have hout:flOut 53 971 N D e=[uR ((flq N D e:Nat):Int),iR (e),bR false,fR false false false] :=by
    show (if flInf 53 971 N D e=true then _ else _)=_
    rw [hInf,if_neg (by decide),hMm,hEe,hUn,hw]; rfl
   rw [hout]
   refine sem_ofL bRo1_ok 10 [] [false,true,false,false,false,true] (fl53_nwl n (ws W64 N) (ws W64 D) _ _ _ _ _ _) ?_
   simp only [hE0,hQ0]
   exact ap2 (ap2 (ap2 (ap2 (ap2 ⟨decide_eq_true (by omega),(by rw [flM_ws hqW,flC_nat _ _ (by decide)]; exact decide_eq_false hc),by decide,(by first | exact rfl | exact trivial),trivial⟩ (flLow_ok _)) (flOv_ok (K:=53) (by decide) hb0 ho)) (flAt_ok hD h1 h2 r0 hw)) (flRoot_ok h1 h2)) ⟨(by rw [flM_ws hqW]),(by first | exact rfl | exact trivial),(by first | exact rfl | exact trivial),(by first | exact rfl | exact trivial),(by first | exact rfl | exact trivial),(by first | exact rfl | exact trivial),trivial⟩
  ·
   have hup:flup N D e=false:=by unfold flup; rw [hw]; rfl
   have hm:flm N D e=flq N D e:=by unfold flm; rw [hup]; rfl
   have hMm:flMm 53 N D e=flq N D e:=by unfold flMm; rw [hm,if_neg hc]
   have hEe:flEe 53 N D e=e:=by unfold flEe; rw [hm,if_neg hc]
   have hInf:flInf 53 971 N D e=true:=by unfold flInf; rw [hEe]; exact decide_eq_true (by omega)
   have hUn:flUn 53 N D e=false:=by unfold flUn; rw [hw]; rfl
   have hout:flOut 53 971 N D e=[uR 0,iR 0,bR true,fR true true false] :=by
    show (if flInf 53 971 N D e=true then _ else _)=_
    rw [hInf,if_pos rfl,hUn]
   rw [hout]
   refine sem_ofL bRo1_ok 10 [] [false,true,false,false,false,false,false] (fl53_nwi n (ws W64 N) (ws W64 D) _ _ _ _ _ _) ?_
   simp only [hE0,hQ0]
   exact ap2 (ap2 (ap2 (ap2 (ap2 ⟨(by first | exact rfl | exact trivial),decide_eq_false (by omega),(by rw [flM_ws hqW,flC_nat _ _ (by decide)]; exact decide_eq_false hc),by decide,(by first | exact rfl | exact trivial),trivial⟩ (flLow_ok _)) (flOv_ok (K:=53) (by decide) hb0 ho)) (flAt_ok hD h1 h2 r0 hw)) (flRoot_ok h1 h2)) ⟨(by first | exact rfl | exact trivial),(by first | exact rfl | exact trivial),(by first | exact rfl | exact trivial),(by first | exact rfl | exact trivial),(by first | exact rfl | exact trivial),(by first | exact rfl | exact trivial),trivial⟩
 | false=>
  cases hu:upB (flh N D e) (flq N D e) with
  | false=>
   have hc:=hc0
   by_cases hl:e≤971
   ·
    have hup:flup N D e=false:=by unfold flup; rw [hw,hu]; rfl
    have hm:flm N D e=flq N D e:=by unfold flm; rw [hup]; rfl
    have hMm:flMm 53 N D e=flq N D e:=by unfold flMm; rw [hm,if_neg hc]
    have hEe:flEe 53 N D e=e:=by unfold flEe; rw [hm,if_neg hc]
    have hInf:flInf 53 971 N D e=false:=by unfold flInf; rw [hEe]; exact decide_eq_false (by omega)
    have hUn:flUn 53 N D e=decide (flq N D e < 4503599627370496):=by unfold flUn; rw [hw]; rfl
    have hout:flOut 53 971 N D e=[uR ((flq N D e:Nat):Int),iR (e),bR false,fR true false (decide (flq N D e < 4503599627370496))] :=by
     show (if flInf 53 971 N D e=true then _ else _)=_
     rw [hInf,if_neg (by decide),hMm,hEe,hUn,hw]; rfl
    rw [hout]
    refine sem_ofL bRo1_ok 10 [] [false,false,false,false,false,true] (fl53_ndl n (ws W64 N) (ws W64 D) _ _ _ _ _ _) ?_
    simp only [hE0,hQ0]
    exact ap2 (ap2 (ap2 (ap2 (ap2 ⟨decide_eq_true (by omega),(by rw [flM_ws hqW,flC_nat _ _ (by decide)]; exact decide_eq_false hc),by decide,(by rw [flB_ws _ hqW,atH_ws]; exact hu),⟨by decide,by decide⟩,by decide,trivial⟩ (flLow_ok _)) (flOv_ok (K:=53) (by decide) hb0 ho)) (flAt_ok hD h1 h2 r0 hw)) (flRoot_ok h1 h2)) ⟨(by rw [flM_ws hqW]),(by first | exact rfl | exact trivial),(by first | exact rfl | exact trivial),(by first | exact rfl | exact trivial),(by first | exact rfl | exact trivial),(by rw [flV_ws hqW (by decide)]),trivial⟩
   ·
    have hup:flup N D e=false:=by unfold flup; rw [hw,hu]; rfl
    have hm:flm N D e=flq N D e:=by unfold flm; rw [hup]; rfl
    have hMm:flMm 53 N D e=flq N D e:=by unfold flMm; rw [hm,if_neg hc]
    have hEe:flEe 53 N D e=e:=by unfold flEe; rw [hm,if_neg hc]
    have hInf:flInf 53 971 N D e=true:=by unfold flInf; rw [hEe]; exact decide_eq_true (by omega)
    have hUn:flUn 53 N D e=decide (flq N D e < 4503599627370496):=by unfold flUn; rw [hw]; rfl
    have hout:flOut 53 971 N D e=[uR 0,iR 0,bR true,fR true true (decide (flq N D e < 4503599627370496))] :=by
     show (if flInf 53 971 N D e=true then _ else _)=_
     rw [hInf,if_pos rfl,hUn]
    rw [hout]
    refine sem_ofL bRo1_ok 10 [] [false,false,false,false,false,false,false] (fl53_ndi n (ws W64 N) (ws W64 D) _ _ _ _ _ _) ?_
    simp only [hE0,hQ0]
    exact ap2 (ap2 (ap2 (ap2 (ap2 ⟨(by first | exact rfl | exact trivial),decide_eq_false (by omega),(by rw [flM_ws hqW,flC_nat _ _ (by decide)]; exact decide_eq_false hc),by decide,(by rw [flB_ws _ hqW,atH_ws]; exact hu),⟨by decide,by decide⟩,by decide,trivial⟩ (flLow_ok _)) (flOv_ok (K:=53) (by decide) hb0 ho)) (flAt_ok hD h1 h2 r0 hw)) (flRoot_ok h1 h2)) ⟨(by first | exact rfl | exact trivial),(by first | exact rfl | exact trivial),(by first | exact rfl | exact trivial),(by first | exact rfl | exact trivial),(by first | exact rfl | exact trivial),(by rw [flV_ws hqW (by decide)]),trivial⟩
  | true=>
   by_cases hc:2 ^53≤flq N D e+1
   ·by_cases hl:e+1≤971
    ·
     have hup:flup N D e=true:=by unfold flup; rw [hw,hu]; rfl
     have hm:flm N D e=flq N D e+1:=by unfold flm; rw [hup]; rfl
     have hMm:flMm 53 N D e=(flq N D e+1)/2:=by unfold flMm; rw [hm,if_pos hc]
     have hEe:flEe 53 N D e=e+1:=by unfold flEe; rw [hm,if_pos hc]
     have hInf:flInf 53 971 N D e=false:=by unfold flInf; rw [hEe]; exact decide_eq_false (by omega)
     have hUn:flUn 53 N D e=decide (flq N D e < 4503599627370496):=by unfold flUn; rw [hw]; rfl
     have hout:flOut 53 971 N D e=[uR (((flq N D e+1)/2:Nat):Int),iR (e+1),bR false,fR true false (decide (flq N D e < 4503599627370496))] :=by
      show (if flInf 53 971 N D e=true then _ else _)=_
      rw [hInf,if_neg (by decide),hMm,hEe,hUn,hw]; rfl
     rw [hout]
     refine sem_ofL bRo1_ok 10 [] [false,false,false,true,true,true] (fl53_ncl n (ws W64 N) (ws W64 D) _ _ _ _ _ _) ?_
     simp only [hE0,hQ0]
     exact ap2 (ap2 (ap2 (ap2 (ap2 ⟨(by rw [hEw]; exact decide_eq_true (by omega)),(by rw [flU_ws hq1,flC_nat _ _ (by decide)]; exact decide_eq_true hc),by decide,(by rw [flB_ws _ hqW,atH_ws]; exact hu),⟨by decide,by decide⟩,by decide,trivial⟩ (flLow_ok _)) (flOv_ok (K:=53) (by decide) hb0 ho)) (flAt_ok hD h1 h2 r0 hw)) (flRoot_ok h1 h2)) ⟨(by rw [flU_ws hq1,flH_nat hq1]),(by rw [hEw]),(by first | exact rfl | exact trivial),(by first | exact rfl | exact trivial),(by first | exact rfl | exact trivial),(by rw [flV_ws hqW (by decide)]),trivial⟩
    ·
     have hup:flup N D e=true:=by unfold flup; rw [hw,hu]; rfl
     have hm:flm N D e=flq N D e+1:=by unfold flm; rw [hup]; rfl
     have hMm:flMm 53 N D e=(flq N D e+1)/2:=by unfold flMm; rw [hm,if_pos hc]
     have hEe:flEe 53 N D e=e+1:=by unfold flEe; rw [hm,if_pos hc]
     have hInf:flInf 53 971 N D e=true:=by unfold flInf; rw [hEe]; exact decide_eq_true (by omega)
     have hUn:flUn 53 N D e=decide (flq N D e < 4503599627370496):=by unfold flUn; rw [hw]; rfl
     have hout:flOut 53 971 N D e=[uR 0,iR 0,bR true,fR true true (decide (flq N D e < 4503599627370496))] :=by
      show (if flInf 53 971 N D e=true then _ else _)=_
      rw [hInf,if_pos rfl,hUn]
     rw [hout]
     refine sem_ofL bRo1_ok 10 [] [false,false,false,true,true,false,false] (fl53_nci n (ws W64 N) (ws W64 D) _ _ _ _ _ _) ?_
     simp only [hE0,hQ0]
     exact ap2 (ap2 (ap2 (ap2 (ap2 ⟨(by first | exact rfl | exact trivial),(by rw [hEw]; exact decide_eq_false (by omega)),(by rw [flU_ws hq1,flC_nat _ _ (by decide)]; exact decide_eq_true hc),by decide,(by rw [flB_ws _ hqW,atH_ws]; exact hu),⟨by decide,by decide⟩,by decide,trivial⟩ (flLow_ok _)) (flOv_ok (K:=53) (by decide) hb0 ho)) (flAt_ok hD h1 h2 r0 hw)) (flRoot_ok h1 h2)) ⟨(by first | exact rfl | exact trivial),(by first | exact rfl | exact trivial),(by first | exact rfl | exact trivial),(by first | exact rfl | exact trivial),(by first | exact rfl | exact trivial),(by rw [flV_ws hqW (by decide)]),trivial⟩
   ·by_cases hl:e≤971
    ·
     have hup:flup N D e=true:=by unfold flup; rw [hw,hu]; rfl
     have hm:flm N D e=flq N D e+1:=by unfold flm; rw [hup]; rfl
     have hMm:flMm 53 N D e=flq N D e+1:=by unfold flMm; rw [hm,if_neg hc]
     have hEe:flEe 53 N D e=e:=by unfold flEe; rw [hm,if_neg hc]
     have hInf:flInf 53 971 N D e=false:=by unfold flInf; rw [hEe]; exact decide_eq_false (by omega)
     have hUn:flUn 53 N D e=decide (flq N D e < 4503599627370496):=by unfold flUn; rw [hw]; rfl
     have hout:flOut 53 971 N D e=[uR ((flq N D e+1:Nat):Int),iR (e),bR false,fR true false (decide (flq N D e < 4503599627370496))] :=by
      show (if flInf 53 971 N D e=true then _ else _)=_
      rw [hInf,if_neg (by decide),hMm,hEe,hUn,hw]; rfl
     rw [hout]
     refine sem_ofL bRo1_ok 10 [] [false,false,false,true,false,true] (fl53_nul n (ws W64 N) (ws W64 D) _ _ _ _ _ _) ?_
     simp only [hE0,hQ0]
     exact ap2 (ap2 (ap2 (ap2 (ap2 ⟨decide_eq_true (by omega),(by rw [flU_ws hq1,flC_nat _ _ (by decide)]; exact decide_eq_false hc),by decide,(by rw [flB_ws _ hqW,atH_ws]; exact hu),⟨by decide,by decide⟩,by decide,trivial⟩ (flLow_ok _)) (flOv_ok (K:=53) (by decide) hb0 ho)) (flAt_ok hD h1 h2 r0 hw)) (flRoot_ok h1 h2)) ⟨(by rw [flU_ws hq1]),(by first | exact rfl | exact trivial),(by first | exact rfl | exact trivial),(by first | exact rfl | exact trivial),(by first | exact rfl | exact trivial),(by rw [flV_ws hqW (by decide)]),trivial⟩
    ·
     have hup:flup N D e=true:=by unfold flup; rw [hw,hu]; rfl
     have hm:flm N D e=flq N D e+1:=by unfold flm; rw [hup]; rfl
     have hMm:flMm 53 N D e=flq N D e+1:=by unfold flMm; rw [hm,if_neg hc]
     have hEe:flEe 53 N D e=e:=by unfold flEe; rw [hm,if_neg hc]
     have hInf:flInf 53 971 N D e=true:=by unfold flInf; rw [hEe]; exact decide_eq_true (by omega)
     have hUn:flUn 53 N D e=decide (flq N D e < 4503599627370496):=by unfold flUn; rw [hw]; rfl
     have hout:flOut 53 971 N D e=[uR 0,iR 0,bR true,fR true true (decide (flq N D e < 4503599627370496))] :=by
      show (if flInf 53 971 N D e=true then _ else _)=_
      rw [hInf,if_pos rfl,hUn]
     rw [hout]
     refine sem_ofL bRo1_ok 10 [] [false,false,false,true,false,false,false] (fl53_nui n (ws W64 N) (ws W64 D) _ _ _ _ _ _) ?_
     simp only [hE0,hQ0]
     exact ap2 (ap2 (ap2 (ap2 (ap2 ⟨(by first | exact rfl | exact trivial),decide_eq_false (by omega),(by rw [flU_ws hq1,flC_nat _ _ (by decide)]; exact decide_eq_false hc),by decide,(by rw [flB_ws _ hqW,atH_ws]; exact hu),⟨by decide,by decide⟩,by decide,trivial⟩ (flLow_ok _)) (flOv_ok (K:=53) (by decide) hb0 ho)) (flAt_ok hD h1 h2 r0 hw)) (flRoot_ok h1 h2)) ⟨(by first | exact rfl | exact trivial),(by first | exact rfl | exact trivial),(by first | exact rfl | exact trivial),(by first | exact rfl | exact trivial),(by first | exact rfl | exact trivial),(by rw [flV_ws hqW (by decide)]),trivial⟩
theorem float53_t (n:Bool) {N D:Nat} (hD:0 < D) (h1:bl N≤1000000) (h2:bl D≤1000000) (ho:decide (53 < bl (flq N D (fle0 53 (-1074) N D)))=true) (hw0:flw N D (fle0 53 (-1074) N D)=true):
  Ev.Sem Tryz.prog J0 77 [vlA n false (ws W64 N) false (ws W64 D),kR 53 (-1074) 971,iR 1] (flOut 53 971 N D (fle1 53 (-1074) N D)):=by
 have q0:=flq_lt (K:=53) (L:=(-1074)) (N:=N) (D:=D)
 have r0:=fle0_range (K:=53) (L:=(-1074)) (by decide) (by decide) h1 h2
 have r1:=fle1_range (K:=53) (L:=(-1074)) (by decide) (by decide) h1 h2
 have hE0:flE 53 (-1074) (ws W64 N) (ws W64 D)=fle0 53 (-1074) N D:=flE_ws (K:=53) (by decide) h1 h2
 have hQ0:=atQ_ws N D (fle0 53 (-1074) N D)
 have hb0:bl (flq N D (fle0 53 (-1074) N D))≤10000000:=by
  have:=bl_flq N D (fle0 53 (-1074) N D)
  omega
 have he:fle1 53 (-1074) N D=fle0 53 (-1074) N D+((bl (flq N D (fle0 53 (-1074) N D)):Int)- (53:Nat)):=by unfold fle1; rw [if_pos (of_decide_eq_true ho)]
 have hE1:IntKind.i64.wrap (fle0 53 (-1074) N D+flO 53 (ws W64 (flq N D (fle0 53 (-1074) N D))))=fle1 53 (-1074) N D:=by
  have hO:flO 53 (ws W64 (flq N D (fle0 53 (-1074) N D)))=(bl (flq N D (fle0 53 (-1074) N D)):Int)- (53:Nat):=flO_ws (K:=53) (by decide) hb0
  rw [hO,← he,i64w (by omega) (by omega)]
 replace r0: -10000000≤fle0 53 (-1074) N D∧fle0 53 (-1074) N D≤10000000:=by omega
 replace r1: -10000000≤fle1 53 (-1074) N D∧fle1 53 (-1074) N D≤10000000:=by omega
 clear he
 generalize fle1 53 (-1074) N D=e at*
 have hq:flq N D e < 9007199254740992:=q0
 have hqW:flq N D e < W64:=Nat.lt_of_lt_of_le hq (by decide)
 have hq1:flq N D e+1 < W64:=Nat.lt_of_le_of_lt hq (by decide)
 have hEw:IntKind.i64.wrap (e+1)=e+1:=i64w (by omega) (by omega)
 have hc0:¬2 ^53≤flq N D e:=by
  show ¬9007199254740992≤flq N D e
  omega
 cases hw:flw N D e with
 | true=>
  have hc:=hc0
  by_cases hl:e≤971
  ·
   have hup:flup N D e=false:=by unfold flup; rw [hw]; rfl
   have hm:flm N D e=flq N D e:=by unfold flm; rw [hup]; rfl
   have hMm:flMm 53 N D e=flq N D e:=by unfold flMm; rw [hm,if_neg hc]
   have hEe:flEe 53 N D e=e:=by unfold flEe; rw [hm,if_neg hc]
   have hInf:flInf 53 971 N D e=false:=by unfold flInf; rw [hEe]; exact decide_eq_false (by omega)
   have hUn:flUn 53 N D e=false:=by unfold flUn; rw [hw]; rfl
   have hout:flOut 53 971 N D e=[uR ((flq N D e:Nat):Int),iR (e),bR false,fR false false false] :=by
    show (if flInf 53 971 N D e=true then _ else _)=_
    rw [hInf,if_neg (by decide),hMm,hEe,hUn,hw]; rfl
   rw [hout]
   refine sem_ofL bRo1_ok 10 [] [false,true,true,true,false,false,true] (fl53_otwl n (ws W64 N) (ws W64 D) _ _ _ _ _ _) ?_
   simp only [hE0,hQ0,hE1,atQ_ws]
   exact ap2 (ap2 (ap2 (ap2 (ap2 (ap2 ⟨decide_eq_true (by omega),(by rw [flM_ws hqW,flC_nat _ _ (by decide)]; exact decide_eq_false hc),by decide,(by first | exact rfl | exact trivial),trivial⟩ (flLow_ok _)) (flAt_ok hD h1 h2 r1 hw)) (flOv_ok (K:=53) (by decide) hb0 ho)) (flAt_ok hD h1 h2 r0 hw0)) (flRoot_ok h1 h2)) ⟨(by rw [flM_ws hqW]),(by first | exact rfl | exact trivial),(by first | exact rfl | exact trivial),(by first | exact rfl | exact trivial),(by first | exact rfl | exact trivial),(by first | exact rfl | exact trivial),trivial⟩
  ·
   have hup:flup N D e=false:=by unfold flup; rw [hw]; rfl
   have hm:flm N D e=flq N D e:=by unfold flm; rw [hup]; rfl
   have hMm:flMm 53 N D e=flq N D e:=by unfold flMm; rw [hm,if_neg hc]
   have hEe:flEe 53 N D e=e:=by unfold flEe; rw [hm,if_neg hc]
   have hInf:flInf 53 971 N D e=true:=by unfold flInf; rw [hEe]; exact decide_eq_true (by omega)
   have hUn:flUn 53 N D e=false:=by unfold flUn; rw [hw]; rfl
   have hout:flOut 53 971 N D e=[uR 0,iR 0,bR true,fR true true false] :=by
    show (if flInf 53 971 N D e=true then _ else _)=_
    rw [hInf,if_pos rfl,hUn]
   rw [hout]
   refine sem_ofL bRo1_ok 10 [] [false,true,true,true,false,false,false,false] (fl53_otwi n (ws W64 N) (ws W64 D) _ _ _ _ _ _) ?_
   simp only [hE0,hQ0,hE1,atQ_ws]
   exact ap2 (ap2 (ap2 (ap2 (ap2 (ap2 ⟨(by first | exact rfl | exact trivial),decide_eq_false (by omega),(by rw [flM_ws hqW,flC_nat _ _ (by decide)]; exact decide_eq_false hc),by decide,(by first | exact rfl | exact trivial),trivial⟩ (flLow_ok _)) (flAt_ok hD h1 h2 r1 hw)) (flOv_ok (K:=53) (by decide) hb0 ho)) (flAt_ok hD h1 h2 r0 hw0)) (flRoot_ok h1 h2)) ⟨(by first | exact rfl | exact trivial),(by first | exact rfl | exact trivial),(by first | exact rfl | exact trivial),(by first | exact rfl | exact trivial),(by first | exact rfl | exact trivial),(by first | exact rfl | exact trivial),trivial⟩
 | false=>
  cases hu:upB (flh N D e) (flq N D e) with
  | false=>
   have hc:=hc0
   by_cases hl:e≤971
   ·
    have hup:flup N D e=false:=by unfold flup; rw [hw,hu]; rfl
    have hm:flm N D e=flq N D e:=by unfold flm; rw [hup]; rfl
    have hMm:flMm 53 N D e=flq N D e:=by unfold flMm; rw [hm,if_neg hc]
    have hEe:flEe 53 N D e=e:=by unfold flEe; rw [hm,if_neg hc]
    have hInf:flInf 53 971 N D e=false:=by unfold flInf; rw [hEe]; exact decide_eq_false (by omega)
    have hUn:flUn 53 N D e=decide (flq N D e < 4503599627370496):=by unfold flUn; rw [hw]; rfl
    have hout:flOut 53 971 N D e=[uR ((flq N D e:Nat):Int),iR (e),bR false,fR true false (decide (flq N D e < 4503599627370496))] :=by
     show (if flInf 53 971 N D e=true then _ else _)=_
     rw [hInf,if_neg (by decide),hMm,hEe,hUn,hw]; rfl
    rw [hout]
    refine sem_ofL bRo1_ok 10 [] [false,true,true,false,false,false,true] (fl53_otdl n (ws W64 N) (ws W64 D) _ _ _ _ _ _) ?_
    simp only [hE0,hQ0,hE1,atQ_ws]
    exact ap2 (ap2 (ap2 (ap2 (ap2 (ap2 ⟨decide_eq_true (by omega),(by rw [flM_ws hqW,flC_nat _ _ (by decide)]; exact decide_eq_false hc),by decide,(by rw [flB_ws _ hqW,atH_ws]; exact hu),⟨by decide,by decide⟩,by decide,trivial⟩ (flLow_ok _)) (flAt_ok hD h1 h2 r1 hw)) (flOv_ok (K:=53) (by decide) hb0 ho)) (flAt_ok hD h1 h2 r0 hw0)) (flRoot_ok h1 h2)) ⟨(by rw [flM_ws hqW]),(by first | exact rfl | exact trivial),(by first | exact rfl | exact trivial),(by first | exact rfl | exact trivial),(by first | exact rfl | exact trivial),(by rw [flV_ws hqW (by decide)]),trivial⟩
   ·
    have hup:flup N D e=false:=by unfold flup; rw [hw,hu]; rfl
    have hm:flm N D e=flq N D e:=by unfold flm; rw [hup]; rfl
    have hMm:flMm 53 N D e=flq N D e:=by unfold flMm; rw [hm,if_neg hc]
    have hEe:flEe 53 N D e=e:=by unfold flEe; rw [hm,if_neg hc]
    have hInf:flInf 53 971 N D e=true:=by unfold flInf; rw [hEe]; exact decide_eq_true (by omega)
    have hUn:flUn 53 N D e=decide (flq N D e < 4503599627370496):=by unfold flUn; rw [hw]; rfl
    have hout:flOut 53 971 N D e=[uR 0,iR 0,bR true,fR true true (decide (flq N D e < 4503599627370496))] :=by
     show (if flInf 53 971 N D e=true then _ else _)=_
     rw [hInf,if_pos rfl,hUn]
    rw [hout]
    refine sem_ofL bRo1_ok 10 [] [false,true,true,false,false,false,false,false] (fl53_otdi n (ws W64 N) (ws W64 D) _ _ _ _ _ _) ?_
    simp only [hE0,hQ0,hE1,atQ_ws]
    exact ap2 (ap2 (ap2 (ap2 (ap2 (ap2 ⟨(by first | exact rfl | exact trivial),decide_eq_false (by omega),(by rw [flM_ws hqW,flC_nat _ _ (by decide)]; exact decide_eq_false hc),by decide,(by rw [flB_ws _ hqW,atH_ws]; exact hu),⟨by decide,by decide⟩,by decide,trivial⟩ (flLow_ok _)) (flAt_ok hD h1 h2 r1 hw)) (flOv_ok (K:=53) (by decide) hb0 ho)) (flAt_ok hD h1 h2 r0 hw0)) (flRoot_ok h1 h2)) ⟨(by first | exact rfl | exact trivial),(by first | exact rfl | exact trivial),(by first | exact rfl | exact trivial),(by first | exact rfl | exact trivial),(by first | exact rfl | exact trivial),(by rw [flV_ws hqW (by decide)]),trivial⟩
  | true=>
   by_cases hc:2 ^53≤flq N D e+1
   ·by_cases hl:e+1≤971
    ·
     have hup:flup N D e=true:=by unfold flup; rw [hw,hu]; rfl
     have hm:flm N D e=flq N D e+1:=by unfold flm; rw [hup]; rfl
     have hMm:flMm 53 N D e=(flq N D e+1)/2:=by unfold flMm; rw [hm,if_pos hc]
     have hEe:flEe 53 N D e=e+1:=by unfold flEe; rw [hm,if_pos hc]
     have hInf:flInf 53 971 N D e=false:=by unfold flInf; rw [hEe]; exact decide_eq_false (by omega)
     have hUn:flUn 53 N D e=decide (flq N D e < 4503599627370496):=by unfold flUn; rw [hw]; rfl
     have hout:flOut 53 971 N D e=[uR (((flq N D e+1)/2:Nat):Int),iR (e+1),bR false,fR true false (decide (flq N D e < 4503599627370496))] :=by
      show (if flInf 53 971 N D e=true then _ else _)=_
      rw [hInf,if_neg (by decide),hMm,hEe,hUn,hw]; rfl
     rw [hout]
     refine sem_ofL bRo1_ok 10 [] [false,true,true,false,true,true,true] (fl53_otcl n (ws W64 N) (ws W64 D) _ _ _ _ _ _) ?_
     simp only [hE0,hQ0,hE1,atQ_ws]
     exact ap2 (ap2 (ap2 (ap2 (ap2 (ap2 ⟨(by rw [hEw]; exact decide_eq_true (by omega)),(by rw [flU_ws hq1,flC_nat _ _ (by decide)]; exact decide_eq_true hc),by decide,(by rw [flB_ws _ hqW,atH_ws]; exact hu),⟨by decide,by decide⟩,by decide,trivial⟩ (flLow_ok _)) (flAt_ok hD h1 h2 r1 hw)) (flOv_ok (K:=53) (by decide) hb0 ho)) (flAt_ok hD h1 h2 r0 hw0)) (flRoot_ok h1 h2)) ⟨(by rw [flU_ws hq1,flH_nat hq1]),(by rw [hEw]),(by first | exact rfl | exact trivial),(by first | exact rfl | exact trivial),(by first | exact rfl | exact trivial),(by rw [flV_ws hqW (by decide)]),trivial⟩
    ·
     have hup:flup N D e=true:=by unfold flup; rw [hw,hu]; rfl
     have hm:flm N D e=flq N D e+1:=by unfold flm; rw [hup]; rfl
     have hMm:flMm 53 N D e=(flq N D e+1)/2:=by unfold flMm; rw [hm,if_pos hc]
     have hEe:flEe 53 N D e=e+1:=by unfold flEe; rw [hm,if_pos hc]
     have hInf:flInf 53 971 N D e=true:=by unfold flInf; rw [hEe]; exact decide_eq_true (by omega)
     have hUn:flUn 53 N D e=decide (flq N D e < 4503599627370496):=by unfold flUn; rw [hw]; rfl
     have hout:flOut 53 971 N D e=[uR 0,iR 0,bR true,fR true true (decide (flq N D e < 4503599627370496))] :=by
      show (if flInf 53 971 N D e=true then _ else _)=_
      rw [hInf,if_pos rfl,hUn]
     rw [hout]
     refine sem_ofL bRo1_ok 10 [] [false,true,true,false,true,true,false,false] (fl53_otci n (ws W64 N) (ws W64 D) _ _ _ _ _ _) ?_
     simp only [hE0,hQ0,hE1,atQ_ws]
     exact ap2 (ap2 (ap2 (ap2 (ap2 (ap2 ⟨(by first | exact rfl | exact trivial),(by rw [hEw]; exact decide_eq_false (by omega)),(by rw [flU_ws hq1,flC_nat _ _ (by decide)]; exact decide_eq_true hc),by decide,(by rw [flB_ws _ hqW,atH_ws]; exact hu),⟨by decide,by decide⟩,by decide,trivial⟩ (flLow_ok _)) (flAt_ok hD h1 h2 r1 hw)) (flOv_ok (K:=53) (by decide) hb0 ho)) (flAt_ok hD h1 h2 r0 hw0)) (flRoot_ok h1 h2)) ⟨(by first | exact rfl | exact trivial),(by first | exact rfl | exact trivial),(by first | exact rfl | exact trivial),(by first | exact rfl | exact trivial),(by first | exact rfl | exact trivial),(by rw [flV_ws hqW (by decide)]),trivial⟩
   ·by_cases hl:e≤971
    ·
     have hup:flup N D e=true:=by unfold flup; rw [hw,hu]; rfl
     have hm:flm N D e=flq N D e+1:=by unfold flm; rw [hup]; rfl
     have hMm:flMm 53 N D e=flq N D e+1:=by unfold flMm; rw [hm,if_neg hc]
     have hEe:flEe 53 N D e=e:=by unfold flEe; rw [hm,if_neg hc]
     have hInf:flInf 53 971 N D e=false:=by unfold flInf; rw [hEe]; exact decide_eq_false (by omega)
     have hUn:flUn 53 N D e=decide (flq N D e < 4503599627370496):=by unfold flUn; rw [hw]; rfl
     have hout:flOut 53 971 N D e=[uR ((flq N D e+1:Nat):Int),iR (e),bR false,fR true false (decide (flq N D e < 4503599627370496))] :=by
      show (if flInf 53 971 N D e=true then _ else _)=_
      rw [hInf,if_neg (by decide),hMm,hEe,hUn,hw]; rfl
     rw [hout]
     refine sem_ofL bRo1_ok 10 [] [false,true,true,false,true,false,true] (fl53_otul n (ws W64 N) (ws W64 D) _ _ _ _ _ _) ?_
     simp only [hE0,hQ0,hE1,atQ_ws]
     exact ap2 (ap2 (ap2 (ap2 (ap2 (ap2 ⟨decide_eq_true (by omega),(by rw [flU_ws hq1,flC_nat _ _ (by decide)]; exact decide_eq_false hc),by decide,(by rw [flB_ws _ hqW,atH_ws]; exact hu),⟨by decide,by decide⟩,by decide,trivial⟩ (flLow_ok _)) (flAt_ok hD h1 h2 r1 hw)) (flOv_ok (K:=53) (by decide) hb0 ho)) (flAt_ok hD h1 h2 r0 hw0)) (flRoot_ok h1 h2)) ⟨(by rw [flU_ws hq1]),(by first | exact rfl | exact trivial),(by first | exact rfl | exact trivial),(by first | exact rfl | exact trivial),(by first | exact rfl | exact trivial),(by rw [flV_ws hqW (by decide)]),trivial⟩
    ·
     have hup:flup N D e=true:=by unfold flup; rw [hw,hu]; rfl
     have hm:flm N D e=flq N D e+1:=by unfold flm; rw [hup]; rfl
     have hMm:flMm 53 N D e=flq N D e+1:=by unfold flMm; rw [hm,if_neg hc]
     have hEe:flEe 53 N D e=e:=by unfold flEe; rw [hm,if_neg hc]
     have hInf:flInf 53 971 N D e=true:=by unfold flInf; rw [hEe]; exact decide_eq_true (by omega)
     have hUn:flUn 53 N D e=decide (flq N D e < 4503599627370496):=by unfold flUn; rw [hw]; rfl
     have hout:flOut 53 971 N D e=[uR 0,iR 0,bR true,fR true true (decide (flq N D e < 4503599627370496))] :=by
      show (if flInf 53 971 N D e=true then _ else _)=_
      rw [hInf,if_pos rfl,hUn]
     rw [hout]
     refine sem_ofL bRo1_ok 10 [] [false,true,true,false,true,false,false,false] (fl53_otui n (ws W64 N) (ws W64 D) _ _ _ _ _ _) ?_
     simp only [hE0,hQ0,hE1,atQ_ws]
     exact ap2 (ap2 (ap2 (ap2 (ap2 (ap2 ⟨(by first | exact rfl | exact trivial),decide_eq_false (by omega),(by rw [flU_ws hq1,flC_nat _ _ (by decide)]; exact decide_eq_false hc),by decide,(by rw [flB_ws _ hqW,atH_ws]; exact hu),⟨by decide,by decide⟩,by decide,trivial⟩ (flLow_ok _)) (flAt_ok hD h1 h2 r1 hw)) (flOv_ok (K:=53) (by decide) hb0 ho)) (flAt_ok hD h1 h2 r0 hw0)) (flRoot_ok h1 h2)) ⟨(by first | exact rfl | exact trivial),(by first | exact rfl | exact trivial),(by first | exact rfl | exact trivial),(by first | exact rfl | exact trivial),(by first | exact rfl | exact trivial),(by rw [flV_ws hqW (by decide)]),trivial⟩
theorem float53_f (n:Bool) {N D:Nat} (hD:0 < D) (h1:bl N≤1000000) (h2:bl D≤1000000) (ho:decide (53 < bl (flq N D (fle0 53 (-1074) N D)))=true) (hw0:flw N D (fle0 53 (-1074) N D)=false):
  Ev.Sem Tryz.prog J0 77 [vlA n false (ws W64 N) false (ws W64 D),kR 53 (-1074) 971,iR 1] (flOut 53 971 N D (fle1 53 (-1074) N D)):=by
 have q0:=flq_lt (K:=53) (L:=(-1074)) (N:=N) (D:=D)
 have r0:=fle0_range (K:=53) (L:=(-1074)) (by decide) (by decide) h1 h2
 have r1:=fle1_range (K:=53) (L:=(-1074)) (by decide) (by decide) h1 h2
 have hE0:flE 53 (-1074) (ws W64 N) (ws W64 D)=fle0 53 (-1074) N D:=flE_ws (K:=53) (by decide) h1 h2
 have hQ0:=atQ_ws N D (fle0 53 (-1074) N D)
 have hb0:bl (flq N D (fle0 53 (-1074) N D))≤10000000:=by
  have:=bl_flq N D (fle0 53 (-1074) N D)
  omega
 have he:fle1 53 (-1074) N D=fle0 53 (-1074) N D+((bl (flq N D (fle0 53 (-1074) N D)):Int)- (53:Nat)):=by unfold fle1; rw [if_pos (of_decide_eq_true ho)]
 have hE1:IntKind.i64.wrap (fle0 53 (-1074) N D+flO 53 (ws W64 (flq N D (fle0 53 (-1074) N D))))=fle1 53 (-1074) N D:=by
  have hO:flO 53 (ws W64 (flq N D (fle0 53 (-1074) N D)))=(bl (flq N D (fle0 53 (-1074) N D)):Int)- (53:Nat):=flO_ws (K:=53) (by decide) hb0
  rw [hO,← he,i64w (by omega) (by omega)]
 replace r0: -10000000≤fle0 53 (-1074) N D∧fle0 53 (-1074) N D≤10000000:=by omega
 replace r1: -10000000≤fle1 53 (-1074) N D∧fle1 53 (-1074) N D≤10000000:=by omega
 clear he
 generalize fle1 53 (-1074) N D=e at*
 have hq:flq N D e < 9007199254740992:=q0
 have hqW:flq N D e < W64:=Nat.lt_of_lt_of_le hq (by decide)
 have hq1:flq N D e+1 < W64:=Nat.lt_of_le_of_lt hq (by decide)
 have hEw:IntKind.i64.wrap (e+1)=e+1:=i64w (by omega) (by omega)
 have hc0:¬2 ^53≤flq N D e:=by
  show ¬9007199254740992≤flq N D e
  omega
 cases hw:flw N D e with
 | true=>
  have hc:=hc0
  by_cases hl:e≤971
  ·
   have hup:flup N D e=false:=by unfold flup; rw [hw]; rfl
   have hm:flm N D e=flq N D e:=by unfold flm; rw [hup]; rfl
   have hMm:flMm 53 N D e=flq N D e:=by unfold flMm; rw [hm,if_neg hc]
   have hEe:flEe 53 N D e=e:=by unfold flEe; rw [hm,if_neg hc]
   have hInf:flInf 53 971 N D e=false:=by unfold flInf; rw [hEe]; exact decide_eq_false (by omega)
   have hUn:flUn 53 N D e=false:=by unfold flUn; rw [hw]; rfl
   have hout:flOut 53 971 N D e=[uR ((flq N D e:Nat):Int),iR (e),bR false,fR false false false] :=by
    show (if flInf 53 971 N D e=true then _ else _)=_
    rw [hInf,if_neg (by decide),hMm,hEe,hUn,hw]; rfl
   rw [hout]
   refine sem_ofL bRo1_ok 10 [] [false,false,true,true,false,false,true] (fl53_ofwl n (ws W64 N) (ws W64 D) _ _ _ _ _ _) ?_
   simp only [hE0,hQ0,hE1,atQ_ws]
   exact ap2 (ap2 (ap2 (ap2 (ap2 (ap2 ⟨decide_eq_true (by omega),(by rw [flM_ws hqW,flC_nat _ _ (by decide)]; exact decide_eq_false hc),by decide,(by first | exact rfl | exact trivial),trivial⟩ (flLow_ok _)) (flAt_ok hD h1 h2 r1 hw)) (flOv_ok (K:=53) (by decide) hb0 ho)) (flAt_ok hD h1 h2 r0 hw0)) (flRoot_ok h1 h2)) ⟨(by rw [flM_ws hqW]),(by first | exact rfl | exact trivial),(by first | exact rfl | exact trivial),(by first | exact rfl | exact trivial),(by first | exact rfl | exact trivial),(by first | exact rfl | exact trivial),trivial⟩
  ·
   have hup:flup N D e=false:=by unfold flup; rw [hw]; rfl
   have hm:flm N D e=flq N D e:=by unfold flm; rw [hup]; rfl
   have hMm:flMm 53 N D e=flq N D e:=by unfold flMm; rw [hm,if_neg hc]
   have hEe:flEe 53 N D e=e:=by unfold flEe; rw [hm,if_neg hc]
   have hInf:flInf 53 971 N D e=true:=by unfold flInf; rw [hEe]; exact decide_eq_true (by omega)
   have hUn:flUn 53 N D e=false:=by unfold flUn; rw [hw]; rfl
   have hout:flOut 53 971 N D e=[uR 0,iR 0,bR true,fR true true false] :=by
    show (if flInf 53 971 N D e=true then _ else _)=_
    rw [hInf,if_pos rfl,hUn]
   rw [hout]
   refine sem_ofL bRo1_ok 10 [] [false,false,true,true,false,false,false,false] (fl53_ofwi n (ws W64 N) (ws W64 D) _ _ _ _ _ _) ?_
   simp only [hE0,hQ0,hE1,atQ_ws]
   exact ap2 (ap2 (ap2 (ap2 (ap2 (ap2 ⟨(by first | exact rfl | exact trivial),decide_eq_false (by omega),(by rw [flM_ws hqW,flC_nat _ _ (by decide)]; exact decide_eq_false hc),by decide,(by first | exact rfl | exact trivial),trivial⟩ (flLow_ok _)) (flAt_ok hD h1 h2 r1 hw)) (flOv_ok (K:=53) (by decide) hb0 ho)) (flAt_ok hD h1 h2 r0 hw0)) (flRoot_ok h1 h2)) ⟨(by first | exact rfl | exact trivial),(by first | exact rfl | exact trivial),(by first | exact rfl | exact trivial),(by first | exact rfl | exact trivial),(by first | exact rfl | exact trivial),(by first | exact rfl | exact trivial),trivial⟩
 | false=>
  cases hu:upB (flh N D e) (flq N D e) with
  | false=>
   have hc:=hc0
   by_cases hl:e≤971
   ·
    have hup:flup N D e=false:=by unfold flup; rw [hw,hu]; rfl
    have hm:flm N D e=flq N D e:=by unfold flm; rw [hup]; rfl
    have hMm:flMm 53 N D e=flq N D e:=by unfold flMm; rw [hm,if_neg hc]
    have hEe:flEe 53 N D e=e:=by unfold flEe; rw [hm,if_neg hc]
    have hInf:flInf 53 971 N D e=false:=by unfold flInf; rw [hEe]; exact decide_eq_false (by omega)
    have hUn:flUn 53 N D e=decide (flq N D e < 4503599627370496):=by unfold flUn; rw [hw]; rfl
    have hout:flOut 53 971 N D e=[uR ((flq N D e:Nat):Int),iR (e),bR false,fR true false (decide (flq N D e < 4503599627370496))] :=by
     show (if flInf 53 971 N D e=true then _ else _)=_
     rw [hInf,if_neg (by decide),hMm,hEe,hUn,hw]; rfl
    rw [hout]
    refine sem_ofL bRo1_ok 10 [] [false,false,true,false,false,false,true] (fl53_ofdl n (ws W64 N) (ws W64 D) _ _ _ _ _ _) ?_
    simp only [hE0,hQ0,hE1,atQ_ws]
    exact ap2 (ap2 (ap2 (ap2 (ap2 (ap2 ⟨decide_eq_true (by omega),(by rw [flM_ws hqW,flC_nat _ _ (by decide)]; exact decide_eq_false hc),by decide,(by rw [flB_ws _ hqW,atH_ws]; exact hu),⟨by decide,by decide⟩,by decide,trivial⟩ (flLow_ok _)) (flAt_ok hD h1 h2 r1 hw)) (flOv_ok (K:=53) (by decide) hb0 ho)) (flAt_ok hD h1 h2 r0 hw0)) (flRoot_ok h1 h2)) ⟨(by rw [flM_ws hqW]),(by first | exact rfl | exact trivial),(by first | exact rfl | exact trivial),(by first | exact rfl | exact trivial),(by first | exact rfl | exact trivial),(by rw [flV_ws hqW (by decide)]),trivial⟩
   ·
    have hup:flup N D e=false:=by unfold flup; rw [hw,hu]; rfl
    have hm:flm N D e=flq N D e:=by unfold flm; rw [hup]; rfl
    have hMm:flMm 53 N D e=flq N D e:=by unfold flMm; rw [hm,if_neg hc]
    have hEe:flEe 53 N D e=e:=by unfold flEe; rw [hm,if_neg hc]
    have hInf:flInf 53 971 N D e=true:=by unfold flInf; rw [hEe]; exact decide_eq_true (by omega)
    have hUn:flUn 53 N D e=decide (flq N D e < 4503599627370496):=by unfold flUn; rw [hw]; rfl
    have hout:flOut 53 971 N D e=[uR 0,iR 0,bR true,fR true true (decide (flq N D e < 4503599627370496))] :=by
     show (if flInf 53 971 N D e=true then _ else _)=_
     rw [hInf,if_pos rfl,hUn]
    rw [hout]
    refine sem_ofL bRo1_ok 10 [] [false,false,true,false,false,false,false,false] (fl53_ofdi n (ws W64 N) (ws W64 D) _ _ _ _ _ _) ?_
    simp only [hE0,hQ0,hE1,atQ_ws]
    exact ap2 (ap2 (ap2 (ap2 (ap2 (ap2 ⟨(by first | exact rfl | exact trivial),decide_eq_false (by omega),(by rw [flM_ws hqW,flC_nat _ _ (by decide)]; exact decide_eq_false hc),by decide,(by rw [flB_ws _ hqW,atH_ws]; exact hu),⟨by decide,by decide⟩,by decide,trivial⟩ (flLow_ok _)) (flAt_ok hD h1 h2 r1 hw)) (flOv_ok (K:=53) (by decide) hb0 ho)) (flAt_ok hD h1 h2 r0 hw0)) (flRoot_ok h1 h2)) ⟨(by first | exact rfl | exact trivial),(by first | exact rfl | exact trivial),(by first | exact rfl | exact trivial),(by first | exact rfl | exact trivial),(by first | exact rfl | exact trivial),(by rw [flV_ws hqW (by decide)]),trivial⟩
  | true=>
   by_cases hc:2 ^53≤flq N D e+1
   ·by_cases hl:e+1≤971
    ·
     have hup:flup N D e=true:=by unfold flup; rw [hw,hu]; rfl
     have hm:flm N D e=flq N D e+1:=by unfold flm; rw [hup]; rfl
     have hMm:flMm 53 N D e=(flq N D e+1)/2:=by unfold flMm; rw [hm,if_pos hc]
     have hEe:flEe 53 N D e=e+1:=by unfold flEe; rw [hm,if_pos hc]
     have hInf:flInf 53 971 N D e=false:=by unfold flInf; rw [hEe]; exact decide_eq_false (by omega)
     have hUn:flUn 53 N D e=decide (flq N D e < 4503599627370496):=by unfold flUn; rw [hw]; rfl
     have hout:flOut 53 971 N D e=[uR (((flq N D e+1)/2:Nat):Int),iR (e+1),bR false,fR true false (decide (flq N D e < 4503599627370496))] :=by
      show (if flInf 53 971 N D e=true then _ else _)=_
      rw [hInf,if_neg (by decide),hMm,hEe,hUn,hw]; rfl
     rw [hout]
     refine sem_ofL bRo1_ok 10 [] [false,false,true,false,true,true,true] (fl53_ofcl n (ws W64 N) (ws W64 D) _ _ _ _ _ _) ?_
     simp only [hE0,hQ0,hE1,atQ_ws]
     exact ap2 (ap2 (ap2 (ap2 (ap2 (ap2 ⟨(by rw [hEw]; exact decide_eq_true (by omega)),(by rw [flU_ws hq1,flC_nat _ _ (by decide)]; exact decide_eq_true hc),by decide,(by rw [flB_ws _ hqW,atH_ws]; exact hu),⟨by decide,by decide⟩,by decide,trivial⟩ (flLow_ok _)) (flAt_ok hD h1 h2 r1 hw)) (flOv_ok (K:=53) (by decide) hb0 ho)) (flAt_ok hD h1 h2 r0 hw0)) (flRoot_ok h1 h2)) ⟨(by rw [flU_ws hq1,flH_nat hq1]),(by rw [hEw]),(by first | exact rfl | exact trivial),(by first | exact rfl | exact trivial),(by first | exact rfl | exact trivial),(by rw [flV_ws hqW (by decide)]),trivial⟩
    ·
     have hup:flup N D e=true:=by unfold flup; rw [hw,hu]; rfl
     have hm:flm N D e=flq N D e+1:=by unfold flm; rw [hup]; rfl
     have hMm:flMm 53 N D e=(flq N D e+1)/2:=by unfold flMm; rw [hm,if_pos hc]
     have hEe:flEe 53 N D e=e+1:=by unfold flEe; rw [hm,if_pos hc]
     have hInf:flInf 53 971 N D e=true:=by unfold flInf; rw [hEe]; exact decide_eq_true (by omega)
     have hUn:flUn 53 N D e=decide (flq N D e < 4503599627370496):=by unfold flUn; rw [hw]; rfl
     have hout:flOut 53 971 N D e=[uR 0,iR 0,bR true,fR true true (decide (flq N D e < 4503599627370496))] :=by
      show (if flInf 53 971 N D e=true then _ else _)=_
      rw [hInf,if_pos rfl,hUn]
     rw [hout]
     refine sem_ofL bRo1_ok 10 [] [false,false,true,false,true,true,false,false] (fl53_ofci n (ws W64 N) (ws W64 D) _ _ _ _ _ _) ?_
     simp only [hE0,hQ0,hE1,atQ_ws]
     exact ap2 (ap2 (ap2 (ap2 (ap2 (ap2 ⟨(by first | exact rfl | exact trivial),(by rw [hEw]; exact decide_eq_false (by omega)),(by rw [flU_ws hq1,flC_nat _ _ (by decide)]; exact decide_eq_true hc),by decide,(by rw [flB_ws _ hqW,atH_ws]; exact hu),⟨by decide,by decide⟩,by decide,trivial⟩ (flLow_ok _)) (flAt_ok hD h1 h2 r1 hw)) (flOv_ok (K:=53) (by decide) hb0 ho)) (flAt_ok hD h1 h2 r0 hw0)) (flRoot_ok h1 h2)) ⟨(by first | exact rfl | exact trivial),(by first | exact rfl | exact trivial),(by first | exact rfl | exact trivial),(by first | exact rfl | exact trivial),(by first | exact rfl | exact trivial),(by rw [flV_ws hqW (by decide)]),trivial⟩
   ·by_cases hl:e≤971
    ·
     have hup:flup N D e=true:=by unfold flup; rw [hw,hu]; rfl
     have hm:flm N D e=flq N D e+1:=by unfold flm; rw [hup]; rfl
     have hMm:flMm 53 N D e=flq N D e+1:=by unfold flMm; rw [hm,if_neg hc]
     have hEe:flEe 53 N D e=e:=by unfold flEe; rw [hm,if_neg hc]
     have hInf:flInf 53 971 N D e=false:=by unfold flInf; rw [hEe]; exact decide_eq_false (by omega)
     have hUn:flUn 53 N D e=decide (flq N D e < 4503599627370496):=by unfold flUn; rw [hw]; rfl
     have hout:flOut 53 971 N D e=[uR ((flq N D e+1:Nat):Int),iR (e),bR false,fR true false (decide (flq N D e < 4503599627370496))] :=by
      show (if flInf 53 971 N D e=true then _ else _)=_
      rw [hInf,if_neg (by decide),hMm,hEe,hUn,hw]; rfl
     rw [hout]
     refine sem_ofL bRo1_ok 10 [] [false,false,true,false,true,false,true] (fl53_oful n (ws W64 N) (ws W64 D) _ _ _ _ _ _) ?_
     simp only [hE0,hQ0,hE1,atQ_ws]
     exact ap2 (ap2 (ap2 (ap2 (ap2 (ap2 ⟨decide_eq_true (by omega),(by rw [flU_ws hq1,flC_nat _ _ (by decide)]; exact decide_eq_false hc),by decide,(by rw [flB_ws _ hqW,atH_ws]; exact hu),⟨by decide,by decide⟩,by decide,trivial⟩ (flLow_ok _)) (flAt_ok hD h1 h2 r1 hw)) (flOv_ok (K:=53) (by decide) hb0 ho)) (flAt_ok hD h1 h2 r0 hw0)) (flRoot_ok h1 h2)) ⟨(by rw [flU_ws hq1]),(by first | exact rfl | exact trivial),(by first | exact rfl | exact trivial),(by first | exact rfl | exact trivial),(by first | exact rfl | exact trivial),(by rw [flV_ws hqW (by decide)]),trivial⟩
    ·
     have hup:flup N D e=true:=by unfold flup; rw [hw,hu]; rfl
     have hm:flm N D e=flq N D e+1:=by unfold flm; rw [hup]; rfl
     have hMm:flMm 53 N D e=flq N D e+1:=by unfold flMm; rw [hm,if_neg hc]
     have hEe:flEe 53 N D e=e:=by unfold flEe; rw [hm,if_neg hc]
     have hInf:flInf 53 971 N D e=true:=by unfold flInf; rw [hEe]; exact decide_eq_true (by omega)
     have hUn:flUn 53 N D e=decide (flq N D e < 4503599627370496):=by unfold flUn; rw [hw]; rfl
     have hout:flOut 53 971 N D e=[uR 0,iR 0,bR true,fR true true (decide (flq N D e < 4503599627370496))] :=by
      show (if flInf 53 971 N D e=true then _ else _)=_
      rw [hInf,if_pos rfl,hUn]
     rw [hout]
     refine sem_ofL bRo1_ok 10 [] [false,false,true,false,true,false,false,false] (fl53_ofui n (ws W64 N) (ws W64 D) _ _ _ _ _ _) ?_
     simp only [hE0,hQ0,hE1,atQ_ws]
     exact ap2 (ap2 (ap2 (ap2 (ap2 (ap2 ⟨(by first | exact rfl | exact trivial),decide_eq_false (by omega),(by rw [flU_ws hq1,flC_nat _ _ (by decide)]; exact decide_eq_false hc),by decide,(by rw [flB_ws _ hqW,atH_ws]; exact hu),⟨by decide,by decide⟩,by decide,trivial⟩ (flLow_ok _)) (flAt_ok hD h1 h2 r1 hw)) (flOv_ok (K:=53) (by decide) hb0 ho)) (flAt_ok hD h1 h2 r0 hw0)) (flRoot_ok h1 h2)) ⟨(by first | exact rfl | exact trivial),(by first | exact rfl | exact trivial),(by first | exact rfl | exact trivial),(by first | exact rfl | exact trivial),(by first | exact rfl | exact trivial),(by rw [flV_ws hqW (by decide)]),trivial⟩
theorem float53_sem (n:Bool) {N D:Nat} (hD:0 < D) (h1:bl N≤1000000) (h2:bl D≤1000000):
  Ev.Sem Tryz.prog J0 77 [vlA n false (ws W64 N) false (ws W64 D),kR 53 (-1074) 971,iR 1] (flOut 53 971 N D (fle1 53 (-1074) N D)):=by
 cases ho:decide (53 < bl (flq N D (fle0 53 (-1074) N D))) with
 | false=>exact float53_n n hD h1 h2 ho
 | true=>
  cases hw:flw N D (fle0 53 (-1074) N D) with
  | true=>exact float53_t n hD h1 h2 ho hw
  | false=>exact float53_f n hD h1 h2 ho hw
end Go.Proofs.YtdgfhijnconaoaaGreatDoor
namespace Go.Proofs.YtdgfhijnconaoaaGreatDoor
open Go Go.RowKit Ev Wd
end Go.Proofs.YtdgfhijnconaoaaGreatDoor
namespace Go.Proofs.YtdgfhijnconaoaaGreatDoor
open Go Go.RowKit Ev Wd
abbrev dA (n:Bool) (d:List UInt8) (e:Int):Arg:= .c (.v (.agg ⟨[.bool n, .string ⟨⟨d⟩⟩, .int .i64 e]⟩))
theorem qt_pl (n1 n2 n a b:Bool) (d1 d2:List UInt8) (e1 e2:Int) (N D:List Int):semR XRo1 [] 200 76 [dA n1 d1 e1,dA n2 d2 e2] [vlA n a N b D] [false,false,true] =some [(decX d1).length≤(decX d1).length,(tenX (IntKind.i64.wrap (e1-e2))).length≤(tenX (IntKind.i64.wrap (e1-e2))).length,Cn (List.take (decX d1).length (decX d1)),Cn (List.take (tenX (IntKind.i64.wrap (e1-e2))).length (tenX (IntKind.i64.wrap (e1-e2)))),(List.take (decX d1).length (decX d1)).length < 274877906944,(List.take (tenX (IntKind.i64.wrap (e1-e2))).length (tenX (IntKind.i64.wrap (e1-e2)))).length < 274877906944,Int.ofNat 0≤IntKind.i64.wrap (e1-e2)∧IntKind.i64.wrap (e1-e2) < Int.ofNat 100000000000,decide (Int.ofNat 0≤IntKind.i64.wrap (e1-e2))=true,AllD d2,d2.length < 100000000000,AllD d1,d1.length < 100000000000,decide (IntKind.i64.wrap (IntKind.i64.wrap (Int.ofNat d1.length-Int.ofNat d2.length)+IntKind.i64.wrap (e1-e2)) < Int.negSucc 999)=false,decide (Int.ofNat 1000 < IntKind.i64.wrap (IntKind.i64.wrap (Int.ofNat d1.length-Int.ofNat d2.length)+IntKind.i64.wrap (e1-e2)))=false,Int.ofNat 0≤Int.ofNat 1∧1 < 18446744073709551616,Int.ofNat 0≤Int.ofNat 1∧1 < 18446744073709551616,(Value.bool !n1==n2)=Value.bool n,Value.bool false=Value.bool false,Value.bool (sgnX false (mulX (List.take (decX d1).length (decX d1)) (List.take (tenX (IntKind.i64.wrap (e1-e2))).length (tenX (IntKind.i64.wrap (e1-e2))))))=Value.bool a,(mulX (List.take (decX d1).length (decX d1)) (List.take (tenX (IntKind.i64.wrap (e1-e2))).length (tenX (IntKind.i64.wrap (e1-e2))))).length=N.length∧(mulX (List.take (decX d1).length (decX d1)) (List.take (tenX (IntKind.i64.wrap (e1-e2))).length (tenX (IntKind.i64.wrap (e1-e2))))).length≤(mulX (List.take (decX d1).length (decX d1)) (List.take (tenX (IntKind.i64.wrap (e1-e2))).length (tenX (IntKind.i64.wrap (e1-e2))))).length∧List.take (mulX (List.take (decX d1).length (decX d1)) (List.take (tenX (IntKind.i64.wrap (e1-e2))).length (tenX (IntKind.i64.wrap (e1-e2))))).length (mulX (List.take (decX d1).length (decX d1)) (List.take (tenX (IntKind.i64.wrap (e1-e2))).length (tenX (IntKind.i64.wrap (e1-e2)))))=N,Value.bool false=Value.bool b,(decX d2).length=D.length∧(decX d2).length≤(decX d2).length∧List.take (decX d2).length (decX d2)=D] :=by kernel_rfl
theorem qt_mi (n1 n2 n a b:Bool) (d1 d2:List UInt8) (e1 e2:Int) (N D:List Int):semR XRo1 [] 200 76 [dA n1 d1 e1,dA n2 d2 e2] [vlA n a N b D] [false,false,false] =some [(decX d2).length≤(decX d2).length,(tenX (IntKind.i64.wrap (Int.ofNat 0-IntKind.i64.wrap (e1-e2)))).length≤(tenX (IntKind.i64.wrap (Int.ofNat 0-IntKind.i64.wrap (e1-e2)))).length,Cn (List.take (decX d2).length (decX d2)),Cn (List.take (tenX (IntKind.i64.wrap (Int.ofNat 0-IntKind.i64.wrap (e1-e2)))).length (tenX (IntKind.i64.wrap (Int.ofNat 0-IntKind.i64.wrap (e1-e2))))),(List.take (decX d2).length (decX d2)).length < 274877906944,(List.take (tenX (IntKind.i64.wrap (Int.ofNat 0-IntKind.i64.wrap (e1-e2)))).length (tenX (IntKind.i64.wrap (Int.ofNat 0-IntKind.i64.wrap (e1-e2))))).length < 274877906944,Int.ofNat 0≤IntKind.i64.wrap (Int.ofNat 0-IntKind.i64.wrap (e1-e2))∧IntKind.i64.wrap (Int.ofNat 0-IntKind.i64.wrap (e1-e2)) < Int.ofNat 100000000000,decide (Int.ofNat 0≤IntKind.i64.wrap (e1-e2))=false,AllD d2,d2.length < 100000000000,AllD d1,d1.length < 100000000000,decide (IntKind.i64.wrap (IntKind.i64.wrap (Int.ofNat d1.length-Int.ofNat d2.length)+IntKind.i64.wrap (e1-e2)) < Int.negSucc 999)=false,decide (Int.ofNat 1000 < IntKind.i64.wrap (IntKind.i64.wrap (Int.ofNat d1.length-Int.ofNat d2.length)+IntKind.i64.wrap (e1-e2)))=false,Int.ofNat 0≤Int.ofNat 1∧1 < 18446744073709551616,Int.ofNat 0≤Int.ofNat 1∧1 < 18446744073709551616,(Value.bool !n1==n2)=Value.bool n,Value.bool false=Value.bool false,Value.bool false=Value.bool a,(decX d1).length=N.length∧(decX d1).length≤(decX d1).length∧List.take (decX d1).length (decX d1)=N,Value.bool (sgnX false (mulX (List.take (decX d2).length (decX d2)) (List.take (tenX (IntKind.i64.wrap (Int.ofNat 0-IntKind.i64.wrap (e1-e2)))).length (tenX (IntKind.i64.wrap (Int.ofNat 0-IntKind.i64.wrap (e1-e2)))))))=Value.bool b,(mulX (List.take (decX d2).length (decX d2)) (List.take (tenX (IntKind.i64.wrap (Int.ofNat 0-IntKind.i64.wrap (e1-e2)))).length (tenX (IntKind.i64.wrap (Int.ofNat 0-IntKind.i64.wrap (e1-e2)))))).length=D.length∧(mulX (List.take (decX d2).length (decX d2)) (List.take (tenX (IntKind.i64.wrap (Int.ofNat 0-IntKind.i64.wrap (e1-e2)))).length (tenX (IntKind.i64.wrap (Int.ofNat 0-IntKind.i64.wrap (e1-e2)))))).length≤(mulX (List.take (decX d2).length (decX d2)) (List.take (tenX (IntKind.i64.wrap (Int.ofNat 0-IntKind.i64.wrap (e1-e2)))).length (tenX (IntKind.i64.wrap (Int.ofNat 0-IntKind.i64.wrap (e1-e2)))))).length∧List.take (mulX (List.take (decX d2).length (decX d2)) (List.take (tenX (IntKind.i64.wrap (Int.ofNat 0-IntKind.i64.wrap (e1-e2)))).length (tenX (IntKind.i64.wrap (Int.ofNat 0-IntKind.i64.wrap (e1-e2)))))).length (mulX (List.take (decX d2).length (decX d2)) (List.take (tenX (IntKind.i64.wrap (Int.ofNat 0-IntKind.i64.wrap (e1-e2)))).length (tenX (IntKind.i64.wrap (Int.ofNat 0-IntKind.i64.wrap (e1-e2))))))=D] :=by kernel_rfl
end Go.Proofs.YtdgfhijnconaoaaGreatDoor
namespace Go.Proofs.YtdgfhijnconaoaaGreatDoor
open Go Go.RowKit Ev Wd
def qtN (d:List UInt8) (e:Int):Nat:=if 0≤e then dgN d*10 ^e.toNat else dgN d
def qtD (d:List UInt8) (e:Int):Nat:=if 0≤e then dgN d else dgN d*10 ^(-e).toNat
theorem tenX_nat (k:Nat):tenX (k:Int)=ws W64 (10 ^k):=by unfold tenX; rw [Int.toNat_natCast]
theorem decX_ws (d:List UInt8):decX d=ws W64 (dgN d):=rfl
theorem wl_tenp (k:Nat):wl (10 ^k)≤k+1:=wl_ten (k+1) (Nat.pow_lt_pow_right (by decide) (Nat.lt_succ_self k))
theorem wl_dg {d:List UInt8} (h:AllD d):wl (dgN d)≤d.length:=wl_ten _ (dgN_lt h)
theorem quotient_sem (n1 n2:Bool) {d1 d2:List UInt8} {e1 e2:Int} (h1:AllD d1) (h2:AllD d2) (l1:d1.length≤100000) (l2:d2.length≤100000) (he: -1000000≤e1-e2∧e1-e2≤1000000)
  (hf: -1000≤(d1.length:Int)-d2.length+(e1-e2)∧(d1.length:Int)-d2.length+(e1-e2)≤1000):
  Ev.Sem Tryz.prog J0 76 [dA n1 d1 e1,dA n2 d2 e2] [vlA (n1 !=n2) false (ws W64 (qtN d1 (e1-e2))) false (ws W64 (qtD d2 (e1-e2)))] :=by
 have w1:=wl_dg h1
 have w2:=wl_dg h2
 have iE:IntKind.i64.wrap (e1-e2)=e1-e2:=i64w (by omega) (by omega)
 have iF:IntKind.i64.wrap (IntKind.i64.wrap (Int.ofNat d1.length-Int.ofNat d2.length)+(e1-e2))=(d1.length:Int)-d2.length+(e1-e2):=by
  show IntKind.i64.wrap (IntKind.i64.wrap ((d1.length:Int)- (d2.length:Int))+(e1-e2))=_
  rw [i64w (n:=(d1.length:Int)- (d2.length:Int)) (by omega) (by omega),i64w (by omega) (by omega)]
 have f1:decide (Int.ofNat 1000 < IntKind.i64.wrap (IntKind.i64.wrap (Int.ofNat d1.length-Int.ofNat d2.length)+(e1-e2)))=false:=by
  rw [iF]
  exact decide_eq_false (by show ¬(1000:Int) < _; omega)
 have f2:decide (IntKind.i64.wrap (IntKind.i64.wrap (Int.ofNat d1.length-Int.ofNat d2.length)+(e1-e2)) < Int.negSucc 999)=false:=by
  rw [iF]
  exact decide_eq_false (by show ¬_ < (-1000:Int); omega)
 by_cases h0:0≤e1-e2
 ·obtain⟨k,hk⟩:=Int.eq_ofNat_of_zero_le h0
  have hN:qtN d1 (e1-e2)=dgN d1*10 ^k:=by unfold qtN; rw [if_pos h0,hk,Int.toNat_natCast]
  have hD:qtD d2 (e1-e2)=dgN d2:=if_pos h0
  have eT:tenX (e1-e2)=ws W64 (10 ^k):=by rw [hk,tenX_nat]
  have f3:decide (Int.ofNat 0≤e1-e2)=true:=decide_eq_true h0
  have wt:=wl_tenp k
  rw [hN,hD]
  refine sem_of bRo1_ok 10 _ _ (qt_pl n1 n2 (n1 !=n2) false false d1 d2 e1 e2 _ _) ?_
  simp only [allP,iE,eT,decX_ws,List.take_length,mulX_ws,f1,f2,f3]
  repeat' apply And.intro
  all_goals first
   | assumption
   | exact trivial
   | exact Cn.ws _
   | (show wl _ < _; omega)
   | exact Nat.le_refl (List.length _)
   | exact rfl
   | omega
   | decide
   | (show e1-e2 < 100000000000; omega)
 ·obtain⟨k,hk⟩:=Int.eq_ofNat_of_zero_le (show 0≤-(e1-e2) by omega)
  have hN:qtN d1 (e1-e2)=dgN d1:=if_neg h0
  have hD:qtD d2 (e1-e2)=dgN d2*10 ^k:=by unfold qtD; rw [if_neg h0,hk,Int.toNat_natCast]
  have iM:IntKind.i64.wrap (Int.ofNat 0- (e1-e2))=(k:Int):=by
   show IntKind.i64.wrap (0- (e1-e2))=_
   rw [i64w (by omega) (by omega)]
   omega
  have f3:decide (Int.ofNat 0≤e1-e2)=false:=decide_eq_false h0
  obtain⟨T,hT⟩:∃ T,T=10 ^k:=⟨_,rfl⟩
  have wt:wl T≤k+1:=by rw [hT]; exact wl_tenp k
  have eT:tenX (k:Int)=ws W64 T:=by rw [hT]; exact tenX_nat k
  rw [hN,hD,← hT]
  clear hT hN hD
  have k0:Int.ofNat 0≤(k:Int):=Int.natCast_nonneg _
  have k1:(k:Int) < Int.ofNat 100000000000:=by
   show (k:Int) < 100000000000
   omega
  refine sem_of bRo1_ok 10 _ _ (qt_mi n1 n2 (n1 !=n2) false false d1 d2 e1 e2 _ _) ?_
  simp only [allP,iE,iM,eT,decX_ws,List.take_length,mulX_ws,f1,f2,f3]
  exact⟨Nat.le_refl _,Nat.le_refl _,Cn.ws _,Cn.ws _,(by show wl _ < _; omega),(by show wl _ < _; omega),⟨k0,k1⟩,trivial,h2,(by omega),h1,(by omega),trivial,trivial,⟨by decide,by decide⟩,⟨by decide,by decide⟩,rfl,trivial,trivial,⟨trivial,Nat.le_refl _,trivial⟩,rfl,⟨trivial,Nat.le_refl _,trivial⟩,trivial⟩
end Go.Proofs.YtdgfhijnconaoaaGreatDoor
namespace Go.Proofs.YtdgfhijnconaoaaGreatDoor.VaS
open Go
def p63:Nat:=9223372036854775808
def nanB (x:Nat):Bool:=decide (9218868437227405312 < x%p63)
def keyI (x:Nat):Int:=if nanB x then 9223372036854775807 else if p63≤x then -((x%p63:Nat):Int)-1 else ((x%p63:Nat):Int)
def sval (x:Nat):Int:=if p63≤x then -((x%p63:Nat):Int) else ((x%p63:Nat):Int)
def ordF (x y:Nat):Option Ordering:=if nanB x || nanB y then none else some (compare (sval x) (sval y))
def mval (r:Nat):Nat:=if r < 4503599627370496 then r else (4503599627370496+r%4503599627370496)*2 ^(r/4503599627370496-1)
theorem mval_succ (r:Nat):mval r < mval (r+1):=by
 unfold mval
 by_cases h1:r+1 < 4503599627370496
 ·rw [if_pos h1,if_pos (by omega)]; omega
 ·by_cases h2:r < 4503599627370496
  ·have e:r=4503599627370495:=by omega
   subst e
   decide
  ·rw [if_neg h2,if_neg h1]
   generalize hq:r/4503599627370496=q
   generalize hm:r%4503599627370496=m
   have hr:r=4503599627370496*q+m:=by rw [← hq,← hm]; exact (Nat.div_add_mod r _).symm
   have hml:m < 4503599627370496:=by rw [← hm]; exact Nat.mod_lt _ (by decide)
   have hq1:1≤q:=by omega
   by_cases h3:m+1 < 4503599627370496
   ·have e1:(r+1)/4503599627370496=q:=by omega
    have e2:(r+1)%4503599627370496=m+1:=by omega
    rw [e1,e2]
    exact Nat.mul_lt_mul_of_pos_right (by omega) (Nat.two_pow_pos _)
   ·have e1:(r+1)/4503599627370496=q+1:=by omega
    have e2:(r+1)%4503599627370496=0:=by omega
    rw [e1,e2,show q+1-1=(q-1)+1 by omega,Nat.pow_succ,show m=4503599627370495 by omega]
    have:=Nat.two_pow_pos (q-1)
    omega
theorem mval_lt {a b:Nat} (h:a < b):mval a < mval b:=by
 induction b with
 | zero=>omega
 | succ b ih=>
  rcases Nat.lt_or_ge a b with h' | h'
  ·exact Nat.lt_trans (ih h') (mval_succ b)
  ·have:a=b:=by omega
   subst this
   exact mval_succ a
theorem mval_lt_iff {a b:Nat} :mval a < mval b↔a < b:=by
 constructor
 ·intro h
  rcases Nat.lt_trichotomy a b with h' | h' | h'
  ·exact h'
  ·subst h'; omega
  ·have:=mval_lt h'; omega
 ·exact mval_lt
def sg (neg:Bool) (m:Nat):Int:=if neg then -(m:Int) else (m:Int)
theorem mval_zero:mval 0=0:=by decide
theorem sg_cmp (s t:Bool) (a b:Nat):compare (sg s (mval a)) (sg t (mval b))=compare (sg s a) (sg t b):=by
 have key:∀ x y x' y':Int,(x < y↔x' < y')→(y < x↔y' < x')→compare x y=compare x' y':=by
  intro x y x' y' h1 h2
  show (if x < y then Ordering.lt else if x=y then .eq else .gt)=(if x' < y' then Ordering.lt else if x'=y' then .eq else .gt)
  by_cases hx:x < y
  ·rw [if_pos hx,if_pos (h1.1 hx)]
  ·rw [if_neg hx,if_neg (fun h=>hx (h1.2 h))]
   by_cases hy:x=y
   ·have e:x'=y':=by
     have a1:¬ x' < y':=fun h=>hx (h1.2 h)
     have a2:¬ y' < x':=fun h=>by have:=h2.2 h; omega
     omega
    rw [if_pos hy,if_pos e]
   ·have e:x'≠y':=by
     have:y < x:=by omega
     have:=h2.1 this
     omega
    rw [if_neg hy,if_neg e]
 have ha:= @mval_lt_iff 0 a
 have hb:= @mval_lt_iff 0 b
 have hab:= @mval_lt_iff a b
 have hba:= @mval_lt_iff b a
 rw [mval_zero] at ha hb
 unfold sg
 cases s <;> cases t <;> simp only [Bool.false_eq_true,if_false,if_true] <;> refine key _ _ _ _ ?_ ?_ <;> omega
theorem cmp_scale (x y:Int) {k:Nat} (hk:0 < k):compare (x*(k:Int)) (y*(k:Int))=compare x y:=by
 show (if x*(k:Int) < y*(k:Int) then Ordering.lt else if x*(k:Int)=y*(k:Int) then .eq else .gt)=(if x < y then Ordering.lt else if x=y then .eq else .gt)
 have hk':(0:Int) < (k:Int):=by omega
 have h1:x*(k:Int) < y*(k:Int)↔x < y:=Int.mul_lt_mul_right hk'
 have h2:x*(k:Int)=y*(k:Int)↔x=y:=⟨fun h=>Int.eq_of_mul_eq_mul_right (by omega) h,fun h=>by rw [h]⟩
 by_cases a1:x < y
 ·rw [if_pos a1,if_pos (h1.2 a1)]
 ·rw [if_neg a1,if_neg (fun h=>a1 (h1.1 h))]
  by_cases a2:x=y
  ·rw [if_pos a2,if_pos (h2.2 a2)]
  ·rw [if_neg a2,if_neg (fun h=>a2 (h2.1 h))]
def magR (r:Nat):Nat:=if r < 4503599627370496 then r else 4503599627370496+r%4503599627370496
def plcR (r:Nat):Nat:=if r < 4503599627370496 then 0 else r/4503599627370496-1
theorem mval_eq (r:Nat):mval r=magR r*2 ^plcR r:=by
 unfold mval magR plcR
 split <;> simp
theorem fmt:Ieee.double.signWeight=p63∧Ieee.double.binade=4503599627370496∧Ieee.double.infRung=9218868437227405312∧Ieee.double.leastPlace= -1074:=by decide
theorem read_num {x:Nat} (hx:x < 18446744073709551616) (h:x%p63 < 9218868437227405312):Ieee.double.read x= .number (decide (p63≤x)) (magR (x%p63)) (-1074+(plcR (x%p63):Nat)):=by
 obtain⟨e1,e2,e3,e4⟩:=fmt
 have hs:(x/p63%2==1)=decide (p63≤x):=by
  unfold p63 at*
  by_cases hc:9223372036854775808≤x
  ·rw [decide_eq_true hc,show x/9223372036854775808=1 by omega]; rfl
  ·rw [decide_eq_false hc,show x/9223372036854775808=0 by omega]; rfl
 unfold Ieee.Format.read
 simp only [e1,e2,e3,e4,hs,h,if_true]
 unfold magR plcR
 split
 ·simp
 ·rfl
theorem read_inf {x:Nat} (hx:x < 18446744073709551616) (h:x%p63=9218868437227405312):Ieee.double.read x= .infinity (decide (p63≤x)):=by
 obtain⟨e1,e2,e3,e4⟩:=fmt
 have hs:(x/p63%2==1)=decide (p63≤x):=by
  unfold p63 at*
  by_cases hc:9223372036854775808≤x
  ·rw [decide_eq_true hc,show x/9223372036854775808=1 by omega]; rfl
  ·rw [decide_eq_false hc,show x/9223372036854775808=0 by omega]; rfl
 unfold Ieee.Format.read
 simp only [e1,e2,e3,e4,hs,h]
 simp
theorem read_nan {x:Nat} (h:9218868437227405312 < x%p63):∃ n f,Ieee.double.read x= .nan n f:=by
 obtain⟨e1,e2,e3,e4⟩:=fmt
 unfold Ieee.Format.read
 simp only [e1,e2,e3,e4]
 rw [if_neg (by omega),if_neg (by omega),if_neg (by omega)]
 exact⟨_,_,rfl⟩
theorem signed_scale (s:Bool) (m a c:Nat) (h:c≤a):Ieee.signed s m (a-c)*((2 ^c:Nat):Int)=sg s (m*2 ^a):=by
 have e:m <<< (a-c)*2 ^c=m*2 ^a:=by
  rw [Nat.shiftLeft_eq,Nat.mul_assoc,← Nat.pow_add,Nat.sub_add_cancel h]
 unfold Ieee.signed sg
 cases s
 ·simp only [Bool.false_eq_true,if_false]
  rw [← e]; push_cast; rfl
 ·simp only [if_true]
  rw [← e,Int.neg_mul]; push_cast; rfl
theorem order_eq {x y:Nat} (hx:x < 18446744073709551616) (hy:y < 18446744073709551616):Ieee.double.order x y=ordF x y:=by
 unfold Ieee.Format.order ordF
 by_cases nx:9218868437227405312 < x%p63
 ·obtain⟨n,f,e⟩:=read_nan nx
  rw [e,show nanB x=true from decide_eq_true nx]
  rfl
 by_cases ny:9218868437227405312 < y%p63
 ·obtain⟨n,f,e⟩:=read_nan ny
  rw [e,show nanB y=true from decide_eq_true ny,Bool.or_true,if_pos rfl]
  generalize Ieee.double.read x=d
  cases d <;> rfl
 rw [show nanB x=false from decide_eq_false nx,show nanB y=false from decide_eq_false ny]
 have hsv:∀ z,sval z=sg (decide (p63≤z)) (z%p63):=fun z=>by
  unfold sval sg
  by_cases h:p63≤z <;> simp [h]
 rw [hsv,hsv]
 simp only [Bool.or_self,Bool.false_eq_true,if_false]
 have cmp_def:∀ a b:Int,compare a b=if a < b then Ordering.lt else if a=b then .eq else .gt:=fun _ _=>rfl
 by_cases ix:x%p63=9218868437227405312
 ·rw [read_inf hx ix]
  by_cases iy:y%p63=9218868437227405312
  ·rw [read_inf hy iy,ix,iy]
   generalize decide (p63≤x)=s
   generalize decide (p63≤y)=t
   cases s <;> cases t <;> decide
  ·rw [read_num hy (by omega),ix]
   generalize decide (p63≤x)=s
   generalize decide (p63≤y)=t
   have:y%p63 < 9218868437227405312:=by omega
   generalize y%p63=b at this
   simp only [Ieee.Datum.order,cmp_def]
   cases s <;> cases t <;> simp only [sg,Bool.false_eq_true,if_false,if_true,Option.some.injEq]
   ·rw [if_neg (by omega),if_neg (by omega)]
   ·rw [if_neg (by omega),if_neg (by omega)]
   ·rw [if_pos (by omega)]
   ·rw [if_pos (by omega)]
 ·rw [read_num hx (by omega)]
  by_cases iy:y%p63=9218868437227405312
  ·rw [read_inf hy iy,iy]
   generalize decide (p63≤x)=s
   generalize decide (p63≤y)=t
   have:x%p63 < 9218868437227405312:=by omega
   generalize x%p63=b at this
   simp only [Ieee.Datum.order,cmp_def]
   cases s <;> cases t <;> simp only [sg,Bool.false_eq_true,if_false,if_true,Option.some.injEq]
   ·rw [if_pos (by omega)]
   ·rw [if_neg (by omega),if_neg (by omega)]
   ·rw [if_pos (by omega)]
   ·rw [if_neg (by omega),if_neg (by omega)]
  ·rw [read_num hy (by omega)]
   generalize decide (p63≤x)=s
   generalize decide (p63≤y)=t
   generalize x%p63=a
   generalize y%p63=b
   simp only [Ieee.Datum.order,Option.some.injEq]
   rw [← sg_cmp,mval_eq,mval_eq]
   have hc:min (-1074+((plcR a:Nat):Int)) (-1074+((plcR b:Nat):Int))= -1074+((min (plcR a) (plcR b):Nat):Int):=by omega
   rw [hc]
   have e1:(-1074+((plcR a:Nat):Int)- (-1074+((min (plcR a) (plcR b):Nat):Int))).toNat=plcR a-min (plcR a) (plcR b):=by omega
   have e2:(-1074+((plcR b:Nat):Int)- (-1074+((min (plcR a) (plcR b):Nat):Int))).toNat=plcR b-min (plcR a) (plcR b):=by omega
   rw [e1,e2,← signed_scale s (magR a) (plcR a) (min (plcR a) (plcR b)) (by omega),← signed_scale t (magR b) (plcR b) (min (plcR a) (plcR b)) (by omega)]
   exact (cmp_scale _ _ (Nat.two_pow_pos _)).symm
structure Val where
 k:Int
 x:Nat
 s:List UInt8
 b:Bool
 f:Int
def cmpI (x y:Int):Int:=if x < y then -1 else if y < x then 1 else 0
end Go.Proofs.YtdgfhijnconaoaaGreatDoor.VaS
namespace Go.Proofs.YtdgfhijnconaoaaGreatDoor
open Go
theorem log2_of {m k:Nat} (h1:2 ^k≤m) (h2:m < 2 ^(k+1)):m.log2=k:=by
 have h0:m≠0:=by
  have:0 < 2 ^k:=Nat.pow_pos (by decide)
  omega
 exact (Nat.log2_eq_iff h0).2 ⟨h1,h2⟩
theorem log2_b {m:Nat} (h:m≠0):2 ^m.log2≤m∧m < 2 ^(m.log2+1):=(Nat.log2_eq_iff h).1 rfl
theorem cut_even {n M k:Nat} (h:n=M*2 ^k) (hM:0 < M):Ieee.Toward.even.cut false n k=M:=by
 have h2:0 < 2 ^k:=Nat.pow_pos (by decide)
 have hn:n≠0:=by
  have:=Nat.mul_pos hM h2
  omega
 have hk:k≤n.log2:=by
  have h3:2 ^k≤n:=by rw [h]; exact Nat.le_mul_of_pos_left _ hM
  have h4:=(log2_b hn).2
  have:=(Nat.pow_lt_pow_iff_right (a:=2) (by decide)).1 (Nat.lt_of_le_of_lt h3 h4)
  omega
 unfold Ieee.Toward.cut
 have hg:1 <<< min k (n.log2+2)=2 ^k:=by rw [Nat.min_eq_left (by omega),Nat.one_shiftLeft]
 simp only [hg]
 rw [h,Nat.mul_div_cancel _ h2,Nat.mul_mod_left]
 have e1:decide (2 ^k < 2*0)=false:=decide_eq_false (by omega)
 have e2:(2 ^k==2*0)=false:=beq_false_of_ne (by omega)
 rw [e1,e2]
 simp
theorem least_d:Ieee.double.leastPlace= -1074:=by decide
theorem binade_d:Ieee.double.binade=4503599627370496:=by decide
theorem inf_d:Ieee.double.infRung=9218868437227405312:=by decide
theorem frac_d:Ieee.double.fractionBits=52:=by decide
theorem word_f (m:Nat):Ieee.double.word false m=m:=rfl
theorem in_range {a b:Nat} (ha:a≤2045) (hb:b < 9007199254740992):a*4503599627370496+b≤9218868437227405312:=by omega
theorem near_of {M k:Nat} {E:Int} (hM:0 < M) (h53:M < 9007199254740992) (hE: -1074≤E) (hn:4503599627370496≤M∨E= -1074) (hT:E≤971):Ieee.double.nearest false (M*2 ^k) (E-k)=(E+1074).toNat*4503599627370496+M:=by
 have h2:0 < 2 ^k:=Nat.pow_pos (by decide)
 have h0:M*2 ^k≠0:=by
  have:=Nat.mul_pos hM h2
  omega
 have hl:(M*2 ^k).log2=M.log2+k:=by
  have hb:=log2_b (show M≠0 by omega)
  refine log2_of ?_ ?_
  ·rw [Nat.pow_add]; exact Nat.mul_le_mul_right _ hb.1
  ·rw [show M.log2+k+1=M.log2+1+k by omega,Nat.pow_add]; exact Nat.mul_lt_mul_of_pos_right hb.2 h2
 have hlast:max (E- (k:Int)+((M*2 ^k).log2:Nat)- (Ieee.double.fractionBits:Nat)) Ieee.double.leastPlace=E:=by
  rw [hl,least_d,frac_d]
  by_cases hb:4503599627370496≤M
  ·have:M.log2=52:=log2_of hb h53
   rw [this]
   omega
  ·have hlt:M.log2 < 52:=(Nat.log2_lt (by omega)).2 (by show M < 4503599627370496; omega)
   rcases hn with hn | hn <;> omega
 unfold Ieee.Format.nearest
 rw [if_neg h0]
 simp only [hlast]
 have e1:(E- (k:Int)-E).toNat=0:=by omega
 have e2:(E- (E- (k:Int))).toNat=k:=by omega
 rw [e1,e2,Nat.shiftLeft_zero,cut_even rfl hM,least_d,word_f,binade_d,inf_d]
 rw [show E- -1074=E+1074 by omega]
 refine Nat.min_eq_left ?_
 exact in_range (by omega) h53
theorem near_left {m t:Nat} {P:Int} (h1:4503599627370496≤m*2 ^t) (h53:m*2 ^t < 9007199254740992) (hE: -1074≤P-t) (hT:P-t≤971):Ieee.double.nearest false m P=(P-t+1074).toNat*4503599627370496+m*2 ^t:=by
 have h2:0 < 2 ^t:=Nat.pow_pos (by decide)
 have h0:m≠0:=by
  intro e
  subst e
  omega
 have hm:0 < m*2 ^t:=by omega
 have ht:t≤52:=by
  have h3:2 ^t≤m*2 ^t:=Nat.le_mul_of_pos_left _ (by omega)
  have h4:2 ^t < 2 ^53:=Nat.lt_of_le_of_lt h3 (by show _ < 9007199254740992; omega)
  have:=(Nat.pow_lt_pow_iff_right (a:=2) (by decide)).1 h4
  omega
 have hl:m.log2=52-t:=by
  refine log2_of ?_ ?_
  ·have:2 ^(52-t)*2 ^t≤m*2 ^t:=by rw [← Nat.pow_add,show 52-t+t=52 by omega]; exact h1
   exact Nat.le_of_mul_le_mul_right this h2
  ·have:m*2 ^t < 2 ^(52-t+1)*2 ^t:=by rw [← Nat.pow_add,show 52-t+1+t=53 by omega]; exact h53
   exact Nat.lt_of_mul_lt_mul_right this
 have hlast:max (P+(m.log2:Nat)- (Ieee.double.fractionBits:Nat)) Ieee.double.leastPlace=P-t:=by
  rw [hl,least_d,frac_d]
  omega
 unfold Ieee.Format.nearest
 rw [if_neg h0]
 simp only [hlast]
 have e1:(P- (P- (t:Int))).toNat=t:=by omega
 have e2:(P- (t:Int)-P).toNat=0:=by omega
 rw [e1,e2,Nat.shiftLeft_eq,cut_even (M:=m*2 ^t) (k:=0) (by simp) hm,least_d,word_f,binade_d,inf_d]
 rw [show P-t- -1074=P-t+1074 by omega]
 refine Nat.min_eq_left ?_
 exact in_range (by omega) h53
theorem read_norm {w:Nat} (h1:4503599627370496≤w) (h2:w < 9218868437227405312):Ieee.double.read w= .number false (4503599627370496+w%4503599627370496) (-1074+((w/4503599627370496-1:Nat):Int)):=by
 unfold Ieee.Format.read
 have hs:Ieee.double.signWeight=9223372036854775808:=by decide
 have hb:Ieee.double.binade=4503599627370496:=by decide
 have hi:Ieee.double.infRung=9218868437227405312:=by decide
 rw [hs,hb,hi,least_d]
 have e1:w%9223372036854775808=w:=Nat.mod_eq_of_lt (by omega)
 simp only [e1]
 rw [if_neg (by omega),if_pos h2,show (w/9223372036854775808%2==1)=false by rw [Nat.div_eq_of_lt (by omega)]; rfl]
theorem mul_norm {a b:Nat} (ha1:4503599627370496≤a) (ha2:a < 9218868437227405312) (hb1:4503599627370496≤b) (hb2:b < 9218868437227405312):
  Ieee.double.mul a b=some (Ieee.double.nearest false ((4503599627370496+a%4503599627370496)*(4503599627370496+b%4503599627370496)) (-1074+((a/4503599627370496-1:Nat):Int)+(-1074+((b/4503599627370496-1:Nat):Int)))):=by
 unfold Ieee.Format.mul
 rw [read_norm ha1 ha2,read_norm hb1 hb2]
 rfl
theorem mul_one {w:Nat} (h1:4503599627370496≤w) (h2:w < 9218868437227405312):Ieee.double.mul 4607182418800017408 w=some w:=by
 rw [mul_norm (by decide) (by decide) h1 h2]
 have hd:1≤w/4503599627370496:=(Nat.le_div_iff_mul_le (by decide)).2 (by omega)
 have hd2:w/4503599627370496 < 2047:=(Nat.div_lt_iff_lt_mul (by decide)).2 (by omega)
 have hm:w%4503599627370496 < 4503599627370496:=Nat.mod_lt _ (by decide)
 have e:=near_of (M:=4503599627370496+w%4503599627370496) (k:=52) (E:= -1074+((w/4503599627370496-1:Nat):Int)) (by omega) (by omega) (by omega) (.inl (by omega)) (by omega)
 have e1:(4503599627370496+4607182418800017408%4503599627370496)*(4503599627370496+w%4503599627370496)=(4503599627370496+w%4503599627370496)*2 ^52:=by
  rw [Nat.mul_comm]
 have e2:(-1074:Int)+((4607182418800017408/4503599627370496-1:Nat):Int)+(-1074+((w/4503599627370496-1:Nat):Int))= -1074+((w/4503599627370496-1:Nat):Int)- ((52:Nat):Int):=by
  omega
 rw [e1,e2,e]
 have hw:=Nat.div_add_mod w 4503599627370496
 have e3:(-1074+((w/4503599627370496-1:Nat):Int)+1074).toNat=w/4503599627370496-1:=by omega
 rw [e3]
 refine congrArg some ?_
 rw [Nat.sub_mul]
 omega
theorem mul_small {w M s:Nat} (h1:4503599627370496≤w) (h2:w < 9218868437227405312) (hM:4503599627370496+w%4503599627370496=M*2 ^s) (hp:M < 4503599627370496) (hs:((w/4503599627370496:Nat):Int)=54-s):Ieee.double.mul 4368491638549381120 w=some M:=by
 rw [mul_norm (by decide) (by decide) h1 h2]
 have h20:0 < 2 ^s:=Nat.pow_pos (by decide)
 have hM0:0 < M:=by
  rcases Nat.eq_zero_or_pos M with h | h
  ·rw [h] at hM; omega
  ·exact h
 have hd:1≤w/4503599627370496:=(Nat.le_div_iff_mul_le (by decide)).2 (by omega)
 have e:=near_of (M:=M) (k:=s+52) (E:= -1074) hM0 (by omega) (by omega) (.inr rfl) (by omega)
 have e1:(4503599627370496+4368491638549381120%4503599627370496)*(4503599627370496+w%4503599627370496)=M*2 ^(s+52):=by
  rw [hM,Nat.pow_add,Nat.mul_comm,Nat.mul_assoc]
 have e2:(-1074:Int)+((4368491638549381120/4503599627370496-1:Nat):Int)+(-1074+((w/4503599627370496-1:Nat):Int))= -1074- ((s+52:Nat):Int):=by
  omega
 rw [e1,e2,e]
 simp
end Go.Proofs.YtdgfhijnconaoaaGreatDoor
namespace Go.Proofs.YtdgfhijnconaoaaGreatDoor
open Go Go.RowKit Ev Wd VaS
def absL (x:Nat):Nat:=(IntKind.u64.wrap ↑(BitVec.ofInt IntKind.u64.bits ↑x&&& ~~~BitVec.ofInt IntKind.u64.bits 9223372036854775808).toNat).toNat
theorem absL_eq {x:Nat} (hx:x < 9223372036854775808):absL x=x:=by
 unfold absL
 have h0:(BitVec.ofInt IntKind.u64.bits (x:Int)).toNat=x:=by
  show (BitVec.ofInt 64 (x:Int)).toNat=x
  rw [BitVec.ofInt_natCast,BitVec.toNat_ofNat]
  exact Nat.mod_eq_of_lt (by omega)
 have h3:(BitVec.ofInt IntKind.u64.bits (x:Int)&&& ~~~BitVec.ofInt IntKind.u64.bits 9223372036854775808).toNat=x:=by
  rw [BitVec.toNat_and,h0,show (~~~BitVec.ofInt IntKind.u64.bits 9223372036854775808).toNat=2 ^63-1 by decide]
  rw [Nat.and_two_pow_sub_one_eq_mod _ 63]
  exact Nat.mod_eq_of_lt hx
 rw [h3]
 have h5:IntKind.u64.wrap (x:Int)=(x:Int):=by
  simp [IntKind.wrap,IntKind.bits,IntKind.signed]
  omega
 rw [h5,Int.toNat_natCast]
theorem ordL {a b:Nat} (ha:a≤9218868437227405312) (hb:b≤9218868437227405312):Ieee.double.order a b=some (compare (a:Int) (b:Int)):=by
 have hm:∀ {c:Nat},c≤9218868437227405312→c%p63=c:=fun {c} h=>Nat.mod_eq_of_lt (by unfold p63; omega)
 have hs:∀ {c:Nat},c≤9218868437227405312→sval c=(c:Int):=fun {c} h=>by
  unfold sval
  rw [if_neg (by unfold p63; omega),hm h]
 have hn:∀ {c:Nat},c≤9218868437227405312→nanB c=false:=fun {c} h=>by
  unfold nanB
  rw [hm h]
  exact decide_eq_false (by omega)
 rw [order_eq (by omega) (by omega)]
 unfold ordF
 rw [hn ha,hn hb,hs ha,hs hb]
 rfl
def ltL (x y:Nat):Bool:=Ieee.double.order x y==some .lt
def eqNu (x y:Nat):Bool:=Ieee.double.order x y==some .eq
def gtL (x y:Nat):Bool:=Ieee.double.order x y==some .gt
theorem ltL_eq {a b:Nat} (ha:a≤9218868437227405312) (hb:b≤9218868437227405312):ltL a b=decide (a < b):=by
 unfold ltL
 rw [ordL ha hb,show compare (a:Int) (b:Int)=if (a:Int) < b then Ordering.lt else if (a:Int)=b then .eq else .gt from rfl]
 by_cases h:a < b
 ·rw [if_pos (by omega),decide_eq_true h]; rfl
 ·rw [if_neg (by omega),decide_eq_false h]
  split <;> rfl
theorem eqNu_eq {a b:Nat} (ha:a≤9218868437227405312) (hb:b≤9218868437227405312):eqNu a b=decide (a=b):=by
 unfold eqNu
 rw [ordL ha hb,show compare (a:Int) (b:Int)=if (a:Int) < b then Ordering.lt else if (a:Int)=b then .eq else .gt from rfl]
 by_cases h:a < b
 ·rw [if_pos (by omega),decide_eq_false (by omega)]; rfl
 ·by_cases h2:a=b
  ·rw [if_neg (by omega),if_pos (by omega),decide_eq_true h2]; rfl
  ·rw [if_neg (by omega),if_neg (by omega),decide_eq_false h2]; rfl
theorem gtL_eq {a b:Nat} (ha:a≤9218868437227405312) (hb:b≤9218868437227405312):gtL a b=decide (b < a):=by
 unfold gtL
 rw [ordL ha hb,show compare (a:Int) (b:Int)=if (a:Int) < b then Ordering.lt else if (a:Int)=b then .eq else .gt from rfl]
 by_cases h:a < b
 ·rw [if_pos (by omega),decide_eq_false (by omega)]; rfl
 ·by_cases h2:a=b
  ·rw [if_neg (by omega),if_pos (by omega),decide_eq_false (by omega)]; rfl
  ·rw [if_neg (by omega),if_neg (by omega),decide_eq_true (by omega)]; rfl
theorem norm_way (x:Nat):pureCall XRo1 [] 200 212 [.float .f64 x] [false] =some (.tuple ⟨[.float .f64 x, .int .i64 0]⟩,[ltL (absL x) 4503599627370496=false]):=by kernel_rfl
def specNorm:List Value→Option (Value×List Prop)
 | [.float .f64 x] =>some (.tuple ⟨[.float .f64 x, .int .i64 0]⟩,[4503599627370496≤x∧x < 9218868437227405312])
 | _=>none
theorem specNorm_ok (args:List Value) (v:Value) (l:List Prop) (h:specNorm args=some (v,l)) (hl:allP l):Ev.Pure Tryz.prog J0 212 args v:=by
 unfold specNorm at h
 split at h
 case h_2=>cases h
 rename_i x
 cases h
 obtain⟨⟨h1,h2⟩,_⟩:=hl
 refine pure_of bRo1_ok 10 _ _ (norm_way x) ⟨?_,trivial⟩
 rw [absL_eq (by omega),ltL_eq (by omega) (by omega)]
 exact decide_eq_false (by omega)
noncomputable def tabLd:Tab:=tabAdd 212 specNorm tabW8
theorem tabLd_ok:PcOk Tryz.prog J0 tabLd:=tabAdd_ok specNorm_ok tabW8_ok
noncomputable def bLd:Base:=⟨Tryz.prog,J0,false,tabLd,mtabRo1,200,xtN0⟩
theorem bLd_ok:BaseOk bLd:=⟨progOk,tabLd_ok,mtabRo1_ok,xtN0_ok⟩
noncomputable abbrev XLd:Cx:=bLd.cx 10
end Go.Proofs.YtdgfhijnconaoaaGreatDoor
namespace Go.Proofs.YtdgfhijnconaoaaGreatDoor
open Go Go.RowKit Ev Wd VaS
def frL (x:Nat):Int:=IntKind.u64.wrap ((BitVec.ofInt IntKind.u64.bits (x:Int)&&& ~~~BitVec.ofInt IntKind.u64.bits 9218868437227405312).toNat:Nat)
def exL (x:Nat):Int:=IntKind.i64.wrap (IntKind.i64.wrap ((BitVec.ofInt IntKind.i64.bits (IntKind.i64.wrap ((x:Int).fdiv (2 ^min (Int.toNat 52) IntKind.u64.bits)))&&& BitVec.ofInt IntKind.i64.bits 2047).toNat:Nat)-1023)
def plL (x:Nat) (e:Int):Int:=IntKind.i64.wrap (IntKind.i64.wrap (e+0)+exL x)
def bwL (x:Nat) (P:Int):Nat:=(IntKind.u64.wrap ((BitVec.ofInt IntKind.u64.bits (frL x)||| BitVec.ofInt IntKind.u64.bits (IntKind.u64.wrap (IntKind.u64.wrap (IntKind.i64.wrap (P+1023))*2 ^min (Int.toNat 52) IntKind.u64.bits))).toNat:Nat)).toNat
def infL (x:Nat):Bool:=match gtL (absL x) 9218868437227405311 with | true=>true | false=>Ieee.double.order x x !=some .eq
def sm53 (P:Int):Int:=IntKind.i64.wrap (P+53)
section
variable (x:Nat) (e:Int)
theorem ldexp_o:pureCall XLd [] 200 166 [.float .f64 x, .int .i64 e] [true] =some (.float .f64 x,[eqNu x 0=true]):=by kernel_rfl
theorem ldexp_n:pureCall XLd [] 200 166 [.float .f64 x, .int .i64 e] [false,false,false,false,false] =some (.float .f64 ((Ieee.double.mul 4607182418800017408 (bwL x (plL x e))).getD 0),[(Ieee.double.mul 4607182418800017408 (bwL x (plL x e))).isSome=true,decide (plL x e < Int.negSucc 1021)=false,decide (1023 < plL x e)=false,decide (plL x e < Int.negSucc 1074)=false,4503599627370496≤x∧x < 9218868437227405312,infL x=false,eqNu x 0=false]):=by kernel_rfl
theorem ldexp_s:pureCall XLd [] 200 166 [.float .f64 x, .int .i64 e] [false,false,false,false,true] =some (.float .f64 ((Ieee.double.mul 4368491638549381120 (bwL x (sm53 (plL x e)))).getD 0),[(Ieee.double.mul 4368491638549381120 (bwL x (sm53 (plL x e)))).isSome=true,decide (plL x e < Int.negSucc 1021)=true,decide (1023 < plL x e)=false,decide (plL x e < Int.negSucc 1074)=false,4503599627370496≤x∧x < 9218868437227405312,infL x=false,eqNu x 0=false]):=by kernel_rfl
theorem ldexp_i:pureCall XLd [] 200 166 [.float .f64 x, .int .i64 e] [false,false,false,true,false] =some (.float .f64 9218868437227405312,[ltL x 0=false,decide (1023 < plL x e)=true,decide (plL x e < Int.negSucc 1074)=false,4503599627370496≤x∧x < 9218868437227405312,infL x=false,eqNu x 0=false]):=by kernel_rfl
end
end Go.Proofs.YtdgfhijnconaoaaGreatDoor
