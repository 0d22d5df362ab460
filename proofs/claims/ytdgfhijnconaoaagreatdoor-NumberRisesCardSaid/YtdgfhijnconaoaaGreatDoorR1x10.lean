/-
 NumberRises: of two texts the one with the greater value is never read as the lesser number; no condition (a part of the proof).
-/
import Derived.Test.YtdgfhijnconaoaaGreatDoorR1x09
import Derived.Test.YtdgfhijnconaoaaGreatDoorR1x08
import Derived.Test.YtdgfhijnconaoaaGreatDoorR1x05
import Derived.Test.YtdgfhijnconaoaaGreatDoorR1x07
set_option maxRecDepth 1000000
namespace Go.Proofs.YtdgfhijnconaoaaGreatDoor
open Go Go.RowKit Ev Wd
def dgU (n:Nat):UInt8:=UInt8.ofNat (48+n)
def inF:Nat→Nat→List UInt8
 | 0,n=>[dgU n]
 | f+1,n=>if n < 10 then [dgU n] else inF f (n/10)++[dgU (n%10)]
def intN (n:Nat):List UInt8:=inF n n
def intV (e:Int):List UInt8:=if e < 0 then 45 ::intN (-e).toNat else intN e.toNat
theorem inF_more:∀ (f g n:Nat),n≤f→n≤g→inF f n=inF g n
 | 0,0,n,_,_=>rfl
 | 0,g+1,n,h,_=>by
  obtain rfl:n=0:=by omega
  rfl
 | f+1,0,n,_,h=>by
  obtain rfl:n=0:=by omega
  rfl
 | f+1,g+1,n,h1,h2=>by
  unfold inF
  by_cases h:n < 10
  ·rw [if_pos h,if_pos h]
  ·rw [if_neg h,if_neg h,inF_more f g (n/10) (by omega) (by omega)]
theorem intN_eq (n:Nat):intN n=if n < 10 then [dgU n] else intN (n/10)++[dgU (n%10)] :=by
 unfold intN
 by_cases h:n < 10
 ·rw [if_pos h]
  cases n with
  | zero=>rfl
  | succ n=>unfold inF; rw [if_pos h]
 ·rw [if_neg h]
  cases n with
  | zero=>omega
  | succ n=>
   rw [show inF (n+1) (n+1)=inF n ((n+1)/10)++[dgU ((n+1)%10)] from by
    conv=>lhs; unfold inF
    rw [if_neg h]]
   rw [inF_more n ((n+1)/10) ((n+1)/10) (by omega) (Nat.le_refl _)]
theorem inF_len:∀ f n,(inF f n).length≤f+1
 | 0,_=>Nat.le_refl _
 | f+1,n=>by
  unfold inF
  split
  ·simp
  ·rw [List.length_append]
   have:=inF_len f (n/10)
   simp
   omega
theorem intN_len (n:Nat):(intN n).length≤n+1:=inF_len n n
def specIn (B:Int):List Value→Option (Value×List Prop)
 | [.int .i64 e] =>some (.string ⟨⟨intV e⟩⟩,[0≤e∧e < B])
 | _=>none
noncomputable def tabIn (B:Int):Tab:=tabAdd 19 (specIn B) tab0
noncomputable def bIn (B:Int):Base:=⟨Tryz.prog,J0,false,tabIn B,mtab0,200,xtN0⟩
def dgc (e:Int):UInt8:=UInt8.ofNat (IntKind.u8.wrap (IntKind.i64.wrap (48+e))).toNat
section
variable (B e:Int)
theorem in_1:pureCall XDg [] 200 19 [.int .i64 e] [false,true] =some (.string ⟨⟨[dgc e]⟩⟩,[decide (e < 10)=true,decide (e < 0)=false]):=by kernel_rfl
theorem in_2:pureCall ((bIn B).cx 10) [] 200 19 [.int .i64 e] [false,false] =some (.string ⟨⟨intV (IntKind.i64.wrap (e.tdiv 10))++[dgc (e.tmod 10)]⟩⟩,[(intV (IntKind.i64.wrap (e.tdiv 10))).length+1≤9223372036854775807,0≤IntKind.i64.wrap (e.tdiv 10)∧IntKind.i64.wrap (e.tdiv 10) < B,decide (e < 10)=false,decide (e < 0)=false]):=by kernel_rfl
theorem in_3:pureCall ((bIn B).cx 10) [] 200 19 [.int .i64 e] [true] =some (.string ⟨⟨45 ::intV (IntKind.i64.wrap (0-e))⟩⟩,[1+(intV (IntKind.i64.wrap (0-e))).length≤9223372036854775807,0≤IntKind.i64.wrap (0-e)∧IntKind.i64.wrap (0-e) < B,decide (e < 0)=true]):=by kernel_rfl
end
theorem dgc_eq {n:Nat} (h:n < 10):dgc (n:Int)=dgU n:=by
 unfold dgc dgU
 have h1:IntKind.i64.wrap (48+(n:Int))=48+(n:Int):=i64w (by omega) (by omega)
 rw [h1,IntKind.wrap_u8]
 congr 1
 omega
theorem intV_nat (n:Nat):intV (n:Int)=intN n:=by
 unfold intV
 rw [if_neg (by omega),Int.toNat_natCast]
theorem int_small:∀ (k:Nat),k≤8→∀ n:Nat,n < 10 ^k→Ev.Pure Tryz.prog J0 19 [.int .i64 (n:Int)] (.string ⟨⟨intN n⟩⟩)
 | k,hk,n,hn=>by
  by_cases h:n < 10
  ·rw [intN_eq,if_pos h]
   have:=in_1 (n:Int)
   rw [dgc_eq h] at this
   exact pure_of bDg_ok 10 _ _ this ⟨decide_eq_true (by omega),decide_eq_false (by omega),trivial⟩
  ·cases k with
   | zero=>omega
   | succ k=>
    have hok:BaseOk (bIn ((10 ^k:Nat):Int)):=by
     refine⟨progOk,tabAdd_ok (fun args v l hs hl=> ?_) (tab0_ok _ _),mtab0_ok _ _,xtN0_ok⟩
     unfold specIn at hs
     split at hs
     ·cases hs
      rename_i e
      obtain⟨h1,h2⟩:=hl.1
      obtain⟨m,rfl⟩:∃ m:Nat,e=(m:Int):=⟨e.toNat,by omega⟩
      rw [intV_nat]
      exact int_small k (by omega) m (by omega)
     ·cases hs
    have hn8:n < 100000000:=Nat.lt_of_lt_of_le hn (Nat.pow_le_pow_right (n:=10) (by decide) hk)
    have hq:IntKind.i64.wrap ((n:Int).tdiv 10)=((n/10:Nat):Int):=by
     rw [show (n:Int).tdiv 10=((n/10:Nat):Int) from (Int.ofNat_tdiv n 10).symm]
     exact i64w (by omega) (by omega)
    have hr:(n:Int).tmod 10=((n%10:Nat):Int):=(Int.ofNat_tmod n 10).symm
    have:=in_2 ((10 ^k:Nat):Int) (n:Int)
    rw [hq,hr,dgc_eq (by omega),intV_nat] at this
    have hlen:=intN_len (n/10)
    rw [intN_eq,if_neg h]
    have hlt:n/10 < 10 ^k:=by
     rw [Nat.pow_succ] at hn
     omega
    exact pure_of hok 10 _ _ this ⟨by omega,⟨by omega,by omega⟩,decide_eq_false (by omega),decide_eq_false (by omega),trivial⟩
theorem int_pure {e:Int} (h: -100000000 < e∧e < 100000000):Ev.Pure Tryz.prog J0 19 [.int .i64 e] (.string ⟨⟨intV e⟩⟩):=by
 have hok:BaseOk (bIn 100000000):=by
  refine⟨progOk,tabAdd_ok (fun args v l hs hl=> ?_) (tab0_ok _ _),mtab0_ok _ _,xtN0_ok⟩
  unfold specIn at hs
  split at hs
  ·cases hs
   rename_i e
   obtain⟨h1,h2⟩:=hl.1
   obtain⟨m,rfl⟩:∃ m:Nat,e=(m:Int):=⟨e.toNat,by omega⟩
   rw [intV_nat]
   exact int_small 8 (Nat.le_refl _) m (by omega)
  ·cases hs
 by_cases h0:e < 0
 ·have hw:IntKind.i64.wrap (0-e)=(((-e).toNat:Nat):Int):=by rw [i64w (by omega) (by omega)]; omega
  have:=in_3 100000000 e
  rw [hw,intV_nat] at this
  have e1:intV e=45 ::intN (-e).toNat:=by unfold intV; rw [if_pos h0]
  have hlen:=intN_len (-e).toNat
  rw [e1]
  exact pure_of hok 10 _ _ this ⟨by omega,⟨by omega,by omega⟩,decide_eq_true h0,trivial⟩
 ·obtain⟨m,rfl⟩:∃ m:Nat,e=(m:Int):=⟨e.toNat,by omega⟩
  rw [intV_nat]
  exact int_small 8 (Nat.le_refl _) m (by omega)
def specI8:List Value→Option (Value×List Prop)
 | [.int .i64 e] =>some (.string ⟨⟨intV e⟩⟩,[-100000000 < e∧e < 100000000])
 | _=>none
theorem specI8_ok (args:List Value) (v:Value) (l:List Prop) (h:specI8 args=some (v,l)) (hl:allP l):Ev.Pure Tryz.prog J0 19 args v:=by
 unfold specI8 at h
 split at h
 ·cases h
  exact int_pure hl.1
 ·cases h
noncomputable def tabDg1:Tab:=tabAdd 19 specI8 tab0
theorem tabDg1_ok:PcOk Tryz.prog J0 tabDg1:=tabAdd_ok specI8_ok (tab0_ok _ _)
noncomputable def bDg1:Base:=⟨Tryz.prog,J0,false,tabDg1,mtab0,200,xtN0⟩
theorem bDg1_ok:BaseOk bDg1:=⟨progOk,tabDg1_ok,mtab0_ok _ _,xtN0_ok⟩
noncomputable abbrev XDg1:Cx:=bDg1.cx 10
def xpV (e:Int) (m:Nat):Int:=if e < 0 then -(((-(e+1)).toNat%(m+1):Nat):Int) else ((e.toNat%(m+1):Nat):Int)
def xpM (e m:Int):Int:=IntKind.i64.wrap (0- (IntKind.i64.wrap (0-IntKind.i64.wrap (e+1))).tmod (IntKind.i64.wrap (m+1)))
def xpP (e m:Int):Int:=e.tmod (IntKind.i64.wrap (m+1))
section
variable (e m:Int)
theorem xp_m:pureCall XDg1 [] 200 9 [.int .i64 e, .int .i64 m] [true,true] =some (.string ⟨⟨intV (xpM e m)⟩⟩,[-100000000 < xpM e m∧xpM e m < 100000000,decide (e < 0)=true,IntKind.i64.wrap (m+1)=0→False,decide (e < 0)=true]):=by kernel_rfl
theorem xp_p:pureCall XDg1 [] 200 9 [.int .i64 e, .int .i64 m] [false,false] =some (.string ⟨⟨intV (xpP e m)⟩⟩,[-100000000 < xpP e m∧xpP e m < 100000000,decide (e < 0)=false,IntKind.i64.wrap (m+1)=0→False,decide (e < 0)=false]):=by kernel_rfl
end
theorem expo_pure {e:Int} {m:Nat} (he: -9223372036854775808≤e∧e≤9223372036854775807) (hm:m≤1000):Ev.Pure Tryz.prog J0 9 [.int .i64 e, .int .i64 (m:Int)] (.string ⟨⟨intV (xpV e m)⟩⟩):=by
 have hm1:IntKind.i64.wrap ((m:Int)+1)=((m+1:Nat):Int):=by rw [i64w (by omega) (by omega)]; omega
 have hlt:∀ k:Nat,k%(m+1) < m+1:=fun k=>Nat.mod_lt _ (Nat.succ_pos m)
 by_cases h0:e < 0
 ·have e1:IntKind.i64.wrap (0-IntKind.i64.wrap (e+1))=(((-(e+1)).toNat:Nat):Int):=by
   rw [i64w (n:=e+1) (by omega) (by omega),i64w (by omega) (by omega)]
   omega
  have e2:xpM e m=xpV e m:=by
   unfold xpM xpV
   rw [e1,hm1,if_pos h0,show ((((-(e+1)).toNat:Nat):Int)).tmod ((m+1:Nat):Int)=(((-(e+1)).toNat%(m+1):Nat):Int) from (Int.ofNat_tmod _ _).symm]
   have:=hlt (-(e+1)).toNat
   rw [i64w (by omega) (by omega)]
   omega
  have:=xp_m e m
  rw [e2] at this
  have hr: -100000000 < xpV e m∧xpV e m < 100000000:=by
   unfold xpV
   rw [if_pos h0]
   have:=hlt (-(e+1)).toNat
   omega
  exact pure_of bDg1_ok 10 _ _ this ⟨hr,decide_eq_true h0,by rw [hm1]; intro h; omega,decide_eq_true h0,trivial⟩
 ·have e2:xpP e m=xpV e m:=by
   unfold xpP xpV
   rw [hm1,if_neg h0]
   obtain⟨k,hk⟩:∃ k:Nat,e=(k:Int):=⟨e.toNat,by omega⟩
   rw [hk,Int.toNat_natCast]
   exact (Int.ofNat_tmod _ _).symm
  have:=xp_p e m
  rw [e2] at this
  have hr: -100000000 < xpV e m∧xpV e m < 100000000:=by
   unfold xpV
   rw [if_neg h0]
   have:=hlt e.toNat
   omega
  exact pure_of bDg1_ok 10 _ _ this ⟨hr,decide_eq_false h0,by rw [hm1]; intro h; omega,decide_eq_false h0,trivial⟩
theorem xpV_range (e:Int) (m:Nat): -(m:Int)≤xpV e m∧xpV e m≤(m:Int):=by
 have hlt:∀ k:Nat,k%(m+1) < m+1:=fun k=>Nat.mod_lt _ (Nat.succ_pos m)
 unfold xpV
 split
 ·have:=hlt (-(e+1)).toNat
  omega
 ·have:=hlt e.toNat
  omega
end Go.Proofs.YtdgfhijnconaoaaGreatDoor
namespace Go.Proofs.YtdgfhijnconaoaaGreatDoor
open Go Go.RowKit Ev Wd VaS
noncomputable def tabRo6:Tab:=tabAdd 108 specWorth tabRo5
theorem tabRo6_ok:PcOk Tryz.prog J0 tabRo6:=tabAdd_ok specWorth_ok tabRo5_ok
noncomputable def bRo6:Base:=⟨Tryz.prog,J0,false,tabRo6,mtabRo4,200,xtN0⟩
theorem bRo6_ok:BaseOk bRo6:=⟨progOk,tabRo6_ok,mtabRo4_ok,xtN0_ok⟩
noncomputable abbrev XRo6:Cx:=bRo6.cx 10
noncomputable def cBi:Code:=loopAt Tryz.prog 64 0
noncomputable def tBi (d:List UInt8) (e p l m:Int) (r:Bool) (i:Int):St:=⟨only 98 [(0, .string ⟨⟨d⟩⟩),(1, .int .i64 e),(2, .int .i64 p),(3, .int .i64 l),(8, .float .f64 0),(9, .int .u64 m),(10, .bool r),(18, .string ⟨⟨d⟩⟩),(19, .int .i64 d.length),(20, .int .i64 i)],J0.tabs,11,[],[],0,none,[],11⟩
def bim (d:List UInt8) (m i:Int):Int:=IntKind.u64.wrap ((BitVec.ofInt IntKind.u64.bits (IntKind.u64.wrap (m*2 ^min (Int.toNat 4) IntKind.u64.bits))||| BitVec.ofInt IntKind.u64.bits (IntKind.u64.wrap (worthV (chI d i)))).toNat:Nat)
def bir (d:List UInt8) (r:Bool) (i:Int):Bool:=match r with | true=>true | false=>chI d i !=48
section
variable (d:List UInt8) (e p l m:Int) (r:Bool) (i:Int)
theorem bi_dig (hl:allP [0≤chI d i∧chI d i < 256,0≤i∧i.toNat < d.length,decide (i < 16)=true,decide (i < (d.length:Int))=true]):Step XRo6 cBi (tBi d e p l m r i) .normal (tBi d e p l (bim d m i) r (IntKind.i64.wrap (i+1))):=
 step_of (Base.cx_ok bRo6_ok 10).1 progOk.mixed [] 200 [true,true] [] (by kernel_rfl) hl (by kernel_rfl) (by kernel_rfl)
theorem bi_rest (hl:allP [condP [(1,r)] [(1,false)] →0≤i∧i.toNat < d.length,decide (i < 16)=false,decide (i < (d.length:Int))=true]):Step XRo6 cBi (tBi d e p l m r i) .normal (tBi d (IntKind.i64.wrap (e+4)) p l m (bir d r i) (IntKind.i64.wrap (i+1))):=
 step_of (Base.cx_ok bRo6_ok 10).1 progOk.mixed [] 200 [true,false] [] (by kernel_rfl) hl (by kernel_rfl) (by kernel_rfl)
theorem bi_end (hl:allP [decide (i < (d.length:Int))=false]):Step XRo6 cBi (tBi d e p l m r i) (.exit 0) (tBi d e p l m r i):=
 step_of (Base.cx_ok bRo6_ok 10).1 progOk.mixed [] 200 [false] [] (by kernel_rfl) hl (by kernel_rfl) (by kernel_rfl)
theorem bi_into {x:AX} {s':St} (ds:List Bool) (h:LoopTo XRo6 cBi (tBi d e p l 0 false 0) x s'):LoopTo XRo6 cBi (startAt XRo6 200 64 [.string ⟨⟨d⟩⟩, .int .i64 e, .int .i64 p, .int .i64 l] J0.tabs Tryz.prog.globals.size ds) x s':=
 loop_into' h [] (by kernel_rfl) (by kernel_rfl) (by kernel_rfl)
end
end Go.Proofs.YtdgfhijnconaoaaGreatDoor
namespace Go.Proofs.YtdgfhijnconaoaaGreatDoor
open Go Go.RowKit Ev Wd VaS
def bzN (M:Int):Int:=IntKind.i64.wrap (64-len64 M)
def bzE (E M:Int):Int:=IntKind.i64.wrap (E-bzN M)
def bzU (E M p l:Int):Int:=if IntKind.i64.wrap (IntKind.i64.wrap (bzE E M+64)-p) < l then l else IntKind.i64.wrap (IntKind.i64.wrap (bzE E M+64)-p)
def bzO (E M p l:Int):Int:=IntKind.i64.wrap (bzU E M p l-bzE E M)
def bzM (M:Int):Int:=IntKind.u64.wrap (M*2 ^min (bzN M).toNat IntKind.u64.bits)
def bqQ (E M p l:Int):Int:=(bzM M).fdiv (2 ^min (bzO E M p l).toNat IntKind.u64.bits)
def bqL (E M p l:Int):Int:=IntKind.u64.wrap (bzM M-IntKind.u64.wrap (bqQ E M p l*2 ^min (bzO E M p l).toNat IntKind.u64.bits))
def bqH (E M p l:Int):Int:=IntKind.u64.wrap (1*2 ^min (IntKind.i64.wrap (bzO E M p l-1)).toNat IntKind.u64.bits)
def bUp (left half q:Int) (R:Bool):Bool:=match decide (left > half) with | true=>true | false=>match left==half with | true=>(match R with | true=>true | false=>Int.tmod q 2==1) | false=>false
noncomputable abbrev loB (d:List UInt8) (e p l E M:Int) (R:Bool) (i:Int) (ds:List Bool):Prop:=LoopTo XRo6 cBi (startAt XRo6 200 64 [.string ⟨⟨d⟩⟩, .int .i64 e, .int .i64 p, .int .i64 l] J0.tabs Tryz.prog.globals.size ds) (.exit 0) (tBi d E p l M R i)
noncomputable abbrev biC (d:List UInt8) (e p l E M:Int) (R:Bool) (i:Int) (ds:List Bool):=pureCall XRo6 [told (.exit 0) (fun _=>tBi d E p l M R i)] 200 64 [.string ⟨⟨d⟩⟩, .int .i64 e, .int .i64 p, .int .i64 l] ds
section
variable (d:List UInt8) (e p l E M:Int) (R:Bool) (i:Int)
theorem bi_out:biC d e p l E M R i [true] =some (.float .f64 0,[decide (64 < bzO E M p l)=true,0≤bzN M,0≤M∧M < 18446744073709551616,loB d e p l E M R i [true]]):=by kernel_rfl
theorem bi_fdn:biC d e p l E M R i [false,false,false] =some (.float .f64 (ldW 0 (bzU E M p l)),[ldOk 0 (bzU E M p l),bUp (bzM M) 9223372036854775808 0 R=false,decide (bzO E M p l < 64)=false,decide (64 < bzO E M p l)=false,0≤bzN M,0≤M∧M < 18446744073709551616,loB d e p l E M R i [false,false,false]]):=by kernel_rfl
theorem bi_fup:biC d e p l E M R i [false,false,true] =some (.float .f64 (ldW (FloatKind.f64.nearest 1) (bzU E M p l)),[ldOk (FloatKind.f64.nearest 1) (bzU E M p l),bUp (bzM M) 9223372036854775808 0 R=true,decide (bzO E M p l < 64)=false,decide (64 < bzO E M p l)=false,0≤bzN M,0≤M∧M < 18446744073709551616,loB d e p l E M R i [false,false,true]]):=by kernel_rfl
theorem bi_dn:biC d e p l E M R i [false,true,false] =some (.float .f64 (ldW (FloatKind.f64.nearest (bqQ E M p l)) (bzU E M p l)),[ldOk (FloatKind.f64.nearest (bqQ E M p l)) (bzU E M p l),bUp (bqL E M p l) (bqH E M p l) (bqQ E M p l) R=false,0≤IntKind.i64.wrap (bzO E M p l-1),0≤bzO E M p l,0≤bzO E M p l,decide (bzO E M p l < 64)=true,decide (64 < bzO E M p l)=false,0≤bzN M,0≤M∧M < 18446744073709551616,loB d e p l E M R i [false,true,false]]):=by kernel_rfl
theorem bi_up:biC d e p l E M R i [false,true,true] =some (.float .f64 (ldW (FloatKind.f64.nearest (IntKind.u64.wrap (bqQ E M p l+1))) (bzU E M p l)),[ldOk (FloatKind.f64.nearest (IntKind.u64.wrap (bqQ E M p l+1))) (bzU E M p l),bUp (bqL E M p l) (bqH E M p l) (bqQ E M p l) R=true,0≤IntKind.i64.wrap (bzO E M p l-1),0≤bzO E M p l,0≤bzO E M p l,decide (bzO E M p l < 64)=true,decide (64 < bzO E M p l)=false,0≤bzN M,0≤M∧M < 18446744073709551616,loB d e p l E M R i [false,true,true]]):=by kernel_rfl
end
end Go.Proofs.YtdgfhijnconaoaaGreatDoor
namespace Go.Proofs.YtdgfhijnconaoaaGreatDoor
open Go Go.RowKit Ev Wd VaS
def hxd (c:UInt8):Nat:=(worthV (c.toNat:Int)).toNat
def hxN (l:List UInt8):Nat:=l.foldl (fun m c=>16*m+hxd c) 0
def HexD (l:List UInt8):Prop:=∀ c∈l,worthV (c.toNat:Int) < 16
theorem hxd_eq {c:UInt8} :((hxd c:Nat):Int)=worthV (c.toNat:Int):=by
 unfold hxd
 have:=worth_range (c:=(c.toNat:Int))
 omega
theorem hxN_snoc (l:List UInt8) (c:UInt8):hxN (l++[c])=16*hxN l+hxd c:=by
 unfold hxN
 rw [List.foldl_append]
 rfl
theorem hxN_lt {l:List UInt8} (h:HexD l):∀ k,k≤l.length→hxN (l.take k) < 16 ^k:=by
 intro k
 induction k with
 | zero=>intro _; rw [List.take_zero]; exact Nat.one_pos
 | succ k ih=>
  intro hk
  have h1:=ih (by omega)
  rw [List.take_succ_eq_append_getElem (by omega),hxN_snoc,Nat.pow_succ]
  have h2:=h _ (List.getElem_mem (show k < l.length by omega))
  have h3:=hxd_eq (c:=l[k])
  omega
theorem or16 {m w:Nat} (hw:w < 16):m*16||| w=m*16+w:=by
 have:=Nat.shiftLeft_add_eq_or_of_lt (i:=4) (show w < 2 ^4 from hw) m
 rw [Nat.shiftLeft_eq] at this
 exact this.symm
theorem m16_lt {m:Nat} (hm:m < 1152921504606846976):m*16 < 18446744073709551616:=by omega
theorem m16_lt2 {m w:Nat} (hm:m < 1152921504606846976) (hw:w < 16):m*16+w < 18446744073709551616:=by omega
theorem bim_eq {d:List UInt8} {m w:Nat} {i:Int} (hm:m < 1152921504606846976) (hw:w < 16) (h:worthV (chI d i)=(w:Int)):bim d (m:Int) i=((16*m+w:Nat):Int):=by
 unfold bim
 rw [h]
 have h3:(m:Int)*2 ^min (Int.toNat 4) IntKind.u64.bits=((m*16:Nat):Int):=by
  rw [Int.natCast_mul]
  rfl
 have hw2:w < 18446744073709551616:=Nat.lt_trans hw (by decide)
 rw [h3,u64l (m16_lt hm),u64l hw2,BitVec.toNat_or,bv64 (m16_lt hm),bv64 hw2,or16 hw,u64l (m16_lt2 hm hw),Nat.mul_comm]
noncomputable def biS (d:List UInt8) (e p l:Int) (i:Nat):St:=tBi d (e+((4*(i-16):Nat):Int)) p l ((hxN (d.take (min i 16)):Nat):Int) (((d.take i).drop 16).any fun c=>c !=48) (i:Int)
theorem chI_get {d:List UInt8} {i:Nat} (hi:i < d.length):chI d (i:Int)=((d[i].toNat:Nat):Int):=by
 show ((d.getD ((i:Int)).toNat 0).toNat:Int)=_
 rw [Int.toNat_natCast,List.getD_eq_getElem?_getD,List.getElem?_eq_getElem hi]
 rfl
theorem ne48 (c:UInt8):(((c.toNat:Nat):Int) !=48)=(c !=48):=by
 rw [Bool.eq_iff_iff,bne_iff_ne,bne_iff_ne]
 constructor
 ·intro h e; exact h (by rw [e]; rfl)
 ·intro h e; exact h (UInt8.toNat_inj.1 (show c.toNat=48 by omega))
theorem bi_round {d:List UInt8} {e p l:Int} (hd:HexD d) (hl:d.length≤140737488351232) (he: -1000000000000000000≤e∧e≤1000000000000000000) {i:Nat} (hi:i < d.length):Step XRo6 cBi (biS d e p l i) .normal (biS d e p l (i+1)):=by
 have hc:=chI_get hi
 have hlt:d[i].toNat < 256:=d[i].toNat_lt
 have hi1:IntKind.i64.wrap ((i:Int)+1)=((i+1:Nat):Int):=by rw [wr (by omega) (by omega)]; omega
 have hin:(0:Int)≤(i:Int)∧((i:Int)).toNat < d.length:=⟨Int.natCast_nonneg _,by rw [Int.toNat_natCast]; exact hi⟩
 have hlen:decide ((i:Int) < (d.length:Int))=true:=decide_eq_true (Int.ofNat_lt.2 hi)
 by_cases h16:i < 16
 ·have:=bi_dig d (e+((4*(i-16):Nat):Int)) p l ((hxN (d.take (min i 16)):Nat):Int) (((d.take i).drop 16).any fun c=>c !=48) (i:Int) ⟨by rw [hc]; omega,hin,decide_eq_true (by omega),hlen,trivial⟩
  have hw:=hd _ (List.getElem_mem hi)
  have h3:=hxd_eq (c:=d[i])
  have hm:hxN (d.take i) < 1152921504606846976:=Nat.lt_of_lt_of_le (hxN_lt hd i (by omega)) (by
   have:16 ^i≤16 ^15:=Nat.pow_le_pow_right (by decide) (by omega)
   exact this)
  rw [Nat.min_eq_left (by omega),bim_eq (w:=hxd d[i]) hm (by omega) (by rw [hc]; exact h3.symm),hi1] at this
  unfold biS
  rw [Nat.min_eq_left (by omega),Nat.min_eq_left (by omega),List.take_succ_eq_append_getElem hi,hxN_snoc]
  have e1:i+1-16=i-16:=by omega
  have e2:(d.take i++[d[i]]).drop 16=(d.take i).drop 16:=by
   rw [List.drop_eq_nil_of_le (by rw [List.length_append,List.length_take,List.length_singleton]; omega),List.drop_eq_nil_of_le (by rw [List.length_take]; omega)]
  rw [e1,e2]
  exact this
 ·have:=bi_rest d (e+((4*(i-16):Nat):Int)) p l ((hxN (d.take (min i 16)):Nat):Int) (((d.take i).drop 16).any fun c=>c !=48) (i:Int) ⟨fun _=>hin,decide_eq_false (by omega),hlen,trivial⟩
  have hr:bir d (((d.take i).drop 16).any fun c=>c !=48) (i:Int)=(((d.take i).drop 16).any (fun c=>c !=48) || d[i] !=48):=by
   unfold bir
   rw [hc,ne48]
   cases ((d.take i).drop 16).any (fun c=>c !=48) <;> rfl
  have hE:IntKind.i64.wrap (e+((4*(i-16):Nat):Int)+4)=e+((4*(i+1-16):Nat):Int):=by
   rw [wr (by omega) (by omega)]
   omega
  rw [hi1,hr,hE,Nat.min_eq_right (by omega)] at this
  unfold biS
  rw [Nat.min_eq_right (by omega),Nat.min_eq_right (by omega),List.take_succ_eq_append_getElem hi,List.drop_append_of_le_length (by rw [List.length_take]; omega),List.any_append]
  rw [show [d[i]].any (fun c=>c !=48)=(d[i] !=48) by simp]
  exact this
theorem bi_loop {d:List UInt8} {e p l:Int} (hd:HexD d) (hl:d.length≤140737488351232) (he: -1000000000000000000≤e∧e≤1000000000000000000) (ds:List Bool):
  loB d e p l (e+((4*(d.length-16):Nat):Int)) ((hxN (d.take 16):Nat):Int) ((d.drop 16).any fun c=>c !=48) (d.length:Int) ds:=by
 have h:=loop_run (biS d e p l) d.length (x:= .exit 0) (by intro e; cases e) (fun i hi=>bi_round hd hl he hi) (bi_end d _ p l _ _ (d.length:Int) ⟨decide_eq_false (Int.lt_irrefl _),trivial⟩)
 have e0:biS d e p l 0=tBi d e p l 0 false 0:=by
  unfold biS
  show tBi d (e+((0:Nat):Int)) p l ((0:Nat):Int) false ((0:Nat):Int)=_
  rw [show e+((0:Nat):Int)=e by omega]
  rfl
 rw [e0,List.take_length] at h
 have e1:d.take (min d.length 16)=d.take 16:=by
  rw [Nat.min_comm,← List.take_take,List.take_length]
 rw [e1] at h
 exact bi_into d e p l ds h
end Go.Proofs.YtdgfhijnconaoaaGreatDoor
namespace Go.Proofs.YtdgfhijnconaoaaGreatDoor
open Go Go.RowKit Ev Wd VaS
def biX (M:Nat):Nat:=M*2 ^(64-bl M)
def biE (M:Nat) (E:Int):Int:=E- ((64-bl M:Nat):Int)
def biU (M:Nat) (E p l:Int):Int:=if biE M E+64-p < l then l else biE M E+64-p
def biO (M:Nat) (E p l:Int):Int:=biU M E p l-biE M E
def upT (X o:Nat) (R:Bool):Bool:=decide (2 ^(o-1) < X%2 ^o) || (decide (X%2 ^o=2 ^(o-1)) && (R || decide (X/2 ^o%2=1)))
def biQ (X o:Nat) (R:Bool):Nat:=if upT X o R=true then X/2 ^o+1 else X/2 ^o
def biW (M:Nat) (R:Bool) (E p l:Int):Nat:=if 64 < biO M E p l then 0 else ldW (f64N (biQ (biX M) (biO M E p l).toNat R)) (biU M E p l)
theorem biX_range {M:Nat} (h0:0 < M) (h:M < 18446744073709551616):9223372036854775808≤biX M∧biX M < 18446744073709551616∧1≤bl M∧bl M≤64:=by
 have h1:0 < bl M:=bl_ge.2 (by show 1≤M; exact h0)
 have h2:bl M≤64:=bl_le.2 (by show M < 18446744073709551616; exact h)
 have h3:=lt_bl M
 have h4:2 ^(bl M-1)≤M:=bl_ge.1 (by omega)
 refine⟨?_,?_,h1,h2⟩
 ·have:2 ^(bl M-1)*2 ^(64-bl M)≤M*2 ^(64-bl M):=Nat.mul_le_mul_right _ h4
  rw [← Nat.pow_add,show bl M-1+(64-bl M)=63 by omega] at this
  exact this
 ·have:M*2 ^(64-bl M) < 2 ^bl M*2 ^(64-bl M):=Nat.mul_lt_mul_of_pos_right h3 (Nat.pow_pos (by decide))
  rw [← Nat.pow_add,show bl M+(64-bl M)=64 by omega] at this
  exact this
theorem biQ_le {X o p:Nat} {R:Bool} (hX:X < 18446744073709551616) (ho:64≤o+p) (_:o≤64) (hp:p≤53):biQ X o R≤9007199254740992:=by
 have h1:X/2 ^o < 2 ^p:=by
  rw [Nat.div_lt_iff_lt_mul (Nat.pow_pos (by decide)),← Nat.pow_add]
  refine Nat.lt_of_lt_of_le (show X < 2 ^64 from hX) (Nat.pow_le_pow_right (by decide) (by omega))
 have h2:2 ^p≤2 ^53:=Nat.pow_le_pow_right (by decide) hp
 have h3:(2:Nat) ^53=9007199254740992:=by decide
 unfold biQ
 split <;> omega
theorem bzN_eq {M:Nat} (h:bl M≤64):bzN (M:Int)=((64-bl M:Nat):Int):=by
 unfold bzN len64
 rw [Int.toNat_natCast,i64w (by omega) (by omega)]
 omega
theorem bzM_eq {M:Nat} (h0:0 < M) (h:M < 18446744073709551616):bzM (M:Int)=((biX M:Nat):Int):=by
 obtain⟨h1,h2,h3,h4⟩:=biX_range h0 h
 unfold bzM
 rw [bzN_eq h4,Int.toNat_natCast,show min (64-bl M) IntKind.u64.bits=64-bl M from Nat.min_eq_left (show 64-bl M≤64 by omega)]
 have e:(M:Int)*2 ^(64-bl M)=((biX M:Nat):Int):=by
  unfold biX
  rw [Int.natCast_mul,Int.natCast_pow]
  rfl
 rw [e]
 exact u64l h2
section
variable {M:Nat} {E p l:Int}
theorem bzU_eq (h0:0 < M) (h:M < 18446744073709551616) (hE: -1000000000000000000≤E∧E≤1000000000000000000) (hp:0≤p∧p≤53) (hl: -1074≤l∧l≤0):bzE E (M:Int)=biE M E∧bzU E (M:Int) p l=biU M E p l∧bzO E (M:Int) p l=biO M E p l:=by
 obtain⟨h1,h2,h3,h4⟩:=biX_range h0 h
 have e1:bzE E (M:Int)=biE M E:=by
  unfold bzE biE
  rw [bzN_eq h4,i64w (by omega) (by omega)]
 have hb: -1000000000000000064≤biE M E∧biE M E≤1000000000000000000:=by unfold biE; omega
 have e2:bzU E (M:Int) p l=biU M E p l:=by
  unfold bzU biU
  rw [e1,i64w (n:=biE M E+64) (by omega) (by omega),i64w (n:=biE M E+64-p) (by omega) (by omega)]
 refine⟨e1,e2,?_⟩
 unfold bzO biO
 rw [e1,e2]
 have hu: -1074≤biU M E p l∧biU M E p l≤1000000000000000064:=by
  unfold biU
  split <;> omega
 exact i64w (by omega) (by omega)
end
end Go.Proofs.YtdgfhijnconaoaaGreatDoor
namespace Go.Proofs.YtdgfhijnconaoaaGreatDoor
open Go Go.RowKit Ev Wd VaS
theorem bUp_nat (a b q:Nat) (R:Bool):bUp (a:Int) (b:Int) (q:Int) R=(decide (b < a) || (decide (a=b) && (R || decide (q%2=1)))):=by
 have e1:decide ((a:Int) > (b:Int))=decide (b < a):=by
  by_cases h:b < a
  ·rw [decide_eq_true h]; exact decide_eq_true (by omega)
  ·rw [decide_eq_false h]; exact decide_eq_false (by omega)
 have e2:((a:Int)==(b:Int))=decide (a=b):=by
  by_cases h:a=b
  ·rw [decide_eq_true h,h]; exact beq_self_eq_true _
  ·rw [decide_eq_false h]; exact beq_false_of_ne (by omega)
 have e3:(Int.tmod (q:Int) 2==1)=decide (q%2=1):=by
  have:Int.tmod (q:Int) 2=((q%2:Nat):Int):=rfl
  rw [this]
  by_cases h:q%2=1
  ·rw [decide_eq_true h,h]; rfl
  ·rw [decide_eq_false h]; exact beq_false_of_ne (by omega)
 unfold bUp
 rw [e1,e2,e3]
 cases decide (b < a) <;> cases decide (a=b) <;> cases R <;> rfl
theorem two63:((2:Nat) ^63)=9223372036854775808:=by decide
theorem two64:((2:Nat) ^64)=18446744073709551616:=by decide
theorem up_full {X:Nat} (hX:X < 18446744073709551616) (R:Bool):bUp (X:Int) 9223372036854775808 0 R=upT X 64 R:=by
 have h:=bUp_nat X 9223372036854775808 0 R
 unfold upT
 rw [show 64-1=63 from rfl,two63,two64,Nat.mod_eq_of_lt hX,Nat.div_eq_of_lt hX]
 exact h
theorem pow_u64 {o:Nat} (h:o≤63):(2:Nat) ^o < 18446744073709551616:=by
 have h1:2 ^o≤2 ^63:=Nat.pow_le_pow_right (by decide) h
 rw [two63] at h1
 exact Nat.lt_of_le_of_lt h1 (by decide)
theorem in_parts {M:Nat} {E p l:Int} {o:Nat} (h0:0 < M) (h:M < 18446744073709551616) (ho:bzO E (M:Int) p l=(o:Int)) (h1:1≤o) (h2:o≤63):
  bqQ E (M:Int) p l=((biX M/2 ^o:Nat):Int)∧bqL E (M:Int) p l=((biX M%2 ^o:Nat):Int)∧bqH E (M:Int) p l=((2 ^(o-1):Nat):Int):=by
 obtain⟨r1,r2,r3,r4⟩:=biX_range h0 h
 have hmin:min o IntKind.u64.bits=o:=Nat.min_eq_left (show o≤64 by omega)
 have e1:bqQ E (M:Int) p l=((biX M/2 ^o:Nat):Int):=by
  unfold bqQ
  rw [bzM_eq h0 h,ho,Int.toNat_natCast,hmin]
  have:=(Int.ofNat_fdiv (biX M) (2 ^o)).symm
  rw [Int.natCast_pow] at this
  exact this
 refine⟨e1,?_,?_⟩
 ·unfold bqL
  rw [e1,bzM_eq h0 h,ho,Int.toNat_natCast,hmin]
  have h3:((biX M/2 ^o:Nat):Int)*2 ^o=((biX M/2 ^o*2 ^o:Nat):Int):=by
   rw [Int.natCast_mul,Int.natCast_pow]
   rfl
  have h4:biX M/2 ^o*2 ^o≤biX M:=Nat.div_mul_le_self _ _
  have h5:biX M/2 ^o*2 ^o+biX M%2 ^o=biX M:=Nat.div_add_mod' _ _
  generalize biX M/2 ^o*2 ^o=a at*
  generalize biX M%2 ^o=b at*
  rw [h3,u64l (by omega)]
  have h6:((biX M:Nat):Int)- (a:Int)=(b:Int):=by omega
  rw [h6]
  exact u64l (by omega)
 ·unfold bqH
  rw [ho,i64w (by omega) (by omega)]
  have h3:((o:Int)-1).toNat=o-1:=by omega
  rw [h3,show min (o-1) IntKind.u64.bits=o-1 from Nat.min_eq_left (show o-1≤64 by omega),Int.one_mul]
  have:=u64l (pow_u64 (o:=o-1) (by omega))
  rw [Int.natCast_pow] at this ⊢
  exact this
theorem hxN_pos {c:UInt8} {r:List UInt8} (h:0 < hxd c):0 < hxN (c ::r):=by
 have key:∀ (l:List UInt8) (a:Nat),0 < a→0 < l.foldl (fun m c=>16*m+hxd c) a:=by
  intro l
  induction l with
  | nil=>intro a ha; exact ha
  | cons b q ih=>intro a ha; exact ih _ (show 0 < 16*a+hxd b by omega)
 exact key r _ (show 0 < 16*0+hxd c by omega)
theorem binary_pure {d:List UInt8} {e p l:Int} (hd:HexD d) (hl:d.length≤140737488351232) (he: -100000000000000000≤e∧e≤100000000000000000) (hp:1≤p∧p≤53) (hlo: -1074≤l∧l≤0) (h0:0 < hxN (d.take 16)):
  Ev.Pure Tryz.prog J0 64 [.string ⟨⟨d⟩⟩, .int .i64 e, .int .i64 p, .int .i64 l] (.float .f64 (biW (hxN (d.take 16)) ((d.drop 16).any fun c=>c !=48) (e+((4*(d.length-16):Nat):Int)) p l)):=by
 have hM:hxN (d.take 16) < 18446744073709551616:=by
  by_cases h:16≤d.length
  ·exact hxN_lt hd 16 h
  ·have h1:=hxN_lt hd d.length (Nat.le_refl _)
   rw [List.take_of_length_le (by omega)]
   rw [List.take_length] at h1
   have:16 ^d.length≤16 ^16:=Nat.pow_le_pow_right (by decide) (by omega)
   exact Nat.lt_of_lt_of_le h1 this
 have hloop:=bi_loop (p:=p) (l:=l) hd hl (e:=e) ⟨by omega,by omega⟩
 obtain⟨E,hE⟩:∃ E,E=e+((4*(d.length-16):Nat):Int):=⟨_,rfl⟩
 have hEb: -1000000000000000000≤E∧E≤999999999999999000:=by omega
 rw [← hE] at hloop ⊢
 generalize hxN (d.take 16)=M at*
 generalize (d.drop 16).any (fun c=>c !=48)=R at*
 obtain⟨r1,r2,r3,r4⟩:=biX_range h0 hM
 obtain⟨b1,b2,b3⟩:=bzU_eq (p:=p) (l:=l) h0 hM (E:=E) ⟨hEb.1,by omega⟩ ⟨by omega,hp.2⟩ hlo
 have hz:(0:Int)≤bzN (M:Int):=by rw [bzN_eq r4]; exact Int.natCast_nonneg _
 have hm:(0:Int)≤(M:Int)∧(M:Int) < 18446744073709551616:=⟨Int.natCast_nonneg _,by omega⟩
 have hU: -1074≤biU M E p l∧biU M E p l≤1000000000000000000:=by
  unfold biU biE
  split <;> omega
 have hO:64-p≤biO M E p l:=by
  unfold biO biU
  split <;> omega
 by_cases c1:64 < biO M E p l
 ·have hW:biW M R E p l=0:=if_pos c1
  rw [hW]
  exact pure_of bRo6_ok 10 _ _ (bi_out d e p l E M R d.length) ⟨by rw [b3]; exact decide_eq_true c1,hz,hm,hloop _,trivial⟩
 have hW:biW M R E p l=ldW (f64N (biQ (biX M) (biO M E p l).toNat R)) (biU M E p l):=if_neg c1
 rw [hW]
 obtain⟨o,ho⟩:=Int.eq_ofNat_of_zero_le (show 0≤biO M E p l by omega)
 have ho2:bzO E (M:Int) p l=(o:Int):=by rw [b3]; exact ho
 have k1:decide (64 < bzO E (M:Int) p l)=false:=by rw [b3]; exact decide_eq_false c1
 have hQ:biQ (biX M) o R≤9007199254740992:=biQ_le (p:=p.toNat) r2 (by omega) (by omega) (by omega)
 rw [ho,Int.toNat_natCast]
 have hok:ldOk (f64N (biQ (biX M) o R)) (biU M E p l):=ldOk_of hQ (.inr hU)
 by_cases c2:o=64
 ·subst c2
  have k2:decide (bzO E (M:Int) p l < 64)=false:=by rw [ho2]; exact decide_eq_false (by omega)
  have hq0:biX M/2 ^64=0:=Nat.div_eq_of_lt (by rw [two64]; exact r2)
  cases hup:upT (biX M) 64 R with
  | false=>
   have hq:biQ (biX M) 64 R=0:=by unfold biQ; rw [hup,if_neg (by decide)]; exact hq0
   rw [hq,f64N_zero] at hok ⊢
   rw [← b2] at hok ⊢
   exact pure_of bRo6_ok 10 _ _ (bi_fdn d e p l E M R d.length) ⟨hok,by rw [bzM_eq h0 hM,up_full r2]; exact hup,k2,k1,hz,hm,hloop _,trivial⟩
  | true=>
   have hq:biQ (biX M) 64 R=1:=by unfold biQ; rw [hup,if_pos rfl,hq0]
   have hn:FloatKind.f64.nearest 1=f64N 1:=f64_nat 1
   rw [hq,← hn] at hok ⊢
   rw [← b2] at hok ⊢
   exact pure_of bRo6_ok 10 _ _ (bi_fup d e p l E M R d.length) ⟨hok,by rw [bzM_eq h0 hM,up_full r2]; exact hup,k2,k1,hz,hm,hloop _,trivial⟩
 ·have k2:decide (bzO E (M:Int) p l < 64)=true:=by rw [ho2]; exact decide_eq_true (by omega)
  have k3:0≤bzO E (M:Int) p l:=by rw [ho2]; exact Int.natCast_nonneg _
  have k4:0≤IntKind.i64.wrap (bzO E (M:Int) p l-1):=by rw [ho2,i64w (by omega) (by omega)]; omega
  obtain⟨p1,p2,p3⟩:=in_parts h0 hM ho2 (by omega) (by omega)
  have hU2:bUp (bqL E (M:Int) p l) (bqH E (M:Int) p l) (bqQ E (M:Int) p l) R=upT (biX M) o R:=by
   rw [p1,p2,p3]
   exact bUp_nat _ _ _ _
  cases hup:upT (biX M) o R with
  | false=>
   have hq:biQ (biX M) o R=biX M/2 ^o:=by unfold biQ; rw [hup,if_neg (by decide)]
   have hn:FloatKind.f64.nearest (bqQ E (M:Int) p l)=f64N (biQ (biX M) o R):=by rw [hq,p1]; exact f64_nat _
   rw [← hn,← b2] at hok ⊢
   exact pure_of bRo6_ok 10 _ _ (bi_dn d e p l E M R d.length) ⟨hok,by rw [hU2]; exact hup,k4,k3,k3,k2,k1,hz,hm,hloop _,trivial⟩
  | true=>
   have hq:biQ (biX M) o R=biX M/2 ^o+1:=by unfold biQ; rw [hup,if_pos rfl]
   have hb:biX M/2 ^o+1 < 18446744073709551616:=by
    rw [hq] at hQ
    exact Nat.lt_of_le_of_lt hQ (by decide)
   have hw:IntKind.u64.wrap (bqQ E (M:Int) p l+1)=((biX M/2 ^o+1:Nat):Int):=by
    rw [p1]
    exact u64l hb
   have hn:FloatKind.f64.nearest (IntKind.u64.wrap (bqQ E (M:Int) p l+1))=f64N (biQ (biX M) o R):=by rw [hq,hw]; exact f64_nat _
   rw [← hn,← b2] at hok ⊢
   exact pure_of bRo6_ok 10 _ _ (bi_up d e p l E M R d.length) ⟨hok,by rw [hU2]; exact hup,k4,k3,k3,k2,k1,hz,hm,hloop _,trivial⟩
end Go.Proofs.YtdgfhijnconaoaaGreatDoor
namespace Go.Proofs.YtdgfhijnconaoaaGreatDoor
open Go Go.RowKit Ev Wd VaS
def hxW (d:List UInt8) (e p l:Int):Nat:=biW (hxN (d.take 16)) ((d.drop 16).any fun c=>c !=48) (e+((4*(d.length-16):Nat):Int)) p l
def hxOk (d:List UInt8) (e p l:Int):Prop:=HexD d∧d.length≤140737488351232∧(-100000000000000000≤e∧e≤100000000000000000)∧(1≤p∧p≤53)∧(-1074≤l∧l≤0)∧0 < hxN (d.take 16)
def specBin:List Value→Option (Value×List Prop)
 | [.string ⟨⟨d⟩⟩, .int .i64 e, .int .i64 p, .int .i64 l] =>some (.float .f64 (hxW d e p l),[hxOk d e p l])
 | _=>none
theorem specBin_ok (args:List Value) (v:Value) (l:List Prop) (h:specBin args=some (v,l)) (hl:allP l):Ev.Pure Tryz.prog J0 64 args v:=by
 unfold specBin at h
 split at h
 ·cases h
  obtain⟨⟨h1,h2,h3,h4,h5,h6⟩,_⟩:=hl
  exact binary_pure h1 h2 h3 h4 h5 h6
 ·cases h
noncomputable def tabRo7:Tab:=tabAdd 64 specBin tabRo6
theorem tabRo7_ok:PcOk Tryz.prog J0 tabRo7:=tabAdd_ok specBin_ok tabRo6_ok
noncomputable def bRo7:Base:=⟨Tryz.prog,J0,false,tabRo7,mtabRo4,200,xtN0⟩
theorem bRo7_ok:BaseOk bRo7:=⟨progOk,tabRo7_ok,mtabRo4_ok,xtN0_ok⟩
noncomputable abbrev XRo7:Cx:=bRo7.cx 10
section
variable (hx:Bool) (d:List UInt8) (e n p l:Int) (f:FuncId) (r:Nat) (z:Int)
abbrev neAf (f:FuncId) (hx:Bool) (d:List UInt8) (e n p l:Int):List Arg:=[.c (.v (pcV hx d e n)),iR p,iR l, .c (.v (.func (.func f) ⟨[]⟩ ⟨[]⟩))]
theorem ne_h1:semR XRo7 [] 200 31 (neAf f hx d e n p l) [xR r,iR z] [true] =some [(trimL d==([] :List UInt8))=true,(48:UInt8)=48,Value.float .f64 0=Value.float .f64 r,Value.int .i64 0=Value.int .i64 z] :=by kernel_rfl
theorem ne_hx:semR XRo7 [] 200 31 (neAf f hx d e n p l) [xR r,iR z] [false,true] =some [hxOk (trimL d) e p l,hx=true,(trimL d==([] :List UInt8))=false,(48:UInt8)=48,Value.float .f64 (hxW (trimL d) e p l)=Value.float .f64 r,Value.int .i64 0=Value.int .i64 z] :=by kernel_rfl
end
theorem near_hex {f:FuncId} {d:List UInt8} {e n p l:Int} (hd:HexD d) (hl:d.length≤140737488351232) (he: -100000000000000000≤e∧e≤100000000000000000) (hp:1≤p∧p≤53) (hlo: -1074≤l∧l≤0):
  Ev.Sem Tryz.prog J0 31 (neAf f true d e n p l) [xR (if trimL d=[] then 0 else hxW (trimL d) e p l),iR 0] :=by
 by_cases h0:trimL d=[]
 ·rw [if_pos h0]
  refine sem_of bRo7_ok 10 _ _ (ne_h1 true d e n p l f _ _) ?_
  rw [h0]
  exact⟨rfl,rfl,rfl,rfl,trivial⟩
 ·rw [if_neg h0]
  have hT:HexD (trimL d):=fun c hc=>hd c (trimL_mem hc)
  have hle:=trimL_len d
  have hpos:0 < hxN ((trimL d).take 16):=by
   cases hu:trimL d with
   | nil=>exact absurd hu h0
   | cons c r=>
    have hc:=trimL_head hu
    have hw:=hT c (by rw [hu]; exact List.mem_cons_self)
    have hc2:0 < hxd c:=by
     have h48:c.toNat≠48:=fun h=>hc (UInt8.toNat_inj.1 h)
     unfold hxd
     unfold worthV at hw ⊢
     split
     ·omega
     ·rename_i h1
      rw [if_neg h1] at hw
      split
      ·omega
      ·rename_i h2
       rw [if_neg h2] at hw
       split
       ·omega
       ·rename_i h3
        rw [if_neg h3] at hw
        omega
    exact hxN_pos hc2
  refine sem_of bRo7_ok 10 _ _ (ne_hx true d e n p l f _ _) ?_
  exact⟨⟨hT,by omega,he,hp,hlo,hpos⟩,rfl,beq_false_of_ne h0,rfl,rfl,rfl,trivial⟩
end Go.Proofs.YtdgfhijnconaoaaGreatDoor
namespace Go.Proofs.YtdgfhijnconaoaaGreatDoor
open Go Go.RowKit Ev Wd VaS
noncomputable def tabRp1:Tab:=tabAdd 46 specBare (tabAdd 61 specSplit tabRo7)
theorem tabRp1_ok:PcOk Tryz.prog J0 tabRp1:=tabAdd_ok specBare_ok (tabAdd_ok specSplit_ok tabRo7_ok)
noncomputable def bRp1:Base:=⟨Tryz.prog,J0,false,tabRp1,mtabRo4,200,xtN0⟩
theorem bRp1_ok:BaseOk bRp1:=⟨progOk,tabRp1_ok,mtabRo4_ok,xtN0_ok⟩
noncomputable abbrev XRp1:Cx:=bRp1.cx 10
end Go.Proofs.YtdgfhijnconaoaaGreatDoor
namespace Go.Proofs.YtdgfhijnconaoaaGreatDoor
open Go Go.RowKit Ev Wd VaS
def rdNo (t:List UInt8):Bool:=match ((bareN (restT t):Nat):Int)==0 with | true=>true | false=>((bareN (restT t):Nat):Int) !=(((restT t).length:Nat):Int)
def rdF (t:List UInt8):Bool:=t==([78,97,78] :List UInt8)
def rdG (t:List UInt8):Bool:=restT t==([73,110,102] :List UInt8)
def rdL (t:List UInt8):Bool:=decide (Int.ofNat 8192 < Int.ofNat t.length)
abbrev rdR (n:Bool) (p:Value) (x:Nat) (i:Bool) (e:Int):Value:= .tuple ⟨[.bool n,p, .float .f64 x, .bool i, .int .i64 e]⟩
section
variable (t:List UInt8)
theorem rd_long:pureCall XRp1 [] 200 30 [.string ⟨⟨t⟩⟩] [true] =some (rdR false (pcV false [] 0 0) 0 false 2,[rdL t=true]):=by kernel_rfl
theorem rd_nan:pureCall XRp1 [] 200 30 [.string ⟨⟨t⟩⟩] [false,true] =some (rdR false (pcV false [] 0 0) 9221120237041090560 true 0,[rdF t=true,rdL t=false]):=by kernel_rfl
theorem rd_inf:pureCall XRp1 [] 200 30 [.string ⟨⟨t⟩⟩] [false,false,true,false] =some (rdR (negT t) (pcV false [] 0 0) 9218868437227405312 true 0,[negT t=false,rdG t=true,rdF t=false,rdL t=false]):=by kernel_rfl
theorem rd_minf:pureCall XRp1 [] 200 30 [.string ⟨⟨t⟩⟩] [false,false,true,true] =some (rdR (negT t) (pcV false [] 0 0) 18442240474082181120 true 0,[negT t=true,rdG t=true,rdF t=false,rdL t=false]):=by kernel_rfl
theorem rd_no:pureCall XRp1 [] 200 30 [.string ⟨⟨t⟩⟩] [false,false,false,true] =some (rdR false (pcV (bareH (restT t)) (bareS (restT t)) (bareX (restT t)) (bareN (restT t))) 0 false 3,[rdNo t=true,(restT t).length≤140737488351232,rdG t=false,rdF t=false,rdL t=false]):=by kernel_rfl
theorem rd_yes:pureCall XRp1 [] 200 30 [.string ⟨⟨t⟩⟩] [false,false,false,false] =some (rdR (negT t) (pcV (bareH (restT t)) (bareS (restT t)) (bareX (restT t)) (bareN (restT t))) 0 false 0,[rdNo t=false,(restT t).length≤140737488351232,rdG t=false,rdF t=false,rdL t=false]):=by kernel_rfl
end
def rdP (t:List UInt8):Bool:= !rdL t && !rdF t && !rdG t
def rdOk (t:List UInt8):Bool:=rdP t && !rdNo t
def rdN (t:List UInt8):Bool:=if rdOk t || (!rdL t && !rdF t && rdG t) then negT t else false
def rdPh (t:List UInt8):Bool:=if rdP t then bareH (restT t) else false
def rdPs (t:List UInt8):List UInt8:=if rdP t then bareS (restT t) else []
def rdPx (t:List UInt8):Int:=if rdP t then bareX (restT t) else 0
def rdPn (t:List UInt8):Int:=if rdP t then ((bareN (restT t):Nat):Int) else 0
def rdO (t:List UInt8):Nat:=if rdL t then 0 else if rdF t then 9221120237041090560 else if rdG t then (if negT t then 18442240474082181120 else 9218868437227405312) else 0
def rdI (t:List UInt8):Bool:= !rdL t && (rdF t || rdG t)
def rdE (t:List UInt8):Int:=if rdL t then 2 else if rdP t && rdNo t then 3 else 0
theorem restT_len (t:List UInt8):(restT t).length≤t.length:=by
 unfold restT
 split
 ·rw [List.length_drop]; omega
 ·exact Nat.le_refl _
theorem read_sem (t:List UInt8):Ev.Pure Tryz.prog J0 30 [.string ⟨⟨t⟩⟩] (rdR (rdN t) (pcV (rdPh t) (rdPs t) (rdPx t) (rdPn t)) (rdO t) (rdI t) (rdE t)):=by
 unfold rdN rdPh rdPs rdPx rdPn rdO rdI rdE rdOk rdP
 cases h1:rdL t with
 | true=>exact pure_of bRp1_ok 10 _ _ (rd_long t) ⟨h1,trivial⟩
 | false=>
  cases h2:rdF t with
  | true=>exact pure_of bRp1_ok 10 _ _ (rd_nan t) ⟨h2,h1,trivial⟩
  | false=>
   cases h3:rdG t with
   | true=>
    cases h4:negT t with
    | true=>
     have:=rd_minf t
     rw [h4] at this
     exact pure_of bRp1_ok 10 _ _ this ⟨rfl,h3,h2,h1,trivial⟩
    | false=>
     have:=rd_inf t
     rw [h4] at this
     exact pure_of bRp1_ok 10 _ _ this ⟨rfl,h3,h2,h1,trivial⟩
   | false=>
    have hl:(restT t).length≤140737488351232:=by
     have:=restT_len t
     have hL:=of_decide_eq_false h1
     have:t.length≤8192:=by
      have h9:¬((8192:Int) < (t.length:Int)):=hL
      omega
     omega
    cases h4:rdNo t with
    | true=>exact pure_of bRp1_ok 10 _ _ (rd_no t) ⟨h4,hl,h3,h2,h1,trivial⟩
    | false=>exact pure_of bRp1_ok 10 _ _ (rd_yes t) ⟨h4,hl,h3,h2,h1,trivial⟩
end Go.Proofs.YtdgfhijnconaoaaGreatDoor
namespace Go.Proofs.YtdgfhijnconaoaaGreatDoor
open Go Go.RowKit Ev Wd VaS
def specRd:List Value→Option (Value×List Prop)
 | [.string ⟨⟨t⟩⟩] =>some (rdR (rdN t) (pcV (rdPh t) (rdPs t) (rdPx t) (rdPn t)) (rdO t) (rdI t) (rdE t),[])
 | _=>none
theorem specRd_ok (args:List Value) (v:Value) (l:List Prop) (h:specRd args=some (v,l)) (_:allP l):Ev.Pure Tryz.prog J0 30 args v:=by
 unfold specRd at h
 split at h
 ·cases h
  exact read_sem _
 ·cases h
noncomputable def tabRp2:Tab:=tabAdd 30 specRd tabRp1
theorem tabRp2_ok:PcOk Tryz.prog J0 tabRp2:=tabAdd_ok specRd_ok tabRp1_ok
def nrW (h:Bool) (d:List UInt8) (e:Int):Nat:=if h=true then (if trimL d=[] then 0 else hxW (trimL d) e 53 (-1074)) else neW d e
def nrE (h:Bool) (d:List UInt8) (e:Int):Int:=if h=true then 0 else neE d e
def nrOk (h:Bool) (d:List UInt8) (e:Int):Prop:=d.length≤140737488351232∧(-100000000000000000≤e∧e≤100000000000000000)∧(if h=true then HexD d else allDB d=true)
theorem near_sem {h:Bool} {d:List UInt8} {e n:Int} (hk:nrOk h d e):Ev.Sem Tryz.prog J0 31 (neAz h d e n) [xR (nrW h d e),iR (nrE h d e)] :=by
 obtain⟨h1,h2,h3⟩:=hk
 unfold nrW nrE
 cases h with
 | true=>
  rw [if_pos rfl] at h3
  rw [if_pos rfl,if_pos rfl]
  exact near_hex h3 h1 h2 ⟨by decide,by decide⟩ ⟨by decide,by decide⟩
 | false=>
  rw [if_neg (by decide)] at h3
  rw [if_neg (by decide),if_neg (by decide)]
  exact near_dec h3 h1 ⟨by omega,by omega⟩
def specNr:List Arg→Option (List Arg×List Prop)
 | [.c (.v (.agg ⟨[.bool h, .string ⟨⟨d⟩⟩, .int .i64 e, .int .i64 _]⟩)), .c (.v (.int .i64 53)), .c (.v (.int .i64 (-1074))), .c (.v (.func (.func 32) ⟨[]⟩ ⟨[]⟩))] =>some ([xR (nrW h d e),iR (nrE h d e)],[nrOk h d e])
 | _=>none
theorem specNr_ok:∀ az rs l,specNr az=some (rs,l)→allP l→Ev.Sem Tryz.prog J0 31 az rs:=by
 intro az rs l h hl
 unfold specNr at h
 split at h
 ·cases h
  exact near_sem hl.1
 ·cases h
noncomputable def mtabRp2:MTab:=mtabAdd 31 (liftS [shV,shV,shV,shV] specNr) mtabRo4
theorem mtabRp2_ok:ClOk Tryz.prog J0 mtabRp2:=mtabAdd_ok (liftS_ok _ specNr_ok) mtabRo4_ok
noncomputable def bRp2:Base:=⟨Tryz.prog,J0,false,tabRp2,mtabRp2,200,xtN0⟩
theorem bRp2_ok:BaseOk bRp2:=⟨progOk,tabRp2_ok,mtabRp2_ok,xtN0_ok⟩
noncomputable abbrev XRp2:Cx:=bRp2.cx 10
end Go.Proofs.YtdgfhijnconaoaaGreatDoor
namespace Go.Proofs.YtdgfhijnconaoaaGreatDoor
open Go Go.RowKit Ev Wd VaS
def sgE (x:Nat):Nat:=(IntKind.u64.wrap ↑(BitVec.ofInt IntKind.u64.bits (IntKind.u64.wrap ↑(BitVec.ofInt IntKind.u64.bits ↑x&&& ~~~BitVec.ofInt IntKind.u64.bits 9223372036854775808).toNat)||| BitVec.ofInt IntKind.u64.bits (IntKind.u64.wrap ↑(BitVec.ofInt IntKind.u64.bits 13830554455654793216&&& BitVec.ofInt IntKind.u64.bits 9223372036854775808).toNat)).toNat).toNat
theorem sg_1 (x:Nat):pureCall XRp2 [] 200 35 [.float .f64 x, .bool true] [true] =some (.float .f64 (sgE x),[true=true]):=by kernel_rfl
theorem sg_2 (x:Nat):pureCall XRp2 [] 200 35 [.float .f64 x, .bool false] [false] =some (.float .f64 x,[false=false]):=by kernel_rfl
def sgV (x:Nat) (g:Bool):Nat:=if g=true then sgE x else x
theorem sg_pure (x:Nat) (g:Bool):Ev.Pure Tryz.prog J0 35 [.float .f64 x, .bool g] (.float .f64 (sgV x g)):=by
 cases g with
 | true=>exact pure_of bRp2_ok 10 _ _ (sg_1 x) ⟨rfl,trivial⟩
 | false=>exact pure_of bRp2_ok 10 _ _ (sg_2 x) ⟨rfl,trivial⟩
def specSg:List Value→Option (Value×List Prop)
 | [.float .f64 x, .bool g] =>some (.float .f64 (sgV x g),[])
 | _=>none
theorem specSg_ok (args:List Value) (v:Value) (l:List Prop) (h:specSg args=some (v,l)) (_:allP l):Ev.Pure Tryz.prog J0 35 args v:=by
 unfold specSg at h
 split at h
 ·cases h
  exact sg_pure _ _
 ·cases h
noncomputable def tabRp3:Tab:=tabAdd 35 specSg tabRp2
theorem tabRp3_ok:PcOk Tryz.prog J0 tabRp3:=tabAdd_ok specSg_ok tabRp2_ok
noncomputable def bRp3:Base:=⟨Tryz.prog,J0,false,tabRp3,mtabRp2,200,xtN0⟩
theorem bRp3_ok:BaseOk bRp3:=⟨progOk,tabRp3_ok,mtabRp2_ok,xtN0_ok⟩
noncomputable abbrev XRp3:Cx:=bRp3.cx 10
def paX (t:List UInt8):Nat:=nrW (rdPh t) (rdPs t) (rdPx t)
def paZ (t:List UInt8):Int:=nrE (rdPh t) (rdPs t) (rdPx t)
def paO (t:List UInt8):Prop:=nrOk (rdPh t) (rdPs t) (rdPx t)
def paB (t:List UInt8):Bool:=match rdE t !=0 with | true=>true | false=>rdI t
def paI (t:List UInt8):Bool:=match paZ t==0 with | true=>gtL (absL (paX t)) 9218868437227405311 | false=>false
section
variable (t:List UInt8) (r:Nat) (z:Int)
abbrev tA (t:List UInt8):List Arg:=[.c (.v (.string ⟨⟨t⟩⟩))]
theorem pa_1:semR XRp3 [] 200 10 (tA t) [xR r,iR z] [true] =some [paB t=true,Value.float .f64 (rdO t)=Value.float .f64 r,Value.int .i64 (rdE t)=Value.int .i64 z] :=by kernel_rfl
theorem pa_2:semR XRp3 [] 200 10 (tA t) [xR r,iR z] [false,true,true] =some [true=true,paI t=true,paO t,paB t=false,Value.float .f64 0=Value.float .f64 r,Value.int .i64 15=Value.int .i64 z] :=by kernel_rfl
theorem pa_3:semR XRp3 [] 200 10 (tA t) [xR r,iR z] [false,false,true] =some [(paZ t !=0)=true,paI t=false,paO t,paB t=false,Value.float .f64 0=Value.float .f64 r,Value.int .i64 (paZ t)=Value.int .i64 z] :=by kernel_rfl
theorem pa_4:semR XRp3 [] 200 10 (tA t) [xR r,iR z] [false,false,false] =some [(paZ t !=0)=false,paI t=false,paO t,paB t=false,Value.float .f64 (sgV (paX t) (rdN t))=Value.float .f64 r,Value.int .i64 0=Value.int .i64 z] :=by kernel_rfl
end
def paW (t:List UInt8):Nat:=if paB t=true then rdO t else if paI t=true then 0 else if paZ t≠0 then 0 else sgV (paX t) (rdN t)
def paE (t:List UInt8):Int:=if paB t=true then rdE t else if paI t=true then 15 else paZ t
theorem numParse_sem {t:List UInt8} (h:paB t=false→paO t):Ev.Sem Tryz.prog J0 10 (tA t) [xR (paW t),iR (paE t)] :=by
 cases h1:paB t with
 | true=>
  have e1:paW t=rdO t:=by unfold paW; rw [h1]; exact if_pos rfl
  have e2:paE t=rdE t:=by unfold paE; rw [h1]; exact if_pos rfl
  rw [e1,e2]
  exact sem_of bRp3_ok 10 _ _ (pa_1 t _ _) ⟨h1,rfl,rfl,trivial⟩
 | false=>
  have ho:=h h1
  have n1:¬paB t=true:=by rw [h1]; decide
  cases h2:paI t with
  | true=>
   have e1:paW t=0:=by unfold paW; rw [if_neg n1,if_pos h2]
   have e2:paE t=15:=by unfold paE; rw [if_neg n1,if_pos h2]
   rw [e1,e2]
   exact sem_of bRp3_ok 10 _ _ (pa_2 t _ _) ⟨rfl,h2,ho,h1,rfl,rfl,trivial⟩
  | false=>
   have n2:¬paI t=true:=by rw [h2]; decide
   by_cases h3:paZ t=0
   ·have n3:¬paZ t≠0:=fun k=>k h3
    have e1:paW t=sgV (paX t) (rdN t):=by unfold paW; rw [if_neg n1,if_neg n2,if_neg n3]
    have e2:paE t=0:=by unfold paE; rw [if_neg n1,if_neg n2,h3]
    rw [e1,e2]
    exact sem_of bRp3_ok 10 _ _ (pa_4 t _ _) ⟨by rw [h3]; rfl,h2,ho,h1,rfl,rfl,trivial⟩
   ·have e1:paW t=0:=by unfold paW; rw [if_neg n1,if_neg n2,if_pos h3]
    have e2:paE t=paZ t:=by unfold paE; rw [if_neg n1,if_neg n2]
    rw [e1,e2]
    exact sem_of bRp3_ok 10 _ _ (pa_3 t _ _) ⟨bne_iff_ne.2 h3,h2,ho,h1,rfl,rfl,trivial⟩
end Go.Proofs.YtdgfhijnconaoaaGreatDoor
namespace Go.Proofs.YtdgfhijnconaoaaGreatDoor
open Go Go.RowKit Ev Wd VaS
theorem maGo_dot (t:List UInt8) (b:Int):∀ (f k:Nat) (p:Int),0≤p→(maGo t b f k p).1=p
 | 0,_,_,_=>rfl
 | f+1,k,p,hp=>by
  unfold maGo
  have hd:dotB t k p=false:=by
   unfold dotB
   split
   ·exact decide_eq_false (by omega)
   ·rfl
  rw [hd]
  split
  ·exact maGo_dot t b f (k+1) p hp
  ·rfl
theorem maGo_dig (t:List UInt8) (b:Int):∀ (f k:Nat) (p:Int) (i:Nat),k≤i→i < (maGo t b f k p).2→worthV (chI t (i:Int)) < b∨(i:Int)=(maGo t b f k p).1
 | 0,k,p,i,h1,h2=>absurd (show i < k from h2) (by omega)
 | f+1,k,p,i,h1,h2=>by
  unfold maGo at h2 ⊢
  by_cases hw:worthV (chI t (k:Int)) < b
  ·rw [if_pos hw] at h2 ⊢
   rcases Nat.eq_or_lt_of_le h1 with h | h
   ·subst h; exact .inl hw
   ·exact maGo_dig t b f (k+1) p i h h2
  ·rw [if_neg hw] at h2 ⊢
   by_cases hd:dotB t k p=true
   ·rw [if_pos hd] at h2 ⊢
    rcases Nat.eq_or_lt_of_le h1 with h | h
    ·subst h
     exact .inr (maGo_dot t b f (k+1) k (Int.natCast_nonneg _)).symm
    ·exact maGo_dig t b f (k+1) k i h h2
   ·rw [if_neg hd] at h2
    exact absurd (show i < k from h2) (by omega)
theorem mem_part {t:List UInt8} {a E:Nat} {c:UInt8} (h:c∈(t.take E).drop a):∃ i,a≤i∧i < E∧∃ hi:i < t.length,t[i] =c:=by
 obtain⟨j,hj,rfl⟩:=List.mem_iff_getElem.1 h
 rw [List.length_drop,List.length_take] at hj
 refine⟨a+j,by omega,by omega,by omega,?_⟩
 rw [List.getElem_drop,List.getElem_take]
theorem maS_dig {t:List UInt8} {a:Nat} {b:Int} {c:UInt8} (h:c∈maS t a b):worthV (c.toNat:Int) < b:=by
 have key:∀ i,a≤i→i < maE t a b→(i:Int)≠maP t a b→∀ hi:i < t.length,worthV ((t[i].toNat:Nat):Int) < b:=by
  intro i h1 h2 h3 hi
  unfold maE at h2
  unfold maP at h3
  have:=(maGo_dig t b (t.length-a) a (-1) i h1 h2).resolve_right h3
  rw [chI_get hi] at this
  exact this
 unfold maS at h
 split at h
 ·rename_i hp
  obtain⟨i,h1,h2,hi,rfl⟩:=mem_part h
  exact key i h1 h2 (by omega) hi
 ·rename_i hp
  rcases List.mem_append.1 h with h | h
  ·obtain⟨i,h1,h2,hi,rfl⟩:=mem_part h
   by_cases hE:i < maE t a b
   ·exact key i h1 hE (by omega) hi
   ·exfalso
    have:=(maGo_spec t b (t.length-a) a (-1) (by omega) (by omega)).2.2.2
    unfold maE at hE
    unfold maP at h2 hp
    omega
  ·obtain⟨i,h1,h2,hi,rfl⟩:=mem_part h
   by_cases hA:a≤i
   ·exact key i hA h2 (by omega) hi
   ·exfalso
    by_cases ha:a≤t.length
    ·have:=(ma_range (b:=b) ha).2.2.1
     omega
    ·have:maP t a b= -1:=by
      unfold maP
      rw [show t.length-a=0 by omega]
      rfl
     omega
theorem worth10 {c:UInt8} (h:worthV (c.toNat:Int) < 10):48≤c.toNat∧c.toNat≤57:=by
 unfold worthV at h
 split at h
 ·omega
 ·split at h
  ·omega
  ·split at h <;> omega
theorem maS_len (t:List UInt8) (a:Nat) (b:Int):(maS t a b).length≤2*t.length:=by
 unfold maS
 split
 ·rw [List.length_drop,List.length_take]; omega
 ·rw [List.length_append,List.length_drop,List.length_take,List.length_drop,List.length_take]; omega
theorem bareS_hex {t:List UInt8} (h:bareH t=true):HexD (bareS t):=by
 intro c hc
 unfold bareS at hc
 rw [if_pos h] at hc
 exact maS_dig hc
theorem bareS_dec {t:List UInt8} (h:bareH t=false):allDB (bareS t)=true:=by
 refine allDB_mem.2 fun c hc=> ?_
 unfold bareS at hc
 rw [if_neg (by rw [h]; decide)] at hc
 exact worth10 (maS_dig hc)
end Go.Proofs.YtdgfhijnconaoaaGreatDoor
namespace Go.Proofs.YtdgfhijnconaoaaGreatDoor
open Go Go.RowKit Ev Wd VaS
theorem maB_any {t:List UInt8} {a:Nat} {b:Int} :0≤maB t a b∧maB t a b≤(t.length:Int):=by
 by_cases ha:a≤t.length
 ·exact maB_range ha
 ·have:maP t a b= -1:=by
   unfold maP
   rw [show t.length-a=0 by omega]
   rfl
  unfold maB
  rw [if_pos (by omega)]
  omega
theorem bareX_range (t:List UInt8): -1073741824-4*(t.length:Int)≤bareX t∧bareX t≤1073741824:=by
 have h1:=maB_any (t:=t) (a:=2) (b:=16)
 have h2:=maB_any (t:=t) (a:=0) (b:=10)
 have h3:=exV_range t pP (maE t 2 16)
 have h4:=exV_range t eE (maE t 0 10)
 unfold bareX
 split
 ·omega
 ·split
  ·omega
  ·omega
theorem paO_ok {t:List UInt8} (h:paB t=false):paO t:=by
 unfold paB at h
 cases hE:(rdE t !=0) with
 | true=>rw [hE] at h; cases h
 | false=>
  rw [hE] at h
  have hI:rdI t=false:=h
  have hE2:rdE t=0:=by
   have:=hE
   rw [bne,Bool.not_eq_false'] at this
   exact eq_of_beq this
  cases h1:rdL t with
  | true=>
   unfold rdE at hE2
   rw [h1] at hE2
   cases hE2
  | false=>
   unfold rdI at hI
   rw [h1] at hI
   cases h2:rdF t with
   | true=>rw [h2] at hI; cases hI
   | false=>
    cases h3:rdG t with
    | true=>rw [h2,h3] at hI; cases hI
    | false=>
     have hP:rdP t=true:=by unfold rdP; rw [h1,h2,h3]; rfl
     have hlen:t.length≤8192:=by
      have hL:=of_decide_eq_false h1
      have h9:¬((8192:Int) < (t.length:Int)):=hL
      omega
     have hr:=restT_len t
     have hx:=bareX_range (restT t)
     have hs:(bareS (restT t)).length≤2*(restT t).length:=by
      unfold bareS
      split
      ·exact maS_len _ _ _
      ·exact maS_len _ _ _
     have e1:rdPh t=bareH (restT t):=by unfold rdPh; exact if_pos hP
     have e2:rdPs t=bareS (restT t):=by unfold rdPs; exact if_pos hP
     have e3:rdPx t=bareX (restT t):=by unfold rdPx; exact if_pos hP
     unfold paO nrOk
     rw [e1,e2,e3]
     refine⟨by omega,⟨by omega,by omega⟩,?_⟩
     cases hH:bareH (restT t) with
     | true=>rw [if_pos rfl]; exact bareS_hex hH
     | false=>rw [if_neg (by decide)]; exact bareS_dec hH
theorem numParse_any (t:List UInt8):Ev.Sem Tryz.prog J0 10 (tA t) [xR (paW t),iR (paE t)] :=numParse_sem paO_ok
end Go.Proofs.YtdgfhijnconaoaaGreatDoor
namespace Go.Proofs.YtdgfhijnconaoaaGreatDoor
open Go Go.RowKit Ev VaS
abbrev vi (n:Int):Value:= .int .i64 n
noncomputable def bV0:Base:=⟨Tryz.prog,J0,false,tabN0,mtab0,200,xtN0⟩
theorem bV0_ok:BaseOk bV0:=⟨progOk,tabN0_ok,mtab0_ok _ _,xtN0_ok⟩
def rawM (x:Nat):Int:=Int.ofNat (Nat.bitwise and (BitVec.ofInt IntKind.u64.bits (Int.ofNat x)).toNat (~~~BitVec.ofInt IntKind.u64.bits 9223372036854775808).toNat%18446744073709551616)
theorem ofInt_nat {x:Nat} (hx:x < 18446744073709551616):(BitVec.ofInt IntKind.u64.bits (Int.ofNat x)).toNat=x:=by
 show (BitVec.ofInt 64 (x:Int)).toNat=x
 rw [BitVec.ofInt_natCast,BitVec.toNat_ofNat]
 exact Nat.mod_eq_of_lt hx
theorem rawM_eq {x:Nat} (hx:x < 18446744073709551616):rawM x=((x%p63:Nat):Int):=by
 unfold rawM
 rw [ofInt_nat hx,show (~~~BitVec.ofInt IntKind.u64.bits 9223372036854775808).toNat=2 ^63-1 by decide]
 have e:Nat.bitwise and x (2 ^63-1)=x%2 ^63:=Nat.and_two_pow_sub_one_eq_mod x 63
 rw [e]
 have h:x%2 ^63 < 18446744073709551616:=Nat.lt_trans (Nat.mod_lt _ (by decide)) (by decide)
 rw [Nat.mod_eq_of_lt h]
 rfl
theorem wrap_id {n:Int} (h1: -9223372036854775808≤n) (h2:n≤9223372036854775807):IntKind.i64.wrap n=n:=by
 simp [IntKind.wrap,IntKind.bits,IntKind.signed]
 omega
theorem mod_lt63 (x:Nat):x%p63 < 9223372036854775808:=Nat.mod_lt _ (by decide)
theorem order_self {x:Nat} (hx:x < 18446744073709551616) (b:Bool):((Ieee.double.order x x !=some .eq)=b)↔nanB x=b:=by
 rw [order_eq hx hx]
 unfold ordF
 rw [Bool.or_self]
 cases nanB x
 ·simp
 ·rw [if_pos rfl]
  cases b <;> decide
theorem place_pure (x:Nat) (hx:x < 18446744073709551616):Pure Tryz.prog J0 36 [.float .f64 x] (vi (keyI x)):=by
 have hm:=mod_lt63 x
 have hsg:decide (IntKind.i64.wrap (Int.ofNat x) < 0)=decide (p63≤x):=by
  rw [decide_eq_decide]
  unfold p63
  simp [IntKind.wrap,IntKind.bits,IntKind.signed]
  omega
 have ht:∀ y:Int,0≤y→Int.ofNat y.toNat=y:=fun y hy=>Int.toNat_of_nonneg hy
 have hr:rawM x=((x%p63:Nat):Int):=rawM_eq hx
 unfold keyI
 cases hn:nanB x
 ·by_cases hs:p63≤x
  ·have:=pure_of bV0_ok 6 [] [false,true] (f:=36) (args:=[.float .f64 x]) (v:=vi (IntKind.i64.wrap (IntKind.i64.wrap (0-IntKind.i64.wrap (Int.ofNat (rawM x).toNat))-1))) (l:=[decide (IntKind.i64.wrap (Int.ofNat x) < 0)=true,(Ieee.double.order x x !=some .eq)=false]) (by kernel_rfl) ⟨by rw [hsg]; exact decide_eq_true hs,(order_self hx _).2 hn,trivial⟩
   rw [ht _ (by rw [hr]; omega),hr,wrap_id (n:=((x%p63:Nat):Int)) (by omega) (by omega),wrap_id (n:=0- ((x%p63:Nat):Int)) (by omega) (by omega),wrap_id (by omega) (by omega)] at this
   simp only [Bool.false_eq_true,if_false,if_pos hs]
   rw [show -((x%p63:Nat):Int)-1=0- ((x%p63:Nat):Int)-1 by omega]
   exact this
  ·have:=pure_of bV0_ok 6 [] [false,false] (f:=36) (args:=[.float .f64 x]) (v:=vi (IntKind.i64.wrap (Int.ofNat (rawM x).toNat))) (l:=[decide (IntKind.i64.wrap (Int.ofNat x) < 0)=false,(Ieee.double.order x x !=some .eq)=false]) (by kernel_rfl) ⟨by rw [hsg]; exact decide_eq_false hs,(order_self hx _).2 hn,trivial⟩
   rw [ht _ (by rw [hr]; omega),hr,wrap_id (by omega) (by omega)] at this
   simp only [Bool.false_eq_true,if_false,if_neg hs]
   exact this
 ·exact pure_of bV0_ok 6 [] [true] (l:=[(Ieee.double.order x x !=some .eq)=true]) (by kernel_rfl) ⟨(order_self hx _).2 hn,trivial⟩
end Go.Proofs.YtdgfhijnconaoaaGreatDoor
namespace Go.Proofs.YtdgfhijnconaoaaGreatDoor
open Go Go.RowKit Ev Wd
def famS (g:Nat→Value) (i:Nat):Int:=match g i with
 | .int .u8 x=>x
 | _=>0
def dgOk (g:Nat→Value) (off o k q:Nat) (m:Int):Prop:=g=(fun i=> .int .u8 (famS g i))∧off=o∧k=q∧(0≤m∧m≤1000)∧∀ i,i < k→0≤famS g i∧famS g i < 256
def specDig (args:List Value) (H:Heap) (n:Nat) (ds:List Bool):Option CR:=
 match args with
 | [.slice (some ⟨id,off,some _⟩) k _, .int .i64 m] =>match H.get id with
  | some (.fam g q sz o)=>match Nat.beq sz 1 with
   | true=>some ⟨.string ⟨⟨dgT (dgs (famS g) (min k m.toNat))⟩⟩,H,n,[dgOk g off o k q m],ds⟩
   | false=>none
  | _=>none
 | _=>none
theorem specDig_ok:SpecOk Tryz.prog J0 8 specDig:=by
 intro args H n ds r hs hl
 unfold specDig at hs
 split at hs
 case h_2=>cases hs
 rename_i id off sp k c m
 split at hs
 case h_2=>cases hs
 rename_i g q sz o hget
 split at hs
 case h_2=>cases hs
 rename_i hsz
 have hsz:=Nat.eq_of_beq_eq_true hsz
 subst hsz
 cases hs
 obtain⟨⟨hg,rfl,rfl,hm,hF⟩,_⟩:=hl
 obtain⟨mm,rfl⟩:∃ mm:Nat,m=(mm:Int):=⟨m.toNat,by omega⟩
 obtain⟨hent,hsem⟩:=digits_sem (F:=famS g) (n:=k) (o:=off) (m:=mm) hF (by omega)
 refine⟨Nat.le_refl _,hent,fun B M ρ w vs hp hB hI hS=> ?_⟩
 obtain⟨hS0,hvs⟩:=hS ρ (Agree.refl _ _)
 have hcel:CelIs w (.f (fun i=> .int .u8 (famS g i)) k 1 off) (rv ρ (.slice (some ⟨id,off,some sp⟩) k c)):=by
  rw [← hg]
  rcases hS0.obj id _ hget with ⟨g1,g2⟩ | ⟨b,cs,t,fr,g1,g2,g3⟩
  ·exact .inl ⟨by simp [rv,rSl,g1,g2],g2⟩
  ·obtain⟨c',q⟩:=rSl_at (off:=off) (sp:=some sp) (n:=k) (c:=c) g1
   exact .inr ⟨b,c',cs,t,fr,q,g2,g3⟩
 have hint:rv ρ (.int .i64 (mm:Int))= .int .i64 (mm:Int):=by simp only [rv]
 rw [hvs]
 have hus:All2 (CelIs w) (cellsA [dgA (famS g) k off,iR (mm:Int)]) [rv ρ (.slice (some ⟨id,off,some sp⟩) k c), .int .i64 (mm:Int)] := .cons hcel (.cons ⟨rfl,rfl⟩ .nil)
 have hc:=hsem w _ hI hus
 have hargs:packL [dgA (famS g) k off,iR (mm:Int)] [rv ρ (.slice (some ⟨id,off,some sp⟩) k c), .int .i64 (mm:Int)] =rvL ρ [.slice (some ⟨id,off,some sp⟩) k c, .int .i64 (mm:Int)] :=by
  simp only [rvL,hint]
  rfl
 rw [hargs] at hc
 refine hc.mono fun e w' ⟨us',he,hb,hnew,_⟩=> ?_
 cases hnew with
 | cons h1 h2=>
  cases h2
  obtain⟨rfl,_⟩:=h1
  refine⟨ρ,_,Agree.refl _ _,he,Keeps.of_below hb hB,fun ρ' ha=>⟨?_,((hS ρ' ha).1).below hb⟩⟩
  simp only [rv,Int.toNat_natCast]
  rfl
def specPa:List Arg→Option (List Arg×List Prop)
 | [.c (.v (.string ⟨⟨t⟩⟩))] =>some ([xR (paW t),iR (paE t)],[])
 | _=>none
theorem specPa_ok:∀ az rs l,specPa az=some (rs,l)→allP l→Ev.Sem Tryz.prog J0 10 az rs:=by
 intro az rs l h _
 unfold specPa at h
 split at h
 ·cases h
  exact numParse_any _
 ·cases h
def specXp:List Value→Option (Value×List Prop)
 | [.int .i64 e, .int .i64 m] =>some (.string ⟨⟨intV (xpV e m.toNat)⟩⟩,[(-9223372036854775808≤e∧e≤9223372036854775807)∧(0≤m∧m≤1000)])
 | _=>none
theorem specXp_ok (args:List Value) (v:Value) (l:List Prop) (h:specXp args=some (v,l)) (hl:allP l):Ev.Pure Tryz.prog J0 9 args v:=by
 unfold specXp at h
 split at h
 ·cases h
  rename_i e m
  obtain⟨⟨h1,h2⟩,_⟩:=hl
  obtain⟨k,rfl⟩:∃ k:Nat,m=(k:Int):=⟨m.toNat,by omega⟩
  rw [Int.toNat_natCast]
  exact expo_pure h1 (by omega)
 ·cases h
def specPl:List Value→Option (Value×List Prop)
 | [.float .f64 x] =>some (.int .i64 (VaS.keyI x),[x < 18446744073709551616])
 | _=>none
theorem specPl_ok (args:List Value) (v:Value) (l:List Prop) (h:specPl args=some (v,l)) (hl:allP l):Ev.Pure Tryz.prog J0 36 args v:=by
 unfold specPl at h
 split at h
 ·cases h
  exact place_pure _ hl.1
 ·cases h
noncomputable def tabDg2:Tab:=tabAdd 36 specPl tab0
theorem tabDg2_ok:PcOk Tryz.prog J0 tabDg2:=tabAdd_ok specPl_ok (tab0_ok _ _)
noncomputable def bDg2:Base:=⟨Tryz.prog,J0,false,tabDg2,mtab0,200,xtN0⟩
theorem bDg2_ok:BaseOk bDg2:=⟨progOk,tabDg2_ok,mtab0_ok _ _,xtN0_ok⟩
noncomputable abbrev XDg2:Cx:=bDg2.cx 10
def kyL (x y:Nat):Bool:=decide (VaS.keyI x < VaS.keyI y)
abbrev orA (x y:Nat):List Value:=[.float .f64 x, .float .f64 y]
abbrev orL (x y:Nat):List Prop:=[y < 18446744073709551616,x < 18446744073709551616]
section
variable (x y:Nat)
theorem po_1:pureCall XDg2 [] 200 11 (orA x y) [true] =some (.int .i64 (-1),(kyL x y=true) ::orL x y):=by kernel_rfl
theorem po_2:pureCall XDg2 [] 200 11 (orA x y) [false,true] =some (.int .i64 1,(kyL y x=true) ::(kyL x y=false) ::orL x y):=by kernel_rfl
theorem po_3:pureCall XDg2 [] 200 11 (orA x y) [false,false] =some (.int .i64 0,(kyL y x=false) ::(kyL x y=false) ::orL x y):=by kernel_rfl
end
def kyC (x y:Nat):Int:=if kyL x y=true then -1 else if kyL y x=true then 1 else 0
theorem order_any {x y:Nat} (hx:x < 18446744073709551616) (hy:y < 18446744073709551616):Ev.Pure Tryz.prog J0 11 (orA x y) (.int .i64 (kyC x y)):=by
 unfold kyC
 cases h1:kyL x y with
 | true=>
  rw [if_pos rfl]
  exact pure_of bDg2_ok 10 _ _ (po_1 x y) ⟨h1,hy,hx,trivial⟩
 | false=>
  rw [if_neg (by decide)]
  cases h2:kyL y x with
  | true=>
   rw [if_pos rfl]
   exact pure_of bDg2_ok 10 _ _ (po_2 x y) ⟨h2,h1,hy,hx,trivial⟩
  | false=>
   rw [if_neg (by decide)]
   exact pure_of bDg2_ok 10 _ _ (po_3 x y) ⟨h2,h1,hy,hx,trivial⟩
def specOr:List Value→Option (Value×List Prop)
 | [.float .f64 x, .float .f64 y] =>some (.int .i64 (kyC x y),[x < 18446744073709551616∧y < 18446744073709551616])
 | _=>none
theorem specOr_ok (args:List Value) (v:Value) (l:List Prop) (h:specOr args=some (v,l)) (hl:allP l):Ev.Pure Tryz.prog J0 11 args v:=by
 unfold specOr at h
 split at h
 ·cases h
  exact order_any hl.1.1 hl.1.2
 ·cases h
end Go.Proofs.YtdgfhijnconaoaaGreatDoor
namespace Go.Proofs.YtdgfhijnconaoaaGreatDoor
open Go Go.RowKit Ev Wd
def cI (c:UInt8):Int:=Int.ofNat c.toNat
def mgt (b:Int):List UInt8→Nat→Int→Int×Nat
 | [],k,p=>(p,k)
 | c ::r,k,p=>if worthV (cI c) < b then mgt b r (k+1) p else if c=46∧p < 0 then mgt b r (k+1) k else (p,k)
theorem chI_drop {t:List UInt8} {k:Nat} {c:UInt8} {r:List UInt8} (h:t.drop k=c ::r):chI t (k:Int)=cI c∧t.drop (k+1)=r∧k < t.length:=by
 have hk:k < t.length:=by
  rcases Nat.lt_or_ge k t.length with h1 | h1
  ·exact h1
  ·rw [List.drop_eq_nil_of_le h1] at h
   cases h
 rw [List.drop_eq_getElem_cons hk] at h
 injection h with h1 h2
 refine⟨?_,h2,hk⟩
 rw [chI_get hk,h1]
 rfl
theorem mgt_eq (t:List UInt8) (b:Int):∀ (s:List UInt8) (k:Nat) (p:Int),t.drop k=s→maGo t b s.length k p=mgt b s k p
 | [],k,p,_=>rfl
 | c ::r,k,p,h=>by
  obtain⟨h1,h2,h3⟩:=chI_drop h
  rw [List.length_cons]
  unfold maGo mgt
  have hd:dotB t k p=decide (c=46∧p < 0):=by
   unfold dotB
   rw [h1]
   unfold cI
   by_cases hc:c=46
   ·subst hc
    show decide (p < 0)=_
    refine decide_eq_decide.2 ⟨fun h=>⟨rfl,h⟩,fun h=>h.2⟩
   ·have:((Int.ofNat c.toNat)==46)=false:=by
     refine beq_false_of_ne fun e=>hc ?_
     have e:((c.toNat:Nat):Int)=46:=e
     exact UInt8.toNat_inj.1 (show c.toNat=46 by omega)
    rw [this]
    exact (decide_eq_false fun h=>hc h.1).symm
  rw [h1,hd,mgt_eq t b r (k+1) p h2,mgt_eq t b r (k+1) k h2]
  simp only [decide_eq_true_eq]
theorem worth_digit {c:UInt8} (h:48≤c.toNat∧c.toNat≤57):worthV (cI c)=((c.toNat-48:Nat):Int):=by
 unfold worthV cI
 rw [if_pos ⟨by show (48:Int)≤((c.toNat:Nat):Int); omega,by show ((c.toNat:Nat):Int)≤57; omega⟩]
 show ((c.toNat:Nat):Int)-48=_
 omega
theorem mgt_digits:∀ (d:List UInt8) (r:List UInt8) (k:Nat) (p:Int),allDB d=true→mgt 10 (d++r) k p=mgt 10 r (k+d.length) p
 | [],r,k,p,_=>rfl
 | c ::d,r,k,p,h=>by
  obtain⟨h1,h2⟩:=allDB_cons h
  rw [List.cons_append]
  conv=>lhs; unfold mgt
  rw [if_pos (by rw [worth_digit h1]; omega),mgt_digits d r (k+1) p h2,List.length_cons,show k+1+d.length=k+(d.length+1) by omega]
theorem mgt_dot (r:List UInt8) (k:Nat):mgt 10 (46 ::r) k (-1)=mgt 10 r (k+1) k:=by
 conv=>lhs; unfold mgt
 rw [if_neg (by decide),if_pos ⟨rfl,by decide⟩]
theorem mgt_stop {c:UInt8} (hc:c=101∨c=69) (r:List UInt8) (k:Nat) (p:Int):mgt 10 (c ::r) k p=(p,k):=by
 conv=>lhs; unfold mgt
 rcases hc with rfl | rfl
 ·rw [if_neg (by decide),if_neg (fun h=>absurd h.1 (by decide))]
 ·rw [if_neg (by decide),if_neg (fun h=>absurd h.1 (by decide))]
def egt:List UInt8→Nat→Int→Int×Nat
 | [],k,n=>(n,k)
 | c ::r,k,n=>if worthV (cI c) < 10 then egt r (k+1) (nxP n (worthV (cI c))) else (n,k)
theorem egt_eq (t:List UInt8):∀ (s:List UInt8) (k:Nat) (n:Int),t.drop k=s→exGo t s.length k n=egt s k n
 | [],k,n,_=>rfl
 | c ::r,k,n,h=>by
  obtain⟨h1,h2,h3⟩:=chI_drop h
  rw [List.length_cons]
  unfold exGo egt
  rw [h1,egt_eq t r (k+1) _ h2]
theorem egt_digits:∀ (d:List UInt8) (k m:Nat),allDB d=true→m*10 ^d.length+dcN d < 1073741824→egt d k (m:Int)=(((m*10 ^d.length+dcN d:Nat):Int),k+d.length)
 | [],k,m,_,_=>by
  show ((m:Int),k)=(((m*1+0:Nat):Int),k+0)
  rw [Nat.mul_one,Nat.add_zero]
  rfl
 | c ::d,k,m,h,hb=>by
  obtain⟨h1,h2⟩:=allDB_cons h
  have e0:m*10 ^(c ::d).length+dcN (c ::d)=(m*10+(c.toNat-48))*10 ^d.length+dcN d:=by
   rw [dcN_cons,List.length_cons,Nat.pow_succ,Nat.add_mul,Nat.mul_assoc m 10,Nat.mul_comm 10,← Nat.add_assoc]
  have hlt:m*10+(c.toNat-48) < 1073741824:=by
   rw [e0] at hb
   have:(m*10+(c.toNat-48))*1≤(m*10+(c.toNat-48))*10 ^d.length:=Nat.mul_le_mul_left _ (Nat.pow_pos (by decide))
   omega
  conv=>lhs; unfold egt
  have hw:=worth_digit h1
  rw [if_pos (by rw [hw]; omega)]
  have hn:nxP (m:Int) (worthV (cI c))=((m*10+(c.toNat-48):Nat):Int):=by
   unfold nxP
   rw [hw,if_pos (by omega)]
   omega
  rw [hn,egt_digits d (k+1) _ h2 (by rw [← e0]; exact hb),e0,List.length_cons,show k+1+d.length=k+(d.length+1) by omega]
theorem dgU_nat {n:Nat} (h:n < 10):(dgU n).toNat=48+n:=by
 unfold dgU
 rw [UInt8.toNat_ofNat']
 exact Nat.mod_eq_of_lt (by show _ < 256; omega)
theorem allDB_app {a b:List UInt8} (h1:allDB a=true) (h2:allDB b=true):allDB (a++b)=true:=
 allDB_mem.2 fun c hc=>by
  rcases List.mem_append.1 hc with h | h
  ·exact allDB_mem.1 h1 c h
  ·exact allDB_mem.1 h2 c h
theorem intN_spec:∀ n:Nat,allDB (intN n)=true∧dcN (intN n)=n∧intN n≠[]
 | n=>by
  rw [intN_eq]
  by_cases h:n < 10
  ·rw [if_pos h]
   refine⟨allDB_mem.2 fun b hb=> ?_,?_,List.cons_ne_nil _ _⟩
   ·rw [List.mem_singleton.1 hb,dgU_nat h]
    omega
   ·rw [dcN_cons,dgU_nat h]
    show (48+n-48)*1+0=n
    omega
  ·rw [if_neg h]
   obtain⟨h1,h2,_⟩:=intN_spec (n/10)
   have hm:n%10 < 10:=Nat.mod_lt _ (by decide)
   refine⟨allDB_app h1 (allDB_mem.2 fun b hb=> ?_),?_,by simp⟩
   ·rw [List.mem_singleton.1 hb,dgU_nat hm]
    omega
   ·rw [dcN_append,h2,dcN_cons,dgU_nat hm]
    show n/10*10 ^1+((48+n%10-48)*1+0)=n
    omega
theorem sg_at {t:List UInt8} {k:Nat} {c:UInt8} {r:List UInt8} (h:t.drop k=c ::r):sgB t (k:Int)=decide (c=43∨c=45)∧(chI t (k:Int)==45)=decide (c=45):=by
 obtain⟨h1,_,h3⟩:=chI_drop h
 have q:∀ n:UInt8,((cI c)==cI n)=decide (c=n):=by
  intro n
  by_cases hc:c=n
  ·rw [hc,decide_eq_true rfl]
   exact beq_self_eq_true _
  ·rw [decide_eq_false hc]
   refine beq_false_of_ne fun e=>hc ?_
   have e:((c.toNat:Nat):Int)=((n.toNat:Nat):Int):=e
   exact UInt8.toNat_inj.1 (by omega)
 have q45:=q 45
 have q43:=q 43
 refine⟨?_,by rw [h1]; exact q45⟩
 unfold sgB
 rw [show ltE t (k:Int)=true from decide_eq_true (by omega),h1]
 have e43:(cI c==43)=decide (c=43):=q43
 have e45:(cI c==45)=decide (c=45):=q45
 show (match cI c==43 with | true=>true | false=>cI c==45)=_
 rw [e43,e45]
 by_cases h43:c=43
 ·rw [decide_eq_true h43,decide_eq_true (Or.inl h43)]
 ·rw [decide_eq_false h43]
  refine decide_eq_decide.2 ⟨Or.inr,fun h=>h.resolve_left h43⟩
theorem intN_head (n:Nat):∃ c r,intN n=c ::r∧48≤c.toNat∧c.toNat≤57:=by
 obtain⟨h1,_,h3⟩:=intN_spec n
 cases h:intN n with
 | nil=>exact absurd h h3
 | cons c r=>exact⟨c,r,rfl,allDB_mem.1 h1 c (by rw [h]; exact List.mem_cons_self)⟩
theorem exR_at {t:List UInt8} {a k m:Nat} (hk:exK t a=k) (h:t.drop k=intN m) (hm:m < 1000000):(exR t a)=((m:Int),t.length)∧k < t.length:=by
 obtain⟨h1,h2,h3⟩:=intN_spec m
 have hlen:t.length-k=(intN m).length:=by rw [← h,List.length_drop]
 have hpos:0 < (intN m).length:=List.length_pos_iff.2 h3
 unfold exR
 rw [hk,hlen,egt_eq t (intN m) k 0 h]
 have:=egt_digits (intN m) k 0 h1 (by rw [h2]; omega)
 rw [h2,Nat.zero_mul,Nat.zero_add] at this
 refine⟨?_,by omega⟩
 rw [show k+(intN m).length=t.length by omega] at this
 exact this
theorem ex_read {u:List UInt8} {c:UInt8} {x:Int} (hc:c=101∨c=69) (hu:u.length≤1000000) (hx: -1000000 < x∧x < 1000000):exV (u++c ::intV x) eE u.length=x∧exE (u++c ::intV x) eE u.length=(u++c ::intV x).length:=by
 have hd0:(u++c ::intV x).drop u.length=c ::intV x:=by rw [List.drop_left]
 have hd1:(u++c ::intV x).drop (u.length+1)=intV x:=(chI_drop hd0).2.1
 have hlt0:=(chI_drop hd0).2.2
 have htk:(u++c ::intV x).take (u.length+1)=u++[c] :=by
  rw [show u++c ::intV x=(u++[c])++intV x by simp]
  exact List.take_left' (by simp)
 generalize u++c ::intV x=t at*
 have hhd:hdB t eE (u.length:Int)=false:=by
  unfold hdB
  rw [show geB t (u.length:Int)=false from decide_eq_false (by omega)]
  have hs:subT t (u.length:Int)=[c] :=by
   unfold subT
   rw [wr (by omega) (by omega),Int.toNat_natCast,show (((u.length:Nat):Int)+1).toNat=u.length+1 by omega,htk,List.drop_left]
  rw [hs]
  rcases hc with rfl | rfl <;> decide
 have hh:¬hdB t eE (u.length:Int)=true:=by rw [hhd]; decide
 have V:¬(exR t u.length).2=exK t u.length→exV t eE u.length=if exN t u.length=true then -(exR t u.length).1 else (exR t u.length).1:=fun hne=>by unfold exV; rw [if_neg hh,if_neg hne]
 have E:¬(exR t u.length).2=exK t u.length→exE t eE u.length=(exR t u.length).2:=fun hne=>by unfold exE; rw [if_neg hh,if_neg hne]
 by_cases h0:x < 0
 ·have e1:intV x=45 ::intN (-x).toNat:=by unfold intV; rw [if_pos h0]
  rw [e1] at hd1
  obtain⟨s1,s2⟩:=sg_at hd1
  have hk:exK t u.length=u.length+2:=by unfold exK; rw [if_pos (by rw [s1]; decide)]
  obtain⟨g1,g2⟩:=exR_at (m:=(-x).toNat) hk (chI_drop hd1).2.1 (by omega)
  have hn:exN t u.length=true:=by
   unfold exN
   rw [s1,s2]
   decide
  rw [g1,hk] at V E
  have hne:¬t.length=u.length+2:=by omega
  refine⟨?_,E hne⟩
  rw [V hne,if_pos hn]
  show -(((-x).toNat:Nat):Int)=x
  omega
 ·have e1:intV x=intN x.toNat:=by unfold intV; rw [if_neg h0]
  rw [e1] at hd1
  obtain⟨q,r,hq,q1,q2⟩:=intN_head x.toNat
  have hd2:=hd1
  rw [hq] at hd2
  obtain⟨s1,s2⟩:=sg_at hd2
  have n1:¬(q=43∨q=45):=by
   rintro (h | h)
   ·rw [h] at q1; exact absurd q1 (by decide)
   ·rw [h] at q1; exact absurd q1 (by decide)
  have hsg:sgB t ((u.length+1:Nat):Int)=false:=by rw [s1]; exact decide_eq_false n1
  have hk:exK t u.length=u.length+1:=by unfold exK; rw [if_neg (by rw [hsg]; decide)]
  obtain⟨g1,g2⟩:=exR_at (m:=x.toNat) hk hd1 (by omega)
  have hn:exN t u.length=false:=by
   unfold exN
   rw [hsg]
   rfl
  rw [g1,hk] at V E
  have hne:¬t.length=u.length+1:=by omega
  refine⟨?_,E hne⟩
  rw [V hne,if_neg (by rw [hn]; decide)]
  show ((x.toNat:Nat):Int)=x
  omega
structure Mant where
 d1:List UInt8
 d2:List UInt8
 pt:Bool
def Mant.text (m:Mant):List UInt8:=if m.pt=true then m.d1++46 ::m.d2 else m.d1
def Mant.digs (m:Mant):List UInt8:=if m.pt=true then m.d1++m.d2 else m.d1
def Mant.beh (m:Mant):Nat:=if m.pt=true then m.d2.length else 0
def Mant.ok (m:Mant):Prop:=allDB m.d1=true∧allDB m.d2=true∧m.digs≠[] ∧m.text.length≤1000
theorem Mant.run (m:Mant) (h:m.ok) {c:UInt8} (hc:c=101∨c=69) (r:List UInt8):mgt 10 (m.text++c ::r) 0 (-1)=(if m.pt=true then (m.d1.length:Int) else -1,m.text.length):=by
 obtain⟨h1,h2,_,_⟩:=h
 obtain⟨d1,d2,pt⟩:=m
 cases pt with
 | true=>
  show mgt 10 ((d1++46 ::d2)++c ::r) 0 (-1)=((d1.length:Int),(d1++46 ::d2).length)
  rw [List.append_assoc,mgt_digits d1 _ 0 (-1) h1,Nat.zero_add,List.cons_append,mgt_dot,mgt_digits d2 _ _ _ h2,mgt_stop hc,List.length_append,List.length_cons]
  congr 1
  omega
 | false=>
  show mgt 10 (d1++c ::r) 0 (-1)=(-1,d1.length)
  rw [mgt_digits d1 _ 0 (-1) h1,mgt_stop hc,Nat.zero_add]
theorem no_x {t:List UInt8} (h:∀ c∈t,c≠120∧c≠88):hxB t=false:=by
 unfold hxB
 cases h0B t with
 | false=>rfl
 | true=>
  have q:∀ n:UInt8,n≠0→(∀ c∈t,c≠n)→(chI t 1==cI n)=false:=by
   intro n hn hne
   refine beq_false_of_ne fun e=> ?_
   have e:(((t.getD 1 0).toNat:Nat):Int)=((n.toNat:Nat):Int):=e
   have e2:t.getD 1 0=n:=UInt8.toNat_inj.1 (by omega)
   rw [List.getD_eq_getElem?_getD] at e2
   cases hg:t[1]? with
   | none=>rw [hg] at e2; exact hn e2.symm
   | some c=>
    rw [hg] at e2
    exact hne c (List.mem_of_getElem? hg) e2
  have q1:=q 120 (by decide) fun c hc=>(h c hc).1
  have q2:=q 88 (by decide) fun c hc=>(h c hc).2
  show (match chI t 1==cI 120 with | true=>true | false=>chI t 1==cI 88)=false
  rw [q1,q2]
theorem Mant.mem {m:Mant} (h:m.ok) {c:UInt8} (hc:c∈m.text):(48≤c.toNat∧c.toNat≤57)∨c=46:=by
 obtain⟨h1,h2,_,_⟩:=h
 unfold Mant.text at hc
 split at hc
 ·rcases List.mem_append.1 hc with h | h
  ·exact .inl (allDB_mem.1 h1 c h)
  ·rcases List.mem_cons.1 h with h | h
   ·exact .inr h
   ·exact .inl (allDB_mem.1 h2 c h)
 ·exact .inl (allDB_mem.1 h1 c hc)
theorem intV_mem {x:Int} {c:UInt8} (hc:c∈intV x):(48≤c.toNat∧c.toNat≤57)∨c=45:=by
 unfold intV at hc
 split at hc
 ·rcases List.mem_cons.1 hc with h | h
  ·exact .inr h
  ·exact .inl (allDB_mem.1 (intN_spec _).1 c h)
 ·exact .inl (allDB_mem.1 (intN_spec _).1 c hc)
def decT (m:Mant) (c:UInt8) (x:Int):List UInt8:=m.text++c ::intV x
theorem decT_mem {m:Mant} {e:UInt8} {x:Int} (h:m.ok) (he:e=101∨e=69) {c:UInt8} (hc:c∈decT m e x):((48≤c.toNat∧c.toNat≤57)∨c=46)∨c=101∨c=69∨c=45:=by
 rcases List.mem_append.1 hc with h1 | h1
 ·exact .inl (Mant.mem h h1)
 ·rcases List.mem_cons.1 h1 with h2 | h2
  ·rcases he with rfl | rfl
   ·exact .inr (.inl h2)
   ·exact .inr (.inr (.inl h2))
  ·rcases intV_mem h2 with h3 | h3
   ·exact .inl (.inl h3)
   ·exact .inr (.inr (.inr h3))
theorem bare_read {m:Mant} {c:UInt8} {x:Int} (h:m.ok) (hc:c=101∨c=69) (hx: -1000000 < x∧x < 1000000):
  bareH (decT m c x)=false∧bareS (decT m c x)=m.digs∧bareX (decT m c x)=x- (m.beh:Int)∧bareN (decT m c x)=(decT m c x).length:=by
 have hxb:hxB (decT m c x)=false:=no_x fun b hb=>by
  have key:∀ n:UInt8,((48≤n.toNat∧n.toNat≤57)∨n=46)∨n=101∨n=69∨n=45→n≠120∧n≠88:=by
   intro n hn
   refine⟨fun e=> ?_,fun e=> ?_⟩
   ·subst e; revert hn; decide
   ·subst e; revert hn; decide
  exact key b (decT_mem h hc hb)
 have hH:bareH (decT m c x)=false:=by unfold bareH; rw [hxb]; rfl
 have hrun:=Mant.run m h hc (intV x)
 have hgo:maGo (decT m c x) 10 ((decT m c x).length-0) 0 (-1)=(if m.pt=true then (m.d1.length:Int) else -1,m.text.length):=by
  rw [Nat.sub_zero,mgt_eq (decT m c x) 10 (decT m c x) 0 (-1) rfl]
  exact hrun
 have hP:maP (decT m c x) 0 10=if m.pt=true then (m.d1.length:Int) else -1:=by unfold maP; rw [hgo]
 have hE:maE (decT m c x) 0 10=m.text.length:=by unfold maE; rw [hgo]
 have hS:maS (decT m c x) 0 10=m.digs:=by
  unfold maS Mant.digs
  have htk:(decT m c x).take m.text.length=m.text:=List.take_left
  cases hp:m.pt with
  | false=>
   rw [hp,if_neg (by decide)] at hP
   rw [hP,hE,htk,if_pos (by decide),if_neg (by decide),List.drop_zero]
   unfold Mant.text
   rw [hp,if_neg (by decide)]
  | true=>
   rw [hp,if_pos rfl] at hP
   rw [hP,hE,htk,if_neg (by omega),if_pos rfl,Int.toNat_natCast,List.drop_zero]
   have e1:m.text=m.d1++46 ::m.d2:=by unfold Mant.text; rw [hp,if_pos rfl]
   have e2:(decT m c x).take m.d1.length=m.d1:=by
    unfold decT
    rw [e1,List.append_assoc]
    exact List.take_left
   rw [e2,e1,show m.d1++46 ::m.d2=(m.d1++[46])++m.d2 by simp]
   congr 1
   exact List.drop_left' (by simp)
 have hB:maB (decT m c x) 0 10=(m.beh:Int):=by
  unfold maB Mant.beh
  cases hp:m.pt with
  | false=>
   rw [hp,if_neg (by decide)] at hP
   rw [hP,if_pos (by decide),if_neg (by decide)]
   rfl
  | true=>
   rw [hp,if_pos rfl] at hP
   rw [hP,hE,if_neg (by omega),if_pos rfl]
   have e1:m.text=m.d1++46 ::m.d2:=by unfold Mant.text; rw [hp,if_pos rfl]
   rw [e1,List.length_append,List.length_cons]
   omega
 obtain⟨r1,r2⟩:=ex_read (u:=m.text) hc (by have:=h.2.2.2; omega) hx
 have hne:¬m.digs=[] :=h.2.2.1
 refine⟨hH,?_,?_,?_⟩
 ·unfold bareS
  rw [if_neg (by rw [hH]; decide)]
  exact hS
 ·unfold bareX
  rw [if_neg (by rw [hH]; decide),hS,if_neg hne,hE,hB]
  have r1:exV (decT m c x) eE m.text.length=x:=r1
  rw [r1]
 ·unfold bareN
  rw [if_neg (by rw [hH]; decide),hS,if_neg hne,hE]
  exact r2
theorem decT_len {m:Mant} {c:UInt8} {x:Int} (h:m.ok) (hx: -1000 < x∧x < 1000):(decT m c x).length≤2010:=by
 have h1:=h.2.2.2
 have h2:(intV x).length≤1002:=by
  unfold intV
  split
  ·have:=intN_len (-x).toNat
   rw [List.length_cons]
   omega
  ·have:=intN_len x.toNat
   omega
 unfold decT
 rw [List.length_append,List.length_cons]
 omega
theorem decT_cons {m:Mant} {c:UInt8} {x:Int} (h:m.ok):∃ b r,decT m c x=b ::r∧((48≤b.toNat∧b.toNat≤57)∨b=46):=by
 cases ht:m.text with
 | nil=>
  exfalso
  apply h.2.2.1
  unfold Mant.text at ht
  unfold Mant.digs
  split at ht
  ·exact absurd ht (by simp)
  ·rename_i hp
   rw [if_neg hp]
   exact ht
 | cons b r=>
  refine⟨b,r++c ::intV x,?_,Mant.mem h (by rw [ht]; exact List.mem_cons_self)⟩
  unfold decT
  rw [ht]
  rfl
inductive Sgn where
 | no
 | plus
 | minus
def Sgn.text:Sgn→List UInt8
 | .no=>[]
 | .plus=>[43]
 | .minus=>[45]
def Sgn.neg:Sgn→Bool
 | .minus=>true
 | _=>false
theorem sgn_split {s:Sgn} {m:Mant} {c:UInt8} {x:Int} (h:m.ok):negT (s.text++decT m c x)=s.neg∧restT (s.text++decT m c x)=decT m c x:=by
 obtain⟨b,r,hb,hr⟩:=decT_cons (c:=c) (x:=x) h
 unfold negT restT spB neB
 cases s with
 | no=>
  have n45:∀ n:UInt8,((48≤n.toNat∧n.toNat≤57)∨n=46)→(((n.toNat:Nat):Int)==45)=false∧(((n.toNat:Nat):Int)==43)=false:=by
   intro n hn
   have hn:(48≤n.toNat∧n.toNat≤57)∨n.toNat=46:=hn.imp id fun e=>by rw [e]; rfl
   exact⟨beq_false_of_ne (by omega),beq_false_of_ne (by omega)⟩
  obtain⟨q1,q2⟩:=n45 b hr
  show ((match !(decT m c x==[]) with | true=>(match chI (decT m c x) 0==45 with | true=>true | false=>chI (decT m c x) 0==43) | false=>false) && _)=false∧(if (match !(decT m c x==[]) with | true=>(match chI (decT m c x) 0==45 with | true=>true | false=>chI (decT m c x) 0==43) | false=>false)=true then _ else decT m c x)=_
  have e0:chI (decT m c x) 0=((b.toNat:Nat):Int):=by rw [hb]; rfl
  have e1:(decT m c x==[])=false:=by rw [hb]; rfl
  rw [e0,e1,q1,q2]
  exact⟨rfl,rfl⟩
 | plus=>exact⟨rfl,rfl⟩
 | minus=>exact⟨rfl,rfl⟩
end Go.Proofs.YtdgfhijnconaoaaGreatDoor
namespace Go.Proofs.YtdgfhijnconaoaaGreatDoor
open Go Go.RowKit Ev Wd VaS
theorem ofI_nat {x:Nat} (hx:x < 18446744073709551616):(BitVec.ofInt IntKind.u64.bits (x:Int)).toNat=x:=by
 show (BitVec.ofInt 64 (x:Int)).toNat=x
 rw [BitVec.ofInt_natCast,BitVec.toNat_ofNat]
 exact Nat.mod_eq_of_lt hx
theorem sgE_eq {x:Nat} (hx:x < 9223372036854775808):sgE x=x+9223372036854775808:=by
 unfold sgE
 have h3:(BitVec.ofInt IntKind.u64.bits (x:Int)&&& ~~~BitVec.ofInt IntKind.u64.bits 9223372036854775808).toNat=x:=by
  rw [BitVec.toNat_and,ofI_nat (by omega),show (~~~BitVec.ofInt IntKind.u64.bits 9223372036854775808).toNat=2 ^63-1 by decide]
  have:=Nat.and_two_pow_sub_one_eq_mod x 63
  rw [this]
  exact Nat.mod_eq_of_lt hx
 have hm:x < 2 ^63:=hx
 have h5:(BitVec.ofInt IntKind.u64.bits 13830554455654793216&&& BitVec.ofInt IntKind.u64.bits 9223372036854775808).toNat=9223372036854775808:=by decide
 rw [h3,u64l (n:=x) (by omega),h5]
 have h6:(BitVec.ofInt IntKind.u64.bits ((x:Nat):Int)||| BitVec.ofInt IntKind.u64.bits (IntKind.u64.wrap ((9223372036854775808:Nat):Int))).toNat=x+9223372036854775808:=by
  rw [BitVec.toNat_or,ofI_nat (by omega),show (BitVec.ofInt IntKind.u64.bits (IntKind.u64.wrap ((9223372036854775808:Nat):Int))).toNat=2 ^63*1 by decide,Nat.or_comm,← Nat.two_pow_add_eq_or_of_lt hm]
  omega
 rw [h6,u64l (by omega),Int.toNat_natCast]
theorem head_ne {t u:List UInt8} {b c:UInt8} {r q:List UInt8} (h1:t=b ::r) (h2:u=c ::q) (hn:b≠c):(t==u)=false:=by
 subst h1 h2
 refine beq_false_of_ne fun e=>hn ?_
 injection e
section
variable {s:Sgn} {m:Mant} {c:UInt8} {x:Int} (h:m.ok) (hc:c=101∨c=69) (hx: -1000 < x∧x < 1000)
include h hc hx
theorem read_dec:rdE (s.text++decT m c x)=0∧rdI (s.text++decT m c x)=false∧rdN (s.text++decT m c x)=s.neg∧rdPh (s.text++decT m c x)=false∧rdPs (s.text++decT m c x)=m.digs∧rdPx (s.text++decT m c x)=x- (m.beh:Int):=by
 obtain⟨g1,g2⟩:=sgn_split (s:=s) (c:=c) (x:=x) h
 obtain⟨r1,r2,r3,r4⟩:=bare_read h hc (x:=x) ⟨by omega,by omega⟩
 obtain⟨b,r,hb,hr⟩:=decT_cons (c:=c) (x:=x) h
 have hlen:=decT_len (c:=c) h hx
 have hsl:s.text.length≤1:=by cases s <;> decide
 have hL:rdL (s.text++decT m c x)=false:=by
  unfold rdL
  rw [List.length_append]
  exact decide_eq_false (by show ¬((8192:Int) < ((s.text.length+(decT m c x).length:Nat):Int)); omega)
 have hbn:∀ n:UInt8,n.toNat=78∨n.toNat=73→b≠n:=by
  intro n hn e
  rw [← e] at hn
  rcases hr with hr | hr
  ·omega
  ·rw [hr] at hn; revert hn; decide
 have hF:rdF (s.text++decT m c x)=false:=by
  unfold rdF
  cases s with
  | no=>exact head_ne (c:=78) (q:=[97,78]) (show [] ++decT m c x=b ::r from hb) rfl (hbn 78 (.inl rfl))
  | plus=>rfl
  | minus=>rfl
 have hG:rdG (s.text++decT m c x)=false:=by
  unfold rdG
  rw [g2]
  exact head_ne (c:=73) (q:=[110,102]) hb rfl (hbn 73 (.inr rfl))
 have hP:rdP (s.text++decT m c x)=true:=by unfold rdP; rw [hL,hF,hG]; rfl
 have hpos:0 < (decT m c x).length:=by rw [hb]; exact Nat.zero_lt_succ _
 have hNo:rdNo (s.text++decT m c x)=false:=by
  unfold rdNo
  rw [g2,r4]
  have e1:((((decT m c x).length:Nat):Int)==0)=false:=beq_false_of_ne (by omega)
  rw [e1]
  simp
 have hOk:rdOk (s.text++decT m c x)=true:=by unfold rdOk; rw [hP,hNo]; rfl
 refine⟨?_,?_,?_,?_,?_,?_⟩
 ·unfold rdE; rw [hL,hP,hNo]; rfl
 ·unfold rdI; rw [hL,hF,hG]; rfl
 ·unfold rdN; rw [hOk,g1]; rfl
 ·unfold rdPh; rw [hP,g2,r1]; rfl
 ·unfold rdPs; rw [hP,g2,r2]; rfl
 ·unfold rdPx; rw [hP,g2,r3]; rfl
end
theorem digs_ok {m:Mant} (h:m.ok):allDB m.digs=true∧m.digs.length≤1000∧m.beh≤1000:=by
 obtain⟨h1,h2,_,h4⟩:=h
 unfold Mant.digs Mant.beh
 unfold Mant.text at h4
 split
 ·rename_i hp
  rw [if_pos hp,List.length_append,List.length_cons] at h4
  exact⟨allDB_app h1 h2,by rw [List.length_append]; omega,by omega⟩
 ·rename_i hp
  rw [if_neg hp] at h4
  exact⟨h1,h4,by omega⟩
def txW (K:Nat) (L:Int) (m:Mant) (x:Int):Nat:=dcW K L (dcN m.digs) (x- (m.beh:Int))
theorem min_inf_lt {W:Nat} (h:¬9218868437227405312≤W):min W 9218868437227405312=W:=Nat.min_eq_left (by omega)
theorem parse_dec {s:Sgn} {m:Mant} {c:UInt8} {x:Int} (h:m.ok) (hc:c=101∨c=69) (hx: -1000 < x∧x < 1000):
  paE (s.text++decT m c x)=(if 9218868437227405312≤txW 53 (-1074) m x then 15 else 0)∧paW (s.text++decT m c x)=if 9218868437227405312≤txW 53 (-1074) m x then 0 else if s.neg=true then txW 53 (-1074) m x+9223372036854775808 else txW 53 (-1074) m x:=by
 obtain⟨r1,r2,r3,r4,r5,r6⟩:=read_dec (s:=s) h hc hx
 obtain⟨d1,d2,d3⟩:=digs_ok h
 obtain⟨w1,w2⟩:=neW_eq (d:=m.digs) (e:=x- (m.beh:Int)) d1 (by omega)
 have hX:paX (s.text++decT m c x)=min (txW 53 (-1074) m x) 9218868437227405312:=by
  unfold paX nrW
  rw [r4,r5,r6,if_neg (by decide)]
  exact w1
 have hZ:paZ (s.text++decT m c x)=0:=by
  unfold paZ nrE
  rw [r4,r5,r6,if_neg (by decide)]
  exact w2
 have hB:paB (s.text++decT m c x)=false:=by
  unfold paB
  rw [r1,r2]
  rfl
 have hle:paX (s.text++decT m c x)≤9218868437227405312:=by rw [hX]; exact Nat.min_le_right _ _
 have hI:paI (s.text++decT m c x)=decide (9218868437227405312≤txW 53 (-1074) m x):=by
  unfold paI
  rw [hZ,absL_eq (Nat.lt_of_le_of_lt hle (by decide)),gtL_eq hle (by decide),hX]
  show decide (9218868437227405311 < min (txW 53 (-1074) m x) 9218868437227405312)=_
  refine decide_eq_decide.2 ⟨fun q=> ?_,fun q=> ?_⟩
  ·have:=Nat.lt_min.1 q
   omega
  ·exact Nat.lt_min.2 ⟨by omega,by omega⟩
 have hb:¬paB (s.text++decT m c x)=true:=by rw [hB]; decide
 have hE:paE (s.text++decT m c x)=if paI (s.text++decT m c x)=true then 15 else paZ (s.text++decT m c x):=by unfold paE; rw [if_neg hb]
 have hW:paW (s.text++decT m c x)=if paI (s.text++decT m c x)=true then 0 else if paZ (s.text++decT m c x)≠0 then 0 else sgV (paX (s.text++decT m c x)) (rdN (s.text++decT m c x)):=by unfold paW; rw [if_neg hb]
 rw [hE,hW,hI,hZ]
 by_cases hi:9218868437227405312≤txW 53 (-1074) m x
 ·rw [decide_eq_true hi,if_pos hi,if_pos hi]
  exact⟨rfl,rfl⟩
 ·rw [decide_eq_false hi,if_neg hi,if_neg hi]
  refine⟨rfl,?_⟩
  show sgV (paX (s.text++decT m c x)) (rdN (s.text++decT m c x))=_
  rw [r3,hX,min_inf_lt hi]
  unfold sgV
  split
  ·exact sgE_eq (by omega)
  ·rfl
end Go.Proofs.YtdgfhijnconaoaaGreatDoor
namespace Go.Proofs.YtdgfhijnconaoaaGreatDoor
open Go Go.RowKit Ev Wd
abbrev Awake5:Prop:=Ev.Pure Tryz.prog J0 7 [] (.bool true)
noncomputable def tabDr:Tab:=tabAdd 7 (atS [([], .bool true)]) (tabAdd 9 specXp (tabAdd 11 specOr tab0))
theorem tabDr_ok (ha:Awake5):PcOk Tryz.prog J0 tabDr:=tabAdd_ok (atS_ok (fun p hp=>by simp only [List.mem_cons,List.not_mem_nil,or_false] at hp; subst hp; exact ha)) (tabAdd_ok specXp_ok (tabAdd_ok specOr_ok (tab0_ok _ _)))
noncomputable def mtabDr:MTab:=mtabAdd 8 specDig (mtabAdd 10 (liftS [shV] specPa) mtab0)
theorem mtabDr_ok:ClOk Tryz.prog J0 mtabDr:=mtabAdd_ok specDig_ok (mtabAdd_ok (liftS_ok _ specPa_ok) (mtab0_ok _ _))
noncomputable def bDr:Base:=⟨Tryz.prog,J0,false,tabDr,mtabDr,200,xtN0⟩
theorem bDr_ok (ha:Awake5):BaseOk bDr:=⟨progOk,tabDr_ok ha,mtabDr_ok,xtN0_ok⟩
noncomputable abbrev XDr:Cx:=bDr.cx 10
noncomputable def cR1:Code:=loopAt Tryz.prog 3 0
noncomputable def cR2:Code:=loopAt Tryz.prog 3 1
abbrev nrA (F G:Nat→Int) (n o m p:Nat) (e:Int):List Arg:=[dgA F n o,dgA G m p,iR e]
noncomputable def tNr (F G:Nat→Int) (n o m p:Nat) (e:Int) (a b:List UInt8):St:=⟨only 90 [(0, .slice (some ⟨11,o,some 12⟩) n 0),(1, .slice (some ⟨13,p,some 14⟩) m 0),(2, .int .i64 e),(6, .bool false),(7, .bool true),(8, .string ⟨⟨a⟩⟩),(9, .string ⟨⟨b⟩⟩)],[(11,AObj.fam (fun i=> .int .u8 (F i)) n 1 o),(13,AObj.fam (fun i=> .int .u8 (G i)) m 1 p)],15,[],[],0,none,[],15⟩
def lnL (a b:List UInt8):Bool:=decide (Int.ofNat a.length < Int.ofNat b.length)
def txE (a:List UInt8) (e:Int):List UInt8:=a++[101] ++intV (xpV e 360)
def gtB (a b:List UInt8):Bool:= !(Op.bytesLess a b || a==b)
def nrC (ta tb:List UInt8):Bool:=match paE tb==0 with | true=>decide (kyC (paW ta) (paW tb)≤0) | false=>false
def nrT (ta tb a b:List UInt8):Bool:=match paE tb==15 with | true=>true | false=>(match nrC ta tb with | true=>(match !(a==b) with | true=>true | false=>kyC (paW ta) (paW tb)==0) | false=>false)
def nrF (ta tb:List UInt8):Bool:=match paE ta==15 with | true=>paE tb==15 | false=>false
abbrev nrQ (ta tb:List UInt8):Prop:=paW ta < 18446744073709551616∧paW tb < 18446744073709551616
def nrP1 (ta tb a b:List UInt8):Prop:=condP [(15,!(a==b)),(11,nrC ta tb),(5,paE tb==0),(2,paE tb==15)] [(15,false),(11,true),(2,false)] →nrQ ta tb
def nrP2 (ta tb:List UInt8):Prop:=condP [(5,paE tb==0),(2,paE tb==15)] [(5,true),(2,false)] →nrQ ta tb
def rgE (e:Int):Prop:=(-9223372036854775808≤e∧e≤9223372036854775807)∧((0:Int)≤360∧(360:Int)≤1000)
def lE1 (a:List UInt8) (e:Int):Prop:=(a++[(101:UInt8)]).length+(intV (xpV e 360)).length≤9223372036854775807
def lE2 (a:List UInt8):Prop:=a.length+1≤9223372036854775807
section
variable (F G:Nat→Int) (n o m p:Nat) (e:Int) (a b c d:List UInt8) (r:Bool)
abbrev nrD (F G:Nat→Int) (n o m p:Nat):List Prop:=[dgOk (fun i=> .int .u8 (G i)) p p m m 40,dgOk (fun i=> .int .u8 (F i)) o o n n 40]
noncomputable abbrev nrL (F G:Nat→Int) (n o m p:Nat) (e:Int) (a b c d:List UInt8) (ds:List Bool):List Prop:=[LoopTo XDr cR2 (tNr F G n o m p e a b) (.exit 2) (tNr F G n o m p e c d),LoopTo XDr cR1 (semStart XDr 200 3 (nrA F G n o m p e) ds) (.exit 0) (tNr F G n o m p e a b)]
noncomputable abbrev nrS (F G:Nat→Int) (n o m p:Nat) (e:Int) (a b c d:List UInt8) (r:Bool) (ds:List Bool):=semR XDr [told (.exit 0) (fun _=>tNr F G n o m p e a b),told (.exit 2) (fun _=>tNr F G n o m p e c d)] 200 3 (nrA F G n o m p e) [.c (.v (.bool r))] ds
theorem nr_a (ha:Awake5) (hl:allP [1+a.length≤9223372036854775807,lnL a b=true]):Step XDr cR1 (tNr F G n o m p e a b) .normal (tNr F G n o m p e (48 ::a) b):=
 step_of (Base.cx_ok (bDr_ok ha) 10).1 progOk.mixed [] 200 [true] [] (by kernel_rfl) hl (by kernel_rfl) (by kernel_rfl)
theorem nr_ax (ha:Awake5) (hl:allP [lnL a b=false]):Step XDr cR1 (tNr F G n o m p e a b) (.exit 0) (tNr F G n o m p e a b):=
 step_of (Base.cx_ok (bDr_ok ha) 10).1 progOk.mixed [] 200 [false] [] (by kernel_rfl) hl (by kernel_rfl) (by kernel_rfl)
theorem nr_b (ha:Awake5) (hl:allP [1+b.length≤9223372036854775807,lnL b a=true]):Step XDr cR2 (tNr F G n o m p e a b) .normal (tNr F G n o m p e a (48 ::b)):=
 step_of (Base.cx_ok (bDr_ok ha) 10).1 progOk.mixed [] 200 [true] [] (by kernel_rfl) hl (by kernel_rfl) (by kernel_rfl)
theorem nr_bx (ha:Awake5) (hl:allP [lnL b a=false]):Step XDr cR2 (tNr F G n o m p e a b) (.exit 2) (tNr F G n o m p e a b):=
 step_of (Base.cx_ok (bDr_ok ha) 10).1 progOk.mixed [] 200 [false] [] (by kernel_rfl) hl (by kernel_rfl) (by kernel_rfl)
theorem nr_into {x:AX} {s':St} (ds:List Bool) (h:LoopTo XDr cR1 (tNr F G n o m p e (dgT (dgs F (min n 40))) (dgT (dgs G (min m 40)))) x s'):LoopTo XDr cR1 (semStart XDr 200 3 (nrA F G n o m p e) ds) x s':=
 loop_into' h [] (by kernel_rfl) (by kernel_rfl) (by kernel_rfl)
theorem nr_00:nrS F G n o m p e a b c d r [false,false,false] =some ([nrP1 (txE c e) (txE d e) c d,nrP2 (txE c e) (txE d e),(paE (txE c e) !=0)=false,false=false,lE1 d e,lE2 d,lE1 c e,lE2 c,rgE e,gtB c d=false] ++nrL F G n o m p e a b c d [false,false,false] ++nrD F G n o m p++[Value.bool (nrT (txE c e) (txE d e) c d)=Value.bool r]):=by kernel_rfl
theorem nr_01:nrS F G n o m p e a b c d r [false,false,true] =some ([(paE (txE c e) !=0)=true,false=false,lE1 d e,lE2 d,lE1 c e,lE2 c,rgE e,gtB c d=false] ++nrL F G n o m p e a b c d [false,false,true] ++nrD F G n o m p++[Value.bool (nrF (txE c e) (txE d e))=Value.bool r]):=by kernel_rfl
theorem nr_10:nrS F G n o m p e a b c d r [true,false,false] =some ([nrP1 (txE d e) (txE c e) d c,nrP2 (txE d e) (txE c e),(paE (txE d e) !=0)=false,false=false,lE1 c e,lE2 c,lE1 d e,lE2 d,rgE e,gtB c d=true] ++nrL F G n o m p e a b c d [true,false,false] ++nrD F G n o m p++[Value.bool (nrT (txE d e) (txE c e) d c)=Value.bool r]):=by kernel_rfl
theorem nr_11:nrS F G n o m p e a b c d r [true,false,true] =some ([(paE (txE d e) !=0)=true,false=false,lE1 c e,lE2 c,lE1 d e,lE2 d,rgE e,gtB c d=true] ++nrL F G n o m p e a b c d [true,false,true] ++nrD F G n o m p++[Value.bool (nrF (txE d e) (txE c e))=Value.bool r]):=by kernel_rfl
end
end Go.Proofs.YtdgfhijnconaoaaGreatDoor
namespace Go.Proofs.YtdgfhijnconaoaaGreatDoor
open Go Go.RowKit Ev Wd
theorem dgs_dig (F:Nat→Int) (N:Nat):allDB (dgs F N)=true:=allDB_mem.2 fun b hb=>by
 unfold dgs at hb
 obtain⟨i,_,rfl⟩:=List.mem_map.1 hb
 rw [dB_nat]
 have:=Nat.mod_lt (F i).toNat (show 0 < 10 by decide)
 omega
theorem dgT_dig {l:List UInt8} (h:allDB l=true) (k:Nat) (hl:l.length≤k) (hk:1≤k):allDB (dgT l)=true∧dgT l≠[] ∧(dgT l).length≤k:=by
 unfold dgT
 have h1:=trimL_len l
 cases ht:trimL l with
 | nil=>exact⟨by decide,by decide,hk⟩
 | cons c r=>
  rw [ht] at h1
  exact⟨allDB_mem.2 fun b hb=>allDB_mem.1 h b (trimL_mem (by rw [ht]; exact hb)),List.cons_ne_nil _ _,by show (c ::r).length≤k; omega⟩
theorem less_num:∀ {a b:List UInt8},allDB a=true→allDB b=true→a.length=b.length→Op.bytesLess a b=true→dcN a≤dcN b
 | [],[],_,_,_,h=>by cases h
 | [],_ ::_,_,_,hl,_=>by cases hl
 | _ ::_,[],_,_,hl,_=>by cases hl
 | a ::x,b ::y,ha,hb,hl,h=>by
  obtain⟨a1,a2⟩:=allDB_cons ha
  obtain⟨b1,b2⟩:=allDB_cons hb
  have hl:x.length=y.length:=by simpa using hl
  rw [dcN_cons,dcN_cons,hl]
  unfold Op.bytesLess at h
  rw [Bool.or_eq_true,decide_eq_true_eq,Bool.and_eq_true,beq_iff_eq] at h
  rcases h with h | ⟨h1,h2⟩
  ·have hlt:a.toNat < b.toNat:=h
   have hx:=dcN_lt a2
   rw [hl] at hx
   have:(a.toNat-48+1)*10 ^y.length≤(b.toNat-48)*10 ^y.length:=Nat.mul_le_mul_right _ (by omega)
   rw [Nat.add_mul,Nat.one_mul] at this
   omega
  ·have:=less_num a2 b2 hl h2
   rw [h1]
   omega
theorem notless_num:∀ {a b:List UInt8},allDB a=true→allDB b=true→a.length=b.length→Op.bytesLess a b=false→dcN b≤dcN a
 | [],[],_,_,_,_=>Nat.le_refl _
 | [],_ ::_,_,_,hl,_=>by cases hl
 | _ ::_,[],_,_,hl,_=>by cases hl
 | a ::x,b ::y,ha,hb,hl,h=>by
  obtain⟨a1,a2⟩:=allDB_cons ha
  obtain⟨b1,b2⟩:=allDB_cons hb
  have hl:x.length=y.length:=by simpa using hl
  rw [dcN_cons,dcN_cons,hl]
  unfold Op.bytesLess at h
  rw [Bool.or_eq_false_iff,decide_eq_false_iff_not,Bool.and_eq_false_iff] at h
  obtain⟨h1,h2⟩:=h
  have h1:¬a.toNat < b.toNat:=h1
  by_cases he:a=b
  ·have h2:Op.bytesLess x y=false:=by
    rcases h2 with h2 | h2
    ·rw [he] at h2
     exact absurd (beq_self_eq_true b) (by rw [h2]; decide)
    ·exact h2
   have:=notless_num a2 b2 hl h2
   rw [he]
   omega
  ·have hlt:b.toNat < a.toNat:=by
    have:a.toNat≠b.toNat:=fun e=>he (UInt8.toNat_inj.1 e)
    omega
   have hy:=dcN_lt b2
   have:(b.toNat-48+1)*10 ^y.length≤(a.toNat-48)*10 ^y.length:=Nat.mul_le_mul_right _ (by omega)
   rw [Nat.add_mul,Nat.one_mul] at this
   omega
theorem gtB_num {a b:List UInt8} (ha:allDB a=true) (hb:allDB b=true) (hl:a.length=b.length):(gtB a b=true→dcN b≤dcN a)∧(gtB a b=false→dcN a≤dcN b):=by
 unfold gtB
 refine⟨fun h=> ?_,fun h=> ?_⟩
 ·cases h1:Op.bytesLess a b with
  | true=>rw [h1] at h; cases h
  | false=>exact notless_num ha hb hl h1
 ·cases h1:Op.bytesLess a b with
  | true=>exact less_num ha hb hl h1
  | false=>
   rw [h1] at h
   have:(a==b)=true:=by
    cases hq:(a==b) with
    | true=>rfl
    | false=>rw [hq] at h; cases h
   rw [eq_of_beq this]
   exact Nat.le_refl _
theorem keyI_low {w:Nat} (h:w < 9218868437227405312):VaS.keyI w=(w:Int):=by
 have hm:w%VaS.p63=w:=Nat.mod_eq_of_lt (by unfold VaS.p63; omega)
 unfold VaS.keyI VaS.nanB
 rw [hm,decide_eq_false (by omega),if_neg (by decide),if_neg (by unfold VaS.p63; omega)]
theorem kyC_low {v w:Nat} (hv:v < 9218868437227405312) (hw:w < 9218868437227405312) (h:v≤w):kyC v w=if v < w then -1 else 0:=by
 unfold kyC kyL
 rw [keyI_low hv,keyI_low hw]
 by_cases h1:v < w
 ·rw [if_pos (decide_eq_true (by omega)),if_pos h1]
 ·rw [if_neg (by rw [decide_eq_false (by omega)]; decide),if_neg (by rw [decide_eq_false (by omega)]; decide),if_neg h1]
theorem dcW_mono {K:Nat} {L:Int} (hK:0 < K) {n n':Nat} (h:n≤n') (e:Int):dcW K L n e≤dcW K L n' e:=by
 unfold dcW
 exact rwd_mono hK (pD_pos (by decide) e) (Nat.mul_le_mul_right _ h)
abbrev dM (c:List UInt8):Mant:=⟨c,[],false⟩
theorem txE_dec (c:List UInt8) (e:Int):txE c e=Sgn.no.text++decT (dM c) 101 (xpV e 360):=by
 unfold txE decT Sgn.text Mant.text
 rw [if_neg (by intro h; cases h),List.append_assoc]
 rfl
theorem dM_ok {c:List UInt8} (h:allDB c=true) (hne:c≠[]) (hl:c.length≤40):(dM c).ok:=by
 refine⟨h,rfl,?_,?_⟩
 ·unfold Mant.digs
  rw [if_neg (by intro h; cases h)]
  exact hne
 ·unfold Mant.text
  rw [if_neg (by intro h; cases h)]
  show c.length≤1000
  omega
theorem paW_any (s:Sgn) {m:Mant} {c:UInt8} {x:Int} (h:m.ok) (hc:c=101∨c=69) (hx: -1000 < x∧x < 1000):paW (s.text++decT m c x) < 18446744073709551616:=by
 rw [(parse_dec h hc hx).2]
 split
 ·decide
 ·split <;> omega
section
variable {c d:List UInt8} {e:Int} (hc:allDB c=true) (hd:allDB d=true) (nc:c≠[]) (nd:d≠[]) (lc:c.length≤40) (ld:d.length≤40) (hle:dcN c≤dcN d)
include hc hd nc nd lc ld hle
theorem rise_pair:((paE (txE c e) !=0)=false→nrT (txE c e) (txE d e) c d=true)∧((paE (txE c e) !=0)=true→nrF (txE c e) (txE d e)=true):=by
 have hx:=xpV_range e 360
 have hx2: -1000 < xpV e 360∧xpV e 360 < 1000:=by omega
 obtain⟨p1,p2⟩:=parse_dec (s:= .no) (dM_ok hc nc lc) (.inl rfl:(101:UInt8)=101∨_) hx2
 obtain⟨q1,q2⟩:=parse_dec (s:= .no) (dM_ok hd nd ld) (.inl rfl:(101:UInt8)=101∨_) hx2
 rw [← txE_dec] at p1 p2 q1 q2
 have hW:txW 53 (-1074) (dM c) (xpV e 360)≤txW 53 (-1074) (dM d) (xpV e 360):=dcW_mono (by decide) hle _
 have heq:c=d→txW 53 (-1074) (dM c) (xpV e 360)=txW 53 (-1074) (dM d) (xpV e 360):=fun h=>by rw [h]
 have hz:∀ v w:Nat,(if Sgn.no.neg=true then v else w)=w:=fun _ _=>rfl
 rw [hz] at p2 q2
 generalize txW 53 (-1074) (dM c) (xpV e 360)=V at*
 generalize txW 53 (-1074) (dM d) (xpV e 360)=W at*
 unfold nrT nrF nrC
 rw [p1,p2,q1,q2]
 by_cases h1:9218868437227405312≤V
 ·rw [if_pos h1,if_pos (Nat.le_trans h1 hW)]
  exact⟨fun h=>absurd h (by decide),fun _=>rfl⟩
 ·rw [if_neg h1]
  refine⟨fun _=> ?_,fun h=>absurd h (by decide)⟩
  by_cases h2:9218868437227405312≤W
  ·rw [if_pos h2]
   rfl
  ·rw [if_neg h2,if_neg h1,if_neg h2]
   have hk:=kyC_low (show V < 9218868437227405312 by omega) (show W < 9218868437227405312 by omega) hW
   show (match decide (kyC V W≤0) with | true=>(match !(c==d) with | true=>true | false=>kyC V W==0) | false=>false)=true
   rw [hk,decide_eq_true (show (if V < W then (-1:Int) else 0)≤0 by split <;> omega)]
   by_cases he:c=d
   ·rw [if_neg (by rw [heq he]; exact Nat.lt_irrefl _),he,beq_self_eq_true]
    rfl
   ·rw [beq_false_of_ne he]
    rfl
end
theorem pad_dig {a:List UInt8} (k:Nat) (h:allDB a=true):allDB (List.replicate k 48++a)=true:=
 allDB_app (allDB_mem.2 fun b hb=>by rw [List.eq_of_mem_replicate hb]; decide) h
theorem intV_len (e:Int) (m:Nat) (hm:m≤1000):(intV (xpV e m)).length≤2000:=by
 have hx:=xpV_range e m
 unfold intV
 split
 ·have:=intN_len (-(xpV e m)).toNat
  rw [List.length_cons]
  omega
 ·have:=intN_len (xpV e m).toNat
  omega
section
variable {F G:Nat→Int} {n o m p:Nat} {e:Int} (ha:Awake5)
include ha
theorem nr_loop1 (a b:List UInt8) (hl:a.length≤1000∧b.length≤1000):LoopTo XDr cR1 (tNr F G n o m p e a b) (.exit 0) (tNr F G n o m p e (List.replicate (b.length-a.length) 48++a) b):=by
 have h:=loop_run (X:=XDr) (c:=cR1) (fun i=>tNr F G n o m p e (List.replicate i 48++a) b) (b.length-a.length) (x:= .exit 0) (s':=tNr F G n o m p e (List.replicate (b.length-a.length) 48++a) b) (by intro e; cases e) (fun i hi=> ?_) ?_
 ·exact h
 ·have hlen:(List.replicate i (48:UInt8)++a).length=i+a.length:=by rw [List.length_append,List.length_replicate]
  have:=nr_a F G n o m p e (List.replicate i 48++a) b ha ⟨by omega,decide_eq_true (by show ((List.replicate i (48:UInt8)++a).length:Int) < (b.length:Int); omega),trivial⟩
  rw [← List.cons_append,← List.replicate_succ] at this
  exact this
 ·have hlen:(List.replicate (b.length-a.length) (48:UInt8)++a).length=b.length-a.length+a.length:=by rw [List.length_append,List.length_replicate]
  exact nr_ax F G n o m p e _ b ha ⟨decide_eq_false (by show ¬((List.replicate (b.length-a.length) (48:UInt8)++a).length:Int) < (b.length:Int); omega),trivial⟩
theorem nr_loop2 (a b:List UInt8) (hl:a.length≤1000∧b.length≤1000):LoopTo XDr cR2 (tNr F G n o m p e a b) (.exit 2) (tNr F G n o m p e a (List.replicate (a.length-b.length) 48++b)):=by
 have h:=loop_run (X:=XDr) (c:=cR2) (fun i=>tNr F G n o m p e a (List.replicate i 48++b)) (a.length-b.length) (x:= .exit 2) (s':=tNr F G n o m p e a (List.replicate (a.length-b.length) 48++b)) (by intro e; cases e) (fun i hi=> ?_) ?_
 ·exact h
 ·have hlen:(List.replicate i (48:UInt8)++b).length=i+b.length:=by rw [List.length_append,List.length_replicate]
  have:=nr_b F G n o m p e a (List.replicate i 48++b) ha ⟨by omega,decide_eq_true (by show ((List.replicate i (48:UInt8)++b).length:Int) < (a.length:Int); omega),trivial⟩
  rw [← List.cons_append,← List.replicate_succ] at this
  exact this
 ·have hlen:(List.replicate (a.length-b.length) (48:UInt8)++b).length=a.length-b.length+b.length:=by rw [List.length_append,List.length_replicate]
  exact nr_bx F G n o m p e a _ ha ⟨decide_eq_false (by show ¬((List.replicate (a.length-b.length) (48:UInt8)++b).length:Int) < (a.length:Int); omega),trivial⟩
theorem numberRises_sem (hF:∀ i,i < n→0≤F i∧F i < 256) (hG:∀ i,i < m→0≤G i∧G i < 256) (he: -9223372036854775808≤e∧e≤9223372036854775807):
  Ev.Sem Tryz.prog J0 3 (nrA F G n o m p e) [.c (.v (.bool true))] :=by
 obtain⟨a1,a2,a3⟩:=dgT_dig (dgs_dig F (min n 40)) 40 (by rw [dgs_len]; exact Nat.min_le_right _ _) (by decide)
 obtain⟨b1,b2,b3⟩:=dgT_dig (dgs_dig G (min m 40)) 40 (by rw [dgs_len]; exact Nat.min_le_right _ _) (by decide)
 have hI:=fun ds {x:AX} {s':St} =>nr_into F G n o m p e (x:=x) (s':=s') ds
 generalize dgT (dgs F (min n 40))=a at*
 generalize dgT (dgs G (min m 40))=b at*
 have l1:=nr_loop1 (F:=F) (G:=G) (n:=n) (o:=o) (m:=m) (p:=p) (e:=e) ha a b ⟨by omega,by omega⟩
 have lc:(List.replicate (b.length-a.length) (48:UInt8)++a).length=max a.length b.length:=by rw [List.length_append,List.length_replicate]; omega
 have l2:=nr_loop2 (F:=F) (G:=G) (n:=n) (o:=o) (m:=m) (p:=p) (e:=e) ha (List.replicate (b.length-a.length) 48++a) b ⟨by omega,by omega⟩
 have ld:(List.replicate ((List.replicate (b.length-a.length) (48:UInt8)++a).length-b.length) (48:UInt8)++b).length=max a.length b.length:=by rw [List.length_append,List.length_replicate,lc]; omega
 have c1:=pad_dig (b.length-a.length) a1
 have d1:=pad_dig ((List.replicate (b.length-a.length) (48:UInt8)++a).length-b.length) b1
 have c2:List.replicate (b.length-a.length) (48:UInt8)++a≠[] :=by simp [a2]
 have d2:List.replicate ((List.replicate (b.length-a.length) (48:UInt8)++a).length-b.length) (48:UInt8)++b≠[] :=by simp [b2]
 generalize List.replicate ((List.replicate (b.length-a.length) (48:UInt8)++a).length-b.length) (48:UInt8)++b=d at*
 generalize List.replicate (b.length-a.length) (48:UInt8)++a=c at*
 have hlen:=intV_len e 360 (by decide)
 have e1:∀ q:List UInt8,q.length≤40→lE1 q e:=fun q hq=>by
  unfold lE1
  rw [List.length_append,List.length_singleton]
  omega
 have e2:∀ q:List UInt8,q.length≤40→lE2 q:=fun q hq=>by unfold lE2; omega
 have hr:rgE e:=⟨he,by decide,by decide⟩
 have hx:=xpV_range e 360
 have hw:∀ q:List UInt8,allDB q=true→q≠[] →q.length≤40→paW (txE q e) < 18446744073709551616:=fun q q1 q2 q3=>by
  rw [txE_dec]
  exact paW_any .no (dM_ok q1 q2 q3) (.inl rfl) ⟨by omega,by omega⟩
 have hc40:c.length≤40:=by omega
 have hd40:d.length≤40:=by omega
 have hD:allP (nrD F G n o m p):=⟨⟨rfl,rfl,rfl,⟨by decide,by decide⟩,hG⟩,⟨rfl,rfl,rfl,⟨by decide,by decide⟩,hF⟩,trivial⟩
 obtain⟨g1,g2⟩:=gtB_num c1 d1 (by omega)
 cases hg:gtB c d with
 | false=>
  obtain⟨k1,k2⟩:=rise_pair (e:=e) c1 d1 c2 d2 hc40 hd40 (g2 hg)
  cases hE:(paE (txE c e) !=0) with
  | false=>
   refine sem_of (bDr_ok ha) 10 _ _ (nr_00 F G n o m p e c b c d true) (ap2 (ap2 (ap2 ⟨fun _=>⟨hw c c1 c2 hc40,hw d d1 d2 hd40⟩,fun _=>⟨hw c c1 c2 hc40,hw d d1 d2 hd40⟩,hE,rfl,e1 d hd40,e2 d hd40,e1 c hc40,e2 c hc40,hr,hg,trivial⟩ ?_) hD) ⟨by rw [k1 hE],trivial⟩)
   exact⟨l2,hI [false,false,false] l1,trivial⟩
  | true=>
   refine sem_of (bDr_ok ha) 10 _ _ (nr_01 F G n o m p e c b c d true) (ap2 (ap2 (ap2 ⟨hE,rfl,e1 d hd40,e2 d hd40,e1 c hc40,e2 c hc40,hr,hg,trivial⟩ ?_) hD) ⟨by rw [k2 hE],trivial⟩)
   exact⟨l2,hI [false,false,true] l1,trivial⟩
 | true=>
  obtain⟨k1,k2⟩:=rise_pair (e:=e) d1 c1 d2 c2 hd40 hc40 (g1 hg)
  cases hE:(paE (txE d e) !=0) with
  | false=>
   refine sem_of (bDr_ok ha) 10 _ _ (nr_10 F G n o m p e c b c d true) (ap2 (ap2 (ap2 ⟨fun _=>⟨hw d d1 d2 hd40,hw c c1 c2 hc40⟩,fun _=>⟨hw d d1 d2 hd40,hw c c1 c2 hc40⟩,hE,rfl,e1 c hc40,e2 c hc40,e1 d hd40,e2 d hd40,hr,hg,trivial⟩ ?_) hD) ⟨by rw [k1 hE],trivial⟩)
   exact⟨l2,hI [true,false,false] l1,trivial⟩
  | true=>
   refine sem_of (bDr_ok ha) 10 _ _ (nr_11 F G n o m p e c b c d true) (ap2 (ap2 (ap2 ⟨hE,rfl,e1 c hc40,e2 c hc40,e1 d hd40,e2 d hd40,hr,hg,trivial⟩ ?_) hD) ⟨by rw [k2 hE],trivial⟩)
   exact⟨l2,hI [true,false,true] l1,trivial⟩
end
end Go.Proofs.YtdgfhijnconaoaaGreatDoor
namespace Go.Proofs.YtdgfhijnconaoaaGreatDoor
open Go Go.RowKit Ev Wd
def inW (x:Int):Bool:=match x with
 | .ofNat n=>Nat.blt n 18446744073709551616
 | .negSucc _=>false
theorem inW_spec {x:Int} (h:inW x=true):0≤x∧x < 18446744073709551616:=by
 unfold inW at h
 split at h
 ·simp only [Nat.blt_eq] at h
  constructor <;> simp <;> omega
 ·cases h
def cMul64:List Value→Option (Value×List Prop)
 | [.int .u64 x, .int .u64 y] =>match inW x,inW y with
  | true,true=>some (.tuple ⟨[.int .u64 (Int.ofNat (x.toNat*y.toNat/18446744073709551616)), .int .u64 (Int.ofNat (x.toNat*y.toNat%18446744073709551616))]⟩,[])
  | _,_=>none
 | _=>none
def cDiv64:List Value→Option (Value×List Prop)
 | [.int .u64 hi, .int .u64 lo, .int .u64 y] =>match inW hi,inW lo,inW y,Nat.blt hi.toNat y.toNat with
  | true,true,true,true=>some (.tuple ⟨[.int .u64 (Int.ofNat ((hi.toNat*18446744073709551616+lo.toNat)/y.toNat)), .int .u64 (Int.ofNat ((hi.toNat*18446744073709551616+lo.toNat)%y.toNat))]⟩,[])
  | _,_,_,_=>none
 | _=>none
theorem cMul64_ok (args:List Value) (v:Value) (l:List Prop) (h:cMul64 args=some (v,l)) (_:allP l):Pure Tryz.prog J0 145 args v:=by
 unfold cMul64 at h
 split at h
 case h_2=>cases h
 rename_i x y
 split at h
 case h_2=>cases h
 rename_i hx hy
 cases h
 have hx:=inW_spec hx
 have hy:=inW_spec hy
 have:=specMul64_ok [.int .u64 x, .int .u64 y] _ _ rfl ⟨⟨hx,hy⟩,trivial⟩
 exact this
theorem cDiv64_ok (args:List Value) (v:Value) (l:List Prop) (h:cDiv64 args=some (v,l)) (_:allP l):Pure Tryz.prog J0 196 args v:=by
 unfold cDiv64 at h
 split at h
 case h_2=>cases h
 rename_i hi lo y
 split at h
 case h_2=>cases h
 rename_i h1 h2 h3 h4
 cases h
 have h1:=inW_spec h1
 have h2:=inW_spec h2
 have h3:=inW_spec h3
 simp only [Nat.blt_eq] at h4
 have:=specDiv64_ok [.int .u64 hi, .int .u64 lo, .int .u64 y] _ _ rfl ⟨⟨⟨h1.1,by omega⟩,h2,h3.2⟩,trivial⟩
 exact this
noncomputable def tabT1:Tab:=tabAdd 145 cMul64 (tabAdd 196 cDiv64 tabN1)
theorem tabT1_ok:PcOk Tryz.prog J0 tabT1:=tabAdd_ok cMul64_ok (tabAdd_ok cDiv64_ok tabN1_ok)
noncomputable def bT1:Base:=⟨Tryz.prog,J0,true,tabT1,mtab0,2000,xtN0⟩
theorem bT1_ok:BaseOk bT1:=⟨progOk,tabT1_ok,mtab0_ok _ _,xtN0_ok⟩
end Go.Proofs.YtdgfhijnconaoaaGreatDoor
