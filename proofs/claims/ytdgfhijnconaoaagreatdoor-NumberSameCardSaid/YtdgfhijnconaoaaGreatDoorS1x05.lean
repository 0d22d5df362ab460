/-
 NumberSame: a number read from several spellings of the same value is the same; no condition (a part of the proof).
-/
import Derived.Test.YtdgfhijnconaoaaGreatDoorS1x04
import Derived.Shelf.Strconv.ParseUint10At
import Derived.Lib.AtoiTie
import Derived.Lib.AtoiErrMem
import Derived.Lib.ParseIntBCases
import GoSem.ClaimJoined
import Derived.Lib.Bytealg
set_option maxRecDepth 1000000
namespace Go.Proofs.YtdgfhijnconaoaaGreatDoor
open Go Go.RowKit Ev Wd
noncomputable def r1c:Code:=A2 Tryz.prog 148 0
def b1t (Z Y L:List Int) (nz ny nl:Nat) (sh n i:Int):St:=⟨only 102 [(4, .pointer (some ⟨17,0,none⟩)),(5, .pointer (some ⟨18,0,none⟩)),(8, .int .i64 sh),(9,slV 19 ny),(10,slV 21 nz),(11, .int .i64 n),(12,slV 25 nl),(13, .int .i64 i)],[(25, .row T8 1 (.ints .u64 L) 26),(21, .row T8 1 (.ints .u64 Z) 22),(19, .row T8 1 (.ints .u64 Y) 20),(18, .cells [.bool false, .slice none 0 0] kW),(17, .cells [.bool false, .slice none 0 0] kW)],27,[],[],0,none,[],15⟩
def y1j (i n:Int):Nat:=(IntKind.i64.wrap (IntKind.i64.wrap (i+n)+1)).toNat-i.toNat
abbrev d0w (a b:Bool) (xs ys:List Int):List Arg:=[iL a xs,iL b ys]
theorem i1h (Z Y L:List Int) (nz ny nl:Nat) (sh n i:Int) (hl:d5 [n7 0 i.toNat < L.length,(Int.ofNat 0≤i∧i < Int.ofNat nl)∧0 < L.length,n7 0 i.toNat=n7 0 i.toNat∧(IntKind.i64.wrap (IntKind.i64.wrap (i+n)+Int.ofNat 1)).toNat-i.toNat=(List.take ny Y).length.succ,n7 0 i.toNat+((IntKind.i64.wrap (IntKind.i64.wrap (i+n)+Int.ofNat 1)).toNat-i.toNat)≤Z.length∧Z.length < 1099511627776,Dg 18446744073709551616 Z,Cn (List.take ny Y),(List.take ny Y).length < 274877906944,0 < val 18446744073709551616 (List.take ny Y),x1u Z (List.take ny Y) (n7 0 i.toNat) ((IntKind.i64.wrap (IntKind.i64.wrap (i+n)+Int.ofNat 1)).toNat-i.toNat),ny≤Y.length,0=0∧Int.ofNat 0≤i∧i≤IntKind.i64.wrap (IntKind.i64.wrap (i+n)+Int.ofNat 1)∧(i=Int.ofNat 0∨i < IntKind.i64.wrap (IntKind.i64.wrap (i+n)+Int.ofNat 1))∧0+(IntKind.i64.wrap (IntKind.i64.wrap (i+n)+Int.ofNat 1)).toNat*1≤Z.length,decide (Int.ofNat 0≤i)=true]):o9 XW6 r1c (b1t Z Y L nz ny nl sh n i) .normal (b1t (b0i Z (Y.take ny) (n7 0 i.toNat) (y1j i n)) Y (bM L (n7 0 i.toNat) (p0q Z (Y.take ny) (n7 0 i.toNat) (y1j i n))) nz ny nl sh n (IntKind.i64.wrap (i-1))):=
 b7 (Base.cx_ok T6 10).1 progOk.mixed [] 200 [true] [] (by kernel_rfl) hl (by kernel_rfl) (by kernel_rfl)
theorem l1n (Z Y L:List Int) (nz ny nl:Nat) (sh n i:Int) (hl:d5 [decide (Int.ofNat 0≤i)=false]):o9 XW6 r1c (b1t Z Y L nz ny nl sh n i) (.exit 1) (b1t Z Y L nz ny nl sh n i):=
 b7 (Base.cx_ok T6 10).1 progOk.mixed [] 200 [false] [] (by kernel_rfl) hl (by kernel_rfl) (by kernel_rfl)
theorem k0z (a b:Bool) (xs ys:List Int):k0a XW6 [] 200 148 (F3 (d0w a b xs ys) (E4 XW6.P.globals.size (n9 (d0w a b xs ys))).1) (E4 XW6.P.globals.size (n9 (d0w a b xs ys))).2.1 (E4 XW6.P.globals.size (n9 (d0w a b xs ys))).2.2 [true] =some { v:=Value.tuple { toList:=[Value.agg { toList:=[Value.bool false,Value.slice none 0 0]},Value.agg { toList:=[Value.bool a,Value.slice (some { block:=11,off:=0,spot:=some 12 }) xs.length 0]}]},h:=[(11,AObj.ints IntKind.u64 xs),(13,AObj.ints IntKind.u64 ys)],n:=21,obs:=[(match Int.ofNat ys.length==Int.ofNat 0 with | true=>true | false=>decide (fX xs ys < 0))=true,(Int.ofNat ys.length==Int.ofNat 0)=false,xs.length=xs.length,ys.length=ys.length,Dg 18446744073709551616 xs,Dg 18446744073709551616 ys,xs.length < 1099511627776,ys.length < 1099511627776],ds:=[]} :=by kernel_rfl
theorem d1s (a b s1 s2:Bool) (xs ys Q R:List Int):n8 XW6 [] 200 148 (d0w a b xs ys) [iL s1 Q,iL s2 R] [false,true] =some [Int.ofNat 0≤c1c xs (ys.getD (n7 0 0) (Int.ofNat 0))∧(c1c xs (ys.getD (n7 0 0) (Int.ofNat 0))).toNat < 18446744073709551616,xs.length=xs.length,Cn xs,xs.length < 549755813888,Int.ofNat 0 < ys.getD (n7 0 0) (Int.ofNat 0)∧(ys.getD (n7 0 0) (Int.ofNat 0)).toNat < 18446744073709551616,n7 0 0 < ys.length,(Int.ofNat 0≤Int.ofNat 0∧Int.ofNat 0 < Int.ofNat ys.length)∧0 < ys.length,(Int.ofNat ys.length==Int.ofNat 1)=true,(match Int.ofNat ys.length==Int.ofNat 0 with | true=>true | false=>decide (fX xs ys < 0))=false,(Int.ofNat ys.length==Int.ofNat 0)=false,xs.length=xs.length,ys.length=ys.length,Dg 18446744073709551616 xs,Dg 18446744073709551616 ys,xs.length < 1099511627776,ys.length < 1099511627776,Value.bool false=Value.bool s1,(o1d xs (ys.getD (n7 0 0) (Int.ofNat 0))).length=Q.length∧(o1d xs (ys.getD (n7 0 0) (Int.ofNat 0))).length≤(o1d xs (ys.getD (n7 0 0) (Int.ofNat 0))).length∧List.take (o1d xs (ys.getD (n7 0 0) (Int.ofNat 0))).length (o1d xs (ys.getD (n7 0 0) (Int.ofNat 0)))=Q,Value.bool false=Value.bool s2,(p8 (c1c xs (ys.getD (n7 0 0) (Int.ofNat 0)))).length=R.length∧(p8 (c1c xs (ys.getD (n7 0 0) (Int.ofNat 0)))).length≤(p8 (c1c xs (ys.getD (n7 0 0) (Int.ofNat 0)))).length∧List.take (p8 (c1c xs (ys.getD (n7 0 0) (Int.ofNat 0)))).length (p8 (c1c xs (ys.getD (n7 0 0) (Int.ofNat 0))))=R] :=by kernel_rfl
theorem c1u (a b s1 s2:Bool) (xs ys Q R Z Y L:List Int) (nz ny nl:Nat) (sh n i:Int):n8 XW6 [J5 (.exit 1) (fun _=>b1t Z Y L nz ny nl sh n i)] 200 148 (d0w a b xs ys) [iL s1 Q,iL s2 R] [false,false] =some [(m3 (List.take nz Z)).length≤Z.length,Cn (List.take (m3 (List.take nz Z)).length Z),(List.take (m3 (List.take nz Z)).length Z).length < 549755813888,Int.ofNat 0≤sh∧sh.toNat < 64,0=0∧0+nz≤Z.length∧Z.length < 1099511627776,0=0∧0+nl≤L.length∧L.length < 1099511627776,a7 XW6 r1c (m5 XW6 200 148 (d0w a b xs ys) [false,false]) (.exit 1) (b1t Z Y L nz ny nl sh n i),Int.ofNat 0≤IntKind.i64.wrap (Int.ofNat (IntKind.i64.wrap (Int.ofNat xs.length.succ)).toNat-Int.ofNat (j0 ys (IntKind.i64.wrap (Int.ofNat 64-C1 (ys.getD (n7 0 (IntKind.i64.wrap (Int.ofNat ys.length-Int.ofNat 1)).toNat) (Int.ofNat 0))))).length)∧IntKind.i64.wrap (Int.ofNat (IntKind.i64.wrap (Int.ofNat xs.length.succ)).toNat-Int.ofNat (j0 ys (IntKind.i64.wrap (Int.ofNat 64-C1 (ys.getD (n7 0 (IntKind.i64.wrap (Int.ofNat ys.length-Int.ofNat 1)).toNat) (Int.ofNat 0))))).length)=IntKind.i64.wrap (Int.ofNat (IntKind.i64.wrap (Int.ofNat xs.length.succ)).toNat-Int.ofNat (j0 ys (IntKind.i64.wrap (Int.ofNat 64-C1 (ys.getD (n7 0 (IntKind.i64.wrap (Int.ofNat ys.length-Int.ofNat 1)).toNat) (Int.ofNat 0))))).length)∧Int.ofNat 8*IntKind.i64.wrap (Int.ofNat (IntKind.i64.wrap (Int.ofNat xs.length.succ)).toNat-Int.ofNat (j0 ys (IntKind.i64.wrap (Int.ofNat 64-C1 (ys.getD (n7 0 (IntKind.i64.wrap (Int.ofNat ys.length-Int.ofNat 1)).toNat) (Int.ofNat 0))))).length)≤Int.ofNat 281474976710656∧IntKind.i64.wrap (Int.ofNat (IntKind.i64.wrap (Int.ofNat xs.length.succ)).toNat-Int.ofNat (j0 ys (IntKind.i64.wrap (Int.ofNat 64-C1 (ys.getD (n7 0 (IntKind.i64.wrap (Int.ofNat ys.length-Int.ofNat 1)).toNat) (Int.ofNat 0))))).length)≤Int.ofNat 9223372036854775807,0 < (j0 xs (IntKind.i64.wrap (Int.ofNat 64-C1 (ys.getD (n7 0 (IntKind.i64.wrap (Int.ofNat ys.length-Int.ofNat 1)).toNat) (Int.ofNat 0))))).length∧(j0 xs (IntKind.i64.wrap (Int.ofNat 64-C1 (ys.getD (n7 0 (IntKind.i64.wrap (Int.ofNat ys.length-Int.ofNat 1)).toNat) (Int.ofNat 0))))).length≤(IntKind.i64.wrap (Int.ofNat xs.length.succ)).toNat∧0+(j0 xs (IntKind.i64.wrap (Int.ofNat 64-C1 (ys.getD (n7 0 (IntKind.i64.wrap (Int.ofNat ys.length-Int.ofNat 1)).toNat) (Int.ofNat 0))))).length≤(List.replicate (IntKind.i64.wrap (↑xs.length+1)).toNat (0:Int)).length∧0+(j0 xs (IntKind.i64.wrap (Int.ofNat 64-C1 (ys.getD (n7 0 (IntKind.i64.wrap (Int.ofNat ys.length-Int.ofNat 1)).toNat) (Int.ofNat 0))))).length≤(j0 xs (IntKind.i64.wrap (Int.ofNat 64-C1 (ys.getD (n7 0 (IntKind.i64.wrap (Int.ofNat ys.length-Int.ofNat 1)).toNat) (Int.ofNat 0))))).length,xs.length=xs.length,Cn xs,xs.length < 549755813888,Int.ofNat 0≤IntKind.i64.wrap (Int.ofNat 64-C1 (ys.getD (n7 0 (IntKind.i64.wrap (Int.ofNat ys.length-Int.ofNat 1)).toNat) (Int.ofNat 0)))∧(IntKind.i64.wrap (Int.ofNat 64-C1 (ys.getD (n7 0 (IntKind.i64.wrap (Int.ofNat ys.length-Int.ofNat 1)).toNat) (Int.ofNat 0)))).toNat < 549755813888,Int.ofNat 0≤IntKind.i64.wrap (Int.ofNat xs.length.succ)∧IntKind.i64.wrap (Int.ofNat xs.length.succ)=IntKind.i64.wrap (Int.ofNat xs.length.succ)∧Int.ofNat 8*IntKind.i64.wrap (Int.ofNat xs.length.succ)≤Int.ofNat 281474976710656∧IntKind.i64.wrap (Int.ofNat xs.length.succ)≤Int.ofNat 9223372036854775807,ys.length=ys.length,Cn ys,ys.length < 549755813888,Int.ofNat 0≤IntKind.i64.wrap (Int.ofNat 64-C1 (ys.getD (n7 0 (IntKind.i64.wrap (Int.ofNat ys.length-Int.ofNat 1)).toNat) (Int.ofNat 0)))∧(IntKind.i64.wrap (Int.ofNat 64-C1 (ys.getD (n7 0 (IntKind.i64.wrap (Int.ofNat ys.length-Int.ofNat 1)).toNat) (Int.ofNat 0)))).toNat < 549755813888,Int.ofNat 0≤ys.getD (n7 0 (IntKind.i64.wrap (Int.ofNat ys.length-Int.ofNat 1)).toNat) (Int.ofNat 0)∧ys.getD (n7 0 (IntKind.i64.wrap (Int.ofNat ys.length-Int.ofNat 1)).toNat) (Int.ofNat 0) < Int.ofNat 18446744073709551616,n7 0 (IntKind.i64.wrap (Int.ofNat ys.length-Int.ofNat 1)).toNat < ys.length,(Int.ofNat 0≤IntKind.i64.wrap (Int.ofNat ys.length-Int.ofNat 1)∧IntKind.i64.wrap (Int.ofNat ys.length-Int.ofNat 1) < Int.ofNat ys.length)∧0 < ys.length,(Int.ofNat ys.length==Int.ofNat 1)=false,(match Int.ofNat ys.length==Int.ofNat 0 with | true=>true | false=>decide (fX xs ys < 0))=false,(Int.ofNat ys.length==Int.ofNat 0)=false,xs.length=xs.length,ys.length=ys.length,Dg 18446744073709551616 xs,Dg 18446744073709551616 ys,xs.length < 1099511627776,ys.length < 1099511627776,Value.bool false=Value.bool s1,(m3 (List.take nl L)).length=Q.length∧(m3 (List.take nl L)).length≤L.length∧List.take (m3 (List.take nl L)).length L=Q,Value.bool (yT false (z0l (List.take (m3 (List.take nz Z)).length Z) sh))=Value.bool s2,(z0l (List.take (m3 (List.take nz Z)).length Z) sh).length=R.length∧(z0l (List.take (m3 (List.take nz Z)).length Z) sh).length≤(z0l (List.take (m3 (List.take nz Z)).length Z) sh).length∧List.take (z0l (List.take (m3 (List.take nz Z)).length Z) sh).length (z0l (List.take (m3 (List.take nz Z)).length Z) sh)=R] :=by kernel_rfl
structure QPl where
 k:Nat
 Z:List Int
 L:List Int
noncomputable def p0p (Y:List Int) (n:Nat) (p:QPl):QPl:=⟨p.k-1,b0i p.Z Y (p.k-1) (n+1),bM p.L (p.k-1) (p0q p.Z Y (p.k-1) (n+1))⟩
def r0l (D N m nl:Nat) (p:QPl):Prop:=
 p.k≤nl∧p.Z.length=m+1∧Dg W64 p.Z∧val W64 (p.Z.drop p.k) < D∧p.L.length=nl∧Dg W64 p.L∧N=val W64 p.Z+D*(val W64 (p.L.drop p.k)*W64 ^p.k)
theorem h1j {l:List Int} {k:Nat} (h:k < l.length) (x:Int):(l.set k x).drop k=x ::l.drop (k+1):=by
 rw [List.drop_eq_getElem_cons (by simpa using h)]
 simp [List.drop_set]
theorem a0e {D N m nl n:Nat} {Y:List Int} (hY:val W64 Y=D) (hD:0 < D) (hDn:D < W64 ^n) (hnl:nl+n=m+1) {p:QPl} (h:r0l D N m nl p) (hk:0 < p.k):
  x1u p.Z Y (p.k-1) (n+1)∧p.k-1+(n+1)≤p.Z.length∧r0l D N m nl (p0p Y n p):=by
 obtain⟨h1,h2,h3,h4,h5,h6,h7⟩:=h
 obtain⟨k',Z,L⟩:=p
 simp only at h1 h2 h3 h4 h5 h6 h7 hk
 obtain⟨k,rfl⟩:∃ k,k'=k+1:=⟨k'-1,by omega⟩
 simp only [p0p,Nat.add_sub_cancel]
 have hlen:k+(n+1)≤Z.length:=by omega
 have hz:val W64 (Z.drop (k+(n+1)))=0:=by
  have e:=u6 W64 (Z.drop (k+1)) n (by rw [List.length_drop]; omega)
  rw [List.drop_drop,show k+1+n=k+(n+1) by omega] at e
  rcases Nat.eq_zero_or_pos (val W64 (Z.drop (k+(n+1)))) with h | h
  ·exact h
  ·have:=Nat.le_mul_of_pos_right (W64 ^n) h
   omega
 have hP:val W64 (Z.drop k)=val W64 (part Z k (n+1)):=by
  have e:=u6 W64 (Z.drop k) (n+1) (by rw [List.length_drop]; omega)
  rw [List.drop_drop,hz,Nat.mul_zero,Nat.add_zero] at e
  exact e
 have hP2:val W64 (Z.drop k)=(Z.getD k 0).toNat+W64*val W64 (Z.drop (k+1)):=by
  rw [z6 (l:=Z) (m:=k) (by omega)]
  rfl
 have hone:val W64 (part Z k (n+1)) < D*W64:=by
  rw [← hP,hP2]
  have g:=h3.get b9 k
  have g1:(Z.getD k 0).toNat < W64:=by omega
  have:W64*(val W64 (Z.drop (k+1))+1)≤W64*D:=Nat.mul_le_mul_left _ h4
  rw [Nat.mul_add,Nat.mul_one] at this
  rw [Nat.mul_comm D]
  omega
 have hmod:val W64 (part Z k (n+1))%D < D:=Nat.mod_lt _ hD
 have hpow:W64 ^n≤W64 ^(n+1):=vX (Nat.le_succ n)
 have htk:(Z.take k).length=k:=by rw [List.length_take]; omega
 have hZ'd:(b0i Z Y k (n+1)).drop k=dl W64 (n+1) (val W64 (part Z k (n+1))%D)++Z.drop (k+(n+1)):=by
  unfold b0i
  rw [hY,List.append_assoc,List.drop_append_of_le_length (by omega),List.drop_of_length_le (by omega),List.nil_append]
 have hZ't:(b0i Z Y k (n+1)).take k=Z.take k:=by
  unfold b0i
  rw [List.append_assoc,List.take_append_of_le_length (by omega),List.take_of_length_le (by omega)]
 have hZ'v:val W64 ((b0i Z Y k (n+1)).drop k)=val W64 (part Z k (n+1))%D:=by
  rw [hZ'd,O7,hz,Nat.mul_zero,Nat.add_zero,b0o]
  exact Nat.mod_eq_of_lt (by omega)
 have hq:val W64 (part Z k (n+1))/D < W64:=(Nat.div_lt_iff_lt_mul hD).2 (by rw [Nat.mul_comm]; exact hone)
 refine⟨by unfold x1u; rw [hY]; exact hone,hlen,by simp only; omega,?_,?_,?_,?_,?_,?_⟩
 ·simp only
  rw [fB Y hlen]
  exact h2
 ·simp only
  unfold b0i
  exact ((h3.take _).append (y0o b9 _ _)).append (h3.drop _)
 ·simp only
  rw [hZ'v]
  exact hmod
 ·simp only
  rw [y5]
  simp [h5]
 ·simp only
  rw [y5]
  exact h6.set ⟨by unfold p0q; exact Int.natCast_nonneg _,by unfold p0q; rw [hY]; exact_mod_cast hq⟩ _
 ·simp only
  have e1:=u6 W64 (b0i Z Y k (n+1)) k (by rw [fB Y hlen]; omega)
  rw [hZ't,hZ'v] at e1
  have e2:=u6 W64 Z k (by omega)
  rw [hP] at e2
  have e3:val W64 ((bM L k (p0q Z Y k (n+1))).drop k)=val W64 (part Z k (n+1))/D+W64*val W64 (L.drop (k+1)):=by
   rw [y5,h1j (by omega)]
   simp only [val]
   unfold p0q
   rw [hY,Int.toNat_natCast]
  rw [e1,e3,h7,e2]
  have e4:=Nat.div_add_mod (val W64 (part Z k (n+1))) D
  generalize val W64 (part Z k (n+1))/D=q at*
  generalize val W64 (part Z k (n+1))%D=r at*
  generalize val W64 (L.drop (k+1))=T
  rw [← e4,Nat.pow_succ]
  generalize W64 ^k=w
  rw [Nat.add_mul q,Nat.mul_add D,Nat.mul_add w (D*q)]
  have a1:w*(D*q)=D*(q*w):=by rw [Nat.mul_comm,Nat.mul_assoc]
  have a2:D*(T*(w*W64))=D*(W64*T*w):=by congr 1; rw [Nat.mul_comm w,← Nat.mul_assoc,Nat.mul_comm T]
  omega
theorem w0o {D N m nl n:Nat} {Y:List Int} (hY:val W64 Y=D) (hD:0 < D) (hDn:D < W64 ^n) (hnl:nl+n=m+1) {p:QPl} (h:r0l D N m nl p):∀ j,j≤p.k→r0l D N m nl (itr (p0p Y n) j p)∧(itr (p0p Y n) j p).k=p.k-j
 | 0,_=>⟨h,rfl⟩
 | j+1,hj=>by
  obtain⟨g1,g2⟩:=w0o hY hD hDn hnl h j (by omega)
  refine⟨(a0e hY hD hDn hnl g1 (by rw [g2]; omega)).2.2,?_⟩
  show (itr (p0p Y n) j p).k-1=_
  rw [g2]
  omega
noncomputable def shQ (ys:List Int):Int:=IntKind.i64.wrap (64-C1 (ys.getD (n7 0 (IntKind.i64.wrap (Int.ofNat ys.length-Int.ofNat 1)).toNat) 0))
noncomputable def nlQ (xs ys:List Int):Int:=IntKind.i64.wrap (Int.ofNat (IntKind.i64.wrap (Int.ofNat xs.length.succ)).toNat-Int.ofNat (j0 ys (shQ ys)).length)
noncomputable def z0Q (xs ys:List Int):List Int:=[] ++((j0 xs (shQ ys)).drop 0).take (j0 xs (shQ ys)).length++(List.replicate (IntKind.i64.wrap (Int.ofNat xs.length.succ)).toNat 0).drop (0+(j0 xs (shQ ys)).length)
theorem g1d (a b:Bool) (xs ys:List Int) (x:AX) (s':St) (h:a7 XW6 r1c (b1t (z0Q xs ys) (j0 ys (shQ ys)) (List.replicate (nlQ xs ys).toNat 0) (IntKind.i64.wrap (Int.ofNat xs.length.succ)).toNat (j0 ys (shQ ys)).length (nlQ xs ys).toNat (shQ ys) (j0 ys (shQ ys)).length (IntKind.i64.wrap (Int.ofNat (nlQ xs ys).toNat-1))) x s'):
  a7 XW6 r1c (m5 XW6 200 148 (d0w a b xs ys) [false,false]) x s':=
 f9 h [] (by kernel_rfl) (by kernel_rfl) (by kernel_rfl)
theorem j0t {ys:List Int} (hy:Cn ys) (hp:0 < ys.length):∃ t:Nat,ys.getD (ys.length-1) 0=(t:Int)∧0 < t∧t < W64∧t*W64 ^(ys.length-1)≤val W64 ys∧val W64 ys < (t+1)*W64 ^(ys.length-1):=by
 have g:=hy.dg.get b9 (ys.length-1)
 have e:=u6 W64 ys (ys.length-1) (by omega)
 rw [z6 (l:=ys) (m:=ys.length-1) (by omega),Nat.sub_add_cancel hp,List.drop_of_length_le (Nat.le_refl _)] at e
 simp only [val,Nat.mul_zero,Nat.add_zero] at e
 have l1:=I3 b9 (hy.dg.take (ys.length-1))
 rw [List.length_take,Nat.min_eq_left (by omega)] at l1
 refine⟨(ys.getD (ys.length-1) 0).toNat,by omega,?_,by omega,?_,?_⟩
 ·rcases Nat.eq_zero_or_pos (ys.getD (ys.length-1) 0).toNat with h | h
  ·rw [h,Nat.mul_zero,Nat.add_zero] at e
   have h1:ys.length≤ys.length-1:=by
    have:wl (val W64 ys)≤ys.length-1:=wl_le.2 (by rw [e]; exact l1)
    unfold wl at this
    rw [← hy] at this
    exact this
   omega
  ·exact h
 ·rw [Nat.mul_comm,e]
  exact Nat.le_add_left _ _
 ·rw [Nat.add_mul,Nat.one_mul,Nat.mul_comm,e]
  generalize W64 ^(ys.length-1)*(ys.getD (ys.length-1) 0).toNat=q at*
  omega
theorem tB {t:Nat} (h0:0 < t) (h1:t < W64):0 < bl t∧bl t≤64∧2 ^63≤t*2 ^(64-bl t)∧(t+1)*2 ^(64-bl t)≤W64:=by
 have hW:(2:Nat) ^64=W64:=by decide
 have hb:bl t≤64:=bl_le.2 (by rw [hW]; exact h1)
 have hp:=bl_pos.2 h0
 have h2:=j1w h0
 have h3:=uO t
 refine⟨hp,hb,?_,?_⟩
 ·have:2 ^(bl t-1)*2 ^(64-bl t)=2 ^63:=by rw [← Nat.pow_add]; congr 1; omega
  rw [← this]
  exact Nat.mul_le_mul_right _ h2
 ·have:2 ^bl t*2 ^(64-bl t)=W64:=by rw [← Nat.pow_add,← hW]; congr 1; omega
  rw [← this]
  exact Nat.mul_le_mul_right _ h3
theorem x0c {ys:List Int} (hy:Cn ys) (hp:0 < ys.length) (hl:ys.length < 274877906944):∃ s:Nat,shQ ys=(s:Int)∧s≤63∧j0 ys (shQ ys)=ws W64 (val W64 ys*2 ^s)∧wl (val W64 ys*2 ^s)=ys.length∧2 ^63*W64 ^(ys.length-1)≤val W64 ys*2 ^s:=by
 obtain⟨t,e1,e2,e3,e4,e5⟩:=j0t hy hp
 obtain⟨b1,b2,b3,b4⟩:=tB e2 e3
 have hw:IntKind.i64.wrap (Int.ofNat ys.length-Int.ofNat 1)=((ys.length-1:Nat):Int):=by
  have h1:=m4 (n:=ys.length-1) (by omega)
  rw [← h1]
  congr 1
  simp only [Int.ofNat_eq_natCast]
  omega
 have eS:shQ ys=((64-bl t:Nat):Int):=by
  unfold shQ
  rw [hw,v6,Int.toNat_natCast,Nat.zero_add,e1]
  unfold C1
  rw [Int.toNat_natCast]
  have h1:=m4 (n:=64-bl t) (by omega)
  rw [← h1]
  congr 1
  omega
 refine⟨64-bl t,eS,by omega,?_,?_,?_⟩
 ·rw [eS]
  unfold j0
  rw [Int.toNat_natCast]
 ·have hlt:val W64 ys*2 ^(64-bl t) < W64 ^ys.length:=by
   have q1:val W64 ys*2 ^(64-bl t) < (t+1)*W64 ^(ys.length-1)*2 ^(64-bl t):=Nat.mul_lt_mul_of_pos_right e5 (Nat.two_pow_pos _)
   have q2:(t+1)*W64 ^(ys.length-1)*2 ^(64-bl t)=(t+1)*2 ^(64-bl t)*W64 ^(ys.length-1):=by rw [Nat.mul_assoc,Nat.mul_comm (W64 ^_),← Nat.mul_assoc]
   have q3:=Nat.mul_le_mul_right (W64 ^(ys.length-1)) b4
   have q4:W64*W64 ^(ys.length-1)=W64 ^ys.length:=by rw [Nat.mul_comm,← Nat.pow_succ]; congr 1; omega
   omega
  have h1:wl (val W64 ys*2 ^(64-bl t))≤ys.length:=wl_le.2 hlt
  have h2:wl (val W64 ys)≤wl (val W64 ys*2 ^(64-bl t)):=aX (Nat.le_mul_of_pos_right _ (Nat.two_pow_pos _))
  have h3:wl (val W64 ys)=ys.length:=by unfold wl; rw [← hy]
  omega
 ·have q1:=Nat.mul_le_mul_right (2 ^(64-bl t)) e4
  have q2:t*W64 ^(ys.length-1)*2 ^(64-bl t)=t*2 ^(64-bl t)*W64 ^(ys.length-1):=by rw [Nat.mul_assoc,Nat.mul_comm (W64 ^_),← Nat.mul_assoc]
  have q3:=Nat.mul_le_mul_right (W64 ^(ys.length-1)) b3
  omega
section
variable {xs ys:List Int} (hx:Cn xs) (hy:Cn ys) (hxl:xs.length < 274877906944) (hp:0 < ys.length) (hle:val W64 ys≤val W64 xs)
include hx hy hxl hp hle
theorem xN:ys.length≤xs.length∧0 < val W64 ys:=by
 have _:=hxl
 have h1:wl (val W64 ys)≤wl (val W64 xs):=aX hle
 have e1:wl (val W64 ys)=ys.length:=by unfold wl; rw [← hy]
 have e2:wl (val W64 xs)=xs.length:=by unfold wl; rw [← hx]
 exact⟨by omega,wl_pos.1 (by omega)⟩
theorem d0k {s:Nat} (eS:shQ ys=(s:Int)) (hs:s≤63) (eY:j0 ys (shQ ys)=ws W64 (val W64 ys*2 ^s)) (hn:wl (val W64 ys*2 ^s)=ys.length) (htop:2 ^63*W64 ^(ys.length-1)≤val W64 ys*2 ^s):
  IntKind.i64.wrap (Int.ofNat xs.length.succ)=((xs.length+1:Nat):Int)∧nlQ xs ys=((xs.length+1-ys.length:Nat):Int)∧(0 < (j0 xs (shQ ys)).length∧(j0 xs (shQ ys)).length≤xs.length+1)∧
  r0l (val W64 ys*2 ^s) (val W64 xs*2 ^s) xs.length (xs.length+1-ys.length) ⟨xs.length+1-ys.length,z0Q xs ys,List.replicate (xs.length+1-ys.length) 0⟩:=by
 obtain⟨hlen,hB⟩:=xN hx hy hxl hp hle
 have e1:IntKind.i64.wrap (Int.ofNat xs.length.succ)=((xs.length+1:Nat):Int):=m4 (n:=xs.length+1) (by omega)
 have e2:nlQ xs ys=((xs.length+1-ys.length:Nat):Int):=by
  unfold nlQ
  rw [e1,eY]
  have hn':(ws W64 (val W64 ys*2 ^s)).length=ys.length:=hn
  rw [hn']
  have h1:=m4 (n:=xs.length+1-ys.length) (by omega)
  rw [← h1]
  congr 1
  simp only [Int.toNat_natCast,Int.ofNat_eq_natCast]
  omega
 have eX:j0 xs (shQ ys)=ws W64 (val W64 xs*2 ^s):=by
  rw [eS]
  unfold j0
  rw [Int.toNat_natCast]
 have hA:val W64 xs < W64 ^xs.length:=I3 b9 hx.dg
 have h2s:(2:Nat) ^s≤2 ^63:=Nat.pow_le_pow_right (by decide) hs
 have hN1:val W64 xs*2 ^s < W64 ^xs.length*2 ^63:=Nat.lt_of_lt_of_le (Nat.mul_lt_mul_of_pos_right hA (Nat.two_pow_pos _)) (Nat.mul_le_mul_left _ h2s)
 have hN:val W64 xs*2 ^s < W64 ^(xs.length+1):=by
  rw [Nat.pow_succ]
  refine Nat.lt_of_lt_of_le hN1 (Nat.mul_le_mul_left _ (by decide))
 have hl1:wl (val W64 xs*2 ^s)≤xs.length+1:=wl_le.2 hN
 have hl2:0 < wl (val W64 xs*2 ^s):=wl_pos.2 (Nat.mul_pos (by omega) (Nat.two_pow_pos _))
 have ez:z0Q xs ys=ws W64 (val W64 xs*2 ^s)++List.replicate (xs.length+1-wl (val W64 xs*2 ^s)) 0:=by
  unfold z0Q
  rw [eX,e1,List.nil_append,List.drop_zero,List.take_length,List.drop_replicate,Int.toNat_natCast,Nat.zero_add]
 have hzl:(z0Q xs ys).length=xs.length+1:=by
  rw [ez]
  simp only [List.length_append,List.length_replicate]
  show wl _+_=_
  omega
 have hzd:Dg W64 (z0Q xs ys):=by
  rw [ez]
  exact (a0n _).append (Dg.zeros _ b9 _)
 have hzv:val W64 (z0Q xs ys)=val W64 xs*2 ^s:=by
  rw [ez,O7,t8,Q2,Nat.mul_zero,Nat.add_zero]
 refine⟨e1,e2,⟨by rw [eX]; exact hl2,by rw [eX]; exact hl1⟩,Nat.le_refl _,hzl,hzd,?_,by simp,Dg.zeros _ b9 _,?_⟩
 ·simp only
  have e:=u6 W64 (z0Q xs ys) (xs.length+1-ys.length) (by omega)
  rw [hzv] at e
  have q1:=Nat.mul_le_mul_right (W64 ^(xs.length+1-ys.length)) htop
  have q2:2 ^63*W64 ^(ys.length-1)*W64 ^(xs.length+1-ys.length)=W64 ^xs.length*2 ^63:=by
   rw [Nat.mul_assoc,← Nat.pow_add,Nat.mul_comm]
   congr 2
   omega
  rw [q2] at q1
  have q3:W64 ^(xs.length+1-ys.length)*val W64 ((z0Q xs ys).drop (xs.length+1-ys.length)) < W64 ^(xs.length+1-ys.length)*(val W64 ys*2 ^s):=by
   rw [Nat.mul_comm _ (val W64 ys*2 ^s)]
   generalize W64 ^(xs.length+1-ys.length)*val W64 ((z0Q xs ys).drop (xs.length+1-ys.length))=u at*
   omega
  exact Nat.lt_of_mul_lt_mul_left q3
 ·simp only
  rw [hzv,List.drop_of_length_le (by simp)]
  simp [val]
theorem e1f {s:Nat} (eS:shQ ys=(s:Int)) (hs:s≤63) (eY:j0 ys (shQ ys)=ws W64 (val W64 ys*2 ^s)) (hn:wl (val W64 ys*2 ^s)=ys.length) (htop:2 ^63*W64 ^(ys.length-1)≤val W64 ys*2 ^s):
  ∃ Z L,a7 XW6 r1c (b1t (z0Q xs ys) (j0 ys (shQ ys)) (List.replicate (nlQ xs ys).toNat 0) (IntKind.i64.wrap (Int.ofNat xs.length.succ)).toNat (j0 ys (shQ ys)).length (nlQ xs ys).toNat (shQ ys) (j0 ys (shQ ys)).length (IntKind.i64.wrap (Int.ofNat (nlQ xs ys).toNat-1))) (.exit 1)
   (b1t Z (j0 ys (shQ ys)) L (xs.length+1) ys.length (xs.length+1-ys.length) s ys.length (-1))∧
   Z.length=xs.length+1∧L.length=xs.length+1-ys.length∧Dg W64 Z∧Dg W64 L∧val W64 L=val W64 xs/val W64 ys∧val W64 Z=val W64 xs%val W64 ys*2 ^s:=by
 obtain⟨hlen,hB⟩:=xN hx hy hxl hp hle
 obtain⟨e1,e2,_,hg0⟩:=d0k hx hy hxl hp hle eS hs eY hn htop
 have hD:0 < val W64 ys*2 ^s:=Nat.mul_pos hB (Nat.two_pow_pos _)
 have hYv:val W64 (j0 ys (shQ ys))=val W64 ys*2 ^s:=by rw [eY,t8]
 have hYl:(j0 ys (shQ ys)).length=ys.length:=by rw [eY]; exact hn
 have hDn:val W64 ys*2 ^s < W64 ^ys.length:=by rw [← hn]; exact g0n _
 have hall:=w0o (n:=ys.length) hYv hD hDn (show xs.length+1-ys.length+ys.length=xs.length+1 by omega) hg0
 have hYc:Cn (j0 ys (shQ ys)):=by rw [eY]; exact Cn.ws _
 generalize hp0:(⟨xs.length+1-ys.length,z0Q xs ys,List.replicate (xs.length+1-ys.length) 0⟩:QPl)=p0 at*
 have hp0k:p0.k=xs.length+1-ys.length:=by rw [← hp0]
 rw [hp0k] at hall
 have hi0:IntKind.i64.wrap (Int.ofNat (xs.length+1-ys.length)-1)=((xs.length+1-ys.length:Nat):Int)-1:=by
  have:=IntKind.wrap_i64 (Int.ofNat (xs.length+1-ys.length)-1)
  simp only [Int.ofNat_eq_natCast] at*
  omega
 generalize hY:j0 ys (shQ ys)=Y at*
 have hrun:=v8 (X:=XW6) (c:=r1c) (x:= .exit 1) (fun j=>b1t (itr (p0p Y ys.length) j p0).Z Y (itr (p0p Y ys.length) j p0).L (xs.length+1) ys.length (xs.length+1-ys.length) s ys.length (((xs.length+1-ys.length:Nat):Int)-1- (j:Int)))
  (xs.length+1-ys.length) (s':=b1t (itr (p0p Y ys.length) (xs.length+1-ys.length) p0).Z Y (itr (p0p Y ys.length) (xs.length+1-ys.length) p0).L (xs.length+1) ys.length (xs.length+1-ys.length) s ys.length (-1)) (by intro e; cases e) (fun j hj=> ?_) ?_
 ·obtain⟨f1,f2⟩:=hall (xs.length+1-ys.length) (Nat.le_refl _)
  rw [Nat.sub_self] at f2
  obtain⟨g1,g2,g3,g4,g5,g6,g7⟩:=f1
  rw [f2] at g4 g7
  simp only [List.drop_zero,Nat.pow_zero,Nat.mul_one] at g4 g7
  refine⟨_,_,?_,g2,g5,g3,g6,?_,?_⟩
  ·rw [e1,e2,eS,hYl]
   simp only [Int.toNat_natCast]
   rw [hi0]
   have h0:itr (p0p Y ys.length) 0 p0=p0:=rfl
   simp only [h0] at hrun
   have hz0:((xs.length+1-ys.length:Nat):Int)-1- ((0:Nat):Int)=((xs.length+1-ys.length:Nat):Int)-1:=by omega
   rw [hz0,← hp0] at hrun
   simp only at hrun
   rw [← hp0]
   exact hrun
  ·have q1:val W64 xs*2 ^s/ (val W64 ys*2 ^s)=val W64 xs/val W64 ys:=Nat.mul_div_mul_right _ _ (Nat.two_pow_pos _)
   rw [← q1,g7,Nat.add_mul_div_left _ _ hD,Nat.div_eq_of_lt g4,Nat.zero_add]
  ·have q1:val W64 xs*2 ^s%(val W64 ys*2 ^s)=val W64 xs%val W64 ys*2 ^s:=Nat.mul_mod_mul_right _ _ _
   rw [← q1,g7,Nat.add_mul_mod_self_left,Nat.mod_eq_of_lt g4]
 ·obtain⟨f1,f2⟩:=hall j (by omega)
  obtain⟨r1,r2,r3⟩:=a0e (n:=ys.length) hYv hD hDn (show xs.length+1-ys.length+ys.length=xs.length+1 by omega) f1 (by rw [f2]; omega)
  obtain⟨g1,g2,g3,g4,g5,g6,g7⟩:=f1
  simp only [itr]
  generalize itr (p0p Y ys.length) j p0=p at*
  obtain⟨k,hk⟩:∃ k,p.k=k+1:=⟨p.k-1,by omega⟩
  rw [hk,Nat.add_sub_cancel] at r1 r2
  have ei:((xs.length+1-ys.length:Nat):Int)-1- (j:Int)=(k:Int):=by omega
  have ei2:((xs.length+1-ys.length:Nat):Int)-1- ((j+1:Nat):Int)=(k:Int)-1:=by omega
  rw [ei,ei2]
  unfold p0p
  rw [hk,Nat.add_sub_cancel]
  have eE:IntKind.i64.wrap (IntKind.i64.wrap ((k:Int)+(ys.length:Int))+1)=((k+ys.length+1:Nat):Int):=by
   have h1:=m4 (n:=k+ys.length) (by omega)
   rw [Int.natCast_add] at h1
   rw [h1]
   have h2:=m4 (n:=k+ys.length+1) (by omega)
   rw [← h2]
   congr 1
  have eM:y1j (k:Int) (ys.length:Int)=ys.length+1:=by
   unfold y1j
   rw [eE]
   simp only [Int.toNat_natCast]
   omega
  have eA:n7 0 (k:Int).toNat=k:=by rw [v6,Int.toNat_natCast,Nat.zero_add]
  have eW:IntKind.i64.wrap ((k:Int)-1)=(k:Int)-1:=by
   have:=IntKind.wrap_i64 ((k:Int)-1)
   omega
  have eT:Y.take ys.length=Y:=by rw [← hYl]; exact List.take_length
  have hstep:=i1h p.Z Y p.L (xs.length+1) ys.length (xs.length+1-ys.length) s ys.length k
  rw [eM,eA,eW,eT] at hstep
  have eM2:(IntKind.i64.wrap (IntKind.i64.wrap ((k:Int)+(ys.length:Int))+Int.ofNat 1)).toNat- ((k:Int)).toNat=ys.length+1:=eM
  have eE2:IntKind.i64.wrap (IntKind.i64.wrap ((k:Int)+(ys.length:Int))+Int.ofNat 1)=((k+ys.length+1:Nat):Int):=eE
  have eYl:Y.length=ys.length:=hYl
  have k0:Int.ofNat 0≤(k:Int):=Int.ofNat_le.2 (Nat.zero_le _)
  have kl:k < xs.length+1-ys.length:=by omega
  rw [eM2] at hstep
  rw [eE2] at hstep
  refine hstep ⟨by omega,⟨⟨k0,Int.ofNat_lt.2 kl⟩,by omega⟩,⟨rfl,by rw [eYl]⟩,⟨r2,by omega⟩,g3,hYc,by omega,?_,r1,by omega,⟨rfl,k0,Int.ofNat_le.2 (by omega), .inr (Int.ofNat_lt.2 (by omega)),?_⟩,decide_eq_true k0,trivial⟩
  ·rw [hYv]
   exact hD
  ·rw [Int.toNat_natCast]
   omega
 ·obtain⟨f1,f2⟩:=hall (xs.length+1-ys.length) (Nat.le_refl _)
  have ez:((xs.length+1-ys.length:Nat):Int)-1- ((xs.length+1-ys.length:Nat):Int)= -1:=by omega
  simp only [ez]
  exact l1n _ Y _ _ _ _ _ _ (-1) ⟨by decide,trivial⟩
end
theorem d1g {xs ys:List Int} (hx:Cn xs) (hy:Cn ys):(fX xs ys < 0↔val W64 xs < val W64 ys):=by
 have:=f1i (val W64 xs) (val W64 ys)
 unfold Cn at hx hy
 rw [← hx,← hy] at this
 exact this
theorem k0y {xs ys:List Int} (hx:Cn xs) (hy:Cn ys) (hp:0 < ys.length) (b:Bool) (hb:decide (val W64 xs < val W64 ys)=b):
  (match Int.ofNat ys.length==Int.ofNat 0 with | true=>true | false=>decide (fX xs ys < 0))=b∧(Int.ofNat ys.length==Int.ofNat 0)=false:=by
 have h0:(Int.ofNat ys.length==Int.ofNat 0)=false:=by
  simp only [beq_eq_false_iff_ne,ne_eq,Int.ofNat.injEq]
  omega
 rw [h0]
 refine⟨?_,rfl⟩
 show decide (fX xs ys < 0)=b
 rw [← hb]
 exact decide_eq_decide.2 (d1g hx hy)
theorem n1n (a b:Bool) {xs ys:List Int} (hx:Cn xs) (hy:Cn ys) (hxl:xs.length < 274877906944) (hp:0 < ys.length) (hle:val W64 ys≤val W64 xs):
  Ev.Sem Tryz.prog J0 148 (d0w a b xs ys) [iW false (ws W64 (val W64 xs/val W64 ys)),iW false (ws W64 (val W64 xs%val W64 ys))] :=by
 obtain⟨hlen,hB⟩:=xN hx hy hxl hp hle
 obtain⟨hc,h0⟩:=k0y hx hy hp false (decide_eq_false (by omega))
 by_cases h1:ys.length=1
 ·
  have hone:(Int.ofNat ys.length==Int.ofNat 1)=true:=by rw [h1]; rfl
  have hg:=hy.dg.get b9 0
  have hd:(ys.getD 0 0).toNat=val W64 ys:=by
   match ys,h1 with
   | [y],_=>simp [val]
  have ea:n7 0 0=0:=rfl
  have hdW:(ys.getD 0 0).toNat < W64:=by omega
  have eq:o1d xs (ys.getD (n7 0 0) (Int.ofNat 0))=ws W64 (val W64 xs/val W64 ys):=by
   show ws W64 (val W64 xs/ (ys.getD 0 0).toNat)=_
   rw [hd]
  have er:c1c xs (ys.getD (n7 0 0) (Int.ofNat 0))=((val W64 xs%val W64 ys:Nat):Int):=by
   show ((val W64 xs%(ys.getD 0 0).toNat:Nat):Int)=_
   rw [hd]
  have ew:p8 (c1c xs (ys.getD (n7 0 0) (Int.ofNat 0)))=ws W64 (val W64 xs%val W64 ys):=by
   rw [er]
   unfold p8
   rw [Int.toNat_natCast]
  have hrW:val W64 xs%val W64 ys < W64:=Nat.lt_trans (Nat.mod_lt _ hB) (by rw [← hd]; exact hdW)
  refine d9 T6 10 _ _ (d1s a b false false xs ys _ _) ⟨?_,rfl,hx,by omega,?_,by rw [ea]; omega,⟨⟨by simp,by rw [h1]; decide⟩,hp⟩,hone,hc,h0,rfl,rfl,hx.dg,hy.dg,by omega,by omega,rfl,?_,rfl,?_,trivial⟩
  ·rw [er,Int.toNat_natCast]
   exact⟨Int.ofNat_le.2 (Nat.zero_le _),hrW⟩
  ·show Int.ofNat 0 < ys.getD 0 0∧(ys.getD 0 0).toNat < _
   exact⟨by simp only [Int.ofNat_eq_natCast]; omega,hdW⟩
  ·rw [eq,List.take_length]
   exact⟨rfl,Nat.le_refl _,rfl⟩
  ·rw [ew,List.take_length]
   exact⟨rfl,Nat.le_refl _,rfl⟩
 ·obtain⟨s,eS,hs,eY,hn,htop⟩:=x0c hy hp (by omega)
  obtain⟨e1,e2,e3,_⟩:=d0k hx hy hxl hp hle eS hs eY hn htop
  obtain⟨Z,L,hL,zl,ll,zd,ld,lv,zv⟩:=e1f hx hy hxl hp hle eS hs eY hn htop
  have hone:(Int.ofNat ys.length==Int.ofNat 1)=false:=by
   simp only [beq_eq_false_iff_ne,ne_eq,Int.ofNat.injEq]
   exact h1
  have etZ:List.take (xs.length+1) Z=Z:=by rw [← zl]; exact List.take_length
  have etL:List.take (xs.length+1-ys.length) L=L:=by rw [← ll]; exact List.take_length
  have tz:=E3 (G5 A3 zd)
  have tl:=E3 (G5 A3 ld)
  have eR:z0l (List.take (m3 (List.take (xs.length+1) Z)).length Z) (s:Int)=ws W64 (val W64 xs%val W64 ys):=by
   rw [etZ,tz.2.2]
   unfold z0l
   rw [t8,zv,Int.toNat_natCast,Nat.mul_div_cancel _ (Nat.two_pow_pos _)]
  have eN8:(Int.ofNat 0≤nlQ xs ys∧nlQ xs ys=nlQ xs ys∧Int.ofNat 8*nlQ xs ys≤Int.ofNat 281474976710656∧nlQ xs ys≤Int.ofNat 9223372036854775807):=by
   rw [e2]
   refine⟨Int.ofNat_le.2 (Nat.zero_le _),rfl,?_,Int.ofNat_le.2 (by omega)⟩
   show (8:Int)*((xs.length+1-ys.length:Nat):Int)≤281474976710656
   omega
  have eM8:(Int.ofNat 0≤IntKind.i64.wrap (Int.ofNat xs.length.succ)∧IntKind.i64.wrap (Int.ofNat xs.length.succ)=IntKind.i64.wrap (Int.ofNat xs.length.succ)∧Int.ofNat 8*IntKind.i64.wrap (Int.ofNat xs.length.succ)≤Int.ofNat 281474976710656∧IntKind.i64.wrap (Int.ofNat xs.length.succ)≤Int.ofNat 9223372036854775807):=by
   rw [e1]
   refine⟨Int.ofNat_le.2 (Nat.zero_le _),rfl,?_,Int.ofNat_le.2 (by omega)⟩
   show (8:Int)*((xs.length+1:Nat):Int)≤281474976710656
   omega
  have eC:0 < (j0 xs (shQ ys)).length∧(j0 xs (shQ ys)).length≤(IntKind.i64.wrap (Int.ofNat xs.length.succ)).toNat∧0+(j0 xs (shQ ys)).length≤(List.replicate (IntKind.i64.wrap (Int.ofNat xs.length.succ)).toNat (0:Int)).length∧0+(j0 xs (shQ ys)).length≤(j0 xs (shQ ys)).length:=by
   rw [e1,List.length_replicate,Int.toNat_natCast]
   omega
  have eSh:Int.ofNat 0≤shQ ys∧(shQ ys).toNat < 549755813888:=by
   rw [eS,Int.toNat_natCast]
   exact⟨Int.ofNat_le.2 (Nat.zero_le _),by omega⟩
  have hw:IntKind.i64.wrap (Int.ofNat ys.length-Int.ofNat 1)=((ys.length-1:Nat):Int):=by
   have h1:=m4 (n:=ys.length-1) (by omega)
   rw [← h1]
   congr 1
   simp only [Int.ofNat_eq_natCast]
   omega
  have eA:n7 0 (IntKind.i64.wrap (Int.ofNat ys.length-Int.ofNat 1)).toNat=ys.length-1:=by rw [hw,v6,Int.toNat_natCast,Nat.zero_add]
  have hg:=hy.dg.get b9 (ys.length-1)
  refine d9 T6 10 _ _ (c1u a b false false xs ys _ _ Z (j0 ys (shQ ys)) L (xs.length+1) ys.length (xs.length+1-ys.length) s ys.length (-1))
   ⟨?_,?_,?_,⟨Int.ofNat_le.2 (Nat.zero_le _),?_⟩,⟨rfl,by omega,by omega⟩,⟨rfl,by omega,by omega⟩,g1d a b xs ys _ _ hL,eN8,eC,rfl,hx,by omega,eSh,eM8,rfl,hy,by omega,eSh,?_,by rw [eA]; omega,⟨⟨?_,?_⟩,hp⟩,hone,hc,h0,rfl,rfl,hx.dg,hy.dg,by omega,by omega,rfl,?_,?_,?_,trivial⟩
  ·rw [etZ]; exact tz.2.1
  ·rw [etZ,tz.2.2]; exact Cn.ws _
  ·rw [etZ,List.length_take,tz.1]
   have:=tz.2.1
   rw [tz.1] at this
   omega
  ·rw [Int.toNat_natCast]; omega
  ·rw [eA]
   exact⟨hg.1,hg.2⟩
  ·rw [hw]; exact Int.ofNat_le.2 (Nat.zero_le _)
  ·rw [hw]; exact Int.ofNat_lt.2 (by omega)
  ·rw [etL]
   refine⟨by rw [tl.1,lv],tl.2.1,by rw [tl.2.2,lv]⟩
  ·rw [eR]; rfl
  ·rw [eR,List.take_length]
   exact⟨rfl,Nat.le_refl _,rfl⟩
theorem z0m (a b:Bool) {xs ys:List Int} (hx:Cn xs) (hy:Cn ys) (hxl:xs.length < 274877906944) (hyl:ys.length < 274877906944) (hlt:val W64 xs < val W64 ys):
  b2k Tryz.prog J0 148 (d0w a b xs ys) fun us=> .tuple ⟨[.agg ⟨[.bool false, .slice none 0 0]⟩, .agg ⟨us.take 2⟩]⟩:=by
 have hp:0 < ys.length:=by
  rcases Nat.eq_zero_or_pos ys.length with h | h
  ·have:=List.eq_nil_of_length_eq_zero h
   subst this
   simp [val] at hlt
  ·exact h
 obtain⟨hc,h0⟩:=k0y hx hy hp true (decide_eq_true hlt)
 refine o1t T6 10 [] [true] (k0z a b xs ys) ⟨hc,h0,rfl,rfl,hx.dg,hy.dg,by omega,by omega,trivial⟩ (fun ρ=> ?_)
 show rv ρ (.tuple ⟨[.agg ⟨[.bool false, .slice none 0 0]⟩, .agg ⟨[.bool a, .slice (some ⟨11,0,some 12⟩) xs.length 0]⟩]⟩)=_
 simp only [rv,rvA,rvL]
 rfl
def m0t (xs ys:List Int):List Int:=ws W64 (val W64 xs/val W64 ys)
def aS (xs ys:List Int):List Int:=ws W64 (val W64 xs%val W64 ys)
def c0v (xs ys:List Int):Prop:=val W64 xs < val W64 ys
def vO:List Arg→Option (List Arg×List Prop)
 | [.a [.v (.bool _), .s 32 .u64 xs], .a [.v (.bool _), .s 32 .u64 ys]] =>some ([iW false (m0t xs ys),iW false (aS xs ys)],[Cn xs,Cn ys,xs.length < 274877906944,0 < ys.length,¬ c0v xs ys])
 | _=>none
theorem h0s:∀ az rs l,vO az=some (rs,l)→d5 l→Ev.Sem Tryz.prog J0 148 az rs:=by
 intro az rs l h hl
 unfold vO at h
 split at h
 ·cases h
  rename_i a xs b ys
  obtain⟨h1,h2,h3,h4,h5,_⟩:=hl
  exact n1n a b h1 h2 h3 h4 (Nat.le_of_not_lt h5)
 ·cases h
def wL (args:List Value) (H:Heap) (n:Nat) (ds:List Bool):Option CR:=
 match args with
 | [.agg ⟨[.bool a,x]⟩, .agg ⟨[.bool _,y]⟩] =>match j1x H .u64 x,j1x H .u64 y with
  | some (xs,l1),some (ys,l2)=>some ⟨.tuple ⟨[.agg ⟨[.bool false, .slice none 0 0]⟩, .agg ⟨[.bool a,x]⟩]⟩,H,n,[Cn xs,Cn ys,xs.length < 274877906944,ys.length < 274877906944,c0v xs ys] ++(l1++l2),ds⟩
  | _,_=>none
 | _=>none
theorem l0z:Enters Tryz.prog 148:=C6 (Base.cx_ok T6 10).2 (k0z false false [] [])
theorem g0u:aN Tryz.prog J0 148 wL:=by
 intro args H n ds r h hl
 unfold wL at h
 split at h
 case h_2=>cases h
 rename_i a x b y
 split at h
 case h_2=>cases h
 rename_i xs l1 ys l2 e1 e2
 cases h
 obtain⟨hl1,hl2⟩:=(l6 _ _).1 hl
 obtain⟨k1,k2,k3,k4,k5,_⟩:=hl1
 obtain⟨m1,m2⟩:=(l6 _ _).1 hl2
 refine⟨Nat.le_refl _,l0z,fun B M ρ w vs hp hB hI hS=> ?_⟩
 obtain⟨hS0,hvs⟩:=hS ρ (Agree.refl _ _)
 have c1:CelIs w (.s T8 .u64 xs) (rv ρ x):=Z8 hS0 e1 m1
 have c2:CelIs w (.s T8 .u64 ys) (rv ρ y):=Z8 hS0 e2 m2
 have hA:All2 (CelIs w) (n9 (d0w a b xs ys)) [.bool a,rv ρ x, .bool b,rv ρ y] := .cons ⟨rfl,rfl⟩ (.cons c1 (.cons ⟨rfl,rfl⟩ (.cons c2 .nil)))
 have hc:=(z0m a b k1 k2 k3 k4 k5).2 w _ hI hA
 have ev:vs=F3 (d0w a b xs ys) [.bool a,rv ρ x, .bool b,rv ρ y] :=by
  rw [hvs]
  simp only [rvL,rv,rvA]
  rfl
 rw [ev]
 refine hc.mono fun e w' ⟨he,hb⟩=>⟨ρ,_,Agree.refl _ _,he,Keeps.of_below hb hB,fun ρ' ha=>⟨?_,(hS ρ' ha).1.below hb⟩⟩
 have e3:=(hS ρ' ha).2
 rw [hvs] at e3
 simp only [rvL,rv,rvA,List.cons.injEq,Value.agg.injEq,Array.mk.injEq,and_true,true_and] at e3
 simp only [rvL,rv,rvA,← e3.1]
 rfl
def v0t:List Value→Heap→Nat→List Bool→Option CR:=wQ wL (y3 [shI,shI] vO)
theorem p0e:aN Tryz.prog J0 148 v0t:=tU g0u (g9 _ h0s)
theorem r1g (a b s:Bool) (xs ys R:List Int):n8 XW6 [] 200 200 (d0w a b xs ys) [iL s R] [] =some [xs.length=xs.length,ys.length=ys.length,Cn xs,Cn ys,xs.length < 549755813888,ys.length < 549755813888,ys.length=ys.length∧ys.length < 1099511627776∧m3 ys=ys,Value.bool (v1z a (!b && decide (0 < ys.length)) xs ys)=Value.bool s,(d0q a (!b && decide (0 < ys.length)) xs ys).length=R.length∧(d0q a (!b && decide (0 < ys.length)) xs ys).length≤(d0q a (!b && decide (0 < ys.length)) xs ys).length∧List.take (d0q a (!b && decide (0 < ys.length)) xs ys).length (d0q a (!b && decide (0 < ys.length)) xs ys)=R] :=by kernel_rfl
theorem q1v (a b:Bool) (xs ys:List Int) (r:Int):n8 XW6 [] 200 149 (d0w a b xs ys) [iR r] [] =some [(d0q a (!b && decide (0 < ys.length)) xs ys).length≤(d0q a (!b && decide (0 < ys.length)) xs ys).length,Cn (List.take (d0q a (!b && decide (0 < ys.length)) xs ys).length (d0q a (!b && decide (0 < ys.length)) xs ys)),xs.length=xs.length,ys.length=ys.length,Cn xs,Cn ys,xs.length < 549755813888,ys.length < 549755813888,ys.length=ys.length∧ys.length < 1099511627776∧m3 ys=ys,Value.int IntKind.i64 (if val 18446744073709551616 (List.take (d0q a (!b && decide (0 < ys.length)) xs ys).length (d0q a (!b && decide (0 < ys.length)) xs ys))=0 then Int.ofNat 0 else if v1z a (!b && decide (0 < ys.length)) xs ys=true then Int.negSucc 0 else Int.ofNat 1)=Value.int IntKind.i64 r] :=by kernel_rfl
theorem o1z (s:Bool) (n:Int) (R:List Int):n8 XW6 [] 200 114 [iR n] [iL s R] [true] =some [1≤1∧1≤1∧1 < 1099511627776,decide (n < Int.ofNat 0)=true,Value.bool (true && decide (0 < (m3 [IntKind.u64.wrap (Int.ofNat 0-IntKind.u64.wrap n)]).length))=Value.bool s,(m3 [IntKind.u64.wrap (Int.ofNat 0-IntKind.u64.wrap n)]).length=R.length∧(m3 [IntKind.u64.wrap (Int.ofNat 0-IntKind.u64.wrap n)]).length≤1∧List.take (m3 [IntKind.u64.wrap (Int.ofNat 0-IntKind.u64.wrap n)]).length [IntKind.u64.wrap (Int.ofNat 0-IntKind.u64.wrap n)] =R∧1=1∧1≤9223372036854775807] :=by kernel_rfl
theorem l1j (s:Bool) (n:Int) (R:List Int):n8 XW6 [] 200 114 [iR n] [iL s R] [false] =some [Int.ofNat 0≤IntKind.u64.wrap n∧(IntKind.u64.wrap n).toNat < 18446744073709551616,decide (n < Int.ofNat 0)=false,Value.bool false=Value.bool s,(p8 (IntKind.u64.wrap n)).length=R.length∧(p8 (IntKind.u64.wrap n)).length≤(p8 (IntKind.u64.wrap n)).length∧List.take (p8 (IntKind.u64.wrap n)).length (p8 (IntKind.u64.wrap n))=R] :=by kernel_rfl
theorem x0q (a:Bool) (xs:List Int) (r:Int):n8 XW6 [] 200 128 [iL a xs] [iR r] [true] =some [(Int.ofNat xs.length==Int.ofNat 0)=true,Value.int IntKind.i64 (Int.ofNat 0)=Value.int IntKind.i64 r] :=by kernel_rfl
theorem s0p (a:Bool) (xs:List Int) (r:Int):n8 XW6 [] 200 128 [iL a xs] [iR r] [false] =some [Int.ofNat 0≤xs.getD (n7 0 (IntKind.i64.wrap (Int.ofNat xs.length-Int.ofNat 1)).toNat) (Int.ofNat 0)∧xs.getD (n7 0 (IntKind.i64.wrap (Int.ofNat xs.length-Int.ofNat 1)).toNat) (Int.ofNat 0) < Int.ofNat 18446744073709551616,n7 0 (IntKind.i64.wrap (Int.ofNat xs.length-Int.ofNat 1)).toNat < xs.length,(Int.ofNat 0≤IntKind.i64.wrap (Int.ofNat xs.length-Int.ofNat 1)∧IntKind.i64.wrap (Int.ofNat xs.length-Int.ofNat 1) < Int.ofNat xs.length)∧0 < xs.length,(Int.ofNat xs.length==Int.ofNat 0)=false,Value.int IntKind.i64 (IntKind.i64.wrap (IntKind.i64.wrap (Int.ofNat 64*IntKind.i64.wrap (Int.ofNat xs.length-Int.ofNat 1))+C1 (xs.getD (n7 0 (IntKind.i64.wrap (Int.ofNat xs.length-Int.ofNat 1)).toNat) (Int.ofNat 0))))=Value.int IntKind.i64 r] :=by kernel_rfl
theorem Cn.trim {xs:List Int} (h:Cn xs):m3 xs=xs:=by
 have:=G5 A3 h.dg
 rw [← h] at this
 exact this
def y1k (a b:Bool) (xs ys:List Int):List Int:=d0q a (!b && decide (0 < ys.length)) xs ys
def y1l (a b:Bool) (xs ys:List Int):Bool:=v1z a (!b && decide (0 < ys.length)) xs ys
def f1f (a b:Bool) (xs ys:List Int):Int:=if val W64 (y1k a b xs ys)=0 then 0 else if y1l a b xs ys then -1 else 1
def ofX (n:Int):List Int:=ws W64 n.natAbs
def j1y (xs:List Int):Int:=((bl (val W64 xs):Nat):Int)
theorem m1k (a b:Bool) {xs ys:List Int} (hx:Cn xs) (hy:Cn ys) (h1:xs.length < 549755813888) (h2:ys.length < 549755813888):Ev.Sem Tryz.prog J0 200 (d0w a b xs ys) [iW (y1l a b xs ys) (y1k a b xs ys)] :=
 d9 T6 10 _ _ (r1g a b _ xs ys _) ⟨rfl,rfl,hx,hy,h1,h2,⟨rfl,by omega,hy.trim⟩,rfl,⟨rfl,Nat.le_refl _,List.take_length⟩,trivial⟩
theorem q1q (a b:Bool) {xs ys:List Int} (hx:Cn xs) (hy:Cn ys) (h1:xs.length < 549755813888) (h2:ys.length < 549755813888):Ev.Sem Tryz.prog J0 149 (d0w a b xs ys) [iR (f1f a b xs ys)] :=by
 refine d9 T6 10 _ _ (q1v a b xs ys _) ⟨Nat.le_refl _,?_,rfl,rfl,hx,hy,h1,h2,⟨rfl,by omega,hy.trim⟩,?_,trivial⟩
 ·rw [List.take_length]
  exact Cn.ws _
 ·rw [List.take_length]
  rfl
theorem v1i {n:Int} (h1: -9223372036854775808≤n) (h2:n≤9223372036854775807):Ev.Sem Tryz.prog J0 114 [iR n] [iW (decide (n < 0)) (ofX n)] :=by
 by_cases h:n < 0
 ·have e1:IntKind.u64.wrap (Int.ofNat 0-IntKind.u64.wrap n)=((n.natAbs:Nat):Int):=by
   have w1:=IntKind.wrap_u64 n
   have w2:=IntKind.wrap_u64 (Int.ofNat 0-IntKind.u64.wrap n)
   simp only [Int.ofNat_eq_natCast] at*
   omega
  have hd:Dg W64 [((n.natAbs:Nat):Int)] :=Dg.cons ⟨by omega,by
   show _ < ((18446744073709551616:Nat):Int)
   omega⟩ (Dg.nil _)
  have ht:m3 [((n.natAbs:Nat):Int)] =ws W64 n.natAbs:=by
   rw [G5 A3 hd]
   simp [val]
  have hp:0 < (ws W64 n.natAbs).length:=wl_pos.2 (by omega)
  have htt:=E3 ht
  refine d9 T6 10 _ _ (o1z _ n _) ⟨⟨Nat.le_refl _,Nat.le_refl _,by decide⟩,decide_eq_true h,?_,?_,trivial⟩
  ·rw [e1,ht,decide_eq_true h,decide_eq_true hp]
   rfl
  ·rw [e1]
   exact⟨htt.1,htt.2.1,htt.2.2,rfl,by decide⟩
 ·have e1:IntKind.u64.wrap n=n:=by
   have w1:=IntKind.wrap_u64 n
   omega
  have e2:p8 n=ofX n:=by
   unfold p8 ofX
   congr 1
   omega
  refine d9 T6 10 _ _ (l1j _ n _) ⟨?_,decide_eq_false h,?_,?_,trivial⟩
  ·rw [e1]
   simp only [Int.ofNat_eq_natCast]
   omega
  ·rw [decide_eq_false h]
  ·rw [e1,e2,List.take_length]
   exact⟨rfl,Nat.le_refl _,rfl⟩
theorem e1b (a:Bool) {xs:List Int} (hx:Cn xs) (h1:xs.length < 549755813888):Ev.Sem Tryz.prog J0 128 [iL a xs] [iR (j1y xs)] :=by
 by_cases h:xs.length=0
 ·refine d9 T6 10 _ _ (x0q a xs _) ⟨by rw [h]; rfl,?_,trivial⟩
  have:=List.eq_nil_of_length_eq_zero h
  subst this
  rfl
 ·obtain⟨t,e1,e2,e3,e4,e5⟩:=j0t hx (by omega)
  have hw:IntKind.i64.wrap (Int.ofNat xs.length-Int.ofNat 1)=((xs.length-1:Nat):Int):=by
   have h1:=m4 (n:=xs.length-1) (by omega)
   rw [← h1]
   congr 1
   simp only [Int.ofNat_eq_natCast]
   omega
  have eA:n7 0 (IntKind.i64.wrap (Int.ofNat xs.length-Int.ofNat 1)).toNat=xs.length-1:=by rw [hw,v6,Int.toNat_natCast,Nat.zero_add]
  have hg:=hx.dg.get b9 (xs.length-1)
  have hb64:bl t≤64:=(tB e2 e3).2.1
  refine d9 T6 10 _ _ (s0p a xs _) ⟨?_,by rw [eA]; omega,⟨⟨?_,?_⟩,by omega⟩,?_,?_,trivial⟩
  ·rw [eA]
   exact⟨hg.1,hg.2⟩
  ·rw [hw]; exact Int.ofNat_le.2 (Nat.zero_le _)
  ·rw [hw]; exact Int.ofNat_lt.2 (by omega)
  ·simp only [beq_eq_false_iff_ne,ne_eq,Int.ofNat.injEq]
   exact h
  ·rw [eA,hw]
   show Value.int .i64 (IntKind.i64.wrap (IntKind.i64.wrap (64*((xs.length-1:Nat):Int))+C1 (xs.getD (xs.length-1) 0)))=_
   rw [e1]
   unfold C1 j1y
   rw [Int.toNat_natCast]
   have hpw:(2:Nat) ^(64*(xs.length-1))=W64 ^(xs.length-1):=by
    rw [Nat.pow_mul]
   have hdiv:val W64 xs/2 ^(64*(xs.length-1))=t:=by
    rw [hpw]
    exact Nat.div_eq_of_lt_le e4 e5
   have hbl:bl (val W64 xs)=64*(xs.length-1)+bl t:=by
    rw [kO (k:=64*(xs.length-1)),hdiv]
    rw [hpw]
    exact Nat.le_trans (Nat.le_mul_of_pos_left _ e2) e4
   rw [hbl]
   have w1:=m4 (n:=64*(xs.length-1)) (by omega)
   have w2:=m4 (n:=64*(xs.length-1)+bl t) (by omega)
   have c1:(64:Int)*((xs.length-1:Nat):Int)=((64*(xs.length-1):Nat):Int):=by omega
   rw [c1,w1,← Int.natCast_add,w2]
def g0q:List Arg→Option (List Arg×List Prop)
 | [.a [.v (.bool a), .s 32 .u64 xs], .a [.v (.bool b), .s 32 .u64 ys]] =>some ([iW (y1l a b xs ys) (y1k a b xs ys)],[Cn xs,Cn ys,xs.length < 549755813888,ys.length < 549755813888])
 | _=>none
def f0f:List Arg→Option (List Arg×List Prop)
 | [.a [.v (.bool a), .s 32 .u64 xs], .a [.v (.bool b), .s 32 .u64 ys]] =>some ([iR (f1f a b xs ys)],[Cn xs,Cn ys,xs.length < 549755813888,ys.length < 549755813888])
 | _=>none
def w0r:List Arg→Option (List Arg×List Prop)
 | [.c (.v (.int .i64 n))] =>some ([iW (decide (n < 0)) (ofX n)],[-9223372036854775808≤n,n≤9223372036854775807])
 | _=>none
def wM:List Arg→Option (List Arg×List Prop)
 | [.a [.v (.bool _), .s 32 .u64 xs]] =>some ([iR (j1y xs)],[Cn xs,xs.length < 549755813888])
 | _=>none
theorem m0z:∀ az rs l,g0q az=some (rs,l)→d5 l→Ev.Sem Tryz.prog J0 200 az rs:=by
 intro az rs l h hl
 unfold g0q at h
 split at h
 ·cases h
  obtain⟨h1,h2,h3,h4,_⟩:=hl
  exact m1k _ _ h1 h2 h3 h4
 ·cases h
theorem o0n:∀ az rs l,f0f az=some (rs,l)→d5 l→Ev.Sem Tryz.prog J0 149 az rs:=by
 intro az rs l h hl
 unfold f0f at h
 split at h
 ·cases h
  obtain⟨h1,h2,h3,h4,_⟩:=hl
  exact q1q _ _ h1 h2 h3 h4
 ·cases h
theorem z0p:∀ az rs l,w0r az=some (rs,l)→d5 l→Ev.Sem Tryz.prog J0 114 az rs:=by
 intro az rs l h hl
 unfold w0r at h
 split at h
 ·cases h
  obtain⟨h1,h2,_⟩:=hl
  exact v1i h1 h2
 ·cases h
theorem e0u:∀ az rs l,wM az=some (rs,l)→d5 l→Ev.Sem Tryz.prog J0 128 az rs:=by
 intro az rs l h hl
 unfold wM at h
 split at h
 ·cases h
  obtain⟨h1,h2,_⟩:=hl
  exact e1b _ h1 h2
 ·cases h
noncomputable def b1c:kM:=l5 148 v0t (l5 200 (y3 [shI,shI] g0q) (l5 149 (y3 [shI,shI] f0f)
 (l5 114 (y3 [shV] w0r) (l5 128 (y3 [shI] wM) u0m))))
theorem b0m:kY Tryz.prog J0 b1c:=b8 p0e (b8 (g9 _ m0z) (b8 (g9 _ o0n) (b8 (g9 _ z0p) (b8 (g9 _ e0u) a0p))))
noncomputable def bW7:Base:=⟨Tryz.prog,J0,false,n0g,b1c,200,H8⟩
theorem cV:BaseOk bW7:=⟨progOk,dV,b0m,i7⟩
noncomputable abbrev XW7:Cx:=bW7.cx 10
noncomputable def l0o:Code:=A2 Tryz.prog 147 0
def n1d (xs L:List Int) (n:Int):St:=⟨only 23 [(1, .int .i64 n),(2, .pointer (some ⟨13,0,none⟩)),(4, .pointer (some ⟨14,0,none⟩)),(5, .pointer (some ⟨17,0,none⟩))],
 [(17, .cells [.bool false,slV 15 L.length] kW),(15, .row T8 1 (.ints .u64 L) 16),(14, .cells [.bool false, .slice none 0 0] kW),(13, .cells [.bool false,slV 11 xs.length] kW),(11, .ints .u64 xs)],19,[],[],0,none,[],13⟩
def c1d (xs L:List Int) (n:Int):St:=⟨only 23 [(1, .int .i64 n),(2, .pointer (some ⟨13,0,none⟩)),(4, .pointer (some ⟨14,0,none⟩)),(5, .pointer (some ⟨17,0,none⟩))],
 [(17, .cells [.bool false,slV 15 L.length] kW),(15, .row T8 1 (.ints .u64 L) 16),(14, .cells [.bool false, .slice none 0 0] kW),(13, .cells [.bool false,slV 21 xs.length] kW),(21, .row T8 1 (.ints .u64 xs) 22)],23,[],[],0,none,[],13⟩
def TPo (L:List Int):St:=⟨only 23 [(4, .pointer (some ⟨14,0,none⟩)),(5, .pointer (some ⟨17,0,none⟩))],
 [(17, .cells [.bool false,slV 15 L.length] kW),(15, .row T8 1 (.ints .u64 L) 16),(14, .cells [.bool false, .slice none 0 0] kW)],19,[],[],0,none,[],13⟩
def c0z (n:Int):Int:=IntKind.i64.wrap (n.tdiv 2)
abbrev nY (L:List Int):List Int:=L.take L.length
theorem s1z (xs L:List Int) (n:Int) (hl:d5 [xs.length=xs.length,xs.length=xs.length,Cn xs,Cn xs,xs.length < 274877906944,xs.length < 274877906944,decide (Int.ofNat 1 < n)=true,L.length≤L.length,xs.length=xs.length,Cn (List.take L.length L),Cn xs,(List.take L.length L).length < 274877906944,xs.length < 274877906944,(n.tmod (Int.ofNat 2)==Int.ofNat 1)=true,decide (Int.ofNat 0 < n)=true]):o9 XW7 l0o (n1d xs L n) .normal (c1d (A9 xs xs) (A9 (nY L) xs) (c0z n)):=
 b7 (Base.cx_ok cV 10).1 progOk.mixed [] 200 [true,true,true] [(15,19),(16,20),(21,22),(22,23)] (by kernel_rfl) hl (by kernel_rfl) (by kernel_rfl)
theorem r1n (xs L:List Int) (n:Int) (hl:d5 [xs.length=xs.length,xs.length=xs.length,Cn xs,Cn xs,xs.length < 274877906944,xs.length < 274877906944,decide (Int.ofNat 1 < n)=true,(n.tmod (Int.ofNat 2)==Int.ofNat 1)=false,decide (Int.ofNat 0 < n)=true]):o9 XW7 l0o (n1d xs L n) .normal (c1d (A9 xs xs) L (c0z n)):=
 b7 (Base.cx_ok cV 10).1 progOk.mixed [] 200 [true,false,true] [(21,19),(22,20)] (by kernel_rfl) hl (by kernel_rfl) (by kernel_rfl)
theorem r1j (xs L:List Int) (n:Int) (hl:d5 [decide (Int.ofNat 1 < n)=false,L.length≤L.length,xs.length=xs.length,Cn (List.take L.length L),Cn xs,(List.take L.length L).length < 274877906944,xs.length < 274877906944,(n.tmod (Int.ofNat 2)==Int.ofNat 1)=true,decide (Int.ofNat 0 < n)=true]):o9 XW7 l0o (n1d xs L n) .normal (n1d xs (A9 (nY L) xs) (c0z n)):=
 b7 (Base.cx_ok cV 10).1 progOk.mixed [] 200 [true,true,false] [(15,19),(16,20)] (by kernel_rfl) hl (by kernel_rfl) (by kernel_rfl)
theorem x1h (xs L:List Int) (n:Int) (hl:d5 [decide (Int.ofNat 0 < n)=false]):o9 XW7 l0o (n1d xs L n) (.exit 0) (TPo L):=
 b7 (Base.cx_ok cV 10).1 progOk.mixed [] 200 [false] [] (by kernel_rfl) hl (by kernel_rfl) (by kernel_rfl)
theorem s1h (xs L:List Int) (n:Int) (hl:d5 [xs.length≤xs.length,xs.length≤xs.length,Cn (List.take xs.length xs),Cn (List.take xs.length xs),(List.take xs.length xs).length < 274877906944,(List.take xs.length xs).length < 274877906944,decide (Int.ofNat 1 < n)=true,L.length≤L.length,xs.length≤xs.length,Cn (List.take L.length L),Cn (List.take xs.length xs),(List.take L.length L).length < 274877906944,(List.take xs.length xs).length < 274877906944,(n.tmod (Int.ofNat 2)==Int.ofNat 1)=true,decide (Int.ofNat 0 < n)=true]):o9 XW7 l0o (c1d xs L n) .normal (c1d (A9 (nY xs) (nY xs)) (A9 (nY L) (nY xs)) (c0z n)):=
 b7 (Base.cx_ok cV 10).1 progOk.mixed [] 200 [true,true,true] [(15,23),(16,24),(21,26),(22,27)] (by kernel_rfl) hl (by kernel_rfl) (by kernel_rfl)
theorem l1w (xs L:List Int) (n:Int) (hl:d5 [xs.length≤xs.length,xs.length≤xs.length,Cn (List.take xs.length xs),Cn (List.take xs.length xs),(List.take xs.length xs).length < 274877906944,(List.take xs.length xs).length < 274877906944,decide (Int.ofNat 1 < n)=true,(n.tmod (Int.ofNat 2)==Int.ofNat 1)=false,decide (Int.ofNat 0 < n)=true]):o9 XW7 l0o (c1d xs L n) .normal (c1d (A9 (nY xs) (nY xs)) L (c0z n)):=
 b7 (Base.cx_ok cV 10).1 progOk.mixed [] 200 [true,false,true] [(21,23),(22,24)] (by kernel_rfl) hl (by kernel_rfl) (by kernel_rfl)
theorem q1b (xs L:List Int) (n:Int) (hl:d5 [decide (Int.ofNat 1 < n)=false,L.length≤L.length,xs.length≤xs.length,Cn (List.take L.length L),Cn (List.take xs.length xs),(List.take L.length L).length < 274877906944,(List.take xs.length xs).length < 274877906944,(n.tmod (Int.ofNat 2)==Int.ofNat 1)=true,decide (Int.ofNat 0 < n)=true]):o9 XW7 l0o (c1d xs L n) .normal (c1d xs (A9 (nY L) (nY xs)) (c0z n)):=
 b7 (Base.cx_ok cV 10).1 progOk.mixed [] 200 [true,true,false] [(15,23),(16,24)] (by kernel_rfl) hl (by kernel_rfl) (by kernel_rfl)
theorem s1p (xs L:List Int) (n:Int) (hl:d5 [decide (Int.ofNat 0 < n)=false]):o9 XW7 l0o (c1d xs L n) (.exit 0) (TPo L):=
 b7 (Base.cx_ok cV 10).1 progOk.mixed [] 200 [false] [] (by kernel_rfl) hl (by kernel_rfl) (by kernel_rfl)
theorem q1x (s:Bool) (xs L R:List Int) (n:Int):n8 XW7 [J5 (.exit 0) (fun _=>TPo L)] 200 147 [iL false xs,iR n] [iL s R] [] =some [a7 XW7 l0o (m5 XW7 200 147 [iL false xs,iR n] []) (.exit 0) (TPo L),Int.ofNat 0≤Int.ofNat 1∧1 < 18446744073709551616,Value.bool false=Value.bool s,L.length=R.length∧L.length≤L.length∧List.take L.length L=R] :=by kernel_rfl
theorem c1x (xs:List Int) (n:Int) (x:AX) (s':St) (h:a7 XW7 l0o (n1d xs (p8 1) n) x s'):a7 XW7 l0o (m5 XW7 200 147 [iL false xs,iR n] []) x s':=
 f9 h [] (by kernel_rfl) (by kernel_rfl) (by kernel_rfl)
structure PwPl where
 first:Bool
 X:Nat
 O:Nat
 n:Nat
def TPw (p:PwPl):St:=match p.first with
 | true=>n1d (ws W64 p.X) (ws W64 p.O) (p.n:Int)
 | false=>c1d (ws W64 p.X) (ws W64 p.O) (p.n:Int)
theorem L5 (a b:Nat):A9 (ws W64 a) (ws W64 b)=ws W64 (a*b):=by unfold A9; rw [t8,t8]
theorem T3 (L:List Int):nY L=L:=List.take_length
theorem g1c {n:Nat} (h:n < 4611686018427387904):c0z (n:Int)=((n/2:Nat):Int):=by
 unfold c0z
 have:=(Int.ofNat_tdiv n 2).symm
 have e:(n:Int).tdiv 2=((n/2:Nat):Int):=this
 rw [e,m4 (by omega)]
theorem y0j {n:Nat} (b:Bool) (h:decide (n%2=1)=b):((n:Int).tmod (Int.ofNat 2)==Int.ofNat 1)=b:=by
 have e:(n:Int).tmod (Int.ofNat 2)=((n%2:Nat):Int):=(Int.ofNat_tmod n 2).symm
 rw [e,← h]
 by_cases h1:n%2=1
 ·rw [h1]; rfl
 ·have:n%2=0:=by omega
  rw [this]; rfl
def p1j (R:Nat) (p:PwPl):Prop:=wl p.O+p.n*wl p.X < 274877906944∧p.O*p.X ^p.n=R∧p.n < 4611686018427387904
theorem g1r (X n:Nat):(X*X) ^(n/2)*X ^(n%2)=X ^n:=by
 have h:X*X=X ^2:=by rw [Nat.pow_succ,Nat.pow_one]
 rw [h,← Nat.pow_mul,← Nat.pow_add]
 congr 1
 omega
theorem d1v {R:Nat} {p:PwPl} (h:p1j R p):(∃ q,p1j R q∧q.n < p.n∧o9 XW7 l0o (TPw p) .normal (TPw q))∨o9 XW7 l0o (TPw p) (.exit 0) (TPo (ws W64 R)):=by
 obtain⟨f,X,O,n⟩:=p
 obtain⟨h1,h2,h3⟩:=h
 simp only at h1 h2 h3
 have hX:=Cn.ws X
 have hO:=Cn.ws O
 have hX':Cn (List.take (ws W64 X).length (ws W64 X)):=by rw [List.take_length]; exact hX
 have hO':Cn (List.take (ws W64 O).length (ws W64 O)):=by rw [List.take_length]; exact hO
 have hh:=g1c h3
 rcases Nat.eq_zero_or_pos n with h0 | h0
 ·subst h0
  rw [Nat.pow_zero,Nat.mul_one] at h2
  subst h2
  right
  cases f
  ·exact s1p _ _ _ ⟨rfl,trivial⟩
  ·exact x1h _ _ _ ⟨rfl,trivial⟩
 left
 have hpos:decide (Int.ofNat 0 < (n:Int))=true:=decide_eq_true (Int.ofNat_lt.2 h0)
 have hle:wl X≤n*wl X:=Nat.le_mul_of_pos_left _ h0
 have lX:(ws W64 X).length < 274877906944:=by show wl X < _; omega
 have lO:(ws W64 O).length < 274877906944:=by show wl O < _; omega
 have lX':(List.take (ws W64 X).length (ws W64 X)).length < 274877906944:=by rw [List.take_length]; exact lX
 have lO':(List.take (ws W64 O).length (ws W64 O)).length < 274877906944:=by rw [List.take_length]; exact lO
 have w1:=b1w O X
 have w2:=b1w X X
 by_cases hn1:n=1
 ·subst hn1
  rw [Nat.pow_one] at h2
  have hodd:(((1:Nat):Int).tmod (Int.ofNat 2)==Int.ofNat 1)=true:=by decide
  have hn2:decide (Int.ofNat 1 < ((1:Nat):Int))=false:=by decide
  refine⟨⟨f,X,O*X,0⟩,⟨by simp only; omega,by simpa using h2,by simp⟩,by simp,?_⟩
  cases f
  ·have:=q1b (ws W64 X) (ws W64 O) ((1:Nat):Int) ⟨hn2,Nat.le_refl _,Nat.le_refl _,hO',hX',lO',lX',hodd,hpos,trivial⟩
   rw [T3,T3,L5,hh] at this
   exact this
  ·have:=r1j (ws W64 X) (ws W64 O) ((1:Nat):Int) ⟨hn2,Nat.le_refl _,rfl,hO',hX,lO',lX,hodd,hpos,trivial⟩
   rw [T3,L5,hh] at this
   exact this
 ·have hn2:decide (Int.ofNat 1 < (n:Int))=true:=decide_eq_true (Int.ofNat_lt.2 (by omega))
  have hd:n/2*(2*wl X)+n%2*wl X=n*wl X:=by
   rw [← Nat.mul_assoc,← Nat.add_mul]
   congr 1
   omega
  have hm:n/2*wl (X*X)≤n/2*(2*wl X):=Nat.mul_le_mul_left _ (by omega)
  have hp:=g1r X n
  by_cases ho:n%2=1
  ·have hodd:=y0j (n:=n) true (decide_eq_true ho)
   rw [ho,Nat.pow_one] at hp
   rw [ho,Nat.one_mul] at hd
   refine⟨⟨false,X*X,O*X,n/2⟩,⟨by simp only; omega,?_,by simp only; omega⟩,by simp only; omega,?_⟩
   ·simp only
    rw [← h2,← hp,Nat.mul_assoc,Nat.mul_comm X]
   cases f
   ·have:=s1h (ws W64 X) (ws W64 O) (n:Int) ⟨Nat.le_refl _,Nat.le_refl _,hX',hX',lX',lX',hn2,Nat.le_refl _,Nat.le_refl _,hO',hX',lO',lX',hodd,hpos,trivial⟩
    rw [T3,T3,L5,L5,hh] at this
    exact this
   ·have:=s1z (ws W64 X) (ws W64 O) (n:Int) ⟨rfl,rfl,hX,hX,lX,lX,hn2,Nat.le_refl _,rfl,hO',hX,lO',lX,hodd,hpos,trivial⟩
    rw [T3,L5,L5,hh] at this
    exact this
  ·have hodd:=y0j (n:=n) false (decide_eq_false ho)
   have ho:n%2=0:=by omega
   rw [ho,Nat.pow_zero,Nat.mul_one] at hp
   rw [ho,Nat.zero_mul,Nat.add_zero] at hd
   refine⟨⟨false,X*X,O,n/2⟩,⟨by simp only; omega,by simp only; rw [hp]; exact h2,by simp only; omega⟩,by simp only; omega,?_⟩
   cases f
   ·have:=l1w (ws W64 X) (ws W64 O) (n:Int) ⟨Nat.le_refl _,Nat.le_refl _,hX',hX',lX',lX',hn2,hodd,hpos,trivial⟩
    rw [T3,L5,hh] at this
    exact this
   ·have:=r1n (ws W64 X) (ws W64 O) (n:Int) ⟨rfl,rfl,hX,hX,lX,lX,hn2,hodd,hpos,trivial⟩
    rw [L5,hh] at this
    exact this
theorem u0k {X n:Nat} (h1:1+n*wl X < 274877906944) (h2:n < 4611686018427387904):Ev.Sem Tryz.prog J0 147 [iL false (ws W64 X),iR (n:Int)] [iW false (ws W64 (X ^n))] :=by
 have hw1:wl 1≤1:=wl_le.2 (by rw [Nat.pow_one]; decide)
 have hL:=A8 (X:=XW7) (c:=l0o) (x:= .exit 0) TPw (fun p=>p.n) (p1j (X ^n)) (by intro e; cases e) (s':=TPo (ws W64 (X ^n))) (fun p hp=>by
  rcases d1v hp with ⟨q,a,b,c⟩ | h
  ·exact .inl ⟨q,a,b,c⟩
  ·exact .inr h) ⟨true,X,1,n⟩ ⟨by simp only; omega,by simp,h2⟩
 exact d9 cV 10 _ _ (q1x false (ws W64 X) (ws W64 (X ^n)) _ (n:Int)) ⟨c1x _ _ _ _ hL,⟨by simp,by decide⟩,rfl,⟨rfl,Nat.le_refl _,List.take_length⟩,trivial⟩
def bU (xs:List Int) (n:Int):List Int:=ws W64 (val W64 xs ^n.toNat)
def mE:List Arg→Option (List Arg×List Prop)
 | [.a [.v (.bool false), .s 32 .u64 xs], .c (.v (.int .i64 n))] =>some ([iW false (bU xs n)],[Cn xs,0≤n∧n.toNat < 4611686018427387904,1+n.toNat*xs.length < 274877906944])
 | _=>none
theorem a0t:∀ az rs l,mE az=some (rs,l)→d5 l→Ev.Sem Tryz.prog J0 147 az rs:=by
 intro az rs l h hl
 unfold mE at h
 split at h
 ·cases h
  rename_i xs n
  obtain⟨h1,⟨h2,h3⟩,h4,_⟩:=hl
  unfold Cn at h1
  have:=u0k (X:=val W64 xs) (n:=n.toNat) (by unfold wl; rw [← h1]; exact h4) h3
  rw [← h1,Int.toNat_of_nonneg h2] at this
  exact this
 ·cases h
end Go.Proofs.YtdgfhijnconaoaaGreatDoor
namespace Go.Proofs
def Tryz.lays287_ren:Go.Shelf.Ren:=⟨fun | 287=>215 | 321=>232 | 322=>233 | n=>n,fun | 9=>9 | 3=>3 | 53=>32 | 75=>170 | 4=>4 | 167=>274 | 5=>5 | 46=>110 | 37=>22 | 0=>0 | 21=>21 | 80=>159 | n=>n,fun | n=>n⟩
theorem Tryz.lays287:Go.Proofs.Lays.n287 Tryz.prog Tryz.lays287_ren where
 mixed:=by kernel_rfl
 f287:=Tryz.func215.trans (congrArg some (by kernel_rfl))
 f321:=Tryz.func232.trans (congrArg some (by kernel_rfl))
 f322:=Tryz.func233.trans (congrArg some (by kernel_rfl))
 t0:=Tryz.underlying0
 a0:=Tryz.isAgg0
 z0:=Tryz.sizeOf0
 v0:=Tryz.zeroValue0
 t3:=Tryz.underlying3
 a3:=Tryz.isAgg3
 z3:=Tryz.sizeOf3
 v3:=Tryz.zeroValue3
 t4:=Tryz.underlying4
 a4:=Tryz.isAgg4
 z4:=Tryz.sizeOf4
 v4:=Tryz.zeroValue4
 t5:=Tryz.underlying5
 a5:=Tryz.isAgg5
 z5:=Tryz.sizeOf5
 v5:=Tryz.zeroValue5
 t9:=Tryz.underlying9
 a9:=Tryz.isAgg9
 z9:=Tryz.sizeOf9
 v9:=Tryz.zeroValue9
 t21:=Tryz.underlying21
 a21:=Tryz.isAgg21
 z21:=Tryz.sizeOf21
 v21:=Tryz.zeroValue21
 t37:=Tryz.underlying22
 a37:=Tryz.isAgg22
 z37:=Tryz.sizeOf22
 v37:=Tryz.zeroValue22
 t46:=Tryz.underlying110
 a46:=Tryz.isAgg110
 z46:=Tryz.sizeOf110
 v46:=Tryz.zeroValue110
 t53:=Tryz.underlying32
 a53:=Tryz.isAgg32
 z53:=Tryz.sizeOf32
 v53:=Tryz.zeroValue32
 t75:=Tryz.underlying170
 a75:=Tryz.isAgg170
 z75:=Tryz.sizeOf170
 v75:=Tryz.zeroValue170
 t167:=Tryz.underlying274
 a167:=Tryz.isAgg274
 z167:=Tryz.sizeOf274
 v167:=Tryz.zeroValue274
namespace YtdgfhijnconaoaaGreatDoor
open Go Go.RowKit Ev Wd
def kQ (l:List UInt8):Int:=(((Lib.decFrom 0 l).getD 0:Nat):Int)
def P9 (l:List UInt8):Prop:=(Lib.decFrom 0 l).isSome=true
theorem e0b {l:List UInt8} (h1:P9 l) (h2:l.length≤18) (h3:l≠[]):Lib.parseUintB 64 l= .ok ((Lib.decFrom 0 l).getD 0):=by
 have eM:(2:Nat) ^64-1=18446744073709551615:=by decide
 unfold Lib.parseUintB
 rw [if_neg h3,eM,Lib.parseUintM_64,Lib.parseUint10_short l 0 0 (by decide) (by omega)]
 unfold P9 at h1
 cases h:Lib.decFrom 0 l with
 | none=>rw [h] at h1; cases h1
 | some n=>rfl
def z0n:List Value→Option (Value×List Prop)
 | [.string s, .int .i64 10, .int .i64 64] =>some (.tuple ⟨[.int .u64 (kQ s.data.toList), .nilIface]⟩,[P9 s.data.toList,s.data.toList.length≤18,0 < s.data.toList.length])
 | _=>none
theorem s0y (args:List Value) (v:Value) (l:List Prop) (h:z0n args=some (v,l)) (hl:d5 l):Pure Tryz.prog J0 215 args v:=by
 unfold z0n at h
 split at h
 case h_2=>cases h
 rename_i s
 cases h
 obtain⟨h1,h2,h3,_⟩:=hl
 refine⟨rfl,rfl, .inl ⟨enters_of Tryz.func215 (by kernel_rfl) (c:=_) rfl,fun w hI=> ?_⟩⟩
 have hs:s.size=s.data.toList.length:=rfl
 refine (Any.internal_strconv_ParseUint_10_at64 Tryz.lays287 s (by omega) w).mono fun e w' ⟨he,hw⟩=>⟨?_,?_⟩
 ·rw [he,e0b h1 h2 (by intro e; rw [e] at h3; cases h3)]
  rfl
 ·rcases hw with rfl | rfl
  ·exact Below.refl _ _
  ·exact Lib.bytesWorld_below _ _ _
noncomputable def x0h:Tab:=i6 215 z0n n0g
theorem kP:N1 Tryz.prog J0 x0h:=b6 s0y dV
noncomputable def x0p:kM:=l5 147 (y3 [shI,shV] mE) b1c
theorem d0f:kY Tryz.prog J0 x0p:=b8 (g9 _ a0t) b0m
noncomputable def bW8:Base:=⟨Tryz.prog,J0,false,x0h,x0p,200,H8⟩
theorem qZ:BaseOk bW8:=⟨progOk,kP,d0f,i7⟩
noncomputable abbrev XW8:Cx:=bW8.cx 10
end YtdgfhijnconaoaaGreatDoor
end Go.Proofs
namespace Go.Proofs.YtdgfhijnconaoaaGreatDoor
open Go Go.RowKit Ev Wd
noncomputable def p0k:Code:=A2 Tryz.prog 126 0
def a1i (l:List UInt8):St:=⟨only 32 [(0, .string ⟨⟨l⟩⟩),(2, .pointer (some ⟨11,0,none⟩)),(3, .pointer (some ⟨12,0,none⟩))],
 [(12, .cells [.bool false, .slice none 0 0] kW),(11, .cells [.bool false, .slice none 0 0] kW)],14,[],[],0,none,[],11⟩
def p0t (l:List UInt8) (xs:List Int):St:=⟨only 32 [(0, .string ⟨⟨l⟩⟩),(2, .pointer (some ⟨11,0,none⟩)),(3, .pointer (some ⟨12,0,none⟩))],
 [(12, .cells [.bool false,slV 21 xs.length] kW),(11, .cells [.bool false, .slice none 0 0] kW),(21, .row T8 1 (.ints .u64 xs) 22)],23,[],[],0,none,[],11⟩
def yS (l:List UInt8):Int:=if Int.ofNat 18 < Int.ofNat l.length then Int.ofNat 18 else Int.ofNat l.length
def r1r (l:List UInt8):List Int:=bU [10] (yS l)
def c1g (xs:List Int) (l:List UInt8):List Int:=A9 xs (r1r l)
def g1n (l:List UInt8):List Int:=p8 (kQ (l.take (yS l).toNat))
def r1z (xs:List Int) (l:List UInt8):List Int:=d0q (yT false (c1g xs l)) false ((c1g xs l).take (c1g xs l).length) ((g1n l).take (g1n l).length)
theorem q0r (l:List UInt8) (hl:d5 [(Int.ofNat 0≤if Int.ofNat 18 < Int.ofNat l.length then Int.ofNat 18 else Int.ofNat l.length)∧(if Int.ofNat 18 < Int.ofNat l.length then Int.ofNat 18 else Int.ofNat l.length)≤Int.ofNat l.length,(A9 [] (bU [Int.ofNat 10] (if Int.ofNat 18 < Int.ofNat l.length then Int.ofNat 18 else Int.ofNat l.length))).length≤(A9 [] (bU [Int.ofNat 10] (if Int.ofNat 18 < Int.ofNat l.length then Int.ofNat 18 else Int.ofNat l.length))).length,(p8 (kQ (List.take (if Int.ofNat 18 < Int.ofNat l.length then Int.ofNat 18 else Int.ofNat l.length).toNat l))).length≤(p8 (kQ (List.take (if Int.ofNat 18 < Int.ofNat l.length then Int.ofNat 18 else Int.ofNat l.length).toNat l))).length,Cn (List.take (A9 [] (bU [Int.ofNat 10] (if Int.ofNat 18 < Int.ofNat l.length then Int.ofNat 18 else Int.ofNat l.length))).length (A9 [] (bU [Int.ofNat 10] (if Int.ofNat 18 < Int.ofNat l.length then Int.ofNat 18 else Int.ofNat l.length)))),Cn (List.take (p8 (kQ (List.take (if Int.ofNat 18 < Int.ofNat l.length then Int.ofNat 18 else Int.ofNat l.length).toNat l))).length (p8 (kQ (List.take (if Int.ofNat 18 < Int.ofNat l.length then Int.ofNat 18 else Int.ofNat l.length).toNat l)))),(List.take (A9 [] (bU [Int.ofNat 10] (if Int.ofNat 18 < Int.ofNat l.length then Int.ofNat 18 else Int.ofNat l.length))).length (A9 [] (bU [Int.ofNat 10] (if Int.ofNat 18 < Int.ofNat l.length then Int.ofNat 18 else Int.ofNat l.length)))).length < 549755813888,(List.take (p8 (kQ (List.take (if Int.ofNat 18 < Int.ofNat l.length then Int.ofNat 18 else Int.ofNat l.length).toNat l))).length (p8 (kQ (List.take (if Int.ofNat 18 < Int.ofNat l.length then Int.ofNat 18 else Int.ofNat l.length).toNat l)))).length < 549755813888,Int.ofNat 0≤kQ (List.take (if Int.ofNat 18 < Int.ofNat l.length then Int.ofNat 18 else Int.ofNat l.length).toNat l)∧(kQ (List.take (if Int.ofNat 18 < Int.ofNat l.length then Int.ofNat 18 else Int.ofNat l.length).toNat l)).toNat < 18446744073709551616,(bU [Int.ofNat 10] (if Int.ofNat 18 < Int.ofNat l.length then Int.ofNat 18 else Int.ofNat l.length)).length=(bU [Int.ofNat 10] (if Int.ofNat 18 < Int.ofNat l.length then Int.ofNat 18 else Int.ofNat l.length)).length,Cn [],Cn (bU [Int.ofNat 10] (if Int.ofNat 18 < Int.ofNat l.length then Int.ofNat 18 else Int.ofNat l.length)),0 < 274877906944,(bU [Int.ofNat 10] (if Int.ofNat 18 < Int.ofNat l.length then Int.ofNat 18 else Int.ofNat l.length)).length < 274877906944,1≤1,Cn [Int.ofNat 10],(Int.ofNat 0≤if Int.ofNat 18 < Int.ofNat l.length then Int.ofNat 18 else Int.ofNat l.length)∧(if Int.ofNat 18 < Int.ofNat l.length then Int.ofNat 18 else Int.ofNat l.length).toNat < 4611686018427387904,1+(if Int.ofNat 18 < Int.ofNat l.length then Int.ofNat 18 else Int.ofNat l.length).toNat*1 < 274877906944,Int.ofNat 0≤Int.ofNat 10∧10 < 18446744073709551616,P9 (List.take (if Int.ofNat 18 < Int.ofNat l.length then Int.ofNat 18 else Int.ofNat l.length).toNat l),(List.take (if Int.ofNat 18 < Int.ofNat l.length then Int.ofNat 18 else Int.ofNat l.length).toNat l).length≤18,0 < (List.take (if Int.ofNat 18 < Int.ofNat l.length then Int.ofNat 18 else Int.ofNat l.length).toNat l).length,(Int.ofNat 0≤if Int.ofNat 18 < Int.ofNat l.length then Int.ofNat 18 else Int.ofNat l.length)∧(if Int.ofNat 18 < Int.ofNat l.length then Int.ofNat 18 else Int.ofNat l.length)≤Int.ofNat l.length,decide (Int.ofNat 0 < Int.ofNat l.length)=true]):o9 XW8 p0k (a1i l) .normal (p0t (l.drop (yS l).toNat) (r1z [] l)):=
 b7 (Base.cx_ok qZ 10).1 progOk.mixed [] 200 [true] [(21,24),(22,25)] (by kernel_rfl) hl (by kernel_rfl) (by kernel_rfl)
theorem f1d (l:List UInt8) (hl:d5 [decide (Int.ofNat 0 < Int.ofNat l.length)=false]):o9 XW8 p0k (a1i l) (.exit 0) (a1i l):=
 b7 (Base.cx_ok qZ 10).1 progOk.mixed [] 200 [false] [] (by kernel_rfl) hl (by kernel_rfl) (by kernel_rfl)
theorem h1p (l:List UInt8) (xs:List Int) (hl:d5 [decide (Int.ofNat 0 < Int.ofNat l.length)=false]):o9 XW8 p0k (p0t l xs) (.exit 0) (p0t l xs):=
 b7 (Base.cx_ok qZ 10).1 progOk.mixed [] 200 [false] [] (by kernel_rfl) hl (by kernel_rfl) (by kernel_rfl)
theorem f1z (l:List UInt8) (xs:List Int) (hl:d5 [(Int.ofNat 0≤if Int.ofNat 18 < Int.ofNat l.length then Int.ofNat 18 else Int.ofNat l.length)∧(if Int.ofNat 18 < Int.ofNat l.length then Int.ofNat 18 else Int.ofNat l.length)≤Int.ofNat l.length,(A9 xs (bU [Int.ofNat 10] (if Int.ofNat 18 < Int.ofNat l.length then Int.ofNat 18 else Int.ofNat l.length))).length≤(A9 xs (bU [Int.ofNat 10] (if Int.ofNat 18 < Int.ofNat l.length then Int.ofNat 18 else Int.ofNat l.length))).length,(p8 (kQ (List.take (if Int.ofNat 18 < Int.ofNat l.length then Int.ofNat 18 else Int.ofNat l.length).toNat l))).length≤(p8 (kQ (List.take (if Int.ofNat 18 < Int.ofNat l.length then Int.ofNat 18 else Int.ofNat l.length).toNat l))).length,Cn (List.take (A9 xs (bU [Int.ofNat 10] (if Int.ofNat 18 < Int.ofNat l.length then Int.ofNat 18 else Int.ofNat l.length))).length (A9 xs (bU [Int.ofNat 10] (if Int.ofNat 18 < Int.ofNat l.length then Int.ofNat 18 else Int.ofNat l.length)))),Cn (List.take (p8 (kQ (List.take (if Int.ofNat 18 < Int.ofNat l.length then Int.ofNat 18 else Int.ofNat l.length).toNat l))).length (p8 (kQ (List.take (if Int.ofNat 18 < Int.ofNat l.length then Int.ofNat 18 else Int.ofNat l.length).toNat l)))),(List.take (A9 xs (bU [Int.ofNat 10] (if Int.ofNat 18 < Int.ofNat l.length then Int.ofNat 18 else Int.ofNat l.length))).length (A9 xs (bU [Int.ofNat 10] (if Int.ofNat 18 < Int.ofNat l.length then Int.ofNat 18 else Int.ofNat l.length)))).length < 549755813888,(List.take (p8 (kQ (List.take (if Int.ofNat 18 < Int.ofNat l.length then Int.ofNat 18 else Int.ofNat l.length).toNat l))).length (p8 (kQ (List.take (if Int.ofNat 18 < Int.ofNat l.length then Int.ofNat 18 else Int.ofNat l.length).toNat l)))).length < 549755813888,Int.ofNat 0≤kQ (List.take (if Int.ofNat 18 < Int.ofNat l.length then Int.ofNat 18 else Int.ofNat l.length).toNat l)∧(kQ (List.take (if Int.ofNat 18 < Int.ofNat l.length then Int.ofNat 18 else Int.ofNat l.length).toNat l)).toNat < 18446744073709551616,xs.length=xs.length,(bU [Int.ofNat 10] (if Int.ofNat 18 < Int.ofNat l.length then Int.ofNat 18 else Int.ofNat l.length)).length=(bU [Int.ofNat 10] (if Int.ofNat 18 < Int.ofNat l.length then Int.ofNat 18 else Int.ofNat l.length)).length,Cn xs,Cn (bU [Int.ofNat 10] (if Int.ofNat 18 < Int.ofNat l.length then Int.ofNat 18 else Int.ofNat l.length)),xs.length < 274877906944,(bU [Int.ofNat 10] (if Int.ofNat 18 < Int.ofNat l.length then Int.ofNat 18 else Int.ofNat l.length)).length < 274877906944,1≤1,Cn [Int.ofNat 10],(Int.ofNat 0≤if Int.ofNat 18 < Int.ofNat l.length then Int.ofNat 18 else Int.ofNat l.length)∧(if Int.ofNat 18 < Int.ofNat l.length then Int.ofNat 18 else Int.ofNat l.length).toNat < 4611686018427387904,1+(if Int.ofNat 18 < Int.ofNat l.length then Int.ofNat 18 else Int.ofNat l.length).toNat*1 < 274877906944,Int.ofNat 0≤Int.ofNat 10∧10 < 18446744073709551616,P9 (List.take (if Int.ofNat 18 < Int.ofNat l.length then Int.ofNat 18 else Int.ofNat l.length).toNat l),(List.take (if Int.ofNat 18 < Int.ofNat l.length then Int.ofNat 18 else Int.ofNat l.length).toNat l).length≤18,0 < (List.take (if Int.ofNat 18 < Int.ofNat l.length then Int.ofNat 18 else Int.ofNat l.length).toNat l).length,(Int.ofNat 0≤if Int.ofNat 18 < Int.ofNat l.length then Int.ofNat 18 else Int.ofNat l.length)∧(if Int.ofNat 18 < Int.ofNat l.length then Int.ofNat 18 else Int.ofNat l.length)≤Int.ofNat l.length,decide (Int.ofNat 0 < Int.ofNat l.length)=true]):o9 XW8 p0k (p0t l xs) .normal (p0t (l.drop (yS l).toNat) (r1z xs l)):=
 b7 (Base.cx_ok qZ 10).1 progOk.mixed [] 200 [true] [(21,33),(22,34)] (by kernel_rfl) hl (by kernel_rfl) (by kernel_rfl)
theorem n0j (l l':List UInt8) (s:Bool) (R:List Int):n8 XW8 [J5 (.exit 0) (fun _=>a1i l')] 200 126 [.c (.v (.string ⟨⟨l⟩⟩))] [iL s R] [] =some [a7 XW8 p0k (m5 XW8 200 126 [.c (.v (.string ⟨⟨l⟩⟩))] []) (.exit 0) (a1i l'),Value.bool false=Value.bool s,R=[]] :=by kernel_rfl
theorem n0w (l l':List UInt8) (s:Bool) (xs R:List Int):n8 XW8 [J5 (.exit 0) (fun _=>p0t l' xs)] 200 126 [.c (.v (.string ⟨⟨l⟩⟩))] [iL s R] [] =some [a7 XW8 p0k (m5 XW8 200 126 [.c (.v (.string ⟨⟨l⟩⟩))] []) (.exit 0) (p0t l' xs),Value.bool false=Value.bool s,xs.length=R.length∧xs.length≤xs.length∧List.take xs.length xs=R] :=by kernel_rfl
theorem k0h (l:List UInt8) (x:AX) (s':St) (h:a7 XW8 p0k (a1i l) x s'):a7 XW8 p0k (m5 XW8 200 126 [.c (.v (.string ⟨⟨l⟩⟩))] []) x s':=
 f9 h [] (by kernel_rfl) (by kernel_rfl) (by kernel_rfl)
def dgN (l:List UInt8):Nat:=(Lib.decFrom 0 l).getD 0
theorem D7:∀ (l:List UInt8) (acc:Nat),Lib.decFrom acc l=(Lib.decFrom 0 l).map (fun n=>acc*10 ^l.length+n)
 | [],acc=>by simp [Lib.decFrom]
 | b ::r,acc=>by
  simp only [Lib.decFrom]
  cases h:Lib.digitVal b with
  | none=>rfl
  | some d=>
   simp only
   rw [D7 r (acc*10+d),D7 r (0*10+d)]
   cases Lib.decFrom 0 r with
   | none=>rfl
   | some n=>
    simp only [Option.map_some,List.length_cons,Nat.pow_succ]
    congr 1
    rw [Nat.zero_mul,Nat.zero_add,Nat.add_mul]
    have:acc*10*10 ^r.length=acc*(10 ^r.length*10):=by rw [Nat.mul_assoc,Nat.mul_comm 10]
    omega
theorem aH:∀ (l m:List UInt8) (acc:Nat),Lib.decFrom acc (l++m)=(Lib.decFrom acc l).bind fun a=>Lib.decFrom a m
 | [],m,acc=>rfl
 | b ::r,m,acc=>by
  simp only [List.cons_append,Lib.decFrom]
  cases Lib.digitVal b with
  | none=>rfl
  | some d=>exact aH r m _
theorem m0d {l:List UInt8} (h:P9 l) (k:Nat):P9 (l.take k)∧P9 (l.drop k)∧dgN l=dgN (l.take k)*10 ^(l.drop k).length+dgN (l.drop k):=by
 unfold P9 dgN at*
 have e:=aH (l.take k) (l.drop k) 0
 rw [List.take_append_drop] at e
 rw [e] at h ⊢
 cases h1:Lib.decFrom 0 (l.take k) with
 | none=>rw [h1] at h; cases h
 | some a=>
  rw [h1] at h
  simp only [Option.bind_some] at h ⊢
  have s1:=D7 (l.drop k) a
  cases h2:Lib.decFrom 0 (l.drop k) with
  | none=>rw [s1,h2] at h; cases h
  | some n=>
   refine⟨rfl,rfl,?_⟩
   rw [s1,h2]
   rfl
theorem j0e:∀ {l:List UInt8},P9 l→dgN l < 10 ^l.length:=by
 intro l
 induction l with
 | nil=>intro _; simp [dgN,Lib.decFrom]
 | cons b r ih=>
  intro h
  unfold P9 dgN at*
  simp only [Lib.decFrom] at h ⊢
  cases hb:Lib.digitVal b with
  | none=>rw [hb] at h; cases h
  | some d=>
   rw [hb] at h
   simp only at h ⊢
   rw [D7] at h ⊢
   have hd:d < 10:=by
    unfold Lib.digitVal at hb
    split at hb
    ·cases hb; omega
    ·cases hb
   cases hr:Lib.decFrom 0 r with
   | none=>rw [hr] at h; cases h
   | some n=>
    have:=ih (by rw [hr]; rfl)
    rw [hr] at this
    simp only [Option.getD_some,Option.map_some,List.length_cons,Nat.pow_succ] at this ⊢
    rw [Nat.zero_mul,Nat.zero_add]
    have q:d*10 ^r.length+10 ^r.length≤10*10 ^r.length:=by
     rw [← Nat.succ_mul]
     exact Nat.mul_le_mul_right _ hd
    omega
theorem sN (k:Nat) {x:Nat} (h:x < 10 ^k):wl x≤k:=
 wl_le.2 (Nat.lt_of_lt_of_le h (Nat.pow_le_pow_left (by decide) k))
theorem i1r {x:Nat} {l:List UInt8} (_:P9 l) (hp:0 < l.length):∃ k:Nat,yS l=(k:Int)∧0 < k∧k≤18∧k≤l.length∧r1r l=ws W64 (10 ^k)∧c1g (ws W64 x) l=ws W64 (x*10 ^k)∧g1n l=ws W64 (dgN (l.take k))∧r1z (ws W64 x) l=ws W64 (x*10 ^k+dgN (l.take k)):=by
 have hk:∃ k:Nat,yS l=(k:Int)∧0 < k∧k≤18∧k≤l.length:=by
  unfold yS
  split
  ·rename_i hlt
   exact⟨18,rfl,by decide,Nat.le_refl _,by have:=Int.ofNat_lt.1 hlt; omega⟩
  ·rename_i hlt
   refine⟨l.length,rfl,hp,?_,Nat.le_refl _⟩
   have:¬ (18 < l.length):=fun h=>hlt (Int.ofNat_lt.2 h)
   omega
 obtain⟨k,e1,e2,e3,e4⟩:=hk
 have eP:r1r l=ws W64 (10 ^k):=by
  unfold r1r bU
  rw [e1,Int.toNat_natCast]
  rfl
 have eM:c1g (ws W64 x) l=ws W64 (x*10 ^k):=by unfold c1g; rw [eP,L5]
 have eW:g1n l=ws W64 (dgN (l.take k)):=by
  unfold g1n p8 kQ dgN
  rw [e1,Int.toNat_natCast,Int.toNat_natCast]
 refine⟨k,e1,e2,e3,e4,eP,eM,eW,?_⟩
 unfold r1z
 rw [eM,eW,List.take_length,List.take_length]
 unfold d0q
 rw [t8,t8]
 rfl
theorem e1t {N R:Nat} (hN:N < 100000000000) {x:Nat} {l:List UInt8} (h:P9 l) (hp:0 < l.length) (hl:l.length≤N) (hx:x < 10 ^(N-l.length)) (hR:x*10 ^l.length+dgN l=R):
  ∃ (k x':Nat),0 < k∧k≤l.length∧P9 (l.drop k)∧x' < 10 ^(N- (l.drop k).length)∧x'*10 ^(l.drop k).length+dgN (l.drop k)=R∧
   (x=0→o9 XW8 p0k (a1i l) .normal (p0t (l.drop k) (ws W64 x')))∧o9 XW8 p0k (p0t l (ws W64 x)) .normal (p0t (l.drop k) (ws W64 x')):=by
 obtain⟨k,e1,e2,e3,e4,eP,eM,eW,eX⟩:=i1r (x:=x) h hp
 obtain⟨a1,a2,a3⟩:=m0d h k
 have hdl:(l.drop k).length=l.length-k:=List.length_drop
 have htl:(l.take k).length=k:=by rw [List.length_take]; omega
 have hd:=j0e a1
 rw [htl] at hd
 have hx10:x*10 ^k+dgN (l.take k) < 10 ^(N- (l.drop k).length):=by
  rw [hdl,show N- (l.length-k)=(N-l.length)+k by omega,Nat.pow_add]
  have:(x+1)*10 ^k≤10 ^(N-l.length)*10 ^k:=Nat.mul_le_mul_right _ hx
  rw [Nat.add_mul,Nat.one_mul] at this
  omega
 have hxm:x*10 ^k < 10 ^(N- (l.drop k).length):=by omega
 have hd18:dgN (l.take k) < 10 ^18:=Nat.lt_of_lt_of_le hd (Nat.pow_le_pow_right (by decide) e3)
 have hdW:dgN (l.take k) < W64:=Nat.lt_trans hd18 (by decide)
 have w1:wl x≤N:=by have:=sN _ hx; omega
 have w2:wl (10 ^k)≤k+1:=sN (k+1) (Nat.pow_lt_pow_right (by decide) (Nat.lt_succ_self k))
 have w3:wl (x*10 ^k)≤N:=by have:=sN _ hxm; omega
 have w4:wl (dgN (l.take k))≤18:=sN _ hd18
 have eWt:p8 (kQ (l.take k))=ws W64 (dgN (l.take k)):=by unfold p8 kQ dgN; rw [Int.toNat_natCast]
 have ht:(yS l).toNat=k:=by rw [e1,Int.toNat_natCast]
 have c10:Cn [Int.ofNat 10] :=by show [10] =ws W64 (val W64 [10]); decide
 have oK:Int.ofNat 0≤yS l∧yS l≤Int.ofNat l.length:=by rw [e1]; exact⟨Int.ofNat_le.2 (Nat.zero_le _),Int.ofNat_le.2 e4⟩
 have oK2:Int.ofNat 0≤yS l∧(yS l).toNat < 4611686018427387904:=⟨oK.1,by rw [ht]; omega⟩
 have oK3:1+(yS l).toNat*1 < 274877906944:=by rw [ht]; omega
 have oM:Cn (List.take (c1g (ws W64 x) l).length (c1g (ws W64 x) l)):=by rw [List.take_length,eM]; exact Cn.ws _
 have oM2:(List.take (c1g (ws W64 x) l).length (c1g (ws W64 x) l)).length < 549755813888:=by rw [List.take_length,eM]; show wl _ < _; omega
 have oW:Cn (List.take (g1n l).length (g1n l)):=by rw [List.take_length,eW]; exact Cn.ws _
 have oW2:(List.take (g1n l).length (g1n l)).length < 549755813888:=by rw [List.take_length,eW]; show wl _ < _; omega
 have oD:Int.ofNat 0≤kQ (List.take (yS l).toNat l)∧(kQ (List.take (yS l).toNat l)).toNat < 18446744073709551616:=by
  rw [ht]
  unfold kQ
  exact⟨Int.ofNat_le.2 (Nat.zero_le _),by rw [Int.toNat_natCast]; exact hdW⟩
 have oP:Cn (r1r l):=by rw [eP]; exact Cn.ws _
 have oP2:(r1r l).length < 274877906944:=by rw [eP]; show wl _ < _; omega
 have oA:P9 (List.take (yS l).toNat l):=by rw [ht]; exact a1
 have oT:(List.take (yS l).toNat l).length≤18:=by rw [ht,htl]; exact e3
 have oT2:0 < (List.take (yS l).toNat l).length:=by rw [ht,htl]; exact e2
 have oL:decide (Int.ofNat 0 < Int.ofNat l.length)=true:=decide_eq_true (Int.ofNat_lt.2 hp)
 refine⟨k,x*10 ^k+dgN (l.take k),e2,e4,a2,hx10,?_,fun h0=> ?_,?_⟩
 ·rw [← hR,a3,Nat.add_mul,Nat.mul_assoc,← Nat.pow_add,hdl,show k+(l.length-k)=l.length by omega]
  omega
 ·subst h0
  have:=q0r l ⟨oK,Nat.le_refl _,Nat.le_refl _,oM,oW,oM2,oW2,oD,rfl,Cn.ws 0,oP,by decide,oP2,Nat.le_refl _,c10,oK2,oK3,⟨by decide,by decide⟩,oA,oT,oT2,oK,oL,trivial⟩
  rw [ht,show r1z [] l=r1z (ws W64 0) l from rfl,eX] at this
  exact this
 ·have:=f1z l (ws W64 x) ⟨oK,Nat.le_refl _,Nat.le_refl _,oM,oW,oM2,oW2,oD,rfl,rfl,Cn.ws x,oP,by show wl x < _; omega,oP2,Nat.le_refl _,c10,oK2,oK3,⟨by decide,by decide⟩,oA,oT,oT2,oK,oL,trivial⟩
  rw [ht,eX] at this
  exact this
structure PaPl where
 first:Bool
 x:Nat
 l:List UInt8
def TPa (p:PaPl):St:=match p.first with
 | true=>a1i p.l
 | false=>p0t p.l (ws W64 p.x)
def w1k (N R:Nat) (p:PaPl):Prop:=P9 p.l∧p.l.length≤N∧p.x < 10 ^(N-p.l.length)∧p.x*10 ^p.l.length+dgN p.l=R∧(p.first=true→p.x=0∧0 < p.l.length)
theorem b1n {l:List UInt8} (h:P9 l) (hN:l.length < 100000000000):Ev.Sem Tryz.prog J0 126 [.c (.v (.string ⟨⟨l⟩⟩))] [iW false (ws W64 (dgN l))] :=by
 rcases Nat.eq_zero_or_pos l.length with h0 | h0
 ·have:=List.eq_nil_of_length_eq_zero h0
  subst this
  have hL:a7 XW8 p0k (a1i []) (.exit 0) (a1i []):=v8 (fun _=>a1i []) 0 (by intro e; cases e) (fun k hk=>by omega) (f1d [] ⟨rfl,trivial⟩)
  exact d9 qZ 10 _ _ (n0j [] [] false _) ⟨k0h _ _ _ hL,rfl,rfl,trivial⟩
 ·have hL:=A8 (X:=XW8) (c:=p0k) (x:= .exit 0) TPa (fun p=>p.l.length) (w1k l.length (dgN l)) (by intro e; cases e) (s':=p0t [] (ws W64 (dgN l))) (fun p hp=>by
   obtain⟨f,x,r⟩:=p
   obtain⟨g1,g2,g3,g4,g5⟩:=hp
   simp only at g1 g2 g3 g4 g5
   rcases Nat.eq_zero_or_pos r.length with q | q
   ·have:=List.eq_nil_of_length_eq_zero q
    subst this
    cases f
    ·right
     have e:x=dgN l:=by
      rw [← g4]
      simp [dgN,Lib.decFrom]
     subst e
     exact h1p [] _ ⟨rfl,trivial⟩
    ·exact absurd (g5 rfl).2 (by simp)
   ·left
    obtain⟨k,x',k1,k2,k3,k4,k5,k6,k7⟩:=e1t hN g1 q g2 g3 g4
    refine⟨⟨false,x',r.drop k⟩,⟨k3,by simp only [List.length_drop]; omega,k4,k5,by intro e; cases e⟩,by simp only [List.length_drop]; omega,?_⟩
    cases f
    ·exact k7
    ·exact k6 (g5 rfl).1) ⟨true,0,l⟩ ⟨h,Nat.le_refl _,by simp,by simp,fun _=>⟨rfl,h0⟩⟩
  exact d9 qZ 10 _ _ (n0w l [] false _ _) ⟨k0h _ _ _ hL,rfl,⟨rfl,Nat.le_refl _,List.take_length⟩,trivial⟩
def K0 (l:List UInt8):List Int:=ws W64 (dgN l)
def mK:List Arg→Option (List Arg×List Prop)
 | [.c (.v (.string s))] =>some ([iW false (K0 s.data.toList)],[P9 s.data.toList,s.data.toList.length < 100000000000])
 | _=>none
theorem a0r:∀ az rs l,mK az=some (rs,l)→d5 l→Ev.Sem Tryz.prog J0 126 az rs:=by
 intro az rs l h hl
 unfold mK at h
 split at h
 ·cases h
  obtain⟨h1,h2,_⟩:=hl
  exact b1n h1 h2
 ·cases h
noncomputable def k1g:kM:=l5 126 (y3 [shV] mK) x0p
theorem v0x:kY Tryz.prog J0 k1g:=b8 (g9 _ a0r) d0f
theorem p1q {xs ys:List Int} (hy:Cn ys):f1f false false xs ys=if val W64 xs < val W64 ys then -1 else if val W64 xs=val W64 ys then 0 else 1:=by
 unfold f1f y1k y1l d0q v1z
 rw [t8]
 have hl:0 < ys.length↔0 < val W64 ys:=by
  have:=wl_pos (m:=val W64 ys)
  unfold wl at this
  rw [← hy] at this
  exact this
 unfold l1f k1v
 by_cases h:0 < ys.length
 ·have hp:=hl.1 h
  rw [decide_eq_true h]
  simp only [Bool.not_false,Bool.and_true,Bool.false_eq_true,if_false,Bool.false_and,Bool.true_and]
  rcases Nat.lt_trichotomy (val W64 xs) (val W64 ys) with c | c | c
  ·have h1:¬ val W64 ys≤val W64 xs:=by omega
   have h2:¬ (val W64 ys-val W64 xs=0):=by omega
   have h3:val W64 xs < val W64 ys:=c
   simp [h1,h2,h3]
  ·have h1:val W64 ys≤val W64 xs:=by omega
   have h2:val W64 xs-val W64 ys=0:=by omega
   have h3:¬ val W64 xs < val W64 ys:=by omega
   simp [c]
  ·have h1:val W64 ys≤val W64 xs:=by omega
   have h2:¬ (val W64 xs-val W64 ys=0):=by omega
   have h3:¬ val W64 xs < val W64 ys:=by omega
   have h4:¬ val W64 xs=val W64 ys:=by omega
   simp [h1,h2,h3,h4]
 ·have hp:val W64 ys=0:=by
   rcases Nat.eq_zero_or_pos (val W64 ys) with c | c
   ·exact c
   ·exact absurd (hl.2 c) h
  rw [decide_eq_false h,hp]
  simp only [Bool.not_false,Bool.and_false,if_true,Nat.add_zero,Bool.false_and,Nat.not_lt_zero,if_false]
  split <;> rfl
def a2x (xs:List Int):Int:=((val W64 xs%W64:Nat):Int)
def vN:List Arg→Option (List Arg×List Prop)
 | [.a [.v (.bool _), .s 32 .u64 xs]] =>some ([uR (a2x xs)],[Cn xs])
 | _=>none
theorem f0e:∀ az rs l,vN az=some (rs,l)→d5 l→Ev.Sem Tryz.prog J0 130 az rs:=by
 intro az rs l h hl
 unfold vN at h
 split at h
 ·rename_i a xs
  cases h
  have h1:xs=ws W64 (val W64 xs):=hl.1
  have:=r0i a (val W64 xs)
  unfold iN at this
  rw [← h1] at this
  exact this
 ·cases h
noncomputable def y0f:kM:=l5 130 (y3 [shI] vN) k1g
theorem b0a:kY Tryz.prog J0 y0f:=b8 (g9 _ f0e) v0x
noncomputable def bWA:Base:=⟨Tryz.prog,J0,false,x0h,y0f,200,H8⟩
theorem a0m:BaseOk bWA:=⟨progOk,kP,b0a,i7⟩
noncomputable abbrev XWA:Cx:=bWA.cx 10
theorem p1a {n:Nat} (h:n < W64):bits .and .u64 (n:Int) 1=((n%2:Nat):Int):=by
 have h':n < 18446744073709551616:=h
 have hW:(2:Nat) ^64=18446744073709551616:=by decide
 unfold bits
 simp only [IntKind.bits,BitVec.ofInt_natCast]
 show IntKind.u64.wrap _=_
 have e:(BitVec.ofNat 64 n&&& BitVec.ofInt 64 1).toNat=n%2:=by
  rw [BitVec.toNat_and,BitVec.toNat_ofNat]
  rw [Nat.mod_eq_of_lt (by omega)]
  exact Nat.and_one_is_mod n
 refine Eq.trans (congrArg (fun z:Nat=>IntKind.u64.wrap ((z:Nat):Int)) e) ?_
 show IntKind.u64.wrap ((n%2:Nat):Int)=_
 rw [IntKind.wrap_u64]
 omega
abbrev vlA (n a:Bool) (N:List Int) (b:Bool) (D:List Int):Arg:= .a [.v (.bool n), .v (.bool false), .v (.bool a), .s T8 .u64 N, .v (.bool b), .s T8 .u64 D]
abbrev bR (b:Bool):Arg:= .c (.v (.bool b))
theorem b2x (n s w:Bool) (N D Q:List Int) (e h:Int):n8 XWA [] 200 129 [vlA n false N false D,iR e] [iL s Q,iR h,bR w] [false,true,true] =some [N.length=N.length,Cn N,(j0 N (Int.ofNat 1)).length=(j0 N (Int.ofNat 1)).length,(j0 D e).length=(j0 D e).length,Cn (j0 N (Int.ofNat 1)),Cn (j0 D e),(j0 N (Int.ofNat 1)).length < 549755813888,(j0 D e).length < 549755813888,N.length=N.length,Cn N,N.length < 549755813888,Int.ofNat 0≤Int.ofNat 1∧1 < 549755813888,Cn N,Cn (List.take (j0 D e).length (j0 D e)),N.length < 274877906944,(List.take (j0 D e).length (j0 D e)).length < 274877906944,c0v N (List.take (j0 D e).length (j0 D e)),N.length=N.length,(j0 D e).length≤(j0 D e).length,D.length=D.length,Cn D,D.length < 549755813888,Int.ofNat 0≤e∧e.toNat < 549755813888,decide (Int.ofNat 0≤e)=true,false=false,Value.bool false=Value.bool s,Q=[],Value.int IntKind.i64 (f1f (yT false (j0 N (Int.ofNat 1))) (yT false (j0 D e)) (j0 N (Int.ofNat 1)) (j0 D e))=Value.int IntKind.i64 h,Value.bool ((if val 18446744073709551616 N=0 then Int.ofNat 0 else Int.ofNat 1)==Int.ofNat 0)=Value.bool w] :=by kernel_rfl
theorem c2v (n s w:Bool) (N D Q:List Int) (e h:Int):n8 XWA [] 200 129 [vlA n false N false D,iR e] [iL s Q,iR h,bR w] [false,true,false] =some [(aS N (List.take (j0 D e).length (j0 D e))).length=(aS N (List.take (j0 D e).length (j0 D e))).length,Cn (aS N (List.take (j0 D e).length (j0 D e))),(j0 (aS N (List.take (j0 D e).length (j0 D e))) (Int.ofNat 1)).length=(j0 (aS N (List.take (j0 D e).length (j0 D e))) (Int.ofNat 1)).length,(j0 D e).length=(j0 D e).length,Cn (j0 (aS N (List.take (j0 D e).length (j0 D e))) (Int.ofNat 1)),Cn (j0 D e),(j0 (aS N (List.take (j0 D e).length (j0 D e))) (Int.ofNat 1)).length < 549755813888,(j0 D e).length < 549755813888,(aS N (List.take (j0 D e).length (j0 D e))).length=(aS N (List.take (j0 D e).length (j0 D e))).length,Cn (aS N (List.take (j0 D e).length (j0 D e))),(aS N (List.take (j0 D e).length (j0 D e))).length < 549755813888,Int.ofNat 0≤Int.ofNat 1∧1 < 549755813888,N.length=N.length,(j0 D e).length≤(j0 D e).length,Cn N,Cn (List.take (j0 D e).length (j0 D e)),N.length < 274877906944,0 < (List.take (j0 D e).length (j0 D e)).length,c0v N (List.take (j0 D e).length (j0 D e))→False,D.length=D.length,Cn D,D.length < 549755813888,Int.ofNat 0≤e∧e.toNat < 549755813888,decide (Int.ofNat 0≤e)=true,false=false,Value.bool false=Value.bool s,(m0t N (List.take (j0 D e).length (j0 D e))).length=Q.length∧(m0t N (List.take (j0 D e).length (j0 D e))).length≤(m0t N (List.take (j0 D e).length (j0 D e))).length∧List.take (m0t N (List.take (j0 D e).length (j0 D e))).length (m0t N (List.take (j0 D e).length (j0 D e)))=Q,Value.int IntKind.i64 (f1f (yT false (j0 (aS N (List.take (j0 D e).length (j0 D e))) (Int.ofNat 1))) (yT false (j0 D e)) (j0 (aS N (List.take (j0 D e).length (j0 D e))) (Int.ofNat 1)) (j0 D e))=Value.int IntKind.i64 h,Value.bool ((if val 18446744073709551616 (aS N (List.take (j0 D e).length (j0 D e)))=0 then Int.ofNat 0 else Int.ofNat 1)==Int.ofNat 0)=Value.bool w] :=by kernel_rfl
theorem a2c (n s w:Bool) (N D Q:List Int) (e h:Int):n8 XWA [] 200 129 [vlA n false N false D,iR e] [iL s Q,iR h,bR w] [false,false,true] =some [(j0 N (IntKind.i64.wrap (Int.ofNat 0-e))).length=(j0 N (IntKind.i64.wrap (Int.ofNat 0-e))).length,Cn (j0 N (IntKind.i64.wrap (Int.ofNat 0-e))),(j0 (j0 N (IntKind.i64.wrap (Int.ofNat 0-e))) (Int.ofNat 1)).length=(j0 (j0 N (IntKind.i64.wrap (Int.ofNat 0-e))) (Int.ofNat 1)).length,D.length=D.length,Cn (j0 (j0 N (IntKind.i64.wrap (Int.ofNat 0-e))) (Int.ofNat 1)),Cn D,(j0 (j0 N (IntKind.i64.wrap (Int.ofNat 0-e))) (Int.ofNat 1)).length < 549755813888,D.length < 549755813888,(j0 N (IntKind.i64.wrap (Int.ofNat 0-e))).length=(j0 N (IntKind.i64.wrap (Int.ofNat 0-e))).length,Cn (j0 N (IntKind.i64.wrap (Int.ofNat 0-e))),(j0 N (IntKind.i64.wrap (Int.ofNat 0-e))).length < 549755813888,Int.ofNat 0≤Int.ofNat 1∧1 < 549755813888,Cn (List.take (j0 N (IntKind.i64.wrap (Int.ofNat 0-e))).length (j0 N (IntKind.i64.wrap (Int.ofNat 0-e)))),Cn D,(List.take (j0 N (IntKind.i64.wrap (Int.ofNat 0-e))).length (j0 N (IntKind.i64.wrap (Int.ofNat 0-e)))).length < 274877906944,D.length < 274877906944,c0v (List.take (j0 N (IntKind.i64.wrap (Int.ofNat 0-e))).length (j0 N (IntKind.i64.wrap (Int.ofNat 0-e)))) D,(j0 N (IntKind.i64.wrap (Int.ofNat 0-e))).length≤(j0 N (IntKind.i64.wrap (Int.ofNat 0-e))).length,D.length=D.length,N.length=N.length,Cn N,N.length < 549755813888,Int.ofNat 0≤IntKind.i64.wrap (Int.ofNat 0-e)∧(IntKind.i64.wrap (Int.ofNat 0-e)).toNat < 549755813888,decide (Int.ofNat 0≤e)=false,false=false,Value.bool false=Value.bool s,Q=[],Value.int IntKind.i64 (f1f (yT (yT false (j0 N (IntKind.i64.wrap (Int.ofNat 0-e)))) (j0 (j0 N (IntKind.i64.wrap (Int.ofNat 0-e))) (Int.ofNat 1))) false (j0 (j0 N (IntKind.i64.wrap (Int.ofNat 0-e))) (Int.ofNat 1)) D)=Value.int IntKind.i64 h,Value.bool ((if val 18446744073709551616 (j0 N (IntKind.i64.wrap (Int.ofNat 0-e)))=0 then Int.ofNat 0 else Int.ofNat 1)==Int.ofNat 0)=Value.bool w] :=by kernel_rfl
theorem b2g (n s w:Bool) (N D Q:List Int) (e h:Int):n8 XWA [] 200 129 [vlA n false N false D,iR e] [iL s Q,iR h,bR w] [false,false,false] =some [(aS (List.take (j0 N (IntKind.i64.wrap (Int.ofNat 0-e))).length (j0 N (IntKind.i64.wrap (Int.ofNat 0-e)))) D).length=(aS (List.take (j0 N (IntKind.i64.wrap (Int.ofNat 0-e))).length (j0 N (IntKind.i64.wrap (Int.ofNat 0-e)))) D).length,Cn (aS (List.take (j0 N (IntKind.i64.wrap (Int.ofNat 0-e))).length (j0 N (IntKind.i64.wrap (Int.ofNat 0-e)))) D),(j0 (aS (List.take (j0 N (IntKind.i64.wrap (Int.ofNat 0-e))).length (j0 N (IntKind.i64.wrap (Int.ofNat 0-e)))) D) (Int.ofNat 1)).length=(j0 (aS (List.take (j0 N (IntKind.i64.wrap (Int.ofNat 0-e))).length (j0 N (IntKind.i64.wrap (Int.ofNat 0-e)))) D) (Int.ofNat 1)).length,D.length=D.length,Cn (j0 (aS (List.take (j0 N (IntKind.i64.wrap (Int.ofNat 0-e))).length (j0 N (IntKind.i64.wrap (Int.ofNat 0-e)))) D) (Int.ofNat 1)),Cn D,(j0 (aS (List.take (j0 N (IntKind.i64.wrap (Int.ofNat 0-e))).length (j0 N (IntKind.i64.wrap (Int.ofNat 0-e)))) D) (Int.ofNat 1)).length < 549755813888,D.length < 549755813888,(aS (List.take (j0 N (IntKind.i64.wrap (Int.ofNat 0-e))).length (j0 N (IntKind.i64.wrap (Int.ofNat 0-e)))) D).length=(aS (List.take (j0 N (IntKind.i64.wrap (Int.ofNat 0-e))).length (j0 N (IntKind.i64.wrap (Int.ofNat 0-e)))) D).length,Cn (aS (List.take (j0 N (IntKind.i64.wrap (Int.ofNat 0-e))).length (j0 N (IntKind.i64.wrap (Int.ofNat 0-e)))) D),(aS (List.take (j0 N (IntKind.i64.wrap (Int.ofNat 0-e))).length (j0 N (IntKind.i64.wrap (Int.ofNat 0-e)))) D).length < 549755813888,Int.ofNat 0≤Int.ofNat 1∧1 < 549755813888,(j0 N (IntKind.i64.wrap (Int.ofNat 0-e))).length≤(j0 N (IntKind.i64.wrap (Int.ofNat 0-e))).length,D.length=D.length,Cn (List.take (j0 N (IntKind.i64.wrap (Int.ofNat 0-e))).length (j0 N (IntKind.i64.wrap (Int.ofNat 0-e)))),Cn D,(List.take (j0 N (IntKind.i64.wrap (Int.ofNat 0-e))).length (j0 N (IntKind.i64.wrap (Int.ofNat 0-e)))).length < 274877906944,0 < D.length,c0v (List.take (j0 N (IntKind.i64.wrap (0-e))).length (j0 N (IntKind.i64.wrap (0-e)))) D→False,N.length=N.length,Cn N,N.length < 549755813888,Int.ofNat 0≤IntKind.i64.wrap (Int.ofNat 0-e)∧(IntKind.i64.wrap (Int.ofNat 0-e)).toNat < 549755813888,decide (Int.ofNat 0≤e)=false,false=false,Value.bool false=Value.bool s,(m0t (List.take (j0 N (IntKind.i64.wrap (Int.ofNat 0-e))).length (j0 N (IntKind.i64.wrap (Int.ofNat 0-e)))) D).length=Q.length∧(m0t (List.take (j0 N (IntKind.i64.wrap (Int.ofNat 0-e))).length (j0 N (IntKind.i64.wrap (Int.ofNat 0-e)))) D).length≤(m0t (List.take (j0 N (IntKind.i64.wrap (Int.ofNat 0-e))).length (j0 N (IntKind.i64.wrap (Int.ofNat 0-e)))) D).length∧List.take (m0t (List.take (j0 N (IntKind.i64.wrap (Int.ofNat 0-e))).length (j0 N (IntKind.i64.wrap (Int.ofNat 0-e)))) D).length (m0t (List.take (j0 N (IntKind.i64.wrap (Int.ofNat 0-e))).length (j0 N (IntKind.i64.wrap (Int.ofNat 0-e)))) D)=Q,Value.int IntKind.i64 (f1f (yT false (j0 (aS (List.take (j0 N (IntKind.i64.wrap (Int.ofNat 0-e))).length (j0 N (IntKind.i64.wrap (Int.ofNat 0-e)))) D) (Int.ofNat 1))) false (j0 (aS (List.take (j0 N (IntKind.i64.wrap (Int.ofNat 0-e))).length (j0 N (IntKind.i64.wrap (Int.ofNat 0-e)))) D) (Int.ofNat 1)) D)=Value.int IntKind.i64 h,Value.bool ((if val 18446744073709551616 (aS (List.take (j0 N (IntKind.i64.wrap (Int.ofNat 0-e))).length (j0 N (IntKind.i64.wrap (Int.ofNat 0-e)))) D)=0 then Int.ofNat 0 else Int.ofNat 1)==Int.ofNat 0)=Value.bool w] :=by kernel_rfl
theorem o1k (s:Bool) (R:List Int) (n:Int):n8 XWA [] 200 127 [iR n] [iL s R] [] =some [1≤1,Cn [Int.ofNat 10],Int.ofNat 0≤n∧n.toNat < 4611686018427387904,1+n.toNat*1 < 274877906944,Int.ofNat 0≤Int.ofNat 10∧10 < 18446744073709551616,Value.bool false=Value.bool s,(bU [Int.ofNat 10] n).length=R.length∧(bU [Int.ofNat 10] n).length≤(bU [Int.ofNat 10] n).length∧List.take (bU [Int.ofNat 10] n).length (bU [Int.ofNat 10] n)=R] :=by kernel_rfl
def atA (N:Nat) (e:Int):Nat:=if 0≤e then N else N*2 ^(-e).toNat
def atB (D:Nat) (e:Int):Nat:=if 0≤e then D*2 ^e.toNat else D
def cmN (a b:Nat):Int:=if a < b then -1 else if a=b then 0 else 1
theorem vJ (a:Nat) (n:Int):j0 (ws W64 a) n=ws W64 (a*2 ^n.toNat):=by unfold j0; rw [t8]
theorem u0g (a b:Nat):m0t (ws W64 a) (ws W64 b)=ws W64 (a/b):=by unfold m0t; rw [t8,t8]
theorem s0a (a b:Nat):aS (ws W64 a) (ws W64 b)=ws W64 (a%b):=by unfold aS; rw [t8,t8]
theorem wZ (m:Nat):val 18446744073709551616 (ws W64 m)=m:=t8 m
theorem vR (a b:Nat):f1f false false (ws W64 a) (ws W64 b)=cmN a b:=by
 rw [p1q (Cn.ws b),t8,t8]; rfl
theorem c1s (xs:List Int):yT false xs=false:=rfl
theorem I8 (a b:Nat):c0v (ws W64 a) (ws W64 b)↔a < b:=by unfold c0v; rw [t8,t8]
theorem l0a (r:Nat):((if r=0 then Int.ofNat 0 else Int.ofNat 1)==Int.ofNat 0)=decide (r=0):=by
 by_cases h:r=0
 ·rw [if_pos h,decide_eq_true h]; rfl
 ·rw [if_neg h,decide_eq_false h]; rfl
theorem j1u (r:Nat):wl (r*2 ^(Int.ofNat 1).toNat)≤wl r+1:=by
 have:=b1w r (2 ^(Int.ofNat 1).toNat)
 have h2:wl (2 ^(Int.ofNat 1).toNat)≤1:=wl_le.2 (by decide)
 omega
theorem u1n (n:Bool) {N D:Nat} {e:Int} (hD:0 < D) (h1:wl N < 100000000000) (h2:wl D < 100000000000) (h3:wl (atA N e) < 100000000000) (h4:wl (atB D e) < 100000000000) (he: -500000000000≤e∧e≤500000000000):
  Ev.Sem Tryz.prog J0 129 [vlA n false (ws W64 N) false (ws W64 D),iR e] [iL false (ws W64 (atA N e/atB D e)),iR (cmN (atA N e%atB D e*2) (atB D e)),bR (decide (atA N e%atB D e=0))] :=by
 have hw1:=j1u (atA N e)
 have hw2:=j1u (atA N e%atB D e)
 have hm:wl (atA N e%atB D e)≤wl (atA N e):=aX (Nat.mod_le _ _)
 by_cases h0:0≤e
 ·have hA:atA N e=N:=if_pos h0
  have hB:atB D e=D*2 ^e.toNat:=if_pos h0
  have d0:decide (Int.ofNat 0≤e)=true:=decide_eq_true h0
  have hBp:0 < atB D e:=by rw [hB]; exact Nat.mul_pos hD (Nat.pow_pos (by decide))
  by_cases hlt:atA N e < atB D e
  ·rw [Nat.div_eq_of_lt hlt,Nat.mod_eq_of_lt hlt]
   refine d9 a0m 10 _ _ (b2x n false _ (ws W64 N) (ws W64 D) [] e _) ?_
   simp only [hA,hB] at h3 h4 hw1 hw2 hm hlt hBp ⊢
   simp only [d5,vJ,List.take_length,c1s,vR,wZ,l0a]
   repeat' apply And.intro
   all_goals first
    | exact trivial
    | exact rfl
    | exact Cn.ws _
    | exact Nat.le_refl _
    | assumption
    | exact (I8 _ _).2 hlt
    | exact fun h=>hlt ((I8 _ _).1 h)
    | (show wl _ < _; omega)
    | (show 0 < wl _; exact wl_pos.2 hBp)
    | decide
    | omega
    | (show (0:Int)≤-e; omega)
  ·refine d9 a0m 10 _ _ (c2v n false _ (ws W64 N) (ws W64 D) (ws W64 (atA N e/atB D e)) e _) ?_
   simp only [hA,hB] at h3 h4 hw1 hw2 hm hlt hBp ⊢
   simp only [d5,vJ,u0g,s0a,List.take_length,c1s,vR,wZ,l0a]
   repeat' apply And.intro
   all_goals first
    | exact trivial
    | exact rfl
    | exact Cn.ws _
    | exact Nat.le_refl _
    | assumption
    | exact (I8 _ _).2 hlt
    | exact fun h=>hlt ((I8 _ _).1 h)
    | (show wl _ < _; omega)
    | (show 0 < wl _; exact wl_pos.2 hBp)
    | decide
    | omega
    | (show (0:Int)≤-e; omega)
 ·have hA:atA N e=N*2 ^(-e).toNat:=if_neg h0
  have hB:atB D e=D:=if_neg h0
  have d0:decide (Int.ofNat 0≤e)=false:=decide_eq_false h0
  have hBp:0 < atB D e:=by rw [hB]; exact hD
  have hW:IntKind.i64.wrap (Int.ofNat 0-e)= -e:=by
   have:=IntKind.wrap_i64 (Int.ofNat 0-e)
   have e0:Int.ofNat 0-e=0-e:=rfl
   rw [e0] at this ⊢
   omega
  have hV:IntKind.i64.wrap (0-e)= -e:=hW
  by_cases hlt:atA N e < atB D e
  ·rw [Nat.div_eq_of_lt hlt,Nat.mod_eq_of_lt hlt]
   refine d9 a0m 10 _ _ (a2c n false _ (ws W64 N) (ws W64 D) [] e _) ?_
   simp only [hA,hB] at h3 h4 hw1 hw2 hm hlt hBp ⊢
   simp only [d5,hW,vJ,List.take_length,c1s,vR,wZ,l0a]
   repeat' apply And.intro
   all_goals first
    | exact trivial
    | exact rfl
    | exact Cn.ws _
    | exact Nat.le_refl _
    | assumption
    | exact (I8 _ _).2 hlt
    | exact fun h=>hlt ((I8 _ _).1 h)
    | (show wl _ < _; omega)
    | (show 0 < wl _; exact wl_pos.2 hBp)
    | decide
    | omega
    | (show (0:Int)≤-e; omega)
  ·refine d9 a0m 10 _ _ (b2g n false _ (ws W64 N) (ws W64 D) (ws W64 (atA N e/atB D e)) e _) ?_
   simp only [hA,hB] at h3 h4 hw1 hw2 hm hlt hBp ⊢
   simp only [d5,hW,vJ,u0g,s0a,List.take_length,c1s,vR,wZ,l0a]
   repeat' apply And.intro
   all_goals first
    | exact trivial
    | exact rfl
    | exact Cn.ws _
    | exact Nat.le_refl _
    | assumption
    | exact (I8 _ _).2 hlt
    | exact fun h=>hlt ((I8 _ _).1 (by rw [hW] at h; exact h))
    | exact fun h=>hlt ((I8 _ _).1 (by rw [hV] at h; exact h))
    | (show wl _ < _; omega)
    | (show 0 < wl _; exact wl_pos.2 hBp)
    | decide
    | omega
    | (show (0:Int)≤-e; omega)
def atQ (N D:List Int) (e:Int):List Int:=ws W64 (atA (val W64 N) e/atB (val W64 D) e)
def atH (N D:List Int) (e:Int):Int:=cmN (atA (val W64 N) e%atB (val W64 D) e*2) (atB (val W64 D) e)
def atZ (N D:List Int) (e:Int):Bool:=decide (atA (val W64 N) e%atB (val W64 D) e=0)
def d2a (N D:List Int) (e:Int):Prop:=Cn N∧Cn D∧0 < val W64 D∧N.length < 100000000000∧D.length < 100000000000∧wl (atA (val W64 N) e) < 100000000000∧wl (atB (val W64 D) e) < 100000000000∧-500000000000≤e∧e≤500000000000
def yQ (w:Bool):List Arg→Option (List Arg×List Prop)
 | [.a [.v (.bool _), .v (.bool false), .v (.bool false), .s 32 .u64 N, .v (.bool false), .s 32 .u64 D], .c (.v (.int .i64 e))] =>some ([iL false (atQ N D e),iR (atH N D e),bR w],[d2a N D e,atZ N D e=w])
 | _=>none
theorem sK (w:Bool):∀ az rs l,yQ w az=some (rs,l)→d5 l→Ev.Sem Tryz.prog J0 129 az rs:=by
 intro az rs l h hl
 unfold yQ at h
 split at h
 ·cases h
  rename_i n N D e
  obtain⟨⟨c1,c2,hD,h1,h2,h3,h4,h5,h6⟩,hz,_⟩:=hl
  unfold Cn at c1 c2
  have:=u1n n (N:=val W64 N) (D:=val W64 D) (e:=e) hD (by unfold wl; rw [← c1]; exact h1) (by unfold wl; rw [← c2]; exact h2) h3 h4 ⟨h5,h6⟩
  rw [← c1,← c2] at this
  rw [← hz]
  exact this
 ·cases h
def P6 (n:Int):List Int:=ws W64 (10 ^n.toNat)
theorem l1z {n:Nat} (h:n < 100000000000):Ev.Sem Tryz.prog J0 127 [iR n] [iL false (ws W64 (10 ^n))] :=by
 have c10:Cn [Int.ofNat 10] :=by show [10] =ws W64 (val W64 [10]); decide
 have e:bU [10] (n:Int)=ws W64 (10 ^n):=by
  unfold bU
  rw [Int.toNat_natCast]
  rfl
 refine d9 a0m 10 _ _ (o1k false (ws W64 (10 ^n)) n) ?_
 simp only [d5,List.take_length]
 repeat' apply And.intro
 all_goals first
  | exact trivial
  | exact rfl
  | exact c10
  | exact Nat.le_refl _
  | exact Int.natCast_nonneg _
  | decide
  | (rw [Int.toNat_natCast]; omega)
def g0w:List Arg→Option (List Arg×List Prop)
 | [.c (.v (.int .i64 n))] =>some ([iL false (P6 n)],[0≤n∧n < 100000000000])
 | _=>none
theorem m0l:∀ az rs l,g0w az=some (rs,l)→d5 l→Ev.Sem Tryz.prog J0 127 az rs:=by
 intro az rs l h hl
 unfold g0w at h
 split at h
 ·cases h
  rename_i n
  obtain⟨⟨h1,h2⟩,_⟩:=hl
  obtain⟨m,rfl⟩:=Int.eq_ofNat_of_zero_le h1
  have:=l1z (n:=m) (by omega)
  exact this
 ·cases h
abbrev shM:AS:= .a [.v, .v, .v, .s T8 .u64, .v, .s T8 .u64]
noncomputable def nH:kM:=l5 129 (wQ (y3 [shM,shV] (yQ true)) (y3 [shM,shV] (yQ false))) (l5 127 (y3 [shV] g0w) y0f)
theorem aB:kY Tryz.prog J0 nH:=b8 (tU (g9 _ (sK true)) (g9 _ (sK false))) (b8 (g9 _ m0l) b0a)
noncomputable def bRo1:Base:=⟨Tryz.prog,J0,false,x0h,nH,200,H8⟩
theorem i8:BaseOk bRo1:=⟨progOk,kP,aB,i7⟩
noncomputable abbrev b2n:Cx:=bRo1.cx 10
abbrev kR (a b c:Int):Arg:= .a [.v (.int .i64 a), .v (.int .i64 b), .v (.int .i64 c)]
abbrev fR (a b c:Bool):Arg:= .a [.v (.bool a), .v (.bool b), .v (.bool c)]
def flN (K:Int) (N D:List Int):Int:=IntKind.i64.wrap (IntKind.i64.wrap (IntKind.i64.wrap (j1y N-j1y D)-K)-2)
def flE (K L:Int) (N D:List Int):Int:=if L < flN K N D then flN K N D else L
def flO (K:Int) (Q:List Int):Int:=IntKind.i64.wrap (j1y Q-K)
abbrev flM (Q:List Int):Int:=a2x (Q.take Q.length)
def flU (Q:List Int):Int:=IntKind.u64.wrap (flM Q+1)
def flB (h:Int) (Q:List Int):Bool:=match decide (h > 0) with | true=>true | false=>match h==0 with | true=>bits .and .u64 (flM Q) 1==1 | false=>false
def flC (P:Nat) (m:Int):Bool:=decide (Int.ofNat 0 < Int.fdiv m (Int.ofNat P))
def flH (m:Int):Int:=IntKind.u64.wrap (Int.tdiv m 2)
def flV (P:Nat) (Q:List Int):Bool:=Int.fdiv (flM Q) (Int.ofNat P)==Int.ofNat 0
abbrev n4 (N D:List Int):List Prop:=[false=false,D.length=D.length,Cn D,D.length < 549755813888,N.length=N.length,Cn N,N.length < 549755813888]
abbrev A1 (N D:List Int) (e:Int) (w:Bool):List Prop:=[N.length=N.length,D.length=D.length,d2a N D e,atZ N D e=w]
abbrev J3 (K:Int) (Q:List Int) (b:Bool):List Prop:=[decide (0 < flO K Q)=b,Q.length=Q.length,Cn Q,Q.length < 549755813888]
abbrev x3 (Q:List Int):List Prop:=[Q.length≤Q.length,Cn (Q.take Q.length)]
abbrev x4 (m' e':Int) (i' a' b' c':Bool) (m e:Int) (i a b c:Bool):List Prop:=[Value.int .u64 m'=Value.int .u64 m,Value.int .i64 e'=Value.int .i64 e,Value.bool i'=Value.bool i,Value.bool a'=Value.bool a,Value.bool b'=Value.bool b,Value.bool c'=Value.bool c]
noncomputable abbrev XRl:Cx:=bRo1.cxl 10
section
variable (n:Bool) (N D:List Int) (m e:Int) (i a b c:Bool)
theorem f1n:n8 XRl [] 200 77 [vlA n false N false D,kR 53 (-1074) 971,iR 1] [uR m,iR e,bR i,fR a b c] [false,true,false,false,false,true] =some ([decide ((flE 53 (-1074) N D)≤971)=true,flC 9007199254740992 (flM (atQ N D (flE 53 (-1074) N D)))=false,Int.ofNat 0≤Int.ofNat 53,false=false] ++x3 (atQ N D (flE 53 (-1074) N D))++J3 53 (atQ N D (flE 53 (-1074) N D)) false++A1 N D (flE 53 (-1074) N D) true++n4 N D++x4 (flM (atQ N D (flE 53 (-1074) N D))) (flE 53 (-1074) N D) false false false false m e i a b c):=by kernel_rfl
theorem h1z:n8 XRl [] 200 77 [vlA n false N false D,kR 53 (-1074) 971,iR 1] [uR m,iR e,bR i,fR a b c] [false,true,false,false,false,false,false] =some ([false=false,decide ((flE 53 (-1074) N D)≤971)=false,flC 9007199254740992 (flM (atQ N D (flE 53 (-1074) N D)))=false,Int.ofNat 0≤Int.ofNat 53,false=false] ++x3 (atQ N D (flE 53 (-1074) N D))++J3 53 (atQ N D (flE 53 (-1074) N D)) false++A1 N D (flE 53 (-1074) N D) true++n4 N D++x4 0 0 true true true false m e i a b c):=by kernel_rfl
theorem d1i:n8 XRl [] 200 77 [vlA n false N false D,kR 53 (-1074) 971,iR 1] [uR m,iR e,bR i,fR a b c] [false,false,false,false,false,true] =some ([decide ((flE 53 (-1074) N D)≤971)=true,flC 9007199254740992 (flM (atQ N D (flE 53 (-1074) N D)))=false,Int.ofNat 0≤Int.ofNat 53,flB (atH N D (flE 53 (-1074) N D)) (atQ N D (flE 53 (-1074) N D))=false,Int.ofNat 0≤Int.ofNat 1∧Int.ofNat 1 < Int.ofNat 7,Int.ofNat 0≤Int.ofNat 52] ++x3 (atQ N D (flE 53 (-1074) N D))++J3 53 (atQ N D (flE 53 (-1074) N D)) false++A1 N D (flE 53 (-1074) N D) false++n4 N D++x4 (flM (atQ N D (flE 53 (-1074) N D))) (flE 53 (-1074) N D) false true false (flV 4503599627370496 (atQ N D (flE 53 (-1074) N D))) m e i a b c):=by kernel_rfl
theorem f1c:n8 XRl [] 200 77 [vlA n false N false D,kR 53 (-1074) 971,iR 1] [uR m,iR e,bR i,fR a b c] [false,false,false,false,false,false,false] =some ([false=false,decide ((flE 53 (-1074) N D)≤971)=false,flC 9007199254740992 (flM (atQ N D (flE 53 (-1074) N D)))=false,Int.ofNat 0≤Int.ofNat 53,flB (atH N D (flE 53 (-1074) N D)) (atQ N D (flE 53 (-1074) N D))=false,Int.ofNat 0≤Int.ofNat 1∧Int.ofNat 1 < Int.ofNat 7,Int.ofNat 0≤Int.ofNat 52] ++x3 (atQ N D (flE 53 (-1074) N D))++J3 53 (atQ N D (flE 53 (-1074) N D)) false++A1 N D (flE 53 (-1074) N D) false++n4 N D++x4 0 0 true true true (flV 4503599627370496 (atQ N D (flE 53 (-1074) N D))) m e i a b c):=by kernel_rfl
theorem h1f:n8 XRl [] 200 77 [vlA n false N false D,kR 53 (-1074) 971,iR 1] [uR m,iR e,bR i,fR a b c] [false,false,false,true,false,true] =some ([decide ((flE 53 (-1074) N D)≤971)=true,flC 9007199254740992 (flU (atQ N D (flE 53 (-1074) N D)))=false,Int.ofNat 0≤Int.ofNat 53,flB (atH N D (flE 53 (-1074) N D)) (atQ N D (flE 53 (-1074) N D))=true,Int.ofNat 0≤Int.ofNat 1∧Int.ofNat 1 < Int.ofNat 7,Int.ofNat 0≤Int.ofNat 52] ++x3 (atQ N D (flE 53 (-1074) N D))++J3 53 (atQ N D (flE 53 (-1074) N D)) false++A1 N D (flE 53 (-1074) N D) false++n4 N D++x4 (flU (atQ N D (flE 53 (-1074) N D))) (flE 53 (-1074) N D) false true false (flV 4503599627370496 (atQ N D (flE 53 (-1074) N D))) m e i a b c):=by kernel_rfl
theorem e1c:n8 XRl [] 200 77 [vlA n false N false D,kR 53 (-1074) 971,iR 1] [uR m,iR e,bR i,fR a b c] [false,false,false,true,false,false,false] =some ([false=false,decide ((flE 53 (-1074) N D)≤971)=false,flC 9007199254740992 (flU (atQ N D (flE 53 (-1074) N D)))=false,Int.ofNat 0≤Int.ofNat 53,flB (atH N D (flE 53 (-1074) N D)) (atQ N D (flE 53 (-1074) N D))=true,Int.ofNat 0≤Int.ofNat 1∧Int.ofNat 1 < Int.ofNat 7,Int.ofNat 0≤Int.ofNat 52] ++x3 (atQ N D (flE 53 (-1074) N D))++J3 53 (atQ N D (flE 53 (-1074) N D)) false++A1 N D (flE 53 (-1074) N D) false++n4 N D++x4 0 0 true true true (flV 4503599627370496 (atQ N D (flE 53 (-1074) N D))) m e i a b c):=by kernel_rfl
theorem g1w:n8 XRl [] 200 77 [vlA n false N false D,kR 53 (-1074) 971,iR 1] [uR m,iR e,bR i,fR a b c] [false,false,false,true,true,true] =some ([decide ((IntKind.i64.wrap ((flE 53 (-1074) N D)+1))≤971)=true,flC 9007199254740992 (flU (atQ N D (flE 53 (-1074) N D)))=true,Int.ofNat 0≤Int.ofNat 53,flB (atH N D (flE 53 (-1074) N D)) (atQ N D (flE 53 (-1074) N D))=true,Int.ofNat 0≤Int.ofNat 1∧Int.ofNat 1 < Int.ofNat 7,Int.ofNat 0≤Int.ofNat 52] ++x3 (atQ N D (flE 53 (-1074) N D))++J3 53 (atQ N D (flE 53 (-1074) N D)) false++A1 N D (flE 53 (-1074) N D) false++n4 N D++x4 (flH (flU (atQ N D (flE 53 (-1074) N D)))) (IntKind.i64.wrap ((flE 53 (-1074) N D)+1)) false true false (flV 4503599627370496 (atQ N D (flE 53 (-1074) N D))) m e i a b c):=by kernel_rfl
theorem d1y:n8 XRl [] 200 77 [vlA n false N false D,kR 53 (-1074) 971,iR 1] [uR m,iR e,bR i,fR a b c] [false,false,false,true,true,false,false] =some ([false=false,decide ((IntKind.i64.wrap ((flE 53 (-1074) N D)+1))≤971)=false,flC 9007199254740992 (flU (atQ N D (flE 53 (-1074) N D)))=true,Int.ofNat 0≤Int.ofNat 53,flB (atH N D (flE 53 (-1074) N D)) (atQ N D (flE 53 (-1074) N D))=true,Int.ofNat 0≤Int.ofNat 1∧Int.ofNat 1 < Int.ofNat 7,Int.ofNat 0≤Int.ofNat 52] ++x3 (atQ N D (flE 53 (-1074) N D))++J3 53 (atQ N D (flE 53 (-1074) N D)) false++A1 N D (flE 53 (-1074) N D) false++n4 N D++x4 0 0 true true true (flV 4503599627370496 (atQ N D (flE 53 (-1074) N D))) m e i a b c):=by kernel_rfl
theorem v0r:n8 XRl [] 200 77 [vlA n false N false D,kR 53 (-1074) 971,iR 1] [uR m,iR e,bR i,fR a b c] [false,true,true,true,false,false,true] =some ([decide ((IntKind.i64.wrap ((flE 53 (-1074) N D)+flO 53 (atQ N D (flE 53 (-1074) N D))))≤971)=true,flC 9007199254740992 (flM (atQ N D (IntKind.i64.wrap ((flE 53 (-1074) N D)+flO 53 (atQ N D (flE 53 (-1074) N D))))))=false,Int.ofNat 0≤Int.ofNat 53,false=false] ++x3 (atQ N D (IntKind.i64.wrap ((flE 53 (-1074) N D)+flO 53 (atQ N D (flE 53 (-1074) N D)))))++A1 N D (IntKind.i64.wrap ((flE 53 (-1074) N D)+flO 53 (atQ N D (flE 53 (-1074) N D)))) true++J3 53 (atQ N D (flE 53 (-1074) N D)) true++A1 N D (flE 53 (-1074) N D) true++n4 N D++x4 (flM (atQ N D (IntKind.i64.wrap ((flE 53 (-1074) N D)+flO 53 (atQ N D (flE 53 (-1074) N D)))))) (IntKind.i64.wrap ((flE 53 (-1074) N D)+flO 53 (atQ N D (flE 53 (-1074) N D)))) false false false false m e i a b c):=by kernel_rfl
theorem p0v:n8 XRl [] 200 77 [vlA n false N false D,kR 53 (-1074) 971,iR 1] [uR m,iR e,bR i,fR a b c] [false,true,true,true,false,false,false,false] =some ([false=false,decide ((IntKind.i64.wrap ((flE 53 (-1074) N D)+flO 53 (atQ N D (flE 53 (-1074) N D))))≤971)=false,flC 9007199254740992 (flM (atQ N D (IntKind.i64.wrap ((flE 53 (-1074) N D)+flO 53 (atQ N D (flE 53 (-1074) N D))))))=false,Int.ofNat 0≤Int.ofNat 53,false=false] ++x3 (atQ N D (IntKind.i64.wrap ((flE 53 (-1074) N D)+flO 53 (atQ N D (flE 53 (-1074) N D)))))++A1 N D (IntKind.i64.wrap ((flE 53 (-1074) N D)+flO 53 (atQ N D (flE 53 (-1074) N D)))) true++J3 53 (atQ N D (flE 53 (-1074) N D)) true++A1 N D (flE 53 (-1074) N D) true++n4 N D++x4 0 0 true true true false m e i a b c):=by kernel_rfl
theorem v0l:n8 XRl [] 200 77 [vlA n false N false D,kR 53 (-1074) 971,iR 1] [uR m,iR e,bR i,fR a b c] [false,true,true,false,false,false,true] =some ([decide ((IntKind.i64.wrap ((flE 53 (-1074) N D)+flO 53 (atQ N D (flE 53 (-1074) N D))))≤971)=true,flC 9007199254740992 (flM (atQ N D (IntKind.i64.wrap ((flE 53 (-1074) N D)+flO 53 (atQ N D (flE 53 (-1074) N D))))))=false,Int.ofNat 0≤Int.ofNat 53,flB (atH N D (IntKind.i64.wrap ((flE 53 (-1074) N D)+flO 53 (atQ N D (flE 53 (-1074) N D))))) (atQ N D (IntKind.i64.wrap ((flE 53 (-1074) N D)+flO 53 (atQ N D (flE 53 (-1074) N D)))))=false,Int.ofNat 0≤Int.ofNat 1∧Int.ofNat 1 < Int.ofNat 7,Int.ofNat 0≤Int.ofNat 52] ++x3 (atQ N D (IntKind.i64.wrap ((flE 53 (-1074) N D)+flO 53 (atQ N D (flE 53 (-1074) N D)))))++A1 N D (IntKind.i64.wrap ((flE 53 (-1074) N D)+flO 53 (atQ N D (flE 53 (-1074) N D)))) false++J3 53 (atQ N D (flE 53 (-1074) N D)) true++A1 N D (flE 53 (-1074) N D) true++n4 N D++x4 (flM (atQ N D (IntKind.i64.wrap ((flE 53 (-1074) N D)+flO 53 (atQ N D (flE 53 (-1074) N D)))))) (IntKind.i64.wrap ((flE 53 (-1074) N D)+flO 53 (atQ N D (flE 53 (-1074) N D)))) false true false (flV 4503599627370496 (atQ N D (IntKind.i64.wrap ((flE 53 (-1074) N D)+flO 53 (atQ N D (flE 53 (-1074) N D)))))) m e i a b c):=by kernel_rfl
theorem x0x:n8 XRl [] 200 77 [vlA n false N false D,kR 53 (-1074) 971,iR 1] [uR m,iR e,bR i,fR a b c] [false,true,true,false,false,false,false,false] =some ([false=false,decide ((IntKind.i64.wrap ((flE 53 (-1074) N D)+flO 53 (atQ N D (flE 53 (-1074) N D))))≤971)=false,flC 9007199254740992 (flM (atQ N D (IntKind.i64.wrap ((flE 53 (-1074) N D)+flO 53 (atQ N D (flE 53 (-1074) N D))))))=false,Int.ofNat 0≤Int.ofNat 53,flB (atH N D (IntKind.i64.wrap ((flE 53 (-1074) N D)+flO 53 (atQ N D (flE 53 (-1074) N D))))) (atQ N D (IntKind.i64.wrap ((flE 53 (-1074) N D)+flO 53 (atQ N D (flE 53 (-1074) N D)))))=false,Int.ofNat 0≤Int.ofNat 1∧Int.ofNat 1 < Int.ofNat 7,Int.ofNat 0≤Int.ofNat 52] ++x3 (atQ N D (IntKind.i64.wrap ((flE 53 (-1074) N D)+flO 53 (atQ N D (flE 53 (-1074) N D)))))++A1 N D (IntKind.i64.wrap ((flE 53 (-1074) N D)+flO 53 (atQ N D (flE 53 (-1074) N D)))) false++J3 53 (atQ N D (flE 53 (-1074) N D)) true++A1 N D (flE 53 (-1074) N D) true++n4 N D++x4 0 0 true true true (flV 4503599627370496 (atQ N D (IntKind.i64.wrap ((flE 53 (-1074) N D)+flO 53 (atQ N D (flE 53 (-1074) N D)))))) m e i a b c):=by kernel_rfl
theorem v0h:n8 XRl [] 200 77 [vlA n false N false D,kR 53 (-1074) 971,iR 1] [uR m,iR e,bR i,fR a b c] [false,true,true,false,true,false,true] =some ([decide ((IntKind.i64.wrap ((flE 53 (-1074) N D)+flO 53 (atQ N D (flE 53 (-1074) N D))))≤971)=true,flC 9007199254740992 (flU (atQ N D (IntKind.i64.wrap ((flE 53 (-1074) N D)+flO 53 (atQ N D (flE 53 (-1074) N D))))))=false,Int.ofNat 0≤Int.ofNat 53,flB (atH N D (IntKind.i64.wrap ((flE 53 (-1074) N D)+flO 53 (atQ N D (flE 53 (-1074) N D))))) (atQ N D (IntKind.i64.wrap ((flE 53 (-1074) N D)+flO 53 (atQ N D (flE 53 (-1074) N D)))))=true,Int.ofNat 0≤Int.ofNat 1∧Int.ofNat 1 < Int.ofNat 7,Int.ofNat 0≤Int.ofNat 52] ++x3 (atQ N D (IntKind.i64.wrap ((flE 53 (-1074) N D)+flO 53 (atQ N D (flE 53 (-1074) N D)))))++A1 N D (IntKind.i64.wrap ((flE 53 (-1074) N D)+flO 53 (atQ N D (flE 53 (-1074) N D)))) false++J3 53 (atQ N D (flE 53 (-1074) N D)) true++A1 N D (flE 53 (-1074) N D) true++n4 N D++x4 (flU (atQ N D (IntKind.i64.wrap ((flE 53 (-1074) N D)+flO 53 (atQ N D (flE 53 (-1074) N D)))))) (IntKind.i64.wrap ((flE 53 (-1074) N D)+flO 53 (atQ N D (flE 53 (-1074) N D)))) false true false (flV 4503599627370496 (atQ N D (IntKind.i64.wrap ((flE 53 (-1074) N D)+flO 53 (atQ N D (flE 53 (-1074) N D)))))) m e i a b c):=by kernel_rfl
theorem z0v:n8 XRl [] 200 77 [vlA n false N false D,kR 53 (-1074) 971,iR 1] [uR m,iR e,bR i,fR a b c] [false,true,true,false,true,false,false,false] =some ([false=false,decide ((IntKind.i64.wrap ((flE 53 (-1074) N D)+flO 53 (atQ N D (flE 53 (-1074) N D))))≤971)=false,flC 9007199254740992 (flU (atQ N D (IntKind.i64.wrap ((flE 53 (-1074) N D)+flO 53 (atQ N D (flE 53 (-1074) N D))))))=false,Int.ofNat 0≤Int.ofNat 53,flB (atH N D (IntKind.i64.wrap ((flE 53 (-1074) N D)+flO 53 (atQ N D (flE 53 (-1074) N D))))) (atQ N D (IntKind.i64.wrap ((flE 53 (-1074) N D)+flO 53 (atQ N D (flE 53 (-1074) N D)))))=true,Int.ofNat 0≤Int.ofNat 1∧Int.ofNat 1 < Int.ofNat 7,Int.ofNat 0≤Int.ofNat 52] ++x3 (atQ N D (IntKind.i64.wrap ((flE 53 (-1074) N D)+flO 53 (atQ N D (flE 53 (-1074) N D)))))++A1 N D (IntKind.i64.wrap ((flE 53 (-1074) N D)+flO 53 (atQ N D (flE 53 (-1074) N D)))) false++J3 53 (atQ N D (flE 53 (-1074) N D)) true++A1 N D (flE 53 (-1074) N D) true++n4 N D++x4 0 0 true true true (flV 4503599627370496 (atQ N D (IntKind.i64.wrap ((flE 53 (-1074) N D)+flO 53 (atQ N D (flE 53 (-1074) N D)))))) m e i a b c):=by kernel_rfl
theorem v0p:n8 XRl [] 200 77 [vlA n false N false D,kR 53 (-1074) 971,iR 1] [uR m,iR e,bR i,fR a b c] [false,true,true,false,true,true,true] =some ([decide ((IntKind.i64.wrap ((IntKind.i64.wrap ((flE 53 (-1074) N D)+flO 53 (atQ N D (flE 53 (-1074) N D))))+1))≤971)=true,flC 9007199254740992 (flU (atQ N D (IntKind.i64.wrap ((flE 53 (-1074) N D)+flO 53 (atQ N D (flE 53 (-1074) N D))))))=true,Int.ofNat 0≤Int.ofNat 53,flB (atH N D (IntKind.i64.wrap ((flE 53 (-1074) N D)+flO 53 (atQ N D (flE 53 (-1074) N D))))) (atQ N D (IntKind.i64.wrap ((flE 53 (-1074) N D)+flO 53 (atQ N D (flE 53 (-1074) N D)))))=true,Int.ofNat 0≤Int.ofNat 1∧Int.ofNat 1 < Int.ofNat 7,Int.ofNat 0≤Int.ofNat 52] ++x3 (atQ N D (IntKind.i64.wrap ((flE 53 (-1074) N D)+flO 53 (atQ N D (flE 53 (-1074) N D)))))++A1 N D (IntKind.i64.wrap ((flE 53 (-1074) N D)+flO 53 (atQ N D (flE 53 (-1074) N D)))) false++J3 53 (atQ N D (flE 53 (-1074) N D)) true++A1 N D (flE 53 (-1074) N D) true++n4 N D++x4 (flH (flU (atQ N D (IntKind.i64.wrap ((flE 53 (-1074) N D)+flO 53 (atQ N D (flE 53 (-1074) N D))))))) (IntKind.i64.wrap ((IntKind.i64.wrap ((flE 53 (-1074) N D)+flO 53 (atQ N D (flE 53 (-1074) N D))))+1)) false true false (flV 4503599627370496 (atQ N D (IntKind.i64.wrap ((flE 53 (-1074) N D)+flO 53 (atQ N D (flE 53 (-1074) N D)))))) m e i a b c):=by kernel_rfl
theorem z0u:n8 XRl [] 200 77 [vlA n false N false D,kR 53 (-1074) 971,iR 1] [uR m,iR e,bR i,fR a b c] [false,true,true,false,true,true,false,false] =some ([false=false,decide ((IntKind.i64.wrap ((IntKind.i64.wrap ((flE 53 (-1074) N D)+flO 53 (atQ N D (flE 53 (-1074) N D))))+1))≤971)=false,flC 9007199254740992 (flU (atQ N D (IntKind.i64.wrap ((flE 53 (-1074) N D)+flO 53 (atQ N D (flE 53 (-1074) N D))))))=true,Int.ofNat 0≤Int.ofNat 53,flB (atH N D (IntKind.i64.wrap ((flE 53 (-1074) N D)+flO 53 (atQ N D (flE 53 (-1074) N D))))) (atQ N D (IntKind.i64.wrap ((flE 53 (-1074) N D)+flO 53 (atQ N D (flE 53 (-1074) N D)))))=true,Int.ofNat 0≤Int.ofNat 1∧Int.ofNat 1 < Int.ofNat 7,Int.ofNat 0≤Int.ofNat 52] ++x3 (atQ N D (IntKind.i64.wrap ((flE 53 (-1074) N D)+flO 53 (atQ N D (flE 53 (-1074) N D)))))++A1 N D (IntKind.i64.wrap ((flE 53 (-1074) N D)+flO 53 (atQ N D (flE 53 (-1074) N D)))) false++J3 53 (atQ N D (flE 53 (-1074) N D)) true++A1 N D (flE 53 (-1074) N D) true++n4 N D++x4 0 0 true true true (flV 4503599627370496 (atQ N D (IntKind.i64.wrap ((flE 53 (-1074) N D)+flO 53 (atQ N D (flE 53 (-1074) N D)))))) m e i a b c):=by kernel_rfl
theorem s0c:n8 XRl [] 200 77 [vlA n false N false D,kR 53 (-1074) 971,iR 1] [uR m,iR e,bR i,fR a b c] [false,false,true,true,false,false,true] =some ([decide ((IntKind.i64.wrap ((flE 53 (-1074) N D)+flO 53 (atQ N D (flE 53 (-1074) N D))))≤971)=true,flC 9007199254740992 (flM (atQ N D (IntKind.i64.wrap ((flE 53 (-1074) N D)+flO 53 (atQ N D (flE 53 (-1074) N D))))))=false,Int.ofNat 0≤Int.ofNat 53,false=false] ++x3 (atQ N D (IntKind.i64.wrap ((flE 53 (-1074) N D)+flO 53 (atQ N D (flE 53 (-1074) N D)))))++A1 N D (IntKind.i64.wrap ((flE 53 (-1074) N D)+flO 53 (atQ N D (flE 53 (-1074) N D)))) true++J3 53 (atQ N D (flE 53 (-1074) N D)) true++A1 N D (flE 53 (-1074) N D) false++n4 N D++x4 (flM (atQ N D (IntKind.i64.wrap ((flE 53 (-1074) N D)+flO 53 (atQ N D (flE 53 (-1074) N D)))))) (IntKind.i64.wrap ((flE 53 (-1074) N D)+flO 53 (atQ N D (flE 53 (-1074) N D)))) false false false false m e i a b c):=by kernel_rfl
theorem q0g:n8 XRl [] 200 77 [vlA n false N false D,kR 53 (-1074) 971,iR 1] [uR m,iR e,bR i,fR a b c] [false,false,true,true,false,false,false,false] =some ([false=false,decide ((IntKind.i64.wrap ((flE 53 (-1074) N D)+flO 53 (atQ N D (flE 53 (-1074) N D))))≤971)=false,flC 9007199254740992 (flM (atQ N D (IntKind.i64.wrap ((flE 53 (-1074) N D)+flO 53 (atQ N D (flE 53 (-1074) N D))))))=false,Int.ofNat 0≤Int.ofNat 53,false=false] ++x3 (atQ N D (IntKind.i64.wrap ((flE 53 (-1074) N D)+flO 53 (atQ N D (flE 53 (-1074) N D)))))++A1 N D (IntKind.i64.wrap ((flE 53 (-1074) N D)+flO 53 (atQ N D (flE 53 (-1074) N D)))) true++J3 53 (atQ N D (flE 53 (-1074) N D)) true++A1 N D (flE 53 (-1074) N D) false++n4 N D++x4 0 0 true true true false m e i a b c):=by kernel_rfl
theorem a1y:n8 XRl [] 200 77 [vlA n false N false D,kR 53 (-1074) 971,iR 1] [uR m,iR e,bR i,fR a b c] [false,false,true,false,false,false,true] =some ([decide ((IntKind.i64.wrap ((flE 53 (-1074) N D)+flO 53 (atQ N D (flE 53 (-1074) N D))))≤971)=true,flC 9007199254740992 (flM (atQ N D (IntKind.i64.wrap ((flE 53 (-1074) N D)+flO 53 (atQ N D (flE 53 (-1074) N D))))))=false,Int.ofNat 0≤Int.ofNat 53,flB (atH N D (IntKind.i64.wrap ((flE 53 (-1074) N D)+flO 53 (atQ N D (flE 53 (-1074) N D))))) (atQ N D (IntKind.i64.wrap ((flE 53 (-1074) N D)+flO 53 (atQ N D (flE 53 (-1074) N D)))))=false,Int.ofNat 0≤Int.ofNat 1∧Int.ofNat 1 < Int.ofNat 7,Int.ofNat 0≤Int.ofNat 52] ++x3 (atQ N D (IntKind.i64.wrap ((flE 53 (-1074) N D)+flO 53 (atQ N D (flE 53 (-1074) N D)))))++A1 N D (IntKind.i64.wrap ((flE 53 (-1074) N D)+flO 53 (atQ N D (flE 53 (-1074) N D)))) false++J3 53 (atQ N D (flE 53 (-1074) N D)) true++A1 N D (flE 53 (-1074) N D) false++n4 N D++x4 (flM (atQ N D (IntKind.i64.wrap ((flE 53 (-1074) N D)+flO 53 (atQ N D (flE 53 (-1074) N D)))))) (IntKind.i64.wrap ((flE 53 (-1074) N D)+flO 53 (atQ N D (flE 53 (-1074) N D)))) false true false (flV 4503599627370496 (atQ N D (IntKind.i64.wrap ((flE 53 (-1074) N D)+flO 53 (atQ N D (flE 53 (-1074) N D)))))) m e i a b c):=by kernel_rfl
theorem q0s:n8 XRl [] 200 77 [vlA n false N false D,kR 53 (-1074) 971,iR 1] [uR m,iR e,bR i,fR a b c] [false,false,true,false,false,false,false,false] =some ([false=false,decide ((IntKind.i64.wrap ((flE 53 (-1074) N D)+flO 53 (atQ N D (flE 53 (-1074) N D))))≤971)=false,flC 9007199254740992 (flM (atQ N D (IntKind.i64.wrap ((flE 53 (-1074) N D)+flO 53 (atQ N D (flE 53 (-1074) N D))))))=false,Int.ofNat 0≤Int.ofNat 53,flB (atH N D (IntKind.i64.wrap ((flE 53 (-1074) N D)+flO 53 (atQ N D (flE 53 (-1074) N D))))) (atQ N D (IntKind.i64.wrap ((flE 53 (-1074) N D)+flO 53 (atQ N D (flE 53 (-1074) N D)))))=false,Int.ofNat 0≤Int.ofNat 1∧Int.ofNat 1 < Int.ofNat 7,Int.ofNat 0≤Int.ofNat 52] ++x3 (atQ N D (IntKind.i64.wrap ((flE 53 (-1074) N D)+flO 53 (atQ N D (flE 53 (-1074) N D)))))++A1 N D (IntKind.i64.wrap ((flE 53 (-1074) N D)+flO 53 (atQ N D (flE 53 (-1074) N D)))) false++J3 53 (atQ N D (flE 53 (-1074) N D)) true++A1 N D (flE 53 (-1074) N D) false++n4 N D++x4 0 0 true true true (flV 4503599627370496 (atQ N D (IntKind.i64.wrap ((flE 53 (-1074) N D)+flO 53 (atQ N D (flE 53 (-1074) N D)))))) m e i a b c):=by kernel_rfl
theorem s0j:n8 XRl [] 200 77 [vlA n false N false D,kR 53 (-1074) 971,iR 1] [uR m,iR e,bR i,fR a b c] [false,false,true,false,true,false,true] =some ([decide ((IntKind.i64.wrap ((flE 53 (-1074) N D)+flO 53 (atQ N D (flE 53 (-1074) N D))))≤971)=true,flC 9007199254740992 (flU (atQ N D (IntKind.i64.wrap ((flE 53 (-1074) N D)+flO 53 (atQ N D (flE 53 (-1074) N D))))))=false,Int.ofNat 0≤Int.ofNat 53,flB (atH N D (IntKind.i64.wrap ((flE 53 (-1074) N D)+flO 53 (atQ N D (flE 53 (-1074) N D))))) (atQ N D (IntKind.i64.wrap ((flE 53 (-1074) N D)+flO 53 (atQ N D (flE 53 (-1074) N D)))))=true,Int.ofNat 0≤Int.ofNat 1∧Int.ofNat 1 < Int.ofNat 7,Int.ofNat 0≤Int.ofNat 52] ++x3 (atQ N D (IntKind.i64.wrap ((flE 53 (-1074) N D)+flO 53 (atQ N D (flE 53 (-1074) N D)))))++A1 N D (IntKind.i64.wrap ((flE 53 (-1074) N D)+flO 53 (atQ N D (flE 53 (-1074) N D)))) false++J3 53 (atQ N D (flE 53 (-1074) N D)) true++A1 N D (flE 53 (-1074) N D) false++n4 N D++x4 (flU (atQ N D (IntKind.i64.wrap ((flE 53 (-1074) N D)+flO 53 (atQ N D (flE 53 (-1074) N D)))))) (IntKind.i64.wrap ((flE 53 (-1074) N D)+flO 53 (atQ N D (flE 53 (-1074) N D)))) false true false (flV 4503599627370496 (atQ N D (IntKind.i64.wrap ((flE 53 (-1074) N D)+flO 53 (atQ N D (flE 53 (-1074) N D)))))) m e i a b c):=by kernel_rfl
theorem t0p:n8 XRl [] 200 77 [vlA n false N false D,kR 53 (-1074) 971,iR 1] [uR m,iR e,bR i,fR a b c] [false,false,true,false,true,false,false,false] =some ([false=false,decide ((IntKind.i64.wrap ((flE 53 (-1074) N D)+flO 53 (atQ N D (flE 53 (-1074) N D))))≤971)=false,flC 9007199254740992 (flU (atQ N D (IntKind.i64.wrap ((flE 53 (-1074) N D)+flO 53 (atQ N D (flE 53 (-1074) N D))))))=false,Int.ofNat 0≤Int.ofNat 53,flB (atH N D (IntKind.i64.wrap ((flE 53 (-1074) N D)+flO 53 (atQ N D (flE 53 (-1074) N D))))) (atQ N D (IntKind.i64.wrap ((flE 53 (-1074) N D)+flO 53 (atQ N D (flE 53 (-1074) N D)))))=true,Int.ofNat 0≤Int.ofNat 1∧Int.ofNat 1 < Int.ofNat 7,Int.ofNat 0≤Int.ofNat 52] ++x3 (atQ N D (IntKind.i64.wrap ((flE 53 (-1074) N D)+flO 53 (atQ N D (flE 53 (-1074) N D)))))++A1 N D (IntKind.i64.wrap ((flE 53 (-1074) N D)+flO 53 (atQ N D (flE 53 (-1074) N D)))) false++J3 53 (atQ N D (flE 53 (-1074) N D)) true++A1 N D (flE 53 (-1074) N D) false++n4 N D++x4 0 0 true true true (flV 4503599627370496 (atQ N D (IntKind.i64.wrap ((flE 53 (-1074) N D)+flO 53 (atQ N D (flE 53 (-1074) N D)))))) m e i a b c):=by kernel_rfl
theorem r0u:n8 XRl [] 200 77 [vlA n false N false D,kR 53 (-1074) 971,iR 1] [uR m,iR e,bR i,fR a b c] [false,false,true,false,true,true,true] =some ([decide ((IntKind.i64.wrap ((IntKind.i64.wrap ((flE 53 (-1074) N D)+flO 53 (atQ N D (flE 53 (-1074) N D))))+1))≤971)=true,flC 9007199254740992 (flU (atQ N D (IntKind.i64.wrap ((flE 53 (-1074) N D)+flO 53 (atQ N D (flE 53 (-1074) N D))))))=true,Int.ofNat 0≤Int.ofNat 53,flB (atH N D (IntKind.i64.wrap ((flE 53 (-1074) N D)+flO 53 (atQ N D (flE 53 (-1074) N D))))) (atQ N D (IntKind.i64.wrap ((flE 53 (-1074) N D)+flO 53 (atQ N D (flE 53 (-1074) N D)))))=true,Int.ofNat 0≤Int.ofNat 1∧Int.ofNat 1 < Int.ofNat 7,Int.ofNat 0≤Int.ofNat 52] ++x3 (atQ N D (IntKind.i64.wrap ((flE 53 (-1074) N D)+flO 53 (atQ N D (flE 53 (-1074) N D)))))++A1 N D (IntKind.i64.wrap ((flE 53 (-1074) N D)+flO 53 (atQ N D (flE 53 (-1074) N D)))) false++J3 53 (atQ N D (flE 53 (-1074) N D)) true++A1 N D (flE 53 (-1074) N D) false++n4 N D++x4 (flH (flU (atQ N D (IntKind.i64.wrap ((flE 53 (-1074) N D)+flO 53 (atQ N D (flE 53 (-1074) N D))))))) (IntKind.i64.wrap ((IntKind.i64.wrap ((flE 53 (-1074) N D)+flO 53 (atQ N D (flE 53 (-1074) N D))))+1)) false true false (flV 4503599627370496 (atQ N D (IntKind.i64.wrap ((flE 53 (-1074) N D)+flO 53 (atQ N D (flE 53 (-1074) N D)))))) m e i a b c):=by kernel_rfl
theorem a1n:n8 XRl [] 200 77 [vlA n false N false D,kR 53 (-1074) 971,iR 1] [uR m,iR e,bR i,fR a b c] [false,false,true,false,true,true,false,false] =some ([false=false,decide ((IntKind.i64.wrap ((IntKind.i64.wrap ((flE 53 (-1074) N D)+flO 53 (atQ N D (flE 53 (-1074) N D))))+1))≤971)=false,flC 9007199254740992 (flU (atQ N D (IntKind.i64.wrap ((flE 53 (-1074) N D)+flO 53 (atQ N D (flE 53 (-1074) N D))))))=true,Int.ofNat 0≤Int.ofNat 53,flB (atH N D (IntKind.i64.wrap ((flE 53 (-1074) N D)+flO 53 (atQ N D (flE 53 (-1074) N D))))) (atQ N D (IntKind.i64.wrap ((flE 53 (-1074) N D)+flO 53 (atQ N D (flE 53 (-1074) N D)))))=true,Int.ofNat 0≤Int.ofNat 1∧Int.ofNat 1 < Int.ofNat 7,Int.ofNat 0≤Int.ofNat 52] ++x3 (atQ N D (IntKind.i64.wrap ((flE 53 (-1074) N D)+flO 53 (atQ N D (flE 53 (-1074) N D)))))++A1 N D (IntKind.i64.wrap ((flE 53 (-1074) N D)+flO 53 (atQ N D (flE 53 (-1074) N D)))) false++J3 53 (atQ N D (flE 53 (-1074) N D)) true++A1 N D (flE 53 (-1074) N D) false++n4 N D++x4 0 0 true true true (flV 4503599627370496 (atQ N D (IntKind.i64.wrap ((flE 53 (-1074) N D)+flO 53 (atQ N D (flE 53 (-1074) N D)))))) m e i a b c):=by kernel_rfl
end
section
variable (n:Bool) (N D:List Int) (m e:Int) (i a b c:Bool)
theorem g1e:n8 XRl [] 200 77 [vlA n false N false D,kR 24 (-149) 104,iR 1] [uR m,iR e,bR i,fR a b c] [false,true,false,false,false,true] =some ([decide ((flE 24 (-149) N D)≤104)=true,flC 16777216 (flM (atQ N D (flE 24 (-149) N D)))=false,Int.ofNat 0≤Int.ofNat 24,false=false] ++x3 (atQ N D (flE 24 (-149) N D))++J3 24 (atQ N D (flE 24 (-149) N D)) false++A1 N D (flE 24 (-149) N D) true++n4 N D++x4 (flM (atQ N D (flE 24 (-149) N D))) (flE 24 (-149) N D) false false false false m e i a b c):=by kernel_rfl
theorem f1r:n8 XRl [] 200 77 [vlA n false N false D,kR 24 (-149) 104,iR 1] [uR m,iR e,bR i,fR a b c] [false,true,false,false,false,false,false] =some ([false=false,decide ((flE 24 (-149) N D)≤104)=false,flC 16777216 (flM (atQ N D (flE 24 (-149) N D)))=false,Int.ofNat 0≤Int.ofNat 24,false=false] ++x3 (atQ N D (flE 24 (-149) N D))++J3 24 (atQ N D (flE 24 (-149) N D)) false++A1 N D (flE 24 (-149) N D) true++n4 N D++x4 0 0 true true true false m e i a b c):=by kernel_rfl
theorem e1u:n8 XRl [] 200 77 [vlA n false N false D,kR 24 (-149) 104,iR 1] [uR m,iR e,bR i,fR a b c] [false,false,false,false,false,true] =some ([decide ((flE 24 (-149) N D)≤104)=true,flC 16777216 (flM (atQ N D (flE 24 (-149) N D)))=false,Int.ofNat 0≤Int.ofNat 24,flB (atH N D (flE 24 (-149) N D)) (atQ N D (flE 24 (-149) N D))=false,Int.ofNat 0≤Int.ofNat 1∧Int.ofNat 1 < Int.ofNat 7,Int.ofNat 0≤Int.ofNat 23] ++x3 (atQ N D (flE 24 (-149) N D))++J3 24 (atQ N D (flE 24 (-149) N D)) false++A1 N D (flE 24 (-149) N D) false++n4 N D++x4 (flM (atQ N D (flE 24 (-149) N D))) (flE 24 (-149) N D) false true false (flV 8388608 (atQ N D (flE 24 (-149) N D))) m e i a b c):=by kernel_rfl
theorem h1x:n8 XRl [] 200 77 [vlA n false N false D,kR 24 (-149) 104,iR 1] [uR m,iR e,bR i,fR a b c] [false,false,false,false,false,false,false] =some ([false=false,decide ((flE 24 (-149) N D)≤104)=false,flC 16777216 (flM (atQ N D (flE 24 (-149) N D)))=false,Int.ofNat 0≤Int.ofNat 24,flB (atH N D (flE 24 (-149) N D)) (atQ N D (flE 24 (-149) N D))=false,Int.ofNat 0≤Int.ofNat 1∧Int.ofNat 1 < Int.ofNat 7,Int.ofNat 0≤Int.ofNat 23] ++x3 (atQ N D (flE 24 (-149) N D))++J3 24 (atQ N D (flE 24 (-149) N D)) false++A1 N D (flE 24 (-149) N D) false++n4 N D++x4 0 0 true true true (flV 8388608 (atQ N D (flE 24 (-149) N D))) m e i a b c):=by kernel_rfl
theorem f1t:n8 XRl [] 200 77 [vlA n false N false D,kR 24 (-149) 104,iR 1] [uR m,iR e,bR i,fR a b c] [false,false,false,true,false,true] =some ([decide ((flE 24 (-149) N D)≤104)=true,flC 16777216 (flU (atQ N D (flE 24 (-149) N D)))=false,Int.ofNat 0≤Int.ofNat 24,flB (atH N D (flE 24 (-149) N D)) (atQ N D (flE 24 (-149) N D))=true,Int.ofNat 0≤Int.ofNat 1∧Int.ofNat 1 < Int.ofNat 7,Int.ofNat 0≤Int.ofNat 23] ++x3 (atQ N D (flE 24 (-149) N D))++J3 24 (atQ N D (flE 24 (-149) N D)) false++A1 N D (flE 24 (-149) N D) false++n4 N D++x4 (flU (atQ N D (flE 24 (-149) N D))) (flE 24 (-149) N D) false true false (flV 8388608 (atQ N D (flE 24 (-149) N D))) m e i a b c):=by kernel_rfl
theorem e1v:n8 XRl [] 200 77 [vlA n false N false D,kR 24 (-149) 104,iR 1] [uR m,iR e,bR i,fR a b c] [false,false,false,true,false,false,false] =some ([false=false,decide ((flE 24 (-149) N D)≤104)=false,flC 16777216 (flU (atQ N D (flE 24 (-149) N D)))=false,Int.ofNat 0≤Int.ofNat 24,flB (atH N D (flE 24 (-149) N D)) (atQ N D (flE 24 (-149) N D))=true,Int.ofNat 0≤Int.ofNat 1∧Int.ofNat 1 < Int.ofNat 7,Int.ofNat 0≤Int.ofNat 23] ++x3 (atQ N D (flE 24 (-149) N D))++J3 24 (atQ N D (flE 24 (-149) N D)) false++A1 N D (flE 24 (-149) N D) false++n4 N D++x4 0 0 true true true (flV 8388608 (atQ N D (flE 24 (-149) N D))) m e i a b c):=by kernel_rfl
theorem e1p:n8 XRl [] 200 77 [vlA n false N false D,kR 24 (-149) 104,iR 1] [uR m,iR e,bR i,fR a b c] [false,false,false,true,true,true] =some ([decide ((IntKind.i64.wrap ((flE 24 (-149) N D)+1))≤104)=true,flC 16777216 (flU (atQ N D (flE 24 (-149) N D)))=true,Int.ofNat 0≤Int.ofNat 24,flB (atH N D (flE 24 (-149) N D)) (atQ N D (flE 24 (-149) N D))=true,Int.ofNat 0≤Int.ofNat 1∧Int.ofNat 1 < Int.ofNat 7,Int.ofNat 0≤Int.ofNat 23] ++x3 (atQ N D (flE 24 (-149) N D))++J3 24 (atQ N D (flE 24 (-149) N D)) false++A1 N D (flE 24 (-149) N D) false++n4 N D++x4 (flH (flU (atQ N D (flE 24 (-149) N D)))) (IntKind.i64.wrap ((flE 24 (-149) N D)+1)) false true false (flV 8388608 (atQ N D (flE 24 (-149) N D))) m e i a b c):=by kernel_rfl
theorem d1a:n8 XRl [] 200 77 [vlA n false N false D,kR 24 (-149) 104,iR 1] [uR m,iR e,bR i,fR a b c] [false,false,false,true,true,false,false] =some ([false=false,decide ((IntKind.i64.wrap ((flE 24 (-149) N D)+1))≤104)=false,flC 16777216 (flU (atQ N D (flE 24 (-149) N D)))=true,Int.ofNat 0≤Int.ofNat 24,flB (atH N D (flE 24 (-149) N D)) (atQ N D (flE 24 (-149) N D))=true,Int.ofNat 0≤Int.ofNat 1∧Int.ofNat 1 < Int.ofNat 7,Int.ofNat 0≤Int.ofNat 23] ++x3 (atQ N D (flE 24 (-149) N D))++J3 24 (atQ N D (flE 24 (-149) N D)) false++A1 N D (flE 24 (-149) N D) false++n4 N D++x4 0 0 true true true (flV 8388608 (atQ N D (flE 24 (-149) N D))) m e i a b c):=by kernel_rfl
theorem a1m:n8 XRl [] 200 77 [vlA n false N false D,kR 24 (-149) 104,iR 1] [uR m,iR e,bR i,fR a b c] [false,true,true,true,false,false,true] =some ([decide ((IntKind.i64.wrap ((flE 24 (-149) N D)+flO 24 (atQ N D (flE 24 (-149) N D))))≤104)=true,flC 16777216 (flM (atQ N D (IntKind.i64.wrap ((flE 24 (-149) N D)+flO 24 (atQ N D (flE 24 (-149) N D))))))=false,Int.ofNat 0≤Int.ofNat 24,false=false] ++x3 (atQ N D (IntKind.i64.wrap ((flE 24 (-149) N D)+flO 24 (atQ N D (flE 24 (-149) N D)))))++A1 N D (IntKind.i64.wrap ((flE 24 (-149) N D)+flO 24 (atQ N D (flE 24 (-149) N D)))) true++J3 24 (atQ N D (flE 24 (-149) N D)) true++A1 N D (flE 24 (-149) N D) true++n4 N D++x4 (flM (atQ N D (IntKind.i64.wrap ((flE 24 (-149) N D)+flO 24 (atQ N D (flE 24 (-149) N D)))))) (IntKind.i64.wrap ((flE 24 (-149) N D)+flO 24 (atQ N D (flE 24 (-149) N D)))) false false false false m e i a b c):=by kernel_rfl
theorem y0r:n8 XRl [] 200 77 [vlA n false N false D,kR 24 (-149) 104,iR 1] [uR m,iR e,bR i,fR a b c] [false,true,true,true,false,false,false,false] =some ([false=false,decide ((IntKind.i64.wrap ((flE 24 (-149) N D)+flO 24 (atQ N D (flE 24 (-149) N D))))≤104)=false,flC 16777216 (flM (atQ N D (IntKind.i64.wrap ((flE 24 (-149) N D)+flO 24 (atQ N D (flE 24 (-149) N D))))))=false,Int.ofNat 0≤Int.ofNat 24,false=false] ++x3 (atQ N D (IntKind.i64.wrap ((flE 24 (-149) N D)+flO 24 (atQ N D (flE 24 (-149) N D)))))++A1 N D (IntKind.i64.wrap ((flE 24 (-149) N D)+flO 24 (atQ N D (flE 24 (-149) N D)))) true++J3 24 (atQ N D (flE 24 (-149) N D)) true++A1 N D (flE 24 (-149) N D) true++n4 N D++x4 0 0 true true true false m e i a b c):=by kernel_rfl
theorem b1x:n8 XRl [] 200 77 [vlA n false N false D,kR 24 (-149) 104,iR 1] [uR m,iR e,bR i,fR a b c] [false,true,true,false,false,false,true] =some ([decide ((IntKind.i64.wrap ((flE 24 (-149) N D)+flO 24 (atQ N D (flE 24 (-149) N D))))≤104)=true,flC 16777216 (flM (atQ N D (IntKind.i64.wrap ((flE 24 (-149) N D)+flO 24 (atQ N D (flE 24 (-149) N D))))))=false,Int.ofNat 0≤Int.ofNat 24,flB (atH N D (IntKind.i64.wrap ((flE 24 (-149) N D)+flO 24 (atQ N D (flE 24 (-149) N D))))) (atQ N D (IntKind.i64.wrap ((flE 24 (-149) N D)+flO 24 (atQ N D (flE 24 (-149) N D)))))=false,Int.ofNat 0≤Int.ofNat 1∧Int.ofNat 1 < Int.ofNat 7,Int.ofNat 0≤Int.ofNat 23] ++x3 (atQ N D (IntKind.i64.wrap ((flE 24 (-149) N D)+flO 24 (atQ N D (flE 24 (-149) N D)))))++A1 N D (IntKind.i64.wrap ((flE 24 (-149) N D)+flO 24 (atQ N D (flE 24 (-149) N D)))) false++J3 24 (atQ N D (flE 24 (-149) N D)) true++A1 N D (flE 24 (-149) N D) true++n4 N D++x4 (flM (atQ N D (IntKind.i64.wrap ((flE 24 (-149) N D)+flO 24 (atQ N D (flE 24 (-149) N D)))))) (IntKind.i64.wrap ((flE 24 (-149) N D)+flO 24 (atQ N D (flE 24 (-149) N D)))) false true false (flV 8388608 (atQ N D (IntKind.i64.wrap ((flE 24 (-149) N D)+flO 24 (atQ N D (flE 24 (-149) N D)))))) m e i a b c):=by kernel_rfl
theorem y0z:n8 XRl [] 200 77 [vlA n false N false D,kR 24 (-149) 104,iR 1] [uR m,iR e,bR i,fR a b c] [false,true,true,false,false,false,false,false] =some ([false=false,decide ((IntKind.i64.wrap ((flE 24 (-149) N D)+flO 24 (atQ N D (flE 24 (-149) N D))))≤104)=false,flC 16777216 (flM (atQ N D (IntKind.i64.wrap ((flE 24 (-149) N D)+flO 24 (atQ N D (flE 24 (-149) N D))))))=false,Int.ofNat 0≤Int.ofNat 24,flB (atH N D (IntKind.i64.wrap ((flE 24 (-149) N D)+flO 24 (atQ N D (flE 24 (-149) N D))))) (atQ N D (IntKind.i64.wrap ((flE 24 (-149) N D)+flO 24 (atQ N D (flE 24 (-149) N D)))))=false,Int.ofNat 0≤Int.ofNat 1∧Int.ofNat 1 < Int.ofNat 7,Int.ofNat 0≤Int.ofNat 23] ++x3 (atQ N D (IntKind.i64.wrap ((flE 24 (-149) N D)+flO 24 (atQ N D (flE 24 (-149) N D)))))++A1 N D (IntKind.i64.wrap ((flE 24 (-149) N D)+flO 24 (atQ N D (flE 24 (-149) N D)))) false++J3 24 (atQ N D (flE 24 (-149) N D)) true++A1 N D (flE 24 (-149) N D) true++n4 N D++x4 0 0 true true true (flV 8388608 (atQ N D (IntKind.i64.wrap ((flE 24 (-149) N D)+flO 24 (atQ N D (flE 24 (-149) N D)))))) m e i a b c):=by kernel_rfl
theorem x0j:n8 XRl [] 200 77 [vlA n false N false D,kR 24 (-149) 104,iR 1] [uR m,iR e,bR i,fR a b c] [false,true,true,false,true,false,true] =some ([decide ((IntKind.i64.wrap ((flE 24 (-149) N D)+flO 24 (atQ N D (flE 24 (-149) N D))))≤104)=true,flC 16777216 (flU (atQ N D (IntKind.i64.wrap ((flE 24 (-149) N D)+flO 24 (atQ N D (flE 24 (-149) N D))))))=false,Int.ofNat 0≤Int.ofNat 24,flB (atH N D (IntKind.i64.wrap ((flE 24 (-149) N D)+flO 24 (atQ N D (flE 24 (-149) N D))))) (atQ N D (IntKind.i64.wrap ((flE 24 (-149) N D)+flO 24 (atQ N D (flE 24 (-149) N D)))))=true,Int.ofNat 0≤Int.ofNat 1∧Int.ofNat 1 < Int.ofNat 7,Int.ofNat 0≤Int.ofNat 23] ++x3 (atQ N D (IntKind.i64.wrap ((flE 24 (-149) N D)+flO 24 (atQ N D (flE 24 (-149) N D)))))++A1 N D (IntKind.i64.wrap ((flE 24 (-149) N D)+flO 24 (atQ N D (flE 24 (-149) N D)))) false++J3 24 (atQ N D (flE 24 (-149) N D)) true++A1 N D (flE 24 (-149) N D) true++n4 N D++x4 (flU (atQ N D (IntKind.i64.wrap ((flE 24 (-149) N D)+flO 24 (atQ N D (flE 24 (-149) N D)))))) (IntKind.i64.wrap ((flE 24 (-149) N D)+flO 24 (atQ N D (flE 24 (-149) N D)))) false true false (flV 8388608 (atQ N D (IntKind.i64.wrap ((flE 24 (-149) N D)+flO 24 (atQ N D (flE 24 (-149) N D)))))) m e i a b c):=by kernel_rfl
theorem x0m:n8 XRl [] 200 77 [vlA n false N false D,kR 24 (-149) 104,iR 1] [uR m,iR e,bR i,fR a b c] [false,true,true,false,true,false,false,false] =some ([false=false,decide ((IntKind.i64.wrap ((flE 24 (-149) N D)+flO 24 (atQ N D (flE 24 (-149) N D))))≤104)=false,flC 16777216 (flU (atQ N D (IntKind.i64.wrap ((flE 24 (-149) N D)+flO 24 (atQ N D (flE 24 (-149) N D))))))=false,Int.ofNat 0≤Int.ofNat 24,flB (atH N D (IntKind.i64.wrap ((flE 24 (-149) N D)+flO 24 (atQ N D (flE 24 (-149) N D))))) (atQ N D (IntKind.i64.wrap ((flE 24 (-149) N D)+flO 24 (atQ N D (flE 24 (-149) N D)))))=true,Int.ofNat 0≤Int.ofNat 1∧Int.ofNat 1 < Int.ofNat 7,Int.ofNat 0≤Int.ofNat 23] ++x3 (atQ N D (IntKind.i64.wrap ((flE 24 (-149) N D)+flO 24 (atQ N D (flE 24 (-149) N D)))))++A1 N D (IntKind.i64.wrap ((flE 24 (-149) N D)+flO 24 (atQ N D (flE 24 (-149) N D)))) false++J3 24 (atQ N D (flE 24 (-149) N D)) true++A1 N D (flE 24 (-149) N D) true++n4 N D++x4 0 0 true true true (flV 8388608 (atQ N D (IntKind.i64.wrap ((flE 24 (-149) N D)+flO 24 (atQ N D (flE 24 (-149) N D)))))) m e i a b c):=by kernel_rfl
theorem s0b:n8 XRl [] 200 77 [vlA n false N false D,kR 24 (-149) 104,iR 1] [uR m,iR e,bR i,fR a b c] [false,true,true,false,true,true,true] =some ([decide ((IntKind.i64.wrap ((IntKind.i64.wrap ((flE 24 (-149) N D)+flO 24 (atQ N D (flE 24 (-149) N D))))+1))≤104)=true,flC 16777216 (flU (atQ N D (IntKind.i64.wrap ((flE 24 (-149) N D)+flO 24 (atQ N D (flE 24 (-149) N D))))))=true,Int.ofNat 0≤Int.ofNat 24,flB (atH N D (IntKind.i64.wrap ((flE 24 (-149) N D)+flO 24 (atQ N D (flE 24 (-149) N D))))) (atQ N D (IntKind.i64.wrap ((flE 24 (-149) N D)+flO 24 (atQ N D (flE 24 (-149) N D)))))=true,Int.ofNat 0≤Int.ofNat 1∧Int.ofNat 1 < Int.ofNat 7,Int.ofNat 0≤Int.ofNat 23] ++x3 (atQ N D (IntKind.i64.wrap ((flE 24 (-149) N D)+flO 24 (atQ N D (flE 24 (-149) N D)))))++A1 N D (IntKind.i64.wrap ((flE 24 (-149) N D)+flO 24 (atQ N D (flE 24 (-149) N D)))) false++J3 24 (atQ N D (flE 24 (-149) N D)) true++A1 N D (flE 24 (-149) N D) true++n4 N D++x4 (flH (flU (atQ N D (IntKind.i64.wrap ((flE 24 (-149) N D)+flO 24 (atQ N D (flE 24 (-149) N D))))))) (IntKind.i64.wrap ((IntKind.i64.wrap ((flE 24 (-149) N D)+flO 24 (atQ N D (flE 24 (-149) N D))))+1)) false true false (flV 8388608 (atQ N D (IntKind.i64.wrap ((flE 24 (-149) N D)+flO 24 (atQ N D (flE 24 (-149) N D)))))) m e i a b c):=by kernel_rfl
theorem y0g:n8 XRl [] 200 77 [vlA n false N false D,kR 24 (-149) 104,iR 1] [uR m,iR e,bR i,fR a b c] [false,true,true,false,true,true,false,false] =some ([false=false,decide ((IntKind.i64.wrap ((IntKind.i64.wrap ((flE 24 (-149) N D)+flO 24 (atQ N D (flE 24 (-149) N D))))+1))≤104)=false,flC 16777216 (flU (atQ N D (IntKind.i64.wrap ((flE 24 (-149) N D)+flO 24 (atQ N D (flE 24 (-149) N D))))))=true,Int.ofNat 0≤Int.ofNat 24,flB (atH N D (IntKind.i64.wrap ((flE 24 (-149) N D)+flO 24 (atQ N D (flE 24 (-149) N D))))) (atQ N D (IntKind.i64.wrap ((flE 24 (-149) N D)+flO 24 (atQ N D (flE 24 (-149) N D)))))=true,Int.ofNat 0≤Int.ofNat 1∧Int.ofNat 1 < Int.ofNat 7,Int.ofNat 0≤Int.ofNat 23] ++x3 (atQ N D (IntKind.i64.wrap ((flE 24 (-149) N D)+flO 24 (atQ N D (flE 24 (-149) N D)))))++A1 N D (IntKind.i64.wrap ((flE 24 (-149) N D)+flO 24 (atQ N D (flE 24 (-149) N D)))) false++J3 24 (atQ N D (flE 24 (-149) N D)) true++A1 N D (flE 24 (-149) N D) true++n4 N D++x4 0 0 true true true (flV 8388608 (atQ N D (IntKind.i64.wrap ((flE 24 (-149) N D)+flO 24 (atQ N D (flE 24 (-149) N D)))))) m e i a b c):=by kernel_rfl
theorem s0f:n8 XRl [] 200 77 [vlA n false N false D,kR 24 (-149) 104,iR 1] [uR m,iR e,bR i,fR a b c] [false,false,true,true,false,false,true] =some ([decide ((IntKind.i64.wrap ((flE 24 (-149) N D)+flO 24 (atQ N D (flE 24 (-149) N D))))≤104)=true,flC 16777216 (flM (atQ N D (IntKind.i64.wrap ((flE 24 (-149) N D)+flO 24 (atQ N D (flE 24 (-149) N D))))))=false,Int.ofNat 0≤Int.ofNat 24,false=false] ++x3 (atQ N D (IntKind.i64.wrap ((flE 24 (-149) N D)+flO 24 (atQ N D (flE 24 (-149) N D)))))++A1 N D (IntKind.i64.wrap ((flE 24 (-149) N D)+flO 24 (atQ N D (flE 24 (-149) N D)))) true++J3 24 (atQ N D (flE 24 (-149) N D)) true++A1 N D (flE 24 (-149) N D) false++n4 N D++x4 (flM (atQ N D (IntKind.i64.wrap ((flE 24 (-149) N D)+flO 24 (atQ N D (flE 24 (-149) N D)))))) (IntKind.i64.wrap ((flE 24 (-149) N D)+flO 24 (atQ N D (flE 24 (-149) N D)))) false false false false m e i a b c):=by kernel_rfl
theorem q0u:n8 XRl [] 200 77 [vlA n false N false D,kR 24 (-149) 104,iR 1] [uR m,iR e,bR i,fR a b c] [false,false,true,true,false,false,false,false] =some ([false=false,decide ((IntKind.i64.wrap ((flE 24 (-149) N D)+flO 24 (atQ N D (flE 24 (-149) N D))))≤104)=false,flC 16777216 (flM (atQ N D (IntKind.i64.wrap ((flE 24 (-149) N D)+flO 24 (atQ N D (flE 24 (-149) N D))))))=false,Int.ofNat 0≤Int.ofNat 24,false=false] ++x3 (atQ N D (IntKind.i64.wrap ((flE 24 (-149) N D)+flO 24 (atQ N D (flE 24 (-149) N D)))))++A1 N D (IntKind.i64.wrap ((flE 24 (-149) N D)+flO 24 (atQ N D (flE 24 (-149) N D)))) true++J3 24 (atQ N D (flE 24 (-149) N D)) true++A1 N D (flE 24 (-149) N D) false++n4 N D++x4 0 0 true true true false m e i a b c):=by kernel_rfl
theorem u0d:n8 XRl [] 200 77 [vlA n false N false D,kR 24 (-149) 104,iR 1] [uR m,iR e,bR i,fR a b c] [false,false,true,false,false,false,true] =some ([decide ((IntKind.i64.wrap ((flE 24 (-149) N D)+flO 24 (atQ N D (flE 24 (-149) N D))))≤104)=true,flC 16777216 (flM (atQ N D (IntKind.i64.wrap ((flE 24 (-149) N D)+flO 24 (atQ N D (flE 24 (-149) N D))))))=false,Int.ofNat 0≤Int.ofNat 24,flB (atH N D (IntKind.i64.wrap ((flE 24 (-149) N D)+flO 24 (atQ N D (flE 24 (-149) N D))))) (atQ N D (IntKind.i64.wrap ((flE 24 (-149) N D)+flO 24 (atQ N D (flE 24 (-149) N D)))))=false,Int.ofNat 0≤Int.ofNat 1∧Int.ofNat 1 < Int.ofNat 7,Int.ofNat 0≤Int.ofNat 23] ++x3 (atQ N D (IntKind.i64.wrap ((flE 24 (-149) N D)+flO 24 (atQ N D (flE 24 (-149) N D)))))++A1 N D (IntKind.i64.wrap ((flE 24 (-149) N D)+flO 24 (atQ N D (flE 24 (-149) N D)))) false++J3 24 (atQ N D (flE 24 (-149) N D)) true++A1 N D (flE 24 (-149) N D) false++n4 N D++x4 (flM (atQ N D (IntKind.i64.wrap ((flE 24 (-149) N D)+flO 24 (atQ N D (flE 24 (-149) N D)))))) (IntKind.i64.wrap ((flE 24 (-149) N D)+flO 24 (atQ N D (flE 24 (-149) N D)))) false true false (flV 8388608 (atQ N D (IntKind.i64.wrap ((flE 24 (-149) N D)+flO 24 (atQ N D (flE 24 (-149) N D)))))) m e i a b c):=by kernel_rfl
theorem s0t:n8 XRl [] 200 77 [vlA n false N false D,kR 24 (-149) 104,iR 1] [uR m,iR e,bR i,fR a b c] [false,false,true,false,false,false,false,false] =some ([false=false,decide ((IntKind.i64.wrap ((flE 24 (-149) N D)+flO 24 (atQ N D (flE 24 (-149) N D))))≤104)=false,flC 16777216 (flM (atQ N D (IntKind.i64.wrap ((flE 24 (-149) N D)+flO 24 (atQ N D (flE 24 (-149) N D))))))=false,Int.ofNat 0≤Int.ofNat 24,flB (atH N D (IntKind.i64.wrap ((flE 24 (-149) N D)+flO 24 (atQ N D (flE 24 (-149) N D))))) (atQ N D (IntKind.i64.wrap ((flE 24 (-149) N D)+flO 24 (atQ N D (flE 24 (-149) N D)))))=false,Int.ofNat 0≤Int.ofNat 1∧Int.ofNat 1 < Int.ofNat 7,Int.ofNat 0≤Int.ofNat 23] ++x3 (atQ N D (IntKind.i64.wrap ((flE 24 (-149) N D)+flO 24 (atQ N D (flE 24 (-149) N D)))))++A1 N D (IntKind.i64.wrap ((flE 24 (-149) N D)+flO 24 (atQ N D (flE 24 (-149) N D)))) false++J3 24 (atQ N D (flE 24 (-149) N D)) true++A1 N D (flE 24 (-149) N D) false++n4 N D++x4 0 0 true true true (flV 8388608 (atQ N D (IntKind.i64.wrap ((flE 24 (-149) N D)+flO 24 (atQ N D (flE 24 (-149) N D)))))) m e i a b c):=by kernel_rfl
theorem a1p:n8 XRl [] 200 77 [vlA n false N false D,kR 24 (-149) 104,iR 1] [uR m,iR e,bR i,fR a b c] [false,false,true,false,true,false,true] =some ([decide ((IntKind.i64.wrap ((flE 24 (-149) N D)+flO 24 (atQ N D (flE 24 (-149) N D))))≤104)=true,flC 16777216 (flU (atQ N D (IntKind.i64.wrap ((flE 24 (-149) N D)+flO 24 (atQ N D (flE 24 (-149) N D))))))=false,Int.ofNat 0≤Int.ofNat 24,flB (atH N D (IntKind.i64.wrap ((flE 24 (-149) N D)+flO 24 (atQ N D (flE 24 (-149) N D))))) (atQ N D (IntKind.i64.wrap ((flE 24 (-149) N D)+flO 24 (atQ N D (flE 24 (-149) N D)))))=true,Int.ofNat 0≤Int.ofNat 1∧Int.ofNat 1 < Int.ofNat 7,Int.ofNat 0≤Int.ofNat 23] ++x3 (atQ N D (IntKind.i64.wrap ((flE 24 (-149) N D)+flO 24 (atQ N D (flE 24 (-149) N D)))))++A1 N D (IntKind.i64.wrap ((flE 24 (-149) N D)+flO 24 (atQ N D (flE 24 (-149) N D)))) false++J3 24 (atQ N D (flE 24 (-149) N D)) true++A1 N D (flE 24 (-149) N D) false++n4 N D++x4 (flU (atQ N D (IntKind.i64.wrap ((flE 24 (-149) N D)+flO 24 (atQ N D (flE 24 (-149) N D)))))) (IntKind.i64.wrap ((flE 24 (-149) N D)+flO 24 (atQ N D (flE 24 (-149) N D)))) false true false (flV 8388608 (atQ N D (IntKind.i64.wrap ((flE 24 (-149) N D)+flO 24 (atQ N D (flE 24 (-149) N D)))))) m e i a b c):=by kernel_rfl
theorem q0f:n8 XRl [] 200 77 [vlA n false N false D,kR 24 (-149) 104,iR 1] [uR m,iR e,bR i,fR a b c] [false,false,true,false,true,false,false,false] =some ([false=false,decide ((IntKind.i64.wrap ((flE 24 (-149) N D)+flO 24 (atQ N D (flE 24 (-149) N D))))≤104)=false,flC 16777216 (flU (atQ N D (IntKind.i64.wrap ((flE 24 (-149) N D)+flO 24 (atQ N D (flE 24 (-149) N D))))))=false,Int.ofNat 0≤Int.ofNat 24,flB (atH N D (IntKind.i64.wrap ((flE 24 (-149) N D)+flO 24 (atQ N D (flE 24 (-149) N D))))) (atQ N D (IntKind.i64.wrap ((flE 24 (-149) N D)+flO 24 (atQ N D (flE 24 (-149) N D)))))=true,Int.ofNat 0≤Int.ofNat 1∧Int.ofNat 1 < Int.ofNat 7,Int.ofNat 0≤Int.ofNat 23] ++x3 (atQ N D (IntKind.i64.wrap ((flE 24 (-149) N D)+flO 24 (atQ N D (flE 24 (-149) N D)))))++A1 N D (IntKind.i64.wrap ((flE 24 (-149) N D)+flO 24 (atQ N D (flE 24 (-149) N D)))) false++J3 24 (atQ N D (flE 24 (-149) N D)) true++A1 N D (flE 24 (-149) N D) false++n4 N D++x4 0 0 true true true (flV 8388608 (atQ N D (IntKind.i64.wrap ((flE 24 (-149) N D)+flO 24 (atQ N D (flE 24 (-149) N D)))))) m e i a b c):=by kernel_rfl
theorem s0h:n8 XRl [] 200 77 [vlA n false N false D,kR 24 (-149) 104,iR 1] [uR m,iR e,bR i,fR a b c] [false,false,true,false,true,true,true] =some ([decide ((IntKind.i64.wrap ((IntKind.i64.wrap ((flE 24 (-149) N D)+flO 24 (atQ N D (flE 24 (-149) N D))))+1))≤104)=true,flC 16777216 (flU (atQ N D (IntKind.i64.wrap ((flE 24 (-149) N D)+flO 24 (atQ N D (flE 24 (-149) N D))))))=true,Int.ofNat 0≤Int.ofNat 24,flB (atH N D (IntKind.i64.wrap ((flE 24 (-149) N D)+flO 24 (atQ N D (flE 24 (-149) N D))))) (atQ N D (IntKind.i64.wrap ((flE 24 (-149) N D)+flO 24 (atQ N D (flE 24 (-149) N D)))))=true,Int.ofNat 0≤Int.ofNat 1∧Int.ofNat 1 < Int.ofNat 7,Int.ofNat 0≤Int.ofNat 23] ++x3 (atQ N D (IntKind.i64.wrap ((flE 24 (-149) N D)+flO 24 (atQ N D (flE 24 (-149) N D)))))++A1 N D (IntKind.i64.wrap ((flE 24 (-149) N D)+flO 24 (atQ N D (flE 24 (-149) N D)))) false++J3 24 (atQ N D (flE 24 (-149) N D)) true++A1 N D (flE 24 (-149) N D) false++n4 N D++x4 (flH (flU (atQ N D (IntKind.i64.wrap ((flE 24 (-149) N D)+flO 24 (atQ N D (flE 24 (-149) N D))))))) (IntKind.i64.wrap ((IntKind.i64.wrap ((flE 24 (-149) N D)+flO 24 (atQ N D (flE 24 (-149) N D))))+1)) false true false (flV 8388608 (atQ N D (IntKind.i64.wrap ((flE 24 (-149) N D)+flO 24 (atQ N D (flE 24 (-149) N D)))))) m e i a b c):=by kernel_rfl
theorem w0s:n8 XRl [] 200 77 [vlA n false N false D,kR 24 (-149) 104,iR 1] [uR m,iR e,bR i,fR a b c] [false,false,true,false,true,true,false,false] =some ([false=false,decide ((IntKind.i64.wrap ((IntKind.i64.wrap ((flE 24 (-149) N D)+flO 24 (atQ N D (flE 24 (-149) N D))))+1))≤104)=false,flC 16777216 (flU (atQ N D (IntKind.i64.wrap ((flE 24 (-149) N D)+flO 24 (atQ N D (flE 24 (-149) N D))))))=true,Int.ofNat 0≤Int.ofNat 24,flB (atH N D (IntKind.i64.wrap ((flE 24 (-149) N D)+flO 24 (atQ N D (flE 24 (-149) N D))))) (atQ N D (IntKind.i64.wrap ((flE 24 (-149) N D)+flO 24 (atQ N D (flE 24 (-149) N D)))))=true,Int.ofNat 0≤Int.ofNat 1∧Int.ofNat 1 < Int.ofNat 7,Int.ofNat 0≤Int.ofNat 23] ++x3 (atQ N D (IntKind.i64.wrap ((flE 24 (-149) N D)+flO 24 (atQ N D (flE 24 (-149) N D)))))++A1 N D (IntKind.i64.wrap ((flE 24 (-149) N D)+flO 24 (atQ N D (flE 24 (-149) N D)))) false++J3 24 (atQ N D (flE 24 (-149) N D)) true++A1 N D (flE 24 (-149) N D) false++n4 N D++x4 0 0 true true true (flV 8388608 (atQ N D (IntKind.i64.wrap ((flE 24 (-149) N D)+flO 24 (atQ N D (flE 24 (-149) N D)))))) m e i a b c):=by kernel_rfl
end
def flq (N D:Nat) (e:Int):Nat:=atA N e/atB D e
def flr (N D:Nat) (e:Int):Nat:=atA N e%atB D e
def w7 (K:Nat) (L:Int) (N D:Nat):Int:=if L < (bl N:Int)-bl D-K-2 then (bl N:Int)-bl D-K-2 else L
def p9 (K:Nat) (L:Int) (N D:Nat):Int:=if K < bl (flq N D (w7 K L N D)) then w7 K L N D+((bl (flq N D (w7 K L N D)):Int)-K) else w7 K L N D
def flw (N D:Nat) (e:Int):Bool:=decide (flr N D e=0)
def flh (N D:Nat) (e:Int):Int:=cmN (flr N D e*2) (atB D e)
def upB (h:Int) (q:Nat):Bool:=decide (0 < h) || (decide (h=0) && decide (q%2=1))
def d0v (N D:Nat) (e:Int):Bool:= !flw N D e && upB (flh N D e) (flq N D e)
def flm (N D:Nat) (e:Int):Nat:=if d0v N D e=true then flq N D e+1 else flq N D e
def qG (K:Nat) (N D:Nat) (e:Int):Nat:=if 2 ^K≤flm N D e then flm N D e/2 else flm N D e
def pC (K:Nat) (N D:Nat) (e:Int):Int:=if 2 ^K≤flm N D e then e+1 else e
def B1 (K:Nat) (M:Int) (N D:Nat) (e:Int):Bool:=decide (M < pC K N D e)
def qT (K:Nat) (N D:Nat) (e:Int):Bool:= !flw N D e && decide (flq N D e < 2 ^(K-1))
abbrev jT (K:Nat) (M:Int) (N D:Nat) (e:Int):List Arg:=if B1 K M N D e=true then [uR 0,iR 0,bR true,fR true true (qT K N D e)] else [uR (qG K N D e),iR (pC K N D e),bR false,fR (!flw N D e) false (qT K N D e)]
theorem q1z {D:Nat} (hD:0 < D) (e:Int):0 < atB D e:=by
 unfold atB
 split
 ·exact Nat.mul_pos hD (Nat.pow_pos (by decide))
 ·exact hD
theorem lV {N D:Nat} (e:Int) (s:Nat):flq N D (e+s)=flq N D e/2 ^s:=by
 have h2:∀ k:Nat,0 < 2 ^k:=fun k=>Nat.pow_pos (by decide)
 unfold flq atA atB
 by_cases h0:0≤e
 ·rw [if_pos (show 0≤e+(s:Int) by omega),if_pos (show 0≤e+(s:Int) by omega),if_pos h0,if_pos h0,Nat.div_div_eq_div_mul,Nat.mul_assoc,← Nat.pow_add,show (e+(s:Int)).toNat=e.toNat+s by omega]
 ·rw [if_neg h0,if_neg h0,Nat.div_div_eq_div_mul]
  by_cases h1:0≤e+(s:Int)
  ·rw [if_pos h1,if_pos h1,show s=(e+(s:Int)).toNat+(-e).toNat by omega,Nat.pow_add,← Nat.mul_assoc,Nat.mul_div_mul_right _ _ (h2 _)]
   rw [show ((e+((((e+(s:Int)).toNat+(-e).toNat:Nat)):Int)).toNat)=(e+(s:Int)).toNat by omega]
  ·rw [if_neg h1,if_neg h1,show (-e).toNat=(-(e+(s:Int))).toNat+s by omega,Nat.pow_add,← Nat.mul_assoc,Nat.mul_div_mul_right _ _ (h2 _)]
theorem jB {K:Nat} {L:Int} {N D:Nat} :flq N D (p9 K L N D) < 2 ^K:=by
 unfold p9
 by_cases h:K < bl (flq N D (w7 K L N D))
 ·rw [if_pos h]
  obtain⟨s,hs⟩:∃ s,bl (flq N D (w7 K L N D))=K+s:=⟨bl (flq N D (w7 K L N D))-K,by omega⟩
  rw [hs,show ((K+s:Nat):Int)-K=(s:Int) by omega,lV]
  have:=uO (flq N D (w7 K L N D))
  rw [hs,Nat.pow_add] at this
  exact Nat.div_lt_of_lt_mul (by rw [Nat.mul_comm]; exact this)
 ·rw [if_neg h]
  exact bl_le.1 (by omega)
theorem i0k {m k:Nat} (h:bl m≤k):wl m≤k:=wl_le.2 (Nat.lt_of_lt_of_le (bl_le.1 h) (Nat.pow_le_pow_left (by decide) k))
theorem y0c (n k:Nat):bl (n*2 ^k)≤bl n+k:=by
 refine bl_le.2 ?_
 rw [Nat.pow_add]
 exact Nat.mul_lt_mul_of_pos_right (uO n) (Nat.pow_pos (by decide))
theorem j1b (N:Nat) (e:Int):bl (atA N e)≤bl N+(-e).toNat:=by
 unfold atA
 split
 ·omega
 ·exact y0c _ _
theorem w1a (D:Nat) (e:Int):bl (atB D e)≤bl D+e.toNat:=by
 unfold atB
 split
 ·exact y0c _ _
 ·omega
theorem mW (N D:Nat) (e:Int):bl (flq N D e)≤bl N+(-e).toNat:=Nat.le_trans (p1u (Nat.div_le_self _ _)) (j1b N e)
theorem F4 {K:Nat} {L:Int} {N D:Nat} (hK:K≤53) (hL: -1074≤L∧L≤0) (hN:bl N≤1000000) (hD:bl D≤1000000): -1100000≤w7 K L N D∧w7 K L N D≤1100000∧L≤w7 K L N D:=by
 unfold w7
 split <;> omega
theorem J9 {K:Nat} {L:Int} {N D:Nat} (hK:K≤53) (hL: -1074≤L∧L≤0) (hN:bl N≤1000000) (hD:bl D≤1000000): -1100000≤p9 K L N D∧p9 K L N D≤5000000∧L≤p9 K L N D:=by
 obtain⟨h1,h2,h3⟩:=F4 (D:=D) hK hL hN hD
 have h4:=mW N D (w7 K L N D)
 unfold p9
 split <;> omega
theorem p1l {N D:Nat} {e:Int} (hD:0 < D) (h1:bl N≤1000000) (h2:bl D≤1000000) (he: -10000000≤e∧e≤10000000):d2a (ws W64 N) (ws W64 D) e:=by
 have a:=i0k (j1b N e)
 have b:=i0k (w1a D e)
 have c:=i0k h1
 have d:=i0k h2
 refine⟨Cn.ws _,Cn.ws _,by rw [t8]; exact hD,by show wl _ < _; omega,by show wl _ < _; omega,by rw [t8]; omega,by rw [t8]; omega,by omega,by omega⟩
theorem r9 (N D:Nat) (e:Int):atQ (ws W64 N) (ws W64 D) e=ws W64 (flq N D e):=by unfold atQ; rw [t8,t8]; rfl
theorem t7 (N D:Nat) (e:Int):atH (ws W64 N) (ws W64 D) e=flh N D e:=by unfold atH; rw [t8,t8]; rfl
theorem v1v (N D:Nat) (e:Int):atZ (ws W64 N) (ws W64 D) e=flw N D e:=by unfold atZ; rw [t8,t8]; rfl
theorem i0a (n:Nat):j1y (ws W64 n)=(bl n:Int):=by unfold j1y; rw [t8]
theorem r7 {q:Nat} (h:q < W64):flM (ws W64 q)=(q:Int):=by
 unfold flM a2x
 rw [List.take_length,t8,Nat.mod_eq_of_lt h]
theorem d2u {n:Nat} (h:n < W64):IntKind.u64.wrap (n:Int)=(n:Int):=by
 have h:n < 18446744073709551616:=h
 rw [IntKind.wrap_u64]
 omega
theorem s9 {q:Nat} (h:q+1 < W64):flU (ws W64 q)=((q+1:Nat):Int):=by
 unfold flU
 rw [r7 (by omega)]
 exact d2u (n:=q+1) h
theorem m0 (P m:Nat) (hP:0 < P):flC P (m:Int)=decide (P≤m):=by
 unfold flC
 show decide ((0:Int) < Int.fdiv (m:Int) (P:Int))=_
 rw [← Int.ofNat_fdiv]
 refine decide_eq_decide.2 ?_
 have:0 < m/P↔P≤m:=by rw [Nat.div_pos_iff]; omega
 omega
theorem gL {m:Nat} (h:m < W64):flH (m:Int)=((m/2:Nat):Int):=by
 unfold flH
 have e:Int.tdiv (m:Int) 2=((m/2:Nat):Int):=(Int.ofNat_tdiv m 2).symm
 rw [e]
 exact d2u (by omega)
theorem s6 {q P:Nat} (h:q < W64) (hP:0 < P):flV P (ws W64 q)=decide (q < P):=by
 unfold flV
 rw [r7 h]
 show (Int.fdiv (q:Int) (P:Int)==0)=_
 rw [← Int.ofNat_fdiv]
 by_cases hq:q < P
 ·rw [Nat.div_eq_of_lt hq,decide_eq_true hq]; rfl
 ·rw [decide_eq_false hq]
  refine beq_false_of_ne fun e=>hq ?_
  have e:((q/P:Nat):Int)=0:=e
  have:q/P=0:=by omega
  exact (Nat.div_eq_zero_iff_lt hP).1 this
theorem s7 {q:Nat} (h:Int) (hq:q < W64):flB h (ws W64 q)=upB h q:=by
 unfold flB upB
 rw [r7 hq,p1a hq]
 by_cases h1:0 < h
 ·rw [decide_eq_true (show h > 0 from h1)]; rfl
 ·rw [decide_eq_false (show ¬h > 0 from h1)]
  by_cases h2:h=0
  ·rw [h2]
   show (((q%2:Nat):Int)==1)=(false || (true && decide (q%2=1)))
   by_cases h3:q%2=1
   ·rw [h3]; rfl
   ·rw [decide_eq_false h3]
    exact beq_false_of_ne (by omega)
  ·rw [beq_false_of_ne h2,decide_eq_false h2]; rfl
theorem ap2 {a b:List Prop} (h:d5 a) (k:d5 b):d5 (a++b):=(l6 _ _).2 ⟨h,k⟩
theorem R6 {n:Int} (h0: -9223372036854775808≤n) (h1:n≤9223372036854775807):IntKind.i64.wrap n=n:=by
 have:=IntKind.wrap_i64 n
 omega
theorem rY {K:Nat} {L:Int} {N D:Nat} (hK:K≤53) (hN:bl N≤1000000) (hD:bl D≤1000000):flE K L (ws W64 N) (ws W64 D)=w7 K L N D:=by
 have e:flN K (ws W64 N) (ws W64 D)=(bl N:Int)-bl D-K-2:=by
  unfold flN
  rw [i0a,i0a,R6 (n:=(bl N:Int)-bl D) (by omega) (by omega),R6 (n:=(bl N:Int)-bl D-K) (by omega) (by omega),R6 (by omega) (by omega)]
 unfold flE w7
 rw [e]
theorem c0p {K q:Nat} (hK:K≤53) (h:bl q≤10000000):flO K (ws W64 q)=(bl q:Int)-K:=by
 unfold flO
 rw [i0a,R6 (by omega) (by omega)]
theorem Q1 {N D:Nat} (h1:bl N≤1000000) (h2:bl D≤1000000):d5 (n4 (ws W64 N) (ws W64 D)):=by
 have c:=i0k h1
 have d:=i0k h2
 exact⟨rfl,rfl,Cn.ws _,by show wl _ < _; omega,rfl,Cn.ws _,by show wl _ < _; omega,trivial⟩
theorem N7 {N D:Nat} {e:Int} {w:Bool} (hD:0 < D) (h1:bl N≤1000000) (h2:bl D≤1000000) (he: -10000000≤e∧e≤10000000) (hw:flw N D e=w):d5 (A1 (ws W64 N) (ws W64 D) e w):=
 ⟨rfl,rfl,p1l hD h1 h2 he,by rw [v1v]; exact hw,trivial⟩
theorem fK {K q:Nat} {b:Bool} (hK:K≤53) (h:bl q≤10000000) (hb:decide (K < bl q)=b):d5 (J3 K (ws W64 q) b):=by
 have c:=i0k h
 refine⟨?_,rfl,Cn.ws _,by show wl _ < _; omega,trivial⟩
 rw [c0p hK h,← hb]
 exact decide_eq_decide.2 (by omega)
theorem Y4 (q:Nat):d5 (x3 (ws W64 q)):=⟨Nat.le_refl _,by rw [List.take_length]; exact Cn.ws _,trivial⟩
theorem J6 {K:Nat} {M:Int} {N D:Nat} {e x:Int} {u:Bool} (hu:qT K N D e=u) (hE:pC K N D e=x) (hl:¬x≤M):jT K M N D e=[uR 0,iR 0,bR true,fR true true u] :=by
 have:B1 K M N D e=true:=by unfold B1; rw [hE]; exact decide_eq_true (by omega)
 show (if B1 K M N D e=true then _ else _)=_
 rw [this,if_pos rfl,hu]
theorem J1 {K:Nat} {M:Int} {N D m:Nat} {e x:Int} {u w:Bool} (hw:(!flw N D e)=w) (hu:qT K N D e=u) (hM:qG K N D e=m) (hE:pC K N D e=x) (hl:x≤M):jT K M N D e=[uR ((m:Nat):Int),iR x,bR false,fR w false u] :=by
 have:B1 K M N D e=false:=by unfold B1; rw [hE]; exact decide_eq_false (by omega)
 show (if B1 K M N D e=true then _ else _)=_
 rw [this,if_neg (by decide),hM,hE,hu,hw]
theorem jY {K N D:Nat} {e:Int} (h:d0v N D e=false) (hc:¬2 ^K≤flq N D e):qG K N D e=flq N D e∧pC K N D e=e:=by
 have hm:flm N D e=flq N D e:=by unfold flm; rw [h]; rfl
 unfold qG pC
 rw [hm,if_neg hc,if_neg hc]
 exact⟨rfl,rfl⟩
theorem n0c {K N D:Nat} {e:Int} (h:d0v N D e=true) (hc:2 ^K≤flq N D e+1):qG K N D e=(flq N D e+1)/2∧pC K N D e=e+1:=by
 have hm:flm N D e=flq N D e+1:=by unfold flm; rw [h]; rfl
 unfold qG pC
 rw [hm,if_pos hc,if_pos hc]
 exact⟨rfl,rfl⟩
theorem m0m {K N D:Nat} {e:Int} (h:d0v N D e=true) (hc:¬2 ^K≤flq N D e+1):qG K N D e=flq N D e+1∧pC K N D e=e:=by
 have hm:flm N D e=flq N D e+1:=by unfold flm; rw [h]; rfl
 unfold qG pC
 rw [hm,if_neg hc,if_neg hc]
 exact⟨rfl,rfl⟩
theorem rS {N D:Nat} {e:Int} (hw:flw N D e=true):d0v N D e=false:=by unfold d0v; rw [hw]; rfl
theorem E7 {N D:Nat} {e:Int} {b:Bool} (hw:flw N D e=false) (hu:upB (flh N D e) (flq N D e)=b):d0v N D e=b:=by unfold d0v; rw [hw,hu]; rfl
theorem rA {K N D:Nat} {e:Int} (hw:flw N D e=true):qT K N D e=false:=by unfold qT; rw [hw]; rfl
theorem rN {K N D P:Nat} {e:Int} (hw:flw N D e=false) (hP:2 ^(K-1)=P):qT K N D e=decide (flq N D e < P):=by unfold qT; rw [hw,hP]; rfl
theorem s0w (n:Bool) {N D:Nat} (hD:0 < D) (h1:bl N≤1000000) (h2:bl D≤1000000) (ho:decide (53 < bl (flq N D (w7 53 (-1074) N D)))=false):
  Ev.Sem Tryz.prog J0 77 [vlA n false (ws W64 N) false (ws W64 D),kR 53 (-1074) 971,iR 1] (jT 53 971 N D (p9 53 (-1074) N D)):=by
 have q0:=jB (K:=53) (L:=(-1074)) (N:=N) (D:=D)
 have r0:=F4 (K:=53) (L:=(-1074)) (by decide) (by decide) h1 h2
 have r1:=J9 (K:=53) (L:=(-1074)) (by decide) (by decide) h1 h2
 have hE0:flE 53 (-1074) (ws W64 N) (ws W64 D)=w7 53 (-1074) N D:=rY (K:=53) (by decide) h1 h2
 have hQ0:=r9 N D (w7 53 (-1074) N D)
 have hb0:bl (flq N D (w7 53 (-1074) N D))≤10000000:=by
  have:=mW N D (w7 53 (-1074) N D)
  omega
 have he:p9 53 (-1074) N D=w7 53 (-1074) N D:=by unfold p9; rw [if_neg (of_decide_eq_false ho)]
 rw [he] at q0 r1 ⊢
 replace r0: -10000000≤w7 53 (-1074) N D∧w7 53 (-1074) N D≤10000000:=by omega
 generalize w7 53 (-1074) N D=e at*
 have hq:flq N D e < 9007199254740992:=q0
 have hqW:flq N D e < W64:=Nat.lt_of_lt_of_le hq (by decide)
 have hq1:flq N D e+1 < W64:=Nat.lt_of_le_of_lt hq (by decide)
 have hEw:IntKind.i64.wrap (e+1)=e+1:=R6 (by omega) (by omega)
 have hc0:¬2 ^53≤flq N D e:=by
  show ¬9007199254740992≤flq N D e
  omega
 replace r1:=r0
 have T:=fun {X:List Prop} (h:d5 X) {w:Bool} (hw:flw N D e=w)=>ap2 (ap2 (ap2 (ap2 h (Y4 (flq N D e))) (fK (K:=53) (by decide) hb0 ho)) (N7 hD h1 h2 r0 hw)) (Q1 h1 h2)
 cases hw:flw N D e with
 | true=>
  have hn:(!flw N D e)=false:=by rw [hw]; rfl
  have hUn:=rA (K:=53) hw
  have hc:=hc0
  obtain⟨hM,hE⟩:=jY (rS hw) hc
  by_cases hl:e≤971
  ·
   rw [J1 hn hUn hM hE hl]
   refine l9 i8 10 [] [false,true,false,false,false,true] (f1n n _ _ _ _ _ _ _ _) ?_
   simp only [hE0,hQ0]
   refine ap2 (T (X:=_) ?_ hw) ⟨(by rw [r7 hqW]),rfl,rfl,rfl,rfl,rfl,trivial⟩
   exact⟨decide_eq_true (by omega),(by rw [r7 hqW,m0 _ _ (by decide)]; exact decide_eq_false hc),by decide,trivial,trivial⟩
  ·
   rw [J6 hUn hE hl]
   refine l9 i8 10 [] [false,true,false,false,false,false,false] (h1z n _ _ _ _ _ _ _ _) ?_
   simp only [hE0,hQ0]
   refine ap2 (T (X:=_) ?_ hw) ⟨rfl,rfl,rfl,rfl,rfl,rfl,trivial⟩
   exact⟨trivial,decide_eq_false (by omega),(by rw [r7 hqW,m0 _ _ (by decide)]; exact decide_eq_false hc),by decide,trivial,trivial⟩
 | false=>
  have hn:(!flw N D e)=true:=by rw [hw]; rfl
  have hUn:=rN (K:=53) (P:=4503599627370496) hw rfl
  cases hu:upB (flh N D e) (flq N D e) with
  | false=>
   have hc:=hc0
   obtain⟨hM,hE⟩:=jY (E7 hw hu) hc
   by_cases hl:e≤971
   ·
    rw [J1 hn hUn hM hE hl]
    refine l9 i8 10 [] [false,false,false,false,false,true] (d1i n _ _ _ _ _ _ _ _) ?_
    simp only [hE0,hQ0]
    refine ap2 (T (X:=_) ?_ hw) ⟨(by rw [r7 hqW]),rfl,rfl,rfl,rfl,(by rw [s6 hqW (by decide)]),trivial⟩
    exact⟨decide_eq_true (by omega),(by rw [r7 hqW,m0 _ _ (by decide)]; exact decide_eq_false hc),by decide,(by rw [s7 _ hqW,t7]; exact hu),⟨by decide,by decide⟩,by decide,trivial⟩
   ·
    rw [J6 hUn hE hl]
    refine l9 i8 10 [] [false,false,false,false,false,false,false] (f1c n _ _ _ _ _ _ _ _) ?_
    simp only [hE0,hQ0]
    refine ap2 (T (X:=_) ?_ hw) ⟨rfl,rfl,rfl,rfl,rfl,(by rw [s6 hqW (by decide)]),trivial⟩
    exact⟨trivial,decide_eq_false (by omega),(by rw [r7 hqW,m0 _ _ (by decide)]; exact decide_eq_false hc),by decide,(by rw [s7 _ hqW,t7]; exact hu),⟨by decide,by decide⟩,by decide,trivial⟩
  | true=>
   by_cases hc:2 ^53≤flq N D e+1
   ·obtain⟨hM,hE⟩:=n0c (E7 hw hu) hc
    by_cases hl:e+1≤971
    ·
     rw [J1 hn hUn hM hE hl]
     refine l9 i8 10 [] [false,false,false,true,true,true] (g1w n _ _ _ _ _ _ _ _) ?_
     simp only [hE0,hQ0]
     refine ap2 (T (X:=_) ?_ hw) ⟨(by rw [s9 hq1,gL hq1]),(by rw [hEw]),rfl,rfl,rfl,(by rw [s6 hqW (by decide)]),trivial⟩
     exact⟨(by rw [hEw]; exact decide_eq_true (by omega)),(by rw [s9 hq1,m0 _ _ (by decide)]; exact decide_eq_true hc),by decide,(by rw [s7 _ hqW,t7]; exact hu),⟨by decide,by decide⟩,by decide,trivial⟩
    ·
     rw [J6 hUn hE hl]
     refine l9 i8 10 [] [false,false,false,true,true,false,false] (d1y n _ _ _ _ _ _ _ _) ?_
     simp only [hE0,hQ0]
     refine ap2 (T (X:=_) ?_ hw) ⟨rfl,rfl,rfl,rfl,rfl,(by rw [s6 hqW (by decide)]),trivial⟩
     exact⟨trivial,(by rw [hEw]; exact decide_eq_false (by omega)),(by rw [s9 hq1,m0 _ _ (by decide)]; exact decide_eq_true hc),by decide,(by rw [s7 _ hqW,t7]; exact hu),⟨by decide,by decide⟩,by decide,trivial⟩
   ·obtain⟨hM,hE⟩:=m0m (E7 hw hu) hc
    by_cases hl:e≤971
    ·
     rw [J1 hn hUn hM hE hl]
     refine l9 i8 10 [] [false,false,false,true,false,true] (h1f n _ _ _ _ _ _ _ _) ?_
     simp only [hE0,hQ0]
     refine ap2 (T (X:=_) ?_ hw) ⟨(by rw [s9 hq1]),rfl,rfl,rfl,rfl,(by rw [s6 hqW (by decide)]),trivial⟩
     exact⟨decide_eq_true (by omega),(by rw [s9 hq1,m0 _ _ (by decide)]; exact decide_eq_false hc),by decide,(by rw [s7 _ hqW,t7]; exact hu),⟨by decide,by decide⟩,by decide,trivial⟩
    ·
     rw [J6 hUn hE hl]
     refine l9 i8 10 [] [false,false,false,true,false,false,false] (e1c n _ _ _ _ _ _ _ _) ?_
     simp only [hE0,hQ0]
     refine ap2 (T (X:=_) ?_ hw) ⟨rfl,rfl,rfl,rfl,rfl,(by rw [s6 hqW (by decide)]),trivial⟩
     exact⟨trivial,decide_eq_false (by omega),(by rw [s9 hq1,m0 _ _ (by decide)]; exact decide_eq_false hc),by decide,(by rw [s7 _ hqW,t7]; exact hu),⟨by decide,by decide⟩,by decide,trivial⟩
theorem a1r (n:Bool) {N D:Nat} (hD:0 < D) (h1:bl N≤1000000) (h2:bl D≤1000000) (ho:decide (53 < bl (flq N D (w7 53 (-1074) N D)))=true) (hw0:flw N D (w7 53 (-1074) N D)=true):
  Ev.Sem Tryz.prog J0 77 [vlA n false (ws W64 N) false (ws W64 D),kR 53 (-1074) 971,iR 1] (jT 53 971 N D (p9 53 (-1074) N D)):=by
 have q0:=jB (K:=53) (L:=(-1074)) (N:=N) (D:=D)
 have r0:=F4 (K:=53) (L:=(-1074)) (by decide) (by decide) h1 h2
 have r1:=J9 (K:=53) (L:=(-1074)) (by decide) (by decide) h1 h2
 have hE0:flE 53 (-1074) (ws W64 N) (ws W64 D)=w7 53 (-1074) N D:=rY (K:=53) (by decide) h1 h2
 have hQ0:=r9 N D (w7 53 (-1074) N D)
 have hb0:bl (flq N D (w7 53 (-1074) N D))≤10000000:=by
  have:=mW N D (w7 53 (-1074) N D)
  omega
 have he:p9 53 (-1074) N D=w7 53 (-1074) N D+((bl (flq N D (w7 53 (-1074) N D)):Int)- (53:Nat)):=by unfold p9; rw [if_pos (of_decide_eq_true ho)]
 have hE1:IntKind.i64.wrap (w7 53 (-1074) N D+flO 53 (ws W64 (flq N D (w7 53 (-1074) N D))))=p9 53 (-1074) N D:=by
  have hO:flO 53 (ws W64 (flq N D (w7 53 (-1074) N D)))=(bl (flq N D (w7 53 (-1074) N D)):Int)- (53:Nat):=c0p (K:=53) (by decide) hb0
  rw [hO,← he,R6 (by omega) (by omega)]
 replace r0: -10000000≤w7 53 (-1074) N D∧w7 53 (-1074) N D≤10000000:=by omega
 replace r1: -10000000≤p9 53 (-1074) N D∧p9 53 (-1074) N D≤10000000:=by omega
 clear he
 generalize p9 53 (-1074) N D=e at*
 have hq:flq N D e < 9007199254740992:=q0
 have hqW:flq N D e < W64:=Nat.lt_of_lt_of_le hq (by decide)
 have hq1:flq N D e+1 < W64:=Nat.lt_of_le_of_lt hq (by decide)
 have hEw:IntKind.i64.wrap (e+1)=e+1:=R6 (by omega) (by omega)
 have hc0:¬2 ^53≤flq N D e:=by
  show ¬9007199254740992≤flq N D e
  omega
 have T:=fun {X:List Prop} (h:d5 X) {w:Bool} (hw:flw N D e=w)=>ap2 (ap2 (ap2 (ap2 (ap2 h (Y4 (flq N D e))) (N7 hD h1 h2 r1 hw)) (fK (K:=53) (by decide) hb0 ho)) (N7 hD h1 h2 r0 hw0)) (Q1 h1 h2)
 cases hw:flw N D e with
 | true=>
  have hn:(!flw N D e)=false:=by rw [hw]; rfl
  have hUn:=rA (K:=53) hw
  have hc:=hc0
  obtain⟨hM,hE⟩:=jY (rS hw) hc
  by_cases hl:e≤971
  ·
   rw [J1 hn hUn hM hE hl]
   refine l9 i8 10 [] [false,true,true,true,false,false,true] (v0r n _ _ _ _ _ _ _ _) ?_
   simp only [hE0,hQ0,hE1,r9]
   refine ap2 (T (X:=_) ?_ hw) ⟨(by rw [r7 hqW]),rfl,rfl,rfl,rfl,rfl,trivial⟩
   exact⟨decide_eq_true (by omega),(by rw [r7 hqW,m0 _ _ (by decide)]; exact decide_eq_false hc),by decide,trivial,trivial⟩
  ·
   rw [J6 hUn hE hl]
   refine l9 i8 10 [] [false,true,true,true,false,false,false,false] (p0v n _ _ _ _ _ _ _ _) ?_
   simp only [hE0,hQ0,hE1,r9]
   refine ap2 (T (X:=_) ?_ hw) ⟨rfl,rfl,rfl,rfl,rfl,rfl,trivial⟩
   exact⟨trivial,decide_eq_false (by omega),(by rw [r7 hqW,m0 _ _ (by decide)]; exact decide_eq_false hc),by decide,trivial,trivial⟩
 | false=>
  have hn:(!flw N D e)=true:=by rw [hw]; rfl
  have hUn:=rN (K:=53) (P:=4503599627370496) hw rfl
  cases hu:upB (flh N D e) (flq N D e) with
  | false=>
   have hc:=hc0
   obtain⟨hM,hE⟩:=jY (E7 hw hu) hc
   by_cases hl:e≤971
   ·
    rw [J1 hn hUn hM hE hl]
    refine l9 i8 10 [] [false,true,true,false,false,false,true] (v0l n _ _ _ _ _ _ _ _) ?_
    simp only [hE0,hQ0,hE1,r9]
    refine ap2 (T (X:=_) ?_ hw) ⟨(by rw [r7 hqW]),rfl,rfl,rfl,rfl,(by rw [s6 hqW (by decide)]),trivial⟩
    exact⟨decide_eq_true (by omega),(by rw [r7 hqW,m0 _ _ (by decide)]; exact decide_eq_false hc),by decide,(by rw [s7 _ hqW,t7]; exact hu),⟨by decide,by decide⟩,by decide,trivial⟩
   ·
    rw [J6 hUn hE hl]
    refine l9 i8 10 [] [false,true,true,false,false,false,false,false] (x0x n _ _ _ _ _ _ _ _) ?_
    simp only [hE0,hQ0,hE1,r9]
    refine ap2 (T (X:=_) ?_ hw) ⟨rfl,rfl,rfl,rfl,rfl,(by rw [s6 hqW (by decide)]),trivial⟩
    exact⟨trivial,decide_eq_false (by omega),(by rw [r7 hqW,m0 _ _ (by decide)]; exact decide_eq_false hc),by decide,(by rw [s7 _ hqW,t7]; exact hu),⟨by decide,by decide⟩,by decide,trivial⟩
  | true=>
   by_cases hc:2 ^53≤flq N D e+1
   ·obtain⟨hM,hE⟩:=n0c (E7 hw hu) hc
    by_cases hl:e+1≤971
    ·
     rw [J1 hn hUn hM hE hl]
     refine l9 i8 10 [] [false,true,true,false,true,true,true] (v0p n _ _ _ _ _ _ _ _) ?_
     simp only [hE0,hQ0,hE1,r9]
     refine ap2 (T (X:=_) ?_ hw) ⟨(by rw [s9 hq1,gL hq1]),(by rw [hEw]),rfl,rfl,rfl,(by rw [s6 hqW (by decide)]),trivial⟩
     exact⟨(by rw [hEw]; exact decide_eq_true (by omega)),(by rw [s9 hq1,m0 _ _ (by decide)]; exact decide_eq_true hc),by decide,(by rw [s7 _ hqW,t7]; exact hu),⟨by decide,by decide⟩,by decide,trivial⟩
    ·
     rw [J6 hUn hE hl]
     refine l9 i8 10 [] [false,true,true,false,true,true,false,false] (z0u n _ _ _ _ _ _ _ _) ?_
     simp only [hE0,hQ0,hE1,r9]
     refine ap2 (T (X:=_) ?_ hw) ⟨rfl,rfl,rfl,rfl,rfl,(by rw [s6 hqW (by decide)]),trivial⟩
     exact⟨trivial,(by rw [hEw]; exact decide_eq_false (by omega)),(by rw [s9 hq1,m0 _ _ (by decide)]; exact decide_eq_true hc),by decide,(by rw [s7 _ hqW,t7]; exact hu),⟨by decide,by decide⟩,by decide,trivial⟩
   ·obtain⟨hM,hE⟩:=m0m (E7 hw hu) hc
    by_cases hl:e≤971
    ·
     rw [J1 hn hUn hM hE hl]
     refine l9 i8 10 [] [false,true,true,false,true,false,true] (v0h n _ _ _ _ _ _ _ _) ?_
     simp only [hE0,hQ0,hE1,r9]
     refine ap2 (T (X:=_) ?_ hw) ⟨(by rw [s9 hq1]),rfl,rfl,rfl,rfl,(by rw [s6 hqW (by decide)]),trivial⟩
     exact⟨decide_eq_true (by omega),(by rw [s9 hq1,m0 _ _ (by decide)]; exact decide_eq_false hc),by decide,(by rw [s7 _ hqW,t7]; exact hu),⟨by decide,by decide⟩,by decide,trivial⟩
    ·
     rw [J6 hUn hE hl]
     refine l9 i8 10 [] [false,true,true,false,true,false,false,false] (z0v n _ _ _ _ _ _ _ _) ?_
     simp only [hE0,hQ0,hE1,r9]
     refine ap2 (T (X:=_) ?_ hw) ⟨rfl,rfl,rfl,rfl,rfl,(by rw [s6 hqW (by decide)]),trivial⟩
     exact⟨trivial,decide_eq_false (by omega),(by rw [s9 hq1,m0 _ _ (by decide)]; exact decide_eq_false hc),by decide,(by rw [s7 _ hqW,t7]; exact hu),⟨by decide,by decide⟩,by decide,trivial⟩
theorem x0u (n:Bool) {N D:Nat} (hD:0 < D) (h1:bl N≤1000000) (h2:bl D≤1000000) (ho:decide (53 < bl (flq N D (w7 53 (-1074) N D)))=true) (hw0:flw N D (w7 53 (-1074) N D)=false):
  Ev.Sem Tryz.prog J0 77 [vlA n false (ws W64 N) false (ws W64 D),kR 53 (-1074) 971,iR 1] (jT 53 971 N D (p9 53 (-1074) N D)):=by
 have q0:=jB (K:=53) (L:=(-1074)) (N:=N) (D:=D)
 have r0:=F4 (K:=53) (L:=(-1074)) (by decide) (by decide) h1 h2
 have r1:=J9 (K:=53) (L:=(-1074)) (by decide) (by decide) h1 h2
 have hE0:flE 53 (-1074) (ws W64 N) (ws W64 D)=w7 53 (-1074) N D:=rY (K:=53) (by decide) h1 h2
 have hQ0:=r9 N D (w7 53 (-1074) N D)
 have hb0:bl (flq N D (w7 53 (-1074) N D))≤10000000:=by
  have:=mW N D (w7 53 (-1074) N D)
  omega
 have he:p9 53 (-1074) N D=w7 53 (-1074) N D+((bl (flq N D (w7 53 (-1074) N D)):Int)- (53:Nat)):=by unfold p9; rw [if_pos (of_decide_eq_true ho)]
 have hE1:IntKind.i64.wrap (w7 53 (-1074) N D+flO 53 (ws W64 (flq N D (w7 53 (-1074) N D))))=p9 53 (-1074) N D:=by
  have hO:flO 53 (ws W64 (flq N D (w7 53 (-1074) N D)))=(bl (flq N D (w7 53 (-1074) N D)):Int)- (53:Nat):=c0p (K:=53) (by decide) hb0
  rw [hO,← he,R6 (by omega) (by omega)]
 replace r0: -10000000≤w7 53 (-1074) N D∧w7 53 (-1074) N D≤10000000:=by omega
 replace r1: -10000000≤p9 53 (-1074) N D∧p9 53 (-1074) N D≤10000000:=by omega
 clear he
 generalize p9 53 (-1074) N D=e at*
 have hq:flq N D e < 9007199254740992:=q0
 have hqW:flq N D e < W64:=Nat.lt_of_lt_of_le hq (by decide)
 have hq1:flq N D e+1 < W64:=Nat.lt_of_le_of_lt hq (by decide)
 have hEw:IntKind.i64.wrap (e+1)=e+1:=R6 (by omega) (by omega)
 have hc0:¬2 ^53≤flq N D e:=by
  show ¬9007199254740992≤flq N D e
  omega
 have T:=fun {X:List Prop} (h:d5 X) {w:Bool} (hw:flw N D e=w)=>ap2 (ap2 (ap2 (ap2 (ap2 h (Y4 (flq N D e))) (N7 hD h1 h2 r1 hw)) (fK (K:=53) (by decide) hb0 ho)) (N7 hD h1 h2 r0 hw0)) (Q1 h1 h2)
 cases hw:flw N D e with
 | true=>
  have hn:(!flw N D e)=false:=by rw [hw]; rfl
  have hUn:=rA (K:=53) hw
  have hc:=hc0
  obtain⟨hM,hE⟩:=jY (rS hw) hc
  by_cases hl:e≤971
  ·
   rw [J1 hn hUn hM hE hl]
   refine l9 i8 10 [] [false,false,true,true,false,false,true] (s0c n _ _ _ _ _ _ _ _) ?_
   simp only [hE0,hQ0,hE1,r9]
   refine ap2 (T (X:=_) ?_ hw) ⟨(by rw [r7 hqW]),rfl,rfl,rfl,rfl,rfl,trivial⟩
   exact⟨decide_eq_true (by omega),(by rw [r7 hqW,m0 _ _ (by decide)]; exact decide_eq_false hc),by decide,trivial,trivial⟩
  ·
   rw [J6 hUn hE hl]
   refine l9 i8 10 [] [false,false,true,true,false,false,false,false] (q0g n _ _ _ _ _ _ _ _) ?_
   simp only [hE0,hQ0,hE1,r9]
   refine ap2 (T (X:=_) ?_ hw) ⟨rfl,rfl,rfl,rfl,rfl,rfl,trivial⟩
   exact⟨trivial,decide_eq_false (by omega),(by rw [r7 hqW,m0 _ _ (by decide)]; exact decide_eq_false hc),by decide,trivial,trivial⟩
 | false=>
  have hn:(!flw N D e)=true:=by rw [hw]; rfl
  have hUn:=rN (K:=53) (P:=4503599627370496) hw rfl
  cases hu:upB (flh N D e) (flq N D e) with
  | false=>
   have hc:=hc0
   obtain⟨hM,hE⟩:=jY (E7 hw hu) hc
   by_cases hl:e≤971
   ·
    rw [J1 hn hUn hM hE hl]
    refine l9 i8 10 [] [false,false,true,false,false,false,true] (a1y n _ _ _ _ _ _ _ _) ?_
    simp only [hE0,hQ0,hE1,r9]
    refine ap2 (T (X:=_) ?_ hw) ⟨(by rw [r7 hqW]),rfl,rfl,rfl,rfl,(by rw [s6 hqW (by decide)]),trivial⟩
    exact⟨decide_eq_true (by omega),(by rw [r7 hqW,m0 _ _ (by decide)]; exact decide_eq_false hc),by decide,(by rw [s7 _ hqW,t7]; exact hu),⟨by decide,by decide⟩,by decide,trivial⟩
   ·
    rw [J6 hUn hE hl]
    refine l9 i8 10 [] [false,false,true,false,false,false,false,false] (q0s n _ _ _ _ _ _ _ _) ?_
    simp only [hE0,hQ0,hE1,r9]
    refine ap2 (T (X:=_) ?_ hw) ⟨rfl,rfl,rfl,rfl,rfl,(by rw [s6 hqW (by decide)]),trivial⟩
    exact⟨trivial,decide_eq_false (by omega),(by rw [r7 hqW,m0 _ _ (by decide)]; exact decide_eq_false hc),by decide,(by rw [s7 _ hqW,t7]; exact hu),⟨by decide,by decide⟩,by decide,trivial⟩
  | true=>
   by_cases hc:2 ^53≤flq N D e+1
   ·obtain⟨hM,hE⟩:=n0c (E7 hw hu) hc
    by_cases hl:e+1≤971
    ·
     rw [J1 hn hUn hM hE hl]
     refine l9 i8 10 [] [false,false,true,false,true,true,true] (r0u n _ _ _ _ _ _ _ _) ?_
     simp only [hE0,hQ0,hE1,r9]
     refine ap2 (T (X:=_) ?_ hw) ⟨(by rw [s9 hq1,gL hq1]),(by rw [hEw]),rfl,rfl,rfl,(by rw [s6 hqW (by decide)]),trivial⟩
     exact⟨(by rw [hEw]; exact decide_eq_true (by omega)),(by rw [s9 hq1,m0 _ _ (by decide)]; exact decide_eq_true hc),by decide,(by rw [s7 _ hqW,t7]; exact hu),⟨by decide,by decide⟩,by decide,trivial⟩
    ·
     rw [J6 hUn hE hl]
     refine l9 i8 10 [] [false,false,true,false,true,true,false,false] (a1n n _ _ _ _ _ _ _ _) ?_
     simp only [hE0,hQ0,hE1,r9]
     refine ap2 (T (X:=_) ?_ hw) ⟨rfl,rfl,rfl,rfl,rfl,(by rw [s6 hqW (by decide)]),trivial⟩
     exact⟨trivial,(by rw [hEw]; exact decide_eq_false (by omega)),(by rw [s9 hq1,m0 _ _ (by decide)]; exact decide_eq_true hc),by decide,(by rw [s7 _ hqW,t7]; exact hu),⟨by decide,by decide⟩,by decide,trivial⟩
   ·obtain⟨hM,hE⟩:=m0m (E7 hw hu) hc
    by_cases hl:e≤971
    ·
     rw [J1 hn hUn hM hE hl]
     refine l9 i8 10 [] [false,false,true,false,true,false,true] (s0j n _ _ _ _ _ _ _ _) ?_
     simp only [hE0,hQ0,hE1,r9]
     refine ap2 (T (X:=_) ?_ hw) ⟨(by rw [s9 hq1]),rfl,rfl,rfl,rfl,(by rw [s6 hqW (by decide)]),trivial⟩
     exact⟨decide_eq_true (by omega),(by rw [s9 hq1,m0 _ _ (by decide)]; exact decide_eq_false hc),by decide,(by rw [s7 _ hqW,t7]; exact hu),⟨by decide,by decide⟩,by decide,trivial⟩
    ·
     rw [J6 hUn hE hl]
     refine l9 i8 10 [] [false,false,true,false,true,false,false,false] (t0p n _ _ _ _ _ _ _ _) ?_
     simp only [hE0,hQ0,hE1,r9]
     refine ap2 (T (X:=_) ?_ hw) ⟨rfl,rfl,rfl,rfl,rfl,(by rw [s6 hqW (by decide)]),trivial⟩
     exact⟨trivial,decide_eq_false (by omega),(by rw [s9 hq1,m0 _ _ (by decide)]; exact decide_eq_false hc),by decide,(by rw [s7 _ hqW,t7]; exact hu),⟨by decide,by decide⟩,by decide,trivial⟩
theorem f0p (n:Bool) {N D:Nat} (hD:0 < D) (h1:bl N≤1000000) (h2:bl D≤1000000):
  Ev.Sem Tryz.prog J0 77 [vlA n false (ws W64 N) false (ws W64 D),kR 53 (-1074) 971,iR 1] (jT 53 971 N D (p9 53 (-1074) N D)):=by
 cases ho:decide (53 < bl (flq N D (w7 53 (-1074) N D))) with
 | false=>exact s0w n hD h1 h2 ho
 | true=>
  cases hw:flw N D (w7 53 (-1074) N D) with
  | true=>exact a1r n hD h1 h2 ho hw
  | false=>exact x0u n hD h1 h2 ho hw
theorem c1a (n:Bool) {N D:Nat} (hD:0 < D) (h1:bl N≤1000000) (h2:bl D≤1000000) (ho:decide (24 < bl (flq N D (w7 24 (-149) N D)))=false):
  Ev.Sem Tryz.prog J0 77 [vlA n false (ws W64 N) false (ws W64 D),kR 24 (-149) 104,iR 1] (jT 24 104 N D (p9 24 (-149) N D)):=by
 have q0:=jB (K:=24) (L:=(-149)) (N:=N) (D:=D)
 have r0:=F4 (K:=24) (L:=(-149)) (by decide) (by decide) h1 h2
 have r1:=J9 (K:=24) (L:=(-149)) (by decide) (by decide) h1 h2
 have hE0:flE 24 (-149) (ws W64 N) (ws W64 D)=w7 24 (-149) N D:=rY (K:=24) (by decide) h1 h2
 have hQ0:=r9 N D (w7 24 (-149) N D)
 have hb0:bl (flq N D (w7 24 (-149) N D))≤10000000:=by
  have:=mW N D (w7 24 (-149) N D)
  omega
 have he:p9 24 (-149) N D=w7 24 (-149) N D:=by unfold p9; rw [if_neg (of_decide_eq_false ho)]
 rw [he] at q0 r1 ⊢
 replace r0: -10000000≤w7 24 (-149) N D∧w7 24 (-149) N D≤10000000:=by omega
 generalize w7 24 (-149) N D=e at*
 have hq:flq N D e < 16777216:=q0
 have hqW:flq N D e < W64:=Nat.lt_of_lt_of_le hq (by decide)
 have hq1:flq N D e+1 < W64:=Nat.lt_of_le_of_lt hq (by decide)
 have hEw:IntKind.i64.wrap (e+1)=e+1:=R6 (by omega) (by omega)
 have hc0:¬2 ^24≤flq N D e:=by
  show ¬16777216≤flq N D e
  omega
 replace r1:=r0
 have T:=fun {X:List Prop} (h:d5 X) {w:Bool} (hw:flw N D e=w)=>ap2 (ap2 (ap2 (ap2 h (Y4 (flq N D e))) (fK (K:=24) (by decide) hb0 ho)) (N7 hD h1 h2 r0 hw)) (Q1 h1 h2)
 cases hw:flw N D e with
 | true=>
  have hn:(!flw N D e)=false:=by rw [hw]; rfl
  have hUn:=rA (K:=24) hw
  have hc:=hc0
  obtain⟨hM,hE⟩:=jY (rS hw) hc
  by_cases hl:e≤104
  ·
   rw [J1 hn hUn hM hE hl]
   refine l9 i8 10 [] [false,true,false,false,false,true] (g1e n _ _ _ _ _ _ _ _) ?_
   simp only [hE0,hQ0]
   refine ap2 (T (X:=_) ?_ hw) ⟨(by rw [r7 hqW]),rfl,rfl,rfl,rfl,rfl,trivial⟩
   exact⟨decide_eq_true (by omega),(by rw [r7 hqW,m0 _ _ (by decide)]; exact decide_eq_false hc),by decide,trivial,trivial⟩
  ·
   rw [J6 hUn hE hl]
   refine l9 i8 10 [] [false,true,false,false,false,false,false] (f1r n _ _ _ _ _ _ _ _) ?_
   simp only [hE0,hQ0]
   refine ap2 (T (X:=_) ?_ hw) ⟨rfl,rfl,rfl,rfl,rfl,rfl,trivial⟩
   exact⟨trivial,decide_eq_false (by omega),(by rw [r7 hqW,m0 _ _ (by decide)]; exact decide_eq_false hc),by decide,trivial,trivial⟩
 | false=>
  have hn:(!flw N D e)=true:=by rw [hw]; rfl
  have hUn:=rN (K:=24) (P:=8388608) hw rfl
  cases hu:upB (flh N D e) (flq N D e) with
  | false=>
   have hc:=hc0
   obtain⟨hM,hE⟩:=jY (E7 hw hu) hc
   by_cases hl:e≤104
   ·
    rw [J1 hn hUn hM hE hl]
    refine l9 i8 10 [] [false,false,false,false,false,true] (e1u n _ _ _ _ _ _ _ _) ?_
    simp only [hE0,hQ0]
    refine ap2 (T (X:=_) ?_ hw) ⟨(by rw [r7 hqW]),rfl,rfl,rfl,rfl,(by rw [s6 hqW (by decide)]),trivial⟩
    exact⟨decide_eq_true (by omega),(by rw [r7 hqW,m0 _ _ (by decide)]; exact decide_eq_false hc),by decide,(by rw [s7 _ hqW,t7]; exact hu),⟨by decide,by decide⟩,by decide,trivial⟩
   ·
    rw [J6 hUn hE hl]
    refine l9 i8 10 [] [false,false,false,false,false,false,false] (h1x n _ _ _ _ _ _ _ _) ?_
    simp only [hE0,hQ0]
    refine ap2 (T (X:=_) ?_ hw) ⟨rfl,rfl,rfl,rfl,rfl,(by rw [s6 hqW (by decide)]),trivial⟩
    exact⟨trivial,decide_eq_false (by omega),(by rw [r7 hqW,m0 _ _ (by decide)]; exact decide_eq_false hc),by decide,(by rw [s7 _ hqW,t7]; exact hu),⟨by decide,by decide⟩,by decide,trivial⟩
  | true=>
   by_cases hc:2 ^24≤flq N D e+1
   ·obtain⟨hM,hE⟩:=n0c (E7 hw hu) hc
    by_cases hl:e+1≤104
    ·
     rw [J1 hn hUn hM hE hl]
     refine l9 i8 10 [] [false,false,false,true,true,true] (e1p n _ _ _ _ _ _ _ _) ?_
     simp only [hE0,hQ0]
     refine ap2 (T (X:=_) ?_ hw) ⟨(by rw [s9 hq1,gL hq1]),(by rw [hEw]),rfl,rfl,rfl,(by rw [s6 hqW (by decide)]),trivial⟩
     exact⟨(by rw [hEw]; exact decide_eq_true (by omega)),(by rw [s9 hq1,m0 _ _ (by decide)]; exact decide_eq_true hc),by decide,(by rw [s7 _ hqW,t7]; exact hu),⟨by decide,by decide⟩,by decide,trivial⟩
    ·
     rw [J6 hUn hE hl]
     refine l9 i8 10 [] [false,false,false,true,true,false,false] (d1a n _ _ _ _ _ _ _ _) ?_
     simp only [hE0,hQ0]
     refine ap2 (T (X:=_) ?_ hw) ⟨rfl,rfl,rfl,rfl,rfl,(by rw [s6 hqW (by decide)]),trivial⟩
     exact⟨trivial,(by rw [hEw]; exact decide_eq_false (by omega)),(by rw [s9 hq1,m0 _ _ (by decide)]; exact decide_eq_true hc),by decide,(by rw [s7 _ hqW,t7]; exact hu),⟨by decide,by decide⟩,by decide,trivial⟩
   ·obtain⟨hM,hE⟩:=m0m (E7 hw hu) hc
    by_cases hl:e≤104
    ·
     rw [J1 hn hUn hM hE hl]
     refine l9 i8 10 [] [false,false,false,true,false,true] (f1t n _ _ _ _ _ _ _ _) ?_
     simp only [hE0,hQ0]
     refine ap2 (T (X:=_) ?_ hw) ⟨(by rw [s9 hq1]),rfl,rfl,rfl,rfl,(by rw [s6 hqW (by decide)]),trivial⟩
     exact⟨decide_eq_true (by omega),(by rw [s9 hq1,m0 _ _ (by decide)]; exact decide_eq_false hc),by decide,(by rw [s7 _ hqW,t7]; exact hu),⟨by decide,by decide⟩,by decide,trivial⟩
    ·
     rw [J6 hUn hE hl]
     refine l9 i8 10 [] [false,false,false,true,false,false,false] (e1v n _ _ _ _ _ _ _ _) ?_
     simp only [hE0,hQ0]
     refine ap2 (T (X:=_) ?_ hw) ⟨rfl,rfl,rfl,rfl,rfl,(by rw [s6 hqW (by decide)]),trivial⟩
     exact⟨trivial,decide_eq_false (by omega),(by rw [s9 hq1,m0 _ _ (by decide)]; exact decide_eq_false hc),by decide,(by rw [s7 _ hqW,t7]; exact hu),⟨by decide,by decide⟩,by decide,trivial⟩
theorem u0i (n:Bool) {N D:Nat} (hD:0 < D) (h1:bl N≤1000000) (h2:bl D≤1000000) (ho:decide (24 < bl (flq N D (w7 24 (-149) N D)))=true) (hw0:flw N D (w7 24 (-149) N D)=true):
  Ev.Sem Tryz.prog J0 77 [vlA n false (ws W64 N) false (ws W64 D),kR 24 (-149) 104,iR 1] (jT 24 104 N D (p9 24 (-149) N D)):=by
 have q0:=jB (K:=24) (L:=(-149)) (N:=N) (D:=D)
 have r0:=F4 (K:=24) (L:=(-149)) (by decide) (by decide) h1 h2
 have r1:=J9 (K:=24) (L:=(-149)) (by decide) (by decide) h1 h2
 have hE0:flE 24 (-149) (ws W64 N) (ws W64 D)=w7 24 (-149) N D:=rY (K:=24) (by decide) h1 h2
 have hQ0:=r9 N D (w7 24 (-149) N D)
 have hb0:bl (flq N D (w7 24 (-149) N D))≤10000000:=by
  have:=mW N D (w7 24 (-149) N D)
  omega
 have he:p9 24 (-149) N D=w7 24 (-149) N D+((bl (flq N D (w7 24 (-149) N D)):Int)- (24:Nat)):=by unfold p9; rw [if_pos (of_decide_eq_true ho)]
 have hE1:IntKind.i64.wrap (w7 24 (-149) N D+flO 24 (ws W64 (flq N D (w7 24 (-149) N D))))=p9 24 (-149) N D:=by
  have hO:flO 24 (ws W64 (flq N D (w7 24 (-149) N D)))=(bl (flq N D (w7 24 (-149) N D)):Int)- (24:Nat):=c0p (K:=24) (by decide) hb0
  rw [hO,← he,R6 (by omega) (by omega)]
 replace r0: -10000000≤w7 24 (-149) N D∧w7 24 (-149) N D≤10000000:=by omega
 replace r1: -10000000≤p9 24 (-149) N D∧p9 24 (-149) N D≤10000000:=by omega
 clear he
 generalize p9 24 (-149) N D=e at*
 have hq:flq N D e < 16777216:=q0
 have hqW:flq N D e < W64:=Nat.lt_of_lt_of_le hq (by decide)
 have hq1:flq N D e+1 < W64:=Nat.lt_of_le_of_lt hq (by decide)
 have hEw:IntKind.i64.wrap (e+1)=e+1:=R6 (by omega) (by omega)
 have hc0:¬2 ^24≤flq N D e:=by
  show ¬16777216≤flq N D e
  omega
 have T:=fun {X:List Prop} (h:d5 X) {w:Bool} (hw:flw N D e=w)=>ap2 (ap2 (ap2 (ap2 (ap2 h (Y4 (flq N D e))) (N7 hD h1 h2 r1 hw)) (fK (K:=24) (by decide) hb0 ho)) (N7 hD h1 h2 r0 hw0)) (Q1 h1 h2)
 cases hw:flw N D e with
 | true=>
  have hn:(!flw N D e)=false:=by rw [hw]; rfl
  have hUn:=rA (K:=24) hw
  have hc:=hc0
  obtain⟨hM,hE⟩:=jY (rS hw) hc
  by_cases hl:e≤104
  ·
   rw [J1 hn hUn hM hE hl]
   refine l9 i8 10 [] [false,true,true,true,false,false,true] (a1m n _ _ _ _ _ _ _ _) ?_
   simp only [hE0,hQ0,hE1,r9]
   refine ap2 (T (X:=_) ?_ hw) ⟨(by rw [r7 hqW]),rfl,rfl,rfl,rfl,rfl,trivial⟩
   exact⟨decide_eq_true (by omega),(by rw [r7 hqW,m0 _ _ (by decide)]; exact decide_eq_false hc),by decide,trivial,trivial⟩
  ·
   rw [J6 hUn hE hl]
   refine l9 i8 10 [] [false,true,true,true,false,false,false,false] (y0r n _ _ _ _ _ _ _ _) ?_
   simp only [hE0,hQ0,hE1,r9]
   refine ap2 (T (X:=_) ?_ hw) ⟨rfl,rfl,rfl,rfl,rfl,rfl,trivial⟩
   exact⟨trivial,decide_eq_false (by omega),(by rw [r7 hqW,m0 _ _ (by decide)]; exact decide_eq_false hc),by decide,trivial,trivial⟩
 | false=>
  have hn:(!flw N D e)=true:=by rw [hw]; rfl
  have hUn:=rN (K:=24) (P:=8388608) hw rfl
  cases hu:upB (flh N D e) (flq N D e) with
  | false=>
   have hc:=hc0
   obtain⟨hM,hE⟩:=jY (E7 hw hu) hc
   by_cases hl:e≤104
   ·
    rw [J1 hn hUn hM hE hl]
    refine l9 i8 10 [] [false,true,true,false,false,false,true] (b1x n _ _ _ _ _ _ _ _) ?_
    simp only [hE0,hQ0,hE1,r9]
    refine ap2 (T (X:=_) ?_ hw) ⟨(by rw [r7 hqW]),rfl,rfl,rfl,rfl,(by rw [s6 hqW (by decide)]),trivial⟩
    exact⟨decide_eq_true (by omega),(by rw [r7 hqW,m0 _ _ (by decide)]; exact decide_eq_false hc),by decide,(by rw [s7 _ hqW,t7]; exact hu),⟨by decide,by decide⟩,by decide,trivial⟩
   ·
    rw [J6 hUn hE hl]
    refine l9 i8 10 [] [false,true,true,false,false,false,false,false] (y0z n _ _ _ _ _ _ _ _) ?_
    simp only [hE0,hQ0,hE1,r9]
    refine ap2 (T (X:=_) ?_ hw) ⟨rfl,rfl,rfl,rfl,rfl,(by rw [s6 hqW (by decide)]),trivial⟩
    exact⟨trivial,decide_eq_false (by omega),(by rw [r7 hqW,m0 _ _ (by decide)]; exact decide_eq_false hc),by decide,(by rw [s7 _ hqW,t7]; exact hu),⟨by decide,by decide⟩,by decide,trivial⟩
  | true=>
   by_cases hc:2 ^24≤flq N D e+1
   ·obtain⟨hM,hE⟩:=n0c (E7 hw hu) hc
    by_cases hl:e+1≤104
    ·
     rw [J1 hn hUn hM hE hl]
     refine l9 i8 10 [] [false,true,true,false,true,true,true] (s0b n _ _ _ _ _ _ _ _) ?_
     simp only [hE0,hQ0,hE1,r9]
     refine ap2 (T (X:=_) ?_ hw) ⟨(by rw [s9 hq1,gL hq1]),(by rw [hEw]),rfl,rfl,rfl,(by rw [s6 hqW (by decide)]),trivial⟩
     exact⟨(by rw [hEw]; exact decide_eq_true (by omega)),(by rw [s9 hq1,m0 _ _ (by decide)]; exact decide_eq_true hc),by decide,(by rw [s7 _ hqW,t7]; exact hu),⟨by decide,by decide⟩,by decide,trivial⟩
    ·
     rw [J6 hUn hE hl]
     refine l9 i8 10 [] [false,true,true,false,true,true,false,false] (y0g n _ _ _ _ _ _ _ _) ?_
     simp only [hE0,hQ0,hE1,r9]
     refine ap2 (T (X:=_) ?_ hw) ⟨rfl,rfl,rfl,rfl,rfl,(by rw [s6 hqW (by decide)]),trivial⟩
     exact⟨trivial,(by rw [hEw]; exact decide_eq_false (by omega)),(by rw [s9 hq1,m0 _ _ (by decide)]; exact decide_eq_true hc),by decide,(by rw [s7 _ hqW,t7]; exact hu),⟨by decide,by decide⟩,by decide,trivial⟩
   ·obtain⟨hM,hE⟩:=m0m (E7 hw hu) hc
    by_cases hl:e≤104
    ·
     rw [J1 hn hUn hM hE hl]
     refine l9 i8 10 [] [false,true,true,false,true,false,true] (x0j n _ _ _ _ _ _ _ _) ?_
     simp only [hE0,hQ0,hE1,r9]
     refine ap2 (T (X:=_) ?_ hw) ⟨(by rw [s9 hq1]),rfl,rfl,rfl,rfl,(by rw [s6 hqW (by decide)]),trivial⟩
     exact⟨decide_eq_true (by omega),(by rw [s9 hq1,m0 _ _ (by decide)]; exact decide_eq_false hc),by decide,(by rw [s7 _ hqW,t7]; exact hu),⟨by decide,by decide⟩,by decide,trivial⟩
    ·
     rw [J6 hUn hE hl]
     refine l9 i8 10 [] [false,true,true,false,true,false,false,false] (x0m n _ _ _ _ _ _ _ _) ?_
     simp only [hE0,hQ0,hE1,r9]
     refine ap2 (T (X:=_) ?_ hw) ⟨rfl,rfl,rfl,rfl,rfl,(by rw [s6 hqW (by decide)]),trivial⟩
     exact⟨trivial,decide_eq_false (by omega),(by rw [s9 hq1,m0 _ _ (by decide)]; exact decide_eq_false hc),by decide,(by rw [s7 _ hqW,t7]; exact hu),⟨by decide,by decide⟩,by decide,trivial⟩
theorem q0c (n:Bool) {N D:Nat} (hD:0 < D) (h1:bl N≤1000000) (h2:bl D≤1000000) (ho:decide (24 < bl (flq N D (w7 24 (-149) N D)))=true) (hw0:flw N D (w7 24 (-149) N D)=false):
  Ev.Sem Tryz.prog J0 77 [vlA n false (ws W64 N) false (ws W64 D),kR 24 (-149) 104,iR 1] (jT 24 104 N D (p9 24 (-149) N D)):=by
 have q0:=jB (K:=24) (L:=(-149)) (N:=N) (D:=D)
 have r0:=F4 (K:=24) (L:=(-149)) (by decide) (by decide) h1 h2
 have r1:=J9 (K:=24) (L:=(-149)) (by decide) (by decide) h1 h2
 have hE0:flE 24 (-149) (ws W64 N) (ws W64 D)=w7 24 (-149) N D:=rY (K:=24) (by decide) h1 h2
 have hQ0:=r9 N D (w7 24 (-149) N D)
 have hb0:bl (flq N D (w7 24 (-149) N D))≤10000000:=by
  have:=mW N D (w7 24 (-149) N D)
  omega
 have he:p9 24 (-149) N D=w7 24 (-149) N D+((bl (flq N D (w7 24 (-149) N D)):Int)- (24:Nat)):=by unfold p9; rw [if_pos (of_decide_eq_true ho)]
 have hE1:IntKind.i64.wrap (w7 24 (-149) N D+flO 24 (ws W64 (flq N D (w7 24 (-149) N D))))=p9 24 (-149) N D:=by
  have hO:flO 24 (ws W64 (flq N D (w7 24 (-149) N D)))=(bl (flq N D (w7 24 (-149) N D)):Int)- (24:Nat):=c0p (K:=24) (by decide) hb0
  rw [hO,← he,R6 (by omega) (by omega)]
 replace r0: -10000000≤w7 24 (-149) N D∧w7 24 (-149) N D≤10000000:=by omega
 replace r1: -10000000≤p9 24 (-149) N D∧p9 24 (-149) N D≤10000000:=by omega
 clear he
 generalize p9 24 (-149) N D=e at*
 have hq:flq N D e < 16777216:=q0
 have hqW:flq N D e < W64:=Nat.lt_of_lt_of_le hq (by decide)
 have hq1:flq N D e+1 < W64:=Nat.lt_of_le_of_lt hq (by decide)
 have hEw:IntKind.i64.wrap (e+1)=e+1:=R6 (by omega) (by omega)
 have hc0:¬2 ^24≤flq N D e:=by
  show ¬16777216≤flq N D e
  omega
 have T:=fun {X:List Prop} (h:d5 X) {w:Bool} (hw:flw N D e=w)=>ap2 (ap2 (ap2 (ap2 (ap2 h (Y4 (flq N D e))) (N7 hD h1 h2 r1 hw)) (fK (K:=24) (by decide) hb0 ho)) (N7 hD h1 h2 r0 hw0)) (Q1 h1 h2)
 cases hw:flw N D e with
 | true=>
  have hn:(!flw N D e)=false:=by rw [hw]; rfl
  have hUn:=rA (K:=24) hw
  have hc:=hc0
  obtain⟨hM,hE⟩:=jY (rS hw) hc
  by_cases hl:e≤104
  ·
   rw [J1 hn hUn hM hE hl]
   refine l9 i8 10 [] [false,false,true,true,false,false,true] (s0f n _ _ _ _ _ _ _ _) ?_
   simp only [hE0,hQ0,hE1,r9]
   refine ap2 (T (X:=_) ?_ hw) ⟨(by rw [r7 hqW]),rfl,rfl,rfl,rfl,rfl,trivial⟩
   exact⟨decide_eq_true (by omega),(by rw [r7 hqW,m0 _ _ (by decide)]; exact decide_eq_false hc),by decide,trivial,trivial⟩
  ·
   rw [J6 hUn hE hl]
   refine l9 i8 10 [] [false,false,true,true,false,false,false,false] (q0u n _ _ _ _ _ _ _ _) ?_
   simp only [hE0,hQ0,hE1,r9]
   refine ap2 (T (X:=_) ?_ hw) ⟨rfl,rfl,rfl,rfl,rfl,rfl,trivial⟩
   exact⟨trivial,decide_eq_false (by omega),(by rw [r7 hqW,m0 _ _ (by decide)]; exact decide_eq_false hc),by decide,trivial,trivial⟩
 | false=>
  have hn:(!flw N D e)=true:=by rw [hw]; rfl
  have hUn:=rN (K:=24) (P:=8388608) hw rfl
  cases hu:upB (flh N D e) (flq N D e) with
  | false=>
   have hc:=hc0
   obtain⟨hM,hE⟩:=jY (E7 hw hu) hc
   by_cases hl:e≤104
   ·
    rw [J1 hn hUn hM hE hl]
    refine l9 i8 10 [] [false,false,true,false,false,false,true] (u0d n _ _ _ _ _ _ _ _) ?_
    simp only [hE0,hQ0,hE1,r9]
    refine ap2 (T (X:=_) ?_ hw) ⟨(by rw [r7 hqW]),rfl,rfl,rfl,rfl,(by rw [s6 hqW (by decide)]),trivial⟩
    exact⟨decide_eq_true (by omega),(by rw [r7 hqW,m0 _ _ (by decide)]; exact decide_eq_false hc),by decide,(by rw [s7 _ hqW,t7]; exact hu),⟨by decide,by decide⟩,by decide,trivial⟩
   ·
    rw [J6 hUn hE hl]
    refine l9 i8 10 [] [false,false,true,false,false,false,false,false] (s0t n _ _ _ _ _ _ _ _) ?_
    simp only [hE0,hQ0,hE1,r9]
    refine ap2 (T (X:=_) ?_ hw) ⟨rfl,rfl,rfl,rfl,rfl,(by rw [s6 hqW (by decide)]),trivial⟩
    exact⟨trivial,decide_eq_false (by omega),(by rw [r7 hqW,m0 _ _ (by decide)]; exact decide_eq_false hc),by decide,(by rw [s7 _ hqW,t7]; exact hu),⟨by decide,by decide⟩,by decide,trivial⟩
  | true=>
   by_cases hc:2 ^24≤flq N D e+1
   ·obtain⟨hM,hE⟩:=n0c (E7 hw hu) hc
    by_cases hl:e+1≤104
    ·
     rw [J1 hn hUn hM hE hl]
     refine l9 i8 10 [] [false,false,true,false,true,true,true] (s0h n _ _ _ _ _ _ _ _) ?_
     simp only [hE0,hQ0,hE1,r9]
     refine ap2 (T (X:=_) ?_ hw) ⟨(by rw [s9 hq1,gL hq1]),(by rw [hEw]),rfl,rfl,rfl,(by rw [s6 hqW (by decide)]),trivial⟩
     exact⟨(by rw [hEw]; exact decide_eq_true (by omega)),(by rw [s9 hq1,m0 _ _ (by decide)]; exact decide_eq_true hc),by decide,(by rw [s7 _ hqW,t7]; exact hu),⟨by decide,by decide⟩,by decide,trivial⟩
    ·
     rw [J6 hUn hE hl]
     refine l9 i8 10 [] [false,false,true,false,true,true,false,false] (w0s n _ _ _ _ _ _ _ _) ?_
     simp only [hE0,hQ0,hE1,r9]
     refine ap2 (T (X:=_) ?_ hw) ⟨rfl,rfl,rfl,rfl,rfl,(by rw [s6 hqW (by decide)]),trivial⟩
     exact⟨trivial,(by rw [hEw]; exact decide_eq_false (by omega)),(by rw [s9 hq1,m0 _ _ (by decide)]; exact decide_eq_true hc),by decide,(by rw [s7 _ hqW,t7]; exact hu),⟨by decide,by decide⟩,by decide,trivial⟩
   ·obtain⟨hM,hE⟩:=m0m (E7 hw hu) hc
    by_cases hl:e≤104
    ·
     rw [J1 hn hUn hM hE hl]
     refine l9 i8 10 [] [false,false,true,false,true,false,true] (a1p n _ _ _ _ _ _ _ _) ?_
     simp only [hE0,hQ0,hE1,r9]
     refine ap2 (T (X:=_) ?_ hw) ⟨(by rw [s9 hq1]),rfl,rfl,rfl,rfl,(by rw [s6 hqW (by decide)]),trivial⟩
     exact⟨decide_eq_true (by omega),(by rw [s9 hq1,m0 _ _ (by decide)]; exact decide_eq_false hc),by decide,(by rw [s7 _ hqW,t7]; exact hu),⟨by decide,by decide⟩,by decide,trivial⟩
    ·
     rw [J6 hUn hE hl]
     refine l9 i8 10 [] [false,false,true,false,true,false,false,false] (q0f n _ _ _ _ _ _ _ _) ?_
     simp only [hE0,hQ0,hE1,r9]
     refine ap2 (T (X:=_) ?_ hw) ⟨rfl,rfl,rfl,rfl,rfl,(by rw [s6 hqW (by decide)]),trivial⟩
     exact⟨trivial,decide_eq_false (by omega),(by rw [s9 hq1,m0 _ _ (by decide)]; exact decide_eq_false hc),by decide,(by rw [s7 _ hqW,t7]; exact hu),⟨by decide,by decide⟩,by decide,trivial⟩
theorem e0w (n:Bool) {N D:Nat} (hD:0 < D) (h1:bl N≤1000000) (h2:bl D≤1000000):
  Ev.Sem Tryz.prog J0 77 [vlA n false (ws W64 N) false (ws W64 D),kR 24 (-149) 104,iR 1] (jT 24 104 N D (p9 24 (-149) N D)):=by
 cases ho:decide (24 < bl (flq N D (w7 24 (-149) N D))) with
 | false=>exact c1a n hD h1 h2 ho
 | true=>
  cases hw:flw N D (w7 24 (-149) N D) with
  | true=>exact u0i n hD h1 h2 ho hw
  | false=>exact q0c n hD h1 h2 ho hw
abbrev dA (n:Bool) (d:List UInt8) (e:Int):Arg:= .c (.v (.agg ⟨[.bool n, .string ⟨⟨d⟩⟩, .int .i64 e]⟩))
theorem z1j (n1 n2 n a b:Bool) (d1 d2:List UInt8) (e1 e2:Int) (N D:List Int):n8 b2n [] 200 76 [dA n1 d1 e1,dA n2 d2 e2] [vlA n a N b D] [false,false,true] =some [(K0 d1).length≤(K0 d1).length,(P6 (IntKind.i64.wrap (e1-e2))).length≤(P6 (IntKind.i64.wrap (e1-e2))).length,Cn (List.take (K0 d1).length (K0 d1)),Cn (List.take (P6 (IntKind.i64.wrap (e1-e2))).length (P6 (IntKind.i64.wrap (e1-e2)))),(List.take (K0 d1).length (K0 d1)).length < 274877906944,(List.take (P6 (IntKind.i64.wrap (e1-e2))).length (P6 (IntKind.i64.wrap (e1-e2)))).length < 274877906944,Int.ofNat 0≤IntKind.i64.wrap (e1-e2)∧IntKind.i64.wrap (e1-e2) < Int.ofNat 100000000000,decide (Int.ofNat 0≤IntKind.i64.wrap (e1-e2))=true,P9 d2,d2.length < 100000000000,P9 d1,d1.length < 100000000000,decide (IntKind.i64.wrap (IntKind.i64.wrap (Int.ofNat d1.length-Int.ofNat d2.length)+IntKind.i64.wrap (e1-e2)) < Int.negSucc 999)=false,decide (Int.ofNat 1000 < IntKind.i64.wrap (IntKind.i64.wrap (Int.ofNat d1.length-Int.ofNat d2.length)+IntKind.i64.wrap (e1-e2)))=false,Int.ofNat 0≤Int.ofNat 1∧1 < 18446744073709551616,Int.ofNat 0≤Int.ofNat 1∧1 < 18446744073709551616,(Value.bool !n1==n2)=Value.bool n,Value.bool false=Value.bool false,Value.bool (yT false (A9 (List.take (K0 d1).length (K0 d1)) (List.take (P6 (IntKind.i64.wrap (e1-e2))).length (P6 (IntKind.i64.wrap (e1-e2))))))=Value.bool a,(A9 (List.take (K0 d1).length (K0 d1)) (List.take (P6 (IntKind.i64.wrap (e1-e2))).length (P6 (IntKind.i64.wrap (e1-e2))))).length=N.length∧(A9 (List.take (K0 d1).length (K0 d1)) (List.take (P6 (IntKind.i64.wrap (e1-e2))).length (P6 (IntKind.i64.wrap (e1-e2))))).length≤(A9 (List.take (K0 d1).length (K0 d1)) (List.take (P6 (IntKind.i64.wrap (e1-e2))).length (P6 (IntKind.i64.wrap (e1-e2))))).length∧List.take (A9 (List.take (K0 d1).length (K0 d1)) (List.take (P6 (IntKind.i64.wrap (e1-e2))).length (P6 (IntKind.i64.wrap (e1-e2))))).length (A9 (List.take (K0 d1).length (K0 d1)) (List.take (P6 (IntKind.i64.wrap (e1-e2))).length (P6 (IntKind.i64.wrap (e1-e2)))))=N,Value.bool false=Value.bool b,(K0 d2).length=D.length∧(K0 d2).length≤(K0 d2).length∧List.take (K0 d2).length (K0 d2)=D] :=by kernel_rfl
theorem d2i (n1 n2 n a b:Bool) (d1 d2:List UInt8) (e1 e2:Int) (N D:List Int):n8 b2n [] 200 76 [dA n1 d1 e1,dA n2 d2 e2] [vlA n a N b D] [false,false,false] =some [(K0 d2).length≤(K0 d2).length,(P6 (IntKind.i64.wrap (Int.ofNat 0-IntKind.i64.wrap (e1-e2)))).length≤(P6 (IntKind.i64.wrap (Int.ofNat 0-IntKind.i64.wrap (e1-e2)))).length,Cn (List.take (K0 d2).length (K0 d2)),Cn (List.take (P6 (IntKind.i64.wrap (Int.ofNat 0-IntKind.i64.wrap (e1-e2)))).length (P6 (IntKind.i64.wrap (Int.ofNat 0-IntKind.i64.wrap (e1-e2))))),(List.take (K0 d2).length (K0 d2)).length < 274877906944,(List.take (P6 (IntKind.i64.wrap (Int.ofNat 0-IntKind.i64.wrap (e1-e2)))).length (P6 (IntKind.i64.wrap (Int.ofNat 0-IntKind.i64.wrap (e1-e2))))).length < 274877906944,Int.ofNat 0≤IntKind.i64.wrap (Int.ofNat 0-IntKind.i64.wrap (e1-e2))∧IntKind.i64.wrap (Int.ofNat 0-IntKind.i64.wrap (e1-e2)) < Int.ofNat 100000000000,decide (Int.ofNat 0≤IntKind.i64.wrap (e1-e2))=false,P9 d2,d2.length < 100000000000,P9 d1,d1.length < 100000000000,decide (IntKind.i64.wrap (IntKind.i64.wrap (Int.ofNat d1.length-Int.ofNat d2.length)+IntKind.i64.wrap (e1-e2)) < Int.negSucc 999)=false,decide (Int.ofNat 1000 < IntKind.i64.wrap (IntKind.i64.wrap (Int.ofNat d1.length-Int.ofNat d2.length)+IntKind.i64.wrap (e1-e2)))=false,Int.ofNat 0≤Int.ofNat 1∧1 < 18446744073709551616,Int.ofNat 0≤Int.ofNat 1∧1 < 18446744073709551616,(Value.bool !n1==n2)=Value.bool n,Value.bool false=Value.bool false,Value.bool false=Value.bool a,(K0 d1).length=N.length∧(K0 d1).length≤(K0 d1).length∧List.take (K0 d1).length (K0 d1)=N,Value.bool (yT false (A9 (List.take (K0 d2).length (K0 d2)) (List.take (P6 (IntKind.i64.wrap (Int.ofNat 0-IntKind.i64.wrap (e1-e2)))).length (P6 (IntKind.i64.wrap (Int.ofNat 0-IntKind.i64.wrap (e1-e2)))))))=Value.bool b,(A9 (List.take (K0 d2).length (K0 d2)) (List.take (P6 (IntKind.i64.wrap (Int.ofNat 0-IntKind.i64.wrap (e1-e2)))).length (P6 (IntKind.i64.wrap (Int.ofNat 0-IntKind.i64.wrap (e1-e2)))))).length=D.length∧(A9 (List.take (K0 d2).length (K0 d2)) (List.take (P6 (IntKind.i64.wrap (Int.ofNat 0-IntKind.i64.wrap (e1-e2)))).length (P6 (IntKind.i64.wrap (Int.ofNat 0-IntKind.i64.wrap (e1-e2)))))).length≤(A9 (List.take (K0 d2).length (K0 d2)) (List.take (P6 (IntKind.i64.wrap (Int.ofNat 0-IntKind.i64.wrap (e1-e2)))).length (P6 (IntKind.i64.wrap (Int.ofNat 0-IntKind.i64.wrap (e1-e2)))))).length∧List.take (A9 (List.take (K0 d2).length (K0 d2)) (List.take (P6 (IntKind.i64.wrap (Int.ofNat 0-IntKind.i64.wrap (e1-e2)))).length (P6 (IntKind.i64.wrap (Int.ofNat 0-IntKind.i64.wrap (e1-e2)))))).length (A9 (List.take (K0 d2).length (K0 d2)) (List.take (P6 (IntKind.i64.wrap (Int.ofNat 0-IntKind.i64.wrap (e1-e2)))).length (P6 (IntKind.i64.wrap (Int.ofNat 0-IntKind.i64.wrap (e1-e2))))))=D] :=by kernel_rfl
def qtN (d:List UInt8) (e:Int):Nat:=if 0≤e then dgN d*10 ^e.toNat else dgN d
def qtD (d:List UInt8) (e:Int):Nat:=if 0≤e then dgN d else dgN d*10 ^(-e).toNat
theorem j0i (k:Nat):P6 (k:Int)=ws W64 (10 ^k):=by unfold P6; rw [Int.toNat_natCast]
theorem a1l (d:List UInt8):K0 d=ws W64 (dgN d):=rfl
theorem x0r (k:Nat):wl (10 ^k)≤k+1:=sN (k+1) (Nat.pow_lt_pow_right (by decide) (Nat.lt_succ_self k))
theorem s1n {d:List UInt8} (h:P9 d):wl (dgN d)≤d.length:=sN _ (j0e h)
theorem b0l (n1 n2:Bool) {d1 d2:List UInt8} {e1 e2:Int} (h1:P9 d1) (h2:P9 d2) (l1:d1.length≤100000) (l2:d2.length≤100000) (he: -1000000≤e1-e2∧e1-e2≤1000000)
  (hf: -1000≤(d1.length:Int)-d2.length+(e1-e2)∧(d1.length:Int)-d2.length+(e1-e2)≤1000):
  Ev.Sem Tryz.prog J0 76 [dA n1 d1 e1,dA n2 d2 e2] [vlA (n1 !=n2) false (ws W64 (qtN d1 (e1-e2))) false (ws W64 (qtD d2 (e1-e2)))] :=by
 have w1:=s1n h1
 have w2:=s1n h2
 have iE:IntKind.i64.wrap (e1-e2)=e1-e2:=R6 (by omega) (by omega)
 have iF:IntKind.i64.wrap (IntKind.i64.wrap (Int.ofNat d1.length-Int.ofNat d2.length)+(e1-e2))=(d1.length:Int)-d2.length+(e1-e2):=by
  show IntKind.i64.wrap (IntKind.i64.wrap ((d1.length:Int)- (d2.length:Int))+(e1-e2))=_
  rw [R6 (n:=(d1.length:Int)- (d2.length:Int)) (by omega) (by omega),R6 (by omega) (by omega)]
 have f1:decide (Int.ofNat 1000 < IntKind.i64.wrap (IntKind.i64.wrap (Int.ofNat d1.length-Int.ofNat d2.length)+(e1-e2)))=false:=by
  rw [iF]
  exact decide_eq_false (by show ¬(1000:Int) < _; omega)
 have f2:decide (IntKind.i64.wrap (IntKind.i64.wrap (Int.ofNat d1.length-Int.ofNat d2.length)+(e1-e2)) < Int.negSucc 999)=false:=by
  rw [iF]
  exact decide_eq_false (by show ¬_ < (-1000:Int); omega)
 by_cases h0:0≤e1-e2
 ·obtain⟨k,hk⟩:=Int.eq_ofNat_of_zero_le h0
  have hN:qtN d1 (e1-e2)=dgN d1*10 ^k:=by unfold qtN; rw [if_pos h0,hk,Int.toNat_natCast]
  have hD:qtD d2 (e1-e2)=dgN d2:=if_pos h0
  have eT:P6 (e1-e2)=ws W64 (10 ^k):=by rw [hk,j0i]
  have f3:decide (Int.ofNat 0≤e1-e2)=true:=decide_eq_true h0
  have wt:=x0r k
  rw [hN,hD]
  refine d9 i8 10 _ _ (z1j n1 n2 (n1 !=n2) false false d1 d2 e1 e2 _ _) ?_
  simp only [d5,iE,eT,a1l,List.take_length,L5,f1,f2,f3]
  repeat' apply And.intro
  all_goals first
   | assumption
   | exact trivial
   | exact Cn.ws _
   | (show wl _ < _; omega)
   | exact Nat.le_refl (List.length _)
   | exact rfl
   | omega
   | decide
   | (show e1-e2 < 100000000000; omega)
 ·obtain⟨k,hk⟩:=Int.eq_ofNat_of_zero_le (show 0≤-(e1-e2) by omega)
  have hN:qtN d1 (e1-e2)=dgN d1:=if_neg h0
  have hD:qtD d2 (e1-e2)=dgN d2*10 ^k:=by unfold qtD; rw [if_neg h0,hk,Int.toNat_natCast]
  have iM:IntKind.i64.wrap (Int.ofNat 0- (e1-e2))=(k:Int):=by
   show IntKind.i64.wrap (0- (e1-e2))=_
   rw [R6 (by omega) (by omega)]
   omega
  have f3:decide (Int.ofNat 0≤e1-e2)=false:=decide_eq_false h0
  obtain⟨T,hT⟩:∃ T,T=10 ^k:=⟨_,rfl⟩
  have wt:wl T≤k+1:=by rw [hT]; exact x0r k
  have eT:P6 (k:Int)=ws W64 T:=by rw [hT]; exact j0i k
  rw [hN,hD,← hT]
  clear hT hN hD
  have k0:Int.ofNat 0≤(k:Int):=Int.natCast_nonneg _
  have k1:(k:Int) < Int.ofNat 100000000000:=by
   show (k:Int) < 100000000000
   omega
  refine d9 i8 10 _ _ (d2i n1 n2 (n1 !=n2) false false d1 d2 e1 e2 _ _) ?_
  simp only [d5,iE,iM,eT,a1l,List.take_length,L5,f1,f2,f3]
  exact⟨Nat.le_refl _,Nat.le_refl _,Cn.ws _,Cn.ws _,(by show wl _ < _; omega),(by show wl _ < _; omega),⟨k0,k1⟩,trivial,h2,(by omega),h1,(by omega),trivial,trivial,⟨by decide,by decide⟩,⟨by decide,by decide⟩,rfl,trivial,trivial,⟨trivial,Nat.le_refl _,trivial⟩,rfl,⟨trivial,Nat.le_refl _,trivial⟩,trivial⟩
end Go.Proofs.YtdgfhijnconaoaaGreatDoor
namespace Go.Proofs.YtdgfhijnconaoaaGreatDoor.VaS
open Go
def p63:Nat:=9223372036854775808
def j1i (x:Nat):Bool:=decide (9218868437227405312 < x%p63)
def s1f (x:Nat):Int:=if p63≤x then -((x%p63:Nat):Int) else ((x%p63:Nat):Int)
def z1s (x y:Nat):Option Ordering:=if j1i x || j1i y then none else some (compare (s1f x) (s1f y))
def p0r (r:Nat):Nat:=if r < 4503599627370496 then r else (4503599627370496+r%4503599627370496)*2 ^(r/4503599627370496-1)
theorem b0z (r:Nat):p0r r < p0r (r+1):=by
 unfold p0r
 by_cases h1:r+1 < 4503599627370496
 ·rw [if_pos h1,if_pos (by omega)]; omega
 ·by_cases h2:r < 4503599627370496
  ·have e:r=4503599627370495:=by omega
   subst e
   decide
  ·rw [if_neg h2,if_neg h1]
   generalize hq:r/4503599627370496=q
   generalize hm:r%4503599627370496=m
   have hr:r=4503599627370496*q+m:=by rw [← hq,← hm]; exact (Nat.div_add_mod r _).symm
   have hml:m < 4503599627370496:=by rw [← hm]; exact Nat.mod_lt _ (by decide)
   have hq1:1≤q:=by omega
   by_cases h3:m+1 < 4503599627370496
   ·have e1:(r+1)/4503599627370496=q:=by omega
    have e2:(r+1)%4503599627370496=m+1:=by omega
    rw [e1,e2]
    exact Nat.mul_lt_mul_of_pos_right (by omega) (Nat.two_pow_pos _)
   ·have e1:(r+1)/4503599627370496=q+1:=by omega
    have e2:(r+1)%4503599627370496=0:=by omega
    rw [e1,e2,show q+1-1=(q-1)+1 by omega,Nat.pow_succ,show m=4503599627370495 by omega]
    have:=Nat.two_pow_pos (q-1)
    omega
theorem r0p {a b:Nat} (h:a < b):p0r a < p0r b:=by
 induction b with
 | zero=>omega
 | succ b ih=>
  rcases Nat.lt_or_ge a b with h' | h'
  ·exact Nat.lt_trans (ih h') (b0z b)
  ·have:a=b:=by omega
   subst this
   exact b0z a
theorem Q7 {a b:Nat} :p0r a < p0r b↔a < b:=by
 constructor
 ·intro h
  rcases Nat.lt_trichotomy a b with h' | h' | h'
  ·exact h'
  ·subst h'; omega
  ·have:=r0p h'; omega
 ·exact r0p
def sg (neg:Bool) (m:Nat):Int:=if neg then -(m:Int) else (m:Int)
theorem p0z:p0r 0=0:=by decide
theorem w1m (s t:Bool) (a b:Nat):compare (sg s (p0r a)) (sg t (p0r b))=compare (sg s a) (sg t b):=by
 have key:∀ x y x' y':Int,(x < y↔x' < y')→(y < x↔y' < x')→compare x y=compare x' y':=by
  intro x y x' y' h1 h2
  show (if x < y then Ordering.lt else if x=y then .eq else .gt)=(if x' < y' then Ordering.lt else if x'=y' then .eq else .gt)
  by_cases hx:x < y
  ·rw [if_pos hx,if_pos (h1.1 hx)]
  ·rw [if_neg hx,if_neg (fun h=>hx (h1.2 h))]
   by_cases hy:x=y
   ·have e:x'=y':=by
     have a1:¬ x' < y':=fun h=>hx (h1.2 h)
     have a2:¬ y' < x':=fun h=>by have:=h2.2 h; omega
     omega
    rw [if_pos hy,if_pos e]
   ·have e:x'≠y':=by
     have:y < x:=by omega
     have:=h2.1 this
     omega
    rw [if_neg hy,if_neg e]
 have ha:= @Q7 0 a
 have hb:= @Q7 0 b
 have hab:= @Q7 a b
 have hba:= @Q7 b a
 rw [p0z] at ha hb
 unfold sg
 cases s <;> cases t <;> simp only [Bool.false_eq_true,if_false,if_true] <;> refine key _ _ _ _ ?_ ?_ <;> omega
theorem r0r (x y:Int) {k:Nat} (hk:0 < k):compare (x*(k:Int)) (y*(k:Int))=compare x y:=by
 show (if x*(k:Int) < y*(k:Int) then Ordering.lt else if x*(k:Int)=y*(k:Int) then .eq else .gt)=(if x < y then Ordering.lt else if x=y then .eq else .gt)
 have hk':(0:Int) < (k:Int):=by omega
 have h1:x*(k:Int) < y*(k:Int)↔x < y:=Int.mul_lt_mul_right hk'
 have h2:x*(k:Int)=y*(k:Int)↔x=y:=⟨fun h=>Int.eq_of_mul_eq_mul_right (by omega) h,fun h=>by rw [h]⟩
 by_cases a1:x < y
 ·rw [if_pos a1,if_pos (h1.2 a1)]
 ·rw [if_neg a1,if_neg (fun h=>a1 (h1.1 h))]
  by_cases a2:x=y
  ·rw [if_pos a2,if_pos (h2.2 a2)]
  ·rw [if_neg a2,if_neg (fun h=>a2 (h2.1 h))]
def r1y (r:Nat):Nat:=if r < 4503599627370496 then r else 4503599627370496+r%4503599627370496
def iZ (r:Nat):Nat:=if r < 4503599627370496 then 0 else r/4503599627370496-1
theorem q0w (r:Nat):p0r r=r1y r*2 ^iZ r:=by
 unfold p0r r1y iZ
 split <;> simp
theorem fmt:Ieee.double.signWeight=p63∧Ieee.double.binade=4503599627370496∧Ieee.double.infRung=9218868437227405312∧Ieee.double.leastPlace= -1074:=by decide
theorem kV {x:Nat} (hx:x < 18446744073709551616) (h:x%p63 < 9218868437227405312):Ieee.double.read x= .number (decide (p63≤x)) (r1y (x%p63)) (-1074+(iZ (x%p63):Nat)):=by
 obtain⟨e1,e2,e3,e4⟩:=fmt
 have hs:(x/p63%2==1)=decide (p63≤x):=by
  unfold p63 at*
  by_cases hc:9223372036854775808≤x
  ·rw [decide_eq_true hc,show x/9223372036854775808=1 by omega]; rfl
  ·rw [decide_eq_false hc,show x/9223372036854775808=0 by omega]; rfl
 unfold Ieee.Format.read
 simp only [e1,e2,e3,e4,hs,h,if_true]
 unfold r1y iZ
 split
 ·simp
 ·rfl
theorem uX {x:Nat} (hx:x < 18446744073709551616) (h:x%p63=9218868437227405312):Ieee.double.read x= .infinity (decide (p63≤x)):=by
 obtain⟨e1,e2,e3,e4⟩:=fmt
 have hs:(x/p63%2==1)=decide (p63≤x):=by
  unfold p63 at*
  by_cases hc:9223372036854775808≤x
  ·rw [decide_eq_true hc,show x/9223372036854775808=1 by omega]; rfl
  ·rw [decide_eq_false hc,show x/9223372036854775808=0 by omega]; rfl
 unfold Ieee.Format.read
 simp only [e1,e2,e3,e4,hs,h]
 simp
theorem j0k {x:Nat} (h:9218868437227405312 < x%p63):∃ n f,Ieee.double.read x= .nan n f:=by
 obtain⟨e1,e2,e3,e4⟩:=fmt
 unfold Ieee.Format.read
 simp only [e1,e2,e3,e4]
 rw [if_neg (by omega),if_neg (by omega),if_neg (by omega)]
 exact⟨_,_,rfl⟩
theorem gQ (s:Bool) (m a c:Nat) (h:c≤a):Ieee.signed s m (a-c)*((2 ^c:Nat):Int)=sg s (m*2 ^a):=by
 have e:m <<< (a-c)*2 ^c=m*2 ^a:=by
  rw [Nat.shiftLeft_eq,Nat.mul_assoc,← Nat.pow_add,Nat.sub_add_cancel h]
 unfold Ieee.signed sg
 cases s
 ·simp only [Bool.false_eq_true,if_false]
  rw [← e]; push_cast; rfl
 ·simp only [if_true]
  rw [← e,Int.neg_mul]; push_cast; rfl
theorem d1c {x y:Nat} (hx:x < 18446744073709551616) (hy:y < 18446744073709551616):Ieee.double.order x y=z1s x y:=by
 unfold Ieee.Format.order z1s
 by_cases nx:9218868437227405312 < x%p63
 ·obtain⟨n,f,e⟩:=j0k nx
  rw [e,show j1i x=true from decide_eq_true nx]
  rfl
 by_cases ny:9218868437227405312 < y%p63
 ·obtain⟨n,f,e⟩:=j0k ny
  rw [e,show j1i y=true from decide_eq_true ny,Bool.or_true,if_pos rfl]
  generalize Ieee.double.read x=d
  cases d <;> rfl
 rw [show j1i x=false from decide_eq_false nx,show j1i y=false from decide_eq_false ny]
 have hsv:∀ z,s1f z=sg (decide (p63≤z)) (z%p63):=fun z=>by
  unfold s1f sg
  by_cases h:p63≤z <;> simp [h]
 rw [hsv,hsv]
 simp only [Bool.or_self,Bool.false_eq_true,if_false]
 have cmp_def:∀ a b:Int,compare a b=if a < b then Ordering.lt else if a=b then .eq else .gt:=fun _ _=>rfl
 by_cases ix:x%p63=9218868437227405312
 ·rw [uX hx ix]
  by_cases iy:y%p63=9218868437227405312
  ·rw [uX hy iy,ix,iy]
   generalize decide (p63≤x)=s
   generalize decide (p63≤y)=t
   cases s <;> cases t <;> decide
  ·rw [kV hy (by omega),ix]
   generalize decide (p63≤x)=s
   generalize decide (p63≤y)=t
   have:y%p63 < 9218868437227405312:=by omega
   generalize y%p63=b at this
   simp only [Ieee.Datum.order,cmp_def]
   cases s <;> cases t <;> simp only [sg,Bool.false_eq_true,if_false,if_true,Option.some.injEq]
   ·rw [if_neg (by omega),if_neg (by omega)]
   ·rw [if_neg (by omega),if_neg (by omega)]
   ·rw [if_pos (by omega)]
   ·rw [if_pos (by omega)]
 ·rw [kV hx (by omega)]
  by_cases iy:y%p63=9218868437227405312
  ·rw [uX hy iy,iy]
   generalize decide (p63≤x)=s
   generalize decide (p63≤y)=t
   have:x%p63 < 9218868437227405312:=by omega
   generalize x%p63=b at this
   simp only [Ieee.Datum.order,cmp_def]
   cases s <;> cases t <;> simp only [sg,Bool.false_eq_true,if_false,if_true,Option.some.injEq]
   ·rw [if_pos (by omega)]
   ·rw [if_neg (by omega),if_neg (by omega)]
   ·rw [if_pos (by omega)]
   ·rw [if_neg (by omega),if_neg (by omega)]
  ·rw [kV hy (by omega)]
   generalize decide (p63≤x)=s
   generalize decide (p63≤y)=t
   generalize x%p63=a
   generalize y%p63=b
   simp only [Ieee.Datum.order,Option.some.injEq]
   rw [← w1m,q0w,q0w]
   have hc:min (-1074+((iZ a:Nat):Int)) (-1074+((iZ b:Nat):Int))= -1074+((min (iZ a) (iZ b):Nat):Int):=by omega
   rw [hc]
   have e1:(-1074+((iZ a:Nat):Int)- (-1074+((min (iZ a) (iZ b):Nat):Int))).toNat=iZ a-min (iZ a) (iZ b):=by omega
   have e2:(-1074+((iZ b:Nat):Int)- (-1074+((min (iZ a) (iZ b):Nat):Int))).toNat=iZ b-min (iZ a) (iZ b):=by omega
   rw [e1,e2,← gQ s (r1y a) (iZ a) (min (iZ a) (iZ b)) (by omega),← gQ t (r1y b) (iZ b) (min (iZ a) (iZ b)) (by omega)]
   exact (r0r _ _ (Nat.two_pow_pos _)).symm
structure Val where
 k:Int
 x:Nat
 s:List UInt8
 b:Bool
 f:Int
def fX (x y:Int):Int:=if x < y then -1 else if y < x then 1 else 0
end Go.Proofs.YtdgfhijnconaoaaGreatDoor.VaS
namespace Go.Proofs.YtdgfhijnconaoaaGreatDoor
open Go
theorem bL {m k:Nat} (h1:2 ^k≤m) (h2:m < 2 ^(k+1)):m.log2=k:=by
 have h0:m≠0:=by
  have:0 < 2 ^k:=Nat.pow_pos (by decide)
  omega
 exact (Nat.log2_eq_iff h0).2 ⟨h1,h2⟩
theorem tL {m:Nat} (h:m≠0):2 ^m.log2≤m∧m < 2 ^(m.log2+1):=(Nat.log2_eq_iff h).1 rfl
theorem Z7 {n M k:Nat} (h:n=M*2 ^k) (hM:0 < M):Ieee.Toward.even.cut false n k=M:=by
 have h2:0 < 2 ^k:=Nat.pow_pos (by decide)
 have hn:n≠0:=by
  have:=Nat.mul_pos hM h2
  omega
 have hk:k≤n.log2:=by
  have h3:2 ^k≤n:=by rw [h]; exact Nat.le_mul_of_pos_left _ hM
  have h4:=(tL hn).2
  have:=(Nat.pow_lt_pow_iff_right (a:=2) (by decide)).1 (Nat.lt_of_le_of_lt h3 h4)
  omega
 unfold Ieee.Toward.cut
 have hg:1 <<< min k (n.log2+2)=2 ^k:=by rw [Nat.min_eq_left (by omega),Nat.one_shiftLeft]
 simp only [hg]
 rw [h,Nat.mul_div_cancel _ h2,Nat.mul_mod_left]
 have e1:decide (2 ^k < 2*0)=false:=decide_eq_false (by omega)
 have e2:(2 ^k==2*0)=false:=beq_false_of_ne (by omega)
 rw [e1,e2]
 simp
theorem I2:Ieee.double.leastPlace= -1074:=by decide
theorem kU:Ieee.double.binade=4503599627370496:=by decide
theorem u0v:Ieee.double.infRung=9218868437227405312:=by decide
theorem t1l:Ieee.double.signWeight=9223372036854775808:=by decide
theorem a0w:Ieee.double.fractionBits=52:=by decide
theorem d0d (m:Nat):Ieee.double.word false m=m:=rfl
theorem uL {a b:Nat} (ha:a≤2045) (hb:b < 9007199254740992):a*4503599627370496+b≤9218868437227405312:=by omega
theorem vL {M k:Nat} {E:Int} (hM:0 < M) (h53:M < 9007199254740992) (hE: -1074≤E) (hn:4503599627370496≤M∨E= -1074) (hT:E≤971):Ieee.double.nearest false (M*2 ^k) (E-k)=(E+1074).toNat*4503599627370496+M:=by
 have h2:0 < 2 ^k:=Nat.pow_pos (by decide)
 have h0:M*2 ^k≠0:=by
  have:=Nat.mul_pos hM h2
  omega
 have hl:(M*2 ^k).log2=M.log2+k:=by
  have hb:=tL (show M≠0 by omega)
  refine bL ?_ ?_
  ·rw [Nat.pow_add]; exact Nat.mul_le_mul_right _ hb.1
  ·rw [show M.log2+k+1=M.log2+1+k by omega,Nat.pow_add]; exact Nat.mul_lt_mul_of_pos_right hb.2 h2
 have hlast:max (E- (k:Int)+((M*2 ^k).log2:Nat)- (Ieee.double.fractionBits:Nat)) Ieee.double.leastPlace=E:=by
  rw [hl,I2,a0w]
  by_cases hb:4503599627370496≤M
  ·have:M.log2=52:=bL hb h53
   rw [this]
   omega
  ·have hlt:M.log2 < 52:=(Nat.log2_lt (by omega)).2 (by show M < 4503599627370496; omega)
   rcases hn with hn | hn <;> omega
 unfold Ieee.Format.nearest
 rw [if_neg h0]
 simp only [hlast]
 have e1:(E- (k:Int)-E).toNat=0:=by omega
 have e2:(E- (E- (k:Int))).toNat=k:=by omega
 rw [e1,e2,Nat.shiftLeft_zero,Z7 rfl hM,I2,d0d,kU,u0v]
 rw [show E- -1074=E+1074 by omega]
 refine Nat.min_eq_left ?_
 exact uL (by omega) h53
theorem lN {m t:Nat} {P:Int} (h1:4503599627370496≤m*2 ^t) (h53:m*2 ^t < 9007199254740992) (hE: -1074≤P-t) (hT:P-t≤971):Ieee.double.nearest false m P=(P-t+1074).toNat*4503599627370496+m*2 ^t:=by
 have h2:0 < 2 ^t:=Nat.pow_pos (by decide)
 have h0:m≠0:=by
  intro e
  subst e
  omega
 have hm:0 < m*2 ^t:=by omega
 have ht:t≤52:=by
  have h3:2 ^t≤m*2 ^t:=Nat.le_mul_of_pos_left _ (by omega)
  have h4:2 ^t < 2 ^53:=Nat.lt_of_le_of_lt h3 (by show _ < 9007199254740992; omega)
  have:=(Nat.pow_lt_pow_iff_right (a:=2) (by decide)).1 h4
  omega
 have hl:m.log2=52-t:=by
  refine bL ?_ ?_
  ·have:2 ^(52-t)*2 ^t≤m*2 ^t:=by rw [← Nat.pow_add,show 52-t+t=52 by omega]; exact h1
   exact Nat.le_of_mul_le_mul_right this h2
  ·have:m*2 ^t < 2 ^(52-t+1)*2 ^t:=by rw [← Nat.pow_add,show 52-t+1+t=53 by omega]; exact h53
   exact Nat.lt_of_mul_lt_mul_right this
 have hlast:max (P+(m.log2:Nat)- (Ieee.double.fractionBits:Nat)) Ieee.double.leastPlace=P-t:=by
  rw [hl,I2,a0w]
  omega
 unfold Ieee.Format.nearest
 rw [if_neg h0]
 simp only [hlast]
 have e1:(P- (P- (t:Int))).toNat=t:=by omega
 have e2:(P- (t:Int)-P).toNat=0:=by omega
 rw [e1,e2,Nat.shiftLeft_eq,Z7 (M:=m*2 ^t) (k:=0) (by simp) hm,I2,d0d,kU,u0v]
 rw [show P-t- -1074=P-t+1074 by omega]
 refine Nat.min_eq_left ?_
 exact uL (by omega) h53
theorem mM {w:Nat} (h1:4503599627370496≤w) (h2:w < 9218868437227405312):Ieee.double.read w= .number false (4503599627370496+w%4503599627370496) (-1074+((w/4503599627370496-1:Nat):Int)):=by
 unfold Ieee.Format.read
 have hs:Ieee.double.signWeight=9223372036854775808:=by decide
 have hb:Ieee.double.binade=4503599627370496:=by decide
 have hi:Ieee.double.infRung=9218868437227405312:=by decide
 rw [hs,hb,hi,I2]
 have e1:w%9223372036854775808=w:=Nat.mod_eq_of_lt (by omega)
 simp only [e1]
 rw [if_neg (by omega),if_pos h2,show (w/9223372036854775808%2==1)=false by rw [Nat.div_eq_of_lt (by omega)]; rfl]
theorem k0j {a b:Nat} (ha1:4503599627370496≤a) (ha2:a < 9218868437227405312) (hb1:4503599627370496≤b) (hb2:b < 9218868437227405312):
  Ieee.double.mul a b=some (Ieee.double.nearest false ((4503599627370496+a%4503599627370496)*(4503599627370496+b%4503599627370496)) (-1074+((a/4503599627370496-1:Nat):Int)+(-1074+((b/4503599627370496-1:Nat):Int)))):=by
 unfold Ieee.Format.mul
 rw [mM ha1 ha2,mM hb1 hb2]
 rfl
theorem mul_one {w:Nat} (h1:4503599627370496≤w) (h2:w < 9218868437227405312):Ieee.double.mul 4607182418800017408 w=some w:=by
 rw [k0j (by decide) (by decide) h1 h2]
 have hd:1≤w/4503599627370496:=(Nat.le_div_iff_mul_le (by decide)).2 (by omega)
 have hd2:w/4503599627370496 < 2047:=(Nat.div_lt_iff_lt_mul (by decide)).2 (by omega)
 have hm:w%4503599627370496 < 4503599627370496:=Nat.mod_lt _ (by decide)
 have e:=vL (M:=4503599627370496+w%4503599627370496) (k:=52) (E:= -1074+((w/4503599627370496-1:Nat):Int)) (by omega) (by omega) (by omega) (.inl (by omega)) (by omega)
 have e1:(4503599627370496+4607182418800017408%4503599627370496)*(4503599627370496+w%4503599627370496)=(4503599627370496+w%4503599627370496)*2 ^52:=by
  rw [Nat.mul_comm]
 have e2:(-1074:Int)+((4607182418800017408/4503599627370496-1:Nat):Int)+(-1074+((w/4503599627370496-1:Nat):Int))= -1074+((w/4503599627370496-1:Nat):Int)- ((52:Nat):Int):=by
  omega
 rw [e1,e2,e]
 have hw:=Nat.div_add_mod w 4503599627370496
 have e3:(-1074+((w/4503599627370496-1:Nat):Int)+1074).toNat=w/4503599627370496-1:=by omega
 rw [e3]
 refine congrArg some ?_
 rw [Nat.sub_mul]
 omega
theorem t0f {w M s:Nat} (h1:4503599627370496≤w) (h2:w < 9218868437227405312) (hM:4503599627370496+w%4503599627370496=M*2 ^s) (hp:M < 4503599627370496) (hs:((w/4503599627370496:Nat):Int)=54-s):Ieee.double.mul 4368491638549381120 w=some M:=by
 rw [k0j (by decide) (by decide) h1 h2]
 have h20:0 < 2 ^s:=Nat.pow_pos (by decide)
 have hM0:0 < M:=by
  rcases Nat.eq_zero_or_pos M with h | h
  ·rw [h] at hM; omega
  ·exact h
 have hd:1≤w/4503599627370496:=(Nat.le_div_iff_mul_le (by decide)).2 (by omega)
 have e:=vL (M:=M) (k:=s+52) (E:= -1074) hM0 (by omega) (by omega) (.inr rfl) (by omega)
 have e1:(4503599627370496+4368491638549381120%4503599627370496)*(4503599627370496+w%4503599627370496)=M*2 ^(s+52):=by
  rw [hM,Nat.pow_add,Nat.mul_comm,Nat.mul_assoc]
 have e2:(-1074:Int)+((4368491638549381120/4503599627370496-1:Nat):Int)+(-1074+((w/4503599627370496-1:Nat):Int))= -1074- ((s+52:Nat):Int):=by
  omega
 rw [e1,e2,e]
 simp
open Go Go.RowKit Ev Wd VaS
def t1u (x:Nat):Nat:=(IntKind.u64.wrap ↑(BitVec.ofInt IntKind.u64.bits ↑x&&& ~~~BitVec.ofInt IntKind.u64.bits 9223372036854775808).toNat).toNat
theorem h0a {x:Nat} (hx:x < 9223372036854775808):t1u x=x:=by
 unfold t1u
 have h0:(BitVec.ofInt IntKind.u64.bits (x:Int)).toNat=x:=by
  show (BitVec.ofInt 64 (x:Int)).toNat=x
  rw [BitVec.ofInt_natCast,BitVec.toNat_ofNat]
  exact Nat.mod_eq_of_lt (by omega)
 have h3:(BitVec.ofInt IntKind.u64.bits (x:Int)&&& ~~~BitVec.ofInt IntKind.u64.bits 9223372036854775808).toNat=x:=by
  rw [BitVec.toNat_and,h0,show (~~~BitVec.ofInt IntKind.u64.bits 9223372036854775808).toNat=2 ^63-1 by decide]
  rw [Nat.and_two_pow_sub_one_eq_mod _ 63]
  exact Nat.mod_eq_of_lt hx
 rw [h3]
 have h5:IntKind.u64.wrap (x:Int)=(x:Int):=by
  simp [IntKind.wrap,IntKind.bits,IntKind.signed]
  omega
 rw [h5,Int.toNat_natCast]
theorem a2o {a b:Nat} (ha:a≤9218868437227405312) (hb:b≤9218868437227405312):Ieee.double.order a b=some (compare (a:Int) (b:Int)):=by
 have hm:∀ {c:Nat},c≤9218868437227405312→c%p63=c:=fun {c} h=>Nat.mod_eq_of_lt (by unfold p63; omega)
 have hs:∀ {c:Nat},c≤9218868437227405312→s1f c=(c:Int):=fun {c} h=>by
  unfold s1f
  rw [if_neg (by unfold p63; omega),hm h]
 have hn:∀ {c:Nat},c≤9218868437227405312→j1i c=false:=fun {c} h=>by
  unfold j1i
  rw [hm h]
  exact decide_eq_false (by omega)
 rw [d1c (by omega) (by omega)]
 unfold z1s
 rw [hn ha,hn hb,hs ha,hs hb]
 rfl
def ltL (x y:Nat):Bool:=Ieee.double.order x y==some .lt
def l1c (x y:Nat):Bool:=Ieee.double.order x y==some .eq
def gtL (x y:Nat):Bool:=Ieee.double.order x y==some .gt
theorem z0r {a b:Nat} (ha:a≤9218868437227405312) (hb:b≤9218868437227405312):ltL a b=decide (a < b):=by
 unfold ltL
 rw [a2o ha hb,show compare (a:Int) (b:Int)=if (a:Int) < b then Ordering.lt else if (a:Int)=b then .eq else .gt from rfl]
 by_cases h:a < b
 ·rw [if_pos (by omega),decide_eq_true h]; rfl
 ·rw [if_neg (by omega),decide_eq_false h]
  split <;> rfl
theorem u0x {a b:Nat} (ha:a≤9218868437227405312) (hb:b≤9218868437227405312):l1c a b=decide (a=b):=by
 unfold l1c
 rw [a2o ha hb,show compare (a:Int) (b:Int)=if (a:Int) < b then Ordering.lt else if (a:Int)=b then .eq else .gt from rfl]
 by_cases h:a < b
 ·rw [if_pos (by omega),decide_eq_false (by omega)]; rfl
 ·by_cases h2:a=b
  ·rw [if_neg (by omega),if_pos (by omega),decide_eq_true h2]; rfl
  ·rw [if_neg (by omega),if_neg (by omega),decide_eq_false h2]; rfl
theorem j0x {a b:Nat} (ha:a≤9218868437227405312) (hb:b≤9218868437227405312):gtL a b=decide (b < a):=by
 unfold gtL
 rw [a2o ha hb,show compare (a:Int) (b:Int)=if (a:Int) < b then Ordering.lt else if (a:Int)=b then .eq else .gt from rfl]
 by_cases h:a < b
 ·rw [if_pos (by omega),decide_eq_false (by omega)]; rfl
 ·by_cases h2:a=b
  ·rw [if_neg (by omega),if_pos (by omega),decide_eq_false (by omega)]; rfl
  ·rw [if_neg (by omega),if_neg (by omega),decide_eq_true (by omega)]; rfl
theorem c1z (x:Nat):a6 b2n [] 200 212 [.float .f64 x] [false] =some (.tuple ⟨[.float .f64 x, .int .i64 0]⟩,[ltL (t1u x) 4503599627370496=false]):=by kernel_rfl
def uF:List Value→Option (Value×List Prop)
 | [.float .f64 x] =>some (.tuple ⟨[.float .f64 x, .int .i64 0]⟩,[4503599627370496≤x∧x < 9218868437227405312])
 | _=>none
theorem e0f (args:List Value) (v:Value) (l:List Prop) (h:uF args=some (v,l)) (hl:d5 l):Ev.Pure Tryz.prog J0 212 args v:=by
 unfold uF at h
 split at h
 case h_2=>cases h
 rename_i x
 cases h
 obtain⟨⟨h1,h2⟩,_⟩:=hl
 refine d6 i8 10 _ _ (c1z x) ⟨?_,trivial⟩
 rw [h0a (by omega),z0r (by omega) (by omega)]
 exact decide_eq_false (by omega)
noncomputable def n1h:Tab:=i6 212 uF x0h
theorem i0w:N1 Tryz.prog J0 n1h:=b6 e0f kP
noncomputable def bLd:Base:=⟨Tryz.prog,J0,false,n1h,nH,200,H8⟩
theorem tK:BaseOk bLd:=⟨progOk,i0w,aB,i7⟩
noncomputable abbrev XLd:Cx:=bLd.cx 10
def frL (x:Nat):Int:=IntKind.u64.wrap ((BitVec.ofInt IntKind.u64.bits (x:Int)&&& ~~~BitVec.ofInt IntKind.u64.bits 9218868437227405312).toNat:Nat)
def exL (x:Nat):Int:=IntKind.i64.wrap (IntKind.i64.wrap ((BitVec.ofInt IntKind.i64.bits (IntKind.i64.wrap ((x:Int).fdiv (2 ^min (Int.toNat 52) IntKind.u64.bits)))&&& BitVec.ofInt IntKind.i64.bits 2047).toNat:Nat)-1023)
def plL (x:Nat) (e:Int):Int:=IntKind.i64.wrap (IntKind.i64.wrap (e+0)+exL x)
def bwL (x:Nat) (P:Int):Nat:=(IntKind.u64.wrap ((BitVec.ofInt IntKind.u64.bits (frL x)||| BitVec.ofInt IntKind.u64.bits (IntKind.u64.wrap (IntKind.u64.wrap (IntKind.i64.wrap (P+1023))*2 ^min (Int.toNat 52) IntKind.u64.bits))).toNat:Nat)).toNat
def t1s (x:Nat):Bool:=match gtL (t1u x) 9218868437227405311 with | true=>true | false=>Ieee.double.order x x !=some .eq
def x1o (P:Int):Int:=IntKind.i64.wrap (P+53)
section
variable (x:Nat) (e:Int)
theorem m1b:a6 XLd [] 200 166 [.float .f64 x, .int .i64 e] [true] =some (.float .f64 x,[l1c x 0=true]):=by kernel_rfl
theorem a1f:a6 XLd [] 200 166 [.float .f64 x, .int .i64 e] [false,false,false,false,false] =some (.float .f64 ((Ieee.double.mul 4607182418800017408 (bwL x (plL x e))).getD 0),[(Ieee.double.mul 4607182418800017408 (bwL x (plL x e))).isSome=true,decide (plL x e < Int.negSucc 1021)=false,decide (1023 < plL x e)=false,decide (plL x e < Int.negSucc 1074)=false,4503599627370496≤x∧x < 9218868437227405312,t1s x=false,l1c x 0=false]):=by kernel_rfl
theorem l1x:a6 XLd [] 200 166 [.float .f64 x, .int .i64 e] [false,false,false,false,true] =some (.float .f64 ((Ieee.double.mul 4368491638549381120 (bwL x (x1o (plL x e)))).getD 0),[(Ieee.double.mul 4368491638549381120 (bwL x (x1o (plL x e)))).isSome=true,decide (plL x e < Int.negSucc 1021)=true,decide (1023 < plL x e)=false,decide (plL x e < Int.negSucc 1074)=false,4503599627370496≤x∧x < 9218868437227405312,t1s x=false,l1c x 0=false]):=by kernel_rfl
theorem r0c:a6 XLd [] 200 166 [.float .f64 x, .int .i64 e] [false,false,false,true,false] =some (.float .f64 9218868437227405312,[ltL x 0=false,decide (1023 < plL x e)=true,decide (plL x e < Int.negSucc 1074)=false,4503599627370496≤x∧x < 9218868437227405312,t1s x=false,l1c x 0=false]):=by kernel_rfl
end
theorem h0n {n:Nat} (h:n < 18446744073709551616):IntKind.u64.wrap (n:Int)=(n:Int):=by
 simp [IntKind.wrap,IntKind.bits,IntKind.signed]
 omega
theorem s1a {n:Nat} (h:n < 18446744073709551616):(BitVec.ofInt IntKind.u64.bits (n:Int)).toNat=n:=by
 show (BitVec.ofInt 64 (n:Int)).toNat=n
 rw [BitVec.ofInt_natCast,BitVec.toNat_ofNat]
 exact Nat.mod_eq_of_lt h
theorem s1s {x:Nat} (hx:x < 9223372036854775808):frL x=((x%4503599627370496:Nat):Int):=by
 unfold frL
 have h3:(BitVec.ofInt IntKind.u64.bits (x:Int)&&& ~~~BitVec.ofInt IntKind.u64.bits 9218868437227405312).toNat=x%4503599627370496:=by
  rw [BitVec.toNat_and,s1a (by omega),show (~~~BitVec.ofInt IntKind.u64.bits 9218868437227405312).toNat=9227875636482146303 by decide]
  have hx0:x&&& 9223372036854775807=x:=by
   have:=Nat.and_two_pow_sub_one_eq_mod x 63
   rw [show 2 ^63-1=9223372036854775807 by decide,show 2 ^63=9223372036854775808 by decide,Nat.mod_eq_of_lt hx] at this
   exact this
  have h1:x&&& 9227875636482146303=x&&& (2 ^52-1):=by
   rw [← hx0,Nat.and_assoc,Nat.and_assoc]
   rfl
  rw [h1,Nat.and_two_pow_sub_one_eq_mod]
 rw [h3]
 exact h0n (by omega)
theorem t1w {x:Nat} (hx:x < 9218868437227405312):exL x=((x/4503599627370496:Nat):Int)-1023:=by
 unfold exL
 have hd:x/4503599627370496 < 2047:=(Nat.div_lt_iff_lt_mul (by decide)).2 (by omega)
 have h1:(x:Int).fdiv (2 ^min (Int.toNat 52) IntKind.u64.bits)=((x/4503599627370496:Nat):Int):=(Int.ofNat_fdiv x 4503599627370496).symm
 rw [h1]
 generalize x/4503599627370496=d at*
 have h2:IntKind.i64.wrap (d:Int)=(d:Int):=R6 (by omega) (by omega)
 rw [h2]
 have h3:(BitVec.ofInt IntKind.i64.bits (d:Int)&&& BitVec.ofInt IntKind.i64.bits 2047).toNat=d:=by
  rw [BitVec.toNat_and,show (BitVec.ofInt IntKind.i64.bits (d:Int)).toNat=d from s1a (by omega),show (BitVec.ofInt IntKind.i64.bits 2047).toNat=2 ^11-1 by decide,Nat.and_two_pow_sub_one_eq_mod]
  exact Nat.mod_eq_of_lt (by omega)
 rw [h3,h2,R6 (by omega) (by omega)]
theorem y1y {k r:Nat} (hk:k < 2048) (hr:r < 4503599627370496):k*4503599627370496+r < 18446744073709551616:=by omega
theorem u1v {k:Nat} (hk:k < 2048):k*4503599627370496 < 18446744073709551616:=by omega
theorem z0s {x:Nat} {P:Int} (hx:x < 9218868437227405312) (h0:0≤P+1023) (h1:P+1023 < 2048):bwL x P=(P+1023).toNat*4503599627370496+x%4503599627370496:=by
 unfold bwL
 rw [s1s (by omega),R6 (n:=P+1023) (by omega) (by omega)]
 obtain⟨k,hk⟩:=Int.eq_ofNat_of_zero_le h0
 rw [hk,Int.toNat_natCast]
 have hk2:k < 2048:=by omega
 have h2:IntKind.u64.wrap (k:Int)=(k:Int):=h0n (by omega)
 have h3:(k:Int)*2 ^min (Int.toNat 52) IntKind.u64.bits=((k*4503599627370496:Nat):Int):=by
  rw [Int.natCast_mul]
  rfl
 have hm:x%4503599627370496 < 4503599627370496:=Nat.mod_lt _ (by decide)
 generalize x%4503599627370496=r at*
 have hs:=Nat.shiftLeft_add_eq_or_of_lt (i:=52) (by show r < 4503599627370496; exact hm) k
 have e2:k <<< 52=k*4503599627370496:=by rw [Nat.shiftLeft_eq]
 rw [e2] at hs
 have h4:k*4503599627370496+r < 18446744073709551616:=y1y hk2 hm
 have h7:k*4503599627370496 < 18446744073709551616:=u1v hk2
 have h8:r < 18446744073709551616:=Nat.lt_trans hm (by decide)
 have h5:IntKind.u64.wrap ((k*4503599627370496:Nat):Int)=((k*4503599627370496:Nat):Int):=h0n h7
 have h6:(BitVec.ofInt IntKind.u64.bits (r:Int)||| BitVec.ofInt IntKind.u64.bits ((k*4503599627370496:Nat):Int)).toNat=k*4503599627370496+r:=by
  rw [BitVec.toNat_or,s1a h8,s1a h7,Nat.or_comm,← hs]
 rw [h2,h3,h5,h6,h0n h4,Int.toNat_natCast]
theorem oF {x:Nat} (hx:x < 9218868437227405312):t1s x=false:=by
 unfold t1s
 rw [h0a (by omega),j0x (by omega) (by omega),decide_eq_false (by omega)]
 show (Ieee.double.order x x !=some .eq)=false
 have:=u0x (a:=x) (b:=x) (by omega) (by omega)
 unfold l1c at this
 rw [bne,this]
 simp
theorem mL {x:Nat} (h:4503599627370496≤x) (hx:x < 9218868437227405312):l1c x 0=false:=by
 rw [u0x (by omega) (by omega)]
 exact decide_eq_false (by omega)
def kF (m:Nat):Nat:=Ieee.double.nearest false m 0
theorem cK:kF 0=0:=by decide
theorem o0g {a M:Nat} (h1:4503599627370496≤M) (h2:M < 9007199254740992):(a*4503599627370496+M)/4503599627370496=a+1∧(a*4503599627370496+M)%4503599627370496=M-4503599627370496:=by omega
theorem m0e {a M:Nat} (ha:a≤1074) (h1:4503599627370496≤M) (h2:M < 9007199254740992):4503599627370496≤a*4503599627370496+M∧a*4503599627370496+M < 9218868437227405312:=by omega
theorem e0e {m:Nat} (h0:0 < m) (h53:m < 9007199254740992):∃ t:Nat,t≤52∧4503599627370496≤m*2 ^t∧m*2 ^t < 9007199254740992∧(4503599627370496≤m→t=0)∧(m < 4503599627370496→0 < t)∧kF m/4503599627370496=1074-t+1∧kF m%4503599627370496=m*2 ^t-4503599627370496∧4503599627370496≤kF m∧kF m < 9218868437227405312:=by
 have hb:=tL (show m≠0 by omega)
 have hl:m.log2 < 53:=(Nat.log2_lt (by omega)).2 (by show m < 9007199254740992; exact h53)
 have e1:2 ^m.log2*2 ^(52-m.log2)=4503599627370496:=by
  rw [← Nat.pow_add,show m.log2+(52-m.log2)=52 by omega]
 have e2:2 ^(m.log2+1)*2 ^(52-m.log2)=9007199254740992:=by
  rw [← Nat.pow_add,show m.log2+1+(52-m.log2)=53 by omega]
 have h1:4503599627370496≤m*2 ^(52-m.log2):=by
  rw [← e1]
  exact Nat.mul_le_mul_right _ hb.1
 have h2:m*2 ^(52-m.log2) < 9007199254740992:=by
  rw [← e2]
  exact Nat.mul_lt_mul_of_pos_right hb.2 (Nat.pow_pos (by decide))
 refine⟨52-m.log2,by omega,h1,h2,fun h=> ?_,fun h=> ?_,?_⟩
 ·have:=(Nat.le_log2 (by omega)).2 (show 2 ^52≤m from h)
  omega
 ·have:=(Nat.log2_lt (by omega)).2 (show m < 2 ^52 from h)
  omega
 ·have e:=lN (m:=m) (t:=52-m.log2) (P:=0) h1 h2 (by omega) (by omega)
  have hk:(0- ((52-m.log2:Nat):Int)+1074).toNat=1074- (52-m.log2):=by omega
  rw [hk] at e
  unfold kF
  rw [e]
  obtain⟨q1,q2⟩:=o0g (a:=1074- (52-m.log2)) h1 h2
  obtain⟨q3,q4⟩:=m0e (a:=1074- (52-m.log2)) (by omega) h1 h2
  exact⟨q1,q2,q3,q4⟩
end Go.Proofs.YtdgfhijnconaoaaGreatDoor
