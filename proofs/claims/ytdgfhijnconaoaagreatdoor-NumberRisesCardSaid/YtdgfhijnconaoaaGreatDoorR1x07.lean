/-
 NumberRises: of two texts the one with the greater value is never read as the lesser number; no condition (a part of the proof).
-/
import Derived.Test.YtdgfhijnconaoaaGreatDoorR1x06
set_option maxRecDepth 1000000
namespace Go.Proofs.YtdgfhijnconaoaaGreatDoor
open Go Go.RowKit Ev Wd
noncomputable def cDiv1:Code:=loopAt Tryz.prog 196 0
noncomputable def cDiv2:Code:=loopAt Tryz.prog 196 1
def TD1 (y s yn1 yn0 un32 un10 un1 un0 q r:Int):St:=⟨only 135 [(2, .int .u64 y),(8, .int .u64 s),(9, .int .u64 yn1),(10, .int .u64 yn0),(11, .int .u64 un32),(12, .int .u64 un10),(13, .int .u64 un1),(14, .int .u64 un0),(15, .int .u64 q),(16, .int .u64 r)],[],11,[],[],0,none,[],11⟩
def TE1 (y s yn1 yn0 un32 un10 un1 un0 q:Int):St:=⟨only 135 [(2, .int .u64 y),(8, .int .u64 s),(9, .int .u64 yn1),(10, .int .u64 yn0),(11, .int .u64 un32),(12, .int .u64 un10),(13, .int .u64 un1),(14, .int .u64 un0),(15, .int .u64 q)],[],11,[],[],0,none,[],11⟩
def TD2 (y s yn1 yn0 un0 q1 un21 q r:Int):St:=⟨only 135 [(2, .int .u64 y),(8, .int .u64 s),(9, .int .u64 yn1),(10, .int .u64 yn0),(14, .int .u64 un0),(15, .int .u64 q1),(16, .int .u64 r),(17, .int .u64 un21),(18, .int .u64 q)],[],11,[],[],0,none,[],11⟩
def TE2 (y s yn1 yn0 un0 q1 un21 q:Int):St:=⟨only 135 [(2, .int .u64 y),(8, .int .u64 s),(9, .int .u64 yn1),(10, .int .u64 yn0),(14, .int .u64 un0),(15, .int .u64 q1),(17, .int .u64 un21),(18, .int .u64 q)],[],11,[],[],0,none,[],11⟩
noncomputable def S1 (hi lo y:Int):St:=startAt XW3 200 196 [.int .u64 hi, .int .u64 lo, .int .u64 y] J0.tabs 11 [false,false,false]
def dC (yn0 u q r:Int):Bool:=match decide (q≥4294967296) with
 | true=>true
 | false=>decide (IntKind.u64.wrap (q*yn0) > IntKind.u64.wrap (IntKind.u64.wrap (4294967296*r)+u))
section
variable (y s yn1 yn0 un32 un10 un1 un0 q r q1 un21:Int)
theorem d1_break (h:dC yn0 un1 q r=true) (h2:decide ((4294967296:Int)≤IntKind.u64.wrap (r+yn1))=true):Step XW3 cDiv1 (TD1 y s yn1 yn0 un32 un10 un1 un0 q r) (.exit 0) (TE1 y s yn1 yn0 un32 un10 un1 un0 (IntKind.u64.wrap (q-1))):=
 step_of (Base.cx_ok bW3_ok 10).1 progOk.mixed [] 200 [true,true] [] (l:=[decide ((4294967296:Int)≤IntKind.u64.wrap (r+yn1))=true,dC yn0 un1 q r=true]) (by kernel_rfl) ⟨h2,h,trivial⟩ (by kernel_rfl) (by kernel_rfl)
theorem d1_next (h:dC yn0 un1 q r=true) (h2:decide ((4294967296:Int)≤IntKind.u64.wrap (r+yn1))=false):Step XW3 cDiv1 (TD1 y s yn1 yn0 un32 un10 un1 un0 q r) .normal (TD1 y s yn1 yn0 un32 un10 un1 un0 (IntKind.u64.wrap (q-1)) (IntKind.u64.wrap (r+yn1))):=
 step_of (Base.cx_ok bW3_ok 10).1 progOk.mixed [] 200 [true,false] [] (l:=[decide ((4294967296:Int)≤IntKind.u64.wrap (r+yn1))=false,dC yn0 un1 q r=true]) (by kernel_rfl) ⟨h2,h,trivial⟩ (by kernel_rfl) (by kernel_rfl)
theorem d1_out (h:dC yn0 un1 q r=false):Step XW3 cDiv1 (TD1 y s yn1 yn0 un32 un10 un1 un0 q r) (.exit 0) (TE1 y s yn1 yn0 un32 un10 un1 un0 q):=
 step_of (Base.cx_ok bW3_ok 10).1 progOk.mixed [] 200 [false] [] (l:=[dC yn0 un1 q r=false]) (by kernel_rfl) ⟨h,trivial⟩ (by kernel_rfl) (by kernel_rfl)
theorem d2_break (h:dC yn0 un0 q r=true) (h2:decide ((4294967296:Int)≤IntKind.u64.wrap (r+yn1))=true):Step XW3 cDiv2 (TD2 y s yn1 yn0 un0 q1 un21 q r) (.exit 2) (TE2 y s yn1 yn0 un0 q1 un21 (IntKind.u64.wrap (q-1))):=
 step_of (Base.cx_ok bW3_ok 10).1 progOk.mixed [] 200 [true,true] [] (l:=[decide ((4294967296:Int)≤IntKind.u64.wrap (r+yn1))=true,dC yn0 un0 q r=true]) (by kernel_rfl) ⟨h2,h,trivial⟩ (by kernel_rfl) (by kernel_rfl)
theorem d2_next (h:dC yn0 un0 q r=true) (h2:decide ((4294967296:Int)≤IntKind.u64.wrap (r+yn1))=false):Step XW3 cDiv2 (TD2 y s yn1 yn0 un0 q1 un21 q r) .normal (TD2 y s yn1 yn0 un0 q1 un21 (IntKind.u64.wrap (q-1)) (IntKind.u64.wrap (r+yn1))):=
 step_of (Base.cx_ok bW3_ok 10).1 progOk.mixed [] 200 [true,false] [] (l:=[decide ((4294967296:Int)≤IntKind.u64.wrap (r+yn1))=false,dC yn0 un0 q r=true]) (by kernel_rfl) ⟨h2,h,trivial⟩ (by kernel_rfl) (by kernel_rfl)
theorem d2_out (h:dC yn0 un0 q r=false):Step XW3 cDiv2 (TD2 y s yn1 yn0 un0 q1 un21 q r) (.exit 2) (TE2 y s yn1 yn0 un0 q1 un21 q):=
 step_of (Base.cx_ok bW3_ok 10).1 progOk.mixed [] 200 [false] [] (l:=[dC yn0 un0 q r=false]) (by kernel_rfl) ⟨h,trivial⟩ (by kernel_rfl) (by kernel_rfl)
end
def dS (y:Int):Int:=IntKind.u64.wrap (IntKind.i64.wrap (64-len64 y))
def dSh (x s:Int):Int:=IntKind.u64.wrap (x*2 ^(min s.toNat 64))
def dHi (x:Int):Int:=x.fdiv 4294967296
def dLo (x:Int):Int:=bits .and .u64 x 4294967295
def dU (hi lo s:Int):Int:=bits .or .u64 (dSh hi s) (lo.fdiv (2 ^(min (IntKind.u64.wrap (64-s)).toNat 64)))
def dQ (u v:Int):Int:=IntKind.u64.wrap (u.tdiv v)
def dR (u v:Int):Int:=IntKind.u64.wrap (u-IntKind.u64.wrap (dQ u v*v))
def dN (u a q y:Int):Int:=IntKind.u64.wrap (IntKind.u64.wrap (IntKind.u64.wrap (u*4294967296)+a)-IntKind.u64.wrap (q*y))
section
variable (hi lo y s q yv yn1 yn0 un32 un10 un1 un0 q1 un21 q0:Int)
theorem d1_into (x:AX) (s':St) (h:LoopTo XW3 cDiv1 (TD1 (dSh y (dS y)) (dS y) (dHi (dSh y (dS y))) (dLo (dSh y (dS y))) (dU hi lo (dS y)) (dSh lo (dS y)) (dHi (dSh lo (dS y))) (dLo (dSh lo (dS y))) (dQ (dU hi lo (dS y)) (dHi (dSh y (dS y)))) (dR (dU hi lo (dS y)) (dHi (dSh y (dS y))))) x s'):
  LoopTo XW3 cDiv1 (S1 hi lo y) x s':=loop_into' h [] (by kernel_rfl) (by kernel_rfl) (by kernel_rfl)
end
noncomputable def codeOf (f:Nat):Code:=match nthF Tryz.prog.funcs.toList f with
 | some fn=>match fn.body with
  | some c=>c
  | none=> .skip
 | none=> .skip
noncomputable def S2 (hi lo y:Int) (e:St):St:=match evCode XW3 [told (.exit 0) (fun _=>e),fun s=>some (.exit 1000000,s)] 200 (codeOf 196) ⟨([.int .u64 hi, .int .u64 lo, .int .u64 y] :List Value).map .v++List.replicate 132 (.v undef),J0.tabs,11,[false,false,false],[],0,none,[],11⟩ with
 | some (_,s)=>s.core
 | none=>e
theorem div_way0 (hi lo y:Int):pureCall XW3 [] 200 196 [.int .u64 hi, .int .u64 lo, .int .u64 y] [false,false,true] =some (Value.tuple { toList:=[Value.int IntKind.u64 (IntKind.u64.wrap (lo.tdiv y)),Value.int IntKind.u64 (lo.tmod y)]},[y=0→False,y=0→False,(hi==Int.ofNat 0)=true,decide (y≤hi)=false,(y==Int.ofNat 0)=false]):=by kernel_rfl
theorem div_way (hi lo y yv s yn1 yn0 un32 un10 un1 un0 q1 un21 q0:Int):pureCall XW3 [told (.exit 0) (fun _=>TE1 yv s yn1 yn0 un32 un10 un1 un0 q1),told (.exit 2) (fun _=>TE2 yv s yn1 yn0 un0 q1 un21 q0)] 200 196 [.int .u64 hi, .int .u64 lo, .int .u64 y] [false,false,false] =some (Value.tuple { toList:=[Value.int IntKind.u64 (IntKind.u64.wrap (IntKind.u64.wrap (q1*Int.ofNat 4294967296)+q0)),Value.int IntKind.u64 ((IntKind.u64.wrap (IntKind.u64.wrap (IntKind.u64.wrap (un21*Int.ofNat 4294967296)+un0)-IntKind.u64.wrap (q0*yv))).fdiv (Int.ofNat (2 ^min s.toNat 64)))]},[Int.ofNat 0≤s,LoopTo XW3 cDiv2 (S2 hi lo y (TE1 yv s yn1 yn0 un32 un10 un1 un0 q1)) (.exit 2) (TE2 yv s yn1 yn0 un0 q1 un21 q0),yn1=0→False,LoopTo XW3 cDiv1 (S1 hi lo y) (.exit 0) (TE1 yv s yn1 yn0 un32 un10 un1 un0 q1),(IntKind.u64.wrap (y*2 ^min (IntKind.u64.wrap (IntKind.i64.wrap (64-len64 y))).toNat IntKind.u64.bits)).fdiv (2 ^min (Int.toNat 32) IntKind.u64.bits)=0→False,Int.ofNat 0≤IntKind.u64.wrap (IntKind.i64.wrap (Int.ofNat 64-len64 y)),Int.ofNat 0≤IntKind.u64.wrap (Int.ofNat 64-IntKind.u64.wrap (IntKind.i64.wrap (Int.ofNat 64-len64 y))),Int.ofNat 0≤IntKind.u64.wrap (IntKind.i64.wrap (Int.ofNat 64-len64 y)),Int.ofNat 0≤IntKind.u64.wrap (IntKind.i64.wrap (Int.ofNat 64-len64 y)),Int.ofNat 0≤y∧y < Int.ofNat 18446744073709551616,(hi==Int.ofNat 0)=false,decide (y≤hi)=false,(y==Int.ofNat 0)=false]):=by kernel_rfl
theorem d2_into (hi lo y yv s yn1 yn0 un32 un10 un1 un0 q1:Int) (x:AX) (s':St) (h:LoopTo XW3 cDiv2 (TD2 yv s yn1 yn0 un0 q1 (dN un32 un1 q1 yv) (dQ (dN un32 un1 q1 yv) yn1) (dR (dN un32 un1 q1 yv) yn1)) x s'):
  LoopTo XW3 cDiv2 (S2 hi lo y (TE1 yv s yn1 yn0 un32 un10 un1 un0 q1)) x s':=loop_into' h [] (by kernel_rfl) (by kernel_rfl) (by kernel_rfl)
theorem u64_of {n:Nat} (h:n < 18446744073709551616):IntKind.u64.wrap (n:Int)=n:=by
 have:=IntKind.wrap_u64 (n:Int)
 omega
theorem knuth {X:Cx} {c:Code} {x:AX} (hx:x≠ .normal) (S:Int→Int→St) (E:Int→St) {Y y1 y0 U u:Nat} (hY:Y=y1*4294967296+y0) (h1:2147483648≤y1) (h2:y1 < 4294967296) (h3:y0 < 4294967296) (hU:U < Y) (hu:u < 4294967296)
  (s1:∀ q r:Int,dC y0 u q r=true→decide ((4294967296:Int)≤IntKind.u64.wrap (r+(y1:Int)))=true→Step X c (S q r) x (E (IntKind.u64.wrap (q-1))))
  (s2:∀ q r:Int,dC y0 u q r=true→decide ((4294967296:Int)≤IntKind.u64.wrap (r+(y1:Int)))=false→Step X c (S q r) .normal (S (IntKind.u64.wrap (q-1)) (IntKind.u64.wrap (r+(y1:Int)))))
  (s3:∀ q r:Int,dC y0 u q r=false→Step X c (S q r) x (E q)):
  LoopTo X c (S ((U/y1:Nat):Int) ((U%y1:Nat):Int)) x (E (((U*4294967296+u)/Y:Nat):Int)):=by
 have hYp:0 < Y:=by omega
 have hT:∀ q:Nat,q*Y≤U*4294967296+u↔q≤(U*4294967296+u)/Y:=fun q=>(Nat.le_div_iff_mul_le hYp).symm
 have hTB:(U*4294967296+u)/Y < 4294967296:=by
  rw [Nat.div_lt_iff_lt_mul hYp]
  have:(U+1)*4294967296≤Y*4294967296:=Nat.mul_le_mul_right _ hU
  omega
 have hT0:∀ q:Nat,U*4294967296+u < (q+1)*Y→(U*4294967296+u)/Y≤q:=fun q h=>by
  have:=(Nat.div_lt_iff_lt_mul hYp).2 h
  omega
 generalize (U*4294967296+u)/Y=t at*
 have hmul:∀ q:Nat,q*Y=q*y1*4294967296+q*y0:=fun q=>by rw [hY,Nat.mul_add,Nat.mul_assoc]
 have e0:U-U/y1*y1=U%y1:=by
  have hd:=Nat.div_add_mod U y1
  rw [Nat.mul_comm] at hd
  omega
 rw [← e0]
 refine loop_of (fun q:Nat=>S q ((U-q*y1:Nat):Int)) id (fun q=>t≤q∧q*y1≤U∧U-q*y1 < 4294967296) hx (fun q hq=> ?_) (U/y1) ?_
 ·obtain⟨g1,g2,g3⟩:=hq
  have hle:q≤4294967300:=by
   rcases Nat.lt_or_ge 4294967300 q with h | h
   ·have:4294967301*y1≤q*y1:=Nat.mul_le_mul_right _ h
    omega
   ·exact h
  have em:=hmul q
  have hqt:=hT q
  generalize hm:q*y1=m at*
  have hq0:q < 4294967296→q*y0 < 18446744073709551616:=fun h=>by
   have:q*y0≤4294967295*4294967295:=Nat.mul_le_mul (by omega) (by omega)
   omega
  have hwr:IntKind.u64.wrap (IntKind.u64.wrap (4294967296*((U-m:Nat):Int))+(u:Int))=((4294967296*(U-m)+u:Nat):Int):=by
   have e1:(4294967296:Int)*((U-m:Nat):Int)=((4294967296*(U-m):Nat):Int):=by omega
   rw [e1,u64_of (by omega)]
   have e2:((4294967296*(U-m):Nat):Int)+(u:Int)=((4294967296*(U-m)+u:Nat):Int):=by omega
   rw [e2,u64_of (by omega)]
  have hc:dC y0 u (q:Int) ((U-m:Nat):Int)=true↔t < q:=by
   unfold dC
   by_cases hb:4294967296≤q
   ·have:decide ((q:Int)≥4294967296)=true:=by simp; omega
    rw [this]
    simp only [true_iff]
    omega
   ·have:decide ((q:Int)≥4294967296)=false:=by simp; omega
    rw [this,hwr]
    have e3:(q:Int)*(y0:Int)=((q*y0:Nat):Int):=by rw [Int.natCast_mul]
    rw [e3,u64_of (hq0 (by omega))]
    simp only [decide_eq_true_eq]
    omega
  by_cases hcond:dC y0 u (q:Int) ((U-m:Nat):Int)=true
  ·have hlt:=hc.1 hcond
   have ew:IntKind.u64.wrap ((q:Int)-1)=((q-1:Nat):Int):=by
    have:(q:Int)-1=((q-1:Nat):Int):=by omega
    rw [this,u64_of (by omega)]
   have er:IntKind.u64.wrap (((U-m:Nat):Int)+(y1:Int))=((U-m+y1:Nat):Int):=by
    have:((U-m:Nat):Int)+(y1:Int)=((U-m+y1:Nat):Int):=by omega
    rw [this,u64_of (by omega)]
   have hm1:(q-1)*y1+y1=m:=by
    rw [← hm,← Nat.succ_mul]
    congr 1
    omega
   have em1:=hmul (q-1)
   have hqt1:=hT (q-1)
   generalize hm2:(q-1)*y1=m1 at*
   by_cases hbr:4294967296≤U-m+y1
   ·right
    have:=s1 q ((U-m:Nat):Int) hcond (by rw [er]; simp only [decide_eq_true_eq]; omega)
    rw [ew] at this
    have hqB:q-1 < 4294967296:=by
     rcases Nat.lt_or_ge (q-1) 4294967296 with h | h
     ·exact h
     ·have:4294967296*y1≤(q-1)*y1:=Nat.mul_le_mul_right _ h
      omega
    have hq1:(q-1)*y0≤4294967295*4294967295:=Nat.mul_le_mul (by omega) (by omega)
    have he:q-1=t:=by
     apply Nat.le_antisymm
     ·rw [← hqt1]
      omega
     ·omega
    rw [← he]
    exact this
   ·left
    have:=s2 q ((U-m:Nat):Int) hcond (by rw [er]; simp only [decide_eq_false_iff_not]; omega)
    rw [ew,er] at this
    refine⟨q-1,⟨by omega,by rw [hm2]; omega,by rw [hm2]; omega⟩,by simp only [id]; omega,?_⟩
    rw [hm2]
    have e:U-m1=U-m+y1:=by omega
    rw [e]
    exact this
  ·right
   have hcond':dC y0 u (q:Int) ((U-m:Nat):Int)=false:=by simpa using hcond
   have he:q=t:=by
    have:¬ t < q:=fun h=>hcond (hc.2 h)
    omega
   rw [← he]
   exact s3 q _ hcond'
 ·have hd:=Nat.div_add_mod U y1
  have hmd:U%y1 < y1:=Nat.mod_lt _ (by omega)
  rw [Nat.mul_comm] at hd
  refine⟨?_,by omega,by omega⟩
  refine hT0 _ ?_
  have:(U*4294967296+u) < (U/y1+1)*Y:=by
   have e:=hmul (U/y1+1)
   have e2:(U/y1+1)*y1=U/y1*y1+y1:=by rw [Nat.add_mul,Nat.one_mul]
   omega
  exact this
theorem dHi_nat (n:Nat):dHi n=((n/4294967296:Nat):Int):=by unfold dHi; rw [Int.fdiv_eq_ediv_of_nonneg _ (by omega)]; omega
theorem dLo_nat {n:Nat} (h:n < 18446744073709551616):dLo n=((n%4294967296:Nat):Int):=by
 unfold dLo
 have:=bits_and_u64_nat n 4294967295 h (by omega)
 have e:n&&& 4294967295=n%4294967296:=Nat.and_two_pow_sub_one_eq_mod n 32
 rw [e] at this
 exact this
theorem dQ_nat {u v:Nat} (hu:u < 18446744073709551616):dQ u v=((u/v:Nat):Int):=by
 unfold dQ
 have:(u:Int).tdiv (v:Int)=((u/v:Nat):Int):=(Int.ofNat_tdiv u v).symm
 rw [this,u64_of (Nat.lt_of_le_of_lt (Nat.div_le_self u v) hu)]
theorem dR_nat {u v:Nat} (hu:u < 18446744073709551616) (hv:v < 18446744073709551616) (hv0:0 < v):dR u v=((u%v:Nat):Int):=by
 unfold dR
 rw [dQ_nat hu]
 have hd:=Nat.div_add_mod u v
 rw [Nat.mul_comm] at hd
 have e:((u/v:Nat):Int)*(v:Int)=((u/v*v:Nat):Int):=by rw [Int.natCast_mul]
 have hm:=Nat.mod_lt u hv0
 rw [e,u64_of (by omega)]
 have e2:(u:Int)- ((u/v*v:Nat):Int)=((u%v:Nat):Int):=by omega
 rw [e2,u64_of (by omega)]
theorem dN_nat {u a q y r:Nat} (h:u*4294967296+a=q*y+r) (hr:r < 18446744073709551616):dN u a q y=(r:Int):=by
 unfold dN
 simp only [IntKind.wrap_u64]
 have e1:(q:Int)*(y:Int)=((q*y:Nat):Int):=by rw [Int.natCast_mul]
 rw [e1]
 generalize q*y=m at*
 omega
theorem dSh_nat {x s:Nat} (hs:s≤64):dSh x s=((x*2 ^s%18446744073709551616:Nat):Int):=by
 unfold dSh
 rw [Int.toNat_natCast,Nat.min_eq_left hs,IntKind.wrap_u64]
 have:(x:Int)*2 ^s=((x*2 ^s:Nat):Int):=by rw [Int.natCast_mul,Int.natCast_pow]; rfl
 rw [this]
 omega
theorem dU_nat {hi lo s:Nat} (hs:s≤64) (h1:hi*2 ^s < 18446744073709551616) (h2:lo < 18446744073709551616):dU hi lo s=((hi*2 ^s+lo/2 ^(64-s):Nat):Int):=by
 unfold dU
 rw [dSh_nat hs,Nat.mod_eq_of_lt h1]
 have e1:IntKind.u64.wrap (64- (s:Int))=((64-s:Nat):Int):=by
  have:(64:Int)- (s:Int)=((64-s:Nat):Int):=by omega
  rw [this,u64_of (by omega)]
 have e2:(lo:Int).fdiv (2 ^(min (IntKind.u64.wrap (64- (s:Int))).toNat 64))=((lo/2 ^(64-s):Nat):Int):=by
  rw [e1,Int.toNat_natCast,Nat.min_eq_left (by omega),Int.fdiv_eq_ediv_of_nonneg _ (by
   have:(0:Int) < 2 ^(64-s):=Int.pow_pos (by decide)
   omega),Int.natCast_ediv,Int.natCast_pow]
  rfl
 rw [e2]
 have hlt:lo/2 ^(64-s) < 2 ^s:=by
  rw [Nat.div_lt_iff_lt_mul (Nat.two_pow_pos _),← Nat.pow_add]
  have:s+(64-s)=64:=by omega
  rw [this]
  exact h2
 have hlt2:lo/2 ^(64-s) < 18446744073709551616:=Nat.lt_of_le_of_lt (Nat.div_le_self _ _) h2
 rw [bits_or_u64_nat _ _ h1 hlt2]
 have:=Nat.shiftLeft_add_eq_or_of_lt hlt hi
 rw [Nat.shiftLeft_eq] at this
 rw [this]
theorem div64_pure {hi lo y:Nat} (h1:hi < y) (h2:lo < 18446744073709551616) (h3:y < 18446744073709551616):
  Pure Tryz.prog J0 196 [.int .u64 hi, .int .u64 lo, .int .u64 y] (.tuple ⟨[.int .u64 (((hi*18446744073709551616+lo)/y:Nat):Int), .int .u64 (((hi*18446744073709551616+lo)%y:Nat):Int)]⟩):=by
 have hy0:0 < y:=by omega
 have d1:((y:Int)==Int.ofNat 0)=false:=by simp; omega
 have d2:decide ((y:Int)≤(hi:Int))=false:=by simp; omega
 by_cases hh:hi=0
 ·subst hh
  have:=pure_of bW3_ok 10 [] _ (div_way0 ((0:Nat):Int) lo y) ⟨by omega,by omega,rfl,d2,d1,trivial⟩
  have e1:IntKind.u64.wrap ((lo:Int).tdiv (y:Int))=((lo/y:Nat):Int):=by
   have:(lo:Int).tdiv (y:Int)=((lo/y:Nat):Int):=(Int.ofNat_tdiv lo y).symm
   rw [this,u64_of (Nat.lt_of_le_of_lt (Nat.div_le_self _ _) h2)]
  have e2:(lo:Int).tmod (y:Int)=((lo%y:Nat):Int):=(Int.ofNat_tmod lo y).symm
  rw [e1,e2] at this
  have e3:0*18446744073709551616+lo=lo:=by omega
  rw [e3]
  exact this
 ·have hd0:((hi:Int)==Int.ofNat 0)=false:=by simp; omega
  have hbl:=bl_le.2 (show y < 2 ^64 from h3)
  have hbp:=bl_pos.2 hy0
  obtain⟨s,hs⟩:∃ s,s=64-bl y:=⟨_,rfl⟩
  have hs64:s≤64:=by omega
  have hsV:dS y=(s:Int):=by
   unfold dS len64
   rw [Int.toNat_natCast]
   have e:(64:Int)- ((bl y:Nat):Int)=(s:Int):=by omega
   rw [e,wrap_nat (by omega),u64_of (by omega)]
  have hp:2 ^64=(18446744073709551616:Nat):=by decide
  have hYlt:y*2 ^s < 18446744073709551616:=by
   have:=lt_bl y
   have:y*2 ^s < 2 ^bl y*2 ^s:=Nat.mul_lt_mul_of_pos_right this (Nat.two_pow_pos s)
   rw [← Nat.pow_add,show bl y+s=64 by omega,hp] at this
   exact this
  have hYge:9223372036854775808≤y*2 ^s:=by
   have:=bl_top hy0
   have:2 ^(bl y-1)*2 ^s≤y*2 ^s:=Nat.mul_le_mul_right _ this
   rw [← Nat.pow_add,show bl y-1+s=63 by omega] at this
   exact this
  have hyV:dSh y s=((y*2 ^s:Nat):Int):=by rw [dSh_nat hs64,Nat.mod_eq_of_lt hYlt]
  have hhiS:hi*2 ^s+2 ^s≤y*2 ^s:=by
   have:(hi+1)*2 ^s≤y*2 ^s:=Nat.mul_le_mul_right _ h1
   rw [Nat.add_mul,Nat.one_mul] at this
   exact this
  have hloS:lo/2 ^(64-s) < 2 ^s:=by
   rw [Nat.div_lt_iff_lt_mul (Nat.two_pow_pos _),← Nat.pow_add,show s+(64-s)=64 by omega]
   exact h2
  have hU:dU hi lo s=((hi*2 ^s+lo/2 ^(64-s):Nat):Int):=dU_nat hs64 (Nat.lt_of_le_of_lt (Nat.le_add_right _ _) (Nat.lt_of_le_of_lt hhiS hYlt)) h2
  have hL:dSh lo s=((lo*2 ^s%18446744073709551616:Nat):Int):=dSh_nat hs64
  have hN:(hi*18446744073709551616+lo)*2 ^s=(hi*2 ^s+lo/2 ^(64-s))*18446744073709551616+lo*2 ^s%18446744073709551616:=by
   have e1:lo*2 ^s/18446744073709551616=lo/2 ^(64-s):=by
    have:(18446744073709551616:Nat)=2 ^(64-s)*2 ^s:=by rw [← Nat.pow_add,show 64-s+s=64 by omega]
    rw [this,Nat.mul_div_mul_right _ _ (Nat.two_pow_pos s)]
   have:=Nat.div_add_mod (lo*2 ^s) 18446744073709551616
   rw [e1] at this
   rw [Nat.add_mul,Nat.add_mul,Nat.mul_right_comm]
   omega
  generalize hYe:y*2 ^s=Y at*
  generalize hUe:hi*2 ^s+lo/2 ^(64-s)=U at*
  generalize hLe:lo*2 ^s%18446744073709551616=L at*
  have hLlt:L < 18446744073709551616:=by rw [← hLe]; exact Nat.mod_lt _ (by decide)
  have hUY:U < Y:=by omega
  have hY1:Y=Y/4294967296*4294967296+Y%4294967296:=by omega
  have L1:=knuth (X:=XW3) (c:=cDiv1) (x:= .exit 0) (by intro e; cases e) (fun q r=>TD1 Y s (Y/4294967296:Nat) (Y%4294967296:Nat) U L (L/4294967296:Nat) (L%4294967296:Nat) q r) (fun q=>TE1 Y s (Y/4294967296:Nat) (Y%4294967296:Nat) U L (L/4294967296:Nat) (L%4294967296:Nat) q)
   (Y:=Y) (y1:=Y/4294967296) (y0:=Y%4294967296) (U:=U) (u:=L/4294967296) hY1 (by omega) (by omega) (by omega) hUY (by omega) (fun q r=>d1_break _ _ _ _ _ _ _ _ q r) (fun q r=>d1_next _ _ _ _ _ _ _ _ q r) (fun q r=>d1_out _ _ _ _ _ _ _ _ q r)
  have hq1:(U*4294967296+L/4294967296)/Y*Y+(U*4294967296+L/4294967296)%Y=U*4294967296+L/4294967296:=by
   have:=Nat.div_add_mod (U*4294967296+L/4294967296) Y
   rw [Nat.mul_comm] at this
   exact this
  have hR1:(U*4294967296+L/4294967296)%Y < Y:=Nat.mod_lt _ (by omega)
  have hT1:(U*4294967296+L/4294967296)/Y < 4294967296:=by
   rw [Nat.div_lt_iff_lt_mul (by omega)]
   have:(U+1)*4294967296≤Y*4294967296:=Nat.mul_le_mul_right _ hUY
   omega
  obtain⟨q1,hq1e⟩:∃ q1,q1=(U*4294967296+L/4294967296)/Y:=⟨_,rfl⟩
  obtain⟨R1,hR1e⟩:∃ R1,R1=(U*4294967296+L/4294967296)%Y:=⟨_,rfl⟩
  rw [← hq1e] at L1 hq1 hT1
  rw [← hR1e] at hq1 hR1
  have L2:=knuth (X:=XW3) (c:=cDiv2) (x:= .exit 2) (by intro e; cases e) (fun q r=>TD2 Y s (Y/4294967296:Nat) (Y%4294967296:Nat) (L%4294967296:Nat) q1 R1 q r) (fun q=>TE2 Y s (Y/4294967296:Nat) (Y%4294967296:Nat) (L%4294967296:Nat) q1 R1 q)
   (Y:=Y) (y1:=Y/4294967296) (y0:=Y%4294967296) (U:=R1) (u:=L%4294967296) hY1 (by omega) (by omega) (by omega) hR1 (by omega) (fun q r=>d2_break _ _ _ _ _ q r _ _) (fun q r=>d2_next _ _ _ _ _ q r _ _) (fun q r=>d2_out _ _ _ _ _ q r _ _)
  have hq0:(R1*4294967296+L%4294967296)/Y*Y+(R1*4294967296+L%4294967296)%Y=R1*4294967296+L%4294967296:=by
   have:=Nat.div_add_mod (R1*4294967296+L%4294967296) Y
   rw [Nat.mul_comm] at this
   exact this
  have hR0:(R1*4294967296+L%4294967296)%Y < Y:=Nat.mod_lt _ (by omega)
  have hT0:(R1*4294967296+L%4294967296)/Y < 4294967296:=by
   rw [Nat.div_lt_iff_lt_mul (by omega)]
   have:(R1+1)*4294967296≤Y*4294967296:=Nat.mul_le_mul_right _ hR1
   omega
  obtain⟨q0,hq0e⟩:∃ q0,q0=(R1*4294967296+L%4294967296)/Y:=⟨_,rfl⟩
  obtain⟨R0,hR0e⟩:∃ R0,R0=(R1*4294967296+L%4294967296)%Y:=⟨_,rfl⟩
  rw [← hq0e] at L2 hq0 hT0
  rw [← hR0e] at hq0 hR0
  have hall:(hi*18446744073709551616+lo)*2 ^s=(q1*4294967296+q0)*Y+R0:=by
   rw [hN,Nat.add_mul,Nat.mul_right_comm]
   omega
  have hres:(hi*18446744073709551616+lo)/y=q1*4294967296+q0∧R0=(hi*18446744073709551616+lo)%y*2 ^s:=by
   have e1:(hi*18446744073709551616+lo)*2 ^s/ (y*2 ^s)=(hi*18446744073709551616+lo)/y:=Nat.mul_div_mul_right _ _ (Nat.two_pow_pos s)
   have e2:(hi*18446744073709551616+lo)*2 ^s%(y*2 ^s)=(hi*18446744073709551616+lo)%y*2 ^s:=Nat.mul_mod_mul_right _ _ _
   have hall':(hi*18446744073709551616+lo)*2 ^s=Y*(q1*4294967296+q0)+R0:=by rw [hall,Nat.mul_comm Y]
   have hY0:0 < Y:=by omega
   rw [hYe,hall'] at e1 e2
   rw [Nat.mul_add_div hY0,Nat.div_eq_of_lt hR0,Nat.add_zero] at e1
   rw [Nat.mul_add_mod,Nat.mod_eq_of_lt hR0] at e2
   exact⟨e1.symm,e2⟩
  have hin1:=d1_into hi lo y (.exit 0) (TE1 Y s (Y/4294967296:Nat) (Y%4294967296:Nat) U L (L/4294967296:Nat) (L%4294967296:Nat) q1) (by
   rw [hsV,hyV,hU,hL,dHi_nat,dLo_nat hYlt,dHi_nat,dLo_nat hLlt,dQ_nat (by omega),dR_nat (by omega) (by omega) (by omega)]
   exact L1)
  have hdn:dN U (L/4294967296:Nat) q1 Y=(R1:Int):=dN_nat hq1.symm (by omega)
  have hin2:=d2_into hi lo y Y s (Y/4294967296:Nat) (Y%4294967296:Nat) U L (L/4294967296:Nat) (L%4294967296:Nat) q1 (.exit 2) (TE2 Y s (Y/4294967296:Nat) (Y%4294967296:Nat) (L%4294967296:Nat) q1 R1 q0) (by
   rw [hdn,dQ_nat (by omega),dR_nat (by omega) (by omega) (by omega)]
   exact L2)
  have hyn1:(IntKind.u64.wrap ((y:Int)*2 ^min (IntKind.u64.wrap (IntKind.i64.wrap (64-len64 y))).toNat IntKind.u64.bits)).fdiv (2 ^min (Int.toNat 32) IntKind.u64.bits)=((Y/4294967296:Nat):Int):=by
   have:dHi (dSh y (dS y))=((Y/4294967296:Nat):Int):=by rw [hsV,hyV,dHi_nat]
   exact this
  have hsx:Int.ofNat 0≤IntKind.u64.wrap (IntKind.i64.wrap (Int.ofNat 64-len64 y)):=by
   have:dS y=(s:Int):=hsV
   show (0:Int)≤dS y
   omega
  have hsx2:Int.ofNat 0≤IntKind.u64.wrap (Int.ofNat 64-IntKind.u64.wrap (IntKind.i64.wrap (Int.ofNat 64-len64 y))):=by
   show (0:Int)≤IntKind.u64.wrap (64-dS y)
   rw [hsV]
   have:=IntKind.wrap_u64 (64- (s:Int))
   omega
  have:=pure_of bW3_ok 10 _ _ (div_way hi lo y Y s (Y/4294967296:Nat) (Y%4294967296:Nat) U L (L/4294967296:Nat) (L%4294967296:Nat) q1 R1 q0) ⟨by simp,hin2,by omega,hin1,by rw [hyn1]; omega,hsx,hsx2,hsx,hsx,⟨by simp,by simp only [Int.ofNat_eq_natCast]; omega⟩,hd0,d2,d1,trivial⟩
  have f1:IntKind.u64.wrap (IntKind.u64.wrap ((q1:Int)*Int.ofNat 4294967296)+(q0:Int))=(((hi*18446744073709551616+lo)/y:Nat):Int):=by
   rw [hres.1]
   simp only [IntKind.wrap_u64,Int.ofNat_eq_natCast]
   omega
  have f2:(IntKind.u64.wrap (IntKind.u64.wrap (IntKind.u64.wrap ((R1:Int)*Int.ofNat 4294967296)+((L%4294967296:Nat):Int))-IntKind.u64.wrap ((q0:Int)*(Y:Int)))).fdiv (Int.ofNat (2 ^min (s:Int).toNat 64))=(((hi*18446744073709551616+lo)%y:Nat):Int):=by
   have e:dN R1 (L%4294967296:Nat) q0 Y=(R0:Int):=dN_nat hq0.symm (by omega)
   have e':IntKind.u64.wrap (IntKind.u64.wrap (IntKind.u64.wrap ((R1:Int)*Int.ofNat 4294967296)+((L%4294967296:Nat):Int))-IntKind.u64.wrap ((q0:Int)*(Y:Int)))=(R0:Int):=e
   rw [e',Int.toNat_natCast,Nat.min_eq_left hs64,Int.fdiv_eq_ediv_of_nonneg (R0:Int) (show (0:Int)≤Int.ofNat (2 ^s) from Int.natCast_nonneg _),hres.2]
   have:=Nat.mul_div_cancel ((hi*18446744073709551616+lo)%y) (Nat.two_pow_pos s)
   show (((hi*18446744073709551616+lo)%y*2 ^s:Nat):Int)/ ((2 ^s:Nat):Int)=_
   rw [← Int.natCast_ediv,this]
  rw [f1,f2] at this
  exact this
def divQ (hi lo y:Int):Int:=(((hi.toNat*18446744073709551616+lo.toNat)/y.toNat:Nat):Int)
def divR (hi lo y:Int):Int:=(((hi.toNat*18446744073709551616+lo.toNat)%y.toNat:Nat):Int)
def specDiv64:List Value→Option (Value×List Prop)
 | [.int .u64 hi, .int .u64 lo, .int .u64 y] =>some (.tuple ⟨[.int .u64 (divQ hi lo y), .int .u64 (divR hi lo y)]⟩,[(0≤hi∧hi < y)∧(0≤lo∧lo < 18446744073709551616)∧y < 18446744073709551616])
 | _=>none
theorem specDiv64_ok (args:List Value) (v:Value) (l:List Prop) (h:specDiv64 args=some (v,l)) (hl:allP l):Pure Tryz.prog J0 196 args v:=by
 unfold specDiv64 at h
 split at h
 case h_2=>cases h
 rename_i hi lo y
 cases h
 obtain⟨⟨h1,h2⟩,⟨h3,h4⟩,h5⟩:=hl.1
 have:=div64_pure (hi:=hi.toNat) (lo:=lo.toNat) (y:=y.toNat) (by omega) (by omega) (by omega)
 rw [Int.toNat_of_nonneg h1,Int.toNat_of_nonneg h3,Int.toNat_of_nonneg (by omega:0≤y)] at this
 exact this
noncomputable def tabW4:Tab:=tabAdd 196 specDiv64 tabW3
theorem tabW4_ok:PcOk Tryz.prog J0 tabW4:=tabAdd_ok specDiv64_ok tabW3_ok
noncomputable def bW4:Base:=⟨Tryz.prog,J0,false,tabW4,mtabW1,200,xtN0⟩
theorem bW4_ok:BaseOk bW4:=⟨progOk,tabW4_ok,mtabW1_ok,xtN0_ok⟩
noncomputable abbrev XW4:Cx:=bW4.cx 10
end Go.Proofs.YtdgfhijnconaoaaGreatDoor
namespace Go.Proofs.YtdgfhijnconaoaaGreatDoor
open Go Go.RowKit Ev Wd
noncomputable def cSho:Code:=loopAt Tryz.prog 143 0
def TSho (a:Bool) (xs L:List Int) (na N:Nat) (d r i:Int):St:=
 ⟨only 38 [(1, .int .u64 d),(2, .pointer (some ⟨13,0,none⟩)),(4, .pointer (some ⟨14,0,none⟩)),(6,slV 15 N),(7, .int .u64 r),(8, .int .i64 i)],[(15, .row u64T 1 (.ints .u64 L) 16),(14, .cells [.bool false, .slice none 0 0] intT),(13, .cells [.bool a,slV 11 na] intT),(11, .ints .u64 xs)],17,[],[],0,none,[],13⟩
theorem sho_next (a:Bool) (xs L:List Int) (na N:Nat) (d r i:Int) (hl:allP [i.toNat < L.length,(Int.ofNat 0≤i∧i < Int.ofNat N)∧0 < L.length,(Int.ofNat 0≤r∧r < d)∧(Int.ofNat 0≤xs.getD i.toNat (Int.ofNat 0)∧xs.getD i.toNat (Int.ofNat 0) < Int.ofNat 18446744073709551616)∧d < Int.ofNat 18446744073709551616,i.toNat < xs.length,(Int.ofNat 0≤i∧i < Int.ofNat na)∧0 < xs.length,decide (Int.ofNat 0≤i)=true]):Step XW4 cSho (TSho a xs L na N d r i) .normal (TSho a xs (setF L i.toNat (divQ r (xs.getD i.toNat 0) d)) na N d (divR r (xs.getD i.toNat 0) d) (IntKind.i64.wrap (i-1))):=
 step_of (Base.cx_ok bW4_ok 10).1 progOk.mixed [] 200 [true] [] (by kernel_rfl) hl (by kernel_rfl) (by kernel_rfl)
theorem sho_out (a:Bool) (xs L:List Int) (na N:Nat) (d r i:Int) (hl:allP [decide (Int.ofNat 0≤i)=false]):Step XW4 cSho (TSho a xs L na N d r i) (.exit 0) (TSho a xs L na N d r i):=
 step_of (Base.cx_ok bW4_ok 10).1 progOk.mixed [] 200 [false] [] (by kernel_rfl) hl (by kernel_rfl) (by kernel_rfl)
theorem sho_way (a s:Bool) (xs L R:List Int) (na N:Nat) (d r i q:Int):semR XW4 [told (.exit 0) (fun _=>TSho a xs L na N d r i)] 200 143 [iL a xs,uR d] [iL s R,uR q] [] =some [0=0∧0+N≤L.length∧L.length < 1099511627776,LoopTo XW4 cSho (semStart XW4 200 143 [iL a xs,uR d] []) (.exit 0) (TSho a xs L na N d r i),Int.ofNat 0≤Int.ofNat xs.length∧Int.ofNat xs.length=Int.ofNat xs.length∧Int.ofNat (8*xs.length)≤Int.ofNat 281474976710656∧Int.ofNat xs.length≤Int.ofNat 9223372036854775807,Value.bool false=Value.bool s,(trimW (List.take N L)).length=R.length∧(trimW (List.take N L)).length≤L.length∧List.take (trimW (List.take N L)).length L=R,Value.int IntKind.u64 r=Value.int IntKind.u64 q] :=by kernel_rfl
theorem sho_into (a:Bool) (xs:List Int) (d:Int) (x:AX) (s':St) (h:LoopTo XW4 cSho (TSho a xs (List.replicate xs.length 0) xs.length xs.length d 0 (IntKind.i64.wrap ((xs.length:Int)-1))) x s'):LoopTo XW4 cSho (semStart XW4 200 143 [iL a xs,uR d] []) x s':=
 loop_into' h [] (by kernel_rfl) (by kernel_rfl) (by kernel_rfl)
structure ISh where
 m:Nat
 r:Nat
 L:List Int
def goodS (xs:List Int) (d:Nat) (p:ISh):Prop:=
 p.m≤xs.length∧p.L.length=xs.length∧Dg W64 p.L∧val W64 (p.L.drop p.m)=val W64 (xs.drop p.m)/d∧p.r=val W64 (xs.drop p.m)%d
theorem wrap_pred {n:Nat} (h:n < 1099511627776):IntKind.i64.wrap ((n:Int)-1)=(n:Int)-1:=by
 have:=IntKind.wrap_i64 ((n:Int)-1)
 omega
theorem drop_set {l:List Int} {m:Nat} (h:m < l.length) (x:Int):(l.set m x).drop m=x ::l.drop (m+1):=by
 rw [List.drop_eq_getElem_cons (by simpa using h)]
 congr 1
 ·simp
 ·apply List.ext_getElem?
  intro j
  rw [List.getElem?_drop,List.getElem?_drop,List.getElem?_set_ne (by omega)]
def shN (xs:List Int) (d:Nat) (p:ISh):ISh:=
 ⟨p.m-1,(p.r*18446744073709551616+(xs.getD (p.m-1) 0).toNat)%d,p.L.set (p.m-1) (((p.r*18446744073709551616+(xs.getD (p.m-1) 0).toNat)/d:Nat):Int)⟩
theorem short_loop (a:Bool) {xs:List Int} (hx:Dg W64 xs) (hb:xs.length < 1099511627776) {d:Nat} (hd0:0 < d) (hd:d < W64):
  LoopTo XW4 cSho (TSho a xs (List.replicate xs.length 0) xs.length xs.length d 0 ((xs.length:Int)-1)) (.exit 0) (TSho a xs (itr (shN xs d) xs.length ⟨xs.length,0,List.replicate xs.length 0⟩).L xs.length xs.length d ((val W64 xs%d:Nat):Int) (-1))∧
  (itr (shN xs d) xs.length ⟨xs.length,0,List.replicate xs.length 0⟩).L.length=xs.length∧trimW (itr (shN xs d) xs.length ⟨xs.length,0,List.replicate xs.length 0⟩).L=ws W64 (val W64 xs/d):=by
 have hd':d < 18446744073709551616:=hd
 have step:∀ p:ISh,goodS xs d p→0 < p.m→goodS xs d (shN xs d p)∧Step XW4 cSho (TSho a xs p.L xs.length xs.length d p.r ((p.m:Int)-1)) .normal (TSho a xs (shN xs d p).L xs.length xs.length d (shN xs d p).r (((shN xs d p).m:Int)-1)):=by
  intro p ⟨h1,h2,h3,h4,h5⟩ hm
  obtain⟨m,hmm⟩:∃ m,p.m=m+1:=⟨p.m-1,by omega⟩
  have hml:m < xs.length:=by omega
  have gx:=hx.get W64_pos m
  have hr:p.r < d:=by rw [h5]; exact Nat.mod_lt _ hd0
  have hW:((W64:Nat):Int)=18446744073709551616:=rfl
  rw [hW] at gx
  obtain⟨x,hxe⟩:∃ x:Nat,xs.getD m 0=(x:Int):=⟨(xs.getD m 0).toNat,by omega⟩
  have hxl:x < 18446744073709551616:=by omega
  have hq:(p.r*18446744073709551616+x)/d < 18446744073709551616:=by
   rw [Nat.div_lt_iff_lt_mul hd0]
   have:(p.r+1)*18446744073709551616≤d*18446744073709551616:=Nat.mul_le_mul_right _ hr
   rw [Nat.mul_comm 18446744073709551616]
   omega
  have e1:divQ p.r x d=(((p.r*18446744073709551616+x)/d:Nat):Int):=by unfold divQ; rw [Int.toNat_natCast,Int.toNat_natCast,Int.toNat_natCast]
  have e2:divR p.r x d=(((p.r*18446744073709551616+x)%d:Nat):Int):=by unfold divR; rw [Int.toNat_natCast,Int.toNat_natCast,Int.toNat_natCast]
  have hsh:shN xs d p=⟨m,(p.r*18446744073709551616+x)%d,p.L.set m (((p.r*18446744073709551616+x)/d:Nat):Int)⟩:=by
   unfold shN
   rw [hmm,Nat.add_sub_cancel,hxe,Int.toNat_natCast]
  rw [hsh]
  refine⟨⟨by simp only; omega,by simp [h2],h3.set ⟨Int.natCast_nonneg _,by exact_mod_cast hq⟩ _,?_,?_⟩,?_⟩
  ·simp only
   rw [drop_set (by omega),drop_getD (l:=xs) (m:=m) hml,hxe]
   simp only [val,Int.toNat_natCast]
   rw [hmm] at h4 h5
   rw [h4]
   have hdm:=Nat.div_add_mod (val W64 (xs.drop (m+1))) d
   rw [← h5] at hdm
   have:x+W64*val W64 (xs.drop (m+1))=(p.r*18446744073709551616+x)+d*(W64*(val W64 (xs.drop (m+1))/d)):=by
    rw [← hdm]
    have e:(d*(val W64 (xs.drop (m+1))/d)+p.r)/d=val W64 (xs.drop (m+1))/d:=by rw [Nat.mul_add_div hd0,Nat.div_eq_of_lt hr,Nat.add_zero]
    rw [e,Nat.mul_add,← Nat.mul_assoc,← Nat.mul_assoc,Nat.mul_comm W64 d,Nat.mul_comm W64 p.r]
    show _=p.r*W64+x+_
    omega
   rw [this,Nat.add_mul_div_left _ _ hd0]
  ·simp only
   rw [drop_getD (l:=xs) (m:=m) hml,hxe]
   simp only [val,Int.toNat_natCast]
   rw [hmm] at h5
   rw [h5]
   show (_*W64+x)%d=_
   rw [Nat.add_mod,Nat.mul_mod,Nat.mod_mod,← Nat.mul_mod,← Nat.add_mod,Nat.mul_comm W64,Nat.add_comm]
  ·have:=sho_next a xs p.L xs.length xs.length d p.r (m:Int)
   rw [Int.toNat_natCast,hxe,e1,e2,wrap_pred (by omega),setF_eq] at this
   have e3:(p.m:Int)-1=(m:Int):=by omega
   rw [e3]
   have bnd:(Int.ofNat 0≤(m:Int)∧(m:Int) < Int.ofNat xs.length):=⟨by simp,by simpa using hml⟩
   have hz:xs.getD m (Int.ofNat 0)=(x:Int):=hxe
   refine this ⟨by omega,⟨bnd,by omega⟩,⟨⟨by simp,by exact_mod_cast hr⟩,⟨by rw [hz]; simp,by rw [hz]; simp only [Int.ofNat_eq_natCast]; omega⟩,by simp only [Int.ofNat_eq_natCast]; omega⟩,hml,⟨bnd,by omega⟩,by simp,trivial⟩
 have all:∀ k,k≤xs.length→goodS xs d (itr (shN xs d) k ⟨xs.length,0,List.replicate xs.length 0⟩)∧(itr (shN xs d) k ⟨xs.length,0,List.replicate xs.length 0⟩).m=xs.length-k:=by
  intro k
  induction k with
  | zero=>exact fun _=>⟨⟨Nat.le_refl _,by simp [itr],Dg.zeros _ W64_pos _,by simp [itr,val],by simp [itr,val]⟩,rfl⟩
  | succ k ih=>
   intro hk
   obtain⟨g1,g2⟩:=ih (by omega)
   refine⟨(step _ g1 (by rw [g2]; omega)).1,?_⟩
   show (itr (shN xs d) k _).m-1=_
   rw [g2]
   omega
 obtain⟨g1,g2⟩:=all xs.length (Nat.le_refl _)
 rw [Nat.sub_self] at g2
 have hout:=sho_out a xs (itr (shN xs d) xs.length ⟨xs.length,0,List.replicate xs.length 0⟩).L xs.length xs.length d (itr (shN xs d) xs.length ⟨xs.length,0,List.replicate xs.length 0⟩).r (-1) ⟨by decide,trivial⟩
 have hrun:=loop_run (fun k=>TSho a xs (itr (shN xs d) k ⟨xs.length,0,List.replicate xs.length 0⟩).L xs.length xs.length d (itr (shN xs d) k ⟨xs.length,0,List.replicate xs.length 0⟩).r (((itr (shN xs d) k ⟨xs.length,0,List.replicate xs.length 0⟩).m:Int)-1)) xs.length (x:= .exit 0) (by intro e; cases e) (fun k hk=>by
  obtain⟨q1,q2⟩:=all k (by omega)
  exact (step _ q1 (by rw [q2]; omega)).2) (by rw [g2]; exact hout)
 obtain⟨q1,q2,q3,q4,q5⟩:=g1
 rw [g2] at q4 q5
 simp only [List.drop_zero] at q4 q5
 rw [q5] at hrun
 refine⟨hrun,q2,?_⟩
 rw [trimW_ws W64_two q3,q4]
theorem short_sem (a:Bool) {A d:Nat} (hA:wl A < 549755813888) (hd0:0 < d) (hd:d < W64):Ev.Sem Tryz.prog J0 143 [iN a A,uR d] [iN false (A/d),uR ((A%d:Nat):Int)] :=by
 have hA:(ws W64 A).length < 549755813888:=hA
 obtain⟨h1,h2,h3⟩:=short_loop a (wsDg A) (by omega) hd0 hd
 rw [wsVal] at h1 h3
 have hw:=wrap_pred (n:=(ws W64 A).length) (by omega)
 rw [← hw] at h1
 obtain⟨q1,q2,q3⟩:=trim_obl h3
 have ht:List.take (ws W64 A).length (itr (shN (ws W64 A) d) (ws W64 A).length ⟨(ws W64 A).length,0,List.replicate (ws W64 A).length 0⟩).L=(itr (shN (ws W64 A) d) (ws W64 A).length ⟨(ws W64 A).length,0,List.replicate (ws W64 A).length 0⟩).L:=List.take_of_length_le (by rw [h2]; exact Nat.le_refl _)
 refine sem_of bW4_ok 10 _ _ (sho_way a false (ws W64 A) (itr (shN (ws W64 A) d) (ws W64 A).length ⟨(ws W64 A).length,0,List.replicate (ws W64 A).length 0⟩).L (ws W64 (A/d)) (ws W64 A).length (ws W64 A).length d ((A%d:Nat):Int) (-1) _) ?_
 rw [ht]
 have hi:=sho_into a (ws W64 A) d _ _ h1
 refine⟨⟨rfl,by rw [h2]; omega,by rw [h2]; omega⟩,hi,⟨by simp,rfl,by simp only [Int.ofNat_eq_natCast]; omega,by simp only [Int.ofNat_eq_natCast]; omega⟩,rfl,⟨q1,q2,q3⟩,rfl,trivial⟩
end Go.Proofs.YtdgfhijnconaoaaGreatDoor
namespace Go.Proofs.YtdgfhijnconaoaaGreatDoor
open Go Go.RowKit Ev Wd
noncomputable def cLef:Code:=loopAt Tryz.prog 87 0
def TLef (a:Bool) (xs L:List Int) (na N:Nat) (n la i:Int):St:=⟨only 58 [(1, .int .i64 n),(2, .pointer (some ⟨13,0,none⟩)),(4, .pointer (some ⟨14,0,none⟩)),(5,slV 15 N),(17,slV 11 na),(18, .int .i64 la),(19, .int .i64 i)],
 [(15, .row u64T 1 (.ints .u64 L) 16),(14, .cells [.bool false, .slice none 0 0] intT),(13, .cells [.bool a,slV 11 na] intT),(11, .ints .u64 xs)],17,[],[],0,none,[],13⟩
def lefQ (n:Int):Int:=IntKind.i64.wrap (n.tdiv 64)
def lefI (i n:Int):Int:=IntKind.i64.wrap (i+lefQ n)
def lefJ (i n:Int):Int:=IntKind.i64.wrap (lefI i n+1)
def lefA (w n:Int):Int:=IntKind.u64.wrap (w*2 ^min (n.tmod 64).toNat 64)
def lefB (w n:Int):Int:=(w.fdiv (2 ^min (Int.toNat 1) 64)).fdiv (2 ^min (IntKind.i64.wrap (63-n.tmod 64)).toNat 64)
noncomputable def lef1 (xs L:List Int) (n i:Int):List Int:=setF L (lefI i n).toNat (bits .or .u64 (L.getD (lefI i n).toNat 0) (lefA (xs.getD i.toNat 0) n))
noncomputable def lef2 (xs L:List Int) (n i:Int):List Int:=setF (lef1 xs L n i) (lefJ i n).toNat (bits .or .u64 ((lef1 xs L n i).getD (lefJ i n).toNat 0) (lefB (xs.getD i.toNat 0) n))
section
variable (a:Bool) (xs L:List Int) (na N:Nat) (n la i:Int)
theorem lef_next (hJ:((lefJ i n).toNat < (lef1 xs L n i).length)∧((0:Int)≤lefJ i n∧lefJ i n < N)∧0 < (lef1 xs L n i).length) (h63:0≤IntKind.i64.wrap (63-n.tmod 64)) (hI:((lefI i n).toNat < L.length)∧((0:Int)≤lefI i n∧lefI i n < N)∧0 < L.length) (h64:0≤n.tmod 64)
  (hx:i.toNat < xs.length∧((0:Int)≤i∧i < na)∧0 < xs.length) (h0:decide (i < la)=true):Step XW4 cLef (TLef a xs L na N n la i) .normal (TLef a xs (lef2 xs L n i) na N n la (IntKind.i64.wrap (i+1))):=
 step_of (Base.cx_ok bW4_ok 10).1 progOk.mixed [] 200 [true] [] (l:=[(lefJ i n).toNat < (lef1 xs L n i).length,((0:Int)≤lefJ i n∧lefJ i n < N)∧0 < (lef1 xs L n i).length,0≤IntKind.i64.wrap (63-n.tmod 64),(lefJ i n).toNat < (lef1 xs L n i).length,((0:Int)≤lefJ i n∧lefJ i n < N)∧0 < (lef1 xs L n i).length,
  (lefI i n).toNat < L.length,((0:Int)≤lefI i n∧lefI i n < N)∧0 < L.length,0≤n.tmod 64,(lefI i n).toNat < L.length,((0:Int)≤lefI i n∧lefI i n < N)∧0 < L.length,i.toNat < xs.length,((0:Int)≤i∧i < na)∧0 < xs.length,decide (i < la)=true])
  (by kernel_rfl) ⟨hJ.1,hJ.2,h63,hJ.1,hJ.2,hI.1,hI.2,h64,hI.1,hI.2,hx.1,hx.2,h0,trivial⟩ (by kernel_rfl) (by kernel_rfl)
theorem lef_out (h0:decide (i < la)=false):Step XW4 cLef (TLef a xs L na N n la i) (.exit 0) (TLef a xs L na N n la i):=
 step_of (Base.cx_ok bW4_ok 10).1 progOk.mixed [] 200 [false] [] (l:=[decide (i < la)=false]) (by kernel_rfl) ⟨h0,trivial⟩ (by kernel_rfl) (by kernel_rfl)
end
theorem lef_way (a s:Bool) (xs L R:List Int) (na N:Nat) (n m la i:Int):semR XW4 [told (.exit 0) (fun _=>TLef a xs L na N n la i)] 200 87 [iL a xs,iR m] [iL s R] [] =some [0=0∧0+N≤L.length∧L.length < 1099511627776,LoopTo XW4 cLef (semStart XW4 200 87 [iL a xs,iR m] []) (.exit 0) (TLef a xs L na N n la i),Int.ofNat 0≤IntKind.i64.wrap (IntKind.i64.wrap (Int.ofNat xs.length+IntKind.i64.wrap (m.tdiv (Int.ofNat 64)))+Int.ofNat 1)∧IntKind.i64.wrap (IntKind.i64.wrap (Int.ofNat xs.length+IntKind.i64.wrap (m.tdiv (Int.ofNat 64)))+Int.ofNat 1)=IntKind.i64.wrap (IntKind.i64.wrap (Int.ofNat xs.length+IntKind.i64.wrap (m.tdiv (Int.ofNat 64)))+Int.ofNat 1)∧Int.ofNat 8*IntKind.i64.wrap (IntKind.i64.wrap (Int.ofNat xs.length+IntKind.i64.wrap (m.tdiv (Int.ofNat 64)))+Int.ofNat 1)≤Int.ofNat 281474976710656∧IntKind.i64.wrap (IntKind.i64.wrap (Int.ofNat xs.length+IntKind.i64.wrap (m.tdiv (Int.ofNat 64)))+Int.ofNat 1)≤Int.ofNat 9223372036854775807,Value.bool (a && decide (0 < (trimW (List.take N L)).length))=Value.bool s,(trimW (List.take N L)).length=R.length∧(trimW (List.take N L)).length≤L.length∧List.take (trimW (List.take N L)).length L=R] :=by kernel_rfl
theorem lef_into (a:Bool) (xs:List Int) (n:Int) (x:AX) (s':St) (h:LoopTo XW4 cLef (TLef a xs (List.replicate (IntKind.i64.wrap (IntKind.i64.wrap ((xs.length:Int)+lefQ n)+1)).toNat 0) xs.length (IntKind.i64.wrap (IntKind.i64.wrap ((xs.length:Int)+lefQ n)+1)).toNat n xs.length 0) x s'):
  LoopTo XW4 cLef (semStart XW4 200 87 [iL a xs,iR n] []) x s':=
 loop_into' h [] (by kernel_rfl) (by kernel_rfl) (by kernel_rfl)
theorem lef_word {w r low:Nat} (hw:w < W64) (hr:r < 64) (hl:low < 2 ^r):
  bits .or .u64 (low:Int) (lefA w ((r:Nat):Int))=((low+w*2 ^r%W64:Nat):Int)∧lefB w ((r:Nat):Int)=((w*2 ^r/W64:Nat):Int)∧w*2 ^r/W64 < 2 ^r∧low+w*2 ^r%W64 < W64:=by
 have hp:(2:Nat) ^64=W64:=by decide
 have hW:W64=18446744073709551616:=rfl
 have hw':w < 18446744073709551616:=hw
 have hrt:((r:Nat):Int).tmod 64=(r:Int):=by
  have:=(Int.ofNat_tmod r 64).symm
  rw [Nat.mod_eq_of_lt hr] at this
  exact this
 have hpr:=Nat.two_pow_pos r
 have hA:lefA w r=((w*2 ^r%W64:Nat):Int):=by
  unfold lefA
  rw [hrt,Int.toNat_natCast,Nat.min_eq_left (by omega),IntKind.wrap_u64]
  have:(w:Int)*2 ^r=((w*2 ^r:Nat):Int):=by rw [Int.natCast_mul,Int.natCast_pow]; rfl
  rw [this,hW]
  omega
 have hsplit:W64=2 ^(64-r)*2 ^r:=by rw [← Nat.pow_add,show 64-r+r=64 by omega,hp]
 have hhi:w*2 ^r/W64=w/2 ^(64-r):=by rw [hsplit,Nat.mul_div_mul_right _ _ hpr]
 have hB:lefB w r=((w*2 ^r/W64:Nat):Int):=by
  unfold lefB
  rw [hrt,hhi]
  have e1:IntKind.i64.wrap (63- (r:Int))=((63-r:Nat):Int):=by
   have:(63:Int)- (r:Int)=((63-r:Nat):Int):=by omega
   rw [this,wrap_nat (by omega)]
  have e2:(w:Int).fdiv (2 ^min (Int.toNat 1) 64)=((w/2:Nat):Int):=by
   rw [show ((2:Int) ^min (Int.toNat 1) 64)=2 by decide,Int.fdiv_eq_ediv_of_nonneg _ (by omega)]
   omega
  rw [e2,e1,Int.toNat_natCast,Nat.min_eq_left (by omega)]
  rw [Int.fdiv_eq_ediv_of_nonneg _ (by
   have:(0:Int) < 2 ^(63-r):=Int.pow_pos (by decide)
   omega)]
  have e3:((w/2:Nat):Int)/2 ^(63-r)=((w/2/2 ^(63-r):Nat):Int):=by rw [Int.natCast_ediv (w/2),Int.natCast_pow]; rfl
  rw [e3,Nat.div_div_eq_div_mul,show 64-r=63-r+1 by omega,Nat.pow_succ,Nat.mul_comm (2 ^(63-r))]
 have hhl:w*2 ^r/W64 < 2 ^r:=by
  rw [Nat.div_lt_iff_lt_mul W64_pos,Nat.mul_comm (2 ^r)]
  exact Nat.mul_lt_mul_of_pos_right hw hpr
 have hfree:w*2 ^r%W64=w%2 ^(64-r)*2 ^r:=by rw [hsplit,Nat.mul_mod_mul_right]
 have hlt:low+w*2 ^r%W64 < W64:=by
  rw [hfree]
  have:(w%2 ^(64-r)+1)*2 ^r≤2 ^(64-r)*2 ^r:=Nat.mul_le_mul_right _ (Nat.mod_lt _ (Nat.two_pow_pos _))
  rw [Nat.add_mul,Nat.one_mul,← hsplit] at this
  omega
 refine⟨?_,hB,hhl,hlt⟩
 rw [hA]
 have h1:low < 18446744073709551616:=by omega
 have h2:w*2 ^r%W64 < 18446744073709551616:=by omega
 rw [bits_or_u64_nat _ _ h1 h2,Nat.or_comm,hfree]
 have:=Nat.shiftLeft_add_eq_or_of_lt hl (w%2 ^(64-r))
 rw [Nat.shiftLeft_eq] at this
 rw [← this,Nat.add_comm]
def goodL (xs:List Int) (q r i:Nat) (L:List Int):Prop:=
 L.length=xs.length+q+1∧Dg W64 L∧(L.getD (i+q) 0).toNat < 2 ^r∧(∀ t,i+q+1≤t→L.getD t 0=0)∧val W64 L=val W64 xs%W64 ^i*2 ^r*W64 ^q
noncomputable def lefOut (xs:List Int) (n:Nat):Nat→List Int
 | 0=>List.replicate (xs.length+n/64+1) 0
 | i+1=>lef2 xs (lefOut xs n i) n i
theorem lefQ_nat {n:Nat} (hn:n < 1099511627776):lefQ n=((n/64:Nat):Int):=by
 unfold lefQ
 have:=(Int.ofNat_tdiv n 64).symm
 have e:((n:Nat):Int).tdiv 64=((n/64:Nat):Int):=this
 rw [e,wrap_nat (by omega)]
theorem lefI_nat {i n:Nat} (hn:n < 1099511627776) (hi:i < 1099511627776):lefI i n=((i+n/64:Nat):Int):=by
 unfold lefI
 rw [lefQ_nat hn]
 have:=wrap_nat (n:=i+n/64) (by omega)
 simpa using this
theorem lefJ_nat {i n:Nat} (hn:n < 1099511627776) (hi:i < 1099511627776):lefJ i n=((i+n/64+1:Nat):Int):=by
 unfold lefJ
 rw [lefI_nat hn hi]
 have:=wrap_nat (n:=i+n/64+1) (by omega)
 simpa using this
theorem tmod_nat (n:Nat):((n:Nat):Int).tmod 64=((n%64:Nat):Int):=(Int.ofNat_tmod n 64).symm
theorem lefA_mod (w:Int) (n:Nat):lefA w n=lefA w ((n%64:Nat):Int):=by unfold lefA; rw [tmod_nat,tmod_nat,Nat.mod_mod]
theorem lefB_mod (w:Int) (n:Nat):lefB w n=lefB w ((n%64:Nat):Int):=by unfold lefB; rw [tmod_nat,tmod_nat,Nat.mod_mod]
theorem getD_set_eq {l:List Int} {i:Nat} (h:i < l.length) (x:Int):(l.set i x).getD i 0=x:=by
 rw [List.getD_eq_getElem?_getD,List.getElem?_set_self h]
 rfl
theorem goodL_next {xs L:List Int} (hx:Dg W64 xs) {n i:Nat} (hn:n < 1099511627776) (hi:i < xs.length) (hb:xs.length < 549755813888) (h:goodL xs (n/64) (n%64) i L):goodL xs (n/64) (n%64) (i+1) (lef2 xs L n i)∧(lef1 xs L n i).length=L.length:=by
 obtain⟨h1,h2,h3,h4,h5⟩:=h
 have gx:=getD_dig W64_pos hx i
 have hwl:=dig_lt W64_pos (val W64 xs) i
 have gl:=h2.get W64_pos (i+n/64)
 obtain⟨low,hlow⟩:∃ low:Nat,L.getD (i+n/64) 0=(low:Int):=⟨(L.getD (i+n/64) 0).toNat,by omega⟩
 rw [hlow,Int.toNat_natCast] at h3
 obtain⟨e1,e2,e3,e4⟩:=lef_word hwl (Nat.mod_lt n (by decide)) h3
 have hl1:lef1 xs L n i=L.set (i+n/64) ((low+dig W64 (val W64 xs) i*2 ^(n%64)%W64:Nat):Int):=by
  unfold lef1
  rw [lefI_nat hn (by omega),setF_eq,Int.toNat_natCast,Int.toNat_natCast,hlow,gx,lefA_mod,e1]
 have hlen1:(lef1 xs L n i).length=L.length:=by rw [hl1,List.length_set]
 have hz:(lef1 xs L n i).getD (i+n/64+1) 0=0:=by rw [hl1,getD_set_ne (by omega)]; exact h4 _ (Nat.le_refl _)
 have hhW:dig W64 (val W64 xs) i*2 ^(n%64)/W64 < 18446744073709551616:=by
  refine Nat.lt_of_lt_of_le e3 ?_
  have:2 ^(n%64)≤2 ^64:=Nat.pow_le_pow_right (by decide) (by omega)
  exact Nat.le_trans this (by decide)
 have hl2:lef2 xs L n i=(lef1 xs L n i).set (i+n/64+1) ((dig W64 (val W64 xs) i*2 ^(n%64)/W64:Nat):Int):=by
  unfold lef2
  rw [lefJ_nat hn (by omega),setF_eq,Int.toNat_natCast,Int.toNat_natCast,hz,gx,lefB_mod,e2]
  have:=bits_or_u64_nat 0 (dig W64 (val W64 xs) i*2 ^(n%64)/W64) (by decide) hhW
  rw [Nat.zero_or] at this
  congr 1
 have hD1:Dg W64 (lef1 xs L n i):=by rw [hl1]; exact h2.set ⟨Int.natCast_nonneg _,by exact_mod_cast e4⟩ _
 refine⟨⟨by rw [hl2,List.length_set,hlen1,h1],by rw [hl2]; exact hD1.set ⟨Int.natCast_nonneg _,by exact_mod_cast hhW⟩ _,?_,fun t ht=> ?_,?_⟩,hlen1⟩
 ·rw [hl2,show i+1+n/64=i+n/64+1 by omega,getD_set_eq (by rw [hlen1]; omega),Int.toNat_natCast]
  exact e3
 ·rw [hl2,getD_set_ne (by omega),hl1,getD_set_ne (by omega)]
  exact h4 t (by omega)
 ·have v1:=val_set (b:=W64) (((low+dig W64 (val W64 xs) i*2 ^(n%64)%W64:Nat):Int)) (show i+n/64 < L.length by omega)
  rw [← hl1,hlow,Int.toNat_natCast,Int.toNat_natCast,Nat.add_mul] at v1
  have v2:=val_set (b:=W64) (((dig W64 (val W64 xs) i*2 ^(n%64)/W64:Nat):Int)) (show i+n/64+1 < (lef1 xs L n i).length by omega)
  rw [← hl2,hz,Int.toNat_natCast] at v2
  simp only [Int.toNat_zero,Nat.zero_mul,Nat.add_zero] at v2
  rw [v2,mod_dig]
  have e5:dig W64 (val W64 xs) i*2 ^(n%64)%W64*W64 ^(i+n/64)+dig W64 (val W64 xs) i*2 ^(n%64)/W64*W64 ^(i+n/64+1)=dig W64 (val W64 xs) i*2 ^(n%64)*W64 ^(i+n/64):=by
   rw [Nat.pow_succ,← Nat.mul_assoc,Nat.mul_right_comm,← Nat.add_mul]
   congr 1
   have:=Nat.mod_add_div (dig W64 (val W64 xs) i*2 ^(n%64)) W64
   rw [Nat.mul_comm W64] at this
   exact this
  have e6:(val W64 xs%W64 ^i+dig W64 (val W64 xs) i*W64 ^i)*2 ^(n%64)*W64 ^(n/64)=val W64 xs%W64 ^i*2 ^(n%64)*W64 ^(n/64)+dig W64 (val W64 xs) i*2 ^(n%64)*W64 ^(i+n/64):=by
   rw [Nat.add_mul,Nat.add_mul,Nat.pow_add]
   congr 1
   rw [Nat.mul_right_comm (dig W64 (val W64 xs) i),Nat.mul_assoc]
  rw [e6,← h5]
  omega
theorem goodL_all {xs:List Int} (hx:Dg W64 xs) {n:Nat} (hn:n < 1099511627776) (hb:xs.length < 549755813888):∀ i,i≤xs.length→goodL xs (n/64) (n%64) i (lefOut xs n i)
 | 0,_=>⟨by simp [lefOut],Dg.zeros _ W64_pos _,by
   show ((List.replicate _ (0:Int)).getD _ 0).toNat < _
   rw [getD_zeros]
   exact Nat.two_pow_pos _,fun t _=>getD_zeros _ _,by simp [lefOut,val_zeros,Nat.mod_one]⟩
 | i+1,hi=>(goodL_next hx hn (by omega) hb (goodL_all hx hn hb i (by omega))).1
theorem left_sem (a:Bool) {A n:Nat} (hA:wl A < 549755813888) (hn:n < 549755813888):Ev.Sem Tryz.prog J0 87 [iN a A,iR (n:Int)] [iN (a && decide (0 < A*2 ^n)) (A*2 ^n)] :=by
 have hA:(ws W64 A).length < 549755813888:=hA
 have hx:=wsDg A
 have vA:=wsVal A
 have hpow:2 ^(n%64)*W64 ^(n/64)=2 ^n:=by
  have:W64=2 ^64:=by decide
  rw [this,← Nat.pow_mul,← Nat.pow_add,Nat.mod_add_div]
 have hR:trimW (lefOut (ws W64 A) n (ws W64 A).length)=ws W64 (A*2 ^n)∧(lefOut (ws W64 A) n (ws W64 A).length).length=(ws W64 A).length+n/64+1:=by
  obtain⟨h1,h2,h3,h4,h5⟩:=goodL_all hx (n:=n) (by omega) hA (ws W64 A).length (Nat.le_refl _)
  refine⟨?_,h1⟩
  rw [trimW_ws W64_two h2,h5,Nat.mod_eq_of_lt (val_lt W64_pos hx),vA,Nat.mul_assoc,hpow]
 have hQ:=lefQ_nat (n:=n) (by omega)
 have hN:IntKind.i64.wrap (IntKind.i64.wrap (((ws W64 A).length:Int)+lefQ n)+1)=(((ws W64 A).length+n/64+1:Nat):Int):=by
  rw [hQ]
  have e1:((ws W64 A).length:Int)+((n/64:Nat):Int)=(((ws W64 A).length+n/64:Nat):Int):=by omega
  rw [e1,wrap_nat (by omega)]
  have e2:(((ws W64 A).length+n/64:Nat):Int)+1=(((ws W64 A).length+n/64+1:Nat):Int):=by omega
  rw [e2,wrap_nat (by omega)]
 have hL:LoopTo XW4 cLef (TLef a (ws W64 A) (List.replicate ((ws W64 A).length+n/64+1) 0) (ws W64 A).length ((ws W64 A).length+n/64+1) n (ws W64 A).length 0) (.exit 0)
   (TLef a (ws W64 A) (lefOut (ws W64 A) n (ws W64 A).length) (ws W64 A).length ((ws W64 A).length+n/64+1) n (ws W64 A).length (ws W64 A).length):=by
  generalize ws W64 A=xs at*
  refine loop_run (fun k=>TLef a xs (lefOut xs n k) xs.length (xs.length+n/64+1) n xs.length k) xs.length (by intro e; cases e) (fun k hk=> ?_) (lef_out a xs _ xs.length (xs.length+n/64+1) n xs.length xs.length (by simp))
  have hg:=goodL_all hx (n:=n) (by omega) hA k (by omega)
  obtain⟨_,hl1⟩:=goodL_next hx (by omega) hk hA hg
  have hlen:=hg.1
  have:=lef_next a xs (lefOut xs n k) xs.length (xs.length+n/64+1) n xs.length k
  rw [lefI_nat (by omega) (by omega),lefJ_nat (by omega) (by omega),tmod_nat,wrap_succ (n:=k) (by omega),hl1] at this
  have h63:(0:Int)≤IntKind.i64.wrap (63- ((n%64:Nat):Int)):=by
   have e:(63:Int)- ((n%64:Nat):Int)=((63-n%64:Nat):Int):=by omega
   rw [e,wrap_nat (by omega)]
   omega
  exact this ⟨by rw [Int.toNat_natCast]; omega,⟨by omega,by omega⟩,by omega⟩ h63 ⟨by rw [Int.toNat_natCast]; omega,⟨by omega,by omega⟩,by omega⟩ (by omega) ⟨by simpa using hk,⟨by omega,by omega⟩,by omega⟩ (by simpa using hk)
 have hN':IntKind.i64.wrap (IntKind.i64.wrap (Int.ofNat (ws W64 A).length+IntKind.i64.wrap ((n:Int).tdiv (Int.ofNat 64)))+Int.ofNat 1)=(((ws W64 A).length+n/64+1:Nat):Int):=hN
 obtain⟨q1,q2,q3⟩:=trim_obl hR.1
 have ht:List.take ((ws W64 A).length+n/64+1) (lefOut (ws W64 A) n (ws W64 A).length)=lefOut (ws W64 A) n (ws W64 A).length:=List.take_of_length_le (by rw [hR.2]; exact Nat.le_refl _)
 refine sem_of bW4_ok 10 _ _ (lef_way a _ (ws W64 A) (lefOut (ws W64 A) n (ws W64 A).length) (ws W64 (A*2 ^n)) (ws W64 A).length ((ws W64 A).length+n/64+1) n n (ws W64 A).length (ws W64 A).length) ?_
 rw [ht,hN']
 refine⟨⟨rfl,by rw [hR.2]; omega,by rw [hR.2]; omega⟩,lef_into a _ n _ _ (by rw [hN]; exact hL),⟨by simp only [Int.ofNat_eq_natCast]; omega,rfl,by simp only [Int.ofNat_eq_natCast]; omega,by simp only [Int.ofNat_eq_natCast]; omega⟩,?_,⟨q1,q2,q3⟩,trivial⟩
 rw [hR.1]
 have:=wl_pos (m:=A*2 ^n)
 congr 2
 simp only [decide_eq_decide]
 exact this
end Go.Proofs.YtdgfhijnconaoaaGreatDoor
namespace Go.Proofs.YtdgfhijnconaoaaGreatDoor
open Go Go.RowKit Ev Wd
noncomputable def cRig:Code:=loopAt Tryz.prog 199 0
def TRig (a:Bool) (xs L:List Int) (na N:Nat) (n i:Int):St:=⟨only 52 [(1, .int .i64 n),(2, .pointer (some ⟨13,0,none⟩)),(4, .pointer (some ⟨14,0,none⟩)),(5,slV 15 N),(6, .int .i64 i)],
 [(15, .row u64T 1 (.ints .u64 L) 16),(14, .cells [.bool false, .slice none 0 0] intT),(13, .cells [.bool a,slV 11 na] intT),(11, .ints .u64 xs)],17,[],[],0,none,[],13⟩
def rigA (x n:Int):Int:=x.fdiv (2 ^min (n.tmod 64).toNat 64)
def rigB (y n:Int):Int:=IntKind.u64.wrap (IntKind.u64.wrap (y*2 ^min (Int.toNat 1) 64)*2 ^min (IntKind.i64.wrap (63-n.tmod 64)).toNat 64)
def rigW (xs:List Int) (n i:Int):Int:=bits .or .u64 (rigA (xs.getD i.toNat 0) n) (rigB (xs.getD (IntKind.i64.wrap (i+1)).toNat 0) n)
abbrev inX (xs:List Int) (na:Nat) (i:Int):Prop:=i.toNat < xs.length∧((0:Int)≤i∧i < na)∧0 < xs.length
noncomputable def SRig (a:Bool) (xs:List Int) (n:Int):St:=semStart XW4 200 199 [iL a xs,iR n] []
section
variable (a:Bool) (xs L:List Int) (na N:Nat) (n i:Int)
theorem rig_both (hN:N*1=L.length∧(N+1)*8≤140737488355328∧N+1≤9223372036854775807) (h63:0≤IntKind.i64.wrap (63-n.tmod 64)) (h2:inX xs na (IntKind.i64.wrap (i+1))) (h3:decide (IntKind.i64.wrap (i+1) < na)=true) (h64:0≤n.tmod 64) (h1:inX xs na i) (h0:decide (i < na)=true):
  Step XW4 cRig (TRig a xs L na N n i) .normal (TRig a xs (L++[rigW xs n i]) na (N+1) n (IntKind.i64.wrap (i+1))):=
 step_of (Base.cx_ok bW4_ok 10).1 progOk.mixed [] 200 [true,true] [(15,18),(16,19)] (l:=[N*1=L.length∧(N+1)*8≤140737488355328∧N+1≤9223372036854775807,0≤IntKind.i64.wrap (63-n.tmod 64),(IntKind.i64.wrap (i+1)).toNat < xs.length,((0:Int)≤IntKind.i64.wrap (i+1)∧IntKind.i64.wrap (i+1) < na)∧0 < xs.length,
  decide (IntKind.i64.wrap (i+1) < na)=true,0≤n.tmod 64,i.toNat < xs.length,((0:Int)≤i∧i < na)∧0 < xs.length,decide (i < na)=true]) (by kernel_rfl) ⟨hN,h63,h2.1,h2.2,h3,h64,h1.1,h1.2,h0,trivial⟩ (by kernel_rfl) (by kernel_rfl)
theorem rig_one (hN:N*1=L.length∧(N+1)*8≤140737488355328∧N+1≤9223372036854775807) (h3:decide (IntKind.i64.wrap (i+1) < na)=false) (h64:0≤n.tmod 64) (h1:inX xs na i) (h0:decide (i < na)=true):
  Step XW4 cRig (TRig a xs L na N n i) .normal (TRig a xs (L++[rigA (xs.getD i.toNat 0) n]) na (N+1) n (IntKind.i64.wrap (i+1))):=
 step_of (Base.cx_ok bW4_ok 10).1 progOk.mixed [] 200 [true,false] [(15,18),(16,19)] (l:=[N*1=L.length∧(N+1)*8≤140737488355328∧N+1≤9223372036854775807,decide (IntKind.i64.wrap (i+1) < na)=false,0≤n.tmod 64,i.toNat < xs.length,((0:Int)≤i∧i < na)∧0 < xs.length,decide (i < na)=true])
  (by kernel_rfl) ⟨hN,h3,h64,h1.1,h1.2,h0,trivial⟩ (by kernel_rfl) (by kernel_rfl)
theorem rig_out (h0:decide (i < na)=false):Step XW4 cRig (TRig a xs L na N n i) (.exit 0) (TRig a xs L na N n i):=
 step_of (Base.cx_ok bW4_ok 10).1 progOk.mixed [] 200 [false] [] (l:=[decide (i < na)=false]) (by kernel_rfl) ⟨h0,trivial⟩ (by kernel_rfl) (by kernel_rfl)
theorem rig_first2 (h63:0≤IntKind.i64.wrap (63-n.tmod 64)) (h2:inX xs xs.length (IntKind.i64.wrap (lefQ n+1))) (h3:decide (IntKind.i64.wrap (lefQ n+1) < xs.length)=true) (h64:0≤n.tmod 64) (h1:inX xs xs.length (lefQ n)) (h0:decide (lefQ n < xs.length)=true):
  Step XW4 cRig (SRig a xs n) .normal (TRig a xs [rigW xs n (lefQ n)] xs.length 1 n (IntKind.i64.wrap (lefQ n+1))):=
 step_of (Base.cx_ok bW4_ok 10).1 progOk.mixed [] 200 [true,true] [(15,16),(16,17)] (l:=[8≤140737488355328∧1≤9223372036854775807,0≤IntKind.i64.wrap (63-n.tmod 64),(IntKind.i64.wrap (lefQ n+1)).toNat < xs.length,((0:Int)≤IntKind.i64.wrap (lefQ n+1)∧IntKind.i64.wrap (lefQ n+1) < xs.length)∧0 < xs.length,
  decide (IntKind.i64.wrap (lefQ n+1) < xs.length)=true,0≤n.tmod 64,(lefQ n).toNat < xs.length,((0:Int)≤lefQ n∧lefQ n < xs.length)∧0 < xs.length,decide (lefQ n < xs.length)=true]) (by kernel_rfl) ⟨by omega,h63,h2.1,h2.2,h3,h64,h1.1,h1.2,h0,trivial⟩ (by kernel_rfl) (by kernel_rfl)
theorem rig_first1 (h3:decide (IntKind.i64.wrap (lefQ n+1) < xs.length)=false) (h64:0≤n.tmod 64) (h1:inX xs xs.length (lefQ n)) (h0:decide (lefQ n < xs.length)=true):
  Step XW4 cRig (SRig a xs n) .normal (TRig a xs [rigA (xs.getD (lefQ n).toNat 0) n] xs.length 1 n (IntKind.i64.wrap (lefQ n+1))):=
 step_of (Base.cx_ok bW4_ok 10).1 progOk.mixed [] 200 [true,false] [(15,16),(16,17)] (l:=[8≤140737488355328∧1≤9223372036854775807,decide (IntKind.i64.wrap (lefQ n+1) < xs.length)=false,0≤n.tmod 64,(lefQ n).toNat < xs.length,((0:Int)≤lefQ n∧lefQ n < xs.length)∧0 < xs.length,decide (lefQ n < xs.length)=true])
  (by kernel_rfl) ⟨by omega,h3,h64,h1.1,h1.2,h0,trivial⟩ (by kernel_rfl) (by kernel_rfl)
end
theorem rig_way (a s:Bool) (xs L R:List Int) (na N:Nat) (n m i:Int):semR XW4 [told (.exit 0) (fun _=>TRig a xs L na N n i)] 200 199 [iL a xs,iR m] [iL s R] [] =some [0=0∧0+N≤L.length∧L.length < 1099511627776,LoopTo XW4 cRig (SRig a xs m) (.exit 0) (TRig a xs L na N n i),Value.bool (a && decide (0 < (trimW (List.take N L)).length))=Value.bool s,(trimW (List.take N L)).length=R.length∧(trimW (List.take N L)).length≤L.length∧List.take (trimW (List.take N L)).length L=R] :=by kernel_rfl
theorem rig_way0 (a s:Bool) (xs R:List Int) (m:Int):semR XW4 [] 200 199 [iL a xs,iR m] [iL s R] [false] =some [decide (IntKind.i64.wrap (m.tdiv (Int.ofNat 64)) < Int.ofNat xs.length)=false,Value.bool false=Value.bool s,R=[]] :=by kernel_rfl
theorem rig_word {A r k:Nat} (hr:r < 64):rigA (dig W64 A k) ((r:Nat):Int)=((dig W64 A k/2 ^r:Nat):Int)∧bits .or .u64 (rigA (dig W64 A k) ((r:Nat):Int)) (rigB (dig W64 A (k+1)) ((r:Nat):Int))=(dig W64 (A/2 ^r) k:Int)∧
  (dig W64 A (k+1)=0→dig W64 A k/2 ^r=dig W64 (A/2 ^r) k):=by
 have hp:(2:Nat) ^64=W64:=by decide
 have hx:=dig_lt W64_pos A k
 have hy:=dig_lt W64_pos A (k+1)
 have hrt:((r:Nat):Int).tmod 64=(r:Int):=by
  have:=tmod_nat r
  rw [Nat.mod_eq_of_lt hr] at this
  exact this
 have hpr:=Nat.two_pow_pos r
 have hsplit:W64=2 ^r*2 ^(64-r):=by rw [← Nat.pow_add,show r+(64-r)=64 by omega,hp]
 have hA:∀ x:Nat,rigA x r=((x/2 ^r:Nat):Int):=fun x=>by
  unfold rigA
  rw [hrt,Int.toNat_natCast,Nat.min_eq_left (by omega),Int.fdiv_eq_ediv_of_nonneg _ (by
   have:(0:Int) < 2 ^r:=Int.pow_pos (by decide)
   omega),Int.natCast_ediv,Int.natCast_pow]
  rfl
 have hB:∀ y:Nat,y < W64→rigB y r=((y*2 ^(64-r)%W64:Nat):Int):=fun y hy=>by
  unfold rigB
  rw [hrt]
  have e1:IntKind.i64.wrap (63- (r:Int))=((63-r:Nat):Int):=by
   have:(63:Int)- (r:Int)=((63-r:Nat):Int):=by omega
   rw [this,wrap_nat (by omega)]
  have e2:IntKind.u64.wrap ((y:Int)*2 ^min (Int.toNat 1) 64)=((y*2%W64:Nat):Int):=by
   rw [show ((2:Int) ^min (Int.toNat 1) 64)=2 by decide,IntKind.wrap_u64]
   show _=((y*2%18446744073709551616:Nat):Int)
   omega
  rw [e2,e1,Int.toNat_natCast,Nat.min_eq_left (by omega),IntKind.wrap_u64]
  have e3:((y*2%W64:Nat):Int)*2 ^(63-r)=((y*2%W64*2 ^(63-r):Nat):Int):=by rw [Int.natCast_mul,Int.natCast_pow]; rfl
  rw [e3]
  have e4:y*2%W64*2 ^(63-r)%W64=y*2 ^(64-r)%W64:=by
   rw [Nat.mod_mul_mod,Nat.mul_assoc,← Nat.pow_succ',show (63-r).succ=64-r by omega]
  rw [← e4]
  show _=((_%18446744073709551616:Nat):Int)
  omega
 have hdig:dig W64 (A/2 ^r) k=dig W64 A k/2 ^r+dig W64 A (k+1)*2 ^(64-r)%W64:=by
  have hlow:dig W64 A k/2 ^r < 2 ^(64-r):=by
   rw [Nat.div_lt_iff_lt_mul hpr,Nat.mul_comm,← hsplit]
   exact hx
  have hm:dig W64 A (k+1)*2 ^(64-r)%W64=dig W64 A (k+1)%2 ^r*2 ^(64-r):=by rw [hsplit,Nat.mul_mod_mul_right]
  have hlt:dig W64 A k/2 ^r+dig W64 A (k+1)*2 ^(64-r)%W64 < W64:=by
   rw [hm]
   have:(dig W64 A (k+1)%2 ^r+1)*2 ^(64-r)≤2 ^r*2 ^(64-r):=Nat.mul_le_mul_right _ (Nat.mod_lt _ hpr)
   rw [Nat.add_mul,Nat.one_mul,← hsplit] at this
   omega
  have e1:A/2 ^r/W64 ^k=(dig W64 A k+W64*(A/W64 ^(k+1)))/2 ^r:=by
   rw [← div_dig,Nat.div_div_eq_div_mul,Nat.div_div_eq_div_mul,Nat.mul_comm]
  have e2:(dig W64 A k+W64*(A/W64 ^(k+1)))/2 ^r=dig W64 A k/2 ^r+2 ^(64-r)*(A/W64 ^(k+1)):=by
   rw [hsplit,Nat.mul_assoc,Nat.add_mul_div_left _ _ hpr]
  have e3:2 ^(64-r)*(A/W64 ^(k+1))%W64=dig W64 A (k+1)*2 ^(64-r)%W64:=by
   unfold dig
   rw [Nat.mod_mul_mod,Nat.mul_comm]
  show A/2 ^r/W64 ^k%W64=_
  rw [e1,e2,Nat.add_mod,e3,Nat.mod_eq_of_lt (show dig W64 A k/2 ^r < W64 from Nat.lt_of_le_of_lt (Nat.div_le_self _ _) hx),Nat.mod_eq_of_lt hlt]
 refine⟨hA _,?_,fun h0=>by rw [hdig,h0]; simp⟩
 have hlow:dig W64 A k/2 ^r < 2 ^(64-r):=by
  rw [Nat.div_lt_iff_lt_mul hpr,Nat.mul_comm,← hsplit]
  exact hx
 have hm:dig W64 A (k+1)*2 ^(64-r)%W64=dig W64 A (k+1)%2 ^r*2 ^(64-r):=by rw [hsplit,Nat.mul_mod_mul_right]
 have b1:dig W64 A k/2 ^r < 18446744073709551616:=Nat.lt_of_le_of_lt (Nat.div_le_self _ _) hx
 have b2:dig W64 A (k+1)*2 ^(64-r)%W64 < 18446744073709551616:=Nat.mod_lt _ W64_pos
 rw [hA,hB _ hy,bits_or_u64_nat _ _ b1 b2,hdig,Nat.or_comm,hm]
 have:=Nat.shiftLeft_add_eq_or_of_lt hlow (dig W64 A (k+1)%2 ^r)
 rw [Nat.shiftLeft_eq] at this
 rw [← this,Nat.add_comm]
theorem dl_getD {n m i:Nat} (h:m < W64 ^n):(dl W64 n m).getD i 0=(dig W64 m i:Int):=by
 rw [getD_dig W64_pos (dl_dg W64_pos n m),dl_val,Nat.mod_eq_of_lt h]
theorem right_sem (a:Bool) {A n:Nat} (hA:wl A < 549755813888) (hn:n < 64):Ev.Sem Tryz.prog J0 199 [iN a A,iR (n:Int)] [iN (a && decide (0 < A/2 ^n)) (A/2 ^n)] :=by
 have hA:(ws W64 A).length < 549755813888:=hA
 have hQ:lefQ (n:Int)=0:=by
  rw [lefQ_nat (by omega)]
  omega
 have hlt:A/2 ^n < W64 ^(ws W64 A).length:=Nat.lt_of_le_of_lt (Nat.div_le_self _ _) (wl_lt A)
 by_cases h0:A=0
 ·subst h0
  refine sem_of bW4_ok 10 _ _ (rig_way0 a _ (ws W64 0) (ws W64 (0/2 ^n)) n) ⟨?_,?_,?_,trivial⟩
  ·show decide (lefQ n < (0:Int))=false
   rw [hQ]
   rfl
  ·simp
  ·rw [Nat.zero_div,ws_zero]
 have hpos:0 < (ws W64 A).length:=wl_pos.2 (by omega)
 have h64:(0:Int)≤((n:Nat):Int).tmod 64:=by rw [tmod_nat]; omega
 have h63:(0:Int)≤IntKind.i64.wrap (63- ((n:Nat):Int).tmod 64):=by
  rw [tmod_nat]
  have e:(63:Int)- ((n%64:Nat):Int)=((63-n%64:Nat):Int):=by omega
  rw [e,wrap_nat (by omega)]
  omega
 have hget:∀ i,(ws W64 A).getD i 0=(dig W64 A i:Int):=fun i=>ws_getD W64_two A i
 have hlast:∀ i,(ws W64 A).length≤i→dig W64 A i=0:=fun i hi=>by
  have:=hget i
  rw [getD_beyond hi] at this
  omega
 have word:∀ k,k < (ws W64 A).length→(k+1 < (ws W64 A).length→rigW (ws W64 A) n k=(dig W64 (A/2 ^n) k:Int))∧(¬ k+1 < (ws W64 A).length→rigA ((ws W64 A).getD k 0) n=(dig W64 (A/2 ^n) k:Int)):=by
  intro k hk
  obtain⟨w1,w2,w3⟩:=rig_word (A:=A) (r:=n) (k:=k) hn
  refine⟨fun h=> ?_,fun h=> ?_⟩
  ·unfold rigW
   rw [wrap_succ (by omega),Int.toNat_natCast,Int.toNat_natCast,hget,hget]
   exact w2
  ·rw [hget,w1,w3 (hlast _ (by omega))]
 have T:∀ k,k < (ws W64 A).length→(dl W64 (ws W64 A).length (A/2 ^n)).take (k+1)=(dl W64 (ws W64 A).length (A/2 ^n)).take k++[(dig W64 (A/2 ^n) k:Int)] :=fun k hk=>by
  rw [take_snoc (by rw [dl_length]; exact hk),dl_getD hlt]
 have inx:∀ k:Nat,k < (ws W64 A).length→inX (ws W64 A) (ws W64 A).length (k:Int):=fun k hk=>⟨by simpa using hk,⟨by omega,by omega⟩,hpos⟩
 have step:∀ k,0 < k→k < (ws W64 A).length→Step XW4 cRig (TRig a (ws W64 A) ((dl W64 (ws W64 A).length (A/2 ^n)).take k) (ws W64 A).length k n k) .normal (TRig a (ws W64 A) ((dl W64 (ws W64 A).length (A/2 ^n)).take (k+1)) (ws W64 A).length (k+1) n ((k+1:Nat):Int)):=by
  intro k _ hk
  have hlen:k*1=((dl W64 (ws W64 A).length (A/2 ^n)).take k).length:=by rw [List.length_take,dl_length]; omega
  have hw:=wrap_succ (n:=k) (by omega)
  rw [T k hk]
  by_cases h2:k+1 < (ws W64 A).length
  ·have:=rig_both a (ws W64 A) ((dl W64 (ws W64 A).length (A/2 ^n)).take k) (ws W64 A).length k n k ⟨hlen,by omega,by omega⟩ h63 (by rw [hw]; exact inx _ h2) (by rw [hw]; simp only [decide_eq_true_eq]; omega) h64 (inx k hk) (by simpa using hk)
   rw [hw,(word k hk).1 h2] at this
   exact this
  ·have:=rig_one a (ws W64 A) ((dl W64 (ws W64 A).length (A/2 ^n)).take k) (ws W64 A).length k n k ⟨hlen,by omega,by omega⟩ (by rw [hw]; simp only [decide_eq_false_iff_not]; omega) h64 (inx k hk) (by simpa using hk)
   rw [hw,Int.toNat_natCast,(word k hk).2 h2] at this
   exact this
 have first:Step XW4 cRig (SRig a (ws W64 A) n) .normal (TRig a (ws W64 A) ((dl W64 (ws W64 A).length (A/2 ^n)).take 1) (ws W64 A).length 1 n 1):=by
  have t1:=T 0 hpos
  rw [List.take_zero,List.nil_append] at t1
  rw [t1]
  have hw:IntKind.i64.wrap (0+1)=1:=by decide
  by_cases h2:0+1 < (ws W64 A).length
  ·have:=rig_first2 a (ws W64 A) n h63
   rw [hQ,hw] at this
   have w:=(word 0 hpos).1 h2
   have e0:((0:Nat):Int)=0:=rfl
   rw [e0] at w
   rw [w] at this
   exact this (inx 1 h2) (by simp only [decide_eq_true_eq]; omega) h64 (inx 0 hpos) (by simp only [decide_eq_true_eq]; omega)
  ·have:=rig_first1 a (ws W64 A) n
   rw [hQ,hw] at this
   have w:=(word 0 hpos).2 h2
   have e0:(0:Int).toNat=0:=rfl
   rw [e0,w] at this
   exact this (by simp only [decide_eq_false_iff_not]; omega) h64 (inx 0 hpos) (by simp only [decide_eq_true_eq]; omega)
 have hL:LoopTo XW4 cRig (SRig a (ws W64 A) n) (.exit 0) (TRig a (ws W64 A) (dl W64 (ws W64 A).length (A/2 ^n)) (ws W64 A).length (ws W64 A).length n (ws W64 A).length):=by
  have hend:(dl W64 (ws W64 A).length (A/2 ^n)).take (ws W64 A).length=dl W64 (ws W64 A).length (A/2 ^n):=List.take_of_length_le (by rw [dl_length]; exact Nat.le_refl _)
  have:=loop_run (X:=XW4) (c:=cRig) (fun k=>match k with
    | 0=>SRig a (ws W64 A) n
    | k+1=>TRig a (ws W64 A) ((dl W64 (ws W64 A).length (A/2 ^n)).take (k+1)) (ws W64 A).length (k+1) n ((k+1:Nat):Int)) (ws W64 A).length (x:= .exit 0) (by intro e; cases e) (s':=TRig a (ws W64 A) (dl W64 (ws W64 A).length (A/2 ^n)) (ws W64 A).length (ws W64 A).length n (ws W64 A).length) (fun k hk=> ?_) ?_
  ·exact this
  ·cases k with
   | zero=>exact first
   | succ k=>exact step (k+1) (by omega) hk
  ·obtain⟨m,hm⟩:∃ m,(ws W64 A).length=m+1:=⟨(ws W64 A).length-1,by omega⟩
   have:=rig_out a (ws W64 A) (dl W64 (ws W64 A).length (A/2 ^n)) (ws W64 A).length (ws W64 A).length n (ws W64 A).length (by simp)
   rw [hm] at this hend ⊢
   simp only
   rw [hend]
   exact this
 obtain⟨q1,q2,q3⟩:=trim_obl (trim_dl hlt)
 have ht:List.take (ws W64 A).length (dl W64 (ws W64 A).length (A/2 ^n))=dl W64 (ws W64 A).length (A/2 ^n):=List.take_of_length_le (by rw [dl_length]; exact Nat.le_refl _)
 refine sem_of bW4_ok 10 _ _ (rig_way a _ (ws W64 A) (dl W64 (ws W64 A).length (A/2 ^n)) (ws W64 (A/2 ^n)) (ws W64 A).length (ws W64 A).length n n (ws W64 A).length) ?_
 rw [ht]
 refine⟨⟨rfl,by rw [dl_length]; omega,by rw [dl_length]; omega⟩,hL,?_,⟨q1,q2,q3⟩,trivial⟩
 rw [trim_dl hlt]
 have:=wl_pos (m:=A/2 ^n)
 congr 2
 simp only [decide_eq_decide]
 exact this
end Go.Proofs.YtdgfhijnconaoaaGreatDoor
namespace Go.Proofs.YtdgfhijnconaoaaGreatDoor
open Go Go.RowKit Ev Wd
abbrev wO (ys:List Int) (off n:Nat):Arg:= .c (.o .u64 ys off n)
def TMiO (zs ys L:List Int) (off na nb N:Nat) (la c i:Int):St:=
 ⟨only 40 [(0, .slice (some ⟨11,off,some 12⟩) na 0),(1,slV 13 nb),(5,slV 15 N),(6, .int .u64 c),(12, .slice (some ⟨11,off,some 12⟩) na 0),(13, .int .i64 la),(14, .int .i64 i)],[(15, .row u64T 1 (.ints .u64 L) 16),(11, .ints .u64 zs),(13, .ints .u64 ys)],17,[],[],0,none,[],15⟩
def TCmO (zs ys:List Int) (off na nb:Nat) (i:Int):St:=⟨only 43 [(0, .slice (some ⟨11,off,some 12⟩) na 0),(1,slV 13 nb),(5, .int .i64 i)],[(11, .ints .u64 zs),(13, .ints .u64 ys)],15,[],[],0,none,[],15⟩
def TCrO (zs ys:List Int) (off na nb:Nat) (r:Int):St:=⟨only 43 [(0, .slice (some ⟨11,off,some 12⟩) na 0),(1,slV 13 nb),(4, .int .i64 r)],[(11, .ints .u64 zs),(13, .ints .u64 ys)],15,[],[],0,none,[],15⟩
theorem cmO_way0 (zs ys:List Int) (off n:Nat) (r:Int):semR XW0 [] 200 197 [wO zs off n,wS ys] [.c (.v (.int .i64 r))] [true] =some [(Int.ofNat n !=Int.ofNat ys.length)=true,Value.int IntKind.i64 (IntKind.i64.wrap (Int.ofNat n-Int.ofNat ys.length))=Value.int IntKind.i64 r] :=by kernel_rfl
theorem cmO_way1 (zs ys:List Int) (off na nb n:Nat) (i r:Int):semR XW0 [told (.exit 0) (fun _=>TCmO zs ys off na nb i)] 200 197 [wO zs off n,wS ys] [.c (.v (.int .i64 r))] [false] =some [LoopTo XW0 cCmp (semStart XW0 200 197 [wO zs off n,wS ys] [false]) (.exit 0) (TCmO zs ys off na nb i),(Int.ofNat n !=Int.ofNat ys.length)=false,Value.int IntKind.i64 (Int.ofNat 0)=Value.int IntKind.i64 r] :=by kernel_rfl
theorem cmO_way2 (zs ys:List Int) (off na nb n:Nat) (q r:Int):semR XW0 [told .ret (fun _=>TCrO zs ys off na nb q)] 200 197 [wO zs off n,wS ys] [.c (.v (.int .i64 r))] [false] =some [LoopTo XW0 cCmp (semStart XW0 200 197 [wO zs off n,wS ys] [false]) .ret (TCrO zs ys off na nb q),(Int.ofNat n !=Int.ofNat ys.length)=false,Value.int IntKind.i64 q=Value.int IntKind.i64 r] :=by kernel_rfl
theorem cmO_less (zs ys:List Int) (off na nb:Nat) (i:Int) (hl:allP [decide (zs.getD (addO off (mulO i.toNat 1)) (Int.ofNat 0) < ys.getD i.toNat (Int.ofNat 0))=true,i.toNat < ys.length,(Int.ofNat 0≤i∧i < Int.ofNat nb)∧0 < ys.length,(addO off (mulO i.toNat 1)) < zs.length,(Int.ofNat 0≤i∧i < Int.ofNat na)∧0 < zs.length,decide (Int.ofNat 0≤i)=true]):Step XW0 cCmp (TCmO zs ys off na nb i) .ret (TCrO zs ys off na nb (-1)):=
 step_of (Base.cx_ok bW0_ok 10).1 progOk.mixed [] 200 [true,true] [] (by kernel_rfl) hl (by kernel_rfl) (by kernel_rfl)
theorem cmO_more (zs ys:List Int) (off na nb:Nat) (i:Int) (hl:allP [decide (ys.getD i.toNat (Int.ofNat 0) < zs.getD (addO off (mulO i.toNat 1)) (Int.ofNat 0))=true,i.toNat < ys.length,(Int.ofNat 0≤i∧i < Int.ofNat nb)∧0 < ys.length,(addO off (mulO i.toNat 1)) < zs.length,(Int.ofNat 0≤i∧i < Int.ofNat na)∧0 < zs.length,decide (zs.getD (addO off (mulO i.toNat 1)) (Int.ofNat 0) < ys.getD i.toNat (Int.ofNat 0))=false,i.toNat < ys.length,(Int.ofNat 0≤i∧i < Int.ofNat nb)∧0 < ys.length,(addO off (mulO i.toNat 1)) < zs.length,(Int.ofNat 0≤i∧i < Int.ofNat na)∧0 < zs.length,decide (Int.ofNat 0≤i)=true]):Step XW0 cCmp (TCmO zs ys off na nb i) .ret (TCrO zs ys off na nb 1):=
 step_of (Base.cx_ok bW0_ok 10).1 progOk.mixed [] 200 [true,false,true] [] (by kernel_rfl) hl (by kernel_rfl) (by kernel_rfl)
theorem cmO_same (zs ys:List Int) (off na nb:Nat) (i:Int) (hl:allP [decide (ys.getD i.toNat (Int.ofNat 0) < zs.getD (addO off (mulO i.toNat 1)) (Int.ofNat 0))=false,i.toNat < ys.length,(Int.ofNat 0≤i∧i < Int.ofNat nb)∧0 < ys.length,(addO off (mulO i.toNat 1)) < zs.length,(Int.ofNat 0≤i∧i < Int.ofNat na)∧0 < zs.length,decide (zs.getD (addO off (mulO i.toNat 1)) (Int.ofNat 0) < ys.getD i.toNat (Int.ofNat 0))=false,i.toNat < ys.length,(Int.ofNat 0≤i∧i < Int.ofNat nb)∧0 < ys.length,(addO off (mulO i.toNat 1)) < zs.length,(Int.ofNat 0≤i∧i < Int.ofNat na)∧0 < zs.length,decide (Int.ofNat 0≤i)=true]):Step XW0 cCmp (TCmO zs ys off na nb i) .normal (TCmO zs ys off na nb (IntKind.i64.wrap (i-1))):=
 step_of (Base.cx_ok bW0_ok 10).1 progOk.mixed [] 200 [true,false,false] [] (by kernel_rfl) hl (by kernel_rfl) (by kernel_rfl)
theorem cmO_out (zs ys:List Int) (off na nb:Nat) (i:Int) (hl:allP [decide (Int.ofNat 0≤i)=false]):Step XW0 cCmp (TCmO zs ys off na nb i) (.exit 0) (TCmO zs ys off na nb i):=
 step_of (Base.cx_ok bW0_ok 10).1 progOk.mixed [] 200 [false] [] (by kernel_rfl) hl (by kernel_rfl) (by kernel_rfl)
theorem miO_way (zs ys L R:List Int) (off n na nb N:Nat) (la c i:Int):semR XW0 [told (.exit 0) (fun _=>TMiO zs ys L off na nb N la c i)] 200 202 [wO zs off n,wS ys] [wS R] [] =some [LoopTo XW0 cMin (semStart XW0 200 202 [wO zs off n,wS ys] []) (.exit 0) (TMiO zs ys L off na nb N la c i),Int.ofNat 0≤Int.ofNat n∧Int.ofNat n=Int.ofNat n∧Int.ofNat (8*n)≤Int.ofNat 281474976710656∧Int.ofNat n≤Int.ofNat 9223372036854775807,N=R.length∧N≤L.length∧List.take N L=R] :=by kernel_rfl
theorem miO_both (zs ys L:List Int) (off na nb N:Nat) (la c i:Int) (hl:allP [i.toNat < L.length,(Int.ofNat 0≤i∧i < Int.ofNat N)∧0 < L.length,c.toNat≤1,(addO off (mulO i.toNat 1)) < zs.length,(Int.ofNat 0≤i∧i < Int.ofNat na)∧0 < zs.length,i.toNat < ys.length,(Int.ofNat 0≤i∧i < Int.ofNat nb)∧0 < ys.length,decide (i < Int.ofNat nb)=true,decide (i < la)=true]):Step XW0 cMin (TMiO zs ys L off na nb N la c i) .normal (TMiO zs ys (setF L i.toNat (subLo (zs.getD (addO off i.toNat) 0) (ys.getD i.toNat 0) c)) off na nb N la (subHi (zs.getD (addO off i.toNat) 0) (ys.getD i.toNat 0) c) (IntKind.i64.wrap (i+1))):=
 step_of (Base.cx_ok bW0_ok 10).1 progOk.mixed [] 200 [true,true] [] (by kernel_rfl) hl (by kernel_rfl) (by kernel_rfl)
theorem miO_one (zs ys L:List Int) (off na nb N:Nat) (la c i:Int) (hl:allP [i.toNat < L.length,(Int.ofNat 0≤i∧i < Int.ofNat N)∧0 < L.length,c.toNat≤1,(addO off (mulO i.toNat 1)) < zs.length,(Int.ofNat 0≤i∧i < Int.ofNat na)∧0 < zs.length,decide (i < Int.ofNat nb)=false,decide (i < la)=true]):Step XW0 cMin (TMiO zs ys L off na nb N la c i) .normal (TMiO zs ys (setF L i.toNat (subLo (zs.getD (addO off i.toNat) 0) 0 c)) off na nb N la (subHi (zs.getD (addO off i.toNat) 0) 0 c) (IntKind.i64.wrap (i+1))):=
 step_of (Base.cx_ok bW0_ok 10).1 progOk.mixed [] 200 [true,false] [] (by kernel_rfl) hl (by kernel_rfl) (by kernel_rfl)
theorem miO_out (zs ys L:List Int) (off na nb N:Nat) (la c i:Int) (hl:allP [decide (i < la)=false]):Step XW0 cMin (TMiO zs ys L off na nb N la c i) (.exit 0) (TMiO zs ys L off na nb N la c i):=
 step_of (Base.cx_ok bW0_ok 10).1 progOk.mixed [] 200 [false] [] (by kernel_rfl) hl (by kernel_rfl) (by kernel_rfl)
abbrev part (zs:List Int) (off n:Nat):List Int:=(zs.drop off).take n
theorem part_len {zs:List Int} {off n:Nat} (h:off+n≤zs.length):(part zs off n).length=n:=by
 unfold part
 rw [List.length_take,List.length_drop]
 omega
theorem part_getD {zs:List Int} {off n m:Nat} (hm:m < n):(part zs off n).getD m 0=zs.getD (off+m) 0:=by
 unfold part
 simp [List.getD,List.getElem?_drop,hm]
theorem at_part {zs:List Int} {off n m:Nat} (hm:m < n):zs.getD (addO off (mulO (Int.ofNat m).toNat 1)) (Int.ofNat 0)=(part zs off n).getD m 0:=by
 rw [part_getD hm,addO_eq,mulO_eq]
 simp
section
variable (zs ys:List Int) {off n m:Nat} (ho:off+n≤zs.length)
include ho
theorem cmO_less' (hm:m < n) (hy:m < ys.length) (h:(part zs off n).getD m 0 < ys.getD m 0):Step XW0 cCmp (TCmO zs ys off n ys.length m) .ret (TCrO zs ys off n ys.length (-1)):=by
 refine cmO_less zs ys off n ys.length (Int.ofNat m) ⟨?_,hy,⟨⟨Int.ofNat_le.2 (Nat.zero_le _),Int.ofNat_lt.2 hy⟩,by omega⟩,?_,⟨⟨Int.ofNat_le.2 (Nat.zero_le _),Int.ofNat_lt.2 hm⟩,by omega⟩,by simp,trivial⟩
 ·rw [← at_part (n:=n) hm] at h
  exact decide_eq_true h
 ·show addO off (mulO (Int.ofNat m).toNat 1) < _
  rw [addO_eq,mulO_eq]
  simp
  omega
theorem cmO_more' (hm:m < n) (hy:m < ys.length) (h:ys.getD m 0 < (part zs off n).getD m 0):Step XW0 cCmp (TCmO zs ys off n ys.length m) .ret (TCrO zs ys off n ys.length 1):=by
 have ha:addO off (mulO (Int.ofNat m).toNat 1) < zs.length:=by rw [addO_eq,mulO_eq]; simp; omega
 have b1:(Int.ofNat 0≤Int.ofNat m∧Int.ofNat m < Int.ofNat ys.length)∧0 < ys.length:=⟨⟨Int.ofNat_le.2 (Nat.zero_le _),Int.ofNat_lt.2 hy⟩,by omega⟩
 have b2:(Int.ofNat 0≤Int.ofNat m∧Int.ofNat m < Int.ofNat n)∧0 < zs.length:=⟨⟨Int.ofNat_le.2 (Nat.zero_le _),Int.ofNat_lt.2 hm⟩,by omega⟩
 rw [← at_part (n:=n) hm] at h
 exact cmO_more zs ys off n ys.length (Int.ofNat m) ⟨decide_eq_true h,hy,b1,ha,b2,decide_eq_false (Int.not_lt.2 (Int.le_of_lt h)),hy,b1,ha,b2,by simp,trivial⟩
theorem cmO_same' (hm:m < n) (hy:m < ys.length) (h:(part zs off n).getD m 0=ys.getD m 0):Step XW0 cCmp (TCmO zs ys off n ys.length m) .normal (TCmO zs ys off n ys.length (IntKind.i64.wrap ((m:Int)-1))):=by
 have ha:addO off (mulO (Int.ofNat m).toNat 1) < zs.length:=by rw [addO_eq,mulO_eq]; simp; omega
 have b1:(Int.ofNat 0≤Int.ofNat m∧Int.ofNat m < Int.ofNat ys.length)∧0 < ys.length:=⟨⟨Int.ofNat_le.2 (Nat.zero_le _),Int.ofNat_lt.2 hy⟩,by omega⟩
 have b2:(Int.ofNat 0≤Int.ofNat m∧Int.ofNat m < Int.ofNat n)∧0 < zs.length:=⟨⟨Int.ofNat_le.2 (Nat.zero_le _),Int.ofNat_lt.2 hm⟩,by omega⟩
 rw [← at_part (n:=n) hm] at h
 have h1:¬ ys.getD m 0 < zs.getD (addO off (mulO (Int.ofNat m).toNat 1)) (Int.ofNat 0):=by rw [h]; exact Int.lt_irrefl _
 have h2:¬ zs.getD (addO off (mulO (Int.ofNat m).toNat 1)) (Int.ofNat 0) < ys.getD m 0:=by rw [h]; exact Int.lt_irrefl _
 exact cmO_same zs ys off n ys.length (Int.ofNat m) ⟨decide_eq_false h1,hy,b1,ha,b2,decide_eq_false h2,hy,b1,ha,b2,by simp,trivial⟩
theorem miO_both' (L:List Int) (c:Int) (hm:m < n) (hy:m < ys.length) (hL:n≤L.length) (hc:c.toNat≤1):Step XW0 cMin (TMiO zs ys L off n ys.length n n c m) .normal (TMiO zs ys (setF L m (subLo ((part zs off n).getD m 0) (ys.getD m 0) c)) off n ys.length n n (subHi ((part zs off n).getD m 0) (ys.getD m 0) c) (IntKind.i64.wrap ((m:Int)+1))):=by
 have ha:addO off (mulO (Int.ofNat m).toNat 1) < zs.length:=by rw [addO_eq,mulO_eq]; simp; omega
 have b2:(Int.ofNat 0≤Int.ofNat m∧Int.ofNat m < Int.ofNat n)∧0 < zs.length:=⟨⟨Int.ofNat_le.2 (Nat.zero_le _),Int.ofNat_lt.2 hm⟩,by omega⟩
 have b3:(Int.ofNat 0≤Int.ofNat m∧Int.ofNat m < Int.ofNat n)∧0 < L.length:=⟨⟨Int.ofNat_le.2 (Nat.zero_le _),Int.ofNat_lt.2 hm⟩,by omega⟩
 have:=miO_both zs ys L off n ys.length n n c (Int.ofNat m) ⟨(by simp; omega),b3,hc,ha,b2,hy,⟨⟨Int.ofNat_le.2 (Nat.zero_le _),Int.ofNat_lt.2 hy⟩,by omega⟩,decide_eq_true (Int.ofNat_lt.2 hy),decide_eq_true (Int.ofNat_lt.2 hm),trivial⟩
 rw [show addO off (Int.ofNat m).toNat=off+m by rw [addO_eq]; rfl,← part_getD (zs:=zs) (off:=off) hm] at this
 exact this
theorem miO_one' (L:List Int) (c:Int) (hm:m < n) (hy:ys.length≤m) (hL:n≤L.length) (hc:c.toNat≤1):Step XW0 cMin (TMiO zs ys L off n ys.length n n c m) .normal (TMiO zs ys (setF L m (subLo ((part zs off n).getD m 0) 0 c)) off n ys.length n n (subHi ((part zs off n).getD m 0) 0 c) (IntKind.i64.wrap ((m:Int)+1))):=by
 have ha:addO off (mulO (Int.ofNat m).toNat 1) < zs.length:=by rw [addO_eq,mulO_eq]; simp; omega
 have b2:(Int.ofNat 0≤Int.ofNat m∧Int.ofNat m < Int.ofNat n)∧0 < zs.length:=⟨⟨Int.ofNat_le.2 (Nat.zero_le _),Int.ofNat_lt.2 hm⟩,by omega⟩
 have b3:(Int.ofNat 0≤Int.ofNat m∧Int.ofNat m < Int.ofNat n)∧0 < L.length:=⟨⟨Int.ofNat_le.2 (Nat.zero_le _),Int.ofNat_lt.2 hm⟩,by omega⟩
 have:=miO_one zs ys L off n ys.length n n c (Int.ofNat m) ⟨(by simp; omega),b3,hc,ha,b2,decide_eq_false (by simp; omega),decide_eq_true (Int.ofNat_lt.2 hm),trivial⟩
 rw [show addO off (Int.ofNat m).toNat=off+m by rw [addO_eq]; rfl,← part_getD (zs:=zs) (off:=off) hm] at this
 exact this
end
theorem cmO_into (zs ys:List Int) (off n:Nat) (x:AX) (s':St) (h:LoopTo XW0 cCmp (TCmO zs ys off n ys.length (IntKind.i64.wrap ((n:Int)-1))) x s'):LoopTo XW0 cCmp (semStart XW0 200 197 [wO zs off n,wS ys] [false]) x s':=
 loop_into' h [] (by kernel_rfl) (by kernel_rfl) (by kernel_rfl)
theorem miO_into (zs ys:List Int) (off n:Nat) (x:AX) (s':St) (h:LoopTo XW0 cMin (TMiO zs ys (List.replicate n 0) off n ys.length n n 0 0) x s'):LoopTo XW0 cMin (semStart XW0 200 202 [wO zs off n,wS ys] []) x s':=
 loop_into' h [] (by kernel_rfl) (by kernel_rfl) (by kernel_rfl)
theorem compareO_sem {zs xs ys:List Int} {off n:Nat} (ho:off+n≤zs.length) (hxs:xs=part zs off n) (hx:Dg W64 xs) (hy:Dg W64 ys) (h1:n < 1099511627776) (h2:ys.length < 1099511627776):
  Ev.Sem Tryz.prog J0 197 [wO zs off n,wS ys] [.c (.v (.int .i64 (cmpI xs ys)))] :=by
 obtain rfl:n=xs.length:=by rw [hxs,part_len ho]
 by_cases hn:xs.length=ys.length
 case neg=>
  refine sem_of bW0_ok 10 _ _ (cmO_way0 zs ys off xs.length _) ⟨by simp; omega,?_,trivial⟩
  unfold cmpI
  rw [if_pos hn]
  have:=IntKind.wrap_i64 ((xs.length:Int)-ys.length)
  congr 1
  simp only [Int.ofNat_eq_natCast]
  omega
 have hw:∀ m:Nat,m < xs.length→IntKind.i64.wrap (((m+1:Nat):Int)-1)=(m:Int):=fun m hm=>by
  have:=wrap_nat (n:=m) (by omega)
  rw [← this]
  congr 1
  omega
 have hw1:IntKind.i64.wrap ((xs.length:Int)-1)=(xs.length:Int)-1:=by
  have:=IntKind.wrap_i64 ((xs.length:Int)-1)
  omega
 have hws:∀ m:Nat,m < xs.length→IntKind.i64.wrap ((m:Int)-1)=(m:Int)-1:=fun m hm=>by
  have:=IntKind.wrap_i64 ((m:Int)-1)
  omega
 have step:∀ m,m < xs.length→xs.drop (m+1)=ys.drop (m+1)→
   (val W64 xs < val W64 ys∧Step XW0 cCmp (TCmO zs ys off xs.length ys.length m) .ret (TCrO zs ys off xs.length ys.length (-1)))∨
   (val W64 ys < val W64 xs∧Step XW0 cCmp (TCmO zs ys off xs.length ys.length m) .ret (TCrO zs ys off xs.length ys.length 1))∨
   (xs.drop m=ys.drop m∧Step XW0 cCmp (TCmO zs ys off xs.length ys.length m) .normal (TCmO zs ys off xs.length ys.length ((m:Int)-1))):=by
  intro m hm hd
  rcases Int.lt_trichotomy (xs.getD m 0) (ys.getD m 0) with h | h | h
  ·exact .inl ⟨val_top hx hm (by omega) hd h,by rw [hxs] at h; exact cmO_less' zs ys ho hm (by omega) h⟩
  ·right; right
   refine⟨by rw [drop_getD (l:=xs) (m:=m) hm,drop_getD (l:=ys) (m:=m) (by omega),h,hd],?_⟩
   have:=cmO_same' zs ys ho hm (by omega) (by rw [← hxs]; exact h)
   rw [hws m hm] at this
   exact this
  ·exact .inr (.inl ⟨val_top hy (by omega) hm hd.symm h,by rw [hxs] at h; exact cmO_more' zs ys ho hm (by omega) h⟩)
 have good:∀ m,m≤xs.length→xs.drop m=ys.drop m→
   (val W64 xs < val W64 ys∧LoopTo XW0 cCmp (TCmO zs ys off xs.length ys.length ((m:Int)-1)) .ret (TCrO zs ys off xs.length ys.length (-1)))∨
   (val W64 ys < val W64 xs∧LoopTo XW0 cCmp (TCmO zs ys off xs.length ys.length ((m:Int)-1)) .ret (TCrO zs ys off xs.length ys.length 1))∨
   (xs=ys∧LoopTo XW0 cCmp (TCmO zs ys off xs.length ys.length ((m:Int)-1)) (.exit 0) (TCmO zs ys off xs.length ys.length (-1))):=by
  intro m hm hd
  rcases Nat.lt_trichotomy (val W64 xs) (val W64 ys) with h | h | h
  ·refine .inl ⟨h,?_⟩
   refine loop_of (fun m:Nat=>TCmO zs ys off xs.length ys.length ((m:Int)-1)) id (fun m=>m≤xs.length∧xs.drop m=ys.drop m) (by intro e; cases e) (fun k hk=> ?_) m ⟨hm,hd⟩
   cases k with
   | zero=>
    have:xs=ys:=by simpa using hk.2
    rw [this] at h
    omega
   | succ k=>
    have e:(((k+1:Nat):Int)-1)=(k:Int):=by omega
    simp only [e]
    rcases step k (by omega) hk.2 with ⟨_,s⟩ | ⟨q,_⟩ | ⟨q,s⟩
    ·exact .inr s
    ·omega
    ·exact .inl ⟨k,⟨by omega,q⟩,Nat.lt_succ_self _,s⟩
  ·refine .inr (.inr ?_)
   have he:=val_inj W64_pos hx hy hn h
   refine⟨he,?_⟩
   refine loop_of (fun m:Nat=>TCmO zs ys off xs.length ys.length ((m:Int)-1)) id (fun m=>m≤xs.length∧xs.drop m=ys.drop m) (by intro e; cases e) (fun k hk=> ?_) m ⟨hm,hd⟩
   cases k with
   | zero=>
    right
    exact cmO_out zs ys off xs.length ys.length (-1) ⟨by decide,trivial⟩
   | succ k=>
    have e:(((k+1:Nat):Int)-1)=(k:Int):=by omega
    simp only [e]
    rcases step k (by omega) hk.2 with ⟨q,_⟩ | ⟨q,_⟩ | ⟨q,s⟩
    ·omega
    ·omega
    ·exact .inl ⟨k,⟨by omega,q⟩,Nat.lt_succ_self _,s⟩
  ·refine .inr (.inl ⟨h,?_⟩)
   refine loop_of (fun m:Nat=>TCmO zs ys off xs.length ys.length ((m:Int)-1)) id (fun m=>m≤xs.length∧xs.drop m=ys.drop m) (by intro e; cases e) (fun k hk=> ?_) m ⟨hm,hd⟩
   cases k with
   | zero=>
    have:xs=ys:=by simpa using hk.2
    rw [this] at h
    omega
   | succ k=>
    have e:(((k+1:Nat):Int)-1)=(k:Int):=by omega
    simp only [e]
    rcases step k (by omega) hk.2 with ⟨q,_⟩ | ⟨_,s⟩ | ⟨q,s⟩
    ·omega
    ·exact .inr s
    ·exact .inl ⟨k,⟨by omega,q⟩,Nat.lt_succ_self _,s⟩
 have hne:((xs.length:Int) !=ys.length)=false:=by simp [hn]
 rcases good xs.length (Nat.le_refl _) (by rw [List.drop_length,hn,List.drop_length]) with ⟨h,s⟩ | ⟨h,s⟩ | ⟨h,s⟩
 ·rw [← hw1] at s
  refine sem_of bW0_ok 10 _ _ (cmO_way2 zs ys off _ _ _ (-1) _) ⟨cmO_into zs ys off _ _ _ s,hne,?_,trivial⟩
  unfold cmpI
  rw [if_neg (by simp [hn]),if_pos h]
 ·rw [← hw1] at s
  refine sem_of bW0_ok 10 _ _ (cmO_way2 zs ys off _ _ _ 1 _) ⟨cmO_into zs ys off _ _ _ s,hne,?_,trivial⟩
  unfold cmpI
  rw [if_neg (by simp [hn]),if_neg (by omega),if_pos h]
 ·rw [← hw1] at s
  refine sem_of bW0_ok 10 _ _ (cmO_way1 zs ys off _ _ _ (-1) _) ⟨cmO_into zs ys off _ _ _ s,hne,?_,trivial⟩
  unfold cmpI
  rw [if_neg (by simp [hn]),if_neg (by rw [h]; omega),if_neg (by rw [h]; omega)]
  rfl
theorem minusO_sem {zs xs ys:List Int} {off n:Nat} (ho:off+n≤zs.length) (hxs:xs=part zs off n) (hx:Dg W64 xs) (hy:Dg W64 ys) (hle:val W64 ys≤val W64 xs) (h1:n < 1099511627776) (h2:ys.length≤n):
  Ev.Sem Tryz.prog J0 202 [wO zs off n,wS ys] [wS (difW xs ys)] :=by
 unfold difW
 obtain rfl:n=xs.length:=by rw [hxs,part_len ho]
 obtain⟨hg,hi⟩:=goodM_all hx hy xs.length xs.length (Nat.le_refl _)
 have hlast:=goodM_last hx hy (Nat.le_refl _) h2 hle hg hi
 have hL:LoopTo XW0 cMin (TMiO zs ys (List.replicate xs.length 0) off xs.length ys.length xs.length xs.length 0 0) (.exit 0)
   (TMiO zs ys (itr (minN xs ys) xs.length (zeroI xs.length)).L off xs.length ys.length xs.length xs.length (itr (minN xs ys) xs.length (zeroI xs.length)).c xs.length):=by
  refine loop_run (fun k=>TMiO zs ys (itr (minN xs ys) k (zeroI xs.length)).L off xs.length ys.length xs.length xs.length (itr (minN xs ys) k (zeroI xs.length)).c k) xs.length (by intro e; cases e) (fun k hk=> ?_)
   (miO_out zs ys _ off xs.length ys.length xs.length _ _ xs.length ⟨by simp,trivial⟩)
  obtain⟨hg,hi⟩:=goodM_all hx hy xs.length k (by omega)
  simp only [itr]
  generalize itr (minN xs ys) k (zeroI xs.length)=s at*
  obtain⟨h1',h2',h3,h4,h5,h6,h7⟩:=hg
  have hw:=wrap_succ (n:=k) (by omega)
  subst hi
  by_cases hlt2:s.i < ys.length
  ·have:=miO_both' zs ys ho s.L s.c hk hlt2 (by omega) (by omega)
   rw [hw,← hxs] at this
   exact this
  ·have:=miO_one' zs ys ho s.L s.c hk (by omega) (by omega) (by omega)
   rw [hw,← hxs] at this
   unfold minN
   rw [getD_beyond (l:=ys) (i:=s.i) (by omega)]
   exact this
 refine sem_of bW0_ok 10 _ _ (miO_way zs ys _ _ off xs.length _ _ _ _ _ _) ⟨miO_into zs ys off _ _ _ hL,⟨by simp,rfl,?_,?_⟩,⟨?_,?_,?_⟩,trivial⟩
 ·exact Int.ofNat_le.2 (by omega)
 ·exact Int.ofNat_le.2 (by omega)
 ·rw [dl_length]
 ·rw [hg.2.1]; exact Nat.le_refl _
 ·rw [hlast]
  exact List.take_of_length_le (by rw [dl_length]; exact Nat.le_refl _)
end Go.Proofs.YtdgfhijnconaoaaGreatDoor
namespace Go.Proofs.YtdgfhijnconaoaaGreatDoor
open Go Go.RowKit Ev Wd
abbrev shO:AS:= .c (.o .u64)
abbrev iW (neg:Bool) (xs:List Int):Arg:= .a [.v (.bool neg), .s u64T .u64 xs]
def Cn (xs:List Int):Prop:=xs=ws W64 (val W64 xs)
def mulX (xs ys:List Int):List Int:=ws W64 (val W64 xs*val W64 ys)
def addX (a b:Bool) (xs ys:List Int):List Int:=ws W64 (addM a b (val W64 xs) (val W64 ys))
def negX (a b:Bool) (xs ys:List Int):Bool:=addS a b (val W64 xs) (val W64 ys)
def quoX (xs:List Int) (d:Int):List Int:=ws W64 (val W64 xs/d.toNat)
def remX (xs:List Int) (d:Int):Int:=((val W64 xs%d.toNat:Nat):Int)
def lefX (xs:List Int) (n:Int):List Int:=ws W64 (val W64 xs*2 ^n.toNat)
def rigX (xs:List Int) (n:Int):List Int:=ws W64 (val W64 xs/2 ^n.toNat)
def wrdX (n:Int):List Int:=ws W64 n.toNat
def sgnX (a:Bool) (xs:List Int):Bool:=a && decide (0 < val W64 xs)
theorem Cn.ws (m:Nat):Cn (Wd.ws W64 m):=by unfold Cn; rw [wsVal]
def specWord:List Arg→Option (List Arg×List Prop)
 | [.c (.v (.int .u64 n))] =>some ([iW false (wrdX n)],[0≤n∧n.toNat < W64])
 | _=>none
def specMul:List Arg→Option (List Arg×List Prop)
 | [.a [.v (.bool a), .s 32 .u64 xs], .a [.v (.bool b), .s 32 .u64 ys]] =>some ([iW (sgnX (a !=b) (mulX xs ys)) (mulX xs ys)],[Cn xs,Cn ys,xs.length < 274877906944,ys.length < 274877906944])
 | _=>none
def specAdd:List Arg→Option (List Arg×List Prop)
 | [.a [.v (.bool a), .s 32 .u64 xs], .a [.v (.bool b), .s 32 .u64 ys]] =>some ([iW (negX a b xs ys) (addX a b xs ys)],[Cn xs,Cn ys,xs.length < 549755813888,ys.length < 549755813888])
 | _=>none
def specShort:List Arg→Option (List Arg×List Prop)
 | [.a [.v (.bool _), .s 32 .u64 xs], .c (.v (.int .u64 d))] =>some ([iW false (quoX xs d),uR (remX xs d)],[Cn xs,xs.length < 549755813888,0 < d∧d.toNat < W64])
 | _=>none
def specLeft:List Arg→Option (List Arg×List Prop)
 | [.a [.v (.bool a), .s 32 .u64 xs], .c (.v (.int .i64 n))] =>some ([iW (sgnX a (lefX xs n)) (lefX xs n)],[Cn xs,xs.length < 549755813888,0≤n∧n.toNat < 549755813888])
 | _=>none
def specRight:List Arg→Option (List Arg×List Prop)
 | [.a [.v (.bool a), .s 32 .u64 xs], .c (.v (.int .i64 n))] =>some ([iW (sgnX a (rigX xs n)) (rigX xs n)],[Cn xs,xs.length < 549755813888,0≤n∧n.toNat < 64])
 | _=>none
def specSign:List Arg→Option (List Arg×List Prop)
 | [.a [.v (.bool a), .s 32 .u64 xs]] =>some ([iR (signI a (val W64 xs))],[Cn xs])
 | _=>none
def specCompareO:List Arg→Option (List Arg×List Prop)
 | [.c (.o .u64 zs off n), .c (.s 32 .u64 ys)] =>some ([.c (.v (.int .i64 (cmpI (part zs off n) ys)))],[off+n≤zs.length,Dg W64 zs,Dg W64 ys,n < 1099511627776,ys.length < 1099511627776])
 | _=>none
def specMinusO:List Arg→Option (List Arg×List Prop)
 | [.c (.o .u64 zs off n), .c (.s 32 .u64 ys)] =>some ([wS (difW (part zs off n) ys)],[off+n≤zs.length,Dg W64 zs,Dg W64 ys,val W64 ys≤val W64 (part zs off n),n < 1099511627776,ys.length≤n])
 | _=>none
theorem specWord_ok:∀ az rs l,specWord az=some (rs,l)→allP l→Ev.Sem Tryz.prog J0 86 az rs:=by
 intro az rs l h hl
 unfold specWord at h
 split at h
 ·cases h
  rename_i n
  obtain⟨⟨h1,h2⟩,_⟩:=hl
  have:=word_sem n.toNat h2
  rw [Int.toNat_of_nonneg h1] at this
  exact this
 ·cases h
theorem specMul_ok:∀ az rs l,specMul az=some (rs,l)→allP l→Ev.Sem Tryz.prog J0 89 az rs:=by
 intro az rs l h hl
 unfold specMul at h
 split at h
 ·cases h
  rename_i a xs b ys
  obtain⟨h1,h2,h3,h4,_⟩:=hl
  unfold Cn at h1 h2
  have:=mul_sem a b (A:=val W64 xs) (B:=val W64 ys) (by unfold wl; rw [← h1]; exact h3) (by unfold wl; rw [← h2]; exact h4)
  unfold iN at this
  rw [← h1,← h2] at this
  unfold sgnX mulX
  rw [wsVal]
  exact this
 ·cases h
theorem specAdd_ok:∀ az rs l,specAdd az=some (rs,l)→allP l→Ev.Sem Tryz.prog J0 151 az rs:=by
 intro az rs l h hl
 unfold specAdd at h
 split at h
 ·cases h
  rename_i a xs b ys
  obtain⟨h1,h2,h3,h4,_⟩:=hl
  unfold Cn at h1 h2
  have:=add_sem a b (A:=val W64 xs) (B:=val W64 ys) (by unfold wl; rw [← h1]; exact h3) (by unfold wl; rw [← h2]; exact h4)
  unfold iN at this
  rw [← h1,← h2] at this
  exact this
 ·cases h
theorem specShort_ok:∀ az rs l,specShort az=some (rs,l)→allP l→Ev.Sem Tryz.prog J0 143 az rs:=by
 intro az rs l h hl
 unfold specShort at h
 split at h
 ·cases h
  rename_i a xs d
  obtain⟨h1,h3,⟨h4,h5⟩,_⟩:=hl
  unfold Cn at h1
  have:=short_sem a (A:=val W64 xs) (d:=d.toNat) (by unfold wl; rw [← h1]; exact h3) (by omega) h5
  unfold iN at this
  rw [← h1,Int.toNat_of_nonneg (Int.le_of_lt h4)] at this
  exact this
 ·cases h
theorem specLeft_ok:∀ az rs l,specLeft az=some (rs,l)→allP l→Ev.Sem Tryz.prog J0 87 az rs:=by
 intro az rs l h hl
 unfold specLeft at h
 split at h
 ·cases h
  rename_i a xs n
  obtain⟨h1,h3,⟨h4,h5⟩,_⟩:=hl
  unfold Cn at h1
  have:=left_sem a (A:=val W64 xs) (n:=n.toNat) (by unfold wl; rw [← h1]; exact h3) h5
  unfold iN at this
  rw [← h1,Int.toNat_of_nonneg h4] at this
  unfold sgnX lefX
  rw [wsVal]
  exact this
 ·cases h
theorem specRight_ok:∀ az rs l,specRight az=some (rs,l)→allP l→Ev.Sem Tryz.prog J0 199 az rs:=by
 intro az rs l h hl
 unfold specRight at h
 split at h
 ·cases h
  rename_i a xs n
  obtain⟨h1,h3,⟨h4,h5⟩,_⟩:=hl
  unfold Cn at h1
  have:=right_sem a (A:=val W64 xs) (n:=n.toNat) (by unfold wl; rw [← h1]; exact h3) h5
  unfold iN at this
  rw [← h1,Int.toNat_of_nonneg h4] at this
  unfold sgnX rigX
  rw [wsVal]
  exact this
 ·cases h
theorem specSign_ok:∀ az rs l,specSign az=some (rs,l)→allP l→Ev.Sem Tryz.prog J0 168 az rs:=by
 intro az rs l h hl
 unfold specSign at h
 split at h
 ·cases h
  rename_i a xs
  obtain⟨h1,_⟩:=hl
  unfold Cn at h1
  have:=sign_sem a (val W64 xs)
  unfold iN at this
  rw [← h1] at this
  exact this
 ·cases h
theorem part_dg {zs:List Int} (h:Dg W64 zs) (off n:Nat):Dg W64 (part zs off n):=(h.drop _).take _
theorem specCompareO_ok:∀ az rs l,specCompareO az=some (rs,l)→allP l→Ev.Sem Tryz.prog J0 197 az rs:=by
 intro az rs l h hl
 unfold specCompareO at h
 split at h
 ·cases h
  rename_i zs off n ys
  obtain⟨h1,h2,h3,h4,h5,_⟩:=hl
  exact compareO_sem h1 rfl (part_dg h2 _ _) h3 h4 h5
 ·cases h
theorem specMinusO_ok:∀ az rs l,specMinusO az=some (rs,l)→allP l→Ev.Sem Tryz.prog J0 202 az rs:=by
 intro az rs l h hl
 unfold specMinusO at h
 split at h
 ·cases h
  rename_i zs off n ys
  obtain⟨h1,h2,h3,h4,h5,h6,_⟩:=hl
  exact minusO_sem h1 rfl (part_dg h2 _ _) h3 h4 h5 h6
 ·cases h
noncomputable def mtabW5:MTab:=mtabAdd 141 specMade (mtabAdd 86 (liftS [shV] specWord) (mtabAdd 89 (liftS [shI,shI] specMul)
 (mtabAdd 197 (liftS [shO,shW] specCompareO) (mtabAdd 202 (liftS [shO,shW] specMinusO) mtab0))))
theorem mtabW5_ok:ClOk Tryz.prog J0 mtabW5:=mtabAdd_ok specMade_ok (mtabAdd_ok (liftS_ok _ specWord_ok) (mtabAdd_ok (liftS_ok _ specMul_ok) (mtabAdd_ok (liftS_ok _ specCompareO_ok) (mtabAdd_ok (liftS_ok _ specMinusO_ok) (mtab0_ok _ _)))))
noncomputable def bW5:Base:=⟨Tryz.prog,J0,false,tabW4,mtabW5,200,xtN0⟩
theorem bW5_ok:BaseOk bW5:=⟨progOk,tabW4_ok,mtabW5_ok,xtN0_ok⟩
noncomputable abbrev XW5:Cx:=bW5.cx 10
end Go.Proofs.YtdgfhijnconaoaaGreatDoor
namespace Go.Proofs.YtdgfhijnconaoaaGreatDoor
open Go Go.RowKit Ev Wd
noncomputable def cDig:Code:=loopAt Tryz.prog 198 0
abbrev digA (off m n:Nat):List Value:=[.slice (some ⟨11,off,some 12⟩) m off,slV 13 n]
abbrev digH (zs ys:List Int):Heap:=[(11, .row u64T 1 (.ints .u64 zs) 12),(13, .ints .u64 ys)]
def TDig (zs ys:List Int) (off m n:Nat) (q:Int):St:=⟨only 58 [(0, .slice (some ⟨11,off,some 12⟩) m off),(1,slV 13 n),(6, .int .u64 q)],digH zs ys,15,[],[],0,none,[],15⟩
def TDir (zs ys:List Int) (r:Int):St:=⟨only 58 [(4, .int .u64 r)],digH zs ys,15,[],[],0,none,[],15⟩
def digP (ys:List Int) (q:Int):List Int:=(mulX ((wrdX q).take (wrdX q).length) ys).take (mulX ((wrdX q).take (wrdX q).length) ys).length
def digD (zs ys:List Int) (off m:Nat) (q:Int):List Int:=difW (part zs off m) (digP ys q)
def digRow (zs ys:List Int) (off m:Nat) (q:Int):List Int:=zs.take off++((digD zs ys off m q).drop 0).take (digD zs ys off m q).length++zs.drop (off+(digD zs ys off m q).length)
theorem dig_take (zs ys:List Int) (off m n:Nat) (q:Int) (hl:allP [0 < (difW (part zs off m) (List.take (mulX (List.take (wrdX q).length (wrdX q)) ys).length (mulX (List.take (wrdX q).length (wrdX q)) ys))).length∧(difW (part zs off m) (List.take (mulX (List.take (wrdX q).length (wrdX q)) ys).length (mulX (List.take (wrdX q).length (wrdX q)) ys))).length≤m∧off+(difW (part zs off m) (List.take (mulX (List.take (wrdX q).length (wrdX q)) ys).length (mulX (List.take (wrdX q).length (wrdX q)) ys))).length≤zs.length∧0+(difW (part zs off m) (List.take (mulX (List.take (wrdX q).length (wrdX q)) ys).length (mulX (List.take (wrdX q).length (wrdX q)) ys))).length≤(difW (part zs off m) (List.take (mulX (List.take (wrdX q).length (wrdX q)) ys).length (mulX (List.take (wrdX q).length (wrdX q)) ys))).length,off+m≤zs.length,(mulX (List.take (wrdX q).length (wrdX q)) ys).length≤(mulX (List.take (wrdX q).length (wrdX q)) ys).length,off+m≤zs.length,Dg 18446744073709551616 zs,Dg 18446744073709551616 (List.take (mulX (List.take (wrdX q).length (wrdX q)) ys).length (mulX (List.take (wrdX q).length (wrdX q)) ys)),val 18446744073709551616 (List.take (mulX (List.take (wrdX q).length (wrdX q)) ys).length (mulX (List.take (wrdX q).length (wrdX q)) ys))≤val 18446744073709551616 (part zs off m),m < 1099511627776,(List.take (mulX (List.take (wrdX q).length (wrdX q)) ys).length (mulX (List.take (wrdX q).length (wrdX q)) ys)).length≤m,decide (Int.ofNat 0≤cmpI (part zs off (trimW (List.take m (List.drop off zs))).length) (List.take (mulX (List.take (wrdX q).length (wrdX q)) ys).length (mulX (List.take (wrdX q).length (wrdX q)) ys)))=true,off+(trimW (List.take m (List.drop off zs))).length≤zs.length,(mulX (List.take (wrdX q).length (wrdX q)) ys).length≤(mulX (List.take (wrdX q).length (wrdX q)) ys).length,off+(trimW (List.take m (List.drop off zs))).length≤zs.length,Dg 18446744073709551616 zs,Dg 18446744073709551616 (List.take (mulX (List.take (wrdX q).length (wrdX q)) ys).length (mulX (List.take (wrdX q).length (wrdX q)) ys)),(trimW (List.take m (List.drop off zs))).length < 1099511627776,(List.take (mulX (List.take (wrdX q).length (wrdX q)) ys).length (mulX (List.take (wrdX q).length (wrdX q)) ys)).length < 1099511627776,off=off∧off+m≤zs.length∧zs.length < 1099511627776,(wrdX q).length≤(wrdX q).length,n=ys.length,Cn (List.take (wrdX q).length (wrdX q)),Cn ys,(List.take (wrdX q).length (wrdX q)).length < 274877906944,ys.length < 274877906944,Int.ofNat 0≤q∧q.toNat < 18446744073709551616]):Step XW5 cDig (TDig zs ys off m n q) .ret (TDir (digRow zs ys off m q) ys q):=
 step_of (Base.cx_ok bW5_ok 10).1 progOk.mixed [] 200 [true] [] (by kernel_rfl) hl (by kernel_rfl) (by kernel_rfl)
theorem dig_next (zs ys:List Int) (off m n:Nat) (q:Int) (hl:allP [decide (Int.ofNat 0≤cmpI (part zs off (trimW (List.take m (List.drop off zs))).length) (List.take (mulX (List.take (wrdX q).length (wrdX q)) ys).length (mulX (List.take (wrdX q).length (wrdX q)) ys)))=false,off+(trimW (List.take m (List.drop off zs))).length≤zs.length,(mulX (List.take (wrdX q).length (wrdX q)) ys).length≤(mulX (List.take (wrdX q).length (wrdX q)) ys).length,off+(trimW (List.take m (List.drop off zs))).length≤zs.length,Dg 18446744073709551616 zs,Dg 18446744073709551616 (List.take (mulX (List.take (wrdX q).length (wrdX q)) ys).length (mulX (List.take (wrdX q).length (wrdX q)) ys)),(trimW (List.take m (List.drop off zs))).length < 1099511627776,(List.take (mulX (List.take (wrdX q).length (wrdX q)) ys).length (mulX (List.take (wrdX q).length (wrdX q)) ys)).length < 1099511627776,off=off∧off+m≤zs.length∧zs.length < 1099511627776,(wrdX q).length≤(wrdX q).length,n=ys.length,Cn (List.take (wrdX q).length (wrdX q)),Cn ys,(List.take (wrdX q).length (wrdX q)).length < 274877906944,ys.length < 274877906944,Int.ofNat 0≤q∧q.toNat < 18446744073709551616]):Step XW5 cDig (TDig zs ys off m n q) .normal (TDig zs ys off m n (IntKind.u64.wrap (q-1))):=
 step_of (Base.cx_ok bW5_ok 10).1 progOk.mixed [] 200 [false] [] (by kernel_rfl) hl (by kernel_rfl) (by kernel_rfl)
theorem dig_ev1 (zs ys zs':List Int) (off m n:Nat) (r:Int):evFn XW5 [told .ret (fun _=>TDir zs' ys r)] 200 198 (digA off m n) (digH zs ys) 15 [true] =some { v:=Value.int IntKind.u64 r,h:=[(11,AObj.row u64T 1 (Row.ints IntKind.u64 zs') 12),(13,AObj.ints IntKind.u64 ys)],n:=15,obs:=[LoopTo XW5 cDig (startAt XW5 200 198 (digA off m n) (digH zs ys) 15 [true]) .ret (TDir zs' ys r),(Int.ofNat 0≤zs.getD (addO off n) (Int.ofNat 0)∧zs.getD (addO off n) (Int.ofNat 0) < ys.getD (addO 0 (IntKind.i64.wrap (Int.ofNat n-Int.ofNat 1)).toNat) (Int.ofNat 0))∧(Int.ofNat 0≤zs.getD (addO off (IntKind.i64.wrap (Int.ofNat n-Int.ofNat 1)).toNat) (Int.ofNat 0)∧zs.getD (addO off (IntKind.i64.wrap (Int.ofNat n-Int.ofNat 1)).toNat) (Int.ofNat 0) < Int.ofNat 18446744073709551616)∧ys.getD (addO 0 (IntKind.i64.wrap (Int.ofNat n-Int.ofNat 1)).toNat) (Int.ofNat 0) < Int.ofNat 18446744073709551616,addO 0 (IntKind.i64.wrap (Int.ofNat n-Int.ofNat 1)).toNat < ys.length,(Int.ofNat 0≤IntKind.i64.wrap (Int.ofNat n-Int.ofNat 1)∧IntKind.i64.wrap (Int.ofNat n-Int.ofNat 1) < Int.ofNat n)∧0 < ys.length,addO off (IntKind.i64.wrap (Int.ofNat n-Int.ofNat 1)).toNat < zs.length,(Int.ofNat 0≤IntKind.i64.wrap (Int.ofNat n-Int.ofNat 1)∧IntKind.i64.wrap (Int.ofNat n-Int.ofNat 1) < Int.ofNat m)∧0 < zs.length,addO off n < zs.length,(Int.ofNat 0≤Int.ofNat n∧Int.ofNat n < Int.ofNat m)∧0 < zs.length,decide (zs.getD (addO off n) (Int.ofNat 0) < ys.getD (addO 0 (IntKind.i64.wrap (Int.ofNat n-Int.ofNat 1)).toNat) (Int.ofNat 0))=true,addO 0 (IntKind.i64.wrap (Int.ofNat n-Int.ofNat 1)).toNat < ys.length,(Int.ofNat 0≤IntKind.i64.wrap (Int.ofNat n-Int.ofNat 1)∧IntKind.i64.wrap (Int.ofNat n-Int.ofNat 1) < Int.ofNat n)∧0 < ys.length,addO off n < zs.length,(Int.ofNat 0≤Int.ofNat n∧Int.ofNat n < Int.ofNat m)∧0 < zs.length],ds:=[]} :=by kernel_rfl
theorem dig_ev2 (zs ys zs':List Int) (off m n:Nat) (r:Int):evFn XW5 [told .ret (fun _=>TDir zs' ys r)] 200 198 (digA off m n) (digH zs ys) 15 [false] =some { v:=Value.int IntKind.u64 r,h:=[(11,AObj.row u64T 1 (Row.ints IntKind.u64 zs') 12),(13,AObj.ints IntKind.u64 ys)],n:=15,obs:=[LoopTo XW5 cDig (startAt XW5 200 198 (digA off m n) (digH zs ys) 15 [false]) .ret (TDir zs' ys r),decide (zs.getD (addO off n) (Int.ofNat 0) < ys.getD (addO 0 (IntKind.i64.wrap (Int.ofNat n-Int.ofNat 1)).toNat) (Int.ofNat 0))=false,addO 0 (IntKind.i64.wrap (Int.ofNat n-Int.ofNat 1)).toNat < ys.length,(Int.ofNat 0≤IntKind.i64.wrap (Int.ofNat n-Int.ofNat 1)∧IntKind.i64.wrap (Int.ofNat n-Int.ofNat 1) < Int.ofNat n)∧0 < ys.length,addO off n < zs.length,(Int.ofNat 0≤Int.ofNat n∧Int.ofNat n < Int.ofNat m)∧0 < zs.length],ds:=[]} :=by kernel_rfl
theorem Cn.dg {xs:List Int} (h:Cn xs):Dg W64 xs:=by
 unfold Cn at h
 rw [h]
 exact wsDg _
theorem digP_eq (ys:List Int) (k:Nat):digP ys (k:Int)=ws W64 (k*val W64 ys):=by
 unfold digP wrdX mulX
 rw [List.take_length,List.take_length,Int.toNat_natCast,wsVal]
theorem part_trim {zs:List Int} (hz:Dg W64 zs) (off m:Nat):part zs off (trimW (List.take m (List.drop off zs))).length=ws W64 (val W64 (part zs off m)):=by
 have h:=trimW_ws W64_two (part_dg hz off m)
 have h1:=(trim_obl h).2.2
 have h2:(trimW (part zs off m)).length≤m:=Nat.le_trans (trimW_length_le _) (by unfold part; rw [List.length_take]; exact Nat.min_le_left _ _)
 unfold part at h1 h2 ⊢
 rw [List.take_take,Nat.min_eq_left h2] at h1
 exact h1
section
variable {zs ys:List Int} {off n:Nat} (ho:off+(n+1)≤zs.length) (hzl:zs.length < 1099511627776) (hz:Dg W64 zs) (hy:Cn ys) (hn:n=ys.length) (hnl:ys.length < 274877906944) (hD:0 < val W64 ys)
 (hN:val W64 (part zs off (n+1)) < val W64 ys*W64)
include ho hzl hz hy hn hnl hD hN
theorem dig_loop {k:Nat} (hk:val W64 (part zs off (n+1))/val W64 ys≤k) (hkW:k < W64):
  LoopTo XW5 cDig (TDig zs ys off (n+1) n k) .ret (TDir (digRow zs ys off (n+1) ((val W64 (part zs off (n+1))/val W64 ys:Nat):Int)) ys ((val W64 (part zs off (n+1))/val W64 ys:Nat):Int)):=by
 have _:=hN
 have hDn:=val_lt W64_pos hy.dg
 rw [← hn] at hDn
 generalize hNe:val W64 (part zs off (n+1))=N at*
 refine loop_of (fun k:Nat=>TDig zs ys off (n+1) n k) id (fun k=>N/val W64 ys≤k∧k < W64) (by intro e; cases e) (fun k hk=> ?_) k ⟨hk,hkW⟩
 obtain⟨h1,h2⟩:=hk
 have hP:k*val W64 ys < W64 ^(n+1):=by
  rw [Nat.pow_succ,Nat.mul_comm]
  exact Nat.mul_lt_mul'' hDn h2
 have eP:=digP_eq ys k
 have hPl:(digP ys k).length≤n+1:=by rw [eP]; exact wl_le.2 hP
 have hPl2:(digP ys k).length < 1099511627776:=by omega
 have hPd:Dg W64 (digP ys k):=by rw [eP]; exact wsDg _
 have hPv:val W64 (digP ys k)=k*val W64 ys:=by rw [eP,wsVal]
 have ht:=part_trim hz off (n+1)
 rw [hNe] at ht
 have htl:(trimW (List.take (n+1) (List.drop off zs))).length≤n+1:=Nat.le_trans (trimW_length_le _) (by rw [List.length_take]; exact Nat.min_le_left _ _)
 have hc:∀ b,decide (k*val W64 ys≤N)=b→decide (Int.ofNat 0≤cmpI (part zs off (trimW (List.take (n+1) (List.drop off zs))).length) (digP ys k))=b:=by
  intro b hb
  rw [ht,eP,← hb]
  exact decide_eq_decide.2 (cmpI_pos N (k*val W64 ys))
 have hcq:Cn (List.take (wrdX (k:Int)).length (wrdX (k:Int))):=by
  rw [List.take_length]
  exact Cn.ws _
 have hql:(List.take (wrdX (k:Int)).length (wrdX (k:Int))).length < 274877906944:=by
  rw [List.take_length]
  have:wl k≤1:=wl_le.2 (by rw [Nat.pow_one]; exact h2)
  show wl ((k:Int).toNat) < _
  rw [Int.toNat_natCast]
  omega
 have hk0:Int.ofNat 0≤(k:Int)∧((k:Int)).toNat < 18446744073709551616:=⟨by simp,by rw [Int.toNat_natCast]; exact h2⟩
 by_cases hle:k*val W64 ys≤N
 ·right
  have hke:k=N/val W64 ys:=Nat.le_antisymm ((Nat.le_div_iff_mul_le hD).2 hle) h1
  rw [← hke]
  have hlen:(difW (part zs off (n+1)) (digP ys k)).length=n+1:=by
   unfold difW
   rw [dl_length,part_len ho]
  refine dig_take zs ys off (n+1) n k ⟨?_,ho,Nat.le_refl _,ho,hz,hPd,?_,by omega,hPl,hc _ (decide_eq_true hle),by omega,Nat.le_refl _,by omega,hz,hPd,by omega,hPl2,⟨rfl,ho,hzl⟩,Nat.le_refl _,hn,hcq,hy,hql,hnl,hk0,trivial⟩
  ·show 0 < (difW (part zs off (n+1)) (digP ys k)).length∧(difW (part zs off (n+1)) (digP ys k)).length≤n+1∧off+(difW (part zs off (n+1)) (digP ys k)).length≤zs.length∧0+(difW (part zs off (n+1)) (digP ys k)).length≤(difW (part zs off (n+1)) (digP ys k)).length
   rw [hlen]
   omega
  ·show val W64 (digP ys k)≤val W64 (part zs off (n+1))
   rw [hPv,hNe]
   exact hle
 ·left
  have hk1:N/val W64 ys < k:=by
   rcases Nat.lt_or_ge (N/val W64 ys) k with h | h
   ·exact h
   ·exact absurd ((Nat.le_div_iff_mul_le hD).1 h) hle
  have hk2:0 < k:=Nat.lt_of_le_of_lt (Nat.zero_le _) hk1
  refine⟨k-1,⟨Nat.le_sub_one_of_lt hk1,Nat.lt_of_le_of_lt (Nat.sub_le _ _) h2⟩,Nat.sub_lt hk2 Nat.one_pos,?_⟩
  have hw:IntKind.u64.wrap ((k:Int)-1)=((k-1:Nat):Int):=by
   have h2':k < 18446744073709551616:=h2
   rw [IntKind.wrap_u64]
   clear h1 hk1
   omega
  have:=dig_next zs ys off (n+1) n k ⟨hc _ (decide_eq_false hle),by omega,Nat.le_refl _,by omega,hz,hPd,by omega,hPl2,⟨rfl,ho,hzl⟩,Nat.le_refl _,hn,hcq,hy,hql,hnl,hk0,trivial⟩
  rw [hw] at this
  exact this
theorem digRow_eq:digRow zs ys off (n+1) ((val W64 (part zs off (n+1))/val W64 ys:Nat):Int)=zs.take off++dl W64 (n+1) (val W64 (part zs off (n+1))%val W64 ys)++zs.drop (off+(n+1)):=by
 have _:=hzl
 have _:=hz
 have _:=hy
 have _:=hn
 have _:=hnl
 have _:=hD
 have _:=hN
 have hd:digD zs ys off (n+1) ((val W64 (part zs off (n+1))/val W64 ys:Nat):Int)=dl W64 (n+1) (val W64 (part zs off (n+1))%val W64 ys):=by
  unfold digD difW
  rw [digP_eq,wsVal,part_len ho]
  congr 1
  rw [Nat.mul_comm]
  have:=Nat.div_add_mod (val W64 (part zs off (n+1))) (val W64 ys)
  omega
 unfold digRow
 rw [hd,dl_length,List.drop_zero]
 congr 2
 exact List.take_of_length_le (by rw [dl_length]; exact Nat.le_refl _)
end
end Go.Proofs.YtdgfhijnconaoaaGreatDoor
namespace Go.Proofs.YtdgfhijnconaoaaGreatDoor
open Go Go.RowKit Ev Wd
def digV (zs ys:List Int) (off m:Nat):Int:=((val W64 (part zs off m)/val W64 ys:Nat):Int)
def digL (zs ys:List Int) (off m:Nat):List Int:=zs.take off++dl W64 m (val W64 (part zs off m)%val W64 ys)++zs.drop (off+m)
theorem digL_len {zs:List Int} (ys:List Int) {off m:Nat} (h:off+m≤zs.length):(digL zs ys off m).length=zs.length:=by
 unfold digL
 simp only [List.length_append,List.length_take,List.length_drop,dl_length]
 omega
theorem dig_try {N D L H l y B W:Nat} (_:0 < B) (hN:N=L+B*(l+W*H)) (hL:L < B) (hD:B*y≤D) (hy:0 < y) (_:0 < D):N/D≤(H*W+l)/y:=by
 rw [Nat.le_div_iff_mul_le hy]
 have h1:N/D*D≤N:=Nat.div_mul_le_self N D
 have h2:N/D*(B*y)≤N/D*D:=Nat.mul_le_mul_left _ hD
 have h3:B*(N/D*y)≤N:=by
  have:B*(N/D*y)=N/D*(B*y):=by rw [← Nat.mul_assoc,Nat.mul_comm B,Nat.mul_assoc]
  omega
 have h4:B*(N/D*y) < B*(l+W*H+1):=by
  rw [Nat.mul_add B (l+W*H) 1]
  omega
 have h5:=Nat.lt_of_mul_lt_mul_left h4
 rw [Nat.mul_comm H W]
 omega
section
variable {zs ys:List Int} {off n:Nat} (ho:off+(n+1)≤zs.length) (hzl:zs.length < 1099511627776) (hz:Dg W64 zs) (hy:Cn ys) (hn:n=ys.length) (hnl:ys.length < 274877906944) (hD:0 < val W64 ys)
 (hN:val W64 (part zs off (n+1)) < val W64 ys*W64)
include ho hzl hz hy hn hnl hD hN
theorem dig_pos:0 < n:=by
 have _:=ho
 have _:=hzl
 have _:=hz
 rcases Nat.eq_zero_or_pos n with h | h
 ·have:ys=[] :=List.eq_nil_of_length_eq_zero (by omega)
  subst this
  simp [val] at hD
 ·exact h
theorem dig_lim:val W64 (part zs off (n+1))/val W64 ys < W64:=by
 have _:=ho
 have _:=hzl
 have _:=hz
 have _:=hy
 have _:=hn
 have _:=hnl
 exact (Nat.div_lt_iff_lt_mul hD).2 (by rw [Nat.mul_comm]; exact hN)
theorem dig_top (hlt:zs.getD (off+n) 0 < ys.getD (n-1) 0):∃ q:Nat,divQ (zs.getD (off+n) 0) (zs.getD (off+(n-1)) 0) (ys.getD (n-1) 0)=(q:Int)∧val W64 (part zs off (n+1))/val W64 ys≤q∧q < W64:=by
 have hp:=dig_pos ho hzl hz hy hn hnl hD hN
 have g1:=hz.get W64_pos (off+n)
 have g2:=hz.get W64_pos (off+(n-1))
 have g3:=hy.dg.get W64_pos (n-1)
 refine⟨_,rfl,?_,?_⟩
 ·have hl:=part_len ho
  have e1:=val_take_drop W64 (part zs off (n+1)) (n-1) (by omega)
  rw [drop_getD (l:=part zs off (n+1)) (m:=n-1) (by omega),Nat.sub_add_cancel hp,drop_getD (l:=part zs off (n+1)) (m:=n) (by omega),List.drop_of_length_le (l:=part zs off (n+1)) (i:=n+1) (by omega),part_getD (by omega),part_getD (by omega)] at e1
  simp only [val,Nat.mul_zero,Nat.add_zero] at e1
  have e2:=val_take_drop W64 ys (n-1) (by omega)
  rw [drop_getD (l:=ys) (m:=n-1) (by omega),Nat.sub_add_cancel hp,List.drop_of_length_le (l:=ys) (i:=n) (by omega)] at e2
  simp only [val,Nat.mul_zero,Nat.add_zero] at e2
  have e3:=val_lt W64_pos ((part_dg hz off (n+1)).take (n-1))
  rw [List.length_take,Nat.min_eq_left (by omega)] at e3
  exact dig_try (Nat.pow_pos W64_pos) e1 e3 (by rw [e2]; exact Nat.le_add_left _ _) (by omega) hD
 ·have q1:(zs.getD (off+n) 0).toNat+1≤(ys.getD (n-1) 0).toNat:=by omega
  have q2:(zs.getD (off+(n-1)) 0).toNat < 18446744073709551616:=by
   have:((W64:Nat):Int)=18446744073709551616:=rfl
   omega
  rw [Nat.div_lt_iff_lt_mul (by omega)]
  have q3:=Nat.mul_le_mul_right 18446744073709551616 q1
  show _ < 18446744073709551616*_
  rw [Nat.mul_comm 18446744073709551616]
  omega
theorem dig_run:∃ (b:Bool) (r:CR),evFn XW5 [told .ret (fun _=>TDir (digL zs ys off (n+1)) ys (digV zs ys off (n+1)))] 200 198 (digA off (n+1) n) (digH zs ys) 15 [b] =some r∧allP r.obs∧r.v= .int .u64 (digV zs ys off (n+1))∧r.h=digH (digL zs ys off (n+1)) ys∧r.n=15:=by
 have hp:=dig_pos ho hzl hz hy hn hnl hD hN
 have hw:IntKind.i64.wrap (Int.ofNat n-Int.ofNat 1)=((n-1:Nat):Int):=by
  have h1:=wrap_nat (n:=n-1) (by omega)
  rw [← h1]
  congr 1
  simp only [Int.ofNat_eq_natCast]
  omega
 have ea:addO off n=off+n:=addO_eq _ _
 have eb:addO off (IntKind.i64.wrap (Int.ofNat n-Int.ofNat 1)).toNat=off+(n-1):=by rw [hw,addO_eq,Int.toNat_natCast]
 have ec:addO 0 (IntKind.i64.wrap (Int.ofNat n-Int.ofNat 1)).toNat=n-1:=by rw [hw,addO_eq,Int.toNat_natCast,Nat.zero_add]
 have g1:=hz.get W64_pos (off+n)
 have g2:=hz.get W64_pos (off+(n-1))
 have g3:=hy.dg.get W64_pos (n-1)
 have o1:addO off n < zs.length:=by rw [ea]; omega
 have o2:(Int.ofNat 0≤Int.ofNat n∧Int.ofNat n < Int.ofNat (n+1))∧0 < zs.length:=⟨⟨Int.ofNat_le.2 (Nat.zero_le _),Int.ofNat_lt.2 (by omega)⟩,by omega⟩
 have o3:addO 0 (IntKind.i64.wrap (Int.ofNat n-Int.ofNat 1)).toNat < ys.length:=by rw [ec]; omega
 have o4:(Int.ofNat 0≤IntKind.i64.wrap (Int.ofNat n-Int.ofNat 1)∧IntKind.i64.wrap (Int.ofNat n-Int.ofNat 1) < Int.ofNat n)∧0 < ys.length:=by rw [hw]; exact⟨⟨Int.ofNat_le.2 (Nat.zero_le _),Int.ofNat_lt.2 (by omega)⟩,by omega⟩
 have o5:addO off (IntKind.i64.wrap (Int.ofNat n-Int.ofNat 1)).toNat < zs.length:=by rw [eb]; omega
 have o6:(Int.ofNat 0≤IntKind.i64.wrap (Int.ofNat n-Int.ofNat 1)∧IntKind.i64.wrap (Int.ofNat n-Int.ofNat 1) < Int.ofNat (n+1))∧0 < zs.length:=by rw [hw]; exact⟨⟨Int.ofNat_le.2 (Nat.zero_le _),Int.ofNat_lt.2 (by omega)⟩,by omega⟩
 have into1:∀ x s',LoopTo XW5 cDig (TDig zs ys off (n+1) n (divQ (zs.getD (addO off n) 0) (zs.getD (addO off (IntKind.i64.wrap (Int.ofNat n-Int.ofNat 1)).toNat) 0) (ys.getD (addO 0 (IntKind.i64.wrap (Int.ofNat n-Int.ofNat 1)).toNat) 0))) x s'→LoopTo XW5 cDig (startAt XW5 200 198 (digA off (n+1) n) (digH zs ys) 15 [true]) x s':=
  fun x s' h=>loop_into' h [] (by kernel_rfl) (by kernel_rfl) (by kernel_rfl)
 have into2:∀ x s',LoopTo XW5 cDig (TDig zs ys off (n+1) n 18446744073709551615) x s'→LoopTo XW5 cDig (startAt XW5 200 198 (digA off (n+1) n) (digH zs ys) 15 [false]) x s':=
  fun x s' h=>loop_into' h [] (by kernel_rfl) (by kernel_rfl) (by kernel_rfl)
 have eL:=digRow_eq ho hzl hz hy hn hnl hD hN
 by_cases hlt:zs.getD (off+n) 0 < ys.getD (n-1) 0
 ·obtain⟨q,e1,e2,e3⟩:=dig_top ho hzl hz hy hn hnl hD hN hlt
  refine⟨true,_,dig_ev1 zs ys (digL zs ys off (n+1)) off (n+1) n (digV zs ys off (n+1)),⟨into1 _ _ ?_,?_,o3,o4,o5,o6,o1,o2,?_,o3,o4,o1,o2,trivial⟩,rfl,rfl,rfl⟩
  ·rw [ea,eb,ec,e1]
   have:=dig_loop ho hzl hz hy hn hnl hD hN e2 e3
   rw [eL] at this
   exact this
  ·rw [ea,eb,ec]
   exact⟨⟨g1.1,hlt⟩,⟨g2.1,g2.2⟩,g3.2⟩
  ·rw [ea,ec]
   exact decide_eq_true hlt
 ·refine⟨false,_,dig_ev2 zs ys (digL zs ys off (n+1)) off (n+1) n (digV zs ys off (n+1)),⟨into2 _ _ ?_,?_,o3,o4,o1,o2,trivial⟩,rfl,rfl,rfl⟩
  ·have hlim:=dig_lim ho hzl hz hy hn hnl hD hN
   have:=dig_loop ho hzl hz hy hn hnl hD hN (k:=18446744073709551615) (Nat.le_of_lt_succ hlim) (by decide)
   rw [eL] at this
   exact this
  ·rw [ea,ec]
   exact decide_eq_false hlt
end
end Go.Proofs.YtdgfhijnconaoaaGreatDoor
namespace Go.Proofs.YtdgfhijnconaoaaGreatDoor
open Go Go.RowKit Ev Wd
theorem Sim.turn' {P:Program} {B:Nat} {M:Nat→Prop} {ρ:Num} {H:Heap} {w w':World} (h:Sim P B M ρ H w) {n b:Nat} {o0 o:AObj} (h0:H.get n=some o0) (hr:o0.rw=true) (hn:ρ n=some b)
  (ho:ORep B M ρ w' (some b) o) (hk:∀ k,k < w.heap.size→k≠b→w'.heap[k]? =w.heap[k]?):Sim P B M ρ (H.set n o) w':=by
 refine⟨h.glob,fun i o' hi=> ?_,fun i j oi oj hi hri hj hij hne=> ?_⟩
 ·rw [Heap.get_set H n o o0 h0] at hi
  split at hi
  ·rename_i e; subst e; cases hi; rw [hn]; exact ho
  ·rename_i hne
   have hold:=h.obj i o' hi
   have hd:∀ b',ρ i=some b'→w'.heap[b']? =w.heap[b']? :=fun b' hb'=>by
    refine hk b' ?_ fun e=> ?_
    ·rw [hb'] at hold
     exact hold.lt
    ·subst e
     exact h.inj n i o0 o' h0 hr hi hne (by rw [hn]; simp) (hn.trans hb'.symm)
   cases o' with
   | row e sz r k=>
    rcases hold with hold | ⟨b',cap,cur,h1,h2,h3,h4⟩
    ·exact .inl hold
    ·exact .inr ⟨b',cap,cur,h1,h2,h3.to (hd b' h1),h4⟩
   | cells cs t=>obtain⟨b',h1,h2,h3⟩:=hold; exact⟨b',h1,(hd b' h1).trans h2,h3⟩
   | iter s pos=>obtain⟨b',h1,h2,h3⟩:=hold; exact⟨b',h1,(hd b' h1).trans h2,h3⟩
   | ints k xs=>
    rcases hold with hold | ⟨b',cs,t,fr,h1,h2,h3⟩
    ·exact .inl hold
    ·exact .inr ⟨b',cs,t,fr,h1,(hd b' h1).trans h2,h3⟩
   | loop st pn ts ps asg bd=>obtain⟨b',r,h1,h2,h3⟩:=hold; exact⟨b',r,h1,(hd b' h1).trans h2,h3⟩
   | defr=>obtain⟨b',h1,h2,h3⟩:=hold; exact⟨b',h1,(hd b' h1).trans h2,h3⟩
   | dead=>obtain⟨b',q,h1,h2,h3⟩:=hold; exact⟨b',q,h1,(hd b' h1).trans h2,h3⟩
   | ro xs=>
    rcases hold with hold | ⟨b',cs,t,fr,h1,h2,h3⟩
    ·exact .inl hold
    ·exact .inr ⟨b',cs,t,fr,h1,(hd b' h1).trans h2,h3⟩
   | map es=>obtain⟨b',mes,ck,h1,h2,h3⟩:=hold; exact⟨b',mes,ck,h1,(hd b' h1).trans h2,h3⟩
   | fam f n sz o=>
    rcases hold with hold | ⟨b',cs,t,fr,h1,h2,h3⟩
    ·exact .inl hold
    ·exact .inr ⟨b',cs,t,fr,h1,(hd b' h1).trans h2,h3⟩
 ·rw [Heap.get_set H n o o0 h0] at hi hj
  split at hi <;> split at hj
  ·rename_i e1 e2; exact absurd (e1.symm.trans e2) hij
  ·rename_i e1 e2; subst e1; exact h.inj n j o0 oj h0 hr hj hij hne
  ·rename_i e1 e2; subst e2; exact h.inj i n oi o0 hi hri h0 hij hne
  ·exact h.inj i j oi oj hi hri hj hij hne
theorem dig_enters:Enters Tryz.prog 198:=evFn_enters (Base.cx_ok bW5_ok 10).2 (dig_ev1 [] [] [] 0 0 0 0)
theorem dig_calls {zs ys:List Int} {off n b g cap c2:Nat} {cur gs:Array Value} {t:TypeId} {fr:Nat×Nat} {w:World} (hI:J0.I w)
  (ho:off+(n+1)≤zs.length) (hzl:zs.length < 1099511627776) (hz:Dg W64 zs) (hy:Cn ys) (hn:n=ys.length) (hnl:ys.length < 274877906944) (hD:0 < val W64 ys)
  (hN:val W64 (part zs off (n+1)) < val W64 ys*W64)
  (hb:RowAt w b cur u64T) (hcap:cap≤maxLen) (hcs:cur.size=cap) (hln:zs.length≤cap) (htk:cur.toList.take zs.length=zs.map (Value.int .u64))
  (hg:w.heap[g]? =some (.cells gs t fr)) (hgs:∀ i,i < ys.length→gs[i]? =some (.int .u64 (ys.getD i 0))) (hne:b≠g) (hbg:Tryz.prog.globals.size≤b):
  Calls Tryz.prog 198 ⟨[.slice (some ⟨b,off,none⟩) (n+1) (cap-off), .slice (some ⟨g,0,none⟩) n (c2-0)]⟩ w fun e w'=>
   e= .returned (.int .u64 (digV zs ys off (n+1)))∧Keeps w.heap.size (fun k=>k=b) w w'∧∃ cur',RowAt w' b cur' u64T∧cur'.size=cap∧cur'.toList.take zs.length=(digL zs ys off (n+1)).map (Value.int .u64):=by
 have hp:Par Tryz.prog w.heap.size (fun k=>k=b):=⟨hI.1,fun k hk e=>by omega⟩
 have hG:Tryz.prog.globals.size=11:=by kernel_rfl
 obtain⟨hX,_⟩:=Base.cx_ok bW5_ok 10
 have hS:∀ ρ':Num,Agree 15 (fun i=>if i=11 then some b else if i=12 then some cap else if i=13 then some g else if i=14 then some c2 else some i) ρ'→Sim Tryz.prog w.heap.size (fun k=>k=b) ρ' (digH zs ys) w∧([.slice (some ⟨b,off,none⟩) (n+1) (cap-off), .slice (some ⟨g,0,none⟩) n (c2-0)] :List Value)=rvL ρ' (digA off (n+1) n):=by
  intro ρ' ha
  have h11:ρ' 11=some b:=by rw [ha 11 (by omega)]; simp
  have h12:ρ' 12=some cap:=by rw [ha 12 (by omega)]; simp
  have h13:ρ' 13=some g:=by rw [ha 13 (by omega)]; simp
  have h14:ρ' 14=some c2:=by rw [ha 14 (by omega)]; simp
  refine⟨⟨fun k hk=>by
   rw [ha k (by omega)]
   show (if k=11 then some b else if k=12 then some cap else if k=13 then some g else if k=14 then some c2 else some k)=some k
   rw [if_neg (by omega),if_neg (by omega),if_neg (by omega),if_neg (by omega)],fun i o hi=> ?_,fun i j o o' hi hr hj hij hnn=> ?_⟩,?_⟩
  ·rw [Heap.get_cons] at hi
   split at hi
   ·rename_i e
    subst e
    cases hi
    rw [h11]
    refine .inr ⟨b,cap,cur,rfl,h12,hb, .inr rfl,hcap,by omega,?_,?_⟩
    ·simp only [Row.list,List.length_map,Nat.mul_one]; exact hln
    ·simp only [Row.list,List.length_map]; rw [ints_rv]; exact htk
   ·rw [Heap.get_cons] at hi
    split at hi
    ·rename_i e
     subst e
     cases hi
     rw [h13]
     exact .inr ⟨g,gs,t,fr,rfl,hg,hgs⟩
    ·simp [Heap.get] at hi
  ·rw [Heap.get_cons] at hi hj
   split at hi
   ·rename_i e
    subst e
    split at hj
    ·rename_i e; exact absurd e hij
    ·rw [Heap.get_cons] at hj
     split at hj
     ·rename_i e
      subst e
      rw [h11,h13]
      intro e
      exact hne (Option.some.inj e)
     ·simp [Heap.get] at hj
   ·rw [Heap.get_cons] at hi
    split at hi
    ·cases hi; cases hr
    ·simp [Heap.get] at hi
  ·simp only [rvL,rv,rSl,h11,h12,h13,h14,Option.getD_some]
 obtain⟨bit,r,hev,hobs,hv,hh,hrn⟩:=dig_run ho hzl hz hy hn hnl hD hN
 refine (evFn_sound hX progOk.mixed hev hobs hp (Nat.le_refl _) hI hS).2.mono fun e w' ⟨ρ1,v,ha,he,hk,hfin⟩=> ?_
 obtain⟨hv1,hS1⟩:=hfin ρ1 (Agree.refl _ _)
 have h11:ρ1 11=some b:=by rw [ha 11 (by omega)]; simp
 have h12:ρ1 12=some cap:=by rw [ha 12 (by omega)]; simp
 refine⟨by rw [he,hv1,hv]; rfl,hk,?_⟩
 rw [hh] at hS1
 rcases hS1.obj 11 _ rfl with ⟨q1,_⟩ | ⟨b',cap',cur',q1,q2,q3,_,_,q6,q7,q8⟩
 ·rw [h11] at q1; cases q1
 ·rw [h11] at q1
  rw [h12] at q2
  cases q1
  cases q2
  simp only [Row.list,List.length_map] at q8
  rw [ints_rv,digL_len ys ho] at q8
  exact⟨cur',q3,by omega,q8⟩
theorem slOf_get {H:Heap} {k:IntKind} {x:Value} {xs:List Int} {l:List Prop} {id:Nat} (h:slOf H k x=some (xs,l)) (hx:∃ kk n c,x= .slice (some ⟨id,0,some kk⟩) n c):∃ o,H.get id=some o:=by
 unfold slOf at h
 split at h
 ·obtain⟨_,_,_,e⟩:=hx; cases e
 ·obtain⟨_,_,_,e⟩:=hx
  cases e
  cases hq:H.get id with
  | none=>rw [hq] at h; cases h
  | some o=>exact⟨o,rfl⟩
 ·obtain⟨_,_,_,e⟩:=hx; cases e
 ·cases h
def OneD (zs ys:List Int) (off m:Nat):Prop:=val W64 (part zs off m) < val W64 ys*W64
def specDigit (args:List Value) (H:Heap) (n:Nat) (ds:List Bool):Option CR:=
 match args with
 | [.slice (some ⟨id,off,some kk⟩) m c, .slice (some ⟨id2,0,some kk2⟩) k c2] =>match H.get id with
  | some (.row e sz (.ints .u64 zs) kk')=>match Nat.beq kk kk' && Nat.beq sz 1 && Nat.beq e u64T && !Nat.beq id id2 with
   | true=>match slOf H .u64 (.slice (some ⟨id2,0,some kk2⟩) k c2) with
    | some (ys,l)=>some ⟨.int .u64 (digV zs ys off m),H.set id (.row u64T 1 (.ints .u64 (digL zs ys off m)) kk),n,
     [off=c∧m=ys.length+1,off+m≤zs.length∧zs.length < 1099511627776,Dg W64 zs,Cn ys,ys.length < 274877906944,0 < val W64 ys,OneD zs ys off m] ++l,ds⟩
    | none=>none
   | false=>none
  | _=>none
 | _=>none
theorem specDigit_ok:SpecOk Tryz.prog J0 198 specDigit:=by
 intro args H n ds r h hl
 unfold specDigit at h
 split at h
 case h_2=>cases h
 rename_i id off kk m c id2 kk2 k c2
 split at h
 case h_2=>cases h
 rename_i e sz zs kk' hget
 split at h
 case h_2=>cases h
 rename_i hc
 simp only [Bool.and_eq_true,Nat.beq_eq,Bool.not_eq_true'] at hc
 obtain⟨⟨⟨rfl,rfl⟩,rfl⟩,hid0⟩:=hc
 have hid:id≠id2:=fun e=>by subst e; rw [Nat.beq_refl] at hid0; cases hid0
 split at h
 case h_2=>cases h
 rename_i ys l hsl
 cases h
 obtain⟨hl1,hl2⟩:=(allP_append _ _).1 hl
 obtain⟨⟨rfl,rfl⟩,⟨ho,hzl⟩,hz,hy,hnl,hD,hN,_⟩:=hl1
 refine⟨Nat.le_refl _,dig_enters,fun B M ρ w vs hp hB hI hS=> ?_⟩
 have key:∀ ρ',Agree n ρ ρ'→∃ b g cap c2' cur gs t fr,ρ' id=some b∧ρ' kk=some cap∧RowAt w b cur u64T∧(B≤b∨M b)∧cap≤maxLen∧cur.size=cap∧zs.length≤cap∧cur.toList.take zs.length=zs.map (Value.int .u64)∧
   w.heap[g]? =some (.cells gs t fr)∧(∀ i,i < ys.length→gs[i]? =some (.int .u64 (ys.getD i 0)))∧b≠g∧vs=[.slice (some ⟨b,off,none⟩) (ys.length+1) (cap-off), .slice (some ⟨g,0,none⟩) ys.length (c2'-0)] :=by
  intro ρ' ha
  obtain⟨hS1,hvs⟩:=hS ρ' ha
  rcases hS1.obj id _ hget with ⟨_,g2⟩ | ⟨b,cap,cur,g1,g2,g3,g4,g5,g6,g7,g8⟩
  ·have hx:zs=[] :=by simpa [Row.list] using g2
   subst hx
   simp at ho
  ·simp only [Row.list,List.length_map,Nat.mul_one] at g6 g7 g8
   rw [ints_rv] at g8
   rcases slOf_sound (e:=u64T) hS1 hsl hl2 with ⟨_,q2⟩ | ⟨g,cap',cs,t,fr,q1,q2,q3⟩
   ·subst q2; simp [val] at hD
   ·have hg2:ρ' id2=some g∧k=ys.length:=by
     cases hq:ρ' id2 with
     | none=>simp [rv,rSl,hq] at q1
     | some g'=>simp [rv,rSl,hq] at q1; exact⟨by rw [q1.1],q1.2.1⟩
    have hob:∃ o2,H.get id2=some o2:=slOf_get hsl ⟨_,_,_,rfl⟩
    obtain⟨o2,ho2⟩:=hob
    have hbg:b≠g:=fun e=>by
     subst e
     exact hS1.inj id id2 _ o2 hget rfl ho2 hid (by rw [g1]; simp) (g1.trans hg2.1.symm)
    cases hq2:ρ' kk2 with
    | none=>
     refine⟨b,g,cap,0,cur,cs,t,fr,g1,g2,g3,g4,g5,g6,g7,g8,q2,q3,hbg,?_⟩
     rw [hvs]
     simp [rvL,rv,rSl,g1,g2,hg2.1,hg2.2,hq2]
    | some c2'=>
     refine⟨b,g,cap,c2'-c2,cur,cs,t,fr,g1,g2,g3,g4,g5,g6,g7,g8,q2,q3,hbg,?_⟩
     rw [hvs]
     simp [rvL,rv,rSl,g1,g2,hg2.1,hg2.2,hq2]
 obtain⟨b,g,cap,c2',cur,gs,t,fr,k1,k2,k3,k4,k5,k6,k7,k8,k9,k10,k11,k12⟩:=key ρ (Agree.refl _ _)
 have hbg:Tryz.prog.globals.size≤b:=by
  rcases k4 with h | h
  ·have:=hp.glo; omega
  ·rcases Nat.lt_or_ge b Tryz.prog.globals.size with h' | h'
   ·exact absurd h (hp.free b h')
   ·exact h'
 rw [k12]
 refine (dig_calls (c2:=c2') hI ho hzl hz hy rfl hnl hD hN k3 k5 k6 k7 k8 k9 k10 k11 hbg).mono fun e w' ⟨he,hkp,cur',r1,r2,r3⟩=> ?_
 refine⟨ρ,_,Agree.refl _ _,he,⟨hkp.os,hkp.tape,hkp.output,hkp.size,fun q hq hm=>hkp.block q (by omega) fun e=> ?_⟩,fun ρ' ha=>⟨rfl,?_⟩⟩
 ·subst e
  rcases k4 with h | h
  ·omega
  ·exact hm h
 ·obtain⟨b1,g1,cap1,c21,cur1,gs1,t1,fr1,j1,j2,j3,j4,j5,j6,j7,j8,j9,j10,j11,j12⟩:=key ρ' ha
  have eb:b1=b:=by
   rw [k12] at j12
   simp at j12
   exact j12.1.1.symm
  subst eb
  have ecur:cur1=cur:=by
   obtain⟨f1,a1,_⟩:=j3
   obtain⟨f2,a2,_⟩:=k3
   rw [a1] at a2
   cases a2
   rfl
  subst ecur
  have ecap:cap1=cap:=j6.symm.trans k6
  subst ecap
  refine Sim.turn' (hS ρ' ha).1 hget rfl j1 (.inr ⟨b1,cap1,cur',rfl,j2,r1,k4,k5,by omega,?_,?_⟩) fun q hq hne=>hkp.block q hq hne
  ·simp only [Row.list,List.length_map,Nat.mul_one]
   rw [digL_len ys ho]
   exact k7
  ·simp only [Row.list,List.length_map]
   rw [ints_rv,digL_len ys ho]
   exact r3
end Go.Proofs.YtdgfhijnconaoaaGreatDoor
namespace Go.Proofs.YtdgfhijnconaoaaGreatDoor
open Go Go.RowKit Ev Wd
noncomputable def mtabW6:MTab:=mtabAdd 141 specMade (mtabAdd 86 (liftS [shV] specWord) (mtabAdd 89 (liftS [shI,shI] specMul)
 (mtabAdd 197 (liftS [shW,shW] specCompare) (mtabAdd 202 (liftS [shW,shW] specMinus) (mtabAdd 201 (liftS [shW,shW] specPlus)
 (mtabAdd 151 (liftS [shI,shI] specAdd) (mtabAdd 143 (liftS [shI,shV] specShort) (mtabAdd 87 (liftS [shI,shV] specLeft)
 (mtabAdd 199 (liftS [shI,shV] specRight) (mtabAdd 168 (liftS [shI] specSign) (mtabAdd 130 (liftS [shI] specLow)
 (mtabAdd 198 specDigit mtab0))))))))))))
theorem mtabW6_ok:ClOk Tryz.prog J0 mtabW6:=mtabAdd_ok specMade_ok (mtabAdd_ok (liftS_ok _ specWord_ok) (mtabAdd_ok (liftS_ok _ specMul_ok)
 (mtabAdd_ok (liftS_ok _ specCompare_ok) (mtabAdd_ok (liftS_ok _ specMinus_ok) (mtabAdd_ok (liftS_ok _ specPlus_ok)
 (mtabAdd_ok (liftS_ok _ specAdd_ok) (mtabAdd_ok (liftS_ok _ specShort_ok) (mtabAdd_ok (liftS_ok _ specLeft_ok)
 (mtabAdd_ok (liftS_ok _ specRight_ok) (mtabAdd_ok (liftS_ok _ specSign_ok) (mtabAdd_ok (liftS_ok _ specLow_ok)
 (mtabAdd_ok specDigit_ok (mtab0_ok _ _)))))))))))))
noncomputable def bW6:Base:=⟨Tryz.prog,J0,false,tabW4,mtabW6,200,xtN0⟩
theorem bW6_ok:BaseOk bW6:=⟨progOk,tabW4_ok,mtabW6_ok,xtN0_ok⟩
noncomputable abbrev XW6:Cx:=bW6.cx 10
def SemA (P:Program) (J:Inv P) (f:FuncId) (az:List Arg) (F:List Value→Value):Prop:=
 Enters P f∧∀ (w:World) (us:List Value),J.I w→All2 (CelIs w) (cellsA az) us→Calls P f ⟨packL az us⟩ w fun e w'=>e= .returned (F us)∧Below w.heap.size w w'
theorem semA_of {b:Base} (hb:BaseOk b) (k:Nat) (L:Hints) (ds:List Bool) {f:FuncId} {az:List Arg} {F:List Value→Value} {r:CR}
  (h:evFn (b.cx k) L b.fuel f (packL az (encA (b.cx k).P.globals.size (cellsA az)).1) (encA (b.cx k).P.globals.size (cellsA az)).2.1 (encA (b.cx k).P.globals.size (cellsA az)).2.2 ds=some r) (hl:allP r.obs)
  (hF:∀ ρ,rv ρ r.v=F (rvL ρ (encA (b.cx k).P.globals.size (cellsA az)).1)):SemA b.P b.J f az F:=by
 obtain⟨hX,hng⟩:=Base.cx_ok hb k
 suffices hs:SemA (b.cx k).P (b.cx k).J f az F by
  cases k <;> exact hs
 generalize b.cx k=X at*
 refine⟨evFn_enters hng h,fun w us hI hA=> ?_⟩
 obtain⟨ρ,ha,hρ⟩:=encA_ok w.heap.size (fun _=>False) w (cellsA az) us hA X.P.globals.size (fun i=>some i)
 have hp:Par X.P w.heap.size (fun _=>False):=⟨X.J.room w hI,fun _ _ h=>h⟩
 have hlen:(encA X.P.globals.size (cellsA az)).1.length=(cellsA az).length:=by
  have:=congrArg List.length (hρ ρ (Agree.refl _ _)).1
  rw [rvL_length] at this
  rw [← this,hA.length]
 have hS:∀ ρ',Agree (encA X.P.globals.size (cellsA az)).2.2 ρ ρ'→Sim X.P w.heap.size (fun _=>False) ρ' (encA X.P.globals.size (cellsA az)).2.1 w∧packL az us=rvL ρ' (packL az (encA X.P.globals.size (cellsA az)).1):=by
  intro ρ' ha'
  obtain⟨h1,h2⟩:=hρ ρ' ha'
  have hle:=encA_le (cellsA az) X.P.globals.size
  refine⟨⟨fun g hg=>by rw [ha' g (by omega),ha g hg],h2,fun i j o o' hi hr _ _=> ?_⟩,?_⟩
  ·rw [(encA_low _ _ _ _ hi).2.2] at hr
   cases hr
  ·rw [packL_rv ρ' az _ hlen,← h1]
 have:=evFn_sound hX hng.mixed h hl hp (Nat.le_refl _) hI hS
 refine this.2.mono fun e w' ⟨ρ1,v,ha1,he,hk,hfin⟩=> ?_
 obtain⟨hv,hsim⟩:=hfin ρ1 (fun _ _=>rfl)
 refine⟨?_,hk.below⟩
 rw [he,hv,hF,← (hρ ρ1 ha1).1]
def specBit (s1 s2:List Value→Heap→Nat→List Bool→Option CR) (args:List Value) (H:Heap) (n:Nat) (ds:List Bool):Option CR:=
 match ds with
 | true ::r=>s1 args H n r
 | false ::r=>s2 args H n r
 | [] =>none
theorem specBit_ok {P:Program} {J:Inv P} {f:FuncId} {s1 s2:List Value→Heap→Nat→List Bool→Option CR} (h1:SpecOk P J f s1) (h2:SpecOk P J f s2):SpecOk P J f (specBit s1 s2):=by
 intro args H n ds r h hl
 unfold specBit at h
 split at h
 ·exact h1 _ _ _ _ _ h hl
 ·exact h2 _ _ _ _ _ h hl
 ·cases h
end Go.Proofs.YtdgfhijnconaoaaGreatDoor
namespace Go.Proofs.YtdgfhijnconaoaaGreatDoor
open Go Go.RowKit Ev Wd
noncomputable def cQuo:Code:=loopAt Tryz.prog 148 0
def TQuo (Z Y L:List Int) (nz ny nl:Nat) (sh n i:Int):St:=⟨only 102 [(4, .pointer (some ⟨17,0,none⟩)),(5, .pointer (some ⟨18,0,none⟩)),(8, .int .i64 sh),(9,slV 19 ny),(10,slV 21 nz),(11, .int .i64 n),(12,slV 25 nl),(13, .int .i64 i)],[(25, .row u64T 1 (.ints .u64 L) 26),(21, .row u64T 1 (.ints .u64 Z) 22),(19, .row u64T 1 (.ints .u64 Y) 20),(18, .cells [.bool false, .slice none 0 0] intT),(17, .cells [.bool false, .slice none 0 0] intT)],27,[],[],0,none,[],15⟩
def quoM (i n:Int):Nat:=(IntKind.i64.wrap (IntKind.i64.wrap (i+n)+1)).toNat-i.toNat
abbrev quo2 (a b:Bool) (xs ys:List Int):List Arg:=[iL a xs,iL b ys]
theorem quo_next (Z Y L:List Int) (nz ny nl:Nat) (sh n i:Int) (hl:allP [addO 0 i.toNat < L.length,(Int.ofNat 0≤i∧i < Int.ofNat nl)∧0 < L.length,addO 0 i.toNat=addO 0 i.toNat∧(IntKind.i64.wrap (IntKind.i64.wrap (i+n)+Int.ofNat 1)).toNat-i.toNat=(List.take ny Y).length.succ,addO 0 i.toNat+((IntKind.i64.wrap (IntKind.i64.wrap (i+n)+Int.ofNat 1)).toNat-i.toNat)≤Z.length∧Z.length < 1099511627776,Dg 18446744073709551616 Z,Cn (List.take ny Y),(List.take ny Y).length < 274877906944,0 < val 18446744073709551616 (List.take ny Y),OneD Z (List.take ny Y) (addO 0 i.toNat) ((IntKind.i64.wrap (IntKind.i64.wrap (i+n)+Int.ofNat 1)).toNat-i.toNat),ny≤Y.length,0=0∧Int.ofNat 0≤i∧i≤IntKind.i64.wrap (IntKind.i64.wrap (i+n)+Int.ofNat 1)∧(i=Int.ofNat 0∨i < IntKind.i64.wrap (IntKind.i64.wrap (i+n)+Int.ofNat 1))∧0+(IntKind.i64.wrap (IntKind.i64.wrap (i+n)+Int.ofNat 1)).toNat*1≤Z.length,decide (Int.ofNat 0≤i)=true]):Step XW6 cQuo (TQuo Z Y L nz ny nl sh n i) .normal (TQuo (digL Z (Y.take ny) (addO 0 i.toNat) (quoM i n)) Y (setF L (addO 0 i.toNat) (digV Z (Y.take ny) (addO 0 i.toNat) (quoM i n))) nz ny nl sh n (IntKind.i64.wrap (i-1))):=
 step_of (Base.cx_ok bW6_ok 10).1 progOk.mixed [] 200 [true] [] (by kernel_rfl) hl (by kernel_rfl) (by kernel_rfl)
theorem quo_out (Z Y L:List Int) (nz ny nl:Nat) (sh n i:Int) (hl:allP [decide (Int.ofNat 0≤i)=false]):Step XW6 cQuo (TQuo Z Y L nz ny nl sh n i) (.exit 1) (TQuo Z Y L nz ny nl sh n i):=
 step_of (Base.cx_ok bW6_ok 10).1 progOk.mixed [] 200 [false] [] (by kernel_rfl) hl (by kernel_rfl) (by kernel_rfl)
theorem quo_way0 (a b:Bool) (xs ys:List Int):evFn XW6 [] 200 148 (packL (quo2 a b xs ys) (encA XW6.P.globals.size (cellsA (quo2 a b xs ys))).1) (encA XW6.P.globals.size (cellsA (quo2 a b xs ys))).2.1 (encA XW6.P.globals.size (cellsA (quo2 a b xs ys))).2.2 [true] =some { v:=Value.tuple { toList:=[Value.agg { toList:=[Value.bool false,Value.slice none 0 0]},Value.agg { toList:=[Value.bool a,Value.slice (some { block:=11,off:=0,spot:=some 12 }) xs.length 0]}]},h:=[(11,AObj.ints IntKind.u64 xs),(13,AObj.ints IntKind.u64 ys)],n:=21,obs:=[(match Int.ofNat ys.length==Int.ofNat 0 with | true=>true | false=>decide (cmpI xs ys < 0))=true,(Int.ofNat ys.length==Int.ofNat 0)=false,xs.length=xs.length,ys.length=ys.length,Dg 18446744073709551616 xs,Dg 18446744073709551616 ys,xs.length < 1099511627776,ys.length < 1099511627776],ds:=[]} :=by kernel_rfl
theorem quo_way1 (a b s1 s2:Bool) (xs ys Q R:List Int):semR XW6 [] 200 148 (quo2 a b xs ys) [iL s1 Q,iL s2 R] [false,true] =some [Int.ofNat 0≤remX xs (ys.getD (addO 0 0) (Int.ofNat 0))∧(remX xs (ys.getD (addO 0 0) (Int.ofNat 0))).toNat < 18446744073709551616,xs.length=xs.length,Cn xs,xs.length < 549755813888,Int.ofNat 0 < ys.getD (addO 0 0) (Int.ofNat 0)∧(ys.getD (addO 0 0) (Int.ofNat 0)).toNat < 18446744073709551616,addO 0 0 < ys.length,(Int.ofNat 0≤Int.ofNat 0∧Int.ofNat 0 < Int.ofNat ys.length)∧0 < ys.length,(Int.ofNat ys.length==Int.ofNat 1)=true,(match Int.ofNat ys.length==Int.ofNat 0 with | true=>true | false=>decide (cmpI xs ys < 0))=false,(Int.ofNat ys.length==Int.ofNat 0)=false,xs.length=xs.length,ys.length=ys.length,Dg 18446744073709551616 xs,Dg 18446744073709551616 ys,xs.length < 1099511627776,ys.length < 1099511627776,Value.bool false=Value.bool s1,(quoX xs (ys.getD (addO 0 0) (Int.ofNat 0))).length=Q.length∧(quoX xs (ys.getD (addO 0 0) (Int.ofNat 0))).length≤(quoX xs (ys.getD (addO 0 0) (Int.ofNat 0))).length∧List.take (quoX xs (ys.getD (addO 0 0) (Int.ofNat 0))).length (quoX xs (ys.getD (addO 0 0) (Int.ofNat 0)))=Q,Value.bool false=Value.bool s2,(wrdX (remX xs (ys.getD (addO 0 0) (Int.ofNat 0)))).length=R.length∧(wrdX (remX xs (ys.getD (addO 0 0) (Int.ofNat 0)))).length≤(wrdX (remX xs (ys.getD (addO 0 0) (Int.ofNat 0)))).length∧List.take (wrdX (remX xs (ys.getD (addO 0 0) (Int.ofNat 0)))).length (wrdX (remX xs (ys.getD (addO 0 0) (Int.ofNat 0))))=R] :=by kernel_rfl
theorem quo_way2 (a b s1 s2:Bool) (xs ys Q R Z Y L:List Int) (nz ny nl:Nat) (sh n i:Int):semR XW6 [told (.exit 1) (fun _=>TQuo Z Y L nz ny nl sh n i)] 200 148 (quo2 a b xs ys) [iL s1 Q,iL s2 R] [false,false] =some [(trimW (List.take nz Z)).length≤Z.length,Cn (List.take (trimW (List.take nz Z)).length Z),(List.take (trimW (List.take nz Z)).length Z).length < 549755813888,Int.ofNat 0≤sh∧sh.toNat < 64,0=0∧0+nz≤Z.length∧Z.length < 1099511627776,0=0∧0+nl≤L.length∧L.length < 1099511627776,LoopTo XW6 cQuo (semStart XW6 200 148 (quo2 a b xs ys) [false,false]) (.exit 1) (TQuo Z Y L nz ny nl sh n i),Int.ofNat 0≤IntKind.i64.wrap (Int.ofNat (IntKind.i64.wrap (Int.ofNat xs.length.succ)).toNat-Int.ofNat (lefX ys (IntKind.i64.wrap (Int.ofNat 64-len64 (ys.getD (addO 0 (IntKind.i64.wrap (Int.ofNat ys.length-Int.ofNat 1)).toNat) (Int.ofNat 0))))).length)∧IntKind.i64.wrap (Int.ofNat (IntKind.i64.wrap (Int.ofNat xs.length.succ)).toNat-Int.ofNat (lefX ys (IntKind.i64.wrap (Int.ofNat 64-len64 (ys.getD (addO 0 (IntKind.i64.wrap (Int.ofNat ys.length-Int.ofNat 1)).toNat) (Int.ofNat 0))))).length)=IntKind.i64.wrap (Int.ofNat (IntKind.i64.wrap (Int.ofNat xs.length.succ)).toNat-Int.ofNat (lefX ys (IntKind.i64.wrap (Int.ofNat 64-len64 (ys.getD (addO 0 (IntKind.i64.wrap (Int.ofNat ys.length-Int.ofNat 1)).toNat) (Int.ofNat 0))))).length)∧Int.ofNat 8*IntKind.i64.wrap (Int.ofNat (IntKind.i64.wrap (Int.ofNat xs.length.succ)).toNat-Int.ofNat (lefX ys (IntKind.i64.wrap (Int.ofNat 64-len64 (ys.getD (addO 0 (IntKind.i64.wrap (Int.ofNat ys.length-Int.ofNat 1)).toNat) (Int.ofNat 0))))).length)≤Int.ofNat 281474976710656∧IntKind.i64.wrap (Int.ofNat (IntKind.i64.wrap (Int.ofNat xs.length.succ)).toNat-Int.ofNat (lefX ys (IntKind.i64.wrap (Int.ofNat 64-len64 (ys.getD (addO 0 (IntKind.i64.wrap (Int.ofNat ys.length-Int.ofNat 1)).toNat) (Int.ofNat 0))))).length)≤Int.ofNat 9223372036854775807,0 < (lefX xs (IntKind.i64.wrap (Int.ofNat 64-len64 (ys.getD (addO 0 (IntKind.i64.wrap (Int.ofNat ys.length-Int.ofNat 1)).toNat) (Int.ofNat 0))))).length∧(lefX xs (IntKind.i64.wrap (Int.ofNat 64-len64 (ys.getD (addO 0 (IntKind.i64.wrap (Int.ofNat ys.length-Int.ofNat 1)).toNat) (Int.ofNat 0))))).length≤(IntKind.i64.wrap (Int.ofNat xs.length.succ)).toNat∧0+(lefX xs (IntKind.i64.wrap (Int.ofNat 64-len64 (ys.getD (addO 0 (IntKind.i64.wrap (Int.ofNat ys.length-Int.ofNat 1)).toNat) (Int.ofNat 0))))).length≤(List.replicate (IntKind.i64.wrap (↑xs.length+1)).toNat (0:Int)).length∧0+(lefX xs (IntKind.i64.wrap (Int.ofNat 64-len64 (ys.getD (addO 0 (IntKind.i64.wrap (Int.ofNat ys.length-Int.ofNat 1)).toNat) (Int.ofNat 0))))).length≤(lefX xs (IntKind.i64.wrap (Int.ofNat 64-len64 (ys.getD (addO 0 (IntKind.i64.wrap (Int.ofNat ys.length-Int.ofNat 1)).toNat) (Int.ofNat 0))))).length,xs.length=xs.length,Cn xs,xs.length < 549755813888,Int.ofNat 0≤IntKind.i64.wrap (Int.ofNat 64-len64 (ys.getD (addO 0 (IntKind.i64.wrap (Int.ofNat ys.length-Int.ofNat 1)).toNat) (Int.ofNat 0)))∧(IntKind.i64.wrap (Int.ofNat 64-len64 (ys.getD (addO 0 (IntKind.i64.wrap (Int.ofNat ys.length-Int.ofNat 1)).toNat) (Int.ofNat 0)))).toNat < 549755813888,Int.ofNat 0≤IntKind.i64.wrap (Int.ofNat xs.length.succ)∧IntKind.i64.wrap (Int.ofNat xs.length.succ)=IntKind.i64.wrap (Int.ofNat xs.length.succ)∧Int.ofNat 8*IntKind.i64.wrap (Int.ofNat xs.length.succ)≤Int.ofNat 281474976710656∧IntKind.i64.wrap (Int.ofNat xs.length.succ)≤Int.ofNat 9223372036854775807,ys.length=ys.length,Cn ys,ys.length < 549755813888,Int.ofNat 0≤IntKind.i64.wrap (Int.ofNat 64-len64 (ys.getD (addO 0 (IntKind.i64.wrap (Int.ofNat ys.length-Int.ofNat 1)).toNat) (Int.ofNat 0)))∧(IntKind.i64.wrap (Int.ofNat 64-len64 (ys.getD (addO 0 (IntKind.i64.wrap (Int.ofNat ys.length-Int.ofNat 1)).toNat) (Int.ofNat 0)))).toNat < 549755813888,Int.ofNat 0≤ys.getD (addO 0 (IntKind.i64.wrap (Int.ofNat ys.length-Int.ofNat 1)).toNat) (Int.ofNat 0)∧ys.getD (addO 0 (IntKind.i64.wrap (Int.ofNat ys.length-Int.ofNat 1)).toNat) (Int.ofNat 0) < Int.ofNat 18446744073709551616,addO 0 (IntKind.i64.wrap (Int.ofNat ys.length-Int.ofNat 1)).toNat < ys.length,(Int.ofNat 0≤IntKind.i64.wrap (Int.ofNat ys.length-Int.ofNat 1)∧IntKind.i64.wrap (Int.ofNat ys.length-Int.ofNat 1) < Int.ofNat ys.length)∧0 < ys.length,(Int.ofNat ys.length==Int.ofNat 1)=false,(match Int.ofNat ys.length==Int.ofNat 0 with | true=>true | false=>decide (cmpI xs ys < 0))=false,(Int.ofNat ys.length==Int.ofNat 0)=false,xs.length=xs.length,ys.length=ys.length,Dg 18446744073709551616 xs,Dg 18446744073709551616 ys,xs.length < 1099511627776,ys.length < 1099511627776,Value.bool false=Value.bool s1,(trimW (List.take nl L)).length=Q.length∧(trimW (List.take nl L)).length≤L.length∧List.take (trimW (List.take nl L)).length L=Q,Value.bool (sgnX false (rigX (List.take (trimW (List.take nz Z)).length Z) sh))=Value.bool s2,(rigX (List.take (trimW (List.take nz Z)).length Z) sh).length=R.length∧(rigX (List.take (trimW (List.take nz Z)).length Z) sh).length≤(rigX (List.take (trimW (List.take nz Z)).length Z) sh).length∧List.take (rigX (List.take (trimW (List.take nz Z)).length Z) sh).length (rigX (List.take (trimW (List.take nz Z)).length Z) sh)=R] :=by kernel_rfl
end Go.Proofs.YtdgfhijnconaoaaGreatDoor
namespace Go.Proofs.YtdgfhijnconaoaaGreatDoor
open Go Go.RowKit Ev Wd
structure QPl where
 k:Nat
 Z:List Int
 L:List Int
noncomputable def quoN (Y:List Int) (n:Nat) (p:QPl):QPl:=⟨p.k-1,digL p.Z Y (p.k-1) (n+1),setF p.L (p.k-1) (digV p.Z Y (p.k-1) (n+1))⟩
def goodQ (D N m nl:Nat) (p:QPl):Prop:=
 p.k≤nl∧p.Z.length=m+1∧Dg W64 p.Z∧val W64 (p.Z.drop p.k) < D∧p.L.length=nl∧Dg W64 p.L∧N=val W64 p.Z+D*(val W64 (p.L.drop p.k)*W64 ^p.k)
theorem set_drop {l:List Int} {k:Nat} (h:k < l.length) (x:Int):(l.set k x).drop k=x ::l.drop (k+1):=by
 rw [List.drop_eq_getElem_cons (by simpa using h)]
 simp [List.drop_set]
theorem quo_round {D N m nl n:Nat} {Y:List Int} (hY:val W64 Y=D) (hD:0 < D) (hDn:D < W64 ^n) (hnl:nl+n=m+1) {p:QPl} (h:goodQ D N m nl p) (hk:0 < p.k):
  OneD p.Z Y (p.k-1) (n+1)∧p.k-1+(n+1)≤p.Z.length∧goodQ D N m nl (quoN Y n p):=by
 obtain⟨h1,h2,h3,h4,h5,h6,h7⟩:=h
 obtain⟨k',Z,L⟩:=p
 simp only at h1 h2 h3 h4 h5 h6 h7 hk
 obtain⟨k,rfl⟩:∃ k,k'=k+1:=⟨k'-1,by omega⟩
 simp only [quoN,Nat.add_sub_cancel]
 have hlen:k+(n+1)≤Z.length:=by omega
 have hz:val W64 (Z.drop (k+(n+1)))=0:=by
  have e:=val_take_drop W64 (Z.drop (k+1)) n (by rw [List.length_drop]; omega)
  rw [List.drop_drop,show k+1+n=k+(n+1) by omega] at e
  rcases Nat.eq_zero_or_pos (val W64 (Z.drop (k+(n+1)))) with h | h
  ·exact h
  ·have:=Nat.le_mul_of_pos_right (W64 ^n) h
   omega
 have hP:val W64 (Z.drop k)=val W64 (part Z k (n+1)):=by
  have e:=val_take_drop W64 (Z.drop k) (n+1) (by rw [List.length_drop]; omega)
  rw [List.drop_drop,hz,Nat.mul_zero,Nat.add_zero] at e
  exact e
 have hP2:val W64 (Z.drop k)=(Z.getD k 0).toNat+W64*val W64 (Z.drop (k+1)):=by
  rw [drop_getD (l:=Z) (m:=k) (by omega)]
  rfl
 have hone:val W64 (part Z k (n+1)) < D*W64:=by
  rw [← hP,hP2]
  have g:=h3.get W64_pos k
  have g1:(Z.getD k 0).toNat < W64:=by omega
  have:W64*(val W64 (Z.drop (k+1))+1)≤W64*D:=Nat.mul_le_mul_left _ h4
  rw [Nat.mul_add,Nat.mul_one] at this
  rw [Nat.mul_comm D]
  omega
 have hmod:val W64 (part Z k (n+1))%D < D:=Nat.mod_lt _ hD
 have hpow:W64 ^n≤W64 ^(n+1):=pow_mono (Nat.le_succ n)
 have htk:(Z.take k).length=k:=by rw [List.length_take]; omega
 have hZ'd:(digL Z Y k (n+1)).drop k=dl W64 (n+1) (val W64 (part Z k (n+1))%D)++Z.drop (k+(n+1)):=by
  unfold digL
  rw [hY,List.append_assoc,List.drop_append_of_le_length (by omega),List.drop_of_length_le (by omega),List.nil_append]
 have hZ't:(digL Z Y k (n+1)).take k=Z.take k:=by
  unfold digL
  rw [List.append_assoc,List.take_append_of_le_length (by omega),List.take_of_length_le (by omega)]
 have hZ'v:val W64 ((digL Z Y k (n+1)).drop k)=val W64 (part Z k (n+1))%D:=by
  rw [hZ'd,val_append,hz,Nat.mul_zero,Nat.add_zero,dl_val]
  exact Nat.mod_eq_of_lt (by omega)
 have hq:val W64 (part Z k (n+1))/D < W64:=(Nat.div_lt_iff_lt_mul hD).2 (by rw [Nat.mul_comm]; exact hone)
 refine⟨by unfold OneD; rw [hY]; exact hone,hlen,by simp only; omega,?_,?_,?_,?_,?_,?_⟩
 ·simp only
  rw [digL_len Y hlen]
  exact h2
 ·simp only
  unfold digL
  exact ((h3.take _).append (dl_dg W64_pos _ _)).append (h3.drop _)
 ·simp only
  rw [hZ'v]
  exact hmod
 ·simp only
  rw [setF_eq]
  simp [h5]
 ·simp only
  rw [setF_eq]
  exact h6.set ⟨by unfold digV; exact Int.natCast_nonneg _,by unfold digV; rw [hY]; exact_mod_cast hq⟩ _
 ·simp only
  have e1:=val_take_drop W64 (digL Z Y k (n+1)) k (by rw [digL_len Y hlen]; omega)
  rw [hZ't,hZ'v] at e1
  have e2:=val_take_drop W64 Z k (by omega)
  rw [hP] at e2
  have e3:val W64 ((setF L k (digV Z Y k (n+1))).drop k)=val W64 (part Z k (n+1))/D+W64*val W64 (L.drop (k+1)):=by
   rw [setF_eq,set_drop (by omega)]
   simp only [val]
   unfold digV
   rw [hY,Int.toNat_natCast]
  rw [e1,e3,h7,e2]
  have e4:=Nat.div_add_mod (val W64 (part Z k (n+1))) D
  generalize val W64 (part Z k (n+1))/D=q at*
  generalize val W64 (part Z k (n+1))%D=r at*
  generalize val W64 (L.drop (k+1))=T
  rw [← e4,Nat.pow_succ]
  generalize W64 ^k=w
  rw [Nat.add_mul q,Nat.mul_add D,Nat.mul_add w (D*q)]
  have a1:w*(D*q)=D*(q*w):=by rw [Nat.mul_comm,Nat.mul_assoc]
  have a2:D*(T*(w*W64))=D*(W64*T*w):=by congr 1; rw [Nat.mul_comm w,← Nat.mul_assoc,Nat.mul_comm T]
  omega
theorem quo_all {D N m nl n:Nat} {Y:List Int} (hY:val W64 Y=D) (hD:0 < D) (hDn:D < W64 ^n) (hnl:nl+n=m+1) {p:QPl} (h:goodQ D N m nl p):∀ j,j≤p.k→goodQ D N m nl (itr (quoN Y n) j p)∧(itr (quoN Y n) j p).k=p.k-j
 | 0,_=>⟨h,rfl⟩
 | j+1,hj=>by
  obtain⟨g1,g2⟩:=quo_all hY hD hDn hnl h j (by omega)
  refine⟨(quo_round hY hD hDn hnl g1 (by rw [g2]; omega)).2.2,?_⟩
  show (itr (quoN Y n) j p).k-1=_
  rw [g2]
  omega
end Go.Proofs.YtdgfhijnconaoaaGreatDoor
namespace Go.Proofs.YtdgfhijnconaoaaGreatDoor
open Go Go.RowKit Ev Wd
noncomputable def shQ (ys:List Int):Int:=IntKind.i64.wrap (64-len64 (ys.getD (addO 0 (IntKind.i64.wrap (Int.ofNat ys.length-Int.ofNat 1)).toNat) 0))
noncomputable def nlQ (xs ys:List Int):Int:=IntKind.i64.wrap (Int.ofNat (IntKind.i64.wrap (Int.ofNat xs.length.succ)).toNat-Int.ofNat (lefX ys (shQ ys)).length)
noncomputable def z0Q (xs ys:List Int):List Int:=[] ++((lefX xs (shQ ys)).drop 0).take (lefX xs (shQ ys)).length++(List.replicate (IntKind.i64.wrap (Int.ofNat xs.length.succ)).toNat 0).drop (0+(lefX xs (shQ ys)).length)
theorem quo_into (a b:Bool) (xs ys:List Int) (x:AX) (s':St) (h:LoopTo XW6 cQuo (TQuo (z0Q xs ys) (lefX ys (shQ ys)) (List.replicate (nlQ xs ys).toNat 0) (IntKind.i64.wrap (Int.ofNat xs.length.succ)).toNat (lefX ys (shQ ys)).length (nlQ xs ys).toNat (shQ ys) (lefX ys (shQ ys)).length (IntKind.i64.wrap (Int.ofNat (nlQ xs ys).toNat-1))) x s'):
  LoopTo XW6 cQuo (semStart XW6 200 148 (quo2 a b xs ys) [false,false]) x s':=
 loop_into' h [] (by kernel_rfl) (by kernel_rfl) (by kernel_rfl)
theorem top_word {ys:List Int} (hy:Cn ys) (hp:0 < ys.length):∃ t:Nat,ys.getD (ys.length-1) 0=(t:Int)∧0 < t∧t < W64∧t*W64 ^(ys.length-1)≤val W64 ys∧val W64 ys < (t+1)*W64 ^(ys.length-1):=by
 have g:=hy.dg.get W64_pos (ys.length-1)
 have e:=val_take_drop W64 ys (ys.length-1) (by omega)
 rw [drop_getD (l:=ys) (m:=ys.length-1) (by omega),Nat.sub_add_cancel hp,List.drop_of_length_le (Nat.le_refl _)] at e
 simp only [val,Nat.mul_zero,Nat.add_zero] at e
 have l1:=val_lt W64_pos (hy.dg.take (ys.length-1))
 rw [List.length_take,Nat.min_eq_left (by omega)] at l1
 refine⟨(ys.getD (ys.length-1) 0).toNat,by omega,?_,by omega,?_,?_⟩
 ·rcases Nat.eq_zero_or_pos (ys.getD (ys.length-1) 0).toNat with h | h
  ·rw [h,Nat.mul_zero,Nat.add_zero] at e
   have h1:ys.length≤ys.length-1:=by
    have:wl (val W64 ys)≤ys.length-1:=wl_le.2 (by rw [e]; exact l1)
    unfold wl at this
    rw [← hy] at this
    exact this
   omega
  ·exact h
 ·rw [Nat.mul_comm,e]
  exact Nat.le_add_left _ _
 ·rw [Nat.add_mul,Nat.one_mul,Nat.mul_comm,e]
  generalize W64 ^(ys.length-1)*(ys.getD (ys.length-1) 0).toNat=q at*
  omega
theorem shift_word {t:Nat} (h0:0 < t) (h1:t < W64):0 < bl t∧bl t≤64∧2 ^63≤t*2 ^(64-bl t)∧(t+1)*2 ^(64-bl t)≤W64:=by
 have hW:(2:Nat) ^64=W64:=by decide
 have hb:bl t≤64:=bl_le.2 (by rw [hW]; exact h1)
 have hp:=bl_pos.2 h0
 have h2:=bl_top h0
 have h3:=lt_bl t
 refine⟨hp,hb,?_,?_⟩
 ·have:2 ^(bl t-1)*2 ^(64-bl t)=2 ^63:=by rw [← Nat.pow_add]; congr 1; omega
  rw [← this]
  exact Nat.mul_le_mul_right _ h2
 ·have:2 ^bl t*2 ^(64-bl t)=W64:=by rw [← Nat.pow_add,← hW]; congr 1; omega
  rw [← this]
  exact Nat.mul_le_mul_right _ h3
theorem quo_shift {ys:List Int} (hy:Cn ys) (hp:0 < ys.length) (hl:ys.length < 274877906944):∃ s:Nat,shQ ys=(s:Int)∧s≤63∧lefX ys (shQ ys)=ws W64 (val W64 ys*2 ^s)∧wl (val W64 ys*2 ^s)=ys.length∧2 ^63*W64 ^(ys.length-1)≤val W64 ys*2 ^s:=by
 obtain⟨t,e1,e2,e3,e4,e5⟩:=top_word hy hp
 obtain⟨b1,b2,b3,b4⟩:=shift_word e2 e3
 have hw:IntKind.i64.wrap (Int.ofNat ys.length-Int.ofNat 1)=((ys.length-1:Nat):Int):=by
  have h1:=wrap_nat (n:=ys.length-1) (by omega)
  rw [← h1]
  congr 1
  simp only [Int.ofNat_eq_natCast]
  omega
 have eS:shQ ys=((64-bl t:Nat):Int):=by
  unfold shQ
  rw [hw,addO_eq,Int.toNat_natCast,Nat.zero_add,e1]
  unfold len64
  rw [Int.toNat_natCast]
  have h1:=wrap_nat (n:=64-bl t) (by omega)
  rw [← h1]
  congr 1
  omega
 refine⟨64-bl t,eS,by omega,?_,?_,?_⟩
 ·rw [eS]
  unfold lefX
  rw [Int.toNat_natCast]
 ·have hlt:val W64 ys*2 ^(64-bl t) < W64 ^ys.length:=by
   have q1:val W64 ys*2 ^(64-bl t) < (t+1)*W64 ^(ys.length-1)*2 ^(64-bl t):=Nat.mul_lt_mul_of_pos_right e5 (Nat.two_pow_pos _)
   have q2:(t+1)*W64 ^(ys.length-1)*2 ^(64-bl t)=(t+1)*2 ^(64-bl t)*W64 ^(ys.length-1):=by rw [Nat.mul_assoc,Nat.mul_comm (W64 ^_),← Nat.mul_assoc]
   have q3:=Nat.mul_le_mul_right (W64 ^(ys.length-1)) b4
   have q4:W64*W64 ^(ys.length-1)=W64 ^ys.length:=by rw [Nat.mul_comm,← Nat.pow_succ]; congr 1; omega
   omega
  have h1:wl (val W64 ys*2 ^(64-bl t))≤ys.length:=wl_le.2 hlt
  have h2:wl (val W64 ys)≤wl (val W64 ys*2 ^(64-bl t)):=wl_mono (Nat.le_mul_of_pos_right _ (Nat.two_pow_pos _))
  have h3:wl (val W64 ys)=ys.length:=by unfold wl; rw [← hy]
  omega
 ·have q1:=Nat.mul_le_mul_right (2 ^(64-bl t)) e4
  have q2:t*W64 ^(ys.length-1)*2 ^(64-bl t)=t*2 ^(64-bl t)*W64 ^(ys.length-1):=by rw [Nat.mul_assoc,Nat.mul_comm (W64 ^_),← Nat.mul_assoc]
  have q3:=Nat.mul_le_mul_right (W64 ^(ys.length-1)) b3
  omega
end Go.Proofs.YtdgfhijnconaoaaGreatDoor
namespace Go.Proofs.YtdgfhijnconaoaaGreatDoor
open Go Go.RowKit Ev Wd
section
variable {xs ys:List Int} (hx:Cn xs) (hy:Cn ys) (hxl:xs.length < 274877906944) (hp:0 < ys.length) (hle:val W64 ys≤val W64 xs)
include hx hy hxl hp hle
theorem quo_lens:ys.length≤xs.length∧0 < val W64 ys:=by
 have _:=hxl
 have h1:wl (val W64 ys)≤wl (val W64 xs):=wl_mono hle
 have e1:wl (val W64 ys)=ys.length:=by unfold wl; rw [← hy]
 have e2:wl (val W64 xs)=xs.length:=by unfold wl; rw [← hx]
 exact⟨by omega,wl_pos.1 (by omega)⟩
theorem quo_start {s:Nat} (eS:shQ ys=(s:Int)) (hs:s≤63) (eY:lefX ys (shQ ys)=ws W64 (val W64 ys*2 ^s)) (hn:wl (val W64 ys*2 ^s)=ys.length) (htop:2 ^63*W64 ^(ys.length-1)≤val W64 ys*2 ^s):
  IntKind.i64.wrap (Int.ofNat xs.length.succ)=((xs.length+1:Nat):Int)∧nlQ xs ys=((xs.length+1-ys.length:Nat):Int)∧(0 < (lefX xs (shQ ys)).length∧(lefX xs (shQ ys)).length≤xs.length+1)∧
  goodQ (val W64 ys*2 ^s) (val W64 xs*2 ^s) xs.length (xs.length+1-ys.length) ⟨xs.length+1-ys.length,z0Q xs ys,List.replicate (xs.length+1-ys.length) 0⟩:=by
 obtain⟨hlen,hB⟩:=quo_lens hx hy hxl hp hle
 have e1:IntKind.i64.wrap (Int.ofNat xs.length.succ)=((xs.length+1:Nat):Int):=wrap_nat (n:=xs.length+1) (by omega)
 have e2:nlQ xs ys=((xs.length+1-ys.length:Nat):Int):=by
  unfold nlQ
  rw [e1,eY]
  have hn':(ws W64 (val W64 ys*2 ^s)).length=ys.length:=hn
  rw [hn']
  have h1:=wrap_nat (n:=xs.length+1-ys.length) (by omega)
  rw [← h1]
  congr 1
  simp only [Int.toNat_natCast,Int.ofNat_eq_natCast]
  omega
 have eX:lefX xs (shQ ys)=ws W64 (val W64 xs*2 ^s):=by
  rw [eS]
  unfold lefX
  rw [Int.toNat_natCast]
 have hA:val W64 xs < W64 ^xs.length:=val_lt W64_pos hx.dg
 have h2s:(2:Nat) ^s≤2 ^63:=Nat.pow_le_pow_right (by decide) hs
 have hN1:val W64 xs*2 ^s < W64 ^xs.length*2 ^63:=Nat.lt_of_lt_of_le (Nat.mul_lt_mul_of_pos_right hA (Nat.two_pow_pos _)) (Nat.mul_le_mul_left _ h2s)
 have hN:val W64 xs*2 ^s < W64 ^(xs.length+1):=by
  rw [Nat.pow_succ]
  refine Nat.lt_of_lt_of_le hN1 (Nat.mul_le_mul_left _ (by decide))
 have hl1:wl (val W64 xs*2 ^s)≤xs.length+1:=wl_le.2 hN
 have hl2:0 < wl (val W64 xs*2 ^s):=wl_pos.2 (Nat.mul_pos (by omega) (Nat.two_pow_pos _))
 have ez:z0Q xs ys=ws W64 (val W64 xs*2 ^s)++List.replicate (xs.length+1-wl (val W64 xs*2 ^s)) 0:=by
  unfold z0Q
  rw [eX,e1,List.nil_append,List.drop_zero,List.take_length,List.drop_replicate,Int.toNat_natCast,Nat.zero_add]
 have hzl:(z0Q xs ys).length=xs.length+1:=by
  rw [ez]
  simp only [List.length_append,List.length_replicate]
  show wl _+_=_
  omega
 have hzd:Dg W64 (z0Q xs ys):=by
  rw [ez]
  exact (wsDg _).append (Dg.zeros _ W64_pos _)
 have hzv:val W64 (z0Q xs ys)=val W64 xs*2 ^s:=by
  rw [ez,val_append,wsVal,val_zeros,Nat.mul_zero,Nat.add_zero]
 refine⟨e1,e2,⟨by rw [eX]; exact hl2,by rw [eX]; exact hl1⟩,Nat.le_refl _,hzl,hzd,?_,by simp,Dg.zeros _ W64_pos _,?_⟩
 ·simp only
  have e:=val_take_drop W64 (z0Q xs ys) (xs.length+1-ys.length) (by omega)
  rw [hzv] at e
  have q1:=Nat.mul_le_mul_right (W64 ^(xs.length+1-ys.length)) htop
  have q2:2 ^63*W64 ^(ys.length-1)*W64 ^(xs.length+1-ys.length)=W64 ^xs.length*2 ^63:=by
   rw [Nat.mul_assoc,← Nat.pow_add,Nat.mul_comm]
   congr 2
   omega
  rw [q2] at q1
  have q3:W64 ^(xs.length+1-ys.length)*val W64 ((z0Q xs ys).drop (xs.length+1-ys.length)) < W64 ^(xs.length+1-ys.length)*(val W64 ys*2 ^s):=by
   rw [Nat.mul_comm _ (val W64 ys*2 ^s)]
   generalize W64 ^(xs.length+1-ys.length)*val W64 ((z0Q xs ys).drop (xs.length+1-ys.length))=u at*
   omega
  exact Nat.lt_of_mul_lt_mul_left q3
 ·simp only
  rw [hzv,List.drop_of_length_le (by simp)]
  simp [val]
theorem quo_loop {s:Nat} (eS:shQ ys=(s:Int)) (hs:s≤63) (eY:lefX ys (shQ ys)=ws W64 (val W64 ys*2 ^s)) (hn:wl (val W64 ys*2 ^s)=ys.length) (htop:2 ^63*W64 ^(ys.length-1)≤val W64 ys*2 ^s):
  ∃ Z L,LoopTo XW6 cQuo (TQuo (z0Q xs ys) (lefX ys (shQ ys)) (List.replicate (nlQ xs ys).toNat 0) (IntKind.i64.wrap (Int.ofNat xs.length.succ)).toNat (lefX ys (shQ ys)).length (nlQ xs ys).toNat (shQ ys) (lefX ys (shQ ys)).length (IntKind.i64.wrap (Int.ofNat (nlQ xs ys).toNat-1))) (.exit 1)
   (TQuo Z (lefX ys (shQ ys)) L (xs.length+1) ys.length (xs.length+1-ys.length) s ys.length (-1))∧
   Z.length=xs.length+1∧L.length=xs.length+1-ys.length∧Dg W64 Z∧Dg W64 L∧val W64 L=val W64 xs/val W64 ys∧val W64 Z=val W64 xs%val W64 ys*2 ^s:=by
 obtain⟨hlen,hB⟩:=quo_lens hx hy hxl hp hle
 obtain⟨e1,e2,_,hg0⟩:=quo_start hx hy hxl hp hle eS hs eY hn htop
 have hD:0 < val W64 ys*2 ^s:=Nat.mul_pos hB (Nat.two_pow_pos _)
 have hYv:val W64 (lefX ys (shQ ys))=val W64 ys*2 ^s:=by rw [eY,wsVal]
 have hYl:(lefX ys (shQ ys)).length=ys.length:=by rw [eY]; exact hn
 have hDn:val W64 ys*2 ^s < W64 ^ys.length:=by rw [← hn]; exact wl_lt _
 have hall:=quo_all (n:=ys.length) hYv hD hDn (show xs.length+1-ys.length+ys.length=xs.length+1 by omega) hg0
 have hYc:Cn (lefX ys (shQ ys)):=by rw [eY]; exact Cn.ws _
 generalize hp0:(⟨xs.length+1-ys.length,z0Q xs ys,List.replicate (xs.length+1-ys.length) 0⟩:QPl)=p0 at*
 have hp0k:p0.k=xs.length+1-ys.length:=by rw [← hp0]
 rw [hp0k] at hall
 have hi0:IntKind.i64.wrap (Int.ofNat (xs.length+1-ys.length)-1)=((xs.length+1-ys.length:Nat):Int)-1:=by
  have:=IntKind.wrap_i64 (Int.ofNat (xs.length+1-ys.length)-1)
  simp only [Int.ofNat_eq_natCast] at*
  omega
 generalize hY:lefX ys (shQ ys)=Y at*
 have hrun:=loop_run (X:=XW6) (c:=cQuo) (x:= .exit 1) (fun j=>TQuo (itr (quoN Y ys.length) j p0).Z Y (itr (quoN Y ys.length) j p0).L (xs.length+1) ys.length (xs.length+1-ys.length) s ys.length (((xs.length+1-ys.length:Nat):Int)-1- (j:Int)))
  (xs.length+1-ys.length) (s':=TQuo (itr (quoN Y ys.length) (xs.length+1-ys.length) p0).Z Y (itr (quoN Y ys.length) (xs.length+1-ys.length) p0).L (xs.length+1) ys.length (xs.length+1-ys.length) s ys.length (-1)) (by intro e; cases e) (fun j hj=> ?_) ?_
 ·obtain⟨f1,f2⟩:=hall (xs.length+1-ys.length) (Nat.le_refl _)
  rw [Nat.sub_self] at f2
  obtain⟨g1,g2,g3,g4,g5,g6,g7⟩:=f1
  rw [f2] at g4 g7
  simp only [List.drop_zero,Nat.pow_zero,Nat.mul_one] at g4 g7
  refine⟨_,_,?_,g2,g5,g3,g6,?_,?_⟩
  ·rw [e1,e2,eS,hYl]
   simp only [Int.toNat_natCast]
   rw [hi0]
   have h0:itr (quoN Y ys.length) 0 p0=p0:=rfl
   simp only [h0] at hrun
   have hz0:((xs.length+1-ys.length:Nat):Int)-1- ((0:Nat):Int)=((xs.length+1-ys.length:Nat):Int)-1:=by omega
   rw [hz0,← hp0] at hrun
   simp only at hrun
   rw [← hp0]
   exact hrun
  ·have q1:val W64 xs*2 ^s/ (val W64 ys*2 ^s)=val W64 xs/val W64 ys:=Nat.mul_div_mul_right _ _ (Nat.two_pow_pos _)
   rw [← q1,g7,Nat.add_mul_div_left _ _ hD,Nat.div_eq_of_lt g4,Nat.zero_add]
  ·have q1:val W64 xs*2 ^s%(val W64 ys*2 ^s)=val W64 xs%val W64 ys*2 ^s:=Nat.mul_mod_mul_right _ _ _
   rw [← q1,g7,Nat.add_mul_mod_self_left,Nat.mod_eq_of_lt g4]
 ·obtain⟨f1,f2⟩:=hall j (by omega)
  obtain⟨r1,r2,r3⟩:=quo_round (n:=ys.length) hYv hD hDn (show xs.length+1-ys.length+ys.length=xs.length+1 by omega) f1 (by rw [f2]; omega)
  obtain⟨g1,g2,g3,g4,g5,g6,g7⟩:=f1
  simp only [itr]
  generalize itr (quoN Y ys.length) j p0=p at*
  obtain⟨k,hk⟩:∃ k,p.k=k+1:=⟨p.k-1,by omega⟩
  rw [hk,Nat.add_sub_cancel] at r1 r2
  have ei:((xs.length+1-ys.length:Nat):Int)-1- (j:Int)=(k:Int):=by omega
  have ei2:((xs.length+1-ys.length:Nat):Int)-1- ((j+1:Nat):Int)=(k:Int)-1:=by omega
  rw [ei,ei2]
  unfold quoN
  rw [hk,Nat.add_sub_cancel]
  have eE:IntKind.i64.wrap (IntKind.i64.wrap ((k:Int)+(ys.length:Int))+1)=((k+ys.length+1:Nat):Int):=by
   have h1:=wrap_nat (n:=k+ys.length) (by omega)
   rw [Int.natCast_add] at h1
   rw [h1]
   have h2:=wrap_nat (n:=k+ys.length+1) (by omega)
   rw [← h2]
   congr 1
  have eM:quoM (k:Int) (ys.length:Int)=ys.length+1:=by
   unfold quoM
   rw [eE]
   simp only [Int.toNat_natCast]
   omega
  have eA:addO 0 (k:Int).toNat=k:=by rw [addO_eq,Int.toNat_natCast,Nat.zero_add]
  have eW:IntKind.i64.wrap ((k:Int)-1)=(k:Int)-1:=by
   have:=IntKind.wrap_i64 ((k:Int)-1)
   omega
  have eT:Y.take ys.length=Y:=by rw [← hYl]; exact List.take_length
  have hstep:=quo_next p.Z Y p.L (xs.length+1) ys.length (xs.length+1-ys.length) s ys.length k
  rw [eM,eA,eW,eT] at hstep
  have eM2:(IntKind.i64.wrap (IntKind.i64.wrap ((k:Int)+(ys.length:Int))+Int.ofNat 1)).toNat- ((k:Int)).toNat=ys.length+1:=eM
  have eE2:IntKind.i64.wrap (IntKind.i64.wrap ((k:Int)+(ys.length:Int))+Int.ofNat 1)=((k+ys.length+1:Nat):Int):=eE
  have eYl:Y.length=ys.length:=hYl
  have k0:Int.ofNat 0≤(k:Int):=Int.ofNat_le.2 (Nat.zero_le _)
  have kl:k < xs.length+1-ys.length:=by omega
  rw [eM2] at hstep
  rw [eE2] at hstep
  refine hstep ⟨by omega,⟨⟨k0,Int.ofNat_lt.2 kl⟩,by omega⟩,⟨rfl,by rw [eYl]⟩,⟨r2,by omega⟩,g3,hYc,by omega,?_,r1,by omega,⟨rfl,k0,Int.ofNat_le.2 (by omega), .inr (Int.ofNat_lt.2 (by omega)),?_⟩,decide_eq_true k0,trivial⟩
  ·rw [hYv]
   exact hD
  ·rw [Int.toNat_natCast]
   omega
 ·obtain⟨f1,f2⟩:=hall (xs.length+1-ys.length) (Nat.le_refl _)
  have ez:((xs.length+1-ys.length:Nat):Int)-1- ((xs.length+1-ys.length:Nat):Int)= -1:=by omega
  simp only [ez]
  exact quo_out _ Y _ _ _ _ _ _ (-1) ⟨by decide,trivial⟩
end
end Go.Proofs.YtdgfhijnconaoaaGreatDoor
namespace Go.Proofs.YtdgfhijnconaoaaGreatDoor
open Go Go.RowKit Ev Wd
theorem cmpI_val {xs ys:List Int} (hx:Cn xs) (hy:Cn ys):(cmpI xs ys < 0↔val W64 xs < val W64 ys):=by
 have:=cmpI_neg (val W64 xs) (val W64 ys)
 unfold Cn at hx hy
 rw [← hx,← hy] at this
 exact this
theorem quo_cond {xs ys:List Int} (hx:Cn xs) (hy:Cn ys) (hp:0 < ys.length) (b:Bool) (hb:decide (val W64 xs < val W64 ys)=b):
  (match Int.ofNat ys.length==Int.ofNat 0 with | true=>true | false=>decide (cmpI xs ys < 0))=b∧(Int.ofNat ys.length==Int.ofNat 0)=false:=by
 have h0:(Int.ofNat ys.length==Int.ofNat 0)=false:=by
  simp only [beq_eq_false_iff_ne,ne_eq,Int.ofNat.injEq]
  omega
 rw [h0]
 refine⟨?_,rfl⟩
 show decide (cmpI xs ys < 0)=b
 rw [← hb]
 exact decide_eq_decide.2 (cmpI_val hx hy)
theorem quo_sem (a b:Bool) {xs ys:List Int} (hx:Cn xs) (hy:Cn ys) (hxl:xs.length < 274877906944) (hp:0 < ys.length) (hle:val W64 ys≤val W64 xs):
  Ev.Sem Tryz.prog J0 148 (quo2 a b xs ys) [iW false (ws W64 (val W64 xs/val W64 ys)),iW false (ws W64 (val W64 xs%val W64 ys))] :=by
 obtain⟨hlen,hB⟩:=quo_lens hx hy hxl hp hle
 obtain⟨hc,h0⟩:=quo_cond hx hy hp false (decide_eq_false (by omega))
 by_cases h1:ys.length=1
 ·
  have hone:(Int.ofNat ys.length==Int.ofNat 1)=true:=by rw [h1]; rfl
  have hg:=hy.dg.get W64_pos 0
  have hd:(ys.getD 0 0).toNat=val W64 ys:=by
   match ys,h1 with
   | [y],_=>simp [val]
  have ea:addO 0 0=0:=rfl
  have hdW:(ys.getD 0 0).toNat < W64:=by omega
  have eq:quoX xs (ys.getD (addO 0 0) (Int.ofNat 0))=ws W64 (val W64 xs/val W64 ys):=by
   show ws W64 (val W64 xs/ (ys.getD 0 0).toNat)=_
   rw [hd]
  have er:remX xs (ys.getD (addO 0 0) (Int.ofNat 0))=((val W64 xs%val W64 ys:Nat):Int):=by
   show ((val W64 xs%(ys.getD 0 0).toNat:Nat):Int)=_
   rw [hd]
  have ew:wrdX (remX xs (ys.getD (addO 0 0) (Int.ofNat 0)))=ws W64 (val W64 xs%val W64 ys):=by
   rw [er]
   unfold wrdX
   rw [Int.toNat_natCast]
  have hrW:val W64 xs%val W64 ys < W64:=Nat.lt_trans (Nat.mod_lt _ hB) (by rw [← hd]; exact hdW)
  refine sem_of bW6_ok 10 _ _ (quo_way1 a b false false xs ys _ _) ⟨?_,rfl,hx,by omega,?_,by rw [ea]; omega,⟨⟨by simp,by rw [h1]; decide⟩,hp⟩,hone,hc,h0,rfl,rfl,hx.dg,hy.dg,by omega,by omega,rfl,?_,rfl,?_,trivial⟩
  ·rw [er,Int.toNat_natCast]
   exact⟨Int.ofNat_le.2 (Nat.zero_le _),hrW⟩
  ·show Int.ofNat 0 < ys.getD 0 0∧(ys.getD 0 0).toNat < _
   exact⟨by simp only [Int.ofNat_eq_natCast]; omega,hdW⟩
  ·rw [eq,List.take_length]
   exact⟨rfl,Nat.le_refl _,rfl⟩
  ·rw [ew,List.take_length]
   exact⟨rfl,Nat.le_refl _,rfl⟩
 ·obtain⟨s,eS,hs,eY,hn,htop⟩:=quo_shift hy hp (by omega)
  obtain⟨e1,e2,e3,_⟩:=quo_start hx hy hxl hp hle eS hs eY hn htop
  obtain⟨Z,L,hL,zl,ll,zd,ld,lv,zv⟩:=quo_loop hx hy hxl hp hle eS hs eY hn htop
  have hone:(Int.ofNat ys.length==Int.ofNat 1)=false:=by
   simp only [beq_eq_false_iff_ne,ne_eq,Int.ofNat.injEq]
   exact h1
  have etZ:List.take (xs.length+1) Z=Z:=by rw [← zl]; exact List.take_length
  have etL:List.take (xs.length+1-ys.length) L=L:=by rw [← ll]; exact List.take_length
  have tz:=trim_obl (trimW_ws W64_two zd)
  have tl:=trim_obl (trimW_ws W64_two ld)
  have eR:rigX (List.take (trimW (List.take (xs.length+1) Z)).length Z) (s:Int)=ws W64 (val W64 xs%val W64 ys):=by
   rw [etZ,tz.2.2]
   unfold rigX
   rw [wsVal,zv,Int.toNat_natCast,Nat.mul_div_cancel _ (Nat.two_pow_pos _)]
  have eN8:(Int.ofNat 0≤nlQ xs ys∧nlQ xs ys=nlQ xs ys∧Int.ofNat 8*nlQ xs ys≤Int.ofNat 281474976710656∧nlQ xs ys≤Int.ofNat 9223372036854775807):=by
   rw [e2]
   refine⟨Int.ofNat_le.2 (Nat.zero_le _),rfl,?_,Int.ofNat_le.2 (by omega)⟩
   show (8:Int)*((xs.length+1-ys.length:Nat):Int)≤281474976710656
   omega
  have eM8:(Int.ofNat 0≤IntKind.i64.wrap (Int.ofNat xs.length.succ)∧IntKind.i64.wrap (Int.ofNat xs.length.succ)=IntKind.i64.wrap (Int.ofNat xs.length.succ)∧Int.ofNat 8*IntKind.i64.wrap (Int.ofNat xs.length.succ)≤Int.ofNat 281474976710656∧IntKind.i64.wrap (Int.ofNat xs.length.succ)≤Int.ofNat 9223372036854775807):=by
   rw [e1]
   refine⟨Int.ofNat_le.2 (Nat.zero_le _),rfl,?_,Int.ofNat_le.2 (by omega)⟩
   show (8:Int)*((xs.length+1:Nat):Int)≤281474976710656
   omega
  have eC:0 < (lefX xs (shQ ys)).length∧(lefX xs (shQ ys)).length≤(IntKind.i64.wrap (Int.ofNat xs.length.succ)).toNat∧0+(lefX xs (shQ ys)).length≤(List.replicate (IntKind.i64.wrap (Int.ofNat xs.length.succ)).toNat (0:Int)).length∧0+(lefX xs (shQ ys)).length≤(lefX xs (shQ ys)).length:=by
   rw [e1,List.length_replicate,Int.toNat_natCast]
   omega
  have eSh:Int.ofNat 0≤shQ ys∧(shQ ys).toNat < 549755813888:=by
   rw [eS,Int.toNat_natCast]
   exact⟨Int.ofNat_le.2 (Nat.zero_le _),by omega⟩
  have hw:IntKind.i64.wrap (Int.ofNat ys.length-Int.ofNat 1)=((ys.length-1:Nat):Int):=by
   have h1:=wrap_nat (n:=ys.length-1) (by omega)
   rw [← h1]
   congr 1
   simp only [Int.ofNat_eq_natCast]
   omega
  have eA:addO 0 (IntKind.i64.wrap (Int.ofNat ys.length-Int.ofNat 1)).toNat=ys.length-1:=by rw [hw,addO_eq,Int.toNat_natCast,Nat.zero_add]
  have hg:=hy.dg.get W64_pos (ys.length-1)
  refine sem_of bW6_ok 10 _ _ (quo_way2 a b false false xs ys _ _ Z (lefX ys (shQ ys)) L (xs.length+1) ys.length (xs.length+1-ys.length) s ys.length (-1))
   ⟨?_,?_,?_,⟨Int.ofNat_le.2 (Nat.zero_le _),?_⟩,⟨rfl,by omega,by omega⟩,⟨rfl,by omega,by omega⟩,quo_into a b xs ys _ _ hL,eN8,eC,rfl,hx,by omega,eSh,eM8,rfl,hy,by omega,eSh,?_,by rw [eA]; omega,⟨⟨?_,?_⟩,hp⟩,hone,hc,h0,rfl,rfl,hx.dg,hy.dg,by omega,by omega,rfl,?_,?_,?_,trivial⟩
  ·rw [etZ]; exact tz.2.1
  ·rw [etZ,tz.2.2]; exact Cn.ws _
  ·rw [etZ,List.length_take,tz.1]
   have:=tz.2.1
   rw [tz.1] at this
   omega
  ·rw [Int.toNat_natCast]; omega
  ·rw [eA]
   exact⟨hg.1,hg.2⟩
  ·rw [hw]; exact Int.ofNat_le.2 (Nat.zero_le _)
  ·rw [hw]; exact Int.ofNat_lt.2 (by omega)
  ·rw [etL]
   refine⟨by rw [tl.1,lv],tl.2.1,by rw [tl.2.2,lv]⟩
  ·rw [eR]; rfl
  ·rw [eR,List.take_length]
   exact⟨rfl,Nat.le_refl _,rfl⟩
theorem quo_small (a b:Bool) {xs ys:List Int} (hx:Cn xs) (hy:Cn ys) (hxl:xs.length < 274877906944) (hyl:ys.length < 274877906944) (hlt:val W64 xs < val W64 ys):
  SemA Tryz.prog J0 148 (quo2 a b xs ys) fun us=> .tuple ⟨[.agg ⟨[.bool false, .slice none 0 0]⟩, .agg ⟨us.take 2⟩]⟩:=by
 have hp:0 < ys.length:=by
  rcases Nat.eq_zero_or_pos ys.length with h | h
  ·have:=List.eq_nil_of_length_eq_zero h
   subst this
   simp [val] at hlt
  ·exact h
 obtain⟨hc,h0⟩:=quo_cond hx hy hp true (decide_eq_true hlt)
 refine semA_of bW6_ok 10 [] [true] (quo_way0 a b xs ys) ⟨hc,h0,rfl,rfl,hx.dg,hy.dg,by omega,by omega,trivial⟩ (fun ρ=> ?_)
 show rv ρ (.tuple ⟨[.agg ⟨[.bool false, .slice none 0 0]⟩, .agg ⟨[.bool a, .slice (some ⟨11,0,some 12⟩) xs.length 0]⟩]⟩)=_
 simp only [rv,rvA,rvL]
 rfl
end Go.Proofs.YtdgfhijnconaoaaGreatDoor
namespace Go.Proofs.YtdgfhijnconaoaaGreatDoor
open Go Go.RowKit Ev Wd
def quoY (xs ys:List Int):List Int:=ws W64 (val W64 xs/val W64 ys)
def remY (xs ys:List Int):List Int:=ws W64 (val W64 xs%val W64 ys)
def LessW (xs ys:List Int):Prop:=val W64 xs < val W64 ys
def specQuoN:List Arg→Option (List Arg×List Prop)
 | [.a [.v (.bool _), .s 32 .u64 xs], .a [.v (.bool _), .s 32 .u64 ys]] =>some ([iW false (quoY xs ys),iW false (remY xs ys)],[Cn xs,Cn ys,xs.length < 274877906944,0 < ys.length,¬ LessW xs ys])
 | _=>none
theorem specQuoN_ok:∀ az rs l,specQuoN az=some (rs,l)→allP l→Ev.Sem Tryz.prog J0 148 az rs:=by
 intro az rs l h hl
 unfold specQuoN at h
 split at h
 ·cases h
  rename_i a xs b ys
  obtain⟨h1,h2,h3,h4,h5,_⟩:=hl
  exact quo_sem a b h1 h2 h3 h4 (Nat.le_of_not_lt h5)
 ·cases h
def specQuoA (args:List Value) (H:Heap) (n:Nat) (ds:List Bool):Option CR:=
 match args with
 | [.agg ⟨[.bool a,x]⟩, .agg ⟨[.bool _,y]⟩] =>match slOf H .u64 x,slOf H .u64 y with
  | some (xs,l1),some (ys,l2)=>some ⟨.tuple ⟨[.agg ⟨[.bool false, .slice none 0 0]⟩, .agg ⟨[.bool a,x]⟩]⟩,H,n,[Cn xs,Cn ys,xs.length < 274877906944,ys.length < 274877906944,LessW xs ys] ++(l1++l2),ds⟩
  | _,_=>none
 | _=>none
theorem quo_enters:Enters Tryz.prog 148:=evFn_enters (Base.cx_ok bW6_ok 10).2 (quo_way0 false false [] [])
theorem specQuoA_ok:SpecOk Tryz.prog J0 148 specQuoA:=by
 intro args H n ds r h hl
 unfold specQuoA at h
 split at h
 case h_2=>cases h
 rename_i a x b y
 split at h
 case h_2=>cases h
 rename_i xs l1 ys l2 e1 e2
 cases h
 obtain⟨hl1,hl2⟩:=(allP_append _ _).1 hl
 obtain⟨k1,k2,k3,k4,k5,_⟩:=hl1
 obtain⟨m1,m2⟩:=(allP_append _ _).1 hl2
 refine⟨Nat.le_refl _,quo_enters,fun B M ρ w vs hp hB hI hS=> ?_⟩
 obtain⟨hS0,hvs⟩:=hS ρ (Agree.refl _ _)
 have c1:CelIs w (.s u64T .u64 xs) (rv ρ x):=slOf_sound hS0 e1 m1
 have c2:CelIs w (.s u64T .u64 ys) (rv ρ y):=slOf_sound hS0 e2 m2
 have hA:All2 (CelIs w) (cellsA (quo2 a b xs ys)) [.bool a,rv ρ x, .bool b,rv ρ y] := .cons ⟨rfl,rfl⟩ (.cons c1 (.cons ⟨rfl,rfl⟩ (.cons c2 .nil)))
 have hc:=(quo_small a b k1 k2 k3 k4 k5).2 w _ hI hA
 have ev:vs=packL (quo2 a b xs ys) [.bool a,rv ρ x, .bool b,rv ρ y] :=by
  rw [hvs]
  simp only [rvL,rv,rvA]
  rfl
 rw [ev]
 refine hc.mono fun e w' ⟨he,hb⟩=>⟨ρ,_,Agree.refl _ _,he,Keeps.of_below hb hB,fun ρ' ha=>⟨?_,(hS ρ' ha).1.below hb⟩⟩
 have e3:=(hS ρ' ha).2
 rw [hvs] at e3
 simp only [rvL,rv,rvA,List.cons.injEq,Value.agg.injEq,Array.mk.injEq,and_true,true_and] at e3
 simp only [rvL,rv,rvA,← e3.1]
 rfl
def specQuo:List Value→Heap→Nat→List Bool→Option CR:=specBit specQuoA (liftS [shI,shI] specQuoN)
theorem specQuo_ok:SpecOk Tryz.prog J0 148 specQuo:=specBit_ok specQuoA_ok (liftS_ok _ specQuoN_ok)
end Go.Proofs.YtdgfhijnconaoaaGreatDoor
