/-
 NumberBack: the whole text, the short text, the hexadecimal text and seventeen figures of any number are read as just that number; nine figures of a single are read as that single. No condition.
-/
import Derived.Test.YtbdaebagmmmijaaGreatDoorB1x03
import Derived.Shelf.Strconv.ParseUint10At
import Derived.Lib.AtoiTie
import Derived.Lib.AtoiErrMem
import Derived.Lib.ParseIntBCases
import GoSem.ClaimJoined
import Derived.Lib.Bytealg
set_option maxRecDepth 1000000
open Nat renaming beq->zO0
open Int renaming ofNat->zO2
open Go.Value renaming int->zO3,float->zO4,bool->zO8
open List renaming replicate->zO6,take->zO9
open Go.Proofs.Tryz renaming prog->zO7
open BitVec renaming ofInt->zO10
open Go.IntKind renaming i64->iI,u64->uI,u32->uJ
noncomputable section
namespace Go.Proofs
theorem zzA185:type_of%@Int.ofNat_le:=@Int.ofNat_le
theorem zzA186:type_of%@Int.ofNat_lt:=@Int.ofNat_lt
theorem d4:type_of%@decide_eq_true:=@decide_eq_true
theorem b8:type_of%@decide_eq_false:=@decide_eq_false
theorem kD:type_of%@Int.lt_irrefl:=@Int.lt_irrefl
theorem oY:type_of%@Nat.pow_one:=@Nat.pow_one
theorem yF:type_of%@Nat.lt_of_mul_lt_mul_left:=@Nat.lt_of_mul_lt_mul_left
theorem k0u:type_of%@List.drop_of_length_le:=@List.drop_of_length_le
theorem p7:type_of%@Nat.pow_pos:=@Nat.pow_pos
theorem t0v:type_of%@Nat.le_mul_of_pos_right:=@Nat.le_mul_of_pos_right
theorem uN:type_of%@List.append_assoc:=@List.append_assoc
theorem G5:type_of%@List.length_replicate:=@List.length_replicate
theorem pM:type_of%@Nat.lt_trans:=@Nat.lt_trans
theorem a0o:type_of%@Nat.le_mul_of_pos_left:=@Nat.le_mul_of_pos_left
theorem oX:type_of%@Nat.pow_le_pow_left:=@Nat.pow_le_pow_left
theorem zC:type_of%@Nat.pow_lt_pow_right:=@Nat.pow_lt_pow_right
theorem pG:type_of%@BitVec.ofInt_natCast:=@BitVec.ofInt_natCast
theorem bV:type_of%@BitVec.toNat_and:=@BitVec.toNat_and
theorem oJ:type_of%@BitVec.toNat_ofNat:=@BitVec.toNat_ofNat
theorem kK:type_of%@Int.eq_ofNat_of_zero_le:=@Int.eq_ofNat_of_zero_le
theorem l0o:type_of%@Int.ofNat_fdiv:=@Int.ofNat_fdiv
theorem x8:type_of%@beq_false_of_ne:=@beq_false_of_ne
theorem L4:type_of%@of_decide_eq_false:=@of_decide_eq_false
theorem vJ:type_of%@Nat.pow_lt_pow_iff_right:=@Nat.pow_lt_pow_iff_right
theorem x0s:type_of%@Nat.shiftLeft_zero:=@Nat.shiftLeft_zero
theorem l0i:type_of%@Nat.lt_of_mul_lt_mul_right:=@Nat.lt_of_mul_lt_mul_right
theorem h0d:type_of%@BitVec.toNat_or:=@BitVec.toNat_or
theorem m0q:type_of%@Nat.two_pow_add_eq_or_of_lt:=@Nat.two_pow_add_eq_or_of_lt
theorem jG:type_of%@beq_self_eq_true:=@beq_self_eq_true
end Go.Proofs
namespace Go.Proofs.YtbdaebagmmmijaaGreatDoor
open Go Go.RowKit Ev Wd
abbrev wO (ys:List Int) (off n:Nat):Arg:= .c (.o .u64 ys off n)
def n0l (zs ys L:List Int) (off na nb N:Nat) (la c i:Int):St:=
 ⟨only 40 [(0, .slice (some ⟨11,off,some 12⟩) na 0),(1,slV 13 nb),(5,slV 15 N),(6, .int .u64 c),(12, .slice (some ⟨11,off,some 12⟩) na 0),(13, .int .i64 la),(14, .int .i64 i)],[(15, .row Z8 1 (.ints .u64 L) 16),(11, .ints .u64 zs),(13, .ints .u64 ys)],17,[],[],0,none,[],15⟩
def qL (zs ys:List Int) (off na nb:Nat) (i:Int):St:=⟨only 43 [(0, .slice (some ⟨11,off,some 12⟩) na 0),(1,slV 13 nb),(5, .int .i64 i)],[(11, .ints .u64 zs),(13, .ints .u64 ys)],15,[],[],0,none,[],15⟩
def p1q (zs ys:List Int) (off na nb:Nat) (r:Int):St:=⟨only 43 [(0, .slice (some ⟨11,off,some 12⟩) na 0),(1,slV 13 nb),(4, .int .i64 r)],[(11, .ints .u64 zs),(13, .ints .u64 ys)],15,[],[],0,none,[],15⟩
theorem t1h (zs ys:List Int) (off n:Nat) (r:Int):A7 XW0 [] 200 153 [wO zs off n,wS ys] [.c (.v (.int .i64 r))] [true] =some [(zO2 n !=zO2 ys.length)=true,zO3 iI (iI.wrap (zO2 n-zO2 ys.length))=zO3 iI r] :=by kernel_rfl
theorem v1w (zs ys:List Int) (off na nb n:Nat) (i r:Int):A7 XW0 [X4 (.exit 0) (fun _=>qL zs ys off na nb i)] 200 153 [wO zs off n,wS ys] [.c (.v (.int .i64 r))] [false] =some [d5 XW0 gQ (o7 XW0 200 153 [wO zs off n,wS ys] [false]) (.exit 0) (qL zs ys off na nb i),(zO2 n !=zO2 ys.length)=false,zO3 iI (zO2 0)=zO3 iI r] :=by kernel_rfl
theorem x0t (zs ys:List Int) (off na nb n:Nat) (q r:Int):A7 XW0 [X4 .ret (fun _=>p1q zs ys off na nb q)] 200 153 [wO zs off n,wS ys] [.c (.v (.int .i64 r))] [false] =some [d5 XW0 gQ (o7 XW0 200 153 [wO zs off n,wS ys] [false]) .ret (p1q zs ys off na nb q),(zO2 n !=zO2 ys.length)=false,zO3 iI q=zO3 iI r] :=by kernel_rfl
theorem s1l (zs ys:List Int) (off na nb:Nat) (i:Int) (hl:d9 [decide (zs.getD (addO off (T0 i.toNat 1)) (zO2 0) < ys.getD i.toNat (zO2 0))=true,i.toNat < ys.length,(zO2 0<=i∧i < zO2 nb)∧0 < ys.length,(addO off (T0 i.toNat 1)) < zs.length,(zO2 0<=i∧i < zO2 na)∧0 < zs.length,decide (zO2 0<=i)=true]):u7 XW0 gQ (qL zs ys off na nb i) .ret (p1q zs ys off na nb (-1)):=
 stp x9 10 progOk.mixed [true,true] [] (by kernel_rfl) hl
theorem s1j (zs ys:List Int) (off na nb:Nat) (i:Int) (hl:d9 [decide (ys.getD i.toNat (zO2 0) < zs.getD (addO off (T0 i.toNat 1)) (zO2 0))=true,i.toNat < ys.length,(zO2 0<=i∧i < zO2 nb)∧0 < ys.length,(addO off (T0 i.toNat 1)) < zs.length,(zO2 0<=i∧i < zO2 na)∧0 < zs.length,decide (zs.getD (addO off (T0 i.toNat 1)) (zO2 0) < ys.getD i.toNat (zO2 0))=false,i.toNat < ys.length,(zO2 0<=i∧i < zO2 nb)∧0 < ys.length,(addO off (T0 i.toNat 1)) < zs.length,(zO2 0<=i∧i < zO2 na)∧0 < zs.length,decide (zO2 0<=i)=true]):u7 XW0 gQ (qL zs ys off na nb i) .ret (p1q zs ys off na nb 1):=
 stp x9 10 progOk.mixed [true,false,true] [] (by kernel_rfl) hl
theorem u1g (zs ys:List Int) (off na nb:Nat) (i:Int) (hl:d9 [decide (ys.getD i.toNat (zO2 0) < zs.getD (addO off (T0 i.toNat 1)) (zO2 0))=false,i.toNat < ys.length,(zO2 0<=i∧i < zO2 nb)∧0 < ys.length,(addO off (T0 i.toNat 1)) < zs.length,(zO2 0<=i∧i < zO2 na)∧0 < zs.length,decide (zs.getD (addO off (T0 i.toNat 1)) (zO2 0) < ys.getD i.toNat (zO2 0))=false,i.toNat < ys.length,(zO2 0<=i∧i < zO2 nb)∧0 < ys.length,(addO off (T0 i.toNat 1)) < zs.length,(zO2 0<=i∧i < zO2 na)∧0 < zs.length,decide (zO2 0<=i)=true]):u7 XW0 gQ (qL zs ys off na nb i) .normal (qL zs ys off na nb (iI.wrap (i-1))):=
 stp x9 10 progOk.mixed [true,false,false] [] (by kernel_rfl) hl
theorem c2p (zs ys:List Int) (off na nb:Nat) (i:Int) (hl:d9 [decide (zO2 0<=i)=false]):u7 XW0 gQ (qL zs ys off na nb i) (.exit 0) (qL zs ys off na nb i):=
 stp x9 10 progOk.mixed [false] [] (by kernel_rfl) hl
theorem b2y (zs ys L R:List Int) (off n na nb N:Nat) (la c i:Int):A7 XW0 [X4 (.exit 0) (fun _=>n0l zs ys L off na nb N la c i)] 200 154 [wO zs off n,wS ys] [wS R] [] =some [d5 XW0 n0c (o7 XW0 200 154 [wO zs off n,wS ys] []) (.exit 0) (n0l zs ys L off na nb N la c i),zO2 0<=zO2 n∧zO2 n=zO2 n∧zO2 (8*n)<=zO2 281474976710656∧zO2 n<=zO2 9223372036854775807,N=R.length∧N<=L.length∧zO9 N L=R] :=by kernel_rfl
theorem v1q (zs ys L:List Int) (off na nb N:Nat) (la c i:Int) (hl:d9 [i.toNat < L.length,(zO2 0<=i∧i < zO2 N)∧0 < L.length,c.toNat<=1,(addO off (T0 i.toNat 1)) < zs.length,(zO2 0<=i∧i < zO2 na)∧0 < zs.length,i.toNat < ys.length,(zO2 0<=i∧i < zO2 nb)∧0 < ys.length,decide (i < zO2 nb)=true,decide (i < la)=true]):u7 XW0 n0c (n0l zs ys L off na nb N la c i) .normal (n0l zs ys (gU L i.toNat (c0i (zs.getD (addO off i.toNat) 0) (ys.getD i.toNat 0) c)) off na nb N la (f0m (zs.getD (addO off i.toNat) 0) (ys.getD i.toNat 0) c) (iI.wrap (i+1))):=
 stp x9 10 progOk.mixed [true,true] [] (by kernel_rfl) hl
theorem i2b (zs ys L:List Int) (off na nb N:Nat) (la c i:Int) (hl:d9 [i.toNat < L.length,(zO2 0<=i∧i < zO2 N)∧0 < L.length,c.toNat<=1,(addO off (T0 i.toNat 1)) < zs.length,(zO2 0<=i∧i < zO2 na)∧0 < zs.length,decide (i < zO2 nb)=false,decide (i < la)=true]):u7 XW0 n0c (n0l zs ys L off na nb N la c i) .normal (n0l zs ys (gU L i.toNat (c0i (zs.getD (addO off i.toNat) 0) 0 c)) off na nb N la (f0m (zs.getD (addO off i.toNat) 0) 0 c) (iI.wrap (i+1))):=
 stp x9 10 progOk.mixed [true,false] [] (by kernel_rfl) hl
theorem b2q (zs ys L:List Int) (off na nb N:Nat) (la c i:Int) (hl:d9 [decide (i < la)=false]):u7 XW0 n0c (n0l zs ys L off na nb N la c i) (.exit 0) (n0l zs ys L off na nb N la c i):=
 stp x9 10 progOk.mixed [false] [] (by kernel_rfl) hl
abbrev part (zs:List Int) (off n:Nat):List Int:=(zs.drop off).take n
theorem kA {zs:List Int} {off n:Nat} (h:off+n<=zs.length):(part zs off n).length=n:=by
 unfold part
 rw [A9,D5]
 omega
theorem cB {zs:List Int} {off n m:Nat} (hm:m < n):(part zs off n).getD m 0=zs.getD (off+m) 0:=by
 unfold part
 simp [List.getD,List.getElem?_drop,hm]
theorem r0t {zs:List Int} {off n m:Nat} (hm:m < n):zs.getD (addO off (T0 (zO2 m).toNat 1)) (zO2 0)=(part zs off n).getD m 0:=by
 rw [cB hm,G1,cV]
 simp
section
variable (zs ys:List Int) {off n m:Nat} (ho:off+n<=zs.length)
include ho
theorem e1x (hm:m < n) (hy:m < ys.length) (h:(part zs off n).getD m 0 < ys.getD m 0):u7 XW0 gQ (qL zs ys off n ys.length m) .ret (p1q zs ys off n ys.length (-1)):=by
 refine s1l zs ys off n ys.length (zO2 m) ⟨?_,hy,⟨⟨zzA185.2 (n6 _),zzA186.2 hy⟩,by omega⟩,?_,⟨⟨zzA185.2 (n6 _),zzA186.2 hm⟩,by omega⟩,by simp,a7⟩
 ·rw [<- r0t (n:=n) hm] at h
  exact d4 h
 ·show addO off (T0 (zO2 m).toNat 1) < _
  rw [G1,cV]
  simp
  omega
theorem h1f (hm:m < n) (hy:m < ys.length) (h:ys.getD m 0 < (part zs off n).getD m 0):u7 XW0 gQ (qL zs ys off n ys.length m) .ret (p1q zs ys off n ys.length 1):=by
 have ha:addO off (T0 (zO2 m).toNat 1) < zs.length:=by rw [G1,cV]; simp; omega
 have b1:(zO2 0<=zO2 m∧zO2 m < zO2 ys.length)∧0 < ys.length:=⟨⟨zzA185.2 (n6 _),zzA186.2 hy⟩,by omega⟩
 have b2:(zO2 0<=zO2 m∧zO2 m < zO2 n)∧0 < zs.length:=⟨⟨zzA185.2 (n6 _),zzA186.2 hm⟩,by omega⟩
 rw [<- r0t (n:=n) hm] at h
 exact s1j zs ys off n ys.length (zO2 m) ⟨d4 h,hy,b1,ha,b2,b8 (Int.not_lt.2 (Int.le_of_lt h)),hy,b1,ha,b2,by simp,a7⟩
theorem o1r (hm:m < n) (hy:m < ys.length) (h:(part zs off n).getD m 0=ys.getD m 0):u7 XW0 gQ (qL zs ys off n ys.length m) .normal (qL zs ys off n ys.length (iI.wrap ((m:Int)-1))):=by
 have ha:addO off (T0 (zO2 m).toNat 1) < zs.length:=by rw [G1,cV]; simp; omega
 have b1:(zO2 0<=zO2 m∧zO2 m < zO2 ys.length)∧0 < ys.length:=⟨⟨zzA185.2 (n6 _),zzA186.2 hy⟩,by omega⟩
 have b2:(zO2 0<=zO2 m∧zO2 m < zO2 n)∧0 < zs.length:=⟨⟨zzA185.2 (n6 _),zzA186.2 hm⟩,by omega⟩
 rw [<- r0t (n:=n) hm] at h
 have h1:¬ ys.getD m 0 < zs.getD (addO off (T0 (zO2 m).toNat 1)) (zO2 0):=by rw [h]; exact kD _
 have h2:¬ zs.getD (addO off (T0 (zO2 m).toNat 1)) (zO2 0) < ys.getD m 0:=by rw [h]; exact kD _
 exact u1g zs ys off n ys.length (zO2 m) ⟨b8 h1,hy,b1,ha,b2,b8 h2,hy,b1,ha,b2,by simp,a7⟩
theorem d1t (L:List Int) (c:Int) (hm:m < n) (hy:m < ys.length) (hL:n<=L.length) (hc:c.toNat<=1):u7 XW0 n0c (n0l zs ys L off n ys.length n n c m) .normal (n0l zs ys (gU L m (c0i ((part zs off n).getD m 0) (ys.getD m 0) c)) off n ys.length n n (f0m ((part zs off n).getD m 0) (ys.getD m 0) c) (iI.wrap ((m:Int)+1))):=by
 have ha:addO off (T0 (zO2 m).toNat 1) < zs.length:=by rw [G1,cV]; simp; omega
 have b2:(zO2 0<=zO2 m∧zO2 m < zO2 n)∧0 < zs.length:=⟨⟨zzA185.2 (n6 _),zzA186.2 hm⟩,by omega⟩
 have b3:(zO2 0<=zO2 m∧zO2 m < zO2 n)∧0 < L.length:=⟨⟨zzA185.2 (n6 _),zzA186.2 hm⟩,by omega⟩
 have:=v1q zs ys L off n ys.length n n c (zO2 m) ⟨(by simp; omega),b3,hc,ha,b2,hy,⟨⟨zzA185.2 (n6 _),zzA186.2 hy⟩,by omega⟩,d4 (zzA186.2 hy),d4 (zzA186.2 hm),a7⟩
 rw [show addO off (zO2 m).toNat=off+m by rw [G1]; rfl,<- cB (zs:=zs) (off:=off) hm] at this
 exact this
theorem w1m (L:List Int) (c:Int) (hm:m < n) (hy:ys.length<=m) (hL:n<=L.length) (hc:c.toNat<=1):u7 XW0 n0c (n0l zs ys L off n ys.length n n c m) .normal (n0l zs ys (gU L m (c0i ((part zs off n).getD m 0) 0 c)) off n ys.length n n (f0m ((part zs off n).getD m 0) 0 c) (iI.wrap ((m:Int)+1))):=by
 have ha:addO off (T0 (zO2 m).toNat 1) < zs.length:=by rw [G1,cV]; simp; omega
 have b2:(zO2 0<=zO2 m∧zO2 m < zO2 n)∧0 < zs.length:=⟨⟨zzA185.2 (n6 _),zzA186.2 hm⟩,by omega⟩
 have b3:(zO2 0<=zO2 m∧zO2 m < zO2 n)∧0 < L.length:=⟨⟨zzA185.2 (n6 _),zzA186.2 hm⟩,by omega⟩
 have:=i2b zs ys L off n ys.length n n c (zO2 m) ⟨(by simp; omega),b3,hc,ha,b2,b8 (by simp; omega),d4 (zzA186.2 hm),a7⟩
 rw [show addO off (zO2 m).toNat=off+m by rw [G1]; rfl,<- cB (zs:=zs) (off:=off) hm] at this
 exact this
end
theorem e0b (zs ys:List Int) (off n:Nat) (x:AX) (s':St) (h:d5 XW0 gQ (qL zs ys off n ys.length (iI.wrap ((n:Int)-1))) x s'):d5 XW0 gQ (o7 XW0 200 153 [wO zs off n,wS ys] [false]) x s':=
 m6 h []
theorem q1b (zs ys:List Int) (off n:Nat) (x:AX) (s':St) (h:d5 XW0 n0c (n0l zs ys (zO6 n 0) off n ys.length n n 0 0) x s'):d5 XW0 n0c (o7 XW0 200 154 [wO zs off n,wS ys] []) x s':=
 m6 h []
theorem i0q {zs xs ys:List Int} {off n:Nat} (ho:off+n<=zs.length) (hxs:xs=part zs off n) (hx:Dg W64 xs) (hy:Dg W64 ys) (h1:n < 1099511627776) (h2:ys.length < 1099511627776):
  Ev.Sem zO7 J0 153 [wO zs off n,wS ys] [.c (.v (.int .i64 (lV xs ys)))] :=by
 obtain rfl:n=xs.length:=by rw [hxs,kA ho]
 by_cases hn:xs.length=ys.length
 case neg=>
  refine l6 x9 10 _ _ (t1h zs ys off xs.length _) ⟨by simp; omega,?_,a7⟩
  unfold lV
  rw [b9 hn]
  have:=F9 ((xs.length:Int)-ys.length)
  congr 1
  simp only [y3]
  omega
 have hw:∀ m:Nat,m < xs.length->iI.wrap (((m+1:Nat):Int)-1)=(m:Int):=fun m hm=>by
  have:=n7 (n:=m) (by omega)
  rw [<- this]
  congr 1
  omega
 have hw1:iI.wrap ((xs.length:Int)-1)=(xs.length:Int)-1:=by
  have:=F9 ((xs.length:Int)-1)
  omega
 have hws:∀ m:Nat,m < xs.length->iI.wrap ((m:Int)-1)=(m:Int)-1:=fun m hm=>by
  have:=F9 ((m:Int)-1)
  omega
 have step:∀ m,m < xs.length->xs.drop (m+1)=ys.drop (m+1)->
   (val W64 xs < val W64 ys∧u7 XW0 gQ (qL zs ys off xs.length ys.length m) .ret (p1q zs ys off xs.length ys.length (-1)))∨
   (val W64 ys < val W64 xs∧u7 XW0 gQ (qL zs ys off xs.length ys.length m) .ret (p1q zs ys off xs.length ys.length 1))∨
   (xs.drop m=ys.drop m∧u7 XW0 gQ (qL zs ys off xs.length ys.length m) .normal (qL zs ys off xs.length ys.length ((m:Int)-1))):=by
  intro m hm hd
  rcases Int.lt_trichotomy (xs.getD m 0) (ys.getD m 0) with h | h | h
  ·exact .inl ⟨e0u hx hm (by omega) hd h,by rw [hxs] at h; exact e1x zs ys ho hm (by omega) h⟩
  ·right; right
   refine⟨by rw [C5 (l:=xs) (m:=m) hm,C5 (l:=ys) (m:=m) (by omega),h,hd],?_⟩
   have:=o1r zs ys ho hm (by omega) (by rw [<- hxs]; exact h)
   rw [hws m hm] at this
   exact this
  ·exact .inr (.inl ⟨e0u hy (by omega) hm hd.symm h,by rw [hxs] at h; exact h1f zs ys ho hm (by omega) h⟩)
 have good:∀ m,m<=xs.length->xs.drop m=ys.drop m->
   (val W64 xs < val W64 ys∧d5 XW0 gQ (qL zs ys off xs.length ys.length ((m:Int)-1)) .ret (p1q zs ys off xs.length ys.length (-1)))∨
   (val W64 ys < val W64 xs∧d5 XW0 gQ (qL zs ys off xs.length ys.length ((m:Int)-1)) .ret (p1q zs ys off xs.length ys.length 1))∨
   (xs=ys∧d5 XW0 gQ (qL zs ys off xs.length ys.length ((m:Int)-1)) (.exit 0) (qL zs ys off xs.length ys.length (-1))):=by
  intro m hm hd
  rcases aR (val W64 xs) (val W64 ys) with h | h | h
  ·refine .inl ⟨h,?_⟩
   refine G3 (fun m:Nat=>qL zs ys off xs.length ys.length ((m:Int)-1)) id (fun m=>m<=xs.length∧xs.drop m=ys.drop m) (by intro e; cases e) (fun k hk=> ?_) m ⟨hm,hd⟩
   cases k with
   | zero=>
    have:xs=ys:=by simpa using hk.2
    rw [this] at h
    omega
   | succ k=>
    have e:(((k+1:Nat):Int)-1)=(k:Int):=by omega
    simp only [e]
    rcases step k (by omega) hk.2 with ⟨_,s⟩ | ⟨q,_⟩ | ⟨q,s⟩
    ·exact .inr s
    ·omega
    ·exact .inl ⟨k,⟨by omega,q⟩,aX _,s⟩
  ·refine .inr (.inr ?_)
   have he:=f0q g9 hx hy hn h
   refine⟨he,?_⟩
   refine G3 (fun m:Nat=>qL zs ys off xs.length ys.length ((m:Int)-1)) id (fun m=>m<=xs.length∧xs.drop m=ys.drop m) (by intro e; cases e) (fun k hk=> ?_) m ⟨hm,hd⟩
   cases k with
   | zero=>
    right
    exact c2p zs ys off xs.length ys.length (-1) ⟨by decide,a7⟩
   | succ k=>
    have e:(((k+1:Nat):Int)-1)=(k:Int):=by omega
    simp only [e]
    rcases step k (by omega) hk.2 with ⟨q,_⟩ | ⟨q,_⟩ | ⟨q,s⟩
    ·omega
    ·omega
    ·exact .inl ⟨k,⟨by omega,q⟩,aX _,s⟩
  ·refine .inr (.inl ⟨h,?_⟩)
   refine G3 (fun m:Nat=>qL zs ys off xs.length ys.length ((m:Int)-1)) id (fun m=>m<=xs.length∧xs.drop m=ys.drop m) (by intro e; cases e) (fun k hk=> ?_) m ⟨hm,hd⟩
   cases k with
   | zero=>
    have:xs=ys:=by simpa using hk.2
    rw [this] at h
    omega
   | succ k=>
    have e:(((k+1:Nat):Int)-1)=(k:Int):=by omega
    simp only [e]
    rcases step k (by omega) hk.2 with ⟨q,_⟩ | ⟨_,s⟩ | ⟨q,s⟩
    ·omega
    ·exact .inr s
    ·exact .inl ⟨k,⟨by omega,q⟩,aX _,s⟩
 have hne:((xs.length:Int) !=ys.length)=false:=by simp [hn]
 rcases good xs.length (d7 _) (by rw [List.drop_length,hn,List.drop_length]) with ⟨h,s⟩ | ⟨h,s⟩ | ⟨h,s⟩
 ·rw [<- hw1] at s
  refine l6 x9 10 _ _ (x0t zs ys off _ _ _ (-1) _) ⟨e0b zs ys off _ _ _ s,hne,?_,a7⟩
  unfold lV
  rw [a6 (by simp [hn]),b9 h]
 ·rw [<- hw1] at s
  refine l6 x9 10 _ _ (x0t zs ys off _ _ _ 1 _) ⟨e0b zs ys off _ _ _ s,hne,?_,a7⟩
  unfold lV
  rw [a6 (by simp [hn]),a6 (by omega),b9 h]
 ·rw [<- hw1] at s
  refine l6 x9 10 _ _ (v1w zs ys off _ _ _ (-1) _) ⟨e0b zs ys off _ _ _ s,hne,?_,a7⟩
  unfold lV
  rw [a6 (by simp [hn]),a6 (by rw [h]; omega),a6 (by rw [h]; omega)]
  rfl
theorem z0m {zs xs ys:List Int} {off n:Nat} (ho:off+n<=zs.length) (hxs:xs=part zs off n) (hx:Dg W64 xs) (hy:Dg W64 ys) (hle:val W64 ys<=val W64 xs) (h1:n < 1099511627776) (h2:ys.length<=n):
  Ev.Sem zO7 J0 154 [wO zs off n,wS ys] [wS (Q3 xs ys)] :=by
 unfold Q3
 obtain rfl:n=xs.length:=by rw [hxs,kA ho]
 obtain⟨hg,hi⟩:=bZ hx hy xs.length xs.length (d7 _)
 have hlast:=zT hx hy (d7 _) h2 hle hg hi
 have hL:d5 XW0 n0c (n0l zs ys (zO6 xs.length 0) off xs.length ys.length xs.length xs.length 0 0) (.exit 0)
   (n0l zs ys (itr (qC xs ys) xs.length (P4 xs.length)).L off xs.length ys.length xs.length xs.length (itr (qC xs ys) xs.length (P4 xs.length)).c xs.length):=by
  refine A8 (fun k=>n0l zs ys (itr (qC xs ys) k (P4 xs.length)).L off xs.length ys.length xs.length xs.length (itr (qC xs ys) k (P4 xs.length)).c k) xs.length (by intro e; cases e) (fun k hk=> ?_)
   (b2q zs ys _ off xs.length ys.length xs.length _ _ xs.length ⟨by simp,a7⟩)
  obtain⟨hg,hi⟩:=bZ hx hy xs.length k (by omega)
  simp only [itr]
  generalize itr (qC xs ys) k (P4 xs.length)=s at*
  obtain⟨h1',h2',h3,h4,h5,h6,h7⟩:=hg
  have hw:=K8 (n:=k) (by omega)
  subst hi
  by_cases hlt2:s.i < ys.length
  ·have:=d1t zs ys ho s.L s.c hk hlt2 (by omega) (by omega)
   rw [hw,<- hxs] at this
   exact this
  ·have:=w1m zs ys ho s.L s.c hk (by omega) (by omega) (by omega)
   rw [hw,<- hxs] at this
   unfold qC
   rw [aK (l:=ys) (i:=s.i) (by omega)]
   exact this
 refine l6 x9 10 _ _ (b2y zs ys _ _ off xs.length _ _ _ _ _ _) ⟨q1b zs ys off _ _ _ hL,⟨by simp,rfl,?_,?_⟩,⟨?_,?_,?_⟩,a7⟩
 ·exact zzA185.2 (by omega)
 ·exact zzA185.2 (by omega)
 ·rw [r7]
 ·rw [hg.2.1]; exact d7 _
 ·rw [hlast]
  exact aT (by rw [r7]; exact d7 _)
abbrev shO:AS:= .c (.o .u64)
abbrev iW (neg:Bool) (xs:List Int):Arg:= .a [.v (.bool neg), .s Z8 .u64 xs]
def Cn (xs:List Int):Prop:=xs=ws W64 (val W64 xs)
def D4 (xs ys:List Int):List Int:=ws W64 (val W64 xs*val W64 ys)
def e0l (a b:Bool) (xs ys:List Int):List Int:=ws W64 (s1t a b (val W64 xs) (val W64 ys))
def k2o (a b:Bool) (xs ys:List Int):Bool:=x1g a b (val W64 xs) (val W64 ys)
def s1e (xs:List Int) (d:Int):List Int:=ws W64 (val W64 xs/d.toNat)
def q0c (xs:List Int) (d:Int):Int:=((val W64 xs%d.toNat:Nat):Int)
def m5 (xs:List Int) (n:Int):List Int:=ws W64 (val W64 xs*2 ^n.toNat)
def l1n (xs:List Int) (n:Int):List Int:=ws W64 (val W64 xs/2 ^n.toNat)
def s6 (n:Int):List Int:=ws W64 n.toNat
def wB (a:Bool) (xs:List Int):Bool:=a && decide (0 < val W64 xs)
theorem Cn.ws (m:Nat):Cn (Wd.ws W64 m):=by unfold Cn; rw [s7]
def qW:List Arg->Option (List Arg×List Prop)
 | [.c (.v (.int .u64 n))] =>some ([iW false (s6 n)],[0<=n∧n.toNat < W64])
 | _=>none
def g0c:List Arg->Option (List Arg×List Prop)
 | [.a [.v (.bool a), .s 39 .u64 xs], .a [.v (.bool b), .s 39 .u64 ys]] =>some ([iW (wB (a !=b) (D4 xs ys)) (D4 xs ys)],[Cn xs,Cn ys,xs.length < 274877906944,ys.length < 274877906944])
 | _=>none
def p0h:List Arg->Option (List Arg×List Prop)
 | [.a [.v (.bool a), .s 39 .u64 xs], .a [.v (.bool b), .s 39 .u64 ys]] =>some ([iW (k2o a b xs ys) (e0l a b xs ys)],[Cn xs,Cn ys,xs.length < 549755813888,ys.length < 549755813888])
 | _=>none
def uA:List Arg->Option (List Arg×List Prop)
 | [.a [.v (.bool _), .s 39 .u64 xs], .c (.v (.int .u64 d))] =>some ([iW false (s1e xs d),uR (q0c xs d)],[Cn xs,xs.length < 549755813888,0 < d∧d.toNat < W64])
 | _=>none
def c0j:List Arg->Option (List Arg×List Prop)
 | [.a [.v (.bool a), .s 39 .u64 xs], .c (.v (.int .i64 n))] =>some ([iW (wB a (m5 xs n)) (m5 xs n)],[Cn xs,xs.length < 549755813888,0<=n∧n.toNat < 549755813888])
 | _=>none
def vI:List Arg->Option (List Arg×List Prop)
 | [.a [.v (.bool a), .s 39 .u64 xs], .c (.v (.int .i64 n))] =>some ([iW (wB a (l1n xs n)) (l1n xs n)],[Cn xs,xs.length < 549755813888,0<=n∧n.toNat < 64])
 | _=>none
def c0g:List Arg->Option (List Arg×List Prop)
 | [.a [.v (.bool a), .s 39 .u64 xs]] =>some ([iR (b2h a (val W64 xs))],[Cn xs])
 | _=>none
def bT:List Arg->Option (List Arg×List Prop)
 | [.c (.o .u64 zs off n), .c (.s 39 .u64 ys)] =>some ([.c (.v (.int .i64 (lV (part zs off n) ys)))],[off+n<=zs.length,Dg W64 zs,Dg W64 ys,n < 1099511627776,ys.length < 1099511627776])
 | _=>none
def mO:List Arg->Option (List Arg×List Prop)
 | [.c (.o .u64 zs off n), .c (.s 39 .u64 ys)] =>some ([wS (Q3 (part zs off n) ys)],[off+n<=zs.length,Dg W64 zs,Dg W64 ys,val W64 ys<=val W64 (part zs off n),n < 1099511627776,ys.length<=n])
 | _=>none
theorem tC:∀ az rs l,qW az=some (rs,l)->d9 l->Ev.Sem zO7 J0 89 az rs:=by
 intro az rs l h hl
 unfold qW at h
 split at h
 ·cases h
  rename_i n
  obtain⟨⟨h1,h2⟩,_⟩:=hl
  have:=s1d n.toNat h2
  rw [W3 h1] at this
  exact this
 ·cases h
theorem a0i:∀ az rs l,g0c az=some (rs,l)->d9 l->Ev.Sem zO7 J0 92 az rs:=by
 intro az rs l h hl
 unfold g0c at h
 split at h
 ·cases h
  rename_i a xs b ys
  obtain⟨h1,h2,h3,h4,_⟩:=hl
  unfold Cn at h1 h2
  have:=c2d a b (A:=val W64 xs) (B:=val W64 ys) (by unfold wl; rw [<- h1]; exact h3) (by unfold wl; rw [<- h2]; exact h4)
  unfold iN at this
  rw [<- h1,<- h2] at this
  unfold wB D4
  rw [s7]
  exact this
 ·cases h
theorem a1f:∀ az rs l,p0h az=some (rs,l)->d9 l->Ev.Sem zO7 J0 97 az rs:=by
 intro az rs l h hl
 unfold p0h at h
 split at h
 ·cases h
  rename_i a xs b ys
  obtain⟨h1,h2,h3,h4,_⟩:=hl
  unfold Cn at h1 h2
  have:=c2z a b (A:=val W64 xs) (B:=val W64 ys) (by unfold wl; rw [<- h1]; exact h3) (by unfold wl; rw [<- h2]; exact h4)
  unfold iN at this
  rw [<- h1,<- h2] at this
  exact this
 ·cases h
theorem m0w:∀ az rs l,uA az=some (rs,l)->d9 l->Ev.Sem zO7 J0 145 az rs:=by
 intro az rs l h hl
 unfold uA at h
 split at h
 ·cases h
  rename_i a xs d
  obtain⟨h1,h3,⟨h4,h5⟩,_⟩:=hl
  unfold Cn at h1
  have:=d1m a (A:=val W64 xs) (d:=d.toNat) (by unfold wl; rw [<- h1]; exact h3) (by omega) h5
  unfold iN at this
  rw [<- h1,W3 (Int.le_of_lt h4)] at this
  exact this
 ·cases h
theorem o0a:∀ az rs l,c0j az=some (rs,l)->d9 l->Ev.Sem zO7 J0 90 az rs:=by
 intro az rs l h hl
 unfold c0j at h
 split at h
 ·cases h
  rename_i a xs n
  obtain⟨h1,h3,⟨h4,h5⟩,_⟩:=hl
  unfold Cn at h1
  have:=t1y a (A:=val W64 xs) (n:=n.toNat) (by unfold wl; rw [<- h1]; exact h3) h5
  unfold iN at this
  rw [<- h1,W3 h4] at this
  unfold wB m5
  rw [s7]
  exact this
 ·cases h
theorem h0f:∀ az rs l,vI az=some (rs,l)->d9 l->Ev.Sem zO7 J0 197 az rs:=by
 intro az rs l h hl
 unfold vI at h
 split at h
 ·cases h
  rename_i a xs n
  obtain⟨h1,h3,⟨h4,h5⟩,_⟩:=hl
  unfold Cn at h1
  have:=e1g a (A:=val W64 xs) (n:=n.toNat) (by unfold wl; rw [<- h1]; exact h3) h5
  unfold iN at this
  rw [<- h1,W3 h4] at this
  unfold wB l1n
  rw [s7]
  exact this
 ·cases h
theorem r0f:∀ az rs l,c0g az=some (rs,l)->d9 l->Ev.Sem zO7 J0 151 az rs:=by
 intro az rs l h hl
 unfold c0g at h
 split at h
 ·cases h
  rename_i a xs
  obtain⟨h1,_⟩:=hl
  unfold Cn at h1
  have:=s1r a (val W64 xs)
  unfold iN at this
  rw [<- h1] at this
  exact this
 ·cases h
theorem d0i {zs:List Int} (h:Dg W64 zs) (off n:Nat):Dg W64 (part zs off n):=(h.drop _).take _
theorem sJ:∀ az rs l,bT az=some (rs,l)->d9 l->Ev.Sem zO7 J0 153 az rs:=by
 intro az rs l h hl
 unfold bT at h
 split at h
 ·cases h
  rename_i zs off n ys
  obtain⟨h1,h2,h3,h4,h5,_⟩:=hl
  exact i0q h1 rfl (d0i h2 _ _) h3 h4 h5
 ·cases h
theorem d0s:∀ az rs l,mO az=some (rs,l)->d9 l->Ev.Sem zO7 J0 154 az rs:=by
 intro az rs l h hl
 unfold mO at h
 split at h
 ·cases h
  rename_i zs off n ys
  obtain⟨h1,h2,h3,h4,h5,h6,_⟩:=hl
  exact z0m h1 rfl (d0i h2 _ _) h3 h4 h5 h6
 ·cases h
def y1s:iG:=m4 143 kM (m4 89 (z6 [shV] qW) (m4 92 (z6 [shI,shI] g0c)
 (m4 153 (z6 [shO,shW] bT) (m4 154 (z6 [shO,shW] mO) F4))))
theorem i1u:iD zO7 J0 y1s:=d8 gT (d8 (l7 _ tC) (d8 (l7 _ a0i) (d8 (l7 _ sJ) (d8 (l7 _ d0s) (n9 _ _)))))
def bW5:Base:=⟨zO7,J0,false,a1l,y1s,200,I6⟩
theorem x0o:BaseOk bW5:=⟨progOk,jL,i1u,m0⟩
abbrev XW5:Cx:=bW5.cx 10
def t1u:Code:=D3 zO7 196 0
abbrev z1u (off m n:Nat):List Value:=[.slice (some ⟨11,off,some 12⟩) m off,slV 13 n]
abbrev g1o (zs ys:List Int):Heap:=[(11, .row Z8 1 (.ints .u64 zs) 12),(13, .ints .u64 ys)]
def i2h (zs ys:List Int) (off m n:Nat) (q:Int):St:=⟨only 58 [(0, .slice (some ⟨11,off,some 12⟩) m off),(1,slV 13 n),(6, .int .u64 q)],g1o zs ys,15,[],[],0,none,[],15⟩
def g2v (zs ys:List Int) (r:Int):St:=⟨only 58 [(4, .int .u64 r)],g1o zs ys,15,[],[],0,none,[],15⟩
def t0b (ys:List Int) (q:Int):List Int:=(D4 ((s6 q).take (s6 q).length) ys).take (D4 ((s6 q).take (s6 q).length) ys).length
def j2l (zs ys:List Int) (off m:Nat) (q:Int):List Int:=Q3 (part zs off m) (t0b ys q)
def w0l (zs ys:List Int) (off m:Nat) (q:Int):List Int:=zs.take off++((j2l zs ys off m q).drop 0).take (j2l zs ys off m q).length++zs.drop (off+(j2l zs ys off m q).length)
theorem t1x (zs ys:List Int) (off m n:Nat) (q:Int) (hl:d9 [0 < (Q3 (part zs off m) (zO9 (D4 (zO9 (s6 q).length (s6 q)) ys).length (D4 (zO9 (s6 q).length (s6 q)) ys))).length∧(Q3 (part zs off m) (zO9 (D4 (zO9 (s6 q).length (s6 q)) ys).length (D4 (zO9 (s6 q).length (s6 q)) ys))).length<=m∧off+(Q3 (part zs off m) (zO9 (D4 (zO9 (s6 q).length (s6 q)) ys).length (D4 (zO9 (s6 q).length (s6 q)) ys))).length<=zs.length∧0+(Q3 (part zs off m) (zO9 (D4 (zO9 (s6 q).length (s6 q)) ys).length (D4 (zO9 (s6 q).length (s6 q)) ys))).length<=(Q3 (part zs off m) (zO9 (D4 (zO9 (s6 q).length (s6 q)) ys).length (D4 (zO9 (s6 q).length (s6 q)) ys))).length,off+m<=zs.length,(D4 (zO9 (s6 q).length (s6 q)) ys).length<=(D4 (zO9 (s6 q).length (s6 q)) ys).length,off+m<=zs.length,Dg 18446744073709551616 zs,Dg 18446744073709551616 (zO9 (D4 (zO9 (s6 q).length (s6 q)) ys).length (D4 (zO9 (s6 q).length (s6 q)) ys)),val 18446744073709551616 (zO9 (D4 (zO9 (s6 q).length (s6 q)) ys).length (D4 (zO9 (s6 q).length (s6 q)) ys))<=val 18446744073709551616 (part zs off m),m < 1099511627776,(zO9 (D4 (zO9 (s6 q).length (s6 q)) ys).length (D4 (zO9 (s6 q).length (s6 q)) ys)).length<=m,decide (zO2 0<=lV (part zs off (m9 (zO9 m (List.drop off zs))).length) (zO9 (D4 (zO9 (s6 q).length (s6 q)) ys).length (D4 (zO9 (s6 q).length (s6 q)) ys)))=true,off+(m9 (zO9 m (List.drop off zs))).length<=zs.length,(D4 (zO9 (s6 q).length (s6 q)) ys).length<=(D4 (zO9 (s6 q).length (s6 q)) ys).length,off+(m9 (zO9 m (List.drop off zs))).length<=zs.length,Dg 18446744073709551616 zs,Dg 18446744073709551616 (zO9 (D4 (zO9 (s6 q).length (s6 q)) ys).length (D4 (zO9 (s6 q).length (s6 q)) ys)),(m9 (zO9 m (List.drop off zs))).length < 1099511627776,(zO9 (D4 (zO9 (s6 q).length (s6 q)) ys).length (D4 (zO9 (s6 q).length (s6 q)) ys)).length < 1099511627776,off=off∧off+m<=zs.length∧zs.length < 1099511627776,(s6 q).length<=(s6 q).length,n=ys.length,Cn (zO9 (s6 q).length (s6 q)),Cn ys,(zO9 (s6 q).length (s6 q)).length < 274877906944,ys.length < 274877906944,zO2 0<=q∧q.toNat < 18446744073709551616]):u7 XW5 t1u (i2h zs ys off m n q) .ret (g2v (w0l zs ys off m q) ys q):=
 stp x0o 10 progOk.mixed [true] [] (by kernel_rfl) hl
theorem v1f (zs ys:List Int) (off m n:Nat) (q:Int) (hl:d9 [decide (zO2 0<=lV (part zs off (m9 (zO9 m (List.drop off zs))).length) (zO9 (D4 (zO9 (s6 q).length (s6 q)) ys).length (D4 (zO9 (s6 q).length (s6 q)) ys)))=false,off+(m9 (zO9 m (List.drop off zs))).length<=zs.length,(D4 (zO9 (s6 q).length (s6 q)) ys).length<=(D4 (zO9 (s6 q).length (s6 q)) ys).length,off+(m9 (zO9 m (List.drop off zs))).length<=zs.length,Dg 18446744073709551616 zs,Dg 18446744073709551616 (zO9 (D4 (zO9 (s6 q).length (s6 q)) ys).length (D4 (zO9 (s6 q).length (s6 q)) ys)),(m9 (zO9 m (List.drop off zs))).length < 1099511627776,(zO9 (D4 (zO9 (s6 q).length (s6 q)) ys).length (D4 (zO9 (s6 q).length (s6 q)) ys)).length < 1099511627776,off=off∧off+m<=zs.length∧zs.length < 1099511627776,(s6 q).length<=(s6 q).length,n=ys.length,Cn (zO9 (s6 q).length (s6 q)),Cn ys,(zO9 (s6 q).length (s6 q)).length < 274877906944,ys.length < 274877906944,zO2 0<=q∧q.toNat < 18446744073709551616]):u7 XW5 t1u (i2h zs ys off m n q) .normal (i2h zs ys off m n (uI.wrap (q-1))):=
 stp x0o 10 progOk.mixed [false] [] (by kernel_rfl) hl
theorem e1r (zs ys zs':List Int) (off m n:Nat) (r:Int):y0f XW5 [X4 .ret (fun _=>g2v zs' ys r)] 200 196 (z1u off m n) (g1o zs ys) 15 [true] =some { v:=zO3 uI r,h:=[(11,AObj.row Z8 1 (Row.ints uI zs') 12),(13,AObj.ints uI ys)],n:=15,obs:=[d5 XW5 t1u (u9 XW5 200 196 (z1u off m n) (g1o zs ys) 15 [true]) .ret (g2v zs' ys r),(zO2 0<=zs.getD (addO off n) (zO2 0)∧zs.getD (addO off n) (zO2 0) < ys.getD (addO 0 (iI.wrap (zO2 n-zO2 1)).toNat) (zO2 0))∧(zO2 0<=zs.getD (addO off (iI.wrap (zO2 n-zO2 1)).toNat) (zO2 0)∧zs.getD (addO off (iI.wrap (zO2 n-zO2 1)).toNat) (zO2 0) < zO2 18446744073709551616)∧ys.getD (addO 0 (iI.wrap (zO2 n-zO2 1)).toNat) (zO2 0) < zO2 18446744073709551616,addO 0 (iI.wrap (zO2 n-zO2 1)).toNat < ys.length,(zO2 0<=iI.wrap (zO2 n-zO2 1)∧iI.wrap (zO2 n-zO2 1) < zO2 n)∧0 < ys.length,addO off (iI.wrap (zO2 n-zO2 1)).toNat < zs.length,(zO2 0<=iI.wrap (zO2 n-zO2 1)∧iI.wrap (zO2 n-zO2 1) < zO2 m)∧0 < zs.length,addO off n < zs.length,(zO2 0<=zO2 n∧zO2 n < zO2 m)∧0 < zs.length,decide (zs.getD (addO off n) (zO2 0) < ys.getD (addO 0 (iI.wrap (zO2 n-zO2 1)).toNat) (zO2 0))=true,addO 0 (iI.wrap (zO2 n-zO2 1)).toNat < ys.length,(zO2 0<=iI.wrap (zO2 n-zO2 1)∧iI.wrap (zO2 n-zO2 1) < zO2 n)∧0 < ys.length,addO off n < zs.length,(zO2 0<=zO2 n∧zO2 n < zO2 m)∧0 < zs.length],ds:=[]} :=by kernel_rfl
theorem g2w (zs ys zs':List Int) (off m n:Nat) (r:Int):y0f XW5 [X4 .ret (fun _=>g2v zs' ys r)] 200 196 (z1u off m n) (g1o zs ys) 15 [false] =some { v:=zO3 uI r,h:=[(11,AObj.row Z8 1 (Row.ints uI zs') 12),(13,AObj.ints uI ys)],n:=15,obs:=[d5 XW5 t1u (u9 XW5 200 196 (z1u off m n) (g1o zs ys) 15 [false]) .ret (g2v zs' ys r),decide (zs.getD (addO off n) (zO2 0) < ys.getD (addO 0 (iI.wrap (zO2 n-zO2 1)).toNat) (zO2 0))=false,addO 0 (iI.wrap (zO2 n-zO2 1)).toNat < ys.length,(zO2 0<=iI.wrap (zO2 n-zO2 1)∧iI.wrap (zO2 n-zO2 1) < zO2 n)∧0 < ys.length,addO off n < zs.length,(zO2 0<=zO2 n∧zO2 n < zO2 m)∧0 < zs.length],ds:=[]} :=by kernel_rfl
theorem Cn.dg {xs:List Int} (h:Cn xs):Dg W64 xs:=by
 unfold Cn at h
 rw [h]
 exact g0t _
theorem l1s (ys:List Int) (k:Nat):t0b ys (k:Int)=ws W64 (k*val W64 ys):=by
 unfold t0b s6 D4
 rw [y5,y5,i8,s7]
theorem d1h {zs:List Int} (hz:Dg W64 zs) (off m:Nat):part zs off (m9 (zO9 m (List.drop off zs))).length=ws W64 (val W64 (part zs off m)):=by
 have h:=K9 C4 (d0i hz off m)
 have h1:=(J7 h).2.2
 have h2:(m9 (part zs off m)).length<=m:=x7 (C3 _) (by unfold part; rw [A9]; exact Nat.min_le_left _ _)
 unfold part at h1 h2 ⊢
 rw [List.take_take,B2 h2] at h1
 exact h1
section
variable {zs ys:List Int} {off n:Nat} (ho:off+(n+1)<=zs.length) (hzl:zs.length < 1099511627776) (hz:Dg W64 zs) (hy:Cn ys) (hn:n=ys.length) (hnl:ys.length < 274877906944) (hD:0 < val W64 ys)
 (hN:val W64 (part zs off (n+1)) < val W64 ys*W64)
include ho hzl hz hy hn hnl hD hN
theorem y0b {k:Nat} (hk:val W64 (part zs off (n+1))/val W64 ys<=k) (hkW:k < W64):
  d5 XW5 t1u (i2h zs ys off (n+1) n k) .ret (g2v (w0l zs ys off (n+1) ((val W64 (part zs off (n+1))/val W64 ys:Nat):Int)) ys ((val W64 (part zs off (n+1))/val W64 ys:Nat):Int)):=by
 have _:=hN
 have hDn:=P6 g9 hy.dg
 rw [<- hn] at hDn
 generalize hNe:val W64 (part zs off (n+1))=N at*
 refine G3 (fun k:Nat=>i2h zs ys off (n+1) n k) id (fun k=>N/val W64 ys<=k∧k < W64) (by intro e; cases e) (fun k hk=> ?_) k ⟨hk,hkW⟩
 obtain⟨h1,h2⟩:=hk
 have hP:k*val W64 ys < W64 ^(n+1):=by
  rw [p9,n4]
  exact Nat.mul_lt_mul'' hDn h2
 have eP:=l1s ys k
 have hPl:(t0b ys k).length<=n+1:=by rw [eP]; exact wl_le.2 hP
 have hPl2:(t0b ys k).length < 1099511627776:=by omega
 have hPd:Dg W64 (t0b ys k):=by rw [eP]; exact g0t _
 have hPv:val W64 (t0b ys k)=k*val W64 ys:=by rw [eP,s7]
 have ht:=d1h hz off (n+1)
 rw [hNe] at ht
 have htl:(m9 (zO9 (n+1) (List.drop off zs))).length<=n+1:=x7 (C3 _) (by rw [A9]; exact Nat.min_le_left _ _)
 have hc:∀ b,decide (k*val W64 ys<=N)=b->decide (zO2 0<=lV (part zs off (m9 (zO9 (n+1) (List.drop off zs))).length) (t0b ys k))=b:=by
  intro b hb
  rw [ht,eP,<- hb]
  exact zzA163.2 (qN N (k*val W64 ys))
 have hcq:Cn (zO9 (s6 (k:Int)).length (s6 (k:Int))):=by
  rw [y5]
  exact Cn.ws _
 have hql:(zO9 (s6 (k:Int)).length (s6 (k:Int))).length < 274877906944:=by
  rw [y5]
  have:wl k<=1:=wl_le.2 (by rw [oY]; exact h2)
  show wl ((k:Int).toNat) < _
  rw [i8]
  omega
 have hk0:zO2 0<=(k:Int)∧((k:Int)).toNat < 18446744073709551616:=⟨by simp,by rw [i8]; exact h2⟩
 by_cases hle:k*val W64 ys<=N
 ·right
  have hke:k=N/val W64 ys:=yN ((bW hD).2 hle) h1
  rw [<- hke]
  have hlen:(Q3 (part zs off (n+1)) (t0b ys k)).length=n+1:=by
   unfold Q3
   rw [r7,kA ho]
  refine t1x zs ys off (n+1) n k ⟨?_,ho,d7 _,ho,hz,hPd,?_,by omega,hPl,hc _ (d4 hle),by omega,d7 _,by omega,hz,hPd,by omega,hPl2,⟨rfl,ho,hzl⟩,d7 _,hn,hcq,hy,hql,hnl,hk0,a7⟩
  ·show 0 < (Q3 (part zs off (n+1)) (t0b ys k)).length∧(Q3 (part zs off (n+1)) (t0b ys k)).length<=n+1∧off+(Q3 (part zs off (n+1)) (t0b ys k)).length<=zs.length∧0+(Q3 (part zs off (n+1)) (t0b ys k)).length<=(Q3 (part zs off (n+1)) (t0b ys k)).length
   rw [hlen]
   omega
  ·show val W64 (t0b ys k)<=val W64 (part zs off (n+1))
   rw [hPv,hNe]
   exact hle
 ·left
  have hk1:N/val W64 ys < k:=by
   rcases E0 (N/val W64 ys) k with h | h
   ·exact h
   ·exact absurd ((bW hD).1 h) hle
  have hk2:0 < k:=y4 (n6 _) hk1
  refine⟨k-1,⟨Nat.le_sub_one_of_lt hk1,y4 (Nat.sub_le _ _) h2⟩,Nat.sub_lt hk2 Nat.one_pos,?_⟩
  have hw:uI.wrap ((k:Int)-1)=((k-1:Nat):Int):=by
   have h2':k < 18446744073709551616:=h2
   rw [O3]
   clear h1 hk1
   omega
  have:=v1f zs ys off (n+1) n k ⟨hc _ (b8 hle),by omega,d7 _,by omega,hz,hPd,by omega,hPl2,⟨rfl,ho,hzl⟩,d7 _,hn,hcq,hy,hql,hnl,hk0,a7⟩
  rw [hw] at this
  exact this
theorem g1s:w0l zs ys off (n+1) ((val W64 (part zs off (n+1))/val W64 ys:Nat):Int)=zs.take off++dl W64 (n+1) (val W64 (part zs off (n+1))%val W64 ys)++zs.drop (off+(n+1)):=by
 have _:=hzl
 have _:=hz
 have _:=hy
 have _:=hn
 have _:=hnl
 have _:=hD
 have _:=hN
 have hd:j2l zs ys off (n+1) ((val W64 (part zs off (n+1))/val W64 ys:Nat):Int)=dl W64 (n+1) (val W64 (part zs off (n+1))%val W64 ys):=by
  unfold j2l Q3
  rw [l1s,s7,kA ho]
  congr 1
  rw [n4]
  have:=Y1 (val W64 (part zs off (n+1))) (val W64 ys)
  omega
 unfold w0l
 rw [hd,r7,sS]
 congr 2
 exact aT (by rw [r7]; exact d7 _)
end
def c1t (zs ys:List Int) (off m:Nat):Int:=((val W64 (part zs off m)/val W64 ys:Nat):Int)
def l0n (zs ys:List Int) (off m:Nat):List Int:=zs.take off++dl W64 m (val W64 (part zs off m)%val W64 ys)++zs.drop (off+m)
theorem lH {zs:List Int} (ys:List Int) {off m:Nat} (h:off+m<=zs.length):(l0n zs ys off m).length=zs.length:=by
 unfold l0n
 simp only [s9,A9,D5,r7]
 omega
theorem g2j {N D L H l y B W:Nat} (_:0 < B) (hN:N=L+B*(l+W*H)) (hL:L < B) (hD:B*y<=D) (hy:0 < y) (_:0 < D):N/D<=(H*W+l)/y:=by
 rw [bW hy]
 have h1:N/D*D<=N:=Nat.div_mul_le_self N D
 have h2:N/D*(B*y)<=N/D*D:=Y4 _ hD
 have h3:B*(N/D*y)<=N:=by
  have:B*(N/D*y)=N/D*(B*y):=by rw [<- f9,n4 B,f9]
  omega
 have h4:B*(N/D*y) < B*(l+W*H+1):=by
  rw [O6 B (l+W*H) 1]
  omega
 have h5:=yF h4
 rw [n4 H W]
 omega
section
variable {zs ys:List Int} {off n:Nat} (ho:off+(n+1)<=zs.length) (hzl:zs.length < 1099511627776) (hz:Dg W64 zs) (hy:Cn ys) (hn:n=ys.length) (hnl:ys.length < 274877906944) (hD:0 < val W64 ys)
 (hN:val W64 (part zs off (n+1)) < val W64 ys*W64)
include ho hzl hz hy hn hnl hD hN
theorem f1t:0 < n:=by
 have _:=ho
 have _:=hzl
 have _:=hz
 rcases F2 n with h | h
 ·have:ys=[] :=nJ (by omega)
  subst this
  simp [val] at hD
 ·exact h
theorem h2r:val W64 (part zs off (n+1))/val W64 ys < W64:=by
 have _:=ho
 have _:=hzl
 have _:=hz
 have _:=hy
 have _:=hn
 have _:=hnl
 exact (F6 hD).2 (by rw [n4]; exact hN)
theorem e2e (hlt:zs.getD (off+n) 0 < ys.getD (n-1) 0):∃ q:Nat,i2u (zs.getD (off+n) 0) (zs.getD (off+(n-1)) 0) (ys.getD (n-1) 0)=(q:Int)∧val W64 (part zs off (n+1))/val W64 ys<=q∧q < W64:=by
 have hp:=f1t ho hzl hz hy hn hnl hD hN
 have g1:=hz.get g9 (off+n)
 have g2:=hz.get g9 (off+(n-1))
 have g3:=hy.dg.get g9 (n-1)
 refine⟨_,rfl,?_,?_⟩
 ·have hl:=kA ho
  have e1:=y6 W64 (part zs off (n+1)) (n-1) (by omega)
  rw [C5 (l:=part zs off (n+1)) (m:=n-1) (by omega),yZ hp,C5 (l:=part zs off (n+1)) (m:=n) (by omega),k0u (l:=part zs off (n+1)) (i:=n+1) (by omega),cB (by omega),cB (by omega)] at e1
  simp only [val,eQ,E4] at e1
  have e2:=y6 W64 ys (n-1) (by omega)
  rw [C5 (l:=ys) (m:=n-1) (by omega),yZ hp,k0u (l:=ys) (i:=n) (by omega)] at e2
  simp only [val,eQ,E4] at e2
  have e3:=P6 g9 ((d0i hz off (n+1)).take (n-1))
  rw [A9,B2 (by omega)] at e3
  exact g2j (p7 g9) e1 e3 (by rw [e2]; exact Nat.le_add_left _ _) (by omega) hD
 ·have q1:(zs.getD (off+n) 0).toNat+1<=(ys.getD (n-1) 0).toNat:=by omega
  have q2:(zs.getD (off+(n-1)) 0).toNat < 18446744073709551616:=by
   have:((W64:Nat):Int)=18446744073709551616:=rfl
   omega
  rw [F6 (by omega)]
  have q3:=o9 18446744073709551616 q1
  show _ < 18446744073709551616*_
  rw [n4 18446744073709551616]
  omega
theorem i2p:∃ (b:Bool) (r:CR),y0f XW5 [X4 .ret (fun _=>g2v (l0n zs ys off (n+1)) ys (c1t zs ys off (n+1)))] 200 196 (z1u off (n+1) n) (g1o zs ys) 15 [b] =some r∧d9 r.obs∧r.v= .int .u64 (c1t zs ys off (n+1))∧r.h=g1o (l0n zs ys off (n+1)) ys∧r.n=15:=by
 have hp:=f1t ho hzl hz hy hn hnl hD hN
 have hw:iI.wrap (zO2 n-zO2 1)=((n-1:Nat):Int):=by
  have h1:=n7 (n:=n-1) (by omega)
  rw [<- h1]
  congr 1
  simp only [y3]
  omega
 have ea:addO off n=off+n:=G1 _ _
 have eb:addO off (iI.wrap (zO2 n-zO2 1)).toNat=off+(n-1):=by rw [hw,G1,i8]
 have ec:addO 0 (iI.wrap (zO2 n-zO2 1)).toNat=n-1:=by rw [hw,G1,i8,Q6]
 have g1:=hz.get g9 (off+n)
 have g2:=hz.get g9 (off+(n-1))
 have g3:=hy.dg.get g9 (n-1)
 have o1:addO off n < zs.length:=by rw [ea]; omega
 have o2:(zO2 0<=zO2 n∧zO2 n < zO2 (n+1))∧0 < zs.length:=⟨⟨zzA185.2 (n6 _),zzA186.2 (by omega)⟩,by omega⟩
 have o3:addO 0 (iI.wrap (zO2 n-zO2 1)).toNat < ys.length:=by rw [ec]; omega
 have o4:(zO2 0<=iI.wrap (zO2 n-zO2 1)∧iI.wrap (zO2 n-zO2 1) < zO2 n)∧0 < ys.length:=by rw [hw]; exact⟨⟨zzA185.2 (n6 _),zzA186.2 (by omega)⟩,by omega⟩
 have o5:addO off (iI.wrap (zO2 n-zO2 1)).toNat < zs.length:=by rw [eb]; omega
 have o6:(zO2 0<=iI.wrap (zO2 n-zO2 1)∧iI.wrap (zO2 n-zO2 1) < zO2 (n+1))∧0 < zs.length:=by rw [hw]; exact⟨⟨zzA185.2 (n6 _),zzA186.2 (by omega)⟩,by omega⟩
 have into1:∀ x s',d5 XW5 t1u (i2h zs ys off (n+1) n (i2u (zs.getD (addO off n) 0) (zs.getD (addO off (iI.wrap (zO2 n-zO2 1)).toNat) 0) (ys.getD (addO 0 (iI.wrap (zO2 n-zO2 1)).toNat) 0))) x s'->d5 XW5 t1u (u9 XW5 200 196 (z1u off (n+1) n) (g1o zs ys) 15 [true]) x s':=
  fun x s' h=>m6 h []
 have into2:∀ x s',d5 XW5 t1u (i2h zs ys off (n+1) n 18446744073709551615) x s'->d5 XW5 t1u (u9 XW5 200 196 (z1u off (n+1) n) (g1o zs ys) 15 [false]) x s':=
  fun x s' h=>m6 h []
 have eL:=g1s ho hzl hz hy hn hnl hD hN
 by_cases hlt:zs.getD (off+n) 0 < ys.getD (n-1) 0
 ·obtain⟨q,e1,e2,e3⟩:=e2e ho hzl hz hy hn hnl hD hN hlt
  refine⟨true,_,e1r zs ys (l0n zs ys off (n+1)) off (n+1) n (c1t zs ys off (n+1)),⟨into1 _ _ ?_,?_,o3,o4,o5,o6,o1,o2,?_,o3,o4,o1,o2,a7⟩,rfl,rfl,rfl⟩
  ·rw [ea,eb,ec,e1]
   have:=y0b ho hzl hz hy hn hnl hD hN e2 e3
   rw [eL] at this
   exact this
  ·rw [ea,eb,ec]
   exact⟨⟨g1.1,hlt⟩,⟨g2.1,g2.2⟩,g3.2⟩
  ·rw [ea,ec]
   exact d4 hlt
 ·refine⟨false,_,g2w zs ys (l0n zs ys off (n+1)) off (n+1) n (c1t zs ys off (n+1)),⟨into2 _ _ ?_,?_,o3,o4,o1,o2,a7⟩,rfl,rfl,rfl⟩
  ·have hlim:=h2r ho hzl hz hy hn hnl hD hN
   have:=y0b ho hzl hz hy hn hnl hD hN (k:=18446744073709551615) (Nat.le_of_lt_succ hlim) (by decide)
   rw [eL] at this
   exact this
  ·rw [ea,ec]
   exact b8 hlt
end
theorem s0g {P:Program} {B:Nat} {M:Nat->Prop} {ρ:Num} {H:Heap} {w w':World} (h:Sim P B M ρ H w) {n b:Nat} {o0 o:AObj} (h0:H.get n=some o0) (hr:o0.rw=true) (hn:ρ n=some b)
  (ho:ORep B M ρ w' (some b) o) (hk:∀ k,k < w.heap.size->k≠b->w'.heap[k]? =w.heap[k]?):Sim P B M ρ (H.set n o) w':=by
 refine⟨h.glob,fun i o' hi=> ?_,fun i j oi oj hi hri hj hij hne=> ?_⟩
 ·rw [m3 H n o o0 h0] at hi
  split at hi
  ·rename_i e; subst e; cases hi; rw [hn]; exact ho
  ·rename_i hne
   have hold:=h.obj i o' hi
   have hd:∀ b',ρ i=some b'->w'.heap[b']? =w.heap[b']? :=fun b' hb'=>by
    refine hk b' ?_ fun e=> ?_
    ·rw [hb'] at hold
     exact hold.lt
    ·subst e
     exact h.inj n i o0 o' h0 hr hi hne (by rw [hn]; simp) (hn.trans hb'.symm)
   cases o' with
   | row e sz r k=>
    rcases hold with hold | ⟨b',cap,cur,h1,h2,h3,h4⟩
    ·exact .inl hold
    ·exact .inr ⟨b',cap,cur,h1,h2,h3.to (hd b' h1),h4⟩
   | cells cs t=>obtain⟨b',h1,h2,h3⟩:=hold; exact⟨b',h1,(hd b' h1).trans h2,h3⟩
   | iter s pos=>obtain⟨b',h1,h2,h3⟩:=hold; exact⟨b',h1,(hd b' h1).trans h2,h3⟩
   | ints k xs=>
    rcases hold with hold | ⟨b',cs,t,fr,h1,h2,h3⟩
    ·exact .inl hold
    ·exact .inr ⟨b',cs,t,fr,h1,(hd b' h1).trans h2,h3⟩
   | loop st pn ts ps asg bd=>obtain⟨b',r,h1,h2,h3⟩:=hold; exact⟨b',r,h1,(hd b' h1).trans h2,h3⟩
   | defr=>obtain⟨b',h1,h2,h3⟩:=hold; exact⟨b',h1,(hd b' h1).trans h2,h3⟩
   | dead=>obtain⟨b',q,h1,h2,h3⟩:=hold; exact⟨b',q,h1,(hd b' h1).trans h2,h3⟩
   | ro xs=>
    rcases hold with hold | ⟨b',cs,t,fr,h1,h2,h3⟩
    ·exact .inl hold
    ·exact .inr ⟨b',cs,t,fr,h1,(hd b' h1).trans h2,h3⟩
   | map es=>obtain⟨b',mes,ck,h1,h2,h3⟩:=hold; exact⟨b',mes,ck,h1,(hd b' h1).trans h2,h3⟩
   | fam f n sz o=>
    rcases hold with hold | ⟨b',cs,t,fr,h1,h2,h3⟩
    ·exact .inl hold
    ·exact .inr ⟨b',cs,t,fr,h1,(hd b' h1).trans h2,h3⟩
 ·rw [m3 H n o o0 h0] at hi hj
  split at hi <;> split at hj
  ·rename_i e1 e2; exact absurd (e1.symm.trans e2) hij
  ·rename_i e1 e2; subst e1; exact h.inj n j o0 oj h0 hr hj hij hne
  ·rename_i e1 e2; subst e2; exact h.inj i n oi o0 hi hri h0 hij hne
  ·exact h.inj i j oi oj hi hri hj hij hne
theorem z0n:Enters zO7 196:=H7 (q9 x0o 10).2 (e1r [] [] [] 0 0 0 0)
theorem n1r {zs ys:List Int} {off n b g cap c2:Nat} {cur gs:Array Value} {t:TypeId} {fr:Nat×Nat} {w:World} (hI:J0.I w)
  (ho:off+(n+1)<=zs.length) (hzl:zs.length < 1099511627776) (hz:Dg W64 zs) (hy:Cn ys) (hn:n=ys.length) (hnl:ys.length < 274877906944) (hD:0 < val W64 ys)
  (hN:val W64 (part zs off (n+1)) < val W64 ys*W64)
  (hb:RowAt w b cur Z8) (hcap:cap<=maxLen) (hcs:cur.size=cap) (hln:zs.length<=cap) (htk:cur.toList.take zs.length=zs.map (zO3 .u64))
  (hg:w.heap[g]? =some (.cells gs t fr)) (hgs:∀ i,i < ys.length->gs[i]? =some (.int .u64 (ys.getD i 0))) (hne:b≠g) (hbg:zO7.globals.size<=b):
  Calls zO7 196 ⟨[.slice (some ⟨b,off,none⟩) (n+1) (cap-off), .slice (some ⟨g,0,none⟩) n (c2-0)]⟩ w fun e w'=>
   e= .returned (.int .u64 (c1t zs ys off (n+1)))∧Keeps w.heap.size (fun k=>k=b) w w'∧∃ cur',RowAt w' b cur' Z8∧cur'.size=cap∧cur'.toList.take zs.length=(l0n zs ys off (n+1)).map (zO3 .u64):=by
 have hp:Par zO7 w.heap.size (fun k=>k=b):=⟨hI.1,fun k hk e=>by omega⟩
 have hG:zO7.globals.size=11:=by kernel_rfl
 obtain⟨hX,_⟩:=q9 x0o 10
 have hS:∀ ρ':Num,Agree 15 (fun i=>if i=11 then some b else if i=12 then some cap else if i=13 then some g else if i=14 then some c2 else some i) ρ'->Sim zO7 w.heap.size (fun k=>k=b) ρ' (g1o zs ys) w∧([.slice (some ⟨b,off,none⟩) (n+1) (cap-off), .slice (some ⟨g,0,none⟩) n (c2-0)] :List Value)=rvL ρ' (z1u off (n+1) n):=by
  intro ρ' ha
  have h11:ρ' 11=some b:=by rw [ha 11 (by omega)]; simp
  have h12:ρ' 12=some cap:=by rw [ha 12 (by omega)]; simp
  have h13:ρ' 13=some g:=by rw [ha 13 (by omega)]; simp
  have h14:ρ' 14=some c2:=by rw [ha 14 (by omega)]; simp
  refine⟨⟨fun k hk=>by
   rw [ha k (by omega)]
   show (if k=11 then some b else if k=12 then some cap else if k=13 then some g else if k=14 then some c2 else some k)=some k
   rw [a6 (by omega),a6 (by omega),a6 (by omega),a6 (by omega)],fun i o hi=> ?_,fun i j o o' hi hr hj hij hnn=> ?_⟩,?_⟩
  ·rw [a8] at hi
   split at hi
   ·rename_i e
    subst e
    cases hi
    rw [h11]
    refine .inr ⟨b,cap,cur,rfl,h12,hb, .inr rfl,hcap,by omega,?_,?_⟩
    ·simp only [Row.list,B9,s4]; exact hln
    ·simp only [Row.list,B9]; rw [V0]; exact htk
   ·rw [a8] at hi
    split at hi
    ·rename_i e
     subst e
     cases hi
     rw [h13]
     exact .inr ⟨g,gs,t,fr,rfl,hg,hgs⟩
    ·simp [Heap.get] at hi
  ·rw [a8] at hi hj
   split at hi
   ·rename_i e
    subst e
    split at hj
    ·rename_i e; exact absurd e hij
    ·rw [a8] at hj
     split at hj
     ·rename_i e
      subst e
      rw [h11,h13]
      intro e
      exact hne (T7 e)
     ·simp [Heap.get] at hj
   ·rw [a8] at hi
    split at hi
    ·cases hi; cases hr
    ·simp [Heap.get] at hi
  ·simp only [rvL,rv,rSl,h11,h12,h13,h14,T2]
 obtain⟨bit,r,hev,hobs,hv,hh,hrn⟩:=i2p ho hzl hz hy hn hnl hD hN
 refine (L6 hX progOk.mixed hev hobs hp (d7 _) hI hS).2.mono fun e w' ⟨ρ1,v,ha,he,hk,hfin⟩=> ?_
 obtain⟨hv1,hS1⟩:=hfin ρ1 (Agree.refl _ _)
 have h11:ρ1 11=some b:=by rw [ha 11 (by omega)]; simp
 have h12:ρ1 12=some cap:=by rw [ha 12 (by omega)]; simp
 refine⟨by rw [he,hv1,hv]; rfl,hk,?_⟩
 rw [hh] at hS1
 rcases hS1.obj 11 _ rfl with ⟨q1,_⟩ | ⟨b',cap',cur',q1,q2,q3,_,_,q6,q7,q8⟩
 ·rw [h11] at q1; cases q1
 ·rw [h11] at q1
  rw [h12] at q2
  cases q1
  cases q2
  simp only [Row.list,B9] at q8
  rw [V0,lH ys ho] at q8
  exact⟨cur',q3,by omega,q8⟩
theorem v1r {H:Heap} {k:IntKind} {x:Value} {xs:List Int} {l:List Prop} {id:Nat} (h:x1m H k x=some (xs,l)) (hx:∃ kk n c,x= .slice (some ⟨id,0,some kk⟩) n c):∃ o,H.get id=some o:=by
 unfold x1m at h
 split at h
 ·obtain⟨_,_,_,e⟩:=hx; cases e
 ·obtain⟨_,_,_,e⟩:=hx
  cases e
  cases hq:H.get id with
  | none=>rw [hq] at h; cases h
  | some o=>exact⟨o,rfl⟩
 ·obtain⟨_,_,_,e⟩:=hx; cases e
 ·cases h
def q2o (zs ys:List Int) (off m:Nat):Prop:=val W64 (part zs off m) < val W64 ys*W64
def rW (args:List Value) (H:Heap) (n:Nat) (ds:List Bool):Option CR:=
 match args with
 | [.slice (some ⟨id,off,some kk⟩) m c, .slice (some ⟨id2,0,some kk2⟩) k c2] =>match H.get id with
  | some (.row e sz (.ints .u64 zs) kk')=>match zO0 kk kk' && zO0 sz 1 && zO0 e Z8 && !Nat.beq id id2 with
   | true=>match x1m H .u64 (.slice (some ⟨id2,0,some kk2⟩) k c2) with
    | some (ys,l)=>some ⟨.int .u64 (c1t zs ys off m),H.set id (.row Z8 1 (.ints .u64 (l0n zs ys off m)) kk),n,
     [off=c∧m=ys.length+1,off+m<=zs.length∧zs.length < 1099511627776,Dg W64 zs,Cn ys,ys.length < 274877906944,0 < val W64 ys,q2o zs ys off m] ++l,ds⟩
    | none=>none
   | false=>none
  | _=>none
 | _=>none
theorem g0y:fK zO7 J0 196 rW:=by
 intro args H n ds r h hl
 unfold rW at h
 split at h
 case h_2=>cases h
 rename_i id off kk m c id2 kk2 k c2
 split at h
 case h_2=>cases h
 rename_i e sz zs kk' hget
 split at h
 case h_2=>cases h
 rename_i hc
 simp only [x5,y8,r0n] at hc
 obtain⟨⟨⟨rfl,rfl⟩,rfl⟩,hid0⟩:=hc
 have hid:id≠id2:=fun e=>by subst e; rw [e0x] at hid0; cases hid0
 split at h
 case h_2=>cases h
 rename_i ys l hsl
 cases h
 obtain⟨hl1,hl2⟩:=(i6 _ _).1 hl
 obtain⟨⟨rfl,rfl⟩,⟨ho,hzl⟩,hz,hy,hnl,hD,hN,_⟩:=hl1
 refine⟨d7 _,z0n,fun B M ρ w vs hp hB hI hS=> ?_⟩
 have key:∀ ρ',Agree n ρ ρ'->∃ b g cap c2' cur gs t fr,ρ' id=some b∧ρ' kk=some cap∧RowAt w b cur Z8∧(B<=b∨M b)∧cap<=maxLen∧cur.size=cap∧zs.length<=cap∧cur.toList.take zs.length=zs.map (zO3 .u64)∧
   w.heap[g]? =some (.cells gs t fr)∧(∀ i,i < ys.length->gs[i]? =some (.int .u64 (ys.getD i 0)))∧b≠g∧vs=[.slice (some ⟨b,off,none⟩) (ys.length+1) (cap-off), .slice (some ⟨g,0,none⟩) ys.length (c2'-0)] :=by
  intro ρ' ha
  obtain⟨hS1,hvs⟩:=hS ρ' ha
  rcases hS1.obj id _ hget with ⟨_,g2⟩ | ⟨b,cap,cur,g1,g2,g3,g4,g5,g6,g7,g8⟩
  ·have hx:zs=[] :=by simpa [Row.list] using g2
   subst hx
   simp at ho
  ·simp only [Row.list,B9,s4] at g6 g7 g8
   rw [V0] at g8
   rcases eB (e:=Z8) hS1 hsl hl2 with ⟨_,q2⟩ | ⟨g,cap',cs,t,fr,q1,q2,q3⟩
   ·subst q2; simp [val] at hD
   ·have hg2:ρ' id2=some g∧k=ys.length:=by
     cases hq:ρ' id2 with
     | none=>simp [rv,rSl,hq] at q1
     | some g'=>simp [rv,rSl,hq] at q1; exact⟨by rw [q1.1],q1.2.1⟩
    have hob:∃ o2,H.get id2=some o2:=v1r hsl ⟨_,_,_,rfl⟩
    obtain⟨o2,ho2⟩:=hob
    have hbg:b≠g:=fun e=>by
     subst e
     exact hS1.inj id id2 _ o2 hget rfl ho2 hid (by rw [g1]; simp) (g1.trans hg2.1.symm)
    cases hq2:ρ' kk2 with
    | none=>
     refine⟨b,g,cap,0,cur,cs,t,fr,g1,g2,g3,g4,g5,g6,g7,g8,q2,q3,hbg,?_⟩
     rw [hvs]
     simp [rvL,rv,rSl,g1,g2,hg2.1,hg2.2,hq2]
    | some c2'=>
     refine⟨b,g,cap,c2'-c2,cur,cs,t,fr,g1,g2,g3,g4,g5,g6,g7,g8,q2,q3,hbg,?_⟩
     rw [hvs]
     simp [rvL,rv,rSl,g1,g2,hg2.1,hg2.2,hq2]
 obtain⟨b,g,cap,c2',cur,gs,t,fr,k1,k2,k3,k4,k5,k6,k7,k8,k9,k10,k11,k12⟩:=key ρ (Agree.refl _ _)
 have hbg:zO7.globals.size<=b:=by
  rcases k4 with h | h
  ·have:=hp.glo; omega
  ·rcases E0 b zO7.globals.size with h' | h'
   ·exact absurd h (hp.free b h')
   ·exact h'
 rw [k12]
 refine (n1r (c2:=c2') hI ho hzl hz hy rfl hnl hD hN k3 k5 k6 k7 k8 k9 k10 k11 hbg).mono fun e w' ⟨he,hkp,cur',r1,r2,r3⟩=> ?_
 refine⟨ρ,_,Agree.refl _ _,he,⟨hkp.os,hkp.tape,hkp.output,hkp.size,fun q hq hm=>hkp.block q (by omega) fun e=> ?_⟩,fun ρ' ha=>⟨rfl,?_⟩⟩
 ·subst e
  rcases k4 with h | h
  ·omega
  ·exact hm h
 ·obtain⟨b1,g1,cap1,c21,cur1,gs1,t1,fr1,j1,j2,j3,j4,j5,j6,j7,j8,j9,j10,j11,j12⟩:=key ρ' ha
  have eb:b1=b:=by
   rw [k12] at j12
   simp at j12
   exact j12.1.1.symm
  subst eb
  have ecur:cur1=cur:=by
   obtain⟨f1,a1,_⟩:=j3
   obtain⟨f2,a2,_⟩:=k3
   rw [a1] at a2
   cases a2
   rfl
  subst ecur
  have ecap:cap1=cap:=j6.symm.trans k6
  subst ecap
  refine s0g (hS ρ' ha).1 hget rfl j1 (.inr ⟨b1,cap1,cur',rfl,j2,r1,k4,k5,by omega,?_,?_⟩) fun q hq hne=>hkp.block q hq hne
  ·simp only [Row.list,B9,s4]
   rw [lH ys ho]
   exact k7
  ·simp only [Row.list,B9]
   rw [V0,lH ys ho]
   exact r3
def d1n:iG:=m4 143 kM (m4 89 (z6 [shV] qW) (m4 92 (z6 [shI,shI] g0c)
 (m4 153 (z6 [shW,shW] Z6) (m4 154 (z6 [shW,shW] lM) (m4 152 (z6 [shW,shW] qP)
 (m4 97 (z6 [shI,shI] p0h) (m4 145 (z6 [shI,shV] uA) (m4 90 (z6 [shI,shV] c0j)
 (m4 197 (z6 [shI,shV] vI) (m4 151 (z6 [shI] c0g) (m4 181 (z6 [shI] r0i)
 (m4 196 rW F4))))))))))))
theorem k0b:iD zO7 J0 d1n:=d8 gT (d8 (l7 _ tC) (d8 (l7 _ a0i)
 (d8 (l7 _ fS) (d8 (l7 _ pE) (d8 (l7 _ tG)
 (d8 (l7 _ a1f) (d8 (l7 _ m0w) (d8 (l7 _ o0a)
 (d8 (l7 _ h0f) (d8 (l7 _ r0f) (d8 (l7 _ b1j)
 (d8 g0y (n9 _ _)))))))))))))
def bW6:Base:=⟨zO7,J0,false,a1l,d1n,200,I6⟩
theorem aY:BaseOk bW6:=⟨progOk,jL,k0b,m0⟩
abbrev XW6:Cx:=bW6.cx 10
def v2y (P:Program) (J:Inv P) (f:FuncId) (az:List Arg) (F:List Value->Value):Prop:=
 Enters P f∧∀ (w:World) (us:List Value),J.I w->All2 (rX w) (t8 az) us->Calls P f ⟨M5 az us⟩ w fun e w'=>e= .returned (F us)∧Below w.heap.size w w'
theorem c2e {b:Base} (hb:BaseOk b) (k:Nat) (L:V4) (ds:List Bool) {f:FuncId} {az:List Arg} {F:List Value->Value} {r:CR}
  (h:y0f (b.cx k) L b.fuel f (M5 az (L0 (b.cx k).P.globals.size (t8 az)).1) (L0 (b.cx k).P.globals.size (t8 az)).2.1 (L0 (b.cx k).P.globals.size (t8 az)).2.2 ds=some r) (hl:d9 r.obs)
  (hF:∀ ρ,rv ρ r.v=F (rvL ρ (L0 (b.cx k).P.globals.size (t8 az)).1)):v2y b.P b.J f az F:=by
 obtain⟨hX,hng⟩:=q9 hb k
 suffices hs:v2y (b.cx k).P (b.cx k).J f az F by
  cases k <;> exact hs
 generalize b.cx k=X at*
 refine⟨H7 hng h,fun w us hI hA=> ?_⟩
 obtain⟨ρ,ha,hρ⟩:=n1w w.heap.size (fun _=>False) w (t8 az) us hA X.P.globals.size (fun i=>some i)
 have hp:Par X.P w.heap.size (fun _=>False):=⟨X.J.room w hI,fun _ _ h=>h⟩
 have hlen:(L0 X.P.globals.size (t8 az)).1.length=(t8 az).length:=by
  have:=H5 List.length (hρ ρ (Agree.refl _ _)).1
  rw [W6] at this
  rw [<- this,hA.length]
 have hS:∀ ρ',Agree (L0 X.P.globals.size (t8 az)).2.2 ρ ρ'->Sim X.P w.heap.size (fun _=>False) ρ' (L0 X.P.globals.size (t8 az)).2.1 w∧M5 az us=rvL ρ' (M5 az (L0 X.P.globals.size (t8 az)).1):=by
  intro ρ' ha'
  obtain⟨h1,h2⟩:=hρ ρ' ha'
  have hle:=P1 (t8 az) X.P.globals.size
  refine⟨⟨fun g hg=>by rw [ha' g (by omega),ha g hg],h2,fun i j o o' hi hr _ _=> ?_⟩,?_⟩
  ·rw [(dY _ _ _ _ hi).2.2] at hr
   cases hr
  ·rw [rF ρ' az _ hlen,<- h1]
 have:=L6 hX hng.mixed h hl hp (d7 _) hI hS
 refine this.2.mono fun e w' ⟨ρ1,v,ha1,he,hk,hfin⟩=> ?_
 obtain⟨hv,hsim⟩:=hfin ρ1 (fun _ _=>rfl)
 refine⟨?_,hk.below⟩
 rw [he,hv,hF,<- (hρ ρ1 ha1).1]
def c0x (s1 s2:List Value->Heap->Nat->List Bool->Option CR) (args:List Value) (H:Heap) (n:Nat) (ds:List Bool):Option CR:=
 match ds with
 | true ::r=>s1 args H n r
 | false ::r=>s2 args H n r
 | [] =>none
theorem zM {P:Program} {J:Inv P} {f:FuncId} {s1 s2:List Value->Heap->Nat->List Bool->Option CR} (h1:fK P J f s1) (h2:fK P J f s2):fK P J f (c0x s1 s2):=by
 intro args H n ds r h hl
 unfold c0x at h
 split at h
 ·exact h1 _ _ _ _ _ h hl
 ·exact h2 _ _ _ _ _ h hl
 ·cases h
def e2k:Code:=D3 zO7 158 0
def e1a (Z Y L:List Int) (nz ny nl:Nat) (sh n i:Int):St:=⟨only 102 [(4, .pointer (some ⟨17,0,none⟩)),(5, .pointer (some ⟨18,0,none⟩)),(8, .int .i64 sh),(9,slV 19 ny),(10,slV 21 nz),(11, .int .i64 n),(12,slV 25 nl),(13, .int .i64 i)],[(25, .row Z8 1 (.ints .u64 L) 26),(21, .row Z8 1 (.ints .u64 Z) 22),(19, .row Z8 1 (.ints .u64 Y) 20),(18, .cells [.bool false, .slice none 0 0] rB),(17, .cells [.bool false, .slice none 0 0] rB)],27,[],[],0,none,[],15⟩
def q2k (i n:Int):Nat:=(iI.wrap (iI.wrap (i+n)+1)).toNat-i.toNat
abbrev n0a (a b:Bool) (xs ys:List Int):List Arg:=[iL a xs,iL b ys]
theorem s1c (Z Y L:List Int) (nz ny nl:Nat) (sh n i:Int) (hl:d9 [addO 0 i.toNat < L.length,(zO2 0<=i∧i < zO2 nl)∧0 < L.length,addO 0 i.toNat=addO 0 i.toNat∧(iI.wrap (iI.wrap (i+n)+zO2 1)).toNat-i.toNat=(zO9 ny Y).length.succ,addO 0 i.toNat+((iI.wrap (iI.wrap (i+n)+zO2 1)).toNat-i.toNat)<=Z.length∧Z.length < 1099511627776,Dg 18446744073709551616 Z,Cn (zO9 ny Y),(zO9 ny Y).length < 274877906944,0 < val 18446744073709551616 (zO9 ny Y),q2o Z (zO9 ny Y) (addO 0 i.toNat) ((iI.wrap (iI.wrap (i+n)+zO2 1)).toNat-i.toNat),ny<=Y.length,0=0∧zO2 0<=i∧i<=iI.wrap (iI.wrap (i+n)+zO2 1)∧(i=zO2 0∨i < iI.wrap (iI.wrap (i+n)+zO2 1))∧0+(iI.wrap (iI.wrap (i+n)+zO2 1)).toNat*1<=Z.length,decide (zO2 0<=i)=true]):u7 XW6 e2k (e1a Z Y L nz ny nl sh n i) .normal (e1a (l0n Z (Y.take ny) (addO 0 i.toNat) (q2k i n)) Y (gU L (addO 0 i.toNat) (c1t Z (Y.take ny) (addO 0 i.toNat) (q2k i n))) nz ny nl sh n (iI.wrap (i-1))):=
 stp aY 10 progOk.mixed [true] [] (by kernel_rfl) hl
theorem d2y (Z Y L:List Int) (nz ny nl:Nat) (sh n i:Int) (hl:d9 [decide (zO2 0<=i)=false]):u7 XW6 e2k (e1a Z Y L nz ny nl sh n i) (.exit 1) (e1a Z Y L nz ny nl sh n i):=
 stp aY 10 progOk.mixed [false] [] (by kernel_rfl) hl
theorem v0l (a b:Bool) (xs ys:List Int):y0f XW6 [] 200 158 (M5 (n0a a b xs ys) (L0 XW6.P.globals.size (t8 (n0a a b xs ys))).1) (L0 XW6.P.globals.size (t8 (n0a a b xs ys))).2.1 (L0 XW6.P.globals.size (t8 (n0a a b xs ys))).2.2 [true] =some { v:=Value.tuple { toList:=[Value.agg { toList:=[zO8 false,Value.slice none 0 0]},Value.agg { toList:=[zO8 a,Value.slice (some { block:=11,off:=0,spot:=some 12 }) xs.length 0]}]},h:=[(11,AObj.ints uI xs),(13,AObj.ints uI ys)],n:=21,obs:=[(match zO2 ys.length==zO2 0 with | true=>true | false=>decide (lV xs ys < 0))=true,(zO2 ys.length==zO2 0)=false,xs.length=xs.length,ys.length=ys.length,Dg 18446744073709551616 xs,Dg 18446744073709551616 ys,xs.length < 1099511627776,ys.length < 1099511627776],ds:=[]} :=by kernel_rfl
theorem q1h (a b s1 s2:Bool) (xs ys Q R:List Int):A7 XW6 [] 200 158 (n0a a b xs ys) [iL s1 Q,iL s2 R] [false,true] =some [zO2 0<=q0c xs (ys.getD (addO 0 0) (zO2 0))∧(q0c xs (ys.getD (addO 0 0) (zO2 0))).toNat < 18446744073709551616,xs.length=xs.length,Cn xs,xs.length < 549755813888,zO2 0 < ys.getD (addO 0 0) (zO2 0)∧(ys.getD (addO 0 0) (zO2 0)).toNat < 18446744073709551616,addO 0 0 < ys.length,(zO2 0<=zO2 0∧zO2 0 < zO2 ys.length)∧0 < ys.length,(zO2 ys.length==zO2 1)=true,(match zO2 ys.length==zO2 0 with | true=>true | false=>decide (lV xs ys < 0))=false,(zO2 ys.length==zO2 0)=false,xs.length=xs.length,ys.length=ys.length,Dg 18446744073709551616 xs,Dg 18446744073709551616 ys,xs.length < 1099511627776,ys.length < 1099511627776,zO8 false=zO8 s1,(s1e xs (ys.getD (addO 0 0) (zO2 0))).length=Q.length∧(s1e xs (ys.getD (addO 0 0) (zO2 0))).length<=(s1e xs (ys.getD (addO 0 0) (zO2 0))).length∧zO9 (s1e xs (ys.getD (addO 0 0) (zO2 0))).length (s1e xs (ys.getD (addO 0 0) (zO2 0)))=Q,zO8 false=zO8 s2,(s6 (q0c xs (ys.getD (addO 0 0) (zO2 0)))).length=R.length∧(s6 (q0c xs (ys.getD (addO 0 0) (zO2 0)))).length<=(s6 (q0c xs (ys.getD (addO 0 0) (zO2 0)))).length∧zO9 (s6 (q0c xs (ys.getD (addO 0 0) (zO2 0)))).length (s6 (q0c xs (ys.getD (addO 0 0) (zO2 0))))=R] :=by kernel_rfl
theorem s1m (a b s1 s2:Bool) (xs ys Q R Z Y L:List Int) (nz ny nl:Nat) (sh n i:Int):A7 XW6 [X4 (.exit 1) (fun _=>e1a Z Y L nz ny nl sh n i)] 200 158 (n0a a b xs ys) [iL s1 Q,iL s2 R] [false,false] =some [(m9 (zO9 nz Z)).length<=Z.length,Cn (zO9 (m9 (zO9 nz Z)).length Z),(zO9 (m9 (zO9 nz Z)).length Z).length < 549755813888,zO2 0<=sh∧sh.toNat < 64,0=0∧0+nz<=Z.length∧Z.length < 1099511627776,0=0∧0+nl<=L.length∧L.length < 1099511627776,d5 XW6 e2k (o7 XW6 200 158 (n0a a b xs ys) [false,false]) (.exit 1) (e1a Z Y L nz ny nl sh n i),zO2 0<=iI.wrap (zO2 (iI.wrap (zO2 xs.length.succ)).toNat-zO2 (m5 ys (iI.wrap (zO2 64-G9 (ys.getD (addO 0 (iI.wrap (zO2 ys.length-zO2 1)).toNat) (zO2 0))))).length)∧iI.wrap (zO2 (iI.wrap (zO2 xs.length.succ)).toNat-zO2 (m5 ys (iI.wrap (zO2 64-G9 (ys.getD (addO 0 (iI.wrap (zO2 ys.length-zO2 1)).toNat) (zO2 0))))).length)=iI.wrap (zO2 (iI.wrap (zO2 xs.length.succ)).toNat-zO2 (m5 ys (iI.wrap (zO2 64-G9 (ys.getD (addO 0 (iI.wrap (zO2 ys.length-zO2 1)).toNat) (zO2 0))))).length)∧zO2 8*iI.wrap (zO2 (iI.wrap (zO2 xs.length.succ)).toNat-zO2 (m5 ys (iI.wrap (zO2 64-G9 (ys.getD (addO 0 (iI.wrap (zO2 ys.length-zO2 1)).toNat) (zO2 0))))).length)<=zO2 281474976710656∧iI.wrap (zO2 (iI.wrap (zO2 xs.length.succ)).toNat-zO2 (m5 ys (iI.wrap (zO2 64-G9 (ys.getD (addO 0 (iI.wrap (zO2 ys.length-zO2 1)).toNat) (zO2 0))))).length)<=zO2 9223372036854775807,0 < (m5 xs (iI.wrap (zO2 64-G9 (ys.getD (addO 0 (iI.wrap (zO2 ys.length-zO2 1)).toNat) (zO2 0))))).length∧(m5 xs (iI.wrap (zO2 64-G9 (ys.getD (addO 0 (iI.wrap (zO2 ys.length-zO2 1)).toNat) (zO2 0))))).length<=(iI.wrap (zO2 xs.length.succ)).toNat∧0+(m5 xs (iI.wrap (zO2 64-G9 (ys.getD (addO 0 (iI.wrap (zO2 ys.length-zO2 1)).toNat) (zO2 0))))).length<=(zO6 (iI.wrap (↑xs.length+1)).toNat (0:Int)).length∧0+(m5 xs (iI.wrap (zO2 64-G9 (ys.getD (addO 0 (iI.wrap (zO2 ys.length-zO2 1)).toNat) (zO2 0))))).length<=(m5 xs (iI.wrap (zO2 64-G9 (ys.getD (addO 0 (iI.wrap (zO2 ys.length-zO2 1)).toNat) (zO2 0))))).length,xs.length=xs.length,Cn xs,xs.length < 549755813888,zO2 0<=iI.wrap (zO2 64-G9 (ys.getD (addO 0 (iI.wrap (zO2 ys.length-zO2 1)).toNat) (zO2 0)))∧(iI.wrap (zO2 64-G9 (ys.getD (addO 0 (iI.wrap (zO2 ys.length-zO2 1)).toNat) (zO2 0)))).toNat < 549755813888,zO2 0<=iI.wrap (zO2 xs.length.succ)∧iI.wrap (zO2 xs.length.succ)=iI.wrap (zO2 xs.length.succ)∧zO2 8*iI.wrap (zO2 xs.length.succ)<=zO2 281474976710656∧iI.wrap (zO2 xs.length.succ)<=zO2 9223372036854775807,ys.length=ys.length,Cn ys,ys.length < 549755813888,zO2 0<=iI.wrap (zO2 64-G9 (ys.getD (addO 0 (iI.wrap (zO2 ys.length-zO2 1)).toNat) (zO2 0)))∧(iI.wrap (zO2 64-G9 (ys.getD (addO 0 (iI.wrap (zO2 ys.length-zO2 1)).toNat) (zO2 0)))).toNat < 549755813888,zO2 0<=ys.getD (addO 0 (iI.wrap (zO2 ys.length-zO2 1)).toNat) (zO2 0)∧ys.getD (addO 0 (iI.wrap (zO2 ys.length-zO2 1)).toNat) (zO2 0) < zO2 18446744073709551616,addO 0 (iI.wrap (zO2 ys.length-zO2 1)).toNat < ys.length,(zO2 0<=iI.wrap (zO2 ys.length-zO2 1)∧iI.wrap (zO2 ys.length-zO2 1) < zO2 ys.length)∧0 < ys.length,(zO2 ys.length==zO2 1)=false,(match zO2 ys.length==zO2 0 with | true=>true | false=>decide (lV xs ys < 0))=false,(zO2 ys.length==zO2 0)=false,xs.length=xs.length,ys.length=ys.length,Dg 18446744073709551616 xs,Dg 18446744073709551616 ys,xs.length < 1099511627776,ys.length < 1099511627776,zO8 false=zO8 s1,(m9 (zO9 nl L)).length=Q.length∧(m9 (zO9 nl L)).length<=L.length∧zO9 (m9 (zO9 nl L)).length L=Q,zO8 (wB false (l1n (zO9 (m9 (zO9 nz Z)).length Z) sh))=zO8 s2,(l1n (zO9 (m9 (zO9 nz Z)).length Z) sh).length=R.length∧(l1n (zO9 (m9 (zO9 nz Z)).length Z) sh).length<=(l1n (zO9 (m9 (zO9 nz Z)).length Z) sh).length∧zO9 (l1n (zO9 (m9 (zO9 nz Z)).length Z) sh).length (l1n (zO9 (m9 (zO9 nz Z)).length Z) sh)=R] :=by kernel_rfl
structure QPl where
 k:Nat
 Z:List Int
 L:List Int
def c1y (Y:List Int) (n:Nat) (p:QPl):QPl:=⟨p.k-1,l0n p.Z Y (p.k-1) (n+1),gU p.L (p.k-1) (c1t p.Z Y (p.k-1) (n+1))⟩
def d1r (D N m nl:Nat) (p:QPl):Prop:=
 p.k<=nl∧p.Z.length=m+1∧Dg W64 p.Z∧val W64 (p.Z.drop p.k) < D∧p.L.length=nl∧Dg W64 p.L∧N=val W64 p.Z+D*(val W64 (p.L.drop p.k)*W64 ^p.k)
theorem q1o {l:List Int} {k:Nat} (h:k < l.length) (x:Int):(l.set k x).drop k=x ::l.drop (k+1):=by
 rw [o1u (by simpa using h)]
 simp [List.drop_set]
theorem m0x {D N m nl n:Nat} {Y:List Int} (hY:val W64 Y=D) (hD:0 < D) (hDn:D < W64 ^n) (hnl:nl+n=m+1) {p:QPl} (h:d1r D N m nl p) (hk:0 < p.k):
  q2o p.Z Y (p.k-1) (n+1)∧p.k-1+(n+1)<=p.Z.length∧d1r D N m nl (c1y Y n p):=by
 obtain⟨h1,h2,h3,h4,h5,h6,h7⟩:=h
 obtain⟨k',Z,L⟩:=p
 simp only at h1 h2 h3 h4 h5 h6 h7 hk
 obtain⟨k,rfl⟩:∃ k,k'=k+1:=⟨k'-1,by omega⟩
 simp only [c1y,iV]
 have hlen:k+(n+1)<=Z.length:=by omega
 have hz:val W64 (Z.drop (k+(n+1)))=0:=by
  have e:=y6 W64 (Z.drop (k+1)) n (by rw [D5]; omega)
  rw [List.drop_drop,show k+1+n=k+(n+1) by omega] at e
  rcases F2 (val W64 (Z.drop (k+(n+1)))) with h | h
  ·exact h
  ·have:=t0v (W64 ^n) h
   omega
 have hP:val W64 (Z.drop k)=val W64 (part Z k (n+1)):=by
  have e:=y6 W64 (Z.drop k) (n+1) (by rw [D5]; omega)
  rw [List.drop_drop,hz,eQ,E4] at e
  exact e
 have hP2:val W64 (Z.drop k)=(Z.getD k 0).toNat+W64*val W64 (Z.drop (k+1)):=by
  rw [C5 (l:=Z) (m:=k) (by omega)]
  rfl
 have hone:val W64 (part Z k (n+1)) < D*W64:=by
  rw [<- hP,hP2]
  have g:=h3.get g9 k
  have g1:(Z.getD k 0).toNat < W64:=by omega
  have:W64*(val W64 (Z.drop (k+1))+1)<=W64*D:=Y4 _ h4
  rw [O6,s4] at this
  rw [n4 D]
  omega
 have hmod:val W64 (part Z k (n+1))%D < D:=B0 _ hD
 have hpow:W64 ^n<=W64 ^(n+1):=b0i (Nat.le_succ n)
 have htk:(Z.take k).length=k:=by rw [A9]; omega
 have hZ'd:(l0n Z Y k (n+1)).drop k=dl W64 (n+1) (val W64 (part Z k (n+1))%D)++Z.drop (k+(n+1)):=by
  unfold l0n
  rw [hY,uN,List.drop_append_of_le_length (by omega),k0u (by omega),nM]
 have hZ't:(l0n Z Y k (n+1)).take k=Z.take k:=by
  unfold l0n
  rw [uN,List.take_append_of_le_length (by omega),aT (by omega)]
 have hZ'v:val W64 ((l0n Z Y k (n+1)).drop k)=val W64 (part Z k (n+1))%D:=by
  rw [hZ'd,Y5,hz,eQ,E4,i0u]
  exact H3 (by omega)
 have hq:val W64 (part Z k (n+1))/D < W64:=(F6 hD).2 (by rw [n4]; exact hone)
 refine⟨by unfold q2o; rw [hY]; exact hone,hlen,by simp only; omega,?_,?_,?_,?_,?_,?_⟩
 ·simp only
  rw [lH Y hlen]
  exact h2
 ·simp only
  unfold l0n
  exact ((h3.take _).append (l1u g9 _ _)).append (h3.drop _)
 ·simp only
  rw [hZ'v]
  exact hmod
 ·simp only
  rw [B5]
  simp [h5]
 ·simp only
  rw [B5]
  exact h6.set ⟨by unfold c1t; exact y9 _,by unfold c1t; rw [hY]; exact_mod_cast hq⟩ _
 ·simp only
  have e1:=y6 W64 (l0n Z Y k (n+1)) k (by rw [lH Y hlen]; omega)
  rw [hZ't,hZ'v] at e1
  have e2:=y6 W64 Z k (by omega)
  rw [hP] at e2
  have e3:val W64 ((gU L k (c1t Z Y k (n+1))).drop k)=val W64 (part Z k (n+1))/D+W64*val W64 (L.drop (k+1)):=by
   rw [B5,q1o (by omega)]
   simp only [val]
   unfold c1t
   rw [hY,i8]
  rw [e1,e3,h7,e2]
  have e4:=Y1 (val W64 (part Z k (n+1))) D
  generalize val W64 (part Z k (n+1))/D=q at*
  generalize val W64 (part Z k (n+1))%D=r at*
  generalize val W64 (L.drop (k+1))=T
  rw [<- e4,p9]
  generalize W64 ^k=w
  rw [u4 q,O6 D,O6 w (D*q)]
  have a1:w*(D*q)=D*(q*w):=by rw [n4,f9]
  have a2:D*(T*(w*W64))=D*(W64*T*w):=by congr 1; rw [n4 w,<- f9,n4 T]
  omega
theorem k1u {D N m nl n:Nat} {Y:List Int} (hY:val W64 Y=D) (hD:0 < D) (hDn:D < W64 ^n) (hnl:nl+n=m+1) {p:QPl} (h:d1r D N m nl p):∀ j,j<=p.k->d1r D N m nl (itr (c1y Y n) j p)∧(itr (c1y Y n) j p).k=p.k-j
 | 0,_=>⟨h,rfl⟩
 | j+1,hj=>by
  obtain⟨g1,g2⟩:=k1u hY hD hDn hnl h j (by omega)
  refine⟨(m0x hY hD hDn hnl g1 (by rw [g2]; omega)).2.2,?_⟩
  show (itr (c1y Y n) j p).k-1=_
  rw [g2]
  omega
def shQ (ys:List Int):Int:=iI.wrap (64-G9 (ys.getD (addO 0 (iI.wrap (zO2 ys.length-zO2 1)).toNat) 0))
def nlQ (xs ys:List Int):Int:=iI.wrap (zO2 (iI.wrap (zO2 xs.length.succ)).toNat-zO2 (m5 ys (shQ ys)).length)
def z0Q (xs ys:List Int):List Int:=[] ++((m5 xs (shQ ys)).drop 0).take (m5 xs (shQ ys)).length++(zO6 (iI.wrap (zO2 xs.length.succ)).toNat 0).drop (0+(m5 xs (shQ ys)).length)
theorem w1o (a b:Bool) (xs ys:List Int) (x:AX) (s':St) (h:d5 XW6 e2k (e1a (z0Q xs ys) (m5 ys (shQ ys)) (zO6 (nlQ xs ys).toNat 0) (iI.wrap (zO2 xs.length.succ)).toNat (m5 ys (shQ ys)).length (nlQ xs ys).toNat (shQ ys) (m5 ys (shQ ys)).length (iI.wrap (zO2 (nlQ xs ys).toNat-1))) x s'):
  d5 XW6 e2k (o7 XW6 200 158 (n0a a b xs ys) [false,false]) x s':=
 m6 h []
theorem v0c {ys:List Int} (hy:Cn ys) (hp:0 < ys.length):∃ t:Nat,ys.getD (ys.length-1) 0=(t:Int)∧0 < t∧t < W64∧t*W64 ^(ys.length-1)<=val W64 ys∧val W64 ys < (t+1)*W64 ^(ys.length-1):=by
 have g:=hy.dg.get g9 (ys.length-1)
 have e:=y6 W64 ys (ys.length-1) (by omega)
 rw [C5 (l:=ys) (m:=ys.length-1) (by omega),yZ hp,k0u (d7 _)] at e
 simp only [val,eQ,E4] at e
 have l1:=P6 g9 (hy.dg.take (ys.length-1))
 rw [A9,B2 (by omega)] at l1
 refine⟨(ys.getD (ys.length-1) 0).toNat,by omega,?_,by omega,?_,?_⟩
 ·rcases F2 (ys.getD (ys.length-1) 0).toNat with h | h
  ·rw [h,eQ,E4] at e
   have h1:ys.length<=ys.length-1:=by
    have:wl (val W64 ys)<=ys.length-1:=wl_le.2 (by rw [e]; exact l1)
    unfold wl at this
    rw [<- hy] at this
    exact this
   omega
  ·exact h
 ·rw [n4,e]
  exact Nat.le_add_left _ _
 ·rw [u4,V1,n4,e]
  generalize W64 ^(ys.length-1)*(ys.getD (ys.length-1) 0).toNat=q at*
  omega
theorem yX {t:Nat} (h0:0 < t) (h1:t < W64):0 < bl t∧bl t<=64∧2 ^63<=t*2 ^(64-bl t)∧(t+1)*2 ^(64-bl t)<=W64:=by
 have hW:(2:Nat) ^64=W64:=by decide
 have hb:bl t<=64:=bl_le.2 (by rw [hW]; exact h1)
 have hp:=bl_pos.2 h0
 have h2:=z1q h0
 have h3:=b0h t
 refine⟨hp,hb,?_,?_⟩
 ·have:2 ^(bl t-1)*2 ^(64-bl t)=2 ^63:=by rw [<- i7]; congr 1; omega
  rw [<- this]
  exact o9 _ h2
 ·have:2 ^bl t*2 ^(64-bl t)=W64:=by rw [<- i7,<- hW]; congr 1; omega
  rw [<- this]
  exact o9 _ h3
theorem j1j {ys:List Int} (hy:Cn ys) (hp:0 < ys.length) (hl:ys.length < 274877906944):∃ s:Nat,shQ ys=(s:Int)∧s<=63∧m5 ys (shQ ys)=ws W64 (val W64 ys*2 ^s)∧wl (val W64 ys*2 ^s)=ys.length∧2 ^63*W64 ^(ys.length-1)<=val W64 ys*2 ^s:=by
 obtain⟨t,e1,e2,e3,e4,e5⟩:=v0c hy hp
 obtain⟨b1,b2,b3,b4⟩:=yX e2 e3
 have hw:iI.wrap (zO2 ys.length-zO2 1)=((ys.length-1:Nat):Int):=by
  have h1:=n7 (n:=ys.length-1) (by omega)
  rw [<- h1]
  congr 1
  simp only [y3]
  omega
 have eS:shQ ys=((64-bl t:Nat):Int):=by
  unfold shQ
  rw [hw,G1,i8,Q6,e1]
  unfold G9
  rw [i8]
  have h1:=n7 (n:=64-bl t) (by omega)
  rw [<- h1]
  congr 1
  omega
 refine⟨64-bl t,eS,by omega,?_,?_,?_⟩
 ·rw [eS]
  unfold m5
  rw [i8]
 ·have hlt:val W64 ys*2 ^(64-bl t) < W64 ^ys.length:=by
   have q1:val W64 ys*2 ^(64-bl t) < (t+1)*W64 ^(ys.length-1)*2 ^(64-bl t):=F8 e5 (F7 _)
   have q2:(t+1)*W64 ^(ys.length-1)*2 ^(64-bl t)=(t+1)*2 ^(64-bl t)*W64 ^(ys.length-1):=by rw [f9,n4 (W64 ^_),<- f9]
   have q3:=o9 (W64 ^(ys.length-1)) b4
   have q4:W64*W64 ^(ys.length-1)=W64 ^ys.length:=by rw [n4,<- p9]; congr 1; omega
   omega
  have h1:wl (val W64 ys*2 ^(64-bl t))<=ys.length:=wl_le.2 hlt
  have h2:wl (val W64 ys)<=wl (val W64 ys*2 ^(64-bl t)):=cH (t0v _ (F7 _))
  have h3:wl (val W64 ys)=ys.length:=by unfold wl; rw [<- hy]
  omega
 ·have q1:=o9 (2 ^(64-bl t)) e4
  have q2:t*W64 ^(ys.length-1)*2 ^(64-bl t)=t*2 ^(64-bl t)*W64 ^(ys.length-1):=by rw [f9,n4 (W64 ^_),<- f9]
  have q3:=o9 (W64 ^(ys.length-1)) b3
  omega
section
variable {xs ys:List Int} (hx:Cn xs) (hy:Cn ys) (hxl:xs.length < 274877906944) (hp:0 < ys.length) (hle:val W64 ys<=val W64 xs)
include hx hy hxl hp hle
theorem b0m:ys.length<=xs.length∧0 < val W64 ys:=by
 have _:=hxl
 have h1:wl (val W64 ys)<=wl (val W64 xs):=cH hle
 have e1:wl (val W64 ys)=ys.length:=by unfold wl; rw [<- hy]
 have e2:wl (val W64 xs)=xs.length:=by unfold wl; rw [<- hx]
 exact⟨by omega,wl_pos.1 (by omega)⟩
theorem l0q {s:Nat} (eS:shQ ys=(s:Int)) (hs:s<=63) (eY:m5 ys (shQ ys)=ws W64 (val W64 ys*2 ^s)) (hn:wl (val W64 ys*2 ^s)=ys.length) (htop:2 ^63*W64 ^(ys.length-1)<=val W64 ys*2 ^s):
  iI.wrap (zO2 xs.length.succ)=((xs.length+1:Nat):Int)∧nlQ xs ys=((xs.length+1-ys.length:Nat):Int)∧(0 < (m5 xs (shQ ys)).length∧(m5 xs (shQ ys)).length<=xs.length+1)∧
  d1r (val W64 ys*2 ^s) (val W64 xs*2 ^s) xs.length (xs.length+1-ys.length) ⟨xs.length+1-ys.length,z0Q xs ys,zO6 (xs.length+1-ys.length) 0⟩:=by
 obtain⟨hlen,hB⟩:=b0m hx hy hxl hp hle
 have e1:iI.wrap (zO2 xs.length.succ)=((xs.length+1:Nat):Int):=n7 (n:=xs.length+1) (by omega)
 have e2:nlQ xs ys=((xs.length+1-ys.length:Nat):Int):=by
  unfold nlQ
  rw [e1,eY]
  have hn':(ws W64 (val W64 ys*2 ^s)).length=ys.length:=hn
  rw [hn']
  have h1:=n7 (n:=xs.length+1-ys.length) (by omega)
  rw [<- h1]
  congr 1
  simp only [i8,y3]
  omega
 have eX:m5 xs (shQ ys)=ws W64 (val W64 xs*2 ^s):=by
  rw [eS]
  unfold m5
  rw [i8]
 have hA:val W64 xs < W64 ^xs.length:=P6 g9 hx.dg
 have h2s:(2:Nat) ^s<=2 ^63:=w7 (by decide) hs
 have hN1:val W64 xs*2 ^s < W64 ^xs.length*2 ^63:=E3 (F8 hA (F7 _)) (Y4 _ h2s)
 have hN:val W64 xs*2 ^s < W64 ^(xs.length+1):=by
  rw [p9]
  refine E3 hN1 (Y4 _ (by decide))
 have hl1:wl (val W64 xs*2 ^s)<=xs.length+1:=wl_le.2 hN
 have hl2:0 < wl (val W64 xs*2 ^s):=wl_pos.2 (B6 (by omega) (F7 _))
 have ez:z0Q xs ys=ws W64 (val W64 xs*2 ^s)++zO6 (xs.length+1-wl (val W64 xs*2 ^s)) 0:=by
  unfold z0Q
  rw [eX,e1,nM,sS,y5,List.drop_replicate,i8,Q6]
 have hzl:(z0Q xs ys).length=xs.length+1:=by
  rw [ez]
  simp only [s9,G5]
  show wl _+_=_
  omega
 have hzd:Dg W64 (z0Q xs ys):=by
  rw [ez]
  exact (g0t _).append (M7 _ g9 _)
 have hzv:val W64 (z0Q xs ys)=val W64 xs*2 ^s:=by
  rw [ez,Y5,s7,X0,eQ,E4]
 refine⟨e1,e2,⟨by rw [eX]; exact hl2,by rw [eX]; exact hl1⟩,d7 _,hzl,hzd,?_,by simp,M7 _ g9 _,?_⟩
 ·simp only
  have e:=y6 W64 (z0Q xs ys) (xs.length+1-ys.length) (by omega)
  rw [hzv] at e
  have q1:=o9 (W64 ^(xs.length+1-ys.length)) htop
  have q2:2 ^63*W64 ^(ys.length-1)*W64 ^(xs.length+1-ys.length)=W64 ^xs.length*2 ^63:=by
   rw [f9,<- i7,n4]
   congr 2
   omega
  rw [q2] at q1
  have q3:W64 ^(xs.length+1-ys.length)*val W64 ((z0Q xs ys).drop (xs.length+1-ys.length)) < W64 ^(xs.length+1-ys.length)*(val W64 ys*2 ^s):=by
   rw [n4 _ (val W64 ys*2 ^s)]
   generalize W64 ^(xs.length+1-ys.length)*val W64 ((z0Q xs ys).drop (xs.length+1-ys.length))=u at*
   omega
  exact yF q3
 ·simp only
  rw [hzv,k0u (by simp)]
  simp [val]
theorem t1i {s:Nat} (eS:shQ ys=(s:Int)) (hs:s<=63) (eY:m5 ys (shQ ys)=ws W64 (val W64 ys*2 ^s)) (hn:wl (val W64 ys*2 ^s)=ys.length) (htop:2 ^63*W64 ^(ys.length-1)<=val W64 ys*2 ^s):
  ∃ Z L,d5 XW6 e2k (e1a (z0Q xs ys) (m5 ys (shQ ys)) (zO6 (nlQ xs ys).toNat 0) (iI.wrap (zO2 xs.length.succ)).toNat (m5 ys (shQ ys)).length (nlQ xs ys).toNat (shQ ys) (m5 ys (shQ ys)).length (iI.wrap (zO2 (nlQ xs ys).toNat-1))) (.exit 1)
   (e1a Z (m5 ys (shQ ys)) L (xs.length+1) ys.length (xs.length+1-ys.length) s ys.length (-1))∧
   Z.length=xs.length+1∧L.length=xs.length+1-ys.length∧Dg W64 Z∧Dg W64 L∧val W64 L=val W64 xs/val W64 ys∧val W64 Z=val W64 xs%val W64 ys*2 ^s:=by
 obtain⟨hlen,hB⟩:=b0m hx hy hxl hp hle
 obtain⟨e1,e2,_,hg0⟩:=l0q hx hy hxl hp hle eS hs eY hn htop
 have hD:0 < val W64 ys*2 ^s:=B6 hB (F7 _)
 have hYv:val W64 (m5 ys (shQ ys))=val W64 ys*2 ^s:=by rw [eY,s7]
 have hYl:(m5 ys (shQ ys)).length=ys.length:=by rw [eY]; exact hn
 have hDn:val W64 ys*2 ^s < W64 ^ys.length:=by rw [<- hn]; exact k0x _
 have hall:=k1u (n:=ys.length) hYv hD hDn (show xs.length+1-ys.length+ys.length=xs.length+1 by omega) hg0
 have hYc:Cn (m5 ys (shQ ys)):=by rw [eY]; exact Cn.ws _
 generalize hp0:(⟨xs.length+1-ys.length,z0Q xs ys,zO6 (xs.length+1-ys.length) 0⟩:QPl)=p0 at*
 have hp0k:p0.k=xs.length+1-ys.length:=by rw [<- hp0]
 rw [hp0k] at hall
 have hi0:iI.wrap (zO2 (xs.length+1-ys.length)-1)=((xs.length+1-ys.length:Nat):Int)-1:=by
  have:=F9 (zO2 (xs.length+1-ys.length)-1)
  simp only [y3] at*
  omega
 generalize hY:m5 ys (shQ ys)=Y at*
 have hrun:=A8 (X:=XW6) (c:=e2k) (x:= .exit 1) (fun j=>e1a (itr (c1y Y ys.length) j p0).Z Y (itr (c1y Y ys.length) j p0).L (xs.length+1) ys.length (xs.length+1-ys.length) s ys.length (((xs.length+1-ys.length:Nat):Int)-1- (j:Int)))
  (xs.length+1-ys.length) (s':=e1a (itr (c1y Y ys.length) (xs.length+1-ys.length) p0).Z Y (itr (c1y Y ys.length) (xs.length+1-ys.length) p0).L (xs.length+1) ys.length (xs.length+1-ys.length) s ys.length (-1)) (by intro e; cases e) (fun j hj=> ?_) ?_
 ·obtain⟨f1,f2⟩:=hall (xs.length+1-ys.length) (d7 _)
  rw [bD] at f2
  obtain⟨g1,g2,g3,g4,g5,g6,g7⟩:=f1
  rw [f2] at g4 g7
  simp only [sS,aW,s4] at g4 g7
  refine⟨_,_,?_,g2,g5,g3,g6,?_,?_⟩
  ·rw [e1,e2,eS,hYl]
   simp only [i8]
   rw [hi0]
   have h0:itr (c1y Y ys.length) 0 p0=p0:=rfl
   simp only [h0] at hrun
   have hz0:((xs.length+1-ys.length:Nat):Int)-1- ((0:Nat):Int)=((xs.length+1-ys.length:Nat):Int)-1:=by omega
   rw [hz0,<- hp0] at hrun
   simp only at hrun
   rw [<- hp0]
   exact hrun
  ·have q1:val W64 xs*2 ^s/ (val W64 ys*2 ^s)=val W64 xs/val W64 ys:=jQ _ _ (F7 _)
   rw [<- q1,g7,i0c _ _ hD,uE g4,Q6]
  ·have q1:val W64 xs*2 ^s%(val W64 ys*2 ^s)=val W64 xs%val W64 ys*2 ^s:=oF _ _ _
   rw [<- q1,g7,j0y,H3 g4]
 ·obtain⟨f1,f2⟩:=hall j (by omega)
  obtain⟨r1,r2,r3⟩:=m0x (n:=ys.length) hYv hD hDn (show xs.length+1-ys.length+ys.length=xs.length+1 by omega) f1 (by rw [f2]; omega)
  obtain⟨g1,g2,g3,g4,g5,g6,g7⟩:=f1
  simp only [itr]
  generalize itr (c1y Y ys.length) j p0=p at*
  obtain⟨k,hk⟩:∃ k,p.k=k+1:=⟨p.k-1,by omega⟩
  rw [hk,iV] at r1 r2
  have ei:((xs.length+1-ys.length:Nat):Int)-1- (j:Int)=(k:Int):=by omega
  have ei2:((xs.length+1-ys.length:Nat):Int)-1- ((j+1:Nat):Int)=(k:Int)-1:=by omega
  rw [ei,ei2]
  unfold c1y
  rw [hk,iV]
  have eE:iI.wrap (iI.wrap ((k:Int)+(ys.length:Int))+1)=((k+ys.length+1:Nat):Int):=by
   have h1:=n7 (n:=k+ys.length) (by omega)
   rw [Int.natCast_add] at h1
   rw [h1]
   have h2:=n7 (n:=k+ys.length+1) (by omega)
   rw [<- h2]
   congr 1
  have eM:q2k (k:Int) (ys.length:Int)=ys.length+1:=by
   unfold q2k
   rw [eE]
   simp only [i8]
   omega
  have eA:addO 0 (k:Int).toNat=k:=by rw [G1,i8,Q6]
  have eW:iI.wrap ((k:Int)-1)=(k:Int)-1:=by
   have:=F9 ((k:Int)-1)
   omega
  have eT:Y.take ys.length=Y:=by rw [<- hYl]; exact y5
  have hstep:=s1c p.Z Y p.L (xs.length+1) ys.length (xs.length+1-ys.length) s ys.length k
  rw [eM,eA,eW,eT] at hstep
  have eM2:(iI.wrap (iI.wrap ((k:Int)+(ys.length:Int))+zO2 1)).toNat- ((k:Int)).toNat=ys.length+1:=eM
  have eE2:iI.wrap (iI.wrap ((k:Int)+(ys.length:Int))+zO2 1)=((k+ys.length+1:Nat):Int):=eE
  have eYl:Y.length=ys.length:=hYl
  have k0:zO2 0<=(k:Int):=zzA185.2 (n6 _)
  have kl:k < xs.length+1-ys.length:=by omega
  rw [eM2] at hstep
  rw [eE2] at hstep
  refine hstep ⟨by omega,⟨⟨k0,zzA186.2 kl⟩,by omega⟩,⟨rfl,by rw [eYl]⟩,⟨r2,by omega⟩,g3,hYc,by omega,?_,r1,by omega,⟨rfl,k0,zzA185.2 (by omega), .inr (zzA186.2 (by omega)),?_⟩,d4 k0,a7⟩
  ·rw [hYv]
   exact hD
  ·rw [i8]
   omega
 ·obtain⟨f1,f2⟩:=hall (xs.length+1-ys.length) (d7 _)
  have ez:((xs.length+1-ys.length:Nat):Int)-1- ((xs.length+1-ys.length:Nat):Int)= -1:=by omega
  simp only [ez]
  exact d2y _ Y _ _ _ _ _ _ (-1) ⟨by decide,a7⟩
end
theorem v1t {xs ys:List Int} (hx:Cn xs) (hy:Cn ys):(lV xs ys < 0↔val W64 xs < val W64 ys):=by
 have:=t1t (val W64 xs) (val W64 ys)
 unfold Cn at hx hy
 rw [<- hx,<- hy] at this
 exact this
theorem w0j {xs ys:List Int} (hx:Cn xs) (hy:Cn ys) (hp:0 < ys.length) (b:Bool) (hb:decide (val W64 xs < val W64 ys)=b):
  (match zO2 ys.length==zO2 0 with | true=>true | false=>decide (lV xs ys < 0))=b∧(zO2 ys.length==zO2 0)=false:=by
 have h0:(zO2 ys.length==zO2 0)=false:=by
  simp only [beq_eq_false_iff_ne,ne_eq,zO2.injEq]
  omega
 rw [h0]
 refine⟨?_,rfl⟩
 show decide (lV xs ys < 0)=b
 rw [<- hb]
 exact zzA163.2 (v1t hx hy)
theorem b2u (a b:Bool) {xs ys:List Int} (hx:Cn xs) (hy:Cn ys) (hxl:xs.length < 274877906944) (hp:0 < ys.length) (hle:val W64 ys<=val W64 xs):
  Ev.Sem zO7 J0 158 (n0a a b xs ys) [iW false (ws W64 (val W64 xs/val W64 ys)),iW false (ws W64 (val W64 xs%val W64 ys))] :=by
 obtain⟨hlen,hB⟩:=b0m hx hy hxl hp hle
 obtain⟨hc,h0⟩:=w0j hx hy hp false (b8 (by omega))
 by_cases h1:ys.length=1
 ·
  have hone:(zO2 ys.length==zO2 1)=true:=by rw [h1]; rfl
  have hg:=hy.dg.get g9 0
  have hd:(ys.getD 0 0).toNat=val W64 ys:=by
   match ys,h1 with
   | [y],_=>simp [val]
  have ea:addO 0 0=0:=rfl
  have hdW:(ys.getD 0 0).toNat < W64:=by omega
  have eq:s1e xs (ys.getD (addO 0 0) (zO2 0))=ws W64 (val W64 xs/val W64 ys):=by
   show ws W64 (val W64 xs/ (ys.getD 0 0).toNat)=_
   rw [hd]
  have er:q0c xs (ys.getD (addO 0 0) (zO2 0))=((val W64 xs%val W64 ys:Nat):Int):=by
   show ((val W64 xs%(ys.getD 0 0).toNat:Nat):Int)=_
   rw [hd]
  have ew:s6 (q0c xs (ys.getD (addO 0 0) (zO2 0)))=ws W64 (val W64 xs%val W64 ys):=by
   rw [er]
   unfold s6
   rw [i8]
  have hrW:val W64 xs%val W64 ys < W64:=pM (B0 _ hB) (by rw [<- hd]; exact hdW)
  refine l6 aY 10 _ _ (q1h a b false false xs ys _ _) ⟨?_,rfl,hx,by omega,?_,by rw [ea]; omega,⟨⟨by simp,by rw [h1]; decide⟩,hp⟩,hone,hc,h0,rfl,rfl,hx.dg,hy.dg,by omega,by omega,rfl,?_,rfl,?_,a7⟩
  ·rw [er,i8]
   exact⟨zzA185.2 (n6 _),hrW⟩
  ·show zO2 0 < ys.getD 0 0∧(ys.getD 0 0).toNat < _
   exact⟨by simp only [y3]; omega,hdW⟩
  ·rw [eq,y5]
   exact⟨rfl,d7 _,rfl⟩
  ·rw [ew,y5]
   exact⟨rfl,d7 _,rfl⟩
 ·obtain⟨s,eS,hs,eY,hn,htop⟩:=j1j hy hp (by omega)
  obtain⟨e1,e2,e3,_⟩:=l0q hx hy hxl hp hle eS hs eY hn htop
  obtain⟨Z,L,hL,zl,ll,zd,ld,lv,zv⟩:=t1i hx hy hxl hp hle eS hs eY hn htop
  have hone:(zO2 ys.length==zO2 1)=false:=by
   simp only [beq_eq_false_iff_ne,ne_eq,zO2.injEq]
   exact h1
  have etZ:zO9 (xs.length+1) Z=Z:=by rw [<- zl]; exact y5
  have etL:zO9 (xs.length+1-ys.length) L=L:=by rw [<- ll]; exact y5
  have tz:=J7 (K9 C4 zd)
  have tl:=J7 (K9 C4 ld)
  have eR:l1n (zO9 (m9 (zO9 (xs.length+1) Z)).length Z) (s:Int)=ws W64 (val W64 xs%val W64 ys):=by
   rw [etZ,tz.2.2]
   unfold l1n
   rw [s7,zv,i8,m0a _ (F7 _)]
  have eN8:(zO2 0<=nlQ xs ys∧nlQ xs ys=nlQ xs ys∧zO2 8*nlQ xs ys<=zO2 281474976710656∧nlQ xs ys<=zO2 9223372036854775807):=by
   rw [e2]
   refine⟨zzA185.2 (n6 _),rfl,?_,zzA185.2 (by omega)⟩
   show (8:Int)*((xs.length+1-ys.length:Nat):Int)<=281474976710656
   omega
  have eM8:(zO2 0<=iI.wrap (zO2 xs.length.succ)∧iI.wrap (zO2 xs.length.succ)=iI.wrap (zO2 xs.length.succ)∧zO2 8*iI.wrap (zO2 xs.length.succ)<=zO2 281474976710656∧iI.wrap (zO2 xs.length.succ)<=zO2 9223372036854775807):=by
   rw [e1]
   refine⟨zzA185.2 (n6 _),rfl,?_,zzA185.2 (by omega)⟩
   show (8:Int)*((xs.length+1:Nat):Int)<=281474976710656
   omega
  have eC:0 < (m5 xs (shQ ys)).length∧(m5 xs (shQ ys)).length<=(iI.wrap (zO2 xs.length.succ)).toNat∧0+(m5 xs (shQ ys)).length<=(zO6 (iI.wrap (zO2 xs.length.succ)).toNat (0:Int)).length∧0+(m5 xs (shQ ys)).length<=(m5 xs (shQ ys)).length:=by
   rw [e1,G5,i8]
   omega
  have eSh:zO2 0<=shQ ys∧(shQ ys).toNat < 549755813888:=by
   rw [eS,i8]
   exact⟨zzA185.2 (n6 _),by omega⟩
  have hw:iI.wrap (zO2 ys.length-zO2 1)=((ys.length-1:Nat):Int):=by
   have h1:=n7 (n:=ys.length-1) (by omega)
   rw [<- h1]
   congr 1
   simp only [y3]
   omega
  have eA:addO 0 (iI.wrap (zO2 ys.length-zO2 1)).toNat=ys.length-1:=by rw [hw,G1,i8,Q6]
  have hg:=hy.dg.get g9 (ys.length-1)
  refine l6 aY 10 _ _ (s1m a b false false xs ys _ _ Z (m5 ys (shQ ys)) L (xs.length+1) ys.length (xs.length+1-ys.length) s ys.length (-1))
   ⟨?_,?_,?_,⟨zzA185.2 (n6 _),?_⟩,⟨rfl,by omega,by omega⟩,⟨rfl,by omega,by omega⟩,w1o a b xs ys _ _ hL,eN8,eC,rfl,hx,by omega,eSh,eM8,rfl,hy,by omega,eSh,?_,by rw [eA]; omega,⟨⟨?_,?_⟩,hp⟩,hone,hc,h0,rfl,rfl,hx.dg,hy.dg,by omega,by omega,rfl,?_,?_,?_,a7⟩
  ·rw [etZ]; exact tz.2.1
  ·rw [etZ,tz.2.2]; exact Cn.ws _
  ·rw [etZ,A9,tz.1]
   have:=tz.2.1
   rw [tz.1] at this
   omega
  ·rw [i8]; omega
  ·rw [eA]
   exact⟨hg.1,hg.2⟩
  ·rw [hw]; exact zzA185.2 (n6 _)
  ·rw [hw]; exact zzA186.2 (by omega)
  ·rw [etL]
   refine⟨by rw [tl.1,lv],tl.2.1,by rw [tl.2.2,lv]⟩
  ·rw [eR]; rfl
  ·rw [eR,y5]
   exact⟨rfl,d7 _,rfl⟩
theorem j1q (a b:Bool) {xs ys:List Int} (hx:Cn xs) (hy:Cn ys) (hxl:xs.length < 274877906944) (hyl:ys.length < 274877906944) (hlt:val W64 xs < val W64 ys):
  v2y zO7 J0 158 (n0a a b xs ys) fun us=> .tuple ⟨[.agg ⟨[.bool false, .slice none 0 0]⟩, .agg ⟨us.take 2⟩]⟩:=by
 have hp:0 < ys.length:=by
  rcases F2 ys.length with h | h
  ·have:=nJ h
   subst this
   simp [val] at hlt
  ·exact h
 obtain⟨hc,h0⟩:=w0j hx hy hp true (d4 hlt)
 refine c2e aY 10 [] [true] (v0l a b xs ys) ⟨hc,h0,rfl,rfl,hx.dg,hy.dg,by omega,by omega,a7⟩ (fun ρ=> ?_)
 show rv ρ (.tuple ⟨[.agg ⟨[.bool false, .slice none 0 0]⟩, .agg ⟨[.bool a, .slice (some ⟨11,0,some 12⟩) xs.length 0]⟩]⟩)=_
 simp only [rv,rvA,rvL]
 rfl
def n0m (xs ys:List Int):List Int:=ws W64 (val W64 xs/val W64 ys)
def eV (xs ys:List Int):List Int:=ws W64 (val W64 xs%val W64 ys)
def kH (xs ys:List Int):Prop:=val W64 xs < val W64 ys
def b0j:List Arg->Option (List Arg×List Prop)
 | [.a [.v (.bool _), .s 39 .u64 xs], .a [.v (.bool _), .s 39 .u64 ys]] =>some ([iW false (n0m xs ys),iW false (eV xs ys)],[Cn xs,Cn ys,xs.length < 274877906944,0 < ys.length,¬ kH xs ys])
 | _=>none
theorem o0r:∀ az rs l,b0j az=some (rs,l)->d9 l->Ev.Sem zO7 J0 158 az rs:=by
 intro az rs l h hl
 unfold b0j at h
 split at h
 ·cases h
  rename_i a xs b ys
  obtain⟨h1,h2,h3,h4,h5,_⟩:=hl
  exact b2u a b h1 h2 h3 h4 (jI h5)
 ·cases h
def f0v (args:List Value) (H:Heap) (n:Nat) (ds:List Bool):Option CR:=
 match args with
 | [.agg ⟨[.bool a,x]⟩, .agg ⟨[.bool _,y]⟩] =>match x1m H .u64 x,x1m H .u64 y with
  | some (xs,l1),some (ys,l2)=>some ⟨.tuple ⟨[.agg ⟨[.bool false, .slice none 0 0]⟩, .agg ⟨[.bool a,x]⟩]⟩,H,n,[Cn xs,Cn ys,xs.length < 274877906944,ys.length < 274877906944,kH xs ys] ++(l1++l2),ds⟩
  | _,_=>none
 | _=>none
theorem c1h:Enters zO7 158:=H7 (q9 aY 10).2 (v0l false false [] [])
theorem r0p:fK zO7 J0 158 f0v:=by
 intro args H n ds r h hl
 unfold f0v at h
 split at h
 case h_2=>cases h
 rename_i a x b y
 split at h
 case h_2=>cases h
 rename_i xs l1 ys l2 e1 e2
 cases h
 obtain⟨hl1,hl2⟩:=(i6 _ _).1 hl
 obtain⟨k1,k2,k3,k4,k5,_⟩:=hl1
 obtain⟨m1,m2⟩:=(i6 _ _).1 hl2
 refine⟨d7 _,c1h,fun B M ρ w vs hp hB hI hS=> ?_⟩
 obtain⟨hS0,hvs⟩:=hS ρ (Agree.refl _ _)
 have c1:rX w (.s Z8 .u64 xs) (rv ρ x):=eB hS0 e1 m1
 have c2:rX w (.s Z8 .u64 ys) (rv ρ y):=eB hS0 e2 m2
 have hA:All2 (rX w) (t8 (n0a a b xs ys)) [.bool a,rv ρ x, .bool b,rv ρ y] := .cons ⟨rfl,rfl⟩ (.cons c1 (.cons ⟨rfl,rfl⟩ (.cons c2 .nil)))
 have hc:=(j1q a b k1 k2 k3 k4 k5).2 w _ hI hA
 have ev:vs=M5 (n0a a b xs ys) [.bool a,rv ρ x, .bool b,rv ρ y] :=by
  rw [hvs]
  simp only [rvL,rv,rvA]
  rfl
 rw [ev]
 refine hc.mono fun e w' ⟨he,hb⟩=>⟨ρ,_,Agree.refl _ _,he,n5 hb hB,fun ρ' ha=>⟨?_,(hS ρ' ha).1.below hb⟩⟩
 have e3:=(hS ρ' ha).2
 rw [hvs] at e3
 simp only [rvL,rv,rvA,R5,Value.agg.injEq,Array.mk.injEq,K2,true_and] at e3
 simp only [rvL,rv,rvA,<- e3.1]
 rfl
def m1b:List Value->Heap->Nat->List Bool->Option CR:=c0x f0v (z6 [shI,shI] b0j)
theorem b1v:fK zO7 J0 158 m1b:=zM r0p (l7 _ o0r)
theorem h2m (a b s:Bool) (xs ys R:List Int):A7 XW6 [] 200 155 (n0a a b xs ys) [iL s R] [] =some [xs.length=xs.length,ys.length=ys.length,Cn xs,Cn ys,xs.length < 549755813888,ys.length < 549755813888,ys.length=ys.length∧ys.length < 1099511627776∧m9 ys=ys,zO8 (k2o a (!b && decide (0 < ys.length)) xs ys)=zO8 s,(e0l a (!b && decide (0 < ys.length)) xs ys).length=R.length∧(e0l a (!b && decide (0 < ys.length)) xs ys).length<=(e0l a (!b && decide (0 < ys.length)) xs ys).length∧zO9 (e0l a (!b && decide (0 < ys.length)) xs ys).length (e0l a (!b && decide (0 < ys.length)) xs ys)=R] :=by kernel_rfl
theorem f2o (a b:Bool) (xs ys:List Int) (r:Int):A7 XW6 [] 200 98 (n0a a b xs ys) [iR r] [] =some [(e0l a (!b && decide (0 < ys.length)) xs ys).length<=(e0l a (!b && decide (0 < ys.length)) xs ys).length,Cn (zO9 (e0l a (!b && decide (0 < ys.length)) xs ys).length (e0l a (!b && decide (0 < ys.length)) xs ys)),xs.length=xs.length,ys.length=ys.length,Cn xs,Cn ys,xs.length < 549755813888,ys.length < 549755813888,ys.length=ys.length∧ys.length < 1099511627776∧m9 ys=ys,zO3 iI (if val 18446744073709551616 (zO9 (e0l a (!b && decide (0 < ys.length)) xs ys).length (e0l a (!b && decide (0 < ys.length)) xs ys))=0 then zO2 0 else if k2o a (!b && decide (0 < ys.length)) xs ys=true then Int.negSucc 0 else zO2 1)=zO3 iI r] :=by kernel_rfl
theorem d2s (s:Bool) (n:Int) (R:List Int):A7 XW6 [] 200 140 [iR n] [iL s R] [true] =some [1<=1∧1<=1∧1 < 1099511627776,decide (n < zO2 0)=true,zO8 (true && decide (0 < (m9 [uI.wrap (zO2 0-uI.wrap n)]).length))=zO8 s,(m9 [uI.wrap (zO2 0-uI.wrap n)]).length=R.length∧(m9 [uI.wrap (zO2 0-uI.wrap n)]).length<=1∧zO9 (m9 [uI.wrap (zO2 0-uI.wrap n)]).length [uI.wrap (zO2 0-uI.wrap n)] =R∧1=1∧1<=9223372036854775807] :=by kernel_rfl
theorem d2m (s:Bool) (n:Int) (R:List Int):A7 XW6 [] 200 140 [iR n] [iL s R] [false] =some [zO2 0<=uI.wrap n∧(uI.wrap n).toNat < 18446744073709551616,decide (n < zO2 0)=false,zO8 false=zO8 s,(s6 (uI.wrap n)).length=R.length∧(s6 (uI.wrap n)).length<=(s6 (uI.wrap n)).length∧zO9 (s6 (uI.wrap n)).length (s6 (uI.wrap n))=R] :=by kernel_rfl
theorem p1k (a:Bool) (xs:List Int) (r:Int):A7 XW6 [] 200 179 [iL a xs] [iR r] [true] =some [(zO2 xs.length==zO2 0)=true,zO3 iI (zO2 0)=zO3 iI r] :=by kernel_rfl
theorem o1t (a:Bool) (xs:List Int) (r:Int):A7 XW6 [] 200 179 [iL a xs] [iR r] [false] =some [zO2 0<=xs.getD (addO 0 (iI.wrap (zO2 xs.length-zO2 1)).toNat) (zO2 0)∧xs.getD (addO 0 (iI.wrap (zO2 xs.length-zO2 1)).toNat) (zO2 0) < zO2 18446744073709551616,addO 0 (iI.wrap (zO2 xs.length-zO2 1)).toNat < xs.length,(zO2 0<=iI.wrap (zO2 xs.length-zO2 1)∧iI.wrap (zO2 xs.length-zO2 1) < zO2 xs.length)∧0 < xs.length,(zO2 xs.length==zO2 0)=false,zO3 iI (iI.wrap (iI.wrap (zO2 64*iI.wrap (zO2 xs.length-zO2 1))+G9 (xs.getD (addO 0 (iI.wrap (zO2 xs.length-zO2 1)).toNat) (zO2 0))))=zO3 iI r] :=by kernel_rfl
theorem Cn.trim {xs:List Int} (h:Cn xs):m9 xs=xs:=by
 have:=K9 C4 h.dg
 rw [<- h] at this
 exact this
def r2n (a b:Bool) (xs ys:List Int):List Int:=e0l a (!b && decide (0 < ys.length)) xs ys
def q2h (a b:Bool) (xs ys:List Int):Bool:=k2o a (!b && decide (0 < ys.length)) xs ys
def f1k (a b:Bool) (xs ys:List Int):Int:=if val W64 (r2n a b xs ys)=0 then 0 else if q2h a b xs ys then -1 else 1
def ofX (n:Int):List Int:=ws W64 n.natAbs
def x1p (xs:List Int):Int:=((bl (val W64 xs):Nat):Int)
theorem d2k (a b:Bool) {xs ys:List Int} (hx:Cn xs) (hy:Cn ys) (h1:xs.length < 549755813888) (h2:ys.length < 549755813888):Ev.Sem zO7 J0 155 (n0a a b xs ys) [iW (q2h a b xs ys) (r2n a b xs ys)] :=
 l6 aY 10 _ _ (h2m a b _ xs ys _) ⟨rfl,rfl,hx,hy,h1,h2,⟨rfl,by omega,hy.trim⟩,rfl,⟨rfl,d7 _,y5⟩,a7⟩
theorem d2i (a b:Bool) {xs ys:List Int} (hx:Cn xs) (hy:Cn ys) (h1:xs.length < 549755813888) (h2:ys.length < 549755813888):Ev.Sem zO7 J0 98 (n0a a b xs ys) [iR (f1k a b xs ys)] :=by
 refine l6 aY 10 _ _ (f2o a b xs ys _) ⟨d7 _,?_,rfl,rfl,hx,hy,h1,h2,⟨rfl,by omega,hy.trim⟩,?_,a7⟩
 ·rw [y5]
  exact Cn.ws _
 ·rw [y5]
  rfl
theorem m2y {n:Int} (h1: -9223372036854775808<=n) (h2:n<=9223372036854775807):Ev.Sem zO7 J0 140 [iR n] [iW (decide (n < 0)) (ofX n)] :=by
 by_cases h:n < 0
 ·have e1:uI.wrap (zO2 0-uI.wrap n)=((n.natAbs:Nat):Int):=by
   have w1:=O3 n
   have w2:=O3 (zO2 0-uI.wrap n)
   simp only [y3] at*
   omega
  have hd:Dg W64 [((n.natAbs:Nat):Int)] :=Dg.cons ⟨by omega,by
   show _ < ((18446744073709551616:Nat):Int)
   omega⟩ (Dg.nil _)
  have ht:m9 [((n.natAbs:Nat):Int)] =ws W64 n.natAbs:=by
   rw [K9 C4 hd]
   simp [val]
  have hp:0 < (ws W64 n.natAbs).length:=wl_pos.2 (by omega)
  have htt:=J7 ht
  refine l6 aY 10 _ _ (d2s _ n _) ⟨⟨d7 _,d7 _,by decide⟩,d4 h,?_,?_,a7⟩
  ·rw [e1,ht,d4 h,d4 hp]
   rfl
  ·rw [e1]
   exact⟨htt.1,htt.2.1,htt.2.2,rfl,by decide⟩
 ·have e1:uI.wrap n=n:=by
   have w1:=O3 n
   omega
  have e2:s6 n=ofX n:=by
   unfold s6 ofX
   congr 1
   omega
  refine l6 aY 10 _ _ (d2m _ n _) ⟨?_,b8 h,?_,?_,a7⟩
  ·rw [e1]
   simp only [y3]
   omega
  ·rw [b8 h]
  ·rw [e1,e2,y5]
   exact⟨rfl,d7 _,rfl⟩
theorem v1m (a:Bool) {xs:List Int} (hx:Cn xs) (h1:xs.length < 549755813888):Ev.Sem zO7 J0 179 [iL a xs] [iR (x1p xs)] :=by
 by_cases h:xs.length=0
 ·refine l6 aY 10 _ _ (p1k a xs _) ⟨by rw [h]; rfl,?_,a7⟩
  have:=nJ h
  subst this
  rfl
 ·obtain⟨t,e1,e2,e3,e4,e5⟩:=v0c hx (by omega)
  have hw:iI.wrap (zO2 xs.length-zO2 1)=((xs.length-1:Nat):Int):=by
   have h1:=n7 (n:=xs.length-1) (by omega)
   rw [<- h1]
   congr 1
   simp only [y3]
   omega
  have eA:addO 0 (iI.wrap (zO2 xs.length-zO2 1)).toNat=xs.length-1:=by rw [hw,G1,i8,Q6]
  have hg:=hx.dg.get g9 (xs.length-1)
  have hb64:bl t<=64:=(yX e2 e3).2.1
  refine l6 aY 10 _ _ (o1t a xs _) ⟨?_,by rw [eA]; omega,⟨⟨?_,?_⟩,by omega⟩,?_,?_,a7⟩
  ·rw [eA]
   exact⟨hg.1,hg.2⟩
  ·rw [hw]; exact zzA185.2 (n6 _)
  ·rw [hw]; exact zzA186.2 (by omega)
  ·simp only [beq_eq_false_iff_ne,ne_eq,zO2.injEq]
   exact h
  ·rw [eA,hw]
   show zO3 .i64 (iI.wrap (iI.wrap (64*((xs.length-1:Nat):Int))+G9 (xs.getD (xs.length-1) 0)))=_
   rw [e1]
   unfold G9 x1p
   rw [i8]
   have hpw:(2:Nat) ^(64*(xs.length-1))=W64 ^(xs.length-1):=by
    rw [rZ]
   have hdiv:val W64 xs/2 ^(64*(xs.length-1))=t:=by
    rw [hpw]
    exact Nat.div_eq_of_lt_le e4 e5
   have hbl:bl (val W64 xs)=64*(xs.length-1)+bl t:=by
    rw [qK (k:=64*(xs.length-1)),hdiv]
    rw [hpw]
    exact x7 (a0o _ e2) e4
   rw [hbl]
   have w1:=n7 (n:=64*(xs.length-1)) (by omega)
   have w2:=n7 (n:=64*(xs.length-1)+bl t) (by omega)
   have c1:(64:Int)*((xs.length-1:Nat):Int)=((64*(xs.length-1):Nat):Int):=by omega
   rw [c1,w1,<- Int.natCast_add,w2]
def n0y:List Arg->Option (List Arg×List Prop)
 | [.a [.v (.bool a), .s 39 .u64 xs], .a [.v (.bool b), .s 39 .u64 ys]] =>some ([iW (q2h a b xs ys) (r2n a b xs ys)],[Cn xs,Cn ys,xs.length < 549755813888,ys.length < 549755813888])
 | _=>none
def s0w:List Arg->Option (List Arg×List Prop)
 | [.a [.v (.bool a), .s 39 .u64 xs], .a [.v (.bool b), .s 39 .u64 ys]] =>some ([iR (f1k a b xs ys)],[Cn xs,Cn ys,xs.length < 549755813888,ys.length < 549755813888])
 | _=>none
def j1l:List Arg->Option (List Arg×List Prop)
 | [.c (.v (.int .i64 n))] =>some ([iW (decide (n < 0)) (ofX n)],[-9223372036854775808<=n,n<=9223372036854775807])
 | _=>none
def b0l:List Arg->Option (List Arg×List Prop)
 | [.a [.v (.bool _), .s 39 .u64 xs]] =>some ([iR (x1p xs)],[Cn xs,xs.length < 549755813888])
 | _=>none
theorem z0t:∀ az rs l,n0y az=some (rs,l)->d9 l->Ev.Sem zO7 J0 155 az rs:=by
 intro az rs l h hl
 unfold n0y at h
 split at h
 ·cases h
  obtain⟨h1,h2,h3,h4,_⟩:=hl
  exact d2k _ _ h1 h2 h3 h4
 ·cases h
theorem a1r:∀ az rs l,s0w az=some (rs,l)->d9 l->Ev.Sem zO7 J0 98 az rs:=by
 intro az rs l h hl
 unfold s0w at h
 split at h
 ·cases h
  obtain⟨h1,h2,h3,h4,_⟩:=hl
  exact d2i _ _ h1 h2 h3 h4
 ·cases h
theorem h1c:∀ az rs l,j1l az=some (rs,l)->d9 l->Ev.Sem zO7 J0 140 az rs:=by
 intro az rs l h hl
 unfold j1l at h
 split at h
 ·cases h
  obtain⟨h1,h2,_⟩:=hl
  exact m2y h1 h2
 ·cases h
theorem r0s:∀ az rs l,b0l az=some (rs,l)->d9 l->Ev.Sem zO7 J0 179 az rs:=by
 intro az rs l h hl
 unfold b0l at h
 split at h
 ·cases h
  obtain⟨h1,h2,_⟩:=hl
  exact v1m _ h1 h2
 ·cases h
def g1p:iG:=m4 158 m1b (m4 155 (z6 [shI,shI] n0y) (m4 98 (z6 [shI,shI] s0w)
 (m4 140 (z6 [shV] j1l) (m4 179 (z6 [shI] b0l) d1n))))
theorem j0t:iD zO7 J0 g1p:=d8 b1v (d8 (l7 _ z0t) (d8 (l7 _ a1r) (d8 (l7 _ h1c) (d8 (l7 _ r0s) k0b))))
def bW7:Base:=⟨zO7,J0,false,a1l,g1p,200,I6⟩
theorem jY:BaseOk bW7:=⟨progOk,jL,j0t,m0⟩
abbrev XW7:Cx:=bW7.cx 10
def u0d:Code:=D3 zO7 149 0
def c2l (xs L:List Int) (n:Int):St:=⟨only 23 [(1, .int .i64 n),(2, .pointer (some ⟨13,0,none⟩)),(4, .pointer (some ⟨14,0,none⟩)),(5, .pointer (some ⟨17,0,none⟩))],
 [(17, .cells [.bool false,slV 15 L.length] rB),(15, .row Z8 1 (.ints .u64 L) 16),(14, .cells [.bool false, .slice none 0 0] rB),(13, .cells [.bool false,slV 11 xs.length] rB),(11, .ints .u64 xs)],19,[],[],0,none,[],13⟩
def p1v (xs L:List Int) (n:Int):St:=⟨only 23 [(1, .int .i64 n),(2, .pointer (some ⟨13,0,none⟩)),(4, .pointer (some ⟨14,0,none⟩)),(5, .pointer (some ⟨17,0,none⟩))],
 [(17, .cells [.bool false,slV 15 L.length] rB),(15, .row Z8 1 (.ints .u64 L) 16),(14, .cells [.bool false, .slice none 0 0] rB),(13, .cells [.bool false,slV 21 xs.length] rB),(21, .row Z8 1 (.ints .u64 xs) 22)],23,[],[],0,none,[],13⟩
def TPo (L:List Int):St:=⟨only 23 [(4, .pointer (some ⟨14,0,none⟩)),(5, .pointer (some ⟨17,0,none⟩))],
 [(17, .cells [.bool false,slV 15 L.length] rB),(15, .row Z8 1 (.ints .u64 L) 16),(14, .cells [.bool false, .slice none 0 0] rB)],19,[],[],0,none,[],13⟩
def h0k (n:Int):Int:=iI.wrap (n.tdiv 2)
abbrev sA (L:List Int):List Int:=L.take L.length
theorem m2m (xs L:List Int) (n:Int) (hl:d9 [xs.length=xs.length,xs.length=xs.length,Cn xs,Cn xs,xs.length < 274877906944,xs.length < 274877906944,decide (zO2 1 < n)=true,L.length<=L.length,xs.length=xs.length,Cn (zO9 L.length L),Cn xs,(zO9 L.length L).length < 274877906944,xs.length < 274877906944,(n.tmod (zO2 2)==zO2 1)=true,decide (zO2 0 < n)=true]):u7 XW7 u0d (c2l xs L n) .normal (p1v (D4 xs xs) (D4 (sA L) xs) (h0k n)):=
 stp jY 10 progOk.mixed [true,true,true] [(15,19),(16,20),(21,22),(22,23)] (by kernel_rfl) hl
theorem h2t (xs L:List Int) (n:Int) (hl:d9 [xs.length=xs.length,xs.length=xs.length,Cn xs,Cn xs,xs.length < 274877906944,xs.length < 274877906944,decide (zO2 1 < n)=true,(n.tmod (zO2 2)==zO2 1)=false,decide (zO2 0 < n)=true]):u7 XW7 u0d (c2l xs L n) .normal (p1v (D4 xs xs) L (h0k n)):=
 stp jY 10 progOk.mixed [true,false,true] [(21,19),(22,20)] (by kernel_rfl) hl
theorem c2t (xs L:List Int) (n:Int) (hl:d9 [decide (zO2 1 < n)=false,L.length<=L.length,xs.length=xs.length,Cn (zO9 L.length L),Cn xs,(zO9 L.length L).length < 274877906944,xs.length < 274877906944,(n.tmod (zO2 2)==zO2 1)=true,decide (zO2 0 < n)=true]):u7 XW7 u0d (c2l xs L n) .normal (c2l xs (D4 (sA L) xs) (h0k n)):=
 stp jY 10 progOk.mixed [true,true,false] [(15,19),(16,20)] (by kernel_rfl) hl
theorem k2u (xs L:List Int) (n:Int) (hl:d9 [decide (zO2 0 < n)=false]):u7 XW7 u0d (c2l xs L n) (.exit 0) (TPo L):=
 stp jY 10 progOk.mixed [false] [] (by kernel_rfl) hl
theorem n2m (xs L:List Int) (n:Int) (hl:d9 [xs.length<=xs.length,xs.length<=xs.length,Cn (zO9 xs.length xs),Cn (zO9 xs.length xs),(zO9 xs.length xs).length < 274877906944,(zO9 xs.length xs).length < 274877906944,decide (zO2 1 < n)=true,L.length<=L.length,xs.length<=xs.length,Cn (zO9 L.length L),Cn (zO9 xs.length xs),(zO9 L.length L).length < 274877906944,(zO9 xs.length xs).length < 274877906944,(n.tmod (zO2 2)==zO2 1)=true,decide (zO2 0 < n)=true]):u7 XW7 u0d (p1v xs L n) .normal (p1v (D4 (sA xs) (sA xs)) (D4 (sA L) (sA xs)) (h0k n)):=
 stp jY 10 progOk.mixed [true,true,true] [(15,23),(16,24),(21,26),(22,27)] (by kernel_rfl) hl
theorem f2j (xs L:List Int) (n:Int) (hl:d9 [xs.length<=xs.length,xs.length<=xs.length,Cn (zO9 xs.length xs),Cn (zO9 xs.length xs),(zO9 xs.length xs).length < 274877906944,(zO9 xs.length xs).length < 274877906944,decide (zO2 1 < n)=true,(n.tmod (zO2 2)==zO2 1)=false,decide (zO2 0 < n)=true]):u7 XW7 u0d (p1v xs L n) .normal (p1v (D4 (sA xs) (sA xs)) L (h0k n)):=
 stp jY 10 progOk.mixed [true,false,true] [(21,23),(22,24)] (by kernel_rfl) hl
theorem g2t (xs L:List Int) (n:Int) (hl:d9 [decide (zO2 1 < n)=false,L.length<=L.length,xs.length<=xs.length,Cn (zO9 L.length L),Cn (zO9 xs.length xs),(zO9 L.length L).length < 274877906944,(zO9 xs.length xs).length < 274877906944,(n.tmod (zO2 2)==zO2 1)=true,decide (zO2 0 < n)=true]):u7 XW7 u0d (p1v xs L n) .normal (p1v xs (D4 (sA L) (sA xs)) (h0k n)):=
 stp jY 10 progOk.mixed [true,true,false] [(15,23),(16,24)] (by kernel_rfl) hl
theorem n2w (xs L:List Int) (n:Int) (hl:d9 [decide (zO2 0 < n)=false]):u7 XW7 u0d (p1v xs L n) (.exit 0) (TPo L):=
 stp jY 10 progOk.mixed [false] [] (by kernel_rfl) hl
theorem a2r (s:Bool) (xs L R:List Int) (n:Int):A7 XW7 [X4 (.exit 0) (fun _=>TPo L)] 200 149 [iL false xs,iR n] [iL s R] [] =some [d5 XW7 u0d (o7 XW7 200 149 [iL false xs,iR n] []) (.exit 0) (TPo L),zO2 0<=zO2 1∧1 < 18446744073709551616,zO8 false=zO8 s,L.length=R.length∧L.length<=L.length∧zO9 L.length L=R] :=by kernel_rfl
theorem q1z (xs:List Int) (n:Int) (x:AX) (s':St) (h:d5 XW7 u0d (c2l xs (s6 1) n) x s'):d5 XW7 u0d (o7 XW7 200 149 [iL false xs,iR n] []) x s':=
 m6 h []
structure PwPl where
 first:Bool
 X:Nat
 O:Nat
 n:Nat
def TPw (p:PwPl):St:=match p.first with
 | true=>c2l (ws W64 p.X) (ws W64 p.O) (p.n:Int)
 | false=>p1v (ws W64 p.X) (ws W64 p.O) (p.n:Int)
theorem S0 (a b:Nat):D4 (ws W64 a) (ws W64 b)=ws W64 (a*b):=by unfold D4; rw [s7,s7]
theorem Z1 (L:List Int):sA L=L:=y5
theorem r1j {n:Nat} (h:n < 4611686018427387904):h0k (n:Int)=((n/2:Nat):Int):=by
 unfold h0k
 have:=(m0b n 2).symm
 have e:(n:Int).tdiv 2=((n/2:Nat):Int):=this
 rw [e,n7 (by omega)]
theorem l1y {n:Nat} (b:Bool) (h:decide (n%2=1)=b):((n:Int).tmod (zO2 2)==zO2 1)=b:=by
 have e:(n:Int).tmod (zO2 2)=((n%2:Nat):Int):=(Int.ofNat_tmod n 2).symm
 rw [e,<- h]
 by_cases h1:n%2=1
 ·rw [h1]; rfl
 ·have:n%2=0:=by omega
  rw [this]; rfl
def d2o (R:Nat) (p:PwPl):Prop:=wl p.O+p.n*wl p.X < 274877906944∧p.O*p.X ^p.n=R∧p.n < 4611686018427387904
theorem u1x (X n:Nat):(X*X) ^(n/2)*X ^(n%2)=X ^n:=by
 have h:X*X=X ^2:=by rw [p9,oY]
 rw [h,<- rZ,<- i7]
 congr 1
 omega
theorem r1e {R:Nat} {p:PwPl} (h:d2o R p):(∃ q,d2o R q∧q.n < p.n∧u7 XW7 u0d (TPw p) .normal (TPw q))∨u7 XW7 u0d (TPw p) (.exit 0) (TPo (ws W64 R)):=by
 obtain⟨f,X,O,n⟩:=p
 obtain⟨h1,h2,h3⟩:=h
 simp only at h1 h2 h3
 have hX:=Cn.ws X
 have hO:=Cn.ws O
 have hX':Cn (zO9 (ws W64 X).length (ws W64 X)):=by rw [y5]; exact hX
 have hO':Cn (zO9 (ws W64 O).length (ws W64 O)):=by rw [y5]; exact hO
 have hh:=r1j h3
 rcases F2 n with h0 | h0
 ·subst h0
  rw [aW,s4] at h2
  subst h2
  right
  cases f
  ·exact n2w _ _ _ ⟨rfl,a7⟩
  ·exact k2u _ _ _ ⟨rfl,a7⟩
 left
 have hpos:decide (zO2 0 < (n:Int))=true:=d4 (zzA186.2 h0)
 have hle:wl X<=n*wl X:=a0o _ h0
 have lX:(ws W64 X).length < 274877906944:=by show wl X < _; omega
 have lO:(ws W64 O).length < 274877906944:=by show wl O < _; omega
 have lX':(zO9 (ws W64 X).length (ws W64 X)).length < 274877906944:=by rw [y5]; exact lX
 have lO':(zO9 (ws W64 O).length (ws W64 O)).length < 274877906944:=by rw [y5]; exact lO
 have w1:=d1i O X
 have w2:=d1i X X
 by_cases hn1:n=1
 ·subst hn1
  rw [oY] at h2
  have hodd:(((1:Nat):Int).tmod (zO2 2)==zO2 1)=true:=by decide
  have hn2:decide (zO2 1 < ((1:Nat):Int))=false:=by decide
  refine⟨⟨f,X,O*X,0⟩,⟨by simp only; omega,by simpa using h2,by simp⟩,by simp,?_⟩
  cases f
  ·have:=g2t (ws W64 X) (ws W64 O) ((1:Nat):Int) ⟨hn2,d7 _,d7 _,hO',hX',lO',lX',hodd,hpos,a7⟩
   rw [Z1,Z1,S0,hh] at this
   exact this
  ·have:=c2t (ws W64 X) (ws W64 O) ((1:Nat):Int) ⟨hn2,d7 _,rfl,hO',hX,lO',lX,hodd,hpos,a7⟩
   rw [Z1,S0,hh] at this
   exact this
 ·have hn2:decide (zO2 1 < (n:Int))=true:=d4 (zzA186.2 (by omega))
  have hd:n/2*(2*wl X)+n%2*wl X=n*wl X:=by
   rw [<- f9,<- u4]
   congr 1
   omega
  have hm:n/2*wl (X*X)<=n/2*(2*wl X):=Y4 _ (by omega)
  have hp:=u1x X n
  by_cases ho:n%2=1
  ·have hodd:=l1y (n:=n) true (d4 ho)
   rw [ho,oY] at hp
   rw [ho,V1] at hd
   refine⟨⟨false,X*X,O*X,n/2⟩,⟨by simp only; omega,?_,by simp only; omega⟩,by simp only; omega,?_⟩
   ·simp only
    rw [<- h2,<- hp,f9,n4 X]
   cases f
   ·have:=n2m (ws W64 X) (ws W64 O) (n:Int) ⟨d7 _,d7 _,hX',hX',lX',lX',hn2,d7 _,d7 _,hO',hX',lO',lX',hodd,hpos,a7⟩
    rw [Z1,Z1,S0,S0,hh] at this
    exact this
   ·have:=m2m (ws W64 X) (ws W64 O) (n:Int) ⟨rfl,rfl,hX,hX,lX,lX,hn2,d7 _,rfl,hO',hX,lO',lX,hodd,hpos,a7⟩
    rw [Z1,S0,S0,hh] at this
    exact this
  ·have hodd:=l1y (n:=n) false (b8 ho)
   have ho:n%2=0:=by omega
   rw [ho,aW,s4] at hp
   rw [ho,C0,E4] at hd
   refine⟨⟨false,X*X,O,n/2⟩,⟨by simp only; omega,by simp only; rw [hp]; exact h2,by simp only; omega⟩,by simp only; omega,?_⟩
   cases f
   ·have:=f2j (ws W64 X) (ws W64 O) (n:Int) ⟨d7 _,d7 _,hX',hX',lX',lX',hn2,hodd,hpos,a7⟩
    rw [Z1,S0,hh] at this
    exact this
   ·have:=h2t (ws W64 X) (ws W64 O) (n:Int) ⟨rfl,rfl,hX,hX,lX,lX,hn2,hodd,hpos,a7⟩
    rw [S0,hh] at this
    exact this
theorem j1d {X n:Nat} (h1:1+n*wl X < 274877906944) (h2:n < 4611686018427387904):Ev.Sem zO7 J0 149 [iL false (ws W64 X),iR (n:Int)] [iW false (ws W64 (X ^n))] :=by
 have hw1:wl 1<=1:=wl_le.2 (by rw [oY]; decide)
 have hL:=G3 (X:=XW7) (c:=u0d) (x:= .exit 0) TPw (fun p=>p.n) (d2o (X ^n)) (by intro e; cases e) (s':=TPo (ws W64 (X ^n))) (fun p hp=>by
  rcases r1e hp with ⟨q,a,b,c⟩ | h
  ·exact .inl ⟨q,a,b,c⟩
  ·exact .inr h) ⟨true,X,1,n⟩ ⟨by simp only; omega,by simp,h2⟩
 exact l6 jY 10 _ _ (a2r false (ws W64 X) (ws W64 (X ^n)) _ (n:Int)) ⟨q1z _ _ _ _ hL,⟨by simp,by decide⟩,rfl,⟨rfl,d7 _,y5⟩,a7⟩
def aZ (xs:List Int) (n:Int):List Int:=ws W64 (val W64 xs ^n.toNat)
def vZ:List Arg->Option (List Arg×List Prop)
 | [.a [.v (.bool false), .s 39 .u64 xs], .c (.v (.int .i64 n))] =>some ([iW false (aZ xs n)],[Cn xs,0<=n∧n.toNat < 4611686018427387904,1+n.toNat*xs.length < 274877906944])
 | _=>none
theorem l0r:∀ az rs l,vZ az=some (rs,l)->d9 l->Ev.Sem zO7 J0 149 az rs:=by
 intro az rs l h hl
 unfold vZ at h
 split at h
 ·cases h
  rename_i xs n
  obtain⟨h1,⟨h2,h3⟩,h4,_⟩:=hl
  unfold Cn at h1
  have:=j1d (X:=val W64 xs) (n:=n.toNat) (by unfold wl; rw [<- h1]; exact h4) h3
  rw [<- h1,W3 h2] at this
  exact this
 ·cases h
end Go.Proofs.YtbdaebagmmmijaaGreatDoor
namespace Go.Proofs
def jF:Go.Shelf.Ren:=⟨fun | 287=>224 | 321=>236 | 322=>237 | n=>n,fun | 9=>9 | 3=>3 | 53=>39 | 75=>132 | 4=>4 | 167=>267 | 5=>5 | 46=>90 | 37=>22 | 0=>0 | 21=>21 | 80=>116 | n=>n,fun | n=>n⟩
theorem xP:Go.Proofs.Lays.n287 zO7 jF where
 mixed:=by kernel_rfl
 f287:=Tryz.func224.trans (H5 some (by kernel_rfl))
 f321:=Tryz.func236.trans (H5 some (by kernel_rfl))
 f322:=Tryz.func237.trans (H5 some (by kernel_rfl))
 t0:=Tryz.underlying0
 a0:=Tryz.isAgg0
 z0:=Tryz.sizeOf0
 v0:=Tryz.zeroValue0
 t3:=Tryz.underlying3
 a3:=Tryz.isAgg3
 z3:=Tryz.sizeOf3
 v3:=Tryz.zeroValue3
 t4:=Tryz.underlying4
 a4:=Tryz.isAgg4
 z4:=Tryz.sizeOf4
 v4:=Tryz.zeroValue4
 t5:=Tryz.underlying5
 a5:=Tryz.isAgg5
 z5:=Tryz.sizeOf5
 v5:=Tryz.zeroValue5
 t9:=Tryz.underlying9
 a9:=Tryz.isAgg9
 z9:=Tryz.sizeOf9
 v9:=Tryz.zeroValue9
 t21:=Tryz.underlying21
 a21:=Tryz.isAgg21
 z21:=Tryz.sizeOf21
 v21:=Tryz.zeroValue21
 t37:=Tryz.underlying22
 a37:=Tryz.isAgg22
 z37:=Tryz.sizeOf22
 v37:=Tryz.zeroValue22
 t46:=Tryz.underlying90
 a46:=Tryz.isAgg90
 z46:=Tryz.sizeOf90
 v46:=Tryz.zeroValue90
 t53:=Tryz.underlying39
 a53:=Tryz.isAgg39
 z53:=Tryz.sizeOf39
 v53:=Tryz.zeroValue39
 t75:=Tryz.underlying132
 a75:=Tryz.isAgg132
 z75:=Tryz.sizeOf132
 v75:=Tryz.zeroValue132
 t167:=Tryz.underlying267
 a167:=Tryz.isAgg267
 z167:=Tryz.sizeOf267
 v167:=Tryz.zeroValue267
namespace YtbdaebagmmmijaaGreatDoor
open Go Go.RowKit Ev Wd
def qO (l:List UInt8):Int:=(((Lib.decFrom 0 l).getD 0:Nat):Int)
def T6 (l:List UInt8):Prop:=(Lib.decFrom 0 l).isSome=true
theorem s0e {l:List UInt8} (h1:T6 l) (h2:l.length<=18) (h3:l≠[]):Lib.parseUintB 64 l= .ok ((Lib.decFrom 0 l).getD 0):=by
 have eM:(2:Nat) ^64-1=18446744073709551615:=by decide
 unfold Lib.parseUintB
 rw [a6 h3,eM,Lib.parseUintM_64,Lib.parseUint10_short l 0 0 (by decide) (by omega)]
 unfold T6 at h1
 cases h:Lib.decFrom 0 l with
 | none=>rw [h] at h1; cases h1
 | some n=>rfl
def i1q:List Value->Option (Value×List Prop)
 | [.string s, .int .i64 10, .int .i64 64] =>some (.tuple ⟨[.int .u64 (qO s.data.toList), .nilIface]⟩,[T6 s.data.toList,s.data.toList.length<=18,0 < s.data.toList.length])
 | _=>none
theorem i1r (args:List Value) (v:Value) (l:List Prop) (h:i1q args=some (v,l)) (hl:d9 l):Pure zO7 J0 224 args v:=by
 unfold i1q at h
 split at h
 case h_2=>cases h
 rename_i s
 cases h
 obtain⟨h1,h2,h3,_⟩:=hl
 refine⟨rfl,rfl, .inl ⟨enters_of Tryz.func224 (by kernel_rfl) (c:=_) rfl,fun w hI=> ?_⟩⟩
 have hs:s.size=s.data.toList.length:=rfl
 refine (Any.internal_strconv_ParseUint_10_at64 xP s (by omega) w).mono fun e w' ⟨he,hw⟩=>⟨?_,?_⟩
 ·rw [he,s0e h1 h2 (by intro e; rw [e] at h3; cases h3)]
  rfl
 ·rcases hw with rfl | rfl
  ·exact X1 _ _
  ·exact Lib.bytesWorld_below _ _ _
def c1n:Tab:=l5 224 i1q a1l
theorem kC:Q0 zO7 J0 c1n:=b7 i1r jL
def g1w:iG:=m4 149 (z6 [shI,shV] vZ) g1p
theorem m0f:iD zO7 J0 g1w:=d8 (l7 _ l0r) j0t
def bW8:Base:=⟨zO7,J0,false,c1n,g1w,200,I6⟩
theorem zA:BaseOk bW8:=⟨progOk,kC,m0f,m0⟩
abbrev XW8:Cx:=bW8.cx 10
end YtbdaebagmmmijaaGreatDoor
end Go.Proofs
namespace Go.Proofs.YtbdaebagmmmijaaGreatDoor
open Go Go.RowKit Ev Wd
def c1w:Code:=D3 zO7 157 0
def e1q (l:List UInt8):St:=⟨only 32 [(0, .string ⟨⟨l⟩⟩),(2, .pointer (some ⟨11,0,none⟩)),(3, .pointer (some ⟨12,0,none⟩))],
 [(12, .cells [.bool false, .slice none 0 0] rB),(11, .cells [.bool false, .slice none 0 0] rB)],14,[],[],0,none,[],11⟩
def d1c (l:List UInt8) (xs:List Int):St:=⟨only 32 [(0, .string ⟨⟨l⟩⟩),(2, .pointer (some ⟨11,0,none⟩)),(3, .pointer (some ⟨12,0,none⟩))],
 [(12, .cells [.bool false,slV 21 xs.length] rB),(11, .cells [.bool false, .slice none 0 0] rB),(21, .row Z8 1 (.ints .u64 xs) 22)],23,[],[],0,none,[],11⟩
def g0q (l:List UInt8):Int:=if zO2 18 < zO2 l.length then zO2 18 else zO2 l.length
def j2i (l:List UInt8):List Int:=aZ [10] (g0q l)
def p1y (xs:List Int) (l:List UInt8):List Int:=D4 xs (j2i l)
def q1j (l:List UInt8):List Int:=s6 (qO (l.take (g0q l).toNat))
def j2b (xs:List Int) (l:List UInt8):List Int:=e0l (wB false (p1y xs l)) false ((p1y xs l).take (p1y xs l).length) ((q1j l).take (q1j l).length)
theorem n1y (l:List UInt8) (hl:d9 [(zO2 0<=if zO2 18 < zO2 l.length then zO2 18 else zO2 l.length)∧(if zO2 18 < zO2 l.length then zO2 18 else zO2 l.length)<=zO2 l.length,(D4 [] (aZ [zO2 10] (if zO2 18 < zO2 l.length then zO2 18 else zO2 l.length))).length<=(D4 [] (aZ [zO2 10] (if zO2 18 < zO2 l.length then zO2 18 else zO2 l.length))).length,(s6 (qO (zO9 (if zO2 18 < zO2 l.length then zO2 18 else zO2 l.length).toNat l))).length<=(s6 (qO (zO9 (if zO2 18 < zO2 l.length then zO2 18 else zO2 l.length).toNat l))).length,Cn (zO9 (D4 [] (aZ [zO2 10] (if zO2 18 < zO2 l.length then zO2 18 else zO2 l.length))).length (D4 [] (aZ [zO2 10] (if zO2 18 < zO2 l.length then zO2 18 else zO2 l.length)))),Cn (zO9 (s6 (qO (zO9 (if zO2 18 < zO2 l.length then zO2 18 else zO2 l.length).toNat l))).length (s6 (qO (zO9 (if zO2 18 < zO2 l.length then zO2 18 else zO2 l.length).toNat l)))),(zO9 (D4 [] (aZ [zO2 10] (if zO2 18 < zO2 l.length then zO2 18 else zO2 l.length))).length (D4 [] (aZ [zO2 10] (if zO2 18 < zO2 l.length then zO2 18 else zO2 l.length)))).length < 549755813888,(zO9 (s6 (qO (zO9 (if zO2 18 < zO2 l.length then zO2 18 else zO2 l.length).toNat l))).length (s6 (qO (zO9 (if zO2 18 < zO2 l.length then zO2 18 else zO2 l.length).toNat l)))).length < 549755813888,zO2 0<=qO (zO9 (if zO2 18 < zO2 l.length then zO2 18 else zO2 l.length).toNat l)∧(qO (zO9 (if zO2 18 < zO2 l.length then zO2 18 else zO2 l.length).toNat l)).toNat < 18446744073709551616,(aZ [zO2 10] (if zO2 18 < zO2 l.length then zO2 18 else zO2 l.length)).length=(aZ [zO2 10] (if zO2 18 < zO2 l.length then zO2 18 else zO2 l.length)).length,Cn [],Cn (aZ [zO2 10] (if zO2 18 < zO2 l.length then zO2 18 else zO2 l.length)),0 < 274877906944,(aZ [zO2 10] (if zO2 18 < zO2 l.length then zO2 18 else zO2 l.length)).length < 274877906944,1<=1,Cn [zO2 10],(zO2 0<=if zO2 18 < zO2 l.length then zO2 18 else zO2 l.length)∧(if zO2 18 < zO2 l.length then zO2 18 else zO2 l.length).toNat < 4611686018427387904,1+(if zO2 18 < zO2 l.length then zO2 18 else zO2 l.length).toNat*1 < 274877906944,zO2 0<=zO2 10∧10 < 18446744073709551616,T6 (zO9 (if zO2 18 < zO2 l.length then zO2 18 else zO2 l.length).toNat l),(zO9 (if zO2 18 < zO2 l.length then zO2 18 else zO2 l.length).toNat l).length<=18,0 < (zO9 (if zO2 18 < zO2 l.length then zO2 18 else zO2 l.length).toNat l).length,(zO2 0<=if zO2 18 < zO2 l.length then zO2 18 else zO2 l.length)∧(if zO2 18 < zO2 l.length then zO2 18 else zO2 l.length)<=zO2 l.length,decide (zO2 0 < zO2 l.length)=true]):u7 XW8 c1w (e1q l) .normal (d1c (l.drop (g0q l).toNat) (j2b [] l)):=
 stp zA 10 progOk.mixed [true] [(21,24),(22,25)] (by kernel_rfl) hl
theorem r1y (l:List UInt8) (hl:d9 [decide (zO2 0 < zO2 l.length)=false]):u7 XW8 c1w (e1q l) (.exit 0) (e1q l):=
 stp zA 10 progOk.mixed [false] [] (by kernel_rfl) hl
theorem s1b (l:List UInt8) (xs:List Int) (hl:d9 [decide (zO2 0 < zO2 l.length)=false]):u7 XW8 c1w (d1c l xs) (.exit 0) (d1c l xs):=
 stp zA 10 progOk.mixed [false] [] (by kernel_rfl) hl
theorem r1v (l:List UInt8) (xs:List Int) (hl:d9 [(zO2 0<=if zO2 18 < zO2 l.length then zO2 18 else zO2 l.length)∧(if zO2 18 < zO2 l.length then zO2 18 else zO2 l.length)<=zO2 l.length,(D4 xs (aZ [zO2 10] (if zO2 18 < zO2 l.length then zO2 18 else zO2 l.length))).length<=(D4 xs (aZ [zO2 10] (if zO2 18 < zO2 l.length then zO2 18 else zO2 l.length))).length,(s6 (qO (zO9 (if zO2 18 < zO2 l.length then zO2 18 else zO2 l.length).toNat l))).length<=(s6 (qO (zO9 (if zO2 18 < zO2 l.length then zO2 18 else zO2 l.length).toNat l))).length,Cn (zO9 (D4 xs (aZ [zO2 10] (if zO2 18 < zO2 l.length then zO2 18 else zO2 l.length))).length (D4 xs (aZ [zO2 10] (if zO2 18 < zO2 l.length then zO2 18 else zO2 l.length)))),Cn (zO9 (s6 (qO (zO9 (if zO2 18 < zO2 l.length then zO2 18 else zO2 l.length).toNat l))).length (s6 (qO (zO9 (if zO2 18 < zO2 l.length then zO2 18 else zO2 l.length).toNat l)))),(zO9 (D4 xs (aZ [zO2 10] (if zO2 18 < zO2 l.length then zO2 18 else zO2 l.length))).length (D4 xs (aZ [zO2 10] (if zO2 18 < zO2 l.length then zO2 18 else zO2 l.length)))).length < 549755813888,(zO9 (s6 (qO (zO9 (if zO2 18 < zO2 l.length then zO2 18 else zO2 l.length).toNat l))).length (s6 (qO (zO9 (if zO2 18 < zO2 l.length then zO2 18 else zO2 l.length).toNat l)))).length < 549755813888,zO2 0<=qO (zO9 (if zO2 18 < zO2 l.length then zO2 18 else zO2 l.length).toNat l)∧(qO (zO9 (if zO2 18 < zO2 l.length then zO2 18 else zO2 l.length).toNat l)).toNat < 18446744073709551616,xs.length=xs.length,(aZ [zO2 10] (if zO2 18 < zO2 l.length then zO2 18 else zO2 l.length)).length=(aZ [zO2 10] (if zO2 18 < zO2 l.length then zO2 18 else zO2 l.length)).length,Cn xs,Cn (aZ [zO2 10] (if zO2 18 < zO2 l.length then zO2 18 else zO2 l.length)),xs.length < 274877906944,(aZ [zO2 10] (if zO2 18 < zO2 l.length then zO2 18 else zO2 l.length)).length < 274877906944,1<=1,Cn [zO2 10],(zO2 0<=if zO2 18 < zO2 l.length then zO2 18 else zO2 l.length)∧(if zO2 18 < zO2 l.length then zO2 18 else zO2 l.length).toNat < 4611686018427387904,1+(if zO2 18 < zO2 l.length then zO2 18 else zO2 l.length).toNat*1 < 274877906944,zO2 0<=zO2 10∧10 < 18446744073709551616,T6 (zO9 (if zO2 18 < zO2 l.length then zO2 18 else zO2 l.length).toNat l),(zO9 (if zO2 18 < zO2 l.length then zO2 18 else zO2 l.length).toNat l).length<=18,0 < (zO9 (if zO2 18 < zO2 l.length then zO2 18 else zO2 l.length).toNat l).length,(zO2 0<=if zO2 18 < zO2 l.length then zO2 18 else zO2 l.length)∧(if zO2 18 < zO2 l.length then zO2 18 else zO2 l.length)<=zO2 l.length,decide (zO2 0 < zO2 l.length)=true]):u7 XW8 c1w (d1c l xs) .normal (d1c (l.drop (g0q l).toNat) (j2b xs l)):=
 stp zA 10 progOk.mixed [true] [(21,33),(22,34)] (by kernel_rfl) hl
theorem c1p (l l':List UInt8) (s:Bool) (R:List Int):A7 XW8 [X4 (.exit 0) (fun _=>e1q l')] 200 157 [.c (.v (.string ⟨⟨l⟩⟩))] [iL s R] [] =some [d5 XW8 c1w (o7 XW8 200 157 [.c (.v (.string ⟨⟨l⟩⟩))] []) (.exit 0) (e1q l'),zO8 false=zO8 s,R=[]] :=by kernel_rfl
theorem z0c (l l':List UInt8) (s:Bool) (xs R:List Int):A7 XW8 [X4 (.exit 0) (fun _=>d1c l' xs)] 200 157 [.c (.v (.string ⟨⟨l⟩⟩))] [iL s R] [] =some [d5 XW8 c1w (o7 XW8 200 157 [.c (.v (.string ⟨⟨l⟩⟩))] []) (.exit 0) (d1c l' xs),zO8 false=zO8 s,xs.length=R.length∧xs.length<=xs.length∧zO9 xs.length xs=R] :=by kernel_rfl
theorem x0c (l:List UInt8) (x:AX) (s':St) (h:d5 XW8 c1w (e1q l) x s'):d5 XW8 c1w (o7 XW8 200 157 [.c (.v (.string ⟨⟨l⟩⟩))] []) x s':=
 m6 h []
def dgN (l:List UInt8):Nat:=(Lib.decFrom 0 l).getD 0
theorem J8:∀ (l:List UInt8) (acc:Nat),Lib.decFrom acc l=(Lib.decFrom 0 l).map (fun n=>acc*10 ^l.length+n)
 | [],acc=>by simp [Lib.decFrom]
 | b ::r,acc=>by
  simp only [Lib.decFrom]
  cases h:Lib.digitVal b with
  | none=>rfl
  | some d=>
   simp only
   rw [J8 r (acc*10+d),J8 r (0*10+d)]
   cases Lib.decFrom 0 r with
   | none=>rfl
   | some n=>
    simp only [C8,u6,p9]
    congr 1
    rw [C0,Q6,u4]
    have:acc*10*10 ^r.length=acc*(10 ^r.length*10):=by rw [f9,n4 10]
    omega
theorem fC:∀ (l m:List UInt8) (acc:Nat),Lib.decFrom acc (l++m)=(Lib.decFrom acc l).bind fun a=>Lib.decFrom a m
 | [],m,acc=>rfl
 | b ::r,m,acc=>by
  simp only [dF,Lib.decFrom]
  cases Lib.digitVal b with
  | none=>rfl
  | some d=>exact fC r m _
theorem y0o {l:List UInt8} (h:T6 l) (k:Nat):T6 (l.take k)∧T6 (l.drop k)∧dgN l=dgN (l.take k)*10 ^(l.drop k).length+dgN (l.drop k):=by
 unfold T6 dgN at*
 have e:=fC (l.take k) (l.drop k) 0
 rw [l0g] at e
 rw [e] at h ⊢
 cases h1:Lib.decFrom 0 (l.take k) with
 | none=>rw [h1] at h; cases h
 | some a=>
  rw [h1] at h
  simp only [Option.bind_some] at h ⊢
  have s1:=J8 (l.drop k) a
  cases h2:Lib.decFrom 0 (l.drop k) with
  | none=>rw [s1,h2] at h; cases h
  | some n=>
   refine⟨rfl,rfl,?_⟩
   rw [s1,h2]
   rfl
theorem iY:∀ {l:List UInt8},T6 l->dgN l < 10 ^l.length:=by
 intro l
 induction l with
 | nil=>intro _; simp [dgN,Lib.decFrom]
 | cons b r ih=>
  intro h
  unfold T6 dgN at*
  simp only [Lib.decFrom] at h ⊢
  cases hb:Lib.digitVal b with
  | none=>rw [hb] at h; cases h
  | some d=>
   rw [hb] at h
   simp only at h ⊢
   rw [J8] at h ⊢
   have hd:d < 10:=by
    unfold Lib.digitVal at hb
    split at hb
    ·cases hb; omega
    ·cases hb
   cases hr:Lib.decFrom 0 r with
   | none=>rw [hr] at h; cases h
   | some n=>
    have:=ih (by rw [hr]; rfl)
    rw [hr] at this
    simp only [T2,C8,u6,p9] at this ⊢
    rw [C0,Q6]
    have q:d*10 ^r.length+10 ^r.length<=10*10 ^r.length:=by
     rw [<- Nat.succ_mul]
     exact o9 _ hd
    omega
theorem uG (k:Nat) {x:Nat} (h:x < 10 ^k):wl x<=k:=
 wl_le.2 (E3 h (oX (by decide) k))
theorem s1w {x:Nat} {l:List UInt8} (_:T6 l) (hp:0 < l.length):∃ k:Nat,g0q l=(k:Int)∧0 < k∧k<=18∧k<=l.length∧j2i l=ws W64 (10 ^k)∧p1y (ws W64 x) l=ws W64 (x*10 ^k)∧q1j l=ws W64 (dgN (l.take k))∧j2b (ws W64 x) l=ws W64 (x*10 ^k+dgN (l.take k)):=by
 have hk:∃ k:Nat,g0q l=(k:Int)∧0 < k∧k<=18∧k<=l.length:=by
  unfold g0q
  split
  ·rename_i hlt
   exact⟨18,rfl,by decide,d7 _,by have:=zzA186.1 hlt; omega⟩
  ·rename_i hlt
   refine⟨l.length,rfl,hp,?_,d7 _⟩
   have:¬ (18 < l.length):=fun h=>hlt (zzA186.2 h)
   omega
 obtain⟨k,e1,e2,e3,e4⟩:=hk
 have eP:j2i l=ws W64 (10 ^k):=by
  unfold j2i aZ
  rw [e1,i8]
  rfl
 have eM:p1y (ws W64 x) l=ws W64 (x*10 ^k):=by unfold p1y; rw [eP,S0]
 have eW:q1j l=ws W64 (dgN (l.take k)):=by
  unfold q1j s6 qO dgN
  rw [e1,i8,i8]
 refine⟨k,e1,e2,e3,e4,eP,eM,eW,?_⟩
 unfold j2b
 rw [eM,eW,y5,y5]
 unfold e0l
 rw [s7,s7]
 rfl
theorem r1a {N R:Nat} (hN:N < 100000000000) {x:Nat} {l:List UInt8} (h:T6 l) (hp:0 < l.length) (hl:l.length<=N) (hx:x < 10 ^(N-l.length)) (hR:x*10 ^l.length+dgN l=R):
  ∃ (k x':Nat),0 < k∧k<=l.length∧T6 (l.drop k)∧x' < 10 ^(N- (l.drop k).length)∧x'*10 ^(l.drop k).length+dgN (l.drop k)=R∧
   (x=0->u7 XW8 c1w (e1q l) .normal (d1c (l.drop k) (ws W64 x')))∧u7 XW8 c1w (d1c l (ws W64 x)) .normal (d1c (l.drop k) (ws W64 x')):=by
 obtain⟨k,e1,e2,e3,e4,eP,eM,eW,eX⟩:=s1w (x:=x) h hp
 obtain⟨a1,a2,a3⟩:=y0o h k
 have hdl:(l.drop k).length=l.length-k:=D5
 have htl:(l.take k).length=k:=by rw [A9]; omega
 have hd:=iY a1
 rw [htl] at hd
 have hx10:x*10 ^k+dgN (l.take k) < 10 ^(N- (l.drop k).length):=by
  rw [hdl,show N- (l.length-k)=(N-l.length)+k by omega,i7]
  have:(x+1)*10 ^k<=10 ^(N-l.length)*10 ^k:=o9 _ hx
  rw [u4,V1] at this
  omega
 have hxm:x*10 ^k < 10 ^(N- (l.drop k).length):=by omega
 have hd18:dgN (l.take k) < 10 ^18:=E3 hd (w7 (by decide) e3)
 have hdW:dgN (l.take k) < W64:=pM hd18 (by decide)
 have w1:wl x<=N:=by have:=uG _ hx; omega
 have w2:wl (10 ^k)<=k+1:=uG (k+1) (zC (by decide) (aX k))
 have w3:wl (x*10 ^k)<=N:=by have:=uG _ hxm; omega
 have w4:wl (dgN (l.take k))<=18:=uG _ hd18
 have eWt:s6 (qO (l.take k))=ws W64 (dgN (l.take k)):=by unfold s6 qO dgN; rw [i8]
 have ht:(g0q l).toNat=k:=by rw [e1,i8]
 have c10:Cn [zO2 10] :=by show [10] =ws W64 (val W64 [10]); decide
 have oK:zO2 0<=g0q l∧g0q l<=zO2 l.length:=by rw [e1]; exact⟨zzA185.2 (n6 _),zzA185.2 e4⟩
 have oK2:zO2 0<=g0q l∧(g0q l).toNat < 4611686018427387904:=⟨oK.1,by rw [ht]; omega⟩
 have oK3:1+(g0q l).toNat*1 < 274877906944:=by rw [ht]; omega
 have oM:Cn (zO9 (p1y (ws W64 x) l).length (p1y (ws W64 x) l)):=by rw [y5,eM]; exact Cn.ws _
 have oM2:(zO9 (p1y (ws W64 x) l).length (p1y (ws W64 x) l)).length < 549755813888:=by rw [y5,eM]; show wl _ < _; omega
 have oW:Cn (zO9 (q1j l).length (q1j l)):=by rw [y5,eW]; exact Cn.ws _
 have oW2:(zO9 (q1j l).length (q1j l)).length < 549755813888:=by rw [y5,eW]; show wl _ < _; omega
 have oD:zO2 0<=qO (zO9 (g0q l).toNat l)∧(qO (zO9 (g0q l).toNat l)).toNat < 18446744073709551616:=by
  rw [ht]
  unfold qO
  exact⟨zzA185.2 (n6 _),by rw [i8]; exact hdW⟩
 have oP:Cn (j2i l):=by rw [eP]; exact Cn.ws _
 have oP2:(j2i l).length < 274877906944:=by rw [eP]; show wl _ < _; omega
 have oA:T6 (zO9 (g0q l).toNat l):=by rw [ht]; exact a1
 have oT:(zO9 (g0q l).toNat l).length<=18:=by rw [ht,htl]; exact e3
 have oT2:0 < (zO9 (g0q l).toNat l).length:=by rw [ht,htl]; exact e2
 have oL:decide (zO2 0 < zO2 l.length)=true:=d4 (zzA186.2 hp)
 refine⟨k,x*10 ^k+dgN (l.take k),e2,e4,a2,hx10,?_,fun h0=> ?_,?_⟩
 ·rw [<- hR,a3,u4,f9,<- i7,hdl,show k+(l.length-k)=l.length by omega]
  omega
 ·subst h0
  have:=n1y l ⟨oK,d7 _,d7 _,oM,oW,oM2,oW2,oD,rfl,Cn.ws 0,oP,by decide,oP2,d7 _,c10,oK2,oK3,⟨by decide,by decide⟩,oA,oT,oT2,oK,oL,a7⟩
  rw [ht,show j2b [] l=j2b (ws W64 0) l from rfl,eX] at this
  exact this
 ·have:=r1v l (ws W64 x) ⟨oK,d7 _,d7 _,oM,oW,oM2,oW2,oD,rfl,rfl,Cn.ws x,oP,by show wl x < _; omega,oP2,d7 _,c10,oK2,oK3,⟨by decide,by decide⟩,oA,oT,oT2,oK,oL,a7⟩
  rw [ht,eX] at this
  exact this
structure PaPl where
 first:Bool
 x:Nat
 l:List UInt8
def TPa (p:PaPl):St:=match p.first with
 | true=>e1q p.l
 | false=>d1c p.l (ws W64 p.x)
def j2p (N R:Nat) (p:PaPl):Prop:=T6 p.l∧p.l.length<=N∧p.x < 10 ^(N-p.l.length)∧p.x*10 ^p.l.length+dgN p.l=R∧(p.first=true->p.x=0∧0 < p.l.length)
theorem m1y {l:List UInt8} (h:T6 l) (hN:l.length < 100000000000):Ev.Sem zO7 J0 157 [.c (.v (.string ⟨⟨l⟩⟩))] [iW false (ws W64 (dgN l))] :=by
 rcases F2 l.length with h0 | h0
 ·have:=nJ h0
  subst this
  have hL:d5 XW8 c1w (e1q []) (.exit 0) (e1q []):=A8 (fun _=>e1q []) 0 (by intro e; cases e) (fun k hk=>by omega) (r1y [] ⟨rfl,a7⟩)
  exact l6 zA 10 _ _ (c1p [] [] false _) ⟨x0c _ _ _ hL,rfl,rfl,a7⟩
 ·have hL:=G3 (X:=XW8) (c:=c1w) (x:= .exit 0) TPa (fun p=>p.l.length) (j2p l.length (dgN l)) (by intro e; cases e) (s':=d1c [] (ws W64 (dgN l))) (fun p hp=>by
   obtain⟨f,x,r⟩:=p
   obtain⟨g1,g2,g3,g4,g5⟩:=hp
   simp only at g1 g2 g3 g4 g5
   rcases F2 r.length with q | q
   ·have:=nJ q
    subst this
    cases f
    ·right
     have e:x=dgN l:=by
      rw [<- g4]
      simp [dgN,Lib.decFrom]
     subst e
     exact s1b [] _ ⟨rfl,a7⟩
    ·exact absurd (g5 rfl).2 (by simp)
   ·left
    obtain⟨k,x',k1,k2,k3,k4,k5,k6,k7⟩:=r1a hN g1 q g2 g3 g4
    refine⟨⟨false,x',r.drop k⟩,⟨k3,by simp only [D5]; omega,k4,k5,by intro e; cases e⟩,by simp only [D5]; omega,?_⟩
    cases f
    ·exact k7
    ·exact k6 (g5 rfl).1) ⟨true,0,l⟩ ⟨h,d7 _,by simp,by simp,fun _=>⟨rfl,h0⟩⟩
  exact l6 zA 10 _ _ (z0c l [] false _ _) ⟨x0c _ _ _ hL,rfl,⟨rfl,d7 _,y5⟩,a7⟩
def E1 (l:List UInt8):List Int:=ws W64 (dgN l)
def sW:List Arg->Option (List Arg×List Prop)
 | [.c (.v (.string s))] =>some ([iW false (E1 s.data.toList)],[T6 s.data.toList,s.data.toList.length < 100000000000])
 | _=>none
theorem i0d:∀ az rs l,sW az=some (rs,l)->d9 l->Ev.Sem zO7 J0 157 az rs:=by
 intro az rs l h hl
 unfold sW at h
 split at h
 ·cases h
  obtain⟨h1,h2,_⟩:=hl
  exact m1y h1 h2
 ·cases h
def x1a:iG:=m4 157 (z6 [shV] sW) g1w
theorem f1c:iD zO7 J0 x1a:=d8 (l7 _ i0d) m0f
theorem f2h {xs ys:List Int} (hy:Cn ys):f1k false false xs ys=if val W64 xs < val W64 ys then -1 else if val W64 xs=val W64 ys then 0 else 1:=by
 unfold f1k r2n q2h e0l k2o
 rw [s7]
 have hl:0 < ys.length↔0 < val W64 ys:=by
  have:=wl_pos (m:=val W64 ys)
  unfold wl at this
  rw [<- hy] at this
  exact this
 unfold s1t x1g
 by_cases h:0 < ys.length
 ·have hp:=hl.1 h
  rw [d4 h]
  simp only [Bool.not_false,k0e,P3,D7,Bool.false_and,j2e]
  rcases aR (val W64 xs) (val W64 ys) with c | c | c
  ·have h1:¬ val W64 ys<=val W64 xs:=by omega
   have h2:¬ (val W64 ys-val W64 xs=0):=by omega
   have h3:val W64 xs < val W64 ys:=c
   simp [h1,h2,h3]
  ·have h1:val W64 ys<=val W64 xs:=by omega
   have h2:val W64 xs-val W64 ys=0:=by omega
   have h3:¬ val W64 xs < val W64 ys:=by omega
   simp [c]
  ·have h1:val W64 ys<=val W64 xs:=by omega
   have h2:¬ (val W64 xs-val W64 ys=0):=by omega
   have h3:¬ val W64 xs < val W64 ys:=by omega
   have h4:¬ val W64 xs=val W64 ys:=by omega
   simp [h1,h2,h3,h4]
 ·have hp:val W64 ys=0:=by
   rcases F2 (val W64 ys) with c | c
   ·exact c
   ·exact absurd (hl.2 c) h
  rw [b8 h,hp]
  simp only [Bool.not_false,j0x,J3,E4,Bool.false_and,Nat.not_lt_zero,D7]
  split <;> rfl
def k2v (xs:List Int):Int:=((val W64 xs%W64:Nat):Int)
def g0l:List Arg->Option (List Arg×List Prop)
 | [.a [.v (.bool _), .s 39 .u64 xs]] =>some ([uR (k2v xs)],[Cn xs])
 | _=>none
theorem o0s:∀ az rs l,g0l az=some (rs,l)->d9 l->Ev.Sem zO7 J0 181 az rs:=by
 intro az rs l h hl
 unfold g0l at h
 split at h
 ·rename_i a xs
  cases h
  have h1:xs=ws W64 (val W64 xs):=hl.1
  have:=h1o a (val W64 xs)
  unfold iN at this
  rw [<- h1] at this
  exact this
 ·cases h
def k0c:iG:=m4 181 (z6 [shI] g0l) x1a
theorem iX:iD zO7 J0 k0c:=d8 (l7 _ o0s) f1c
def bWA:Base:=⟨zO7,J0,false,c1n,k0c,200,I6⟩
theorem yT:BaseOk bWA:=⟨progOk,kC,iX,m0⟩
abbrev XWA:Cx:=bWA.cx 10
theorem f2b (a r:Bool) (xs:List Int):A7 XWA [] 200 160 [iL a xs] [.c (.v (.bool r))] [] =some [xs.length=xs.length,Cn xs,zO8 (bits .and .u64 (k2v xs) 1==1)=zO8 r] :=by kernel_rfl
theorem f1g {n:Nat} (h:n < W64):bits .and .u64 (n:Int) 1=((n%2:Nat):Int):=by
 have h':n < 18446744073709551616:=h
 have hW:(2:Nat) ^64=18446744073709551616:=by decide
 unfold bits
 simp only [IntKind.bits,pG]
 show uI.wrap _=_
 have e:(BitVec.ofNat 64 n&&& zO10 64 1).toNat=n%2:=by
  rw [bV,oJ]
  rw [H3 (by omega)]
  exact Nat.and_one_is_mod n
 refine Eq.trans (H5 (fun z:Nat=>uI.wrap ((z:Nat):Int)) e) ?_
 show uI.wrap ((n%2:Nat):Int)=_
 rw [O3]
 omega
theorem b2t (a:Bool) {xs:List Int} (hx:Cn xs):Ev.Sem zO7 J0 160 [iL a xs] [.c (.v (.bool (decide (val W64 xs%2=1))))] :=by
 refine l6 yT 10 _ _ (f2b a _ xs) ⟨rfl,hx,?_,a7⟩
 have h2:val W64 xs%W64%2=val W64 xs%2:=Nat.mod_mod_of_dvd _ (by decide)
 unfold k2v
 rw [f1g (B0 _ g9),h2]
 congr 1
 by_cases h:val W64 xs%2=1
 ·rw [h]; rfl
 ·have:val W64 xs%2=0:=by omega
  rw [this]; rfl
def v1e (xs:List Int):Bool:=decide (val W64 xs%2=1)
def q0f:List Arg->Option (List Arg×List Prop)
 | [.a [.v (.bool _), .s 39 .u64 xs]] =>some ([.c (.v (.bool (v1e xs)))],[Cn xs])
 | _=>none
theorem b1z:∀ az rs l,q0f az=some (rs,l)->d9 l->Ev.Sem zO7 J0 160 az rs:=by
 intro az rs l h hl
 unfold q0f at h
 split at h
 ·cases h
  exact b2t _ hl.1
 ·cases h
abbrev vlA (n a:Bool) (N:List Int) (b:Bool) (D:List Int):Arg:= .a [.v (.bool n), .v (.bool false), .v (.bool a), .s Z8 .u64 N, .v (.bool b), .s Z8 .u64 D]
abbrev bR (b:Bool):Arg:= .c (.v (.bool b))
theorem v2j (n s w:Bool) (N D Q:List Int) (e h:Int):A7 XWA [] 200 180 [vlA n false N false D,iR e] [iL s Q,iR h,bR w] [false,true,true] =some [N.length=N.length,Cn N,(m5 N (zO2 1)).length=(m5 N (zO2 1)).length,(m5 D e).length=(m5 D e).length,Cn (m5 N (zO2 1)),Cn (m5 D e),(m5 N (zO2 1)).length < 549755813888,(m5 D e).length < 549755813888,N.length=N.length,Cn N,N.length < 549755813888,zO2 0<=zO2 1∧1 < 549755813888,Cn N,Cn (zO9 (m5 D e).length (m5 D e)),N.length < 274877906944,(zO9 (m5 D e).length (m5 D e)).length < 274877906944,kH N (zO9 (m5 D e).length (m5 D e)),N.length=N.length,(m5 D e).length<=(m5 D e).length,D.length=D.length,Cn D,D.length < 549755813888,zO2 0<=e∧e.toNat < 549755813888,decide (zO2 0<=e)=true,false=false,zO8 false=zO8 s,Q=[],zO3 iI (f1k (wB false (m5 N (zO2 1))) (wB false (m5 D e)) (m5 N (zO2 1)) (m5 D e))=zO3 iI h,zO8 ((if val 18446744073709551616 N=0 then zO2 0 else zO2 1)==zO2 0)=zO8 w] :=by kernel_rfl
theorem r2r (n s w:Bool) (N D Q:List Int) (e h:Int):A7 XWA [] 200 180 [vlA n false N false D,iR e] [iL s Q,iR h,bR w] [false,true,false] =some [(eV N (zO9 (m5 D e).length (m5 D e))).length=(eV N (zO9 (m5 D e).length (m5 D e))).length,Cn (eV N (zO9 (m5 D e).length (m5 D e))),(m5 (eV N (zO9 (m5 D e).length (m5 D e))) (zO2 1)).length=(m5 (eV N (zO9 (m5 D e).length (m5 D e))) (zO2 1)).length,(m5 D e).length=(m5 D e).length,Cn (m5 (eV N (zO9 (m5 D e).length (m5 D e))) (zO2 1)),Cn (m5 D e),(m5 (eV N (zO9 (m5 D e).length (m5 D e))) (zO2 1)).length < 549755813888,(m5 D e).length < 549755813888,(eV N (zO9 (m5 D e).length (m5 D e))).length=(eV N (zO9 (m5 D e).length (m5 D e))).length,Cn (eV N (zO9 (m5 D e).length (m5 D e))),(eV N (zO9 (m5 D e).length (m5 D e))).length < 549755813888,zO2 0<=zO2 1∧1 < 549755813888,N.length=N.length,(m5 D e).length<=(m5 D e).length,Cn N,Cn (zO9 (m5 D e).length (m5 D e)),N.length < 274877906944,0 < (zO9 (m5 D e).length (m5 D e)).length,kH N (zO9 (m5 D e).length (m5 D e))->False,D.length=D.length,Cn D,D.length < 549755813888,zO2 0<=e∧e.toNat < 549755813888,decide (zO2 0<=e)=true,false=false,zO8 false=zO8 s,(n0m N (zO9 (m5 D e).length (m5 D e))).length=Q.length∧(n0m N (zO9 (m5 D e).length (m5 D e))).length<=(n0m N (zO9 (m5 D e).length (m5 D e))).length∧zO9 (n0m N (zO9 (m5 D e).length (m5 D e))).length (n0m N (zO9 (m5 D e).length (m5 D e)))=Q,zO3 iI (f1k (wB false (m5 (eV N (zO9 (m5 D e).length (m5 D e))) (zO2 1))) (wB false (m5 D e)) (m5 (eV N (zO9 (m5 D e).length (m5 D e))) (zO2 1)) (m5 D e))=zO3 iI h,zO8 ((if val 18446744073709551616 (eV N (zO9 (m5 D e).length (m5 D e)))=0 then zO2 0 else zO2 1)==zO2 0)=zO8 w] :=by kernel_rfl
theorem w2b (n s w:Bool) (N D Q:List Int) (e h:Int):A7 XWA [] 200 180 [vlA n false N false D,iR e] [iL s Q,iR h,bR w] [false,false,true] =some [(m5 N (iI.wrap (zO2 0-e))).length=(m5 N (iI.wrap (zO2 0-e))).length,Cn (m5 N (iI.wrap (zO2 0-e))),(m5 (m5 N (iI.wrap (zO2 0-e))) (zO2 1)).length=(m5 (m5 N (iI.wrap (zO2 0-e))) (zO2 1)).length,D.length=D.length,Cn (m5 (m5 N (iI.wrap (zO2 0-e))) (zO2 1)),Cn D,(m5 (m5 N (iI.wrap (zO2 0-e))) (zO2 1)).length < 549755813888,D.length < 549755813888,(m5 N (iI.wrap (zO2 0-e))).length=(m5 N (iI.wrap (zO2 0-e))).length,Cn (m5 N (iI.wrap (zO2 0-e))),(m5 N (iI.wrap (zO2 0-e))).length < 549755813888,zO2 0<=zO2 1∧1 < 549755813888,Cn (zO9 (m5 N (iI.wrap (zO2 0-e))).length (m5 N (iI.wrap (zO2 0-e)))),Cn D,(zO9 (m5 N (iI.wrap (zO2 0-e))).length (m5 N (iI.wrap (zO2 0-e)))).length < 274877906944,D.length < 274877906944,kH (zO9 (m5 N (iI.wrap (zO2 0-e))).length (m5 N (iI.wrap (zO2 0-e)))) D,(m5 N (iI.wrap (zO2 0-e))).length<=(m5 N (iI.wrap (zO2 0-e))).length,D.length=D.length,N.length=N.length,Cn N,N.length < 549755813888,zO2 0<=iI.wrap (zO2 0-e)∧(iI.wrap (zO2 0-e)).toNat < 549755813888,decide (zO2 0<=e)=false,false=false,zO8 false=zO8 s,Q=[],zO3 iI (f1k (wB (wB false (m5 N (iI.wrap (zO2 0-e)))) (m5 (m5 N (iI.wrap (zO2 0-e))) (zO2 1))) false (m5 (m5 N (iI.wrap (zO2 0-e))) (zO2 1)) D)=zO3 iI h,zO8 ((if val 18446744073709551616 (m5 N (iI.wrap (zO2 0-e)))=0 then zO2 0 else zO2 1)==zO2 0)=zO8 w] :=by kernel_rfl
theorem v2f (n s w:Bool) (N D Q:List Int) (e h:Int):A7 XWA [] 200 180 [vlA n false N false D,iR e] [iL s Q,iR h,bR w] [false,false,false] =some [(eV (zO9 (m5 N (iI.wrap (zO2 0-e))).length (m5 N (iI.wrap (zO2 0-e)))) D).length=(eV (zO9 (m5 N (iI.wrap (zO2 0-e))).length (m5 N (iI.wrap (zO2 0-e)))) D).length,Cn (eV (zO9 (m5 N (iI.wrap (zO2 0-e))).length (m5 N (iI.wrap (zO2 0-e)))) D),(m5 (eV (zO9 (m5 N (iI.wrap (zO2 0-e))).length (m5 N (iI.wrap (zO2 0-e)))) D) (zO2 1)).length=(m5 (eV (zO9 (m5 N (iI.wrap (zO2 0-e))).length (m5 N (iI.wrap (zO2 0-e)))) D) (zO2 1)).length,D.length=D.length,Cn (m5 (eV (zO9 (m5 N (iI.wrap (zO2 0-e))).length (m5 N (iI.wrap (zO2 0-e)))) D) (zO2 1)),Cn D,(m5 (eV (zO9 (m5 N (iI.wrap (zO2 0-e))).length (m5 N (iI.wrap (zO2 0-e)))) D) (zO2 1)).length < 549755813888,D.length < 549755813888,(eV (zO9 (m5 N (iI.wrap (zO2 0-e))).length (m5 N (iI.wrap (zO2 0-e)))) D).length=(eV (zO9 (m5 N (iI.wrap (zO2 0-e))).length (m5 N (iI.wrap (zO2 0-e)))) D).length,Cn (eV (zO9 (m5 N (iI.wrap (zO2 0-e))).length (m5 N (iI.wrap (zO2 0-e)))) D),(eV (zO9 (m5 N (iI.wrap (zO2 0-e))).length (m5 N (iI.wrap (zO2 0-e)))) D).length < 549755813888,zO2 0<=zO2 1∧1 < 549755813888,(m5 N (iI.wrap (zO2 0-e))).length<=(m5 N (iI.wrap (zO2 0-e))).length,D.length=D.length,Cn (zO9 (m5 N (iI.wrap (zO2 0-e))).length (m5 N (iI.wrap (zO2 0-e)))),Cn D,(zO9 (m5 N (iI.wrap (zO2 0-e))).length (m5 N (iI.wrap (zO2 0-e)))).length < 274877906944,0 < D.length,kH (zO9 (m5 N (iI.wrap (0-e))).length (m5 N (iI.wrap (0-e)))) D->False,N.length=N.length,Cn N,N.length < 549755813888,zO2 0<=iI.wrap (zO2 0-e)∧(iI.wrap (zO2 0-e)).toNat < 549755813888,decide (zO2 0<=e)=false,false=false,zO8 false=zO8 s,(n0m (zO9 (m5 N (iI.wrap (zO2 0-e))).length (m5 N (iI.wrap (zO2 0-e)))) D).length=Q.length∧(n0m (zO9 (m5 N (iI.wrap (zO2 0-e))).length (m5 N (iI.wrap (zO2 0-e)))) D).length<=(n0m (zO9 (m5 N (iI.wrap (zO2 0-e))).length (m5 N (iI.wrap (zO2 0-e)))) D).length∧zO9 (n0m (zO9 (m5 N (iI.wrap (zO2 0-e))).length (m5 N (iI.wrap (zO2 0-e)))) D).length (n0m (zO9 (m5 N (iI.wrap (zO2 0-e))).length (m5 N (iI.wrap (zO2 0-e)))) D)=Q,zO3 iI (f1k (wB false (m5 (eV (zO9 (m5 N (iI.wrap (zO2 0-e))).length (m5 N (iI.wrap (zO2 0-e)))) D) (zO2 1))) false (m5 (eV (zO9 (m5 N (iI.wrap (zO2 0-e))).length (m5 N (iI.wrap (zO2 0-e)))) D) (zO2 1)) D)=zO3 iI h,zO8 ((if val 18446744073709551616 (eV (zO9 (m5 N (iI.wrap (zO2 0-e))).length (m5 N (iI.wrap (zO2 0-e)))) D)=0 then zO2 0 else zO2 1)==zO2 0)=zO8 w] :=by kernel_rfl
theorem i2i (s:Bool) (R:List Int) (n:Int):A7 XWA [] 200 156 [iR n] [iL s R] [] =some [1<=1,Cn [zO2 10],zO2 0<=n∧n.toNat < 4611686018427387904,1+n.toNat*1 < 274877906944,zO2 0<=zO2 10∧10 < 18446744073709551616,zO8 false=zO8 s,(aZ [zO2 10] n).length=R.length∧(aZ [zO2 10] n).length<=(aZ [zO2 10] n).length∧zO9 (aZ [zO2 10] n).length (aZ [zO2 10] n)=R] :=by kernel_rfl
def atA (N:Nat) (e:Int):Nat:=if 0<=e then N else N*2 ^(-e).toNat
def atB (D:Nat) (e:Int):Nat:=if 0<=e then D*2 ^e.toNat else D
def cmN (a b:Nat):Int:=if a < b then -1 else if a=b then 0 else 1
theorem mX (a:Nat) (n:Int):m5 (ws W64 a) n=ws W64 (a*2 ^n.toNat):=by unfold m5; rw [s7]
theorem q0l (a b:Nat):n0m (ws W64 a) (ws W64 b)=ws W64 (a/b):=by unfold n0m; rw [s7,s7]
theorem p0e (a b:Nat):eV (ws W64 a) (ws W64 b)=ws W64 (a%b):=by unfold eV; rw [s7,s7]
theorem e0c (m:Nat):val 18446744073709551616 (ws W64 m)=m:=s7 m
theorem tW (a b:Nat):f1k false false (ws W64 a) (ws W64 b)=cmN a b:=by
 rw [f2h (Cn.ws b),s7,s7]; rfl
theorem v1s (xs:List Int):wB false xs=false:=rfl
theorem K0 (a b:Nat):kH (ws W64 a) (ws W64 b)↔a < b:=by unfold kH; rw [s7,s7]
theorem t0n (r:Nat):((if r=0 then zO2 0 else zO2 1)==zO2 0)=decide (r=0):=by
 by_cases h:r=0
 ·rw [b9 h,d4 h]; rfl
 ·rw [a6 h,b8 h]; rfl
theorem y1x (r:Nat):wl (r*2 ^(zO2 1).toNat)<=wl r+1:=by
 have:=d1i r (2 ^(zO2 1).toNat)
 have h2:wl (2 ^(zO2 1).toNat)<=1:=wl_le.2 (by decide)
 omega
theorem n2c (n:Bool) {N D:Nat} {e:Int} (hD:0 < D) (h1:wl N < 100000000000) (h2:wl D < 100000000000) (h3:wl (atA N e) < 100000000000) (h4:wl (atB D e) < 100000000000) (he: -500000000000<=e∧e<=500000000000):
  Ev.Sem zO7 J0 180 [vlA n false (ws W64 N) false (ws W64 D),iR e] [iL false (ws W64 (atA N e/atB D e)),iR (cmN (atA N e%atB D e*2) (atB D e)),bR (decide (atA N e%atB D e=0))] :=by
 have hw1:=y1x (atA N e)
 have hw2:=y1x (atA N e%atB D e)
 have hm:wl (atA N e%atB D e)<=wl (atA N e):=cH (Nat.mod_le _ _)
 by_cases h0:0<=e
 ·have hA:atA N e=N:=b9 h0
  have hB:atB D e=D*2 ^e.toNat:=b9 h0
  have d0:decide (zO2 0<=e)=true:=d4 h0
  have hBp:0 < atB D e:=by rw [hB]; exact B6 hD (p7 (by decide))
  by_cases hlt:atA N e < atB D e
  ·rw [uE hlt,H3 hlt]
   refine l6 yT 10 _ _ (v2j n false _ (ws W64 N) (ws W64 D) [] e _) ?_
   simp only [hA,hB] at h3 h4 hw1 hw2 hm hlt hBp ⊢
   simp only [d9,mX,y5,v1s,tW,e0c,t0n]
   repeat' apply And.intro
   all_goals first
    | exact trivial
    | exact rfl
    | exact Cn.ws _
    | exact d7 _
    | assumption
    | exact (K0 _ _).2 hlt
    | exact fun h=>hlt ((K0 _ _).1 h)
    | (show wl _ < _; omega)
    | (show 0 < wl _; exact wl_pos.2 hBp)
    | decide
    | omega
    | (show (0:Int)<=-e; omega)
  ·refine l6 yT 10 _ _ (r2r n false _ (ws W64 N) (ws W64 D) (ws W64 (atA N e/atB D e)) e _) ?_
   simp only [hA,hB] at h3 h4 hw1 hw2 hm hlt hBp ⊢
   simp only [d9,mX,q0l,p0e,y5,v1s,tW,e0c,t0n]
   repeat' apply And.intro
   all_goals first
    | exact trivial
    | exact rfl
    | exact Cn.ws _
    | exact d7 _
    | assumption
    | exact (K0 _ _).2 hlt
    | exact fun h=>hlt ((K0 _ _).1 h)
    | (show wl _ < _; omega)
    | (show 0 < wl _; exact wl_pos.2 hBp)
    | decide
    | omega
    | (show (0:Int)<=-e; omega)
 ·have hA:atA N e=N*2 ^(-e).toNat:=a6 h0
  have hB:atB D e=D:=a6 h0
  have d0:decide (zO2 0<=e)=false:=b8 h0
  have hBp:0 < atB D e:=by rw [hB]; exact hD
  have hW:iI.wrap (zO2 0-e)= -e:=by
   have:=F9 (zO2 0-e)
   have e0:zO2 0-e=0-e:=rfl
   rw [e0] at this ⊢
   omega
  have hV:iI.wrap (0-e)= -e:=hW
  by_cases hlt:atA N e < atB D e
  ·rw [uE hlt,H3 hlt]
   refine l6 yT 10 _ _ (w2b n false _ (ws W64 N) (ws W64 D) [] e _) ?_
   simp only [hA,hB] at h3 h4 hw1 hw2 hm hlt hBp ⊢
   simp only [d9,hW,mX,y5,v1s,tW,e0c,t0n]
   repeat' apply And.intro
   all_goals first
    | exact trivial
    | exact rfl
    | exact Cn.ws _
    | exact d7 _
    | assumption
    | exact (K0 _ _).2 hlt
    | exact fun h=>hlt ((K0 _ _).1 h)
    | (show wl _ < _; omega)
    | (show 0 < wl _; exact wl_pos.2 hBp)
    | decide
    | omega
    | (show (0:Int)<=-e; omega)
  ·refine l6 yT 10 _ _ (v2f n false _ (ws W64 N) (ws W64 D) (ws W64 (atA N e/atB D e)) e _) ?_
   simp only [hA,hB] at h3 h4 hw1 hw2 hm hlt hBp ⊢
   simp only [d9,hW,mX,q0l,p0e,y5,v1s,tW,e0c,t0n]
   repeat' apply And.intro
   all_goals first
    | exact trivial
    | exact rfl
    | exact Cn.ws _
    | exact d7 _
    | assumption
    | exact (K0 _ _).2 hlt
    | exact fun h=>hlt ((K0 _ _).1 (by rw [hW] at h; exact h))
    | exact fun h=>hlt ((K0 _ _).1 (by rw [hV] at h; exact h))
    | (show wl _ < _; omega)
    | (show 0 < wl _; exact wl_pos.2 hBp)
    | decide
    | omega
    | (show (0:Int)<=-e; omega)
def atQ (N D:List Int) (e:Int):List Int:=ws W64 (atA (val W64 N) e/atB (val W64 D) e)
def atH (N D:List Int) (e:Int):Int:=cmN (atA (val W64 N) e%atB (val W64 D) e*2) (atB (val W64 D) e)
def atZ (N D:List Int) (e:Int):Bool:=decide (atA (val W64 N) e%atB (val W64 D) e=0)
def v2w (N D:List Int) (e:Int):Prop:=Cn N∧Cn D∧0 < val W64 D∧N.length < 100000000000∧D.length < 100000000000∧wl (atA (val W64 N) e) < 100000000000∧wl (atB (val W64 D) e) < 100000000000∧-500000000000<=e∧e<=500000000000
def e0j (w:Bool):List Arg->Option (List Arg×List Prop)
 | [.a [.v (.bool _), .v (.bool false), .v (.bool false), .s 39 .u64 N, .v (.bool false), .s 39 .u64 D], .c (.v (.int .i64 e))] =>some ([iL false (atQ N D e),iR (atH N D e),bR w],[v2w N D e,atZ N D e=w])
 | _=>none
theorem zG (w:Bool):∀ az rs l,e0j w az=some (rs,l)->d9 l->Ev.Sem zO7 J0 180 az rs:=by
 intro az rs l h hl
 unfold e0j at h
 split at h
 ·cases h
  rename_i n N D e
  obtain⟨⟨c1,c2,hD,h1,h2,h3,h4,h5,h6⟩,hz,_⟩:=hl
  unfold Cn at c1 c2
  have:=n2c n (N:=val W64 N) (D:=val W64 D) (e:=e) hD (by unfold wl; rw [<- c1]; exact h1) (by unfold wl; rw [<- c2]; exact h2) h3 h4 ⟨h5,h6⟩
  rw [<- c1,<- c2] at this
  rw [<- hz]
  exact this
 ·cases h
def C6 (n:Int):List Int:=ws W64 (10 ^n.toNat)
theorem h2h {n:Nat} (h:n < 100000000000):Ev.Sem zO7 J0 156 [iR n] [iL false (ws W64 (10 ^n))] :=by
 have c10:Cn [zO2 10] :=by show [10] =ws W64 (val W64 [10]); decide
 have e:aZ [10] (n:Int)=ws W64 (10 ^n):=by
  unfold aZ
  rw [i8]
  rfl
 refine l6 yT 10 _ _ (i2i false (ws W64 (10 ^n)) n) ?_
 simp only [d9,y5]
 repeat' apply And.intro
 all_goals first
  | exact trivial
  | exact rfl
  | exact c10
  | exact d7 _
  | exact y9 _
  | decide
  | (rw [i8]; omega)
def c0l:List Arg->Option (List Arg×List Prop)
 | [.c (.v (.int .i64 n))] =>some ([iL false (C6 n)],[0<=n∧n < 100000000000])
 | _=>none
theorem zJ:∀ az rs l,c0l az=some (rs,l)->d9 l->Ev.Sem zO7 J0 156 az rs:=by
 intro az rs l h hl
 unfold c0l at h
 split at h
 ·cases h
  rename_i n
  obtain⟨⟨h1,h2⟩,_⟩:=hl
  obtain⟨m,rfl⟩:=kK h1
  have:=h2h (n:=m) (by omega)
  exact this
 ·cases h
abbrev shM:AS:= .a [.v, .v, .v, .s Z8 .u64, .v, .s Z8 .u64]
def rM:iG:=m4 180 (c0x (z6 [shM,shV] (e0j true)) (z6 [shM,shV] (e0j false))) (m4 156 (z6 [shV] c0l) k0c)
theorem dG:iD zO7 J0 rM:=d8 (zM (l7 _ (zG true)) (l7 _ (zG false))) (d8 (l7 _ zJ) iX)
def bRo1:Base:=⟨zO7,J0,false,c1n,rM,200,I6⟩
theorem vH:BaseOk bRo1:=⟨progOk,kC,dG,m0⟩
abbrev u2i:Cx:=bRo1.cx 10
abbrev kR (a b c:Int):Arg:= .a [.v (.int .i64 a), .v (.int .i64 b), .v (.int .i64 c)]
abbrev fR (a b c:Bool):Arg:= .a [.v (.bool a), .v (.bool b), .v (.bool c)]
def flN (K:Int) (N D:List Int):Int:=iI.wrap (iI.wrap (iI.wrap (x1p N-x1p D)-K)-2)
def flE (K L:Int) (N D:List Int):Int:=if L < flN K N D then flN K N D else L
def flO (K:Int) (Q:List Int):Int:=iI.wrap (x1p Q-K)
abbrev flM (Q:List Int):Int:=k2v (Q.take Q.length)
def flU (Q:List Int):Int:=uI.wrap (flM Q+1)
def flB (h:Int) (Q:List Int):Bool:=match decide (h > 0) with | true=>true | false=>match h==0 with | true=>bits .and .u64 (flM Q) 1==1 | false=>false
def flC (P:Nat) (m:Int):Bool:=decide (zO2 0 < Int.fdiv m (zO2 P))
def flH (m:Int):Int:=uI.wrap (Int.tdiv m 2)
def flV (P:Nat) (Q:List Int):Bool:=Int.fdiv (flM Q) (zO2 P)==zO2 0
abbrev l1k (N D:List Int):List Prop:=[false=false,D.length=D.length,Cn D,D.length < 549755813888,N.length=N.length,Cn N,N.length < 549755813888]
abbrev o2t (N D:List Int) (e:Int) (w:Bool):List Prop:=[N.length=N.length,D.length=D.length,v2w N D e,atZ N D e=w]
abbrev x2a (K:Int) (Q:List Int) (b:Bool):List Prop:=[decide (0 < flO K Q)=b,Q.length=Q.length,Cn Q,Q.length < 549755813888]
abbrev d2v (Q:List Int):List Prop:=[Q.length<=Q.length,Cn (Q.take Q.length)]
abbrev o2y (m' e':Int) (i' a' b' c':Bool) (m e:Int) (i a b c:Bool):List Prop:=[zO3 .u64 m'=zO3 .u64 m,zO3 .i64 e'=zO3 .i64 e,zO8 i'=zO8 i,zO8 a'=zO8 a,zO8 b'=zO8 b,zO8 c'=zO8 c]
abbrev XRl:Cx:=bRo1.cxl 10
inductive Fk where
 | d
 | s
def Fk.I:Fk->Int
 | .d=>53
 | .s=>24
def Fk.J:Fk->Int
 | .d=>52
 | .s=>23
def Fk.L:Fk->Int
 | .d=> -1074
 | .s=> -149
def Fk.M:Fk->Int
 | .d=>971
 | .s=>104
def Fk.P:Fk->Nat
 | .d=>9007199254740992
 | .s=>16777216
def Fk.Q:Fk->Nat
 | .d=>4503599627370496
 | .s=>8388608
section
variable (k:Fk) (g:Option Bool) (w up car le:Bool) (n:Bool) (N D:List Int) (m e:Int) (i a b c:Bool)
def r2a:Int:=iI.wrap (flE k.I k.L N D+flO k.I (atQ N D (flE k.I k.L N D)))
def j1r:Int:=match g with
 | none=>flE k.I k.L N D
 | some _=>r2a k N D
def i2s:Int:=match up with
 | true=>flU (atQ N D (j1r k g N D))
 | false=>flM (atQ N D (j1r k g N D))
def u2t:Int:=match car with
 | true=>flH (i2s k g up N D)
 | false=>i2s k g up N D
def l2x:Int:=match car with
 | true=>iI.wrap (j1r k g N D+1)
 | false=>j1r k g N D
def m2z:List Bool:=match g with
 | none=>[false,w,false] ++([up,car,le] ++match le with | true=>[] | false=>[false])
 | some w1=>[false,w1,true,w] ++([up,car,le] ++match le with | true=>[] | false=>[false])
def p2e:List Prop:=match le with
 | true=>[]
 | false=>[false=false]
def q1t:List Prop:=match w with
 | true=>[false=false]
 | false=>[flB (atH N D (j1r k g N D)) (atQ N D (j1r k g N D))=up,zO2 0<=zO2 1∧zO2 1 < zO2 7,0<=k.J]
def h2q:List Prop:=match g with
 | none=>[]
 | some _=>o2t N D (r2a k N D) w
def u2a:Bool:=match g with
 | none=>w
 | some w1=>w1
def q2p:Bool:=match w with
 | true=>false
 | false=>flV k.Q (atQ N D (j1r k g N D))
def y2g:List Prop:=match le with
 | true=>o2y (u2t k g up car N D) (l2x k g car N D) false (!w) false (q2p k g w N D) m e i a b c
 | false=>o2y 0 0 true true true (q2p k g w N D) m e i a b c
def u1e:List Prop:=x2a k.I (atQ N D (flE k.I k.L N D)) g.isSome
def s2i:List Prop:=p2e le++([decide (l2x k g car N D<=k.M)=le,flC k.P (i2s k g up N D)=car,0<=k.I] ++(q1t k g w up N D++(d2v (atQ N D (j1r k g N D))++(h2q k g w N D++(u1e k g N D++(o2t N D (flE k.I k.L N D) (u2a g w)++(l1k N D++y2g k g w up car le N D m e i a b c)))))))
theorem o2x (hv:(w && up)=false∧(car && !up)=false):A7 XRl [] 200 126 [vlA n false N false D,kR k.I k.L k.M,iR 1] [uR m,iR e,bR i,fR a b c] (m2z g w up car le)=some (s2i k g w up car le N D m e i a b c):=by
 rcases g with _ | _ | _ <;> cases k <;> cases w <;> cases up <;> cases car <;> cases le <;> first | (exact absurd hv (by decide)) | kernel_rfl
end
def flq (N D:Nat) (e:Int):Nat:=atA N e/atB D e
def flr (N D:Nat) (e:Int):Nat:=atA N e%atB D e
def bA (K:Nat) (L:Int) (N D:Nat):Int:=if L < (bl N:Int)-bl D-K-2 then (bl N:Int)-bl D-K-2 else L
def A2 (K:Nat) (L:Int) (N D:Nat):Int:=if K < bl (flq N D (bA K L N D)) then bA K L N D+((bl (flq N D (bA K L N D)):Int)-K) else bA K L N D
def flw (N D:Nat) (e:Int):Bool:=decide (flr N D e=0)
def flh (N D:Nat) (e:Int):Int:=cmN (flr N D e*2) (atB D e)
def upB (h:Int) (q:Nat):Bool:=decide (0 < h) || (decide (h=0) && decide (q%2=1))
def tI (N D:Nat) (e:Int):Bool:= !flw N D e && upB (flh N D e) (flq N D e)
def flm (N D:Nat) (e:Int):Nat:=if tI N D e=true then flq N D e+1 else flq N D e
def n0g (K:Nat) (N D:Nat) (e:Int):Nat:=if 2 ^K<=flm N D e then flm N D e/2 else flm N D e
def h0w (K:Nat) (N D:Nat) (e:Int):Int:=if 2 ^K<=flm N D e then e+1 else e
def E9 (K:Nat) (M:Int) (N D:Nat) (e:Int):Bool:=decide (M < h0w K N D e)
def j0f (K:Nat) (N D:Nat) (e:Int):Bool:= !flw N D e && decide (flq N D e < 2 ^(K-1))
abbrev n1z (K:Nat) (M:Int) (N D:Nat) (e:Int):List Arg:=if E9 K M N D e=true then [uR 0,iR 0,bR true,fR true true (j0f K N D e)] else [uR (n0g K N D e),iR (h0w K N D e),bR false,fR (!flw N D e) false (j0f K N D e)]
theorem g0i {D:Nat} (hD:0 < D) (e:Int):0 < atB D e:=by
 unfold atB
 split
 ·exact B6 hD (p7 (by decide))
 ·exact hD
theorem vF {N D:Nat} (e:Int) (s:Nat):flq N D (e+s)=flq N D e/2 ^s:=by
 have h2:∀ k:Nat,0 < 2 ^k:=fun k=>p7 (by decide)
 unfold flq atA atB
 by_cases h0:0<=e
 ·rw [b9 (show 0<=e+(s:Int) by omega),b9 (show 0<=e+(s:Int) by omega),b9 h0,b9 h0,nV,f9,<- i7,show (e+(s:Int)).toNat=e.toNat+s by omega]
 ·rw [a6 h0,a6 h0,nV]
  by_cases h1:0<=e+(s:Int)
  ·rw [b9 h1,b9 h1,show s=(e+(s:Int)).toNat+(-e).toNat by omega,i7,<- f9,jQ _ _ (h2 _)]
   rw [show ((e+((((e+(s:Int)).toNat+(-e).toNat:Nat)):Int)).toNat)=(e+(s:Int)).toNat by omega]
  ·rw [a6 h1,a6 h1,show (-e).toNat=(-(e+(s:Int))).toNat+s by omega,i7,<- f9,jQ _ _ (h2 _)]
theorem d1z {K:Nat} {L:Int} {N D:Nat} :flq N D (A2 K L N D) < 2 ^K:=by
 unfold A2
 by_cases h:K < bl (flq N D (bA K L N D))
 ·rw [b9 h]
  obtain⟨s,hs⟩:∃ s,bl (flq N D (bA K L N D))=K+s:=⟨bl (flq N D (bA K L N D))-K,by omega⟩
  rw [hs,show ((K+s:Nat):Int)-K=(s:Int) by omega,vF]
  have:=b0h (flq N D (bA K L N D))
  rw [hs,i7] at this
  exact Nat.div_lt_of_lt_mul (by rw [n4]; exact this)
 ·rw [a6 h]
  exact bl_le.1 (by omega)
theorem q0j {m k:Nat} (h:bl m<=k):wl m<=k:=wl_le.2 (E3 (bl_le.1 h) (oX (by decide) k))
theorem e1o (n k:Nat):bl (n*2 ^k)<=bl n+k:=by
 refine bl_le.2 ?_
 rw [i7]
 exact F8 (b0h n) (p7 (by decide))
theorem z1w (N:Nat) (e:Int):bl (atA N e)<=bl N+(-e).toNat:=by
 unfold atA
 split
 ·omega
 ·exact e1o _ _
theorem l2s (D:Nat) (e:Int):bl (atB D e)<=bl D+e.toNat:=by
 unfold atB
 split
 ·exact e1o _ _
 ·omega
theorem z1o (N D:Nat) (e:Int):bl (flq N D e)<=bl N+(-e).toNat:=x7 (f2d (jX _ _)) (z1w N e)
theorem zI {K:Nat} {L:Int} {N D:Nat} (hK:K<=53) (hL: -1074<=L∧L<=0) (hN:bl N<=1000000) (hD:bl D<=1000000): -1100000<=bA K L N D∧bA K L N D<=1100000∧L<=bA K L N D:=by
 unfold bA
 split <;> omega
theorem b1c {K:Nat} {L:Int} {N D:Nat} (hK:K<=53) (hL: -1074<=L∧L<=0) (hN:bl N<=1000000) (hD:bl D<=1000000): -1100000<=A2 K L N D∧A2 K L N D<=5000000∧L<=A2 K L N D:=by
 obtain⟨h1,h2,h3⟩:=zI (D:=D) hK hL hN hD
 have h4:=z1o N D (bA K L N D)
 unfold A2
 split <;> omega
theorem b2e {N D:Nat} {e:Int} (hD:0 < D) (h1:bl N<=1000000) (h2:bl D<=1000000) (he: -10000000<=e∧e<=10000000):v2w (ws W64 N) (ws W64 D) e:=by
 have a:=q0j (z1w N e)
 have b:=q0j (l2s D e)
 have c:=q0j h1
 have d:=q0j h2
 refine⟨Cn.ws _,Cn.ws _,by rw [s7]; exact hD,by show wl _ < _; omega,by show wl _ < _; omega,by rw [s7]; omega,by rw [s7]; omega,by omega,by omega⟩
theorem a0p (N D:Nat) (e:Int):atQ (ws W64 N) (ws W64 D) e=ws W64 (flq N D e):=by unfold atQ; rw [s7,s7]; rfl
theorem l2n (N D:Nat) (e:Int):atH (ws W64 N) (ws W64 D) e=flh N D e:=by unfold atH; rw [s7,s7]; rfl
theorem k2y (N D:Nat) (e:Int):atZ (ws W64 N) (ws W64 D) e=flw N D e:=by unfold atZ; rw [s7,s7]; rfl
theorem t0k (n:Nat):x1p (ws W64 n)=(bl n:Int):=by unfold x1p; rw [s7]
theorem y0e {q:Nat} (h:q < W64):flM (ws W64 q)=(q:Int):=by
 unfold flM k2v
 rw [y5,s7,H3 h]
theorem w2r {n:Nat} (h:n < W64):uI.wrap (n:Int)=(n:Int):=by
 have h:n < 18446744073709551616:=h
 rw [O3]
 omega
theorem p2h {q:Nat} (h:q+1 < W64):flU (ws W64 q)=((q+1:Nat):Int):=by
 unfold flU
 rw [y0e (by omega)]
 exact w2r (n:=q+1) h
theorem b2m (P m:Nat) (hP:0 < P):flC P (m:Int)=decide (P<=m):=by
 unfold flC
 show decide ((0:Int) < Int.fdiv (m:Int) (P:Int))=_
 rw [<- l0o]
 refine zzA163.2 ?_
 have:0 < m/P↔P<=m:=by rw [Nat.div_pos_iff]; omega
 omega
theorem c2n {m:Nat} (h:m < W64):flH (m:Int)=((m/2:Nat):Int):=by
 unfold flH
 have e:Int.tdiv (m:Int) 2=((m/2:Nat):Int):=(m0b m 2).symm
 rw [e]
 exact w2r (by omega)
theorem p2y {q P:Nat} (h:q < W64) (hP:0 < P):flV P (ws W64 q)=decide (q < P):=by
 unfold flV
 rw [y0e h]
 show (Int.fdiv (q:Int) (P:Int)==0)=_
 rw [<- l0o]
 by_cases hq:q < P
 ·rw [uE hq,d4 hq]; rfl
 ·rw [b8 hq]
  refine x8 fun e=>hq ?_
  have e:((q/P:Nat):Int)=0:=e
  have:q/P=0:=by omega
  exact (Nat.div_eq_zero_iff_lt hP).1 this
theorem n2l {q:Nat} (h:Int) (hq:q < W64):flB h (ws W64 q)=upB h q:=by
 unfold flB upB
 rw [y0e hq,f1g hq]
 by_cases h1:0 < h
 ·rw [d4 (show h > 0 from h1)]; rfl
 ·rw [b8 (show ¬h > 0 from h1)]
  by_cases h2:h=0
  ·rw [h2]
   show (((q%2:Nat):Int)==1)=(false || (true && decide (q%2=1)))
   by_cases h3:q%2=1
   ·rw [h3]; rfl
   ·rw [b8 h3]
    exact x8 (by omega)
  ·rw [x8 h2,b8 h2]; rfl
theorem ap2 {a b:List Prop} (h:d9 a) (k:d9 b):d9 (a++b):=(i6 _ _).2 ⟨h,k⟩
theorem rA {n:Int} (h0: -9223372036854775808<=n) (h1:n<=9223372036854775807):iI.wrap n=n:=by
 have:=F9 n
 omega
theorem p2x {K:Nat} {L:Int} {N D:Nat} (hK:K<=53) (hN:bl N<=1000000) (hD:bl D<=1000000):flE K L (ws W64 N) (ws W64 D)=bA K L N D:=by
 have e:flN K (ws W64 N) (ws W64 D)=(bl N:Int)-bl D-K-2:=by
  unfold flN
  rw [t0k,t0k,rA (n:=(bl N:Int)-bl D) (by omega) (by omega),rA (n:=(bl N:Int)-bl D-K) (by omega) (by omega),rA (by omega) (by omega)]
 unfold flE bA
 rw [e]
theorem x1d {K q:Nat} (hK:K<=53) (h:bl q<=10000000):flO K (ws W64 q)=(bl q:Int)-K:=by
 unfold flO
 rw [t0k,rA (by omega) (by omega)]
theorem h1i {N D:Nat} (h1:bl N<=1000000) (h2:bl D<=1000000):d9 (l1k (ws W64 N) (ws W64 D)):=by
 have c:=q0j h1
 have d:=q0j h2
 exact⟨rfl,rfl,Cn.ws _,by show wl _ < _; omega,rfl,Cn.ws _,by show wl _ < _; omega,a7⟩
theorem d1f {N D:Nat} {e:Int} {w:Bool} (hD:0 < D) (h1:bl N<=1000000) (h2:bl D<=1000000) (he: -10000000<=e∧e<=10000000) (hw:flw N D e=w):d9 (o2t (ws W64 N) (ws W64 D) e w):=
 ⟨rfl,rfl,b2e hD h1 h2 he,by rw [k2y]; exact hw,a7⟩
theorem d2q {K q:Nat} {b:Bool} (hK:K<=53) (h:bl q<=10000000) (hb:decide (K < bl q)=b):d9 (x2a K (ws W64 q) b):=by
 have c:=q0j h
 refine⟨?_,rfl,Cn.ws _,by show wl _ < _; omega,a7⟩
 rw [x1d hK h,<- hb]
 exact zzA163.2 (by omega)
theorem r1k (q:Nat):d9 (d2v (ws W64 q)):=⟨d7 _,by rw [y5]; exact Cn.ws _,a7⟩
def Fk.K:Fk->Nat
 | .d=>53
 | .s=>24
section
variable (k:Fk)
theorem Fk.i:k.I=(k.K:Int):=by cases k <;> rfl
theorem Fk.p:k.P=2 ^k.K:=by cases k <;> rfl
theorem Fk.q:k.Q=2 ^(k.K-1):=by cases k <;> rfl
theorem Fk.k53:k.K<=53:=by cases k <;> decide
theorem Fk.l: -1074<=k.L∧k.L<=0:=by cases k <;> decide
theorem Fk.w:k.P < W64∧0 < k.P∧0 < k.Q:=by cases k <;> decide
theorem j0o (n:Bool) {N D:Nat} (hD:0 < D) (h1:bl N<=1000000) (h2:bl D<=1000000):
  Ev.Sem zO7 J0 126 [vlA n false (ws W64 N) false (ws W64 D),kR k.I k.L k.M,iR 1] (n1z k.K k.M N D (A2 k.K k.L N D)):=by
 have q0:=d1z (K:=k.K) (L:=k.L) (N:=N) (D:=D)
 have r0:=zI (K:=k.K) (L:=k.L) (D:=D) k.k53 k.l h1 h2
 have r1:=b1c (K:=k.K) (L:=k.L) (D:=D) k.k53 k.l h1 h2
 have hE0:flE k.I k.L (ws W64 N) (ws W64 D)=bA k.K k.L N D:=by rw [Fk.i]; exact p2x k.k53 h1 h2
 have hb0:bl (flq N D (bA k.K k.L N D))<=10000000:=by
  have:=z1o N D (bA k.K k.L N D)
  omega
 have hO:flO k.I (ws W64 (flq N D (bA k.K k.L N D)))=(bl (flq N D (bA k.K k.L N D)):Int)- (k.K:Nat):=by rw [Fk.i]; exact x1d k.k53 hb0
 have l:=k.l
 have k5:=k.k53
 obtain⟨g,hg⟩:∃ g:Option Bool,(match g with | none=>decide (k.K < bl (flq N D (bA k.K k.L N D)))=false | some w1=>decide (k.K < bl (flq N D (bA k.K k.L N D)))=true∧flw N D (bA k.K k.L N D)=w1):=by
  by_cases ho:k.K < bl (flq N D (bA k.K k.L N D))
  ·exact⟨some (flw N D (bA k.K k.L N D)),d4 ho,rfl⟩
  ·exact⟨none,b8 ho⟩
 have hEg:j1r k g (ws W64 N) (ws W64 D)=A2 k.K k.L N D:=by
  cases g with
  | none=>
   unfold A2
   rw [a6 (L4 hg)]
   exact hE0
  | some w1=>
   have he:A2 k.K k.L N D=bA k.K k.L N D+((bl (flq N D (bA k.K k.L N D)):Int)- (k.K:Nat)):=by unfold A2; rw [b9 (H8 hg.1)]
   show r2a k (ws W64 N) (ws W64 D)=_
   unfold r2a
   rw [hE0,a0p,hO,<- he,rA (by omega) (by omega)]
 have hob3:∀ w,flw N D (A2 k.K k.L N D)=w->d9 (h2q k g w (ws W64 N) (ws W64 D)):=fun w hw=>by
  cases g with
  | none=>trivial
  | some w1=>
   show d9 (o2t _ _ (j1r k (some w1) (ws W64 N) (ws W64 D)) w)
   rw [hEg]
   exact d1f hD h1 h2 (by omega) hw
 have hov:d9 (u1e k g (ws W64 N) (ws W64 D)):=by
  unfold u1e
  rw [hE0,a0p,Fk.i]
  refine d2q k5 hb0 ?_
  cases g with
  | none=>exact hg
  | some w1=>exact hg.1
 have hw1:∀ w,flw N D (A2 k.K k.L N D)=w->flw N D (bA k.K k.L N D)=u2a g w:=fun w hw=>by
  cases g with
  | none=>
   have he:A2 k.K k.L N D=bA k.K k.L N D:=by unfold A2; rw [a6 (L4 hg)]
   rw [he] at hw
   exact hw
  | some w1=>exact hg.2
 clear hg hO
 generalize hE:A2 k.K k.L N D=e at*
 have kp:=k.p
 have kw:=k.w
 have hqP:flq N D e < k.P:=by rw [kp]; exact q0
 have hqW:flq N D e < W64:=pM hqP kw.1
 have hq1:flq N D e+1 < W64:=y4 hqP kw.1
 have hM:i2s k g (tI N D e) (ws W64 N) (ws W64 D)=((flm N D e:Nat):Int):=by
  unfold i2s flm
  rw [hEg,a0p]
  cases tI N D e with
  | true=>rw [b9 rfl]; exact p2h hq1
  | false=>rw [a6 (by decide)]; exact y0e hqW
 have hmW:flm N D e < W64:=by unfold flm; split <;> omega
 obtain⟨car,hcar⟩:∃ car,decide (k.P<=flm N D e)=car:=⟨_,rfl⟩
 have hcP:flC k.P ((flm N D e:Nat):Int)=car:=by rw [b2m _ _ kw.2.1]; exact hcar
 have hM2:u2t k g (tI N D e) car (ws W64 N) (ws W64 D)=((n0g k.K N D e:Nat):Int):=by
  unfold u2t n0g
  rw [hM,<- kp]
  cases car with
  | true=>rw [b9 (H8 hcar)]; exact c2n hmW
  | false=>rw [a6 (L4 hcar)]
 have hE2:l2x k g car (ws W64 N) (ws W64 D)=h0w k.K N D e:=by
  unfold l2x h0w
  rw [hEg,<- kp]
  cases car with
  | true=>rw [b9 (H8 hcar)]; exact rA (by omega) (by omega)
  | false=>rw [a6 (L4 hcar)]
 obtain⟨w,hw⟩:∃ w,flw N D e=w:=⟨_,rfl⟩
 have hU:q2p k g w (ws W64 N) (ws W64 D)=j0f k.K N D e:=by
  unfold q2p j0f
  rw [hw,hEg,a0p,<- k.q]
  cases w with
  | true=>rfl
  | false=>exact p2y hqW kw.2.2
 have hv:(w && tI N D e)=false∧(car && !tI N D e)=false:=by
  constructor
  ·unfold tI
   rw [hw]
   cases w <;> rfl
  ·cases hu:tI N D e with
   | true=>cases car <;> rfl
   | false=>
    have:flm N D e=flq N D e:=by unfold flm; rw [hu]; rfl
    have:car=false:=by rw [<- hcar,this]; exact b8 (by omega)
    rw [this]
    rfl
 have hob2:d9 (q1t k g w (tI N D e) (ws W64 N) (ws W64 D)):=by
  unfold q1t
  cases w with
  | true=>exact⟨rfl,a7⟩
  | false=>
   refine⟨?_,⟨by decide,by decide⟩,by cases k <;> decide,a7⟩
   rw [hEg,a0p,n2l _ hqW,l2n]
   unfold tI
   rw [hw]
   rfl
 obtain⟨le,hle⟩:∃ le,decide (h0w k.K N D e<=k.M)=le:=⟨_,rfl⟩
 have way:=fun m' e' i' a' b' c'=>o2x k g w (tI N D e) car le n (ws W64 N) (ws W64 D) m' e' i' a' b' c' hv
 have T:∀ {X:List Prop},d9 X->d9 (p2e le++([decide (l2x k g car (ws W64 N) (ws W64 D)<=k.M)=le,flC k.P (i2s k g (tI N D e) (ws W64 N) (ws W64 D))=car,0<=k.I] ++(q1t k g w (tI N D e) (ws W64 N) (ws W64 D)++(d2v (atQ (ws W64 N) (ws W64 D) (j1r k g (ws W64 N) (ws W64 D)))++(h2q k g w (ws W64 N) (ws W64 D)++(u1e k g (ws W64 N) (ws W64 D)++(o2t (ws W64 N) (ws W64 D) (flE k.I k.L (ws W64 N) (ws W64 D)) (u2a g w)++(l1k (ws W64 N) (ws W64 D)++X)))))))):=fun hX=>by
  refine ap2 (by cases le <;> first | trivial | exact⟨rfl,a7⟩) (ap2 ⟨by rw [hE2]; exact hle,by rw [hM]; exact hcP,by cases k <;> decide,a7⟩ (ap2 hob2 (ap2 (by rw [hEg,a0p]; exact r1k _) (ap2 (hob3 w hw) (ap2 hov (ap2 (by rw [hE0]; exact d1f hD h1 h2 (by omega) (hw1 w hw)) (ap2 (h1i h1 h2) hX)))))))
 show Ev.Sem _ _ _ _ (if E9 k.K k.M N D e=true then _ else _)
 cases le with
 | true=>
  have:E9 k.K k.M N D e=false:=by unfold E9; exact b8 (by have:=H8 hle; omega)
  rw [this,a6 (by decide)]
  refine cM vH 10 [] _ (way _ _ _ _ _ _) (T ?_)
  exact⟨by rw [hM2],by rw [hE2],rfl,by rw [hw],rfl,by rw [hU],a7⟩
 | false=>
  have:E9 k.K k.M N D e=true:=by unfold E9; exact d4 (by have:=L4 hle; omega)
  rw [this,b9 rfl]
  refine cM vH 10 [] _ (way _ _ _ _ _ _) (T ?_)
  exact⟨rfl,rfl,rfl,rfl,rfl,by rw [hU],a7⟩
end
theorem q0v (n:Bool) {N D:Nat} (hD:0 < D) (h1:bl N<=1000000) (h2:bl D<=1000000):
  Ev.Sem zO7 J0 126 [vlA n false (ws W64 N) false (ws W64 D),kR 53 (-1074) 971,iR 1] (n1z 53 971 N D (A2 53 (-1074) N D)):=j0o .d n hD h1 h2
theorem r0c (n:Bool) {N D:Nat} (hD:0 < D) (h1:bl N<=1000000) (h2:bl D<=1000000):
  Ev.Sem zO7 J0 126 [vlA n false (ws W64 N) false (ws W64 D),kR 24 (-149) 104,iR 1] (n1z 24 104 N D (A2 24 (-149) N D)):=j0o .s n hD h1 h2
abbrev dA (n:Bool) (d:List UInt8) (e:Int):Arg:= .c (.v (.agg ⟨[.bool n, .string ⟨⟨d⟩⟩, .int .i64 e]⟩))
theorem r2z (n1 n2 n a b:Bool) (d1 d2:List UInt8) (e1 e2:Int) (N D:List Int):A7 u2i [] 200 125 [dA n1 d1 e1,dA n2 d2 e2] [vlA n a N b D] [false,false,true] =some [(E1 d1).length<=(E1 d1).length,(C6 (iI.wrap (e1-e2))).length<=(C6 (iI.wrap (e1-e2))).length,Cn (zO9 (E1 d1).length (E1 d1)),Cn (zO9 (C6 (iI.wrap (e1-e2))).length (C6 (iI.wrap (e1-e2)))),(zO9 (E1 d1).length (E1 d1)).length < 274877906944,(zO9 (C6 (iI.wrap (e1-e2))).length (C6 (iI.wrap (e1-e2)))).length < 274877906944,zO2 0<=iI.wrap (e1-e2)∧iI.wrap (e1-e2) < zO2 100000000000,decide (zO2 0<=iI.wrap (e1-e2))=true,T6 d2,d2.length < 100000000000,T6 d1,d1.length < 100000000000,decide (iI.wrap (iI.wrap (zO2 d1.length-zO2 d2.length)+iI.wrap (e1-e2)) < Int.negSucc 999)=false,decide (zO2 1000 < iI.wrap (iI.wrap (zO2 d1.length-zO2 d2.length)+iI.wrap (e1-e2)))=false,zO2 0<=zO2 1∧1 < 18446744073709551616,zO2 0<=zO2 1∧1 < 18446744073709551616,(zO8 !n1==n2)=zO8 n,zO8 false=zO8 false,zO8 (wB false (D4 (zO9 (E1 d1).length (E1 d1)) (zO9 (C6 (iI.wrap (e1-e2))).length (C6 (iI.wrap (e1-e2))))))=zO8 a,(D4 (zO9 (E1 d1).length (E1 d1)) (zO9 (C6 (iI.wrap (e1-e2))).length (C6 (iI.wrap (e1-e2))))).length=N.length∧(D4 (zO9 (E1 d1).length (E1 d1)) (zO9 (C6 (iI.wrap (e1-e2))).length (C6 (iI.wrap (e1-e2))))).length<=(D4 (zO9 (E1 d1).length (E1 d1)) (zO9 (C6 (iI.wrap (e1-e2))).length (C6 (iI.wrap (e1-e2))))).length∧zO9 (D4 (zO9 (E1 d1).length (E1 d1)) (zO9 (C6 (iI.wrap (e1-e2))).length (C6 (iI.wrap (e1-e2))))).length (D4 (zO9 (E1 d1).length (E1 d1)) (zO9 (C6 (iI.wrap (e1-e2))).length (C6 (iI.wrap (e1-e2)))))=N,zO8 false=zO8 b,(E1 d2).length=D.length∧(E1 d2).length<=(E1 d2).length∧zO9 (E1 d2).length (E1 d2)=D] :=by kernel_rfl
theorem t2g (n1 n2 n a b:Bool) (d1 d2:List UInt8) (e1 e2:Int) (N D:List Int):A7 u2i [] 200 125 [dA n1 d1 e1,dA n2 d2 e2] [vlA n a N b D] [false,false,false] =some [(E1 d2).length<=(E1 d2).length,(C6 (iI.wrap (zO2 0-iI.wrap (e1-e2)))).length<=(C6 (iI.wrap (zO2 0-iI.wrap (e1-e2)))).length,Cn (zO9 (E1 d2).length (E1 d2)),Cn (zO9 (C6 (iI.wrap (zO2 0-iI.wrap (e1-e2)))).length (C6 (iI.wrap (zO2 0-iI.wrap (e1-e2))))),(zO9 (E1 d2).length (E1 d2)).length < 274877906944,(zO9 (C6 (iI.wrap (zO2 0-iI.wrap (e1-e2)))).length (C6 (iI.wrap (zO2 0-iI.wrap (e1-e2))))).length < 274877906944,zO2 0<=iI.wrap (zO2 0-iI.wrap (e1-e2))∧iI.wrap (zO2 0-iI.wrap (e1-e2)) < zO2 100000000000,decide (zO2 0<=iI.wrap (e1-e2))=false,T6 d2,d2.length < 100000000000,T6 d1,d1.length < 100000000000,decide (iI.wrap (iI.wrap (zO2 d1.length-zO2 d2.length)+iI.wrap (e1-e2)) < Int.negSucc 999)=false,decide (zO2 1000 < iI.wrap (iI.wrap (zO2 d1.length-zO2 d2.length)+iI.wrap (e1-e2)))=false,zO2 0<=zO2 1∧1 < 18446744073709551616,zO2 0<=zO2 1∧1 < 18446744073709551616,(zO8 !n1==n2)=zO8 n,zO8 false=zO8 false,zO8 false=zO8 a,(E1 d1).length=N.length∧(E1 d1).length<=(E1 d1).length∧zO9 (E1 d1).length (E1 d1)=N,zO8 (wB false (D4 (zO9 (E1 d2).length (E1 d2)) (zO9 (C6 (iI.wrap (zO2 0-iI.wrap (e1-e2)))).length (C6 (iI.wrap (zO2 0-iI.wrap (e1-e2)))))))=zO8 b,(D4 (zO9 (E1 d2).length (E1 d2)) (zO9 (C6 (iI.wrap (zO2 0-iI.wrap (e1-e2)))).length (C6 (iI.wrap (zO2 0-iI.wrap (e1-e2)))))).length=D.length∧(D4 (zO9 (E1 d2).length (E1 d2)) (zO9 (C6 (iI.wrap (zO2 0-iI.wrap (e1-e2)))).length (C6 (iI.wrap (zO2 0-iI.wrap (e1-e2)))))).length<=(D4 (zO9 (E1 d2).length (E1 d2)) (zO9 (C6 (iI.wrap (zO2 0-iI.wrap (e1-e2)))).length (C6 (iI.wrap (zO2 0-iI.wrap (e1-e2)))))).length∧zO9 (D4 (zO9 (E1 d2).length (E1 d2)) (zO9 (C6 (iI.wrap (zO2 0-iI.wrap (e1-e2)))).length (C6 (iI.wrap (zO2 0-iI.wrap (e1-e2)))))).length (D4 (zO9 (E1 d2).length (E1 d2)) (zO9 (C6 (iI.wrap (zO2 0-iI.wrap (e1-e2)))).length (C6 (iI.wrap (zO2 0-iI.wrap (e1-e2))))))=D] :=by kernel_rfl
def qtN (d:List UInt8) (e:Int):Nat:=if 0<=e then dgN d*10 ^e.toNat else dgN d
def qtD (d:List UInt8) (e:Int):Nat:=if 0<=e then dgN d else dgN d*10 ^(-e).toNat
theorem t0p (k:Nat):C6 (k:Int)=ws W64 (10 ^k):=by unfold C6; rw [i8]
theorem k1v (d:List UInt8):E1 d=ws W64 (dgN d):=rfl
theorem i1w (k:Nat):wl (10 ^k)<=k+1:=uG (k+1) (zC (by decide) (aX k))
theorem k2z {d:List UInt8} (h:T6 d):wl (dgN d)<=d.length:=uG _ (iY h)
theorem l0k (n1 n2:Bool) {d1 d2:List UInt8} {e1 e2:Int} (h1:T6 d1) (h2:T6 d2) (l1:d1.length<=100000) (l2:d2.length<=100000) (he: -1000000<=e1-e2∧e1-e2<=1000000)
  (hf: -1000<=(d1.length:Int)-d2.length+(e1-e2)∧(d1.length:Int)-d2.length+(e1-e2)<=1000):
  Ev.Sem zO7 J0 125 [dA n1 d1 e1,dA n2 d2 e2] [vlA (n1 !=n2) false (ws W64 (qtN d1 (e1-e2))) false (ws W64 (qtD d2 (e1-e2)))] :=by
 have w1:=k2z h1
 have w2:=k2z h2
 have iE:iI.wrap (e1-e2)=e1-e2:=rA (by omega) (by omega)
 have iF:iI.wrap (iI.wrap (zO2 d1.length-zO2 d2.length)+(e1-e2))=(d1.length:Int)-d2.length+(e1-e2):=by
  show iI.wrap (iI.wrap ((d1.length:Int)- (d2.length:Int))+(e1-e2))=_
  rw [rA (n:=(d1.length:Int)- (d2.length:Int)) (by omega) (by omega),rA (by omega) (by omega)]
 have f1:decide (zO2 1000 < iI.wrap (iI.wrap (zO2 d1.length-zO2 d2.length)+(e1-e2)))=false:=by
  rw [iF]
  exact b8 (by show ¬(1000:Int) < _; omega)
 have f2:decide (iI.wrap (iI.wrap (zO2 d1.length-zO2 d2.length)+(e1-e2)) < Int.negSucc 999)=false:=by
  rw [iF]
  exact b8 (by show ¬_ < (-1000:Int); omega)
 by_cases h0:0<=e1-e2
 ·obtain⟨k,hk⟩:=kK h0
  have hN:qtN d1 (e1-e2)=dgN d1*10 ^k:=by unfold qtN; rw [b9 h0,hk,i8]
  have hD:qtD d2 (e1-e2)=dgN d2:=b9 h0
  have eT:C6 (e1-e2)=ws W64 (10 ^k):=by rw [hk,t0p]
  have f3:decide (zO2 0<=e1-e2)=true:=d4 h0
  have wt:=i1w k
  rw [hN,hD]
  refine l6 vH 10 _ _ (r2z n1 n2 (n1 !=n2) false false d1 d2 e1 e2 _ _) ?_
  simp only [d9,iE,eT,k1v,y5,S0,f1,f2,f3]
  repeat' apply And.intro
  all_goals first
   | assumption
   | exact trivial
   | exact Cn.ws _
   | (show wl _ < _; omega)
   | exact d7 (List.length _)
   | exact rfl
   | omega
   | decide
   | (show e1-e2 < 100000000000; omega)
 ·obtain⟨k,hk⟩:=kK (show 0<=-(e1-e2) by omega)
  have hN:qtN d1 (e1-e2)=dgN d1:=a6 h0
  have hD:qtD d2 (e1-e2)=dgN d2*10 ^k:=by unfold qtD; rw [a6 h0,hk,i8]
  have iM:iI.wrap (zO2 0- (e1-e2))=(k:Int):=by
   show iI.wrap (0- (e1-e2))=_
   rw [rA (by omega) (by omega)]
   omega
  have f3:decide (zO2 0<=e1-e2)=false:=b8 h0
  obtain⟨T,hT⟩:∃ T,T=10 ^k:=⟨_,rfl⟩
  have wt:wl T<=k+1:=by rw [hT]; exact i1w k
  have eT:C6 (k:Int)=ws W64 T:=by rw [hT]; exact t0p k
  rw [hN,hD,<- hT]
  clear hT hN hD
  have k0:zO2 0<=(k:Int):=y9 _
  have k1:(k:Int) < zO2 100000000000:=by
   show (k:Int) < 100000000000
   omega
  refine l6 vH 10 _ _ (t2g n1 n2 (n1 !=n2) false false d1 d2 e1 e2 _ _) ?_
  simp only [d9,iE,iM,eT,k1v,y5,S0,f1,f2,f3]
  exact⟨d7 _,d7 _,Cn.ws _,Cn.ws _,(by show wl _ < _; omega),(by show wl _ < _; omega),⟨k0,k1⟩,a7,h2,(by omega),h1,(by omega),a7,a7,⟨by decide,by decide⟩,⟨by decide,by decide⟩,rfl,a7,a7,⟨a7,d7 _,a7⟩,rfl,⟨a7,d7 _,a7⟩,a7⟩
end Go.Proofs.YtbdaebagmmmijaaGreatDoor
namespace Go.Proofs.YtbdaebagmmmijaaGreatDoor.VaS
open Go
def p63:Nat:=9223372036854775808
def P9 (x:Nat):Bool:=decide (9218868437227405312 < x%p63)
def mW (x:Nat):Nat:=if P9 x then 9221120237041090560 else x
def w0q (x:Nat):Int:=if p63<=x then -((x%p63:Nat):Int) else ((x%p63:Nat):Int)
def n1v (x y:Nat):Option Ordering:=if P9 x || P9 y then none else some (compare (w0q x) (w0q y))
def d1d (r:Nat):Nat:=if r < 4503599627370496 then r else (4503599627370496+r%4503599627370496)*2 ^(r/4503599627370496-1)
theorem l0v (r:Nat):d1d r < d1d (r+1):=by
 unfold d1d
 by_cases h1:r+1 < 4503599627370496
 ·rw [b9 h1,b9 (by omega)]; omega
 ·by_cases h2:r < 4503599627370496
  ·have e:r=4503599627370495:=by omega
   subst e
   decide
  ·rw [a6 h2,a6 h1]
   generalize hq:r/4503599627370496=q
   generalize hm:r%4503599627370496=m
   have hr:r=4503599627370496*q+m:=by rw [<- hq,<- hm]; exact (Y1 r _).symm
   have hml:m < 4503599627370496:=by rw [<- hm]; exact B0 _ (by decide)
   have hq1:1<=q:=by omega
   by_cases h3:m+1 < 4503599627370496
   ·have e1:(r+1)/4503599627370496=q:=by omega
    have e2:(r+1)%4503599627370496=m+1:=by omega
    rw [e1,e2]
    exact F8 (by omega) (F7 _)
   ·have e1:(r+1)/4503599627370496=q+1:=by omega
    have e2:(r+1)%4503599627370496=0:=by omega
    rw [e1,e2,show q+1-1=(q-1)+1 by omega,p9,show m=4503599627370495 by omega]
    have:=F7 (q-1)
    omega
theorem o1p {a b:Nat} (h:a < b):d1d a < d1d b:=by
 induction b with
 | zero=>omega
 | succ b ih=>
  rcases E0 a b with h' | h'
  ·exact pM (ih h') (l0v b)
  ·have:a=b:=by omega
   subst this
   exact l0v a
theorem aL {a b:Nat} :d1d a < d1d b↔a < b:=by
 constructor
 ·intro h
  rcases aR a b with h' | h' | h'
  ·exact h'
  ·subst h'; omega
  ·have:=o1p h'; omega
 ·exact o1p
def sg (neg:Bool) (m:Nat):Int:=if neg then -(m:Int) else (m:Int)
theorem e1z:d1d 0=0:=by decide
theorem k2m (s t:Bool) (a b:Nat):compare (sg s (d1d a)) (sg t (d1d b))=compare (sg s a) (sg t b):=by
 have key:∀ x y x' y':Int,(x < y↔x' < y')->(y < x↔y' < x')->compare x y=compare x' y':=by
  intro x y x' y' h1 h2
  show (if x < y then Ordering.lt else if x=y then .eq else .gt)=(if x' < y' then Ordering.lt else if x'=y' then .eq else .gt)
  by_cases hx:x < y
  ·rw [b9 hx,b9 (h1.1 hx)]
  ·rw [a6 hx,a6 (fun h=>hx (h1.2 h))]
   by_cases hy:x=y
   ·have e:x'=y':=by
     have a1:¬ x' < y':=fun h=>hx (h1.2 h)
     have a2:¬ y' < x':=fun h=>by have:=h2.2 h; omega
     omega
    rw [b9 hy,b9 e]
   ·have e:x'≠y':=by
     have:y < x:=by omega
     have:=h2.1 this
     omega
    rw [a6 hy,a6 e]
 have ha:= @aL 0 a
 have hb:= @aL 0 b
 have hab:= @aL a b
 have hba:= @aL b a
 rw [e1z] at ha hb
 unfold sg
 cases s <;> cases t <;> simp only [P3,D7,J3] <;> refine key _ _ _ _ ?_ ?_ <;> omega
theorem d1q (x y:Int) {k:Nat} (hk:0 < k):compare (x*(k:Int)) (y*(k:Int))=compare x y:=by
 show (if x*(k:Int) < y*(k:Int) then Ordering.lt else if x*(k:Int)=y*(k:Int) then .eq else .gt)=(if x < y then Ordering.lt else if x=y then .eq else .gt)
 have hk':(0:Int) < (k:Int):=by omega
 have h1:x*(k:Int) < y*(k:Int)↔x < y:=Int.mul_lt_mul_right hk'
 have h2:x*(k:Int)=y*(k:Int)↔x=y:=⟨fun h=>Int.eq_of_mul_eq_mul_right (by omega) h,fun h=>by rw [h]⟩
 by_cases a1:x < y
 ·rw [b9 a1,b9 (h1.2 a1)]
 ·rw [a6 a1,a6 (fun h=>a1 (h1.1 h))]
  by_cases a2:x=y
  ·rw [b9 a2,b9 (h2.2 a2)]
  ·rw [a6 a2,a6 (fun h=>a2 (h2.1 h))]
def magR (r:Nat):Nat:=if r < 4503599627370496 then r else 4503599627370496+r%4503599627370496
def plcR (r:Nat):Nat:=if r < 4503599627370496 then 0 else r/4503599627370496-1
theorem n1b (r:Nat):d1d r=magR r*2 ^plcR r:=by
 unfold d1d magR plcR
 split <;> simp
theorem fmt:Ieee.double.signWeight=p63∧Ieee.double.binade=4503599627370496∧Ieee.double.infRung=9218868437227405312∧Ieee.double.leastPlace= -1074:=by decide
theorem read_num {x:Nat} (hx:x < 18446744073709551616) (h:x%p63 < 9218868437227405312):Ieee.double.read x= .number (decide (p63<=x)) (magR (x%p63)) (-1074+(plcR (x%p63):Nat)):=by
 obtain⟨e1,e2,e3,e4⟩:=fmt
 have hs:(x/p63%2==1)=decide (p63<=x):=by
  unfold p63 at*
  by_cases hc:9223372036854775808<=x
  ·rw [d4 hc,show x/9223372036854775808=1 by omega]; rfl
  ·rw [b8 hc,show x/9223372036854775808=0 by omega]; rfl
 unfold Ieee.Format.read
 simp only [e1,e2,e3,e4,hs,h,J3]
 unfold magR plcR
 split
 ·simp
 ·rfl
theorem d0o {x:Nat} (hx:x < 18446744073709551616) (h:x%p63=9218868437227405312):Ieee.double.read x= .infinity (decide (p63<=x)):=by
 obtain⟨e1,e2,e3,e4⟩:=fmt
 have hs:(x/p63%2==1)=decide (p63<=x):=by
  unfold p63 at*
  by_cases hc:9223372036854775808<=x
  ·rw [d4 hc,show x/9223372036854775808=1 by omega]; rfl
  ·rw [b8 hc,show x/9223372036854775808=0 by omega]; rfl
 unfold Ieee.Format.read
 simp only [e1,e2,e3,e4,hs,h]
 simp
theorem u0l {x:Nat} (h:9218868437227405312 < x%p63):∃ n f,Ieee.double.read x= .nan n f:=by
 obtain⟨e1,e2,e3,e4⟩:=fmt
 unfold Ieee.Format.read
 simp only [e1,e2,e3,e4]
 rw [a6 (by omega),a6 (by omega),a6 (by omega)]
 exact⟨_,_,rfl⟩
theorem oI (s:Bool) (m a c:Nat) (h:c<=a):Ieee.signed s m (a-c)*((2 ^c:Nat):Int)=sg s (m*2 ^a):=by
 have e:m <<< (a-c)*2 ^c=m*2 ^a:=by
  rw [jW,f9,<- i7,yZ h]
 unfold Ieee.signed sg
 cases s
 ·simp only [P3,D7]
  rw [<- e]; push_cast; rfl
 ·simp only [J3]
  rw [<- e,Int.neg_mul]; push_cast; rfl
theorem P8 {x y:Nat} (hx:x < 18446744073709551616) (hy:y < 18446744073709551616):Ieee.double.order x y=n1v x y:=by
 unfold Ieee.Format.order n1v
 by_cases nx:9218868437227405312 < x%p63
 ·obtain⟨n,f,e⟩:=u0l nx
  rw [e,show P9 x=true from d4 nx]
  rfl
 by_cases ny:9218868437227405312 < y%p63
 ·obtain⟨n,f,e⟩:=u0l ny
  rw [e,show P9 y=true from d4 ny,Bool.or_true,b9 rfl]
  generalize Ieee.double.read x=d
  cases d <;> rfl
 rw [show P9 x=false from b8 nx,show P9 y=false from b8 ny]
 have hsv:∀ z,w0q z=sg (decide (p63<=z)) (z%p63):=fun z=>by
  unfold w0q sg
  by_cases h:p63<=z <;> simp [h]
 rw [hsv,hsv]
 simp only [Bool.or_self,P3,D7]
 have cmp_def:∀ a b:Int,compare a b=if a < b then Ordering.lt else if a=b then .eq else .gt:=fun _ _=>rfl
 by_cases ix:x%p63=9218868437227405312
 ·rw [d0o hx ix]
  by_cases iy:y%p63=9218868437227405312
  ·rw [d0o hy iy,ix,iy]
   generalize decide (p63<=x)=s
   generalize decide (p63<=y)=t
   cases s <;> cases t <;> decide
  ·rw [read_num hy (by omega),ix]
   generalize decide (p63<=x)=s
   generalize decide (p63<=y)=t
   have:y%p63 < 9218868437227405312:=by omega
   generalize y%p63=b at this
   simp only [Ieee.Datum.order,cmp_def]
   cases s <;> cases t <;> simp only [sg,P3,D7,J3,L3]
   ·rw [a6 (by omega),a6 (by omega)]
   ·rw [a6 (by omega),a6 (by omega)]
   ·rw [b9 (by omega)]
   ·rw [b9 (by omega)]
 ·rw [read_num hx (by omega)]
  by_cases iy:y%p63=9218868437227405312
  ·rw [d0o hy iy,iy]
   generalize decide (p63<=x)=s
   generalize decide (p63<=y)=t
   have:x%p63 < 9218868437227405312:=by omega
   generalize x%p63=b at this
   simp only [Ieee.Datum.order,cmp_def]
   cases s <;> cases t <;> simp only [sg,P3,D7,J3,L3]
   ·rw [b9 (by omega)]
   ·rw [a6 (by omega),a6 (by omega)]
   ·rw [b9 (by omega)]
   ·rw [a6 (by omega),a6 (by omega)]
  ·rw [read_num hy (by omega)]
   generalize decide (p63<=x)=s
   generalize decide (p63<=y)=t
   generalize x%p63=a
   generalize y%p63=b
   simp only [Ieee.Datum.order,L3]
   rw [<- k2m,n1b,n1b]
   have hc:min (-1074+((plcR a:Nat):Int)) (-1074+((plcR b:Nat):Int))= -1074+((min (plcR a) (plcR b):Nat):Int):=by omega
   rw [hc]
   have e1:(-1074+((plcR a:Nat):Int)- (-1074+((min (plcR a) (plcR b):Nat):Int))).toNat=plcR a-min (plcR a) (plcR b):=by omega
   have e2:(-1074+((plcR b:Nat):Int)- (-1074+((min (plcR a) (plcR b):Nat):Int))).toNat=plcR b-min (plcR a) (plcR b):=by omega
   rw [e1,e2,<- oI s (magR a) (plcR a) (min (plcR a) (plcR b)) (by omega),<- oI t (magR b) (plcR b) (min (plcR a) (plcR b)) (by omega)]
   exact (d1q _ _ (F7 _)).symm
structure Val where
 k:Int
 x:Nat
 s:List UInt8
 b:Bool
 f:Int
def lV (x y:Int):Int:=if x < y then -1 else if y < x then 1 else 0
end Go.Proofs.YtbdaebagmmmijaaGreatDoor.VaS
namespace Go.Proofs.YtbdaebagmmmijaaGreatDoor
open Go
theorem fV {m k:Nat} (h1:2 ^k<=m) (h2:m < 2 ^(k+1)):m.log2=k:=by
 have h0:m≠0:=by
  have:0 < 2 ^k:=p7 (by decide)
  omega
 exact (Nat.log2_eq_iff h0).2 ⟨h1,h2⟩
theorem jN {m:Nat} (h:m≠0):2 ^m.log2<=m∧m < 2 ^(m.log2+1):=(Nat.log2_eq_iff h).1 rfl
theorem dJ {n M k:Nat} (h:n=M*2 ^k) (hM:0 < M):Ieee.Toward.even.cut false n k=M:=by
 have h2:0 < 2 ^k:=p7 (by decide)
 have hn:n≠0:=by
  have:=B6 hM h2
  omega
 have hk:k<=n.log2:=by
  have h3:2 ^k<=n:=by rw [h]; exact a0o _ hM
  have h4:=(jN hn).2
  have:=(vJ (a:=2) (by decide)).1 (y4 h3 h4)
  omega
 unfold Ieee.Toward.cut
 have hg:1 <<< min k (n.log2+2)=2 ^k:=by rw [B2 (by omega),Nat.one_shiftLeft]
 simp only [hg]
 rw [h,m0a _ h2,Nat.mul_mod_left]
 have e1:decide (2 ^k < 2*0)=false:=b8 (by omega)
 have e2:(2 ^k==2*0)=false:=x8 (by omega)
 rw [e1,e2]
 simp
theorem P0:Ieee.double.leastPlace= -1074:=by decide
theorem qQ:Ieee.double.binade=4503599627370496:=by decide
theorem i1i:Ieee.double.infRung=9218868437227405312:=by decide
theorem z1s:Ieee.double.signWeight=9223372036854775808:=by decide
theorem k0z:Ieee.double.fractionBits=52:=by decide
theorem k0l (m:Nat):Ieee.double.word false m=m:=rfl
theorem d0z {a b:Nat} (ha:a<=2045) (hb:b < 9007199254740992):a*4503599627370496+b<=9218868437227405312:=by omega
theorem uS {M k:Nat} {E:Int} (hM:0 < M) (h53:M < 9007199254740992) (hE: -1074<=E) (hn:4503599627370496<=M∨E= -1074) (hT:E<=971):Ieee.double.nearest false (M*2 ^k) (E-k)=(E+1074).toNat*4503599627370496+M:=by
 have h2:0 < 2 ^k:=p7 (by decide)
 have h0:M*2 ^k≠0:=by
  have:=B6 hM h2
  omega
 have hl:(M*2 ^k).log2=M.log2+k:=by
  have hb:=jN (show M≠0 by omega)
  refine fV ?_ ?_
  ·rw [i7]; exact o9 _ hb.1
  ·rw [show M.log2+k+1=M.log2+1+k by omega,i7]; exact F8 hb.2 h2
 have hlast:max (E- (k:Int)+((M*2 ^k).log2:Nat)- (Ieee.double.fractionBits:Nat)) Ieee.double.leastPlace=E:=by
  rw [hl,P0,k0z]
  by_cases hb:4503599627370496<=M
  ·have:M.log2=52:=fV hb h53
   rw [this]
   omega
  ·have hlt:M.log2 < 52:=(tM (by omega)).2 (by show M < 4503599627370496; omega)
   rcases hn with hn | hn <;> omega
 unfold Ieee.Format.nearest
 rw [a6 h0]
 simp only [hlast]
 have e1:(E- (k:Int)-E).toNat=0:=by omega
 have e2:(E- (E- (k:Int))).toNat=k:=by omega
 rw [e1,e2,x0s,dJ rfl hM,P0,k0l,qQ,i1i]
 rw [show E- -1074=E+1074 by omega]
 refine B2 ?_
 exact d0z (by omega) h53
theorem uB {m t:Nat} {P:Int} (h1:4503599627370496<=m*2 ^t) (h53:m*2 ^t < 9007199254740992) (hE: -1074<=P-t) (hT:P-t<=971):Ieee.double.nearest false m P=(P-t+1074).toNat*4503599627370496+m*2 ^t:=by
 have h2:0 < 2 ^t:=p7 (by decide)
 have h0:m≠0:=by
  intro e
  subst e
  omega
 have hm:0 < m*2 ^t:=by omega
 have ht:t<=52:=by
  have h3:2 ^t<=m*2 ^t:=a0o _ (by omega)
  have h4:2 ^t < 2 ^53:=y4 h3 (by show _ < 9007199254740992; omega)
  have:=(vJ (a:=2) (by decide)).1 h4
  omega
 have hl:m.log2=52-t:=by
  refine fV ?_ ?_
  ·have:2 ^(52-t)*2 ^t<=m*2 ^t:=by rw [<- i7,show 52-t+t=52 by omega]; exact h1
   exact s0p this h2
  ·have:m*2 ^t < 2 ^(52-t+1)*2 ^t:=by rw [<- i7,show 52-t+1+t=53 by omega]; exact h53
   exact l0i this
 have hlast:max (P+(m.log2:Nat)- (Ieee.double.fractionBits:Nat)) Ieee.double.leastPlace=P-t:=by
  rw [hl,P0,k0z]
  omega
 unfold Ieee.Format.nearest
 rw [a6 h0]
 simp only [hlast]
 have e1:(P- (P- (t:Int))).toNat=t:=by omega
 have e2:(P- (t:Int)-P).toNat=0:=by omega
 rw [e1,e2,jW,dJ (M:=m*2 ^t) (k:=0) (by simp) hm,P0,k0l,qQ,i1i]
 rw [show P-t- -1074=P-t+1074 by omega]
 refine B2 ?_
 exact d0z (by omega) h53
theorem rJ {w:Nat} (h1:4503599627370496<=w) (h2:w < 9218868437227405312):Ieee.double.read w= .number false (4503599627370496+w%4503599627370496) (-1074+((w/4503599627370496-1:Nat):Int)):=by
 unfold Ieee.Format.read
 have hs:Ieee.double.signWeight=9223372036854775808:=by decide
 have hb:Ieee.double.binade=4503599627370496:=by decide
 have hi:Ieee.double.infRung=9218868437227405312:=by decide
 rw [hs,hb,hi,P0]
 have e1:w%9223372036854775808=w:=H3 (by omega)
 simp only [e1]
 rw [a6 (by omega),b9 h2,show (w/9223372036854775808%2==1)=false by rw [uE (by omega)]; rfl]
theorem x0l {a b:Nat} (ha1:4503599627370496<=a) (ha2:a < 9218868437227405312) (hb1:4503599627370496<=b) (hb2:b < 9218868437227405312):
  Ieee.double.mul a b=some (Ieee.double.nearest false ((4503599627370496+a%4503599627370496)*(4503599627370496+b%4503599627370496)) (-1074+((a/4503599627370496-1:Nat):Int)+(-1074+((b/4503599627370496-1:Nat):Int)))):=by
 unfold Ieee.Format.mul
 rw [rJ ha1 ha2,rJ hb1 hb2]
 rfl
theorem mul_one {w:Nat} (h1:4503599627370496<=w) (h2:w < 9218868437227405312):Ieee.double.mul 4607182418800017408 w=some w:=by
 rw [x0l (by decide) (by decide) h1 h2]
 have hd:1<=w/4503599627370496:=(bW (by decide)).2 (by omega)
 have hd2:w/4503599627370496 < 2047:=(F6 (by decide)).2 (by omega)
 have hm:w%4503599627370496 < 4503599627370496:=B0 _ (by decide)
 have e:=uS (M:=4503599627370496+w%4503599627370496) (k:=52) (E:= -1074+((w/4503599627370496-1:Nat):Int)) (by omega) (by omega) (by omega) (.inl (by omega)) (by omega)
 have e1:(4503599627370496+4607182418800017408%4503599627370496)*(4503599627370496+w%4503599627370496)=(4503599627370496+w%4503599627370496)*2 ^52:=by
  rw [n4]
 have e2:(-1074:Int)+((4607182418800017408/4503599627370496-1:Nat):Int)+(-1074+((w/4503599627370496-1:Nat):Int))= -1074+((w/4503599627370496-1:Nat):Int)- ((52:Nat):Int):=by
  omega
 rw [e1,e2,e]
 have hw:=Y1 w 4503599627370496
 have e3:(-1074+((w/4503599627370496-1:Nat):Int)+1074).toNat=w/4503599627370496-1:=by omega
 rw [e3]
 refine H5 some ?_
 rw [Nat.sub_mul]
 omega
theorem o1k {w M s:Nat} (h1:4503599627370496<=w) (h2:w < 9218868437227405312) (hM:4503599627370496+w%4503599627370496=M*2 ^s) (hp:M < 4503599627370496) (hs:((w/4503599627370496:Nat):Int)=54-s):Ieee.double.mul 4368491638549381120 w=some M:=by
 rw [x0l (by decide) (by decide) h1 h2]
 have h20:0 < 2 ^s:=p7 (by decide)
 have hM0:0 < M:=by
  rcases F2 M with h | h
  ·rw [h] at hM; omega
  ·exact h
 have hd:1<=w/4503599627370496:=(bW (by decide)).2 (by omega)
 have e:=uS (M:=M) (k:=s+52) (E:= -1074) hM0 (by omega) (by omega) (.inr rfl) (by omega)
 have e1:(4503599627370496+4368491638549381120%4503599627370496)*(4503599627370496+w%4503599627370496)=M*2 ^(s+52):=by
  rw [hM,i7,n4,f9]
 have e2:(-1074:Int)+((4368491638549381120/4503599627370496-1:Nat):Int)+(-1074+((w/4503599627370496-1:Nat):Int))= -1074- ((s+52:Nat):Int):=by
  omega
 rw [e1,e2,e]
 simp
open Go Go.RowKit Ev Wd VaS
def k2h (x:Nat):Nat:=(uI.wrap ↑(zO10 uI.bits ↑x&&& ~~~zO10 uI.bits 9223372036854775808).toNat).toNat
theorem r0w {x:Nat} (hx:x < 9223372036854775808):k2h x=x:=by
 unfold k2h
 have h0:(zO10 uI.bits (x:Int)).toNat=x:=by
  show (zO10 64 (x:Int)).toNat=x
  rw [pG,oJ]
  exact H3 (by omega)
 have h3:(zO10 uI.bits (x:Int)&&& ~~~zO10 uI.bits 9223372036854775808).toNat=x:=by
  rw [bV,h0,show (~~~zO10 uI.bits 9223372036854775808).toNat=2 ^63-1 by decide]
  rw [W2 _ 63]
  exact H3 hx
 rw [h3]
 have h5:uI.wrap (x:Int)=(x:Int):=by
  simp [IntKind.wrap,IntKind.bits,IntKind.signed]
  omega
 rw [h5,i8]
theorem s2x {a b:Nat} (ha:a<=9218868437227405312) (hb:b<=9218868437227405312):Ieee.double.order a b=some (compare (a:Int) (b:Int)):=by
 have hm:∀ {c:Nat},c<=9218868437227405312->c%p63=c:=fun {c} h=>H3 (by unfold p63; omega)
 have hs:∀ {c:Nat},c<=9218868437227405312->w0q c=(c:Int):=fun {c} h=>by
  unfold w0q
  rw [a6 (by unfold p63; omega),hm h]
 have hn:∀ {c:Nat},c<=9218868437227405312->P9 c=false:=fun {c} h=>by
  unfold P9
  rw [hm h]
  exact b8 (by omega)
 rw [P8 (by omega) (by omega)]
 unfold n1v
 rw [hn ha,hn hb,hs ha,hs hb]
 rfl
def ltL (x y:Nat):Bool:=Ieee.double.order x y==some .lt
def y1v (x y:Nat):Bool:=Ieee.double.order x y==some .eq
def gtL (x y:Nat):Bool:=Ieee.double.order x y==some .gt
theorem i1d {a b:Nat} (ha:a<=9218868437227405312) (hb:b<=9218868437227405312):ltL a b=decide (a < b):=by
 unfold ltL
 rw [s2x ha hb,show compare (a:Int) (b:Int)=if (a:Int) < b then Ordering.lt else if (a:Int)=b then .eq else .gt from rfl]
 by_cases h:a < b
 ·rw [b9 (by omega),d4 h]; rfl
 ·rw [a6 (by omega),b8 h]
  split <;> rfl
theorem o1s {a b:Nat} (ha:a<=9218868437227405312) (hb:b<=9218868437227405312):y1v a b=decide (a=b):=by
 unfold y1v
 rw [s2x ha hb,show compare (a:Int) (b:Int)=if (a:Int) < b then Ordering.lt else if (a:Int)=b then .eq else .gt from rfl]
 by_cases h:a < b
 ·rw [b9 (by omega),b8 (by omega)]; rfl
 ·by_cases h2:a=b
  ·rw [a6 (by omega),b9 (by omega),d4 h2]; rfl
  ·rw [a6 (by omega),a6 (by omega),b8 h2]; rfl
theorem m1u {a b:Nat} (ha:a<=9218868437227405312) (hb:b<=9218868437227405312):gtL a b=decide (b < a):=by
 unfold gtL
 rw [s2x ha hb,show compare (a:Int) (b:Int)=if (a:Int) < b then Ordering.lt else if (a:Int)=b then .eq else .gt from rfl]
 by_cases h:a < b
 ·rw [b9 (by omega),b8 (by omega)]; rfl
 ·by_cases h2:a=b
  ·rw [a6 (by omega),b9 (by omega),b8 (by omega)]; rfl
  ·rw [a6 (by omega),a6 (by omega),d4 (by omega)]; rfl
theorem v1c (x:Nat):b6 u2i [] 200 223 [.float .f64 x] [false] =some (.tuple ⟨[.float .f64 x, .int .i64 0]⟩,[ltL (k2h x) 4503599627370496=false]):=by kernel_rfl
def f0h:List Value->Option (Value×List Prop)
 | [.float .f64 x] =>some (.tuple ⟨[.float .f64 x, .int .i64 0]⟩,[4503599627370496<=x∧x < 9218868437227405312])
 | _=>none
theorem r0v (args:List Value) (v:Value) (l:List Prop) (h:f0h args=some (v,l)) (hl:d9 l):Ev.Pure zO7 J0 223 args v:=by
 unfold f0h at h
 split at h
 case h_2=>cases h
 rename_i x
 cases h
 obtain⟨⟨h1,h2⟩,_⟩:=hl
 refine d6 vH 10 _ _ (v1c x) ⟨?_,a7⟩
 rw [r0w (by omega),i1d (by omega) (by omega)]
 exact b8 (by omega)
def c2b:Tab:=l5 223 f0h c1n
theorem v0y:Q0 zO7 J0 c2b:=b7 r0v kC
def bLd:Base:=⟨zO7,J0,false,c2b,rM,200,I6⟩
theorem a0w:BaseOk bLd:=⟨progOk,v0y,dG,m0⟩
abbrev XLd:Cx:=bLd.cx 10
def frL (x:Nat):Int:=uI.wrap ((zO10 uI.bits (x:Int)&&& ~~~zO10 uI.bits 9218868437227405312).toNat:Nat)
def exL (x:Nat):Int:=iI.wrap (iI.wrap ((zO10 iI.bits (iI.wrap ((x:Int).fdiv (2 ^min (Int.toNat 52) uI.bits)))&&& zO10 iI.bits 2047).toNat:Nat)-1023)
def plL (x:Nat) (e:Int):Int:=iI.wrap (iI.wrap (e+0)+exL x)
def bwL (x:Nat) (P:Int):Nat:=(uI.wrap ((zO10 uI.bits (frL x)||| zO10 uI.bits (uI.wrap (uI.wrap (iI.wrap (P+1023))*2 ^min (Int.toNat 52) uI.bits))).toNat:Nat)).toNat
def o2h (x:Nat):Bool:=match gtL (k2h x) 9218868437227405311 with | true=>true | false=>Ieee.double.order x x !=some .eq
def q2d (P:Int):Int:=iI.wrap (P+53)
section
variable (x:Nat) (e:Int)
theorem a2w:b6 XLd [] 200 190 [.float .f64 x, .int .i64 e] [true] =some (.float .f64 x,[y1v x 0=true]):=by kernel_rfl
theorem m1o:b6 XLd [] 200 190 [.float .f64 x, .int .i64 e] [false,false,false,false,false] =some (.float .f64 ((Ieee.double.mul 4607182418800017408 (bwL x (plL x e))).getD 0),[(Ieee.double.mul 4607182418800017408 (bwL x (plL x e))).isSome=true,decide (plL x e < Int.negSucc 1021)=false,decide (1023 < plL x e)=false,decide (plL x e < Int.negSucc 1074)=false,4503599627370496<=x∧x < 9218868437227405312,o2h x=false,y1v x 0=false]):=by kernel_rfl
theorem g2e:b6 XLd [] 200 190 [.float .f64 x, .int .i64 e] [false,false,false,false,true] =some (.float .f64 ((Ieee.double.mul 4368491638549381120 (bwL x (q2d (plL x e)))).getD 0),[(Ieee.double.mul 4368491638549381120 (bwL x (q2d (plL x e)))).isSome=true,decide (plL x e < Int.negSucc 1021)=true,decide (1023 < plL x e)=false,decide (plL x e < Int.negSucc 1074)=false,4503599627370496<=x∧x < 9218868437227405312,o2h x=false,y1v x 0=false]):=by kernel_rfl
theorem d1g:b6 XLd [] 200 190 [.float .f64 x, .int .i64 e] [false,false,false,true,false] =some (.float .f64 9218868437227405312,[ltL x 0=false,decide (1023 < plL x e)=true,decide (plL x e < Int.negSucc 1074)=false,4503599627370496<=x∧x < 9218868437227405312,o2h x=false,y1v x 0=false]):=by kernel_rfl
end
theorem w0r {n:Nat} (h:n < 18446744073709551616):uI.wrap (n:Int)=(n:Int):=by
 simp [IntKind.wrap,IntKind.bits,IntKind.signed]
 omega
theorem i2y {n:Nat} (h:n < 18446744073709551616):(zO10 uI.bits (n:Int)).toNat=n:=by
 show (zO10 64 (n:Int)).toNat=n
 rw [pG,oJ]
 exact H3 h
theorem j2w {x:Nat} (hx:x < 9223372036854775808):frL x=((x%4503599627370496:Nat):Int):=by
 unfold frL
 have h3:(zO10 uI.bits (x:Int)&&& ~~~zO10 uI.bits 9218868437227405312).toNat=x%4503599627370496:=by
  rw [bV,i2y (by omega),show (~~~zO10 uI.bits 9218868437227405312).toNat=9227875636482146303 by decide]
  have hx0:x&&& 9223372036854775807=x:=by
   have:=W2 x 63
   rw [show 2 ^63-1=9223372036854775807 by decide,show 2 ^63=9223372036854775808 by decide,H3 hx] at this
   exact this
  have h1:x&&& 9227875636482146303=x&&& (2 ^52-1):=by
   rw [<- hx0,Nat.and_assoc,Nat.and_assoc]
   rfl
  rw [h1,W2]
 rw [h3]
 exact w0r (by omega)
theorem p2k {x:Nat} (hx:x < 9218868437227405312):exL x=((x/4503599627370496:Nat):Int)-1023:=by
 unfold exL
 have hd:x/4503599627370496 < 2047:=(F6 (by decide)).2 (by omega)
 have h1:(x:Int).fdiv (2 ^min (Int.toNat 52) uI.bits)=((x/4503599627370496:Nat):Int):=(l0o x 4503599627370496).symm
 rw [h1]
 generalize x/4503599627370496=d at*
 have h2:iI.wrap (d:Int)=(d:Int):=rA (by omega) (by omega)
 rw [h2]
 have h3:(zO10 iI.bits (d:Int)&&& zO10 iI.bits 2047).toNat=d:=by
  rw [bV,show (zO10 iI.bits (d:Int)).toNat=d from i2y (by omega),show (zO10 iI.bits 2047).toNat=2 ^11-1 by decide,W2]
  exact H3 (by omega)
 rw [h3,h2,rA (by omega) (by omega)]
theorem t2t {k r:Nat} (hk:k < 2048) (hr:r < 4503599627370496):k*4503599627370496+r < 18446744073709551616:=by omega
theorem o2j {k:Nat} (hk:k < 2048):k*4503599627370496 < 18446744073709551616:=by omega
theorem j1x {x:Nat} {P:Int} (hx:x < 9218868437227405312) (h0:0<=P+1023) (h1:P+1023 < 2048):bwL x P=(P+1023).toNat*4503599627370496+x%4503599627370496:=by
 unfold bwL
 rw [j2w (by omega),rA (n:=P+1023) (by omega) (by omega)]
 obtain⟨k,hk⟩:=kK h0
 rw [hk,i8]
 have hk2:k < 2048:=by omega
 have h2:uI.wrap (k:Int)=(k:Int):=w0r (by omega)
 have h3:(k:Int)*2 ^min (Int.toNat 52) uI.bits=((k*4503599627370496:Nat):Int):=by
  rw [dE]
  rfl
 have hm:x%4503599627370496 < 4503599627370496:=B0 _ (by decide)
 generalize x%4503599627370496=r at*
 have hs:=m0p (i:=52) (by show r < 4503599627370496; exact hm) k
 have e2:k <<< 52=k*4503599627370496:=by rw [jW]
 rw [e2] at hs
 have h4:k*4503599627370496+r < 18446744073709551616:=t2t hk2 hm
 have h7:k*4503599627370496 < 18446744073709551616:=o2j hk2
 have h8:r < 18446744073709551616:=pM hm (by decide)
 have h5:uI.wrap ((k*4503599627370496:Nat):Int)=((k*4503599627370496:Nat):Int):=w0r h7
 have h6:(zO10 uI.bits (r:Int)||| zO10 uI.bits ((k*4503599627370496:Nat):Int)).toNat=k*4503599627370496+r:=by
  rw [h0d,i2y h8,i2y h7,Nat.or_comm,<- hs]
 rw [h2,h3,h5,h6,w0r h4,i8]
theorem vU {x:Nat} (hx:x < 9218868437227405312):o2h x=false:=by
 unfold o2h
 rw [r0w (by omega),m1u (by omega) (by omega),b8 (by omega)]
 show (Ieee.double.order x x !=some .eq)=false
 have:=o1s (a:=x) (b:=x) (by omega) (by omega)
 unfold y1v at this
 rw [bne,this]
 simp
theorem vK {x:Nat} (h:4503599627370496<=x) (hx:x < 9218868437227405312):y1v x 0=false:=by
 rw [o1s (by omega) (by omega)]
 exact b8 (by omega)
def lY (m:Nat):Nat:=Ieee.double.nearest false m 0
theorem lG:lY 0=0:=by decide
theorem z0a {a M:Nat} (h1:4503599627370496<=M) (h2:M < 9007199254740992):(a*4503599627370496+M)/4503599627370496=a+1∧(a*4503599627370496+M)%4503599627370496=M-4503599627370496:=by omega
theorem a1m {a M:Nat} (ha:a<=1074) (h1:4503599627370496<=M) (h2:M < 9007199254740992):4503599627370496<=a*4503599627370496+M∧a*4503599627370496+M < 9218868437227405312:=by omega
theorem q0y {m:Nat} (h0:0 < m) (h53:m < 9007199254740992):∃ t:Nat,t<=52∧4503599627370496<=m*2 ^t∧m*2 ^t < 9007199254740992∧(4503599627370496<=m->t=0)∧(m < 4503599627370496->0 < t)∧lY m/4503599627370496=1074-t+1∧lY m%4503599627370496=m*2 ^t-4503599627370496∧4503599627370496<=lY m∧lY m < 9218868437227405312:=by
 have hb:=jN (show m≠0 by omega)
 have hl:m.log2 < 53:=(tM (by omega)).2 (by show m < 9007199254740992; exact h53)
 have e1:2 ^m.log2*2 ^(52-m.log2)=4503599627370496:=by
  rw [<- i7,show m.log2+(52-m.log2)=52 by omega]
 have e2:2 ^(m.log2+1)*2 ^(52-m.log2)=9007199254740992:=by
  rw [<- i7,show m.log2+1+(52-m.log2)=53 by omega]
 have h1:4503599627370496<=m*2 ^(52-m.log2):=by
  rw [<- e1]
  exact o9 _ hb.1
 have h2:m*2 ^(52-m.log2) < 9007199254740992:=by
  rw [<- e2]
  exact F8 hb.2 (p7 (by decide))
 refine⟨52-m.log2,by omega,h1,h2,fun h=> ?_,fun h=> ?_,?_⟩
 ·have:=(Nat.le_log2 (by omega)).2 (show 2 ^52<=m from h)
  omega
 ·have:=(tM (by omega)).2 (show m < 2 ^52 from h)
  omega
 ·have e:=uB (m:=m) (t:=52-m.log2) (P:=0) h1 h2 (by omega) (by omega)
  have hk:(0- ((52-m.log2:Nat):Int)+1074).toNat=1074- (52-m.log2):=by omega
  rw [hk] at e
  unfold lY
  rw [e]
  obtain⟨q1,q2⟩:=z0a (a:=1074- (52-m.log2)) h1 h2
  obtain⟨q3,q4⟩:=a1m (a:=1074- (52-m.log2)) (by omega) h1 h2
  exact⟨q1,q2,q3,q4⟩
theorem v1u {m u:Nat} (h0:0 < m) (h:m*2 ^u < 4503599627370496):Ieee.double.nearest false m ((u:Int)-1074)=m*2 ^u:=by
 have hb:=jN (show m≠0 by omega)
 have hl:m.log2+u < 52:=by
  have h1:2 ^(m.log2+u)<=m*2 ^u:=by rw [i7]; exact o9 _ hb.1
  have h2:2 ^(m.log2+u) < 2 ^52:=y4 h1 h
  exact (vJ (a:=2) (by decide)).1 h2
 have hlast:max ((u:Int)-1074+(m.log2:Nat)- (Ieee.double.fractionBits:Nat)) Ieee.double.leastPlace= -1074:=by
  rw [P0,k0z]
  omega
 unfold Ieee.Format.nearest
 rw [a6 (show m≠0 by omega)]
 simp only [hlast]
 have hm:0 < m*2 ^u:=B6 h0 (p7 (by decide))
 have e1:((u:Int)-1074- -1074).toNat=u:=by omega
 have e2:(-1074- ((u:Int)-1074)).toNat=0:=by omega
 rw [e1,e2,jW,dJ (M:=m*2 ^u) (k:=0) (by simp) hm,P0,k0l,i1i]
 have e3:((-1074:Int)- -1074).toNat=0:=rfl
 rw [e3,C0,Q6]
 exact B2 (cJ (pM h (by decide)))
theorem w2x {k c:Nat} (hk:2046<=k) (hc:4503599627370496<=c):9218868437227405312<=k*4503599627370496+c:=by omega
theorem u0c {m t:Nat} {P:Int} (h1:4503599627370496<=m*2 ^t) (h53:m*2 ^t < 9007199254740992) (hT:971 < P-t):Ieee.double.nearest false m P=9218868437227405312:=by
 have h2:0 < 2 ^t:=p7 (by decide)
 have h0:m≠0:=by
  intro e
  subst e
  omega
 have hm:0 < m*2 ^t:=by omega
 have ht:t<=52:=by
  have h3:2 ^t<=m*2 ^t:=a0o _ (by omega)
  have h4:2 ^t < 2 ^53:=y4 h3 (by show _ < 9007199254740992; omega)
  have:=(vJ (a:=2) (by decide)).1 h4
  omega
 have hl:m.log2=52-t:=by
  refine fV ?_ ?_
  ·have:2 ^(52-t)*2 ^t<=m*2 ^t:=by rw [<- i7,show 52-t+t=52 by omega]; exact h1
   exact s0p this h2
  ·have:m*2 ^t < 2 ^(52-t+1)*2 ^t:=by rw [<- i7,show 52-t+1+t=53 by omega]; exact h53
   exact l0i this
 have hlast:max (P+(m.log2:Nat)- (Ieee.double.fractionBits:Nat)) Ieee.double.leastPlace=P-t:=by
  rw [hl,P0,k0z]
  omega
 unfold Ieee.Format.nearest
 rw [a6 h0]
 simp only [hlast]
 have e1:(P- (P- (t:Int))).toNat=t:=by omega
 have e2:(P- (t:Int)-P).toNat=0:=by omega
 rw [e1,e2,jW,dJ (M:=m*2 ^t) (k:=0) (by simp) hm,P0,k0l,qQ,i1i]
 exact S5 (w2x (by omega) h1)
theorem n1p {x:Nat} {e:Int} (hx:x < 9218868437227405312) (he: -1000000000000000000<=e∧e<=1000000000000000000):plL x e=e+((x/4503599627370496:Nat):Int)-1023:=by
 unfold plL
 have hd:x/4503599627370496 < 2047:=(F6 (by decide)).2 (by omega)
 rw [p2k hx,Int.add_zero,rA (n:=e) (by omega) (by omega),rA (by omega) (by omega)]
 omega
theorem y0l {m:Nat} {e:Int} (h0:0 < m) (h53:m < 9007199254740992) (hE: -1074<=e) (hT:e<=1000000000000000000):Ev.Pure zO7 J0 190 [.float .f64 (lY m), .int .i64 e] (.float .f64 (Ieee.double.nearest false m e)):=by
 obtain⟨t,ht,g1,g2,g3,g4,q1,q2,hx1,hx2⟩:=q0y h0 h53
 generalize lY m=x at*
 have hP:=n1p (x:=x) (e:=e) hx2 ⟨by omega,hT⟩
 rw [q1] at hP
 by_cases hi:971 < e-t
 ·rw [u0c g1 g2 hi]
  refine d6 a0w 10 _ _ (d1g x e) ⟨?_,?_,?_,⟨hx1,hx2⟩,vU hx2,vK hx1 hx2,a7⟩
  ·rw [i1d (by omega) (by omega)]; exact b8 (by omega)
  ·rw [hP]; exact d4 (by omega)
  ·rw [hP]; exact b8 (by show ¬_ < (-1075:Int); omega)
 by_cases hc:e-t < -1074
 ·obtain⟨u,hu⟩:=kK (show 0<=e+1074 by omega)
  have he:e=(u:Int)-1074:=by omega
  have hut:u < t:=by omega
  have hpow:m*2 ^t=m*2 ^u*2 ^(t-u):=by rw [f9,<- i7,show u+(t-u)=t by omega]
  have hsm:m*2 ^u < 4503599627370496:=by
   have h2:2*1<=2 ^(t-u):=by
    rw [show t-u=t-u-1+1 by omega,p9,n4]
    exact o9 2 (p7 (by decide))
   have h3:=Y4 (m*2 ^u) h2
   omega
  have hS:q2d (plL x e)=e+105-t:=by
   unfold q2d
   rw [hP,rA (by omega) (by omega)]
   omega
  have hB:=j1x (x:=x) (P:=q2d (plL x e)) hx2 (by rw [hS]; omega) (by rw [hS]; omega)
  rw [hS,q2] at hB
  have hk:(e+105- (t:Int)+1023).toNat=54- (t-u):=by omega
  rw [hk] at hB
  have hmul:=o1k (w:=(54- (t-u))*4503599627370496+(m*2 ^t-4503599627370496)) (M:=m*2 ^u) (s:=t-u) (by omega) (by omega) (by rw [<- hpow]; omega) hsm (by omega)
  rw [he,v1u h0 hsm,<- he]
  have key:=g2e x e
  rw [hS,hB,hmul] at key
  refine d6 a0w 10 _ _ key ⟨rfl,?_,?_,?_,⟨hx1,hx2⟩,vU hx2,vK hx1 hx2,a7⟩
  ·rw [hP]; exact d4 (by show _ < (-1022:Int); omega)
  ·rw [hP]; exact b8 (by omega)
  ·rw [hP]; exact b8 (by show ¬_ < (-1075:Int); omega)
 ·rw [uB g1 g2 (by omega) (by omega)]
  have hB:=j1x (x:=x) (P:=plL x e) hx2 (by rw [hP]; omega) (by rw [hP]; omega)
  rw [hP,q2] at hB
  have hk:(e+((1074-t+1:Nat):Int)-1023+1023).toNat=(e-t+1074).toNat+1:=by omega
  rw [hk] at hB
  obtain⟨k,hk2⟩:∃ k,k=(e- (t:Int)+1074).toNat:=⟨_,rfl⟩
  rw [<- hk2] at hB ⊢
  have hk3:k<=2045:=by omega
  have hmul:=mul_one (w:=(k+1)*4503599627370496+(m*2 ^t-4503599627370496)) (by omega) (by omega)
  have hR:(k+1)*4503599627370496+(m*2 ^t-4503599627370496)=k*4503599627370496+m*2 ^t:=by omega
  rw [hR] at hmul hB
  have key:=m1o x e
  rw [hP,hB,hmul] at key
  refine d6 a0w 10 _ _ key ⟨rfl,?_,?_,?_,⟨hx1,hx2⟩,vU hx2,vK hx1 hx2,a7⟩
  ·exact b8 (by show ¬_ < (-1022:Int); omega)
  ·exact b8 (by omega)
  ·exact b8 (by show ¬_ < (-1075:Int); omega)
theorem x1s:(9007199254740992:Nat)=4503599627370496*2 ^1:=by decide
theorem c0u:lY 9007199254740992=4845873199050653696:=by decide
theorem uY {e:Int} (hE: -1074<=e) (hT:e<=970):Ieee.double.nearest false 9007199254740992 e=(e+1+1074).toNat*4503599627370496+4503599627370496:=by
 have:=uS (M:=4503599627370496) (k:=1) (E:=e+1) (by decide) (by decide) (by omega) (.inl (d7 _)) (by omega)
 rw [<- x1s,show e+1- ((1:Nat):Int)=e by omega] at this
 exact this
theorem e2r:(9007199254740992:Nat).log2=53:=fV (by decide) (by decide)
theorem oS {e:Int} (hT:970 < e):Ieee.double.nearest false 9007199254740992 e=9218868437227405312:=by
 have hlast:max (e+((9007199254740992:Nat).log2:Nat)- (Ieee.double.fractionBits:Nat)) Ieee.double.leastPlace=e+1:=by
  rw [e2r,P0,k0z]
  omega
 unfold Ieee.Format.nearest
 rw [a6 (by decide)]
 simp only [hlast]
 have e1:(e- (e+1)).toNat=0:=by omega
 have e2:(e+1-e).toNat=1:=by omega
 rw [e1,e2,x0s,dJ x1s (by decide),P0,k0l,qQ,i1i]
 exact S5 (w2x (by omega) (d7 _))
theorem m1j {e:Int} (hE: -1074<=e) (hT:e<=1000000000000000000):Ev.Pure zO7 J0 190 [.float .f64 4845873199050653696, .int .i64 e] (.float .f64 (Ieee.double.nearest false 9007199254740992 e)):=by
 have q1:4845873199050653696/4503599627370496=1076:=by decide
 have q2:4845873199050653696%4503599627370496=0:=by decide
 have hx1:4503599627370496<=4845873199050653696:=by decide
 have hx2:4845873199050653696 < 9218868437227405312:=by decide
 have hP:=n1p (x:=4845873199050653696) (e:=e) hx2 ⟨by omega,hT⟩
 rw [q1] at hP
 by_cases hi:970 < e
 ·rw [oS hi]
  refine d6 a0w 10 _ _ (d1g 4845873199050653696 e) ⟨?_,?_,?_,⟨hx1,hx2⟩,vU hx2,vK hx1 hx2,a7⟩
  ·rw [i1d (cJ hx2) (by decide)]; exact b8 (by decide)
  ·rw [hP]; exact d4 (by omega)
  ·rw [hP]; exact b8 (by show ¬_ < (-1075:Int); omega)
 ·rw [uY hE (by omega)]
  have hB:=j1x (x:=4845873199050653696) (P:=plL 4845873199050653696 e) hx2 (by rw [hP]; omega) (by rw [hP]; omega)
  rw [hP,q2] at hB
  obtain⟨k,hk2⟩:∃ k,k=(e+1+1074).toNat:=⟨_,rfl⟩
  have hk:(e+((1076:Nat):Int)-1023+1023).toNat=k+1:=by omega
  rw [hk,E4] at hB
  rw [<- hk2]
  have hk3:k<=2045:=by omega
  have hmul:=mul_one (w:=(k+1)*4503599627370496) (by omega) (by omega)
  have hR:(k+1)*4503599627370496=k*4503599627370496+4503599627370496:=by omega
  rw [hR] at hmul hB
  have key:=m1o 4845873199050653696 e
  rw [hP,hB,hmul] at key
  refine d6 a0w 10 _ _ key ⟨rfl,?_,?_,?_,⟨hx1,hx2⟩,vU hx2,vK hx1 hx2,a7⟩
  ·exact b8 (by show ¬_ < (-1022:Int); omega)
  ·exact b8 (by omega)
  ·exact b8 (by show ¬_ < (-1075:Int); omega)
theorem w1j {m:Nat} {e:Int} (h0:0 < m) (h53:m<=9007199254740992) (hE: -1074<=e) (hT:e<=1000000000000000000):Ev.Pure zO7 J0 190 [.float .f64 (lY m), .int .i64 e] (.float .f64 (Ieee.double.nearest false m e)):=by
 by_cases h:m < 9007199254740992
 ·exact y0l h0 h hE hT
 ·obtain rfl:m=9007199254740992:=yN h53 (jI h)
  rw [c0u]
  exact m1j hE hT
def c1z (K:Nat) (M:Int) (N D:Nat) (e:Int):Nat:=if E9 K M N D e=true then 0 else n0g K N D e
def c1v (K:Nat) (M:Int) (N D:Nat) (e:Int):Int:=if E9 K M N D e=true then 0 else h0w K N D e
def u0t (K:Nat) (M:Int) (N D:Nat) (e:Int):Bool:=E9 K M N D e || !flw N D e
theorem u0r (K:Nat) (M:Int) (N D:Nat) (e:Int):n1z K M N D e=[uR (c1z K M N D e),iR (c1v K M N D e),bR (E9 K M N D e),fR (u0t K M N D e) (E9 K M N D e) (j0f K N D e)] :=by
 unfold n1z c1z c1v u0t
 cases h:E9 K M N D e
 ·rfl
 ·rfl
def b0t:List Arg->Option (List Arg×List Prop)
 | [.a [.v (.bool _), .v (.bool false), .v (.bool false), .s 39 .u64 N, .v (.bool false), .s 39 .u64 D], .a [.v (.int .i64 53), .v (.int .i64 (-1074)), .v (.int .i64 971)], .c (.v (.int .i64 1))] =>
  some ([uR (c1z 53 971 (val W64 N) (val W64 D) (A2 53 (-1074) (val W64 N) (val W64 D))),iR (c1v 53 971 (val W64 N) (val W64 D) (A2 53 (-1074) (val W64 N) (val W64 D))),bR (E9 53 971 (val W64 N) (val W64 D) (A2 53 (-1074) (val W64 N) (val W64 D))),fR (u0t 53 971 (val W64 N) (val W64 D) (A2 53 (-1074) (val W64 N) (val W64 D))) (E9 53 971 (val W64 N) (val W64 D) (A2 53 (-1074) (val W64 N) (val W64 D))) (j0f 53 (val W64 N) (val W64 D) (A2 53 (-1074) (val W64 N) (val W64 D)))],[Cn N∧Cn D∧0 < val W64 D∧bl (val W64 N)<=1000000∧bl (val W64 D)<=1000000])
 | _=>none
theorem q0t:∀ az rs l,b0t az=some (rs,l)->d9 l->Ev.Sem zO7 J0 126 az rs:=by
 intro az rs l h hl
 unfold b0t at h
 split at h
 ·cases h
  rename_i n N D
  obtain⟨⟨c1,c2,hD,h1,h2⟩,_⟩:=hl
  unfold Cn at c1 c2
  have:=q0v n (N:=val W64 N) (D:=val W64 D) hD h1 h2
  rw [<- c1,<- c2,u0r] at this
  exact this
 ·cases h
def unF (x:Nat):Nat:=if x=4845873199050653696 then 9007199254740992 else (4503599627370496+x%4503599627370496)/2 ^(1075-x/4503599627370496)
theorem t0r {m:Nat} (h0:0 < m) (h53:m<=9007199254740992):unF (lY m)=m:=by
 by_cases h:m < 9007199254740992
 ·obtain⟨t,ht,g1,g2,g3,g4,q1,q2,hx1,hx2⟩:=q0y h0 h
  have hne:lY m≠4845873199050653696:=by
   intro e
   rw [e] at q1
   have:(4845873199050653696:Nat)/4503599627370496=1076:=by decide
   omega
  unfold unF
  rw [a6 hne,q1,q2,show 4503599627370496+(m*2 ^t-4503599627370496)=m*2 ^t from Nat.add_sub_cancel' g1,show 1075- (1074-t+1)=t by omega]
  exact m0a _ (p7 (by decide))
 ·obtain rfl:m=9007199254740992:=yN h53 (jI h)
  rw [c0u]
  exact b9 rfl
def ldW (x:Nat) (e:Int):Nat:=if x=0 then 0 else Ieee.double.nearest false (unF x) e
def m1k (x:Nat) (e:Int):Prop:=x=0∨(lY (unF x)=x∧0 < unF x∧unF x<=9007199254740992∧-1074<=e∧e<=1000000000000000000)
theorem g2a {x:Nat} {e:Int} (h:m1k x e):Ev.Pure zO7 J0 190 [.float .f64 x, .int .i64 e] (.float .f64 (ldW x e)):=by
 by_cases hx:x=0
 ·subst hx
  exact d6 a0w 10 _ _ (a2w 0 e) ⟨by decide,a7⟩
 ·obtain⟨h1,h2,h3,h4,h5⟩:=h.resolve_left hx
  have:=w1j h2 h3 h4 h5
  rw [h1] at this
  unfold ldW
  rw [a6 hx]
  exact this
theorem y1l {m:Nat} {e:Int} (h0:0 < m) (h53:m<=9007199254740992):ldW (lY m) e=Ieee.double.nearest false m e:=by
 have hx:lY m≠0:=by
  intro e0
  by_cases h:m < 9007199254740992
  ·obtain⟨t,ht,g1,g2,g3,g4,q1,q2,hx1,hx2⟩:=q0y h0 h
   rw [e0] at hx1
   exact absurd hx1 (by decide)
  ·obtain rfl:m=9007199254740992:=yN h53 (jI h)
   rw [c0u] at e0
   cases e0
 unfold ldW
 rw [a6 hx,t0r h0 h53]
theorem o1d {m:Nat} {e:Int} (h53:m<=9007199254740992) (h:m=0∨(-1074<=e∧e<=1000000000000000000)):m1k (lY m) e:=by
 rcases F2 m with h0 | h0
 ·subst h0; exact .inl lG
 ·rcases h with h | h
  ·omega
  ·exact .inr ⟨by rw [t0r h0 h53],by rw [t0r h0 h53]; exact h0,by rw [t0r h0 h53]; exact h53,h.1,h.2⟩
def yP:List Value->Option (Value×List Prop)
 | [.float .f64 x, .int .i64 e] =>some (.float .f64 (ldW x e),[m1k x e])
 | _=>none
theorem h1b (args:List Value) (v:Value) (l:List Prop) (h:yP args=some (v,l)) (hl:d9 l):Ev.Pure zO7 J0 190 args v:=by
 unfold yP at h
 split at h
 case h_2=>cases h
 cases h
 exact g2a hl.1
def e2d:Tab:=l5 190 yP c2b
theorem v0s:Q0 zO7 J0 e2d:=b7 h1b v0y
def bLe:Base:=⟨zO7,J0,false,e2d,rM,200,I6⟩
theorem k2q:BaseOk bLe:=⟨progOk,v0s,dG,m0⟩
theorem m1g (x:Nat) (e:Int):b6 (bLe.cx 10) [] 200 138 [.float .f64 x, .int .i64 e] [] =some (.float .f64 (ldW x e),[m1k x e]):=by kernel_rfl
theorem g1m (args:List Value) (v:Value) (l:List Prop) (h:yP args=some (v,l)) (hl:d9 l):Ev.Pure zO7 J0 138 args v:=by
 unfold yP at h
 split at h
 case h_2=>cases h
 cases h
 exact d6 k2q 10 _ _ (m1g _ _) hl
def c2c:Tab:=l5 138 yP e2d
theorem x0i:Q0 zO7 J0 c2c:=b7 g1m v0s
def n0s:iG:=m4 126 (z6 [shM, .a [.v, .v, .v],shV] b0t) rM
theorem a0x:iD zO7 J0 n0s:=d8 (l7 _ q0t) dG
def bRo2:Base:=⟨zO7,J0,false,c2c,n0s,200,I6⟩
theorem d0p:BaseOk bRo2:=⟨progOk,x0i,a0x,m0⟩
abbrev r2e:Cx:=bRo2.cx 10
theorem b2c {K:Nat} {N D:Nat} {e:Int} (hN:0 < N) (hD:0 < D) (he:e=(bl N:Int)-bl D-K-2):2 ^(K+1)<=flq N D e:=by
 have h1:2 ^(bl N-1)<=N:=by
  refine bl_ge.1 ?_
  have:0 < bl N:=bl_ge.2 (by show 1<=N; exact hN)
  omega
 have hb:0 < bl N:=bl_ge.2 (by show 1<=N; exact hN)
 have h2:D < 2 ^bl D:=b0h D
 unfold flq
 rw [bW (g0i hD e)]
 unfold atA atB
 by_cases h0:0<=e
 ·rw [b9 h0,b9 h0]
  refine x7 ?_ h1
  refine x7 (Y4 _ (o9 _ (cJ h2))) ?_
  rw [<- i7,<- i7]
  exact w7 (by decide) (by omega)
 ·rw [a6 h0,a6 h0]
  refine x7 (Y4 _ (cJ h2)) ?_
  refine x7 ?_ (o9 _ h1)
  rw [<- i7,<- i7]
  exact w7 (by decide) (by omega)
theorem i1p {K:Nat} {L:Int} {N D:Nat} (hK:0 < K) (hN:0 < N) (hD:0 < D) (h:flq N D (A2 K L N D) < 2 ^(K-1)):A2 K L N D=L:=by
 unfold A2 at h ⊢
 by_cases hb:K < bl (flq N D (bA K L N D))
 ·rw [b9 hb] at h
  exfalso
  obtain⟨s,hs⟩:∃ s,bl (flq N D (bA K L N D))=K+s:=⟨bl (flq N D (bA K L N D))-K,by omega⟩
  rw [hs,show ((K+s:Nat):Int)-K=(s:Int) by omega,vF,F6 (p7 (by decide)),<- i7] at h
  have:=bl_le.2 h
  omega
 ·rw [a6 hb]
  unfold bA
  by_cases hc:L < (bl N:Int)-bl D-K-2
  ·exfalso
   have h1:bA K L N D=(bl N:Int)-bl D-K-2:=b9 hc
   have h2:=b2c hN hD h1
   have:=bl_ge.2 h2
   omega
  ·rw [a6 hc]
theorem nC {N D:Nat} (hD:0 < D):n0g 53 N D (A2 53 (-1074) N D) < 9007199254740992∧-1074<=h0w 53 N D (A2 53 (-1074) N D)∧(4503599627370496<=n0g 53 N D (A2 53 (-1074) N D)∨h0w 53 N D (A2 53 (-1074) N D)= -1074∨n0g 53 N D (A2 53 (-1074) N D)=0):=by
 have h1:flq N D (A2 53 (-1074) N D) < 9007199254740992:=d1z
 have h3: -1074<=A2 53 (-1074) N D:=by
  unfold A2 bA
  split <;> split <;> omega
 rcases F2 N with hN | hN
 ·have hq:flq N D (A2 53 (-1074) N D)=0:=by
   rw [hN]
   unfold flq atA
   split <;> simp
  have hr:flr N D (A2 53 (-1074) N D)=0:=by
   rw [hN]
   unfold flr atA
   split <;> simp
  have hm:flm N D (A2 53 (-1074) N D)=0:=by
   unfold flm tI flw
   rw [hr,hq]
   rfl
  unfold n0g h0w
  rw [hm]
  exact⟨by decide,h3, .inr (.inr (by decide))⟩
 have h2:=i1p (K:=53) (L:= -1074) (by decide) hN hD
 generalize A2 53 (-1074) N D=e at*
 have hm:flm N D e<=flq N D e+1∧flq N D e<=flm N D e:=by
  unfold flm
  split <;> omega
 have h4:flq N D e < 4503599627370496->e= -1074:=h2
 unfold n0g h0w
 rw [show 2 ^53=9007199254740992 by decide]
 by_cases hc:9007199254740992<=flm N D e
 ·rw [b9 hc,b9 hc]
  exact⟨by omega,by omega, .inl (by omega)⟩
 ·rw [a6 hc,a6 hc]
  refine⟨by omega,h3,?_⟩
  by_cases hd:4503599627370496<=flm N D e
  ·exact .inl hd
  ·exact .inr (.inl (h4 (by omega)))
theorem tB (m:Nat):FloatKind.f64.nearest (m:Int)=lY m:=by
 unfold FloatKind.nearest lY
 rw [b8 (by omega),Int.natAbs_natCast]
 rfl
def kS (N D:Nat):Nat:=if E9 53 971 N D (A2 53 (-1074) N D)=true then 9218868437227405312 else if n0g 53 N D (A2 53 (-1074) N D)=0 then 0 else (h0w 53 N D (A2 53 (-1074) N D)+1074).toNat*4503599627370496+n0g 53 N D (A2 53 (-1074) N D)
def nuW (n:Bool) (N D:Nat):Nat:=if n=true then kS N D+9223372036854775808 else kS N D
theorem v1l (N D:Nat) (hD:0 < D):kS N D<=9218868437227405312:=by
 unfold kS
 obtain⟨h1,h2,h3⟩:=nC (N:=N) hD
 cases hi:E9 53 971 N D (A2 53 (-1074) N D)
 ·rw [a6 (by decide)]
  split
  ·exact n6 _
  ·unfold E9 at hi
   have:=L4 hi
   exact d0z (by omega) h1
 ·rw [b9 rfl]
  exact d7 _
theorem s2n {N D:Nat} (hD:0 < D):m1k (FloatKind.f64.nearest ((c1z 53 971 N D (A2 53 (-1074) N D):Nat):Int)) (c1v 53 971 N D (A2 53 (-1074) N D)):=by
 obtain⟨h1,h2,h3⟩:=nC (N:=N) hD
 rw [tB]
 unfold c1z c1v
 cases hi:E9 53 971 N D (A2 53 (-1074) N D)
 ·rw [a6 (by decide),a6 (by decide)]
  unfold E9 at hi
  have hi:=L4 hi
  generalize n0g 53 N D (A2 53 (-1074) N D)=m at*
  generalize h0w 53 N D (A2 53 (-1074) N D)=e at*
  exact o1d (by omega) (.inr ⟨h2,by omega⟩)
 ·rw [b9 rfl]
  exact .inl lG
theorem w2h {N D:Nat} (hD:0 < D) (hi:E9 53 971 N D (A2 53 (-1074) N D)=false):ldW (FloatKind.f64.nearest ((c1z 53 971 N D (A2 53 (-1074) N D):Nat):Int)) (c1v 53 971 N D (A2 53 (-1074) N D))=kS N D:=by
 obtain⟨h1,h2,h3⟩:=nC (N:=N) hD
 rw [tB]
 unfold c1z c1v kS
 rw [hi,a6 (by decide),a6 (by decide),a6 (by decide)]
 have hi2:h0w 53 N D (A2 53 (-1074) N D)<=971:=by
  unfold E9 at hi
  have:=L4 hi
  omega
 clear hi
 generalize n0g 53 N D (A2 53 (-1074) N D)=m at*
 generalize h0w 53 N D (A2 53 (-1074) N D)=e at*
 rcases F2 m with h | h
 ·subst h
  rw [lG,b9 rfl]
  unfold ldW
  rw [b9 rfl]
 ·rw [y1l h (by omega),a6 (by omega)]
  have:=uS (M:=m) (k:=0) (E:=e) h h1 h2 (by omega) hi2
  rw [aW,s4,show e- ((0:Nat):Int)=e by omega] at this
  exact this
abbrev xR (x:Nat):Arg:= .c (.v (.float .f64 x))
def nuE (N D:List Int):Int:=A2 53 (-1074) (val W64 N) (val W64 D)
def nuI (N D:List Int):Bool:=E9 53 971 (val W64 N) (val W64 D) (nuE N D)
def nuX (N D:List Int):Nat:=ldW (FloatKind.f64.nearest ((c1z 53 971 (val W64 N) (val W64 D) (nuE N D):Nat):Int)) (c1v 53 971 (val W64 N) (val W64 D) (nuE N D))
def i2x (N D:List Int):Prop:=m1k (FloatKind.f64.nearest ((c1z 53 971 (val W64 N) (val W64 D) (nuE N D):Nat):Int)) (c1v 53 971 (val W64 N) (val W64 D) (nuE N D))
def nuO (N D:List Int):Prop:=Cn N∧Cn D∧0 < val W64 D∧bl (val W64 N)<=1000000∧bl (val W64 D)<=1000000
section
variable (n:Bool) (N D:List Int) (r:Nat) (a b c:Bool)
theorem a3z:A7 r2e [] 200 139 [vlA n false N false D,iR 1] [xR r,fR a b c] [false,false] =some [n=false,nuI N D=false,i2x N D,N.length=N.length,D.length=D.length,nuO N D,zO4 .f64 (nuX N D)=zO4 .f64 r,zO8 (u0t 53 971 (val W64 N) (val W64 D) (nuE N D))=zO8 a,zO8 (nuI N D)=zO8 b,zO8 (j0f 53 (val W64 N) (val W64 D) (nuE N D))=zO8 c] :=by kernel_rfl
theorem y2a:A7 r2e [] 200 139 [vlA n false N false D,iR 1] [xR r,fR a b c] [false,true] =some [n=true,nuI N D=false,i2x N D,N.length=N.length,D.length=D.length,nuO N D,zO4 .f64 (nuX N D^^^2 ^(FloatKind.f64.format.exponentBits+FloatKind.f64.format.fractionBits))=zO4 .f64 r,zO8 (u0t 53 971 (val W64 N) (val W64 D) (nuE N D))=zO8 a,zO8 (nuI N D)=zO8 b,zO8 (j0f 53 (val W64 N) (val W64 D) (nuE N D))=zO8 c] :=by kernel_rfl
theorem s2l:A7 r2e [] 200 139 [vlA n false N false D,iR 1] [xR r,fR a b c] [true,false] =some [n=false,nuI N D=true,i2x N D,N.length=N.length,D.length=D.length,nuO N D,zO4 .f64 (9218868437227405312)=zO4 .f64 r,zO8 (u0t 53 971 (val W64 N) (val W64 D) (nuE N D))=zO8 a,zO8 (nuI N D)=zO8 b,zO8 (j0f 53 (val W64 N) (val W64 D) (nuE N D))=zO8 c] :=by kernel_rfl
theorem v2g:A7 r2e [] 200 139 [vlA n false N false D,iR 1] [xR r,fR a b c] [true,true] =some [n=true,nuI N D=true,i2x N D,N.length=N.length,D.length=D.length,nuO N D,zO4 .f64 (18442240474082181120)=zO4 .f64 r,zO8 (u0t 53 971 (val W64 N) (val W64 D) (nuE N D))=zO8 a,zO8 (nuI N D)=zO8 b,zO8 (j0f 53 (val W64 N) (val W64 D) (nuE N D))=zO8 c] :=by kernel_rfl
end
theorem v1d {x:Nat} (h:x<=9218868437227405312):x^^^2 ^(FloatKind.f64.format.exponentBits+FloatKind.f64.format.fractionBits)=x+9223372036854775808:=by
 have e:FloatKind.f64.format.exponentBits+FloatKind.f64.format.fractionBits=63:=rfl
 rw [e]
 have hx:x < 2 ^63:=by show x < 9223372036854775808; omega
 have h1:=m0q hx 1
 have h2:x^^^2 ^63=2 ^63||| x:=by
  refine Nat.eq_of_testBit_eq fun i=> ?_
  rw [Nat.testBit_xor,Nat.testBit_or,Nat.testBit_two_pow]
  by_cases hi:63=i
  ·subst hi
   rw [Nat.testBit_lt_two_pow hx]
   rfl
  ·rw [b8 hi]
   simp
 rw [h2]
 rw [s4] at h1
 rw [<- h1,z0l]
theorem a1s (n:Bool) {N D:Nat} (hD:0 < D) (h1:bl N<=1000000) (h2:bl D<=1000000):
  Ev.Sem zO7 J0 139 [vlA n false (ws W64 N) false (ws W64 D),iR 1] [xR (nuW n N D),fR (u0t 53 971 N D (A2 53 (-1074) N D)) (E9 53 971 N D (A2 53 (-1074) N D)) (j0f 53 N D (A2 53 (-1074) N D))] :=by
 have v1:val W64 (ws W64 N)=N:=s7 N
 have v2:val W64 (ws W64 D)=D:=s7 D
 have hE:nuE (ws W64 N) (ws W64 D)=A2 53 (-1074) N D:=by unfold nuE; rw [v1,v2]
 have hI:nuI (ws W64 N) (ws W64 D)=E9 53 971 N D (A2 53 (-1074) N D):=by unfold nuI; rw [v1,v2,hE]
 have hO:nuO (ws W64 N) (ws W64 D):=by
  unfold nuO
  rw [v1,v2]
  exact⟨Cn.ws _,Cn.ws _,hD,h1,h2⟩
 have hK:i2x (ws W64 N) (ws W64 D):=by
  unfold i2x
  rw [v1,v2,hE]
  exact s2n hD
 cases hi:E9 53 971 N D (A2 53 (-1074) N D) with
 | false=>
  have hX:nuX (ws W64 N) (ws W64 D)=kS N D:=by
   unfold nuX
   rw [v1,v2,hE]
   exact w2h hD hi
  cases n with
  | false=>
   refine l6 d0p 10 _ _ (a3z false (ws W64 N) (ws W64 D) (nuW false N D) _ _ _) ?_
   rw [v1,v2,hE,hI,hX,hi]
   exact⟨rfl,rfl,hK,rfl,rfl,hO,rfl,rfl,rfl,rfl,a7⟩
  | true=>
   refine l6 d0p 10 _ _ (y2a true (ws W64 N) (ws W64 D) (nuW true N D) _ _ _) ?_
   rw [v1,v2,hE,hI,hX,hi,v1d (v1l N D hD)]
   exact⟨rfl,rfl,hK,rfl,rfl,hO,rfl,rfl,rfl,rfl,a7⟩
 | true=>
  have hM:kS N D=9218868437227405312:=by
   unfold kS
   rw [hi]
   exact b9 rfl
  cases n with
  | false=>
   have hW:nuW false N D=9218868437227405312:=hM
   refine l6 d0p 10 _ _ (s2l false (ws W64 N) (ws W64 D) (nuW false N D) _ _ _) ?_
   rw [v1,v2,hE,hI,hi,hW]
   exact⟨rfl,rfl,hK,rfl,rfl,hO,rfl,rfl,rfl,rfl,a7⟩
  | true=>
   have hW:nuW true N D=18442240474082181120:=by
    show kS N D+9223372036854775808=_
    rw [hM]
   refine l6 d0p 10 _ _ (v2g true (ws W64 N) (ws W64 D) (nuW true N D) _ _ _) ?_
   rw [v1,v2,hE,hI,hi,hW]
   exact⟨rfl,rfl,hK,rfl,rfl,hO,rfl,rfl,rfl,rfl,a7⟩
end Go.Proofs.YtbdaebagmmmijaaGreatDoor
namespace Go.Proofs.YtbdaebagmmmijaaGreatDoor
open Go Go.RowKit Ev
def bKn:Base:=⟨zO7,J0,false,j0p,F4,2000,I6⟩
theorem x0v:BaseOk bKn:=⟨progOk,Z4,n9 _ _,m0⟩
def t7 (c:Int):Int:=if 48<=c∧c<=57 then c-48 else if 97<=c∧c<=102 then c-87 else if 65<=c∧c<=70 then c-55 else 16
def inC (a b c:Int):Bool:=match decide (a<=c) with | true=>decide (c<=b) | false=>false
theorem inB_iff {a b c:Int} :inC a b c=true↔a<=c∧c<=b:=by
 unfold inC
 by_cases h:a<=c <;> simp [h]
theorem inB_not {a b c:Int} :inC a b c=false↔¬(a<=c∧c<=b):=by
 rw [<- inB_iff]
 cases inC a b c <;> simp
section
variable (c:Int)
theorem y2q:b6 (bKn.cx 12) [] 200 136 [.int .u8 c] [true] =some (.int .i64 (iI.wrap (IntKind.u8.wrap (c-zO2 48))),[inC 48 57 c=true]):=by kernel_rfl
theorem a3p:b6 (bKn.cx 12) [] 200 136 [.int .u8 c] [false,true] =some (.int .i64 (iI.wrap (iI.wrap (IntKind.u8.wrap (c-zO2 97))+zO2 10)),[inC 97 102 c=true,inC 48 57 c=false]):=by kernel_rfl
theorem b3c:b6 (bKn.cx 12) [] 200 136 [.int .u8 c] [false,false,true] =some (.int .i64 (iI.wrap (iI.wrap (IntKind.u8.wrap (c-zO2 65))+zO2 10)),[inC 65 70 c=true,inC 97 102 c=false,inC 48 57 c=false]):=by kernel_rfl
theorem z2j:b6 (bKn.cx 12) [] 200 136 [.int .u8 c] [false,false,false] =some (.int .i64 16,[inC 65 70 c=false,inC 97 102 c=false,inC 48 57 c=false]):=by kernel_rfl
end
theorem h2w {n:Int} (h0:0<=n) (h1:n < 256):IntKind.u8.wrap n=n:=by
 simp [IntKind.wrap,IntKind.bits,IntKind.signed]
 omega
theorem yL {n:Int} (h0: -9223372036854775808<=n) (h1:n<=9223372036854775807):iI.wrap n=n:=by
 simp [IntKind.wrap,IntKind.bits,IntKind.signed]
 omega
theorem B8 {b:Base} (hb:BaseOk b) {k:Nat} {L:V4} {fuel:Nat} {ds:List Bool} {f:FuncId} {args:List Value} {v:Value} {l:List Prop} (h:b6 (b.cx k) L fuel f args ds=some (v,l)) (hl:d9 l):Ev.Pure b.P b.J f args v:=by
 obtain⟨h1,h2⟩:=q9 hb k
 have:=G6 h1 h2 h hl
 cases k with
 | zero=>exact this
 | succ k=>exact this
theorem d0l {P:Program} {J:Ev.Inv P} {f:FuncId} {args:List Value} {x y:Int} (h:Ev.Pure P J f args (.int .i64 x)) (e:x=y):Ev.Pure P J f args (.int .i64 y):=e ▸ h
theorem b1m {c:Int} (h0:0<=c) (h1:c < 256):Ev.Pure zO7 J0 136 [.int .u8 c] (.int .i64 (t7 c)):=by
 unfold t7
 by_cases a:48<=c∧c<=57
 ·rw [b9 a]
  exact d0l (B8 x0v (y2q c) ⟨inB_iff.2 a,a7⟩) (by rw [show zO2 48=48 from rfl,h2w (by omega) (by omega),yL (by omega) (by omega)])
 rw [a6 a]
 by_cases b:97<=c∧c<=102
 ·rw [b9 b]
  exact d0l (B8 x0v (a3p c) ⟨inB_iff.2 b,inB_not.2 a,a7⟩) (by rw [show zO2 97=97 from rfl,show zO2 10=10 from rfl,h2w (by omega) (by omega),yL (n:=c-97) (by omega) (by omega),yL (by omega) (by omega)]; omega)
 rw [a6 b]
 by_cases d:65<=c∧c<=70
 ·rw [b9 d]
  exact d0l (B8 x0v (b3c c) ⟨inB_iff.2 d,inB_not.2 b,inB_not.2 a,a7⟩) (by rw [show zO2 65=65 from rfl,show zO2 10=10 from rfl,h2w (by omega) (by omega),yL (n:=c-65) (by omega) (by omega),yL (by omega) (by omega)]; omega)
 rw [a6 d]
 exact B8 x0v (z2j c) ⟨inB_not.2 d,inB_not.2 b,inB_not.2 a,a7⟩
theorem worth_range {c:Int} :0<=t7 c∧t7 c<=16:=by
 unfold t7
 split
 ·omega
 split
 ·omega
 split <;> omega
def jZ:List Value->Option (Value×List Prop)
 | [.int .u8 c] =>some (.int .i64 (t7 c),[0<=c∧c < 256])
 | _=>none
theorem nG (args:List Value) (v:Value) (l:List Prop) (h:jZ args=some (v,l)) (hl:d9 l):Ev.Pure zO7 J0 136 args v:=by
 unfold jZ at h
 split at h
 ·cases h; exact b1m hl.1.1 hl.1.2
 ·cases h
def j1s:Tab:=l5 136 jZ j0p
theorem k0n:Q0 zO7 J0 j1s:=b7 nG Z4
def bNb0:Base:=⟨zO7,J0,false,j1s,F4,2000,I6⟩
theorem mC:BaseOk bNb0:=⟨progOk,k0n,n9 _ _,m0⟩
abbrev n0k:=bNb0.cx 12
def cMa:Code:=D3 zO7 131 0
def tMt (t:List UInt8) (a b n p e i:Int):St:=⟨only 67 [(0, .string ⟨⟨t⟩⟩),(1, .int .i64 a),(2, .int .i64 b),(8, .int .i64 e),(9, .int .i64 p),(16, .int .i64 n),(17, .int .i64 i)],J0.tabs,11,[],[],0,none,[],11⟩
def tMe (t:List UInt8) (a b p e:Int):St:=⟨only 67 [(0, .string ⟨⟨t⟩⟩),(1, .int .i64 a),(2, .int .i64 b),(8, .int .i64 e),(9, .int .i64 p)],J0.tabs,11,[],[],0,none,[],11⟩
abbrev chI (t:List UInt8) (k:Int):Int:=zO2 (t.getD k.toNat 0).toNat
def w1h (t:List UInt8) (k p:Int):Bool:=match chI t k==46 with | true=>decide (p < 0) | false=>false
def chP (t:List UInt8) (k:Int):Prop:=zO2 0<=chI t k∧chI t k < zO2 256
def inP (t:List UInt8) (k:Int):Prop:=zO2 0<=k∧k.toNat < t.length
section
variable (t:List UInt8) (a b n p e i:Int)
theorem j2n (hl:d9 [decide (t7 (chI t (iI.wrap (a+i))) < b)=true,chP t (iI.wrap (a+i)),inP t (iI.wrap (a+i)),decide (i < n)=true]):
  u7 n0k cMa (tMt t a b n p e i) .normal (tMt t a b n p (iI.wrap (iI.wrap (a+i)+1)) (iI.wrap (i+1))):=
 stp mC 12 progOk.mixed [true,true] [] (by kernel_rfl) hl
theorem o2c (hl:d9 [w1h t (iI.wrap (a+i)) p=true,decide (t7 (chI t (iI.wrap (a+i))) < b)=false,chP t (iI.wrap (a+i)),inP t (iI.wrap (a+i)),decide (i < n)=true]):
  u7 n0k cMa (tMt t a b n p e i) .normal (tMt t a b n (iI.wrap (a+i)) (iI.wrap (iI.wrap (a+i)+1)) (iI.wrap (i+1))):=
 stp mC 12 progOk.mixed [true,false,true] [] (by kernel_rfl) hl
theorem k2r (hl:d9 [w1h t (iI.wrap (a+i)) p=false,decide (t7 (chI t (iI.wrap (a+i))) < b)=false,chP t (iI.wrap (a+i)),inP t (iI.wrap (a+i)),decide (i < n)=true]):
  u7 n0k cMa (tMt t a b n p e i) (.exit 0) (tMe t a b p e):=
 stp mC 12 progOk.mixed [true,false,false] [] (by kernel_rfl) hl
theorem n2d (hl:d9 [decide (i < n)=false]):u7 n0k cMa (tMt t a b n p e i) (.exit 0) (tMe t a b p e):=
 stp mC 12 progOk.mixed [false] [] (by kernel_rfl) hl
theorem t2h:b6 n0k [X4 (.exit 0) (fun _=>tMe t a b p e)] 200 131 [.string ⟨⟨t⟩⟩, .int .i64 a, .int .i64 b] [true] =some (.tuple ⟨[.string ⟨⟨List.drop a.toNat (zO9 e.toNat t)⟩⟩, .int .i64 0, .int .i64 e]⟩,
 [(zO2 0<=e∧e<=zO2 t.length)∧zO2 0<=a∧a<=e,decide (p < zO2 0)=true,d5 n0k cMa (u9 n0k 200 131 [.string ⟨⟨t⟩⟩, .int .i64 a, .int .i64 b] J0.tabs zO7.globals.size [true]) (.exit 0) (tMe t a b p e)]):=by kernel_rfl
theorem t2b:b6 n0k [X4 (.exit 0) (fun _=>tMe t a b p e)] 200 131 [.string ⟨⟨t⟩⟩, .int .i64 a, .int .i64 b] [false] =some (.tuple ⟨[.string ⟨⟨List.drop a.toNat (zO9 p.toNat t)++List.drop (iI.wrap (p+zO2 1)).toNat (zO9 e.toNat t)⟩⟩, .int .i64 (iI.wrap (iI.wrap (e-p)-zO2 1)), .int .i64 e]⟩,
 [(List.drop a.toNat (zO9 p.toNat t)).length+(List.drop (iI.wrap (p+zO2 1)).toNat (zO9 e.toNat t)).length<=9223372036854775807,(zO2 0<=e∧e<=zO2 t.length)∧zO2 0<=iI.wrap (p+zO2 1)∧iI.wrap (p+zO2 1)<=e,(zO2 0<=p∧p<=zO2 t.length)∧zO2 0<=a∧a<=p,decide (p < zO2 0)=false,
   d5 n0k cMa (u9 n0k 200 131 [.string ⟨⟨t⟩⟩, .int .i64 a, .int .i64 b] J0.tabs zO7.globals.size [false]) (.exit 0) (tMe t a b p e)]):=by kernel_rfl
theorem h2u (d:Bool) {x:AX} {s':St} (h:d5 n0k cMa (tMt t a b (iI.wrap (zO2 t.length-a)) (-1) a 0) x s'):d5 n0k cMa (u9 n0k 200 131 [.string ⟨⟨t⟩⟩, .int .i64 a, .int .i64 b] J0.tabs zO7.globals.size [d]) x s':=
 m6 h []
end
def mR (t:List UInt8) (b:Int):Nat->Nat->Int->Int×Nat
 | 0,k,p=>(p,k)
 | f+1,k,p=>if t7 (chI t k) < b then mR t b f (k+1) p else if w1h t k p=true then mR t b f (k+1) k else (p,k)
theorem jC (t:List UInt8) (b:Int):∀ (f k:Nat) (p:Int),k+f=t.length->p < (k:Int)->k<=(mR t b f k p).2∧(mR t b f k p).2<=t.length∧((mR t b f k p).1=p∨(k:Int)<=(mR t b f k p).1)∧(mR t b f k p).1 < ((mR t b f k p).2:Int)
 | 0,k,p,h,hp=>⟨d7 _,by show k<=_; omega, .inl rfl,hp⟩
 | f+1,k,p,h,hp=>by
  unfold mR
  split
  ·obtain⟨h1,h2,h3,h4⟩:=jC t b f (k+1) p (by omega) (by omega)
   exact⟨by omega,h2,h3.imp id (fun h=>by omega),h4⟩
  ·split
   ·obtain⟨h1,h2,h3,h4⟩:=jC t b f (k+1) (k:Int) (by omega) (by omega)
    exact⟨by omega,h2, .inr (by rcases h3 with h3 | h3 <;> omega),h4⟩
   ·exact⟨d7 _,by show k<=_; omega, .inl rfl,hp⟩
theorem wr {n:Int} (h0: -9223372036854775808<=n) (h1:n<=9223372036854775807):iI.wrap n=n:=yL h0 h1
theorem d2p {t:List UInt8} {a:Nat} {b:Int} (hl:t.length < 9223372036854775807):∀ (f k:Nat) (p:Int),a<=k->k+f=t.length->
  d5 n0k cMa (tMt t a b ((t.length:Int)-a) p k ((k:Int)-a)) (.exit 0) (tMe t a b (mR t b f k p).1 ((mR t b f k p).2:Int)):=by
 intro f k p hak hkf
 obtain⟨r,hr⟩:∃ r,mR t b f k p=r:=⟨_,rfl⟩
 rw [hr]
 refine G3 (ι:=Nat×Int) (fun x=>tMt t a b ((t.length:Int)-a) x.2 x.1 ((x.1:Int)-a)) (fun x=>t.length-x.1) (fun x=>a<=x.1∧x.1<=t.length∧mR t b (t.length-x.1) x.1 x.2=r) (by intro e; cases e) (fun x hx=> ?_) (k,p) ⟨hak,by show k<=_; omega,by show mR t b (t.length-k) k p=r; rw [show t.length-k=f by omega]; exact hr⟩
 obtain⟨k',p'⟩:=x
 obtain⟨h1,h2,h3⟩:=hx
 simp only at h1 h2 h3 ⊢
 have ha:iI.wrap ((a:Int)+((k':Int)-a))=(k':Int):=by rw [wr (by omega) (by omega)]; omega
 by_cases hlt:k' < t.length
 ·have hc:chP t (k':Int):=⟨y9 _,zzA186.2 (UInt8.toNat_lt _)⟩
  have hi:inP t (k':Int):=⟨y9 _,by rw [i8]; exact hlt⟩
  have hd:decide (((k':Int)-a) < ((t.length:Int)-a))=true:=d4 (by omega)
  have e1:iI.wrap ((k':Int)+1)=((k'+1:Nat):Int):=by rw [wr (by omega) (by omega)]; omega
  have e2:iI.wrap ((k':Int)-a+1)=((k'+1:Nat):Int)-a:=by rw [wr (by omega) (by omega)]; omega
  obtain⟨g,hg⟩:∃ g,t.length-k'=g+1:=⟨t.length-k'-1,by omega⟩
  have hg':t.length- (k'+1)=g:=by omega
  rw [hg] at h3
  unfold mR at h3
  by_cases hw:t7 (chI t (k':Int)) < b
  ·rw [b9 hw] at h3
   refine .inl ⟨(k'+1,p'),⟨by omega,by omega,by rw [hg']; exact h3⟩,by show t.length- (k'+1) < t.length-k'; omega,?_⟩
   have:=j2n t a b ((t.length:Int)-a) p' k' ((k':Int)-a) (by rw [ha]; exact⟨d4 hw,hc,hi,hd,a7⟩)
   rw [ha,e1,e2] at this
   exact this
  ·rw [a6 hw] at h3
   by_cases hdot:w1h t (k':Int) p'=true
   ·rw [b9 hdot] at h3
    refine .inl ⟨(k'+1,(k':Int)),⟨by omega,by omega,by rw [hg']; exact h3⟩,by show t.length- (k'+1) < t.length-k'; omega,?_⟩
    have:=o2c t a b ((t.length:Int)-a) p' k' ((k':Int)-a) (by rw [ha]; exact⟨hdot,b8 hw,hc,hi,hd,a7⟩)
    rw [ha,e1,e2] at this
    exact this
   ·rw [a6 hdot] at h3
    refine .inr ?_
    rw [<- h3]
    exact k2r t a b ((t.length:Int)-a) p' k' ((k':Int)-a) (by rw [ha]; exact⟨by simpa using hdot,b8 hw,hc,hi,hd,a7⟩)
 ·obtain rfl:k'=t.length:=by omega
  rw [bD] at h3
  refine .inr ?_
  rw [<- h3]
  exact n2d t a b ((t.length:Int)-a) p' _ _ ⟨b8 (by omega),a7⟩
def maP (t:List UInt8) (a:Nat) (b:Int):Int:=(mR t b (t.length-a) a (-1)).1
def maE (t:List UInt8) (a:Nat) (b:Int):Nat:=(mR t b (t.length-a) a (-1)).2
def maS (t:List UInt8) (a:Nat) (b:Int):List UInt8:=if maP t a b < 0 then (t.take (maE t a b)).drop a else (t.take (maP t a b).toNat).drop a++(t.take (maE t a b)).drop ((maP t a b).toNat+1)
def maB (t:List UInt8) (a:Nat) (b:Int):Int:=if maP t a b < 0 then 0 else (maE t a b:Int)-maP t a b-1
theorem c0s {t:List UInt8} {a:Nat} {b:Int} (ha:a<=t.length):a<=maE t a b∧maE t a b<=t.length∧(maP t a b= -1∨(a:Int)<=maP t a b)∧maP t a b < (maE t a b:Int):=by
 unfold maE maP
 exact jC t b (t.length-a) a (-1) (by omega) (by omega)
theorem g0o {t:List UInt8} {a:Nat} {b:Int} (hl:t.length < 9223372036854775807) (ha:a<=t.length):
  Ev.Pure zO7 J0 131 [.string ⟨⟨t⟩⟩, .int .i64 a, .int .i64 b] (.tuple ⟨[.string ⟨⟨maS t a b⟩⟩, .int .i64 (maB t a b), .int .i64 (maE t a b)]⟩):=by
 obtain⟨r1,r2,r3,r4⟩:=c0s (b:=b) ha
 have hloop:=d2p (a:=a) (b:=b) hl (t.length-a) a (-1) (d7 _) (by omega)
 rw [Int.sub_self] at hloop
 have hn:iI.wrap (zO2 t.length- (a:Int))=(t.length:Int)-a:=by
  show iI.wrap ((t.length:Int)-a)=_
  rw [wr (by omega) (by omega)]
 have hin:∀ d,d5 n0k cMa (u9 n0k 200 131 [.string ⟨⟨t⟩⟩, .int .i64 a, .int .i64 b] J0.tabs zO7.globals.size [d]) (.exit 0) (tMe t a b (maP t a b) (maE t a b:Int)):=fun d=>h2u t a b d (by rw [hn]; exact hloop)
 have hte:(zO2 0<=(maE t a b:Int)∧(maE t a b:Int)<=zO2 t.length):=⟨y9 _,zzA185.2 r2⟩
 unfold maS maB
 by_cases hp:maP t a b < 0
 ·rw [b9 hp,b9 hp]
  have:Ev.Pure zO7 J0 _ _ _:=B8 mC (t2h t a b (maP t a b) (maE t a b:Int)) ⟨⟨hte,y9 _,zzA185.2 r1⟩,d4 hp,hin true,a7⟩
  simpa using this
 ·rw [a6 hp,a6 hp]
  have hpa:(a:Int)<=maP t a b:=by rcases r3 with h | h <;> omega
  obtain⟨q,hq⟩:=kK (show 0<=maP t a b by omega)
  have e1:iI.wrap ((q:Int)+zO2 1)=((q+1:Nat):Int):=by
   show iI.wrap ((q:Int)+1)=_
   rw [wr (by omega) (by omega)]
   omega
  have e2:iI.wrap (iI.wrap ((maE t a b:Int)- (q:Int))-zO2 1)=(maE t a b:Int)-q-1:=by
   show iI.wrap (iI.wrap ((maE t a b:Int)- (q:Int))-1)=_
   rw [wr (n:=(maE t a b:Int)- (q:Int)) (by omega) (by omega),wr (by omega) (by omega)]
  have:Ev.Pure zO7 J0 _ _ _:=B8 mC (t2b t a b (maP t a b) (maE t a b:Int)) (by
   rw [hq,e1]
   refine⟨?_,⟨hte,y9 _,by omega⟩,⟨⟨y9 _,by show (q:Int)<=(t.length:Int); omega⟩,y9 _,by omega⟩,b8 (by show ¬((q:Int) < 0); omega),by rw [<- hq]; exact hin false,a7⟩
   simp only [D5,A9,i8]
   omega)
  rw [hq,e1,e2] at this
  rw [hq]
  simpa using this
def mP:List Value->Option (Value×List Prop)
 | [.string ⟨⟨s⟩⟩, .string ⟨⟨t⟩⟩] =>some (.int .i64 (Lib.index s t),[s.length < 4294967281])
 | _=>none
theorem e0i (args:List Value) (v:Value) (l:List Prop) (h:mP args=some (v,l)) (hl:d9 l):Ev.Pure zO7 J0 220 args v:=by
 unfold mP at h
 split at h
 ·cases h; exact zP _ _ hl.1
 ·cases h
def bIx:Base:=⟨zO7,J0,false,l5 220 mP j0p,F4,2000,I6⟩
theorem m2o:BaseOk bIx:=⟨progOk,b7 e0i Z4,n9 _ _,m0⟩
def r2k (L s:List UInt8):Bool:=decide (zO2 0<=Lib.index L s)
theorem g2u (L s:List UInt8):b6 (bIx.cx 12) [] 200 186 [.string ⟨⟨L⟩⟩, .string ⟨⟨s⟩⟩] [] =some (.bool (r2k L s),[L.length < 4294967281]):=by kernel_rfl
def n0o:List Value->Option (Value×List Prop)
 | [.string ⟨⟨L⟩⟩, .string ⟨⟨s⟩⟩] =>some (.bool (r2k L s),[L.length < 4294967281])
 | _=>none
theorem c1k (args:List Value) (v:Value) (l:List Prop) (h:n0o args=some (v,l)) (hl:d9 l):Ev.Pure zO7 J0 186 args v:=by
 unfold n0o at h
 split at h
 ·cases h; exact B8 m2o (g2u _ _) hl
 ·cases h
def h1y:Tab:=l5 186 n0o j1s
theorem j0j:Q0 zO7 J0 h1y:=b7 c1k k0n
def bNb1:Base:=⟨zO7,J0,false,h1y,F4,2000,I6⟩
theorem cU:BaseOk bNb1:=⟨progOk,j0j,n9 _ _,m0⟩
abbrev mD:=bNb1.cx 12
def cEx:Code:=D3 zO7 132 0
def tEx (t:List UInt8) (a:Int) (g:Bool) (n f i:Int):St:=⟨only 82 [(0, .string ⟨⟨t⟩⟩),(1, .int .i64 a),(8, .int .i64 i),(9, .bool g),(10, .int .i64 n),(11, .int .i64 f)],J0.tabs,11,[],[],0,none,[],11⟩
def t2s (t:List UInt8) (a:Int):List UInt8:=List.drop a.toNat (zO9 (iI.wrap (a+1)).toNat t)
def geB (t:List UInt8) (a:Int):Bool:=decide (a>=(t.length:Int))
def ltE (t:List UInt8) (k:Int):Bool:=decide (k < (t.length:Int))
def hdB (t L:List UInt8) (a:Int):Bool:=match geB t a with | true=>true | false=> !r2k L (t2s t a)
def hdP (t:List UInt8) (a:Int):Prop:=F0 [(4,geB t a)] [(4,false)] ->(0<=iI.wrap (a+1)∧iI.wrap (a+1)<=(t.length:Int))∧0<=a∧a<=iI.wrap (a+1)
def hdL (t L:List UInt8) (a:Int):Prop:=F0 [(4,geB t a)] [(4,false)] ->L.length < 4294967281
def sgB (t:List UInt8) (k:Int):Bool:=match ltE t k with | true=>(match chI t k==43 with | true=>true | false=>chI t k==45) | false=>false
def u2f (t:List UInt8) (k:Int):Prop:=F0 [(9,chI t k==43),(4,ltE t k)] [(9,false),(4,true)] ->0<=k∧k.toNat < t.length
def m2q (t:List UInt8) (k:Int):Prop:=F0 [(4,ltE t k)] [(4,true)] ->0<=k∧k.toNat < t.length
def exB (t:List UInt8) (i:Int):Bool:=match ltE t i with | true=>decide (t7 (chI t i) < 10) | false=>false
def v2n (t:List UInt8) (i:Int):Prop:=F0 [(4,ltE t i)] [(4,true)] ->0<=chI t i∧chI t i < 256
def nxW (n w:Int):Int:=if iI.wrap (iI.wrap (n*zO2 10)+w) < zO2 1073741824 then iI.wrap (iI.wrap (n*zO2 10)+w) else zO2 1073741824
section
variable (t L:List UInt8) (a:Nat) (g:Bool) (n f i:Int)
theorem v2m (hl:d9 [chP t i,inP t i,exB t i=true,v2n t i,m2q t i]):u7 mD cEx (tEx t a g n f i) .normal (tEx t a g (nxW n (t7 (chI t i))) f (iI.wrap (i+1))):=
 stp cU 12 progOk.mixed [true] [] (by kernel_rfl) hl
theorem w1t (hl:d9 [exB t i=false,v2n t i,m2q t i]):u7 mD cEx (tEx t a g n f i) (.exit 0) (tEx t a g n f i):=
 stp cU 12 progOk.mixed [false] [] (by kernel_rfl) hl
theorem i2k:b6 mD [] 200 132 [.string ⟨⟨t⟩⟩, .int .i64 a, .string ⟨⟨L⟩⟩] [true] =some (.tuple ⟨[.int .i64 0, .int .i64 a]⟩,[hdB t L a=true,hdL t L a,hdP t a]):=by kernel_rfl
def eQ0 (t L:List UInt8) (a:Int):List Prop:=[sgB t (iI.wrap (a+1))=false,u2f t (iI.wrap (a+1)),m2q t (iI.wrap (a+1)),hdB t L a=false,hdL t L a,hdP t a]
def eQ1 (t L:List UInt8) (a:Int):List Prop:=[inP t (iI.wrap (a+1)),sgB t (iI.wrap (a+1))=true,u2f t (iI.wrap (a+1)),m2q t (iI.wrap (a+1)),hdB t L a=false,hdL t L a,hdP t a]
theorem s2u:b6 mD [X4 (.exit 0) (fun _=>tEx t a g n f i)] 200 132 [.string ⟨⟨t⟩⟩, .int .i64 a, .string ⟨⟨L⟩⟩] [false,false,true] =some (.tuple ⟨[.int .i64 0, .int .i64 a]⟩,((i==f)=true) ::d5 mD cEx (u9 mD 200 132 [.string ⟨⟨t⟩⟩, .int .i64 a, .string ⟨⟨L⟩⟩] J0.tabs zO7.globals.size [false,false,true]) (.exit 0) (tEx t a g n f i) ::eQ0 t L a):=by kernel_rfl
theorem u2q:b6 mD [X4 (.exit 0) (fun _=>tEx t a g n f i)] 200 132 [.string ⟨⟨t⟩⟩, .int .i64 a, .string ⟨⟨L⟩⟩] [false,false,false,false] =some (.tuple ⟨[.int .i64 n, .int .i64 i]⟩,(g=false) ::((i==f)=false) ::d5 mD cEx (u9 mD 200 132 [.string ⟨⟨t⟩⟩, .int .i64 a, .string ⟨⟨L⟩⟩] J0.tabs zO7.globals.size [false,false,false,false]) (.exit 0) (tEx t a g n f i) ::eQ0 t L a):=by kernel_rfl
theorem w2d:b6 mD [X4 (.exit 0) (fun _=>tEx t a g n f i)] 200 132 [.string ⟨⟨t⟩⟩, .int .i64 a, .string ⟨⟨L⟩⟩] [false,true,true] =some (.tuple ⟨[.int .i64 0, .int .i64 a]⟩,((i==f)=true) ::d5 mD cEx (u9 mD 200 132 [.string ⟨⟨t⟩⟩, .int .i64 a, .string ⟨⟨L⟩⟩] J0.tabs zO7.globals.size [false,true,true]) (.exit 0) (tEx t a g n f i) ::eQ1 t L a):=by kernel_rfl
theorem t2r:b6 mD [X4 (.exit 0) (fun _=>tEx t a g n f i)] 200 132 [.string ⟨⟨t⟩⟩, .int .i64 a, .string ⟨⟨L⟩⟩] [false,true,false,true] =some (.tuple ⟨[.int .i64 (iI.wrap (zO2 0-n)), .int .i64 i]⟩,(g=true) ::((i==f)=false) ::d5 mD cEx (u9 mD 200 132 [.string ⟨⟨t⟩⟩, .int .i64 a, .string ⟨⟨L⟩⟩] J0.tabs zO7.globals.size [false,true,false,true]) (.exit 0) (tEx t a g n f i) ::eQ1 t L a):=by kernel_rfl
theorem r2s:b6 mD [X4 (.exit 0) (fun _=>tEx t a g n f i)] 200 132 [.string ⟨⟨t⟩⟩, .int .i64 a, .string ⟨⟨L⟩⟩] [false,true,false,false] =some (.tuple ⟨[.int .i64 n, .int .i64 i]⟩,(g=false) ::((i==f)=false) ::d5 mD cEx (u9 mD 200 132 [.string ⟨⟨t⟩⟩, .int .i64 a, .string ⟨⟨L⟩⟩] J0.tabs zO7.globals.size [false,true,false,false]) (.exit 0) (tEx t a g n f i) ::eQ1 t L a):=by kernel_rfl
theorem u1w (ds:List Bool) {x:AX} {s':St} (h:d5 mD cEx (tEx t a false 0 (iI.wrap ((a:Int)+1)) (iI.wrap ((a:Int)+1))) x s'):d5 mD cEx (u9 mD 200 132 [.string ⟨⟨t⟩⟩, .int .i64 a, .string ⟨⟨L⟩⟩] J0.tabs zO7.globals.size (false ::false ::ds)) x s':=
 m6 h []
theorem u1s (ds:List Bool) {x:AX} {s':St} (h:d5 mD cEx (tEx t a (chI t (iI.wrap ((a:Int)+1))==45) 0 (iI.wrap (iI.wrap ((a:Int)+1)+1)) (iI.wrap (iI.wrap ((a:Int)+1)+1))) x s'):d5 mD cEx (u9 mD 200 132 [.string ⟨⟨t⟩⟩, .int .i64 a, .string ⟨⟨L⟩⟩] J0.tabs zO7.globals.size (false ::true ::ds)) x s':=
 m6 h []
end
def nxP (n w:Int):Int:=if n*10+w < 1073741824 then n*10+w else 1073741824
theorem t2d {n w:Int} (h0:0<=n) (h1:n<=1073741824) (w0:0<=w) (w1:w<=16):nxW n w=nxP n w:=by
 unfold nxW nxP
 rw [show (zO2 10:Int)=10 from rfl,show (zO2 1073741824:Int)=1073741824 from rfl,wr (n:=n*10) (by omega) (by omega),wr (by omega) (by omega)]
theorem x0n {n w:Int} (h0:0<=n) (w0:0<=w):0<=nxP n w∧nxP n w<=1073741824:=by
 unfold nxP
 split <;> omega
def n0f (t:List UInt8):Nat->Nat->Int->Int×Nat
 | 0,k,n=>(n,k)
 | f+1,k,n=>if t7 (chI t k) < 10 then n0f t f (k+1) (nxP n (t7 (chI t k))) else (n,k)
theorem kO (t:List UInt8):∀ (f k:Nat) (n:Int),k+f=t.length->0<=n->n<=1073741824->k<=(n0f t f k n).2∧(n0f t f k n).2<=t.length∧0<=(n0f t f k n).1∧(n0f t f k n).1<=1073741824
 | 0,k,n,h,h0,h1=>⟨d7 _,by show k<=_; omega,h0,h1⟩
 | f+1,k,n,h,h0,h1=>by
  unfold n0f
  split
  ·have hr:=x0n (w:=t7 (chI t k)) h0 worth_range.1
   obtain⟨a,b,c,d⟩:=kO t f (k+1) _ (by omega) hr.1 hr.2
   exact⟨by omega,b,c,d⟩
  ·exact⟨d7 _,by show k<=_; omega,h0,h1⟩
theorem s2e (t:List UInt8) (k:Int):chP t k:=⟨y9 _,zzA186.2 (UInt8.toNat_lt _)⟩
theorem q0n (t:List UInt8) (i:Int):v2n t i:=fun _=>⟨y9 _,zzA186.2 (UInt8.toNat_lt _)⟩
theorem rI (t:List UInt8) (i:Nat):m2q t (i:Int):=fun hc=>⟨y9 _,by
 have:(i:Int) < (t.length:Int):=by simpa [F0,kvP,ltE] using hc
 rw [i8]
 omega⟩
theorem n1j (t:List UInt8) (i:Nat):u2f t (i:Int):=fun hc=>⟨y9 _,by
 have:(i:Int) < (t.length:Int):=by
  have h:=hc.2
  simpa [F0,kvP,ltE] using h
 rw [i8]
 omega⟩
theorem k1w {t:List UInt8} {a:Nat} {g:Bool} {f0:Int} (hl:t.length < 9223372036854775807):∀ (f k:Nat) (n:Int),k+f=t.length->0<=n->n<=1073741824->
  d5 mD cEx (tEx t a g n f0 k) (.exit 0) (tEx t a g (n0f t f k n).1 f0 ((n0f t f k n).2:Int)):=by
 intro f k n hkf hn0 hn1
 obtain⟨r,hr⟩:∃ r,n0f t f k n=r:=⟨_,rfl⟩
 rw [hr]
 refine G3 (ι:=Nat×Int) (fun x=>tEx t a g x.2 f0 x.1) (fun x=>t.length-x.1) (fun x=>x.1<=t.length∧(0<=x.2∧x.2<=1073741824)∧n0f t (t.length-x.1) x.1 x.2=r) (by intro e; cases e) (fun x hx=> ?_) (k,n) ⟨by show k<=_; omega,⟨hn0,hn1⟩,by show n0f t (t.length-k) k n=r; rw [show t.length-k=f by omega]; exact hr⟩
 obtain⟨k',n'⟩:=x
 obtain⟨h1,h2,h3⟩:=hx
 simp only at h1 h2 h3 ⊢
 by_cases hlt:k' < t.length
 ·have hb:ltE t (k':Int)=true:=d4 (by omega)
  have hi:inP t (k':Int):=⟨y9 _,by rw [i8]; exact hlt⟩
  have e1:iI.wrap ((k':Int)+1)=((k'+1:Nat):Int):=by rw [wr (by omega) (by omega)]; omega
  obtain⟨q,hq⟩:∃ q,t.length-k'=q+1:=⟨t.length-k'-1,by omega⟩
  rw [hq] at h3
  unfold n0f at h3
  by_cases hw:t7 (chI t (k':Int)) < 10
  ·rw [b9 hw] at h3
   have hw0:=worth_range (c:=chI t (k':Int))
   have hnr:=x0n (w:=t7 (chI t (k':Int))) h2.1 hw0.1
   refine .inl ⟨(k'+1,nxP n' (t7 (chI t (k':Int)))),⟨by show k'+1<=_; omega,hnr,by show n0f t (t.length- (k'+1)) (k'+1) _=r; rw [show t.length- (k'+1)=q by omega]; exact h3⟩,by show t.length- (k'+1) < t.length-k'; omega,?_⟩
   have:=v2m t a g n' f0 (k':Int) ⟨s2e _ _,hi,by unfold exB; rw [hb]; exact d4 hw,q0n _ _,rI _ _,a7⟩
   rw [e1,t2d h2.1 h2.2 hw0.1 hw0.2] at this
   exact this
  ·rw [a6 hw] at h3
   refine .inr ?_
   rw [<- h3]
   exact w1t t a g n' f0 (k':Int) ⟨by unfold exB; rw [hb]; exact b8 hw,q0n _ _,rI _ _,a7⟩
 ·obtain rfl:k'=t.length:=by omega
  rw [bD] at h3
  refine .inr ?_
  rw [<- h3]
  exact w1t t a g n' f0 _ ⟨by unfold exB ltE; rw [b8 (kD _)],q0n _ _,rI _ _,a7⟩
def exK (t:List UInt8) (a:Nat):Nat:=if sgB t ((a+1:Nat):Int)=true then a+2 else a+1
def exR (t:List UInt8) (a:Nat):Int×Nat:=n0f t (t.length-exK t a) (exK t a) 0
def exN (t:List UInt8) (a:Nat):Bool:=sgB t ((a+1:Nat):Int) && (chI t ((a+1:Nat):Int)==45)
def exV (t L:List UInt8) (a:Nat):Int:=if hdB t L a=true then 0 else if (exR t a).2=exK t a then 0 else if exN t a=true then -(exR t a).1 else (exR t a).1
def exE (t L:List UInt8) (a:Nat):Nat:=if hdB t L a=true then a else if (exR t a).2=exK t a then a else (exR t a).2
theorem p2c {t:List UInt8} {a:Nat} (hl:t.length < 9223372036854775807):hdP t (a:Int):=fun hc=>by
 have:(a:Int) < (t.length:Int):=by simpa [F0,kvP,geB] using hc
 rw [wr (by omega) (by omega)]
 omega
theorem f0j {t L:List UInt8} {a:Nat} (hl:t.length < 9223372036854775807) (hL:L.length < 4294967281):
  Ev.Pure zO7 J0 132 [.string ⟨⟨t⟩⟩, .int .i64 a, .string ⟨⟨L⟩⟩] (.tuple ⟨[.int .i64 (exV t L a), .int .i64 (exE t L a)]⟩):=by
 have hq:hdL t L (a:Int):=fun _=>hL
 have hp:=p2c (a:=a) hl
 unfold exV exE
 cases hh:hdB t L a with
 | true=>
  simp only [J3]
  exact B8 cU (i2k t L a) ⟨hh,hq,hp,a7⟩
 | false=>
  simp only [P3,D7]
  have hlt:a < t.length:=by
   unfold hdB at hh
   cases hg:geB t (a:Int) with
   | true=>rw [hg] at hh; cases hh
   | false=>
    have:¬((a:Int)>=(t.length:Int)):=L4 hg
    omega
  have e1:iI.wrap ((a:Int)+1)=((a+1:Nat):Int):=by rw [wr (by omega) (by omega)]; omega
  cases hs:sgB t ((a+1:Nat):Int) with
  | false=>
   have hK:exK t a=a+1:=by unfold exK; rw [hs]; rfl
   have hN:exN t a=false:=by unfold exN; rw [hs]; rfl
   obtain⟨r1,r2,r3,r4⟩:=kO t (t.length-exK t a) (exK t a) 0 (by omega) (by decide) (by decide)
   have hloop:d5 mD cEx (tEx t a false 0 ((a+1:Nat):Int) ((a+1:Nat):Int)) (.exit 0) (tEx t a false (exR t a).1 ((a+1:Nat):Int) ((exR t a).2:Int)):=by
    have:=k1w (a:=a) (g:=false) (f0:=((a+1:Nat):Int)) hl (t.length-exK t a) (exK t a) 0 (by omega) (by decide) (by decide)
    rw [hK] at this
    unfold exR
    rw [hK]
    exact this
   have hi:=fun ds=>u1w t L a ds (by rw [e1]; exact hloop)
   have hq0:d9 (eQ0 t L a):=by
    unfold eQ0
    rw [e1]
    exact⟨hs,n1j _ _,rI _ _,hh,hq,hp,a7⟩
   rw [hN]
   simp only [P3,D7]
   by_cases he:(exR t a).2=exK t a
   ·rw [b9 he,b9 he]
    rw [hK] at he
    exact B8 cU (s2u t L a false (exR t a).1 ((a+1:Nat):Int) ((exR t a).2:Int)) ⟨by rw [he]; exact jG _,hi [true],hq0⟩
   ·rw [a6 he,a6 he]
    rw [hK] at he
    exact B8 cU (u2q t L a false (exR t a).1 ((a+1:Nat):Int) ((exR t a).2:Int)) ⟨rfl,x8 (by omega),hi [false,false],hq0⟩
  | true=>
   have hk:a+1 < t.length:=by
    unfold sgB at hs
    cases hg:ltE t ((a+1:Nat):Int) with
    | false=>rw [hg] at hs; cases hs
    | true=>
     have:((a+1:Nat):Int) < (t.length:Int):=H8 hg
     omega
   have hK:exK t a=a+2:=by unfold exK; rw [hs]; rfl
   have hN:exN t a=(chI t ((a+1:Nat):Int)==45):=by unfold exN; rw [hs]; rfl
   have e2:iI.wrap (((a+1:Nat):Int)+1)=((a+2:Nat):Int):=by rw [wr (by omega) (by omega)]; omega
   obtain⟨r1,r2,r3,r4⟩:=kO t (t.length-exK t a) (exK t a) 0 (by omega) (by decide) (by decide)
   have hloop:d5 mD cEx (tEx t a (exN t a) 0 ((a+2:Nat):Int) ((a+2:Nat):Int)) (.exit 0) (tEx t a (exN t a) (exR t a).1 ((a+2:Nat):Int) ((exR t a).2:Int)):=by
    have:=k1w (a:=a) (g:=exN t a) (f0:=((a+2:Nat):Int)) hl (t.length-exK t a) (exK t a) 0 (by omega) (by decide) (by decide)
    rw [hK] at this
    unfold exR
    rw [hK]
    exact this
   have hi:=fun ds=>u1s t L a ds (by rw [e1,e2,<- hN]; exact hloop)
   have hq1:d9 (eQ1 t L a):=by
    unfold eQ1
    rw [e1]
    exact⟨⟨y9 _,by rw [i8]; exact hk⟩,hs,n1j _ _,rI _ _,hh,hq,hp,a7⟩
   by_cases he:(exR t a).2=exK t a
   ·rw [b9 he,b9 he]
    rw [hK] at he
    exact B8 cU (w2d t L a (exN t a) (exR t a).1 ((a+2:Nat):Int) ((exR t a).2:Int)) ⟨by rw [he]; exact jG _,hi [true],hq1⟩
   ·rw [a6 he,a6 he]
    rw [hK] at he
    cases hn:exN t a with
    | true=>
     rw [hn] at hi
     have:Ev.Pure zO7 J0 _ _ _:=B8 cU (t2r t L a true (exR t a).1 ((a+2:Nat):Int) ((exR t a).2:Int)) ⟨rfl,x8 (by omega),hi [false,true],hq1⟩
     rw [show iI.wrap (zO2 0- (exR t a).1)= -(exR t a).1 by
      unfold exR
      rw [show (zO2 0:Int)=0 from rfl,wr (by omega) (by omega)]
      omega] at this
     simpa using this
    | false=>
     rw [hn] at hi
     have:Ev.Pure zO7 J0 _ _ _:=B8 cU (r2s t L a false (exR t a).1 ((a+2:Nat):Int) ((exR t a).2:Int)) ⟨rfl,x8 (by omega),hi [false,false],hq1⟩
     simpa using this
def p1i:List Value->Option (Value×List Prop)
 | [.string ⟨⟨t⟩⟩, .int .i64 a, .int .i64 b] =>some (.tuple ⟨[.string ⟨⟨maS t a.toNat b⟩⟩, .int .i64 (maB t a.toNat b), .int .i64 (maE t a.toNat b)]⟩,[t.length < 9223372036854775807∧0<=a∧a.toNat<=t.length])
 | _=>none
theorem h1m (args:List Value) (v:Value) (l:List Prop) (h:p1i args=some (v,l)) (hl:d9 l):Ev.Pure zO7 J0 131 args v:=by
 unfold p1i at h
 split at h
 ·rename_i t a b
  cases h
  obtain⟨h1,h2,h3⟩:=hl.1
  obtain⟨q,rfl⟩:=kK h2
  exact g0o h1 h3
 ·cases h
def d1y:List Value->Option (Value×List Prop)
 | [.string ⟨⟨t⟩⟩, .int .i64 a, .string ⟨⟨L⟩⟩] =>some (.tuple ⟨[.int .i64 (exV t L a.toNat), .int .i64 (exE t L a.toNat)]⟩,[t.length < 9223372036854775807∧L.length < 4294967281∧0<=a])
 | _=>none
theorem h1l (args:List Value) (v:Value) (l:List Prop) (h:d1y args=some (v,l)) (hl:d9 l):Ev.Pure zO7 J0 132 args v:=by
 unfold d1y at h
 split at h
 ·rename_i t a L
  cases h
  obtain⟨h1,h2,h3⟩:=hl.1
  obtain⟨q,rfl⟩:=kK h3
  exact f0j h1 h2
 ·cases h
def o1z:Tab:=l5 131 p1i (l5 132 d1y h1y)
theorem j0r:Q0 zO7 J0 o1z:=b7 h1m (b7 h1l j0j)
def bNb2:Base:=⟨zO7,J0,false,o1z,F4,2000,I6⟩
theorem uU:BaseOk bNb2:=⟨progOk,j0r,n9 _ _,m0⟩
abbrev o2i:=bNb2.cx 12
end Go.Proofs.YtbdaebagmmmijaaGreatDoor
