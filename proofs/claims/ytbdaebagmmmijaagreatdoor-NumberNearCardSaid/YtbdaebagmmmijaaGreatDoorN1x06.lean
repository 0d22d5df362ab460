/-
 NumberNear: a decimal that is read as a finite number lies nowhere beyond the middle between it and its neighbours; no condition (a part of the proof).
-/
import Derived.Test.YtbdaebagmmmijaaGreatDoorN1x05
import Derived.Shelf.Strings.Search3
import Derived.Shelf.Pu.Clone
import Derived.Lib.IndexBytes
set_option maxRecDepth 1000000
open Nat renaming beq->zO0,blt->zO1
open Int renaming ofNat->zO2
open Go.Value renaming int->zO3,float->zO4,bool->zO9
open List renaming replicate->zO6,take->zO10
open Go.Proofs.Tryz renaming prog->zO8
open BitVec renaming ofInt->zO11
open Go.IntKind renaming i64->iI,u64->uI,u8->uB
noncomputable section
namespace Go.Proofs
theorem a0o:type_of%@beq_self_eq_true:=@beq_self_eq_true
theorem zzA208:type_of%@bne_iff_ne:=@bne_iff_ne
theorem j0k:type_of%@Nat.eq_of_mul_eq_mul_right:=@Nat.eq_of_mul_eq_mul_right
end Go.Proofs
namespace Go.Proofs.YtbdaebagmmmijaaGreatDoor
open Go Go.RowKit Ev Wd VaS
abbrev xR (x:Nat):Arg:= .c (.v (.float .f64 x))
def nuE (N D:List Int):Int:=B2 53 (-1074) (val W64 N) (val W64 D)
def nuI (N D:List Int):Bool:=G8 53 971 (val W64 N) (val W64 D) (nuE N D)
def nuX (N D:List Int):Nat:=ldW (FloatKind.f64.nearest ((n1k 53 971 (val W64 N) (val W64 D) (nuE N D):Nat):Int)) (n1h 53 971 (val W64 N) (val W64 D) (nuE N D))
def d2y (N D:List Int):Prop:=g1x (FloatKind.f64.nearest ((n1k 53 971 (val W64 N) (val W64 D) (nuE N D):Nat):Int)) (n1h 53 971 (val W64 N) (val W64 D) (nuE N D))
def nuO (N D:List Int):Prop:=Cn N∧Cn D∧0 < val W64 D∧bl (val W64 N)<=1000000∧bl (val W64 D)<=1000000
section
variable (n:Bool) (N D:List Int) (r:Nat) (a b c:Bool)
theorem s2q:B7 k2m [] 200 139 [vlA n false N false D,iR 1] [xR r,fR a b c] [false,false] =some [n=false,nuI N D=false,d2y N D,N.length=N.length,D.length=D.length,nuO N D,zO4 .f64 (nuX N D)=zO4 .f64 r,zO9 (z0r 53 971 (val W64 N) (val W64 D) (nuE N D))=zO9 a,zO9 (nuI N D)=zO9 b,zO9 (q0c 53 (val W64 N) (val W64 D) (nuE N D))=zO9 c] :=by kernel_rfl
theorem t2e:B7 k2m [] 200 139 [vlA n false N false D,iR 1] [xR r,fR a b c] [false,true] =some [n=true,nuI N D=false,d2y N D,N.length=N.length,D.length=D.length,nuO N D,zO4 .f64 (nuX N D^^^2 ^(FloatKind.f64.format.exponentBits+FloatKind.f64.format.fractionBits))=zO4 .f64 r,zO9 (z0r 53 971 (val W64 N) (val W64 D) (nuE N D))=zO9 a,zO9 (nuI N D)=zO9 b,zO9 (q0c 53 (val W64 N) (val W64 D) (nuE N D))=zO9 c] :=by kernel_rfl
theorem n2s:B7 k2m [] 200 139 [vlA n false N false D,iR 1] [xR r,fR a b c] [true,false] =some [n=false,nuI N D=true,d2y N D,N.length=N.length,D.length=D.length,nuO N D,zO4 .f64 (9218868437227405312)=zO4 .f64 r,zO9 (z0r 53 971 (val W64 N) (val W64 D) (nuE N D))=zO9 a,zO9 (nuI N D)=zO9 b,zO9 (q0c 53 (val W64 N) (val W64 D) (nuE N D))=zO9 c] :=by kernel_rfl
theorem m2m:B7 k2m [] 200 139 [vlA n false N false D,iR 1] [xR r,fR a b c] [true,true] =some [n=true,nuI N D=true,d2y N D,N.length=N.length,D.length=D.length,nuO N D,zO4 .f64 (18442240474082181120)=zO4 .f64 r,zO9 (z0r 53 971 (val W64 N) (val W64 D) (nuE N D))=zO9 a,zO9 (nuI N D)=zO9 b,zO9 (q0c 53 (val W64 N) (val W64 D) (nuE N D))=zO9 c] :=by kernel_rfl
end
theorem r1u {x:Nat} (h:x<=9218868437227405312):x^^^2 ^(FloatKind.f64.format.exponentBits+FloatKind.f64.format.fractionBits)=x+9223372036854775808:=by
 have e:FloatKind.f64.format.exponentBits+FloatKind.f64.format.fractionBits=63:=rfl
 rw [e]
 have hx:x < 2 ^63:=by show x < 9223372036854775808; omega
 have h1:=Nat.two_pow_add_eq_or_of_lt hx 1
 have h2:x^^^2 ^63=2 ^63||| x:=by
  refine Nat.eq_of_testBit_eq fun i=> ?_
  rw [Nat.testBit_xor,Nat.testBit_or,Nat.testBit_two_pow]
  by_cases hi:63=i
  ·subst hi
   rw [Nat.testBit_lt_two_pow hx]
   rfl
  ·rw [d4 hi]
   simp
 rw [h2]
 rw [y8] at h1
 rw [<- h1,l1n]
theorem w0m (n:Bool) {N D:Nat} (hD:0 < D) (h1:bl N<=1000000) (h2:bl D<=1000000):
  Ev.Sem zO8 J0 139 [vlA n false (ws W64 N) false (ws W64 D),iR 1] [xR (nuW n N D),fR (z0r 53 971 N D (B2 53 (-1074) N D)) (G8 53 971 N D (B2 53 (-1074) N D)) (q0c 53 N D (B2 53 (-1074) N D))] :=by
 have v1:val W64 (ws W64 N)=N:=r9 N
 have v2:val W64 (ws W64 D)=D:=r9 D
 have hE:nuE (ws W64 N) (ws W64 D)=B2 53 (-1074) N D:=by unfold nuE; rw [v1,v2]
 have hI:nuI (ws W64 N) (ws W64 D)=G8 53 971 N D (B2 53 (-1074) N D):=by unfold nuI; rw [v1,v2,hE]
 have hO:nuO (ws W64 N) (ws W64 D):=by
  unfold nuO
  rw [v1,v2]
  exact⟨Cn.ws _,Cn.ws _,hD,h1,h2⟩
 have hK:d2y (ws W64 N) (ws W64 D):=by
  unfold d2y
  rw [v1,v2,hE]
  exact n2a hD
 cases hi:G8 53 971 N D (B2 53 (-1074) N D) with
 | false=>
  have hX:nuX (ws W64 N) (ws W64 D)=kH N D:=by
   unfold nuX
   rw [v1,v2,hE]
   exact p2c hD hi
  cases n with
  | false=>
   refine l6 e0n 10 _ _ (s2q false (ws W64 N) (ws W64 D) (nuW false N D) _ _ _) ?_
   rw [v1,v2,hE,hI,hX,hi]
   exact⟨rfl,rfl,hK,rfl,rfl,hO,rfl,rfl,rfl,rfl,a7⟩
  | true=>
   refine l6 e0n 10 _ _ (t2e true (ws W64 N) (ws W64 D) (nuW true N D) _ _ _) ?_
   rw [v1,v2,hE,hI,hX,hi,r1u (n1m N D hD)]
   exact⟨rfl,rfl,hK,rfl,rfl,hO,rfl,rfl,rfl,rfl,a7⟩
 | true=>
  have hM:kH N D=9218868437227405312:=by
   unfold kH
   rw [hi]
   exact i6 rfl
  cases n with
  | false=>
   have hW:nuW false N D=9218868437227405312:=hM
   refine l6 e0n 10 _ _ (n2s false (ws W64 N) (ws W64 D) (nuW false N D) _ _ _) ?_
   rw [v1,v2,hE,hI,hi,hW]
   exact⟨rfl,rfl,hK,rfl,rfl,hO,rfl,rfl,rfl,rfl,a7⟩
  | true=>
   have hW:nuW true N D=18442240474082181120:=by
    show kH N D+9223372036854775808=_
    rw [hM]
   refine l6 e0n 10 _ _ (m2m true (ws W64 N) (ws W64 D) (nuW true N D) _ _ _) ?_
   rw [v1,v2,hE,hI,hi,hW]
   exact⟨rfl,rfl,hK,rfl,rfl,hO,rfl,rfl,rfl,rfl,a7⟩
end Go.Proofs.YtbdaebagmmmijaaGreatDoor
namespace Go.Proofs
def gY:Go.Shelf.Ren:=⟨fun | 143=>220 | 219=>235 | 217=>244 | 225=>234 | 224=>233 | 267=>245 | 266=>247 | 314=>248 | n=>n,fun | 9=>9 | 3=>3 | 4=>4 | 5=>5 | 46=>90 | 146=>201 | 51=>94 | n=>n,fun | 1=>4 | n=>n⟩
theorem xP:Go.Proofs.Lays.n143 zO8 gY where
 mixed:=by kernel_rfl
 f143:=Tryz.func220.trans (G7 some (by kernel_rfl))
 f217:=Tryz.func244.trans (G7 some (by kernel_rfl))
 f219:=Tryz.func235.trans (G7 some (by kernel_rfl))
 f224:=Tryz.func233.trans (G7 some (by kernel_rfl))
 f225:=Tryz.func234.trans (G7 some (by kernel_rfl))
 f266:=Tryz.func247.trans (G7 some (by kernel_rfl))
 f267:=Tryz.func245.trans (G7 some (by kernel_rfl))
 f314:=Tryz.func248.trans (G7 some (by kernel_rfl))
 t3:=Tryz.underlying3
 a3:=Tryz.isAgg3
 z3:=Tryz.sizeOf3
 v3:=Tryz.zeroValue3
 t4:=Tryz.underlying4
 a4:=Tryz.isAgg4
 z4:=Tryz.sizeOf4
 v4:=Tryz.zeroValue4
 t5:=Tryz.underlying5
 a5:=Tryz.isAgg5
 z5:=Tryz.sizeOf5
 v5:=Tryz.zeroValue5
 t9:=Tryz.underlying9
 a9:=Tryz.isAgg9
 z9:=Tryz.sizeOf9
 v9:=Tryz.zeroValue9
 t46:=Tryz.underlying90
 a46:=Tryz.isAgg90
 z46:=Tryz.sizeOf90
 v46:=Tryz.zeroValue90
 t51:=Tryz.underlying94
 a51:=Tryz.isAgg94
 z51:=Tryz.sizeOf94
 v51:=Tryz.zeroValue94
 t146:=Tryz.underlying201
 a146:=Tryz.isAgg201
 z146:=Tryz.sizeOf201
 v146:=Tryz.zeroValue201
 g1:=by kernel_rfl
namespace YtbdaebagmmmijaaGreatDoor
open Go Go.RowKit Ev
theorem zW (s t:List UInt8) (hs:s.length < 4294967281):Pure zO8 J0 220 [.string ⟨⟨s⟩⟩, .string ⟨⟨t⟩⟩] (.int .i64 (Lib.index s t)):=by
 refine⟨rfl,rfl, .inl ⟨enters_of Tryz.func220 (by kernel_rfl) (c:=_) rfl,fun w hI=> ?_⟩⟩
 obtain⟨m,hm⟩:=hI.2.2.2.2.2.1
 exact (Any.strings_Index xP ⟨⟨s⟩⟩ ⟨⟨t⟩⟩ m w hs hm).mono fun e w' ⟨h1,h2⟩=>⟨h1,h2 ▸ O9 _ _⟩
def rT:List Value->Option (Value×List Prop)
 | [.string ⟨⟨s⟩⟩, .string ⟨⟨t⟩⟩] =>match zO1 s.length 4294967281 with
  | true=>some (.int .i64 (Lib.index s t),[])
  | false=>none
 | _=>none
theorem l0v (args:List Value) (v:Value) (l:List Prop) (h:rT args=some (v,l)) (_:d9 l):Pure zO8 J0 220 args v:=by
 unfold rT at h
 split at h
 case h_2=>cases h
 split at h
 case h_2=>cases h
 rename_i hl
 cases h
 exact zW _ _ (by simpa [Nat.blt_eq] using hl)
def i2d:Tab:=l7 220 rT tL
theorem n1x:R8 zO8 J0 i2d:=b8 l0v M3
def atS:List (List Value×Value)->List Value->Option (Value×List Prop)
 | [],_=>none
 | (a,v) ::r,args=>match eqL args a with
  | true=>some (v,[])
  | false=>atS r args
theorem M5 {f:FuncId} :∀ {l:List (List Value×Value)},(∀ p∈l,Pure zO8 J0 f p.1 p.2)->∀ (args:List Value) (v:Value) (o:List Prop),atS l args=some (v,o)->d9 o->Pure zO8 J0 f args v
 | [],_,args,v,o,h,_=>by cases h
 | (a,x) ::r,hl,args,v,o,h,ho=>by
  unfold atS at h
  split at h
  ·rename_i he
   cases h
   rw [eqL_spec _ _ he]
   exact hl _ kG
  ·exact M5 (fun p hp=>hl p (W2 _ hp)) args v o h ho
end YtbdaebagmmmijaaGreatDoor
end Go.Proofs
namespace Go.Proofs.YtbdaebagmmmijaaGreatDoor
open Go Go.RowKit Ev
def bKn:Base:=⟨zO8,J0,false,tL,D1,2000,J2⟩
theorem t0j:BaseOk bKn:=⟨progOk,M3,n8 _ _,m4⟩
def p8 (c:Int):Int:=if 48<=c∧c<=57 then c-48 else if 97<=c∧c<=102 then c-87 else if 65<=c∧c<=70 then c-55 else 16
def inC (a b c:Int):Bool:=match decide (a<=c) with | true=>decide (c<=b) | false=>false
theorem inB_iff {a b c:Int} :inC a b c=true↔a<=c∧c<=b:=by
 unfold inC
 by_cases h:a<=c <;> simp [h]
theorem inB_not {a b c:Int} :inC a b c=false↔¬(a<=c∧c<=b):=by
 rw [<- inB_iff]
 cases inC a b c <;> simp
section
variable (c:Int)
theorem s2r:b7 (bKn.cx 12) [] 200 136 [.int .u8 c] [true] =some (.int .i64 (iI.wrap (uB.wrap (c-zO2 48))),[inC 48 57 c=true]):=by kernel_rfl
theorem r2s:b7 (bKn.cx 12) [] 200 136 [.int .u8 c] [false,true] =some (.int .i64 (iI.wrap (iI.wrap (uB.wrap (c-zO2 97))+zO2 10)),[inC 97 102 c=true,inC 48 57 c=false]):=by kernel_rfl
theorem s2j:b7 (bKn.cx 12) [] 200 136 [.int .u8 c] [false,false,true] =some (.int .i64 (iI.wrap (iI.wrap (uB.wrap (c-zO2 65))+zO2 10)),[inC 65 70 c=true,inC 97 102 c=false,inC 48 57 c=false]):=by kernel_rfl
theorem r2j:b7 (bKn.cx 12) [] 200 136 [.int .u8 c] [false,false,false] =some (.int .i64 16,[inC 65 70 c=false,inC 97 102 c=false,inC 48 57 c=false]):=by kernel_rfl
end
theorem y0x {n:Int} (h0:0<=n) (h1:n < 256):uB.wrap n=n:=by
 simp [IntKind.wrap,IntKind.bits,IntKind.signed]
 omega
theorem bG {n:Int} (h0: -9223372036854775808<=n) (h1:n<=9223372036854775807):iI.wrap n=n:=by
 simp [IntKind.wrap,IntKind.bits,IntKind.signed]
 omega
theorem x8 {b:Base} (hb:BaseOk b) {k:Nat} {L:V0} {fuel:Nat} {ds:List Bool} {f:FuncId} {args:List Value} {v:Value} {l:List Prop} (h:b7 (b.cx k) L fuel f args ds=some (v,l)) (hl:d9 l):Ev.Pure b.P b.J f args v:=by
 obtain⟨h1,h2⟩:=a6 hb k
 have:=F7 h1 h2 h hl
 cases k with
 | zero=>exact this
 | succ k=>exact this
theorem dL {P:Program} {J:Ev.Inv P} {f:FuncId} {args:List Value} {x y:Int} (h:Ev.Pure P J f args (.int .i64 x)) (e:x=y):Ev.Pure P J f args (.int .i64 y):=e ▸ h
theorem y0j {c:Int} (h0:0<=c) (h1:c < 256):Ev.Pure zO8 J0 136 [.int .u8 c] (.int .i64 (p8 c)):=by
 unfold p8
 by_cases a:48<=c∧c<=57
 ·rw [i6 a]
  exact dL (x8 t0j (s2r c) ⟨inB_iff.2 a,a7⟩) (by rw [show zO2 48=48 from rfl,y0x (by omega) (by omega),bG (by omega) (by omega)])
 rw [a8 a]
 by_cases b:97<=c∧c<=102
 ·rw [i6 b]
  exact dL (x8 t0j (r2s c) ⟨inB_iff.2 b,inB_not.2 a,a7⟩) (by rw [show zO2 97=97 from rfl,show zO2 10=10 from rfl,y0x (by omega) (by omega),bG (n:=c-97) (by omega) (by omega),bG (by omega) (by omega)]; omega)
 rw [a8 b]
 by_cases d:65<=c∧c<=70
 ·rw [i6 d]
  exact dL (x8 t0j (s2j c) ⟨inB_iff.2 d,inB_not.2 b,inB_not.2 a,a7⟩) (by rw [show zO2 65=65 from rfl,show zO2 10=10 from rfl,y0x (by omega) (by omega),bG (n:=c-65) (by omega) (by omega),bG (by omega) (by omega)]; omega)
 rw [a8 d]
 exact x8 t0j (r2j c) ⟨inB_not.2 d,inB_not.2 b,inB_not.2 a,a7⟩
theorem worth_range {c:Int} :0<=p8 c∧p8 c<=16:=by
 unfold p8
 split
 ·omega
 split
 ·omega
 split <;> omega
def kM:List Value->Option (Value×List Prop)
 | [.int .u8 c] =>some (.int .i64 (p8 c),[0<=c∧c < 256])
 | _=>none
theorem nN (args:List Value) (v:Value) (l:List Prop) (h:kM args=some (v,l)) (hl:d9 l):Ev.Pure zO8 J0 136 args v:=by
 unfold kM at h
 split at h
 ·cases h; exact y0j hl.1.1 hl.1.2
 ·cases h
def i1n:Tab:=l7 136 kM tL
theorem g0w:R8 zO8 J0 i1n:=b8 nN M3
def bNb0:Base:=⟨zO8,J0,false,i1n,D1,2000,J2⟩
theorem lI:BaseOk bNb0:=⟨progOk,g0w,n8 _ _,m4⟩
abbrev m0e:=bNb0.cx 12
def cMa:Code:=A3 zO8 131 0
def tMt (t:List UInt8) (a b n p e i:Int):St:=⟨only 67 [(0, .string ⟨⟨t⟩⟩),(1, .int .i64 a),(2, .int .i64 b),(8, .int .i64 e),(9, .int .i64 p),(16, .int .i64 n),(17, .int .i64 i)],J0.tabs,11,[],[],0,none,[],11⟩
def tMe (t:List UInt8) (a b p e:Int):St:=⟨only 67 [(0, .string ⟨⟨t⟩⟩),(1, .int .i64 a),(2, .int .i64 b),(8, .int .i64 e),(9, .int .i64 p)],J0.tabs,11,[],[],0,none,[],11⟩
abbrev chI (t:List UInt8) (k:Int):Int:=zO2 (t.getD k.toNat 0).toNat
def n1u (t:List UInt8) (k p:Int):Bool:=match chI t k==46 with | true=>decide (p < 0) | false=>false
def chP (t:List UInt8) (k:Int):Prop:=zO2 0<=chI t k∧chI t k < zO2 256
def inP (t:List UInt8) (k:Int):Prop:=zO2 0<=k∧k.toNat < t.length
section
variable (t:List UInt8) (a b n p e i:Int)
theorem j2l (hl:d9 [decide (p8 (chI t (iI.wrap (a+i))) < b)=true,chP t (iI.wrap (a+i)),inP t (iI.wrap (a+i)),decide (i < n)=true]):
  r7 m0e cMa (tMt t a b n p e i) .normal (tMt t a b n p (iI.wrap (iI.wrap (a+i)+1)) (iI.wrap (i+1))):=
 d6 (a6 lI 12).1 progOk.mixed [] 200 [true,true] [] (by kernel_rfl) hl (by kernel_rfl) (by kernel_rfl)
theorem j2t (hl:d9 [n1u t (iI.wrap (a+i)) p=true,decide (p8 (chI t (iI.wrap (a+i))) < b)=false,chP t (iI.wrap (a+i)),inP t (iI.wrap (a+i)),decide (i < n)=true]):
  r7 m0e cMa (tMt t a b n p e i) .normal (tMt t a b n (iI.wrap (a+i)) (iI.wrap (iI.wrap (a+i)+1)) (iI.wrap (i+1))):=
 d6 (a6 lI 12).1 progOk.mixed [] 200 [true,false,true] [] (by kernel_rfl) hl (by kernel_rfl) (by kernel_rfl)
theorem j2y (hl:d9 [n1u t (iI.wrap (a+i)) p=false,decide (p8 (chI t (iI.wrap (a+i))) < b)=false,chP t (iI.wrap (a+i)),inP t (iI.wrap (a+i)),decide (i < n)=true]):
  r7 m0e cMa (tMt t a b n p e i) (.exit 0) (tMe t a b p e):=
 d6 (a6 lI 12).1 progOk.mixed [] 200 [true,false,false] [] (by kernel_rfl) hl (by kernel_rfl) (by kernel_rfl)
theorem f2a (hl:d9 [decide (i < n)=false]):r7 m0e cMa (tMt t a b n p e i) (.exit 0) (tMe t a b p e):=
 d6 (a6 lI 12).1 progOk.mixed [] 200 [false] [] (by kernel_rfl) hl (by kernel_rfl) (by kernel_rfl)
theorem m2q:b7 m0e [N5 (.exit 0) (fun _=>tMe t a b p e)] 200 131 [.string ⟨⟨t⟩⟩, .int .i64 a, .int .i64 b] [true] =some (.tuple ⟨[.string ⟨⟨List.drop a.toNat (zO10 e.toNat t)⟩⟩, .int .i64 0, .int .i64 e]⟩,
 [(zO2 0<=e∧e<=zO2 t.length)∧zO2 0<=a∧a<=e,decide (p < zO2 0)=true,b9 m0e cMa (t7 m0e 200 131 [.string ⟨⟨t⟩⟩, .int .i64 a, .int .i64 b] J0.tabs zO8.globals.size [true]) (.exit 0) (tMe t a b p e)]):=by kernel_rfl
theorem o2f:b7 m0e [N5 (.exit 0) (fun _=>tMe t a b p e)] 200 131 [.string ⟨⟨t⟩⟩, .int .i64 a, .int .i64 b] [false] =some (.tuple ⟨[.string ⟨⟨List.drop a.toNat (zO10 p.toNat t)++List.drop (iI.wrap (p+zO2 1)).toNat (zO10 e.toNat t)⟩⟩, .int .i64 (iI.wrap (iI.wrap (e-p)-zO2 1)), .int .i64 e]⟩,
 [(List.drop a.toNat (zO10 p.toNat t)).length+(List.drop (iI.wrap (p+zO2 1)).toNat (zO10 e.toNat t)).length<=9223372036854775807,(zO2 0<=e∧e<=zO2 t.length)∧zO2 0<=iI.wrap (p+zO2 1)∧iI.wrap (p+zO2 1)<=e,(zO2 0<=p∧p<=zO2 t.length)∧zO2 0<=a∧a<=p,decide (p < zO2 0)=false,
   b9 m0e cMa (t7 m0e 200 131 [.string ⟨⟨t⟩⟩, .int .i64 a, .int .i64 b] J0.tabs zO8.globals.size [false]) (.exit 0) (tMe t a b p e)]):=by kernel_rfl
theorem y1l (d:Bool) {x:AX} {s':St} (h:b9 m0e cMa (tMt t a b (iI.wrap (zO2 t.length-a)) (-1) a 0) x s'):b9 m0e cMa (t7 m0e 200 131 [.string ⟨⟨t⟩⟩, .int .i64 a, .int .i64 b] J0.tabs zO8.globals.size [d]) x s':=
 l9 h [] (by kernel_rfl) (by kernel_rfl) (by kernel_rfl)
end
def pY (t:List UInt8) (b:Int):Nat->Nat->Int->Int×Nat
 | 0,k,p=>(p,k)
 | f+1,k,p=>if p8 (chI t k) < b then pY t b f (k+1) p else if n1u t k p=true then pY t b f (k+1) k else (p,k)
theorem jV (t:List UInt8) (b:Int):∀ (f k:Nat) (p:Int),k+f=t.length->p < (k:Int)->k<=(pY t b f k p).2∧(pY t b f k p).2<=t.length∧((pY t b f k p).1=p∨(k:Int)<=(pY t b f k p).1)∧(pY t b f k p).1 < ((pY t b f k p).2:Int)
 | 0,k,p,h,hp=>⟨d5 _,by show k<=_; omega, .inl rfl,hp⟩
 | f+1,k,p,h,hp=>by
  unfold pY
  split
  ·obtain⟨h1,h2,h3,h4⟩:=jV t b f (k+1) p (by omega) (by omega)
   exact⟨by omega,h2,h3.imp id (fun h=>by omega),h4⟩
  ·split
   ·obtain⟨h1,h2,h3,h4⟩:=jV t b f (k+1) (k:Int) (by omega) (by omega)
    exact⟨by omega,h2, .inr (by rcases h3 with h3 | h3 <;> omega),h4⟩
   ·exact⟨d5 _,by show k<=_; omega, .inl rfl,hp⟩
theorem wr {n:Int} (h0: -9223372036854775808<=n) (h1:n<=9223372036854775807):iI.wrap n=n:=bG h0 h1
theorem w1g {t:List UInt8} {a:Nat} {b:Int} (hl:t.length < 9223372036854775807):∀ (f k:Nat) (p:Int),a<=k->k+f=t.length->
  b9 m0e cMa (tMt t a b ((t.length:Int)-a) p k ((k:Int)-a)) (.exit 0) (tMe t a b (pY t b f k p).1 ((pY t b f k p).2:Int)):=by
 intro f k p hak hkf
 obtain⟨r,hr⟩:∃ r,pY t b f k p=r:=⟨_,rfl⟩
 rw [hr]
 refine D2 (ι:=Nat×Int) (fun x=>tMt t a b ((t.length:Int)-a) x.2 x.1 ((x.1:Int)-a)) (fun x=>t.length-x.1) (fun x=>a<=x.1∧x.1<=t.length∧pY t b (t.length-x.1) x.1 x.2=r) (by intro e; cases e) (fun x hx=> ?_) (k,p) ⟨hak,by show k<=_; omega,by show pY t b (t.length-k) k p=r; rw [show t.length-k=f by omega]; exact hr⟩
 obtain⟨k',p'⟩:=x
 obtain⟨h1,h2,h3⟩:=hx
 simp only at h1 h2 h3 ⊢
 have ha:iI.wrap ((a:Int)+((k':Int)-a))=(k':Int):=by rw [wr (by omega) (by omega)]; omega
 by_cases hlt:k' < t.length
 ·have hc:chP t (k':Int):=⟨w8 _,zzA188.2 (UInt8.toNat_lt _)⟩
  have hi:inP t (k':Int):=⟨w8 _,by rw [l4]; exact hlt⟩
  have hd:decide (((k':Int)-a) < ((t.length:Int)-a))=true:=f9 (by omega)
  have e1:iI.wrap ((k':Int)+1)=((k'+1:Nat):Int):=by rw [wr (by omega) (by omega)]; omega
  have e2:iI.wrap ((k':Int)-a+1)=((k'+1:Nat):Int)-a:=by rw [wr (by omega) (by omega)]; omega
  obtain⟨g,hg⟩:∃ g,t.length-k'=g+1:=⟨t.length-k'-1,by omega⟩
  have hg':t.length- (k'+1)=g:=by omega
  rw [hg] at h3
  unfold pY at h3
  by_cases hw:p8 (chI t (k':Int)) < b
  ·rw [i6 hw] at h3
   refine .inl ⟨(k'+1,p'),⟨by omega,by omega,by rw [hg']; exact h3⟩,by show t.length- (k'+1) < t.length-k'; omega,?_⟩
   have:=j2l t a b ((t.length:Int)-a) p' k' ((k':Int)-a) (by rw [ha]; exact⟨f9 hw,hc,hi,hd,a7⟩)
   rw [ha,e1,e2] at this
   exact this
  ·rw [a8 hw] at h3
   by_cases hdot:n1u t (k':Int) p'=true
   ·rw [i6 hdot] at h3
    refine .inl ⟨(k'+1,(k':Int)),⟨by omega,by omega,by rw [hg']; exact h3⟩,by show t.length- (k'+1) < t.length-k'; omega,?_⟩
    have:=j2t t a b ((t.length:Int)-a) p' k' ((k':Int)-a) (by rw [ha]; exact⟨hdot,d4 hw,hc,hi,hd,a7⟩)
    rw [ha,e1,e2] at this
    exact this
   ·rw [a8 hdot] at h3
    refine .inr ?_
    rw [<- h3]
    exact j2y t a b ((t.length:Int)-a) p' k' ((k':Int)-a) (by rw [ha]; exact⟨by simpa using hdot,d4 hw,hc,hi,hd,a7⟩)
 ·obtain rfl:k'=t.length:=by omega
  rw [sW] at h3
  refine .inr ?_
  rw [<- h3]
  exact f2a t a b ((t.length:Int)-a) p' _ _ ⟨d4 (by omega),a7⟩
def maP (t:List UInt8) (a:Nat) (b:Int):Int:=(pY t b (t.length-a) a (-1)).1
def maE (t:List UInt8) (a:Nat) (b:Int):Nat:=(pY t b (t.length-a) a (-1)).2
def maS (t:List UInt8) (a:Nat) (b:Int):List UInt8:=if maP t a b < 0 then (t.take (maE t a b)).drop a else (t.take (maP t a b).toNat).drop a++(t.take (maE t a b)).drop ((maP t a b).toNat+1)
def maB (t:List UInt8) (a:Nat) (b:Int):Int:=if maP t a b < 0 then 0 else (maE t a b:Int)-maP t a b-1
theorem d0m {t:List UInt8} {a:Nat} {b:Int} (ha:a<=t.length):a<=maE t a b∧maE t a b<=t.length∧(maP t a b= -1∨(a:Int)<=maP t a b)∧maP t a b < (maE t a b:Int):=by
 unfold maE maP
 exact jV t b (t.length-a) a (-1) (by omega) (by omega)
theorem d0n {t:List UInt8} {a:Nat} {b:Int} (hl:t.length < 9223372036854775807) (ha:a<=t.length):
  Ev.Pure zO8 J0 131 [.string ⟨⟨t⟩⟩, .int .i64 a, .int .i64 b] (.tuple ⟨[.string ⟨⟨maS t a b⟩⟩, .int .i64 (maB t a b), .int .i64 (maE t a b)]⟩):=by
 obtain⟨r1,r2,r3,r4⟩:=d0m (b:=b) ha
 have hloop:=w1g (a:=a) (b:=b) hl (t.length-a) a (-1) (d5 _) (by omega)
 rw [Int.sub_self] at hloop
 have hn:iI.wrap (zO2 t.length- (a:Int))=(t.length:Int)-a:=by
  show iI.wrap ((t.length:Int)-a)=_
  rw [wr (by omega) (by omega)]
 have hin:∀ d,b9 m0e cMa (t7 m0e 200 131 [.string ⟨⟨t⟩⟩, .int .i64 a, .int .i64 b] J0.tabs zO8.globals.size [d]) (.exit 0) (tMe t a b (maP t a b) (maE t a b:Int)):=fun d=>y1l t a b d (by rw [hn]; exact hloop)
 have hte:(zO2 0<=(maE t a b:Int)∧(maE t a b:Int)<=zO2 t.length):=⟨w8 _,zzA187.2 r2⟩
 unfold maS maB
 by_cases hp:maP t a b < 0
 ·rw [i6 hp,i6 hp]
  have:Ev.Pure zO8 J0 _ _ _:=x8 lI (m2q t a b (maP t a b) (maE t a b:Int)) ⟨⟨hte,w8 _,zzA187.2 r1⟩,f9 hp,hin true,a7⟩
  simpa using this
 ·rw [a8 hp,a8 hp]
  have hpa:(a:Int)<=maP t a b:=by rcases r3 with h | h <;> omega
  obtain⟨q,hq⟩:=jG (show 0<=maP t a b by omega)
  have e1:iI.wrap ((q:Int)+zO2 1)=((q+1:Nat):Int):=by
   show iI.wrap ((q:Int)+1)=_
   rw [wr (by omega) (by omega)]
   omega
  have e2:iI.wrap (iI.wrap ((maE t a b:Int)- (q:Int))-zO2 1)=(maE t a b:Int)-q-1:=by
   show iI.wrap (iI.wrap ((maE t a b:Int)- (q:Int))-1)=_
   rw [wr (n:=(maE t a b:Int)- (q:Int)) (by omega) (by omega),wr (by omega) (by omega)]
  have:Ev.Pure zO8 J0 _ _ _:=x8 lI (o2f t a b (maP t a b) (maE t a b:Int)) (by
   rw [hq,e1]
   refine⟨?_,⟨hte,w8 _,by omega⟩,⟨⟨w8 _,by show (q:Int)<=(t.length:Int); omega⟩,w8 _,by omega⟩,d4 (by show ¬((q:Int) < 0); omega),by rw [<- hq]; exact hin false,a7⟩
   simp only [K3,D5,l4]
   omega)
  rw [hq,e1,e2] at this
  rw [hq]
  simpa using this
def lF:List Value->Option (Value×List Prop)
 | [.string ⟨⟨s⟩⟩, .string ⟨⟨t⟩⟩] =>some (.int .i64 (Lib.index s t),[s.length < 4294967281])
 | _=>none
theorem d0f (args:List Value) (v:Value) (l:List Prop) (h:lF args=some (v,l)) (hl:d9 l):Ev.Pure zO8 J0 220 args v:=by
 unfold lF at h
 split at h
 ·cases h; exact zW _ _ hl.1
 ·cases h
def bIx:Base:=⟨zO8,J0,false,l7 220 lF tL,D1,2000,J2⟩
theorem g2h:BaseOk bIx:=⟨progOk,b8 d0f M3,n8 _ _,m4⟩
def q2k (L s:List UInt8):Bool:=decide (zO2 0<=Lib.index L s)
theorem w1w (L s:List UInt8):b7 (bIx.cx 12) [] 200 186 [.string ⟨⟨L⟩⟩, .string ⟨⟨s⟩⟩] [] =some (.bool (q2k L s),[L.length < 4294967281]):=by kernel_rfl
def p0n:List Value->Option (Value×List Prop)
 | [.string ⟨⟨L⟩⟩, .string ⟨⟨s⟩⟩] =>some (.bool (q2k L s),[L.length < 4294967281])
 | _=>none
theorem y0z (args:List Value) (v:Value) (l:List Prop) (h:p0n args=some (v,l)) (hl:d9 l):Ev.Pure zO8 J0 186 args v:=by
 unfold p0n at h
 split at h
 ·cases h; exact x8 g2h (w1w _ _) hl
 ·cases h
def d1r:Tab:=l7 186 p0n i1n
theorem i0b:R8 zO8 J0 d1r:=b8 y0z g0w
def bNb1:Base:=⟨zO8,J0,false,d1r,D1,2000,J2⟩
theorem cU:BaseOk bNb1:=⟨progOk,i0b,n8 _ _,m4⟩
abbrev mK:=bNb1.cx 12
def cEx:Code:=A3 zO8 132 0
def tEx (t:List UInt8) (a:Int) (g:Bool) (n f i:Int):St:=⟨only 82 [(0, .string ⟨⟨t⟩⟩),(1, .int .i64 a),(8, .int .i64 i),(9, .bool g),(10, .int .i64 n),(11, .int .i64 f)],J0.tabs,11,[],[],0,none,[],11⟩
def m2l (t:List UInt8) (a:Int):List UInt8:=List.drop a.toNat (zO10 (iI.wrap (a+1)).toNat t)
def geB (t:List UInt8) (a:Int):Bool:=decide (a>=(t.length:Int))
def ltE (t:List UInt8) (k:Int):Bool:=decide (k < (t.length:Int))
def hdB (t L:List UInt8) (a:Int):Bool:=match geB t a with | true=>true | false=> !q2k L (m2l t a)
def hdP (t:List UInt8) (a:Int):Prop:=B8 [(4,geB t a)] [(4,false)] ->(0<=iI.wrap (a+1)∧iI.wrap (a+1)<=(t.length:Int))∧0<=a∧a<=iI.wrap (a+1)
def hdL (t L:List UInt8) (a:Int):Prop:=B8 [(4,geB t a)] [(4,false)] ->L.length < 4294967281
def sgB (t:List UInt8) (k:Int):Bool:=match ltE t k with | true=>(match chI t k==43 with | true=>true | false=>chI t k==45) | false=>false
def n2c (t:List UInt8) (k:Int):Prop:=B8 [(9,chI t k==43),(4,ltE t k)] [(9,false),(4,true)] ->0<=k∧k.toNat < t.length
def i2w (t:List UInt8) (k:Int):Prop:=B8 [(4,ltE t k)] [(4,true)] ->0<=k∧k.toNat < t.length
def exB (t:List UInt8) (i:Int):Bool:=match ltE t i with | true=>decide (p8 (chI t i) < 10) | false=>false
def o2j (t:List UInt8) (i:Int):Prop:=B8 [(4,ltE t i)] [(4,true)] ->0<=chI t i∧chI t i < 256
def nxW (n w:Int):Int:=if iI.wrap (iI.wrap (n*zO2 10)+w) < zO2 1073741824 then iI.wrap (iI.wrap (n*zO2 10)+w) else zO2 1073741824
section
variable (t L:List UInt8) (a:Nat) (g:Bool) (n f i:Int)
theorem p2p (hl:d9 [chP t i,inP t i,exB t i=true,o2j t i,i2w t i]):r7 mK cEx (tEx t a g n f i) .normal (tEx t a g (nxW n (p8 (chI t i))) f (iI.wrap (i+1))):=
 d6 (a6 cU 12).1 progOk.mixed [] 200 [true] [] (by kernel_rfl) hl (by kernel_rfl) (by kernel_rfl)
theorem u1h (hl:d9 [exB t i=false,o2j t i,i2w t i]):r7 mK cEx (tEx t a g n f i) (.exit 0) (tEx t a g n f i):=
 d6 (a6 cU 12).1 progOk.mixed [] 200 [false] [] (by kernel_rfl) hl (by kernel_rfl) (by kernel_rfl)
theorem a2s:b7 mK [] 200 132 [.string ⟨⟨t⟩⟩, .int .i64 a, .string ⟨⟨L⟩⟩] [true] =some (.tuple ⟨[.int .i64 0, .int .i64 a]⟩,[hdB t L a=true,hdL t L a,hdP t a]):=by kernel_rfl
def eQ0 (t L:List UInt8) (a:Int):List Prop:=[sgB t (iI.wrap (a+1))=false,n2c t (iI.wrap (a+1)),i2w t (iI.wrap (a+1)),hdB t L a=false,hdL t L a,hdP t a]
def eQ1 (t L:List UInt8) (a:Int):List Prop:=[inP t (iI.wrap (a+1)),sgB t (iI.wrap (a+1))=true,n2c t (iI.wrap (a+1)),i2w t (iI.wrap (a+1)),hdB t L a=false,hdL t L a,hdP t a]
theorem m2n:b7 mK [N5 (.exit 0) (fun _=>tEx t a g n f i)] 200 132 [.string ⟨⟨t⟩⟩, .int .i64 a, .string ⟨⟨L⟩⟩] [false,false,true] =some (.tuple ⟨[.int .i64 0, .int .i64 a]⟩,((i==f)=true) ::b9 mK cEx (t7 mK 200 132 [.string ⟨⟨t⟩⟩, .int .i64 a, .string ⟨⟨L⟩⟩] J0.tabs zO8.globals.size [false,false,true]) (.exit 0) (tEx t a g n f i) ::eQ0 t L a):=by kernel_rfl
theorem l2x:b7 mK [N5 (.exit 0) (fun _=>tEx t a g n f i)] 200 132 [.string ⟨⟨t⟩⟩, .int .i64 a, .string ⟨⟨L⟩⟩] [false,false,false,false] =some (.tuple ⟨[.int .i64 n, .int .i64 i]⟩,(g=false) ::((i==f)=false) ::b9 mK cEx (t7 mK 200 132 [.string ⟨⟨t⟩⟩, .int .i64 a, .string ⟨⟨L⟩⟩] J0.tabs zO8.globals.size [false,false,false,false]) (.exit 0) (tEx t a g n f i) ::eQ0 t L a):=by kernel_rfl
theorem o2q:b7 mK [N5 (.exit 0) (fun _=>tEx t a g n f i)] 200 132 [.string ⟨⟨t⟩⟩, .int .i64 a, .string ⟨⟨L⟩⟩] [false,true,true] =some (.tuple ⟨[.int .i64 0, .int .i64 a]⟩,((i==f)=true) ::b9 mK cEx (t7 mK 200 132 [.string ⟨⟨t⟩⟩, .int .i64 a, .string ⟨⟨L⟩⟩] J0.tabs zO8.globals.size [false,true,true]) (.exit 0) (tEx t a g n f i) ::eQ1 t L a):=by kernel_rfl
theorem n2w:b7 mK [N5 (.exit 0) (fun _=>tEx t a g n f i)] 200 132 [.string ⟨⟨t⟩⟩, .int .i64 a, .string ⟨⟨L⟩⟩] [false,true,false,true] =some (.tuple ⟨[.int .i64 (iI.wrap (zO2 0-n)), .int .i64 i]⟩,(g=true) ::((i==f)=false) ::b9 mK cEx (t7 mK 200 132 [.string ⟨⟨t⟩⟩, .int .i64 a, .string ⟨⟨L⟩⟩] J0.tabs zO8.globals.size [false,true,false,true]) (.exit 0) (tEx t a g n f i) ::eQ1 t L a):=by kernel_rfl
theorem m2v:b7 mK [N5 (.exit 0) (fun _=>tEx t a g n f i)] 200 132 [.string ⟨⟨t⟩⟩, .int .i64 a, .string ⟨⟨L⟩⟩] [false,true,false,false] =some (.tuple ⟨[.int .i64 n, .int .i64 i]⟩,(g=false) ::((i==f)=false) ::b9 mK cEx (t7 mK 200 132 [.string ⟨⟨t⟩⟩, .int .i64 a, .string ⟨⟨L⟩⟩] J0.tabs zO8.globals.size [false,true,false,false]) (.exit 0) (tEx t a g n f i) ::eQ1 t L a):=by kernel_rfl
theorem n1z (ds:List Bool) {x:AX} {s':St} (h:b9 mK cEx (tEx t a false 0 (iI.wrap ((a:Int)+1)) (iI.wrap ((a:Int)+1))) x s'):b9 mK cEx (t7 mK 200 132 [.string ⟨⟨t⟩⟩, .int .i64 a, .string ⟨⟨L⟩⟩] J0.tabs zO8.globals.size (false ::false ::ds)) x s':=
 l9 h [] (by kernel_rfl) (by kernel_rfl) (by kernel_rfl)
theorem n1e (ds:List Bool) {x:AX} {s':St} (h:b9 mK cEx (tEx t a (chI t (iI.wrap ((a:Int)+1))==45) 0 (iI.wrap (iI.wrap ((a:Int)+1)+1)) (iI.wrap (iI.wrap ((a:Int)+1)+1))) x s'):b9 mK cEx (t7 mK 200 132 [.string ⟨⟨t⟩⟩, .int .i64 a, .string ⟨⟨L⟩⟩] J0.tabs zO8.globals.size (false ::true ::ds)) x s':=
 l9 h [] (by kernel_rfl) (by kernel_rfl) (by kernel_rfl)
end
def nxP (n w:Int):Int:=if n*10+w < 1073741824 then n*10+w else 1073741824
theorem p2m {n w:Int} (h0:0<=n) (h1:n<=1073741824) (w0:0<=w) (w1:w<=16):nxW n w=nxP n w:=by
 unfold nxW nxP
 rw [show (zO2 10:Int)=10 from rfl,show (zO2 1073741824:Int)=1073741824 from rfl,wr (n:=n*10) (by omega) (by omega),wr (by omega) (by omega)]
theorem u0i {n w:Int} (h0:0<=n) (w0:0<=w):0<=nxP n w∧nxP n w<=1073741824:=by
 unfold nxP
 split <;> omega
def m0a (t:List UInt8):Nat->Nat->Int->Int×Nat
 | 0,k,n=>(n,k)
 | f+1,k,n=>if p8 (chI t k) < 10 then m0a t f (k+1) (nxP n (p8 (chI t k))) else (n,k)
theorem kW (t:List UInt8):∀ (f k:Nat) (n:Int),k+f=t.length->0<=n->n<=1073741824->k<=(m0a t f k n).2∧(m0a t f k n).2<=t.length∧0<=(m0a t f k n).1∧(m0a t f k n).1<=1073741824
 | 0,k,n,h,h0,h1=>⟨d5 _,by show k<=_; omega,h0,h1⟩
 | f+1,k,n,h,h0,h1=>by
  unfold m0a
  split
  ·have hr:=u0i (w:=p8 (chI t k)) h0 worth_range.1
   obtain⟨a,b,c,d⟩:=kW t f (k+1) _ (by omega) hr.1 hr.2
   exact⟨by omega,b,c,d⟩
  ·exact⟨d5 _,by show k<=_; omega,h0,h1⟩
theorem n1r (t:List UInt8) (k:Int):chP t k:=⟨w8 _,zzA188.2 (UInt8.toNat_lt _)⟩
theorem q0x (t:List UInt8) (i:Int):o2j t i:=fun _=>⟨w8 _,zzA188.2 (UInt8.toNat_lt _)⟩
theorem sA (t:List UInt8) (i:Nat):i2w t (i:Int):=fun hc=>⟨w8 _,by
 have:(i:Int) < (t.length:Int):=by simpa [B8,kvP,ltE] using hc
 rw [l4]
 omega⟩
theorem i1m (t:List UInt8) (i:Nat):n2c t (i:Int):=fun hc=>⟨w8 _,by
 have:(i:Int) < (t.length:Int):=by
  have h:=hc.2
  simpa [B8,kvP,ltE] using h
 rw [l4]
 omega⟩
theorem k1b {t:List UInt8} {a:Nat} {g:Bool} {f0:Int} (hl:t.length < 9223372036854775807):∀ (f k:Nat) (n:Int),k+f=t.length->0<=n->n<=1073741824->
  b9 mK cEx (tEx t a g n f0 k) (.exit 0) (tEx t a g (m0a t f k n).1 f0 ((m0a t f k n).2:Int)):=by
 intro f k n hkf hn0 hn1
 obtain⟨r,hr⟩:∃ r,m0a t f k n=r:=⟨_,rfl⟩
 rw [hr]
 refine D2 (ι:=Nat×Int) (fun x=>tEx t a g x.2 f0 x.1) (fun x=>t.length-x.1) (fun x=>x.1<=t.length∧(0<=x.2∧x.2<=1073741824)∧m0a t (t.length-x.1) x.1 x.2=r) (by intro e; cases e) (fun x hx=> ?_) (k,n) ⟨by show k<=_; omega,⟨hn0,hn1⟩,by show m0a t (t.length-k) k n=r; rw [show t.length-k=f by omega]; exact hr⟩
 obtain⟨k',n'⟩:=x
 obtain⟨h1,h2,h3⟩:=hx
 simp only at h1 h2 h3 ⊢
 by_cases hlt:k' < t.length
 ·have hb:ltE t (k':Int)=true:=f9 (by omega)
  have hi:inP t (k':Int):=⟨w8 _,by rw [l4]; exact hlt⟩
  have e1:iI.wrap ((k':Int)+1)=((k'+1:Nat):Int):=by rw [wr (by omega) (by omega)]; omega
  obtain⟨q,hq⟩:∃ q,t.length-k'=q+1:=⟨t.length-k'-1,by omega⟩
  rw [hq] at h3
  unfold m0a at h3
  by_cases hw:p8 (chI t (k':Int)) < 10
  ·rw [i6 hw] at h3
   have hw0:=worth_range (c:=chI t (k':Int))
   have hnr:=u0i (w:=p8 (chI t (k':Int))) h2.1 hw0.1
   refine .inl ⟨(k'+1,nxP n' (p8 (chI t (k':Int)))),⟨by show k'+1<=_; omega,hnr,by show m0a t (t.length- (k'+1)) (k'+1) _=r; rw [show t.length- (k'+1)=q by omega]; exact h3⟩,by show t.length- (k'+1) < t.length-k'; omega,?_⟩
   have:=p2p t a g n' f0 (k':Int) ⟨n1r _ _,hi,by unfold exB; rw [hb]; exact f9 hw,q0x _ _,sA _ _,a7⟩
   rw [e1,p2m h2.1 h2.2 hw0.1 hw0.2] at this
   exact this
  ·rw [a8 hw] at h3
   refine .inr ?_
   rw [<- h3]
   exact u1h t a g n' f0 (k':Int) ⟨by unfold exB; rw [hb]; exact d4 hw,q0x _ _,sA _ _,a7⟩
 ·obtain rfl:k'=t.length:=by omega
  rw [sW] at h3
  refine .inr ?_
  rw [<- h3]
  exact u1h t a g n' f0 _ ⟨by unfold exB ltE; rw [d4 (iB _)],q0x _ _,sA _ _,a7⟩
def exK (t:List UInt8) (a:Nat):Nat:=if sgB t ((a+1:Nat):Int)=true then a+2 else a+1
def exR (t:List UInt8) (a:Nat):Int×Nat:=m0a t (t.length-exK t a) (exK t a) 0
def exN (t:List UInt8) (a:Nat):Bool:=sgB t ((a+1:Nat):Int) && (chI t ((a+1:Nat):Int)==45)
def exV (t L:List UInt8) (a:Nat):Int:=if hdB t L a=true then 0 else if (exR t a).2=exK t a then 0 else if exN t a=true then -(exR t a).1 else (exR t a).1
def exE (t L:List UInt8) (a:Nat):Nat:=if hdB t L a=true then a else if (exR t a).2=exK t a then a else (exR t a).2
theorem f2k {t:List UInt8} {a:Nat} (hl:t.length < 9223372036854775807):hdP t (a:Int):=fun hc=>by
 have:(a:Int) < (t.length:Int):=by simpa [B8,kvP,geB] using hc
 rw [wr (by omega) (by omega)]
 omega
theorem c0q {t L:List UInt8} {a:Nat} (hl:t.length < 9223372036854775807) (hL:L.length < 4294967281):
  Ev.Pure zO8 J0 132 [.string ⟨⟨t⟩⟩, .int .i64 a, .string ⟨⟨L⟩⟩] (.tuple ⟨[.int .i64 (exV t L a), .int .i64 (exE t L a)]⟩):=by
 have hq:hdL t L (a:Int):=fun _=>hL
 have hp:=f2k (a:=a) hl
 unfold exV exE
 cases hh:hdB t L a with
 | true=>
  simp only [C6]
  exact x8 cU (a2s t L a) ⟨hh,hq,hp,a7⟩
 | false=>
  simp only [M7,C5]
  have hlt:a < t.length:=by
   unfold hdB at hh
   cases hg:geB t (a:Int) with
   | true=>rw [hg] at hh; cases hh
   | false=>
    have:¬((a:Int)>=(t.length:Int)):=O2 hg
    omega
  have e1:iI.wrap ((a:Int)+1)=((a+1:Nat):Int):=by rw [wr (by omega) (by omega)]; omega
  cases hs:sgB t ((a+1:Nat):Int) with
  | false=>
   have hK:exK t a=a+1:=by unfold exK; rw [hs]; rfl
   have hN:exN t a=false:=by unfold exN; rw [hs]; rfl
   obtain⟨r1,r2,r3,r4⟩:=kW t (t.length-exK t a) (exK t a) 0 (by omega) (by decide) (by decide)
   have hloop:b9 mK cEx (tEx t a false 0 ((a+1:Nat):Int) ((a+1:Nat):Int)) (.exit 0) (tEx t a false (exR t a).1 ((a+1:Nat):Int) ((exR t a).2:Int)):=by
    have:=k1b (a:=a) (g:=false) (f0:=((a+1:Nat):Int)) hl (t.length-exK t a) (exK t a) 0 (by omega) (by decide) (by decide)
    rw [hK] at this
    unfold exR
    rw [hK]
    exact this
   have hi:=fun ds=>n1z t L a ds (by rw [e1]; exact hloop)
   have hq0:d9 (eQ0 t L a):=by
    unfold eQ0
    rw [e1]
    exact⟨hs,i1m _ _,sA _ _,hh,hq,hp,a7⟩
   rw [hN]
   simp only [M7,C5]
   by_cases he:(exR t a).2=exK t a
   ·rw [i6 he,i6 he]
    rw [hK] at he
    exact x8 cU (m2n t L a false (exR t a).1 ((a+1:Nat):Int) ((exR t a).2:Int)) ⟨by rw [he]; exact a0o _,hi [true],hq0⟩
   ·rw [a8 he,a8 he]
    rw [hK] at he
    exact x8 cU (l2x t L a false (exR t a).1 ((a+1:Nat):Int) ((exR t a).2:Int)) ⟨rfl,s6 (by omega),hi [false,false],hq0⟩
  | true=>
   have hk:a+1 < t.length:=by
    unfold sgB at hs
    cases hg:ltE t ((a+1:Nat):Int) with
    | false=>rw [hg] at hs; cases hs
    | true=>
     have:((a+1:Nat):Int) < (t.length:Int):=G1 hg
     omega
   have hK:exK t a=a+2:=by unfold exK; rw [hs]; rfl
   have hN:exN t a=(chI t ((a+1:Nat):Int)==45):=by unfold exN; rw [hs]; rfl
   have e2:iI.wrap (((a+1:Nat):Int)+1)=((a+2:Nat):Int):=by rw [wr (by omega) (by omega)]; omega
   obtain⟨r1,r2,r3,r4⟩:=kW t (t.length-exK t a) (exK t a) 0 (by omega) (by decide) (by decide)
   have hloop:b9 mK cEx (tEx t a (exN t a) 0 ((a+2:Nat):Int) ((a+2:Nat):Int)) (.exit 0) (tEx t a (exN t a) (exR t a).1 ((a+2:Nat):Int) ((exR t a).2:Int)):=by
    have:=k1b (a:=a) (g:=exN t a) (f0:=((a+2:Nat):Int)) hl (t.length-exK t a) (exK t a) 0 (by omega) (by decide) (by decide)
    rw [hK] at this
    unfold exR
    rw [hK]
    exact this
   have hi:=fun ds=>n1e t L a ds (by rw [e1,e2,<- hN]; exact hloop)
   have hq1:d9 (eQ1 t L a):=by
    unfold eQ1
    rw [e1]
    exact⟨⟨w8 _,by rw [l4]; exact hk⟩,hs,i1m _ _,sA _ _,hh,hq,hp,a7⟩
   by_cases he:(exR t a).2=exK t a
   ·rw [i6 he,i6 he]
    rw [hK] at he
    exact x8 cU (o2q t L a (exN t a) (exR t a).1 ((a+2:Nat):Int) ((exR t a).2:Int)) ⟨by rw [he]; exact a0o _,hi [true],hq1⟩
   ·rw [a8 he,a8 he]
    rw [hK] at he
    cases hn:exN t a with
    | true=>
     rw [hn] at hi
     have:Ev.Pure zO8 J0 _ _ _:=x8 cU (n2w t L a true (exR t a).1 ((a+2:Nat):Int) ((exR t a).2:Int)) ⟨rfl,s6 (by omega),hi [false,true],hq1⟩
     rw [show iI.wrap (zO2 0- (exR t a).1)= -(exR t a).1 by
      unfold exR
      rw [show (zO2 0:Int)=0 from rfl,wr (by omega) (by omega)]
      omega] at this
     simpa using this
    | false=>
     rw [hn] at hi
     have:Ev.Pure zO8 J0 _ _ _:=x8 cU (m2v t L a false (exR t a).1 ((a+2:Nat):Int) ((exR t a).2:Int)) ⟨rfl,s6 (by omega),hi [false,false],hq1⟩
     simpa using this
def b1h:List Value->Option (Value×List Prop)
 | [.string ⟨⟨t⟩⟩, .int .i64 a, .int .i64 b] =>some (.tuple ⟨[.string ⟨⟨maS t a.toNat b⟩⟩, .int .i64 (maB t a.toNat b), .int .i64 (maE t a.toNat b)]⟩,[t.length < 9223372036854775807∧0<=a∧a.toNat<=t.length])
 | _=>none
theorem b1g (args:List Value) (v:Value) (l:List Prop) (h:b1h args=some (v,l)) (hl:d9 l):Ev.Pure zO8 J0 131 args v:=by
 unfold b1h at h
 split at h
 ·rename_i t a b
  cases h
  obtain⟨h1,h2,h3⟩:=hl.1
  obtain⟨q,rfl⟩:=jG h2
  exact d0n h1 h3
 ·cases h
def j1i:List Value->Option (Value×List Prop)
 | [.string ⟨⟨t⟩⟩, .int .i64 a, .string ⟨⟨L⟩⟩] =>some (.tuple ⟨[.int .i64 (exV t L a.toNat), .int .i64 (exE t L a.toNat)]⟩,[t.length < 9223372036854775807∧L.length < 4294967281∧0<=a])
 | _=>none
theorem i1j (args:List Value) (v:Value) (l:List Prop) (h:j1i args=some (v,l)) (hl:d9 l):Ev.Pure zO8 J0 132 args v:=by
 unfold j1i at h
 split at h
 ·rename_i t a L
  cases h
  obtain⟨h1,h2,h3⟩:=hl.1
  obtain⟨q,rfl⟩:=jG h3
  exact c0q h1 h2
 ·cases h
def i1l:Tab:=l7 131 b1h (l7 132 j1i d1r)
theorem j0s:R8 zO8 J0 i1l:=b8 b1g (b8 i1j i0b)
def bNb2:Base:=⟨zO8,J0,false,i1l,D1,2000,J2⟩
theorem uF:BaseOk bNb2:=⟨progOk,j0s,n8 _ _,m4⟩
abbrev i2v:=bNb2.cx 12
abbrev pcV (h:Bool) (s:List UInt8) (e n:Int):Value:= .agg ⟨[.bool h, .string ⟨⟨s⟩⟩, .int .i64 e, .int .i64 n]⟩
def h0B (t:List UInt8):Bool:=match decide ((t.length:Int) > 1) with | true=>chI t 0==48 | false=>false
def hxB (t:List UInt8):Bool:=match h0B t with | true=>(match chI t 1==120 with | true=>true | false=>chI t 1==88) | false=>false
def hP1 (t:List UInt8):Prop:=B8 [(12,chI t 1==120),(8,h0B t),(3,decide ((t.length:Int) > 1))] [(12,false),(8,true)] ->(0:Int)<=1∧(1:Int).toNat < t.length
def hP2 (t:List UInt8):Prop:=B8 [(8,h0B t),(3,decide ((t.length:Int) > 1))] [(8,true)] ->(0:Int)<=1∧(1:Int).toNat < t.length
def hP3 (t:List UInt8):Prop:=B8 [(3,decide ((t.length:Int) > 1))] [(3,true)] ->(0:Int)<=0∧(0:Int).toNat < t.length
def maQ (t:List UInt8) (a:Nat):Prop:=t.length < 9223372036854775807∧zO2 0<=zO2 a∧a<=t.length
def exQ (t:List UInt8) (m:Nat):Prop:=t.length < 9223372036854775807∧2 < 4294967281∧zO2 0<=zO2 m
abbrev pP:List UInt8:=[112,80]
abbrev eE:List UInt8:=[101,69]
section
variable (t:List UInt8)
theorem f2x:b7 i2v [] 200 78 [.string ⟨⟨t⟩⟩] [true,true] =some (pcV true (maS t 2 16) (iI.wrap (exV t pP (maE t 2 16)-iI.wrap (zO2 4*maB t 2 16))) (exE t pP (maE t 2 16)),
 [exQ t (maE t 2 16),(!(maS t 2 16==([] :List UInt8)))=true,maQ t 2,hxB t=true,hP1 t,hP2 t,hP3 t]):=by kernel_rfl
theorem f2u:b7 i2v [] 200 78 [.string ⟨⟨t⟩⟩] [true,false,true] =some (pcV false [] 0 0,
 [(maS t 0 10==([] :List UInt8))=true,maQ t 0,(!(maS t 2 16==([] :List UInt8)))=false,maQ t 2,hxB t=true,hP1 t,hP2 t,hP3 t]):=by kernel_rfl
theorem e2v:b7 i2v [] 200 78 [.string ⟨⟨t⟩⟩] [true,false,false] =some (pcV false (maS t 0 10) (iI.wrap (exV t eE (maE t 0 10)-maB t 0 10)) (exE t eE (maE t 0 10)),
 [exQ t (maE t 0 10),(maS t 0 10==([] :List UInt8))=false,maQ t 0,(!(maS t 2 16==([] :List UInt8)))=false,maQ t 2,hxB t=true,hP1 t,hP2 t,hP3 t]):=by kernel_rfl
theorem m2b:b7 i2v [] 200 78 [.string ⟨⟨t⟩⟩] [false,true] =some (pcV false [] 0 0,
 [(maS t 0 10==([] :List UInt8))=true,maQ t 0,hxB t=false,hP1 t,hP2 t,hP3 t]):=by kernel_rfl
theorem o2g:b7 i2v [] 200 78 [.string ⟨⟨t⟩⟩] [false,false] =some (pcV false (maS t 0 10) (iI.wrap (exV t eE (maE t 0 10)-maB t 0 10)) (exE t eE (maE t 0 10)),
 [exQ t (maE t 0 10),(maS t 0 10==([] :List UInt8))=false,maQ t 0,hxB t=false,hP1 t,hP2 t,hP3 t]):=by kernel_rfl
end
def S4 (t:List UInt8):Bool:=hxB t && !(maS t 2 16==([] :List UInt8))
def eN (t:List UInt8):List UInt8:=if S4 t=true then maS t 2 16 else maS t 0 10
def lB (t:List UInt8):Int:=if S4 t=true then exV t pP (maE t 2 16)-4*maB t 2 16 else if maS t 0 10=[] then 0 else exV t eE (maE t 0 10)-maB t 0 10
def lV (t:List UInt8):Nat:=if S4 t=true then exE t pP (maE t 2 16) else if maS t 0 10=[] then 0 else exE t eE (maE t 0 10)
theorem jM (t L:List UInt8) (a:Nat): -1073741824<=exV t L a∧exV t L a<=1073741824:=by
 unfold exV
 split
 ·omega
 rename_i hh
 split
 ·omega
 have hlt:a < t.length:=by
  have hh:hdB t L a=false:=by simpa using hh
  unfold hdB at hh
  cases hg:geB t (a:Int) with
  | true=>rw [hg] at hh; cases hh
  | false=>
   have:¬((a:Int)>=(t.length:Int)):=O2 hg
   omega
 have hK:exK t a<=t.length:=by
  unfold exK
  split
  ·rename_i hs
   unfold sgB at hs
   cases hg:ltE t ((a+1:Nat):Int) with
   | false=>rw [hg] at hs; cases hs
   | true=>
    have:((a+1:Nat):Int) < (t.length:Int):=G1 hg
    omega
  ·omega
 obtain⟨_,_,r3,r4⟩:=kW t (t.length-exK t a) (exK t a) 0 (by omega) (by decide) (by decide)
 unfold exR
 split <;> omega
theorem uZ {t:List UInt8} {a:Nat} {b:Int} (ha:a<=t.length):0<=maB t a b∧maB t a b<=(t.length:Int):=by
 obtain⟨r1,r2,r3,r4⟩:=d0m (b:=b) ha
 unfold maB
 split
 ·omega
 ·rcases r3 with r3 | r3 <;> omega
theorem o2p (t:List UInt8):hP1 t∧hP2 t∧hP3 t:=by
 have h8:h0B t=true->1 < t.length:=fun h=>by
  unfold h0B at h
  split at h
  ·rename_i hd
   have:=G1 hd
   omega
  ·cases h
 refine⟨fun hc=>⟨by decide,?_⟩,fun hc=>⟨by decide,?_⟩,fun hc=>⟨by decide,?_⟩⟩
 ·exact h8 (by simpa [B8,kvP] using hc.2)
 ·exact h8 (by simpa [B8,kvP] using hc)
 ·have:(t.length:Int) > 1:=by simpa [B8,kvP] using hc
  show 0 < t.length
  omega
theorem p0b {P:Program} {J:Ev.Inv P} {f:FuncId} {args:List Value} {h:Bool} {s:List UInt8} {e e' n:Int} (hp:Ev.Pure P J f args (pcV h s e n)) (he:e=e'):Ev.Pure P J f args (pcV h s e' n):=he ▸ hp
theorem d1q {t:List UInt8} (hl:t.length<=140737488351232):Ev.Pure zO8 J0 78 [.string ⟨⟨t⟩⟩] (pcV (S4 t) (eN t) (lB t) (lV t)):=by
 obtain⟨p1,p2,p3⟩:=o2p t
 have hl':t.length < 9223372036854775807:=by omega
 have q0:maQ t 0:=⟨hl',uV _,o8 _⟩
 have hx:∀ m,exQ t m:=fun m=>⟨hl',by decide,w8 _⟩
 have dec:∀ (hm:¬maS t 0 10=[]),iI.wrap (exV t eE (maE t 0 10)-maB t 0 10)=exV t eE (maE t 0 10)-maB t 0 10:=fun _=>by
  have a1:=jM t eE (maE t 0 10)
  have a2:=uZ (t:=t) (b:=10) (o8 _)
  rw [wr (by omega) (by omega)]
 unfold eN lB lV
 cases hh:hxB t with
 | true=>
  have h2:2<=t.length:=by
   unfold hxB h0B at hh
   split at hh
   ·rename_i hd
    split at hd
    ·rename_i hd'
     have:=G1 hd'
     omega
    ·cases hd
   ·cases hh
  have q2:maQ t 2:=⟨hl',by decide,h2⟩
  cases hm:(maS t 2 16==([] :List UInt8)) with
  | false=>
   rw [show S4 t=true by unfold S4; rw [hh,hm]; rfl]
   simp only [C6]
   refine p0b (x8 uF (f2x t) ⟨hx _,by rw [hm]; rfl,q2,hh,p1,p2,p3,a7⟩) ?_
   have a1:=jM t pP (maE t 2 16)
   have a2:=uZ (t:=t) (b:=16) h2
   rw [show (zO2 4:Int)=4 from rfl,wr (n:=4*maB t 2 16) (by omega) (by omega),wr (by omega) (by omega)]
  | true=>
   rw [show S4 t=false by unfold S4; rw [hh,hm]; rfl]
   simp only [M7,C5]
   by_cases hs:maS t 0 10=[]
   ·rw [i6 hs,i6 hs,hs]
    exact x8 uF (f2u t) ⟨by rw [hs]; rfl,q0,by rw [hm]; rfl,q2,hh,p1,p2,p3,a7⟩
   ·rw [a8 hs,a8 hs]
    exact p0b (x8 uF (e2v t) ⟨hx _,s6 hs,q0,by rw [hm]; rfl,q2,hh,p1,p2,p3,a7⟩) (dec hs)
 | false=>
  rw [show S4 t=false by unfold S4; rw [hh]; rfl]
  simp only [M7,C5]
  by_cases hs:maS t 0 10=[]
  ·rw [i6 hs,i6 hs,hs]
   exact x8 uF (m2b t) ⟨by rw [hs]; rfl,q0,hh,p1,p2,p3,a7⟩
  ·rw [a8 hs,a8 hs]
   exact p0b (x8 uF (o2g t) ⟨hx _,s6 hs,q0,hh,p1,p2,p3,a7⟩) (dec hs)
def qP:List Value->Option (Value×List Prop)
 | [.string ⟨⟨t⟩⟩] =>some (pcV (S4 t) (eN t) (lB t) (lV t),[t.length<=140737488351232])
 | _=>none
theorem vK (args:List Value) (v:Value) (l:List Prop) (h:qP args=some (v,l)) (hl:d9 l):Ev.Pure zO8 J0 78 args v:=by
 unfold qP at h
 split at h
 ·cases h; exact d1q hl.1
 ·cases h
def s0p:Tab:=l7 78 qP i1l
theorem rP:R8 zO8 J0 s0p:=b8 vK j0s
def bNb3:Base:=⟨zO8,J0,false,s0p,D1,2000,J2⟩
theorem mR:BaseOk bNb3:=⟨progOk,rP,n8 _ _,m4⟩
abbrev e2a:=bNb3.cx 12
def neB (t:List UInt8):Bool:= !(t==([] :List UInt8))
def spB (t:List UInt8):Bool:=match neB t with | true=>(match chI t 0==45 with | true=>true | false=>chI t 0==43) | false=>false
def l2z (t:List UInt8):Prop:=B8 [(6,chI t 0==45),(2,neB t)] [(6,false),(2,true)] ->(0:Int)<=0∧(0:Int).toNat < t.length
def m2t (t:List UInt8):Prop:=B8 [(2,neB t)] [(2,true)] ->(0:Int)<=0∧(0:Int).toNat < t.length
theorem s2f (t:List UInt8):b7 e2a [] 200 79 [.string ⟨⟨t⟩⟩] [true] =some (.tuple ⟨[.bool (chI t 0==45), .string ⟨⟨t.drop 1⟩⟩]⟩,[zO2 0<=zO2 1∧zO2 1<=zO2 t.length,zO2 0<=zO2 0∧0 < t.length,spB t=true,l2z t,m2t t]):=by kernel_rfl
theorem r2z (t:List UInt8):b7 e2a [] 200 79 [.string ⟨⟨t⟩⟩] [false] =some (.tuple ⟨[.bool false, .string ⟨⟨t⟩⟩]⟩,[spB t=false,l2z t,m2t t]):=by kernel_rfl
def wA (t:List UInt8):Bool:=spB t && (chI t 0==45)
def x5 (t:List UInt8):List UInt8:=if spB t=true then t.drop 1 else t
theorem a0d {t:List UInt8} (h:neB t=true):0 < t.length:=by
 cases t with
 | nil=>cases h
 | cons c r=>simp
theorem x0i (t:List UInt8):Ev.Pure zO8 J0 79 [.string ⟨⟨t⟩⟩] (.tuple ⟨[.bool (wA t), .string ⟨⟨x5 t⟩⟩]⟩):=by
 have p1:l2z t:=fun hc=>⟨by decide,a0d (by simpa [B8,kvP] using hc.2)⟩
 have p2:m2t t:=fun hc=>⟨by decide,a0d (by simpa [B8,kvP] using hc)⟩
 unfold wA x5
 cases hs:spB t with
 | true=>
  have h0:0 < t.length:=by
   unfold spB at hs
   cases hn:neB t with
   | true=>exact a0d hn
   | false=>rw [hn] at hs; cases hs
  simp only [C6,c2i]
  exact x8 mR (s2f t) ⟨⟨by decide,zzA187.2 h0⟩,⟨uV _,h0⟩,hs,p1,p2,a7⟩
 | false=>
  simp only [M7,C5,Bool.false_and]
  exact x8 mR (r2z t) ⟨hs,p1,p2,a7⟩
def kQ:List Value->Option (Value×List Prop)
 | [.string ⟨⟨t⟩⟩] =>some (.tuple ⟨[.bool (wA t), .string ⟨⟨x5 t⟩⟩]⟩,[])
 | _=>none
theorem mU (args:List Value) (v:Value) (l:List Prop) (h:kQ args=some (v,l)) (_:d9 l):Ev.Pure zO8 J0 79 args v:=by
 unfold kQ at h
 split at h
 ·cases h; exact x0i _
 ·cases h
def e1x:Tab:=l7 79 kQ s0p
theorem l0k:R8 zO8 J0 e1x:=b8 mU rP
def bNb4:Base:=⟨zO8,J0,false,e1x,D1,2000,J2⟩
theorem Z2:BaseOk bNb4:=⟨progOk,l0k,n8 _ _,m4⟩
abbrev o0k:=bNb4.cx 12
abbrev v1g:List UInt8:=[78,97,78]
abbrev u1t:List UInt8:=[73,110,102]
def rdT (neg:Bool) (p:Value) (o:Nat) (i:Bool) (e:Int):Value:= .tuple ⟨[.bool neg,p, .float .f64 o, .bool i, .int .i64 e]⟩
abbrev pc0:Value:=pcV false [] 0 0
abbrev pcT (t:List UInt8):Value:=pcV (S4 t) (eN t) (lB t) (lV t)
def p1d (t:List UInt8):Bool:=match (lV t:Int)==0 with | true=>true | false=>(lV t:Int) !=(t.length:Int)
section
variable (t:List UInt8)
theorem b2s:b7 o0k [] 200 37 [.string ⟨⟨t⟩⟩] [true] =some (rdT false pc0 0 false 2,[decide (zO2 8192 < zO2 t.length)=true]):=by kernel_rfl
theorem h2k:b7 o0k [] 200 37 [.string ⟨⟨t⟩⟩] [false,true] =some (rdT false pc0 9221120237041090560 true 0,[(t==v1g)=true,decide (zO2 8192 < zO2 t.length)=false]):=by kernel_rfl
theorem b2k:b7 o0k [] 200 37 [.string ⟨⟨t⟩⟩] [false,false,true,true] =some (rdT (wA t) pc0 18442240474082181120 true 0,[wA t=true,(x5 t==u1t)=true,(t==v1g)=false,decide (zO2 8192 < zO2 t.length)=false]):=by kernel_rfl
theorem c2c:b7 o0k [] 200 37 [.string ⟨⟨t⟩⟩] [false,false,true,false] =some (rdT (wA t) pc0 9218868437227405312 true 0,[wA t=false,(x5 t==u1t)=true,(t==v1g)=false,decide (zO2 8192 < zO2 t.length)=false]):=by kernel_rfl
theorem w1m:b7 o0k [] 200 37 [.string ⟨⟨t⟩⟩] [false,false,false,true] =some (rdT false (pcT (x5 t)) 0 false 3,[p1d (x5 t)=true,(x5 t).length<=140737488351232,(x5 t==u1t)=false,(t==v1g)=false,decide (zO2 8192 < zO2 t.length)=false]):=by kernel_rfl
theorem p2k:b7 o0k [] 200 37 [.string ⟨⟨t⟩⟩] [false,false,false,false] =some (rdT (wA t) (pcT (x5 t)) 0 false 0,[p1d (x5 t)=false,(x5 t).length<=140737488351232,(x5 t==u1t)=false,(t==v1g)=false,decide (zO2 8192 < zO2 t.length)=false]):=by kernel_rfl
end
def rdV (t:List UInt8):Value:=
 if 8192 < t.length then rdT false pc0 0 false 2
 else if t=v1g then rdT false pc0 9221120237041090560 true 0
 else if x5 t=u1t then rdT (wA t) pc0 (if wA t=true then 18442240474082181120 else 9218868437227405312) true 0
 else if p1d (x5 t)=true then rdT false (pcT (x5 t)) 0 false 3
 else rdT (wA t) (pcT (x5 t)) 0 false 0
theorem qS (t:List UInt8):Ev.Pure zO8 J0 37 [.string ⟨⟨t⟩⟩] (rdV t):=by
 unfold rdV
 by_cases hl:8192 < t.length
 ·rw [i6 hl]
  exact x8 Z2 (b2s t) ⟨f9 (zzA188.2 hl),a7⟩
 rw [a8 hl]
 have hd:decide (zO2 8192 < zO2 t.length)=false:=d4 fun h=>hl (zzA188.1 h)
 by_cases hn:t=v1g
 ·rw [i6 hn]
  exact x8 Z2 (h2k t) ⟨by rw [hn]; exact a0o _,hd,a7⟩
 rw [a8 hn]
 have hn':(t==v1g)=false:=s6 hn
 have hr:(x5 t).length<=140737488351232:=by
  unfold x5
  split
  ·rw [K3]; omega
  ·omega
 by_cases hi:x5 t=u1t
 ·rw [i6 hi]
  have hi':(x5 t==u1t)=true:=by rw [hi]; exact a0o _
  cases hg:wA t with
  | true=>
   have:=x8 Z2 (b2k t) ⟨hg,hi',hn',hd,a7⟩
   rw [hg] at this
   exact this
  | false=>
   have:=x8 Z2 (c2c t) ⟨hg,hi',hn',hd,a7⟩
   rw [hg] at this
   exact this
 rw [a8 hi]
 have hi':(x5 t==u1t)=false:=s6 hi
 cases hf:p1d (x5 t) with
 | true=>
  simp only [C6]
  exact x8 Z2 (w1m t) ⟨hf,hr,hi',hn',hd,a7⟩
 | false=>
  simp only [M7,C5]
  exact x8 Z2 (p2k t) ⟨hf,hr,hi',hn',hd,a7⟩
def cTl:Code:=A3 zO8 133 0
def cTr:Code:=A3 zO8 120 0
def tTL (t:List UInt8):St:=⟨only 17 [(0, .string ⟨⟨t⟩⟩),(1, .int .u8 48)],J0.tabs,11,[],[],0,none,[],11⟩
def u1w (t:List UInt8):Bool:=decide ((t.length:Int) > 0)
def tlB (t:List UInt8):Bool:=match u1w t with | true=>chI t 0==48 | false=>false
def tlP (t:List UInt8):Prop:=B8 [(3,u1w t)] [(3,true)] ->(0:Int)<=0∧(0:Int).toNat < t.length
section
variable (t s:List UInt8)
theorem o2y (hl:d9 [zO2 0<=zO2 1∧zO2 1<=zO2 t.length,tlB t=true,tlP t]):r7 o0k cTl (tTL t) .normal (tTL (t.drop 1)):=
 d6 (a6 Z2 12).1 progOk.mixed [] 200 [true] [] (by kernel_rfl) hl (by kernel_rfl) (by kernel_rfl)
theorem u1s (hl:d9 [tlB t=false,tlP t]):r7 o0k cTl (tTL t) (.exit 0) (tTL t):=
 d6 (a6 Z2 12).1 progOk.mixed [] 200 [false] [] (by kernel_rfl) hl (by kernel_rfl) (by kernel_rfl)
theorem g2z:b7 o0k [N5 (.exit 0) (fun _=>tTL s)] 200 133 [.string ⟨⟨t⟩⟩, .int .u8 48] [] =some (.string ⟨⟨s⟩⟩,[b9 o0k cTl (t7 o0k 200 133 [.string ⟨⟨t⟩⟩, .int .u8 48] J0.tabs zO8.globals.size []) (.exit 0) (tTL s)]):=by kernel_rfl
theorem w1o {x:AX} {s':St} (h:b9 o0k cTl (tTL t) x s'):b9 o0k cTl (t7 o0k 200 133 [.string ⟨⟨t⟩⟩, .int .u8 48] J0.tabs zO8.globals.size []) x s':=
 l9 h [] (by kernel_rfl) (by kernel_rfl) (by kernel_rfl)
end
def d8:List UInt8->List UInt8
 | [] =>[]
 | c ::r=>if c=48 then d8 r else c ::r
theorem r0n (c:UInt8) (r:List UInt8):(chI (c ::r) 0==48)=decide (c=48):=by
 by_cases h:c=48
 ·subst h; rfl
 ·rw [d4 h]
  refine s6 fun e=>h ?_
  have e:(c.toNat:Int)=48:=e
  exact zzA135.1 (show c.toNat=48 by omega)
theorem g1m (t:List UInt8):tlP t:=fun hc=>⟨by decide,by
 have:(t.length:Int) > 0:=by simpa [B8,kvP,u1w] using hc
 show 0 < t.length
 omega⟩
theorem f0y (t:List UInt8):b9 o0k cTl (tTL t) (.exit 0) (tTL (d8 t)):=by
 obtain⟨r,hr⟩:∃ r,d8 t=r:=⟨_,rfl⟩
 rw [hr]
 refine D2 (ι:=List UInt8) tTL List.length (fun s=>d8 s=r) (by intro e; cases e) (fun s hs=> ?_) t hr
 cases s with
 | nil=>
  refine .inr ?_
  have:r=[] :=hs.symm
  rw [this]
  exact u1s [] ⟨rfl,g1m _,a7⟩
 | cons c q=>
  have hp:u1w (c ::q)=true:=f9 (by simp only [A9]; omega)
  have hb:tlB (c ::q)=decide (c=48):=by unfold tlB; rw [hp,r0n]
  unfold d8 at hs
  by_cases h:c=48
  ·rw [i6 h] at hs
   exact .inl ⟨q,hs,by simp,o2y (c ::q) ⟨⟨by decide,zzA187.2 (by simp)⟩,by rw [hb]; exact f9 h,g1m _,a7⟩⟩
  ·rw [a8 h] at hs
   refine .inr ?_
   rw [<- hs]
   exact u1s (c ::q) ⟨by rw [hb]; exact d4 h,g1m _,a7⟩
theorem b0q (t:List UInt8):Ev.Pure zO8 J0 133 [.string ⟨⟨t⟩⟩, .int .u8 48] (.string ⟨⟨d8 t⟩⟩):=
 x8 Z2 (g2z t (d8 t)) ⟨w1o t (f0y t),a7⟩
def f1y:List Value->Option (Value×List Prop)
 | [.string ⟨⟨t⟩⟩, .int .u8 n] =>some (.string ⟨⟨d8 t⟩⟩,[n=48])
 | _=>none
theorem j1c (args:List Value) (v:Value) (l:List Prop) (h:f1y args=some (v,l)) (hl:d9 l):Ev.Pure zO8 J0 133 args v:=by
 unfold f1y at h
 split at h
 ·cases h
  obtain⟨rfl,_⟩:=hl
  exact b0q _
 ·cases h
def c1t:Tab:=l7 133 f1y e1x
theorem g0u:R8 zO8 J0 c1t:=b8 j1c l0k
def bNb5:Base:=⟨zO8,J0,false,c1t,D1,2000,J2⟩
theorem vX:BaseOk bNb5:=⟨progOk,g0u,n8 _ _,m4⟩
abbrev z0g:=bNb5.cx 12
def tTR (t:List UInt8):St:=⟨only 23 [(0, .string ⟨⟨t⟩⟩),(1, .int .u8 48)],J0.tabs,11,[],[],0,none,[],11⟩
def cA (t:List UInt8):Int:=iI.wrap ((t.length:Int)-1)
def trB (t:List UInt8):Bool:=match u1w t with | true=>chI t (cA t)==48 | false=>false
def trP (t:List UInt8):Prop:=B8 [(3,u1w t)] [(3,true)] ->0<=cA t∧(cA t).toNat < t.length
def noB (t:List UInt8):Bool:=match t==([] :List UInt8) with | true=>true | false=>([48] :List UInt8)==[]
section
variable (t s:List UInt8)
theorem q2b (hl:d9 [zO2 0<=cA t∧cA t<=zO2 t.length,trB t=true,trP t]):r7 z0g cTr (tTR t) .normal (tTR (t.take (cA t).toNat)):=
 d6 (a6 vX 12).1 progOk.mixed [] 200 [true] [] (by kernel_rfl) hl (by kernel_rfl) (by kernel_rfl)
theorem u1k (hl:d9 [trB t=false,trP t]):r7 z0g cTr (tTR t) (.exit 0) (tTR t):=
 d6 (a6 vX 12).1 progOk.mixed [] 200 [false] [] (by kernel_rfl) hl (by kernel_rfl) (by kernel_rfl)
theorem j2j:b7 z0g [N5 (.exit 0) (fun _=>tTR s)] 200 120 [.string ⟨⟨t⟩⟩, .int .u8 48] [] =some (.string ⟨⟨s⟩⟩,[b9 z0g cTr (t7 z0g 200 120 [.string ⟨⟨t⟩⟩, .int .u8 48] J0.tabs zO8.globals.size []) (.exit 0) (tTR s)]):=by kernel_rfl
theorem c2g {x:AX} {s':St} (h:b9 z0g cTr (tTR t) x s'):b9 z0g cTr (t7 z0g 200 120 [.string ⟨⟨t⟩⟩, .int .u8 48] J0.tabs zO8.globals.size []) x s':=
 l9 h [] (by kernel_rfl) (by kernel_rfl) (by kernel_rfl)
theorem n2n:b7 z0g [] 200 81 [.string ⟨⟨t⟩⟩, .string ⟨⟨[48]⟩⟩] [true] =some (.string ⟨⟨t⟩⟩,[noB t=true]):=by kernel_rfl
theorem p2g:b7 z0g [] 200 81 [.string ⟨⟨t⟩⟩, .string ⟨⟨[48]⟩⟩] [false,true] =some (.string ⟨⟨d8 t⟩⟩,[(48:Int)=48,zO2 0<=zO2 0∧0 < 1,true=true,(B8 [(3,true)] [(3,true)] ->(0:Int)<=0∧(0:Int).toNat < 1),noB t=false]):=by kernel_rfl
end
theorem f1l {t:List UInt8} :noB t=decide (t=[]):=by cases t <;> rfl
theorem k1e (t:List UInt8):Ev.Pure zO8 J0 81 [.string ⟨⟨t⟩⟩, .string ⟨⟨[48]⟩⟩] (.string ⟨⟨d8 t⟩⟩):=by
 by_cases h:t=[]
 ·subst h
  exact x8 vX (n2n []) ⟨rfl,a7⟩
 ·exact x8 vX (p2g t) ⟨rfl,⟨by decide,by decide⟩,rfl,fun _=>⟨by decide,by decide⟩,by rw [f1l,d4 h],a7⟩
def O8 (t:List UInt8):List UInt8:=(d8 t.reverse).reverse
theorem A0:∀ t:List UInt8,(d8 t).length<=t.length
 | [] =>d5 _
 | c ::r=>by
  have:=A0 r
  unfold d8
  split <;> simp only [A9] <;> omega
theorem xH {t:List UInt8} (hl:t.length<=9223372036854775807):b9 z0g cTr (tTR t) (.exit 0) (tTR (O8 t)):=by
 obtain⟨r,hr⟩:∃ r,O8 t=r:=⟨_,rfl⟩
 rw [hr]
 have key:b9 z0g cTr (tTR t.reverse.reverse) (.exit 0) (tTR r):=by
  refine D2 (ι:=List UInt8) (fun s=>tTR s.reverse) List.length (fun s=>s.length<=9223372036854775807∧(d8 s).reverse=r) (by intro e; cases e) (fun s hs=> ?_) t.reverse ⟨by rw [aR]; exact hl,hr⟩
  obtain⟨h1,h2⟩:=hs
  cases s with
  | nil=>
   refine .inr ?_
   have:r=[] :=h2.symm
   rw [this]
   exact u1k [] ⟨rfl,fun hc=>by simp [B8,kvP,u1w] at hc,a7⟩
  | cons c q=>
   have hn:((c ::q).reverse).length=q.length+1:=by simp
   have hla:cA (c ::q).reverse=(q.length:Int):=by
    unfold cA
    rw [hn,wr (by omega) (by simp only [A9] at h1; omega)]
    omega
   have hp:u1w (c ::q).reverse=true:=f9 (by rw [hn]; omega)
   have hc:chI (c ::q).reverse (q.length:Int)=zO2 c.toNat:=by
    unfold chI
    rw [l4,yR,List.getD,x0b (by simp)]
    simp
   have hb:trB (c ::q).reverse=decide (c=48):=by
    unfold trB
    rw [hp,hla]
    simp only
    rw [hc]
    exact r0n c []
   have hP:trP (c ::q).reverse:=fun _=>by rw [hla,hn,l4]; omega
   unfold d8 at h2
   by_cases h:c=48
   ·rw [i6 h] at h2
    refine .inl ⟨q,⟨by simp only [A9] at h1; omega,h2⟩,by simp,?_⟩
    have:=q2b (c ::q).reverse ⟨by rw [hla,hn]; exact⟨w8 _,zzA187.2 (by omega)⟩,by rw [hb]; exact f9 h,hP,a7⟩
    rw [hla,l4,yR,show q.length=q.reverse.length by simp,pA] at this
    rw [yR]
    exact this
   ·rw [a8 h] at h2
    refine .inr ?_
    rw [<- h2]
    exact u1k (c ::q).reverse ⟨by rw [hb]; exact d4 h,hP,a7⟩
 rw [List.reverse_reverse] at key
 exact key
theorem xN {t:List UInt8} (hl:t.length<=9223372036854775807):Ev.Pure zO8 J0 120 [.string ⟨⟨t⟩⟩, .int .u8 48] (.string ⟨⟨O8 t⟩⟩):=
 x8 vX (j2j t (O8 t)) ⟨c2g t (xH hl),a7⟩
def k1s:List Value->Option (Value×List Prop)
 | [.string ⟨⟨t⟩⟩, .int .u8 n] =>some (.string ⟨⟨O8 t⟩⟩,[n=48∧t.length<=9223372036854775807])
 | _=>none
theorem d1e (args:List Value) (v:Value) (l:List Prop) (h:k1s args=some (v,l)) (hl:d9 l):Ev.Pure zO8 J0 120 args v:=by
 unfold k1s at h
 split at h
 ·cases h
  obtain⟨⟨rfl,h2⟩,_⟩:=hl
  exact xN h2
 ·cases h
def k1o:Tab:=l7 120 k1s c1t
theorem i0l:R8 zO8 J0 k1o:=b8 d1e g0u
def bNb6:Base:=⟨zO8,J0,false,k1o,D1,2000,J2⟩
theorem gI:BaseOk bNb6:=⟨progOk,i0l,n8 _ _,m4⟩
abbrev m0g:=bNb6.cx 12
theorem p2y (t:List UInt8):b7 m0g [] 200 69 [.string ⟨⟨t⟩⟩, .string ⟨⟨[48]⟩⟩] [true] =some (.string ⟨⟨t⟩⟩,[noB t=true]):=by kernel_rfl
theorem o2n (t:List UInt8):b7 m0g [] 200 69 [.string ⟨⟨t⟩⟩, .string ⟨⟨[48]⟩⟩] [false,true] =some (.string ⟨⟨O8 t⟩⟩,[(48:Int)=48∧t.length<=9223372036854775807,zO2 0<=zO2 0∧0 < 1,true=true,(B8 [(3,true)] [(3,true)] ->(0:Int)<=0∧(0:Int).toNat < 1),noB t=false]):=by kernel_rfl
theorem x0g {t:List UInt8} (hl:t.length<=9223372036854775807):Ev.Pure zO8 J0 69 [.string ⟨⟨t⟩⟩, .string ⟨⟨[48]⟩⟩] (.string ⟨⟨O8 t⟩⟩):=by
 by_cases h:t=[]
 ·subst h
  exact x8 gI (p2y []) ⟨rfl,a7⟩
 ·exact x8 gI (o2n t) ⟨⟨rfl,hl⟩,⟨by decide,by decide⟩,rfl,fun _=>⟨by decide,by decide⟩,by rw [f1l,d4 h],a7⟩
def cDn:Code:=A3 zO8 44 0
def tDn (t:List UInt8) (i:Int):St:=⟨only 20 [(0, .string ⟨⟨t⟩⟩),(5, .int .i64 t.length),(6, .int .i64 i)],J0.tabs,11,[],[],0,none,[],11⟩
def tDr:St:=⟨only 20 [(2, .bool false)],J0.tabs,11,[],[],0,none,[],11⟩
def ndB (t:List UInt8) (i:Nat):Bool:=match decide (chI t i < 48) with | true=>true | false=>decide (chI t i > 57)
def ndP (t:List UInt8) (i:Nat):Prop:=B8 [(4,decide (chI t i < 48))] [(4,false)] ->(0:Int)<=i∧(i:Int).toNat < t.length
section
variable (t:List UInt8) (i:Nat)
theorem o2e (hl:d9 [ndB t i=false,ndP t i,zO2 0<=zO2 i∧i < t.length,decide (zO2 i < zO2 t.length)=true]):r7 m0g cDn (tDn t (i:Int)) .normal (tDn t (iI.wrap ((i:Int)+1))):=
 d6 (a6 gI 12).1 progOk.mixed [] 200 [true,false] [] (by kernel_rfl) hl (by kernel_rfl) (by kernel_rfl)
theorem f2s (hl:d9 [ndB t i=true,ndP t i,zO2 0<=zO2 i∧i < t.length,decide (zO2 i < zO2 t.length)=true]):r7 m0g cDn (tDn t (i:Int)) .ret tDr:=
 d6 (a6 gI 12).1 progOk.mixed [] 200 [true,true] [] (by kernel_rfl) hl (by kernel_rfl) (by kernel_rfl)
theorem e2e (hl:d9 [decide (zO2 i < zO2 t.length)=false]):r7 m0g cDn (tDn t (i:Int)) (.exit 0) (tDn t (i:Int)):=
 d6 (a6 gI 12).1 progOk.mixed [] 200 [false] [] (by kernel_rfl) hl (by kernel_rfl) (by kernel_rfl)
theorem f2e:b7 m0g [N5 (.exit 0) (fun _=>tDn t (i:Int))] 200 44 [.string ⟨⟨t⟩⟩] [] =some (.bool true,[b9 m0g cDn (t7 m0g 200 44 [.string ⟨⟨t⟩⟩] J0.tabs zO8.globals.size []) (.exit 0) (tDn t (i:Int))]):=by kernel_rfl
theorem o2r:b7 m0g [N5 .ret (fun _=>tDr)] 200 44 [.string ⟨⟨t⟩⟩] [] =some (.bool false,[b9 m0g cDn (t7 m0g 200 44 [.string ⟨⟨t⟩⟩] J0.tabs zO8.globals.size []) .ret tDr]):=by kernel_rfl
theorem k1y {x:AX} {s':St} (h:b9 m0g cDn (tDn t ((0:Nat):Int)) x s'):b9 m0g cDn (t7 m0g 200 44 [.string ⟨⟨t⟩⟩] J0.tabs zO8.globals.size []) x s':=
 l9 h [] (by kernel_rfl) (by kernel_rfl) (by kernel_rfl)
end
theorem v0c (p:Nat->Bool):∀ n,(∀ i,i < n->p i=false)∨∃ k,k < n∧p k=true∧∀ i,i < k->p i=false
 | 0=> .inl fun i hi=>by omega
 | n+1=>by
  rcases v0c p n with h | ⟨k,h1,h2,h3⟩
  ·cases hb:p n with
   | true=>exact .inr ⟨n,by omega,hb,h⟩
   | false=>
    refine .inl fun i hi=> ?_
    rcases Nat.lt_succ_iff_lt_or_eq.1 hi with h' | rfl
    ·exact h i h'
    ·exact hb
  ·exact .inr ⟨k,by omega,h2,h3⟩
def s7 (t:List UInt8):Bool:=(List.range t.length).all fun i=> !ndB t i
theorem q0e {t:List UInt8} (ht:t.length<=9223372036854775807):Ev.Pure zO8 J0 44 [.string ⟨⟨t⟩⟩] (.bool (s7 t)):=by
 have hP:∀ i,i < t.length->ndP t i:=fun i hi _=>⟨w8 _,by rw [l4]; exact hi⟩
 have go:∀ k,k<=t.length->(∀ i,i < k->ndB t i=false)->∀ i,i < k->r7 m0g cDn (tDn t (i:Int)) .normal (tDn t ((i+1:Nat):Int)):=fun k hk h i hi=>by
  have:=o2e t i ⟨h i hi,hP i (by omega),⟨w8 _,by omega⟩,f9 (zzA188.2 (by omega)),a7⟩
  rw [show iI.wrap ((i:Int)+1)=((i+1:Nat):Int) by rw [wr (by omega) (by omega)]; omega] at this
  exact this
 rcases v0c (ndB t) t.length with h | ⟨k,h1,h2,h3⟩
 ·rw [show s7 t=true by
   unfold s7
   rw [zzA10]
   intro i hi
   rw [h i (zzA126.1 hi)]
   rfl]
  exact x8 gI (f2e t t.length) ⟨k1y t (v7 (fun i=>tDn t (i:Int)) t.length (by intro e; cases e) (go _ (d5 _) h) (e2e t _ ⟨d4 (iB _),a7⟩)),a7⟩
 ·rw [show s7 t=false by
   unfold s7
   rw [List.all_eq_false]
   exact⟨k,zzA126.2 h1,by rw [h2]; simp⟩]
  exact x8 gI (o2r t) ⟨k1y t (v7 (fun i=>tDn t (i:Int)) k (by intro e; cases e) (go _ (by omega) h3) (f2s t k ⟨h2,hP k h1,⟨w8 _,h1⟩,f9 (zzA188.2 h1),a7⟩)),a7⟩
end Go.Proofs.YtbdaebagmmmijaaGreatDoor
namespace Go.Proofs
def fT:Go.Shelf.Ren:=⟨fun | 25=>141 | n=>n,fun | 9=>9 | 3=>3 | 4=>4 | 37=>22 | 0=>0 | 47=>203 | 5=>5 | n=>n,fun | n=>n⟩
theorem rY:Go.Proofs.LaysPu.n25 zO8 fT where
 mixed:=by kernel_rfl
 f25:=Tryz.func141.trans (G7 some (by kernel_rfl))
 t0:=Tryz.underlying0
 a0:=Tryz.isAgg0
 z0:=Tryz.sizeOf0
 v0:=Tryz.zeroValue0
 i0:=by kernel_rfl
 t3:=Tryz.underlying3
 a3:=Tryz.isAgg3
 z3:=Tryz.sizeOf3
 v3:=Tryz.zeroValue3
 i3:=by kernel_rfl
 t4:=Tryz.underlying4
 a4:=Tryz.isAgg4
 z4:=Tryz.sizeOf4
 v4:=Tryz.zeroValue4
 i4:=by kernel_rfl
 t5:=Tryz.underlying5
 a5:=Tryz.isAgg5
 z5:=Tryz.sizeOf5
 v5:=Tryz.zeroValue5
 i5:=by kernel_rfl
 t9:=Tryz.underlying9
 a9:=Tryz.isAgg9
 z9:=Tryz.sizeOf9
 v9:=Tryz.zeroValue9
 i9:=by kernel_rfl
 t37:=Tryz.underlying22
 a37:=Tryz.isAgg22
 z37:=Tryz.sizeOf22
 v37:=Tryz.zeroValue22
 i37:=by kernel_rfl
 t47:=Tryz.underlying203
 a47:=Tryz.isAgg203
 z47:=Tryz.sizeOf203
 v47:=Tryz.zeroValue203
 i47:=by kernel_rfl
namespace YtbdaebagmmmijaaGreatDoor
open Go Go.RowKit Ev
def rX:List Value->Option (Value×List Prop)
 | [.string ⟨⟨t⟩⟩] =>some (.string ⟨⟨t⟩⟩,[t.length<=281474976710656])
 | _=>none
theorem g0f (args:List Value) (v:Value) (l:List Prop) (h:rX args=some (v,l)) (hl:d9 l):Ev.Pure zO8 J0 141 args v:=by
 unfold rX at h
 split at h
 ·rename_i t
  cases h
  refine⟨rfl,rfl, .inl ⟨enters_of Tryz.func141 (by kernel_rfl) (c:=_) rfl,fun w _=> ?_⟩⟩
  exact AnyPu.stringslite_Clone rY ⟨⟨t⟩⟩ w hl.1
 ·cases h
end YtbdaebagmmmijaaGreatDoor
end Go.Proofs
namespace Go.Proofs.YtbdaebagmmmijaaGreatDoor
open Go Go.RowKit Ev
def r0r:List Value->Option (Value×List Prop)
 | [.string ⟨⟨t⟩⟩, .string ⟨⟨[c]⟩⟩] =>some (.string ⟨⟨d8 t⟩⟩,[c=48])
 | _=>none
theorem k0t (args:List Value) (v:Value) (l:List Prop) (h:r0r args=some (v,l)) (hl:d9 l):Ev.Pure zO8 J0 81 args v:=by
 unfold r0r at h
 split at h
 ·cases h
  obtain⟨rfl,_⟩:=hl
  exact k1e _
 ·cases h
def b1j:List Value->Option (Value×List Prop)
 | [.string ⟨⟨t⟩⟩, .string ⟨⟨[c]⟩⟩] =>some (.string ⟨⟨O8 t⟩⟩,[c=48∧t.length<=9223372036854775807])
 | _=>none
theorem g1d (args:List Value) (v:Value) (l:List Prop) (h:b1j args=some (v,l)) (hl:d9 l):Ev.Pure zO8 J0 69 args v:=by
 unfold b1j at h
 split at h
 ·cases h
  obtain⟨⟨rfl,h2⟩,_⟩:=hl
  exact x0g h2
 ·cases h
def d1p:List Value->Option (Value×List Prop)
 | [.string ⟨⟨t⟩⟩] =>some (.bool (s7 t),[t.length<=9223372036854775807])
 | _=>none
theorem b1k (args:List Value) (v:Value) (l:List Prop) (h:d1p args=some (v,l)) (hl:d9 l):Ev.Pure zO8 J0 44 args v:=by
 unfold d1p at h
 split at h
 ·cases h; exact q0e hl.1
 ·cases h
def a1b:Tab:=l7 141 rX (l7 81 r0r (l7 69 b1j (l7 44 d1p k1o)))
theorem j0c:R8 zO8 J0 a1b:=b8 g0f (b8 k0t (b8 g1d (b8 b1k i0l)))
def bNb7:Base:=⟨zO8,J0,false,a1b,D1,2000,J2⟩
theorem f0h:BaseOk bNb7:=⟨progOk,j0c,n8 _ _,m4⟩
abbrev k2i:=bNb7.cx 12
def mdS (t:List UInt8):List UInt8:=O8 (d8 t)
def mdW (t:List UInt8):Int:=iI.wrap (((d8 t).length:Int)- ((mdS t).length:Int))
def mdR (t:List UInt8) (x:Int):Bool:=match decide (x > iI.wrap (20000-mdW t)) with | true=>true | false=>decide (x < iI.wrap (-20000-mdW t))
abbrev dcV (g:Bool) (s:List UInt8) (x:Int):Value:= .agg ⟨[.bool g, .string ⟨⟨s⟩⟩, .int .i64 x]⟩
section
variable (g:Bool) (t:List UInt8) (x:Int)
theorem l2v:b7 k2i [] 200 45 [.bool g, .string ⟨⟨t⟩⟩, .int .i64 x] [true] =some (.tuple ⟨[dcV false [] 0, .int .i64 0]⟩,[(d8 t==([] :List UInt8))=true,(48:UInt8)=48]):=by kernel_rfl
theorem x1a:b7 k2i [] 200 45 [.bool g, .string ⟨⟨t⟩⟩, .int .i64 x] [false,true] =some (.tuple ⟨[dcV false [] 0, .int .i64 12]⟩,[decide (zO2 8192 < zO2 (mdS t).length)=true,(48:UInt8)=48∧(d8 t).length<=9223372036854775807,(d8 t==([] :List UInt8))=false,(48:UInt8)=48]):=by kernel_rfl
theorem m1c:b7 k2i [] 200 45 [.bool g, .string ⟨⟨t⟩⟩, .int .i64 x] [false,false,true] =some (.tuple ⟨[dcV false [] 0, .int .i64 11]⟩,[mdR t x=true,decide (zO2 8192 < zO2 (mdS t).length)=false,(48:UInt8)=48∧(d8 t).length<=9223372036854775807,(d8 t==([] :List UInt8))=false,(48:UInt8)=48]):=by kernel_rfl
theorem n2f:b7 k2i [] 200 45 [.bool g, .string ⟨⟨t⟩⟩, .int .i64 x] [false,false,false] =some (.tuple ⟨[dcV g (mdS t) (iI.wrap (x+mdW t)), .int .i64 0]⟩,[(mdS t).length<=281474976710656,mdR t x=false,decide (zO2 8192 < zO2 (mdS t).length)=false,(48:UInt8)=48∧(d8 t).length<=9223372036854775807,(d8 t==([] :List UInt8))=false,(48:UInt8)=48]):=by kernel_rfl
end
def mdB (t:List UInt8):Int:=((d8 t).length:Int)- ((mdS t).length:Int)
def mdE (t:List UInt8) (x:Int):Int:=if d8 t=[] then 0 else if 8192 < (mdS t).length then 12 else if 20000-mdB t < x∨x < -20000-mdB t then 11 else 0
def mdI (t:List UInt8) (x:Int):Bool:=decide (d8 t≠[]) && decide (mdE t x=0)
def mdN (g:Bool) (t:List UInt8) (x:Int):Bool:=if mdI t x=true then g else false
def mdD (t:List UInt8) (x:Int):List UInt8:=if mdI t x=true then mdS t else []
def mdX (t:List UInt8) (x:Int):Int:=if mdI t x=true then x+mdB t else 0
abbrev mdV (g:Bool) (t:List UInt8) (x:Int):Value:= .tuple ⟨[dcV (mdN g t x) (mdD t x) (mdX t x), .int .i64 (mdE t x)]⟩
theorem l0q {t:List UInt8} :0<=mdB t∧mdB t<=(t.length:Int)∧(mdS t).length<=t.length:=by
 have h1:=A0 t
 have h2:=A0 (d8 t).reverse
 rw [aR] at h2
 have h3:(mdS t).length=(d8 (d8 t).reverse).length:=by unfold mdS O8; rw [aR]
 unfold mdB
 omega
theorem a1g {g:Bool} {t:List UInt8} {x:Int} (h:mdI t x=false) {e:Int} (he:mdE t x=e):mdV g t x= .tuple ⟨[dcV false [] 0, .int .i64 e]⟩:=by
 unfold mdV mdN mdD mdX
 rw [h,he]
 rfl
theorem e1k {g:Bool} {t:List UInt8} {x:Int} (hl:t.length<=140737488351232):Ev.Pure zO8 J0 45 [.bool g, .string ⟨⟨t⟩⟩, .int .i64 x] (mdV g t x):=by
 obtain⟨b0,b1,b2⟩:=l0q (t:=t)
 have h1:=A0 t
 by_cases hn:d8 t=[]
 ·have hE:mdE t x=0:=by unfold mdE; rw [i6 hn]
  rw [a1g (by unfold mdI; rw [d4 (by simpa using hn)]; rfl) hE]
  exact x8 f0h (l2v g t x) ⟨by rw [hn]; rfl,rfl,a7⟩
 have hn':(d8 t==([] :List UInt8))=false:=s6 hn
 have q:(48:UInt8)=48∧(d8 t).length<=9223372036854775807:=⟨rfl,by omega⟩
 by_cases hr:8192 < (mdS t).length
 ·have hE:mdE t x=12:=by unfold mdE; rw [a8 hn,i6 hr]
  rw [a1g (by unfold mdI; rw [hE]; simp) hE]
  exact x8 f0h (x1a g t x) ⟨f9 (zzA188.2 hr),q,hn',rfl,a7⟩
 have hr':decide (zO2 8192 < zO2 (mdS t).length)=false:=d4 fun h=>hr (zzA188.1 h)
 have hW:mdW t=mdB t:=by unfold mdW; exact wr (by unfold mdB at b0; omega) (by unfold mdB at b1; omega)
 have hR:mdR t x=decide (20000-mdB t < x∨x < -20000-mdB t):=by
  unfold mdR
  rw [hW,wr (by omega) (by omega),wr (by omega) (by omega)]
  by_cases ha:20000-mdB t < x
  ·rw [f9 (show x > 20000-mdB t from ha),show decide (20000-mdB t < x∨x < -20000-mdB t)=true from f9 (Or.inl ha)]
  ·rw [d4 (show ¬x > 20000-mdB t from ha)]
   by_cases hb:x < -20000-mdB t
   ·simp [hb]
   ·simp [ha,hb]
 by_cases hx:20000-mdB t < x∨x < -20000-mdB t
 ·have hE:mdE t x=11:=by unfold mdE; rw [a8 hn,a8 hr,i6 hx]
  rw [a1g (by unfold mdI; rw [hE]; simp) hE]
  exact x8 f0h (m1c g t x) ⟨by rw [hR]; exact f9 hx,hr',q,hn',rfl,a7⟩
 ·have hE:mdE t x=0:=by unfold mdE; rw [a8 hn,a8 hr,a8 hx]
  have hI:mdI t x=true:=by unfold mdI; rw [hE,f9 (by simpa using hn)]; rfl
  have:=x8 f0h (n2f g t x) ⟨by omega,by rw [hR]; exact d4 hx,hr',q,hn',rfl,a7⟩
  rw [hW,wr (by omega) (by omega)] at this
  unfold mdV mdN mdD mdX
  rw [hI,hE]
  exact this
def f0j:List Value->Option (Value×List Prop)
 | [.bool g, .string ⟨⟨t⟩⟩, .int .i64 x] =>some (mdV g t x,[t.length<=140737488351232])
 | _=>none
theorem yO (args:List Value) (v:Value) (l:List Prop) (h:f0j args=some (v,l)) (hl:d9 l):Ev.Pure zO8 J0 45 args v:=by
 unfold f0j at h
 split at h
 ·cases h; exact e1k hl.1
 ·cases h
def v1h:Tab:=l7 45 f0j a1b
theorem i1v:R8 zO8 J0 v1h:=b8 yO j0c
def bNb8:Base:=⟨zO8,J0,false,v1h,D1,2000,J2⟩
theorem e0h:BaseOk bNb8:=⟨progOk,i1v,n8 _ _,m4⟩
abbrev k2x:=bNb8.cx 12
theorem p2b (g:Bool) (t:List UInt8) (x:Int):b7 k2x [] 200 12 [.bool g, .string ⟨⟨t⟩⟩, .int .i64 x] [true] =some (.tuple ⟨[dcV false [] 0, .int .i64 3]⟩,[(!s7 t)=true,t.length<=9223372036854775807]):=by kernel_rfl
theorem m2p (g:Bool) (t:List UInt8) (x:Int):b7 k2x [] 200 12 [.bool g, .string ⟨⟨t⟩⟩, .int .i64 x] [false] =some (mdV g t x,[t.length<=140737488351232,(!s7 t)=false,t.length<=9223372036854775807]):=by kernel_rfl
theorem j1v {g:Bool} {t:List UInt8} {x:Int} (hl:t.length<=140737488351232):Ev.Pure zO8 J0 12 [.bool g, .string ⟨⟨t⟩⟩, .int .i64 x] (if s7 t=true then mdV g t x else .tuple ⟨[dcV false [] 0, .int .i64 3]⟩):=by
 cases h:s7 t with
 | true=>
  simp only [C6]
  exact x8 e0h (m2p g t x) ⟨hl,by rw [h]; rfl,by omega,a7⟩
 | false=>
  simp only [M7,C5]
  exact x8 e0h (p2b g t x) ⟨by rw [h]; rfl,by omega,a7⟩
def v1B (t:List UInt8):Bool:=decide ((t.length:Int)<=8192)
def v2B (t:List UInt8):Bool:=match v1B t with | true=>s7 t | false=>false
def v3B (t:List UInt8):Bool:=match v2B t with | true=>chI t 0 !=48 | false=>false
def vaB (t:List UInt8) (x:Int):Bool:=match match match v3B t with | true=>chI t (cA t) !=48 | false=>false with | true=>decide (x>=-20000) | false=>false with | true=>decide (x<=20000) | false=>false
def r2r (t:List UInt8):Prop:=B8 [(13,v3B t),(7,v2B t),(2,v1B t)] [(13,true)] ->0<=cA t∧(cA t).toNat < t.length
def t2n (t:List UInt8):Prop:=B8 [(7,v2B t),(2,v1B t)] [(7,true)] ->(0:Int)<=0∧(0:Int).toNat < t.length
def r2g (t:List UInt8):Prop:=B8 [(2,v1B t)] [(2,true)] ->t.length<=9223372036854775807
section
variable (g:Bool) (t:List UInt8) (x:Int)
theorem n2o:b7 k2x [] 200 94 [dcV g t x] [true] =some (.bool (g==false && (t==([] :List UInt8) && (x==zO2 0 && true))),[(t==([] :List UInt8))=true]):=by kernel_rfl
theorem o2k:b7 k2x [] 200 94 [dcV g t x] [false] =some (.bool (vaB t x),[r2r t,t2n t,r2g t,(t==([] :List UInt8))=false]):=by kernel_rfl
end
def K4 (g:Bool) (t:List UInt8) (x:Int):Bool:=if t=[] then g==false && x==0 else vaB t x
theorem e0r {g:Bool} {t:List UInt8} {x:Int} (hl:t.length<=9223372036854775807):Ev.Pure zO8 J0 94 [dcV g t x] (.bool (K4 g t x)):=by
 unfold K4
 by_cases h:t=[]
 ·rw [i6 h]
  subst h
  have:=x8 e0h (n2o g [] x) ⟨rfl,a7⟩
  rw [show (g==false && (([] :List UInt8)==[] && (x==zO2 0 && true)))=(g==false && x==0) by
   rw [show (([] :List UInt8)==[])=true from rfl,c2i,j0m]; rfl] at this
  exact this
 ·rw [a8 h]
  have hp:0 < t.length:=List.length_pos_iff.2 h
  have hla:cA t=((t.length-1:Nat):Int):=by unfold cA; rw [wr (by omega) (by omega)]; omega
  exact x8 e0h (o2k g t x) ⟨fun _=>by rw [hla,l4]; omega,fun _=>⟨by decide,hp⟩,fun _=>hl,s6 h,a7⟩
def dD:List Value->Option (Value×List Prop)
 | [.agg ⟨[.bool g, .string ⟨⟨t⟩⟩, .int .i64 x]⟩] =>some (.bool (K4 g t x),[t.length<=9223372036854775807])
 | _=>none
theorem iT (args:List Value) (v:Value) (l:List Prop) (h:dD args=some (v,l)) (hl:d9 l):Ev.Pure zO8 J0 94 args v:=by
 unfold dD at h
 split at h
 ·cases h; exact e0r hl.1
 ·cases h
open Go Go.RowKit Ev Wd VaS
def c1b:List Arg->Option (List Arg×List Prop)
 | [.c (.v (.agg ⟨[.bool n1, .string ⟨⟨d1⟩⟩, .int .i64 e1]⟩)), .c (.v (.agg ⟨[.bool n2, .string ⟨⟨d2⟩⟩, .int .i64 e2]⟩))] =>some ([vlA (n1 !=n2) false (ws W64 (qtN d1 (e1-e2))) false (ws W64 (qtD d2 (e1-e2)))],[R6 d1∧R6 d2∧d1.length<=100000∧d2.length<=100000∧(-1000000<=e1-e2∧e1-e2<=1000000)∧(-1000<=(d1.length:Int)-d2.length+(e1-e2)∧(d1.length:Int)-d2.length+(e1-e2)<=1000)])
 | _=>none
theorem k1v:∀ az rs l,c1b az=some (rs,l)->d9 l->Ev.Sem zO8 J0 125 az rs:=by
 intro az rs l h hl
 unfold c1b at h
 split at h
 ·cases h
  obtain⟨⟨h1,h2,h3,h4,h5,h6⟩,_⟩:=hl
  exact g0k _ _ h1 h2 h3 h4 h5 h6
 ·cases h
def e1l:List Arg->Option (List Arg×List Prop)
 | [.a [.v (.bool n), .v (.bool false), .v (.bool false), .s 39 .u64 N, .v (.bool false), .s 39 .u64 D], .c (.v (.int .i64 1))] =>
  some ([xR (nuW n (val W64 N) (val W64 D)),fR (z0r 53 971 (val W64 N) (val W64 D) (B2 53 (-1074) (val W64 N) (val W64 D))) (G8 53 971 (val W64 N) (val W64 D) (B2 53 (-1074) (val W64 N) (val W64 D))) (q0c 53 (val W64 N) (val W64 D) (B2 53 (-1074) (val W64 N) (val W64 D)))],[Cn N∧Cn D∧0 < val W64 D∧bl (val W64 N)<=1000000∧bl (val W64 D)<=1000000])
 | _=>none
theorem l1d:∀ az rs l,e1l az=some (rs,l)->d9 l->Ev.Sem zO8 J0 139 az rs:=by
 intro az rs l h hl
 unfold e1l at h
 split at h
 ·cases h
  rename_i n N D
  obtain⟨⟨c1,c2,hD,h1,h2⟩,_⟩:=hl
  unfold Cn at c1 c2
  have:=w0m n (N:=val W64 N) (D:=val W64 D) hD h1 h2
  rw [<- c1,<- c2] at this
  exact this
 ·cases h
theorem y1h:Ev.Pure zO8 J0 84 [.int .i64 1] (.agg ⟨[.bool false, .string ⟨⟨[49]⟩⟩, .int .i64 0]⟩):=
 g9 g1t 30 [] [] (l:=[]) (by kernel_rfl) trivial
def d1b:Tab:=l7 94 dD (l7 84 (atS [([.int .i64 1], .agg ⟨[.bool false, .string ⟨⟨[49]⟩⟩, .int .i64 0]⟩)]) a2d)
theorem k0q:R8 zO8 J0 d1b:=b8 iT (b8 (M5 (fun p hp=>by simp only [zzA83,S5,S0] at hp; subst hp; exact y1h)) t0b)
def n0q:qV:=m8 139 (z7 [shM,shV] e1l) (m8 125 (z7 [shV,shV] c1b) n0i)
theorem yW:qZ zO8 J0 n0q:=d7 (m5 _ l1d) (d7 (m5 _ k1v) a0n)
def bRo3:Base:=⟨zO8,J0,false,d1b,n0q,200,J2⟩
theorem i1c:BaseOk bRo3:=⟨progOk,k0q,yW,m4⟩
abbrev q2l:Cx:=bRo3.cx 10
def tkW (N:Nat):List Int:=zO10 (ws W64 N).length (ws W64 N)
def qv (N:Nat):Nat:=val W64 (tkW N)
theorem c1n (N:Nat):tkW N=ws W64 N:=y3
theorem e2n (N:Nat):qv N=N:=by unfold qv; rw [c1n]; exact r9 N
section
variable (n1 n2:Bool) (d1 d2:List UInt8) (e1 e2:Int) (r:Nat) (a b c:Bool)
theorem f1v:B7 q2l [] 200 83 [dA n1 d1 e1,dA n2 d2 e2,iR 1] [xR r,fR a b c,iR 0] [true,false,true,false,false,false,false,false] =some [(ws W64 (qtN d1 (e1-e2))).length<=(ws W64 (qtN d1 (e1-e2))).length,(ws W64 (qtD d2 (e1-e2))).length<=(ws W64 (qtD d2 (e1-e2))).length,
 Cn (tkW (qtN d1 (e1-e2)))∧Cn (tkW (qtD d2 (e1-e2)))∧0 < (qv (qtD d2 (e1-e2)))∧bl (qv (qtN d1 (e1-e2)))<=1000000∧bl (qv (qtD d2 (e1-e2)))<=1000000,
 R6 d1∧R6 d2∧d1.length<=100000∧d2.length<=100000∧(-1000000<=e1-e2∧e1-e2<=1000000)∧(-1000<=(d1.length:Int)-d2.length+(e1-e2)∧(d1.length:Int)-d2.length+(e1-e2)<=1000),
 (d1==[])=false,(d2==[])=false,false=false,false=false,(!K4 n2 d2 e2)=false,d2.length<=9223372036854775807,(0:Int)<=1∧(1:Int) < 2,true=true,(!K4 n1 d1 e1)=false,d1.length<=9223372036854775807,(0:Int)<=0∧(0:Int) < 2,true=true,
 zO4 .f64 (nuW (n1 !=n2) (qv (qtN d1 (e1-e2))) (qv (qtD d2 (e1-e2))))=zO4 .f64 r,zO9 (z0r 53 971 (qv (qtN d1 (e1-e2))) (qv (qtD d2 (e1-e2))) (B2 53 (-1074) (qv (qtN d1 (e1-e2))) (qv (qtD d2 (e1-e2)))))=zO9 a,zO9 (G8 53 971 (qv (qtN d1 (e1-e2))) (qv (qtD d2 (e1-e2))) (B2 53 (-1074) (qv (qtN d1 (e1-e2))) (qv (qtD d2 (e1-e2)))))=zO9 b,zO9 (q0c 53 (qv (qtN d1 (e1-e2))) (qv (qtD d2 (e1-e2))) (B2 53 (-1074) (qv (qtN d1 (e1-e2))) (qv (qtD d2 (e1-e2)))))=zO9 c,zO3 .i64 0=zO3 .i64 0] :=by kernel_rfl
end
theorem tF {b:UInt8} {r:List UInt8} (hb:48<=b.toNat∧b.toNat<=57) (hr:R6 r):R6 (b ::r)∧dgN (b ::r)=(b.toNat-48)*10 ^r.length+dgN r:=by
 have hd:Lib.digitVal b=some (b.toNat-48):=by
  unfold Lib.digitVal
  rw [i6 hb]
 unfold R6 dgN at*
 simp only [Lib.decFrom,hd]
 rw [I7 r]
 cases h:Lib.decFrom 0 r with
 | none=>rw [h] at hr; cases hr
 | some n=>
  refine⟨rfl,?_⟩
  show (0*10+(b.toNat-48))*10 ^r.length+n=_
  rw [K6,aW]
  rfl
theorem n0y:∀ {t:List UInt8},(∀ i,i < t.length->48<=(t.getD i 0).toNat∧(t.getD i 0).toNat<=57)->R6 t
 | [],_=>rfl
 | _ ::_,h=>(tF (h 0 (Nat.zero_lt_succ _)) (n0y fun i hi=>h (i+1) (Nat.succ_lt_succ hi))).1
theorem k0h {t:List UInt8} (h:s7 t=true):∀ i,i < t.length->48<=(t.getD i 0).toNat∧(t.getD i 0).toNat<=57:=by
 intro i hi
 unfold s7 at h
 have h1:=zzA10.1 h i (zzA126.2 hi)
 have h2:ndB t i=false:=by simpa using h1
 unfold ndB at h2
 have e:chI t (i:Int)=((t.getD i 0).toNat:Int):=by
  show ((t.getD ((i:Int)).toNat 0).toNat:Int)=_
  rw [l4]
 rw [e] at h2
 generalize (t.getD i 0).toNat=c at*
 by_cases hc:(c:Int) < 48
 ·rw [f9 hc] at h2; cases h2
 ·rw [d4 hc] at h2
  have:=O2 h2
  omega
theorem y5 {g:Bool} {t:List UInt8} {x:Int} (h:K4 g t x=true):R6 t∧t.length<=8192∧-20000<=x∧x<=20000∧(t≠[] ->0 < dgN t):=by
 unfold K4 at h
 by_cases h0:t=[]
 ·rw [i6 h0] at h
  subst h0
  have hx:x=0:=by
   cases g
   ·simpa using h
   ·cases h
  exact⟨rfl,by decide,by omega,by omega,fun k=>absurd rfl k⟩
 ·rw [a8 h0] at h
  cases h3:v3B t <;> cases h4:(chI t (cA t) !=48) <;> cases h5:decide (x>=-20000) <;> simp only [vaB,h3,h4,h5] at h <;> try cases h
  have hx2:=G1 h
  have hx1:=G1 h5
  unfold v3B at h3
  cases h2:v2B t
  ·rw [h2] at h3; cases h3
  ·rw [h2] at h3
   unfold v2B at h2
   cases h1:v1B t
   ·rw [h1] at h2; cases h2
   ·rw [h1] at h2
    have hl:=G1 h1
    have ha:=k0h h2
    refine⟨n0y ha,by omega,hx1,hx2,fun _=> ?_⟩
    cases t with
    | nil=>exact absurd rfl h0
    | cons b r=>
     have hb:48<=b.toNat∧b.toNat<=57:=ha 0 (Nat.zero_lt_succ _)
     have hr:R6 r:=n0y fun i hi=>ha (i+1) (Nat.succ_lt_succ hi)
     rw [(tF hb hr).2]
     have hb0:b.toNat≠48:=by
      intro e
      have e2:chI (b ::r) 0=48:=by
       show ((b.toNat:Nat):Int)=48
       rw [e]; rfl
      rw [e2] at h3
      cases h3
     have hb1:48<=b.toNat:=hb.1
     have h9:1*1<=(b.toNat-48)*10 ^r.length:=w0z (by omega) (x7 (by decide))
     omega
theorem t0l {n k:Nat} (h:n < 10 ^k):bl n<=4*k:=by
 refine bl_le.2 (B9 h ?_)
 rw [Nat.pow_mul]
 exact nU (by decide) k
theorem i2k {d:List UInt8} {e:Int} (h:R6 d) (hl:d.length<=8192) (he:e<=40000):bl (qtN d e)<=1000000:=by
 have h1:=zN h
 unfold qtN
 split
 ·have h2:dgN d*10 ^e.toNat < 10 ^(d.length+e.toNat):=by
   rw [m9]
   exact T6 h1 (x7 (by decide))
  have:=t0l h2
  omega
 ·have:=t0l h1
  omega
theorem i2f {d:List UInt8} {e:Int} (h:R6 d) (hl:d.length<=8192) (he: -40000<=e):bl (qtD d e)<=1000000:=by
 have h1:=zN h
 unfold qtD
 split
 ·have:=t0l h1
  omega
 ·have h2:dgN d*10 ^(-e).toNat < 10 ^(d.length+(-e).toNat):=by
   rw [m9]
   exact T6 h1 (x7 (by decide))
  have:=t0l h2
  omega
theorem d2f {d:List UInt8} {e:Int} (h:0 < dgN d):0 < qtD d e:=by
 unfold qtD
 split
 ·exact h
 ·exact M6 h (x7 (by decide))
abbrev raV (n:Bool) (N D:Nat):List Arg:=[xR (nuW n N D),fR (z0r 53 971 N D (B2 53 (-1074) N D)) (G8 53 971 N D (B2 53 (-1074) N D)) (q0c 53 N D (B2 53 (-1074) N D)),iR 0]
theorem d1i {n1 n2:Bool} {d1 d2:List UInt8} {e1 e2:Int} (h1:K4 n1 d1 e1=true) (h2:K4 n2 d2 e2=true) (k1:d1≠[]) (k2:d2≠[]) (hf: -1000<=(d1.length:Int)-d2.length+(e1-e2)∧(d1.length:Int)-d2.length+(e1-e2)<=1000):
  Ev.Sem zO8 J0 83 [dA n1 d1 e1,dA n2 d2 e2,iR 1] (raV (n1 !=n2) (qtN d1 (e1-e2)) (qtD d2 (e1-e2))):=by
 obtain⟨a1,a2,a3,a4,a5⟩:=y5 h1
 obtain⟨b1,b2,b3,b4,b5⟩:=y5 h2
 refine l6 i1c 10 _ _ (f1v n1 n2 d1 d2 e1 e2 _ _ _ _) ?_
 rw [e2n,e2n,c1n,c1n,h1,h2]
 exact⟨d5 _,d5 _,⟨Cn.ws _,Cn.ws _,d2f (b5 k2),i2k a1 a2 (by omega),i2f b1 b2 (by omega)⟩,⟨a1,b1,by omega,by omega,⟨by omega,by omega⟩,hf⟩,s6 k1,s6 k2,rfl,rfl,rfl,by omega,⟨by decide,by decide⟩,rfl,rfl,by omega,⟨by decide,by decide⟩,rfl,rfl,rfl,rfl,rfl,rfl,a7⟩
def raW (n:Bool) (d1 d2:List UInt8) (e:Int):Nat:=if d1=[] then 0 else nuW n (qtN d1 e) (qtD d2 e)
def raX (d1 d2:List UInt8) (e:Int):Bool:=if d1=[] then false else z0r 53 971 (qtN d1 e) (qtD d2 e) (B2 53 (-1074) (qtN d1 e) (qtD d2 e))
def raI (d1 d2:List UInt8) (e:Int):Bool:=if d1=[] then false else G8 53 971 (qtN d1 e) (qtD d2 e) (B2 53 (-1074) (qtN d1 e) (qtD d2 e))
def raU (d1 d2:List UInt8) (e:Int):Bool:=if d1=[] then false else q0c 53 (qtN d1 e) (qtD d2 e) (B2 53 (-1074) (qtN d1 e) (qtD d2 e))
def k2v (n1 n2:Bool) (d1 d2:List UInt8) (e1 e2:Int):Prop:=K4 n1 d1 e1=true∧K4 n2 d2 e2=true∧d2≠[] ∧(d1≠[] ->-1000<=(d1.length:Int)-d2.length+(e1-e2)∧(d1.length:Int)-d2.length+(e1-e2)<=1000)
theorem g1r (n1 n2:Bool) (d2:List UInt8) (e1 e2:Int):B7 q2l [] 200 83 [dA n1 [] e1,dA n2 d2 e2,iR 1] [xR 0,fR false false false,iR 0] [true,false,true,false,false,false,false,true] =some [true=true,(d2==[])=false,false=false,false=false,(!K4 n2 d2 e2)=false,d2.length<=9223372036854775807,(0:Int)<=1∧(1:Int) < 2,true=true,(!K4 n1 [] e1)=false,0<=9223372036854775807,(0:Int)<=0∧(0:Int) < 2,true=true,zO4 .f64 0=zO4 .f64 0,zO9 false=zO9 false,zO9 false=zO9 false,zO9 false=zO9 false,zO3 .i64 0=zO3 .i64 0] :=by kernel_rfl
theorem z1t {n1 n2:Bool} {d1 d2:List UInt8} {e1 e2:Int} (h:k2v n1 n2 d1 d2 e1 e2):Ev.Sem zO8 J0 83 [dA n1 d1 e1,dA n2 d2 e2,iR 1] [xR (raW (n1 !=n2) d1 d2 (e1-e2)),fR (raX d1 d2 (e1-e2)) (raI d1 d2 (e1-e2)) (raU d1 d2 (e1-e2)),iR 0] :=by
 obtain⟨h1,h2,k2,h3⟩:=h
 unfold raW raX raI raU
 by_cases hd:d1=[]
 ·rw [i6 hd,i6 hd,i6 hd,i6 hd]
  subst hd
  refine l6 i1c 10 _ _ (g1r n1 n2 d2 e1 e2) ?_
  rw [h1,h2]
  obtain⟨b1,b2,b3,b4,b5⟩:=y5 h2
  exact⟨rfl,s6 k2,rfl,rfl,rfl,by omega,⟨by decide,by decide⟩,rfl,rfl,by decide,⟨by decide,by decide⟩,rfl,rfl,rfl,rfl,rfl,rfl,a7⟩
 ·rw [a8 hd,a8 hd,a8 hd,a8 hd]
  exact d1i h1 h2 hd k2 (h3 hd)
def a1u:List Arg->Option (List Arg×List Prop)
 | [.c (.v (.agg ⟨[.bool n1, .string ⟨⟨d1⟩⟩, .int .i64 e1]⟩)), .c (.v (.agg ⟨[.bool n2, .string ⟨⟨d2⟩⟩, .int .i64 e2]⟩)), .c (.v (.int .i64 1))] =>some ([xR (raW (n1 !=n2) d1 d2 (e1-e2)),fR (raX d1 d2 (e1-e2)) (raI d1 d2 (e1-e2)) (raU d1 d2 (e1-e2)),iR 0],[k2v n1 n2 d1 d2 e1 e2])
 | _=>none
theorem d1g:∀ az rs l,a1u az=some (rs,l)->d9 l->Ev.Sem zO8 J0 83 az rs:=by
 intro az rs l h hl
 unfold a1u at h
 split at h
 ·cases h
  exact z1t hl.1
 ·cases h
def mG:qV:=m8 83 (z7 [shV,shV,shV] a1u) n0q
theorem X1:qZ zO8 J0 mG:=d7 (m5 _ d1g) yW
def j0p:List Value->Option (Value×List Prop)
 | [.bool g, .string ⟨⟨t⟩⟩, .int .i64 x] =>some (mdV g t x,[t.length<=140737488351232,s7 t=true])
 | _=>none
theorem tS (args:List Value) (v:Value) (l:List Prop) (h:j0p args=some (v,l)) (hl:d9 l):Ev.Pure zO8 J0 12 args v:=by
 unfold j0p at h
 split at h
 ·cases h
  obtain⟨h1,h2,_⟩:=hl
  have:=fun g x=>j1v (g:=g) (x:=x) h1
  simp only [i6 h2] at this
  exact this _ _
 ·cases h
def j1b:Tab:=l7 12 j0p (l7 81 r0r d1b)
theorem j0x:R8 zO8 J0 j1b:=b8 tS (b8 k0t k0q)
def bRo5:Base:=⟨zO8,J0,false,j1b,mG,200,J2⟩
theorem tM:BaseOk bRo5:=⟨progOk,j0x,X1,m4⟩
abbrev f2w:Cx:=bRo5.cx 10
def neP (d:List UInt8) (e:Int):Int:=iI.wrap (zO2 (d8 d).length+e)
abbrev x1k (hx:Bool) (d:List UInt8) (e n:Int):List Arg:=[.c (.v (pcV hx d e n)),iR 53,iR (-1074), .c (.v (.func (.func 39) ⟨[]⟩ ⟨[]⟩))]
section
variable (hx:Bool) (d:List UInt8) (e n:Int) (r:Nat) (z:Int)
theorem s2o:B7 f2w [] 200 38 (x1k hx d e n) [xR r,iR z] [true] =some [(d8 d==([] :List UInt8))=true,(48:UInt8)=48,zO4 .f64 0=zO4 .f64 r,zO3 .i64 0=zO3 .i64 z] :=by kernel_rfl
theorem s2e:B7 f2w [] 200 38 (x1k hx d e n) [xR r,iR z] [false,false,true] =some [decide (400 < neP d e)=true,hx=false,(d8 d==([] :List UInt8))=false,(48:UInt8)=48,zO4 .f64 9218868437227405312=zO4 .f64 r,zO3 .i64 0=zO3 .i64 z] :=by kernel_rfl
theorem s2a:B7 f2w [] 200 38 (x1k hx d e n) [xR r,iR z] [false,false,false,true] =some [decide (neP d e < Int.negSucc 399)=true,decide (400 < neP d e)=false,hx=false,(d8 d==([] :List UInt8))=false,(48:UInt8)=48,zO4 .f64 0=zO4 .f64 r,zO3 .i64 0=zO3 .i64 z] :=by kernel_rfl
theorem t2b:B7 f2w [] 200 38 (x1k hx d e n) [xR r,iR z] [false,false,false,false,true] =some [(mdE (d8 d) e !=0)=true,(d8 d).length<=140737488351232,s7 (d8 d)=true,decide (neP d e < Int.negSucc 399)=false,decide (400 < neP d e)=false,hx=false,(d8 d==([] :List UInt8))=false,(48:UInt8)=48,zO4 .f64 0=zO4 .f64 r,zO3 .i64 (mdE (d8 d) e)=zO3 .i64 z] :=by kernel_rfl
theorem s2y:B7 f2w [] 200 38 (x1k hx d e n) [xR r,iR z] [false,false,false,false,false] =some [k2v (mdN false (d8 d) e) false (mdD (d8 d) e) [49] (mdX (d8 d) e) 0,(mdE (d8 d) e !=0)=false,(d8 d).length<=140737488351232,s7 (d8 d)=true,decide (neP d e < Int.negSucc 399)=false,decide (400 < neP d e)=false,hx=false,(d8 d==([] :List UInt8))=false,(48:UInt8)=48,zO4 .f64 (raW (mdN false (d8 d) e !=false) (mdD (d8 d) e) [49] (mdX (d8 d) e-0))=zO4 .f64 r,zO3 .i64 0=zO3 .i64 z] :=by kernel_rfl
end
theorem allDB_mem {t:List UInt8} :s7 t=true↔∀ b∈t,48<=b.toNat∧b.toNat<=57:=by
 constructor
 ·intro h b hb
  obtain⟨i,hi,rfl⟩:=List.mem_iff_getElem.1 hb
  have:=k0h h i hi
  rw [mE,q0r hi] at this
  exact this
 ·intro h
  unfold s7
  refine zzA10.2 fun i hi=> ?_
  have hi:=zzA126.1 hi
  have hb:=h _ (List.getElem_mem hi)
  have e:chI t (i:Int)=((t[i].toNat:Nat):Int):=by
   show ((t.getD ((i:Int)).toNat 0).toNat:Int)=_
   rw [l4,mE,q0r hi]
   rfl
  have:ndB t i=false:=by
   unfold ndB
   rw [e,d4 (by omega)]
   exact d4 (by omega)
  rw [this]
  rfl
theorem F2:∀ {t:List UInt8} {b:UInt8},b∈d8 t->b∈t
 | [],_,h=>h
 | c ::r,b,h=>by
  unfold d8 at h
  split at h
  ·exact W2 _ (F2 h)
  ·exact h
theorem L3:∀ {t:List UInt8} {c:UInt8} {r:List UInt8},d8 t=c ::r->c≠48
 | [],_,_,h=>by cases h
 | a ::q,c,r,h=>by
  unfold d8 at h
  split at h
  ·exact L3 h
  ·cases h; assumption
theorem zZ {c:UInt8} (hc:c≠48):∀ (w:List UInt8),∃ w',d8 (w++[c])=w'++[c]
 | [] =>⟨[],by show (if c=48 then d8 [] else [c])=_; rw [a8 hc]; rfl⟩
 | a ::q=>by
  by_cases ha:a=48
  ·obtain⟨w',h⟩:=zZ hc q
   exact⟨w',by show (if a=48 then d8 (q++[c]) else a ::(q++[c]))=_; rw [i6 ha]; exact h⟩
  ·exact⟨a ::q,by show (if a=48 then d8 (q++[c]) else a ::(q++[c]))=_; rw [a8 ha]; rfl⟩
theorem u0v {t:List UInt8} (h:d8 t≠[]):∃ c r,mdS t=c ::r∧c≠48∧∃ a q,mdS t=q++[a] ∧a≠48:=by
 cases hu:d8 t with
 | nil=>exact absurd hu h
 | cons c r=>
  have hc:=L3 hu
  obtain⟨w',hw⟩:=zZ hc r.reverse
  have hS:mdS t=(w'++[c]).reverse:=by
   unfold mdS O8
   rw [hu,yR,hw]
  refine⟨c,w'.reverse,by rw [hS]; simp,hc,?_⟩
  cases hq:w'++[c] with
  | nil=>simp at hq
  | cons a q=>
   rw [hq] at hw
   refine⟨a,q.reverse,by rw [hS,hq]; simp,L3 hw⟩
theorem e1g {t:List UInt8} {b:UInt8} (h:b∈mdS t):b∈t:=by
 unfold mdS O8 at h
 exact F2 (List.mem_reverse.1 (F2 (List.mem_reverse.1 h)))
theorem f1b {g:Bool} {t:List UInt8} {x:Int} (h:s7 t=true):K4 (mdN g t x) (mdD t x) (mdX t x)=true:=by
 unfold mdN mdD mdX
 cases hI:mdI t x with
 | false=>
  rw [a8 (by decide),a8 (by decide),a8 (by decide)]
  rfl
 | true=>
  rw [i6 rfl,i6 rfl,i6 rfl]
  unfold mdI at hI
  rw [u6] at hI
  have hn:d8 t≠[] :=G1 hI.1
  have hE:=G1 hI.2
  unfold mdE at hE
  rw [a8 hn] at hE
  by_cases h1:8192 < (mdS t).length
  ·rw [i6 h1] at hE; cases hE
  rw [a8 h1] at hE
  by_cases h2:20000-mdB t < x∨x < -20000-mdB t
  ·rw [i6 h2] at hE; cases hE
  obtain⟨c,r,e1,hc,a,q,e2,ha⟩:=u0v hn
  unfold K4
  rw [a8 (by rw [e1]; simp)]
  have hc2:(chI (mdS t) 0 !=48)=true:=by
   rw [e1]
   show (((c.toNat:Nat):Int) !=48)=true
   have:c.toNat≠48:=fun h=>hc (zzA135.1 h)
   rw [zzA208]
   omega
  have hl:cA (mdS t)=(q.length:Int):=by
   unfold cA
   rw [e2,F6,y0w]
   have:=G7 List.length e2
   rw [F6,y0w] at this
   rw [wr (by omega) (by omega)]
   omega
  have ha2:(chI (mdS t) (cA (mdS t)) !=48)=true:=by
   rw [hl,e2]
   show ((((q++[a]).getD ((q.length:Int)).toNat 0).toNat:Int) !=48)=true
   rw [l4,mE,x0b (d5 _),sW]
   show (((a.toNat:Nat):Int) !=48)=true
   have:a.toNat≠48:=fun h=>ha (zzA135.1 h)
   rw [zzA208]
   omega
  have hd:s7 (mdS t)=true:=allDB_mem.2 fun b hb=>allDB_mem.1 h b (e1g hb)
  unfold vaB v3B v2B v1B
  rw [f9 (show ((mdS t).length:Int)<=8192 by omega),hc2,ha2,hd,f9 (show x+mdB t>=-20000 by omega)]
  exact f9 (by omega)
def neQ (d:List UInt8) (e:Int):Int:=((d8 d).length:Int)+e
def neW (d:List UInt8) (e:Int):Nat:=if d8 d=[] then 0 else if 400 < neQ d e then 9218868437227405312 else if neQ d e < -400 then 0 else if mdE (d8 d) e≠0 then 0 else raW false (mdD (d8 d) e) [49] (mdX (d8 d) e)
def neE (d:List UInt8) (e:Int):Int:=if d8 d=[] then 0 else if 400 < neQ d e then 0 else if neQ d e < -400 then 0 else mdE (d8 d) e
theorem K2 {d:List UInt8} :d8 (d8 d)=d8 d:=by
 cases h:d8 d with
 | nil=>rfl
 | cons c r=>
  show (if c=48 then d8 r else c ::r)=_
  rw [a8 (L3 h)]
theorem o1n {d:List UInt8} {e:Int} (h1:neQ d e<=400) (h2: -400<=neQ d e) (hne:mdD (d8 d) e≠[]): -1000<=((mdD (d8 d) e).length:Int)- ([49] :List UInt8).length+(mdX (d8 d) e-0)∧((mdD (d8 d) e).length:Int)- ([49] :List UInt8).length+(mdX (d8 d) e-0)<=1000:=by
 unfold mdD mdX at*
 cases hI:mdI (d8 d) e with
 | false=>
  rw [hI,a8 (by decide)] at hne
  exact absurd rfl hne
 | true=>
  rw [i6 rfl,i6 rfl]
  unfold mdB
  rw [K2]
  unfold neQ at*
  rw [y0w]
  omega
theorem r1o {d:List UInt8} {e n:Int} (hd:s7 d=true) (hl:d.length<=140737488351232) (he: -1000000000000000000<=e∧e<=1000000000000000000):Ev.Sem zO8 J0 38 (x1k false d e n) [xR (neW d e),iR (neE d e)] :=by
 have hle:=A0 d
 have hP:neP d e=neQ d e:=by
  unfold neP neQ
  exact wr (by show -9223372036854775808<=((d8 d).length:Int)+e; omega) (by show ((d8 d).length:Int)+e<=9223372036854775807; omega)
 have hT:s7 (d8 d)=true:=allDB_mem.2 fun b hb=>allDB_mem.1 hd b (F2 hb)
 unfold neW neE
 by_cases h0:d8 d=[]
 ·rw [i6 h0,i6 h0]
  refine l6 tM 10 _ _ (s2o false d e n _ _) ?_
  rw [h0]
  exact⟨rfl,rfl,rfl,rfl,a7⟩
 have k0:(d8 d==([] :List UInt8))=false:=s6 h0
 rw [a8 h0,a8 h0]
 by_cases h1:400 < neQ d e
 ·rw [i6 h1,i6 h1]
  refine l6 tM 10 _ _ (s2e false d e n _ _) ?_
  rw [hP]
  exact⟨f9 h1,rfl,k0,rfl,rfl,rfl,a7⟩
 have k1:decide (400 < neP d e)=false:=by rw [hP]; exact d4 h1
 rw [a8 h1,a8 h1]
 by_cases h2:neQ d e < -400
 ·rw [i6 h2,i6 h2]
  refine l6 tM 10 _ _ (s2a false d e n _ _) ?_
  exact⟨by rw [hP]; exact f9 h2,k1,rfl,k0,rfl,rfl,rfl,a7⟩
 have k2:decide (neP d e < Int.negSucc 399)=false:=by rw [hP]; exact d4 h2
 rw [a8 h2,a8 h2]
 by_cases h3:mdE (d8 d) e=0
 ·rw [a8 (by rw [h3]; decide)]
  refine l6 tM 10 _ _ (s2y false d e n _ _) ?_
  have hok:k2v (mdN false (d8 d) e) false (mdD (d8 d) e) [49] (mdX (d8 d) e) 0:=⟨f1b hT,by decide,by decide,fun hn=>o1n (by omega) (by omega) hn⟩
  have hN:mdN false (d8 d) e=false:=by
   unfold mdN
   split <;> rfl
  have hR:zO4 .f64 (raW (mdN false (d8 d) e !=false) (mdD (d8 d) e) [49] (mdX (d8 d) e-0))=zO4 .f64 (raW false (mdD (d8 d) e) [49] (mdX (d8 d) e)):=by
   rw [hN,Int.sub_zero]
   rfl
  exact⟨hok,by rw [h3]; rfl,by omega,hT,k2,k1,rfl,k0,rfl,hR,by rw [h3],a7⟩
 ·rw [i6 h3]
  refine l6 tM 10 _ _ (t2b false d e n _ _) ?_
  exact⟨zzA208.2 h3,by omega,hT,k2,k1,rfl,k0,rfl,rfl,rfl,a7⟩
def rF (K:Nat) (L:Int) (N D:Nat) (e:Int):Prop:=L<=e∧flq N D e < 2 ^K∧(e=L∨2 ^(K-1)<=flq N D e)
theorem aI (k:Nat):0 < 2 ^k:=x7 (by decide)
theorem c2j {K:Nat} (hK:0 < K):2 ^K=2*2 ^(K-1):=by
 obtain⟨k,rfl⟩:∃ k,K=k+1:=⟨K-1,by omega⟩
 rw [v6,b0e,p4]
theorem u0k {K:Nat} {N D:Nat} {e:Int} {s:Nat} (hK:0 < K) (h:2 ^(K-1)<=flq N D (e+((s+1:Nat):Int))):2 ^K<=flq N D e:=by
 rw [uG,oS (aI _)] at h
 have:2 ^K<=2 ^(K-1)*2 ^(s+1):=by
  rw [<- m9]
  exact y9 (by decide) (by omega)
 omega
theorem t0e {K:Nat} {L:Int} {N D:Nat} {e e':Int} (hK:0 < K) (h:rF K L N D e) (h':rF K L N D e'):¬e < e':=by
 intro hlt
 obtain⟨s,hs⟩:∃ s:Nat,e'=e+((s+1:Nat):Int):=⟨(e'-e-1).toNat,by omega⟩
 obtain⟨h1,h2,_⟩:=h
 obtain⟨k1,_,k3⟩:=h'
 rcases k3 with k3 | k3
 ·omega
 ·rw [hs] at k3
  have:=u0k hK k3
  omega
theorem s1j {K:Nat} {L:Int} {N D:Nat} {e e':Int} (hK:0 < K) (h:rF K L N D e) (h':rF K L N D e'):e=e':=by
 have h1:=t0e hK h h'
 have h2:=t0e hK h' h
 omega
theorem H5 {K:Nat} {L:Int} {N D:Nat} (hK:0 < K) (hN:0 < N) (hD:0 < D):rF K L N D (B2 K L N D):=by
 refine⟨?_,k1f,?_⟩
 ·unfold B2 aV
  split <;> split <;> omega
 ·rcases E0 (flq N D (B2 K L N D)) (2 ^(K-1)) with h | h
  ·exact .inl (z0s hK hN hD h)
  ·exact .inr h
theorem b1n (N k:Nat) (e:Int):atA (N*k) e=atA N e*k:=by
 unfold atA
 split
 ·rfl
 ·rw [X6]
theorem q0l (D k:Nat) (e:Int):atB (D*k) e=atB D e*k:=by
 unfold atB
 split
 ·rw [X6]
 ·rfl
theorem h1t {N D k:Nat} (hk:0 < k) (e:Int):flq (N*k) (D*k) e=flq N D e:=by
 unfold flq
 rw [b1n,q0l,sF _ _ hk]
theorem z0v {N D k:Nat} (e:Int):flr (N*k) (D*k) e=flr N D e*k:=by
 unfold flr
 rw [b1n,q0l,zF]
theorem o0l (a b:Nat) {k:Nat} (hk:0 < k):cmN (a*k) (b*k)=cmN a b:=by
 unfold cmN
 have h1:a*k < b*k↔a < b:=Nat.mul_lt_mul_right hk
 have h2:a*k=b*k↔a=b:=⟨fun h=>j0k hk h,fun h=>by rw [h]⟩
 simp only [h1,h2]
theorem c2s {N D k:Nat} (hk:0 < k) (e:Int):flm (N*k) (D*k) e=flm N D e:=by
 have h1:flw (N*k) (D*k) e=flw N D e:=by
  unfold flw
  rw [z0v]
  refine zzA167.2 ⟨fun h=> ?_,fun h=>by rw [h,K6]⟩
  rcases zzA97.1 h with h | h
  ·exact h
  ·omega
 have h2:flh (N*k) (D*k) e=flh N D e:=by
  unfold flh
  rw [z0v,q0l,X6,o0l _ _ hk]
 unfold flm vY
 rw [h1,h2,h1t hk]
theorem z0y {K:Nat} {L:Int} {N D k:Nat} (hk:0 < k) {e:Int} (h:rF K L N D e):rF K L (N*k) (D*k) e:=by
 unfold rF at*
 rw [h1t hk]
 exact h
def rwd (K:Nat) (L:Int) (N D:Nat):Nat:=if N=0 then 0 else (B2 K L N D-L).toNat*2 ^(K-1)+flm N D (B2 K L N D)
theorem s1t {K:Nat} {L:Int} {D:Nat} :rwd K L 0 D=0:=rfl
theorem mX {K:Nat} {L:Int} {N D:Nat} {e:Int} (hK:0 < K) (hN:0 < N) (hD:0 < D) (h:rF K L N D e):rwd K L N D=(e-L).toNat*2 ^(K-1)+flm N D e:=by
 unfold rwd
 rw [a8 (by omega),s1j hK (H5 hK hN hD) h]
theorem d0y {K:Nat} {L:Int} {N D k:Nat} (hK:0 < K) (hD:0 < D) (hk:0 < k):rwd K L (N*k) (D*k)=rwd K L N D:=by
 rcases R2 N with h | h
 ·subst h
  rw [K6]
  rfl
 ·rw [mX hK (M6 h hk) (M6 hD hk) (z0y hk (H5 hK h hD)),c2s hk,mX hK h hD (H5 hK h hD)]
theorem h1d {K:Nat} {L:Int} {N D N' D':Nat} (hK:0 < K) (hD:0 < D) (hD':0 < D') (h:N*D'=N'*D):rwd K L N D=rwd K L N' D':=by
 rw [<- d0y hK hD hD',<- d0y (N:=N') hK hD' hD,h,p4 D D']
theorem r0p {N N':Nat} (h:N<=N') (e:Int):atA N e<=atA N' e:=by
 unfold atA
 split
 ·exact h
 ·exact s5 _ h
theorem t0w {N N':Nat} (h:N<=N') (D:Nat) (e:Int):flq N D e<=flq N' D e:=Nat.div_le_div_right (r0p h e)
theorem W8 (N D:Nat) (e:Int):flq N D e<=flm N D e∧flm N D e<=flq N D e+1:=by
 unfold flm
 split <;> omega
theorem s1n {a a' b:Nat} {q:Nat} (h:a<=a') (hu:upB (cmN (a*2) b) q=true):upB (cmN (a'*2) b) q=true:=by
 unfold upB cmN at*
 by_cases h1:a'*2 < b
 ·rw [i6 (show a*2 < b by omega)] at hu
  cases hu
 ·rw [a8 h1]
  by_cases h2:a'*2=b
  ·rw [i6 h2]
   by_cases h3:a*2 < b
   ·rw [i6 h3] at hu
    cases hu
   ·rw [a8 h3,i6 (show a*2=b by omega)] at hu
    exact hu
  ·rw [a8 h2]
   rfl
theorem p1k {N N':Nat} (h:N<=N') (D:Nat) (e:Int):flm N D e<=flm N' D e:=by
 have hq:=t0w h D e
 rcases E0 (flq N D e) (flq N' D e) with h1 | h1
 ·have h2:=W8 N D e
  have h3:=W8 N' D e
  omega
 ·have e1:flq N' D e=flq N D e:=by omega
  have hr:flr N D e<=flr N' D e:=by
   have a1:=eJ (atA N e) (atB D e)
   have a2:=eJ (atA N' e) (atB D e)
   have a3:=r0p h e
   have e2:atA N' e/atB D e=atA N e/atB D e:=e1
   unfold flr
   rw [e2] at a2
   omega
  have hu:vY N D e=true->vY N' D e=true:=by
   intro hu
   unfold vY at*
   cases hw:flw N D e with
   | true=>rw [hw] at hu; cases hu
   | false=>
    rw [hw] at hu
    have hw2:flw N' D e=false:=by
     unfold flw at*
     have:=O2 hw
     exact d4 (by omega)
    rw [hw2,e1]
    exact s1n hr hu
  unfold flm
  rw [e1]
  by_cases h2:vY N D e=true
  ·rw [i6 h2,i6 (hu h2)]
   exact d5 _
  ·rw [a8 h2]
   split <;> omega
theorem o1h {K:Nat} {L:Int} {N N' D:Nat} (hK:0 < K) (hD:0 < D) (h:N<=N'):rwd K L N D<=rwd K L N' D:=by
 rcases R2 N with hN | hN
 ·subst hN
  exact o8 _
 ·have hN':0 < N':=by omega
  have i1:=H5 (L:=L) hK hN hD
  have i2:=H5 (L:=L) hK hN' hD
  rw [mX hK hN hD i1,mX hK hN' hD i2]
  generalize B2 K L N D=e at*
  generalize B2 K L N' D=e' at*
  obtain⟨a1,a2,a3⟩:=i1
  obtain⟨b1,b2,b3⟩:=i2
  have m1:=W8 N D e
  have m2:=W8 N' D e'
  have hK2:=c2j hK
  rcases Int.lt_trichotomy e e' with hlt | heq | hgt
  ·obtain⟨s,hs⟩:∃ s:Nat,e'=e+((s+1:Nat):Int):=⟨(e'-e-1).toNat,by omega⟩
   have hb:2 ^(K-1)<=flq N' D e':=by
    rcases b3 with b3 | b3
    ·omega
    ·exact b3
   rw [show (e'-L).toNat=(e-L).toNat+1+s by omega,x6,x6]
   omega
  ·subst heq
   have:=p1k h D e
   omega
  ·exfalso
   obtain⟨s,hs⟩:∃ s:Nat,e=e'+((s+1:Nat):Int):=⟨(e-e'-1).toNat,by omega⟩
   have ha:2 ^(K-1)<=flq N D e:=by
    rcases a3 with a3 | a3
    ·omega
    ·exact a3
   have:=u7 ha (t0w h D e)
   rw [hs] at this
   have:=u0k hK this
   omega
theorem s1v {K:Nat} {L:Int} {N D N' D':Nat} (hK:0 < K) (hD:0 < D) (hD':0 < D') (h:N*D'<=N'*D):rwd K L N D<=rwd K L N' D':=by
 rw [<- d0y hK hD hD',<- d0y (N:=N') hK hD' hD,p4 D' D]
 exact o1h hK (M6 hD hD') h
theorem z0z {a b:Nat} (h:2046<=a) (hb:4503599627370496<=b):9218868437227405312<=a*4503599627370496+b:=by omega
theorem o1c {a b:Nat} (h:2045<=a) (hb:9007199254740992<=b):9218868437227405312<=a*4503599627370496+b:=by omega
theorem e2c {a b:Nat} (h:a<=2045) (hb:b < 9007199254740992):a*4503599627370496+b<=9218868437227405312:=by omega
theorem m1w {N D:Nat} (hD:0 < D):kH N D=min (rwd 53 (-1074) N D) 9218868437227405312:=by
 rcases R2 N with hN | hN
 ·subst hN
  rw [s1t,Nat.zero_min]
  have hq:∀ e,flq 0 D e=0:=by
   intro e
   unfold flq atA
   split <;> simp
  have hr:∀ e,flr 0 D e=0:=by
   intro e
   unfold flr atA
   split <;> simp
  have hm:∀ e,flm 0 D e=0:=by
   intro e
   unfold flm vY flw
   rw [hr,hq]
   rfl
  have he:B2 53 (-1074) 0 D<=0:=by
   unfold B2 aV
   rw [hq,y1q]
   split <;> split <;> omega
  unfold kH G8 p0s m0c
  have k:¬2 ^53<=0:=by decide
  rw [hm]
  simp only [a8 k]
  rw [d4 (by omega),a8 (by decide),i6 trivial]
 ·have i1:=H5 (L:= -1074) (show 0 < 53 by decide) hN hD
  rw [mX (by decide) hN hD i1]
  unfold kH G8 p0s m0c
  generalize B2 53 (-1074) N D=e at*
  obtain⟨a1,a2,a3⟩:=i1
  have m1:=W8 N D e
  rw [show (2:Nat) ^53=9007199254740992 by decide] at*
  rw [show (2:Nat) ^(53-1)=4503599627370496 by decide] at*
  rw [show (e- -1074).toNat=(e+1074).toNat by omega]
  by_cases hc:9007199254740992<=flm N D e
  ·rw [i6 hc,i6 hc]
   have hm:flm N D e=9007199254740992:=by omega
   by_cases hi:971 < e+1
   ·rw [f9 hi,i6 rfl]
    exact (jJ (o1c (by omega) hc)).symm
   ·rw [d4 hi,a8 (by decide),hm,a8 (by decide)]
    rw [D4 (by omega)]
    omega
  ·rw [a8 hc,a8 hc]
   by_cases hi:971 < e
   ·rw [f9 hi,i6 rfl]
    refine (jJ (z0z (by omega) ?_)).symm
    rcases a3 with a3 | a3 <;> omega
   ·rw [d4 hi,a8 (by decide)]
    by_cases h0:flm N D e=0
    ·rw [i6 h0,h0]
     have:e= -1074:=by rcases a3 with a3 | a3 <;> omega
     rw [this]
     rfl
    ·rw [a8 h0,D4 (e2c (by omega) (by omega))]
theorem f2d {T N D:Nat} (hD:0 < D) (h:D*T<=N):rwd 53 (-1074) T 1<=rwd 53 (-1074) N D:=s1v (by decide) (by decide) hD (by rw [y8,p4]; exact h)
theorem c2b {N D:Nat} (hD:0 < D) (h:D*2 ^1024<=N):9218868437227405312<=rwd 53 (-1074) N D:=by
 have h1:=f2d hD h
 have h2:rF 53 (-1074) (2 ^1024) 1 972:=by
  refine⟨by decide,?_, .inr ?_⟩ <;> decide+kernel
 rw [mX (by decide) (aI _) (by decide) h2] at h1
 have h3:4503599627370496<=flm (2 ^1024) 1 972:=u7 (by decide+kernel) (W8 _ _ _).1
 refine u7 ?_ h1
 have e:((972:Int)- -1074).toNat*2 ^(53-1)=2046*4503599627370496:=by decide+kernel
 rw [e]
 generalize flm (2 ^1024) 1 972=x at*
 exact z0z (d5 _) h3
theorem k1r {K:Nat} {L:Int} {N D:Nat} (hK:0 < K) (hL:L<=0) (h:N*2 ^((-L).toNat+1) < D):rwd K L N D=0:=by
 rcases R2 N with hN | hN
 ·subst hN; rfl
 have hD:0 < D:=by omega
 have hA:atA N L*2 < atB D L:=by
  unfold atA atB
  by_cases h0:0<=L
  ·have:L=0:=by omega
   subst this
   simpa using h
  ·rw [a8 h0,a8 h0,m7,<- v6]
   exact h
 have hq:flq N D L=0:=p0e (by omega)
 have hr:flr N D L=atA N L:=J5 (by omega)
 have hm:flm N D L=0:=by
  unfold flm vY flh
  rw [hq,hr]
  unfold cmN
  rw [i6 hA]
  have:upB (-1) 0=false:=by decide
  rw [this,Bool.and_false]
  rfl
 rw [mX hK hN hD ⟨uV _,by rw [hq]; exact aI _, .inl rfl⟩,hm,Int.sub_self]
 simp
def dcF (m:Nat) (c:UInt8):Nat:=10*m+(c.toNat-48)
def dcN (l:List UInt8):Nat:=l.foldl dcF 0
theorem b0j:∀ (l:List UInt8) (m:Nat),l.foldl dcF m=m*10 ^l.length+dcN l
 | [],m=>by simp [dcN]
 | c ::r,m=>by
  unfold dcN
  rw [p0m,p0m,b0j r,b0j r (dcF 0 c)]
  unfold dcF
  rw [A9,v6,x6,x6,<- m7,p4 m (10 ^r.length),wD,K6,aW,p4 10 m,X6 m 10,p4 m (10 ^r.length),X6 (10 ^r.length) m 10,p1c]
theorem W5 (a b:List UInt8):dcN (a++b)=dcN a*10 ^b.length+dcN b:=by
 unfold dcN
 rw [List.foldl_append,b0j b]
 rfl
theorem T0 (c:UInt8) (r:List UInt8):dcN (c ::r)=(c.toNat-48)*10 ^r.length+dcN r:=by
 have:=W5 [c] r
 rw [List.singleton_append] at this
 rw [this]
 unfold dcN dcF
 rw [p0m,List.foldl_nil,wD,aW]
theorem rS:∀ n:Nat,dcN (zO6 n 48)=0
 | 0=>rfl
 | n+1=>by
  rw [t1k,T0,rS n]
  show (48-48)*_+0=0
  rw [sW,K6]
theorem P4 {c:UInt8} {r:List UInt8} (h:s7 (c ::r)=true):(48<=c.toNat∧c.toNat<=57)∧s7 r=true:=
 ⟨allDB_mem.1 h c kG,allDB_mem.2 fun b hb=>allDB_mem.1 h b (W2 _ hb)⟩
theorem e1n:∀ {l:List UInt8},s7 l=true->R6 l∧dgN l=dcN l
 | [],_=>⟨rfl,rfl⟩
 | c ::r,h=>by
  obtain⟨h1,h2⟩:=P4 h
  obtain⟨h3,h4⟩:=e1n h2
  obtain⟨h5,h6⟩:=tF h1 h3
  exact⟨h5,by rw [h6,h4,T0]⟩
theorem bF:∀ l:List UInt8,l=zO6 (l.length- (d8 l).length) 48++d8 l
 | [] =>rfl
 | c ::r=>by
  unfold d8
  by_cases h:c=48
  ·rw [i6 h]
   have h1:=bF r
   have h2:=A0 r
   rw [A9,show r.length+1- (d8 r).length=r.length- (d8 r).length+1 by omega,t1k,oQ,<- h1,h]
  ·rw [a8 h,sW]
   rfl
theorem f1o (t:List UInt8):t=O8 t++zO6 (t.length- (O8 t).length) 48:=by
 have h:=G7 List.reverse (bF t.reverse)
 rw [List.reverse_reverse,List.reverse_append,List.reverse_replicate,aR] at h
 unfold O8
 rw [aR]
 exact h
theorem Q4 (l:List UInt8):dcN (d8 l)=dcN l:=by
 have h:=G7 dcN (bF l)
 rw [W5,rS,K6,aW] at h
 exact h.symm
theorem h0a (l:List UInt8):dcN l=dcN (O8 l)*10 ^(l.length- (O8 l).length):=by
 have h:=G7 dcN (f1o l)
 rw [W5,rS,I2,tD] at h
 exact h
theorem j1a:∀ {l:List UInt8},s7 l=true->dcN l < 10 ^l.length
 | [],_=>by decide
 | c ::r,h=>by
  obtain⟨h1,h2⟩:=P4 h
  have h3:=j1a h2
  rw [T0,A9,v6]
  have:(c.toNat-48)*10 ^r.length<=9*10 ^r.length:=s5 _ (by omega)
  omega
theorem v1t {l:List UInt8} {c:UInt8} {r:List UInt8} (h:s7 l=true) (ht:d8 l=c ::r):10 ^r.length<=dcN l:=by
 rw [<- Q4,ht,T0]
 have hc:=L3 ht
 have h1:=allDB_mem.1 h c (F2 (by rw [ht]; exact kG))
 have h2:c.toNat≠48:=fun e=>hc (zzA135.1 e)
 have:1*10 ^r.length<=(c.toNat-48)*10 ^r.length:=s5 _ (by omega)
 omega
def pN (B:Nat) (x:Int):Nat:=if 0<=x then B ^x.toNat else 1
def pD (B:Nat) (x:Int):Nat:=if 0<=x then 1 else B ^(-x).toNat
theorem uQ {B:Nat} (hB:0 < B) (x:Int):0 < pD B x:=by
 unfold pD
 split
 ·exact Nat.one_pos
 ·exact x7 hB
theorem u1p {B:Nat} (hB:0 < B) (x:Int):0 < pN B x:=by
 unfold pN
 split
 ·exact x7 hB
 ·exact Nat.one_pos
theorem p1l (B b:Nat) (x:Int):B ^b*pN B x*pD B (x+b)=pN B (x+b)*pD B x:=by
 unfold pN pD
 by_cases h:0<=x
 ·rw [i6 h,i6 h,i6 (show 0<=x+(b:Int) by omega),i6 (show 0<=x+(b:Int) by omega),<- m9,show b+x.toNat=(x+(b:Int)).toNat by omega]
 ·rw [a8 h,a8 h]
  by_cases h2:0<=x+(b:Int)
  ·rw [i6 h2,i6 h2,<- m9,show (x+(b:Int)).toNat+(-x).toNat=b by omega,y8,y8]
  ·rw [a8 h2,a8 h2,y8,rK,<- m9,show b+(-(x+(b:Int))).toNat=(-x).toNat by omega]
def dcW (K:Nat) (L:Int) (n:Nat) (e:Int):Nat:=rwd K L (n*pN 10 e) (pD 10 e)
theorem p1o {K:Nat} {L:Int} {e:Int} :dcW K L 0 e=0:=by
 unfold dcW
 rw [K6]
 rfl
theorem k1c {K:Nat} {L:Int} (hK:0 < K) (n b:Nat) (e:Int):dcW K L (n*10 ^b) e=dcW K L n (e+b):=by
 unfold dcW
 refine h1d hK (uQ (by decide) _) (uQ (by decide) _) ?_
 rw [m7 n,m7 n,p1l,m7]
theorem x1l:2 ^1024<=10 ^400:=by decide+kernel
theorem z1n:2 ^1075 < 10 ^400:=by decide+kernel
theorem g2g {j k n:Nat} {e:Int} (h:10 ^k<=n) (hk:(j:Int)<=(k:Int)+e):10 ^j*pD 10 e<=n*pN 10 e:=by
 refine u7 ?_ (s5 _ h)
 unfold pD pN
 by_cases he:0<=e
 ·rw [i6 he,i6 he,<- m9,y8]
  exact y9 (by decide) (by omega)
 ·rw [a8 he,a8 he,<- m9,y8]
  exact y9 (by decide) (by omega)
theorem i2b {T j k n:Nat} {e:Int} (hT:T<=10 ^j) (h:10 ^k<=n) (hk:(j:Int)<=(k:Int)+e):pD 10 e*T<=n*pN 10 e:=by
 refine u7 ?_ (g2g h hk)
 rw [p4]
 exact s5 _ hT
theorem d2a {n:Nat} {k:Nat} {e:Int} (h:10 ^k<=n) (hk:400<=(k:Int)+e):9218868437227405312<=dcW 53 (-1074) n e:=c2b (uQ (by decide) _) (i2b x1l h hk)
theorem g2f {m k:Nat} (h:m<=k):2 ^m<=2 ^k:=y9 (by decide) h
theorem r0k {n a b T:Nat} (h:n < a) (h2:b < T):n*b < a*T:=Nat.mul_lt_mul'' h h2
theorem z1j {n k j:Nat} {b T:Nat} (hT:T=10 ^j) (h:n < 10 ^k) (h8:b < T):n*b < 10 ^(k+j):=by
 rw [m9,<- hT]
 exact r0k h h8
theorem i1p {K:Nat} {L:Int} (hK:0 < K) (hL: -1074<=L∧L<=0) {n:Nat} {k:Nat} {e:Int} (h:n < 10 ^k) (hk:(k:Int)+e<=-400):dcW K L n e=0:=by
 refine k1r hK hL.2 ?_
 have h8:=A5 (g2f (m:=(-L).toNat+1) (k:=1075) (by omega)) z1n
 unfold pN pD
 rw [a8 (by omega),a8 (by omega),y8]
 have h7:10 ^(k+400)<=10 ^(-e).toNat:=y9 (by decide) (by omega)
 refine B9 ?_ h7
 exact z1j rfl h h8
theorem a1o:dgN [49] =1:=by decide
theorem g2x {d:List UInt8} {e:Int} (hd:s7 d=true) (hl:d.length<=8192):neW d e=min (dcW 53 (-1074) (dcN d) e) 9218868437227405312∧neE d e=0:=by
 have hT:s7 (d8 d)=true:=allDB_mem.2 fun b hb=>allDB_mem.1 hd b (F2 hb)
 have hle:=A0 d
 unfold neW neE
 by_cases h0:d8 d=[]
 ·rw [i6 h0,i6 h0,<- Q4,h0]
  refine⟨?_,rfl⟩
  show 0=min (dcW 53 (-1074) 0 e) _
  rw [p1o,Nat.zero_min]
 ·rw [a8 h0,a8 h0]
  obtain⟨c,r,hcr⟩:∃ c r,d8 d=c ::r:=by
   cases h:d8 d with
   | nil=>exact absurd h h0
   | cons c r=>exact⟨c,r,rfl⟩
  have hlen:(d8 d).length=r.length+1:=by rw [hcr]; rfl
  have hge:=v1t hd hcr
  have hlt:=j1a hT
  rw [Q4] at hlt
  by_cases h1:400 < neQ d e
  ·rw [i6 h1,i6 h1]
   unfold neQ at h1
   exact⟨(jJ (d2a hge (by omega))).symm,rfl⟩
  ·rw [a8 h1,a8 h1]
   by_cases h2:neQ d e < -400
   ·rw [i6 h2,i6 h2]
    unfold neQ at h2
    rw [i1p (by decide) ⟨by decide,by decide⟩ hlt (by omega),Nat.zero_min]
    exact⟨rfl,rfl⟩
   ·rw [a8 h2,a8 h2]
    unfold neQ at h1 h2
    have hb:=l0q (t:=d8 d)
    have hmE:mdE (d8 d) e=0:=by
     unfold mdE
     rw [K2,a8 h0,a8 (by omega),a8 (by omega)]
    rw [a8 (by rw [hmE]; decide)]
    have hI:mdI (d8 d) e=true:=by
     unfold mdI
     rw [K2,hmE,f9 h0]
     rfl
    have hD:mdD (d8 d) e=mdS (d8 d):=by unfold mdD; rw [i6 hI]
    have hX:mdX (d8 d) e=e+mdB (d8 d):=by unfold mdX; rw [i6 hI]
    have hS:dcN d=dcN (mdS (d8 d))*10 ^(mdB (d8 d)).toNat:=by
     have h3:=h0a (d8 d)
     rw [Q4] at h3
     have h4:mdS (d8 d)=O8 (d8 d):=by unfold mdS; rw [K2]
     have h5:(mdB (d8 d)).toNat=(d8 d).length- (O8 (d8 d)).length:=by
      unfold mdB
      rw [K2,h4]
      omega
     rw [h4,h5]
     exact h3
    obtain⟨c2,r2,hc2,_⟩:=u0v (t:=d8 d) (by rw [K2]; exact h0)
    have hSd:s7 (mdS (d8 d))=true:=allDB_mem.2 fun b hb=>allDB_mem.1 hT b (e1g hb)
    obtain⟨_,hg⟩:=e1n hSd
    refine⟨?_,hmE⟩
    rw [hD,hX]
    unfold raW
    rw [a8 (by rw [hc2]; exact List.cons_ne_nil _ _)]
    have q1:qtN (mdS (d8 d)) (e+mdB (d8 d))=dcN (mdS (d8 d))*pN 10 (e+mdB (d8 d)):=by
     unfold qtN pN
     rw [hg]
     split
     ·rfl
     ·rw [y8]
    have q2:qtD [49] (e+mdB (d8 d))=pD 10 (e+mdB (d8 d)):=by
     unfold qtD pD
     rw [a1o]
     split
     ·rfl
     ·rw [rK]
    have q3:nuW false (qtN (mdS (d8 d)) (e+mdB (d8 d))) (qtD [49] (e+mdB (d8 d)))=kH (qtN (mdS (d8 d)) (e+mdB (d8 d))) (qtD [49] (e+mdB (d8 d))):=rfl
    rw [q3,q1,q2,m1w (uQ (by decide) _)]
    have q4:=k1c (K:=53) (L:= -1074) (by decide) (dcN (mdS (d8 d))) (mdB (d8 d)).toNat e
    rw [<- hS,show e+(((mdB (d8 d)).toNat:Nat):Int)=e+mdB (d8 d) by omega] at q4
    rw [q4]
    rfl
end Go.Proofs.YtbdaebagmmmijaaGreatDoor
namespace Go.Proofs.YtbdaebagmmmijaaGreatDoor
open Go Go.RowKit Ev Wd
def dB (F:Nat->Int) (i:Nat):UInt8:=UInt8.ofNat (48+(F i).toNat%10)
def dgs (F:Nat->Int) (N:Nat):List UInt8:=(List.range N).map (dB F)
def dbI (b:UInt8):Int:=zO2 b.toNat
def dgT (l:List UInt8):List UInt8:=match d8 l with
 | [] =>[55]
 | c ::r=>c ::r
theorem v1q (F:Nat->Int) (i:Nat):(dB F i).toNat=48+(F i).toNat%10:=by
 unfold dB
 rw [b1v]
 exact J5 (by show _ < 256; omega)
theorem u1g {F:Nat->Int} {o i:Nat} (h:0<=F i∧F i < 256):dgR F o i=dbI (dB F i):=by
 unfold dgR dbI
 rw [v1q,x9,U6,i1s (by decide)]
 have e:(F i).tmod 10=(((F i).toNat%10:Nat):Int):=by
  obtain⟨k,hk⟩:∃ k:Nat,F i=(k:Int):=⟨(F i).toNat,by omega⟩
  rw [hk,l4]
  exact (nR k 10).symm
 rw [e,IntKind.wrap_u8]
 show _=((48+(F i).toNat%10:Nat):Int)
 omega
theorem q1g (F:Nat->Int) (i:Nat):dgs F (i+1)=dgs F i++[dB F i] :=by
 unfold dgs
 rw [l0m,bK]
 rfl
theorem m0o (F:Nat->Int) (N:Nat):(dgs F N).length=N:=by unfold dgs; simp
theorem f1x {n:Nat} {m i:Int} (h1:i < n) (h2:i < m):gB n m i=true:=by
 unfold gB
 rw [f9 h1]
 exact f9 h2
theorem v0a {n:Nat} {m i:Int} (h:(n:Int)<=i∨m<=i):gB n m i=false:=by
 unfold gB
 by_cases h1:i < (n:Int)
 ·rw [f9 h1]
  exact d4 (by omega)
 ·rw [d4 h1]
section
variable {F:Nat->Int} {n o:Nat} {m:Nat} (hF:∀ i,i < n->0<=F i∧F i < 256) (hm:m<=1000)
def sG (F:Nat->Int) (n o m:Nat) (i:Nat):St:=if i=0 then tGz F n o m 0 else tGn F n o m ((dgs F i).map dbI) i (i:Int)
include hF hm in
theorem z1q:b9 XDg cD1 (tGz F n o m 0) (.exit 0) (sG F n o m (min n m)):=by
 have h:=v7 (X:=XDg) (c:=cD1) (sG F n o m) (min n m) (x:= .exit 0) (s':=sG F n o m (min n m)) (by intro e; cases e) (fun i hi=> ?_) ?_
 ·exact h
 ·have hin:i < n:=by omega
  have him:i < m:=by omega
  have hd:=hF i hin
  unfold sG
  rw [a8 (by omega:¬i+1=0),q1g,bK]
  by_cases h0:i=0
  ·subst h0
   rw [i6 rfl]
   have:=n1y F n o m ⟨⟨by decide,by decide⟩,by rw [x9]; exact k0w (o:=o) (i:=0) (sz:=1) (by decide) hin,⟨⟨by decide,by omega⟩,hin⟩,f1x (by omega) (by omega),a7⟩
   rw [u1g hd] at this
   exact this
  ·rw [a8 h0]
   have hl:((dgs F i).map dbI).length=i:=by rw [z6,m0o]
   have:=v1w F n o m ((dgs F i).map dbI) i i ⟨by rw [hl]; exact⟨y8 _,by omega,by omega⟩,by rw [x9,U6]; exact k0w (by decide) hin,⟨⟨by omega,by omega⟩,by omega⟩,f1x (by omega) (by omega),a7⟩
   rw [u1g hd,F5 (by omega)] at this
   exact this
 ·unfold sG
  by_cases h0:min n m=0
  ·rw [i6 h0]
   exact b2e F n o m ⟨v0a (by omega),a7⟩
  ·rw [a8 h0]
   exact g2s F n o m _ _ _ ⟨v0a (by omega),a7⟩
end
theorem tB {l:List UInt8} :d8 l=l.drop (l.length- (d8 l).length):=by
 have h:=bF l
 conv=>rhs; rw [h]
 rw [List.drop_append_of_le_length (by rw [tD,<- h]; exact d5 _),sL (by rw [tD,<- h]; exact d5 _),nH]
theorem h1o {l:List UInt8} {j:Nat} (hj:j < l.length):zB (l.map dbI) j=decide (l[j] =48):=by
 unfold zB
 rw [x9,I2,mE,N6,q0r hj]
 show (dbI l[j] ==48)=_
 by_cases h:l[j] =48
 ·rw [h]; rfl
 ·rw [d4 h]
  refine s6 fun e=>h ?_
  have e:((l[j].toNat:Nat):Int)=48:=e
  exact zzA135.1 (show l[j].toNat=48 by omega)
theorem c1r {l:List UInt8} {j:Nat} (hj:j < l.length- (d8 l).length):∃ h:j < l.length,l[j] =48:=by
 refine⟨by omega,?_⟩
 have h:=bF l
 have h2:l[j]? =some 48:=by
  rw [h,y0i (by rw [tD]; exact hj),s0e,i6 hj]
 rw [q0r (by omega)] at h2
 exact J8 h2
section
variable (F:Nat->Int) (n o:Nat) (l:List UInt8) (hl:l.length<=1000)
include hl
theorem c2w {c:UInt8} {r:List UInt8} (ht:d8 l=c ::r):b9 XDg cD2 (tHn F n o (l.map dbI) l.length 0) (.exit 2) (tHn F n o (l.map dbI) (c ::r).length (l.length- (c ::r).length)):=by
 have hle:=A0 l
 rw [ht] at hle
 have hlm:(l.map dbI).length=l.length:=z6 _
 have hrl:(c ::r).length=r.length+1:=rfl
 have h:=v7 (X:=XDg) (c:=cD2) (fun j=>tHn F n o (l.map dbI) (l.length-j) j) (l.length- (c ::r).length) (x:= .exit 2) (s':=tHn F n o (l.map dbI) (c ::r).length (l.length- (c ::r).length)) (by intro e; cases e) (fun j hj=> ?_) ?_
 ·exact h
 ·obtain⟨hj2,h48⟩:=c1r (l:=l) (j:=j) (by rw [ht]; exact hj)
  obtain⟨k,hk⟩:∃ k,l.length-j=k+2:=⟨l.length-j-2,by omega⟩
  have hz:zB (l.map dbI) j=true:=by rw [h1o hj2]; exact f9 h48
  have:=j2i F n o (l.map dbI) k j ⟨⟨by omega,by decide,by omega, .inr (by omega),by omega⟩,by unfold zC kB; rw [f9 (by omega)]; exact hz,fun _=>by rw [x9]; omega,fun _=>⟨⟨by decide,by omega⟩,by omega⟩,a7⟩
  rw [x9] at this
  show r7 XDg cD2 (tHn F n o (l.map dbI) (l.length-j) j) .normal (tHn F n o (l.map dbI) (l.length- (j+1)) (j+1))
  rw [hk,show l.length- (j+1)=k+1 by omega]
  exact this
 ·show r7 XDg cD2 (tHn F n o (l.map dbI) (l.length- (l.length- (c ::r).length)) (l.length- (c ::r).length)) (.exit 2) _
  rw [show l.length- (l.length- (c ::r).length)=(c ::r).length by omega]
  have hj2:l.length- (c ::r).length < l.length:=by omega
  have hg:l[l.length- (c ::r).length] =c:=by
   have h1:=tB (l:=l)
   rw [ht,m0x hj2] at h1
   injection h1 with h1 _
   exact h1.symm
  have hz:zB (l.map dbI) (l.length- (c ::r).length)=false:=by
   rw [h1o hj2,hg]
   exact d4 (L3 ht)
  exact n2l F n o (l.map dbI) _ _ ⟨by unfold zC kB; rw [f9 (by omega)]; exact hz,fun _=>by rw [x9]; omega,fun _=>⟨⟨by decide,by omega⟩,by omega⟩,a7⟩
theorem p1v (h0:l≠[]) (ht:d8 l=[]):b9 XDg cD2 (tHn F n o (l.map dbI) l.length 0) (.exit 2) (tHe F n o (l.map dbI) (l.length-1)):=by
 have hlm:(l.map dbI).length=l.length:=z6 _
 have hp:0 < l.length:=List.length_pos_iff.2 h0
 have h:=v7 (X:=XDg) (c:=cD2) (fun j=>if j < l.length then tHn F n o (l.map dbI) (l.length-j) j else tHe F n o (l.map dbI) (l.length-1)) l.length (x:= .exit 2) (s':=tHe F n o (l.map dbI) (l.length-1)) (by intro e; cases e) (fun j hj=> ?_) ?_
 ·simp only [i6 hp,y0d] at h
  exact h
 ·obtain⟨hj2,h48⟩:=c1r (l:=l) (j:=j) (by rw [ht]; exact hj)
  have hz:zB (l.map dbI) j=true:=by rw [h1o hj2]; exact f9 h48
  simp only [i6 hj]
  by_cases h1:j+1 < l.length
  ·rw [i6 h1]
   obtain⟨k,hk⟩:∃ k,l.length-j=k+2:=⟨l.length-j-2,by omega⟩
   have:=j2i F n o (l.map dbI) k j ⟨⟨by omega,by decide,by omega, .inr (by omega),by omega⟩,by unfold zC kB; rw [f9 (by omega)]; exact hz,fun _=>by rw [x9]; omega,fun _=>⟨⟨by decide,by omega⟩,by omega⟩,a7⟩
   rw [x9] at this
   rw [hk,show l.length- (j+1)=k+1 by omega]
   exact this
  ·rw [a8 h1,show l.length-j=1 by omega,show l.length-1=j by omega]
   exact b2l F n o (l.map dbI) j ⟨⟨rfl,by rw [z6]; omega⟩,hz,fun _=>by rw [x9]; omega,fun _=>⟨⟨by decide,by decide⟩,by omega⟩,a7⟩
 ·simp only [a8 (m0r _)]
  exact s2n F n o _ _
end
theorem s1k (l:List UInt8):(l.map dbI).map (fun (n:Int)=>UInt8.ofNat n.toNat)=l:=by
 rw [zU]
 conv=>rhs; rw [<- List.map_id l]
 refine v0d fun b _=> ?_
 show UInt8.ofNat ((b.toNat:Int)).toNat=b
 rw [l4]
 exact UInt8.ofNat_toNat
theorem x0n {F:Nat->Int} {n o m:Nat} (hF:∀ i,i < n->0<=F i∧F i < 256) (hm:m<=1000):Ev.Sem zO8 J0 8 [dgA F n o,iR m] [tR (dgT (dgs F (min n m)))] :=by
 have h1:=z1q (o:=o) hF hm
 have hN:(dgs F (min n m)).length=min n m:=m0o _ _
 unfold sG at h1
 by_cases h0:min n m=0
 ·rw [i6 h0] at h1
  have e:dgT (dgs F (min n m))=[55] :=by rw [h0]; rfl
  rw [e]
  exact l6 X4 10 _ _ (n2y F n o m _) ⟨rfl,n1q F n o m (v7 (fun _=>tHz F n o) 0 (by intro e; cases e) (fun k hk=>absurd hk (Nat.not_lt_zero k)) (r2q F n o)),r0i F n o m _ h1,rfl,a7⟩
 ·rw [a8 h0] at h1
  have hne:dgs F (min n m)≠[] :=by
   intro e
   rw [e] at hN
   exact h0 hN.symm
  cases ht:d8 (dgs F (min n m)) with
  | nil=>
   have e:dgT (dgs F (min n m))=[55] :=by unfold dgT; rw [ht]
   rw [e]
   have h2:=p1v F n o (dgs F (min n m)) (by rw [hN]; omega) hne ht
   rw [hN] at h2
   exact l6 X4 10 _ _ (m2y F n o m _ (min n m) (min n m-1) (min n m) _) ⟨rfl,k1k F n o m _ _ _ h2,r0i F n o m _ h1,rfl,a7⟩
  | cons c r=>
   have e:dgT (dgs F (min n m))=c ::r:=by unfold dgT; rw [ht]
   rw [e]
   have h2:=c2w F n o (dgs F (min n m)) (by rw [hN]; omega) ht
   have h3:=tB (l:=dgs F (min n m))
   rw [ht] at h3
   have hd:((dgs F (min n m)).map dbI).drop ((dgs F (min n m)).length- (c ::r).length)=(c ::r).map dbI:=by rw [<- eI,<- h3]
   have hw:=p2a F n o m ((dgs F (min n m)).map dbI) (min n m) ((dgs F (min n m)).length- (c ::r).length) (min n m) (c ::r) (c ::r).length
   rw [hd,s1k] at hw
   rw [hN] at h2 hw
   refine l6 X4 10 _ _ hw ⟨by rw [z6],?_,k1k F n o m _ _ _ h2,r0i F n o m _ h1,rfl,a7⟩
   unfold nB
   exact s6 (by rw [A9]; omega)
def dgU (n:Nat):UInt8:=UInt8.ofNat (48+n)
def inF:Nat->Nat->List UInt8
 | 0,n=>[dgU n]
 | f+1,n=>if n < 10 then [dgU n] else inF f (n/10)++[dgU (n%10)]
def fJ (n:Nat):List UInt8:=inF n n
def S3 (e:Int):List UInt8:=if e < 0 then 45 ::fJ (-e).toNat else fJ e.toNat
theorem s0m:∀ (f g n:Nat),n<=f->n<=g->inF f n=inF g n
 | 0,0,n,_,_=>rfl
 | 0,g+1,n,h,_=>by
  obtain rfl:n=0:=by omega
  rfl
 | f+1,0,n,_,h=>by
  obtain rfl:n=0:=by omega
  rfl
 | f+1,g+1,n,h1,h2=>by
  unfold inF
  by_cases h:n < 10
  ·rw [i6 h,i6 h]
  ·rw [a8 h,a8 h,s0m f g (n/10) (by omega) (by omega)]
theorem p0c (n:Nat):fJ n=if n < 10 then [dgU n] else fJ (n/10)++[dgU (n%10)] :=by
 unfold fJ
 by_cases h:n < 10
 ·rw [i6 h]
  cases n with
  | zero=>rfl
  | succ n=>unfold inF; rw [i6 h]
 ·rw [a8 h]
  cases n with
  | zero=>omega
  | succ n=>
   rw [show inF (n+1) (n+1)=inF n ((n+1)/10)++[dgU ((n+1)%10)] from by
    conv=>lhs; unfold inF
    rw [a8 h]]
   rw [s0m n ((n+1)/10) ((n+1)/10) (by omega) (d5 _)]
theorem c1l:∀ f n,(inF f n).length<=f+1
 | 0,_=>d5 _
 | f+1,n=>by
  unfold inF
  split
  ·simp
  ·rw [F6]
   have:=c1l f (n/10)
   simp
   omega
theorem dW (n:Nat):(fJ n).length<=n+1:=c1l n n
def e1i (B:Int):List Value->Option (Value×List Prop)
 | [.int .i64 e] =>some (.string ⟨⟨S3 e⟩⟩,[0<=e∧e < B])
 | _=>none
def n2k (B:Int):Tab:=l7 36 (e1i B) z1h
def bIn (B:Int):Base:=⟨zO8,J0,false,n2k B,D1,200,J2⟩
def dgc (e:Int):UInt8:=UInt8.ofNat (uB.wrap (iI.wrap (48+e))).toNat
section
variable (B e:Int)
theorem s2l:b7 XDg [] 200 36 [.int .i64 e] [false,true] =some (.string ⟨⟨[dgc e]⟩⟩,[decide (e < 10)=true,decide (e < 0)=false]):=by kernel_rfl
theorem r2n:b7 ((bIn B).cx 10) [] 200 36 [.int .i64 e] [false,false] =some (.string ⟨⟨S3 (iI.wrap (e.tdiv 10))++[dgc (e.tmod 10)]⟩⟩,[(S3 (iI.wrap (e.tdiv 10))).length+1<=9223372036854775807,0<=iI.wrap (e.tdiv 10)∧iI.wrap (e.tdiv 10) < B,decide (e < 10)=false,decide (e < 0)=false]):=by kernel_rfl
theorem r2w:b7 ((bIn B).cx 10) [] 200 36 [.int .i64 e] [true] =some (.string ⟨⟨45 ::S3 (iI.wrap (0-e))⟩⟩,[1+(S3 (iI.wrap (0-e))).length<=9223372036854775807,0<=iI.wrap (0-e)∧iI.wrap (0-e) < B,decide (e < 0)=true]):=by kernel_rfl
end
theorem v1l {n:Nat} (h:n < 10):dgc (n:Int)=dgU n:=by
 unfold dgc dgU
 have h1:iI.wrap (48+(n:Int))=48+(n:Int):=gW (by omega) (by omega)
 rw [h1,IntKind.wrap_u8]
 congr 1
 omega
theorem kU (n:Nat):S3 (n:Int)=fJ n:=by
 unfold S3
 rw [a8 (by omega),l4]
theorem tX:∀ (k:Nat),k<=8->∀ n:Nat,n < 10 ^k->Ev.Pure zO8 J0 36 [.int .i64 (n:Int)] (.string ⟨⟨fJ n⟩⟩)
 | k,hk,n,hn=>by
  by_cases h:n < 10
  ·rw [p0c,i6 h]
   have:=s2l (n:Int)
   rw [v1l h] at this
   exact g9 X4 10 _ _ this ⟨f9 (by omega),d4 (by omega),a7⟩
  ·cases k with
   | zero=>omega
   | succ k=>
    have hok:BaseOk (bIn ((10 ^k:Nat):Int)):=by
     refine⟨progOk,b8 (fun args v l hs hl=> ?_) (gJ _ _),n8 _ _,m4⟩
     unfold e1i at hs
     split at hs
     ·cases hs
      rename_i e
      obtain⟨h1,h2⟩:=hl.1
      obtain⟨m,rfl⟩:∃ m:Nat,e=(m:Int):=⟨e.toNat,by omega⟩
      rw [kU]
      exact tX k (by omega) m (by omega)
     ·cases hs
    have hn8:n < 100000000:=B9 hn (y9 (n:=10) (by decide) hk)
    have hq:iI.wrap ((n:Int).tdiv 10)=((n/10:Nat):Int):=by
     rw [show (n:Int).tdiv 10=((n/10:Nat):Int) from (zM n 10).symm]
     exact gW (by omega) (by omega)
    have hr:(n:Int).tmod 10=((n%10:Nat):Int):=(nR n 10).symm
    have:=r2n ((10 ^k:Nat):Int) (n:Int)
    rw [hq,hr,v1l (by omega),kU] at this
    have hlen:=dW (n/10)
    rw [p0c,a8 h]
    have hlt:n/10 < 10 ^k:=by
     rw [v6] at hn
     omega
    exact g9 hok 10 _ _ this ⟨by omega,⟨by omega,by omega⟩,d4 (by omega),d4 (by omega),a7⟩
theorem m1a {e:Int} (h: -100000000 < e∧e < 100000000):Ev.Pure zO8 J0 36 [.int .i64 e] (.string ⟨⟨S3 e⟩⟩):=by
 have hok:BaseOk (bIn 100000000):=by
  refine⟨progOk,b8 (fun args v l hs hl=> ?_) (gJ _ _),n8 _ _,m4⟩
  unfold e1i at hs
  split at hs
  ·cases hs
   rename_i e
   obtain⟨h1,h2⟩:=hl.1
   obtain⟨m,rfl⟩:∃ m:Nat,e=(m:Int):=⟨e.toNat,by omega⟩
   rw [kU]
   exact tX 8 (d5 _) m (by omega)
  ·cases hs
 by_cases h0:e < 0
 ·have hw:iI.wrap (0-e)=(((-e).toNat:Nat):Int):=by rw [gW (by omega) (by omega)]; omega
  have:=r2w 100000000 e
  rw [hw,kU] at this
  have e1:S3 e=45 ::fJ (-e).toNat:=by unfold S3; rw [i6 h0]
  have hlen:=dW (-e).toNat
  rw [e1]
  exact g9 hok 10 _ _ this ⟨by omega,⟨by omega,by omega⟩,f9 h0,a7⟩
 ·obtain⟨m,rfl⟩:∃ m:Nat,e=(m:Int):=⟨e.toNat,by omega⟩
  rw [kU]
  exact tX 8 (d5 _) m (by omega)
def b1d:List Value->Option (Value×List Prop)
 | [.int .i64 e] =>some (.string ⟨⟨S3 e⟩⟩,[-100000000 < e∧e < 100000000])
 | _=>none
theorem c1h (args:List Value) (v:Value) (l:List Prop) (h:b1d args=some (v,l)) (hl:d9 l):Ev.Pure zO8 J0 36 args v:=by
 unfold b1d at h
 split at h
 ·cases h
  exact m1a hl.1
 ·cases h
def v1c:Tab:=l7 36 b1d z1h
theorem i1b:R8 zO8 J0 v1c:=b8 c1h (gJ _ _)
def bDg1:Base:=⟨zO8,J0,false,v1c,D1,200,J2⟩
theorem f1a:BaseOk bDg1:=⟨progOk,i1b,n8 _ _,m4⟩
abbrev q2q:Cx:=bDg1.cx 10
def xpV (e:Int) (m:Nat):Int:=if e < 0 then -(((-(e+1)).toNat%(m+1):Nat):Int) else ((e.toNat%(m+1):Nat):Int)
def xpM (e m:Int):Int:=iI.wrap (0- (iI.wrap (0-iI.wrap (e+1))).tmod (iI.wrap (m+1)))
def xpP (e m:Int):Int:=e.tmod (iI.wrap (m+1))
section
variable (e m:Int)
theorem t2i:b7 q2q [] 200 9 [.int .i64 e, .int .i64 m] [true,true] =some (.string ⟨⟨S3 (xpM e m)⟩⟩,[-100000000 < xpM e m∧xpM e m < 100000000,decide (e < 0)=true,iI.wrap (m+1)=0->False,decide (e < 0)=true]):=by kernel_rfl
theorem s2u:b7 q2q [] 200 9 [.int .i64 e, .int .i64 m] [false,false] =some (.string ⟨⟨S3 (xpP e m)⟩⟩,[-100000000 < xpP e m∧xpP e m < 100000000,decide (e < 0)=false,iI.wrap (m+1)=0->False,decide (e < 0)=false]):=by kernel_rfl
end
theorem a1v {e:Int} {m:Nat} (he: -9223372036854775808<=e∧e<=9223372036854775807) (hm:m<=1000):Ev.Pure zO8 J0 9 [.int .i64 e, .int .i64 (m:Int)] (.string ⟨⟨S3 (xpV e m)⟩⟩):=by
 have hm1:iI.wrap ((m:Int)+1)=((m+1:Nat):Int):=by rw [gW (by omega) (by omega)]; omega
 have hlt:∀ k:Nat,k%(m+1) < m+1:=fun k=>C7 _ (Nat.succ_pos m)
 by_cases h0:e < 0
 ·have e1:iI.wrap (0-iI.wrap (e+1))=(((-(e+1)).toNat:Nat):Int):=by
   rw [gW (n:=e+1) (by omega) (by omega),gW (by omega) (by omega)]
   omega
  have e2:xpM e m=xpV e m:=by
   unfold xpM xpV
   rw [e1,hm1,i6 h0,show ((((-(e+1)).toNat:Nat):Int)).tmod ((m+1:Nat):Int)=(((-(e+1)).toNat%(m+1):Nat):Int) from (nR _ _).symm]
   have:=hlt (-(e+1)).toNat
   rw [gW (by omega) (by omega)]
   omega
  have:=t2i e m
  rw [e2] at this
  have hr: -100000000 < xpV e m∧xpV e m < 100000000:=by
   unfold xpV
   rw [i6 h0]
   have:=hlt (-(e+1)).toNat
   omega
  exact g9 f1a 10 _ _ this ⟨hr,f9 h0,by rw [hm1]; intro h; omega,f9 h0,a7⟩
 ·have e2:xpP e m=xpV e m:=by
   unfold xpP xpV
   rw [hm1,a8 h0]
   obtain⟨k,hk⟩:∃ k:Nat,e=(k:Int):=⟨e.toNat,by omega⟩
   rw [hk,l4]
   exact (nR _ _).symm
  have:=s2u e m
  rw [e2] at this
  have hr: -100000000 < xpV e m∧xpV e m < 100000000:=by
   unfold xpV
   rw [a8 h0]
   have:=hlt e.toNat
   omega
  exact g9 f1a 10 _ _ this ⟨hr,d4 h0,by rw [hm1]; intro h; omega,d4 h0,a7⟩
theorem g0e (e:Int) (m:Nat): -(m:Int)<=xpV e m∧xpV e m<=(m:Int):=by
 have hlt:∀ k:Nat,k%(m+1) < m+1:=fun k=>C7 _ (Nat.succ_pos m)
 unfold xpV
 split
 ·have:=hlt (-(e+1)).toNat
  omega
 ·have:=hlt e.toNat
  omega
open Go Go.RowKit Ev Wd VaS
def f1c:Tab:=l7 136 kM j1b
theorem h0g:R8 zO8 J0 f1c:=b8 nN j0x
def bRo6:Base:=⟨zO8,J0,false,f1c,mG,200,J2⟩
theorem cN:BaseOk bRo6:=⟨progOk,h0g,X1,m4⟩
abbrev l1m:Cx:=bRo6.cx 10
def cBi:Code:=A3 zO8 82 0
def tBi (d:List UInt8) (e p l m:Int) (r:Bool) (i:Int):St:=⟨only 98 [(0, .string ⟨⟨d⟩⟩),(1, .int .i64 e),(2, .int .i64 p),(3, .int .i64 l),(8, .float .f64 0),(9, .int .u64 m),(10, .bool r),(18, .string ⟨⟨d⟩⟩),(19, .int .i64 d.length),(20, .int .i64 i)],J0.tabs,11,[],[],0,none,[],11⟩
def bim (d:List UInt8) (m i:Int):Int:=uI.wrap ((zO11 uI.bits (uI.wrap (m*2 ^min (Int.toNat 4) uI.bits))||| zO11 uI.bits (uI.wrap (p8 (chI d i)))).toNat:Nat)
def bir (d:List UInt8) (r:Bool) (i:Int):Bool:=match r with | true=>true | false=>chI d i !=48
section
variable (d:List UInt8) (e p l m:Int) (r:Bool) (i:Int)
theorem f2v (hl:d9 [0<=chI d i∧chI d i < 256,0<=i∧i.toNat < d.length,decide (i < 16)=true,decide (i < (d.length:Int))=true]):r7 l1m cBi (tBi d e p l m r i) .normal (tBi d e p l (bim d m i) r (iI.wrap (i+1))):=
 d6 (a6 cN 10).1 progOk.mixed [] 200 [true,true] [] (by kernel_rfl) hl (by kernel_rfl) (by kernel_rfl)
theorem c2k (hl:d9 [B8 [(1,r)] [(1,false)] ->0<=i∧i.toNat < d.length,decide (i < 16)=false,decide (i < (d.length:Int))=true]):r7 l1m cBi (tBi d e p l m r i) .normal (tBi d (iI.wrap (e+4)) p l m (bir d r i) (iI.wrap (i+1))):=
 d6 (a6 cN 10).1 progOk.mixed [] 200 [true,false] [] (by kernel_rfl) hl (by kernel_rfl) (by kernel_rfl)
theorem i2s (hl:d9 [decide (i < (d.length:Int))=false]):r7 l1m cBi (tBi d e p l m r i) (.exit 0) (tBi d e p l m r i):=
 d6 (a6 cN 10).1 progOk.mixed [] 200 [false] [] (by kernel_rfl) hl (by kernel_rfl) (by kernel_rfl)
theorem z1v {x:AX} {s':St} (ds:List Bool) (h:b9 l1m cBi (tBi d e p l 0 false 0) x s'):b9 l1m cBi (t7 l1m 200 82 [.string ⟨⟨d⟩⟩, .int .i64 e, .int .i64 p, .int .i64 l] J0.tabs zO8.globals.size ds) x s':=
 l9 h [] (by kernel_rfl) (by kernel_rfl) (by kernel_rfl)
end
def bzN (M:Int):Int:=iI.wrap (64-F8 M)
def bzE (E M:Int):Int:=iI.wrap (E-bzN M)
def bzU (E M p l:Int):Int:=if iI.wrap (iI.wrap (bzE E M+64)-p) < l then l else iI.wrap (iI.wrap (bzE E M+64)-p)
def bzO (E M p l:Int):Int:=iI.wrap (bzU E M p l-bzE E M)
def bzM (M:Int):Int:=uI.wrap (M*2 ^min (bzN M).toNat uI.bits)
def bqQ (E M p l:Int):Int:=(bzM M).fdiv (2 ^min (bzO E M p l).toNat uI.bits)
def bqL (E M p l:Int):Int:=uI.wrap (bzM M-uI.wrap (bqQ E M p l*2 ^min (bzO E M p l).toNat uI.bits))
def bqH (E M p l:Int):Int:=uI.wrap (1*2 ^min (iI.wrap (bzO E M p l-1)).toNat uI.bits)
def bUp (left half q:Int) (R:Bool):Bool:=match decide (left > half) with | true=>true | false=>match left==half with | true=>(match R with | true=>true | false=>Int.tmod q 2==1) | false=>false
abbrev loB (d:List UInt8) (e p l E M:Int) (R:Bool) (i:Int) (ds:List Bool):Prop:=b9 l1m cBi (t7 l1m 200 82 [.string ⟨⟨d⟩⟩, .int .i64 e, .int .i64 p, .int .i64 l] J0.tabs zO8.globals.size ds) (.exit 0) (tBi d E p l M R i)
abbrev biC (d:List UInt8) (e p l E M:Int) (R:Bool) (i:Int) (ds:List Bool):=b7 l1m [N5 (.exit 0) (fun _=>tBi d E p l M R i)] 200 82 [.string ⟨⟨d⟩⟩, .int .i64 e, .int .i64 p, .int .i64 l] ds
section
variable (d:List UInt8) (e p l E M:Int) (R:Bool) (i:Int)
theorem g2w:biC d e p l E M R i [true] =some (.float .f64 0,[decide (64 < bzO E M p l)=true,0<=bzN M,0<=M∧M < 18446744073709551616,loB d e p l E M R i [true]]):=by kernel_rfl
theorem f2z:biC d e p l E M R i [false,false,false] =some (.float .f64 (ldW 0 (bzU E M p l)),[g1x 0 (bzU E M p l),bUp (bzM M) 9223372036854775808 0 R=false,decide (bzO E M p l < 64)=false,decide (64 < bzO E M p l)=false,0<=bzN M,0<=M∧M < 18446744073709551616,loB d e p l E M R i [false,false,false]]):=by kernel_rfl
theorem g2i:biC d e p l E M R i [false,false,true] =some (.float .f64 (ldW (FloatKind.f64.nearest 1) (bzU E M p l)),[g1x (FloatKind.f64.nearest 1) (bzU E M p l),bUp (bzM M) 9223372036854775808 0 R=true,decide (bzO E M p l < 64)=false,decide (64 < bzO E M p l)=false,0<=bzN M,0<=M∧M < 18446744073709551616,loB d e p l E M R i [false,false,true]]):=by kernel_rfl
theorem p2f:biC d e p l E M R i [false,true,false] =some (.float .f64 (ldW (FloatKind.f64.nearest (bqQ E M p l)) (bzU E M p l)),[g1x (FloatKind.f64.nearest (bqQ E M p l)) (bzU E M p l),bUp (bqL E M p l) (bqH E M p l) (bqQ E M p l) R=false,0<=iI.wrap (bzO E M p l-1),0<=bzO E M p l,0<=bzO E M p l,decide (bzO E M p l < 64)=true,decide (64 < bzO E M p l)=false,0<=bzN M,0<=M∧M < 18446744073709551616,loB d e p l E M R i [false,true,false]]):=by kernel_rfl
theorem m2h:biC d e p l E M R i [false,true,true] =some (.float .f64 (ldW (FloatKind.f64.nearest (uI.wrap (bqQ E M p l+1))) (bzU E M p l)),[g1x (FloatKind.f64.nearest (uI.wrap (bqQ E M p l+1))) (bzU E M p l),bUp (bqL E M p l) (bqH E M p l) (bqQ E M p l) R=true,0<=iI.wrap (bzO E M p l-1),0<=bzO E M p l,0<=bzO E M p l,decide (bzO E M p l < 64)=true,decide (64 < bzO E M p l)=false,0<=bzN M,0<=M∧M < 18446744073709551616,loB d e p l E M R i [false,true,true]]):=by kernel_rfl
end
def hxd (c:UInt8):Nat:=(p8 (c.toNat:Int)).toNat
def hxN (l:List UInt8):Nat:=l.foldl (fun m c=>16*m+hxd c) 0
def q1j (l:List UInt8):Prop:=∀ c∈l,p8 (c.toNat:Int) < 16
theorem t1z {c:UInt8} :((hxd c:Nat):Int)=p8 (c.toNat:Int):=by
 unfold hxd
 have:=worth_range (c:=(c.toNat:Int))
 omega
theorem t0c (l:List UInt8) (c:UInt8):hxN (l++[c])=16*hxN l+hxd c:=by
 unfold hxN
 rw [List.foldl_append]
 rfl
theorem a1c {l:List UInt8} (h:q1j l):∀ k,k<=l.length->hxN (l.take k) < 16 ^k:=by
 intro k
 induction k with
 | zero=>intro _; rw [List.take_zero]; exact Nat.one_pos
 | succ k ih=>
  intro hk
  have h1:=ih (by omega)
  rw [List.take_succ_eq_append_getElem (by omega),t0c,v6]
  have h2:=h _ (List.getElem_mem (show k < l.length by omega))
  have h3:=t1z (c:=l[k])
  omega
theorem r2k {m w:Nat} (hw:w < 16):m*16||| w=m*16+w:=by
 have:=j0i (i:=4) (show w < 2 ^4 from hw) m
 rw [kP] at this
 exact this.symm
theorem t1v {m:Nat} (hm:m < 1152921504606846976):m*16 < 18446744073709551616:=by omega
theorem y1p {m w:Nat} (hm:m < 1152921504606846976) (hw:w < 16):m*16+w < 18446744073709551616:=by omega
theorem i2t {d:List UInt8} {m w:Nat} {i:Int} (hm:m < 1152921504606846976) (hw:w < 16) (h:p8 (chI d i)=(w:Int)):bim d (m:Int) i=((16*m+w:Nat):Int):=by
 unfold bim
 rw [h]
 have h3:(m:Int)*2 ^min (Int.toNat 4) uI.bits=((m*16:Nat):Int):=by
  rw [fM]
  rfl
 have hw2:w < 18446744073709551616:=nL hw (by decide)
 rw [h3,s0g (t1v hm),s0g hw2,BitVec.toNat_or,d2u (t1v hm),d2u hw2,r2k hw,s0g (y1p hm hw),p4]
def biS (d:List UInt8) (e p l:Int) (i:Nat):St:=tBi d (e+((4*(i-16):Nat):Int)) p l ((hxN (d.take (min i 16)):Nat):Int) (((d.take i).drop 16).any fun c=>c !=48) (i:Int)
theorem q0w {d:List UInt8} {i:Nat} (hi:i < d.length):chI d (i:Int)=((d[i].toNat:Nat):Int):=by
 show ((d.getD ((i:Int)).toNat 0).toNat:Int)=_
 rw [l4,mE,q0r hi]
 rfl
theorem r2u (c:UInt8):(((c.toNat:Nat):Int) !=48)=(c !=48):=by
 rw [Bool.eq_iff_iff,zzA208,zzA208]
 constructor
 ·intro h e; exact h (by rw [e]; rfl)
 ·intro h e; exact h (zzA135.1 (show c.toNat=48 by omega))
theorem s1h {d:List UInt8} {e p l:Int} (hd:q1j d) (hl:d.length<=140737488351232) (he: -1000000000000000000<=e∧e<=1000000000000000000) {i:Nat} (hi:i < d.length):r7 l1m cBi (biS d e p l i) .normal (biS d e p l (i+1)):=by
 have hc:=q0w hi
 have hlt:d[i].toNat < 256:=d[i].toNat_lt
 have hi1:iI.wrap ((i:Int)+1)=((i+1:Nat):Int):=by rw [wr (by omega) (by omega)]; omega
 have hin:(0:Int)<=(i:Int)∧((i:Int)).toNat < d.length:=⟨w8 _,by rw [l4]; exact hi⟩
 have hlen:decide ((i:Int) < (d.length:Int))=true:=f9 (zzA188.2 hi)
 by_cases h16:i < 16
 ·have:=f2v d (e+((4*(i-16):Nat):Int)) p l ((hxN (d.take (min i 16)):Nat):Int) (((d.take i).drop 16).any fun c=>c !=48) (i:Int) ⟨by rw [hc]; omega,hin,f9 (by omega),hlen,a7⟩
  have hw:=hd _ (List.getElem_mem hi)
  have h3:=t1z (c:=d[i])
  have hm:hxN (d.take i) < 1152921504606846976:=B9 (a1c hd i (by omega)) (by
   have:16 ^i<=16 ^15:=y9 (by decide) (by omega)
   exact this)
  rw [D4 (by omega),i2t (w:=hxd d[i]) hm (by omega) (by rw [hc]; exact h3.symm),hi1] at this
  unfold biS
  rw [D4 (by omega),D4 (by omega),List.take_succ_eq_append_getElem hi,t0c]
  have e1:i+1-16=i-16:=by omega
  have e2:(d.take i++[d[i]]).drop 16=(d.take i).drop 16:=by
   rw [List.drop_eq_nil_of_le (by rw [F6,D5,y0w]; omega),List.drop_eq_nil_of_le (by rw [D5]; omega)]
  rw [e1,e2]
  exact this
 ·have:=c2k d (e+((4*(i-16):Nat):Int)) p l ((hxN (d.take (min i 16)):Nat):Int) (((d.take i).drop 16).any fun c=>c !=48) (i:Int) ⟨fun _=>hin,d4 (by omega),hlen,a7⟩
  have hr:bir d (((d.take i).drop 16).any fun c=>c !=48) (i:Int)=(((d.take i).drop 16).any (fun c=>c !=48) || d[i] !=48):=by
   unfold bir
   rw [hc,r2u]
   cases ((d.take i).drop 16).any (fun c=>c !=48) <;> rfl
  have hE:iI.wrap (e+((4*(i-16):Nat):Int)+4)=e+((4*(i+1-16):Nat):Int):=by
   rw [wr (by omega) (by omega)]
   omega
  rw [hi1,hr,hE,jJ (by omega)] at this
  unfold biS
  rw [jJ (by omega),jJ (by omega),List.take_succ_eq_append_getElem hi,List.drop_append_of_le_length (by rw [D5]; omega),List.any_append]
  rw [show [d[i]].any (fun c=>c !=48)=(d[i] !=48) by simp]
  exact this
theorem a2q {d:List UInt8} {e p l:Int} (hd:q1j d) (hl:d.length<=140737488351232) (he: -1000000000000000000<=e∧e<=1000000000000000000) (ds:List Bool):
  loB d e p l (e+((4*(d.length-16):Nat):Int)) ((hxN (d.take 16):Nat):Int) ((d.drop 16).any fun c=>c !=48) (d.length:Int) ds:=by
 have h:=v7 (biS d e p l) d.length (x:= .exit 0) (by intro e; cases e) (fun i hi=>s1h hd hl he hi) (i2s d _ p l _ _ (d.length:Int) ⟨d4 (iB _),a7⟩)
 have e0:biS d e p l 0=tBi d e p l 0 false 0:=by
  unfold biS
  show tBi d (e+((0:Nat):Int)) p l ((0:Nat):Int) false ((0:Nat):Int)=_
  rw [show e+((0:Nat):Int)=e by omega]
  rfl
 rw [e0,y3] at h
 have e1:d.take (min d.length 16)=d.take 16:=by
  rw [Nat.min_comm,<- List.take_take,y3]
 rw [e1] at h
 exact z1v d e p l ds h
def biX (M:Nat):Nat:=M*2 ^(64-bl M)
def biE (M:Nat) (E:Int):Int:=E- ((64-bl M:Nat):Int)
def biU (M:Nat) (E p l:Int):Int:=if biE M E+64-p < l then l else biE M E+64-p
def biO (M:Nat) (E p l:Int):Int:=biU M E p l-biE M E
def upT (X o:Nat) (R:Bool):Bool:=decide (2 ^(o-1) < X%2 ^o) || (decide (X%2 ^o=2 ^(o-1)) && (R || decide (X/2 ^o%2=1)))
def biQ (X o:Nat) (R:Bool):Nat:=if upT X o R=true then X/2 ^o+1 else X/2 ^o
def biW (M:Nat) (R:Bool) (E p l:Int):Nat:=if 64 < biO M E p l then 0 else ldW (qQ (biQ (biX M) (biO M E p l).toNat R)) (biU M E p l)
theorem jL {M:Nat} (h0:0 < M) (h:M < 18446744073709551616):9223372036854775808<=biX M∧biX M < 18446744073709551616∧1<=bl M∧bl M<=64:=by
 have h1:0 < bl M:=bl_ge.2 (by show 1<=M; exact h0)
 have h2:bl M<=64:=bl_le.2 (by show M < 18446744073709551616; exact h)
 have h3:=c0p M
 have h4:2 ^(bl M-1)<=M:=bl_ge.1 (by omega)
 refine⟨?_,?_,h1,h2⟩
 ·have:2 ^(bl M-1)*2 ^(64-bl M)<=M*2 ^(64-bl M):=s5 _ h4
  rw [<- m9,show bl M-1+(64-bl M)=63 by omega] at this
  exact this
 ·have:M*2 ^(64-bl M) < 2 ^bl M*2 ^(64-bl M):=T6 h3 (x7 (by decide))
  rw [<- m9,show bl M+(64-bl M)=64 by omega] at this
  exact this
theorem h2j {X o p:Nat} {R:Bool} (hX:X < 18446744073709551616) (ho:64<=o+p) (_:o<=64) (hp:p<=53):biQ X o R<=9007199254740992:=by
 have h1:X/2 ^o < 2 ^p:=by
  rw [F4 (x7 (by decide)),<- m9]
  refine B9 (show X < 2 ^64 from hX) (y9 (by decide) (by omega))
 have h2:2 ^p<=2 ^53:=y9 (by decide) hp
 have h3:(2:Nat) ^53=9007199254740992:=by decide
 unfold biQ
 split <;> omega
theorem f1d {M:Nat} (h:bl M<=64):bzN (M:Int)=((64-bl M:Nat):Int):=by
 unfold bzN F8
 rw [l4,gW (by omega) (by omega)]
 omega
theorem s0c {M:Nat} (h0:0 < M) (h:M < 18446744073709551616):bzM (M:Int)=((biX M:Nat):Int):=by
 obtain⟨h1,h2,h3,h4⟩:=jL h0 h
 unfold bzM
 rw [f1d h4,l4,show min (64-bl M) uI.bits=64-bl M from D4 (show 64-bl M<=64 by omega)]
 have e:(M:Int)*2 ^(64-bl M)=((biX M:Nat):Int):=by
  unfold biX
  rw [fM,fN]
  rfl
 rw [e]
 exact s0g h2
section
variable {M:Nat} {E p l:Int}
theorem j2v (h0:0 < M) (h:M < 18446744073709551616) (hE: -1000000000000000000<=E∧E<=1000000000000000000) (hp:0<=p∧p<=53) (hl: -1074<=l∧l<=0):bzE E (M:Int)=biE M E∧bzU E (M:Int) p l=biU M E p l∧bzO E (M:Int) p l=biO M E p l:=by
 obtain⟨h1,h2,h3,h4⟩:=jL h0 h
 have e1:bzE E (M:Int)=biE M E:=by
  unfold bzE biE
  rw [f1d h4,gW (by omega) (by omega)]
 have hb: -1000000000000000064<=biE M E∧biE M E<=1000000000000000000:=by unfold biE; omega
 have e2:bzU E (M:Int) p l=biU M E p l:=by
  unfold bzU biU
  rw [e1,gW (n:=biE M E+64) (by omega) (by omega),gW (n:=biE M E+64-p) (by omega) (by omega)]
 refine⟨e1,e2,?_⟩
 unfold bzO biO
 rw [e1,e2]
 have hu: -1074<=biU M E p l∧biU M E p l<=1000000000000000064:=by
  unfold biU
  split <;> omega
 exact gW (by omega) (by omega)
end
theorem i1i (a b q:Nat) (R:Bool):bUp (a:Int) (b:Int) (q:Int) R=(decide (b < a) || (decide (a=b) && (R || decide (q%2=1)))):=by
 have e1:decide ((a:Int) > (b:Int))=decide (b < a):=by
  by_cases h:b < a
  ·rw [f9 h]; exact f9 (by omega)
  ·rw [d4 h]; exact d4 (by omega)
 have e2:((a:Int)==(b:Int))=decide (a=b):=by
  by_cases h:a=b
  ·rw [f9 h,h]; exact a0o _
  ·rw [d4 h]; exact s6 (by omega)
 have e3:(Int.tmod (q:Int) 2==1)=decide (q%2=1):=by
  have:Int.tmod (q:Int) 2=((q%2:Nat):Int):=rfl
  rw [this]
  by_cases h:q%2=1
  ·rw [f9 h,h]; rfl
  ·rw [d4 h]; exact s6 (by omega)
 unfold bUp
 rw [e1,e2,e3]
 cases decide (b < a) <;> cases decide (a=b) <;> cases R <;> rfl
theorem j2w:((2:Nat) ^63)=9223372036854775808:=by decide
theorem i2o:((2:Nat) ^64)=18446744073709551616:=by decide
theorem i1a {X:Nat} (hX:X < 18446744073709551616) (R:Bool):bUp (X:Int) 9223372036854775808 0 R=upT X 64 R:=by
 have h:=i1i X 9223372036854775808 0 R
 unfold upT
 rw [show 64-1=63 from rfl,j2w,i2o,J5 hX,p0e hX]
 exact h
theorem d2i {o:Nat} (h:o<=63):(2:Nat) ^o < 18446744073709551616:=by
 have h1:2 ^o<=2 ^63:=y9 (by decide) h
 rw [j2w] at h1
 exact A5 h1 (by decide)
theorem o1l {M:Nat} {E p l:Int} {o:Nat} (h0:0 < M) (h:M < 18446744073709551616) (ho:bzO E (M:Int) p l=(o:Int)) (h1:1<=o) (h2:o<=63):
  bqQ E (M:Int) p l=((biX M/2 ^o:Nat):Int)∧bqL E (M:Int) p l=((biX M%2 ^o:Nat):Int)∧bqH E (M:Int) p l=((2 ^(o-1):Nat):Int):=by
 obtain⟨r1,r2,r3,r4⟩:=jL h0 h
 have hmin:min o uI.bits=o:=D4 (show o<=64 by omega)
 have e1:bqQ E (M:Int) p l=((biX M/2 ^o:Nat):Int):=by
  unfold bqQ
  rw [s0c h0 h,ho,l4,hmin]
  have:=(Int.ofNat_fdiv (biX M) (2 ^o)).symm
  rw [fN] at this
  exact this
 refine⟨e1,?_,?_⟩
 ·unfold bqL
  rw [e1,s0c h0 h,ho,l4,hmin]
  have h3:((biX M/2 ^o:Nat):Int)*2 ^o=((biX M/2 ^o*2 ^o:Nat):Int):=by
   rw [fM,fN]
   rfl
  have h4:biX M/2 ^o*2 ^o<=biX M:=Nat.div_mul_le_self _ _
  have h5:biX M/2 ^o*2 ^o+biX M%2 ^o=biX M:=Nat.div_add_mod' _ _
  generalize biX M/2 ^o*2 ^o=a at*
  generalize biX M%2 ^o=b at*
  rw [h3,s0g (by omega)]
  have h6:((biX M:Nat):Int)- (a:Int)=(b:Int):=by omega
  rw [h6]
  exact s0g (by omega)
 ·unfold bqH
  rw [ho,gW (by omega) (by omega)]
  have h3:((o:Int)-1).toNat=o-1:=by omega
  rw [h3,show min (o-1) uI.bits=o-1 from D4 (show o-1<=64 by omega),Int.one_mul]
  have:=s0g (d2i (o:=o-1) (by omega))
  rw [fN] at this ⊢
  exact this
theorem a2e {c:UInt8} {r:List UInt8} (h:0 < hxd c):0 < hxN (c ::r):=by
 have key:∀ (l:List UInt8) (a:Nat),0 < a->0 < l.foldl (fun m c=>16*m+hxd c) a:=by
  intro l
  induction l with
  | nil=>intro a ha; exact ha
  | cons b q ih=>intro a ha; exact ih _ (show 0 < 16*a+hxd b by omega)
 exact key r _ (show 0 < 16*0+hxd c by omega)
theorem n0x {d:List UInt8} {e p l:Int} (hd:q1j d) (hl:d.length<=140737488351232) (he: -100000000000000000<=e∧e<=100000000000000000) (hp:1<=p∧p<=53) (hlo: -1074<=l∧l<=0) (h0:0 < hxN (d.take 16)):
  Ev.Pure zO8 J0 82 [.string ⟨⟨d⟩⟩, .int .i64 e, .int .i64 p, .int .i64 l] (.float .f64 (biW (hxN (d.take 16)) ((d.drop 16).any fun c=>c !=48) (e+((4*(d.length-16):Nat):Int)) p l)):=by
 have hM:hxN (d.take 16) < 18446744073709551616:=by
  by_cases h:16<=d.length
  ·exact a1c hd 16 h
  ·have h1:=a1c hd d.length (d5 _)
   rw [aU (by omega)]
   rw [y3] at h1
   have:16 ^d.length<=16 ^16:=y9 (by decide) (by omega)
   exact B9 h1 this
 have hloop:=a2q (p:=p) (l:=l) hd hl (e:=e) ⟨by omega,by omega⟩
 obtain⟨E,hE⟩:∃ E,E=e+((4*(d.length-16):Nat):Int):=⟨_,rfl⟩
 have hEb: -1000000000000000000<=E∧E<=999999999999999000:=by omega
 rw [<- hE] at hloop ⊢
 generalize hxN (d.take 16)=M at*
 generalize (d.drop 16).any (fun c=>c !=48)=R at*
 obtain⟨r1,r2,r3,r4⟩:=jL h0 hM
 obtain⟨b1,b2,b3⟩:=j2v (p:=p) (l:=l) h0 hM (E:=E) ⟨hEb.1,by omega⟩ ⟨by omega,hp.2⟩ hlo
 have hz:(0:Int)<=bzN (M:Int):=by rw [f1d r4]; exact w8 _
 have hm:(0:Int)<=(M:Int)∧(M:Int) < 18446744073709551616:=⟨w8 _,by omega⟩
 have hU: -1074<=biU M E p l∧biU M E p l<=1000000000000000000:=by
  unfold biU biE
  split <;> omega
 have hO:64-p<=biO M E p l:=by
  unfold biO biU
  split <;> omega
 by_cases c1:64 < biO M E p l
 ·have hW:biW M R E p l=0:=i6 c1
  rw [hW]
  exact g9 cN 10 _ _ (g2w d e p l E M R d.length) ⟨by rw [b3]; exact f9 c1,hz,hm,hloop _,a7⟩
 have hW:biW M R E p l=ldW (qQ (biQ (biX M) (biO M E p l).toNat R)) (biU M E p l):=a8 c1
 rw [hW]
 obtain⟨o,ho⟩:=jG (show 0<=biO M E p l by omega)
 have ho2:bzO E (M:Int) p l=(o:Int):=by rw [b3]; exact ho
 have k1:decide (64 < bzO E (M:Int) p l)=false:=by rw [b3]; exact d4 c1
 have hQ:biQ (biX M) o R<=9007199254740992:=h2j (p:=p.toNat) r2 (by omega) (by omega) (by omega)
 rw [ho,l4]
 have hok:g1x (qQ (biQ (biX M) o R)) (biU M E p l):=k1t hQ (.inr hU)
 by_cases c2:o=64
 ·subst c2
  have k2:decide (bzO E (M:Int) p l < 64)=false:=by rw [ho2]; exact d4 (by omega)
  have hq0:biX M/2 ^64=0:=p0e (by rw [i2o]; exact r2)
  cases hup:upT (biX M) 64 R with
  | false=>
   have hq:biQ (biX M) 64 R=0:=by unfold biQ; rw [hup,a8 (by decide)]; exact hq0
   rw [hq,kY] at hok ⊢
   rw [<- b2] at hok ⊢
   exact g9 cN 10 _ _ (f2z d e p l E M R d.length) ⟨hok,by rw [s0c h0 hM,i1a r2]; exact hup,k2,k1,hz,hm,hloop _,a7⟩
  | true=>
   have hq:biQ (biX M) 64 R=1:=by unfold biQ; rw [hup,i6 rfl,hq0]
   have hn:FloatKind.f64.nearest 1=qQ 1:=vI 1
   rw [hq,<- hn] at hok ⊢
   rw [<- b2] at hok ⊢
   exact g9 cN 10 _ _ (g2i d e p l E M R d.length) ⟨hok,by rw [s0c h0 hM,i1a r2]; exact hup,k2,k1,hz,hm,hloop _,a7⟩
 ·have k2:decide (bzO E (M:Int) p l < 64)=true:=by rw [ho2]; exact f9 (by omega)
  have k3:0<=bzO E (M:Int) p l:=by rw [ho2]; exact w8 _
  have k4:0<=iI.wrap (bzO E (M:Int) p l-1):=by rw [ho2,gW (by omega) (by omega)]; omega
  obtain⟨p1,p2,p3⟩:=o1l h0 hM ho2 (by omega) (by omega)
  have hU2:bUp (bqL E (M:Int) p l) (bqH E (M:Int) p l) (bqQ E (M:Int) p l) R=upT (biX M) o R:=by
   rw [p1,p2,p3]
   exact i1i _ _ _ _
  cases hup:upT (biX M) o R with
  | false=>
   have hq:biQ (biX M) o R=biX M/2 ^o:=by unfold biQ; rw [hup,a8 (by decide)]
   have hn:FloatKind.f64.nearest (bqQ E (M:Int) p l)=qQ (biQ (biX M) o R):=by rw [hq,p1]; exact vI _
   rw [<- hn,<- b2] at hok ⊢
   exact g9 cN 10 _ _ (p2f d e p l E M R d.length) ⟨hok,by rw [hU2]; exact hup,k4,k3,k3,k2,k1,hz,hm,hloop _,a7⟩
  | true=>
   have hq:biQ (biX M) o R=biX M/2 ^o+1:=by unfold biQ; rw [hup,i6 rfl]
   have hb:biX M/2 ^o+1 < 18446744073709551616:=by
    rw [hq] at hQ
    exact A5 hQ (by decide)
   have hw:uI.wrap (bqQ E (M:Int) p l+1)=((biX M/2 ^o+1:Nat):Int):=by
    rw [p1]
    exact s0g hb
   have hn:FloatKind.f64.nearest (uI.wrap (bqQ E (M:Int) p l+1))=qQ (biQ (biX M) o R):=by rw [hq,hw]; exact vI _
   rw [<- hn,<- b2] at hok ⊢
   exact g9 cN 10 _ _ (m2h d e p l E M R d.length) ⟨hok,by rw [hU2]; exact hup,k4,k3,k3,k2,k1,hz,hm,hloop _,a7⟩
def hxW (d:List UInt8) (e p l:Int):Nat:=biW (hxN (d.take 16)) ((d.drop 16).any fun c=>c !=48) (e+((4*(d.length-16):Nat):Int)) p l
def q2v (d:List UInt8) (e p l:Int):Prop:=q1j d∧d.length<=140737488351232∧(-100000000000000000<=e∧e<=100000000000000000)∧(1<=p∧p<=53)∧(-1074<=l∧l<=0)∧0 < hxN (d.take 16)
def m0p:List Value->Option (Value×List Prop)
 | [.string ⟨⟨d⟩⟩, .int .i64 e, .int .i64 p, .int .i64 l] =>some (.float .f64 (hxW d e p l),[q2v d e p l])
 | _=>none
theorem y0s (args:List Value) (v:Value) (l:List Prop) (h:m0p args=some (v,l)) (hl:d9 l):Ev.Pure zO8 J0 82 args v:=by
 unfold m0p at h
 split at h
 ·cases h
  obtain⟨⟨h1,h2,h3,h4,h5,h6⟩,_⟩:=hl
  exact n0x h1 h2 h3 h4 h5 h6
 ·cases h
def l1k:Tab:=l7 82 m0p f1c
theorem h0r:R8 zO8 J0 l1k:=b8 y0s h0g
def bRo7:Base:=⟨zO8,J0,false,l1k,mG,200,J2⟩
theorem a1n:BaseOk bRo7:=⟨progOk,h0r,X1,m4⟩
abbrev q2r:Cx:=bRo7.cx 10
section
variable (hx:Bool) (d:List UInt8) (e n p l:Int) (f:FuncId) (r:Nat) (z:Int)
abbrev n2d (f:FuncId) (hx:Bool) (d:List UInt8) (e n p l:Int):List Arg:=[.c (.v (pcV hx d e n)),iR p,iR l, .c (.v (.func (.func f) ⟨[]⟩ ⟨[]⟩))]
theorem l2y:B7 q2r [] 200 38 (n2d f hx d e n p l) [xR r,iR z] [true] =some [(d8 d==([] :List UInt8))=true,(48:UInt8)=48,zO4 .f64 0=zO4 .f64 r,zO3 .i64 0=zO3 .i64 z] :=by kernel_rfl
theorem o2l:B7 q2r [] 200 38 (n2d f hx d e n p l) [xR r,iR z] [false,true] =some [q2v (d8 d) e p l,hx=true,(d8 d==([] :List UInt8))=false,(48:UInt8)=48,zO4 .f64 (hxW (d8 d) e p l)=zO4 .f64 r,zO3 .i64 0=zO3 .i64 z] :=by kernel_rfl
end
theorem o1q {f:FuncId} {d:List UInt8} {e n p l:Int} (hd:q1j d) (hl:d.length<=140737488351232) (he: -100000000000000000<=e∧e<=100000000000000000) (hp:1<=p∧p<=53) (hlo: -1074<=l∧l<=0):
  Ev.Sem zO8 J0 38 (n2d f true d e n p l) [xR (if d8 d=[] then 0 else hxW (d8 d) e p l),iR 0] :=by
 by_cases h0:d8 d=[]
 ·rw [i6 h0]
  refine l6 a1n 10 _ _ (l2y true d e n p l f _ _) ?_
  rw [h0]
  exact⟨rfl,rfl,rfl,rfl,a7⟩
 ·rw [a8 h0]
  have hT:q1j (d8 d):=fun c hc=>hd c (F2 hc)
  have hle:=A0 d
  have hpos:0 < hxN ((d8 d).take 16):=by
   cases hu:d8 d with
   | nil=>exact absurd hu h0
   | cons c r=>
    have hc:=L3 hu
    have hw:=hT c (by rw [hu]; exact kG)
    have hc2:0 < hxd c:=by
     have h48:c.toNat≠48:=fun h=>hc (zzA135.1 h)
     unfold hxd
     unfold p8 at hw ⊢
     split
     ·omega
     ·rename_i h1
      rw [a8 h1] at hw
      split
      ·omega
      ·rename_i h2
       rw [a8 h2] at hw
       split
       ·omega
       ·rename_i h3
        rw [a8 h3] at hw
        omega
    exact a2e hc2
  refine l6 a1n 10 _ _ (o2l true d e n p l f _ _) ?_
  exact⟨⟨hT,by omega,he,hp,hlo,hpos⟩,rfl,s6 h0,rfl,rfl,rfl,a7⟩
def k1p:Tab:=l7 78 qP (l7 79 kQ l1k)
theorem i0j:R8 zO8 J0 k1p:=b8 vK (b8 mU h0r)
def bRp1:Base:=⟨zO8,J0,false,k1p,mG,200,J2⟩
theorem lT:BaseOk bRp1:=⟨progOk,i0j,X1,m4⟩
abbrev d2l:Cx:=bRp1.cx 10
def x1h (t:List UInt8):Bool:=match ((lV (x5 t):Nat):Int)==0 with | true=>true | false=>((lV (x5 t):Nat):Int) !=(((x5 t).length:Nat):Int)
def rdF (t:List UInt8):Bool:=t==([78,97,78] :List UInt8)
def rdG (t:List UInt8):Bool:=x5 t==([73,110,102] :List UInt8)
def rdL (t:List UInt8):Bool:=decide (zO2 8192 < zO2 t.length)
abbrev rdR (n:Bool) (p:Value) (x:Nat) (i:Bool) (e:Int):Value:= .tuple ⟨[.bool n,p, .float .f64 x, .bool i, .int .i64 e]⟩
section
variable (t:List UInt8)
theorem a2w:b7 d2l [] 200 37 [.string ⟨⟨t⟩⟩] [true] =some (rdR false (pcV false [] 0 0) 0 false 2,[rdL t=true]):=by kernel_rfl
theorem i2q:b7 d2l [] 200 37 [.string ⟨⟨t⟩⟩] [false,true] =some (rdR false (pcV false [] 0 0) 9221120237041090560 true 0,[rdF t=true,rdL t=false]):=by kernel_rfl
theorem g2l:b7 d2l [] 200 37 [.string ⟨⟨t⟩⟩] [false,false,true,false] =some (rdR (wA t) (pcV false [] 0 0) 9218868437227405312 true 0,[wA t=false,rdG t=true,rdF t=false,rdL t=false]):=by kernel_rfl
theorem y1b:b7 d2l [] 200 37 [.string ⟨⟨t⟩⟩] [false,false,true,true] =some (rdR (wA t) (pcV false [] 0 0) 18442240474082181120 true 0,[wA t=true,rdG t=true,rdF t=false,rdL t=false]):=by kernel_rfl
theorem o2a:b7 d2l [] 200 37 [.string ⟨⟨t⟩⟩] [false,false,false,true] =some (rdR false (pcV (S4 (x5 t)) (eN (x5 t)) (lB (x5 t)) (lV (x5 t))) 0 false 3,[x1h t=true,(x5 t).length<=140737488351232,rdG t=false,rdF t=false,rdL t=false]):=by kernel_rfl
theorem f2y:b7 d2l [] 200 37 [.string ⟨⟨t⟩⟩] [false,false,false,false] =some (rdR (wA t) (pcV (S4 (x5 t)) (eN (x5 t)) (lB (x5 t)) (lV (x5 t))) 0 false 0,[x1h t=false,(x5 t).length<=140737488351232,rdG t=false,rdF t=false,rdL t=false]):=by kernel_rfl
end
def rdP (t:List UInt8):Bool:= !rdL t && !rdF t && !rdG t
def k2p (t:List UInt8):Bool:=rdP t && !x1h t
def rdN (t:List UInt8):Bool:=if k2p t || (!rdL t && !rdF t && rdG t) then wA t else false
def l1v (t:List UInt8):Bool:=if rdP t then S4 (x5 t) else false
def l1x (t:List UInt8):List UInt8:=if rdP t then eN (x5 t) else []
def l1l (t:List UInt8):Int:=if rdP t then lB (x5 t) else 0
def m2o (t:List UInt8):Int:=if rdP t then ((lV (x5 t):Nat):Int) else 0
def rdO (t:List UInt8):Nat:=if rdL t then 0 else if rdF t then 9221120237041090560 else if rdG t then (if wA t then 18442240474082181120 else 9218868437227405312) else 0
def rdI (t:List UInt8):Bool:= !rdL t && (rdF t || rdG t)
def rdE (t:List UInt8):Int:=if rdL t then 2 else if rdP t && x1h t then 3 else 0
theorem g0h (t:List UInt8):(x5 t).length<=t.length:=by
 unfold x5
 split
 ·rw [K3]; omega
 ·exact d5 _
theorem m1s (t:List UInt8):Ev.Pure zO8 J0 37 [.string ⟨⟨t⟩⟩] (rdR (rdN t) (pcV (l1v t) (l1x t) (l1l t) (m2o t)) (rdO t) (rdI t) (rdE t)):=by
 unfold rdN l1v l1x l1l m2o rdO rdI rdE k2p rdP
 cases h1:rdL t with
 | true=>exact g9 lT 10 _ _ (a2w t) ⟨h1,a7⟩
 | false=>
  cases h2:rdF t with
  | true=>exact g9 lT 10 _ _ (i2q t) ⟨h2,h1,a7⟩
  | false=>
   cases h3:rdG t with
   | true=>
    cases h4:wA t with
    | true=>
     have:=y1b t
     rw [h4] at this
     exact g9 lT 10 _ _ this ⟨rfl,h3,h2,h1,a7⟩
    | false=>
     have:=g2l t
     rw [h4] at this
     exact g9 lT 10 _ _ this ⟨rfl,h3,h2,h1,a7⟩
   | false=>
    have hl:(x5 t).length<=140737488351232:=by
     have:=g0h t
     have hL:=O2 h1
     have:t.length<=8192:=by
      have h9:¬((8192:Int) < (t.length:Int)):=hL
      omega
     omega
    cases h4:x1h t with
    | true=>exact g9 lT 10 _ _ (o2a t) ⟨h4,hl,h3,h2,h1,a7⟩
    | false=>exact g9 lT 10 _ _ (f2y t) ⟨h4,hl,h3,h2,h1,a7⟩
def k1h:List Value->Option (Value×List Prop)
 | [.string ⟨⟨t⟩⟩] =>some (rdR (rdN t) (pcV (l1v t) (l1x t) (l1l t) (m2o t)) (rdO t) (rdI t) (rdE t),[])
 | _=>none
theorem j1z (args:List Value) (v:Value) (l:List Prop) (h:k1h args=some (v,l)) (_:d9 l):Ev.Pure zO8 J0 37 args v:=by
 unfold k1h at h
 split at h
 ·cases h
  exact m1s _
 ·cases h
def d1l:Tab:=l7 37 k1h k1p
theorem k0k:R8 zO8 J0 d1l:=b8 j1z i0j
def nrW (h:Bool) (d:List UInt8) (e:Int):Nat:=if h=true then (if d8 d=[] then 0 else hxW (d8 d) e 53 (-1074)) else neW d e
def nrE (h:Bool) (d:List UInt8) (e:Int):Int:=if h=true then 0 else neE d e
def l2f (h:Bool) (d:List UInt8) (e:Int):Prop:=d.length<=140737488351232∧(-100000000000000000<=e∧e<=100000000000000000)∧(if h=true then q1j d else s7 d=true)
theorem q1i {h:Bool} {d:List UInt8} {e n:Int} (hk:l2f h d e):Ev.Sem zO8 J0 38 (x1k h d e n) [xR (nrW h d e),iR (nrE h d e)] :=by
 obtain⟨h1,h2,h3⟩:=hk
 unfold nrW nrE
 cases h with
 | true=>
  rw [i6 rfl] at h3
  rw [i6 rfl,i6 rfl]
  exact o1q h3 h1 h2 ⟨by decide,by decide⟩ ⟨by decide,by decide⟩
 | false=>
  rw [a8 (by decide)] at h3
  rw [a8 (by decide),a8 (by decide)]
  exact r1o h3 h1 ⟨by omega,by omega⟩
def a1i:List Arg->Option (List Arg×List Prop)
 | [.c (.v (.agg ⟨[.bool h, .string ⟨⟨d⟩⟩, .int .i64 e, .int .i64 _]⟩)), .c (.v (.int .i64 53)), .c (.v (.int .i64 (-1074))), .c (.v (.func (.func 39) ⟨[]⟩ ⟨[]⟩))] =>some ([xR (nrW h d e),iR (nrE h d e)],[l2f h d e])
 | _=>none
theorem l1a:∀ az rs l,a1i az=some (rs,l)->d9 l->Ev.Sem zO8 J0 38 az rs:=by
 intro az rs l h hl
 unfold a1i at h
 split at h
 ·cases h
  exact q1i hl.1
 ·cases h
def o0x:qV:=m8 38 (z7 [shV,shV,shV,shV] a1i) mG
theorem a0v:qZ zO8 J0 o0x:=d7 (m5 _ l1a) X1
def bRp2:Base:=⟨zO8,J0,false,d1l,o0x,200,J2⟩
theorem k1j:BaseOk bRp2:=⟨progOk,k0k,a0v,m4⟩
abbrev q2o:Cx:=bRp2.cx 10
def sgE (x:Nat):Nat:=(uI.wrap ↑(zO11 uI.bits (uI.wrap ↑(zO11 uI.bits ↑x&&& ~~~zO11 uI.bits 9223372036854775808).toNat)||| zO11 uI.bits (uI.wrap ↑(zO11 uI.bits 13830554455654793216&&& zO11 uI.bits 9223372036854775808).toNat)).toNat).toNat
theorem s2c (x:Nat):b7 q2o [] 200 42 [.float .f64 x, .bool true] [true] =some (.float .f64 (sgE x),[true=true]):=by kernel_rfl
theorem r2o (x:Nat):b7 q2o [] 200 42 [.float .f64 x, .bool false] [false] =some (.float .f64 x,[false=false]):=by kernel_rfl
def sgV (x:Nat) (g:Bool):Nat:=if g=true then sgE x else x
theorem x1r (x:Nat) (g:Bool):Ev.Pure zO8 J0 42 [.float .f64 x, .bool g] (.float .f64 (sgV x g)):=by
 cases g with
 | true=>exact g9 k1j 10 _ _ (s2c x) ⟨rfl,a7⟩
 | false=>exact g9 k1j 10 _ _ (r2o x) ⟨rfl,a7⟩
def c1s:List Value->Option (Value×List Prop)
 | [.float .f64 x, .bool g] =>some (.float .f64 (sgV x g),[])
 | _=>none
theorem f1s (args:List Value) (v:Value) (l:List Prop) (h:c1s args=some (v,l)) (_:d9 l):Ev.Pure zO8 J0 42 args v:=by
 unfold c1s at h
 split at h
 ·cases h
  exact x1r _ _
 ·cases h
def t1e:Tab:=l7 42 c1s d1l
theorem h1s:R8 zO8 J0 t1e:=b8 f1s k0k
def bRp3:Base:=⟨zO8,J0,false,t1e,o0x,200,J2⟩
theorem f0o:BaseOk bRp3:=⟨progOk,h1s,a0v,m4⟩
abbrev k2t:Cx:=bRp3.cx 10
def paX (t:List UInt8):Nat:=nrW (l1v t) (l1x t) (l1l t)
def paZ (t:List UInt8):Int:=nrE (l1v t) (l1x t) (l1l t)
def paO (t:List UInt8):Prop:=l2f (l1v t) (l1x t) (l1l t)
def paB (t:List UInt8):Bool:=match rdE t !=0 with | true=>true | false=>rdI t
def paI (t:List UInt8):Bool:=match paZ t==0 with | true=>gtL (i2l (paX t)) 9218868437227405311 | false=>false
section
variable (t:List UInt8) (r:Nat) (z:Int)
abbrev tA (t:List UInt8):List Arg:=[.c (.v (.string ⟨⟨t⟩⟩))]
theorem r2d:B7 k2t [] 200 10 (tA t) [xR r,iR z] [true] =some [paB t=true,zO4 .f64 (rdO t)=zO4 .f64 r,zO3 .i64 (rdE t)=zO3 .i64 z] :=by kernel_rfl
theorem r2y:B7 k2t [] 200 10 (tA t) [xR r,iR z] [false,true,true] =some [true=true,paI t=true,paO t,paB t=false,zO4 .f64 0=zO4 .f64 r,zO3 .i64 15=zO3 .i64 z] :=by kernel_rfl
theorem t2h:B7 k2t [] 200 10 (tA t) [xR r,iR z] [false,false,true] =some [(paZ t !=0)=true,paI t=false,paO t,paB t=false,zO4 .f64 0=zO4 .f64 r,zO3 .i64 (paZ t)=zO3 .i64 z] :=by kernel_rfl
theorem t2m:B7 k2t [] 200 10 (tA t) [xR r,iR z] [false,false,false] =some [(paZ t !=0)=false,paI t=false,paO t,paB t=false,zO4 .f64 (sgV (paX t) (rdN t))=zO4 .f64 r,zO3 .i64 0=zO3 .i64 z] :=by kernel_rfl
end
def paW (t:List UInt8):Nat:=if paB t=true then rdO t else if paI t=true then 0 else if paZ t≠0 then 0 else sgV (paX t) (rdN t)
def paE (t:List UInt8):Int:=if paB t=true then rdE t else if paI t=true then 15 else paZ t
theorem j0h {t:List UInt8} (h:paB t=false->paO t):Ev.Sem zO8 J0 10 (tA t) [xR (paW t),iR (paE t)] :=by
 cases h1:paB t with
 | true=>
  have e1:paW t=rdO t:=by unfold paW; rw [h1]; exact i6 rfl
  have e2:paE t=rdE t:=by unfold paE; rw [h1]; exact i6 rfl
  rw [e1,e2]
  exact l6 f0o 10 _ _ (r2d t _ _) ⟨h1,rfl,rfl,a7⟩
 | false=>
  have ho:=h h1
  have n1:¬paB t=true:=by rw [h1]; decide
  cases h2:paI t with
  | true=>
   have e1:paW t=0:=by unfold paW; rw [a8 n1,i6 h2]
   have e2:paE t=15:=by unfold paE; rw [a8 n1,i6 h2]
   rw [e1,e2]
   exact l6 f0o 10 _ _ (r2y t _ _) ⟨rfl,h2,ho,h1,rfl,rfl,a7⟩
  | false=>
   have n2:¬paI t=true:=by rw [h2]; decide
   by_cases h3:paZ t=0
   ·have n3:¬paZ t≠0:=fun k=>k h3
    have e1:paW t=sgV (paX t) (rdN t):=by unfold paW; rw [a8 n1,a8 n2,a8 n3]
    have e2:paE t=0:=by unfold paE; rw [a8 n1,a8 n2,h3]
    rw [e1,e2]
    exact l6 f0o 10 _ _ (t2m t _ _) ⟨by rw [h3]; rfl,h2,ho,h1,rfl,rfl,a7⟩
   ·have e1:paW t=0:=by unfold paW; rw [a8 n1,a8 n2,i6 h3]
    have e2:paE t=paZ t:=by unfold paE; rw [a8 n1,a8 n2]
    rw [e1,e2]
    exact l6 f0o 10 _ _ (t2h t _ _) ⟨zzA208.2 h3,h2,ho,h1,rfl,rfl,a7⟩
theorem s0d (t:List UInt8) (b:Int):∀ (f k:Nat) (p:Int),0<=p->(pY t b f k p).1=p
 | 0,_,_,_=>rfl
 | f+1,k,p,hp=>by
  unfold pY
  have hd:n1u t k p=false:=by
   unfold n1u
   split
   ·exact d4 (by omega)
   ·rfl
  rw [hd]
  split
  ·exact s0d t b f (k+1) p hp
  ·rfl
theorem d0e (t:List UInt8) (b:Int):∀ (f k:Nat) (p:Int) (i:Nat),k<=i->i < (pY t b f k p).2->p8 (chI t (i:Int)) < b∨(i:Int)=(pY t b f k p).1
 | 0,k,p,i,h1,h2=>absurd (show i < k from h2) (by omega)
 | f+1,k,p,i,h1,h2=>by
  unfold pY at h2 ⊢
  by_cases hw:p8 (chI t (k:Int)) < b
  ·rw [i6 hw] at h2 ⊢
   rcases Nat.eq_or_lt_of_le h1 with h | h
   ·subst h; exact .inl hw
   ·exact d0e t b f (k+1) p i h h2
  ·rw [a8 hw] at h2 ⊢
   by_cases hd:n1u t k p=true
   ·rw [i6 hd] at h2 ⊢
    rcases Nat.eq_or_lt_of_le h1 with h | h
    ·subst h
     exact .inr (s0d t b f (k+1) k (w8 _)).symm
    ·exact d0e t b f (k+1) k i h h2
   ·rw [a8 hd] at h2
    exact absurd (show i < k from h2) (by omega)
theorem c0j {t:List UInt8} {a E:Nat} {c:UInt8} (h:c∈(t.take E).drop a):∃ i,a<=i∧i < E∧∃ hi:i < t.length,t[i] =c:=by
 obtain⟨j,hj,rfl⟩:=List.mem_iff_getElem.1 h
 rw [K3,D5] at hj
 refine⟨a+j,by omega,by omega,by omega,?_⟩
 rw [List.getElem_drop,List.getElem_take]
theorem h1r {t:List UInt8} {a:Nat} {b:Int} {c:UInt8} (h:c∈maS t a b):p8 (c.toNat:Int) < b:=by
 have key:∀ i,a<=i->i < maE t a b->(i:Int)≠maP t a b->∀ hi:i < t.length,p8 ((t[i].toNat:Nat):Int) < b:=by
  intro i h1 h2 h3 hi
  unfold maE at h2
  unfold maP at h3
  have:=(d0e t b (t.length-a) a (-1) i h1 h2).resolve_right h3
  rw [q0w hi] at this
  exact this
 unfold maS at h
 split at h
 ·rename_i hp
  obtain⟨i,h1,h2,hi,rfl⟩:=c0j h
  exact key i h1 h2 (by omega) hi
 ·rename_i hp
  rcases zzA91.1 h with h | h
  ·obtain⟨i,h1,h2,hi,rfl⟩:=c0j h
   by_cases hE:i < maE t a b
   ·exact key i h1 hE (by omega) hi
   ·exfalso
    have:=(jV t b (t.length-a) a (-1) (by omega) (by omega)).2.2.2
    unfold maE at hE
    unfold maP at h2 hp
    omega
  ·obtain⟨i,h1,h2,hi,rfl⟩:=c0j h
   by_cases hA:a<=i
   ·exact key i hA h2 (by omega) hi
   ·exfalso
    by_cases ha:a<=t.length
    ·have:=(d0m (b:=b) ha).2.2.1
     omega
    ·have:maP t a b= -1:=by
      unfold maP
      rw [show t.length-a=0 by omega]
      rfl
     omega
theorem x1p {c:UInt8} (h:p8 (c.toNat:Int) < 10):48<=c.toNat∧c.toNat<=57:=by
 unfold p8 at h
 split at h
 ·omega
 ·split at h
  ·omega
  ·split at h <;> omega
theorem h1f (t:List UInt8) (a:Nat) (b:Int):(maS t a b).length<=2*t.length:=by
 unfold maS
 split
 ·rw [K3,D5]; omega
 ·rw [F6,K3,D5,K3,D5]; omega
theorem i1f {t:List UInt8} (h:S4 t=true):q1j (eN t):=by
 intro c hc
 unfold eN at hc
 rw [i6 h] at hc
 exact h1r hc
theorem l1j {t:List UInt8} (h:S4 t=false):s7 (eN t)=true:=by
 refine allDB_mem.2 fun c hc=> ?_
 unfold eN at hc
 rw [a8 (by rw [h]; decide)] at hc
 exact x1p (h1r hc)
theorem i1w {t:List UInt8} {a:Nat} {b:Int} :0<=maB t a b∧maB t a b<=(t.length:Int):=by
 by_cases ha:a<=t.length
 ·exact uZ ha
 ·have:maP t a b= -1:=by
   unfold maP
   rw [show t.length-a=0 by omega]
   rfl
  unfold maB
  rw [i6 (by omega)]
  omega
theorem m0u (t:List UInt8): -1073741824-4*(t.length:Int)<=lB t∧lB t<=1073741824:=by
 have h1:=i1w (t:=t) (a:=2) (b:=16)
 have h2:=i1w (t:=t) (a:=0) (b:=10)
 have h3:=jM t pP (maE t 2 16)
 have h4:=jM t eE (maE t 0 10)
 unfold lB
 split
 ·omega
 ·split
  ·omega
  ·omega
theorem g2a {t:List UInt8} (h:paB t=false):paO t:=by
 unfold paB at h
 cases hE:(rdE t !=0) with
 | true=>rw [hE] at h; cases h
 | false=>
  rw [hE] at h
  have hI:rdI t=false:=h
  have hE2:rdE t=0:=by
   have:=hE
   rw [bne,Bool.not_eq_false'] at this
   exact eq_of_beq this
  cases h1:rdL t with
  | true=>
   unfold rdE at hE2
   rw [h1] at hE2
   cases hE2
  | false=>
   unfold rdI at hI
   rw [h1] at hI
   cases h2:rdF t with
   | true=>rw [h2] at hI; cases hI
   | false=>
    cases h3:rdG t with
    | true=>rw [h2,h3] at hI; cases hI
    | false=>
     have hP:rdP t=true:=by unfold rdP; rw [h1,h2,h3]; rfl
     have hlen:t.length<=8192:=by
      have hL:=O2 h1
      have h9:¬((8192:Int) < (t.length:Int)):=hL
      omega
     have hr:=g0h t
     have hx:=m0u (x5 t)
     have hs:(eN (x5 t)).length<=2*(x5 t).length:=by
      unfold eN
      split
      ·exact h1f _ _ _
      ·exact h1f _ _ _
     have e1:l1v t=S4 (x5 t):=by unfold l1v; exact i6 hP
     have e2:l1x t=eN (x5 t):=by unfold l1x; exact i6 hP
     have e3:l1l t=lB (x5 t):=by unfold l1l; exact i6 hP
     unfold paO l2f
     rw [e1,e2,e3]
     refine⟨by omega,⟨by omega,by omega⟩,?_⟩
     cases hH:S4 (x5 t) with
     | true=>rw [i6 rfl]; exact i1f hH
     | false=>rw [a8 (by decide)]; exact l1j hH
theorem g0m (t:List UInt8):Ev.Sem zO8 J0 10 (tA t) [xR (paW t),iR (paE t)] :=j0h g2a
theorem e1u {x:Nat} (hx:x < 18446744073709551616):(zO11 uI.bits (x:Int)).toNat=x:=by
 show (zO11 64 (x:Int)).toNat=x
 rw [vJ,sH]
 exact J5 hx
theorem j2q {x:Nat} (hx:x < 9223372036854775808):sgE x=x+9223372036854775808:=by
 unfold sgE
 have h3:(zO11 uI.bits (x:Int)&&& ~~~zO11 uI.bits 9223372036854775808).toNat=x:=by
  rw [pK,e1u (by omega),show (~~~zO11 uI.bits 9223372036854775808).toNat=2 ^63-1 by decide]
  have:=fH x 63
  rw [this]
  exact J5 hx
 have hm:x < 2 ^63:=hx
 have h5:(zO11 uI.bits 13830554455654793216&&& zO11 uI.bits 9223372036854775808).toNat=9223372036854775808:=by decide
 rw [h3,s0g (n:=x) (by omega),h5]
 have h6:(zO11 uI.bits ((x:Nat):Int)||| zO11 uI.bits (uI.wrap ((9223372036854775808:Nat):Int))).toNat=x+9223372036854775808:=by
  rw [BitVec.toNat_or,e1u (by omega),show (zO11 uI.bits (uI.wrap ((9223372036854775808:Nat):Int))).toNat=2 ^63*1 by decide,Nat.or_comm,<- Nat.two_pow_add_eq_or_of_lt hm]
  omega
 rw [h6,s0g (by omega),l4]
end Go.Proofs.YtbdaebagmmmijaaGreatDoor
namespace Go.Proofs.YtbdaebagmmmijaaGreatDoor
open Go Go.RowKit Ev VaS
abbrev vi (n:Int):Value:= .int .i64 n
def bV0:Base:=⟨zO8,J0,false,tL,D1,200,J2⟩
theorem h1c:BaseOk bV0:=⟨progOk,M3,n8 _ _,m4⟩
def i2h (x:Nat):Int:=zO2 (Nat.bitwise and (zO11 uI.bits (zO2 x)).toNat (~~~zO11 uI.bits 9223372036854775808).toNat%18446744073709551616)
theorem g1i {x:Nat} (hx:x < 18446744073709551616):(zO11 uI.bits (zO2 x)).toNat=x:=by
 show (zO11 64 (x:Int)).toNat=x
 rw [vJ,sH]
 exact J5 hx
theorem b2n {x:Nat} (hx:x < 18446744073709551616):i2h x=((x%p63:Nat):Int):=by
 unfold i2h
 rw [g1i hx,show (~~~zO11 uI.bits 9223372036854775808).toNat=2 ^63-1 by decide]
 have e:Nat.bitwise and x (2 ^63-1)=x%2 ^63:=fH x 63
 rw [e]
 have h:x%2 ^63 < 18446744073709551616:=nL (C7 _ (by decide)) (by decide)
 rw [J5 h]
 rfl
theorem d0l {n:Int} (h1: -9223372036854775808<=n) (h2:n<=9223372036854775807):iI.wrap n=n:=by
 simp [IntKind.wrap,IntKind.bits,IntKind.signed]
 omega
theorem s1m (x:Nat):x%p63 < 9223372036854775808:=C7 _ (by decide)
theorem mN {x:Nat} (hx:x < 18446744073709551616) (b:Bool):((Ieee.double.order x x !=some .eq)=b)↔gF x=b:=by
 rw [dJ hx hx]
 unfold v1r
 rw [Bool.or_self]
 cases gF x
 ·simp
 ·rw [i6 rfl]
  cases b <;> decide
theorem w0x (x:Nat) (hx:x < 18446744073709551616):Pure zO8 J0 47 [.float .f64 x] (vi (keyI x)):=by
 have hm:=s1m x
 have hsg:decide (iI.wrap (zO2 x) < 0)=decide (p63<=x):=by
  rw [zzA167]
  unfold p63
  simp [IntKind.wrap,IntKind.bits,IntKind.signed]
  omega
 have ht:∀ y:Int,0<=y->zO2 y.toNat=y:=fun y hy=>T5 hy
 have hr:i2h x=((x%p63:Nat):Int):=b2n hx
 unfold keyI
 cases hn:gF x
 ·by_cases hs:p63<=x
  ·have:=g9 h1c 6 [] [false,true] (f:=47) (args:=[.float .f64 x]) (v:=vi (iI.wrap (iI.wrap (0-iI.wrap (zO2 (i2h x).toNat))-1))) (l:=[decide (iI.wrap (zO2 x) < 0)=true,(Ieee.double.order x x !=some .eq)=false]) (by kernel_rfl) ⟨by rw [hsg]; exact f9 hs,(mN hx _).2 hn,a7⟩
   rw [ht _ (by rw [hr]; omega),hr,d0l (n:=((x%p63:Nat):Int)) (by omega) (by omega),d0l (n:=0- ((x%p63:Nat):Int)) (by omega) (by omega),d0l (by omega) (by omega)] at this
   simp only [M7,C5,i6 hs]
   rw [show -((x%p63:Nat):Int)-1=0- ((x%p63:Nat):Int)-1 by omega]
   exact this
  ·have:=g9 h1c 6 [] [false,false] (f:=47) (args:=[.float .f64 x]) (v:=vi (iI.wrap (zO2 (i2h x).toNat))) (l:=[decide (iI.wrap (zO2 x) < 0)=false,(Ieee.double.order x x !=some .eq)=false]) (by kernel_rfl) ⟨by rw [hsg]; exact d4 hs,(mN hx _).2 hn,a7⟩
   rw [ht _ (by rw [hr]; omega),hr,d0l (by omega) (by omega)] at this
   simp only [M7,C5,a8 hs]
   exact this
 ·exact g9 h1c 6 [] [true] (l:=[(Ieee.double.order x x !=some .eq)=true]) (by kernel_rfl) ⟨(mN hx _).2 hn,a7⟩
end Go.Proofs.YtbdaebagmmmijaaGreatDoor
namespace Go.Proofs.YtbdaebagmmmijaaGreatDoor
open Go Go.RowKit Ev Wd
def s1u (g:Nat->Value) (i:Nat):Int:=match g i with
 | .int .u8 x=>x
 | _=>0
def q2p (g:Nat->Value) (off o k q:Nat) (m:Int):Prop:=g=(fun i=> .int .u8 (s1u g i))∧off=o∧k=q∧(0<=m∧m<=1000)∧∀ i,i < k->0<=s1u g i∧s1u g i < 256
def q0n (args:List Value) (H:Heap) (n:Nat) (ds:List Bool):Option CR:=
 match args with
 | [.slice (some ⟨id,off,some _⟩) k _, .int .i64 m] =>match H.get id with
  | some (.fam g q sz o)=>match zO0 sz 1 with
   | true=>some ⟨.string ⟨⟨dgT (dgs (s1u g) (min k m.toNat))⟩⟩,H,n,[q2p g off o k q m],ds⟩
   | false=>none
  | _=>none
 | _=>none
theorem w0h:fP zO8 J0 8 q0n:=by
 intro args H n ds r hs hl
 unfold q0n at hs
 split at hs
 case h_2=>cases hs
 rename_i id off sp k c m
 split at hs
 case h_2=>cases hs
 rename_i g q sz o hget
 split at hs
 case h_2=>cases hs
 rename_i hsz
 have hsz:=N8 hsz
 subst hsz
 cases hs
 obtain⟨⟨hg,rfl,rfl,hm,hF⟩,_⟩:=hl
 obtain⟨mm,rfl⟩:∃ mm:Nat,m=(mm:Int):=⟨m.toNat,by omega⟩
 obtain⟨hent,hsem⟩:=x0n (F:=s1u g) (n:=k) (o:=off) (m:=mm) hF (by omega)
 refine⟨d5 _,hent,fun B M ρ w vs hp hB hI hS=> ?_⟩
 obtain⟨hS0,hvs⟩:=hS ρ (Agree.refl _ _)
 have hcel:CelIs w (.f (fun i=> .int .u8 (s1u g i)) k 1 off) (rv ρ (.slice (some ⟨id,off,some sp⟩) k c)):=by
  rw [<- hg]
  rcases hS0.obj id _ hget with ⟨g1,g2⟩ | ⟨b,cs,t,fr,g1,g2,g3⟩
  ·exact .inl ⟨by simp [rv,rSl,g1,g2],g2⟩
  ·obtain⟨c',q⟩:=fK (off:=off) (sp:=some sp) (n:=k) (c:=c) g1
   exact .inr ⟨b,c',cs,t,fr,q,g2,g3⟩
 have hint:rv ρ (.int .i64 (mm:Int))= .int .i64 (mm:Int):=by simp only [rv]
 rw [hvs]
 have hus:All2 (CelIs w) (t6 [dgA (s1u g) k off,iR (mm:Int)]) [rv ρ (.slice (some ⟨id,off,some sp⟩) k c), .int .i64 (mm:Int)] := .cons hcel (.cons ⟨rfl,rfl⟩ .nil)
 have hc:=hsem w _ hI hus
 have hargs:J9 [dgA (s1u g) k off,iR (mm:Int)] [rv ρ (.slice (some ⟨id,off,some sp⟩) k c), .int .i64 (mm:Int)] =rvL ρ [.slice (some ⟨id,off,some sp⟩) k c, .int .i64 (mm:Int)] :=by
  simp only [rvL,hint]
  rfl
 rw [hargs] at hc
 refine hc.mono fun e w' ⟨us',he,hb,hnew,_⟩=> ?_
 cases hnew with
 | cons h1 h2=>
  cases h2
  obtain⟨rfl,_⟩:=h1
  refine⟨ρ,_,Agree.refl _ _,he,n5 hb hB,fun ρ' ha=>⟨?_,((hS ρ' ha).1).below hb⟩⟩
  simp only [rv,l4]
  rfl
def d1n:List Value->Option (Value×List Prop)
 | [.int .i64 e, .int .i64 m] =>some (.string ⟨⟨S3 (xpV e m.toNat)⟩⟩,[(-9223372036854775808<=e∧e<=9223372036854775807)∧(0<=m∧m<=1000)])
 | _=>none
theorem e1o (args:List Value) (v:Value) (l:List Prop) (h:d1n args=some (v,l)) (hl:d9 l):Ev.Pure zO8 J0 9 args v:=by
 unfold d1n at h
 split at h
 ·cases h
  rename_i e m
  obtain⟨⟨h1,h2⟩,_⟩:=hl
  obtain⟨k,rfl⟩:∃ k:Nat,m=(k:Int):=⟨m.toNat,by omega⟩
  rw [l4]
  exact a1v h1 (by omega)
 ·cases h
def h1g:List Value->Option (Value×List Prop)
 | [.float .f64 x] =>some (.int .i64 (VaS.keyI x),[x < 18446744073709551616])
 | _=>none
theorem j1j (args:List Value) (v:Value) (l:List Prop) (h:h1g args=some (v,l)) (hl:d9 l):Ev.Pure zO8 J0 47 args v:=by
 unfold h1g at h
 split at h
 ·cases h
  exact w0x _ hl.1
 ·cases h
def cI (c:UInt8):Int:=zO2 c.toNat
def mgt (b:Int):List UInt8->Nat->Int->Int×Nat
 | [],k,p=>(p,k)
 | c ::r,k,p=>if p8 (cI c) < b then mgt b r (k+1) p else if c=46∧p < 0 then mgt b r (k+1) k else (p,k)
theorem eH {t:List UInt8} {k:Nat} {c:UInt8} {r:List UInt8} (h:t.drop k=c ::r):chI t (k:Int)=cI c∧t.drop (k+1)=r∧k < t.length:=by
 have hk:k < t.length:=by
  rcases E0 k t.length with h1 | h1
  ·exact h1
  ·rw [List.drop_eq_nil_of_le h1] at h
   cases h
 rw [m0x hk] at h
 injection h with h1 h2
 refine⟨?_,h2,hk⟩
 rw [q0w hk,h1]
 rfl
theorem g1h (t:List UInt8) (b:Int):∀ (s:List UInt8) (k:Nat) (p:Int),t.drop k=s->pY t b s.length k p=mgt b s k p
 | [],k,p,_=>rfl
 | c ::r,k,p,h=>by
  obtain⟨h1,h2,h3⟩:=eH h
  rw [A9]
  unfold pY mgt
  have hd:n1u t k p=decide (c=46∧p < 0):=by
   unfold n1u
   rw [h1]
   unfold cI
   by_cases hc:c=46
   ·subst hc
    show decide (p < 0)=_
    refine zzA167.2 ⟨fun h=>⟨rfl,h⟩,fun h=>h.2⟩
   ·have:((zO2 c.toNat)==46)=false:=by
     refine s6 fun e=>hc ?_
     have e:((c.toNat:Nat):Int)=46:=e
     exact zzA135.1 (show c.toNat=46 by omega)
    rw [this]
    exact (d4 fun h=>hc h.1).symm
  rw [h1,hd,g1h t b r (k+1) p h2,g1h t b r (k+1) k h2]
  simp only [V9]
theorem fZ {c:UInt8} (h:48<=c.toNat∧c.toNat<=57):p8 (cI c)=((c.toNat-48:Nat):Int):=by
 unfold p8 cI
 rw [i6 ⟨by show (48:Int)<=((c.toNat:Nat):Int); omega,by show ((c.toNat:Nat):Int)<=57; omega⟩]
 show ((c.toNat:Nat):Int)-48=_
 omega
theorem cZ:∀ (d:List UInt8) (r:List UInt8) (k:Nat) (p:Int),s7 d=true->mgt 10 (d++r) k p=mgt 10 r (k+d.length) p
 | [],r,k,p,_=>rfl
 | c ::d,r,k,p,h=>by
  obtain⟨h1,h2⟩:=P4 h
  rw [oQ]
  conv=>lhs; unfold mgt
  rw [i6 (by rw [fZ h1]; omega),cZ d r (k+1) p h2,A9,show k+1+d.length=k+(d.length+1) by omega]
theorem c2m (r:List UInt8) (k:Nat):mgt 10 (46 ::r) k (-1)=mgt 10 r (k+1) k:=by
 conv=>lhs; unfold mgt
 rw [a8 (by decide),i6 ⟨rfl,by decide⟩]
theorem t0z {c:UInt8} (hc:c=101∨c=69) (r:List UInt8) (k:Nat) (p:Int):mgt 10 (c ::r) k p=(p,k):=by
 conv=>lhs; unfold mgt
 rcases hc with rfl | rfl
 ·rw [a8 (by decide),a8 (fun h=>absurd h.1 (by decide))]
 ·rw [a8 (by decide),a8 (fun h=>absurd h.1 (by decide))]
def egt:List UInt8->Nat->Int->Int×Nat
 | [],k,n=>(n,k)
 | c ::r,k,n=>if p8 (cI c) < 10 then egt r (k+1) (nxP n (p8 (cI c))) else (n,k)
theorem t1q (t:List UInt8):∀ (s:List UInt8) (k:Nat) (n:Int),t.drop k=s->m0a t s.length k n=egt s k n
 | [],k,n,_=>rfl
 | c ::r,k,n,h=>by
  obtain⟨h1,h2,h3⟩:=eH h
  rw [A9]
  unfold m0a egt
  rw [h1,t1q t r (k+1) _ h2]
theorem zV:∀ (d:List UInt8) (k m:Nat),s7 d=true->m*10 ^d.length+dcN d < 1073741824->egt d k (m:Int)=(((m*10 ^d.length+dcN d:Nat):Int),k+d.length)
 | [],k,m,_,_=>by
  show ((m:Int),k)=(((m*1+0:Nat):Int),k+0)
  rw [y8,I2]
  rfl
 | c ::d,k,m,h,hb=>by
  obtain⟨h1,h2⟩:=P4 h
  have e0:m*10 ^(c ::d).length+dcN (c ::d)=(m*10+(c.toNat-48))*10 ^d.length+dcN d:=by
   rw [T0,A9,v6,x6,m7 m 10,p4 10,<- p1c]
  have hlt:m*10+(c.toNat-48) < 1073741824:=by
   rw [e0] at hb
   have:(m*10+(c.toNat-48))*1<=(m*10+(c.toNat-48))*10 ^d.length:=aQ _ (x7 (by decide))
   omega
  conv=>lhs; unfold egt
  have hw:=fZ h1
  rw [i6 (by rw [hw]; omega)]
  have hn:nxP (m:Int) (p8 (cI c))=((m*10+(c.toNat-48):Nat):Int):=by
   unfold nxP
   rw [hw,i6 (by omega)]
   omega
  rw [hn,zV d (k+1) _ h2 (by rw [<- e0]; exact hb),e0,A9,show k+1+d.length=k+(d.length+1) by omega]
theorem c0r {n:Nat} (h:n < 10):(dgU n).toNat=48+n:=by
 unfold dgU
 rw [b1v]
 exact J5 (by show _ < 256; omega)
theorem i0m {a b:List UInt8} (h1:s7 a=true) (h2:s7 b=true):s7 (a++b)=true:=
 allDB_mem.2 fun c hc=>by
  rcases zzA91.1 hc with h | h
  ·exact allDB_mem.1 h1 c h
  ·exact allDB_mem.1 h2 c h
theorem V8:∀ n:Nat,s7 (fJ n)=true∧dcN (fJ n)=n∧fJ n≠[]
 | n=>by
  rw [p0c]
  by_cases h:n < 10
  ·rw [i6 h]
   refine⟨allDB_mem.2 fun b hb=> ?_,?_,List.cons_ne_nil _ _⟩
   ·rw [zzA133.1 hb,c0r h]
    omega
   ·rw [T0,c0r h]
    show (48+n-48)*1+0=n
    omega
  ·rw [a8 h]
   obtain⟨h1,h2,_⟩:=V8 (n/10)
   have hm:n%10 < 10:=C7 _ (by decide)
   refine⟨i0m h1 (allDB_mem.2 fun b hb=> ?_),?_,by simp⟩
   ·rw [zzA133.1 hb,c0r hm]
    omega
   ·rw [W5,h2,T0,c0r hm]
    show n/10*10 ^1+((48+n%10-48)*1+0)=n
    omega
theorem e2u {t:List UInt8} {k:Nat} {c:UInt8} {r:List UInt8} (h:t.drop k=c ::r):sgB t (k:Int)=decide (c=43∨c=45)∧(chI t (k:Int)==45)=decide (c=45):=by
 obtain⟨h1,_,h3⟩:=eH h
 have q:∀ n:UInt8,((cI c)==cI n)=decide (c=n):=by
  intro n
  by_cases hc:c=n
  ·rw [hc,f9 rfl]
   exact a0o _
  ·rw [d4 hc]
   refine s6 fun e=>hc ?_
   have e:((c.toNat:Nat):Int)=((n.toNat:Nat):Int):=e
   exact zzA135.1 (by omega)
 have q45:=q 45
 have q43:=q 43
 refine⟨?_,by rw [h1]; exact q45⟩
 unfold sgB
 rw [show ltE t (k:Int)=true from f9 (by omega),h1]
 have e43:(cI c==43)=decide (c=43):=q43
 have e45:(cI c==45)=decide (c=45):=q45
 show (match cI c==43 with | true=>true | false=>cI c==45)=_
 rw [e43,e45]
 by_cases h43:c=43
 ·rw [f9 h43,f9 (Or.inl h43)]
 ·rw [d4 h43]
  refine zzA167.2 ⟨Or.inr,fun h=>h.resolve_left h43⟩
theorem j0b (n:Nat):∃ c r,fJ n=c ::r∧48<=c.toNat∧c.toNat<=57:=by
 obtain⟨h1,_,h3⟩:=V8 n
 cases h:fJ n with
 | nil=>exact absurd h h3
 | cons c r=>exact⟨c,r,rfl,allDB_mem.1 h1 c (by rw [h]; exact kG)⟩
theorem t1r {t:List UInt8} {a k m:Nat} (hk:exK t a=k) (h:t.drop k=fJ m) (hm:m < 1000000):(exR t a)=((m:Int),t.length)∧k < t.length:=by
 obtain⟨h1,h2,h3⟩:=V8 m
 have hlen:t.length-k=(fJ m).length:=by rw [<- h,K3]
 have hpos:0 < (fJ m).length:=List.length_pos_iff.2 h3
 unfold exR
 rw [hk,hlen,t1q t (fJ m) k 0 h]
 have:=zV (fJ m) k 0 h1 (by rw [h2]; omega)
 rw [h2,K6,aW] at this
 refine⟨?_,by omega⟩
 rw [show k+(fJ m).length=t.length by omega] at this
 exact this
theorem w1c {u:List UInt8} {c:UInt8} {x:Int} (hc:c=101∨c=69) (hu:u.length<=1000000) (hx: -1000000 < x∧x < 1000000):exV (u++c ::S3 x) eE u.length=x∧exE (u++c ::S3 x) eE u.length=(u++c ::S3 x).length:=by
 have hd0:(u++c ::S3 x).drop u.length=c ::S3 x:=by rw [List.drop_left]
 have hd1:(u++c ::S3 x).drop (u.length+1)=S3 x:=(eH hd0).2.1
 have hlt0:=(eH hd0).2.2
 have htk:(u++c ::S3 x).take (u.length+1)=u++[c] :=by
  rw [show u++c ::S3 x=(u++[c])++S3 x by simp]
  exact List.take_left' (by simp)
 generalize u++c ::S3 x=t at*
 have hhd:hdB t eE (u.length:Int)=false:=by
  unfold hdB
  rw [show geB t (u.length:Int)=false from d4 (by omega)]
  have hs:m2l t (u.length:Int)=[c] :=by
   unfold m2l
   rw [wr (by omega) (by omega),l4,show (((u.length:Nat):Int)+1).toNat=u.length+1 by omega,htk,List.drop_left]
  rw [hs]
  rcases hc with rfl | rfl <;> decide
 have hh:¬hdB t eE (u.length:Int)=true:=by rw [hhd]; decide
 have V:¬(exR t u.length).2=exK t u.length->exV t eE u.length=if exN t u.length=true then -(exR t u.length).1 else (exR t u.length).1:=fun hne=>by unfold exV; rw [a8 hh,a8 hne]
 have E:¬(exR t u.length).2=exK t u.length->exE t eE u.length=(exR t u.length).2:=fun hne=>by unfold exE; rw [a8 hh,a8 hne]
 by_cases h0:x < 0
 ·have e1:S3 x=45 ::fJ (-x).toNat:=by unfold S3; rw [i6 h0]
  rw [e1] at hd1
  obtain⟨s1,s2⟩:=e2u hd1
  have hk:exK t u.length=u.length+2:=by unfold exK; rw [i6 (by rw [s1]; decide)]
  obtain⟨g1,g2⟩:=t1r (m:=(-x).toNat) hk (eH hd1).2.1 (by omega)
  have hn:exN t u.length=true:=by
   unfold exN
   rw [s1,s2]
   decide
  rw [g1,hk] at V E
  have hne:¬t.length=u.length+2:=by omega
  refine⟨?_,E hne⟩
  rw [V hne,i6 hn]
  show -(((-x).toNat:Nat):Int)=x
  omega
 ·have e1:S3 x=fJ x.toNat:=by unfold S3; rw [a8 h0]
  rw [e1] at hd1
  obtain⟨q,r,hq,q1,q2⟩:=j0b x.toNat
  have hd2:=hd1
  rw [hq] at hd2
  obtain⟨s1,s2⟩:=e2u hd2
  have n1:¬(q=43∨q=45):=by
   rintro (h | h)
   ·rw [h] at q1; exact absurd q1 (by decide)
   ·rw [h] at q1; exact absurd q1 (by decide)
  have hsg:sgB t ((u.length+1:Nat):Int)=false:=by rw [s1]; exact d4 n1
  have hk:exK t u.length=u.length+1:=by unfold exK; rw [a8 (by rw [hsg]; decide)]
  obtain⟨g1,g2⟩:=t1r (m:=x.toNat) hk hd1 (by omega)
  have hn:exN t u.length=false:=by
   unfold exN
   rw [hsg]
   rfl
  rw [g1,hk] at V E
  have hne:¬t.length=u.length+1:=by omega
  refine⟨?_,E hne⟩
  rw [V hne,a8 (by rw [hn]; decide)]
  show ((x.toNat:Nat):Int)=x
  omega
structure Mant where
 d1:List UInt8
 d2:List UInt8
 pt:Bool
def Mant.text (m:Mant):List UInt8:=if m.pt=true then m.d1++46 ::m.d2 else m.d1
def Mant.digs (m:Mant):List UInt8:=if m.pt=true then m.d1++m.d2 else m.d1
def Mant.beh (m:Mant):Nat:=if m.pt=true then m.d2.length else 0
def Mant.ok (m:Mant):Prop:=s7 m.d1=true∧s7 m.d2=true∧m.digs≠[] ∧m.text.length<=1000
theorem Mant.run (m:Mant) (h:m.ok) {c:UInt8} (hc:c=101∨c=69) (r:List UInt8):mgt 10 (m.text++c ::r) 0 (-1)=(if m.pt=true then (m.d1.length:Int) else -1,m.text.length):=by
 obtain⟨h1,h2,_,_⟩:=h
 obtain⟨d1,d2,pt⟩:=m
 cases pt with
 | true=>
  show mgt 10 ((d1++46 ::d2)++c ::r) 0 (-1)=((d1.length:Int),(d1++46 ::d2).length)
  rw [a0g,cZ d1 _ 0 (-1) h1,aW,oQ,c2m,cZ d2 _ _ _ h2,t0z hc,F6,A9]
  congr 1
  omega
 | false=>
  show mgt 10 (d1++c ::r) 0 (-1)=(-1,d1.length)
  rw [cZ d1 _ 0 (-1) h1,t0z hc,aW]
theorem t2f {t:List UInt8} (h:∀ c∈t,c≠120∧c≠88):hxB t=false:=by
 unfold hxB
 cases h0B t with
 | false=>rfl
 | true=>
  have q:∀ n:UInt8,n≠0->(∀ c∈t,c≠n)->(chI t 1==cI n)=false:=by
   intro n hn hne
   refine s6 fun e=> ?_
   have e:(((t.getD 1 0).toNat:Nat):Int)=((n.toNat:Nat):Int):=e
   have e2:t.getD 1 0=n:=zzA135.1 (by omega)
   rw [mE] at e2
   cases hg:t[1]? with
   | none=>rw [hg] at e2; exact hn e2.symm
   | some c=>
    rw [hg] at e2
    exact hne c (a0j hg) e2
  have q1:=q 120 (by decide) fun c hc=>(h c hc).1
  have q2:=q 88 (by decide) fun c hc=>(h c hc).2
  show (match chI t 1==cI 120 with | true=>true | false=>chI t 1==cI 88)=false
  rw [q1,q2]
theorem zX {m:Mant} (h:m.ok) {c:UInt8} (hc:c∈m.text):(48<=c.toNat∧c.toNat<=57)∨c=46:=by
 obtain⟨h1,h2,_,_⟩:=h
 unfold Mant.text at hc
 split at hc
 ·rcases zzA91.1 hc with h | h
  ·exact .inl (allDB_mem.1 h1 c h)
  ·rcases zzA83.1 h with h | h
   ·exact .inr h
   ·exact .inl (allDB_mem.1 h2 c h)
 ·exact .inl (allDB_mem.1 h1 c hc)
theorem m1v {x:Int} {c:UInt8} (hc:c∈S3 x):(48<=c.toNat∧c.toNat<=57)∨c=45:=by
 unfold S3 at hc
 split at hc
 ·rcases zzA83.1 hc with h | h
  ·exact .inr h
  ·exact .inl (allDB_mem.1 (V8 _).1 c h)
 ·exact .inl (allDB_mem.1 (V8 _).1 c hc)
def D6 (m:Mant) (c:UInt8) (x:Int):List UInt8:=m.text++c ::S3 x
theorem n1p {m:Mant} {e:UInt8} {x:Int} (h:m.ok) (he:e=101∨e=69) {c:UInt8} (hc:c∈D6 m e x):((48<=c.toNat∧c.toNat<=57)∨c=46)∨c=101∨c=69∨c=45:=by
 rcases zzA91.1 hc with h1 | h1
 ·exact .inl (zX h h1)
 ·rcases zzA83.1 h1 with h2 | h2
  ·rcases he with rfl | rfl
   ·exact .inr (.inl h2)
   ·exact .inr (.inr (.inl h2))
  ·rcases m1v h2 with h3 | h3
   ·exact .inl (.inl h3)
   ·exact .inr (.inr (.inr h3))
theorem a1k {m:Mant} {c:UInt8} {x:Int} (h:m.ok) (hc:c=101∨c=69) (hx: -1000000 < x∧x < 1000000):
  S4 (D6 m c x)=false∧eN (D6 m c x)=m.digs∧lB (D6 m c x)=x- (m.beh:Int)∧lV (D6 m c x)=(D6 m c x).length:=by
 have hxb:hxB (D6 m c x)=false:=t2f fun b hb=>by
  have key:∀ n:UInt8,((48<=n.toNat∧n.toNat<=57)∨n=46)∨n=101∨n=69∨n=45->n≠120∧n≠88:=by
   intro n hn
   refine⟨fun e=> ?_,fun e=> ?_⟩
   ·subst e; revert hn; decide
   ·subst e; revert hn; decide
  exact key b (n1p h hc hb)
 have hH:S4 (D6 m c x)=false:=by unfold S4; rw [hxb]; rfl
 have hrun:=Mant.run m h hc (S3 x)
 have hgo:pY (D6 m c x) 10 ((D6 m c x).length-0) 0 (-1)=(if m.pt=true then (m.d1.length:Int) else -1,m.text.length):=by
  rw [y0d,g1h (D6 m c x) 10 (D6 m c x) 0 (-1) rfl]
  exact hrun
 have hP:maP (D6 m c x) 0 10=if m.pt=true then (m.d1.length:Int) else -1:=by unfold maP; rw [hgo]
 have hE:maE (D6 m c x) 0 10=m.text.length:=by unfold maE; rw [hgo]
 have hS:maS (D6 m c x) 0 10=m.digs:=by
  unfold maS Mant.digs
  have htk:(D6 m c x).take m.text.length=m.text:=pA
  cases hp:m.pt with
  | false=>
   rw [hp,a8 (by decide)] at hP
   rw [hP,hE,htk,i6 (by decide),a8 (by decide),sU]
   unfold Mant.text
   rw [hp,a8 (by decide)]
  | true=>
   rw [hp,i6 rfl] at hP
   rw [hP,hE,htk,a8 (by omega),i6 rfl,l4,sU]
   have e1:m.text=m.d1++46 ::m.d2:=by unfold Mant.text; rw [hp,i6 rfl]
   have e2:(D6 m c x).take m.d1.length=m.d1:=by
    unfold D6
    rw [e1,a0g]
    exact pA
   rw [e2,e1,show m.d1++46 ::m.d2=(m.d1++[46])++m.d2 by simp]
   congr 1
   exact List.drop_left' (by simp)
 have hB:maB (D6 m c x) 0 10=(m.beh:Int):=by
  unfold maB Mant.beh
  cases hp:m.pt with
  | false=>
   rw [hp,a8 (by decide)] at hP
   rw [hP,i6 (by decide),a8 (by decide)]
   rfl
  | true=>
   rw [hp,i6 rfl] at hP
   rw [hP,hE,a8 (by omega),i6 rfl]
   have e1:m.text=m.d1++46 ::m.d2:=by unfold Mant.text; rw [hp,i6 rfl]
   rw [e1,F6,A9]
   omega
 obtain⟨r1,r2⟩:=w1c (u:=m.text) hc (by have:=h.2.2.2; omega) hx
 have hne:¬m.digs=[] :=h.2.2.1
 refine⟨hH,?_,?_,?_⟩
 ·unfold eN
  rw [a8 (by rw [hH]; decide)]
  exact hS
 ·unfold lB
  rw [a8 (by rw [hH]; decide),hS,a8 hne,hE,hB]
  have r1:exV (D6 m c x) eE m.text.length=x:=r1
  rw [r1]
 ·unfold lV
  rw [a8 (by rw [hH]; decide),hS,a8 hne,hE]
  exact r2
theorem q1q {m:Mant} {c:UInt8} {x:Int} (h:m.ok) (hx: -1000 < x∧x < 1000):(D6 m c x).length<=2010:=by
 have h1:=h.2.2.2
 have h2:(S3 x).length<=1002:=by
  unfold S3
  split
  ·have:=dW (-x).toNat
   rw [A9]
   omega
  ·have:=dW x.toNat
   omega
 unfold D6
 rw [F6,A9]
 omega
theorem j0j {m:Mant} {c:UInt8} {x:Int} (h:m.ok):∃ b r,D6 m c x=b ::r∧((48<=b.toNat∧b.toNat<=57)∨b=46):=by
 cases ht:m.text with
 | nil=>
  exfalso
  apply h.2.2.1
  unfold Mant.text at ht
  unfold Mant.digs
  split at ht
  ·exact absurd ht (by simp)
  ·rename_i hp
   rw [a8 hp]
   exact ht
 | cons b r=>
  refine⟨b,r++c ::S3 x,?_,zX h (by rw [ht]; exact kG)⟩
  unfold D6
  rw [ht]
  rfl
inductive Sgn where
 | no
 | plus
 | minus
def Sgn.text:Sgn->List UInt8
 | .no=>[]
 | .plus=>[43]
 | .minus=>[45]
def Sgn.neg:Sgn->Bool
 | .minus=>true
 | _=>false
theorem k1m {s:Sgn} {m:Mant} {c:UInt8} {x:Int} (h:m.ok):wA (s.text++D6 m c x)=s.neg∧x5 (s.text++D6 m c x)=D6 m c x:=by
 obtain⟨b,r,hb,hr⟩:=j0j (c:=c) (x:=x) h
 unfold wA x5 spB neB
 cases s with
 | no=>
  have n45:∀ n:UInt8,((48<=n.toNat∧n.toNat<=57)∨n=46)->(((n.toNat:Nat):Int)==45)=false∧(((n.toNat:Nat):Int)==43)=false:=by
   intro n hn
   have hn:(48<=n.toNat∧n.toNat<=57)∨n.toNat=46:=hn.imp id fun e=>by rw [e]; rfl
   exact⟨s6 (by omega),s6 (by omega)⟩
  obtain⟨q1,q2⟩:=n45 b hr
  show ((match !(D6 m c x==[]) with | true=>(match chI (D6 m c x) 0==45 with | true=>true | false=>chI (D6 m c x) 0==43) | false=>false) && _)=false∧(if (match !(D6 m c x==[]) with | true=>(match chI (D6 m c x) 0==45 with | true=>true | false=>chI (D6 m c x) 0==43) | false=>false)=true then _ else D6 m c x)=_
  have e0:chI (D6 m c x) 0=((b.toNat:Nat):Int):=by rw [hb]; rfl
  have e1:(D6 m c x==[])=false:=by rw [hb]; rfl
  rw [e0,e1,q1,q2]
  exact⟨rfl,rfl⟩
 | plus=>exact⟨rfl,rfl⟩
 | minus=>exact⟨rfl,rfl⟩
open Go Go.RowKit Ev Wd VaS
theorem d1s {t u:List UInt8} {b c:UInt8} {r q:List UInt8} (h1:t=b ::r) (h2:u=c ::q) (hn:b≠c):(t==u)=false:=by
 subst h1 h2
 refine s6 fun e=>hn ?_
 injection e
section
variable {s:Sgn} {m:Mant} {c:UInt8} {x:Int} (h:m.ok) (hc:c=101∨c=69) (hx: -1000 < x∧x < 1000)
include h hc hx
theorem o1e:rdE (s.text++D6 m c x)=0∧rdI (s.text++D6 m c x)=false∧rdN (s.text++D6 m c x)=s.neg∧l1v (s.text++D6 m c x)=false∧l1x (s.text++D6 m c x)=m.digs∧l1l (s.text++D6 m c x)=x- (m.beh:Int):=by
 obtain⟨g1,g2⟩:=k1m (s:=s) (c:=c) (x:=x) h
 obtain⟨r1,r2,r3,r4⟩:=a1k h hc (x:=x) ⟨by omega,by omega⟩
 obtain⟨b,r,hb,hr⟩:=j0j (c:=c) (x:=x) h
 have hlen:=q1q (c:=c) h hx
 have hsl:s.text.length<=1:=by cases s <;> decide
 have hL:rdL (s.text++D6 m c x)=false:=by
  unfold rdL
  rw [F6]
  exact d4 (by show ¬((8192:Int) < ((s.text.length+(D6 m c x).length:Nat):Int)); omega)
 have hbn:∀ n:UInt8,n.toNat=78∨n.toNat=73->b≠n:=by
  intro n hn e
  rw [<- e] at hn
  rcases hr with hr | hr
  ·omega
  ·rw [hr] at hn; revert hn; decide
 have hF:rdF (s.text++D6 m c x)=false:=by
  unfold rdF
  cases s with
  | no=>exact d1s (c:=78) (q:=[97,78]) (show [] ++D6 m c x=b ::r from hb) rfl (hbn 78 (.inl rfl))
  | plus=>rfl
  | minus=>rfl
 have hG:rdG (s.text++D6 m c x)=false:=by
  unfold rdG
  rw [g2]
  exact d1s (c:=73) (q:=[110,102]) hb rfl (hbn 73 (.inr rfl))
 have hP:rdP (s.text++D6 m c x)=true:=by unfold rdP; rw [hL,hF,hG]; rfl
 have hpos:0 < (D6 m c x).length:=by rw [hb]; exact Nat.zero_lt_succ _
 have hNo:x1h (s.text++D6 m c x)=false:=by
  unfold x1h
  rw [g2,r4]
  have e1:((((D6 m c x).length:Nat):Int)==0)=false:=s6 (by omega)
  rw [e1]
  simp
 have hOk:k2p (s.text++D6 m c x)=true:=by unfold k2p; rw [hP,hNo]; rfl
 refine⟨?_,?_,?_,?_,?_,?_⟩
 ·unfold rdE; rw [hL,hP,hNo]; rfl
 ·unfold rdI; rw [hL,hF,hG]; rfl
 ·unfold rdN; rw [hOk,g1]; rfl
 ·unfold l1v; rw [hP,g2,r1]; rfl
 ·unfold l1x; rw [hP,g2,r2]; rfl
 ·unfold l1l; rw [hP,g2,r3]; rfl
end
theorem d2g {m:Mant} (h:m.ok):s7 m.digs=true∧m.digs.length<=1000∧m.beh<=1000:=by
 obtain⟨h1,h2,_,h4⟩:=h
 unfold Mant.digs Mant.beh
 unfold Mant.text at h4
 split
 ·rename_i hp
  rw [i6 hp,F6,A9] at h4
  exact⟨i0m h1 h2,by rw [F6]; omega,by omega⟩
 ·rename_i hp
  rw [a8 hp] at h4
  exact⟨h1,h4,by omega⟩
def txW (K:Nat) (L:Int) (m:Mant) (x:Int):Nat:=dcW K L (dcN m.digs) (x- (m.beh:Int))
theorem w0t {W:Nat} (h:¬9218868437227405312<=W):min W 9218868437227405312=W:=D4 (by omega)
theorem e1f {s:Sgn} {m:Mant} {c:UInt8} {x:Int} (h:m.ok) (hc:c=101∨c=69) (hx: -1000 < x∧x < 1000):
  paE (s.text++D6 m c x)=(if 9218868437227405312<=txW 53 (-1074) m x then 15 else 0)∧paW (s.text++D6 m c x)=if 9218868437227405312<=txW 53 (-1074) m x then 0 else if s.neg=true then txW 53 (-1074) m x+9223372036854775808 else txW 53 (-1074) m x:=by
 obtain⟨r1,r2,r3,r4,r5,r6⟩:=o1e (s:=s) h hc hx
 obtain⟨d1,d2,d3⟩:=d2g h
 obtain⟨w1,w2⟩:=g2x (d:=m.digs) (e:=x- (m.beh:Int)) d1 (by omega)
 have hX:paX (s.text++D6 m c x)=min (txW 53 (-1074) m x) 9218868437227405312:=by
  unfold paX nrW
  rw [r4,r5,r6,a8 (by decide)]
  exact w1
 have hZ:paZ (s.text++D6 m c x)=0:=by
  unfold paZ nrE
  rw [r4,r5,r6,a8 (by decide)]
  exact w2
 have hB:paB (s.text++D6 m c x)=false:=by
  unfold paB
  rw [r1,r2]
  rfl
 have hle:paX (s.text++D6 m c x)<=9218868437227405312:=by rw [hX]; exact Nat.min_le_right _ _
 have hI:paI (s.text++D6 m c x)=decide (9218868437227405312<=txW 53 (-1074) m x):=by
  unfold paI
  rw [hZ,p0r (A5 hle (by decide)),s1w hle (by decide),hX]
  show decide (9218868437227405311 < min (txW 53 (-1074) m x) 9218868437227405312)=_
  refine zzA167.2 ⟨fun q=> ?_,fun q=> ?_⟩
  ·have:=Nat.lt_min.1 q
   omega
  ·exact Nat.lt_min.2 ⟨by omega,by omega⟩
 have hb:¬paB (s.text++D6 m c x)=true:=by rw [hB]; decide
 have hE:paE (s.text++D6 m c x)=if paI (s.text++D6 m c x)=true then 15 else paZ (s.text++D6 m c x):=by unfold paE; rw [a8 hb]
 have hW:paW (s.text++D6 m c x)=if paI (s.text++D6 m c x)=true then 0 else if paZ (s.text++D6 m c x)≠0 then 0 else sgV (paX (s.text++D6 m c x)) (rdN (s.text++D6 m c x)):=by unfold paW; rw [a8 hb]
 rw [hE,hW,hI,hZ]
 by_cases hi:9218868437227405312<=txW 53 (-1074) m x
 ·rw [f9 hi,i6 hi,i6 hi]
  exact⟨rfl,rfl⟩
 ·rw [d4 hi,a8 hi,a8 hi]
  refine⟨rfl,?_⟩
  show sgV (paX (s.text++D6 m c x)) (rdN (s.text++D6 m c x))=_
  rw [r3,hX,w0t hi]
  unfold sgV
  split
  ·exact j2q (by omega)
  ·rfl
end Go.Proofs.YtbdaebagmmmijaaGreatDoor
namespace Go.Proofs.YtbdaebagmmmijaaGreatDoor
open Go Go.RowKit Ev
def dgB (b:Int) (c:UInt8):Bool:=decide (p8 (zO2 c.toNat) < b)
theorem p0f {t:List UInt8} {k:Nat} (h:k < t.length):t.drop k=t.getD k 0 ::t.drop (k+1):=by
 rw [m0x h]
 simp [List.getD,List.getElem?_eq_getElem h]
def w2V (c:Int):Int:=if 48<=c∧c<=57 then c-48 else if 97<=c∧c<=102 then c-87 else if 65<=c∧c<=70 then c-55 else 99
section
variable (c:Int)
theorem s2i:b7 e2a [] 200 43 [.int .u8 c] [true] =some (.int .i64 (iI.wrap (uB.wrap (c-zO2 48))),[inC 48 57 c=true]):=by kernel_rfl
theorem s2g:b7 e2a [] 200 43 [.int .u8 c] [false,true] =some (.int .i64 (iI.wrap (iI.wrap (uB.wrap (c-zO2 97))+zO2 10)),[inC 97 102 c=true,inC 48 57 c=false]):=by kernel_rfl
theorem r2h:b7 e2a [] 200 43 [.int .u8 c] [false,false,true] =some (.int .i64 (iI.wrap (iI.wrap (uB.wrap (c-zO2 65))+zO2 10)),[inC 65 70 c=true,inC 97 102 c=false,inC 48 57 c=false]):=by kernel_rfl
theorem r2t:b7 e2a [] 200 43 [.int .u8 c] [false,false,false] =some (.int .i64 99,[inC 65 70 c=false,inC 97 102 c=false,inC 48 57 c=false]):=by kernel_rfl
end
theorem r0d {c:Int} (h0:0<=c) (h1:c < 256):Ev.Pure zO8 J0 43 [.int .u8 c] (.int .i64 (w2V c)):=by
 unfold w2V
 by_cases a:48<=c∧c<=57
 ·rw [i6 a]
  exact dL (x8 mR (s2i c) ⟨inB_iff.2 a,a7⟩) (by rw [show zO2 48=48 from rfl,y0x (by omega) (by omega),bG (by omega) (by omega)])
 rw [a8 a]
 by_cases b:97<=c∧c<=102
 ·rw [i6 b]
  exact dL (x8 mR (s2g c) ⟨inB_iff.2 b,inB_not.2 a,a7⟩) (by rw [show zO2 97=97 from rfl,show zO2 10=10 from rfl,y0x (by omega) (by omega),bG (n:=c-97) (by omega) (by omega),bG (by omega) (by omega)]; omega)
 rw [a8 b]
 by_cases d:65<=c∧c<=70
 ·rw [i6 d]
  exact dL (x8 mR (r2h c) ⟨inB_iff.2 d,inB_not.2 b,inB_not.2 a,a7⟩) (by rw [show zO2 65=65 from rfl,show zO2 10=10 from rfl,y0x (by omega) (by omega),bG (n:=c-65) (by omega) (by omega),bG (by omega) (by omega)]; omega)
 rw [a8 d]
 exact x8 mR (r2t c) ⟨inB_not.2 d,inB_not.2 b,inB_not.2 a,a7⟩
theorem j2c {c b:Int} (hb:b<=16):w2V c < b↔p8 c < b:=by
 unfold w2V p8
 split
 ·rfl
 split
 ·rfl
 split
 ·rfl
 ·omega
def j1d:List Value->Option (Value×List Prop)
 | [.int .u8 c] =>some (.int .i64 (w2V c),[0<=c∧c < 256])
 | _=>none
theorem d1u (args:List Value) (v:Value) (l:List Prop) (h:j1d args=some (v,l)) (hl:d9 l):Ev.Pure zO8 J0 43 args v:=by
 unfold j1d at h
 split at h
 ·cases h; exact r0d hl.1.1 hl.1.2
 ·cases h
def b1z:Tab:=l7 43 j1d s0p
theorem k0y:R8 zO8 J0 b1z:=b8 d1u rP
def bNc0:Base:=⟨zO8,J0,false,b1z,D1,2000,J2⟩
theorem sM:BaseOk bNc0:=⟨progOk,k0y,n8 _ _,m4⟩
abbrev z0e:=bNc0.cx 12
def cFi:Code:=A3 zO8 217 0
def tFi (t:List UInt8) (a b i:Int):St:=⟨only 29 [(0, .string ⟨⟨t⟩⟩),(1, .int .u8 a),(2, .int .u8 b),(6, .int .i64 0),(7, .int .i64 i)],J0.tabs,11,[],[],0,none,[],11⟩
def tFr (i:Int):St:=⟨only 29 [(6, .int .i64 i)],J0.tabs,11,[],[],0,none,[],11⟩
def fsB (t:List UInt8) (a b k:Int):Bool:=match chI t k==a with | true=>true | false=>chI t k==b
def fsP (t:List UInt8) (a k:Int):Prop:=B8 [(5,chI t k==a)] [(5,false)] ->0<=k∧k.toNat < t.length
section
variable (t:List UInt8) (a b i:Int)
theorem i2i (hl:d9 [fsB t a b i=true,fsP t a i,inP t i,ltE t i=true]):r7 z0e cFi (tFi t a b i) .ret (tFr i):=
 d6 (a6 sM 12).1 progOk.mixed [] 200 [true,true] [] (by kernel_rfl) hl (by kernel_rfl) (by kernel_rfl)
theorem p2e (hl:d9 [fsB t a b i=false,fsP t a i,inP t i,ltE t i=true]):r7 z0e cFi (tFi t a b i) .normal (tFi t a b (iI.wrap (i+1))):=
 d6 (a6 sM 12).1 progOk.mixed [] 200 [true,false] [] (by kernel_rfl) hl (by kernel_rfl) (by kernel_rfl)
theorem h2w (hl:d9 [ltE t i=false]):r7 z0e cFi (tFi t a b i) (.exit 0) (tFi t a b i):=
 d6 (a6 sM 12).1 progOk.mixed [] 200 [false] [] (by kernel_rfl) hl (by kernel_rfl) (by kernel_rfl)
theorem n2g:b7 z0e [N5 .ret (fun _=>tFr i)] 200 217 [.string ⟨⟨t⟩⟩, .int .u8 a, .int .u8 b] [] =some (.int .i64 i,[b9 z0e cFi (t7 z0e 200 217 [.string ⟨⟨t⟩⟩, .int .u8 a, .int .u8 b] J0.tabs zO8.globals.size []) .ret (tFr i)]):=by kernel_rfl
theorem n2q:b7 z0e [N5 (.exit 0) (fun _=>tFi t a b i)] 200 217 [.string ⟨⟨t⟩⟩, .int .u8 a, .int .u8 b] [] =some (.int .i64 (zO2 t.length),[b9 z0e cFi (t7 z0e 200 217 [.string ⟨⟨t⟩⟩, .int .u8 a, .int .u8 b] J0.tabs zO8.globals.size []) (.exit 0) (tFi t a b i)]):=by kernel_rfl
theorem h1j {x:AX} {s':St} (h:b9 z0e cFi (tFi t a b ((0:Nat):Int)) x s'):b9 z0e cFi (t7 z0e 200 217 [.string ⟨⟨t⟩⟩, .int .u8 a, .int .u8 b] J0.tabs zO8.globals.size []) x s':=
 l9 h [] (by kernel_rfl) (by kernel_rfl) (by kernel_rfl)
end
def fsN (a b:Int):List UInt8->Nat
 | [] =>0
 | c ::r=>if fsB (c ::r) a b 0=true then 0 else fsN a b r+1
theorem t0k (a b:Int):∀ t:List UInt8,fsN a b t<=t.length∧(∀ i:Nat,i < fsN a b t->fsB t a b (i:Int)=false)∧(fsN a b t < t.length->fsB t a b ((fsN a b t:Nat):Int)=true)
 | [] =>⟨d5 _,fun i h=>by simp [fsN] at h,fun h=>by simp [fsN] at h⟩
 | c ::r=>by
  obtain⟨h1,h2,h3⟩:=t0k a b r
  unfold fsN
  by_cases hb:fsB (c ::r) a b 0=true
  ·rw [i6 hb]
   exact⟨o8 _,fun i h=>by omega,fun _=>hb⟩
  ·rw [a8 hb]
   refine⟨by rw [A9]; omega,fun i h=> ?_,fun h=> ?_⟩
   ·cases i with
    | zero=>exact Bool.eq_false_iff.2 hb
    | succ i=>exact h2 i (by omega)
   ·exact h3 (by rw [A9] at h; omega)
theorem q1b {t:List UInt8} {i:Nat} (h:i < t.length):ltE t (i:Int)=true:=f9 (by omega)
theorem i2z {t:List UInt8} {i:Nat} (h:¬i < t.length):ltE t (i:Int)=false:=d4 (by omega)
theorem n0u {t:List UInt8} {i:Nat} (h:i < t.length):inP t (i:Int):=⟨w8 _,h⟩
theorem w0o {t:List UInt8} {a b:Int} (hl:t.length < 9223372036854775807):Ev.Pure zO8 J0 217 [.string ⟨⟨t⟩⟩, .int .u8 a, .int .u8 b] (.int .i64 (fsN a b t)):=by
 obtain⟨h1,h2,h3⟩:=t0k a b t
 have go:∀ i,i < fsN a b t->r7 z0e cFi (tFi t a b ((i:Nat):Int)) .normal (tFi t a b ((i+1:Nat):Int)):=fun i hi=>by
  have:=p2e t a b i ⟨h2 i hi,fun _=>n0u (by omega),n0u (by omega),q1b (by omega),a7⟩
  rw [wr (by omega) (by omega)] at this
  exact this
 by_cases hlt:fsN a b t < t.length
 ·exact x8 sM (n2g t a b (fsN a b t:Int)) ⟨h1j t a b (v7 (fun i=>tFi t a b ((i:Nat):Int)) (fsN a b t) (by intro e; cases e) go (i2i t a b _ ⟨h3 hlt,fun _=>n0u hlt,n0u hlt,q1b hlt,a7⟩)),a7⟩
 ·have he:fsN a b t=t.length:=by omega
  have:=x8 sM (n2q t a b (fsN a b t:Int)) ⟨h1j t a b (v7 (fun i=>tFi t a b ((i:Nat):Int)) (fsN a b t) (by intro e; cases e) go (h2w t a b _ ⟨i2z hlt,a7⟩)),a7⟩
  rw [he]
  exact this
def i1o:List Value->Option (Value×List Prop)
 | [.string ⟨⟨t⟩⟩, .int .u8 a, .int .u8 b] =>some (.int .i64 (fsN a b t),[t.length < 9223372036854775807])
 | _=>none
theorem g1f (args:List Value) (v:Value) (l:List Prop) (h:i1o args=some (v,l)) (hl:d9 l):Ev.Pure zO8 J0 217 args v:=by
 unfold i1o at h
 split at h
 ·cases h; exact w0o hl.1
 ·cases h
def sgT (t:List UInt8) (k:Int):Bool:=match chI t k==43 with | true=>true | false=>chI t k==45
def m1 (t:List UInt8) (k:Int):Bool:=match chI t k==101 with | true=>true | false=>chI t k==69
def m2 (t:List UInt8) (k:Int):Bool:=match m1 t k with | true=>true | false=>chI t k==112
def n1 (t:List UInt8) (k:Int):Bool:=match decide (w2V (chI t k) < 99) with | true=>true | false=>chI t k==46
def n2 (t:List UInt8) (k:Int):Bool:=match n1 t k with | true=>true | false=>chI t k==120
def n3 (t:List UInt8) (k:Int):Bool:=match n2 t k with | true=>true | false=>chI t k==88
def v1n:Tab:=l7 217 i1o b1z
theorem d1m:R8 zO8 J0 v1n:=b8 g1f k0y
def bNc1:Base:=⟨zO8,J0,false,v1n,D1,2000,J2⟩
theorem cK:BaseOk bNc1:=⟨progOk,d1m,n8 _ _,m4⟩
abbrev e0g:=bNc1.cx 12
def cMn:Code:=A3 zO8 218 0
def tMz (t:List UInt8) (b p i:Int):St:=⟨only 53 [(0, .string ⟨⟨t⟩⟩),(1, .int .i64 b),(4, .string ⟨⟨[]⟩⟩),(5, .int .i64 0),(6, .bool false),(7, .slice none 0 0),(8, .int .i64 p),(9, .int .i64 i)],J0.tabs,11,[],[],0,none,[],11⟩
def tMn (t:List UInt8) (b:Int) (ns:List Int) (m:Nat) (p i:Int):St:=⟨only 53 [(0, .string ⟨⟨t⟩⟩),(1, .int .i64 b),(4, .string ⟨⟨[]⟩⟩),(5, .int .i64 0),(6, .bool false),(7, .slice (some ⟨12,0,some 13⟩) m 0),(8, .int .i64 p),(9, .int .i64 i)],[(12, .row 5 1 (.ints .u8 ns) 13)] ++J0.tabs,14,[],[],0,none,[],11⟩
def tMr:St:=⟨only 53 [(4, .string ⟨⟨[]⟩⟩),(5, .int .i64 0),(6, .bool false)],J0.tabs,11,[],[],0,none,[],11⟩
section
variable (t:List UInt8) (b:Int) (ns:List Int) (m:Nat) (p i:Int)
end
def rmL (b:Int):List UInt8->List UInt8->Int->Option (List UInt8×Int)
 | [],acc,p=>some (acc,p)
 | c ::r,acc,p=>if c=46∧(!decide (p < 0))=false then rmL b r acc acc.length else if dgB b c=true then rmL b r (acc++[c]) p else none
def qU (c:UInt8):Int:=zO2 c.toNat
def sMn (t:List UInt8) (b:Int) (x:Nat×List UInt8×Int):St:=if x.2.1=[] then tMz t b x.2.2 x.1 else tMn t b (x.2.1.map qU) x.2.1.length x.2.2 x.1
def s2k (t:List UInt8) (b:Int) (R:Option (List UInt8×Int)) (x:Nat×List UInt8×Int):Prop:=x.1<=t.length∧rmL b (t.drop x.1) x.2.1 x.2.2=R∧x.2.1.length<=x.1∧(x.2.2= -1∨(0<=x.2.2∧x.2.2<=x.2.1.length))
inductive NxM (t:List UInt8) (b:Int) (R:Option (List UInt8×Int)) (x:Nat×List UInt8×Int):Prop
 | go (y:Nat×List UInt8×Int):s2k t b R y->y.1=x.1+1->r7 e0g cMn (sMn t b x) .normal (sMn t b y)->NxM t b R x
 | bad:R=none->r7 e0g cMn (sMn t b x) .ret tMr->NxM t b R x
 | fin:R=some x.2->x.1=t.length->r7 e0g cMn (sMn t b x) (.exit 0) (sMn t b x)->NxM t b R x
def cWh:Code:=A3 zO8 11 0
def tWh (t:List UInt8) (g:Bool) (n i:Int):St:=⟨only 49 [(0, .string ⟨⟨t⟩⟩),(2, .int .i64 0),(3, .bool false),(4, .bool g),(5, .int .i64 n),(6, .int .i64 i)],J0.tabs,11,[],[],0,none,[],11⟩
def tWr:St:=⟨only 49 [(2, .int .i64 0),(3, .bool false)],J0.tabs,11,[],[],0,none,[],11⟩
def d9B (t:List UInt8) (k:Int):Bool:=decide (zO2 9 < w2V (chI t k))
def nxQ (n w:Int):Int:=if iI.wrap (iI.wrap (zO2 10*n)+w) < zO2 1099511627776 then iI.wrap (iI.wrap (zO2 10*n)+w) else zO2 1099511627776
def wsB (t:List UInt8):Bool:=match neB t with | true=>sgT t 0 | false=>false
def n2h (t:List UInt8):Prop:=B8 [(6,chI t 0==43),(2,neB t)] [(6,false),(2,true)] ->(0:Int)<=0∧(0:Int).toNat < t.length
def m2e (t:List UInt8):Prop:=B8 [(2,neB t)] [(2,true)] ->(0:Int)<=0∧(0:Int).toNat < t.length
def q0p (t:List UInt8) (ds:List Bool) (x:AX) (s:St):Prop:=b9 e0g cWh (t7 e0g 200 11 [.string ⟨⟨t⟩⟩] J0.tabs zO8.globals.size ds) x s
def k2q (t:List UInt8):List Prop:=[zO2 0<=zO2 1∧zO2 1<=zO2 t.length,zO2 0<=zO2 0∧0 < t.length,wsB t=true,n2h t,m2e t]
def m2d (t:List UInt8):List Prop:=[wsB t=false,n2h t,m2e t]
section
variable (t r:List UInt8) (g:Bool) (n i:Int)
theorem n2i (hl:d9 [chP t i,inP t i,d9B t i=false,chP t i,inP t i,ltE t i=true]):r7 e0g cWh (tWh t g n i) .normal (tWh t g (nxQ n (w2V (chI t i))) (iI.wrap (i+1))):=
 d6 (a6 cK 12).1 progOk.mixed [] 200 [true,false] [] (by kernel_rfl) hl (by kernel_rfl) (by kernel_rfl)
theorem e2r (hl:d9 [d9B t i=true,chP t i,inP t i,ltE t i=true]):r7 e0g cWh (tWh t g n i) .ret tWr:=
 d6 (a6 cK 12).1 progOk.mixed [] 200 [true,true] [] (by kernel_rfl) hl (by kernel_rfl) (by kernel_rfl)
theorem i2j (hl:d9 [ltE t i=false]):r7 e0g cWh (tWh t g n i) (.exit 0) (tWh t g n i):=
 d6 (a6 cK 12).1 progOk.mixed [] 200 [false] [] (by kernel_rfl) hl (by kernel_rfl) (by kernel_rfl)
theorem q2d:b7 e0g [N5 (.exit 0) (fun _=>tWh r g n i)] 200 11 [.string ⟨⟨t⟩⟩] [true,true] =some (.tuple ⟨[.int .i64 (iI.wrap (0-n)), .bool (!(r==([] :List UInt8)))]⟩,(g=true) ::q0p t [true,true] (.exit 0) (tWh r g n i) ::k2q t):=by kernel_rfl
theorem p2j:b7 e0g [N5 (.exit 0) (fun _=>tWh r g n i)] 200 11 [.string ⟨⟨t⟩⟩] [true,false] =some (.tuple ⟨[.int .i64 n, .bool (!(r==([] :List UInt8)))]⟩,(g=false) ::q0p t [true,false] (.exit 0) (tWh r g n i) ::k2q t):=by kernel_rfl
theorem n2z:b7 e0g [N5 (.exit 0) (fun _=>tWh r g n i)] 200 11 [.string ⟨⟨t⟩⟩] [false,false] =some (.tuple ⟨[.int .i64 n, .bool (!(r==([] :List UInt8)))]⟩,(g=false) ::q0p t [false,false] (.exit 0) (tWh r g n i) ::m2d t):=by kernel_rfl
theorem m2x:b7 e0g [N5 .ret (fun _=>tWr)] 200 11 [.string ⟨⟨t⟩⟩] [true] =some (.tuple ⟨[.int .i64 0, .bool false]⟩,q0p t [true] .ret tWr ::k2q t):=by kernel_rfl
theorem o2x:b7 e0g [N5 .ret (fun _=>tWr)] 200 11 [.string ⟨⟨t⟩⟩] [false] =some (.tuple ⟨[.int .i64 0, .bool false]⟩,q0p t [false] .ret tWr ::m2d t):=by kernel_rfl
theorem b0o (ds:List Bool) {x:AX} {s':St} (h:b9 e0g cWh (tWh (t.drop 1) (chI t 0==45) 0 ((0:Nat):Int)) x s'):q0p t (true ::ds) x s':=
 l9 h [] (by kernel_rfl) (by kernel_rfl) (by kernel_rfl)
theorem s0a (ds:List Bool) {x:AX} {s':St} (h:b9 e0g cWh (tWh t false 0 ((0:Nat):Int)) x s'):q0p t (false ::ds) x s':=
 l9 h [] (by kernel_rfl) (by kernel_rfl) (by kernel_rfl)
end
def nx2 (n w:Int):Int:=if 10*n+w < 1099511627776 then 10*n+w else 1099511627776
theorem f2b {n w:Int} (h0:0<=n) (h1:n<=1099511627776) (w0:0<=w) (w1:w<=99):nxQ n w=nx2 n w:=by
 unfold nxQ nx2
 rw [show zO2 10=10 from rfl,show zO2 1099511627776=1099511627776 from rfl,wr (n:=10*n) (by omega) (by omega),wr (by omega) (by omega)]
theorem sN {n w:Int} (h0:0<=n) (w0:0<=w):0<=nx2 n w∧nx2 n w<=1099511627776:=by
 unfold nx2
 split <;> omega
theorem m2i {c:UInt8} (h:dgB 10 c=true):w2V (zO2 c.toNat)=p8 (zO2 c.toNat):=by
 have:=G1 h
 revert this
 unfold w2V p8
 split
 ·intro _; rfl
 split
 ·intro _; rfl
 split
 ·intro _; rfl
 ·intro h; omega
def whN:List UInt8->Int->Option Int
 | [],n=>some n
 | c ::r,n=>if dgB 10 c=true then whN r (nx2 n (p8 (zO2 c.toNat))) else none
theorem l1i {t:List UInt8} {g:Bool} (hl:t.length < 9223372036854775807):∀ (f k:Nat) (n:Int),k+f=t.length->0<=n->n<=1099511627776->
  (∀ N,whN (t.drop k) n=some N->b9 e0g cWh (tWh t g n (k:Int)) (.exit 0) (tWh t g N (t.length:Int))∧0<=N∧N<=1099511627776)∧(whN (t.drop k) n=none->b9 e0g cWh (tWh t g n (k:Int)) .ret tWr):=by
 intro f k n hkf h0 h1
 have key:∀ (f k:Nat) (n:Int),k+f=t.length->0<=n->n<=1099511627776->∀ N,whN (t.drop k) n=some N->0<=N∧N<=1099511627776:=by
  intro f
  induction f with
  | zero=>intro k n hk h0 h1 N e; rw [sL (by omega)] at e; cases e; exact⟨h0,h1⟩
  | succ f ih=>
   intro k n hk h0 h1 N e
   rw [p0f (show k < t.length by omega)] at e
   unfold whN at e
   split at e
   ·have hr:=sN (w:=p8 (zO2 (t.getD k 0).toNat)) h0 worth_range.1
    exact ih (k+1) _ (by omega) hr.1 hr.2 N e
   ·cases e
 have step:∀ (k:Nat) (n:Int),k < t.length->0<=n->n<=1099511627776->(dgB 10 (t.getD k 0)=true->r7 e0g cWh (tWh t g n (k:Int)) .normal (tWh t g (nx2 n (p8 (zO2 (t.getD k 0).toNat))) ((k+1:Nat):Int)))∧(dgB 10 (t.getD k 0)=false->r7 e0g cWh (tWh t g n (k:Int)) .ret tWr):=by
  intro k n hk h0 h1
  refine⟨fun hd=> ?_,fun hd=> ?_⟩
  ·have h9:d9B t (k:Int)=false:=d4 (by
    have:=(j2c (c:=chI t (k:Int)) (b:=10) (by decide)).2 (G1 hd)
    show ¬(9:Int) < _
    omega)
   have:=n2i t g n k ⟨n1r t _,n0u hk,h9,n1r t _,n0u hk,q1b hk,a7⟩
   have hw:w2V (chI t (k:Int))=p8 (zO2 (t.getD k 0).toNat):=m2i hd
   have hr:=worth_range (c:=zO2 (t.getD k 0).toNat)
   rw [hw,f2b h0 h1 hr.1 (by omega),wr (by omega) (by omega)] at this
   exact this
  ·have h9:d9B t (k:Int)=true:=f9 (by
    have:¬w2V (chI t (k:Int)) < 10:=fun e=>O2 hd ((j2c (by decide)).1 e)
    show (9:Int) < _
    omega)
   exact e2r t g n k ⟨h9,n1r t _,n0u hk,q1b hk,a7⟩
 refine⟨fun N hN=>⟨?_,key f k n hkf h0 h1 N hN⟩,fun hN=> ?_⟩
 ·refine D2 (ι:=Nat×Int) (fun x=>tWh t g x.2 x.1) (fun x=>t.length-x.1) (fun x=>x.1<=t.length∧0<=x.2∧x.2<=1099511627776∧whN (t.drop x.1) x.2=some N) (by intro e; cases e) (fun x hx=> ?_) (k,n) ⟨by show k<=_; omega,h0,h1,hN⟩
  obtain⟨k',n'⟩:=x
  obtain⟨a1,a2,a3,a4⟩:=hx
  simp only at a1 a2 a3 a4 ⊢
  by_cases hk:k' < t.length
  ·rw [p0f hk] at a4
   unfold whN at a4
   split at a4
   ·rename_i hd
    have hr:=sN (w:=p8 (zO2 (t.getD k' 0).toNat)) a2 worth_range.1
    exact .inl ⟨(k'+1,_),⟨hk,hr.1,hr.2,a4⟩,by show t.length- (k'+1) < t.length-k'; omega,(step k' n' hk a2 a3).1 hd⟩
   ·cases a4
  ·obtain rfl:k'=t.length:=by omega
   rw [yQ] at a4
   cases a4
   exact .inr (i2j t g _ _ ⟨i2z hk,a7⟩)
 ·refine D2 (ι:=Nat×Int) (fun x=>tWh t g x.2 x.1) (fun x=>t.length-x.1) (fun x=>x.1<=t.length∧0<=x.2∧x.2<=1099511627776∧whN (t.drop x.1) x.2=none) (by intro e; cases e) (fun x hx=> ?_) (k,n) ⟨by show k<=_; omega,h0,h1,hN⟩
  obtain⟨k',n'⟩:=x
  obtain⟨a1,a2,a3,a4⟩:=hx
  simp only at a1 a2 a3 a4 ⊢
  by_cases hk:k' < t.length
  ·rw [p0f hk] at a4
   unfold whN at a4
   split at a4
   ·rename_i hd
    have hr:=sN (w:=p8 (zO2 (t.getD k' 0).toNat)) a2 worth_range.1
    exact .inl ⟨(k'+1,_),⟨hk,hr.1,hr.2,a4⟩,by show t.length- (k'+1) < t.length-k'; omega,(step k' n' hk a2 a3).1 hd⟩
   ·rename_i hd
    exact .inr ((step k' n' hk a2 a3).2 (by simpa using hd))
  ·obtain rfl:k'=t.length:=by omega
   rw [yQ] at a4
   cases a4
def whR (t:List UInt8):List UInt8:=if wsB t=true then t.drop 1 else t
def whG (t:List UInt8):Bool:=wsB t && (chI t 0==45)
def whV (t:List UInt8):Int×Bool:=match whN (whR t) 0 with
 | none=>(0,false)
 | some n=>(if whG t=true then -n else n,!(whR t==([] :List UInt8)))
theorem w0i {t:List UInt8} (hl:t.length < 9223372036854775807):Ev.Pure zO8 J0 11 [.string ⟨⟨t⟩⟩] (.tuple ⟨[.int .i64 (whV t).1, .bool (whV t).2]⟩):=by
 have p1:n2h t:=fun hc=>⟨by decide,a0d (by simpa [B8,kvP] using hc.2)⟩
 have p2:m2e t:=fun hc=>⟨by decide,a0d (by simpa [B8,kvP] using hc)⟩
 unfold whV whR whG
 cases hs:wsB t with
 | true=>
  have h0:0 < t.length:=by
   unfold wsB at hs
   cases hn:neB t with
   | true=>exact a0d hn
   | false=>rw [hn] at hs; cases hs
  have q:d9 (k2q t):=⟨⟨by decide,zzA187.2 h0⟩,⟨uV _,h0⟩,hs,p1,p2,a7⟩
  simp only [C6,c2i]
  have hl':(t.drop 1).length < 9223372036854775807:=by rw [K3]; omega
  obtain⟨k1,k2⟩:=l1i (g:=chI t 0==45) hl' (t.drop 1).length 0 0 (aW _) (uV _) (by decide)
  rw [sU] at k1 k2
  cases hN:whN (t.drop 1) 0 with
  | none=>exact x8 cK (m2x t) ⟨b0o t [] (k2 hN),q⟩
  | some N=>
   obtain⟨h1,h2,h3⟩:=k1 N hN
   simp only
   cases hg:(chI t 0==45) with
   | true=>
    rw [hg] at h1
    have:=x8 cK (q2d t (t.drop 1) true N (t.drop 1).length) ⟨rfl,b0o t _ (by rw [hg]; exact h1),q⟩
    rw [wr (by omega) (by omega),Int.zero_sub] at this
    exact this
   | false=>
    rw [hg] at h1
    exact x8 cK (p2j t (t.drop 1) false N (t.drop 1).length) ⟨rfl,b0o t _ (by rw [hg]; exact h1),q⟩
 | false=>
  have q:d9 (m2d t):=⟨hs,p1,p2,a7⟩
  simp only [M7,C5,Bool.false_and]
  obtain⟨k1,k2⟩:=l1i (g:=false) hl t.length 0 0 (aW _) (uV _) (by decide)
  rw [sU] at k1 k2
  cases hN:whN t 0 with
  | none=>exact x8 cK (o2x t) ⟨s0a t [] (k2 hN),q⟩
  | some N=>
   obtain⟨h1,h2,h3⟩:=k1 N hN
   exact x8 cK (n2z t t false N t.length) ⟨rfl,s0a t _ h1,q⟩
def b1w:List Value->Option (Value×List Prop)
 | [.string ⟨⟨t⟩⟩] =>some (.tuple ⟨[.int .i64 (whV t).1, .bool (whV t).2]⟩,[t.length < 9223372036854775807])
 | _=>none
theorem e1a (args:List Value) (v:Value) (l:List Prop) (h:b1w args=some (v,l)) (hl:d9 l):Ev.Pure zO8 J0 11 args v:=by
 unfold b1w at h
 split at h
 ·cases h; exact w0i hl.1
 ·cases h
section
variable (t:List UInt8)
end
end Go.Proofs.YtbdaebagmmmijaaGreatDoor
