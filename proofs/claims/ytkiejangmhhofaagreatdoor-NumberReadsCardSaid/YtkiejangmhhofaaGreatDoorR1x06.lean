/-
 NumberReads: any text is read as the document reads it; no condition (a part of the proof).
-/
import Derived.Test.YtkiejangmhhofaaGreatDoorR1x05
set_option maxRecDepth 1000000
open Go.Value renaming int->zO2,float->zO3,bool->zO9
open UInt8 renaming ofNat->zO4
open Int renaming ofNat->zO6
open List renaming take->zO10
open Go.Proofs.Tryz renaming prog->zO8
open BitVec renaming ofInt->zO11
open Go.IntKind renaming i64->iI,u64->uI,u32->uJ,u8->uB
noncomputable section
namespace Go.Proofs
theorem u0o:type_of%@List.take_succ_eq_append_getElem:=@List.take_succ_eq_append_getElem
theorem cR:type_of%@Nat.pos_of_ne_zero:=@Nat.pos_of_ne_zero
end Go.Proofs
namespace Go.Proofs.YtkiejangmhhofaaGreatDoor
open Go Go.RowKit Ev
def w2V (c:Int):Int:=if 48<=c∧c<=57 then c-48 else if 97<=c∧c<=102 then c-87 else if 65<=c∧c<=70 then c-55 else 99
section
variable (c:Int)
theorem d3v:b7 i2o [] 200 160 [.int .u8 c] [true] =some (.int .i64 (iI.wrap (uB.wrap (c-zO6 48))),[inC 48 57 c=true]):=by kernel_rfl
theorem d3s:b7 i2o [] 200 160 [.int .u8 c] [false,true] =some (.int .i64 (iI.wrap (iI.wrap (uB.wrap (c-zO6 97))+zO6 10)),[inC 97 102 c=true,inC 48 57 c=false]):=by kernel_rfl
theorem e3l:b7 i2o [] 200 160 [.int .u8 c] [false,false,true] =some (.int .i64 (iI.wrap (iI.wrap (uB.wrap (c-zO6 65))+zO6 10)),[inC 65 70 c=true,inC 97 102 c=false,inC 48 57 c=false]):=by kernel_rfl
theorem d3l:b7 i2o [] 200 160 [.int .u8 c] [false,false,false] =some (.int .i64 99,[inC 65 70 c=false,inC 97 102 c=false,inC 48 57 c=false]):=by kernel_rfl
end
theorem q0g {c:Int} (h0:0<=c) (h1:c < 256):Ev.Pure zO8 J0 160 [.int .u8 c] (.int .i64 (w2V c)):=by
 unfold w2V
 by_cases a:48<=c∧c<=57
 ·rw [f9 a]
  exact fD (A2 oI (d3v c) ⟨inB_iff.2 a,a6⟩) (by rw [show zO6 48=48 from rfl,z0c (by omega) (by omega),cT (by omega) (by omega)])
 rw [a7 a]
 by_cases b:97<=c∧c<=102
 ·rw [f9 b]
  exact fD (A2 oI (d3s c) ⟨inB_iff.2 b,inB_not.2 a,a6⟩) (by rw [show zO6 97=97 from rfl,show zO6 10=10 from rfl,z0c (by omega) (by omega),cT (n:=c-97) (by omega) (by omega),cT (by omega) (by omega)]; omega)
 rw [a7 b]
 by_cases d:65<=c∧c<=70
 ·rw [f9 d]
  exact fD (A2 oI (e3l c) ⟨inB_iff.2 d,inB_not.2 b,inB_not.2 a,a6⟩) (by rw [show zO6 65=65 from rfl,show zO6 10=10 from rfl,z0c (by omega) (by omega),cT (n:=c-65) (by omega) (by omega),cT (by omega) (by omega)]; omega)
 rw [a7 d]
 exact A2 oI (d3l c) ⟨inB_not.2 d,inB_not.2 b,inB_not.2 a,a6⟩
theorem s1j {c b:Int} (hb:b<=16):w2V c < b↔u7 c < b:=by
 unfold w2V u7
 split
 ·rfl
 split
 ·rfl
 split
 ·rfl
 ·omega
def n1s:List Value->Option (Value×List Prop)
 | [.int .u8 c] =>some (.int .i64 (w2V c),[0<=c∧c < 256])
 | _=>none
theorem j1l (args:List Value) (v:Value) (l:List Prop) (h:n1s args=some (v,l)) (hl:l5 l):Ev.Pure zO8 J0 160 args v:=by
 unfold n1s at h
 split at h
 ·cases h; exact q0g hl.1.1 hl.1.2
 ·cases h
def b1w:Tab:=r6 160 n1s s0f
theorem k0v:U6 zO8 J0 b1w:=i8 j1l sY
def bNc0:Base:=⟨zO8,J0,false,b1w,I4,2000,L7⟩
theorem tX:BaseOk bNc0:=⟨progOk,k0v,v6 _ _,r5⟩
abbrev x0z:=bNc0.cx 12
def cFi:Code:=z8 zO8 155 0
def tFi (t:List UInt8) (a b i:Int):St:=⟨only 29 [(0, .string ⟨⟨t⟩⟩),(1, .int .u8 a),(2, .int .u8 b),(6, .int .i64 0),(7, .int .i64 i)],J0.tabs,11,[],[],0,none,[],11⟩
def tFr (i:Int):St:=⟨only 29 [(6, .int .i64 i)],J0.tabs,11,[],[],0,none,[],11⟩
def fsB (t:List UInt8) (a b k:Int):Bool:=match chI t k==a with | true=>true | false=>chI t k==b
def fsP (t:List UInt8) (a k:Int):Prop:=C9 [(5,chI t k==a)] [(5,false)] ->0<=k∧k.toNat < t.length
section
variable (t:List UInt8) (a b i:Int)
theorem m2j (hl:l5 [fsB t a b i=true,fsP t a i,inP t i,ltE t i=true]):u4 x0z cFi (tFi t a b i) .ret (tFr i):=
 stp tX 12 progOk.mixed [true,true] [] (by kernel_rfl) hl
theorem z2a (hl:l5 [fsB t a b i=false,fsP t a i,inP t i,ltE t i=true]):u4 x0z cFi (tFi t a b i) .normal (tFi t a b (iI.wrap (i+1))):=
 stp tX 12 progOk.mixed [true,false] [] (by kernel_rfl) hl
theorem k2m (hl:l5 [ltE t i=false]):u4 x0z cFi (tFi t a b i) (.exit 0) (tFi t a b i):=
 stp tX 12 progOk.mixed [false] [] (by kernel_rfl) hl
theorem x2k:b7 x0z [H7 .ret (fun _=>tFr i)] 200 155 [.string ⟨⟨t⟩⟩, .int .u8 a, .int .u8 b] [] =some (.int .i64 i,[b9 x0z cFi (x9 x0z 200 155 [.string ⟨⟨t⟩⟩, .int .u8 a, .int .u8 b] J0.tabs zO8.globals.size []) .ret (tFr i)]):=by kernel_rfl
theorem v2y:b7 x0z [H7 (.exit 0) (fun _=>tFi t a b i)] 200 155 [.string ⟨⟨t⟩⟩, .int .u8 a, .int .u8 b] [] =some (.int .i64 (zO6 t.length),[b9 x0z cFi (x9 x0z 200 155 [.string ⟨⟨t⟩⟩, .int .u8 a, .int .u8 b] J0.tabs zO8.globals.size []) (.exit 0) (tFi t a b i)]):=by kernel_rfl
theorem f1v {x:AX} {s':St} (h:b9 x0z cFi (tFi t a b ((0:Nat):Int)) x s'):b9 x0z cFi (x9 x0z 200 155 [.string ⟨⟨t⟩⟩, .int .u8 a, .int .u8 b] J0.tabs zO8.globals.size []) x s':=
 l9 h []
end
def fsN (a b:Int):List UInt8->Nat
 | [] =>0
 | c ::r=>if fsB (c ::r) a b 0=true then 0 else fsN a b r+1
theorem rJ (a b:Int):∀ t:List UInt8,fsN a b t<=t.length∧(∀ i:Nat,i < fsN a b t->fsB t a b (i:Int)=false)∧(fsN a b t < t.length->fsB t a b ((fsN a b t:Nat):Int)=true)
 | [] =>⟨d9 _,fun i h=>by simp [fsN] at h,fun h=>by simp [fsN] at h⟩
 | c ::r=>by
  obtain⟨h1,h2,h3⟩:=rJ a b r
  unfold fsN
  by_cases hb:fsB (c ::r) a b 0=true
  ·rw [f9 hb]
   exact⟨s6 _,fun i h=>by omega,fun _=>hb⟩
  ·rw [a7 hb]
   refine⟨by rw [A4]; omega,fun i h=> ?_,fun h=> ?_⟩
   ·cases i with
    | zero=>exact Bool.eq_false_iff.2 hb
    | succ i=>exact h2 i (by omega)
   ·exact h3 (by rw [A4] at h; omega)
theorem y0t {t:List UInt8} {i:Nat} (h:i < t.length):ltE t (i:Int)=true:=i6 (by omega)
theorem o1c {t:List UInt8} {i:Nat} (h:¬i < t.length):ltE t (i:Int)=false:=d8 (by omega)
theorem c0w {t:List UInt8} {i:Nat} (h:i < t.length):inP t (i:Int):=⟨w7 _,h⟩
theorem w0l {t:List UInt8} {a b:Int} (hl:t.length < 9223372036854775807):Ev.Pure zO8 J0 155 [.string ⟨⟨t⟩⟩, .int .u8 a, .int .u8 b] (.int .i64 (fsN a b t)):=by
 obtain⟨h1,h2,h3⟩:=rJ a b t
 have go:∀ i,i < fsN a b t->u4 x0z cFi (tFi t a b ((i:Nat):Int)) .normal (tFi t a b ((i+1:Nat):Int)):=fun i hi=>by
  have:=z2a t a b i ⟨h2 i hi,fun _=>c0w (by omega),c0w (by omega),y0t (by omega),a6⟩
  rw [wr (by omega) (by omega)] at this
  exact this
 by_cases hlt:fsN a b t < t.length
 ·exact A2 tX (x2k t a b (fsN a b t:Int)) ⟨f1v t a b (x5 (fun i=>tFi t a b ((i:Nat):Int)) (fsN a b t) (by intro e; cases e) go (m2j t a b _ ⟨h3 hlt,fun _=>c0w hlt,c0w hlt,y0t hlt,a6⟩)),a6⟩
 ·have he:fsN a b t=t.length:=by omega
  have:=A2 tX (v2y t a b (fsN a b t:Int)) ⟨f1v t a b (x5 (fun i=>tFi t a b ((i:Nat):Int)) (fsN a b t) (by intro e; cases e) go (k2m t a b _ ⟨o1c hlt,a6⟩)),a6⟩
  rw [he]
  exact this
def g1i:List Value->Option (Value×List Prop)
 | [.string ⟨⟨t⟩⟩, .int .u8 a, .int .u8 b] =>some (.int .i64 (fsN a b t),[t.length < 9223372036854775807])
 | _=>none
theorem l1v (args:List Value) (v:Value) (l:List Prop) (h:g1i args=some (v,l)) (hl:l5 l):Ev.Pure zO8 J0 155 args v:=by
 unfold g1i at h
 split at h
 ·cases h; exact w0l hl.1
 ·cases h
theorem l1w {n m:Nat} (hn:n < 256) (hm:m < 256):∀ t:List UInt8,fsN (n:Int) (m:Int) t=mJ [zO4 n,zO4 m] t
 | [] =>rfl
 | c ::r=>by
  unfold fsN mJ
  rw [l1w hn hm r]
  have e1:=jM (t:=c ::r) (k:=0) hn
  have e2:=jM (t:=c ::r) (k:=0) hm
  have hb:fsB (c ::r) (n:Int) (m:Int) 0=true↔c∈[zO4 n,zO4 m] :=by
   unfold fsB
   show (match chI (c ::r) ((0:Nat):Int)==(n:Int) with | true=>true | false=>chI (c ::r) ((0:Nat):Int)==(m:Int))=true↔_
   rw [e1,e2]
   show (match c==zO4 n with | true=>true | false=>c==zO4 m)=true↔_
   by_cases h1:c=zO4 n
   ·rw [h1]; simp
   ·rw [y9 h1]
    simp [h1]
  by_cases h:c∈[zO4 n,zO4 m]
  ·rw [f9 h,f9 (hb.2 h)]
  ·rw [a7 h,a7 (fun e=>h (hb.1 e))]
def sgT (t:List UInt8) (k:Int):Bool:=match chI t k==43 with | true=>true | false=>chI t k==45
def m1 (t:List UInt8) (k:Int):Bool:=match chI t k==101 with | true=>true | false=>chI t k==69
def m2 (t:List UInt8) (k:Int):Bool:=match m1 t k with | true=>true | false=>chI t k==112
def m3 (t:List UInt8) (k:Int):Bool:=match m2 t k with | true=>true | false=>chI t k==80
def m0 (k:Int):Bool:=decide (k > 0)
def m4 (t:List UInt8) (k:Int):Bool:=match m0 k with | true=>m3 t (iI.wrap (k-1)) | false=>false
def n1 (t:List UInt8) (k:Int):Bool:=match decide (w2V (chI t k) < 99) with | true=>true | false=>chI t k==46
def n2 (t:List UInt8) (k:Int):Bool:=match n1 t k with | true=>true | false=>chI t k==120
def n3 (t:List UInt8) (k:Int):Bool:=match n2 t k with | true=>true | false=>chI t k==88
theorem p1v (x y:Bool):(match x with | true=>true | false=>y)=(x || y):=by cases x <;> rfl
theorem n2k {t:List UInt8} (k:Nat):sgT t (k:Int)=sgC (t.getD k 0):=by
 unfold sgT
 show (match chI t (k:Int)==((43:Nat):Int) with | true=>true | false=>chI t (k:Int)==((45:Nat):Int))=_
 rw [jM (by decide),jM (by decide),p1v]
 rfl
def n1z:Tab:=r6 155 g1i b1w
theorem k0r:U6 zO8 J0 n1z:=i8 l1v k0v
def bNc1:Base:=⟨zO8,J0,false,n1z,I4,2000,L7⟩
theorem D4:BaseOk bNc1:=⟨progOk,k0r,v6 _ _,r5⟩
abbrev bO:=bNc1.cx 12
def cMn:Code:=z8 zO8 156 0
def tMz (t:List UInt8) (b p i:Int):St:=⟨only 53 [(0, .string ⟨⟨t⟩⟩),(1, .int .i64 b),(4, .string ⟨⟨[]⟩⟩),(5, .int .i64 0),(6, .bool false),(7, .slice none 0 0),(8, .int .i64 p),(9, .int .i64 i)],J0.tabs,11,[],[],0,none,[],11⟩
def tMn (t:List UInt8) (b:Int) (ns:List Int) (m:Nat) (p i:Int):St:=⟨only 53 [(0, .string ⟨⟨t⟩⟩),(1, .int .i64 b),(4, .string ⟨⟨[]⟩⟩),(5, .int .i64 0),(6, .bool false),(7, .slice (some ⟨12,0,some 13⟩) m 0),(8, .int .i64 p),(9, .int .i64 i)],[(12, .row 5 1 (.ints .u8 ns) 13)] ++J0.tabs,14,[],[],0,none,[],11⟩
def tMr:St:=⟨only 53 [(4, .string ⟨⟨[]⟩⟩),(5, .int .i64 0),(6, .bool false)],J0.tabs,11,[],[],0,none,[],11⟩
def apN (m k:Nat):Prop:=m*1=k∧(m+1)*1<=140737488355328∧m+1<=9223372036854775807
def d2B (t:List UInt8) (b k:Int):Bool:=decide (w2V (chI t k) < b)
section
variable (t:List UInt8) (b:Int) (ns:List Int) (m:Nat) (p i:Int)
theorem x2u (hl:l5 [g0m t i p=true,inP t i,ltE t i=true]):u4 bO cMn (tMz t b p i) .normal (tMz t b 0 (iI.wrap (i+1))):=
 stp D4 12 progOk.mixed [true,true] [] (by kernel_rfl) hl
theorem y2n (hl:l5 [1<=140737488355328∧1<=9223372036854775807,inP t i,d2B t b i=true,chP t i,inP t i,g0m t i p=false,inP t i,ltE t i=true]):u4 bO cMn (tMz t b p i) .normal (tMn t b [chI t i] 1 p (iI.wrap (i+1))):=
 stp D4 12 progOk.mixed [true,false,true] [] (by kernel_rfl) hl
theorem k2f (hl:l5 [d2B t b i=false,chP t i,inP t i,g0m t i p=false,inP t i,ltE t i=true]):u4 bO cMn (tMz t b p i) .ret tMr:=
 stp D4 12 progOk.mixed [true,false,false] [] (by kernel_rfl) hl
theorem q2s (hl:l5 [ltE t i=false]):u4 bO cMn (tMz t b p i) (.exit 0) (tMz t b p i):=
 stp D4 12 progOk.mixed [false] [] (by kernel_rfl) hl
theorem x2z (hl:l5 [g0m t i p=true,inP t i,ltE t i=true]):u4 bO cMn (tMn t b ns m p i) .normal (tMn t b ns m m (iI.wrap (i+1))):=
 stp D4 12 progOk.mixed [true,true] [] (by kernel_rfl) hl
theorem a3v (hl:l5 [apN m ns.length,inP t i,d2B t b i=true,chP t i,inP t i,g0m t i p=false,inP t i,ltE t i=true]):u4 bO cMn (tMn t b ns m p i) .normal (tMn t b (ns++[chI t i]) (m+1) p (iI.wrap (i+1))):=
 stp D4 12 progOk.mixed [true,false,true] [(12,15),(13,16)] (by kernel_rfl) hl
theorem n2z (hl:l5 [d2B t b i=false,chP t i,inP t i,g0m t i p=false,inP t i,ltE t i=true]):u4 bO cMn (tMn t b ns m p i) .ret tMr:=
 stp D4 12 progOk.mixed [true,false,false] [] (by kernel_rfl) hl
theorem o2h (hl:l5 [ltE t i=false]):u4 bO cMn (tMn t b ns m p i) (.exit 0) (tMn t b ns m p i):=
 stp D4 12 progOk.mixed [false] [] (by kernel_rfl) hl
def x0q (ds:List Bool) (x:AX) (s:St):Prop:=b9 bO cMn (x9 bO 200 156 [.string ⟨⟨t⟩⟩, .int .i64 b] J0.tabs zO8.globals.size ds) x s
theorem e3j:b7 bO [H7 (.exit 0) (fun _=>tMn t b ns m p i)] 200 156 [.string ⟨⟨t⟩⟩, .int .i64 b] [true] =some (.tuple ⟨[.string ⟨⟨ns.map (fun (n:Int)=>zO4 n.toNat)⟩⟩, .int .i64 (iI.wrap ((m:Int)-m)), .bool (decide ((0:Int) < m))]⟩,[m=ns.length,decide (p < 0)=true,x0q t b [true] (.exit 0) (tMn t b ns m p i)]):=by kernel_rfl
theorem e3t:b7 bO [H7 (.exit 0) (fun _=>tMn t b ns m p i)] 200 156 [.string ⟨⟨t⟩⟩, .int .i64 b] [false] =some (.tuple ⟨[.string ⟨⟨ns.map (fun (n:Int)=>zO4 n.toNat)⟩⟩, .int .i64 (iI.wrap ((m:Int)-p)), .bool (decide ((0:Int) < m))]⟩,[m=ns.length,decide (p < 0)=false,x0q t b [false] (.exit 0) (tMn t b ns m p i)]):=by kernel_rfl
theorem c3m:b7 bO [H7 (.exit 0) (fun _=>tMz t b p i)] 200 156 [.string ⟨⟨t⟩⟩, .int .i64 b] [true] =some (.tuple ⟨[.string ⟨⟨[]⟩⟩, .int .i64 0, .bool false]⟩,[decide (p < 0)=true,x0q t b [true] (.exit 0) (tMz t b p i)]):=by kernel_rfl
theorem c3v:b7 bO [H7 (.exit 0) (fun _=>tMz t b p i)] 200 156 [.string ⟨⟨t⟩⟩, .int .i64 b] [false] =some (.tuple ⟨[.string ⟨⟨[]⟩⟩, .int .i64 (iI.wrap (0-p)), .bool false]⟩,[decide (p < 0)=false,x0q t b [false] (.exit 0) (tMz t b p i)]):=by kernel_rfl
theorem f3b:b7 bO [H7 .ret (fun _=>tMr)] 200 156 [.string ⟨⟨t⟩⟩, .int .i64 b] [] =some (.tuple ⟨[.string ⟨⟨[]⟩⟩, .int .i64 0, .bool false]⟩,[x0q t b [] .ret tMr]):=by kernel_rfl
theorem uN (ds:List Bool) {x:AX} {s':St} (h:b9 bO cMn (tMz t b (-1) ((0:Nat):Int)) x s'):x0q t b ds x s':=
 l9 h []
end
def rmL (b:Int):List UInt8->List UInt8->Int->Option (List UInt8×Int)
 | [],acc,p=>some (acc,p)
 | c ::r,acc,p=>if c=46∧(!decide (p < 0))=false then rmL b r acc acc.length else if dgB b c=true then rmL b r (acc++[c]) p else none
def qU (c:UInt8):Int:=zO6 c.toNat
def sMn (t:List UInt8) (b:Int) (x:Nat×List UInt8×Int):St:=if x.2.1=[] then tMz t b x.2.2 x.1 else tMn t b (x.2.1.map qU) x.2.1.length x.2.2 x.1
def p2p (t:List UInt8) (b:Int) (R:Option (List UInt8×Int)) (x:Nat×List UInt8×Int):Prop:=x.1<=t.length∧rmL b (t.drop x.1) x.2.1 x.2.2=R∧x.2.1.length<=x.1∧(x.2.2= -1∨(0<=x.2.2∧x.2.2<=x.2.1.length))
inductive NxM (t:List UInt8) (b:Int) (R:Option (List UInt8×Int)) (x:Nat×List UInt8×Int):Prop
 | go (y:Nat×List UInt8×Int):p2p t b R y->y.1=x.1+1->u4 bO cMn (sMn t b x) .normal (sMn t b y)->NxM t b R x
 | bad:R=none->u4 bO cMn (sMn t b x) .ret tMr->NxM t b R x
 | fin:R=some x.2->x.1=t.length->u4 bO cMn (sMn t b x) (.exit 0) (sMn t b x)->NxM t b R x
theorem h1t {t:List UInt8} {b:Int} (hb:b<=16) (hl:t.length < 140737488355328) {R:Option (List UInt8×Int)} {x:Nat×List UInt8×Int} (hx:p2p t b R x):NxM t b R x:=by
 obtain⟨i,acc,p⟩:=x
 obtain⟨h1,h2,h3,h4⟩:=hx
 simp only at h1 h2 h3 h4
 by_cases hi:i < t.length
 ·have hin:=c0w hi
  have hlt:=y0t hi
  have hc:=a1v t (i:Int)
  have e1:iI.wrap ((i:Int)+1)=((i+1:Nat):Int):=by rw [wr (by omega) (by omega)]; omega
  rw [M5 hi] at h2
  unfold rmL at h2
  by_cases hd:g0m t (i:Int) p=true
  ·rw [f9 (dot_iff.1 hd)] at h2
   refine .go (i+1,acc,acc.length) ⟨hi,h2,by show acc.length<=i+1; omega, .inr ⟨by show (0:Int)<=(acc.length:Int); omega,T8 _⟩⟩ rfl ?_
   unfold sMn
   by_cases ha:acc=[]
   ·rw [f9 ha,f9 ha,ha]
    have:=x2u t b p i ⟨hd,hin,hlt,a6⟩
    rw [e1] at this
    exact this
   ·rw [a7 ha,a7 ha]
    have:=x2z t b (acc.map qU) acc.length p i ⟨hd,hin,hlt,a6⟩
    rw [e1] at this
    exact this
  ·have hdf:g0m t (i:Int) p=false:=by simpa using hd
   rw [a7 (fun e=>hd (dot_iff.2 e))] at h2
   by_cases hg:dgB b (t.getD i 0)=true
   ·rw [f9 hg] at h2
    have hg':d2B t b (i:Int)=true:=i6 ((s1j hb).2 (G5 hg))
    refine .go (i+1,acc++[t.getD i 0],p) ⟨hi,h2,by show (acc++[t.getD i 0]).length<=i+1; rw [G8,qP]; omega,?_⟩ rfl ?_
    ·rcases h4 with h4 | h4
     ·exact .inl h4
     ·refine .inr ⟨h4.1,?_⟩
      show p<=((acc++[t.getD i 0]).length:Int)
      rw [G8,qP]
      omega
    ·unfold sMn
     rw [a7 (show ¬acc++[t.getD i 0] =[] by simp)]
     by_cases ha:acc=[]
     ·rw [f9 ha,ha]
      have:=y2n t b p i ⟨⟨by decide,by decide⟩,hin,hg',hc,hin,hdf,hin,hlt,a6⟩
      rw [e1] at this
      exact this
     ·rw [a7 ha]
      have:=a3v t b (acc.map qU) acc.length p i ⟨⟨by rw [D1]; omega,by omega,by omega⟩,hin,hg',hc,hin,hdf,hin,hlt,a6⟩
      rw [e1] at this
      simp only [qR,G8,p0v,List.map_nil,qP]
      exact this
   ·rw [a7 hg] at h2
    have hg':d2B t b (i:Int)=false:=d8 (fun e=>hg (i6 ((s1j hb).1 e)))
    refine .bad h2.symm ?_
    unfold sMn
    by_cases ha:acc=[]
    ·rw [f9 ha]
     exact k2f t b p i ⟨hg',hc,hin,hdf,hin,hlt,a6⟩
    ·rw [a7 ha]
     exact n2z t b (acc.map qU) acc.length p i ⟨hg',hc,hin,hdf,hin,hlt,a6⟩
 ·obtain rfl:i=t.length:=by omega
  rw [vC] at h2
  refine .fin h2.symm rfl ?_
  unfold sMn
  by_cases ha:acc=[]
  ·rw [f9 ha]
   exact q2s t b p _ ⟨o1c hi,a6⟩
  ·rw [a7 ha]
   exact o2h t b (acc.map qU) acc.length p _ ⟨o1c hi,a6⟩
theorem u0w (t:List UInt8) (b:Int):p2p t b (rmL b t [] (-1)) (0,[],-1):=⟨s6 _,rfl,d9 _, .inl rfl⟩
theorem n2c {t:List UInt8} {b:Int} (hb:b<=16) (hl:t.length < 140737488355328) {acc:List UInt8} {p:Int} (hR:rmL b t [] (-1)=some (acc,p)):b9 bO cMn (tMz t b (-1) ((0:Nat):Int)) (.exit 0) (sMn t b (t.length,acc,p))∧acc.length<=t.length∧(p= -1∨(0<=p∧p<=acc.length)):=by
 have key:b9 bO cMn (tMz t b (-1) ((0:Nat):Int)) (.exit 0) (sMn t b (t.length,acc,p)):=
  C0 (ι:=Nat×List UInt8×Int) (sMn t b) (fun x=>t.length-x.1) (p2p t b (some (acc,p))) (by intro e; cases e) (fun x hx=>by
   rcases h1t hb hl hx with ⟨y,h1,h2,h3⟩ | ⟨h1,_⟩ | ⟨h1,h2,h3⟩
   ·refine .inl ⟨y,h1,?_,h3⟩
    have:=h1.1
    omega
   ·cases h1
   ·refine .inr ?_
    obtain⟨i,acc',p'⟩:=x
    cases h1
    simp only at h2 h3 ⊢
    rw [h2] at h3 ⊢
    exact h3) (0,[],-1) (by rw [<- hR]; exact u0w t b)
 refine⟨key,?_⟩
 have inv:∀ (l acc':List UInt8) (p':Int),(p'= -1∨(0<=p'∧p'<=acc'.length))->rmL b l acc' p'=some (acc,p)->acc.length<=acc'.length+l.length∧(p= -1∨(0<=p∧p<=acc.length)):=by
  intro l
  induction l with
  | nil=>intro acc' p' h e; cases e; exact⟨by simp,h⟩
  | cons c r ih=>
   intro acc' p' h e
   unfold rmL at e
   split at e
   ·obtain⟨h1,h2⟩:=ih acc' _ (.inr ⟨by omega,T8 _⟩) e
    exact⟨by rw [A4]; omega,h2⟩
   ·split at e
    ·obtain⟨h1,h2⟩:=ih (acc'++[c]) p' (by
      rcases h with h | h
      ·exact .inl h
      ·refine .inr ⟨h.1,?_⟩
       rw [G8,qP]
       omega) e
     rw [G8,qP] at h1
     exact⟨by rw [A4]; omega,h2⟩
    ·cases e
 have:=inv t [] (-1) (.inl rfl) hR
 simpa using this
theorem k2q {t:List UInt8} {b:Int} (hb:b<=16) (hl:t.length < 140737488355328) (hR:rmL b t [] (-1)=none):b9 bO cMn (tMz t b (-1) ((0:Nat):Int)) .ret tMr:=
 C0 (ι:=Nat×List UInt8×Int) (sMn t b) (fun x=>t.length-x.1) (p2p t b none) (by intro e; cases e) (fun x hx=>by
  rcases h1t hb hl hx with ⟨y,h1,h2,h3⟩ | ⟨_,h1⟩ | ⟨h1,h2,h3⟩
  ·refine .inl ⟨y,h1,?_,h3⟩
   have:=h1.1
   omega
  ·exact .inr h1
  ·cases h1) (0,[],-1) (by rw [<- hR]; exact u0w t b)
def mnV (t:List UInt8) (b:Int):List UInt8×Int×Bool:=match rmL b t [] (-1) with
 | none=>([],0,false)
 | some (acc,p)=>(acc,if p < 0 then 0 else (acc.length:Int)-p,decide (0 < acc.length))
theorem u0u (l:List UInt8):(l.map qU).map (fun (n:Int)=>zO4 n.toNat)=l:=by
 rw [List.map_map]
 refine (List.map_congr_left (g:=id) fun b _=> ?_).trans (List.map_id _)
 show zO4 (zO6 b.toNat).toNat=b
 simp
theorem f0u {t:List UInt8} {b:Int} (hb:b<=16) (hl:t.length < 140737488355328):Ev.Pure zO8 J0 156 [.string ⟨⟨t⟩⟩, .int .i64 b] (.tuple ⟨[.string ⟨⟨(mnV t b).1⟩⟩, .int .i64 (mnV t b).2.1, .bool (mnV t b).2.2]⟩):=by
 unfold mnV
 cases hR:rmL b t [] (-1) with
 | none=>exact A2 D4 (f3b t b) ⟨uN t b [] (k2q hb hl hR),a6⟩
 | some r=>
  obtain⟨acc,p⟩:=r
  obtain⟨h1,h2,h3⟩:=n2c hb hl hR
  unfold sMn at h1
  simp only at h1 ⊢
  by_cases ha:acc=[]
  ·rw [f9 ha] at h1
   subst ha
   by_cases hp:p < 0
   ·rw [f9 hp]
    exact A2 D4 (c3m t b p _) ⟨i6 hp,uN t b _ h1,a6⟩
   ·rw [a7 hp]
    have:p=0:=by
     rcases h3 with h | ⟨h,h'⟩
     ·omega
     ·rw [jN] at h'
      omega
    subst this
    exact A2 D4 (c3v t b 0 _) ⟨rfl,uN t b _ h1,a6⟩
  ·rw [a7 ha] at h1
   have hpos:0 < acc.length:=zzA222.2 ha
   have hdd:decide ((0:Int) < (acc.length:Int))=decide (0 < acc.length):=by
    rw [i6 hpos,i6 (by omega)]
   by_cases hp:p < 0
   ·rw [f9 hp]
    have:=A2 D4 (e3j t b (acc.map qU) acc.length p _) ⟨(D1 _).symm,i6 hp,uN t b _ h1,a6⟩
    rw [u0u,hdd,Int.sub_self] at this
    exact this
   ·rw [a7 hp]
    have:=A2 D4 (e3t t b (acc.map qU) acc.length p _) ⟨(D1 _).symm,d8 hp,uN t b _ h1,a6⟩
    rw [u0u,hdd,wr (by omega) (by omega)] at this
    exact this
def b1j:List Value->Option (Value×List Prop)
 | [.string ⟨⟨t⟩⟩, .int .i64 b] =>some (.tuple ⟨[.string ⟨⟨(mnV t b).1⟩⟩, .int .i64 (mnV t b).2.1, .bool (mnV t b).2.2]⟩,[b<=16∧t.length < 140737488355328])
 | _=>none
theorem i1t (args:List Value) (v:Value) (l:List Prop) (h:b1j args=some (v,l)) (hl:l5 l):Ev.Pure zO8 J0 156 args v:=by
 unfold b1j at h
 split at h
 ·cases h; exact f0u hl.1.1 hl.1.2
 ·cases h
def cWh:Code:=z8 zO8 157 0
def tWh (t:List UInt8) (g:Bool) (n i:Int):St:=⟨only 49 [(0, .string ⟨⟨t⟩⟩),(2, .int .i64 0),(3, .bool false),(4, .bool g),(5, .int .i64 n),(6, .int .i64 i)],J0.tabs,11,[],[],0,none,[],11⟩
def tWr:St:=⟨only 49 [(2, .int .i64 0),(3, .bool false)],J0.tabs,11,[],[],0,none,[],11⟩
def d9B (t:List UInt8) (k:Int):Bool:=decide (zO6 9 < w2V (chI t k))
def nxQ (n w:Int):Int:=if iI.wrap (iI.wrap (zO6 10*n)+w) < zO6 1099511627776 then iI.wrap (iI.wrap (zO6 10*n)+w) else zO6 1099511627776
def wsB (t:List UInt8):Bool:=match neB t with | true=>sgT t 0 | false=>false
def y2f (t:List UInt8):Prop:=C9 [(6,chI t 0==43),(2,neB t)] [(6,false),(2,true)] ->(0:Int)<=0∧(0:Int).toNat < t.length
def w2y (t:List UInt8):Prop:=C9 [(2,neB t)] [(2,true)] ->(0:Int)<=0∧(0:Int).toNat < t.length
def m0y (t:List UInt8) (ds:List Bool) (x:AX) (s:St):Prop:=b9 bO cWh (x9 bO 200 157 [.string ⟨⟨t⟩⟩] J0.tabs zO8.globals.size ds) x s
def t2o (t:List UInt8):List Prop:=[zO6 0<=zO6 1∧zO6 1<=zO6 t.length,zO6 0<=zO6 0∧0 < t.length,wsB t=true,y2f t,w2y t]
def x2g (t:List UInt8):List Prop:=[wsB t=false,y2f t,w2y t]
section
variable (t r:List UInt8) (g:Bool) (n i:Int)
theorem u2g (hl:l5 [chP t i,inP t i,d9B t i=false,chP t i,inP t i,ltE t i=true]):u4 bO cWh (tWh t g n i) .normal (tWh t g (nxQ n (w2V (chI t i))) (iI.wrap (i+1))):=
 stp D4 12 progOk.mixed [true,false] [] (by kernel_rfl) hl
theorem n2l (hl:l5 [d9B t i=true,chP t i,inP t i,ltE t i=true]):u4 bO cWh (tWh t g n i) .ret tWr:=
 stp D4 12 progOk.mixed [true,true] [] (by kernel_rfl) hl
theorem m2v (hl:l5 [ltE t i=false]):u4 bO cWh (tWh t g n i) (.exit 0) (tWh t g n i):=
 stp D4 12 progOk.mixed [false] [] (by kernel_rfl) hl
theorem x2s:b7 bO [H7 (.exit 0) (fun _=>tWh r g n i)] 200 157 [.string ⟨⟨t⟩⟩] [true,true] =some (.tuple ⟨[.int .i64 (iI.wrap (0-n)), .bool (!(r==([] :List UInt8)))]⟩,(g=true) ::m0y t [true,true] (.exit 0) (tWh r g n i) ::t2o t):=by kernel_rfl
theorem w2h:b7 bO [H7 (.exit 0) (fun _=>tWh r g n i)] 200 157 [.string ⟨⟨t⟩⟩] [true,false] =some (.tuple ⟨[.int .i64 n, .bool (!(r==([] :List UInt8)))]⟩,(g=false) ::m0y t [true,false] (.exit 0) (tWh r g n i) ::t2o t):=by kernel_rfl
theorem z2m:b7 bO [H7 (.exit 0) (fun _=>tWh r g n i)] 200 157 [.string ⟨⟨t⟩⟩] [false,false] =some (.tuple ⟨[.int .i64 n, .bool (!(r==([] :List UInt8)))]⟩,(g=false) ::m0y t [false,false] (.exit 0) (tWh r g n i) ::x2g t):=by kernel_rfl
theorem z2e:b7 bO [H7 .ret (fun _=>tWr)] 200 157 [.string ⟨⟨t⟩⟩] [true] =some (.tuple ⟨[.int .i64 0, .bool false]⟩,m0y t [true] .ret tWr ::t2o t):=by kernel_rfl
theorem u2f:b7 bO [H7 .ret (fun _=>tWr)] 200 157 [.string ⟨⟨t⟩⟩] [false] =some (.tuple ⟨[.int .i64 0, .bool false]⟩,m0y t [false] .ret tWr ::x2g t):=by kernel_rfl
theorem f0c (ds:List Bool) {x:AX} {s':St} (h:b9 bO cWh (tWh (t.drop 1) (chI t 0==45) 0 ((0:Nat):Int)) x s'):m0y t (true ::ds) x s':=
 l9 h []
theorem v0m (ds:List Bool) {x:AX} {s':St} (h:b9 bO cWh (tWh t false 0 ((0:Nat):Int)) x s'):m0y t (false ::ds) x s':=
 l9 h []
end
def nx2 (n w:Int):Int:=if 10*n+w < 1099511627776 then 10*n+w else 1099511627776
theorem q2h {n w:Int} (h0:0<=n) (h1:n<=1099511627776) (w0:0<=w) (w1:w<=99):nxQ n w=nx2 n w:=by
 unfold nxQ nx2
 rw [show zO6 10=10 from rfl,show zO6 1099511627776=1099511627776 from rfl,wr (n:=10*n) (by omega) (by omega),wr (by omega) (by omega)]
theorem kO {n w:Int} (h0:0<=n) (w0:0<=w):0<=nx2 n w∧nx2 n w<=1099511627776:=by
 unfold nx2
 split <;> omega
theorem a3k {c:UInt8} (h:dgB 10 c=true):w2V (zO6 c.toNat)=u7 (zO6 c.toNat):=by
 have:=G5 h
 revert this
 unfold w2V u7
 split
 ·intro _; rfl
 split
 ·intro _; rfl
 split
 ·intro _; rfl
 ·intro h; omega
def whN:List UInt8->Int->Option Int
 | [],n=>some n
 | c ::r,n=>if dgB 10 c=true then whN r (nx2 n (u7 (zO6 c.toNat))) else none
theorem q0k {t:List UInt8} {g:Bool} (hl:t.length < 9223372036854775807):∀ (f k:Nat) (n:Int),k+f=t.length->0<=n->n<=1099511627776->
  (∀ N,whN (t.drop k) n=some N->b9 bO cWh (tWh t g n (k:Int)) (.exit 0) (tWh t g N (t.length:Int))∧0<=N∧N<=1099511627776)∧(whN (t.drop k) n=none->b9 bO cWh (tWh t g n (k:Int)) .ret tWr):=by
 intro f k n hkf h0 h1
 have key:∀ (f k:Nat) (n:Int),k+f=t.length->0<=n->n<=1099511627776->∀ N,whN (t.drop k) n=some N->0<=N∧N<=1099511627776:=by
  intro f
  induction f with
  | zero=>intro k n hk h0 h1 N e; rw [Y6 (by omega)] at e; cases e; exact⟨h0,h1⟩
  | succ f ih=>
   intro k n hk h0 h1 N e
   rw [M5 (show k < t.length by omega)] at e
   unfold whN at e
   split at e
   ·have hr:=kO (w:=u7 (zO6 (t.getD k 0).toNat)) h0 worth_range.1
    exact ih (k+1) _ (by omega) hr.1 hr.2 N e
   ·cases e
 have step:∀ (k:Nat) (n:Int),k < t.length->0<=n->n<=1099511627776->(dgB 10 (t.getD k 0)=true->u4 bO cWh (tWh t g n (k:Int)) .normal (tWh t g (nx2 n (u7 (zO6 (t.getD k 0).toNat))) ((k+1:Nat):Int)))∧(dgB 10 (t.getD k 0)=false->u4 bO cWh (tWh t g n (k:Int)) .ret tWr):=by
  intro k n hk h0 h1
  refine⟨fun hd=> ?_,fun hd=> ?_⟩
  ·have h9:d9B t (k:Int)=false:=d8 (by
    have:=(s1j (c:=chI t (k:Int)) (b:=10) (by decide)).2 (G5 hd)
    show ¬(9:Int) < _
    omega)
   have:=u2g t g n k ⟨a1v t _,c0w hk,h9,a1v t _,c0w hk,y0t hk,a6⟩
   have hw:w2V (chI t (k:Int))=u7 (zO6 (t.getD k 0).toNat):=a3k hd
   have hr:=worth_range (c:=zO6 (t.getD k 0).toNat)
   rw [hw,q2h h0 h1 hr.1 (by omega),wr (by omega) (by omega)] at this
   exact this
  ·have h9:d9B t (k:Int)=true:=i6 (by
    have:¬w2V (chI t (k:Int)) < 10:=fun e=>Q8 hd ((s1j (by decide)).1 e)
    show (9:Int) < _
    omega)
   exact n2l t g n k ⟨h9,a1v t _,c0w hk,y0t hk,a6⟩
 refine⟨fun N hN=>⟨?_,key f k n hkf h0 h1 N hN⟩,fun hN=> ?_⟩
 ·refine C0 (ι:=Nat×Int) (fun x=>tWh t g x.2 x.1) (fun x=>t.length-x.1) (fun x=>x.1<=t.length∧0<=x.2∧x.2<=1099511627776∧whN (t.drop x.1) x.2=some N) (by intro e; cases e) (fun x hx=> ?_) (k,n) ⟨by show k<=_; omega,h0,h1,hN⟩
  obtain⟨k',n'⟩:=x
  obtain⟨a1,a2,a3,a4⟩:=hx
  simp only at a1 a2 a3 a4 ⊢
  by_cases hk:k' < t.length
  ·rw [M5 hk] at a4
   unfold whN at a4
   split at a4
   ·rename_i hd
    have hr:=kO (w:=u7 (zO6 (t.getD k' 0).toNat)) a2 worth_range.1
    exact .inl ⟨(k'+1,_),⟨hk,hr.1,hr.2,a4⟩,by show t.length- (k'+1) < t.length-k'; omega,(step k' n' hk a2 a3).1 hd⟩
   ·cases a4
  ·obtain rfl:k'=t.length:=by omega
   rw [vC] at a4
   cases a4
   exact .inr (m2v t g _ _ ⟨o1c hk,a6⟩)
 ·refine C0 (ι:=Nat×Int) (fun x=>tWh t g x.2 x.1) (fun x=>t.length-x.1) (fun x=>x.1<=t.length∧0<=x.2∧x.2<=1099511627776∧whN (t.drop x.1) x.2=none) (by intro e; cases e) (fun x hx=> ?_) (k,n) ⟨by show k<=_; omega,h0,h1,hN⟩
  obtain⟨k',n'⟩:=x
  obtain⟨a1,a2,a3,a4⟩:=hx
  simp only at a1 a2 a3 a4 ⊢
  by_cases hk:k' < t.length
  ·rw [M5 hk] at a4
   unfold whN at a4
   split at a4
   ·rename_i hd
    have hr:=kO (w:=u7 (zO6 (t.getD k' 0).toNat)) a2 worth_range.1
    exact .inl ⟨(k'+1,_),⟨hk,hr.1,hr.2,a4⟩,by show t.length- (k'+1) < t.length-k'; omega,(step k' n' hk a2 a3).1 hd⟩
   ·rename_i hd
    exact .inr ((step k' n' hk a2 a3).2 (by simpa using hd))
  ·obtain rfl:k'=t.length:=by omega
   rw [vC] at a4
   cases a4
def whR (t:List UInt8):List UInt8:=if wsB t=true then t.drop 1 else t
def whG (t:List UInt8):Bool:=wsB t && (chI t 0==45)
def whV (t:List UInt8):Int×Bool:=match whN (whR t) 0 with
 | none=>(0,false)
 | some n=>(if whG t=true then -n else n,!(whR t==([] :List UInt8)))
theorem x0t {t:List UInt8} (hl:t.length < 9223372036854775807):Ev.Pure zO8 J0 157 [.string ⟨⟨t⟩⟩] (.tuple ⟨[.int .i64 (whV t).1, .bool (whV t).2]⟩):=by
 have p1:y2f t:=fun hc=>⟨by decide,jZ (by simpa [C9,kvP] using hc.2)⟩
 have p2:w2y t:=fun hc=>⟨by decide,jZ (by simpa [C9,kvP] using hc)⟩
 unfold whV whR whG
 cases hs:wsB t with
 | true=>
  have h0:0 < t.length:=by
   unfold wsB at hs
   cases hn:neB t with
   | true=>exact jZ hn
   | false=>rw [hn] at hs; cases hs
  have q:l5 (t2o t):=⟨⟨by decide,zzA207.2 h0⟩,⟨T8 _,h0⟩,hs,p1,p2,a6⟩
  simp only [H9,cF]
  have hl':(t.drop 1).length < 9223372036854775807:=by rw [C2]; omega
  obtain⟨k1,k2⟩:=q0k (g:=chI t 0==45) hl' (t.drop 1).length 0 0 (I0 _) (T8 _) (by decide)
  rw [U8] at k1 k2
  cases hN:whN (t.drop 1) 0 with
  | none=>exact A2 D4 (z2e t) ⟨f0c t [] (k2 hN),q⟩
  | some N=>
   obtain⟨h1,h2,h3⟩:=k1 N hN
   simp only
   cases hg:(chI t 0==45) with
   | true=>
    rw [hg] at h1
    have:=A2 D4 (x2s t (t.drop 1) true N (t.drop 1).length) ⟨rfl,f0c t _ (by rw [hg]; exact h1),q⟩
    rw [wr (by omega) (by omega),Int.zero_sub] at this
    exact this
   | false=>
    rw [hg] at h1
    exact A2 D4 (w2h t (t.drop 1) false N (t.drop 1).length) ⟨rfl,f0c t _ (by rw [hg]; exact h1),q⟩
 | false=>
  have q:l5 (x2g t):=⟨hs,p1,p2,a6⟩
  simp only [O6,E7,Bool.false_and]
  obtain⟨k1,k2⟩:=q0k (g:=false) hl t.length 0 0 (I0 _) (T8 _) (by decide)
  rw [U8] at k1 k2
  cases hN:whN t 0 with
  | none=>exact A2 D4 (u2f t) ⟨v0m t [] (k2 hN),q⟩
  | some N=>
   obtain⟨h1,h2,h3⟩:=k1 N hN
   exact A2 D4 (z2m t t false N t.length) ⟨rfl,v0m t _ h1,q⟩
def l1d:List Value->Option (Value×List Prop)
 | [.string ⟨⟨t⟩⟩] =>some (.tuple ⟨[.int .i64 (whV t).1, .bool (whV t).2]⟩,[t.length < 9223372036854775807])
 | _=>none
theorem f1f (args:List Value) (v:Value) (l:List Prop) (h:l1d args=some (v,l)) (hl:l5 l):Ev.Pure zO8 J0 157 args v:=by
 unfold l1d at h
 split at h
 ·cases h; exact x0t hl.1
 ·cases h
def k1f:Tab:=r6 156 b1j (r6 157 l1d n1z)
theorem j0m:U6 zO8 J0 k1f:=i8 i1t (i8 f1f k0r)
def bNc2:Base:=⟨zO8,J0,false,k1f,I4,2000,L7⟩
theorem l1g:BaseOk bNc2:=⟨progOk,j0m,v6 _ _,r5⟩
abbrev i2t:=bNc2.cx 12
def mnU (a b base:Int) (u:List UInt8):List UInt8×Int×Bool:=mnV (u.take (fsN a b u)) base
def mnB (a b base:Int) (u:List UInt8):Bool:=match (mnU a b base u).2.2 with | true=>decide (((fsN a b u:Nat):Int) < (u.length:Int)) | false=>false
def tlU (a b:Int) (u:List UInt8):List UInt8:=u.drop (iI.wrap (((fsN a b u:Nat):Int)+1)).toNat
def x2i (a b base:Int) (u:List UInt8):List Prop:=[(tlU a b u).length < 9223372036854775807,zO6 0<=iI.wrap (((fsN a b u:Nat):Int)+1)∧iI.wrap (((fsN a b u:Nat):Int)+1)<=zO6 u.length,mnB a b base u=true,base<=16∧(u.take (fsN a b u)).length < 140737488355328,zO6 0<=((fsN a b u:Nat):Int)∧((fsN a b u:Nat):Int)<=zO6 u.length]
def a3w (a b base:Int) (u:List UInt8):List Prop:=[mnB a b base u=false,base<=16∧(u.take (fsN a b u)).length < 140737488355328,zO6 0<=((fsN a b u:Nat):Int)∧((fsN a b u:Nat):Int)<=zO6 u.length]
def hxQ (t:List UInt8):List Prop:=[(t.drop 2).length < 9223372036854775807,zO6 0<=zO6 2∧zO6 2<=zO6 t.length,hxB t=true,hP1 t,hP2 t,hP3 t,t.length < 9223372036854775807]
def dcQ (t:List UInt8):List Prop:=[hxB t=false,hP1 t,hP2 t,hP3 t,t.length < 9223372036854775807]
def t2k (a b base y:Int) (u:List UInt8):Value:= .tuple ⟨[.string ⟨⟨(mnU a b base u).1⟩⟩, .int .i64 base, .int .i64 (iI.wrap ((whV (tlU a b u)).1-iI.wrap (y*(mnU a b base u).2.1))), .bool (whV (tlU a b u)).2]⟩
def t2n (a b base y:Int) (u:List UInt8):Value:= .tuple ⟨[.string ⟨⟨(mnU a b base u).1⟩⟩, .int .i64 base, .int .i64 (iI.wrap (0-iI.wrap (y*(mnU a b base u).2.1))), .bool (mnU a b base u).2.2]⟩
section
variable (t:List UInt8)
theorem z2p:b7 i2t [] 200 95 [.string ⟨⟨t⟩⟩] [true,true] =some (t2k 112 80 16 4 (t.drop 2),x2i 112 80 16 (t.drop 2)++hxQ t):=by kernel_rfl
theorem t2w:b7 i2t [] 200 95 [.string ⟨⟨t⟩⟩] [true,false] =some (t2n 112 80 16 4 (t.drop 2),a3w 112 80 16 (t.drop 2)++hxQ t):=by kernel_rfl
theorem z2o:b7 i2t [] 200 95 [.string ⟨⟨t⟩⟩] [false,true] =some (t2k 101 69 10 1 t,x2i 101 69 10 t++dcQ t):=by kernel_rfl
theorem x2n:b7 i2t [] 200 95 [.string ⟨⟨t⟩⟩] [false,false] =some (t2n 101 69 10 1 t,a3w 101 69 10 t++dcQ t):=by kernel_rfl
end
def bdV (a b base y:Int) (u:List UInt8):List UInt8×Int×Int×Bool:=
 if mnB a b base u=true then ((mnU a b base u).1,base,(whV (u.drop (fsN a b u+1))).1-y*(mnU a b base u).2.1,(whV (u.drop (fsN a b u+1))).2) else ((mnU a b base u).1,base,-(y*(mnU a b base u).2.1),(mnU a b base u).2.2)
def rbV (t:List UInt8):List UInt8×Int×Int×Bool:=if hxB t=true then bdV 112 80 16 4 (t.drop 2) else bdV 101 69 10 1 t
def b3u (x:List UInt8×Int×Int×Bool):Value:= .tuple ⟨[.string ⟨⟨x.1⟩⟩, .int .i64 x.2.1, .int .i64 x.2.2.1, .bool x.2.2.2]⟩
def ptI (b:Int) (l:List UInt8) (n:Nat) (p:Int):Int:=if p < 0 then (match eH b l with | none=>p | some j=>((n+j:Nat):Int)) else p
theorem g2v {b:Int} (hb:b<=16):∀ (l acc:List UInt8) (p:Int),rmL b l acc p=if fM b l (!decide (p < 0))=true then some (acc++J2 b l (!decide (p < 0)),ptI b l acc.length p) else none
 | [],acc,p=>by
  simp only [rmL,fM,J2,H9,a1a]
  unfold ptI
  split <;> rfl
 | c ::r,acc,p=>by
  unfold rmL fM J2
  by_cases h1:c=46∧(!decide (p < 0))=false
  ·have hd:¬dgB b c=true:=by rw [h1.1,k1p hb]; decide
   have hp:p < 0:=by
    have:=h1.2
    simpa using this
   rw [f9 h1,f9 h1,a7 hd,f9 h1,g2v hb r acc acc.length,d8 (show ¬((acc.length:Int) < 0) by omega)]
   simp only [wA]
   have e:ptI b r acc.length (acc.length:Int)=ptI b (c ::r) acc.length p:=by
    unfold ptI
    rw [a7 (by omega),f9 hp]
    unfold eH
    rw [a7 hd,f9 h1.1]
    rfl
   rw [e]
  ·rw [a7 h1,a7 h1]
   by_cases hd:dgB b c=true
   ·rw [f9 hd,f9 hd,f9 hd,g2v hb r (acc++[c]) p]
    have e:ptI b r (acc++[c]).length p=ptI b (c ::r) acc.length p:=by
     unfold ptI
     rw [show eH b (c ::r)=(eH b r).map (· +1) from f9 hd,G8,qP]
     split
     ·cases eH b r with
      | none=>rfl
      | some j=>show ((acc.length+1+j:Nat):Int)=((acc.length+(j+1):Nat):Int); omega
     ·rfl
    rw [e,lU]
    rfl
   ·rw [a7 hd,a7 hd]
    rfl
def bhS (b:Int) (l:List UInt8):Int:=match eH b l with
 | none=>0
 | some j=>((J2 b l false).length:Int)-j
theorem a2t {b:Int} (hb:b<=16) (l:List UInt8):mnV l b=if fM b l false=true then (J2 b l false,bhS b l,decide (0 < (J2 b l false).length)) else ([],0,false):=by
 unfold mnV
 rw [g2v hb]
 show (match (if fM b l false=true then some ([] ++J2 b l false,ptI b l 0 (-1)) else none) with | none=>_ | some (acc,p)=>_)=_
 by_cases h:fM b l false=true
 ·rw [f9 h,f9 h]
  simp only [pF]
  have e:(if ptI b l 0 (-1) < 0 then 0 else ((J2 b l false).length:Int)-ptI b l 0 (-1))=bhS b l:=by
   have e0:ptI b l 0 (-1)=match eH b l with | none=> -1 | some j=>((0+j:Nat):Int):=f9 (by decide)
   rw [e0]
   unfold bhS
   cases eH b l with
   | none=>rfl
   | some j=>
    show (if ((0+j:Nat):Int) < 0 then 0 else ((J2 b l false).length:Int)- ((0+j:Nat):Int))=_
    rw [a7 (by omega)]
    show _=((J2 b l false).length:Int)- (j:Int)
    omega
  rw [e]
 ·rw [a7 h,a7 h]
theorem r0q (t:List UInt8):wsB t=true↔sgN t=1:=by
 unfold wsB neB
 cases t with
 | nil=>simp [sgN]
 | cons c r=>
  have h0:=n2k (t:=c ::r) 0
  have h1:sgT (c ::r) 0=sgC c:=h0
  show (match !(c ::r==[]) with | true=>sgT (c ::r) 0 | false=>false)=true↔(if sgC c=true then 1 else 0)=1
  rw [h1]
  show sgC c=true↔_
  cases sgC c <;> decide
theorem e1z (t:List UInt8):whR t=t.drop (sgN t):=by
 unfold whR
 by_cases h:wsB t=true
 ·rw [f9 h,(r0q t).1 h]
 ·have h1:=r0j t
  have:¬sgN t=1:=fun e=>h ((r0q t).2 e)
  rw [a7 h,show sgN t=0 by omega,U8]
theorem f0r:∀ (r:List UInt8) (n:Int),(whN r n).isSome=r.all (dgB 10)
 | [],n=>rfl
 | c ::r,n=>by
  unfold whN
  rw [List.all_cons]
  by_cases h:dgB 10 c=true
  ·rw [f9 h,h,cF,f0r r]
  ·rw [a7 h,show dgB 10 c=false by simpa using h]
   rfl
theorem b3g (t:List UInt8):(whV t).2=h2l t:=by
 have h:=f0r (whR t) 0
 unfold whV h2l
 rw [<- e1z,<- h]
 cases whN (whR t) 0 with
 | none=>simp
 | some n=>
  show (!(whR t==[]))=(!(whR t).isEmpty && true)
  cases whR t <;> rfl
theorem y1n (a b:Int) (t:List UInt8):fsN a b t<=t.length:=(rJ a b t).1
theorem o1h {t u:List UInt8} {a b base y:Int} (hy:1<=y∧y<=4) (hb:base<=16) (hu:u.length < 140737488355328) {l:List Prop} (hl:l5 l)
  (h1:∃ ds,b7 i2t [] 200 95 [.string ⟨⟨t⟩⟩] ds=some (t2k a b base y u,x2i a b base u++l)) (h0:∃ ds,b7 i2t [] 200 95 [.string ⟨⟨t⟩⟩] ds=some (t2n a b base y u,a3w a b base u++l)):
  Ev.Pure zO8 J0 95 [.string ⟨⟨t⟩⟩] (b3u (bdV a b base y u)):=by
 obtain⟨d1,h1⟩:=h1
 obtain⟨d0,h0⟩:=h0
 have hf:=y1n a b u
 have ht:(u.take (fsN a b u)).length < 140737488355328:=by rw [E0]; omega
 have hw:iI.wrap (((fsN a b u:Nat):Int)+1)=((fsN a b u+1:Nat):Int):=by rw [wr (by omega) (by omega)]; omega
 have q3:zO6 0<=((fsN a b u:Nat):Int)∧((fsN a b u:Nat):Int)<=zO6 u.length:=⟨w7 _,zzA207.2 hf⟩
 have hm:0<=(mnU a b base u).2.1∧(mnU a b base u).2.1<=140737488355328:=by
  unfold mnU
  rw [a2t hb]
  have hsl:∀ (l:List UInt8) (s:Bool),(J2 base l s).length<=l.length:=by
   intro l
   induction l with
   | nil=>intro s; simp [J2]
   | cons c r ih=>
    intro s
    have i1:=ih s
    have i2:=ih true
    unfold J2
    rw [A4]
    split
    ·rw [A4]; omega
    ·split
     ·omega
     ·simp
  have hid:∀ (l:List UInt8) (j:Nat),eH base l=some j->fM base l false=true->j<=(J2 base l false).length:=by
   intro l
   induction l with
   | nil=>intro j h; cases h
   | cons c r ih=>
    intro j h ho
    unfold eH at h
    unfold J2
    unfold fM at ho
    by_cases hd:dgB base c=true
    ·rw [f9 hd] at h
     rw [f9 hd,A4]
     have hc:¬(c=46∧false=false):=fun e=>by rw [e.1,k1p hb] at hd; cases hd
     rw [a7 hc,f9 hd] at ho
     cases hi:eH base r with
     | none=>rw [hi] at h; cases h
     | some i=>
      rw [hi] at h
      cases h
      have:=ih i hi ho
      show i+1<=_
      omega
    ·rw [a7 hd] at h
     by_cases hc:c=46
     ·rw [f9 hc] at h
      cases h
      exact s6 _
     ·rw [a7 hc] at h; cases h
  split
  ·rename_i ho
   have:=hsl (u.take (fsN a b u)) false
   show 0<=bhS base _∧bhS base _<=_
   unfold bhS
   cases hi:eH base (u.take (fsN a b u)) with
   | none=>exact⟨T8 0,show (0:Int)<=140737488355328 by decide⟩
   | some j=>
    have:=hid _ j hi ho
    simp only
    omega
  ·exact⟨by decide,by decide⟩
 have hym:iI.wrap (y*(mnU a b base u).2.1)=y*(mnU a b base u).2.1∧0<=y*(mnU a b base u).2.1∧y*(mnU a b base u).2.1<=562949953421312:=by
  have g0:0<=y*(mnU a b base u).2.1:=Int.mul_nonneg (by omega) hm.1
  have g1:y*(mnU a b base u).2.1<=4*140737488355328:=by
   refine Int.le_trans (Int.mul_le_mul_of_nonneg_right hy.2 hm.1) (Int.mul_le_mul_of_nonneg_left hm.2 (by decide))
  exact⟨wr (by omega) (by omega),g0,g1⟩
 unfold bdV
 cases hB:mnB a b base u with
 | true=>
  simp only [H9]
  have hlt:fsN a b u < u.length:=by
   unfold mnB at hB
   cases hk:(mnU a b base u).2.2 with
   | true=>rw [hk] at hB; have:=G5 hB; omega
   | false=>rw [hk] at hB; cases hB
  have hT:tlU a b u=u.drop (fsN a b u+1):=by unfold tlU; rw [hw,g9]
  have:=A2 l1g h1 ((a8 _ _).2 ⟨⟨by rw [hT,C2]; omega,⟨by rw [hw]; exact w7 _,by rw [hw]; exact zzA207.2 hlt⟩,hB,⟨hb,ht⟩,q3,a6⟩,hl⟩)
  unfold t2k at this
  have hv: -1099511627776<=(whV (u.drop (fsN a b u+1))).1∧(whV (u.drop (fsN a b u+1))).1<=1099511627776:=by
   obtain⟨k1,_⟩:=q0k (g:=false) (t:=whR (u.drop (fsN a b u+1))) (by rw [e1z,C2,C2]; omega) _ 0 0 (I0 _) (T8 _) (by decide)
   rw [U8] at k1
   unfold whV
   cases hN:whN (whR (u.drop (fsN a b u+1))) 0 with
   | none=>exact⟨show (-1099511627776:Int)<=0 by decide,show (0:Int)<=1099511627776 by decide⟩
   | some N=>
    obtain⟨_,c2,c3⟩:=k1 N hN
    simp only
    split <;> omega
  rw [hT,hym.1,wr (by omega) (by omega)] at this
  exact this
 | false=>
  simp only [O6,E7]
  have:=A2 l1g h0 ((a8 _ _).2 ⟨⟨hB,⟨hb,ht⟩,q3,a6⟩,hl⟩)
  unfold t2n at this
  rw [hym.1,wr (by omega) (by omega),Int.zero_sub] at this
  exact this
theorem a1x {t:List UInt8} (hl:t.length < 140737488355328):Ev.Pure zO8 J0 95 [.string ⟨⟨t⟩⟩] (b3u (rbV t)):=by
 obtain⟨p1,p2,p3⟩:=q2j t
 unfold rbV
 cases hx:hxB t with
 | true=>
  simp only [H9]
  have h2:2<=t.length:=by
   rw [w0h] at hx
   obtain⟨d,r,ht,_⟩:=kH hx
   rw [ht]
   simp
  exact o1h (by decide) (by decide) (by rw [C2]; omega) (l:=hxQ t) ⟨by rw [C2]; omega,⟨by decide,zzA207.2 h2⟩,hx,p1,p2,p3,by omega,a6⟩ ⟨_,z2p t⟩ ⟨_,t2w t⟩
 | false=>
  simp only [O6,E7]
  exact o1h (by decide) (by decide) hl (l:=dcQ t) ⟨hx,p1,p2,p3,by omega,a6⟩ ⟨_,z2o t⟩ ⟨_,x2n t⟩
theorem p2q {n m:Nat} (hn:n < 256) (hm:m < 256) {base y:Int} (hb:base<=16) (u:List UInt8):(bdV (n:Int) (m:Int) base y u).2.2.2=zD base [zO4 n,zO4 m] u:=by
 have hf:=y1n n m u
 have hc:=l1w hn hm u
 unfold bdV mnB mnU zD
 rw [hc] at hf ⊢
 rw [a2t hb]
 have hpos:∀ l:List UInt8,decide (0 < l.length)= !l.isEmpty:=fun l=>by cases l <;> rfl
 by_cases ho:fM base (u.take (mJ [zO4 n,zO4 m] u)) false=true
 ·rw [f9 ho,ho]
  simp only [hpos,cF]
  cases he:(J2 base (u.take (mJ [zO4 n,zO4 m] u)) false).isEmpty with
  | true=>simp
  | false=>
   simp only [wA,cF]
   by_cases hlt:mJ [zO4 n,zO4 m] u < u.length
   ·rw [i6 (show ((mJ [zO4 n,zO4 m] u:Nat):Int) < (u.length:Int) by omega)]
    simp only [H9]
    rw [M5 hlt,b3g]
    rfl
   ·rw [d8 (show ¬((mJ [zO4 n,zO4 m] u:Nat):Int) < (u.length:Int) by omega),Y6 (show u.length<=mJ [zO4 n,zO4 m] u by omega)]
    simp [a0f]
 ·rw [a7 ho]
  simp [ho]
theorem i1g (t:List UInt8):(rbV t).2.2.2=f0b t:=by
 unfold rbV f0b
 rw [w0h]
 by_cases h:hxL t=true
 ·rw [f9 h,f9 h]
  exact p2q (n:=112) (m:=80) (by decide) (by decide) (by decide) _
 ·rw [a7 h,a7 h]
  exact p2q (n:=101) (m:=69) (by decide) (by decide) (by decide) _
def j1q:List Value->Option (Value×List Prop)
 | [.string ⟨⟨t⟩⟩] =>some (.tuple ⟨[.string ⟨⟨(rbV t).1⟩⟩, .int .i64 (rbV t).2.1, .int .i64 (rbV t).2.2.1, .bool (rbV t).2.2.2]⟩,[t.length < 140737488355328])
 | _=>none
theorem d1y (args:List Value) (v:Value) (l:List Prop) (h:j1q args=some (v,l)) (hl:l5 l):Ev.Pure zO8 J0 95 args v:=by
 unfold j1q at h
 split at h
 ·cases h; exact a1x hl.1
 ·cases h
def v0y:Tab:=r6 95 j1q k1f
theorem tK:U6 zO8 J0 v0y:=i8 d1y j0m
open Go Go.RowKit Ev Wd VaS
def bRx:Base:=⟨zO8,J0,false,v0y,c0p,200,L7⟩
theorem C1:BaseOk bRx:=⟨progOk,tK,nR,r5⟩
abbrev XRx:=bRx.cx 10
def m1u:Tab:=r6 148 lG k1x
theorem i0i:U6 zO8 J0 m1u:=i8 qK i0v
def bRo6:Base:=⟨zO8,J0,false,m1u,mP,200,L7⟩
theorem cK:BaseOk bRo6:=⟨progOk,i0i,Y8,r5⟩
abbrev o1v:Cx:=bRo6.cx 10
def cBi:Code:=z8 zO8 89 0
def tBi (d:List UInt8) (e p l m:Int) (r:Bool) (i:Int):St:=⟨only 98 [(0, .string ⟨⟨d⟩⟩),(1, .int .i64 e),(2, .int .i64 p),(3, .int .i64 l),(8, .float .f64 0),(9, .int .u64 m),(10, .bool r),(18, .string ⟨⟨d⟩⟩),(19, .int .i64 d.length),(20, .int .i64 i)],J0.tabs,11,[],[],0,none,[],11⟩
def bim (d:List UInt8) (m i:Int):Int:=uI.wrap ((zO11 uI.bits (uI.wrap (m*2 ^min (Int.toNat 4) uI.bits))||| zO11 uI.bits (uI.wrap (u7 (chI d i)))).toNat:Nat)
def bir (d:List UInt8) (r:Bool) (i:Int):Bool:=match r with | true=>true | false=>chI d i !=48
section
variable (d:List UInt8) (e p l m:Int) (r:Bool) (i:Int)
theorem l2k (hl:l5 [0<=chI d i∧chI d i < 256,0<=i∧i.toNat < d.length,decide (i < 16)=true,decide (i < (d.length:Int))=true]):u4 o1v cBi (tBi d e p l m r i) .normal (tBi d e p l (bim d m i) r (iI.wrap (i+1))):=
 stp cK 10 progOk.mixed [true,true] [] (by kernel_rfl) hl
theorem g2w (hl:l5 [C9 [(1,r)] [(1,false)] ->0<=i∧i.toNat < d.length,decide (i < 16)=false,decide (i < (d.length:Int))=true]):u4 o1v cBi (tBi d e p l m r i) .normal (tBi d (iI.wrap (e+4)) p l m (bir d r i) (iI.wrap (i+1))):=
 stp cK 10 progOk.mixed [true,false] [] (by kernel_rfl) hl
theorem m2m (hl:l5 [decide (i < (d.length:Int))=false]):u4 o1v cBi (tBi d e p l m r i) (.exit 0) (tBi d e p l m r i):=
 stp cK 10 progOk.mixed [false] [] (by kernel_rfl) hl
theorem f2s {x:AX} {s':St} (ds:List Bool) (h:b9 o1v cBi (tBi d e p l 0 false 0) x s'):b9 o1v cBi (x9 o1v 200 89 [.string ⟨⟨d⟩⟩, .int .i64 e, .int .i64 p, .int .i64 l] J0.tabs zO8.globals.size ds) x s':=
 l9 h []
end
def bzN (M:Int):Int:=iI.wrap (64-I6 M)
def bzE (E M:Int):Int:=iI.wrap (E-bzN M)
def bzU (E M p l:Int):Int:=if iI.wrap (iI.wrap (bzE E M+64)-p) < l then l else iI.wrap (iI.wrap (bzE E M+64)-p)
def bzO (E M p l:Int):Int:=iI.wrap (bzU E M p l-bzE E M)
def bzM (M:Int):Int:=uI.wrap (M*2 ^min (bzN M).toNat uI.bits)
def bqQ (E M p l:Int):Int:=(bzM M).fdiv (2 ^min (bzO E M p l).toNat uI.bits)
def bqL (E M p l:Int):Int:=uI.wrap (bzM M-uI.wrap (bqQ E M p l*2 ^min (bzO E M p l).toNat uI.bits))
def bqH (E M p l:Int):Int:=uI.wrap (1*2 ^min (iI.wrap (bzO E M p l-1)).toNat uI.bits)
def bUp (left half q:Int) (R:Bool):Bool:=match decide (left > half) with | true=>true | false=>match left==half with | true=>(match R with | true=>true | false=>Int.tmod q 2==1) | false=>false
abbrev loB (d:List UInt8) (e p l E M:Int) (R:Bool) (i:Int) (ds:List Bool):Prop:=b9 o1v cBi (x9 o1v 200 89 [.string ⟨⟨d⟩⟩, .int .i64 e, .int .i64 p, .int .i64 l] J0.tabs zO8.globals.size ds) (.exit 0) (tBi d E p l M R i)
abbrev biC (d:List UInt8) (e p l E M:Int) (R:Bool) (i:Int) (ds:List Bool):=b7 o1v [H7 (.exit 0) (fun _=>tBi d E p l M R i)] 200 89 [.string ⟨⟨d⟩⟩, .int .i64 e, .int .i64 p, .int .i64 l] ds
section
variable (d:List UInt8) (e p l E M:Int) (R:Bool) (i:Int)
theorem r2w:biC d e p l E M R i [true] =some (.float .f64 0,[decide (64 < bzO E M p l)=true,0<=bzN M,0<=M∧M < 18446744073709551616,loB d e p l E M R i [true]]):=by kernel_rfl
theorem p2r:biC d e p l E M R i [false,false,false] =some (.float .f64 (ldW 0 (bzU E M p l)),[b1s 0 (bzU E M p l),bUp (bzM M) 9223372036854775808 0 R=false,decide (bzO E M p l < 64)=false,decide (64 < bzO E M p l)=false,0<=bzN M,0<=M∧M < 18446744073709551616,loB d e p l E M R i [false,false,false]]):=by kernel_rfl
theorem n2i:biC d e p l E M R i [false,false,true] =some (.float .f64 (ldW (FloatKind.f64.nearest 1) (bzU E M p l)),[b1s (FloatKind.f64.nearest 1) (bzU E M p l),bUp (bzM M) 9223372036854775808 0 R=true,decide (bzO E M p l < 64)=false,decide (64 < bzO E M p l)=false,0<=bzN M,0<=M∧M < 18446744073709551616,loB d e p l E M R i [false,false,true]]):=by kernel_rfl
theorem a3s:biC d e p l E M R i [false,true,false] =some (.float .f64 (ldW (FloatKind.f64.nearest (bqQ E M p l)) (bzU E M p l)),[b1s (FloatKind.f64.nearest (bqQ E M p l)) (bzU E M p l),bUp (bqL E M p l) (bqH E M p l) (bqQ E M p l) R=false,0<=iI.wrap (bzO E M p l-1),0<=bzO E M p l,0<=bzO E M p l,decide (bzO E M p l < 64)=true,decide (64 < bzO E M p l)=false,0<=bzN M,0<=M∧M < 18446744073709551616,loB d e p l E M R i [false,true,false]]):=by kernel_rfl
theorem x2j:biC d e p l E M R i [false,true,true] =some (.float .f64 (ldW (FloatKind.f64.nearest (uI.wrap (bqQ E M p l+1))) (bzU E M p l)),[b1s (FloatKind.f64.nearest (uI.wrap (bqQ E M p l+1))) (bzU E M p l),bUp (bqL E M p l) (bqH E M p l) (bqQ E M p l) R=true,0<=iI.wrap (bzO E M p l-1),0<=bzO E M p l,0<=bzO E M p l,decide (bzO E M p l < 64)=true,decide (64 < bzO E M p l)=false,0<=bzN M,0<=M∧M < 18446744073709551616,loB d e p l E M R i [false,true,true]]):=by kernel_rfl
end
def hxd (c:UInt8):Nat:=(u7 (c.toNat:Int)).toNat
def hxN (l:List UInt8):Nat:=l.foldl (fun m c=>16*m+hxd c) 0
def yB (l:List UInt8):Prop:=∀ c∈l,u7 (c.toNat:Int) < 16
theorem uL {c:UInt8} :((hxd c:Nat):Int)=u7 (c.toNat:Int):=by
 unfold hxd
 have:=worth_range (c:=(c.toNat:Int))
 omega
theorem s0m (l:List UInt8) (c:UInt8):hxN (l++[c])=16*hxN l+hxd c:=by
 unfold hxN
 rw [List.foldl_append]
 rfl
theorem i0g {l:List UInt8} (h:yB l):∀ k,k<=l.length->hxN (l.take k) < 16 ^k:=by
 intro k
 induction k with
 | zero=>intro _; rw [k0i]; exact Nat.one_pos
 | succ k ih=>
  intro hk
  have h1:=ih (by omega)
  rw [u0o (by omega),s0m,y8]
  have h2:=h _ (h0t (show k < l.length by omega))
  have h3:=uL (c:=l[k])
  omega
theorem c3y {m w:Nat} (hw:w < 16):m*16||| w=m*16+w:=by
 have:=j0f (i:=4) (show w < 2 ^4 from hw) m
 rw [kF] at this
 exact this.symm
theorem z1g {m:Nat} (hm:m < 1152921504606846976):m*16 < 18446744073709551616:=by omega
theorem a2n {m w:Nat} (hm:m < 1152921504606846976) (hw:w < 16):m*16+w < 18446744073709551616:=by omega
theorem j2i {d:List UInt8} {m w:Nat} {i:Int} (hm:m < 1152921504606846976) (hw:w < 16) (h:u7 (chI d i)=(w:Int)):bim d (m:Int) i=((16*m+w:Nat):Int):=by
 unfold bim
 rw [h]
 have h3:(m:Int)*2 ^min (Int.toNat 4) uI.bits=((m*16:Nat):Int):=by
  rw [V9]
  rfl
 have hw2:w < 18446744073709551616:=wC hw (by decide)
 rw [h3,w0a (z1g hm),w0a hw2,pG,i2p (z1g hm),i2p hw2,c3y hw,w0a (a2n hm hw),t7]
def biS (d:List UInt8) (e p l:Int) (i:Nat):St:=tBi d (e+((4*(i-16):Nat):Int)) p l ((hxN (d.take (min i 16)):Nat):Int) (((d.take i).drop 16).any fun c=>c !=48) (i:Int)
theorem f0g {d:List UInt8} {i:Nat} (hi:i < d.length):chI d (i:Int)=((d[i].toNat:Nat):Int):=by
 show ((d.getD ((i:Int)).toNat 0).toNat:Int)=_
 rw [g9,bD,z0u hi]
 rfl
theorem e3k (c:UInt8):(((c.toNat:Nat):Int) !=48)=(c !=48):=by
 rw [Bool.eq_iff_iff,zzA187,zzA187]
 constructor
 ·intro h e; exact h (by rw [e]; rfl)
 ·intro h e; exact h (zzA132.1 (show c.toNat=48 by omega))
theorem v1q {d:List UInt8} {e p l:Int} (hd:yB d) (hl:d.length<=140737488351232) (he: -1000000000000000000<=e∧e<=1000000000000000000) {i:Nat} (hi:i < d.length):u4 o1v cBi (biS d e p l i) .normal (biS d e p l (i+1)):=by
 have hc:=f0g hi
 have hlt:d[i].toNat < 256:=d[i].toNat_lt
 have hi1:iI.wrap ((i:Int)+1)=((i+1:Nat):Int):=by rw [wr (by omega) (by omega)]; omega
 have hin:(0:Int)<=(i:Int)∧((i:Int)).toNat < d.length:=⟨w7 _,by rw [g9]; exact hi⟩
 have hlen:decide ((i:Int) < (d.length:Int))=true:=i6 (zzA208.2 hi)
 by_cases h16:i < 16
 ·have:=l2k d (e+((4*(i-16):Nat):Int)) p l ((hxN (d.take (min i 16)):Nat):Int) (((d.take i).drop 16).any fun c=>c !=48) (i:Int) ⟨by rw [hc]; omega,hin,i6 (by omega),hlen,a6⟩
  have hw:=hd _ (h0t hi)
  have h3:=uL (c:=d[i])
  have hm:hxN (d.take i) < 1152921504606846976:=C8 (i0g hd i (by omega)) (by
   have:16 ^i<=16 ^15:=y5 (by decide) (by omega)
   exact this)
  rw [C6 (by omega),j2i (w:=hxd d[i]) hm (by omega) (by rw [hc]; exact h3.symm),hi1] at this
  unfold biS
  rw [C6 (by omega),C6 (by omega),u0o hi,s0m]
  have e1:i+1-16=i-16:=by omega
  have e2:(d.take i++[d[i]]).drop 16=(d.take i).drop 16:=by
   rw [List.drop_eq_nil_of_le (by rw [G8,E0,qP]; omega),List.drop_eq_nil_of_le (by rw [E0]; omega)]
  rw [e1,e2]
  exact this
 ·have:=g2w d (e+((4*(i-16):Nat):Int)) p l ((hxN (d.take (min i 16)):Nat):Int) (((d.take i).drop 16).any fun c=>c !=48) (i:Int) ⟨fun _=>hin,d8 (by omega),hlen,a6⟩
  have hr:bir d (((d.take i).drop 16).any fun c=>c !=48) (i:Int)=(((d.take i).drop 16).any (fun c=>c !=48) || d[i] !=48):=by
   unfold bir
   rw [hc,e3k]
   cases ((d.take i).drop 16).any (fun c=>c !=48) <;> rfl
  have hE:iI.wrap (e+((4*(i-16):Nat):Int)+4)=e+((4*(i+1-16):Nat):Int):=by
   rw [wr (by omega) (by omega)]
   omega
  rw [hi1,hr,hE,M2 (by omega)] at this
  unfold biS
  rw [M2 (by omega),M2 (by omega),u0o hi,List.drop_append_of_le_length (by rw [E0]; omega),List.any_append]
  rw [show [d[i]].any (fun c=>c !=48)=(d[i] !=48) by simp]
  exact this
theorem f2j {d:List UInt8} {e p l:Int} (hd:yB d) (hl:d.length<=140737488351232) (he: -1000000000000000000<=e∧e<=1000000000000000000) (ds:List Bool):
  loB d e p l (e+((4*(d.length-16):Nat):Int)) ((hxN (d.take 16):Nat):Int) ((d.drop 16).any fun c=>c !=48) (d.length:Int) ds:=by
 have h:=x5 (biS d e p l) d.length (x:= .exit 0) (by intro e; cases e) (fun i hi=>v1q hd hl he hi) (m2m d _ p l _ _ (d.length:Int) ⟨d8 (h0l _),a6⟩)
 have e0:biS d e p l 0=tBi d e p l 0 false 0:=by
  unfold biS
  show tBi d (e+((0:Nat):Int)) p l ((0:Nat):Int) false ((0:Nat):Int)=_
  rw [show e+((0:Nat):Int)=e by omega]
  rfl
 rw [e0,r8] at h
 have e1:d.take (min d.length 16)=d.take 16:=by
  rw [Nat.min_comm,<- b0b,r8]
 rw [e1] at h
 exact f2s d e p l ds h
def biX (M:Nat):Nat:=M*2 ^(64-bl M)
def biE (M:Nat) (E:Int):Int:=E- ((64-bl M:Nat):Int)
def biU (M:Nat) (E p l:Int):Int:=if biE M E+64-p < l then l else biE M E+64-p
def biO (M:Nat) (E p l:Int):Int:=biU M E p l-biE M E
def upT (X o:Nat) (R:Bool):Bool:=decide (2 ^(o-1) < X%2 ^o) || (decide (X%2 ^o=2 ^(o-1)) && (R || decide (X/2 ^o%2=1)))
def biQ (X o:Nat) (R:Bool):Nat:=if upT X o R=true then X/2 ^o+1 else X/2 ^o
def biW (M:Nat) (R:Bool) (E p l:Int):Nat:=if 64 < biO M E p l then 0 else ldW (lK (biQ (biX M) (biO M E p l).toNat R)) (biU M E p l)
theorem P8 {M:Nat} (h0:0 < M) (h:M < 18446744073709551616):9223372036854775808<=biX M∧biX M < 18446744073709551616∧1<=bl M∧bl M<=64:=by
 have h1:0 < bl M:=bl_ge.2 (by show 1<=M; exact h0)
 have h2:bl M<=64:=bl_le.2 (by show M < 18446744073709551616; exact h)
 have h3:=lZ M
 have h4:2 ^(bl M-1)<=M:=bl_ge.1 (by omega)
 refine⟨?_,?_,h1,h2⟩
 ·have:2 ^(bl M-1)*2 ^(64-bl M)<=M*2 ^(64-bl M):=w9 _ h4
  rw [<- n9,show bl M-1+(64-bl M)=63 by omega] at this
  exact this
 ·have:M*2 ^(64-bl M) < 2 ^bl M*2 ^(64-bl M):=P4 h3 (s7 (by decide))
  rw [<- n9,show bl M+(64-bl M)=64 by omega] at this
  exact this
theorem m2r {X o p:Nat} {R:Bool} (hX:X < 18446744073709551616) (ho:64<=o+p) (_:o<=64) (hp:p<=53):biQ X o R<=9007199254740992:=by
 have h1:X/2 ^o < 2 ^p:=by
  rw [D9 (s7 (by decide)),<- n9]
  refine C8 (show X < 2 ^64 from hX) (y5 (by decide) (by omega))
 have h2:2 ^p<=2 ^53:=y5 (by decide) hp
 have h3:(2:Nat) ^53=9007199254740992:=by decide
 unfold biQ
 split <;> omega
theorem n1b {M:Nat} (h:bl M<=64):bzN (M:Int)=((64-bl M:Nat):Int):=by
 unfold bzN I6
 rw [g9,sE (by omega) (by omega)]
 omega
theorem s0h {M:Nat} (h0:0 < M) (h:M < 18446744073709551616):bzM (M:Int)=((biX M:Nat):Int):=by
 obtain⟨h1,h2,h3,h4⟩:=P8 h0 h
 unfold bzM
 rw [n1b h4,g9,show min (64-bl M) uI.bits=64-bl M from C6 (show 64-bl M<=64 by omega)]
 have e:(M:Int)*2 ^(64-bl M)=((biX M:Nat):Int):=by
  unfold biX
  rw [V9,bI]
  rfl
 rw [e]
 exact w0a h2
section
variable {M:Nat} {E p l:Int}
theorem r2a (h0:0 < M) (h:M < 18446744073709551616) (hE: -1000000000000000000<=E∧E<=1000000000000000000) (hp:0<=p∧p<=53) (hl: -1074<=l∧l<=0):bzE E (M:Int)=biE M E∧bzU E (M:Int) p l=biU M E p l∧bzO E (M:Int) p l=biO M E p l:=by
 obtain⟨h1,h2,h3,h4⟩:=P8 h0 h
 have e1:bzE E (M:Int)=biE M E:=by
  unfold bzE biE
  rw [n1b h4,sE (by omega) (by omega)]
 have hb: -1000000000000000064<=biE M E∧biE M E<=1000000000000000000:=by unfold biE; omega
 have e2:bzU E (M:Int) p l=biU M E p l:=by
  unfold bzU biU
  rw [e1,sE (n:=biE M E+64) (by omega) (by omega),sE (n:=biE M E+64-p) (by omega) (by omega)]
 refine⟨e1,e2,?_⟩
 unfold bzO biO
 rw [e1,e2]
 have hu: -1074<=biU M E p l∧biU M E p l<=1000000000000000064:=by
  unfold biU
  split <;> omega
 exact sE (by omega) (by omega)
end
theorem j1y (a b q:Nat) (R:Bool):bUp (a:Int) (b:Int) (q:Int) R=(decide (b < a) || (decide (a=b) && (R || decide (q%2=1)))):=by
 have e1:decide ((a:Int) > (b:Int))=decide (b < a):=by
  by_cases h:b < a
  ·rw [i6 h]; exact i6 (by omega)
  ·rw [d8 h]; exact d8 (by omega)
 have e2:((a:Int)==(b:Int))=decide (a=b):=by
  by_cases h:a=b
  ·rw [i6 h,h]; exact iY _
  ·rw [d8 h]; exact y9 (by omega)
 have e3:(Int.tmod (q:Int) 2==1)=decide (q%2=1):=by
  have:Int.tmod (q:Int) 2=((q%2:Nat):Int):=rfl
  rw [this]
  by_cases h:q%2=1
  ·rw [i6 h,h]; rfl
  ·rw [d8 h]; exact y9 (by omega)
 unfold bUp
 rw [e1,e2,e3]
 cases decide (b < a) <;> cases decide (a=b) <;> cases R <;> rfl
theorem j2v:((2:Nat) ^63)=9223372036854775808:=by decide
theorem n2h:((2:Nat) ^64)=18446744073709551616:=by decide
theorem b1p {X:Nat} (hX:X < 18446744073709551616) (R:Bool):bUp (X:Int) 9223372036854775808 0 R=upT X 64 R:=by
 have h:=j1y X 9223372036854775808 0 R
 unfold upT
 rw [show 64-1=63 from rfl,j2v,n2h,G7 hX,mK hX]
 exact h
theorem h2e {o:Nat} (h:o<=63):(2:Nat) ^o < 18446744073709551616:=by
 have h1:2 ^o<=2 ^63:=y5 (by decide) h
 rw [j2v] at h1
 exact D7 h1 (by decide)
theorem v1c {M:Nat} {E p l:Int} {o:Nat} (h0:0 < M) (h:M < 18446744073709551616) (ho:bzO E (M:Int) p l=(o:Int)) (h1:1<=o) (h2:o<=63):
  bqQ E (M:Int) p l=((biX M/2 ^o:Nat):Int)∧bqL E (M:Int) p l=((biX M%2 ^o:Nat):Int)∧bqH E (M:Int) p l=((2 ^(o-1):Nat):Int):=by
 obtain⟨r1,r2,r3,r4⟩:=P8 h0 h
 have hmin:min o uI.bits=o:=C6 (show o<=64 by omega)
 have e1:bqQ E (M:Int) p l=((biX M/2 ^o:Nat):Int):=by
  unfold bqQ
  rw [s0h h0 h,ho,g9,hmin]
  have:=(qF (biX M) (2 ^o)).symm
  rw [bI] at this
  exact this
 refine⟨e1,?_,?_⟩
 ·unfold bqL
  rw [e1,s0h h0 h,ho,g9,hmin]
  have h3:((biX M/2 ^o:Nat):Int)*2 ^o=((biX M/2 ^o*2 ^o:Nat):Int):=by
   rw [V9,bI]
   rfl
  have h4:biX M/2 ^o*2 ^o<=biX M:=Nat.div_mul_le_self _ _
  have h5:biX M/2 ^o*2 ^o+biX M%2 ^o=biX M:=Nat.div_add_mod' _ _
  generalize biX M/2 ^o*2 ^o=a at*
  generalize biX M%2 ^o=b at*
  rw [h3,w0a (by omega)]
  have h6:((biX M:Nat):Int)- (a:Int)=(b:Int):=by omega
  rw [h6]
  exact w0a (by omega)
 ·unfold bqH
  rw [ho,sE (by omega) (by omega)]
  have h3:((o:Int)-1).toNat=o-1:=by omega
  rw [h3,show min (o-1) uI.bits=o-1 from C6 (show o-1<=64 by omega),Int.one_mul]
  have:=w0a (h2e (o:=o-1) (by omega))
  rw [bI] at this ⊢
  exact this
theorem p0n {c:UInt8} {r:List UInt8} (h:0 < hxd c):0 < hxN (c ::r):=by
 have key:∀ (l:List UInt8) (a:Nat),0 < a->0 < l.foldl (fun m c=>16*m+hxd c) a:=by
  intro l
  induction l with
  | nil=>intro a ha; exact ha
  | cons b q ih=>intro a ha; exact ih _ (show 0 < 16*a+hxd b by omega)
 exact key r _ (show 0 < 16*0+hxd c by omega)
theorem n0m {d:List UInt8} {e p l:Int} (hd:yB d) (hl:d.length<=140737488351232) (he: -100000000000000000<=e∧e<=100000000000000000) (hp:1<=p∧p<=53) (hlo: -1074<=l∧l<=0) (h0:0 < hxN (d.take 16)):
  Ev.Pure zO8 J0 89 [.string ⟨⟨d⟩⟩, .int .i64 e, .int .i64 p, .int .i64 l] (.float .f64 (biW (hxN (d.take 16)) ((d.drop 16).any fun c=>c !=48) (e+((4*(d.length-16):Nat):Int)) p l)):=by
 have hM:hxN (d.take 16) < 18446744073709551616:=by
  by_cases h:16<=d.length
  ·exact i0g hd 16 h
  ·have h1:=i0g hd d.length (d9 _)
   rw [O9 (by omega)]
   rw [r8] at h1
   have:16 ^d.length<=16 ^16:=y5 (by decide) (by omega)
   exact C8 h1 this
 have hloop:=f2j (p:=p) (l:=l) hd hl (e:=e) ⟨by omega,by omega⟩
 obtain⟨E,hE⟩:∃ E,E=e+((4*(d.length-16):Nat):Int):=⟨_,rfl⟩
 have hEb: -1000000000000000000<=E∧E<=999999999999999000:=by omega
 rw [<- hE] at hloop ⊢
 generalize hxN (d.take 16)=M at*
 generalize (d.drop 16).any (fun c=>c !=48)=R at*
 obtain⟨r1,r2,r3,r4⟩:=P8 h0 hM
 obtain⟨b1,b2,b3⟩:=r2a (p:=p) (l:=l) h0 hM (E:=E) ⟨hEb.1,by omega⟩ ⟨by omega,hp.2⟩ hlo
 have hz:(0:Int)<=bzN (M:Int):=by rw [n1b r4]; exact w7 _
 have hm:(0:Int)<=(M:Int)∧(M:Int) < 18446744073709551616:=⟨w7 _,by omega⟩
 have hU: -1074<=biU M E p l∧biU M E p l<=1000000000000000000:=by
  unfold biU biE
  split <;> omega
 have hO:64-p<=biO M E p l:=by
  unfold biO biU
  split <;> omega
 by_cases c1:64 < biO M E p l
 ·have hW:biW M R E p l=0:=f9 c1
  rw [hW]
  exact i7 cK 10 _ _ (r2w d e p l E M R d.length) ⟨by rw [b3]; exact i6 c1,hz,hm,hloop _,a6⟩
 have hW:biW M R E p l=ldW (lK (biQ (biX M) (biO M E p l).toNat R)) (biU M E p l):=a7 c1
 rw [hW]
 obtain⟨o,ho⟩:=kU (show 0<=biO M E p l by omega)
 have ho2:bzO E (M:Int) p l=(o:Int):=by rw [b3]; exact ho
 have k1:decide (64 < bzO E (M:Int) p l)=false:=by rw [b3]; exact d8 c1
 have hQ:biQ (biX M) o R<=9007199254740992:=m2r (p:=p.toNat) r2 (by omega) (by omega) (by omega)
 rw [ho,g9]
 have hok:b1s (lK (biQ (biX M) o R)) (biU M E p l):=l1u hQ (.inr hU)
 by_cases c2:o=64
 ·subst c2
  have k2:decide (bzO E (M:Int) p l < 64)=false:=by rw [ho2]; exact d8 (by omega)
  have hq0:biX M/2 ^64=0:=mK (by rw [n2h]; exact r2)
  cases hup:upT (biX M) 64 R with
  | false=>
   have hq:biQ (biX M) 64 R=0:=by unfold biQ; rw [hup,a7 (by decide)]; exact hq0
   rw [hq,kV] at hok ⊢
   rw [<- b2] at hok ⊢
   exact i7 cK 10 _ _ (p2r d e p l E M R d.length) ⟨hok,by rw [s0h h0 hM,b1p r2]; exact hup,k2,k1,hz,hm,hloop _,a6⟩
  | true=>
   have hq:biQ (biX M) 64 R=1:=by unfold biQ; rw [hup,f9 rfl,hq0]
   have hn:FloatKind.f64.nearest 1=lK 1:=uT 1
   rw [hq,<- hn] at hok ⊢
   rw [<- b2] at hok ⊢
   exact i7 cK 10 _ _ (n2i d e p l E M R d.length) ⟨hok,by rw [s0h h0 hM,b1p r2]; exact hup,k2,k1,hz,hm,hloop _,a6⟩
 ·have k2:decide (bzO E (M:Int) p l < 64)=true:=by rw [ho2]; exact i6 (by omega)
  have k3:0<=bzO E (M:Int) p l:=by rw [ho2]; exact w7 _
  have k4:0<=iI.wrap (bzO E (M:Int) p l-1):=by rw [ho2,sE (by omega) (by omega)]; omega
  obtain⟨p1,p2,p3⟩:=v1c h0 hM ho2 (by omega) (by omega)
  have hU2:bUp (bqL E (M:Int) p l) (bqH E (M:Int) p l) (bqQ E (M:Int) p l) R=upT (biX M) o R:=by
   rw [p1,p2,p3]
   exact j1y _ _ _ _
  cases hup:upT (biX M) o R with
  | false=>
   have hq:biQ (biX M) o R=biX M/2 ^o:=by unfold biQ; rw [hup,a7 (by decide)]
   have hn:FloatKind.f64.nearest (bqQ E (M:Int) p l)=lK (biQ (biX M) o R):=by rw [hq,p1]; exact uT _
   rw [<- hn,<- b2] at hok ⊢
   exact i7 cK 10 _ _ (a3s d e p l E M R d.length) ⟨hok,by rw [hU2]; exact hup,k4,k3,k3,k2,k1,hz,hm,hloop _,a6⟩
  | true=>
   have hq:biQ (biX M) o R=biX M/2 ^o+1:=by unfold biQ; rw [hup,f9 rfl]
   have hb:biX M/2 ^o+1 < 18446744073709551616:=by
    rw [hq] at hQ
    exact D7 hQ (by decide)
   have hw:uI.wrap (bqQ E (M:Int) p l+1)=((biX M/2 ^o+1:Nat):Int):=by
    rw [p1]
    exact w0a hb
   have hn:FloatKind.f64.nearest (uI.wrap (bqQ E (M:Int) p l+1))=lK (biQ (biX M) o R):=by rw [hq,hw]; exact uT _
   rw [<- hn,<- b2] at hok ⊢
   exact i7 cK 10 _ _ (x2j d e p l E M R d.length) ⟨hok,by rw [hU2]; exact hup,k4,k3,k3,k2,k1,hz,hm,hloop _,a6⟩
def hxW (d:List UInt8) (e p l:Int):Nat:=biW (hxN (d.take 16)) ((d.drop 16).any fun c=>c !=48) (e+((4*(d.length-16):Nat):Int)) p l
def b3o (d:List UInt8) (e p l:Int):Prop:=yB d∧d.length<=140737488351232∧(-100000000000000000<=e∧e<=100000000000000000)∧(1<=p∧p<=53)∧(-1074<=l∧l<=0)∧0 < hxN (d.take 16)
def n0r:List Value->Option (Value×List Prop)
 | [.string ⟨⟨d⟩⟩, .int .i64 e, .int .i64 p, .int .i64 l] =>some (.float .f64 (hxW d e p l),[b3o d e p l])
 | _=>none
theorem z0z (args:List Value) (v:Value) (l:List Prop) (h:n0r args=some (v,l)) (hl:l5 l):Ev.Pure zO8 J0 89 args v:=by
 unfold n0r at h
 split at h
 ·cases h
  obtain⟨⟨h1,h2,h3,h4,h5,h6⟩,_⟩:=hl
  exact n0m h1 h2 h3 h4 h5 h6
 ·cases h
def k1r:Tab:=r6 89 n0r m1u
theorem l0q:U6 zO8 J0 k1r:=i8 z0z i0i
def bRo7:Base:=⟨zO8,J0,false,k1r,mP,200,L7⟩
theorem l1k:BaseOk bRo7:=⟨progOk,l0q,Y8,r5⟩
abbrev b3i:Cx:=bRo7.cx 10
section
variable (hx:Bool) (d:List UInt8) (e n p l:Int) (f:FuncId) (r:Nat) (z:Int)
abbrev t2d (f:FuncId) (hx:Bool) (d:List UInt8) (e n p l:Int):List Arg:=[.c (.v (pcV hx d e n)),iR p,iR l, .c (.v (.func (.func f) ⟨[]⟩ ⟨[]⟩))]
theorem u2e:B2 b3i [] 200 40 (t2d f hx d e n p l) [xR r,iR z] [true] =some [(b8 d==([] :List UInt8))=true,(48:UInt8)=48,zO3 .f64 0=zO3 .f64 r,zO2 .i64 0=zO2 .i64 z] :=by kernel_rfl
theorem z2z:B2 b3i [] 200 40 (t2d f hx d e n p l) [xR r,iR z] [false,true] =some [b3o (b8 d) e p l,hx=true,(b8 d==([] :List UInt8))=false,(48:UInt8)=48,zO3 .f64 (hxW (b8 d) e p l)=zO3 .f64 r,zO2 .i64 0=zO2 .i64 z] :=by kernel_rfl
end
theorem u0b {f:FuncId} {d:List UInt8} {e n p l:Int} (hd:yB d) (hl:d.length<=140737488351232) (he: -100000000000000000<=e∧e<=100000000000000000) (hp:1<=p∧p<=53) (hlo: -1074<=l∧l<=0):
  Ev.Sem zO8 J0 40 (t2d f true d e n p l) [xR (if b8 d=[] then 0 else hxW (b8 d) e p l),iR 0] :=by
 by_cases h0:b8 d=[]
 ·rw [f9 h0]
  refine l7 l1k 10 _ _ (u2e true d e n p l f _ _) ?_
  rw [h0]
  exact⟨rfl,rfl,rfl,rfl,a6⟩
 ·rw [a7 h0]
  have hT:yB (b8 d):=fun c hc=>hd c (G6 hc)
  have hle:=I9 d
  have hpos:0 < hxN ((b8 d).take 16):=by
   cases hu:b8 d with
   | nil=>exact absurd hu h0
   | cons c r=>
    have hc:=K0 hu
    have hw:=hT c (by rw [hu]; exact xH)
    have hc2:0 < hxd c:=by
     have h48:c.toNat≠48:=fun h=>hc (zzA132.1 h)
     unfold hxd
     unfold u7 at hw ⊢
     split
     ·omega
     ·rename_i h1
      rw [a7 h1] at hw
      split
      ·omega
      ·rename_i h2
       rw [a7 h2] at hw
       split
       ·omega
       ·rename_i h3
        rw [a7 h3] at hw
        omega
    exact p0n hc2
  refine l7 l1k 10 _ _ (z2z true d e n p l f _ _) ?_
  exact⟨⟨hT,by omega,he,hp,hlo,hpos⟩,rfl,y9 h0,rfl,rfl,rfl,a6⟩
def j1h:Tab:=r6 84 rK (r6 86 lD k1r)
theorem h0s:U6 zO8 J0 j1h:=i8 tF (i8 oY l0q)
def bRp1:Base:=⟨zO8,J0,false,j1h,mP,200,L7⟩
theorem mM:BaseOk bRp1:=⟨progOk,h0s,Y8,r5⟩
abbrev i2x:Cx:=bRp1.cx 10
def c2j (t:List UInt8):Bool:=match ((S0 (o7 t):Nat):Int)==0 with | true=>true | false=>((S0 (o7 t):Nat):Int) !=(((o7 t).length:Nat):Int)
def rdF (t:List UInt8):Bool:=t==([78,97,78] :List UInt8)
def rdG (t:List UInt8):Bool:=o7 t==([73,110,102] :List UInt8)
def rdL (t:List UInt8):Bool:=decide (zO6 8192 < zO6 t.length)
abbrev rdR (n:Bool) (p:Value) (x:Nat) (i:Bool) (e:Int):Value:= .tuple ⟨[.bool n,p, .float .f64 x, .bool i, .int .i64 e]⟩
section
variable (t:List UInt8)
theorem h2c:b7 i2x [] 200 39 [.string ⟨⟨t⟩⟩] [true] =some (rdR false (pcV false [] 0 0) 0 false 2,[rdL t=true]):=by kernel_rfl
theorem p2y:b7 i2x [] 200 39 [.string ⟨⟨t⟩⟩] [false,true] =some (rdR false (pcV false [] 0 0) 9221120237041090560 true 0,[rdF t=true,rdL t=false]):=by kernel_rfl
theorem m2g:b7 i2x [] 200 39 [.string ⟨⟨t⟩⟩] [false,false,true,false] =some (rdR (Q9 t) (pcV false [] 0 0) 9218868437227405312 true 0,[Q9 t=false,rdG t=true,rdF t=false,rdL t=false]):=by kernel_rfl
theorem g2j:b7 i2x [] 200 39 [.string ⟨⟨t⟩⟩] [false,false,true,true] =some (rdR (Q9 t) (pcV false [] 0 0) 18442240474082181120 true 0,[Q9 t=true,rdG t=true,rdF t=false,rdL t=false]):=by kernel_rfl
theorem v2u:b7 i2x [] 200 39 [.string ⟨⟨t⟩⟩] [false,false,false,true] =some (rdR false (pcV (D2 (o7 t)) (y6 (o7 t)) (R6 (o7 t)) (S0 (o7 t))) 0 false 3,[c2j t=true,(o7 t).length<=140737488351232,rdG t=false,rdF t=false,rdL t=false]):=by kernel_rfl
theorem r2j:b7 i2x [] 200 39 [.string ⟨⟨t⟩⟩] [false,false,false,false] =some (rdR (Q9 t) (pcV (D2 (o7 t)) (y6 (o7 t)) (R6 (o7 t)) (S0 (o7 t))) 0 false 0,[c2j t=false,(o7 t).length<=140737488351232,rdG t=false,rdF t=false,rdL t=false]):=by kernel_rfl
end
def rdP (t:List UInt8):Bool:= !rdL t && !rdF t && !rdG t
def t2h (t:List UInt8):Bool:=rdP t && !c2j t
def rdN (t:List UInt8):Bool:=if t2h t || (!rdL t && !rdF t && rdG t) then Q9 t else false
def m0l (t:List UInt8):Bool:=if rdP t then D2 (o7 t) else false
def m0p (t:List UInt8):List UInt8:=if rdP t then y6 (o7 t) else []
def m0h (t:List UInt8):Int:=if rdP t then R6 (o7 t) else 0
def z2c (t:List UInt8):Int:=if rdP t then ((S0 (o7 t):Nat):Int) else 0
def rdO (t:List UInt8):Nat:=if rdL t then 0 else if rdF t then 9221120237041090560 else if rdG t then (if Q9 t then 18442240474082181120 else 9218868437227405312) else 0
def rdI (t:List UInt8):Bool:= !rdL t && (rdF t || rdG t)
def rdE (t:List UInt8):Int:=if rdL t then 2 else if rdP t && c2j t then 3 else 0
theorem P6 (t:List UInt8):(o7 t).length<=t.length:=by
 unfold o7
 split
 ·rw [C2]; omega
 ·exact d9 _
theorem w1e (t:List UInt8):Ev.Pure zO8 J0 39 [.string ⟨⟨t⟩⟩] (rdR (rdN t) (pcV (m0l t) (m0p t) (m0h t) (z2c t)) (rdO t) (rdI t) (rdE t)):=by
 unfold rdN m0l m0p m0h z2c rdO rdI rdE t2h rdP
 cases h1:rdL t with
 | true=>exact i7 mM 10 _ _ (h2c t) ⟨h1,a6⟩
 | false=>
  cases h2:rdF t with
  | true=>exact i7 mM 10 _ _ (p2y t) ⟨h2,h1,a6⟩
  | false=>
   cases h3:rdG t with
   | true=>
    cases h4:Q9 t with
    | true=>
     have:=g2j t
     rw [h4] at this
     exact i7 mM 10 _ _ this ⟨rfl,h3,h2,h1,a6⟩
    | false=>
     have:=m2g t
     rw [h4] at this
     exact i7 mM 10 _ _ this ⟨rfl,h3,h2,h1,a6⟩
   | false=>
    have hl:(o7 t).length<=140737488351232:=by
     have:=P6 t
     have hL:=Q8 h1
     have:t.length<=8192:=by
      have h9:¬((8192:Int) < (t.length:Int)):=hL
      omega
     omega
    cases h4:c2j t with
    | true=>exact i7 mM 10 _ _ (v2u t) ⟨h4,hl,h3,h2,h1,a6⟩
    | false=>exact i7 mM 10 _ _ (r2j t) ⟨h4,hl,h3,h2,h1,a6⟩
def l1r:List Value->Option (Value×List Prop)
 | [.string ⟨⟨t⟩⟩] =>some (rdR (rdN t) (pcV (m0l t) (m0p t) (m0h t) (z2c t)) (rdO t) (rdI t) (rdE t),[])
 | _=>none
theorem j1f (args:List Value) (v:Value) (l:List Prop) (h:l1r args=some (v,l)) (_:l5 l):Ev.Pure zO8 J0 39 args v:=by
 unfold l1r at h
 split at h
 ·cases h
  exact w1e _
 ·cases h
def i1w:Tab:=r6 39 l1r j1h
theorem j0c:U6 zO8 J0 i1w:=i8 j1f h0s
def nrW (h:Bool) (d:List UInt8) (e:Int):Nat:=if h=true then (if b8 d=[] then 0 else hxW (b8 d) e 53 (-1074)) else neW d e
def nrE (h:Bool) (d:List UInt8) (e:Int):Int:=if h=true then 0 else neE d e
def s2o (h:Bool) (d:List UInt8) (e:Int):Prop:=d.length<=140737488351232∧(-100000000000000000<=e∧e<=100000000000000000)∧(if h=true then yB d else E2 d=true)
theorem r1b {h:Bool} {d:List UInt8} {e n:Int} (hk:s2o h d e):Ev.Sem zO8 J0 40 (f2c h d e n) [xR (nrW h d e),iR (nrE h d e)] :=by
 obtain⟨h1,h2,h3⟩:=hk
 unfold nrW nrE
 cases h with
 | true=>
  rw [f9 rfl] at h3
  rw [f9 rfl,f9 rfl]
  exact u0b h3 h1 h2 ⟨by decide,by decide⟩ ⟨by decide,by decide⟩
 | false=>
  rw [a7 (by decide)] at h3
  rw [a7 (by decide),a7 (by decide)]
  exact r1v h3 h1 ⟨by omega,by omega⟩
def n1h:List Arg->Option (List Arg×List Prop)
 | [.c (.v (.agg ⟨[.bool h, .string ⟨⟨d⟩⟩, .int .i64 e, .int .i64 _]⟩)), .c (.v (.int .i64 53)), .c (.v (.int .i64 (-1074))), .c (.v (.func (.func 41) ⟨[]⟩ ⟨[]⟩))] =>some ([xR (nrW h d e),iR (nrE h d e)],[s2o h d e])
 | _=>none
theorem c1l:∀ az rs l,n1h az=some (rs,l)->l5 l->Ev.Sem zO8 J0 40 az rs:=by
 intro az rs l h hl
 unfold n1h at h
 split at h
 ·cases h
  exact r1b hl.1
 ·cases h
def q0i:iV:=o8 40 (A3 [shV,shV,shV,shV] n1h) mP
theorem zN:iS zO8 J0 q0i:=j0 (m9 _ c1l) Y8
def bRp2:Base:=⟨zO8,J0,false,i1w,q0i,200,L7⟩
theorem c1y:BaseOk bRp2:=⟨progOk,j0c,zN,r5⟩
abbrev b3j:Cx:=bRp2.cx 10
def sgE (x:Nat):Nat:=(uI.wrap ↑(zO11 uI.bits (uI.wrap ↑(zO11 uI.bits ↑x&&& ~~~zO11 uI.bits 9223372036854775808).toNat)||| zO11 uI.bits (uI.wrap ↑(zO11 uI.bits 13830554455654793216&&& zO11 uI.bits 9223372036854775808).toNat)).toNat).toNat
theorem c3u (x:Nat):b7 b3j [] 200 44 [.float .f64 x, .bool true] [true] =some (.float .f64 (sgE x),[true=true]):=by kernel_rfl
theorem e3r (x:Nat):b7 b3j [] 200 44 [.float .f64 x, .bool false] [false] =some (.float .f64 x,[false=false]):=by kernel_rfl
def sgV (x:Nat) (g:Bool):Nat:=if g=true then sgE x else x
theorem b2u (x:Nat) (g:Bool):Ev.Pure zO8 J0 44 [.float .f64 x, .bool g] (.float .f64 (sgV x g)):=by
 cases g with
 | true=>exact i7 c1y 10 _ _ (c3u x) ⟨rfl,a6⟩
 | false=>exact i7 c1y 10 _ _ (e3r x) ⟨rfl,a6⟩
def f1o:List Value->Option (Value×List Prop)
 | [.float .f64 x, .bool g] =>some (.float .f64 (sgV x g),[])
 | _=>none
theorem m1h (args:List Value) (v:Value) (l:List Prop) (h:f1o args=some (v,l)) (_:l5 l):Ev.Pure zO8 J0 44 args v:=by
 unfold f1o at h
 split at h
 ·cases h
  exact b2u _ _
 ·cases h
def m1b:Tab:=r6 44 f1o i1w
theorem j0r:U6 zO8 J0 m1b:=i8 m1h j0c
def bRp3:Base:=⟨zO8,J0,false,m1b,q0i,200,L7⟩
theorem d0o:BaseOk bRp3:=⟨progOk,j0r,zN,r5⟩
abbrev s2h:Cx:=bRp3.cx 10
def paX (t:List UInt8):Nat:=nrW (m0l t) (m0p t) (m0h t)
def paZ (t:List UInt8):Int:=nrE (m0l t) (m0p t) (m0h t)
def paO (t:List UInt8):Prop:=s2o (m0l t) (m0p t) (m0h t)
def paB (t:List UInt8):Bool:=match rdE t !=0 with | true=>true | false=>rdI t
def paI (t:List UInt8):Bool:=match paZ t==0 with | true=>gtL (i2v (paX t)) 9218868437227405311 | false=>false
section
variable (t:List UInt8) (r:Nat) (z:Int)
abbrev tA (t:List UInt8):List Arg:=[.c (.v (.string ⟨⟨t⟩⟩))]
theorem d3k:B2 s2h [] 200 8 (tA t) [xR r,iR z] [true] =some [paB t=true,zO3 .f64 (rdO t)=zO3 .f64 r,zO2 .i64 (rdE t)=zO2 .i64 z] :=by kernel_rfl
theorem f3a:B2 s2h [] 200 8 (tA t) [xR r,iR z] [false,true,true] =some [true=true,paI t=true,paO t,paB t=false,zO3 .f64 0=zO3 .f64 r,zO2 .i64 15=zO2 .i64 z] :=by kernel_rfl
theorem c3l:B2 s2h [] 200 8 (tA t) [xR r,iR z] [false,false,true] =some [(paZ t !=0)=true,paI t=false,paO t,paB t=false,zO3 .f64 0=zO3 .f64 r,zO2 .i64 (paZ t)=zO2 .i64 z] :=by kernel_rfl
theorem c3i:B2 s2h [] 200 8 (tA t) [xR r,iR z] [false,false,false] =some [(paZ t !=0)=false,paI t=false,paO t,paB t=false,zO3 .f64 (sgV (paX t) (rdN t))=zO3 .f64 r,zO2 .i64 0=zO2 .i64 z] :=by kernel_rfl
end
def paW (t:List UInt8):Nat:=if paB t=true then rdO t else if paI t=true then 0 else if paZ t≠0 then 0 else sgV (paX t) (rdN t)
def paE (t:List UInt8):Int:=if paB t=true then rdE t else if paI t=true then 15 else paZ t
theorem j0x {t:List UInt8} (h:paB t=false->paO t):Ev.Sem zO8 J0 8 (tA t) [xR (paW t),iR (paE t)] :=by
 cases h1:paB t with
 | true=>
  have e1:paW t=rdO t:=by unfold paW; rw [h1]; exact f9 rfl
  have e2:paE t=rdE t:=by unfold paE; rw [h1]; exact f9 rfl
  rw [e1,e2]
  exact l7 d0o 10 _ _ (d3k t _ _) ⟨h1,rfl,rfl,a6⟩
 | false=>
  have ho:=h h1
  have n1:¬paB t=true:=by rw [h1]; decide
  cases h2:paI t with
  | true=>
   have e1:paW t=0:=by unfold paW; rw [a7 n1,f9 h2]
   have e2:paE t=15:=by unfold paE; rw [a7 n1,f9 h2]
   rw [e1,e2]
   exact l7 d0o 10 _ _ (f3a t _ _) ⟨rfl,h2,ho,h1,rfl,rfl,a6⟩
  | false=>
   have n2:¬paI t=true:=by rw [h2]; decide
   by_cases h3:paZ t=0
   ·have n3:¬paZ t≠0:=fun k=>k h3
    have e1:paW t=sgV (paX t) (rdN t):=by unfold paW; rw [a7 n1,a7 n2,a7 n3]
    have e2:paE t=0:=by unfold paE; rw [a7 n1,a7 n2,h3]
    rw [e1,e2]
    exact l7 d0o 10 _ _ (c3i t _ _) ⟨by rw [h3]; rfl,h2,ho,h1,rfl,rfl,a6⟩
   ·have e1:paW t=0:=by unfold paW; rw [a7 n1,a7 n2,f9 h3]
    have e2:paE t=paZ t:=by unfold paE; rw [a7 n1,a7 n2]
    rw [e1,e2]
    exact l7 d0o 10 _ _ (c3l t _ _) ⟨zzA187.2 h3,h2,ho,h1,rfl,rfl,a6⟩
theorem v0z (t:List UInt8) (b:Int):∀ (f k:Nat) (p:Int),0<=p->(mL t b f k p).1=p
 | 0,_,_,_=>rfl
 | f+1,k,p,hp=>by
  unfold mL
  have hd:g0m t k p=false:=by
   unfold g0m
   split
   ·exact d8 (by omega)
   ·rfl
  rw [hd]
  split
  ·exact v0z t b f (k+1) p hp
  ·rfl
theorem f0q (t:List UInt8) (b:Int):∀ (f k:Nat) (p:Int) (i:Nat),k<=i->i < (mL t b f k p).2->u7 (chI t (i:Int)) < b∨(i:Int)=(mL t b f k p).1
 | 0,k,p,i,h1,h2=>absurd (show i < k from h2) (by omega)
 | f+1,k,p,i,h1,h2=>by
  unfold mL at h2 ⊢
  by_cases hw:u7 (chI t (k:Int)) < b
  ·rw [f9 hw] at h2 ⊢
   rcases Nat.eq_or_lt_of_le h1 with h | h
   ·subst h; exact .inl hw
   ·exact f0q t b f (k+1) p i h h2
  ·rw [a7 hw] at h2 ⊢
   by_cases hd:g0m t k p=true
   ·rw [f9 hd] at h2 ⊢
    rcases Nat.eq_or_lt_of_le h1 with h | h
    ·subst h
     exact .inr (v0z t b f (k+1) k (w7 _)).symm
    ·exact f0q t b f (k+1) k i h h2
   ·rw [a7 hd] at h2
    exact absurd (show i < k from h2) (by omega)
theorem e0i {t:List UInt8} {a E:Nat} {c:UInt8} (h:c∈(t.take E).drop a):∃ i,a<=i∧i < E∧∃ hi:i < t.length,t[i] =c:=by
 obtain⟨j,hj,rfl⟩:=List.mem_iff_getElem.1 h
 rw [C2,E0] at hj
 refine⟨a+j,by omega,by omega,by omega,?_⟩
 rw [List.getElem_drop,List.getElem_take]
theorem l1x {t:List UInt8} {a:Nat} {b:Int} {c:UInt8} (h:c∈maS t a b):u7 (c.toNat:Int) < b:=by
 have key:∀ i,a<=i->i < maE t a b->(i:Int)≠maP t a b->∀ hi:i < t.length,u7 ((t[i].toNat:Nat):Int) < b:=by
  intro i h1 h2 h3 hi
  unfold maE at h2
  unfold maP at h3
  have:=(f0q t b (t.length-a) a (-1) i h1 h2).resolve_right h3
  rw [f0g hi] at this
  exact this
 unfold maS at h
 split at h
 ·rename_i hp
  obtain⟨i,h1,h2,hi,rfl⟩:=e0i h
  exact key i h1 h2 (by omega) hi
 ·rename_i hp
  rcases zzA94.1 h with h | h
  ·obtain⟨i,h1,h2,hi,rfl⟩:=e0i h
   by_cases hE:i < maE t a b
   ·exact key i h1 hE (by omega) hi
   ·exfalso
    have:=(jP t b (t.length-a) a (-1) (by omega) (by omega)).2.2.2
    unfold maE at hE
    unfold maP at h2 hp
    omega
  ·obtain⟨i,h1,h2,hi,rfl⟩:=e0i h
   by_cases hA:a<=i
   ·exact key i hA h2 (by omega) hi
   ·exfalso
    by_cases ha:a<=t.length
    ·have:=(g0b (b:=b) ha).2.2.1
     omega
    ·have:maP t a b= -1:=by
      unfold maP
      rw [show t.length-a=0 by omega]
      rfl
     omega
theorem a2m {c:UInt8} (h:u7 (c.toNat:Int) < 10):48<=c.toNat∧c.toNat<=57:=by
 unfold u7 at h
 split at h
 ·omega
 ·split at h
  ·omega
  ·split at h <;> omega
theorem b1k (t:List UInt8) (a:Nat) (b:Int):(maS t a b).length<=2*t.length:=by
 unfold maS
 split
 ·rw [C2,E0]; omega
 ·rw [G8,C2,E0,C2,E0]; omega
theorem xB {t:List UInt8} (h:D2 t=true):yB (y6 t):=by
 intro c hc
 unfold y6 at hc
 rw [f9 h] at hc
 exact l1x hc
theorem j0g {t:List UInt8} (h:D2 t=false):E2 (y6 t)=true:=by
 refine allDB_mem.2 fun c hc=> ?_
 unfold y6 at hc
 rw [a7 (by rw [h]; decide)] at hc
 exact a2m (l1x hc)
theorem j1e {t:List UInt8} {a:Nat} {b:Int} :0<=maB t a b∧maB t a b<=(t.length:Int):=by
 by_cases ha:a<=t.length
 ·exact dM ha
 ·have:maP t a b= -1:=by
   unfold maP
   rw [show t.length-a=0 by omega]
   rfl
  unfold maB
  rw [f9 (by omega)]
  omega
theorem tR (t:List UInt8): -1073741824-4*(t.length:Int)<=R6 t∧R6 t<=1073741824:=by
 have h1:=j1e (t:=t) (a:=2) (b:=16)
 have h2:=j1e (t:=t) (a:=0) (b:=10)
 have h3:=jS t pP (maE t 2 16)
 have h4:=jS t eE (maE t 0 10)
 unfold R6
 split
 ·omega
 ·split
  ·omega
  ·omega
theorem n2y {t:List UInt8} (h:paB t=false):paO t:=by
 unfold paB at h
 cases hE:(rdE t !=0) with
 | true=>rw [hE] at h; cases h
 | false=>
  rw [hE] at h
  have hI:rdI t=false:=h
  have hE2:rdE t=0:=by
   have:=hE
   rw [bne,Bool.not_eq_false'] at this
   exact eq_of_beq this
  cases h1:rdL t with
  | true=>
   unfold rdE at hE2
   rw [h1] at hE2
   cases hE2
  | false=>
   unfold rdI at hI
   rw [h1] at hI
   cases h2:rdF t with
   | true=>rw [h2] at hI; cases hI
   | false=>
    cases h3:rdG t with
    | true=>rw [h2,h3] at hI; cases hI
    | false=>
     have hP:rdP t=true:=by unfold rdP; rw [h1,h2,h3]; rfl
     have hlen:t.length<=8192:=by
      have hL:=Q8 h1
      have h9:¬((8192:Int) < (t.length:Int)):=hL
      omega
     have hr:=P6 t
     have hx:=tR (o7 t)
     have hs:(y6 (o7 t)).length<=2*(o7 t).length:=by
      unfold y6
      split
      ·exact b1k _ _ _
      ·exact b1k _ _ _
     have e1:m0l t=D2 (o7 t):=by unfold m0l; exact f9 hP
     have e2:m0p t=y6 (o7 t):=by unfold m0p; exact f9 hP
     have e3:m0h t=R6 (o7 t):=by unfold m0h; exact f9 hP
     unfold paO s2o
     rw [e1,e2,e3]
     refine⟨by omega,⟨by omega,by omega⟩,?_⟩
     cases hH:D2 (o7 t) with
     | true=>rw [f9 rfl]; exact xB hH
     | false=>rw [a7 (by decide)]; exact j0g hH
theorem l0r (t:List UInt8):Ev.Sem zO8 J0 8 (tA t) [xR (paW t),iR (paE t)] :=j0x n2y
theorem h1d {x:Nat} (hx:x < 18446744073709551616):(zO11 uI.bits (x:Int)).toNat=x:=by
 show (zO11 64 (x:Int)).toNat=x
 rw [i0r,i0u]
 exact G7 hx
theorem y1j {x:Nat} (hx:x < 9223372036854775808):sgE x=x+9223372036854775808:=by
 unfold sgE
 have h3:(zO11 uI.bits (x:Int)&&& ~~~zO11 uI.bits 9223372036854775808).toNat=x:=by
  rw [pC,h1d (by omega),show (~~~zO11 uI.bits 9223372036854775808).toNat=2 ^63-1 by decide]
  have:=lR x 63
  rw [this]
  exact G7 hx
 have hm:x < 2 ^63:=hx
 have h5:(zO11 uI.bits 13830554455654793216&&& zO11 uI.bits 9223372036854775808).toNat=9223372036854775808:=by decide
 rw [h3,w0a (n:=x) (by omega),h5]
 have h6:(zO11 uI.bits ((x:Nat):Int)||| zO11 uI.bits (uI.wrap ((9223372036854775808:Nat):Int))).toNat=x+9223372036854775808:=by
  rw [pG,h1d (by omega),show (zO11 uI.bits (uI.wrap ((9223372036854775808:Nat):Int))).toNat=2 ^63*1 by decide,wL,<- wU hm]
  omega
 rw [h6,w0a (by omega),g9]
def gQ:List Value->Option (Value×List Prop)
 | [.int .u32 b] =>some (.float .f32 b.toNat,[])
 | _=>none
theorem yT (args:List Value) (v:Value) (l:List Prop) (h:gQ args=some (v,l)) (_:l5 l):Ev.Pure zO8 J0 48 args v:=by
 unfold gQ at h
 split at h
 ·cases h; exact a0w Tryz.func48 (by kernel_rfl) (by kernel_rfl) (by kernel_rfl) (e:=Extern.MathFloatBits.float32frombits) (by kernel_rfl) rfl rfl (fun _=>rfl)
 ·cases h
def aJ:List Value->Option (Value×List Prop)
 | [.float .f32 b] =>some (.int .u32 b,[])
 | _=>none
theorem gG (args:List Value) (v:Value) (l:List Prop) (h:aJ args=some (v,l)) (_:l5 l):Ev.Pure zO8 J0 13 args v:=by
 unfold aJ at h
 split at h
 ·cases h; exact a0w Tryz.func13 (by kernel_rfl) (by kernel_rfl) (by kernel_rfl) (e:=Extern.MathFloatBits.float32bits) (by kernel_rfl) rfl rfl (fun _=>rfl)
 ·cases h
def d0d:List Arg->Option (List Arg×List Prop)
 | [.a [.v (.bool _), .v (.bool false), .v (.bool false), .s 27 .u64 N, .v (.bool false), .s 27 .u64 D], .a [.v (.int .i64 24), .v (.int .i64 (-149)), .v (.int .i64 104)], .c (.v (.int .i64 1))] =>
  some ([uR (a1o 24 104 (val W64 N) (val W64 D) (B9 24 (-149) (val W64 N) (val W64 D))),iR (a1m 24 104 (val W64 N) (val W64 D) (B9 24 (-149) (val W64 N) (val W64 D))),bR (G9 24 104 (val W64 N) (val W64 D) (B9 24 (-149) (val W64 N) (val W64 D))),fR (v0g 24 104 (val W64 N) (val W64 D) (B9 24 (-149) (val W64 N) (val W64 D))) (G9 24 104 (val W64 N) (val W64 D) (B9 24 (-149) (val W64 N) (val W64 D))) (h0k 24 (val W64 N) (val W64 D) (B9 24 (-149) (val W64 N) (val W64 D)))],[Cn N∧Cn D∧0 < val W64 D∧bl (val W64 N)<=1000000∧bl (val W64 D)<=1000000])
 | _=>none
theorem o0n:∀ az rs l,d0d az=some (rs,l)->l5 l->Ev.Sem zO8 J0 101 az rs:=by
 intro az rs l h hl
 unfold d0d at h
 split at h
 ·cases h
  rename_i n N D
  obtain⟨⟨c1,c2,hD,h1,h2⟩,_⟩:=hl
  unfold Cn at c1 c2
  have:=p0h n (N:=val W64 N) (D:=val W64 D) hD h1 h2
  rw [<- c1,<- c2,v0t] at this
  exact this
 ·cases h
def v0e:Tab:=r6 13 aJ (r6 48 gQ m1b)
theorem tI:U6 zO8 J0 v0e:=i8 gG (i8 yT j0r)
def e1u:iV:=o8 101 (A3 [shM, .a [.v, .v, .v],shV] d0d) nJ
theorem z0i:iS zO8 J0 e1u:=j0 (m9 _ o0n) Z0
def bSi0:Base:=⟨zO8,J0,false,v0e,e1u,200,L7⟩
theorem e0j:BaseOk bSi0:=⟨progOk,tI,z0i,r5⟩
abbrev s2r:Cx:=bSi0.cx 10
abbrev yR (x:Nat):Arg:= .c (.v (.float .f32 x))
def sv (N:Nat):Nat:=val W64 (ws W64 N)
theorem p2h (N:Nat):sv N=N:=B5 N
def siM (N D:Nat):Nat:=a1o 24 104 N D (B9 24 (-149) N D)
def siE (N D:Nat):Int:=a1m 24 104 N D (B9 24 (-149) N D)
def siI (N D:Nat):Bool:=G9 24 104 N D (B9 24 (-149) N D)
def siX (N D:Nat):Bool:=v0g 24 104 N D (B9 24 (-149) N D)
def siU (N D:Nat):Bool:=h0k 24 N D (B9 24 (-149) N D)
def siG (N D:Nat):Bool:=decide ((0:Int) < ((siM N D:Nat):Int).fdiv 8388608)
def siB (M:Nat) (E:Int):Nat:=(uJ.wrap ↑(zO11 uJ.bits (uJ.wrap ((uJ.wrap (iI.wrap (E+150)))*2 ^min (Int.toNat 23) uJ.bits))||| zO11 uJ.bits (uJ.wrap ↑(zO11 uJ.bits (uJ.wrap ((M:Nat):Int))&&& zO11 uJ.bits 8388607).toNat)).toNat).toNat
def siL (M:Nat):Nat:=(uJ.wrap ((M:Nat):Int)).toNat
section
variable (n:Bool) (d:List UInt8) (e:Int) (r:Nat) (a b c:Bool)
abbrev siN (d:List UInt8) (e:Int):Nat:=sv (qtN d (e-0))
abbrev siD (e:Int):Nat:=sv (qtD [49] (e-0))
abbrev siP (d:List UInt8) (e:Int):List Prop:=[(ws W64 (qtN d (e-0))).length=(ws W64 (qtN d (e-0))).length,(ws W64 (qtD [49] (e-0))).length=(ws W64 (qtD [49] (e-0))).length,Cn (ws W64 (qtN d (e-0)))∧Cn (ws W64 (qtD [49] (e-0)))∧0 < siD e∧bl (siN d e)<=1000000∧bl (siD e)<=1000000,
 Z6 d∧Z6 [49] ∧d.length<=100000∧1<=100000∧(-1000000<=e-0∧e-0<=1000000)∧(-1000<=(d.length:Int)- ((1:Nat):Int)+(e-0)∧(d.length:Int)- ((1:Nat):Int)+(e-0)<=1000)]
abbrev siQ (d:List UInt8) (n:Bool) (e:Int):List Prop:=[false=false,false=false,(!bU n d e)=false,d.length<=9223372036854775807,(0:Int)<=0∧(0:Int) < 1,true=true]
abbrev siV (d:List UInt8) (e:Int) (w r:Nat) (a b c:Bool):List Prop:=[zO3 .f32 w=zO3 .f32 r,zO9 (siX (siN d e) (siD e))=zO9 a,zO9 (siI (siN d e) (siD e))=zO9 b,zO9 (siU (siN d e) (siD e))=zO9 c,zO2 .i64 0=zO2 .i64 0]
theorem c3f:B2 s2r [] 200 50 [dA n d e,iR 1] [yR r,fR a b c,iR 0] [true,false,false,false,true] =some ([(d==[])=true] ++siQ d n e++[zO3 .f32 0=zO3 .f32 r,zO9 false=zO9 a,zO9 false=zO9 b,zO9 false=zO9 c,zO2 .i64 0=zO2 .i64 0]):=by kernel_rfl
theorem d3h:B2 s2r [] 200 50 [dA n d e,iR 1] [yR r,fR a b c,iR 0] [true,false,false,false,false,false,true,false] =some ([(n !=false)=false,siG (siN d e) (siD e)=true,siI (siN d e) (siD e)=false] ++siP d e++[(d==[])=false] ++siQ d n e++siV d e (siB (siM (siN d e) (siD e)) (siE (siN d e) (siD e))) r a b c):=by kernel_rfl
theorem d3z:B2 s2r [] 200 50 [dA n d e,iR 1] [yR r,fR a b c,iR 0] [true,false,false,false,false,false,false,false] =some ([(n !=false)=false,siG (siN d e) (siD e)=false,siI (siN d e) (siD e)=false] ++siP d e++[(d==[])=false] ++siQ d n e++siV d e (siL (siM (siN d e) (siD e))) r a b c):=by kernel_rfl
theorem d3e:B2 s2r [] 200 50 [dA n d e,iR 1] [yR r,fR a b c,iR 0] [true,false,false,false,false,true,false] =some ([(n !=false)=false,(floatToFloatBits .f64 9218868437227405312 .f32).isSome=true,siI (siN d e) (siD e)=true] ++siP d e++[(d==[])=false] ++siQ d n e++siV d e ((floatToFloatBits .f64 9218868437227405312 .f32).getD 0) r a b c):=by kernel_rfl
end
theorem e2j {x:Nat} (hx:x < 4294967296):(zO11 uJ.bits (x:Int)).toNat=x:=by
 show (zO11 32 (x:Int)).toNat=x
 rw [i0r,i0u]
 exact G7 hx
theorem i2i {n:Nat} (h:n < 4294967296):uJ.wrap (n:Int)=(n:Int):=by
 rw [IntKind.wrap_u32]
 omega
theorem o2a {M:Nat} (h:M < 16777216):siL M=M:=by
 unfold siL
 rw [i2i (by omega),g9]
theorem l2l {M:Nat} {E:Int} (h1:8388608<=M) (h2:M < 16777216) (h3: -149<=E) (h4:E<=104):siB M E=(E+149).toNat*8388608+M:=by
 obtain⟨k,hk,hk2⟩:∃ k:Nat,E+150=(k:Int)∧k<=254:=⟨(E+150).toNat,by omega,by omega⟩
 have e1:iI.wrap (E+150)=(k:Int):=by rw [hk]; exact sE (by omega) (by omega)
 unfold siB
 rw [e1,i2i (n:=k) (by omega)]
 have e2:(k:Int)*2 ^min (Int.toNat 23) uJ.bits=((k*8388608:Nat):Int):=by
  rw [V9]
  rfl
 have e3:(zO11 uJ.bits (uJ.wrap ((M:Nat):Int))&&& zO11 uJ.bits 8388607).toNat=M-8388608:=by
  rw [i2i (n:=M) (by omega),pC,e2j (x:=M) (by omega),show (zO11 uJ.bits 8388607).toNat=2 ^23-1 by decide,lR]
  show M%8388608=_
  omega
 rw [e2,i2i (n:=k*8388608) (by omega),e3,i2i (n:=M-8388608) (by omega)]
 have e4:(zO11 uJ.bits ((k*8388608:Nat):Int)||| zO11 uJ.bits ((M-8388608:Nat):Int)).toNat=k*8388608+(M-8388608):=by
  rw [pG,e2j (by omega),e2j (by omega)]
  have:=wU (i:=23) (b:=M-8388608) (by show M-8388608 < 8388608; omega) k
  rw [t7] at this
  exact this.symm
 rw [e4,i2i (n:=k*8388608+(M-8388608)) (by omega),g9]
 omega
theorem w1w (N D:Nat):siG N D=decide (8388608<=siM N D):=by
 unfold siG
 have e:((siM N D:Nat):Int).fdiv 8388608=((siM N D/8388608:Nat):Int):=(qF (siM N D) 8388608).symm
 rw [e]
 refine zzA179.2 ?_
 omega
theorem k1g {N D:Nat} (hN:0 < N) (hD:0 < D):(siI N D=true∧2139095040<=rwd 24 (-149) N D)∨(siI N D=false∧rwd 24 (-149) N D < 2139095040∧siM N D < 16777216∧-149<=siE N D∧siE N D<=104∧(8388608<=siM N D∨siE N D= -149)∧rwd 24 (-149) N D=(siE N D+149).toNat*8388608+siM N D):=by
 have i1:=J9 (L:= -149) (show 0 < 24 by decide) hN hD
 rw [fS (by decide) hN hD i1]
 unfold siI siM siE a1o a1m G9 m0o k0h
 generalize B9 24 (-149) N D=e at*
 obtain⟨a1,a2,a3⟩:=i1
 have m1:=I7 N D e
 rw [show (2:Nat) ^24=16777216 by decide] at*
 rw [show (2:Nat) ^(24-1)=8388608 by decide] at*
 rw [show (e- -149).toNat=(e+149).toNat by omega]
 by_cases hc:16777216<=flm N D e
 ·rw [f9 hc,f9 hc]
  have hm:flm N D e=16777216:=by omega
  by_cases hi:104 < e+1
  ·left
   refine⟨i6 hi,?_⟩
   omega
  ·right
   have hf:decide (104 < e+1)=false:=d8 hi
   rw [hf,a7 (by decide),a7 (by decide),hm]
   refine⟨rfl,by omega,by omega,by omega,by omega, .inl (by omega),by omega⟩
 ·rw [a7 hc,a7 hc]
  by_cases hi:104 < e
  ·left
   refine⟨i6 hi,?_⟩
   rcases a3 with a3 | a3
   ·omega
   ·omega
  ·right
   have hf:decide (104 < e)=false:=d8 hi
   rw [hf,a7 (by decide),a7 (by decide)]
   refine⟨rfl,by omega,by omega,by omega,by omega,?_,by omega⟩
   rcases a3 with a3 | a3
   ·exact .inr a3
   ·exact .inl (by omega)
def t3W (d:List UInt8) (e:Int):Nat:=if d=[] then 0 else min (rwd 24 (-149) (qtN d e) (qtD [49] e)) 2139095040
def t3X (d:List UInt8) (e:Int):Bool:=if d=[] then false else siX (qtN d e) (qtD [49] e)
def t3I (d:List UInt8) (e:Int):Bool:=if d=[] then false else siI (qtN d e) (qtD [49] e)
def t3U (d:List UInt8) (e:Int):Bool:=if d=[] then false else siU (qtN d e) (qtD [49] e)
def z2f (d:List UInt8) (e:Int):Prop:=bU false d e=true∧(d≠[] ->-1000<=(d.length:Int)- ((1:Nat):Int)+e∧(d.length:Int)- ((1:Nat):Int)+e<=1000)
theorem b2g {d:List UInt8} {e:Int} (h:0 < dgN d):0 < qtN d e:=by
 unfold qtN
 split
 ·exact F0 h (s7 (by decide))
 ·exact h
theorem v0p:Z6 [49] :=rfl
theorem q2g {d:List UInt8} {e:Int} (h:z2f d e):Ev.Sem zO8 J0 50 [dA false d e,iR 1] [yR (t3W d e),fR (t3X d e) (t3I d e) (t3U d e),iR 0] :=by
 obtain⟨h1,h2⟩:=h
 obtain⟨a1,a2,a3,a4,a5⟩:=aM h1
 have hq:∀ (f:Bool),l5 (siQ d f e)↔True∧(!bU f d e)=false:=fun f=>⟨fun q=>⟨a6,q.2.2.1⟩,fun q=>⟨rfl,rfl,q.2,by omega,⟨by decide,by decide⟩,rfl,a6⟩⟩
 have hQ:l5 (siQ d false e):=(hq false).2 ⟨a6,by rw [h1]; rfl⟩
 unfold t3W t3X t3I t3U
 by_cases hd:d=[]
 ·rw [f9 hd,f9 hd,f9 hd,f9 hd]
  refine l7 e0j 10 _ _ (c3f false d e 0 false false false) (ap2 (ap2 ⟨by rw [hd]; rfl,a6⟩ hQ) ⟨rfl,rfl,rfl,rfl,rfl,a6⟩)
 ·rw [a7 hd,a7 hd,a7 hd,a7 hd]
  obtain⟨f1,f2⟩:=h2 hd
  have hN:0 < qtN d e:=b2g (a5 hd)
  have hD:0 < qtD [49] e:=m1c (by decide)
  have eN:siN d e=qtN d e:=by unfold siN; rw [p2h,Int.sub_zero]
  have eD:siD e=qtD [49] e:=by unfold siD; rw [p2h,Int.sub_zero]
  have hP:l5 (siP d e):=by
   refine⟨rfl,rfl,⟨Cn.ws _,Cn.ws _,by rw [eD]; exact hD,by rw [eN]; exact z1e a1 a2 (by omega),by rw [eD]; exact x1e v0p (by decide) (by omega)⟩,⟨a1,v0p,by omega,by decide,⟨by omega,by omega⟩,⟨by omega,by omega⟩⟩,a6⟩
  have hn:(d==[])=false:=y9 hd
  rcases k1g hN hD with ⟨g1,g2⟩ | ⟨g1,g2,g3,g4,g5,g6,g7⟩
  ·rw [M2 g2]
   have hw:=d3e false d e 2139095040 (siX (qtN d e) (qtD [49] e)) (siI (qtN d e) (qtD [49] e)) (siU (qtN d e) (qtD [49] e))
   rw [eN,eD] at hw
   refine l7 e0j 10 _ _ hw (ap2 (ap2 (ap2 (ap2 ⟨rfl,by decide+kernel,g1,a6⟩ hP) ⟨hn,a6⟩) hQ) ⟨by rw [show (floatToFloatBits .f64 9218868437227405312 .f32).getD 0=2139095040 by decide+kernel],?_,?_,?_,rfl,a6⟩)
   ·rw [eN,eD]
   ·rw [eN,eD]
   ·rw [eN,eD]
  ·rw [C6 (by omega)]
   by_cases hb:8388608<=siM (qtN d e) (qtD [49] e)
   ·have hw:=d3h false d e (rwd 24 (-149) (qtN d e) (qtD [49] e)) (siX (qtN d e) (qtD [49] e)) (siI (qtN d e) (qtD [49] e)) (siU (qtN d e) (qtD [49] e))
    rw [eN,eD,l2l hb g3 g4 g5,w1w,<- g7] at hw
    refine l7 e0j 10 _ _ hw (ap2 (ap2 (ap2 (ap2 ⟨rfl,i6 hb,g1,a6⟩ hP) ⟨hn,a6⟩) hQ) ⟨rfl,?_,?_,?_,rfl,a6⟩)
    ·rw [eN,eD]
    ·rw [eN,eD]
    ·rw [eN,eD]
   ·have hE:siE (qtN d e) (qtD [49] e)= -149:=g6.resolve_left hb
    have e0:rwd 24 (-149) (qtN d e) (qtD [49] e)=siM (qtN d e) (qtD [49] e):=by
     rw [g7,hE]
     show 0*8388608+_=_
     rw [K8,I0]
    have hw:=d3z false d e (rwd 24 (-149) (qtN d e) (qtD [49] e)) (siX (qtN d e) (qtD [49] e)) (siI (qtN d e) (qtD [49] e)) (siU (qtN d e) (qtD [49] e))
    rw [eN,eD,o2a g3,w1w] at hw
    refine l7 e0j 10 _ _ hw (ap2 (ap2 (ap2 (ap2 ⟨rfl,d8 hb,g1,a6⟩ hP) ⟨hn,a6⟩) hQ) ⟨?_,?_,?_,?_,rfl,a6⟩)
    ·rw [e0]
    ·rw [eN,eD]
    ·rw [eN,eD]
    ·rw [eN,eD]
def h1m:List Arg->Option (List Arg×List Prop)
 | [.c (.v (.agg ⟨[.bool n, .string ⟨⟨d⟩⟩, .int .i64 e]⟩)), .c (.v (.int .i64 1))] =>some ([yR (t3W d e),fR (t3X d e) (t3I d e) (t3U d e),iR 0],[n=false∧z2f d e])
 | _=>none
theorem l1e:∀ az rs l,h1m az=some (rs,l)->l5 l->Ev.Sem zO8 J0 50 az rs:=by
 intro az rs l h hl
 unfold h1m at h
 split at h
 ·cases h
  obtain⟨⟨rfl,h1⟩,_⟩:=hl
  exact q2g h1
 ·cases h
theorem f0t:Ieee.single.leastPlace= -149:=by decide
theorem d0n:Ieee.single.binade=8388608:=by decide
theorem g2d:Ieee.single.infRung=2139095040:=by decide
theorem p0i:Ieee.single.signWeight=2147483648:=by decide
theorem n2r:Ieee.single.fractionBits=23:=by decide
theorem b1u {n M k:Nat} (b:Bool) (h:n=M*2 ^k) (hM:0 < M):Ieee.Toward.even.cut b n k=M:=by
 have:=fE h hM
 exact this
theorem x0o {a b:Nat} (ha:a<=253) (hb:b < 16777216):a*8388608+b<=2139095040:=by omega
theorem p2j {M k:Nat} {E:Int} (b:Bool) (hM:0 < M) (h24:M < 16777216) (hE: -149<=E) (hn:8388608<=M∨E= -149) (hT:E<=104):Ieee.single.nearest b (M*2 ^k) (E-k)=Ieee.single.word b ((E+149).toNat*8388608+M):=by
 have h2:0 < 2 ^k:=s7 (by decide)
 have h0:M*2 ^k≠0:=by
  have:=F0 hM h2
  omega
 have hl:(M*2 ^k).log2=M.log2+k:=by
  have hb:=b0x (show M≠0 by omega)
  refine gH ?_ ?_
  ·rw [n9]; exact w9 _ hb.1
  ·rw [show M.log2+k+1=M.log2+1+k by omega,n9]; exact P4 hb.2 h2
 have hlast:max (E- (k:Int)+((M*2 ^k).log2:Nat)- (Ieee.single.fractionBits:Nat)) Ieee.single.leastPlace=E:=by
  rw [hl,f0t,n2r]
  by_cases hb:8388608<=M
  ·have:M.log2=23:=gH hb h24
   rw [this]
   omega
  ·have hlt:M.log2 < 23:=(a0e (by omega)).2 (by show M < 8388608; omega)
   rcases hn with hn | hn <;> omega
 unfold Ieee.Format.nearest
 rw [a7 h0]
 simp only [hlast]
 have e1:(E- (k:Int)-E).toNat=0:=by omega
 have e2:(E- (E- (k:Int))).toNat=k:=by omega
 rw [e1,e2,Nat.shiftLeft_zero,b1u b rfl hM,f0t,d0n,g2d]
 rw [show E- -149=E+149 by omega]
 rw [C6 (x0o (by omega) h24)]
def dbl (W:Nat):Nat:=(floatToFloatBits .f32 W .f64).getD 0
def sgM (W:Nat):Nat:=if W < 8388608 then W else 8388608+W%8388608
def sgP (W:Nat):Int:=if W < 8388608 then -149 else -149+((W/8388608-1:Nat):Int)
theorem y1i {W:Nat} (h:W < 2139095040):Ieee.single.read W= .number false (sgM W) (sgP W):=by
 unfold Ieee.Format.read sgM sgP
 rw [p0i,d0n,g2d,f0t]
 have e1:W%2147483648=W:=G7 (by omega)
 simp only [e1]
 rw [show (W/2147483648%2==1)=false by rw [mK (by omega)]; rfl]
 by_cases h1:W < 8388608
 ·rw [f9 h1,f9 h1,f9 h1]
 ·rw [a7 h1,a7 h1,a7 h1,f9 h]
theorem g0s {W:Nat} (h:W < 2139095040):sgM W < 16777216∧-149<=sgP W∧sgP W<=104∧(8388608<=sgM W∨sgP W= -149)∧(sgP W+149).toNat*8388608+sgM W=W∧(0 < W->0 < sgM W):=by
 unfold sgM sgP
 by_cases h1:W < 8388608
 ·rw [f9 h1,f9 h1]
  exact⟨by omega,by omega,by omega, .inr rfl,by omega,fun h=>h⟩
 ·rw [a7 h1,a7 h1]
  have hm:=F7 W (show 0 < 8388608 by decide)
  have hd:=bV W 8388608
  exact⟨by omega,by omega,by omega, .inl (by omega),by omega,fun _=>by omega⟩
theorem o0o {M:Nat} (h0:0 < M) (h24:M<=16777216):∃ t,28<=t∧t<=52∧4503599627370496<=M*2 ^t∧M*2 ^t < 9007199254740992∧(8388608<=M->t<=29)∧(M < 16777216->29<=t):=by
 have hb:=b0x (show M≠0 by omega)
 have hl:M.log2<=24:=by
  rcases J4 24 M.log2 with h | h
  ·have:2 ^25<=2 ^M.log2:=y5 (by decide) h
   have e:(2:Nat) ^25=33554432:=by decide
   omega
  ·exact h
 refine⟨52-M.log2,by omega,by omega,?_,?_,fun h8=> ?_,fun h16=> ?_⟩
 ·have:2 ^M.log2*2 ^(52-M.log2)<=M*2 ^(52-M.log2):=w9 _ hb.1
  rw [<- n9,show M.log2+(52-M.log2)=52 by omega] at this
  exact this
 ·have:M*2 ^(52-M.log2) < 2 ^(M.log2+1)*2 ^(52-M.log2):=P4 hb.2 (s7 (by decide))
  rw [<- n9,show M.log2+1+(52-M.log2)=53 by omega] at this
  exact this
 ·have:¬M.log2 < 23:=fun h=>by
   have h2:2 ^(M.log2+1)<=2 ^23:=y5 (by decide) h
   have e:(2:Nat) ^23=8388608:=by decide
   omega
  omega
 ·have:M.log2 < 24:=(a0e (by omega)).2 (by show M < 16777216; exact h16)
  omega
theorem j2x {w:Nat} (b:Bool) (h1:4503599627370496<=w) (h2:w < 9218868437227405312):Ieee.double.read (if b=true then w+9223372036854775808 else w)= .number b (4503599627370496+w%4503599627370496) (-1074+((w/4503599627370496-1:Nat):Int)):=by
 cases b with
 | false=>exact xL h1 h2
 | true=>
  unfold Ieee.Format.read
  have hb:Ieee.double.binade=4503599627370496:=by decide
  have hi:Ieee.double.infRung=9218868437227405312:=by decide
  rw [l2g,hb,hi,Q1,f9 rfl]
  have e1:(w+9223372036854775808)%9223372036854775808=w:=by omega
  have e2:(w+9223372036854775808)/9223372036854775808=1:=by omega
  simp only [e1,e2]
  rw [a7 (by omega),f9 h2]
  rfl
theorem y0n {k q:Nat} (h1:4503599627370496<=q) (h2:q < 9007199254740992):(k*4503599627370496+q)/4503599627370496=k+1∧4503599627370496+(k*4503599627370496+q)%4503599627370496=q:=by omega
theorem s1l {k q:Nat} (hk:k<=1178) (h1:4503599627370496<=q) (h2:q < 9007199254740992):4503599627370496<=k*4503599627370496+q∧k*4503599627370496+q < 9218868437227405312:=by omega
theorem x1m {k q:Nat} (b:Bool) (hk:k<=1178) (h1:4503599627370496<=q) (h2:q < 9007199254740992):Ieee.double.read (if b=true then k*4503599627370496+q+9223372036854775808 else k*4503599627370496+q)= .number b q (-1074+(k:Int)):=by
 obtain⟨l1,l2⟩:=s1l hk h1 h2
 obtain⟨e1,e2⟩:=y0n (k:=k) h1 h2
 have hr:=j2x b l1 l2
 rw [e1,e2,zQ] at hr
 exact hr
theorem d2k {W:Nat} (b:Bool) (h:W < 2139095040):(Ieee.single.read (if b=true then W+2147483648 else W)).isInfinity=false:=by
 cases b with
 | false=>rw [a7 (by decide),y1i h]; rfl
 | true=>
  rw [f9 rfl]
  unfold Ieee.Format.read
  rw [p0i,d0n,g2d,f0t]
  have q1:(W+2147483648)%2147483648=W:=by omega
  simp only [q1]
  by_cases h3:W < 8388608
  ·rw [f9 h3]; rfl
  ·rw [a7 h3,f9 h]; rfl
theorem l2q (b:Bool) (W:Nat):Ieee.single.word b W=if b=true then W+2147483648 else W:=by
 unfold Ieee.Format.word
 rw [p0i]
 cases b
 ·rfl
 ·exact g0x _ _
theorem b2t {k q W:Nat} {P:Int} {b:Bool} (hr:Ieee.double.read (if b=true then k*4503599627370496+q+9223372036854775808 else k*4503599627370496+q)= .number b q P) (hw:Ieee.single.nearest b q P=if b=true then W+2147483648 else W) (h:W < 2139095040):
  floatToFloatBits .f64 (if b=true then k*4503599627370496+q+9223372036854775808 else k*4503599627370496+q) .f32=some (if b=true then W+2147483648 else W):=by
 generalize (if b=true then k*4503599627370496+q+9223372036854775808 else k*4503599627370496+q)=X at*
 unfold floatToFloatBits
 rw [a7 (by decide)]
 have hd:FloatKind.f64.decode X= .number b q P:=hr
 rw [hd]
 have hni:(FloatKind.f32.decode (FloatKind.f32.encode (.number b q P))).isInfinity=false:=by
  show (Ieee.single.read (Ieee.single.nearest b q P)).isInfinity=false
  rw [hw]
  exact d2k b h
 show (if (FloatKind.f32.decode (FloatKind.f32.encode (.number b q P))).isInfinity=true then none else some (Ieee.single.nearest b q P))=_
 rw [hni,a7 (by decide),hw]
theorem l2t {M t k:Nat} {E:Int} (b:Bool) (hM:0 < M) (h24:M < 16777216) (hE: -149<=E) (hn:8388608<=M∨E= -149) (hT:E<=104) (h1:4503599627370496<=M*2 ^t) (h2:M*2 ^t < 9007199254740992) (ht:t<=52) (hk:E- (t:Int)+1074=(k:Int)) (hlt:(E+149).toNat*8388608+M < 2139095040):
  floatToFloatBits .f64 (if b=true then k*4503599627370496+M*2 ^t+9223372036854775808 else k*4503599627370496+M*2 ^t) .f32=some (if b=true then (E+149).toNat*8388608+M+2147483648 else (E+149).toNat*8388608+M):=by
 have hk2:k<=1178:=by omega
 have hr:=x1m b hk2 h1 h2
 rw [show (-1074:Int)+(k:Int)=E- (t:Int) by omega] at hr
 have hw:=p2j (k:=t) b hM h24 hE hn hT
 rw [l2q] at hw
 exact b2t hr hw hlt
theorem g2p {W k q:Nat} {P:Int} (hr:Ieee.single.read W= .number false q P) (hw:Ieee.double.nearest false q P=k) (hi:(Ieee.double.read k).isInfinity=false):floatToFloatBits .f32 W .f64=some k:=by
 unfold floatToFloatBits
 rw [a7 (by decide)]
 have hd:FloatKind.f32.decode W= .number false q P:=hr
 rw [hd]
 show (if (Ieee.double.read (Ieee.double.nearest false q P)).isInfinity=true then none else some (Ieee.double.nearest false q P))=_
 rw [hw,hi,a7 (by decide)]
theorem r0z {W:Nat} (h0:0 < W) (h:W < 2139095040):∃ t k:Nat,29<=t∧t<=52∧4503599627370496<=sgM W*2 ^t∧sgM W*2 ^t < 9007199254740992∧(8388608<=sgM W->t=29)∧sgP W- (t:Int)+1074=(k:Int)∧floatToFloatBits .f32 W .f64=some (k*4503599627370496+sgM W*2 ^t):=by
 obtain⟨p1,p2,p3,p4,p5,p6⟩:=g0s h
 obtain⟨t,t1,t2,t3,t4,t5,t6⟩:=o0o (p6 h0) (by omega)
 obtain⟨k,hk⟩:∃ k:Nat,sgP W- (t:Int)+1074=(k:Int):=⟨(sgP W- (t:Int)+1074).toNat,by omega⟩
 have hn:=cG (m:=sgM W) (t:=t) (P:=sgP W) t3 t4 (by omega) (by omega)
 rw [hk,g9] at hn
 refine⟨t,k,t6 p1,t2,t3,t4,fun h8=>by have:=t5 h8; have:=t6 p1; omega,hk,g2p (y1i h) hn ?_⟩
 have:=x1m (k:=k) false (by omega) t3 t4
 rw [a7 (by decide)] at this
 rw [this]
 rfl
theorem s0b:floatToFloatBits .f32 0 .f64=some 0:=by decide+kernel
theorem o0e:dbl 0=0:=by unfold dbl; rw [s0b]; rfl
theorem t1j {W:Nat} (h:W < 2139095040):floatToFloatBits .f32 W .f64=some (dbl W):=by
 unfold dbl
 rcases Q5 W with h0 | h0
 ·rw [h0,s0b]; rfl
 ·obtain⟨t,k,_,_,_,_,_,_,h6⟩:=r0z h0 h
  rw [h6]
  rfl
theorem p2i {k q:Nat} (hk:k<=1149) (hq:q < 16777216):k*4503599627370496+q*536870912<=5183643170566569984:=by omega
theorem k2c {k q:Nat} (hk:k<=896) (hq:q < 9007199254740992):k*4503599627370496+q<=5183643170566569984:=by omega
theorem x1g {W:Nat} (h:W < 2139095040):dbl W<=5183643170566569984:=by
 rcases Q5 W with h0 | h0
 ·rw [h0,o0e]
  exact s6 _
 ·obtain⟨t,k,t1,t2,t3,t4,t5,hk,t6⟩:=r0z h0 h
  obtain⟨p1,p2,p3,p4,p5,p6⟩:=g0s h
  have e:dbl W=k*4503599627370496+sgM W*2 ^t:=by unfold dbl; rw [t6]; rfl
  rw [e]
  rcases p4 with p4 | p4
  ·have:=t5 p4
   subst this
   exact p2i (by omega) p1
  ·exact k2c (by omega) t4
theorem q1l {W:Nat} (b:Bool) (h:W < 2139095040):floatToFloatBits .f64 (if b=true then dbl W+9223372036854775808 else dbl W) .f32=some (if b=true then W+2147483648 else W):=by
 rcases Q5 W with h0 | h0
 ·rw [h0,o0e]
  cases b <;> decide+kernel
 ·obtain⟨t,k,t1,t2,t3,t4,t5,hk,t6⟩:=r0z h0 h
  obtain⟨p1,p2,p3,p4,p5,p6⟩:=g0s h
  have e:dbl W=k*4503599627370496+sgM W*2 ^t:=by unfold dbl; rw [t6]; rfl
  have:=l2t b (p6 h0) p1 p2 p4 p3 t3 t4 t2 hk (by rw [p5]; exact h)
  rw [p5,<- e] at this
  exact this
def cJa:Code:=z8 zO8 98 0
def cJb:Code:=z8 zO8 98 1
def tJ (o m e:Int):St:=⟨only 60 [(1, .int .u64 m),(2, .int .i64 e),(8, .int .u64 o)],J0.tabs,11,[],[],0,none,[],11⟩
abbrev jC (m e:Int):Bool:=match decide (m < 4503599627370496) with | true=>decide (e > -1074) | false=>false
abbrev jR (e:Int):Bool:=match decide (e > 3000) with | true=>true | false=>decide (e < -3000)
abbrev jT (m e:Int):Bool:=match (match decide (m>=9007199254740992) with | true=>true | false=>decide (e < -1074)) with | true=>true | false=>decide (e > 971)
abbrev y1h (a b:Int):Int:=uI.wrap ((zO11 uI.bits a||| zO11 uI.bits b).toNat:Int)
abbrev c2k (a b:Int):Int:=uI.wrap ((zO11 uI.bits a&&& zO11 uI.bits b).toNat:Int)
abbrev jW (o m e:Int):Int:=y1h (y1h o (uI.wrap (uI.wrap (iI.wrap (e+1075))*2 ^min (Int.toNat 52) uI.bits))) (c2k m 4503599627370495)
abbrev jAz (g:Bool) (m e:Int):List Value:=[.bool g, .int .u64 m, .int .i64 e]
abbrev jV (r:Int):Value:= .tuple ⟨[.int .u64 r, .int .i64 0]⟩
section
variable (o m e m1 e1 m2 e2:Int)
theorem x2l (hl:l5 [(m.tmod 2==0)=true]):u4 XRx cJa (tJ o m e) .normal (tJ o (uI.wrap (m.tdiv 2)) (iI.wrap (e+1))):=
 stp C1 10 progOk.mixed [true] [] (by kernel_rfl) hl
theorem p2u (hl:l5 [(m.tmod 2==0)=false]):u4 XRx cJa (tJ o m e) (.exit 0) (tJ o m e):=
 stp C1 10 progOk.mixed [false] [] (by kernel_rfl) hl
theorem w2z (hl:l5 [jC m e=true]):u4 XRx cJb (tJ o m e) .normal (tJ o (uI.wrap (2*m)) (iI.wrap (e-1))):=
 stp C1 10 progOk.mixed [true] [] (by kernel_rfl) hl
theorem q2a (hl:l5 [jC m e=false]):u4 XRx cJb (tJ o m e) (.exit 2) (tJ o m e):=
 stp C1 10 progOk.mixed [false] [] (by kernel_rfl) hl
abbrev jL (g:Bool) (ds:List Bool):List Prop:=[b9 XRx cJb (tJ o m1 e1) (.exit 2) (tJ o m2 e2),b9 XRx cJa (x9 XRx 200 98 (jAz g m e) J0.tabs zO8.globals.size ds) (.exit 0) (tJ o m1 e1),jR e=false,(m==0)=false]
abbrev jH:U5:=[H7 (.exit 0) (fun _=>tJ o m1 e1),H7 (.exit 2) (fun _=>tJ o m2 e2)]
theorem u2t:b7 XRx (jH 0 m1 e1 m2 e2) 200 98 (jAz false m e) [false,false,false,false,false] =some (jV (jW 0 m2 e2),[decide (m2 < 4503599627370496)=false,jT m2 e2=false] ++jL 0 m e m1 e1 m2 e2 false [false,false,false,false,false] ++[false=false]):=by kernel_rfl
theorem v2v:b7 XRx (jH 0 m1 e1 m2 e2) 200 98 (jAz false m e) [false,false,false,false,true] =some (jV (y1h 0 m2),[decide (m2 < 4503599627370496)=true,jT m2 e2=false] ++jL 0 m e m1 e1 m2 e2 false [false,false,false,false,true] ++[false=false]):=by kernel_rfl
theorem w2s:b7 XRx (jH 9223372036854775808 m1 e1 m2 e2) 200 98 (jAz true m e) [true,false,false,false,false] =some (jV (jW 9223372036854775808 m2 e2),[decide (m2 < 4503599627370496)=false,jT m2 e2=false] ++jL 9223372036854775808 m e m1 e1 m2 e2 true [true,false,false,false,false] ++[true=true]):=by kernel_rfl
theorem w2j:b7 XRx (jH 9223372036854775808 m1 e1 m2 e2) 200 98 (jAz true m e) [true,false,false,false,true] =some (jV (y1h 9223372036854775808 m2),[decide (m2 < 4503599627370496)=true,jT m2 e2=false] ++jL 9223372036854775808 m e m1 e1 m2 e2 true [true,false,false,false,true] ++[true=true]):=by kernel_rfl
theorem o2j:b7 XRx [] 200 98 (jAz false m e) [false,true] =some (jV 0,[(m==0)=true,false=false]):=by kernel_rfl
theorem p2s:b7 XRx [] 200 98 (jAz true m e) [true,true] =some (jV 9223372036854775808,[(m==0)=true,true=true]):=by kernel_rfl
theorem u0a (ds:List Bool) {x:AX} {s':St} (h:b9 XRx cJa (tJ 0 m e) x s'):b9 XRx cJa (x9 XRx 200 98 (jAz false m e) J0.tabs zO8.globals.size (false ::false ::false ::ds)) x s':=
 l9 h []
theorem v0n (ds:List Bool) {x:AX} {s':St} (h:b9 XRx cJa (tJ 9223372036854775808 m e) x s'):b9 XRx cJa (x9 XRx 200 98 (jAz true m e) J0.tabs zO8.globals.size (true ::false ::false ::ds)) x s':=
 l9 h []
end
theorem c3r {m e:Int} (h1:m < 4503599627370496) (h2:e > -1074):jC m e=true:=by
 unfold jC
 simp only [i6 h1,i6 h2]
theorem x2d {m e:Int} (h1:¬m < 4503599627370496):jC m e=false:=by
 unfold jC
 simp only [d8 h1]
theorem v2i {m e:Int} (h2:¬e > -1074):jC m e=false:=by
 unfold jC
 simp only [d8 h2]
 cases decide (m < 4503599627370496) <;> simp only
theorem p1y:∀ m:Nat,0 < m->∃ a t,m=a*2 ^t∧a%2=1:=by
 intro m
 induction m using Nat.strongRecOn with
 | ind m ih=>
  intro h
  rcases Nat.mod_two_eq_zero_or_one m with k | k
  ·obtain⟨a,t,h1,h2⟩:=ih (m/2) (by omega) (by omega)
   exact⟨a,t+1,by rw [y8,<- r7,<- h1]; omega,h2⟩
  ·exact⟨m,0,by rw [G3,u9],k⟩
section
variable {m:Nat} {e:Int} (h0:0 < m) (h53:m < 9007199254740992) (hE: -1074<=e∧e<=971) (hn:4503599627370496<=m∨e= -1074)
include h0 h53 hE hn
theorem e1w (o:Int):∃ (a:Nat) (t:Nat),b9 XRx cJa (tJ o (m:Int) e) (.exit 0) (tJ o (a:Int) (e+t))∧b9 XRx cJb (tJ o (a:Int) (e+t)) (.exit 2) (tJ o (m:Int) e):=by
 obtain⟨a,t,hm,ha⟩:=p1y m h0
 have two:∀ k:Nat,0 < (2:Nat) ^k:=fun k=>s7 (by decide)
 have ht:t < 53:=by
  refine Nat.lt_of_not_le fun hge=> ?_
  have h1:1*2 ^53<=a*2 ^t:=sP (by omega) (y5 (by decide) hge)
  have h2:1*(2:Nat) ^53=9007199254740992:=by decide
  omega
 have hle:∀ k,k<=t->a*2 ^k<=m:=fun k hk=>by rw [hm]; exact N0 a (y5 (by decide) hk)
 have hlt:∀ k,k < t->a*2 ^k < 4503599627370496:=fun k hk=>by
  have:=hle (k+1) hk
  rw [y8,<- r7] at this
  omega
 refine⟨a,t,?_,?_⟩
 ·have h:=x5 (X:=XRx) (c:=cJa) (fun k=>tJ o ((a*2 ^(t-k):Nat):Int) (e+(k:Int))) t (x:= .exit 0) (s':=tJ o (a:Int) (e+(t:Int))) (by intro e; cases e) (fun k hk=>by
   have e1:a*2 ^(t-k)=2*(a*2 ^(t- (k+1))):=by
    rw [show t-k=(t- (k+1))+1 by omega,y8,<- r7,t7]
   have hb:=hle (t- (k+1)) (by omega)
   rw [e1]
   generalize a*2 ^(t- (k+1))=q at*
   have hs:=x2l o ((2*q:Nat):Int) (e+(k:Int)) ⟨by rw [show ((2*q:Nat):Int).tmod 2=((2*q%2:Nat):Int) from rfl,Nat.mul_mod_right]; rfl,a6⟩
   have hd:uI.wrap (((2*q:Nat):Int).tdiv 2)=(q:Int):=by
    rw [show ((2*q:Nat):Int).tdiv 2=((2*q/2:Nat):Int) from rfl,Nat.mul_div_cancel_left _ (by decide)]
    exact qT (by omega)
   have he:iI.wrap (e+(k:Int)+1)=e+((k+1:Nat):Int):=by
    have:=y3 (e+(k:Int)+1)
    omega
   rw [hd,he] at hs
   exact hs) (by
   rw [L0,G3,u9]
   exact p2u _ _ _ ⟨by rw [show (a:Int).tmod 2=((a%2:Nat):Int) from rfl,ha]; rfl,a6⟩)
  rw [y0g,<- hm,show e+((0:Nat):Int)=e by omega] at h
  exact h
 ·have h:=x5 (X:=XRx) (c:=cJb) (fun k=>tJ o ((a*2 ^k:Nat):Int) (e+(t:Int)- (k:Int))) t (x:= .exit 2) (s':=tJ o (m:Int) e) (by intro e; cases e) (fun k hk=>by
   have hq:=hlt k hk
   have e1:a*2 ^(k+1)=2*(a*2 ^k):=by rw [y8,<- r7,t7]
   rw [e1]
   generalize a*2 ^k=q at*
   have hs:=w2z o (q:Int) (e+(t:Int)- (k:Int)) ⟨c3r (by omega) (by omega),a6⟩
   have hd:uI.wrap (2*(q:Int))=((2*q:Nat):Int):=by
    rw [show 2*(q:Int)=((2*q:Nat):Int) by omega]
    exact qT (by omega)
   have he:iI.wrap (e+(t:Int)- (k:Int)-1)=e+(t:Int)- ((k+1:Nat):Int):=by
    have:=y3 (e+(t:Int)- (k:Int)-1)
    omega
   rw [hd,he] at hs
   exact hs) (by
   rw [<- hm,show e+(t:Int)- (t:Int)=e by omega]
   exact q2a _ _ _ ⟨hn.elim (fun h=>x2d (by omega)) (fun h=>v2i (by omega)),a6⟩)
  rw [G3,u9,show e+(t:Int)- ((0:Nat):Int)=e+t by omega] at h
  exact h
end
theorem c0y {a b:Nat} (ha:a < 18446744073709551616) (hb:b < 18446744073709551616):y1h (a:Int) (b:Int)=((a||| b:Nat):Int):=by
 show uI.wrap ((zO11 uI.bits (a:Int)||| zO11 uI.bits (b:Int)).toNat:Int)=_
 rw [pG,a0p ha,a0p hb]
 exact qT (Nat.or_lt_two_pow (n:=64) ha hb)
theorem a1r {a:Nat} (ha:a < 18446744073709551616):c2k (a:Int) 4503599627370495=((a%4503599627370496:Nat):Int):=by
 show uI.wrap ((zO11 uI.bits (a:Int)&&& zO11 uI.bits ((4503599627370495:Nat):Int)).toNat:Int)=_
 rw [pC,a0p ha,a0p (by decide)]
 have h:=lR a 52
 rw [show (2:Nat) ^52-1=4503599627370495 by decide,show (2:Nat) ^52=4503599627370496 by decide] at h
 rw [h]
 exact qT (by omega)
theorem q1v (i a:Nat) {b P:Nat} (hP:2 ^i=P) (hb:b < P):P*a||| b=P*a+b:=by
 subst hP
 exact (wU hb a).symm
def sgO (g:Bool):Nat:=if g=true then 9223372036854775808 else 0
theorem l1i (g:Bool):sgO g=0∨sgO g=9223372036854775808:=by cases g; exact .inl rfl; exact .inr rfl
theorem o2l (g:Bool) {x:Nat} (hx:x < 9223372036854775808):sgO g||| x=sgO g+x:=by
 cases g with
 | false=>exact (Nat.zero_or x).trans (I0 x).symm
 | true=>exact q1v 63 1 (by decide) hx
theorem r2y (g:Bool) {m:Nat} {e:Int} (h53:m < 9007199254740992) (h52:4503599627370496<=m) (hE: -1074<=e∧e<=971):jW (sgO g:Int) (m:Int) e=((sgO g+((e+1074).toNat*4503599627370496+m):Nat):Int):=by
 obtain⟨k,hk⟩:∃ k:Nat,e+1075=(k:Int):=⟨(e+1075).toNat,by omega⟩
 have hs:sgO g<=9223372036854775808:=by rcases l1i g with h | h <;> omega
 have h1:iI.wrap (e+1075)=(k:Int):=by have:=y3 (e+1075); omega
 have h2:uI.wrap (uI.wrap (iI.wrap (e+1075))*2 ^min (Int.toNat 52) uI.bits)=((4503599627370496*k:Nat):Int):=by
  rw [h1,qT (n:=k) (by omega)]
  show uI.wrap ((k:Int)*4503599627370496)=_
  rw [show (k:Int)*4503599627370496=((4503599627370496*k:Nat):Int) by omega]
  exact qT (by omega)
 show y1h (y1h (sgO g:Int) (uI.wrap (uI.wrap (iI.wrap (e+1075))*2 ^min (Int.toNat 52) uI.bits))) (c2k (m:Int) 4503599627370495)=_
 rw [h2,a1r (by omega),c0y (by omega) (by omega),o2l g (by omega),c0y (by omega) (by omega)]
 obtain⟨z,hz⟩:∃ z,sgO g+4503599627370496*k=4503599627370496*z:=by
  rcases l1i g with h | h
  ·exact⟨k,by omega⟩
  ·exact⟨2048+k,by omega⟩
 have:=q1v 52 z (P:=4503599627370496) (b:=m%4503599627370496) (by decide) (by omega)
 rw [hz,this]
 omega
def jnW (g:Bool) (m:Nat) (e:Int):Nat:=sgO g+(if m=0 then 0 else (e+1074).toNat*4503599627370496+m)
def joK (m:Nat) (e:Int):Prop:=m=0∨(m < 9007199254740992∧(-1074<=e∧e<=971)∧(4503599627370496<=m∨e= -1074))
theorem v2m {e:Int} (hE: -1074<=e∧e<=971):jR e=false:=by
 unfold jR
 simp only [d8 (show ¬e > 3000 by omega),d8 (show ¬e < -3000 by omega)]
theorem v2c {m e:Int} (h:m < 9007199254740992) (hE: -1074<=e∧e<=971):jT m e=false:=by
 unfold jT
 simp only [d8 (show ¬m>=9007199254740992 by omega),d8 (show ¬e < -1074 by omega),d8 (show ¬e > 971 by omega)]
theorem o1k (g:Bool) {m:Nat} {e:Int} (h:joK m e):Ev.Pure zO8 J0 98 (jAz g (m:Int) e) (jV ((jnW g m e:Nat):Int)):=by
 rcases h with h | ⟨h53,hE,hn⟩
 ·subst h
  cases g with
  | false=>exact i7 C1 10 [] [false,true] (o2j _ e) ⟨rfl,rfl,a6⟩
  | true=>exact i7 C1 10 [] [true,true] (p2s _ e) ⟨rfl,rfl,a6⟩
 ·by_cases h0:m=0
  ·subst h0
   cases g with
   | false=>exact i7 C1 10 [] [false,true] (o2j _ e) ⟨rfl,rfl,a6⟩
   | true=>exact i7 C1 10 [] [true,true] (p2s _ e) ⟨rfl,rfl,a6⟩
  have hne:(((m:Nat):Int)==0)=false:=y9 (by omega)
  have hT:=v2c (m:=(m:Int)) (by omega) hE
  have hR:=v2m hE
  have hW:jnW g m e=sgO g+((e+1074).toNat*4503599627370496+m):=by unfold jnW; rw [a7 h0]
  rw [hW]
  by_cases h52:4503599627370496<=m
  ·rw [<- r2y g h53 h52 hE]
   have hd:decide ((m:Int) < 4503599627370496)=false:=d8 (by omega)
   obtain⟨a,t,l1,l2⟩:=e1w (cR h0) h53 hE hn (sgO g:Int)
   cases g with
   | false=>exact i7 C1 10 _ _ (u2t _ e _ _ _ _) ⟨hd,hT,l2,u0a _ _ [false,false] l1,hR,hne,rfl,a6⟩
   | true=>exact i7 C1 10 _ _ (w2s _ e _ _ _ _) ⟨hd,hT,l2,v0n _ _ [false,false] l1,hR,hne,rfl,a6⟩
  ·have he:e= -1074:=by
    rcases hn with h | h
    ·omega
    ·exact h
   have hd:decide ((m:Int) < 4503599627370496)=true:=i6 (by omega)
   obtain⟨a,t,l1,l2⟩:=e1w (cR h0) h53 hE hn (sgO g:Int)
   have hv:((sgO g+((e+1074).toNat*4503599627370496+m):Nat):Int)=y1h (sgO g:Int) (m:Int):=by
    have hs:sgO g<=9223372036854775808:=by rcases l1i g with h | h <;> omega
    rw [c0y (by omega) (by omega),o2l g (by omega),he]
    rw [show ((-1074:Int)+1074).toNat*4503599627370496+m=m by omega]
   rw [hv]
   cases g with
   | false=>exact i7 C1 10 _ _ (v2v _ e _ _ _ _) ⟨hd,hT,l2,u0a _ _ [false,true] l1,hR,hne,rfl,a6⟩
   | true=>exact i7 C1 10 _ _ (w2j _ e _ _ _ _) ⟨hd,hT,l2,v0n _ _ [false,true] l1,hR,hne,rfl,a6⟩
def jnI (g:Bool) (m e:Int):Int:=((jnW g m.toNat e:Nat):Int)
def jnK (m e:Int):Prop:=0<=m∧joK m.toNat e
def g1a:List Value->Option (Value×List Prop)
 | [.bool g, .int .u64 m, .int .i64 e] =>some (jV (jnI g m e),[jnK m e])
 | _=>none
theorem n1p (args:List Value) (v:Value) (l:List Prop) (h:g1a args=some (v,l)) (hl:l5 l):Ev.Pure zO8 J0 98 args v:=by
 unfold g1a at h
 split at h
 ·rename_i g m e
  cases h
  obtain⟨⟨h1,h2⟩,_⟩:=hl
  have:=o1k g h2
  rw [I8 h1] at this
  exact this
 ·cases h
def y1z:Tab:=r6 98 g1a v0y
theorem b1b:U6 zO8 J0 y1z:=i8 n1p tK
def bRq1:Base:=⟨zO8,J0,false,y1z,c0p,200,L7⟩
theorem T1:BaseOk bRq1:=⟨progOk,b1b,nR,r5⟩
abbrev v1x:=bRq1.cx 10
abbrev ftV (g i:Bool) (m e:Int):Value:= .agg ⟨[.bool g, .bool i, .int .u64 m, .int .i64 e]⟩
abbrev q2y (a b:Int):Int:=uJ.wrap ((zO11 uJ.bits a||| zO11 uJ.bits b).toNat:Int)
abbrev h2z (a b:Int):Int:=uJ.wrap ((zO11 uJ.bits a&&& zO11 uJ.bits b).toNat:Int)
abbrev b3h (m e:Int):Int:=q2y (uJ.wrap (uJ.wrap (iI.wrap (e+150))*2 ^min (Int.toNat 23) uJ.bits)) (h2z (uJ.wrap m) 8388607)
section
variable (g:Bool) (m e:Int)
theorem e3y:b7 v1x [] 200 47 [ftV g false m e] [false] =some (.int .u64 (jnI g m e),[jnK m e,false=false]):=by kernel_rfl
theorem d3m:b7 v1x [] 200 47 [ftV true true m e] [true,true] =some (.int .u64 18442240474082181120,[true=true,true=true]):=by kernel_rfl
theorem e3e:b7 v1x [] 200 47 [ftV false true m e] [true,false] =some (.int .u64 9218868437227405312,[false=false,true=true]):=by kernel_rfl
theorem t2y:b7 v1x [] 200 52 [ftV true false m e] [false,true,true] =some (.int .u32 (q2y (b3h m e) 2147483648),[true=true,decide (8388608<=m)=true,false=false]):=by kernel_rfl
theorem n2m:b7 v1x [] 200 52 [ftV true false m e] [false,false,true] =some (.int .u32 (q2y (uJ.wrap m) 2147483648),[true=true,decide (8388608<=m)=false,false=false]):=by kernel_rfl
theorem y2x:b7 v1x [] 200 52 [ftV true true m e] [true,true] =some (.int .u32 4286578688,[true=true,true=true]):=by kernel_rfl
theorem w2f:b7 v1x [] 200 52 [ftV false false m e] [false,true,false] =some (.int .u32 (b3h m e),[false=false,decide (8388608<=m)=true,false=false]):=by kernel_rfl
theorem l2b:b7 v1x [] 200 52 [ftV false false m e] [false,false,false] =some (.int .u32 (uJ.wrap m),[false=false,decide (8388608<=m)=false,false=false]):=by kernel_rfl
theorem y2v:b7 v1x [] 200 52 [ftV false true m e] [true,false] =some (.int .u32 2139095040,[false=false,true=true]):=by kernel_rfl
end
theorem e2e {m:Nat} {e:Int} (h24:m < 16777216) (h23:8388608<=m) (hE: -149<=e∧e<=104):b3h (m:Int) e=(((e+149).toNat*8388608+m:Nat):Int):=by
 obtain⟨k,hk⟩:∃ k:Nat,e+150=(k:Int):=⟨(e+150).toNat,by omega⟩
 have h1:iI.wrap (e+150)=(k:Int):=by have:=y3 (e+150); omega
 have h2:uJ.wrap (uJ.wrap (iI.wrap (e+150))*2 ^min (Int.toNat 23) uJ.bits)=((8388608*k:Nat):Int):=by
  rw [h1,y0p (n:=k) (by show k < 4294967296; omega)]
  show uJ.wrap ((k:Int)*8388608)=_
  rw [show (k:Int)*8388608=((8388608*k:Nat):Int) by omega]
  exact y0p (by show _ < 4294967296; omega)
 have h3:h2z (uJ.wrap (m:Int)) 8388607=((m%8388608:Nat):Int):=by
  show uJ.wrap ((zO11 uJ.bits (uJ.wrap (m:Int))&&& zO11 uJ.bits ((8388607:Nat):Int)).toNat:Int)=_
  rw [y0p (n:=m) (by show m < 4294967296; omega),pC,a0y (by omega),a0y (by decide)]
  have h:=lR m 23
  rw [show (2:Nat) ^23-1=8388607 by decide,show (2:Nat) ^23=8388608 by decide] at h
  rw [h]
  exact y0p (by show _ < 4294967296; omega)
 show q2y (uJ.wrap (uJ.wrap (iI.wrap (e+150))*2 ^min (Int.toNat 23) uJ.bits)) (h2z (uJ.wrap (m:Int)) 8388607)=_
 rw [h2,h3]
 have:=f0p (a:=8388608*k) (b:=m%8388608) (by show _ < 4294967296; omega) (by show _ < 4294967296; omega)
 refine this.trans ?_
 have h4:=q1v 23 k (P:=8388608) (b:=m%8388608) (by decide) (by omega)
 rw [h4]
 omega
def sg3 (g:Bool):Nat:=if g=true then 2147483648 else 0
theorem r2e {x:Nat} (hx:x < 2147483648):q2y (x:Int) 2147483648=((2147483648+x:Nat):Int):=by
 have:=f0p (a:=x) (b:=2147483648) (by show x < 4294967296; omega) (by decide)
 refine this.trans ?_
 have h4:=q1v 31 1 (P:=2147483648) (b:=x) (by decide) hx
 rw [wL,show (2147483648:Nat)||| x=2147483648*1||| x by rw [u9],h4]
def i2z (g i:Bool) (m:Nat) (e:Int):Nat:=if i=true then sgO g+9218868437227405312 else jnW g m e
def o1r (g i:Bool) (m:Nat) (e:Int):Nat:=if i=true then sg3 g+2139095040 else sg3 g+(if m=0 then 0 else (e+149).toNat*8388608+m)
theorem q0w (g i:Bool) {m:Nat} {e:Int} (h:i=false->joK m e):Ev.Pure zO8 J0 47 [ftV g i (m:Int) e] (.int .u64 ((i2z g i m e:Nat):Int)):=by
 cases i with
 | false=>exact i7 T1 10 [] [false] (e3y g _ e) ⟨⟨w7 _,h rfl⟩,rfl,a6⟩
 | true=>
  cases g with
  | false=>exact i7 T1 10 [] [true,false] (e3e _ e) ⟨rfl,rfl,a6⟩
  | true=>exact i7 T1 10 [] [true,true] (d3m _ e) ⟨rfl,rfl,a6⟩
theorem o0m (g i:Bool) {m:Nat} {e:Int} (h:i=false->m=0∨(m < 16777216∧(-149<=e∧e<=104)∧(8388608<=m∨e= -149))):Ev.Pure zO8 J0 52 [ftV g i (m:Int) e] (.int .u32 ((o1r g i m e:Nat):Int)):=by
 cases i with
 | true=>
  cases g with
  | false=>exact i7 T1 10 [] [true,false] (y2v _ e) ⟨rfl,rfl,a6⟩
  | true=>exact i7 T1 10 [] [true,true] (y2x _ e) ⟨rfl,rfl,a6⟩
 | false=>
  by_cases h0:m=0
  ·subst h0
   cases g with
   | false=>exact i7 T1 10 [] [false,false,false] (l2b 0 e) ⟨rfl,rfl,rfl,a6⟩
   | true=>exact i7 T1 10 [] [false,false,true] (n2m 0 e) ⟨rfl,rfl,rfl,a6⟩
  obtain⟨h24,hE,hn⟩:=(h rfl).resolve_left h0
  have hw:o1r g false m e=sg3 g+((e+149).toNat*8388608+m):=by
   show sg3 g+(if m=0 then 0 else (e+149).toNat*8388608+m)=_
   rw [a7 h0]
  rw [hw]
  by_cases h23:8388608<=m
  ·have hd:decide ((8388608:Int)<=(m:Int))=true:=i6 (by omega)
   have hs:=e2e h24 h23 hE
   cases g with
   | false=>
    rw [show sg3 false=0 from rfl,I0,<- hs]
    exact i7 T1 10 [] [false,true,false] (w2f _ e) ⟨rfl,hd,rfl,a6⟩
   | true=>
    rw [show sg3 true=2147483648 from rfl,<- r2e (by omega),<- hs]
    exact i7 T1 10 [] [false,true,true] (t2y _ e) ⟨rfl,hd,rfl,a6⟩
  ·have hd:decide ((8388608:Int)<=(m:Int))=false:=d8 (by omega)
   have he:e= -149:=hn.resolve_left h23
   have hm:(e+149).toNat*8388608+m=m:=by omega
   have hs:uJ.wrap (m:Int)=(m:Int):=y0p (by show m < 4294967296; omega)
   rw [hm]
   cases g with
   | false=>
    have p:=i7 T1 10 [] [false,false,false] (l2b (m:Int) e) ⟨rfl,hd,rfl,a6⟩
    rw [hs] at p
    rw [show sg3 false=0 from rfl,I0]
    exact p
   | true=>
    have p:=i7 T1 10 [] [false,false,true] (n2m (m:Int) e) ⟨rfl,hd,rfl,a6⟩
    rw [hs,r2e (by omega)] at p
    rw [show sg3 true=2147483648 from rfl]
    exact p
def cVa:Code:=z8 zO8 96 0
def cVb:Code:=z8 zO8 96 1
abbrev s2p:TypeId:=146
abbrev vz5:Nat×AObj:=(11, .cells [.bool false, .slice none 0 0, .slice none 0 0, .int .i64 0, .bool false] s2p)
def tVa (d:List UInt8) (b x:Int):St:=⟨only 86 [(0, .string ⟨⟨d⟩⟩),(1, .int .i64 b),(2, .int .i64 x),(6, .pointer (some ⟨11,0,none⟩)),(7, .bool false)],[vz5],12,[],[],0,none,[],11⟩
abbrev tVl (c:List UInt8) (b x i:Int):List (Nat×Value):=[(0, .string ⟨⟨c⟩⟩),(1, .int .i64 b),(2, .int .i64 x),(6, .pointer (some ⟨11,0,none⟩)),(7, .bool false),(8, .pointer (some ⟨15,0,none⟩)),(9, .int .i64 i)]
def u2w (c:List UInt8) (b x i:Int):St:=⟨only 86 (tVl c b x i),[(15, .cells [.bool false, .slice (some ⟨12,0,none⟩) 0 0, .slice (some ⟨13,0,some 14⟩) 1 0, .int .i64 0, .bool false] s2p),(13, .row mW 1 (.ints .u32 (mY 1)) 14),(12, .cells [] mW),vz5],17,[],[],0,none,[],11⟩
def tVb (c:List UInt8) (b x i:Int) (N:List Int) (nn:Nat):St:=⟨only 86 (tVl c b x i),[(17, .row mW 1 (.ints .u32 N) 18),(15, .cells [.bool false, .slice (some ⟨17,0,some 18⟩) nn 0, .slice (some ⟨13,0,some 14⟩) 1 0, .int .i64 0, .bool false] s2p),(13, .row mW 1 (.ints .u32 (mY 1)) 14),vz5],19,[],[],0,none,[],11⟩
def tVs (c:List UInt8) (b x:Int):St:=⟨only 86 (tVl c b x 0++[(20, .string ⟨⟨c⟩⟩),(21, .bool (c==([] :List UInt8))),(23, .slice (some ⟨12,0,none⟩) 0 0),(24, .slice (some ⟨13,0,some 14⟩) 1 0),(25, .agg ⟨[.bool false, .slice (some ⟨12,0,none⟩) 0 0, .slice (some ⟨13,0,some 14⟩) 1 0, .int .i64 0, .bool false]⟩)]),[(15, .cells [.bool false, .slice (some ⟨12,0,none⟩) 0 0, .slice (some ⟨13,0,some 14⟩) 1 0, .int .i64 0, .bool false] s2p),(13, .row mW 1 (.ints .u32 (mY 1)) 14),(12, .cells [] mW),vz5],17,[],[],0,none,[],11⟩
def tzB (t:List UInt8):Bool:=match neB t with | true=>chI t 0==48 | false=>false
def tzQ (t:List UInt8):Prop:=C9 [(2,neB t)] [(2,true)] ->(0:Int)<=0∧(0:Int).toNat < t.length
abbrev vaW (c:List UInt8) (i:Int):Int:=uJ.wrap (w2V (chI c i))
abbrev vaT (N:List Int) (c:List UInt8) (b i:Int):List Int:=tmX N (uJ.wrap b) (vaW c i)
section
variable (d c:List UInt8) (b x i:Int) (N:List Int) (nn:Nat)
theorem a3r (hl:l5 [zO6 0<=zO6 1∧zO6 1<=zO6 d.length,tzB d=true,tzQ d]):u4 XRx cVa (tVa d b x) .normal (tVa (d.drop 1) b x):=
 stp C1 10 progOk.mixed [true] [] (by kernel_rfl) hl
theorem x1c (hl:l5 [tzB d=false,tzQ d]):u4 XRx cVa (tVa d b x) (.exit 0) (tVa d b x):=
 stp C1 10 progOk.mixed [false] [] (by kernel_rfl) hl
theorem m2n (hl:l5 [0<=0,tmP [] (uJ.wrap b) (vaW c i),chP c i,inP c i,ltE c i=true]):u4 XRx cVb (u2w c b x i) .normal (tVb c b x (iI.wrap (i+1)) (vaT [] c b i) (vaT [] c b i).length):=
 stp C1 10 progOk.mixed [true] [] (by kernel_rfl) hl
theorem a3y (hl:l5 [nn<=N.length,tmP (N.take nn) (uJ.wrap b) (vaW c i),chP c i,inP c i,ltE c i=true]):u4 XRx cVb (tVb c b x i N nn) .normal (tVb c b x (iI.wrap (i+1)) (vaT (N.take nn) c b i) (vaT (N.take nn) c b i).length):=
 stp C1 10 progOk.mixed [true] [(17,19),(18,20)] (by kernel_rfl) hl
theorem k2r (hl:l5 [ltE c i=false]):u4 XRx cVb (tVb c b x i N nn) (.exit 2) (tVb c b x i N nn):=
 stp C1 10 progOk.mixed [false] [] (by kernel_rfl) hl
abbrev a1f (d:List UInt8) (b x:Int):List Arg:=[.c (.v (.string ⟨⟨d⟩⟩)),iR b,iR x]
theorem h1p (ds:List Bool) {y:AX} {s':St} (h:b9 XRx cVa (tVa d b x) y s'):b9 XRx cVa (m8 XRx 200 96 (a1f d b x) ds) y s':=
 l9 h []
theorem b2e {y:AX} {s':St} (h:b9 XRx cVb (u2w c b x 0) y s'):b9 XRx cVb (tVs c b x) y s':=
 l9 h []
end
abbrev e1y (N D:List Int) (E:Int) (z:Bool):List Arg:=[.a [.v (.bool false), .s mW .u32 N, .s mW .u32 D, .v (.int .i64 E), .v (.bool false)], .c (.v (.bool z))]
section
variable (d c:List UInt8) (b x i E:Int) (N A B:List Int) (nn:Nat)
abbrev vaH:U5:=[H7 (.exit 0) (fun _=>tVa c b x),H7 (.exit 2) (fun _=>tVb c b x i N nn)]
abbrev vaL (ds:List Bool):List Prop:=[b9 XRx cVb (tVs c b x) (.exit 2) (tVb c b x i N nn),(0:Int)<=1∧(1:Int) < 18446744073709551616,(c==([] :List UInt8))=false,b9 XRx cVa (m8 XRx 200 96 (a1f d b x) ds) (.exit 0) (tVa c b x)]
abbrev j2n:List Prop:=[(0:Int)<=1∧(1:Int) < 18446744073709551616,(0:Int)<=1∧(1:Int) < 18446744073709551616]
abbrev vaO (l:Nat) (M A:List Int):Prop:=l=A.length∧l<=M.length∧M.take l=A
abbrev vaZ (P Q:Prop) (e E:Int):List Prop:=[zO9 false=zO9 false,P,Q,zO2 .i64 e=zO2 .i64 E,zO9 false=zO9 false,zO9 true=zO9 true]
abbrev i2f (N:List Int) (nn:Nat) (x:Int):Int:=iI.wrap ((iI.wrap (lnX (N.take nn)+x)).tdiv 4)
abbrev z1c (c:List UInt8) (x:Int):Int:=iI.wrap ((c.length:Int)+x)
theorem v2n:B2 XRx [H7 (.exit 0) (fun _=>tVa c b x)] 200 96 (a1f d b x) (e1y [] [] 0 false) [true] =some [(c==([] :List UInt8))=true,b9 XRx cVa (m8 XRx 200 96 (a1f d b x) [true]) (.exit 0) (tVa c b x),zO9 false=zO9 false,([] :List Int)=[],([] :List Int)=[],zO2 .i64 0=zO2 .i64 0,zO9 false=zO9 false,zO9 false=zO9 false] :=by kernel_rfl
theorem a3x:B2 XRx (vaH c b x i N nn) 200 96 (a1f d b x) (e1y A B E true) [false,true,true] =some (j2n++[decide (400 < i2f N nn x)=true,nn<=N.length,CnN (N.take nn),(b==16)=true] ++vaL d c b x i N nn [false,true,true] ++vaZ (vaO 1 [1] A) (vaO 1 [1] B) 1700 E):=by kernel_rfl
theorem v2a:B2 XRx (vaH c b x i N nn) 200 96 (a1f d b x) (e1y A B E true) [false,true,false,true] =some (j2n++[decide (i2f N nn x < -400)=true,decide (400 < i2f N nn x)=false,nn<=N.length,CnN (N.take nn),(b==16)=true] ++vaL d c b x i N nn [false,true,false,true] ++vaZ (vaO 1 [1] A) (vaO 1 [1] B) (-1700) E):=by kernel_rfl
theorem y2h:B2 XRx (vaH c b x i N nn) 200 96 (a1f d b x) (e1y A B E true) [false,true,false,false,true] =some ([(b==16)=true,decide (i2f N nn x < -400)=false,decide (400 < i2f N nn x)=false,nn<=N.length,CnN (N.take nn),(b==16)=true] ++vaL d c b x i N nn [false,true,false,false,true] ++vaZ (vaO nn N A) (vaO 1 [1] B) x E):=by kernel_rfl
theorem z2i:B2 XRx (vaH c b x i N nn) 200 96 (a1f d b x) (e1y A B E true) [false,false,true] =some (j2n++[decide (400 < z1c c x)=true,(b==16)=false] ++vaL d c b x i N nn [false,false,true] ++vaZ (vaO 1 [1] A) (vaO 1 [1] B) 1700 E):=by kernel_rfl
theorem w2n:B2 XRx (vaH c b x i N nn) 200 96 (a1f d b x) (e1y A B E true) [false,false,false,true] =some (j2n++[decide (z1c c x < -400)=true,decide (400 < z1c c x)=false,(b==16)=false] ++vaL d c b x i N nn [false,false,false,true] ++vaZ (vaO 1 [1] A) (vaO 1 [1] B) (-1700) E):=by kernel_rfl
abbrev a3t (N:List Int) (nn:Nat) (x:Int):List Int:=muX (N.take nn) (tkL (tnX x))
theorem v2z:B2 XRx (vaH c b x i N nn) 200 96 (a1f d b x) (e1y A B E true) [false,false,false,false,false,true] =some ([nn<=N.length,(tnX x).length<=(tnX x).length,CnN (N.take nn),CnN (tkL (tnX x)),0<=x∧x<=100000,decide (0<=x)=true,(b==16)=false,decide (z1c c x < -400)=false,decide (400 < z1c c x)=false,(b==16)=false] ++vaL d c b x i N nn [false,false,false,false,false,true] ++vaZ (vaO (a3t N nn x).length (a3t N nn x) A) (vaO 1 [1] B) 0 E):=by kernel_rfl
abbrev ngX (x:Int):Int:=iI.wrap (0-x)
theorem x2m:B2 XRx (vaH c b x i N nn) 200 96 (a1f d b x) (e1y A B E true) [false,false,false,false,false,false] =some ([0<=ngX x∧ngX x<=100000,decide (0<=x)=false,(b==16)=false,decide (z1c c x < -400)=false,decide (400 < z1c c x)=false,(b==16)=false] ++vaL d c b x i N nn [false,false,false,false,false,false] ++vaZ (vaO nn N A) (vaO (tnX (ngX x)).length (tnX (ngX x)) B) 0 E):=by kernel_rfl
end
def bsN (b:Nat) (l:List UInt8):Nat:=l.foldl (fun m c=>m*b+hxd c) 0
theorem t1l (b:Nat) (l:List UInt8) (c:UInt8):bsN b (l++[c])=bsN b l*b+hxd c:=by
 unfold bsN
 rw [List.foldl_append]
 rfl
def r1g (b:Nat) (l:List UInt8):Prop:=∀ c∈l,u7 (c.toNat:Int) < (b:Int)
theorem s0w {b:Nat} {l:List UInt8} {i:Nat} (hi:i < l.length):bsN b (l.take (i+1))=bsN b (l.take i)*b+hxd l[i] :=by
 rw [u0o hi,t1l]
theorem w1n {b:Nat} {l:List UInt8} (h:r1g b l):∀ i,i<=l.length->bsN b (l.take i) < b ^i:=by
 intro i
 induction i with
 | zero=>intro _; rw [k0i]; exact Nat.one_pos
 | succ i ih=>
  intro hi
  have h1:=ih (by omega)
  have h2:=h _ (h0t (show i < l.length by omega))
  have h3:=uL (c:=l[i])
  rw [s0w (by omega),y8]
  have h4:(bsN b (l.take i)+1)*b<=b ^i*b:=w9 _ h1
  rw [A7,P7] at h4
  omega
theorem m2y {c:UInt8} (h:u7 (c.toNat:Int) < 16):w2V (c.toNat:Int)=(hxd c:Int):=by
 rw [uL]
 revert h
 unfold w2V u7
 split
 ·intro _; rfl
 split
 ·intro _; rfl
 split
 ·intro _; rfl
 ·intro h; omega
theorem c1b (d:List UInt8) (b x:Int):b9 XRx cVa (tVa d b x) (.exit 0) (tVa (b8 d) b x):=by
 obtain⟨r,hr⟩:∃ r,b8 d=r:=⟨_,rfl⟩
 rw [hr]
 refine C0 (ι:=List UInt8) (fun d=>tVa d b x) List.length (fun s=>b8 s=r) (by intro e; cases e) (fun s hs=> ?_) d hr
 cases s with
 | nil=>
  refine .inr ?_
  have:r=[] :=hs.symm
  rw [this]
  exact x1c [] b x ⟨rfl,fun hc=>by simp [C9,kvP,neB] at hc,a6⟩
 | cons c q=>
  have hq:tzQ (c ::q):=fun _=>⟨by decide,by show 0 < (c ::q).length; simp⟩
  have hb:tzB (c ::q)=decide (c=48):=c0j c q
  unfold b8 at hs
  by_cases h:c=48
  ·rw [f9 h] at hs
   exact .inl ⟨q,hs,by simp,a3r (c ::q) b x ⟨⟨by decide,zzA207.2 (by simp)⟩,by rw [hb]; exact i6 h,hq,a6⟩⟩
  ·rw [a7 h] at hs
   refine .inr ?_
   rw [<- hs]
   exact x1c (c ::q) b x ⟨by rw [hb]; exact d8 h,hq,a6⟩
theorem q2l (a k c:Nat):tmX (ws W32 a) (k:Int) (c:Int)=ws W32 (a*k+c):=by
 unfold tmX
 rw [x6 n4,g9,g9]
section
variable {c:List UInt8} {b:Nat} (hb:b=10∨b=16) (hd:r1g b c) (hl:c.length<=8192)
include hb hd hl
theorem n2p {i:Nat} (hi:i<=c.length):(ws W32 (bsN b (c.take i))).length<=i:=by
 have _:=hl
 refine (F1 n4 _ _).2 (C8 (w1n hd i hi) (xF ?_ i))
 rcases hb with h | h <;> rw [h] <;> decide
theorem s2d {i:Nat} (hi:i < c.length):uJ.wrap (b:Int)=(b:Int)∧vaW c (i:Int)=((hxd c[i] :Nat):Int)∧hxd c[i] < 16:=by
 have _:=hl
 have h2:=hd _ (h0t hi)
 have h3:=uL (c:=c[i])
 have hb16:b<=16:=by rcases hb with h | h <;> rw [h] <;> decide
 refine⟨y0p (by show b < 4294967296; omega),?_,by omega⟩
 show uJ.wrap (w2V (chI c (i:Int)))=_
 rw [f0g hi,m2y (by omega)]
 exact y0p (by show _ < 4294967296; omega)
theorem b3s {i:Nat} (hi:i < c.length):vaT (ws W32 (bsN b (c.take i))) c (b:Int) (i:Int)=ws W32 (bsN b (c.take (i+1))):=by
 obtain⟨h1,h2,_⟩:=s2d hb hd hl hi
 show tmX _ (uJ.wrap (b:Int)) (vaW c (i:Int))=_
 rw [h1,h2,q2l,s0w hi]
theorem b3w {i:Nat} (hi:i < c.length):tmP (ws W32 (bsN b (c.take i))) (uJ.wrap (b:Int)) (vaW c (i:Int)):=by
 obtain⟨h1,h2,h3⟩:=s2d hb hd hl hi
 have h4:=n2p hb hd hl (K1 hi)
 have hb16:b<=16:=by rcases hb with h | h <;> rw [h] <;> decide
 rw [h1,h2]
 exact⟨j0a n4 _,by omega,⟨by omega,by omega⟩,by omega,by omega⟩
theorem d3f {i:Nat} (hi:i < c.length):chP c (i:Int)∧inP c (i:Int)∧ltE c (i:Int)=true:=by
 have _:=hb
 have _:=hd
 have _:=hl
 refine⟨?_,c0w hi,y0t hi⟩
 unfold chP
 rw [f0g hi]
 have:=UInt8.toNat_lt c[i]
 exact⟨zzA207.2 (s6 _),by show ((c[i].toNat:Nat):Int) < 256; omega⟩
def vbS (c:List UInt8) (b:Nat) (x:Int):Nat->St
 | 0=>u2w c (b:Int) x 0
 | i+1=>tVb c (b:Int) x ((i+1:Nat):Int) (ws W32 (bsN b (c.take (i+1)))) (ws W32 (bsN b (c.take (i+1)))).length
theorem g2n (x:Int) (h0:0 < c.length):b9 XRx cVb (tVs c (b:Int) x) (.exit 2) (tVb c (b:Int) x (c.length:Int) (ws W32 (bsN b c)) (ws W32 (bsN b c)).length):=by
 apply b2e
 obtain⟨m,hm⟩:∃ m,c.length=m+1:=⟨c.length-1,by omega⟩
 have hfin:tVb c (b:Int) x (c.length:Int) (ws W32 (bsN b c)) (ws W32 (bsN b c)).length=vbS c b x c.length:=by
  rw [hm]
  show _=tVb c (b:Int) x ((m+1:Nat):Int) (ws W32 (bsN b (c.take (m+1)))) (ws W32 (bsN b (c.take (m+1)))).length
  rw [<- hm,r8]
 rw [hfin]
 refine x5 (X:=XRx) (c:=cVb) (vbS c b x) c.length (by intro e; cases e) (fun i hi=> ?_) ?_
 ·obtain⟨q1,q2,q3⟩:=d3f hb hd hl hi
  cases i with
  | zero=>
   have h:=m2n c (b:Int) x ((0:Nat):Int) ⟨d9 _,b3w hb hd hl hi,q1,q2,q3,a6⟩
   have hT:=b3s hb hd hl hi
   rw [show ws W32 (bsN b (c.take 0))=[] from rfl] at hT
   rw [hT,a1n (by decide)] at h
   exact h
  | succ i=>
   have h:=a3y c (b:Int) x ((i+1:Nat):Int) (ws W32 (bsN b (c.take (i+1)))) (ws W32 (bsN b (c.take (i+1)))).length ⟨d9 _,by rw [r8]; exact b3w hb hd hl hi,q1,q2,q3,a6⟩
   rw [r8,b3s hb hd hl hi,a1n (by omega)] at h
   exact h
 ·rw [hm]
  exact k2r _ _ _ _ _ _ ⟨o1c (by omega),a6⟩
end
def kD (b n l:Nat) (x:Int):Int:=if b=16 then ((bl n:Int)+x).tdiv 4 else (l:Int)+x
def vNu (b n l:Nat) (x:Int):Nat:=if 400 < kD b n l x then 1 else if kD b n l x < -400 then 1 else if b=16 then n else if 0<=x then n*10 ^x.toNat else n
def vDe (b n l:Nat) (x:Int):Nat:=if 400 < kD b n l x then 1 else if kD b n l x < -400 then 1 else if b=16 then 1 else if 0<=x then 1 else 10 ^(-x).toNat
def vEx (b n l:Nat) (x:Int):Int:=if 400 < kD b n l x then 1700 else if kD b n l x < -400 then -1700 else if b=16 then x else 0
theorem d2f (y:Int):(0<=y->y.tdiv 4=y/4)∧(y < 0->y.tdiv 4= -((-y)/4)):=by
 refine⟨fun h=>Int.tdiv_eq_ediv_of_nonneg h,fun h=> ?_⟩
 have:=Int.neg_tdiv (-y) 4
 rw [Int.neg_neg] at this
 rw [this,Int.tdiv_eq_ediv_of_nonneg (by omega)]
theorem t0e (k:Nat):bl (10 ^k)<=4*k+1:=by
 refine bl_le.2 ?_
 have h:(10:Nat) ^k<=16 ^k:=xF (by decide) k
 have e:(16:Nat) ^k=2 ^(4*k):=by rw [dB]
 have h2:(2:Nat) ^(4*k) < 2 ^(4*k+1):=c0b (by decide) (Q7 _)
 omega
theorem V7 (k:Nat):vaO (ws W32 k).length (ws W32 k) (ws W32 k):=⟨rfl,d9 _,r8⟩
section
variable {d:List UInt8} {b:Nat} {x:Int} (hb:b=10∨b=16) (hd:r1g b (b8 d)) (hl:(b8 d).length<=8192) (hx: -8796093022208<=x∧x<=8796093022208)
include hb hd hl hx
theorem f1n (h:b8 d≠[]):Ev.Sem zO8 J0 96 (a1f d (b:Int) x) (e1y (ws W32 (vNu b (bsN b (b8 d)) (b8 d).length x)) (ws W32 (vDe b (bsN b (b8 d)) (b8 d).length x)) (vEx b (bsN b (b8 d)) (b8 d).length x) true):=by
 have h0:0 < (b8 d).length:=zzA222.2 h
 have hlt:=w1n hd (b8 d).length (d9 _)
 rw [r8] at hlt
 have hb16:b<=16:=by rcases hb with h | h <;> rw [h] <;> decide
 have hbl0:bl (bsN b (b8 d))<=4*(b8 d).length:=by
  refine bl_le.2 (C8 hlt (x7 (xF hb16 _) ?_))
  rw [dB]
  exact d9 _
 have hbl:bl (bsN b (b8 d))<=32768:=by omega
 have hL:=fun ds=>(show l5 (vaL d (b8 d) (b:Int) x ((b8 d).length:Int) (ws W32 (bsN b (b8 d))) (ws W32 (bsN b (b8 d))).length ds) from⟨g2n hb hd hl x h0,⟨by decide,by decide⟩,y9 h,h1p d (b:Int) x ds (c1b d _ _),a6⟩)
 generalize b8 d=c at*
 generalize bsN b c=n at*
 have hcn:=E9 (k:=n) (by omega)
 have hln:lnX ((ws W32 n).take (ws W32 n).length)=(bl n:Int):=by unfold lnX; rw [r8,x6 n4]
 have o1:l5 j2n:=⟨⟨by decide,by decide⟩,⟨by decide,by decide⟩,a6⟩
 have hcn':CnN ((ws W32 n).take (ws W32 n).length):=by rw [r8]; exact hcn
 rcases hb with h10 | h16
 ·subst h10
  have hb:(((10:Nat):Int)==16)=false:=rfl
  have hp:z1c c x=kD 10 n c.length x:=by
   show iI.wrap ((c.length:Int)+x)=_
   unfold kD
   rw [a7 (by decide)]
   have:=y3 ((c.length:Int)+x)
   omega
  have hf:kD 10 n c.length x=(c.length:Int)+x:=by unfold kD; rw [a7 (by decide)]
  unfold vNu vDe vEx
  by_cases h1:400 < kD 10 n c.length x
  ·rw [f9 h1,f9 h1,f9 h1]
   exact l7 C1 10 _ _ (z2i d c _ x _ 1700 _ _ _ _) ((a8 _ _).2 ⟨(a8 _ _).2 ⟨(a8 _ _).2 ⟨o1,by rw [hp]; exact i6 h1,hb,a6⟩,hL _⟩,rfl,V7 1,V7 1,rfl,rfl,rfl,a6⟩)
  ·rw [a7 h1,a7 h1,a7 h1]
   by_cases h2:kD 10 n c.length x < -400
   ·rw [f9 h2,f9 h2,f9 h2]
    exact l7 C1 10 _ _ (w2n d c _ x _ (-1700) _ _ _ _) ((a8 _ _).2 ⟨(a8 _ _).2 ⟨(a8 _ _).2 ⟨o1,by rw [hp]; exact i6 h2,by rw [hp]; exact d8 h1,hb,a6⟩,hL _⟩,rfl,V7 1,V7 1,rfl,rfl,rfl,a6⟩)
   ·have h10:¬(10:Nat)=16:=by decide
    rw [a7 h2,a7 h2,a7 h2,a7 h10,a7 h10,a7 h10]
    by_cases h3:0<=x
    ·rw [f9 h3,f9 h3]
     obtain⟨k,rfl⟩:∃ k:Nat,x=(k:Int):=⟨x.toNat,by omega⟩
     have ht:tnX (k:Int)=ws W32 (10 ^k):=by unfold tnX; rw [g9]
     have hct:CnN (tkL (tnX (k:Int))):=by
      show CnN (zO10 _ _)
      rw [r8,ht]
      exact E9 (x7 (t0e k) (by omega))
     have hm:a3t (ws W32 n) (ws W32 n).length (k:Int)=ws W32 (n*10 ^((k:Int)).toNat):=by
      show muX (zO10 _ _) (zO10 _ _)=_
      rw [r8,r8,ht]
      unfold muX
      rw [x6 n4,x6 n4,g9]
     refine l7 C1 10 _ _ (v2z d c _ (k:Int) _ 0 _ _ _ _) ((a8 _ _).2 ⟨(a8 _ _).2 ⟨⟨d9 _,d9 _,hcn',hct,⟨h3,by omega⟩,i6 h3,hb,by rw [hp]; exact d8 h2,by rw [hp]; exact d8 h1,hb,a6⟩,hL _⟩,rfl,?_,V7 1,rfl,rfl,rfl,a6⟩)
     rw [hm]
     exact V7 _
    ·rw [a7 h3,a7 h3]
     obtain⟨k,hk⟩:∃ k:Nat,-x=(k:Int):=⟨(-x).toNat,by omega⟩
     have hng:ngX x=(k:Int):=by
      show iI.wrap (0-x)=_
      have:=y3 (0-x)
      omega
     have ht:tnX (ngX x)=ws W32 (10 ^(-x).toNat):=by unfold tnX; rw [hng,hk]
     refine l7 C1 10 _ _ (x2m d c _ x _ 0 _ _ _ _) ((a8 _ _).2 ⟨(a8 _ _).2 ⟨⟨by rw [hng]; omega,d8 h3,hb,by rw [hp]; exact d8 h2,by rw [hp]; exact d8 h1,hb,a6⟩,hL _⟩,rfl,V7 n,?_,rfl,rfl,rfl,a6⟩)
     rw [ht]
     exact V7 _
 ·subst h16
  have hb:(((16:Nat):Int)==16)=true:=rfl
  have hf:kD 16 n c.length x=((bl n:Int)+x).tdiv 4:=by unfold kD; rw [f9 rfl]
  have hp:i2f (ws W32 n) (ws W32 n).length x=kD 16 n c.length x:=by
   show iI.wrap ((iI.wrap (lnX ((ws W32 n).take (ws W32 n).length)+x)).tdiv 4)=_
   rw [hln,hf]
   have h1:=y3 ((bl n:Int)+x)
   have h2:iI.wrap ((bl n:Int)+x)=(bl n:Int)+x:=by omega
   rw [h2]
   have ht4:=d2f ((bl n:Int)+x)
   have h3: -9000000000000<=((bl n:Int)+x).tdiv 4∧((bl n:Int)+x).tdiv 4<=9000000000000:=by omega
   have h4:=y3 (((bl n:Int)+x).tdiv 4)
   omega
  unfold vNu vDe vEx
  by_cases h1:400 < kD 16 n c.length x
  ·rw [f9 h1,f9 h1,f9 h1]
   exact l7 C1 10 _ _ (a3x d c _ x _ 1700 _ _ _ _) ((a8 _ _).2 ⟨(a8 _ _).2 ⟨(a8 _ _).2 ⟨o1,by rw [hp]; exact i6 h1,d9 _,hcn',hb,a6⟩,hL _⟩,rfl,V7 1,V7 1,rfl,rfl,rfl,a6⟩)
  ·rw [a7 h1,a7 h1,a7 h1]
   by_cases h2:kD 16 n c.length x < -400
   ·rw [f9 h2,f9 h2,f9 h2]
    exact l7 C1 10 _ _ (v2a d c _ x _ (-1700) _ _ _ _) ((a8 _ _).2 ⟨(a8 _ _).2 ⟨(a8 _ _).2 ⟨o1,by rw [hp]; exact i6 h2,by rw [hp]; exact d8 h1,d9 _,hcn',hb,a6⟩,hL _⟩,rfl,V7 1,V7 1,rfl,rfl,rfl,a6⟩)
   ·rw [a7 h2,a7 h2,a7 h2,f9 rfl,f9 rfl,f9 rfl]
    exact l7 C1 10 _ _ (y2h d c _ x _ x _ _ _ _) ((a8 _ _).2 ⟨(a8 _ _).2 ⟨⟨hb,by rw [hp]; exact d8 h2,by rw [hp]; exact d8 h1,d9 _,hcn',hb,a6⟩,hL _⟩,rfl,V7 n,V7 1,rfl,rfl,rfl,a6⟩)
end
def dnB (t:List UInt8):Bool:=match neB t with | true=>chI t 0==45 | false=>false
def dsB (t:List UInt8):Bool:=match dnB t with | true=>true | false=>(match neB t with | true=>chI t 0==43 | false=>false)
def dsP (t:List UInt8):Prop:=C9 [(4,neB t),(1,dnB t)] [(4,true),(1,false)] ->(0:Int)<=0∧(0:Int).toNat < t.length
theorem o2z (t:List UInt8):dnB t=Q9 t:=by
 unfold dnB Q9 spB
 cases neB t with
 | false=>rfl
 | true=>cases chI t 0==45 <;> simp
theorem c1h (t:List UInt8):dsB t=spB t:=by
 unfold dsB dnB spB
 cases neB t with
 | false=>rfl
 | true=>cases chI t 0==45 <;> rfl
abbrev rkV (k:Int) (g:Bool) (r:List UInt8):Value:= .tuple ⟨[.int .i64 k, .bool g, .string ⟨⟨r⟩⟩]⟩
abbrev drI (t:List UInt8):Bool:=t==([73,110,102] :List UInt8)
abbrev rkC (t:List UInt8) (b:Bool):List Prop:=[dsB t=b,dsP t,k2a t,rdF t=false]
abbrev rkL (t:List UInt8):Prop:=zO6 0<=zO6 1∧zO6 1<=zO6 t.length
section
variable (t:List UInt8)
theorem o2g:b7 XRx [] 200 94 [.string ⟨⟨t⟩⟩] [true] =some (rkV 1 false [],[rdF t=true]):=by kernel_rfl
theorem w2b:b7 XRx [] 200 94 [.string ⟨⟨t⟩⟩] [false,true,true] =some (rkV 2 (dnB t) [],[drI (t.drop 1)=true,rkL t] ++rkC t true):=by kernel_rfl
theorem y2r:b7 XRx [] 200 94 [.string ⟨⟨t⟩⟩] [false,false,true] =some (rkV 2 (dnB t) [],[drI t=true] ++rkC t false):=by kernel_rfl
theorem x2x:b7 XRx [] 200 94 [.string ⟨⟨t⟩⟩] [false,true,false,true] =some (rkV 0 false [],[(!(rbV (t.drop 1)).2.2.2)=true,(t.drop 1).length < 140737488355328,drI (t.drop 1)=false,rkL t] ++rkC t true):=by kernel_rfl
theorem b3e:b7 XRx [] 200 94 [.string ⟨⟨t⟩⟩] [false,false,false,true] =some (rkV 0 false [],[(!(rbV t).2.2.2)=true,t.length < 140737488355328,drI t=false] ++rkC t false):=by kernel_rfl
theorem y2i:b7 XRx [] 200 94 [.string ⟨⟨t⟩⟩] [false,true,false,false] =some (rkV 3 (dnB t) (t.drop 1),[(!(rbV (t.drop 1)).2.2.2)=false,(t.drop 1).length < 140737488355328,drI (t.drop 1)=false,rkL t] ++rkC t true):=by kernel_rfl
theorem w2p:b7 XRx [] 200 94 [.string ⟨⟨t⟩⟩] [false,false,false,false] =some (rkV 3 (dnB t) t,[(!(rbV t).2.2.2)=false,t.length < 140737488355328,drI t=false] ++rkC t false):=by kernel_rfl
end
def rkB (t:List UInt8):Bool:=(rbV (o7 t)).2.2.2
def rkK (t:List UInt8):Int:=if rdF t=true then 1 else if rdG t=true then 2 else if rkB t=true then 3 else 0
def rkN (t:List UInt8):Bool:=if rdF t=true then false else if rdG t=true then Q9 t else if rkB t=true then Q9 t else false
def rkT (t:List UInt8):List UInt8:=if rdF t=true then [] else if rdG t=true then [] else if rkB t=true then o7 t else []
theorem a2u {t:List UInt8} (hl:t.length<=8192):Ev.Pure zO8 J0 94 [.string ⟨⟨t⟩⟩] (rkV (rkK t) (rkN t) (rkT t)):=by
 have p1:dsP t:=fun hc=>⟨by decide,jZ (by simpa [C9,kvP] using hc.1)⟩
 have p2:k2a t:=fun hc=>⟨by decide,jZ (by simpa [C9,kvP] using hc)⟩
 have hd:(t.drop 1).length < 140737488355328:=by rw [C2]; omega
 unfold rkK rkN rkT
 cases hF:rdF t with
 | true=>exact i7 C1 10 [] [true] (o2g t) ⟨hF,a6⟩
 | false=>
  rw [<- o2z]
  cases hs:dsB t with
  | true=>
   have h0:0 < t.length:=by
    rw [c1h] at hs
    unfold spB at hs
    cases hn:neB t with
    | true=>exact jZ hn
    | false=>rw [hn] at hs; cases hs
   have hr:o7 t=t.drop 1:=by unfold o7; rw [<- c1h,hs,f9 rfl]
   have hL:rkL t:=⟨by decide,zzA207.2 h0⟩
   have hc:l5 (rkC t true):=⟨hs,p1,p2,hF,a6⟩
   have hG:rdG t=drI (t.drop 1):=by unfold rdG; rw [hr]
   have hB:rkB t=(rbV (t.drop 1)).2.2.2:=by unfold rkB; rw [hr]
   rw [hG,hB,hr]
   cases hI:drI (t.drop 1) with
   | true=>exact i7 C1 10 [] [false,true,true] (w2b t) ⟨hI,hL,hc⟩
   | false=>
    cases hb:(rbV (t.drop 1)).2.2.2 with
    | true=>exact i7 C1 10 [] [false,true,false,false] (y2i t) ⟨by rw [hb]; rfl,hd,hI,hL,hc⟩
    | false=>exact i7 C1 10 [] [false,true,false,true] (x2x t) ⟨by rw [hb]; rfl,hd,hI,hL,hc⟩
  | false=>
   have hr:o7 t=t:=by unfold o7; rw [<- c1h,hs,a7 (by decide)]
   have hc:l5 (rkC t false):=⟨hs,p1,p2,hF,a6⟩
   have hG:rdG t=drI t:=by unfold rdG; rw [hr]
   have hB:rkB t=(rbV t).2.2.2:=by unfold rkB; rw [hr]
   rw [hG,hB,hr]
   cases hI:drI t with
   | true=>exact i7 C1 10 [] [false,false,true] (y2r t) ⟨hI,hc⟩
   | false=>
    cases hb:(rbV t).2.2.2 with
    | true=>exact i7 C1 10 [] [false,false,false,false] (w2p t) ⟨by rw [hb]; rfl,by omega,hI,hc⟩
    | false=>exact i7 C1 10 [] [false,false,false,true] (b3e t) ⟨by rw [hb]; rfl,by omega,hI,hc⟩
def b1z:List Value->Option (Value×List Prop)
 | [.string ⟨⟨t⟩⟩] =>some (rkV (rkK t) (rkN t) (rkT t),[t.length<=8192])
 | _=>none
theorem o1p (args:List Value) (v:Value) (l:List Prop) (h:b1z args=some (v,l)) (hl:l5 l):Ev.Pure zO8 J0 94 args v:=by
 unfold b1z at h
 split at h
 ·cases h
  exact a2u hl.1
 ·cases h
def a1u:List Value->Option (Value×List Prop)
 | [.agg ⟨[.bool g, .bool i, .int .u64 m, .int .i64 e]⟩] =>some (.int .u64 ((i2z g i m.toNat e:Nat):Int),[0<=m∧(i=false->joK m.toNat e)])
 | _=>none
theorem b1r (args:List Value) (v:Value) (l:List Prop) (h:a1u args=some (v,l)) (hl:l5 l):Ev.Pure zO8 J0 47 args v:=by
 unfold a1u at h
 split at h
 ·rename_i g i m e
  cases h
  obtain⟨⟨h1,h2⟩,_⟩:=hl
  have:=q0w g i h2
  rw [I8 h1] at this
  exact this
 ·cases h
def b3K (m e:Int):Prop:=m.toNat=0∨(m.toNat < 16777216∧(-149<=e∧e<=104)∧(8388608<=m.toNat∨e= -149))
def l1o:List Value->Option (Value×List Prop)
 | [.agg ⟨[.bool g, .bool i, .int .u64 m, .int .i64 e]⟩] =>some (.int .u32 ((o1r g i m.toNat e:Nat):Int),[0<=m∧(i=false->b3K m e)])
 | _=>none
theorem e1k (args:List Value) (v:Value) (l:List Prop) (h:l1o args=some (v,l)) (hl:l5 l):Ev.Pure zO8 J0 52 args v:=by
 unfold l1o at h
 split at h
 ·rename_i g i m e
  cases h
  obtain⟨⟨h1,h2⟩,_⟩:=hl
  have:=o0m g i h2
  rw [I8 h1] at this
  exact this
 ·cases h
def h1b:Tab:=r6 94 b1z (r6 47 a1u (r6 52 l1o v0y))
theorem h0o:U6 zO8 J0 h1b:=i8 o1p (i8 b1r (i8 e1k tK))
def vbN (b:Int) (d:List UInt8):Nat:=bsN b.toNat (b8 d)
def vaN (b x:Int) (d:List UInt8):List Int:=ws W32 (vNu b.toNat (vbN b d) (b8 d).length x)
def vaD (b x:Int) (d:List UInt8):List Int:=ws W32 (vDe b.toNat (vbN b d) (b8 d).length x)
def vaX (b x:Int) (d:List UInt8):Int:=vEx b.toNat (vbN b d) (b8 d).length x
def vaK (b x:Int) (d:List UInt8):Prop:=(b=10∨b=16)∧r1g b.toNat (b8 d)∧(b8 d).length<=8192∧(-8796093022208<=x∧x<=8796093022208)
def p0m:List Arg->Option (List Arg×List Prop)
 | [.c (.v (.string ⟨⟨d⟩⟩)), .c (.v (.int .i64 _)), .c (.v (.int .i64 _))] =>some (e1y [] [] 0 false,[b8 d=[]])
 | _=>none
def n0s:List Arg->Option (List Arg×List Prop)
 | [.c (.v (.string ⟨⟨d⟩⟩)), .c (.v (.int .i64 b)), .c (.v (.int .i64 x))] =>some (e1y (vaN b x d) (vaD b x d) (vaX b x d) true,[b8 d≠[],vaK b x d])
 | _=>none
theorem w0s:∀ az rs l,p0m az=some (rs,l)->l5 l->Ev.Sem zO8 J0 96 az rs:=by
 intro az rs l h hl
 unfold p0m at h
 split at h
 ·rename_i d b x
  cases h
  refine l7 C1 10 _ _ (v2n d (b8 d) b x) ⟨by rw [hl.1]; rfl,h1p d b x _ (c1b d _ _),rfl,rfl,rfl,rfl,rfl,rfl,a6⟩
 ·cases h
theorem y0m:∀ az rs l,n0s az=some (rs,l)->l5 l->Ev.Sem zO8 J0 96 az rs:=by
 intro az rs l h hl
 unfold n0s at h
 split at h
 ·rename_i d b x
  cases h
  obtain⟨h0,⟨h1,h2,h3,h4⟩,_⟩:=hl
  have hb:b.toNat=10∨b.toNat=16:=by omega
  have:=f1n hb h2 h3 h4 h0
  rw [I8 (by omega)] at this
  exact this
 ·cases h
def r0l (s:List Value->Heap->Nat->List Bool->Option CR):List Value->Heap->Nat->List Bool->Option CR:=fun a h n ds=>match n with
 | 0=>some ⟨undef,[],0,[False],[]⟩
 | n+1=>s a h (n+1) ds
theorem w0g {P:Program} {J:Inv P} {f:FuncId} {s:List Value->Heap->Nat->List Bool->Option CR} (hs:V8 P J f s):V8 P J f (r0l s):=by
 intro args H n ds r h hl
 unfold r0l at h
 split at h
 ·cases h
  exact absurd hl.1 id
 ·exact hs _ _ _ _ _ h hl
def o1j:iV:=o8 96 (r0l (oB (A3 [shV,shV,shV] p0m) (A3 [shV,shV,shV] n0s))) c0p
theorem y0x:iS zO8 J0 o1j:=j0 (w0g (eV (m9 _ w0s) (m9 _ y0m))) nR
def bRq2:Base:=⟨zO8,J0,false,h1b,o1j,200,L7⟩
theorem gT:BaseOk bRq2:=⟨progOk,h0o,y0x,r5⟩
abbrev a2h:=bRq2.cx 10
abbrev n5A (t:List UInt8) (K L T:Int):List Value:=[.string ⟨⟨t⟩⟩, .agg ⟨[.int .i64 K, .int .i64 L, .int .i64 T]⟩]
abbrev n5V (g i:Bool) (m e:Int) (n:Bool) (z:Int):Value:= .tuple ⟨[ftV g i m e, .bool n, .int .i64 z]⟩
abbrev nD (t:List UInt8):List UInt8:=(rbV (rkT t)).1
abbrev nB (t:List UInt8):Int:=(rbV (rkT t)).2.1
abbrev nX (t:List UInt8):Int:=(rbV (rkT t)).2.2.1
abbrev nN (t:List UInt8):List Int:=tkL (vaN (nB t) (nX t) (nD t))
abbrev nE (t:List UInt8):List Int:=tkL (vaD (nB t) (nX t) (nD t))
abbrev nP (t:List UInt8):Int:=vaX (nB t) (nX t) (nD t)
abbrev n5K (t:List UInt8):List Prop:=[(rkT t).length < 140737488355328,(rkK t==2)=false,(rkK t==1)=false,(rkK t==0)=false,t.length<=8192,decide ((8192:Int) < (t.length:Int))=false]
abbrev n5O (t:List UInt8) (K L T:Int) (b:Bool):List Prop:=[tvO K L T (nN t) (nE t) (nP t)=b,(vaN (nB t) (nX t) (nD t)).length<=(vaN (nB t) (nX t) (nD t)).length,(vaD (nB t) (nX t) (nD t)).length<=(vaD (nB t) (nX t) (nD t)).length,tvK K L T (nN t) (nE t) (nP t),false=false,b8 (nD t)≠[],vaK (nB t) (nX t) (nD t)]
section
variable (t:List UInt8) (K L T:Int)
theorem e3p:b7 a2h [] 200 45 (n5A t K L T) [true] =some (n5V false false 0 0 false 2,[decide ((8192:Int) < (t.length:Int))=true]):=by kernel_rfl
theorem c3j:b7 a2h [] 200 45 (n5A t K L T) [false,true] =some (n5V false false 0 0 false 3,[(rkK t==0)=true,t.length<=8192,decide ((8192:Int) < (t.length:Int))=false]):=by kernel_rfl
theorem c3o:b7 a2h [] 200 45 (n5A t K L T) [false,false,true] =some (n5V false false 0 0 true 0,[(rkK t==1)=true,(rkK t==0)=false,t.length<=8192,decide ((8192:Int) < (t.length:Int))=false]):=by kernel_rfl
theorem d3p:b7 a2h [] 200 45 (n5A t K L T) [false,false,false,true] =some (n5V (rkN t) true 0 0 false 0,[(rkK t==2)=true,(rkK t==1)=false,(rkK t==0)=false,t.length<=8192,decide ((8192:Int) < (t.length:Int))=false]):=by kernel_rfl
theorem e3u:b7 a2h [] 200 45 (n5A t K L T) [false,false,false,false,true,true] =some (n5V (rkN t) false 0 0 false 0,[true=true,b8 (nD t)=[]] ++n5K t):=by kernel_rfl
theorem d3g:b7 a2h [] 200 45 (n5A t K L T) [false,false,false,false,false,false,true] =some (n5V false false 0 0 false 15,n5O t K L T true++n5K t):=by kernel_rfl
theorem e3w:b7 a2h [] 200 45 (n5A t K L T) [false,false,false,false,false,false,false] =some (n5V (rkN t) (tvO K L T (nN t) (nE t) (nP t)) (tvM K L T (nN t) (nE t) (nP t)) (tvE K L T (nN t) (nE t) (nP t)) false 0,n5O t K L T false++n5K t):=by kernel_rfl
end
def n5F (t:List UInt8) (K L T:Int):Bool×Bool×Int×Int×Bool×Int:=
 if 8192 < t.length then (false,false,0,0,false,2) else if rkK t=0 then (false,false,0,0,false,3) else if rkK t=1 then (false,false,0,0,true,0) else if rkK t=2 then (rkN t,true,0,0,false,0) else
 if b8 (nD t)=[] then (rkN t,false,0,0,false,0) else if tvO K L T (nN t) (nE t) (nP t)=true then (false,false,0,0,false,15) else (rkN t,false,tvM K L T (nN t) (nE t) (nP t),tvE K L T (nN t) (nE t) (nP t),false,0)
abbrev n5T (x:Bool×Bool×Int×Int×Bool×Int):Value:=n5V x.1 x.2.1 x.2.2.1 x.2.2.2.1 x.2.2.2.2.1 x.2.2.2.2.2
def h1y (t:List UInt8) (K L T:Int):Prop:=t.length<=8192->rkK t=3->b8 (nD t)≠[] ->vaK (nB t) (nX t) (nD t)∧tvK K L T (nN t) (nE t) (nP t)
theorem j1t (t:List UInt8):rkK t=0∨rkK t=1∨rkK t=2∨rkK t=3:=by
 unfold rkK
 split
 ·exact .inr (.inl rfl)
 ·split
  ·exact .inr (.inr (.inl rfl))
  ·split
   ·exact .inr (.inr (.inr rfl))
   ·exact .inl rfl
theorem a2s (t:List UInt8):(rkT t).length<=t.length:=by
 unfold rkT
 split
 ·exact s6 _
 ·split
  ·exact s6 _
  ·split
   ·exact P6 t
   ·exact s6 _
theorem h2x {t:List UInt8} {K L T:Int} (hk:h1y t K L T):Ev.Pure zO8 J0 45 (n5A t K L T) (n5T (n5F t K L T)):=by
 unfold n5F
 by_cases h0:8192 < t.length
 ·rw [f9 h0]
  exact i7 gT 10 [] [true] (e3p t K L T) ⟨i6 (by omega),a6⟩
 ·rw [a7 h0]
  have hd:decide ((8192:Int) < (t.length:Int))=false:=d8 (by omega)
  have hl:t.length<=8192:=by omega
  by_cases h1:rkK t=0
  ·rw [f9 h1]
   exact i7 gT 10 [] [false,true] (c3j t K L T) ⟨by rw [h1]; rfl,hl,hd,a6⟩
  ·rw [a7 h1]
   have b1:(rkK t==0)=false:=y9 h1
   by_cases h2:rkK t=1
   ·rw [f9 h2]
    exact i7 gT 10 [] [false,false,true] (c3o t K L T) ⟨by rw [h2]; rfl,b1,hl,hd,a6⟩
   ·rw [a7 h2]
    have b2:(rkK t==1)=false:=y9 h2
    by_cases h3:rkK t=2
    ·rw [f9 h3]
     exact i7 gT 10 [] [false,false,false,true] (d3p t K L T) ⟨by rw [h3]; rfl,b2,b1,hl,hd,a6⟩
    ·rw [a7 h3]
     have b3:(rkK t==2)=false:=y9 h3
     have hK:l5 (n5K t):=⟨by have:=a2s t; omega,b3,b2,b1,hl,hd,a6⟩
     by_cases h4:b8 (nD t)=[]
     ·rw [f9 h4]
      exact i7 gT 10 [] [false,false,false,false,true,true] (e3u t K L T) ⟨rfl,h4,hK⟩
     ·rw [a7 h4]
      obtain⟨k1,k2⟩:=hk hl (by rcases j1t t with h | h | h | h <;> first | exact h | omega) h4
      cases ho:tvO K L T (nN t) (nE t) (nP t) with
      | true=>
       rw [f9 rfl]
       exact i7 gT 10 [] [false,false,false,false,false,false,true] (d3g t K L T) ((a8 _ _).2 ⟨⟨ho,d9 _,d9 _,k2,rfl,h4,k1,a6⟩,hK⟩)
      | false=>
       rw [a7 (by decide)]
       have p:=i7 gT 10 [] [false,false,false,false,false,false,false] (e3w t K L T) ((a8 _ _).2 ⟨⟨ho,d9 _,d9 _,k2,rfl,h4,k1,a6⟩,hK⟩)
       rw [ho] at p
       exact p
def n1t:List Value->Option (Value×List Prop)
 | [.string ⟨⟨t⟩⟩, .agg ⟨[.int .i64 K, .int .i64 L, .int .i64 T]⟩] =>some (n5T (n5F t K L T),[h1y t K L T])
 | _=>none
theorem k1t (args:List Value) (v:Value) (l:List Prop) (h:n1t args=some (v,l)) (hl:l5 l):Ev.Pure zO8 J0 45 args v:=by
 unfold n1t at h
 split at h
 ·cases h
  exact h2x hl.1
 ·cases h
def x1u:Tab:=r6 45 n1t h1b
theorem j1p:U6 zO8 J0 x1u:=i8 k1t h0o
def bRq3:Base:=⟨zO8,J0,false,x1u,I4,200,L7⟩
theorem M8:BaseOk bRq3:=⟨progOk,j1p,v6 _ _,r5⟩
abbrev i2c:=bRq3.cx 10
end Go.Proofs.YtkiejangmhhofaaGreatDoor
namespace Go.Proofs.YtkiejangmhhofaaGreatDoor
open Go Go.RowKit Ev
def r0x (v:Int):Int:=if v < -1073741824 then -1073741824 else if 1073741824 < v then 1073741824 else v
theorem a2y (t:List UInt8) (k:Nat):chI t (k:Int)=zO6 (t.getD k 0).toNat:=rfl
theorem r1k {n m w:Int} (h:n=r0x m) (h0:0<=m) (w0:0<=w) (w1:w<=9):nxP n w=r0x (nx2 m w):=by
 subst h
 unfold nxP nx2 r0x
 split <;> split <;> split <;> (try split) <;> (try split) <;> omega
theorem w1s (t:List UInt8):∀ (f k:Nat) (n m r:Int),k+f=t.length->n=r0x m->0<=m->whN (t.drop k) m=some r->(h0b t f k n).1=r0x r∧0<=r
 | 0,k,n,m,r,h,hn,h0,hw=>by
  rw [Y6 (by omega)] at hw
  cases hw
  exact⟨hn,h0⟩
 | f+1,k,n,m,r,h,hn,h0,hw=>by
  have hk:k < t.length:=by omega
  rw [M5 hk] at hw
  unfold whN at hw
  by_cases hd:dgB 10 (t.getD k 0)=true
  ·rw [f9 hd] at hw
   have hlt:u7 (zO6 (t.getD k 0).toNat) < 10:=G5 hd
   have hr:=worth_range (c:=zO6 (t.getD k 0).toNat)
   unfold h0b
   rw [a2y,f9 hlt]
   exact w1s t f (k+1) _ _ r (by omega) (r1k hn h0 hr.1 (by omega)) (kO h0 hr.1).1 hw
  ·rw [a7 hd] at hw
   cases hw
theorem m1l {b:Int} :∀ (r:List UInt8),(J2 b r true).length=s9 b r true
 | [] =>rfl
 | c ::r=>by
  unfold J2 s9
  by_cases h:dgB b c=true
  ·rw [f9 h,f9 h,A4,m1l r]
  ·rw [a7 h,a7 h,a7 (fun e=>by cases e.2),a7 (fun e=>by cases e.2)]
   rfl
theorem q0n {b:Int} :∀ (r:List UInt8),(J2 b r false).length+(if (eH b r).isSome=true then 1 else 0)=s9 b r false
 | [] =>rfl
 | c ::r=>by
  have ih:=q0n (b:=b) r
  unfold J2 s9 eH
  by_cases h:dgB b c=true
  ·rw [f9 h,f9 h,f9 h,A4,Option.isSome_map]
   omega
  ·rw [a7 h,a7 h,a7 h]
   by_cases h2:c=46
   ·have e:c=46∧false=false:=⟨h2,rfl⟩
    rw [f9 e,f9 e,f9 h2,m1l]
    rfl
   ·have e:¬(c=46∧false=false):=fun e=>h2 e.1
    rw [a7 e,a7 e,a7 h2]
    rfl
theorem e1d {b:Int} :∀ (r:List UInt8),eH b (r.take (s9 b r false))=eH b r
 | [] =>rfl
 | c ::r=>by
  unfold s9
  by_cases h:dgB b c=true
  ·rw [f9 h,aY]
   unfold eH
   rw [f9 h,f9 h,e1d r]
  ·rw [a7 h]
   by_cases h2:c=46
   ·rw [f9 ⟨h2,rfl⟩,aY]
    unfold eH
    rw [a7 h,a7 h,f9 h2]
   ·rw [a7 (fun e=>h2 e.1),k0i]
    unfold eH
    rw [a7 h,a7 h2]
theorem l0a {t:List UInt8} {a x y:Nat} {base yy:Int} (hx:x < 256) (hy:y < 256) (hb:base<=16) (ha:a<=t.length) (hl:t.length < 9223372036854775807) (hL:∀ c∈[zO4 x,zO4 y],dgB base c=false∧c≠46)
  (h:zD base [zO4 x,zO4 y] (t.drop a)=true):
  (bdV (x:Int) (y:Int) base yy (t.drop a)).1=maS t a base∧maS t a base≠[] ∧(bdV (x:Int) (y:Int) base yy (t.drop a)).2.1=base∧
   ∃ v:Int,(bdV (x:Int) (y:Int) base yy (t.drop a)).2.2.1=v-yy*maB t a base∧exV t [zO4 x,zO4 y] (maE t a base)=r0x v∧-1099511627776<=v∧v<=1099511627776:=by
 have hu:(t.drop a).length=t.length-a:=C2
 rw [l0k hb ha,q2v ha,s0x ha]
 have hdr:∀ k,t.drop (a+k)=(t.drop a).drop k:=fun k=>by rw [pT]
 have hgd:∀ k,t.getD (a+k) 0=(t.drop a).getD k 0:=fun k=>(i0t t a k).symm
 unfold zD at h
 have hfs:=l1w hx hy (t.drop a)
 have hcl:=n0q [zO4 x,zO4 y] (t.drop a)
 simp only [A9] at h
 obtain⟨⟨h1,h2⟩,h3⟩:=h
 have hcut:mJ [zO4 x,zO4 y] (t.drop a)=s9 base (t.drop a) false:=by
  have c1:=(t0n hb (t.drop a) false _ hcl).1 h1
  have c2:=sT hL (t.drop a) false (t.drop a).length (d9 _) (L4 _ _ _)
  rw [r8] at c2
  omega
 have hbh:bhS base ((t.drop a).take (s9 base (t.drop a) false))=j2b base (t.drop a):=by
  unfold bhS j2b
  rw [e1d,eK]
  have:=q0n (b:=base) (t.drop a)
  cases hi:eH base (t.drop a) with
  | none=>rfl
  | some j=>
   rw [hi] at this
   have:(J2 base (t.drop a) false).length+1=s9 base (t.drop a) false:=this
   show ((J2 base (t.drop a) false).length:Int)-j=(s9 base (t.drop a) false:Int)-j-1
   omega
 have hM:mnU (x:Int) (y:Int) base (t.drop a)=(J2 base (t.drop a) false,j2b base (t.drop a),decide (0 < (J2 base (t.drop a) false).length)):=by
  unfold mnU
  rw [hfs,a2t hb,f9 h1,hcut,hbh,eK]
 have hne:J2 base (t.drop a) false≠[] :=by
  rw [hcut,eK] at h2
  intro e
  rw [e] at h2
  cases h2
 have hdec:decide (0 < (J2 base (t.drop a) false).length)=true:=i6 (zzA222.2 hne)
 have h46:a+s9 base (t.drop a) false<=t.length:=by have:=L4 base (t.drop a) false; omega
 by_cases hlt:s9 base (t.drop a) false < (t.drop a).length
 ·have hB:mnB (x:Int) (y:Int) base (t.drop a)=true:=by
   unfold mnB
   rw [hM,hfs,hcut]
   show (match decide (0 < (J2 base (t.drop a) false).length) with | true=>_ | false=>false)=true
   rw [hdec]
   exact i6 (by omega)
  unfold bdV
  rw [f9 hB,hM,hfs,hcut]
  refine⟨rfl,hne,rfl,(whV ((t.drop a).drop (s9 base (t.drop a) false+1))).1,rfl,?_⟩
  generalize hm:s9 base (t.drop a) false=m at*
  rw [hcut,M5 (by omega)] at h3
  have h3:h2l ((t.drop a).drop (m+1))=true:=h3
  have hc:(t.drop a).getD m 0∈[zO4 x,zO4 y] :=by
   have:=rJ (x:Int) (y:Int) (t.drop a)
   rw [hfs,hcut] at this
   have h5:=this.2.2 hlt
   unfold fsB at h5
   rw [jM hx] at h5
   rw [zzA86,zzA130]
   cases hq:((t.drop a).getD m 0==zO4 x) with
   | true=>exact .inl (zzA225.1 hq)
   | false=>
    rw [hq,jM hy] at h5
    exact .inr (zzA225.1 h5)
  have hw:(t.drop a).drop (m+1)=t.drop (a+m+1):=by rw [pT,s1w]
  rw [hw] at h3 ⊢
  have hhd:hdB t [zO4 x,zO4 y] ((a+m:Nat):Int)=false:=by
   have hs:n2u t ((a+m:Nat):Int)=[t.getD (a+m) 0] :=by
    unfold n2u
    rw [wr (by omega) (by omega),show (((a+m:Nat):Int)+1).toNat=(a+m)+1 by omega,g9,X9,M5 (show a+m < t.length by omega)]
    rfl
   unfold hdB geB
   rw [d8 (by omega),hs,hgd,(q0o _ _ _).2 hc]
   rfl
  unfold h2l at h3
  simp only [A9] at h3
  obtain⟨h4,h5⟩:=h3
  have hK:=s0o t (a+m)
  have hdK:t.drop (exK t (a+m))=(t.drop (a+m+1)).drop (sgN (t.drop (a+m+1))):=by rw [hK,<- pT]
  have hsl:=t0h (t.drop (a+m+1))
  rw [C2] at hsl
  have hKl:exK t (a+m)<=t.length:=by rw [hK]; omega
  obtain⟨r,hr⟩:=Option.isSome_iff_exists.1 ((f0r _ 0).trans h5)
  have hgo:=w1s t (t.length-exK t (a+m)) (exK t (a+m)) 0 0 r (by omega) rfl (T8 0) (by rw [hdK]; exact hr)
  have hR2:(exR t (a+m)).2≠exK t (a+m):=by
   unfold exR
   rw [c2s t _ _ 0 (by omega),hdK]
   have:=(o0h ((t.drop (a+m+1)).drop (sgN (t.drop (a+m+1)))) _ (d9 _)).1 (by rw [r8]; exact h5)
   have hp:0 < ((t.drop (a+m+1)).drop (sgN (t.drop (a+m+1)))).length:=zzA222.2 (fun e=>by rw [e] at h4; cases h4)
   omega
  have hG:exN t (a+m)=whG (t.drop (a+m+1)):=by
   unfold exN whG
   have e1:sgB t ((a+m+1:Nat):Int)=wsB (t.drop (a+m+1)):=by
    have:=(sg_iff (t:=t) (k:=a+m+1)).trans (r0q (t.drop (a+m+1))).symm
    cases h6:sgB t ((a+m+1:Nat):Int) <;> cases h7:wsB (t.drop (a+m+1)) <;> simp_all
   have e2:chI t ((a+m+1:Nat):Int)=chI (t.drop (a+m+1)) 0:=by
    have:=i0t t (a+m+1) 0
    show zO6 (t.getD (a+m+1) 0).toNat=zO6 ((t.drop (a+m+1)).getD 0 0).toNat
    rw [this]
   rw [e1,e2]
  have hV:(whV (t.drop (a+m+1))).1=if whG (t.drop (a+m+1))=true then -r else r:=by
   unfold whV
   rw [e1z,hr]
  have hr2:r<=1099511627776:=by
   have key:∀ (l:List UInt8) (n s:Int),n<=1099511627776->whN l n=some s->s<=1099511627776:=by
    intro l
    induction l with
    | nil=>intro n s h1 h2; cases h2; exact h1
    | cons c l ih=>
     intro n s h1 h2
     unfold whN at h2
     split at h2
     ·exact ih _ s (by unfold nx2; split <;> omega) h2
     ·cases h2
   exact key _ 0 r (by decide) hr
  have hX:exV t [zO4 x,zO4 y] (a+m)=if whG (t.drop (a+m+1))=true then -r0x r else r0x r:=by
   unfold exV
   rw [hhd,a7 (by decide),a7 hR2,hG]
   have:(exR t (a+m)).1=r0x r:=hgo.1
   rw [this]
  rw [hX,hV]
  have h0:=hgo.2
  unfold r0x
  split <;> (refine⟨?_,by omega,by omega⟩) <;> split <;> (try split) <;> (try split) <;> (try split) <;> omega
 ·have hB:mnB (x:Int) (y:Int) base (t.drop a)=false:=by
   unfold mnB
   rw [hM,hfs,hcut]
   show (match decide (0 < (J2 base (t.drop a) false).length) with | true=>_ | false=>false)=false
   rw [hdec]
   exact d8 (by omega)
  unfold bdV
  rw [a7 (by rw [hB]; decide),hM]
  refine⟨rfl,hne,rfl,0,?_,?_,by decide,by decide⟩
  ·show -(yy*j2b base (t.drop a))=_
   omega
  ·unfold exV hdB geB
   have:=L4 base (t.drop a) false
   rw [i6 (show ((a+s9 base (t.drop a) false:Nat):Int)>=(t.length:Int) by omega)]
   rfl
open Go Go.RowKit Ev Wd VaS
theorem o0c:∀ (l:List UInt8) (m:Nat),l.foldl (fun m c=>16*m+hxd c) m=m*16 ^l.length+hxN l
 | [],m=>by simp [hxN]
 | c ::r,m=>by
  unfold hxN
  rw [zC,zC,o0c r,o0c r (16*0+hxd c),A4,y8,lM,I0,A7,t7 (16 ^r.length) 16,<- r7 m,t7 m 16,s1w]
theorem a0g (a b:List UInt8):hxN (a++b)=hxN a*16 ^b.length+hxN b:=by
 unfold hxN
 rw [List.foldl_append,o0c b]
 rfl
theorem s0e (c:UInt8) (r:List UInt8):hxN (c ::r)=hxd c*16 ^r.length+hxN r:=by
 have:=a0g [c] r
 rw [kK] at this
 rw [this]
 unfold hxN
 rw [zC,List.foldl_nil,lM,I0]
theorem r1h (d:List UInt8):hxN d=hxN (d.take 16)*16 ^(d.length-16)+hxN (d.drop 16):=by
 have h:=a0g (d.take 16) (d.drop 16)
 rw [k1n,C2] at h
 exact h
theorem y1s {l:List UInt8} (h:yB l):hxN l < 16 ^l.length:=by
 have:=i0g h l.length (d9 _)
 rw [r8] at this
 exact this
theorem g0a {c:UInt8} (h:u7 (c.toNat:Int) < 16):hxd c=0↔c=48:=by
 have h1:=uL (c:=c)
 constructor
 ·intro h0
  have h2:u7 (c.toNat:Int)=0:=by omega
  unfold u7 at h2
  refine zzA132.1 ?_
  show c.toNat=48
  split at h2
  ·omega
  ·split at h2
   ·omega
   ·split at h2 <;> omega
 ·intro h0
  subst h0
  decide
theorem x1k:∀ {l:List UInt8},yB l->(l.any fun c=>c !=48)=decide (0 < hxN l)
 | [],_=>rfl
 | c ::r,h=>by
  have h1:=x1k (l:=r) fun b hb=>h b (gK _ hb)
  have h2:=g0a (h c xH)
  have hp:0 < 16 ^r.length:=s7 (by decide)
  rw [List.any_cons,h1,s0e]
  by_cases hc:c=48
  ·rw [h2.2 hc,K8,I0,hc]
   rfl
  ·have h3:0 < hxd c:=cR fun e=>hc (h2.1 e)
   have h4:0 < hxd c*16 ^r.length+hxN r:=by
    have:=F0 h3 hp
    omega
   rw [i6 h4,show (c !=48)=true from zzA187.2 hc]
   rfl
def i2j (A B:Nat):Nat:=if (!decide (A%B=0) && upB (cmN (A%B*2) B) (A/B))=true then A/B+1 else A/B
theorem f2p (N D:Nat) (e:Int):flm N D e=i2j (atA N e) (atB D e):=rfl
theorem s1t {a b c d x y:Nat} (hx:0 < x) (hy:0 < y) (h1:a*x=c*y) (h2:b*x=d*y):i2j a b=i2j c d:=by
 obtain⟨g1,g2,g3⟩:=n0v hx hy h1 h2
 unfold i2j
 rw [g1,g2,zzA179.2 g3]
theorem j2q {q b h:Nat} (R:Bool) (c B G:Nat) (hB:B=2*G) (h1:c < B)
  (hc:(R=false->(c=0↔b=0)∧(G < c↔h < b)∧(c=G↔b=h))∧(R=true->0 < c∧c≠G∧(G < c↔h<=b))):
  (!decide (c=0) && upB (cmN (c*2) B) q)=(decide (h < b) || (decide (b=h) && (R || decide (q%2=1)))):=by
 unfold upB cmN
 cases R with
 | false=>
  obtain⟨a1,a2,a3⟩:=hc.1 rfl
  rcases Z8 b h with g | g | g
  ·have:¬G < c:=fun k=>by have:=a2.1 k; omega
   have:c≠G:=fun k=>by have:=a3.1 k; omega
   rw [f9 (show c*2 < B by omega),d8 (show ¬h < b by omega),d8 (show ¬b=h by omega)]
   simp
  ·have:c=G:=a3.2 g
   have h0:c≠0:=fun k=>by have:=a1.1 k; omega
   rw [a7 (show ¬c*2 < B by omega),f9 (show c*2=B by omega),d8 (show ¬h < b by omega),i6 g,d8 h0]
   simp
  ·have:G < c:=a2.2 g
   rw [a7 (show ¬c*2 < B by omega),a7 (show ¬c*2=B by omega),i6 g,d8 (show ¬c=0 by omega)]
   simp
 | true=>
  obtain⟨a1,a2,a3⟩:=hc.2 rfl
  rcases J4 b h with g | g
  ·have:¬G < c:=fun k=>by have:=a3.1 k; omega
   rw [f9 (show c*2 < B by omega),d8 (show ¬h < b by omega),d8 (show ¬b=h by omega)]
   simp
  ·have:G < c:=a3.2 g
   rw [a7 (show ¬c*2 < B by omega),a7 (show ¬c*2=B by omega),d8 (show ¬c=0 by omega)]
   rcases J4 h b with k | k
   ·rw [i6 k]
    simp
   ·rw [d8 (show ¬h < b by omega),i6 (show b=h by omega)]
    simp
theorem k2n {X o t r s:Nat} (ho:1<=o) (hs:s < 16 ^r) (hX:X%2 ^t=0) (h:s=0∨t < o):i2j (X*16 ^r+s*2 ^t) (2 ^o*16 ^r)=biQ X o (decide (0 < s))∧(X*16 ^r+s*2 ^t)/ (2 ^o*16 ^r)=X/2 ^o:=by
 have hR:0 < 16 ^r:=s7 (by decide)
 have hO:0 < 2 ^o:=s7 (by decide)
 have hT:0 < 2 ^t:=s7 (by decide)
 have hhalf:2 ^o=2*2 ^(o-1):=by rw [<- Nat.pow_succ']; congr 1; omega
 have hB:2 ^o*16 ^r=2*(2 ^(o-1)*16 ^r):=by rw [hhalf,r7]
 have hXd:=bV X (2 ^o)
 have hb:X%2 ^o < 2 ^o:=F7 _ hO
 have hh:0 < 2 ^(o-1):=s7 (by decide)
 have hA:X*16 ^r+s*2 ^t=2 ^o*16 ^r*(X/2 ^o)+(X%2 ^o*16 ^r+s*2 ^t):=by
  have:X*16 ^r=2 ^o*16 ^r*(X/2 ^o)+X%2 ^o*16 ^r:=by
   rw [O8,<- A7,hXd]
  omega
 have key:X%2 ^o*16 ^r+s*2 ^t < 2 ^o*16 ^r∧((decide (0 < s)=false->(X%2 ^o*16 ^r+s*2 ^t=0↔X%2 ^o=0)∧(2 ^(o-1)*16 ^r < X%2 ^o*16 ^r+s*2 ^t↔2 ^(o-1) < X%2 ^o)∧(X%2 ^o*16 ^r+s*2 ^t=2 ^(o-1)*16 ^r↔X%2 ^o=2 ^(o-1)))∧
   (decide (0 < s)=true->0 < X%2 ^o*16 ^r+s*2 ^t∧X%2 ^o*16 ^r+s*2 ^t≠2 ^(o-1)*16 ^r∧(2 ^(o-1)*16 ^r < X%2 ^o*16 ^r+s*2 ^t↔2 ^(o-1)<=X%2 ^o))):=by
  generalize X%2 ^o=b at*
  rcases Q5 s with h0 | h0
  ·subst h0
   rw [K8,I1]
   refine⟨P4 hb hR,fun _=>⟨?_,Nat.mul_lt_mul_right hR,⟨fun e=>Nat.eq_of_mul_eq_mul_right hR e,fun e=>by rw [e]⟩⟩,fun e=>by cases e⟩
   constructor
   ·intro e
    rcases zzA100.1 e with e | e
    ·exact e
    ·omega
   ·intro e
    rw [e,K8]
  ·have hto:t < o:=by omega
   have hdv:2 ^t ∣ 2 ^(o-1):=Nat.pow_dvd_pow 2 (by omega)
   obtain⟨g,hg⟩:=hdv
   have hbm:b%2 ^t=0:=by
    have h1:(2 ^o*(X/2 ^o)+b)%2 ^t=0:=by rw [hXd]; exact hX
    generalize X/2 ^o=Q at h1
    have e:2 ^o*Q=2 ^t*(2*g*Q):=by rw [hhalf,hg,Nat.mul_left_comm 2,r7]
    rw [e,Nat.mul_add_mod_self_left] at h1
    exact h1
   obtain⟨c,hc⟩:=Nat.dvd_of_mod_eq_zero hbm
   have e1:b*16 ^r+s*2 ^t=(c*16 ^r+s)*2 ^t:=by rw [hc,A7,O8,t7 (2 ^t*16 ^r) c,t7 (2 ^t) (16 ^r),r7]
   have e2:2 ^(o-1)*16 ^r=(g*16 ^r)*2 ^t:=by rw [hg,t7 (2 ^t) g,O8]
   have e3:2 ^o*16 ^r=(2*(g*16 ^r))*2 ^t:=by rw [hB,e2,<- r7 2]
   have hcg:c < 2*g:=by
    rw [hhalf,hg,hc,Nat.mul_left_comm 2] at hb
    exact Nat.lt_of_mul_lt_mul_left hb
   have hle:∀ a b:Nat,a < b->a*16 ^r+16 ^r<=b*16 ^r:=fun a b hab=>by
    rw [<- Nat.succ_mul]
    exact w9 _ hab
   rw [e1,e2,e3]
   refine⟨P4 ?_ hT,(fun e=>by rw [i6 h0] at e; cases e),fun _=>⟨F0 (by omega) hT,fun e=> ?_,?_⟩⟩
   ·have:=hle c (2*g) hcg
    rw [r7] at this
    omega
   ·have:=Nat.eq_of_mul_eq_mul_right hT e
    rcases Z8 c g with k | k | k
    ·have:=hle c g k
     omega
    ·subst k
     omega
    ·have:=hle g c k
     omega
   ·rw [Nat.mul_lt_mul_right hT,hg,hc,Nat.mul_le_mul_left_iff hT]
    constructor
    ·intro k
     refine gD fun k2=> ?_
     have:=hle c g k2
     omega
    ·intro k
     have:=w9 (16 ^r) k
     omega
 obtain⟨k1,k2⟩:=key
 have hBp:0 < 2 ^o*16 ^r:=F0 hO hR
 have hdiv:(X*16 ^r+s*2 ^t)/ (2 ^o*16 ^r)=X/2 ^o:=by
  rw [hA,Nat.mul_add_div hBp,mK k1,I1]
 have hmod:(X*16 ^r+s*2 ^t)%(2 ^o*16 ^r)=X%2 ^o*16 ^r+s*2 ^t:=by
  rw [hA,Nat.mul_add_mod_self_left,G7 k1]
 refine⟨?_,hdiv⟩
 unfold i2j biQ upT
 rw [hdiv,hmod,j2q (decide (0 < s)) _ _ _ hB k1 k2]
section
variable {d:List UInt8} {e p l:Int}
abbrev hxM (d:List UInt8):Nat:=hxN (d.take 16)
abbrev hxE (d:List UInt8) (e:Int):Int:=e+((4*(d.length-16):Nat):Int)
abbrev hxU (d:List UInt8) (e p l:Int):Int:=biU (hxM d) (hxE d e) p l
abbrev hxO (d:List UInt8) (e p l:Int):Nat:=(biO (hxM d) (hxE d e) p l).toNat
abbrev z0x (d:List UInt8) (e p l:Int):Nat:=biQ (biX (hxM d)) (hxO d e p l) ((d.drop 16).any fun c=>c !=48)
theorem lB (hd:yB d):hxM d < 18446744073709551616:=by
 have h:=i0g hd (min 16 d.length) (Nat.min_le_right _ _)
 rw [<- b0b,r8] at h
 exact C8 h (x7 (y5 (by decide) (Nat.min_le_left _ _)) (by decide))
theorem d2v (hd:yB d) (hlen:16 < d.length) {c:UInt8} {r:List UInt8} (hc:d=c ::r) (h:c≠48):61<=bl (hxM d):=by
 refine bl_ge.2 ?_
 subst hc
 show 2 ^60<=hxN (c ::r.take 15)
 rw [s0e]
 have h1:(r.take 15).length=15:=by
  rw [E0]
  simp at hlen
  omega
 rw [h1]
 have h2:0 < hxd c:=cR fun e=>h ((g0a (hd c xH)).1 e)
 have:1*16 ^15<=hxd c*16 ^15:=w9 _ h2
 exact x7 (show 2 ^60<=1*16 ^15 by decide) (x7 this (a0n _ _))
theorem d3a (M:Nat) (E:Int) (hp:p<=53):biO M E p l=((biO M E p l).toNat:Int)∧64-p<=((biO M E p l).toNat:Int)∧1<=(biO M E p l).toNat∧(64-bl M < 11->64-bl M < (biO M E p l).toNat):=by
 unfold biO biU
 split <;> omega
theorem d3q (d:List UInt8) (e p l:Int):hxU d e p l-e+((64-bl (hxM d):Nat):Int)=biO (hxM d) (hxE d e) p l+((4*(d.length-16):Nat):Int):=by
 show biU (hxM d) (e+((4*(d.length-16):Nat):Int)) p l-e+_=biO (hxM d) (e+((4*(d.length-16):Nat):Int)) p l+_
 unfold biO biE
 omega
theorem y1b (hd:yB d) (hp:1<=p∧p<=53) {c:UInt8} {r:List UInt8} (hc:d=c ::r) (h:c≠48) (h0:0 < hxM d):
  flm (hxN d) 1 (hxU d e p l-e)=z0x d e p l∧flq (hxN d) 1 (hxU d e p l-e)=biX (hxM d)/2 ^hxO d e p l∧biO (hxM d) (hxE d e) p l=(hxO d e p l:Int)∧64-p<=(hxO d e p l:Int):=by
 have hM:=lB hd
 obtain⟨x1,x2,x3,x4⟩:=P8 h0 hM
 obtain⟨o1,o2,o3,o4⟩:=d3a (p:=p) (l:=l) (hxM d) (hxE d e) hp.2
 have hu0:=d3q d e p l
 clear x1 x2
 refine⟨?_,?_,o1,o2⟩ <;>
 ·have hs:hxN (d.drop 16) < 16 ^(d.length-16):=by
   have:=y1s (l:=d.drop 16) fun b hb=>hd b (s1n hb)
   rw [C2] at this
   exact this
  have hX:biX (hxM d)%2 ^(64-bl (hxM d))=0:=Nat.mul_mod_left _ _
  have hor:hxN (d.drop 16)=0∨64-bl (hxM d) < hxO d e p l:=by
   by_cases hl:16 < d.length
   ·have:=d2v hd hl hc h
    exact .inr (o4 (by omega))
   ·rw [show d.length-16=0 by omega] at hs
    exact .inl (Nat.lt_one_iff.1 hs)
  obtain⟨k1,k2⟩:=k2n (o:=hxO d e p l) o3 hs hX hor
  have hR:((d.drop 16).any fun c=>c !=48)=decide (0 < hxN (d.drop 16)):=x1k fun b hb=>hd b (s1n hb)
  have hN:biX (hxM d)*16 ^(d.length-16)+hxN (d.drop 16)*2 ^(64-bl (hxM d))=hxN d*2 ^(64-bl (hxM d)):=by
   rw [r1h d,A7]
   unfold biX
   rw [O8]
  have h16:2 ^hxO d e p l*16 ^(d.length-16)=2 ^(hxO d e p l+4*(d.length-16)):=by
   rw [n9,dB]
  have hu:hxU d e p l-e+((64-bl (hxM d):Nat):Int)=((hxO d e p l+4*(d.length-16):Nat):Int):=by
   rw [hu0,o1,dZ]
  have two:∀ k:Nat,0 < (2:Nat) ^k:=fun k=>s7 (by decide)
  have hcross:∃ x y:Nat,0 < x∧0 < y∧atA (hxN d) (hxU d e p l-e)*x=(hxN d*2 ^(64-bl (hxM d)))*y∧atB 1 (hxU d e p l-e)*x=2 ^(hxO d e p l+4*(d.length-16))*y:=by
   unfold atA atB
   by_cases hge:0<=hxU d e p l-e
   ·refine⟨2 ^(64-bl (hxM d)),1,two _,Nat.one_pos,?_,?_⟩
    ·rw [f9 hge,u9]
    ·rw [f9 hge,u9,P7,<- n9,show (hxU d e p l-e).toNat+(64-bl (hxM d))=hxO d e p l+4*(d.length-16) by clear hs hX k1 k2 hN h16; omega]
   ·refine⟨2 ^(hxO d e p l+4*(d.length-16)),1,two _,Nat.one_pos,?_,?_⟩
    ·rw [a7 hge,u9,r7,<- n9,show (-(hxU d e p l-e)).toNat+(hxO d e p l+4*(d.length-16))=64-bl (hxM d) by clear hs hX k1 k2 hN h16; omega]
    ·rw [a7 hge,u9,P7]
  obtain⟨x,y,hx,hy,g1,g2⟩:=hcross
  rw [h16,hN] at k1 k2
  first
  | exact ((f2p _ _ _).trans (s1t hx hy g1 g2)).trans (by rw [k1]; show biQ _ _ _=biQ _ _ _; rw [hR])
  | exact (n0v hx hy g1 g2).1.trans k2
theorem x1f (hd:yB d) {P:Nat} (hP:p=(P:Int)) (hp:1<=P∧P<=53) {c:UInt8} {r:List UInt8} (hc:d=c ::r) (h:c≠48) (h0:0 < hxM d) (hN:0 < hxN d):
  vlW P l (hxN d) 1 e=(hxU d e p l-l).toNat*2 ^(P-1)+z0x d e p l∧l<=hxU d e p l∧z0x d e p l<=2 ^P∧(hxU d e p l=l∨2 ^(P-1)<=z0x d e p l):=by
 have hM:=lB hd
 obtain⟨x1,x2,x3,x4⟩:=P8 h0 hM
 obtain⟨k1,k2,k3,k4⟩:=y1b (e:=e) (l:=l) hd (p:=p) (by omega) hc h h0
 have two:∀ k:Nat,0 < (2:Nat) ^k:=fun k=>s7 (by decide)
 have hlt:biX (hxM d)/2 ^hxO d e p l < 2 ^P:=by
  rw [D9 (two _),<- n9]
  exact C8 (show _ < 2 ^64 from x2) (y5 (by decide) (by omega))
 have hge:hxU d e p l=l∨2 ^(P-1)<=biX (hxM d)/2 ^hxO d e p l:=by
  by_cases hu:biE (hxM d) (hxE d e)+64-p < l
  ·exact .inl (by show biU _ _ _ _=l; unfold biU; rw [f9 hu])
  ·right
   have:hxO d e p l=64-P:=by
    unfold hxO biO biU
    rw [a7 hu]
    omega
   rw [this,lV (two _),<- n9,show P-1+(64-P)=63 by omega]
   exact x1
 have hle:l<=hxU d e p l:=by
  show l<=biU _ _ _ _
  unfold biU
  split <;> omega
 have hge':hxU d e p l-e=l-e∨2 ^(P-1)<=biX (hxM d)/2 ^hxO d e p l:=by
  rcases hge with g | g
  ·exact .inl (by rw [g])
  ·exact .inr g
 have hr:lS P (l-e) (hxN d) 1 (hxU d e p l-e):=⟨Int.sub_le_sub_right hle e,by rw [k2]; exact hlt,by rw [k2]; exact hge'⟩
 have hX:=t0m (by omega) (mZ (K:=P) (L:=l) (E:=e) (by omega) hN Nat.one_pos) hr
 have hX:toX P l (hxN d) 1 e=hxU d e p l:=by omega
 have hm:=I7 (hxN d) 1 (hxU d e p l-e)
 rw [k1,k2] at hm
 refine⟨?_,hle,by omega,?_⟩
 ·unfold vlW
  rw [hX,k1]
 ·rcases hge with g | g
  ·exact .inl g
  ·exact .inr (by omega)
end
theorem s2a:lK 0=0:=by decide
theorem n2e (u:Int):ldW (lK 0) u=0:=by rw [s2a]; rfl
theorem a1y {q:Nat} {u:Int} (h0:0 < q) (hq:q<=9007199254740992) (hu: -1074<=u) (hn:u= -1074∨4503599627370496<=q):Ieee.double.nearest false q u=min ((u+1074).toNat*4503599627370496+q) 9218868437227405312:=by
 by_cases h1:q=9007199254740992
 ·subst h1
  by_cases h2:u<=970
  ·rw [sK hu h2,C6 (by omega)]
   omega
  ·rw [pY (by omega),M2 (by omega)]
 ·by_cases h2:u<=971
  ·have:=sU (k:=0) h0 (by omega) hu hn.symm h2
   rw [G3,u9,show u- ((0:Nat):Int)=u by omega] at this
   rw [this,C6 (k1s (by omega) (by omega))]
  ·have h3:4503599627370496<=q:=by rcases hn with h | h <;> omega
   have:=d0x (m:=q) (t:=0) (P:=u) (by rw [G3,u9]; exact h3) (by rw [G3,u9]; omega) (by omega)
   rw [this,M2 (n0x (by omega) h3)]
section
variable {d:List UInt8} {e:Int}
theorem q2o (hd:yB d) {c:UInt8} {r:List UInt8} (hc:d=c ::r) (h:c≠48) (h0:0 < hxM d) (hN:0 < hxN d):hxW d e 53 (-1074)=min (vlW 53 (-1074) (hxN d) 1 e) 9218868437227405312:=by
 obtain⟨v1,v2,v3,v4⟩:=x1f (e:=e) (l:= -1074) (p:=53) (P:=53) hd rfl ⟨by decide,by decide⟩ hc h h0 hN
 have hM:=lB hd
 obtain⟨x1,x2,x3,x4⟩:=P8 h0 hM
 obtain⟨_,k2,k3,_⟩:=y1b (e:=e) (l:= -1074) hd (p:=53) ⟨by decide,by decide⟩ hc h h0
 rw [v1]
 rw [show (2:Nat) ^(53-1)=4503599627370496 by decide] at*
 rw [show (2:Nat) ^53=9007199254740992 by decide] at*
 have e1:(hxU d e 53 (-1074)- -1074).toNat=(hxU d e 53 (-1074)+1074).toNat:=by omega
 rw [e1]
 show biW (hxM d) _ (hxE d e) 53 (-1074)=_
 unfold biW
 by_cases hbig:64 < biO (hxM d) (hxE d e) 53 (-1074)
 ·rw [f9 hbig]
  have hQ:z0x d e 53 (-1074)=0:=by
   have h65:65<=hxO d e 53 (-1074):=by omega
   have hp1:(2:Nat) ^64<=2 ^(hxO d e 53 (-1074)-1):=y5 (by decide) (by omega)
   have hp2:(2:Nat) ^(hxO d e 53 (-1074)-1)<=2 ^hxO d e 53 (-1074):=y5 (by decide) (by omega)
   have h64:biX (hxM d) < 2 ^64:=x2
   show biQ _ _ _=0
   unfold biQ upT
   rw [G7 (by omega),mK (by omega),d8 (by omega),d8 (by omega)]
   rfl
  have hU:hxU d e 53 (-1074)= -1074:=by
   rcases v4 with g | g
   ·exact g
   ·rw [hQ] at g
    omega
  rw [hQ,hU]
  rfl
 ·rw [a7 hbig]
  show ldW (lK (z0x d e 53 (-1074))) (hxU d e 53 (-1074))=_
  by_cases hQ:z0x d e 53 (-1074)=0
  ·have hU:hxU d e 53 (-1074)= -1074:=by
    rcases v4 with g | g
    ·exact g
    ·rw [hQ] at g
     omega
   rw [hQ,n2e,hU]
   rfl
  ·rw [g1p (cR hQ) v3,a1y (cR hQ) v3 v2 v4]
end
def j1m:iV:=o8 50 (A3 [shV,shV] h1m) nJ
theorem y0f:iS zO8 J0 j1m:=j0 (m9 _ l1e) Z0
def bSi1:Base:=⟨zO8,J0,false,v0e,j1m,200,L7⟩
theorem d0w:BaseOk bSi1:=⟨progOk,tI,y0f,r5⟩
abbrev t2i:Cx:=bSi1.cx 10
section
variable (hx:Bool) (d:List UInt8) (e n:Int) (r:Nat) (z:Int)
abbrev nsA (hx:Bool) (d:List UInt8) (e n:Int):List Arg:=t2d 49 hx d e n 24 (-149)
theorem e3f:B2 t2i [] 200 40 (nsA hx d e n) [xR r,iR z] [true] =some [(b8 d==([] :List UInt8))=true,(48:UInt8)=48,zO3 .f64 0=zO3 .f64 r,zO2 .i64 0=zO2 .i64 z] :=by kernel_rfl
theorem c3s:B2 t2i [] 200 40 (nsA hx d e n) [xR r,iR z] [false,false,true] =some [decide (400 < neP d e)=true,hx=false,(b8 d==([] :List UInt8))=false,(48:UInt8)=48,zO3 .f64 9218868437227405312=zO3 .f64 r,zO2 .i64 0=zO2 .i64 z] :=by kernel_rfl
theorem c3p:B2 t2i [] 200 40 (nsA hx d e n) [xR r,iR z] [false,false,false,true] =some [decide (neP d e < Int.negSucc 399)=true,decide (400 < neP d e)=false,hx=false,(b8 d==([] :List UInt8))=false,(48:UInt8)=48,zO3 .f64 0=zO3 .f64 r,zO2 .i64 0=zO2 .i64 z] :=by kernel_rfl
def nsW (d:List UInt8) (e:Int):Nat:=t3W (mdD (b8 d) e) (mdX (b8 d) e)
end
section
variable (d:List UInt8) (e n:Int) (r:Nat) (z:Int)
theorem c3q:B2 t2i [] 200 40 (nsA false d e n) [xR r,iR z] [false,false,false,false,false] =some [(floatToFloatBits .f32 (nsW d e) .f64).isSome=true,mdN false (b8 d) e=false∧z2f (mdD (b8 d) e) (mdX (b8 d) e),(mdE (b8 d) e !=0)=false,(b8 d).length<=140737488351232,E2 (b8 d)=true,decide (neP d e < Int.negSucc 399)=false,decide (400 < neP d e)=false,false=false,(b8 d==([] :List UInt8))=false,(48:UInt8)=48,zO3 .f64 (dbl (nsW d e))=zO3 .f64 r,zO2 .i64 0=zO2 .i64 z] :=by kernel_rfl
end
theorem n1v:floatToFloatBits .f32 2139095040 .f64=some 9218868437227405312:=by decide+kernel
theorem u0c:dbl 2139095040=9218868437227405312:=by unfold dbl; rw [n1v]; rfl
theorem m2i {W:Nat} (h:W<=2139095040):(floatToFloatBits .f32 W .f64).isSome=true:=by
 rcases J4 W 2139095040 with h1 | h1
 ·rw [t1j h1]; rfl
 ·obtain rfl:W=2139095040:=by omega
  rw [n1v]; rfl
theorem x2w (W:Nat):min W 2139095040<=2139095040:=Nat.min_le_right _ _
theorem e1i {n:Nat} {k:Nat} {e:Int} (h:10 ^k<=n) (hk:400<=(k:Int)+e):2139095040<=dcW 24 (-149) n e:=i0w (lN (by decide) _) (g1e (x7 (by decide+kernel) n0f) h hk)
theorem x0i {d:List UInt8} {e n:Int} (hd:E2 d=true) (hl:d.length<=8192) (he: -1000000000000000000<=e∧e<=1000000000000000000):Ev.Sem zO8 J0 40 (nsA false d e n) [xR (dbl (min (dcW 24 (-149) (dcN d) e) 2139095040)),iR 0] :=by
 have hle:=I9 d
 have hP:neP d e=neQ d e:=by
  unfold neP neQ
  exact wr (by show -9223372036854775808<=((b8 d).length:Int)+e; omega) (by show ((b8 d).length:Int)+e<=9223372036854775807; omega)
 have hT:E2 (b8 d)=true:=allDB_mem.2 fun b hb=>allDB_mem.1 hd b (G6 hb)
 by_cases h0:b8 d=[]
 ·have e1:dbl (min (dcW 24 (-149) (dcN d) e) 2139095040)=0:=by
   rw [<- G4,h0,show dcN [] =0 from rfl,rU,xM,o0e]
  rw [e1]
  refine l7 d0w 10 _ _ (e3f false d e n _ _) ?_
  rw [h0]
  exact⟨rfl,rfl,rfl,rfl,a6⟩
 have k0:(b8 d==([] :List UInt8))=false:=y9 h0
 obtain⟨c,r,hcr⟩:∃ c r,b8 d=c ::r:=by
  cases h:b8 d with
  | nil=>exact absurd h h0
  | cons c r=>exact⟨c,r,rfl⟩
 have hlen:(b8 d).length=r.length+1:=by rw [hcr]; rfl
 have hge:=c1r hd hcr
 have hlt:=s0d hT
 rw [G4] at hlt
 by_cases h1:400 < neQ d e
 ·have h1':=h1
  unfold neQ at h1'
  rw [M2 (e1i hge (by omega)),u0c]
  refine l7 d0w 10 _ _ (c3s false d e n _ _) ?_
  rw [hP]
  exact⟨i6 h1,rfl,k0,rfl,rfl,rfl,a6⟩
 have k1:decide (400 < neP d e)=false:=by rw [hP]; exact d8 h1
 by_cases h2:neQ d e < -400
 ·have h2':=h2
  unfold neQ at h2'
  rw [wY (by decide) ⟨by decide,by decide⟩ hlt (by omega),xM,o0e]
  refine l7 d0w 10 _ _ (c3p false d e n _ _) ?_
  exact⟨by rw [hP]; exact i6 h2,k1,rfl,k0,rfl,rfl,rfl,a6⟩
 have k2:decide (neP d e < Int.negSucc 399)=false:=by rw [hP]; exact d8 h2
 unfold neQ at h1 h2
 have hb:=vT (t:=b8 d)
 have hmE:mdE (b8 d) e=0:=by
  unfold mdE
  rw [C5,a7 h0,a7 (by omega),a7 (by omega)]
 have hI:mdI (b8 d) e=true:=by
  unfold mdI
  rw [C5,hmE,i6 h0]
  rfl
 have hD:mdD (b8 d) e=mdS (b8 d):=by unfold mdD; rw [f9 hI]
 have hX:mdX (b8 d) e=e+mdB (b8 d):=by unfold mdX; rw [f9 hI]
 have hN:mdN false (b8 d) e=false:=by unfold mdN; rw [f9 hI]
 have hS:dcN d=dcN (mdS (b8 d))*10 ^(mdB (b8 d)).toNat:=by
  have h3:=h0y (b8 d)
  rw [G4] at h3
  have h4:mdS (b8 d)=W6 (b8 d):=by unfold mdS; rw [C5]
  have h5:(mdB (b8 d)).toNat=(b8 d).length- (W6 (b8 d)).length:=by
   unfold mdB
   rw [C5,h4]
   omega
  rw [h4,h5]
  exact h3
 obtain⟨c2,r2,hc2,_⟩:=d0j (t:=b8 d) (by rw [C5]; exact h0)
 have hSd:E2 (mdS (b8 d))=true:=allDB_mem.2 fun b hb=>allDB_mem.1 hT b (o0j hb)
 obtain⟨_,hg⟩:=j1d hSd
 have hW:nsW d e=min (dcW 24 (-149) (dcN d) e) 2139095040:=by
  unfold nsW t3W
  rw [hD,hX,a7 (by rw [hc2]; exact List.cons_ne_nil _ _)]
  have q1:qtN (mdS (b8 d)) (e+mdB (b8 d))=dcN (mdS (b8 d))*pN 10 (e+mdB (b8 d)):=by
   unfold qtN pN
   rw [hg]
   split
   ·rfl
   ·rw [u9]
  have q2:qtD [49] (e+mdB (b8 d))=pD 10 (e+mdB (b8 d)):=by
   unfold qtD pD
   rw [l0e]
   split
   ·rfl
   ·rw [P7]
  rw [q1,q2]
  have q4:=l0d (K:=24) (L:= -149) (by decide) (dcN (mdS (b8 d))) (mdB (b8 d)).toNat e
  rw [<- hS,show e+(((mdB (b8 d)).toNat:Nat):Int)=e+mdB (b8 d) by omega] at q4
  rw [q4]
  rfl
 rw [<- hW]
 refine l7 d0w 10 _ _ (c3q d e n _ _) ?_
 exact⟨m2i (by rw [hW]; exact x2w _),⟨hN,by
  have:=k1d (g:=false) (x:=e) hT
  rw [hN] at this
  exact this,fun hne=>by
  have:=t0r (d:=d) (e:=e) (by unfold neQ; omega) (by unfold neQ; omega) hne
  rw [Int.sub_zero,qP] at this
  exact this⟩,by rw [hmE]; rfl,by omega,hT,k2,k1,rfl,k0,rfl,rfl,rfl,a6⟩
def nsX (h:Bool) (d:List UInt8) (e:Int):Nat:=if h=true then (if b8 d=[] then 0 else hxW (b8 d) e 24 (-149)) else dbl (min (dcW 24 (-149) (dcN d) e) 2139095040)
def c2p (h:Bool) (d:List UInt8) (e:Int):Prop:=d.length<=8192∧(-100000000000000000<=e∧e<=100000000000000000)∧(if h=true then yB d else E2 d=true)
theorem w0r {h:Bool} {d:List UInt8} {e n:Int} (hk:c2p h d e):Ev.Sem zO8 J0 40 (nsA h d e n) [xR (nsX h d e),iR 0] :=by
 obtain⟨h1,h2,h3⟩:=hk
 unfold nsX
 cases h with
 | true=>
  rw [f9 rfl] at h3
  rw [f9 rfl]
  exact u0b h3 (by omega) h2 ⟨by decide,by decide⟩ ⟨by decide,by decide⟩
 | false=>
  rw [a7 (by decide)] at h3
  rw [a7 (by decide)]
  exact x0i h3 h1 ⟨by omega,by omega⟩
def d1h:List Arg->Option (List Arg×List Prop)
 | [.c (.v (.agg ⟨[.bool h, .string ⟨⟨d⟩⟩, .int .i64 e, .int .i64 _]⟩)), .c (.v (.int .i64 24)), .c (.v (.int .i64 (-149))), .c (.v (.func (.func 49) ⟨[]⟩ ⟨[]⟩))] =>some ([xR (nsX h d e),iR 0],[c2p h d e])
 | _=>none
theorem f1j:∀ az rs l,d1h az=some (rs,l)->l5 l->Ev.Sem zO8 J0 40 az rs:=by
 intro az rs l h hl
 unfold d1h at h
 split at h
 ·cases h
  exact w0r hl.1
 ·cases h
def d1u:iV:=o8 40 (A3 [shV,shV,shV,shV] d1h) nJ
theorem x0c:iS zO8 J0 d1u:=j0 (m9 _ f1j) Z0
def bSi2:Base:=⟨zO8,J0,false,v0e,d1u,200,L7⟩
theorem c0n:BaseOk bSi2:=⟨progOk,tI,x0c,r5⟩
abbrev t2q:Cx:=bSi2.cx 10
def smX (t:List UInt8):Nat:=nsX (m0l t) (m0p t) (m0h t)
def smG (t:List UInt8):Bool:=gtL (smX t) 5183643170566569984
def smN (t:List UInt8):Bool:=Ieee.double.order (rdO t) (rdO t) !=some .eq
def smF (x:Nat):Nat:=(floatToFloatBits .f64 x .f32).getD 0
def smS (x:Nat):Prop:=(floatToFloatBits .f64 x .f32).isSome=true
section
variable (t:List UInt8) (r:Nat) (z:Int)
theorem c3t:B2 t2q [] 200 10 (tA t) [yR r,iR z] [true,true] =some [smN t=true,paB t=true,zO3 .f32 2143289344=zO3 .f32 r,zO2 .i64 (rdE t)=zO2 .i64 z] :=by kernel_rfl
theorem d3r:B2 t2q [] 200 10 (tA t) [yR r,iR z] [true,false] =some [smS (rdO t),smN t=false,paB t=true,zO3 .f32 (smF (rdO t))=zO3 .f32 r,zO2 .i64 (rdE t)=zO2 .i64 z] :=by kernel_rfl
theorem d3b:B2 t2q [] 200 10 (tA t) [yR r,iR z] [false,true,true] =some [true=true,smG t=true,c2p (m0l t) (m0p t) (m0h t),paB t=false,zO3 .f32 0=zO3 .f32 r,zO2 .i64 15=zO2 .i64 z] :=by kernel_rfl
theorem c3g:B2 t2q [] 200 10 (tA t) [yR r,iR z] [false,false,false] =some [smS (sgV (smX t) (rdN t)),false=false,smG t=false,c2p (m0l t) (m0p t) (m0h t),paB t=false,zO3 .f32 (smF (sgV (smX t) (rdN t)))=zO3 .f32 r,zO2 .i64 0=zO2 .i64 z] :=by kernel_rfl
end
def smW (t:List UInt8):Nat:=if paB t=true then (if smN t=true then 2143289344 else smF (rdO t)) else if smG t=true then 0 else smF (sgV (smX t) (rdN t))
def smE (t:List UInt8):Int:=if paB t=true then rdE t else if smG t=true then 15 else 0
def m2x (t:List UInt8):Prop:=paB t=false->c2p (m0l t) (m0p t) (m0h t)∧(smG t=false->smS (sgV (smX t) (rdN t)))
theorem v1j (t:List UInt8):smN t=false->smS (rdO t):=by
 unfold smN smS rdO
 intro h
 split
 ·decide+kernel
 ·split
  ·rename_i h1 h2
   rw [a7 h1,f9 h2] at h
   revert h
   decide+kernel
  ·split
   ·split <;> decide+kernel
   ·decide+kernel
theorem d0a {t:List UInt8} (h:m2x t):Ev.Sem zO8 J0 10 (tA t) [yR (smW t),iR (smE t)] :=by
 cases h1:paB t with
 | true=>
  have eE:smE t=rdE t:=by unfold smE; rw [h1]; exact f9 rfl
  cases h2:smN t with
  | true=>
   have e:smW t=2143289344:=by unfold smW; rw [h1,h2]; rfl
   rw [e,eE]
   exact l7 c0n 10 _ _ (c3t t _ _) ⟨h2,h1,rfl,rfl,a6⟩
  | false=>
   have e:smW t=smF (rdO t):=by unfold smW; rw [h1,h2]; rfl
   rw [e,eE]
   exact l7 c0n 10 _ _ (d3r t _ _) ⟨v1j t h2,h2,h1,rfl,rfl,a6⟩
 | false=>
  obtain⟨k1,k2⟩:=h h1
  cases h2:smG t with
  | true=>
   have e:smW t=0:=by unfold smW; rw [h1,h2]; rfl
   have eE:smE t=15:=by unfold smE; rw [h1,h2]; rfl
   rw [e,eE]
   exact l7 c0n 10 _ _ (d3b t _ _) ⟨rfl,h2,k1,h1,rfl,rfl,a6⟩
  | false=>
   have e:smW t=smF (sgV (smX t) (rdN t)):=by unfold smW; rw [h1,h2]; rfl
   have eE:smE t=0:=by unfold smE; rw [h1,h2]; rfl
   rw [e,eE]
   exact l7 c0n 10 _ _ (c3g t _ _) ⟨k2 h2,rfl,h2,k1,h1,rfl,rfl,a6⟩
theorem n1y:(5183643170566569984:Nat)<=9218868437227405312:=by decide
theorem n2a {W:Nat} (h:W < 2139095040):gtL (dbl W) 5183643170566569984=false:=by
 have h1:=x1g h
 rw [v0o (x7 h1 n1y) n1y]
 exact d8 (Nat.not_lt.2 h1)
theorem p2e {W:Nat} (h:W < 2139095040):dbl W < 9223372036854775808:=D7 (x1g h) (by decide)
theorem v2q {t:List UInt8} {W:Nat} (hB:paB t=false) (hk:c2p (m0l t) (m0p t) (m0h t)) (h1:W < 2139095040->smX t=dbl W) (h2:2139095040<=W->smG t=true):
  m2x t∧smE t=(if 2139095040<=W then 15 else 0)∧smW t=if 2139095040<=W then 0 else if rdN t=true then W+2147483648 else W:=by
 have nB:¬paB t=true:=by rw [hB]; decide
 by_cases hi:2139095040<=W
 ·have hg:=h2 hi
  refine⟨fun _=>⟨hk,fun k=>absurd hg (by rw [k]; decide)⟩,?_,?_⟩
  ·unfold smE
   rw [a7 nB,f9 hg,f9 hi]
  ·unfold smW
   rw [a7 nB,f9 hg,f9 hi]
 ·have hlt:W < 2139095040:=by omega
  have hx:=h1 hlt
  have hg:smG t=false:=by unfold smG; rw [hx]; exact n2a hlt
  have ng:¬smG t=true:=by rw [hg]; decide
  have hb:=q1l (rdN t) hlt
  have hs:sgV (smX t) (rdN t)=if rdN t=true then dbl W+9223372036854775808 else dbl W:=by
   unfold sgV
   rw [hx]
   split
   ·exact y1j (p2e hlt)
   ·rfl
  rw [<- hs] at hb
  refine⟨fun _=>⟨hk,fun _=>by unfold smS; rw [hb]; rfl⟩,?_,?_⟩
  ·unfold smE
   rw [a7 nB,a7 ng,a7 hi]
  ·unfold smW
   rw [a7 nB,a7 ng,a7 hi]
   unfold smF
   rw [hb]
   rfl
theorem u0s {q t t':Nat} (h1:4503599627370496<=q*2 ^t) (h2:q*2 ^t < 9007199254740992) (g1:4503599627370496<=q*2 ^t') (g2:q*2 ^t' < 9007199254740992):t=t':=by
 have key:∀ a b:Nat,4503599627370496<=q*2 ^a->q*2 ^b < 9007199254740992->¬a < b:=by
  intro a b h1 h2 hlt
  obtain⟨s,rfl⟩:∃ s,b=a+1+s:=⟨b-a-1,by omega⟩
  have:q*2 ^(a+1)<=q*2 ^(a+1+s):=N0 _ (y5 (by decide) (by omega))
  rw [y8,<- r7] at this
  omega
 have a:=key t t' h1 g2
 have b:=key t' t g1 h2
 omega
theorem m2k {a b:Nat} (h:1150<=a) (hb:4503599627370496<=b):5183643171103440896<=a*4503599627370496+b:=by omega
theorem t1q {a q:Nat} (hq:q < 16777216) (h:a=0∨8388608<=q):sgM (a*8388608+q)=q∧sgP (a*8388608+q)=(a:Int)-149:=by
 unfold sgM sgP
 constructor
 ·split <;> omega
 ·split <;> omega
theorem r2s (a:Nat):sgM (a*8388608+16777216)=8388608∧sgP (a*8388608+16777216)=(a:Int)-148:=by
 unfold sgM sgP
 rw [a7 (by omega),a7 (by omega)]
 omega
theorem x1a {t:Nat} (h1:4503599627370496<=16777216*2 ^t) (h2:16777216*2 ^t < 9007199254740992):t=28:=u0s h1 h2 (Nat.le_of_eq (by decide)) (by decide)
theorem d3j {a t t' k:Nat} (h1:t'=29) (h2:t=28) (h:(a:Int)-148- (t':Int)+1074=(k:Int)):((a:Int)-149- (t:Int)+1074).toNat=k:=by omega
theorem d3o {a t t' k:Nat} (h1:t=t') (h:(a:Int)-149- (t':Int)+1074=(k:Int)):((a:Int)-149- (t:Int)+1074).toNat=k:=by omega
theorem c3h {a t:Nat} (h1:t<=52) (h2:28<=t) (h:a<=255): -1074<=(a:Int)-149- (t:Int)∧(a:Int)-149- (t:Int)<=971:=by omega
theorem e3o {a q:Nat} (h:a*8388608+q < 2139095040):a<=255:=by omega
theorem x1d {x y k z:Nat} (h1:x=k) (h2:y=z):x*4503599627370496+y=k*4503599627370496+z:=by rw [h1,h2]
theorem p1x {q a:Nat} (h0:0 < q) (hq:q<=16777216) (hn:a=0∨8388608<=q) (hW:a*8388608+q < 2139095040):Ieee.double.nearest false q ((a:Int)-149)=dbl (a*8388608+q):=by
 obtain⟨t,t1,t2,t3,t4,_,_⟩:=o0o h0 hq
 obtain⟨t',k,d1,d2,d3,d4,d5,d6,d7⟩:=r0z (W:=a*8388608+q) (C8 h0 (Nat.le_add_left _ _)) hW
 have hd:dbl (a*8388608+q)=k*4503599627370496+sgM (a*8388608+q)*2 ^t':=by unfold dbl; rw [d7,aF]
 obtain⟨x1,x2⟩:=c3h t2 t1 (e3o hW)
 rw [hd,cG t3 t4 x1 x2]
 by_cases hc:q=16777216
 ·rw [hc] at d5 d6 t3 t4 ⊢
  obtain⟨hM,hP⟩:=r2s a
  rw [hM] at d5 ⊢
  rw [hP] at d6
  have e1:t'=29:=d5 (d9 _)
  have e2:t=28:=x1a t3 t4
  exact x1d (d3j e1 e2 d6) (by rw [e1,e2])
 ·obtain⟨hM,hP⟩:=t1q (a:=a) (q:=q) (Nat.lt_of_le_of_ne hq hc) hn
  rw [hM] at d3 d4 ⊢
  rw [hP] at d6
  have e1:t=t':=u0s t3 t4 d3 d4
  exact x1d (d3o e1 d6) (by rw [e1])
theorem f1z {y:Nat} (h1:5183643171103440896<=y) (h2:y<=9218868437227405312):gtL y 5183643170566569984=true:=by
 rw [v0o h2 n1y]
 exact i6 (C8 (by decide) h1)
theorem r1w {q a:Nat} (h0:0 < q) (hq:q<=16777216) (hn:a=0∨8388608<=q) (hW:2139095040<=a*8388608+q):gtL (Ieee.double.nearest false q ((a:Int)-149)) 5183643170566569984=true:=by
 obtain⟨t,t1,t2,t3,t4,t5,_⟩:=o0o h0 hq
 by_cases hT:(a:Int)-149- (t:Int)<=971
 ·rw [cG t3 t4 (by omega) hT]
  refine f1z (m2k ?_ t3) (k1s (by omega) t4)
  by_cases hc:q=16777216
  ·subst hc
   have e2:t=28:=x1a t3 t4
   omega
  ·by_cases h8:8388608<=q
   ·have:=t5 h8
    omega
   ·have:a=0:=hn.resolve_right h8
    omega
 ·rw [d0x t3 t4 (by omega)]
  exact f1z (by decide) (by decide)
section
variable {d:List UInt8} {e:Int}
theorem y1f (hd:yB d) {c:UInt8} {r:List UInt8} (hc:d=c ::r) (h:c≠48) (h0:0 < hxM d) (hN:0 < hxN d):
  (vlW 24 (-149) (hxN d) 1 e < 2139095040->hxW d e 24 (-149)=dbl (vlW 24 (-149) (hxN d) 1 e))∧(2139095040<=vlW 24 (-149) (hxN d) 1 e->gtL (hxW d e 24 (-149)) 5183643170566569984=true):=by
 obtain⟨v1,v2,v3,v4⟩:=x1f (e:=e) (l:= -149) (p:=24) (P:=24) hd rfl ⟨by decide,by decide⟩ hc h h0 hN
 have hM:=lB hd
 obtain⟨x1,x2,x3,x4⟩:=P8 h0 hM
 rw [v1]
 rw [show (2:Nat) ^(24-1)=8388608 by decide] at*
 rw [show (2:Nat) ^24=16777216 by decide] at*
 have e1:(hxU d e 24 (-149)- -149).toNat=(hxU d e 24 (-149)+149).toNat:=by omega
 rw [e1]
 have hz:z0x d e 24 (-149)=0->hxU d e 24 (-149)= -149:=by
  intro hQ
  rcases v4 with g | g
  ·exact g
  ·rw [hQ] at g
   omega
 have hshow:hxW d e 24 (-149)=biW (hxM d) ((d.drop 16).any fun c=>c !=48) (hxE d e) 24 (-149):=rfl
 rw [hshow]
 unfold biW
 by_cases hQ:z0x d e 24 (-149)=0
 ·have hU:=hz hQ
  have hw:(if 64 < biO (hxM d) (hxE d e) 24 (-149) then 0 else ldW (lK (z0x d e 24 (-149))) (hxU d e 24 (-149)))=0:=by
   rw [hQ,n2e]
   split <;> rfl
  have hw2:(hxU d e 24 (-149)+149).toNat*8388608+z0x d e 24 (-149)=0:=by
   rw [hU,hQ]
   rfl
  rw [hw2]
  refine⟨fun _=> ?_,fun hge=>by omega⟩
  rw [o0e]
  exact hw
 ·by_cases hbig:64 < biO (hxM d) (hxE d e) 24 (-149)
  ·exfalso
   apply hQ
   have h65:65<=hxO d e 24 (-149):=(show 65<=(biO (hxM d) (hxE d e) 24 (-149)).toNat by omega)
   have hp1:(2:Nat) ^64<=2 ^(hxO d e 24 (-149)-1):=y5 (by decide) (by omega)
   have hp2:(2:Nat) ^(hxO d e 24 (-149)-1)<=2 ^hxO d e 24 (-149):=y5 (by decide) (by omega)
   have h64:biX (hxM d) < 2 ^64:=x2
   show biQ _ _ _=0
   unfold biQ upT
   rw [G7 (by omega),mK (by omega),d8 (by omega),d8 (by omega)]
   rfl
  ·rw [a7 hbig]
   have hw:ldW (lK (biQ (biX (hxM d)) (biO (hxM d) (hxE d e) 24 (-149)).toNat ((d.drop 16).any fun c=>c !=48))) (biU (hxM d) (hxE d e) 24 (-149))=Ieee.double.nearest false (z0x d e 24 (-149)) (hxU d e 24 (-149)):=
    g1p (cR hQ) (show z0x d e 24 (-149)<=_ by omega)
   rw [hw]
   obtain⟨a,ha⟩:∃ a:Nat,hxU d e 24 (-149)+149=(a:Int):=⟨(hxU d e 24 (-149)+149).toNat,by omega⟩
   have ha2:hxU d e 24 (-149)=(a:Int)-149:=by omega
   have ha3:(hxU d e 24 (-149)+149).toNat=a:=by omega
   rw [ha3,ha2]
   exact⟨p1x (cR hQ) v3 (v4.imp (fun g=>by omega) id),r1w (cR hQ) v3 (v4.imp (fun g=>by omega) id)⟩
end
def ovW (K:Nat) (L T:Int):Nat:=(T-K+3-L).toNat*2 ^(K-1)
section
variable {K:Nat} {L T:Int} {N D:Nat} {E:Int} (hK:2<=K) (hT:L+K<=T) (hN:0 < N) (hD:0 < D)
include hK hT hN hD
theorem f2w:(tfv K L T N D E=decide (ovW K L T<=vlW K L N D E))∧(tfv K L T N D E=false->(tfe K L N D E-L).toNat*2 ^(K-1)+tfm K L N D E=vlW K L N D E∧tfm K L N D E < 2 ^K∧L<=tfe K L N D E∧tfe K L N D E<=T-K+1∧(2 ^(K-1)<=tfm K L N D E∨tfe K L N D E=L)):=by
 obtain⟨r1,r2,r3⟩:=mZ (K:=K) (L:=L) (E:=E) (by omega) hN hD
 have hm:=I7 N D (toX K L N D E-E)
 have hp:=vZ (show 0 < K by omega)
 have hb:=v0x K L N D E
 have hP:0 < 2 ^(K-1):=nK _
 have hv:vlW K L N D E=(toX K L N D E-L).toNat*2 ^(K-1)+trM K L N D E:=rfl
 have hr:trM K L N D E=flm N D (toX K L N D E-E):=rfl
 rw [<- hr] at hm
 have hle:trM K L N D E<=2 ^K:=by omega
 have hge:2 ^(K-1)<=trM K L N D E∨toX K L N D E=L:=r3.elim (fun h=> .inr (by omega)) (fun h=> .inl (by omega))
 have hL:L<=toX K L N D E:=by omega
 have key:(tfe K L N D E-L).toNat*2 ^(K-1)+tfm K L N D E=vlW K L N D E∧tfm K L N D E < 2 ^K∧L<=tfe K L N D E∧(2 ^(K-1)<=tfm K L N D E∨tfe K L N D E=L)∧toX K L N D E<=tfe K L N D E:=by
  rw [hv]
  unfold tfe tfm
  by_cases hc:trM K L N D E=2 ^K
  ·rw [f9 hc,f9 hc,hc,show (toX K L N D E+1-L).toNat=(toX K L N D E-L).toNat+1 by omega,A7,P7]
   exact⟨by omega,by omega,by omega, .inl (d9 _),by omega⟩
  ·rw [a7 hc,a7 hc]
   exact⟨rfl,by omega,hL,hge,T8 _⟩
 obtain⟨q1,q2,q3,q4,q5⟩:=key
 have hov:tfo K L T N D E=true↔ovW K L T<=vlW K L N D E:=by
  unfold tfo ovW
  rw [<- q1]
  generalize tfe K L N D E=e at*
  generalize tfm K L N D E=m at*
  generalize 2 ^(K-1)=P at*
  obtain⟨a,ha⟩:∃ a:Nat,e-L=(a:Int):=⟨(e-L).toNat,by omega⟩
  obtain⟨c,hc⟩:∃ c:Nat,T-K+3-L=(c:Int):=⟨(T-K+3-L).toNat,by omega⟩
  rw [ha,hc,g9,g9]
  constructor
  ·intro h
   simp only [A9,aI] at h
   have h1:c<=a+1:=by omega
   have:=w9 P h1
   rw [A7,P7] at this
   omega
  ·intro h
   have h1:c<=a+1:=by
    refine gD fun hlt=> ?_
    have:=w9 P (show a+2<=c from hlt)
    rw [A7] at this
    omega
   have h2:P<=m:=by
    rcases q4 with h | h
    ·exact h
    ·omega
   simp only [A9,aI]
   exact⟨by omega,h2⟩
 have hvd:tfv K L T N D E=decide (ovW K L T<=vlW K L N D E):=by
  unfold tfv
  by_cases hf:T+8 < toB K L N D E
  ·rw [i6 hf,Bool.true_or]
   symm
   refine i6 ?_
   unfold ovW
   rw [hv]
   have h1:(T-K+3-L).toNat<=(toX K L N D E-L).toNat:=by omega
   exact x7 (w9 _ h1) (a0n _ _)
  ·rw [d8 hf,Bool.false_or]
   cases h:tfo K L T N D E with
   | true=>exact (i6 (hov.1 h)).symm
   | false=>exact (d8 (fun e=>by rw [hov.2 e] at h; cases h)).symm
 refine⟨hvd,fun h=>⟨q1,q2,q3,?_,q4⟩⟩
 have hno:tfo K L T N D E=false:=by
  unfold tfv at h
  simp only [h0u] at h
  exact h.2
 unfold tfo at hno
 rcases q4 with h4 | h4
 ·rw [i6 h4,zW] at hno
  have:=Q8 hno
  omega
 ·omega
end
inductive KdOk:Nat->Int->Int->Prop
 | d:KdOk 53 (-1074) 1023
 | s:KdOk 24 (-149) 127
theorem b3k:ovW 53 (-1074) 1023=9218868437227405312:=by decide
theorem b3v:ovW 24 (-149) 127=2139095040:=by decide
theorem y1d {N D a Q:Nat} (hQ:a<=Q) (h:D*2 ^Q<=N):D*2 ^a<=N:=x7 (N0 D (w1y hQ)) h
theorem v1m {N D Q:Nat} (hQ:Q=1024) (hD:0 < D) (h:D*2 ^Q<=N):9218868437227405312<=rwd 53 (-1074) N D:=by
 subst hQ
 exact c1i hD h
theorem h2n {K:Nat} {L T:Int} (hk:KdOk K L T) {N D Q:Nat} (hQ:1024<=Q) (hD:0 < D) (h:D*2 ^Q<=N):ovW K L T<=rwd K L N D:=by
 cases hk with
 | d=>
  rw [b3k]
  obtain⟨R,hR⟩:∃ R:Nat,R=1024:=⟨_,rfl⟩
  exact v1m hR hD (y1d (by omega) h)
 | s=>rw [b3v]; exact i0w hD (y1d (x7 (by decide) hQ) h)
theorem fI {K:Nat} {L T:Int} (hk:KdOk K L T):2<=K∧K<=60∧-1074<=L∧L<=0∧L+K<=T∧0<=T∧T<=2000:=by cases hk <;> decide
section
variable {K:Nat} {L T:Int} (hk:KdOk K L T)
include hk
theorem x1x:ovW K L T<=vlW K L 1 1 1700:=by
 obtain⟨k1,_⟩:=fI hk
 rw [zV (by omega) Nat.one_pos Nat.one_pos]
 obtain⟨Q,hQ⟩:∃ Q:Nat,Q=(1700:Int).toNat:=⟨_,rfl⟩
 refine h2n hk (Q:=Q) (by rw [hQ]; decide) (F0 Nat.one_pos (lN (by decide) _)) ?_
 unfold pN pD
 rw [f9 (by decide),f9 (by decide),P7,P7,<- hQ]
 exact d9 _
theorem m1t:vlW K L 1 1 (-1700)=0:=by
 obtain⟨k1,k2,l1,l2,_⟩:=fI hk
 rw [zV (by omega) Nat.one_pos Nat.one_pos]
 refine wV (by omega) l2 ?_
 unfold pN pD
 rw [a7 (by decide),a7 (by decide),P7,P7]
 exact c0b (by decide) (show (-L).toNat+1 < (-(-1700:Int)).toNat by omega)
def k0y (x1 x2:Int):Prop:=x1=x2∨(1000000000<=x1∧1000000000<=x2)∨(x1<=-1000000000∧x2<=-1000000000)
theorem h2a {n l:Nat} {x1 x2:Int} (hn:0 < n) (hb:bl n<=40000) (hr:k0y x1 x2):min (vlW K L n 1 x1) (ovW K L T)=min (vlW K L (vNu 16 n l x2) (vDe 16 n l x2) (vEx 16 n l x2)) (ovW K L T):=by
 obtain⟨k1,k2,l1,l2,_⟩:=fI hk
 have hf:kD 16 n l x2=((bl n:Int)+x2).tdiv 4:=by unfold kD; rw [f9 rfl]
 have ht:=d2f ((bl n:Int)+x2)
 unfold vNu vDe vEx
 by_cases h1:400 < kD 16 n l x2
 ·rw [f9 h1,f9 h1,f9 h1,M2 (x1x hk)]
  have hx:1100<=(bl n:Int)+x1:=by
   rw [hf] at h1
   rcases hr with h | h | h <;> omega
  refine M2 ?_
  rw [zV (by omega) hn Nat.one_pos,P7]
  obtain⟨Q,hQ⟩:∃ Q:Nat,Q=1099:=⟨_,rfl⟩
  refine h2n hk (Q:=Q) (by omega) (lN (by decide) _) ?_
  have hb0:=bl_pos.2 hn
  have h2:=w9 (pN 2 x1) (b0a hn)
  refine x7 ?_ h2
  unfold pN pD
  by_cases h0:0<=x1
  ·rw [f9 h0,f9 h0,P7,<- n9]
   exact y5 (by decide) (by omega)
  ·rw [a7 h0,a7 h0,u9,<- n9]
   exact y5 (by decide) (by omega)
 ·rw [a7 h1,a7 h1,a7 h1]
  by_cases h2:kD 16 n l x2 < -400
  ·rw [f9 h2,f9 h2,f9 h2,m1t hk]
   have hx:(bl n:Int)+x1<=-1100:=by
    rw [hf] at h2
    rcases hr with h | h | h <;> omega
   have:vlW K L n 1 x1=0:=by
    rw [zV (by omega) hn Nat.one_pos,P7]
    refine wV (by omega) l2 ?_
    unfold pN pD
    rw [a7 (by omega),a7 (by omega),u9]
    have h3:=P4 (lZ n) (nK ((-L).toNat+1))
    rw [<- n9] at h3
    exact C8 h3 (y5 (by decide) (by omega))
   rw [this]
  ·rw [a7 h2,a7 h2,a7 h2,f9 rfl,f9 rfl,f9 rfl]
   have hx:x1=x2:=by
    rw [hf] at h1 h2
    rcases hr with h | h | h
    ·exact h
    ·omega
    ·omega
   rw [hx]
theorem c2a {n l:Nat} {x1 x2:Int} (hl:1<=l∧l<=8192) (hn1:10 ^(l-1)<=n) (hn2:n < 10 ^l) (hr:k0y x1 x2):min (dcW K L n x1) (ovW K L T)=min (vlW K L (vNu 10 n l x2) (vDe 10 n l x2) (vEx 10 n l x2)) (ovW K L T):=by
 obtain⟨k1,k2,l1,l2,_⟩:=fI hk
 have hn:0 < n:=C8 (s7 (by decide)) hn1
 have h10:¬(10:Nat)=16:=by decide
 have hf:kD 10 n l x2=(l:Int)+x2:=by unfold kD; rw [a7 h10]
 unfold vNu vDe vEx
 by_cases h1:400 < kD 10 n l x2
 ·rw [f9 h1,f9 h1,f9 h1,M2 (x1x hk)]
  have hx:401<=(l:Int)+x1:=by
   rw [hf] at h1
   rcases hr with h | h | h <;> omega
  exact M2 (h2n hk (d9 1024) (lN (by decide) _) (g1e n0f hn1 (by omega)))
 ·rw [a7 h1,a7 h1,a7 h1]
  by_cases h2:kD 10 n l x2 < -400
  ·rw [f9 h2,f9 h2,f9 h2,m1t hk]
   have hx:(l:Int)+x1<=-400:=by
    rw [hf] at h2
    rcases hr with h | h | h <;> omega
   rw [wY (by omega) ⟨l1,l2⟩ hn2 hx]
  ·rw [a7 h2,a7 h2,a7 h2,a7 h10,a7 h10,a7 h10]
   have hx:x1=x2:=by
    rw [hf] at h1 h2
    rcases hr with h | h | h
    ·exact h
    ·omega
    ·omega
   subst hx
   have p1:pN 2 0=1:=rfl
   have p2:pD 2 0=1:=rfl
   unfold dcW pN pD
   by_cases h3:0<=x1
   ·rw [f9 h3,f9 h3,f9 h3,zV (by omega) (F0 hn (s7 (by decide))) Nat.one_pos,p1,p2,u9,u9]
   ·rw [a7 h3,a7 h3,a7 h3,zV (by omega) hn (s7 (by decide)),p1,p2,u9,u9]
end
theorem n1f {v b:Int} (h:0<=b∧b<=40000):k0y (r0x v-b) (v-b):=by
 unfold k0y r0x
 split
 ·exact .inr (.inr ⟨by omega,by omega⟩)
 ·split
  ·exact .inr (.inl ⟨by omega,by omega⟩)
  ·exact .inl rfl
theorem m1f {b:Int} (r:List UInt8):(J2 b r false).length<=r.length:=by
 have h1:=q0n (b:=b) r
 have h2:=L4 b r false
 omega
theorem Y4 {u:List UInt8} (hl:u.length<=8192) (h:f0b u=true):
  (rbV u).1=y6 u∧((D2 u=true∧(rbV u).2.1=16)∨(D2 u=false∧(rbV u).2.1=10))∧k0y (R6 u) (rbV u).2.2.1∧(-8796093022208<=(rbV u).2.2.1∧(rbV u).2.2.1<=8796093022208)∧(y6 u).length<=8192:=by
 have hrb:rbV u=if hxL u=true then bdV 112 80 16 4 (u.drop 2) else bdV 101 69 10 1 u:=by unfold rbV; rw [w0h]
 unfold f0b at h
 by_cases hx:hxL u=true
 ·rw [f9 hx] at h hrb
  have ha:2<=u.length:=by
   obtain⟨d,r,e,_⟩:=kH hx
   rw [e]
   simp
  obtain⟨c1,c2,c3,v,c4,c5,c6,c7⟩:=l0a (t:=u) (a:=2) (x:=112) (y:=80) (base:=16) (yy:=4) (by decide) (by decide) (by decide) ha (by omega) t1b h
  have hH:D2 u=true:=by
   unfold D2
   rw [w0h,hx,cF]
   cases hq:(maS u 2 16==([] :List UInt8)) with
   | true=>exact absurd (zzA225.1 hq) c2
   | false=>rfl
  have hS:y6 u=maS u 2 16:=by unfold y6; rw [f9 hH]
  have hX:R6 u=r0x v-4*maB u 2 16:=by
   unfold R6
   rw [f9 hH]
   exact aP (· - 4*maB u 2 16) c5
  have hb:=dM (t:=u) (a:=2) (b:=16) ha
  rw [hrb]
  refine⟨c1.trans hS.symm, .inl ⟨hH,c3⟩,?_,?_,?_⟩
  ·have e:(bdV 112 80 16 4 (u.drop 2)).2.2.1=v-4*maB u 2 16:=c4
   rw [e,hX]
   exact n1f ⟨by omega,by omega⟩
  ·have e:(bdV 112 80 16 4 (u.drop 2)).2.2.1=v-4*maB u 2 16:=c4
   rw [e]
   omega
  ·rw [hS,l0k (by decide) ha]
   have:=m1f (b:=16) (u.drop 2)
   rw [C2] at this
   omega
 ·rw [a7 hx] at h hrb
  obtain⟨c1,c2,c3,v,c4,c5,c6,c7⟩:=l0a (t:=u) (a:=0) (x:=101) (y:=69) (base:=10) (yy:=1) (by decide) (by decide) (by decide) (s6 _) (by omega) e2q (by rw [U8]; exact h)
  rw [U8] at c1 c3 c4
  have hH:D2 u=false:=sG (by simpa using hx)
  have hn:¬D2 u=true:=by rw [hH]; decide
  have hS:y6 u=maS u 0 10:=by unfold y6; rw [a7 hn]
  have hX:R6 u=r0x v-maB u 0 10:=by
   unfold R6
   rw [a7 hn,a7 c2]
   exact aP (· - maB u 0 10) c5
  have hb:=dM (t:=u) (a:=0) (b:=10) (s6 _)
  rw [hrb]
  have e:(bdV 101 69 10 1 u).2.2.1=v-maB u 0 10:=by
   have:(bdV 101 69 10 1 u).2.2.1=v-1*maB u 0 10:=c4
   rw [this,Int.one_mul]
  refine⟨c1.trans hS.symm, .inr ⟨hH,c3⟩,?_,?_,?_⟩
  ·rw [e,hX]
   exact n1f ⟨by omega,by omega⟩
  ·rw [e]
   omega
  ·rw [hS,l0k (by decide) (s6 _),U8]
   have:=m1f (b:=10) u
   omega
theorem w1m (l:List UInt8):bsN 16 l=hxN l:=by
 unfold bsN hxN
 congr 1
 funext m c
 rw [t7]
theorem i1x {c:UInt8} (h:48<=c.toNat∧c.toNat<=57):hxd c=c.toNat-48∧u7 (c.toNat:Int) < 10:=by
 have e:u7 (c.toNat:Int)=(c.toNat:Int)-48:=by
  unfold u7
  rw [f9 ⟨by omega,by omega⟩]
 have h1:=uL (c:=c)
 exact⟨by omega,by omega⟩
theorem o2k:∀ {l:List UInt8},E2 l=true->bsN 10 l=dcN l:=by
 intro l h
 have key:∀ (l:List UInt8) (m:Nat),E2 l=true->l.foldl (fun m c=>m*10+hxd c) m=l.foldl dcF m:=by
  intro l
  induction l with
  | nil=>intro m _; rfl
  | cons c r ih=>
   intro m h
   obtain⟨h1,h2⟩:=nZ h
   rw [zC,zC,ih _ h2]
   congr 1
   unfold dcF
   rw [(i1x h1).1,t7]
 exact key l 0 h
theorem t0y {b:Nat} {l:List UInt8} (h:r1g b l):r1g b (b8 l):=fun c hc=>h c (G6 hc)
theorem m1w {u:List UInt8} :(D2 u=true->r1g 16 (b8 (y6 u))∧yB (b8 (y6 u)))∧(D2 u=false->r1g 10 (b8 (y6 u))∧E2 (y6 u)=true):=by
 refine⟨fun h=> ?_,fun h=> ?_⟩
 ·have hx:=xB h
  exact⟨t0y fun c hc=>hx c hc,fun c hc=>hx c (G6 hc)⟩
 ·have hd:=j0g h
  exact⟨t0y fun c hc=>(i1x (allDB_mem.1 hd c hc)).2,hd⟩
theorem n2n {b:Nat} (hb:1<=b) {c:UInt8} {r:List UInt8} (h:0 < hxd c):0 < bsN b (c ::r):=by
 have key:∀ (l:List UInt8) (a:Nat),0 < a->0 < l.foldl (fun m c=>m*b+hxd c) a:=by
  intro l
  induction l with
  | nil=>intro a ha; exact ha
  | cons d q ih=>
   intro a ha
   exact ih _ (C8 (F0 ha hb) (a0n _ _))
 exact key r _ (show 0 < 0*b+hxd c by rw [K8]; omega)
def pkW (K:Nat) (L:Int) (u:List UInt8):Nat:=if D2 u=true then vlW K L (hxN (b8 (y6 u))) 1 (R6 u) else dcW K L (dcN (y6 u)) (R6 u)
theorem a3i {l:List UInt8} (h:yB l) (hl:l.length<=8192):bl (hxN l)<=32768:=by
 have h2:bl (hxN l)<=4*l.length:=bl_le.2 (by
  rw [dB]
  exact y1s h)
 omega
section
variable {K:Nat} {L T:Int} (hk:KdOk K L T) {u:List UInt8} (hl:u.length<=8192) (h:f0b u=true) (hne:b8 (y6 u)≠[])
include hk hl h hne
theorem b1o (b:Nat) (hb:(rbV u).2.1=(b:Int)):(b=10∨b=16)∧r1g b (b8 (rbV u).1)∧(b8 (rbV u).1).length<=8192∧
  toOk K L T (vNu b (bsN b (b8 (rbV u).1)) (b8 (rbV u).1).length (rbV u).2.2.1) (vDe b (bsN b (b8 (rbV u).1)) (b8 (rbV u).1).length (rbV u).2.2.1) (vEx b (bsN b (b8 (rbV u).1)) (b8 (rbV u).1).length (rbV u).2.2.1)∧
  min (pkW K L u) (ovW K L T)=min (vlW K L (vNu b (bsN b (b8 (rbV u).1)) (b8 (rbV u).1).length (rbV u).2.2.1) (vDe b (bsN b (b8 (rbV u).1)) (b8 (rbV u).1).length (rbV u).2.2.1) (vEx b (bsN b (b8 (rbV u).1)) (b8 (rbV u).1).length (rbV u).2.2.1)) (ovW K L T):=by
 obtain⟨b1,b2,b3,b4,b5⟩:=Y4 hl h
 obtain⟨k1,k2,k3,k4,k5,k6,k7⟩:=fI hk
 obtain⟨d1,d2⟩:=m1w (u:=u)
 rw [b1]
 have htl:(b8 (y6 u)).length<=8192:=x7 (I9 _) b5
 obtain⟨c,r,hcr⟩:∃ c r,b8 (y6 u)=c ::r:=by
  cases hh:b8 (y6 u) with
  | nil=>exact absurd hh hne
  | cons c r=>exact⟨c,r,rfl⟩
 have hc48:=K0 hcr
 rcases b2 with ⟨hH,hB⟩ | ⟨hH,hB⟩
 ·have e16:b=16:=by omega
  subst e16
  obtain⟨g1,g2⟩:=d1 hH
  have hpos:0 < bsN 16 (b8 (y6 u)):=by
   rw [hcr]
   exact n2n (by decide) (cR fun e=>hc48 ((g0a (g2 c (by rw [hcr]; exact xH))).1 e))
  have hbl:bl (bsN 16 (b8 (y6 u)))<=32768:=by rw [w1m]; exact a3i g2 htl
  refine⟨.inr rfl,g1,htl,?_,?_⟩
  ·generalize bsN 16 (b8 (y6 u))=n at*
   generalize (b8 (y6 u)).length=l at*
   generalize (rbV u).2.2.1=x at*
   have hf:kD 16 n l x=((bl n:Int)+x).tdiv 4:=by unfold kD; rw [f9 rfl]
   have ht:=d2f ((bl n:Int)+x)
   unfold vNu vDe vEx
   split
   ·exact⟨k1,k2,⟨k3,k4⟩,⟨k6,k7⟩,by decide,by decide,by decide,by decide,by omega⟩
   ·split
    ·exact⟨k1,k2,⟨k3,k4⟩,⟨k6,k7⟩,by decide,by decide,by decide,by decide,by omega⟩
    ·rw [f9 rfl,f9 rfl,f9 rfl]
     exact⟨k1,k2,⟨k3,k4⟩,⟨k6,k7⟩,hpos,by decide,by omega,by decide,by omega⟩
  ·unfold pkW
   rw [f9 hH,<- w1m]
   exact h2a hk hpos (by omega) b3
 ·have e10:b=10:=by omega
  subst e10
  obtain⟨g1,g2⟩:=d2 hH
  have hT:E2 (b8 (y6 u))=true:=allDB_mem.2 fun b hb=>allDB_mem.1 g2 b (G6 hb)
  have hn:bsN 10 (b8 (y6 u))=dcN (y6 u):=by rw [o2k hT,G4]
  have hn1:=c1r g2 hcr
  have hn2:=s0d hT
  rw [G4] at hn2
  have hl1:(b8 (y6 u)).length=r.length+1:=by rw [hcr]; rfl
  have hpos:0 < dcN (y6 u):=C8 (s7 (by decide)) hn1
  rw [hn]
  refine⟨.inl rfl,g1,htl,?_,?_⟩
  ·have hbl:bl (dcN (y6 u))<=32769:=by
    have:=p0b (K1 hn2)
    have:=t0e (b8 (y6 u)).length
    omega
   generalize dcN (y6 u)=n at*
   generalize (b8 (y6 u)).length=l at*
   generalize (rbV u).2.2.1=x at*
   have h10:¬(10:Nat)=16:=by decide
   have hf:kD 10 n l x=(l:Int)+x:=by unfold kD; rw [a7 h10]
   unfold vNu vDe vEx
   split
   ·exact⟨k1,k2,⟨k3,k4⟩,⟨k6,k7⟩,by decide,by decide,by decide,by decide,by omega⟩
   ·split
    ·exact⟨k1,k2,⟨k3,k4⟩,⟨k6,k7⟩,by decide,by decide,by decide,by decide,by omega⟩
    ·split
     ·have t1:=t0e x.toNat
      have t2:bl (n*10 ^x.toNat)<=bl n+bl (10 ^x.toNat):=bl_le.2 (by rw [n9]; exact vK (lZ _) (lZ _))
      exact⟨k1,k2,⟨k3,k4⟩,⟨k6,k7⟩,F0 hpos (s7 (by decide)),by decide,by omega,by decide,by omega⟩
     ·have t1:=t0e (-x).toNat
      exact⟨k1,k2,⟨k3,k4⟩,⟨k6,k7⟩,hpos,s7 (by decide),by omega,by omega,by omega⟩
  ·unfold pkW
   rw [a7 (by rw [hH]; decide)]
   exact c2a hk ⟨by omega,htl⟩ (by rw [hl1]; exact hn1) hn2 b3
end
abbrev T5 (t:List UInt8):List Value:=[.string ⟨⟨t⟩⟩]
abbrev pR6 (w z:Int):Value:= .tuple ⟨[.int .u64 w, .int .i64 z]⟩
abbrev pR3 (w z:Int):Value:= .tuple ⟨[.int .u32 w, .int .i64 z]⟩
abbrev n6 (t:List UInt8):Bool×Bool×Int×Int×Bool×Int:=n5F t 53 (-1074) 1023
abbrev n3' (t:List UInt8):Bool×Bool×Int×Int×Bool×Int:=n5F t 24 (-149) 127
section
variable (t:List UInt8)
theorem d3y:b7 i2c [] 200 9 (T5 t) [true] =some (pR6 9221120237041090560 (n6 t).2.2.2.2.2,[(n6 t).2.2.2.2.1=true,h1y t 53 (-1074) 1023]):=by kernel_rfl
theorem v2r:b7 i2c [] 200 9 (T5 t) [false,true] =some (pR6 0 (n6 t).2.2.2.2.2,[((n6 t).2.2.2.2.2 !=0)=true,(n6 t).2.2.2.2.1=false,h1y t 53 (-1074) 1023]):=by kernel_rfl
theorem z2n:b7 i2c [] 200 9 (T5 t) [false,false] =some (pR6 ((i2z (n6 t).1 (n6 t).2.1 (n6 t).2.2.1.toNat (n6 t).2.2.2.1:Nat):Int) 0,[0<=(n6 t).2.2.1∧((n6 t).2.1=false->joK (n6 t).2.2.1.toNat (n6 t).2.2.2.1),((n6 t).2.2.2.2.2 !=0)=false,(n6 t).2.2.2.2.1=false,h1y t 53 (-1074) 1023]):=by kernel_rfl
theorem e3n:b7 i2c [] 200 11 (T5 t) [true] =some (pR3 2143289344 (n3' t).2.2.2.2.2,[(n3' t).2.2.2.2.1=true,h1y t 24 (-149) 127]):=by kernel_rfl
theorem a3o:b7 i2c [] 200 11 (T5 t) [false,true] =some (pR3 0 (n3' t).2.2.2.2.2,[((n3' t).2.2.2.2.2 !=0)=true,(n3' t).2.2.2.2.1=false,h1y t 24 (-149) 127]):=by kernel_rfl
theorem z2u:b7 i2c [] 200 11 (T5 t) [false,false] =some (pR3 ((o1r (n3' t).1 (n3' t).2.1 (n3' t).2.2.1.toNat (n3' t).2.2.2.1:Nat):Int) 0,[0<=(n3' t).2.2.1∧((n3' t).2.1=false->b3K (n3' t).2.2.1 (n3' t).2.2.2.1),((n3' t).2.2.2.2.2 !=0)=false,(n3' t).2.2.2.2.1=false,h1y t 24 (-149) 127]):=by kernel_rfl
end
theorem e2w {t:List UInt8} (hl:t.length<=8192):c2j t= !rkB t:=by
 have h1:=P6 t
 have hu:(o7 t).length < 9223372036854775807:=by omega
 have hB:rkB t=f0b (o7 t):=i1g _
 rw [hB]
 unfold c2j
 generalize o7 t=u at*
 have hle:=q1j hu
 cases hb:f0b u with
 | true=>
  have h2:=c2c hu (d9 _) (by rw [r8]; exact hb)
  have h3:S0 u=u.length:=by omega
  have h0:u.length≠0:=fun e=>by
   have:=cJ e
   subst this
   revert hb
   decide
  rw [h3,y9 (show ((u.length:Nat):Int)≠0 by omega)]
  show (((u.length:Nat):Int) !=((u.length:Nat):Int))=false
  simp
 | false=>
  by_cases h0:S0 u=0
  ·rw [h0]
   rfl
  ·rw [y9 (show ((S0 u:Nat):Int)≠0 by omega)]
   show (((S0 u:Nat):Int) !=((u.length:Nat):Int))=true
   refine zzA187.2 fun e=> ?_
   have h2:=h2u hu h0
   rw [show S0 u=u.length by omega,r8,hb] at h2
   cases h2
theorem w1l {k:Nat} (h:bl k<=100000):bl k<=16000000:=by omega
section
variable {K:Nat} {L T:Int} (hk:KdOk K L T) {t:List UInt8} (hl:t.length<=8192) (h3:rkB t=true) (hT:rkT t=o7 t) (hne:b8 (nD t)≠[])
include hk hl h3 hT hne
theorem c1f:(vaK (nB t) (nX t) (nD t)∧tvK (K:Int) L T (nN t) (nE t) (nP t))∧tvO (K:Int) L T (nN t) (nE t) (nP t)=decide (ovW K L T<=pkW K L (o7 t))∧
  (¬ovW K L T<=pkW K L (o7 t)->∃ m:Nat,tvM (K:Int) L T (nN t) (nE t) (nP t)=(m:Int)∧(tvE (K:Int) L T (nN t) (nE t) (nP t)-L).toNat*2 ^(K-1)+m=pkW K L (o7 t)∧m < 2 ^K∧L<=tvE (K:Int) L T (nN t) (nE t) (nP t)∧tvE (K:Int) L T (nN t) (nE t) (nP t)<=T-K+1∧(2 ^(K-1)<=m∨tvE (K:Int) L T (nN t) (nE t) (nP t)=L)):=by
 have hul:(o7 t).length<=8192:=by have:=P6 t; omega
 have hok:f0b (o7 t)=true:=(i1g _).symm.trans h3
 obtain⟨b1,b2,b3,b4,b5⟩:=Y4 hul hok
 have hne':b8 (y6 (o7 t))≠[] :=by
  have:nD t=y6 (o7 t):=by show (rbV (rkT t)).1=_; rw [hT]; exact b1
  rw [<- this]
  exact hne
 obtain⟨b,hb⟩:∃ b:Nat,(rbV (o7 t)).2.1=(b:Int):=b2.elim (fun h=>⟨16,h.2⟩) (fun h=>⟨10,h.2⟩)
 obtain⟨w1,w2,w3,w4,w5⟩:=b1o hk hul hok hne' b hb
 have hD':nD t=(rbV (o7 t)).1:=by show (rbV (rkT t)).1=_; rw [hT]
 have hX':nX t=(rbV (o7 t)).2.2.1:=by show (rbV (rkT t)).2.2.1=_; rw [hT]
 have hB':nB t=(b:Int):=by show (rbV (rkT t)).2.1=_; rw [hT]; exact hb
 have eN:nN t=ws W32 (vNu b (bsN b (b8 (rbV (o7 t)).1)) (b8 (rbV (o7 t)).1).length (rbV (o7 t)).2.2.1):=by
  show zO10 _ _=_
  rw [r8]
  unfold vaN vbN
  rw [hB',hD',hX']
  rfl
 have eE:nE t=ws W32 (vDe b (bsN b (b8 (rbV (o7 t)).1)) (b8 (rbV (o7 t)).1).length (rbV (o7 t)).2.2.1):=by
  show zO10 _ _=_
  rw [r8]
  unfold vaD vbN
  rw [hB',hD',hX']
  rfl
 have eP:nP t=vEx b (bsN b (b8 (rbV (o7 t)).1)) (b8 (rbV (o7 t)).1).length (rbV (o7 t)).2.2.1:=by
  show vaX _ _ _=_
  unfold vaX vbN
  rw [hB',hD',hX']
  rfl
 rw [eN,eE,eP]
 have hva:vaK (nB t) (nX t) (nD t):=by
  show vaK (rbV (rkT t)).2.1 (rbV (rkT t)).2.2.1 (rbV (rkT t)).1
  rw [hT,hb]
  exact⟨by omega,w2,w3,b4⟩
 generalize vNu b (bsN b (b8 (rbV (o7 t)).1)) (b8 (rbV (o7 t)).1).length (rbV (o7 t)).2.2.1=N at*
 generalize vDe b (bsN b (b8 (rbV (o7 t)).1)) (b8 (rbV (o7 t)).1).length (rbV (o7 t)).2.2.1=D at*
 generalize vEx b (bsN b (b8 (rbV (o7 t)).1)) (b8 (rbV (o7 t)).1).length (rbV (o7 t)).2.2.1=E at*
 have hv1:val W32 (ws W32 N)=N:=x6 n4 N
 have hv2:val W32 (ws W32 D)=D:=x6 n4 D
 obtain⟨k1,k2,k3,k4,k5,k6,k7⟩:=fI hk
 obtain⟨f1,f2⟩:=f2w (T:=T) (E:=E) k1 k5 w4.n w4.d
 have hO:tvO (K:Int) L T (ws W32 N) (ws W32 D) E=tfv K L T N D E:=by unfold tvO; rw [hv1,hv2]; rfl
 have hcmp:(ovW K L T<=vlW K L N D E)↔ovW K L T<=pkW K L (o7 t):=by omega
 refine⟨⟨hva,?_⟩,?_,?_⟩
 ·unfold tvK
  rw [hv1,hv2]
  exact⟨w7 _,E9 (w1l w4.bn),E9 (w1l w4.bd),w4⟩
 ·rw [hO,f1]
  exact zzA179.2 hcmp
 ·intro hno
  have hfalse:tfv K L T N D E=false:=by rw [f1]; exact d8 (fun e=>hno (hcmp.1 e))
  obtain⟨q1,q2,q3,q4,q5⟩:=f2 hfalse
  have hM:tvM (K:Int) L T (ws W32 N) (ws W32 D) E=((tfm K L N D E:Nat):Int):=by
   unfold tvM
   rw [hO,hfalse,hv1,hv2,a7 (by decide)]
   rfl
  have hE:tvE (K:Int) L T (ws W32 N) (ws W32 D) E=tfe K L N D E:=by
   unfold tvE
   rw [hO,hfalse,hv1,hv2,a7 (by decide)]
   rfl
  rw [hE]
  exact⟨tfm K L N D E,hM,by omega,q2,q3,q4,q5⟩
end
theorem w1x (t:List UInt8):rdL t=decide (8192 < t.length):=zzA179.2 ⟨fun h=>zzA208.1 h,fun h=>zzA208.2 h⟩
theorem k1a {t:List UInt8} (h:8192 < t.length):paB t=true∧rdO t=0∧rdE t=2:=by
 have hL:rdL t=true:=by rw [w1x]; exact i6 h
 have hE:rdE t=2:=by unfold rdE; rw [hL]; rfl
 exact⟨by unfold paB; rw [hE]; rfl,by unfold rdO; rw [hL]; rfl,hE⟩
section
variable {t:List UInt8} (hl:t.length<=8192)
include hl
theorem v0c:rdL t=false:=by rw [w1x]; exact d8 (by omega)
theorem j1b (h:rdF t=true):paB t=true∧rdO t=9221120237041090560∧rdE t=0∧rkK t=1:=by
 have hL:=v0c hl
 have hE:rdE t=0:=by unfold rdE rdP; rw [hL,h]; rfl
 exact⟨by unfold paB rdI; rw [hE,hL,h]; rfl,by unfold rdO; rw [hL,h]; rfl,hE,by unfold rkK; rw [f9 h]⟩
theorem n1x (h:rdF t=false) (h2:rdG t=true):paB t=true∧rdO t=(if Q9 t=true then 18442240474082181120 else 9218868437227405312)∧rdE t=0∧rkK t=2∧rkN t=Q9 t:=by
 have hL:=v0c hl
 have hE:rdE t=0:=by unfold rdE rdP; rw [hL,h,h2]; rfl
 have nF:¬rdF t=true:=by rw [h]; decide
 refine⟨by unfold paB rdI; rw [hE,hL,h,h2]; rfl,?_,hE,by unfold rkK; rw [a7 nF,f9 h2],by unfold rkN; rw [a7 nF,f9 h2]⟩
 unfold rdO
 rw [hL,h,h2,a7 (by decide),a7 (by decide),f9 rfl]
theorem h1i (h:rdF t=false) (h2:rdG t=false) (h3:rkB t=false):paB t=true∧rdO t=0∧rdE t=3∧rkK t=0:=by
 have hL:=v0c hl
 have hE:rdE t=3:=by unfold rdE rdP; rw [hL,h,h2,e2w hl,h3]; rfl
 refine⟨by unfold paB; rw [hE]; rfl,by unfold rdO; rw [hL,h,h2]; rfl,hE,?_⟩
 unfold rkK
 rw [h,h2,h3]
 rfl
theorem f0o (h:rdF t=false) (h2:rdG t=false) (h3:rkB t=true):paB t=false∧rkK t=3∧rkN t=Q9 t∧rkT t=o7 t∧rdN t=Q9 t∧m0l t=D2 (o7 t)∧m0p t=y6 (o7 t)∧m0h t=R6 (o7 t):=by
 have hL:=v0c hl
 have hP:rdP t=true:=by unfold rdP; rw [hL,h,h2]; rfl
 have hE:rdE t=0:=by unfold rdE; rw [hP,hL,e2w hl,h3]; rfl
 have hI:rdI t=false:=by unfold rdI; rw [h,h2,hL]; rfl
 have hO:t2h t=true:=by unfold t2h; rw [hP,e2w hl,h3]; rfl
 refine⟨by unfold paB; rw [hE,hI]; rfl,by unfold rkK; rw [h,h2,h3]; rfl,by unfold rkN; rw [h,h2,h3]; rfl,by unfold rkT; rw [h,h2,h3]; rfl,?_,?_,?_,?_⟩
 ·unfold rdN; rw [hO]; rfl
 ·unfold m0l; rw [f9 hP]
 ·unfold m0p; rw [f9 hP]
 ·unfold m0h; rw [f9 hP]
end
theorem c0t {u:List UInt8} (hx:yB (b8 (y6 u))) (hne:b8 (y6 u)≠[]):∃ c r,b8 (y6 u)=c ::r∧c≠48∧0 < hxM (b8 (y6 u))∧0 < hxN (b8 (y6 u)):=by
 cases hh:b8 (y6 u) with
 | nil=>exact absurd hh hne
 | cons c r=>
  have hc:=K0 hh
  have hp:0 < hxd c:=cR fun e=>hc ((g0a (hx c (by rw [hh]; exact xH))).1 e)
  exact⟨c,r,rfl,hc,p0n hp,p0n hp⟩
theorem p2z {u:List UInt8} (hl:u.length<=8192) (h:f0b u=true):nrW (D2 u) (y6 u) (R6 u)=(if b8 (y6 u)=[] then 0 else min (pkW 53 (-1074) u) 9218868437227405312)∧nrE (D2 u) (y6 u) (R6 u)=0:=by
 obtain⟨_,_,_,_,b5⟩:=Y4 hl h
 obtain⟨d1,d2⟩:=m1w (u:=u)
 unfold nrW nrE pkW
 cases hH:D2 u with
 | true=>
  rw [f9 rfl,f9 rfl,f9 rfl]
  refine⟨?_,rfl⟩
  by_cases h0:b8 (y6 u)=[]
  ·rw [f9 h0,f9 h0]
  ·rw [a7 h0,a7 h0]
   obtain⟨c,r,e1,e2,e3,e4⟩:=c0t (d1 hH).2 h0
   exact q2o (d1 hH).2 e1 e2 e3 e4
 | false=>
  have nf:¬(false=true):=by decide
  rw [a7 nf,a7 nf,a7 nf]
  obtain⟨n1,n2⟩:=n2w (e:=R6 u) (d2 hH).2 b5
  refine⟨?_,n2⟩
  rw [n1]
  by_cases h0:b8 (y6 u)=[]
  ·rw [f9 h0,<- G4,h0]
   show min (dcW 53 (-1074) 0 (R6 u)) _=0
   rw [rU,xM]
  ·rw [a7 h0]
theorem d2g (g:Bool) {x:Nat} (hx:x < 9223372036854775808):sgV x g=sgO g+x:=by
 unfold sgV sgO
 cases g with
 | false=>exact (I0 x).symm
 | true=>
  rw [f9 rfl,f9 rfl,y1j hx,g0x]
theorem k2t {x:Nat} (hx:x<=9218868437227405312):gtL (i2v x) 9218868437227405311=decide (9218868437227405312<=x):=by
 rw [m0w (D7 hx (by decide)),v0o hx (by decide)]
 rfl
theorem x1o {K:Nat} {L T:Int} (hk:KdOk K L T) (t:List UInt8):h1y t (K:Int) L T:=by
 intro hl h3 hne
 have hF:rdF t=false:=by
  cases h:rdF t with
  | false=>rfl
  | true=>rw [(j1b hl h).2.2.2] at h3; omega
 have hG:rdG t=false:=by
  cases h:rdG t with
  | false=>rfl
  | true=>rw [(n1x hl hF h).2.2.2.1] at h3; omega
 have hB:rkB t=true:=by
  cases h:rkB t with
  | true=>rfl
  | false=>rw [(h1i hl hF hG h).2.2.2] at h3; omega
 exact (c1f hk hl hB (f0o hl hF hG hB).2.2.2.1 hne).1
theorem t0v {t:List UInt8} {K L T:Int} (hl:t.length<=8192) (h:rkK t=3):n5F t K L T=if b8 (nD t)=[] then (rkN t,false,0,0,false,0) else if tvO K L T (nN t) (nE t) (nP t)=true then (false,false,0,0,false,15) else (rkN t,false,tvM K L T (nN t) (nE t) (nP t),tvE K L T (nN t) (nE t) (nP t),false,0):=by
 unfold n5F
 rw [a7 (by omega),a7 (by rw [h]; decide),a7 (by rw [h]; decide),a7 (by rw [h]; decide)]
theorem k1o (t:List UInt8):Ev.Pure zO8 J0 9 (T5 t) (pR6 ((paW t:Nat):Int) (paE t)):=by
 have hok:h1y t 53 (-1074) 1023:=x1o .d t
 by_cases hlong:8192 < t.length
 ·obtain⟨p1,p2,p3⟩:=k1a hlong
  have hn:n6 t=(false,false,0,0,false,2):=by show n5F t 53 (-1074) 1023=_; unfold n5F; rw [f9 hlong]
  have p:=i7 M8 10 [] [false,true] (v2r t) ⟨by rw [hn]; rfl,by rw [hn],hok,a6⟩
  rw [hn] at p
  unfold paW paE
  rw [f9 p1,f9 p1,p2,p3]
  exact p
 have hl:t.length<=8192:=by omega
 cases hF:rdF t with
 | true=>
  obtain⟨p1,p2,p3,p4⟩:=j1b hl hF
  have hn:n6 t=(false,false,0,0,true,0):=by show n5F t 53 (-1074) 1023=_; unfold n5F; rw [a7 hlong,p4]; rfl
  have p:=i7 M8 10 [] [true] (d3y t) ⟨by rw [hn],hok,a6⟩
  rw [hn] at p
  unfold paW paE
  rw [f9 p1,f9 p1,p2,p3]
  exact p
 | false=>
  cases hG:rdG t with
  | true=>
   obtain⟨p1,p2,p3,p4,p5⟩:=n1x hl hF hG
   have hn:n6 t=(Q9 t,true,0,0,false,0):=by show n5F t 53 (-1074) 1023=_; unfold n5F; rw [a7 hlong,p4,p5]; rfl
   have p:=i7 M8 10 [] [false,false] (z2n t) ⟨⟨by rw [hn]; exact T8 0,fun e=>by rw [hn] at e; cases e⟩,by rw [hn]; rfl,by rw [hn],hok,a6⟩
   rw [hn] at p
   unfold paW paE
   rw [f9 p1,f9 p1,p2,p3]
   have e:i2z (Q9 t) true (Int.toNat 0) 0=if Q9 t=true then 18442240474082181120 else 9218868437227405312:=by
    unfold i2z sgO
    cases Q9 t <;> rfl
   rw [<- e]
   exact p
  | false=>
   cases hB:rkB t with
   | false=>
    obtain⟨p1,p2,p3,p4⟩:=h1i hl hF hG hB
    have hn:n6 t=(false,false,0,0,false,3):=by show n5F t 53 (-1074) 1023=_; unfold n5F; rw [a7 hlong,p4]; rfl
    have p:=i7 M8 10 [] [false,true] (v2r t) ⟨by rw [hn]; rfl,by rw [hn],hok,a6⟩
    rw [hn] at p
    unfold paW paE
    rw [f9 p1,f9 p1,p2,p3]
    exact p
   | true=>
    obtain⟨p1,p2,p3,p4,p5,p6,p7,p8⟩:=f0o hl hF hG hB
    have hul:(o7 t).length<=8192:=by have:=P6 t; omega
    have hrb:f0b (o7 t)=true:=(i1g _).symm.trans hB
    obtain⟨w1,w2⟩:=p2z hul hrb
    have hZ:paZ t=0:=by unfold paZ; rw [p6,p7,p8]; exact w2
    have hX:paX t=(if b8 (y6 (o7 t))=[] then 0 else min (pkW 53 (-1074) (o7 t)) 9218868437227405312):=by unfold paX; rw [p6,p7,p8]; exact w1
    have hnB:¬paB t=true:=by rw [p1]; decide
    have hle:paX t<=9218868437227405312:=by
     rw [hX]
     split
     ·exact s6 _
     ·exact Nat.min_le_right _ _
    have hI:paI t=decide (9218868437227405312<=paX t):=by
     unfold paI
     rw [hZ]
     exact k2t hle
    have hD:nD t=y6 (o7 t):=by show (rbV (rkT t)).1=_; rw [p4]; exact (Y4 hul hrb).1
    have hW:paW t=if paI t=true then 0 else sgO (Q9 t)+paX t:=by
     unfold paW
     rw [a7 hnB,hZ,p5,d2g _ (D7 hle (by decide))]
     split
     ·rfl
     ·rw [a7 (by decide)]
    have hE:paE t=if paI t=true then 15 else 0:=by unfold paE; rw [a7 hnB,hZ]
    rw [hW,hE,hI]
    have hn:=t0v (t:=t) (K:=53) (L:= -1074) (T:=1023) hl p2
    rw [hD,p3] at hn
    by_cases h0:b8 (y6 (o7 t))=[]
    ·rw [f9 h0] at hn hX
     have hn:n6 t=(Q9 t,false,0,0,false,0):=hn
     have p:=i7 M8 10 [] [false,false] (z2n t) ⟨⟨by rw [hn]; exact T8 0,fun _=>by rw [hn]; exact .inl rfl⟩,by rw [hn]; rfl,by rw [hn],hok,a6⟩
     rw [hn] at p
     rw [hX,d8 (by decide),a7 (by decide),a7 (by decide)]
     exact p
    ·rw [a7 h0] at hn hX
     obtain⟨_,q2,q3⟩:=c1f (K:=53) .d hl hB p4 (by rw [hD]; exact h0)
     rw [b3k] at q2 q3
     by_cases hi:9218868437227405312<=pkW 53 (-1074) (o7 t)
     ·rw [show tvO 53 (-1074) 1023 (nN t) (nE t) (nP t)=true from q2.trans (i6 hi),f9 rfl] at hn
      have hn:n6 t=(false,false,0,0,false,15):=hn
      have p:=i7 M8 10 [] [false,true] (v2r t) ⟨by rw [hn]; rfl,by rw [hn],hok,a6⟩
      rw [hn] at p
      rw [hX,M2 hi,i6 (d9 _),f9 rfl,f9 rfl]
      exact p
     ·rw [show tvO 53 (-1074) 1023 (nN t) (nE t) (nP t)=false from q2.trans (d8 hi),a7 (by decide)] at hn
      obtain⟨m,m1,m2,m3,m4,m5,m6⟩:=q3 hi
      have m1:tvM 53 (-1074) 1023 (nN t) (nE t) (nP t)=(m:Int):=m1
      rw [m1] at hn
      have hX2:paX t=pkW 53 (-1074) (o7 t):=by rw [hX,C6 (by omega)]
      rw [hX2,d8 hi,a7 (by decide),a7 (by decide)]
      generalize hte:tvE ((53:Nat):Int) (-1074) 1023 (nN t) (nE t) (nP t)=e at*
      have hn:n6 t=(Q9 t,false,(m:Int),e,false,0):=hn
      rw [show (2:Nat) ^(53-1)=4503599627370496 by decide] at m2 m6
      rw [show (2:Nat) ^53=9007199254740992 by decide] at m3
      have hj:joK m e:= .inr ⟨m3,⟨m4,by omega⟩,m6⟩
      have p:=i7 M8 10 [] [false,false] (z2n t) ⟨⟨by rw [hn]; exact w7 m,fun _=>by rw [hn]; exact hj⟩,by rw [hn]; rfl,by rw [hn],hok,a6⟩
      rw [hn] at p
      have hv:i2z (Q9 t) false ((m:Int)).toNat e=sgO (Q9 t)+pkW 53 (-1074) (o7 t):=by
       show jnW (Q9 t) ((m:Int)).toNat e=_
       unfold jnW
       rw [g9,<- m2,show (e- -1074).toNat=(e+1074).toNat by omega]
       by_cases hm0:m=0
       ·have:e= -1074:=by omega
        rw [f9 hm0,hm0,this]
        rfl
       ·rw [a7 hm0]
      rw [<- hv]
      exact p
theorem c1g:(Ieee.double.order 0 0 !=some .eq)=false:=by decide+kernel
theorem h2w:(Ieee.double.order 9218868437227405312 9218868437227405312 !=some .eq)=false:=by decide+kernel
theorem g2q:(Ieee.double.order 18442240474082181120 18442240474082181120 !=some .eq)=false:=by decide+kernel
theorem d2l:(Ieee.double.order 9221120237041090560 9221120237041090560 !=some .eq)=true:=by decide+kernel
theorem q2q:smF 0=0:=by decide+kernel
theorem v2g:smF 9218868437227405312=2139095040:=by decide+kernel
theorem w2a:smF 18442240474082181120=4286578688:=by decide+kernel
theorem g0e {t:List UInt8} (h:paB t=true):m2x t∧smE t=rdE t∧smW t=(if (Ieee.double.order (rdO t) (rdO t) !=some .eq)=true then 2143289344 else smF (rdO t)):=by
 refine⟨fun e=>(by rw [h] at e; cases e),by unfold smE; rw [f9 h],?_⟩
 unfold smW
 rw [f9 h]
 rfl
theorem k2b {t:List UInt8} (hl:t.length<=8192) (hF:rdF t=false) (hG:rdG t=false) (hB:rkB t=true):
  m2x t∧smE t=(if 2139095040<=(if b8 (y6 (o7 t))=[] then 0 else pkW 24 (-149) (o7 t)) then 15 else 0)∧smW t=if 2139095040<=(if b8 (y6 (o7 t))=[] then 0 else pkW 24 (-149) (o7 t)) then 0 else if Q9 t=true then (if b8 (y6 (o7 t))=[] then 0 else pkW 24 (-149) (o7 t))+2147483648 else (if b8 (y6 (o7 t))=[] then 0 else pkW 24 (-149) (o7 t)):=by
 obtain⟨p1,p2,p3,p4,p5,p6,p7,p8⟩:=f0o hl hF hG hB
 have hul:(o7 t).length<=8192:=by have:=P6 t; omega
 have hrb:f0b (o7 t)=true:=(i1g _).symm.trans hB
 obtain⟨_,_,b3,b4,b5⟩:=Y4 hul hrb
 obtain⟨d1,d2⟩:=m1w (u:=o7 t)
 have hxr:=tR (o7 t)
 have hk:c2p (m0l t) (m0p t) (m0h t):=by
  rw [p6,p7,p8]
  refine⟨b5,⟨by omega,by omega⟩,?_⟩
  cases hH:D2 (o7 t) with
  | true=>rw [f9 rfl]; exact xB hH
  | false=>rw [a7 (by decide)]; exact (d2 hH).2
 have hX:smX t=nsX (D2 (o7 t)) (y6 (o7 t)) (R6 (o7 t)):=by unfold smX; rw [p6,p7,p8]
 rw [<- p5]
 refine v2q p1 hk (fun hlt=> ?_) (fun hge=> ?_)
 ·rw [hX]
  unfold nsX
  by_cases h0:b8 (y6 (o7 t))=[]
  ·rw [f9 h0,f9 h0,o0e]
   split
   ·rfl
   ·rw [<- G4,h0]
    show dbl (min (dcW 24 (-149) 0 _) _)=0
    rw [rU,xM,o0e]
  ·rw [a7 h0] at hlt
   rw [a7 h0,a7 h0]
   unfold pkW at hlt ⊢
   cases hH:D2 (o7 t) with
   | true=>
    rw [hH,f9 rfl] at hlt
    rw [f9 rfl,f9 rfl]
    obtain⟨c,r,e1,e2,e3,e4⟩:=c0t (d1 hH).2 h0
    exact (y1f (d1 hH).2 e1 e2 e3 e4).1 hlt
   | false=>
    have nf:¬(false=true):=by decide
    rw [hH,a7 nf] at hlt
    rw [a7 nf,a7 nf,C6 (K1 hlt)]
 ·unfold smG
  rw [hX]
  unfold nsX
  by_cases h0:b8 (y6 (o7 t))=[]
  ·rw [f9 h0] at hge
   omega
  ·rw [a7 h0] at hge
   rw [a7 h0]
   unfold pkW at hge
   cases hH:D2 (o7 t) with
   | true=>
    rw [hH,f9 rfl] at hge
    rw [f9 rfl]
    obtain⟨c,r,e1,e2,e3,e4⟩:=c0t (d1 hH).2 h0
    exact (y1f (d1 hH).2 e1 e2 e3 e4).2 hge
   | false=>
    have nf:¬(false=true):=by decide
    rw [hH,a7 nf] at hge
    rw [a7 nf,M2 hge,u0c]
    exact f1z (by decide) (d9 _)
theorem a0l (t:List UInt8):m2x t∧Ev.Pure zO8 J0 11 (T5 t) (pR3 ((smW t:Nat):Int) (smE t)):=by
 have hok:h1y t 24 (-149) 127:=x1o .s t
 by_cases hlong:8192 < t.length
 ·obtain⟨p1,p2,p3⟩:=k1a hlong
  obtain⟨s1,s2,s3⟩:=g0e p1
  have hn:n3' t=(false,false,0,0,false,2):=by show n5F t 24 (-149) 127=_; unfold n5F; rw [f9 hlong]
  have p:=i7 M8 10 [] [false,true] (a3o t) ⟨by rw [hn]; rfl,by rw [hn],hok,a6⟩
  rw [hn] at p
  refine⟨s1,?_⟩
  rw [s2,s3,p2,p3,c1g,a7 (by decide),q2q]
  exact p
 have hl:t.length<=8192:=by omega
 cases hF:rdF t with
 | true=>
  obtain⟨p1,p2,p3,p4⟩:=j1b hl hF
  obtain⟨s1,s2,s3⟩:=g0e p1
  have hn:n3' t=(false,false,0,0,true,0):=by show n5F t 24 (-149) 127=_; unfold n5F; rw [a7 hlong,p4]; rfl
  have p:=i7 M8 10 [] [true] (e3n t) ⟨by rw [hn],hok,a6⟩
  rw [hn] at p
  refine⟨s1,?_⟩
  rw [s2,s3,p2,p3,d2l,f9 rfl]
  exact p
 | false=>
  cases hG:rdG t with
  | true=>
   obtain⟨p1,p2,p3,p4,p5⟩:=n1x hl hF hG
   obtain⟨s1,s2,s3⟩:=g0e p1
   have hn:n3' t=(Q9 t,true,0,0,false,0):=by show n5F t 24 (-149) 127=_; unfold n5F; rw [a7 hlong,p4,p5]; rfl
   have p:=i7 M8 10 [] [false,false] (z2u t) ⟨⟨by rw [hn]; exact T8 0,fun e=>by rw [hn] at e; cases e⟩,by rw [hn]; rfl,by rw [hn],hok,a6⟩
   rw [hn] at p
   refine⟨s1,?_⟩
   have e:smW t=o1r (Q9 t) true (Int.toNat 0) 0:=by
    rw [s3,p2]
    unfold o1r sg3
    cases Q9 t with
    | true=>
     rw [show (if true=true then 18442240474082181120 else 9218868437227405312:Nat)=18442240474082181120 from rfl,g2q,a7 (by decide),w2a]
     rfl
    | false=>
     rw [show (if false=true then 18442240474082181120 else 9218868437227405312:Nat)=9218868437227405312 from rfl,h2w,a7 (by decide),v2g]
     rfl
   rw [s2,e,p3]
   exact p
  | false=>
   cases hB:rkB t with
   | false=>
    obtain⟨p1,p2,p3,p4⟩:=h1i hl hF hG hB
    obtain⟨s1,s2,s3⟩:=g0e p1
    have hn:n3' t=(false,false,0,0,false,3):=by show n5F t 24 (-149) 127=_; unfold n5F; rw [a7 hlong,p4]; rfl
    have p:=i7 M8 10 [] [false,true] (a3o t) ⟨by rw [hn]; rfl,by rw [hn],hok,a6⟩
    rw [hn] at p
    refine⟨s1,?_⟩
    rw [s2,s3,p2,p3,c1g,a7 (by decide),q2q]
    exact p
   | true=>
    obtain⟨s1,s2,s3⟩:=k2b hl hF hG hB
    refine⟨s1,?_⟩
    rw [s2,s3]
    obtain⟨p1,p2,p3,p4,p5,p6,p7,p8⟩:=f0o hl hF hG hB
    have hul:(o7 t).length<=8192:=by have:=P6 t; omega
    have hrb:f0b (o7 t)=true:=(i1g _).symm.trans hB
    have hD:nD t=y6 (o7 t):=by show (rbV (rkT t)).1=_; rw [p4]; exact (Y4 hul hrb).1
    have hn:=t0v (t:=t) (K:=24) (L:= -149) (T:=127) hl p2
    rw [hD,p3] at hn
    have hb:∀ (m:Nat) (e:Int),(m=0->(e+149).toNat=0)->((o1r (Q9 t) false ((m:Int)).toNat e:Nat):Int)=((if Q9 t=true then ((e+149).toNat*8388608+m)+2147483648 else ((e+149).toNat*8388608+m):Nat):Int):=by
     intro m e h
     have h1:(if m=0 then 0 else (e+149).toNat*8388608+m)=(e+149).toNat*8388608+m:=by
      by_cases h2:m=0
      ·rw [f9 h2,h h2,h2]
      ·rw [a7 h2]
     unfold o1r sg3
     rw [a7 (by decide),g9,h1]
     cases Q9 t with
     | true=>rw [f9 rfl,f9 rfl,g0x]
     | false=>
      have nf:¬(false=true):=by decide
      rw [a7 nf,a7 nf,I0]
    by_cases h0:b8 (y6 (o7 t))=[]
    ·rw [f9 h0] at hn
     have hn:n3' t=(Q9 t,false,0,0,false,0):=hn
     have p:=i7 M8 10 [] [false,false] (z2u t) ⟨⟨by rw [hn]; exact T8 0,fun _=>by rw [hn]; exact .inl rfl⟩,by rw [hn]; rfl,by rw [hn],hok,a6⟩
     rw [hn] at p
     have n2:¬(2139095040:Nat)<=0:=by decide
     rw [f9 h0,a7 n2,a7 n2]
     have e:o1r (Q9 t) false (Int.toNat 0) 0=if Q9 t=true then 0+2147483648 else 0:=by
      unfold o1r sg3
      cases Q9 t <;> rfl
     rw [<- e]
     exact p
    ·rw [a7 h0] at hn ⊢
     obtain⟨_,q2,q3⟩:=c1f (K:=24) .s hl hB p4 (by rw [hD]; exact h0)
     rw [b3v] at q2 q3
     by_cases hi:2139095040<=pkW 24 (-149) (o7 t)
     ·rw [show tvO 24 (-149) 127 (nN t) (nE t) (nP t)=true from q2.trans (i6 hi),f9 rfl] at hn
      have hn:n3' t=(false,false,0,0,false,15):=hn
      have p:=i7 M8 10 [] [false,true] (a3o t) ⟨by rw [hn]; rfl,by rw [hn],hok,a6⟩
      rw [hn] at p
      rw [f9 hi,f9 hi]
      exact p
     ·rw [show tvO 24 (-149) 127 (nN t) (nE t) (nP t)=false from q2.trans (d8 hi),a7 (by decide)] at hn
      obtain⟨m,m1,m2,m3,m4,m5,m6⟩:=q3 hi
      have m1:tvM 24 (-149) 127 (nN t) (nE t) (nP t)=(m:Int):=m1
      rw [m1] at hn
      rw [a7 hi,a7 hi]
      generalize hte:tvE ((24:Nat):Int) (-149) 127 (nN t) (nE t) (nP t)=e at*
      have hn:n3' t=(Q9 t,false,(m:Int),e,false,0):=hn
      rw [show (2:Nat) ^(24-1)=8388608 by decide] at m2 m6
      rw [show (2:Nat) ^24=16777216 by decide] at m3
      have he:(e- -149).toNat=(e+149).toNat:=by omega
      rw [he] at m2
      have hj:b3K (m:Int) e:= .inr ⟨by rw [g9]; exact m3,⟨m4,by omega⟩,by rw [g9]; exact m6⟩
      have p:=i7 M8 10 [] [false,false] (z2u t) ⟨⟨by rw [hn]; exact w7 m,fun _=>by rw [hn]; exact hj⟩,by rw [hn]; rfl,by rw [hn],hok,a6⟩
      rw [hn] at p
      rw [<- m2,<- hb m e (by omega)]
      exact p
def p0y:List Arg->Option (List Arg×List Prop)
 | [.c (.v (.string ⟨⟨t⟩⟩))] =>some ([xR (paW t),iR (paE t)],[])
 | _=>none
theorem y0j:∀ az rs l,p0y az=some (rs,l)->l5 l->Ev.Sem zO8 J0 8 az rs:=by
 intro az rs l h _
 unfold p0y at h
 split at h
 ·cases h
  exact l0r _
 ·cases h
def o0a:List Arg->Option (List Arg×List Prop)
 | [.c (.v (.string ⟨⟨t⟩⟩))] =>some ([yR (smW t),iR (smE t)],[])
 | _=>none
theorem w0n:∀ az rs l,o0a az=some (rs,l)->l5 l->Ev.Sem zO8 J0 10 az rs:=by
 intro az rs l h _
 unfold o0a at h
 split at h
 ·cases h
  exact d0a (a0l _).1
 ·cases h
def o1f:List Value->Option (Value×List Prop)
 | [.string ⟨⟨t⟩⟩] =>some (pR6 ((paW t:Nat):Int) (paE t),[])
 | _=>none
theorem c1v (args:List Value) (v:Value) (l:List Prop) (h:o1f args=some (v,l)) (_:l5 l):Ev.Pure zO8 J0 9 args v:=by
 unfold o1f at h
 split at h
 ·cases h; exact k1o _
 ·cases h
def l1a:List Value->Option (Value×List Prop)
 | [.string ⟨⟨t⟩⟩] =>some (pR3 ((smW t:Nat):Int) (smE t),[])
 | _=>none
theorem g1g (args:List Value) (v:Value) (l:List Prop) (h:l1a args=some (v,l)) (_:l5 l):Ev.Pure zO8 J0 11 args v:=by
 unfold l1a at h
 split at h
 ·cases h; exact (a0l _).2
 ·cases h
abbrev s2y:Prop:=Ev.Pure zO8 J0 7 [] (.bool true)
def z1b:Tab:=r6 7 (atS [([], .bool true)]) (r6 9 o1f (r6 11 l1a (r6 53 U1 (r6 13 aJ s2t))))
theorem g1c (ha:s2y):U6 zO8 J0 z1b:=i8 (R2 (fun p hp=>by simp only [zzA86,V2,U7] at hp; subst hp; exact ha)) (i8 c1v (i8 g1g (i8 W5 (i8 gG (n0h _ _)))))
def i1z:iV:=o8 8 (A3 [shV] p0y) (o8 10 (A3 [shV] o0a) I4)
theorem x0j:iS zO8 J0 i1z:=j0 (m9 _ y0j) (j0 (m9 _ w0n) (v6 _ _))
def bRq9:Base:=⟨zO8,J0,false,z1b,i1z,200,L7⟩
theorem b2r (ha:s2y):BaseOk bRq9:=⟨progOk,g1c ha,x0j,r5⟩
abbrev d3w:Cx:=bRq9.cx 10
def nrB (t:List UInt8):Bool:=match (match (match (match true with | true=>paE t==paE t | false=>false) with | true=>((paW t:Nat):Int)==((paW t:Nat):Int) | false=>false) with | true=>smE t==smE t | false=>false) with | true=>((smW t:Nat):Int)==((smW t:Nat):Int) | false=>false
theorem p2a (t:List UInt8) (r:Bool):B2 d3w [] 200 3 [.c (.v (.string ⟨⟨t⟩⟩))] [.c (.v (.bool r))] [] =some [zO9 (nrB t)=zO9 r] :=by kernel_rfl
theorem xP (ha:s2y) (t:List UInt8):Ev.Sem zO8 J0 3 [.c (.v (.string ⟨⟨t⟩⟩))] [.c (.v (.bool true))] :=by
 have h:nrB t=true:=by
  unfold nrB
  rw [iY,iY,iY,iY]
 exact l7 (b2r ha) 10 _ _ (p2a t true) ⟨by rw [h],a6⟩
theorem rE (ha:s2y):∀ s,Ev.Pure zO8 J0 3 [.string s] (.bool true):=by
 rintro ⟨⟨t⟩⟩
 obtain⟨he,h⟩:=xP ha t
 refine⟨rfl,rfl, .inl ⟨he,fun w hw=>(h w [.string ⟨⟨t⟩⟩] hw (.cons ⟨rfl,rfl⟩ .nil)).mono fun e w' ⟨us',he,hb,hc,_⟩=> ?_⟩⟩
 obtain⟨y,ys,rfl,hy,hnil⟩:=hc.cons_inv
 obtain rfl:=hnil.nil_inv
 obtain⟨rfl,_⟩:=hy
 exact⟨he,hb⟩
end Go.Proofs.YtkiejangmhhofaaGreatDoor
