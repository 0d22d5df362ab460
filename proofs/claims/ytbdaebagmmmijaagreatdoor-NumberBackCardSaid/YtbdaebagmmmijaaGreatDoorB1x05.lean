/-
 NumberBack: the whole text, the short text, the hexadecimal text and seventeen figures of any number are read as just that number; nine figures of a single are read as that single. No condition.
-/
import Derived.Test.YtbdaebagmmmijaaGreatDoorB1x04
import Derived.Shelf.Pu.Clone
import Derived.Shelf.Strconv.Itoa3
import Derived.Shelf.Strings.Repeat
import Derived.Lib.AppendIntMem
import Derived.Ground.MpProg
import Derived.Lib.ItoaLen
set_option maxRecDepth 1000000
open Int renaming ofNat->zO2
open Go.Value renaming int->zO3,float->zO4,bool->zO8
open List renaming replicate->zO6,take->zO9
open Go.Proofs.Tryz renaming prog->zO7
open BitVec renaming ofInt->zO10
open Go.Lib renaming decDigits->zO11
open Go.IntKind renaming i64->iI,u64->uI,u32->uJ
noncomputable section
namespace Go.Proofs
theorem zzA214:type_of%@List.length_pos_iff:=@List.length_pos_iff
theorem zzA215:type_of%@List.mem_reverse:=@List.mem_reverse
theorem zzA216:type_of%@bne_iff_ne:=@bne_iff_ne
theorem u0k:type_of%@Nat.eq_of_mul_eq_mul_right:=@Nat.eq_of_mul_eq_mul_right
theorem uQ:type_of%@Nat.zero_min:=@Nat.zero_min
theorem nR:type_of%@Nat.pos_of_ne_zero:=@Nat.pos_of_ne_zero
theorem zzA220:type_of%@Int.compare_eq_eq:=@Int.compare_eq_eq
theorem g0v:type_of%@Go.Lib.itoa_length_le:=@Go.Lib.itoa_length_le
theorem S4:type_of%@Nat.mul_left_comm:=@Nat.mul_left_comm
theorem A4:type_of%@Bool.false_ne_true:=@Bool.false_ne_true
end Go.Proofs
namespace Go.Proofs.YtbdaebagmmmijaaGreatDoor
open Go Go.RowKit Ev
abbrev pcV (h:Bool) (s:List UInt8) (e n:Int):Value:= .agg ⟨[.bool h, .string ⟨⟨s⟩⟩, .int .i64 e, .int .i64 n]⟩
def h0B (t:List UInt8):Bool:=match decide ((t.length:Int) > 1) with | true=>chI t 0==48 | false=>false
def hxB (t:List UInt8):Bool:=match h0B t with | true=>(match chI t 1==120 with | true=>true | false=>chI t 1==88) | false=>false
def hP1 (t:List UInt8):Prop:=F0 [(12,chI t 1==120),(8,h0B t),(3,decide ((t.length:Int) > 1))] [(12,false),(8,true)] ->(0:Int)<=1∧(1:Int).toNat < t.length
def hP2 (t:List UInt8):Prop:=F0 [(8,h0B t),(3,decide ((t.length:Int) > 1))] [(8,true)] ->(0:Int)<=1∧(1:Int).toNat < t.length
def hP3 (t:List UInt8):Prop:=F0 [(3,decide ((t.length:Int) > 1))] [(3,true)] ->(0:Int)<=0∧(0:Int).toNat < t.length
def maQ (t:List UInt8) (a:Nat):Prop:=t.length < 9223372036854775807∧zO2 0<=zO2 a∧a<=t.length
def exQ (t:List UInt8) (m:Nat):Prop:=t.length < 9223372036854775807∧2 < 4294967281∧zO2 0<=zO2 m
abbrev pP:List UInt8:=[112,80]
abbrev eE:List UInt8:=[101,69]
section
variable (t:List UInt8)
theorem k2n:b6 o2i [] 200 78 [.string ⟨⟨t⟩⟩] [true,true] =some (pcV true (maS t 2 16) (iI.wrap (exV t pP (maE t 2 16)-iI.wrap (zO2 4*maB t 2 16))) (exE t pP (maE t 2 16)),
 [exQ t (maE t 2 16),(!(maS t 2 16==([] :List UInt8)))=true,maQ t 2,hxB t=true,hP1 t,hP2 t,hP3 t]):=by kernel_rfl
theorem l2v:b6 o2i [] 200 78 [.string ⟨⟨t⟩⟩] [true,false,true] =some (pcV false [] 0 0,
 [(maS t 0 10==([] :List UInt8))=true,maQ t 0,(!(maS t 2 16==([] :List UInt8)))=false,maQ t 2,hxB t=true,hP1 t,hP2 t,hP3 t]):=by kernel_rfl
theorem m2f:b6 o2i [] 200 78 [.string ⟨⟨t⟩⟩] [true,false,false] =some (pcV false (maS t 0 10) (iI.wrap (exV t eE (maE t 0 10)-maB t 0 10)) (exE t eE (maE t 0 10)),
 [exQ t (maE t 0 10),(maS t 0 10==([] :List UInt8))=false,maQ t 0,(!(maS t 2 16==([] :List UInt8)))=false,maQ t 2,hxB t=true,hP1 t,hP2 t,hP3 t]):=by kernel_rfl
theorem s2q:b6 o2i [] 200 78 [.string ⟨⟨t⟩⟩] [false,true] =some (pcV false [] 0 0,
 [(maS t 0 10==([] :List UInt8))=true,maQ t 0,hxB t=false,hP1 t,hP2 t,hP3 t]):=by kernel_rfl
theorem w2j:b6 o2i [] 200 78 [.string ⟨⟨t⟩⟩] [false,false] =some (pcV false (maS t 0 10) (iI.wrap (exV t eE (maE t 0 10)-maB t 0 10)) (exE t eE (maE t 0 10)),
 [exQ t (maE t 0 10),(maS t 0 10==([] :List UInt8))=false,maQ t 0,hxB t=false,hP1 t,hP2 t,hP3 t]):=by kernel_rfl
end
def M3 (t:List UInt8):Bool:=hxB t && !(maS t 2 16==([] :List UInt8))
def aF (t:List UInt8):List UInt8:=if M3 t=true then maS t 2 16 else maS t 0 10
def eO (t:List UInt8):Int:=if M3 t=true then exV t pP (maE t 2 16)-4*maB t 2 16 else if maS t 0 10=[] then 0 else exV t eE (maE t 0 10)-maB t 0 10
def fA (t:List UInt8):Nat:=if M3 t=true then exE t pP (maE t 2 16) else if maS t 0 10=[] then 0 else exE t eE (maE t 0 10)
theorem jH (t L:List UInt8) (a:Nat): -1073741824<=exV t L a∧exV t L a<=1073741824:=by
 unfold exV
 split
 ·omega
 rename_i hh
 split
 ·omega
 have hlt:a < t.length:=by
  have hh:hdB t L a=false:=by simpa using hh
  unfold hdB at hh
  cases hg:geB t (a:Int) with
  | true=>rw [hg] at hh; cases hh
  | false=>
   have:¬((a:Int)>=(t.length:Int)):=L4 hg
   omega
 have hK:exK t a<=t.length:=by
  unfold exK
  split
  ·rename_i hs
   unfold sgB at hs
   cases hg:ltE t ((a+1:Nat):Int) with
   | false=>rw [hg] at hs; cases hs
   | true=>
    have:((a+1:Nat):Int) < (t.length:Int):=H8 hg
    omega
  ·omega
 obtain⟨_,_,r3,r4⟩:=kO t (t.length-exK t a) (exK t a) 0 (by omega) (by decide) (by decide)
 unfold exR
 split <;> omega
theorem vG {t:List UInt8} {a:Nat} {b:Int} (ha:a<=t.length):0<=maB t a b∧maB t a b<=(t.length:Int):=by
 obtain⟨r1,r2,r3,r4⟩:=c0s (b:=b) ha
 unfold maB
 split
 ·omega
 ·rcases r3 with r3 | r3 <;> omega
theorem s2w (t:List UInt8):hP1 t∧hP2 t∧hP3 t:=by
 have h8:h0B t=true->1 < t.length:=fun h=>by
  unfold h0B at h
  split at h
  ·rename_i hd
   have:=H8 hd
   omega
  ·cases h
 refine⟨fun hc=>⟨by decide,?_⟩,fun hc=>⟨by decide,?_⟩,fun hc=>⟨by decide,?_⟩⟩
 ·exact h8 (by simpa [F0,kvP] using hc.2)
 ·exact h8 (by simpa [F0,kvP] using hc)
 ·have:(t.length:Int) > 1:=by simpa [F0,kvP] using hc
  show 0 < t.length
  omega
theorem r0j {P:Program} {J:Ev.Inv P} {f:FuncId} {args:List Value} {h:Bool} {s:List UInt8} {e e' n:Int} (hp:Ev.Pure P J f args (pcV h s e n)) (he:e=e'):Ev.Pure P J f args (pcV h s e' n):=he ▸ hp
theorem d1w {t:List UInt8} (hl:t.length<=140737488351232):Ev.Pure zO7 J0 78 [.string ⟨⟨t⟩⟩] (pcV (M3 t) (aF t) (eO t) (fA t)):=by
 obtain⟨p1,p2,p3⟩:=s2w t
 have hl':t.length < 9223372036854775807:=by omega
 have q0:maQ t 0:=⟨hl',xY _,n6 _⟩
 have hx:∀ m,exQ t m:=fun m=>⟨hl',by decide,y9 _⟩
 have dec:∀ (hm:¬maS t 0 10=[]),iI.wrap (exV t eE (maE t 0 10)-maB t 0 10)=exV t eE (maE t 0 10)-maB t 0 10:=fun _=>by
  have a1:=jH t eE (maE t 0 10)
  have a2:=vG (t:=t) (b:=10) (n6 _)
  rw [wr (by omega) (by omega)]
 unfold aF eO fA
 cases hh:hxB t with
 | true=>
  have h2:2<=t.length:=by
   unfold hxB h0B at hh
   split at hh
   ·rename_i hd
    split at hd
    ·rename_i hd'
     have:=H8 hd'
     omega
    ·cases hd
   ·cases hh
  have q2:maQ t 2:=⟨hl',by decide,h2⟩
  cases hm:(maS t 2 16==([] :List UInt8)) with
  | false=>
   rw [show M3 t=true by unfold M3; rw [hh,hm]; rfl]
   simp only [J3]
   refine r0j (B8 uU (k2n t) ⟨hx _,by rw [hm]; rfl,q2,hh,p1,p2,p3,a7⟩) ?_
   have a1:=jH t pP (maE t 2 16)
   have a2:=vG (t:=t) (b:=16) h2
   rw [show (zO2 4:Int)=4 from rfl,wr (n:=4*maB t 2 16) (by omega) (by omega),wr (by omega) (by omega)]
  | true=>
   rw [show M3 t=false by unfold M3; rw [hh,hm]; rfl]
   simp only [P3,D7]
   by_cases hs:maS t 0 10=[]
   ·rw [b9 hs,b9 hs,hs]
    exact B8 uU (l2v t) ⟨by rw [hs]; rfl,q0,by rw [hm]; rfl,q2,hh,p1,p2,p3,a7⟩
   ·rw [a6 hs,a6 hs]
    exact r0j (B8 uU (m2f t) ⟨hx _,x8 hs,q0,by rw [hm]; rfl,q2,hh,p1,p2,p3,a7⟩) (dec hs)
 | false=>
  rw [show M3 t=false by unfold M3; rw [hh]; rfl]
  simp only [P3,D7]
  by_cases hs:maS t 0 10=[]
  ·rw [b9 hs,b9 hs,hs]
   exact B8 uU (s2q t) ⟨by rw [hs]; rfl,q0,hh,p1,p2,p3,a7⟩
  ·rw [a6 hs,a6 hs]
   exact r0j (B8 uU (w2j t) ⟨hx _,x8 hs,q0,hh,p1,p2,p3,a7⟩) (dec hs)
def qR:List Value->Option (Value×List Prop)
 | [.string ⟨⟨t⟩⟩] =>some (pcV (M3 t) (aF t) (eO t) (fA t),[t.length<=140737488351232])
 | _=>none
theorem sQ (args:List Value) (v:Value) (l:List Prop) (h:qR args=some (v,l)) (hl:d9 l):Ev.Pure zO7 J0 78 args v:=by
 unfold qR at h
 split at h
 ·cases h; exact d1w hl.1
 ·cases h
def h1j:Tab:=l5 78 qR o1z
theorem l0c:Q0 zO7 J0 h1j:=b7 sQ j0r
def bNb3:Base:=⟨zO7,J0,false,h1j,F4,2000,I6⟩
theorem i1v:BaseOk bNb3:=⟨progOk,l0c,n9 _ _,m0⟩
abbrev w2q:=bNb3.cx 12
def neB (t:List UInt8):Bool:= !(t==([] :List UInt8))
def spB (t:List UInt8):Bool:=match neB t with | true=>(match chI t 0==45 with | true=>true | false=>chI t 0==43) | false=>false
def s2d (t:List UInt8):Prop:=F0 [(6,chI t 0==45),(2,neB t)] [(6,false),(2,true)] ->(0:Int)<=0∧(0:Int).toNat < t.length
def s2z (t:List UInt8):Prop:=F0 [(2,neB t)] [(2,true)] ->(0:Int)<=0∧(0:Int).toNat < t.length
theorem a3a (t:List UInt8):b6 w2q [] 200 79 [.string ⟨⟨t⟩⟩] [true] =some (.tuple ⟨[.bool (chI t 0==45), .string ⟨⟨t.drop 1⟩⟩]⟩,[zO2 0<=zO2 1∧zO2 1<=zO2 t.length,zO2 0<=zO2 0∧0 < t.length,spB t=true,s2d t,s2z t]):=by kernel_rfl
theorem y2e (t:List UInt8):b6 w2q [] 200 79 [.string ⟨⟨t⟩⟩] [false] =some (.tuple ⟨[.bool false, .string ⟨⟨t⟩⟩]⟩,[spB t=false,s2d t,s2z t]):=by kernel_rfl
def wA (t:List UInt8):Bool:=spB t && (chI t 0==45)
def y7 (t:List UInt8):List UInt8:=if spB t=true then t.drop 1 else t
theorem p1f {t:List UInt8} (h:neB t=true):0 < t.length:=by
 cases t with
 | nil=>cases h
 | cons c r=>simp
theorem b1k (t:List UInt8):Ev.Pure zO7 J0 79 [.string ⟨⟨t⟩⟩] (.tuple ⟨[.bool (wA t), .string ⟨⟨y7 t⟩⟩]⟩):=by
 have p1:s2d t:=fun hc=>⟨by decide,p1f (by simpa [F0,kvP] using hc.2)⟩
 have p2:s2z t:=fun hc=>⟨by decide,p1f (by simpa [F0,kvP] using hc)⟩
 unfold wA y7
 cases hs:spB t with
 | true=>
  have h0:0 < t.length:=by
   unfold spB at hs
   cases hn:neB t with
   | true=>exact p1f hn
   | false=>rw [hn] at hs; cases hs
  simp only [J3,j2e]
  exact B8 i1v (a3a t) ⟨⟨by decide,zzA185.2 h0⟩,⟨xY _,h0⟩,hs,p1,p2,a7⟩
 | false=>
  simp only [P3,D7,Bool.false_and]
  exact B8 i1v (y2e t) ⟨hs,p1,p2,a7⟩
def kT:List Value->Option (Value×List Prop)
 | [.string ⟨⟨t⟩⟩] =>some (.tuple ⟨[.bool (wA t), .string ⟨⟨y7 t⟩⟩]⟩,[])
 | _=>none
theorem pO (args:List Value) (v:Value) (l:List Prop) (h:kT args=some (v,l)) (_:d9 l):Ev.Pure zO7 J0 79 args v:=by
 unfold kT at h
 split at h
 ·cases h; exact b1k _
 ·cases h
def n1m:Tab:=l5 79 kT h1j
theorem h0r:Q0 zO7 J0 n1m:=b7 pO l0c
def bNb4:Base:=⟨zO7,J0,false,n1m,F4,2000,I6⟩
theorem Z9:BaseOk bNb4:=⟨progOk,h0r,n9 _ _,m0⟩
abbrev n0v:=bNb4.cx 12
abbrev x1w:List UInt8:=[78,97,78]
abbrev w1v:List UInt8:=[73,110,102]
def rdT (neg:Bool) (p:Value) (o:Nat) (i:Bool) (e:Int):Value:= .tuple ⟨[.bool neg,p, .float .f64 o, .bool i, .int .i64 e]⟩
abbrev pc0:Value:=pcV false [] 0 0
abbrev pcT (t:List UInt8):Value:=pcV (M3 t) (aF t) (eO t) (fA t)
def w1n (t:List UInt8):Bool:=match (fA t:Int)==0 with | true=>true | false=>(fA t:Int) !=(t.length:Int)
section
variable (t:List UInt8)
theorem c2a:b6 n0v [] 200 37 [.string ⟨⟨t⟩⟩] [true] =some (rdT false pc0 0 false 2,[decide (zO2 8192 < zO2 t.length)=true]):=by kernel_rfl
theorem m2k:b6 n0v [] 200 37 [.string ⟨⟨t⟩⟩] [false,true] =some (rdT false pc0 9221120237041090560 true 0,[(t==x1w)=true,decide (zO2 8192 < zO2 t.length)=false]):=by kernel_rfl
theorem g2c:b6 n0v [] 200 37 [.string ⟨⟨t⟩⟩] [false,false,true,true] =some (rdT (wA t) pc0 18442240474082181120 true 0,[wA t=true,(y7 t==w1v)=true,(t==x1w)=false,decide (zO2 8192 < zO2 t.length)=false]):=by kernel_rfl
theorem h2z:b6 n0v [] 200 37 [.string ⟨⟨t⟩⟩] [false,false,true,false] =some (rdT (wA t) pc0 9218868437227405312 true 0,[wA t=false,(y7 t==w1v)=true,(t==x1w)=false,decide (zO2 8192 < zO2 t.length)=false]):=by kernel_rfl
theorem e2t:b6 n0v [] 200 37 [.string ⟨⟨t⟩⟩] [false,false,false,true] =some (rdT false (pcT (y7 t)) 0 false 3,[w1n (y7 t)=true,(y7 t).length<=140737488351232,(y7 t==w1v)=false,(t==x1w)=false,decide (zO2 8192 < zO2 t.length)=false]):=by kernel_rfl
theorem t2p:b6 n0v [] 200 37 [.string ⟨⟨t⟩⟩] [false,false,false,false] =some (rdT (wA t) (pcT (y7 t)) 0 false 0,[w1n (y7 t)=false,(y7 t).length<=140737488351232,(y7 t==w1v)=false,(t==x1w)=false,decide (zO2 8192 < zO2 t.length)=false]):=by kernel_rfl
end
def rdV (t:List UInt8):Value:=
 if 8192 < t.length then rdT false pc0 0 false 2
 else if t=x1w then rdT false pc0 9221120237041090560 true 0
 else if y7 t=w1v then rdT (wA t) pc0 (if wA t=true then 18442240474082181120 else 9218868437227405312) true 0
 else if w1n (y7 t)=true then rdT false (pcT (y7 t)) 0 false 3
 else rdT (wA t) (pcT (y7 t)) 0 false 0
theorem read_num (t:List UInt8):Ev.Pure zO7 J0 37 [.string ⟨⟨t⟩⟩] (rdV t):=by
 unfold rdV
 by_cases hl:8192 < t.length
 ·rw [b9 hl]
  exact B8 Z9 (c2a t) ⟨d4 (zzA186.2 hl),a7⟩
 rw [a6 hl]
 have hd:decide (zO2 8192 < zO2 t.length)=false:=b8 fun h=>hl (zzA186.1 h)
 by_cases hn:t=x1w
 ·rw [b9 hn]
  exact B8 Z9 (m2k t) ⟨by rw [hn]; exact jG _,hd,a7⟩
 rw [a6 hn]
 have hn':(t==x1w)=false:=x8 hn
 have hr:(y7 t).length<=140737488351232:=by
  unfold y7
  split
  ·rw [D5]; omega
  ·omega
 by_cases hi:y7 t=w1v
 ·rw [b9 hi]
  have hi':(y7 t==w1v)=true:=by rw [hi]; exact jG _
  cases hg:wA t with
  | true=>
   have:=B8 Z9 (g2c t) ⟨hg,hi',hn',hd,a7⟩
   rw [hg] at this
   exact this
  | false=>
   have:=B8 Z9 (h2z t) ⟨hg,hi',hn',hd,a7⟩
   rw [hg] at this
   exact this
 rw [a6 hi]
 have hi':(y7 t==w1v)=false:=x8 hi
 cases hf:w1n (y7 t) with
 | true=>
  simp only [J3]
  exact B8 Z9 (e2t t) ⟨hf,hr,hi',hn',hd,a7⟩
 | false=>
  simp only [P3,D7]
  exact B8 Z9 (t2p t) ⟨hf,hr,hi',hn',hd,a7⟩
def cTl:Code:=D3 zO7 133 0
def cTr:Code:=D3 zO7 120 0
def tTL (t:List UInt8):St:=⟨only 17 [(0, .string ⟨⟨t⟩⟩),(1, .int .u8 48)],J0.tabs,11,[],[],0,none,[],11⟩
def a2a (t:List UInt8):Bool:=decide ((t.length:Int) > 0)
def tlB (t:List UInt8):Bool:=match a2a t with | true=>chI t 0==48 | false=>false
def tlP (t:List UInt8):Prop:=F0 [(3,a2a t)] [(3,true)] ->(0:Int)<=0∧(0:Int).toNat < t.length
section
variable (t s:List UInt8)
theorem u2z (hl:d9 [zO2 0<=zO2 1∧zO2 1<=zO2 t.length,tlB t=true,tlP t]):u7 n0v cTl (tTL t) .normal (tTL (t.drop 1)):=
 stp Z9 12 progOk.mixed [true] [] (by kernel_rfl) hl
theorem y1w (hl:d9 [tlB t=false,tlP t]):u7 n0v cTl (tTL t) (.exit 0) (tTL t):=
 stp Z9 12 progOk.mixed [false] [] (by kernel_rfl) hl
theorem k2i:b6 n0v [X4 (.exit 0) (fun _=>tTL s)] 200 133 [.string ⟨⟨t⟩⟩, .int .u8 48] [] =some (.string ⟨⟨s⟩⟩,[d5 n0v cTl (u9 n0v 200 133 [.string ⟨⟨t⟩⟩, .int .u8 48] J0.tabs zO7.globals.size []) (.exit 0) (tTL s)]):=by kernel_rfl
theorem c2k {x:AX} {s':St} (h:d5 n0v cTl (tTL t) x s'):d5 n0v cTl (u9 n0v 200 133 [.string ⟨⟨t⟩⟩, .int .u8 48] J0.tabs zO7.globals.size []) x s':=
 m6 h []
end
def d3:List UInt8->List UInt8
 | [] =>[]
 | c ::r=>if c=48 then d3 r else c ::r
theorem w0n (c:UInt8) (r:List UInt8):(chI (c ::r) 0==48)=decide (c=48):=by
 by_cases h:c=48
 ·subst h; rfl
 ·rw [b8 h]
  refine x8 fun e=>h ?_
  have e:(c.toNat:Int)=48:=e
  exact zzA132.1 (show c.toNat=48 by omega)
theorem f1b (t:List UInt8):tlP t:=fun hc=>⟨by decide,by
 have:(t.length:Int) > 0:=by simpa [F0,kvP,a2a] using hc
 show 0 < t.length
 omega⟩
theorem d0d (t:List UInt8):d5 n0v cTl (tTL t) (.exit 0) (tTL (d3 t)):=by
 obtain⟨r,hr⟩:∃ r,d3 t=r:=⟨_,rfl⟩
 rw [hr]
 refine G3 (ι:=List UInt8) tTL List.length (fun s=>d3 s=r) (by intro e; cases e) (fun s hs=> ?_) t hr
 cases s with
 | nil=>
  refine .inr ?_
  have:r=[] :=hs.symm
  rw [this]
  exact y1w [] ⟨rfl,f1b _,a7⟩
 | cons c q=>
  have hp:a2a (c ::q)=true:=d4 (by simp only [u6]; omega)
  have hb:tlB (c ::q)=decide (c=48):=by unfold tlB; rw [hp,w0n]
  unfold d3 at hs
  by_cases h:c=48
  ·rw [b9 h] at hs
   exact .inl ⟨q,hs,by simp,u2z (c ::q) ⟨⟨by decide,zzA185.2 (by simp)⟩,by rw [hb]; exact d4 h,f1b _,a7⟩⟩
  ·rw [a6 h] at hs
   refine .inr ?_
   rw [<- hs]
   exact y1w (c ::q) ⟨by rw [hb]; exact b8 h,f1b _,a7⟩
theorem f0u (t:List UInt8):Ev.Pure zO7 J0 133 [.string ⟨⟨t⟩⟩, .int .u8 48] (.string ⟨⟨d3 t⟩⟩):=
 B8 Z9 (k2i t (d3 t)) ⟨c2k t (d0d t),a7⟩
def j1m:List Value->Option (Value×List Prop)
 | [.string ⟨⟨t⟩⟩, .int .u8 n] =>some (.string ⟨⟨d3 t⟩⟩,[n=48])
 | _=>none
theorem d1l (args:List Value) (v:Value) (l:List Prop) (h:j1m args=some (v,l)) (hl:d9 l):Ev.Pure zO7 J0 133 args v:=by
 unfold j1m at h
 split at h
 ·cases h
  obtain⟨rfl,_⟩:=hl
  exact f0u _
 ·cases h
def p1l:Tab:=l5 133 j1m n1m
theorem l0f:Q0 zO7 J0 p1l:=b7 d1l h0r
def bNb5:Base:=⟨zO7,J0,false,p1l,F4,2000,I6⟩
theorem uK:BaseOk bNb5:=⟨progOk,l0f,n9 _ _,m0⟩
abbrev c1u:=bNb5.cx 12
def tTR (t:List UInt8):St:=⟨only 23 [(0, .string ⟨⟨t⟩⟩),(1, .int .u8 48)],J0.tabs,11,[],[],0,none,[],11⟩
def bP (t:List UInt8):Int:=iI.wrap ((t.length:Int)-1)
def trB (t:List UInt8):Bool:=match a2a t with | true=>chI t (bP t)==48 | false=>false
def trP (t:List UInt8):Prop:=F0 [(3,a2a t)] [(3,true)] ->0<=bP t∧(bP t).toNat < t.length
def noB (t:List UInt8):Bool:=match t==([] :List UInt8) with | true=>true | false=>([48] :List UInt8)==[]
section
variable (t s:List UInt8)
theorem u2b (hl:d9 [zO2 0<=bP t∧bP t<=zO2 t.length,trB t=true,trP t]):u7 c1u cTr (tTR t) .normal (tTR (t.take (bP t).toNat)):=
 stp uK 12 progOk.mixed [true] [] (by kernel_rfl) hl
theorem y1k (hl:d9 [trB t=false,trP t]):u7 c1u cTr (tTR t) (.exit 0) (tTR t):=
 stp uK 12 progOk.mixed [false] [] (by kernel_rfl) hl
theorem n2g:b6 c1u [X4 (.exit 0) (fun _=>tTR s)] 200 120 [.string ⟨⟨t⟩⟩, .int .u8 48] [] =some (.string ⟨⟨s⟩⟩,[d5 c1u cTr (u9 c1u 200 120 [.string ⟨⟨t⟩⟩, .int .u8 48] J0.tabs zO7.globals.size []) (.exit 0) (tTR s)]):=by kernel_rfl
theorem a2x {x:AX} {s':St} (h:d5 c1u cTr (tTR t) x s'):d5 c1u cTr (u9 c1u 200 120 [.string ⟨⟨t⟩⟩, .int .u8 48] J0.tabs zO7.globals.size []) x s':=
 m6 h []
theorem v2v:b6 c1u [] 200 81 [.string ⟨⟨t⟩⟩, .string ⟨⟨[48]⟩⟩] [true] =some (.string ⟨⟨t⟩⟩,[noB t=true]):=by kernel_rfl
theorem s2p:b6 c1u [] 200 81 [.string ⟨⟨t⟩⟩, .string ⟨⟨[48]⟩⟩] [false,true] =some (.string ⟨⟨d3 t⟩⟩,[(48:Int)=48,zO2 0<=zO2 0∧0 < 1,true=true,(F0 [(3,true)] [(3,true)] ->(0:Int)<=0∧(0:Int).toNat < 1),noB t=false]):=by kernel_rfl
end
theorem o1x {t:List UInt8} :noB t=decide (t=[]):=by cases t <;> rfl
theorem g1u (t:List UInt8):Ev.Pure zO7 J0 81 [.string ⟨⟨t⟩⟩, .string ⟨⟨[48]⟩⟩] (.string ⟨⟨d3 t⟩⟩):=by
 by_cases h:t=[]
 ·subst h
  exact B8 uK (v2v []) ⟨rfl,a7⟩
 ·exact B8 uK (s2p t) ⟨rfl,⟨by decide,by decide⟩,rfl,fun _=>⟨by decide,by decide⟩,by rw [o1x,b8 h],a7⟩
def D2 (t:List UInt8):List UInt8:=(d3 t.reverse).reverse
theorem B4:∀ t:List UInt8,(d3 t).length<=t.length
 | [] =>d7 _
 | c ::r=>by
  have:=B4 r
  unfold d3
  split <;> simp only [u6] <;> omega
theorem wH {t:List UInt8} (hl:t.length<=9223372036854775807):d5 c1u cTr (tTR t) (.exit 0) (tTR (D2 t)):=by
 obtain⟨r,hr⟩:∃ r,D2 t=r:=⟨_,rfl⟩
 rw [hr]
 have key:d5 c1u cTr (tTR t.reverse.reverse) (.exit 0) (tTR r):=by
  refine G3 (ι:=List UInt8) (fun s=>tTR s.reverse) List.length (fun s=>s.length<=9223372036854775807∧(d3 s).reverse=r) (by intro e; cases e) (fun s hs=> ?_) t.reverse ⟨by rw [bQ]; exact hl,hr⟩
  obtain⟨h1,h2⟩:=hs
  cases s with
  | nil=>
   refine .inr ?_
   have:r=[] :=h2.symm
   rw [this]
   exact y1k [] ⟨rfl,fun hc=>by simp [F0,kvP,a2a] at hc,a7⟩
  | cons c q=>
   have hn:((c ::q).reverse).length=q.length+1:=by simp
   have hla:bP (c ::q).reverse=(q.length:Int):=by
    unfold bP
    rw [hn,wr (by omega) (by simp only [u6] at h1; omega)]
    omega
   have hp:a2a (c ::q).reverse=true:=d4 (by rw [hn]; omega)
   have hc:chI (c ::q).reverse (q.length:Int)=zO2 c.toNat:=by
    unfold chI
    rw [i8,a0b,List.getD,c1i (by simp)]
    simp
   have hb:trB (c ::q).reverse=decide (c=48):=by
    unfold trB
    rw [hp,hla]
    simp only
    rw [hc]
    exact w0n c []
   have hP:trP (c ::q).reverse:=fun _=>by rw [hla,hn,i8]; omega
   unfold d3 at h2
   by_cases h:c=48
   ·rw [b9 h] at h2
    refine .inl ⟨q,⟨by simp only [u6] at h1; omega,h2⟩,by simp,?_⟩
    have:=u2b (c ::q).reverse ⟨by rw [hla,hn]; exact⟨y9 _,zzA185.2 (by omega)⟩,by rw [hb]; exact d4 h,hP,a7⟩
    rw [hla,i8,a0b,show q.length=q.reverse.length by simp,fM] at this
    rw [a0b]
    exact this
   ·rw [a6 h] at h2
    refine .inr ?_
    rw [<- h2]
    exact y1k (c ::q).reverse ⟨by rw [hb]; exact b8 h,hP,a7⟩
 rw [List.reverse_reverse] at key
 exact key
theorem xD {t:List UInt8} (hl:t.length<=9223372036854775807):Ev.Pure zO7 J0 120 [.string ⟨⟨t⟩⟩, .int .u8 48] (.string ⟨⟨D2 t⟩⟩):=
 B8 uK (n2g t (D2 t)) ⟨a2x t (wH hl),a7⟩
def g1k:List Value->Option (Value×List Prop)
 | [.string ⟨⟨t⟩⟩, .int .u8 n] =>some (.string ⟨⟨D2 t⟩⟩,[n=48∧t.length<=9223372036854775807])
 | _=>none
theorem f1e (args:List Value) (v:Value) (l:List Prop) (h:g1k args=some (v,l)) (hl:d9 l):Ev.Pure zO7 J0 120 args v:=by
 unfold g1k at h
 split at h
 ·cases h
  obtain⟨⟨rfl,h2⟩,_⟩:=hl
  exact xD h2
 ·cases h
def h1u:Tab:=l5 120 g1k p1l
theorem l0e:Q0 zO7 J0 h1u:=b7 f1e l0f
def bNb6:Base:=⟨zO7,J0,false,h1u,F4,2000,I6⟩
theorem gA:BaseOk bNb6:=⟨progOk,l0e,n9 _ _,m0⟩
abbrev s0x:=bNb6.cx 12
theorem s2v (t:List UInt8):b6 s0x [] 200 69 [.string ⟨⟨t⟩⟩, .string ⟨⟨[48]⟩⟩] [true] =some (.string ⟨⟨t⟩⟩,[noB t=true]):=by kernel_rfl
theorem u2l (t:List UInt8):b6 s0x [] 200 69 [.string ⟨⟨t⟩⟩, .string ⟨⟨[48]⟩⟩] [false,true] =some (.string ⟨⟨D2 t⟩⟩,[(48:Int)=48∧t.length<=9223372036854775807,zO2 0<=zO2 0∧0 < 1,true=true,(F0 [(3,true)] [(3,true)] ->(0:Int)<=0∧(0:Int).toNat < 1),noB t=false]):=by kernel_rfl
theorem a1u {t:List UInt8} (hl:t.length<=9223372036854775807):Ev.Pure zO7 J0 69 [.string ⟨⟨t⟩⟩, .string ⟨⟨[48]⟩⟩] (.string ⟨⟨D2 t⟩⟩):=by
 by_cases h:t=[]
 ·subst h
  exact B8 gA (s2v []) ⟨rfl,a7⟩
 ·exact B8 gA (u2l t) ⟨⟨rfl,hl⟩,⟨by decide,by decide⟩,rfl,fun _=>⟨by decide,by decide⟩,by rw [o1x,b8 h],a7⟩
def cDn:Code:=D3 zO7 44 0
def tDn (t:List UInt8) (i:Int):St:=⟨only 20 [(0, .string ⟨⟨t⟩⟩),(5, .int .i64 t.length),(6, .int .i64 i)],J0.tabs,11,[],[],0,none,[],11⟩
def tDr:St:=⟨only 20 [(2, .bool false)],J0.tabs,11,[],[],0,none,[],11⟩
def ndB (t:List UInt8) (i:Nat):Bool:=match decide (chI t i < 48) with | true=>true | false=>decide (chI t i > 57)
def ndP (t:List UInt8) (i:Nat):Prop:=F0 [(4,decide (chI t i < 48))] [(4,false)] ->(0:Int)<=i∧(i:Int).toNat < t.length
section
variable (t:List UInt8) (i:Nat)
theorem t2y (hl:d9 [ndB t i=false,ndP t i,zO2 0<=zO2 i∧i < t.length,decide (zO2 i < zO2 t.length)=true]):u7 s0x cDn (tDn t (i:Int)) .normal (tDn t (iI.wrap ((i:Int)+1))):=
 stp gA 12 progOk.mixed [true,false] [] (by kernel_rfl) hl
theorem m2h (hl:d9 [ndB t i=true,ndP t i,zO2 0<=zO2 i∧i < t.length,decide (zO2 i < zO2 t.length)=true]):u7 s0x cDn (tDn t (i:Int)) .ret tDr:=
 stp gA 12 progOk.mixed [true,true] [] (by kernel_rfl) hl
theorem m2i (hl:d9 [decide (zO2 i < zO2 t.length)=false]):u7 s0x cDn (tDn t (i:Int)) (.exit 0) (tDn t (i:Int)):=
 stp gA 12 progOk.mixed [false] [] (by kernel_rfl) hl
theorem o2p:b6 s0x [X4 (.exit 0) (fun _=>tDn t (i:Int))] 200 44 [.string ⟨⟨t⟩⟩] [] =some (.bool true,[d5 s0x cDn (u9 s0x 200 44 [.string ⟨⟨t⟩⟩] J0.tabs zO7.globals.size []) (.exit 0) (tDn t (i:Int))]):=by kernel_rfl
theorem w2e:b6 s0x [X4 .ret (fun _=>tDr)] 200 44 [.string ⟨⟨t⟩⟩] [] =some (.bool false,[d5 s0x cDn (u9 s0x 200 44 [.string ⟨⟨t⟩⟩] J0.tabs zO7.globals.size []) .ret tDr]):=by kernel_rfl
theorem h1n {x:AX} {s':St} (h:d5 s0x cDn (tDn t ((0:Nat):Int)) x s'):d5 s0x cDn (u9 s0x 200 44 [.string ⟨⟨t⟩⟩] J0.tabs zO7.globals.size []) x s':=
 m6 h []
end
theorem v0m (p:Nat->Bool):∀ n,(∀ i,i < n->p i=false)∨∃ k,k < n∧p k=true∧∀ i,i < k->p i=false
 | 0=> .inl fun i hi=>by omega
 | n+1=>by
  rcases v0m p n with h | ⟨k,h1,h2,h3⟩
  ·cases hb:p n with
   | true=>exact .inr ⟨n,by omega,hb,h⟩
   | false=>
    refine .inl fun i hi=> ?_
    rcases Nat.lt_succ_iff_lt_or_eq.1 hi with h' | rfl
    ·exact h i h'
    ·exact hb
  ·exact .inr ⟨k,by omega,h2,h3⟩
def n8 (t:List UInt8):Bool:=(List.range t.length).all fun i=> !ndB t i
theorem n0u {t:List UInt8} (ht:t.length<=9223372036854775807):Ev.Pure zO7 J0 44 [.string ⟨⟨t⟩⟩] (.bool (n8 t)):=by
 have hP:∀ i,i < t.length->ndP t i:=fun i hi _=>⟨y9 _,by rw [i8]; exact hi⟩
 have go:∀ k,k<=t.length->(∀ i,i < k->ndB t i=false)->∀ i,i < k->u7 s0x cDn (tDn t (i:Int)) .normal (tDn t ((i+1:Nat):Int)):=fun k hk h i hi=>by
  have:=t2y t i ⟨h i hi,hP i (by omega),⟨y9 _,by omega⟩,d4 (zzA186.2 (by omega)),a7⟩
  rw [show iI.wrap ((i:Int)+1)=((i+1:Nat):Int) by rw [wr (by omega) (by omega)]; omega] at this
  exact this
 rcases v0m (ndB t) t.length with h | ⟨k,h1,h2,h3⟩
 ·rw [show n8 t=true by
   unfold n8
   rw [zzA10]
   intro i hi
   rw [h i (zzA124.1 hi)]
   rfl]
  exact B8 gA (o2p t t.length) ⟨h1n t (A8 (fun i=>tDn t (i:Int)) t.length (by intro e; cases e) (go _ (d7 _) h) (m2i t _ ⟨b8 (kD _),a7⟩)),a7⟩
 ·rw [show n8 t=false by
   unfold n8
   rw [List.all_eq_false]
   exact⟨k,zzA124.2 h1,by rw [h2]; simp⟩]
  exact B8 gA (w2e t) ⟨h1n t (A8 (fun i=>tDn t (i:Int)) k (by intro e; cases e) (go _ (by omega) h3) (m2h t k ⟨h2,hP k h1,⟨y9 _,h1⟩,d4 (zzA186.2 h1),a7⟩)),a7⟩
end Go.Proofs.YtbdaebagmmmijaaGreatDoor
namespace Go.Proofs
def gE:Go.Shelf.Ren:=⟨fun | 25=>141 | n=>n,fun | 9=>9 | 3=>3 | 4=>4 | 37=>22 | 0=>0 | 47=>203 | 5=>5 | n=>n,fun | n=>n⟩
theorem tK:Go.Proofs.LaysPu.n25 zO7 gE where
 mixed:=by kernel_rfl
 f25:=Tryz.func141.trans (H5 some (by kernel_rfl))
 t0:=Tryz.underlying0
 a0:=Tryz.isAgg0
 z0:=Tryz.sizeOf0
 v0:=Tryz.zeroValue0
 i0:=by kernel_rfl
 t3:=Tryz.underlying3
 a3:=Tryz.isAgg3
 z3:=Tryz.sizeOf3
 v3:=Tryz.zeroValue3
 i3:=by kernel_rfl
 t4:=Tryz.underlying4
 a4:=Tryz.isAgg4
 z4:=Tryz.sizeOf4
 v4:=Tryz.zeroValue4
 i4:=by kernel_rfl
 t5:=Tryz.underlying5
 a5:=Tryz.isAgg5
 z5:=Tryz.sizeOf5
 v5:=Tryz.zeroValue5
 i5:=by kernel_rfl
 t9:=Tryz.underlying9
 a9:=Tryz.isAgg9
 z9:=Tryz.sizeOf9
 v9:=Tryz.zeroValue9
 i9:=by kernel_rfl
 t37:=Tryz.underlying22
 a37:=Tryz.isAgg22
 z37:=Tryz.sizeOf22
 v37:=Tryz.zeroValue22
 i37:=by kernel_rfl
 t47:=Tryz.underlying203
 a47:=Tryz.isAgg203
 z47:=Tryz.sizeOf203
 v47:=Tryz.zeroValue203
 i47:=by kernel_rfl
namespace YtbdaebagmmmijaaGreatDoor
open Go Go.RowKit Ev
def vQ:List Value->Option (Value×List Prop)
 | [.string ⟨⟨t⟩⟩] =>some (.string ⟨⟨t⟩⟩,[t.length<=281474976710656])
 | _=>none
theorem m0r (args:List Value) (v:Value) (l:List Prop) (h:vQ args=some (v,l)) (hl:d9 l):Ev.Pure zO7 J0 141 args v:=by
 unfold vQ at h
 split at h
 ·rename_i t
  cases h
  refine⟨rfl,rfl, .inl ⟨enters_of Tryz.func141 (by kernel_rfl) (c:=_) rfl,fun w _=> ?_⟩⟩
  exact AnyPu.stringslite_Clone tK ⟨⟨t⟩⟩ w hl.1
 ·cases h
end YtbdaebagmmmijaaGreatDoor
end Go.Proofs
namespace Go.Proofs.YtbdaebagmmmijaaGreatDoor
open Go Go.RowKit Ev
def x0y:List Value->Option (Value×List Prop)
 | [.string ⟨⟨t⟩⟩, .string ⟨⟨[c]⟩⟩] =>some (.string ⟨⟨d3 t⟩⟩,[c=48])
 | _=>none
theorem m0h (args:List Value) (v:Value) (l:List Prop) (h:x0y args=some (v,l)) (hl:d9 l):Ev.Pure zO7 J0 81 args v:=by
 unfold x0y at h
 split at h
 ·cases h
  obtain⟨rfl,_⟩:=hl
  exact g1u _
 ·cases h
def x0p:List Value->Option (Value×List Prop)
 | [.string ⟨⟨t⟩⟩, .string ⟨⟨[c]⟩⟩] =>some (.string ⟨⟨D2 t⟩⟩,[c=48∧t.length<=9223372036854775807])
 | _=>none
theorem i0t (args:List Value) (v:Value) (l:List Prop) (h:x0p args=some (v,l)) (hl:d9 l):Ev.Pure zO7 J0 69 args v:=by
 unfold x0p at h
 split at h
 ·cases h
  obtain⟨⟨rfl,h2⟩,_⟩:=hl
  exact a1u h2
 ·cases h
def e1t:List Value->Option (Value×List Prop)
 | [.string ⟨⟨t⟩⟩] =>some (.bool (n8 t),[t.length<=9223372036854775807])
 | _=>none
theorem f1y (args:List Value) (v:Value) (l:List Prop) (h:e1t args=some (v,l)) (hl:d9 l):Ev.Pure zO7 J0 44 args v:=by
 unfold e1t at h
 split at h
 ·cases h; exact n0u hl.1
 ·cases h
def l1l:Tab:=l5 141 vQ (l5 81 x0y (l5 69 x0p (l5 44 e1t h1u)))
theorem k0v:Q0 zO7 J0 l1l:=b7 m0r (b7 m0h (b7 i0t (b7 f1y l0e)))
def bNb7:Base:=⟨zO7,J0,false,l1l,F4,2000,I6⟩
theorem f0z:BaseOk bNb7:=⟨progOk,k0v,n9 _ _,m0⟩
abbrev r2l:=bNb7.cx 12
def mdS (t:List UInt8):List UInt8:=D2 (d3 t)
def mdW (t:List UInt8):Int:=iI.wrap (((d3 t).length:Int)- ((mdS t).length:Int))
def mdR (t:List UInt8) (x:Int):Bool:=match decide (x > iI.wrap (20000-mdW t)) with | true=>true | false=>decide (x < iI.wrap (-20000-mdW t))
abbrev dcV (g:Bool) (s:List UInt8) (x:Int):Value:= .agg ⟨[.bool g, .string ⟨⟨s⟩⟩, .int .i64 x]⟩
section
variable (g:Bool) (t:List UInt8) (x:Int)
theorem v2s:b6 r2l [] 200 45 [.bool g, .string ⟨⟨t⟩⟩, .int .i64 x] [true] =some (.tuple ⟨[dcV false [] 0, .int .i64 0]⟩,[(d3 t==([] :List UInt8))=true,(48:UInt8)=48]):=by kernel_rfl
theorem f2p:b6 r2l [] 200 45 [.bool g, .string ⟨⟨t⟩⟩, .int .i64 x] [false,true] =some (.tuple ⟨[dcV false [] 0, .int .i64 12]⟩,[decide (zO2 8192 < zO2 (mdS t).length)=true,(48:UInt8)=48∧(d3 t).length<=9223372036854775807,(d3 t==([] :List UInt8))=false,(48:UInt8)=48]):=by kernel_rfl
theorem u1r:b6 r2l [] 200 45 [.bool g, .string ⟨⟨t⟩⟩, .int .i64 x] [false,false,true] =some (.tuple ⟨[dcV false [] 0, .int .i64 11]⟩,[mdR t x=true,decide (zO2 8192 < zO2 (mdS t).length)=false,(48:UInt8)=48∧(d3 t).length<=9223372036854775807,(d3 t==([] :List UInt8))=false,(48:UInt8)=48]):=by kernel_rfl
theorem u2k:b6 r2l [] 200 45 [.bool g, .string ⟨⟨t⟩⟩, .int .i64 x] [false,false,false] =some (.tuple ⟨[dcV g (mdS t) (iI.wrap (x+mdW t)), .int .i64 0]⟩,[(mdS t).length<=281474976710656,mdR t x=false,decide (zO2 8192 < zO2 (mdS t).length)=false,(48:UInt8)=48∧(d3 t).length<=9223372036854775807,(d3 t==([] :List UInt8))=false,(48:UInt8)=48]):=by kernel_rfl
end
def mdB (t:List UInt8):Int:=((d3 t).length:Int)- ((mdS t).length:Int)
def mdE (t:List UInt8) (x:Int):Int:=if d3 t=[] then 0 else if 8192 < (mdS t).length then 12 else if 20000-mdB t < x∨x < -20000-mdB t then 11 else 0
def mdI (t:List UInt8) (x:Int):Bool:=decide (d3 t≠[]) && decide (mdE t x=0)
def mdN (g:Bool) (t:List UInt8) (x:Int):Bool:=if mdI t x=true then g else false
def mdD (t:List UInt8) (x:Int):List UInt8:=if mdI t x=true then mdS t else []
def mdX (t:List UInt8) (x:Int):Int:=if mdI t x=true then x+mdB t else 0
abbrev mdV (g:Bool) (t:List UInt8) (x:Int):Value:= .tuple ⟨[dcV (mdN g t x) (mdD t x) (mdX t x), .int .i64 (mdE t x)]⟩
theorem W8 {t:List UInt8} :0<=mdB t∧mdB t<=(t.length:Int)∧(mdS t).length<=t.length:=by
 have h1:=B4 t
 have h2:=B4 (d3 t).reverse
 rw [bQ] at h2
 have h3:(mdS t).length=(d3 (d3 t).reverse).length:=by unfold mdS D2; rw [bQ]
 unfold mdB
 omega
theorem l1t {g:Bool} {t:List UInt8} {x:Int} (h:mdI t x=false) {e:Int} (he:mdE t x=e):mdV g t x= .tuple ⟨[dcV false [] 0, .int .i64 e]⟩:=by
 unfold mdV mdN mdD mdX
 rw [h,he]
 rfl
theorem o1h {g:Bool} {t:List UInt8} {x:Int} (hl:t.length<=140737488351232):Ev.Pure zO7 J0 45 [.bool g, .string ⟨⟨t⟩⟩, .int .i64 x] (mdV g t x):=by
 obtain⟨b0,b1,b2⟩:=W8 (t:=t)
 have h1:=B4 t
 by_cases hn:d3 t=[]
 ·have hE:mdE t x=0:=by unfold mdE; rw [b9 hn]
  rw [l1t (by unfold mdI; rw [b8 (by simpa using hn)]; rfl) hE]
  exact B8 f0z (v2s g t x) ⟨by rw [hn]; rfl,rfl,a7⟩
 have hn':(d3 t==([] :List UInt8))=false:=x8 hn
 have q:(48:UInt8)=48∧(d3 t).length<=9223372036854775807:=⟨rfl,by omega⟩
 by_cases hr:8192 < (mdS t).length
 ·have hE:mdE t x=12:=by unfold mdE; rw [a6 hn,b9 hr]
  rw [l1t (by unfold mdI; rw [hE]; simp) hE]
  exact B8 f0z (f2p g t x) ⟨d4 (zzA186.2 hr),q,hn',rfl,a7⟩
 have hr':decide (zO2 8192 < zO2 (mdS t).length)=false:=b8 fun h=>hr (zzA186.1 h)
 have hW:mdW t=mdB t:=by unfold mdW; exact wr (by unfold mdB at b0; omega) (by unfold mdB at b1; omega)
 have hR:mdR t x=decide (20000-mdB t < x∨x < -20000-mdB t):=by
  unfold mdR
  rw [hW,wr (by omega) (by omega),wr (by omega) (by omega)]
  by_cases ha:20000-mdB t < x
  ·rw [d4 (show x > 20000-mdB t from ha),show decide (20000-mdB t < x∨x < -20000-mdB t)=true from d4 (Or.inl ha)]
  ·rw [b8 (show ¬x > 20000-mdB t from ha)]
   by_cases hb:x < -20000-mdB t
   ·simp [hb]
   ·simp [ha,hb]
 by_cases hx:20000-mdB t < x∨x < -20000-mdB t
 ·have hE:mdE t x=11:=by unfold mdE; rw [a6 hn,a6 hr,b9 hx]
  rw [l1t (by unfold mdI; rw [hE]; simp) hE]
  exact B8 f0z (u1r g t x) ⟨by rw [hR]; exact d4 hx,hr',q,hn',rfl,a7⟩
 ·have hE:mdE t x=0:=by unfold mdE; rw [a6 hn,a6 hr,a6 hx]
  have hI:mdI t x=true:=by unfold mdI; rw [hE,d4 (by simpa using hn)]; rfl
  have:=B8 f0z (u2k g t x) ⟨by omega,by rw [hR]; exact b8 hx,hr',q,hn',rfl,a7⟩
  rw [hW,wr (by omega) (by omega)] at this
  unfold mdV mdN mdD mdX
  rw [hI,hE]
  exact this
def d0c:List Value->Option (Value×List Prop)
 | [.bool g, .string ⟨⟨t⟩⟩, .int .i64 x] =>some (mdV g t x,[t.length<=140737488351232])
 | _=>none
theorem zB (args:List Value) (v:Value) (l:List Prop) (h:d0c args=some (v,l)) (hl:d9 l):Ev.Pure zO7 J0 45 args v:=by
 unfold d0c at h
 split at h
 ·cases h; exact o1h hl.1
 ·cases h
def a2h:Tab:=l5 45 d0c l1l
theorem m1c:Q0 zO7 J0 a2h:=b7 zB k0v
def bNb8:Base:=⟨zO7,J0,false,a2h,F4,2000,I6⟩
theorem c0m:BaseOk bNb8:=⟨progOk,m1c,n9 _ _,m0⟩
abbrev r2h:=bNb8.cx 12
theorem u2u (g:Bool) (t:List UInt8) (x:Int):b6 r2h [] 200 12 [.bool g, .string ⟨⟨t⟩⟩, .int .i64 x] [true] =some (.tuple ⟨[dcV false [] 0, .int .i64 3]⟩,[(!n8 t)=true,t.length<=9223372036854775807]):=by kernel_rfl
theorem u2g (g:Bool) (t:List UInt8) (x:Int):b6 r2h [] 200 12 [.bool g, .string ⟨⟨t⟩⟩, .int .i64 x] [false] =some (mdV g t x,[t.length<=140737488351232,(!n8 t)=false,t.length<=9223372036854775807]):=by kernel_rfl
theorem m1x {g:Bool} {t:List UInt8} {x:Int} (hl:t.length<=140737488351232):Ev.Pure zO7 J0 12 [.bool g, .string ⟨⟨t⟩⟩, .int .i64 x] (if n8 t=true then mdV g t x else .tuple ⟨[dcV false [] 0, .int .i64 3]⟩):=by
 cases h:n8 t with
 | true=>
  simp only [J3]
  exact B8 c0m (u2g g t x) ⟨hl,by rw [h]; rfl,by omega,a7⟩
 | false=>
  simp only [P3,D7]
  exact B8 c0m (u2u g t x) ⟨by rw [h]; rfl,by omega,a7⟩
def v1B (t:List UInt8):Bool:=decide ((t.length:Int)<=8192)
def v2B (t:List UInt8):Bool:=match v1B t with | true=>n8 t | false=>false
def v3B (t:List UInt8):Bool:=match v2B t with | true=>chI t 0 !=48 | false=>false
def vaB (t:List UInt8) (x:Int):Bool:=match match match v3B t with | true=>chI t (bP t) !=48 | false=>false with | true=>decide (x>=-20000) | false=>false with | true=>decide (x<=20000) | false=>false
def y2y (t:List UInt8):Prop:=F0 [(13,v3B t),(7,v2B t),(2,v1B t)] [(13,true)] ->0<=bP t∧(bP t).toNat < t.length
def a3l (t:List UInt8):Prop:=F0 [(7,v2B t),(2,v1B t)] [(7,true)] ->(0:Int)<=0∧(0:Int).toNat < t.length
def z2e (t:List UInt8):Prop:=F0 [(2,v1B t)] [(2,true)] ->t.length<=9223372036854775807
section
variable (g:Bool) (t:List UInt8) (x:Int)
theorem v2r:b6 r2h [] 200 94 [dcV g t x] [true] =some (.bool (g==false && (t==([] :List UInt8) && (x==zO2 0 && true))),[(t==([] :List UInt8))=true]):=by kernel_rfl
theorem u2s:b6 r2h [] 200 94 [dcV g t x] [false] =some (.bool (vaB t x),[y2y t,a3l t,z2e t,(t==([] :List UInt8))=false]):=by kernel_rfl
end
def G4 (g:Bool) (t:List UInt8) (x:Int):Bool:=if t=[] then g==false && x==0 else vaB t x
theorem b0w {g:Bool} {t:List UInt8} {x:Int} (hl:t.length<=9223372036854775807):Ev.Pure zO7 J0 94 [dcV g t x] (.bool (G4 g t x)):=by
 unfold G4
 by_cases h:t=[]
 ·rw [b9 h]
  subst h
  have:=B8 c0m (v2r g [] x) ⟨rfl,a7⟩
  rw [show (g==false && (([] :List UInt8)==[] && (x==zO2 0 && true)))=(g==false && x==0) by
   rw [show (([] :List UInt8)==[])=true from rfl,j2e,k0e]; rfl] at this
  exact this
 ·rw [a6 h]
  have hp:0 < t.length:=zzA214.2 h
  have hla:bP t=((t.length-1:Nat):Int):=by unfold bP; rw [wr (by omega) (by omega)]; omega
  exact B8 c0m (u2s g t x) ⟨fun _=>by rw [hla,i8]; omega,fun _=>⟨by decide,hp⟩,fun _=>hl,x8 h,a7⟩
def dM:List Value->Option (Value×List Prop)
 | [.agg ⟨[.bool g, .string ⟨⟨t⟩⟩, .int .i64 x]⟩] =>some (.bool (G4 g t x),[t.length<=9223372036854775807])
 | _=>none
theorem jU (args:List Value) (v:Value) (l:List Prop) (h:dM args=some (v,l)) (hl:d9 l):Ev.Pure zO7 J0 94 args v:=by
 unfold dM at h
 split at h
 ·cases h; exact b0w hl.1
 ·cases h
open Go Go.RowKit Ev Wd VaS
def p1g:List Arg->Option (List Arg×List Prop)
 | [.c (.v (.agg ⟨[.bool n1, .string ⟨⟨d1⟩⟩, .int .i64 e1]⟩)), .c (.v (.agg ⟨[.bool n2, .string ⟨⟨d2⟩⟩, .int .i64 e2]⟩))] =>some ([vlA (n1 !=n2) false (ws W64 (qtN d1 (e1-e2))) false (ws W64 (qtD d2 (e1-e2)))],[T6 d1∧T6 d2∧d1.length<=100000∧d2.length<=100000∧(-1000000<=e1-e2∧e1-e2<=1000000)∧(-1000<=(d1.length:Int)-d2.length+(e1-e2)∧(d1.length:Int)-d2.length+(e1-e2)<=1000)])
 | _=>none
theorem h1k:∀ az rs l,p1g az=some (rs,l)->d9 l->Ev.Sem zO7 J0 125 az rs:=by
 intro az rs l h hl
 unfold p1g at h
 split at h
 ·cases h
  obtain⟨⟨h1,h2,h3,h4,h5,h6⟩,_⟩:=hl
  exact l0k _ _ h1 h2 h3 h4 h5 h6
 ·cases h
def n1u:List Arg->Option (List Arg×List Prop)
 | [.a [.v (.bool n), .v (.bool false), .v (.bool false), .s 39 .u64 N, .v (.bool false), .s 39 .u64 D], .c (.v (.int .i64 1))] =>
  some ([xR (nuW n (val W64 N) (val W64 D)),fR (u0t 53 971 (val W64 N) (val W64 D) (A2 53 (-1074) (val W64 N) (val W64 D))) (E9 53 971 (val W64 N) (val W64 D) (A2 53 (-1074) (val W64 N) (val W64 D))) (j0f 53 (val W64 N) (val W64 D) (A2 53 (-1074) (val W64 N) (val W64 D)))],[Cn N∧Cn D∧0 < val W64 D∧bl (val W64 N)<=1000000∧bl (val W64 D)<=1000000])
 | _=>none
theorem m1s:∀ az rs l,n1u az=some (rs,l)->d9 l->Ev.Sem zO7 J0 139 az rs:=by
 intro az rs l h hl
 unfold n1u at h
 split at h
 ·cases h
  rename_i n N D
  obtain⟨⟨c1,c2,hD,h1,h2⟩,_⟩:=hl
  unfold Cn at c1 c2
  have:=a1s n (N:=val W64 N) (D:=val W64 D) hD h1 h2
  rw [<- c1,<- c2] at this
  exact this
 ·cases h
theorem f2u:Ev.Pure zO7 J0 84 [.int .i64 1] (.agg ⟨[.bool false, .string ⟨⟨[49]⟩⟩, .int .i64 0]⟩):=
 d6 w1u 30 [] [] (l:=[]) (by kernel_rfl) trivial
def w0s:Tab:=l5 94 dM (l5 84 (atS [([.int .i64 1], .agg ⟨[.bool false, .string ⟨⟨[49]⟩⟩, .int .i64 0]⟩)]) c2c)
theorem uD:Q0 zO7 J0 w0s:=b7 jU (b7 (O5 (fun p hp=>by simp only [zzA84,T3,V5] at hp; subst hp; exact f2u)) x0i)
def mF:iG:=m4 139 (z6 [shM,shV] n1u) (m4 125 (z6 [shV,shV] p1g) n0s)
theorem W1:iD zO7 J0 mF:=d8 (l7 _ m1s) (d8 (l7 _ h1k) a0x)
def bRo3:Base:=⟨zO7,J0,false,w0s,mF,200,I6⟩
theorem m1f:BaseOk bRo3:=⟨progOk,uD,W1,m0⟩
abbrev x2g:Cx:=bRo3.cx 10
def tkW (N:Nat):List Int:=zO9 (ws W64 N).length (ws W64 N)
def qv (N:Nat):Nat:=val W64 (tkW N)
theorem n1k (N:Nat):tkW N=ws W64 N:=y5
theorem n2x (N:Nat):qv N=N:=by unfold qv; rw [n1k]; exact s7 N
section
variable (n1 n2:Bool) (d1 d2:List UInt8) (e1 e2:Int) (r:Nat) (a b c:Bool)
theorem n1c:A7 x2g [] 200 83 [dA n1 d1 e1,dA n2 d2 e2,iR 1] [xR r,fR a b c,iR 0] [true,false,true,false,false,false,false,false] =some [(ws W64 (qtN d1 (e1-e2))).length<=(ws W64 (qtN d1 (e1-e2))).length,(ws W64 (qtD d2 (e1-e2))).length<=(ws W64 (qtD d2 (e1-e2))).length,
 Cn (tkW (qtN d1 (e1-e2)))∧Cn (tkW (qtD d2 (e1-e2)))∧0 < (qv (qtD d2 (e1-e2)))∧bl (qv (qtN d1 (e1-e2)))<=1000000∧bl (qv (qtD d2 (e1-e2)))<=1000000,
 T6 d1∧T6 d2∧d1.length<=100000∧d2.length<=100000∧(-1000000<=e1-e2∧e1-e2<=1000000)∧(-1000<=(d1.length:Int)-d2.length+(e1-e2)∧(d1.length:Int)-d2.length+(e1-e2)<=1000),
 (d1==[])=false,(d2==[])=false,false=false,false=false,(!G4 n2 d2 e2)=false,d2.length<=9223372036854775807,(0:Int)<=1∧(1:Int) < 2,true=true,(!G4 n1 d1 e1)=false,d1.length<=9223372036854775807,(0:Int)<=0∧(0:Int) < 2,true=true,
 zO4 .f64 (nuW (n1 !=n2) (qv (qtN d1 (e1-e2))) (qv (qtD d2 (e1-e2))))=zO4 .f64 r,zO8 (u0t 53 971 (qv (qtN d1 (e1-e2))) (qv (qtD d2 (e1-e2))) (A2 53 (-1074) (qv (qtN d1 (e1-e2))) (qv (qtD d2 (e1-e2)))))=zO8 a,zO8 (E9 53 971 (qv (qtN d1 (e1-e2))) (qv (qtD d2 (e1-e2))) (A2 53 (-1074) (qv (qtN d1 (e1-e2))) (qv (qtD d2 (e1-e2)))))=zO8 b,zO8 (j0f 53 (qv (qtN d1 (e1-e2))) (qv (qtD d2 (e1-e2))) (A2 53 (-1074) (qv (qtN d1 (e1-e2))) (qv (qtD d2 (e1-e2)))))=zO8 c,zO3 .i64 0=zO3 .i64 0] :=by kernel_rfl
end
theorem sL {b:UInt8} {r:List UInt8} (hb:48<=b.toNat∧b.toNat<=57) (hr:T6 r):T6 (b ::r)∧dgN (b ::r)=(b.toNat-48)*10 ^r.length+dgN r:=by
 have hd:Lib.digitVal b=some (b.toNat-48):=by
  unfold Lib.digitVal
  rw [b9 hb]
 unfold T6 dgN at*
 simp only [Lib.decFrom,hd]
 rw [J8 r]
 cases h:Lib.decFrom 0 r with
 | none=>rw [h] at hr; cases hr
 | some n=>
  refine⟨rfl,?_⟩
  show (0*10+(b.toNat-48))*10 ^r.length+n=_
  rw [C0,Q6]
  rfl
theorem p0l:∀ {t:List UInt8},(∀ i,i < t.length->48<=(t.getD i 0).toNat∧(t.getD i 0).toNat<=57)->T6 t
 | [],_=>rfl
 | _ ::_,h=>(sL (h 0 (Nat.zero_lt_succ _)) (p0l fun i hi=>h (i+1) (Nat.succ_lt_succ hi))).1
theorem l0t {t:List UInt8} (h:n8 t=true):∀ i,i < t.length->48<=(t.getD i 0).toNat∧(t.getD i 0).toNat<=57:=by
 intro i hi
 unfold n8 at h
 have h1:=zzA10.1 h i (zzA124.2 hi)
 have h2:ndB t i=false:=by simpa using h1
 unfold ndB at h2
 have e:chI t (i:Int)=((t.getD i 0).toNat:Int):=by
  show ((t.getD ((i:Int)).toNat 0).toNat:Int)=_
  rw [i8]
 rw [e] at h2
 generalize (t.getD i 0).toNat=c at*
 by_cases hc:(c:Int) < 48
 ·rw [d4 hc] at h2; cases h2
 ·rw [b8 hc] at h2
  have:=L4 h2
  omega
theorem w9 {g:Bool} {t:List UInt8} {x:Int} (h:G4 g t x=true):T6 t∧t.length<=8192∧-20000<=x∧x<=20000∧(t≠[] ->0 < dgN t):=by
 unfold G4 at h
 by_cases h0:t=[]
 ·rw [b9 h0] at h
  subst h0
  have hx:x=0:=by
   cases g
   ·simpa using h
   ·cases h
  exact⟨rfl,by decide,by omega,by omega,fun k=>absurd rfl k⟩
 ·rw [a6 h0] at h
  cases h3:v3B t <;> cases h4:(chI t (bP t) !=48) <;> cases h5:decide (x>=-20000) <;> simp only [vaB,h3,h4,h5] at h <;> try cases h
  have hx2:=H8 h
  have hx1:=H8 h5
  unfold v3B at h3
  cases h2:v2B t
  ·rw [h2] at h3; cases h3
  ·rw [h2] at h3
   unfold v2B at h2
   cases h1:v1B t
   ·rw [h1] at h2; cases h2
   ·rw [h1] at h2
    have hl:=H8 h1
    have ha:=l0t h2
    refine⟨p0l ha,by omega,hx1,hx2,fun _=> ?_⟩
    cases t with
    | nil=>exact absurd rfl h0
    | cons b r=>
     have hb:48<=b.toNat∧b.toNat<=57:=ha 0 (Nat.zero_lt_succ _)
     have hr:T6 r:=p0l fun i hi=>ha (i+1) (Nat.succ_lt_succ hi)
     rw [(sL hb hr).2]
     have hb0:b.toNat≠48:=by
      intro e
      have e2:chI (b ::r) 0=48:=by
       show ((b.toNat:Nat):Int)=48
       rw [e]; rfl
      rw [e2] at h3
      cases h3
     have hb1:48<=b.toNat:=hb.1
     have h9:1*1<=(b.toNat-48)*10 ^r.length:=c1a (by omega) (p7 (by decide))
     omega
theorem w0b {n k:Nat} (h:n < 10 ^k):bl n<=4*k:=by
 refine bl_le.2 (E3 h ?_)
 rw [rZ]
 exact oX (by decide) k
theorem y1e {d:List UInt8} {e:Int} (h:T6 d) (hl:d.length<=8192) (he:e<=40000):bl (qtN d e)<=1000000:=by
 have h1:=iY h
 unfold qtN
 split
 ·have h2:dgN d*10 ^e.toNat < 10 ^(d.length+e.toNat):=by
   rw [i7]
   exact F8 h1 (p7 (by decide))
  have:=w0b h2
  omega
 ·have:=w0b h1
  omega
theorem y1z {d:List UInt8} {e:Int} (h:T6 d) (hl:d.length<=8192) (he: -40000<=e):bl (qtD d e)<=1000000:=by
 have h1:=iY h
 unfold qtD
 split
 ·have:=w0b h1
  omega
 ·have h2:dgN d*10 ^(-e).toNat < 10 ^(d.length+(-e).toNat):=by
   rw [i7]
   exact F8 h1 (p7 (by decide))
  have:=w0b h2
  omega
theorem m1w {d:List UInt8} {e:Int} (h:0 < dgN d):0 < qtD d e:=by
 unfold qtD
 split
 ·exact h
 ·exact B6 h (p7 (by decide))
abbrev raV (n:Bool) (N D:Nat):List Arg:=[xR (nuW n N D),fR (u0t 53 971 N D (A2 53 (-1074) N D)) (E9 53 971 N D (A2 53 (-1074) N D)) (j0f 53 N D (A2 53 (-1074) N D)),iR 0]
theorem h1h {n1 n2:Bool} {d1 d2:List UInt8} {e1 e2:Int} (h1:G4 n1 d1 e1=true) (h2:G4 n2 d2 e2=true) (k1:d1≠[]) (k2:d2≠[]) (hf: -1000<=(d1.length:Int)-d2.length+(e1-e2)∧(d1.length:Int)-d2.length+(e1-e2)<=1000):
  Ev.Sem zO7 J0 83 [dA n1 d1 e1,dA n2 d2 e2,iR 1] (raV (n1 !=n2) (qtN d1 (e1-e2)) (qtD d2 (e1-e2))):=by
 obtain⟨a1,a2,a3,a4,a5⟩:=w9 h1
 obtain⟨b1,b2,b3,b4,b5⟩:=w9 h2
 refine l6 m1f 10 _ _ (n1c n1 n2 d1 d2 e1 e2 _ _ _ _) ?_
 rw [n2x,n2x,n1k,n1k,h1,h2]
 exact⟨d7 _,d7 _,⟨Cn.ws _,Cn.ws _,m1w (b5 k2),y1e a1 a2 (by omega),y1z b1 b2 (by omega)⟩,⟨a1,b1,by omega,by omega,⟨by omega,by omega⟩,hf⟩,x8 k1,x8 k2,rfl,rfl,rfl,by omega,⟨by decide,by decide⟩,rfl,rfl,by omega,⟨by decide,by decide⟩,rfl,rfl,rfl,rfl,rfl,rfl,a7⟩
def raW (n:Bool) (d1 d2:List UInt8) (e:Int):Nat:=if d1=[] then 0 else nuW n (qtN d1 e) (qtD d2 e)
def raX (d1 d2:List UInt8) (e:Int):Bool:=if d1=[] then false else u0t 53 971 (qtN d1 e) (qtD d2 e) (A2 53 (-1074) (qtN d1 e) (qtD d2 e))
def raI (d1 d2:List UInt8) (e:Int):Bool:=if d1=[] then false else E9 53 971 (qtN d1 e) (qtD d2 e) (A2 53 (-1074) (qtN d1 e) (qtD d2 e))
def raU (d1 d2:List UInt8) (e:Int):Bool:=if d1=[] then false else j0f 53 (qtN d1 e) (qtD d2 e) (A2 53 (-1074) (qtN d1 e) (qtD d2 e))
def l2u (n1 n2:Bool) (d1 d2:List UInt8) (e1 e2:Int):Prop:=G4 n1 d1 e1=true∧G4 n2 d2 e2=true∧d2≠[] ∧(d1≠[] ->-1000<=(d1.length:Int)-d2.length+(e1-e2)∧(d1.length:Int)-d2.length+(e1-e2)<=1000)
theorem l1a (n1 n2:Bool) (d2:List UInt8) (e1 e2:Int):A7 x2g [] 200 83 [dA n1 [] e1,dA n2 d2 e2,iR 1] [xR 0,fR false false false,iR 0] [true,false,true,false,false,false,false,true] =some [true=true,(d2==[])=false,false=false,false=false,(!G4 n2 d2 e2)=false,d2.length<=9223372036854775807,(0:Int)<=1∧(1:Int) < 2,true=true,(!G4 n1 [] e1)=false,0<=9223372036854775807,(0:Int)<=0∧(0:Int) < 2,true=true,zO4 .f64 0=zO4 .f64 0,zO8 false=zO8 false,zO8 false=zO8 false,zO8 false=zO8 false,zO3 .i64 0=zO3 .i64 0] :=by kernel_rfl
theorem c2h {n1 n2:Bool} {d1 d2:List UInt8} {e1 e2:Int} (h:l2u n1 n2 d1 d2 e1 e2):Ev.Sem zO7 J0 83 [dA n1 d1 e1,dA n2 d2 e2,iR 1] [xR (raW (n1 !=n2) d1 d2 (e1-e2)),fR (raX d1 d2 (e1-e2)) (raI d1 d2 (e1-e2)) (raU d1 d2 (e1-e2)),iR 0] :=by
 obtain⟨h1,h2,k2,h3⟩:=h
 unfold raW raX raI raU
 by_cases hd:d1=[]
 ·rw [b9 hd,b9 hd,b9 hd,b9 hd]
  subst hd
  refine l6 m1f 10 _ _ (l1a n1 n2 d2 e1 e2) ?_
  rw [h1,h2]
  obtain⟨b1,b2,b3,b4,b5⟩:=w9 h2
  exact⟨rfl,x8 k2,rfl,rfl,rfl,by omega,⟨by decide,by decide⟩,rfl,rfl,by decide,⟨by decide,by decide⟩,rfl,rfl,rfl,rfl,rfl,rfl,a7⟩
 ·rw [a6 hd,a6 hd,a6 hd,a6 hd]
  exact h1h h1 h2 hd k2 (h3 hd)
def k1i:List Arg->Option (List Arg×List Prop)
 | [.c (.v (.agg ⟨[.bool n1, .string ⟨⟨d1⟩⟩, .int .i64 e1]⟩)), .c (.v (.agg ⟨[.bool n2, .string ⟨⟨d2⟩⟩, .int .i64 e2]⟩)), .c (.v (.int .i64 1))] =>some ([xR (raW (n1 !=n2) d1 d2 (e1-e2)),fR (raX d1 d2 (e1-e2)) (raI d1 d2 (e1-e2)) (raU d1 d2 (e1-e2)),iR 0],[l2u n1 n2 d1 d2 e1 e2])
 | _=>none
theorem m1t:∀ az rs l,k1i az=some (rs,l)->d9 l->Ev.Sem zO7 J0 83 az rs:=by
 intro az rs l h hl
 unfold k1i at h
 split at h
 ·cases h
  exact c2h hl.1
 ·cases h
def gP:iG:=m4 83 (z6 [shV,shV,shV] k1i) mF
theorem Q4:iD zO7 J0 gP:=d8 (l7 _ m1t) W1
def bRo4:Base:=⟨zO7,J0,false,w0s,gP,200,I6⟩
theorem a2z:BaseOk bRo4:=⟨progOk,uD,Q4,m0⟩
abbrev y2f:Cx:=bRo4.cx 10
def y0c:List Value->Option (Value×List Prop)
 | [.bool g, .string ⟨⟨t⟩⟩, .int .i64 x] =>some (mdV g t x,[t.length<=140737488351232,n8 t=true])
 | _=>none
theorem h0n (args:List Value) (v:Value) (l:List Prop) (h:y0c args=some (v,l)) (hl:d9 l):Ev.Pure zO7 J0 12 args v:=by
 unfold y0c at h
 split at h
 ·cases h
  obtain⟨h1,h2,_⟩:=hl
  have:=fun g x=>m1x (g:=g) (x:=x) h1
  simp only [b9 h2] at this
  exact this _ _
 ·cases h
def k1e:Tab:=l5 12 y0c (l5 81 x0y w0s)
theorem k0w:Q0 zO7 J0 k1e:=b7 h0n (b7 m0h uD)
def bRo5:Base:=⟨zO7,J0,false,k1e,gP,200,I6⟩
theorem tV:BaseOk bRo5:=⟨progOk,k0w,Q4,m0⟩
abbrev l2z:Cx:=bRo5.cx 10
def neP (d:List UInt8) (e:Int):Int:=iI.wrap (zO2 (d3 d).length+e)
abbrev g2o (hx:Bool) (d:List UInt8) (e n:Int):List Arg:=[.c (.v (pcV hx d e n)),iR 53,iR (-1074), .c (.v (.func (.func 39) ⟨[]⟩ ⟨[]⟩))]
section
variable (hx:Bool) (d:List UInt8) (e n:Int) (r:Nat) (z:Int)
theorem z2z:A7 l2z [] 200 38 (g2o hx d e n) [xR r,iR z] [true] =some [(d3 d==([] :List UInt8))=true,(48:UInt8)=48,zO4 .f64 0=zO4 .f64 r,zO3 .i64 0=zO3 .i64 z] :=by kernel_rfl
theorem z2v:A7 l2z [] 200 38 (g2o hx d e n) [xR r,iR z] [false,false,true] =some [decide (400 < neP d e)=true,hx=false,(d3 d==([] :List UInt8))=false,(48:UInt8)=48,zO4 .f64 9218868437227405312=zO4 .f64 r,zO3 .i64 0=zO3 .i64 z] :=by kernel_rfl
theorem z2q:A7 l2z [] 200 38 (g2o hx d e n) [xR r,iR z] [false,false,false,true] =some [decide (neP d e < Int.negSucc 399)=true,decide (400 < neP d e)=false,hx=false,(d3 d==([] :List UInt8))=false,(48:UInt8)=48,zO4 .f64 0=zO4 .f64 r,zO3 .i64 0=zO3 .i64 z] :=by kernel_rfl
theorem z2l:A7 l2z [] 200 38 (g2o hx d e n) [xR r,iR z] [false,false,false,false,true] =some [(mdE (d3 d) e !=0)=true,(d3 d).length<=140737488351232,n8 (d3 d)=true,decide (neP d e < Int.negSucc 399)=false,decide (400 < neP d e)=false,hx=false,(d3 d==([] :List UInt8))=false,(48:UInt8)=48,zO4 .f64 0=zO4 .f64 r,zO3 .i64 (mdE (d3 d) e)=zO3 .i64 z] :=by kernel_rfl
theorem z2p:A7 l2z [] 200 38 (g2o hx d e n) [xR r,iR z] [false,false,false,false,false] =some [l2u (mdN false (d3 d) e) false (mdD (d3 d) e) [49] (mdX (d3 d) e) 0,(mdE (d3 d) e !=0)=false,(d3 d).length<=140737488351232,n8 (d3 d)=true,decide (neP d e < Int.negSucc 399)=false,decide (400 < neP d e)=false,hx=false,(d3 d==([] :List UInt8))=false,(48:UInt8)=48,zO4 .f64 (raW (mdN false (d3 d) e !=false) (mdD (d3 d) e) [49] (mdX (d3 d) e-0))=zO4 .f64 r,zO3 .i64 0=zO3 .i64 z] :=by kernel_rfl
end
theorem allDB_mem {t:List UInt8} :n8 t=true↔∀ b∈t,48<=b.toNat∧b.toNat<=57:=by
 constructor
 ·intro h b hb
  obtain⟨i,hi,rfl⟩:=List.mem_iff_getElem.1 hb
  have:=l0t h i hi
  rw [pZ,e1i hi] at this
  exact this
 ·intro h
  unfold n8
  refine zzA10.2 fun i hi=> ?_
  have hi:=zzA124.1 hi
  have hb:=h _ (List.getElem_mem hi)
  have e:chI t (i:Int)=((t[i].toNat:Nat):Int):=by
   show ((t.getD ((i:Int)).toNat 0).toNat:Int)=_
   rw [i8,pZ,e1i hi]
   rfl
  have:ndB t i=false:=by
   unfold ndB
   rw [e,b8 (by omega)]
   exact b8 (by omega)
  rw [this]
  rfl
theorem D6:∀ {t:List UInt8} {b:UInt8},b∈d3 t->b∈t
 | [],_,h=>h
 | c ::r,b,h=>by
  unfold d3 at h
  split at h
  ·exact R8 _ (D6 h)
  ·exact h
theorem M2:∀ {t:List UInt8} {c:UInt8} {r:List UInt8},d3 t=c ::r->c≠48
 | [],_,_,h=>by cases h
 | a ::q,c,r,h=>by
  unfold d3 at h
  split at h
  ·exact M2 h
  ·cases h; assumption
theorem zV {c:UInt8} (hc:c≠48):∀ (w:List UInt8),∃ w',d3 (w++[c])=w'++[c]
 | [] =>⟨[],by show (if c=48 then d3 [] else [c])=_; rw [a6 hc]; rfl⟩
 | a ::q=>by
  by_cases ha:a=48
  ·obtain⟨w',h⟩:=zV hc q
   exact⟨w',by show (if a=48 then d3 (q++[c]) else a ::(q++[c]))=_; rw [b9 ha]; exact h⟩
  ·exact⟨a ::q,by show (if a=48 then d3 (q++[c]) else a ::(q++[c]))=_; rw [a6 ha]; rfl⟩
theorem jR {t:List UInt8} (h:d3 t≠[]):∃ c r,mdS t=c ::r∧c≠48∧∃ a q,mdS t=q++[a] ∧a≠48:=by
 cases hu:d3 t with
 | nil=>exact absurd hu h
 | cons c r=>
  have hc:=M2 hu
  obtain⟨w',hw⟩:=zV hc r.reverse
  have hS:mdS t=(w'++[c]).reverse:=by
   unfold mdS D2
   rw [hu,a0b,hw]
  refine⟨c,w'.reverse,by rw [hS]; simp,hc,?_⟩
  cases hq:w'++[c] with
  | nil=>simp at hq
  | cons a q=>
   rw [hq] at hw
   refine⟨a,q.reverse,by rw [hS,hq]; simp,M2 hw⟩
theorem uV {t:List UInt8} {b:UInt8} (h:b∈mdS t):b∈t:=by
 unfold mdS D2 at h
 exact D6 (zzA215.1 (D6 (zzA215.1 h)))
theorem d0h {g:Bool} {t:List UInt8} {x:Int} (h:n8 t=true):G4 (mdN g t x) (mdD t x) (mdX t x)=true:=by
 unfold mdN mdD mdX
 cases hI:mdI t x with
 | false=>
  rw [a6 (by decide),a6 (by decide),a6 (by decide)]
  rfl
 | true=>
  rw [b9 rfl,b9 rfl,b9 rfl]
  unfold mdI at hI
  rw [x5] at hI
  have hn:d3 t≠[] :=H8 hI.1
  have hE:=H8 hI.2
  unfold mdE at hE
  rw [a6 hn] at hE
  by_cases h1:8192 < (mdS t).length
  ·rw [b9 h1] at hE; cases hE
  rw [a6 h1] at hE
  by_cases h2:20000-mdB t < x∨x < -20000-mdB t
  ·rw [b9 h2] at hE; cases hE
  obtain⟨c,r,e1,hc,a,q,e2,ha⟩:=jR hn
  unfold G4
  rw [a6 (by rw [e1]; simp)]
  have hc2:(chI (mdS t) 0 !=48)=true:=by
   rw [e1]
   show (((c.toNat:Nat):Int) !=48)=true
   have:c.toNat≠48:=fun h=>hc (zzA132.1 h)
   rw [zzA216]
   omega
  have hl:bP (mdS t)=(q.length:Int):=by
   unfold bP
   rw [e2,s9,bB]
   have:=H5 List.length e2
   rw [s9,bB] at this
   rw [wr (by omega) (by omega)]
   omega
  have ha2:(chI (mdS t) (bP (mdS t)) !=48)=true:=by
   rw [hl,e2]
   show ((((q++[a]).getD ((q.length:Int)).toNat 0).toNat:Int) !=48)=true
   rw [i8,pZ,c1i (d7 _),bD]
   show (((a.toNat:Nat):Int) !=48)=true
   have:a.toNat≠48:=fun h=>ha (zzA132.1 h)
   rw [zzA216]
   omega
  have hd:n8 (mdS t)=true:=allDB_mem.2 fun b hb=>allDB_mem.1 h b (uV hb)
  unfold vaB v3B v2B v1B
  rw [d4 (show ((mdS t).length:Int)<=8192 by omega),hc2,ha2,hd,d4 (show x+mdB t>=-20000 by omega)]
  exact d4 (by omega)
def neQ (d:List UInt8) (e:Int):Int:=((d3 d).length:Int)+e
def neW (d:List UInt8) (e:Int):Nat:=if d3 d=[] then 0 else if 400 < neQ d e then 9218868437227405312 else if neQ d e < -400 then 0 else if mdE (d3 d) e≠0 then 0 else raW false (mdD (d3 d) e) [49] (mdX (d3 d) e)
def neE (d:List UInt8) (e:Int):Int:=if d3 d=[] then 0 else if 400 < neQ d e then 0 else if neQ d e < -400 then 0 else mdE (d3 d) e
theorem A5 {d:List UInt8} :d3 (d3 d)=d3 d:=by
 cases h:d3 d with
 | nil=>rfl
 | cons c r=>
  show (if c=48 then d3 r else c ::r)=_
  rw [a6 (M2 h)]
theorem w0u {d:List UInt8} {e:Int} (h1:neQ d e<=400) (h2: -400<=neQ d e) (hne:mdD (d3 d) e≠[]): -1000<=((mdD (d3 d) e).length:Int)- ([49] :List UInt8).length+(mdX (d3 d) e-0)∧((mdD (d3 d) e).length:Int)- ([49] :List UInt8).length+(mdX (d3 d) e-0)<=1000:=by
 unfold mdD mdX at*
 cases hI:mdI (d3 d) e with
 | false=>
  rw [hI,a6 (by decide)] at hne
  exact absurd rfl hne
 | true=>
  rw [b9 rfl,b9 rfl]
  unfold mdB
  rw [A5]
  unfold neQ at*
  rw [bB]
  omega
theorem v1n {d:List UInt8} {e n:Int} (hd:n8 d=true) (hl:d.length<=140737488351232) (he: -1000000000000000000<=e∧e<=1000000000000000000):Ev.Sem zO7 J0 38 (g2o false d e n) [xR (neW d e),iR (neE d e)] :=by
 have hle:=B4 d
 have hP:neP d e=neQ d e:=by
  unfold neP neQ
  exact wr (by show -9223372036854775808<=((d3 d).length:Int)+e; omega) (by show ((d3 d).length:Int)+e<=9223372036854775807; omega)
 have hT:n8 (d3 d)=true:=allDB_mem.2 fun b hb=>allDB_mem.1 hd b (D6 hb)
 unfold neW neE
 by_cases h0:d3 d=[]
 ·rw [b9 h0,b9 h0]
  refine l6 tV 10 _ _ (z2z false d e n _ _) ?_
  rw [h0]
  exact⟨rfl,rfl,rfl,rfl,a7⟩
 have k0:(d3 d==([] :List UInt8))=false:=x8 h0
 rw [a6 h0,a6 h0]
 by_cases h1:400 < neQ d e
 ·rw [b9 h1,b9 h1]
  refine l6 tV 10 _ _ (z2v false d e n _ _) ?_
  rw [hP]
  exact⟨d4 h1,rfl,k0,rfl,rfl,rfl,a7⟩
 have k1:decide (400 < neP d e)=false:=by rw [hP]; exact b8 h1
 rw [a6 h1,a6 h1]
 by_cases h2:neQ d e < -400
 ·rw [b9 h2,b9 h2]
  refine l6 tV 10 _ _ (z2q false d e n _ _) ?_
  exact⟨by rw [hP]; exact d4 h2,k1,rfl,k0,rfl,rfl,rfl,a7⟩
 have k2:decide (neP d e < Int.negSucc 399)=false:=by rw [hP]; exact b8 h2
 rw [a6 h2,a6 h2]
 by_cases h3:mdE (d3 d) e=0
 ·rw [a6 (by rw [h3]; decide)]
  refine l6 tV 10 _ _ (z2p false d e n _ _) ?_
  have hok:l2u (mdN false (d3 d) e) false (mdD (d3 d) e) [49] (mdX (d3 d) e) 0:=⟨d0h hT,by decide,by decide,fun hn=>w0u (by omega) (by omega) hn⟩
  have hN:mdN false (d3 d) e=false:=by
   unfold mdN
   split <;> rfl
  have hR:zO4 .f64 (raW (mdN false (d3 d) e !=false) (mdD (d3 d) e) [49] (mdX (d3 d) e-0))=zO4 .f64 (raW false (mdD (d3 d) e) [49] (mdX (d3 d) e)):=by
   rw [hN,Int.sub_zero]
   rfl
  exact⟨hok,by rw [h3]; rfl,by omega,hT,k2,k1,rfl,k0,rfl,hR,by rw [h3],a7⟩
 ·rw [b9 h3]
  refine l6 tV 10 _ _ (z2l false d e n _ _) ?_
  exact⟨zzA216.2 h3,by omega,hT,k2,k1,rfl,k0,rfl,rfl,rfl,a7⟩
def gG (K:Nat) (L:Int) (N D:Nat) (e:Int):Prop:=L<=e∧flq N D e < 2 ^K∧(e=L∨2 ^(K-1)<=flq N D e)
theorem E6 (k:Nat):0 < 2 ^k:=p7 (by decide)
theorem e0p {K:Nat} (hK:0 < K):2 ^K=2*2 ^(K-1):=by
 obtain⟨k,rfl⟩:∃ k,K=k+1:=⟨K-1,by omega⟩
 rw [p9,iV,n4]
theorem x0x {K:Nat} {N D:Nat} {e:Int} {s:Nat} (hK:0 < K) (h:2 ^(K-1)<=flq N D (e+((s+1:Nat):Int))):2 ^K<=flq N D e:=by
 rw [vF,bW (E6 _)] at h
 have:2 ^K<=2 ^(K-1)*2 ^(s+1):=by
  rw [<- i7]
  exact w7 (by decide) (by omega)
 omega
theorem w0g {K:Nat} {L:Int} {N D:Nat} {e e':Int} (hK:0 < K) (h:gG K L N D e) (h':gG K L N D e'):¬e < e':=by
 intro hlt
 obtain⟨s,hs⟩:∃ s:Nat,e'=e+((s+1:Nat):Int):=⟨(e'-e-1).toNat,by omega⟩
 obtain⟨h1,h2,_⟩:=h
 obtain⟨k1,_,k3⟩:=h'
 rcases k3 with k3 | k3
 ·omega
 ·rw [hs] at k3
  have:=x0x hK k3
  omega
theorem u0x {K:Nat} {L:Int} {N D:Nat} {e e':Int} (hK:0 < K) (h:gG K L N D e) (h':gG K L N D e'):e=e':=by
 have h1:=w0g hK h h'
 have h2:=w0g hK h' h
 omega
theorem I8 {K:Nat} {L:Int} {N D:Nat} (hK:0 < K) (hN:0 < N) (hD:0 < D):gG K L N D (A2 K L N D):=by
 refine⟨?_,d1z,?_⟩
 ·unfold A2 bA
  split <;> split <;> omega
 ·rcases E0 (flq N D (A2 K L N D)) (2 ^(K-1)) with h | h
  ·exact .inl (i1p hK hN hD h)
  ·exact .inr h
theorem l1q (N k:Nat) (e:Int):atA (N*k) e=atA N e*k:=by
 unfold atA
 split
 ·rfl
 ·rw [J1]
theorem s0s (D k:Nat) (e:Int):atB (D*k) e=atB D e*k:=by
 unfold atB
 split
 ·rw [J1]
 ·rfl
theorem l1x {N D k:Nat} (hk:0 < k) (e:Int):flq (N*k) (D*k) e=flq N D e:=by
 unfold flq
 rw [l1q,s0s,jQ _ _ hk]
theorem g1c {N D k:Nat} (e:Int):flr (N*k) (D*k) e=flr N D e*k:=by
 unfold flr
 rw [l1q,s0s,oF]
theorem q0u (a b:Nat) {k:Nat} (hk:0 < k):cmN (a*k) (b*k)=cmN a b:=by
 unfold cmN
 have h1:a*k < b*k↔a < b:=Nat.mul_lt_mul_right hk
 have h2:a*k=b*k↔a=b:=⟨fun h=>u0k hk h,fun h=>by rw [h]⟩
 simp only [h1,h2]
theorem f2k {N D k:Nat} (hk:0 < k) (e:Int):flm (N*k) (D*k) e=flm N D e:=by
 have h1:flw (N*k) (D*k) e=flw N D e:=by
  unfold flw
  rw [g1c]
  refine zzA163.2 ⟨fun h=> ?_,fun h=>by rw [h,C0]⟩
  rcases zzA98.1 h with h | h
  ·exact h
  ·omega
 have h2:flh (N*k) (D*k) e=flh N D e:=by
  unfold flh
  rw [g1c,s0s,J1,q0u _ _ hk]
 unfold flm tI
 rw [h1,h2,l1x hk]
theorem k1s {K:Nat} {L:Int} {N D k:Nat} (hk:0 < k) {e:Int} (h:gG K L N D e):gG K L (N*k) (D*k) e:=by
 unfold gG at*
 rw [l1x hk]
 exact h
def rwd (K:Nat) (L:Int) (N D:Nat):Nat:=if N=0 then 0 else (A2 K L N D-L).toNat*2 ^(K-1)+flm N D (A2 K L N D)
theorem d0f {K:Nat} {L:Int} {D:Nat} :rwd K L 0 D=0:=rfl
theorem W9 {K:Nat} {L:Int} {N D:Nat} {e:Int} (hK:0 < K) (hN:0 < N) (hD:0 < D) (h:gG K L N D e):rwd K L N D=(e-L).toNat*2 ^(K-1)+flm N D e:=by
 unfold rwd
 rw [a6 (by omega),u0x hK (I8 hK hN hD) h]
theorem e0q {K:Nat} {L:Int} {N D k:Nat} (hK:0 < K) (hD:0 < D) (hk:0 < k):rwd K L (N*k) (D*k)=rwd K L N D:=by
 rcases F2 N with h | h
 ·subst h
  rw [C0]
  rfl
 ·rw [W9 hK (B6 h hk) (B6 hD hk) (k1s hk (I8 hK h hD)),f2k hk,W9 hK h hD (I8 hK h hD)]
theorem vT {K:Nat} {L:Int} {N D N' D':Nat} (hK:0 < K) (hD:0 < D) (hD':0 < D') (h:N*D'=N'*D):rwd K L N D=rwd K L N' D':=by
 rw [<- e0q hK hD hD',<- e0q (N:=N') hK hD' hD,h,n4 D D']
theorem v0n {N N':Nat} (h:N<=N') (e:Int):atA N e<=atA N' e:=by
 unfold atA
 split
 ·exact h
 ·exact o9 _ h
theorem v0q {N N':Nat} (h:N<=N') (D:Nat) (e:Int):flq N D e<=flq N' D e:=Nat.div_le_div_right (v0n h e)
theorem K6 (N D:Nat) (e:Int):flq N D e<=flm N D e∧flm N D e<=flq N D e+1:=by
 unfold flm
 split <;> omega
theorem q1n {a a' b:Nat} {q:Nat} (h:a<=a') (hu:upB (cmN (a*2) b) q=true):upB (cmN (a'*2) b) q=true:=by
 unfold upB cmN at*
 by_cases h1:a'*2 < b
 ·rw [b9 (show a*2 < b by omega)] at hu
  cases hu
 ·rw [a6 h1]
  by_cases h2:a'*2=b
  ·rw [b9 h2]
   by_cases h3:a*2 < b
   ·rw [b9 h3] at hu
    cases hu
   ·rw [a6 h3,b9 (show a*2=b by omega)] at hu
    exact hu
  ·rw [a6 h2]
   rfl
theorem t1m {N N':Nat} (h:N<=N') (D:Nat) (e:Int):flm N D e<=flm N' D e:=by
 have hq:=v0q h D e
 rcases E0 (flq N D e) (flq N' D e) with h1 | h1
 ·have h2:=K6 N D e
  have h3:=K6 N' D e
  omega
 ·have e1:flq N' D e=flq N D e:=by omega
  have hr:flr N D e<=flr N' D e:=by
   have a1:=Y1 (atA N e) (atB D e)
   have a2:=Y1 (atA N' e) (atB D e)
   have a3:=v0n h e
   have e2:atA N' e/atB D e=atA N e/atB D e:=e1
   unfold flr
   rw [e2] at a2
   omega
  have hu:tI N D e=true->tI N' D e=true:=by
   intro hu
   unfold tI at*
   cases hw:flw N D e with
   | true=>rw [hw] at hu; cases hu
   | false=>
    rw [hw] at hu
    have hw2:flw N' D e=false:=by
     unfold flw at*
     have:=L4 hw
     exact b8 (by omega)
    rw [hw2,e1]
    exact q1n hr hu
  unfold flm
  rw [e1]
  by_cases h2:tI N D e=true
  ·rw [b9 h2,b9 (hu h2)]
   exact d7 _
  ·rw [a6 h2]
   split <;> omega
theorem w1d {K:Nat} {L:Int} {N N' D:Nat} (hK:0 < K) (hD:0 < D) (h:N<=N'):rwd K L N D<=rwd K L N' D:=by
 rcases F2 N with hN | hN
 ·subst hN
  exact n6 _
 ·have hN':0 < N':=by omega
  have i1:=I8 (L:=L) hK hN hD
  have i2:=I8 (L:=L) hK hN' hD
  rw [W9 hK hN hD i1,W9 hK hN' hD i2]
  generalize A2 K L N D=e at*
  generalize A2 K L N' D=e' at*
  obtain⟨a1,a2,a3⟩:=i1
  obtain⟨b1,b2,b3⟩:=i2
  have m1:=K6 N D e
  have m2:=K6 N' D e'
  have hK2:=e0p hK
  rcases Int.lt_trichotomy e e' with hlt | heq | hgt
  ·obtain⟨s,hs⟩:∃ s:Nat,e'=e+((s+1:Nat):Int):=⟨(e'-e-1).toNat,by omega⟩
   have hb:2 ^(K-1)<=flq N' D e':=by
    rcases b3 with b3 | b3
    ·omega
    ·exact b3
   rw [show (e'-L).toNat=(e-L).toNat+1+s by omega,u4,u4]
   omega
  ·subst heq
   have:=t1m h D e
   omega
  ·exfalso
   obtain⟨s,hs⟩:∃ s:Nat,e=e'+((s+1:Nat):Int):=⟨(e-e'-1).toNat,by omega⟩
   have ha:2 ^(K-1)<=flq N D e:=by
    rcases a3 with a3 | a3
    ·omega
    ·exact a3
   have:=x7 ha (v0q h D e)
   rw [hs] at this
   have:=x0x hK this
   omega
theorem y1j {K:Nat} {L:Int} {N D N' D':Nat} (hK:0 < K) (hD:0 < D) (hD':0 < D') (h:N*D'<=N'*D):rwd K L N D<=rwd K L N' D':=by
 rw [<- e0q hK hD hD',<- e0q (N:=N') hK hD' hD,n4 D' D]
 exact w1d hK (B6 hD hD') h
theorem n0t {a b:Nat} (h:2046<=a) (hb:4503599627370496<=b):9218868437227405312<=a*4503599627370496+b:=by omega
theorem r1q {a b:Nat} (h:2045<=a) (hb:9007199254740992<=b):9218868437227405312<=a*4503599627370496+b:=by omega
theorem z1e {a b:Nat} (h:a<=2045) (hb:b < 9007199254740992):a*4503599627370496+b<=9218868437227405312:=by omega
theorem b0p {N D:Nat} (hD:0 < D):kS N D=min (rwd 53 (-1074) N D) 9218868437227405312:=by
 rcases F2 N with hN | hN
 ·subst hN
  rw [d0f,uQ]
  have hq:∀ e,flq 0 D e=0:=by
   intro e
   unfold flq atA
   split <;> simp
  have hr:∀ e,flr 0 D e=0:=by
   intro e
   unfold flr atA
   split <;> simp
  have hm:∀ e,flm 0 D e=0:=by
   intro e
   unfold flm tI flw
   rw [hr,hq]
   rfl
  have he:A2 53 (-1074) 0 D<=0:=by
   unfold A2 bA
   rw [hq,f2n]
   split <;> split <;> omega
  unfold kS E9 n0g h0w
  have k:¬2 ^53<=0:=by decide
  rw [hm]
  simp only [a6 k]
  rw [b8 (by omega),a6 (by decide),b9 trivial]
 ·have i1:=I8 (L:= -1074) (show 0 < 53 by decide) hN hD
  rw [W9 (by decide) hN hD i1]
  unfold kS E9 n0g h0w
  generalize A2 53 (-1074) N D=e at*
  obtain⟨a1,a2,a3⟩:=i1
  have m1:=K6 N D e
  rw [show (2:Nat) ^53=9007199254740992 by decide] at*
  rw [show (2:Nat) ^(53-1)=4503599627370496 by decide] at*
  rw [show (e- -1074).toNat=(e+1074).toNat by omega]
  by_cases hc:9007199254740992<=flm N D e
  ·rw [b9 hc,b9 hc]
   have hm:flm N D e=9007199254740992:=by omega
   by_cases hi:971 < e+1
   ·rw [d4 hi,b9 rfl]
    exact (S5 (r1q (by omega) hc)).symm
   ·rw [b8 hi,a6 (by decide),hm,a6 (by decide)]
    rw [B2 (by omega)]
    omega
  ·rw [a6 hc,a6 hc]
   by_cases hi:971 < e
   ·rw [d4 hi,b9 rfl]
    refine (S5 (n0t (by omega) ?_)).symm
    rcases a3 with a3 | a3 <;> omega
   ·rw [b8 hi,a6 (by decide)]
    by_cases h0:flm N D e=0
    ·rw [b9 h0,h0]
     have:e= -1074:=by rcases a3 with a3 | a3 <;> omega
     rw [this]
     rfl
    ·rw [a6 h0,B2 (z1e (by omega) (by omega))]
theorem j2m {T N D:Nat} (hD:0 < D) (h:D*T<=N):rwd 53 (-1074) T 1<=rwd 53 (-1074) N D:=y1j (by decide) (by decide) hD (by rw [s4,n4]; exact h)
theorem a2u {N D:Nat} (hD:0 < D) (h:D*2 ^1024<=N):9218868437227405312<=rwd 53 (-1074) N D:=by
 have h1:=j2m hD h
 have h2:gG 53 (-1074) (2 ^1024) 1 972:=by
  refine⟨by decide,?_, .inr ?_⟩ <;> decide+kernel
 rw [W9 (by decide) (E6 _) (by decide) h2] at h1
 have h3:4503599627370496<=flm (2 ^1024) 1 972:=x7 (by decide+kernel) (K6 _ _ _).1
 refine x7 ?_ h1
 have e:((972:Int)- -1074).toNat*2 ^(53-1)=2046*4503599627370496:=by decide+kernel
 rw [e]
 generalize flm (2 ^1024) 1 972=x at*
 exact n0t (d7 _) h3
theorem g1a {N D:Nat} (hD:0 < D) (h:D*2 ^128<=N):2139095040<=rwd 24 (-149) N D:=by
 have h1:rwd 24 (-149) (2 ^128) 1<=rwd 24 (-149) N D:=y1j (by decide) (by decide) hD (by rw [s4,n4]; exact h)
 have h2:gG 24 (-149) (2 ^128) 1 105:=by
  refine⟨by decide,?_, .inr ?_⟩ <;> decide+kernel
 rw [W9 (by decide) (E6 _) (by decide) h2] at h1
 have h3:8388608<=flm (2 ^128) 1 105:=x7 (by decide+kernel) (K6 _ _ _).1
 refine x7 ?_ h1
 have e:((105:Int)- -149).toNat*2 ^(24-1)=2130706432:=by decide+kernel
 rw [e]
 generalize flm (2 ^128) 1 105=x at*
 omega
theorem j1z {K:Nat} {L:Int} {N D:Nat} (hK:0 < K) (hL:L<=0) (h:N*2 ^((-L).toNat+1) < D):rwd K L N D=0:=by
 rcases F2 N with hN | hN
 ·subst hN; rfl
 have hD:0 < D:=by omega
 have hA:atA N L*2 < atB D L:=by
  unfold atA atB
  by_cases h0:0<=L
  ·have:L=0:=by omega
   subst this
   simpa using h
  ·rw [a6 h0,a6 h0,f9,<- p9]
   exact h
 have hq:flq N D L=0:=uE (by omega)
 have hr:flr N D L=atA N L:=H3 (by omega)
 have hm:flm N D L=0:=by
  unfold flm tI flh
  rw [hq,hr]
  unfold cmN
  rw [b9 hA]
  have:upB (-1) 0=false:=by decide
  rw [this,j0x]
  rfl
 rw [W9 hK hN hD ⟨xY _,by rw [hq]; exact E6 _, .inl rfl⟩,hm,Int.sub_self]
 simp
def dcF (m:Nat) (c:UInt8):Nat:=10*m+(c.toNat-48)
def dcN (l:List UInt8):Nat:=l.foldl dcF 0
theorem b0n:∀ (l:List UInt8) (m:Nat),l.foldl dcF m=m*10 ^l.length+dcN l
 | [],m=>by simp [dcN]
 | c ::r,m=>by
  unfold dcN
  rw [e0w,e0w,b0n r,b0n r (dcF 0 c)]
  unfold dcF
  rw [u6,p9,u4,u4,<- f9,n4 m (10 ^r.length),eQ,C0,Q6,n4 10 m,J1 m 10,n4 m (10 ^r.length),J1 (10 ^r.length) m 10,s1i]
theorem F3 (a b:List UInt8):dcN (a++b)=dcN a*10 ^b.length+dcN b:=by
 unfold dcN
 rw [List.foldl_append,b0n b]
 rfl
theorem aH (c:UInt8) (r:List UInt8):dcN (c ::r)=(c.toNat-48)*10 ^r.length+dcN r:=by
 have:=F3 [c] r
 rw [t0y] at this
 rw [this]
 unfold dcN dcF
 rw [e0w,List.foldl_nil,eQ,Q6]
theorem Y2:∀ n:Nat,dcN (zO6 n 48)=0
 | 0=>rfl
 | n+1=>by
  rw [v0v,aH,Y2 n]
  show (48-48)*_+0=0
  rw [bD,C0]
theorem W7 {c:UInt8} {r:List UInt8} (h:n8 (c ::r)=true):(48<=c.toNat∧c.toNat<=57)∧n8 r=true:=
 ⟨allDB_mem.1 h c X5,allDB_mem.2 fun b hb=>allDB_mem.1 h b (R8 _ hb)⟩
theorem zY:∀ {l:List UInt8},n8 l=true->T6 l∧dgN l=dcN l
 | [],_=>⟨rfl,rfl⟩
 | c ::r,h=>by
  obtain⟨h1,h2⟩:=W7 h
  obtain⟨h3,h4⟩:=zY h2
  obtain⟨h5,h6⟩:=sL h1 h3
  exact⟨h5,by rw [h6,h4,aH]⟩
theorem tE:∀ l:List UInt8,l=zO6 (l.length- (d3 l).length) 48++d3 l
 | [] =>rfl
 | c ::r=>by
  unfold d3
  by_cases h:c=48
  ·rw [b9 h]
   have h1:=tE r
   have h2:=B4 r
   rw [u6,show r.length+1- (d3 r).length=r.length- (d3 r).length+1 by omega,v0v,dF,<- h1,h]
  ·rw [a6 h,bD]
   rfl
theorem m0m (t:List UInt8):t=D2 t++zO6 (t.length- (D2 t).length) 48:=by
 have h:=H5 List.reverse (tE t.reverse)
 rw [List.reverse_reverse,List.reverse_append,List.reverse_replicate,bQ] at h
 unfold D2
 rw [bQ]
 exact h
theorem K7 (l:List UInt8):dcN (d3 l)=dcN l:=by
 have h:=H5 dcN (tE l)
 rw [F3,Y2,C0,Q6] at h
 exact h.symm
theorem sZ (l:List UInt8):dcN l=dcN (D2 l)*10 ^(l.length- (D2 l).length):=by
 have h:=H5 dcN (m0m l)
 rw [F3,Y2,E4,G5] at h
 exact h
theorem j1c:∀ {l:List UInt8},n8 l=true->dcN l < 10 ^l.length
 | [],_=>by decide
 | c ::r,h=>by
  obtain⟨h1,h2⟩:=W7 h
  have h3:=j1c h2
  rw [aH,u6,p9]
  have:(c.toNat-48)*10 ^r.length<=9*10 ^r.length:=o9 _ (by omega)
  omega
theorem f1o {l:List UInt8} {c:UInt8} {r:List UInt8} (h:n8 l=true) (ht:d3 l=c ::r):10 ^r.length<=dcN l:=by
 rw [<- K7,ht,aH]
 have hc:=M2 ht
 have h1:=allDB_mem.1 h c (D6 (by rw [ht]; exact X5))
 have h2:c.toNat≠48:=fun e=>hc (zzA132.1 e)
 have:1*10 ^r.length<=(c.toNat-48)*10 ^r.length:=o9 _ (by omega)
 omega
def pN (B:Nat) (x:Int):Nat:=if 0<=x then B ^x.toNat else 1
def pD (B:Nat) (x:Int):Nat:=if 0<=x then 1 else B ^(-x).toNat
theorem fN {B:Nat} (hB:0 < B) (x:Int):0 < pD B x:=by
 unfold pD
 split
 ·exact Nat.one_pos
 ·exact p7 hB
theorem y1p {B:Nat} (hB:0 < B) (x:Int):0 < pN B x:=by
 unfold pN
 split
 ·exact p7 hB
 ·exact Nat.one_pos
theorem x0j (B b:Nat) (x:Int):B ^b*pN B x*pD B (x+b)=pN B (x+b)*pD B x:=by
 unfold pN pD
 by_cases h:0<=x
 ·rw [b9 h,b9 h,b9 (show 0<=x+(b:Int) by omega),b9 (show 0<=x+(b:Int) by omega),<- i7,show b+x.toNat=(x+(b:Int)).toNat by omega]
 ·rw [a6 h,a6 h]
  by_cases h2:0<=x+(b:Int)
  ·rw [b9 h2,b9 h2,<- i7,show (x+(b:Int)).toNat+(-x).toNat=b by omega,s4,s4]
  ·rw [a6 h2,a6 h2,s4,V1,<- i7,show b+(-(x+(b:Int))).toNat=(-x).toNat by omega]
def dcW (K:Nat) (L:Int) (n:Nat) (e:Int):Nat:=rwd K L (n*pN 10 e) (pD 10 e)
theorem lJ {K:Nat} {L:Int} {e:Int} :dcW K L 0 e=0:=by
 unfold dcW
 rw [C0]
 rfl
theorem sM {K:Nat} {L:Int} (hK:0 < K) (n b:Nat) (e:Int):dcW K L (n*10 ^b) e=dcW K L n (e+b):=by
 unfold dcW
 refine vT hK (fN (by decide) _) (fN (by decide) _) ?_
 rw [f9 n,f9 n,x0j,f9]
theorem e1p:2 ^1024<=10 ^400:=by decide+kernel
theorem d2w:2 ^1075 < 10 ^400:=by decide+kernel
theorem l2c {j k n:Nat} {e:Int} (h:10 ^k<=n) (hk:(j:Int)<=(k:Int)+e):10 ^j*pD 10 e<=n*pN 10 e:=by
 refine x7 ?_ (o9 _ h)
 unfold pD pN
 by_cases he:0<=e
 ·rw [b9 he,b9 he,<- i7,s4]
  exact w7 (by decide) (by omega)
 ·rw [a6 he,a6 he,<- i7,s4]
  exact w7 (by decide) (by omega)
theorem a2b {T j k n:Nat} {e:Int} (hT:T<=10 ^j) (h:10 ^k<=n) (hk:(j:Int)<=(k:Int)+e):pD 10 e*T<=n*pN 10 e:=by
 refine x7 ?_ (l2c h hk)
 rw [n4]
 exact o9 _ hT
theorem e2q {n:Nat} {k:Nat} {e:Int} (h:10 ^k<=n) (hk:400<=(k:Int)+e):9218868437227405312<=dcW 53 (-1074) n e:=a2u (fN (by decide) _) (a2b e1p h hk)
theorem m2j {m k:Nat} (h:m<=k):2 ^m<=2 ^k:=w7 (by decide) h
theorem s0f {n a b T:Nat} (h:n < a) (h2:b < T):n*b < a*T:=Nat.mul_lt_mul'' h h2
theorem b2n {n k j:Nat} {b T:Nat} (hT:T=10 ^j) (h:n < 10 ^k) (h8:b < T):n*b < 10 ^(k+j):=by
 rw [i7,<- hT]
 exact s0f h h8
theorem m0j {K:Nat} {L:Int} (hK:0 < K) (hL: -1074<=L∧L<=0) {n:Nat} {k:Nat} {e:Int} (h:n < 10 ^k) (hk:(k:Int)+e<=-400):dcW K L n e=0:=by
 refine j1z hK hL.2 ?_
 have h8:=y4 (m2j (m:=(-L).toNat+1) (k:=1075) (by omega)) d2w
 unfold pN pD
 rw [a6 (by omega),a6 (by omega),s4]
 have h7:10 ^(k+400)<=10 ^(-e).toNat:=w7 (by decide) (by omega)
 refine E3 ?_ h7
 exact b2n rfl h h8
theorem j0u:dgN [49] =1:=by decide
theorem k2e {d:List UInt8} {e:Int} (hd:n8 d=true) (hl:d.length<=8192):neW d e=min (dcW 53 (-1074) (dcN d) e) 9218868437227405312∧neE d e=0:=by
 have hT:n8 (d3 d)=true:=allDB_mem.2 fun b hb=>allDB_mem.1 hd b (D6 hb)
 have hle:=B4 d
 unfold neW neE
 by_cases h0:d3 d=[]
 ·rw [b9 h0,b9 h0,<- K7,h0]
  refine⟨?_,rfl⟩
  show 0=min (dcW 53 (-1074) 0 e) _
  rw [lJ,uQ]
 ·rw [a6 h0,a6 h0]
  obtain⟨c,r,hcr⟩:∃ c r,d3 d=c ::r:=by
   cases h:d3 d with
   | nil=>exact absurd h h0
   | cons c r=>exact⟨c,r,rfl⟩
  have hlen:(d3 d).length=r.length+1:=by rw [hcr]; rfl
  have hge:=f1o hd hcr
  have hlt:=j1c hT
  rw [K7] at hlt
  by_cases h1:400 < neQ d e
  ·rw [b9 h1,b9 h1]
   unfold neQ at h1
   exact⟨(S5 (e2q hge (by omega))).symm,rfl⟩
  ·rw [a6 h1,a6 h1]
   by_cases h2:neQ d e < -400
   ·rw [b9 h2,b9 h2]
    unfold neQ at h2
    rw [m0j (by decide) ⟨by decide,by decide⟩ hlt (by omega),uQ]
    exact⟨rfl,rfl⟩
   ·rw [a6 h2,a6 h2]
    unfold neQ at h1 h2
    have hb:=W8 (t:=d3 d)
    have hmE:mdE (d3 d) e=0:=by
     unfold mdE
     rw [A5,a6 h0,a6 (by omega),a6 (by omega)]
    rw [a6 (by rw [hmE]; decide)]
    have hI:mdI (d3 d) e=true:=by
     unfold mdI
     rw [A5,hmE,d4 h0]
     rfl
    have hD:mdD (d3 d) e=mdS (d3 d):=by unfold mdD; rw [b9 hI]
    have hX:mdX (d3 d) e=e+mdB (d3 d):=by unfold mdX; rw [b9 hI]
    have hS:dcN d=dcN (mdS (d3 d))*10 ^(mdB (d3 d)).toNat:=by
     have h3:=sZ (d3 d)
     rw [K7] at h3
     have h4:mdS (d3 d)=D2 (d3 d):=by unfold mdS; rw [A5]
     have h5:(mdB (d3 d)).toNat=(d3 d).length- (D2 (d3 d)).length:=by
      unfold mdB
      rw [A5,h4]
      omega
     rw [h4,h5]
     exact h3
    obtain⟨c2,r2,hc2,_⟩:=jR (t:=d3 d) (by rw [A5]; exact h0)
    have hSd:n8 (mdS (d3 d))=true:=allDB_mem.2 fun b hb=>allDB_mem.1 hT b (uV hb)
    obtain⟨_,hg⟩:=zY hSd
    refine⟨?_,hmE⟩
    rw [hD,hX]
    unfold raW
    rw [a6 (by rw [hc2]; exact List.cons_ne_nil _ _)]
    have q1:qtN (mdS (d3 d)) (e+mdB (d3 d))=dcN (mdS (d3 d))*pN 10 (e+mdB (d3 d)):=by
     unfold qtN pN
     rw [hg]
     split
     ·rfl
     ·rw [s4]
    have q2:qtD [49] (e+mdB (d3 d))=pD 10 (e+mdB (d3 d)):=by
     unfold qtD pD
     rw [j0u]
     split
     ·rfl
     ·rw [V1]
    have q3:nuW false (qtN (mdS (d3 d)) (e+mdB (d3 d))) (qtD [49] (e+mdB (d3 d)))=kS (qtN (mdS (d3 d)) (e+mdB (d3 d))) (qtD [49] (e+mdB (d3 d))):=rfl
    rw [q3,q1,q2,b0p (fN (by decide) _)]
    have q4:=sM (K:=53) (L:= -1074) (by decide) (dcN (mdS (d3 d))) (mdB (d3 d)).toNat e
    rw [<- hS,show e+(((mdB (d3 d)).toNat:Nat):Int)=e+mdB (d3 d) by omega] at q4
    rw [q4]
    rfl
end Go.Proofs.YtbdaebagmmmijaaGreatDoor
namespace Go.Proofs
def fU:Go.Shelf.Ren:=⟨fun | 171=>70 | 243=>124 | 246=>178 | 283=>171 | 284=>172 | 285=>173 | 286=>174 | 129=>188 | 317=>210 | 318=>211 | 319=>212 | 320=>213 | 337=>229 | 338=>230 | n=>n,fun | 3=>3 | 9=>9 | 2=>2 | 4=>4 | 171=>212 | 0=>0 | 53=>39 | 37=>22 | 5=>5 | 173=>214 | 212=>244 | 51=>94 | 20=>20 | 213=>245 | 46=>90 | 232=>272 | 233=>273 | n=>n,fun | 17=>1 | 18=>7 | 19=>8 | n=>n⟩
theorem cZ:Go.Proofs.LaysM.n171 zO7 fU where
 mixed:=by kernel_rfl
 f129:=Tryz.func188.trans (H5 some (by kernel_rfl))
 f171:=Tryz.func70.trans (H5 some (by kernel_rfl))
 f243:=Tryz.func124.trans (H5 some (by kernel_rfl))
 f246:=Tryz.func178.trans (H5 some (by kernel_rfl))
 f283:=Tryz.func171.trans (H5 some (by kernel_rfl))
 f284:=Tryz.func172.trans (H5 some (by kernel_rfl))
 f285:=Tryz.func173.trans (H5 some (by kernel_rfl))
 f286:=Tryz.func174.trans (H5 some (by kernel_rfl))
 f317:=Tryz.func210.trans (H5 some (by kernel_rfl))
 f318:=Tryz.func211.trans (H5 some (by kernel_rfl))
 f319:=Tryz.func212.trans (H5 some (by kernel_rfl))
 f320:=Tryz.func213.trans (H5 some (by kernel_rfl))
 f337:=Tryz.func229.trans (H5 some (by kernel_rfl))
 f338:=Tryz.func230.trans (H5 some (by kernel_rfl))
 t0:=Tryz.underlying0
 a0:=Tryz.isAgg0
 z0:=Tryz.sizeOf0
 v0:=Tryz.zeroValue0
 t2:=Tryz.underlying2
 a2:=Tryz.isAgg2
 z2:=Tryz.sizeOf2
 v2:=Tryz.zeroValue2
 t3:=Tryz.underlying3
 a3:=Tryz.isAgg3
 z3:=Tryz.sizeOf3
 v3:=Tryz.zeroValue3
 t4:=Tryz.underlying4
 a4:=Tryz.isAgg4
 z4:=Tryz.sizeOf4
 v4:=Tryz.zeroValue4
 t5:=Tryz.underlying5
 a5:=Tryz.isAgg5
 z5:=Tryz.sizeOf5
 v5:=Tryz.zeroValue5
 t9:=Tryz.underlying9
 a9:=Tryz.isAgg9
 z9:=Tryz.sizeOf9
 v9:=Tryz.zeroValue9
 t20:=Tryz.underlying20
 a20:=Tryz.isAgg20
 z20:=Tryz.sizeOf20
 v20:=Tryz.zeroValue20
 t37:=Tryz.underlying22
 a37:=Tryz.isAgg22
 z37:=Tryz.sizeOf22
 v37:=Tryz.zeroValue22
 t46:=Tryz.underlying90
 a46:=Tryz.isAgg90
 z46:=Tryz.sizeOf90
 v46:=Tryz.zeroValue90
 t51:=Tryz.underlying94
 a51:=Tryz.isAgg94
 z51:=Tryz.sizeOf94
 v51:=Tryz.zeroValue94
 t53:=Tryz.underlying39
 a53:=Tryz.isAgg39
 z53:=Tryz.sizeOf39
 v53:=Tryz.zeroValue39
 t171:=Tryz.underlying212
 a171:=Tryz.isAgg212
 z171:=Tryz.sizeOf212
 v171:=Tryz.zeroValue212
 t173:=Tryz.underlying214
 a173:=Tryz.isAgg214
 z173:=Tryz.sizeOf214
 v173:=Tryz.zeroValue214
 t212:=Tryz.underlying244
 a212:=Tryz.isAgg244
 z212:=Tryz.sizeOf244
 v212:=Tryz.zeroValue244
 t213:=Tryz.underlying245
 a213:=Tryz.isAgg245
 z213:=Tryz.sizeOf245
 t232:=Tryz.underlying272
 a232:=Tryz.isAgg272
 z232:=Tryz.sizeOf272
 v232:=Tryz.zeroValue272
 t233:=Tryz.underlying273
 a233:=Tryz.isAgg273
 z233:=Tryz.sizeOf273
 v233:=Tryz.zeroValue273
 g17:=by kernel_rfl
 g18:=by kernel_rfl
 g19:=by kernel_rfl
 i0:=by kernel_rfl
 i2:=by kernel_rfl
 i3:=by kernel_rfl
 i4:=by kernel_rfl
 i5:=by kernel_rfl
 i9:=by kernel_rfl
 i20:=by kernel_rfl
 i37:=by kernel_rfl
 i46:=by kernel_rfl
 i51:=by kernel_rfl
 i53:=by kernel_rfl
 i171:=by kernel_rfl
 i173:=by kernel_rfl
 i212:=by kernel_rfl
 i232:=by kernel_rfl
 i233:=by kernel_rfl
 m17:=by kernel_rfl
 m18:=by kernel_rfl
 m19:=by kernel_rfl
def U0:Go.Shelf.Ren:=⟨fun | 105=>57 | 212=>101 | 99=>102 | 165=>103 | 166=>104 | 170=>105 | 169=>106 | 263=>161 | 264=>147 | 206=>162 | 240=>163 | 241=>164 | 276=>204 | 277=>205 | n=>n,fun | 9=>9 | 3=>3 | 4=>4 | 20=>20 | 0=>0 | 46=>90 | 109=>125 | 5=>5 | 72=>129 | 76=>133 | 51=>94 | 146=>201 | 53=>39 | 148=>186 | 70=>127 | 37=>22 | 75=>132 | 127=>203 | 164=>235 | 80=>116 | n=>n,fun | n=>n⟩
theorem wG:Go.Proofs.Lays.n105 zO7 U0 where
 mixed:=by kernel_rfl
 f99:=Tryz.func102.trans (H5 some (by kernel_rfl))
 f105:=Tryz.func57.trans (H5 some (by kernel_rfl))
 f165:=Tryz.func103.trans (H5 some (by kernel_rfl))
 f166:=Tryz.func104.trans (H5 some (by kernel_rfl))
 f169:=Tryz.func106.trans (H5 some (by kernel_rfl))
 f170:=Tryz.func105.trans (H5 some (by kernel_rfl))
 f206:=Tryz.func162.trans (H5 some (by kernel_rfl))
 f212:=Tryz.func101.trans (H5 some (by kernel_rfl))
 f240:=Tryz.func163.trans (H5 some (by kernel_rfl))
 f241:=Tryz.func164.trans (H5 some (by kernel_rfl))
 f263:=Tryz.func161.trans (H5 some (by kernel_rfl))
 f264:=Tryz.func147.trans (H5 some (by kernel_rfl))
 f276:=Tryz.func204.trans (H5 some (by kernel_rfl))
 f277:=Tryz.func205.trans (H5 some (by kernel_rfl))
 t0:=Tryz.underlying0
 a0:=Tryz.isAgg0
 z0:=Tryz.sizeOf0
 v0:=Tryz.zeroValue0
 t3:=Tryz.underlying3
 a3:=Tryz.isAgg3
 z3:=Tryz.sizeOf3
 v3:=Tryz.zeroValue3
 t4:=Tryz.underlying4
 a4:=Tryz.isAgg4
 z4:=Tryz.sizeOf4
 v4:=Tryz.zeroValue4
 t5:=Tryz.underlying5
 a5:=Tryz.isAgg5
 z5:=Tryz.sizeOf5
 v5:=Tryz.zeroValue5
 t9:=Tryz.underlying9
 a9:=Tryz.isAgg9
 z9:=Tryz.sizeOf9
 v9:=Tryz.zeroValue9
 t20:=Tryz.underlying20
 a20:=Tryz.isAgg20
 z20:=Tryz.sizeOf20
 v20:=Tryz.zeroValue20
 t37:=Tryz.underlying22
 a37:=Tryz.isAgg22
 z37:=Tryz.sizeOf22
 v37:=Tryz.zeroValue22
 t46:=Tryz.underlying90
 a46:=Tryz.isAgg90
 z46:=Tryz.sizeOf90
 v46:=Tryz.zeroValue90
 t51:=Tryz.underlying94
 a51:=Tryz.isAgg94
 z51:=Tryz.sizeOf94
 v51:=Tryz.zeroValue94
 t53:=Tryz.underlying39
 a53:=Tryz.isAgg39
 z53:=Tryz.sizeOf39
 v53:=Tryz.zeroValue39
 t70:=Tryz.underlying127
 a70:=Tryz.isAgg127
 z70:=Tryz.sizeOf127
 v70:=Tryz.zeroValue127
 t72:=Tryz.underlying129
 a72:=Tryz.isAgg129
 z72:=Tryz.sizeOf129
 v72:=Tryz.zeroValue129
 t75:=Tryz.underlying132
 a75:=Tryz.isAgg132
 z75:=Tryz.sizeOf132
 v75:=Tryz.zeroValue132
 t76:=Tryz.underlying133
 a76:=Tryz.isAgg133
 z76:=Tryz.sizeOf133
 v76:=Tryz.zeroValue133
 t109:=Tryz.underlying125
 a109:=Tryz.isAgg125
 z109:=Tryz.sizeOf125
 v109:=Tryz.zeroValue125
 t127:=Tryz.underlying203
 a127:=Tryz.isAgg203
 z127:=Tryz.sizeOf203
 v127:=Tryz.zeroValue203
 t146:=Tryz.underlying201
 a146:=Tryz.isAgg201
 z146:=Tryz.sizeOf201
 v146:=Tryz.zeroValue201
 t148:=Tryz.underlying186
 a148:=Tryz.isAgg186
 z148:=Tryz.sizeOf186
 v148:=Tryz.zeroValue186
 t164:=Tryz.underlying235
 a164:=Tryz.isAgg235
 z164:=Tryz.sizeOf235
 v164:=Tryz.zeroValue235
theorem b0f:Go.Proofs.Builder.Extra zO7 U0 where
 sizeBuilder:=by kernel_rfl
 liesBuilder:=by kernel_rfl
 t5:=Tryz.underlying5
 a5:=Tryz.isAgg5
 z5:=Tryz.sizeOf5
 v5:=Tryz.zeroValue5
 infoByte:=by kernel_rfl
 cellsByte:=by kernel_rfl
 sizeByte:=by kernel_rfl
 neB5:=by decide
namespace YtbdaebagmmmijaaGreatDoor
open Go Go.RowKit Ev Go.Shelf Go.Sort Go.Lib
theorem w2v {w:World} (h:J0.I w):Lib.TabIs zO7 w "internal/strconv.uint64pow10" .u64 Lib.pow10Tab:=by
 obtain⟨t,fr,h⟩:=h.2.1
 unfold Lib.TabIs World.var?
 rw [show zO7.globalNamed "internal/strconv.uint64pow10" =some 1 by kernel_rfl]
 simp [h]
theorem y0q {n:Int} (h0: -9223372036854775808<=n) (h1:n<=9223372036854775807):Ev.Pure zO7 J0 70 [.int .i64 n] (.string ⟨⟨Lib.itoa n⟩⟩):=by
 refine⟨rfl,rfl, .inl ⟨enters_of Tryz.func70 (by kernel_rfl) (c:=_) rfl,fun w hw=> ?_⟩⟩
 refine (Any.strconv_Itoa cZ n h0 h1 w (w2v hw)).mono fun e w' ⟨he,k,os,hw'⟩=>⟨he,?_⟩
 rw [hw']; exact Lib.below_grow _ w (d7 _) k os
def e0k:List Value->Option (Value×List Prop)
 | [.string ⟨⟨s⟩⟩, .int .i64 n] =>some (.string ⟨⟨Lib.repeatL s n.toNat⟩⟩,[0<=n∧n<=9223372036854775807∧s.length*n.toNat<=140737488355328])
 | _=>none
theorem b0d (args:List Value) (v:Value) (l:List Prop) (h:e0k args=some (v,l)) (hl:d9 l):Ev.Pure zO7 J0 57 args v:=by
 unfold e0k at h
 split at h
 ·rename_i s n
  cases h
  obtain⟨⟨h0,h1,h2⟩,_⟩:=hl
  refine⟨rfl,rfl, .inl ⟨enters_of Tryz.func57 (by kernel_rfl) (c:=_) rfl,fun w hw=> ?_⟩⟩
  have:=Any.strings_Repeat wG b0f ⟨⟨s⟩⟩ n.toNat w (by omega) (by simpa [ByteArray.size] using h2)
  rw [W3 h0] at this
  exact this
 ·cases h
theorem e2b {u:Nat} (hu64:u < 18446744073709551616) (w:World) (htab:Lib.TabIs zO7 w "internal/strconv.uint64pow10" .u64 Lib.pow10Tab):
  Calls zO7 119 #[.int .u64 u, .int .i64 10] w fun e w'=>e= .returned (.string ⟨(zO11 u).toArray⟩)∧∃ k os,w'=grow (w.drewN k) os:=by
 have L:=cZ
 by_cases hs:u < 100
 ·have hsm:=Any.internal_strconv_small { L with } u hs
  go_enter Tryz.func119,Tryz.ntmps119
  go_wp2_with (go_at_call 171; refine (hsm _).mono ?_; rintro e w' ⟨rfl,rfl⟩)
  go_ret
  exact⟨rfl,0,#[],by simp [World.drewN_zero]⟩
 ·have hu1:1<=u:=by omega
  have hnd20:Lib.nDigits u<=20:=by have:=Lib.numDigits_eq u hu1 hu64; split at this <;> omega
  have hb3:Lib.nDigits u<=24:=by omega
  have hal:zO7.arrayLen 212=24:=by kernel_rfl
  have hsl:∀ W,(Instr.sliceAt 212 (.pointer (some ⟨w.heap.size,0,none⟩)) none (some (.int .i64 (Lib.nDigits u:Int))) none).run zO7 W= .ok (.slice (some ⟨w.heap.size,0,none⟩) (Lib.nDigits u) 24) W:=fun W=>by
   rw [run_sliceAt_array_h W 212 ⟨w.heap.size,0,none⟩ (by kernel_rfl) .i64 (Lib.nDigits u:Int) (by omega) (by rw [hal]; omega)]
   go_simp
  have hH0:=Lib.holds_zero0 w 212 (Lib.nDigits u) (by omega)
  have hfmt:=Any.internal_strconv_formatBase10 { L with } w.heap.size 0 24 u (Array.replicate (Lib.nDigits u) 0) (w.alloc (.cells Lib.zeros24 212)) hH0 (by rw [j0z]; exact Lib.lt_pow_nDigits u) hu64 (by rw [j0z]; omega)
  rw [j0z] at hfmt
  have hnum:=Any.internal_strconv_numDigits { L with } u hu1 hu64
  have HH0:=Lib.hid hH0
  have iu:(100:Int)<=(u:Int):=by omega
  clear hH0 hal
  go_enter Tryz.func119,Tryz.ntmps119
  go_wp2_with (first
   | (go_at_call 172; refine (hnum _ (Lib.tabIs_alloc htab _)).mono ?_; rintro e w' ⟨rfl,rfl⟩))
  go_at_call 173
  refine hfmt.mono ?_
  rintro e w' ⟨rfl,k,v',dk,rfl,hF⟩
  have hcv:(convert 22 9 (.slice (some ⟨w.heap.size,0,none⟩) (Lib.nDigits u) 24)).run zO7 ((putRow (fun (b:UInt8)=>zO3 .u8 (b.toNat:Int)) (w.alloc (.cells Lib.zeros24 212)) w.heap.size 0 dk).drewN k)= .ok (.string ⟨(zO11 u).toArray⟩) ((putRow (fun (b:UInt8)=>zO3 .u8 (b.toNat:Int)) (w.alloc (.cells Lib.zeros24 212)) w.heap.size 0 dk).drewN k):=by
   have h:=run_convert_bytes_back (P:=zO7) ((putRow (fun (b:UInt8)=>zO3 .u8 (b.toNat:Int)) (w.alloc (.cells Lib.zeros24 212)) w.heap.size 0 dk).drewN k) 22 9 5 ⟨w.heap.size,0,none⟩ 24 (zO11 u) (by kernel_rfl) (by kernel_rfl) (by kernel_rfl) (fun j hj=>by
    rw [Lib.row_is_numeral hF j hj,Lib.add_plain,World.cell?_drewN]
    exact cell?_putRow (fun (b:UInt8)=>zO3 .u8 (b.toNat:Int)) _ w.heap.size 0 _ dk HH0.out (by rw [hF.size,j0z]) j (by rw [hF.size]; rw [Lib.decDigits_length] at hj; exact hj))
   rw [Lib.decDigits_length] at h
   exact h
  go_wp2
  go_ret
  obtain⟨os,eo⟩:=Lib.fin_at w (.cells Lib.zeros24 212) dk k 0
  exact⟨rfl,k,os,eo⟩
theorem l1z {n:Int} (h0:0<=n) (h1:n < 18446744073709551616):Ev.Pure zO7 J0 119 [.int .u64 n, .int .i64 10] (.string ⟨⟨zO11 n.toNat⟩⟩):=by
 refine⟨rfl,rfl, .inl ⟨enters_of Tryz.func119 (by kernel_rfl) (c:=_) rfl,fun w hw=> ?_⟩⟩
 have:=e2b (u:=n.toNat) (by omega) w (w2v hw)
 rw [W3 h0] at this
 refine this.mono fun e w' ⟨he,k,os,hw'⟩=>⟨he,?_⟩
 rw [hw']; exact Lib.below_grow _ w (d7 _) k os
def e1j:List Value->Option (Value×List Prop)
 | [.int .u64 n, .int .i64 b] =>some (.string ⟨⟨zO11 n.toNat⟩⟩,[0<=n∧n < 18446744073709551616∧b=10])
 | _=>none
theorem j1g (args:List Value) (v:Value) (l:List Prop) (h:e1j args=some (v,l)) (hl:d9 l):Ev.Pure zO7 J0 119 args v:=by
 unfold e1j at h
 split at h
 ·rename_i n b
  cases h
  obtain⟨⟨h0,h1,rfl⟩,_⟩:=hl
  exact l1z h0 h1
 ·cases h
def j1n:List Value->Option (Value×List Prop)
 | [.int .i64 n] =>some (.string ⟨⟨Lib.itoa n⟩⟩,[-9223372036854775808<=n∧n<=9223372036854775807])
 | _=>none
theorem m1r (args:List Value) (v:Value) (l:List Prop) (h:j1n args=some (v,l)) (hl:d9 l):Ev.Pure zO7 J0 70 args v:=by
 unfold j1n at h
 split at h
 ·cases h; exact y0q hl.1.1 hl.1.2
 ·cases h
end YtbdaebagmmmijaaGreatDoor
end Go.Proofs
namespace Go.Proofs.YtbdaebagmmmijaaGreatDoor
open Go Go.RowKit Ev Wd
theorem gW {u:Nat} (h:¬u < 10):zO11 u=zO11 (u/10)++[UInt8.ofNat (48+u%10)] :=by
 rw [zO11,dif_neg h]
theorem N9 {u:Nat} (h:u < 10):zO11 u=[UInt8.ofNat (48+u)] :=by rw [zO11,dif_pos h]
theorem o1v (u:Nat):zO11 u≠[] :=by
 intro h
 have:=Lib.decDigits_length u
 rw [h] at this
 have:=Lib.nDigits_pos u
 simp at*
 omega
theorem gO {d:Nat} (h:d < 10):(UInt8.ofNat (48+d)).toNat=48+d:=by rw [UInt8.toNat_ofNat']; omega
theorem o0c {P:Nat->Prop} (h0:∀ u,u < 10->P u) (h1:∀ u,¬u < 10->P (u/10)->P u) (u:Nat):P u:=by
 induction u using Nat.strongRecOn with
 | ind u ih=>
  by_cases h:u < 10
  ·exact h0 u h
  ·exact h1 u h (ih (u/10) (by omega))
theorem e0z {c:UInt8} {r:List UInt8} (hc:48<=c.toNat∧c.toNat<=57) (hr:n8 r=true):n8 (c ::r)=true:=
 allDB_mem.2 fun b hb=>by
  rcases zzA84.1 hb with rfl | hb
  ·exact hc
  ·exact allDB_mem.1 hr b hb
theorem m0n {a b:List UInt8} (h1:n8 a=true) (h2:n8 b=true):n8 (a++b)=true:=by
 induction a with
 | nil=>exact h2
 | cons c r ih=>
  obtain⟨hc,hr⟩:=W7 h1
  exact e0z hc (ih hr)
theorem D8 (u:Nat):n8 (zO11 u)=true:=by
 refine o0c (P:=fun u=>n8 (zO11 u)=true) (fun u h=> ?_) (fun u h ih=> ?_) u
 ·rw [N9 h]
  exact e0z (by rw [gO h]; omega) rfl
 ·rw [gW h]
  exact m0n ih (e0z (by rw [gO (B0 _ (by decide))]; omega) rfl)
theorem o1g (d:Nat) (h:d < 10):dcN [UInt8.ofNat (48+d)] =d:=by
 unfold dcN
 rw [e0w,List.foldl_nil,dcF,gO h]
 omega
theorem k1m (u:Nat):dcN (zO11 u)=u:=by
 refine o0c (P:=fun u=>dcN (zO11 u)=u) (fun u h=> ?_) (fun u h ih=> ?_) u
 ·rw [N9 h,o1g u h]
 ·rw [gW h,F3,ih,o1g _ (B0 _ (by decide))]
  simp
  omega
theorem a2p (r:Nat):1 < Lib.nDigits r->10 ^(Lib.nDigits r-1)<=r:=by
 refine o0c (P:=fun r=>1 < Lib.nDigits r->10 ^(Lib.nDigits r-1)<=r) (fun u h h1=> ?_) (fun u h ih _=> ?_) r
 ·rw [Lib.nDigits_small h] at h1; omega
 ·rw [Lib.nDigits_big h,iV]
  have hp:=Lib.nDigits_pos (u/10)
  rcases E0 1 (Lib.nDigits (u/10)) with h1 | h1
  ·have h2:=ih h1
   rw [show Lib.nDigits (u/10)=(Lib.nDigits (u/10)-1)+1 by omega,p9]
   omega
  ·rw [show Lib.nDigits (u/10)=1 by omega]
   omega
def p1u (n r:Nat):List UInt8:=zO6 (n- (zO11 r).length) 48++zO11 r
theorem I4 {r n:Nat} (h:r < 10 ^n) (hn:0 < n):(zO11 r).length<=n:=by
 rw [Lib.decDigits_length]
 rcases E0 n (Lib.nDigits r) with h1 | h1
 ·exfalso
  have h2:=a2p r
  have:10 ^n<=10 ^(Lib.nDigits r-1):=w7 (by decide) (by omega)
  have h3:1 < Lib.nDigits r:=by omega
  have:=h2 h3
  omega
 ·exact h1
theorem i0l {q:Nat} (hq:0 < q):∀ (n r:Nat),r < 10 ^(n+1)->zO11 (q*10 ^(n+1)+r)=zO11 q++p1u (n+1) r
 | 0,r,h=>by
  have h:r < 10:=h
  rw [gW (by omega),show (q*10 ^(0+1)+r)/10=q by omega,show (q*10 ^(0+1)+r)%10=r by omega]
  unfold p1u
  rw [N9 h]
  rfl
 | n+1,r,h=>by
  have hp:10 ^(n+1+1)=10 ^(n+1)*10:=p9 10 (n+1)
  rw [hp] at h ⊢
  have hd:(q*(10 ^(n+1)*10)+r)/10=q*10 ^(n+1)+r/10:=by rw [<- f9]; omega
  have hm:(q*(10 ^(n+1)*10)+r)%10=r%10:=by rw [<- f9]; omega
  have hpos:0 < 10 ^(n+1):=p7 (by decide)
  have hbig:¬q*(10 ^(n+1)*10)+r < 10:=by
   have:1*(10 ^(n+1)*10)<=q*(10 ^(n+1)*10):=o9 _ hq
   have:1<=10 ^(n+1):=hpos
   omega
  rw [gW hbig,hd,hm,i0l hq n (r/10) (by omega),uN]
  congr 1
  unfold p1u
  by_cases hr:r < 10
  ·rw [show r/10=0 by omega,N9 hr,N9 (u:=0) (by decide),show r%10=r by omega]
   show (zO6 n 48++[48])++_=zO6 (n+1) 48++_
   rw [List.replicate_succ']
  ·rw [gW hr,s9]
   simp
theorem I7 (n:Nat):Lib.repeatL [48] n=zO6 n 48:=by
 induction n with
 | zero=>rfl
 | succ n ih=>rw [Lib.repeatL,ih]; rfl
theorem u0j {P:Nat->Prop} [DecidablePred P] :∀ (m:Nat),P m->∃ k,k<=m∧P k∧∀ i,i < k->¬P i
 | 0,h=>⟨0,d7 _,h,fun i hi=>by omega⟩
 | m+1,h=>by
  by_cases hm:∃ i,i<=m∧P i
  ·obtain⟨i,hi,hp⟩:=hm
   obtain⟨k,k1,k2,k3⟩:=u0j i hp
   exact⟨k,by omega,k2,k3⟩
  ·exact⟨m+1,d7 _,h,fun i hi hp=>hm ⟨i,by omega,hp⟩⟩
def b2i:Tab:=l5 119 e1j (l5 57 e0k c1n)
theorem y0g:Q0 zO7 J0 b2i:=b7 j1g (b7 b0d kC)
def bTx:Base:=⟨zO7,J0,false,b2i,k0c,200,I6⟩
theorem fI:BaseOk bTx:=⟨progOk,y0g,iX,m0⟩
abbrev XTx:Cx:=bTx.cx 10
def cTx:Code:=D3 zO7 91 0
def cTy:Code:=D3 zO7 91 1
def m2t (A:List Int) (na:Nat):St:=⟨only 59 [(1, .pointer (some ⟨13,0,none⟩)),(2, .string ⟨⟨[]⟩⟩),(3, .slice none 0 0),(4, .pointer (some ⟨17,0,none⟩))],[(17, .cells [.bool false, .slice (some ⟨11,0,some 12⟩) na 0] 113),(13, .cells [.bool false, .slice (some ⟨11,0,some 12⟩) na 0] 113),(11, .ints .u64 A)],18,[],[],0,none,[],13⟩
def tTx (A Y:List Int) (na ny:Nat) (f:Nat->List Value) (k:Nat):St:=⟨only 59 [(1, .pointer (some ⟨13,0,none⟩)),(2, .string ⟨⟨[]⟩⟩),(3, .slice (some ⟨18,0,some 19⟩) k 0),(4, .pointer (some ⟨17,0,none⟩))],[(18, .row 9 1 (.fam f k) 19),(17, .cells [.bool false, .slice (some ⟨15,0,some 16⟩) ny 0] 113),(15, .row Z8 1 (.ints .u64 Y) 16),(13, .cells [.bool false, .slice (some ⟨11,0,some 12⟩) na 0] 113),(11, .ints .u64 A)],20,[],[],0,none,[],13⟩
def q2m (k:Nat) (g:Nat->UInt8) (h:Nat->List UInt8) (i:Int):St:=⟨only 59 [(2, .string ⟨⟨[]⟩⟩),(3, .slice (some ⟨18,0,some 19⟩) k 0),(8, .pointer (some ⟨20,0,none⟩)),(9, .int .i64 i)],[(20, .cells [.pointer none, .slice none 0 0] 129),(18, .row 9 1 (.fam (fun i=>[.string ⟨⟨g i ::h i⟩⟩]) k) 19)],21,[],[],0,none,[],13⟩
def tTy (k:Nat) (g:Nat->UInt8) (h:Nat->List UInt8) (n:Nat) (c:UInt8) (t:List UInt8) (i:Int):St:=⟨only 59 [(2, .string ⟨⟨[]⟩⟩),(3, .slice (some ⟨18,0,some 19⟩) k 0),(8, .pointer (some ⟨20,0,none⟩)),(9, .int .i64 i)],[(20, .cells [.pointer (some ⟨20,0,none⟩), .slice (some ⟨21,0,some 22⟩) n.succ 0] 129),(21, .row 5 1 (.bytes (c ::t)) 22),(18, .row 9 1 (.fam (fun i=>[.string ⟨⟨g i ::h i⟩⟩]) k) 19)],23,[],[],0,none,[],13⟩
abbrev txQ (Z:List Int):List Int:=s1e Z 1000000000000000000
abbrev txR (Z:List Int):List UInt8:=zO11 (q0c Z 1000000000000000000).toNat
abbrev txZ (Z:List Int):Int:=iI.wrap (18-zO2 (txR Z).length)
abbrev txP (Z:List Int):List UInt8:=Lib.repeatL [48] (txZ Z).toNat++txR Z
abbrev txO (Z:List Int) (b:Prop) (ny:Nat):List Prop:=[0<=q0c Z 1000000000000000000∧q0c Z 1000000000000000000 < 18446744073709551616∧(10:Int)=10,b,Cn Z,Z.length < 549755813888,(0:Int) < 1000000000000000000∧(1000000000000000000:Int).toNat < W64,decide (zO2 0 < zO2 ny)=true]
abbrev txN (k:Nat):Prop:=(k+1)*16<=140737488355328∧k+1<=9223372036854775807
abbrev w2g (Z:List Int):List Prop:=[(Lib.repeatL [48] (txZ Z).toNat).length+(txR Z).length<=9223372036854775807,0<=txZ Z∧txZ Z<=9223372036854775807∧1*(txZ Z).toNat<=140737488355328,decide (zO2 0 < zO2 (txQ Z).length)=true]
def g2b (t:List UInt8) (f:Nat->List Value):Nat->List Value
 | 0=>[.string ⟨⟨t⟩⟩]
 | i+1=>f i
section
variable (A Y:List Int) (na ny:Nat) (f:Nat->List Value) (k:Nat)
theorem h2f (hl:d9 ([(f k).map vC=[.string ⟨⟨txR (Y.take ny)⟩⟩],k*1=(qS f k).length∧txN k,decide (zO2 0 < zO2 (txQ (Y.take ny)).length)=false] ++txO (Y.take ny) (ny<=Y.length) ny)):u7 XTx cTx (tTx A Y na ny f k) .normal (tTx A (txQ (Y.take ny)) na (txQ (Y.take ny)).length f (k+1)):=
 stp fI 10 progOk.mixed [true,false] [(18,25),(19,26),(17,28),(15,20),(16,21)] (by kernel_rfl) hl
theorem g2k (hl:d9 ([(f k).map vC=[.string ⟨⟨txP (Y.take ny)⟩⟩],k*1=(qS f k).length∧txN k] ++w2g (Y.take ny)++txO (Y.take ny) (ny<=Y.length) ny)):u7 XTx cTx (tTx A Y na ny f k) .normal (tTx A (txQ (Y.take ny)) na (txQ (Y.take ny)).length f (k+1)):=
 stp fI 10 progOk.mixed [true,true] [(18,25),(19,26),(17,28),(15,20),(16,21)] (by kernel_rfl) hl
theorem m2x (hl:d9 [decide (zO2 0 < zO2 ny)=false]):u7 XTx cTx (tTx A Y na ny f k) (.exit 0) (tTx A Y na ny f k):=
 stp fI 10 progOk.mixed [false] [] (by kernel_rfl) hl
theorem a2t (hl:d9 ([16<=140737488355328∧1<=9223372036854775807,decide (zO2 0 < zO2 (txQ A).length)=false] ++txO A (na=A.length) na)):u7 XTx cTx (m2t A na) .normal (tTx A (txQ A) na (txQ A).length (g2b (txR A) f) 1):=
 stp fI 10 progOk.mixed [true,false] [(18,23),(19,24),(17,26),(15,18),(16,19)] (by kernel_rfl) hl
theorem e2n (hl:d9 ([16<=140737488355328∧1<=9223372036854775807] ++w2g A++txO A (na=A.length) na)):u7 XTx cTx (m2t A na) .normal (tTx A (txQ A) na (txQ A).length (g2b (txP A) f) 1):=
 stp fI 10 progOk.mixed [true,true] [(18,23),(19,24),(17,26),(15,18),(16,19)] (by kernel_rfl) hl
theorem e2o {x:AX} {s':St} (h:d5 XTx cTx (m2t A A.length) x s'):d5 XTx cTx (o7 XTx 200 91 [iL false A] [false]) x s':=
 m6 h []
end
section
variable (k:Nat) (g:Nat->UInt8) (h:Nat->List UInt8) (n:Nat) (c:UInt8) (t:List UInt8) (i:Int)
abbrev tyA (i:Int):Nat:=bF (addO 0 i.toNat) 0 1
abbrev tyO (k:Nat) (g:Nat->UInt8) (h:Nat->List UInt8) (i:Int):List Prop:=[(qS (fun i=>[.string ⟨⟨g i ::h i⟩⟩]) k)[addO 0 i.toNat]? =some (.string ⟨⟨g (tyA i) ::h (tyA i)⟩⟩),(zO2 0<=i∧i < zO2 k)∧0 < (qS (fun i=>[.string ⟨⟨g i ::h i⟩⟩]) k).length,decide (zO2 0<=i)=true]
theorem t1a (hl:d9 ([((h (tyA i)).length+1)*1<=140737488355328∧(h (tyA i)).length+1<=9223372036854775807] ++tyO k g h i)):u7 XTx cTy (q2m k g h i) .normal (tTy k g h (h (tyA i)).length (g (tyA i)) (h (tyA i)) (iI.wrap (i-1))):=
 stp fI 10 progOk.mixed [true] [(21,22),(22,23)] (by kernel_rfl) hl
theorem d2c (hl:d9 ([n.succ*1=(c ::t).length∧(n.succ+((h (tyA i)).length+1))*1<=140737488355328∧n.succ+((h (tyA i)).length+1)<=9223372036854775807] ++tyO k g h i)):u7 XTx cTy (tTy k g h n c t i) .normal (tTy k g h (n.succ+(h (tyA i)).length) c (t++(g (tyA i) ::h (tyA i))) (iI.wrap (i-1))):=
 stp fI 10 progOk.mixed [true] [(21,23),(22,24)] (by kernel_rfl) hl
theorem l2m (hl:d9 [decide (zO2 0<=i)=false]):u7 XTx cTy (tTy k g h n c t i) (.exit 2) (tTy k g h n c t i):=
 stp fI 10 progOk.mixed [false] [] (by kernel_rfl) hl
end
abbrev txF (g:Nat->UInt8) (h:Nat->List UInt8):Nat->List Value:=fun i=>[.string ⟨⟨g i ::h i⟩⟩]
def tTm (A Y:List Int) (na ny:Nat) (g:Nat->UInt8) (h:Nat->List UInt8) (k:Nat):St:=⟨only 59 [(1, .pointer (some ⟨13,0,none⟩)),(2, .string ⟨⟨[]⟩⟩),(3, .slice (some ⟨18,0,some 19⟩) k 0),(4, .pointer (some ⟨17,0,none⟩)),(8, .pointer (some ⟨20,0,none⟩)),(9, .int .i64 (iI.wrap ((k:Int)-1))),(43, .pointer (some ⟨13,addO 0 0,none⟩)),(44, .bool false),(46, .slice (some ⟨18,0,some 19⟩) k 0),(47, .int .i64 k),(48, .int .i64 (iI.wrap ((k:Int)-1)))],[(20, .cells [.pointer none, .slice none 0 0] 129),(18, .row 9 1 (.fam (txF g h) k) 19),(17, .cells [.bool false, .slice (some ⟨15,0,some 16⟩) ny 0] 113),(15, .row Z8 1 (.ints .u64 Y) 16),(13, .cells [.bool false, .slice (some ⟨11,0,some 12⟩) na 0] 113),(11, .ints .u64 A)],21,[],[],0,none,[],13⟩
section
variable (A Y:List Int) (na ny:Nat) (g:Nat->UInt8) (h:Nat->List UInt8) (k n:Nat) (c:UInt8) (t:List UInt8) (i:Int)
theorem l2k:A7 XTx [X4 (.exit 0) (fun _=>tTx A Y na ny (txF g h) k),X4 (.exit 2) (fun _=>tTy k g h n c t i)] 200 91 [iL false A] [.c (.v (.string ⟨⟨c ::t⟩⟩))] [false,false] =some [n.succ=(c ::t).length∧n.succ<=9223372036854775807,d5 XTx cTy (tTm A Y na ny g h k) (.exit 2) (tTy k g h n c t i),false=false,d5 XTx cTx (o7 XTx 200 91 [iL false A] [false]) (.exit 0) (tTx A Y na ny (txF g h) k),A.length=A.length∧A.length < 1099511627776∧m9 A=A,(zO2 A.length==zO2 0)=false,Value.string ⟨⟨c ::t⟩⟩=Value.string ⟨⟨c ::t⟩⟩] :=by kernel_rfl
theorem h2a:A7 XTx [] 200 91 [iL false A] [.c (.v (.string ⟨⟨[48]⟩⟩))] [true] =some [(zO2 A.length==zO2 0)=true,Value.string ⟨⟨[48]⟩⟩=Value.string ⟨⟨[48]⟩⟩] :=by kernel_rfl
theorem h2i {x:AX} {s':St} (hh:d5 XTx cTy (q2m k g h (iI.wrap ((k:Int)-1))) x s'):d5 XTx cTy (tTm A Y na ny g h k) x s':=
 m6 hh []
end
def txB (N k:Nat):Nat:=N/ (1000000000000000000 ^k)
theorem qJ (N:Nat):txB N 0=N:=by unfold txB; simp
theorem e0a (N k:Nat):txB N (k+1)=txB N k/1000000000000000000:=by
 unfold txB
 rw [p9,nV]
def txC (N i:Nat):List UInt8:=if txB N (i+1)=0 then zO11 (txB N i%1000000000000000000) else p1u 18 (txB N i%1000000000000000000)
theorem e2v (n r:Nat):p1u n r≠[] :=by
 unfold p1u
 intro h
 exact o1v r (List.append_eq_nil_iff.1 h).2
theorem y1b (N i:Nat):txC N i≠[] :=by
 unfold txC
 split
 ·exact o1v _
 ·exact e2v _ _
theorem j0h {l:List UInt8} (h:l≠[]):l.headD 48 ::l.tail=l:=by
 cases l with
 | nil=>exact absurd rfl h
 | cons c r=>rfl
def txG (N i:Nat):UInt8:=(txC N i).headD 48
def txH (N i:Nat):List UInt8:=(txC N i).tail
theorem o2v (N i:Nat):txG N i ::txH N i=txC N i:=j0h (y1b N i)
theorem q1q (N:Nat):txF (txG N) (txH N)=g2b (txC N 0) (fun i=>txF (txG N) (txH N) (i+1)):=by
 funext i
 cases i with
 | zero=>show [Value.string ⟨⟨txG N 0 ::txH N 0⟩⟩] =[Value.string ⟨⟨txC N 0⟩⟩]; rw [o2v]
 | succ i=>rfl
theorem c0f (N:Nat):∀ k,qS (txF (txG N) (txH N)) k=(List.range k).map fun i=>Value.string ⟨⟨txC N i⟩⟩
 | 0=>rfl
 | k+1=>by
  rw [List.range_succ,jK]
  show qS (txF (txG N) (txH N)) k++[Value.string ⟨⟨txG N k ::txH N k⟩⟩] =_
  rw [c0f N k,o2v]
  rfl
theorem t0w (N k:Nat):(qS (txF (txG N) (txH N)) k).length=k:=by rw [c0f]; simp
theorem g2n (N:Nat) {i k:Nat} (h:i < k):(qS (txF (txG N) (txH N)) k)[i]? =some (.string ⟨⟨txG N i ::txH N i⟩⟩):=by
 rw [c0f,S8,List.getElem?_range h,o2v]
 rfl
theorem o1f (o:Nat):bF o 0 1=o:=by unfold bF; simp
theorem l0y (m:Nat):txQ (ws W64 m)=ws W64 (m/1000000000000000000):=by
 unfold txQ s1e
 rw [s7]
 rfl
theorem t0g (m:Nat):q0c (ws W64 m) 1000000000000000000=((m%1000000000000000000:Nat):Int):=by
 unfold q0c
 rw [s7]
 rfl
theorem h0c (m:Nat):txR (ws W64 m)=zO11 (m%1000000000000000000):=by
 unfold txR
 rw [t0g,i8]
theorem p1d (m:Nat):(zO11 (m%1000000000000000000)).length<=18:=I4 (B0 _ (by decide)) (by decide)
theorem j0q (m:Nat):txZ (ws W64 m)=((18- (zO11 (m%1000000000000000000)).length:Nat):Int):=by
 unfold txZ
 rw [h0c]
 have:=p1d m
 show iI.wrap (18- ((zO11 (m%1000000000000000000)).length:Int))=_
 have:=F9 (18- ((zO11 (m%1000000000000000000)).length:Int))
 omega
theorem x1k (m:Nat):txP (ws W64 m)=p1u 18 (m%1000000000000000000):=by
 unfold txP p1u
 rw [h0c,j0q,i8,I7]
theorem x0a {m:Nat} {b:Prop} (hb:b) (h:wl m < 549755813888) (hm:0 < m):d9 (txO (ws W64 m) b (ws W64 m).length):=by
 have hp:0 < (ws W64 m).length:=wl_pos.2 hm
 have hr:=B0 m (y:=1000000000000000000) (by decide)
 refine⟨⟨by rw [t0g]; omega,by rw [t0g]; omega,rfl⟩,hb,by unfold Cn; rw [s7],h,⟨by decide,by decide⟩,d4 (zzA186.2 hp),a7⟩
theorem e1k {m:Nat} (h:0 < m/1000000000000000000):d9 (w2g (ws W64 m)):=by
 have hl:=p1d m
 refine⟨?_,⟨?_,?_,?_⟩,d4 (zzA186.2 ?_),a7⟩
 ·rw [j0q,i8,I7,G5,h0c]; omega
 ·rw [j0q]; omega
 ·rw [j0q]; omega
 ·rw [j0q,i8]; omega
 ·rw [l0y]; exact wl_pos.2 h
def txS (N:Nat):Nat->St
 | 0=>m2t (ws W64 N) (ws W64 N).length
 | k+1=>tTx (ws W64 N) (ws W64 (txB N (k+1))) (ws W64 N).length (ws W64 (txB N (k+1))).length (txF (txG N) (txH N)) (k+1)
theorem y1i (N k:Nat):txB N k<=N:=jX _ _
theorem c2r {N:Nat} (hN:wl N < 549755813888) (k:Nat) (hk:k < 1000000000000) (hp:0 < txB N k):u7 XTx cTx (txS N k) .normal (txS N (k+1)):=by
 have hw:wl (txB N k) < 549755813888:=y4 (cH (y1i N k)) hN
 have hs:=e0a N k
 cases k with
 | zero=>
  rw [qJ] at hp hs
  show u7 XTx cTx (m2t (ws W64 N) (ws W64 N).length) .normal (tTx (ws W64 N) (ws W64 (txB N 1)) (ws W64 N).length (ws W64 (txB N 1)).length (txF (txG N) (txH N)) 1)
  rw [q1q,hs,<- l0y]
  have hC:txC N 0=if N/1000000000000000000=0 then zO11 (N%1000000000000000000) else p1u 18 (N%1000000000000000000):=by
   unfold txC; rw [hs,qJ]
  by_cases h0:N/1000000000000000000=0
  ·rw [hC,b9 h0,<- h0c]
   refine a2t _ _ _ ⟨by decide,b8 ?_,x0a rfl hN hp⟩
   rw [l0y,h0]
   exact kD _
  ·rw [hC,a6 h0,<- x1k]
   exact e2n _ _ _ ⟨by decide,(i6 _ _).2 ⟨e1k (nR h0),x0a rfl hN hp⟩⟩
 | succ k=>
  show u7 XTx cTx (tTx (ws W64 N) (ws W64 (txB N (k+1))) (ws W64 N).length (ws W64 (txB N (k+1))).length (txF (txG N) (txH N)) (k+1)) .normal (tTx (ws W64 N) (ws W64 (txB N (k+1+1))) (ws W64 N).length (ws W64 (txB N (k+1+1))).length (txF (txG N) (txH N)) (k+1+1))
  rw [hs,<- l0y]
  have ht:(ws W64 (txB N (k+1))).take (ws W64 (txB N (k+1))).length=ws W64 (txB N (k+1)):=y5
  have hC:txC N (k+1)=if txB N (k+1)/1000000000000000000=0 then zO11 (txB N (k+1)%1000000000000000000) else p1u 18 (txB N (k+1)%1000000000000000000):=by
   unfold txC; rw [hs]
  have hm:(txF (txG N) (txH N) (k+1)).map vC=[.string ⟨⟨txC N (k+1)⟩⟩] :=by
   rw [<- o2v]; rfl
  have hn:(k+1)*1=(qS (txF (txG N) (txH N)) (k+1)).length∧txN (k+1):=⟨by rw [t0w,s4],by omega,by omega⟩
  by_cases h0:txB N (k+1)/1000000000000000000=0
  ·have:=h2f (ws W64 N) (ws W64 (txB N (k+1))) (ws W64 N).length (ws W64 (txB N (k+1))).length (txF (txG N) (txH N)) (k+1)
   rw [ht] at this
   refine this ⟨?_,hn,b8 ?_,x0a (d7 _) hw hp⟩
   ·rw [hm,hC,b9 h0,h0c]
   ·rw [l0y,h0]
    exact kD _
  ·have:=g2k (ws W64 N) (ws W64 (txB N (k+1))) (ws W64 N).length (ws W64 (txB N (k+1))).length (txF (txG N) (txH N)) (k+1)
   rw [ht] at this
   refine this ⟨?_,hn,(i6 _ _).2 ⟨e1k (nR h0),x0a (d7 _) hw hp⟩⟩
   rw [hm,hC,a6 h0,x1k]
def txD (N i:Nat):List UInt8:=zO11 (txB N i)
theorem x0r (N i:Nat) (h:0 < txB N (i+1)):txD N i=txD N (i+1)++txC N i:=by
 unfold txD txC
 rw [a6 (by omega)]
 have hs:=e0a N i
 have:=Y1 (txB N i) 1000000000000000000
 rw [<- hs] at this
 have:=i0l h 17 (txB N i%1000000000000000000) (B0 _ (by decide))
 rw [<- this]
 congr 1
 show txB N i=txB N (i+1)*1000000000000000000+_
 omega
theorem x0z (N i:Nat) (h:txB N (i+1)=0):txD N i=txC N i:=by
 unfold txD txC
 rw [b9 h]
 have hs:=e0a N i
 congr 1
 omega
def tyS (N K:Nat):Nat->St
 | 0=>q2m K (txG N) (txH N) ((K:Int)-1)
 | j+1=>tTy K (txG N) (txH N) (txD N (K-1-j)).tail.length ((txD N (K-1-j)).headD 48) (txD N (K-1-j)).tail ((K:Int)-1- ((j+1:Nat):Int))
theorem h0m (N i:Nat):txD N i≠[] :=o1v _
theorem qI {l:List UInt8} (h:l≠[]):l.tail.length+1=l.length:=by
 cases l with
 | nil=>exact absurd rfl h
 | cons c r=>rfl
theorem f0i (N i:Nat) {M:Nat} (hM:0 < M) (h:N < 10 ^M):(txD N i).length<=M:=I4 (y4 (y1i N i) h) hM
theorem e2l {N K M:Nat} (hM:M<=140000000000) (hM0:0 < M) (hN:N < 10 ^M) (hK:K < 1000000000000) (h0:txB N K=0) (h1:∀ i,i < K->0 < txB N i) (j:Nat) (hj:j < K):u7 XTx cTy (tyS N K j) .normal (tyS N K (j+1)):=by
 have hi:(((K:Int)-1- (j:Int)).toNat)=K-1-j:=by omega
 have hA:tyA ((K:Int)-1- (j:Int))=K-1-j:=by
  unfold tyA
  rw [o1f,hi]
  rfl
 have hO:d9 (tyO K (txG N) (txH N) ((K:Int)-1- (j:Int))):=by
  refine⟨?_,⟨⟨?_,?_⟩,?_⟩,d4 ?_,a7⟩
  ·rw [hA,hi]
   show (qS (txF (txG N) (txH N)) K)[K-1-j]? =_
   exact g2n N (by omega)
  ·show (0:Int)<=_; omega
  ·show _ < (K:Int); omega
  ·show 0 < (qS (txF (txG N) (txH N)) K).length
   rw [t0w]; omega
  ·show (0:Int)<=_; omega
 have hw:iI.wrap ((K:Int)-1- (j:Int)-1)=(K:Int)-1- ((j+1:Nat):Int):=by
  have:=F9 ((K:Int)-1- (j:Int)-1)
  omega
 have hlen:=qI (y1b N (K-1-j))
 have hCl:(txC N (K-1-j)).length<=M:=by
  cases hz:txB N (K-1-j+1) with
  | zero=>rw [<- x0z N _ hz]; exact f0i N _ hM0 hN
  | succ z=>
   have:=f0i N (K-1-j) hM0 hN
   rw [x0r N _ (by omega),s9] at this
   omega
 cases j with
 | zero=>
  have hD:txD N (K-1-0)=txC N (K-1-0):=x0z N _ (by rw [show K-1-0+1=K by omega]; exact h0)
  have:=t1a K (txG N) (txH N) ((K:Int)-1- ((0:Nat):Int)) ⟨?_,hO⟩
  ·rw [hA,hw] at this
   show u7 XTx cTy (q2m K (txG N) (txH N) ((K:Int)-1)) .normal (tTy K (txG N) (txH N) (txD N (K-1-0)).tail.length ((txD N (K-1-0)).headD 48) (txD N (K-1-0)).tail ((K:Int)-1- ((0+1:Nat):Int)))
   rw [hD]
   have e:(K:Int)-1- ((0:Nat):Int)=(K:Int)-1:=by omega
   rw [e] at this
   exact this
  ·rw [hA]
   show ((txC N (K-1-0)).tail.length+1)*1<=_∧(txC N (K-1-0)).tail.length+1<=_
   omega
 | succ j=>
  have hD:txD N (K-1- (j+1))=txD N (K-1-j)++txC N (K-1- (j+1)):=by
   have:=x0r N (K-1- (j+1)) (h1 _ (by omega))
   rwa [show K-1- (j+1)+1=K-1-j by omega] at this
  have hl0:=qI (h0m N (K-1-j))
  have hl1:=qI (h0m N (K-1- (j+1)))
  have hDl:=f0i N (K-1- (j+1)) hM0 hN
  have hlD:(txD N (K-1- (j+1))).length=(txD N (K-1-j)).length+(txC N (K-1- (j+1))).length:=by rw [hD,s9]
  have hhd:(txD N (K-1- (j+1))).headD 48=(txD N (K-1-j)).headD 48∧(txD N (K-1- (j+1))).tail=(txD N (K-1-j)).tail++txC N (K-1- (j+1)):=by
   have hne:=h0m N (K-1-j)
   rw [hD]
   cases hl:txD N (K-1-j) with
   | nil=>exact absurd hl hne
   | cons c r=>exact⟨rfl,rfl⟩
  have:=d2c K (txG N) (txH N) (txD N (K-1-j)).tail.length ((txD N (K-1-j)).headD 48) (txD N (K-1-j)).tail ((K:Int)-1- ((j+1:Nat):Int)) ⟨?_,hO⟩
  ·rw [hA,hw,o2v] at this
   show u7 XTx cTy (tTy K (txG N) (txH N) (txD N (K-1-j)).tail.length ((txD N (K-1-j)).headD 48) (txD N (K-1-j)).tail ((K:Int)-1- ((j+1:Nat):Int))) .normal (tTy K (txG N) (txH N) (txD N (K-1- (j+1))).tail.length ((txD N (K-1- (j+1))).headD 48) (txD N (K-1- (j+1))).tail ((K:Int)-1- ((j+1+1:Nat):Int)))
   rw [hhd.1,hhd.2,s9,<- hlen]
   have e:(txD N (K-1-j)).tail.length.succ+(txH N (K-1- (j+1))).length=(txD N (K-1-j)).tail.length+((txC N (K-1- (j+1))).tail.length+1):=by
    show _+1+(txC N (K-1- (j+1))).tail.length=_
    omega
   rw [e] at this
   exact this
  ·rw [hA]
   show (_+1)*1=(_ ::_:List UInt8).length∧((txD N (K-1-j)).tail.length+1+((txC N (K-1- (j+1))).tail.length+1))*1<=_∧(txD N (K-1-j)).tail.length+1+((txC N (K-1- (j+1))).tail.length+1)<=_
   refine⟨by simp,by omega,by omega⟩
theorem r1g {N M:Nat} (hw:wl N < 549755813888) (hM:M<=140000000000) (hM0:0 < M) (hN:N < 10 ^M):Ev.Sem zO7 J0 91 [iN false N] [.c (.v (.string ⟨⟨zO11 N⟩⟩))] :=by
 rcases F2 N with rfl | hpos
 ·rw [N9 (u:=0) (by decide)]
  exact l6 fI 10 _ _ (h2a (ws W64 0)) ⟨rfl,rfl,a7⟩
 ·obtain⟨K,k1,k2,k3⟩:=u0j (P:=fun k=>txB N k=0) M (by
   refine uE (E3 hN ?_)
   exact oX (by decide) _)
  have h1:∀ i,i < K->0 < txB N i:=fun i hi=>nR (k3 i hi)
  have hK0:0 < K:=by
   rcases F2 K with rfl | h
   ·rw [qJ] at k2; omega
   ·exact h
  obtain⟨k,rfl⟩:∃ k,K=k+1:=⟨K-1,by omega⟩
  have hrun:=A8 (txS N) (k+1) (x:= .exit 0) (by intro e; cases e) (fun i hi=>c2r hw i (by omega) (h1 i hi)) (m2x _ _ _ _ _ _ ⟨b8 (by rw [k2]; exact kD _),a7⟩)
  have hrun2:=A8 (tyS N (k+1)) (k+1) (x:= .exit 2) (by intro e; cases e) (fun i hi=>e2l hM hM0 hN (by omega) k2 h1 i hi) (l2m _ _ _ _ _ _ _ ⟨b8 (by show ¬(0:Int)<=_; omega),a7⟩)
  have e0:k+1-1-k=0:=by omega
  have hw1:iI.wrap (((k+1:Nat):Int)-1)=((k+1:Nat):Int)-1:=by
   have:=F9 (((k+1:Nat):Int)-1)
   omega
  rw [e0] at hrun2
  have hD:txD N 0=zO11 N:=by unfold txD; rw [qJ]
  have hht:=j0h (h0m N 0)
  have hl:=f0i N 0 hM0 hN
  have hlt:=qI (h0m N 0)
  have hwN:(ws W64 N).length≠0:=Nat.pos_iff_ne_zero.1 (wl_pos.2 hpos)
  have:=l6 fI 10 _ _ (l2k (ws W64 N) (ws W64 (txB N (k+1))) (ws W64 N).length (ws W64 (txB N (k+1))).length (txG N) (txH N) (k+1) (txD N 0).tail.length ((txD N 0).headD 48) (txD N 0).tail (((k+1:Nat):Int)-1- ((k+1:Nat):Int)))
   ⟨⟨rfl,by show _+1<=_; omega⟩,h2i _ _ _ _ _ _ _ (by rw [hw1]; exact hrun2),rfl,e2o _ hrun,⟨rfl,by have:(ws W64 N).length=wl N:=rfl; omega,by rw [K9 C4 (g0t N),s7]⟩,x8 (fun e=>hwN (zO2.inj e)),rfl,a7⟩
  rw [hht,hD] at this
  exact this
def s0y:List Arg->Option (List Arg×List Prop)
 | [.a [.v (.bool false), .s 39 .u64 xs]] =>some ([.c (.v (.string ⟨⟨zO11 (val W64 xs)⟩⟩))],[Cn xs,xs.length < 7000000000])
 | _=>none
theorem z0k:∀ az rs l,s0y az=some (rs,l)->d9 l->Ev.Sem zO7 J0 91 az rs:=by
 intro az rs l h hl
 unfold s0y at h
 split at h
 ·cases h
  rename_i xs
  obtain⟨h1,h2,_⟩:=hl
  unfold Cn at h1
  have hwl:wl (val W64 xs) < 7000000000:=by unfold wl; rw [<- h1]; exact h2
  have hb:val W64 xs < 10 ^(20*wl (val W64 xs)+1):=by
   refine E3 (k0x _) ?_
   refine x7 (oX (show W64<=10 ^20 by decide) _) ?_
   rw [<- rZ]
   exact w7 (by decide) (by omega)
  have:=r1g (by omega) (by omega) (by omega) hb
  unfold iN at this
  rw [<- h1] at this
  exact this
 ·cases h
end Go.Proofs.YtbdaebagmmmijaaGreatDoor
namespace Go.Proofs.YtbdaebagmmmijaaGreatDoor
open Go Go.RowKit Ev
theorem r0m:Ev.Pure zO7 J0 49 [.int .i64 (-1022)] (.float .f64 4503599627370496):=
 d6 w1u 30 [] [] (l:=[]) (by kernel_rfl) trivial
open Go Go.RowKit Ev VaS
def e2z:Tab:=l5 49 (atS [([.int .i64 (-1022)], .float .f64 4503599627370496)]) j0p
theorem v0e:Q0 zO7 J0 e2z:=b7 (O5 (fun p hp=>by simp only [zzA84,T3,V5] at hp; subst hp; exact r0m)) Z4
def bPa:Base:=⟨zO7,J0,false,e2z,F4,2000,I6⟩
theorem y0a:BaseOk bPa:=⟨progOk,v0e,n9 _ _,m0⟩
def j2g (x:Nat):Nat:=(uI.wrap ↑(zO10 uI.bits ↑x&&& ~~~zO10 uI.bits 9223372036854775808).toNat).toNat
theorem c2s {x:Nat} (hx:x < 18446744073709551616):j2g x=x%p63:=by
 unfold j2g
 have h0:(zO10 uI.bits (x:Int)).toNat=x:=by
  show (zO10 64 (x:Int)).toNat=x
  rw [pG,oJ]
  exact H3 hx
 have h3:(zO10 uI.bits (x:Int)&&& ~~~zO10 uI.bits 9223372036854775808).toNat=x%p63:=by
  rw [bV,h0,show (~~~zO10 uI.bits 9223372036854775808).toNat=2 ^63-1 by decide]
  exact W2 _ 63
 rw [h3]
 have h4:x%p63 < 9223372036854775808:=B0 _ (by decide)
 have h5:uI.wrap ((x%p63:Nat):Int)=((x%p63:Nat):Int):=by
  simp [IntKind.wrap,IntKind.bits,IntKind.signed]
  omega
 rw [h5,i8]
def c1B (x:Nat):Bool:=Ieee.double.order x x !=some .eq
def c2B (x:Nat):Bool:=Ieee.double.order (j2g x) 9218868437227405311==some .gt
def c3B (x:Nat):Bool:=Ieee.double.order (j2g x) 0==some .eq
def c4B (x:Nat):Bool:=Ieee.double.order (j2g x) 4503599627370496==some .lt
section
variable (x:Nat)
theorem a3k:b6 (bPa.cx 12) [] 200 15 [.float .f64 x] [true] =some (.int .i64 1,[c1B x=true]):=by kernel_rfl
theorem a3c:b6 (bPa.cx 12) [] 200 15 [.float .f64 x] [false,true] =some (.int .i64 2,[c2B x=true,c1B x=false]):=by kernel_rfl
theorem x2j:b6 (bPa.cx 12) [] 200 15 [.float .f64 x] [false,false,true] =some (.int .i64 3,[c3B x=true,c2B x=false,c1B x=false]):=by kernel_rfl
theorem y2d:b6 (bPa.cx 12) [] 200 15 [.float .f64 x] [false,false,false,true] =some (.int .i64 4,[c4B x=true,c3B x=false,c2B x=false,c1B x=false]):=by kernel_rfl
theorem z2c:b6 (bPa.cx 12) [] 200 15 [.float .f64 x] [false,false,false,false] =some (.int .i64 5,[c4B x=false,c3B x=false,c2B x=false,c1B x=false]):=by kernel_rfl
end
def T8 (x:Nat):Int:=if P9 x=true then 1 else if x%p63=9218868437227405312 then 2 else if x%p63=0 then 3 else if x%p63 < 4503599627370496 then 4 else 5
theorem q0b {a b:Nat} (ha:a<=9218868437227405312) (hb:b<=9218868437227405312):Ieee.double.order a b=some (compare (a:Int) (b:Int)):=by
 have hm:∀ {c:Nat},c<=9218868437227405312->c%p63=c:=fun {c} h=>H3 (by unfold p63; omega)
 have hs:∀ {c:Nat},c<=9218868437227405312->w0q c=(c:Int):=fun {c} h=>by
  unfold w0q
  rw [a6 (by unfold p63; omega),hm h]
 have hn:∀ {c:Nat},c<=9218868437227405312->P9 c=false:=fun {c} h=>by
  unfold P9
  rw [hm h]
  exact b8 (by omega)
 rw [P8 (by omega) (by omega)]
 unfold n1v
 rw [hn ha,hn hb,hs ha,hs hb]
 rfl
theorem z0g {x:Nat} (hx:x < 18446744073709551616):Ev.Pure zO7 J0 15 [.float .f64 x] (.int .i64 (T8 x)):=by
 have e1:c1B x=P9 x:=by
  unfold c1B
  rw [P8 hx hx]
  unfold n1v
  cases P9 x <;> simp
 have pureX:∀ {ds:List Bool} {v:Value} {l:List Prop},b6 (bPa.cx 12) [] 200 15 [.float .f64 x] ds=some (v,l)->d9 l->Ev.Pure zO7 J0 15 [.float .f64 x] v:=fun h hl=>by
  obtain⟨h1,h2⟩:=q9 y0a 12
  exact G6 h1 h2 h hl
 unfold T8
 cases hn:P9 x with
 | true=>
  simp only [J3]
  exact pureX (a3k x) ⟨by rw [e1,hn],a7⟩
 | false=>
  simp only [P3,D7]
  have hle:x%p63<=9218868437227405312:=by
   have:=L4 hn
   omega
  have o1:c1B x=false:=by rw [e1,hn]
  have hcmp:∀ (b:Nat) (o:Ordering),b<=9218868437227405312->(Ieee.double.order (j2g x) b==some o)=(compare ((x%p63:Nat):Int) (b:Int)==o):=fun b o hb=>by
   rw [c2s hx,q0b hle hb]
   rfl
  have o2:c2B x=decide (x%p63=9218868437227405312):=by
   unfold c2B
   rw [hcmp _ _ (by decide)]
   by_cases h:x%p63=9218868437227405312
   ·rw [h]; rfl
   ·rw [b8 h]
    refine x8 fun e=> ?_
    have:=Int.compare_eq_gt.1 e
    omega
  by_cases h2:x%p63=9218868437227405312
  ·rw [b9 h2]
   exact pureX (a3c x) ⟨by rw [o2,d4 h2],o1,a7⟩
  rw [a6 h2]
  have o2':c2B x=false:=by rw [o2,b8 h2]
  have o3:c3B x=decide (x%p63=0):=by
   unfold c3B
   rw [hcmp _ _ (by decide)]
   by_cases h:x%p63=0
   ·rw [h]; rfl
   ·rw [b8 h]
    refine x8 fun e=> ?_
    have:=zzA220.1 e
    omega
  by_cases h3:x%p63=0
  ·rw [b9 h3]
   exact pureX (x2j x) ⟨by rw [o3,d4 h3],o2',o1,a7⟩
  rw [a6 h3]
  have o3':c3B x=false:=by rw [o3,b8 h3]
  have o4:c4B x=decide (x%p63 < 4503599627370496):=by
   unfold c4B
   rw [hcmp _ _ (by decide)]
   by_cases h:x%p63 < 4503599627370496
   ·rw [d4 h]
    exact beq_iff_eq.2 (Int.compare_eq_lt.2 (by omega))
   ·rw [b8 h]
    refine x8 fun e=> ?_
    have:=Int.compare_eq_lt.1 e
    omega
  by_cases h4:x%p63 < 4503599627370496
  ·rw [b9 h4]
   exact pureX (y2d x) ⟨by rw [o4,d4 h4],o3',o2',o1,a7⟩
  ·rw [a6 h4]
   exact pureX (z2c x) ⟨by rw [o4,b8 h4],o3',o2',o1,a7⟩
theorem m0u {b:Base} (hb:BaseOk b) {k:Nat} {L:V4} {fuel:Nat} {ds:List Bool} {f:FuncId} {args:List Value} {v:Value} {l:List Prop} (h:b6 (b.cx k) L fuel f args ds=some (v,l)) (hl:d9 l):Ev.Pure b.P b.J f args v:=by
 obtain⟨h1,h2⟩:=q9 hb k
 have:=G6 h1 h2 h hl
 cases k with
 | zero=>exact this
 | succ k=>exact this
def ngE (x:Nat):Bool:=match Ieee.double.order x x==some .eq with | true=>decide (iI.wrap (x:Int) < 0) | false=>false
theorem k2f (x:Nat):b6 (bPa.cx 12) [] 200 142 [.float .f64 x] [] =some (.bool (ngE x),[]):=by kernel_rfl
def p1n (x:Nat):Bool:= !P9 x && decide (p63<=x)
theorem eqx {x:Nat} (hx:x < 18446744073709551616):(Ieee.double.order x x==some .eq)= !P9 x:=by
 rw [P8 hx hx]
 unfold n1v
 cases P9 x <;> simp
theorem c0e {x:Nat} (hx:x < 18446744073709551616):Ev.Pure zO7 J0 142 [.float .f64 x] (.bool (p1n x)):=by
 have h:=m0u y0a (k2f x) trivial
 rw [show ngE x=p1n x by
  unfold ngE p1n
  rw [eqx hx]
  cases P9 x with
  | true=>rfl
  | false=>
   simp only [Bool.not_false,j2e]
   rw [zzA163]
   have:=F9 (x:Int)
   unfold p63
   omega] at h
 exact h
theorem a3w (x:Nat):b6 (bPa.cx 12) [] 200 31 [.float .f64 x] [true] =some (.float .f64 9221120237041090560,[c1B x=true]):=by kernel_rfl
theorem a3s (x:Nat):b6 (bPa.cx 12) [] 200 31 [.float .f64 x] [false] =some (.float .f64 x,[c1B x=false]):=by kernel_rfl
theorem v1j {x:Nat} (hx:x < 18446744073709551616):Ev.Pure zO7 J0 31 [.float .f64 x] (.float .f64 (mW x)):=by
 have e1:c1B x=P9 x:=by
  unfold c1B
  rw [P8 hx hx]
  unfold n1v
  cases P9 x <;> simp
 unfold mW
 cases hn:P9 x with
 | true=>simp only [J3]; exact m0u y0a (a3w x) ⟨by rw [e1,hn],a7⟩
 | false=>simp only [P3,D7]; exact m0u y0a (a3s x) ⟨by rw [e1,hn],a7⟩
def kU:List Value->Option (Value×List Prop)
 | [.float .f64 x] =>some (.int .i64 (T8 x),[x < 18446744073709551616])
 | _=>none
theorem oV (args:List Value) (v:Value) (l:List Prop) (h:kU args=some (v,l)) (hl:d9 l):Ev.Pure zO7 J0 15 args v:=by
 unfold kU at h
 split at h
 ·cases h; exact z0g hl.1
 ·cases h
def p0y:List Value->Option (Value×List Prop)
 | [.float .f64 x] =>some (.bool (p1n x),[x < 18446744073709551616])
 | _=>none
theorem y0w (args:List Value) (v:Value) (l:List Prop) (h:p0y args=some (v,l)) (hl:d9 l):Ev.Pure zO7 J0 142 args v:=by
 unfold p0y at h
 split at h
 ·cases h; exact c0e hl.1
 ·cases h
def n2i:Tab:=l5 142 p0y (l5 15 kU e2z)
theorem r1h:Q0 zO7 J0 n2i:=b7 y0w (b7 oV v0e)
def bPb:Base:=⟨zO7,J0,false,n2i,F4,2000,I6⟩
theorem j0s:BaseOk bPb:=⟨progOk,r1h,n9 _ _,m0⟩
def r2i (x:Nat):Int:=uI.wrap ↑(zO10 uI.bits ↑x&&& zO10 uI.bits 4503599627370495).toNat
def orE (x:Nat):Int:=uI.wrap ↑(zO10 uI.bits (r2i x)||| zO10 uI.bits 4503599627370496).toNat
def v2e (x:Nat):Int:=iI.wrap (iI.wrap (uI.wrap ↑(zO10 uI.bits (Int.fdiv (x:Int) (2 ^min (Int.toNat 52) uI.bits))&&& zO10 uI.bits 2047).toNat)-1075)
def spV (g:Bool) (m e er:Int):Value:= .tuple ⟨[.bool g, .int .u64 m, .int .i64 e, .int .i64 er]⟩
section
variable (x:Nat)
theorem a3x:b6 (bPb.cx 12) [] 200 88 [.float .f64 x] [true,true] =some (spV false 0 0 10,[(T8 x==1)=true,(T8 x==1)=true,x < 18446744073709551616]):=by kernel_rfl
theorem z2h:b6 (bPb.cx 12) [] 200 88 [.float .f64 x] [false,true] =some (spV false 0 0 10,[(T8 x==2)=true,(T8 x==1)=false,x < 18446744073709551616]):=by kernel_rfl
theorem y2z:b6 (bPb.cx 12) [] 200 88 [.float .f64 x] [false,false,true] =some (spV (p1n x) 0 0 0,[x < 18446744073709551616,(T8 x==3)=true,(T8 x==2)=false,(T8 x==1)=false,x < 18446744073709551616]):=by kernel_rfl
theorem a3m:b6 (bPb.cx 12) [] 200 88 [.float .f64 x] [false,false,false,true] =some (spV (p1n x) (r2i x) (-1074) 0,[x < 18446744073709551616,(T8 x==4)=true,(T8 x==3)=false,(T8 x==2)=false,(T8 x==1)=false,x < 18446744073709551616]):=by kernel_rfl
theorem x2q:b6 (bPb.cx 12) [] 200 88 [.float .f64 x] [false,false,false,false] =some (spV (p1n x) (orE x) (v2e x) 0,[x < 18446744073709551616,(T8 x==4)=false,(T8 x==3)=false,(T8 x==2)=false,(T8 x==1)=false,x < 18446744073709551616]):=by kernel_rfl
end
theorem ofI {x:Nat} (hx:x < 18446744073709551616):(zO10 uI.bits (x:Int)).toNat=x:=by
 show (zO10 64 (x:Int)).toNat=x
 rw [pG,oJ]
 exact H3 hx
theorem wU {n:Nat} (h:n < 18446744073709551616):uI.wrap (n:Int)=(n:Int):=by
 simp [IntKind.wrap,IntKind.bits,IntKind.signed]
 omega
theorem wI {n:Int} (h0: -9223372036854775808<=n) (h1:n<=9223372036854775807):iI.wrap n=n:=by
 have:=F9 n
 omega
theorem l1g {x:Nat} (hx:x < 18446744073709551616):r2i x=((x%4503599627370496:Nat):Int):=by
 unfold r2i
 have h3:(zO10 uI.bits (x:Int)&&& zO10 uI.bits 4503599627370495).toNat=x%4503599627370496:=by
  rw [bV,ofI hx,show (zO10 uI.bits 4503599627370495).toNat=2 ^52-1 by decide]
  exact W2 _ 52
 rw [h3,wU (by omega)]
theorem m2c {x:Nat} (hx:x < 18446744073709551616):orE x=((x%4503599627370496+4503599627370496:Nat):Int):=by
 unfold orE
 rw [l1g hx]
 have hm:x%4503599627370496 < 2 ^52:=B0 _ (by decide)
 have h3:(zO10 uI.bits ((x%4503599627370496:Nat):Int)||| zO10 uI.bits 4503599627370496).toNat=x%4503599627370496+4503599627370496:=by
  rw [h0d,ofI (by omega),show (zO10 uI.bits 4503599627370496).toNat=2 ^52*1 by decide,Nat.or_comm,<- m0q hm]
  omega
 rw [h3,wU (by omega)]
theorem d2z {x:Nat} (hx:x < 18446744073709551616):v2e x=((x/4503599627370496%2048:Nat):Int)-1075:=by
 unfold v2e
 have hf:Int.fdiv (x:Int) (2 ^min (Int.toNat 52) uI.bits)=((x/4503599627370496:Nat):Int):=by
  show Int.fdiv (x:Int) 4503599627370496=_
  rw [aV _ (by decide)]
  omega
 rw [hf]
 have h3:(zO10 uI.bits ((x/4503599627370496:Nat):Int)&&& zO10 uI.bits 2047).toNat=x/4503599627370496%2048:=by
  rw [bV,ofI (by omega),show (zO10 uI.bits 2047).toNat=2 ^11-1 by decide]
  exact W2 _ 11
 rw [h3,wU (by omega),wI (n:=((x/4503599627370496%2048:Nat):Int)) (by omega) (by omega),wI (by omega) (by omega)]
def T4 (x:Nat):Nat:=if T8 x<=3 then 0 else if T8 x=4 then x%4503599627370496 else x%4503599627370496+4503599627370496
def J2 (x:Nat):Int:=if T8 x<=3 then 0 else if T8 x=4 then -1074 else ((x/4503599627370496%2048:Nat):Int)-1075
def v0u (x:Nat):Bool:=if T8 x<=2 then false else p1n x
def q1d (x:Nat):Int:=if T8 x<=2 then 10 else 0
theorem n1q (x:Nat):T8 x=1∨T8 x=2∨T8 x=3∨T8 x=4∨T8 x=5:=by
 unfold T8
 split
 ·simp
 split
 ·simp
 split
 ·simp
 split <;> simp
theorem m1l {x:Nat} (hx:x < 18446744073709551616):Ev.Pure zO7 J0 88 [.float .f64 x] (spV (v0u x) (T4 x) (J2 x) (q1d x)):=by
 unfold v0u T4 J2 q1d
 rcases n1q x with h | h | h | h | h
 ·have:=m0u j0s (a3x x) ⟨by rw [h]; rfl,by rw [h]; rfl,hx,a7⟩
  rw [h]
  exact this
 ·have:=m0u j0s (z2h x) ⟨by rw [h]; rfl,by rw [h]; rfl,hx,a7⟩
  rw [h]
  exact this
 ·have:=m0u j0s (y2z x) ⟨hx,by rw [h]; rfl,by rw [h]; rfl,by rw [h]; rfl,hx,a7⟩
  rw [h]
  exact this
 ·have:=m0u j0s (a3m x) ⟨hx,by rw [h]; rfl,by rw [h]; rfl,by rw [h]; rfl,by rw [h]; rfl,hx,a7⟩
  rw [l1g hx] at this
  rw [h]
  exact this
 ·have:=m0u j0s (x2q x) ⟨hx,by rw [h]; rfl,by rw [h]; rfl,by rw [h]; rfl,by rw [h]; rfl,hx,a7⟩
  rw [m2c hx,d2z hx] at this
  rw [h]
  exact this
open Go Go.RowKit Ev Wd VaS
def s0o:List Value->Option (Value×List Prop)
 | [.float .f64 x] =>some (spV (v0u x) (T4 x) (J2 x) (q1d x),[x < 18446744073709551616])
 | _=>none
theorem c1m (args:List Value) (v:Value) (l:List Prop) (h:s0o args=some (v,l)) (hl:d9 l):Ev.Pure zO7 J0 88 args v:=by
 unfold s0o at h
 split at h
 ·cases h; exact m1l hl.1
 ·cases h
def v1k:Tab:=l5 88 s0o (l5 45 d0c (l5 94 dM (l5 12 y0c b2i)))
theorem f0x:Q0 zO7 J0 v1k:=b7 c1m (b7 zB (b7 jU (b7 h0n y0g)))
def n1h:iG:=m4 91 (z6 [shI] s0y) k0c
theorem l0p:iD zO7 J0 n1h:=d8 (l7 _ z0k) iX
def bTe:Base:=⟨zO7,J0,false,v1k,n1h,200,I6⟩
theorem h0b:BaseOk bTe:=⟨progOk,f0x,l0p,m0⟩
abbrev XTe:Cx:=bTe.cx 10
def cOf:Code:=D3 zO7 50 0
def tOf (g:Bool) (m:Nat) (e b i:Int):St:=⟨only 58 [(2, .pointer (some ⟨11,0,none⟩)),(3, .int .i64 0),(4, .bool g),(5, .int .u64 m),(6, .int .i64 e),(31, .int .i64 b),(32, .int .i64 i)],[(11, .cells [.bool false, .string ⟨⟨[]⟩⟩, .int .i64 0] 33)],12,[],[],0,none,[],11⟩
abbrev ofB (m:Nat):Bool:=match (m:Int).tmod 2==0 with
 | true=>decide ((m:Int) > 0)
 | false=>false
abbrev oW (w:List Int):List Int:=w.take w.length
abbrev oM (m:Int) (e:Int):List Int:=D4 (oW (s6 m)) (oW (aZ [5] (iI.wrap (0-e))))
abbrev oL (m:Int) (e:Int):List Int:=m5 (oW (s6 m)) e
abbrev oT (w:List Int):List UInt8:=zO11 (val W64 (oW w))
abbrev oR (g:Bool) (t:List UInt8) (x:Int):List Arg:=[dA (mdN g t x) (mdD t x) (mdX t x),iR (mdE t x)]
section
variable (x:Nat) (g:Bool) (m:Nat) (e b i:Int)
theorem b2k (hl:d9 [ofB m=false,decide (i < b)=true]):u7 XTe cOf (tOf g m e b i) .normal (tOf g m e b (iI.wrap (i+1))):=
 stp h0b 10 progOk.mixed [true,false] [] (by kernel_rfl) hl
theorem h2b (hl:d9 [ofB m=true,decide (i < b)=true]):u7 XTe cOf (tOf g m e b i) .normal (tOf g (m/2%18446744073709551616) (iI.wrap (e+1)) b (iI.wrap (i+1))):=
 stp h0b 10 progOk.mixed [true,true] [] (by kernel_rfl) hl
theorem m2n (hl:d9 [decide (i < b)=false]):u7 XTe cOf (tOf g m e b i) (.exit 0) (tOf g m e b i):=
 stp h0b 10 progOk.mixed [false] [] (by kernel_rfl) hl
theorem d2g {z:AX} {s':St} (h:d5 XTe cOf (tOf (v0u x) (T4 x) (J2 x) (iI.wrap (0-J2 x)) 0) z s'):d5 XTe cOf (o7 XTe 200 50 [xR x] [false,false]) z s':=
 m6 h []
theorem p2w:A7 XTe [X4 (.exit 0) (fun _=>tOf g m e b i)] 200 50 [xR x] (oR g (oT (oM m e)) e) [false,false] =some [(oT (oM m e)).length<=140737488351232,(oM m e).length<=(oM m e).length,Cn (oW (oM m e)),(oW (oM m e)).length < 7000000000,(s6 m).length<=(s6 m).length,(aZ [5] (iI.wrap (0-e))).length<=(aZ [5] (iI.wrap (0-e))).length,Cn (oW (s6 m)),Cn (oW (aZ [5] (iI.wrap (0-e)))),(oW (s6 m)).length < 274877906944,(oW (aZ [5] (iI.wrap (0-e)))).length < 274877906944,1<=1,Cn [5],0<=iI.wrap (0-e)∧(iI.wrap (0-e)).toNat < 4611686018427387904,1+(iI.wrap (0-e)).toNat*1 < 274877906944,(0:Int)<=5∧(5:Int).toNat < W64,(0:Int)<=(m:Int)∧(m:Int).toNat < W64,d5 XTe cOf (o7 XTe 200 50 [xR x] [false,false]) (.exit 0) (tOf g m e b i),decide (zO2 0<=J2 x)=false,(q1d x !=0)=false,x < 18446744073709551616,dcV (mdN g (oT (oM m e)) e) (mdD (oT (oM m e)) e) (mdX (oT (oM m e)) e)=dcV (mdN g (oT (oM m e)) e) (mdD (oT (oM m e)) e) (mdX (oT (oM m e)) e),zO3 .i64 (mdE (oT (oM m e)) e)=zO3 .i64 (mdE (oT (oM m e)) e)] :=by kernel_rfl
theorem t2z:A7 XTe [] 200 50 [xR x] (oR (v0u x) (oT (oL (T4 x) (J2 x))) 0) [false,true] =some [(oT (oL (T4 x) (J2 x))).length<=140737488351232,(oL (T4 x) (J2 x)).length<=(oL (T4 x) (J2 x)).length,Cn (oW (oL (T4 x) (J2 x))),(oW (oL (T4 x) (J2 x))).length < 7000000000,(s6 (T4 x)).length<=(s6 (T4 x)).length,Cn (oW (s6 (T4 x))),(oW (s6 (T4 x))).length < 549755813888,0<=J2 x∧(J2 x).toNat < 549755813888,(0:Int)<=(T4 x:Int)∧(T4 x:Int).toNat < W64,decide (zO2 0<=J2 x)=true,(q1d x !=0)=false,x < 18446744073709551616,dcV (mdN (v0u x) (oT (oL (T4 x) (J2 x))) 0) (mdD (oT (oL (T4 x) (J2 x))) 0) (mdX (oT (oL (T4 x) (J2 x))) 0)=dcV (mdN (v0u x) (oT (oL (T4 x) (J2 x))) 0) (mdD (oT (oL (T4 x) (J2 x))) 0) (mdX (oT (oL (T4 x) (J2 x))) 0),zO3 .i64 (mdE (oT (oL (T4 x) (J2 x))) 0)=zO3 .i64 (mdE (oT (oL (T4 x) (J2 x))) 0)] :=by kernel_rfl
end
def ofS (m:Nat) (e:Int):Nat->Nat×Int
 | 0=>(m,e)
 | k+1=>if (ofS m e k).1%2=0∧0 < (ofS m e k).1 then ((ofS m e k).1/2,(ofS m e k).2+1) else ofS m e k
theorem h1g (m:Nat) (e:Int):∀ k,∃ j:Nat,j<=k∧m=(ofS m e k).1*2 ^j∧(ofS m e k).2=e+j
 | 0=>⟨0,d7 _,by simp [ofS],by simp [ofS]⟩
 | k+1=>by
  obtain⟨j,h1,h2,h3⟩:=h1g m e k
  unfold ofS
  split
  ·rename_i hc
   refine⟨j+1,by omega,?_,by simp only; omega⟩
   simp only
   rw [p9,n4 (2 ^j) 2,<- f9,show (ofS m e k).1/2*2=(ofS m e k).1 by omega]
   exact h2
  ·exact⟨j,by omega,h2,h3⟩
theorem y1u (m:Nat):ofB m=decide (m%2=0∧0 < m):=by
 unfold ofB
 have h1:((m:Int).tmod 2==0)=decide (m%2=0):=by
  rw [Int.tmod_eq_emod_of_nonneg (y9 _)]
  by_cases h:m%2=0
  ·rw [d4 h]
   exact beq_iff_eq.2 (by omega)
  ·rw [b8 h]
   exact x8 (by omega)
 rw [h1]
 by_cases h:m%2=0
 ·rw [d4 h]
  show decide ((m:Int) > 0)=_
  by_cases hp:0 < m
  ·rw [d4 (show (m:Int) > 0 by omega),d4 (show _∧_ from⟨h,hp⟩)]
  ·rw [b8 (show ¬(m:Int) > 0 by omega),b8 (fun q=>hp q.2)]
 ·rw [b8 h]
  exact (b8 (fun q=>h q.1)).symm
theorem e2h {m:Nat} {e:Int} (g:Bool) {b:Nat} (hm:m < 18446744073709551616) (he: -10000<=e∧e<=0) (hb:b<=10000) (k:Nat) (hk:k < b):u7 XTe cOf (tOf g (ofS m e k).1 (ofS m e k).2 (b:Int) (k:Int)) .normal (tOf g (ofS m e (k+1)).1 (ofS m e (k+1)).2 (b:Int) ((k+1:Nat):Int)):=by
 obtain⟨j,h1,h2,h3⟩:=h1g m e k
 have hw:iI.wrap ((k:Int)+1)=((k+1:Nat):Int):=by
  have:=F9 ((k:Int)+1)
  omega
 have hlt:decide ((k:Int) < (b:Int))=true:=d4 (by omega)
 have hle:(ofS m e k).1<=m:=by
  have h4:=t0v (ofS m e k).1 (E6 j)
  rw [<- h2] at h4
  exact h4
 by_cases hc:(ofS m e k).1%2=0∧0 < (ofS m e k).1
 ·have:=h2b g (ofS m e k).1 (ofS m e k).2 (b:Int) (k:Int) ⟨by rw [y1u]; exact d4 hc,hlt,a7⟩
  have hw2:iI.wrap ((ofS m e k).2+1)=(ofS m e k).2+1:=by
   have:=F9 ((ofS m e k).2+1)
   omega
  rw [hw,hw2,H3 (by omega)] at this
  have e1:ofS m e (k+1)=((ofS m e k).1/2,(ofS m e k).2+1):=by
   show (if (ofS m e k).1%2=0∧0 < (ofS m e k).1 then ((ofS m e k).1/2,(ofS m e k).2+1) else ofS m e k)=_
   rw [b9 hc]
  rw [e1]
  exact this
 ·have:=b2k g (ofS m e k).1 (ofS m e k).2 (b:Int) (k:Int) ⟨by rw [y1u]; exact b8 hc,hlt,a7⟩
  rw [hw] at this
  have e1:ofS m e (k+1)=ofS m e k:=by
   show (if (ofS m e k).1%2=0∧0 < (ofS m e k).1 then ((ofS m e k).1/2,(ofS m e k).2+1) else ofS m e k)=_
   rw [a6 hc]
  rw [e1]
  exact this
def doP (x:Nat):Nat×Int:=ofS (T4 x) (J2 x) (-(J2 x)).toNat
def doN (x:Nat):Nat:=if 0<=J2 x then T4 x*2 ^(J2 x).toNat else (doP x).1*5 ^(-(doP x).2).toNat
def doT (x:Nat):List UInt8:=zO11 (doN x)
def doX (x:Nat):Int:=if 0<=J2 x then 0 else (doP x).2
theorem g1b (x:Nat):T4 x < 9007199254740992:=by
 unfold T4
 split
 ·omega
 ·split <;> omega
theorem nE (x:Nat): -1075<=J2 x∧J2 x<=972:=by
 unfold J2
 split
 ·omega
 ·split <;> omega
theorem kI (x:Nat) (h:J2 x < 0):∃ j:Nat,T4 x=(doP x).1*2 ^j∧(doP x).2=J2 x+j∧(doP x).2<=0∧-1075<=(doP x).2∧(doP x).1<=T4 x:=by
 obtain⟨j,h1,h2,h3⟩:=h1g (T4 x) (J2 x) (-(J2 x)).toNat
 have:=nE x
 refine⟨j,h2,h3,?_,?_,?_⟩
 ·show (ofS _ _ _).2<=0; omega
 ·show -1075<=(ofS _ _ _).2; omega
 ·have h4:=t0v (ofS (T4 x) (J2 x) (-(J2 x)).toNat).1 (E6 j)
  rw [<- h2] at h4
  exact h4
theorem ows (m:Nat):oW (ws W64 m)=ws W64 m:=y5
theorem H6 {m:Nat} {k:Nat} (h:m < 10 ^k):(ws W64 m).length<=k:=uG k h
theorem b0a {a b k n:Nat} (ha:a < 10 ^k) (hb:b<=10 ^n):a*b < 10 ^(k+n):=by
 rw [i7]
 exact Nat.mul_lt_mul_of_lt_of_le ha hb (p7 (by decide))
theorem x1o (x:Nat) {K:Nat} (hK:1076<=K):doN x < 10 ^(16+K):=by
 have h1:=g1b x
 have h2:=nE x
 have h16:(9007199254740992:Nat) < 10 ^16:=by decide
 unfold doN
 split
 ·refine b0a (k:=16) (n:=K) (by omega) ?_
  exact x7 (oX (by decide) _) (w7 (by decide) (by omega))
 ·obtain⟨j,q1,q2,q3,q4,q5⟩:=kI x (by omega)
  refine b0a (k:=16) (n:=K) (by omega) ?_
  exact x7 (oX (by decide) _) (w7 (by decide) (by omega))
theorem n2e {x:Nat} (hx:x < 18446744073709551616) (hr:q1d x=0):Ev.Sem zO7 J0 50 [xR x] (oR (v0u x) (doT x) (doX x)):=by
 have hR:(q1d x !=0)=false:=by rw [hr]; rfl
 have h1:=g1b x
 have h2:=nE x
 have hm:((T4 x:Nat):Int).toNat=T4 x:=i8 _
 obtain⟨K,hK⟩:∃ K,K=1076:=⟨_,rfl⟩
 have hlt:=x1o x (K:=K) (by omega)
 have hwd:s6 (T4 x)=ws W64 (T4 x):=by unfold s6; rw [hm]
 have hW:(18446744073709551616:Nat)=W64:=rfl
 have hTl:(doT x).length<=16+K:=I4 hlt (by omega)
 by_cases he:0<=J2 x
 ·have hN:doN x=T4 x*2 ^(J2 x).toNat:=by unfold doN; rw [b9 he]
  have hX:doX x=0:=by unfold doX; rw [b9 he]
  have hL:oL (T4 x) (J2 x)=ws W64 (doN x):=by
   unfold oL
   rw [hwd,ows]
   unfold m5
   rw [s7,hN]
  have hT:oT (oL (T4 x) (J2 x))=doT x:=by
   unfold oT doT
   rw [hL,ows,s7]
  have:=t2z x
  rw [hT] at this
  rw [hX]
  refine l6 h0b 10 _ _ this ?_
  rw [hL,hwd,ows,ows]
  have hl1:(ws W64 (T4 x)).length<=16:=H6 (by omega)
  have hl2:=H6 hlt
  exact⟨by omega,d7 _,Cn.ws _,by omega,d7 _,Cn.ws _,by omega,⟨he,by omega⟩,⟨y9 _,by rw [hm]; omega⟩,d4 he,hR,hx,rfl,rfl,a7⟩
 ·obtain⟨j,q1,q2,q3,q4,q5⟩:=kI x (by omega)
  have hN:doN x=(doP x).1*5 ^(-(doP x).2).toNat:=by unfold doN; rw [a6 he]
  have hX:doX x=(doP x).2:=by unfold doX; rw [a6 he]
  have hwr:∀ z:Int,-2000<=z∧z<=0->iI.wrap (0-z)= -z:=fun z hz=>by
   have:=F9 (0-z)
   omega
  have hwp:s6 (doP x).1=ws W64 (doP x).1:=by unfold s6; rw [i8]
  have hpw:aZ [5] (iI.wrap (0- (doP x).2))=ws W64 (5 ^(-(doP x).2).toNat):=by
   unfold aZ
   rw [hwr _ (by omega)]
   rfl
  have hM:oM (doP x).1 (doP x).2=ws W64 (doN x):=by
   unfold oM
   rw [hwp,hpw,ows,ows]
   unfold D4
   rw [s7,s7,hN]
  have hT:oT (oM (doP x).1 (doP x).2)=doT x:=by
   unfold oT doT
   rw [hM,ows,s7]
  have hrun:=A8 (fun k=>tOf (v0u x) (ofS (T4 x) (J2 x) k).1 (ofS (T4 x) (J2 x) k).2 ((-(J2 x)).toNat:Int) (k:Int)) (-(J2 x)).toNat (x:= .exit 0) (by intro e; cases e)
   (fun k hk=>e2h (v0u x) (by omega) (by omega) (by omega) k hk) (m2n _ _ _ _ _ ⟨b8 (kD _),a7⟩)
  have:=p2w x (v0u x) (doP x).1 (doP x).2 ((-(J2 x)).toNat:Int) ((-(J2 x)).toNat:Int)
  rw [hT] at this
  rw [hX]
  refine l6 h0b 10 _ _ this ?_
  rw [hM,hwp,hpw,ows,ows,ows,hwr _ (by omega)]
  have hp1:(doP x).1 < 10 ^16:=by omega
  have hp5:5 ^(-(doP x).2).toNat < 10 ^((-(doP x).2).toNat+1):=y4 (oX (by decide) _) (zC (by decide) (by omega))
  have hl1:=H6 hp1
  have hl2:=H6 hlt
  have hl3:=H6 hp5
  have hin:d5 XTe cOf (o7 XTe 200 50 [xR x] [false,false]) (.exit 0) (tOf (v0u x) (doP x).1 (doP x).2 ((-(J2 x)).toNat:Int) ((-(J2 x)).toNat:Int)):=by
   refine d2g x ?_
   rw [hwr _ (by omega)]
   have e1: -(J2 x)=((-(J2 x)).toNat:Int):=by omega
   have hrun':=hrun
   simp only [ofS] at hrun'
   rw [<- e1] at hrun' ⊢
   exact hrun'
  exact⟨by omega,d7 _,Cn.ws _,by omega,d7 _,d7 _,Cn.ws _,Cn.ws _,by omega,by omega,d7 _,by unfold Cn; rfl,⟨by omega,by omega⟩,by omega,⟨by decide,by decide⟩,⟨y9 _,by rw [i8]; omega⟩,hin,b8 he,hR,hx,rfl,rfl,a7⟩
def q1s:Tab:=l5 70 j1n (l5 57 e0k j0p)
theorem d0e:Q0 zO7 J0 q1s:=b7 m1r (b7 b0d Z4)
def bTf:Base:=⟨zO7,J0,false,q1s,F4,200,I6⟩
theorem U5:BaseOk bTf:=⟨progOk,d0e,n9 _ _,m0⟩
abbrev XTf:Cx:=bTf.cx 10
def fgD (d:List UInt8):List UInt8:=if d=[] then [48] else d
def fgK (d:List UInt8) (x:Int):Int:=if d=[] then 0 else (d.length:Int)-1+x
abbrev raB (d:List UInt8):List UInt8:=d.take 1++[46] ++d.drop 1
def gB (d:List UInt8) (k:Int):List UInt8:=(if 1 < d.length then raB d else d)++[101] ++Lib.itoa k
abbrev plP (k:Int):Nat:=(iI.wrap (iI.wrap (0-k)-1)).toNat
abbrev plI (k:Int):Int:=iI.wrap (k+1)
abbrev plW (d:List UInt8) (k:Int):Int:=iI.wrap (plI k- (d.length:Int))
abbrev plO (n:Int):Prop:=0<=n∧n<=9223372036854775807∧1*n.toNat<=140737488355328
def jV (d:List UInt8) (k:Int):List UInt8:=
 if k < 0 then 48 ::46 ::(zO6 (-k-1).toNat 48++d)
 else if (d.length:Int)<=k+1 then d++zO6 (k+1- (d.length:Int)).toNat 48
 else d.take (k+1).toNat++[46] ++d.drop (k+1).toNat
section
variable (g:Bool) (d:List UInt8) (x k:Int)
theorem x2k:b6 XTf [] 200 55 [dcV g d x] [true] =some (.tuple ⟨[.string ⟨⟨[48]⟩⟩, .int .i64 0]⟩,[(d==[])=true]):=by kernel_rfl
theorem a3i:b6 XTf [] 200 55 [dcV g d x] [false] =some (.tuple ⟨[.string ⟨⟨d⟩⟩, .int .i64 (iI.wrap (iI.wrap ((d.length:Int)-1)+x))]⟩,[(d==[])=false]):=by kernel_rfl
theorem x2u:b6 XTf [] 200 56 [.string ⟨⟨d⟩⟩, .int .i64 k] [true] =some (.string ⟨⟨raB d++[101] ++Lib.itoa k⟩⟩,[(raB d++[101]).length+(Lib.itoa k).length<=9223372036854775807,-9223372036854775808<=k∧k<=9223372036854775807,(raB d).length+1<=9223372036854775807,(d.take 1++[46]).length+(d.drop 1).length<=9223372036854775807,(0:Int)<=1∧(1:Int)<=(d.length:Int),(d.take 1).length+1<=9223372036854775807,(0:Int)<=1∧(1:Int)<=(d.length:Int),decide (zO2 1 < zO2 d.length)=true]):=by kernel_rfl
theorem y2h:b6 XTf [] 200 56 [.string ⟨⟨d⟩⟩, .int .i64 k] [false] =some (.string ⟨⟨d++[101] ++Lib.itoa k⟩⟩,[(d++[101]).length+(Lib.itoa k).length<=9223372036854775807,-9223372036854775808<=k∧k<=9223372036854775807,d.length+1<=9223372036854775807,decide (zO2 1 < zO2 d.length)=false]):=by kernel_rfl
theorem a3v:b6 XTf [] 200 65 [.string ⟨⟨d⟩⟩, .int .i64 k] [false,true] =some (.string ⟨⟨d++Lib.repeatL [48] (plW d k).toNat⟩⟩,[d.length+(Lib.repeatL [48] (plW d k).toNat).length<=9223372036854775807,plO (plW d k),decide ((d.length:Int)<=plI k)=true,decide (k < zO2 0)=false]):=by kernel_rfl
theorem x2l:b6 XTf [] 200 65 [.string ⟨⟨d⟩⟩, .int .i64 k] [false,false] =some (.string ⟨⟨d.take (plI k).toNat++[46] ++d.drop (plI k).toNat⟩⟩,[(d.take (plI k).toNat++[46]).length+(d.drop (plI k).toNat).length<=9223372036854775807,0<=plI k∧plI k<=(d.length:Int),(d.take (plI k).toNat).length+1<=9223372036854775807,0<=plI k∧plI k<=(d.length:Int),decide ((d.length:Int)<=plI k)=false,decide (k < zO2 0)=false]):=by kernel_rfl
theorem y2r:b6 XTf [] 200 65 [.string ⟨⟨d⟩⟩, .int .i64 k] [true] =some (.string ⟨⟨48 ::46 ::Lib.repeatL [48] (plP k)++d⟩⟩,[(48 ::46 ::Lib.repeatL [48] (plP k)).length+d.length<=9223372036854775807,2+(Lib.repeatL [48] (plP k)).length<=9223372036854775807,plO (iI.wrap (iI.wrap (0-k)-1)),decide (k < zO2 0)=true]):=by kernel_rfl
end
theorem n0e {z:Int} (h: -9223372036854775808<=z∧z<=9223372036854775807):iI.wrap z=z:=by
 have:=F9 z
 omega
abbrev plR (d:List UInt8) (k:Int):Prop:=d.length<=1000000∧-1000000<=k∧k<=1000000
section
variable {d:List UInt8} {k:Int} (h:plR d k)
include h
theorem p0w:Ev.Pure zO7 J0 65 [.string ⟨⟨d⟩⟩, .int .i64 k] (.string ⟨⟨jV d k⟩⟩):=by
 obtain⟨h1,h2,h3⟩:=h
 have e1:iI.wrap (iI.wrap (0-k)-1)= -k-1:=by rw [n0e (z:=0-k) (by omega),n0e (by omega)]; omega
 have e2:plI k=k+1:=n0e (by omega)
 have e3:plW d k=k+1- (d.length:Int):=by unfold plW; rw [e2,n0e (by omega)]
 by_cases hk:k < 0
 ·have:=y2r d k
  rw [plP,e1,I7] at this
  unfold jV
  rw [b9 hk]
  refine d6 U5 10 _ _ this ⟨?_,?_,⟨by omega,by omega,by omega⟩,d4 hk,a7⟩
  ·rw [u6,u6,G5]; omega
  ·rw [G5]; omega
 ·by_cases hd:(d.length:Int)<=k+1
  ·have:=a3v d k
   rw [e3,e2,I7] at this
   unfold jV
   rw [a6 hk,b9 hd]
   refine d6 U5 10 _ _ this ⟨?_,⟨by omega,by omega,by omega⟩,d4 hd,b8 hk,a7⟩
   rw [G5]; omega
  ·have:=x2l d k
   rw [e2] at this
   unfold jV
   rw [a6 hk,a6 hd]
   refine d6 U5 10 _ _ this ⟨?_,⟨by omega,by omega⟩,?_,⟨by omega,by omega⟩,b8 hd,b8 hk,a7⟩
   ·rw [s9,A9,D5,bB]; omega
   ·rw [A9]; omega
theorem t0i:Ev.Pure zO7 J0 56 [.string ⟨⟨d⟩⟩, .int .i64 k] (.string ⟨⟨gB d k⟩⟩):=by
 obtain⟨h1,h2,h3⟩:=h
 have hi:=g0v k (by omega) (by omega)
 have hr:1 < d.length->(raB d).length=d.length+1:=fun hd=>by
  unfold raB
  rw [s9,s9,A9,D5,bB]
  omega
 unfold gB
 by_cases hd:1 < d.length
 ·rw [b9 hd]
  refine d6 U5 10 _ _ (x2u d k) ⟨?_,⟨by omega,by omega⟩,?_,?_,⟨by omega,by omega⟩,?_,⟨by omega,by omega⟩,d4 (zzA186.2 hd),a7⟩
  ·rw [s9,hr hd,bB]; omega
  ·rw [hr hd]; omega
  ·rw [s9,A9,D5,bB]; omega
  ·rw [A9]; omega
 ·rw [a6 hd]
  refine d6 U5 10 _ _ (y2h d k) ⟨?_,⟨by omega,by omega⟩,by omega,b8 (fun h=>hd (zzA186.1 h)),a7⟩
  rw [s9,bB]; omega
theorem g0w (g:Bool):Ev.Pure zO7 J0 55 [dcV g d k] (.tuple ⟨[.string ⟨⟨fgD d⟩⟩, .int .i64 (fgK d k)]⟩):=by
 obtain⟨h1,h2,h3⟩:=h
 unfold fgD fgK
 by_cases hd:d=[]
 ·rw [b9 hd,b9 hd]
  exact d6 U5 10 _ _ (x2k g d k) ⟨by rw [hd]; rfl,a7⟩
 ·rw [a6 hd,a6 hd]
  have:=a3i g d k
  rw [n0e (z:=(d.length:Int)-1) (by omega),n0e (by omega)] at this
  refine d6 U5 10 _ _ this ⟨?_,a7⟩
  cases d with
  | nil=>exact absurd rfl hd
  | cons c t=>rfl
end
def s0q:List Value->Option (Value×List Prop)
 | [.string ⟨⟨d⟩⟩, .int .i64 k] =>some (.string ⟨⟨jV d k⟩⟩,[plR d k])
 | _=>none
theorem a1a (args:List Value) (v:Value) (l:List Prop) (h:s0q args=some (v,l)) (hl:d9 l):Ev.Pure zO7 J0 65 args v:=by
 unfold s0q at h
 split at h
 ·cases h; exact p0w hl.1
 ·cases h
def t0c:List Value->Option (Value×List Prop)
 | [.string ⟨⟨d⟩⟩, .int .i64 k] =>some (.string ⟨⟨gB d k⟩⟩,[plR d k])
 | _=>none
theorem y0p (args:List Value) (v:Value) (l:List Prop) (h:t0c args=some (v,l)) (hl:d9 l):Ev.Pure zO7 J0 56 args v:=by
 unfold t0c at h
 split at h
 ·cases h; exact t0i hl.1
 ·cases h
def o0l:List Value->Option (Value×List Prop)
 | [.agg ⟨[.bool _, .string ⟨⟨d⟩⟩, .int .i64 k]⟩] =>some (.tuple ⟨[.string ⟨⟨fgD d⟩⟩, .int .i64 (fgK d k)]⟩,[plR d k])
 | _=>none
theorem a1g (args:List Value) (v:Value) (l:List Prop) (h:o0l args=some (v,l)) (hl:d9 l):Ev.Pure zO7 J0 55 args v:=by
 unfold o0l at h
 split at h
 ·cases h; exact g0w hl.1 _
 ·cases h
end Go.Proofs.YtbdaebagmmmijaaGreatDoor
namespace Go.Proofs.YtbdaebagmmmijaaGreatDoor
open Go Go.RowKit Ev VaS
def w2l (x:Nat):Int:=zO2 (Nat.bitwise and (zO10 uI.bits (zO2 x)).toNat (~~~zO10 uI.bits 9223372036854775808).toNat%18446744073709551616)
theorem kV {x:Nat} (hx:x < 18446744073709551616):(zO10 uI.bits (zO2 x)).toNat=x:=by
 show (zO10 64 (x:Int)).toNat=x
 rw [pG,oJ]
 exact H3 hx
theorem c2v {x:Nat} (hx:x < 18446744073709551616):w2l x=((x%p63:Nat):Int):=by
 unfold w2l
 rw [kV hx,show (~~~zO10 uI.bits 9223372036854775808).toNat=2 ^63-1 by decide]
 have e:Nat.bitwise and x (2 ^63-1)=x%2 ^63:=W2 x 63
 rw [e]
 have h:x%2 ^63 < 18446744073709551616:=pM (B0 _ (by decide)) (by decide)
 rw [H3 h]
 rfl
theorem yJ {x:Nat} (hx:x < 18446744073709551616) (b:Bool):((Ieee.double.order x x !=some .eq)=b)↔P9 x=b:=by
 rw [P8 hx hx]
 unfold n1v
 rw [Bool.or_self]
 cases P9 x
 ·simp
 ·rw [b9 rfl]
  cases b <;> decide
open Go Go.RowKit Ev Wd VaS
def f0o (x:Nat):Nat:=if x < 9223372036854775808 then x+9223372036854775808 else x-9223372036854775808
theorem p0n {y:Nat} (hy:y < 2 ^63):y^^^2 ^63=y+2 ^63:=by
 have h:y+2 ^63=2 ^63*1||| y:=by rw [<- m0q hy]; omega
 rw [h,s4]
 refine Nat.eq_of_testBit_eq fun j=> ?_
 rw [Nat.testBit_xor,Nat.testBit_or,Nat.testBit_two_pow]
 by_cases hj:63=j
 ·subst hj
  rw [Nat.testBit_lt_two_pow hy]
  rfl
 ·rw [b8 hj]
  cases y.testBit j <;> rfl
theorem s0m {x:Nat} (hx:x < 18446744073709551616):Nat.bitwise bne x (2 ^(FloatKind.f64.format.exponentBits+FloatKind.f64.format.fractionBits))=f0o x:=by
 show x^^^2 ^63=f0o x
 unfold f0o
 split
 ·exact p0n (by omega)
 ·obtain⟨y,rfl⟩:∃ y,x=y+2 ^63:=⟨x-2 ^63,by omega⟩
  rw [<- p0n (y:=y) (by omega),Nat.xor_assoc,Nat.xor_self,Nat.xor_zero,p0n (by omega)]
  omega
theorem w1y {x:Nat} (hx:x < 18446744073709551616) (hn:P9 x=false):(Ieee.double.order x 9218868437227405311==some .gt)=decide (x=9218868437227405312):=by
 rw [P8 hx (by decide)]
 unfold n1v
 rw [hn,show P9 9218868437227405311=false by decide]
 have hn':¬9218868437227405312 < x%p63:=fun h=>by unfold P9 at hn; rw [d4 h] at hn; cases hn
 have hs:w0q 9218868437227405311=9218868437227405311:=by decide
 have hg:(compare (w0q x) 9218868437227405311= .gt)↔x=9218868437227405312:=by
  rw [Int.compare_eq_gt]
  unfold w0q
  unfold p63 at*
  split <;> omega
 rw [hs]
 simp only [Bool.or_self,P3,D7]
 by_cases h:x=9218868437227405312
 ·rw [d4 h,hg.2 h]; rfl
 ·rw [b8 h]
  cases hc:compare (w0q x) 9218868437227405311 with
  | gt=>exact absurd (hg.1 hc) h
  | lt=>rfl
  | eq=>rfl
def snA (x:Nat):List UInt8:=if P9 x=true then [] else if p63<=x then [45] else []
def snW (x:Nat):List UInt8:=if P9 x=true then [78,97,78] else if x=9218868437227405312 then [73,110,102] else if x=18442240474082181120 then [45,73,110,102] else []
section
variable (x:Nat)
theorem z2f:b6 XTf [] 200 53 [.float .f64 x] [true] =some (.tuple ⟨[.string ⟨⟨[]⟩⟩, .string ⟨⟨[78,97,78]⟩⟩]⟩,[(Ieee.double.order x x !=some .eq)=true]):=by kernel_rfl
theorem a3e:b6 XTf [] 200 53 [.float .f64 x] [false,true] =some (.tuple ⟨[.string ⟨⟨[]⟩⟩, .string ⟨⟨[73,110,102]⟩⟩]⟩,[(Ieee.double.order x 9218868437227405311==some .gt)=true,(Ieee.double.order x x !=some .eq)=false]):=by kernel_rfl
theorem a3t:b6 XTf [] 200 53 [.float .f64 x] [false,false,true] =some (.tuple ⟨[.string ⟨⟨[45]⟩⟩, .string ⟨⟨[45,73,110,102]⟩⟩]⟩,[(Ieee.double.order (Nat.bitwise bne x (2 ^(FloatKind.f64.format.exponentBits+FloatKind.f64.format.fractionBits))) 9218868437227405311==some .gt)=true,(Ieee.double.order x 9218868437227405311==some .gt)=false,(Ieee.double.order x x !=some .eq)=false]):=by kernel_rfl
theorem x2y:b6 XTf [] 200 53 [.float .f64 x] [false,false,false,true] =some (.tuple ⟨[.string ⟨⟨[45]⟩⟩, .string ⟨⟨[]⟩⟩]⟩,[decide (iI.wrap (x:Int) < 0)=true,(Ieee.double.order (Nat.bitwise bne x (2 ^(FloatKind.f64.format.exponentBits+FloatKind.f64.format.fractionBits))) 9218868437227405311==some .gt)=false,(Ieee.double.order x 9218868437227405311==some .gt)=false,(Ieee.double.order x x !=some .eq)=false]):=by kernel_rfl
theorem y2v:b6 XTf [] 200 53 [.float .f64 x] [false,false,false,false] =some (.tuple ⟨[.string ⟨⟨[]⟩⟩, .string ⟨⟨[]⟩⟩]⟩,[decide (iI.wrap (x:Int) < 0)=false,(Ieee.double.order (Nat.bitwise bne x (2 ^(FloatKind.f64.format.exponentBits+FloatKind.f64.format.fractionBits))) 9218868437227405311==some .gt)=false,(Ieee.double.order x 9218868437227405311==some .gt)=false,(Ieee.double.order x x !=some .eq)=false]):=by kernel_rfl
theorem a3q:b6 XTf [] 200 48 [.float .f64 x] [] =some (.float .f64 (w2l x).toNat,[]):=by kernel_rfl
end
section
variable {x:Nat} (hx:x < 18446744073709551616)
include hx
theorem v1v:P9 (f0o x)=P9 x:=by
 unfold P9 f0o p63
 rw [zzA163]
 split <;> omega
theorem i1c:Ev.Pure zO7 J0 53 [.float .f64 x] (.tuple ⟨[.string ⟨⟨snA x⟩⟩, .string ⟨⟨snW x⟩⟩]⟩):=by
 have hf:f0o x < 18446744073709551616:=by unfold f0o; split <;> omega
 unfold snA snW
 cases hn:P9 x with
 | true=>exact d6 U5 10 _ _ (z2f x) ⟨(yJ hx _).2 hn,a7⟩
 | false=>
  have o1:=(yJ hx _).2 hn
  have o2:=w1y hx hn
  have o3:=w1y hf ((v1v hx).trans hn)
  rw [<- s0m hx] at o3
  simp only [P3,D7]
  by_cases h1:x=9218868437227405312
  ·rw [b9 h1,a6 (by unfold p63; omega)]
   exact d6 U5 10 _ _ (a3e x) ⟨o2.trans (d4 h1),o1,a7⟩
  ·rw [a6 h1]
   have q2:=o2.trans (b8 h1)
   by_cases h2:x=18442240474082181120
   ·rw [b9 h2,b9 (by unfold p63; omega)]
    refine d6 U5 10 _ _ (a3t x) ⟨o3.trans (d4 ?_),q2,o1,a7⟩
    rw [s0m hx]; unfold f0o; rw [a6 (by omega)]; omega
   ·rw [a6 h2]
    have q3:(Ieee.double.order (Nat.bitwise bne x (2 ^(FloatKind.f64.format.exponentBits+FloatKind.f64.format.fractionBits))) 9218868437227405311==some .gt)=false:=by
     refine o3.trans (b8 ?_)
     rw [s0m hx]; unfold f0o; split <;> omega
    have hw:=F9 (x:Int)
    by_cases h3:p63<=x
    ·rw [b9 h3]
     exact d6 U5 10 _ _ (x2y x) ⟨d4 (by unfold p63 at h3; omega),q3,q2,o1,a7⟩
    ·rw [a6 h3]
     exact d6 U5 10 _ _ (y2v x) ⟨b8 (by unfold p63 at h3; omega),q3,q2,o1,a7⟩
theorem s1a:Ev.Pure zO7 J0 48 [.float .f64 x] (.float .f64 (x%p63)):=by
 have:=d6 U5 10 _ _ (a3q x) trivial
 rw [c2v hx,i8] at this
 exact this
end
def e0v:List Value->Option (Value×List Prop)
 | [.float .f64 x] =>some (.tuple ⟨[.string ⟨⟨snA x⟩⟩, .string ⟨⟨snW x⟩⟩]⟩,[x < 18446744073709551616])
 | _=>none
theorem o0k (args:List Value) (v:Value) (l:List Prop) (h:e0v args=some (v,l)) (hl:d9 l):Ev.Pure zO7 J0 53 args v:=by
 unfold e0v at h
 split at h
 ·cases h; exact i1c hl.1
 ·cases h
def d0u:List Value->Option (Value×List Prop)
 | [.float .f64 x] =>some (.float .f64 (x%p63),[x < 18446744073709551616])
 | _=>none
theorem o0y (args:List Value) (v:Value) (l:List Prop) (h:d0u args=some (v,l)) (hl:d9 l):Ev.Pure zO7 J0 48 args v:=by
 unfold d0u at h
 split at h
 ·cases h; exact s1a hl.1
 ·cases h
def t1l:Tab:=l5 53 e0v (l5 48 d0u (l5 55 o0l (l5 65 s0q (l5 56 t0c q1s))))
theorem b0x:Q0 zO7 J0 t1l:=b7 o0k (b7 o0y (b7 a1g (b7 a1a (b7 y0p d0e))))
def uW (W:Nat):Nat:=T4 W*2 ^(J2 W+1074).toNat
theorem f0t {W:Nat} (h:W < 9218868437227405312):P9 W=false:=by
 unfold P9
 rw [H3 (show W < p63 by unfold p63; omega)]
 exact b8 (by omega)
theorem v1a {W:Nat} (h:W < 9218868437227405312):T8 W=if W=0 then 3 else if W < 4503599627370496 then 4 else 5:=by
 unfold T8
 rw [f0t h,H3 (show W < p63 by unfold p63; omega),a6 (by decide),a6 (by omega)]
theorem y0j {W E m:Nat} (hW:W < 9218868437227405312) (h:W=E*4503599627370496+m) (hm:m<=9007199254740992) (hE:E=0∨4503599627370496<=m):uW W=m*2 ^E:=by
 have hc:=v1a hW
 unfold uW T4 J2
 rw [hc]
 by_cases h0:W=0
 ·rw [b9 h0,b9 (by decide),b9 (by decide),C0,show m=0 by omega,C0]
 ·rw [a6 h0]
  by_cases h1:W < 4503599627370496
  ·rw [b9 h1,a6 (by decide),b9 rfl,a6 (by decide),b9 rfl,H3 h1,show E=0 by omega,show W=m by omega]
   rfl
  ·rw [a6 h1,a6 (by decide),a6 (by decide),a6 (by decide),a6 (by decide)]
   by_cases h2:m < 4503599627370496
   ·omega
   by_cases h3:m < 9007199254740992
   ·rw [show W%4503599627370496+4503599627370496=m by omega,show (((W/4503599627370496%2048:Nat):Int)-1075+1074).toNat=E by omega]
   ·rw [show W%4503599627370496+4503599627370496=4503599627370496 by omega,show (((W/4503599627370496%2048:Nat):Int)-1075+1074).toNat=E+1 by omega,show m=4503599627370496*2 by omega,p9,n4 (2 ^E) 2,<- f9]
theorem l0j (N D:Nat) (e:Int) (hB:0 < atB D e):(flm N D e=flq N D e∧2*flr N D e<=atB D e∧(2*flr N D e=atB D e->flq N D e%2=0))∨(flm N D e=flq N D e+1∧atB D e<=2*flr N D e∧(2*flr N D e=atB D e->flq N D e%2=1)):=by
 unfold flm tI flw flh upB cmN
 generalize flr N D e=r
 generalize flq N D e=q
 generalize atB D e=B at*
 by_cases hr:r=0
 ·subst hr
  left
  simp
  omega
 ·by_cases h1:r*2 < B
  ·left
   simp [hr,h1]
   omega
  ·by_cases h2:r*2=B
   ·by_cases hq:q%2=1
    ·right
     simp [hr,h2,hq]
     omega
    ·left
     simp [hr,h2,hq]
     omega
   ·right
    simp [hr,h1,h2]
    omega
section
variable {N D W:Nat} {e:Int} (hN:0 < N) (hD:0 < D) (hi:gG 53 (-1074) N D e) (hW:W=rwd 53 (-1074) N D)
theorem y1d (N D:Nat) (e:Int):atA N e=flq N D e*atB D e+flr N D e:=by
 unfold flq flr
 rw [n4]
 exact (Y1 _ _).symm
include hN hD hi hW
end
def dvS (S:Nat) (d:List UInt8) (x:Int):Nat:=dgN d*10 ^(x+S).toNat
theorem x1c {S:Nat} {t:List UInt8} {x:Int} (ht:n8 t=true) (hE:mdE t x=0) (hx:0<=x+S):dvS S (mdD t x) (mdX t x)=dcN t*10 ^(x+S).toNat:=by
 unfold dvS mdD mdX
 by_cases h0:d3 t=[]
 ·have hI:mdI t x=false:=by unfold mdI; rw [b8 (by simpa using h0)]; rfl
  rw [hI,a6 (by decide),a6 (by decide),<- K7,h0]
  show dgN [] *_=dcN [] *_
  rw [show dgN [] =0 by decide,show dcN [] =0 by rfl]
  simp
 ·have hI:mdI t x=true:=by unfold mdI; rw [hE,d4 h0]; rfl
  rw [hI,b9 rfl,b9 rfl]
  have hL:n8 (d3 t)=true:=allDB_mem.2 fun b hb=>allDB_mem.1 ht b (D6 hb)
  have hS:n8 (mdS t)=true:=by
   unfold mdS D2
   refine allDB_mem.2 fun b hb=>allDB_mem.1 hL b ?_
   rw [zzA215] at hb
   have:=D6 hb
   rwa [zzA215] at this
  rw [(zY hS).2,<- K7 t]
  have h1:=sZ (d3 t)
  have hle:(mdS t).length<=(d3 t).length:=by
   unfold mdS
   have:=B4 (d3 t).reverse
   rw [bQ] at this
   unfold D2
   rw [bQ]
   exact this
  have h2:(D2 (d3 t))=mdS t:=rfl
  rw [h2] at h1
  rw [h1]
  unfold mdB
  rw [show (x+(((d3 t).length:Int)- ((mdS t).length:Int))+(S:Int)).toNat=((d3 t).length- (mdS t).length)+(x+S).toNat by omega,i7,f9]
theorem j0g {t:List UInt8} {x:Int} (hl:t.length<=8192) (hx: -10000<=x∧x<=10000):mdE t x=0:=by
 have h1:=B4 t
 have hle:(mdS t).length<=(d3 t).length:=by
  unfold mdS
  have:=B4 (d3 t).reverse
  rw [bQ] at this
  unfold D2
  rw [bQ]
  exact this
 unfold mdE mdB
 split
 ·rfl
 ·rw [a6 (by omega),a6 (by omega)]
theorem w1s {x:Nat} :(doT x).length<=1092:=by
 obtain⟨K,hK⟩:∃ K,K=1076:=⟨_,rfl⟩
 have:=I4 (x1o x (K:=K) (by omega)) (by omega)
 unfold doT
 omega
theorem vL (x:Nat): -1075<=doX x∧doX x<=0:=by
 unfold doX
 split
 ·omega
 ·obtain⟨j,q1,q2,q3,q4,q5⟩:=kI x (by omega)
  omega
theorem o1w (x:Nat):mdE (doT x) (doX x)=0:=by
 have:=w1s (x:=x)
 have:=vL x
 exact j0g (by omega) (by omega)
theorem x1r {S x:Nat} (hS:1075<=S) (h74: -1074<=J2 x):dvS S (mdD (doT x) (doX x)) (mdX (doT x) (doX x))*2 ^1074=uW x*10 ^S:=by
 have hr:=vL x
 have ht:dcN (doT x)=doN x:=k1m _
 have hd:n8 (doT x)=true:=D8 _
 rw [x1c hd (o1w x) (by omega),ht]
 unfold doN doX uW
 by_cases h:0<=J2 x
 ·rw [b9 h,b9 h,show (J2 x+1074).toNat=(J2 x).toNat+1074 by omega,i7,show ((0:Int)+(S:Int)).toNat=S by omega]
  simp only [f9,n4,S4]
 ·obtain⟨j,q1,q2,q3,q4,q5⟩:=kI x (by omega)
  rw [a6 h,a6 h]
  obtain⟨k,hk⟩:∃ k:Nat,(doP x).2= -(k:Int):=⟨(-(doP x).2).toNat,by omega⟩
  have e1:(-(doP x).2).toNat=k:=by omega
  have e2:((doP x).2+(S:Int)).toNat=S-k:=by omega
  have e3:10 ^S=10 ^(S-k)*(2 ^k*5 ^k):=by
   rw [<- Nat.mul_pow,<- i7]
   congr 1
   omega
  have e5:2 ^j*2 ^(J2 x+1074).toNat*2 ^k=2 ^1074:=by
   rw [<- i7,<- i7]
   congr 1
   omega
  rw [e1,e2,e3,q1,<- e5]
  simp only [f9,n4,S4]
def deD (x:Nat):List UInt8:=mdD (doT x) (doX x)
def deX (x:Nat):Int:=mdX (doT x) (doX x)
theorem p0c (t:List UInt8) (x:Int):mdN false t x=false:=by unfold mdN; split <;> rfl
theorem tQ (x:Nat):G4 false (deD x) (deX x)=true:=by
 have:=d0h (g:=false) (t:=doT x) (x:=doX x) (D8 _)
 rw [p0c] at this
 exact this
theorem U4 (x:Nat):(deD x).length<=1092∧-1075<=deX x∧deX x<=1092:=by
 have h1:=w1s (x:=x)
 have h2:=vL x
 have h3:=W8 (t:=doT x)
 unfold deD deX mdD mdX
 refine⟨?_,?_,?_⟩
 ·split
  ·omega
  ·exact n6 _
 ·split <;> omega
 ·split <;> omega
theorem l2b {x:Nat} (hx:x < 9218868437227405312):q1d x=0∧v0u x=false:=by
 have hn:=f0t hx
 have hp:x%p63=x:=H3 (by unfold p63; omega)
 have hg:p1n x=false:=by
  unfold p1n
  rw [b8 (by unfold p63; omega),j0x]
 have hc:¬T8 x<=2:=by
  unfold T8
  rw [hn,hp,a6 A4,a6 (by omega)]
  split
  ·decide
  ·split <;> decide
 unfold q1d v0u
 rw [a6 hc,a6 hc,hg]
 exact⟨rfl,rfl⟩
theorem t1r {x:Nat} (hx:x < 9218868437227405312):Ev.Sem zO7 J0 50 [xR x] [dA false (deD x) (deX x),iR 0] :=by
 obtain⟨h1,h2⟩:=l2b hx
 have:=n2e (x:=x) (by omega) h1
 rw [h2] at this
 unfold oR at this
 rw [p0c,o1w] at this
 exact this
def n0p:List Arg->Option (List Arg×List Prop)
 | [.c (.v (.float .f64 x))] =>some ([dA false (deD x) (deX x),iR 0],[x < 9218868437227405312])
 | _=>none
theorem a1v:∀ az rs l,n0p az=some (rs,l)->d9 l->Ev.Sem zO7 J0 50 az rs:=by
 intro az rs l h hl
 unfold n0p at h
 split at h
 ·cases h
  exact t1r hl.1
 ·cases h
def v0w:iG:=m4 50 (z6 [shV] n0p) F4
theorem tY:iD zO7 J0 v0w:=d8 (l7 _ a1v) (n9 _ _)
def bTh:Base:=⟨zO7,J0,false,t1l,v0w,200,I6⟩
theorem x1b:BaseOk bTh:=⟨progOk,b0x,tY,m0⟩
abbrev XTh:Cx:=bTh.cx 10
abbrev ab (x:Nat):Nat:=x%p63
abbrev deF (x:Nat):List UInt8:=fgD (deD (ab x))
abbrev deK (x:Nat):Int:=fgK (deD (ab x)) (deX (ab x))
abbrev plX (x:Nat):List UInt8:=jV (deF x) (deK x)
section
variable (x:Nat)
theorem y2c:b6 XTh [] 200 21 [.float .f64 x] [true] =some (.string ⟨⟨snW x⟩⟩,[(!(snW x==[]))=true,x < 18446744073709551616]):=by kernel_rfl
theorem y2j:b6 XTh [] 200 21 [.float .f64 x] [false] =some (.string ⟨⟨snA x++plX x⟩⟩,[(snA x).length+(plX x).length<=9223372036854775807,plR (deF x) (deK x),plR (deD (ab x)) (deX (ab x)),ab x < 9218868437227405312,x < 18446744073709551616,(!(snW x==[]))=false,x < 18446744073709551616]):=by kernel_rfl
end
def exT (x:Nat):List UInt8:=if snW x=[] then snA x++plX x else snW x
theorem V2 {x:Nat} (hx:x < 18446744073709551616) (h:snW x=[]):ab x < 9218868437227405312:=by
 unfold snW at h
 by_cases h1:P9 x=true
 ·rw [b9 h1] at h; cases h
 ·rw [a6 h1] at h
  by_cases h2:x=9218868437227405312
  ·rw [b9 h2] at h; cases h
  ·rw [a6 h2] at h
   by_cases h3:x=18442240474082181120
   ·rw [b9 h3] at h; cases h
   ·have:¬9218868437227405312 < x%p63:=fun k=>h1 (by unfold P9; exact d4 k)
    show x%p63 < 9218868437227405312
    unfold p63 at*
    omega
theorem snW_nil {x:Nat} :(!(snW x==[]))=false↔snW x=[] :=by
 cases snW x <;> simp
theorem y0h (y:Nat):(fgD (deD y)).length<=1092∧1<=(fgD (deD y)).length∧-1076<=fgK (deD y) (deX y)∧fgK (deD y) (deX y)<=3000:=by
 have:=U4 y
 unfold fgD fgK
 split
 ·exact⟨by decide,by decide,by decide,by decide⟩
 ·rename_i h
  have:=zzA214.2 h
  omega
theorem m0y {d:List UInt8} {k:Int} (h:plR d k):(jV d k).length<=3000003:=by
 obtain⟨h1,h2,h3⟩:=h
 unfold jV
 split
 ·rw [u6,u6,s9,G5]; omega
 ·split
  ·rw [s9,G5]; omega
  ·rw [s9,s9,A9,D5,bB]; omega
theorem g0k (x:Nat):(snA x).length<=1:=by
 unfold snA
 split
 ·decide
 ·split <;> decide
theorem z0p {x:Nat} (hx:x < 18446744073709551616):Ev.Pure zO7 J0 21 [.float .f64 x] (.string ⟨⟨exT x⟩⟩):=by
 unfold exT
 by_cases h:snW x=[]
 ·rw [b9 h]
  have hf:=V2 hx h
  have h1:(deF x).length<=1092∧1<=(deF x).length∧-1076<=deK x∧deK x<=3000:=y0h (ab x)
  have h2:=U4 (ab x)
  have h3:plR (deF x) (deK x):=⟨by omega,by omega,by omega⟩
  have h4:(plX x).length<=3000003:=m0y h3
  have h5:=g0k x
  exact d6 x1b 10 _ _ (y2j x) ⟨by omega,h3,⟨by omega,by omega,by omega⟩,hf,hx,snW_nil.2 h,hx,a7⟩
 ·rw [a6 h]
  refine d6 x1b 10 _ _ (y2c x) ⟨?_,hx,a7⟩
  cases hb:(!(snW x==[])) with
  | true=>rfl
  | false=>exact absurd (snW_nil.1 hb) h
def z1d:iG:=m4 160 (z6 [shI] q0f) (m4 156 (z6 [shV] c0l) n1h)
theorem k1f:iD zO7 J0 z1d:=d8 (l7 _ b1z) (d8 (l7 _ zJ) l0p)
def bTi:Base:=⟨zO7,J0,false,v1k,z1d,200,I6⟩
theorem zF:BaseOk bTi:=⟨progOk,f0x,k1f,m0⟩
abbrev i2t:Cx:=bTi.cxl 10
def eaM:Bool->Int
 | false=>1
 | true=>2
def eaU:Bool->Int->Bool->Bool
 | false,h,o=>match decide (h > 0) with
  | true=>true
  | false=>match h==0 with
   | true=>o
   | false=>false
 | true,h,_=>decide (0<=h)
def rpP (n x:Int):Int:=iI.wrap (iI.wrap (0-n)-x)
abbrev rpZ (n:Int):Int:=iI.wrap (0-n)
abbrev rpS (w:List Int):List UInt8:=zO11 (val W64 w)
abbrev rpA (w:List Int):List Int:=e0l false false w [1]
abbrev rpH (R T:List Int):Int:=f1k (wB false (m5 R 1)) false (oW (m5 R 1)) (oW T)
abbrev r2w (w:List Int):List Prop:=[(rpS w).length<=140737488351232,n8 (rpS w)=true,w.length=w.length,Cn w,w.length < 7000000000]
abbrev y2l (w:List Int):List Prop:=[w.length<=w.length,1<=1,Cn (oW w),Cn [1],(oW w).length < 549755813888,1 < 549755813888,(0:Int)<=1∧(1:Int).toNat < 18446744073709551616]
abbrev d2f (R T:List Int):List Prop:=[(m5 R 1).length<=(m5 R 1).length,T.length<=T.length,Cn (oW (m5 R 1)),Cn (oW T),(oW (m5 R 1)).length < 549755813888,(oW T).length < 549755813888,R.length=R.length,Cn R,R.length < 549755813888,(0:Int)<=1∧(1:Int).toNat < 549755813888,TV.v (.agg ⟨[.bool false, .slice (some ⟨15,0,some 16⟩) T.length 0]⟩)=TV.v (.agg ⟨[.bool false, .slice (some ⟨15,0,some 16⟩) T.length 0]⟩)]
abbrev l2y (D T:List Int):List Prop:=[Cn (oW D),Cn (oW T),(oW D).length < 274877906944]
abbrev p2r (D T:List Int):List Prop:=[D.length<=D.length,T.length<=T.length]
section
variable (k g:Bool) (d:List UInt8) (n x:Int)
abbrev j2z:List Prop:=[T6 d,d.length < 100000000000,0<=rpP n x∧rpP n x < 100000000000,decide (rpP n x<=(d.length:Int))=true,decide (rpP n x<=0)=false]
abbrev q0d:List Arg:=[dA g d x, .c (.v (.int .i64 n)), .c (.v (.int .i64 (eaM k)))]
abbrev rpE (t:List UInt8) (z:Int):List Prop:=[dcV (mdN g t z) (mdD t z) (mdX t z)=dcV (mdN g t z) (mdD t z) (mdX t z),zO3 .i64 (mdE t z)=zO3 .i64 (mdE t z)]
abbrev rpQ:List Int:=n0m (oW (E1 d)) (oW (C6 (rpP n x)))
abbrev rpR:List Int:=eV (oW (E1 d)) (oW (C6 (rpP n x)))
abbrev rpI:Prop:=zO2 0<=eaM k∧eaM k < zO2 7
theorem x2r:A7 i2t [] 200 100 (q0d k g d n x) [dA g d x,iR 0] [true] =some [decide (rpP n x<=0)=true,dcV g d x=dcV g d x,zO3 .i64 0=zO3 .i64 0] :=by cases k <;> kernel_rfl
theorem a3u:A7 i2t [] 200 100 (q0d k g d n x) (oR g (rpS []) (rpZ n)) [false,false,false] =some ([1<=140737488351232,n8 (rpS [])=true,Cn [],0 < 7000000000,false=false,Cn [],rpI k,decide (rpP n x<=(d.length:Int))=false,decide (rpP n x<=0)=false] ++rpE g (rpS []) (rpZ n)):=by cases k <;> kernel_rfl
theorem y2o:A7 i2t [] 200 100 (q0d k g d n x) (oR g (rpS (rpA [])) (rpZ n)) [false,true,true,true] =some ([1<=140737488351232,n8 (rpS (rpA []))=true,1=1,Cn (rpA []),1 < 7000000000,1<=1,Cn [],Cn [1],0 < 549755813888,1 < 549755813888,(0:Int)<=1∧(1:Int).toNat < 18446744073709551616,eaU k (rpH (E1 d) (C6 (rpP n x))) (v1e [])=true,Cn [],rpI k] ++d2f (E1 d) (C6 (rpP n x))++l2y (E1 d) (C6 (rpP n x))++[(oW (C6 (rpP n x))).length < 274877906944,kH (oW (E1 d)) (oW (C6 (rpP n x)))] ++p2r (E1 d) (C6 (rpP n x))++j2z d n x++rpE g (rpS (rpA [])) (rpZ n)):=by cases k <;> kernel_rfl
theorem y2k:A7 i2t [] 200 100 (q0d k g d n x) (oR g (rpS []) (rpZ n)) [false,true,true,false] =some ([1<=140737488351232,n8 (rpS [])=true,Cn [],0 < 7000000000,eaU k (rpH (E1 d) (C6 (rpP n x))) (v1e [])=false,Cn [],rpI k] ++d2f (E1 d) (C6 (rpP n x))++l2y (E1 d) (C6 (rpP n x))++[(oW (C6 (rpP n x))).length < 274877906944,kH (oW (E1 d)) (oW (C6 (rpP n x)))] ++p2r (E1 d) (C6 (rpP n x))++j2z d n x++rpE g (rpS []) (rpZ n)):=by cases k <;> kernel_rfl
theorem a3o:A7 i2t [] 200 100 (q0d k g d n x) (oR g (rpS (rpA (oW (rpQ d n x)))) (rpZ n)) [false,true,false,true] =some (r2w (rpA (oW (rpQ d n x)))++y2l (rpQ d n x)++[eaU k (rpH (rpR d n x) (C6 (rpP n x))) (v1e (rpQ d n x))=true,(rpQ d n x).length=(rpQ d n x).length,Cn (rpQ d n x),rpI k] ++d2f (rpR d n x) (C6 (rpP n x))++p2r (E1 d) (C6 (rpP n x))++l2y (E1 d) (C6 (rpP n x))++[0 < (oW (C6 (rpP n x))).length,¬kH (oW (E1 d)) (oW (C6 (rpP n x)))] ++j2z d n x++rpE g (rpS (rpA (oW (rpQ d n x)))) (rpZ n)):=by cases k <;> kernel_rfl
theorem z2m:A7 i2t [] 200 100 (q0d k g d n x) (oR g (rpS (rpQ d n x)) (rpZ n)) [false,true,false,false] =some (r2w (rpQ d n x)++[eaU k (rpH (rpR d n x) (C6 (rpP n x))) (v1e (rpQ d n x))=false,(rpQ d n x).length=(rpQ d n x).length,Cn (rpQ d n x),rpI k] ++d2f (rpR d n x) (C6 (rpP n x))++p2r (E1 d) (C6 (rpP n x))++l2y (E1 d) (C6 (rpP n x))++[0 < (oW (C6 (rpP n x))).length,¬kH (oW (E1 d)) (oW (C6 (rpP n x)))] ++j2z d n x++rpE g (rpS (rpQ d n x)) (rpZ n)):=by cases k <;> kernel_rfl
end
theorem y0u (xs:List Int):wB false xs=false:=by unfold wB; rfl
def rnU:Bool->Nat->Nat->Nat->Bool
 | false,q,r,U=>decide (U < 2*r) || (decide (2*r=U) && decide (q%2=1))
 | true,_,r,U=>decide (U<=2*r)
def rnQ (k:Bool) (N U:Nat):Nat:=N/U+if rnU k (N/U) (N%U) U=true then 1 else 0
def plcR (k g:Bool) (d:List UInt8) (n x:Int):List Arg:=if 0<=n+x then [dA g d x,iR 0] else oR g (zO11 (rnQ k (dgN d) (10 ^(-n-x).toNat))) (-n)
theorem x1z (k:Bool) (q r U:Nat):eaU k (cmN (r*2) U) (decide (q%2=1))=rnU k q r U:=by
 unfold eaU rnU cmN
 rcases aR (2*r) U with h | h | h
 ·rw [b9 (by omega)]
  cases k with
  | false=>simp only [b8 (show ¬U < 2*r by omega),b8 (show ¬2*r=U by omega)]; rfl
  | true=>exact (b8 (show ¬U<=2*r by omega)).symm
 ·rw [a6 (by omega),b9 (by omega)]
  cases k with
  | false=>simp only [b8 (show ¬U < 2*r by omega),d4 (show 2*r=U by omega)]; cases decide (q%2=1) <;> rfl
  | true=>exact (d4 (show U<=2*r by omega)).symm
 ·rw [a6 (by omega),a6 (by omega)]
  cases k with
  | false=>simp only [d4 (show U < 2*r by omega)]; rfl
  | true=>exact (d4 (show U<=2*r by omega)).symm
theorem y1t (r U:Nat):rpH (ws W64 r) (ws W64 U)=cmN (r*2) U:=by
 show f1k (wB false (m5 (ws W64 r) 1)) false (oW (m5 (ws W64 r) 1)) (oW (ws W64 U))=_
 rw [y0u,mX,ows,ows,tW]
 rfl
theorem n1f (q:Nat):v1e (ws W64 q)=decide (q%2=1):=by unfold v1e; rw [s7]
theorem cD:ws W64 0=[] :=by
 have:=(wl_le (m:=0) (n:=0)).2 (by decide)
 exact List.length_eq_zero_iff.1 (Nat.le_zero.1 this)
theorem u0v (q:Nat):rpA (ws W64 q)=ws W64 (q+1):=by
 show e0l false false (ws W64 q) [1] =_
 unfold e0l s1t
 rw [s7,b9 rfl]
 rfl
theorem zW (q:Nat):rpS (ws W64 q)=zO11 q:=by
 show zO11 (val W64 (ws W64 q))=_
 rw [s7]
theorem o1c {m K:Nat} (h:m < 10 ^K) (hK:0 < K∧K<=100000):d9 (r2w (ws W64 m)):=by
 have h1:=H6 h
 have h2:=I4 h hK.1
 show d9 [_,_,_,_,_]
 rw [zW]
 exact⟨by omega,D8 _,rfl,Cn.ws _,by omega,a7⟩
theorem n1l {r U K:Nat} (hr:r < 10 ^K) (hU:U < 10 ^K) (hK:K<=100000):d9 (d2f (ws W64 r) (ws W64 U)):=by
 have h1:=H6 hr
 have h2:=H6 hU
 have h3:r*2 ^(1:Int).toNat < 10 ^(K+1):=by
  rw [p9,show (2:Nat) ^(1:Int).toNat=2 by rfl]
  omega
 have h4:=H6 h3
 show d9 [_,_,_,_,_,_,_,_,_,_,_]
 rw [mX,ows,ows]
 exact⟨d7 _,d7 _,Cn.ws _,Cn.ws _,by omega,by omega,rfl,Cn.ws _,by omega,⟨by decide,by decide⟩,rfl,a7⟩
theorem apx {a b:List Prop} (h1:d9 a) (h2:d9 b):d9 (a++b):=(i6 _ _).2 ⟨h1,h2⟩
theorem h0o (g:Bool) (t:List UInt8) (z:Int):d9 (rpE g t z):=⟨rfl,rfl,a7⟩
section
variable {k g:Bool} {d:List UInt8} {n x:Int} (h:G4 g d x=true) (hn: -40000<=n∧n<=40000)
include h hn
theorem a0g:Ev.Sem zO7 J0 100 (q0d k g d n x) (plcR k g d n x):=by
 obtain⟨a1,a2,a3,a4,_⟩:=w9 h
 have hp:rpP n x= -n-x:=by
  unfold rpP
  rw [n0e (z:=0-n) (by omega),n0e (by omega)]
  omega
 have hz:rpZ n= -n:=(n0e (by omega)).trans (by omega)
 have hI:rpI k:=by cases k <;> exact⟨by decide,by decide⟩
 have hd:=iY a1
 unfold plcR
 by_cases c1:0<=n+x
 ·rw [b9 c1]
  exact cM zF 10 [] _ (x2r k g d n x) ⟨d4 (by omega),rfl,rfl,a7⟩
 rw [a6 c1]
 obtain⟨p,hq⟩:∃ p:Nat,-n-x=(p:Int):=⟨(-n-x).toNat,by omega⟩
 have hT:C6 (rpP n x)=ws W64 (10 ^p):=by unfold C6; rw [hp,hq,i8]
 have hD:E1 d=ws W64 (dgN d):=rfl
 have k1:decide (rpP n x<=0)=false:=b8 (by omega)
 rw [hq,i8]
 by_cases c2:p<=d.length
 ·have k2:decide (rpP n x<=(d.length:Int))=true:=d4 (by omega)
  have hHd:d9 (j2z d n x):=⟨a1,by omega,by omega,k2,k1,a7⟩
  obtain⟨K,hK⟩:∃ K,K=8193:=⟨_,rfl⟩
  have hU:10 ^p < 10 ^K:=zC (by decide) (by omega)
  have hN:dgN d < 10 ^K:=E3 hd (w7 (by decide) (by omega))
  have wN:=H6 hN
  have wU:=H6 hU
  have pU:0 < 10 ^p:=p7 (by decide)
  have hC:d9 (l2y (E1 d) (C6 (rpP n x))):=by
   rw [hT,hD]
   show d9 [_,_,_]
   rw [ows,ows]
   exact⟨Cn.ws _,Cn.ws _,by omega,a7⟩
  have hL:d9 (p2r (E1 d) (C6 (rpP n x))):=⟨d7 _,d7 _,a7⟩
  by_cases c3:dgN d < 10 ^p
  ·have e1:dgN d/10 ^p=0:=uE c3
   have e2:dgN d%10 ^p=dgN d:=H3 c3
   have hu:eaU k (rpH (E1 d) (C6 (rpP n x))) (v1e [])=rnU k 0 (dgN d) (10 ^p):=by
    rw [hT,hD,y1t,<- cD,n1f,x1z]
   have hless:d9 [(oW (C6 (rpP n x))).length < 274877906944,kH (oW (E1 d)) (oW (C6 (rpP n x)))] :=by
    rw [hT,hD,ows,ows]
    exact⟨by omega,(K0 _ _).2 c3,a7⟩
   have hH:d9 (d2f (E1 d) (C6 (rpP n x))):=by rw [hT,hD]; exact n1l hN hU (by omega)
   unfold rnQ
   rw [e1,e2]
   cases hb:rnU k 0 (dgN d) (10 ^p) with
   | true=>
    have:=y2o k g d n x
    rw [show rpS (rpA [])=zO11 (0+1) by rw [<- cD,u0v,zW],hz] at this
    rw [b9 rfl]
    refine cM zF 10 [] _ this (apx (apx (apx (apx (apx (apx ?_ hH) hC) hless) hL) hHd) (h0o _ _ _))
    rw [hu,<- cD,u0v]
    exact⟨by decide,D8 _,rfl,Cn.ws _,by decide,by decide,Cn.ws _,by unfold Cn; rfl,by decide,by decide,⟨by decide,by decide⟩,hb,Cn.ws _,hI,a7⟩
   | false=>
    have:=y2k k g d n x
    rw [show rpS [] =zO11 0 by rw [<- cD,zW],hz] at this
    rw [a6 A4]
    refine cM zF 10 [] _ this (apx (apx (apx (apx (apx (apx ?_ hH) hC) hless) hL) hHd) (h0o _ _ _))
    rw [hu,<- cD]
    exact⟨by decide,D8 _,Cn.ws _,by decide,hb,Cn.ws _,hI,a7⟩
  ·have hQ:rpQ d n x=ws W64 (dgN d/10 ^p):=by
    show n0m (oW (E1 d)) (oW (C6 (rpP n x)))=_
    rw [hT,hD,ows,ows,q0l]
   have hR:rpR d n x=ws W64 (dgN d%10 ^p):=by
    show eV (oW (E1 d)) (oW (C6 (rpP n x)))=_
    rw [hT,hD,ows,ows,p0e]
   have lq:dgN d/10 ^p < 10 ^K:=y4 (jX _ _) hN
   have lr:dgN d%10 ^p < 10 ^K:=y4 (Nat.mod_le _ _) hN
   have lq1:dgN d/10 ^p+1 < 10 ^(K+1):=by
    rw [p9]
    omega
   have wq:=H6 lq
   have hu:eaU k (rpH (rpR d n x) (C6 (rpP n x))) (v1e (rpQ d n x))=rnU k (dgN d/10 ^p) (dgN d%10 ^p) (10 ^p):=by
    rw [hT,hR,hQ,y1t,n1f,x1z]
   have hless:d9 [0 < (oW (C6 (rpP n x))).length,¬kH (oW (E1 d)) (oW (C6 (rpP n x)))] :=by
    rw [hT,hD,ows,ows]
    exact⟨wl_pos.2 pU,fun k=>c3 ((K0 _ _).1 k),a7⟩
   have hH:d9 (d2f (rpR d n x) (C6 (rpP n x))):=by rw [hT,hR]; exact n1l lr hU (by omega)
   unfold rnQ
   cases hb:rnU k (dgN d/10 ^p) (dgN d%10 ^p) (10 ^p) with
   | true=>
    have:=a3o k g d n x
    rw [show rpS (rpA (oW (rpQ d n x)))=zO11 (dgN d/10 ^p+1) by rw [hQ,ows,u0v,zW],hz] at this
    rw [b9 rfl]
    refine cM zF 10 [] _ this (apx (apx (apx (apx (apx (apx (apx (apx ?_ ?_) ?_) hH) hL) hC) hless) hHd) (h0o _ _ _))
    ·rw [hQ,ows,u0v]
     exact o1c lq1 (by omega)
    ·rw [hQ]
     show d9 [_,_,_,_,_,_,_]
     rw [ows]
     exact⟨d7 _,by decide,Cn.ws _,by unfold Cn; rfl,by omega,by decide,⟨by decide,by decide⟩,a7⟩
    ·rw [hu,hQ]
     exact⟨hb,rfl,Cn.ws _,hI,a7⟩
   | false=>
    have:=z2m k g d n x
    rw [show rpS (rpQ d n x)=zO11 (dgN d/10 ^p) by rw [hQ,zW],hz] at this
    rw [a6 A4,E4]
    refine cM zF 10 [] _ this (apx (apx (apx (apx (apx (apx (apx ?_ ?_) hH) hL) hC) hless) hHd) (h0o _ _ _))
    ·rw [hQ]
     exact o1c lq (by omega)
    ·rw [hu,hQ]
     exact⟨hb,rfl,Cn.ws _,hI,a7⟩
 ·have hlt:dgN d*10<=10 ^p:=by
   have:10 ^(d.length+1)<=10 ^p:=w7 (by decide) (by omega)
   rw [p9] at this
   omega
  have pU:0 < 10 ^p:=p7 (by decide)
  have e1:dgN d/10 ^p=0:=uE (by omega)
  have e2:dgN d%10 ^p=dgN d:=H3 (by omega)
  have hb:rnU k 0 (dgN d) (10 ^p)=false:=by
   cases k
   ·show (decide (10 ^p < 2*dgN d) || (decide (2*dgN d=10 ^p) && decide (0%2=1)))=false
    rw [b8 (show ¬10 ^p < 2*dgN d by omega),b8 (show ¬2*dgN d=10 ^p by omega)]
    rfl
   ·exact b8 (show ¬10 ^p<=2*dgN d by omega)
  unfold rnQ
  rw [e1,e2,hb,a6 A4]
  have:=a3u k g d n x
  rw [show rpS [] =zO11 0 by rw [<- cD,zW],hz] at this
  refine cM zF 10 [] _ this (apx ?_ (h0o _ _ _))
  rw [<- cD]
  exact⟨by decide,D8 _,Cn.ws _,by decide,rfl,Cn.ws _,hI,b8 (by omega),k1,a7⟩
end
def rnT (k:Bool) (d:List UInt8) (n x:Int):List UInt8:=zO11 (rnQ k (dgN d) (10 ^(-n-x).toNat))
def k1c (k g:Bool) (d:List UInt8) (n x:Int):Bool:=if 0<=n+x then g else mdN g (rnT k d n x) (-n)
def j0a (k:Bool) (d:List UInt8) (n x:Int):List UInt8:=if 0<=n+x then d else mdD (rnT k d n x) (-n)
def b1y (k:Bool) (d:List UInt8) (n x:Int):Int:=if 0<=n+x then x else mdX (rnT k d n x) (-n)
def p2d (k:Bool) (d:List UInt8) (n x:Int):Int:=if 0<=n+x then 0 else mdE (rnT k d n x) (-n)
theorem b2v (k g:Bool) (d:List UInt8) (n x:Int):plcR k g d n x=[dA (k1c k g d n x) (j0a k d n x) (b1y k d n x),iR (p2d k d n x)] :=by
 unfold plcR k1c j0a b1y p2d
 split <;> rfl
def eaK (m:Int):Bool:=decide (m=2)
def r0x:List Arg->Option (List Arg×List Prop)
 | [.c (.v (.agg ⟨[.bool g, .string ⟨⟨d⟩⟩, .int .i64 x]⟩)), .c (.v (.int .i64 n)), .c (.v (.int .i64 m))] =>some ([dA (k1c (eaK m) g d n x) (j0a (eaK m) d n x) (b1y (eaK m) d n x),iR (p2d (eaK m) d n x)],[G4 g d x=true,-40000<=n∧n<=40000,m=1∨m=2])
 | _=>none
theorem b1p:∀ az rs l,r0x az=some (rs,l)->d9 l->Ev.Sem zO7 J0 100 az rs:=by
 intro az rs l h hl
 unfold r0x at h
 split at h
 ·cases h
  obtain⟨h1,h2,h3,_⟩:=hl
  rw [<- b2v]
  rcases h3 with rfl | rfl
  ·exact a0g (k:=false) h1 h2
  ·exact a0g (k:=true) h1 h2
 ·cases h
def y1c:iG:=m4 100 (z6 [shV,shV,shV] r0x) F4
theorem g1f:iD zO7 J0 y1c:=d8 (l7 _ b1p) (n9 _ _)
def bTp:Base:=⟨zO7,J0,false,v1k,y1c,200,I6⟩
theorem y1n:BaseOk bTp:=⟨progOk,f0x,g1f,m0⟩
abbrev XTp:Cx:=bTp.cx 10
def fiN (d:List UInt8) (n x:Int):Int:=iI.wrap (iI.wrap (n- (d.length:Int))-x)
abbrev r2j (k g:Bool) (d:List UInt8) (n x:Int):Value:= .tuple ⟨[dcV (k1c k g d n x) (j0a k d n x) (b1y k d n x), .int .i64 (p2d k d n x)]⟩
def fiB (n m:Int):Bool:=match (match !(match decide (m>=1) with | true=>decide (m<=6) | false=>false) with | true=>true | false=>decide (n < 1)) with | true=>true | false=>decide (n > 8192)
section
variable (g:Bool) (d:List UInt8) (x n m:Int)
theorem y2x:b6 XTp [] 200 54 [dcV g d x, .int .i64 n, .int .i64 m] [true,false,false,false,true] =some (.tuple ⟨[dcV g d x, .int .i64 0]⟩,[(d==[])=true,fiB n m=false,false=false,(!G4 g d x)=false,d.length<=9223372036854775807,(0:Int)<=0∧(0:Int) < 1,true=true]):=by kernel_rfl
theorem a3g:b6 XTp [] 200 54 [dcV g d x, .int .i64 n, .int .i64 m] [true,false,false,false,false] =some (r2j (eaK m) g d (fiN d n x) x,[G4 g d x=true,-40000<=fiN d n x∧fiN d n x<=40000,m=1∨m=2,(d==[])=false,fiB n m=false,false=false,(!G4 g d x)=false,d.length<=9223372036854775807,(0:Int)<=0∧(0:Int) < 1,true=true]):=by kernel_rfl
end
theorem n1g {g:Bool} {d:List UInt8} {x n m:Int} (h:G4 g d x=true) (hn:1<=n∧n<=8192) (hm:m=1∨m=2):
  Ev.Pure zO7 J0 54 [dcV g d x, .int .i64 n, .int .i64 m] (r2j (eaK m) g d (n- (d.length:Int)-x) x):=by
 obtain⟨a1,a2,a3,a4,_⟩:=w9 h
 have hf:fiN d n x=n- (d.length:Int)-x:=by unfold fiN; rw [n0e (z:=n- (d.length:Int)) (by omega),n0e (by omega)]
 have hB:fiB n m=false:=by
  unfold fiB
  rw [d4 (show m>=1 by omega),d4 (show m<=6 by omega),b8 (show ¬n < 1 by omega),b8 (show ¬n > 8192 by omega)]
  rfl
 have hd:(!G4 g d x)=false:=by rw [h]; rfl
 by_cases h0:d=[]
 ·have:=d6 y1n 10 _ _ (y2x g d x n m) ⟨by rw [h0]; rfl,hB,rfl,hd,by omega,⟨by decide,by decide⟩,rfl,a7⟩
  have e:(0:Int)<=n- (d.length:Int)-x+x:=by rw [h0]; show (0:Int)<=n-0-x+x; omega
  unfold r2j k1c j0a b1y p2d
  rw [b9 e,b9 e,b9 e,b9 e]
  exact this
 ·have:=a3g g d x n m
  rw [hf] at this
  exact d6 y1n 10 _ _ this ⟨h,by omega,hm,by cases d with | nil=>exact absurd rfl h0 | cons _ _=>rfl,hB,rfl,hd,by omega,⟨by decide,by decide⟩,rfl,a7⟩
def t0l:List Value->Option (Value×List Prop)
 | [.agg ⟨[.bool g, .string ⟨⟨d⟩⟩, .int .i64 x]⟩, .int .i64 n, .int .i64 m] =>some (r2j (eaK m) g d (n- (d.length:Int)-x) x,[G4 g d x=true,1<=n∧n<=8192,m=1∨m=2])
 | _=>none
theorem z0x (args:List Value) (v:Value) (l:List Prop) (h:t0l args=some (v,l)) (hl:d9 l):Ev.Pure zO7 J0 54 args v:=by
 unfold t0l at h
 split at h
 ·cases h; exact n1g hl.1 hl.2.1 hl.2.2.1
 ·cases h
theorem a2d {k g:Bool} {d:List UInt8} {n x:Int} (h:G4 g d x=true):G4 (k1c k g d n x) (j0a k d n x) (b1y k d n x)=true:=by
 unfold k1c j0a b1y
 by_cases e:0<=n+x
 ·rw [b9 e,b9 e,b9 e]; exact h
 ·rw [a6 e,a6 e,a6 e]; exact d0h (D8 _)
theorem h0x (l:List UInt8):∀ n:Nat,d3 (zO6 n 48++l)=d3 l
 | 0=>rfl
 | n+1=>by
  rw [v0v,dF]
  exact h0x l n
theorem e1y:∀ n:Nat,zO11 (10 ^n)=49 ::zO6 n 48
 | 0=>by rw [N9 (by decide)]; rfl
 | n+1=>by
  have hp:0 < 10 ^n:=p7 (by decide)
  rw [gW (by rw [p9]; omega),show 10 ^(n+1)/10=10 ^n by rw [p9]; omega,show 10 ^(n+1)%10=0 by rw [p9]; omega,e1y n,List.replicate_succ',dF]
  rfl
theorem i2r (n:Nat):mdS (zO11 (10 ^n))=[49] :=by
 rw [e1y]
 unfold mdS D2
 rw [show d3 (49 ::zO6 n 48)=49 ::zO6 n 48 by rfl,a0b,List.reverse_replicate,h0x]
 rfl
theorem q0z {m n:Nat} (h:m<=10 ^n) (hn:1<=n):(mdS (zO11 m)).length<=n:=by
 rcases E0 m (10 ^n) with h1 | h1
 ·have h2:=I4 h1 hn
  have h3:=W8 (t:=zO11 m)
  omega
 ·rw [show m=10 ^n by omega,i2r]
  exact hn
theorem p0m {m n:Nat} (x:Int) (h:m<=10 ^n) (hn:1<=n):(mdD (zO11 m) x).length<=n:=by
 unfold mdD
 split
 ·exact q0z h hn
 ·exact n6 _
theorem j1b (k:Bool) {N U m:Nat} (h:N < m*U):rnQ k N U<=m:=by
 have:N/U < m:=Nat.div_lt_of_lt_mul (by rw [n4]; exact h)
 unfold rnQ
 split <;> omega
theorem d0t {k:Bool} {d:List UInt8} {n:Nat} {x:Int} (ha:T6 d) (hn:1<=n):(j0a k d ((n:Int)- (d.length:Int)-x) x).length<=n:=by
 unfold j0a
 by_cases e:(0:Int)<=(n:Int)- (d.length:Int)-x+x
 ·rw [b9 e]; omega
 ·rw [a6 e]
  obtain⟨j,hj⟩:∃ j:Nat,d.length=n+j:=⟨d.length-n,by omega⟩
  unfold rnT
  rw [show (-((n:Int)- (d.length:Int)-x)-x).toNat=j by omega]
  refine p0m _ (j1b k ?_) hn
  rw [<- i7,<- hj]
  exact iY ha
theorem h1a {k g:Bool} {d:List UInt8} {n x:Int} (h:G4 g d x=true): -20000<=b1y k d n x∧b1y k d n x<=20000∧T6 (j0a k d n x)∧(j0a k d n x).length<=8192:=by
 obtain⟨a1,a2,a3,a4,_⟩:=w9 (a2d (k:=k) (n:=n) h)
 exact⟨a3,a4,a1,a2⟩
def g2x:Tab:=l5 54 t0l t1l
theorem v0b:Q0 zO7 J0 g2x:=b7 z0x b0x
def bTq:Base:=⟨zO7,J0,false,g2x,v0w,200,I6⟩
theorem g1y:BaseOk bTq:=⟨progOk,v0b,tY,m0⟩
abbrev XTq:Cx:=bTq.cx 10
abbrev fqN (y:Nat) (n:Int):Int:=n- ((deD y).length:Int)-deX y
abbrev fqD (y:Nat) (n:Int):List UInt8:=j0a (eaK 1) (deD y) (fqN y n) (deX y)
abbrev fqX (y:Nat) (n:Int):Int:=b1y (eaK 1) (deD y) (fqN y n) (deX y)
abbrev fqF (y:Nat) (n:Int):List UInt8:=fgD (fqD y n)
abbrev fqK (y:Nat) (n:Int):Int:=fgK (fqD y n) (fqX y n)
abbrev fqW (y:Nat) (n:Int):Int:=iI.wrap (n- ((fqF y n).length:Int))
abbrev fqT (y:Nat) (n:Int):List UInt8:=gB (fqF y n++Lib.repeatL [48] (fqW y n).toNat) (fqK y n)
def fgB (n:Int):Bool:=match decide (n < 1) with | true=>true | false=>decide (n > 30)
section
variable (x:Nat) (n:Int)
theorem z2n:b6 XTq [] 200 19 [.float .f64 x, .int .i64 n] [true] =some (.tuple ⟨[.string ⟨⟨[]⟩⟩, .int .i64 1]⟩,[fgB n=true]):=by kernel_rfl
theorem y2u:b6 XTq [] 200 19 [.float .f64 x, .int .i64 n] [false,true] =some (.tuple ⟨[.string ⟨⟨snW x⟩⟩, .int .i64 0]⟩,[(!(snW x==[]))=true,x < 18446744073709551616,fgB n=false]):=by kernel_rfl
theorem b3d:b6 XTq [] 200 19 [.float .f64 x, .int .i64 n] [false,false] =some (.tuple ⟨[.string ⟨⟨snA x++fqT (ab x) n⟩⟩, .int .i64 0]⟩,[(snA x).length+(fqT (ab x) n).length<=9223372036854775807,plR (fqF (ab x) n++Lib.repeatL [48] (fqW (ab x) n).toNat) (fqK (ab x) n),(fqF (ab x) n).length+(Lib.repeatL [48] (fqW (ab x) n).toNat).length<=9223372036854775807,plO (fqW (ab x) n),plR (fqD (ab x) n) (fqX (ab x) n),G4 false (deD (ab x)) (deX (ab x))=true,1<=n∧n<=8192,(1:Int)=1∨(1:Int)=2,ab x < 9218868437227405312,x < 18446744073709551616,(!(snW x==[]))=false,x < 18446744073709551616,fgB n=false]):=by kernel_rfl
end
def nfT (x:Nat) (n:Int):List UInt8:=if fgB n=true then [] else if snW x=[] then snA x++gB (fqF (ab x) n++zO6 (n- ((fqF (ab x) n).length:Int)).toNat 48) (fqK (ab x) n) else snW x
def nfE (n:Int):Int:=if fgB n=true then 1 else 0
theorem h0z {d:List UInt8} {k:Int} (h:plR d k):(gB d k).length<=d.length+23:=by
 have:=g0v k (by omega) (by omega)
 unfold gB
 rw [s9,s9,bB]
 split
 ·unfold raB
  rw [s9,s9,A9,D5,bB]
  omega
 ·omega
theorem b0y {y:Nat} {n:Nat} (hn:1<=n):(fqF y n).length<=n∧(fqD y n).length<=8192∧-20000<=fqX y n∧fqX y n<=20000∧-20000<=fqK y n∧fqK y n<=30000:=by
 have h1:=h1a (k:=eaK 1) (n:=fqN y n) (tQ y)
 have h2:(fqD y n).length<=n:=d0t (w9 (tQ y)).1 hn
 have h3: -20000<=fqX y n∧fqX y n<=20000∧(fqD y n).length<=8192:=⟨h1.1,h1.2.1,h1.2.2.2⟩
 refine⟨?_,h3.2.2,h3.1,h3.2.1,?_,?_⟩
 ·show (fgD (fqD y n)).length<=n
  unfold fgD
  split
  ·exact hn
  ·exact h2
 ·show -20000<=fgK (fqD y n) (fqX y n)
  unfold fgK
  split
  ·decide
  ·rename_i hne
   have:=zzA214.2 hne
   omega
 ·show fgK (fqD y n) (fqX y n)<=30000
  unfold fgK
  split
  ·decide
  ·omega
theorem sG {x:Nat} (n:Int) (hx:x < 18446744073709551616):Ev.Pure zO7 J0 19 [.float .f64 x, .int .i64 n] (.tuple ⟨[.string ⟨⟨nfT x n⟩⟩, .int .i64 (nfE n)]⟩):=by
 unfold nfT nfE
 cases hb:fgB n with
 | true=>exact d6 g1y 10 _ _ (z2n x n) ⟨hb,a7⟩
 | false=>
  rw [a6 A4,a6 A4]
  by_cases h:snW x=[]
  ·rw [b9 h]
   have hn:1<=n∧n<=30:=by
    unfold fgB at hb
    by_cases h1:n < 1
    ·rw [d4 h1] at hb; cases hb
    ·rw [b8 h1] at hb
     have:=L4 hb
     omega
   obtain⟨m,rfl⟩:∃ m:Nat,n=(m:Int):=⟨n.toNat,by omega⟩
   obtain⟨r1,r2,r3,r4,r5,r6⟩:=b0y (y:=ab x) (n:=m) (by omega)
   have hW:fqW (ab x) m=(m:Int)- ((fqF (ab x) m).length:Int):=n0e (by omega)
   have hR:plR (fqF (ab x) m++zO6 ((m:Int)- ((fqF (ab x) m).length:Int)).toNat 48) (fqK (ab x) m):=by
    refine⟨?_,by omega,by omega⟩
    rw [s9,G5]
    omega
   have hT:=h0z hR
   rw [s9,G5] at hT
   have hS:=g0k x
   have:=b3d x m
   unfold fqT at this
   rw [hW,I7] at this
   refine d6 g1y 10 _ _ this ⟨by omega,hR,by rw [G5]; omega,⟨by omega,by omega,by omega⟩,⟨by omega,by omega,by omega⟩,tQ _,by omega, .inl rfl,V2 hx h,hx,snW_nil.2 h,hx,hb,a7⟩
  ·rw [a6 h]
   refine d6 g1y 10 _ _ (y2u x n) ⟨?_,hx,hb,a7⟩
   cases hc:(!(snW x==[])) with
   | true=>rfl
   | false=>exact absurd (snW_nil.1 hc) h
section
variable (g:Bool) (d:List UInt8) (x:Int)
theorem n2s:A7 y2f [] 200 40 [dA g d x,iR 1] [xR (raW (g !=false) d [49] (x-0)),fR (raX d [49] (x-0)) (raI d [49] (x-0)) (raU d [49] (x-0)),iR 0] [] =some [l2u g false d [49] x 0,zO4 .f64 (raW (g !=false) d [49] (x-0))=zO4 .f64 (raW (g !=false) d [49] (x-0)),zO8 (raX d [49] (x-0))=zO8 (raX d [49] (x-0)),zO8 (raI d [49] (x-0))=zO8 (raI d [49] (x-0)),zO8 (raU d [49] (x-0))=zO8 (raU d [49] (x-0)),zO3 .i64 0=zO3 .i64 0] :=by kernel_rfl
end
def toW (d:List UInt8) (x:Int):Nat:=min (dcW 53 (-1074) (dgN d) x) 9218868437227405312
abbrev q2j (d:List UInt8) (x:Int):Prop:=G4 false d x=true∧-400<=(d.length:Int)+x∧(d.length:Int)+x<=400
theorem p2l {d:List UInt8} {x:Int} :raW false d [49] x=toW d x:=by
 unfold raW toW
 have e1:dgN [49] =1:=by decide
 by_cases h:d=[]
 ·rw [b9 h,h,show dgN [] =0 by decide,lJ,uQ]
 ·rw [a6 h]
  unfold nuW
  rw [a6 A4]
  unfold qtN qtD dcW pN pD
  by_cases h2:0<=x
  ·rw [b9 h2,b9 h2,b9 h2,b9 h2,e1,b0p (by decide)]
  ·rw [a6 h2,a6 h2,a6 h2,a6 h2,e1,V1,s4,b0p (p7 (by decide))]
theorem n2o {d:List UInt8} {x:Int} (h:q2j d x):Ev.Sem zO7 J0 40 [dA false d x,iR 1] [xR (toW d x),fR (raX d [49] x) (raI d [49] x) (raU d [49] x),iR 0] :=by
 have:=n2s false d x
 rw [Int.sub_zero,show (false !=false)=false by rfl,p2l] at this
 exact l6 a2z 10 _ _ this ⟨⟨h.1,by decide,by decide,fun _=>by show -1000<=(d.length:Int)-1+(x-0)∧(d.length:Int)-1+(x-0)<=1000; omega⟩,rfl,rfl,rfl,rfl,rfl,a7⟩
def f1w:List Arg->Option (List Arg×List Prop)
 | [.c (.v (.agg ⟨[.bool g, .string ⟨⟨d⟩⟩, .int .i64 x]⟩)), .c (.v (.int .i64 1))] =>some ([xR (toW d x),fR (raX d [49] x) (raI d [49] x) (raU d [49] x),iR 0],[g=false∧q2j d x])
 | _=>none
theorem m1n:∀ az rs l,f1w az=some (rs,l)->d9 l->Ev.Sem zO7 J0 40 az rs:=by
 intro az rs l h hl
 unfold f1w at h
 split at h
 ·cases h
  obtain⟨⟨rfl,h1⟩,_⟩:=hl
  exact n2o h1
 ·cases h
def a2g:iG:=m4 40 (z6 [shV,shV] f1w) v0w
theorem h1d:iD zO7 J0 a2g:=d8 (l7 _ m1n) tY
def bTr:Base:=⟨zO7,J0,false,g2x,a2g,200,I6⟩
theorem zQ:BaseOk bTr:=⟨progOk,v0b,h1d,m0⟩
abbrev XTr:Cx:=bTr.cx 10
theorem s1k {W:Nat} (hW:W < 9218868437227405312):∃ m E:Nat,uW W=m*2 ^E∧m < 9007199254740992∧E<=2045∧(0 < W->0 < m):=by
 by_cases h:W < 4503599627370496
 ·exact⟨W,0,y0j hW (by omega) (by omega) (.inl rfl),by omega,by omega,id⟩
 ·obtain⟨E,hE⟩:∃ E,W/4503599627370496=E+1:=⟨W/4503599627370496-1,by omega⟩
  exact⟨W%4503599627370496+4503599627370496,E,y0j hW (by omega) (by omega) (.inr (by omega)),by omega,by omega,fun _=>by omega⟩
theorem w0m {x:Nat} (hx:x < 9218868437227405312): -1074<=J2 x:=by
 have hn:=f0t hx
 have hp:x%p63=x:=H3 (by unfold p63; omega)
 unfold J2
 split
 ·decide
 ·split
  ·decide
  ·rename_i h1 h2
   have hc:¬x < 4503599627370496:=fun hlt=>by
    unfold T8 at h1 h2
    rw [hn,hp,a6 A4,a6 (by omega)] at h1 h2
    by_cases h0:x=0
    ·rw [b9 h0] at h1; exact h1 (by decide)
    ·rw [a6 h0,b9 hlt] at h2; exact h2 rfl
   omega
theorem z2i:2 ^1024 < 10 ^309:=by decide+kernel
theorem b3a:2 ^1074 < 10 ^324:=by decide+kernel
theorem x1l {t:List UInt8} {x:Int} (ht:n8 t=true) (h:mdD t x≠[]):10 ^((mdD t x).length-1)<=dgN (mdD t x):=by
 have hI:mdI t x=true:=by
  cases hc:mdI t x with
  | true=>rfl
  | false=>exfalso; apply h; unfold mdD; rw [hc]; exact a6 A4
 have hD:mdD t x=mdS t:=by unfold mdD; rw [b9 hI]
 rw [hD] at h ⊢
 have hne:d3 t≠[] :=fun k=>h (by unfold mdS; rw [k]; rfl)
 obtain⟨c,r,hc,h48,_⟩:=jR hne
 have hS:n8 (mdS t)=true:=allDB_mem.2 fun b hb=>allDB_mem.1 ht b (uV hb)
 have hg:=f1o (l:=mdS t) (c:=c) (r:=r) hS (by rw [hc]; unfold d3; rw [a6 h48])
 rw [(zY hS).2,hc,u6,iV]
 rw [hc] at hg
 exact hg
theorem i2o {t:List UInt8} {x:Int} (_:n8 t=true) (h:mdD t x=[]):mdX t x=0:=by
 unfold mdX
 cases hc:mdI t x with
 | false=>exact a6 A4
 | true=>
  exfalso
  unfold mdD at h
  rw [b9 hc] at h
  have hne:d3 t≠[] :=fun k=>by
   unfold mdI at hc
   rw [k] at hc
   cases hc
  obtain⟨c,r,hc,_⟩:=jR hne
  rw [hc] at h
  cases h
theorem l0u {a b:Nat} (h:10 ^a < 10 ^b):a < b:=(vJ (by decide)).1 h
theorem g0a {y:Nat} (hy:y < 9218868437227405312): -323<=((deD y).length:Int)+deX y∧((deD y).length:Int)+deX y<=310:=by
 have ht:=D8 (doN y)
 have ht:n8 (doT y)=true:=ht
 obtain⟨f1,f2,f3⟩:=U4 y
 by_cases h0:deD y=[]
 ·have:deX y=0:=i2o ht h0
  rw [h0,this]
  exact⟨by decide,by decide⟩
 ·obtain⟨S,hS⟩:∃ S,S=1100:=⟨_,rfl⟩
  obtain⟨K,hK⟩:∃ K,K=1074:=⟨_,rfl⟩
  obtain⟨J,hJ⟩:∃ J,J=1024:=⟨_,rfl⟩
  obtain⟨u,hu⟩:∃ u,u=309:=⟨_,rfl⟩
  obtain⟨v,hv⟩:∃ v,v=324:=⟨_,rfl⟩
  have hval:=x1r (S:=S) (x:=y) (by omega) (w0m hy)
  have hg:10 ^((deD y).length-1)<=dgN (deD y):=x1l ht h0
  have hl:dgN (deD y) < 10 ^(deD y).length:=iY (w9 (tQ y)).1
  have hval:dgN (deD y)*10 ^(deX y+S).toNat*2 ^1074=uW y*10 ^S:=hval
  obtain⟨m,E,hm,hm1,hE,hm0⟩:=s1k hy
  have hp:=zzA214.2 h0
  obtain⟨a,ha⟩:∃ a:Nat,deX y+(S:Int)=(a:Int):=⟨(deX y+(S:Int)).toNat,by omega⟩
  obtain⟨L,hL⟩:∃ L,(deD y).length=L+1:=⟨(deD y).length-1,by omega⟩
  rw [ha,i8,hm,<- hK] at hval
  rw [hL] at hg hl
  rw [iV] at hg
  have hm64:m*2 ^E < 2 ^J*2 ^K:=by
   have h1:m*2 ^E < 2 ^53*2 ^E:=F8 hm1 (E6 E)
   have h2:2 ^53*2 ^E<=2 ^J*2 ^K:=by
    rw [<- i7,<- i7]
    exact w7 (by decide) (by omega)
   exact E3 h1 h2
  have h9:2 ^J < 10 ^u:=by rw [hJ,hu]; exact z2i
  have h24:2 ^K < 10 ^v:=by rw [hK,hv]; exact b3a
  have hpos:0 < dgN (deD y):=E3 (p7 (by decide)) hg
  have hmpos:1<=m*2 ^E:=by
   have:0 < dgN (deD y)*10 ^a*2 ^K:=B6 (B6 hpos (p7 (by decide))) (E6 K)
   rw [hval] at this
   rcases F2 (m*2 ^E) with h | h
   ·rw [h,C0] at this; exact absurd this (o0w 0)
   ·exact h
  constructor
  ·have q1:10 ^S < 10 ^(L+1+a+v):=by
    have b1:10 ^S<=m*2 ^E*10 ^S:=a0o _ hmpos
    have b2:dgN (deD y)*10 ^a*2 ^K < 10 ^(L+1)*10 ^a*10 ^v:=
     Nat.mul_lt_mul'' (F8 hl (p7 (by decide))) h24
    rw [<- i7,<- i7,hval] at b2
    exact y4 b1 b2
   have:=l0u q1
   omega
  ·have q1:10 ^(L+a)*2 ^K < 10 ^(u+S)*2 ^K:=by
    have b1:10 ^L*10 ^a*2 ^K<=dgN (deD y)*10 ^a*2 ^K:=o9 _ (o9 _ hg)
    have b2:m*2 ^E*10 ^S < 2 ^J*2 ^K*10 ^S:=F8 hm64 (p7 (by decide))
    have b3:2 ^J*2 ^K*10 ^S<=10 ^u*2 ^K*10 ^S:=o9 _ (o9 _ (cJ h9))
    rw [hval] at b1
    have b4:=y4 b1 (E3 b2 b3)
    rw [<- i7,J1,<- i7] at b4
    exact b4
   have:=l0u (l0i q1)
   omega
theorem r1f {t:List UInt8} {z:Int} :mdD t z=[] ∧mdX t z=0∨((mdD t z).length:Int)+mdX t z=z+((d3 t).length:Int):=by
 unfold mdD mdX
 cases hc:mdI t z with
 | false=>exact .inl ⟨a6 A4,a6 A4⟩
 | true=>
  right
  rw [b9 rfl,b9 rfl]
  unfold mdB
  omega
theorem rE {y n:Nat} (hy:y < 9218868437227405312) (hn:1<=n∧n<=30): -400<=((fqD y n).length:Int)+fqX y n∧((fqD y n).length:Int)+fqX y n<=400:=by
 obtain⟨p1,p2⟩:=g0a hy
 have ha:=(w9 (tQ y)).1
 show -400<=((j0a (eaK 1) (deD y) (fqN y n) (deX y)).length:Int)+b1y (eaK 1) (deD y) (fqN y n) (deX y)∧((j0a (eaK 1) (deD y) (fqN y n) (deX y)).length:Int)+b1y (eaK 1) (deD y) (fqN y n) (deX y)<=400
 have hN:fqN y n=(n:Int)- ((deD y).length:Int)-deX y:=rfl
 unfold j0a b1y
 by_cases e:0<=fqN y n+deX y
 ·rw [b9 e,b9 e]; omega
 ·rw [a6 e,a6 e]
  obtain⟨j,hj⟩:∃ j:Nat,(deD y).length=n+j:=⟨(deD y).length-n,by omega⟩
  have hm:rnT (eaK 1) (deD y) (fqN y n) (deX y)=zO11 (rnQ (eaK 1) (dgN (deD y)) (10 ^j)):=by
   unfold rnT
   rw [show (-fqN y n-deX y).toNat=j by omega]
  have hq:rnQ (eaK 1) (dgN (deD y)) (10 ^j)<=10 ^n:=j1b _ (by rw [<- i7,<- hj]; exact iY ha)
  have hl:(rnT (eaK 1) (deD y) (fqN y n) (deX y)).length<=n+1:=by
   rw [hm]
   exact I4 (y4 hq (zC (by decide) (by omega))) (by omega)
  have ht:=B4 (rnT (eaK 1) (deD y) (fqN y n) (deX y))
  rcases r1f (t:=rnT (eaK 1) (deD y) (fqN y n) (deX y)) (z:= -fqN y n) with ⟨h1,h2⟩ | h
  ·rw [h1,h2]; exact⟨by decide,by decide⟩
  ·rw [h]; omega
theorem e2p {y n:Nat} (hy:y < 9218868437227405312) (hn:1<=n∧n<=30):k1c (eaK 1) false (deD y) (fqN y n) (deX y)=false∧q2j (fqD y n) (fqX y n):=by
 have hg:k1c (eaK 1) false (deD y) (fqN y n) (deX y)=false:=by
  unfold k1c
  split
  ·rfl
  ·exact p0c _ _
 have:=a2d (k:=eaK 1) (n:=fqN y n) (tQ y)
 rw [hg] at this
 exact⟨hg,this,rE hy hn⟩
def cSh:Code:=D3 zO7 23 0
def tSh (y:Nat) (A:List UInt8) (w:List UInt8) (k n:Int):St:=⟨only 76 [(0, .float .f64 y),(3, .string ⟨⟨A⟩⟩),(5, .pointer (some ⟨11,0,none⟩)),(7, .string ⟨⟨w⟩⟩),(8, .int .i64 k),(35, .int .i64 n)],[(11, .cells [.bool false, .string ⟨⟨deD y⟩⟩, .int .i64 (deX y)] 33)],13,[],[],0,none,[],11⟩
abbrev srM (n:Int):Int:=iI.wrap (n+1)
abbrev srO (y:Nat) (m:Int):List Prop:=[k1c (eaK 1) false (deD y) (fqN y m) (deX y)=false∧q2j (fqD y m) (fqX y m),G4 false (deD y) (deX y)=true,1<=m∧m<=8192,(1:Int)=1∨(1:Int)=2]
section
variable (x y:Nat) (A w:List UInt8) (k n:Int)
theorem h2k (hl:d9 (((Ieee.double.order (toW (fqD y (srM n)) (fqX y (srM n))) y==some .eq)=false) ::(srO y (srM n)++[decide (n < 17)=true]))):u7 XTr cSh (tSh y A w k n) .normal (tSh y A w k (srM n)):=
 stp zQ 10 progOk.mixed [true,false] [] (by kernel_rfl) hl
theorem o2f (hl:d9 (plR (fqD y (srM n)) (fqX y (srM n)) ::((Ieee.double.order (toW (fqD y (srM n)) (fqX y (srM n))) y==some .eq)=true) ::(srO y (srM n)++[decide (n < 17)=true]))):u7 XTr cSh (tSh y A w k n) (.exit 0) (tSh y A (fqF y (srM n)) (fqK y (srM n)) n):=
 stp zQ 10 progOk.mixed [true,true] [] (by kernel_rfl) hl
theorem n2a (hl:d9 [decide (n < 17)=false]):u7 XTr cSh (tSh y A w k n) (.exit 0) (tSh y A w k n):=
 stp zQ 10 progOk.mixed [false] [] (by kernel_rfl) hl
theorem c2i {z:AX} {s':St} (h:d5 XTr cSh (tSh (ab x) (snA x) (deF x) (deK x) 0) z s'):d5 XTr cSh (u9 XTr 200 23 [.float .f64 x] J0.tabs zO7.globals.size [false]) z s':=
 m6 h []
theorem z2t:b6 XTr [] 200 23 [.float .f64 x] [true] =some (.string ⟨⟨snW x⟩⟩,[(!(snW x==[]))=true,x < 18446744073709551616]):=by kernel_rfl
abbrev stB (k:Int):Bool:=match decide (k < -7) with | true=>true | false=>decide (k > 20)
abbrev stO:List Prop:=[d5 XTr cSh (u9 XTr 200 23 [.float .f64 x] J0.tabs zO7.globals.size [false]) (.exit 0) (tSh (ab x) (snA x) w k n),plR (deD (ab x)) (deX (ab x)),ab x < 9218868437227405312,x < 18446744073709551616,(!(snW x==[]))=false,x < 18446744073709551616]
theorem a3d:b6 XTr [X4 (.exit 0) (fun _=>tSh (ab x) (snA x) w k n)] 200 23 [.float .f64 x] [false,true] =some (.string ⟨⟨snA x++gB w k⟩⟩,[(snA x).length+(gB w k).length<=9223372036854775807,plR w k,stB k=true] ++stO x w k n):=by kernel_rfl
theorem z2w:b6 XTr [X4 (.exit 0) (fun _=>tSh (ab x) (snA x) w k n)] 200 23 [.float .f64 x] [false,false] =some (.string ⟨⟨snA x++jV w k⟩⟩,[(snA x).length+(jV w k).length<=9223372036854775807,plR w k,stB k=false] ++stO x w k n):=by kernel_rfl
end
def sfN (y:Nat):Nat->Nat->Nat
 | 0,n=>n
 | r+1,n=>if toW (fqD y ((n+1:Nat):Int)) (fqX y ((n+1:Nat):Int))=y then n else sfN y r (n+1)
theorem d0k (y:Nat):∀ r n:Nat,n<=sfN y r n∧sfN y r n<=n+r∧(∀ i,n<=i->i < sfN y r n->¬toW (fqD y ((i+1:Nat):Int)) (fqX y ((i+1:Nat):Int))=y)∧(sfN y r n < n+r->toW (fqD y ((sfN y r n+1:Nat):Int)) (fqX y ((sfN y r n+1:Nat):Int))=y)
 | 0,n=>⟨d7 _,d7 _,fun i h1 h2=>absurd h2 (by unfold sfN; omega),fun h=>absurd h (by unfold sfN; omega)⟩
 | r+1,n=>by
  unfold sfN
  by_cases h:toW (fqD y ((n+1:Nat):Int)) (fqX y ((n+1:Nat):Int))=y
  ·rw [b9 h]
   exact⟨d7 _,by omega,fun i h1 h2=>by omega,fun _=>h⟩
  ·rw [a6 h]
   obtain⟨a,b,c,d⟩:=d0k y r (n+1)
   refine⟨by omega,by omega,fun i h1 h2=> ?_,fun h2=>d (by omega)⟩
   by_cases e:i=n
   ·subst e; exact h
   ·exact c i (by omega) h2
def sfI (y:Nat):Nat:=sfN y 17 0
def sfW (y:Nat):List UInt8:=if sfI y < 17 then fqF y ((sfI y+1:Nat):Int) else fgD (deD y)
def sfK (y:Nat):Int:=if sfI y < 17 then fqK y ((sfI y+1:Nat):Int) else fgK (deD y) (deX y)
theorem k2d (d:List UInt8) (x:Int):toW d x<=9218868437227405312:=Nat.min_le_right _ _
theorem x2d {d:List UInt8} {x:Int} {y:Nat} (hy:y < 9218868437227405312):(Ieee.double.order (toW d x) y==some .eq)=decide (toW d x=y):=by
 rw [q0b (k2d d x) (cJ hy)]
 by_cases h:toW d x=y
 ·rw [d4 h,h,zzA220.2 rfl]; rfl
 ·rw [b8 h]
  cases hc:compare ((toW d x:Nat):Int) (y:Int) with
  | eq=>exact absurd (zO2.inj (zzA220.1 hc)) h
  | lt=>rfl
  | gt=>rfl
section
variable {y:Nat} (hy:y < 9218868437227405312)
include hy
theorem y1m {n:Nat} (hn:n < 17):srM n=((n+1:Nat):Int)∧d9 (srO y ((n+1:Nat):Int)):=by
 refine⟨(n0e (by omega)).trans (by omega),e2p (n:=n+1) hy (by omega),tQ y,by omega, .inl rfl,a7⟩
theorem c2j (A:List UInt8):d5 XTr cSh (tSh y A (fgD (deD y)) (fgK (deD y) (deX y)) 0) (.exit 0) (tSh y A (sfW y) (sfK y) (sfI y)):=by
 obtain⟨_,h2,h3,h4⟩:=d0k y 17 0
 have h2:sfI y<=17:=by unfold sfI; omega
 refine A8 (fun k=>tSh y A (fgD (deD y)) (fgK (deD y) (deX y)) (k:Int)) (sfI y) (by intro e; cases e) (fun k hk=> ?_) ?_
 ·have hlt:k < 17:=by omega
  obtain⟨e1,e2⟩:=y1m hy hlt
  have:=h2k y A (fgD (deD y)) (fgK (deD y) (deX y)) (k:Int)
  rw [e1] at this
  exact this ⟨by rw [x2d hy]; exact b8 (h3 k (n6 _) hk),(i6 _ _).2 ⟨e2,d4 (by omega),a7⟩⟩
 ·by_cases hlt:sfI y < 17
  ·obtain⟨e1,e2⟩:=y1m hy hlt
   have:=o2f y A (fgD (deD y)) (fgK (deD y) (deX y)) (sfI y:Int)
   rw [e1] at this
   obtain⟨r1,r2,r3,r4,r5,r6⟩:=b0y (y:=y) (n:=sfI y+1) (by omega)
   unfold sfW sfK
   rw [b9 hlt,b9 hlt]
   exact this ⟨⟨by omega,by omega,by omega⟩,by rw [x2d hy]; exact d4 (h4 (by unfold sfI at hlt; omega)),(i6 _ _).2 ⟨e2,d4 (by omega),a7⟩⟩
  ·unfold sfW sfK
   rw [a6 hlt,a6 hlt]
   exact n2a y A (fgD (deD y)) (fgK (deD y) (deX y)) (sfI y:Int) ⟨b8 (by omega),a7⟩
omit hy in
theorem r1i (y:Nat):plR (sfW y) (sfK y)∧(sfW y).length<=8192:=by
 unfold sfW sfK
 by_cases h:sfI y < 17
 ·rw [b9 h,b9 h]
  obtain⟨r1,r2,r3,r4,r5,r6⟩:=b0y (y:=y) (n:=sfI y+1) (by omega)
  exact⟨⟨by omega,by omega,by omega⟩,by omega⟩
 ·rw [a6 h,a6 h]
  have:=y0h y
  exact⟨⟨by omega,by omega,by omega⟩,by omega⟩
end
def srT (x:Nat):List UInt8:=if snW x=[] then snA x++(if stB (sfK (ab x))=true then gB (sfW (ab x)) (sfK (ab x)) else jV (sfW (ab x)) (sfK (ab x))) else snW x
theorem a1x {x:Nat} (hx:x < 18446744073709551616):Ev.Pure zO7 J0 23 [.float .f64 x] (.string ⟨⟨srT x⟩⟩):=by
 unfold srT
 by_cases h:snW x=[]
 ·rw [b9 h]
  have hf:=V2 hx h
  obtain⟨hR,hl⟩:=r1i (ab x)
  have hS:=g0k x
  have hD:=U4 (ab x)
  have ho:d9 (stO x (sfW (ab x)) (sfK (ab x)) (sfI (ab x))):=⟨c2i x (c2j hf (snA x)),⟨by omega,by omega,by omega⟩,hf,hx,snW_nil.2 h,hx,a7⟩
  cases hb:stB (sfK (ab x)) with
  | true=>
   have hT:=h0z hR
   rw [b9 rfl]
   exact d6 zQ 10 _ _ (a3d x _ _ _) ((i6 _ _).2 ⟨⟨by omega,hR,hb,a7⟩,ho⟩)
  | false=>
   have hT:=m0y hR
   rw [a6 A4]
   exact d6 zQ 10 _ _ (z2w x _ _ _) ((i6 _ _).2 ⟨⟨by omega,hR,hb,a7⟩,ho⟩)
 ·rw [a6 h]
  refine d6 zQ 10 _ _ (z2t x) ⟨?_,hx,a7⟩
  cases hc:(!(snW x==[])) with
  | true=>rfl
  | false=>exact absurd (snW_nil.1 hc) h
def x6T:List UInt8:=[48,49,50,51,52,53,54,55,56,57,97,98,99,100,101,102,103,104,105,106,107,108,109,110,111,112,113,114,115,116,117,118,119,120,121,122]
def x6B (k:Int):UInt8:=UInt8.ofNat (zO2 (x6T.getD k.toNat 0).toNat).toNat
def x6I (u:Int):Int:=uI.wrap (zO10 uI.bits u&&& zO10 uI.bits 15).toNat
def x6S (u:Int):Int:=Int.fdiv u 16
def x6L:Nat->Int->List UInt8
 | 0,u=>[x6B u]
 | j+1,u=>x6L j (x6S u)++[x6B (x6I u)]
def x6O:Nat->Int->Int->List Prop
 | 0,i,u=>[0<=i-1∧i-1 < 65,0<=u∧u.toNat < 36,decide (16<=u)=false]
 | j+1,i,u=>x6O j (i-1) (x6S u)++[(0:Int)<=4,0<=i-1∧i-1 < 65,0<=x6I u∧(x6I u).toNat < 36,decide (16<=u)=true]
abbrev x6A (u:Int):List Value:=[.slice none 0 0, .int .u64 u, .int .i64 16, .bool false, .bool false]
abbrev x6D (j:Nat):List Bool:=[false,false,true] ++(zO6 j true++[false,false,false])
abbrev x6E (j:Nat) (u:Int):List Prop:=[(0:Int)<=64-j∧(64:Int)-j<=65∧(65:Int)<=65,false=false,false=false] ++x6O j 65 u++[Ev.addO 0 15 < 64,(0:Int)<=15∧(15:Int) < 64,true=true,false=false,false=false]
theorem z2b (u:Int):∀ j:Fin 13,b6 XTf [] 200 174 (x6A u) (x6D j.1)=some (.tuple ⟨[.slice none 0 0, .string ⟨⟨x6L j.1 u⟩⟩]⟩,x6E j.1 u)
 | ⟨0,_⟩=>by kernel_rfl
 | ⟨1,_⟩=>by kernel_rfl
 | ⟨2,_⟩=>by kernel_rfl
 | ⟨3,_⟩=>by kernel_rfl
 | ⟨4,_⟩=>by kernel_rfl
 | ⟨5,_⟩=>by kernel_rfl
 | ⟨6,_⟩=>by kernel_rfl
 | ⟨7,_⟩=>by kernel_rfl
 | ⟨8,_⟩=>by kernel_rfl
 | ⟨9,_⟩=>by kernel_rfl
 | ⟨10,_⟩=>by kernel_rfl
 | ⟨11,_⟩=>by kernel_rfl
 | ⟨12,_⟩=>by kernel_rfl
theorem w2y {A B m:Nat} (h1:m*B<=A) (h2:A < m*B+B):A/B=m:=
 Nat.div_eq_of_lt_le h1 (by rw [u4,V1]; exact h2)
theorem n2v {N D m:Nat} {e:Int} (hB:0 < atB D e) (h1:m*atB D e<=atA N e) (h2:2*atA N e < 2*(m*atB D e)+atB D e):flq N D e=m∧flm N D e=m:=by
 have hq:flq N D e=m:=w2y h1 (by omega)
 have hd:=y1d N D e
 rw [hq] at hd
 refine⟨hq,?_⟩
 rcases l0j N D e hB with ⟨h,_,_⟩ | ⟨_,h,_⟩
 ·rw [h,hq]
 ·omega
theorem p1c {N D m:Nat} {e:Int} (hB:0 < atB D e) (h1:atA N e < m*atB D e+atB D e) (h2:2*(m*atB D e)+atB D e < 2*atA N e):flq N D e=m∧flm N D e=m+1:=by
 have hq:flq N D e=m:=w2y (by omega) h1
 have hd:=y1d N D e
 rw [hq] at hd
 refine⟨hq,?_⟩
 rcases l0j N D e hB with ⟨_,h,_⟩ | ⟨h,_,_⟩
 ·omega
 ·rw [h,hq]
theorem i2c (N D:Nat) (e:Int):atA N (e-1)*atB D e=2*(atA N e*atB D (e-1)):=by
 unfold atA atB
 by_cases h:0<=e
 ·by_cases h1:0<=e-1
  ·rw [b9 h,b9 h,b9 h1,b9 h1,show e.toNat=(e-1).toNat+1 by omega,p9]
   simp only [n4,S4]
  ·have h0:e=0:=by omega
   subst h0
   rw [a6 (show ¬(0:Int)<=0-1 by decide),a6 (show ¬(0:Int)<=0-1 by decide),b9 (xY 0),b9 (xY 0)]
   show N*2 ^1*(D*2 ^0)=2*(N*D)
   rw [oY,aW,s4]
   simp only [f9,n4,S4]
 ·rw [a6 h,a6 h,a6 (by omega),a6 (by omega),show (-(e-1)).toNat=(-e).toNat+1 by omega,p9]
  simp only [n4,S4]
theorem g2d (j m:Nat):j*m+2*m=(j+1)*m+m:=by rw [u4]; omega
theorem r1n {K:Nat} {L:Int} {N D m:Nat} {e:Int} (hK:1 < K) (hN:0 < N) (hD:0 < D) (hL:L<=e) (hm:m < 2 ^K) (h0:0 < m) (hE:e=L∨2 ^(K-1)<=m) (hu:2*atA N e < 2*(m*atB D e)+atB D e) (hl:2*(m*atB D e) < 2*atA N e+atB D e)
  (hl2:e≠L->m=2 ^(K-1)->4*(m*atB D e) < 4*atA N e+atB D e):rwd K L N D=(e-L).toNat*2 ^(K-1)+m:=by
 have hB:=g0i hD e
 by_cases h1:m*atB D e<=atA N e
 ·obtain⟨q1,q2⟩:=n2v hB h1 hu
  rw [W9 (e:=e) (by omega) hN hD ⟨hL,by rw [q1]; exact hm,hE.imp id (fun h=>by rw [q1]; exact h)⟩,q2]
 ·obtain⟨k,rfl⟩:∃ k,m=k+1:=⟨m-1,by omega⟩
  have hk:(k+1)*atB D e=k*atB D e+atB D e:=by rw [u4,V1]
  rw [hk] at h1 hu hl
  obtain⟨q1,q2⟩:=p1c (N:=N) (m:=k) hB (by omega) (by omega)
  by_cases h2:e=L∨2 ^(K-1)<=k
  ·rw [W9 (e:=e) (by omega) hN hD ⟨hL,by rw [q1]; omega,h2.imp id (fun h=>by rw [q1]; exact h)⟩,q2]
  ·have hne:e≠L:=fun h=>h2 (.inl h)
   have hp:k+1=2 ^(K-1):=by
    have:=hE.resolve_left hne
    have:¬2 ^(K-1)<=k:=fun h=>h2 (.inr h)
    omega
   have h3:=hl2 hne hp
   rw [hk] at h3
   have hB1:=g0i hD (e-1)
   have hpv:=i2c N D e
   have g1:atA N (e-1) < (2*k+1)*atB D (e-1)+atB D (e-1):=by
    refine l0i (a:=atB D e) ?_
    rw [hpv,<- Nat.succ_mul,show (2*k+1).succ*atB D (e-1)*atB D e=2*((k*atB D e+atB D e)*atB D (e-1)) by
     rw [<- hk,show (2*k+1).succ=2*(k+1) by omega]; simp only [f9,n4,S4]]
    exact Nat.mul_lt_mul_of_pos_left (F8 (by omega) hB1) (by decide)
   have g2:2*((2*k+1)*atB D (e-1))+atB D (e-1) < 2*atA N (e-1):=by
    refine l0i (a:=atB D e) ?_
    rw [f9 2 (atA N (e-1)),hpv,show (2*((2*k+1)*atB D (e-1))+atB D (e-1))*atB D e=(4*(k*atB D e)+3*atB D e)*atB D (e-1) by
     rw [show 2*((2*k+1)*atB D (e-1))+atB D (e-1)=(4*k+3)*atB D (e-1) by
      rw [<- f9,<- Nat.succ_mul]; congr 1; omega]
     rw [<- f9 4 k,<- u4,J1]]
    rw [show 2*(2*(atA N e*atB D (e-1)))=4*atA N e*atB D (e-1) by rw [<- f9,<- f9]]
    exact F8 (by omega) hB1
   obtain⟨q3,q4⟩:=p1c (m:=2*k+1) hB1 g1 g2
   have hd:=e0p (K:=K) (by omega)
   rw [W9 (e:=e-1) (by omega) hN hD ⟨by omega,by rw [q3]; omega, .inr (by rw [q3]; omega)⟩,q4]
   obtain⟨j,hj⟩:∃ j:Nat,(e-L).toNat=j+1:=⟨(e-L).toNat-1,by omega⟩
   rw [hj,show (e-1-L).toNat=j by omega,<- hp,show 2*k+1+1=2*(k+1) by omega]
   exact g2d j (k+1)
theorem i1y {N D T:Nat} {e:Int} (he: -(T:Int)<=e):N*2 ^T*atB D e=atA N e*2 ^(e+T).toNat*D:=by
 unfold atA atB
 by_cases h:0<=e
 ·rw [b9 h,b9 h,show (e+T).toNat=T+e.toNat by omega,i7]
  simp only [f9,n4,S4]
 ·rw [a6 h,a6 h]
  have e1:2 ^T=2 ^(-e).toNat*2 ^(e+T).toNat:=by rw [<- i7]; congr 1; omega
  rw [e1]
  simp only [f9]
theorem q0q {K T N D m E c:Nat} (hK:1 < K) (hN:0 < N) (hD:0 < D) (hm:m < 2 ^K) (h0:0 < m) (hE:E=0∨2 ^(K-1)<=m) (hc:2 ^(K+1) < c) (hu:c*(N*2 ^T)<=c*(m*2 ^E*D)+m*2 ^E*D) (hl:c*(m*2 ^E*D)<=c*(N*2 ^T)+m*2 ^E*D):
  rwd K (-(T:Int)) N D=E*2 ^(K-1)+m:=by
 obtain⟨e,he⟩:∃ e:Int,e=(E:Int)-T:=⟨_,rfl⟩
 have hB:=g0i hD e
 have hZ:0 < 2 ^E*D:=B6 (E6 E) hD
 have hs:=i1y (N:=N) (D:=D) (T:=T) (e:=e) (by omega)
 rw [show (e+T).toNat=E by omega,f9 (atA N e)] at hs
 rw [f9 m] at hu hl
 have hu':c*atA N e<=c*(m*atB D e)+m*atB D e:=by
  refine s0p (c:=2 ^E*D) ?_ hZ
  have:=o9 (atB D e) hu
  rw [u4,f9 c,hs] at this
  rw [u4]
  generalize 2 ^E*D=Z at*
  simp only [f9,n4,S4] at this ⊢
  exact this
 have hl':c*(m*atB D e)<=c*atA N e+m*atB D e:=by
  refine s0p (c:=2 ^E*D) ?_ hZ
  have:=o9 (atB D e) hl
  rw [u4,f9 c (N*2 ^T),hs] at this
  rw [u4]
  generalize 2 ^E*D=Z at*
  simp only [f9,n4,S4] at this ⊢
  exact this
 have hcB:2 ^(K+1)*atB D e < c*atB D e:=F8 hc hB
 have hmB:2*(m*atB D e) < 2 ^(K+1)*atB D e:=by
  rw [p9,n4 _ 2,f9]
  exact Nat.mul_lt_mul_of_pos_left (F8 hm hB) (by decide)
 have hmc:m=2 ^(K-1)->4*(m*atB D e)=2 ^(K+1)*atB D e:=by
  intro h
  rw [p9,e0p (K:=K) (by omega),<- h,n4 (2*m) 2,<- f9,<- f9]
 have h1:c*(2*atA N e)=2*(c*atA N e):=S4 _ _ _
 have h2:c*(2*(m*atB D e))=2*(c*(m*atB D e)):=S4 _ _ _
 have h3:c*(4*atA N e)=4*(c*atA N e):=S4 _ _ _
 have h4:c*(4*(m*atB D e))=4*(c*(m*atB D e)):=S4 _ _ _
 have hc0:0 < c:=by omega
 have:=r1n (L:= -(T:Int)) (e:=e) hK hN hD (by omega) hm h0 (hE.imp (fun h=>by omega) id)
  (by
   refine yF (a:=c) ?_
   rw [O6,h1,h2]
   generalize c*atA N e=u at*
   generalize c*(m*atB D e)=v at*
   generalize c*atB D e=w at*
   generalize 2 ^(K+1)*atB D e=z at*
   omega)
  (by
   refine yF (a:=c) ?_
   rw [O6,h1,h2]
   generalize c*atA N e=u at*
   generalize c*(m*atB D e)=v at*
   generalize c*atB D e=w at*
   generalize 2 ^(K+1)*atB D e=z at*
   omega)
  (fun _ h=>by
   have hmc:=hmc h
   refine yF (a:=c) ?_
   rw [O6,h3,h4]
   generalize c*atA N e=u at*
   generalize c*(m*atB D e)=v at*
   generalize c*atB D e=w at*
   generalize 2 ^(K+1)*atB D e=z at*
   omega)
 rw [this,show (e- -(T:Int)).toNat=E by omega]
def d1p:Tab:=l5 136 jZ k1e
theorem m0i:Q0 zO7 J0 d1p:=b7 nG k0w
def bRo6:Base:=⟨zO7,J0,false,d1p,gP,200,I6⟩
theorem cN:BaseOk bRo6:=⟨progOk,m0i,Q4,m0⟩
abbrev p1o:Cx:=bRo6.cx 10
def cBi:Code:=D3 zO7 82 0
def tBi (d:List UInt8) (e p l m:Int) (r:Bool) (i:Int):St:=⟨only 98 [(0, .string ⟨⟨d⟩⟩),(1, .int .i64 e),(2, .int .i64 p),(3, .int .i64 l),(8, .float .f64 0),(9, .int .u64 m),(10, .bool r),(18, .string ⟨⟨d⟩⟩),(19, .int .i64 d.length),(20, .int .i64 i)],J0.tabs,11,[],[],0,none,[],11⟩
def bim (d:List UInt8) (m i:Int):Int:=uI.wrap ((zO10 uI.bits (uI.wrap (m*2 ^min (Int.toNat 4) uI.bits))||| zO10 uI.bits (uI.wrap (t7 (chI d i)))).toNat:Nat)
def bir (d:List UInt8) (r:Bool) (i:Int):Bool:=match r with | true=>true | false=>chI d i !=48
section
variable (d:List UInt8) (e p l m:Int) (r:Bool) (i:Int)
theorem j2x (hl:d9 [0<=chI d i∧chI d i < 256,0<=i∧i.toNat < d.length,decide (i < 16)=true,decide (i < (d.length:Int))=true]):u7 p1o cBi (tBi d e p l m r i) .normal (tBi d e p l (bim d m i) r (iI.wrap (i+1))):=
 stp cN 10 progOk.mixed [true,true] [] (by kernel_rfl) hl
theorem h2x (hl:d9 [F0 [(1,r)] [(1,false)] ->0<=i∧i.toNat < d.length,decide (i < 16)=false,decide (i < (d.length:Int))=true]):u7 p1o cBi (tBi d e p l m r i) .normal (tBi d (iI.wrap (e+4)) p l m (bir d r i) (iI.wrap (i+1))):=
 stp cN 10 progOk.mixed [true,false] [] (by kernel_rfl) hl
theorem p2u (hl:d9 [decide (i < (d.length:Int))=false]):u7 p1o cBi (tBi d e p l m r i) (.exit 0) (tBi d e p l m r i):=
 stp cN 10 progOk.mixed [false] [] (by kernel_rfl) hl
theorem i2l {x:AX} {s':St} (ds:List Bool) (h:d5 p1o cBi (tBi d e p l 0 false 0) x s'):d5 p1o cBi (u9 p1o 200 82 [.string ⟨⟨d⟩⟩, .int .i64 e, .int .i64 p, .int .i64 l] J0.tabs zO7.globals.size ds) x s':=
 m6 h []
end
def bzN (M:Int):Int:=iI.wrap (64-G9 M)
def bzE (E M:Int):Int:=iI.wrap (E-bzN M)
def bzU (E M p l:Int):Int:=if iI.wrap (iI.wrap (bzE E M+64)-p) < l then l else iI.wrap (iI.wrap (bzE E M+64)-p)
def bzO (E M p l:Int):Int:=iI.wrap (bzU E M p l-bzE E M)
def bzM (M:Int):Int:=uI.wrap (M*2 ^min (bzN M).toNat uI.bits)
def bqQ (E M p l:Int):Int:=(bzM M).fdiv (2 ^min (bzO E M p l).toNat uI.bits)
def bqL (E M p l:Int):Int:=uI.wrap (bzM M-uI.wrap (bqQ E M p l*2 ^min (bzO E M p l).toNat uI.bits))
def bqH (E M p l:Int):Int:=uI.wrap (1*2 ^min (iI.wrap (bzO E M p l-1)).toNat uI.bits)
def bUp (left half q:Int) (R:Bool):Bool:=match decide (left > half) with | true=>true | false=>match left==half with | true=>(match R with | true=>true | false=>Int.tmod q 2==1) | false=>false
abbrev loB (d:List UInt8) (e p l E M:Int) (R:Bool) (i:Int) (ds:List Bool):Prop:=d5 p1o cBi (u9 p1o 200 82 [.string ⟨⟨d⟩⟩, .int .i64 e, .int .i64 p, .int .i64 l] J0.tabs zO7.globals.size ds) (.exit 0) (tBi d E p l M R i)
abbrev biC (d:List UInt8) (e p l E M:Int) (R:Bool) (i:Int) (ds:List Bool):=b6 p1o [X4 (.exit 0) (fun _=>tBi d E p l M R i)] 200 82 [.string ⟨⟨d⟩⟩, .int .i64 e, .int .i64 p, .int .i64 l] ds
section
variable (d:List UInt8) (e p l E M:Int) (R:Bool) (i:Int)
theorem o2b:biC d e p l E M R i [true] =some (.float .f64 0,[decide (64 < bzO E M p l)=true,0<=bzN M,0<=M∧M < 18446744073709551616,loB d e p l E M R i [true]]):=by kernel_rfl
theorem k2b:biC d e p l E M R i [false,false,false] =some (.float .f64 (ldW 0 (bzU E M p l)),[m1k 0 (bzU E M p l),bUp (bzM M) 9223372036854775808 0 R=false,decide (bzO E M p l < 64)=false,decide (64 < bzO E M p l)=false,0<=bzN M,0<=M∧M < 18446744073709551616,loB d e p l E M R i [false,false,false]]):=by kernel_rfl
theorem p2f:biC d e p l E M R i [false,false,true] =some (.float .f64 (ldW (FloatKind.f64.nearest 1) (bzU E M p l)),[m1k (FloatKind.f64.nearest 1) (bzU E M p l),bUp (bzM M) 9223372036854775808 0 R=true,decide (bzO E M p l < 64)=false,decide (64 < bzO E M p l)=false,0<=bzN M,0<=M∧M < 18446744073709551616,loB d e p l E M R i [false,false,true]]):=by kernel_rfl
theorem v2h:biC d e p l E M R i [false,true,false] =some (.float .f64 (ldW (FloatKind.f64.nearest (bqQ E M p l)) (bzU E M p l)),[m1k (FloatKind.f64.nearest (bqQ E M p l)) (bzU E M p l),bUp (bqL E M p l) (bqH E M p l) (bqQ E M p l) R=false,0<=iI.wrap (bzO E M p l-1),0<=bzO E M p l,0<=bzO E M p l,decide (bzO E M p l < 64)=true,decide (64 < bzO E M p l)=false,0<=bzN M,0<=M∧M < 18446744073709551616,loB d e p l E M R i [false,true,false]]):=by kernel_rfl
theorem t2v:biC d e p l E M R i [false,true,true] =some (.float .f64 (ldW (FloatKind.f64.nearest (uI.wrap (bqQ E M p l+1))) (bzU E M p l)),[m1k (FloatKind.f64.nearest (uI.wrap (bqQ E M p l+1))) (bzU E M p l),bUp (bqL E M p l) (bqH E M p l) (bqQ E M p l) R=true,0<=iI.wrap (bzO E M p l-1),0<=bzO E M p l,0<=bzO E M p l,decide (bzO E M p l < 64)=true,decide (64 < bzO E M p l)=false,0<=bzN M,0<=M∧M < 18446744073709551616,loB d e p l E M R i [false,true,true]]):=by kernel_rfl
end
def hxd (c:UInt8):Nat:=(t7 (c.toNat:Int)).toNat
def hxN (l:List UInt8):Nat:=l.foldl (fun m c=>16*m+hxd c) 0
def pX (l:List UInt8):Prop:=∀ c∈l,t7 (c.toNat:Int) < 16
theorem g1i {c:UInt8} :((hxd c:Nat):Int)=t7 (c.toNat:Int):=by
 unfold hxd
 have:=worth_range (c:=(c.toNat:Int))
 omega
theorem u0s (l:List UInt8) (c:UInt8):hxN (l++[c])=16*hxN l+hxd c:=by
 unfold hxN
 rw [List.foldl_append]
 rfl
theorem h0h {l:List UInt8} (h:pX l):∀ k,k<=l.length->hxN (l.take k) < 16 ^k:=by
 intro k
 induction k with
 | zero=>intro _; rw [List.take_zero]; exact Nat.one_pos
 | succ k ih=>
  intro hk
  have h1:=ih (by omega)
  rw [List.take_succ_eq_append_getElem (by omega),u0s,p9]
  have h2:=h _ (List.getElem_mem (show k < l.length by omega))
  have h3:=g1i (c:=l[k])
  omega
theorem y2p {m w:Nat} (hw:w < 16):m*16||| w=m*16+w:=by
 have:=m0p (i:=4) (show w < 2 ^4 from hw) m
 rw [jW] at this
 exact this.symm
theorem z1i {m:Nat} (hm:m < 1152921504606846976):m*16 < 18446744073709551616:=by omega
theorem g2f {m w:Nat} (hm:m < 1152921504606846976) (hw:w < 16):m*16+w < 18446744073709551616:=by omega
theorem p2i {d:List UInt8} {m w:Nat} {i:Int} (hm:m < 1152921504606846976) (hw:w < 16) (h:t7 (chI d i)=(w:Int)):bim d (m:Int) i=((16*m+w:Nat):Int):=by
 unfold bim
 rw [h]
 have h3:(m:Int)*2 ^min (Int.toNat 4) uI.bits=((m*16:Nat):Int):=by
  rw [dE]
  rfl
 have hw2:w < 18446744073709551616:=pM hw (by decide)
 rw [h3,w0r (z1i hm),w0r hw2,h0d,i2y (z1i hm),i2y hw2,y2p hw,w0r (g2f hm hw),n4]
def biS (d:List UInt8) (e p l:Int) (i:Nat):St:=tBi d (e+((4*(i-16):Nat):Int)) p l ((hxN (d.take (min i 16)):Nat):Int) (((d.take i).drop 16).any fun c=>c !=48) (i:Int)
theorem r0b {d:List UInt8} {i:Nat} (hi:i < d.length):chI d (i:Int)=((d[i].toNat:Nat):Int):=by
 show ((d.getD ((i:Int)).toNat 0).toNat:Int)=_
 rw [i8,pZ,e1i hi]
 rfl
theorem x2v (c:UInt8):(((c.toNat:Nat):Int) !=48)=(c !=48):=by
 rw [Bool.eq_iff_iff,zzA216,zzA216]
 constructor
 ·intro h e; exact h (by rw [e]; rfl)
 ·intro h e; exact h (zzA132.1 (show c.toNat=48 by omega))
theorem w1r {d:List UInt8} {e p l:Int} (hd:pX d) (hl:d.length<=140737488351232) (he: -1000000000000000000<=e∧e<=1000000000000000000) {i:Nat} (hi:i < d.length):u7 p1o cBi (biS d e p l i) .normal (biS d e p l (i+1)):=by
 have hc:=r0b hi
 have hlt:d[i].toNat < 256:=d[i].toNat_lt
 have hi1:iI.wrap ((i:Int)+1)=((i+1:Nat):Int):=by rw [wr (by omega) (by omega)]; omega
 have hin:(0:Int)<=(i:Int)∧((i:Int)).toNat < d.length:=⟨y9 _,by rw [i8]; exact hi⟩
 have hlen:decide ((i:Int) < (d.length:Int))=true:=d4 (zzA186.2 hi)
 by_cases h16:i < 16
 ·have:=j2x d (e+((4*(i-16):Nat):Int)) p l ((hxN (d.take (min i 16)):Nat):Int) (((d.take i).drop 16).any fun c=>c !=48) (i:Int) ⟨by rw [hc]; omega,hin,d4 (by omega),hlen,a7⟩
  have hw:=hd _ (List.getElem_mem hi)
  have h3:=g1i (c:=d[i])
  have hm:hxN (d.take i) < 1152921504606846976:=E3 (h0h hd i (by omega)) (by
   have:16 ^i<=16 ^15:=w7 (by decide) (by omega)
   exact this)
  rw [B2 (by omega),p2i (w:=hxd d[i]) hm (by omega) (by rw [hc]; exact h3.symm),hi1] at this
  unfold biS
  rw [B2 (by omega),B2 (by omega),List.take_succ_eq_append_getElem hi,u0s]
  have e1:i+1-16=i-16:=by omega
  have e2:(d.take i++[d[i]]).drop 16=(d.take i).drop 16:=by
   rw [List.drop_eq_nil_of_le (by rw [s9,A9,bB]; omega),List.drop_eq_nil_of_le (by rw [A9]; omega)]
  rw [e1,e2]
  exact this
 ·have:=h2x d (e+((4*(i-16):Nat):Int)) p l ((hxN (d.take (min i 16)):Nat):Int) (((d.take i).drop 16).any fun c=>c !=48) (i:Int) ⟨fun _=>hin,b8 (by omega),hlen,a7⟩
  have hr:bir d (((d.take i).drop 16).any fun c=>c !=48) (i:Int)=(((d.take i).drop 16).any (fun c=>c !=48) || d[i] !=48):=by
   unfold bir
   rw [hc,x2v]
   cases ((d.take i).drop 16).any (fun c=>c !=48) <;> rfl
  have hE:iI.wrap (e+((4*(i-16):Nat):Int)+4)=e+((4*(i+1-16):Nat):Int):=by
   rw [wr (by omega) (by omega)]
   omega
  rw [hi1,hr,hE,S5 (by omega)] at this
  unfold biS
  rw [S5 (by omega),S5 (by omega),List.take_succ_eq_append_getElem hi,List.drop_append_of_le_length (by rw [A9]; omega),List.any_append]
  rw [show [d[i]].any (fun c=>c !=48)=(d[i] !=48) by simp]
  exact this
theorem h2c {d:List UInt8} {e p l:Int} (hd:pX d) (hl:d.length<=140737488351232) (he: -1000000000000000000<=e∧e<=1000000000000000000) (ds:List Bool):
  loB d e p l (e+((4*(d.length-16):Nat):Int)) ((hxN (d.take 16):Nat):Int) ((d.drop 16).any fun c=>c !=48) (d.length:Int) ds:=by
 have h:=A8 (biS d e p l) d.length (x:= .exit 0) (by intro e; cases e) (fun i hi=>w1r hd hl he hi) (p2u d _ p l _ _ (d.length:Int) ⟨b8 (kD _),a7⟩)
 have e0:biS d e p l 0=tBi d e p l 0 false 0:=by
  unfold biS
  show tBi d (e+((0:Nat):Int)) p l ((0:Nat):Int) false ((0:Nat):Int)=_
  rw [show e+((0:Nat):Int)=e by omega]
  rfl
 rw [e0,y5] at h
 have e1:d.take (min d.length 16)=d.take 16:=by
  rw [Nat.min_comm,<- List.take_take,y5]
 rw [e1] at h
 exact i2l d e p l ds h
def biX (M:Nat):Nat:=M*2 ^(64-bl M)
def biE (M:Nat) (E:Int):Int:=E- ((64-bl M:Nat):Int)
def biU (M:Nat) (E p l:Int):Int:=if biE M E+64-p < l then l else biE M E+64-p
def biO (M:Nat) (E p l:Int):Int:=biU M E p l-biE M E
def upT (X o:Nat) (R:Bool):Bool:=decide (2 ^(o-1) < X%2 ^o) || (decide (X%2 ^o=2 ^(o-1)) && (R || decide (X/2 ^o%2=1)))
def biQ (X o:Nat) (R:Bool):Nat:=if upT X o R=true then X/2 ^o+1 else X/2 ^o
def biW (M:Nat) (R:Bool) (E p l:Int):Nat:=if 64 < biO M E p l then 0 else ldW (lY (biQ (biX M) (biO M E p l).toNat R)) (biU M E p l)
theorem R6 {M:Nat} (h0:0 < M) (h:M < 18446744073709551616):9223372036854775808<=biX M∧biX M < 18446744073709551616∧1<=bl M∧bl M<=64:=by
 have h1:0 < bl M:=bl_ge.2 (by show 1<=M; exact h0)
 have h2:bl M<=64:=bl_le.2 (by show M < 18446744073709551616; exact h)
 have h3:=b0h M
 have h4:2 ^(bl M-1)<=M:=bl_ge.1 (by omega)
 refine⟨?_,?_,h1,h2⟩
 ·have:2 ^(bl M-1)*2 ^(64-bl M)<=M*2 ^(64-bl M):=o9 _ h4
  rw [<- i7,show bl M-1+(64-bl M)=63 by omega] at this
  exact this
 ·have:M*2 ^(64-bl M) < 2 ^bl M*2 ^(64-bl M):=F8 h3 (p7 (by decide))
  rw [<- i7,show bl M+(64-bl M)=64 by omega] at this
  exact this
theorem m2r {X o p:Nat} {R:Bool} (hX:X < 18446744073709551616) (ho:64<=o+p) (_:o<=64) (hp:p<=53):biQ X o R<=9007199254740992:=by
 have h1:X/2 ^o < 2 ^p:=by
  rw [F6 (p7 (by decide)),<- i7]
  refine E3 (show X < 2 ^64 from hX) (w7 (by decide) (by omega))
 have h2:2 ^p<=2 ^53:=w7 (by decide) hp
 have h3:(2:Nat) ^53=9007199254740992:=by decide
 unfold biQ
 split <;> omega
theorem j1a {M:Nat} (h:bl M<=64):bzN (M:Int)=((64-bl M:Nat):Int):=by
 unfold bzN G9
 rw [i8,rA (by omega) (by omega)]
 omega
theorem t0q {M:Nat} (h0:0 < M) (h:M < 18446744073709551616):bzM (M:Int)=((biX M:Nat):Int):=by
 obtain⟨h1,h2,h3,h4⟩:=R6 h0 h
 unfold bzM
 rw [j1a h4,i8,show min (64-bl M) uI.bits=64-bl M from B2 (show 64-bl M<=64 by omega)]
 have e:(M:Int)*2 ^(64-bl M)=((biX M:Nat):Int):=by
  unfold biX
  rw [dE,fJ]
  rfl
 rw [e]
 exact w0r h2
section
variable {M:Nat} {E p l:Int}
theorem n2k (h0:0 < M) (h:M < 18446744073709551616) (hE: -1000000000000000000<=E∧E<=1000000000000000000) (hp:0<=p∧p<=53) (hl: -1074<=l∧l<=0):bzE E (M:Int)=biE M E∧bzU E (M:Int) p l=biU M E p l∧bzO E (M:Int) p l=biO M E p l:=by
 obtain⟨h1,h2,h3,h4⟩:=R6 h0 h
 have e1:bzE E (M:Int)=biE M E:=by
  unfold bzE biE
  rw [j1a h4,rA (by omega) (by omega)]
 have hb: -1000000000000000064<=biE M E∧biE M E<=1000000000000000000:=by unfold biE; omega
 have e2:bzU E (M:Int) p l=biU M E p l:=by
  unfold bzU biU
  rw [e1,rA (n:=biE M E+64) (by omega) (by omega),rA (n:=biE M E+64-p) (by omega) (by omega)]
 refine⟨e1,e2,?_⟩
 unfold bzO biO
 rw [e1,e2]
 have hu: -1074<=biU M E p l∧biU M E p l<=1000000000000000064:=by
  unfold biU
  split <;> omega
 exact rA (by omega) (by omega)
end
theorem p1h (a b q:Nat) (R:Bool):bUp (a:Int) (b:Int) (q:Int) R=(decide (b < a) || (decide (a=b) && (R || decide (q%2=1)))):=by
 have e1:decide ((a:Int) > (b:Int))=decide (b < a):=by
  by_cases h:b < a
  ·rw [d4 h]; exact d4 (by omega)
  ·rw [b8 h]; exact b8 (by omega)
 have e2:((a:Int)==(b:Int))=decide (a=b):=by
  by_cases h:a=b
  ·rw [d4 h,h]; exact jG _
  ·rw [b8 h]; exact x8 (by omega)
 have e3:(Int.tmod (q:Int) 2==1)=decide (q%2=1):=by
  have:Int.tmod (q:Int) 2=((q%2:Nat):Int):=rfl
  rw [this]
  by_cases h:q%2=1
  ·rw [d4 h,h]; rfl
  ·rw [b8 h]; exact x8 (by omega)
 unfold bUp
 rw [e1,e2,e3]
 cases decide (b < a) <;> cases decide (a=b) <;> cases R <;> rfl
theorem l2f:((2:Nat) ^63)=9223372036854775808:=by decide
theorem p2p:((2:Nat) ^64)=18446744073709551616:=by decide
theorem e1u {X:Nat} (hX:X < 18446744073709551616) (R:Bool):bUp (X:Int) 9223372036854775808 0 R=upT X 64 R:=by
 have h:=p1h X 9223372036854775808 0 R
 unfold upT
 rw [show 64-1=63 from rfl,l2f,p2p,H3 hX,uE hX]
 exact h
theorem d2u {o:Nat} (h:o<=63):(2:Nat) ^o < 18446744073709551616:=by
 have h1:2 ^o<=2 ^63:=w7 (by decide) h
 rw [l2f] at h1
 exact y4 h1 (by decide)
theorem v1o {M:Nat} {E p l:Int} {o:Nat} (h0:0 < M) (h:M < 18446744073709551616) (ho:bzO E (M:Int) p l=(o:Int)) (h1:1<=o) (h2:o<=63):
  bqQ E (M:Int) p l=((biX M/2 ^o:Nat):Int)∧bqL E (M:Int) p l=((biX M%2 ^o:Nat):Int)∧bqH E (M:Int) p l=((2 ^(o-1):Nat):Int):=by
 obtain⟨r1,r2,r3,r4⟩:=R6 h0 h
 have hmin:min o uI.bits=o:=B2 (show o<=64 by omega)
 have e1:bqQ E (M:Int) p l=((biX M/2 ^o:Nat):Int):=by
  unfold bqQ
  rw [t0q h0 h,ho,i8,hmin]
  have:=(l0o (biX M) (2 ^o)).symm
  rw [fJ] at this
  exact this
 refine⟨e1,?_,?_⟩
 ·unfold bqL
  rw [e1,t0q h0 h,ho,i8,hmin]
  have h3:((biX M/2 ^o:Nat):Int)*2 ^o=((biX M/2 ^o*2 ^o:Nat):Int):=by
   rw [dE,fJ]
   rfl
  have h4:biX M/2 ^o*2 ^o<=biX M:=Nat.div_mul_le_self _ _
  have h5:biX M/2 ^o*2 ^o+biX M%2 ^o=biX M:=Nat.div_add_mod' _ _
  generalize biX M/2 ^o*2 ^o=a at*
  generalize biX M%2 ^o=b at*
  rw [h3,w0r (by omega)]
  have h6:((biX M:Nat):Int)- (a:Int)=(b:Int):=by omega
  rw [h6]
  exact w0r (by omega)
 ·unfold bqH
  rw [ho,rA (by omega) (by omega)]
  have h3:((o:Int)-1).toNat=o-1:=by omega
  rw [h3,show min (o-1) uI.bits=o-1 from B2 (show o-1<=64 by omega),Int.one_mul]
  have:=w0r (d2u (o:=o-1) (by omega))
  rw [fJ] at this ⊢
  exact this
theorem n0w {c:UInt8} {r:List UInt8} (h:0 < hxd c):0 < hxN (c ::r):=by
 have key:∀ (l:List UInt8) (a:Nat),0 < a->0 < l.foldl (fun m c=>16*m+hxd c) a:=by
  intro l
  induction l with
  | nil=>intro a ha; exact ha
  | cons b q ih=>intro a ha; exact ih _ (show 0 < 16*a+hxd b by omega)
 exact key r _ (show 0 < 16*0+hxd c by omega)
theorem r0h {d:List UInt8} {e p l:Int} (hd:pX d) (hl:d.length<=140737488351232) (he: -100000000000000000<=e∧e<=100000000000000000) (hp:1<=p∧p<=53) (hlo: -1074<=l∧l<=0) (h0:0 < hxN (d.take 16)):
  Ev.Pure zO7 J0 82 [.string ⟨⟨d⟩⟩, .int .i64 e, .int .i64 p, .int .i64 l] (.float .f64 (biW (hxN (d.take 16)) ((d.drop 16).any fun c=>c !=48) (e+((4*(d.length-16):Nat):Int)) p l)):=by
 have hM:hxN (d.take 16) < 18446744073709551616:=by
  by_cases h:16<=d.length
  ·exact h0h hd 16 h
  ·have h1:=h0h hd d.length (d7 _)
   rw [aT (by omega)]
   rw [y5] at h1
   have:16 ^d.length<=16 ^16:=w7 (by decide) (by omega)
   exact E3 h1 this
 have hloop:=h2c (p:=p) (l:=l) hd hl (e:=e) ⟨by omega,by omega⟩
 obtain⟨E,hE⟩:∃ E,E=e+((4*(d.length-16):Nat):Int):=⟨_,rfl⟩
 have hEb: -1000000000000000000<=E∧E<=999999999999999000:=by omega
 rw [<- hE] at hloop ⊢
 generalize hxN (d.take 16)=M at*
 generalize (d.drop 16).any (fun c=>c !=48)=R at*
 obtain⟨r1,r2,r3,r4⟩:=R6 h0 hM
 obtain⟨b1,b2,b3⟩:=n2k (p:=p) (l:=l) h0 hM (E:=E) ⟨hEb.1,by omega⟩ ⟨by omega,hp.2⟩ hlo
 have hz:(0:Int)<=bzN (M:Int):=by rw [j1a r4]; exact y9 _
 have hm:(0:Int)<=(M:Int)∧(M:Int) < 18446744073709551616:=⟨y9 _,by omega⟩
 have hU: -1074<=biU M E p l∧biU M E p l<=1000000000000000000:=by
  unfold biU biE
  split <;> omega
 have hO:64-p<=biO M E p l:=by
  unfold biO biU
  split <;> omega
 by_cases c1:64 < biO M E p l
 ·have hW:biW M R E p l=0:=b9 c1
  rw [hW]
  exact d6 cN 10 _ _ (o2b d e p l E M R d.length) ⟨by rw [b3]; exact d4 c1,hz,hm,hloop _,a7⟩
 have hW:biW M R E p l=ldW (lY (biQ (biX M) (biO M E p l).toNat R)) (biU M E p l):=a6 c1
 rw [hW]
 obtain⟨o,ho⟩:=kK (show 0<=biO M E p l by omega)
 have ho2:bzO E (M:Int) p l=(o:Int):=by rw [b3]; exact ho
 have k1:decide (64 < bzO E (M:Int) p l)=false:=by rw [b3]; exact b8 c1
 have hQ:biQ (biX M) o R<=9007199254740992:=m2r (p:=p.toNat) r2 (by omega) (by omega) (by omega)
 rw [ho,i8]
 have hok:m1k (lY (biQ (biX M) o R)) (biU M E p l):=o1d hQ (.inr hU)
 by_cases c2:o=64
 ·subst c2
  have k2:decide (bzO E (M:Int) p l < 64)=false:=by rw [ho2]; exact b8 (by omega)
  have hq0:biX M/2 ^64=0:=uE (by rw [p2p]; exact r2)
  cases hup:upT (biX M) 64 R with
  | false=>
   have hq:biQ (biX M) 64 R=0:=by unfold biQ; rw [hup,a6 (by decide)]; exact hq0
   rw [hq,lG] at hok ⊢
   rw [<- b2] at hok ⊢
   exact d6 cN 10 _ _ (k2b d e p l E M R d.length) ⟨hok,by rw [t0q h0 hM,e1u r2]; exact hup,k2,k1,hz,hm,hloop _,a7⟩
  | true=>
   have hq:biQ (biX M) 64 R=1:=by unfold biQ; rw [hup,b9 rfl,hq0]
   have hn:FloatKind.f64.nearest 1=lY 1:=tB 1
   rw [hq,<- hn] at hok ⊢
   rw [<- b2] at hok ⊢
   exact d6 cN 10 _ _ (p2f d e p l E M R d.length) ⟨hok,by rw [t0q h0 hM,e1u r2]; exact hup,k2,k1,hz,hm,hloop _,a7⟩
 ·have k2:decide (bzO E (M:Int) p l < 64)=true:=by rw [ho2]; exact d4 (by omega)
  have k3:0<=bzO E (M:Int) p l:=by rw [ho2]; exact y9 _
  have k4:0<=iI.wrap (bzO E (M:Int) p l-1):=by rw [ho2,rA (by omega) (by omega)]; omega
  obtain⟨p1,p2,p3⟩:=v1o h0 hM ho2 (by omega) (by omega)
  have hU2:bUp (bqL E (M:Int) p l) (bqH E (M:Int) p l) (bqQ E (M:Int) p l) R=upT (biX M) o R:=by
   rw [p1,p2,p3]
   exact p1h _ _ _ _
  cases hup:upT (biX M) o R with
  | false=>
   have hq:biQ (biX M) o R=biX M/2 ^o:=by unfold biQ; rw [hup,a6 (by decide)]
   have hn:FloatKind.f64.nearest (bqQ E (M:Int) p l)=lY (biQ (biX M) o R):=by rw [hq,p1]; exact tB _
   rw [<- hn,<- b2] at hok ⊢
   exact d6 cN 10 _ _ (v2h d e p l E M R d.length) ⟨hok,by rw [hU2]; exact hup,k4,k3,k3,k2,k1,hz,hm,hloop _,a7⟩
  | true=>
   have hq:biQ (biX M) o R=biX M/2 ^o+1:=by unfold biQ; rw [hup,b9 rfl]
   have hb:biX M/2 ^o+1 < 18446744073709551616:=by
    rw [hq] at hQ
    exact y4 hQ (by decide)
   have hw:uI.wrap (bqQ E (M:Int) p l+1)=((biX M/2 ^o+1:Nat):Int):=by
    rw [p1]
    exact w0r hb
   have hn:FloatKind.f64.nearest (uI.wrap (bqQ E (M:Int) p l+1))=lY (biQ (biX M) o R):=by rw [hq,hw]; exact tB _
   rw [<- hn,<- b2] at hok ⊢
   exact d6 cN 10 _ _ (t2v d e p l E M R d.length) ⟨hok,by rw [hU2]; exact hup,k4,k3,k3,k2,k1,hz,hm,hloop _,a7⟩
def hxW (d:List UInt8) (e p l:Int):Nat:=biW (hxN (d.take 16)) ((d.drop 16).any fun c=>c !=48) (e+((4*(d.length-16):Nat):Int)) p l
def w2w (d:List UInt8) (e p l:Int):Prop:=pX d∧d.length<=140737488351232∧(-100000000000000000<=e∧e<=100000000000000000)∧(1<=p∧p<=53)∧(-1074<=l∧l<=0)∧0 < hxN (d.take 16)
def q0x:List Value->Option (Value×List Prop)
 | [.string ⟨⟨d⟩⟩, .int .i64 e, .int .i64 p, .int .i64 l] =>some (.float .f64 (hxW d e p l),[w2w d e p l])
 | _=>none
theorem c1d (args:List Value) (v:Value) (l:List Prop) (h:q0x args=some (v,l)) (hl:d9 l):Ev.Pure zO7 J0 82 args v:=by
 unfold q0x at h
 split at h
 ·cases h
  obtain⟨⟨h1,h2,h3,h4,h5,h6⟩,_⟩:=hl
  exact r0h h1 h2 h3 h4 h5 h6
 ·cases h
def m1v:Tab:=l5 82 q0x d1p
theorem l0d:Q0 zO7 J0 m1v:=b7 c1d m0i
def bRo7:Base:=⟨zO7,J0,false,m1v,gP,200,I6⟩
theorem i1t:BaseOk bRo7:=⟨progOk,l0d,Q4,m0⟩
abbrev x2f:Cx:=bRo7.cx 10
section
variable (hx:Bool) (d:List UInt8) (e n p l:Int) (f:FuncId) (r:Nat) (z:Int)
abbrev q2w (f:FuncId) (hx:Bool) (d:List UInt8) (e n p l:Int):List Arg:=[.c (.v (pcV hx d e n)),iR p,iR l, .c (.v (.func (.func f) ⟨[]⟩ ⟨[]⟩))]
theorem u2p:A7 x2f [] 200 38 (q2w f hx d e n p l) [xR r,iR z] [true] =some [(d3 d==([] :List UInt8))=true,(48:UInt8)=48,zO4 .f64 0=zO4 .f64 r,zO3 .i64 0=zO3 .i64 z] :=by kernel_rfl
theorem u2r:A7 x2f [] 200 38 (q2w f hx d e n p l) [xR r,iR z] [false,true] =some [w2w (d3 d) e p l,hx=true,(d3 d==([] :List UInt8))=false,(48:UInt8)=48,zO4 .f64 (hxW (d3 d) e p l)=zO4 .f64 r,zO3 .i64 0=zO3 .i64 z] :=by kernel_rfl
end
theorem x0h {f:FuncId} {d:List UInt8} {e n p l:Int} (hd:pX d) (hl:d.length<=140737488351232) (he: -100000000000000000<=e∧e<=100000000000000000) (hp:1<=p∧p<=53) (hlo: -1074<=l∧l<=0):
  Ev.Sem zO7 J0 38 (q2w f true d e n p l) [xR (if d3 d=[] then 0 else hxW (d3 d) e p l),iR 0] :=by
 by_cases h0:d3 d=[]
 ·rw [b9 h0]
  refine l6 i1t 10 _ _ (u2p true d e n p l f _ _) ?_
  rw [h0]
  exact⟨rfl,rfl,rfl,rfl,a7⟩
 ·rw [a6 h0]
  have hT:pX (d3 d):=fun c hc=>hd c (D6 hc)
  have hle:=B4 d
  have hpos:0 < hxN ((d3 d).take 16):=by
   cases hu:d3 d with
   | nil=>exact absurd hu h0
   | cons c r=>
    have hc:=M2 hu
    have hw:=hT c (by rw [hu]; exact X5)
    have hc2:0 < hxd c:=by
     have h48:c.toNat≠48:=fun h=>hc (zzA132.1 h)
     unfold hxd
     unfold t7 at hw ⊢
     split
     ·omega
     ·rename_i h1
      rw [a6 h1] at hw
      split
      ·omega
      ·rename_i h2
       rw [a6 h2] at hw
       split
       ·omega
       ·rename_i h3
        rw [a6 h3] at hw
        omega
    exact n0w hc2
  refine l6 i1t 10 _ _ (u2r true d e n p l f _ _) ?_
  exact⟨⟨hT,by omega,he,hp,hlo,hpos⟩,rfl,x8 h0,rfl,rfl,rfl,a7⟩
def l1w:Tab:=l5 78 qR (l5 79 kT m1v)
theorem h0t:Q0 zO7 J0 l1w:=b7 sQ (b7 pO l0d)
def bRp1:Base:=⟨zO7,J0,false,l1w,gP,200,I6⟩
theorem lU:BaseOk bRp1:=⟨progOk,h0t,Q4,m0⟩
abbrev j2a:Cx:=bRp1.cx 10
def e2c (t:List UInt8):Bool:=match ((fA (y7 t):Nat):Int)==0 with | true=>true | false=>((fA (y7 t):Nat):Int) !=(((y7 t).length:Nat):Int)
def rdF (t:List UInt8):Bool:=t==([78,97,78] :List UInt8)
def rdG (t:List UInt8):Bool:=y7 t==([73,110,102] :List UInt8)
def rdL (t:List UInt8):Bool:=decide (zO2 8192 < zO2 t.length)
abbrev rdR (n:Bool) (p:Value) (x:Nat) (i:Bool) (e:Int):Value:= .tuple ⟨[.bool n,p, .float .f64 x, .bool i, .int .i64 e]⟩
section
variable (t:List UInt8)
theorem f2i:b6 j2a [] 200 37 [.string ⟨⟨t⟩⟩] [true] =some (rdR false (pcV false [] 0 0) 0 false 2,[rdL t=true]):=by kernel_rfl
theorem k2s:b6 j2a [] 200 37 [.string ⟨⟨t⟩⟩] [false,true] =some (rdR false (pcV false [] 0 0) 9221120237041090560 true 0,[rdF t=true,rdL t=false]):=by kernel_rfl
theorem k2p:b6 j2a [] 200 37 [.string ⟨⟨t⟩⟩] [false,false,true,false] =some (rdR (wA t) (pcV false [] 0 0) 9218868437227405312 true 0,[wA t=false,rdG t=true,rdF t=false,rdL t=false]):=by kernel_rfl
theorem h2e:b6 j2a [] 200 37 [.string ⟨⟨t⟩⟩] [false,false,true,true] =some (rdR (wA t) (pcV false [] 0 0) 18442240474082181120 true 0,[wA t=true,rdG t=true,rdF t=false,rdL t=false]):=by kernel_rfl
theorem v2t:b6 j2a [] 200 37 [.string ⟨⟨t⟩⟩] [false,false,false,true] =some (rdR false (pcV (M3 (y7 t)) (aF (y7 t)) (eO (y7 t)) (fA (y7 t))) 0 false 3,[e2c t=true,(y7 t).length<=140737488351232,rdG t=false,rdF t=false,rdL t=false]):=by kernel_rfl
theorem m2u:b6 j2a [] 200 37 [.string ⟨⟨t⟩⟩] [false,false,false,false] =some (rdR (wA t) (pcV (M3 (y7 t)) (aF (y7 t)) (eO (y7 t)) (fA (y7 t))) 0 false 0,[e2c t=false,(y7 t).length<=140737488351232,rdG t=false,rdF t=false,rdL t=false]):=by kernel_rfl
end
def rdP (t:List UInt8):Bool:= !rdL t && !rdF t && !rdG t
def q2n (t:List UInt8):Bool:=rdP t && !e2c t
def rdN (t:List UInt8):Bool:=if q2n t || (!rdL t && !rdF t && rdG t) then wA t else false
def n0d (t:List UInt8):Bool:=if rdP t then M3 (y7 t) else false
def n0b (t:List UInt8):List UInt8:=if rdP t then aF (y7 t) else []
def n0i (t:List UInt8):Int:=if rdP t then eO (y7 t) else 0
def w2m (t:List UInt8):Int:=if rdP t then ((fA (y7 t):Nat):Int) else 0
def rdO (t:List UInt8):Nat:=if rdL t then 0 else if rdF t then 9221120237041090560 else if rdG t then (if wA t then 18442240474082181120 else 9218868437227405312) else 0
def rdI (t:List UInt8):Bool:= !rdL t && (rdF t || rdG t)
def rdE (t:List UInt8):Int:=if rdL t then 2 else if rdP t && e2c t then 3 else 0
theorem g0z (t:List UInt8):(y7 t).length<=t.length:=by
 unfold y7
 split
 ·rw [D5]; omega
 ·exact d7 _
theorem s1h (t:List UInt8):Ev.Pure zO7 J0 37 [.string ⟨⟨t⟩⟩] (rdR (rdN t) (pcV (n0d t) (n0b t) (n0i t) (w2m t)) (rdO t) (rdI t) (rdE t)):=by
 unfold rdN n0d n0b n0i w2m rdO rdI rdE q2n rdP
 cases h1:rdL t with
 | true=>exact d6 lU 10 _ _ (f2i t) ⟨h1,a7⟩
 | false=>
  cases h2:rdF t with
  | true=>exact d6 lU 10 _ _ (k2s t) ⟨h2,h1,a7⟩
  | false=>
   cases h3:rdG t with
   | true=>
    cases h4:wA t with
    | true=>
     have:=h2e t
     rw [h4] at this
     exact d6 lU 10 _ _ this ⟨rfl,h3,h2,h1,a7⟩
    | false=>
     have:=k2p t
     rw [h4] at this
     exact d6 lU 10 _ _ this ⟨rfl,h3,h2,h1,a7⟩
   | false=>
    have hl:(y7 t).length<=140737488351232:=by
     have:=g0z t
     have hL:=L4 h1
     have:t.length<=8192:=by
      have h9:¬((8192:Int) < (t.length:Int)):=hL
      omega
     omega
    cases h4:e2c t with
    | true=>exact d6 lU 10 _ _ (v2t t) ⟨h4,hl,h3,h2,h1,a7⟩
    | false=>exact d6 lU 10 _ _ (m2u t) ⟨h4,hl,h3,h2,h1,a7⟩
def o1n:List Value->Option (Value×List Prop)
 | [.string ⟨⟨t⟩⟩] =>some (rdR (rdN t) (pcV (n0d t) (n0b t) (n0i t) (w2m t)) (rdO t) (rdI t) (rdE t),[])
 | _=>none
theorem k1l (args:List Value) (v:Value) (l:List Prop) (h:o1n args=some (v,l)) (_:d9 l):Ev.Pure zO7 J0 37 args v:=by
 unfold o1n at h
 split at h
 ·cases h
  exact s1h _
 ·cases h
def e1m:Tab:=l5 37 o1n l1w
theorem l0z:Q0 zO7 J0 e1m:=b7 k1l h0t
def nrW (h:Bool) (d:List UInt8) (e:Int):Nat:=if h=true then (if d3 d=[] then 0 else hxW (d3 d) e 53 (-1074)) else neW d e
def nrE (h:Bool) (d:List UInt8) (e:Int):Int:=if h=true then 0 else neE d e
def q2i (h:Bool) (d:List UInt8) (e:Int):Prop:=d.length<=140737488351232∧(-100000000000000000<=e∧e<=100000000000000000)∧(if h=true then pX d else n8 d=true)
theorem q1c {h:Bool} {d:List UInt8} {e n:Int} (hk:q2i h d e):Ev.Sem zO7 J0 38 (g2o h d e n) [xR (nrW h d e),iR (nrE h d e)] :=by
 obtain⟨h1,h2,h3⟩:=hk
 unfold nrW nrE
 cases h with
 | true=>
  rw [b9 rfl] at h3
  rw [b9 rfl,b9 rfl]
  exact x0h h3 h1 h2 ⟨by decide,by decide⟩ ⟨by decide,by decide⟩
 | false=>
  rw [a6 (by decide)] at h3
  rw [a6 (by decide),a6 (by decide)]
  exact v1n h3 h1 ⟨by omega,by omega⟩
def d1u:List Arg->Option (List Arg×List Prop)
 | [.c (.v (.agg ⟨[.bool h, .string ⟨⟨d⟩⟩, .int .i64 e, .int .i64 _]⟩)), .c (.v (.int .i64 53)), .c (.v (.int .i64 (-1074))), .c (.v (.func (.func 39) ⟨[]⟩ ⟨[]⟩))] =>some ([xR (nrW h d e),iR (nrE h d e)],[q2i h d e])
 | _=>none
theorem k1z:∀ az rs l,d1u az=some (rs,l)->d9 l->Ev.Sem zO7 J0 38 az rs:=by
 intro az rs l h hl
 unfold d1u at h
 split at h
 ·cases h
  exact q1c hl.1
 ·cases h
def s0a:iG:=m4 38 (z6 [shV,shV,shV,shV] d1u) gP
theorem a0z:iD zO7 J0 s0a:=d8 (l7 _ k1z) Q4
def bRp2:Base:=⟨zO7,J0,false,e1m,s0a,200,I6⟩
theorem n1e:BaseOk bRp2:=⟨progOk,l0z,a0z,m0⟩
abbrev x2c:Cx:=bRp2.cx 10
def sgE (x:Nat):Nat:=(uI.wrap ↑(zO10 uI.bits (uI.wrap ↑(zO10 uI.bits ↑x&&& ~~~zO10 uI.bits 9223372036854775808).toNat)||| zO10 uI.bits (uI.wrap ↑(zO10 uI.bits 13830554455654793216&&& zO10 uI.bits 9223372036854775808).toNat)).toNat).toNat
theorem y2m (x:Nat):b6 x2c [] 200 42 [.float .f64 x, .bool true] [true] =some (.float .f64 (sgE x),[true=true]):=by kernel_rfl
theorem x2x (x:Nat):b6 x2c [] 200 42 [.float .f64 x, .bool false] [false] =some (.float .f64 x,[false=false]):=by kernel_rfl
def sgV (x:Nat) (g:Bool):Nat:=if g=true then sgE x else x
theorem h2g (x:Nat) (g:Bool):Ev.Pure zO7 J0 42 [.float .f64 x, .bool g] (.float .f64 (sgV x g)):=by
 cases g with
 | true=>exact d6 n1e 10 _ _ (y2m x) ⟨rfl,a7⟩
 | false=>exact d6 n1e 10 _ _ (x2x x) ⟨rfl,a7⟩
def n1s:List Value->Option (Value×List Prop)
 | [.float .f64 x, .bool g] =>some (.float .f64 (sgV x g),[])
 | _=>none
theorem m1e (args:List Value) (v:Value) (l:List Prop) (h:n1s args=some (v,l)) (_:d9 l):Ev.Pure zO7 J0 42 args v:=by
 unfold n1s at h
 split at h
 ·cases h
  exact h2g _ _
 ·cases h
def m1i:Tab:=l5 42 n1s e1m
theorem i0w:Q0 zO7 J0 m1i:=b7 m1e l0z
def bRp3:Base:=⟨zO7,J0,false,m1i,s0a,200,I6⟩
theorem f0n:BaseOk bRp3:=⟨progOk,i0w,a0z,m0⟩
abbrev q2q:Cx:=bRp3.cx 10
def paX (t:List UInt8):Nat:=nrW (n0d t) (n0b t) (n0i t)
def paZ (t:List UInt8):Int:=nrE (n0d t) (n0b t) (n0i t)
def paO (t:List UInt8):Prop:=q2i (n0d t) (n0b t) (n0i t)
def paB (t:List UInt8):Bool:=match rdE t !=0 with | true=>true | false=>rdI t
def paI (t:List UInt8):Bool:=match paZ t==0 with | true=>gtL (k2h (paX t)) 9218868437227405311 | false=>false
section
variable (t:List UInt8) (r:Nat) (z:Int)
abbrev tA (t:List UInt8):List Arg:=[.c (.v (.string ⟨⟨t⟩⟩))]
theorem a3y:A7 q2q [] 200 10 (tA t) [xR r,iR z] [true] =some [paB t=true,zO4 .f64 (rdO t)=zO4 .f64 r,zO3 .i64 (rdE t)=zO3 .i64 z] :=by kernel_rfl
theorem z2r:A7 q2q [] 200 10 (tA t) [xR r,iR z] [false,true,true] =some [true=true,paI t=true,paO t,paB t=false,zO4 .f64 0=zO4 .f64 r,zO3 .i64 15=zO3 .i64 z] :=by kernel_rfl
theorem y2t:A7 q2q [] 200 10 (tA t) [xR r,iR z] [false,false,true] =some [(paZ t !=0)=true,paI t=false,paO t,paB t=false,zO4 .f64 0=zO4 .f64 r,zO3 .i64 (paZ t)=zO3 .i64 z] :=by kernel_rfl
theorem z2a:A7 q2q [] 200 10 (tA t) [xR r,iR z] [false,false,false] =some [(paZ t !=0)=false,paI t=false,paO t,paB t=false,zO4 .f64 (sgV (paX t) (rdN t))=zO4 .f64 r,zO3 .i64 0=zO3 .i64 z] :=by kernel_rfl
end
def paW (t:List UInt8):Nat:=if paB t=true then rdO t else if paI t=true then 0 else if paZ t≠0 then 0 else sgV (paX t) (rdN t)
def paE (t:List UInt8):Int:=if paB t=true then rdE t else if paI t=true then 15 else paZ t
theorem k0j {t:List UInt8} (h:paB t=false->paO t):Ev.Sem zO7 J0 10 (tA t) [xR (paW t),iR (paE t)] :=by
 cases h1:paB t with
 | true=>
  have e1:paW t=rdO t:=by unfold paW; rw [h1]; exact b9 rfl
  have e2:paE t=rdE t:=by unfold paE; rw [h1]; exact b9 rfl
  rw [e1,e2]
  exact l6 f0n 10 _ _ (a3y t _ _) ⟨h1,rfl,rfl,a7⟩
 | false=>
  have ho:=h h1
  have n1:¬paB t=true:=by rw [h1]; decide
  cases h2:paI t with
  | true=>
   have e1:paW t=0:=by unfold paW; rw [a6 n1,b9 h2]
   have e2:paE t=15:=by unfold paE; rw [a6 n1,b9 h2]
   rw [e1,e2]
   exact l6 f0n 10 _ _ (z2r t _ _) ⟨rfl,h2,ho,h1,rfl,rfl,a7⟩
  | false=>
   have n2:¬paI t=true:=by rw [h2]; decide
   by_cases h3:paZ t=0
   ·have n3:¬paZ t≠0:=fun k=>k h3
    have e1:paW t=sgV (paX t) (rdN t):=by unfold paW; rw [a6 n1,a6 n2,a6 n3]
    have e2:paE t=0:=by unfold paE; rw [a6 n1,a6 n2,h3]
    rw [e1,e2]
    exact l6 f0n 10 _ _ (z2a t _ _) ⟨by rw [h3]; rfl,h2,ho,h1,rfl,rfl,a7⟩
   ·have e1:paW t=0:=by unfold paW; rw [a6 n1,a6 n2,b9 h3]
    have e2:paE t=paZ t:=by unfold paE; rw [a6 n1,a6 n2]
    rw [e1,e2]
    exact l6 f0n 10 _ _ (y2t t _ _) ⟨zzA216.2 h3,h2,ho,h1,rfl,rfl,a7⟩
theorem u0f (t:List UInt8) (b:Int):∀ (f k:Nat) (p:Int),0<=p->(mR t b f k p).1=p
 | 0,_,_,_=>rfl
 | f+1,k,p,hp=>by
  unfold mR
  have hd:w1h t k p=false:=by
   unfold w1h
   split
   ·exact b8 (by omega)
   ·rfl
  rw [hd]
  split
  ·exact u0f t b f (k+1) p hp
  ·rfl
theorem f0g (t:List UInt8) (b:Int):∀ (f k:Nat) (p:Int) (i:Nat),k<=i->i < (mR t b f k p).2->t7 (chI t (i:Int)) < b∨(i:Int)=(mR t b f k p).1
 | 0,k,p,i,h1,h2=>absurd (show i < k from h2) (by omega)
 | f+1,k,p,i,h1,h2=>by
  unfold mR at h2 ⊢
  by_cases hw:t7 (chI t (k:Int)) < b
  ·rw [b9 hw] at h2 ⊢
   rcases Nat.eq_or_lt_of_le h1 with h | h
   ·subst h; exact .inl hw
   ·exact f0g t b f (k+1) p i h h2
  ·rw [a6 hw] at h2 ⊢
   by_cases hd:w1h t k p=true
   ·rw [b9 hd] at h2 ⊢
    rcases Nat.eq_or_lt_of_le h1 with h | h
    ·subst h
     exact .inr (u0f t b f (k+1) k (y9 _)).symm
    ·exact f0g t b f (k+1) k i h h2
   ·rw [a6 hd] at h2
    exact absurd (show i < k from h2) (by omega)
theorem c0d {t:List UInt8} {a E:Nat} {c:UInt8} (h:c∈(t.take E).drop a):∃ i,a<=i∧i < E∧∃ hi:i < t.length,t[i] =c:=by
 obtain⟨j,hj,rfl⟩:=List.mem_iff_getElem.1 h
 rw [D5,A9] at hj
 refine⟨a+j,by omega,by omega,by omega,?_⟩
 rw [List.getElem_drop,List.getElem_take]
theorem k1h {t:List UInt8} {a:Nat} {b:Int} {c:UInt8} (h:c∈maS t a b):t7 (c.toNat:Int) < b:=by
 have key:∀ i,a<=i->i < maE t a b->(i:Int)≠maP t a b->∀ hi:i < t.length,t7 ((t[i].toNat:Nat):Int) < b:=by
  intro i h1 h2 h3 hi
  unfold maE at h2
  unfold maP at h3
  have:=(f0g t b (t.length-a) a (-1) i h1 h2).resolve_right h3
  rw [r0b hi] at this
  exact this
 unfold maS at h
 split at h
 ·rename_i hp
  obtain⟨i,h1,h2,hi,rfl⟩:=c0d h
  exact key i h1 h2 (by omega) hi
 ·rename_i hp
  rcases zzA92.1 h with h | h
  ·obtain⟨i,h1,h2,hi,rfl⟩:=c0d h
   by_cases hE:i < maE t a b
   ·exact key i h1 hE (by omega) hi
   ·exfalso
    have:=(jC t b (t.length-a) a (-1) (by omega) (by omega)).2.2.2
    unfold maE at hE
    unfold maP at h2 hp
    omega
  ·obtain⟨i,h1,h2,hi,rfl⟩:=c0d h
   by_cases hA:a<=i
   ·exact key i hA h2 (by omega) hi
   ·exfalso
    by_cases ha:a<=t.length
    ·have:=(c0s (b:=b) ha).2.2.1
     omega
    ·have:maP t a b= -1:=by
      unfold maP
      rw [show t.length-a=0 by omega]
      rfl
     omega
theorem e2a {c:UInt8} (h:t7 (c.toNat:Int) < 10):48<=c.toNat∧c.toNat<=57:=by
 unfold t7 at h
 split at h
 ·omega
 ·split at h
  ·omega
  ·split at h <;> omega
theorem l1m (t:List UInt8) (a:Nat) (b:Int):(maS t a b).length<=2*t.length:=by
 unfold maS
 split
 ·rw [D5,A9]; omega
 ·rw [s9,D5,A9,D5,A9]; omega
theorem m1q {t:List UInt8} (h:M3 t=true):pX (aF t):=by
 intro c hc
 unfold aF at hc
 rw [b9 h] at hc
 exact k1h hc
theorem k1d {t:List UInt8} (h:M3 t=false):n8 (aF t)=true:=by
 refine allDB_mem.2 fun c hc=> ?_
 unfold aF at hc
 rw [a6 (by rw [h]; decide)] at hc
 exact e2a (k1h hc)
theorem f1i {t:List UInt8} {a:Nat} {b:Int} :0<=maB t a b∧maB t a b<=(t.length:Int):=by
 by_cases ha:a<=t.length
 ·exact vG ha
 ·have:maP t a b= -1:=by
   unfold maP
   rw [show t.length-a=0 by omega]
   rfl
  unfold maB
  rw [b9 (by omega)]
  omega
theorem p0s (t:List UInt8): -1073741824-4*(t.length:Int)<=eO t∧eO t<=1073741824:=by
 have h1:=f1i (t:=t) (a:=2) (b:=16)
 have h2:=f1i (t:=t) (a:=0) (b:=10)
 have h3:=jH t pP (maE t 2 16)
 have h4:=jH t eE (maE t 0 10)
 unfold eO
 split
 ·omega
 ·split
  ·omega
  ·omega
theorem k2t {t:List UInt8} (h:paB t=false):paO t:=by
 unfold paB at h
 cases hE:(rdE t !=0) with
 | true=>rw [hE] at h; cases h
 | false=>
  rw [hE] at h
  have hI:rdI t=false:=h
  have hE2:rdE t=0:=by
   have:=hE
   rw [bne,Bool.not_eq_false'] at this
   exact eq_of_beq this
  cases h1:rdL t with
  | true=>
   unfold rdE at hE2
   rw [h1] at hE2
   cases hE2
  | false=>
   unfold rdI at hI
   rw [h1] at hI
   cases h2:rdF t with
   | true=>rw [h2] at hI; cases hI
   | false=>
    cases h3:rdG t with
    | true=>rw [h2,h3] at hI; cases hI
    | false=>
     have hP:rdP t=true:=by unfold rdP; rw [h1,h2,h3]; rfl
     have hlen:t.length<=8192:=by
      have hL:=L4 h1
      have h9:¬((8192:Int) < (t.length:Int)):=hL
      omega
     have hr:=g0z t
     have hx:=p0s (y7 t)
     have hs:(aF (y7 t)).length<=2*(y7 t).length:=by
      unfold aF
      split
      ·exact l1m _ _ _
      ·exact l1m _ _ _
     have e1:n0d t=M3 (y7 t):=by unfold n0d; exact b9 hP
     have e2:n0b t=aF (y7 t):=by unfold n0b; exact b9 hP
     have e3:n0i t=eO (y7 t):=by unfold n0i; exact b9 hP
     unfold paO q2i
     rw [e1,e2,e3]
     refine⟨by omega,⟨by omega,by omega⟩,?_⟩
     cases hH:M3 (y7 t) with
     | true=>rw [b9 rfl]; exact m1q hH
     | false=>rw [a6 (by decide)]; exact k1d hH
theorem i0b (t:List UInt8):Ev.Sem zO7 J0 10 (tA t) [xR (paW t),iR (paE t)] :=k0j k2t
theorem d1o {x:Nat} (hx:x < 18446744073709551616):(zO10 uI.bits (x:Int)).toNat=x:=by
 show (zO10 64 (x:Int)).toNat=x
 rw [pG,oJ]
 exact H3 hx
theorem z1p {x:Nat} (hx:x < 9223372036854775808):sgE x=x+9223372036854775808:=by
 unfold sgE
 have h3:(zO10 uI.bits (x:Int)&&& ~~~zO10 uI.bits 9223372036854775808).toNat=x:=by
  rw [bV,d1o (by omega),show (~~~zO10 uI.bits 9223372036854775808).toNat=2 ^63-1 by decide]
  have:=W2 x 63
  rw [this]
  exact H3 hx
 have hm:x < 2 ^63:=hx
 have h5:(zO10 uI.bits 13830554455654793216&&& zO10 uI.bits 9223372036854775808).toNat=9223372036854775808:=by decide
 rw [h3,w0r (n:=x) (by omega),h5]
 have h6:(zO10 uI.bits ((x:Nat):Int)||| zO10 uI.bits (uI.wrap ((9223372036854775808:Nat):Int))).toNat=x+9223372036854775808:=by
  rw [h0d,d1o (by omega),show (zO10 uI.bits (uI.wrap ((9223372036854775808:Nat):Int))).toNat=2 ^63*1 by decide,Nat.or_comm,<- m0q hm]
  omega
 rw [h6,w0r (by omega),i8]
end Go.Proofs.YtbdaebagmmmijaaGreatDoor
namespace Go.Proofs.YtbdaebagmmmijaaGreatDoor
open Go Go.RowKit Ev Wd
section
variable (F:Nat->Int) (n o:Nat) (m:Int) (ns:List Int) (k j i:Nat)
def nB (k:Nat):Bool:=(k:Int)==0
end
section
variable {F:Nat->Int} {n o:Nat} {m:Nat} (hF:∀ i,i < n->0<=F i∧F i < 256) (hm:m<=1000)
include hF hm in
end
section
variable (F:Nat->Int) (n o:Nat) (l:List UInt8) (hl:l.length<=1000)
include hl
end
def dgU (n:Nat):UInt8:=UInt8.ofNat (48+n)
def inF:Nat->Nat->List UInt8
 | 0,n=>[dgU n]
 | f+1,n=>if n < 10 then [dgU n] else inF f (n/10)++[dgU (n%10)]
def zD (n:Nat):List UInt8:=inF n n
def V9 (e:Int):List UInt8:=if e < 0 then 45 ::zD (-e).toNat else zD e.toNat
theorem y0k:∀ (f g n:Nat),n<=f->n<=g->inF f n=inF g n
 | 0,0,n,_,_=>rfl
 | 0,g+1,n,h,_=>by
  obtain rfl:n=0:=by omega
  rfl
 | f+1,0,n,_,h=>by
  obtain rfl:n=0:=by omega
  rfl
 | f+1,g+1,n,h1,h2=>by
  unfold inF
  by_cases h:n < 10
  ·rw [b9 h,b9 h]
  ·rw [a6 h,a6 h,y0k f g (n/10) (by omega) (by omega)]
theorem p1a (n:Nat):zD n=if n < 10 then [dgU n] else zD (n/10)++[dgU (n%10)] :=by
 unfold zD
 by_cases h:n < 10
 ·rw [b9 h]
  cases n with
  | zero=>rfl
  | succ n=>unfold inF; rw [b9 h]
 ·rw [a6 h]
  cases n with
  | zero=>omega
  | succ n=>
   rw [show inF (n+1) (n+1)=inF n ((n+1)/10)++[dgU ((n+1)%10)] from by
    conv=>lhs; unfold inF
    rw [a6 h]]
   rw [y0k n ((n+1)/10) ((n+1)/10) (by omega) (d7 _)]
theorem f1r:∀ f n,(inF f n).length<=f+1
 | 0,_=>d7 _
 | f+1,n=>by
  unfold inF
  split
  ·simp
  ·rw [s9]
   have:=f1r f (n/10)
   simp
   omega
theorem w0z (n:Nat):(zD n).length<=n+1:=f1r n n
section
variable (B e:Int)
end
section
variable (e m:Int)
end
end Go.Proofs.YtbdaebagmmmijaaGreatDoor
